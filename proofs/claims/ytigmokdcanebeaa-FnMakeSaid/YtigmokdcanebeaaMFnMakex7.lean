-- Written by a program of this session, out of Lean's print of the translation. Not trusted: Lean checks it.
import Derived.Test.YtigmokdcanebeaaMFnMakex0
import Derived.Test.YtigmokdcanebeaaMFnMakex1
import Derived.Test.YtigmokdcanebeaaMFnMakex2
import Derived.Test.YtigmokdcanebeaaMFnMakex3
import Derived.Test.YtigmokdcanebeaaMFnMakex5
import Derived.Test.YtigmokdcanebeaaMFnMakex6
namespace Go.Proofs.Ytigmokdcanebeaa.MFnMake
open Go.RowKit Go.Proofs.YtigmokdcanebeaaW.PrintWords Go.Proofs.YtigmokdcanebeaaW.PrintLast Go.Proofs.YtigmokdcanebeaaW.PrintMore
attribute [local go_sem] max2_int min2_int max_two min_two max_three min_three max_four min_four   -- for this text's walks alone
set_option linter.unusedVariables false
set_option linter.unusedSimpArgs false

section
open Go.Proofs.Ytigmokdcanebeaa.Short2.T
abbrev laws_FnMake.bl0 : Array Bool := #[f, f, f, f, f, f, f, f, f, f, f, f, f, f, f, f, f, f, f, f, f, f, f, f, f, f, f, f, f, f, f, f, f, f, f, f]
abbrev laws_FnMake.bl1 : Array Bool := #[t, f, f, f, f, f, f, f, f, f, f, f, f, f, f, f, f, f, f, f, f, f, f, f, f, f, f, f, f, f, f, f, f, f, f, f]
abbrev laws_FnMake.bl2 : Array Bool := #[t, t, f, f, f, f, f, f, f, f, f, f, f, f, f, f, f, f, f, f, f, f, f, f, f, f, f, f, f, f, f, f, f, f, f, f]
abbrev laws_FnMake.bl3 : Array Bool := #[t, t, t, f, f, f, f, f, f, f, f, f, f, f, f, f, f, f, f, f, f, f, f, f, f, f, f, f, f, f, f, f, f, f, f, f]
abbrev laws_FnMake.bl4 : Array Bool := #[t, t, t, t, f, f, f, f, f, f, f, f, f, f, f, f, f, f, f, f, f, f, f, f, f, f, f, f, f, f, f, f, f, f, f, f]
abbrev laws_FnMake.bl5 : Array Bool := #[t, t, t, t, t, f, f, f, f, f, f, f, f, f, f, f, f, f, f, f, f, f, f, f, f, f, f, f, f, f, f, f, f, f, f, f]
abbrev laws_FnMake.bl6 : Array Bool := #[t, t, t, t, t, t, f, f, f, f, f, f, f, f, f, f, f, f, f, f, f, f, f, f, f, f, f, f, f, f, f, f, f, f, f, f]
abbrev laws_FnMake.bl7 : Array Bool := #[t, t, t, t, t, t, t, f, f, f, f, f, f, f, f, f, f, f, f, f, f, f, f, f, f, f, f, f, f, f, f, f, f, f, f, f]
abbrev laws_FnMake.bl8 : Array Bool := #[t, t, t, t, t, t, t, t, f, f, f, f, f, f, f, f, f, f, f, f, f, f, f, f, f, f, f, f, f, f, f, f, f, f, f, f]
abbrev laws_FnMake.bl9 : Array Bool := #[t, t, t, t, t, t, t, t, t, f, f, f, f, f, f, f, f, f, f, f, f, f, f, f, f, f, f, f, f, f, f, f, f, f, f, f]
abbrev laws_FnMake.bl10 : Array Bool := #[t, t, t, t, t, t, t, t, t, t, f, f, f, f, f, f, f, f, f, f, f, f, f, f, f, f, f, f, f, f, f, f, f, f, f, f]
abbrev laws_FnMake.bl11 : Array Bool := #[t, t, t, t, t, t, t, t, t, t, t, f, f, f, f, f, f, f, f, f, f, f, f, f, f, f, f, f, f, f, f, f, f, f, f, f]
abbrev laws_FnMake.bl12 : Array Bool := #[t, t, t, t, t, t, t, t, t, t, t, t, f, f, f, f, f, f, f, f, f, f, f, f, f, f, f, f, f, f, f, f, f, f, f, f]
abbrev laws_FnMake.bl13 : Array Bool := #[t, t, t, t, t, t, t, t, t, t, t, t, t, f, f, f, f, f, f, f, f, f, f, f, f, f, f, f, f, f, f, f, f, f, f, f]
abbrev laws_FnMake.bl14 : Array Bool := #[t, t, t, t, t, t, t, t, t, t, t, t, t, t, f, f, f, f, f, f, f, f, f, f, f, f, f, f, f, f, f, f, f, f, f, f]
abbrev laws_FnMake.bl15 : Array Bool := #[t, t, t, t, t, t, t, t, t, t, t, t, t, t, t, f, f, f, f, f, f, f, f, f, f, f, f, f, f, f, f, f, f, f, f, f]
abbrev laws_FnMake.bl16 : Array Bool := #[t, t, t, t, t, t, t, t, t, t, t, t, t, t, t, t, f, f, f, f, f, f, f, f, f, f, f, f, f, f, f, f, f, f, f, f]
abbrev laws_FnMake.bl17 : Array Bool := #[t, t, t, t, t, t, t, t, t, t, t, t, t, t, t, t, t, f, f, f, f, f, f, f, f, f, f, f, f, f, f, f, f, f, f, f]
abbrev laws_FnMake.bl18 : Array Bool := #[t, t, t, t, t, t, t, t, t, t, t, t, t, t, t, t, t, t, f, f, f, f, f, f, f, f, f, f, f, f, f, f, f, f, f, f]
abbrev laws_FnMake.bl19 : Array Bool := #[t, t, t, t, t, t, t, t, t, t, t, t, t, t, t, t, t, t, t, f, f, f, f, f, f, f, f, f, f, f, f, f, f, f, f, f]
abbrev laws_FnMake.bl20 : Array Bool := #[t, t, t, t, t, t, t, t, t, t, t, t, t, t, t, t, t, t, t, t, f, f, f, f, f, f, f, f, f, f, f, f, f, f, f, f]
abbrev laws_FnMake.bl21 : Array Bool := #[t, t, t, t, t, t, t, t, t, t, t, t, t, t, t, t, t, t, t, t, t, f, f, f, f, f, f, f, f, f, f, f, f, f, f, f]
abbrev laws_FnMake.bl22 : Array Bool := #[t, t, t, t, t, t, t, t, t, t, t, t, t, t, t, t, t, t, t, t, t, t, f, f, f, f, f, f, f, f, f, f, f, f, f, f]
abbrev laws_FnMake.bl23 : Array Bool := #[t, t, t, t, t, t, t, t, t, t, t, t, t, t, t, t, t, t, t, t, t, t, t, f, f, f, f, f, f, f, f, f, f, f, f, f]
abbrev laws_FnMake.bl24 : Array Bool := #[t, t, t, t, t, t, t, t, t, t, t, t, t, t, t, t, t, t, t, t, t, t, t, t, f, f, f, f, f, f, f, f, f, f, f, f]
abbrev laws_FnMake.bl25 : Array Bool := #[t, t, t, t, t, t, t, t, t, t, t, t, t, t, t, t, t, t, t, t, t, t, t, t, t, f, f, f, f, f, f, f, f, f, f, f]
abbrev laws_FnMake.bl26 : Array Bool := #[t, t, t, t, t, t, t, t, t, t, t, t, t, t, t, t, t, t, t, t, t, t, t, t, t, t, f, f, f, f, f, f, f, f, f, f]
abbrev laws_FnMake.bl27 : Array Bool := #[t, t, t, t, t, t, t, t, t, t, t, t, t, t, t, t, t, t, t, t, t, t, t, t, t, t, t, f, f, f, f, f, f, f, f, f]
abbrev laws_FnMake.bl28 : Array Bool := #[t, t, t, t, t, t, t, t, t, t, t, t, t, t, t, t, t, t, t, t, t, t, t, t, t, t, t, t, f, f, f, f, f, f, f, f]
abbrev laws_FnMake.bl29 : Array Bool := #[t, t, t, t, t, t, t, t, t, t, t, t, t, t, t, t, t, t, t, t, t, t, t, t, t, t, t, t, t, f, f, f, f, f, f, f]
abbrev laws_FnMake.bl30 : Array Bool := #[t, t, t, t, t, t, t, t, t, t, t, t, t, t, t, t, t, t, t, t, t, t, t, t, t, t, t, t, t, t, f, f, f, f, f, f]
abbrev laws_FnMake.bl31 : Array Bool := #[t, t, t, t, t, t, t, t, t, t, t, t, t, t, t, t, t, t, t, t, t, t, t, t, t, t, t, t, t, t, t, f, f, f, f, f]
abbrev laws_FnMake.bl32 : Array Bool := #[t, t, t, t, t, t, t, t, t, t, t, t, t, t, t, t, t, t, t, t, t, t, t, t, t, t, t, t, t, t, t, t, f, f, f, f]
abbrev laws_FnMake.bl33 : Array Bool := #[t, t, t, t, t, t, t, t, t, t, t, t, t, t, t, t, t, t, t, t, t, t, t, t, t, t, t, t, t, t, t, t, t, f, f, f]
abbrev laws_FnMake.bl34 : Array Bool := #[t, t, t, t, t, t, t, t, t, t, t, t, t, t, t, t, t, t, t, t, t, t, t, t, t, t, t, t, t, t, t, t, t, t, f, f]
abbrev laws_FnMake.bl35 : Array Bool := #[t, t, t, t, t, t, t, t, t, t, t, t, t, t, t, t, t, t, t, t, t, t, t, t, t, t, t, t, t, t, t, t, t, t, t, f]
abbrev laws_FnMake.bl36 : Array Bool := #[t, t, t, t, t, t, t, t, t, t, t, t, t, t, t, t, t, t, t, t, t, t, t, t, t, t, t, t, t, t, t, t, t, t, t, t]
abbrev laws_FnMake.bl37 : Array Bool := #[t, t, t, f, t, f, f, f, f, f, f, f, f, f, f, f, f, f, f, f, f, f, f, f, f, f, f, f, f, f, f, f, f, f, f, f]
abbrev laws_FnMake.bl38 : Array Bool := #[t, t, t, f, t, t, f, f, f, f, f, f, f, f, f, f, f, f, f, f, f, f, f, f, f, f, f, f, f, f, f, f, f, f, f, f]
abbrev laws_FnMake.bl39 : Array Bool := #[t, t, t, f, t, t, t, f, f, f, f, f, f, f, f, f, f, f, f, f, f, f, f, f, f, f, f, f, f, f, f, f, f, f, f, f]
abbrev laws_FnMake.bl40 : Array Bool := #[t, t, t, f, t, t, t, t, f, f, f, f, f, f, f, f, f, f, f, f, f, f, f, f, f, f, f, f, f, f, f, f, f, f, f, f]
abbrev laws_FnMake.bl41 : Array Bool := #[t, t, t, t, t, t, t, t, t, t, t, t, f, t, f, f, f, f, f, f, f, f, f, f, f, f, f, f, f, f, f, f, f, f, f, f]
abbrev laws_FnMake.bl42 : Array Bool := #[t, t, t, t, t, t, t, t, t, t, t, t, f, t, t, f, f, f, f, f, f, f, f, f, f, f, f, f, f, f, f, f, f, f, f, f]
abbrev laws_FnMake.bl43 : Array Bool := #[t, t, t, t, t, t, t, t, t, t, t, t, f, t, t, t, f, f, f, f, f, f, f, f, f, f, f, f, f, f, f, f, f, f, f, f]
abbrev laws_FnMake.bl44 : Array Bool := #[t, t, t, t, t, t, t, t, t, t, t, t, f, t, t, t, t, f, f, f, f, f, f, f, f, f, f, f, f, f, f, f, f, f, f, f]
abbrev laws_FnMake.bl45 : Array Bool := #[t, t, t, t, t, t, t, t, t, t, t, t, t, t, t, t, t, t, t, t, t, t, f, t, f, f, f, f, f, f, f, f, f, f, f, f]
abbrev laws_FnMake.bl46 : Array Bool := #[t, t, t, t, t, t, t, t, t, t, t, t, t, t, t, t, t, t, t, t, t, t, f, t, t, f, f, f, f, f, f, f, f, f, f, f]
abbrev laws_FnMake.bl47 : Array Bool := #[t, t, t, t, t, t, t, t, t, t, t, t, t, t, t, t, t, t, t, t, t, t, f, t, t, t, f, f, f, f, f, f, f, f, f, f]
abbrev laws_FnMake.bl48 : Array Bool := #[t, t, t, t, t, t, t, t, t, t, t, t, t, t, t, t, t, t, t, t, t, t, f, t, t, t, t, f, f, f, f, f, f, f, f, f]
abbrev laws_FnMake.bl49 : Array Bool := #[f, f, f, f, f, f, f, f, f, f, f, f, f, f, f, f, f, f, f, f, f, f]
abbrev laws_FnMake.bl50 : Array Bool := #[f, t, f, f, f, f, f, f, f, f, f, f, f, f, f, f, f, f, f, f, f, f]
abbrev laws_FnMake.bl51 : Array Bool := #[f, t, t, f, f, f, f, f, f, f, f, f, f, f, f, f, f, f, f, f, f, f]
abbrev laws_FnMake.bl52 : Array Bool := #[f, t, t, t, f, f, f, f, f, f, f, f, f, f, f, f, f, f, f, f, f, f]
abbrev laws_FnMake.bl53 : Array Bool := #[f, t, t, t, t, f, f, f, f, f, f, f, f, f, f, f, f, f, f, f, f, f]
abbrev laws_FnMake.bl54 : Array Bool := #[f, t, t, t, t, f, t, f, f, f, f, f, f, f, f, f, f, f, f, f, f, f]
abbrev laws_FnMake.bl55 : Array Bool := #[f, t, t, t, t, f, t, t, f, f, f, f, f, f, f, f, f, f, f, f, f, f]
abbrev laws_FnMake.bl56 : Array Bool := #[f, t, t, t, t, f, t, t, t, f, f, f, f, f, f, f, f, f, f, f, f, f]
abbrev laws_FnMake.bl57 : Array Bool := #[f, t, t, t, t, f, t, t, t, t, f, f, f, f, f, f, f, f, f, f, f, f]
abbrev laws_FnMake.bl58 : Array Bool := #[f, t, t, t, t, f, t, t, t, t, f, t, f, f, f, f, f, f, f, f, f, f]
abbrev laws_FnMake.bl59 : Array Bool := #[f, t, t, t, t, f, t, t, t, t, f, t, t, f, f, f, f, f, f, f, f, f]
abbrev laws_FnMake.bl60 : Array Bool := #[f, t, t, t, t, f, t, t, t, t, f, t, t, t, f, f, f, f, f, f, f, f]
abbrev laws_FnMake.bl61 : Array Bool := #[f, t, t, t, t, f, t, t, t, t, f, t, t, t, t, f, f, f, f, f, f, f]
abbrev laws_FnMake.bl62 : Array Bool := #[t, t, t, t, t, f, t, t, t, t, f, t, t, t, t, f, f, f, f, f, f, f]
abbrev laws_FnMake.bl63 : Array Bool := #[t, t, t, t, t, t, t, t, t, t, f, t, t, t, t, f, f, f, f, f, f, f]
abbrev laws_FnMake.bl64 : Array Bool := #[t, t, t, t, t, t, t, t, t, t, t, t, t, t, t, f, f, f, f, f, f, f]
abbrev laws_FnMake.bl65 : Array Bool := #[t, t, t, t, t, t, t, t, t, t, t, t, t, t, t, t, f, f, f, f, f, f]
abbrev laws_FnMake.bl66 : Array Bool := #[t, t, t, t, t, t, t, t, t, t, t, t, t, t, t, t, t, f, f, f, f, f]
abbrev laws_FnMake.bl67 : Array Bool := #[t, t, t, t, t, t, t, t, t, t, t, t, t, t, t, t, t, t, f, f, f, f]
abbrev laws_FnMake.bl68 : Array Bool := #[t, t, t, t, t, t, t, t, t, t, t, t, t, t, t, t, t, t, t, f, f, f]
abbrev laws_FnMake.bl69 : Array Bool := #[t, t, t, t, t, t, t, t, t, t, t, t, t, t, t, t, t, t, t, t, f, f]
abbrev laws_FnMake.bl70 : Array Bool := #[t, t, t, t, t, t, t, t, t, t, t, t, t, t, t, t, t, t, t, t, t, f]
abbrev laws_FnMake.bl71 : Array Bool := #[t, t, t, t, t, t, t, t, t, t, t, t, t, t, t, t, t, t, t, t, t, t]
end
/-! ### laws_FnMake: function 3 -/
mutual
def laws_FnMake.j0 : Nat → List (S33) → Bool → Int → Int → Int → List (S33) → Option (Bool)
 | 0, _, _, _, _, _, _ => none
 | k + 1, x6, x72, x328000, x328001, x328002, x328003 => if x72 = true then (some false) else (laws_FnMake.l0 k x6 0 x328000 x328001 x328002 x328003)
def laws_FnMake.l0 : Nat → List (S33) → Int → Int → Int → Int → List (S33) → Option (Bool)
 | 0, _, _, _, _, _, _ => none
 | k + 1, x6, x11, x328000, x328001, x328002, x328003 => if x11 < (x6.length : Int) then (laws_FnMake.j2 k x6 x11 (decide (x11 < 50)) x328000 x328001 x328002 x328003) else (laws_FnMake.j2 k x6 x11 false x328000 x328001 x328002 x328003)
def laws_FnMake.j2 : Nat → List (S33) → Int → Bool → Int → Int → Int → List (S33) → Option (Bool)
 | 0, _, _, _, _, _, _, _ => none
 | k + 1, x6, x11, x80, x328000, x328001, x328002, x328003 => if x80 = true then (laws_FnMake.l1 k x6 x11 false 0 x328000 x328001 x328002 x328003) else (some true)
def laws_FnMake.l1 : Nat → List (S33) → Int → Bool → Int → Int → Int → Int → List (S33) → Option (Bool)
 | 0, _, _, _, _, _, _, _, _ => none
 | k + 1, x6, x11, x12, x13, x328000, x328001, x328002, x328003 => if x13 < (x6.length : Int) then (if x13 < 50 then (if 0 ≤ x13 then (if x12 = true then (laws_FnMake.l1 k x6 x11 true (wrap64 (x13 + 1)) x328000 x328001 x328002 x328003) else (if 0 ≤ x11 then (if x11 < (x6.length : Int) then (if ((rd_T33 x6 x13).f0) = ((rd_T33 x6 x11).f0) then (if ((rd_T33 x6 x13).f1) = ((rd_T33 x6 x11).f1) then (if ((rd_T33 x6 x13).f2) = ((rd_T33 x6 x11).f2) then (laws_FnMake.l1 k x6 x11 ((rd_T33 x6 x13).f3) (wrap64 (x13 + 1)) x328000 x328001 x328002 x328003) else (laws_FnMake.l1 k x6 x11 false (wrap64 (x13 + 1)) x328000 x328001 x328002 x328003)) else (laws_FnMake.l1 k x6 x11 false (wrap64 (x13 + 1)) x328000 x328001 x328002 x328003)) else (laws_FnMake.l1 k x6 x11 false (wrap64 (x13 + 1)) x328000 x328001 x328002 x328003)) else (none)) else (none))) else (none)) else (if 0 ≤ x11 then (if x11 < (x6.length : Int) then ((impl_AutoEdge.f k x328000 x328001 x328002 x328003 ((rd_T33 x6 x11).f0) ((rd_T33 x6 x11).f1) ((rd_T33 x6 x11).f2)).bind fun bt345 => (if bt345.2 = true then (if (x6.length : Int) ≤ 50 then (if (bt345.1 != x12) = true then (some false) else (laws_FnMake.l0 k x6 (wrap64 (x11 + 1)) x328000 x328001 x328002 x328003)) else (laws_FnMake.l0 k x6 (wrap64 (x11 + 1)) x328000 x328001 x328002 x328003)) else (some false))) else (none)) else (none))) else (if 0 ≤ x11 then (if x11 < (x6.length : Int) then ((impl_AutoEdge.f k x328000 x328001 x328002 x328003 ((rd_T33 x6 x11).f0) ((rd_T33 x6 x11).f1) ((rd_T33 x6 x11).f2)).bind fun bt350 => (if bt350.2 = true then (if (x6.length : Int) ≤ 50 then (if (bt350.1 != x12) = true then (some false) else (laws_FnMake.l0 k x6 (wrap64 (x11 + 1)) x328000 x328001 x328002 x328003)) else (laws_FnMake.l0 k x6 (wrap64 (x11 + 1)) x328000 x328001 x328002 x328003)) else (some false))) else (none)) else (none))
end
def laws_FnMake.f (k : Nat) (l0 : List Int) : Option (Bool) := (laws_big.f l0).bind fun t313 => (if t313 = true then (some true) else ((spec_DrawAutoMake.f k l0).bind fun bt314 => ((impl_AutoMake.f k bt314.1 bt314.2.1 bt314.2.2.1 bt314.2.2.2).bind fun bt320 => ((spec_AutoMake.f k bt314.1 bt314.2.1 bt314.2.2.1 bt314.2.2.2).bind fun bt328 => (if (bt320.2.2.2.2 != bt328.2.2.2.2) = true then (some false) else (if bt320.2.2.2.2 = true then ((impl_AutoOk.f k bt320.1 bt320.2.1 bt320.2.2.1 bt320.2.2.2.1).bind fun t336 => (if t336 = true then (if (bt320.2.2.2.1.length : Int) > (bt314.2.2.2.length : Int) then (laws_FnMake.j0 k bt314.2.2.2 true bt320.1 bt320.2.1 bt320.2.2.1 bt320.2.2.2.1) else (laws_FnMake.j0 k bt314.2.2.2 (bt320.2.2.1 != bt314.2.2.1) bt320.1 bt320.2.1 bt320.2.2.1 bt320.2.2.2.1)) else (laws_FnMake.j0 k bt314.2.2.2 true bt320.1 bt320.2.1 bt320.2.2.1 bt320.2.2.2.1))) else (if bt320.2.1 = 0 then (some ((bt320.2.2.2.1.length : Int) == 0)) else (some false))))))))
theorem laws_FnMake.mono_l : ∀ k, (∀ y0 y1 y2 y3 y4 y5, LeO (laws_FnMake.j0 k y0 y1 y2 y3 y4 y5) (laws_FnMake.j0 (k + 1) y0 y1 y2 y3 y4 y5)) ∧ (∀ y0 y1 y2 y3 y4 y5, LeO (laws_FnMake.l0 k y0 y1 y2 y3 y4 y5) (laws_FnMake.l0 (k + 1) y0 y1 y2 y3 y4 y5)) ∧ (∀ y0 y1 y2 y3 y4 y5 y6, LeO (laws_FnMake.j2 k y0 y1 y2 y3 y4 y5 y6) (laws_FnMake.j2 (k + 1) y0 y1 y2 y3 y4 y5 y6)) ∧ (∀ y0 y1 y2 y3 y4 y5 y6 y7, LeO (laws_FnMake.l1 k y0 y1 y2 y3 y4 y5 y6 y7) (laws_FnMake.l1 (k + 1) y0 y1 y2 y3 y4 y5 y6 y7))
 | 0 => ⟨fun _ _ _ _ _ _ r h => by simp [laws_FnMake.j0] at h, fun _ _ _ _ _ _ r h => by simp [laws_FnMake.l0] at h, fun _ _ _ _ _ _ _ r h => by simp [laws_FnMake.j2] at h, fun _ _ _ _ _ _ _ _ r h => by simp [laws_FnMake.l1] at h⟩
 | k + 1 => by
  obtain ⟨ih0, ih1, ih2, ih3⟩ := laws_FnMake.mono_l k
  refine ⟨?_, ?_, ?_, ?_⟩
  ·intro y0 y1 y2 y3 y4 y5
   unfold laws_FnMake.j0
   repeat' first
   | (with_reducible exact ih0 _ _ _ _ _ _)
   | (with_reducible exact ih1 _ _ _ _ _ _)
   | (with_reducible exact ih2 _ _ _ _ _ _ _)
   | (with_reducible exact ih3 _ _ _ _ _ _ _ _)
   | (with_reducible exact impl_AutoEdge.mono _ _ _ _ _ _ _ _)
   | (with_reducible exact impl_AutoMake.mono _ _ _ _ _)
   | (with_reducible exact impl_AutoOk.mono _ _ _ _ _)
   | (with_reducible exact spec_AutoMake.mono _ _ _ _ _)
   | (with_reducible exact spec_DrawAutoMake.mono _ _)
   | (with_reducible exact LeO.refl _)
   | (with_reducible exact LeO.none _)
   | (with_reducible refine LeO.ite ?_ ?_)
   | (with_reducible refine LeO.bind ?_ (fun _ => ?_))
   | exact ih0 _ _ _ _ _ _
   | exact ih1 _ _ _ _ _ _
   | exact ih2 _ _ _ _ _ _ _
   | exact ih3 _ _ _ _ _ _ _ _
   | exact impl_AutoEdge.mono _ _ _ _ _ _ _ _
   | exact impl_AutoMake.mono _ _ _ _ _
   | exact impl_AutoOk.mono _ _ _ _ _
   | exact spec_AutoMake.mono _ _ _ _ _
   | exact spec_DrawAutoMake.mono _ _
   | exact LeO.none _
   | refine LeO.ite ?_ ?_
   | refine LeO.bind ?_ (fun _ => ?_)
  ·intro y0 y1 y2 y3 y4 y5
   unfold laws_FnMake.l0
   repeat' first
   | (with_reducible exact ih0 _ _ _ _ _ _)
   | (with_reducible exact ih1 _ _ _ _ _ _)
   | (with_reducible exact ih2 _ _ _ _ _ _ _)
   | (with_reducible exact ih3 _ _ _ _ _ _ _ _)
   | (with_reducible exact impl_AutoEdge.mono _ _ _ _ _ _ _ _)
   | (with_reducible exact impl_AutoMake.mono _ _ _ _ _)
   | (with_reducible exact impl_AutoOk.mono _ _ _ _ _)
   | (with_reducible exact spec_AutoMake.mono _ _ _ _ _)
   | (with_reducible exact spec_DrawAutoMake.mono _ _)
   | (with_reducible exact LeO.refl _)
   | (with_reducible exact LeO.none _)
   | (with_reducible refine LeO.ite ?_ ?_)
   | (with_reducible refine LeO.bind ?_ (fun _ => ?_))
   | exact ih0 _ _ _ _ _ _
   | exact ih1 _ _ _ _ _ _
   | exact ih2 _ _ _ _ _ _ _
   | exact ih3 _ _ _ _ _ _ _ _
   | exact impl_AutoEdge.mono _ _ _ _ _ _ _ _
   | exact impl_AutoMake.mono _ _ _ _ _
   | exact impl_AutoOk.mono _ _ _ _ _
   | exact spec_AutoMake.mono _ _ _ _ _
   | exact spec_DrawAutoMake.mono _ _
   | exact LeO.none _
   | refine LeO.ite ?_ ?_
   | refine LeO.bind ?_ (fun _ => ?_)
  ·intro y0 y1 y2 y3 y4 y5 y6
   unfold laws_FnMake.j2
   repeat' first
   | (with_reducible exact ih0 _ _ _ _ _ _)
   | (with_reducible exact ih1 _ _ _ _ _ _)
   | (with_reducible exact ih2 _ _ _ _ _ _ _)
   | (with_reducible exact ih3 _ _ _ _ _ _ _ _)
   | (with_reducible exact impl_AutoEdge.mono _ _ _ _ _ _ _ _)
   | (with_reducible exact impl_AutoMake.mono _ _ _ _ _)
   | (with_reducible exact impl_AutoOk.mono _ _ _ _ _)
   | (with_reducible exact spec_AutoMake.mono _ _ _ _ _)
   | (with_reducible exact spec_DrawAutoMake.mono _ _)
   | (with_reducible exact LeO.refl _)
   | (with_reducible exact LeO.none _)
   | (with_reducible refine LeO.ite ?_ ?_)
   | (with_reducible refine LeO.bind ?_ (fun _ => ?_))
   | exact ih0 _ _ _ _ _ _
   | exact ih1 _ _ _ _ _ _
   | exact ih2 _ _ _ _ _ _ _
   | exact ih3 _ _ _ _ _ _ _ _
   | exact impl_AutoEdge.mono _ _ _ _ _ _ _ _
   | exact impl_AutoMake.mono _ _ _ _ _
   | exact impl_AutoOk.mono _ _ _ _ _
   | exact spec_AutoMake.mono _ _ _ _ _
   | exact spec_DrawAutoMake.mono _ _
   | exact LeO.none _
   | refine LeO.ite ?_ ?_
   | refine LeO.bind ?_ (fun _ => ?_)
  ·intro y0 y1 y2 y3 y4 y5 y6 y7
   unfold laws_FnMake.l1
   repeat' first
   | (with_reducible exact ih0 _ _ _ _ _ _)
   | (with_reducible exact ih1 _ _ _ _ _ _)
   | (with_reducible exact ih2 _ _ _ _ _ _ _)
   | (with_reducible exact ih3 _ _ _ _ _ _ _ _)
   | (with_reducible exact impl_AutoEdge.mono _ _ _ _ _ _ _ _)
   | (with_reducible exact impl_AutoMake.mono _ _ _ _ _)
   | (with_reducible exact impl_AutoOk.mono _ _ _ _ _)
   | (with_reducible exact spec_AutoMake.mono _ _ _ _ _)
   | (with_reducible exact spec_DrawAutoMake.mono _ _)
   | (with_reducible exact LeO.refl _)
   | (with_reducible exact LeO.none _)
   | (with_reducible refine LeO.ite ?_ ?_)
   | (with_reducible refine LeO.bind ?_ (fun _ => ?_))
   | exact ih0 _ _ _ _ _ _
   | exact ih1 _ _ _ _ _ _
   | exact ih2 _ _ _ _ _ _ _
   | exact ih3 _ _ _ _ _ _ _ _
   | exact impl_AutoEdge.mono _ _ _ _ _ _ _ _
   | exact impl_AutoMake.mono _ _ _ _ _
   | exact impl_AutoOk.mono _ _ _ _ _
   | exact spec_AutoMake.mono _ _ _ _ _
   | exact spec_DrawAutoMake.mono _ _
   | exact LeO.none _
   | refine LeO.ite ?_ ?_
   | refine LeO.bind ?_ (fun _ => ?_)
theorem laws_FnMake.mono : ∀ a0 k, LeO (laws_FnMake.f k a0) (laws_FnMake.f (k + 1) a0) := by
 intro a0 k
 obtain ⟨ih0, ih1, ih2, ih3⟩ := laws_FnMake.mono_l k
 unfold laws_FnMake.f
 repeat' first
   | (with_reducible exact ih0 _ _ _ _ _ _)
   | (with_reducible exact ih1 _ _ _ _ _ _)
   | (with_reducible exact ih2 _ _ _ _ _ _ _)
   | (with_reducible exact ih3 _ _ _ _ _ _ _ _)
   | (with_reducible exact impl_AutoEdge.mono _ _ _ _ _ _ _ _)
   | (with_reducible exact impl_AutoMake.mono _ _ _ _ _)
   | (with_reducible exact impl_AutoOk.mono _ _ _ _ _)
   | (with_reducible exact spec_AutoMake.mono _ _ _ _ _)
   | (with_reducible exact spec_DrawAutoMake.mono _ _)
   | (with_reducible exact LeO.refl _)
   | (with_reducible exact LeO.none _)
   | (with_reducible refine LeO.ite ?_ ?_)
   | (with_reducible refine LeO.bind ?_ (fun _ => ?_))
   | exact ih0 _ _ _ _ _ _
   | exact ih1 _ _ _ _ _ _
   | exact ih2 _ _ _ _ _ _ _
   | exact ih3 _ _ _ _ _ _ _ _
   | exact impl_AutoEdge.mono _ _ _ _ _ _ _ _
   | exact impl_AutoMake.mono _ _ _ _ _
   | exact impl_AutoOk.mono _ _ _ _ _
   | exact spec_AutoMake.mono _ _ _ _ _
   | exact spec_DrawAutoMake.mono _ _
   | exact LeO.none _
   | refine LeO.ite ?_ ?_
   | refine LeO.bind ?_ (fun _ => ?_)
def laws_FnMake.T20 : Bool × List (List Nat × List Nat) := (true, [([], []), ([0], [0]), ([1], [1]), ([2, 1], [1, 2]), ([1], [1]), ([1], [1]), ([4, 5, 1], [1, 4, 5]), ([6, 1], [1, 6]), ([7, 1], [1, 7]), ([3, 8, 1], [1, 3, 8]), ([9, 1, 1], [1, 9]), ([10], [10]), ([11, 10], [10, 11]), ([10], [10]), ([10], [10]), ([13, 14, 10], [10, 13, 14]), ([15, 10], [10, 15]), ([16, 10], [10, 16]), ([12, 17, 10], [10, 12, 17]), ([10, 18, 1], [1, 10, 18]), ([19, 10, 1], [1, 19]), ([20], [20]), ([21, 20], [20, 21]), ([20], [20]), ([20], [20]), ([23, 24, 20], [20, 23, 24]), ([25, 20], [20, 25]), ([26, 20], [20, 26]), ([22, 27, 20], [20, 22, 27]), ([20, 28, 1], [1, 20, 28]), ([29, 20, 1], [1, 29]), ([30], [30]), ([31, 30], [30, 31]), ([30, 32, 1], [1, 30, 32]), ([1, 33], [1, 33]), ([34, 30, 0, 1, 2, 3, 4, 5, 6, 7, 8, 9, 10, 11, 12, 13, 14, 15, 16, 17, 18, 19, 20, 21, 22, 23, 24, 25, 26, 27, 28, 29, 30, 31, 32, 33, 34], [0, 34])])
def laws_FnMake.B20 : List Nat := [0, 1, 3, 7, 3, 3, 51, 115, 243, 511, 1023, 2047, 4095, 2047, 2047, 26623, 59391, 124927, 262143, 524287, 1048575, 2097151, 4194303, 2097151, 2097151, 27262975, 60817407, 127926271, 268435455, 536870911, 1073741823, 2147483647, 4294967295, 8589934591, 17179869183, 34359738367]
theorem laws_FnMake.tab20 : rtab .any (opsOf Try.f3 20) = laws_FnMake.T20 := by kernel_rfl
theorem laws_FnMake.bits20 : waitsOk laws_FnMake.T20.2 laws_FnMake.B20 = true := by kernel_rfl
def laws_FnMake.T21 : Bool × List (List Nat × List Nat) := (true, [([], []), ([], []), ([], []), ([1, 2], [1, 2]), ([3], [3]), ([4], [4]), ([], []), ([], []), ([6, 7], [6, 7]), ([8], [8]), ([9], [9]), ([], []), ([], []), ([11, 12], [11, 12]), ([13], [13]), ([14], [14]), ([0, 5, 10, 15], [0, 5, 10, 15]), ([16], [16]), ([17], [17]), ([17], [17]), ([18, 16, 0, 1, 2, 3, 4, 5, 6, 7, 8, 9, 10, 11, 12, 13, 14, 15, 16, 17, 18], [18]), ([19, 20, 0, 1, 2, 3, 4, 5, 6, 7, 8, 9, 10, 11, 12, 13, 14, 15, 16, 17, 18, 19, 20], [19])])
def laws_FnMake.B21 : List Nat := [0, 0, 0, 6, 14, 30, 0, 0, 192, 448, 960, 0, 0, 6144, 14336, 30720, 65535, 131071, 262143, 262143, 524287, 2097151]
theorem laws_FnMake.tab21 : rtab .any (opsOf Try.f3 21) = laws_FnMake.T21 := by kernel_rfl
theorem laws_FnMake.bits21 : waitsOk laws_FnMake.T21.2 laws_FnMake.B21 = true := by kernel_rfl
open Go.Proofs.Ytigmokdcanebeaa.Short2 Go.Proofs.Ytigmokdcanebeaa.Short3 Go.Proofs.Ytigmokdcanebeaa.Short6 in
set_option maxHeartbeats 8000000 in
set_option maxRecDepth 100000 in
theorem laws_FnMake.calls (k : Nat) (A0 : Option Addr) (c0 : Nat) (l0 : List Int) (r : Bool) (w : World) (hr0 : Kd.C (Kd.int .u8) w A0 l0.length l0) (hc0 : l0.length ≤ c0) (h : laws_FnMake.f k l0 = some r) :
  Calls Try.prog 3 #[.slice A0 l0.length c0] w fun e w' => e = .returned (.bool r) ∧ Below w.heap.size w w' := by
 have hu28 := Try.underlying28; have hu33 := Try.underlying33; have HR0 := Aside0.mk hr0; have HC0 := Aside0.mk hc0; clear hr0 hc0; have HB := Aside0.mk (Below.refl w.heap.size w); have H : ((laws_big.f l0).bind fun ee => (if ee = true then (some true) else ((spec_DrawAutoMake.f k l0).bind fun bt314 => ((impl_AutoMake.f k bt314.1 bt314.2.1 bt314.2.2.1 bt314.2.2.2).bind fun bt320 => ((spec_AutoMake.f k bt314.1 bt314.2.1 bt314.2.2.1 bt314.2.2.2).bind fun bt328 => (if (bt320.2.2.2.2 != bt328.2.2.2.2) = true then (some false) else (if bt320.2.2.2.2 = true then ((impl_AutoOk.f k bt320.1 bt320.2.1 bt320.2.2.1 bt320.2.2.2.1).bind fun bp => (if bp = true then (if (bt320.2.2.2.1.length : Int) > (bt314.2.2.2.length : Int) then (laws_FnMake.j0 k bt314.2.2.2 true bt320.1 bt320.2.1 bt320.2.2.1 bt320.2.2.2.1) else (laws_FnMake.j0 k bt314.2.2.2 (bt320.2.2.1 != bt314.2.2.1) bt320.1 bt320.2.1 bt320.2.2.1 bt320.2.2.2.1)) else (laws_FnMake.j0 k bt314.2.2.2 true bt320.1 bt320.2.1 bt320.2.2.1 bt320.2.2.2.1))) else (if bt320.2.1 = 0 then (some ((bt320.2.2.2.1.length : Int) == 0)) else (some false))))))))) = some r := h; clear h; replace H := Option.bind_eq_some_iff.mp H; obtain ⟨ee, ft, H⟩ := H; replace H : (if ee = true then (some true) else ((spec_DrawAutoMake.f k l0).bind fun bt314 => ((impl_AutoMake.f k bt314.1 bt314.2.1 bt314.2.2.1 bt314.2.2.2).bind fun bt320 => ((spec_AutoMake.f k bt314.1 bt314.2.1 bt314.2.2.1 bt314.2.2.2).bind fun bt328 => (if (bt320.2.2.2.2 != bt328.2.2.2.2) = true then (some false) else (if bt320.2.2.2.2 = true then ((impl_AutoOk.f k bt320.1 bt320.2.1 bt320.2.2.1 bt320.2.2.2.1).bind fun bp => (if bp = true then (if (bt320.2.2.2.1.length : Int) > (bt314.2.2.2.length : Int) then (laws_FnMake.j0 k bt314.2.2.2 true bt320.1 bt320.2.1 bt320.2.2.1 bt320.2.2.2.1) else (laws_FnMake.j0 k bt314.2.2.2 (bt320.2.2.1 != bt314.2.2.1) bt320.1 bt320.2.1 bt320.2.2.1 bt320.2.2.2.1)) else (laws_FnMake.j0 k bt314.2.2.2 true bt320.1 bt320.2.1 bt320.2.2.1 bt320.2.2.2.1))) else (if bt320.2.1 = 0 then (some ((bt320.2.2.2.1.length : Int) == 0)) else (some false)))))))) = some r := H; have A2 := Aside0.mk ft; clear ft
 by_cases c3 : ee = true
 ·subst c3
  have H1 : (some true) = some r := by rw [if_pos rfl] at H; exact H
  clear H; have H := H1; clear H1; obtain rfl := Option.some.inj H
  go_enter Try.func3, Try.ntmps3
  go_wp2_with (first | ((with_reducible refine gate_callee (f := 5) rfl ?_); refine gl_ (some 18) Try.func5 #[.slice A0 l0.length c0] ?_; (with_reducible refine (laws_big.calls _ _ l0 true _ ?side1 ?side2 A2.out).mono ?_); (case side1 => repeat (first | exact HR0.out | (with_reducible refine Kd.C_alloc ?_ _) | (with_reducible refine Kd.C_drewN ?_ _) | (with_reducible refine Kd.C_drew ?_))); (case side2 => exact HC0.out); rintro e w' ⟨rfl, ⟨nd, rfl⟩⟩; refine ⟨_, rfl, ?_⟩))
  go_ret; exact ⟨by first | rfl | (simp [errW_none, errW_some] <;> rfl) | (simp [*, errW_none, errW_some] <;> rfl), by repeat (first | (with_reducible first | exact HB.out | apply below_alloc | apply pw_below_drewN | apply below_drew1) | exact HB.out)⟩
 ·replace c3 := Bool.eq_false_iff.mpr c3; subst c3
  have H1 : ((spec_DrawAutoMake.f k l0).bind fun bt314 => ((impl_AutoMake.f k bt314.1 bt314.2.1 bt314.2.2.1 bt314.2.2.2).bind fun bt320 => ((spec_AutoMake.f k bt314.1 bt314.2.1 bt314.2.2.1 bt314.2.2.2).bind fun bt328 => (if (bt320.2.2.2.2 != bt328.2.2.2.2) = true then (some false) else (if bt320.2.2.2.2 = true then ((impl_AutoOk.f k bt320.1 bt320.2.1 bt320.2.2.1 bt320.2.2.2.1).bind fun bp => (if bp = true then (if (bt320.2.2.2.1.length : Int) > (bt314.2.2.2.length : Int) then (laws_FnMake.j0 k bt314.2.2.2 true bt320.1 bt320.2.1 bt320.2.2.1 bt320.2.2.2.1) else (laws_FnMake.j0 k bt314.2.2.2 (bt320.2.2.1 != bt314.2.2.1) bt320.1 bt320.2.1 bt320.2.2.1 bt320.2.2.2.1)) else (laws_FnMake.j0 k bt314.2.2.2 true bt320.1 bt320.2.1 bt320.2.2.1 bt320.2.2.2.1))) else (if bt320.2.1 = 0 then (some ((bt320.2.2.2.1.length : Int) == 0)) else (some false))))))) = some r := by rw [if_neg (show ¬ (false = true) by decide)] at H; exact H
  clear H; have H := H1; clear H1; replace H := Option.bind_eq_some_iff.mp H; obtain ⟨⟨aE, aF, aB, ab⟩, fu, H⟩ := H; replace H : ((impl_AutoMake.f k aE aF aB ab).bind fun bt320 => ((spec_AutoMake.f k aE aF aB ab).bind fun bt328 => (if (bt320.2.2.2.2 != bt328.2.2.2.2) = true then (some false) else (if bt320.2.2.2.2 = true then ((impl_AutoOk.f k bt320.1 bt320.2.1 bt320.2.2.1 bt320.2.2.2.1).bind fun bp => (if bp = true then (if (bt320.2.2.2.1.length : Int) > (ab.length : Int) then (laws_FnMake.j0 k ab true bt320.1 bt320.2.1 bt320.2.2.1 bt320.2.2.2.1) else (laws_FnMake.j0 k ab (bt320.2.2.1 != aB) bt320.1 bt320.2.1 bt320.2.2.1 bt320.2.2.2.1)) else (laws_FnMake.j0 k ab true bt320.1 bt320.2.1 bt320.2.2.1 bt320.2.2.2.1))) else (if bt320.2.1 = 0 then (some ((bt320.2.2.2.1.length : Int) == 0)) else (some false)))))) = some r := H; have A4 := Aside0.mk fu; clear fu; replace H := Option.bind_eq_some_iff.mp H; obtain ⟨⟨an, ak, am, ai, bH⟩, fv, H⟩ := H; replace H : ((spec_AutoMake.f k aE aF aB ab).bind fun bt328 => (if (bH != bt328.2.2.2.2) = true then (some false) else (if bH = true then ((impl_AutoOk.f k an ak am ai).bind fun bp => (if bp = true then (if (ai.length : Int) > (ab.length : Int) then (laws_FnMake.j0 k ab true an ak am ai) else (laws_FnMake.j0 k ab (am != aB) an ak am ai)) else (laws_FnMake.j0 k ab true an ak am ai))) else (if ak = 0 then (some ((ai.length : Int) == 0)) else (some false))))) = some r := H; have A5 := Aside0.mk fv; clear fv; replace H := Option.bind_eq_some_iff.mp H; obtain ⟨⟨bq, br, bs, av, bR⟩, fw, H⟩ := H; replace H : (if (bH != bR) = true then (some false) else (if bH = true then ((impl_AutoOk.f k an ak am ai).bind fun bp => (if bp = true then (if (ai.length : Int) > (ab.length : Int) then (laws_FnMake.j0 k ab true an ak am ai) else (laws_FnMake.j0 k ab (am != aB) an ak am ai)) else (laws_FnMake.j0 k ab true an ak am ai))) else (if ak = 0 then (some ((ai.length : Int) == 0)) else (some false)))) = some r := H; have A6 := Aside0.mk fw; clear fw
  by_cases c7 : (bH != bR) = true
  ·rw [if_pos c7] at H; have dU : (bH != bR) = true := c7
   (try (have dV : decide (bH = bR) = false := by simpa using c7))
   (try (have dW : (bH == bR) = false := by simpa using c7))
   (try (have iG : ¬ (bH = bR) := by simpa using c7))
   clear c7; obtain rfl := Option.some.inj H
   go_enter Try.func3, Try.ntmps3
   go_wp2_with (first | ((with_reducible refine gate_callee (f := 5) rfl ?_); refine gl_ (some 18) Try.func5 #[.slice A0 l0.length c0] ?_; (with_reducible refine (laws_big.calls _ _ l0 false _ ?side1 ?side2 A2.out).mono ?_); (case side1 => repeat (first | exact HR0.out | (with_reducible refine Kd.C_alloc ?_ _) | (with_reducible refine Kd.C_drewN ?_ _) | (with_reducible refine Kd.C_drew ?_))); (case side2 => exact HC0.out); rintro e w' ⟨rfl, ⟨nd, rfl⟩⟩; refine ⟨_, rfl, ?_⟩) | ((with_reducible refine gate_callee (f := 6) rfl ?_); refine gl_ (some 21) Try.func6 #[.slice A0 l0.length c0] ?_; (with_reducible refine (spec_DrawAutoMake.calls k _ _ l0 aE aF aB ab _ ?side1 ?side2 A4.out).mono ?_); (case side1 => repeat (first | exact HR0.out | (with_reducible refine Kd.C_alloc ?_ _) | (with_reducible refine Kd.C_drewN ?_ _) | (with_reducible refine Kd.C_drew ?_))); (case side2 => exact HC0.out); rintro e w8 ⟨eo, rfl, ho0, hb⟩; refine ⟨_, rfl, ?_⟩; have al := Aside0.mk (Kd.R_lower ho0 (below_size (zS HB.out))); replace HB := xS HB hb; (try clear hb); (try clear hb2); (try clear hk); (try clear hi); (try clear ho0); obtain ⟨fx, eG, hv⟩ := Kd.R_slice al.out; subst hv) | ((with_reducible refine gate_callee (f := 7) rfl ?_); refine gl_ (some 31) Try.func7 #[.int .i64 aE, .int .i64 aF, .int .i64 aB, .slice fx ab.length eG] ?_; (with_reducible refine (impl_AutoMake.calls k aE aF aB _ _ ab an ak am ai bH _ ?side1 ?side2 A5.out).mono ?_); (case side1 => exact zC (Kd.R_reads' al.out).2.2); (case side2 => exact (Kd.R_reads' al.out).2.1); rintro e je ⟨ep, rfl, ho0, hb⟩; refine ⟨_, rfl, ?_⟩; have ap := Aside0.mk (Kd.R_lower (Kd.R_new' ho0 (Kd.R_lt (zR al.out))) (below_size (zS HB.out))); replace al := xE al ho0 hb; replace HB := xS HB hb; (try clear hb); (try clear hb2); (try clear hk); (try clear hi); (try clear ho0)) | ((with_reducible refine gate_dst (N := 7) rfl ?_); (try (refine gate_guard (by rfl) ?_; dsimp only)); refine box_event ?hg (N := 7) ?hd (cs := #[.int .i64 0, .int .i64 0, .int .i64 0, .slice none 0 0]) (t := 28) ?hr ?_; (case hd => rfl); (case hg => rfl); (case hr => first | (go_simp; done) | (go_simp; rfl)); intro aq hg jf hbox hb; replace al := xR al hb; replace ap := xR ap hb; have ae := Aside0.mk (hbox); have ef := xG HB hg; have bt := xG HB hg; replace HB := xS HB hb; clear hb hbox hg; obtain ⟨cc, cd, ce, cf, cg, ch, ci, cj⟩ := cz4 ae; obtain ⟨eH, eI, fy⟩ := Kd.R_slice ap.out; subst fy) | ((with_reducible refine gate_callee (f := 8) rfl ?_); refine gl_ (some 39) Try.func8 #[.int .i64 aE, .int .i64 aF, .int .i64 aB, .slice fx ab.length eG] ?_; (with_reducible refine (spec_AutoMake.calls k aE aF aB _ _ ab bq br bs av bR _ ?side1 ?side2 A6.out).mono ?_); (case side1 => refine (Kd.R_reads' (e := 33) (base := w.heap.size) (ok := fun k_ => (True ∧ nb k_ (.slice eH ai.length eI))) (n := ab.length) (c := eG) ?_).2.2; exact (zR (xF4 al ae))); (case side2 => exact (Kd.R_reads' al.out).2.1); rintro e jg ⟨eq, rfl, ho0, hb⟩; refine ⟨_, rfl, ?_⟩; have az := Aside0.mk (Kd.R_lower (Kd.R_new' (Kd.R_new' ho0 (Kd.R_lt (zR (xF4 al ae)))) (Kd.R_lt (zR (xF4 ap ae)))) (below_size (zS HB.out))); replace al := Aside0.mk (Kd.R_elder' (zR (xF4 al ae)) (Kd.R_base ho0) hb); replace ap := Aside0.mk (Kd.R_elder' (zR (xF4 ap ae)) (Kd.R_base ho0) hb); replace ae := Aside0.mk (blk_below (g := aq) (o := .cells #[.int .i64 an, .int .i64 ak, .int .i64 am, .slice eH ai.length eI] 28 (0, 0)) (xP4 ae.out) hb); replace HB := xS HB hb; (try clear hb); (try clear hb2); (try clear hk); (try clear hi); (try clear ho0)) | ((with_reducible refine gate_dst (N := 9) rfl ?_); (try (refine gate_guard (by rfl) ?_; dsimp only)); refine box_event ?hg (N := 9) ?hd (cs := #[.int .i64 0, .int .i64 0, .int .i64 0, .slice none 0 0]) (t := 28) ?hr ?_; (case hd => rfl); (case hg => rfl); (case hr => first | (go_simp; done) | (go_simp; rfl)); intro bm hg jh hbox hb; replace al := xR al hb; replace ap := xR ap hb; replace az := xR az hb; have ah := Aside0.mk (hbox); have eg := xG HB hg; have bu := xG HB hg; replace HB := xS HB hb; have aC := xN ae hg; have aD := xM ae hg; replace ae := xB ae hb; clear hb hbox hg; have hP := aD.out; have hQ := aC.out; obtain ⟨ck, cl, cm, cn, co, cp, cq, cr⟩ := cz4 ah; obtain ⟨iH, iI, fz⟩ := Kd.R_slice az.out; subst fz))
   go_ret; exact ⟨by first | rfl | (simp [errW_none, errW_some] <;> rfl) | (simp [*, errW_none, errW_some] <;> rfl), by repeat (first | (with_reducible first | exact HB.out | apply below_alloc | apply pw_below_drewN | apply below_drew1 | refine below_set ?_ bt.out | refine below_set ?_ bu.out) | exact HB.out)⟩
  ·rw [if_neg c7] at H
   have dU : (bH != bR) = false := by simpa using c7
   (try (have dV : decide (bH = bR) = true := by simpa using c7))
   (try (have dW : (bH == bR) = true := by simpa using c7))
   clear c7
   by_cases dK : bH = true
   ·subst dK
    have H1 : ((impl_AutoOk.f k an ak am ai).bind fun bp => (if bp = true then (if (ai.length : Int) > (ab.length : Int) then (laws_FnMake.j0 k ab true an ak am ai) else (laws_FnMake.j0 k ab (am != aB) an ak am ai)) else (laws_FnMake.j0 k ab true an ak am ai))) = some r := by rw [if_pos rfl] at H; exact H
    clear H; have H := H1; clear H1; have HC20 := Aside0.mk H; clear H
    go_enter Try.func3, Try.ntmps3
    go_upto_region 10 with (first | ((with_reducible refine gate_callee (f := 5) rfl ?_); refine gl_ (some 18) Try.func5 #[.slice A0 l0.length c0] ?_; (with_reducible refine (laws_big.calls _ _ l0 false _ ?side1 ?side2 A2.out).mono ?_); (case side1 => repeat (first | exact HR0.out | (with_reducible refine Kd.C_alloc ?_ _) | (with_reducible refine Kd.C_drewN ?_ _) | (with_reducible refine Kd.C_drew ?_))); (case side2 => exact HC0.out); rintro e w' ⟨rfl, ⟨nd, rfl⟩⟩; refine ⟨_, rfl, ?_⟩) | ((with_reducible refine gate_callee (f := 6) rfl ?_); refine gl_ (some 21) Try.func6 #[.slice A0 l0.length c0] ?_; (with_reducible refine (spec_DrawAutoMake.calls k _ _ l0 aE aF aB ab _ ?side1 ?side2 A4.out).mono ?_); (case side1 => repeat (first | exact HR0.out | (with_reducible refine Kd.C_alloc ?_ _) | (with_reducible refine Kd.C_drewN ?_ _) | (with_reducible refine Kd.C_drew ?_))); (case side2 => exact HC0.out); rintro e ji ⟨eo, rfl, ho0, hb⟩; refine ⟨_, rfl, ?_⟩; have al := Aside0.mk (Kd.R_lower ho0 (below_size (zS HB.out))); replace HB := xS HB hb; (try clear hb); (try clear hb2); (try clear hk); (try clear hi); (try clear ho0); obtain ⟨bo, ay, fA⟩ := Kd.R_slice al.out; subst fA) | ((with_reducible refine gate_callee (f := 7) rfl ?_); refine gl_ (some 31) Try.func7 #[.int .i64 aE, .int .i64 aF, .int .i64 aB, .slice bo ab.length ay] ?_; (with_reducible refine (impl_AutoMake.calls k aE aF aB _ _ ab an ak am ai true _ ?side1 ?side2 A5.out).mono ?_); (case side1 => exact zC (Kd.R_reads' al.out).2.2); (case side2 => exact (Kd.R_reads' al.out).2.1); rintro e jj ⟨ep, rfl, ho0, hb⟩; refine ⟨_, rfl, ?_⟩; have ap := Aside0.mk (Kd.R_lower (Kd.R_new' ho0 (Kd.R_lt (zR al.out))) (below_size (zS HB.out))); replace al := xE al ho0 hb; replace HB := xS HB hb; (try clear hb); (try clear hb2); (try clear hk); (try clear hi); (try clear ho0)) | ((with_reducible refine gate_dst (N := 7) rfl ?_); (try (refine gate_guard (by rfl) ?_; dsimp only)); refine box_event ?hg (N := 7) ?hd (cs := #[.int .i64 0, .int .i64 0, .int .i64 0, .slice none 0 0]) (t := 28) ?hr ?_; (case hd => rfl); (case hg => rfl); (case hr => first | (go_simp; done) | (go_simp; rfl)); intro aq hg jk hbox hb; replace al := xR al hb; replace ap := xR ap hb; have ae := Aside0.mk (hbox); have ef := xG HB hg; have bt := xG HB hg; replace HB := xS HB hb; clear hb hbox hg; obtain ⟨ct, cu, cv, cw, cx, cy, cz, cA⟩ := cz4 ae; obtain ⟨au, ar, fB⟩ := Kd.R_slice ap.out; subst fB) | ((with_reducible refine gate_callee (f := 8) rfl ?_); refine gl_ (some 39) Try.func8 #[.int .i64 aE, .int .i64 aF, .int .i64 aB, .slice bo ab.length ay] ?_; (with_reducible refine (spec_AutoMake.calls k aE aF aB _ _ ab bq br bs av bR _ ?side1 ?side2 A6.out).mono ?_); (case side1 => refine (Kd.R_reads' (e := 33) (base := w.heap.size) (ok := fun k_ => (True ∧ nb k_ (.slice au ai.length ar))) (n := ab.length) (c := ay) ?_).2.2; exact (zR (xF4 al ae))); (case side2 => exact (Kd.R_reads' al.out).2.1); rintro e jl ⟨eq, rfl, ho0, hb⟩; refine ⟨_, rfl, ?_⟩; have az := Aside0.mk (Kd.R_lower (Kd.R_new' (Kd.R_new' ho0 (Kd.R_lt (zR (xF4 al ae)))) (Kd.R_lt (zR (xF4 ap ae)))) (below_size (zS HB.out))); replace al := Aside0.mk (Kd.R_elder' (zR (xF4 al ae)) (Kd.R_base ho0) hb); replace ap := Aside0.mk (Kd.R_elder' (zR (xF4 ap ae)) (Kd.R_base ho0) hb); replace ae := Aside0.mk (blk_below (g := aq) (o := .cells #[.int .i64 an, .int .i64 ak, .int .i64 am, .slice au ai.length ar] 28 (0, 0)) (xP4 ae.out) hb); replace HB := xS HB hb; (try clear hb); (try clear hb2); (try clear hk); (try clear hi); (try clear ho0)) | ((with_reducible refine gate_dst (N := 9) rfl ?_); (try (refine gate_guard (by rfl) ?_; dsimp only)); refine box_event ?hg (N := 9) ?hd (cs := #[.int .i64 0, .int .i64 0, .int .i64 0, .slice none 0 0]) (t := 28) ?hr ?_; (case hd => rfl); (case hg => rfl); (case hr => first | (go_simp; done) | (go_simp; rfl)); intro bm hg jm hbox hb; replace al := xR al hb; replace ap := xR ap hb; replace az := xR az hb; have ah := Aside0.mk (hbox); have eg := xG HB hg; have bu := xG HB hg; replace HB := xS HB hb; have aC := xN ae hg; have aD := xM ae hg; replace ae := xB ae hb; clear hb hbox hg; have hR := aD.out; have hS := aC.out; obtain ⟨cB, cC, cD, cE, cF, cG, cH, cI⟩ := cz4 ah; obtain ⟨aw, ax, fC⟩ := Kd.R_slice az.out; subst fC))
    (try simp only [Act.put, q3])
    go_cut [72] (fun hw wc => ∃ (kq : Nat) (dG : Bool), hw = .bool dG ∧ Aside0 (laws_FnMake.j0 kq ab dG an ak am ai = some r) ∧ Aside0 (kq ≤ k) ∧ Aside0 (Kd.R k33 33 wc w.heap.size (fun k_ => nb k_ (.slice au ai.length ar) ∧ nb k_ (.slice aw av.length ax)) (.slice bo ab.length ay) ab) ∧ Aside0 (Kd.R k33 33 wc w.heap.size (fun k_ => nb k_ (.slice bo ab.length ay) ∧ nb k_ (.slice aw av.length ax)) (.slice au ai.length ar) ai) ∧ Aside0 (Kd.R k33 33 wc w.heap.size (fun k_ => nb k_ (.slice bo ab.length ay) ∧ nb k_ (.slice au ai.length ar)) (.slice aw av.length ax) av) ∧ Aside0 (wc.heap[aq]? = some (.cells #[.int .i64 an, .int .i64 ak, .int .i64 am, (.slice au ai.length ar)] 28 (0, 0))) ∧ Aside0 (wc.heap[bm]? = some (.cells #[.int .i64 bq, .int .i64 br, .int .i64 bs, (.slice aw av.length ax)] 28 (0, 0))) ∧ Aside0 (Below w.heap.size w wc))
    case first => as_aux_lemma =>
     have H := HC20.out; clear HC20; replace H := Option.bind_eq_some_iff.mp H; obtain ⟨bp, eJ, H⟩ := H; replace H : (if bp = true then (if (ai.length : Int) > (ab.length : Int) then (laws_FnMake.j0 k ab true an ak am ai) else (laws_FnMake.j0 k ab (am != aB) an ak am ai)) else (laws_FnMake.j0 k ab true an ak am ai)) = some r := H; have eK := Aside0.mk eJ; clear eJ
     by_cases dL : bp = true
     ·subst dL
      have H1 : (if (ai.length : Int) > (ab.length : Int) then (laws_FnMake.j0 k ab true an ak am ai) else (laws_FnMake.j0 k ab (am != aB) an ak am ai)) = some r := by rw [if_pos rfl] at H; exact H
      clear H; have H := H1; clear H1
      by_cases ca : (ai.length : Int) > (ab.length : Int)
      ·rw [if_pos ca] at H; have bS : decide ((ab.length : Int) < (ai.length : Int)) = true := decide_eq_true ca; have dH : decide (ab.length < ai.length) = true := decide_eq_true (Int.ofNat_lt.mp ca); clear ca
       (first | rw [bS] | (simp only [i64_w, i32_w]; rw [bS]) | skip)
       have H' := Aside0.mk H; clear H; have hT := aC.out; have hU := aD.out; obtain ⟨cJ, cK, cL, cM, cN, cO, cP, cQ⟩ := cz4 ae
       go_wp2_with (first | ((with_reducible refine gate_callee (f := 9) rfl ?_); refine gl_ (some 57) Try.func9 #[.agg #[.int .i64 an, .int .i64 ak, .int .i64 am, .slice au ai.length ar]] ?_; (with_reducible refine (impl_AutoOk.calls k an ak am _ _ ai true _ ?side1 ?side2 eK.out).mono ?_); (case side1 => refine (Kd.R_reads' (e := 33) (base := w.heap.size) (ok := fun k_ => ((True ∧ nb k_ (.slice bo ab.length ay)) ∧ nb k_ (.slice aw av.length ax))) (n := ai.length) (c := ar) ?_).2.2; exact (zR (xF4 ap ah))); (case side2 => exact (Kd.R_reads' ap.out).2.1); rintro e jn ⟨rfl, hb⟩; refine ⟨_, rfl, ?_⟩; replace al := Aside0.mk (Kd.R_below (zR (xF4 al ah)) hb); replace ap := Aside0.mk (Kd.R_below (zR (xF4 ap ah)) hb); replace az := Aside0.mk (Kd.R_below (zR (xF4 az ah)) hb); replace ae := xB ae hb; replace ah := Aside0.mk (blk_below (g := bm) (o := .cells #[.int .i64 bq, .int .i64 br, .int .i64 bs, .slice aw av.length ax] 28 (0, 0)) (xP4 ah.out) hb); replace HB := xS HB hb; (try clear hb); (try clear hb2); (try clear hk); (try clear hi); obtain ⟨cR, cS, cU, cV, cW, cX, cY, cZ⟩ := cz4 ae))
       go_meet
       case rel => exact ⟨_, (true), (by first | rfl | (simp; done) | (simp [*]; done) | (rw [Int.tmod_eq_emod_of_nonneg (Int.natCast_nonneg _)]; done)), H', ⟨by first | omega | exact Nat.le_refl _⟩, ⟨by (with_reducible repeat (first | apply Kd.R_alloc | apply Kd.R_drewN | apply Kd.R_drew)); exact Kd.R_mono al.out (fun _ hk => ⟨hk.1.2, hk.2⟩)⟩, ⟨by (with_reducible repeat (first | apply Kd.R_alloc | apply Kd.R_drewN | apply Kd.R_drew)); exact Kd.R_mono ap.out (fun _ hk => ⟨hk.1.2, hk.2⟩)⟩, ⟨by (with_reducible repeat (first | apply Kd.R_alloc | apply Kd.R_drewN | apply Kd.R_drew)); exact Kd.R_mono az.out (fun _ hk => ⟨hk.1.2, hk.2⟩)⟩, ⟨zB ae.out⟩, ⟨zB ah.out⟩, ⟨zS HB.out⟩⟩
      ·rw [if_neg ca] at H; have bS : decide ((ab.length : Int) < (ai.length : Int)) = false := decide_eq_false ca; have dH : decide (ab.length < ai.length) = false := decide_eq_false (fun h => ca (Int.ofNat_lt.mpr h)); clear ca
       (first | rw [bS] | (simp only [i64_w, i32_w]; rw [bS]) | skip)
       have H' := Aside0.mk H; clear H; have hV := aC.out; have hW := aD.out; obtain ⟨da, db, dc, dd, de, df, dg, dh⟩ := cz4 ae
       go_wp2_with (first | ((with_reducible refine gate_callee (f := 9) rfl ?_); refine gl_ (some 57) Try.func9 #[.agg #[.int .i64 an, .int .i64 ak, .int .i64 am, .slice au ai.length ar]] ?_; (with_reducible refine (impl_AutoOk.calls k an ak am _ _ ai true _ ?side1 ?side2 eK.out).mono ?_); (case side1 => refine (Kd.R_reads' (e := 33) (base := w.heap.size) (ok := fun k_ => ((True ∧ nb k_ (.slice bo ab.length ay)) ∧ nb k_ (.slice aw av.length ax))) (n := ai.length) (c := ar) ?_).2.2; exact (zR (xF4 ap ah))); (case side2 => exact (Kd.R_reads' ap.out).2.1); rintro e jo ⟨rfl, hb⟩; refine ⟨_, rfl, ?_⟩; replace al := Aside0.mk (Kd.R_below (zR (xF4 al ah)) hb); replace ap := Aside0.mk (Kd.R_below (zR (xF4 ap ah)) hb); replace az := Aside0.mk (Kd.R_below (zR (xF4 az ah)) hb); replace ae := xB ae hb; replace ah := Aside0.mk (blk_below (g := bm) (o := .cells #[.int .i64 bq, .int .i64 br, .int .i64 bs, .slice aw av.length ax] 28 (0, 0)) (xP4 ah.out) hb); replace HB := xS HB hb; (try clear hb); (try clear hb2); (try clear hk); (try clear hi); obtain ⟨di, dj, dk, dl, dm, dn, dp, dq⟩ := cz4 ae))
       go_meet
       case rel => exact ⟨_, ((am != aB)), (by first | rfl | (simp; done) | (simp [*]; done) | (rw [Int.tmod_eq_emod_of_nonneg (Int.natCast_nonneg _)]; done)), H', ⟨by first | omega | exact Nat.le_refl _⟩, ⟨by (with_reducible repeat (first | apply Kd.R_alloc | apply Kd.R_drewN | apply Kd.R_drew)); exact Kd.R_mono al.out (fun _ hk => ⟨hk.1.2, hk.2⟩)⟩, ⟨by (with_reducible repeat (first | apply Kd.R_alloc | apply Kd.R_drewN | apply Kd.R_drew)); exact Kd.R_mono ap.out (fun _ hk => ⟨hk.1.2, hk.2⟩)⟩, ⟨by (with_reducible repeat (first | apply Kd.R_alloc | apply Kd.R_drewN | apply Kd.R_drew)); exact Kd.R_mono az.out (fun _ hk => ⟨hk.1.2, hk.2⟩)⟩, ⟨zB ae.out⟩, ⟨zB ah.out⟩, ⟨zS HB.out⟩⟩
     ·replace dL := Bool.eq_false_iff.mpr dL; subst dL
      have H1 : (laws_FnMake.j0 k ab true an ak am ai) = some r := by rw [if_neg (show ¬ (false = true) by decide)] at H; exact H
      clear H; have H := H1; clear H1; have H' := Aside0.mk H; clear H; have hX := aC.out; have hY := aD.out; obtain ⟨dr, dt, du, dv, dw, dx, dy, dz⟩ := cz4 ae
      go_wp2_with (first | ((with_reducible refine gate_callee (f := 9) rfl ?_); refine gl_ (some 57) Try.func9 #[.agg #[.int .i64 an, .int .i64 ak, .int .i64 am, .slice au ai.length ar]] ?_; (with_reducible refine (impl_AutoOk.calls k an ak am _ _ ai false _ ?side1 ?side2 eK.out).mono ?_); (case side1 => refine (Kd.R_reads' (e := 33) (base := w.heap.size) (ok := fun k_ => ((True ∧ nb k_ (.slice bo ab.length ay)) ∧ nb k_ (.slice aw av.length ax))) (n := ai.length) (c := ar) ?_).2.2; exact (zR (xF4 ap ah))); (case side2 => exact (Kd.R_reads' ap.out).2.1); rintro e jp ⟨rfl, hb⟩; refine ⟨_, rfl, ?_⟩; replace al := Aside0.mk (Kd.R_below (zR (xF4 al ah)) hb); replace ap := Aside0.mk (Kd.R_below (zR (xF4 ap ah)) hb); replace az := Aside0.mk (Kd.R_below (zR (xF4 az ah)) hb); replace ae := xB ae hb; replace ah := Aside0.mk (blk_below (g := bm) (o := .cells #[.int .i64 bq, .int .i64 br, .int .i64 bs, .slice aw av.length ax] 28 (0, 0)) (xP4 ah.out) hb); replace HB := xS HB hb; (try clear hb); (try clear hb2); (try clear hk); (try clear hi)))
      go_meet
      case rel => exact ⟨_, (true), (by first | rfl | (simp; done) | (simp [*]; done) | (rw [Int.tmod_eq_emod_of_nonneg (Int.natCast_nonneg _)]; done)), H', ⟨by first | omega | exact Nat.le_refl _⟩, ⟨by (with_reducible repeat (first | apply Kd.R_alloc | apply Kd.R_drewN | apply Kd.R_drew)); exact Kd.R_mono al.out (fun _ hk => ⟨hk.1.2, hk.2⟩)⟩, ⟨by (with_reducible repeat (first | apply Kd.R_alloc | apply Kd.R_drewN | apply Kd.R_drew)); exact Kd.R_mono ap.out (fun _ hk => ⟨hk.1.2, hk.2⟩)⟩, ⟨by (with_reducible repeat (first | apply Kd.R_alloc | apply Kd.R_drewN | apply Kd.R_drew)); exact Kd.R_mono az.out (fun _ hk => ⟨hk.1.2, hk.2⟩)⟩, ⟨zB ae.out⟩, ⟨zB ah.out⟩, ⟨zS HB.out⟩⟩
    case rest => as_aux_lemma =>
     clear HC20
     try clear c1
     try clear c2
     try clear p2
     try clear c3
     try clear c4
     try clear c5
     try clear c6
     try clear c7
     try clear dU
     try clear dV
     try clear dW
     try clear c8
     try clear c9
     try clear eL
     try clear dK
     try clear eM
     try clear dL
     try clear ca
     try clear bS
     try clear dH
     try clear eN
     try clear eO
     try clear eP
     try clear cc cd ce cf
     try clear ck cl cm cn
     try clear ct cu cv cw
     try clear cB cC cD cE
     try clear cJ cK cL cM
     try clear cR cS cU cV
     try clear da db dc dd
     try clear di dj dk dl
     try clear dr dt du dv
     try clear cg
     try clear ch
     try clear ci
     try clear cj
     try clear co
     try clear cp
     try clear cq
     try clear cr
     try clear cx
     try clear cy
     try clear cz
     try clear cA
     try clear cF
     try clear cG
     try clear cH
     try clear cI
     try clear cN
     try clear cO
     try clear cP
     try clear cQ
     try clear cW
     try clear cX
     try clear cY
     try clear cZ
     try clear de
     try clear df
     try clear dg
     try clear dh
     try clear dm
     try clear dn
     try clear dp
     try clear dq
     try clear dw
     try clear dx
     try clear dy
     try clear dz
     obtain ⟨kq, dG, rfl, HA, HJ19, aj, af, ag, ae, ah, HB⟩ := hcut
     cases kq with
     | zero => exact absurd HA.out (by simp [laws_FnMake.j0])
     | succ kj19 =>
      have H := HA.out; clear HA; simp only [laws_FnMake.j0] at H
      by_cases dX : dG = true
      ·subst dX
       have H1 : (some false) = some r := by rw [if_pos rfl] at H; exact H
       clear H; have H := H1; clear H1; obtain rfl := Option.some.inj H
       go_wp2
       go_ret; exact ⟨by first | rfl | (simp [errW_none, errW_some] <;> rfl) | (simp [*, errW_none, errW_some] <;> rfl), by repeat (first | (with_reducible first | exact HB.out | apply below_alloc | apply pw_below_drewN | apply below_drew1 | refine below_set ?_ bt.out | refine below_set ?_ bu.out) | exact HB.out)⟩
      ·replace dX := Bool.eq_false_iff.mpr dX; subst dX
       have H1 : (laws_FnMake.l0 kj19 ab 0 an ak am ai) = some r := by rw [if_neg (show ¬ (false = true) by decide)] at H; exact H
       clear H; have H := H1; clear H1; have H' := Aside0.mk H; clear H
       go_wp2
       go_loopg [11] kj19 (fun kq hx w' => ∃ (aa : Int), hx = .int .i64 aa ∧ Aside0 (laws_FnMake.l0 kq ab aa an ak am ai = some r) ∧ Aside0 (kq ≤ kj19) ∧ Aside0 (Kd.R k33 33 w' w.heap.size (fun k_ => nb k_ (.slice au ai.length ar) ∧ nb k_ (.slice aw av.length ax)) (.slice bo ab.length ay) ab) ∧ Aside0 (Kd.R k33 33 w' w.heap.size (fun k_ => nb k_ (.slice bo ab.length ay) ∧ nb k_ (.slice aw av.length ax)) (.slice au ai.length ar) ai) ∧ Aside0 (Kd.R k33 33 w' w.heap.size (fun k_ => nb k_ (.slice bo ab.length ay) ∧ nb k_ (.slice au ai.length ar)) (.slice aw av.length ax) av) ∧ Aside0 (w'.heap[aq]? = some (.cells #[.int .i64 an, .int .i64 ak, .int .i64 am, (.slice au ai.length ar)] 28 (0, 0))) ∧ Aside0 (w'.heap[bm]? = some (.cells #[.int .i64 bq, .int .i64 br, .int .i64 bs, (.slice aw av.length ax)] 28 (0, 0))) ∧ Aside0 (Below w.heap.size w w'))
       case atStart => exact ⟨(0), (by first | rfl | (simp; done) | (simp [*]; done) | (rw [Int.tmod_eq_emod_of_nonneg (Int.natCast_nonneg _)]; done)), H', ⟨Nat.le_refl _⟩, ⟨zR aj.out⟩, ⟨zR af.out⟩, ⟨zR ag.out⟩, ⟨zB ae.out⟩, ⟨zB ah.out⟩, ⟨zS HB.out⟩⟩
       case round => as_aux_lemma =>
        clear H'
        try clear c1
        try clear c2
        try clear p2
        try clear c3
        try clear c4
        try clear c5
        try clear c6
        try clear c7
        try clear dU
        try clear dV
        try clear dW
        try clear c8
        try clear c9
        try clear eL
        try clear dK
        try clear eM
        try clear dL
        try clear ca
        try clear bS
        try clear dH
        try clear eN
        try clear eO
        try clear eP
        try clear dX
        try clear cc cd ce cf
        try clear ck cl cm cn
        try clear ct cu cv cw
        try clear cB cC cD cE
        try clear cJ cK cL cM
        try clear cR cS cU cV
        try clear da db dc dd
        try clear di dj dk dl
        try clear dr dt du dv
        try clear cg
        try clear ch
        try clear ci
        try clear cj
        try clear co
        try clear cp
        try clear cq
        try clear cr
        try clear cx
        try clear cy
        try clear cz
        try clear cA
        try clear cF
        try clear cG
        try clear cH
        try clear cI
        try clear cN
        try clear cO
        try clear cP
        try clear cQ
        try clear cW
        try clear cX
        try clear cY
        try clear cZ
        try clear de
        try clear df
        try clear dg
        try clear dh
        try clear dm
        try clear dn
        try clear dp
        try clear dq
        try clear dw
        try clear dx
        try clear dy
        try clear dz
        try clear p2
        obtain ⟨aa, rfl, HA, HK2, aj, af, ag, ae, ah, HB⟩ := hrel
        cases gk with
        | zero => exact absurd HA.out (by simp [laws_FnMake.l0])
        | succ k2 =>
         have H := HA.out; clear HA; simp only [laws_FnMake.l0] at H; have HC47 := Aside0.mk H; clear H
         go_upto_region 13 with (fail)
         go_cut [80] (fun hy wc => ∃ (kq : Nat) (dI : Bool), hy = .bool dI ∧ Aside0 (laws_FnMake.j2 kq ab aa dI an ak am ai = some r) ∧ Aside0 (kq ≤ k2) ∧ Aside0 (Kd.R k33 33 wc w.heap.size (fun k_ => nb k_ (.slice au ai.length ar) ∧ nb k_ (.slice aw av.length ax)) (.slice bo ab.length ay) ab) ∧ Aside0 (Kd.R k33 33 wc w.heap.size (fun k_ => nb k_ (.slice bo ab.length ay) ∧ nb k_ (.slice aw av.length ax)) (.slice au ai.length ar) ai) ∧ Aside0 (Kd.R k33 33 wc w.heap.size (fun k_ => nb k_ (.slice bo ab.length ay) ∧ nb k_ (.slice au ai.length ar)) (.slice aw av.length ax) av) ∧ Aside0 (wc.heap[aq]? = some (.cells #[.int .i64 an, .int .i64 ak, .int .i64 am, (.slice au ai.length ar)] 28 (0, 0))) ∧ Aside0 (wc.heap[bm]? = some (.cells #[.int .i64 bq, .int .i64 br, .int .i64 bs, (.slice aw av.length ax)] 28 (0, 0))) ∧ Aside0 (Below w.heap.size w wc))
         case first => as_aux_lemma =>
          have H := HC47.out; clear HC47
          by_cases dM : aa < (ab.length : Int)
          ·rw [if_pos dM] at H; have bZ : decide (aa < (ab.length : Int)) = true := decide_eq_true dM; clear dM
           (first | rw [bZ] | (simp only [i64_w, i32_w]; rw [bZ]) | skip)
           have H' := Aside0.mk H; clear H
           go_wp2
           go_meet
           case rel => exact ⟨_, (decide (aa < 50)), (by first | rfl | (simp; done) | (simp [*]; done) | (rw [Int.tmod_eq_emod_of_nonneg (Int.natCast_nonneg _)]; done)), H', ⟨by have := HJ19.out; have := HK2.out; first | omega | exact Nat.le_refl _⟩, ⟨zR aj.out⟩, ⟨zR af.out⟩, ⟨zR ag.out⟩, ⟨zB ae.out⟩, ⟨zB ah.out⟩, ⟨zS HB.out⟩⟩
          ·rw [if_neg dM] at H; have bZ : decide (aa < (ab.length : Int)) = false := decide_eq_false dM; clear dM
           (first | rw [bZ] | (simp only [i64_w, i32_w]; rw [bZ]) | skip)
           have H' := Aside0.mk H; clear H
           go_wp2
           go_meet
           case rel => exact ⟨_, (false), (by first | rfl | (simp; done) | (simp [*]; done) | (rw [Int.tmod_eq_emod_of_nonneg (Int.natCast_nonneg _)]; done)), H', ⟨by have := HJ19.out; have := HK2.out; first | omega | exact Nat.le_refl _⟩, ⟨zR aj.out⟩, ⟨zR af.out⟩, ⟨zR ag.out⟩, ⟨zB ae.out⟩, ⟨zB ah.out⟩, ⟨zS HB.out⟩⟩
         case rest => as_aux_lemma =>
          clear HC47
          try clear c1
          try clear c2
          try clear p2
          try clear c3
          try clear c4
          try clear c5
          try clear c6
          try clear c7
          try clear dU
          try clear dV
          try clear dW
          try clear c8
          try clear c9
          try clear eL
          try clear dK
          try clear eM
          try clear dL
          try clear ca
          try clear bS
          try clear dH
          try clear eN
          try clear eO
          try clear eP
          try clear dX
          try clear dM
          try clear bZ
          try clear cc cd ce cf
          try clear ck cl cm cn
          try clear ct cu cv cw
          try clear cB cC cD cE
          try clear cJ cK cL cM
          try clear cR cS cU cV
          try clear da db dc dd
          try clear di dj dk dl
          try clear dr dt du dv
          try clear cg
          try clear ch
          try clear ci
          try clear cj
          try clear co
          try clear cp
          try clear cq
          try clear cr
          try clear cx
          try clear cy
          try clear cz
          try clear cA
          try clear cF
          try clear cG
          try clear cH
          try clear cI
          try clear cN
          try clear cO
          try clear cP
          try clear cQ
          try clear cW
          try clear cX
          try clear cY
          try clear cZ
          try clear de
          try clear df
          try clear dg
          try clear dh
          try clear dm
          try clear dn
          try clear dp
          try clear dq
          try clear dw
          try clear dx
          try clear dy
          try clear dz
          try clear p2
          obtain ⟨kq, dI, rfl, HA, HJ46, aj, af, ag, ae, ah, HB⟩ := hcut
          cases kq with
          | zero => exact absurd HA.out (by simp [laws_FnMake.j2])
          | succ kj46 =>
           have H := HA.out; clear HA; simp only [laws_FnMake.j2] at H
           by_cases en : dI = true
           ·subst en
            have H1 : (laws_FnMake.l1 kj46 ab aa false 0 an ak am ai) = some r := by rw [if_pos rfl] at H; exact H
            clear H; have H := H1; clear H1; have H' := Aside0.mk H; clear H
            go_wp2
            go_loopg [12, 13] kj46 (fun kq hA hB w' => ∃ (aA : Bool) (ac : Int), hA = .bool aA ∧ hB = .int .i64 ac ∧ Aside0 (laws_FnMake.l1 kq ab aa aA ac an ak am ai = some r) ∧ Aside0 (kq ≤ kj46) ∧ Aside0 (Kd.R k33 33 w' w.heap.size (fun k_ => nb k_ (.slice au ai.length ar) ∧ nb k_ (.slice aw av.length ax)) (.slice bo ab.length ay) ab) ∧ Aside0 (Kd.R k33 33 w' w.heap.size (fun k_ => nb k_ (.slice bo ab.length ay) ∧ nb k_ (.slice aw av.length ax)) (.slice au ai.length ar) ai) ∧ Aside0 (Kd.R k33 33 w' w.heap.size (fun k_ => nb k_ (.slice bo ab.length ay) ∧ nb k_ (.slice au ai.length ar)) (.slice aw av.length ax) av) ∧ Aside0 (w'.heap[aq]? = some (.cells #[.int .i64 an, .int .i64 ak, .int .i64 am, (.slice au ai.length ar)] 28 (0, 0))) ∧ Aside0 (w'.heap[bm]? = some (.cells #[.int .i64 bq, .int .i64 br, .int .i64 bs, (.slice aw av.length ax)] 28 (0, 0))) ∧ Aside0 (Below w.heap.size w w'))
            case atStart => exact ⟨(false), (0), (by first | rfl | (simp; done) | (simp [*]; done) | (rw [Int.tmod_eq_emod_of_nonneg (Int.natCast_nonneg _)]; done)), (by first | rfl | (simp; done) | (simp [*]; done) | (rw [Int.tmod_eq_emod_of_nonneg (Int.natCast_nonneg _)]; done)), H', ⟨Nat.le_refl _⟩, ⟨zR aj.out⟩, ⟨zR af.out⟩, ⟨zR ag.out⟩, ⟨zB ae.out⟩, ⟨zB ah.out⟩, ⟨zS HB.out⟩⟩
            case round => as_aux_lemma =>
             clear H'
             try clear c1
             try clear c2
             try clear p2
             try clear c3
             try clear c4
             try clear c5
             try clear c6
             try clear c7
             try clear dU
             try clear dV
             try clear dW
             try clear c8
             try clear c9
             try clear eL
             try clear dK
             try clear eM
             try clear dL
             try clear ca
             try clear bS
             try clear dH
             try clear eN
             try clear eO
             try clear eP
             try clear dX
             try clear dM
             try clear bZ
             try clear en
             try clear cc cd ce cf
             try clear ck cl cm cn
             try clear ct cu cv cw
             try clear cB cC cD cE
             try clear cJ cK cL cM
             try clear cR cS cU cV
             try clear da db dc dd
             try clear di dj dk dl
             try clear dr dt du dv
             try clear cg
             try clear ch
             try clear ci
             try clear cj
             try clear co
             try clear cp
             try clear cq
             try clear cr
             try clear cx
             try clear cy
             try clear cz
             try clear cA
             try clear cF
             try clear cG
             try clear cH
             try clear cI
             try clear cN
             try clear cO
             try clear cP
             try clear cQ
             try clear cW
             try clear cX
             try clear cY
             try clear cZ
             try clear de
             try clear df
             try clear dg
             try clear dh
             try clear dm
             try clear dn
             try clear dp
             try clear dq
             try clear dw
             try clear dx
             try clear dy
             try clear dz
             try clear p2
             obtain ⟨aA, ac, rfl, rfl, HA, HK4, aj, af, ag, ae, ah, HB⟩ := hrel
             cases gk with
             | zero => exact absurd HA.out (by simp [laws_FnMake.l1])
             | succ k4 =>
              have H := HA.out; clear HA; simp only [laws_FnMake.l1] at H
              by_cases eb : ac < (ab.length : Int)
              ·rw [if_pos eb] at H; have fa : decide (ac < (ab.length : Int)) = true := decide_eq_true eb; clear eb
               by_cases ec : ac < 50
               ·rw [if_pos ec] at H; have fb : decide (ac < 50) = true := decide_eq_true ec; clear ec
                by_cases er : 0 ≤ ac
                ·rw [if_pos er] at H; have hZ : decide (0 ≤ ac) = true := decide_eq_true er; clear er
                 by_cases es : aA = true
                 ·subst es
                  have H1 : (laws_FnMake.l1 k4 ab aa true (wrap64 (ac + 1)) an ak am ai) = some r := by rw [if_pos rfl] at H; exact H
                  clear H; have H := H1; clear H1; have H' := Aside0.mk H; clear H; have bn : 0 ≤ (ac : Int) := of_decide_eq_true (by first | (with_reducible assumption) | assumption); have q337 : ac < (ab.length : Int) := of_decide_eq_true (by first | (with_reducible assumption) | assumption); obtain ⟨ad337, e337, dA, dB, dC, dD⟩ := at_T33 (Kd.R_reads' aj.out).2.2 ac bn q337
                  cases e337
                  replace bn := eq_true bn; replace q337 := eq_true q337
                  try go_wp2_with (first | ((with_reducible refine gate_dst (N := 14) rfl ?_); (try (refine gate_guard (by rfl) ?_; dsimp only)); refine box_event ?hg (N := 14) ?hd (cs := #[.int .i64 0, .int .i64 0, .int .i64 0, .bool false]) (t := 33) ?hr ?_; (case hd => rfl); (case hg => rfl); (case hr => first | (go_simp; done) | (go_simp; rfl)); intro ad hg dN hbox hb; replace aj := Aside0.mk (Kd.R_below (Kd.R_elderB (zR aj.out) ad (Nat.le_of_eq hg.symm)) hb); replace af := Aside0.mk (Kd.R_below (Kd.R_elderB (zR af.out) ad (Nat.le_of_eq hg.symm)) hb); replace ag := Aside0.mk (Kd.R_below (Kd.R_elderB (zR ag.out) ad (Nat.le_of_eq hg.symm)) hb); have ao := Aside0.mk (hbox); have dS := xG HB hg; have dT := xG HB hg; replace HB := xS HB hb; have aG := xN ae hg; have aH := xM ae hg; replace ae := xB ae hb; have aI := xN ah hg; have aJ := xM ah hg; replace ah := xB ah hb; clear hb hbox hg; have ia := aH.out; have ib := aG.out; have ic := aJ.out; have id := aI.out; obtain ⟨gA, gB, gC, gD, gE, gF, gG, gH⟩ := cz4 ao))
                  have bI : Aside0 (Kd.R k33 33 ((((dN.setCell ⟨ad, 0, none⟩ (.int .i64 ((rd_T33 ab ac).f0))).setCell ⟨ad, 1, none⟩ (.int .i64 ((rd_T33 ab ac).f1))).setCell ⟨ad, 2, none⟩ (.int .i64 ((rd_T33 ab ac).f2))).setCell ⟨ad, 3, none⟩ (.bool ((rd_T33 ab ac).f3))) w.heap.size (fun k_ => nb k_ (.slice au ai.length ar) ∧ nb k_ (.slice aw av.length ax) ∧ k_ ≠ ad) (.slice (some ad337) ab.length ay) ab) := ⟨by (with_reducible repeat (first | apply Kd.R_alloc | apply Kd.R_drewN | apply Kd.R_drew)); exact Kd.R_mono (Kd.R_far (p := ⟨ad, 3, none⟩) (Kd.R_far (p := ⟨ad, 2, none⟩) (Kd.R_far (p := ⟨ad, 1, none⟩) (Kd.R_far (p := ⟨ad, 0, none⟩) (Kd.R_mono aj.out (fun k_ hk => (⟨hk, hk.2⟩ : _ ∧ k_ ≠ ad))) (fun _ hk => hk.2) (.int .i64 ((rd_T33 ab ac).f0))) (fun _ hk => hk.2) (.int .i64 ((rd_T33 ab ac).f1))) (fun _ hk => hk.2) (.int .i64 ((rd_T33 ab ac).f2))) (fun _ hk => hk.2) (.bool ((rd_T33 ab ac).f3))) (fun _ hk => ⟨hk.1.1.1, ⟨hk.1.1.2, hk.1.2⟩⟩)⟩; have bJ : Aside0 (Kd.R k33 33 ((((dN.setCell ⟨ad, 0, none⟩ (.int .i64 ((rd_T33 ab ac).f0))).setCell ⟨ad, 1, none⟩ (.int .i64 ((rd_T33 ab ac).f1))).setCell ⟨ad, 2, none⟩ (.int .i64 ((rd_T33 ab ac).f2))).setCell ⟨ad, 3, none⟩ (.bool ((rd_T33 ab ac).f3))) w.heap.size (fun k_ => some k_ ≠ (.slice (some ad337) ab.length ay : Value).ownBlock ∧ nb k_ (.slice aw av.length ax) ∧ k_ ≠ ad) (.slice au ai.length ar) ai) := ⟨by (with_reducible repeat (first | apply Kd.R_alloc | apply Kd.R_drewN | apply Kd.R_drew)); exact Kd.R_mono (Kd.R_far (p := ⟨ad, 3, none⟩) (Kd.R_far (p := ⟨ad, 2, none⟩) (Kd.R_far (p := ⟨ad, 1, none⟩) (Kd.R_far (p := ⟨ad, 0, none⟩) (Kd.R_mono af.out (fun k_ hk => (⟨hk, hk.2⟩ : _ ∧ k_ ≠ ad))) (fun _ hk => hk.2) (.int .i64 ((rd_T33 ab ac).f0))) (fun _ hk => hk.2) (.int .i64 ((rd_T33 ab ac).f1))) (fun _ hk => hk.2) (.int .i64 ((rd_T33 ab ac).f2))) (fun _ hk => hk.2) (.bool ((rd_T33 ab ac).f3))) (fun _ hk => ⟨hk.1.1.1, ⟨hk.1.1.2, hk.1.2⟩⟩)⟩
                  have bK : Aside0 (Kd.R k33 33 ((((dN.setCell ⟨ad, 0, none⟩ (.int .i64 ((rd_T33 ab ac).f0))).setCell ⟨ad, 1, none⟩ (.int .i64 ((rd_T33 ab ac).f1))).setCell ⟨ad, 2, none⟩ (.int .i64 ((rd_T33 ab ac).f2))).setCell ⟨ad, 3, none⟩ (.bool ((rd_T33 ab ac).f3))) w.heap.size (fun k_ => some k_ ≠ (.slice (some ad337) ab.length ay : Value).ownBlock ∧ nb k_ (.slice au ai.length ar) ∧ k_ ≠ ad) (.slice aw av.length ax) av) := ⟨by (with_reducible repeat (first | apply Kd.R_alloc | apply Kd.R_drewN | apply Kd.R_drew)); exact Kd.R_mono (Kd.R_far (p := ⟨ad, 3, none⟩) (Kd.R_far (p := ⟨ad, 2, none⟩) (Kd.R_far (p := ⟨ad, 1, none⟩) (Kd.R_far (p := ⟨ad, 0, none⟩) (Kd.R_mono ag.out (fun k_ hk => (⟨hk, hk.2⟩ : _ ∧ k_ ≠ ad))) (fun _ hk => hk.2) (.int .i64 ((rd_T33 ab ac).f0))) (fun _ hk => hk.2) (.int .i64 ((rd_T33 ab ac).f1))) (fun _ hk => hk.2) (.int .i64 ((rd_T33 ab ac).f2))) (fun _ hk => hk.2) (.bool ((rd_T33 ab ac).f3))) (fun _ hk => ⟨hk.1.1.1, ⟨hk.1.1.2, hk.1.2⟩⟩)⟩; have bL : Aside0 (((((dN.setCell ⟨ad, 0, none⟩ (.int .i64 ((rd_T33 ab ac).f0))).setCell ⟨ad, 1, none⟩ (.int .i64 ((rd_T33 ab ac).f1))).setCell ⟨ad, 2, none⟩ (.int .i64 ((rd_T33 ab ac).f2))).setCell ⟨ad, 3, none⟩ (.bool ((rd_T33 ab ac).f3))).heap[aq]? = some (.cells #[.int .i64 an, .int .i64 ak, .int .i64 am, .slice au ai.length ar] 28 (0, 0))) := ⟨zB ae.out⟩; have bM : Aside0 (((((dN.setCell ⟨ad, 0, none⟩ (.int .i64 ((rd_T33 ab ac).f0))).setCell ⟨ad, 1, none⟩ (.int .i64 ((rd_T33 ab ac).f1))).setCell ⟨ad, 2, none⟩ (.int .i64 ((rd_T33 ab ac).f2))).setCell ⟨ad, 3, none⟩ (.bool ((rd_T33 ab ac).f3))).heap[bm]? = some (.cells #[.int .i64 bq, .int .i64 br, .int .i64 bs, .slice aw av.length ax] 28 (0, 0))) := ⟨zB ah.out⟩
                  have bN : Aside0 (((((dN.setCell ⟨ad, 0, none⟩ (.int .i64 ((rd_T33 ab ac).f0))).setCell ⟨ad, 1, none⟩ (.int .i64 ((rd_T33 ab ac).f1))).setCell ⟨ad, 2, none⟩ (.int .i64 ((rd_T33 ab ac).f2))).setCell ⟨ad, 3, none⟩ (.bool ((rd_T33 ab ac).f3))).heap[ad]? = some (.cells #[.int .i64 ((rd_T33 ab ac).f0), .int .i64 ((rd_T33 ab ac).f1), .int .i64 ((rd_T33 ab ac).f2), .bool ((rd_T33 ab ac).f3)] 33 (0, 0))) := ⟨by (with_reducible repeat (first | refine blk_drewN ?_ _ | refine blk_drew ?_ | refine blk_alloc ?_ _)); refine blk_put (cs := #[.int .i64 ((rd_T33 ab ac).f0), .int .i64 ((rd_T33 ab ac).f1), .int .i64 ((rd_T33 ab ac).f2), .bool false]) ?_ 3 _ rfl; (with_reducible repeat (first | refine blk_drewN ?_ _ | refine blk_drew ?_ | refine blk_alloc ?_ _)); refine blk_put (cs := #[.int .i64 ((rd_T33 ab ac).f0), .int .i64 ((rd_T33 ab ac).f1), .int .i64 0, .bool false]) ?_ 2 _ rfl; (with_reducible repeat (first | refine blk_drewN ?_ _ | refine blk_drew ?_ | refine blk_alloc ?_ _)); refine blk_put (cs := #[.int .i64 ((rd_T33 ab ac).f0), .int .i64 0, .int .i64 0, .bool false]) ?_ 1 _ rfl; (with_reducible repeat (first | refine blk_drewN ?_ _ | refine blk_drew ?_ | refine blk_alloc ?_ _)); refine blk_put (cs := #[.int .i64 0, .int .i64 0, .int .i64 0, .bool false]) ?_ 0 _ rfl; (with_reducible repeat (first | refine blk_drewN ?_ _ | refine blk_drew ?_ | refine blk_alloc ?_ _)); exact ao.out⟩; have bO : Aside0 (Below w.heap.size w ((((dN.setCell ⟨ad, 0, none⟩ (.int .i64 ((rd_T33 ab ac).f0))).setCell ⟨ad, 1, none⟩ (.int .i64 ((rd_T33 ab ac).f1))).setCell ⟨ad, 2, none⟩ (.int .i64 ((rd_T33 ab ac).f2))).setCell ⟨ad, 3, none⟩ (.bool ((rd_T33 ab ac).f3)))) := ⟨zS HB.out⟩
                  (try clear aj)
                  (try clear af)
                  (try clear ag)
                  (try clear ae)
                  (try clear ah)
                  (try clear ao)
                  (try clear HB)
                  generalize ((((dN.setCell ⟨ad, 0, none⟩ (.int .i64 ((rd_T33 ab ac).f0))).setCell ⟨ad, 1, none⟩ (.int .i64 ((rd_T33 ab ac).f1))).setCell ⟨ad, 2, none⟩ (.int .i64 ((rd_T33 ab ac).f2))).setCell ⟨ad, 3, none⟩ (.bool ((rd_T33 ab ac).f3))) = hC at bI bJ bK bL bM bN bO ⊢; have aj := bI; have af := bJ; have ag := bK; have ae := bL; have ah := bM; have ao := bN; have HB := bO; clear bI bJ bK bL bM bN bO; replace aj := Aside0.mk (Kd.R_drew aj.out); replace af := Aside0.mk (Kd.R_drew af.out); replace ag := Aside0.mk (Kd.R_drew ag.out); replace ae := Aside0.mk (blk_drew ae.out); replace ah := Aside0.mk (blk_drew ah.out); replace ao := Aside0.mk (blk_drew ao.out); replace HB := Aside0.mk (below_drew1 HB.out); refine start_ (n := 36) (S := fun w' => True) (ds := []) bl0 (by kernel_rfl) rfl rfl trivial (fun hHeld => ?_); refine with_tabW laws_FnMake.tab20 laws_FnMake.bits20 (fun HT_ HW_ => ?_); generalize hC.drew = jq at aj af ag ae ah ao HB hHeld ⊢
                  refine pv_ 0 (some 97) bl1 HT_ ?_
                  refine pv_ 1 (some 98) bl2 HT_ ?_
                  refine pn_ 2 (some 99) bl3 HT_ ?_
                  refine pn_ 3 (some 100) bl4 HT_ ?_
                  refine pn_ 4 (some 101) bl5 HT_ ?_
                  refine pn_ 5 (some 102) bl6 HT_ ?_
                  refine pn_ 6 (some 103) bl7 HT_ ?_
                  refine pn_ 7 (some 104) bl8 HT_ ?_
                  refine pn_ 8 (some 105) bl9 HT_ ?_
                  refine pn_ 9 (some 106) bl10 HT_ ?_
                  refine pn_ 10 (some 107) bl11 HT_ ?_
                  refine pn_ 11 (some 108) bl12 HT_ ?_
                  refine pn_ 12 (some 109) bl13 HT_ ?_
                  refine pn_ 13 (some 110) bl14 HT_ ?_
                  refine pn_ 14 (some 111) bl15 HT_ ?_
                  refine pn_ 15 (some 112) bl16 HT_ ?_
                  refine pn_ 16 (some 113) bl17 HT_ ?_
                  refine pn_ 17 (some 114) bl18 HT_ ?_
                  refine pn_ 18 (some 115) bl19 HT_ ?_
                  refine pn_ 19 (some 116) bl20 HT_ ?_
                  refine pn_ 20 (some 117) bl21 HT_ ?_
                  refine pn_ 21 (some 118) bl22 HT_ ?_
                  refine pn_ 22 (some 119) bl23 HT_ ?_
                  refine pn_ 23 (some 120) bl24 HT_ ?_
                  refine pn_ 24 (some 121) bl25 HT_ ?_
                  refine pn_ 25 (some 122) bl26 HT_ ?_
                  refine pn_ 26 (some 123) bl27 HT_ ?_
                  refine pn_ 27 (some 124) bl28 HT_ ?_
                  refine pn_ 28 (some 125) bl29 HT_ ?_
                  refine pn_ 29 (some 126) bl30 HT_ ?_
                  refine pn_ 30 (some 127) bl31 HT_ ?_
                  refine pn_ 31 (some 128) bl32 HT_ ?_
                  refine pn_ 32 (some 129) bl33 HT_ ?_
                  refine pn_ 33 (some 130) bl34 HT_ ?_
                  refine pv_ 34 (some 131) bl35 HT_ ?_
                  refine pv_ 35 (some 12) bl36 HT_ ?_
                  refine done_ (done_of HT_.out (by kernel_rfl)) ?_
                  try go_wp2
                  go_roundg k4
                  case measure => have := HJ19.out; have := HK2.out; have := HJ46.out; have := HK4.out; omega
                  case rel => exact ⟨(true), (wrap64 (ac + 1)), (by first | rfl | (simp; done) | (simp [*]; done) | (rw [Int.tmod_eq_emod_of_nonneg (Int.natCast_nonneg _)]; done)), (by first | rfl | (simp; done) | (simp [*]; done) | (rw [Int.tmod_eq_emod_of_nonneg (Int.natCast_nonneg _)]; done)), H', ⟨by have := HJ19.out; have := HK2.out; have := HJ46.out; have := HK4.out; omega⟩, ⟨by (with_reducible repeat (first | apply Kd.R_alloc | apply Kd.R_drewN | apply Kd.R_drew)); exact Kd.R_mono aj.out (fun _ hk => ⟨hk.1, hk.2.1⟩)⟩, ⟨by (with_reducible repeat (first | apply Kd.R_alloc | apply Kd.R_drewN | apply Kd.R_drew)); exact Kd.R_mono af.out (fun _ hk => ⟨hk.1, hk.2.1⟩)⟩, ⟨by (with_reducible repeat (first | apply Kd.R_alloc | apply Kd.R_drewN | apply Kd.R_drew)); exact Kd.R_mono ag.out (fun _ hk => ⟨hk.1, hk.2.1⟩)⟩, ⟨zB ae.out⟩, ⟨zB ah.out⟩, ⟨zS HB.out⟩⟩
                 ·replace es := Bool.eq_false_iff.mpr es; subst es
                  have H1 : (if 0 ≤ aa then (if aa < (ab.length : Int) then (if ((rd_T33 ab ac).f0) = ((rd_T33 ab aa).f0) then (if ((rd_T33 ab ac).f1) = ((rd_T33 ab aa).f1) then (if ((rd_T33 ab ac).f2) = ((rd_T33 ab aa).f2) then (laws_FnMake.l1 k4 ab aa ((rd_T33 ab ac).f3) (wrap64 (ac + 1)) an ak am ai) else (laws_FnMake.l1 k4 ab aa false (wrap64 (ac + 1)) an ak am ai)) else (laws_FnMake.l1 k4 ab aa false (wrap64 (ac + 1)) an ak am ai)) else (laws_FnMake.l1 k4 ab aa false (wrap64 (ac + 1)) an ak am ai)) else (none)) else (none)) = some r := by rw [if_neg (show ¬ (false = true) by decide)] at H; exact H
                  clear H; have H := H1; clear H1
                  by_cases et : 0 ≤ aa
                  ·rw [if_pos et] at H; have ie : decide (0 ≤ aa) = true := decide_eq_true et; clear et
                   by_cases eu : aa < (ab.length : Int)
                   ·rw [if_pos eu] at H; have ig : decide (aa < (ab.length : Int)) = true := decide_eq_true eu; clear eu
                    by_cases dY : ((rd_T33 ab ac).f0) = ((rd_T33 ab aa).f0)
                    ·rw [if_pos dY] at H; have fc : (((rd_T33 ab ac).f0) == ((rd_T33 ab aa).f0)) = true := beq_iff_eq.mpr dY; have fd : (((rd_T33 ab ac).f0) != ((rd_T33 ab aa).f0)) = false := bne_eq_false_iff_eq.mpr dY; clear dY
                     by_cases dZ : ((rd_T33 ab ac).f1) = ((rd_T33 ab aa).f1)
                     ·rw [if_pos dZ] at H; have fe : (((rd_T33 ab ac).f1) == ((rd_T33 ab aa).f1)) = true := beq_iff_eq.mpr dZ; have ff : (((rd_T33 ab ac).f1) != ((rd_T33 ab aa).f1)) = false := bne_eq_false_iff_eq.mpr dZ; clear dZ
                      by_cases ea : ((rd_T33 ab ac).f2) = ((rd_T33 ab aa).f2)
                      ·rw [if_pos ea] at H; have fg : (((rd_T33 ab ac).f2) == ((rd_T33 ab aa).f2)) = true := beq_iff_eq.mpr ea; have fh : (((rd_T33 ab ac).f2) != ((rd_T33 ab aa).f2)) = false := bne_eq_false_iff_eq.mpr ea; clear ea; have H' := Aside0.mk H; clear H; have bn : 0 ≤ (ac : Int) := of_decide_eq_true (by first | (with_reducible assumption) | assumption); have q337 : ac < (ab.length : Int) := of_decide_eq_true (by first | (with_reducible assumption) | assumption); obtain ⟨ad337, e337, dA, dB, dC, dD⟩ := at_T33 (Kd.R_reads' aj.out).2.2 ac bn q337
                       cases e337
                       replace bn := eq_true bn; replace q337 := eq_true q337
                       try go_wp2_with (first | ((with_reducible refine gate_dst (N := 14) rfl ?_); (try (refine gate_guard (by rfl) ?_; dsimp only)); refine box_event ?hg (N := 14) ?hd (cs := #[.int .i64 0, .int .i64 0, .int .i64 0, .bool false]) (t := 33) ?hr ?_; (case hd => rfl); (case hg => rfl); (case hr => first | (go_simp; done) | (go_simp; rfl)); intro ad hg dO hbox hb; replace aj := Aside0.mk (Kd.R_below (Kd.R_elderB (zR aj.out) ad (Nat.le_of_eq hg.symm)) hb); replace af := Aside0.mk (Kd.R_below (Kd.R_elderB (zR af.out) ad (Nat.le_of_eq hg.symm)) hb); replace ag := Aside0.mk (Kd.R_below (Kd.R_elderB (zR ag.out) ad (Nat.le_of_eq hg.symm)) hb); have ao := Aside0.mk (hbox); have dS := xG HB hg; have dT := xG HB hg; replace HB := xS HB hb; have aG := xN ae hg; have aH := xM ae hg; replace ae := xB ae hb; have aI := xN ah hg; have aJ := xM ah hg; replace ah := xB ah hb; clear hb hbox hg; have ih := aH.out; have ii := aG.out; have ij := aJ.out; have ik := aI.out; obtain ⟨gI, gJ, gK, gL, gM, gN, gO, gP⟩ := cz4 ao))
                       have bI : Aside0 (Kd.R k33 33 ((((dO.setCell ⟨ad, 0, none⟩ (.int .i64 ((rd_T33 ab ac).f0))).setCell ⟨ad, 1, none⟩ (.int .i64 ((rd_T33 ab ac).f1))).setCell ⟨ad, 2, none⟩ (.int .i64 ((rd_T33 ab ac).f2))).setCell ⟨ad, 3, none⟩ (.bool ((rd_T33 ab ac).f3))) w.heap.size (fun k_ => nb k_ (.slice au ai.length ar) ∧ nb k_ (.slice aw av.length ax) ∧ k_ ≠ ad) (.slice (some ad337) ab.length ay) ab) := ⟨by (with_reducible repeat (first | apply Kd.R_alloc | apply Kd.R_drewN | apply Kd.R_drew)); exact Kd.R_mono (Kd.R_far (p := ⟨ad, 3, none⟩) (Kd.R_far (p := ⟨ad, 2, none⟩) (Kd.R_far (p := ⟨ad, 1, none⟩) (Kd.R_far (p := ⟨ad, 0, none⟩) (Kd.R_mono aj.out (fun k_ hk => (⟨hk, hk.2⟩ : _ ∧ k_ ≠ ad))) (fun _ hk => hk.2) (.int .i64 ((rd_T33 ab ac).f0))) (fun _ hk => hk.2) (.int .i64 ((rd_T33 ab ac).f1))) (fun _ hk => hk.2) (.int .i64 ((rd_T33 ab ac).f2))) (fun _ hk => hk.2) (.bool ((rd_T33 ab ac).f3))) (fun _ hk => ⟨hk.1.1.1, ⟨hk.1.1.2, hk.1.2⟩⟩)⟩; have bJ : Aside0 (Kd.R k33 33 ((((dO.setCell ⟨ad, 0, none⟩ (.int .i64 ((rd_T33 ab ac).f0))).setCell ⟨ad, 1, none⟩ (.int .i64 ((rd_T33 ab ac).f1))).setCell ⟨ad, 2, none⟩ (.int .i64 ((rd_T33 ab ac).f2))).setCell ⟨ad, 3, none⟩ (.bool ((rd_T33 ab ac).f3))) w.heap.size (fun k_ => some k_ ≠ (.slice (some ad337) ab.length ay : Value).ownBlock ∧ nb k_ (.slice aw av.length ax) ∧ k_ ≠ ad) (.slice au ai.length ar) ai) := ⟨by (with_reducible repeat (first | apply Kd.R_alloc | apply Kd.R_drewN | apply Kd.R_drew)); exact Kd.R_mono (Kd.R_far (p := ⟨ad, 3, none⟩) (Kd.R_far (p := ⟨ad, 2, none⟩) (Kd.R_far (p := ⟨ad, 1, none⟩) (Kd.R_far (p := ⟨ad, 0, none⟩) (Kd.R_mono af.out (fun k_ hk => (⟨hk, hk.2⟩ : _ ∧ k_ ≠ ad))) (fun _ hk => hk.2) (.int .i64 ((rd_T33 ab ac).f0))) (fun _ hk => hk.2) (.int .i64 ((rd_T33 ab ac).f1))) (fun _ hk => hk.2) (.int .i64 ((rd_T33 ab ac).f2))) (fun _ hk => hk.2) (.bool ((rd_T33 ab ac).f3))) (fun _ hk => ⟨hk.1.1.1, ⟨hk.1.1.2, hk.1.2⟩⟩)⟩
                       have bK : Aside0 (Kd.R k33 33 ((((dO.setCell ⟨ad, 0, none⟩ (.int .i64 ((rd_T33 ab ac).f0))).setCell ⟨ad, 1, none⟩ (.int .i64 ((rd_T33 ab ac).f1))).setCell ⟨ad, 2, none⟩ (.int .i64 ((rd_T33 ab ac).f2))).setCell ⟨ad, 3, none⟩ (.bool ((rd_T33 ab ac).f3))) w.heap.size (fun k_ => some k_ ≠ (.slice (some ad337) ab.length ay : Value).ownBlock ∧ nb k_ (.slice au ai.length ar) ∧ k_ ≠ ad) (.slice aw av.length ax) av) := ⟨by (with_reducible repeat (first | apply Kd.R_alloc | apply Kd.R_drewN | apply Kd.R_drew)); exact Kd.R_mono (Kd.R_far (p := ⟨ad, 3, none⟩) (Kd.R_far (p := ⟨ad, 2, none⟩) (Kd.R_far (p := ⟨ad, 1, none⟩) (Kd.R_far (p := ⟨ad, 0, none⟩) (Kd.R_mono ag.out (fun k_ hk => (⟨hk, hk.2⟩ : _ ∧ k_ ≠ ad))) (fun _ hk => hk.2) (.int .i64 ((rd_T33 ab ac).f0))) (fun _ hk => hk.2) (.int .i64 ((rd_T33 ab ac).f1))) (fun _ hk => hk.2) (.int .i64 ((rd_T33 ab ac).f2))) (fun _ hk => hk.2) (.bool ((rd_T33 ab ac).f3))) (fun _ hk => ⟨hk.1.1.1, ⟨hk.1.1.2, hk.1.2⟩⟩)⟩; have bL : Aside0 (((((dO.setCell ⟨ad, 0, none⟩ (.int .i64 ((rd_T33 ab ac).f0))).setCell ⟨ad, 1, none⟩ (.int .i64 ((rd_T33 ab ac).f1))).setCell ⟨ad, 2, none⟩ (.int .i64 ((rd_T33 ab ac).f2))).setCell ⟨ad, 3, none⟩ (.bool ((rd_T33 ab ac).f3))).heap[aq]? = some (.cells #[.int .i64 an, .int .i64 ak, .int .i64 am, .slice au ai.length ar] 28 (0, 0))) := ⟨zB ae.out⟩; have bM : Aside0 (((((dO.setCell ⟨ad, 0, none⟩ (.int .i64 ((rd_T33 ab ac).f0))).setCell ⟨ad, 1, none⟩ (.int .i64 ((rd_T33 ab ac).f1))).setCell ⟨ad, 2, none⟩ (.int .i64 ((rd_T33 ab ac).f2))).setCell ⟨ad, 3, none⟩ (.bool ((rd_T33 ab ac).f3))).heap[bm]? = some (.cells #[.int .i64 bq, .int .i64 br, .int .i64 bs, .slice aw av.length ax] 28 (0, 0))) := ⟨zB ah.out⟩
                       have bN : Aside0 (((((dO.setCell ⟨ad, 0, none⟩ (.int .i64 ((rd_T33 ab ac).f0))).setCell ⟨ad, 1, none⟩ (.int .i64 ((rd_T33 ab ac).f1))).setCell ⟨ad, 2, none⟩ (.int .i64 ((rd_T33 ab ac).f2))).setCell ⟨ad, 3, none⟩ (.bool ((rd_T33 ab ac).f3))).heap[ad]? = some (.cells #[.int .i64 ((rd_T33 ab ac).f0), .int .i64 ((rd_T33 ab ac).f1), .int .i64 ((rd_T33 ab ac).f2), .bool ((rd_T33 ab ac).f3)] 33 (0, 0))) := ⟨by (with_reducible repeat (first | refine blk_drewN ?_ _ | refine blk_drew ?_ | refine blk_alloc ?_ _)); refine blk_put (cs := #[.int .i64 ((rd_T33 ab ac).f0), .int .i64 ((rd_T33 ab ac).f1), .int .i64 ((rd_T33 ab ac).f2), .bool false]) ?_ 3 _ rfl; (with_reducible repeat (first | refine blk_drewN ?_ _ | refine blk_drew ?_ | refine blk_alloc ?_ _)); refine blk_put (cs := #[.int .i64 ((rd_T33 ab ac).f0), .int .i64 ((rd_T33 ab ac).f1), .int .i64 0, .bool false]) ?_ 2 _ rfl; (with_reducible repeat (first | refine blk_drewN ?_ _ | refine blk_drew ?_ | refine blk_alloc ?_ _)); refine blk_put (cs := #[.int .i64 ((rd_T33 ab ac).f0), .int .i64 0, .int .i64 0, .bool false]) ?_ 1 _ rfl; (with_reducible repeat (first | refine blk_drewN ?_ _ | refine blk_drew ?_ | refine blk_alloc ?_ _)); refine blk_put (cs := #[.int .i64 0, .int .i64 0, .int .i64 0, .bool false]) ?_ 0 _ rfl; (with_reducible repeat (first | refine blk_drewN ?_ _ | refine blk_drew ?_ | refine blk_alloc ?_ _)); exact ao.out⟩; have bO : Aside0 (Below w.heap.size w ((((dO.setCell ⟨ad, 0, none⟩ (.int .i64 ((rd_T33 ab ac).f0))).setCell ⟨ad, 1, none⟩ (.int .i64 ((rd_T33 ab ac).f1))).setCell ⟨ad, 2, none⟩ (.int .i64 ((rd_T33 ab ac).f2))).setCell ⟨ad, 3, none⟩ (.bool ((rd_T33 ab ac).f3)))) := ⟨zS HB.out⟩
                       (try clear aj)
                       (try clear af)
                       (try clear ag)
                       (try clear ae)
                       (try clear ah)
                       (try clear ao)
                       (try clear HB)
                       generalize ((((dO.setCell ⟨ad, 0, none⟩ (.int .i64 ((rd_T33 ab ac).f0))).setCell ⟨ad, 1, none⟩ (.int .i64 ((rd_T33 ab ac).f1))).setCell ⟨ad, 2, none⟩ (.int .i64 ((rd_T33 ab ac).f2))).setCell ⟨ad, 3, none⟩ (.bool ((rd_T33 ab ac).f3))) = hD at bI bJ bK bL bM bN bO ⊢; have aj := bI; have af := bJ; have ag := bK; have ae := bL; have ah := bM; have ao := bN; have HB := bO; clear bI bJ bK bL bM bN bO; replace aj := Aside0.mk (Kd.R_drew aj.out); replace af := Aside0.mk (Kd.R_drew af.out); replace ag := Aside0.mk (Kd.R_drew ag.out); replace ae := Aside0.mk (blk_drew ae.out); replace ah := Aside0.mk (blk_drew ah.out); replace ao := Aside0.mk (blk_drew ao.out); replace HB := Aside0.mk (below_drew1 HB.out); have bv : 0 ≤ (aa : Int) := of_decide_eq_true (by first | (with_reducible assumption) | assumption); have q339 : aa < (ab.length : Int) := of_decide_eq_true (by first | (with_reducible assumption) | assumption); obtain ⟨ad339, e339, aK, aL, aM, aN⟩ := at_T33 (Kd.R_reads' aj.out).2.2 aa bv q339; obtain rfl : ad337 = ad339 := (by injection e339); replace bv := eq_true bv; replace q339 := eq_true q339; have bT : 0 ≤ (aa : Int) := of_decide_eq_true (by first | (with_reducible assumption) | assumption); have q340 : aa < (ab.length : Int) := of_decide_eq_true (by first | (with_reducible assumption) | assumption); obtain ⟨ad340, e340, bD, bE, bF, bG⟩ := at_T33 (Kd.R_reads' aj.out).2.2 aa bT q340; obtain rfl : ad337 = ad340 := (by injection e340); replace bT := eq_true bT; replace q340 := eq_true q340; have dE : 0 ≤ (aa : Int) := of_decide_eq_true (by first | (with_reducible assumption) | assumption); have q341 : aa < (ab.length : Int) := of_decide_eq_true (by first | (with_reducible assumption) | assumption); obtain ⟨ad341, e341, bV, bW, bX, bY⟩ := at_T33 (Kd.R_reads' aj.out).2.2 aa dE q341; obtain rfl : ad337 = ad341 := (by injection e341); replace dE := eq_true dE; replace q341 := eq_true q341
                       refine start_ (n := 36) (S := fun w' => w'.cell? ⟨ad, 0, none⟩ = some (.int .i64 ((rd_T33 ab ac).f0)) ∧ w'.cell? ⟨ad, 1, none⟩ = some (.int .i64 ((rd_T33 ab ac).f1)) ∧ w'.cell? ⟨ad, 2, none⟩ = some (.int .i64 ((rd_T33 ab ac).f2)) ∧ w'.cell? ⟨ad, 3, none⟩ = some (.bool ((rd_T33 ab ac).f3)) ∧ w'.cell? (ad337.add ((aa).toNat * 4)) = some (.int .i64 ((rd_T33 ab aa).f0)) ∧ w'.cell? ⟨(ad337.add ((aa).toNat * 4)).block, (ad337.add ((aa).toNat * 4)).off + 1, none⟩ = some (.int .i64 ((rd_T33 ab aa).f1)) ∧ w'.cell? ⟨(ad337.add ((aa).toNat * 4)).block, (ad337.add ((aa).toNat * 4)).off + 2, none⟩ = some (.int .i64 ((rd_T33 ab aa).f2)) ∧ w'.cell? ⟨(ad337.add ((aa).toNat * 4)).block, (ad337.add ((aa).toNat * 4)).off + 3, none⟩ = some (.bool ((rd_T33 ab aa).f3)) ∧ w'.cell? (ad337.add ((aa).toNat * 4)) = some (.int .i64 ((rd_T33 ab aa).f0)) ∧ w'.cell? ⟨(ad337.add ((aa).toNat * 4)).block, (ad337.add ((aa).toNat * 4)).off + 1, none⟩ = some (.int .i64 ((rd_T33 ab aa).f1)) ∧ w'.cell? ⟨(ad337.add ((aa).toNat * 4)).block, (ad337.add ((aa).toNat * 4)).off + 2, none⟩ = some (.int .i64 ((rd_T33 ab aa).f2)) ∧ w'.cell? ⟨(ad337.add ((aa).toNat * 4)).block, (ad337.add ((aa).toNat * 4)).off + 3, none⟩ = some (.bool ((rd_T33 ab aa).f3)) ∧ w'.cell? (ad337.add ((aa).toNat * 4)) = some (.int .i64 ((rd_T33 ab aa).f0)) ∧ w'.cell? ⟨(ad337.add ((aa).toNat * 4)).block, (ad337.add ((aa).toNat * 4)).off + 1, none⟩ = some (.int .i64 ((rd_T33 ab aa).f1)) ∧ w'.cell? ⟨(ad337.add ((aa).toNat * 4)).block, (ad337.add ((aa).toNat * 4)).off + 2, none⟩ = some (.int .i64 ((rd_T33 ab aa).f2)) ∧ w'.cell? ⟨(ad337.add ((aa).toNat * 4)).block, (ad337.add ((aa).toNat * 4)).off + 3, none⟩ = some (.bool ((rd_T33 ab aa).f3))) (ds := []) bl0 (by kernel_rfl) rfl rfl ⟨b1 ao 0, b1 ao 1, b1 ao 2, b1 ao 3, aK, aL, aM, aN, bD, bE, bF, bG, bV, bW, bX, bY⟩ (fun hHeld => ?_); refine with_tabW laws_FnMake.tab20 laws_FnMake.bits20 (fun HT_ HW_ => ?_); generalize hD.drew = jr at aj af ag ae ah ao HB aK aL aM aN bD bE bF bG bV bW bX bY hHeld ⊢
                       refine pv_ 0 (some 97) bl1 HT_ ?_
                       refine pv_ 1 (some 98) bl2 HT_ ?_
                       refine pv_ 2 (some 99) bl3 HT_ ?_
                       refine pv_ 4 (some 101) bl37 HT_ ?_
                       refine pv_ 5 (some 102) bl38 HT_ ?_
                       refine pv_ 6 (some 103) bl39 HT_ ?_
                       refine pv_ 7 (some 104) bl40 HT_ ?_
                       refine tk_ 3 (some 100) bl8 HT_ HW_ hHeld ?_
                       refine tk_ 8 (some 105) bl9 HT_ HW_ hHeld ?_
                       refine pv_ 9 (some 106) bl10 HT_ ?_
                       refine pv_ 10 (some 107) bl11 HT_ ?_
                       refine pv_ 11 (some 108) bl12 HT_ ?_
                       refine pv_ 13 (some 110) bl41 HT_ ?_
                       refine pv_ 14 (some 111) bl42 HT_ ?_
                       refine pv_ 15 (some 112) bl43 HT_ ?_
                       refine pv_ 16 (some 113) bl44 HT_ ?_
                       refine tk_ 12 (some 109) bl17 HT_ HW_ hHeld ?_
                       refine tk_ 17 (some 114) bl18 HT_ HW_ hHeld ?_
                       refine pv_ 18 (some 115) bl19 HT_ ?_
                       refine pv_ 19 (some 116) bl20 HT_ ?_
                       refine pv_ 20 (some 117) bl21 HT_ ?_
                       refine pv_ 21 (some 118) bl22 HT_ ?_
                       refine pv_ 23 (some 120) bl45 HT_ ?_
                       refine pv_ 24 (some 121) bl46 HT_ ?_
                       refine pv_ 25 (some 122) bl47 HT_ ?_
                       refine pv_ 26 (some 123) bl48 HT_ ?_
                       refine tk_ 22 (some 119) bl27 HT_ HW_ hHeld ?_
                       refine tk_ 27 (some 124) bl28 HT_ HW_ hHeld ?_
                       refine pv_ 28 (some 125) bl29 HT_ ?_
                       refine pv_ 29 (some 126) bl30 HT_ ?_
                       refine pv_ 30 (some 127) bl31 HT_ ?_
                       refine pv_ 31 (some 128) bl32 HT_ ?_
                       refine tk_ 32 (some 129) bl33 HT_ HW_ hHeld ?_
                       refine pv_ 33 (some 130) bl34 HT_ ?_
                       refine pv_ 34 (some 131) bl35 HT_ ?_
                       refine pv_ 35 (some 12) bl36 HT_ ?_
                       refine done_ (done_of HT_.out (by kernel_rfl)) ?_
                       try go_wp2
                       go_roundg k4
                       case measure => have := HJ19.out; have := HK2.out; have := HJ46.out; have := HK4.out; omega
                       case rel => exact ⟨((rd_T33 ab ac).f3), (wrap64 (ac + 1)), (by first | rfl | (simp; done) | (simp [*]; done) | (rw [Int.tmod_eq_emod_of_nonneg (Int.natCast_nonneg _)]; done)), (by first | rfl | (simp; done) | (simp [*]; done) | (rw [Int.tmod_eq_emod_of_nonneg (Int.natCast_nonneg _)]; done)), H', ⟨by have := HJ19.out; have := HK2.out; have := HJ46.out; have := HK4.out; omega⟩, ⟨by (with_reducible repeat (first | apply Kd.R_alloc | apply Kd.R_drewN | apply Kd.R_drew)); exact Kd.R_mono aj.out (fun _ hk => ⟨hk.1, hk.2.1⟩)⟩, ⟨by (with_reducible repeat (first | apply Kd.R_alloc | apply Kd.R_drewN | apply Kd.R_drew)); exact Kd.R_mono af.out (fun _ hk => ⟨hk.1, hk.2.1⟩)⟩, ⟨by (with_reducible repeat (first | apply Kd.R_alloc | apply Kd.R_drewN | apply Kd.R_drew)); exact Kd.R_mono ag.out (fun _ hk => ⟨hk.1, hk.2.1⟩)⟩, ⟨zB ae.out⟩, ⟨zB ah.out⟩, ⟨zS HB.out⟩⟩
                      ·rw [if_neg ea] at H; have fg : (((rd_T33 ab ac).f2) == ((rd_T33 ab aa).f2)) = false := beq_eq_false_iff_ne.mpr ea; have fh : (((rd_T33 ab ac).f2) != ((rd_T33 ab aa).f2)) = true := bne_iff_ne.mpr ea; have H' := Aside0.mk H; clear H; have bn : 0 ≤ (ac : Int) := of_decide_eq_true (by first | (with_reducible assumption) | assumption); have q337 : ac < (ab.length : Int) := of_decide_eq_true (by first | (with_reducible assumption) | assumption); obtain ⟨ad337, e337, dA, dB, dC, dD⟩ := at_T33 (Kd.R_reads' aj.out).2.2 ac bn q337
                       cases e337
                       replace bn := eq_true bn; replace q337 := eq_true q337
                       try go_wp2_with (first | ((with_reducible refine gate_dst (N := 14) rfl ?_); (try (refine gate_guard (by rfl) ?_; dsimp only)); refine box_event ?hg (N := 14) ?hd (cs := #[.int .i64 0, .int .i64 0, .int .i64 0, .bool false]) (t := 33) ?hr ?_; (case hd => rfl); (case hg => rfl); (case hr => first | (go_simp; done) | (go_simp; rfl)); intro ad hg dP hbox hb; replace aj := Aside0.mk (Kd.R_below (Kd.R_elderB (zR aj.out) ad (Nat.le_of_eq hg.symm)) hb); replace af := Aside0.mk (Kd.R_below (Kd.R_elderB (zR af.out) ad (Nat.le_of_eq hg.symm)) hb); replace ag := Aside0.mk (Kd.R_below (Kd.R_elderB (zR ag.out) ad (Nat.le_of_eq hg.symm)) hb); have ao := Aside0.mk (hbox); have dS := xG HB hg; have dT := xG HB hg; replace HB := xS HB hb; have aG := xN ae hg; have aH := xM ae hg; replace ae := xB ae hb; have aI := xN ah hg; have aJ := xM ah hg; replace ah := xB ah hb; clear hb hbox hg; have il := aH.out; have im := aG.out; have io := aJ.out; have ip := aI.out; obtain ⟨gQ, gR, gS, gT, gU, gV, gW, gX⟩ := cz4 ao))
                       have bI : Aside0 (Kd.R k33 33 ((((dP.setCell ⟨ad, 0, none⟩ (.int .i64 ((rd_T33 ab ac).f0))).setCell ⟨ad, 1, none⟩ (.int .i64 ((rd_T33 ab ac).f1))).setCell ⟨ad, 2, none⟩ (.int .i64 ((rd_T33 ab ac).f2))).setCell ⟨ad, 3, none⟩ (.bool ((rd_T33 ab ac).f3))) w.heap.size (fun k_ => nb k_ (.slice au ai.length ar) ∧ nb k_ (.slice aw av.length ax) ∧ k_ ≠ ad) (.slice (some ad337) ab.length ay) ab) := ⟨by (with_reducible repeat (first | apply Kd.R_alloc | apply Kd.R_drewN | apply Kd.R_drew)); exact Kd.R_mono (Kd.R_far (p := ⟨ad, 3, none⟩) (Kd.R_far (p := ⟨ad, 2, none⟩) (Kd.R_far (p := ⟨ad, 1, none⟩) (Kd.R_far (p := ⟨ad, 0, none⟩) (Kd.R_mono aj.out (fun k_ hk => (⟨hk, hk.2⟩ : _ ∧ k_ ≠ ad))) (fun _ hk => hk.2) (.int .i64 ((rd_T33 ab ac).f0))) (fun _ hk => hk.2) (.int .i64 ((rd_T33 ab ac).f1))) (fun _ hk => hk.2) (.int .i64 ((rd_T33 ab ac).f2))) (fun _ hk => hk.2) (.bool ((rd_T33 ab ac).f3))) (fun _ hk => ⟨hk.1.1.1, ⟨hk.1.1.2, hk.1.2⟩⟩)⟩; have bJ : Aside0 (Kd.R k33 33 ((((dP.setCell ⟨ad, 0, none⟩ (.int .i64 ((rd_T33 ab ac).f0))).setCell ⟨ad, 1, none⟩ (.int .i64 ((rd_T33 ab ac).f1))).setCell ⟨ad, 2, none⟩ (.int .i64 ((rd_T33 ab ac).f2))).setCell ⟨ad, 3, none⟩ (.bool ((rd_T33 ab ac).f3))) w.heap.size (fun k_ => some k_ ≠ (.slice (some ad337) ab.length ay : Value).ownBlock ∧ nb k_ (.slice aw av.length ax) ∧ k_ ≠ ad) (.slice au ai.length ar) ai) := ⟨by (with_reducible repeat (first | apply Kd.R_alloc | apply Kd.R_drewN | apply Kd.R_drew)); exact Kd.R_mono (Kd.R_far (p := ⟨ad, 3, none⟩) (Kd.R_far (p := ⟨ad, 2, none⟩) (Kd.R_far (p := ⟨ad, 1, none⟩) (Kd.R_far (p := ⟨ad, 0, none⟩) (Kd.R_mono af.out (fun k_ hk => (⟨hk, hk.2⟩ : _ ∧ k_ ≠ ad))) (fun _ hk => hk.2) (.int .i64 ((rd_T33 ab ac).f0))) (fun _ hk => hk.2) (.int .i64 ((rd_T33 ab ac).f1))) (fun _ hk => hk.2) (.int .i64 ((rd_T33 ab ac).f2))) (fun _ hk => hk.2) (.bool ((rd_T33 ab ac).f3))) (fun _ hk => ⟨hk.1.1.1, ⟨hk.1.1.2, hk.1.2⟩⟩)⟩
                       have bK : Aside0 (Kd.R k33 33 ((((dP.setCell ⟨ad, 0, none⟩ (.int .i64 ((rd_T33 ab ac).f0))).setCell ⟨ad, 1, none⟩ (.int .i64 ((rd_T33 ab ac).f1))).setCell ⟨ad, 2, none⟩ (.int .i64 ((rd_T33 ab ac).f2))).setCell ⟨ad, 3, none⟩ (.bool ((rd_T33 ab ac).f3))) w.heap.size (fun k_ => some k_ ≠ (.slice (some ad337) ab.length ay : Value).ownBlock ∧ nb k_ (.slice au ai.length ar) ∧ k_ ≠ ad) (.slice aw av.length ax) av) := ⟨by (with_reducible repeat (first | apply Kd.R_alloc | apply Kd.R_drewN | apply Kd.R_drew)); exact Kd.R_mono (Kd.R_far (p := ⟨ad, 3, none⟩) (Kd.R_far (p := ⟨ad, 2, none⟩) (Kd.R_far (p := ⟨ad, 1, none⟩) (Kd.R_far (p := ⟨ad, 0, none⟩) (Kd.R_mono ag.out (fun k_ hk => (⟨hk, hk.2⟩ : _ ∧ k_ ≠ ad))) (fun _ hk => hk.2) (.int .i64 ((rd_T33 ab ac).f0))) (fun _ hk => hk.2) (.int .i64 ((rd_T33 ab ac).f1))) (fun _ hk => hk.2) (.int .i64 ((rd_T33 ab ac).f2))) (fun _ hk => hk.2) (.bool ((rd_T33 ab ac).f3))) (fun _ hk => ⟨hk.1.1.1, ⟨hk.1.1.2, hk.1.2⟩⟩)⟩; have bL : Aside0 (((((dP.setCell ⟨ad, 0, none⟩ (.int .i64 ((rd_T33 ab ac).f0))).setCell ⟨ad, 1, none⟩ (.int .i64 ((rd_T33 ab ac).f1))).setCell ⟨ad, 2, none⟩ (.int .i64 ((rd_T33 ab ac).f2))).setCell ⟨ad, 3, none⟩ (.bool ((rd_T33 ab ac).f3))).heap[aq]? = some (.cells #[.int .i64 an, .int .i64 ak, .int .i64 am, .slice au ai.length ar] 28 (0, 0))) := ⟨zB ae.out⟩; have bM : Aside0 (((((dP.setCell ⟨ad, 0, none⟩ (.int .i64 ((rd_T33 ab ac).f0))).setCell ⟨ad, 1, none⟩ (.int .i64 ((rd_T33 ab ac).f1))).setCell ⟨ad, 2, none⟩ (.int .i64 ((rd_T33 ab ac).f2))).setCell ⟨ad, 3, none⟩ (.bool ((rd_T33 ab ac).f3))).heap[bm]? = some (.cells #[.int .i64 bq, .int .i64 br, .int .i64 bs, .slice aw av.length ax] 28 (0, 0))) := ⟨zB ah.out⟩
                       have bN : Aside0 (((((dP.setCell ⟨ad, 0, none⟩ (.int .i64 ((rd_T33 ab ac).f0))).setCell ⟨ad, 1, none⟩ (.int .i64 ((rd_T33 ab ac).f1))).setCell ⟨ad, 2, none⟩ (.int .i64 ((rd_T33 ab ac).f2))).setCell ⟨ad, 3, none⟩ (.bool ((rd_T33 ab ac).f3))).heap[ad]? = some (.cells #[.int .i64 ((rd_T33 ab ac).f0), .int .i64 ((rd_T33 ab ac).f1), .int .i64 ((rd_T33 ab ac).f2), .bool ((rd_T33 ab ac).f3)] 33 (0, 0))) := ⟨by (with_reducible repeat (first | refine blk_drewN ?_ _ | refine blk_drew ?_ | refine blk_alloc ?_ _)); refine blk_put (cs := #[.int .i64 ((rd_T33 ab ac).f0), .int .i64 ((rd_T33 ab ac).f1), .int .i64 ((rd_T33 ab ac).f2), .bool false]) ?_ 3 _ rfl; (with_reducible repeat (first | refine blk_drewN ?_ _ | refine blk_drew ?_ | refine blk_alloc ?_ _)); refine blk_put (cs := #[.int .i64 ((rd_T33 ab ac).f0), .int .i64 ((rd_T33 ab ac).f1), .int .i64 0, .bool false]) ?_ 2 _ rfl; (with_reducible repeat (first | refine blk_drewN ?_ _ | refine blk_drew ?_ | refine blk_alloc ?_ _)); refine blk_put (cs := #[.int .i64 ((rd_T33 ab ac).f0), .int .i64 0, .int .i64 0, .bool false]) ?_ 1 _ rfl; (with_reducible repeat (first | refine blk_drewN ?_ _ | refine blk_drew ?_ | refine blk_alloc ?_ _)); refine blk_put (cs := #[.int .i64 0, .int .i64 0, .int .i64 0, .bool false]) ?_ 0 _ rfl; (with_reducible repeat (first | refine blk_drewN ?_ _ | refine blk_drew ?_ | refine blk_alloc ?_ _)); exact ao.out⟩; have bO : Aside0 (Below w.heap.size w ((((dP.setCell ⟨ad, 0, none⟩ (.int .i64 ((rd_T33 ab ac).f0))).setCell ⟨ad, 1, none⟩ (.int .i64 ((rd_T33 ab ac).f1))).setCell ⟨ad, 2, none⟩ (.int .i64 ((rd_T33 ab ac).f2))).setCell ⟨ad, 3, none⟩ (.bool ((rd_T33 ab ac).f3)))) := ⟨zS HB.out⟩
                       (try clear aj)
                       (try clear af)
                       (try clear ag)
                       (try clear ae)
                       (try clear ah)
                       (try clear ao)
                       (try clear HB)
                       generalize ((((dP.setCell ⟨ad, 0, none⟩ (.int .i64 ((rd_T33 ab ac).f0))).setCell ⟨ad, 1, none⟩ (.int .i64 ((rd_T33 ab ac).f1))).setCell ⟨ad, 2, none⟩ (.int .i64 ((rd_T33 ab ac).f2))).setCell ⟨ad, 3, none⟩ (.bool ((rd_T33 ab ac).f3))) = hE at bI bJ bK bL bM bN bO ⊢; have aj := bI; have af := bJ; have ag := bK; have ae := bL; have ah := bM; have ao := bN; have HB := bO; clear bI bJ bK bL bM bN bO; replace aj := Aside0.mk (Kd.R_drew aj.out); replace af := Aside0.mk (Kd.R_drew af.out); replace ag := Aside0.mk (Kd.R_drew ag.out); replace ae := Aside0.mk (blk_drew ae.out); replace ah := Aside0.mk (blk_drew ah.out); replace ao := Aside0.mk (blk_drew ao.out); replace HB := Aside0.mk (below_drew1 HB.out); have bv : 0 ≤ (aa : Int) := of_decide_eq_true (by first | (with_reducible assumption) | assumption); have q339 : aa < (ab.length : Int) := of_decide_eq_true (by first | (with_reducible assumption) | assumption); obtain ⟨ad339, e339, aK, aL, aM, aN⟩ := at_T33 (Kd.R_reads' aj.out).2.2 aa bv q339; obtain rfl : ad337 = ad339 := (by injection e339); replace bv := eq_true bv; replace q339 := eq_true q339; have bT : 0 ≤ (aa : Int) := of_decide_eq_true (by first | (with_reducible assumption) | assumption); have q340 : aa < (ab.length : Int) := of_decide_eq_true (by first | (with_reducible assumption) | assumption); obtain ⟨ad340, e340, bD, bE, bF, bG⟩ := at_T33 (Kd.R_reads' aj.out).2.2 aa bT q340; obtain rfl : ad337 = ad340 := (by injection e340); replace bT := eq_true bT; replace q340 := eq_true q340; have dE : 0 ≤ (aa : Int) := of_decide_eq_true (by first | (with_reducible assumption) | assumption); have q341 : aa < (ab.length : Int) := of_decide_eq_true (by first | (with_reducible assumption) | assumption); obtain ⟨ad341, e341, bV, bW, bX, bY⟩ := at_T33 (Kd.R_reads' aj.out).2.2 aa dE q341; obtain rfl : ad337 = ad341 := (by injection e341); replace dE := eq_true dE; replace q341 := eq_true q341
                       refine start_ (n := 36) (S := fun w' => w'.cell? ⟨ad, 0, none⟩ = some (.int .i64 ((rd_T33 ab ac).f0)) ∧ w'.cell? ⟨ad, 1, none⟩ = some (.int .i64 ((rd_T33 ab ac).f1)) ∧ w'.cell? ⟨ad, 2, none⟩ = some (.int .i64 ((rd_T33 ab ac).f2)) ∧ w'.cell? ⟨ad, 3, none⟩ = some (.bool ((rd_T33 ab ac).f3)) ∧ w'.cell? (ad337.add ((aa).toNat * 4)) = some (.int .i64 ((rd_T33 ab aa).f0)) ∧ w'.cell? ⟨(ad337.add ((aa).toNat * 4)).block, (ad337.add ((aa).toNat * 4)).off + 1, none⟩ = some (.int .i64 ((rd_T33 ab aa).f1)) ∧ w'.cell? ⟨(ad337.add ((aa).toNat * 4)).block, (ad337.add ((aa).toNat * 4)).off + 2, none⟩ = some (.int .i64 ((rd_T33 ab aa).f2)) ∧ w'.cell? ⟨(ad337.add ((aa).toNat * 4)).block, (ad337.add ((aa).toNat * 4)).off + 3, none⟩ = some (.bool ((rd_T33 ab aa).f3)) ∧ w'.cell? (ad337.add ((aa).toNat * 4)) = some (.int .i64 ((rd_T33 ab aa).f0)) ∧ w'.cell? ⟨(ad337.add ((aa).toNat * 4)).block, (ad337.add ((aa).toNat * 4)).off + 1, none⟩ = some (.int .i64 ((rd_T33 ab aa).f1)) ∧ w'.cell? ⟨(ad337.add ((aa).toNat * 4)).block, (ad337.add ((aa).toNat * 4)).off + 2, none⟩ = some (.int .i64 ((rd_T33 ab aa).f2)) ∧ w'.cell? ⟨(ad337.add ((aa).toNat * 4)).block, (ad337.add ((aa).toNat * 4)).off + 3, none⟩ = some (.bool ((rd_T33 ab aa).f3)) ∧ w'.cell? (ad337.add ((aa).toNat * 4)) = some (.int .i64 ((rd_T33 ab aa).f0)) ∧ w'.cell? ⟨(ad337.add ((aa).toNat * 4)).block, (ad337.add ((aa).toNat * 4)).off + 1, none⟩ = some (.int .i64 ((rd_T33 ab aa).f1)) ∧ w'.cell? ⟨(ad337.add ((aa).toNat * 4)).block, (ad337.add ((aa).toNat * 4)).off + 2, none⟩ = some (.int .i64 ((rd_T33 ab aa).f2)) ∧ w'.cell? ⟨(ad337.add ((aa).toNat * 4)).block, (ad337.add ((aa).toNat * 4)).off + 3, none⟩ = some (.bool ((rd_T33 ab aa).f3))) (ds := []) bl0 (by kernel_rfl) rfl rfl ⟨b1 ao 0, b1 ao 1, b1 ao 2, b1 ao 3, aK, aL, aM, aN, bD, bE, bF, bG, bV, bW, bX, bY⟩ (fun hHeld => ?_); refine with_tabW laws_FnMake.tab20 laws_FnMake.bits20 (fun HT_ HW_ => ?_); generalize hE.drew = js at aj af ag ae ah ao HB aK aL aM aN bD bE bF bG bV bW bX bY hHeld ⊢
                       refine pv_ 0 (some 97) bl1 HT_ ?_
                       refine pv_ 1 (some 98) bl2 HT_ ?_
                       refine pv_ 2 (some 99) bl3 HT_ ?_
                       refine pv_ 4 (some 101) bl37 HT_ ?_
                       refine pv_ 5 (some 102) bl38 HT_ ?_
                       refine pv_ 6 (some 103) bl39 HT_ ?_
                       refine pv_ 7 (some 104) bl40 HT_ ?_
                       refine tk_ 3 (some 100) bl8 HT_ HW_ hHeld ?_
                       refine tk_ 8 (some 105) bl9 HT_ HW_ hHeld ?_
                       refine pv_ 9 (some 106) bl10 HT_ ?_
                       refine pv_ 10 (some 107) bl11 HT_ ?_
                       refine pv_ 11 (some 108) bl12 HT_ ?_
                       refine pv_ 13 (some 110) bl41 HT_ ?_
                       refine pv_ 14 (some 111) bl42 HT_ ?_
                       refine pv_ 15 (some 112) bl43 HT_ ?_
                       refine pv_ 16 (some 113) bl44 HT_ ?_
                       refine tk_ 12 (some 109) bl17 HT_ HW_ hHeld ?_
                       refine tk_ 17 (some 114) bl18 HT_ HW_ hHeld ?_
                       refine pv_ 18 (some 115) bl19 HT_ ?_
                       refine pv_ 19 (some 116) bl20 HT_ ?_
                       refine pv_ 20 (some 117) bl21 HT_ ?_
                       refine pv_ 21 (some 118) bl22 HT_ ?_
                       refine pv_ 23 (some 120) bl45 HT_ ?_
                       refine pv_ 24 (some 121) bl46 HT_ ?_
                       refine pv_ 25 (some 122) bl47 HT_ ?_
                       refine pv_ 26 (some 123) bl48 HT_ ?_
                       refine tk_ 22 (some 119) bl27 HT_ HW_ hHeld ?_
                       refine tk_ 27 (some 124) bl28 HT_ HW_ hHeld ?_
                       refine pv_ 28 (some 125) bl29 HT_ ?_
                       refine pv_ 29 (some 126) bl30 HT_ ?_
                       refine pv_ 30 (some 127) bl31 HT_ ?_
                       refine pn_ 31 (some 128) bl32 HT_ ?_
                       refine pn_ 32 (some 129) bl33 HT_ ?_
                       refine pv_ 33 (some 130) bl34 HT_ ?_
                       refine pv_ 34 (some 131) bl35 HT_ ?_
                       refine pv_ 35 (some 12) bl36 HT_ ?_
                       refine done_ (done_of HT_.out (by kernel_rfl)) ?_
                       try go_wp2
                       go_roundg k4
                       case measure => have := HJ19.out; have := HK2.out; have := HJ46.out; have := HK4.out; omega
                       case rel => exact ⟨(false), (wrap64 (ac + 1)), (by first | rfl | (simp; done) | (simp [*]; done) | (rw [Int.tmod_eq_emod_of_nonneg (Int.natCast_nonneg _)]; done)), (by first | rfl | (simp; done) | (simp [*]; done) | (rw [Int.tmod_eq_emod_of_nonneg (Int.natCast_nonneg _)]; done)), H', ⟨by have := HJ19.out; have := HK2.out; have := HJ46.out; have := HK4.out; omega⟩, ⟨by (with_reducible repeat (first | apply Kd.R_alloc | apply Kd.R_drewN | apply Kd.R_drew)); exact Kd.R_mono aj.out (fun _ hk => ⟨hk.1, hk.2.1⟩)⟩, ⟨by (with_reducible repeat (first | apply Kd.R_alloc | apply Kd.R_drewN | apply Kd.R_drew)); exact Kd.R_mono af.out (fun _ hk => ⟨hk.1, hk.2.1⟩)⟩, ⟨by (with_reducible repeat (first | apply Kd.R_alloc | apply Kd.R_drewN | apply Kd.R_drew)); exact Kd.R_mono ag.out (fun _ hk => ⟨hk.1, hk.2.1⟩)⟩, ⟨zB ae.out⟩, ⟨zB ah.out⟩, ⟨zS HB.out⟩⟩
                     ·rw [if_neg dZ] at H; have fe : (((rd_T33 ab ac).f1) == ((rd_T33 ab aa).f1)) = false := beq_eq_false_iff_ne.mpr dZ; have ff : (((rd_T33 ab ac).f1) != ((rd_T33 ab aa).f1)) = true := bne_iff_ne.mpr dZ; have H' := Aside0.mk H; clear H; have bn : 0 ≤ (ac : Int) := of_decide_eq_true (by first | (with_reducible assumption) | assumption); have q337 : ac < (ab.length : Int) := of_decide_eq_true (by first | (with_reducible assumption) | assumption); obtain ⟨ad337, e337, dA, dB, dC, dD⟩ := at_T33 (Kd.R_reads' aj.out).2.2 ac bn q337
                      cases e337
                      replace bn := eq_true bn; replace q337 := eq_true q337
                      try go_wp2_with (first | ((with_reducible refine gate_dst (N := 14) rfl ?_); (try (refine gate_guard (by rfl) ?_; dsimp only)); refine box_event ?hg (N := 14) ?hd (cs := #[.int .i64 0, .int .i64 0, .int .i64 0, .bool false]) (t := 33) ?hr ?_; (case hd => rfl); (case hg => rfl); (case hr => first | (go_simp; done) | (go_simp; rfl)); intro ad hg dQ hbox hb; replace aj := Aside0.mk (Kd.R_below (Kd.R_elderB (zR aj.out) ad (Nat.le_of_eq hg.symm)) hb); replace af := Aside0.mk (Kd.R_below (Kd.R_elderB (zR af.out) ad (Nat.le_of_eq hg.symm)) hb); replace ag := Aside0.mk (Kd.R_below (Kd.R_elderB (zR ag.out) ad (Nat.le_of_eq hg.symm)) hb); have ao := Aside0.mk (hbox); have dS := xG HB hg; have dT := xG HB hg; replace HB := xS HB hb; have aG := xN ae hg; have aH := xM ae hg; replace ae := xB ae hb; have aI := xN ah hg; have aJ := xM ah hg; replace ah := xB ah hb; clear hb hbox hg; have iq := aH.out; have ir := aG.out; have it := aJ.out; have iu := aI.out; obtain ⟨gY, gZ, ha, hc, he, hf, hh, hj⟩ := cz4 ao))
                      have bI : Aside0 (Kd.R k33 33 ((((dQ.setCell ⟨ad, 0, none⟩ (.int .i64 ((rd_T33 ab ac).f0))).setCell ⟨ad, 1, none⟩ (.int .i64 ((rd_T33 ab ac).f1))).setCell ⟨ad, 2, none⟩ (.int .i64 ((rd_T33 ab ac).f2))).setCell ⟨ad, 3, none⟩ (.bool ((rd_T33 ab ac).f3))) w.heap.size (fun k_ => nb k_ (.slice au ai.length ar) ∧ nb k_ (.slice aw av.length ax) ∧ k_ ≠ ad) (.slice (some ad337) ab.length ay) ab) := ⟨by (with_reducible repeat (first | apply Kd.R_alloc | apply Kd.R_drewN | apply Kd.R_drew)); exact Kd.R_mono (Kd.R_far (p := ⟨ad, 3, none⟩) (Kd.R_far (p := ⟨ad, 2, none⟩) (Kd.R_far (p := ⟨ad, 1, none⟩) (Kd.R_far (p := ⟨ad, 0, none⟩) (Kd.R_mono aj.out (fun k_ hk => (⟨hk, hk.2⟩ : _ ∧ k_ ≠ ad))) (fun _ hk => hk.2) (.int .i64 ((rd_T33 ab ac).f0))) (fun _ hk => hk.2) (.int .i64 ((rd_T33 ab ac).f1))) (fun _ hk => hk.2) (.int .i64 ((rd_T33 ab ac).f2))) (fun _ hk => hk.2) (.bool ((rd_T33 ab ac).f3))) (fun _ hk => ⟨hk.1.1.1, ⟨hk.1.1.2, hk.1.2⟩⟩)⟩; have bJ : Aside0 (Kd.R k33 33 ((((dQ.setCell ⟨ad, 0, none⟩ (.int .i64 ((rd_T33 ab ac).f0))).setCell ⟨ad, 1, none⟩ (.int .i64 ((rd_T33 ab ac).f1))).setCell ⟨ad, 2, none⟩ (.int .i64 ((rd_T33 ab ac).f2))).setCell ⟨ad, 3, none⟩ (.bool ((rd_T33 ab ac).f3))) w.heap.size (fun k_ => some k_ ≠ (.slice (some ad337) ab.length ay : Value).ownBlock ∧ nb k_ (.slice aw av.length ax) ∧ k_ ≠ ad) (.slice au ai.length ar) ai) := ⟨by (with_reducible repeat (first | apply Kd.R_alloc | apply Kd.R_drewN | apply Kd.R_drew)); exact Kd.R_mono (Kd.R_far (p := ⟨ad, 3, none⟩) (Kd.R_far (p := ⟨ad, 2, none⟩) (Kd.R_far (p := ⟨ad, 1, none⟩) (Kd.R_far (p := ⟨ad, 0, none⟩) (Kd.R_mono af.out (fun k_ hk => (⟨hk, hk.2⟩ : _ ∧ k_ ≠ ad))) (fun _ hk => hk.2) (.int .i64 ((rd_T33 ab ac).f0))) (fun _ hk => hk.2) (.int .i64 ((rd_T33 ab ac).f1))) (fun _ hk => hk.2) (.int .i64 ((rd_T33 ab ac).f2))) (fun _ hk => hk.2) (.bool ((rd_T33 ab ac).f3))) (fun _ hk => ⟨hk.1.1.1, ⟨hk.1.1.2, hk.1.2⟩⟩)⟩
                      have bK : Aside0 (Kd.R k33 33 ((((dQ.setCell ⟨ad, 0, none⟩ (.int .i64 ((rd_T33 ab ac).f0))).setCell ⟨ad, 1, none⟩ (.int .i64 ((rd_T33 ab ac).f1))).setCell ⟨ad, 2, none⟩ (.int .i64 ((rd_T33 ab ac).f2))).setCell ⟨ad, 3, none⟩ (.bool ((rd_T33 ab ac).f3))) w.heap.size (fun k_ => some k_ ≠ (.slice (some ad337) ab.length ay : Value).ownBlock ∧ nb k_ (.slice au ai.length ar) ∧ k_ ≠ ad) (.slice aw av.length ax) av) := ⟨by (with_reducible repeat (first | apply Kd.R_alloc | apply Kd.R_drewN | apply Kd.R_drew)); exact Kd.R_mono (Kd.R_far (p := ⟨ad, 3, none⟩) (Kd.R_far (p := ⟨ad, 2, none⟩) (Kd.R_far (p := ⟨ad, 1, none⟩) (Kd.R_far (p := ⟨ad, 0, none⟩) (Kd.R_mono ag.out (fun k_ hk => (⟨hk, hk.2⟩ : _ ∧ k_ ≠ ad))) (fun _ hk => hk.2) (.int .i64 ((rd_T33 ab ac).f0))) (fun _ hk => hk.2) (.int .i64 ((rd_T33 ab ac).f1))) (fun _ hk => hk.2) (.int .i64 ((rd_T33 ab ac).f2))) (fun _ hk => hk.2) (.bool ((rd_T33 ab ac).f3))) (fun _ hk => ⟨hk.1.1.1, ⟨hk.1.1.2, hk.1.2⟩⟩)⟩; have bL : Aside0 (((((dQ.setCell ⟨ad, 0, none⟩ (.int .i64 ((rd_T33 ab ac).f0))).setCell ⟨ad, 1, none⟩ (.int .i64 ((rd_T33 ab ac).f1))).setCell ⟨ad, 2, none⟩ (.int .i64 ((rd_T33 ab ac).f2))).setCell ⟨ad, 3, none⟩ (.bool ((rd_T33 ab ac).f3))).heap[aq]? = some (.cells #[.int .i64 an, .int .i64 ak, .int .i64 am, .slice au ai.length ar] 28 (0, 0))) := ⟨zB ae.out⟩; have bM : Aside0 (((((dQ.setCell ⟨ad, 0, none⟩ (.int .i64 ((rd_T33 ab ac).f0))).setCell ⟨ad, 1, none⟩ (.int .i64 ((rd_T33 ab ac).f1))).setCell ⟨ad, 2, none⟩ (.int .i64 ((rd_T33 ab ac).f2))).setCell ⟨ad, 3, none⟩ (.bool ((rd_T33 ab ac).f3))).heap[bm]? = some (.cells #[.int .i64 bq, .int .i64 br, .int .i64 bs, .slice aw av.length ax] 28 (0, 0))) := ⟨zB ah.out⟩
                      have bN : Aside0 (((((dQ.setCell ⟨ad, 0, none⟩ (.int .i64 ((rd_T33 ab ac).f0))).setCell ⟨ad, 1, none⟩ (.int .i64 ((rd_T33 ab ac).f1))).setCell ⟨ad, 2, none⟩ (.int .i64 ((rd_T33 ab ac).f2))).setCell ⟨ad, 3, none⟩ (.bool ((rd_T33 ab ac).f3))).heap[ad]? = some (.cells #[.int .i64 ((rd_T33 ab ac).f0), .int .i64 ((rd_T33 ab ac).f1), .int .i64 ((rd_T33 ab ac).f2), .bool ((rd_T33 ab ac).f3)] 33 (0, 0))) := ⟨by (with_reducible repeat (first | refine blk_drewN ?_ _ | refine blk_drew ?_ | refine blk_alloc ?_ _)); refine blk_put (cs := #[.int .i64 ((rd_T33 ab ac).f0), .int .i64 ((rd_T33 ab ac).f1), .int .i64 ((rd_T33 ab ac).f2), .bool false]) ?_ 3 _ rfl; (with_reducible repeat (first | refine blk_drewN ?_ _ | refine blk_drew ?_ | refine blk_alloc ?_ _)); refine blk_put (cs := #[.int .i64 ((rd_T33 ab ac).f0), .int .i64 ((rd_T33 ab ac).f1), .int .i64 0, .bool false]) ?_ 2 _ rfl; (with_reducible repeat (first | refine blk_drewN ?_ _ | refine blk_drew ?_ | refine blk_alloc ?_ _)); refine blk_put (cs := #[.int .i64 ((rd_T33 ab ac).f0), .int .i64 0, .int .i64 0, .bool false]) ?_ 1 _ rfl; (with_reducible repeat (first | refine blk_drewN ?_ _ | refine blk_drew ?_ | refine blk_alloc ?_ _)); refine blk_put (cs := #[.int .i64 0, .int .i64 0, .int .i64 0, .bool false]) ?_ 0 _ rfl; (with_reducible repeat (first | refine blk_drewN ?_ _ | refine blk_drew ?_ | refine blk_alloc ?_ _)); exact ao.out⟩; have bO : Aside0 (Below w.heap.size w ((((dQ.setCell ⟨ad, 0, none⟩ (.int .i64 ((rd_T33 ab ac).f0))).setCell ⟨ad, 1, none⟩ (.int .i64 ((rd_T33 ab ac).f1))).setCell ⟨ad, 2, none⟩ (.int .i64 ((rd_T33 ab ac).f2))).setCell ⟨ad, 3, none⟩ (.bool ((rd_T33 ab ac).f3)))) := ⟨zS HB.out⟩
                      (try clear aj)
                      (try clear af)
                      (try clear ag)
                      (try clear ae)
                      (try clear ah)
                      (try clear ao)
                      (try clear HB)
                      generalize ((((dQ.setCell ⟨ad, 0, none⟩ (.int .i64 ((rd_T33 ab ac).f0))).setCell ⟨ad, 1, none⟩ (.int .i64 ((rd_T33 ab ac).f1))).setCell ⟨ad, 2, none⟩ (.int .i64 ((rd_T33 ab ac).f2))).setCell ⟨ad, 3, none⟩ (.bool ((rd_T33 ab ac).f3))) = hF at bI bJ bK bL bM bN bO ⊢; have aj := bI; have af := bJ; have ag := bK; have ae := bL; have ah := bM; have ao := bN; have HB := bO; clear bI bJ bK bL bM bN bO; replace aj := Aside0.mk (Kd.R_drew aj.out); replace af := Aside0.mk (Kd.R_drew af.out); replace ag := Aside0.mk (Kd.R_drew ag.out); replace ae := Aside0.mk (blk_drew ae.out); replace ah := Aside0.mk (blk_drew ah.out); replace ao := Aside0.mk (blk_drew ao.out); replace HB := Aside0.mk (below_drew1 HB.out); have bv : 0 ≤ (aa : Int) := of_decide_eq_true (by first | (with_reducible assumption) | assumption); have q339 : aa < (ab.length : Int) := of_decide_eq_true (by first | (with_reducible assumption) | assumption); obtain ⟨ad339, e339, aK, aL, aM, aN⟩ := at_T33 (Kd.R_reads' aj.out).2.2 aa bv q339; obtain rfl : ad337 = ad339 := (by injection e339); replace bv := eq_true bv; replace q339 := eq_true q339; have bT : 0 ≤ (aa : Int) := of_decide_eq_true (by first | (with_reducible assumption) | assumption); have q340 : aa < (ab.length : Int) := of_decide_eq_true (by first | (with_reducible assumption) | assumption); obtain ⟨ad340, e340, bD, bE, bF, bG⟩ := at_T33 (Kd.R_reads' aj.out).2.2 aa bT q340; obtain rfl : ad337 = ad340 := (by injection e340); replace bT := eq_true bT; replace q340 := eq_true q340
                      refine start_ (n := 36) (S := fun w' => w'.cell? ⟨ad, 0, none⟩ = some (.int .i64 ((rd_T33 ab ac).f0)) ∧ w'.cell? ⟨ad, 1, none⟩ = some (.int .i64 ((rd_T33 ab ac).f1)) ∧ w'.cell? ⟨ad, 2, none⟩ = some (.int .i64 ((rd_T33 ab ac).f2)) ∧ w'.cell? ⟨ad, 3, none⟩ = some (.bool ((rd_T33 ab ac).f3)) ∧ w'.cell? (ad337.add ((aa).toNat * 4)) = some (.int .i64 ((rd_T33 ab aa).f0)) ∧ w'.cell? ⟨(ad337.add ((aa).toNat * 4)).block, (ad337.add ((aa).toNat * 4)).off + 1, none⟩ = some (.int .i64 ((rd_T33 ab aa).f1)) ∧ w'.cell? ⟨(ad337.add ((aa).toNat * 4)).block, (ad337.add ((aa).toNat * 4)).off + 2, none⟩ = some (.int .i64 ((rd_T33 ab aa).f2)) ∧ w'.cell? ⟨(ad337.add ((aa).toNat * 4)).block, (ad337.add ((aa).toNat * 4)).off + 3, none⟩ = some (.bool ((rd_T33 ab aa).f3)) ∧ w'.cell? (ad337.add ((aa).toNat * 4)) = some (.int .i64 ((rd_T33 ab aa).f0)) ∧ w'.cell? ⟨(ad337.add ((aa).toNat * 4)).block, (ad337.add ((aa).toNat * 4)).off + 1, none⟩ = some (.int .i64 ((rd_T33 ab aa).f1)) ∧ w'.cell? ⟨(ad337.add ((aa).toNat * 4)).block, (ad337.add ((aa).toNat * 4)).off + 2, none⟩ = some (.int .i64 ((rd_T33 ab aa).f2)) ∧ w'.cell? ⟨(ad337.add ((aa).toNat * 4)).block, (ad337.add ((aa).toNat * 4)).off + 3, none⟩ = some (.bool ((rd_T33 ab aa).f3))) (ds := []) bl0 (by kernel_rfl) rfl rfl ⟨b1 ao 0, b1 ao 1, b1 ao 2, b1 ao 3, aK, aL, aM, aN, bD, bE, bF, bG⟩ (fun hHeld => ?_); refine with_tabW laws_FnMake.tab20 laws_FnMake.bits20 (fun HT_ HW_ => ?_); generalize hF.drew = jt at aj af ag ae ah ao HB aK aL aM aN bD bE bF bG hHeld ⊢
                      refine pv_ 0 (some 97) bl1 HT_ ?_
                      refine pv_ 1 (some 98) bl2 HT_ ?_
                      refine pv_ 2 (some 99) bl3 HT_ ?_
                      refine pv_ 4 (some 101) bl37 HT_ ?_
                      refine pv_ 5 (some 102) bl38 HT_ ?_
                      refine pv_ 6 (some 103) bl39 HT_ ?_
                      refine pv_ 7 (some 104) bl40 HT_ ?_
                      refine tk_ 3 (some 100) bl8 HT_ HW_ hHeld ?_
                      refine tk_ 8 (some 105) bl9 HT_ HW_ hHeld ?_
                      refine pv_ 9 (some 106) bl10 HT_ ?_
                      refine pv_ 10 (some 107) bl11 HT_ ?_
                      refine pv_ 11 (some 108) bl12 HT_ ?_
                      refine pv_ 13 (some 110) bl41 HT_ ?_
                      refine pv_ 14 (some 111) bl42 HT_ ?_
                      refine pv_ 15 (some 112) bl43 HT_ ?_
                      refine pv_ 16 (some 113) bl44 HT_ ?_
                      refine tk_ 12 (some 109) bl17 HT_ HW_ hHeld ?_
                      refine tk_ 17 (some 114) bl18 HT_ HW_ hHeld ?_
                      refine pv_ 18 (some 115) bl19 HT_ ?_
                      refine pv_ 19 (some 116) bl20 HT_ ?_
                      refine pv_ 20 (some 117) bl21 HT_ ?_
                      refine pn_ 21 (some 118) bl22 HT_ ?_
                      refine pn_ 22 (some 119) bl23 HT_ ?_
                      refine pn_ 23 (some 120) bl24 HT_ ?_
                      refine pn_ 24 (some 121) bl25 HT_ ?_
                      refine pn_ 25 (some 122) bl26 HT_ ?_
                      refine pn_ 26 (some 123) bl27 HT_ ?_
                      refine pn_ 27 (some 124) bl28 HT_ ?_
                      refine pn_ 28 (some 125) bl29 HT_ ?_
                      refine pv_ 29 (some 126) bl30 HT_ ?_
                      refine pv_ 30 (some 127) bl31 HT_ ?_
                      refine pn_ 31 (some 128) bl32 HT_ ?_
                      refine pn_ 32 (some 129) bl33 HT_ ?_
                      refine pv_ 33 (some 130) bl34 HT_ ?_
                      refine pv_ 34 (some 131) bl35 HT_ ?_
                      refine pv_ 35 (some 12) bl36 HT_ ?_
                      refine done_ (done_of HT_.out (by kernel_rfl)) ?_
                      try go_wp2
                      go_roundg k4
                      case measure => have := HJ19.out; have := HK2.out; have := HJ46.out; have := HK4.out; omega
                      case rel => exact ⟨(false), (wrap64 (ac + 1)), (by first | rfl | (simp; done) | (simp [*]; done) | (rw [Int.tmod_eq_emod_of_nonneg (Int.natCast_nonneg _)]; done)), (by first | rfl | (simp; done) | (simp [*]; done) | (rw [Int.tmod_eq_emod_of_nonneg (Int.natCast_nonneg _)]; done)), H', ⟨by have := HJ19.out; have := HK2.out; have := HJ46.out; have := HK4.out; omega⟩, ⟨by (with_reducible repeat (first | apply Kd.R_alloc | apply Kd.R_drewN | apply Kd.R_drew)); exact Kd.R_mono aj.out (fun _ hk => ⟨hk.1, hk.2.1⟩)⟩, ⟨by (with_reducible repeat (first | apply Kd.R_alloc | apply Kd.R_drewN | apply Kd.R_drew)); exact Kd.R_mono af.out (fun _ hk => ⟨hk.1, hk.2.1⟩)⟩, ⟨by (with_reducible repeat (first | apply Kd.R_alloc | apply Kd.R_drewN | apply Kd.R_drew)); exact Kd.R_mono ag.out (fun _ hk => ⟨hk.1, hk.2.1⟩)⟩, ⟨zB ae.out⟩, ⟨zB ah.out⟩, ⟨zS HB.out⟩⟩
                    ·rw [if_neg dY] at H; have fc : (((rd_T33 ab ac).f0) == ((rd_T33 ab aa).f0)) = false := beq_eq_false_iff_ne.mpr dY; have fd : (((rd_T33 ab ac).f0) != ((rd_T33 ab aa).f0)) = true := bne_iff_ne.mpr dY; have H' := Aside0.mk H; clear H; have bn : 0 ≤ (ac : Int) := of_decide_eq_true (by first | (with_reducible assumption) | assumption); have q337 : ac < (ab.length : Int) := of_decide_eq_true (by first | (with_reducible assumption) | assumption); obtain ⟨ad337, e337, dA, dB, dC, dD⟩ := at_T33 (Kd.R_reads' aj.out).2.2 ac bn q337
                     cases e337
                     replace bn := eq_true bn; replace q337 := eq_true q337
                     try go_wp2_with (first | ((with_reducible refine gate_dst (N := 14) rfl ?_); (try (refine gate_guard (by rfl) ?_; dsimp only)); refine box_event ?hg (N := 14) ?hd (cs := #[.int .i64 0, .int .i64 0, .int .i64 0, .bool false]) (t := 33) ?hr ?_; (case hd => rfl); (case hg => rfl); (case hr => first | (go_simp; done) | (go_simp; rfl)); intro ad hg dR hbox hb; replace aj := Aside0.mk (Kd.R_below (Kd.R_elderB (zR aj.out) ad (Nat.le_of_eq hg.symm)) hb); replace af := Aside0.mk (Kd.R_below (Kd.R_elderB (zR af.out) ad (Nat.le_of_eq hg.symm)) hb); replace ag := Aside0.mk (Kd.R_below (Kd.R_elderB (zR ag.out) ad (Nat.le_of_eq hg.symm)) hb); have ao := Aside0.mk (hbox); have dS := xG HB hg; have dT := xG HB hg; replace HB := xS HB hb; have aG := xN ae hg; have aH := xM ae hg; replace ae := xB ae hb; have aI := xN ah hg; have aJ := xM ah hg; replace ah := xB ah hb; clear hb hbox hg; have iv := aH.out; have iw := aG.out; have ix := aJ.out; have iy := aI.out; obtain ⟨hl, hm, hn, hp, hq, hs, ht, hu⟩ := cz4 ao))
                     have bI : Aside0 (Kd.R k33 33 ((((dR.setCell ⟨ad, 0, none⟩ (.int .i64 ((rd_T33 ab ac).f0))).setCell ⟨ad, 1, none⟩ (.int .i64 ((rd_T33 ab ac).f1))).setCell ⟨ad, 2, none⟩ (.int .i64 ((rd_T33 ab ac).f2))).setCell ⟨ad, 3, none⟩ (.bool ((rd_T33 ab ac).f3))) w.heap.size (fun k_ => nb k_ (.slice au ai.length ar) ∧ nb k_ (.slice aw av.length ax) ∧ k_ ≠ ad) (.slice (some ad337) ab.length ay) ab) := ⟨by (with_reducible repeat (first | apply Kd.R_alloc | apply Kd.R_drewN | apply Kd.R_drew)); exact Kd.R_mono (Kd.R_far (p := ⟨ad, 3, none⟩) (Kd.R_far (p := ⟨ad, 2, none⟩) (Kd.R_far (p := ⟨ad, 1, none⟩) (Kd.R_far (p := ⟨ad, 0, none⟩) (Kd.R_mono aj.out (fun k_ hk => (⟨hk, hk.2⟩ : _ ∧ k_ ≠ ad))) (fun _ hk => hk.2) (.int .i64 ((rd_T33 ab ac).f0))) (fun _ hk => hk.2) (.int .i64 ((rd_T33 ab ac).f1))) (fun _ hk => hk.2) (.int .i64 ((rd_T33 ab ac).f2))) (fun _ hk => hk.2) (.bool ((rd_T33 ab ac).f3))) (fun _ hk => ⟨hk.1.1.1, ⟨hk.1.1.2, hk.1.2⟩⟩)⟩; have bJ : Aside0 (Kd.R k33 33 ((((dR.setCell ⟨ad, 0, none⟩ (.int .i64 ((rd_T33 ab ac).f0))).setCell ⟨ad, 1, none⟩ (.int .i64 ((rd_T33 ab ac).f1))).setCell ⟨ad, 2, none⟩ (.int .i64 ((rd_T33 ab ac).f2))).setCell ⟨ad, 3, none⟩ (.bool ((rd_T33 ab ac).f3))) w.heap.size (fun k_ => some k_ ≠ (.slice (some ad337) ab.length ay : Value).ownBlock ∧ nb k_ (.slice aw av.length ax) ∧ k_ ≠ ad) (.slice au ai.length ar) ai) := ⟨by (with_reducible repeat (first | apply Kd.R_alloc | apply Kd.R_drewN | apply Kd.R_drew)); exact Kd.R_mono (Kd.R_far (p := ⟨ad, 3, none⟩) (Kd.R_far (p := ⟨ad, 2, none⟩) (Kd.R_far (p := ⟨ad, 1, none⟩) (Kd.R_far (p := ⟨ad, 0, none⟩) (Kd.R_mono af.out (fun k_ hk => (⟨hk, hk.2⟩ : _ ∧ k_ ≠ ad))) (fun _ hk => hk.2) (.int .i64 ((rd_T33 ab ac).f0))) (fun _ hk => hk.2) (.int .i64 ((rd_T33 ab ac).f1))) (fun _ hk => hk.2) (.int .i64 ((rd_T33 ab ac).f2))) (fun _ hk => hk.2) (.bool ((rd_T33 ab ac).f3))) (fun _ hk => ⟨hk.1.1.1, ⟨hk.1.1.2, hk.1.2⟩⟩)⟩
                     have bK : Aside0 (Kd.R k33 33 ((((dR.setCell ⟨ad, 0, none⟩ (.int .i64 ((rd_T33 ab ac).f0))).setCell ⟨ad, 1, none⟩ (.int .i64 ((rd_T33 ab ac).f1))).setCell ⟨ad, 2, none⟩ (.int .i64 ((rd_T33 ab ac).f2))).setCell ⟨ad, 3, none⟩ (.bool ((rd_T33 ab ac).f3))) w.heap.size (fun k_ => some k_ ≠ (.slice (some ad337) ab.length ay : Value).ownBlock ∧ nb k_ (.slice au ai.length ar) ∧ k_ ≠ ad) (.slice aw av.length ax) av) := ⟨by (with_reducible repeat (first | apply Kd.R_alloc | apply Kd.R_drewN | apply Kd.R_drew)); exact Kd.R_mono (Kd.R_far (p := ⟨ad, 3, none⟩) (Kd.R_far (p := ⟨ad, 2, none⟩) (Kd.R_far (p := ⟨ad, 1, none⟩) (Kd.R_far (p := ⟨ad, 0, none⟩) (Kd.R_mono ag.out (fun k_ hk => (⟨hk, hk.2⟩ : _ ∧ k_ ≠ ad))) (fun _ hk => hk.2) (.int .i64 ((rd_T33 ab ac).f0))) (fun _ hk => hk.2) (.int .i64 ((rd_T33 ab ac).f1))) (fun _ hk => hk.2) (.int .i64 ((rd_T33 ab ac).f2))) (fun _ hk => hk.2) (.bool ((rd_T33 ab ac).f3))) (fun _ hk => ⟨hk.1.1.1, ⟨hk.1.1.2, hk.1.2⟩⟩)⟩; have bL : Aside0 (((((dR.setCell ⟨ad, 0, none⟩ (.int .i64 ((rd_T33 ab ac).f0))).setCell ⟨ad, 1, none⟩ (.int .i64 ((rd_T33 ab ac).f1))).setCell ⟨ad, 2, none⟩ (.int .i64 ((rd_T33 ab ac).f2))).setCell ⟨ad, 3, none⟩ (.bool ((rd_T33 ab ac).f3))).heap[aq]? = some (.cells #[.int .i64 an, .int .i64 ak, .int .i64 am, .slice au ai.length ar] 28 (0, 0))) := ⟨zB ae.out⟩; have bM : Aside0 (((((dR.setCell ⟨ad, 0, none⟩ (.int .i64 ((rd_T33 ab ac).f0))).setCell ⟨ad, 1, none⟩ (.int .i64 ((rd_T33 ab ac).f1))).setCell ⟨ad, 2, none⟩ (.int .i64 ((rd_T33 ab ac).f2))).setCell ⟨ad, 3, none⟩ (.bool ((rd_T33 ab ac).f3))).heap[bm]? = some (.cells #[.int .i64 bq, .int .i64 br, .int .i64 bs, .slice aw av.length ax] 28 (0, 0))) := ⟨zB ah.out⟩
                     have bN : Aside0 (((((dR.setCell ⟨ad, 0, none⟩ (.int .i64 ((rd_T33 ab ac).f0))).setCell ⟨ad, 1, none⟩ (.int .i64 ((rd_T33 ab ac).f1))).setCell ⟨ad, 2, none⟩ (.int .i64 ((rd_T33 ab ac).f2))).setCell ⟨ad, 3, none⟩ (.bool ((rd_T33 ab ac).f3))).heap[ad]? = some (.cells #[.int .i64 ((rd_T33 ab ac).f0), .int .i64 ((rd_T33 ab ac).f1), .int .i64 ((rd_T33 ab ac).f2), .bool ((rd_T33 ab ac).f3)] 33 (0, 0))) := ⟨by (with_reducible repeat (first | refine blk_drewN ?_ _ | refine blk_drew ?_ | refine blk_alloc ?_ _)); refine blk_put (cs := #[.int .i64 ((rd_T33 ab ac).f0), .int .i64 ((rd_T33 ab ac).f1), .int .i64 ((rd_T33 ab ac).f2), .bool false]) ?_ 3 _ rfl; (with_reducible repeat (first | refine blk_drewN ?_ _ | refine blk_drew ?_ | refine blk_alloc ?_ _)); refine blk_put (cs := #[.int .i64 ((rd_T33 ab ac).f0), .int .i64 ((rd_T33 ab ac).f1), .int .i64 0, .bool false]) ?_ 2 _ rfl; (with_reducible repeat (first | refine blk_drewN ?_ _ | refine blk_drew ?_ | refine blk_alloc ?_ _)); refine blk_put (cs := #[.int .i64 ((rd_T33 ab ac).f0), .int .i64 0, .int .i64 0, .bool false]) ?_ 1 _ rfl; (with_reducible repeat (first | refine blk_drewN ?_ _ | refine blk_drew ?_ | refine blk_alloc ?_ _)); refine blk_put (cs := #[.int .i64 0, .int .i64 0, .int .i64 0, .bool false]) ?_ 0 _ rfl; (with_reducible repeat (first | refine blk_drewN ?_ _ | refine blk_drew ?_ | refine blk_alloc ?_ _)); exact ao.out⟩; have bO : Aside0 (Below w.heap.size w ((((dR.setCell ⟨ad, 0, none⟩ (.int .i64 ((rd_T33 ab ac).f0))).setCell ⟨ad, 1, none⟩ (.int .i64 ((rd_T33 ab ac).f1))).setCell ⟨ad, 2, none⟩ (.int .i64 ((rd_T33 ab ac).f2))).setCell ⟨ad, 3, none⟩ (.bool ((rd_T33 ab ac).f3)))) := ⟨zS HB.out⟩
                     (try clear aj)
                     (try clear af)
                     (try clear ag)
                     (try clear ae)
                     (try clear ah)
                     (try clear ao)
                     (try clear HB)
                     generalize ((((dR.setCell ⟨ad, 0, none⟩ (.int .i64 ((rd_T33 ab ac).f0))).setCell ⟨ad, 1, none⟩ (.int .i64 ((rd_T33 ab ac).f1))).setCell ⟨ad, 2, none⟩ (.int .i64 ((rd_T33 ab ac).f2))).setCell ⟨ad, 3, none⟩ (.bool ((rd_T33 ab ac).f3))) = hG at bI bJ bK bL bM bN bO ⊢; have aj := bI; have af := bJ; have ag := bK; have ae := bL; have ah := bM; have ao := bN; have HB := bO; clear bI bJ bK bL bM bN bO; replace aj := Aside0.mk (Kd.R_drew aj.out); replace af := Aside0.mk (Kd.R_drew af.out); replace ag := Aside0.mk (Kd.R_drew ag.out); replace ae := Aside0.mk (blk_drew ae.out); replace ah := Aside0.mk (blk_drew ah.out); replace ao := Aside0.mk (blk_drew ao.out); replace HB := Aside0.mk (below_drew1 HB.out); have bv : 0 ≤ (aa : Int) := of_decide_eq_true (by first | (with_reducible assumption) | assumption); have q339 : aa < (ab.length : Int) := of_decide_eq_true (by first | (with_reducible assumption) | assumption); obtain ⟨ad339, e339, aK, aL, aM, aN⟩ := at_T33 (Kd.R_reads' aj.out).2.2 aa bv q339; obtain rfl : ad337 = ad339 := (by injection e339); replace bv := eq_true bv; replace q339 := eq_true q339; refine start_ (n := 36) (S := fun w' => w'.cell? ⟨ad, 0, none⟩ = some (.int .i64 ((rd_T33 ab ac).f0)) ∧ w'.cell? ⟨ad, 1, none⟩ = some (.int .i64 ((rd_T33 ab ac).f1)) ∧ w'.cell? ⟨ad, 2, none⟩ = some (.int .i64 ((rd_T33 ab ac).f2)) ∧ w'.cell? ⟨ad, 3, none⟩ = some (.bool ((rd_T33 ab ac).f3)) ∧ w'.cell? (ad337.add ((aa).toNat * 4)) = some (.int .i64 ((rd_T33 ab aa).f0)) ∧ w'.cell? ⟨(ad337.add ((aa).toNat * 4)).block, (ad337.add ((aa).toNat * 4)).off + 1, none⟩ = some (.int .i64 ((rd_T33 ab aa).f1)) ∧ w'.cell? ⟨(ad337.add ((aa).toNat * 4)).block, (ad337.add ((aa).toNat * 4)).off + 2, none⟩ = some (.int .i64 ((rd_T33 ab aa).f2)) ∧ w'.cell? ⟨(ad337.add ((aa).toNat * 4)).block, (ad337.add ((aa).toNat * 4)).off + 3, none⟩ = some (.bool ((rd_T33 ab aa).f3))) (ds := []) bl0 (by kernel_rfl) rfl rfl ⟨b1 ao 0, b1 ao 1, b1 ao 2, b1 ao 3, aK, aL, aM, aN⟩ (fun hHeld => ?_); refine with_tabW laws_FnMake.tab20 laws_FnMake.bits20 (fun HT_ HW_ => ?_); generalize hG.drew = ju at aj af ag ae ah ao HB aK aL aM aN hHeld ⊢
                     refine pv_ 0 (some 97) bl1 HT_ ?_
                     refine pv_ 1 (some 98) bl2 HT_ ?_
                     refine pv_ 2 (some 99) bl3 HT_ ?_
                     refine pv_ 4 (some 101) bl37 HT_ ?_
                     refine pv_ 5 (some 102) bl38 HT_ ?_
                     refine pv_ 6 (some 103) bl39 HT_ ?_
                     refine pv_ 7 (some 104) bl40 HT_ ?_
                     refine tk_ 3 (some 100) bl8 HT_ HW_ hHeld ?_
                     refine tk_ 8 (some 105) bl9 HT_ HW_ hHeld ?_
                     refine pv_ 9 (some 106) bl10 HT_ ?_
                     refine pv_ 10 (some 107) bl11 HT_ ?_
                     refine pn_ 11 (some 108) bl12 HT_ ?_
                     refine pn_ 12 (some 109) bl13 HT_ ?_
                     refine pn_ 13 (some 110) bl14 HT_ ?_
                     refine pn_ 14 (some 111) bl15 HT_ ?_
                     refine pn_ 15 (some 112) bl16 HT_ ?_
                     refine pn_ 16 (some 113) bl17 HT_ ?_
                     refine pn_ 17 (some 114) bl18 HT_ ?_
                     refine pn_ 18 (some 115) bl19 HT_ ?_
                     refine pv_ 19 (some 116) bl20 HT_ ?_
                     refine pv_ 20 (some 117) bl21 HT_ ?_
                     refine pn_ 21 (some 118) bl22 HT_ ?_
                     refine pn_ 22 (some 119) bl23 HT_ ?_
                     refine pn_ 23 (some 120) bl24 HT_ ?_
                     refine pn_ 24 (some 121) bl25 HT_ ?_
                     refine pn_ 25 (some 122) bl26 HT_ ?_
                     refine pn_ 26 (some 123) bl27 HT_ ?_
                     refine pn_ 27 (some 124) bl28 HT_ ?_
                     refine pn_ 28 (some 125) bl29 HT_ ?_
                     refine pv_ 29 (some 126) bl30 HT_ ?_
                     refine pv_ 30 (some 127) bl31 HT_ ?_
                     refine pn_ 31 (some 128) bl32 HT_ ?_
                     refine pn_ 32 (some 129) bl33 HT_ ?_
                     refine pv_ 33 (some 130) bl34 HT_ ?_
                     refine pv_ 34 (some 131) bl35 HT_ ?_
                     refine pv_ 35 (some 12) bl36 HT_ ?_
                     refine done_ (done_of HT_.out (by kernel_rfl)) ?_
                     try go_wp2
                     go_roundg k4
                     case measure => have := HJ19.out; have := HK2.out; have := HJ46.out; have := HK4.out; omega
                     case rel => exact ⟨(false), (wrap64 (ac + 1)), (by first | rfl | (simp; done) | (simp [*]; done) | (rw [Int.tmod_eq_emod_of_nonneg (Int.natCast_nonneg _)]; done)), (by first | rfl | (simp; done) | (simp [*]; done) | (rw [Int.tmod_eq_emod_of_nonneg (Int.natCast_nonneg _)]; done)), H', ⟨by have := HJ19.out; have := HK2.out; have := HJ46.out; have := HK4.out; omega⟩, ⟨by (with_reducible repeat (first | apply Kd.R_alloc | apply Kd.R_drewN | apply Kd.R_drew)); exact Kd.R_mono aj.out (fun _ hk => ⟨hk.1, hk.2.1⟩)⟩, ⟨by (with_reducible repeat (first | apply Kd.R_alloc | apply Kd.R_drewN | apply Kd.R_drew)); exact Kd.R_mono af.out (fun _ hk => ⟨hk.1, hk.2.1⟩)⟩, ⟨by (with_reducible repeat (first | apply Kd.R_alloc | apply Kd.R_drewN | apply Kd.R_drew)); exact Kd.R_mono ag.out (fun _ hk => ⟨hk.1, hk.2.1⟩)⟩, ⟨zB ae.out⟩, ⟨zB ah.out⟩, ⟨zS HB.out⟩⟩
                   ·rw [if_neg eu] at H; exact absurd H (by simp)
                  ·rw [if_neg et] at H; exact absurd H (by simp)
                ·rw [if_neg er] at H; exact absurd H (by simp)
               ·rw [if_neg ec] at H; have fb : decide (ac < 50) = false := decide_eq_false ec; clear ec
                by_cases ev : 0 ≤ aa
                ·rw [if_pos ev] at H; have iz : decide (0 ≤ aa) = true := decide_eq_true ev; clear ev
                 by_cases ew : aa < (ab.length : Int)
                 ·rw [if_pos ew] at H; have iA : decide (aa < (ab.length : Int)) = true := decide_eq_true ew; clear ew; replace H := Option.bind_eq_some_iff.mp H; obtain ⟨⟨bP, eQ⟩, eR, H⟩ := H; replace H : (if eQ = true then (if (ab.length : Int) ≤ 50 then (if (bP != aA) = true then (some false) else (laws_FnMake.l0 k4 ab (wrap64 (aa + 1)) an ak am ai)) else (laws_FnMake.l0 k4 ab (wrap64 (aa + 1)) an ak am ai)) else (some false)) = some r := H; have ex := Aside0.mk eR; clear eR
                  by_cases ey : eQ = true
                  ·subst ey
                   have H1 : (if (ab.length : Int) ≤ 50 then (if (bP != aA) = true then (some false) else (laws_FnMake.l0 k4 ab (wrap64 (aa + 1)) an ak am ai)) else (laws_FnMake.l0 k4 ab (wrap64 (aa + 1)) an ak am ai)) = some r := by rw [if_pos rfl] at H; exact H
                   clear H; have H := H1; clear H1
                   by_cases ed : (ab.length : Int) ≤ 50
                   ·rw [if_pos ed] at H; have fi : decide ((ab.length : Int) ≤ 50) = true := decide_eq_true ed; have fj : decide (ab.length ≤ 50) = true := decide_eq_true (by omega); clear ed
                    by_cases cb : (bP != aA) = true
                    ·rw [if_pos cb] at H; have fk : (bP != aA) = true := cb
                     (try (have fl : decide (bP = aA) = false := by simpa using cb))
                     (try (have fm : (bP == aA) = false := by simpa using cb))
                     (try (have iB : ¬ (bP = aA) := by simpa using cb))
                     clear cb; obtain rfl := Option.some.inj H
                     try go_wp2
                     replace aj := Aside0.mk (Kd.R_drew aj.out); replace af := Aside0.mk (Kd.R_drew af.out); replace ag := Aside0.mk (Kd.R_drew ag.out); replace ae := Aside0.mk (blk_drew ae.out); replace ah := Aside0.mk (blk_drew ah.out); replace HB := Aside0.mk (below_drew1 HB.out); have bw : 0 ≤ (aa : Int) := of_decide_eq_true (by first | (with_reducible assumption) | assumption); have q342 : aa < (ab.length : Int) := of_decide_eq_true (by first | (with_reducible assumption) | assumption); obtain ⟨ad342, e342, aO, aP, aQ, aR⟩ := at_T33 (Kd.R_reads' aj.out).2.2 aa bw q342
                     cases e342
                     replace bw := eq_true bw; replace q342 := eq_true q342; have bx : 0 ≤ (aa : Int) := of_decide_eq_true (by first | (with_reducible assumption) | assumption); have q343 : aa < (ab.length : Int) := of_decide_eq_true (by first | (with_reducible assumption) | assumption); obtain ⟨ad343, e343, aS, aT, aU, aV⟩ := at_T33 (Kd.R_reads' aj.out).2.2 aa bx q343; obtain rfl : ad342 = ad343 := (by injection e343); replace bx := eq_true bx; replace q343 := eq_true q343; have bz : 0 ≤ (aa : Int) := of_decide_eq_true (by first | (with_reducible assumption) | assumption); have q344 : aa < (ab.length : Int) := of_decide_eq_true (by first | (with_reducible assumption) | assumption); obtain ⟨ad344, e344, aW, aX, aY, aZ⟩ := at_T33 (Kd.R_reads' aj.out).2.2 aa bz q344; obtain rfl : ad342 = ad344 := (by injection e344); replace bz := eq_true bz; replace q344 := eq_true q344; refine start_ (n := 22) (S := fun w' => w'.cell? ⟨aq, 0, none⟩ = some (.int .i64 an) ∧ w'.cell? ⟨aq, 1, none⟩ = some (.int .i64 ak) ∧ w'.cell? ⟨aq, 2, none⟩ = some (.int .i64 am) ∧ w'.cell? ⟨aq, 3, none⟩ = some (.slice au ai.length ar) ∧ w'.cell? (ad342.add ((aa).toNat * 4)) = some (.int .i64 ((rd_T33 ab aa).f0)) ∧ w'.cell? ⟨(ad342.add ((aa).toNat * 4)).block, (ad342.add ((aa).toNat * 4)).off + 1, none⟩ = some (.int .i64 ((rd_T33 ab aa).f1)) ∧ w'.cell? ⟨(ad342.add ((aa).toNat * 4)).block, (ad342.add ((aa).toNat * 4)).off + 2, none⟩ = some (.int .i64 ((rd_T33 ab aa).f2)) ∧ w'.cell? ⟨(ad342.add ((aa).toNat * 4)).block, (ad342.add ((aa).toNat * 4)).off + 3, none⟩ = some (.bool ((rd_T33 ab aa).f3)) ∧ w'.cell? (ad342.add ((aa).toNat * 4)) = some (.int .i64 ((rd_T33 ab aa).f0)) ∧ w'.cell? ⟨(ad342.add ((aa).toNat * 4)).block, (ad342.add ((aa).toNat * 4)).off + 1, none⟩ = some (.int .i64 ((rd_T33 ab aa).f1)) ∧ w'.cell? ⟨(ad342.add ((aa).toNat * 4)).block, (ad342.add ((aa).toNat * 4)).off + 2, none⟩ = some (.int .i64 ((rd_T33 ab aa).f2)) ∧ w'.cell? ⟨(ad342.add ((aa).toNat * 4)).block, (ad342.add ((aa).toNat * 4)).off + 3, none⟩ = some (.bool ((rd_T33 ab aa).f3)) ∧ w'.cell? (ad342.add ((aa).toNat * 4)) = some (.int .i64 ((rd_T33 ab aa).f0)) ∧ w'.cell? ⟨(ad342.add ((aa).toNat * 4)).block, (ad342.add ((aa).toNat * 4)).off + 1, none⟩ = some (.int .i64 ((rd_T33 ab aa).f1)) ∧ w'.cell? ⟨(ad342.add ((aa).toNat * 4)).block, (ad342.add ((aa).toNat * 4)).off + 2, none⟩ = some (.int .i64 ((rd_T33 ab aa).f2)) ∧ w'.cell? ⟨(ad342.add ((aa).toNat * 4)).block, (ad342.add ((aa).toNat * 4)).off + 3, none⟩ = some (.bool ((rd_T33 ab aa).f3))) (ds := []) bl49 (by kernel_rfl) rfl rfl ⟨b1 ae 0, b1 ae 1, b1 ae 2, b1 ae 3, aO, aP, aQ, aR, aS, aT, aU, aV, aW, aX, aY, aZ⟩ (fun hHeld => ?_)
                     refine with_tabW laws_FnMake.tab21 laws_FnMake.bits21 (fun HT_ HW_ => ?_); generalize wr.drew = jv at aj af ag ae ah HB aO aP aQ aR aS aT aU aV aW aX aY aZ hHeld ⊢
                     refine pv_ 1 (some 134) bl50 HT_ ?_
                     refine pv_ 2 (some 135) bl51 HT_ ?_
                     refine pv_ 3 (some 136) bl52 HT_ ?_
                     refine pv_ 4 (some 137) bl53 HT_ ?_
                     refine pv_ 6 (some 139) bl54 HT_ ?_
                     refine pv_ 7 (some 140) bl55 HT_ ?_
                     refine pv_ 8 (some 141) bl56 HT_ ?_
                     refine pv_ 9 (some 142) bl57 HT_ ?_
                     refine pv_ 11 (some 144) bl58 HT_ ?_
                     refine pv_ 12 (some 145) bl59 HT_ ?_
                     refine pv_ 13 (some 146) bl60 HT_ ?_
                     refine pv_ 14 (some 147) bl61 HT_ ?_
                     refine tk_ 0 (some 133) bl62 HT_ HW_ hHeld ?_
                     refine tk_ 5 (some 138) bl63 HT_ HW_ hHeld ?_
                     refine tk_ 10 (some 143) bl64 HT_ HW_ hHeld ?_
                     refine tk_ 15 (some 148) bl65 HT_ HW_ hHeld ?_
                     refine on_ 16 (some 149) bl66 HT_ (fun K hK => ?_); refine gs_ Try.func10 #[.agg #[.int .i64 an, .int .i64 ak, .int .i64 am, .slice au ai.length ar], .int .i64 ((rd_T33 ab aa).f0), .int .i64 ((rd_T33 ab aa).f1), .int .i64 ((rd_T33 ab aa).f2)] ?_
                     with_reducible refine (impl_AutoEdge.calls k4 an ak am _ _ ai ((rd_T33 ab aa).f0) ((rd_T33 ab aa).f1) ((rd_T33 ab aa).f2) bP true _ ?side1 ?side2 ex.out).mono ?_
                     (case side1 => exact zC (Kd.R_reads' af.out).2.2)
                     (case side2 => exact (Kd.R_reads' af.out).2.1)
                     rintro e jw ⟨rfl, hb⟩; have HS4_ := (hb.cell (World.block_lt_of_cell? _ _ (hHeld.2.2.2.2.1))).trans (hHeld.2.2.2.2.1); have HS5_ := (hb.cell (World.block_lt_of_cell? _ _ (hHeld.2.2.2.2.2.1))).trans (hHeld.2.2.2.2.2.1); have HS6_ := (hb.cell (World.block_lt_of_cell? _ _ (hHeld.2.2.2.2.2.2.1))).trans (hHeld.2.2.2.2.2.2.1); have HS7_ := (hb.cell (World.block_lt_of_cell? _ _ (hHeld.2.2.2.2.2.2.2.1))).trans (hHeld.2.2.2.2.2.2.2.1); have HS8_ := (hb.cell (World.block_lt_of_cell? _ _ (hHeld.2.2.2.2.2.2.2.2.1))).trans (hHeld.2.2.2.2.2.2.2.2.1); have HS9_ := (hb.cell (World.block_lt_of_cell? _ _ (hHeld.2.2.2.2.2.2.2.2.2.1))).trans (hHeld.2.2.2.2.2.2.2.2.2.1); have HS10_ := (hb.cell (World.block_lt_of_cell? _ _ (hHeld.2.2.2.2.2.2.2.2.2.2.1))).trans (hHeld.2.2.2.2.2.2.2.2.2.2.1); have HS11_ := (hb.cell (World.block_lt_of_cell? _ _ (hHeld.2.2.2.2.2.2.2.2.2.2.2.1))).trans (hHeld.2.2.2.2.2.2.2.2.2.2.2.1); have HS12_ := (hb.cell (World.block_lt_of_cell? _ _ (hHeld.2.2.2.2.2.2.2.2.2.2.2.2.1))).trans (hHeld.2.2.2.2.2.2.2.2.2.2.2.2.1); have HS13_ := (hb.cell (World.block_lt_of_cell? _ _ (hHeld.2.2.2.2.2.2.2.2.2.2.2.2.2.1))).trans (hHeld.2.2.2.2.2.2.2.2.2.2.2.2.2.1); have HS14_ := (hb.cell (World.block_lt_of_cell? _ _ (hHeld.2.2.2.2.2.2.2.2.2.2.2.2.2.2.1))).trans (hHeld.2.2.2.2.2.2.2.2.2.2.2.2.2.2.1); have HS15_ := (hb.cell (World.block_lt_of_cell? _ _ (hHeld.2.2.2.2.2.2.2.2.2.2.2.2.2.2.2))).trans (hHeld.2.2.2.2.2.2.2.2.2.2.2.2.2.2.2); refine ⟨_, rfl, ?_⟩; replace aj := xR aj hb; replace af := xR af hb; replace ag := xR ag hb; replace ae := xB ae hb; replace ah := xB ah hb; replace HB := xS HB hb
                     (try clear hb)
                     (try clear hb2)
                     (try clear hk)
                     (try clear hi)
                     refine hK.out _ _ ⟨b1 ae 0, b1 ae 1, b1 ae 2, b1 ae 3, HS4_, HS5_, HS6_, HS7_, HS8_, HS9_, HS10_, HS11_, HS12_, HS13_, HS14_, HS15_⟩ (fun hHeld => ?_); clear hK K; refine norm_ (a' := ?_) ?_ ?_; rotate_left
                     ·show Act.put _ (some 149) _ = _; simp only [Act.put, q5]; rfl
                     refine pv_ 17 (some 132) bl67 HT_ ?_
                     refine pv_ 18 (some 150) bl68 HT_ ?_
                     refine pv_ 19 (some 151) bl69 HT_ ?_
                     refine pv_ 20 (some 15) bl70 HT_ ?_
                     refine pv_ 21 (some 16) bl71 HT_ ?_
                     refine done_ (done_of HT_.out (by kernel_rfl)) ?_
                     try go_wp2
                     go_ret; exact ⟨by first | rfl | (simp [errW_none, errW_some] <;> rfl) | (simp [*, errW_none, errW_some] <;> rfl), by repeat (first | (with_reducible first | exact HB.out | apply below_alloc | apply pw_below_drewN | apply below_drew1 | refine below_set ?_ bt.out | refine below_set ?_ bu.out) | exact HB.out)⟩
                    ·rw [if_neg cb] at H
                     have fk : (bP != aA) = false := by simpa using cb
                     (try (have fl : decide (bP = aA) = true := by simpa using cb))
                     (try (have fm : (bP == aA) = true := by simpa using cb))
                     clear cb; have H' := Aside0.mk H; clear H
                     try go_wp2
                     replace aj := Aside0.mk (Kd.R_drew aj.out); replace af := Aside0.mk (Kd.R_drew af.out); replace ag := Aside0.mk (Kd.R_drew ag.out); replace ae := Aside0.mk (blk_drew ae.out); replace ah := Aside0.mk (blk_drew ah.out); replace HB := Aside0.mk (below_drew1 HB.out); have bw : 0 ≤ (aa : Int) := of_decide_eq_true (by first | (with_reducible assumption) | assumption); have q342 : aa < (ab.length : Int) := of_decide_eq_true (by first | (with_reducible assumption) | assumption); obtain ⟨ad342, e342, aO, aP, aQ, aR⟩ := at_T33 (Kd.R_reads' aj.out).2.2 aa bw q342
                     cases e342
                     replace bw := eq_true bw; replace q342 := eq_true q342; have bx : 0 ≤ (aa : Int) := of_decide_eq_true (by first | (with_reducible assumption) | assumption); have q343 : aa < (ab.length : Int) := of_decide_eq_true (by first | (with_reducible assumption) | assumption); obtain ⟨ad343, e343, aS, aT, aU, aV⟩ := at_T33 (Kd.R_reads' aj.out).2.2 aa bx q343; obtain rfl : ad342 = ad343 := (by injection e343); replace bx := eq_true bx; replace q343 := eq_true q343; have bz : 0 ≤ (aa : Int) := of_decide_eq_true (by first | (with_reducible assumption) | assumption); have q344 : aa < (ab.length : Int) := of_decide_eq_true (by first | (with_reducible assumption) | assumption); obtain ⟨ad344, e344, aW, aX, aY, aZ⟩ := at_T33 (Kd.R_reads' aj.out).2.2 aa bz q344; obtain rfl : ad342 = ad344 := (by injection e344); replace bz := eq_true bz; replace q344 := eq_true q344; refine start_ (n := 22) (S := fun w' => w'.cell? ⟨aq, 0, none⟩ = some (.int .i64 an) ∧ w'.cell? ⟨aq, 1, none⟩ = some (.int .i64 ak) ∧ w'.cell? ⟨aq, 2, none⟩ = some (.int .i64 am) ∧ w'.cell? ⟨aq, 3, none⟩ = some (.slice au ai.length ar) ∧ w'.cell? (ad342.add ((aa).toNat * 4)) = some (.int .i64 ((rd_T33 ab aa).f0)) ∧ w'.cell? ⟨(ad342.add ((aa).toNat * 4)).block, (ad342.add ((aa).toNat * 4)).off + 1, none⟩ = some (.int .i64 ((rd_T33 ab aa).f1)) ∧ w'.cell? ⟨(ad342.add ((aa).toNat * 4)).block, (ad342.add ((aa).toNat * 4)).off + 2, none⟩ = some (.int .i64 ((rd_T33 ab aa).f2)) ∧ w'.cell? ⟨(ad342.add ((aa).toNat * 4)).block, (ad342.add ((aa).toNat * 4)).off + 3, none⟩ = some (.bool ((rd_T33 ab aa).f3)) ∧ w'.cell? (ad342.add ((aa).toNat * 4)) = some (.int .i64 ((rd_T33 ab aa).f0)) ∧ w'.cell? ⟨(ad342.add ((aa).toNat * 4)).block, (ad342.add ((aa).toNat * 4)).off + 1, none⟩ = some (.int .i64 ((rd_T33 ab aa).f1)) ∧ w'.cell? ⟨(ad342.add ((aa).toNat * 4)).block, (ad342.add ((aa).toNat * 4)).off + 2, none⟩ = some (.int .i64 ((rd_T33 ab aa).f2)) ∧ w'.cell? ⟨(ad342.add ((aa).toNat * 4)).block, (ad342.add ((aa).toNat * 4)).off + 3, none⟩ = some (.bool ((rd_T33 ab aa).f3)) ∧ w'.cell? (ad342.add ((aa).toNat * 4)) = some (.int .i64 ((rd_T33 ab aa).f0)) ∧ w'.cell? ⟨(ad342.add ((aa).toNat * 4)).block, (ad342.add ((aa).toNat * 4)).off + 1, none⟩ = some (.int .i64 ((rd_T33 ab aa).f1)) ∧ w'.cell? ⟨(ad342.add ((aa).toNat * 4)).block, (ad342.add ((aa).toNat * 4)).off + 2, none⟩ = some (.int .i64 ((rd_T33 ab aa).f2)) ∧ w'.cell? ⟨(ad342.add ((aa).toNat * 4)).block, (ad342.add ((aa).toNat * 4)).off + 3, none⟩ = some (.bool ((rd_T33 ab aa).f3))) (ds := []) bl49 (by kernel_rfl) rfl rfl ⟨b1 ae 0, b1 ae 1, b1 ae 2, b1 ae 3, aO, aP, aQ, aR, aS, aT, aU, aV, aW, aX, aY, aZ⟩ (fun hHeld => ?_)
                     refine with_tabW laws_FnMake.tab21 laws_FnMake.bits21 (fun HT_ HW_ => ?_); generalize wr.drew = jx at aj af ag ae ah HB aO aP aQ aR aS aT aU aV aW aX aY aZ hHeld ⊢
                     refine pv_ 1 (some 134) bl50 HT_ ?_
                     refine pv_ 2 (some 135) bl51 HT_ ?_
                     refine pv_ 3 (some 136) bl52 HT_ ?_
                     refine pv_ 4 (some 137) bl53 HT_ ?_
                     refine pv_ 6 (some 139) bl54 HT_ ?_
                     refine pv_ 7 (some 140) bl55 HT_ ?_
                     refine pv_ 8 (some 141) bl56 HT_ ?_
                     refine pv_ 9 (some 142) bl57 HT_ ?_
                     refine pv_ 11 (some 144) bl58 HT_ ?_
                     refine pv_ 12 (some 145) bl59 HT_ ?_
                     refine pv_ 13 (some 146) bl60 HT_ ?_
                     refine pv_ 14 (some 147) bl61 HT_ ?_
                     refine tk_ 0 (some 133) bl62 HT_ HW_ hHeld ?_
                     refine tk_ 5 (some 138) bl63 HT_ HW_ hHeld ?_
                     refine tk_ 10 (some 143) bl64 HT_ HW_ hHeld ?_
                     refine tk_ 15 (some 148) bl65 HT_ HW_ hHeld ?_
                     refine on_ 16 (some 149) bl66 HT_ (fun K hK => ?_); refine gs_ Try.func10 #[.agg #[.int .i64 an, .int .i64 ak, .int .i64 am, .slice au ai.length ar], .int .i64 ((rd_T33 ab aa).f0), .int .i64 ((rd_T33 ab aa).f1), .int .i64 ((rd_T33 ab aa).f2)] ?_
                     with_reducible refine (impl_AutoEdge.calls k4 an ak am _ _ ai ((rd_T33 ab aa).f0) ((rd_T33 ab aa).f1) ((rd_T33 ab aa).f2) bP true _ ?side1 ?side2 ex.out).mono ?_
                     (case side1 => exact zC (Kd.R_reads' af.out).2.2)
                     (case side2 => exact (Kd.R_reads' af.out).2.1)
                     rintro e jy ⟨rfl, hb⟩; have HS4_ := (hb.cell (World.block_lt_of_cell? _ _ (hHeld.2.2.2.2.1))).trans (hHeld.2.2.2.2.1); have HS5_ := (hb.cell (World.block_lt_of_cell? _ _ (hHeld.2.2.2.2.2.1))).trans (hHeld.2.2.2.2.2.1); have HS6_ := (hb.cell (World.block_lt_of_cell? _ _ (hHeld.2.2.2.2.2.2.1))).trans (hHeld.2.2.2.2.2.2.1); have HS7_ := (hb.cell (World.block_lt_of_cell? _ _ (hHeld.2.2.2.2.2.2.2.1))).trans (hHeld.2.2.2.2.2.2.2.1); have HS8_ := (hb.cell (World.block_lt_of_cell? _ _ (hHeld.2.2.2.2.2.2.2.2.1))).trans (hHeld.2.2.2.2.2.2.2.2.1); have HS9_ := (hb.cell (World.block_lt_of_cell? _ _ (hHeld.2.2.2.2.2.2.2.2.2.1))).trans (hHeld.2.2.2.2.2.2.2.2.2.1); have HS10_ := (hb.cell (World.block_lt_of_cell? _ _ (hHeld.2.2.2.2.2.2.2.2.2.2.1))).trans (hHeld.2.2.2.2.2.2.2.2.2.2.1); have HS11_ := (hb.cell (World.block_lt_of_cell? _ _ (hHeld.2.2.2.2.2.2.2.2.2.2.2.1))).trans (hHeld.2.2.2.2.2.2.2.2.2.2.2.1); have HS12_ := (hb.cell (World.block_lt_of_cell? _ _ (hHeld.2.2.2.2.2.2.2.2.2.2.2.2.1))).trans (hHeld.2.2.2.2.2.2.2.2.2.2.2.2.1); have HS13_ := (hb.cell (World.block_lt_of_cell? _ _ (hHeld.2.2.2.2.2.2.2.2.2.2.2.2.2.1))).trans (hHeld.2.2.2.2.2.2.2.2.2.2.2.2.2.1); have HS14_ := (hb.cell (World.block_lt_of_cell? _ _ (hHeld.2.2.2.2.2.2.2.2.2.2.2.2.2.2.1))).trans (hHeld.2.2.2.2.2.2.2.2.2.2.2.2.2.2.1); have HS15_ := (hb.cell (World.block_lt_of_cell? _ _ (hHeld.2.2.2.2.2.2.2.2.2.2.2.2.2.2.2))).trans (hHeld.2.2.2.2.2.2.2.2.2.2.2.2.2.2.2); refine ⟨_, rfl, ?_⟩; replace aj := xR aj hb; replace af := xR af hb; replace ag := xR ag hb; replace ae := xB ae hb; replace ah := xB ah hb; replace HB := xS HB hb
                     (try clear hb)
                     (try clear hb2)
                     (try clear hk)
                     (try clear hi)
                     refine hK.out _ _ ⟨b1 ae 0, b1 ae 1, b1 ae 2, b1 ae 3, HS4_, HS5_, HS6_, HS7_, HS8_, HS9_, HS10_, HS11_, HS12_, HS13_, HS14_, HS15_⟩ (fun hHeld => ?_); clear hK K; refine norm_ (a' := ?_) ?_ ?_; rotate_left
                     ·show Act.put _ (some 149) _ = _; simp only [Act.put, q5]; rfl
                     refine pv_ 17 (some 132) bl67 HT_ ?_
                     refine pv_ 18 (some 150) bl68 HT_ ?_
                     refine pv_ 19 (some 151) bl69 HT_ ?_
                     refine pv_ 20 (some 15) bl70 HT_ ?_
                     refine pv_ 21 (some 16) bl71 HT_ ?_
                     refine done_ (done_of HT_.out (by kernel_rfl)) ?_
                     try go_wp2
                     go_roundg k4
                     case measure => have := HJ19.out; have := HK2.out; have := HJ46.out; have := HK4.out; omega
                     case rel => exact ⟨(wrap64 (aa + 1)), (by first | rfl | (simp; done) | (simp [*]; done) | (rw [Int.tmod_eq_emod_of_nonneg (Int.natCast_nonneg _)]; done)), H', ⟨by have := HJ19.out; have := HK2.out; have := HJ46.out; have := HK4.out; omega⟩, ⟨zR aj.out⟩, ⟨zR af.out⟩, ⟨zR ag.out⟩, ⟨zB ae.out⟩, ⟨zB ah.out⟩, ⟨zS HB.out⟩⟩
                   ·rw [if_neg ed] at H; have fi : decide ((ab.length : Int) ≤ 50) = false := decide_eq_false ed; have fj : decide (ab.length ≤ 50) = false := decide_eq_false (by omega); clear ed; have H' := Aside0.mk H; clear H
                    try go_wp2
                    replace aj := Aside0.mk (Kd.R_drew aj.out); replace af := Aside0.mk (Kd.R_drew af.out); replace ag := Aside0.mk (Kd.R_drew ag.out); replace ae := Aside0.mk (blk_drew ae.out); replace ah := Aside0.mk (blk_drew ah.out); replace HB := Aside0.mk (below_drew1 HB.out); have bw : 0 ≤ (aa : Int) := of_decide_eq_true (by first | (with_reducible assumption) | assumption); have q342 : aa < (ab.length : Int) := of_decide_eq_true (by first | (with_reducible assumption) | assumption); obtain ⟨ad342, e342, aO, aP, aQ, aR⟩ := at_T33 (Kd.R_reads' aj.out).2.2 aa bw q342
                    cases e342
                    replace bw := eq_true bw; replace q342 := eq_true q342; have bx : 0 ≤ (aa : Int) := of_decide_eq_true (by first | (with_reducible assumption) | assumption); have q343 : aa < (ab.length : Int) := of_decide_eq_true (by first | (with_reducible assumption) | assumption); obtain ⟨ad343, e343, aS, aT, aU, aV⟩ := at_T33 (Kd.R_reads' aj.out).2.2 aa bx q343; obtain rfl : ad342 = ad343 := (by injection e343); replace bx := eq_true bx; replace q343 := eq_true q343; have bz : 0 ≤ (aa : Int) := of_decide_eq_true (by first | (with_reducible assumption) | assumption); have q344 : aa < (ab.length : Int) := of_decide_eq_true (by first | (with_reducible assumption) | assumption); obtain ⟨ad344, e344, aW, aX, aY, aZ⟩ := at_T33 (Kd.R_reads' aj.out).2.2 aa bz q344; obtain rfl : ad342 = ad344 := (by injection e344); replace bz := eq_true bz; replace q344 := eq_true q344; refine start_ (n := 22) (S := fun w' => w'.cell? ⟨aq, 0, none⟩ = some (.int .i64 an) ∧ w'.cell? ⟨aq, 1, none⟩ = some (.int .i64 ak) ∧ w'.cell? ⟨aq, 2, none⟩ = some (.int .i64 am) ∧ w'.cell? ⟨aq, 3, none⟩ = some (.slice au ai.length ar) ∧ w'.cell? (ad342.add ((aa).toNat * 4)) = some (.int .i64 ((rd_T33 ab aa).f0)) ∧ w'.cell? ⟨(ad342.add ((aa).toNat * 4)).block, (ad342.add ((aa).toNat * 4)).off + 1, none⟩ = some (.int .i64 ((rd_T33 ab aa).f1)) ∧ w'.cell? ⟨(ad342.add ((aa).toNat * 4)).block, (ad342.add ((aa).toNat * 4)).off + 2, none⟩ = some (.int .i64 ((rd_T33 ab aa).f2)) ∧ w'.cell? ⟨(ad342.add ((aa).toNat * 4)).block, (ad342.add ((aa).toNat * 4)).off + 3, none⟩ = some (.bool ((rd_T33 ab aa).f3)) ∧ w'.cell? (ad342.add ((aa).toNat * 4)) = some (.int .i64 ((rd_T33 ab aa).f0)) ∧ w'.cell? ⟨(ad342.add ((aa).toNat * 4)).block, (ad342.add ((aa).toNat * 4)).off + 1, none⟩ = some (.int .i64 ((rd_T33 ab aa).f1)) ∧ w'.cell? ⟨(ad342.add ((aa).toNat * 4)).block, (ad342.add ((aa).toNat * 4)).off + 2, none⟩ = some (.int .i64 ((rd_T33 ab aa).f2)) ∧ w'.cell? ⟨(ad342.add ((aa).toNat * 4)).block, (ad342.add ((aa).toNat * 4)).off + 3, none⟩ = some (.bool ((rd_T33 ab aa).f3)) ∧ w'.cell? (ad342.add ((aa).toNat * 4)) = some (.int .i64 ((rd_T33 ab aa).f0)) ∧ w'.cell? ⟨(ad342.add ((aa).toNat * 4)).block, (ad342.add ((aa).toNat * 4)).off + 1, none⟩ = some (.int .i64 ((rd_T33 ab aa).f1)) ∧ w'.cell? ⟨(ad342.add ((aa).toNat * 4)).block, (ad342.add ((aa).toNat * 4)).off + 2, none⟩ = some (.int .i64 ((rd_T33 ab aa).f2)) ∧ w'.cell? ⟨(ad342.add ((aa).toNat * 4)).block, (ad342.add ((aa).toNat * 4)).off + 3, none⟩ = some (.bool ((rd_T33 ab aa).f3))) (ds := []) bl49 (by kernel_rfl) rfl rfl ⟨b1 ae 0, b1 ae 1, b1 ae 2, b1 ae 3, aO, aP, aQ, aR, aS, aT, aU, aV, aW, aX, aY, aZ⟩ (fun hHeld => ?_)
                    refine with_tabW laws_FnMake.tab21 laws_FnMake.bits21 (fun HT_ HW_ => ?_); generalize wr.drew = jz at aj af ag ae ah HB aO aP aQ aR aS aT aU aV aW aX aY aZ hHeld ⊢
                    refine pv_ 1 (some 134) bl50 HT_ ?_
                    refine pv_ 2 (some 135) bl51 HT_ ?_
                    refine pv_ 3 (some 136) bl52 HT_ ?_
                    refine pv_ 4 (some 137) bl53 HT_ ?_
                    refine pv_ 6 (some 139) bl54 HT_ ?_
                    refine pv_ 7 (some 140) bl55 HT_ ?_
                    refine pv_ 8 (some 141) bl56 HT_ ?_
                    refine pv_ 9 (some 142) bl57 HT_ ?_
                    refine pv_ 11 (some 144) bl58 HT_ ?_
                    refine pv_ 12 (some 145) bl59 HT_ ?_
                    refine pv_ 13 (some 146) bl60 HT_ ?_
                    refine pv_ 14 (some 147) bl61 HT_ ?_
                    refine tk_ 0 (some 133) bl62 HT_ HW_ hHeld ?_
                    refine tk_ 5 (some 138) bl63 HT_ HW_ hHeld ?_
                    refine tk_ 10 (some 143) bl64 HT_ HW_ hHeld ?_
                    refine tk_ 15 (some 148) bl65 HT_ HW_ hHeld ?_
                    refine on_ 16 (some 149) bl66 HT_ (fun K hK => ?_); refine gs_ Try.func10 #[.agg #[.int .i64 an, .int .i64 ak, .int .i64 am, .slice au ai.length ar], .int .i64 ((rd_T33 ab aa).f0), .int .i64 ((rd_T33 ab aa).f1), .int .i64 ((rd_T33 ab aa).f2)] ?_
                    with_reducible refine (impl_AutoEdge.calls k4 an ak am _ _ ai ((rd_T33 ab aa).f0) ((rd_T33 ab aa).f1) ((rd_T33 ab aa).f2) bP true _ ?side1 ?side2 ex.out).mono ?_
                    (case side1 => exact zC (Kd.R_reads' af.out).2.2)
                    (case side2 => exact (Kd.R_reads' af.out).2.1)
                    rintro e iJ ⟨rfl, hb⟩; have HS4_ := (hb.cell (World.block_lt_of_cell? _ _ (hHeld.2.2.2.2.1))).trans (hHeld.2.2.2.2.1); have HS5_ := (hb.cell (World.block_lt_of_cell? _ _ (hHeld.2.2.2.2.2.1))).trans (hHeld.2.2.2.2.2.1); have HS6_ := (hb.cell (World.block_lt_of_cell? _ _ (hHeld.2.2.2.2.2.2.1))).trans (hHeld.2.2.2.2.2.2.1); have HS7_ := (hb.cell (World.block_lt_of_cell? _ _ (hHeld.2.2.2.2.2.2.2.1))).trans (hHeld.2.2.2.2.2.2.2.1); have HS8_ := (hb.cell (World.block_lt_of_cell? _ _ (hHeld.2.2.2.2.2.2.2.2.1))).trans (hHeld.2.2.2.2.2.2.2.2.1); have HS9_ := (hb.cell (World.block_lt_of_cell? _ _ (hHeld.2.2.2.2.2.2.2.2.2.1))).trans (hHeld.2.2.2.2.2.2.2.2.2.1); have HS10_ := (hb.cell (World.block_lt_of_cell? _ _ (hHeld.2.2.2.2.2.2.2.2.2.2.1))).trans (hHeld.2.2.2.2.2.2.2.2.2.2.1); have HS11_ := (hb.cell (World.block_lt_of_cell? _ _ (hHeld.2.2.2.2.2.2.2.2.2.2.2.1))).trans (hHeld.2.2.2.2.2.2.2.2.2.2.2.1); have HS12_ := (hb.cell (World.block_lt_of_cell? _ _ (hHeld.2.2.2.2.2.2.2.2.2.2.2.2.1))).trans (hHeld.2.2.2.2.2.2.2.2.2.2.2.2.1); have HS13_ := (hb.cell (World.block_lt_of_cell? _ _ (hHeld.2.2.2.2.2.2.2.2.2.2.2.2.2.1))).trans (hHeld.2.2.2.2.2.2.2.2.2.2.2.2.2.1); have HS14_ := (hb.cell (World.block_lt_of_cell? _ _ (hHeld.2.2.2.2.2.2.2.2.2.2.2.2.2.2.1))).trans (hHeld.2.2.2.2.2.2.2.2.2.2.2.2.2.2.1); have HS15_ := (hb.cell (World.block_lt_of_cell? _ _ (hHeld.2.2.2.2.2.2.2.2.2.2.2.2.2.2.2))).trans (hHeld.2.2.2.2.2.2.2.2.2.2.2.2.2.2.2); refine ⟨_, rfl, ?_⟩; replace aj := xR aj hb; replace af := xR af hb; replace ag := xR ag hb; replace ae := xB ae hb; replace ah := xB ah hb; replace HB := xS HB hb
                    (try clear hb)
                    (try clear hb2)
                    (try clear hk)
                    (try clear hi)
                    refine hK.out _ _ ⟨b1 ae 0, b1 ae 1, b1 ae 2, b1 ae 3, HS4_, HS5_, HS6_, HS7_, HS8_, HS9_, HS10_, HS11_, HS12_, HS13_, HS14_, HS15_⟩ (fun hHeld => ?_); clear hK K; refine norm_ (a' := ?_) ?_ ?_; rotate_left
                    ·show Act.put _ (some 149) _ = _; simp only [Act.put, q5]; rfl
                    refine pv_ 17 (some 132) bl67 HT_ ?_
                    refine pv_ 18 (some 150) bl68 HT_ ?_
                    refine pv_ 19 (some 151) bl69 HT_ ?_
                    refine pv_ 20 (some 15) bl70 HT_ ?_
                    refine pv_ 21 (some 16) bl71 HT_ ?_
                    refine done_ (done_of HT_.out (by kernel_rfl)) ?_
                    try go_wp2
                    go_roundg k4
                    case measure => have := HJ19.out; have := HK2.out; have := HJ46.out; have := HK4.out; omega
                    case rel => exact ⟨(wrap64 (aa + 1)), (by first | rfl | (simp; done) | (simp [*]; done) | (rw [Int.tmod_eq_emod_of_nonneg (Int.natCast_nonneg _)]; done)), H', ⟨by have := HJ19.out; have := HK2.out; have := HJ46.out; have := HK4.out; omega⟩, ⟨zR aj.out⟩, ⟨zR af.out⟩, ⟨zR ag.out⟩, ⟨zB ae.out⟩, ⟨zB ah.out⟩, ⟨zS HB.out⟩⟩
                  ·replace ey := Bool.eq_false_iff.mpr ey; subst ey
                   have H1 : (some false) = some r := by rw [if_neg (show ¬ (false = true) by decide)] at H; exact H
                   clear H; have H := H1; clear H1; obtain rfl := Option.some.inj H
                   try go_wp2
                   replace aj := Aside0.mk (Kd.R_drew aj.out); replace af := Aside0.mk (Kd.R_drew af.out); replace ag := Aside0.mk (Kd.R_drew ag.out); replace ae := Aside0.mk (blk_drew ae.out); replace ah := Aside0.mk (blk_drew ah.out); replace HB := Aside0.mk (below_drew1 HB.out); have bw : 0 ≤ (aa : Int) := of_decide_eq_true (by first | (with_reducible assumption) | assumption); have q342 : aa < (ab.length : Int) := of_decide_eq_true (by first | (with_reducible assumption) | assumption); obtain ⟨ad342, e342, aO, aP, aQ, aR⟩ := at_T33 (Kd.R_reads' aj.out).2.2 aa bw q342
                   cases e342
                   replace bw := eq_true bw; replace q342 := eq_true q342; have bx : 0 ≤ (aa : Int) := of_decide_eq_true (by first | (with_reducible assumption) | assumption); have q343 : aa < (ab.length : Int) := of_decide_eq_true (by first | (with_reducible assumption) | assumption); obtain ⟨ad343, e343, aS, aT, aU, aV⟩ := at_T33 (Kd.R_reads' aj.out).2.2 aa bx q343; obtain rfl : ad342 = ad343 := (by injection e343); replace bx := eq_true bx; replace q343 := eq_true q343; have bz : 0 ≤ (aa : Int) := of_decide_eq_true (by first | (with_reducible assumption) | assumption); have q344 : aa < (ab.length : Int) := of_decide_eq_true (by first | (with_reducible assumption) | assumption); obtain ⟨ad344, e344, aW, aX, aY, aZ⟩ := at_T33 (Kd.R_reads' aj.out).2.2 aa bz q344; obtain rfl : ad342 = ad344 := (by injection e344); replace bz := eq_true bz; replace q344 := eq_true q344; refine start_ (n := 22) (S := fun w' => w'.cell? ⟨aq, 0, none⟩ = some (.int .i64 an) ∧ w'.cell? ⟨aq, 1, none⟩ = some (.int .i64 ak) ∧ w'.cell? ⟨aq, 2, none⟩ = some (.int .i64 am) ∧ w'.cell? ⟨aq, 3, none⟩ = some (.slice au ai.length ar) ∧ w'.cell? (ad342.add ((aa).toNat * 4)) = some (.int .i64 ((rd_T33 ab aa).f0)) ∧ w'.cell? ⟨(ad342.add ((aa).toNat * 4)).block, (ad342.add ((aa).toNat * 4)).off + 1, none⟩ = some (.int .i64 ((rd_T33 ab aa).f1)) ∧ w'.cell? ⟨(ad342.add ((aa).toNat * 4)).block, (ad342.add ((aa).toNat * 4)).off + 2, none⟩ = some (.int .i64 ((rd_T33 ab aa).f2)) ∧ w'.cell? ⟨(ad342.add ((aa).toNat * 4)).block, (ad342.add ((aa).toNat * 4)).off + 3, none⟩ = some (.bool ((rd_T33 ab aa).f3)) ∧ w'.cell? (ad342.add ((aa).toNat * 4)) = some (.int .i64 ((rd_T33 ab aa).f0)) ∧ w'.cell? ⟨(ad342.add ((aa).toNat * 4)).block, (ad342.add ((aa).toNat * 4)).off + 1, none⟩ = some (.int .i64 ((rd_T33 ab aa).f1)) ∧ w'.cell? ⟨(ad342.add ((aa).toNat * 4)).block, (ad342.add ((aa).toNat * 4)).off + 2, none⟩ = some (.int .i64 ((rd_T33 ab aa).f2)) ∧ w'.cell? ⟨(ad342.add ((aa).toNat * 4)).block, (ad342.add ((aa).toNat * 4)).off + 3, none⟩ = some (.bool ((rd_T33 ab aa).f3)) ∧ w'.cell? (ad342.add ((aa).toNat * 4)) = some (.int .i64 ((rd_T33 ab aa).f0)) ∧ w'.cell? ⟨(ad342.add ((aa).toNat * 4)).block, (ad342.add ((aa).toNat * 4)).off + 1, none⟩ = some (.int .i64 ((rd_T33 ab aa).f1)) ∧ w'.cell? ⟨(ad342.add ((aa).toNat * 4)).block, (ad342.add ((aa).toNat * 4)).off + 2, none⟩ = some (.int .i64 ((rd_T33 ab aa).f2)) ∧ w'.cell? ⟨(ad342.add ((aa).toNat * 4)).block, (ad342.add ((aa).toNat * 4)).off + 3, none⟩ = some (.bool ((rd_T33 ab aa).f3))) (ds := []) bl49 (by kernel_rfl) rfl rfl ⟨b1 ae 0, b1 ae 1, b1 ae 2, b1 ae 3, aO, aP, aQ, aR, aS, aT, aU, aV, aW, aX, aY, aZ⟩ (fun hHeld => ?_)
                   refine with_tabW laws_FnMake.tab21 laws_FnMake.bits21 (fun HT_ HW_ => ?_); generalize wr.drew = iK at aj af ag ae ah HB aO aP aQ aR aS aT aU aV aW aX aY aZ hHeld ⊢
                   refine pv_ 1 (some 134) bl50 HT_ ?_
                   refine pv_ 2 (some 135) bl51 HT_ ?_
                   refine pv_ 3 (some 136) bl52 HT_ ?_
                   refine pv_ 4 (some 137) bl53 HT_ ?_
                   refine pv_ 6 (some 139) bl54 HT_ ?_
                   refine pv_ 7 (some 140) bl55 HT_ ?_
                   refine pv_ 8 (some 141) bl56 HT_ ?_
                   refine pv_ 9 (some 142) bl57 HT_ ?_
                   refine pv_ 11 (some 144) bl58 HT_ ?_
                   refine pv_ 12 (some 145) bl59 HT_ ?_
                   refine pv_ 13 (some 146) bl60 HT_ ?_
                   refine pv_ 14 (some 147) bl61 HT_ ?_
                   refine tk_ 0 (some 133) bl62 HT_ HW_ hHeld ?_
                   refine tk_ 5 (some 138) bl63 HT_ HW_ hHeld ?_
                   refine tk_ 10 (some 143) bl64 HT_ HW_ hHeld ?_
                   refine tk_ 15 (some 148) bl65 HT_ HW_ hHeld ?_
                   refine on_ 16 (some 149) bl66 HT_ (fun K hK => ?_); refine gs_ Try.func10 #[.agg #[.int .i64 an, .int .i64 ak, .int .i64 am, .slice au ai.length ar], .int .i64 ((rd_T33 ab aa).f0), .int .i64 ((rd_T33 ab aa).f1), .int .i64 ((rd_T33 ab aa).f2)] ?_
                   with_reducible refine (impl_AutoEdge.calls k4 an ak am _ _ ai ((rd_T33 ab aa).f0) ((rd_T33 ab aa).f1) ((rd_T33 ab aa).f2) bP false _ ?side1 ?side2 ex.out).mono ?_
                   (case side1 => exact zC (Kd.R_reads' af.out).2.2)
                   (case side2 => exact (Kd.R_reads' af.out).2.1)
                   rintro e iL ⟨rfl, hb⟩; have HS4_ := (hb.cell (World.block_lt_of_cell? _ _ (hHeld.2.2.2.2.1))).trans (hHeld.2.2.2.2.1); have HS5_ := (hb.cell (World.block_lt_of_cell? _ _ (hHeld.2.2.2.2.2.1))).trans (hHeld.2.2.2.2.2.1); have HS6_ := (hb.cell (World.block_lt_of_cell? _ _ (hHeld.2.2.2.2.2.2.1))).trans (hHeld.2.2.2.2.2.2.1); have HS7_ := (hb.cell (World.block_lt_of_cell? _ _ (hHeld.2.2.2.2.2.2.2.1))).trans (hHeld.2.2.2.2.2.2.2.1); have HS8_ := (hb.cell (World.block_lt_of_cell? _ _ (hHeld.2.2.2.2.2.2.2.2.1))).trans (hHeld.2.2.2.2.2.2.2.2.1); have HS9_ := (hb.cell (World.block_lt_of_cell? _ _ (hHeld.2.2.2.2.2.2.2.2.2.1))).trans (hHeld.2.2.2.2.2.2.2.2.2.1); have HS10_ := (hb.cell (World.block_lt_of_cell? _ _ (hHeld.2.2.2.2.2.2.2.2.2.2.1))).trans (hHeld.2.2.2.2.2.2.2.2.2.2.1); have HS11_ := (hb.cell (World.block_lt_of_cell? _ _ (hHeld.2.2.2.2.2.2.2.2.2.2.2.1))).trans (hHeld.2.2.2.2.2.2.2.2.2.2.2.1); have HS12_ := (hb.cell (World.block_lt_of_cell? _ _ (hHeld.2.2.2.2.2.2.2.2.2.2.2.2.1))).trans (hHeld.2.2.2.2.2.2.2.2.2.2.2.2.1); have HS13_ := (hb.cell (World.block_lt_of_cell? _ _ (hHeld.2.2.2.2.2.2.2.2.2.2.2.2.2.1))).trans (hHeld.2.2.2.2.2.2.2.2.2.2.2.2.2.1); have HS14_ := (hb.cell (World.block_lt_of_cell? _ _ (hHeld.2.2.2.2.2.2.2.2.2.2.2.2.2.2.1))).trans (hHeld.2.2.2.2.2.2.2.2.2.2.2.2.2.2.1); have HS15_ := (hb.cell (World.block_lt_of_cell? _ _ (hHeld.2.2.2.2.2.2.2.2.2.2.2.2.2.2.2))).trans (hHeld.2.2.2.2.2.2.2.2.2.2.2.2.2.2.2); refine ⟨_, rfl, ?_⟩; replace aj := xR aj hb; replace af := xR af hb; replace ag := xR ag hb; replace ae := xB ae hb; replace ah := xB ah hb; replace HB := xS HB hb
                   (try clear hb)
                   (try clear hb2)
                   (try clear hk)
                   (try clear hi)
                   refine hK.out _ _ ⟨b1 ae 0, b1 ae 1, b1 ae 2, b1 ae 3, HS4_, HS5_, HS6_, HS7_, HS8_, HS9_, HS10_, HS11_, HS12_, HS13_, HS14_, HS15_⟩ (fun hHeld => ?_); clear hK K; refine norm_ (a' := ?_) ?_ ?_; rotate_left
                   ·show Act.put _ (some 149) _ = _; simp only [Act.put, q5]; rfl
                   refine pv_ 17 (some 132) bl67 HT_ ?_
                   refine pv_ 18 (some 150) bl68 HT_ ?_
                   refine pv_ 19 (some 151) bl69 HT_ ?_
                   refine pv_ 20 (some 15) bl70 HT_ ?_
                   refine pv_ 21 (some 16) bl71 HT_ ?_
                   refine done_ (done_of HT_.out (by kernel_rfl)) ?_
                   try go_wp2
                   go_ret; exact ⟨by first | rfl | (simp [errW_none, errW_some] <;> rfl) | (simp [*, errW_none, errW_some] <;> rfl), by repeat (first | (with_reducible first | exact HB.out | apply below_alloc | apply pw_below_drewN | apply below_drew1 | refine below_set ?_ bt.out | refine below_set ?_ bu.out) | exact HB.out)⟩
                 ·rw [if_neg ew] at H; exact absurd H (by simp)
                ·rw [if_neg ev] at H; exact absurd H (by simp)
              ·rw [if_neg eb] at H; have fa : decide (ac < (ab.length : Int)) = false := decide_eq_false eb; clear eb
               by_cases eh : 0 ≤ aa
               ·rw [if_pos eh] at H; have hH : decide (0 ≤ aa) = true := decide_eq_true eh; clear eh
                by_cases ei : aa < (ab.length : Int)
                ·rw [if_pos ei] at H; have hI : decide (aa < (ab.length : Int)) = true := decide_eq_true ei; clear ei; replace H := Option.bind_eq_some_iff.mp H; obtain ⟨⟨bQ, eS⟩, ez, H⟩ := H; replace H : (if eS = true then (if (ab.length : Int) ≤ 50 then (if (bQ != aA) = true then (some false) else (laws_FnMake.l0 k4 ab (wrap64 (aa + 1)) an ak am ai)) else (laws_FnMake.l0 k4 ab (wrap64 (aa + 1)) an ak am ai)) else (some false)) = some r := H; have ej := Aside0.mk ez; clear ez
                 by_cases ek : eS = true
                 ·subst ek
                  have H1 : (if (ab.length : Int) ≤ 50 then (if (bQ != aA) = true then (some false) else (laws_FnMake.l0 k4 ab (wrap64 (aa + 1)) an ak am ai)) else (laws_FnMake.l0 k4 ab (wrap64 (aa + 1)) an ak am ai)) = some r := by rw [if_pos rfl] at H; exact H
                  clear H; have H := H1; clear H1
                  by_cases dJ : (ab.length : Int) ≤ 50
                  ·rw [if_pos dJ] at H; have eT : decide ((ab.length : Int) ≤ 50) = true := decide_eq_true dJ; have eU : decide (ab.length ≤ 50) = true := decide_eq_true (by omega); clear dJ
                   by_cases bU : (bQ != aA) = true
                   ·rw [if_pos bU] at H; have eV : (bQ != aA) = true := bU
                    (try (have eW : decide (bQ = aA) = false := by simpa using bU))
                    (try (have eX : (bQ == aA) = false := by simpa using bU))
                    (try (have hJ : ¬ (bQ = aA) := by simpa using bU))
                    clear bU; obtain rfl := Option.some.inj H
                    try go_wp2
                    replace aj := Aside0.mk (Kd.R_drew aj.out); replace af := Aside0.mk (Kd.R_drew af.out); replace ag := Aside0.mk (Kd.R_drew ag.out); replace ae := Aside0.mk (blk_drew ae.out); replace ah := Aside0.mk (blk_drew ah.out); replace HB := Aside0.mk (below_drew1 HB.out); have bA : 0 ≤ (aa : Int) := of_decide_eq_true (by first | (with_reducible assumption) | assumption); have q347 : aa < (ab.length : Int) := of_decide_eq_true (by first | (with_reducible assumption) | assumption); obtain ⟨ad347, e347, ba, bb, bc, bd⟩ := at_T33 (Kd.R_reads' aj.out).2.2 aa bA q347
                    cases e347
                    replace bA := eq_true bA; replace q347 := eq_true q347; have bB : 0 ≤ (aa : Int) := of_decide_eq_true (by first | (with_reducible assumption) | assumption); have q348 : aa < (ab.length : Int) := of_decide_eq_true (by first | (with_reducible assumption) | assumption); obtain ⟨ad348, e348, be, bf, bg, bh⟩ := at_T33 (Kd.R_reads' aj.out).2.2 aa bB q348; obtain rfl : ad347 = ad348 := (by injection e348); replace bB := eq_true bB; replace q348 := eq_true q348; have bC : 0 ≤ (aa : Int) := of_decide_eq_true (by first | (with_reducible assumption) | assumption); have q349 : aa < (ab.length : Int) := of_decide_eq_true (by first | (with_reducible assumption) | assumption); obtain ⟨ad349, e349, bi, bj, bk, bl⟩ := at_T33 (Kd.R_reads' aj.out).2.2 aa bC q349; obtain rfl : ad347 = ad349 := (by injection e349); replace bC := eq_true bC; replace q349 := eq_true q349; refine start_ (n := 22) (S := fun w' => w'.cell? ⟨aq, 0, none⟩ = some (.int .i64 an) ∧ w'.cell? ⟨aq, 1, none⟩ = some (.int .i64 ak) ∧ w'.cell? ⟨aq, 2, none⟩ = some (.int .i64 am) ∧ w'.cell? ⟨aq, 3, none⟩ = some (.slice au ai.length ar) ∧ w'.cell? (ad347.add ((aa).toNat * 4)) = some (.int .i64 ((rd_T33 ab aa).f0)) ∧ w'.cell? ⟨(ad347.add ((aa).toNat * 4)).block, (ad347.add ((aa).toNat * 4)).off + 1, none⟩ = some (.int .i64 ((rd_T33 ab aa).f1)) ∧ w'.cell? ⟨(ad347.add ((aa).toNat * 4)).block, (ad347.add ((aa).toNat * 4)).off + 2, none⟩ = some (.int .i64 ((rd_T33 ab aa).f2)) ∧ w'.cell? ⟨(ad347.add ((aa).toNat * 4)).block, (ad347.add ((aa).toNat * 4)).off + 3, none⟩ = some (.bool ((rd_T33 ab aa).f3)) ∧ w'.cell? (ad347.add ((aa).toNat * 4)) = some (.int .i64 ((rd_T33 ab aa).f0)) ∧ w'.cell? ⟨(ad347.add ((aa).toNat * 4)).block, (ad347.add ((aa).toNat * 4)).off + 1, none⟩ = some (.int .i64 ((rd_T33 ab aa).f1)) ∧ w'.cell? ⟨(ad347.add ((aa).toNat * 4)).block, (ad347.add ((aa).toNat * 4)).off + 2, none⟩ = some (.int .i64 ((rd_T33 ab aa).f2)) ∧ w'.cell? ⟨(ad347.add ((aa).toNat * 4)).block, (ad347.add ((aa).toNat * 4)).off + 3, none⟩ = some (.bool ((rd_T33 ab aa).f3)) ∧ w'.cell? (ad347.add ((aa).toNat * 4)) = some (.int .i64 ((rd_T33 ab aa).f0)) ∧ w'.cell? ⟨(ad347.add ((aa).toNat * 4)).block, (ad347.add ((aa).toNat * 4)).off + 1, none⟩ = some (.int .i64 ((rd_T33 ab aa).f1)) ∧ w'.cell? ⟨(ad347.add ((aa).toNat * 4)).block, (ad347.add ((aa).toNat * 4)).off + 2, none⟩ = some (.int .i64 ((rd_T33 ab aa).f2)) ∧ w'.cell? ⟨(ad347.add ((aa).toNat * 4)).block, (ad347.add ((aa).toNat * 4)).off + 3, none⟩ = some (.bool ((rd_T33 ab aa).f3))) (ds := []) bl49 (by kernel_rfl) rfl rfl ⟨b1 ae 0, b1 ae 1, b1 ae 2, b1 ae 3, ba, bb, bc, bd, be, bf, bg, bh, bi, bj, bk, bl⟩ (fun hHeld => ?_)
                    refine with_tabW laws_FnMake.tab21 laws_FnMake.bits21 (fun HT_ HW_ => ?_); generalize wr.drew = iM at aj af ag ae ah HB ba bb bc bd be bf bg bh bi bj bk bl hHeld ⊢
                    refine pv_ 1 (some 134) bl50 HT_ ?_
                    refine pv_ 2 (some 135) bl51 HT_ ?_
                    refine pv_ 3 (some 136) bl52 HT_ ?_
                    refine pv_ 4 (some 137) bl53 HT_ ?_
                    refine pv_ 6 (some 139) bl54 HT_ ?_
                    refine pv_ 7 (some 140) bl55 HT_ ?_
                    refine pv_ 8 (some 141) bl56 HT_ ?_
                    refine pv_ 9 (some 142) bl57 HT_ ?_
                    refine pv_ 11 (some 144) bl58 HT_ ?_
                    refine pv_ 12 (some 145) bl59 HT_ ?_
                    refine pv_ 13 (some 146) bl60 HT_ ?_
                    refine pv_ 14 (some 147) bl61 HT_ ?_
                    refine tk_ 0 (some 133) bl62 HT_ HW_ hHeld ?_
                    refine tk_ 5 (some 138) bl63 HT_ HW_ hHeld ?_
                    refine tk_ 10 (some 143) bl64 HT_ HW_ hHeld ?_
                    refine tk_ 15 (some 148) bl65 HT_ HW_ hHeld ?_
                    refine on_ 16 (some 149) bl66 HT_ (fun K hK => ?_); refine gs_ Try.func10 #[.agg #[.int .i64 an, .int .i64 ak, .int .i64 am, .slice au ai.length ar], .int .i64 ((rd_T33 ab aa).f0), .int .i64 ((rd_T33 ab aa).f1), .int .i64 ((rd_T33 ab aa).f2)] ?_
                    with_reducible refine (impl_AutoEdge.calls k4 an ak am _ _ ai ((rd_T33 ab aa).f0) ((rd_T33 ab aa).f1) ((rd_T33 ab aa).f2) bQ true _ ?side1 ?side2 ej.out).mono ?_
                    (case side1 => exact zC (Kd.R_reads' af.out).2.2)
                    (case side2 => exact (Kd.R_reads' af.out).2.1)
                    rintro e iN ⟨rfl, hb⟩; have HS4_ := (hb.cell (World.block_lt_of_cell? _ _ (hHeld.2.2.2.2.1))).trans (hHeld.2.2.2.2.1); have HS5_ := (hb.cell (World.block_lt_of_cell? _ _ (hHeld.2.2.2.2.2.1))).trans (hHeld.2.2.2.2.2.1); have HS6_ := (hb.cell (World.block_lt_of_cell? _ _ (hHeld.2.2.2.2.2.2.1))).trans (hHeld.2.2.2.2.2.2.1); have HS7_ := (hb.cell (World.block_lt_of_cell? _ _ (hHeld.2.2.2.2.2.2.2.1))).trans (hHeld.2.2.2.2.2.2.2.1); have HS8_ := (hb.cell (World.block_lt_of_cell? _ _ (hHeld.2.2.2.2.2.2.2.2.1))).trans (hHeld.2.2.2.2.2.2.2.2.1); have HS9_ := (hb.cell (World.block_lt_of_cell? _ _ (hHeld.2.2.2.2.2.2.2.2.2.1))).trans (hHeld.2.2.2.2.2.2.2.2.2.1); have HS10_ := (hb.cell (World.block_lt_of_cell? _ _ (hHeld.2.2.2.2.2.2.2.2.2.2.1))).trans (hHeld.2.2.2.2.2.2.2.2.2.2.1); have HS11_ := (hb.cell (World.block_lt_of_cell? _ _ (hHeld.2.2.2.2.2.2.2.2.2.2.2.1))).trans (hHeld.2.2.2.2.2.2.2.2.2.2.2.1); have HS12_ := (hb.cell (World.block_lt_of_cell? _ _ (hHeld.2.2.2.2.2.2.2.2.2.2.2.2.1))).trans (hHeld.2.2.2.2.2.2.2.2.2.2.2.2.1); have HS13_ := (hb.cell (World.block_lt_of_cell? _ _ (hHeld.2.2.2.2.2.2.2.2.2.2.2.2.2.1))).trans (hHeld.2.2.2.2.2.2.2.2.2.2.2.2.2.1); have HS14_ := (hb.cell (World.block_lt_of_cell? _ _ (hHeld.2.2.2.2.2.2.2.2.2.2.2.2.2.2.1))).trans (hHeld.2.2.2.2.2.2.2.2.2.2.2.2.2.2.1); have HS15_ := (hb.cell (World.block_lt_of_cell? _ _ (hHeld.2.2.2.2.2.2.2.2.2.2.2.2.2.2.2))).trans (hHeld.2.2.2.2.2.2.2.2.2.2.2.2.2.2.2); refine ⟨_, rfl, ?_⟩; replace aj := xR aj hb; replace af := xR af hb; replace ag := xR ag hb; replace ae := xB ae hb; replace ah := xB ah hb; replace HB := xS HB hb
                    (try clear hb)
                    (try clear hb2)
                    (try clear hk)
                    (try clear hi)
                    refine hK.out _ _ ⟨b1 ae 0, b1 ae 1, b1 ae 2, b1 ae 3, HS4_, HS5_, HS6_, HS7_, HS8_, HS9_, HS10_, HS11_, HS12_, HS13_, HS14_, HS15_⟩ (fun hHeld => ?_); clear hK K; refine norm_ (a' := ?_) ?_ ?_; rotate_left
                    ·show Act.put _ (some 149) _ = _; simp only [Act.put, q5]; rfl
                    refine pv_ 17 (some 132) bl67 HT_ ?_
                    refine pv_ 18 (some 150) bl68 HT_ ?_
                    refine pv_ 19 (some 151) bl69 HT_ ?_
                    refine pv_ 20 (some 15) bl70 HT_ ?_
                    refine pv_ 21 (some 16) bl71 HT_ ?_
                    refine done_ (done_of HT_.out (by kernel_rfl)) ?_
                    try go_wp2
                    go_ret; exact ⟨by first | rfl | (simp [errW_none, errW_some] <;> rfl) | (simp [*, errW_none, errW_some] <;> rfl), by repeat (first | (with_reducible first | exact HB.out | apply below_alloc | apply pw_below_drewN | apply below_drew1 | refine below_set ?_ bt.out | refine below_set ?_ bu.out) | exact HB.out)⟩
                   ·rw [if_neg bU] at H
                    have eV : (bQ != aA) = false := by simpa using bU
                    (try (have eW : decide (bQ = aA) = true := by simpa using bU))
                    (try (have eX : (bQ == aA) = true := by simpa using bU))
                    clear bU; have H' := Aside0.mk H; clear H
                    try go_wp2
                    replace aj := Aside0.mk (Kd.R_drew aj.out); replace af := Aside0.mk (Kd.R_drew af.out); replace ag := Aside0.mk (Kd.R_drew ag.out); replace ae := Aside0.mk (blk_drew ae.out); replace ah := Aside0.mk (blk_drew ah.out); replace HB := Aside0.mk (below_drew1 HB.out); have bA : 0 ≤ (aa : Int) := of_decide_eq_true (by first | (with_reducible assumption) | assumption); have q347 : aa < (ab.length : Int) := of_decide_eq_true (by first | (with_reducible assumption) | assumption); obtain ⟨ad347, e347, ba, bb, bc, bd⟩ := at_T33 (Kd.R_reads' aj.out).2.2 aa bA q347
                    cases e347
                    replace bA := eq_true bA; replace q347 := eq_true q347; have bB : 0 ≤ (aa : Int) := of_decide_eq_true (by first | (with_reducible assumption) | assumption); have q348 : aa < (ab.length : Int) := of_decide_eq_true (by first | (with_reducible assumption) | assumption); obtain ⟨ad348, e348, be, bf, bg, bh⟩ := at_T33 (Kd.R_reads' aj.out).2.2 aa bB q348; obtain rfl : ad347 = ad348 := (by injection e348); replace bB := eq_true bB; replace q348 := eq_true q348; have bC : 0 ≤ (aa : Int) := of_decide_eq_true (by first | (with_reducible assumption) | assumption); have q349 : aa < (ab.length : Int) := of_decide_eq_true (by first | (with_reducible assumption) | assumption); obtain ⟨ad349, e349, bi, bj, bk, bl⟩ := at_T33 (Kd.R_reads' aj.out).2.2 aa bC q349; obtain rfl : ad347 = ad349 := (by injection e349); replace bC := eq_true bC; replace q349 := eq_true q349; refine start_ (n := 22) (S := fun w' => w'.cell? ⟨aq, 0, none⟩ = some (.int .i64 an) ∧ w'.cell? ⟨aq, 1, none⟩ = some (.int .i64 ak) ∧ w'.cell? ⟨aq, 2, none⟩ = some (.int .i64 am) ∧ w'.cell? ⟨aq, 3, none⟩ = some (.slice au ai.length ar) ∧ w'.cell? (ad347.add ((aa).toNat * 4)) = some (.int .i64 ((rd_T33 ab aa).f0)) ∧ w'.cell? ⟨(ad347.add ((aa).toNat * 4)).block, (ad347.add ((aa).toNat * 4)).off + 1, none⟩ = some (.int .i64 ((rd_T33 ab aa).f1)) ∧ w'.cell? ⟨(ad347.add ((aa).toNat * 4)).block, (ad347.add ((aa).toNat * 4)).off + 2, none⟩ = some (.int .i64 ((rd_T33 ab aa).f2)) ∧ w'.cell? ⟨(ad347.add ((aa).toNat * 4)).block, (ad347.add ((aa).toNat * 4)).off + 3, none⟩ = some (.bool ((rd_T33 ab aa).f3)) ∧ w'.cell? (ad347.add ((aa).toNat * 4)) = some (.int .i64 ((rd_T33 ab aa).f0)) ∧ w'.cell? ⟨(ad347.add ((aa).toNat * 4)).block, (ad347.add ((aa).toNat * 4)).off + 1, none⟩ = some (.int .i64 ((rd_T33 ab aa).f1)) ∧ w'.cell? ⟨(ad347.add ((aa).toNat * 4)).block, (ad347.add ((aa).toNat * 4)).off + 2, none⟩ = some (.int .i64 ((rd_T33 ab aa).f2)) ∧ w'.cell? ⟨(ad347.add ((aa).toNat * 4)).block, (ad347.add ((aa).toNat * 4)).off + 3, none⟩ = some (.bool ((rd_T33 ab aa).f3)) ∧ w'.cell? (ad347.add ((aa).toNat * 4)) = some (.int .i64 ((rd_T33 ab aa).f0)) ∧ w'.cell? ⟨(ad347.add ((aa).toNat * 4)).block, (ad347.add ((aa).toNat * 4)).off + 1, none⟩ = some (.int .i64 ((rd_T33 ab aa).f1)) ∧ w'.cell? ⟨(ad347.add ((aa).toNat * 4)).block, (ad347.add ((aa).toNat * 4)).off + 2, none⟩ = some (.int .i64 ((rd_T33 ab aa).f2)) ∧ w'.cell? ⟨(ad347.add ((aa).toNat * 4)).block, (ad347.add ((aa).toNat * 4)).off + 3, none⟩ = some (.bool ((rd_T33 ab aa).f3))) (ds := []) bl49 (by kernel_rfl) rfl rfl ⟨b1 ae 0, b1 ae 1, b1 ae 2, b1 ae 3, ba, bb, bc, bd, be, bf, bg, bh, bi, bj, bk, bl⟩ (fun hHeld => ?_)
                    refine with_tabW laws_FnMake.tab21 laws_FnMake.bits21 (fun HT_ HW_ => ?_); generalize wr.drew = iO at aj af ag ae ah HB ba bb bc bd be bf bg bh bi bj bk bl hHeld ⊢
                    refine pv_ 1 (some 134) bl50 HT_ ?_
                    refine pv_ 2 (some 135) bl51 HT_ ?_
                    refine pv_ 3 (some 136) bl52 HT_ ?_
                    refine pv_ 4 (some 137) bl53 HT_ ?_
                    refine pv_ 6 (some 139) bl54 HT_ ?_
                    refine pv_ 7 (some 140) bl55 HT_ ?_
                    refine pv_ 8 (some 141) bl56 HT_ ?_
                    refine pv_ 9 (some 142) bl57 HT_ ?_
                    refine pv_ 11 (some 144) bl58 HT_ ?_
                    refine pv_ 12 (some 145) bl59 HT_ ?_
                    refine pv_ 13 (some 146) bl60 HT_ ?_
                    refine pv_ 14 (some 147) bl61 HT_ ?_
                    refine tk_ 0 (some 133) bl62 HT_ HW_ hHeld ?_
                    refine tk_ 5 (some 138) bl63 HT_ HW_ hHeld ?_
                    refine tk_ 10 (some 143) bl64 HT_ HW_ hHeld ?_
                    refine tk_ 15 (some 148) bl65 HT_ HW_ hHeld ?_
                    refine on_ 16 (some 149) bl66 HT_ (fun K hK => ?_); refine gs_ Try.func10 #[.agg #[.int .i64 an, .int .i64 ak, .int .i64 am, .slice au ai.length ar], .int .i64 ((rd_T33 ab aa).f0), .int .i64 ((rd_T33 ab aa).f1), .int .i64 ((rd_T33 ab aa).f2)] ?_
                    with_reducible refine (impl_AutoEdge.calls k4 an ak am _ _ ai ((rd_T33 ab aa).f0) ((rd_T33 ab aa).f1) ((rd_T33 ab aa).f2) bQ true _ ?side1 ?side2 ej.out).mono ?_
                    (case side1 => exact zC (Kd.R_reads' af.out).2.2)
                    (case side2 => exact (Kd.R_reads' af.out).2.1)
                    rintro e iP ⟨rfl, hb⟩; have HS4_ := (hb.cell (World.block_lt_of_cell? _ _ (hHeld.2.2.2.2.1))).trans (hHeld.2.2.2.2.1); have HS5_ := (hb.cell (World.block_lt_of_cell? _ _ (hHeld.2.2.2.2.2.1))).trans (hHeld.2.2.2.2.2.1); have HS6_ := (hb.cell (World.block_lt_of_cell? _ _ (hHeld.2.2.2.2.2.2.1))).trans (hHeld.2.2.2.2.2.2.1); have HS7_ := (hb.cell (World.block_lt_of_cell? _ _ (hHeld.2.2.2.2.2.2.2.1))).trans (hHeld.2.2.2.2.2.2.2.1); have HS8_ := (hb.cell (World.block_lt_of_cell? _ _ (hHeld.2.2.2.2.2.2.2.2.1))).trans (hHeld.2.2.2.2.2.2.2.2.1); have HS9_ := (hb.cell (World.block_lt_of_cell? _ _ (hHeld.2.2.2.2.2.2.2.2.2.1))).trans (hHeld.2.2.2.2.2.2.2.2.2.1); have HS10_ := (hb.cell (World.block_lt_of_cell? _ _ (hHeld.2.2.2.2.2.2.2.2.2.2.1))).trans (hHeld.2.2.2.2.2.2.2.2.2.2.1); have HS11_ := (hb.cell (World.block_lt_of_cell? _ _ (hHeld.2.2.2.2.2.2.2.2.2.2.2.1))).trans (hHeld.2.2.2.2.2.2.2.2.2.2.2.1); have HS12_ := (hb.cell (World.block_lt_of_cell? _ _ (hHeld.2.2.2.2.2.2.2.2.2.2.2.2.1))).trans (hHeld.2.2.2.2.2.2.2.2.2.2.2.2.1); have HS13_ := (hb.cell (World.block_lt_of_cell? _ _ (hHeld.2.2.2.2.2.2.2.2.2.2.2.2.2.1))).trans (hHeld.2.2.2.2.2.2.2.2.2.2.2.2.2.1); have HS14_ := (hb.cell (World.block_lt_of_cell? _ _ (hHeld.2.2.2.2.2.2.2.2.2.2.2.2.2.2.1))).trans (hHeld.2.2.2.2.2.2.2.2.2.2.2.2.2.2.1); have HS15_ := (hb.cell (World.block_lt_of_cell? _ _ (hHeld.2.2.2.2.2.2.2.2.2.2.2.2.2.2.2))).trans (hHeld.2.2.2.2.2.2.2.2.2.2.2.2.2.2.2); refine ⟨_, rfl, ?_⟩; replace aj := xR aj hb; replace af := xR af hb; replace ag := xR ag hb; replace ae := xB ae hb; replace ah := xB ah hb; replace HB := xS HB hb
                    (try clear hb)
                    (try clear hb2)
                    (try clear hk)
                    (try clear hi)
                    refine hK.out _ _ ⟨b1 ae 0, b1 ae 1, b1 ae 2, b1 ae 3, HS4_, HS5_, HS6_, HS7_, HS8_, HS9_, HS10_, HS11_, HS12_, HS13_, HS14_, HS15_⟩ (fun hHeld => ?_); clear hK K; refine norm_ (a' := ?_) ?_ ?_; rotate_left
                    ·show Act.put _ (some 149) _ = _; simp only [Act.put, q5]; rfl
                    refine pv_ 17 (some 132) bl67 HT_ ?_
                    refine pv_ 18 (some 150) bl68 HT_ ?_
                    refine pv_ 19 (some 151) bl69 HT_ ?_
                    refine pv_ 20 (some 15) bl70 HT_ ?_
                    refine pv_ 21 (some 16) bl71 HT_ ?_
                    refine done_ (done_of HT_.out (by kernel_rfl)) ?_
                    try go_wp2
                    go_roundg k4
                    case measure => have := HJ19.out; have := HK2.out; have := HJ46.out; have := HK4.out; omega
                    case rel => exact ⟨(wrap64 (aa + 1)), (by first | rfl | (simp; done) | (simp [*]; done) | (rw [Int.tmod_eq_emod_of_nonneg (Int.natCast_nonneg _)]; done)), H', ⟨by have := HJ19.out; have := HK2.out; have := HJ46.out; have := HK4.out; omega⟩, ⟨zR aj.out⟩, ⟨zR af.out⟩, ⟨zR ag.out⟩, ⟨zB ae.out⟩, ⟨zB ah.out⟩, ⟨zS HB.out⟩⟩
                  ·rw [if_neg dJ] at H; have eT : decide ((ab.length : Int) ≤ 50) = false := decide_eq_false dJ; have eU : decide (ab.length ≤ 50) = false := decide_eq_false (by omega); clear dJ; have H' := Aside0.mk H; clear H
                   try go_wp2
                   replace aj := Aside0.mk (Kd.R_drew aj.out); replace af := Aside0.mk (Kd.R_drew af.out); replace ag := Aside0.mk (Kd.R_drew ag.out); replace ae := Aside0.mk (blk_drew ae.out); replace ah := Aside0.mk (blk_drew ah.out); replace HB := Aside0.mk (below_drew1 HB.out); have bA : 0 ≤ (aa : Int) := of_decide_eq_true (by first | (with_reducible assumption) | assumption); have q347 : aa < (ab.length : Int) := of_decide_eq_true (by first | (with_reducible assumption) | assumption); obtain ⟨ad347, e347, ba, bb, bc, bd⟩ := at_T33 (Kd.R_reads' aj.out).2.2 aa bA q347
                   cases e347
                   replace bA := eq_true bA; replace q347 := eq_true q347; have bB : 0 ≤ (aa : Int) := of_decide_eq_true (by first | (with_reducible assumption) | assumption); have q348 : aa < (ab.length : Int) := of_decide_eq_true (by first | (with_reducible assumption) | assumption); obtain ⟨ad348, e348, be, bf, bg, bh⟩ := at_T33 (Kd.R_reads' aj.out).2.2 aa bB q348; obtain rfl : ad347 = ad348 := (by injection e348); replace bB := eq_true bB; replace q348 := eq_true q348; have bC : 0 ≤ (aa : Int) := of_decide_eq_true (by first | (with_reducible assumption) | assumption); have q349 : aa < (ab.length : Int) := of_decide_eq_true (by first | (with_reducible assumption) | assumption); obtain ⟨ad349, e349, bi, bj, bk, bl⟩ := at_T33 (Kd.R_reads' aj.out).2.2 aa bC q349; obtain rfl : ad347 = ad349 := (by injection e349); replace bC := eq_true bC; replace q349 := eq_true q349; refine start_ (n := 22) (S := fun w' => w'.cell? ⟨aq, 0, none⟩ = some (.int .i64 an) ∧ w'.cell? ⟨aq, 1, none⟩ = some (.int .i64 ak) ∧ w'.cell? ⟨aq, 2, none⟩ = some (.int .i64 am) ∧ w'.cell? ⟨aq, 3, none⟩ = some (.slice au ai.length ar) ∧ w'.cell? (ad347.add ((aa).toNat * 4)) = some (.int .i64 ((rd_T33 ab aa).f0)) ∧ w'.cell? ⟨(ad347.add ((aa).toNat * 4)).block, (ad347.add ((aa).toNat * 4)).off + 1, none⟩ = some (.int .i64 ((rd_T33 ab aa).f1)) ∧ w'.cell? ⟨(ad347.add ((aa).toNat * 4)).block, (ad347.add ((aa).toNat * 4)).off + 2, none⟩ = some (.int .i64 ((rd_T33 ab aa).f2)) ∧ w'.cell? ⟨(ad347.add ((aa).toNat * 4)).block, (ad347.add ((aa).toNat * 4)).off + 3, none⟩ = some (.bool ((rd_T33 ab aa).f3)) ∧ w'.cell? (ad347.add ((aa).toNat * 4)) = some (.int .i64 ((rd_T33 ab aa).f0)) ∧ w'.cell? ⟨(ad347.add ((aa).toNat * 4)).block, (ad347.add ((aa).toNat * 4)).off + 1, none⟩ = some (.int .i64 ((rd_T33 ab aa).f1)) ∧ w'.cell? ⟨(ad347.add ((aa).toNat * 4)).block, (ad347.add ((aa).toNat * 4)).off + 2, none⟩ = some (.int .i64 ((rd_T33 ab aa).f2)) ∧ w'.cell? ⟨(ad347.add ((aa).toNat * 4)).block, (ad347.add ((aa).toNat * 4)).off + 3, none⟩ = some (.bool ((rd_T33 ab aa).f3)) ∧ w'.cell? (ad347.add ((aa).toNat * 4)) = some (.int .i64 ((rd_T33 ab aa).f0)) ∧ w'.cell? ⟨(ad347.add ((aa).toNat * 4)).block, (ad347.add ((aa).toNat * 4)).off + 1, none⟩ = some (.int .i64 ((rd_T33 ab aa).f1)) ∧ w'.cell? ⟨(ad347.add ((aa).toNat * 4)).block, (ad347.add ((aa).toNat * 4)).off + 2, none⟩ = some (.int .i64 ((rd_T33 ab aa).f2)) ∧ w'.cell? ⟨(ad347.add ((aa).toNat * 4)).block, (ad347.add ((aa).toNat * 4)).off + 3, none⟩ = some (.bool ((rd_T33 ab aa).f3))) (ds := []) bl49 (by kernel_rfl) rfl rfl ⟨b1 ae 0, b1 ae 1, b1 ae 2, b1 ae 3, ba, bb, bc, bd, be, bf, bg, bh, bi, bj, bk, bl⟩ (fun hHeld => ?_)
                   refine with_tabW laws_FnMake.tab21 laws_FnMake.bits21 (fun HT_ HW_ => ?_); generalize wr.drew = iQ at aj af ag ae ah HB ba bb bc bd be bf bg bh bi bj bk bl hHeld ⊢
                   refine pv_ 1 (some 134) bl50 HT_ ?_
                   refine pv_ 2 (some 135) bl51 HT_ ?_
                   refine pv_ 3 (some 136) bl52 HT_ ?_
                   refine pv_ 4 (some 137) bl53 HT_ ?_
                   refine pv_ 6 (some 139) bl54 HT_ ?_
                   refine pv_ 7 (some 140) bl55 HT_ ?_
                   refine pv_ 8 (some 141) bl56 HT_ ?_
                   refine pv_ 9 (some 142) bl57 HT_ ?_
                   refine pv_ 11 (some 144) bl58 HT_ ?_
                   refine pv_ 12 (some 145) bl59 HT_ ?_
                   refine pv_ 13 (some 146) bl60 HT_ ?_
                   refine pv_ 14 (some 147) bl61 HT_ ?_
                   refine tk_ 0 (some 133) bl62 HT_ HW_ hHeld ?_
                   refine tk_ 5 (some 138) bl63 HT_ HW_ hHeld ?_
                   refine tk_ 10 (some 143) bl64 HT_ HW_ hHeld ?_
                   refine tk_ 15 (some 148) bl65 HT_ HW_ hHeld ?_
                   refine on_ 16 (some 149) bl66 HT_ (fun K hK => ?_); refine gs_ Try.func10 #[.agg #[.int .i64 an, .int .i64 ak, .int .i64 am, .slice au ai.length ar], .int .i64 ((rd_T33 ab aa).f0), .int .i64 ((rd_T33 ab aa).f1), .int .i64 ((rd_T33 ab aa).f2)] ?_
                   with_reducible refine (impl_AutoEdge.calls k4 an ak am _ _ ai ((rd_T33 ab aa).f0) ((rd_T33 ab aa).f1) ((rd_T33 ab aa).f2) bQ true _ ?side1 ?side2 ej.out).mono ?_
                   (case side1 => exact zC (Kd.R_reads' af.out).2.2)
                   (case side2 => exact (Kd.R_reads' af.out).2.1)
                   rintro e iR ⟨rfl, hb⟩; have HS4_ := (hb.cell (World.block_lt_of_cell? _ _ (hHeld.2.2.2.2.1))).trans (hHeld.2.2.2.2.1); have HS5_ := (hb.cell (World.block_lt_of_cell? _ _ (hHeld.2.2.2.2.2.1))).trans (hHeld.2.2.2.2.2.1); have HS6_ := (hb.cell (World.block_lt_of_cell? _ _ (hHeld.2.2.2.2.2.2.1))).trans (hHeld.2.2.2.2.2.2.1); have HS7_ := (hb.cell (World.block_lt_of_cell? _ _ (hHeld.2.2.2.2.2.2.2.1))).trans (hHeld.2.2.2.2.2.2.2.1); have HS8_ := (hb.cell (World.block_lt_of_cell? _ _ (hHeld.2.2.2.2.2.2.2.2.1))).trans (hHeld.2.2.2.2.2.2.2.2.1); have HS9_ := (hb.cell (World.block_lt_of_cell? _ _ (hHeld.2.2.2.2.2.2.2.2.2.1))).trans (hHeld.2.2.2.2.2.2.2.2.2.1); have HS10_ := (hb.cell (World.block_lt_of_cell? _ _ (hHeld.2.2.2.2.2.2.2.2.2.2.1))).trans (hHeld.2.2.2.2.2.2.2.2.2.2.1); have HS11_ := (hb.cell (World.block_lt_of_cell? _ _ (hHeld.2.2.2.2.2.2.2.2.2.2.2.1))).trans (hHeld.2.2.2.2.2.2.2.2.2.2.2.1); have HS12_ := (hb.cell (World.block_lt_of_cell? _ _ (hHeld.2.2.2.2.2.2.2.2.2.2.2.2.1))).trans (hHeld.2.2.2.2.2.2.2.2.2.2.2.2.1); have HS13_ := (hb.cell (World.block_lt_of_cell? _ _ (hHeld.2.2.2.2.2.2.2.2.2.2.2.2.2.1))).trans (hHeld.2.2.2.2.2.2.2.2.2.2.2.2.2.1); have HS14_ := (hb.cell (World.block_lt_of_cell? _ _ (hHeld.2.2.2.2.2.2.2.2.2.2.2.2.2.2.1))).trans (hHeld.2.2.2.2.2.2.2.2.2.2.2.2.2.2.1); have HS15_ := (hb.cell (World.block_lt_of_cell? _ _ (hHeld.2.2.2.2.2.2.2.2.2.2.2.2.2.2.2))).trans (hHeld.2.2.2.2.2.2.2.2.2.2.2.2.2.2.2); refine ⟨_, rfl, ?_⟩; replace aj := xR aj hb; replace af := xR af hb; replace ag := xR ag hb; replace ae := xB ae hb; replace ah := xB ah hb; replace HB := xS HB hb
                   (try clear hb)
                   (try clear hb2)
                   (try clear hk)
                   (try clear hi)
                   refine hK.out _ _ ⟨b1 ae 0, b1 ae 1, b1 ae 2, b1 ae 3, HS4_, HS5_, HS6_, HS7_, HS8_, HS9_, HS10_, HS11_, HS12_, HS13_, HS14_, HS15_⟩ (fun hHeld => ?_); clear hK K; refine norm_ (a' := ?_) ?_ ?_; rotate_left
                   ·show Act.put _ (some 149) _ = _; simp only [Act.put, q5]; rfl
                   refine pv_ 17 (some 132) bl67 HT_ ?_
                   refine pv_ 18 (some 150) bl68 HT_ ?_
                   refine pv_ 19 (some 151) bl69 HT_ ?_
                   refine pv_ 20 (some 15) bl70 HT_ ?_
                   refine pv_ 21 (some 16) bl71 HT_ ?_
                   refine done_ (done_of HT_.out (by kernel_rfl)) ?_
                   try go_wp2
                   go_roundg k4
                   case measure => have := HJ19.out; have := HK2.out; have := HJ46.out; have := HK4.out; omega
                   case rel => exact ⟨(wrap64 (aa + 1)), (by first | rfl | (simp; done) | (simp [*]; done) | (rw [Int.tmod_eq_emod_of_nonneg (Int.natCast_nonneg _)]; done)), H', ⟨by have := HJ19.out; have := HK2.out; have := HJ46.out; have := HK4.out; omega⟩, ⟨zR aj.out⟩, ⟨zR af.out⟩, ⟨zR ag.out⟩, ⟨zB ae.out⟩, ⟨zB ah.out⟩, ⟨zS HB.out⟩⟩
                 ·replace ek := Bool.eq_false_iff.mpr ek; subst ek
                  have H1 : (some false) = some r := by rw [if_neg (show ¬ (false = true) by decide)] at H; exact H
                  clear H; have H := H1; clear H1; obtain rfl := Option.some.inj H
                  try go_wp2
                  replace aj := Aside0.mk (Kd.R_drew aj.out); replace af := Aside0.mk (Kd.R_drew af.out); replace ag := Aside0.mk (Kd.R_drew ag.out); replace ae := Aside0.mk (blk_drew ae.out); replace ah := Aside0.mk (blk_drew ah.out); replace HB := Aside0.mk (below_drew1 HB.out); have bA : 0 ≤ (aa : Int) := of_decide_eq_true (by first | (with_reducible assumption) | assumption); have q347 : aa < (ab.length : Int) := of_decide_eq_true (by first | (with_reducible assumption) | assumption); obtain ⟨ad347, e347, ba, bb, bc, bd⟩ := at_T33 (Kd.R_reads' aj.out).2.2 aa bA q347
                  cases e347
                  replace bA := eq_true bA; replace q347 := eq_true q347; have bB : 0 ≤ (aa : Int) := of_decide_eq_true (by first | (with_reducible assumption) | assumption); have q348 : aa < (ab.length : Int) := of_decide_eq_true (by first | (with_reducible assumption) | assumption); obtain ⟨ad348, e348, be, bf, bg, bh⟩ := at_T33 (Kd.R_reads' aj.out).2.2 aa bB q348; obtain rfl : ad347 = ad348 := (by injection e348); replace bB := eq_true bB; replace q348 := eq_true q348; have bC : 0 ≤ (aa : Int) := of_decide_eq_true (by first | (with_reducible assumption) | assumption); have q349 : aa < (ab.length : Int) := of_decide_eq_true (by first | (with_reducible assumption) | assumption); obtain ⟨ad349, e349, bi, bj, bk, bl⟩ := at_T33 (Kd.R_reads' aj.out).2.2 aa bC q349; obtain rfl : ad347 = ad349 := (by injection e349); replace bC := eq_true bC; replace q349 := eq_true q349; refine start_ (n := 22) (S := fun w' => w'.cell? ⟨aq, 0, none⟩ = some (.int .i64 an) ∧ w'.cell? ⟨aq, 1, none⟩ = some (.int .i64 ak) ∧ w'.cell? ⟨aq, 2, none⟩ = some (.int .i64 am) ∧ w'.cell? ⟨aq, 3, none⟩ = some (.slice au ai.length ar) ∧ w'.cell? (ad347.add ((aa).toNat * 4)) = some (.int .i64 ((rd_T33 ab aa).f0)) ∧ w'.cell? ⟨(ad347.add ((aa).toNat * 4)).block, (ad347.add ((aa).toNat * 4)).off + 1, none⟩ = some (.int .i64 ((rd_T33 ab aa).f1)) ∧ w'.cell? ⟨(ad347.add ((aa).toNat * 4)).block, (ad347.add ((aa).toNat * 4)).off + 2, none⟩ = some (.int .i64 ((rd_T33 ab aa).f2)) ∧ w'.cell? ⟨(ad347.add ((aa).toNat * 4)).block, (ad347.add ((aa).toNat * 4)).off + 3, none⟩ = some (.bool ((rd_T33 ab aa).f3)) ∧ w'.cell? (ad347.add ((aa).toNat * 4)) = some (.int .i64 ((rd_T33 ab aa).f0)) ∧ w'.cell? ⟨(ad347.add ((aa).toNat * 4)).block, (ad347.add ((aa).toNat * 4)).off + 1, none⟩ = some (.int .i64 ((rd_T33 ab aa).f1)) ∧ w'.cell? ⟨(ad347.add ((aa).toNat * 4)).block, (ad347.add ((aa).toNat * 4)).off + 2, none⟩ = some (.int .i64 ((rd_T33 ab aa).f2)) ∧ w'.cell? ⟨(ad347.add ((aa).toNat * 4)).block, (ad347.add ((aa).toNat * 4)).off + 3, none⟩ = some (.bool ((rd_T33 ab aa).f3)) ∧ w'.cell? (ad347.add ((aa).toNat * 4)) = some (.int .i64 ((rd_T33 ab aa).f0)) ∧ w'.cell? ⟨(ad347.add ((aa).toNat * 4)).block, (ad347.add ((aa).toNat * 4)).off + 1, none⟩ = some (.int .i64 ((rd_T33 ab aa).f1)) ∧ w'.cell? ⟨(ad347.add ((aa).toNat * 4)).block, (ad347.add ((aa).toNat * 4)).off + 2, none⟩ = some (.int .i64 ((rd_T33 ab aa).f2)) ∧ w'.cell? ⟨(ad347.add ((aa).toNat * 4)).block, (ad347.add ((aa).toNat * 4)).off + 3, none⟩ = some (.bool ((rd_T33 ab aa).f3))) (ds := []) bl49 (by kernel_rfl) rfl rfl ⟨b1 ae 0, b1 ae 1, b1 ae 2, b1 ae 3, ba, bb, bc, bd, be, bf, bg, bh, bi, bj, bk, bl⟩ (fun hHeld => ?_)
                  refine with_tabW laws_FnMake.tab21 laws_FnMake.bits21 (fun HT_ HW_ => ?_); generalize wr.drew = iS at aj af ag ae ah HB ba bb bc bd be bf bg bh bi bj bk bl hHeld ⊢
                  refine pv_ 1 (some 134) bl50 HT_ ?_
                  refine pv_ 2 (some 135) bl51 HT_ ?_
                  refine pv_ 3 (some 136) bl52 HT_ ?_
                  refine pv_ 4 (some 137) bl53 HT_ ?_
                  refine pv_ 6 (some 139) bl54 HT_ ?_
                  refine pv_ 7 (some 140) bl55 HT_ ?_
                  refine pv_ 8 (some 141) bl56 HT_ ?_
                  refine pv_ 9 (some 142) bl57 HT_ ?_
                  refine pv_ 11 (some 144) bl58 HT_ ?_
                  refine pv_ 12 (some 145) bl59 HT_ ?_
                  refine pv_ 13 (some 146) bl60 HT_ ?_
                  refine pv_ 14 (some 147) bl61 HT_ ?_
                  refine tk_ 0 (some 133) bl62 HT_ HW_ hHeld ?_
                  refine tk_ 5 (some 138) bl63 HT_ HW_ hHeld ?_
                  refine tk_ 10 (some 143) bl64 HT_ HW_ hHeld ?_
                  refine tk_ 15 (some 148) bl65 HT_ HW_ hHeld ?_
                  refine on_ 16 (some 149) bl66 HT_ (fun K hK => ?_); refine gs_ Try.func10 #[.agg #[.int .i64 an, .int .i64 ak, .int .i64 am, .slice au ai.length ar], .int .i64 ((rd_T33 ab aa).f0), .int .i64 ((rd_T33 ab aa).f1), .int .i64 ((rd_T33 ab aa).f2)] ?_
                  with_reducible refine (impl_AutoEdge.calls k4 an ak am _ _ ai ((rd_T33 ab aa).f0) ((rd_T33 ab aa).f1) ((rd_T33 ab aa).f2) bQ false _ ?side1 ?side2 ej.out).mono ?_
                  (case side1 => exact zC (Kd.R_reads' af.out).2.2)
                  (case side2 => exact (Kd.R_reads' af.out).2.1)
                  rintro e iT ⟨rfl, hb⟩; have HS4_ := (hb.cell (World.block_lt_of_cell? _ _ (hHeld.2.2.2.2.1))).trans (hHeld.2.2.2.2.1); have HS5_ := (hb.cell (World.block_lt_of_cell? _ _ (hHeld.2.2.2.2.2.1))).trans (hHeld.2.2.2.2.2.1); have HS6_ := (hb.cell (World.block_lt_of_cell? _ _ (hHeld.2.2.2.2.2.2.1))).trans (hHeld.2.2.2.2.2.2.1); have HS7_ := (hb.cell (World.block_lt_of_cell? _ _ (hHeld.2.2.2.2.2.2.2.1))).trans (hHeld.2.2.2.2.2.2.2.1); have HS8_ := (hb.cell (World.block_lt_of_cell? _ _ (hHeld.2.2.2.2.2.2.2.2.1))).trans (hHeld.2.2.2.2.2.2.2.2.1); have HS9_ := (hb.cell (World.block_lt_of_cell? _ _ (hHeld.2.2.2.2.2.2.2.2.2.1))).trans (hHeld.2.2.2.2.2.2.2.2.2.1); have HS10_ := (hb.cell (World.block_lt_of_cell? _ _ (hHeld.2.2.2.2.2.2.2.2.2.2.1))).trans (hHeld.2.2.2.2.2.2.2.2.2.2.1); have HS11_ := (hb.cell (World.block_lt_of_cell? _ _ (hHeld.2.2.2.2.2.2.2.2.2.2.2.1))).trans (hHeld.2.2.2.2.2.2.2.2.2.2.2.1); have HS12_ := (hb.cell (World.block_lt_of_cell? _ _ (hHeld.2.2.2.2.2.2.2.2.2.2.2.2.1))).trans (hHeld.2.2.2.2.2.2.2.2.2.2.2.2.1); have HS13_ := (hb.cell (World.block_lt_of_cell? _ _ (hHeld.2.2.2.2.2.2.2.2.2.2.2.2.2.1))).trans (hHeld.2.2.2.2.2.2.2.2.2.2.2.2.2.1); have HS14_ := (hb.cell (World.block_lt_of_cell? _ _ (hHeld.2.2.2.2.2.2.2.2.2.2.2.2.2.2.1))).trans (hHeld.2.2.2.2.2.2.2.2.2.2.2.2.2.2.1); have HS15_ := (hb.cell (World.block_lt_of_cell? _ _ (hHeld.2.2.2.2.2.2.2.2.2.2.2.2.2.2.2))).trans (hHeld.2.2.2.2.2.2.2.2.2.2.2.2.2.2.2); refine ⟨_, rfl, ?_⟩; replace aj := xR aj hb; replace af := xR af hb; replace ag := xR ag hb; replace ae := xB ae hb; replace ah := xB ah hb; replace HB := xS HB hb
                  (try clear hb)
                  (try clear hb2)
                  (try clear hk)
                  (try clear hi)
                  refine hK.out _ _ ⟨b1 ae 0, b1 ae 1, b1 ae 2, b1 ae 3, HS4_, HS5_, HS6_, HS7_, HS8_, HS9_, HS10_, HS11_, HS12_, HS13_, HS14_, HS15_⟩ (fun hHeld => ?_); clear hK K; refine norm_ (a' := ?_) ?_ ?_; rotate_left
                  ·show Act.put _ (some 149) _ = _; simp only [Act.put, q5]; rfl
                  refine pv_ 17 (some 132) bl67 HT_ ?_
                  refine pv_ 18 (some 150) bl68 HT_ ?_
                  refine pv_ 19 (some 151) bl69 HT_ ?_
                  refine pv_ 20 (some 15) bl70 HT_ ?_
                  refine pv_ 21 (some 16) bl71 HT_ ?_
                  refine done_ (done_of HT_.out (by kernel_rfl)) ?_
                  try go_wp2
                  go_ret; exact ⟨by first | rfl | (simp [errW_none, errW_some] <;> rfl) | (simp [*, errW_none, errW_some] <;> rfl), by repeat (first | (with_reducible first | exact HB.out | apply below_alloc | apply pw_below_drewN | apply below_drew1 | refine below_set ?_ bt.out | refine below_set ?_ bu.out) | exact HB.out)⟩
                ·rw [if_neg ei] at H; exact absurd H (by simp)
               ·rw [if_neg eh] at H; exact absurd H (by simp)
           ·replace en := Bool.eq_false_iff.mpr en; subst en
            have H1 : (some true) = some r := by rw [if_neg (show ¬ (false = true) by decide)] at H; exact H
            clear H; have H := H1; clear H1; obtain rfl := Option.some.inj H
            go_wp2
            go_ret; exact ⟨by first | rfl | (simp [errW_none, errW_some] <;> rfl) | (simp [*, errW_none, errW_some] <;> rfl), by repeat (first | (with_reducible first | exact HB.out | apply below_alloc | apply pw_below_drewN | apply below_drew1 | refine below_set ?_ bt.out | refine below_set ?_ bu.out) | exact HB.out)⟩
   ·replace dK := Bool.eq_false_iff.mpr dK; subst dK
    have H1 : (if ak = 0 then (some ((ai.length : Int) == 0)) else (some false)) = some r := by rw [if_neg (show ¬ (false = true) by decide)] at H; exact H
    clear H; have H := H1; clear H1
    by_cases dF : ak = 0
    ·rw [if_pos dF] at H; have eY : (ak == 0) = true := beq_iff_eq.mpr dF; have eZ : (ak != 0) = false := bne_eq_false_iff_eq.mpr dF; clear dF; obtain rfl := Option.some.inj H
     go_enter Try.func3, Try.ntmps3
     go_wp2_with (first | ((with_reducible refine gate_callee (f := 5) rfl ?_); refine gl_ (some 18) Try.func5 #[.slice A0 l0.length c0] ?_; (with_reducible refine (laws_big.calls _ _ l0 false _ ?side1 ?side2 A2.out).mono ?_); (case side1 => repeat (first | exact HR0.out | (with_reducible refine Kd.C_alloc ?_ _) | (with_reducible refine Kd.C_drewN ?_ _) | (with_reducible refine Kd.C_drew ?_))); (case side2 => exact HC0.out); rintro e w' ⟨rfl, ⟨nd, rfl⟩⟩; refine ⟨_, rfl, ?_⟩) | ((with_reducible refine gate_callee (f := 6) rfl ?_); refine gl_ (some 21) Try.func6 #[.slice A0 l0.length c0] ?_; (with_reducible refine (spec_DrawAutoMake.calls k _ _ l0 aE aF aB ab _ ?side1 ?side2 A4.out).mono ?_); (case side1 => repeat (first | exact HR0.out | (with_reducible refine Kd.C_alloc ?_ _) | (with_reducible refine Kd.C_drewN ?_ _) | (with_reducible refine Kd.C_drew ?_))); (case side2 => exact HC0.out); rintro e iU ⟨eo, rfl, ho0, hb⟩; refine ⟨_, rfl, ?_⟩; have al := Aside0.mk (Kd.R_lower ho0 (below_size (zS HB.out))); replace HB := xS HB hb; (try clear hb); (try clear hb2); (try clear hk); (try clear hi); (try clear ho0); obtain ⟨eA, el, fn⟩ := Kd.R_slice al.out; subst fn) | ((with_reducible refine gate_callee (f := 7) rfl ?_); refine gl_ (some 31) Try.func7 #[.int .i64 aE, .int .i64 aF, .int .i64 aB, .slice eA ab.length el] ?_; (with_reducible refine (impl_AutoMake.calls k aE aF aB _ _ ab an ak am ai false _ ?side1 ?side2 A5.out).mono ?_); (case side1 => exact zC (Kd.R_reads' al.out).2.2); (case side2 => exact (Kd.R_reads' al.out).2.1); rintro e iV ⟨ep, rfl, ho0, hb⟩; refine ⟨_, rfl, ?_⟩; have ap := Aside0.mk (Kd.R_lower (Kd.R_new' ho0 (Kd.R_lt (zR al.out))) (below_size (zS HB.out))); replace al := xE al ho0 hb; replace HB := xS HB hb; (try clear hb); (try clear hb2); (try clear hk); (try clear hi); (try clear ho0)) | ((with_reducible refine gate_dst (N := 7) rfl ?_); (try (refine gate_guard (by rfl) ?_; dsimp only)); refine box_event ?hg (N := 7) ?hd (cs := #[.int .i64 0, .int .i64 0, .int .i64 0, .slice none 0 0]) (t := 28) ?hr ?_; (case hd => rfl); (case hg => rfl); (case hr => first | (go_simp; done) | (go_simp; rfl)); intro aq hg iW hbox hb; replace al := xR al hb; replace ap := xR ap hb; have ae := Aside0.mk (hbox); have ef := xG HB hg; have bt := xG HB hg; replace HB := xS HB hb; clear hb hbox hg; obtain ⟨fD, fE, fF, fG, fH, fI, fJ, fK⟩ := cz4 ae; obtain ⟨eB, eC, fo⟩ := Kd.R_slice ap.out; subst fo) | ((with_reducible refine gate_callee (f := 8) rfl ?_); refine gl_ (some 39) Try.func8 #[.int .i64 aE, .int .i64 aF, .int .i64 aB, .slice eA ab.length el] ?_; (with_reducible refine (spec_AutoMake.calls k aE aF aB _ _ ab bq br bs av bR _ ?side1 ?side2 A6.out).mono ?_); (case side1 => refine (Kd.R_reads' (e := 33) (base := w.heap.size) (ok := fun k_ => (True ∧ nb k_ (.slice eB ai.length eC))) (n := ab.length) (c := el) ?_).2.2; exact (zR (xF4 al ae))); (case side2 => exact (Kd.R_reads' al.out).2.1); rintro e iX ⟨eq, rfl, ho0, hb⟩; refine ⟨_, rfl, ?_⟩; have az := Aside0.mk (Kd.R_lower (Kd.R_new' (Kd.R_new' ho0 (Kd.R_lt (zR (xF4 al ae)))) (Kd.R_lt (zR (xF4 ap ae)))) (below_size (zS HB.out))); replace al := Aside0.mk (Kd.R_elder' (zR (xF4 al ae)) (Kd.R_base ho0) hb); replace ap := Aside0.mk (Kd.R_elder' (zR (xF4 ap ae)) (Kd.R_base ho0) hb); replace ae := Aside0.mk (blk_below (g := aq) (o := .cells #[.int .i64 an, .int .i64 ak, .int .i64 am, .slice eB ai.length eC] 28 (0, 0)) (xP4 ae.out) hb); replace HB := xS HB hb; (try clear hb); (try clear hb2); (try clear hk); (try clear hi); (try clear ho0)) | ((with_reducible refine gate_dst (N := 9) rfl ?_); (try (refine gate_guard (by rfl) ?_; dsimp only)); refine box_event ?hg (N := 9) ?hd (cs := #[.int .i64 0, .int .i64 0, .int .i64 0, .slice none 0 0]) (t := 28) ?hr ?_; (case hd => rfl); (case hg => rfl); (case hr => first | (go_simp; done) | (go_simp; rfl)); intro bm hg iY hbox hb; replace al := xR al hb; replace ap := xR ap hb; replace az := xR az hb; have ah := Aside0.mk (hbox); have eg := xG HB hg; have bu := xG HB hg; replace HB := xS HB hb; have aC := xN ae hg; have aD := xM ae hg; replace ae := xB ae hb; clear hb hbox hg; have hL := aD.out; have hM := aC.out; obtain ⟨fL, fM, fN, fO, fP, fQ, fR, fS⟩ := cz4 ah; obtain ⟨iC, iD, fp⟩ := Kd.R_slice az.out; subst fp; obtain ⟨fT, fU, fV, fW, fX, fY, fZ, ga⟩ := cz4 ae))
     go_ret; exact ⟨by first | rfl | (simp [errW_none, errW_some] <;> rfl) | (simp [*, errW_none, errW_some] <;> rfl), by repeat (first | (with_reducible first | exact HB.out | apply below_alloc | apply pw_below_drewN | apply below_drew1 | refine below_set ?_ bt.out | refine below_set ?_ bu.out) | exact HB.out)⟩
    ·rw [if_neg dF] at H; have eY : (ak == 0) = false := beq_eq_false_iff_ne.mpr dF; have eZ : (ak != 0) = true := bne_iff_ne.mpr dF; obtain rfl := Option.some.inj H
     go_enter Try.func3, Try.ntmps3
     go_wp2_with (first | ((with_reducible refine gate_callee (f := 5) rfl ?_); refine gl_ (some 18) Try.func5 #[.slice A0 l0.length c0] ?_; (with_reducible refine (laws_big.calls _ _ l0 false _ ?side1 ?side2 A2.out).mono ?_); (case side1 => repeat (first | exact HR0.out | (with_reducible refine Kd.C_alloc ?_ _) | (with_reducible refine Kd.C_drewN ?_ _) | (with_reducible refine Kd.C_drew ?_))); (case side2 => exact HC0.out); rintro e w' ⟨rfl, ⟨nd, rfl⟩⟩; refine ⟨_, rfl, ?_⟩) | ((with_reducible refine gate_callee (f := 6) rfl ?_); refine gl_ (some 21) Try.func6 #[.slice A0 l0.length c0] ?_; (with_reducible refine (spec_DrawAutoMake.calls k _ _ l0 aE aF aB ab _ ?side1 ?side2 A4.out).mono ?_); (case side1 => repeat (first | exact HR0.out | (with_reducible refine Kd.C_alloc ?_ _) | (with_reducible refine Kd.C_drewN ?_ _) | (with_reducible refine Kd.C_drew ?_))); (case side2 => exact HC0.out); rintro e iZ ⟨eo, rfl, ho0, hb⟩; refine ⟨_, rfl, ?_⟩; have al := Aside0.mk (Kd.R_lower ho0 (below_size (zS HB.out))); replace HB := xS HB hb; (try clear hb); (try clear hb2); (try clear hk); (try clear hi); (try clear ho0); obtain ⟨eD, em, fq⟩ := Kd.R_slice al.out; subst fq) | ((with_reducible refine gate_callee (f := 7) rfl ?_); refine gl_ (some 31) Try.func7 #[.int .i64 aE, .int .i64 aF, .int .i64 aB, .slice eD ab.length em] ?_; (with_reducible refine (impl_AutoMake.calls k aE aF aB _ _ ab an ak am ai false _ ?side1 ?side2 A5.out).mono ?_); (case side1 => exact zC (Kd.R_reads' al.out).2.2); (case side2 => exact (Kd.R_reads' al.out).2.1); rintro e ja ⟨ep, rfl, ho0, hb⟩; refine ⟨_, rfl, ?_⟩; have ap := Aside0.mk (Kd.R_lower (Kd.R_new' ho0 (Kd.R_lt (zR al.out))) (below_size (zS HB.out))); replace al := xE al ho0 hb; replace HB := xS HB hb; (try clear hb); (try clear hb2); (try clear hk); (try clear hi); (try clear ho0)) | ((with_reducible refine gate_dst (N := 7) rfl ?_); (try (refine gate_guard (by rfl) ?_; dsimp only)); refine box_event ?hg (N := 7) ?hd (cs := #[.int .i64 0, .int .i64 0, .int .i64 0, .slice none 0 0]) (t := 28) ?hr ?_; (case hd => rfl); (case hg => rfl); (case hr => first | (go_simp; done) | (go_simp; rfl)); intro aq hg jb hbox hb; replace al := xR al hb; replace ap := xR ap hb; have ae := Aside0.mk (hbox); have ef := xG HB hg; have bt := xG HB hg; replace HB := xS HB hb; clear hb hbox hg; obtain ⟨gb, gc, gd, ge, gf, gg, gh, gi⟩ := cz4 ae; obtain ⟨eE, eF, fr⟩ := Kd.R_slice ap.out; subst fr) | ((with_reducible refine gate_callee (f := 8) rfl ?_); refine gl_ (some 39) Try.func8 #[.int .i64 aE, .int .i64 aF, .int .i64 aB, .slice eD ab.length em] ?_; (with_reducible refine (spec_AutoMake.calls k aE aF aB _ _ ab bq br bs av bR _ ?side1 ?side2 A6.out).mono ?_); (case side1 => refine (Kd.R_reads' (e := 33) (base := w.heap.size) (ok := fun k_ => (True ∧ nb k_ (.slice eE ai.length eF))) (n := ab.length) (c := em) ?_).2.2; exact (zR (xF4 al ae))); (case side2 => exact (Kd.R_reads' al.out).2.1); rintro e jc ⟨eq, rfl, ho0, hb⟩; refine ⟨_, rfl, ?_⟩; have az := Aside0.mk (Kd.R_lower (Kd.R_new' (Kd.R_new' ho0 (Kd.R_lt (zR (xF4 al ae)))) (Kd.R_lt (zR (xF4 ap ae)))) (below_size (zS HB.out))); replace al := Aside0.mk (Kd.R_elder' (zR (xF4 al ae)) (Kd.R_base ho0) hb); replace ap := Aside0.mk (Kd.R_elder' (zR (xF4 ap ae)) (Kd.R_base ho0) hb); replace ae := Aside0.mk (blk_below (g := aq) (o := .cells #[.int .i64 an, .int .i64 ak, .int .i64 am, .slice eE ai.length eF] 28 (0, 0)) (xP4 ae.out) hb); replace HB := xS HB hb; (try clear hb); (try clear hb2); (try clear hk); (try clear hi); (try clear ho0)) | ((with_reducible refine gate_dst (N := 9) rfl ?_); (try (refine gate_guard (by rfl) ?_; dsimp only)); refine box_event ?hg (N := 9) ?hd (cs := #[.int .i64 0, .int .i64 0, .int .i64 0, .slice none 0 0]) (t := 28) ?hr ?_; (case hd => rfl); (case hg => rfl); (case hr => first | (go_simp; done) | (go_simp; rfl)); intro bm hg jd hbox hb; replace al := xR al hb; replace ap := xR ap hb; replace az := xR az hb; have ah := Aside0.mk (hbox); have eg := xG HB hg; have bu := xG HB hg; replace HB := xS HB hb; have aC := xN ae hg; have aD := xM ae hg; replace ae := xB ae hb; clear hb hbox hg; have hN := aD.out; have hO := aC.out; obtain ⟨gj, gl, gm, gn, go, gp, gq, gr⟩ := cz4 ah; obtain ⟨iE, iF, fs⟩ := Kd.R_slice az.out; subst fs; obtain ⟨gs, gt, gu, gv, gw, gx, gy, gz⟩ := cz4 ae))
     go_ret; exact ⟨by first | rfl | (simp [errW_none, errW_some] <;> rfl) | (simp [*, errW_none, errW_some] <;> rfl), by repeat (first | (with_reducible first | exact HB.out | apply below_alloc | apply pw_below_drewN | apply below_drew1 | refine below_set ?_ bt.out | refine below_set ?_ bu.out) | exact HB.out)⟩

/-- THE ONE PURE STATEMENT of laws_FnMake. -/
def laws_FnMake.Pure : Prop := ∀ (l0 : List Int), l0.length ≤ 9223372036854775807 → (∀ x ∈ l0, (Lit.int .u8 x).wf = true) → ∃ k, laws_FnMake.f k l0 = some true

end Go.Proofs.Ytigmokdcanebeaa.MFnMake
