-- Written by a program of this session, out of Lean's print of the translation. Not trusted: Lean checks it.
import Derived.Test.YtlallflpicgcmaaMFnExactRunOkx0
import Derived.Test.YtlallflpicgcmaaMFnExactRunOkx1
import Derived.Test.YtlallflpicgcmaaMFnExactRunOkx2
import Derived.Test.YtlallflpicgcmaaMFnExactRunOkx3
namespace Go.Proofs.Ytlallflpicgcmaa.MFnExactRunOk
open Go.RowKit Go.Proofs.YtlallflpicgcmaaW.PrintWords Go.Proofs.YtlallflpicgcmaaW.PrintLast Go.Proofs.YtlallflpicgcmaaW.PrintMore Go.Proofs.Ytlallflpicgcmaa.Short4
attribute [local go_sem] max2_int min2_int max_two min_two max_three min_three max_four min_four   -- for this text's walks alone
set_option linter.unusedVariables false
set_option linter.unusedSimpArgs false

section
open Go.Proofs.Ytlallflpicgcmaa.Short2.T
abbrev spec_RunOk.bl0 : Array Bool := #[f, f, f, f, f, f, f, f, f, f, f, f, f, f, f, f, f, f, f, f, f, f, f, f, f, f, f, f, f, f, f, f, f, f, f]
abbrev spec_RunOk.bl1 : Array Bool := #[t, f, f, f, f, f, f, f, f, f, f, f, f, f, f, f, f, f, f, f, f, f, f, f, f, f, f, f, f, f, f, f, f, f, f]
abbrev spec_RunOk.bl2 : Array Bool := #[t, t, f, f, f, f, f, f, f, f, f, f, f, f, f, f, f, f, f, f, f, f, f, f, f, f, f, f, f, f, f, f, f, f, f]
abbrev spec_RunOk.bl3 : Array Bool := #[t, t, t, f, f, f, f, f, f, f, f, f, f, f, f, f, f, f, f, f, f, f, f, f, f, f, f, f, f, f, f, f, f, f, f]
abbrev spec_RunOk.bl4 : Array Bool := #[t, t, t, t, f, f, f, f, f, f, f, f, f, f, f, f, f, f, f, f, f, f, f, f, f, f, f, f, f, f, f, f, f, f, f]
abbrev spec_RunOk.bl5 : Array Bool := #[t, t, t, t, f, t, f, f, f, f, f, f, f, f, f, f, f, f, f, f, f, f, f, f, f, f, f, f, f, f, f, f, f, f, f]
abbrev spec_RunOk.bl6 : Array Bool := #[t, t, t, t, t, t, f, f, f, f, f, f, f, f, f, f, f, f, f, f, f, f, f, f, f, f, f, f, f, f, f, f, f, f, f]
abbrev spec_RunOk.bl7 : Array Bool := #[t, t, t, t, t, t, t, f, f, f, f, f, f, f, f, f, f, f, f, f, f, f, f, f, f, f, f, f, f, f, f, f, f, f, f]
abbrev spec_RunOk.bl8 : Array Bool := #[t, t, t, t, t, t, t, t, f, f, f, f, f, f, f, f, f, f, f, f, f, f, f, f, f, f, f, f, f, f, f, f, f, f, f]
abbrev spec_RunOk.bl9 : Array Bool := #[t, t, t, t, t, t, t, t, t, f, f, f, f, f, f, f, f, f, f, f, f, f, f, f, f, f, f, f, f, f, f, f, f, f, f]
abbrev spec_RunOk.bl10 : Array Bool := #[t, t, t, t, t, t, t, t, t, t, f, f, f, f, f, f, f, f, f, f, f, f, f, f, f, f, f, f, f, f, f, f, f, f, f]
abbrev spec_RunOk.bl11 : Array Bool := #[t, t, t, t, t, t, t, t, t, t, t, f, f, f, f, f, f, f, f, f, f, f, f, f, f, f, f, f, f, f, f, f, f, f, f]
abbrev spec_RunOk.bl12 : Array Bool := #[t, t, t, t, t, t, t, t, t, t, t, t, f, f, f, f, f, f, f, f, f, f, f, f, f, f, f, f, f, f, f, f, f, f, f]
abbrev spec_RunOk.bl13 : Array Bool := #[t, t, t, t, t, t, t, t, t, t, t, t, t, f, f, f, f, f, f, f, f, f, f, f, f, f, f, f, f, f, f, f, f, f, f]
abbrev spec_RunOk.bl14 : Array Bool := #[t, t, t, t, t, t, t, t, t, t, t, t, t, t, f, f, f, f, f, f, f, f, f, f, f, f, f, f, f, f, f, f, f, f, f]
abbrev spec_RunOk.bl15 : Array Bool := #[t, t, t, t, t, t, t, t, t, t, t, t, t, t, t, f, f, f, f, f, f, f, f, f, f, f, f, f, f, f, f, f, f, f, f]
abbrev spec_RunOk.bl16 : Array Bool := #[t, t, t, t, t, t, t, t, t, t, t, t, t, t, t, t, f, f, f, f, f, f, f, f, f, f, f, f, f, f, f, f, f, f, f]
abbrev spec_RunOk.bl17 : Array Bool := #[t, t, t, t, t, t, t, t, t, t, t, t, t, t, t, t, t, f, f, f, f, f, f, f, f, f, f, f, f, f, f, f, f, f, f]
abbrev spec_RunOk.bl18 : Array Bool := #[t, t, t, t, t, t, t, t, t, t, t, t, t, t, t, t, t, t, f, f, f, f, f, f, f, f, f, f, f, f, f, f, f, f, f]
abbrev spec_RunOk.bl19 : Array Bool := #[t, t, t, t, t, t, t, t, t, t, t, t, t, t, t, t, t, t, t, f, f, f, f, f, f, f, f, f, f, f, f, f, f, f, f]
abbrev spec_RunOk.bl20 : Array Bool := #[t, t, t, t, t, t, t, t, t, t, t, t, t, t, t, t, t, t, t, f, t, f, f, f, f, f, f, f, f, f, f, f, f, f, f]
abbrev spec_RunOk.bl21 : Array Bool := #[t, t, t, t, t, t, t, t, t, t, t, t, t, t, t, t, t, t, t, f, t, t, f, f, f, f, f, f, f, f, f, f, f, f, f]
abbrev spec_RunOk.bl22 : Array Bool := #[t, t, t, t, t, t, t, t, t, t, t, t, t, t, t, t, t, t, t, t, t, t, f, f, f, f, f, f, f, f, f, f, f, f, f]
abbrev spec_RunOk.bl23 : Array Bool := #[t, t, t, t, t, t, t, t, t, t, t, t, t, t, t, t, t, t, t, t, t, t, t, f, f, f, f, f, f, f, f, f, f, f, f]
abbrev spec_RunOk.bl24 : Array Bool := #[t, t, t, t, t, t, t, t, t, t, t, t, t, t, t, t, t, t, t, t, t, t, t, t, f, f, f, f, f, f, f, f, f, f, f]
abbrev spec_RunOk.bl25 : Array Bool := #[t, t, t, t, t, t, t, t, t, t, t, t, t, t, t, t, t, t, t, t, t, t, t, t, t, f, f, f, f, f, f, f, f, f, f]
abbrev spec_RunOk.bl26 : Array Bool := #[t, t, t, t, t, t, t, t, t, t, t, t, t, t, t, t, t, t, t, t, t, t, t, t, t, t, f, f, f, f, f, f, f, f, f]
abbrev spec_RunOk.bl27 : Array Bool := #[t, t, t, t, t, t, t, t, t, t, t, t, t, t, t, t, t, t, t, t, t, t, t, t, t, t, t, f, f, f, f, f, f, f, f]
abbrev spec_RunOk.bl28 : Array Bool := #[t, t, t, t, t, t, t, t, t, t, t, t, t, t, t, t, t, t, t, t, t, t, t, t, t, t, t, f, t, f, f, f, f, f, f]
abbrev spec_RunOk.bl29 : Array Bool := #[t, t, t, t, t, t, t, t, t, t, t, t, t, t, t, t, t, t, t, t, t, t, t, t, t, t, t, t, t, f, f, f, f, f, f]
abbrev spec_RunOk.bl30 : Array Bool := #[t, t, t, t, t, t, t, t, t, t, t, t, t, t, t, t, t, t, t, t, t, t, t, t, t, t, t, t, t, t, f, f, f, f, f]
abbrev spec_RunOk.bl31 : Array Bool := #[t, t, t, t, t, t, t, t, t, t, t, t, t, t, t, t, t, t, t, t, t, t, t, t, t, t, t, t, t, t, t, f, f, f, f]
abbrev spec_RunOk.bl32 : Array Bool := #[t, t, t, t, t, t, t, t, t, t, t, t, t, t, t, t, t, t, t, t, t, t, t, t, t, t, t, t, t, t, t, t, f, f, f]
abbrev spec_RunOk.bl33 : Array Bool := #[t, t, t, t, t, t, t, t, t, t, t, t, t, t, t, t, t, t, t, t, t, t, t, t, t, t, t, t, t, t, t, t, t, f, f]
abbrev spec_RunOk.bl34 : Array Bool := #[t, t, t, t, t, t, t, t, t, t, t, t, t, t, t, t, t, t, t, t, t, t, t, t, t, t, t, t, t, t, t, t, t, t, f]
abbrev spec_RunOk.bl35 : Array Bool := #[t, t, t, t, t, t, t, t, t, t, t, t, t, t, t, t, t, t, t, t, t, t, t, t, t, t, t, t, t, t, t, t, t, t, t]
abbrev spec_RunOk.bl36 : Array Bool := #[t, t, t, t, t, t, t, t, t, t, t, t, t, t, t, t, t, t, t, t, t, t, t, t, t, t, t, t, f, f, f, f, f, f, f]
abbrev spec_RunOk.bl37 : Array Bool := #[t, t, t, t, t, t, t, t, t, t, t, t, t, t, t, t, t, t, t, t, f, f, f, f, f, f, f, f, f, f, f, f, f, f, f]
abbrev spec_RunOk.bl38 : Array Bool := #[t, t, t, t, t, t, t, t, t, t, t, t, t, t, t, t, t, t, t, t, t, f, f, f, f, f, f, f, f, f, f, f, f, f, f]
abbrev spec_RunOk.bl39 : Array Bool := #[t, t, t, t, t, f, f, f, f, f, f, f, f, f, f, f, f, f, f, f, f, f, f, f, f, f, f, f, f, f, f, f, f, f, f]
abbrev spec_RunOk.bl40 : Array Bool := #[f, f, f, f, f, f, f, f, f, f, f, f, f, f, f, f, f, f, f, f, f, f, f, f, f, f, f, f, f, f, f]
abbrev spec_RunOk.bl41 : Array Bool := #[t, f, f, f, f, f, f, f, f, f, f, f, f, f, f, f, f, f, f, f, f, f, f, f, f, f, f, f, f, f, f]
abbrev spec_RunOk.bl42 : Array Bool := #[t, f, t, f, f, f, f, f, f, f, f, f, f, f, f, f, f, f, f, f, f, f, f, f, f, f, f, f, f, f, f]
abbrev spec_RunOk.bl43 : Array Bool := #[t, t, t, f, f, f, f, f, f, f, f, f, f, f, f, f, f, f, f, f, f, f, f, f, f, f, f, f, f, f, f]
abbrev spec_RunOk.bl44 : Array Bool := #[t, t, t, t, f, f, f, f, f, f, f, f, f, f, f, f, f, f, f, f, f, f, f, f, f, f, f, f, f, f, f]
abbrev spec_RunOk.bl45 : Array Bool := #[t, t, t, t, t, f, f, f, f, f, f, f, f, f, f, f, f, f, f, f, f, f, f, f, f, f, f, f, f, f, f]
abbrev spec_RunOk.bl46 : Array Bool := #[t, t, t, t, t, t, f, f, f, f, f, f, f, f, f, f, f, f, f, f, f, f, f, f, f, f, f, f, f, f, f]
abbrev spec_RunOk.bl47 : Array Bool := #[t, t, t, t, t, t, t, f, f, f, f, f, f, f, f, f, f, f, f, f, f, f, f, f, f, f, f, f, f, f, f]
abbrev spec_RunOk.bl48 : Array Bool := #[t, t, t, t, t, t, t, t, f, f, f, f, f, f, f, f, f, f, f, f, f, f, f, f, f, f, f, f, f, f, f]
abbrev spec_RunOk.bl49 : Array Bool := #[t, t, t, t, t, t, t, t, t, f, f, f, f, f, f, f, f, f, f, f, f, f, f, f, f, f, f, f, f, f, f]
abbrev spec_RunOk.bl50 : Array Bool := #[t, t, t, t, t, t, t, t, t, t, f, f, f, f, f, f, f, f, f, f, f, f, f, f, f, f, f, f, f, f, f]
abbrev spec_RunOk.bl51 : Array Bool := #[t, t, t, t, t, t, t, t, t, t, t, f, f, f, f, f, f, f, f, f, f, f, f, f, f, f, f, f, f, f, f]
abbrev spec_RunOk.bl52 : Array Bool := #[t, t, t, t, t, t, t, t, t, t, t, t, f, f, f, f, f, f, f, f, f, f, f, f, f, f, f, f, f, f, f]
abbrev spec_RunOk.bl53 : Array Bool := #[t, t, t, t, t, t, t, t, t, t, t, t, t, f, f, f, f, f, f, f, f, f, f, f, f, f, f, f, f, f, f]
abbrev spec_RunOk.bl54 : Array Bool := #[t, t, t, t, t, t, t, t, t, t, t, t, t, t, f, f, f, f, f, f, f, f, f, f, f, f, f, f, f, f, f]
abbrev spec_RunOk.bl55 : Array Bool := #[t, t, t, t, t, t, t, t, t, t, t, t, t, t, t, f, f, f, f, f, f, f, f, f, f, f, f, f, f, f, f]
abbrev spec_RunOk.bl56 : Array Bool := #[t, t, t, t, t, t, t, t, t, t, t, t, t, t, t, t, f, f, f, f, f, f, f, f, f, f, f, f, f, f, f]
abbrev spec_RunOk.bl57 : Array Bool := #[t, t, t, t, t, t, t, t, t, t, t, t, t, t, t, t, t, f, f, f, f, f, f, f, f, f, f, f, f, f, f]
abbrev spec_RunOk.bl58 : Array Bool := #[t, t, t, t, t, t, t, t, t, t, t, t, t, t, t, t, t, t, f, f, f, f, f, f, f, f, f, f, f, f, f]
abbrev spec_RunOk.bl59 : Array Bool := #[t, t, t, t, t, t, t, t, t, t, t, t, t, t, t, t, t, t, t, f, f, f, f, f, f, f, f, f, f, f, f]
abbrev spec_RunOk.bl60 : Array Bool := #[t, t, t, t, t, t, t, t, t, t, t, t, t, t, t, t, t, t, t, t, f, f, f, f, f, f, f, f, f, f, f]
abbrev spec_RunOk.bl61 : Array Bool := #[t, t, t, t, t, t, t, t, t, t, t, t, t, t, t, t, t, t, t, t, t, f, f, f, f, f, f, f, f, f, f]
abbrev spec_RunOk.bl62 : Array Bool := #[t, t, t, t, t, t, t, t, t, t, t, t, t, t, t, t, t, t, t, t, t, t, f, f, f, f, f, f, f, f, f]
abbrev spec_RunOk.bl63 : Array Bool := #[t, t, t, t, t, t, t, t, t, t, t, t, t, t, t, t, t, t, t, t, t, t, t, f, f, f, f, f, f, f, f]
abbrev spec_RunOk.bl64 : Array Bool := #[t, t, t, t, t, t, t, t, t, t, t, t, t, t, t, t, t, t, t, t, t, t, t, t, f, f, f, f, f, f, f]
abbrev spec_RunOk.bl65 : Array Bool := #[t, t, t, t, t, t, t, t, t, t, t, t, t, t, t, t, t, t, t, t, t, t, t, t, t, f, f, f, f, f, f]
abbrev spec_RunOk.bl66 : Array Bool := #[t, t, t, t, t, t, t, t, t, t, t, t, t, t, t, t, t, t, t, t, t, t, t, t, t, t, f, f, f, f, f]
abbrev spec_RunOk.bl67 : Array Bool := #[t, t, t, t, t, t, t, t, t, t, t, t, t, t, t, t, t, t, t, t, t, t, t, t, t, t, t, f, f, f, f]
abbrev spec_RunOk.bl68 : Array Bool := #[t, t, t, t, t, t, t, t, t, t, t, t, t, t, t, t, t, t, t, t, t, t, t, t, t, t, t, t, f, f, f]
abbrev spec_RunOk.bl69 : Array Bool := #[t, t, t, t, t, t, t, t, t, t, t, t, t, t, t, t, t, t, t, t, t, t, t, t, t, t, t, t, t, f, f]
abbrev spec_RunOk.bl70 : Array Bool := #[t, t, t, t, t, t, t, t, t, t, t, t, t, t, t, t, t, t, t, t, t, t, t, t, t, t, t, t, t, t, f]
abbrev spec_RunOk.bl71 : Array Bool := #[t, t, t, t, t, t, t, t, t, t, t, t, t, t, t, t, t, t, t, t, t, t, t, t, t, t, t, t, t, t, t]
abbrev spec_RunOk.bl72 : Array Bool := #[t, t, t, t, t, t, t, t, t, f, f, t, f, f, f, f, f, f, f, f, f, f, f, f, f, f, f, f, f, f, f]
abbrev spec_RunOk.bl73 : Array Bool := #[t, t, t, t, t, t, t, t, t, t, f, t, f, f, f, f, f, f, f, f, f, f, f, f, f, f, f, f, f, f, f]
abbrev spec_RunOk.bl74 : Array Bool := #[t, t, t, t, t, t, t, t, t, t, t, t, t, t, t, t, t, t, t, f, t, f, f, f, f, f, f, f, f, f, f]
abbrev spec_RunOk.bl75 : Array Bool := #[t, t, t, t, t, t, t, t, t, t, t, t, t, t, t, t, t, t, t, f, t, f, f, f, t, f, f, f, f, f, f]
abbrev spec_RunOk.bl76 : Array Bool := #[t, t, t, t, t, t, t, t, t, t, t, t, t, t, t, t, t, t, t, f, t, f, f, f, t, f, t, f, f, f, f]
abbrev spec_RunOk.bl77 : Array Bool := #[t, t, t, t, t, t, t, t, t, t, t, t, t, t, t, t, t, t, t, t, t, f, f, f, t, f, t, f, f, f, f]
abbrev spec_RunOk.bl78 : Array Bool := #[t, t, t, t, t, t, t, t, t, t, t, t, t, t, t, t, t, t, t, t, t, t, f, f, t, f, t, f, f, f, f]
abbrev spec_RunOk.bl79 : Array Bool := #[t, t, t, t, t, t, t, t, t, t, t, t, t, t, t, t, t, t, t, t, t, t, t, f, t, f, t, f, f, f, f]
abbrev spec_RunOk.bl80 : Array Bool := #[t, t, t, t, t, t, t, t, t, t, t, t, t, t, t, t, t, t, t, t, t, t, t, t, t, f, t, f, f, f, f]
abbrev spec_RunOk.bl81 : Array Bool := #[f, f, f, f, f, f, f, f, f, f, f, f, f, f, f, f, f, f, f, f, f, f, f, f, f, f, f]
abbrev spec_RunOk.bl82 : Array Bool := #[t, f, f, f, f, f, f, f, f, f, f, f, f, f, f, f, f, f, f, f, f, f, f, f, f, f, f]
abbrev spec_RunOk.bl83 : Array Bool := #[t, f, t, f, f, f, f, f, f, f, f, f, f, f, f, f, f, f, f, f, f, f, f, f, f, f, f]
abbrev spec_RunOk.bl84 : Array Bool := #[t, f, t, f, t, f, f, f, f, f, f, f, f, f, f, f, f, f, f, f, f, f, f, f, f, f, f]
abbrev spec_RunOk.bl85 : Array Bool := #[t, t, t, f, t, f, f, f, f, f, f, f, f, f, f, f, f, f, f, f, f, f, f, f, f, f, f]
abbrev spec_RunOk.bl86 : Array Bool := #[t, t, t, t, t, f, f, f, f, f, f, f, f, f, f, f, f, f, f, f, f, f, f, f, f, f, f]
abbrev spec_RunOk.bl87 : Array Bool := #[t, t, t, t, t, t, f, f, f, f, f, f, f, f, f, f, f, f, f, f, f, f, f, f, f, f, f]
abbrev spec_RunOk.bl88 : Array Bool := #[t, t, t, t, t, t, t, f, f, f, f, f, f, f, f, f, f, f, f, f, f, f, f, f, f, f, f]
abbrev spec_RunOk.bl89 : Array Bool := #[t, t, t, t, t, t, t, t, f, f, f, f, f, f, f, f, f, f, f, f, f, f, f, f, f, f, f]
abbrev spec_RunOk.bl90 : Array Bool := #[t, t, t, t, t, t, t, t, t, f, f, f, f, f, f, f, f, f, f, f, f, f, f, f, f, f, f]
abbrev spec_RunOk.bl91 : Array Bool := #[t, t, t, t, t, t, t, t, t, t, f, f, f, f, f, f, f, f, f, f, f, f, f, f, f, f, f]
abbrev spec_RunOk.bl92 : Array Bool := #[t, t, t, t, t, t, t, t, t, t, f, f, t, f, f, f, f, f, f, f, f, f, f, f, f, f, f]
abbrev spec_RunOk.bl93 : Array Bool := #[t, t, t, t, t, t, t, t, t, t, t, f, t, f, f, f, f, f, f, f, f, f, f, f, f, f, f]
abbrev spec_RunOk.bl94 : Array Bool := #[t, t, t, t, t, t, t, t, t, t, t, t, t, f, f, f, f, f, f, f, f, f, f, f, f, f, f]
abbrev spec_RunOk.bl95 : Array Bool := #[t, t, t, t, t, t, t, t, t, t, t, t, t, t, f, f, f, f, f, f, f, f, f, f, f, f, f]
abbrev spec_RunOk.bl96 : Array Bool := #[t, t, t, t, t, t, t, t, t, t, t, t, t, t, t, f, f, f, f, f, f, f, f, f, f, f, f]
abbrev spec_RunOk.bl97 : Array Bool := #[t, t, t, t, t, t, t, t, t, t, t, t, t, t, t, t, f, f, f, f, f, f, f, f, f, f, f]
abbrev spec_RunOk.bl98 : Array Bool := #[t, t, t, t, t, t, t, t, t, t, t, t, t, t, t, t, t, f, f, f, f, f, f, f, f, f, f]
abbrev spec_RunOk.bl99 : Array Bool := #[t, t, t, t, t, t, t, t, t, t, t, t, t, t, t, t, t, t, f, f, f, f, f, f, f, f, f]
abbrev spec_RunOk.bl100 : Array Bool := #[t, t, t, t, t, t, t, t, t, t, t, t, t, t, t, t, t, t, f, t, f, f, f, f, f, f, f]
abbrev spec_RunOk.bl101 : Array Bool := #[t, t, t, t, t, t, t, t, t, t, t, t, t, t, t, t, t, t, f, t, f, t, f, f, f, f, f]
abbrev spec_RunOk.bl102 : Array Bool := #[t, t, t, t, t, t, t, t, t, t, t, t, t, t, t, t, t, t, f, t, f, t, t, f, f, f, f]
abbrev spec_RunOk.bl103 : Array Bool := #[t, t, t, t, t, t, t, t, t, t, t, t, t, t, t, t, t, t, t, t, f, t, t, f, f, f, f]
abbrev spec_RunOk.bl104 : Array Bool := #[t, t, t, t, t, t, t, t, t, t, t, t, t, t, t, t, t, t, t, t, t, t, t, f, f, f, f]
abbrev spec_RunOk.bl105 : Array Bool := #[t, t, t, t, t, t, t, t, t, t, t, t, t, t, t, t, t, t, t, t, t, t, t, t, f, f, f]
abbrev spec_RunOk.bl106 : Array Bool := #[t, t, t, t, t, t, t, t, t, t, t, t, t, t, t, t, t, t, t, t, t, t, t, t, t, f, f]
abbrev spec_RunOk.bl107 : Array Bool := #[t, t, t, t, t, t, t, t, t, t, t, t, t, t, t, t, t, t, t, t, t, t, t, t, t, t, f]
abbrev spec_RunOk.bl108 : Array Bool := #[t, t, t, t, t, t, t, t, t, t, t, t, t, t, t, t, t, t, t, t, t, t, t, t, t, t, t]
abbrev spec_RunOk.bl109 : Array Bool := #[t, t, t, t, t, t, t, t, t, t, t, t, t, t, t, t, t, t, t, f, f, f, f, f, f, f, f]
abbrev spec_RunOk.bl110 : Array Bool := #[t, t, t, t, t, t, t, t, t, t, t, t, t, t, t, t, t, t, t, t, f, f, f, f, f, f, f]
abbrev spec_RunOk.bl111 : Array Bool := #[t, t, t, t, t, t, t, t, t, t, t, t, t, t, t, t, t, t, t, t, t, f, f, f, f, f, f]
abbrev spec_RunOk.bl112 : Array Bool := #[t, t, t, t, t, t, t, t, t, t, t, t, t, t, t, t, t, t, t, t, t, t, f, f, f, f, f]
abbrev spec_RunOk.bl113 : Array Bool := #[t, t, t, t, t, t, t, t, t, t, t, f, f, f, f, f, f, f, f, f, f, f, f, f, f, f, f]
abbrev spec_RunOk.bl114 : Array Bool := #[t, t, t, t, t, t, t, t, t, t, t, t, f, f, f, f, f, f, f, f, f, f, f, f, f, f, f]
end
/-! ### spec_RunOk: function 52 -/
mutual
def spec_RunOk.j0 : Nat → Int → Bool → Int → Int → Int → List (S68) → List Int → List Int → List Int → Int → Option (Bool)
 | 0, _, _, _, _, _, _, _, _, _, _ => none
 | k + 1, x7, x51, x164000, x164001, x164002, x164003, x165000, x165001, x166000, x166001 => if x51 = true then (some false) else (if x166001 < (x165000.length : Int) then (spec_RunOk.j1 k x7 true x164000 x164001 x164002 x164003 x165000 x165001 x166000 x166001) else (if (x165001.length : Int) = 0 then (none) else (if (Int.tmod (wrap64 (x7 - x166001)) (x165001.length : Int)) = 0 then (if 0 ≤ x166001 then (if x166001 < (x166000.length : Int) then (if 0 ≤ x7 then (if x7 < (x166000.length : Int) then (spec_RunOk.j1 k x7 ((rd x166000 x166001) != (rd x166000 x7)) x164000 x164001 x164002 x164003 x165000 x165001 x166000 x166001) else (none)) else (none)) else (none)) else (none)) else (spec_RunOk.j1 k x7 true x164000 x164001 x164002 x164003 x165000 x165001 x166000 x166001))))
def spec_RunOk.j1 : Nat → Int → Bool → Int → Int → Int → List (S68) → List Int → List Int → List Int → Int → Option (Bool)
 | 0, _, _, _, _, _, _, _, _, _, _ => none
 | k + 1, x7, x82, x164000, x164001, x164002, x164003, x165000, x165001, x166000, x166001 => if x82 = true then (some false) else (spec_RunOk.l0 k x7 false 0 x164000 x164001 x164002 x164003 x165000 x165001 x166000 x166001)
def spec_RunOk.l0 : Nat → Int → Bool → Int → Int → Int → Int → List (S68) → List Int → List Int → List Int → Int → Option (Bool)
 | 0, _, _, _, _, _, _, _, _, _, _, _ => none
 | k + 1, x7, x8, x9, x164000, x164001, x164002, x164003, x165000, x165001, x166000, x166001 => if x9 < x7 then (spec_RunOk.l1 k x7 x8 x9 false 0 x164000 x164001 x164002 x164003 x165000 x165001 x166000 x166001) else (some x8)
def spec_RunOk.l1 : Nat → Int → Bool → Int → Bool → Int → Int → Int → Int → List (S68) → List Int → List Int → List Int → Int → Option (Bool)
 | 0, _, _, _, _, _, _, _, _, _, _, _, _, _ => none
 | k + 1, x7, x8, x9, x10, x11, x164000, x164001, x164002, x164003, x165000, x165001, x166000, x166001 => if x11 < (x164003.length : Int) then (if 0 ≤ x11 then (if 0 ≤ x9 then (if x9 < (x166000.length : Int) then (if ((rd_T68 x164003 x11).f0) = (rd x166000 x9) then ((spec_l3At.f x165000 x165001 x9).bind fun t177 => (if ((rd_T68 x164003 x11).f1) = t177 then (if 0 ≤ (wrap64 (x9 + 1)) then (if (wrap64 (x9 + 1)) < (x166000.length : Int) then (if ((rd_T68 x164003 x11).f2) = (rd x166000 (wrap64 (x9 + 1))) then (if x8 = true then (spec_RunOk.l1 k x7 true x9 true (wrap64 (x11 + 1)) x164000 x164001 x164002 x164003 x165000 x165001 x166000 x166001) else (if (rd_T68 x164003 x11).f3 = true then (spec_RunOk.l1 k x7 (decide (x9 ≥ x166001)) x9 true (wrap64 (x11 + 1)) x164000 x164001 x164002 x164003 x165000 x165001 x166000 x166001) else (spec_RunOk.l1 k x7 false x9 true (wrap64 (x11 + 1)) x164000 x164001 x164002 x164003 x165000 x165001 x166000 x166001))) else (spec_RunOk.l1 k x7 x8 x9 x10 (wrap64 (x11 + 1)) x164000 x164001 x164002 x164003 x165000 x165001 x166000 x166001)) else (none)) else (none)) else (spec_RunOk.l1 k x7 x8 x9 x10 (wrap64 (x11 + 1)) x164000 x164001 x164002 x164003 x165000 x165001 x166000 x166001))) else (spec_RunOk.l1 k x7 x8 x9 x10 (wrap64 (x11 + 1)) x164000 x164001 x164002 x164003 x165000 x165001 x166000 x166001)) else (none)) else (none)) else (none)) else (if x10 = true then (spec_RunOk.l0 k x7 x8 (wrap64 (x9 + 1)) x164000 x164001 x164002 x164003 x165000 x165001 x166000 x166001) else (some false))
end
def spec_RunOk.f (k : Nat) (a0_0 : Int) (a0_1 : Int) (a0_2 : Int) (l0_3 : List (S68)) (l1_0 : List Int) (l1_1 : List Int) (l2_0 : List Int) (a2_1 : Int) : Option (Bool) := (spec_AutoOk.f k a0_0 a0_1 a0_2 l0_3).bind fun t166 => (if t166 = true then ((spec_WordOk.f k l1_0 l1_1 a0_0).bind fun t167 => (if t167 = true then ((spec_l1In.f (l2_0.length : Int) 2 6000).bind fun t168 => (if t168 = true then ((spec_l1In.f a2_1 0 (wrap64 ((wrap64 ((l2_0.length : Int) - 1)) - 1))).bind fun t169 => (if t169 = true then (if 0 < (l2_0.length : Int) then ((spec_l1Has.f a0_2 (rd l2_0 0)).bind fun t171 => (spec_RunOk.j0 k (wrap64 ((l2_0.length : Int) - 1)) (!t171) a0_0 a0_1 a0_2 l0_3 l1_0 l1_1 l2_0 a2_1)) else (none)) else (spec_RunOk.j0 k (wrap64 ((l2_0.length : Int) - 1)) true a0_0 a0_1 a0_2 l0_3 l1_0 l1_1 l2_0 a2_1))) else (spec_RunOk.j0 k (wrap64 ((l2_0.length : Int) - 1)) true a0_0 a0_1 a0_2 l0_3 l1_0 l1_1 l2_0 a2_1))) else (spec_RunOk.j0 k (wrap64 ((l2_0.length : Int) - 1)) true a0_0 a0_1 a0_2 l0_3 l1_0 l1_1 l2_0 a2_1))) else (spec_RunOk.j0 k (wrap64 ((l2_0.length : Int) - 1)) true a0_0 a0_1 a0_2 l0_3 l1_0 l1_1 l2_0 a2_1))
theorem spec_RunOk.mono_l : ∀ k, (∀ y0 y1 y2 y3 y4 y5 y6 y7 y8 y9, LeO (spec_RunOk.j0 k y0 y1 y2 y3 y4 y5 y6 y7 y8 y9) (spec_RunOk.j0 (k + 1) y0 y1 y2 y3 y4 y5 y6 y7 y8 y9)) ∧ (∀ y0 y1 y2 y3 y4 y5 y6 y7 y8 y9, LeO (spec_RunOk.j1 k y0 y1 y2 y3 y4 y5 y6 y7 y8 y9) (spec_RunOk.j1 (k + 1) y0 y1 y2 y3 y4 y5 y6 y7 y8 y9)) ∧ (∀ y0 y1 y2 y3 y4 y5 y6 y7 y8 y9 y10, LeO (spec_RunOk.l0 k y0 y1 y2 y3 y4 y5 y6 y7 y8 y9 y10) (spec_RunOk.l0 (k + 1) y0 y1 y2 y3 y4 y5 y6 y7 y8 y9 y10)) ∧ (∀ y0 y1 y2 y3 y4 y5 y6 y7 y8 y9 y10 y11 y12, LeO (spec_RunOk.l1 k y0 y1 y2 y3 y4 y5 y6 y7 y8 y9 y10 y11 y12) (spec_RunOk.l1 (k + 1) y0 y1 y2 y3 y4 y5 y6 y7 y8 y9 y10 y11 y12))
 | 0 => ⟨fun _ _ _ _ _ _ _ _ _ _ r h => by simp [spec_RunOk.j0] at h, fun _ _ _ _ _ _ _ _ _ _ r h => by simp [spec_RunOk.j1] at h, fun _ _ _ _ _ _ _ _ _ _ _ r h => by simp [spec_RunOk.l0] at h, fun _ _ _ _ _ _ _ _ _ _ _ _ _ r h => by simp [spec_RunOk.l1] at h⟩
 | k + 1 => by
  obtain ⟨ih0, ih1, ih2, ih3⟩ := spec_RunOk.mono_l k
  refine ⟨?_, ?_, ?_, ?_⟩
  ·intro y0 y1 y2 y3 y4 y5 y6 y7 y8 y9
   unfold spec_RunOk.j0
   repeat' first
   | (with_reducible exact ih0 _ _ _ _ _ _ _ _ _ _)
   | (with_reducible exact ih1 _ _ _ _ _ _ _ _ _ _)
   | (with_reducible exact ih2 _ _ _ _ _ _ _ _ _ _ _)
   | (with_reducible exact ih3 _ _ _ _ _ _ _ _ _ _ _ _ _)
   | (with_reducible exact spec_AutoOk.mono _ _ _ _ _)
   | (with_reducible exact spec_WordOk.mono _ _ _ _)
   | (with_reducible exact LeO.refl _)
   | (with_reducible exact LeO.none _)
   | (with_reducible refine LeO.ite ?_ ?_)
   | (with_reducible refine LeO.bind ?_ (fun _ => ?_))
   | exact ih0 _ _ _ _ _ _ _ _ _ _
   | exact ih1 _ _ _ _ _ _ _ _ _ _
   | exact ih2 _ _ _ _ _ _ _ _ _ _ _
   | exact ih3 _ _ _ _ _ _ _ _ _ _ _ _ _
   | exact spec_AutoOk.mono _ _ _ _ _
   | exact spec_WordOk.mono _ _ _ _
   | exact LeO.none _
   | refine LeO.ite ?_ ?_
   | refine LeO.bind ?_ (fun _ => ?_)
  ·intro y0 y1 y2 y3 y4 y5 y6 y7 y8 y9
   unfold spec_RunOk.j1
   repeat' first
   | (with_reducible exact ih0 _ _ _ _ _ _ _ _ _ _)
   | (with_reducible exact ih1 _ _ _ _ _ _ _ _ _ _)
   | (with_reducible exact ih2 _ _ _ _ _ _ _ _ _ _ _)
   | (with_reducible exact ih3 _ _ _ _ _ _ _ _ _ _ _ _ _)
   | (with_reducible exact spec_AutoOk.mono _ _ _ _ _)
   | (with_reducible exact spec_WordOk.mono _ _ _ _)
   | (with_reducible exact LeO.refl _)
   | (with_reducible exact LeO.none _)
   | (with_reducible refine LeO.ite ?_ ?_)
   | (with_reducible refine LeO.bind ?_ (fun _ => ?_))
   | exact ih0 _ _ _ _ _ _ _ _ _ _
   | exact ih1 _ _ _ _ _ _ _ _ _ _
   | exact ih2 _ _ _ _ _ _ _ _ _ _ _
   | exact ih3 _ _ _ _ _ _ _ _ _ _ _ _ _
   | exact spec_AutoOk.mono _ _ _ _ _
   | exact spec_WordOk.mono _ _ _ _
   | exact LeO.none _
   | refine LeO.ite ?_ ?_
   | refine LeO.bind ?_ (fun _ => ?_)
  ·intro y0 y1 y2 y3 y4 y5 y6 y7 y8 y9 y10
   unfold spec_RunOk.l0
   repeat' first
   | (with_reducible exact ih0 _ _ _ _ _ _ _ _ _ _)
   | (with_reducible exact ih1 _ _ _ _ _ _ _ _ _ _)
   | (with_reducible exact ih2 _ _ _ _ _ _ _ _ _ _ _)
   | (with_reducible exact ih3 _ _ _ _ _ _ _ _ _ _ _ _ _)
   | (with_reducible exact spec_AutoOk.mono _ _ _ _ _)
   | (with_reducible exact spec_WordOk.mono _ _ _ _)
   | (with_reducible exact LeO.refl _)
   | (with_reducible exact LeO.none _)
   | (with_reducible refine LeO.ite ?_ ?_)
   | (with_reducible refine LeO.bind ?_ (fun _ => ?_))
   | exact ih0 _ _ _ _ _ _ _ _ _ _
   | exact ih1 _ _ _ _ _ _ _ _ _ _
   | exact ih2 _ _ _ _ _ _ _ _ _ _ _
   | exact ih3 _ _ _ _ _ _ _ _ _ _ _ _ _
   | exact spec_AutoOk.mono _ _ _ _ _
   | exact spec_WordOk.mono _ _ _ _
   | exact LeO.none _
   | refine LeO.ite ?_ ?_
   | refine LeO.bind ?_ (fun _ => ?_)
  ·intro y0 y1 y2 y3 y4 y5 y6 y7 y8 y9 y10 y11 y12
   unfold spec_RunOk.l1
   repeat' first
   | (with_reducible exact ih0 _ _ _ _ _ _ _ _ _ _)
   | (with_reducible exact ih1 _ _ _ _ _ _ _ _ _ _)
   | (with_reducible exact ih2 _ _ _ _ _ _ _ _ _ _ _)
   | (with_reducible exact ih3 _ _ _ _ _ _ _ _ _ _ _ _ _)
   | (with_reducible exact spec_AutoOk.mono _ _ _ _ _)
   | (with_reducible exact spec_WordOk.mono _ _ _ _)
   | (with_reducible exact LeO.refl _)
   | (with_reducible exact LeO.none _)
   | (with_reducible refine LeO.ite ?_ ?_)
   | (with_reducible refine LeO.bind ?_ (fun _ => ?_))
   | exact ih0 _ _ _ _ _ _ _ _ _ _
   | exact ih1 _ _ _ _ _ _ _ _ _ _
   | exact ih2 _ _ _ _ _ _ _ _ _ _ _
   | exact ih3 _ _ _ _ _ _ _ _ _ _ _ _ _
   | exact spec_AutoOk.mono _ _ _ _ _
   | exact spec_WordOk.mono _ _ _ _
   | exact LeO.none _
   | refine LeO.ite ?_ ?_
   | refine LeO.bind ?_ (fun _ => ?_)
theorem spec_RunOk.mono : ∀ a0 a1 a2 a3 a4 a5 a6 a7 k, LeO (spec_RunOk.f k a0 a1 a2 a3 a4 a5 a6 a7) (spec_RunOk.f (k + 1) a0 a1 a2 a3 a4 a5 a6 a7) := by
 intro a0 a1 a2 a3 a4 a5 a6 a7 k
 obtain ⟨ih0, ih1, ih2, ih3⟩ := spec_RunOk.mono_l k
 unfold spec_RunOk.f
 repeat' first
   | (with_reducible exact ih0 _ _ _ _ _ _ _ _ _ _)
   | (with_reducible exact ih1 _ _ _ _ _ _ _ _ _ _)
   | (with_reducible exact ih2 _ _ _ _ _ _ _ _ _ _ _)
   | (with_reducible exact ih3 _ _ _ _ _ _ _ _ _ _ _ _ _)
   | (with_reducible exact spec_AutoOk.mono _ _ _ _ _)
   | (with_reducible exact spec_WordOk.mono _ _ _ _)
   | (with_reducible exact LeO.refl _)
   | (with_reducible exact LeO.none _)
   | (with_reducible refine LeO.ite ?_ ?_)
   | (with_reducible refine LeO.bind ?_ (fun _ => ?_))
   | exact ih0 _ _ _ _ _ _ _ _ _ _
   | exact ih1 _ _ _ _ _ _ _ _ _ _
   | exact ih2 _ _ _ _ _ _ _ _ _ _ _
   | exact ih3 _ _ _ _ _ _ _ _ _ _ _ _ _
   | exact spec_AutoOk.mono _ _ _ _ _
   | exact spec_WordOk.mono _ _ _ _
   | exact LeO.none _
   | refine LeO.ite ?_ ?_
   | refine LeO.bind ?_ (fun _ => ?_)
def spec_RunOk.T2 : Bool × List (List Nat × List Nat) := (true, [([], []), ([0], [0]), ([1], [1]), ([2, 1], [2]), ([3], [3]), ([3], [3]), ([5, 3], [3, 5]), ([4, 6, 3, 3], [3, 4, 6]), ([7, 3], [3, 7]), ([3, 8], [3, 8]), ([9, 7], [9]), ([10], [10]), ([11, 10], [10, 11]), ([12, 10], [10, 12]), ([13, 10, 10], [10, 13]), ([14, 10], [10, 14]), ([10, 15], [10, 15]), ([16, 14], [16]), ([17], [17]), ([18, 17], [17, 18]), ([17], [17]), ([20, 17], [17, 20]), ([19, 21, 17, 17], [17, 19, 21]), ([22, 17], [17, 22]), ([17, 23], [17, 23]), ([24, 22], [24]), ([25], [25]), ([26, 25], [25, 26]), ([25], [25]), ([28, 25], [25, 28]), ([29, 25], [25, 29]), ([30, 25], [25, 30]), ([27, 31, 25, 25], [25, 27, 31]), ([32, 25], [25, 32]), ([25, 33], [25, 33])])
def spec_RunOk.B2 : List Nat := [0, 1, 3, 7, 15, 15, 47, 127, 255, 511, 1023, 2047, 4095, 8191, 16383, 32767, 65535, 131071, 262143, 524287, 262143, 1310719, 4194303, 8388607, 16777215, 33554431, 67108863, 134217727, 67108863, 335544319, 872415231, 1946157055, 4294967295, 8589934591, 17179869183]
theorem spec_RunOk.tab2 : rtab .any (opsOf Try.f52 2) = spec_RunOk.T2 := by kernel_rfl
theorem spec_RunOk.bits2 : waitsOk spec_RunOk.T2.2 spec_RunOk.B2 = true := by kernel_rfl
def spec_RunOk.T4 : Bool × List (List Nat × List Nat) := (true, [([], []), ([0], [0]), ([], []), ([2], [2]), ([3], [3]), ([1, 4], [1, 4]), ([5], [5]), ([6], [6]), ([6], [6]), ([8, 6], [6, 8]), ([7, 9, 6], [6, 7, 9]), ([6], [6]), ([11, 6], [6, 11]), ([12, 6], [6, 12]), ([10, 13, 6], [6, 10, 13]), ([14, 6], [6, 14]), ([6, 15], [6, 15]), ([16, 6], [16]), ([17], [17]), ([18, 17], [17, 18]), ([17], [17]), ([20, 17], [17, 20]), ([19, 21, 17], [17, 19, 21]), ([22, 17], [17, 22]), ([17], [17]), ([24, 17], [17, 24]), ([17], [17]), ([25, 26, 17], [17, 25, 26]), ([27, 17], [17, 27]), ([23, 28, 17], [17, 23, 28]), ([17, 29], [17, 29])])
def spec_RunOk.B4 : List Nat := [0, 1, 0, 4, 12, 31, 63, 127, 127, 383, 1023, 127, 2175, 6271, 16383, 32767, 65535, 131071, 262143, 524287, 262143, 1310719, 4194303, 8388607, 262143, 17039359, 262143, 117702655, 251920383, 536870911, 1073741823]
theorem spec_RunOk.tab4 : rtab .any (opsOf Try.f52 4) = spec_RunOk.T4 := by kernel_rfl
theorem spec_RunOk.bits4 : waitsOk spec_RunOk.T4.2 spec_RunOk.B4 = true := by kernel_rfl
def spec_RunOk.T15 : Bool × List (List Nat × List Nat) := (true, [([], []), ([0], [0]), ([], []), ([2], [2]), ([], []), ([3, 4], [3, 4]), ([5], [5]), ([1, 6], [1, 6]), ([7], [7]), ([8], [8]), ([9, 8], [8, 9]), ([8], [8]), ([8], [8]), ([11, 12, 8, 8], [8, 11, 12]), ([10, 13, 8], [8, 10, 13]), ([8, 14], [8, 14]), ([15, 13], [15]), ([16], [16]), ([17, 16], [16, 17]), ([16], [16]), ([19, 16], [16, 19]), ([16], [16]), ([21, 16], [16, 21]), ([20, 22, 16], [16, 20, 22]), ([23, 16], [16, 23]), ([18, 24, 16], [16, 18, 24]), ([16, 25], [16, 25])])
def spec_RunOk.B15 : List Nat := [0, 1, 0, 4, 0, 28, 60, 127, 255, 511, 1023, 511, 511, 6655, 16383, 32767, 65535, 131071, 262143, 131071, 655359, 131071, 2228223, 7995391, 16383999, 33554431, 67108863]
theorem spec_RunOk.tab15 : rtab .any (opsOf Try.f52 15) = spec_RunOk.T15 := by kernel_rfl
theorem spec_RunOk.bits15 : waitsOk spec_RunOk.T15.2 spec_RunOk.B15 = true := by kernel_rfl
open Go.Proofs.Ytlallflpicgcmaa.Short2 in
set_option maxHeartbeats 8000000 in
set_option maxRecDepth 100000 in
theorem spec_RunOk.calls (k : Nat) (a0_0 : Int) (a0_1 : Int) (a0_2 : Int) (A0_3 : Option Addr) (c0_3 : Nat) (l0_3 : List (S68)) (A1_0 : Option Addr) (c1_0 : Nat) (l1_0 : List Int) (A1_1 : Option Addr) (c1_1 : Nat) (l1_1 : List Int) (A2_0 : Option Addr) (c2_0 : Nat) (l2_0 : List Int) (a2_1 : Int) (r : Bool) (w : World) (hr0_3 : Kd.C k68 w A0_3 l0_3.length l0_3) (hc0_3 : l0_3.length ≤ c0_3) (hr1_0 : Kd.C (Kd.int .i64) w A1_0 l1_0.length l1_0) (hc1_0 : l1_0.length ≤ c1_0) (hr1_1 : Kd.C (Kd.int .i64) w A1_1 l1_1.length l1_1) (hc1_1 : l1_1.length ≤ c1_1) (hr2_0 : Kd.C (Kd.int .i64) w A2_0 l2_0.length l2_0) (hc2_0 : l2_0.length ≤ c2_0) (h : spec_RunOk.f k a0_0 a0_1 a0_2 l0_3 l1_0 l1_1 l2_0 a2_1 = some r) :
  Calls Try.prog 52 #[.agg #[.int .i64 a0_0, .int .i64 a0_1, .int .i64 a0_2, .slice A0_3 l0_3.length c0_3], .agg #[.slice A1_0 l1_0.length c1_0, .slice A1_1 l1_1.length c1_1], .agg #[.slice A2_0 l2_0.length c2_0, .int .i64 a2_1]] w fun e w' => e = .returned (.bool r) ∧ Below w.heap.size w w' := by
 have hu24 := Try.underlying24; have hu78 := Try.underlying78; have hu80 := Try.underlying80; have hu68 := Try.underlying68; have HR0_3 := Aside0.mk hr0_3; have HC0_3 := Aside0.mk hc0_3; clear hr0_3 hc0_3; have HR1_0 := Aside0.mk hr1_0; have HC1_0 := Aside0.mk hc1_0; clear hr1_0 hc1_0; have HR1_1 := Aside0.mk hr1_1; have HC1_1 := Aside0.mk hc1_1; clear hr1_1 hc1_1; have HR2_0 := Aside0.mk hr2_0; have HC2_0 := Aside0.mk hc2_0; clear hr2_0 hc2_0; have HB := Aside0.mk (Below.refl w.heap.size w); have H : ((spec_AutoOk.f k a0_0 a0_1 a0_2 l0_3).bind fun t166 => (if t166 = true then ((spec_WordOk.f k l1_0 l1_1 a0_0).bind fun t167 => (if t167 = true then ((spec_l1In.f (l2_0.length : Int) 2 6000).bind fun t168 => (if t168 = true then ((spec_l1In.f a2_1 0 (wrap64 ((wrap64 ((l2_0.length : Int) - 1)) - 1))).bind fun t169 => (if t169 = true then (if 0 < (l2_0.length : Int) then ((spec_l1Has.f a0_2 (rd l2_0 0)).bind fun t171 => (spec_RunOk.j0 k (wrap64 ((l2_0.length : Int) - 1)) (!t171) a0_0 a0_1 a0_2 l0_3 l1_0 l1_1 l2_0 a2_1)) else (none)) else (spec_RunOk.j0 k (wrap64 ((l2_0.length : Int) - 1)) true a0_0 a0_1 a0_2 l0_3 l1_0 l1_1 l2_0 a2_1))) else (spec_RunOk.j0 k (wrap64 ((l2_0.length : Int) - 1)) true a0_0 a0_1 a0_2 l0_3 l1_0 l1_1 l2_0 a2_1))) else (spec_RunOk.j0 k (wrap64 ((l2_0.length : Int) - 1)) true a0_0 a0_1 a0_2 l0_3 l1_0 l1_1 l2_0 a2_1))) else (spec_RunOk.j0 k (wrap64 ((l2_0.length : Int) - 1)) true a0_0 a0_1 a0_2 l0_3 l1_0 l1_1 l2_0 a2_1))) = some r := h; clear h; have HC4 := Aside0.mk H; clear H
 go_enter Try.func52, Try.ntmps52
 go_upto_region 2 with (first | ((with_reducible refine gate_dst (N := 3) rfl ?_); (try (refine gate_guard (by rfl) ?_; dsimp only)); refine box_event ?hg (N := 3) ?hd (cs := #[.int .i64 a0_0, .int .i64 a0_1, .int .i64 a0_2, .slice A0_3 l0_3.length c0_3]) (t := 24) ?hr ?_; (case hd => rfl); (case hg => rfl); (case hr => first | (go_simp; done) | (go_simp; rfl)); intro gb163 hg w5 hbox hb; have BK163 := Aside0.mk (hbox); have GW163 := xG HB hg; have GE163 := xG HB hg; replace HB := xS HB hb; clear hb hbox hg) | ((with_reducible refine gate_dst (N := 4) rfl ?_); (try (refine gate_guard (by rfl) ?_; dsimp only)); refine box_event ?hg (N := 4) ?hd (cs := #[.slice A1_0 l1_0.length c1_0, .slice A1_1 l1_1.length c1_1]) (t := 78) ?hr ?_; (case hd => rfl); (case hg => rfl); (case hr => first | (go_simp; done) | (go_simp; rfl)); intro gb164 hg w6 hbox hb; have BK164 := Aside0.mk (hbox); have GW164 := xG HB hg; have GE164 := xG HB hg; replace HB := xS HB hb; have NB163_164 := xN BK163 hg; have NB164_163 := xM BK163 hg; replace BK163 := xB BK163 hb; clear hb hbox hg) | ((with_reducible refine gate_dst (N := 5) rfl ?_); (try (refine gate_guard (by rfl) ?_; dsimp only)); refine box_event ?hg (N := 5) ?hd (cs := #[.slice A2_0 l2_0.length c2_0, .int .i64 a2_1]) (t := 80) ?hr ?_; (case hd => rfl); (case hg => rfl); (case hr => first | (go_simp; done) | (go_simp; rfl)); intro gb165 hg w7 hbox hb; have BK165 := Aside0.mk (hbox); have GW165 := xG HB hg; have GE165 := xG HB hg; replace HB := xS HB hb; have NB163_165 := xN BK163 hg; have NB165_163 := xM BK163 hg; replace BK163 := xB BK163 hb; have NB164_165 := xN BK164 hg; have NB165_164 := xM BK164 hg; replace BK164 := xB BK164 hb; clear hb hbox hg; have hnb8 := NB165_163.out; have hnc8 := NB163_165.out; have hnb9 := NB165_164.out; have hnc9 := NB164_165.out; have hcz10_0 : w7.cell? ⟨gb165, 0, none⟩ = some (.slice A2_0 l2_0.length c2_0) := b1 BK165 0; have hcz10_1 : w7.cell? ⟨gb165, 1, none⟩ = some (.int .i64 a2_1) := b1 BK165 1; have hfz10_0 := blk_frozen BK165.out 0; have hfz10_1 := blk_frozen BK165.out 1))
 (try simp only [Act.put, q3])
 go_cut [51] (fun v51 wc => ∃ (kq : Nat) (x51_3 : Bool), v51 = .bool x51_3 ∧ Aside0 (spec_RunOk.j0 kq (wrap64 ((l2_0.length : Int) - 1)) x51_3 a0_0 a0_1 a0_2 l0_3 l1_0 l1_1 l2_0 a2_1 = some r) ∧ Aside0 (kq ≤ k) ∧ Aside0 (wc.heap[gb163]? = some (.cells #[.int .i64 a0_0, .int .i64 a0_1, .int .i64 a0_2, (.slice A0_3 l0_3.length c0_3)] 24 (0, 0))) ∧ Aside0 (wc.heap[gb164]? = some (.cells #[(.slice A1_0 l1_0.length c1_0), (.slice A1_1 l1_1.length c1_1)] 78 (0, 0))) ∧ Aside0 (wc.heap[gb165]? = some (.cells #[(.slice A2_0 l2_0.length c2_0), .int .i64 a2_1] 80 (0, 0))) ∧ Aside0 (Below w.heap.size w wc))
 case first =>
  have H := HC4.out; clear HC4; replace H := Option.bind_eq_some_iff.mp H; obtain ⟨t166, A110, H⟩ := H; replace H : (if t166 = true then ((spec_WordOk.f k l1_0 l1_1 a0_0).bind fun t167 => (if t167 = true then ((spec_l1In.f (l2_0.length : Int) 2 6000).bind fun t168 => (if t168 = true then ((spec_l1In.f a2_1 0 (wrap64 ((wrap64 ((l2_0.length : Int) - 1)) - 1))).bind fun t169 => (if t169 = true then (if 0 < (l2_0.length : Int) then ((spec_l1Has.f a0_2 (rd l2_0 0)).bind fun t171 => (spec_RunOk.j0 k (wrap64 ((l2_0.length : Int) - 1)) (!t171) a0_0 a0_1 a0_2 l0_3 l1_0 l1_1 l2_0 a2_1)) else (none)) else (spec_RunOk.j0 k (wrap64 ((l2_0.length : Int) - 1)) true a0_0 a0_1 a0_2 l0_3 l1_0 l1_1 l2_0 a2_1))) else (spec_RunOk.j0 k (wrap64 ((l2_0.length : Int) - 1)) true a0_0 a0_1 a0_2 l0_3 l1_0 l1_1 l2_0 a2_1))) else (spec_RunOk.j0 k (wrap64 ((l2_0.length : Int) - 1)) true a0_0 a0_1 a0_2 l0_3 l1_0 l1_1 l2_0 a2_1))) else (spec_RunOk.j0 k (wrap64 ((l2_0.length : Int) - 1)) true a0_0 a0_1 a0_2 l0_3 l1_0 l1_1 l2_0 a2_1)) = some r := H; have A11 := Aside0.mk A110; clear A110
  by_cases c12 : t166 = true
  ·subst c12
   have H1 : ((spec_WordOk.f k l1_0 l1_1 a0_0).bind fun t167 => (if t167 = true then ((spec_l1In.f (l2_0.length : Int) 2 6000).bind fun t168 => (if t168 = true then ((spec_l1In.f a2_1 0 (wrap64 ((wrap64 ((l2_0.length : Int) - 1)) - 1))).bind fun t169 => (if t169 = true then (if 0 < (l2_0.length : Int) then ((spec_l1Has.f a0_2 (rd l2_0 0)).bind fun t171 => (spec_RunOk.j0 k (wrap64 ((l2_0.length : Int) - 1)) (!t171) a0_0 a0_1 a0_2 l0_3 l1_0 l1_1 l2_0 a2_1)) else (none)) else (spec_RunOk.j0 k (wrap64 ((l2_0.length : Int) - 1)) true a0_0 a0_1 a0_2 l0_3 l1_0 l1_1 l2_0 a2_1))) else (spec_RunOk.j0 k (wrap64 ((l2_0.length : Int) - 1)) true a0_0 a0_1 a0_2 l0_3 l1_0 l1_1 l2_0 a2_1))) else (spec_RunOk.j0 k (wrap64 ((l2_0.length : Int) - 1)) true a0_0 a0_1 a0_2 l0_3 l1_0 l1_1 l2_0 a2_1))) = some r := by rw [if_pos rfl] at H; exact H
   clear H; have H := H1; clear H1; replace H := Option.bind_eq_some_iff.mp H; obtain ⟨t167, A130, H⟩ := H; replace H : (if t167 = true then ((spec_l1In.f (l2_0.length : Int) 2 6000).bind fun t168 => (if t168 = true then ((spec_l1In.f a2_1 0 (wrap64 ((wrap64 ((l2_0.length : Int) - 1)) - 1))).bind fun t169 => (if t169 = true then (if 0 < (l2_0.length : Int) then ((spec_l1Has.f a0_2 (rd l2_0 0)).bind fun t171 => (spec_RunOk.j0 k (wrap64 ((l2_0.length : Int) - 1)) (!t171) a0_0 a0_1 a0_2 l0_3 l1_0 l1_1 l2_0 a2_1)) else (none)) else (spec_RunOk.j0 k (wrap64 ((l2_0.length : Int) - 1)) true a0_0 a0_1 a0_2 l0_3 l1_0 l1_1 l2_0 a2_1))) else (spec_RunOk.j0 k (wrap64 ((l2_0.length : Int) - 1)) true a0_0 a0_1 a0_2 l0_3 l1_0 l1_1 l2_0 a2_1))) else (spec_RunOk.j0 k (wrap64 ((l2_0.length : Int) - 1)) true a0_0 a0_1 a0_2 l0_3 l1_0 l1_1 l2_0 a2_1)) = some r := H; have A13 := Aside0.mk A130; clear A130
   by_cases c14 : t167 = true
   ·subst c14
    have H1 : ((spec_l1In.f (l2_0.length : Int) 2 6000).bind fun t168 => (if t168 = true then ((spec_l1In.f a2_1 0 (wrap64 ((wrap64 ((l2_0.length : Int) - 1)) - 1))).bind fun t169 => (if t169 = true then (if 0 < (l2_0.length : Int) then ((spec_l1Has.f a0_2 (rd l2_0 0)).bind fun t171 => (spec_RunOk.j0 k (wrap64 ((l2_0.length : Int) - 1)) (!t171) a0_0 a0_1 a0_2 l0_3 l1_0 l1_1 l2_0 a2_1)) else (none)) else (spec_RunOk.j0 k (wrap64 ((l2_0.length : Int) - 1)) true a0_0 a0_1 a0_2 l0_3 l1_0 l1_1 l2_0 a2_1))) else (spec_RunOk.j0 k (wrap64 ((l2_0.length : Int) - 1)) true a0_0 a0_1 a0_2 l0_3 l1_0 l1_1 l2_0 a2_1))) = some r := by rw [if_pos rfl] at H; exact H
    clear H; have H := H1; clear H1; replace H := Option.bind_eq_some_iff.mp H; obtain ⟨t168, A150, H⟩ := H; replace H : (if t168 = true then ((spec_l1In.f a2_1 0 (wrap64 ((wrap64 ((l2_0.length : Int) - 1)) - 1))).bind fun t169 => (if t169 = true then (if 0 < (l2_0.length : Int) then ((spec_l1Has.f a0_2 (rd l2_0 0)).bind fun t171 => (spec_RunOk.j0 k (wrap64 ((l2_0.length : Int) - 1)) (!t171) a0_0 a0_1 a0_2 l0_3 l1_0 l1_1 l2_0 a2_1)) else (none)) else (spec_RunOk.j0 k (wrap64 ((l2_0.length : Int) - 1)) true a0_0 a0_1 a0_2 l0_3 l1_0 l1_1 l2_0 a2_1))) else (spec_RunOk.j0 k (wrap64 ((l2_0.length : Int) - 1)) true a0_0 a0_1 a0_2 l0_3 l1_0 l1_1 l2_0 a2_1)) = some r := H; have A15 := Aside0.mk A150; clear A150
    by_cases c16 : t168 = true
    ·subst c16
     have H1 : ((spec_l1In.f a2_1 0 (wrap64 ((wrap64 ((l2_0.length : Int) - 1)) - 1))).bind fun t169 => (if t169 = true then (if 0 < (l2_0.length : Int) then ((spec_l1Has.f a0_2 (rd l2_0 0)).bind fun t171 => (spec_RunOk.j0 k (wrap64 ((l2_0.length : Int) - 1)) (!t171) a0_0 a0_1 a0_2 l0_3 l1_0 l1_1 l2_0 a2_1)) else (none)) else (spec_RunOk.j0 k (wrap64 ((l2_0.length : Int) - 1)) true a0_0 a0_1 a0_2 l0_3 l1_0 l1_1 l2_0 a2_1))) = some r := by rw [if_pos rfl] at H; exact H
     clear H; have H := H1; clear H1; replace H := Option.bind_eq_some_iff.mp H; obtain ⟨t169, A170, H⟩ := H; replace H : (if t169 = true then (if 0 < (l2_0.length : Int) then ((spec_l1Has.f a0_2 (rd l2_0 0)).bind fun t171 => (spec_RunOk.j0 k (wrap64 ((l2_0.length : Int) - 1)) (!t171) a0_0 a0_1 a0_2 l0_3 l1_0 l1_1 l2_0 a2_1)) else (none)) else (spec_RunOk.j0 k (wrap64 ((l2_0.length : Int) - 1)) true a0_0 a0_1 a0_2 l0_3 l1_0 l1_1 l2_0 a2_1)) = some r := H; have A17 := Aside0.mk A170; clear A170
     by_cases c18 : t169 = true
     ·subst c18
      have H1 : (if 0 < (l2_0.length : Int) then ((spec_l1Has.f a0_2 (rd l2_0 0)).bind fun t171 => (spec_RunOk.j0 k (wrap64 ((l2_0.length : Int) - 1)) (!t171) a0_0 a0_1 a0_2 l0_3 l1_0 l1_1 l2_0 a2_1)) else (none)) = some r := by rw [if_pos rfl] at H; exact H
      clear H; have H := H1; clear H1
      by_cases c19 : 0 < (l2_0.length : Int)
      ·rw [if_pos c19] at H; have c19b0 : decide (0 < (l2_0.length : Int)) = true := decide_eq_true c19; have c19b1 : decide (0 < l2_0.length) = true := decide_eq_true (by omega); clear c19
       (first | rw [c19b0] | (simp only [i64_w, i32_w]; rw [c19b0]) | skip)
       replace H := Option.bind_eq_some_iff.mp H; obtain ⟨t171, A200, H⟩ := H; replace H : (spec_RunOk.j0 k (wrap64 ((l2_0.length : Int) - 1)) (!t171) a0_0 a0_1 a0_2 l0_3 l1_0 l1_1 l2_0 a2_1) = some r := H; have A20 := Aside0.mk A200; clear A200; have H' := Aside0.mk H; clear H
       try go_wp2
       replace BK163 := Aside0.mk (blk_drew BK163.out); replace BK164 := Aside0.mk (blk_drew BK164.out); replace BK165 := Aside0.mk (blk_drew BK165.out); replace HB := Aside0.mk (below_drew1 HB.out); have p170 : 0 ≤ (0 : Int) := (by omega); have q170 : 0 < (l2_0.length : Int) := oD; obtain ⟨ad170, e170, hx170_0⟩ := Kd.at_int HR2_0.out 0 p170 q170; have hw170_0 := hx170_0
       (try rw [show ((0 : Int)).toNat = 0 from rfl] at hw170_0)
       (try rw [show 0 * 1 = 0 from rfl] at hw170_0)
       (try rw [Addr.add_zero'] at hw170_0)
       cases e170
       have qi170 : (0 < l2_0.length) = True := eq_true (by omega)
       (try rw [show ((0 : Int)).toNat = 0 from rfl] at hx170_0)
       (try rw [Addr.add_zero'] at hx170_0)
       replace hx170_0 := cT HB hx170_0; replace p170 := eq_true p170; replace q170 := eq_true q170; refine start_ (n := 35) (S := fun w' => w'.cell? ⟨gb163, 0, none⟩ = some (.int .i64 a0_0) ∧ w'.cell? ⟨gb163, 1, none⟩ = some (.int .i64 a0_1) ∧ w'.cell? ⟨gb163, 2, none⟩ = some (.int .i64 a0_2) ∧ w'.cell? ⟨gb163, 3, none⟩ = some (.slice A0_3 l0_3.length c0_3) ∧ w'.cell? ⟨gb164, 0, none⟩ = some (.slice A1_0 l1_0.length c1_0) ∧ w'.cell? ⟨gb164, 1, none⟩ = some (.slice A1_1 l1_1.length c1_1) ∧ w'.cell? ⟨gb165, 0, none⟩ = some (.slice (some ad170) l2_0.length c2_0) ∧ w'.cell? ⟨gb165, 1, none⟩ = some (.int .i64 a2_1) ∧ w'.cell? ad170 = some (.int .i64 (rd l2_0 0))) (ds := []) bl0 (by kernel_rfl) rfl rfl ⟨b1 BK163 0, b1 BK163 1, b1 BK163 2, b1 BK163 3, b1 BK164 0, b1 BK164 1, b1 BK165 0, b1 BK165 1, ((HB.out.cell (World.block_lt_of_cell? w _ hw170_0)).trans hw170_0)⟩ (fun hHeld => ?_); refine with_tabW spec_RunOk.tab2 spec_RunOk.bits2 (fun HT_ HW_ => ?_); generalize w7.drew = w21 at BK163 BK164 BK165 HB hx170_0 hHeld ⊢; refine take_ (i := 0) (N := some 17) (v := ?_) (a' := ?_) bl1 rfl rfl (take_ofW HT_.out HW_.out (by kernel_rfl)) (fun _ _ _ h => h) (Or.inl ⟨by rfl, ?_⟩) hHeld ?_ ?_; rotate_left
       ·rintro w' ⟨s0, s1, s2, s3, s4, s5, s6, s7, s8⟩; go_simp; with_reducible rfl
       rotate_left
       ·simp only [Act.put, q5]; rfl
       refine one_ (i := 1) (N := some 18) bl2 rfl rfl (one_of HT_.out (by kernel_rfl)) (by decide) (fun K hK => ?_); refine goes_ Try.func20 (by kernel_rfl) rfl #[.agg #[.int .i64 a0_0, .int .i64 a0_1, .int .i64 a0_2, .slice A0_3 l0_3.length c0_3]] (by rfl) rfl rfl (by (try simp only [m3]); first | done | rfl | (simp only [d2]; rfl)) ?_
       with_reducible refine (spec_AutoOk.calls k a0_0 a0_1 a0_2 _ _ l0_3 true _ ?side1 ?side2 A11.out).mono ?_
       (case side1 => exact zC (Kd.C_below HR0_3.out HB.out))
       (case side2 => exact HC0_3.out)
       rintro e w22 ⟨rfl, hb⟩; refine ⟨_, rfl, ?_⟩; replace BK163 := xB BK163 hb; replace BK164 := xB BK164 hb; replace BK165 := xB BK165 hb; replace HB := xS HB hb
       (try clear hb)
       (try clear hb2)
       (try clear hk)
       (try clear hi)
       refine hK.out _ _ ⟨b1 BK163 0, b1 BK163 1, b1 BK163 2, b1 BK163 3, b1 BK164 0, b1 BK164 1, b1 BK165 0, b1 BK165 1, ((HB.out.cell (World.block_lt_of_cell? w _ hw170_0)).trans hw170_0)⟩ (fun hHeld => ?_); clear hK K; refine norm_ (a' := ?_) ?_ ?_; rotate_left
       ·show Act.put _ (some 18) _ = _; simp only [Act.put, q5]; rfl
       refine pu 2 (some 19) bl3 HT_ ?_ rfl rfl (.inl ⟨by rfl, ?_⟩) ?_ ?_ ?_; rotate_left; (intro w'; go_simp; with_reducible rfl); rotate_left; (simp only [Act.put, q5]; rfl)
       refine pu 3 (some 20) bl4 HT_ ?_ rfl rfl (.inl ⟨by rfl, ?_⟩) ?_ ?_ ?_; rotate_left; (intro w'; go_simp; with_reducible rfl); rotate_left; (simp only [Act.put, q5]; rfl)
       refine pu 5 (some 22) bl5 HT_ ?_ rfl rfl (.inl ⟨by rfl, ?_⟩) ?_ ?_ ?_; rotate_left; (intro w'; go_simp; with_reducible rfl); rotate_left; (simp only [Act.put, q5]; rfl)
       refine take_ (i := 4) (N := some 21) (v := ?_) (a' := ?_) bl6 rfl rfl (take_ofW HT_.out HW_.out (by kernel_rfl)) (fun _ _ _ h => h) (Or.inl ⟨by rfl, ?_⟩) hHeld ?_ ?_; rotate_left
       ·rintro w' ⟨s0, s1, s2, s3, s4, s5, s6, s7, s8⟩; go_simp; with_reducible rfl
       rotate_left
       ·simp only [Act.put, q5]; rfl
       refine take_ (i := 6) (N := some 23) (v := ?_) (a' := ?_) bl7 rfl rfl (take_ofW HT_.out HW_.out (by kernel_rfl)) (fun _ _ _ h => h) (Or.inl ⟨by rfl, ?_⟩) hHeld ?_ ?_; rotate_left
       ·rintro w' ⟨s0, s1, s2, s3, s4, s5, s6, s7, s8⟩; go_simp; with_reducible rfl
       rotate_left
       ·simp only [Act.put, q5]; rfl
       refine one_ (i := 7) (N := some 24) bl8 rfl rfl (one_of HT_.out (by kernel_rfl)) (by decide) (fun K hK => ?_); refine goes_ Try.func95 (by kernel_rfl) rfl #[.agg #[.slice A1_0 l1_0.length c1_0, .slice A1_1 l1_1.length c1_1], .int .i64 a0_0] (by rfl) rfl rfl (by (try simp only [m3]); first | done | rfl | (simp only [d2]; rfl)) ?_
       with_reducible refine (spec_WordOk.calls k _ _ l1_0 _ _ l1_1 a0_0 true _ ?side1 ?side2 ?side3 ?side4 A13.out).mono ?_
       (case side1 => exact zC (Kd.C_below HR1_0.out HB.out))
       (case side2 => exact HC1_0.out)
       (case side3 => exact zC (Kd.C_below HR1_1.out HB.out))
       (case side4 => exact HC1_1.out)
       rintro e w23 ⟨rfl, hb⟩; refine ⟨_, rfl, ?_⟩; replace BK163 := xB BK163 hb; replace BK164 := xB BK164 hb; replace BK165 := xB BK165 hb; replace HB := xS HB hb
       (try clear hb)
       (try clear hb2)
       (try clear hk)
       (try clear hi)
       refine hK.out _ _ ⟨b1 BK163 0, b1 BK163 1, b1 BK163 2, b1 BK163 3, b1 BK164 0, b1 BK164 1, b1 BK165 0, b1 BK165 1, ((HB.out.cell (World.block_lt_of_cell? w _ hw170_0)).trans hw170_0)⟩ (fun hHeld => ?_); clear hK K; refine norm_ (a' := ?_) ?_ ?_; rotate_left
       ·show Act.put _ (some 24) _ = _; simp only [Act.put, q5]; rfl
       refine pu 8 (some 25) bl9 HT_ ?_ rfl rfl (.inl ⟨by rfl, ?_⟩) ?_ ?_ ?_; rotate_left; (intro w'; go_simp; with_reducible rfl); rotate_left; (simp only [Act.put, q5]; rfl)
       refine pu 9 (some 26) bl10 HT_ ?_ rfl rfl (.inl ⟨by rfl, ?_⟩) ?_ ?_ ?_; rotate_left; (intro w'; go_simp; with_reducible rfl); rotate_left; (simp only [Act.put, q5]; rfl)
       refine pu 10 (some 27) bl11 HT_ ?_ rfl rfl (.inl ⟨by rfl, ?_⟩) ?_ ?_ ?_; rotate_left; (intro w'; go_simp; with_reducible rfl); rotate_left; (simp only [Act.put, q5]; rfl)
       refine pu 11 (some 28) bl12 HT_ ?_ rfl rfl (.inl ⟨by rfl, ?_⟩) ?_ ?_ ?_; rotate_left; (intro w'; go_simp; with_reducible rfl); rotate_left; (simp only [Act.put, q5]; rfl)
       refine take_ (i := 12) (N := some 29) (v := ?_) (a' := ?_) bl13 rfl rfl (take_ofW HT_.out HW_.out (by kernel_rfl)) (fun _ _ _ h => h) (Or.inl ⟨by rfl, ?_⟩) hHeld ?_ ?_; rotate_left
       ·rintro w' ⟨s0, s1, s2, s3, s4, s5, s6, s7, s8⟩; go_simp; with_reducible rfl
       rotate_left
       ·simp only [Act.put, q5]; rfl
       refine pu 13 (some 30) bl14 HT_ ?_ rfl rfl (.inl ⟨by rfl, ?_⟩) ?_ ?_ ?_; rotate_left; (intro w'; go_simp; with_reducible rfl); rotate_left; (simp only [Act.put, q5]; rfl)
       refine one_ (i := 14) (N := some 31) bl15 rfl rfl (one_of HT_.out (by kernel_rfl)) (by decide) (fun K hK => ?_); refine goes_ Try.func58 (by kernel_rfl) rfl #[.int .i64 (l2_0.length : Int), .int .i64 2, .int .i64 6000] (by rfl) rfl rfl (by (try simp only [m3]); first | done | rfl | (simp only [d2]; rfl)) ?_
       with_reducible refine (spec_l1In.calls (l2_0.length : Int) 2 6000 true _ A15.out).mono ?_
       rintro e w' ⟨rfl, ⟨nd, rfl⟩⟩; refine ⟨_, rfl, ?_⟩; refine hK.out _ _ ⟨b1 BK163 0, b1 BK163 1, b1 BK163 2, b1 BK163 3, b1 BK164 0, b1 BK164 1, b1 BK165 0, b1 BK165 1, ((HB.out.cell (World.block_lt_of_cell? w _ hw170_0)).trans hw170_0)⟩ (fun hHeld => ?_); clear hK K; refine norm_ (a' := ?_) ?_ ?_; rotate_left
       ·show Act.put _ (some 31) _ = _; simp only [Act.put, q5]; rfl
       refine pu 15 (some 32) bl16 HT_ ?_ rfl rfl (.inl ⟨by rfl, ?_⟩) ?_ ?_ ?_; rotate_left; (intro w'; go_simp; with_reducible rfl); rotate_left; (simp only [Act.put, q5]; rfl)
       refine pu 16 (some 33) bl17 HT_ ?_ rfl rfl (.inl ⟨by rfl, ?_⟩) ?_ ?_ ?_; rotate_left; (intro w'; go_simp; with_reducible rfl); rotate_left; (simp only [Act.put, q5]; rfl)
       refine pu 17 (some 34) bl18 HT_ ?_ rfl rfl (.inl ⟨by rfl, ?_⟩) ?_ ?_ ?_; rotate_left; (intro w'; go_simp; with_reducible rfl); rotate_left; (simp only [Act.put, q5]; rfl)
       refine pu 18 (some 35) bl19 HT_ ?_ rfl rfl (.inl ⟨by rfl, ?_⟩) ?_ ?_ ?_; rotate_left; (intro w'; go_simp; with_reducible rfl); rotate_left; (simp only [Act.put, q5]; rfl)
       refine pu 20 (some 37) bl20 HT_ ?_ rfl rfl (.inl ⟨by rfl, ?_⟩) ?_ ?_ ?_; rotate_left; (intro w'; go_simp; with_reducible rfl); rotate_left; (simp only [Act.put, q5]; rfl)
       refine pu 21 (some 38) bl21 HT_ ?_ rfl rfl (.inl ⟨by rfl, ?_⟩) ?_ ?_ ?_; rotate_left; (intro w'; go_simp; with_reducible rfl); rotate_left; (simp only [Act.put, q5]; rfl)
       refine take_ (i := 19) (N := some 36) (v := ?_) (a' := ?_) bl22 rfl rfl (take_ofW HT_.out HW_.out (by kernel_rfl)) (fun _ _ _ h => h) (Or.inl ⟨by rfl, ?_⟩) hHeld ?_ ?_; rotate_left
       ·rintro w' ⟨s0, s1, s2, s3, s4, s5, s6, s7, s8⟩; go_simp; with_reducible rfl
       rotate_left
       ·simp only [Act.put, q5]; rfl
       refine one_ (i := 22) (N := some 39) bl23 rfl rfl (one_of HT_.out (by kernel_rfl)) (by decide) (fun K hK => ?_); refine goes_ Try.func58 (by kernel_rfl) rfl #[.int .i64 a2_1, .int .i64 0, .int .i64 (wrap64 ((wrap64 ((l2_0.length : Int) - 1)) - 1))] (by rfl) rfl rfl (by (try simp only [m3]); first | done | rfl | (simp only [d2]; rfl)) ?_
       with_reducible refine (spec_l1In.calls a2_1 0 (wrap64 ((wrap64 ((l2_0.length : Int) - 1)) - 1)) true _ A17.out).mono ?_
       rintro e w' ⟨rfl, ⟨nd, rfl⟩⟩; refine ⟨_, rfl, ?_⟩; refine hK.out _ _ ⟨b1 BK163 0, b1 BK163 1, b1 BK163 2, b1 BK163 3, b1 BK164 0, b1 BK164 1, b1 BK165 0, b1 BK165 1, ((HB.out.cell (World.block_lt_of_cell? w _ hw170_0)).trans hw170_0)⟩ (fun hHeld => ?_); clear hK K; refine norm_ (a' := ?_) ?_ ?_; rotate_left
       ·show Act.put _ (some 39) _ = _; simp only [Act.put, q5]; rfl
       refine pu 23 (some 40) bl24 HT_ ?_ rfl rfl (.inl ⟨by rfl, ?_⟩) ?_ ?_ ?_; rotate_left; (intro w'; go_simp; with_reducible rfl); rotate_left; (simp only [Act.put, q5]; rfl)
       refine pu 24 (some 41) bl25 HT_ ?_ rfl rfl (.inl ⟨by rfl, ?_⟩) ?_ ?_ ?_; rotate_left; (intro w'; go_simp; with_reducible rfl); rotate_left; (simp only [Act.put, q5]; rfl)
       refine pu 25 (some 42) bl26 HT_ ?_ rfl rfl (.inl ⟨by rfl, ?_⟩) ?_ ?_ ?_; rotate_left; (intro w'; go_simp; with_reducible rfl); rotate_left; (simp only [Act.put, q5]; rfl)
       refine pu 26 (some 43) bl27 HT_ ?_ rfl rfl (.inl ⟨by rfl, ?_⟩) ?_ ?_ ?_; rotate_left; (intro w'; go_simp; with_reducible rfl); rotate_left; (simp only [Act.put, q5]; rfl)
       refine pu 28 (some 45) bl28 HT_ ?_ rfl rfl (.inl ⟨by rfl, ?_⟩) ?_ ?_ ?_; rotate_left; (intro w'; go_simp; with_reducible rfl); rotate_left; (simp only [Act.put, q5]; rfl)
       refine take_ (i := 27) (N := some 44) (v := ?_) (a' := ?_) bl29 rfl rfl (take_ofW HT_.out HW_.out (by kernel_rfl)) (fun _ _ _ h => h) (Or.inl ⟨by rfl, ?_⟩) hHeld ?_ ?_; rotate_left
       ·rintro w' ⟨s0, s1, s2, s3, s4, s5, s6, s7, s8⟩; go_simp; with_reducible rfl
       rotate_left
       ·simp only [Act.put, q5]; rfl
       refine take_ (i := 29) (N := some 46) (v := ?_) (a' := ?_) bl30 rfl rfl (take_ofW HT_.out HW_.out (by kernel_rfl)) (fun _ _ _ h => h) (Or.inl ⟨by rfl, ?_⟩) hHeld ?_ ?_; rotate_left
       ·rintro w' ⟨s0, s1, s2, s3, s4, s5, s6, s7, s8⟩; go_simp; with_reducible rfl
       rotate_left
       ·simp only [Act.put, q5]; rfl
       refine pu 30 (some 47) bl31 HT_ ?_ rfl rfl (.inl ⟨by rfl, ?_⟩) ?_ ?_ ?_; rotate_left; (intro w'; go_simp; with_reducible rfl); rotate_left; (simp only [Act.put, q5]; rfl)
       refine take_ (i := 31) (N := some 48) (v := ?_) (a' := ?_) bl32 rfl rfl (take_ofW HT_.out HW_.out (by kernel_rfl)) (fun _ _ _ h => h) (Or.inl ⟨by rfl, ?_⟩) hHeld ?_ ?_; rotate_left
       ·rintro w' ⟨s0, s1, s2, s3, s4, s5, s6, s7, s8⟩; go_simp; with_reducible rfl
       rotate_left
       ·simp only [Act.put, q5]; rfl
       refine one_ (i := 32) (N := some 49) bl33 rfl rfl (one_of HT_.out (by kernel_rfl)) (by decide) (fun K hK => ?_); refine goes_ Try.func96 (by kernel_rfl) rfl #[.int .i64 a0_2, .int .i64 (rd l2_0 0)] (by rfl) rfl rfl (by (try simp only [m3]); first | done | rfl | (simp only [d2]; rfl)) ?_
       with_reducible refine (spec_l1Has.calls a0_2 (rd l2_0 0) t171 _ A20.out).mono ?_
       rintro e w' ⟨rfl, ⟨nd, rfl⟩⟩; refine ⟨_, rfl, ?_⟩; refine hK.out _ _ ⟨b1 BK163 0, b1 BK163 1, b1 BK163 2, b1 BK163 3, b1 BK164 0, b1 BK164 1, b1 BK165 0, b1 BK165 1, ((HB.out.cell (World.block_lt_of_cell? w _ hw170_0)).trans hw170_0)⟩ (fun hHeld => ?_); clear hK K; refine norm_ (a' := ?_) ?_ ?_; rotate_left
       ·show Act.put _ (some 49) _ = _; simp only [Act.put, q5]; rfl
       refine pu 33 (some 50) bl34 HT_ ?_ rfl rfl (.inl ⟨by rfl, ?_⟩) ?_ ?_ ?_; rotate_left; (intro w'; go_simp; with_reducible rfl); rotate_left; (simp only [Act.put, q5]; rfl)
       refine pu 34 (some 51) bl35 HT_ ?_ rfl rfl (.inl ⟨by rfl, ?_⟩) ?_ ?_ ?_; rotate_left; (intro w'; go_simp; with_reducible rfl); rotate_left; (simp only [Act.put, q5]; rfl)
       refine done_ (done_of HT_.out (by kernel_rfl)) ?_
       try go_wp2
       go_meet
       case rel => exact ⟨_, (!t171), (by first | rfl | (simp; done) | (simp [*]; done) | (rw [Int.tmod_eq_emod_of_nonneg (Int.natCast_nonneg _)]; done)), H', ⟨by first | omega | exact Nat.le_refl _⟩, ⟨zB BK163.out⟩, ⟨zB BK164.out⟩, ⟨zB BK165.out⟩, ⟨zS HB.out⟩⟩
      ·rw [if_neg c19] at H; exact absurd H (by simp)
     ·replace c18 := Bool.eq_false_iff.mpr c18; subst c18
      have H1 : (spec_RunOk.j0 k (wrap64 ((l2_0.length : Int) - 1)) true a0_0 a0_1 a0_2 l0_3 l1_0 l1_1 l2_0 a2_1) = some r := by rw [if_neg (show ¬ (false = true) by decide)] at H; exact H
      clear H; have H := H1; clear H1; have H' := Aside0.mk H; clear H
      try go_wp2
      replace BK163 := Aside0.mk (blk_drew BK163.out); replace BK164 := Aside0.mk (blk_drew BK164.out); replace BK165 := Aside0.mk (blk_drew BK165.out); replace HB := Aside0.mk (below_drew1 HB.out); refine start_ (n := 35) (S := fun w' => w'.cell? ⟨gb163, 0, none⟩ = some (.int .i64 a0_0) ∧ w'.cell? ⟨gb163, 1, none⟩ = some (.int .i64 a0_1) ∧ w'.cell? ⟨gb163, 2, none⟩ = some (.int .i64 a0_2) ∧ w'.cell? ⟨gb163, 3, none⟩ = some (.slice A0_3 l0_3.length c0_3) ∧ w'.cell? ⟨gb164, 0, none⟩ = some (.slice A1_0 l1_0.length c1_0) ∧ w'.cell? ⟨gb164, 1, none⟩ = some (.slice A1_1 l1_1.length c1_1) ∧ w'.cell? ⟨gb165, 0, none⟩ = some (.slice A2_0 l2_0.length c2_0) ∧ w'.cell? ⟨gb165, 1, none⟩ = some (.int .i64 a2_1)) (ds := []) bl0 (by kernel_rfl) rfl rfl ⟨b1 BK163 0, b1 BK163 1, b1 BK163 2, b1 BK163 3, b1 BK164 0, b1 BK164 1, b1 BK165 0, b1 BK165 1⟩ (fun hHeld => ?_); refine with_tabW spec_RunOk.tab2 spec_RunOk.bits2 (fun HT_ HW_ => ?_); generalize w7.drew = w24 at BK163 BK164 BK165 HB hHeld ⊢; refine take_ (i := 0) (N := some 17) (v := ?_) (a' := ?_) bl1 rfl rfl (take_ofW HT_.out HW_.out (by kernel_rfl)) (fun _ _ _ h => h) (Or.inl ⟨by rfl, ?_⟩) hHeld ?_ ?_; rotate_left
      ·rintro w' ⟨s0, s1, s2, s3, s4, s5, s6, s7⟩; go_simp; with_reducible rfl
      rotate_left
      ·simp only [Act.put, q5]; rfl
      refine one_ (i := 1) (N := some 18) bl2 rfl rfl (one_of HT_.out (by kernel_rfl)) (by decide) (fun K hK => ?_); refine goes_ Try.func20 (by kernel_rfl) rfl #[.agg #[.int .i64 a0_0, .int .i64 a0_1, .int .i64 a0_2, .slice A0_3 l0_3.length c0_3]] (by rfl) rfl rfl (by (try simp only [m3]); first | done | rfl | (simp only [d2]; rfl)) ?_
      with_reducible refine (spec_AutoOk.calls k a0_0 a0_1 a0_2 _ _ l0_3 true _ ?side1 ?side2 A11.out).mono ?_
      (case side1 => exact zC (Kd.C_below HR0_3.out HB.out))
      (case side2 => exact HC0_3.out)
      rintro e w25 ⟨rfl, hb⟩; refine ⟨_, rfl, ?_⟩; replace BK163 := xB BK163 hb; replace BK164 := xB BK164 hb; replace BK165 := xB BK165 hb; replace HB := xS HB hb
      (try clear hb)
      (try clear hb2)
      (try clear hk)
      (try clear hi)
      refine hK.out _ _ ⟨b1 BK163 0, b1 BK163 1, b1 BK163 2, b1 BK163 3, b1 BK164 0, b1 BK164 1, b1 BK165 0, b1 BK165 1⟩ (fun hHeld => ?_); clear hK K; refine norm_ (a' := ?_) ?_ ?_; rotate_left
      ·show Act.put _ (some 18) _ = _; simp only [Act.put, q5]; rfl
      refine pu 2 (some 19) bl3 HT_ ?_ rfl rfl (.inl ⟨by rfl, ?_⟩) ?_ ?_ ?_; rotate_left; (intro w'; go_simp; with_reducible rfl); rotate_left; (simp only [Act.put, q5]; rfl)
      refine pu 3 (some 20) bl4 HT_ ?_ rfl rfl (.inl ⟨by rfl, ?_⟩) ?_ ?_ ?_; rotate_left; (intro w'; go_simp; with_reducible rfl); rotate_left; (simp only [Act.put, q5]; rfl)
      refine pu 5 (some 22) bl5 HT_ ?_ rfl rfl (.inl ⟨by rfl, ?_⟩) ?_ ?_ ?_; rotate_left; (intro w'; go_simp; with_reducible rfl); rotate_left; (simp only [Act.put, q5]; rfl)
      refine take_ (i := 4) (N := some 21) (v := ?_) (a' := ?_) bl6 rfl rfl (take_ofW HT_.out HW_.out (by kernel_rfl)) (fun _ _ _ h => h) (Or.inl ⟨by rfl, ?_⟩) hHeld ?_ ?_; rotate_left
      ·rintro w' ⟨s0, s1, s2, s3, s4, s5, s6, s7⟩; go_simp; with_reducible rfl
      rotate_left
      ·simp only [Act.put, q5]; rfl
      refine take_ (i := 6) (N := some 23) (v := ?_) (a' := ?_) bl7 rfl rfl (take_ofW HT_.out HW_.out (by kernel_rfl)) (fun _ _ _ h => h) (Or.inl ⟨by rfl, ?_⟩) hHeld ?_ ?_; rotate_left
      ·rintro w' ⟨s0, s1, s2, s3, s4, s5, s6, s7⟩; go_simp; with_reducible rfl
      rotate_left
      ·simp only [Act.put, q5]; rfl
      refine one_ (i := 7) (N := some 24) bl8 rfl rfl (one_of HT_.out (by kernel_rfl)) (by decide) (fun K hK => ?_); refine goes_ Try.func95 (by kernel_rfl) rfl #[.agg #[.slice A1_0 l1_0.length c1_0, .slice A1_1 l1_1.length c1_1], .int .i64 a0_0] (by rfl) rfl rfl (by (try simp only [m3]); first | done | rfl | (simp only [d2]; rfl)) ?_
      with_reducible refine (spec_WordOk.calls k _ _ l1_0 _ _ l1_1 a0_0 true _ ?side1 ?side2 ?side3 ?side4 A13.out).mono ?_
      (case side1 => exact zC (Kd.C_below HR1_0.out HB.out))
      (case side2 => exact HC1_0.out)
      (case side3 => exact zC (Kd.C_below HR1_1.out HB.out))
      (case side4 => exact HC1_1.out)
      rintro e w26 ⟨rfl, hb⟩; refine ⟨_, rfl, ?_⟩; replace BK163 := xB BK163 hb; replace BK164 := xB BK164 hb; replace BK165 := xB BK165 hb; replace HB := xS HB hb
      (try clear hb)
      (try clear hb2)
      (try clear hk)
      (try clear hi)
      refine hK.out _ _ ⟨b1 BK163 0, b1 BK163 1, b1 BK163 2, b1 BK163 3, b1 BK164 0, b1 BK164 1, b1 BK165 0, b1 BK165 1⟩ (fun hHeld => ?_); clear hK K; refine norm_ (a' := ?_) ?_ ?_; rotate_left
      ·show Act.put _ (some 24) _ = _; simp only [Act.put, q5]; rfl
      refine pu 8 (some 25) bl9 HT_ ?_ rfl rfl (.inl ⟨by rfl, ?_⟩) ?_ ?_ ?_; rotate_left; (intro w'; go_simp; with_reducible rfl); rotate_left; (simp only [Act.put, q5]; rfl)
      refine pu 9 (some 26) bl10 HT_ ?_ rfl rfl (.inl ⟨by rfl, ?_⟩) ?_ ?_ ?_; rotate_left; (intro w'; go_simp; with_reducible rfl); rotate_left; (simp only [Act.put, q5]; rfl)
      refine pu 10 (some 27) bl11 HT_ ?_ rfl rfl (.inl ⟨by rfl, ?_⟩) ?_ ?_ ?_; rotate_left; (intro w'; go_simp; with_reducible rfl); rotate_left; (simp only [Act.put, q5]; rfl)
      refine pu 11 (some 28) bl12 HT_ ?_ rfl rfl (.inl ⟨by rfl, ?_⟩) ?_ ?_ ?_; rotate_left; (intro w'; go_simp; with_reducible rfl); rotate_left; (simp only [Act.put, q5]; rfl)
      refine take_ (i := 12) (N := some 29) (v := ?_) (a' := ?_) bl13 rfl rfl (take_ofW HT_.out HW_.out (by kernel_rfl)) (fun _ _ _ h => h) (Or.inl ⟨by rfl, ?_⟩) hHeld ?_ ?_; rotate_left
      ·rintro w' ⟨s0, s1, s2, s3, s4, s5, s6, s7⟩; go_simp; with_reducible rfl
      rotate_left
      ·simp only [Act.put, q5]; rfl
      refine pu 13 (some 30) bl14 HT_ ?_ rfl rfl (.inl ⟨by rfl, ?_⟩) ?_ ?_ ?_; rotate_left; (intro w'; go_simp; with_reducible rfl); rotate_left; (simp only [Act.put, q5]; rfl)
      refine one_ (i := 14) (N := some 31) bl15 rfl rfl (one_of HT_.out (by kernel_rfl)) (by decide) (fun K hK => ?_); refine goes_ Try.func58 (by kernel_rfl) rfl #[.int .i64 (l2_0.length : Int), .int .i64 2, .int .i64 6000] (by rfl) rfl rfl (by (try simp only [m3]); first | done | rfl | (simp only [d2]; rfl)) ?_
      with_reducible refine (spec_l1In.calls (l2_0.length : Int) 2 6000 true _ A15.out).mono ?_
      rintro e w' ⟨rfl, ⟨nd, rfl⟩⟩; refine ⟨_, rfl, ?_⟩; refine hK.out _ _ ⟨b1 BK163 0, b1 BK163 1, b1 BK163 2, b1 BK163 3, b1 BK164 0, b1 BK164 1, b1 BK165 0, b1 BK165 1⟩ (fun hHeld => ?_); clear hK K; refine norm_ (a' := ?_) ?_ ?_; rotate_left
      ·show Act.put _ (some 31) _ = _; simp only [Act.put, q5]; rfl
      refine pu 15 (some 32) bl16 HT_ ?_ rfl rfl (.inl ⟨by rfl, ?_⟩) ?_ ?_ ?_; rotate_left; (intro w'; go_simp; with_reducible rfl); rotate_left; (simp only [Act.put, q5]; rfl)
      refine pu 16 (some 33) bl17 HT_ ?_ rfl rfl (.inl ⟨by rfl, ?_⟩) ?_ ?_ ?_; rotate_left; (intro w'; go_simp; with_reducible rfl); rotate_left; (simp only [Act.put, q5]; rfl)
      refine pu 17 (some 34) bl18 HT_ ?_ rfl rfl (.inl ⟨by rfl, ?_⟩) ?_ ?_ ?_; rotate_left; (intro w'; go_simp; with_reducible rfl); rotate_left; (simp only [Act.put, q5]; rfl)
      refine pu 18 (some 35) bl19 HT_ ?_ rfl rfl (.inl ⟨by rfl, ?_⟩) ?_ ?_ ?_; rotate_left; (intro w'; go_simp; with_reducible rfl); rotate_left; (simp only [Act.put, q5]; rfl)
      refine pu 20 (some 37) bl20 HT_ ?_ rfl rfl (.inl ⟨by rfl, ?_⟩) ?_ ?_ ?_; rotate_left; (intro w'; go_simp; with_reducible rfl); rotate_left; (simp only [Act.put, q5]; rfl)
      refine pu 21 (some 38) bl21 HT_ ?_ rfl rfl (.inl ⟨by rfl, ?_⟩) ?_ ?_ ?_; rotate_left; (intro w'; go_simp; with_reducible rfl); rotate_left; (simp only [Act.put, q5]; rfl)
      refine take_ (i := 19) (N := some 36) (v := ?_) (a' := ?_) bl22 rfl rfl (take_ofW HT_.out HW_.out (by kernel_rfl)) (fun _ _ _ h => h) (Or.inl ⟨by rfl, ?_⟩) hHeld ?_ ?_; rotate_left
      ·rintro w' ⟨s0, s1, s2, s3, s4, s5, s6, s7⟩; go_simp; with_reducible rfl
      rotate_left
      ·simp only [Act.put, q5]; rfl
      refine one_ (i := 22) (N := some 39) bl23 rfl rfl (one_of HT_.out (by kernel_rfl)) (by decide) (fun K hK => ?_); refine goes_ Try.func58 (by kernel_rfl) rfl #[.int .i64 a2_1, .int .i64 0, .int .i64 (wrap64 ((wrap64 ((l2_0.length : Int) - 1)) - 1))] (by rfl) rfl rfl (by (try simp only [m3]); first | done | rfl | (simp only [d2]; rfl)) ?_
      with_reducible refine (spec_l1In.calls a2_1 0 (wrap64 ((wrap64 ((l2_0.length : Int) - 1)) - 1)) false _ A17.out).mono ?_
      rintro e w' ⟨rfl, ⟨nd, rfl⟩⟩; refine ⟨_, rfl, ?_⟩; refine hK.out _ _ ⟨b1 BK163 0, b1 BK163 1, b1 BK163 2, b1 BK163 3, b1 BK164 0, b1 BK164 1, b1 BK165 0, b1 BK165 1⟩ (fun hHeld => ?_); clear hK K; refine norm_ (a' := ?_) ?_ ?_; rotate_left
      ·show Act.put _ (some 39) _ = _; simp only [Act.put, q5]; rfl
      refine pu 23 (some 40) bl24 HT_ ?_ rfl rfl (.inl ⟨by rfl, ?_⟩) ?_ ?_ ?_; rotate_left; (intro w'; go_simp; with_reducible rfl); rotate_left; (simp only [Act.put, q5]; rfl)
      refine pu 24 (some 41) bl25 HT_ ?_ rfl rfl (.inl ⟨by rfl, ?_⟩) ?_ ?_ ?_; rotate_left; (intro w'; go_simp; with_reducible rfl); rotate_left; (simp only [Act.put, q5]; rfl)
      refine pu 25 (some 42) bl26 HT_ ?_ rfl rfl (.inl ⟨by rfl, ?_⟩) ?_ ?_ ?_; rotate_left; (intro w'; go_simp; with_reducible rfl); rotate_left; (simp only [Act.put, q5]; rfl)
      refine pu 26 (some 43) bl27 HT_ undef rfl rfl (.inr ⟨by rfl, rfl⟩) ?_ ?_ ?_; rotate_left; (simp only [Act.put, q5]; rfl)
      refine pu 27 (some 44) bl36 HT_ undef rfl rfl (.inr ⟨by rfl, rfl⟩) ?_ ?_ ?_; rotate_left; (simp only [Act.put, q5]; rfl)
      refine pu 28 (some 45) bl29 HT_ undef rfl rfl (.inr ⟨by rfl, rfl⟩) ?_ ?_ ?_; rotate_left; (simp only [Act.put, q5]; rfl)
      refine pu 29 (some 46) bl30 HT_ undef rfl rfl (.inr ⟨by rfl, rfl⟩) ?_ ?_ ?_; rotate_left; (simp only [Act.put, q5]; rfl)
      refine pu 30 (some 47) bl31 HT_ undef rfl rfl (.inr ⟨by rfl, rfl⟩) ?_ ?_ ?_; rotate_left; (simp only [Act.put, q5]; rfl)
      refine pu 31 (some 48) bl32 HT_ undef rfl rfl (.inr ⟨by rfl, rfl⟩) ?_ ?_ ?_; rotate_left; (simp only [Act.put, q5]; rfl)
      refine pu 32 (some 49) bl33 HT_ undef rfl rfl (.inr ⟨by rfl, rfl⟩) ?_ ?_ ?_; rotate_left; (simp only [Act.put, q5]; rfl)
      refine pu 33 (some 50) bl34 HT_ undef rfl rfl (.inr ⟨by rfl, rfl⟩) ?_ ?_ ?_; rotate_left; (simp only [Act.put, q5]; rfl)
      refine pu 34 (some 51) bl35 HT_ ?_ rfl rfl (.inl ⟨by rfl, ?_⟩) ?_ ?_ ?_; rotate_left; (intro w'; go_simp; with_reducible rfl); rotate_left; (simp only [Act.put, q5]; rfl)
      refine done_ (done_of HT_.out (by kernel_rfl)) ?_
      try go_wp2
      go_meet
      case rel => exact ⟨_, (true), (by first | rfl | (simp; done) | (simp [*]; done) | (rw [Int.tmod_eq_emod_of_nonneg (Int.natCast_nonneg _)]; done)), H', ⟨by first | omega | exact Nat.le_refl _⟩, ⟨zB BK163.out⟩, ⟨zB BK164.out⟩, ⟨zB BK165.out⟩, ⟨zS HB.out⟩⟩
    ·replace c16 := Bool.eq_false_iff.mpr c16; subst c16
     have H1 : (spec_RunOk.j0 k (wrap64 ((l2_0.length : Int) - 1)) true a0_0 a0_1 a0_2 l0_3 l1_0 l1_1 l2_0 a2_1) = some r := by rw [if_neg (show ¬ (false = true) by decide)] at H; exact H
     clear H; have H := H1; clear H1; have H' := Aside0.mk H; clear H
     try go_wp2
     replace BK163 := Aside0.mk (blk_drew BK163.out); replace BK164 := Aside0.mk (blk_drew BK164.out); replace BK165 := Aside0.mk (blk_drew BK165.out); replace HB := Aside0.mk (below_drew1 HB.out); refine start_ (n := 35) (S := fun w' => w'.cell? ⟨gb163, 0, none⟩ = some (.int .i64 a0_0) ∧ w'.cell? ⟨gb163, 1, none⟩ = some (.int .i64 a0_1) ∧ w'.cell? ⟨gb163, 2, none⟩ = some (.int .i64 a0_2) ∧ w'.cell? ⟨gb163, 3, none⟩ = some (.slice A0_3 l0_3.length c0_3) ∧ w'.cell? ⟨gb164, 0, none⟩ = some (.slice A1_0 l1_0.length c1_0) ∧ w'.cell? ⟨gb164, 1, none⟩ = some (.slice A1_1 l1_1.length c1_1) ∧ w'.cell? ⟨gb165, 0, none⟩ = some (.slice A2_0 l2_0.length c2_0) ∧ w'.cell? ⟨gb165, 1, none⟩ = some (.int .i64 a2_1)) (ds := []) bl0 (by kernel_rfl) rfl rfl ⟨b1 BK163 0, b1 BK163 1, b1 BK163 2, b1 BK163 3, b1 BK164 0, b1 BK164 1, b1 BK165 0, b1 BK165 1⟩ (fun hHeld => ?_); refine with_tabW spec_RunOk.tab2 spec_RunOk.bits2 (fun HT_ HW_ => ?_); generalize w7.drew = w27 at BK163 BK164 BK165 HB hHeld ⊢; refine take_ (i := 0) (N := some 17) (v := ?_) (a' := ?_) bl1 rfl rfl (take_ofW HT_.out HW_.out (by kernel_rfl)) (fun _ _ _ h => h) (Or.inl ⟨by rfl, ?_⟩) hHeld ?_ ?_; rotate_left
     ·rintro w' ⟨s0, s1, s2, s3, s4, s5, s6, s7⟩; go_simp; with_reducible rfl
     rotate_left
     ·simp only [Act.put, q5]; rfl
     refine one_ (i := 1) (N := some 18) bl2 rfl rfl (one_of HT_.out (by kernel_rfl)) (by decide) (fun K hK => ?_); refine goes_ Try.func20 (by kernel_rfl) rfl #[.agg #[.int .i64 a0_0, .int .i64 a0_1, .int .i64 a0_2, .slice A0_3 l0_3.length c0_3]] (by rfl) rfl rfl (by (try simp only [m3]); first | done | rfl | (simp only [d2]; rfl)) ?_
     with_reducible refine (spec_AutoOk.calls k a0_0 a0_1 a0_2 _ _ l0_3 true _ ?side1 ?side2 A11.out).mono ?_
     (case side1 => exact zC (Kd.C_below HR0_3.out HB.out))
     (case side2 => exact HC0_3.out)
     rintro e w28 ⟨rfl, hb⟩; refine ⟨_, rfl, ?_⟩; replace BK163 := xB BK163 hb; replace BK164 := xB BK164 hb; replace BK165 := xB BK165 hb; replace HB := xS HB hb
     (try clear hb)
     (try clear hb2)
     (try clear hk)
     (try clear hi)
     refine hK.out _ _ ⟨b1 BK163 0, b1 BK163 1, b1 BK163 2, b1 BK163 3, b1 BK164 0, b1 BK164 1, b1 BK165 0, b1 BK165 1⟩ (fun hHeld => ?_); clear hK K; refine norm_ (a' := ?_) ?_ ?_; rotate_left
     ·show Act.put _ (some 18) _ = _; simp only [Act.put, q5]; rfl
     refine pu 2 (some 19) bl3 HT_ ?_ rfl rfl (.inl ⟨by rfl, ?_⟩) ?_ ?_ ?_; rotate_left; (intro w'; go_simp; with_reducible rfl); rotate_left; (simp only [Act.put, q5]; rfl)
     refine pu 3 (some 20) bl4 HT_ ?_ rfl rfl (.inl ⟨by rfl, ?_⟩) ?_ ?_ ?_; rotate_left; (intro w'; go_simp; with_reducible rfl); rotate_left; (simp only [Act.put, q5]; rfl)
     refine pu 5 (some 22) bl5 HT_ ?_ rfl rfl (.inl ⟨by rfl, ?_⟩) ?_ ?_ ?_; rotate_left; (intro w'; go_simp; with_reducible rfl); rotate_left; (simp only [Act.put, q5]; rfl)
     refine take_ (i := 4) (N := some 21) (v := ?_) (a' := ?_) bl6 rfl rfl (take_ofW HT_.out HW_.out (by kernel_rfl)) (fun _ _ _ h => h) (Or.inl ⟨by rfl, ?_⟩) hHeld ?_ ?_; rotate_left
     ·rintro w' ⟨s0, s1, s2, s3, s4, s5, s6, s7⟩; go_simp; with_reducible rfl
     rotate_left
     ·simp only [Act.put, q5]; rfl
     refine take_ (i := 6) (N := some 23) (v := ?_) (a' := ?_) bl7 rfl rfl (take_ofW HT_.out HW_.out (by kernel_rfl)) (fun _ _ _ h => h) (Or.inl ⟨by rfl, ?_⟩) hHeld ?_ ?_; rotate_left
     ·rintro w' ⟨s0, s1, s2, s3, s4, s5, s6, s7⟩; go_simp; with_reducible rfl
     rotate_left
     ·simp only [Act.put, q5]; rfl
     refine one_ (i := 7) (N := some 24) bl8 rfl rfl (one_of HT_.out (by kernel_rfl)) (by decide) (fun K hK => ?_); refine goes_ Try.func95 (by kernel_rfl) rfl #[.agg #[.slice A1_0 l1_0.length c1_0, .slice A1_1 l1_1.length c1_1], .int .i64 a0_0] (by rfl) rfl rfl (by (try simp only [m3]); first | done | rfl | (simp only [d2]; rfl)) ?_
     with_reducible refine (spec_WordOk.calls k _ _ l1_0 _ _ l1_1 a0_0 true _ ?side1 ?side2 ?side3 ?side4 A13.out).mono ?_
     (case side1 => exact zC (Kd.C_below HR1_0.out HB.out))
     (case side2 => exact HC1_0.out)
     (case side3 => exact zC (Kd.C_below HR1_1.out HB.out))
     (case side4 => exact HC1_1.out)
     rintro e w29 ⟨rfl, hb⟩; refine ⟨_, rfl, ?_⟩; replace BK163 := xB BK163 hb; replace BK164 := xB BK164 hb; replace BK165 := xB BK165 hb; replace HB := xS HB hb
     (try clear hb)
     (try clear hb2)
     (try clear hk)
     (try clear hi)
     refine hK.out _ _ ⟨b1 BK163 0, b1 BK163 1, b1 BK163 2, b1 BK163 3, b1 BK164 0, b1 BK164 1, b1 BK165 0, b1 BK165 1⟩ (fun hHeld => ?_); clear hK K; refine norm_ (a' := ?_) ?_ ?_; rotate_left
     ·show Act.put _ (some 24) _ = _; simp only [Act.put, q5]; rfl
     refine pu 8 (some 25) bl9 HT_ ?_ rfl rfl (.inl ⟨by rfl, ?_⟩) ?_ ?_ ?_; rotate_left; (intro w'; go_simp; with_reducible rfl); rotate_left; (simp only [Act.put, q5]; rfl)
     refine pu 9 (some 26) bl10 HT_ ?_ rfl rfl (.inl ⟨by rfl, ?_⟩) ?_ ?_ ?_; rotate_left; (intro w'; go_simp; with_reducible rfl); rotate_left; (simp only [Act.put, q5]; rfl)
     refine pu 10 (some 27) bl11 HT_ ?_ rfl rfl (.inl ⟨by rfl, ?_⟩) ?_ ?_ ?_; rotate_left; (intro w'; go_simp; with_reducible rfl); rotate_left; (simp only [Act.put, q5]; rfl)
     refine pu 11 (some 28) bl12 HT_ ?_ rfl rfl (.inl ⟨by rfl, ?_⟩) ?_ ?_ ?_; rotate_left; (intro w'; go_simp; with_reducible rfl); rotate_left; (simp only [Act.put, q5]; rfl)
     refine take_ (i := 12) (N := some 29) (v := ?_) (a' := ?_) bl13 rfl rfl (take_ofW HT_.out HW_.out (by kernel_rfl)) (fun _ _ _ h => h) (Or.inl ⟨by rfl, ?_⟩) hHeld ?_ ?_; rotate_left
     ·rintro w' ⟨s0, s1, s2, s3, s4, s5, s6, s7⟩; go_simp; with_reducible rfl
     rotate_left
     ·simp only [Act.put, q5]; rfl
     refine pu 13 (some 30) bl14 HT_ ?_ rfl rfl (.inl ⟨by rfl, ?_⟩) ?_ ?_ ?_; rotate_left; (intro w'; go_simp; with_reducible rfl); rotate_left; (simp only [Act.put, q5]; rfl)
     refine one_ (i := 14) (N := some 31) bl15 rfl rfl (one_of HT_.out (by kernel_rfl)) (by decide) (fun K hK => ?_); refine goes_ Try.func58 (by kernel_rfl) rfl #[.int .i64 (l2_0.length : Int), .int .i64 2, .int .i64 6000] (by rfl) rfl rfl (by (try simp only [m3]); first | done | rfl | (simp only [d2]; rfl)) ?_
     with_reducible refine (spec_l1In.calls (l2_0.length : Int) 2 6000 false _ A15.out).mono ?_
     rintro e w' ⟨rfl, ⟨nd, rfl⟩⟩; refine ⟨_, rfl, ?_⟩; refine hK.out _ _ ⟨b1 BK163 0, b1 BK163 1, b1 BK163 2, b1 BK163 3, b1 BK164 0, b1 BK164 1, b1 BK165 0, b1 BK165 1⟩ (fun hHeld => ?_); clear hK K; refine norm_ (a' := ?_) ?_ ?_; rotate_left
     ·show Act.put _ (some 31) _ = _; simp only [Act.put, q5]; rfl
     refine pu 15 (some 32) bl16 HT_ ?_ rfl rfl (.inl ⟨by rfl, ?_⟩) ?_ ?_ ?_; rotate_left; (intro w'; go_simp; with_reducible rfl); rotate_left; (simp only [Act.put, q5]; rfl)
     refine pu 16 (some 33) bl17 HT_ ?_ rfl rfl (.inl ⟨by rfl, ?_⟩) ?_ ?_ ?_; rotate_left; (intro w'; go_simp; with_reducible rfl); rotate_left; (simp only [Act.put, q5]; rfl)
     refine pu 17 (some 34) bl18 HT_ ?_ rfl rfl (.inl ⟨by rfl, ?_⟩) ?_ ?_ ?_; rotate_left; (intro w'; go_simp; with_reducible rfl); rotate_left; (simp only [Act.put, q5]; rfl)
     refine pu 18 (some 35) bl19 HT_ undef rfl rfl (.inr ⟨by rfl, rfl⟩) ?_ ?_ ?_; rotate_left; (simp only [Act.put, q5]; rfl)
     refine pu 19 (some 36) bl37 HT_ undef rfl rfl (.inr ⟨by rfl, rfl⟩) ?_ ?_ ?_; rotate_left; (simp only [Act.put, q5]; rfl)
     refine pu 20 (some 37) bl38 HT_ undef rfl rfl (.inr ⟨by rfl, rfl⟩) ?_ ?_ ?_; rotate_left; (simp only [Act.put, q5]; rfl)
     refine pu 21 (some 38) bl22 HT_ undef rfl rfl (.inr ⟨by rfl, rfl⟩) ?_ ?_ ?_; rotate_left; (simp only [Act.put, q5]; rfl)
     refine pu 22 (some 39) bl23 HT_ undef rfl rfl (.inr ⟨by rfl, rfl⟩) ?_ ?_ ?_; rotate_left; (simp only [Act.put, q5]; rfl)
     refine pu 23 (some 40) bl24 HT_ undef rfl rfl (.inr ⟨by rfl, rfl⟩) ?_ ?_ ?_; rotate_left; (simp only [Act.put, q5]; rfl)
     refine pu 24 (some 41) bl25 HT_ ?_ rfl rfl (.inl ⟨by rfl, ?_⟩) ?_ ?_ ?_; rotate_left; (intro w'; go_simp; with_reducible rfl); rotate_left; (simp only [Act.put, q5]; rfl)
     refine pu 25 (some 42) bl26 HT_ ?_ rfl rfl (.inl ⟨by rfl, ?_⟩) ?_ ?_ ?_; rotate_left; (intro w'; go_simp; with_reducible rfl); rotate_left; (simp only [Act.put, q5]; rfl)
     refine pu 26 (some 43) bl27 HT_ undef rfl rfl (.inr ⟨by rfl, rfl⟩) ?_ ?_ ?_; rotate_left; (simp only [Act.put, q5]; rfl)
     refine pu 27 (some 44) bl36 HT_ undef rfl rfl (.inr ⟨by rfl, rfl⟩) ?_ ?_ ?_; rotate_left; (simp only [Act.put, q5]; rfl)
     refine pu 28 (some 45) bl29 HT_ undef rfl rfl (.inr ⟨by rfl, rfl⟩) ?_ ?_ ?_; rotate_left; (simp only [Act.put, q5]; rfl)
     refine pu 29 (some 46) bl30 HT_ undef rfl rfl (.inr ⟨by rfl, rfl⟩) ?_ ?_ ?_; rotate_left; (simp only [Act.put, q5]; rfl)
     refine pu 30 (some 47) bl31 HT_ undef rfl rfl (.inr ⟨by rfl, rfl⟩) ?_ ?_ ?_; rotate_left; (simp only [Act.put, q5]; rfl)
     refine pu 31 (some 48) bl32 HT_ undef rfl rfl (.inr ⟨by rfl, rfl⟩) ?_ ?_ ?_; rotate_left; (simp only [Act.put, q5]; rfl)
     refine pu 32 (some 49) bl33 HT_ undef rfl rfl (.inr ⟨by rfl, rfl⟩) ?_ ?_ ?_; rotate_left; (simp only [Act.put, q5]; rfl)
     refine pu 33 (some 50) bl34 HT_ undef rfl rfl (.inr ⟨by rfl, rfl⟩) ?_ ?_ ?_; rotate_left; (simp only [Act.put, q5]; rfl)
     refine pu 34 (some 51) bl35 HT_ ?_ rfl rfl (.inl ⟨by rfl, ?_⟩) ?_ ?_ ?_; rotate_left; (intro w'; go_simp; with_reducible rfl); rotate_left; (simp only [Act.put, q5]; rfl)
     refine done_ (done_of HT_.out (by kernel_rfl)) ?_
     try go_wp2
     go_meet
     case rel => exact ⟨_, (true), (by first | rfl | (simp; done) | (simp [*]; done) | (rw [Int.tmod_eq_emod_of_nonneg (Int.natCast_nonneg _)]; done)), H', ⟨by first | omega | exact Nat.le_refl _⟩, ⟨zB BK163.out⟩, ⟨zB BK164.out⟩, ⟨zB BK165.out⟩, ⟨zS HB.out⟩⟩
   ·replace c14 := Bool.eq_false_iff.mpr c14; subst c14
    have H1 : (spec_RunOk.j0 k (wrap64 ((l2_0.length : Int) - 1)) true a0_0 a0_1 a0_2 l0_3 l1_0 l1_1 l2_0 a2_1) = some r := by rw [if_neg (show ¬ (false = true) by decide)] at H; exact H
    clear H; have H := H1; clear H1; have H' := Aside0.mk H; clear H
    try go_wp2
    replace BK163 := Aside0.mk (blk_drew BK163.out); replace BK164 := Aside0.mk (blk_drew BK164.out); replace BK165 := Aside0.mk (blk_drew BK165.out); replace HB := Aside0.mk (below_drew1 HB.out); refine start_ (n := 35) (S := fun w' => w'.cell? ⟨gb163, 0, none⟩ = some (.int .i64 a0_0) ∧ w'.cell? ⟨gb163, 1, none⟩ = some (.int .i64 a0_1) ∧ w'.cell? ⟨gb163, 2, none⟩ = some (.int .i64 a0_2) ∧ w'.cell? ⟨gb163, 3, none⟩ = some (.slice A0_3 l0_3.length c0_3) ∧ w'.cell? ⟨gb164, 0, none⟩ = some (.slice A1_0 l1_0.length c1_0) ∧ w'.cell? ⟨gb164, 1, none⟩ = some (.slice A1_1 l1_1.length c1_1)) (ds := []) bl0 (by kernel_rfl) rfl rfl ⟨b1 BK163 0, b1 BK163 1, b1 BK163 2, b1 BK163 3, b1 BK164 0, b1 BK164 1⟩ (fun hHeld => ?_); refine with_tabW spec_RunOk.tab2 spec_RunOk.bits2 (fun HT_ HW_ => ?_); generalize w7.drew = w30 at BK163 BK164 BK165 HB hHeld ⊢; refine take_ (i := 0) (N := some 17) (v := ?_) (a' := ?_) bl1 rfl rfl (take_ofW HT_.out HW_.out (by kernel_rfl)) (fun _ _ _ h => h) (Or.inl ⟨by rfl, ?_⟩) hHeld ?_ ?_; rotate_left
    ·rintro w' ⟨s0, s1, s2, s3, s4, s5⟩; go_simp; with_reducible rfl
    rotate_left
    ·simp only [Act.put, q5]; rfl
    refine one_ (i := 1) (N := some 18) bl2 rfl rfl (one_of HT_.out (by kernel_rfl)) (by decide) (fun K hK => ?_); refine goes_ Try.func20 (by kernel_rfl) rfl #[.agg #[.int .i64 a0_0, .int .i64 a0_1, .int .i64 a0_2, .slice A0_3 l0_3.length c0_3]] (by rfl) rfl rfl (by (try simp only [m3]); first | done | rfl | (simp only [d2]; rfl)) ?_
    with_reducible refine (spec_AutoOk.calls k a0_0 a0_1 a0_2 _ _ l0_3 true _ ?side1 ?side2 A11.out).mono ?_
    (case side1 => exact zC (Kd.C_below HR0_3.out HB.out))
    (case side2 => exact HC0_3.out)
    rintro e w31 ⟨rfl, hb⟩; refine ⟨_, rfl, ?_⟩; replace BK163 := xB BK163 hb; replace BK164 := xB BK164 hb; replace BK165 := xB BK165 hb; replace HB := xS HB hb
    (try clear hb)
    (try clear hb2)
    (try clear hk)
    (try clear hi)
    refine hK.out _ _ ⟨b1 BK163 0, b1 BK163 1, b1 BK163 2, b1 BK163 3, b1 BK164 0, b1 BK164 1⟩ (fun hHeld => ?_); clear hK K; refine norm_ (a' := ?_) ?_ ?_; rotate_left
    ·show Act.put _ (some 18) _ = _; simp only [Act.put, q5]; rfl
    refine pu 2 (some 19) bl3 HT_ ?_ rfl rfl (.inl ⟨by rfl, ?_⟩) ?_ ?_ ?_; rotate_left; (intro w'; go_simp; with_reducible rfl); rotate_left; (simp only [Act.put, q5]; rfl)
    refine pu 3 (some 20) bl4 HT_ ?_ rfl rfl (.inl ⟨by rfl, ?_⟩) ?_ ?_ ?_; rotate_left; (intro w'; go_simp; with_reducible rfl); rotate_left; (simp only [Act.put, q5]; rfl)
    refine pu 5 (some 22) bl5 HT_ ?_ rfl rfl (.inl ⟨by rfl, ?_⟩) ?_ ?_ ?_; rotate_left; (intro w'; go_simp; with_reducible rfl); rotate_left; (simp only [Act.put, q5]; rfl)
    refine take_ (i := 4) (N := some 21) (v := ?_) (a' := ?_) bl6 rfl rfl (take_ofW HT_.out HW_.out (by kernel_rfl)) (fun _ _ _ h => h) (Or.inl ⟨by rfl, ?_⟩) hHeld ?_ ?_; rotate_left
    ·rintro w' ⟨s0, s1, s2, s3, s4, s5⟩; go_simp; with_reducible rfl
    rotate_left
    ·simp only [Act.put, q5]; rfl
    refine take_ (i := 6) (N := some 23) (v := ?_) (a' := ?_) bl7 rfl rfl (take_ofW HT_.out HW_.out (by kernel_rfl)) (fun _ _ _ h => h) (Or.inl ⟨by rfl, ?_⟩) hHeld ?_ ?_; rotate_left
    ·rintro w' ⟨s0, s1, s2, s3, s4, s5⟩; go_simp; with_reducible rfl
    rotate_left
    ·simp only [Act.put, q5]; rfl
    refine one_ (i := 7) (N := some 24) bl8 rfl rfl (one_of HT_.out (by kernel_rfl)) (by decide) (fun K hK => ?_); refine goes_ Try.func95 (by kernel_rfl) rfl #[.agg #[.slice A1_0 l1_0.length c1_0, .slice A1_1 l1_1.length c1_1], .int .i64 a0_0] (by rfl) rfl rfl (by (try simp only [m3]); first | done | rfl | (simp only [d2]; rfl)) ?_
    with_reducible refine (spec_WordOk.calls k _ _ l1_0 _ _ l1_1 a0_0 false _ ?side1 ?side2 ?side3 ?side4 A13.out).mono ?_
    (case side1 => exact zC (Kd.C_below HR1_0.out HB.out))
    (case side2 => exact HC1_0.out)
    (case side3 => exact zC (Kd.C_below HR1_1.out HB.out))
    (case side4 => exact HC1_1.out)
    rintro e w32 ⟨rfl, hb⟩; refine ⟨_, rfl, ?_⟩; replace BK163 := xB BK163 hb; replace BK164 := xB BK164 hb; replace BK165 := xB BK165 hb; replace HB := xS HB hb
    (try clear hb)
    (try clear hb2)
    (try clear hk)
    (try clear hi)
    refine hK.out _ _ ⟨b1 BK163 0, b1 BK163 1, b1 BK163 2, b1 BK163 3, b1 BK164 0, b1 BK164 1⟩ (fun hHeld => ?_); clear hK K; refine norm_ (a' := ?_) ?_ ?_; rotate_left
    ·show Act.put _ (some 24) _ = _; simp only [Act.put, q5]; rfl
    refine pu 8 (some 25) bl9 HT_ ?_ rfl rfl (.inl ⟨by rfl, ?_⟩) ?_ ?_ ?_; rotate_left; (intro w'; go_simp; with_reducible rfl); rotate_left; (simp only [Act.put, q5]; rfl)
    refine pu 9 (some 26) bl10 HT_ ?_ rfl rfl (.inl ⟨by rfl, ?_⟩) ?_ ?_ ?_; rotate_left; (intro w'; go_simp; with_reducible rfl); rotate_left; (simp only [Act.put, q5]; rfl)
    refine pu 10 (some 27) bl11 HT_ ?_ rfl rfl (.inl ⟨by rfl, ?_⟩) ?_ ?_ ?_; rotate_left; (intro w'; go_simp; with_reducible rfl); rotate_left; (simp only [Act.put, q5]; rfl)
    refine pu 11 (some 28) bl12 HT_ undef rfl rfl (.inr ⟨by rfl, rfl⟩) ?_ ?_ ?_; rotate_left; (simp only [Act.put, q5]; rfl)
    refine pu 12 (some 29) bl13 HT_ undef rfl rfl (.inr ⟨by rfl, rfl⟩) ?_ ?_ ?_; rotate_left; (simp only [Act.put, q5]; rfl)
    refine pu 13 (some 30) bl14 HT_ undef rfl rfl (.inr ⟨by rfl, rfl⟩) ?_ ?_ ?_; rotate_left; (simp only [Act.put, q5]; rfl)
    refine pu 14 (some 31) bl15 HT_ undef rfl rfl (.inr ⟨by rfl, rfl⟩) ?_ ?_ ?_; rotate_left; (simp only [Act.put, q5]; rfl)
    refine pu 15 (some 32) bl16 HT_ undef rfl rfl (.inr ⟨by rfl, rfl⟩) ?_ ?_ ?_; rotate_left; (simp only [Act.put, q5]; rfl)
    refine pu 16 (some 33) bl17 HT_ ?_ rfl rfl (.inl ⟨by rfl, ?_⟩) ?_ ?_ ?_; rotate_left; (intro w'; go_simp; with_reducible rfl); rotate_left; (simp only [Act.put, q5]; rfl)
    refine pu 17 (some 34) bl18 HT_ ?_ rfl rfl (.inl ⟨by rfl, ?_⟩) ?_ ?_ ?_; rotate_left; (intro w'; go_simp; with_reducible rfl); rotate_left; (simp only [Act.put, q5]; rfl)
    refine pu 18 (some 35) bl19 HT_ undef rfl rfl (.inr ⟨by rfl, rfl⟩) ?_ ?_ ?_; rotate_left; (simp only [Act.put, q5]; rfl)
    refine pu 19 (some 36) bl37 HT_ undef rfl rfl (.inr ⟨by rfl, rfl⟩) ?_ ?_ ?_; rotate_left; (simp only [Act.put, q5]; rfl)
    refine pu 20 (some 37) bl38 HT_ undef rfl rfl (.inr ⟨by rfl, rfl⟩) ?_ ?_ ?_; rotate_left; (simp only [Act.put, q5]; rfl)
    refine pu 21 (some 38) bl22 HT_ undef rfl rfl (.inr ⟨by rfl, rfl⟩) ?_ ?_ ?_; rotate_left; (simp only [Act.put, q5]; rfl)
    refine pu 22 (some 39) bl23 HT_ undef rfl rfl (.inr ⟨by rfl, rfl⟩) ?_ ?_ ?_; rotate_left; (simp only [Act.put, q5]; rfl)
    refine pu 23 (some 40) bl24 HT_ undef rfl rfl (.inr ⟨by rfl, rfl⟩) ?_ ?_ ?_; rotate_left; (simp only [Act.put, q5]; rfl)
    refine pu 24 (some 41) bl25 HT_ ?_ rfl rfl (.inl ⟨by rfl, ?_⟩) ?_ ?_ ?_; rotate_left; (intro w'; go_simp; with_reducible rfl); rotate_left; (simp only [Act.put, q5]; rfl)
    refine pu 25 (some 42) bl26 HT_ ?_ rfl rfl (.inl ⟨by rfl, ?_⟩) ?_ ?_ ?_; rotate_left; (intro w'; go_simp; with_reducible rfl); rotate_left; (simp only [Act.put, q5]; rfl)
    refine pu 26 (some 43) bl27 HT_ undef rfl rfl (.inr ⟨by rfl, rfl⟩) ?_ ?_ ?_; rotate_left; (simp only [Act.put, q5]; rfl)
    refine pu 27 (some 44) bl36 HT_ undef rfl rfl (.inr ⟨by rfl, rfl⟩) ?_ ?_ ?_; rotate_left; (simp only [Act.put, q5]; rfl)
    refine pu 28 (some 45) bl29 HT_ undef rfl rfl (.inr ⟨by rfl, rfl⟩) ?_ ?_ ?_; rotate_left; (simp only [Act.put, q5]; rfl)
    refine pu 29 (some 46) bl30 HT_ undef rfl rfl (.inr ⟨by rfl, rfl⟩) ?_ ?_ ?_; rotate_left; (simp only [Act.put, q5]; rfl)
    refine pu 30 (some 47) bl31 HT_ undef rfl rfl (.inr ⟨by rfl, rfl⟩) ?_ ?_ ?_; rotate_left; (simp only [Act.put, q5]; rfl)
    refine pu 31 (some 48) bl32 HT_ undef rfl rfl (.inr ⟨by rfl, rfl⟩) ?_ ?_ ?_; rotate_left; (simp only [Act.put, q5]; rfl)
    refine pu 32 (some 49) bl33 HT_ undef rfl rfl (.inr ⟨by rfl, rfl⟩) ?_ ?_ ?_; rotate_left; (simp only [Act.put, q5]; rfl)
    refine pu 33 (some 50) bl34 HT_ undef rfl rfl (.inr ⟨by rfl, rfl⟩) ?_ ?_ ?_; rotate_left; (simp only [Act.put, q5]; rfl)
    refine pu 34 (some 51) bl35 HT_ ?_ rfl rfl (.inl ⟨by rfl, ?_⟩) ?_ ?_ ?_; rotate_left; (intro w'; go_simp; with_reducible rfl); rotate_left; (simp only [Act.put, q5]; rfl)
    refine done_ (done_of HT_.out (by kernel_rfl)) ?_
    try go_wp2
    go_meet
    case rel => exact ⟨_, (true), (by first | rfl | (simp; done) | (simp [*]; done) | (rw [Int.tmod_eq_emod_of_nonneg (Int.natCast_nonneg _)]; done)), H', ⟨by first | omega | exact Nat.le_refl _⟩, ⟨zB BK163.out⟩, ⟨zB BK164.out⟩, ⟨zB BK165.out⟩, ⟨zS HB.out⟩⟩
  ·replace c12 := Bool.eq_false_iff.mpr c12; subst c12
   have H1 : (spec_RunOk.j0 k (wrap64 ((l2_0.length : Int) - 1)) true a0_0 a0_1 a0_2 l0_3 l1_0 l1_1 l2_0 a2_1) = some r := by rw [if_neg (show ¬ (false = true) by decide)] at H; exact H
   clear H; have H := H1; clear H1; have H' := Aside0.mk H; clear H
   try go_wp2
   replace BK163 := Aside0.mk (blk_drew BK163.out); replace BK164 := Aside0.mk (blk_drew BK164.out); replace BK165 := Aside0.mk (blk_drew BK165.out); replace HB := Aside0.mk (below_drew1 HB.out); refine start_ (n := 35) (S := fun w' => w'.cell? ⟨gb163, 0, none⟩ = some (.int .i64 a0_0) ∧ w'.cell? ⟨gb163, 1, none⟩ = some (.int .i64 a0_1) ∧ w'.cell? ⟨gb163, 2, none⟩ = some (.int .i64 a0_2) ∧ w'.cell? ⟨gb163, 3, none⟩ = some (.slice A0_3 l0_3.length c0_3)) (ds := []) bl0 (by kernel_rfl) rfl rfl ⟨b1 BK163 0, b1 BK163 1, b1 BK163 2, b1 BK163 3⟩ (fun hHeld => ?_); refine with_tabW spec_RunOk.tab2 spec_RunOk.bits2 (fun HT_ HW_ => ?_); generalize w7.drew = w33 at BK163 BK164 BK165 HB hHeld ⊢; refine take_ (i := 0) (N := some 17) (v := ?_) (a' := ?_) bl1 rfl rfl (take_ofW HT_.out HW_.out (by kernel_rfl)) (fun _ _ _ h => h) (Or.inl ⟨by rfl, ?_⟩) hHeld ?_ ?_; rotate_left
   ·rintro w' ⟨s0, s1, s2, s3⟩; go_simp; with_reducible rfl
   rotate_left
   ·simp only [Act.put, q5]; rfl
   refine one_ (i := 1) (N := some 18) bl2 rfl rfl (one_of HT_.out (by kernel_rfl)) (by decide) (fun K hK => ?_); refine goes_ Try.func20 (by kernel_rfl) rfl #[.agg #[.int .i64 a0_0, .int .i64 a0_1, .int .i64 a0_2, .slice A0_3 l0_3.length c0_3]] (by rfl) rfl rfl (by (try simp only [m3]); first | done | rfl | (simp only [d2]; rfl)) ?_
   with_reducible refine (spec_AutoOk.calls k a0_0 a0_1 a0_2 _ _ l0_3 false _ ?side1 ?side2 A11.out).mono ?_
   (case side1 => exact zC (Kd.C_below HR0_3.out HB.out))
   (case side2 => exact HC0_3.out)
   rintro e w34 ⟨rfl, hb⟩; refine ⟨_, rfl, ?_⟩; replace BK163 := xB BK163 hb; replace BK164 := xB BK164 hb; replace BK165 := xB BK165 hb; replace HB := xS HB hb
   (try clear hb)
   (try clear hb2)
   (try clear hk)
   (try clear hi)
   refine hK.out _ _ ⟨b1 BK163 0, b1 BK163 1, b1 BK163 2, b1 BK163 3⟩ (fun hHeld => ?_); clear hK K; refine norm_ (a' := ?_) ?_ ?_; rotate_left
   ·show Act.put _ (some 18) _ = _; simp only [Act.put, q5]; rfl
   refine pu 2 (some 19) bl3 HT_ ?_ rfl rfl (.inl ⟨by rfl, ?_⟩) ?_ ?_ ?_; rotate_left; (intro w'; go_simp; with_reducible rfl); rotate_left; (simp only [Act.put, q5]; rfl)
   refine pu 3 (some 20) bl4 HT_ ?_ rfl rfl (.inl ⟨by rfl, ?_⟩) ?_ ?_ ?_; rotate_left; (intro w'; go_simp; with_reducible rfl); rotate_left; (simp only [Act.put, q5]; rfl)
   refine pu 4 (some 21) bl39 HT_ undef rfl rfl (.inr ⟨by rfl, rfl⟩) ?_ ?_ ?_; rotate_left; (simp only [Act.put, q5]; rfl)
   refine pu 5 (some 22) bl6 HT_ undef rfl rfl (.inr ⟨by rfl, rfl⟩) ?_ ?_ ?_; rotate_left; (simp only [Act.put, q5]; rfl)
   refine pu 6 (some 23) bl7 HT_ undef rfl rfl (.inr ⟨by rfl, rfl⟩) ?_ ?_ ?_; rotate_left; (simp only [Act.put, q5]; rfl)
   refine pu 7 (some 24) bl8 HT_ undef rfl rfl (.inr ⟨by rfl, rfl⟩) ?_ ?_ ?_; rotate_left; (simp only [Act.put, q5]; rfl)
   refine pu 8 (some 25) bl9 HT_ undef rfl rfl (.inr ⟨by rfl, rfl⟩) ?_ ?_ ?_; rotate_left; (simp only [Act.put, q5]; rfl)
   refine pu 9 (some 26) bl10 HT_ ?_ rfl rfl (.inl ⟨by rfl, ?_⟩) ?_ ?_ ?_; rotate_left; (intro w'; go_simp; with_reducible rfl); rotate_left; (simp only [Act.put, q5]; rfl)
   refine pu 10 (some 27) bl11 HT_ ?_ rfl rfl (.inl ⟨by rfl, ?_⟩) ?_ ?_ ?_; rotate_left; (intro w'; go_simp; with_reducible rfl); rotate_left; (simp only [Act.put, q5]; rfl)
   refine pu 11 (some 28) bl12 HT_ undef rfl rfl (.inr ⟨by rfl, rfl⟩) ?_ ?_ ?_; rotate_left; (simp only [Act.put, q5]; rfl)
   refine pu 12 (some 29) bl13 HT_ undef rfl rfl (.inr ⟨by rfl, rfl⟩) ?_ ?_ ?_; rotate_left; (simp only [Act.put, q5]; rfl)
   refine pu 13 (some 30) bl14 HT_ undef rfl rfl (.inr ⟨by rfl, rfl⟩) ?_ ?_ ?_; rotate_left; (simp only [Act.put, q5]; rfl)
   refine pu 14 (some 31) bl15 HT_ undef rfl rfl (.inr ⟨by rfl, rfl⟩) ?_ ?_ ?_; rotate_left; (simp only [Act.put, q5]; rfl)
   refine pu 15 (some 32) bl16 HT_ undef rfl rfl (.inr ⟨by rfl, rfl⟩) ?_ ?_ ?_; rotate_left; (simp only [Act.put, q5]; rfl)
   refine pu 16 (some 33) bl17 HT_ ?_ rfl rfl (.inl ⟨by rfl, ?_⟩) ?_ ?_ ?_; rotate_left; (intro w'; go_simp; with_reducible rfl); rotate_left; (simp only [Act.put, q5]; rfl)
   refine pu 17 (some 34) bl18 HT_ ?_ rfl rfl (.inl ⟨by rfl, ?_⟩) ?_ ?_ ?_; rotate_left; (intro w'; go_simp; with_reducible rfl); rotate_left; (simp only [Act.put, q5]; rfl)
   refine pu 18 (some 35) bl19 HT_ undef rfl rfl (.inr ⟨by rfl, rfl⟩) ?_ ?_ ?_; rotate_left; (simp only [Act.put, q5]; rfl)
   refine pu 19 (some 36) bl37 HT_ undef rfl rfl (.inr ⟨by rfl, rfl⟩) ?_ ?_ ?_; rotate_left; (simp only [Act.put, q5]; rfl)
   refine pu 20 (some 37) bl38 HT_ undef rfl rfl (.inr ⟨by rfl, rfl⟩) ?_ ?_ ?_; rotate_left; (simp only [Act.put, q5]; rfl)
   refine pu 21 (some 38) bl22 HT_ undef rfl rfl (.inr ⟨by rfl, rfl⟩) ?_ ?_ ?_; rotate_left; (simp only [Act.put, q5]; rfl)
   refine pu 22 (some 39) bl23 HT_ undef rfl rfl (.inr ⟨by rfl, rfl⟩) ?_ ?_ ?_; rotate_left; (simp only [Act.put, q5]; rfl)
   refine pu 23 (some 40) bl24 HT_ undef rfl rfl (.inr ⟨by rfl, rfl⟩) ?_ ?_ ?_; rotate_left; (simp only [Act.put, q5]; rfl)
   refine pu 24 (some 41) bl25 HT_ ?_ rfl rfl (.inl ⟨by rfl, ?_⟩) ?_ ?_ ?_; rotate_left; (intro w'; go_simp; with_reducible rfl); rotate_left; (simp only [Act.put, q5]; rfl)
   refine pu 25 (some 42) bl26 HT_ ?_ rfl rfl (.inl ⟨by rfl, ?_⟩) ?_ ?_ ?_; rotate_left; (intro w'; go_simp; with_reducible rfl); rotate_left; (simp only [Act.put, q5]; rfl)
   refine pu 26 (some 43) bl27 HT_ undef rfl rfl (.inr ⟨by rfl, rfl⟩) ?_ ?_ ?_; rotate_left; (simp only [Act.put, q5]; rfl)
   refine pu 27 (some 44) bl36 HT_ undef rfl rfl (.inr ⟨by rfl, rfl⟩) ?_ ?_ ?_; rotate_left; (simp only [Act.put, q5]; rfl)
   refine pu 28 (some 45) bl29 HT_ undef rfl rfl (.inr ⟨by rfl, rfl⟩) ?_ ?_ ?_; rotate_left; (simp only [Act.put, q5]; rfl)
   refine pu 29 (some 46) bl30 HT_ undef rfl rfl (.inr ⟨by rfl, rfl⟩) ?_ ?_ ?_; rotate_left; (simp only [Act.put, q5]; rfl)
   refine pu 30 (some 47) bl31 HT_ undef rfl rfl (.inr ⟨by rfl, rfl⟩) ?_ ?_ ?_; rotate_left; (simp only [Act.put, q5]; rfl)
   refine pu 31 (some 48) bl32 HT_ undef rfl rfl (.inr ⟨by rfl, rfl⟩) ?_ ?_ ?_; rotate_left; (simp only [Act.put, q5]; rfl)
   refine pu 32 (some 49) bl33 HT_ undef rfl rfl (.inr ⟨by rfl, rfl⟩) ?_ ?_ ?_; rotate_left; (simp only [Act.put, q5]; rfl)
   refine pu 33 (some 50) bl34 HT_ undef rfl rfl (.inr ⟨by rfl, rfl⟩) ?_ ?_ ?_; rotate_left; (simp only [Act.put, q5]; rfl)
   refine pu 34 (some 51) bl35 HT_ ?_ rfl rfl (.inl ⟨by rfl, ?_⟩) ?_ ?_ ?_; rotate_left; (intro w'; go_simp; with_reducible rfl); rotate_left; (simp only [Act.put, q5]; rfl)
   refine done_ (done_of HT_.out (by kernel_rfl)) ?_
   try go_wp2
   go_meet
   case rel => exact ⟨_, (true), (by first | rfl | (simp; done) | (simp [*]; done) | (rw [Int.tmod_eq_emod_of_nonneg (Int.natCast_nonneg _)]; done)), H', ⟨by first | omega | exact Nat.le_refl _⟩, ⟨zB BK163.out⟩, ⟨zB BK164.out⟩, ⟨zB BK165.out⟩, ⟨zS HB.out⟩⟩
 case rest =>
  clear HC4
  try clear c1
  try clear c2
  try clear p2
  try clear p6
  try clear c9
  try clear c12
  try clear c14
  try clear c20
  obtain ⟨kq, x51_3, rfl, HA, HJ3, BK163, BK164, BK165, HB⟩ := hcut
  cases kq with
  | zero => exact absurd HA.out (by simp [spec_RunOk.j0])
  | succ kj3 =>
   have H := HA.out; clear HA; simp only [spec_RunOk.j0] at H
   by_cases c35 : x51_3 = true
   ·subst c35
    have H1 : (some false) = some r := by rw [if_pos rfl] at H; exact H
    clear H; have H := H1; clear H1; obtain rfl := Option.some.inj H
    go_wp2
    go_ret; exact ⟨by first | rfl | (simp [errW_none, errW_some] <;> rfl) | (simp [*, errW_none, errW_some] <;> rfl), by repeat (first | (with_reducible first | exact HB.out | apply below_alloc | apply pw_below_drewN | apply below_drew1 | refine below_set ?_ GE163.out | refine below_set ?_ GE164.out | refine below_set ?_ GE165.out) | exact HB.out)⟩
   ·replace c35 := Bool.eq_false_iff.mpr c35; subst c35
    have H1 : (if a2_1 < (l1_0.length : Int) then (spec_RunOk.j1 kj3 (wrap64 ((l2_0.length : Int) - 1)) true a0_0 a0_1 a0_2 l0_3 l1_0 l1_1 l2_0 a2_1) else (if (l1_1.length : Int) = 0 then (none) else (if (Int.tmod (wrap64 ((wrap64 ((l2_0.length : Int) - 1)) - a2_1)) (l1_1.length : Int)) = 0 then (if 0 ≤ a2_1 then (if a2_1 < (l2_0.length : Int) then (if 0 ≤ (wrap64 ((l2_0.length : Int) - 1)) then (if (wrap64 ((l2_0.length : Int) - 1)) < (l2_0.length : Int) then (spec_RunOk.j1 kj3 (wrap64 ((l2_0.length : Int) - 1)) ((rd l2_0 a2_1) != (rd l2_0 (wrap64 ((l2_0.length : Int) - 1)))) a0_0 a0_1 a0_2 l0_3 l1_0 l1_1 l2_0 a2_1) else (none)) else (none)) else (none)) else (none)) else (spec_RunOk.j1 kj3 (wrap64 ((l2_0.length : Int) - 1)) true a0_0 a0_1 a0_2 l0_3 l1_0 l1_1 l2_0 a2_1)))) = some r := by rw [if_neg (show ¬ (false = true) by decide)] at H; exact H
    clear H; have H := H1; clear H1; have HC36 := Aside0.mk H; clear H
    go_upto_region 4 with (fail)
    go_cut [82] (fun v82 wc => ∃ (kq : Nat) (x82_35 : Bool), v82 = .bool x82_35 ∧ Aside0 (spec_RunOk.j1 kq (wrap64 ((l2_0.length : Int) - 1)) x82_35 a0_0 a0_1 a0_2 l0_3 l1_0 l1_1 l2_0 a2_1 = some r) ∧ Aside0 (kq ≤ kj3) ∧ Aside0 (wc.heap[gb163]? = some (.cells #[.int .i64 a0_0, .int .i64 a0_1, .int .i64 a0_2, (.slice A0_3 l0_3.length c0_3)] 24 (0, 0))) ∧ Aside0 (wc.heap[gb164]? = some (.cells #[(.slice A1_0 l1_0.length c1_0), (.slice A1_1 l1_1.length c1_1)] 78 (0, 0))) ∧ Aside0 (wc.heap[gb165]? = some (.cells #[(.slice A2_0 l2_0.length c2_0), .int .i64 a2_1] 80 (0, 0))) ∧ Aside0 (Below w.heap.size w wc))
    case first =>
     have H := HC36.out; clear HC36
     by_cases c37 : a2_1 < (l1_0.length : Int)
     ·rw [if_pos c37] at H; have c37b0 : decide (a2_1 < (l1_0.length : Int)) = true := decide_eq_true c37; clear c37
      (first | rw [c37b0] | (simp only [i64_w, i32_w]; rw [c37b0]) | skip)
      have H' := Aside0.mk H; clear H
      try go_wp2
      replace BK163 := Aside0.mk (blk_drew BK163.out); replace BK164 := Aside0.mk (blk_drew BK164.out); replace BK165 := Aside0.mk (blk_drew BK165.out); replace HB := Aside0.mk (below_drew1 HB.out); refine start_ (n := 31) (S := fun w' => w'.cell? ⟨gb165, 0, none⟩ = some (.slice A2_0 l2_0.length c2_0) ∧ w'.cell? ⟨gb165, 1, none⟩ = some (.int .i64 a2_1) ∧ w'.cell? ⟨gb164, 0, none⟩ = some (.slice A1_0 l1_0.length c1_0) ∧ w'.cell? ⟨gb164, 1, none⟩ = some (.slice A1_1 l1_1.length c1_1)) (ds := []) bl40 (by kernel_rfl) rfl rfl ⟨b1 BK165 0, b1 BK165 1, b1 BK164 0, b1 BK164 1⟩ (fun hHeld => ?_); refine with_tabW spec_RunOk.tab4 spec_RunOk.bits4 (fun HT_ HW_ => ?_); generalize wc.drew = w38 at BK163 BK164 BK165 HB hHeld ⊢
      refine pu 0 (some 52) bl41 HT_ ?_ rfl rfl (.inl ⟨by rfl, ?_⟩) ?_ ?_ ?_; rotate_left; (intro w'; go_simp; with_reducible rfl); rotate_left; (simp only [Act.put, q5]; rfl)
      refine pu 2 (some 54) bl42 HT_ ?_ rfl rfl (.inl ⟨by rfl, ?_⟩) ?_ ?_ ?_; rotate_left; (intro w'; go_simp; with_reducible rfl); rotate_left; (simp only [Act.put, q5]; rfl)
      refine take_ (i := 1) (N := some 53) (v := ?_) (a' := ?_) bl43 rfl rfl (take_ofW HT_.out HW_.out (by kernel_rfl)) (fun _ _ _ h => h) (Or.inl ⟨by rfl, ?_⟩) hHeld ?_ ?_; rotate_left
      ·rintro w' ⟨s0, s1, s2, s3⟩; go_simp; with_reducible rfl
      rotate_left
      ·simp only [Act.put, q5]; rfl
      refine take_ (i := 3) (N := some 55) (v := ?_) (a' := ?_) bl44 rfl rfl (take_ofW HT_.out HW_.out (by kernel_rfl)) (fun _ _ _ h => h) (Or.inl ⟨by rfl, ?_⟩) hHeld ?_ ?_; rotate_left
      ·rintro w' ⟨s0, s1, s2, s3⟩; go_simp; with_reducible rfl
      rotate_left
      ·simp only [Act.put, q5]; rfl
      refine pu 4 (some 56) bl45 HT_ ?_ rfl rfl (.inl ⟨by rfl, ?_⟩) ?_ ?_ ?_; rotate_left; (intro w'; go_simp; with_reducible rfl); rotate_left; (simp only [Act.put, q5]; rfl)
      refine pu 5 (some 57) bl46 HT_ ?_ rfl rfl (.inl ⟨by rfl, ?_⟩) ?_ ?_ ?_; rotate_left; (intro w'; go_simp; with_reducible rfl); rotate_left; (simp only [Act.put, q5]; rfl)
      refine pu 6 (some 58) bl47 HT_ ?_ rfl rfl (.inl ⟨by rfl, ?_⟩) ?_ ?_ ?_; rotate_left; (intro w'; go_simp; with_reducible rfl); rotate_left; (simp only [Act.put, q5]; rfl)
      refine pu 7 (some 59) bl48 HT_ undef rfl rfl (.inr ⟨by rfl, rfl⟩) ?_ ?_ ?_; rotate_left; (simp only [Act.put, q5]; rfl)
      refine pu 8 (some 60) bl49 HT_ undef rfl rfl (.inr ⟨by rfl, rfl⟩) ?_ ?_ ?_; rotate_left; (simp only [Act.put, q5]; rfl)
      refine pu 9 (some 61) bl50 HT_ undef rfl rfl (.inr ⟨by rfl, rfl⟩) ?_ ?_ ?_; rotate_left; (simp only [Act.put, q5]; rfl)
      refine pu 10 (some 62) bl51 HT_ undef rfl rfl (.inr ⟨by rfl, rfl⟩) ?_ ?_ ?_; rotate_left; (simp only [Act.put, q5]; rfl)
      refine pu 11 (some 63) bl52 HT_ undef rfl rfl (.inr ⟨by rfl, rfl⟩) ?_ ?_ ?_; rotate_left; (simp only [Act.put, q5]; rfl)
      refine pu 12 (some 64) bl53 HT_ undef rfl rfl (.inr ⟨by rfl, rfl⟩) ?_ ?_ ?_; rotate_left; (simp only [Act.put, q5]; rfl)
      refine pu 13 (some 65) bl54 HT_ undef rfl rfl (.inr ⟨by rfl, rfl⟩) ?_ ?_ ?_; rotate_left; (simp only [Act.put, q5]; rfl)
      refine pu 14 (some 66) bl55 HT_ undef rfl rfl (.inr ⟨by rfl, rfl⟩) ?_ ?_ ?_; rotate_left; (simp only [Act.put, q5]; rfl)
      refine pu 15 (some 67) bl56 HT_ undef rfl rfl (.inr ⟨by rfl, rfl⟩) ?_ ?_ ?_; rotate_left; (simp only [Act.put, q5]; rfl)
      refine pu 16 (some 68) bl57 HT_ ?_ rfl rfl (.inl ⟨by rfl, ?_⟩) ?_ ?_ ?_; rotate_left; (intro w'; go_simp; with_reducible rfl); rotate_left; (simp only [Act.put, q5]; rfl)
      refine pu 17 (some 69) bl58 HT_ ?_ rfl rfl (.inl ⟨by rfl, ?_⟩) ?_ ?_ ?_; rotate_left; (intro w'; go_simp; with_reducible rfl); rotate_left; (simp only [Act.put, q5]; rfl)
      refine pu 18 (some 70) bl59 HT_ undef rfl rfl (.inr ⟨by rfl, rfl⟩) ?_ ?_ ?_; rotate_left; (simp only [Act.put, q5]; rfl)
      refine pu 19 (some 71) bl60 HT_ undef rfl rfl (.inr ⟨by rfl, rfl⟩) ?_ ?_ ?_; rotate_left; (simp only [Act.put, q5]; rfl)
      refine pu 20 (some 72) bl61 HT_ undef rfl rfl (.inr ⟨by rfl, rfl⟩) ?_ ?_ ?_; rotate_left; (simp only [Act.put, q5]; rfl)
      refine pu 21 (some 73) bl62 HT_ undef rfl rfl (.inr ⟨by rfl, rfl⟩) ?_ ?_ ?_; rotate_left; (simp only [Act.put, q5]; rfl)
      refine pu 22 (some 74) bl63 HT_ undef rfl rfl (.inr ⟨by rfl, rfl⟩) ?_ ?_ ?_; rotate_left; (simp only [Act.put, q5]; rfl)
      refine pu 23 (some 75) bl64 HT_ undef rfl rfl (.inr ⟨by rfl, rfl⟩) ?_ ?_ ?_; rotate_left; (simp only [Act.put, q5]; rfl)
      refine pu 24 (some 76) bl65 HT_ undef rfl rfl (.inr ⟨by rfl, rfl⟩) ?_ ?_ ?_; rotate_left; (simp only [Act.put, q5]; rfl)
      refine pu 25 (some 77) bl66 HT_ undef rfl rfl (.inr ⟨by rfl, rfl⟩) ?_ ?_ ?_; rotate_left; (simp only [Act.put, q5]; rfl)
      refine pu 26 (some 78) bl67 HT_ undef rfl rfl (.inr ⟨by rfl, rfl⟩) ?_ ?_ ?_; rotate_left; (simp only [Act.put, q5]; rfl)
      refine pu 27 (some 79) bl68 HT_ undef rfl rfl (.inr ⟨by rfl, rfl⟩) ?_ ?_ ?_; rotate_left; (simp only [Act.put, q5]; rfl)
      refine pu 28 (some 80) bl69 HT_ undef rfl rfl (.inr ⟨by rfl, rfl⟩) ?_ ?_ ?_; rotate_left; (simp only [Act.put, q5]; rfl)
      refine pu 29 (some 81) bl70 HT_ undef rfl rfl (.inr ⟨by rfl, rfl⟩) ?_ ?_ ?_; rotate_left; (simp only [Act.put, q5]; rfl)
      refine pu 30 (some 82) bl71 HT_ ?_ rfl rfl (.inl ⟨by rfl, ?_⟩) ?_ ?_ ?_; rotate_left; (intro w'; go_simp; with_reducible rfl); rotate_left; (simp only [Act.put, q5]; rfl)
      refine done_ (done_of HT_.out (by kernel_rfl)) ?_
      try go_wp2
      go_meet
      case rel => exact ⟨_, (true), (by first | rfl | (simp; done) | (simp [*]; done) | (rw [Int.tmod_eq_emod_of_nonneg (Int.natCast_nonneg _)]; done)), H', ⟨by have := HJ3.out; first | omega | exact Nat.le_refl _⟩, ⟨zB BK163.out⟩, ⟨zB BK164.out⟩, ⟨zB BK165.out⟩, ⟨zS HB.out⟩⟩
     ·rw [if_neg c37] at H; have c37b0 : decide (a2_1 < (l1_0.length : Int)) = false := decide_eq_false c37; clear c37
      (first | rw [c37b0] | (simp only [i64_w, i32_w]; rw [c37b0]) | skip)
      by_cases c39 : (l1_1.length : Int) = 0
      ·rw [if_pos c39] at H; exact absurd H (by simp)
      ·rw [if_neg c39] at H; have c39b0 : ((l1_1.length : Int) == 0) = false := beq_eq_false_iff_ne.mpr c39; have c39b1 : ((l1_1.length : Int) != 0) = true := bne_iff_ne.mpr c39; have c39b2 : ¬ (l1_1 = []) := fun h_ => c39 (by rw [h_]; rfl)
       by_cases c40 : (Int.tmod (wrap64 ((wrap64 ((l2_0.length : Int) - 1)) - a2_1)) (l1_1.length : Int)) = 0
       ·rw [if_pos c40] at H; have c40b0 : ((Int.tmod (wrap64 ((wrap64 ((l2_0.length : Int) - 1)) - a2_1)) (l1_1.length : Int)) == 0) = true := beq_iff_eq.mpr c40; have c40b1 : ((Int.tmod (wrap64 ((wrap64 ((l2_0.length : Int) - 1)) - a2_1)) (l1_1.length : Int)) != 0) = false := bne_eq_false_iff_eq.mpr c40; clear c40
        by_cases c41 : 0 ≤ a2_1
        ·rw [if_pos c41] at H; have c41b0 : decide (0 ≤ a2_1) = true := decide_eq_true c41; clear c41
         by_cases c42 : a2_1 < (l2_0.length : Int)
         ·rw [if_pos c42] at H; have c42b0 : decide (a2_1 < (l2_0.length : Int)) = true := decide_eq_true c42; clear c42; obtain ⟨ji43, hji43⟩ : ∃ j_ : Int, (wrap64 ((l2_0.length : Int) - 1)) = j_ := ⟨_, rfl⟩
          replace H : (if 0 ≤ (ji43) then (if (ji43) < (l2_0.length : Int) then (spec_RunOk.j1 kj3 (ji43) ((rd l2_0 a2_1) != (rd l2_0 (ji43))) a0_0 a0_1 a0_2 l0_3 l1_0 l1_1 l2_0 a2_1) else (none)) else (none)) = some r := by first | (rw [hji43] at H; exact H) | (simp only [hji43] at H ⊢; exact H)
          (try rw [hji43] at c40b0)
          (try rw [hji43] at c40b1)
          have hji43w : (IntKind.i64.wrap ((l2_0.length : Int) - 1)) = ji43 := (i64_w _).trans hji43
          by_cases c44 : 0 ≤ (ji43)
          ·rw [if_pos c44] at H; have c44b0 : decide (0 ≤ (ji43)) = true := decide_eq_true c44; clear c44
           by_cases c45 : (ji43) < (l2_0.length : Int)
           ·rw [if_pos c45] at H; have c45b0 : decide ((ji43) < (l2_0.length : Int)) = true := decide_eq_true c45; clear c45; have H' := Aside0.mk H; clear H
            try go_wp2
            replace BK163 := Aside0.mk (blk_drew BK163.out); replace BK164 := Aside0.mk (blk_drew BK164.out); replace BK165 := Aside0.mk (blk_drew BK165.out); replace HB := Aside0.mk (below_drew1 HB.out); have p172 : 0 ≤ (a2_1 : Int) := oD; have q172 : a2_1 < (l2_0.length : Int) := oD; obtain ⟨ad172, e172, hx172_0⟩ := Kd.at_int HR2_0.out a2_1 p172 q172; have hw172_0 := hx172_0
            cases e172
            replace hx172_0 := cT HB hx172_0; replace p172 := eq_true p172; replace q172 := eq_true q172; have p173 : 0 ≤ ((ji43) : Int) := oD; have q173 : (ji43) < (l2_0.length : Int) := oD; obtain ⟨ad173, e173, hx173_0⟩ := Kd.at_int HR2_0.out (ji43) p173 q173; have hw173_0 := hx173_0; obtain rfl : ad172 = ad173 := (by injection e173); replace hx173_0 := cT HB hx173_0; replace p173 := eq_true p173; replace q173 := eq_true q173; refine start_ (n := 31) (S := fun w' => w'.cell? ⟨gb165, 0, none⟩ = some (.slice (some ad172) l2_0.length c2_0) ∧ w'.cell? ⟨gb165, 1, none⟩ = some (.int .i64 a2_1) ∧ w'.cell? ⟨gb164, 0, none⟩ = some (.slice A1_0 l1_0.length c1_0) ∧ w'.cell? ⟨gb164, 1, none⟩ = some (.slice A1_1 l1_1.length c1_1) ∧ w'.cell? (ad172.add (a2_1).toNat) = some (.int .i64 (rd l2_0 a2_1)) ∧ w'.cell? (ad172.add ((ji43)).toNat) = some (.int .i64 (rd l2_0 (ji43)))) (ds := []) bl40 (by kernel_rfl) rfl rfl ⟨b1 BK165 0, b1 BK165 1, b1 BK164 0, b1 BK164 1, ((HB.out.cell (World.block_lt_of_cell? w _ hw172_0)).trans hw172_0), ((HB.out.cell (World.block_lt_of_cell? w _ hw173_0)).trans hw173_0)⟩ (fun hHeld => ?_); refine with_tabW spec_RunOk.tab4 spec_RunOk.bits4 (fun HT_ HW_ => ?_); generalize wc.drew = w46 at BK163 BK164 BK165 HB hx172_0 hx173_0 hHeld ⊢
            refine pu 0 (some 52) bl41 HT_ ?_ rfl rfl (.inl ⟨by rfl, ?_⟩) ?_ ?_ ?_; rotate_left; (intro w'; go_simp; with_reducible rfl); rotate_left; (simp only [Act.put, q5]; rfl)
            refine pu 2 (some 54) bl42 HT_ ?_ rfl rfl (.inl ⟨by rfl, ?_⟩) ?_ ?_ ?_; rotate_left; (intro w'; go_simp; with_reducible rfl); rotate_left; (simp only [Act.put, q5]; rfl)
            refine take_ (i := 1) (N := some 53) (v := ?_) (a' := ?_) bl43 rfl rfl (take_ofW HT_.out HW_.out (by kernel_rfl)) (fun _ _ _ h => h) (Or.inl ⟨by rfl, ?_⟩) hHeld ?_ ?_; rotate_left
            ·rintro w' ⟨s0, s1, s2, s3, s4, s5⟩; go_simp; with_reducible rfl
            rotate_left
            ·simp only [Act.put, q5]; rfl
            refine take_ (i := 3) (N := some 55) (v := ?_) (a' := ?_) bl44 rfl rfl (take_ofW HT_.out HW_.out (by kernel_rfl)) (fun _ _ _ h => h) (Or.inl ⟨by rfl, ?_⟩) hHeld ?_ ?_; rotate_left
            ·rintro w' ⟨s0, s1, s2, s3, s4, s5⟩; go_simp; with_reducible rfl
            rotate_left
            ·simp only [Act.put, q5]; rfl
            refine pu 4 (some 56) bl45 HT_ ?_ rfl rfl (.inl ⟨by rfl, ?_⟩) ?_ ?_ ?_; rotate_left; (intro w'; go_simp; with_reducible rfl); rotate_left; (simp only [Act.put, q5]; rfl)
            refine pu 5 (some 57) bl46 HT_ ?_ rfl rfl (.inl ⟨by rfl, ?_⟩) ?_ ?_ ?_; rotate_left; (intro w'; go_simp; with_reducible rfl); rotate_left; (simp only [Act.put, q5]; rfl)
            refine pu 6 (some 58) bl47 HT_ ?_ rfl rfl (.inl ⟨by rfl, ?_⟩) ?_ ?_ ?_; rotate_left; (intro w'; go_simp; with_reducible rfl); rotate_left; (simp only [Act.put, q5]; rfl)
            refine pu 7 (some 59) bl48 HT_ ?_ rfl rfl (.inl ⟨by rfl, ?_⟩) ?_ ?_ ?_; rotate_left; (intro w'; go_simp; with_reducible rfl); rotate_left; (simp only [Act.put, q5]; rfl)
            refine pu 8 (some 60) bl49 HT_ ?_ rfl rfl (.inl ⟨by rfl, ?_⟩) ?_ ?_ ?_; rotate_left; (intro w'; go_simp; with_reducible rfl); rotate_left; (simp only [Act.put, q5]; rfl)
            refine pu 11 (some 63) bl72 HT_ ?_ rfl rfl (.inl ⟨by rfl, ?_⟩) ?_ ?_ ?_; rotate_left; (intro w'; go_simp; with_reducible rfl); rotate_left; (simp only [Act.put, q5]; rfl)
            refine take_ (i := 9) (N := some 61) (v := ?_) (a' := ?_) bl73 rfl rfl (take_ofW HT_.out HW_.out (by kernel_rfl)) (fun _ _ _ h => h) (Or.inl ⟨by rfl, ?_⟩) hHeld ?_ ?_; rotate_left
            ·rintro w' ⟨s0, s1, s2, s3, s4, s5⟩; go_simp; with_reducible rfl
            rotate_left
            ·simp only [Act.put, q5]; rfl
            refine pu 10 (some 62) bl52 HT_ ?_ rfl rfl (.inl ⟨by rfl, ?_⟩) ?_ ?_ ?_; rotate_left; (intro w'; go_simp; with_reducible rfl); rotate_left; (simp only [Act.put, q5]; rfl)
            refine take_ (i := 12) (N := some 64) (v := ?_) (a' := ?_) bl53 rfl rfl (take_ofW HT_.out HW_.out (by kernel_rfl)) (fun _ _ _ h => h) (Or.inl ⟨by rfl, ?_⟩) hHeld ?_ ?_; rotate_left
            ·rintro w' ⟨s0, s1, s2, s3, s4, s5⟩; go_simp; with_reducible rfl
            rotate_left
            ·simp only [Act.put, q5]; rfl
            refine pu 13 (some 65) bl54 HT_ ?_ rfl rfl (.inl ⟨by rfl, ?_⟩) ?_ ?_ ?_; rotate_left; (intro w'; go_simp; with_reducible rfl); rotate_left; (simp only [Act.put, q5]; rfl)
            refine pu 14 (some 66) bl55 HT_ ?_ rfl rfl (.inl ⟨by rfl, ?_⟩) ?_ ?_ ?_; rotate_left; (intro w'; go_simp; with_reducible rfl); rotate_left; (simp only [Act.put, q5]; rfl)
            refine pu 15 (some 67) bl56 HT_ ?_ rfl rfl (.inl ⟨by rfl, ?_⟩) ?_ ?_ ?_; rotate_left; (intro w'; go_simp; with_reducible rfl); rotate_left; (simp only [Act.put, q5]; rfl)
            refine pu 16 (some 68) bl57 HT_ ?_ rfl rfl (.inl ⟨by rfl, ?_⟩) ?_ ?_ ?_; rotate_left; (intro w'; go_simp; with_reducible rfl); rotate_left; (simp only [Act.put, q5]; rfl)
            refine pu 17 (some 69) bl58 HT_ ?_ rfl rfl (.inl ⟨by rfl, ?_⟩) ?_ ?_ ?_; rotate_left; (intro w'; go_simp; with_reducible rfl); rotate_left; (simp only [Act.put, q5]; rfl)
            refine pu 18 (some 70) bl59 HT_ ?_ rfl rfl (.inl ⟨by rfl, ?_⟩) ?_ ?_ ?_; rotate_left; (intro w'; go_simp; with_reducible rfl); rotate_left; (simp only [Act.put, q5]; rfl)
            refine pu 20 (some 72) bl74 HT_ ?_ rfl rfl (.inl ⟨by rfl, ?_⟩) ?_ ?_ ?_; rotate_left; (intro w'; go_simp; with_reducible rfl); rotate_left; (simp only [Act.put, q5]; rfl)
            refine pu 24 (some 76) bl75 HT_ ?_ rfl rfl (.inl ⟨by rfl, ?_⟩) ?_ ?_ ?_; rotate_left; (intro w'; go_simp; with_reducible rfl); rotate_left; (simp only [Act.put, q5]; rfl)
            refine pu 26 (some 78) bl76 HT_ ?_ rfl rfl (.inl ⟨by rfl, ?_⟩) ?_ ?_ ?_; rotate_left; (intro w'; go_simp; with_reducible rfl); rotate_left; (simp only [Act.put, q5]; rfl)
            refine take_ (i := 19) (N := some 71) (v := ?_) (a' := ?_) bl77 rfl rfl (take_ofW HT_.out HW_.out (by kernel_rfl)) (fun _ _ _ h => h) (Or.inl ⟨by rfl, ?_⟩) hHeld ?_ ?_; rotate_left
            ·rintro w' ⟨s0, s1, s2, s3, s4, s5⟩; go_simp; with_reducible rfl
            rotate_left
            ·simp only [Act.put, q5]; rfl
            refine take_ (i := 21) (N := some 73) (v := ?_) (a' := ?_) bl78 rfl rfl (take_ofW HT_.out HW_.out (by kernel_rfl)) (fun _ _ _ h => h) (Or.inl ⟨by rfl, ?_⟩) hHeld ?_ ?_; rotate_left
            ·rintro w' ⟨s0, s1, s2, s3, s4, s5⟩; go_simp; with_reducible rfl
            rotate_left
            ·simp only [Act.put, q5]; rfl
            refine pu 22 (some 74) bl79 HT_ ?_ rfl rfl (.inl ⟨by rfl, ?_⟩) ?_ ?_ ?_; rotate_left; (intro w'; go_simp; with_reducible rfl); rotate_left; (simp only [Act.put, q5]; rfl)
            refine take_ (i := 23) (N := some 75) (v := ?_) (a' := ?_) bl80 rfl rfl (take_ofW HT_.out HW_.out (by kernel_rfl)) (fun _ _ _ h => h) (Or.inl ⟨by rfl, ?_⟩) hHeld ?_ ?_; rotate_left
            ·rintro w' ⟨s0, s1, s2, s3, s4, s5⟩; go_simp; with_reducible rfl
            rotate_left
            ·simp only [Act.put, q5]; rfl
            refine take_ (i := 25) (N := some 77) (v := ?_) (a' := ?_) bl67 rfl rfl (take_ofW HT_.out HW_.out (by kernel_rfl)) (fun _ _ _ h => h) (Or.inl ⟨by rfl, ?_⟩) hHeld ?_ ?_; rotate_left
            ·rintro w' ⟨s0, s1, s2, s3, s4, s5⟩; go_simp; with_reducible rfl
            rotate_left
            ·simp only [Act.put, q5]; rfl
            refine pu 27 (some 79) bl68 HT_ ?_ rfl rfl (.inl ⟨by rfl, ?_⟩) ?_ ?_ ?_; rotate_left; (intro w'; go_simp; with_reducible rfl); rotate_left; (simp only [Act.put, q5]; rfl)
            refine take_ (i := 28) (N := some 80) (v := ?_) (a' := ?_) bl69 rfl rfl (take_ofW HT_.out HW_.out (by kernel_rfl)) (fun _ _ _ h => h) (Or.inl ⟨by rfl, ?_⟩) hHeld ?_ ?_; rotate_left
            ·rintro w' ⟨s0, s1, s2, s3, s4, s5⟩; go_simp; with_reducible rfl
            rotate_left
            ·simp only [Act.put, q5]; rfl
            refine pu 29 (some 81) bl70 HT_ ?_ rfl rfl (.inl ⟨by rfl, ?_⟩) ?_ ?_ ?_; rotate_left; (intro w'; go_simp; with_reducible rfl); rotate_left; (simp only [Act.put, q5]; rfl)
            refine pu 30 (some 82) bl71 HT_ ?_ rfl rfl (.inl ⟨by rfl, ?_⟩) ?_ ?_ ?_; rotate_left; (intro w'; go_simp; with_reducible rfl); rotate_left; (simp only [Act.put, q5]; rfl)
            refine done_ (done_of HT_.out (by kernel_rfl)) ?_
            try go_wp2
            (first | go_meet | ((try simp only [← hji43]); go_meet))
            case rel => exact ⟨_, (((rd l2_0 a2_1) != (rd l2_0 (ji43)))), (by first | rfl | (simp; done) | (simp only [← hji43] <;> (first | rfl | simp)) | (simp [*]; done)), (by first | exact H' | (have h_ := H'; (try simp only [← hji43] at h_); (try simp only [← hji43]); exact h_)), ⟨by have := HJ3.out; first | omega | exact Nat.le_refl _⟩, ⟨zB BK163.out⟩, ⟨zB BK164.out⟩, ⟨zB BK165.out⟩, ⟨zS HB.out⟩⟩
           ·rw [if_neg c45] at H; exact absurd H (by simp)
          ·rw [if_neg c44] at H; exact absurd H (by simp)
         ·rw [if_neg c42] at H; exact absurd H (by simp)
        ·rw [if_neg c41] at H; exact absurd H (by simp)
       ·rw [if_neg c40] at H; have c40b0 : ((Int.tmod (wrap64 ((wrap64 ((l2_0.length : Int) - 1)) - a2_1)) (l1_1.length : Int)) == 0) = false := beq_eq_false_iff_ne.mpr c40; have c40b1 : ((Int.tmod (wrap64 ((wrap64 ((l2_0.length : Int) - 1)) - a2_1)) (l1_1.length : Int)) != 0) = true := bne_iff_ne.mpr c40; have H' := Aside0.mk H; clear H
        try go_wp2
        replace BK163 := Aside0.mk (blk_drew BK163.out); replace BK164 := Aside0.mk (blk_drew BK164.out); replace BK165 := Aside0.mk (blk_drew BK165.out); replace HB := Aside0.mk (below_drew1 HB.out); refine start_ (n := 31) (S := fun w' => w'.cell? ⟨gb165, 0, none⟩ = some (.slice A2_0 l2_0.length c2_0) ∧ w'.cell? ⟨gb165, 1, none⟩ = some (.int .i64 a2_1) ∧ w'.cell? ⟨gb164, 0, none⟩ = some (.slice A1_0 l1_0.length c1_0) ∧ w'.cell? ⟨gb164, 1, none⟩ = some (.slice A1_1 l1_1.length c1_1)) (ds := []) bl40 (by kernel_rfl) rfl rfl ⟨b1 BK165 0, b1 BK165 1, b1 BK164 0, b1 BK164 1⟩ (fun hHeld => ?_); refine with_tabW spec_RunOk.tab4 spec_RunOk.bits4 (fun HT_ HW_ => ?_); generalize wc.drew = w47 at BK163 BK164 BK165 HB hHeld ⊢
        refine pu 0 (some 52) bl41 HT_ ?_ rfl rfl (.inl ⟨by rfl, ?_⟩) ?_ ?_ ?_; rotate_left; (intro w'; go_simp; with_reducible rfl); rotate_left; (simp only [Act.put, q5]; rfl)
        refine pu 2 (some 54) bl42 HT_ ?_ rfl rfl (.inl ⟨by rfl, ?_⟩) ?_ ?_ ?_; rotate_left; (intro w'; go_simp; with_reducible rfl); rotate_left; (simp only [Act.put, q5]; rfl)
        refine take_ (i := 1) (N := some 53) (v := ?_) (a' := ?_) bl43 rfl rfl (take_ofW HT_.out HW_.out (by kernel_rfl)) (fun _ _ _ h => h) (Or.inl ⟨by rfl, ?_⟩) hHeld ?_ ?_; rotate_left
        ·rintro w' ⟨s0, s1, s2, s3⟩; go_simp; with_reducible rfl
        rotate_left
        ·simp only [Act.put, q5]; rfl
        refine take_ (i := 3) (N := some 55) (v := ?_) (a' := ?_) bl44 rfl rfl (take_ofW HT_.out HW_.out (by kernel_rfl)) (fun _ _ _ h => h) (Or.inl ⟨by rfl, ?_⟩) hHeld ?_ ?_; rotate_left
        ·rintro w' ⟨s0, s1, s2, s3⟩; go_simp; with_reducible rfl
        rotate_left
        ·simp only [Act.put, q5]; rfl
        refine pu 4 (some 56) bl45 HT_ ?_ rfl rfl (.inl ⟨by rfl, ?_⟩) ?_ ?_ ?_; rotate_left; (intro w'; go_simp; with_reducible rfl); rotate_left; (simp only [Act.put, q5]; rfl)
        refine pu 5 (some 57) bl46 HT_ ?_ rfl rfl (.inl ⟨by rfl, ?_⟩) ?_ ?_ ?_; rotate_left; (intro w'; go_simp; with_reducible rfl); rotate_left; (simp only [Act.put, q5]; rfl)
        refine pu 6 (some 58) bl47 HT_ ?_ rfl rfl (.inl ⟨by rfl, ?_⟩) ?_ ?_ ?_; rotate_left; (intro w'; go_simp; with_reducible rfl); rotate_left; (simp only [Act.put, q5]; rfl)
        refine pu 7 (some 59) bl48 HT_ ?_ rfl rfl (.inl ⟨by rfl, ?_⟩) ?_ ?_ ?_; rotate_left; (intro w'; go_simp; with_reducible rfl); rotate_left; (simp only [Act.put, q5]; rfl)
        refine pu 8 (some 60) bl49 HT_ ?_ rfl rfl (.inl ⟨by rfl, ?_⟩) ?_ ?_ ?_; rotate_left; (intro w'; go_simp; with_reducible rfl); rotate_left; (simp only [Act.put, q5]; rfl)
        refine pu 11 (some 63) bl72 HT_ ?_ rfl rfl (.inl ⟨by rfl, ?_⟩) ?_ ?_ ?_; rotate_left; (intro w'; go_simp; with_reducible rfl); rotate_left; (simp only [Act.put, q5]; rfl)
        refine take_ (i := 9) (N := some 61) (v := ?_) (a' := ?_) bl73 rfl rfl (take_ofW HT_.out HW_.out (by kernel_rfl)) (fun _ _ _ h => h) (Or.inl ⟨by rfl, ?_⟩) hHeld ?_ ?_; rotate_left
        ·rintro w' ⟨s0, s1, s2, s3⟩; go_simp; with_reducible rfl
        rotate_left
        ·simp only [Act.put, q5]; rfl
        refine pu 10 (some 62) bl52 HT_ ?_ rfl rfl (.inl ⟨by rfl, ?_⟩) ?_ ?_ ?_; rotate_left; (intro w'; go_simp; with_reducible rfl); rotate_left; (simp only [Act.put, q5]; rfl)
        refine take_ (i := 12) (N := some 64) (v := ?_) (a' := ?_) bl53 rfl rfl (take_ofW HT_.out HW_.out (by kernel_rfl)) (fun _ _ _ h => h) (Or.inl ⟨by rfl, ?_⟩) hHeld ?_ ?_; rotate_left
        ·rintro w' ⟨s0, s1, s2, s3⟩; go_simp; with_reducible rfl
        rotate_left
        ·simp only [Act.put, q5]; rfl
        refine pu 13 (some 65) bl54 HT_ ?_ rfl rfl (.inl ⟨by rfl, ?_⟩) ?_ ?_ ?_; rotate_left; (intro w'; go_simp; with_reducible rfl); rotate_left; (simp only [Act.put, q5]; rfl)
        refine pu 14 (some 66) bl55 HT_ ?_ rfl rfl (.inl ⟨by rfl, ?_⟩) ?_ ?_ ?_; rotate_left; (intro w'; go_simp; with_reducible rfl); rotate_left; (simp only [Act.put, q5]; rfl)
        refine pu 15 (some 67) bl56 HT_ ?_ rfl rfl (.inl ⟨by rfl, ?_⟩) ?_ ?_ ?_; rotate_left; (intro w'; go_simp; with_reducible rfl); rotate_left; (simp only [Act.put, q5]; rfl)
        refine pu 16 (some 68) bl57 HT_ ?_ rfl rfl (.inl ⟨by rfl, ?_⟩) ?_ ?_ ?_; rotate_left; (intro w'; go_simp; with_reducible rfl); rotate_left; (simp only [Act.put, q5]; rfl)
        refine pu 17 (some 69) bl58 HT_ ?_ rfl rfl (.inl ⟨by rfl, ?_⟩) ?_ ?_ ?_; rotate_left; (intro w'; go_simp; with_reducible rfl); rotate_left; (simp only [Act.put, q5]; rfl)
        refine pu 18 (some 70) bl59 HT_ undef rfl rfl (.inr ⟨by rfl, rfl⟩) ?_ ?_ ?_; rotate_left; (simp only [Act.put, q5]; rfl)
        refine pu 19 (some 71) bl60 HT_ undef rfl rfl (.inr ⟨by rfl, rfl⟩) ?_ ?_ ?_; rotate_left; (simp only [Act.put, q5]; rfl)
        refine pu 20 (some 72) bl61 HT_ undef rfl rfl (.inr ⟨by rfl, rfl⟩) ?_ ?_ ?_; rotate_left; (simp only [Act.put, q5]; rfl)
        refine pu 21 (some 73) bl62 HT_ undef rfl rfl (.inr ⟨by rfl, rfl⟩) ?_ ?_ ?_; rotate_left; (simp only [Act.put, q5]; rfl)
        refine pu 22 (some 74) bl63 HT_ undef rfl rfl (.inr ⟨by rfl, rfl⟩) ?_ ?_ ?_; rotate_left; (simp only [Act.put, q5]; rfl)
        refine pu 23 (some 75) bl64 HT_ undef rfl rfl (.inr ⟨by rfl, rfl⟩) ?_ ?_ ?_; rotate_left; (simp only [Act.put, q5]; rfl)
        refine pu 24 (some 76) bl65 HT_ undef rfl rfl (.inr ⟨by rfl, rfl⟩) ?_ ?_ ?_; rotate_left; (simp only [Act.put, q5]; rfl)
        refine pu 25 (some 77) bl66 HT_ undef rfl rfl (.inr ⟨by rfl, rfl⟩) ?_ ?_ ?_; rotate_left; (simp only [Act.put, q5]; rfl)
        refine pu 26 (some 78) bl67 HT_ undef rfl rfl (.inr ⟨by rfl, rfl⟩) ?_ ?_ ?_; rotate_left; (simp only [Act.put, q5]; rfl)
        refine pu 27 (some 79) bl68 HT_ undef rfl rfl (.inr ⟨by rfl, rfl⟩) ?_ ?_ ?_; rotate_left; (simp only [Act.put, q5]; rfl)
        refine pu 28 (some 80) bl69 HT_ undef rfl rfl (.inr ⟨by rfl, rfl⟩) ?_ ?_ ?_; rotate_left; (simp only [Act.put, q5]; rfl)
        refine pu 29 (some 81) bl70 HT_ undef rfl rfl (.inr ⟨by rfl, rfl⟩) ?_ ?_ ?_; rotate_left; (simp only [Act.put, q5]; rfl)
        refine pu 30 (some 82) bl71 HT_ ?_ rfl rfl (.inl ⟨by rfl, ?_⟩) ?_ ?_ ?_; rotate_left; (intro w'; go_simp; with_reducible rfl); rotate_left; (simp only [Act.put, q5]; rfl)
        refine done_ (done_of HT_.out (by kernel_rfl)) ?_
        try go_wp2
        go_meet
        case rel => exact ⟨_, (true), (by first | rfl | (simp; done) | (simp [*]; done) | (rw [Int.tmod_eq_emod_of_nonneg (Int.natCast_nonneg _)]; done)), H', ⟨by have := HJ3.out; first | omega | exact Nat.le_refl _⟩, ⟨zB BK163.out⟩, ⟨zB BK164.out⟩, ⟨zB BK165.out⟩, ⟨zS HB.out⟩⟩
    case rest =>
     clear HC36
     try clear c1
     try clear p1
     try clear q1
     try clear hx1
     try clear c2
     try clear p2
     try clear c3
     try clear c4
     try clear p6
     try clear p17
     try clear q17
     try clear hx17
     try clear c37
     try clear c37b0
     try clear c39
     try clear c39b0
     try clear c39b1
     try clear c39b2
     try clear c40
     try clear c40b0
     try clear c40b1
     try clear c41
     try clear c41b0
     try clear c42
     try clear c42b0
     try clear c44
     try clear c44b0
     try clear c45
     try clear c45b0
     try clear hx172_0
     try clear hx173_0
     try clear p172
     try clear p173
     try clear q172
     try clear q173
     obtain ⟨kq, x82_35, rfl, HA, HJ35, BK163, BK164, BK165, HB⟩ := hcut
     cases kq with
     | zero => exact absurd HA.out (by simp [spec_RunOk.j1])
     | succ kj35 =>
      have H := HA.out; clear HA; simp only [spec_RunOk.j1] at H
      by_cases c48 : x82_35 = true
      ·subst c48
       have H1 : (some false) = some r := by rw [if_pos rfl] at H; exact H
       clear H; have H := H1; clear H1; obtain rfl := Option.some.inj H
       go_wp2
       go_ret; exact ⟨by first | rfl | (simp [errW_none, errW_some] <;> rfl) | (simp [*, errW_none, errW_some] <;> rfl), by repeat (first | (with_reducible first | exact HB.out | apply below_alloc | apply pw_below_drewN | apply below_drew1 | refine below_set ?_ GE163.out | refine below_set ?_ GE164.out | refine below_set ?_ GE165.out) | exact HB.out)⟩
      ·replace c48 := Bool.eq_false_iff.mpr c48; subst c48
       have H1 : (spec_RunOk.l0 kj35 (wrap64 ((l2_0.length : Int) - 1)) false 0 a0_0 a0_1 a0_2 l0_3 l1_0 l1_1 l2_0 a2_1) = some r := by rw [if_neg (show ¬ (false = true) by decide)] at H; exact H
       clear H; have H := H1; clear H1; have H' := Aside0.mk H; clear H
       go_wp2
       go_loopg [8, 9] kj35 (fun kq v8 v9 w' => ∃ (x8_3 : Bool) (x9_3 : Int), v8 = .bool x8_3 ∧ v9 = .int .i64 x9_3 ∧ Aside0 (spec_RunOk.l0 kq (wrap64 ((l2_0.length : Int) - 1)) x8_3 x9_3 a0_0 a0_1 a0_2 l0_3 l1_0 l1_1 l2_0 a2_1 = some r) ∧ Aside0 (kq ≤ kj35) ∧ Aside0 (w'.heap[gb163]? = some (.cells #[.int .i64 a0_0, .int .i64 a0_1, .int .i64 a0_2, (.slice A0_3 l0_3.length c0_3)] 24 (0, 0))) ∧ Aside0 (w'.heap[gb164]? = some (.cells #[(.slice A1_0 l1_0.length c1_0), (.slice A1_1 l1_1.length c1_1)] 78 (0, 0))) ∧ Aside0 (w'.heap[gb165]? = some (.cells #[(.slice A2_0 l2_0.length c2_0), .int .i64 a2_1] 80 (0, 0))) ∧ Aside0 (Below w.heap.size w w'))
       case atStart => exact ⟨(false), (0), (by first | rfl | (simp; done) | (simp [*]; done) | (rw [Int.tmod_eq_emod_of_nonneg (Int.natCast_nonneg _)]; done)), (by first | rfl | (simp; done) | (simp [*]; done) | (rw [Int.tmod_eq_emod_of_nonneg (Int.natCast_nonneg _)]; done)), H', ⟨Nat.le_refl _⟩, ⟨zB BK163.out⟩, ⟨zB BK164.out⟩, ⟨zB BK165.out⟩, ⟨zS HB.out⟩⟩
       case round =>
        clear H'
        try clear c1
        try clear p1
        try clear q1
        try clear hx1
        try clear c2
        try clear p2
        try clear c3
        try clear c4
        try clear p6
        try clear p17
        try clear q17
        try clear hx17
        try clear c37
        try clear c37b0
        try clear c39
        try clear c39b0
        try clear c39b1
        try clear c39b2
        try clear c40
        try clear c40b0
        try clear c40b1
        try clear c41
        try clear c41b0
        try clear c42
        try clear c42b0
        try clear c44
        try clear c44b0
        try clear c45
        try clear c45b0
        try clear c48
        try clear hx172_0
        try clear hx173_0
        try clear p1
        try clear p17
        try clear p172
        try clear p173
        try clear p2
        try clear p6
        try clear q1
        try clear q17
        try clear q172
        try clear q173
        obtain ⟨x8_3, x9_3, rfl, rfl, HA, HK3, BK163, BK164, BK165, HB⟩ := hrel
        cases gk with
        | zero => exact absurd HA.out (by simp [spec_RunOk.l0])
        | succ k3 =>
         have H := HA.out; clear HA; simp only [spec_RunOk.l0] at H
         by_cases c49 : x9_3 < (wrap64 ((l2_0.length : Int) - 1))
         ·rw [if_pos c49] at H; have c49b0 : decide (x9_3 < (wrap64 ((l2_0.length : Int) - 1))) = true := decide_eq_true c49; clear c49; have H' := Aside0.mk H; clear H
          go_wp2
          go_loopg [8, 10, 11] k3 (fun kq v8 v10 v11 w' => ∃ (x8_4 : Bool) (x10_4 : Bool) (x11_4 : Int), v8 = .bool x8_4 ∧ v10 = .bool x10_4 ∧ v11 = .int .i64 x11_4 ∧ Aside0 (spec_RunOk.l1 kq (wrap64 ((l2_0.length : Int) - 1)) x8_4 x9_3 x10_4 x11_4 a0_0 a0_1 a0_2 l0_3 l1_0 l1_1 l2_0 a2_1 = some r) ∧ Aside0 (kq ≤ k3) ∧ Aside0 (w'.heap[gb163]? = some (.cells #[.int .i64 a0_0, .int .i64 a0_1, .int .i64 a0_2, (.slice A0_3 l0_3.length c0_3)] 24 (0, 0))) ∧ Aside0 (w'.heap[gb164]? = some (.cells #[(.slice A1_0 l1_0.length c1_0), (.slice A1_1 l1_1.length c1_1)] 78 (0, 0))) ∧ Aside0 (w'.heap[gb165]? = some (.cells #[(.slice A2_0 l2_0.length c2_0), .int .i64 a2_1] 80 (0, 0))) ∧ Aside0 (Below w.heap.size w w'))
          case atStart => exact ⟨(x8_3), (false), (0), (by first | rfl | (simp; done) | (simp [*]; done) | (rw [Int.tmod_eq_emod_of_nonneg (Int.natCast_nonneg _)]; done)), (by first | rfl | (simp; done) | (simp [*]; done) | (rw [Int.tmod_eq_emod_of_nonneg (Int.natCast_nonneg _)]; done)), (by first | rfl | (simp; done) | (simp [*]; done) | (rw [Int.tmod_eq_emod_of_nonneg (Int.natCast_nonneg _)]; done)), H', ⟨Nat.le_refl _⟩, ⟨zB BK163.out⟩, ⟨zB BK164.out⟩, ⟨zB BK165.out⟩, ⟨zS HB.out⟩⟩
          case round =>
           clear H'
           try clear c1
           try clear p1
           try clear q1
           try clear hx1
           try clear c2
           try clear p2
           try clear c3
           try clear c4
           try clear p6
           try clear p17
           try clear q17
           try clear hx17
           try clear c37
           try clear c37b0
           try clear c39
           try clear c39b0
           try clear c39b1
           try clear c39b2
           try clear c40
           try clear c40b0
           try clear c40b1
           try clear c41
           try clear c41b0
           try clear c42
           try clear c42b0
           try clear c44
           try clear c44b0
           try clear c45
           try clear c45b0
           try clear c48
           try clear c49
           try clear c49b0
           try clear hx172_0
           try clear hx173_0
           try clear p1
           try clear p17
           try clear p172
           try clear p173
           try clear p2
           try clear p6
           try clear q1
           try clear q17
           try clear q172
           try clear q173
           obtain ⟨x8_4, x10_4, x11_4, rfl, rfl, rfl, HA, HK4, BK163, BK164, BK165, HB⟩ := hrel
           cases gk with
           | zero => exact absurd HA.out (by simp [spec_RunOk.l1])
           | succ k4 =>
            have H := HA.out; clear HA; simp only [spec_RunOk.l1] at H
            by_cases c50 : x11_4 < (l0_3.length : Int)
            ·rw [if_pos c50] at H; have c50b0 : decide (x11_4 < (l0_3.length : Int)) = true := decide_eq_true c50; clear c50
             by_cases c51 : 0 ≤ x11_4
             ·rw [if_pos c51] at H; have c51b0 : decide (0 ≤ x11_4) = true := decide_eq_true c51; clear c51
              by_cases c52 : 0 ≤ x9_3
              ·rw [if_pos c52] at H; have c52b0 : decide (0 ≤ x9_3) = true := decide_eq_true c52; clear c52
               by_cases c53 : x9_3 < (l2_0.length : Int)
               ·rw [if_pos c53] at H; have c53b0 : decide (x9_3 < (l2_0.length : Int)) = true := decide_eq_true c53; clear c53
                by_cases c54 : ((rd_T68 l0_3 x11_4).f0) = (rd l2_0 x9_3)
                ·rw [if_pos c54] at H; have c54b0 : (((rd_T68 l0_3 x11_4).f0) == (rd l2_0 x9_3)) = true := beq_iff_eq.mpr c54; have c54b1 : (((rd_T68 l0_3 x11_4).f0) != (rd l2_0 x9_3)) = false := bne_eq_false_iff_eq.mpr c54; clear c54; replace H := Option.bind_eq_some_iff.mp H; obtain ⟨t177, A550, H⟩ := H; replace H : (if ((rd_T68 l0_3 x11_4).f1) = t177 then (if 0 ≤ (wrap64 (x9_3 + 1)) then (if (wrap64 (x9_3 + 1)) < (l2_0.length : Int) then (if ((rd_T68 l0_3 x11_4).f2) = (rd l2_0 (wrap64 (x9_3 + 1))) then (if x8_4 = true then (spec_RunOk.l1 k4 (wrap64 ((l2_0.length : Int) - 1)) true x9_3 true (wrap64 (x11_4 + 1)) a0_0 a0_1 a0_2 l0_3 l1_0 l1_1 l2_0 a2_1) else (if (rd_T68 l0_3 x11_4).f3 = true then (spec_RunOk.l1 k4 (wrap64 ((l2_0.length : Int) - 1)) (decide (x9_3 ≥ a2_1)) x9_3 true (wrap64 (x11_4 + 1)) a0_0 a0_1 a0_2 l0_3 l1_0 l1_1 l2_0 a2_1) else (spec_RunOk.l1 k4 (wrap64 ((l2_0.length : Int) - 1)) false x9_3 true (wrap64 (x11_4 + 1)) a0_0 a0_1 a0_2 l0_3 l1_0 l1_1 l2_0 a2_1))) else (spec_RunOk.l1 k4 (wrap64 ((l2_0.length : Int) - 1)) x8_4 x9_3 x10_4 (wrap64 (x11_4 + 1)) a0_0 a0_1 a0_2 l0_3 l1_0 l1_1 l2_0 a2_1)) else (none)) else (none)) else (spec_RunOk.l1 k4 (wrap64 ((l2_0.length : Int) - 1)) x8_4 x9_3 x10_4 (wrap64 (x11_4 + 1)) a0_0 a0_1 a0_2 l0_3 l1_0 l1_1 l2_0 a2_1)) = some r := H; have A55 := Aside0.mk A550; clear A550
                 by_cases c56 : ((rd_T68 l0_3 x11_4).f1) = t177
                 ·rw [if_pos c56] at H; have c56b0 : (((rd_T68 l0_3 x11_4).f1) == t177) = true := beq_iff_eq.mpr c56; have c56b1 : (((rd_T68 l0_3 x11_4).f1) != t177) = false := bne_eq_false_iff_eq.mpr c56; clear c56; obtain ⟨ji57, hji57⟩ : ∃ j_ : Int, (wrap64 (x9_3 + 1)) = j_ := ⟨_, rfl⟩
                  replace H : (if 0 ≤ (ji57) then (if (ji57) < (l2_0.length : Int) then (if ((rd_T68 l0_3 x11_4).f2) = (rd l2_0 (ji57)) then (if x8_4 = true then (spec_RunOk.l1 k4 (wrap64 ((l2_0.length : Int) - 1)) true x9_3 true (wrap64 (x11_4 + 1)) a0_0 a0_1 a0_2 l0_3 l1_0 l1_1 l2_0 a2_1) else (if (rd_T68 l0_3 x11_4).f3 = true then (spec_RunOk.l1 k4 (wrap64 ((l2_0.length : Int) - 1)) (decide (x9_3 ≥ a2_1)) x9_3 true (wrap64 (x11_4 + 1)) a0_0 a0_1 a0_2 l0_3 l1_0 l1_1 l2_0 a2_1) else (spec_RunOk.l1 k4 (wrap64 ((l2_0.length : Int) - 1)) false x9_3 true (wrap64 (x11_4 + 1)) a0_0 a0_1 a0_2 l0_3 l1_0 l1_1 l2_0 a2_1))) else (spec_RunOk.l1 k4 (wrap64 ((l2_0.length : Int) - 1)) x8_4 x9_3 x10_4 (wrap64 (x11_4 + 1)) a0_0 a0_1 a0_2 l0_3 l1_0 l1_1 l2_0 a2_1)) else (none)) else (none)) = some r := by first | (rw [hji57] at H; exact H) | (simp only [hji57] at H ⊢; exact H)
                  (try rw [hji57] at A55)
                  have hji57w : (IntKind.i64.wrap (x9_3 + 1)) = ji57 := (i64_w _).trans hji57
                  by_cases c58 : 0 ≤ (ji57)
                  ·rw [if_pos c58] at H; have c58b0 : decide (0 ≤ (ji57)) = true := decide_eq_true c58; clear c58
                   by_cases c59 : (ji57) < (l2_0.length : Int)
                   ·rw [if_pos c59] at H; have c59b0 : decide ((ji57) < (l2_0.length : Int)) = true := decide_eq_true c59; clear c59
                    by_cases c60 : ((rd_T68 l0_3 x11_4).f2) = (rd l2_0 (ji57))
                    ·rw [if_pos c60] at H; have c60b0 : (((rd_T68 l0_3 x11_4).f2) == (rd l2_0 (ji57))) = true := beq_iff_eq.mpr c60; have c60b1 : (((rd_T68 l0_3 x11_4).f2) != (rd l2_0 (ji57))) = false := bne_eq_false_iff_eq.mpr c60; clear c60
                     by_cases c61 : x8_4 = true
                     ·subst c61
                      have H1 : (spec_RunOk.l1 k4 (wrap64 ((l2_0.length : Int) - 1)) true x9_3 true (wrap64 (x11_4 + 1)) a0_0 a0_1 a0_2 l0_3 l1_0 l1_1 l2_0 a2_1) = some r := by rw [if_pos rfl] at H; exact H
                      clear H; have H := H1; clear H1; have H' := Aside0.mk H; clear H; have hnb62 := NB163_164.out; have hnc62 := NB164_163.out; have hnb63 := NB163_165.out; have hnc63 := NB165_163.out; have hcz64_0 : wr.cell? ⟨gb163, 0, none⟩ = some (.int .i64 a0_0) := b1 BK163 0; have hcz64_1 : wr.cell? ⟨gb163, 1, none⟩ = some (.int .i64 a0_1) := b1 BK163 1; have hcz64_2 : wr.cell? ⟨gb163, 2, none⟩ = some (.int .i64 a0_2) := b1 BK163 2; have hcz64_3 : wr.cell? ⟨gb163, 3, none⟩ = some (.slice A0_3 l0_3.length c0_3) := b1 BK163 3; have hfz64_0 := blk_frozen BK163.out 0; have hfz64_1 := blk_frozen BK163.out 1; have hfz64_2 := blk_frozen BK163.out 2; have hfz64_3 := blk_frozen BK163.out 3; have p174 : 0 ≤ (x11_4 : Int) := oD; have q174 : x11_4 < (l0_3.length : Int) := oD; obtain ⟨ad174, e174, hx174_0, hx174_1, hx174_2, hx174_3⟩ := at_T68 HR0_3.out x11_4 p174 q174
                      cases e174
                      replace hx174_0 := cT HB hx174_0; replace hx174_1 := cT HB hx174_1; replace hx174_2 := cT HB hx174_2; replace hx174_3 := cT HB hx174_3; replace p174 := eq_true p174; replace q174 := eq_true q174
                      try go_wp2_with (first | ((with_reducible refine gate_dst (N := 12) rfl ?_); (try (refine gate_guard (by rfl) ?_; dsimp only)); refine box_event ?hg (N := 12) ?hd (cs := #[.int .i64 0, .int .i64 0, .int .i64 0, .bool false]) (t := 68) ?hr ?_; (case hd => rfl); (case hg => rfl); (case hr => first | (go_simp; done) | (go_simp; rfl)); intro gb175 hg w65 hbox hb; have BK175 := Aside0.mk (hbox); have GW175 := xG HB hg; have GE175 := xG HB hg; replace HB := xS HB hb; have NB163_175 := xN BK163 hg; have NB175_163 := xM BK163 hg; replace BK163 := xB BK163 hb; have NB164_175 := xN BK164 hg; have NB175_164 := xM BK164 hg; replace BK164 := xB BK164 hb; have NB165_175 := xN BK165 hg; have NB175_165 := xM BK165 hg; replace BK165 := xB BK165 hb; clear hb hbox hg; have hnb66 := NB175_163.out; have hnc66 := NB163_175.out; have hnb67 := NB175_164.out; have hnc67 := NB164_175.out; have hnb68 := NB175_165.out; have hnc68 := NB165_175.out; have hcz69_0 : w65.cell? ⟨gb175, 0, none⟩ = some (.int .i64 0) := b1 BK175 0; have hcz69_1 : w65.cell? ⟨gb175, 1, none⟩ = some (.int .i64 0) := b1 BK175 1; have hcz69_2 : w65.cell? ⟨gb175, 2, none⟩ = some (.int .i64 0) := b1 BK175 2; have hcz69_3 : w65.cell? ⟨gb175, 3, none⟩ = some (.bool false) := b1 BK175 3; have hfz69_0 := blk_frozen BK175.out 0; have hfz69_1 := blk_frozen BK175.out 1; have hfz69_2 := blk_frozen BK175.out 2; have hfz69_3 := blk_frozen BK175.out 3))
                      have n0_ : Aside0 (((((w65.setCell ⟨gb175, 0, none⟩ (.int .i64 ((rd_T68 l0_3 x11_4).f0))).setCell ⟨gb175, 1, none⟩ (.int .i64 ((rd_T68 l0_3 x11_4).f1))).setCell ⟨gb175, 2, none⟩ (.int .i64 ((rd_T68 l0_3 x11_4).f2))).setCell ⟨gb175, 3, none⟩ (.bool ((rd_T68 l0_3 x11_4).f3))).heap[gb163]? = some (.cells #[.int .i64 a0_0, .int .i64 a0_1, .int .i64 a0_2, .slice (some ad174) l0_3.length c0_3] 24 (0, 0))) := ⟨zB BK163.out⟩; have n1_ : Aside0 (((((w65.setCell ⟨gb175, 0, none⟩ (.int .i64 ((rd_T68 l0_3 x11_4).f0))).setCell ⟨gb175, 1, none⟩ (.int .i64 ((rd_T68 l0_3 x11_4).f1))).setCell ⟨gb175, 2, none⟩ (.int .i64 ((rd_T68 l0_3 x11_4).f2))).setCell ⟨gb175, 3, none⟩ (.bool ((rd_T68 l0_3 x11_4).f3))).heap[gb164]? = some (.cells #[.slice A1_0 l1_0.length c1_0, .slice A1_1 l1_1.length c1_1] 78 (0, 0))) := ⟨zB BK164.out⟩; have n2_ : Aside0 (((((w65.setCell ⟨gb175, 0, none⟩ (.int .i64 ((rd_T68 l0_3 x11_4).f0))).setCell ⟨gb175, 1, none⟩ (.int .i64 ((rd_T68 l0_3 x11_4).f1))).setCell ⟨gb175, 2, none⟩ (.int .i64 ((rd_T68 l0_3 x11_4).f2))).setCell ⟨gb175, 3, none⟩ (.bool ((rd_T68 l0_3 x11_4).f3))).heap[gb165]? = some (.cells #[.slice A2_0 l2_0.length c2_0, .int .i64 a2_1] 80 (0, 0))) := ⟨zB BK165.out⟩; have n3_ : Aside0 (((((w65.setCell ⟨gb175, 0, none⟩ (.int .i64 ((rd_T68 l0_3 x11_4).f0))).setCell ⟨gb175, 1, none⟩ (.int .i64 ((rd_T68 l0_3 x11_4).f1))).setCell ⟨gb175, 2, none⟩ (.int .i64 ((rd_T68 l0_3 x11_4).f2))).setCell ⟨gb175, 3, none⟩ (.bool ((rd_T68 l0_3 x11_4).f3))).heap[gb175]? = some (.cells #[.int .i64 ((rd_T68 l0_3 x11_4).f0), .int .i64 ((rd_T68 l0_3 x11_4).f1), .int .i64 ((rd_T68 l0_3 x11_4).f2), .bool ((rd_T68 l0_3 x11_4).f3)] 68 (0, 0))) := ⟨by (with_reducible repeat (first | refine blk_drewN ?_ _ | refine blk_drew ?_ | refine blk_alloc ?_ _)); refine blk_put (cs := #[.int .i64 ((rd_T68 l0_3 x11_4).f0), .int .i64 ((rd_T68 l0_3 x11_4).f1), .int .i64 ((rd_T68 l0_3 x11_4).f2), .bool false]) ?_ 3 _ rfl; (with_reducible repeat (first | refine blk_drewN ?_ _ | refine blk_drew ?_ | refine blk_alloc ?_ _)); refine blk_put (cs := #[.int .i64 ((rd_T68 l0_3 x11_4).f0), .int .i64 ((rd_T68 l0_3 x11_4).f1), .int .i64 0, .bool false]) ?_ 2 _ rfl; (with_reducible repeat (first | refine blk_drewN ?_ _ | refine blk_drew ?_ | refine blk_alloc ?_ _)); refine blk_put (cs := #[.int .i64 ((rd_T68 l0_3 x11_4).f0), .int .i64 0, .int .i64 0, .bool false]) ?_ 1 _ rfl; (with_reducible repeat (first | refine blk_drewN ?_ _ | refine blk_drew ?_ | refine blk_alloc ?_ _)); refine blk_put (cs := #[.int .i64 0, .int .i64 0, .int .i64 0, .bool false]) ?_ 0 _ rfl; (with_reducible repeat (first | refine blk_drewN ?_ _ | refine blk_drew ?_ | refine blk_alloc ?_ _)); exact BK175.out⟩
                      have n4_ : Aside0 (Below w.heap.size w ((((w65.setCell ⟨gb175, 0, none⟩ (.int .i64 ((rd_T68 l0_3 x11_4).f0))).setCell ⟨gb175, 1, none⟩ (.int .i64 ((rd_T68 l0_3 x11_4).f1))).setCell ⟨gb175, 2, none⟩ (.int .i64 ((rd_T68 l0_3 x11_4).f2))).setCell ⟨gb175, 3, none⟩ (.bool ((rd_T68 l0_3 x11_4).f3)))) := ⟨zS HB.out⟩
                      (try clear BK163)
                      (try clear BK164)
                      (try clear BK165)
                      (try clear BK175)
                      (try clear HB)
                      generalize ((((w65.setCell ⟨gb175, 0, none⟩ (.int .i64 ((rd_T68 l0_3 x11_4).f0))).setCell ⟨gb175, 1, none⟩ (.int .i64 ((rd_T68 l0_3 x11_4).f1))).setCell ⟨gb175, 2, none⟩ (.int .i64 ((rd_T68 l0_3 x11_4).f2))).setCell ⟨gb175, 3, none⟩ (.bool ((rd_T68 l0_3 x11_4).f3))) = w70 at n0_ n1_ n2_ n3_ n4_ ⊢; have BK163 := n0_; have BK164 := n1_; have BK165 := n2_; have BK175 := n3_; have HB := n4_; clear n0_ n1_ n2_ n3_ n4_; replace BK163 := Aside0.mk (blk_drew BK163.out); replace BK164 := Aside0.mk (blk_drew BK164.out); replace BK165 := Aside0.mk (blk_drew BK165.out); replace BK175 := Aside0.mk (blk_drew BK175.out); replace HB := Aside0.mk (below_drew1 HB.out); have p176 : 0 ≤ (x9_3 : Int) := oD; have q176 : x9_3 < (l2_0.length : Int) := oD; obtain ⟨ad176, e176, hx176_0⟩ := Kd.at_int HR2_0.out x9_3 p176 q176; have hw176_0 := hx176_0
                      cases e176
                      replace hx176_0 := cT HB hx176_0; replace p176 := eq_true p176; replace q176 := eq_true q176; have p178 : 0 ≤ ((ji57) : Int) := oD; have q178 : (ji57) < (l2_0.length : Int) := oD; obtain ⟨ad178, e178, hx178_0⟩ := Kd.at_int HR2_0.out (ji57) p178 q178; have hw178_0 := hx178_0; obtain rfl : ad176 = ad178 := (by injection e178); replace hx178_0 := cT HB hx178_0; replace p178 := eq_true p178; replace q178 := eq_true q178; refine start_ (n := 27) (S := fun w' => w'.cell? ⟨gb175, 0, none⟩ = some (.int .i64 ((rd_T68 l0_3 x11_4).f0)) ∧ w'.cell? ⟨gb175, 1, none⟩ = some (.int .i64 ((rd_T68 l0_3 x11_4).f1)) ∧ w'.cell? ⟨gb175, 2, none⟩ = some (.int .i64 ((rd_T68 l0_3 x11_4).f2)) ∧ w'.cell? ⟨gb175, 3, none⟩ = some (.bool ((rd_T68 l0_3 x11_4).f3)) ∧ w'.cell? ⟨gb165, 0, none⟩ = some (.slice (some ad176) l2_0.length c2_0) ∧ w'.cell? ⟨gb165, 1, none⟩ = some (.int .i64 a2_1) ∧ w'.cell? ⟨gb164, 0, none⟩ = some (.slice A1_0 l1_0.length c1_0) ∧ w'.cell? ⟨gb164, 1, none⟩ = some (.slice A1_1 l1_1.length c1_1) ∧ w'.cell? (ad176.add (x9_3).toNat) = some (.int .i64 (rd l2_0 x9_3)) ∧ w'.cell? (ad176.add ((ji57)).toNat) = some (.int .i64 (rd l2_0 (ji57)))) (ds := []) bl81 (by kernel_rfl) rfl rfl ⟨b1 BK175 0, b1 BK175 1, b1 BK175 2, b1 BK175 3, b1 BK165 0, b1 BK165 1, b1 BK164 0, b1 BK164 1, ((HB.out.cell (World.block_lt_of_cell? w _ hw176_0)).trans hw176_0), ((HB.out.cell (World.block_lt_of_cell? w _ hw178_0)).trans hw178_0)⟩ (fun hHeld => ?_); refine with_tabW spec_RunOk.tab15 spec_RunOk.bits15 (fun HT_ HW_ => ?_); generalize w70.drew = w71 at BK163 BK164 BK165 BK175 HB hx176_0 hx178_0 hHeld ⊢
                      refine pu 0 (some 100) bl82 HT_ ?_ rfl rfl (.inl ⟨by rfl, ?_⟩) ?_ ?_ ?_; rotate_left; (intro w'; go_simp; with_reducible rfl); rotate_left; (simp only [Act.put, q5]; rfl)
                      refine pu 2 (some 102) bl83 HT_ ?_ rfl rfl (.inl ⟨by rfl, ?_⟩) ?_ ?_ ?_; rotate_left; (intro w'; go_simp; with_reducible rfl); rotate_left; (simp only [Act.put, q5]; rfl)
                      refine pu 4 (some 104) bl84 HT_ ?_ rfl rfl (.inl ⟨by rfl, ?_⟩) ?_ ?_ ?_; rotate_left; (intro w'; go_simp; with_reducible rfl); rotate_left; (simp only [Act.put, q5]; rfl)
                      refine take_ (i := 1) (N := some 101) (v := ?_) (a' := ?_) bl85 rfl rfl (take_ofW HT_.out HW_.out (by kernel_rfl)) (fun _ _ _ h => h) (Or.inl ⟨by rfl, ?_⟩) hHeld ?_ ?_; rotate_left
                      ·rintro w' ⟨s0, s1, s2, s3, s4, s5, s6, s7, s8, s9⟩; go_simp; with_reducible rfl
                      rotate_left
                      ·simp only [Act.put, q5]; rfl
                      refine take_ (i := 3) (N := some 103) (v := ?_) (a' := ?_) bl86 rfl rfl (take_ofW HT_.out HW_.out (by kernel_rfl)) (fun _ _ _ h => h) (Or.inl ⟨by rfl, ?_⟩) hHeld ?_ ?_; rotate_left
                      ·rintro w' ⟨s0, s1, s2, s3, s4, s5, s6, s7, s8, s9⟩; go_simp; with_reducible rfl
                      rotate_left
                      ·simp only [Act.put, q5]; rfl
                      refine pu 5 (some 105) bl87 HT_ ?_ rfl rfl (.inl ⟨by rfl, ?_⟩) ?_ ?_ ?_; rotate_left; (intro w'; go_simp; with_reducible rfl); rotate_left; (simp only [Act.put, q5]; rfl)
                      refine take_ (i := 6) (N := some 106) (v := ?_) (a' := ?_) bl88 rfl rfl (take_ofW HT_.out HW_.out (by kernel_rfl)) (fun _ _ _ h => h) (Or.inl ⟨by rfl, ?_⟩) hHeld ?_ ?_; rotate_left
                      ·rintro w' ⟨s0, s1, s2, s3, s4, s5, s6, s7, s8, s9⟩; go_simp; with_reducible rfl
                      rotate_left
                      ·simp only [Act.put, q5]; rfl
                      refine pu 7 (some 107) bl89 HT_ ?_ rfl rfl (.inl ⟨by rfl, ?_⟩) ?_ ?_ ?_; rotate_left; (intro w'; go_simp; with_reducible rfl); rotate_left; (simp only [Act.put, q5]; rfl)
                      refine pu 8 (some 108) bl90 HT_ ?_ rfl rfl (.inl ⟨by rfl, ?_⟩) ?_ ?_ ?_; rotate_left; (intro w'; go_simp; with_reducible rfl); rotate_left; (simp only [Act.put, q5]; rfl)
                      refine pu 9 (some 109) bl91 HT_ ?_ rfl rfl (.inl ⟨by rfl, ?_⟩) ?_ ?_ ?_; rotate_left; (intro w'; go_simp; with_reducible rfl); rotate_left; (simp only [Act.put, q5]; rfl)
                      refine pu 12 (some 112) bl92 HT_ ?_ rfl rfl (.inl ⟨by rfl, ?_⟩) ?_ ?_ ?_; rotate_left; (intro w'; go_simp; with_reducible rfl); rotate_left; (simp only [Act.put, q5]; rfl)
                      refine take_ (i := 10) (N := some 110) (v := ?_) (a' := ?_) bl93 rfl rfl (take_ofW HT_.out HW_.out (by kernel_rfl)) (fun _ _ _ h => h) (Or.inl ⟨by rfl, ?_⟩) hHeld ?_ ?_; rotate_left
                      ·rintro w' ⟨s0, s1, s2, s3, s4, s5, s6, s7, s8, s9⟩; go_simp; with_reducible rfl
                      rotate_left
                      ·simp only [Act.put, q5]; rfl
                      refine take_ (i := 11) (N := some 111) (v := ?_) (a' := ?_) bl94 rfl rfl (take_ofW HT_.out HW_.out (by kernel_rfl)) (fun _ _ _ h => h) (Or.inl ⟨by rfl, ?_⟩) hHeld ?_ ?_; rotate_left
                      ·rintro w' ⟨s0, s1, s2, s3, s4, s5, s6, s7, s8, s9⟩; go_simp; with_reducible rfl
                      rotate_left
                      ·simp only [Act.put, q5]; rfl
                      refine one_ (i := 13) (N := some 113) bl95 rfl rfl (one_of HT_.out (by kernel_rfl)) (by decide) (fun K hK => ?_); refine goes_ Try.func97 (by kernel_rfl) rfl #[.agg #[.slice A1_0 l1_0.length c1_0, .slice A1_1 l1_1.length c1_1], .int .i64 x9_3] (by rfl) rfl rfl (by (try simp only [m3]); first | done | rfl | (simp only [d2]; rfl)) ?_
                      with_reducible refine (spec_l3At.calls _ _ l1_0 _ _ l1_1 x9_3 t177 _ ?side1 ?side2 ?side3 ?side4 A55.out).mono ?_
                      (case side1 => exact zC (Kd.C_below HR1_0.out HB.out))
                      (case side2 => exact HC1_0.out)
                      (case side3 => exact zC (Kd.C_below HR1_1.out HB.out))
                      (case side4 => exact HC1_1.out)
                      rintro e w72 ⟨rfl, hb⟩; refine ⟨_, rfl, ?_⟩; replace BK163 := xB BK163 hb; replace BK164 := xB BK164 hb; replace BK165 := xB BK165 hb; replace BK175 := xB BK175 hb; replace HB := xS HB hb
                      (try clear hb)
                      (try clear hb2)
                      (try clear hk)
                      (try clear hi)
                      refine hK.out _ _ ⟨b1 BK175 0, b1 BK175 1, b1 BK175 2, b1 BK175 3, b1 BK165 0, b1 BK165 1, b1 BK164 0, b1 BK164 1, ((HB.out.cell (World.block_lt_of_cell? w _ hw176_0)).trans hw176_0), ((HB.out.cell (World.block_lt_of_cell? w _ hw178_0)).trans hw178_0)⟩ (fun hHeld => ?_); clear hK K; refine norm_ (a' := ?_) ?_ ?_; rotate_left
                      ·show Act.put _ (some 113) _ = _; simp only [Act.put, q5]; rfl
                      refine pu 14 (some 114) bl96 HT_ ?_ rfl rfl (.inl ⟨by rfl, ?_⟩) ?_ ?_ ?_; rotate_left; (intro w'; go_simp; with_reducible rfl); rotate_left; (simp only [Act.put, q5]; rfl)
                      refine pu 15 (some 115) bl97 HT_ ?_ rfl rfl (.inl ⟨by rfl, ?_⟩) ?_ ?_ ?_; rotate_left; (intro w'; go_simp; with_reducible rfl); rotate_left; (simp only [Act.put, q5]; rfl)
                      refine pu 16 (some 116) bl98 HT_ ?_ rfl rfl (.inl ⟨by rfl, ?_⟩) ?_ ?_ ?_; rotate_left; (intro w'; go_simp; with_reducible rfl); rotate_left; (simp only [Act.put, q5]; rfl)
                      refine pu 17 (some 117) bl99 HT_ ?_ rfl rfl (.inl ⟨by rfl, ?_⟩) ?_ ?_ ?_; rotate_left; (intro w'; go_simp; with_reducible rfl); rotate_left; (simp only [Act.put, q5]; rfl)
                      refine pu 19 (some 119) bl100 HT_ ?_ rfl rfl (.inl ⟨by rfl, ?_⟩) ?_ ?_ ?_; rotate_left; (intro w'; go_simp; with_reducible rfl); rotate_left; (simp only [Act.put, q5]; rfl)
                      refine pu 21 (some 121) bl101 HT_ ?_ rfl rfl (.inl ⟨by rfl, ?_⟩) ?_ ?_ ?_; rotate_left; (intro w'; go_simp; with_reducible rfl); rotate_left; (simp only [Act.put, q5]; rfl)
                      refine pu 22 (some 122) bl102 HT_ ?_ rfl rfl (.inl ⟨by rfl, ?_⟩) ?_ ?_ ?_; rotate_left; (intro w'; go_simp; with_reducible rfl); rotate_left; (simp only [Act.put, q5]; rfl)
                      refine take_ (i := 18) (N := some 118) (v := ?_) (a' := ?_) bl103 rfl rfl (take_ofW HT_.out HW_.out (by kernel_rfl)) (fun _ _ _ h => h) (Or.inl ⟨by rfl, ?_⟩) hHeld ?_ ?_; rotate_left
                      ·rintro w' ⟨s0, s1, s2, s3, s4, s5, s6, s7, s8, s9⟩; go_simp; with_reducible rfl
                      rotate_left
                      ·simp only [Act.put, q5]; rfl
                      refine take_ (i := 20) (N := some 120) (v := ?_) (a' := ?_) bl104 rfl rfl (take_ofW HT_.out HW_.out (by kernel_rfl)) (fun _ _ _ h => h) (Or.inl ⟨by rfl, ?_⟩) hHeld ?_ ?_; rotate_left
                      ·rintro w' ⟨s0, s1, s2, s3, s4, s5, s6, s7, s8, s9⟩; go_simp; with_reducible rfl
                      rotate_left
                      ·simp only [Act.put, q5]; rfl
                      refine pu 23 (some 123) bl105 HT_ ?_ rfl rfl (.inl ⟨by rfl, ?_⟩) ?_ ?_ ?_; rotate_left; (intro w'; go_simp; with_reducible rfl); rotate_left; (simp only [Act.put, q5]; rfl)
                      refine take_ (i := 24) (N := some 124) (v := ?_) (a' := ?_) bl106 rfl rfl (take_ofW HT_.out HW_.out (by kernel_rfl)) (fun _ _ _ h => h) (Or.inl ⟨by rfl, ?_⟩) hHeld ?_ ?_; rotate_left
                      ·rintro w' ⟨s0, s1, s2, s3, s4, s5, s6, s7, s8, s9⟩; go_simp; with_reducible rfl
                      rotate_left
                      ·simp only [Act.put, q5]; rfl
                      refine pu 25 (some 125) bl107 HT_ ?_ rfl rfl (.inl ⟨by rfl, ?_⟩) ?_ ?_ ?_; rotate_left; (intro w'; go_simp; with_reducible rfl); rotate_left; (simp only [Act.put, q5]; rfl)
                      refine pu 26 (some 126) bl108 HT_ ?_ rfl rfl (.inl ⟨by rfl, ?_⟩) ?_ ?_ ?_; rotate_left; (intro w'; go_simp; with_reducible rfl); rotate_left; (simp only [Act.put, q5]; rfl)
                      refine done_ (done_of HT_.out (by kernel_rfl)) ?_
                      try go_wp2
                      (first | go_roundg k4 | ((try simp only [← hji57]); go_roundg k4))
                      case measure => have := HJ3.out; have := HJ35.out; have := HK3.out; have := HK4.out; omega
                      case rel => exact ⟨(true), (true), (wrap64 (x11_4 + 1)), (by first | rfl | (simp; done) | (simp [*]; done) | (rw [Int.tmod_eq_emod_of_nonneg (Int.natCast_nonneg _)]; done)), (by first | rfl | (simp; done) | (simp [*]; done) | (rw [Int.tmod_eq_emod_of_nonneg (Int.natCast_nonneg _)]; done)), (by first | rfl | (simp; done) | (simp [*]; done) | (rw [Int.tmod_eq_emod_of_nonneg (Int.natCast_nonneg _)]; done)), (by first | exact H' | (have h_ := H'; (try simp only [← hji57] at h_); (try simp only [← hji57]); exact h_)), ⟨by have := HJ3.out; have := HJ35.out; have := HK3.out; have := HK4.out; omega⟩, ⟨zB BK163.out⟩, ⟨zB BK164.out⟩, ⟨zB BK165.out⟩, ⟨zS HB.out⟩⟩
                     ·replace c61 := Bool.eq_false_iff.mpr c61; subst c61
                      have H1 : (if (rd_T68 l0_3 x11_4).f3 = true then (spec_RunOk.l1 k4 (wrap64 ((l2_0.length : Int) - 1)) (decide (x9_3 ≥ a2_1)) x9_3 true (wrap64 (x11_4 + 1)) a0_0 a0_1 a0_2 l0_3 l1_0 l1_1 l2_0 a2_1) else (spec_RunOk.l1 k4 (wrap64 ((l2_0.length : Int) - 1)) false x9_3 true (wrap64 (x11_4 + 1)) a0_0 a0_1 a0_2 l0_3 l1_0 l1_1 l2_0 a2_1)) = some r := by rw [if_neg (show ¬ (false = true) by decide)] at H; exact H
                      clear H; have H := H1; clear H1; obtain ⟨bq73, hbq73⟩ : ∃ b_ : Bool, b_ = ((rd_T68 l0_3 x11_4).f3) := ⟨_, rfl⟩
                      replace H : (if bq73 = true then (spec_RunOk.l1 k4 (wrap64 ((l2_0.length : Int) - 1)) (decide (x9_3 ≥ a2_1)) x9_3 true (wrap64 (x11_4 + 1)) a0_0 a0_1 a0_2 l0_3 l1_0 l1_1 l2_0 a2_1) else (spec_RunOk.l1 k4 (wrap64 ((l2_0.length : Int) - 1)) false x9_3 true (wrap64 (x11_4 + 1)) a0_0 a0_1 a0_2 l0_3 l1_0 l1_1 l2_0 a2_1)) = some r := by rw [← hbq73] at H; exact H
                      have Nbq73 := Aside0.mk hbq73; clear hbq73
                      by_cases c74 : bq73 = true
                      ·subst c74
                       have H1 : (spec_RunOk.l1 k4 (wrap64 ((l2_0.length : Int) - 1)) (decide (x9_3 ≥ a2_1)) x9_3 true (wrap64 (x11_4 + 1)) a0_0 a0_1 a0_2 l0_3 l1_0 l1_1 l2_0 a2_1) = some r := by rw [if_pos rfl] at H; exact H
                       clear H; have H := H1; clear H1; have H' := Aside0.mk H; clear H; have hnb75 := NB163_164.out; have hnc75 := NB164_163.out; have hnb76 := NB163_165.out; have hnc76 := NB165_163.out; have hcz77_0 : wr.cell? ⟨gb163, 0, none⟩ = some (.int .i64 a0_0) := b1 BK163 0; have hcz77_1 : wr.cell? ⟨gb163, 1, none⟩ = some (.int .i64 a0_1) := b1 BK163 1; have hcz77_2 : wr.cell? ⟨gb163, 2, none⟩ = some (.int .i64 a0_2) := b1 BK163 2; have hcz77_3 : wr.cell? ⟨gb163, 3, none⟩ = some (.slice A0_3 l0_3.length c0_3) := b1 BK163 3; have hfz77_0 := blk_frozen BK163.out 0; have hfz77_1 := blk_frozen BK163.out 1; have hfz77_2 := blk_frozen BK163.out 2; have hfz77_3 := blk_frozen BK163.out 3; have p174 : 0 ≤ (x11_4 : Int) := oD; have q174 : x11_4 < (l0_3.length : Int) := oD; obtain ⟨ad174, e174, hx174_0, hx174_1, hx174_2, hx174_3⟩ := at_T68 HR0_3.out x11_4 p174 q174
                       (try rw [← Nbq73.out] at hx174_3)
                       cases e174
                       replace hx174_0 := cT HB hx174_0; replace hx174_1 := cT HB hx174_1; replace hx174_2 := cT HB hx174_2; replace hx174_3 := cT HB hx174_3; replace p174 := eq_true p174; replace q174 := eq_true q174
                       try go_wp2_with (first | ((with_reducible refine gate_dst (N := 12) rfl ?_); (try (refine gate_guard (by rfl) ?_; dsimp only)); refine box_event ?hg (N := 12) ?hd (cs := #[.int .i64 0, .int .i64 0, .int .i64 0, .bool false]) (t := 68) ?hr ?_; (case hd => rfl); (case hg => rfl); (case hr => first | (go_simp; done) | (go_simp; rfl)); intro gb175 hg w78 hbox hb; have BK175 := Aside0.mk (hbox); have GW175 := xG HB hg; have GE175 := xG HB hg; replace HB := xS HB hb; have NB163_175 := xN BK163 hg; have NB175_163 := xM BK163 hg; replace BK163 := xB BK163 hb; have NB164_175 := xN BK164 hg; have NB175_164 := xM BK164 hg; replace BK164 := xB BK164 hb; have NB165_175 := xN BK165 hg; have NB175_165 := xM BK165 hg; replace BK165 := xB BK165 hb; clear hb hbox hg; have hnb79 := NB175_163.out; have hnc79 := NB163_175.out; have hnb80 := NB175_164.out; have hnc80 := NB164_175.out; have hnb81 := NB175_165.out; have hnc81 := NB165_175.out; have hcz82_0 : w78.cell? ⟨gb175, 0, none⟩ = some (.int .i64 0) := b1 BK175 0; have hcz82_1 : w78.cell? ⟨gb175, 1, none⟩ = some (.int .i64 0) := b1 BK175 1; have hcz82_2 : w78.cell? ⟨gb175, 2, none⟩ = some (.int .i64 0) := b1 BK175 2; have hcz82_3 : w78.cell? ⟨gb175, 3, none⟩ = some (.bool false) := b1 BK175 3; have hfz82_0 := blk_frozen BK175.out 0; have hfz82_1 := blk_frozen BK175.out 1; have hfz82_2 := blk_frozen BK175.out 2; have hfz82_3 := blk_frozen BK175.out 3))
                       have n0_ : Aside0 (((((w78.setCell ⟨gb175, 0, none⟩ (.int .i64 ((rd_T68 l0_3 x11_4).f0))).setCell ⟨gb175, 1, none⟩ (.int .i64 ((rd_T68 l0_3 x11_4).f1))).setCell ⟨gb175, 2, none⟩ (.int .i64 ((rd_T68 l0_3 x11_4).f2))).setCell ⟨gb175, 3, none⟩ (.bool true)).heap[gb163]? = some (.cells #[.int .i64 a0_0, .int .i64 a0_1, .int .i64 a0_2, .slice (some ad174) l0_3.length c0_3] 24 (0, 0))) := ⟨zB BK163.out⟩; have n1_ : Aside0 (((((w78.setCell ⟨gb175, 0, none⟩ (.int .i64 ((rd_T68 l0_3 x11_4).f0))).setCell ⟨gb175, 1, none⟩ (.int .i64 ((rd_T68 l0_3 x11_4).f1))).setCell ⟨gb175, 2, none⟩ (.int .i64 ((rd_T68 l0_3 x11_4).f2))).setCell ⟨gb175, 3, none⟩ (.bool true)).heap[gb164]? = some (.cells #[.slice A1_0 l1_0.length c1_0, .slice A1_1 l1_1.length c1_1] 78 (0, 0))) := ⟨zB BK164.out⟩; have n2_ : Aside0 (((((w78.setCell ⟨gb175, 0, none⟩ (.int .i64 ((rd_T68 l0_3 x11_4).f0))).setCell ⟨gb175, 1, none⟩ (.int .i64 ((rd_T68 l0_3 x11_4).f1))).setCell ⟨gb175, 2, none⟩ (.int .i64 ((rd_T68 l0_3 x11_4).f2))).setCell ⟨gb175, 3, none⟩ (.bool true)).heap[gb165]? = some (.cells #[.slice A2_0 l2_0.length c2_0, .int .i64 a2_1] 80 (0, 0))) := ⟨zB BK165.out⟩; have n3_ : Aside0 (((((w78.setCell ⟨gb175, 0, none⟩ (.int .i64 ((rd_T68 l0_3 x11_4).f0))).setCell ⟨gb175, 1, none⟩ (.int .i64 ((rd_T68 l0_3 x11_4).f1))).setCell ⟨gb175, 2, none⟩ (.int .i64 ((rd_T68 l0_3 x11_4).f2))).setCell ⟨gb175, 3, none⟩ (.bool true)).heap[gb175]? = some (.cells #[.int .i64 ((rd_T68 l0_3 x11_4).f0), .int .i64 ((rd_T68 l0_3 x11_4).f1), .int .i64 ((rd_T68 l0_3 x11_4).f2), .bool true] 68 (0, 0))) := ⟨by (with_reducible repeat (first | refine blk_drewN ?_ _ | refine blk_drew ?_ | refine blk_alloc ?_ _)); refine blk_put (cs := #[.int .i64 ((rd_T68 l0_3 x11_4).f0), .int .i64 ((rd_T68 l0_3 x11_4).f1), .int .i64 ((rd_T68 l0_3 x11_4).f2), .bool false]) ?_ 3 _ rfl; (with_reducible repeat (first | refine blk_drewN ?_ _ | refine blk_drew ?_ | refine blk_alloc ?_ _)); refine blk_put (cs := #[.int .i64 ((rd_T68 l0_3 x11_4).f0), .int .i64 ((rd_T68 l0_3 x11_4).f1), .int .i64 0, .bool false]) ?_ 2 _ rfl; (with_reducible repeat (first | refine blk_drewN ?_ _ | refine blk_drew ?_ | refine blk_alloc ?_ _)); refine blk_put (cs := #[.int .i64 ((rd_T68 l0_3 x11_4).f0), .int .i64 0, .int .i64 0, .bool false]) ?_ 1 _ rfl; (with_reducible repeat (first | refine blk_drewN ?_ _ | refine blk_drew ?_ | refine blk_alloc ?_ _)); refine blk_put (cs := #[.int .i64 0, .int .i64 0, .int .i64 0, .bool false]) ?_ 0 _ rfl; (with_reducible repeat (first | refine blk_drewN ?_ _ | refine blk_drew ?_ | refine blk_alloc ?_ _)); exact BK175.out⟩; have n4_ : Aside0 (Below w.heap.size w ((((w78.setCell ⟨gb175, 0, none⟩ (.int .i64 ((rd_T68 l0_3 x11_4).f0))).setCell ⟨gb175, 1, none⟩ (.int .i64 ((rd_T68 l0_3 x11_4).f1))).setCell ⟨gb175, 2, none⟩ (.int .i64 ((rd_T68 l0_3 x11_4).f2))).setCell ⟨gb175, 3, none⟩ (.bool true))) := ⟨zS HB.out⟩
                       (try clear BK163)
                       (try clear BK164)
                       (try clear BK165)
                       (try clear BK175)
                       (try clear HB)
                       generalize ((((w78.setCell ⟨gb175, 0, none⟩ (.int .i64 ((rd_T68 l0_3 x11_4).f0))).setCell ⟨gb175, 1, none⟩ (.int .i64 ((rd_T68 l0_3 x11_4).f1))).setCell ⟨gb175, 2, none⟩ (.int .i64 ((rd_T68 l0_3 x11_4).f2))).setCell ⟨gb175, 3, none⟩ (.bool true)) = w83 at n0_ n1_ n2_ n3_ n4_ ⊢; have BK163 := n0_; have BK164 := n1_; have BK165 := n2_; have BK175 := n3_; have HB := n4_; clear n0_ n1_ n2_ n3_ n4_; replace BK163 := Aside0.mk (blk_drew BK163.out); replace BK164 := Aside0.mk (blk_drew BK164.out); replace BK165 := Aside0.mk (blk_drew BK165.out); replace BK175 := Aside0.mk (blk_drew BK175.out); replace HB := Aside0.mk (below_drew1 HB.out); have p176 : 0 ≤ (x9_3 : Int) := oD; have q176 : x9_3 < (l2_0.length : Int) := oD; obtain ⟨ad176, e176, hx176_0⟩ := Kd.at_int HR2_0.out x9_3 p176 q176; have hw176_0 := hx176_0
                       cases e176
                       replace hx176_0 := cT HB hx176_0; replace p176 := eq_true p176; replace q176 := eq_true q176; have p178 : 0 ≤ ((ji57) : Int) := oD; have q178 : (ji57) < (l2_0.length : Int) := oD; obtain ⟨ad178, e178, hx178_0⟩ := Kd.at_int HR2_0.out (ji57) p178 q178; have hw178_0 := hx178_0; obtain rfl : ad176 = ad178 := (by injection e178); replace hx178_0 := cT HB hx178_0; replace p178 := eq_true p178; replace q178 := eq_true q178; refine start_ (n := 27) (S := fun w' => w'.cell? ⟨gb175, 0, none⟩ = some (.int .i64 ((rd_T68 l0_3 x11_4).f0)) ∧ w'.cell? ⟨gb175, 1, none⟩ = some (.int .i64 ((rd_T68 l0_3 x11_4).f1)) ∧ w'.cell? ⟨gb175, 2, none⟩ = some (.int .i64 ((rd_T68 l0_3 x11_4).f2)) ∧ w'.cell? ⟨gb175, 3, none⟩ = some (.bool true) ∧ w'.cell? ⟨gb165, 0, none⟩ = some (.slice (some ad176) l2_0.length c2_0) ∧ w'.cell? ⟨gb165, 1, none⟩ = some (.int .i64 a2_1) ∧ w'.cell? ⟨gb164, 0, none⟩ = some (.slice A1_0 l1_0.length c1_0) ∧ w'.cell? ⟨gb164, 1, none⟩ = some (.slice A1_1 l1_1.length c1_1) ∧ w'.cell? (ad176.add (x9_3).toNat) = some (.int .i64 (rd l2_0 x9_3)) ∧ w'.cell? (ad176.add ((ji57)).toNat) = some (.int .i64 (rd l2_0 (ji57)))) (ds := []) bl81 (by kernel_rfl) rfl rfl ⟨b1 BK175 0, b1 BK175 1, b1 BK175 2, b1 BK175 3, b1 BK165 0, b1 BK165 1, b1 BK164 0, b1 BK164 1, ((HB.out.cell (World.block_lt_of_cell? w _ hw176_0)).trans hw176_0), ((HB.out.cell (World.block_lt_of_cell? w _ hw178_0)).trans hw178_0)⟩ (fun hHeld => ?_); refine with_tabW spec_RunOk.tab15 spec_RunOk.bits15 (fun HT_ HW_ => ?_); generalize w83.drew = w84 at BK163 BK164 BK165 BK175 HB hx176_0 hx178_0 hHeld ⊢
                       refine pu 0 (some 100) bl82 HT_ ?_ rfl rfl (.inl ⟨by rfl, ?_⟩) ?_ ?_ ?_; rotate_left; (intro w'; go_simp; with_reducible rfl); rotate_left; (simp only [Act.put, q5]; rfl)
                       refine pu 2 (some 102) bl83 HT_ ?_ rfl rfl (.inl ⟨by rfl, ?_⟩) ?_ ?_ ?_; rotate_left; (intro w'; go_simp; with_reducible rfl); rotate_left; (simp only [Act.put, q5]; rfl)
                       refine pu 4 (some 104) bl84 HT_ ?_ rfl rfl (.inl ⟨by rfl, ?_⟩) ?_ ?_ ?_; rotate_left; (intro w'; go_simp; with_reducible rfl); rotate_left; (simp only [Act.put, q5]; rfl)
                       refine take_ (i := 1) (N := some 101) (v := ?_) (a' := ?_) bl85 rfl rfl (take_ofW HT_.out HW_.out (by kernel_rfl)) (fun _ _ _ h => h) (Or.inl ⟨by rfl, ?_⟩) hHeld ?_ ?_; rotate_left
                       ·rintro w' ⟨s0, s1, s2, s3, s4, s5, s6, s7, s8, s9⟩; go_simp; with_reducible rfl
                       rotate_left
                       ·simp only [Act.put, q5]; rfl
                       refine take_ (i := 3) (N := some 103) (v := ?_) (a' := ?_) bl86 rfl rfl (take_ofW HT_.out HW_.out (by kernel_rfl)) (fun _ _ _ h => h) (Or.inl ⟨by rfl, ?_⟩) hHeld ?_ ?_; rotate_left
                       ·rintro w' ⟨s0, s1, s2, s3, s4, s5, s6, s7, s8, s9⟩; go_simp; with_reducible rfl
                       rotate_left
                       ·simp only [Act.put, q5]; rfl
                       refine pu 5 (some 105) bl87 HT_ ?_ rfl rfl (.inl ⟨by rfl, ?_⟩) ?_ ?_ ?_; rotate_left; (intro w'; go_simp; with_reducible rfl); rotate_left; (simp only [Act.put, q5]; rfl)
                       refine take_ (i := 6) (N := some 106) (v := ?_) (a' := ?_) bl88 rfl rfl (take_ofW HT_.out HW_.out (by kernel_rfl)) (fun _ _ _ h => h) (Or.inl ⟨by rfl, ?_⟩) hHeld ?_ ?_; rotate_left
                       ·rintro w' ⟨s0, s1, s2, s3, s4, s5, s6, s7, s8, s9⟩; go_simp; with_reducible rfl
                       rotate_left
                       ·simp only [Act.put, q5]; rfl
                       refine pu 7 (some 107) bl89 HT_ ?_ rfl rfl (.inl ⟨by rfl, ?_⟩) ?_ ?_ ?_; rotate_left; (intro w'; go_simp; with_reducible rfl); rotate_left; (simp only [Act.put, q5]; rfl)
                       refine pu 8 (some 108) bl90 HT_ ?_ rfl rfl (.inl ⟨by rfl, ?_⟩) ?_ ?_ ?_; rotate_left; (intro w'; go_simp; with_reducible rfl); rotate_left; (simp only [Act.put, q5]; rfl)
                       refine pu 9 (some 109) bl91 HT_ ?_ rfl rfl (.inl ⟨by rfl, ?_⟩) ?_ ?_ ?_; rotate_left; (intro w'; go_simp; with_reducible rfl); rotate_left; (simp only [Act.put, q5]; rfl)
                       refine pu 12 (some 112) bl92 HT_ ?_ rfl rfl (.inl ⟨by rfl, ?_⟩) ?_ ?_ ?_; rotate_left; (intro w'; go_simp; with_reducible rfl); rotate_left; (simp only [Act.put, q5]; rfl)
                       refine take_ (i := 10) (N := some 110) (v := ?_) (a' := ?_) bl93 rfl rfl (take_ofW HT_.out HW_.out (by kernel_rfl)) (fun _ _ _ h => h) (Or.inl ⟨by rfl, ?_⟩) hHeld ?_ ?_; rotate_left
                       ·rintro w' ⟨s0, s1, s2, s3, s4, s5, s6, s7, s8, s9⟩; go_simp; with_reducible rfl
                       rotate_left
                       ·simp only [Act.put, q5]; rfl
                       refine take_ (i := 11) (N := some 111) (v := ?_) (a' := ?_) bl94 rfl rfl (take_ofW HT_.out HW_.out (by kernel_rfl)) (fun _ _ _ h => h) (Or.inl ⟨by rfl, ?_⟩) hHeld ?_ ?_; rotate_left
                       ·rintro w' ⟨s0, s1, s2, s3, s4, s5, s6, s7, s8, s9⟩; go_simp; with_reducible rfl
                       rotate_left
                       ·simp only [Act.put, q5]; rfl
                       refine one_ (i := 13) (N := some 113) bl95 rfl rfl (one_of HT_.out (by kernel_rfl)) (by decide) (fun K hK => ?_); refine goes_ Try.func97 (by kernel_rfl) rfl #[.agg #[.slice A1_0 l1_0.length c1_0, .slice A1_1 l1_1.length c1_1], .int .i64 x9_3] (by rfl) rfl rfl (by (try simp only [m3]); first | done | rfl | (simp only [d2]; rfl)) ?_
                       with_reducible refine (spec_l3At.calls _ _ l1_0 _ _ l1_1 x9_3 t177 _ ?side1 ?side2 ?side3 ?side4 A55.out).mono ?_
                       (case side1 => exact zC (Kd.C_below HR1_0.out HB.out))
                       (case side2 => exact HC1_0.out)
                       (case side3 => exact zC (Kd.C_below HR1_1.out HB.out))
                       (case side4 => exact HC1_1.out)
                       rintro e w85 ⟨rfl, hb⟩; refine ⟨_, rfl, ?_⟩; replace BK163 := xB BK163 hb; replace BK164 := xB BK164 hb; replace BK165 := xB BK165 hb; replace BK175 := xB BK175 hb; replace HB := xS HB hb
                       (try clear hb)
                       (try clear hb2)
                       (try clear hk)
                       (try clear hi)
                       refine hK.out _ _ ⟨b1 BK175 0, b1 BK175 1, b1 BK175 2, b1 BK175 3, b1 BK165 0, b1 BK165 1, b1 BK164 0, b1 BK164 1, ((HB.out.cell (World.block_lt_of_cell? w _ hw176_0)).trans hw176_0), ((HB.out.cell (World.block_lt_of_cell? w _ hw178_0)).trans hw178_0)⟩ (fun hHeld => ?_); clear hK K; refine norm_ (a' := ?_) ?_ ?_; rotate_left
                       ·show Act.put _ (some 113) _ = _; simp only [Act.put, q5]; rfl
                       refine pu 14 (some 114) bl96 HT_ ?_ rfl rfl (.inl ⟨by rfl, ?_⟩) ?_ ?_ ?_; rotate_left; (intro w'; go_simp; with_reducible rfl); rotate_left; (simp only [Act.put, q5]; rfl)
                       refine pu 15 (some 115) bl97 HT_ ?_ rfl rfl (.inl ⟨by rfl, ?_⟩) ?_ ?_ ?_; rotate_left; (intro w'; go_simp; with_reducible rfl); rotate_left; (simp only [Act.put, q5]; rfl)
                       refine pu 16 (some 116) bl98 HT_ ?_ rfl rfl (.inl ⟨by rfl, ?_⟩) ?_ ?_ ?_; rotate_left; (intro w'; go_simp; with_reducible rfl); rotate_left; (simp only [Act.put, q5]; rfl)
                       refine pu 17 (some 117) bl99 HT_ ?_ rfl rfl (.inl ⟨by rfl, ?_⟩) ?_ ?_ ?_; rotate_left; (intro w'; go_simp; with_reducible rfl); rotate_left; (simp only [Act.put, q5]; rfl)
                       refine pu 19 (some 119) bl100 HT_ ?_ rfl rfl (.inl ⟨by rfl, ?_⟩) ?_ ?_ ?_; rotate_left; (intro w'; go_simp; with_reducible rfl); rotate_left; (simp only [Act.put, q5]; rfl)
                       refine pu 21 (some 121) bl101 HT_ ?_ rfl rfl (.inl ⟨by rfl, ?_⟩) ?_ ?_ ?_; rotate_left; (intro w'; go_simp; with_reducible rfl); rotate_left; (simp only [Act.put, q5]; rfl)
                       refine pu 22 (some 122) bl102 HT_ ?_ rfl rfl (.inl ⟨by rfl, ?_⟩) ?_ ?_ ?_; rotate_left; (intro w'; go_simp; with_reducible rfl); rotate_left; (simp only [Act.put, q5]; rfl)
                       refine take_ (i := 18) (N := some 118) (v := ?_) (a' := ?_) bl103 rfl rfl (take_ofW HT_.out HW_.out (by kernel_rfl)) (fun _ _ _ h => h) (Or.inl ⟨by rfl, ?_⟩) hHeld ?_ ?_; rotate_left
                       ·rintro w' ⟨s0, s1, s2, s3, s4, s5, s6, s7, s8, s9⟩; go_simp; with_reducible rfl
                       rotate_left
                       ·simp only [Act.put, q5]; rfl
                       refine take_ (i := 20) (N := some 120) (v := ?_) (a' := ?_) bl104 rfl rfl (take_ofW HT_.out HW_.out (by kernel_rfl)) (fun _ _ _ h => h) (Or.inl ⟨by rfl, ?_⟩) hHeld ?_ ?_; rotate_left
                       ·rintro w' ⟨s0, s1, s2, s3, s4, s5, s6, s7, s8, s9⟩; go_simp; with_reducible rfl
                       rotate_left
                       ·simp only [Act.put, q5]; rfl
                       refine pu 23 (some 123) bl105 HT_ ?_ rfl rfl (.inl ⟨by rfl, ?_⟩) ?_ ?_ ?_; rotate_left; (intro w'; go_simp; with_reducible rfl); rotate_left; (simp only [Act.put, q5]; rfl)
                       refine take_ (i := 24) (N := some 124) (v := ?_) (a' := ?_) bl106 rfl rfl (take_ofW HT_.out HW_.out (by kernel_rfl)) (fun _ _ _ h => h) (Or.inl ⟨by rfl, ?_⟩) hHeld ?_ ?_; rotate_left
                       ·rintro w' ⟨s0, s1, s2, s3, s4, s5, s6, s7, s8, s9⟩; go_simp; with_reducible rfl
                       rotate_left
                       ·simp only [Act.put, q5]; rfl
                       refine pu 25 (some 125) bl107 HT_ ?_ rfl rfl (.inl ⟨by rfl, ?_⟩) ?_ ?_ ?_; rotate_left; (intro w'; go_simp; with_reducible rfl); rotate_left; (simp only [Act.put, q5]; rfl)
                       refine pu 26 (some 126) bl108 HT_ ?_ rfl rfl (.inl ⟨by rfl, ?_⟩) ?_ ?_ ?_; rotate_left; (intro w'; go_simp; with_reducible rfl); rotate_left; (simp only [Act.put, q5]; rfl)
                       refine done_ (done_of HT_.out (by kernel_rfl)) ?_; have hcz86_0 : w85.cell? ⟨gb175, 0, none⟩ = some (.int .i64 ((rd_T68 l0_3 x11_4).f0)) := b1 BK175 0; have hcz86_1 : w85.cell? ⟨gb175, 1, none⟩ = some (.int .i64 ((rd_T68 l0_3 x11_4).f1)) := b1 BK175 1; have hcz86_2 : w85.cell? ⟨gb175, 2, none⟩ = some (.int .i64 ((rd_T68 l0_3 x11_4).f2)) := b1 BK175 2; have hcz86_3 : w85.cell? ⟨gb175, 3, none⟩ = some (.bool true) := b1 BK175 3; have hfz86_0 := blk_frozen BK175.out 0; have hfz86_1 := blk_frozen BK175.out 1; have hfz86_2 := blk_frozen BK175.out 2; have hfz86_3 := blk_frozen BK175.out 3; have hnb87 := NB165_164.out; have hnc87 := NB164_165.out; have hcz88_0 : w85.cell? ⟨gb165, 0, none⟩ = some (.slice (some ad176) l2_0.length c2_0) := b1 BK165 0; have hcz88_1 : w85.cell? ⟨gb165, 1, none⟩ = some (.int .i64 a2_1) := b1 BK165 1; have hfz88_0 := blk_frozen BK165.out 0; have hfz88_1 := blk_frozen BK165.out 1
                       try go_wp2
                       (first | go_roundg k4 | ((try simp only [← hji57]); go_roundg k4))
                       case measure => have := HJ3.out; have := HJ35.out; have := HK3.out; have := HK4.out; omega
                       case rel => exact ⟨(decide (x9_3 ≥ a2_1)), (true), (wrap64 (x11_4 + 1)), (by first | rfl | (simp; done) | (simp [*]; done) | (rw [Int.tmod_eq_emod_of_nonneg (Int.natCast_nonneg _)]; done)), (by first | rfl | (simp; done) | (simp [*]; done) | (rw [Int.tmod_eq_emod_of_nonneg (Int.natCast_nonneg _)]; done)), (by first | rfl | (simp; done) | (simp [*]; done) | (rw [Int.tmod_eq_emod_of_nonneg (Int.natCast_nonneg _)]; done)), (by first | exact H' | (have h_ := H'; (try simp only [← hji57] at h_); (try simp only [← hji57]); exact h_)), ⟨by have := HJ3.out; have := HJ35.out; have := HK3.out; have := HK4.out; omega⟩, ⟨zB BK163.out⟩, ⟨zB BK164.out⟩, ⟨zB BK165.out⟩, ⟨zS HB.out⟩⟩
                      ·replace c74 := Bool.eq_false_iff.mpr c74; subst c74
                       have H1 : (spec_RunOk.l1 k4 (wrap64 ((l2_0.length : Int) - 1)) false x9_3 true (wrap64 (x11_4 + 1)) a0_0 a0_1 a0_2 l0_3 l1_0 l1_1 l2_0 a2_1) = some r := by rw [if_neg (show ¬ (false = true) by decide)] at H; exact H
                       clear H; have H := H1; clear H1; have H' := Aside0.mk H; clear H; have hnb89 := NB163_164.out; have hnc89 := NB164_163.out; have hnb90 := NB163_165.out; have hnc90 := NB165_163.out; have hcz91_0 : wr.cell? ⟨gb163, 0, none⟩ = some (.int .i64 a0_0) := b1 BK163 0; have hcz91_1 : wr.cell? ⟨gb163, 1, none⟩ = some (.int .i64 a0_1) := b1 BK163 1; have hcz91_2 : wr.cell? ⟨gb163, 2, none⟩ = some (.int .i64 a0_2) := b1 BK163 2; have hcz91_3 : wr.cell? ⟨gb163, 3, none⟩ = some (.slice A0_3 l0_3.length c0_3) := b1 BK163 3; have hfz91_0 := blk_frozen BK163.out 0; have hfz91_1 := blk_frozen BK163.out 1; have hfz91_2 := blk_frozen BK163.out 2; have hfz91_3 := blk_frozen BK163.out 3; have p174 : 0 ≤ (x11_4 : Int) := oD; have q174 : x11_4 < (l0_3.length : Int) := oD; obtain ⟨ad174, e174, hx174_0, hx174_1, hx174_2, hx174_3⟩ := at_T68 HR0_3.out x11_4 p174 q174
                       (try rw [← Nbq73.out] at hx174_3)
                       cases e174
                       replace hx174_0 := cT HB hx174_0; replace hx174_1 := cT HB hx174_1; replace hx174_2 := cT HB hx174_2; replace hx174_3 := cT HB hx174_3; replace p174 := eq_true p174; replace q174 := eq_true q174
                       try go_wp2_with (first | ((with_reducible refine gate_dst (N := 12) rfl ?_); (try (refine gate_guard (by rfl) ?_; dsimp only)); refine box_event ?hg (N := 12) ?hd (cs := #[.int .i64 0, .int .i64 0, .int .i64 0, .bool false]) (t := 68) ?hr ?_; (case hd => rfl); (case hg => rfl); (case hr => first | (go_simp; done) | (go_simp; rfl)); intro gb175 hg w92 hbox hb; have BK175 := Aside0.mk (hbox); have GW175 := xG HB hg; have GE175 := xG HB hg; replace HB := xS HB hb; have NB163_175 := xN BK163 hg; have NB175_163 := xM BK163 hg; replace BK163 := xB BK163 hb; have NB164_175 := xN BK164 hg; have NB175_164 := xM BK164 hg; replace BK164 := xB BK164 hb; have NB165_175 := xN BK165 hg; have NB175_165 := xM BK165 hg; replace BK165 := xB BK165 hb; clear hb hbox hg; have hnb93 := NB175_163.out; have hnc93 := NB163_175.out; have hnb94 := NB175_164.out; have hnc94 := NB164_175.out; have hnb95 := NB175_165.out; have hnc95 := NB165_175.out; have hcz96_0 : w92.cell? ⟨gb175, 0, none⟩ = some (.int .i64 0) := b1 BK175 0; have hcz96_1 : w92.cell? ⟨gb175, 1, none⟩ = some (.int .i64 0) := b1 BK175 1; have hcz96_2 : w92.cell? ⟨gb175, 2, none⟩ = some (.int .i64 0) := b1 BK175 2; have hcz96_3 : w92.cell? ⟨gb175, 3, none⟩ = some (.bool false) := b1 BK175 3; have hfz96_0 := blk_frozen BK175.out 0; have hfz96_1 := blk_frozen BK175.out 1; have hfz96_2 := blk_frozen BK175.out 2; have hfz96_3 := blk_frozen BK175.out 3))
                       have n0_ : Aside0 (((((w92.setCell ⟨gb175, 0, none⟩ (.int .i64 ((rd_T68 l0_3 x11_4).f0))).setCell ⟨gb175, 1, none⟩ (.int .i64 ((rd_T68 l0_3 x11_4).f1))).setCell ⟨gb175, 2, none⟩ (.int .i64 ((rd_T68 l0_3 x11_4).f2))).setCell ⟨gb175, 3, none⟩ (.bool false)).heap[gb163]? = some (.cells #[.int .i64 a0_0, .int .i64 a0_1, .int .i64 a0_2, .slice (some ad174) l0_3.length c0_3] 24 (0, 0))) := ⟨zB BK163.out⟩; have n1_ : Aside0 (((((w92.setCell ⟨gb175, 0, none⟩ (.int .i64 ((rd_T68 l0_3 x11_4).f0))).setCell ⟨gb175, 1, none⟩ (.int .i64 ((rd_T68 l0_3 x11_4).f1))).setCell ⟨gb175, 2, none⟩ (.int .i64 ((rd_T68 l0_3 x11_4).f2))).setCell ⟨gb175, 3, none⟩ (.bool false)).heap[gb164]? = some (.cells #[.slice A1_0 l1_0.length c1_0, .slice A1_1 l1_1.length c1_1] 78 (0, 0))) := ⟨zB BK164.out⟩; have n2_ : Aside0 (((((w92.setCell ⟨gb175, 0, none⟩ (.int .i64 ((rd_T68 l0_3 x11_4).f0))).setCell ⟨gb175, 1, none⟩ (.int .i64 ((rd_T68 l0_3 x11_4).f1))).setCell ⟨gb175, 2, none⟩ (.int .i64 ((rd_T68 l0_3 x11_4).f2))).setCell ⟨gb175, 3, none⟩ (.bool false)).heap[gb165]? = some (.cells #[.slice A2_0 l2_0.length c2_0, .int .i64 a2_1] 80 (0, 0))) := ⟨zB BK165.out⟩; have n3_ : Aside0 (((((w92.setCell ⟨gb175, 0, none⟩ (.int .i64 ((rd_T68 l0_3 x11_4).f0))).setCell ⟨gb175, 1, none⟩ (.int .i64 ((rd_T68 l0_3 x11_4).f1))).setCell ⟨gb175, 2, none⟩ (.int .i64 ((rd_T68 l0_3 x11_4).f2))).setCell ⟨gb175, 3, none⟩ (.bool false)).heap[gb175]? = some (.cells #[.int .i64 ((rd_T68 l0_3 x11_4).f0), .int .i64 ((rd_T68 l0_3 x11_4).f1), .int .i64 ((rd_T68 l0_3 x11_4).f2), .bool false] 68 (0, 0))) := ⟨by (with_reducible repeat (first | refine blk_drewN ?_ _ | refine blk_drew ?_ | refine blk_alloc ?_ _)); refine blk_put (cs := #[.int .i64 ((rd_T68 l0_3 x11_4).f0), .int .i64 ((rd_T68 l0_3 x11_4).f1), .int .i64 ((rd_T68 l0_3 x11_4).f2), .bool false]) ?_ 3 _ rfl; (with_reducible repeat (first | refine blk_drewN ?_ _ | refine blk_drew ?_ | refine blk_alloc ?_ _)); refine blk_put (cs := #[.int .i64 ((rd_T68 l0_3 x11_4).f0), .int .i64 ((rd_T68 l0_3 x11_4).f1), .int .i64 0, .bool false]) ?_ 2 _ rfl; (with_reducible repeat (first | refine blk_drewN ?_ _ | refine blk_drew ?_ | refine blk_alloc ?_ _)); refine blk_put (cs := #[.int .i64 ((rd_T68 l0_3 x11_4).f0), .int .i64 0, .int .i64 0, .bool false]) ?_ 1 _ rfl; (with_reducible repeat (first | refine blk_drewN ?_ _ | refine blk_drew ?_ | refine blk_alloc ?_ _)); refine blk_put (cs := #[.int .i64 0, .int .i64 0, .int .i64 0, .bool false]) ?_ 0 _ rfl; (with_reducible repeat (first | refine blk_drewN ?_ _ | refine blk_drew ?_ | refine blk_alloc ?_ _)); exact BK175.out⟩; have n4_ : Aside0 (Below w.heap.size w ((((w92.setCell ⟨gb175, 0, none⟩ (.int .i64 ((rd_T68 l0_3 x11_4).f0))).setCell ⟨gb175, 1, none⟩ (.int .i64 ((rd_T68 l0_3 x11_4).f1))).setCell ⟨gb175, 2, none⟩ (.int .i64 ((rd_T68 l0_3 x11_4).f2))).setCell ⟨gb175, 3, none⟩ (.bool false))) := ⟨zS HB.out⟩
                       (try clear BK163)
                       (try clear BK164)
                       (try clear BK165)
                       (try clear BK175)
                       (try clear HB)
                       generalize ((((w92.setCell ⟨gb175, 0, none⟩ (.int .i64 ((rd_T68 l0_3 x11_4).f0))).setCell ⟨gb175, 1, none⟩ (.int .i64 ((rd_T68 l0_3 x11_4).f1))).setCell ⟨gb175, 2, none⟩ (.int .i64 ((rd_T68 l0_3 x11_4).f2))).setCell ⟨gb175, 3, none⟩ (.bool false)) = w97 at n0_ n1_ n2_ n3_ n4_ ⊢; have BK163 := n0_; have BK164 := n1_; have BK165 := n2_; have BK175 := n3_; have HB := n4_; clear n0_ n1_ n2_ n3_ n4_; replace BK163 := Aside0.mk (blk_drew BK163.out); replace BK164 := Aside0.mk (blk_drew BK164.out); replace BK165 := Aside0.mk (blk_drew BK165.out); replace BK175 := Aside0.mk (blk_drew BK175.out); replace HB := Aside0.mk (below_drew1 HB.out); have p176 : 0 ≤ (x9_3 : Int) := oD; have q176 : x9_3 < (l2_0.length : Int) := oD; obtain ⟨ad176, e176, hx176_0⟩ := Kd.at_int HR2_0.out x9_3 p176 q176; have hw176_0 := hx176_0
                       cases e176
                       replace hx176_0 := cT HB hx176_0; replace p176 := eq_true p176; replace q176 := eq_true q176; have p178 : 0 ≤ ((ji57) : Int) := oD; have q178 : (ji57) < (l2_0.length : Int) := oD; obtain ⟨ad178, e178, hx178_0⟩ := Kd.at_int HR2_0.out (ji57) p178 q178; have hw178_0 := hx178_0; obtain rfl : ad176 = ad178 := (by injection e178); replace hx178_0 := cT HB hx178_0; replace p178 := eq_true p178; replace q178 := eq_true q178; refine start_ (n := 27) (S := fun w' => w'.cell? ⟨gb175, 0, none⟩ = some (.int .i64 ((rd_T68 l0_3 x11_4).f0)) ∧ w'.cell? ⟨gb175, 1, none⟩ = some (.int .i64 ((rd_T68 l0_3 x11_4).f1)) ∧ w'.cell? ⟨gb175, 2, none⟩ = some (.int .i64 ((rd_T68 l0_3 x11_4).f2)) ∧ w'.cell? ⟨gb175, 3, none⟩ = some (.bool false) ∧ w'.cell? ⟨gb165, 0, none⟩ = some (.slice (some ad176) l2_0.length c2_0) ∧ w'.cell? ⟨gb165, 1, none⟩ = some (.int .i64 a2_1) ∧ w'.cell? ⟨gb164, 0, none⟩ = some (.slice A1_0 l1_0.length c1_0) ∧ w'.cell? ⟨gb164, 1, none⟩ = some (.slice A1_1 l1_1.length c1_1) ∧ w'.cell? (ad176.add (x9_3).toNat) = some (.int .i64 (rd l2_0 x9_3)) ∧ w'.cell? (ad176.add ((ji57)).toNat) = some (.int .i64 (rd l2_0 (ji57)))) (ds := []) bl81 (by kernel_rfl) rfl rfl ⟨b1 BK175 0, b1 BK175 1, b1 BK175 2, b1 BK175 3, b1 BK165 0, b1 BK165 1, b1 BK164 0, b1 BK164 1, ((HB.out.cell (World.block_lt_of_cell? w _ hw176_0)).trans hw176_0), ((HB.out.cell (World.block_lt_of_cell? w _ hw178_0)).trans hw178_0)⟩ (fun hHeld => ?_); refine with_tabW spec_RunOk.tab15 spec_RunOk.bits15 (fun HT_ HW_ => ?_); generalize w97.drew = w98 at BK163 BK164 BK165 BK175 HB hx176_0 hx178_0 hHeld ⊢
                       refine pu 0 (some 100) bl82 HT_ ?_ rfl rfl (.inl ⟨by rfl, ?_⟩) ?_ ?_ ?_; rotate_left; (intro w'; go_simp; with_reducible rfl); rotate_left; (simp only [Act.put, q5]; rfl)
                       refine pu 2 (some 102) bl83 HT_ ?_ rfl rfl (.inl ⟨by rfl, ?_⟩) ?_ ?_ ?_; rotate_left; (intro w'; go_simp; with_reducible rfl); rotate_left; (simp only [Act.put, q5]; rfl)
                       refine pu 4 (some 104) bl84 HT_ ?_ rfl rfl (.inl ⟨by rfl, ?_⟩) ?_ ?_ ?_; rotate_left; (intro w'; go_simp; with_reducible rfl); rotate_left; (simp only [Act.put, q5]; rfl)
                       refine take_ (i := 1) (N := some 101) (v := ?_) (a' := ?_) bl85 rfl rfl (take_ofW HT_.out HW_.out (by kernel_rfl)) (fun _ _ _ h => h) (Or.inl ⟨by rfl, ?_⟩) hHeld ?_ ?_; rotate_left
                       ·rintro w' ⟨s0, s1, s2, s3, s4, s5, s6, s7, s8, s9⟩; go_simp; with_reducible rfl
                       rotate_left
                       ·simp only [Act.put, q5]; rfl
                       refine take_ (i := 3) (N := some 103) (v := ?_) (a' := ?_) bl86 rfl rfl (take_ofW HT_.out HW_.out (by kernel_rfl)) (fun _ _ _ h => h) (Or.inl ⟨by rfl, ?_⟩) hHeld ?_ ?_; rotate_left
                       ·rintro w' ⟨s0, s1, s2, s3, s4, s5, s6, s7, s8, s9⟩; go_simp; with_reducible rfl
                       rotate_left
                       ·simp only [Act.put, q5]; rfl
                       refine pu 5 (some 105) bl87 HT_ ?_ rfl rfl (.inl ⟨by rfl, ?_⟩) ?_ ?_ ?_; rotate_left; (intro w'; go_simp; with_reducible rfl); rotate_left; (simp only [Act.put, q5]; rfl)
                       refine take_ (i := 6) (N := some 106) (v := ?_) (a' := ?_) bl88 rfl rfl (take_ofW HT_.out HW_.out (by kernel_rfl)) (fun _ _ _ h => h) (Or.inl ⟨by rfl, ?_⟩) hHeld ?_ ?_; rotate_left
                       ·rintro w' ⟨s0, s1, s2, s3, s4, s5, s6, s7, s8, s9⟩; go_simp; with_reducible rfl
                       rotate_left
                       ·simp only [Act.put, q5]; rfl
                       refine pu 7 (some 107) bl89 HT_ ?_ rfl rfl (.inl ⟨by rfl, ?_⟩) ?_ ?_ ?_; rotate_left; (intro w'; go_simp; with_reducible rfl); rotate_left; (simp only [Act.put, q5]; rfl)
                       refine pu 8 (some 108) bl90 HT_ ?_ rfl rfl (.inl ⟨by rfl, ?_⟩) ?_ ?_ ?_; rotate_left; (intro w'; go_simp; with_reducible rfl); rotate_left; (simp only [Act.put, q5]; rfl)
                       refine pu 9 (some 109) bl91 HT_ ?_ rfl rfl (.inl ⟨by rfl, ?_⟩) ?_ ?_ ?_; rotate_left; (intro w'; go_simp; with_reducible rfl); rotate_left; (simp only [Act.put, q5]; rfl)
                       refine pu 12 (some 112) bl92 HT_ ?_ rfl rfl (.inl ⟨by rfl, ?_⟩) ?_ ?_ ?_; rotate_left; (intro w'; go_simp; with_reducible rfl); rotate_left; (simp only [Act.put, q5]; rfl)
                       refine take_ (i := 10) (N := some 110) (v := ?_) (a' := ?_) bl93 rfl rfl (take_ofW HT_.out HW_.out (by kernel_rfl)) (fun _ _ _ h => h) (Or.inl ⟨by rfl, ?_⟩) hHeld ?_ ?_; rotate_left
                       ·rintro w' ⟨s0, s1, s2, s3, s4, s5, s6, s7, s8, s9⟩; go_simp; with_reducible rfl
                       rotate_left
                       ·simp only [Act.put, q5]; rfl
                       refine take_ (i := 11) (N := some 111) (v := ?_) (a' := ?_) bl94 rfl rfl (take_ofW HT_.out HW_.out (by kernel_rfl)) (fun _ _ _ h => h) (Or.inl ⟨by rfl, ?_⟩) hHeld ?_ ?_; rotate_left
                       ·rintro w' ⟨s0, s1, s2, s3, s4, s5, s6, s7, s8, s9⟩; go_simp; with_reducible rfl
                       rotate_left
                       ·simp only [Act.put, q5]; rfl
                       refine one_ (i := 13) (N := some 113) bl95 rfl rfl (one_of HT_.out (by kernel_rfl)) (by decide) (fun K hK => ?_); refine goes_ Try.func97 (by kernel_rfl) rfl #[.agg #[.slice A1_0 l1_0.length c1_0, .slice A1_1 l1_1.length c1_1], .int .i64 x9_3] (by rfl) rfl rfl (by (try simp only [m3]); first | done | rfl | (simp only [d2]; rfl)) ?_
                       with_reducible refine (spec_l3At.calls _ _ l1_0 _ _ l1_1 x9_3 t177 _ ?side1 ?side2 ?side3 ?side4 A55.out).mono ?_
                       (case side1 => exact zC (Kd.C_below HR1_0.out HB.out))
                       (case side2 => exact HC1_0.out)
                       (case side3 => exact zC (Kd.C_below HR1_1.out HB.out))
                       (case side4 => exact HC1_1.out)
                       rintro e w99 ⟨rfl, hb⟩; refine ⟨_, rfl, ?_⟩; replace BK163 := xB BK163 hb; replace BK164 := xB BK164 hb; replace BK165 := xB BK165 hb; replace BK175 := xB BK175 hb; replace HB := xS HB hb
                       (try clear hb)
                       (try clear hb2)
                       (try clear hk)
                       (try clear hi)
                       refine hK.out _ _ ⟨b1 BK175 0, b1 BK175 1, b1 BK175 2, b1 BK175 3, b1 BK165 0, b1 BK165 1, b1 BK164 0, b1 BK164 1, ((HB.out.cell (World.block_lt_of_cell? w _ hw176_0)).trans hw176_0), ((HB.out.cell (World.block_lt_of_cell? w _ hw178_0)).trans hw178_0)⟩ (fun hHeld => ?_); clear hK K; refine norm_ (a' := ?_) ?_ ?_; rotate_left
                       ·show Act.put _ (some 113) _ = _; simp only [Act.put, q5]; rfl
                       refine pu 14 (some 114) bl96 HT_ ?_ rfl rfl (.inl ⟨by rfl, ?_⟩) ?_ ?_ ?_; rotate_left; (intro w'; go_simp; with_reducible rfl); rotate_left; (simp only [Act.put, q5]; rfl)
                       refine pu 15 (some 115) bl97 HT_ ?_ rfl rfl (.inl ⟨by rfl, ?_⟩) ?_ ?_ ?_; rotate_left; (intro w'; go_simp; with_reducible rfl); rotate_left; (simp only [Act.put, q5]; rfl)
                       refine pu 16 (some 116) bl98 HT_ ?_ rfl rfl (.inl ⟨by rfl, ?_⟩) ?_ ?_ ?_; rotate_left; (intro w'; go_simp; with_reducible rfl); rotate_left; (simp only [Act.put, q5]; rfl)
                       refine pu 17 (some 117) bl99 HT_ ?_ rfl rfl (.inl ⟨by rfl, ?_⟩) ?_ ?_ ?_; rotate_left; (intro w'; go_simp; with_reducible rfl); rotate_left; (simp only [Act.put, q5]; rfl)
                       refine pu 19 (some 119) bl100 HT_ ?_ rfl rfl (.inl ⟨by rfl, ?_⟩) ?_ ?_ ?_; rotate_left; (intro w'; go_simp; with_reducible rfl); rotate_left; (simp only [Act.put, q5]; rfl)
                       refine pu 21 (some 121) bl101 HT_ ?_ rfl rfl (.inl ⟨by rfl, ?_⟩) ?_ ?_ ?_; rotate_left; (intro w'; go_simp; with_reducible rfl); rotate_left; (simp only [Act.put, q5]; rfl)
                       refine pu 22 (some 122) bl102 HT_ ?_ rfl rfl (.inl ⟨by rfl, ?_⟩) ?_ ?_ ?_; rotate_left; (intro w'; go_simp; with_reducible rfl); rotate_left; (simp only [Act.put, q5]; rfl)
                       refine take_ (i := 18) (N := some 118) (v := ?_) (a' := ?_) bl103 rfl rfl (take_ofW HT_.out HW_.out (by kernel_rfl)) (fun _ _ _ h => h) (Or.inl ⟨by rfl, ?_⟩) hHeld ?_ ?_; rotate_left
                       ·rintro w' ⟨s0, s1, s2, s3, s4, s5, s6, s7, s8, s9⟩; go_simp; with_reducible rfl
                       rotate_left
                       ·simp only [Act.put, q5]; rfl
                       refine take_ (i := 20) (N := some 120) (v := ?_) (a' := ?_) bl104 rfl rfl (take_ofW HT_.out HW_.out (by kernel_rfl)) (fun _ _ _ h => h) (Or.inl ⟨by rfl, ?_⟩) hHeld ?_ ?_; rotate_left
                       ·rintro w' ⟨s0, s1, s2, s3, s4, s5, s6, s7, s8, s9⟩; go_simp; with_reducible rfl
                       rotate_left
                       ·simp only [Act.put, q5]; rfl
                       refine pu 23 (some 123) bl105 HT_ ?_ rfl rfl (.inl ⟨by rfl, ?_⟩) ?_ ?_ ?_; rotate_left; (intro w'; go_simp; with_reducible rfl); rotate_left; (simp only [Act.put, q5]; rfl)
                       refine take_ (i := 24) (N := some 124) (v := ?_) (a' := ?_) bl106 rfl rfl (take_ofW HT_.out HW_.out (by kernel_rfl)) (fun _ _ _ h => h) (Or.inl ⟨by rfl, ?_⟩) hHeld ?_ ?_; rotate_left
                       ·rintro w' ⟨s0, s1, s2, s3, s4, s5, s6, s7, s8, s9⟩; go_simp; with_reducible rfl
                       rotate_left
                       ·simp only [Act.put, q5]; rfl
                       refine pu 25 (some 125) bl107 HT_ ?_ rfl rfl (.inl ⟨by rfl, ?_⟩) ?_ ?_ ?_; rotate_left; (intro w'; go_simp; with_reducible rfl); rotate_left; (simp only [Act.put, q5]; rfl)
                       refine pu 26 (some 126) bl108 HT_ ?_ rfl rfl (.inl ⟨by rfl, ?_⟩) ?_ ?_ ?_; rotate_left; (intro w'; go_simp; with_reducible rfl); rotate_left; (simp only [Act.put, q5]; rfl)
                       refine done_ (done_of HT_.out (by kernel_rfl)) ?_; have hcz100_0 : w99.cell? ⟨gb175, 0, none⟩ = some (.int .i64 ((rd_T68 l0_3 x11_4).f0)) := b1 BK175 0; have hcz100_1 : w99.cell? ⟨gb175, 1, none⟩ = some (.int .i64 ((rd_T68 l0_3 x11_4).f1)) := b1 BK175 1; have hcz100_2 : w99.cell? ⟨gb175, 2, none⟩ = some (.int .i64 ((rd_T68 l0_3 x11_4).f2)) := b1 BK175 2; have hcz100_3 : w99.cell? ⟨gb175, 3, none⟩ = some (.bool false) := b1 BK175 3; have hfz100_0 := blk_frozen BK175.out 0; have hfz100_1 := blk_frozen BK175.out 1; have hfz100_2 := blk_frozen BK175.out 2; have hfz100_3 := blk_frozen BK175.out 3
                       try go_wp2
                       (first | go_roundg k4 | ((try simp only [← hji57]); go_roundg k4))
                       case measure => have := HJ3.out; have := HJ35.out; have := HK3.out; have := HK4.out; omega
                       case rel => exact ⟨(false), (true), (wrap64 (x11_4 + 1)), (by first | rfl | (simp; done) | (simp [*]; done) | (rw [Int.tmod_eq_emod_of_nonneg (Int.natCast_nonneg _)]; done)), (by first | rfl | (simp; done) | (simp [*]; done) | (rw [Int.tmod_eq_emod_of_nonneg (Int.natCast_nonneg _)]; done)), (by first | rfl | (simp; done) | (simp [*]; done) | (rw [Int.tmod_eq_emod_of_nonneg (Int.natCast_nonneg _)]; done)), (by first | exact H' | (have h_ := H'; (try simp only [← hji57] at h_); (try simp only [← hji57]); exact h_)), ⟨by have := HJ3.out; have := HJ35.out; have := HK3.out; have := HK4.out; omega⟩, ⟨zB BK163.out⟩, ⟨zB BK164.out⟩, ⟨zB BK165.out⟩, ⟨zS HB.out⟩⟩
                    ·rw [if_neg c60] at H; have c60b0 : (((rd_T68 l0_3 x11_4).f2) == (rd l2_0 (ji57))) = false := beq_eq_false_iff_ne.mpr c60; have c60b1 : (((rd_T68 l0_3 x11_4).f2) != (rd l2_0 (ji57))) = true := bne_iff_ne.mpr c60; have H' := Aside0.mk H; clear H; have hnb101 := NB163_164.out; have hnc101 := NB164_163.out; have hnb102 := NB163_165.out; have hnc102 := NB165_163.out; have hcz103_0 : wr.cell? ⟨gb163, 0, none⟩ = some (.int .i64 a0_0) := b1 BK163 0; have hcz103_1 : wr.cell? ⟨gb163, 1, none⟩ = some (.int .i64 a0_1) := b1 BK163 1; have hcz103_2 : wr.cell? ⟨gb163, 2, none⟩ = some (.int .i64 a0_2) := b1 BK163 2; have hcz103_3 : wr.cell? ⟨gb163, 3, none⟩ = some (.slice A0_3 l0_3.length c0_3) := b1 BK163 3; have hfz103_0 := blk_frozen BK163.out 0; have hfz103_1 := blk_frozen BK163.out 1; have hfz103_2 := blk_frozen BK163.out 2; have hfz103_3 := blk_frozen BK163.out 3; have p174 : 0 ≤ (x11_4 : Int) := oD; have q174 : x11_4 < (l0_3.length : Int) := oD; obtain ⟨ad174, e174, hx174_0, hx174_1, hx174_2, hx174_3⟩ := at_T68 HR0_3.out x11_4 p174 q174
                     cases e174
                     replace hx174_0 := cT HB hx174_0; replace hx174_1 := cT HB hx174_1; replace hx174_2 := cT HB hx174_2; replace hx174_3 := cT HB hx174_3; replace p174 := eq_true p174; replace q174 := eq_true q174
                     try go_wp2_with (first | ((with_reducible refine gate_dst (N := 12) rfl ?_); (try (refine gate_guard (by rfl) ?_; dsimp only)); refine box_event ?hg (N := 12) ?hd (cs := #[.int .i64 0, .int .i64 0, .int .i64 0, .bool false]) (t := 68) ?hr ?_; (case hd => rfl); (case hg => rfl); (case hr => first | (go_simp; done) | (go_simp; rfl)); intro gb175 hg w104 hbox hb; have BK175 := Aside0.mk (hbox); have GW175 := xG HB hg; have GE175 := xG HB hg; replace HB := xS HB hb; have NB163_175 := xN BK163 hg; have NB175_163 := xM BK163 hg; replace BK163 := xB BK163 hb; have NB164_175 := xN BK164 hg; have NB175_164 := xM BK164 hg; replace BK164 := xB BK164 hb; have NB165_175 := xN BK165 hg; have NB175_165 := xM BK165 hg; replace BK165 := xB BK165 hb; clear hb hbox hg; have hnb105 := NB175_163.out; have hnc105 := NB163_175.out; have hnb106 := NB175_164.out; have hnc106 := NB164_175.out; have hnb107 := NB175_165.out; have hnc107 := NB165_175.out; have hcz108_0 : w104.cell? ⟨gb175, 0, none⟩ = some (.int .i64 0) := b1 BK175 0; have hcz108_1 : w104.cell? ⟨gb175, 1, none⟩ = some (.int .i64 0) := b1 BK175 1; have hcz108_2 : w104.cell? ⟨gb175, 2, none⟩ = some (.int .i64 0) := b1 BK175 2; have hcz108_3 : w104.cell? ⟨gb175, 3, none⟩ = some (.bool false) := b1 BK175 3; have hfz108_0 := blk_frozen BK175.out 0; have hfz108_1 := blk_frozen BK175.out 1; have hfz108_2 := blk_frozen BK175.out 2; have hfz108_3 := blk_frozen BK175.out 3))
                     have n0_ : Aside0 (((((w104.setCell ⟨gb175, 0, none⟩ (.int .i64 ((rd_T68 l0_3 x11_4).f0))).setCell ⟨gb175, 1, none⟩ (.int .i64 ((rd_T68 l0_3 x11_4).f1))).setCell ⟨gb175, 2, none⟩ (.int .i64 ((rd_T68 l0_3 x11_4).f2))).setCell ⟨gb175, 3, none⟩ (.bool ((rd_T68 l0_3 x11_4).f3))).heap[gb163]? = some (.cells #[.int .i64 a0_0, .int .i64 a0_1, .int .i64 a0_2, .slice (some ad174) l0_3.length c0_3] 24 (0, 0))) := ⟨zB BK163.out⟩; have n1_ : Aside0 (((((w104.setCell ⟨gb175, 0, none⟩ (.int .i64 ((rd_T68 l0_3 x11_4).f0))).setCell ⟨gb175, 1, none⟩ (.int .i64 ((rd_T68 l0_3 x11_4).f1))).setCell ⟨gb175, 2, none⟩ (.int .i64 ((rd_T68 l0_3 x11_4).f2))).setCell ⟨gb175, 3, none⟩ (.bool ((rd_T68 l0_3 x11_4).f3))).heap[gb164]? = some (.cells #[.slice A1_0 l1_0.length c1_0, .slice A1_1 l1_1.length c1_1] 78 (0, 0))) := ⟨zB BK164.out⟩; have n2_ : Aside0 (((((w104.setCell ⟨gb175, 0, none⟩ (.int .i64 ((rd_T68 l0_3 x11_4).f0))).setCell ⟨gb175, 1, none⟩ (.int .i64 ((rd_T68 l0_3 x11_4).f1))).setCell ⟨gb175, 2, none⟩ (.int .i64 ((rd_T68 l0_3 x11_4).f2))).setCell ⟨gb175, 3, none⟩ (.bool ((rd_T68 l0_3 x11_4).f3))).heap[gb165]? = some (.cells #[.slice A2_0 l2_0.length c2_0, .int .i64 a2_1] 80 (0, 0))) := ⟨zB BK165.out⟩; have n3_ : Aside0 (((((w104.setCell ⟨gb175, 0, none⟩ (.int .i64 ((rd_T68 l0_3 x11_4).f0))).setCell ⟨gb175, 1, none⟩ (.int .i64 ((rd_T68 l0_3 x11_4).f1))).setCell ⟨gb175, 2, none⟩ (.int .i64 ((rd_T68 l0_3 x11_4).f2))).setCell ⟨gb175, 3, none⟩ (.bool ((rd_T68 l0_3 x11_4).f3))).heap[gb175]? = some (.cells #[.int .i64 ((rd_T68 l0_3 x11_4).f0), .int .i64 ((rd_T68 l0_3 x11_4).f1), .int .i64 ((rd_T68 l0_3 x11_4).f2), .bool ((rd_T68 l0_3 x11_4).f3)] 68 (0, 0))) := ⟨by (with_reducible repeat (first | refine blk_drewN ?_ _ | refine blk_drew ?_ | refine blk_alloc ?_ _)); refine blk_put (cs := #[.int .i64 ((rd_T68 l0_3 x11_4).f0), .int .i64 ((rd_T68 l0_3 x11_4).f1), .int .i64 ((rd_T68 l0_3 x11_4).f2), .bool false]) ?_ 3 _ rfl; (with_reducible repeat (first | refine blk_drewN ?_ _ | refine blk_drew ?_ | refine blk_alloc ?_ _)); refine blk_put (cs := #[.int .i64 ((rd_T68 l0_3 x11_4).f0), .int .i64 ((rd_T68 l0_3 x11_4).f1), .int .i64 0, .bool false]) ?_ 2 _ rfl; (with_reducible repeat (first | refine blk_drewN ?_ _ | refine blk_drew ?_ | refine blk_alloc ?_ _)); refine blk_put (cs := #[.int .i64 ((rd_T68 l0_3 x11_4).f0), .int .i64 0, .int .i64 0, .bool false]) ?_ 1 _ rfl; (with_reducible repeat (first | refine blk_drewN ?_ _ | refine blk_drew ?_ | refine blk_alloc ?_ _)); refine blk_put (cs := #[.int .i64 0, .int .i64 0, .int .i64 0, .bool false]) ?_ 0 _ rfl; (with_reducible repeat (first | refine blk_drewN ?_ _ | refine blk_drew ?_ | refine blk_alloc ?_ _)); exact BK175.out⟩
                     have n4_ : Aside0 (Below w.heap.size w ((((w104.setCell ⟨gb175, 0, none⟩ (.int .i64 ((rd_T68 l0_3 x11_4).f0))).setCell ⟨gb175, 1, none⟩ (.int .i64 ((rd_T68 l0_3 x11_4).f1))).setCell ⟨gb175, 2, none⟩ (.int .i64 ((rd_T68 l0_3 x11_4).f2))).setCell ⟨gb175, 3, none⟩ (.bool ((rd_T68 l0_3 x11_4).f3)))) := ⟨zS HB.out⟩
                     (try clear BK163)
                     (try clear BK164)
                     (try clear BK165)
                     (try clear BK175)
                     (try clear HB)
                     generalize ((((w104.setCell ⟨gb175, 0, none⟩ (.int .i64 ((rd_T68 l0_3 x11_4).f0))).setCell ⟨gb175, 1, none⟩ (.int .i64 ((rd_T68 l0_3 x11_4).f1))).setCell ⟨gb175, 2, none⟩ (.int .i64 ((rd_T68 l0_3 x11_4).f2))).setCell ⟨gb175, 3, none⟩ (.bool ((rd_T68 l0_3 x11_4).f3))) = w109 at n0_ n1_ n2_ n3_ n4_ ⊢; have BK163 := n0_; have BK164 := n1_; have BK165 := n2_; have BK175 := n3_; have HB := n4_; clear n0_ n1_ n2_ n3_ n4_; replace BK163 := Aside0.mk (blk_drew BK163.out); replace BK164 := Aside0.mk (blk_drew BK164.out); replace BK165 := Aside0.mk (blk_drew BK165.out); replace BK175 := Aside0.mk (blk_drew BK175.out); replace HB := Aside0.mk (below_drew1 HB.out); have p176 : 0 ≤ (x9_3 : Int) := oD; have q176 : x9_3 < (l2_0.length : Int) := oD; obtain ⟨ad176, e176, hx176_0⟩ := Kd.at_int HR2_0.out x9_3 p176 q176; have hw176_0 := hx176_0
                     cases e176
                     replace hx176_0 := cT HB hx176_0; replace p176 := eq_true p176; replace q176 := eq_true q176; have p178 : 0 ≤ ((ji57) : Int) := oD; have q178 : (ji57) < (l2_0.length : Int) := oD; obtain ⟨ad178, e178, hx178_0⟩ := Kd.at_int HR2_0.out (ji57) p178 q178; have hw178_0 := hx178_0; obtain rfl : ad176 = ad178 := (by injection e178); replace hx178_0 := cT HB hx178_0; replace p178 := eq_true p178; replace q178 := eq_true q178; refine start_ (n := 27) (S := fun w' => w'.cell? ⟨gb175, 0, none⟩ = some (.int .i64 ((rd_T68 l0_3 x11_4).f0)) ∧ w'.cell? ⟨gb175, 1, none⟩ = some (.int .i64 ((rd_T68 l0_3 x11_4).f1)) ∧ w'.cell? ⟨gb175, 2, none⟩ = some (.int .i64 ((rd_T68 l0_3 x11_4).f2)) ∧ w'.cell? ⟨gb175, 3, none⟩ = some (.bool ((rd_T68 l0_3 x11_4).f3)) ∧ w'.cell? ⟨gb165, 0, none⟩ = some (.slice (some ad176) l2_0.length c2_0) ∧ w'.cell? ⟨gb165, 1, none⟩ = some (.int .i64 a2_1) ∧ w'.cell? ⟨gb164, 0, none⟩ = some (.slice A1_0 l1_0.length c1_0) ∧ w'.cell? ⟨gb164, 1, none⟩ = some (.slice A1_1 l1_1.length c1_1) ∧ w'.cell? (ad176.add (x9_3).toNat) = some (.int .i64 (rd l2_0 x9_3)) ∧ w'.cell? (ad176.add ((ji57)).toNat) = some (.int .i64 (rd l2_0 (ji57)))) (ds := []) bl81 (by kernel_rfl) rfl rfl ⟨b1 BK175 0, b1 BK175 1, b1 BK175 2, b1 BK175 3, b1 BK165 0, b1 BK165 1, b1 BK164 0, b1 BK164 1, ((HB.out.cell (World.block_lt_of_cell? w _ hw176_0)).trans hw176_0), ((HB.out.cell (World.block_lt_of_cell? w _ hw178_0)).trans hw178_0)⟩ (fun hHeld => ?_); refine with_tabW spec_RunOk.tab15 spec_RunOk.bits15 (fun HT_ HW_ => ?_); generalize w109.drew = w110 at BK163 BK164 BK165 BK175 HB hx176_0 hx178_0 hHeld ⊢
                     refine pu 0 (some 100) bl82 HT_ ?_ rfl rfl (.inl ⟨by rfl, ?_⟩) ?_ ?_ ?_; rotate_left; (intro w'; go_simp; with_reducible rfl); rotate_left; (simp only [Act.put, q5]; rfl)
                     refine pu 2 (some 102) bl83 HT_ ?_ rfl rfl (.inl ⟨by rfl, ?_⟩) ?_ ?_ ?_; rotate_left; (intro w'; go_simp; with_reducible rfl); rotate_left; (simp only [Act.put, q5]; rfl)
                     refine pu 4 (some 104) bl84 HT_ ?_ rfl rfl (.inl ⟨by rfl, ?_⟩) ?_ ?_ ?_; rotate_left; (intro w'; go_simp; with_reducible rfl); rotate_left; (simp only [Act.put, q5]; rfl)
                     refine take_ (i := 1) (N := some 101) (v := ?_) (a' := ?_) bl85 rfl rfl (take_ofW HT_.out HW_.out (by kernel_rfl)) (fun _ _ _ h => h) (Or.inl ⟨by rfl, ?_⟩) hHeld ?_ ?_; rotate_left
                     ·rintro w' ⟨s0, s1, s2, s3, s4, s5, s6, s7, s8, s9⟩; go_simp; with_reducible rfl
                     rotate_left
                     ·simp only [Act.put, q5]; rfl
                     refine take_ (i := 3) (N := some 103) (v := ?_) (a' := ?_) bl86 rfl rfl (take_ofW HT_.out HW_.out (by kernel_rfl)) (fun _ _ _ h => h) (Or.inl ⟨by rfl, ?_⟩) hHeld ?_ ?_; rotate_left
                     ·rintro w' ⟨s0, s1, s2, s3, s4, s5, s6, s7, s8, s9⟩; go_simp; with_reducible rfl
                     rotate_left
                     ·simp only [Act.put, q5]; rfl
                     refine pu 5 (some 105) bl87 HT_ ?_ rfl rfl (.inl ⟨by rfl, ?_⟩) ?_ ?_ ?_; rotate_left; (intro w'; go_simp; with_reducible rfl); rotate_left; (simp only [Act.put, q5]; rfl)
                     refine take_ (i := 6) (N := some 106) (v := ?_) (a' := ?_) bl88 rfl rfl (take_ofW HT_.out HW_.out (by kernel_rfl)) (fun _ _ _ h => h) (Or.inl ⟨by rfl, ?_⟩) hHeld ?_ ?_; rotate_left
                     ·rintro w' ⟨s0, s1, s2, s3, s4, s5, s6, s7, s8, s9⟩; go_simp; with_reducible rfl
                     rotate_left
                     ·simp only [Act.put, q5]; rfl
                     refine pu 7 (some 107) bl89 HT_ ?_ rfl rfl (.inl ⟨by rfl, ?_⟩) ?_ ?_ ?_; rotate_left; (intro w'; go_simp; with_reducible rfl); rotate_left; (simp only [Act.put, q5]; rfl)
                     refine pu 8 (some 108) bl90 HT_ ?_ rfl rfl (.inl ⟨by rfl, ?_⟩) ?_ ?_ ?_; rotate_left; (intro w'; go_simp; with_reducible rfl); rotate_left; (simp only [Act.put, q5]; rfl)
                     refine pu 9 (some 109) bl91 HT_ ?_ rfl rfl (.inl ⟨by rfl, ?_⟩) ?_ ?_ ?_; rotate_left; (intro w'; go_simp; with_reducible rfl); rotate_left; (simp only [Act.put, q5]; rfl)
                     refine pu 12 (some 112) bl92 HT_ ?_ rfl rfl (.inl ⟨by rfl, ?_⟩) ?_ ?_ ?_; rotate_left; (intro w'; go_simp; with_reducible rfl); rotate_left; (simp only [Act.put, q5]; rfl)
                     refine take_ (i := 10) (N := some 110) (v := ?_) (a' := ?_) bl93 rfl rfl (take_ofW HT_.out HW_.out (by kernel_rfl)) (fun _ _ _ h => h) (Or.inl ⟨by rfl, ?_⟩) hHeld ?_ ?_; rotate_left
                     ·rintro w' ⟨s0, s1, s2, s3, s4, s5, s6, s7, s8, s9⟩; go_simp; with_reducible rfl
                     rotate_left
                     ·simp only [Act.put, q5]; rfl
                     refine take_ (i := 11) (N := some 111) (v := ?_) (a' := ?_) bl94 rfl rfl (take_ofW HT_.out HW_.out (by kernel_rfl)) (fun _ _ _ h => h) (Or.inl ⟨by rfl, ?_⟩) hHeld ?_ ?_; rotate_left
                     ·rintro w' ⟨s0, s1, s2, s3, s4, s5, s6, s7, s8, s9⟩; go_simp; with_reducible rfl
                     rotate_left
                     ·simp only [Act.put, q5]; rfl
                     refine one_ (i := 13) (N := some 113) bl95 rfl rfl (one_of HT_.out (by kernel_rfl)) (by decide) (fun K hK => ?_); refine goes_ Try.func97 (by kernel_rfl) rfl #[.agg #[.slice A1_0 l1_0.length c1_0, .slice A1_1 l1_1.length c1_1], .int .i64 x9_3] (by rfl) rfl rfl (by (try simp only [m3]); first | done | rfl | (simp only [d2]; rfl)) ?_
                     with_reducible refine (spec_l3At.calls _ _ l1_0 _ _ l1_1 x9_3 t177 _ ?side1 ?side2 ?side3 ?side4 A55.out).mono ?_
                     (case side1 => exact zC (Kd.C_below HR1_0.out HB.out))
                     (case side2 => exact HC1_0.out)
                     (case side3 => exact zC (Kd.C_below HR1_1.out HB.out))
                     (case side4 => exact HC1_1.out)
                     rintro e w111 ⟨rfl, hb⟩; refine ⟨_, rfl, ?_⟩; replace BK163 := xB BK163 hb; replace BK164 := xB BK164 hb; replace BK165 := xB BK165 hb; replace BK175 := xB BK175 hb; replace HB := xS HB hb
                     (try clear hb)
                     (try clear hb2)
                     (try clear hk)
                     (try clear hi)
                     refine hK.out _ _ ⟨b1 BK175 0, b1 BK175 1, b1 BK175 2, b1 BK175 3, b1 BK165 0, b1 BK165 1, b1 BK164 0, b1 BK164 1, ((HB.out.cell (World.block_lt_of_cell? w _ hw176_0)).trans hw176_0), ((HB.out.cell (World.block_lt_of_cell? w _ hw178_0)).trans hw178_0)⟩ (fun hHeld => ?_); clear hK K; refine norm_ (a' := ?_) ?_ ?_; rotate_left
                     ·show Act.put _ (some 113) _ = _; simp only [Act.put, q5]; rfl
                     refine pu 14 (some 114) bl96 HT_ ?_ rfl rfl (.inl ⟨by rfl, ?_⟩) ?_ ?_ ?_; rotate_left; (intro w'; go_simp; with_reducible rfl); rotate_left; (simp only [Act.put, q5]; rfl)
                     refine pu 15 (some 115) bl97 HT_ ?_ rfl rfl (.inl ⟨by rfl, ?_⟩) ?_ ?_ ?_; rotate_left; (intro w'; go_simp; with_reducible rfl); rotate_left; (simp only [Act.put, q5]; rfl)
                     refine pu 16 (some 116) bl98 HT_ ?_ rfl rfl (.inl ⟨by rfl, ?_⟩) ?_ ?_ ?_; rotate_left; (intro w'; go_simp; with_reducible rfl); rotate_left; (simp only [Act.put, q5]; rfl)
                     refine pu 17 (some 117) bl99 HT_ ?_ rfl rfl (.inl ⟨by rfl, ?_⟩) ?_ ?_ ?_; rotate_left; (intro w'; go_simp; with_reducible rfl); rotate_left; (simp only [Act.put, q5]; rfl)
                     refine pu 19 (some 119) bl100 HT_ ?_ rfl rfl (.inl ⟨by rfl, ?_⟩) ?_ ?_ ?_; rotate_left; (intro w'; go_simp; with_reducible rfl); rotate_left; (simp only [Act.put, q5]; rfl)
                     refine pu 21 (some 121) bl101 HT_ ?_ rfl rfl (.inl ⟨by rfl, ?_⟩) ?_ ?_ ?_; rotate_left; (intro w'; go_simp; with_reducible rfl); rotate_left; (simp only [Act.put, q5]; rfl)
                     refine pu 22 (some 122) bl102 HT_ ?_ rfl rfl (.inl ⟨by rfl, ?_⟩) ?_ ?_ ?_; rotate_left; (intro w'; go_simp; with_reducible rfl); rotate_left; (simp only [Act.put, q5]; rfl)
                     refine take_ (i := 18) (N := some 118) (v := ?_) (a' := ?_) bl103 rfl rfl (take_ofW HT_.out HW_.out (by kernel_rfl)) (fun _ _ _ h => h) (Or.inl ⟨by rfl, ?_⟩) hHeld ?_ ?_; rotate_left
                     ·rintro w' ⟨s0, s1, s2, s3, s4, s5, s6, s7, s8, s9⟩; go_simp; with_reducible rfl
                     rotate_left
                     ·simp only [Act.put, q5]; rfl
                     refine take_ (i := 20) (N := some 120) (v := ?_) (a' := ?_) bl104 rfl rfl (take_ofW HT_.out HW_.out (by kernel_rfl)) (fun _ _ _ h => h) (Or.inl ⟨by rfl, ?_⟩) hHeld ?_ ?_; rotate_left
                     ·rintro w' ⟨s0, s1, s2, s3, s4, s5, s6, s7, s8, s9⟩; go_simp; with_reducible rfl
                     rotate_left
                     ·simp only [Act.put, q5]; rfl
                     refine pu 23 (some 123) bl105 HT_ ?_ rfl rfl (.inl ⟨by rfl, ?_⟩) ?_ ?_ ?_; rotate_left; (intro w'; go_simp; with_reducible rfl); rotate_left; (simp only [Act.put, q5]; rfl)
                     refine take_ (i := 24) (N := some 124) (v := ?_) (a' := ?_) bl106 rfl rfl (take_ofW HT_.out HW_.out (by kernel_rfl)) (fun _ _ _ h => h) (Or.inl ⟨by rfl, ?_⟩) hHeld ?_ ?_; rotate_left
                     ·rintro w' ⟨s0, s1, s2, s3, s4, s5, s6, s7, s8, s9⟩; go_simp; with_reducible rfl
                     rotate_left
                     ·simp only [Act.put, q5]; rfl
                     refine pu 25 (some 125) bl107 HT_ ?_ rfl rfl (.inl ⟨by rfl, ?_⟩) ?_ ?_ ?_; rotate_left; (intro w'; go_simp; with_reducible rfl); rotate_left; (simp only [Act.put, q5]; rfl)
                     refine pu 26 (some 126) bl108 HT_ ?_ rfl rfl (.inl ⟨by rfl, ?_⟩) ?_ ?_ ?_; rotate_left; (intro w'; go_simp; with_reducible rfl); rotate_left; (simp only [Act.put, q5]; rfl)
                     refine done_ (done_of HT_.out (by kernel_rfl)) ?_
                     try go_wp2
                     (first | go_roundg k4 | ((try simp only [← hji57]); go_roundg k4))
                     case measure => have := HJ3.out; have := HJ35.out; have := HK3.out; have := HK4.out; omega
                     case rel => exact ⟨(x8_4), (x10_4), (wrap64 (x11_4 + 1)), (by first | rfl | (simp; done) | (simp [*]; done) | (rw [Int.tmod_eq_emod_of_nonneg (Int.natCast_nonneg _)]; done)), (by first | rfl | (simp; done) | (simp [*]; done) | (rw [Int.tmod_eq_emod_of_nonneg (Int.natCast_nonneg _)]; done)), (by first | rfl | (simp; done) | (simp [*]; done) | (rw [Int.tmod_eq_emod_of_nonneg (Int.natCast_nonneg _)]; done)), (by first | exact H' | (have h_ := H'; (try simp only [← hji57] at h_); (try simp only [← hji57]); exact h_)), ⟨by have := HJ3.out; have := HJ35.out; have := HK3.out; have := HK4.out; omega⟩, ⟨zB BK163.out⟩, ⟨zB BK164.out⟩, ⟨zB BK165.out⟩, ⟨zS HB.out⟩⟩
                   ·rw [if_neg c59] at H; exact absurd H (by simp)
                  ·rw [if_neg c58] at H; exact absurd H (by simp)
                 ·rw [if_neg c56] at H; have c56b0 : (((rd_T68 l0_3 x11_4).f1) == t177) = false := beq_eq_false_iff_ne.mpr c56; have c56b1 : (((rd_T68 l0_3 x11_4).f1) != t177) = true := bne_iff_ne.mpr c56; have H' := Aside0.mk H; clear H; have hnb112 := NB163_164.out; have hnc112 := NB164_163.out; have hnb113 := NB163_165.out; have hnc113 := NB165_163.out; have hcz114_0 : wr.cell? ⟨gb163, 0, none⟩ = some (.int .i64 a0_0) := b1 BK163 0; have hcz114_1 : wr.cell? ⟨gb163, 1, none⟩ = some (.int .i64 a0_1) := b1 BK163 1; have hcz114_2 : wr.cell? ⟨gb163, 2, none⟩ = some (.int .i64 a0_2) := b1 BK163 2; have hcz114_3 : wr.cell? ⟨gb163, 3, none⟩ = some (.slice A0_3 l0_3.length c0_3) := b1 BK163 3; have hfz114_0 := blk_frozen BK163.out 0; have hfz114_1 := blk_frozen BK163.out 1; have hfz114_2 := blk_frozen BK163.out 2; have hfz114_3 := blk_frozen BK163.out 3; have p174 : 0 ≤ (x11_4 : Int) := oD; have q174 : x11_4 < (l0_3.length : Int) := oD; obtain ⟨ad174, e174, hx174_0, hx174_1, hx174_2, hx174_3⟩ := at_T68 HR0_3.out x11_4 p174 q174
                  cases e174
                  replace hx174_0 := cT HB hx174_0; replace hx174_1 := cT HB hx174_1; replace hx174_2 := cT HB hx174_2; replace hx174_3 := cT HB hx174_3; replace p174 := eq_true p174; replace q174 := eq_true q174
                  try go_wp2_with (first | ((with_reducible refine gate_dst (N := 12) rfl ?_); (try (refine gate_guard (by rfl) ?_; dsimp only)); refine box_event ?hg (N := 12) ?hd (cs := #[.int .i64 0, .int .i64 0, .int .i64 0, .bool false]) (t := 68) ?hr ?_; (case hd => rfl); (case hg => rfl); (case hr => first | (go_simp; done) | (go_simp; rfl)); intro gb175 hg w115 hbox hb; have BK175 := Aside0.mk (hbox); have GW175 := xG HB hg; have GE175 := xG HB hg; replace HB := xS HB hb; have NB163_175 := xN BK163 hg; have NB175_163 := xM BK163 hg; replace BK163 := xB BK163 hb; have NB164_175 := xN BK164 hg; have NB175_164 := xM BK164 hg; replace BK164 := xB BK164 hb; have NB165_175 := xN BK165 hg; have NB175_165 := xM BK165 hg; replace BK165 := xB BK165 hb; clear hb hbox hg; have hnb116 := NB175_163.out; have hnc116 := NB163_175.out; have hnb117 := NB175_164.out; have hnc117 := NB164_175.out; have hnb118 := NB175_165.out; have hnc118 := NB165_175.out; have hcz119_0 : w115.cell? ⟨gb175, 0, none⟩ = some (.int .i64 0) := b1 BK175 0; have hcz119_1 : w115.cell? ⟨gb175, 1, none⟩ = some (.int .i64 0) := b1 BK175 1; have hcz119_2 : w115.cell? ⟨gb175, 2, none⟩ = some (.int .i64 0) := b1 BK175 2; have hcz119_3 : w115.cell? ⟨gb175, 3, none⟩ = some (.bool false) := b1 BK175 3; have hfz119_0 := blk_frozen BK175.out 0; have hfz119_1 := blk_frozen BK175.out 1; have hfz119_2 := blk_frozen BK175.out 2; have hfz119_3 := blk_frozen BK175.out 3))
                  have n0_ : Aside0 (((((w115.setCell ⟨gb175, 0, none⟩ (.int .i64 ((rd_T68 l0_3 x11_4).f0))).setCell ⟨gb175, 1, none⟩ (.int .i64 ((rd_T68 l0_3 x11_4).f1))).setCell ⟨gb175, 2, none⟩ (.int .i64 ((rd_T68 l0_3 x11_4).f2))).setCell ⟨gb175, 3, none⟩ (.bool ((rd_T68 l0_3 x11_4).f3))).heap[gb163]? = some (.cells #[.int .i64 a0_0, .int .i64 a0_1, .int .i64 a0_2, .slice (some ad174) l0_3.length c0_3] 24 (0, 0))) := ⟨zB BK163.out⟩; have n1_ : Aside0 (((((w115.setCell ⟨gb175, 0, none⟩ (.int .i64 ((rd_T68 l0_3 x11_4).f0))).setCell ⟨gb175, 1, none⟩ (.int .i64 ((rd_T68 l0_3 x11_4).f1))).setCell ⟨gb175, 2, none⟩ (.int .i64 ((rd_T68 l0_3 x11_4).f2))).setCell ⟨gb175, 3, none⟩ (.bool ((rd_T68 l0_3 x11_4).f3))).heap[gb164]? = some (.cells #[.slice A1_0 l1_0.length c1_0, .slice A1_1 l1_1.length c1_1] 78 (0, 0))) := ⟨zB BK164.out⟩; have n2_ : Aside0 (((((w115.setCell ⟨gb175, 0, none⟩ (.int .i64 ((rd_T68 l0_3 x11_4).f0))).setCell ⟨gb175, 1, none⟩ (.int .i64 ((rd_T68 l0_3 x11_4).f1))).setCell ⟨gb175, 2, none⟩ (.int .i64 ((rd_T68 l0_3 x11_4).f2))).setCell ⟨gb175, 3, none⟩ (.bool ((rd_T68 l0_3 x11_4).f3))).heap[gb165]? = some (.cells #[.slice A2_0 l2_0.length c2_0, .int .i64 a2_1] 80 (0, 0))) := ⟨zB BK165.out⟩; have n3_ : Aside0 (((((w115.setCell ⟨gb175, 0, none⟩ (.int .i64 ((rd_T68 l0_3 x11_4).f0))).setCell ⟨gb175, 1, none⟩ (.int .i64 ((rd_T68 l0_3 x11_4).f1))).setCell ⟨gb175, 2, none⟩ (.int .i64 ((rd_T68 l0_3 x11_4).f2))).setCell ⟨gb175, 3, none⟩ (.bool ((rd_T68 l0_3 x11_4).f3))).heap[gb175]? = some (.cells #[.int .i64 ((rd_T68 l0_3 x11_4).f0), .int .i64 ((rd_T68 l0_3 x11_4).f1), .int .i64 ((rd_T68 l0_3 x11_4).f2), .bool ((rd_T68 l0_3 x11_4).f3)] 68 (0, 0))) := ⟨by (with_reducible repeat (first | refine blk_drewN ?_ _ | refine blk_drew ?_ | refine blk_alloc ?_ _)); refine blk_put (cs := #[.int .i64 ((rd_T68 l0_3 x11_4).f0), .int .i64 ((rd_T68 l0_3 x11_4).f1), .int .i64 ((rd_T68 l0_3 x11_4).f2), .bool false]) ?_ 3 _ rfl; (with_reducible repeat (first | refine blk_drewN ?_ _ | refine blk_drew ?_ | refine blk_alloc ?_ _)); refine blk_put (cs := #[.int .i64 ((rd_T68 l0_3 x11_4).f0), .int .i64 ((rd_T68 l0_3 x11_4).f1), .int .i64 0, .bool false]) ?_ 2 _ rfl; (with_reducible repeat (first | refine blk_drewN ?_ _ | refine blk_drew ?_ | refine blk_alloc ?_ _)); refine blk_put (cs := #[.int .i64 ((rd_T68 l0_3 x11_4).f0), .int .i64 0, .int .i64 0, .bool false]) ?_ 1 _ rfl; (with_reducible repeat (first | refine blk_drewN ?_ _ | refine blk_drew ?_ | refine blk_alloc ?_ _)); refine blk_put (cs := #[.int .i64 0, .int .i64 0, .int .i64 0, .bool false]) ?_ 0 _ rfl; (with_reducible repeat (first | refine blk_drewN ?_ _ | refine blk_drew ?_ | refine blk_alloc ?_ _)); exact BK175.out⟩
                  have n4_ : Aside0 (Below w.heap.size w ((((w115.setCell ⟨gb175, 0, none⟩ (.int .i64 ((rd_T68 l0_3 x11_4).f0))).setCell ⟨gb175, 1, none⟩ (.int .i64 ((rd_T68 l0_3 x11_4).f1))).setCell ⟨gb175, 2, none⟩ (.int .i64 ((rd_T68 l0_3 x11_4).f2))).setCell ⟨gb175, 3, none⟩ (.bool ((rd_T68 l0_3 x11_4).f3)))) := ⟨zS HB.out⟩
                  (try clear BK163)
                  (try clear BK164)
                  (try clear BK165)
                  (try clear BK175)
                  (try clear HB)
                  generalize ((((w115.setCell ⟨gb175, 0, none⟩ (.int .i64 ((rd_T68 l0_3 x11_4).f0))).setCell ⟨gb175, 1, none⟩ (.int .i64 ((rd_T68 l0_3 x11_4).f1))).setCell ⟨gb175, 2, none⟩ (.int .i64 ((rd_T68 l0_3 x11_4).f2))).setCell ⟨gb175, 3, none⟩ (.bool ((rd_T68 l0_3 x11_4).f3))) = w120 at n0_ n1_ n2_ n3_ n4_ ⊢; have BK163 := n0_; have BK164 := n1_; have BK165 := n2_; have BK175 := n3_; have HB := n4_; clear n0_ n1_ n2_ n3_ n4_; replace BK163 := Aside0.mk (blk_drew BK163.out); replace BK164 := Aside0.mk (blk_drew BK164.out); replace BK165 := Aside0.mk (blk_drew BK165.out); replace BK175 := Aside0.mk (blk_drew BK175.out); replace HB := Aside0.mk (below_drew1 HB.out); have p176 : 0 ≤ (x9_3 : Int) := oD; have q176 : x9_3 < (l2_0.length : Int) := oD; obtain ⟨ad176, e176, hx176_0⟩ := Kd.at_int HR2_0.out x9_3 p176 q176; have hw176_0 := hx176_0
                  cases e176
                  replace hx176_0 := cT HB hx176_0; replace p176 := eq_true p176; replace q176 := eq_true q176; refine start_ (n := 27) (S := fun w' => w'.cell? ⟨gb175, 0, none⟩ = some (.int .i64 ((rd_T68 l0_3 x11_4).f0)) ∧ w'.cell? ⟨gb175, 1, none⟩ = some (.int .i64 ((rd_T68 l0_3 x11_4).f1)) ∧ w'.cell? ⟨gb175, 2, none⟩ = some (.int .i64 ((rd_T68 l0_3 x11_4).f2)) ∧ w'.cell? ⟨gb175, 3, none⟩ = some (.bool ((rd_T68 l0_3 x11_4).f3)) ∧ w'.cell? ⟨gb165, 0, none⟩ = some (.slice (some ad176) l2_0.length c2_0) ∧ w'.cell? ⟨gb165, 1, none⟩ = some (.int .i64 a2_1) ∧ w'.cell? ⟨gb164, 0, none⟩ = some (.slice A1_0 l1_0.length c1_0) ∧ w'.cell? ⟨gb164, 1, none⟩ = some (.slice A1_1 l1_1.length c1_1) ∧ w'.cell? (ad176.add (x9_3).toNat) = some (.int .i64 (rd l2_0 x9_3))) (ds := []) bl81 (by kernel_rfl) rfl rfl ⟨b1 BK175 0, b1 BK175 1, b1 BK175 2, b1 BK175 3, b1 BK165 0, b1 BK165 1, b1 BK164 0, b1 BK164 1, ((HB.out.cell (World.block_lt_of_cell? w _ hw176_0)).trans hw176_0)⟩ (fun hHeld => ?_); refine with_tabW spec_RunOk.tab15 spec_RunOk.bits15 (fun HT_ HW_ => ?_); generalize w120.drew = w121 at BK163 BK164 BK165 BK175 HB hx176_0 hHeld ⊢
                  refine pu 0 (some 100) bl82 HT_ ?_ rfl rfl (.inl ⟨by rfl, ?_⟩) ?_ ?_ ?_; rotate_left; (intro w'; go_simp; with_reducible rfl); rotate_left; (simp only [Act.put, q5]; rfl)
                  refine pu 2 (some 102) bl83 HT_ ?_ rfl rfl (.inl ⟨by rfl, ?_⟩) ?_ ?_ ?_; rotate_left; (intro w'; go_simp; with_reducible rfl); rotate_left; (simp only [Act.put, q5]; rfl)
                  refine pu 4 (some 104) bl84 HT_ ?_ rfl rfl (.inl ⟨by rfl, ?_⟩) ?_ ?_ ?_; rotate_left; (intro w'; go_simp; with_reducible rfl); rotate_left; (simp only [Act.put, q5]; rfl)
                  refine take_ (i := 1) (N := some 101) (v := ?_) (a' := ?_) bl85 rfl rfl (take_ofW HT_.out HW_.out (by kernel_rfl)) (fun _ _ _ h => h) (Or.inl ⟨by rfl, ?_⟩) hHeld ?_ ?_; rotate_left
                  ·rintro w' ⟨s0, s1, s2, s3, s4, s5, s6, s7, s8⟩; go_simp; with_reducible rfl
                  rotate_left
                  ·simp only [Act.put, q5]; rfl
                  refine take_ (i := 3) (N := some 103) (v := ?_) (a' := ?_) bl86 rfl rfl (take_ofW HT_.out HW_.out (by kernel_rfl)) (fun _ _ _ h => h) (Or.inl ⟨by rfl, ?_⟩) hHeld ?_ ?_; rotate_left
                  ·rintro w' ⟨s0, s1, s2, s3, s4, s5, s6, s7, s8⟩; go_simp; with_reducible rfl
                  rotate_left
                  ·simp only [Act.put, q5]; rfl
                  refine pu 5 (some 105) bl87 HT_ ?_ rfl rfl (.inl ⟨by rfl, ?_⟩) ?_ ?_ ?_; rotate_left; (intro w'; go_simp; with_reducible rfl); rotate_left; (simp only [Act.put, q5]; rfl)
                  refine take_ (i := 6) (N := some 106) (v := ?_) (a' := ?_) bl88 rfl rfl (take_ofW HT_.out HW_.out (by kernel_rfl)) (fun _ _ _ h => h) (Or.inl ⟨by rfl, ?_⟩) hHeld ?_ ?_; rotate_left
                  ·rintro w' ⟨s0, s1, s2, s3, s4, s5, s6, s7, s8⟩; go_simp; with_reducible rfl
                  rotate_left
                  ·simp only [Act.put, q5]; rfl
                  refine pu 7 (some 107) bl89 HT_ ?_ rfl rfl (.inl ⟨by rfl, ?_⟩) ?_ ?_ ?_; rotate_left; (intro w'; go_simp; with_reducible rfl); rotate_left; (simp only [Act.put, q5]; rfl)
                  refine pu 8 (some 108) bl90 HT_ ?_ rfl rfl (.inl ⟨by rfl, ?_⟩) ?_ ?_ ?_; rotate_left; (intro w'; go_simp; with_reducible rfl); rotate_left; (simp only [Act.put, q5]; rfl)
                  refine pu 9 (some 109) bl91 HT_ ?_ rfl rfl (.inl ⟨by rfl, ?_⟩) ?_ ?_ ?_; rotate_left; (intro w'; go_simp; with_reducible rfl); rotate_left; (simp only [Act.put, q5]; rfl)
                  refine pu 12 (some 112) bl92 HT_ ?_ rfl rfl (.inl ⟨by rfl, ?_⟩) ?_ ?_ ?_; rotate_left; (intro w'; go_simp; with_reducible rfl); rotate_left; (simp only [Act.put, q5]; rfl)
                  refine take_ (i := 10) (N := some 110) (v := ?_) (a' := ?_) bl93 rfl rfl (take_ofW HT_.out HW_.out (by kernel_rfl)) (fun _ _ _ h => h) (Or.inl ⟨by rfl, ?_⟩) hHeld ?_ ?_; rotate_left
                  ·rintro w' ⟨s0, s1, s2, s3, s4, s5, s6, s7, s8⟩; go_simp; with_reducible rfl
                  rotate_left
                  ·simp only [Act.put, q5]; rfl
                  refine take_ (i := 11) (N := some 111) (v := ?_) (a' := ?_) bl94 rfl rfl (take_ofW HT_.out HW_.out (by kernel_rfl)) (fun _ _ _ h => h) (Or.inl ⟨by rfl, ?_⟩) hHeld ?_ ?_; rotate_left
                  ·rintro w' ⟨s0, s1, s2, s3, s4, s5, s6, s7, s8⟩; go_simp; with_reducible rfl
                  rotate_left
                  ·simp only [Act.put, q5]; rfl
                  refine one_ (i := 13) (N := some 113) bl95 rfl rfl (one_of HT_.out (by kernel_rfl)) (by decide) (fun K hK => ?_); refine goes_ Try.func97 (by kernel_rfl) rfl #[.agg #[.slice A1_0 l1_0.length c1_0, .slice A1_1 l1_1.length c1_1], .int .i64 x9_3] (by rfl) rfl rfl (by (try simp only [m3]); first | done | rfl | (simp only [d2]; rfl)) ?_
                  with_reducible refine (spec_l3At.calls _ _ l1_0 _ _ l1_1 x9_3 t177 _ ?side1 ?side2 ?side3 ?side4 A55.out).mono ?_
                  (case side1 => exact zC (Kd.C_below HR1_0.out HB.out))
                  (case side2 => exact HC1_0.out)
                  (case side3 => exact zC (Kd.C_below HR1_1.out HB.out))
                  (case side4 => exact HC1_1.out)
                  rintro e w122 ⟨rfl, hb⟩; refine ⟨_, rfl, ?_⟩; replace BK163 := xB BK163 hb; replace BK164 := xB BK164 hb; replace BK165 := xB BK165 hb; replace BK175 := xB BK175 hb; replace HB := xS HB hb
                  (try clear hb)
                  (try clear hb2)
                  (try clear hk)
                  (try clear hi)
                  refine hK.out _ _ ⟨b1 BK175 0, b1 BK175 1, b1 BK175 2, b1 BK175 3, b1 BK165 0, b1 BK165 1, b1 BK164 0, b1 BK164 1, ((HB.out.cell (World.block_lt_of_cell? w _ hw176_0)).trans hw176_0)⟩ (fun hHeld => ?_); clear hK K; refine norm_ (a' := ?_) ?_ ?_; rotate_left
                  ·show Act.put _ (some 113) _ = _; simp only [Act.put, q5]; rfl
                  refine pu 14 (some 114) bl96 HT_ ?_ rfl rfl (.inl ⟨by rfl, ?_⟩) ?_ ?_ ?_; rotate_left; (intro w'; go_simp; with_reducible rfl); rotate_left; (simp only [Act.put, q5]; rfl)
                  refine pu 15 (some 115) bl97 HT_ ?_ rfl rfl (.inl ⟨by rfl, ?_⟩) ?_ ?_ ?_; rotate_left; (intro w'; go_simp; with_reducible rfl); rotate_left; (simp only [Act.put, q5]; rfl)
                  refine pu 16 (some 116) bl98 HT_ ?_ rfl rfl (.inl ⟨by rfl, ?_⟩) ?_ ?_ ?_; rotate_left; (intro w'; go_simp; with_reducible rfl); rotate_left; (simp only [Act.put, q5]; rfl)
                  refine pu 17 (some 117) bl99 HT_ undef rfl rfl (.inr ⟨by rfl, rfl⟩) ?_ ?_ ?_; rotate_left; (simp only [Act.put, q5]; rfl)
                  refine pu 18 (some 118) bl109 HT_ undef rfl rfl (.inr ⟨by rfl, rfl⟩) ?_ ?_ ?_; rotate_left; (simp only [Act.put, q5]; rfl)
                  refine pu 19 (some 119) bl110 HT_ undef rfl rfl (.inr ⟨by rfl, rfl⟩) ?_ ?_ ?_; rotate_left; (simp only [Act.put, q5]; rfl)
                  refine pu 20 (some 120) bl111 HT_ undef rfl rfl (.inr ⟨by rfl, rfl⟩) ?_ ?_ ?_; rotate_left; (simp only [Act.put, q5]; rfl)
                  refine pu 21 (some 121) bl112 HT_ undef rfl rfl (.inr ⟨by rfl, rfl⟩) ?_ ?_ ?_; rotate_left; (simp only [Act.put, q5]; rfl)
                  refine pu 22 (some 122) bl104 HT_ undef rfl rfl (.inr ⟨by rfl, rfl⟩) ?_ ?_ ?_; rotate_left; (simp only [Act.put, q5]; rfl)
                  refine pu 23 (some 123) bl105 HT_ undef rfl rfl (.inr ⟨by rfl, rfl⟩) ?_ ?_ ?_; rotate_left; (simp only [Act.put, q5]; rfl)
                  refine pu 24 (some 124) bl106 HT_ undef rfl rfl (.inr ⟨by rfl, rfl⟩) ?_ ?_ ?_; rotate_left; (simp only [Act.put, q5]; rfl)
                  refine pu 25 (some 125) bl107 HT_ undef rfl rfl (.inr ⟨by rfl, rfl⟩) ?_ ?_ ?_; rotate_left; (simp only [Act.put, q5]; rfl)
                  refine pu 26 (some 126) bl108 HT_ ?_ rfl rfl (.inl ⟨by rfl, ?_⟩) ?_ ?_ ?_; rotate_left; (intro w'; go_simp; with_reducible rfl); rotate_left; (simp only [Act.put, q5]; rfl)
                  refine done_ (done_of HT_.out (by kernel_rfl)) ?_
                  try go_wp2
                  go_roundg k4
                  case measure => have := HJ3.out; have := HJ35.out; have := HK3.out; have := HK4.out; omega
                  case rel => exact ⟨(x8_4), (x10_4), (wrap64 (x11_4 + 1)), (by first | rfl | (simp; done) | (simp [*]; done) | (rw [Int.tmod_eq_emod_of_nonneg (Int.natCast_nonneg _)]; done)), (by first | rfl | (simp; done) | (simp [*]; done) | (rw [Int.tmod_eq_emod_of_nonneg (Int.natCast_nonneg _)]; done)), (by first | rfl | (simp; done) | (simp [*]; done) | (rw [Int.tmod_eq_emod_of_nonneg (Int.natCast_nonneg _)]; done)), H', ⟨by have := HJ3.out; have := HJ35.out; have := HK3.out; have := HK4.out; omega⟩, ⟨zB BK163.out⟩, ⟨zB BK164.out⟩, ⟨zB BK165.out⟩, ⟨zS HB.out⟩⟩
                ·rw [if_neg c54] at H; have c54b0 : (((rd_T68 l0_3 x11_4).f0) == (rd l2_0 x9_3)) = false := beq_eq_false_iff_ne.mpr c54; have c54b1 : (((rd_T68 l0_3 x11_4).f0) != (rd l2_0 x9_3)) = true := bne_iff_ne.mpr c54; have H' := Aside0.mk H; clear H; have hnb123 := NB163_164.out; have hnc123 := NB164_163.out; have hnb124 := NB163_165.out; have hnc124 := NB165_163.out; have hcz125_0 : wr.cell? ⟨gb163, 0, none⟩ = some (.int .i64 a0_0) := b1 BK163 0; have hcz125_1 : wr.cell? ⟨gb163, 1, none⟩ = some (.int .i64 a0_1) := b1 BK163 1; have hcz125_2 : wr.cell? ⟨gb163, 2, none⟩ = some (.int .i64 a0_2) := b1 BK163 2; have hcz125_3 : wr.cell? ⟨gb163, 3, none⟩ = some (.slice A0_3 l0_3.length c0_3) := b1 BK163 3; have hfz125_0 := blk_frozen BK163.out 0; have hfz125_1 := blk_frozen BK163.out 1; have hfz125_2 := blk_frozen BK163.out 2; have hfz125_3 := blk_frozen BK163.out 3; have p174 : 0 ≤ (x11_4 : Int) := oD; have q174 : x11_4 < (l0_3.length : Int) := oD; obtain ⟨ad174, e174, hx174_0, hx174_1, hx174_2, hx174_3⟩ := at_T68 HR0_3.out x11_4 p174 q174
                 cases e174
                 replace hx174_0 := cT HB hx174_0; replace hx174_1 := cT HB hx174_1; replace hx174_2 := cT HB hx174_2; replace hx174_3 := cT HB hx174_3; replace p174 := eq_true p174; replace q174 := eq_true q174
                 try go_wp2_with (first | ((with_reducible refine gate_dst (N := 12) rfl ?_); (try (refine gate_guard (by rfl) ?_; dsimp only)); refine box_event ?hg (N := 12) ?hd (cs := #[.int .i64 0, .int .i64 0, .int .i64 0, .bool false]) (t := 68) ?hr ?_; (case hd => rfl); (case hg => rfl); (case hr => first | (go_simp; done) | (go_simp; rfl)); intro gb175 hg w126 hbox hb; have BK175 := Aside0.mk (hbox); have GW175 := xG HB hg; have GE175 := xG HB hg; replace HB := xS HB hb; have NB163_175 := xN BK163 hg; have NB175_163 := xM BK163 hg; replace BK163 := xB BK163 hb; have NB164_175 := xN BK164 hg; have NB175_164 := xM BK164 hg; replace BK164 := xB BK164 hb; have NB165_175 := xN BK165 hg; have NB175_165 := xM BK165 hg; replace BK165 := xB BK165 hb; clear hb hbox hg; have hnb127 := NB175_163.out; have hnc127 := NB163_175.out; have hnb128 := NB175_164.out; have hnc128 := NB164_175.out; have hnb129 := NB175_165.out; have hnc129 := NB165_175.out; have hcz130_0 : w126.cell? ⟨gb175, 0, none⟩ = some (.int .i64 0) := b1 BK175 0; have hcz130_1 : w126.cell? ⟨gb175, 1, none⟩ = some (.int .i64 0) := b1 BK175 1; have hcz130_2 : w126.cell? ⟨gb175, 2, none⟩ = some (.int .i64 0) := b1 BK175 2; have hcz130_3 : w126.cell? ⟨gb175, 3, none⟩ = some (.bool false) := b1 BK175 3; have hfz130_0 := blk_frozen BK175.out 0; have hfz130_1 := blk_frozen BK175.out 1; have hfz130_2 := blk_frozen BK175.out 2; have hfz130_3 := blk_frozen BK175.out 3))
                 have n0_ : Aside0 (((((w126.setCell ⟨gb175, 0, none⟩ (.int .i64 ((rd_T68 l0_3 x11_4).f0))).setCell ⟨gb175, 1, none⟩ (.int .i64 ((rd_T68 l0_3 x11_4).f1))).setCell ⟨gb175, 2, none⟩ (.int .i64 ((rd_T68 l0_3 x11_4).f2))).setCell ⟨gb175, 3, none⟩ (.bool ((rd_T68 l0_3 x11_4).f3))).heap[gb163]? = some (.cells #[.int .i64 a0_0, .int .i64 a0_1, .int .i64 a0_2, .slice (some ad174) l0_3.length c0_3] 24 (0, 0))) := ⟨zB BK163.out⟩; have n1_ : Aside0 (((((w126.setCell ⟨gb175, 0, none⟩ (.int .i64 ((rd_T68 l0_3 x11_4).f0))).setCell ⟨gb175, 1, none⟩ (.int .i64 ((rd_T68 l0_3 x11_4).f1))).setCell ⟨gb175, 2, none⟩ (.int .i64 ((rd_T68 l0_3 x11_4).f2))).setCell ⟨gb175, 3, none⟩ (.bool ((rd_T68 l0_3 x11_4).f3))).heap[gb164]? = some (.cells #[.slice A1_0 l1_0.length c1_0, .slice A1_1 l1_1.length c1_1] 78 (0, 0))) := ⟨zB BK164.out⟩; have n2_ : Aside0 (((((w126.setCell ⟨gb175, 0, none⟩ (.int .i64 ((rd_T68 l0_3 x11_4).f0))).setCell ⟨gb175, 1, none⟩ (.int .i64 ((rd_T68 l0_3 x11_4).f1))).setCell ⟨gb175, 2, none⟩ (.int .i64 ((rd_T68 l0_3 x11_4).f2))).setCell ⟨gb175, 3, none⟩ (.bool ((rd_T68 l0_3 x11_4).f3))).heap[gb165]? = some (.cells #[.slice A2_0 l2_0.length c2_0, .int .i64 a2_1] 80 (0, 0))) := ⟨zB BK165.out⟩; have n3_ : Aside0 (((((w126.setCell ⟨gb175, 0, none⟩ (.int .i64 ((rd_T68 l0_3 x11_4).f0))).setCell ⟨gb175, 1, none⟩ (.int .i64 ((rd_T68 l0_3 x11_4).f1))).setCell ⟨gb175, 2, none⟩ (.int .i64 ((rd_T68 l0_3 x11_4).f2))).setCell ⟨gb175, 3, none⟩ (.bool ((rd_T68 l0_3 x11_4).f3))).heap[gb175]? = some (.cells #[.int .i64 ((rd_T68 l0_3 x11_4).f0), .int .i64 ((rd_T68 l0_3 x11_4).f1), .int .i64 ((rd_T68 l0_3 x11_4).f2), .bool ((rd_T68 l0_3 x11_4).f3)] 68 (0, 0))) := ⟨by (with_reducible repeat (first | refine blk_drewN ?_ _ | refine blk_drew ?_ | refine blk_alloc ?_ _)); refine blk_put (cs := #[.int .i64 ((rd_T68 l0_3 x11_4).f0), .int .i64 ((rd_T68 l0_3 x11_4).f1), .int .i64 ((rd_T68 l0_3 x11_4).f2), .bool false]) ?_ 3 _ rfl; (with_reducible repeat (first | refine blk_drewN ?_ _ | refine blk_drew ?_ | refine blk_alloc ?_ _)); refine blk_put (cs := #[.int .i64 ((rd_T68 l0_3 x11_4).f0), .int .i64 ((rd_T68 l0_3 x11_4).f1), .int .i64 0, .bool false]) ?_ 2 _ rfl; (with_reducible repeat (first | refine blk_drewN ?_ _ | refine blk_drew ?_ | refine blk_alloc ?_ _)); refine blk_put (cs := #[.int .i64 ((rd_T68 l0_3 x11_4).f0), .int .i64 0, .int .i64 0, .bool false]) ?_ 1 _ rfl; (with_reducible repeat (first | refine blk_drewN ?_ _ | refine blk_drew ?_ | refine blk_alloc ?_ _)); refine blk_put (cs := #[.int .i64 0, .int .i64 0, .int .i64 0, .bool false]) ?_ 0 _ rfl; (with_reducible repeat (first | refine blk_drewN ?_ _ | refine blk_drew ?_ | refine blk_alloc ?_ _)); exact BK175.out⟩
                 have n4_ : Aside0 (Below w.heap.size w ((((w126.setCell ⟨gb175, 0, none⟩ (.int .i64 ((rd_T68 l0_3 x11_4).f0))).setCell ⟨gb175, 1, none⟩ (.int .i64 ((rd_T68 l0_3 x11_4).f1))).setCell ⟨gb175, 2, none⟩ (.int .i64 ((rd_T68 l0_3 x11_4).f2))).setCell ⟨gb175, 3, none⟩ (.bool ((rd_T68 l0_3 x11_4).f3)))) := ⟨zS HB.out⟩
                 (try clear BK163)
                 (try clear BK164)
                 (try clear BK165)
                 (try clear BK175)
                 (try clear HB)
                 generalize ((((w126.setCell ⟨gb175, 0, none⟩ (.int .i64 ((rd_T68 l0_3 x11_4).f0))).setCell ⟨gb175, 1, none⟩ (.int .i64 ((rd_T68 l0_3 x11_4).f1))).setCell ⟨gb175, 2, none⟩ (.int .i64 ((rd_T68 l0_3 x11_4).f2))).setCell ⟨gb175, 3, none⟩ (.bool ((rd_T68 l0_3 x11_4).f3))) = w131 at n0_ n1_ n2_ n3_ n4_ ⊢; have BK163 := n0_; have BK164 := n1_; have BK165 := n2_; have BK175 := n3_; have HB := n4_; clear n0_ n1_ n2_ n3_ n4_; replace BK163 := Aside0.mk (blk_drew BK163.out); replace BK164 := Aside0.mk (blk_drew BK164.out); replace BK165 := Aside0.mk (blk_drew BK165.out); replace BK175 := Aside0.mk (blk_drew BK175.out); replace HB := Aside0.mk (below_drew1 HB.out); have p176 : 0 ≤ (x9_3 : Int) := oD; have q176 : x9_3 < (l2_0.length : Int) := oD; obtain ⟨ad176, e176, hx176_0⟩ := Kd.at_int HR2_0.out x9_3 p176 q176; have hw176_0 := hx176_0
                 cases e176
                 replace hx176_0 := cT HB hx176_0; replace p176 := eq_true p176; replace q176 := eq_true q176; refine start_ (n := 27) (S := fun w' => w'.cell? ⟨gb175, 0, none⟩ = some (.int .i64 ((rd_T68 l0_3 x11_4).f0)) ∧ w'.cell? ⟨gb175, 1, none⟩ = some (.int .i64 ((rd_T68 l0_3 x11_4).f1)) ∧ w'.cell? ⟨gb175, 2, none⟩ = some (.int .i64 ((rd_T68 l0_3 x11_4).f2)) ∧ w'.cell? ⟨gb175, 3, none⟩ = some (.bool ((rd_T68 l0_3 x11_4).f3)) ∧ w'.cell? ⟨gb165, 0, none⟩ = some (.slice (some ad176) l2_0.length c2_0) ∧ w'.cell? ⟨gb165, 1, none⟩ = some (.int .i64 a2_1) ∧ w'.cell? (ad176.add (x9_3).toNat) = some (.int .i64 (rd l2_0 x9_3))) (ds := []) bl81 (by kernel_rfl) rfl rfl ⟨b1 BK175 0, b1 BK175 1, b1 BK175 2, b1 BK175 3, b1 BK165 0, b1 BK165 1, ((HB.out.cell (World.block_lt_of_cell? w _ hw176_0)).trans hw176_0)⟩ (fun hHeld => ?_); refine with_tabW spec_RunOk.tab15 spec_RunOk.bits15 (fun HT_ HW_ => ?_); generalize w131.drew = w132 at BK163 BK164 BK165 BK175 HB hx176_0 hHeld ⊢
                 refine pu 0 (some 100) bl82 HT_ ?_ rfl rfl (.inl ⟨by rfl, ?_⟩) ?_ ?_ ?_; rotate_left; (intro w'; go_simp; with_reducible rfl); rotate_left; (simp only [Act.put, q5]; rfl)
                 refine pu 2 (some 102) bl83 HT_ ?_ rfl rfl (.inl ⟨by rfl, ?_⟩) ?_ ?_ ?_; rotate_left; (intro w'; go_simp; with_reducible rfl); rotate_left; (simp only [Act.put, q5]; rfl)
                 refine pu 4 (some 104) bl84 HT_ ?_ rfl rfl (.inl ⟨by rfl, ?_⟩) ?_ ?_ ?_; rotate_left; (intro w'; go_simp; with_reducible rfl); rotate_left; (simp only [Act.put, q5]; rfl)
                 refine take_ (i := 1) (N := some 101) (v := ?_) (a' := ?_) bl85 rfl rfl (take_ofW HT_.out HW_.out (by kernel_rfl)) (fun _ _ _ h => h) (Or.inl ⟨by rfl, ?_⟩) hHeld ?_ ?_; rotate_left
                 ·rintro w' ⟨s0, s1, s2, s3, s4, s5, s6⟩; go_simp; with_reducible rfl
                 rotate_left
                 ·simp only [Act.put, q5]; rfl
                 refine take_ (i := 3) (N := some 103) (v := ?_) (a' := ?_) bl86 rfl rfl (take_ofW HT_.out HW_.out (by kernel_rfl)) (fun _ _ _ h => h) (Or.inl ⟨by rfl, ?_⟩) hHeld ?_ ?_; rotate_left
                 ·rintro w' ⟨s0, s1, s2, s3, s4, s5, s6⟩; go_simp; with_reducible rfl
                 rotate_left
                 ·simp only [Act.put, q5]; rfl
                 refine pu 5 (some 105) bl87 HT_ ?_ rfl rfl (.inl ⟨by rfl, ?_⟩) ?_ ?_ ?_; rotate_left; (intro w'; go_simp; with_reducible rfl); rotate_left; (simp only [Act.put, q5]; rfl)
                 refine take_ (i := 6) (N := some 106) (v := ?_) (a' := ?_) bl88 rfl rfl (take_ofW HT_.out HW_.out (by kernel_rfl)) (fun _ _ _ h => h) (Or.inl ⟨by rfl, ?_⟩) hHeld ?_ ?_; rotate_left
                 ·rintro w' ⟨s0, s1, s2, s3, s4, s5, s6⟩; go_simp; with_reducible rfl
                 rotate_left
                 ·simp only [Act.put, q5]; rfl
                 refine pu 7 (some 107) bl89 HT_ ?_ rfl rfl (.inl ⟨by rfl, ?_⟩) ?_ ?_ ?_; rotate_left; (intro w'; go_simp; with_reducible rfl); rotate_left; (simp only [Act.put, q5]; rfl)
                 refine pu 8 (some 108) bl90 HT_ ?_ rfl rfl (.inl ⟨by rfl, ?_⟩) ?_ ?_ ?_; rotate_left; (intro w'; go_simp; with_reducible rfl); rotate_left; (simp only [Act.put, q5]; rfl)
                 refine pu 9 (some 109) bl91 HT_ undef rfl rfl (.inr ⟨by rfl, rfl⟩) ?_ ?_ ?_; rotate_left; (simp only [Act.put, q5]; rfl)
                 refine pu 10 (some 110) bl113 HT_ undef rfl rfl (.inr ⟨by rfl, rfl⟩) ?_ ?_ ?_; rotate_left; (simp only [Act.put, q5]; rfl)
                 refine pu 11 (some 111) bl114 HT_ undef rfl rfl (.inr ⟨by rfl, rfl⟩) ?_ ?_ ?_; rotate_left; (simp only [Act.put, q5]; rfl)
                 refine pu 12 (some 112) bl94 HT_ undef rfl rfl (.inr ⟨by rfl, rfl⟩) ?_ ?_ ?_; rotate_left; (simp only [Act.put, q5]; rfl)
                 refine pu 13 (some 113) bl95 HT_ undef rfl rfl (.inr ⟨by rfl, rfl⟩) ?_ ?_ ?_; rotate_left; (simp only [Act.put, q5]; rfl)
                 refine pu 14 (some 114) bl96 HT_ undef rfl rfl (.inr ⟨by rfl, rfl⟩) ?_ ?_ ?_; rotate_left; (simp only [Act.put, q5]; rfl)
                 refine pu 15 (some 115) bl97 HT_ ?_ rfl rfl (.inl ⟨by rfl, ?_⟩) ?_ ?_ ?_; rotate_left; (intro w'; go_simp; with_reducible rfl); rotate_left; (simp only [Act.put, q5]; rfl)
                 refine pu 16 (some 116) bl98 HT_ ?_ rfl rfl (.inl ⟨by rfl, ?_⟩) ?_ ?_ ?_; rotate_left; (intro w'; go_simp; with_reducible rfl); rotate_left; (simp only [Act.put, q5]; rfl)
                 refine pu 17 (some 117) bl99 HT_ undef rfl rfl (.inr ⟨by rfl, rfl⟩) ?_ ?_ ?_; rotate_left; (simp only [Act.put, q5]; rfl)
                 refine pu 18 (some 118) bl109 HT_ undef rfl rfl (.inr ⟨by rfl, rfl⟩) ?_ ?_ ?_; rotate_left; (simp only [Act.put, q5]; rfl)
                 refine pu 19 (some 119) bl110 HT_ undef rfl rfl (.inr ⟨by rfl, rfl⟩) ?_ ?_ ?_; rotate_left; (simp only [Act.put, q5]; rfl)
                 refine pu 20 (some 120) bl111 HT_ undef rfl rfl (.inr ⟨by rfl, rfl⟩) ?_ ?_ ?_; rotate_left; (simp only [Act.put, q5]; rfl)
                 refine pu 21 (some 121) bl112 HT_ undef rfl rfl (.inr ⟨by rfl, rfl⟩) ?_ ?_ ?_; rotate_left; (simp only [Act.put, q5]; rfl)
                 refine pu 22 (some 122) bl104 HT_ undef rfl rfl (.inr ⟨by rfl, rfl⟩) ?_ ?_ ?_; rotate_left; (simp only [Act.put, q5]; rfl)
                 refine pu 23 (some 123) bl105 HT_ undef rfl rfl (.inr ⟨by rfl, rfl⟩) ?_ ?_ ?_; rotate_left; (simp only [Act.put, q5]; rfl)
                 refine pu 24 (some 124) bl106 HT_ undef rfl rfl (.inr ⟨by rfl, rfl⟩) ?_ ?_ ?_; rotate_left; (simp only [Act.put, q5]; rfl)
                 refine pu 25 (some 125) bl107 HT_ undef rfl rfl (.inr ⟨by rfl, rfl⟩) ?_ ?_ ?_; rotate_left; (simp only [Act.put, q5]; rfl)
                 refine pu 26 (some 126) bl108 HT_ ?_ rfl rfl (.inl ⟨by rfl, ?_⟩) ?_ ?_ ?_; rotate_left; (intro w'; go_simp; with_reducible rfl); rotate_left; (simp only [Act.put, q5]; rfl)
                 refine done_ (done_of HT_.out (by kernel_rfl)) ?_
                 try go_wp2
                 go_roundg k4
                 case measure => have := HJ3.out; have := HJ35.out; have := HK3.out; have := HK4.out; omega
                 case rel => exact ⟨(x8_4), (x10_4), (wrap64 (x11_4 + 1)), (by first | rfl | (simp; done) | (simp [*]; done) | (rw [Int.tmod_eq_emod_of_nonneg (Int.natCast_nonneg _)]; done)), (by first | rfl | (simp; done) | (simp [*]; done) | (rw [Int.tmod_eq_emod_of_nonneg (Int.natCast_nonneg _)]; done)), (by first | rfl | (simp; done) | (simp [*]; done) | (rw [Int.tmod_eq_emod_of_nonneg (Int.natCast_nonneg _)]; done)), H', ⟨by have := HJ3.out; have := HJ35.out; have := HK3.out; have := HK4.out; omega⟩, ⟨zB BK163.out⟩, ⟨zB BK164.out⟩, ⟨zB BK165.out⟩, ⟨zS HB.out⟩⟩
               ·rw [if_neg c53] at H; exact absurd H (by simp)
              ·rw [if_neg c52] at H; exact absurd H (by simp)
             ·rw [if_neg c51] at H; exact absurd H (by simp)
            ·rw [if_neg c50] at H; have c50b0 : decide (x11_4 < (l0_3.length : Int)) = false := decide_eq_false c50; clear c50
             by_cases c133 : x10_4 = true
             ·subst c133
              have H1 : (spec_RunOk.l0 k4 (wrap64 ((l2_0.length : Int) - 1)) x8_4 (wrap64 (x9_3 + 1)) a0_0 a0_1 a0_2 l0_3 l1_0 l1_1 l2_0 a2_1) = some r := by rw [if_pos rfl] at H; exact H
              clear H; have H := H1; clear H1; have H' := Aside0.mk H; clear H; have hnb134 := NB163_164.out; have hnc134 := NB164_163.out; have hnb135 := NB163_165.out; have hnc135 := NB165_163.out; have hcz136_0 : wr.cell? ⟨gb163, 0, none⟩ = some (.int .i64 a0_0) := b1 BK163 0; have hcz136_1 : wr.cell? ⟨gb163, 1, none⟩ = some (.int .i64 a0_1) := b1 BK163 1; have hcz136_2 : wr.cell? ⟨gb163, 2, none⟩ = some (.int .i64 a0_2) := b1 BK163 2; have hcz136_3 : wr.cell? ⟨gb163, 3, none⟩ = some (.slice A0_3 l0_3.length c0_3) := b1 BK163 3; have hfz136_0 := blk_frozen BK163.out 0; have hfz136_1 := blk_frozen BK163.out 1; have hfz136_2 := blk_frozen BK163.out 2; have hfz136_3 := blk_frozen BK163.out 3
              go_wp2
              go_roundg k4
              case measure => have := HJ3.out; have := HJ35.out; have := HK3.out; have := HK4.out; omega
              case rel => exact ⟨(x8_4), (wrap64 (x9_3 + 1)), (by first | rfl | (simp; done) | (simp [*]; done) | (rw [Int.tmod_eq_emod_of_nonneg (Int.natCast_nonneg _)]; done)), (by first | rfl | (simp; done) | (simp [*]; done) | (rw [Int.tmod_eq_emod_of_nonneg (Int.natCast_nonneg _)]; done)), H', ⟨by have := HJ3.out; have := HJ35.out; have := HK3.out; have := HK4.out; omega⟩, ⟨zB BK163.out⟩, ⟨zB BK164.out⟩, ⟨zB BK165.out⟩, ⟨zS HB.out⟩⟩
             ·replace c133 := Bool.eq_false_iff.mpr c133; subst c133
              have H1 : (some false) = some r := by rw [if_neg (show ¬ (false = true) by decide)] at H; exact H
              clear H; have H := H1; clear H1; obtain rfl := Option.some.inj H; have hnb137 := NB163_164.out; have hnc137 := NB164_163.out; have hnb138 := NB163_165.out; have hnc138 := NB165_163.out; have hcz139_0 : wr.cell? ⟨gb163, 0, none⟩ = some (.int .i64 a0_0) := b1 BK163 0; have hcz139_1 : wr.cell? ⟨gb163, 1, none⟩ = some (.int .i64 a0_1) := b1 BK163 1; have hcz139_2 : wr.cell? ⟨gb163, 2, none⟩ = some (.int .i64 a0_2) := b1 BK163 2; have hcz139_3 : wr.cell? ⟨gb163, 3, none⟩ = some (.slice A0_3 l0_3.length c0_3) := b1 BK163 3; have hfz139_0 := blk_frozen BK163.out 0; have hfz139_1 := blk_frozen BK163.out 1; have hfz139_2 := blk_frozen BK163.out 2; have hfz139_3 := blk_frozen BK163.out 3
              go_wp2
              go_ret; exact ⟨by first | rfl | (simp [errW_none, errW_some] <;> rfl) | (simp [*, errW_none, errW_some] <;> rfl), by repeat (first | (with_reducible first | exact HB.out | apply below_alloc | apply pw_below_drewN | apply below_drew1 | refine below_set ?_ GE163.out | refine below_set ?_ GE164.out | refine below_set ?_ GE165.out) | exact HB.out)⟩
         ·rw [if_neg c49] at H; have c49b0 : decide (x9_3 < (wrap64 ((l2_0.length : Int) - 1))) = false := decide_eq_false c49; clear c49; obtain rfl := Option.some.inj H
          go_wp2
          go_ret; exact ⟨by first | rfl | (simp [errW_none, errW_some] <;> rfl) | (simp [*, errW_none, errW_some] <;> rfl), by repeat (first | (with_reducible first | exact HB.out | apply below_alloc | apply pw_below_drewN | apply below_drew1 | refine below_set ?_ GE163.out | refine below_set ?_ GE164.out | refine below_set ?_ GE165.out) | exact HB.out)⟩

end Go.Proofs.Ytlallflpicgcmaa.MFnExactRunOk
