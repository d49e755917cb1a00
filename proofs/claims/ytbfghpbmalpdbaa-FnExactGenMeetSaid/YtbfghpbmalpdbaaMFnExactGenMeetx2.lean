import Derived.Test.YtbfghpbmalpdbaaMFnExactGenMeetx0
import Derived.Test.YtbfghpbmalpdbaaMFnExactGenMeetx1
namespace Go.Proofs.Ytbfghpbmalpdbaa.MFnExactGenMeet
open Go.RowKit Go.Proofs.YtbfghpbmalpdbaaW.PrintWords Go.Proofs.YtbfghpbmalpdbaaW.PrintLast Go.Proofs.YtbfghpbmalpdbaaW.PrintMore Go.Proofs.Ytbfghpbmalpdbaa.Short6
attribute [local go_sem] max2_int min2_int max_two min_two max_three min_three max_four min_four
set_option linter.unusedVariables false
set_option linter.unusedSimpArgs false
section
open Go.Proofs.Ytbfghpbmalpdbaa.Short2.T
abbrev spec_GenOk.bl0:Array Bool:=#[f,f,f,f,f,f,f,f,f,f,f,f,f,f,f,f,f,f,f,f,f,f,f,f,f,f,f,f,f,f,f,f]
abbrev spec_GenOk.bl1:Array Bool:=#[t,f,f,f,f,f,f,f,f,f,f,f,f,f,f,f,f,f,f,f,f,f,f,f,f,f,f,f,f,f,f,f]
abbrev spec_GenOk.bl2:Array Bool:=#[t,t,f,f,f,f,f,f,f,f,f,f,f,f,f,f,f,f,f,f,f,f,f,f,f,f,f,f,f,f,f,f]
abbrev spec_GenOk.bl3:Array Bool:=#[t,t,t,f,f,f,f,f,f,f,f,f,f,f,f,f,f,f,f,f,f,f,f,f,f,f,f,f,f,f,f,f]
abbrev spec_GenOk.bl4:Array Bool:=#[t,t,t,t,f,f,f,f,f,f,f,f,f,f,f,f,f,f,f,f,f,f,f,f,f,f,f,f,f,f,f,f]
abbrev spec_GenOk.bl5:Array Bool:=#[t,t,t,t,t,f,f,f,f,f,f,f,f,f,f,f,f,f,f,f,f,f,f,f,f,f,f,f,f,f,f,f]
abbrev spec_GenOk.bl6:Array Bool:=#[t,t,t,t,t,t,f,f,f,f,f,f,f,f,f,f,f,f,f,f,f,f,f,f,f,f,f,f,f,f,f,f]
abbrev spec_GenOk.bl7:Array Bool:=#[t,t,t,t,t,t,t,f,f,f,f,f,f,f,f,f,f,f,f,f,f,f,f,f,f,f,f,f,f,f,f,f]
abbrev spec_GenOk.bl8:Array Bool:=#[t,t,t,t,t,t,t,t,f,f,f,f,f,f,f,f,f,f,f,f,f,f,f,f,f,f,f,f,f,f,f,f]
abbrev spec_GenOk.bl9:Array Bool:=#[t,t,t,t,t,t,t,t,t,f,f,f,f,f,f,f,f,f,f,f,f,f,f,f,f,f,f,f,f,f,f,f]
abbrev spec_GenOk.bl10:Array Bool:=#[t,t,t,t,t,t,t,t,t,t,f,f,f,f,f,f,f,f,f,f,f,f,f,f,f,f,f,f,f,f,f,f]
abbrev spec_GenOk.bl11:Array Bool:=#[t,t,t,t,t,t,t,t,t,t,t,f,f,f,f,f,f,f,f,f,f,f,f,f,f,f,f,f,f,f,f,f]
abbrev spec_GenOk.bl12:Array Bool:=#[t,t,t,t,t,t,t,t,t,t,t,t,f,f,f,f,f,f,f,f,f,f,f,f,f,f,f,f,f,f,f,f]
abbrev spec_GenOk.bl13:Array Bool:=#[t,t,t,t,t,t,t,t,t,t,t,t,f,t,f,f,f,f,f,f,f,f,f,f,f,f,f,f,f,f,f,f]
abbrev spec_GenOk.bl14:Array Bool:=#[t,t,t,t,t,t,t,t,t,t,t,t,t,t,f,f,f,f,f,f,f,f,f,f,f,f,f,f,f,f,f,f]
abbrev spec_GenOk.bl15:Array Bool:=#[t,t,t,t,t,t,t,t,t,t,t,t,t,t,t,f,f,f,f,f,f,f,f,f,f,f,f,f,f,f,f,f]
abbrev spec_GenOk.bl16:Array Bool:=#[t,t,t,t,t,t,t,t,t,t,t,t,t,t,t,t,f,f,f,f,f,f,f,f,f,f,f,f,f,f,f,f]
abbrev spec_GenOk.bl17:Array Bool:=#[t,t,t,t,t,t,t,t,t,t,t,t,t,t,t,t,t,f,f,f,f,f,f,f,f,f,f,f,f,f,f,f]
abbrev spec_GenOk.bl18:Array Bool:=#[t,t,t,t,t,t,t,t,t,t,t,t,t,t,t,t,t,t,f,f,f,f,f,f,f,f,f,f,f,f,f,f]
abbrev spec_GenOk.bl19:Array Bool:=#[t,t,t,t,t,t,t,t,t,t,t,t,t,t,t,t,t,t,t,f,f,f,f,f,f,f,f,f,f,f,f,f]
abbrev spec_GenOk.bl20:Array Bool:=#[t,t,t,t,t,t,t,t,t,t,t,t,t,t,t,t,t,t,t,t,f,f,f,f,f,f,f,f,f,f,f,f]
abbrev spec_GenOk.bl21:Array Bool:=#[t,t,t,t,t,t,t,t,t,t,t,t,t,t,t,t,t,t,t,t,t,f,f,f,f,f,f,f,f,f,f,f]
abbrev spec_GenOk.bl22:Array Bool:=#[t,t,t,t,t,t,t,t,t,t,t,t,t,t,t,t,t,t,t,t,t,t,f,f,f,f,f,f,f,f,f,f]
abbrev spec_GenOk.bl23:Array Bool:=#[t,t,t,t,t,t,t,t,t,t,t,t,t,t,t,t,t,t,t,t,t,t,t,f,f,f,f,f,f,f,f,f]
abbrev spec_GenOk.bl24:Array Bool:=#[t,t,t,t,t,t,t,t,t,t,t,t,t,t,t,t,t,t,t,t,t,t,t,t,f,f,f,f,f,f,f,f]
abbrev spec_GenOk.bl25:Array Bool:=#[t,t,t,t,t,t,t,t,t,t,t,t,t,t,t,t,t,t,t,t,t,t,t,t,t,f,f,f,f,f,f,f]
abbrev spec_GenOk.bl26:Array Bool:=#[t,t,t,t,t,t,t,t,t,t,t,t,t,t,t,t,t,t,t,t,t,t,t,t,t,t,f,f,f,f,f,f]
abbrev spec_GenOk.bl27:Array Bool:=#[t,t,t,t,t,t,t,t,t,t,t,t,t,t,t,t,t,t,t,t,t,t,t,t,t,t,t,f,f,f,f,f]
abbrev spec_GenOk.bl28:Array Bool:=#[t,t,t,t,t,t,t,t,t,t,t,t,t,t,t,t,t,t,t,t,t,t,t,t,t,t,t,t,f,f,f,f]
abbrev spec_GenOk.bl29:Array Bool:=#[t,t,t,t,t,t,t,t,t,t,t,t,t,t,t,t,t,t,t,t,t,t,t,t,t,t,t,t,t,f,f,f]
abbrev spec_GenOk.bl30:Array Bool:=#[t,t,t,t,t,t,t,t,t,t,t,t,t,t,t,t,t,t,t,t,t,t,t,t,t,t,t,t,t,t,f,f]
abbrev spec_GenOk.bl31:Array Bool:=#[t,t,t,t,t,t,t,t,t,t,t,t,t,t,t,t,t,t,t,t,t,t,t,t,t,t,t,t,t,t,t,f]
abbrev spec_GenOk.bl32:Array Bool:=#[t,t,t,t,t,t,t,t,t,t,t,t,t,t,t,t,t,t,t,t,t,t,t,t,t,t,t,t,t,t,t,t]
abbrev spec_GenOk.bl33:Array Bool:=#[t,t,t,t,t,t,t,t,t,t,t,t,t,f,f,f,f,f,f,f,f,f,f,f,f,f,f,f,f,f,f,f]
abbrev spec_GenOk.bl34:Array Bool:=#[f,f,f,f,f,f,f,f,f,f,f,f,f,f,f,f,f,f,f,f,f,f,f,f,f,f,f,f,f,f,f,f,f,f,f,f,f,f,f,f,f,f,f,f,f,f,f,f]
abbrev spec_GenOk.bl35:Array Bool:=#[t,f,f,f,f,f,f,f,f,f,f,f,f,f,f,f,f,f,f,f,f,f,f,f,f,f,f,f,f,f,f,f,f,f,f,f,f,f,f,f,f,f,f,f,f,f,f,f]
abbrev spec_GenOk.bl36:Array Bool:=#[t,f,t,f,f,f,f,f,f,f,f,f,f,f,f,f,f,f,f,f,f,f,f,f,f,f,f,f,f,f,f,f,f,f,f,f,f,f,f,f,f,f,f,f,f,f,f,f]
abbrev spec_GenOk.bl37:Array Bool:=#[t,t,t,f,f,f,f,f,f,f,f,f,f,f,f,f,f,f,f,f,f,f,f,f,f,f,f,f,f,f,f,f,f,f,f,f,f,f,f,f,f,f,f,f,f,f,f,f]
abbrev spec_GenOk.bl38:Array Bool:=#[t,t,t,t,f,f,f,f,f,f,f,f,f,f,f,f,f,f,f,f,f,f,f,f,f,f,f,f,f,f,f,f,f,f,f,f,f,f,f,f,f,f,f,f,f,f,f,f]
abbrev spec_GenOk.bl39:Array Bool:=#[t,t,t,t,t,f,f,f,f,f,f,f,f,f,f,f,f,f,f,f,f,f,f,f,f,f,f,f,f,f,f,f,f,f,f,f,f,f,f,f,f,f,f,f,f,f,f,f]
abbrev spec_GenOk.bl40:Array Bool:=#[t,t,t,t,t,t,f,f,f,f,f,f,f,f,f,f,f,f,f,f,f,f,f,f,f,f,f,f,f,f,f,f,f,f,f,f,f,f,f,f,f,f,f,f,f,f,f,f]
abbrev spec_GenOk.bl41:Array Bool:=#[t,t,t,t,t,t,t,f,f,f,f,f,f,f,f,f,f,f,f,f,f,f,f,f,f,f,f,f,f,f,f,f,f,f,f,f,f,f,f,f,f,f,f,f,f,f,f,f]
abbrev spec_GenOk.bl42:Array Bool:=#[t,t,t,t,t,t,t,t,f,f,f,f,f,f,f,f,f,f,f,f,f,f,f,f,f,f,f,f,f,f,f,f,f,f,f,f,f,f,f,f,f,f,f,f,f,f,f,f]
abbrev spec_GenOk.bl43:Array Bool:=#[t,t,t,t,t,t,t,t,f,t,f,f,f,f,f,f,f,f,f,f,f,f,f,f,f,f,f,f,f,f,f,f,f,f,f,f,f,f,f,f,f,f,f,f,f,f,f,f]
abbrev spec_GenOk.bl44:Array Bool:=#[t,t,t,t,t,t,t,t,t,t,f,f,f,f,f,f,f,f,f,f,f,f,f,f,f,f,f,f,f,f,f,f,f,f,f,f,f,f,f,f,f,f,f,f,f,f,f,f]
abbrev spec_GenOk.bl45:Array Bool:=#[t,t,t,t,t,t,t,t,t,t,t,f,f,f,f,f,f,f,f,f,f,f,f,f,f,f,f,f,f,f,f,f,f,f,f,f,f,f,f,f,f,f,f,f,f,f,f,f]
abbrev spec_GenOk.bl46:Array Bool:=#[t,t,t,t,t,t,t,t,t,t,t,t,f,f,f,f,f,f,f,f,f,f,f,f,f,f,f,f,f,f,f,f,f,f,f,f,f,f,f,f,f,f,f,f,f,f,f,f]
abbrev spec_GenOk.bl47:Array Bool:=#[t,t,t,t,t,t,t,t,t,t,t,t,t,f,f,f,f,f,f,f,f,f,f,f,f,f,f,f,f,f,f,f,f,f,f,f,f,f,f,f,f,f,f,f,f,f,f,f]
abbrev spec_GenOk.bl48:Array Bool:=#[t,t,t,t,t,t,t,t,t,t,t,t,t,t,f,f,f,f,f,f,f,f,f,f,f,f,f,f,f,f,f,f,f,f,f,f,f,f,f,f,f,f,f,f,f,f,f,f]
abbrev spec_GenOk.bl49:Array Bool:=#[t,t,t,t,t,t,t,t,t,t,t,t,t,t,t,f,f,f,f,f,f,f,f,f,f,f,f,f,f,f,f,f,f,f,f,f,f,f,f,f,f,f,f,f,f,f,f,f]
abbrev spec_GenOk.bl50:Array Bool:=#[t,t,t,t,t,t,t,t,t,t,t,t,t,t,t,t,f,f,f,f,f,f,f,f,f,f,f,f,f,f,f,f,f,f,f,f,f,f,f,f,f,f,f,f,f,f,f,f]
abbrev spec_GenOk.bl51:Array Bool:=#[t,t,t,t,t,t,t,t,t,t,t,t,t,t,t,t,f,t,f,f,f,f,f,f,f,f,f,f,f,f,f,f,f,f,f,f,f,f,f,f,f,f,f,f,f,f,f,f]
abbrev spec_GenOk.bl52:Array Bool:=#[t,t,t,t,t,t,t,t,t,t,t,t,t,t,t,t,t,t,f,f,f,f,f,f,f,f,f,f,f,f,f,f,f,f,f,f,f,f,f,f,f,f,f,f,f,f,f,f]
abbrev spec_GenOk.bl53:Array Bool:=#[t,t,t,t,t,t,t,t,t,t,t,t,t,t,t,t,t,t,t,f,f,f,f,f,f,f,f,f,f,f,f,f,f,f,f,f,f,f,f,f,f,f,f,f,f,f,f,f]
abbrev spec_GenOk.bl54:Array Bool:=#[t,t,t,t,t,t,t,t,t,t,t,t,t,t,t,t,t,t,t,t,f,f,f,f,f,f,f,f,f,f,f,f,f,f,f,f,f,f,f,f,f,f,f,f,f,f,f,f]
abbrev spec_GenOk.bl55:Array Bool:=#[t,t,t,t,t,t,t,t,t,t,t,t,t,t,t,t,t,t,t,t,t,f,f,f,f,f,f,f,f,f,f,f,f,f,f,f,f,f,f,f,f,f,f,f,f,f,f,f]
abbrev spec_GenOk.bl56:Array Bool:=#[t,t,t,t,t,t,t,t,t,t,t,t,t,t,t,t,t,t,t,t,t,t,f,f,f,f,f,f,f,f,f,f,f,f,f,f,f,f,f,f,f,f,f,f,f,f,f,f]
abbrev spec_GenOk.bl57:Array Bool:=#[t,t,t,t,t,t,t,t,t,t,t,t,t,t,t,t,t,t,t,t,t,t,t,f,f,f,f,f,f,f,f,f,f,f,f,f,f,f,f,f,f,f,f,f,f,f,f,f]
abbrev spec_GenOk.bl58:Array Bool:=#[t,t,t,t,t,t,t,t,t,t,t,t,t,t,t,t,t,t,t,t,t,t,t,t,f,f,f,f,f,f,f,f,f,f,f,f,f,f,f,f,f,f,f,f,f,f,f,f]
abbrev spec_GenOk.bl59:Array Bool:=#[t,t,t,t,t,t,t,t,t,t,t,t,t,t,t,t,t,t,t,t,t,t,t,t,t,f,f,f,f,f,f,f,f,f,f,f,f,f,f,f,f,f,f,f,f,f,f,f]
abbrev spec_GenOk.bl60:Array Bool:=#[t,t,t,t,t,t,t,t,t,t,t,t,t,t,t,t,t,t,t,t,t,t,t,t,t,f,t,f,f,f,f,f,f,f,f,f,f,f,f,f,f,f,f,f,f,f,f,f]
abbrev spec_GenOk.bl61:Array Bool:=#[t,t,t,t,t,t,t,t,t,t,t,t,t,t,t,t,t,t,t,t,t,t,t,t,t,t,t,f,f,f,f,f,f,f,f,f,f,f,f,f,f,f,f,f,f,f,f,f]
abbrev spec_GenOk.bl62:Array Bool:=#[t,t,t,t,t,t,t,t,t,t,t,t,t,t,t,t,t,t,t,t,t,t,t,t,t,t,t,t,f,f,f,f,f,f,f,f,f,f,f,f,f,f,f,f,f,f,f,f]
abbrev spec_GenOk.bl63:Array Bool:=#[t,t,t,t,t,t,t,t,t,t,t,t,t,t,t,t,t,t,t,t,t,t,t,t,t,t,t,t,t,f,f,f,f,f,f,f,f,f,f,f,f,f,f,f,f,f,f,f]
abbrev spec_GenOk.bl64:Array Bool:=#[t,t,t,t,t,t,t,t,t,t,t,t,t,t,t,t,t,t,t,t,t,t,t,t,t,t,t,t,t,t,f,f,f,f,f,f,f,f,f,f,f,f,f,f,f,f,f,f]
abbrev spec_GenOk.bl65:Array Bool:=#[t,t,t,t,t,t,t,t,t,t,t,t,t,t,t,t,t,t,t,t,t,t,t,t,t,t,t,t,t,t,t,f,f,f,f,f,f,f,f,f,f,f,f,f,f,f,f,f]
abbrev spec_GenOk.bl66:Array Bool:=#[t,t,t,t,t,t,t,t,t,t,t,t,t,t,t,t,t,t,t,t,t,t,t,t,t,t,t,t,t,t,t,t,f,f,f,f,f,f,f,f,f,f,f,f,f,f,f,f]
abbrev spec_GenOk.bl67:Array Bool:=#[t,t,t,t,t,t,t,t,t,t,t,t,t,t,t,t,t,t,t,t,t,t,t,t,t,t,t,t,t,t,t,t,t,f,f,f,f,f,f,f,f,f,f,f,f,f,f,f]
abbrev spec_GenOk.bl68:Array Bool:=#[t,t,t,t,t,t,t,t,t,t,t,t,t,t,t,t,t,t,t,t,t,t,t,t,t,t,t,t,t,t,t,t,t,t,f,f,f,f,f,f,f,f,f,f,f,f,f,f]
abbrev spec_GenOk.bl69:Array Bool:=#[t,t,t,t,t,t,t,t,t,t,t,t,t,t,t,t,t,t,t,t,t,t,t,t,t,t,t,t,t,t,t,t,t,t,t,f,f,f,f,f,f,f,f,f,f,f,f,f]
abbrev spec_GenOk.bl70:Array Bool:=#[t,t,t,t,t,t,t,t,t,t,t,t,t,t,t,t,t,t,t,t,t,t,t,t,t,t,t,t,t,t,t,t,t,t,t,t,f,f,f,f,f,f,f,f,f,f,f,f]
abbrev spec_GenOk.bl71:Array Bool:=#[t,t,t,t,t,t,t,t,t,t,t,t,t,t,t,t,t,t,t,t,t,t,t,t,t,t,t,t,t,t,t,t,t,t,t,t,t,f,f,f,f,f,f,f,f,f,f,f]
abbrev spec_GenOk.bl72:Array Bool:=#[t,t,t,t,t,t,t,t,t,t,t,t,t,t,t,t,t,t,t,t,t,t,t,t,t,t,t,t,t,t,t,t,t,t,t,t,t,t,f,f,f,f,f,f,f,f,f,f]
abbrev spec_GenOk.bl73:Array Bool:=#[t,t,t,t,t,t,t,t,t,t,t,t,t,t,t,t,t,t,t,t,t,t,t,t,t,t,t,t,t,t,t,t,t,t,t,t,t,t,f,t,f,f,f,f,f,f,f,f]
abbrev spec_GenOk.bl74:Array Bool:=#[t,t,t,t,t,t,t,t,t,t,t,t,t,t,t,t,t,t,t,t,t,t,t,t,t,t,t,t,t,t,t,t,t,t,t,t,t,t,f,t,t,f,f,f,f,f,f,f]
abbrev spec_GenOk.bl75:Array Bool:=#[t,t,t,t,t,t,t,t,t,t,t,t,t,t,t,t,t,t,t,t,t,t,t,t,t,t,t,t,t,t,t,t,t,t,t,t,t,t,t,t,t,f,f,f,f,f,f,f]
abbrev spec_GenOk.bl76:Array Bool:=#[t,t,t,t,t,t,t,t,t,t,t,t,t,t,t,t,t,t,t,t,t,t,t,t,t,t,t,t,t,t,t,t,t,t,t,t,t,t,t,t,t,t,f,f,f,f,f,f]
abbrev spec_GenOk.bl77:Array Bool:=#[t,t,t,t,t,t,t,t,t,t,t,t,t,t,t,t,t,t,t,t,t,t,t,t,t,t,t,t,t,t,t,t,t,t,t,t,t,t,t,t,t,t,t,f,f,f,f,f]
abbrev spec_GenOk.bl78:Array Bool:=#[t,t,t,t,t,t,t,t,t,t,t,t,t,t,t,t,t,t,t,t,t,t,t,t,t,t,t,t,t,t,t,t,t,t,t,t,t,t,t,t,t,t,t,t,f,f,f,f]
abbrev spec_GenOk.bl79:Array Bool:=#[t,t,t,t,t,t,t,t,t,t,t,t,t,t,t,t,t,t,t,t,t,t,t,t,t,t,t,t,t,t,t,t,t,t,t,t,t,t,t,t,t,t,t,t,t,f,f,f]
abbrev spec_GenOk.bl80:Array Bool:=#[t,t,t,t,t,t,t,t,t,t,t,t,t,t,t,t,t,t,t,t,t,t,t,t,t,t,t,t,t,t,t,t,t,t,t,t,t,t,t,t,t,t,t,t,t,t,f,f]
abbrev spec_GenOk.bl81:Array Bool:=#[t,t,t,t,t,t,t,t,t,t,t,t,t,t,t,t,t,t,t,t,t,t,t,t,t,t,t,t,t,t,t,t,t,t,t,t,t,t,t,t,t,t,t,t,t,t,t,f]
abbrev spec_GenOk.bl82:Array Bool:=#[t,t,t,t,t,t,t,t,t,t,t,t,t,t,t,t,t,t,t,t,t,t,t,t,t,t,t,t,t,t,t,t,t,t,t,t,t,t,t,t,t,t,t,t,t,t,t,t]
abbrev spec_GenOk.bl83:Array Bool:=#[t,t,t,t,t,t,t,t,t,t,t,t,t,t,t,t,t,t,t,t,t,t,t,t,t,t,t,t,t,t,t,t,t,t,t,t,t,t,t,f,f,f,f,f,f,f,f,f]
abbrev spec_GenOk.bl84:Array Bool:=#[t,t,t,t,t,t,t,t,t,t,t,t,t,t,t,t,t,t,t,t,t,t,t,t,t,t,t,t,t,t,t,t,t,t,t,t,t,t,t,t,f,f,f,f,f,f,f,f]
abbrev spec_GenOk.bl85:Array Bool:=#[t,t,t,t,t,t,t,t,t,t,t,t,t,t,t,t,t,t,t,t,t,t,t,t,t,t,f,f,f,f,f,f,f,f,f,f,f,f,f,f,f,f,f,f,f,f,f,f]
abbrev spec_GenOk.bl86:Array Bool:=#[t,t,t,t,t,t,t,t,t,t,t,t,t,t,t,t,t,f,f,f,f,f,f,f,f,f,f,f,f,f,f,f,f,f,f,f,f,f,f,f,f,f,f,f,f,f,f,f]
abbrev spec_GenOk.bl87:Array Bool:=#[t,t,t,t,t,t,t,t,t,f,f,f,f,f,f,f,f,f,f,f,f,f,f,f,f,f,f,f,f,f,f,f,f,f,f,f,f,f,f,f,f,f,f,f,f,f,f,f]
end
mutual
def spec_GenOk.j0:Nat→Bool→Int→Int→Int→Int→List (S43)→Option (Bool)
 | 0,_,_,_,_,_,_=>none
 | k+1,x36,x113000,x113001,x113002,x113003,x113004=>if x36=true then (some false) else (spec_GenOk.l0 k 0 x113000 x113001 x113002 x113003 x113004)
def spec_GenOk.l0:Nat→Int→Int→Int→Int→Int→List (S43)→Option (Bool)
 | 0,_,_,_,_,_,_=>none
 | k+1,x3,x113000,x113001,x113002,x113003,x113004=>if x3<(x113004.length:Int) then (if 0≤x3 then ((spec_l4State.f ((rd_T43 x113004 x3).f0) x113001).bind fun t119=>(if t119=true then ((spec_l4State.f ((rd_T43 x113004 x3).f2) x113001).bind fun t120=>(if t120=true then ((spec_l1In.f ((rd_T43 x113004 x3).f1) 0 (wrap64 (x113000 - 1))).bind fun t121=>(if t121=true then (if 0≤x113003 then ((spec_SetIn.f ((rd_T43 x113004 x3).f3) (wrap64 ((shl .i64 1 x113003) - 1))).bind fun t122=>(if t122=true then (if x3>0 then (if 0≤(wrap64 (x3 - 1)) then (if (wrap64 (x3 - 1))<(x113004.length:Int) then ((spec_l5Less.f ((rd_T43 x113004 (wrap64 (x3 - 1))).f0) ((rd_T43 x113004 (wrap64 (x3 - 1))).f1) ((rd_T43 x113004 (wrap64 (x3 - 1))).f2) ((rd_T43 x113004 (wrap64 (x3 - 1))).f3) ((rd_T43 x113004 x3).f0) ((rd_T43 x113004 x3).f1) ((rd_T43 x113004 x3).f2) ((rd_T43 x113004 x3).f3)).bind fun t124=>(if t124=true then (spec_GenOk.l0 k (wrap64 (x3+1)) x113000 x113001 x113002 x113003 x113004) else (some false))) else (none)) else (none)) else (spec_GenOk.l0 k (wrap64 (x3+1)) x113000 x113001 x113002 x113003 x113004)) else (some false))) else (none)) else (some false))) else (some false))) else (some false))) else (none)) else (some true)
end
def spec_GenOk.f (k:Nat) (a0_0:Int) (a0_1:Int) (a0_2:Int) (a0_3:Int) (l0_4:List (S43)):Option (Bool):=(spec_l1In.f a0_0 1 8).bind fun t113=>(if t113=true then ((spec_l1In.f a0_1 0 31).bind fun t114=>(if t114=true then (if 0≤a0_1 then ((spec_SetIn.f a0_2 (wrap64 ((shl .i64 1 a0_1) - 1))).bind fun t115=>(if t115=true then ((spec_l1In.f a0_3 0 4).bind fun t116=>(if t116=true then (spec_GenOk.j0 k (decide ((l0_4.length:Int)>2000)) a0_0 a0_1 a0_2 a0_3 l0_4) else (spec_GenOk.j0 k true a0_0 a0_1 a0_2 a0_3 l0_4))) else (spec_GenOk.j0 k true a0_0 a0_1 a0_2 a0_3 l0_4))) else (none)) else (spec_GenOk.j0 k true a0_0 a0_1 a0_2 a0_3 l0_4))) else (spec_GenOk.j0 k true a0_0 a0_1 a0_2 a0_3 l0_4))
theorem spec_GenOk.mono_l:∀ k,(∀ y0 y1 y2 y3 y4 y5,LeO (spec_GenOk.j0 k y0 y1 y2 y3 y4 y5) (spec_GenOk.j0 (k+1) y0 y1 y2 y3 y4 y5))∧(∀ y0 y1 y2 y3 y4 y5,LeO (spec_GenOk.l0 k y0 y1 y2 y3 y4 y5) (spec_GenOk.l0 (k+1) y0 y1 y2 y3 y4 y5))
 | 0=>⟨fun _ _ _ _ _ _ r h=>by simp[spec_GenOk.j0]at h,fun _ _ _ _ _ _ r h=>by simp[spec_GenOk.l0]at h⟩
 | k+1=>by
  obtain ⟨ih0,ih1⟩:=spec_GenOk.mono_l k;refine ⟨?_,?_⟩
  ·intro y0 y1 y2 y3 y4 y5;unfold spec_GenOk.j0;repeat' first
   | (with_reducible exact ih0 _ _ _ _ _ _)
   | (with_reducible exact ih1 _ _ _ _ _ _)
   | (with_reducible exact LeO.refl _)
   | (with_reducible exact LeO.none _)
   | (with_reducible refine LeO.ite ?_ ?_)
   | (with_reducible refine LeO.bind ?_ (fun _=>?_))
   | exact ih0 _ _ _ _ _ _
   | exact ih1 _ _ _ _ _ _
   | exact LeO.none _
   | refine LeO.ite ?_ ?_
   | refine LeO.bind ?_ (fun _=>?_)
  intro y0 y1 y2 y3 y4 y5;unfold spec_GenOk.l0;repeat' first
  | (with_reducible exact ih0 _ _ _ _ _ _)
  | (with_reducible exact ih1 _ _ _ _ _ _)
  | (with_reducible exact LeO.refl _)
  | (with_reducible exact LeO.none _)
  | (with_reducible refine LeO.ite ?_ ?_)
  | (with_reducible refine LeO.bind ?_ (fun _=>?_))
  | exact ih0 _ _ _ _ _ _
  | exact ih1 _ _ _ _ _ _
  | exact LeO.none _
  | refine LeO.ite ?_ ?_
  | refine LeO.bind ?_ (fun _=>?_)
theorem spec_GenOk.mono:∀ a0 a1 a2 a3 a4 k,LeO (spec_GenOk.f k a0 a1 a2 a3 a4) (spec_GenOk.f (k+1) a0 a1 a2 a3 a4):=by
 intro a0 a1 a2 a3 a4 k;obtain ⟨ih0,ih1⟩:=spec_GenOk.mono_l k;unfold spec_GenOk.f;repeat' first
   | (with_reducible exact ih0 _ _ _ _ _ _)
   | (with_reducible exact ih1 _ _ _ _ _ _)
   | (with_reducible exact LeO.refl _)
   | (with_reducible exact LeO.none _)
   | (with_reducible refine LeO.ite ?_ ?_)
   | (with_reducible refine LeO.bind ?_ (fun _=>?_))
   | exact ih0 _ _ _ _ _ _
   | exact ih1 _ _ _ _ _ _
   | exact LeO.none _
   | refine LeO.ite ?_ ?_
   | refine LeO.bind ?_ (fun _=>?_)
def spec_GenOk.T1:Bool × List (List Nat × List Nat):=(true,[([],[]),([0],[0]),([1],[1]),([2],[2]),([3,2],[3]),([4],[4]),([5,4],[4,5]),([6,4,4],[4,6]),([7,4],[4,7]),([4,8],[4,8]),([9,7],[9]),([10],[10]),([11,10],[10,11]),([10],[10]),([13,10],[10,13]),([14,10],[10,14]),([15,10],[10,15]),([12,16,10,10],[10,12,16]),([17,10],[10,17]),([10,18],[10,18]),([19,17],[19]),([20],[20]),([21,20],[20,21]),([22,20,20],[20,22]),([23,20],[20,23]),([20,24],[20,24]),([25,23],[25]),([26],[26]),([27,26],[26,27]),([28,26],[26,28]),([29,26],[26,29]),([26,30],[26,30])])
def spec_GenOk.B1:List Nat:=[0,1,3,7,15,31,63,127,255,511,1023,2047,4095,2047,10239,26623,59391,131071,262143,524287,1048575,2097151,4194303,8388607,16777215,33554431,67108863,134217727,268435455,536870911,1073741823,2147483647]
theorem spec_GenOk.tab1:rtab .any (opsOf Try.f12 1)=spec_GenOk.T1:=by kernel_rfl
theorem spec_GenOk.bits1:waitsOk spec_GenOk.T1.2 spec_GenOk.B1=true:=by kernel_rfl
def spec_GenOk.T7:Bool × List (List Nat × List Nat):=(true,[([],[]),([0],[0]),([],[]),([2],[2]),([1,3],[1,3]),([4],[4]),([5,4],[5]),([6],[6]),([7,6],[6,7]),([6],[6]),([9,6],[6,9]),([8,10,6,6],[6,8,10]),([11,6],[6,11]),([6,12],[6,12]),([13,11],[13]),([14],[14]),([15,14],[14,15]),([14],[14]),([17,14],[14,17]),([18,14],[14,18]),([16,19,14,14],[14,16,19]),([20,14],[14,20]),([14,21],[14,21]),([22,20],[22]),([23],[23]),([24,23],[23,24]),([23],[23]),([26,23],[23,26]),([27,23],[23,27]),([28,23],[23,28]),([25,29,23,23],[23,25,29]),([30,23],[23,30]),([23,31],[23,31]),([32,30],[32]),([33],[33]),([34,33],[33,34]),([35,33,33],[33,35]),([36],[36]),([37,36],[36,37]),([36],[36]),([39,36],[36,39]),([38,40,36],[36,38,40]),([41,36],[36,41]),([36],[36]),([42,43,36,36],[36,42,43]),([44,36],[36,44]),([36,45,33],[33,36,45]),([33,46],[33,46])])
def spec_GenOk.B7:List Nat:=[0,1,0,4,15,31,63,127,255,127,639,2047,4095,8191,16383,32767,65535,32767,163839,425983,1048575,2097151,4194303,8388607,16777215,33554431,16777215,83886079,218103807,486539263,1073741823,2147483647,4294967295,8589934591,17179869183,34359738367,68719476735,137438953471,274877906943,137438953471,687194767359,2199023255551,4398046511103,137438953471,17592186044415,35184372088831,70368744177663,140737488355327]
theorem spec_GenOk.tab7:rtab .any (opsOf Try.f12 7)=spec_GenOk.T7:=by kernel_rfl
theorem spec_GenOk.bits7:waitsOk spec_GenOk.T7.2 spec_GenOk.B7=true:=by kernel_rfl
open Go.Proofs.Ytbfghpbmalpdbaa.Short2 in
set_option maxHeartbeats 8000000 in
set_option maxRecDepth 100000 in
theorem spec_GenOk.calls (k:Nat) (a0_0:Int) (a0_1:Int) (a0_2:Int) (a0_3:Int) (A0_4:Option Addr) (c0_4:Nat) (l0_4:List (S43)) (r:Bool) (w:World) (hr0_4:Kd.C k43 w A0_4 l0_4.length l0_4) (hc0_4:l0_4.length≤c0_4) (h:spec_GenOk.f k a0_0 a0_1 a0_2 a0_3 l0_4=some r) :
  Calls Try.prog 12 #[.agg #[.int .i64 a0_0,.int .i64 a0_1,.int .i64 a0_2,.int .i64 a0_3,.slice A0_4 l0_4.length c0_4]] w fun e w'=>e=.returned (.bool r)∧Below w.heap.size w w':=by
 have hu28:=Try.underlying28;have hu43:=Try.underlying43;have HR0_4:=Aside0.mk hr0_4;have HC0_4:=Aside0.mk hc0_4;clear hr0_4 hc0_4;have HB:=Aside0.mk (Below.refl w.heap.size w);have H:((spec_l1In.f a0_0 1 8).bind fun aK=>(if aK=true then ((spec_l1In.f a0_1 0 31).bind fun az=>(if az=true then (if 0≤a0_1 then ((spec_SetIn.f a0_2 (wrap64 ((shl .i64 1 a0_1) - 1))).bind fun ax=>(if ax=true then ((spec_l1In.f a0_3 0 4).bind fun ao=>(if ao=true then (spec_GenOk.j0 k (decide ((l0_4.length:Int)>2000)) a0_0 a0_1 a0_2 a0_3 l0_4) else (spec_GenOk.j0 k true a0_0 a0_1 a0_2 a0_3 l0_4))) else (spec_GenOk.j0 k true a0_0 a0_1 a0_2 a0_3 l0_4))) else (none)) else (spec_GenOk.j0 k true a0_0 a0_1 a0_2 a0_3 l0_4))) else (spec_GenOk.j0 k true a0_0 a0_1 a0_2 a0_3 l0_4)))=some r:=h;clear h;have HC2:=Aside0.mk H;clear H;go_enter Try.func12,Try.ntmps12;go_upto_region 1 with (first|((with_reducible refine gate_dst (N:=1) rfl ?_);(try (refine gate_guard (by rfl) ?_;dsimp only));refine bx_ 1 #[.int .i64 a0_0,.int .i64 a0_1,.int .i64 a0_2,.int .i64 a0_3,.slice A0_4 l0_4.length c0_4] 28 ?_;intro ad hg w3 hbox hb;have aa:=Aside0.mk (hbox);have eo:=xG HB hg;have ep:=xG HB hg;replace HB:=xS HB hb;clear hb hbox hg))
 (try simp only[Act.put,q3]);go_cut [36] (fun eg wc=>∃ (kq:Nat) (aG:Bool),eg=.bool aG∧Aside0 (spec_GenOk.j0 kq aG a0_0 a0_1 a0_2 a0_3 l0_4=some r)∧Aside0 (kq≤k)∧Aside0 (wc.heap[ad]?=some (.cells #[.int .i64 a0_0,.int .i64 a0_1,.int .i64 a0_2,.int .i64 a0_3,(.slice A0_4 l0_4.length c0_4)] 28 (0,0)))∧Aside0 (Below w.heap.size w wc))
 case first=>
  have H:=HC2.out;clear HC2;replace H:=bI H;obtain ⟨aK,bq,H⟩:=H;replace H:(if aK=true then ((spec_l1In.f a0_1 0 31).bind fun az=>(if az=true then (if 0≤a0_1 then ((spec_SetIn.f a0_2 (wrap64 ((shl .i64 1 a0_1) - 1))).bind fun ax=>(if ax=true then ((spec_l1In.f a0_3 0 4).bind fun ao=>(if ao=true then (spec_GenOk.j0 k (decide ((l0_4.length:Int)>2000)) a0_0 a0_1 a0_2 a0_3 l0_4) else (spec_GenOk.j0 k true a0_0 a0_1 a0_2 a0_3 l0_4))) else (spec_GenOk.j0 k true a0_0 a0_1 a0_2 a0_3 l0_4))) else (none)) else (spec_GenOk.j0 k true a0_0 a0_1 a0_2 a0_3 l0_4))) else (spec_GenOk.j0 k true a0_0 a0_1 a0_2 a0_3 l0_4))=some r:=H;have A4:=Aside0.mk bq;clear bq;by_cases c5:aK=true
  ·subst c5;have H1:((spec_l1In.f a0_1 0 31).bind fun az=>(if az=true then (if 0≤a0_1 then ((spec_SetIn.f a0_2 (wrap64 ((shl .i64 1 a0_1) - 1))).bind fun ax=>(if ax=true then ((spec_l1In.f a0_3 0 4).bind fun ao=>(if ao=true then (spec_GenOk.j0 k (decide ((l0_4.length:Int)>2000)) a0_0 a0_1 a0_2 a0_3 l0_4) else (spec_GenOk.j0 k true a0_0 a0_1 a0_2 a0_3 l0_4))) else (spec_GenOk.j0 k true a0_0 a0_1 a0_2 a0_3 l0_4))) else (none)) else (spec_GenOk.j0 k true a0_0 a0_1 a0_2 a0_3 l0_4)))=some r:=by rw[if_pos rfl]at H;exact H
   clear H;have H:=H1;clear H1;replace H:=bI H;obtain ⟨az,br,H⟩:=H;replace H:(if az=true then (if 0≤a0_1 then ((spec_SetIn.f a0_2 (wrap64 ((shl .i64 1 a0_1) - 1))).bind fun ax=>(if ax=true then ((spec_l1In.f a0_3 0 4).bind fun ao=>(if ao=true then (spec_GenOk.j0 k (decide ((l0_4.length:Int)>2000)) a0_0 a0_1 a0_2 a0_3 l0_4) else (spec_GenOk.j0 k true a0_0 a0_1 a0_2 a0_3 l0_4))) else (spec_GenOk.j0 k true a0_0 a0_1 a0_2 a0_3 l0_4))) else (none)) else (spec_GenOk.j0 k true a0_0 a0_1 a0_2 a0_3 l0_4))=some r:=H;have A6:=Aside0.mk br;clear br;by_cases c7:az=true
   ·subst c7;have H1:(if 0≤a0_1 then ((spec_SetIn.f a0_2 (wrap64 ((shl .i64 1 a0_1) - 1))).bind fun ax=>(if ax=true then ((spec_l1In.f a0_3 0 4).bind fun ao=>(if ao=true then (spec_GenOk.j0 k (decide ((l0_4.length:Int)>2000)) a0_0 a0_1 a0_2 a0_3 l0_4) else (spec_GenOk.j0 k true a0_0 a0_1 a0_2 a0_3 l0_4))) else (spec_GenOk.j0 k true a0_0 a0_1 a0_2 a0_3 l0_4))) else (none))=some r:=by rw[if_pos rfl]at H;exact H
    clear H;have H:=H1;clear H1;by_cases c8:0≤a0_1
    ·rw[if_pos c8]at H;have eJ:=eq_true c8;have eK:decide (0≤a0_1)=true:=decide_eq_true c8;clear c8;obtain ⟨ji9,hji9⟩:∃ j_:Int,(shl .i64 1 a0_1)=j_:=⟨_,rfl⟩;replace H:((spec_SetIn.f a0_2 (wrap64 ((ji9) - 1))).bind fun ax=>(if ax=true then ((spec_l1In.f a0_3 0 4).bind fun ao=>(if ao=true then (spec_GenOk.j0 k (decide ((l0_4.length:Int)>2000)) a0_0 a0_1 a0_2 a0_3 l0_4) else (spec_GenOk.j0 k true a0_0 a0_1 a0_2 a0_3 l0_4))) else (spec_GenOk.j0 k true a0_0 a0_1 a0_2 a0_3 l0_4)))=some r:=by first|(rw[hji9]at H;exact H)|(simp only[hji9]at H ⊢;exact H)
     (try rw[hji9]at A4);(try rw[hji9]at A6);have hji9_:(IntKind.i64.wrap (1 * 2 ^ min a0_1.toNat 64))=ji9:=hji9;have hji9z:a0_1≤64→(IntKind.i64.wrap (1 * 2 ^ a0_1.toNat))=ji9:=shl_small hji9;have hji9u:(IntKind.i64.wrap (2 ^ min a0_1.toNat 64))=ji9:=by have h_:=hji9_;rw[Int.one_mul]at h_;exact h_
     have hji9v:a0_1≤64→(IntKind.i64.wrap (2 ^ a0_1.toNat))=ji9:=fun hle_=>by have h_:=hji9z hle_;rw[Int.one_mul]at h_;exact h_
     have hji9y:(wrap64 (1 * 2 ^ min a0_1.toNat 64))=ji9:=(i64_w _).symm.trans hji9_;have hji9x:a0_1≤64→(wrap64 (1 * 2 ^ a0_1.toNat))=ji9:=fun h_=>(i64_w _).symm.trans (hji9z h_);replace H:=bI H;obtain ⟨ax,bf,H⟩:=H;replace H:(if ax=true then ((spec_l1In.f a0_3 0 4).bind fun ao=>(if ao=true then (spec_GenOk.j0 k (decide ((l0_4.length:Int)>2000)) a0_0 a0_1 a0_2 a0_3 l0_4) else (spec_GenOk.j0 k true a0_0 a0_1 a0_2 a0_3 l0_4))) else (spec_GenOk.j0 k true a0_0 a0_1 a0_2 a0_3 l0_4))=some r:=H;have bg:=Aside0.mk bf;clear bf
     by_cases aO:ax=true
     ·subst aO;have H1:((spec_l1In.f a0_3 0 4).bind fun ao=>(if ao=true then (spec_GenOk.j0 k (decide ((l0_4.length:Int)>2000)) a0_0 a0_1 a0_2 a0_3 l0_4) else (spec_GenOk.j0 k true a0_0 a0_1 a0_2 a0_3 l0_4)))=some r:=by rw[if_pos rfl]at H;exact H
      clear H;have H:=H1;clear H1;replace H:=bI H;obtain ⟨ao,bh,H⟩:=H;replace H:(if ao=true then (spec_GenOk.j0 k (decide ((l0_4.length:Int)>2000)) a0_0 a0_1 a0_2 a0_3 l0_4) else (spec_GenOk.j0 k true a0_0 a0_1 a0_2 a0_3 l0_4))=some r:=H;have bs:=Aside0.mk bh;clear bh;by_cases aP:ao=true
      ·subst aP;have H1:(spec_GenOk.j0 k (decide ((l0_4.length:Int)>2000)) a0_0 a0_1 a0_2 a0_3 l0_4)=some r:=by rw[if_pos rfl]at H;exact H
       clear H;have H:=H1;clear H1;have H':=Aside0.mk H;clear H;try go_wp2
       replace aa:=Aside0.mk (blk_drew aa.out);replace HB:=Aside0.mk (below_drew1 HB.out);refine start_ (n:=32) (S:=fun w'=>w'.cell? ⟨ad,0,none⟩=some (.int .i64 a0_0)∧w'.cell? ⟨ad,1,none⟩=some (.int .i64 a0_1)∧w'.cell? ⟨ad,2,none⟩=some (.int .i64 a0_2)∧w'.cell? ⟨ad,3,none⟩=some (.int .i64 a0_3)∧w'.cell? ⟨ad,4,none⟩=some (.slice A0_4 l0_4.length c0_4)) (ds:=[]) bl0 (by kernel_rfl) rfl rfl ⟨b1 aa 0,b1 aa 1,b1 aa 2,b1 aa 3,b1 aa 4⟩ (fun hHeld=>?_);refine with_tabW spec_GenOk.tab1 spec_GenOk.bits1 (fun HT_ HW_=>?_);generalize w3.drew=eL at aa HB hHeld ⊢;refine pv_ 0 (some 5) bl1 HT_ ?_
       refine tk_ 1 (some 6) bl2 HT_ HW_ hHeld ?_
       refine on_ 2 (some 7) bl3 HT_ (fun K hK=>?_);refine gs_ Try.func26 #[.int .i64 a0_0,.int .i64 1,.int .i64 8] ?_
       with_reducible refine (spec_l1In.calls a0_0 1 8 true _ A4.out).mono ?_
       rintro e w' ⟨rfl,⟨nd,rfl⟩⟩;refine ⟨_,rfl,?_⟩;refine hK.out _ _ ⟨b1 aa 0,b1 aa 1,b1 aa 2,b1 aa 3,b1 aa 4⟩ (fun hHeld=>?_);clear hK K;refine nr_ (some 7) ?_
       refine pv_ 3 (some 8) bl4 HT_ ?_
       refine pv_ 4 (some 9) bl5 HT_ ?_
       refine pv_ 5 (some 10) bl6 HT_ ?_
       refine tk_ 6 (some 11) bl7 HT_ HW_ hHeld ?_
       refine on_ 7 (some 12) bl8 HT_ (fun K hK=>?_);refine gs_ Try.func26 #[.int .i64 a0_1,.int .i64 0,.int .i64 31] ?_
       with_reducible refine (spec_l1In.calls a0_1 0 31 true _ A6.out).mono ?_
       rintro e w' ⟨rfl,⟨nd,rfl⟩⟩;refine ⟨_,rfl,?_⟩;refine hK.out _ _ ⟨b1 aa 0,b1 aa 1,b1 aa 2,b1 aa 3,b1 aa 4⟩ (fun hHeld=>?_);clear hK K;refine nr_ (some 12) ?_
       refine pv_ 8 (some 13) bl9 HT_ ?_
       refine pv_ 9 (some 14) bl10 HT_ ?_
       refine pv_ 10 (some 15) bl11 HT_ ?_
       refine pv_ 11 (some 16) bl12 HT_ ?_
       refine pv_ 13 (some 18) bl13 HT_ ?_
       refine tk_ 12 (some 17) bl14 HT_ HW_ hHeld ?_
       refine tk_ 14 (some 19) bl15 HT_ HW_ hHeld ?_
       refine pv_ 15 (some 20) bl16 HT_ ?_
       refine pv_ 16 (some 21) bl17 HT_ ?_
       refine on_ 17 (some 22) bl18 HT_ (fun K hK=>?_);refine goes_ Try.func27 (by kernel_rfl) rfl #[.int .i64 a0_2,.int .i64 (wrap64 ((ji9) - 1))] (by rfl) rfl rfl (by (try simp only[m3]);first|done|(simp only[hji9];rfl)|rfl|(simp only[d2];rfl)) ?_
       with_reducible refine (spec_SetIn.calls a0_2 (wrap64 ((ji9) - 1)) true _ bg.out).mono ?_
       rintro e w' ⟨rfl,⟨nd,rfl⟩⟩;refine ⟨_,rfl,?_⟩;refine hK.out _ _ ⟨b1 aa 0,b1 aa 1,b1 aa 2,b1 aa 3,b1 aa 4⟩ (fun hHeld=>?_);clear hK K;refine nr_ (some 22) ?_
       refine pv_ 18 (some 23) bl19 HT_ ?_
       refine pv_ 19 (some 24) bl20 HT_ ?_
       refine pv_ 20 (some 25) bl21 HT_ ?_
       refine pv_ 21 (some 26) bl22 HT_ ?_
       refine tk_ 22 (some 27) bl23 HT_ HW_ hHeld ?_
       refine on_ 23 (some 28) bl24 HT_ (fun K hK=>?_);refine gs_ Try.func26 #[.int .i64 a0_3,.int .i64 0,.int .i64 4] ?_
       with_reducible refine (spec_l1In.calls a0_3 0 4 true _ bs.out).mono ?_
       rintro e w' ⟨rfl,⟨nd,rfl⟩⟩;refine ⟨_,rfl,?_⟩;refine hK.out _ _ ⟨b1 aa 0,b1 aa 1,b1 aa 2,b1 aa 3,b1 aa 4⟩ (fun hHeld=>?_);clear hK K;refine nr_ (some 28) ?_
       refine pv_ 24 (some 29) bl25 HT_ ?_
       refine pv_ 25 (some 30) bl26 HT_ ?_
       refine pv_ 26 (some 31) bl27 HT_ ?_
       refine pv_ 27 (some 32) bl28 HT_ ?_
       refine tk_ 28 (some 33) bl29 HT_ HW_ hHeld ?_
       refine pv_ 29 (some 34) bl30 HT_ ?_
       refine pv_ 30 (some 35) bl31 HT_ ?_
       refine pv_ 31 (some 36) bl32 HT_ ?_
       refine done_ (done_of HT_.out (by kernel_rfl)) ?_
       try go_wp2
       (first|go_meet|((try simp only[← hji9]);go_meet))
       case rel=>exact ⟨_,(decide ((l0_4.length:Int)>2000)),vv,(by first|exact H' | (have h_:=H';(try simp only[← hji9]at h_);(try simp only[← hji9]);exact h_)),⟨by first|omega|exact Nat.le_refl _⟩,⟨zB aa.out⟩,⟨zS HB.out⟩⟩
      replace aP:=Bool.eq_false_iff.mpr aP;subst aP;have H1:(spec_GenOk.j0 k true a0_0 a0_1 a0_2 a0_3 l0_4)=some r:=by rw[if_neg (show ¬ (false=true) by decide)]at H;exact H
      clear H;have H:=H1;clear H1;have H':=Aside0.mk H;clear H;try go_wp2
      replace aa:=Aside0.mk (blk_drew aa.out);replace HB:=Aside0.mk (below_drew1 HB.out);refine start_ (n:=32) (S:=fun w'=>w'.cell? ⟨ad,0,none⟩=some (.int .i64 a0_0)∧w'.cell? ⟨ad,1,none⟩=some (.int .i64 a0_1)∧w'.cell? ⟨ad,2,none⟩=some (.int .i64 a0_2)∧w'.cell? ⟨ad,3,none⟩=some (.int .i64 a0_3)∧w'.cell? ⟨ad,4,none⟩=some (.slice A0_4 l0_4.length c0_4)) (ds:=[]) bl0 (by kernel_rfl) rfl rfl ⟨b1 aa 0,b1 aa 1,b1 aa 2,b1 aa 3,b1 aa 4⟩ (fun hHeld=>?_);refine with_tabW spec_GenOk.tab1 spec_GenOk.bits1 (fun HT_ HW_=>?_);generalize w3.drew=eM at aa HB hHeld ⊢;refine pv_ 0 (some 5) bl1 HT_ ?_
      refine tk_ 1 (some 6) bl2 HT_ HW_ hHeld ?_
      refine on_ 2 (some 7) bl3 HT_ (fun K hK=>?_);refine gs_ Try.func26 #[.int .i64 a0_0,.int .i64 1,.int .i64 8] ?_
      with_reducible refine (spec_l1In.calls a0_0 1 8 true _ A4.out).mono ?_
      rintro e w' ⟨rfl,⟨nd,rfl⟩⟩;refine ⟨_,rfl,?_⟩;refine hK.out _ _ ⟨b1 aa 0,b1 aa 1,b1 aa 2,b1 aa 3,b1 aa 4⟩ (fun hHeld=>?_);clear hK K;refine nr_ (some 7) ?_
      refine pv_ 3 (some 8) bl4 HT_ ?_
      refine pv_ 4 (some 9) bl5 HT_ ?_
      refine pv_ 5 (some 10) bl6 HT_ ?_
      refine tk_ 6 (some 11) bl7 HT_ HW_ hHeld ?_
      refine on_ 7 (some 12) bl8 HT_ (fun K hK=>?_);refine gs_ Try.func26 #[.int .i64 a0_1,.int .i64 0,.int .i64 31] ?_
      with_reducible refine (spec_l1In.calls a0_1 0 31 true _ A6.out).mono ?_
      rintro e w' ⟨rfl,⟨nd,rfl⟩⟩;refine ⟨_,rfl,?_⟩;refine hK.out _ _ ⟨b1 aa 0,b1 aa 1,b1 aa 2,b1 aa 3,b1 aa 4⟩ (fun hHeld=>?_);clear hK K;refine nr_ (some 12) ?_
      refine pv_ 8 (some 13) bl9 HT_ ?_
      refine pv_ 9 (some 14) bl10 HT_ ?_
      refine pv_ 10 (some 15) bl11 HT_ ?_
      refine pv_ 11 (some 16) bl12 HT_ ?_
      refine pv_ 13 (some 18) bl13 HT_ ?_
      refine tk_ 12 (some 17) bl14 HT_ HW_ hHeld ?_
      refine tk_ 14 (some 19) bl15 HT_ HW_ hHeld ?_
      refine pv_ 15 (some 20) bl16 HT_ ?_
      refine pv_ 16 (some 21) bl17 HT_ ?_
      refine on_ 17 (some 22) bl18 HT_ (fun K hK=>?_);refine goes_ Try.func27 (by kernel_rfl) rfl #[.int .i64 a0_2,.int .i64 (wrap64 ((ji9) - 1))] (by rfl) rfl rfl (by (try simp only[m3]);first|done|(simp only[hji9];rfl)|rfl|(simp only[d2];rfl)) ?_
      with_reducible refine (spec_SetIn.calls a0_2 (wrap64 ((ji9) - 1)) true _ bg.out).mono ?_
      rintro e w' ⟨rfl,⟨nd,rfl⟩⟩;refine ⟨_,rfl,?_⟩;refine hK.out _ _ ⟨b1 aa 0,b1 aa 1,b1 aa 2,b1 aa 3,b1 aa 4⟩ (fun hHeld=>?_);clear hK K;refine nr_ (some 22) ?_
      refine pv_ 18 (some 23) bl19 HT_ ?_
      refine pv_ 19 (some 24) bl20 HT_ ?_
      refine pv_ 20 (some 25) bl21 HT_ ?_
      refine pv_ 21 (some 26) bl22 HT_ ?_
      refine tk_ 22 (some 27) bl23 HT_ HW_ hHeld ?_
      refine on_ 23 (some 28) bl24 HT_ (fun K hK=>?_);refine gs_ Try.func26 #[.int .i64 a0_3,.int .i64 0,.int .i64 4] ?_
      with_reducible refine (spec_l1In.calls a0_3 0 4 false _ bs.out).mono ?_
      rintro e w' ⟨rfl,⟨nd,rfl⟩⟩;refine ⟨_,rfl,?_⟩;refine hK.out _ _ ⟨b1 aa 0,b1 aa 1,b1 aa 2,b1 aa 3,b1 aa 4⟩ (fun hHeld=>?_);clear hK K;refine nr_ (some 28) ?_
      refine pv_ 24 (some 29) bl25 HT_ ?_
      refine pv_ 25 (some 30) bl26 HT_ ?_
      refine pv_ 26 (some 31) bl27 HT_ ?_
      refine pn_ 27 (some 32) bl28 HT_ ?_
      refine pn_ 28 (some 33) bl29 HT_ ?_
      refine pn_ 29 (some 34) bl30 HT_ ?_
      refine pn_ 30 (some 35) bl31 HT_ ?_
      refine pv_ 31 (some 36) bl32 HT_ ?_
      refine done_ (done_of HT_.out (by kernel_rfl)) ?_
      try go_wp2
      (first|go_meet|((try simp only[← hji9]);go_meet))
      case rel=>exact ⟨_,(true),vv,(by first|exact H' | (have h_:=H';(try simp only[← hji9]at h_);(try simp only[← hji9]);exact h_)),⟨by first|omega|exact Nat.le_refl _⟩,⟨zB aa.out⟩,⟨zS HB.out⟩⟩
     replace aO:=Bool.eq_false_iff.mpr aO;subst aO;have H1:(spec_GenOk.j0 k true a0_0 a0_1 a0_2 a0_3 l0_4)=some r:=by rw[if_neg (show ¬ (false=true) by decide)]at H;exact H
     clear H;have H:=H1;clear H1;have H':=Aside0.mk H;clear H;try go_wp2
     replace aa:=Aside0.mk (blk_drew aa.out);replace HB:=Aside0.mk (below_drew1 HB.out);refine start_ (n:=32) (S:=fun w'=>w'.cell? ⟨ad,0,none⟩=some (.int .i64 a0_0)∧w'.cell? ⟨ad,1,none⟩=some (.int .i64 a0_1)∧w'.cell? ⟨ad,2,none⟩=some (.int .i64 a0_2)∧w'.cell? ⟨ad,3,none⟩=some (.int .i64 a0_3)∧w'.cell? ⟨ad,4,none⟩=some (.slice A0_4 l0_4.length c0_4)) (ds:=[]) bl0 (by kernel_rfl) rfl rfl ⟨b1 aa 0,b1 aa 1,b1 aa 2,b1 aa 3,b1 aa 4⟩ (fun hHeld=>?_);refine with_tabW spec_GenOk.tab1 spec_GenOk.bits1 (fun HT_ HW_=>?_);generalize w3.drew=eN at aa HB hHeld ⊢;refine pv_ 0 (some 5) bl1 HT_ ?_
     refine tk_ 1 (some 6) bl2 HT_ HW_ hHeld ?_
     refine on_ 2 (some 7) bl3 HT_ (fun K hK=>?_);refine gs_ Try.func26 #[.int .i64 a0_0,.int .i64 1,.int .i64 8] ?_
     with_reducible refine (spec_l1In.calls a0_0 1 8 true _ A4.out).mono ?_
     rintro e w' ⟨rfl,⟨nd,rfl⟩⟩;refine ⟨_,rfl,?_⟩;refine hK.out _ _ ⟨b1 aa 0,b1 aa 1,b1 aa 2,b1 aa 3,b1 aa 4⟩ (fun hHeld=>?_);clear hK K;refine nr_ (some 7) ?_
     refine pv_ 3 (some 8) bl4 HT_ ?_
     refine pv_ 4 (some 9) bl5 HT_ ?_
     refine pv_ 5 (some 10) bl6 HT_ ?_
     refine tk_ 6 (some 11) bl7 HT_ HW_ hHeld ?_
     refine on_ 7 (some 12) bl8 HT_ (fun K hK=>?_);refine gs_ Try.func26 #[.int .i64 a0_1,.int .i64 0,.int .i64 31] ?_
     with_reducible refine (spec_l1In.calls a0_1 0 31 true _ A6.out).mono ?_
     rintro e w' ⟨rfl,⟨nd,rfl⟩⟩;refine ⟨_,rfl,?_⟩;refine hK.out _ _ ⟨b1 aa 0,b1 aa 1,b1 aa 2,b1 aa 3,b1 aa 4⟩ (fun hHeld=>?_);clear hK K;refine nr_ (some 12) ?_
     refine pv_ 8 (some 13) bl9 HT_ ?_
     refine pv_ 9 (some 14) bl10 HT_ ?_
     refine pv_ 10 (some 15) bl11 HT_ ?_
     refine pv_ 11 (some 16) bl12 HT_ ?_
     refine pv_ 13 (some 18) bl13 HT_ ?_
     refine tk_ 12 (some 17) bl14 HT_ HW_ hHeld ?_
     refine tk_ 14 (some 19) bl15 HT_ HW_ hHeld ?_
     refine pv_ 15 (some 20) bl16 HT_ ?_
     refine pv_ 16 (some 21) bl17 HT_ ?_
     refine on_ 17 (some 22) bl18 HT_ (fun K hK=>?_);refine goes_ Try.func27 (by kernel_rfl) rfl #[.int .i64 a0_2,.int .i64 (wrap64 ((ji9) - 1))] (by rfl) rfl rfl (by (try simp only[m3]);first|done|(simp only[hji9];rfl)|rfl|(simp only[d2];rfl)) ?_
     with_reducible refine (spec_SetIn.calls a0_2 (wrap64 ((ji9) - 1)) false _ bg.out).mono ?_
     rintro e w' ⟨rfl,⟨nd,rfl⟩⟩;refine ⟨_,rfl,?_⟩;refine hK.out _ _ ⟨b1 aa 0,b1 aa 1,b1 aa 2,b1 aa 3,b1 aa 4⟩ (fun hHeld=>?_);clear hK K;refine nr_ (some 22) ?_
     refine pv_ 18 (some 23) bl19 HT_ ?_
     refine pv_ 19 (some 24) bl20 HT_ ?_
     refine pv_ 20 (some 25) bl21 HT_ ?_
     refine pn_ 21 (some 26) bl22 HT_ ?_
     refine pn_ 22 (some 27) bl23 HT_ ?_
     refine pn_ 23 (some 28) bl24 HT_ ?_
     refine pn_ 24 (some 29) bl25 HT_ ?_
     refine pv_ 25 (some 30) bl26 HT_ ?_
     refine pv_ 26 (some 31) bl27 HT_ ?_
     refine pn_ 27 (some 32) bl28 HT_ ?_
     refine pn_ 28 (some 33) bl29 HT_ ?_
     refine pn_ 29 (some 34) bl30 HT_ ?_
     refine pn_ 30 (some 35) bl31 HT_ ?_
     refine pv_ 31 (some 36) bl32 HT_ ?_
     refine done_ (done_of HT_.out (by kernel_rfl)) ?_
     try go_wp2
     (first|go_meet|((try simp only[← hji9]);go_meet))
     case rel=>exact ⟨_,(true),vv,(by first|exact H' | (have h_:=H';(try simp only[← hji9]at h_);(try simp only[← hji9]);exact h_)),⟨by first|omega|exact Nat.le_refl _⟩,⟨zB aa.out⟩,⟨zS HB.out⟩⟩
    rw[if_neg c8]at H;exact absurd H (by simp)
   replace c7:=Bool.eq_false_iff.mpr c7;subst c7;have H1:(spec_GenOk.j0 k true a0_0 a0_1 a0_2 a0_3 l0_4)=some r:=by rw[if_neg (show ¬ (false=true) by decide)]at H;exact H
   clear H;have H:=H1;clear H1;have H':=Aside0.mk H;clear H;try go_wp2
   replace aa:=Aside0.mk (blk_drew aa.out);replace HB:=Aside0.mk (below_drew1 HB.out);refine start_ (n:=32) (S:=fun w'=>w'.cell? ⟨ad,0,none⟩=some (.int .i64 a0_0)∧w'.cell? ⟨ad,1,none⟩=some (.int .i64 a0_1)∧w'.cell? ⟨ad,2,none⟩=some (.int .i64 a0_2)∧w'.cell? ⟨ad,3,none⟩=some (.int .i64 a0_3)∧w'.cell? ⟨ad,4,none⟩=some (.slice A0_4 l0_4.length c0_4)) (ds:=[]) bl0 (by kernel_rfl) rfl rfl ⟨b1 aa 0,b1 aa 1,b1 aa 2,b1 aa 3,b1 aa 4⟩ (fun hHeld=>?_);refine with_tabW spec_GenOk.tab1 spec_GenOk.bits1 (fun HT_ HW_=>?_);generalize w3.drew=eO at aa HB hHeld ⊢;refine pv_ 0 (some 5) bl1 HT_ ?_
   refine tk_ 1 (some 6) bl2 HT_ HW_ hHeld ?_
   refine on_ 2 (some 7) bl3 HT_ (fun K hK=>?_);refine gs_ Try.func26 #[.int .i64 a0_0,.int .i64 1,.int .i64 8] ?_
   with_reducible refine (spec_l1In.calls a0_0 1 8 true _ A4.out).mono ?_
   rintro e w' ⟨rfl,⟨nd,rfl⟩⟩;refine ⟨_,rfl,?_⟩;refine hK.out _ _ ⟨b1 aa 0,b1 aa 1,b1 aa 2,b1 aa 3,b1 aa 4⟩ (fun hHeld=>?_);clear hK K;refine nr_ (some 7) ?_
   refine pv_ 3 (some 8) bl4 HT_ ?_
   refine pv_ 4 (some 9) bl5 HT_ ?_
   refine pv_ 5 (some 10) bl6 HT_ ?_
   refine tk_ 6 (some 11) bl7 HT_ HW_ hHeld ?_
   refine on_ 7 (some 12) bl8 HT_ (fun K hK=>?_);refine gs_ Try.func26 #[.int .i64 a0_1,.int .i64 0,.int .i64 31] ?_
   with_reducible refine (spec_l1In.calls a0_1 0 31 false _ A6.out).mono ?_
   rintro e w' ⟨rfl,⟨nd,rfl⟩⟩;refine ⟨_,rfl,?_⟩;refine hK.out _ _ ⟨b1 aa 0,b1 aa 1,b1 aa 2,b1 aa 3,b1 aa 4⟩ (fun hHeld=>?_);clear hK K;refine nr_ (some 12) ?_
   refine pv_ 8 (some 13) bl9 HT_ ?_
   refine pv_ 9 (some 14) bl10 HT_ ?_
   refine pv_ 10 (some 15) bl11 HT_ ?_
   refine pn_ 11 (some 16) bl12 HT_ ?_
   refine pn_ 12 (some 17) bl33 HT_ ?_
   refine pn_ 13 (some 18) bl14 HT_ ?_
   refine pn_ 14 (some 19) bl15 HT_ ?_
   refine pn_ 15 (some 20) bl16 HT_ ?_
   refine pn_ 16 (some 21) bl17 HT_ ?_
   refine pn_ 17 (some 22) bl18 HT_ ?_
   refine pn_ 18 (some 23) bl19 HT_ ?_
   refine pv_ 19 (some 24) bl20 HT_ ?_
   refine pv_ 20 (some 25) bl21 HT_ ?_
   refine pn_ 21 (some 26) bl22 HT_ ?_
   refine pn_ 22 (some 27) bl23 HT_ ?_
   refine pn_ 23 (some 28) bl24 HT_ ?_
   refine pn_ 24 (some 29) bl25 HT_ ?_
   refine pv_ 25 (some 30) bl26 HT_ ?_
   refine pv_ 26 (some 31) bl27 HT_ ?_
   refine pn_ 27 (some 32) bl28 HT_ ?_
   refine pn_ 28 (some 33) bl29 HT_ ?_
   refine pn_ 29 (some 34) bl30 HT_ ?_
   refine pn_ 30 (some 35) bl31 HT_ ?_
   refine pv_ 31 (some 36) bl32 HT_ ?_
   refine done_ (done_of HT_.out (by kernel_rfl)) ?_
   try go_wp2
   go_meet
   case rel=>exact ⟨_,(true),vv,H',⟨by first|omega|exact Nat.le_refl _⟩,⟨zB aa.out⟩,⟨zS HB.out⟩⟩
  replace c5:=Bool.eq_false_iff.mpr c5;subst c5;have H1:(spec_GenOk.j0 k true a0_0 a0_1 a0_2 a0_3 l0_4)=some r:=by rw[if_neg (show ¬ (false=true) by decide)]at H;exact H
  clear H;have H:=H1;clear H1;have H':=Aside0.mk H;clear H;try go_wp2
  replace aa:=Aside0.mk (blk_drew aa.out);replace HB:=Aside0.mk (below_drew1 HB.out);refine start_ (n:=32) (S:=fun w'=>w'.cell? ⟨ad,0,none⟩=some (.int .i64 a0_0)∧w'.cell? ⟨ad,1,none⟩=some (.int .i64 a0_1)∧w'.cell? ⟨ad,2,none⟩=some (.int .i64 a0_2)∧w'.cell? ⟨ad,3,none⟩=some (.int .i64 a0_3)∧w'.cell? ⟨ad,4,none⟩=some (.slice A0_4 l0_4.length c0_4)) (ds:=[]) bl0 (by kernel_rfl) rfl rfl ⟨b1 aa 0,b1 aa 1,b1 aa 2,b1 aa 3,b1 aa 4⟩ (fun hHeld=>?_);refine with_tabW spec_GenOk.tab1 spec_GenOk.bits1 (fun HT_ HW_=>?_);generalize w3.drew=eP at aa HB hHeld ⊢;refine pv_ 0 (some 5) bl1 HT_ ?_
  refine tk_ 1 (some 6) bl2 HT_ HW_ hHeld ?_
  refine on_ 2 (some 7) bl3 HT_ (fun K hK=>?_);refine gs_ Try.func26 #[.int .i64 a0_0,.int .i64 1,.int .i64 8] ?_
  with_reducible refine (spec_l1In.calls a0_0 1 8 false _ A4.out).mono ?_
  rintro e w' ⟨rfl,⟨nd,rfl⟩⟩;refine ⟨_,rfl,?_⟩;refine hK.out _ _ ⟨b1 aa 0,b1 aa 1,b1 aa 2,b1 aa 3,b1 aa 4⟩ (fun hHeld=>?_);clear hK K;refine nr_ (some 7) ?_
  refine pv_ 3 (some 8) bl4 HT_ ?_
  refine pv_ 4 (some 9) bl5 HT_ ?_
  refine pn_ 5 (some 10) bl6 HT_ ?_
  refine pn_ 6 (some 11) bl7 HT_ ?_
  refine pn_ 7 (some 12) bl8 HT_ ?_
  refine pn_ 8 (some 13) bl9 HT_ ?_
  refine pv_ 9 (some 14) bl10 HT_ ?_
  refine pv_ 10 (some 15) bl11 HT_ ?_
  refine pn_ 11 (some 16) bl12 HT_ ?_
  refine pn_ 12 (some 17) bl33 HT_ ?_
  refine pn_ 13 (some 18) bl14 HT_ ?_
  refine pn_ 14 (some 19) bl15 HT_ ?_
  refine pn_ 15 (some 20) bl16 HT_ ?_
  refine pn_ 16 (some 21) bl17 HT_ ?_
  refine pn_ 17 (some 22) bl18 HT_ ?_
  refine pn_ 18 (some 23) bl19 HT_ ?_
  refine pv_ 19 (some 24) bl20 HT_ ?_
  refine pv_ 20 (some 25) bl21 HT_ ?_
  refine pn_ 21 (some 26) bl22 HT_ ?_
  refine pn_ 22 (some 27) bl23 HT_ ?_
  refine pn_ 23 (some 28) bl24 HT_ ?_
  refine pn_ 24 (some 29) bl25 HT_ ?_
  refine pv_ 25 (some 30) bl26 HT_ ?_
  refine pv_ 26 (some 31) bl27 HT_ ?_
  refine pn_ 27 (some 32) bl28 HT_ ?_
  refine pn_ 28 (some 33) bl29 HT_ ?_
  refine pn_ 29 (some 34) bl30 HT_ ?_
  refine pn_ 30 (some 35) bl31 HT_ ?_
  refine pv_ 31 (some 36) bl32 HT_ ?_
  refine done_ (done_of HT_.out (by kernel_rfl)) ?_
  try go_wp2
  go_meet
  case rel=>exact ⟨_,(true),vv,H',⟨by first|omega|exact Nat.le_refl _⟩,⟨zB aa.out⟩,⟨zS HB.out⟩⟩
 case rest=>
  clear HC2;try clear c2
  try clear p2
  try clear c5
  try clear p6
  try clear c7
  try clear c8
  obtain ⟨kq,aG,rfl,HA,HJ1,aa,HB⟩:=hcut
  cases kq with
  | zero=>exact absurd HA.out (by simp[spec_GenOk.j0])
  | succ kj1=>
   have H:=HA.out;clear HA;simp only[spec_GenOk.j0]at H;by_cases aL:aG=true
   ·subst aL;have H1:(some false)=some r:=by rw[if_pos rfl]at H;exact H
    clear H;have H:=H1;clear H1;obtain rfl:=Option.some.inj H;go_wp2;go_ret;exact ⟨vw,zS HB.out⟩
   replace aL:=Bool.eq_false_iff.mpr aL;subst aL;have H1:(spec_GenOk.l0 kj1 0 a0_0 a0_1 a0_2 a0_3 l0_4)=some r:=by rw[if_neg (show ¬ (false=true) by decide)]at H;exact H
   clear H;have H:=H1;clear H1;have H':=Aside0.mk H;clear H;go_wp2;go_loopg [3] kj1 (fun kq v3 w'=>∃ (x3_2:Int),v3=.int .i64 x3_2∧Aside0 (spec_GenOk.l0 kq x3_2 a0_0 a0_1 a0_2 a0_3 l0_4=some r)∧Aside0 (kq≤kj1)∧Aside0 (w'.heap[ad]?=some (.cells #[.int .i64 a0_0,.int .i64 a0_1,.int .i64 a0_2,.int .i64 a0_3,(.slice A0_4 l0_4.length c0_4)] 28 (0,0)))∧Aside0 (Below w.heap.size w w'))
   case atStart=>exact ⟨(0),vv,H',⟨Nat.le_refl _⟩,⟨zB aa.out⟩,⟨zS HB.out⟩⟩
   case round=>
    clear H';try clear c1
    try clear c2
    try clear p2
    try clear c5
    try clear p6
    try clear c7
    try clear c8
    try clear aL
    try clear p2
    try clear p6
    obtain ⟨x3_2,rfl,HA,HK2,aa,HB⟩:=hrel
    cases gk with
    | zero=>exact absurd HA.out (by simp[spec_GenOk.l0])
    | succ k2=>
     have H:=HA.out;clear HA;simp only[spec_GenOk.l0]at H;by_cases aI:x3_2<(l0_4.length:Int)
     ·rw[if_pos aI]at H;have bo:decide (x3_2<(l0_4.length:Int))=true:=decide_eq_true aI;clear aI;by_cases aQ:0≤x3_2
      ·rw[if_pos aQ]at H;have eq:decide (0≤x3_2)=true:=decide_eq_true aQ;clear aQ;replace H:=bI H;obtain ⟨bi,bj,H⟩:=H;replace H:(if bi=true then ((spec_l4State.f ((rd_T43 l0_4 x3_2).f2) a0_1).bind fun aE=>(if aE=true then ((spec_l1In.f ((rd_T43 l0_4 x3_2).f1) 0 (wrap64 (a0_0 - 1))).bind fun ay=>(if ay=true then (if 0≤a0_3 then ((spec_SetIn.f ((rd_T43 l0_4 x3_2).f3) (wrap64 ((shl .i64 1 a0_3) - 1))).bind fun av=>(if av=true then (if x3_2>0 then (if 0≤(wrap64 (x3_2 - 1)) then (if (wrap64 (x3_2 - 1))<(l0_4.length:Int) then ((spec_l5Less.f ((rd_T43 l0_4 (wrap64 (x3_2 - 1))).f0) ((rd_T43 l0_4 (wrap64 (x3_2 - 1))).f1) ((rd_T43 l0_4 (wrap64 (x3_2 - 1))).f2) ((rd_T43 l0_4 (wrap64 (x3_2 - 1))).f3) ((rd_T43 l0_4 x3_2).f0) ((rd_T43 l0_4 x3_2).f1) ((rd_T43 l0_4 x3_2).f2) ((rd_T43 l0_4 x3_2).f3)).bind fun ak=>(if ak=true then (spec_GenOk.l0 k2 (wrap64 (x3_2+1)) a0_0 a0_1 a0_2 a0_3 l0_4) else (some false))) else (none)) else (none)) else (spec_GenOk.l0 k2 (wrap64 (x3_2+1)) a0_0 a0_1 a0_2 a0_3 l0_4)) else (some false))) else (none)) else (some false))) else (some false))) else (some false))=some r:=H;have aD:=Aside0.mk bj;clear bj;by_cases aR:bi=true
       ·subst aR;have H1:((spec_l4State.f ((rd_T43 l0_4 x3_2).f2) a0_1).bind fun aE=>(if aE=true then ((spec_l1In.f ((rd_T43 l0_4 x3_2).f1) 0 (wrap64 (a0_0 - 1))).bind fun ay=>(if ay=true then (if 0≤a0_3 then ((spec_SetIn.f ((rd_T43 l0_4 x3_2).f3) (wrap64 ((shl .i64 1 a0_3) - 1))).bind fun av=>(if av=true then (if x3_2>0 then (if 0≤(wrap64 (x3_2 - 1)) then (if (wrap64 (x3_2 - 1))<(l0_4.length:Int) then ((spec_l5Less.f ((rd_T43 l0_4 (wrap64 (x3_2 - 1))).f0) ((rd_T43 l0_4 (wrap64 (x3_2 - 1))).f1) ((rd_T43 l0_4 (wrap64 (x3_2 - 1))).f2) ((rd_T43 l0_4 (wrap64 (x3_2 - 1))).f3) ((rd_T43 l0_4 x3_2).f0) ((rd_T43 l0_4 x3_2).f1) ((rd_T43 l0_4 x3_2).f2) ((rd_T43 l0_4 x3_2).f3)).bind fun ak=>(if ak=true then (spec_GenOk.l0 k2 (wrap64 (x3_2+1)) a0_0 a0_1 a0_2 a0_3 l0_4) else (some false))) else (none)) else (none)) else (spec_GenOk.l0 k2 (wrap64 (x3_2+1)) a0_0 a0_1 a0_2 a0_3 l0_4)) else (some false))) else (none)) else (some false))) else (some false)))=some r:=by rw[if_pos rfl]at H;exact H
        clear H;have H:=H1;clear H1;replace H:=bI H;obtain ⟨aE,bk,H⟩:=H;replace H:(if aE=true then ((spec_l1In.f ((rd_T43 l0_4 x3_2).f1) 0 (wrap64 (a0_0 - 1))).bind fun ay=>(if ay=true then (if 0≤a0_3 then ((spec_SetIn.f ((rd_T43 l0_4 x3_2).f3) (wrap64 ((shl .i64 1 a0_3) - 1))).bind fun av=>(if av=true then (if x3_2>0 then (if 0≤(wrap64 (x3_2 - 1)) then (if (wrap64 (x3_2 - 1))<(l0_4.length:Int) then ((spec_l5Less.f ((rd_T43 l0_4 (wrap64 (x3_2 - 1))).f0) ((rd_T43 l0_4 (wrap64 (x3_2 - 1))).f1) ((rd_T43 l0_4 (wrap64 (x3_2 - 1))).f2) ((rd_T43 l0_4 (wrap64 (x3_2 - 1))).f3) ((rd_T43 l0_4 x3_2).f0) ((rd_T43 l0_4 x3_2).f1) ((rd_T43 l0_4 x3_2).f2) ((rd_T43 l0_4 x3_2).f3)).bind fun ak=>(if ak=true then (spec_GenOk.l0 k2 (wrap64 (x3_2+1)) a0_0 a0_1 a0_2 a0_3 l0_4) else (some false))) else (none)) else (none)) else (spec_GenOk.l0 k2 (wrap64 (x3_2+1)) a0_0 a0_1 a0_2 a0_3 l0_4)) else (some false))) else (none)) else (some false))) else (some false))=some r:=H;have aF:=Aside0.mk bk;clear bk;by_cases aS:aE=true
        ·subst aS;have H1:((spec_l1In.f ((rd_T43 l0_4 x3_2).f1) 0 (wrap64 (a0_0 - 1))).bind fun ay=>(if ay=true then (if 0≤a0_3 then ((spec_SetIn.f ((rd_T43 l0_4 x3_2).f3) (wrap64 ((shl .i64 1 a0_3) - 1))).bind fun av=>(if av=true then (if x3_2>0 then (if 0≤(wrap64 (x3_2 - 1)) then (if (wrap64 (x3_2 - 1))<(l0_4.length:Int) then ((spec_l5Less.f ((rd_T43 l0_4 (wrap64 (x3_2 - 1))).f0) ((rd_T43 l0_4 (wrap64 (x3_2 - 1))).f1) ((rd_T43 l0_4 (wrap64 (x3_2 - 1))).f2) ((rd_T43 l0_4 (wrap64 (x3_2 - 1))).f3) ((rd_T43 l0_4 x3_2).f0) ((rd_T43 l0_4 x3_2).f1) ((rd_T43 l0_4 x3_2).f2) ((rd_T43 l0_4 x3_2).f3)).bind fun ak=>(if ak=true then (spec_GenOk.l0 k2 (wrap64 (x3_2+1)) a0_0 a0_1 a0_2 a0_3 l0_4) else (some false))) else (none)) else (none)) else (spec_GenOk.l0 k2 (wrap64 (x3_2+1)) a0_0 a0_1 a0_2 a0_3 l0_4)) else (some false))) else (none)) else (some false)))=some r:=by rw[if_pos rfl]at H;exact H
         clear H;have H:=H1;clear H1;replace H:=bI H;obtain ⟨ay,bl,H⟩:=H;replace H:(if ay=true then (if 0≤a0_3 then ((spec_SetIn.f ((rd_T43 l0_4 x3_2).f3) (wrap64 ((shl .i64 1 a0_3) - 1))).bind fun av=>(if av=true then (if x3_2>0 then (if 0≤(wrap64 (x3_2 - 1)) then (if (wrap64 (x3_2 - 1))<(l0_4.length:Int) then ((spec_l5Less.f ((rd_T43 l0_4 (wrap64 (x3_2 - 1))).f0) ((rd_T43 l0_4 (wrap64 (x3_2 - 1))).f1) ((rd_T43 l0_4 (wrap64 (x3_2 - 1))).f2) ((rd_T43 l0_4 (wrap64 (x3_2 - 1))).f3) ((rd_T43 l0_4 x3_2).f0) ((rd_T43 l0_4 x3_2).f1) ((rd_T43 l0_4 x3_2).f2) ((rd_T43 l0_4 x3_2).f3)).bind fun ak=>(if ak=true then (spec_GenOk.l0 k2 (wrap64 (x3_2+1)) a0_0 a0_1 a0_2 a0_3 l0_4) else (some false))) else (none)) else (none)) else (spec_GenOk.l0 k2 (wrap64 (x3_2+1)) a0_0 a0_1 a0_2 a0_3 l0_4)) else (some false))) else (none)) else (some false))=some r:=H;have aH:=Aside0.mk bl;clear bl;by_cases aT:ay=true
         ·subst aT;have H1:(if 0≤a0_3 then ((spec_SetIn.f ((rd_T43 l0_4 x3_2).f3) (wrap64 ((shl .i64 1 a0_3) - 1))).bind fun av=>(if av=true then (if x3_2>0 then (if 0≤(wrap64 (x3_2 - 1)) then (if (wrap64 (x3_2 - 1))<(l0_4.length:Int) then ((spec_l5Less.f ((rd_T43 l0_4 (wrap64 (x3_2 - 1))).f0) ((rd_T43 l0_4 (wrap64 (x3_2 - 1))).f1) ((rd_T43 l0_4 (wrap64 (x3_2 - 1))).f2) ((rd_T43 l0_4 (wrap64 (x3_2 - 1))).f3) ((rd_T43 l0_4 x3_2).f0) ((rd_T43 l0_4 x3_2).f1) ((rd_T43 l0_4 x3_2).f2) ((rd_T43 l0_4 x3_2).f3)).bind fun ak=>(if ak=true then (spec_GenOk.l0 k2 (wrap64 (x3_2+1)) a0_0 a0_1 a0_2 a0_3 l0_4) else (some false))) else (none)) else (none)) else (spec_GenOk.l0 k2 (wrap64 (x3_2+1)) a0_0 a0_1 a0_2 a0_3 l0_4)) else (some false))) else (none))=some r:=by rw[if_pos rfl]at H;exact H
          clear H;have H:=H1;clear H1;by_cases aM:0≤a0_3
          ·rw[if_pos aM]at H;have er:=eq_true aM;have es:decide (0≤a0_3)=true:=decide_eq_true aM;clear aM;obtain ⟨ji29,hji29⟩:∃ j_:Int,(shl .i64 1 a0_3)=j_:=⟨_,rfl⟩;replace H:((spec_SetIn.f ((rd_T43 l0_4 x3_2).f3) (wrap64 ((ji29) - 1))).bind fun av=>(if av=true then (if x3_2>0 then (if 0≤(wrap64 (x3_2 - 1)) then (if (wrap64 (x3_2 - 1))<(l0_4.length:Int) then ((spec_l5Less.f ((rd_T43 l0_4 (wrap64 (x3_2 - 1))).f0) ((rd_T43 l0_4 (wrap64 (x3_2 - 1))).f1) ((rd_T43 l0_4 (wrap64 (x3_2 - 1))).f2) ((rd_T43 l0_4 (wrap64 (x3_2 - 1))).f3) ((rd_T43 l0_4 x3_2).f0) ((rd_T43 l0_4 x3_2).f1) ((rd_T43 l0_4 x3_2).f2) ((rd_T43 l0_4 x3_2).f3)).bind fun ak=>(if ak=true then (spec_GenOk.l0 k2 (wrap64 (x3_2+1)) a0_0 a0_1 a0_2 a0_3 l0_4) else (some false))) else (none)) else (none)) else (spec_GenOk.l0 k2 (wrap64 (x3_2+1)) a0_0 a0_1 a0_2 a0_3 l0_4)) else (some false)))=some r:=by first|(rw[hji29]at H;exact H)|(simp only[hji29]at H ⊢;exact H)
           (try rw[hji29]at aD);(try rw[hji29]at aF);(try rw[hji29]at aH);have hji29_:(IntKind.i64.wrap (1 * 2 ^ min a0_3.toNat 64))=ji29:=hji29;have hji29z:a0_3≤64→(IntKind.i64.wrap (1 * 2 ^ a0_3.toNat))=ji29:=shl_small hji29;have hji29u:(IntKind.i64.wrap (2 ^ min a0_3.toNat 64))=ji29:=by have h_:=hji29_;rw[Int.one_mul]at h_;exact h_
           have hji29v:a0_3≤64→(IntKind.i64.wrap (2 ^ a0_3.toNat))=ji29:=fun hle_=>by have h_:=hji29z hle_;rw[Int.one_mul]at h_;exact h_
           have hji29y:(wrap64 (1 * 2 ^ min a0_3.toNat 64))=ji29:=(i64_w _).symm.trans hji29_;have hji29x:a0_3≤64→(wrap64 (1 * 2 ^ a0_3.toNat))=ji29:=fun h_=>(i64_w _).symm.trans (hji29z h_);replace H:=bI H;obtain ⟨av,bm,H⟩:=H;replace H:(if av=true then (if x3_2>0 then (if 0≤(wrap64 (x3_2 - 1)) then (if (wrap64 (x3_2 - 1))<(l0_4.length:Int) then ((spec_l5Less.f ((rd_T43 l0_4 (wrap64 (x3_2 - 1))).f0) ((rd_T43 l0_4 (wrap64 (x3_2 - 1))).f1) ((rd_T43 l0_4 (wrap64 (x3_2 - 1))).f2) ((rd_T43 l0_4 (wrap64 (x3_2 - 1))).f3) ((rd_T43 l0_4 x3_2).f0) ((rd_T43 l0_4 x3_2).f1) ((rd_T43 l0_4 x3_2).f2) ((rd_T43 l0_4 x3_2).f3)).bind fun ak=>(if ak=true then (spec_GenOk.l0 k2 (wrap64 (x3_2+1)) a0_0 a0_1 a0_2 a0_3 l0_4) else (some false))) else (none)) else (none)) else (spec_GenOk.l0 k2 (wrap64 (x3_2+1)) a0_0 a0_1 a0_2 a0_3 l0_4)) else (some false))=some r:=H;have aN:=Aside0.mk bm;clear bm
           by_cases aU:av=true
           ·subst aU;have H1:(if x3_2>0 then (if 0≤(wrap64 (x3_2 - 1)) then (if (wrap64 (x3_2 - 1))<(l0_4.length:Int) then ((spec_l5Less.f ((rd_T43 l0_4 (wrap64 (x3_2 - 1))).f0) ((rd_T43 l0_4 (wrap64 (x3_2 - 1))).f1) ((rd_T43 l0_4 (wrap64 (x3_2 - 1))).f2) ((rd_T43 l0_4 (wrap64 (x3_2 - 1))).f3) ((rd_T43 l0_4 x3_2).f0) ((rd_T43 l0_4 x3_2).f1) ((rd_T43 l0_4 x3_2).f2) ((rd_T43 l0_4 x3_2).f3)).bind fun ak=>(if ak=true then (spec_GenOk.l0 k2 (wrap64 (x3_2+1)) a0_0 a0_1 a0_2 a0_3 l0_4) else (some false))) else (none)) else (none)) else (spec_GenOk.l0 k2 (wrap64 (x3_2+1)) a0_0 a0_1 a0_2 a0_3 l0_4))=some r:=by rw[if_pos rfl]at H;exact H
            clear H;have H:=H1;clear H1;by_cases aJ:x3_2>0
            ·rw[if_pos aJ]at H;have bp:decide (0<x3_2)=true:=decide_eq_true aJ;clear aJ;obtain ⟨ji33,hji33⟩:∃ j_:Int,(wrap64 (x3_2 - 1))=j_:=⟨_,rfl⟩;replace H:(if 0≤(ji33) then (if (ji33)<(l0_4.length:Int) then ((spec_l5Less.f ((rd_T43 l0_4 (ji33)).f0) ((rd_T43 l0_4 (ji33)).f1) ((rd_T43 l0_4 (ji33)).f2) ((rd_T43 l0_4 (ji33)).f3) ((rd_T43 l0_4 x3_2).f0) ((rd_T43 l0_4 x3_2).f1) ((rd_T43 l0_4 x3_2).f2) ((rd_T43 l0_4 x3_2).f3)).bind fun ak=>(if ak=true then (spec_GenOk.l0 k2 (wrap64 (x3_2+1)) a0_0 a0_1 a0_2 a0_3 l0_4) else (some false))) else (none)) else (none))=some r:=by first|(rw[hji33]at H;exact H)|(simp only[hji33]at H ⊢;exact H)
             (try rw[hji33]at aD);(try rw[hji33]at aF);(try rw[hji33]at aH);(try rw[hji33]at aN);have hji33w:(IntKind.i64.wrap (x3_2 - 1))=ji33:=(i64_w _).trans hji33;by_cases aV:0≤(ji33)
             ·rw[if_pos aV]at H;have et:decide (0≤(ji33))=true:=decide_eq_true aV;clear aV;by_cases aW:(ji33)<(l0_4.length:Int)
              ·rw[if_pos aW]at H;have eu:decide ((ji33)<(l0_4.length:Int))=true:=decide_eq_true aW;clear aW;replace H:=bI H;obtain ⟨ak,bn,H⟩:=H;replace H:(if ak=true then (spec_GenOk.l0 k2 (wrap64 (x3_2+1)) a0_0 a0_1 a0_2 a0_3 l0_4) else (some false))=some r:=H;have bt:=Aside0.mk bn;clear bn;by_cases aX:ak=true
               ·subst aX;have H1:(spec_GenOk.l0 k2 (wrap64 (x3_2+1)) a0_0 a0_1 a0_2 a0_3 l0_4)=some r:=by rw[if_pos rfl]at H;exact H
                clear H;have H:=H1;clear H1;have H':=Aside0.mk H;clear H;obtain ⟨bu,bv,bw,bx,bz,bA,bB,bC,bD,bE⟩:=cz5 aa;have aj:0≤(x3_2:Int):=oD;have q117:x3_2<(l0_4.length:Int):=oD;obtain ⟨ad117,e117,ae,af,ag,ah⟩:=at_T43 HR0_4.out x3_2 aj q117
                cases e117
                replace ae:=ct_ HB ae;replace af:=ct_ HB af;replace ag:=ct_ HB ag;replace ah:=ct_ HB ah;replace aj:=eq_true aj;replace q117:=eq_true q117;try go_wp2_with (first|((with_reducible refine gate_dst (N:=4) rfl ?_);(try (refine gate_guard (by rfl) ?_;dsimp only));refine bx_ 4 #[.int .i64 0,.int .i64 0,.int .i64 0,.int .i64 0] 43 ?_;intro ac hg aY hbox hb;have ab:=Aside0.mk (hbox);have aA:=xG HB hg;have aB:=xG HB hg;replace HB:=xS HB hb;have aw:=xN aa hg;have ai:=xM aa hg;replace aa:=xB aa hb;clear hb hbox hg;obtain ⟨ev,ew⟩:=nn ai;obtain ⟨bF,bG,bH,bJ,bK,bL,bM,bN⟩:=cz4 ab))
                have al:Aside0 (((((aY.setCell ⟨ac,0,none⟩ (.int .i64 ((rd_T43 l0_4 x3_2).f0))).setCell ⟨ac,1,none⟩ (.int .i64 ((rd_T43 l0_4 x3_2).f1))).setCell ⟨ac,2,none⟩ (.int .i64 ((rd_T43 l0_4 x3_2).f2))).setCell ⟨ac,3,none⟩ (.int .i64 ((rd_T43 l0_4 x3_2).f3))).heap[ad]?=some (.cells #[.int .i64 a0_0,.int .i64 a0_1,.int .i64 a0_2,.int .i64 a0_3,.slice (some ad117) l0_4.length c0_4] 28 (0,0))):=⟨zB aa.out⟩;have am:Aside0 (((((aY.setCell ⟨ac,0,none⟩ (.int .i64 ((rd_T43 l0_4 x3_2).f0))).setCell ⟨ac,1,none⟩ (.int .i64 ((rd_T43 l0_4 x3_2).f1))).setCell ⟨ac,2,none⟩ (.int .i64 ((rd_T43 l0_4 x3_2).f2))).setCell ⟨ac,3,none⟩ (.int .i64 ((rd_T43 l0_4 x3_2).f3))).heap[ac]?=some (.cells #[.int .i64 ((rd_T43 l0_4 x3_2).f0),.int .i64 ((rd_T43 l0_4 x3_2).f1),.int .i64 ((rd_T43 l0_4 x3_2).f2),.int .i64 ((rd_T43 l0_4 x3_2).f3)] 43 (0,0))):=⟨by (with_reducible repeat (first|refine blk_drewN ?_ _|refine blk_drew ?_|refine blk_alloc ?_ _));refine blk_put (cs:=#[.int .i64 ((rd_T43 l0_4 x3_2).f0),.int .i64 ((rd_T43 l0_4 x3_2).f1),.int .i64 ((rd_T43 l0_4 x3_2).f2),.int .i64 0]) ?_ 3 _ rfl;(with_reducible repeat (first|refine blk_drewN ?_ _|refine blk_drew ?_|refine blk_alloc ?_ _));refine blk_put (cs:=#[.int .i64 ((rd_T43 l0_4 x3_2).f0),.int .i64 ((rd_T43 l0_4 x3_2).f1),.int .i64 0,.int .i64 0]) ?_ 2 _ rfl;(with_reducible repeat (first|refine blk_drewN ?_ _|refine blk_drew ?_|refine blk_alloc ?_ _));refine blk_put (cs:=#[.int .i64 ((rd_T43 l0_4 x3_2).f0),.int .i64 0,.int .i64 0,.int .i64 0]) ?_ 1 _ rfl;(with_reducible repeat (first|refine blk_drewN ?_ _|refine blk_drew ?_|refine blk_alloc ?_ _));refine blk_put (cs:=#[.int .i64 0,.int .i64 0,.int .i64 0,.int .i64 0]) ?_ 0 _ rfl;(with_reducible repeat (first|refine blk_drewN ?_ _|refine blk_drew ?_|refine blk_alloc ?_ _));exact ab.out⟩;have an:Aside0 (Below w.heap.size w ((((aY.setCell ⟨ac,0,none⟩ (.int .i64 ((rd_T43 l0_4 x3_2).f0))).setCell ⟨ac,1,none⟩ (.int .i64 ((rd_T43 l0_4 x3_2).f1))).setCell ⟨ac,2,none⟩ (.int .i64 ((rd_T43 l0_4 x3_2).f2))).setCell ⟨ac,3,none⟩ (.int .i64 ((rd_T43 l0_4 x3_2).f3)))):=⟨zS HB.out⟩;(try clear aa);(try clear ab);(try clear HB);generalize ((((aY.setCell ⟨ac,0,none⟩ (.int .i64 ((rd_T43 l0_4 x3_2).f0))).setCell ⟨ac,1,none⟩ (.int .i64 ((rd_T43 l0_4 x3_2).f1))).setCell ⟨ac,2,none⟩ (.int .i64 ((rd_T43 l0_4 x3_2).f2))).setCell ⟨ac,3,none⟩ (.int .i64 ((rd_T43 l0_4 x3_2).f3)))=eh at al am an ⊢;have aa:=al;have ab:=am;have HB:=an;clear al am an;replace aa:=Aside0.mk (blk_drew aa.out);replace ab:=Aside0.mk (blk_drew ab.out);replace HB:=Aside0.mk (below_drew1 HB.out);have aC:0≤((ji33):Int):=oD;have q123:(ji33)<(l0_4.length:Int):=oD;obtain ⟨ad123,e123,ap,aq,ar,au⟩:=at_T43 HR0_4.out (ji33) aC q123;have hw123_3:=au;have hw123_2:=ar;have hw123_1:=aq;have hw123_0:=ap;obtain rfl:ad117=ad123:=(by injection e123);replace ap:=ct_ HB ap;replace aq:=ct_ HB aq;replace ar:=ct_ HB ar;replace au:=ct_ HB au;replace aC:=eq_true aC;replace q123:=eq_true q123;refine start_ (n:=48) (S:=fun w'=>w'.cell? ⟨ac,0,none⟩=some (.int .i64 ((rd_T43 l0_4 x3_2).f0))∧w'.cell? ⟨ac,1,none⟩=some (.int .i64 ((rd_T43 l0_4 x3_2).f1))∧w'.cell? ⟨ac,2,none⟩=some (.int .i64 ((rd_T43 l0_4 x3_2).f2))∧w'.cell? ⟨ac,3,none⟩=some (.int .i64 ((rd_T43 l0_4 x3_2).f3))∧w'.cell? ⟨ad,0,none⟩=some (.int .i64 a0_0)∧w'.cell? ⟨ad,1,none⟩=some (.int .i64 a0_1)∧w'.cell? ⟨ad,2,none⟩=some (.int .i64 a0_2)∧w'.cell? ⟨ad,3,none⟩=some (.int .i64 a0_3)∧w'.cell? ⟨ad,4,none⟩=some (.slice (some ad117) l0_4.length c0_4)∧w'.cell? (ad117.add (((ji33)).toNat * 4))=some (.int .i64 ((rd_T43 l0_4 (ji33)).f0))∧w'.cell? ⟨(ad117.add (((ji33)).toNat * 4)).block,(ad117.add (((ji33)).toNat * 4)).off+1,none⟩=some (.int .i64 ((rd_T43 l0_4 (ji33)).f1))∧w'.cell? ⟨(ad117.add (((ji33)).toNat * 4)).block,(ad117.add (((ji33)).toNat * 4)).off+2,none⟩=some (.int .i64 ((rd_T43 l0_4 (ji33)).f2))∧w'.cell? ⟨(ad117.add (((ji33)).toNat * 4)).block,(ad117.add (((ji33)).toNat * 4)).off+3,none⟩=some (.int .i64 ((rd_T43 l0_4 (ji33)).f3))) (ds:=[]) bl34 (by kernel_rfl) rfl rfl ⟨b1 ab 0,b1 ab 1,b1 ab 2,b1 ab 3,b1 aa 0,b1 aa 1,b1 aa 2,b1 aa 3,b1 aa 4,(ct_ HB hw123_0),(ct_ HB hw123_1),(ct_ HB hw123_2),(ct_ HB hw123_3)⟩ (fun hHeld=>?_)
                refine with_tabW spec_GenOk.tab7 spec_GenOk.bits7 (fun HT_ HW_=>?_);generalize eh.drew=eQ at aa ab HB ap aq ar au hHeld ⊢;refine pv_ 0 (some 49) bl35 HT_ ?_
                refine pv_ 2 (some 51) bl36 HT_ ?_
                refine tk_ 1 (some 50) bl37 HT_ HW_ hHeld ?_
                refine tk_ 3 (some 52) bl38 HT_ HW_ hHeld ?_
                refine on_ 4 (some 53) bl39 HT_ (fun K hK=>?_);refine gs_ Try.func28 #[.int .i64 ((rd_T43 l0_4 x3_2).f0),.int .i64 a0_1] ?_
                with_reducible refine (spec_l4State.calls ((rd_T43 l0_4 x3_2).f0) a0_1 true _ aD.out).mono ?_
                rintro e w' ⟨rfl,⟨nd,rfl⟩⟩;refine ⟨_,rfl,?_⟩;refine hK.out _ _ ⟨b1 ab 0,b1 ab 1,b1 ab 2,b1 ab 3,b1 aa 0,b1 aa 1,b1 aa 2,b1 aa 3,b1 aa 4,(ct_ HB hw123_0),(ct_ HB hw123_1),(ct_ HB hw123_2),(ct_ HB hw123_3)⟩ (fun hHeld=>?_);clear hK K;refine nr_ (some 53) ?_
                refine pv_ 5 (some 54) bl40 HT_ ?_
                refine pv_ 6 (some 55) bl41 HT_ ?_
                refine pv_ 7 (some 56) bl42 HT_ ?_
                refine pv_ 9 (some 58) bl43 HT_ ?_
                refine tk_ 8 (some 57) bl44 HT_ HW_ hHeld ?_
                refine tk_ 10 (some 59) bl45 HT_ HW_ hHeld ?_
                refine on_ 11 (some 60) bl46 HT_ (fun K hK=>?_);refine gs_ Try.func28 #[.int .i64 ((rd_T43 l0_4 x3_2).f2),.int .i64 a0_1] ?_
                with_reducible refine (spec_l4State.calls ((rd_T43 l0_4 x3_2).f2) a0_1 true _ aF.out).mono ?_
                rintro e w' ⟨rfl,⟨nd,rfl⟩⟩;refine ⟨_,rfl,?_⟩;refine hK.out _ _ ⟨b1 ab 0,b1 ab 1,b1 ab 2,b1 ab 3,b1 aa 0,b1 aa 1,b1 aa 2,b1 aa 3,b1 aa 4,(ct_ HB hw123_0),(ct_ HB hw123_1),(ct_ HB hw123_2),(ct_ HB hw123_3)⟩ (fun hHeld=>?_);clear hK K;refine nr_ (some 60) ?_
                refine pv_ 12 (some 61) bl47 HT_ ?_
                refine pv_ 13 (some 62) bl48 HT_ ?_
                refine pv_ 14 (some 63) bl49 HT_ ?_
                refine pv_ 15 (some 64) bl50 HT_ ?_
                refine pv_ 17 (some 66) bl51 HT_ ?_
                refine tk_ 16 (some 65) bl52 HT_ HW_ hHeld ?_
                refine tk_ 18 (some 67) bl53 HT_ HW_ hHeld ?_
                refine pv_ 19 (some 68) bl54 HT_ ?_
                refine on_ 20 (some 69) bl55 HT_ (fun K hK=>?_);refine gs_ Try.func26 #[.int .i64 ((rd_T43 l0_4 x3_2).f1),.int .i64 0,.int .i64 (wrap64 (a0_0 - 1))] ?_
                with_reducible refine (spec_l1In.calls ((rd_T43 l0_4 x3_2).f1) 0 (wrap64 (a0_0 - 1)) true _ aH.out).mono ?_
                rintro e w' ⟨rfl,⟨nd,rfl⟩⟩;refine ⟨_,rfl,?_⟩;refine hK.out _ _ ⟨b1 ab 0,b1 ab 1,b1 ab 2,b1 ab 3,b1 aa 0,b1 aa 1,b1 aa 2,b1 aa 3,b1 aa 4,(ct_ HB hw123_0),(ct_ HB hw123_1),(ct_ HB hw123_2),(ct_ HB hw123_3)⟩ (fun hHeld=>?_);clear hK K;refine nr_ (some 69) ?_
                refine pv_ 21 (some 70) bl56 HT_ ?_
                refine pv_ 22 (some 71) bl57 HT_ ?_
                refine pv_ 23 (some 72) bl58 HT_ ?_
                refine pv_ 24 (some 73) bl59 HT_ ?_
                refine pv_ 26 (some 75) bl60 HT_ ?_
                refine tk_ 25 (some 74) bl61 HT_ HW_ hHeld ?_
                refine tk_ 27 (some 76) bl62 HT_ HW_ hHeld ?_
                refine pv_ 28 (some 77) bl63 HT_ ?_
                refine pv_ 29 (some 78) bl64 HT_ ?_
                refine on_ 30 (some 79) bl65 HT_ (fun K hK=>?_);refine goes_ Try.func27 (by kernel_rfl) rfl #[.int .i64 ((rd_T43 l0_4 x3_2).f3),.int .i64 (wrap64 ((ji29) - 1))] (by rfl) rfl rfl (by (try simp only[m3]);first|done|(simp only[hji29];rfl)|rfl|(simp only[d2];rfl)) ?_
                with_reducible refine (spec_SetIn.calls ((rd_T43 l0_4 x3_2).f3) (wrap64 ((ji29) - 1)) true _ aN.out).mono ?_
                rintro e w' ⟨rfl,⟨nd,rfl⟩⟩;refine ⟨_,rfl,?_⟩;refine hK.out _ _ ⟨b1 ab 0,b1 ab 1,b1 ab 2,b1 ab 3,b1 aa 0,b1 aa 1,b1 aa 2,b1 aa 3,b1 aa 4,(ct_ HB hw123_0),(ct_ HB hw123_1),(ct_ HB hw123_2),(ct_ HB hw123_3)⟩ (fun hHeld=>?_);clear hK K;refine nr_ (some 79) ?_
                refine pv_ 31 (some 80) bl66 HT_ ?_
                refine pv_ 32 (some 81) bl67 HT_ ?_
                refine pv_ 33 (some 82) bl68 HT_ ?_
                refine pv_ 34 (some 83) bl69 HT_ ?_
                refine pv_ 35 (some 84) bl70 HT_ ?_
                refine pv_ 36 (some 85) bl71 HT_ ?_
                refine pv_ 37 (some 86) bl72 HT_ ?_
                refine pv_ 39 (some 88) bl73 HT_ ?_
                refine pv_ 40 (some 89) bl74 HT_ ?_
                refine tk_ 38 (some 87) bl75 HT_ HW_ hHeld ?_
                refine pv_ 41 (some 90) bl76 HT_ ?_
                refine tk_ 42 (some 91) bl77 HT_ HW_ hHeld ?_
                refine tk_ 43 (some 92) bl78 HT_ HW_ hHeld ?_
                refine on_ 44 (some 93) bl79 HT_ (fun K hK=>?_);refine goes_ Try.func29 (by kernel_rfl) rfl #[.agg #[.int .i64 ((rd_T43 l0_4 (ji33)).f0),.int .i64 ((rd_T43 l0_4 (ji33)).f1),.int .i64 ((rd_T43 l0_4 (ji33)).f2),.int .i64 ((rd_T43 l0_4 (ji33)).f3)],.agg #[.int .i64 ((rd_T43 l0_4 x3_2).f0),.int .i64 ((rd_T43 l0_4 x3_2).f1),.int .i64 ((rd_T43 l0_4 x3_2).f2),.int .i64 ((rd_T43 l0_4 x3_2).f3)]] (by rfl) rfl rfl (by (try simp only[m3]);first|done|(simp only[hji33];rfl)|rfl|(simp only[d2];rfl)) ?_
                with_reducible refine (spec_l5Less.calls ((rd_T43 l0_4 (ji33)).f0) ((rd_T43 l0_4 (ji33)).f1) ((rd_T43 l0_4 (ji33)).f2) ((rd_T43 l0_4 (ji33)).f3) ((rd_T43 l0_4 x3_2).f0) ((rd_T43 l0_4 x3_2).f1) ((rd_T43 l0_4 x3_2).f2) ((rd_T43 l0_4 x3_2).f3) true _ bt.out).mono ?_
                rintro e eR ⟨rfl,hb⟩;refine ⟨_,rfl,?_⟩;replace aa:=xB aa hb;replace ab:=xB ab hb;replace HB:=xS HB hb;(try clear hb);(try clear hb2);(try clear hk);(try clear hi);refine hK.out _ _ ⟨b1 ab 0,b1 ab 1,b1 ab 2,b1 ab 3,b1 aa 0,b1 aa 1,b1 aa 2,b1 aa 3,b1 aa 4,(ct_ HB hw123_0),(ct_ HB hw123_1),(ct_ HB hw123_2),(ct_ HB hw123_3)⟩ (fun hHeld=>?_);clear hK K;refine nr_ (some 93) ?_
                refine pv_ 45 (some 94) bl80 HT_ ?_
                refine pv_ 46 (some 95) bl81 HT_ ?_
                refine pv_ 47 (some 96) bl82 HT_ ?_
                refine done_ (done_of HT_.out (by kernel_rfl)) ?_
                try go_wp2
                (first|go_roundg k2|((try simp only[← hji29]);(try simp only[← hji33]);go_roundg k2))
                case measure=>have:=HJ1.out;have:=HK2.out;omega
                case rel=>exact ⟨(wrap64 (x3_2+1)),vv,(by first|exact H' | (have h_:=H';(try simp only[← hji29]at h_);(try simp only[← hji29]);(try simp only[← hji33]at h_);(try simp only[← hji33]);exact h_)),⟨by have:=HJ1.out;have:=HK2.out;omega⟩,⟨zB aa.out⟩,⟨zS HB.out⟩⟩
               replace aX:=Bool.eq_false_iff.mpr aX;subst aX;have H1:(some false)=some r:=by rw[if_neg (show ¬ (false=true) by decide)]at H;exact H
               clear H;have H:=H1;clear H1;obtain rfl:=Option.some.inj H;obtain ⟨bO,bP,bQ,bR,bS,bT,bU,bV,bW,bX⟩:=cz5 aa;have aj:0≤(x3_2:Int):=oD;have q117:x3_2<(l0_4.length:Int):=oD;obtain ⟨ad117,e117,ae,af,ag,ah⟩:=at_T43 HR0_4.out x3_2 aj q117
               cases e117
               replace ae:=ct_ HB ae;replace af:=ct_ HB af;replace ag:=ct_ HB ag;replace ah:=ct_ HB ah;replace aj:=eq_true aj;replace q117:=eq_true q117;try go_wp2_with (first|((with_reducible refine gate_dst (N:=4) rfl ?_);(try (refine gate_guard (by rfl) ?_;dsimp only));refine bx_ 4 #[.int .i64 0,.int .i64 0,.int .i64 0,.int .i64 0] 43 ?_;intro ac hg aZ hbox hb;have ab:=Aside0.mk (hbox);have aA:=xG HB hg;have aB:=xG HB hg;replace HB:=xS HB hb;have aw:=xN aa hg;have ai:=xM aa hg;replace aa:=xB aa hb;clear hb hbox hg;obtain ⟨ex,ey⟩:=nn ai;obtain ⟨bY,bZ,ca,cb,cc,cd,ce,cf⟩:=cz4 ab))
               have al:Aside0 (((((aZ.setCell ⟨ac,0,none⟩ (.int .i64 ((rd_T43 l0_4 x3_2).f0))).setCell ⟨ac,1,none⟩ (.int .i64 ((rd_T43 l0_4 x3_2).f1))).setCell ⟨ac,2,none⟩ (.int .i64 ((rd_T43 l0_4 x3_2).f2))).setCell ⟨ac,3,none⟩ (.int .i64 ((rd_T43 l0_4 x3_2).f3))).heap[ad]?=some (.cells #[.int .i64 a0_0,.int .i64 a0_1,.int .i64 a0_2,.int .i64 a0_3,.slice (some ad117) l0_4.length c0_4] 28 (0,0))):=⟨zB aa.out⟩;have am:Aside0 (((((aZ.setCell ⟨ac,0,none⟩ (.int .i64 ((rd_T43 l0_4 x3_2).f0))).setCell ⟨ac,1,none⟩ (.int .i64 ((rd_T43 l0_4 x3_2).f1))).setCell ⟨ac,2,none⟩ (.int .i64 ((rd_T43 l0_4 x3_2).f2))).setCell ⟨ac,3,none⟩ (.int .i64 ((rd_T43 l0_4 x3_2).f3))).heap[ac]?=some (.cells #[.int .i64 ((rd_T43 l0_4 x3_2).f0),.int .i64 ((rd_T43 l0_4 x3_2).f1),.int .i64 ((rd_T43 l0_4 x3_2).f2),.int .i64 ((rd_T43 l0_4 x3_2).f3)] 43 (0,0))):=⟨by (with_reducible repeat (first|refine blk_drewN ?_ _|refine blk_drew ?_|refine blk_alloc ?_ _));refine blk_put (cs:=#[.int .i64 ((rd_T43 l0_4 x3_2).f0),.int .i64 ((rd_T43 l0_4 x3_2).f1),.int .i64 ((rd_T43 l0_4 x3_2).f2),.int .i64 0]) ?_ 3 _ rfl;(with_reducible repeat (first|refine blk_drewN ?_ _|refine blk_drew ?_|refine blk_alloc ?_ _));refine blk_put (cs:=#[.int .i64 ((rd_T43 l0_4 x3_2).f0),.int .i64 ((rd_T43 l0_4 x3_2).f1),.int .i64 0,.int .i64 0]) ?_ 2 _ rfl;(with_reducible repeat (first|refine blk_drewN ?_ _|refine blk_drew ?_|refine blk_alloc ?_ _));refine blk_put (cs:=#[.int .i64 ((rd_T43 l0_4 x3_2).f0),.int .i64 0,.int .i64 0,.int .i64 0]) ?_ 1 _ rfl;(with_reducible repeat (first|refine blk_drewN ?_ _|refine blk_drew ?_|refine blk_alloc ?_ _));refine blk_put (cs:=#[.int .i64 0,.int .i64 0,.int .i64 0,.int .i64 0]) ?_ 0 _ rfl;(with_reducible repeat (first|refine blk_drewN ?_ _|refine blk_drew ?_|refine blk_alloc ?_ _));exact ab.out⟩;have an:Aside0 (Below w.heap.size w ((((aZ.setCell ⟨ac,0,none⟩ (.int .i64 ((rd_T43 l0_4 x3_2).f0))).setCell ⟨ac,1,none⟩ (.int .i64 ((rd_T43 l0_4 x3_2).f1))).setCell ⟨ac,2,none⟩ (.int .i64 ((rd_T43 l0_4 x3_2).f2))).setCell ⟨ac,3,none⟩ (.int .i64 ((rd_T43 l0_4 x3_2).f3)))):=⟨zS HB.out⟩;(try clear aa);(try clear ab);(try clear HB);generalize ((((aZ.setCell ⟨ac,0,none⟩ (.int .i64 ((rd_T43 l0_4 x3_2).f0))).setCell ⟨ac,1,none⟩ (.int .i64 ((rd_T43 l0_4 x3_2).f1))).setCell ⟨ac,2,none⟩ (.int .i64 ((rd_T43 l0_4 x3_2).f2))).setCell ⟨ac,3,none⟩ (.int .i64 ((rd_T43 l0_4 x3_2).f3)))=ei at al am an ⊢;have aa:=al;have ab:=am;have HB:=an;clear al am an;replace aa:=Aside0.mk (blk_drew aa.out);replace ab:=Aside0.mk (blk_drew ab.out);replace HB:=Aside0.mk (below_drew1 HB.out);have aC:0≤((ji33):Int):=oD;have q123:(ji33)<(l0_4.length:Int):=oD;obtain ⟨ad123,e123,ap,aq,ar,au⟩:=at_T43 HR0_4.out (ji33) aC q123;have hw123_3:=au;have hw123_2:=ar;have hw123_1:=aq;have hw123_0:=ap;obtain rfl:ad117=ad123:=(by injection e123);replace ap:=ct_ HB ap;replace aq:=ct_ HB aq;replace ar:=ct_ HB ar;replace au:=ct_ HB au;replace aC:=eq_true aC;replace q123:=eq_true q123;refine start_ (n:=48) (S:=fun w'=>w'.cell? ⟨ac,0,none⟩=some (.int .i64 ((rd_T43 l0_4 x3_2).f0))∧w'.cell? ⟨ac,1,none⟩=some (.int .i64 ((rd_T43 l0_4 x3_2).f1))∧w'.cell? ⟨ac,2,none⟩=some (.int .i64 ((rd_T43 l0_4 x3_2).f2))∧w'.cell? ⟨ac,3,none⟩=some (.int .i64 ((rd_T43 l0_4 x3_2).f3))∧w'.cell? ⟨ad,0,none⟩=some (.int .i64 a0_0)∧w'.cell? ⟨ad,1,none⟩=some (.int .i64 a0_1)∧w'.cell? ⟨ad,2,none⟩=some (.int .i64 a0_2)∧w'.cell? ⟨ad,3,none⟩=some (.int .i64 a0_3)∧w'.cell? ⟨ad,4,none⟩=some (.slice (some ad117) l0_4.length c0_4)∧w'.cell? (ad117.add (((ji33)).toNat * 4))=some (.int .i64 ((rd_T43 l0_4 (ji33)).f0))∧w'.cell? ⟨(ad117.add (((ji33)).toNat * 4)).block,(ad117.add (((ji33)).toNat * 4)).off+1,none⟩=some (.int .i64 ((rd_T43 l0_4 (ji33)).f1))∧w'.cell? ⟨(ad117.add (((ji33)).toNat * 4)).block,(ad117.add (((ji33)).toNat * 4)).off+2,none⟩=some (.int .i64 ((rd_T43 l0_4 (ji33)).f2))∧w'.cell? ⟨(ad117.add (((ji33)).toNat * 4)).block,(ad117.add (((ji33)).toNat * 4)).off+3,none⟩=some (.int .i64 ((rd_T43 l0_4 (ji33)).f3))) (ds:=[]) bl34 (by kernel_rfl) rfl rfl ⟨b1 ab 0,b1 ab 1,b1 ab 2,b1 ab 3,b1 aa 0,b1 aa 1,b1 aa 2,b1 aa 3,b1 aa 4,(ct_ HB hw123_0),(ct_ HB hw123_1),(ct_ HB hw123_2),(ct_ HB hw123_3)⟩ (fun hHeld=>?_)
               refine with_tabW spec_GenOk.tab7 spec_GenOk.bits7 (fun HT_ HW_=>?_);generalize ei.drew=eS at aa ab HB ap aq ar au hHeld ⊢;refine pv_ 0 (some 49) bl35 HT_ ?_
               refine pv_ 2 (some 51) bl36 HT_ ?_
               refine tk_ 1 (some 50) bl37 HT_ HW_ hHeld ?_
               refine tk_ 3 (some 52) bl38 HT_ HW_ hHeld ?_
               refine on_ 4 (some 53) bl39 HT_ (fun K hK=>?_);refine gs_ Try.func28 #[.int .i64 ((rd_T43 l0_4 x3_2).f0),.int .i64 a0_1] ?_
               with_reducible refine (spec_l4State.calls ((rd_T43 l0_4 x3_2).f0) a0_1 true _ aD.out).mono ?_
               rintro e w' ⟨rfl,⟨nd,rfl⟩⟩;refine ⟨_,rfl,?_⟩;refine hK.out _ _ ⟨b1 ab 0,b1 ab 1,b1 ab 2,b1 ab 3,b1 aa 0,b1 aa 1,b1 aa 2,b1 aa 3,b1 aa 4,(ct_ HB hw123_0),(ct_ HB hw123_1),(ct_ HB hw123_2),(ct_ HB hw123_3)⟩ (fun hHeld=>?_);clear hK K;refine nr_ (some 53) ?_
               refine pv_ 5 (some 54) bl40 HT_ ?_
               refine pv_ 6 (some 55) bl41 HT_ ?_
               refine pv_ 7 (some 56) bl42 HT_ ?_
               refine pv_ 9 (some 58) bl43 HT_ ?_
               refine tk_ 8 (some 57) bl44 HT_ HW_ hHeld ?_
               refine tk_ 10 (some 59) bl45 HT_ HW_ hHeld ?_
               refine on_ 11 (some 60) bl46 HT_ (fun K hK=>?_);refine gs_ Try.func28 #[.int .i64 ((rd_T43 l0_4 x3_2).f2),.int .i64 a0_1] ?_
               with_reducible refine (spec_l4State.calls ((rd_T43 l0_4 x3_2).f2) a0_1 true _ aF.out).mono ?_
               rintro e w' ⟨rfl,⟨nd,rfl⟩⟩;refine ⟨_,rfl,?_⟩;refine hK.out _ _ ⟨b1 ab 0,b1 ab 1,b1 ab 2,b1 ab 3,b1 aa 0,b1 aa 1,b1 aa 2,b1 aa 3,b1 aa 4,(ct_ HB hw123_0),(ct_ HB hw123_1),(ct_ HB hw123_2),(ct_ HB hw123_3)⟩ (fun hHeld=>?_);clear hK K;refine nr_ (some 60) ?_
               refine pv_ 12 (some 61) bl47 HT_ ?_
               refine pv_ 13 (some 62) bl48 HT_ ?_
               refine pv_ 14 (some 63) bl49 HT_ ?_
               refine pv_ 15 (some 64) bl50 HT_ ?_
               refine pv_ 17 (some 66) bl51 HT_ ?_
               refine tk_ 16 (some 65) bl52 HT_ HW_ hHeld ?_
               refine tk_ 18 (some 67) bl53 HT_ HW_ hHeld ?_
               refine pv_ 19 (some 68) bl54 HT_ ?_
               refine on_ 20 (some 69) bl55 HT_ (fun K hK=>?_);refine gs_ Try.func26 #[.int .i64 ((rd_T43 l0_4 x3_2).f1),.int .i64 0,.int .i64 (wrap64 (a0_0 - 1))] ?_
               with_reducible refine (spec_l1In.calls ((rd_T43 l0_4 x3_2).f1) 0 (wrap64 (a0_0 - 1)) true _ aH.out).mono ?_
               rintro e w' ⟨rfl,⟨nd,rfl⟩⟩;refine ⟨_,rfl,?_⟩;refine hK.out _ _ ⟨b1 ab 0,b1 ab 1,b1 ab 2,b1 ab 3,b1 aa 0,b1 aa 1,b1 aa 2,b1 aa 3,b1 aa 4,(ct_ HB hw123_0),(ct_ HB hw123_1),(ct_ HB hw123_2),(ct_ HB hw123_3)⟩ (fun hHeld=>?_);clear hK K;refine nr_ (some 69) ?_
               refine pv_ 21 (some 70) bl56 HT_ ?_
               refine pv_ 22 (some 71) bl57 HT_ ?_
               refine pv_ 23 (some 72) bl58 HT_ ?_
               refine pv_ 24 (some 73) bl59 HT_ ?_
               refine pv_ 26 (some 75) bl60 HT_ ?_
               refine tk_ 25 (some 74) bl61 HT_ HW_ hHeld ?_
               refine tk_ 27 (some 76) bl62 HT_ HW_ hHeld ?_
               refine pv_ 28 (some 77) bl63 HT_ ?_
               refine pv_ 29 (some 78) bl64 HT_ ?_
               refine on_ 30 (some 79) bl65 HT_ (fun K hK=>?_);refine goes_ Try.func27 (by kernel_rfl) rfl #[.int .i64 ((rd_T43 l0_4 x3_2).f3),.int .i64 (wrap64 ((ji29) - 1))] (by rfl) rfl rfl (by (try simp only[m3]);first|done|(simp only[hji29];rfl)|rfl|(simp only[d2];rfl)) ?_
               with_reducible refine (spec_SetIn.calls ((rd_T43 l0_4 x3_2).f3) (wrap64 ((ji29) - 1)) true _ aN.out).mono ?_
               rintro e w' ⟨rfl,⟨nd,rfl⟩⟩;refine ⟨_,rfl,?_⟩;refine hK.out _ _ ⟨b1 ab 0,b1 ab 1,b1 ab 2,b1 ab 3,b1 aa 0,b1 aa 1,b1 aa 2,b1 aa 3,b1 aa 4,(ct_ HB hw123_0),(ct_ HB hw123_1),(ct_ HB hw123_2),(ct_ HB hw123_3)⟩ (fun hHeld=>?_);clear hK K;refine nr_ (some 79) ?_
               refine pv_ 31 (some 80) bl66 HT_ ?_
               refine pv_ 32 (some 81) bl67 HT_ ?_
               refine pv_ 33 (some 82) bl68 HT_ ?_
               refine pv_ 34 (some 83) bl69 HT_ ?_
               refine pv_ 35 (some 84) bl70 HT_ ?_
               refine pv_ 36 (some 85) bl71 HT_ ?_
               refine pv_ 37 (some 86) bl72 HT_ ?_
               refine pv_ 39 (some 88) bl73 HT_ ?_
               refine pv_ 40 (some 89) bl74 HT_ ?_
               refine tk_ 38 (some 87) bl75 HT_ HW_ hHeld ?_
               refine pv_ 41 (some 90) bl76 HT_ ?_
               refine tk_ 42 (some 91) bl77 HT_ HW_ hHeld ?_
               refine tk_ 43 (some 92) bl78 HT_ HW_ hHeld ?_
               refine on_ 44 (some 93) bl79 HT_ (fun K hK=>?_);refine goes_ Try.func29 (by kernel_rfl) rfl #[.agg #[.int .i64 ((rd_T43 l0_4 (ji33)).f0),.int .i64 ((rd_T43 l0_4 (ji33)).f1),.int .i64 ((rd_T43 l0_4 (ji33)).f2),.int .i64 ((rd_T43 l0_4 (ji33)).f3)],.agg #[.int .i64 ((rd_T43 l0_4 x3_2).f0),.int .i64 ((rd_T43 l0_4 x3_2).f1),.int .i64 ((rd_T43 l0_4 x3_2).f2),.int .i64 ((rd_T43 l0_4 x3_2).f3)]] (by rfl) rfl rfl (by (try simp only[m3]);first|done|(simp only[hji33];rfl)|rfl|(simp only[d2];rfl)) ?_
               with_reducible refine (spec_l5Less.calls ((rd_T43 l0_4 (ji33)).f0) ((rd_T43 l0_4 (ji33)).f1) ((rd_T43 l0_4 (ji33)).f2) ((rd_T43 l0_4 (ji33)).f3) ((rd_T43 l0_4 x3_2).f0) ((rd_T43 l0_4 x3_2).f1) ((rd_T43 l0_4 x3_2).f2) ((rd_T43 l0_4 x3_2).f3) false _ bt.out).mono ?_
               rintro e eT ⟨rfl,hb⟩;refine ⟨_,rfl,?_⟩;replace aa:=xB aa hb;replace ab:=xB ab hb;replace HB:=xS HB hb;(try clear hb);(try clear hb2);(try clear hk);(try clear hi);refine hK.out _ _ ⟨b1 ab 0,b1 ab 1,b1 ab 2,b1 ab 3,b1 aa 0,b1 aa 1,b1 aa 2,b1 aa 3,b1 aa 4,(ct_ HB hw123_0),(ct_ HB hw123_1),(ct_ HB hw123_2),(ct_ HB hw123_3)⟩ (fun hHeld=>?_);clear hK K;refine nr_ (some 93) ?_
               refine pv_ 45 (some 94) bl80 HT_ ?_
               refine pv_ 46 (some 95) bl81 HT_ ?_
               refine pv_ 47 (some 96) bl82 HT_ ?_
               refine done_ (done_of HT_.out (by kernel_rfl)) ?_
               try go_wp2
               go_ret;exact ⟨by first|rfl|(simp[errW_none,errW_some] <;> rfl)|(simp only[← hji29,← hji33];first|rfl|(simp[errW_none,errW_some] <;> rfl))|(simp[*,errW_none,errW_some] <;> rfl),zS HB.out⟩
              rw[if_neg aW]at H;exact absurd H (by simp)
             rw[if_neg aV]at H;exact absurd H (by simp)
            rw[if_neg aJ]at H;have bp:decide (0<x3_2)=false:=decide_eq_false aJ;clear aJ;have H':=Aside0.mk H;clear H;obtain ⟨cg,ch,ci,cj,ck,cl,cm,cn,co,cp⟩:=cz5 aa;have aj:0≤(x3_2:Int):=oD;have q117:x3_2<(l0_4.length:Int):=oD;obtain ⟨ad117,e117,ae,af,ag,ah⟩:=at_T43 HR0_4.out x3_2 aj q117
            cases e117
            replace ae:=ct_ HB ae;replace af:=ct_ HB af;replace ag:=ct_ HB ag;replace ah:=ct_ HB ah;replace aj:=eq_true aj;replace q117:=eq_true q117;try go_wp2_with (first|((with_reducible refine gate_dst (N:=4) rfl ?_);(try (refine gate_guard (by rfl) ?_;dsimp only));refine bx_ 4 #[.int .i64 0,.int .i64 0,.int .i64 0,.int .i64 0] 43 ?_;intro ac hg ba hbox hb;have ab:=Aside0.mk (hbox);have aA:=xG HB hg;have aB:=xG HB hg;replace HB:=xS HB hb;have aw:=xN aa hg;have ai:=xM aa hg;replace aa:=xB aa hb;clear hb hbox hg;obtain ⟨ez,eA⟩:=nn ai;obtain ⟨cq,cr,ct,cu,cv,cw,cx,cy⟩:=cz4 ab))
            have al:Aside0 (((((ba.setCell ⟨ac,0,none⟩ (.int .i64 ((rd_T43 l0_4 x3_2).f0))).setCell ⟨ac,1,none⟩ (.int .i64 ((rd_T43 l0_4 x3_2).f1))).setCell ⟨ac,2,none⟩ (.int .i64 ((rd_T43 l0_4 x3_2).f2))).setCell ⟨ac,3,none⟩ (.int .i64 ((rd_T43 l0_4 x3_2).f3))).heap[ad]?=some (.cells #[.int .i64 a0_0,.int .i64 a0_1,.int .i64 a0_2,.int .i64 a0_3,.slice (some ad117) l0_4.length c0_4] 28 (0,0))):=⟨zB aa.out⟩;have am:Aside0 (((((ba.setCell ⟨ac,0,none⟩ (.int .i64 ((rd_T43 l0_4 x3_2).f0))).setCell ⟨ac,1,none⟩ (.int .i64 ((rd_T43 l0_4 x3_2).f1))).setCell ⟨ac,2,none⟩ (.int .i64 ((rd_T43 l0_4 x3_2).f2))).setCell ⟨ac,3,none⟩ (.int .i64 ((rd_T43 l0_4 x3_2).f3))).heap[ac]?=some (.cells #[.int .i64 ((rd_T43 l0_4 x3_2).f0),.int .i64 ((rd_T43 l0_4 x3_2).f1),.int .i64 ((rd_T43 l0_4 x3_2).f2),.int .i64 ((rd_T43 l0_4 x3_2).f3)] 43 (0,0))):=⟨by (with_reducible repeat (first|refine blk_drewN ?_ _|refine blk_drew ?_|refine blk_alloc ?_ _));refine blk_put (cs:=#[.int .i64 ((rd_T43 l0_4 x3_2).f0),.int .i64 ((rd_T43 l0_4 x3_2).f1),.int .i64 ((rd_T43 l0_4 x3_2).f2),.int .i64 0]) ?_ 3 _ rfl;(with_reducible repeat (first|refine blk_drewN ?_ _|refine blk_drew ?_|refine blk_alloc ?_ _));refine blk_put (cs:=#[.int .i64 ((rd_T43 l0_4 x3_2).f0),.int .i64 ((rd_T43 l0_4 x3_2).f1),.int .i64 0,.int .i64 0]) ?_ 2 _ rfl;(with_reducible repeat (first|refine blk_drewN ?_ _|refine blk_drew ?_|refine blk_alloc ?_ _));refine blk_put (cs:=#[.int .i64 ((rd_T43 l0_4 x3_2).f0),.int .i64 0,.int .i64 0,.int .i64 0]) ?_ 1 _ rfl;(with_reducible repeat (first|refine blk_drewN ?_ _|refine blk_drew ?_|refine blk_alloc ?_ _));refine blk_put (cs:=#[.int .i64 0,.int .i64 0,.int .i64 0,.int .i64 0]) ?_ 0 _ rfl;(with_reducible repeat (first|refine blk_drewN ?_ _|refine blk_drew ?_|refine blk_alloc ?_ _));exact ab.out⟩;have an:Aside0 (Below w.heap.size w ((((ba.setCell ⟨ac,0,none⟩ (.int .i64 ((rd_T43 l0_4 x3_2).f0))).setCell ⟨ac,1,none⟩ (.int .i64 ((rd_T43 l0_4 x3_2).f1))).setCell ⟨ac,2,none⟩ (.int .i64 ((rd_T43 l0_4 x3_2).f2))).setCell ⟨ac,3,none⟩ (.int .i64 ((rd_T43 l0_4 x3_2).f3)))):=⟨zS HB.out⟩;(try clear aa);(try clear ab);(try clear HB);generalize ((((ba.setCell ⟨ac,0,none⟩ (.int .i64 ((rd_T43 l0_4 x3_2).f0))).setCell ⟨ac,1,none⟩ (.int .i64 ((rd_T43 l0_4 x3_2).f1))).setCell ⟨ac,2,none⟩ (.int .i64 ((rd_T43 l0_4 x3_2).f2))).setCell ⟨ac,3,none⟩ (.int .i64 ((rd_T43 l0_4 x3_2).f3)))=ej at al am an ⊢;have aa:=al;have ab:=am;have HB:=an;clear al am an;replace aa:=Aside0.mk (blk_drew aa.out);replace ab:=Aside0.mk (blk_drew ab.out);replace HB:=Aside0.mk (below_drew1 HB.out);refine start_ (n:=48) (S:=fun w'=>w'.cell? ⟨ac,0,none⟩=some (.int .i64 ((rd_T43 l0_4 x3_2).f0))∧w'.cell? ⟨ac,1,none⟩=some (.int .i64 ((rd_T43 l0_4 x3_2).f1))∧w'.cell? ⟨ac,2,none⟩=some (.int .i64 ((rd_T43 l0_4 x3_2).f2))∧w'.cell? ⟨ac,3,none⟩=some (.int .i64 ((rd_T43 l0_4 x3_2).f3))∧w'.cell? ⟨ad,0,none⟩=some (.int .i64 a0_0)∧w'.cell? ⟨ad,1,none⟩=some (.int .i64 a0_1)∧w'.cell? ⟨ad,2,none⟩=some (.int .i64 a0_2)∧w'.cell? ⟨ad,3,none⟩=some (.int .i64 a0_3)∧w'.cell? ⟨ad,4,none⟩=some (.slice (some ad117) l0_4.length c0_4)) (ds:=[]) bl34 (by kernel_rfl) rfl rfl ⟨b1 ab 0,b1 ab 1,b1 ab 2,b1 ab 3,b1 aa 0,b1 aa 1,b1 aa 2,b1 aa 3,b1 aa 4⟩ (fun hHeld=>?_);refine with_tabW spec_GenOk.tab7 spec_GenOk.bits7 (fun HT_ HW_=>?_);generalize ej.drew=eU at aa ab HB hHeld ⊢
            refine pv_ 0 (some 49) bl35 HT_ ?_
            refine pv_ 2 (some 51) bl36 HT_ ?_
            refine tk_ 1 (some 50) bl37 HT_ HW_ hHeld ?_
            refine tk_ 3 (some 52) bl38 HT_ HW_ hHeld ?_
            refine on_ 4 (some 53) bl39 HT_ (fun K hK=>?_);refine gs_ Try.func28 #[.int .i64 ((rd_T43 l0_4 x3_2).f0),.int .i64 a0_1] ?_
            with_reducible refine (spec_l4State.calls ((rd_T43 l0_4 x3_2).f0) a0_1 true _ aD.out).mono ?_
            rintro e w' ⟨rfl,⟨nd,rfl⟩⟩;refine ⟨_,rfl,?_⟩;refine hK.out _ _ ⟨b1 ab 0,b1 ab 1,b1 ab 2,b1 ab 3,b1 aa 0,b1 aa 1,b1 aa 2,b1 aa 3,b1 aa 4⟩ (fun hHeld=>?_);clear hK K;refine nr_ (some 53) ?_
            refine pv_ 5 (some 54) bl40 HT_ ?_
            refine pv_ 6 (some 55) bl41 HT_ ?_
            refine pv_ 7 (some 56) bl42 HT_ ?_
            refine pv_ 9 (some 58) bl43 HT_ ?_
            refine tk_ 8 (some 57) bl44 HT_ HW_ hHeld ?_
            refine tk_ 10 (some 59) bl45 HT_ HW_ hHeld ?_
            refine on_ 11 (some 60) bl46 HT_ (fun K hK=>?_);refine gs_ Try.func28 #[.int .i64 ((rd_T43 l0_4 x3_2).f2),.int .i64 a0_1] ?_
            with_reducible refine (spec_l4State.calls ((rd_T43 l0_4 x3_2).f2) a0_1 true _ aF.out).mono ?_
            rintro e w' ⟨rfl,⟨nd,rfl⟩⟩;refine ⟨_,rfl,?_⟩;refine hK.out _ _ ⟨b1 ab 0,b1 ab 1,b1 ab 2,b1 ab 3,b1 aa 0,b1 aa 1,b1 aa 2,b1 aa 3,b1 aa 4⟩ (fun hHeld=>?_);clear hK K;refine nr_ (some 60) ?_
            refine pv_ 12 (some 61) bl47 HT_ ?_
            refine pv_ 13 (some 62) bl48 HT_ ?_
            refine pv_ 14 (some 63) bl49 HT_ ?_
            refine pv_ 15 (some 64) bl50 HT_ ?_
            refine pv_ 17 (some 66) bl51 HT_ ?_
            refine tk_ 16 (some 65) bl52 HT_ HW_ hHeld ?_
            refine tk_ 18 (some 67) bl53 HT_ HW_ hHeld ?_
            refine pv_ 19 (some 68) bl54 HT_ ?_
            refine on_ 20 (some 69) bl55 HT_ (fun K hK=>?_);refine gs_ Try.func26 #[.int .i64 ((rd_T43 l0_4 x3_2).f1),.int .i64 0,.int .i64 (wrap64 (a0_0 - 1))] ?_
            with_reducible refine (spec_l1In.calls ((rd_T43 l0_4 x3_2).f1) 0 (wrap64 (a0_0 - 1)) true _ aH.out).mono ?_
            rintro e w' ⟨rfl,⟨nd,rfl⟩⟩;refine ⟨_,rfl,?_⟩;refine hK.out _ _ ⟨b1 ab 0,b1 ab 1,b1 ab 2,b1 ab 3,b1 aa 0,b1 aa 1,b1 aa 2,b1 aa 3,b1 aa 4⟩ (fun hHeld=>?_);clear hK K;refine nr_ (some 69) ?_
            refine pv_ 21 (some 70) bl56 HT_ ?_
            refine pv_ 22 (some 71) bl57 HT_ ?_
            refine pv_ 23 (some 72) bl58 HT_ ?_
            refine pv_ 24 (some 73) bl59 HT_ ?_
            refine pv_ 26 (some 75) bl60 HT_ ?_
            refine tk_ 25 (some 74) bl61 HT_ HW_ hHeld ?_
            refine tk_ 27 (some 76) bl62 HT_ HW_ hHeld ?_
            refine pv_ 28 (some 77) bl63 HT_ ?_
            refine pv_ 29 (some 78) bl64 HT_ ?_
            refine on_ 30 (some 79) bl65 HT_ (fun K hK=>?_);refine goes_ Try.func27 (by kernel_rfl) rfl #[.int .i64 ((rd_T43 l0_4 x3_2).f3),.int .i64 (wrap64 ((ji29) - 1))] (by rfl) rfl rfl (by (try simp only[m3]);first|done|(simp only[hji29];rfl)|rfl|(simp only[d2];rfl)) ?_
            with_reducible refine (spec_SetIn.calls ((rd_T43 l0_4 x3_2).f3) (wrap64 ((ji29) - 1)) true _ aN.out).mono ?_
            rintro e w' ⟨rfl,⟨nd,rfl⟩⟩;refine ⟨_,rfl,?_⟩;refine hK.out _ _ ⟨b1 ab 0,b1 ab 1,b1 ab 2,b1 ab 3,b1 aa 0,b1 aa 1,b1 aa 2,b1 aa 3,b1 aa 4⟩ (fun hHeld=>?_);clear hK K;refine nr_ (some 79) ?_
            refine pv_ 31 (some 80) bl66 HT_ ?_
            refine pv_ 32 (some 81) bl67 HT_ ?_
            refine pv_ 33 (some 82) bl68 HT_ ?_
            refine pv_ 34 (some 83) bl69 HT_ ?_
            refine pv_ 35 (some 84) bl70 HT_ ?_
            refine pv_ 36 (some 85) bl71 HT_ ?_
            refine pn_ 37 (some 86) bl72 HT_ ?_
            refine pn_ 38 (some 87) bl83 HT_ ?_
            refine pn_ 39 (some 88) bl84 HT_ ?_
            refine pn_ 40 (some 89) bl75 HT_ ?_
            refine pn_ 41 (some 90) bl76 HT_ ?_
            refine pn_ 42 (some 91) bl77 HT_ ?_
            refine pn_ 43 (some 92) bl78 HT_ ?_
            refine pn_ 44 (some 93) bl79 HT_ ?_
            refine pn_ 45 (some 94) bl80 HT_ ?_
            refine pv_ 46 (some 95) bl81 HT_ ?_
            refine pv_ 47 (some 96) bl82 HT_ ?_
            refine done_ (done_of HT_.out (by kernel_rfl)) ?_
            try go_wp2
            (first|go_roundg k2|((try simp only[← hji29]);go_roundg k2))
            case measure=>have:=HJ1.out;have:=HK2.out;omega
            case rel=>exact ⟨(wrap64 (x3_2+1)),vv,(by first|exact H' | (have h_:=H';(try simp only[← hji29]at h_);(try simp only[← hji29]);exact h_)),⟨by have:=HJ1.out;have:=HK2.out;omega⟩,⟨zB aa.out⟩,⟨zS HB.out⟩⟩
           replace aU:=Bool.eq_false_iff.mpr aU;subst aU;have H1:(some false)=some r:=by rw[if_neg (show ¬ (false=true) by decide)]at H;exact H
           clear H;have H:=H1;clear H1;obtain rfl:=Option.some.inj H;obtain ⟨cz,cA,cB,cC,cD,cE,cF,cG,cH,cI⟩:=cz5 aa;have aj:0≤(x3_2:Int):=oD;have q117:x3_2<(l0_4.length:Int):=oD;obtain ⟨ad117,e117,ae,af,ag,ah⟩:=at_T43 HR0_4.out x3_2 aj q117
           cases e117
           replace ae:=ct_ HB ae;replace af:=ct_ HB af;replace ag:=ct_ HB ag;replace ah:=ct_ HB ah;replace aj:=eq_true aj;replace q117:=eq_true q117;try go_wp2_with (first|((with_reducible refine gate_dst (N:=4) rfl ?_);(try (refine gate_guard (by rfl) ?_;dsimp only));refine bx_ 4 #[.int .i64 0,.int .i64 0,.int .i64 0,.int .i64 0] 43 ?_;intro ac hg bb hbox hb;have ab:=Aside0.mk (hbox);have aA:=xG HB hg;have aB:=xG HB hg;replace HB:=xS HB hb;have aw:=xN aa hg;have ai:=xM aa hg;replace aa:=xB aa hb;clear hb hbox hg;obtain ⟨eB,eC⟩:=nn ai;obtain ⟨cJ,cK,cL,cM,cN,cO,cP,cQ⟩:=cz4 ab))
           have al:Aside0 (((((bb.setCell ⟨ac,0,none⟩ (.int .i64 ((rd_T43 l0_4 x3_2).f0))).setCell ⟨ac,1,none⟩ (.int .i64 ((rd_T43 l0_4 x3_2).f1))).setCell ⟨ac,2,none⟩ (.int .i64 ((rd_T43 l0_4 x3_2).f2))).setCell ⟨ac,3,none⟩ (.int .i64 ((rd_T43 l0_4 x3_2).f3))).heap[ad]?=some (.cells #[.int .i64 a0_0,.int .i64 a0_1,.int .i64 a0_2,.int .i64 a0_3,.slice (some ad117) l0_4.length c0_4] 28 (0,0))):=⟨zB aa.out⟩;have am:Aside0 (((((bb.setCell ⟨ac,0,none⟩ (.int .i64 ((rd_T43 l0_4 x3_2).f0))).setCell ⟨ac,1,none⟩ (.int .i64 ((rd_T43 l0_4 x3_2).f1))).setCell ⟨ac,2,none⟩ (.int .i64 ((rd_T43 l0_4 x3_2).f2))).setCell ⟨ac,3,none⟩ (.int .i64 ((rd_T43 l0_4 x3_2).f3))).heap[ac]?=some (.cells #[.int .i64 ((rd_T43 l0_4 x3_2).f0),.int .i64 ((rd_T43 l0_4 x3_2).f1),.int .i64 ((rd_T43 l0_4 x3_2).f2),.int .i64 ((rd_T43 l0_4 x3_2).f3)] 43 (0,0))):=⟨by (with_reducible repeat (first|refine blk_drewN ?_ _|refine blk_drew ?_|refine blk_alloc ?_ _));refine blk_put (cs:=#[.int .i64 ((rd_T43 l0_4 x3_2).f0),.int .i64 ((rd_T43 l0_4 x3_2).f1),.int .i64 ((rd_T43 l0_4 x3_2).f2),.int .i64 0]) ?_ 3 _ rfl;(with_reducible repeat (first|refine blk_drewN ?_ _|refine blk_drew ?_|refine blk_alloc ?_ _));refine blk_put (cs:=#[.int .i64 ((rd_T43 l0_4 x3_2).f0),.int .i64 ((rd_T43 l0_4 x3_2).f1),.int .i64 0,.int .i64 0]) ?_ 2 _ rfl;(with_reducible repeat (first|refine blk_drewN ?_ _|refine blk_drew ?_|refine blk_alloc ?_ _));refine blk_put (cs:=#[.int .i64 ((rd_T43 l0_4 x3_2).f0),.int .i64 0,.int .i64 0,.int .i64 0]) ?_ 1 _ rfl;(with_reducible repeat (first|refine blk_drewN ?_ _|refine blk_drew ?_|refine blk_alloc ?_ _));refine blk_put (cs:=#[.int .i64 0,.int .i64 0,.int .i64 0,.int .i64 0]) ?_ 0 _ rfl;(with_reducible repeat (first|refine blk_drewN ?_ _|refine blk_drew ?_|refine blk_alloc ?_ _));exact ab.out⟩;have an:Aside0 (Below w.heap.size w ((((bb.setCell ⟨ac,0,none⟩ (.int .i64 ((rd_T43 l0_4 x3_2).f0))).setCell ⟨ac,1,none⟩ (.int .i64 ((rd_T43 l0_4 x3_2).f1))).setCell ⟨ac,2,none⟩ (.int .i64 ((rd_T43 l0_4 x3_2).f2))).setCell ⟨ac,3,none⟩ (.int .i64 ((rd_T43 l0_4 x3_2).f3)))):=⟨zS HB.out⟩;(try clear aa);(try clear ab);(try clear HB);generalize ((((bb.setCell ⟨ac,0,none⟩ (.int .i64 ((rd_T43 l0_4 x3_2).f0))).setCell ⟨ac,1,none⟩ (.int .i64 ((rd_T43 l0_4 x3_2).f1))).setCell ⟨ac,2,none⟩ (.int .i64 ((rd_T43 l0_4 x3_2).f2))).setCell ⟨ac,3,none⟩ (.int .i64 ((rd_T43 l0_4 x3_2).f3)))=ek at al am an ⊢;have aa:=al;have ab:=am;have HB:=an;clear al am an;replace aa:=Aside0.mk (blk_drew aa.out);replace ab:=Aside0.mk (blk_drew ab.out);replace HB:=Aside0.mk (below_drew1 HB.out);refine start_ (n:=48) (S:=fun w'=>w'.cell? ⟨ac,0,none⟩=some (.int .i64 ((rd_T43 l0_4 x3_2).f0))∧w'.cell? ⟨ac,1,none⟩=some (.int .i64 ((rd_T43 l0_4 x3_2).f1))∧w'.cell? ⟨ac,2,none⟩=some (.int .i64 ((rd_T43 l0_4 x3_2).f2))∧w'.cell? ⟨ac,3,none⟩=some (.int .i64 ((rd_T43 l0_4 x3_2).f3))∧w'.cell? ⟨ad,0,none⟩=some (.int .i64 a0_0)∧w'.cell? ⟨ad,1,none⟩=some (.int .i64 a0_1)∧w'.cell? ⟨ad,2,none⟩=some (.int .i64 a0_2)∧w'.cell? ⟨ad,3,none⟩=some (.int .i64 a0_3)∧w'.cell? ⟨ad,4,none⟩=some (.slice (some ad117) l0_4.length c0_4)) (ds:=[]) bl34 (by kernel_rfl) rfl rfl ⟨b1 ab 0,b1 ab 1,b1 ab 2,b1 ab 3,b1 aa 0,b1 aa 1,b1 aa 2,b1 aa 3,b1 aa 4⟩ (fun hHeld=>?_);refine with_tabW spec_GenOk.tab7 spec_GenOk.bits7 (fun HT_ HW_=>?_);generalize ek.drew=eV at aa ab HB hHeld ⊢
           refine pv_ 0 (some 49) bl35 HT_ ?_
           refine pv_ 2 (some 51) bl36 HT_ ?_
           refine tk_ 1 (some 50) bl37 HT_ HW_ hHeld ?_
           refine tk_ 3 (some 52) bl38 HT_ HW_ hHeld ?_
           refine on_ 4 (some 53) bl39 HT_ (fun K hK=>?_);refine gs_ Try.func28 #[.int .i64 ((rd_T43 l0_4 x3_2).f0),.int .i64 a0_1] ?_
           with_reducible refine (spec_l4State.calls ((rd_T43 l0_4 x3_2).f0) a0_1 true _ aD.out).mono ?_
           rintro e w' ⟨rfl,⟨nd,rfl⟩⟩;refine ⟨_,rfl,?_⟩;refine hK.out _ _ ⟨b1 ab 0,b1 ab 1,b1 ab 2,b1 ab 3,b1 aa 0,b1 aa 1,b1 aa 2,b1 aa 3,b1 aa 4⟩ (fun hHeld=>?_);clear hK K;refine nr_ (some 53) ?_
           refine pv_ 5 (some 54) bl40 HT_ ?_
           refine pv_ 6 (some 55) bl41 HT_ ?_
           refine pv_ 7 (some 56) bl42 HT_ ?_
           refine pv_ 9 (some 58) bl43 HT_ ?_
           refine tk_ 8 (some 57) bl44 HT_ HW_ hHeld ?_
           refine tk_ 10 (some 59) bl45 HT_ HW_ hHeld ?_
           refine on_ 11 (some 60) bl46 HT_ (fun K hK=>?_);refine gs_ Try.func28 #[.int .i64 ((rd_T43 l0_4 x3_2).f2),.int .i64 a0_1] ?_
           with_reducible refine (spec_l4State.calls ((rd_T43 l0_4 x3_2).f2) a0_1 true _ aF.out).mono ?_
           rintro e w' ⟨rfl,⟨nd,rfl⟩⟩;refine ⟨_,rfl,?_⟩;refine hK.out _ _ ⟨b1 ab 0,b1 ab 1,b1 ab 2,b1 ab 3,b1 aa 0,b1 aa 1,b1 aa 2,b1 aa 3,b1 aa 4⟩ (fun hHeld=>?_);clear hK K;refine nr_ (some 60) ?_
           refine pv_ 12 (some 61) bl47 HT_ ?_
           refine pv_ 13 (some 62) bl48 HT_ ?_
           refine pv_ 14 (some 63) bl49 HT_ ?_
           refine pv_ 15 (some 64) bl50 HT_ ?_
           refine pv_ 17 (some 66) bl51 HT_ ?_
           refine tk_ 16 (some 65) bl52 HT_ HW_ hHeld ?_
           refine tk_ 18 (some 67) bl53 HT_ HW_ hHeld ?_
           refine pv_ 19 (some 68) bl54 HT_ ?_
           refine on_ 20 (some 69) bl55 HT_ (fun K hK=>?_);refine gs_ Try.func26 #[.int .i64 ((rd_T43 l0_4 x3_2).f1),.int .i64 0,.int .i64 (wrap64 (a0_0 - 1))] ?_
           with_reducible refine (spec_l1In.calls ((rd_T43 l0_4 x3_2).f1) 0 (wrap64 (a0_0 - 1)) true _ aH.out).mono ?_
           rintro e w' ⟨rfl,⟨nd,rfl⟩⟩;refine ⟨_,rfl,?_⟩;refine hK.out _ _ ⟨b1 ab 0,b1 ab 1,b1 ab 2,b1 ab 3,b1 aa 0,b1 aa 1,b1 aa 2,b1 aa 3,b1 aa 4⟩ (fun hHeld=>?_);clear hK K;refine nr_ (some 69) ?_
           refine pv_ 21 (some 70) bl56 HT_ ?_
           refine pv_ 22 (some 71) bl57 HT_ ?_
           refine pv_ 23 (some 72) bl58 HT_ ?_
           refine pv_ 24 (some 73) bl59 HT_ ?_
           refine pv_ 26 (some 75) bl60 HT_ ?_
           refine tk_ 25 (some 74) bl61 HT_ HW_ hHeld ?_
           refine tk_ 27 (some 76) bl62 HT_ HW_ hHeld ?_
           refine pv_ 28 (some 77) bl63 HT_ ?_
           refine pv_ 29 (some 78) bl64 HT_ ?_
           refine on_ 30 (some 79) bl65 HT_ (fun K hK=>?_);refine goes_ Try.func27 (by kernel_rfl) rfl #[.int .i64 ((rd_T43 l0_4 x3_2).f3),.int .i64 (wrap64 ((ji29) - 1))] (by rfl) rfl rfl (by (try simp only[m3]);first|done|(simp only[hji29];rfl)|rfl|(simp only[d2];rfl)) ?_
           with_reducible refine (spec_SetIn.calls ((rd_T43 l0_4 x3_2).f3) (wrap64 ((ji29) - 1)) false _ aN.out).mono ?_
           rintro e w' ⟨rfl,⟨nd,rfl⟩⟩;refine ⟨_,rfl,?_⟩;refine hK.out _ _ ⟨b1 ab 0,b1 ab 1,b1 ab 2,b1 ab 3,b1 aa 0,b1 aa 1,b1 aa 2,b1 aa 3,b1 aa 4⟩ (fun hHeld=>?_);clear hK K;refine nr_ (some 79) ?_
           refine pv_ 31 (some 80) bl66 HT_ ?_
           refine pv_ 32 (some 81) bl67 HT_ ?_
           refine pv_ 33 (some 82) bl68 HT_ ?_
           refine pn_ 34 (some 83) bl69 HT_ ?_
           refine pn_ 35 (some 84) bl70 HT_ ?_
           refine pn_ 36 (some 85) bl71 HT_ ?_
           refine pn_ 37 (some 86) bl72 HT_ ?_
           refine pn_ 38 (some 87) bl83 HT_ ?_
           refine pn_ 39 (some 88) bl84 HT_ ?_
           refine pn_ 40 (some 89) bl75 HT_ ?_
           refine pn_ 41 (some 90) bl76 HT_ ?_
           refine pn_ 42 (some 91) bl77 HT_ ?_
           refine pn_ 43 (some 92) bl78 HT_ ?_
           refine pn_ 44 (some 93) bl79 HT_ ?_
           refine pn_ 45 (some 94) bl80 HT_ ?_
           refine pn_ 46 (some 95) bl81 HT_ ?_
           refine pv_ 47 (some 96) bl82 HT_ ?_
           refine done_ (done_of HT_.out (by kernel_rfl)) ?_
           try go_wp2
           go_ret;exact ⟨by first|rfl|(simp[errW_none,errW_some] <;> rfl)|(simp only[← hji29];first|rfl|(simp[errW_none,errW_some] <;> rfl))|(simp[*,errW_none,errW_some] <;> rfl),zS HB.out⟩
          rw[if_neg aM]at H;exact absurd H (by simp)
         replace aT:=Bool.eq_false_iff.mpr aT;subst aT;have H1:(some false)=some r:=by rw[if_neg (show ¬ (false=true) by decide)]at H;exact H
         clear H;have H:=H1;clear H1;obtain rfl:=Option.some.inj H;obtain ⟨cR,cS,cU,cV,cW,cX,cY,cZ,da,db⟩:=cz5 aa;have aj:0≤(x3_2:Int):=oD;have q117:x3_2<(l0_4.length:Int):=oD;obtain ⟨ad117,e117,ae,af,ag,ah⟩:=at_T43 HR0_4.out x3_2 aj q117
         cases e117
         replace ae:=ct_ HB ae;replace af:=ct_ HB af;replace ag:=ct_ HB ag;replace ah:=ct_ HB ah;replace aj:=eq_true aj;replace q117:=eq_true q117;try go_wp2_with (first|((with_reducible refine gate_dst (N:=4) rfl ?_);(try (refine gate_guard (by rfl) ?_;dsimp only));refine bx_ 4 #[.int .i64 0,.int .i64 0,.int .i64 0,.int .i64 0] 43 ?_;intro ac hg bc hbox hb;have ab:=Aside0.mk (hbox);have aA:=xG HB hg;have aB:=xG HB hg;replace HB:=xS HB hb;have aw:=xN aa hg;have ai:=xM aa hg;replace aa:=xB aa hb;clear hb hbox hg;obtain ⟨eD,eE⟩:=nn ai;obtain ⟨dc,dd,de,df,dg,dh,di,dj⟩:=cz4 ab))
         have al:Aside0 (((((bc.setCell ⟨ac,0,none⟩ (.int .i64 ((rd_T43 l0_4 x3_2).f0))).setCell ⟨ac,1,none⟩ (.int .i64 ((rd_T43 l0_4 x3_2).f1))).setCell ⟨ac,2,none⟩ (.int .i64 ((rd_T43 l0_4 x3_2).f2))).setCell ⟨ac,3,none⟩ (.int .i64 ((rd_T43 l0_4 x3_2).f3))).heap[ad]?=some (.cells #[.int .i64 a0_0,.int .i64 a0_1,.int .i64 a0_2,.int .i64 a0_3,.slice (some ad117) l0_4.length c0_4] 28 (0,0))):=⟨zB aa.out⟩;have am:Aside0 (((((bc.setCell ⟨ac,0,none⟩ (.int .i64 ((rd_T43 l0_4 x3_2).f0))).setCell ⟨ac,1,none⟩ (.int .i64 ((rd_T43 l0_4 x3_2).f1))).setCell ⟨ac,2,none⟩ (.int .i64 ((rd_T43 l0_4 x3_2).f2))).setCell ⟨ac,3,none⟩ (.int .i64 ((rd_T43 l0_4 x3_2).f3))).heap[ac]?=some (.cells #[.int .i64 ((rd_T43 l0_4 x3_2).f0),.int .i64 ((rd_T43 l0_4 x3_2).f1),.int .i64 ((rd_T43 l0_4 x3_2).f2),.int .i64 ((rd_T43 l0_4 x3_2).f3)] 43 (0,0))):=⟨by (with_reducible repeat (first|refine blk_drewN ?_ _|refine blk_drew ?_|refine blk_alloc ?_ _));refine blk_put (cs:=#[.int .i64 ((rd_T43 l0_4 x3_2).f0),.int .i64 ((rd_T43 l0_4 x3_2).f1),.int .i64 ((rd_T43 l0_4 x3_2).f2),.int .i64 0]) ?_ 3 _ rfl;(with_reducible repeat (first|refine blk_drewN ?_ _|refine blk_drew ?_|refine blk_alloc ?_ _));refine blk_put (cs:=#[.int .i64 ((rd_T43 l0_4 x3_2).f0),.int .i64 ((rd_T43 l0_4 x3_2).f1),.int .i64 0,.int .i64 0]) ?_ 2 _ rfl;(with_reducible repeat (first|refine blk_drewN ?_ _|refine blk_drew ?_|refine blk_alloc ?_ _));refine blk_put (cs:=#[.int .i64 ((rd_T43 l0_4 x3_2).f0),.int .i64 0,.int .i64 0,.int .i64 0]) ?_ 1 _ rfl;(with_reducible repeat (first|refine blk_drewN ?_ _|refine blk_drew ?_|refine blk_alloc ?_ _));refine blk_put (cs:=#[.int .i64 0,.int .i64 0,.int .i64 0,.int .i64 0]) ?_ 0 _ rfl;(with_reducible repeat (first|refine blk_drewN ?_ _|refine blk_drew ?_|refine blk_alloc ?_ _));exact ab.out⟩;have an:Aside0 (Below w.heap.size w ((((bc.setCell ⟨ac,0,none⟩ (.int .i64 ((rd_T43 l0_4 x3_2).f0))).setCell ⟨ac,1,none⟩ (.int .i64 ((rd_T43 l0_4 x3_2).f1))).setCell ⟨ac,2,none⟩ (.int .i64 ((rd_T43 l0_4 x3_2).f2))).setCell ⟨ac,3,none⟩ (.int .i64 ((rd_T43 l0_4 x3_2).f3)))):=⟨zS HB.out⟩;(try clear aa);(try clear ab);(try clear HB);generalize ((((bc.setCell ⟨ac,0,none⟩ (.int .i64 ((rd_T43 l0_4 x3_2).f0))).setCell ⟨ac,1,none⟩ (.int .i64 ((rd_T43 l0_4 x3_2).f1))).setCell ⟨ac,2,none⟩ (.int .i64 ((rd_T43 l0_4 x3_2).f2))).setCell ⟨ac,3,none⟩ (.int .i64 ((rd_T43 l0_4 x3_2).f3)))=el at al am an ⊢;have aa:=al;have ab:=am;have HB:=an;clear al am an;replace aa:=Aside0.mk (blk_drew aa.out);replace ab:=Aside0.mk (blk_drew ab.out);replace HB:=Aside0.mk (below_drew1 HB.out);refine start_ (n:=48) (S:=fun w'=>w'.cell? ⟨ac,0,none⟩=some (.int .i64 ((rd_T43 l0_4 x3_2).f0))∧w'.cell? ⟨ac,1,none⟩=some (.int .i64 ((rd_T43 l0_4 x3_2).f1))∧w'.cell? ⟨ac,2,none⟩=some (.int .i64 ((rd_T43 l0_4 x3_2).f2))∧w'.cell? ⟨ac,3,none⟩=some (.int .i64 ((rd_T43 l0_4 x3_2).f3))∧w'.cell? ⟨ad,0,none⟩=some (.int .i64 a0_0)∧w'.cell? ⟨ad,1,none⟩=some (.int .i64 a0_1)∧w'.cell? ⟨ad,2,none⟩=some (.int .i64 a0_2)∧w'.cell? ⟨ad,3,none⟩=some (.int .i64 a0_3)∧w'.cell? ⟨ad,4,none⟩=some (.slice (some ad117) l0_4.length c0_4)) (ds:=[]) bl34 (by kernel_rfl) rfl rfl ⟨b1 ab 0,b1 ab 1,b1 ab 2,b1 ab 3,b1 aa 0,b1 aa 1,b1 aa 2,b1 aa 3,b1 aa 4⟩ (fun hHeld=>?_);refine with_tabW spec_GenOk.tab7 spec_GenOk.bits7 (fun HT_ HW_=>?_);generalize el.drew=eW at aa ab HB hHeld ⊢
         refine pv_ 0 (some 49) bl35 HT_ ?_
         refine pv_ 2 (some 51) bl36 HT_ ?_
         refine tk_ 1 (some 50) bl37 HT_ HW_ hHeld ?_
         refine tk_ 3 (some 52) bl38 HT_ HW_ hHeld ?_
         refine on_ 4 (some 53) bl39 HT_ (fun K hK=>?_);refine gs_ Try.func28 #[.int .i64 ((rd_T43 l0_4 x3_2).f0),.int .i64 a0_1] ?_
         with_reducible refine (spec_l4State.calls ((rd_T43 l0_4 x3_2).f0) a0_1 true _ aD.out).mono ?_
         rintro e w' ⟨rfl,⟨nd,rfl⟩⟩;refine ⟨_,rfl,?_⟩;refine hK.out _ _ ⟨b1 ab 0,b1 ab 1,b1 ab 2,b1 ab 3,b1 aa 0,b1 aa 1,b1 aa 2,b1 aa 3,b1 aa 4⟩ (fun hHeld=>?_);clear hK K;refine nr_ (some 53) ?_
         refine pv_ 5 (some 54) bl40 HT_ ?_
         refine pv_ 6 (some 55) bl41 HT_ ?_
         refine pv_ 7 (some 56) bl42 HT_ ?_
         refine pv_ 9 (some 58) bl43 HT_ ?_
         refine tk_ 8 (some 57) bl44 HT_ HW_ hHeld ?_
         refine tk_ 10 (some 59) bl45 HT_ HW_ hHeld ?_
         refine on_ 11 (some 60) bl46 HT_ (fun K hK=>?_);refine gs_ Try.func28 #[.int .i64 ((rd_T43 l0_4 x3_2).f2),.int .i64 a0_1] ?_
         with_reducible refine (spec_l4State.calls ((rd_T43 l0_4 x3_2).f2) a0_1 true _ aF.out).mono ?_
         rintro e w' ⟨rfl,⟨nd,rfl⟩⟩;refine ⟨_,rfl,?_⟩;refine hK.out _ _ ⟨b1 ab 0,b1 ab 1,b1 ab 2,b1 ab 3,b1 aa 0,b1 aa 1,b1 aa 2,b1 aa 3,b1 aa 4⟩ (fun hHeld=>?_);clear hK K;refine nr_ (some 60) ?_
         refine pv_ 12 (some 61) bl47 HT_ ?_
         refine pv_ 13 (some 62) bl48 HT_ ?_
         refine pv_ 14 (some 63) bl49 HT_ ?_
         refine pv_ 15 (some 64) bl50 HT_ ?_
         refine pv_ 17 (some 66) bl51 HT_ ?_
         refine tk_ 16 (some 65) bl52 HT_ HW_ hHeld ?_
         refine tk_ 18 (some 67) bl53 HT_ HW_ hHeld ?_
         refine pv_ 19 (some 68) bl54 HT_ ?_
         refine on_ 20 (some 69) bl55 HT_ (fun K hK=>?_);refine gs_ Try.func26 #[.int .i64 ((rd_T43 l0_4 x3_2).f1),.int .i64 0,.int .i64 (wrap64 (a0_0 - 1))] ?_
         with_reducible refine (spec_l1In.calls ((rd_T43 l0_4 x3_2).f1) 0 (wrap64 (a0_0 - 1)) false _ aH.out).mono ?_
         rintro e w' ⟨rfl,⟨nd,rfl⟩⟩;refine ⟨_,rfl,?_⟩;refine hK.out _ _ ⟨b1 ab 0,b1 ab 1,b1 ab 2,b1 ab 3,b1 aa 0,b1 aa 1,b1 aa 2,b1 aa 3,b1 aa 4⟩ (fun hHeld=>?_);clear hK K;refine nr_ (some 69) ?_
         refine pv_ 21 (some 70) bl56 HT_ ?_
         refine pv_ 22 (some 71) bl57 HT_ ?_
         refine pv_ 23 (some 72) bl58 HT_ ?_
         refine pn_ 24 (some 73) bl59 HT_ ?_
         refine pn_ 25 (some 74) bl85 HT_ ?_
         refine pn_ 26 (some 75) bl61 HT_ ?_
         refine pn_ 27 (some 76) bl62 HT_ ?_
         refine pn_ 28 (some 77) bl63 HT_ ?_
         refine pn_ 29 (some 78) bl64 HT_ ?_
         refine pn_ 30 (some 79) bl65 HT_ ?_
         refine pn_ 31 (some 80) bl66 HT_ ?_
         refine pv_ 32 (some 81) bl67 HT_ ?_
         refine pv_ 33 (some 82) bl68 HT_ ?_
         refine pn_ 34 (some 83) bl69 HT_ ?_
         refine pn_ 35 (some 84) bl70 HT_ ?_
         refine pn_ 36 (some 85) bl71 HT_ ?_
         refine pn_ 37 (some 86) bl72 HT_ ?_
         refine pn_ 38 (some 87) bl83 HT_ ?_
         refine pn_ 39 (some 88) bl84 HT_ ?_
         refine pn_ 40 (some 89) bl75 HT_ ?_
         refine pn_ 41 (some 90) bl76 HT_ ?_
         refine pn_ 42 (some 91) bl77 HT_ ?_
         refine pn_ 43 (some 92) bl78 HT_ ?_
         refine pn_ 44 (some 93) bl79 HT_ ?_
         refine pn_ 45 (some 94) bl80 HT_ ?_
         refine pn_ 46 (some 95) bl81 HT_ ?_
         refine pv_ 47 (some 96) bl82 HT_ ?_
         refine done_ (done_of HT_.out (by kernel_rfl)) ?_
         try go_wp2
         go_ret;exact ⟨vw,zS HB.out⟩
        replace aS:=Bool.eq_false_iff.mpr aS;subst aS;have H1:(some false)=some r:=by rw[if_neg (show ¬ (false=true) by decide)]at H;exact H
        clear H;have H:=H1;clear H1;obtain rfl:=Option.some.inj H;obtain ⟨dk,dl,dm,dn,dp,dq,dr,dt,du,dv⟩:=cz5 aa;have aj:0≤(x3_2:Int):=oD;have q117:x3_2<(l0_4.length:Int):=oD;obtain ⟨ad117,e117,ae,af,ag,ah⟩:=at_T43 HR0_4.out x3_2 aj q117
        cases e117
        replace ae:=ct_ HB ae;replace af:=ct_ HB af;replace ag:=ct_ HB ag;replace ah:=ct_ HB ah;replace aj:=eq_true aj;replace q117:=eq_true q117;try go_wp2_with (first|((with_reducible refine gate_dst (N:=4) rfl ?_);(try (refine gate_guard (by rfl) ?_;dsimp only));refine bx_ 4 #[.int .i64 0,.int .i64 0,.int .i64 0,.int .i64 0] 43 ?_;intro ac hg bd hbox hb;have ab:=Aside0.mk (hbox);have aA:=xG HB hg;have aB:=xG HB hg;replace HB:=xS HB hb;have aw:=xN aa hg;have ai:=xM aa hg;replace aa:=xB aa hb;clear hb hbox hg;obtain ⟨eF,eG⟩:=nn ai;obtain ⟨dw,dx,dy,dz,dA,dB,dC,dD⟩:=cz4 ab))
        have al:Aside0 (((((bd.setCell ⟨ac,0,none⟩ (.int .i64 ((rd_T43 l0_4 x3_2).f0))).setCell ⟨ac,1,none⟩ (.int .i64 ((rd_T43 l0_4 x3_2).f1))).setCell ⟨ac,2,none⟩ (.int .i64 ((rd_T43 l0_4 x3_2).f2))).setCell ⟨ac,3,none⟩ (.int .i64 ((rd_T43 l0_4 x3_2).f3))).heap[ad]?=some (.cells #[.int .i64 a0_0,.int .i64 a0_1,.int .i64 a0_2,.int .i64 a0_3,.slice (some ad117) l0_4.length c0_4] 28 (0,0))):=⟨zB aa.out⟩;have am:Aside0 (((((bd.setCell ⟨ac,0,none⟩ (.int .i64 ((rd_T43 l0_4 x3_2).f0))).setCell ⟨ac,1,none⟩ (.int .i64 ((rd_T43 l0_4 x3_2).f1))).setCell ⟨ac,2,none⟩ (.int .i64 ((rd_T43 l0_4 x3_2).f2))).setCell ⟨ac,3,none⟩ (.int .i64 ((rd_T43 l0_4 x3_2).f3))).heap[ac]?=some (.cells #[.int .i64 ((rd_T43 l0_4 x3_2).f0),.int .i64 ((rd_T43 l0_4 x3_2).f1),.int .i64 ((rd_T43 l0_4 x3_2).f2),.int .i64 ((rd_T43 l0_4 x3_2).f3)] 43 (0,0))):=⟨by (with_reducible repeat (first|refine blk_drewN ?_ _|refine blk_drew ?_|refine blk_alloc ?_ _));refine blk_put (cs:=#[.int .i64 ((rd_T43 l0_4 x3_2).f0),.int .i64 ((rd_T43 l0_4 x3_2).f1),.int .i64 ((rd_T43 l0_4 x3_2).f2),.int .i64 0]) ?_ 3 _ rfl;(with_reducible repeat (first|refine blk_drewN ?_ _|refine blk_drew ?_|refine blk_alloc ?_ _));refine blk_put (cs:=#[.int .i64 ((rd_T43 l0_4 x3_2).f0),.int .i64 ((rd_T43 l0_4 x3_2).f1),.int .i64 0,.int .i64 0]) ?_ 2 _ rfl;(with_reducible repeat (first|refine blk_drewN ?_ _|refine blk_drew ?_|refine blk_alloc ?_ _));refine blk_put (cs:=#[.int .i64 ((rd_T43 l0_4 x3_2).f0),.int .i64 0,.int .i64 0,.int .i64 0]) ?_ 1 _ rfl;(with_reducible repeat (first|refine blk_drewN ?_ _|refine blk_drew ?_|refine blk_alloc ?_ _));refine blk_put (cs:=#[.int .i64 0,.int .i64 0,.int .i64 0,.int .i64 0]) ?_ 0 _ rfl;(with_reducible repeat (first|refine blk_drewN ?_ _|refine blk_drew ?_|refine blk_alloc ?_ _));exact ab.out⟩;have an:Aside0 (Below w.heap.size w ((((bd.setCell ⟨ac,0,none⟩ (.int .i64 ((rd_T43 l0_4 x3_2).f0))).setCell ⟨ac,1,none⟩ (.int .i64 ((rd_T43 l0_4 x3_2).f1))).setCell ⟨ac,2,none⟩ (.int .i64 ((rd_T43 l0_4 x3_2).f2))).setCell ⟨ac,3,none⟩ (.int .i64 ((rd_T43 l0_4 x3_2).f3)))):=⟨zS HB.out⟩;(try clear aa);(try clear ab);(try clear HB);generalize ((((bd.setCell ⟨ac,0,none⟩ (.int .i64 ((rd_T43 l0_4 x3_2).f0))).setCell ⟨ac,1,none⟩ (.int .i64 ((rd_T43 l0_4 x3_2).f1))).setCell ⟨ac,2,none⟩ (.int .i64 ((rd_T43 l0_4 x3_2).f2))).setCell ⟨ac,3,none⟩ (.int .i64 ((rd_T43 l0_4 x3_2).f3)))=em at al am an ⊢;have aa:=al;have ab:=am;have HB:=an;clear al am an;replace aa:=Aside0.mk (blk_drew aa.out);replace ab:=Aside0.mk (blk_drew ab.out);replace HB:=Aside0.mk (below_drew1 HB.out);refine start_ (n:=48) (S:=fun w'=>w'.cell? ⟨ac,0,none⟩=some (.int .i64 ((rd_T43 l0_4 x3_2).f0))∧w'.cell? ⟨ac,1,none⟩=some (.int .i64 ((rd_T43 l0_4 x3_2).f1))∧w'.cell? ⟨ac,2,none⟩=some (.int .i64 ((rd_T43 l0_4 x3_2).f2))∧w'.cell? ⟨ac,3,none⟩=some (.int .i64 ((rd_T43 l0_4 x3_2).f3))∧w'.cell? ⟨ad,0,none⟩=some (.int .i64 a0_0)∧w'.cell? ⟨ad,1,none⟩=some (.int .i64 a0_1)∧w'.cell? ⟨ad,2,none⟩=some (.int .i64 a0_2)∧w'.cell? ⟨ad,3,none⟩=some (.int .i64 a0_3)∧w'.cell? ⟨ad,4,none⟩=some (.slice (some ad117) l0_4.length c0_4)) (ds:=[]) bl34 (by kernel_rfl) rfl rfl ⟨b1 ab 0,b1 ab 1,b1 ab 2,b1 ab 3,b1 aa 0,b1 aa 1,b1 aa 2,b1 aa 3,b1 aa 4⟩ (fun hHeld=>?_);refine with_tabW spec_GenOk.tab7 spec_GenOk.bits7 (fun HT_ HW_=>?_);generalize em.drew=eX at aa ab HB hHeld ⊢
        refine pv_ 0 (some 49) bl35 HT_ ?_
        refine pv_ 2 (some 51) bl36 HT_ ?_
        refine tk_ 1 (some 50) bl37 HT_ HW_ hHeld ?_
        refine tk_ 3 (some 52) bl38 HT_ HW_ hHeld ?_
        refine on_ 4 (some 53) bl39 HT_ (fun K hK=>?_);refine gs_ Try.func28 #[.int .i64 ((rd_T43 l0_4 x3_2).f0),.int .i64 a0_1] ?_
        with_reducible refine (spec_l4State.calls ((rd_T43 l0_4 x3_2).f0) a0_1 true _ aD.out).mono ?_
        rintro e w' ⟨rfl,⟨nd,rfl⟩⟩;refine ⟨_,rfl,?_⟩;refine hK.out _ _ ⟨b1 ab 0,b1 ab 1,b1 ab 2,b1 ab 3,b1 aa 0,b1 aa 1,b1 aa 2,b1 aa 3,b1 aa 4⟩ (fun hHeld=>?_);clear hK K;refine nr_ (some 53) ?_
        refine pv_ 5 (some 54) bl40 HT_ ?_
        refine pv_ 6 (some 55) bl41 HT_ ?_
        refine pv_ 7 (some 56) bl42 HT_ ?_
        refine pv_ 9 (some 58) bl43 HT_ ?_
        refine tk_ 8 (some 57) bl44 HT_ HW_ hHeld ?_
        refine tk_ 10 (some 59) bl45 HT_ HW_ hHeld ?_
        refine on_ 11 (some 60) bl46 HT_ (fun K hK=>?_);refine gs_ Try.func28 #[.int .i64 ((rd_T43 l0_4 x3_2).f2),.int .i64 a0_1] ?_
        with_reducible refine (spec_l4State.calls ((rd_T43 l0_4 x3_2).f2) a0_1 false _ aF.out).mono ?_
        rintro e w' ⟨rfl,⟨nd,rfl⟩⟩;refine ⟨_,rfl,?_⟩;refine hK.out _ _ ⟨b1 ab 0,b1 ab 1,b1 ab 2,b1 ab 3,b1 aa 0,b1 aa 1,b1 aa 2,b1 aa 3,b1 aa 4⟩ (fun hHeld=>?_);clear hK K;refine nr_ (some 60) ?_
        refine pv_ 12 (some 61) bl47 HT_ ?_
        refine pv_ 13 (some 62) bl48 HT_ ?_
        refine pv_ 14 (some 63) bl49 HT_ ?_
        refine pn_ 15 (some 64) bl50 HT_ ?_
        refine pn_ 16 (some 65) bl86 HT_ ?_
        refine pn_ 17 (some 66) bl52 HT_ ?_
        refine pn_ 18 (some 67) bl53 HT_ ?_
        refine pn_ 19 (some 68) bl54 HT_ ?_
        refine pn_ 20 (some 69) bl55 HT_ ?_
        refine pn_ 21 (some 70) bl56 HT_ ?_
        refine pv_ 22 (some 71) bl57 HT_ ?_
        refine pv_ 23 (some 72) bl58 HT_ ?_
        refine pn_ 24 (some 73) bl59 HT_ ?_
        refine pn_ 25 (some 74) bl85 HT_ ?_
        refine pn_ 26 (some 75) bl61 HT_ ?_
        refine pn_ 27 (some 76) bl62 HT_ ?_
        refine pn_ 28 (some 77) bl63 HT_ ?_
        refine pn_ 29 (some 78) bl64 HT_ ?_
        refine pn_ 30 (some 79) bl65 HT_ ?_
        refine pn_ 31 (some 80) bl66 HT_ ?_
        refine pv_ 32 (some 81) bl67 HT_ ?_
        refine pv_ 33 (some 82) bl68 HT_ ?_
        refine pn_ 34 (some 83) bl69 HT_ ?_
        refine pn_ 35 (some 84) bl70 HT_ ?_
        refine pn_ 36 (some 85) bl71 HT_ ?_
        refine pn_ 37 (some 86) bl72 HT_ ?_
        refine pn_ 38 (some 87) bl83 HT_ ?_
        refine pn_ 39 (some 88) bl84 HT_ ?_
        refine pn_ 40 (some 89) bl75 HT_ ?_
        refine pn_ 41 (some 90) bl76 HT_ ?_
        refine pn_ 42 (some 91) bl77 HT_ ?_
        refine pn_ 43 (some 92) bl78 HT_ ?_
        refine pn_ 44 (some 93) bl79 HT_ ?_
        refine pn_ 45 (some 94) bl80 HT_ ?_
        refine pn_ 46 (some 95) bl81 HT_ ?_
        refine pv_ 47 (some 96) bl82 HT_ ?_
        refine done_ (done_of HT_.out (by kernel_rfl)) ?_
        try go_wp2
        go_ret;exact ⟨vw,zS HB.out⟩
       replace aR:=Bool.eq_false_iff.mpr aR;subst aR;have H1:(some false)=some r:=by rw[if_neg (show ¬ (false=true) by decide)]at H;exact H
       clear H;have H:=H1;clear H1;obtain rfl:=Option.some.inj H;obtain ⟨dE,dF,dG,dH,dI,dJ,dK,dL,dM,dN⟩:=cz5 aa;have aj:0≤(x3_2:Int):=oD;have q117:x3_2<(l0_4.length:Int):=oD;obtain ⟨ad117,e117,ae,af,ag,ah⟩:=at_T43 HR0_4.out x3_2 aj q117
       cases e117
       replace ae:=ct_ HB ae;replace af:=ct_ HB af;replace ag:=ct_ HB ag;replace ah:=ct_ HB ah;replace aj:=eq_true aj;replace q117:=eq_true q117;try go_wp2_with (first|((with_reducible refine gate_dst (N:=4) rfl ?_);(try (refine gate_guard (by rfl) ?_;dsimp only));refine bx_ 4 #[.int .i64 0,.int .i64 0,.int .i64 0,.int .i64 0] 43 ?_;intro ac hg be hbox hb;have ab:=Aside0.mk (hbox);have aA:=xG HB hg;have aB:=xG HB hg;replace HB:=xS HB hb;have aw:=xN aa hg;have ai:=xM aa hg;replace aa:=xB aa hb;clear hb hbox hg;obtain ⟨eH,eI⟩:=nn ai;obtain ⟨dO,dP,dQ,dR,dS,dT,dU,dV⟩:=cz4 ab))
       have al:Aside0 (((((be.setCell ⟨ac,0,none⟩ (.int .i64 ((rd_T43 l0_4 x3_2).f0))).setCell ⟨ac,1,none⟩ (.int .i64 ((rd_T43 l0_4 x3_2).f1))).setCell ⟨ac,2,none⟩ (.int .i64 ((rd_T43 l0_4 x3_2).f2))).setCell ⟨ac,3,none⟩ (.int .i64 ((rd_T43 l0_4 x3_2).f3))).heap[ad]?=some (.cells #[.int .i64 a0_0,.int .i64 a0_1,.int .i64 a0_2,.int .i64 a0_3,.slice (some ad117) l0_4.length c0_4] 28 (0,0))):=⟨zB aa.out⟩;have am:Aside0 (((((be.setCell ⟨ac,0,none⟩ (.int .i64 ((rd_T43 l0_4 x3_2).f0))).setCell ⟨ac,1,none⟩ (.int .i64 ((rd_T43 l0_4 x3_2).f1))).setCell ⟨ac,2,none⟩ (.int .i64 ((rd_T43 l0_4 x3_2).f2))).setCell ⟨ac,3,none⟩ (.int .i64 ((rd_T43 l0_4 x3_2).f3))).heap[ac]?=some (.cells #[.int .i64 ((rd_T43 l0_4 x3_2).f0),.int .i64 ((rd_T43 l0_4 x3_2).f1),.int .i64 ((rd_T43 l0_4 x3_2).f2),.int .i64 ((rd_T43 l0_4 x3_2).f3)] 43 (0,0))):=⟨by (with_reducible repeat (first|refine blk_drewN ?_ _|refine blk_drew ?_|refine blk_alloc ?_ _));refine blk_put (cs:=#[.int .i64 ((rd_T43 l0_4 x3_2).f0),.int .i64 ((rd_T43 l0_4 x3_2).f1),.int .i64 ((rd_T43 l0_4 x3_2).f2),.int .i64 0]) ?_ 3 _ rfl;(with_reducible repeat (first|refine blk_drewN ?_ _|refine blk_drew ?_|refine blk_alloc ?_ _));refine blk_put (cs:=#[.int .i64 ((rd_T43 l0_4 x3_2).f0),.int .i64 ((rd_T43 l0_4 x3_2).f1),.int .i64 0,.int .i64 0]) ?_ 2 _ rfl;(with_reducible repeat (first|refine blk_drewN ?_ _|refine blk_drew ?_|refine blk_alloc ?_ _));refine blk_put (cs:=#[.int .i64 ((rd_T43 l0_4 x3_2).f0),.int .i64 0,.int .i64 0,.int .i64 0]) ?_ 1 _ rfl;(with_reducible repeat (first|refine blk_drewN ?_ _|refine blk_drew ?_|refine blk_alloc ?_ _));refine blk_put (cs:=#[.int .i64 0,.int .i64 0,.int .i64 0,.int .i64 0]) ?_ 0 _ rfl;(with_reducible repeat (first|refine blk_drewN ?_ _|refine blk_drew ?_|refine blk_alloc ?_ _));exact ab.out⟩;have an:Aside0 (Below w.heap.size w ((((be.setCell ⟨ac,0,none⟩ (.int .i64 ((rd_T43 l0_4 x3_2).f0))).setCell ⟨ac,1,none⟩ (.int .i64 ((rd_T43 l0_4 x3_2).f1))).setCell ⟨ac,2,none⟩ (.int .i64 ((rd_T43 l0_4 x3_2).f2))).setCell ⟨ac,3,none⟩ (.int .i64 ((rd_T43 l0_4 x3_2).f3)))):=⟨zS HB.out⟩;(try clear aa);(try clear ab);(try clear HB);generalize ((((be.setCell ⟨ac,0,none⟩ (.int .i64 ((rd_T43 l0_4 x3_2).f0))).setCell ⟨ac,1,none⟩ (.int .i64 ((rd_T43 l0_4 x3_2).f1))).setCell ⟨ac,2,none⟩ (.int .i64 ((rd_T43 l0_4 x3_2).f2))).setCell ⟨ac,3,none⟩ (.int .i64 ((rd_T43 l0_4 x3_2).f3)))=en at al am an ⊢;have aa:=al;have ab:=am;have HB:=an;clear al am an;replace aa:=Aside0.mk (blk_drew aa.out);replace ab:=Aside0.mk (blk_drew ab.out);replace HB:=Aside0.mk (below_drew1 HB.out);refine start_ (n:=48) (S:=fun w'=>w'.cell? ⟨ac,0,none⟩=some (.int .i64 ((rd_T43 l0_4 x3_2).f0))∧w'.cell? ⟨ac,1,none⟩=some (.int .i64 ((rd_T43 l0_4 x3_2).f1))∧w'.cell? ⟨ac,2,none⟩=some (.int .i64 ((rd_T43 l0_4 x3_2).f2))∧w'.cell? ⟨ac,3,none⟩=some (.int .i64 ((rd_T43 l0_4 x3_2).f3))∧w'.cell? ⟨ad,0,none⟩=some (.int .i64 a0_0)∧w'.cell? ⟨ad,1,none⟩=some (.int .i64 a0_1)∧w'.cell? ⟨ad,2,none⟩=some (.int .i64 a0_2)∧w'.cell? ⟨ad,3,none⟩=some (.int .i64 a0_3)∧w'.cell? ⟨ad,4,none⟩=some (.slice (some ad117) l0_4.length c0_4)) (ds:=[]) bl34 (by kernel_rfl) rfl rfl ⟨b1 ab 0,b1 ab 1,b1 ab 2,b1 ab 3,b1 aa 0,b1 aa 1,b1 aa 2,b1 aa 3,b1 aa 4⟩ (fun hHeld=>?_);refine with_tabW spec_GenOk.tab7 spec_GenOk.bits7 (fun HT_ HW_=>?_);generalize en.drew=eY at aa ab HB hHeld ⊢
       refine pv_ 0 (some 49) bl35 HT_ ?_
       refine pv_ 2 (some 51) bl36 HT_ ?_
       refine tk_ 1 (some 50) bl37 HT_ HW_ hHeld ?_
       refine tk_ 3 (some 52) bl38 HT_ HW_ hHeld ?_
       refine on_ 4 (some 53) bl39 HT_ (fun K hK=>?_);refine gs_ Try.func28 #[.int .i64 ((rd_T43 l0_4 x3_2).f0),.int .i64 a0_1] ?_
       with_reducible refine (spec_l4State.calls ((rd_T43 l0_4 x3_2).f0) a0_1 false _ aD.out).mono ?_
       rintro e w' ⟨rfl,⟨nd,rfl⟩⟩;refine ⟨_,rfl,?_⟩;refine hK.out _ _ ⟨b1 ab 0,b1 ab 1,b1 ab 2,b1 ab 3,b1 aa 0,b1 aa 1,b1 aa 2,b1 aa 3,b1 aa 4⟩ (fun hHeld=>?_);clear hK K;refine nr_ (some 53) ?_
       refine pv_ 5 (some 54) bl40 HT_ ?_
       refine pv_ 6 (some 55) bl41 HT_ ?_
       refine pn_ 7 (some 56) bl42 HT_ ?_
       refine pn_ 8 (some 57) bl87 HT_ ?_
       refine pn_ 9 (some 58) bl44 HT_ ?_
       refine pn_ 10 (some 59) bl45 HT_ ?_
       refine pn_ 11 (some 60) bl46 HT_ ?_
       refine pn_ 12 (some 61) bl47 HT_ ?_
       refine pv_ 13 (some 62) bl48 HT_ ?_
       refine pv_ 14 (some 63) bl49 HT_ ?_
       refine pn_ 15 (some 64) bl50 HT_ ?_
       refine pn_ 16 (some 65) bl86 HT_ ?_
       refine pn_ 17 (some 66) bl52 HT_ ?_
       refine pn_ 18 (some 67) bl53 HT_ ?_
       refine pn_ 19 (some 68) bl54 HT_ ?_
       refine pn_ 20 (some 69) bl55 HT_ ?_
       refine pn_ 21 (some 70) bl56 HT_ ?_
       refine pv_ 22 (some 71) bl57 HT_ ?_
       refine pv_ 23 (some 72) bl58 HT_ ?_
       refine pn_ 24 (some 73) bl59 HT_ ?_
       refine pn_ 25 (some 74) bl85 HT_ ?_
       refine pn_ 26 (some 75) bl61 HT_ ?_
       refine pn_ 27 (some 76) bl62 HT_ ?_
       refine pn_ 28 (some 77) bl63 HT_ ?_
       refine pn_ 29 (some 78) bl64 HT_ ?_
       refine pn_ 30 (some 79) bl65 HT_ ?_
       refine pn_ 31 (some 80) bl66 HT_ ?_
       refine pv_ 32 (some 81) bl67 HT_ ?_
       refine pv_ 33 (some 82) bl68 HT_ ?_
       refine pn_ 34 (some 83) bl69 HT_ ?_
       refine pn_ 35 (some 84) bl70 HT_ ?_
       refine pn_ 36 (some 85) bl71 HT_ ?_
       refine pn_ 37 (some 86) bl72 HT_ ?_
       refine pn_ 38 (some 87) bl83 HT_ ?_
       refine pn_ 39 (some 88) bl84 HT_ ?_
       refine pn_ 40 (some 89) bl75 HT_ ?_
       refine pn_ 41 (some 90) bl76 HT_ ?_
       refine pn_ 42 (some 91) bl77 HT_ ?_
       refine pn_ 43 (some 92) bl78 HT_ ?_
       refine pn_ 44 (some 93) bl79 HT_ ?_
       refine pn_ 45 (some 94) bl80 HT_ ?_
       refine pn_ 46 (some 95) bl81 HT_ ?_
       refine pv_ 47 (some 96) bl82 HT_ ?_
       refine done_ (done_of HT_.out (by kernel_rfl)) ?_
       try go_wp2
       go_ret;exact ⟨vw,zS HB.out⟩
      rw[if_neg aQ]at H;exact absurd H (by simp)
     rw[if_neg aI]at H;have bo:decide (x3_2<(l0_4.length:Int))=false:=decide_eq_false aI;clear aI;obtain rfl:=Option.some.inj H;obtain ⟨dW,dX,dY,dZ,ea,eb,ec,ed,ee,ef⟩:=cz5 aa;go_wp2;go_ret;exact ⟨vw,zS HB.out⟩
end Go.Proofs.Ytbfghpbmalpdbaa.MFnExactGenMeet
