import Derived.Test.YtbfghpbmalpdbaaMFnExactGenMeetx0
import Derived.Test.YtbfghpbmalpdbaaMFnExactGenMeetx2
import Derived.Test.YtbfghpbmalpdbaaMFnExactGenMeetx3
import Derived.Test.YtbfghpbmalpdbaaMFnExactGenMeetx4
import Derived.Test.YtbfghpbmalpdbaaMFnExactGenMeetx5
namespace Go.Proofs.Ytbfghpbmalpdbaa.MFnExactGenMeet
open Go.RowKit Go.Proofs.YtbfghpbmalpdbaaW.PrintWords Go.Proofs.YtbfghpbmalpdbaaW.PrintLast Go.Proofs.YtbfghpbmalpdbaaW.PrintMore Go.Proofs.Ytbfghpbmalpdbaa.Short6
attribute [local go_sem] max2_int min2_int max_two min_two max_three min_three max_four min_four
set_option linter.unusedVariables false
set_option linter.unusedSimpArgs false
section
theorem ex3_ {P:Value→Value→Value→Prop} {G:Prop} (h:∃ v0 v1 v2,P v0 v1 v2) (k:∀ v0 v1 v2,P v0 v1 v2→G):G:=by
  obtain ⟨v0,v1,v2,h⟩:=h;exact k v0 v1 v2 h
theorem ex15_ {P:Value→Value→Value→Value→Value→Value→Value→Value→Value→Value→Value→Value→Value→Value→Value→Prop} {G:Prop} (h:∃ v0 v1 v2 v3 v4 v5 v6 v7 v8 v9 v10 v11 v12 v13 v14,P v0 v1 v2 v3 v4 v5 v6 v7 v8 v9 v10 v11 v12 v13 v14) (k:∀ v0 v1 v2 v3 v4 v5 v6 v7 v8 v9 v10 v11 v12 v13 v14,P v0 v1 v2 v3 v4 v5 v6 v7 v8 v9 v10 v11 v12 v13 v14→G):G:=by
  obtain ⟨v0,v1,v2,v3,v4,v5,v6,v7,v8,v9,v10,v11,v12,v13,v14,h⟩:=h;exact k v0 v1 v2 v3 v4 v5 v6 v7 v8 v9 v10 v11 v12 v13 v14 h
theorem ex18_ {P:Value→Value→Value→Value→Value→Value→Value→Value→Value→Value→Value→Value→Value→Value→Value→Value→Value→Value→Prop} {G:Prop} (h:∃ v0 v1 v2 v3 v4 v5 v6 v7 v8 v9 v10 v11 v12 v13 v14 v15 v16 v17,P v0 v1 v2 v3 v4 v5 v6 v7 v8 v9 v10 v11 v12 v13 v14 v15 v16 v17) (k:∀ v0 v1 v2 v3 v4 v5 v6 v7 v8 v9 v10 v11 v12 v13 v14 v15 v16 v17,P v0 v1 v2 v3 v4 v5 v6 v7 v8 v9 v10 v11 v12 v13 v14 v15 v16 v17→G):G:=by
  obtain ⟨v0,v1,v2,v3,v4,v5,v6,v7,v8,v9,v10,v11,v12,v13,v14,v15,v16,v17,h⟩:=h;exact k v0 v1 v2 v3 v4 v5 v6 v7 v8 v9 v10 v11 v12 v13 v14 v15 v16 v17 h
theorem ex20_ {P:Value→Value→Value→Value→Value→Value→Value→Value→Value→Value→Value→Value→Value→Value→Value→Value→Value→Value→Value→Value→Prop} {G:Prop} (h:∃ v0 v1 v2 v3 v4 v5 v6 v7 v8 v9 v10 v11 v12 v13 v14 v15 v16 v17 v18 v19,P v0 v1 v2 v3 v4 v5 v6 v7 v8 v9 v10 v11 v12 v13 v14 v15 v16 v17 v18 v19) (k:∀ v0 v1 v2 v3 v4 v5 v6 v7 v8 v9 v10 v11 v12 v13 v14 v15 v16 v17 v18 v19,P v0 v1 v2 v3 v4 v5 v6 v7 v8 v9 v10 v11 v12 v13 v14 v15 v16 v17 v18 v19→G):G:=by
  obtain ⟨v0,v1,v2,v3,v4,v5,v6,v7,v8,v9,v10,v11,v12,v13,v14,v15,v16,v17,v18,v19,h⟩:=h;exact k v0 v1 v2 v3 v4 v5 v6 v7 v8 v9 v10 v11 v12 v13 v14 v15 v16 v17 v18 v19 h
end
section
open Go.Proofs.Ytbfghpbmalpdbaa.Short2.T
abbrev spec_GenMeet.bl0:Array Bool:=#[f,f,f,f,f,f,f,f,f,f,f,f,f,f]
abbrev spec_GenMeet.bl1:Array Bool:=#[t,f,f,f,f,f,f,f,f,f,f,f,f,f]
abbrev spec_GenMeet.bl2:Array Bool:=#[t,f,t,f,f,f,f,f,f,f,f,f,f,f]
abbrev spec_GenMeet.bl3:Array Bool:=#[t,f,t,t,f,f,f,f,f,f,f,f,f,f]
abbrev spec_GenMeet.bl4:Array Bool:=#[t,f,t,t,t,f,f,f,f,f,f,f,f,f]
abbrev spec_GenMeet.bl5:Array Bool:=#[t,t,t,t,t,f,f,f,f,f,f,f,f,f]
abbrev spec_GenMeet.bl6:Array Bool:=#[t,t,t,t,t,t,f,f,f,f,f,f,f,f]
abbrev spec_GenMeet.bl7:Array Bool:=#[t,t,t,t,t,t,t,f,f,f,f,f,f,f]
abbrev spec_GenMeet.bl8:Array Bool:=#[t,t,t,t,t,t,t,t,f,f,f,f,f,f]
abbrev spec_GenMeet.bl9:Array Bool:=#[t,t,t,t,t,t,t,t,f,t,f,f,f,f]
abbrev spec_GenMeet.bl10:Array Bool:=#[t,t,t,t,t,t,t,t,f,t,t,f,f,f]
abbrev spec_GenMeet.bl11:Array Bool:=#[t,t,t,t,t,t,t,t,f,t,t,t,f,f]
abbrev spec_GenMeet.bl12:Array Bool:=#[t,t,t,t,t,t,t,t,t,t,t,t,f,f]
abbrev spec_GenMeet.bl13:Array Bool:=#[t,t,t,t,t,t,t,t,t,t,t,t,t,f]
abbrev spec_GenMeet.bl14:Array Bool:=#[t,t,t,t,t,t,t,t,t,t,t,t,t,t]
abbrev spec_GenMeet.bl15:Array Bool:=#[t,t,t,t,t,t,t,t,t,f,f,f,f,f]
abbrev spec_GenMeet.bl16:Array Bool:=#[t,t,t,t,t,t,t,t,t,t,f,f,f,f]
abbrev spec_GenMeet.bl17:Array Bool:=#[t,t,t,t,t,t,t,t,t,t,t,f,f,f]
abbrev spec_GenMeet.bl18:Array Bool:=#[f,f,f,f,f,f,f,f,f,f]
abbrev spec_GenMeet.bl19:Array Bool:=#[t,f,f,f,f,f,f,f,f,f]
abbrev spec_GenMeet.bl20:Array Bool:=#[t,f,t,f,f,f,f,f,f,f]
abbrev spec_GenMeet.bl21:Array Bool:=#[t,f,t,t,f,f,f,f,f,f]
abbrev spec_GenMeet.bl22:Array Bool:=#[t,f,t,t,t,f,f,f,f,f]
abbrev spec_GenMeet.bl23:Array Bool:=#[t,t,t,t,t,f,f,f,f,f]
abbrev spec_GenMeet.bl24:Array Bool:=#[t,t,t,t,t,t,f,f,f,f]
abbrev spec_GenMeet.bl25:Array Bool:=#[t,t,t,t,t,t,t,f,f,f]
abbrev spec_GenMeet.bl26:Array Bool:=#[t,t,t,t,t,t,t,t,f,f]
abbrev spec_GenMeet.bl27:Array Bool:=#[t,t,t,t,t,t,t,t,t,f]
abbrev spec_GenMeet.bl28:Array Bool:=#[t,t,t,t,t,t,t,t,t,t]
abbrev spec_GenMeet.bl29:Array Bool:=#[f,f,f,f,f,f,f,f,f,f,f,f,f,f,f,f,f]
abbrev spec_GenMeet.bl30:Array Bool:=#[t,f,f,f,f,f,f,f,f,f,f,f,f,f,f,f,f]
abbrev spec_GenMeet.bl31:Array Bool:=#[t,t,f,f,f,f,f,f,f,f,f,f,f,f,f,f,f]
abbrev spec_GenMeet.bl32:Array Bool:=#[t,t,t,f,f,f,f,f,f,f,f,f,f,f,f,f,f]
abbrev spec_GenMeet.bl33:Array Bool:=#[t,t,t,t,f,f,f,f,f,f,f,f,f,f,f,f,f]
abbrev spec_GenMeet.bl34:Array Bool:=#[t,t,t,t,t,f,f,f,f,f,f,f,f,f,f,f,f]
abbrev spec_GenMeet.bl35:Array Bool:=#[t,t,t,t,t,t,f,f,f,f,f,f,f,f,f,f,f]
abbrev spec_GenMeet.bl36:Array Bool:=#[t,t,t,t,t,t,t,f,f,f,f,f,f,f,f,f,f]
abbrev spec_GenMeet.bl37:Array Bool:=#[t,t,t,t,t,t,t,f,t,f,f,f,f,f,f,f,f]
abbrev spec_GenMeet.bl38:Array Bool:=#[t,t,t,t,t,t,t,f,t,f,f,f,t,f,f,f,f]
abbrev spec_GenMeet.bl39:Array Bool:=#[t,t,t,t,t,t,t,f,t,f,f,f,t,t,f,f,f]
abbrev spec_GenMeet.bl40:Array Bool:=#[t,t,t,t,t,t,t,f,t,f,f,f,t,t,t,f,f]
abbrev spec_GenMeet.bl41:Array Bool:=#[t,t,t,t,t,t,t,t,t,f,f,f,t,t,t,f,f]
abbrev spec_GenMeet.bl42:Array Bool:=#[t,t,t,t,t,t,t,t,t,t,f,f,t,t,t,f,f]
abbrev spec_GenMeet.bl43:Array Bool:=#[t,t,t,t,t,t,t,t,t,t,t,f,t,t,t,f,f]
abbrev spec_GenMeet.bl44:Array Bool:=#[t,t,t,t,t,t,t,t,t,t,t,t,t,t,t,f,f]
abbrev spec_GenMeet.bl45:Array Bool:=#[t,t,t,t,t,t,t,t,t,t,t,t,t,t,t,t,f]
abbrev spec_GenMeet.bl46:Array Bool:=#[t,t,t,t,t,t,t,t,t,t,t,t,t,t,t,t,t]
abbrev spec_GenMeet.bl47:Array Bool:=#[t,t,t,t,t,t,t,t,f,f,f,f,f,f,f,f,f]
abbrev spec_GenMeet.bl48:Array Bool:=#[t,t,t,t,t,t,t,t,t,f,f,f,f,f,f,f,f]
abbrev spec_GenMeet.bl49:Array Bool:=#[t,t,t,t,t,t,t,t,t,t,f,f,f,f,f,f,f]
abbrev spec_GenMeet.bl50:Array Bool:=#[t,t,t,t,t,t,t,t,t,t,t,f,f,f,f,f,f]
abbrev spec_GenMeet.bl51:Array Bool:=#[t,t,t,t,t,t,t,t,t,t,t,t,f,f,f,f,f]
abbrev spec_GenMeet.bl52:Array Bool:=#[t,t,t,t,t,t,t,t,t,t,t,t,t,f,f,f,f]
abbrev spec_GenMeet.bl53:Array Bool:=#[t,t,t,t,t,t,t,t,t,t,t,t,t,t,f,f,f]
abbrev spec_GenMeet.bl54:Array Bool:=#[t,f,t,f,f,t,f,f,f,f,f,f,f,f]
abbrev spec_GenMeet.bl55:Array Bool:=#[t,f,t,f,f,t,f,t,f,f,f,f,f,f]
abbrev spec_GenMeet.bl56:Array Bool:=#[t,t,t,f,f,t,f,t,f,f,f,f,f,f]
abbrev spec_GenMeet.bl57:Array Bool:=#[t,t,t,t,f,t,f,t,f,f,f,f,f,f]
abbrev spec_GenMeet.bl58:Array Bool:=#[t,t,t,t,t,t,f,t,f,f,f,f,f,f]
abbrev spec_GenMeet.bl59:Array Bool:=#[t,t,t,t,t,t,t,t,t,t,f,t,f,f]
abbrev spec_GenMeet.bl60:Array Bool:=#[f,f,f,f,f,f,f,f,f,f,f,f,f]
abbrev spec_GenMeet.bl61:Array Bool:=#[t,f,f,f,f,f,f,f,f,f,f,f,f]
abbrev spec_GenMeet.bl62:Array Bool:=#[t,f,t,f,f,f,f,f,f,f,f,f,f]
abbrev spec_GenMeet.bl63:Array Bool:=#[t,f,t,t,f,f,f,f,f,f,f,f,f]
abbrev spec_GenMeet.bl64:Array Bool:=#[t,f,t,t,t,f,f,f,f,f,f,f,f]
abbrev spec_GenMeet.bl65:Array Bool:=#[t,t,t,t,t,f,f,f,f,f,f,f,f]
abbrev spec_GenMeet.bl66:Array Bool:=#[t,t,t,t,t,t,f,f,f,f,f,f,f]
abbrev spec_GenMeet.bl67:Array Bool:=#[t,t,t,t,t,t,t,f,f,f,f,f,f]
abbrev spec_GenMeet.bl68:Array Bool:=#[t,t,t,t,t,t,t,t,f,f,f,f,f]
abbrev spec_GenMeet.bl69:Array Bool:=#[t,t,t,t,t,t,t,t,f,t,f,f,f]
abbrev spec_GenMeet.bl70:Array Bool:=#[t,t,t,t,t,t,t,t,t,t,f,f,f]
abbrev spec_GenMeet.bl71:Array Bool:=#[t,t,t,t,t,t,t,t,t,t,t,f,f]
abbrev spec_GenMeet.bl72:Array Bool:=#[t,t,t,t,t,t,t,t,t,t,t,t,f]
abbrev spec_GenMeet.bl73:Array Bool:=#[t,t,t,t,t,t,t,t,t,t,t,t,t]
abbrev spec_GenMeet.bl74:Array Bool:=#[f,f,f,f,f,f,f,f,f,f,f,f,f,f,f,f,f,f,f,f,f,f,f,f,f,f,f,f,f,f,f]
abbrev spec_GenMeet.bl75:Array Bool:=#[t,f,f,f,f,f,f,f,f,f,f,f,f,f,f,f,f,f,f,f,f,f,f,f,f,f,f,f,f,f,f]
abbrev spec_GenMeet.bl76:Array Bool:=#[t,f,t,f,f,f,f,f,f,f,f,f,f,f,f,f,f,f,f,f,f,f,f,f,f,f,f,f,f,f,f]
abbrev spec_GenMeet.bl77:Array Bool:=#[t,f,t,t,f,f,f,f,f,f,f,f,f,f,f,f,f,f,f,f,f,f,f,f,f,f,f,f,f,f,f]
abbrev spec_GenMeet.bl78:Array Bool:=#[t,f,t,t,t,f,f,f,f,f,f,f,f,f,f,f,f,f,f,f,f,f,f,f,f,f,f,f,f,f,f]
abbrev spec_GenMeet.bl79:Array Bool:=#[t,f,t,t,t,f,t,f,f,f,f,f,f,f,f,f,f,f,f,f,f,f,f,f,f,f,f,f,f,f,f]
abbrev spec_GenMeet.bl80:Array Bool:=#[t,f,t,t,t,f,t,f,t,f,f,f,f,f,f,f,f,f,f,f,f,f,f,f,f,f,f,f,f,f,f]
abbrev spec_GenMeet.bl81:Array Bool:=#[t,f,t,t,t,f,t,f,t,t,f,f,f,f,f,f,f,f,f,f,f,f,f,f,f,f,f,f,f,f,f]
abbrev spec_GenMeet.bl82:Array Bool:=#[t,f,t,t,t,f,t,f,t,t,f,t,f,f,f,f,f,f,f,f,f,f,f,f,f,f,f,f,f,f,f]
abbrev spec_GenMeet.bl83:Array Bool:=#[t,f,t,t,t,f,t,f,t,t,f,t,f,t,f,f,f,f,f,f,f,f,f,f,f,f,f,f,f,f,f]
abbrev spec_GenMeet.bl84:Array Bool:=#[t,f,t,t,t,f,t,f,t,t,f,t,f,t,f,f,f,f,t,f,f,f,f,f,f,f,f,f,f,f,f]
abbrev spec_GenMeet.bl85:Array Bool:=#[t,f,t,t,t,f,t,f,t,t,f,t,f,t,f,f,f,f,t,f,t,f,f,f,f,f,f,f,f,f,f]
abbrev spec_GenMeet.bl86:Array Bool:=#[t,f,t,t,t,f,t,f,t,t,f,t,f,t,f,f,f,f,t,f,t,f,t,f,f,f,f,f,f,f,f]
abbrev spec_GenMeet.bl87:Array Bool:=#[t,t,t,t,t,f,t,f,t,t,f,t,f,t,f,f,f,f,t,f,t,f,t,f,f,f,f,f,f,f,f]
abbrev spec_GenMeet.bl88:Array Bool:=#[t,t,t,t,t,t,t,f,t,t,f,t,f,t,f,f,f,f,t,f,t,f,t,f,f,f,f,f,f,f,f]
abbrev spec_GenMeet.bl89:Array Bool:=#[t,t,t,t,t,t,t,t,t,t,f,t,f,t,f,f,f,f,t,f,t,f,t,f,f,f,f,f,f,f,f]
abbrev spec_GenMeet.bl90:Array Bool:=#[t,t,t,t,t,t,t,t,t,t,t,t,f,t,f,f,f,f,t,f,t,f,t,f,f,f,f,f,f,f,f]
abbrev spec_GenMeet.bl91:Array Bool:=#[t,t,t,t,t,t,t,t,t,t,t,t,t,t,f,f,f,f,t,f,t,f,t,f,f,f,f,f,f,f,f]
abbrev spec_GenMeet.bl92:Array Bool:=#[t,t,t,t,t,t,t,t,t,t,t,t,t,t,t,f,f,f,t,f,t,f,t,f,f,f,f,f,f,f,f]
abbrev spec_GenMeet.bl93:Array Bool:=#[t,t,t,t,t,t,t,t,t,t,t,t,t,t,t,t,f,f,t,f,t,f,t,f,f,f,f,f,f,f,f]
abbrev spec_GenMeet.bl94:Array Bool:=#[t,t,t,t,t,t,t,t,t,t,t,t,t,t,t,t,t,f,t,f,t,f,t,f,f,f,f,f,f,f,f]
abbrev spec_GenMeet.bl95:Array Bool:=#[t,t,t,t,t,t,t,t,t,t,t,t,t,t,t,t,t,t,t,f,t,f,t,f,f,f,f,f,f,f,f]
abbrev spec_GenMeet.bl96:Array Bool:=#[t,t,t,t,t,t,t,t,t,t,t,t,t,t,t,t,t,t,t,t,t,f,t,f,f,f,f,f,f,f,f]
abbrev spec_GenMeet.bl97:Array Bool:=#[t,t,t,t,t,t,t,t,t,t,t,t,t,t,t,t,t,t,t,t,t,t,t,f,f,f,f,f,f,f,f]
abbrev spec_GenMeet.bl98:Array Bool:=#[t,t,t,t,t,t,t,t,t,t,t,t,t,t,t,t,t,t,t,t,t,t,t,t,f,f,f,f,f,f,f]
abbrev spec_GenMeet.bl99:Array Bool:=#[t,t,t,t,t,t,t,t,t,t,t,t,t,t,t,t,t,t,t,t,t,t,t,t,t,f,f,f,f,f,f]
abbrev spec_GenMeet.bl100:Array Bool:=#[t,t,t,t,t,t,t,t,t,t,t,t,t,t,t,t,t,t,t,t,t,t,t,t,t,t,f,f,f,f,f]
abbrev spec_GenMeet.bl101:Array Bool:=#[t,t,t,t,t,t,t,t,t,t,t,t,t,t,t,t,t,t,t,t,t,t,t,t,t,t,t,f,f,f,f]
abbrev spec_GenMeet.bl102:Array Bool:=#[t,t,t,t,t,t,t,t,t,t,t,t,t,t,t,t,t,t,t,t,t,t,t,t,t,t,t,t,f,f,f]
abbrev spec_GenMeet.bl103:Array Bool:=#[t,t,t,t,t,t,t,t,t,t,t,t,t,t,t,t,t,t,t,t,t,t,t,t,t,t,t,t,t,f,f]
abbrev spec_GenMeet.bl104:Array Bool:=#[t,t,t,t,t,t,t,t,t,t,t,t,t,t,t,t,t,t,t,t,t,t,t,t,t,t,t,t,t,t,f]
abbrev spec_GenMeet.bl105:Array Bool:=#[t,t,t,t,t,t,t,t,t,t,t,t,t,t,t,t,t,t,t,t,t,t,t,t,t,t,t,t,t,t,t]
abbrev spec_GenMeet.bl106:Array Bool:=#[t,t,t,t,t,t,t,t,t,f,f,f,f]
end
mutual
def spec_GenMeet.j0:Nat→Bool→Int→Int→Int→Int→List (S43)→Int→Int→Int→Int→List (S43)→Option (Int × Int × Int × Int × (List (S43)) × Bool)
 | 0,_,_,_,_,_,_,_,_,_,_,_=>none
 | k+1,x37,x181000,x181001,x181002,x181003,x181004,x182000,x182001,x182002,x182003,x182004=>if x37=true then (some (0,0,0,0,([]:List (S43)),false)) else ((spec_l5Pairs.f k x181000 x181001 x181002 x181003 x181004 x182000 x182001 x182002 x182003 x182004).bind fun bt185=>(if bt185.2>31 then (some (0,0,0,0,([]:List (S43)),false)) else (spec_GenMeet.l0 k bt185.1 x182001 0 x181000 x181001 x181002 x181003 x181004 x182000 x182001 x182002 x182003 x182004 x181000 bt185.2 0 (wrap64 (x181003+x182003)) ([]:List (S43)))))
def spec_GenMeet.l0:Nat→List Int→Int→Int→Int→Int→Int→Int→List (S43)→Int→Int→Int→Int→List (S43)→Int→Int→Int→Int→List (S43)→Option (Int × Int × Int × Int × (List (S43)) × Bool)
 | 0,_,_,_,_,_,_,_,_,_,_,_,_,_,_,_,_,_,_=>none
 | k+1,x6,x9,x10,x181000,x181001,x181002,x181003,x181004,x182000,x182001,x182002,x182003,x182004,x190000,x190001,x190002,x190003,x190004=>if x10<(x6.length:Int) then (if 0≤x10 then (if (rd x6 x10)<0 then (spec_GenMeet.l0 k x6 x9 (wrap64 (x10+1)) x181000 x181001 x181002 x181003 x181004 x182000 x182001 x182002 x182003 x182004 x190000 x190001 x190002 x190003 x190004) else (if x9=0 then (none) else ((spec_l1Has.f x181002 (wrap64 (Int.tdiv x10 x9))).bind fun t198=>(if t198=true then ((spec_l1Has.f x182002 (Int.tmod x10 x9)).bind fun t199=>(spec_GenMeet.j2 k x6 x9 x10 t199 x181000 x181001 x181002 x181003 x181004 x182000 x182001 x182002 x182003 x182004 x190000 x190001 x190002 x190003 x190004)) else (spec_GenMeet.j2 k x6 x9 x10 false x181000 x181001 x181002 x181003 x181004 x182000 x182001 x182002 x182003 x182004 x190000 x190001 x190002 x190003 x190004))))) else (none)) else (if (x190004.length:Int)>2000 then (some (0,0,0,0,([]:List (S43)),false)) else ((spec_l5Sort.f k x190000 x190001 x190002 x190003 x190004).bind fun bt190=>(some (bt190.1,bt190.2.1,bt190.2.2.1,bt190.2.2.2.1,bt190.2.2.2.2,true))))
def spec_GenMeet.j2:Nat→List Int→Int→Int→Bool→Int→Int→Int→Int→List (S43)→Int→Int→Int→Int→List (S43)→Int→Int→Int→Int→List (S43)→Option (Int × Int × Int × Int × (List (S43)) × Bool)
 | 0,_,_,_,_,_,_,_,_,_,_,_,_,_,_,_,_,_,_,_=>none
 | k+1,x6,x9,x10,x83,x181000,x181001,x181002,x181003,x181004,x182000,x182001,x182002,x182003,x182004,x190000,x190001,x190002,x190003,x190004=>if x83=true then (if 0≤x10 then (if x10<(x6.length:Int) then ((spec_l1Bit.f (rd x6 x10)).bind fun t201=>(spec_GenMeet.j3 k x6 x9 x10 x181000 x181001 x181002 x181003 x181004 x182000 x182001 x182002 x182003 x182004 x190000 x190001 (Go.bits .or .i64 x190002 t201) x190003 x190004)) else (none)) else (none)) else (spec_GenMeet.j3 k x6 x9 x10 x181000 x181001 x181002 x181003 x181004 x182000 x182001 x182002 x182003 x182004 x190000 x190001 x190002 x190003 x190004)
def spec_GenMeet.j3:Nat→List Int→Int→Int→Int→Int→Int→Int→List (S43)→Int→Int→Int→Int→List (S43)→Int→Int→Int→Int→List (S43)→Option (Int × Int × Int × Int × (List (S43)) × Bool)
 | 0,_,_,_,_,_,_,_,_,_,_,_,_,_,_,_,_,_,_=>none
 | k+1,x6,x9,x10,x181000,x181001,x181002,x181003,x181004,x182000,x182001,x182002,x182003,x182004,x190000,x190001,x190002,x190003,x190004=>spec_GenMeet.l1 k x6 x9 x10 0 x181000 x181001 x181002 x181003 x181004 x182000 x182001 x182002 x182003 x182004 x190000 x190001 x190002 x190003 x190004
def spec_GenMeet.l1:Nat→List Int→Int→Int→Int→Int→Int→Int→Int→List (S43)→Int→Int→Int→Int→List (S43)→Int→Int→Int→Int→List (S43)→Option (Int × Int × Int × Int × (List (S43)) × Bool)
 | 0,_,_,_,_,_,_,_,_,_,_,_,_,_,_,_,_,_,_,_=>none
 | k+1,x6,x9,x10,x11,x181000,x181001,x181002,x181003,x181004,x182000,x182001,x182002,x182003,x182004,x190000,x190001,x190002,x190003,x190004=>if x11<(x181004.length:Int) then (spec_GenMeet.l2 k x6 x9 x10 x11 0 x181000 x181001 x181002 x181003 x181004 x182000 x182001 x182002 x182003 x182004 x190000 x190001 x190002 x190003 x190004) else (spec_GenMeet.l0 k x6 x9 (wrap64 (x10+1)) x181000 x181001 x181002 x181003 x181004 x182000 x182001 x182002 x182003 x182004 x190000 x190001 x190002 x190003 x190004)
def spec_GenMeet.l2:Nat→List Int→Int→Int→Int→Int→Int→Int→Int→Int→List (S43)→Int→Int→Int→Int→List (S43)→Int→Int→Int→Int→List (S43)→Option (Int × Int × Int × Int × (List (S43)) × Bool)
 | 0,_,_,_,_,_,_,_,_,_,_,_,_,_,_,_,_,_,_,_,_=>none
 | k+1,x6,x9,x10,x11,x12,x181000,x181001,x181002,x181003,x181004,x182000,x182001,x182002,x182003,x182004,x190000,x190001,x190002,x190003,x190004=>if x12<(x182004.length:Int) then (if 0≤x11 then (if x11<(x181004.length:Int) then (if x9=0 then (none) else (spec_GenMeet.j6 k x6 x9 x10 x11 x12 (((rd_T43 x181004 x11).f0) == (wrap64 (Int.tdiv x10 x9))) x181000 x181001 x181002 x181003 x181004 x182000 x182001 x182002 x182003 x182004 x190000 x190001 x190002 x190003 x190004)) else (none)) else (none)) else (spec_GenMeet.j6 k x6 x9 x10 x11 x12 false x181000 x181001 x181002 x181003 x181004 x182000 x182001 x182002 x182003 x182004 x190000 x190001 x190002 x190003 x190004)
def spec_GenMeet.j6:Nat→List Int→Int→Int→Int→Int→Bool→Int→Int→Int→Int→List (S43)→Int→Int→Int→Int→List (S43)→Int→Int→Int→Int→List (S43)→Option (Int × Int × Int × Int × (List (S43)) × Bool)
 | 0,_,_,_,_,_,_,_,_,_,_,_,_,_,_,_,_,_,_,_,_,_=>none
 | k+1,x6,x9,x10,x11,x12,x116,x181000,x181001,x181002,x181003,x181004,x182000,x182001,x182002,x182003,x182004,x190000,x190001,x190002,x190003,x190004=>if x116=true then (if 0≤x11 then (if x11<(x181004.length:Int) then (if 0≤x12 then (if x12<(x182004.length:Int) then (if x9=0 then (none) else (if ((rd_T43 x182004 x12).f0)=(Int.tmod x10 x9) then (if ((rd_T43 x181004 x11).f1)=((rd_T43 x182004 x12).f1) then (if 0≤x10 then (if x10<(x6.length:Int) then (if 0≤(wrap64 ((wrap64 (((rd_T43 x181004 x11).f2) * x9))+((rd_T43 x182004 x12).f2))) then (if (wrap64 ((wrap64 (((rd_T43 x181004 x11).f2) * x9))+((rd_T43 x182004 x12).f2)))<(x6.length:Int) then (if 0≤x181003 then (if x190004.length<4398046511104 then (spec_GenMeet.l2 k x6 x9 x10 x11 (wrap64 (x12+1)) x181000 x181001 x181002 x181003 x181004 x182000 x182001 x182002 x182003 x182004 x190000 x190001 x190002 x190003 (x190004 ++ [(⟨rd x6 x10,(rd_T43 x181004 x11).f1,rd x6 (wrap64 ((wrap64 (((rd_T43 x181004 x11).f2) * x9))+((rd_T43 x182004 x12).f2))),Go.bits .or .i64 ((rd_T43 x181004 x11).f3) (shl .i64 ((rd_T43 x182004 x12).f3) x181003)⟩:S43)])) else (none)) else (none)) else (none)) else (none)) else (none)) else (none)) else (spec_GenMeet.l2 k x6 x9 x10 x11 (wrap64 (x12+1)) x181000 x181001 x181002 x181003 x181004 x182000 x182001 x182002 x182003 x182004 x190000 x190001 x190002 x190003 x190004)) else (spec_GenMeet.l2 k x6 x9 x10 x11 (wrap64 (x12+1)) x181000 x181001 x181002 x181003 x181004 x182000 x182001 x182002 x182003 x182004 x190000 x190001 x190002 x190003 x190004))) else (none)) else (none)) else (none)) else (none)) else (spec_GenMeet.l1 k x6 x9 x10 (wrap64 (x11+1)) x181000 x181001 x181002 x181003 x181004 x182000 x182001 x182002 x182003 x182004 x190000 x190001 x190002 x190003 x190004)
end
def spec_GenMeet.f (k:Nat) (a0_0:Int) (a0_1:Int) (a0_2:Int) (a0_3:Int) (l0_4:List (S43)) (a1_0:Int) (a1_1:Int) (a1_2:Int) (a1_3:Int) (l1_4:List (S43)):Option (Int × Int × Int × Int × (List (S43)) × Bool):=(spec_GenOk.f k a0_0 a0_1 a0_2 a0_3 l0_4).bind fun t183=>(if t183=true then ((spec_GenOk.f k a1_0 a1_1 a1_2 a1_3 l1_4).bind fun t184=>(if t184=true then (if a0_0=a1_0 then (spec_GenMeet.j0 k (decide ((wrap64 (a0_3+a1_3))>4)) a0_0 a0_1 a0_2 a0_3 l0_4 a1_0 a1_1 a1_2 a1_3 l1_4) else (spec_GenMeet.j0 k true a0_0 a0_1 a0_2 a0_3 l0_4 a1_0 a1_1 a1_2 a1_3 l1_4)) else (spec_GenMeet.j0 k true a0_0 a0_1 a0_2 a0_3 l0_4 a1_0 a1_1 a1_2 a1_3 l1_4))) else (spec_GenMeet.j0 k true a0_0 a0_1 a0_2 a0_3 l0_4 a1_0 a1_1 a1_2 a1_3 l1_4))
theorem spec_GenMeet.mono_l:∀ k,(∀ y0 y1 y2 y3 y4 y5 y6 y7 y8 y9 y10,LeO (spec_GenMeet.j0 k y0 y1 y2 y3 y4 y5 y6 y7 y8 y9 y10) (spec_GenMeet.j0 (k+1) y0 y1 y2 y3 y4 y5 y6 y7 y8 y9 y10))∧(∀ y0 y1 y2 y3 y4 y5 y6 y7 y8 y9 y10 y11 y12 y13 y14 y15 y16 y17,LeO (spec_GenMeet.l0 k y0 y1 y2 y3 y4 y5 y6 y7 y8 y9 y10 y11 y12 y13 y14 y15 y16 y17) (spec_GenMeet.l0 (k+1) y0 y1 y2 y3 y4 y5 y6 y7 y8 y9 y10 y11 y12 y13 y14 y15 y16 y17))∧(∀ y0 y1 y2 y3 y4 y5 y6 y7 y8 y9 y10 y11 y12 y13 y14 y15 y16 y17 y18,LeO (spec_GenMeet.j2 k y0 y1 y2 y3 y4 y5 y6 y7 y8 y9 y10 y11 y12 y13 y14 y15 y16 y17 y18) (spec_GenMeet.j2 (k+1) y0 y1 y2 y3 y4 y5 y6 y7 y8 y9 y10 y11 y12 y13 y14 y15 y16 y17 y18))∧(∀ y0 y1 y2 y3 y4 y5 y6 y7 y8 y9 y10 y11 y12 y13 y14 y15 y16 y17,LeO (spec_GenMeet.j3 k y0 y1 y2 y3 y4 y5 y6 y7 y8 y9 y10 y11 y12 y13 y14 y15 y16 y17) (spec_GenMeet.j3 (k+1) y0 y1 y2 y3 y4 y5 y6 y7 y8 y9 y10 y11 y12 y13 y14 y15 y16 y17))∧(∀ y0 y1 y2 y3 y4 y5 y6 y7 y8 y9 y10 y11 y12 y13 y14 y15 y16 y17 y18,LeO (spec_GenMeet.l1 k y0 y1 y2 y3 y4 y5 y6 y7 y8 y9 y10 y11 y12 y13 y14 y15 y16 y17 y18) (spec_GenMeet.l1 (k+1) y0 y1 y2 y3 y4 y5 y6 y7 y8 y9 y10 y11 y12 y13 y14 y15 y16 y17 y18))∧(∀ y0 y1 y2 y3 y4 y5 y6 y7 y8 y9 y10 y11 y12 y13 y14 y15 y16 y17 y18 y19,LeO (spec_GenMeet.l2 k y0 y1 y2 y3 y4 y5 y6 y7 y8 y9 y10 y11 y12 y13 y14 y15 y16 y17 y18 y19) (spec_GenMeet.l2 (k+1) y0 y1 y2 y3 y4 y5 y6 y7 y8 y9 y10 y11 y12 y13 y14 y15 y16 y17 y18 y19))∧(∀ y0 y1 y2 y3 y4 y5 y6 y7 y8 y9 y10 y11 y12 y13 y14 y15 y16 y17 y18 y19 y20,LeO (spec_GenMeet.j6 k y0 y1 y2 y3 y4 y5 y6 y7 y8 y9 y10 y11 y12 y13 y14 y15 y16 y17 y18 y19 y20) (spec_GenMeet.j6 (k+1) y0 y1 y2 y3 y4 y5 y6 y7 y8 y9 y10 y11 y12 y13 y14 y15 y16 y17 y18 y19 y20))
 | 0=>⟨fun _ _ _ _ _ _ _ _ _ _ _ r h=>by simp[spec_GenMeet.j0]at h,fun _ _ _ _ _ _ _ _ _ _ _ _ _ _ _ _ _ _ r h=>by simp[spec_GenMeet.l0]at h,fun _ _ _ _ _ _ _ _ _ _ _ _ _ _ _ _ _ _ _ r h=>by simp[spec_GenMeet.j2]at h,fun _ _ _ _ _ _ _ _ _ _ _ _ _ _ _ _ _ _ r h=>by simp[spec_GenMeet.j3]at h,fun _ _ _ _ _ _ _ _ _ _ _ _ _ _ _ _ _ _ _ r h=>by simp[spec_GenMeet.l1]at h,fun _ _ _ _ _ _ _ _ _ _ _ _ _ _ _ _ _ _ _ _ r h=>by simp[spec_GenMeet.l2]at h,fun _ _ _ _ _ _ _ _ _ _ _ _ _ _ _ _ _ _ _ _ _ r h=>by simp[spec_GenMeet.j6]at h⟩
 | k+1=>by
  obtain ⟨ih0,ih1,ih2,ih3,ih4,ih5,ih6⟩:=spec_GenMeet.mono_l k;refine ⟨?_,?_,?_,?_,?_,?_,?_⟩
  ·intro y0 y1 y2 y3 y4 y5 y6 y7 y8 y9 y10;unfold spec_GenMeet.j0;repeat' first
   | (with_reducible exact ih0 _ _ _ _ _ _ _ _ _ _ _)
   | (with_reducible exact ih1 _ _ _ _ _ _ _ _ _ _ _ _ _ _ _ _ _ _)
   | (with_reducible exact ih2 _ _ _ _ _ _ _ _ _ _ _ _ _ _ _ _ _ _ _)
   | (with_reducible exact ih3 _ _ _ _ _ _ _ _ _ _ _ _ _ _ _ _ _ _)
   | (with_reducible exact ih4 _ _ _ _ _ _ _ _ _ _ _ _ _ _ _ _ _ _ _)
   | (with_reducible exact ih5 _ _ _ _ _ _ _ _ _ _ _ _ _ _ _ _ _ _ _ _)
   | (with_reducible exact ih6 _ _ _ _ _ _ _ _ _ _ _ _ _ _ _ _ _ _ _ _ _)
   | (with_reducible exact spec_GenOk.mono _ _ _ _ _ _)
   | (with_reducible exact spec_l5Pairs.mono _ _ _ _ _ _ _ _ _ _ _)
   | (with_reducible exact spec_l5Sort.mono _ _ _ _ _ _)
   | (with_reducible exact LeO.refl _)
   | (with_reducible exact LeO.none _)
   | (with_reducible refine LeO.ite ?_ ?_)
   | (with_reducible refine LeO.bind ?_ (fun _=>?_))
   | exact ih0 _ _ _ _ _ _ _ _ _ _ _
   | exact ih1 _ _ _ _ _ _ _ _ _ _ _ _ _ _ _ _ _ _
   | exact ih2 _ _ _ _ _ _ _ _ _ _ _ _ _ _ _ _ _ _ _
   | exact ih3 _ _ _ _ _ _ _ _ _ _ _ _ _ _ _ _ _ _
   | exact ih4 _ _ _ _ _ _ _ _ _ _ _ _ _ _ _ _ _ _ _
   | exact ih5 _ _ _ _ _ _ _ _ _ _ _ _ _ _ _ _ _ _ _ _
   | exact ih6 _ _ _ _ _ _ _ _ _ _ _ _ _ _ _ _ _ _ _ _ _
   | exact spec_GenOk.mono _ _ _ _ _ _
   | exact spec_l5Pairs.mono _ _ _ _ _ _ _ _ _ _ _
   | exact spec_l5Sort.mono _ _ _ _ _ _
   | exact LeO.none _
   | refine LeO.ite ?_ ?_
   | refine LeO.bind ?_ (fun _=>?_)
  ·intro y0 y1 y2 y3 y4 y5 y6 y7 y8 y9 y10 y11 y12 y13 y14 y15 y16 y17;unfold spec_GenMeet.l0;repeat' first
   | (with_reducible exact ih0 _ _ _ _ _ _ _ _ _ _ _)
   | (with_reducible exact ih1 _ _ _ _ _ _ _ _ _ _ _ _ _ _ _ _ _ _)
   | (with_reducible exact ih2 _ _ _ _ _ _ _ _ _ _ _ _ _ _ _ _ _ _ _)
   | (with_reducible exact ih3 _ _ _ _ _ _ _ _ _ _ _ _ _ _ _ _ _ _)
   | (with_reducible exact ih4 _ _ _ _ _ _ _ _ _ _ _ _ _ _ _ _ _ _ _)
   | (with_reducible exact ih5 _ _ _ _ _ _ _ _ _ _ _ _ _ _ _ _ _ _ _ _)
   | (with_reducible exact ih6 _ _ _ _ _ _ _ _ _ _ _ _ _ _ _ _ _ _ _ _ _)
   | (with_reducible exact spec_GenOk.mono _ _ _ _ _ _)
   | (with_reducible exact spec_l5Pairs.mono _ _ _ _ _ _ _ _ _ _ _)
   | (with_reducible exact spec_l5Sort.mono _ _ _ _ _ _)
   | (with_reducible exact LeO.refl _)
   | (with_reducible exact LeO.none _)
   | (with_reducible refine LeO.ite ?_ ?_)
   | (with_reducible refine LeO.bind ?_ (fun _=>?_))
   | exact ih0 _ _ _ _ _ _ _ _ _ _ _
   | exact ih1 _ _ _ _ _ _ _ _ _ _ _ _ _ _ _ _ _ _
   | exact ih2 _ _ _ _ _ _ _ _ _ _ _ _ _ _ _ _ _ _ _
   | exact ih3 _ _ _ _ _ _ _ _ _ _ _ _ _ _ _ _ _ _
   | exact ih4 _ _ _ _ _ _ _ _ _ _ _ _ _ _ _ _ _ _ _
   | exact ih5 _ _ _ _ _ _ _ _ _ _ _ _ _ _ _ _ _ _ _ _
   | exact ih6 _ _ _ _ _ _ _ _ _ _ _ _ _ _ _ _ _ _ _ _ _
   | exact spec_GenOk.mono _ _ _ _ _ _
   | exact spec_l5Pairs.mono _ _ _ _ _ _ _ _ _ _ _
   | exact spec_l5Sort.mono _ _ _ _ _ _
   | exact LeO.none _
   | refine LeO.ite ?_ ?_
   | refine LeO.bind ?_ (fun _=>?_)
  ·intro y0 y1 y2 y3 y4 y5 y6 y7 y8 y9 y10 y11 y12 y13 y14 y15 y16 y17 y18;unfold spec_GenMeet.j2;repeat' first
   | (with_reducible exact ih0 _ _ _ _ _ _ _ _ _ _ _)
   | (with_reducible exact ih1 _ _ _ _ _ _ _ _ _ _ _ _ _ _ _ _ _ _)
   | (with_reducible exact ih2 _ _ _ _ _ _ _ _ _ _ _ _ _ _ _ _ _ _ _)
   | (with_reducible exact ih3 _ _ _ _ _ _ _ _ _ _ _ _ _ _ _ _ _ _)
   | (with_reducible exact ih4 _ _ _ _ _ _ _ _ _ _ _ _ _ _ _ _ _ _ _)
   | (with_reducible exact ih5 _ _ _ _ _ _ _ _ _ _ _ _ _ _ _ _ _ _ _ _)
   | (with_reducible exact ih6 _ _ _ _ _ _ _ _ _ _ _ _ _ _ _ _ _ _ _ _ _)
   | (with_reducible exact spec_GenOk.mono _ _ _ _ _ _)
   | (with_reducible exact spec_l5Pairs.mono _ _ _ _ _ _ _ _ _ _ _)
   | (with_reducible exact spec_l5Sort.mono _ _ _ _ _ _)
   | (with_reducible exact LeO.refl _)
   | (with_reducible exact LeO.none _)
   | (with_reducible refine LeO.ite ?_ ?_)
   | (with_reducible refine LeO.bind ?_ (fun _=>?_))
   | exact ih0 _ _ _ _ _ _ _ _ _ _ _
   | exact ih1 _ _ _ _ _ _ _ _ _ _ _ _ _ _ _ _ _ _
   | exact ih2 _ _ _ _ _ _ _ _ _ _ _ _ _ _ _ _ _ _ _
   | exact ih3 _ _ _ _ _ _ _ _ _ _ _ _ _ _ _ _ _ _
   | exact ih4 _ _ _ _ _ _ _ _ _ _ _ _ _ _ _ _ _ _ _
   | exact ih5 _ _ _ _ _ _ _ _ _ _ _ _ _ _ _ _ _ _ _ _
   | exact ih6 _ _ _ _ _ _ _ _ _ _ _ _ _ _ _ _ _ _ _ _ _
   | exact spec_GenOk.mono _ _ _ _ _ _
   | exact spec_l5Pairs.mono _ _ _ _ _ _ _ _ _ _ _
   | exact spec_l5Sort.mono _ _ _ _ _ _
   | exact LeO.none _
   | refine LeO.ite ?_ ?_
   | refine LeO.bind ?_ (fun _=>?_)
  ·intro y0 y1 y2 y3 y4 y5 y6 y7 y8 y9 y10 y11 y12 y13 y14 y15 y16 y17;unfold spec_GenMeet.j3;repeat' first
   | (with_reducible exact ih0 _ _ _ _ _ _ _ _ _ _ _)
   | (with_reducible exact ih1 _ _ _ _ _ _ _ _ _ _ _ _ _ _ _ _ _ _)
   | (with_reducible exact ih2 _ _ _ _ _ _ _ _ _ _ _ _ _ _ _ _ _ _ _)
   | (with_reducible exact ih3 _ _ _ _ _ _ _ _ _ _ _ _ _ _ _ _ _ _)
   | (with_reducible exact ih4 _ _ _ _ _ _ _ _ _ _ _ _ _ _ _ _ _ _ _)
   | (with_reducible exact ih5 _ _ _ _ _ _ _ _ _ _ _ _ _ _ _ _ _ _ _ _)
   | (with_reducible exact ih6 _ _ _ _ _ _ _ _ _ _ _ _ _ _ _ _ _ _ _ _ _)
   | (with_reducible exact spec_GenOk.mono _ _ _ _ _ _)
   | (with_reducible exact spec_l5Pairs.mono _ _ _ _ _ _ _ _ _ _ _)
   | (with_reducible exact spec_l5Sort.mono _ _ _ _ _ _)
   | (with_reducible exact LeO.refl _)
   | (with_reducible exact LeO.none _)
   | (with_reducible refine LeO.ite ?_ ?_)
   | (with_reducible refine LeO.bind ?_ (fun _=>?_))
   | exact ih0 _ _ _ _ _ _ _ _ _ _ _
   | exact ih1 _ _ _ _ _ _ _ _ _ _ _ _ _ _ _ _ _ _
   | exact ih2 _ _ _ _ _ _ _ _ _ _ _ _ _ _ _ _ _ _ _
   | exact ih3 _ _ _ _ _ _ _ _ _ _ _ _ _ _ _ _ _ _
   | exact ih4 _ _ _ _ _ _ _ _ _ _ _ _ _ _ _ _ _ _ _
   | exact ih5 _ _ _ _ _ _ _ _ _ _ _ _ _ _ _ _ _ _ _ _
   | exact ih6 _ _ _ _ _ _ _ _ _ _ _ _ _ _ _ _ _ _ _ _ _
   | exact spec_GenOk.mono _ _ _ _ _ _
   | exact spec_l5Pairs.mono _ _ _ _ _ _ _ _ _ _ _
   | exact spec_l5Sort.mono _ _ _ _ _ _
   | exact LeO.none _
   | refine LeO.ite ?_ ?_
   | refine LeO.bind ?_ (fun _=>?_)
  ·intro y0 y1 y2 y3 y4 y5 y6 y7 y8 y9 y10 y11 y12 y13 y14 y15 y16 y17 y18;unfold spec_GenMeet.l1;repeat' first
   | (with_reducible exact ih0 _ _ _ _ _ _ _ _ _ _ _)
   | (with_reducible exact ih1 _ _ _ _ _ _ _ _ _ _ _ _ _ _ _ _ _ _)
   | (with_reducible exact ih2 _ _ _ _ _ _ _ _ _ _ _ _ _ _ _ _ _ _ _)
   | (with_reducible exact ih3 _ _ _ _ _ _ _ _ _ _ _ _ _ _ _ _ _ _)
   | (with_reducible exact ih4 _ _ _ _ _ _ _ _ _ _ _ _ _ _ _ _ _ _ _)
   | (with_reducible exact ih5 _ _ _ _ _ _ _ _ _ _ _ _ _ _ _ _ _ _ _ _)
   | (with_reducible exact ih6 _ _ _ _ _ _ _ _ _ _ _ _ _ _ _ _ _ _ _ _ _)
   | (with_reducible exact spec_GenOk.mono _ _ _ _ _ _)
   | (with_reducible exact spec_l5Pairs.mono _ _ _ _ _ _ _ _ _ _ _)
   | (with_reducible exact spec_l5Sort.mono _ _ _ _ _ _)
   | (with_reducible exact LeO.refl _)
   | (with_reducible exact LeO.none _)
   | (with_reducible refine LeO.ite ?_ ?_)
   | (with_reducible refine LeO.bind ?_ (fun _=>?_))
   | exact ih0 _ _ _ _ _ _ _ _ _ _ _
   | exact ih1 _ _ _ _ _ _ _ _ _ _ _ _ _ _ _ _ _ _
   | exact ih2 _ _ _ _ _ _ _ _ _ _ _ _ _ _ _ _ _ _ _
   | exact ih3 _ _ _ _ _ _ _ _ _ _ _ _ _ _ _ _ _ _
   | exact ih4 _ _ _ _ _ _ _ _ _ _ _ _ _ _ _ _ _ _ _
   | exact ih5 _ _ _ _ _ _ _ _ _ _ _ _ _ _ _ _ _ _ _ _
   | exact ih6 _ _ _ _ _ _ _ _ _ _ _ _ _ _ _ _ _ _ _ _ _
   | exact spec_GenOk.mono _ _ _ _ _ _
   | exact spec_l5Pairs.mono _ _ _ _ _ _ _ _ _ _ _
   | exact spec_l5Sort.mono _ _ _ _ _ _
   | exact LeO.none _
   | refine LeO.ite ?_ ?_
   | refine LeO.bind ?_ (fun _=>?_)
  ·intro y0 y1 y2 y3 y4 y5 y6 y7 y8 y9 y10 y11 y12 y13 y14 y15 y16 y17 y18 y19;unfold spec_GenMeet.l2;repeat' first
   | (with_reducible exact ih0 _ _ _ _ _ _ _ _ _ _ _)
   | (with_reducible exact ih1 _ _ _ _ _ _ _ _ _ _ _ _ _ _ _ _ _ _)
   | (with_reducible exact ih2 _ _ _ _ _ _ _ _ _ _ _ _ _ _ _ _ _ _ _)
   | (with_reducible exact ih3 _ _ _ _ _ _ _ _ _ _ _ _ _ _ _ _ _ _)
   | (with_reducible exact ih4 _ _ _ _ _ _ _ _ _ _ _ _ _ _ _ _ _ _ _)
   | (with_reducible exact ih5 _ _ _ _ _ _ _ _ _ _ _ _ _ _ _ _ _ _ _ _)
   | (with_reducible exact ih6 _ _ _ _ _ _ _ _ _ _ _ _ _ _ _ _ _ _ _ _ _)
   | (with_reducible exact spec_GenOk.mono _ _ _ _ _ _)
   | (with_reducible exact spec_l5Pairs.mono _ _ _ _ _ _ _ _ _ _ _)
   | (with_reducible exact spec_l5Sort.mono _ _ _ _ _ _)
   | (with_reducible exact LeO.refl _)
   | (with_reducible exact LeO.none _)
   | (with_reducible refine LeO.ite ?_ ?_)
   | (with_reducible refine LeO.bind ?_ (fun _=>?_))
   | exact ih0 _ _ _ _ _ _ _ _ _ _ _
   | exact ih1 _ _ _ _ _ _ _ _ _ _ _ _ _ _ _ _ _ _
   | exact ih2 _ _ _ _ _ _ _ _ _ _ _ _ _ _ _ _ _ _ _
   | exact ih3 _ _ _ _ _ _ _ _ _ _ _ _ _ _ _ _ _ _
   | exact ih4 _ _ _ _ _ _ _ _ _ _ _ _ _ _ _ _ _ _ _
   | exact ih5 _ _ _ _ _ _ _ _ _ _ _ _ _ _ _ _ _ _ _ _
   | exact ih6 _ _ _ _ _ _ _ _ _ _ _ _ _ _ _ _ _ _ _ _ _
   | exact spec_GenOk.mono _ _ _ _ _ _
   | exact spec_l5Pairs.mono _ _ _ _ _ _ _ _ _ _ _
   | exact spec_l5Sort.mono _ _ _ _ _ _
   | exact LeO.none _
   | refine LeO.ite ?_ ?_
   | refine LeO.bind ?_ (fun _=>?_)
  intro y0 y1 y2 y3 y4 y5 y6 y7 y8 y9 y10 y11 y12 y13 y14 y15 y16 y17 y18 y19 y20;unfold spec_GenMeet.j6;repeat' first
  | (with_reducible exact ih0 _ _ _ _ _ _ _ _ _ _ _)
  | (with_reducible exact ih1 _ _ _ _ _ _ _ _ _ _ _ _ _ _ _ _ _ _)
  | (with_reducible exact ih2 _ _ _ _ _ _ _ _ _ _ _ _ _ _ _ _ _ _ _)
  | (with_reducible exact ih3 _ _ _ _ _ _ _ _ _ _ _ _ _ _ _ _ _ _)
  | (with_reducible exact ih4 _ _ _ _ _ _ _ _ _ _ _ _ _ _ _ _ _ _ _)
  | (with_reducible exact ih5 _ _ _ _ _ _ _ _ _ _ _ _ _ _ _ _ _ _ _ _)
  | (with_reducible exact ih6 _ _ _ _ _ _ _ _ _ _ _ _ _ _ _ _ _ _ _ _ _)
  | (with_reducible exact spec_GenOk.mono _ _ _ _ _ _)
  | (with_reducible exact spec_l5Pairs.mono _ _ _ _ _ _ _ _ _ _ _)
  | (with_reducible exact spec_l5Sort.mono _ _ _ _ _ _)
  | (with_reducible exact LeO.refl _)
  | (with_reducible exact LeO.none _)
  | (with_reducible refine LeO.ite ?_ ?_)
  | (with_reducible refine LeO.bind ?_ (fun _=>?_))
  | exact ih0 _ _ _ _ _ _ _ _ _ _ _
  | exact ih1 _ _ _ _ _ _ _ _ _ _ _ _ _ _ _ _ _ _
  | exact ih2 _ _ _ _ _ _ _ _ _ _ _ _ _ _ _ _ _ _ _
  | exact ih3 _ _ _ _ _ _ _ _ _ _ _ _ _ _ _ _ _ _
  | exact ih4 _ _ _ _ _ _ _ _ _ _ _ _ _ _ _ _ _ _ _
  | exact ih5 _ _ _ _ _ _ _ _ _ _ _ _ _ _ _ _ _ _ _ _
  | exact ih6 _ _ _ _ _ _ _ _ _ _ _ _ _ _ _ _ _ _ _ _ _
  | exact spec_GenOk.mono _ _ _ _ _ _
  | exact spec_l5Pairs.mono _ _ _ _ _ _ _ _ _ _ _
  | exact spec_l5Sort.mono _ _ _ _ _ _
  | exact LeO.none _
  | refine LeO.ite ?_ ?_
  | refine LeO.bind ?_ (fun _=>?_)
theorem spec_GenMeet.mono:∀ a0 a1 a2 a3 a4 a5 a6 a7 a8 a9 k,LeO (spec_GenMeet.f k a0 a1 a2 a3 a4 a5 a6 a7 a8 a9) (spec_GenMeet.f (k+1) a0 a1 a2 a3 a4 a5 a6 a7 a8 a9):=by
 intro a0 a1 a2 a3 a4 a5 a6 a7 a8 a9 k;obtain ⟨ih0,ih1,ih2,ih3,ih4,ih5,ih6⟩:=spec_GenMeet.mono_l k;unfold spec_GenMeet.f;repeat' first
   | (with_reducible exact ih0 _ _ _ _ _ _ _ _ _ _ _)
   | (with_reducible exact ih1 _ _ _ _ _ _ _ _ _ _ _ _ _ _ _ _ _ _)
   | (with_reducible exact ih2 _ _ _ _ _ _ _ _ _ _ _ _ _ _ _ _ _ _ _)
   | (with_reducible exact ih3 _ _ _ _ _ _ _ _ _ _ _ _ _ _ _ _ _ _)
   | (with_reducible exact ih4 _ _ _ _ _ _ _ _ _ _ _ _ _ _ _ _ _ _ _)
   | (with_reducible exact ih5 _ _ _ _ _ _ _ _ _ _ _ _ _ _ _ _ _ _ _ _)
   | (with_reducible exact ih6 _ _ _ _ _ _ _ _ _ _ _ _ _ _ _ _ _ _ _ _ _)
   | (with_reducible exact spec_GenOk.mono _ _ _ _ _ _)
   | (with_reducible exact spec_l5Pairs.mono _ _ _ _ _ _ _ _ _ _ _)
   | (with_reducible exact spec_l5Sort.mono _ _ _ _ _ _)
   | (with_reducible exact LeO.refl _)
   | (with_reducible exact LeO.none _)
   | (with_reducible refine LeO.ite ?_ ?_)
   | (with_reducible refine LeO.bind ?_ (fun _=>?_))
   | exact ih0 _ _ _ _ _ _ _ _ _ _ _
   | exact ih1 _ _ _ _ _ _ _ _ _ _ _ _ _ _ _ _ _ _
   | exact ih2 _ _ _ _ _ _ _ _ _ _ _ _ _ _ _ _ _ _ _
   | exact ih3 _ _ _ _ _ _ _ _ _ _ _ _ _ _ _ _ _ _
   | exact ih4 _ _ _ _ _ _ _ _ _ _ _ _ _ _ _ _ _ _ _
   | exact ih5 _ _ _ _ _ _ _ _ _ _ _ _ _ _ _ _ _ _ _ _
   | exact ih6 _ _ _ _ _ _ _ _ _ _ _ _ _ _ _ _ _ _ _ _ _
   | exact spec_GenOk.mono _ _ _ _ _ _
   | exact spec_l5Pairs.mono _ _ _ _ _ _ _ _ _ _ _
   | exact spec_l5Sort.mono _ _ _ _ _ _
   | exact LeO.none _
   | refine LeO.ite ?_ ?_
   | refine LeO.bind ?_ (fun _=>?_)
def spec_GenMeet.T12:Bool × List (List Nat × List Nat):=(true,[([],[]),([0],[0]),([],[]),([],[]),([2,3],[2,3]),([1,4],[1,4]),([5,5],[5]),([6],[6]),([7,6],[6,7]),([6],[6]),([6],[6]),([9,10,6],[6,9,10]),([8,11,6,6],[6,8,11]),([6,12],[6,12])])
def spec_GenMeet.B12:List Nat:=[0,1,0,0,12,31,63,127,255,127,127,1663,4095,8191]
theorem spec_GenMeet.tab12:rtab .any (opsOf Try.f5 12)=spec_GenMeet.T12:=by kernel_rfl
theorem spec_GenMeet.bits12:waitsOk spec_GenMeet.T12.2 spec_GenMeet.B12=true:=by kernel_rfl
def spec_GenMeet.T13:Bool × List (List Nat × List Nat):=(true,[([],[]),([0],[0]),([],[]),([],[]),([2,3],[2,3]),([4],[4]),([5],[5]),([1,6],[1,6]),([0,1,2,3,4,5,6,7],[]),([8,7,6,0,1,2,3,4,5,6,7],[7,8])])
def spec_GenMeet.B13:List Nat:=[0,1,0,0,12,28,60,127,255,511]
theorem spec_GenMeet.tab13:rtab .any (opsOf Try.f5 13)=spec_GenMeet.T13:=by kernel_rfl
theorem spec_GenMeet.bits13:waitsOk spec_GenMeet.T13.2 spec_GenMeet.B13=true:=by kernel_rfl
def spec_GenMeet.T18:Bool × List (List Nat × List Nat):=(true,[([],[]),([],[]),([1],[1]),([2],[2]),([0,3],[0,3]),([4],[4]),([5],[5]),([6,5],[5,6]),([5],[5]),([7,8,5],[5,7,8]),([9,5],[5,9]),([10,5],[5,10]),([5],[5]),([5],[5]),([12,13,5],[5,12,13]),([11,14,5],[5,11,14]),([5,15],[5,15])])
def spec_GenMeet.B18:List Nat:=[0,0,2,6,15,31,63,127,63,511,1023,2047,63,63,12351,32767,65535]
theorem spec_GenMeet.tab18:rtab .any (opsOf Try.f5 18)=spec_GenMeet.T18:=by kernel_rfl
theorem spec_GenMeet.bits18:waitsOk spec_GenMeet.T18.2 spec_GenMeet.B18=true:=by kernel_rfl
def spec_GenMeet.T20:Bool × List (List Nat × List Nat):=(true,[([],[]),([0],[0]),([],[]),([1,2],[1,2]),([3],[3]),([],[]),([5],[5]),([],[]),([6,7],[6,7]),([8],[8]),([],[]),([],[]),([10,4,0,1,2,3,4,10,11],[4,10]),([11,9,12,0,1,2,3,4,5,6,7,8,9,10,11,12],[9,11])])
def spec_GenMeet.B20:List Nat:=[0,1,0,7,15,0,32,0,224,480,0,0,3103,8191]
theorem spec_GenMeet.tab20:rtab .any (opsOf Try.f5 20)=spec_GenMeet.T20:=by kernel_rfl
theorem spec_GenMeet.bits20:waitsOk spec_GenMeet.T20.2 spec_GenMeet.B20=true:=by kernel_rfl
def spec_GenMeet.T21:Bool × List (List Nat × List Nat):=(true,[([],[]),([0],[0]),([],[]),([],[]),([2,3],[2,3]),([1,4],[1,4]),([5],[5]),([6],[6]),([7,6],[6,7]),([6],[6]),([9,6],[6,9]),([8,10,6],[6,8,10]),([6,11],[6,11])])
def spec_GenMeet.B21:List Nat:=[0,1,0,0,12,31,63,127,255,127,639,2047,4095]
theorem spec_GenMeet.tab21:rtab .any (opsOf Try.f5 21)=spec_GenMeet.T21:=by kernel_rfl
theorem spec_GenMeet.bits21:waitsOk spec_GenMeet.T21.2 spec_GenMeet.B21=true:=by kernel_rfl
section
theorem cz5k {w:World} {g:Nat} {t:TypeId} {a0 a1 a2 a3 a4:Value} {G:Prop} (B:Aside0 (w.heap[g]?=some (.cells #[a0,a1,a2,a3,a4] t (0,0)))) (k:w.cell? ⟨g,0,none⟩=some a0→w.cell? ⟨g,1,none⟩=some a1→w.cell? ⟨g,2,none⟩=some a2→w.cell? ⟨g,3,none⟩=some a3→w.cell? ⟨g,4,none⟩=some a4→w.frozen? ⟨g,0,none⟩=false→w.frozen? ⟨g,1,none⟩=false→w.frozen? ⟨g,2,none⟩=false→w.frozen? ⟨g,3,none⟩=false→w.frozen? ⟨g,4,none⟩=false→G):G:=by
  obtain ⟨h0,h1,h2,h3,h4,h5,h6,h7,h8,h9⟩:=cz5 B;exact k h0 h1 h2 h3 h4 h5 h6 h7 h8 h9
theorem nnk {g g':Nat} {G:Prop} (H:Aside0 (g≠g')) (k:g≠g'→g'≠g→G):G:=by
  obtain ⟨h0,h1⟩:=nn H;exact k h0 h1
theorem k4_ {T0 T1 T2 T3 G:Prop} (t0:T0) (t1:T1) (t2:T2) (t3:T3) (k:T0→T1→T2→T3→G):G:=k t0 t1 t2 t3
theorem k6_ {T0 T1 T2 T3 T4 T5 G:Prop} (t0:T0) (t1:T1) (t2:T2) (t3:T3) (t4:T4) (t5:T5) (k:T0→T1→T2→T3→T4→T5→G):G:=k t0 t1 t2 t3 t4 t5
theorem k7_ {T0 T1 T2 T3 T4 T5 T6 G:Prop} (t0:T0) (t1:T1) (t2:T2) (t3:T3) (t4:T4) (t5:T5) (t6:T6) (k:T0→T1→T2→T3→T4→T5→T6→G):G:=k t0 t1 t2 t3 t4 t5 t6
theorem k8_ {T0 T1 T2 T3 T4 T5 T6 T7 G:Prop} (t0:T0) (t1:T1) (t2:T2) (t3:T3) (t4:T4) (t5:T5) (t6:T6) (t7:T7) (k:T0→T1→T2→T3→T4→T5→T6→T7→G):G:=k t0 t1 t2 t3 t4 t5 t6 t7
theorem k9_ {T0 T1 T2 T3 T4 T5 T6 T7 T8 G:Prop} (t0:T0) (t1:T1) (t2:T2) (t3:T3) (t4:T4) (t5:T5) (t6:T6) (t7:T7) (t8:T8) (k:T0→T1→T2→T3→T4→T5→T6→T7→T8→G):G:=k t0 t1 t2 t3 t4 t5 t6 t7 t8
theorem k11_ {T0 T1 T2 T3 T4 T5 T6 T7 T8 T9 T10 G:Prop} (t0:T0) (t1:T1) (t2:T2) (t3:T3) (t4:T4) (t5:T5) (t6:T6) (t7:T7) (t8:T8) (t9:T9) (t10:T10) (k:T0→T1→T2→T3→T4→T5→T6→T7→T8→T9→T10→G):G:=k t0 t1 t2 t3 t4 t5 t6 t7 t8 t9 t10
theorem k12_ {T0 T1 T2 T3 T4 T5 T6 T7 T8 T9 T10 T11 G:Prop} (t0:T0) (t1:T1) (t2:T2) (t3:T3) (t4:T4) (t5:T5) (t6:T6) (t7:T7) (t8:T8) (t9:T9) (t10:T10) (t11:T11) (k:T0→T1→T2→T3→T4→T5→T6→T7→T8→T9→T10→T11→G):G:=k t0 t1 t2 t3 t4 t5 t6 t7 t8 t9 t10 t11
theorem k18_ {T0 T1 T2 T3 T4 T5 T6 T7 T8 T9 T10 T11 T12 T13 T14 T15 T16 T17 G:Prop} (t0:T0) (t1:T1) (t2:T2) (t3:T3) (t4:T4) (t5:T5) (t6:T6) (t7:T7) (t8:T8) (t9:T9) (t10:T10) (t11:T11) (t12:T12) (t13:T13) (t14:T14) (t15:T15) (t16:T16) (t17:T17) (k:T0→T1→T2→T3→T4→T5→T6→T7→T8→T9→T10→T11→T12→T13→T14→T15→T16→T17→G):G:=k t0 t1 t2 t3 t4 t5 t6 t7 t8 t9 t10 t11 t12 t13 t14 t15 t16 t17
theorem k19_ {T0 T1 T2 T3 T4 T5 T6 T7 T8 T9 T10 T11 T12 T13 T14 T15 T16 T17 T18 G:Prop} (t0:T0) (t1:T1) (t2:T2) (t3:T3) (t4:T4) (t5:T5) (t6:T6) (t7:T7) (t8:T8) (t9:T9) (t10:T10) (t11:T11) (t12:T12) (t13:T13) (t14:T14) (t15:T15) (t16:T16) (t17:T17) (t18:T18) (k:T0→T1→T2→T3→T4→T5→T6→T7→T8→T9→T10→T11→T12→T13→T14→T15→T16→T17→T18→G):G:=k t0 t1 t2 t3 t4 t5 t6 t7 t8 t9 t10 t11 t12 t13 t14 t15 t16 t17 t18
theorem k21_ {T0 T1 T2 T3 T4 T5 T6 T7 T8 T9 T10 T11 T12 T13 T14 T15 T16 T17 T18 T19 T20 G:Prop} (t0:T0) (t1:T1) (t2:T2) (t3:T3) (t4:T4) (t5:T5) (t6:T6) (t7:T7) (t8:T8) (t9:T9) (t10:T10) (t11:T11) (t12:T12) (t13:T13) (t14:T14) (t15:T15) (t16:T16) (t17:T17) (t18:T18) (t19:T19) (t20:T20) (k:T0→T1→T2→T3→T4→T5→T6→T7→T8→T9→T10→T11→T12→T13→T14→T15→T16→T17→T18→T19→T20→G):G:=k t0 t1 t2 t3 t4 t5 t6 t7 t8 t9 t10 t11 t12 t13 t14 t15 t16 t17 t18 t19 t20
theorem k31_ {T0 T1 T2 T3 T4 T5 T6 T7 T8 T9 T10 T11 T12 T13 T14 T15 T16 T17 T18 T19 T20 T21 T22 T23 T24 T25 T26 T27 T28 T29 T30 G:Prop} (t0:T0) (t1:T1) (t2:T2) (t3:T3) (t4:T4) (t5:T5) (t6:T6) (t7:T7) (t8:T8) (t9:T9) (t10:T10) (t11:T11) (t12:T12) (t13:T13) (t14:T14) (t15:T15) (t16:T16) (t17:T17) (t18:T18) (t19:T19) (t20:T20) (t21:T21) (t22:T22) (t23:T23) (t24:T24) (t25:T25) (t26:T26) (t27:T27) (t28:T28) (t29:T29) (t30:T30) (k:T0→T1→T2→T3→T4→T5→T6→T7→T8→T9→T10→T11→T12→T13→T14→T15→T16→T17→T18→T19→T20→T21→T22→T23→T24→T25→T26→T27→T28→T29→T30→G):G:=k t0 t1 t2 t3 t4 t5 t6 t7 t8 t9 t10 t11 t12 t13 t14 t15 t16 t17 t18 t19 t20 t21 t22 t23 t24 t25 t26 t27 t28 t29 t30
theorem e1a2 {X0:Type} {P0 P1:X0→Prop} {G:Prop} (h:∃ v0,P0 v0∧P1 v0) (k:∀ v0,P0 v0→P1 v0→G):G:=by
  obtain ⟨v0,h0,h1⟩:=h;exact k v0 h0 h1
theorem e1a5 {X0:Type} {P0 P1 P2 P3 P4:X0→Prop} {G:Prop} (h:∃ v0,P0 v0∧P1 v0∧P2 v0∧P3 v0∧P4 v0) (k:∀ v0,P0 v0→P1 v0→P2 v0→P3 v0→P4 v0→G):G:=by
  obtain ⟨v0,h0,h1,h2,h3,h4⟩:=h;exact k v0 h0 h1 h2 h3 h4
theorem e2a1 {X0 X1:Type} {P0:X0→X1→Prop} {G:Prop} (h:∃ v0 v1,P0 v0 v1) (k:∀ v0 v1,P0 v0 v1→G):G:=by
  obtain ⟨v0,v1,h0⟩:=h;exact k v0 v1 h0
theorem e2a7 {X0 X1:Type} {P0 P1 P2 P3 P4 P5 P6:X0→X1→Prop} {G:Prop} (h:∃ v0 v1,P0 v0 v1∧P1 v0 v1∧P2 v0 v1∧P3 v0 v1∧P4 v0 v1∧P5 v0 v1∧P6 v0 v1) (k:∀ v0 v1,P0 v0 v1→P1 v0 v1→P2 v0 v1→P3 v0 v1→P4 v0 v1→P5 v0 v1→P6 v0 v1→G):G:=by
  obtain ⟨v0,v1,h0,h1,h2,h3,h4,h5,h6⟩:=h;exact k v0 v1 h0 h1 h2 h3 h4 h5 h6
theorem e2a9 {X0 X1:Type} {P0 P1 P2 P3 P4 P5 P6 P7 P8:X0→X1→Prop} {G:Prop} (h:∃ v0 v1,P0 v0 v1∧P1 v0 v1∧P2 v0 v1∧P3 v0 v1∧P4 v0 v1∧P5 v0 v1∧P6 v0 v1∧P7 v0 v1∧P8 v0 v1) (k:∀ v0 v1,P0 v0 v1→P1 v0 v1→P2 v0 v1→P3 v0 v1→P4 v0 v1→P5 v0 v1→P6 v0 v1→P7 v0 v1→P8 v0 v1→G):G:=by
  obtain ⟨v0,v1,h0,h1,h2,h3,h4,h5,h6,h7,h8⟩:=h;exact k v0 v1 h0 h1 h2 h3 h4 h5 h6 h7 h8
theorem e2a10 {X0 X1:Type} {P0 P1 P2 P3 P4 P5 P6 P7 P8 P9:X0→X1→Prop} {G:Prop} (h:∃ v0 v1,P0 v0 v1∧P1 v0 v1∧P2 v0 v1∧P3 v0 v1∧P4 v0 v1∧P5 v0 v1∧P6 v0 v1∧P7 v0 v1∧P8 v0 v1∧P9 v0 v1) (k:∀ v0 v1,P0 v0 v1→P1 v0 v1→P2 v0 v1→P3 v0 v1→P4 v0 v1→P5 v0 v1→P6 v0 v1→P7 v0 v1→P8 v0 v1→P9 v0 v1→G):G:=by
  obtain ⟨v0,v1,h0,h1,h2,h3,h4,h5,h6,h7,h8,h9⟩:=h;exact k v0 v1 h0 h1 h2 h3 h4 h5 h6 h7 h8 h9
theorem e3a10 {X0 X1 X2:Type} {P0 P1 P2 P3 P4 P5 P6 P7 P8 P9:X0→X1→X2→Prop} {G:Prop} (h:∃ v0 v1 v2,P0 v0 v1 v2∧P1 v0 v1 v2∧P2 v0 v1 v2∧P3 v0 v1 v2∧P4 v0 v1 v2∧P5 v0 v1 v2∧P6 v0 v1 v2∧P7 v0 v1 v2∧P8 v0 v1 v2∧P9 v0 v1 v2) (k:∀ v0 v1 v2,P0 v0 v1 v2→P1 v0 v1 v2→P2 v0 v1 v2→P3 v0 v1 v2→P4 v0 v1 v2→P5 v0 v1 v2→P6 v0 v1 v2→P7 v0 v1 v2→P8 v0 v1 v2→P9 v0 v1 v2→G):G:=by
  obtain ⟨v0,v1,v2,h0,h1,h2,h3,h4,h5,h6,h7,h8,h9⟩:=h;exact k v0 v1 v2 h0 h1 h2 h3 h4 h5 h6 h7 h8 h9
theorem e4a10 {X0 X1 X2 X3:Type} {P0 P1 P2 P3 P4 P5 P6 P7 P8 P9:X0→X1→X2→X3→Prop} {G:Prop} (h:∃ v0 v1 v2 v3,P0 v0 v1 v2 v3∧P1 v0 v1 v2 v3∧P2 v0 v1 v2 v3∧P3 v0 v1 v2 v3∧P4 v0 v1 v2 v3∧P5 v0 v1 v2 v3∧P6 v0 v1 v2 v3∧P7 v0 v1 v2 v3∧P8 v0 v1 v2 v3∧P9 v0 v1 v2 v3) (k:∀ v0 v1 v2 v3,P0 v0 v1 v2 v3→P1 v0 v1 v2 v3→P2 v0 v1 v2 v3→P3 v0 v1 v2 v3→P4 v0 v1 v2 v3→P5 v0 v1 v2 v3→P6 v0 v1 v2 v3→P7 v0 v1 v2 v3→P8 v0 v1 v2 v3→P9 v0 v1 v2 v3→G):G:=by
  obtain ⟨v0,v1,v2,v3,h0,h1,h2,h3,h4,h5,h6,h7,h8,h9⟩:=h;exact k v0 v1 v2 v3 h0 h1 h2 h3 h4 h5 h6 h7 h8 h9
end
def spec_GenMeet.T22:Bool × List (List Nat × List Nat):=(true,[([],[]),([0],[0]),([],[]),([],[]),([2,3],[2,3]),([4],[4]),([],[]),([6],[6]),([],[]),([],[]),([9],[9]),([],[]),([10,11],[10,11]),([],[]),([13],[13]),([12,14],[12,14]),([8,15],[8,15]),([16],[16]),([],[]),([18],[18]),([],[]),([20],[20]),([],[]),([22],[22]),([21,23],[21,23]),([19,24],[19,24]),([5,7,17,25],[5,7,17,25]),([26],[26]),([1,27],[1,27]),([0,1,2,3,4,5,6,7,8,9,10,11,12,13,14,15,16,17,18,19,20,21,22,23,24,25,26,27,28],[]),([29,28,28,0,1,2,3,4,5,6,7,8,9,10,11,12,13,14,15,16,17,18,19,20,21,22,23,24,25,26,27,28],[28,29])])
def spec_GenMeet.B22:List Nat:=[0,1,0,0,12,28,0,64,0,0,512,0,3584,0,8192,32256,65280,130816,0,262144,0,1048576,0,4194304,15728640,33292288,67108860,134217724,268435455,536870911,1073741823]
theorem spec_GenMeet.tab22:rtab .any (opsOf Try.f5 22)=spec_GenMeet.T22:=by kernel_rfl
theorem spec_GenMeet.bits22:waitsOk spec_GenMeet.T22.2 spec_GenMeet.B22=true:=by kernel_rfl
open Go.Proofs.Ytbfghpbmalpdbaa.Short2 in
set_option maxHeartbeats 8000000 in
set_option maxRecDepth 100000 in
theorem spec_GenMeet.calls (k:Nat) (a0_0:Int) (a0_1:Int) (a0_2:Int) (a0_3:Int) (A0_4:Option Addr) (c0_4:Nat) (l0_4:List (S43)) (a1_0:Int) (a1_1:Int) (a1_2:Int) (a1_3:Int) (A1_4:Option Addr) (c1_4:Nat) (l1_4:List (S43)) (r1:Int) (r2:Int) (r3:Int) (r4:Int) (r5:List (S43)) (r6:Bool) (w:World) (hr0_4:Kd.C k43 w A0_4 l0_4.length l0_4) (hc0_4:l0_4.length≤c0_4) (hr1_4:Kd.C k43 w A1_4 l1_4.length l1_4) (hc1_4:l1_4.length≤c1_4) (h:spec_GenMeet.f k a0_0 a0_1 a0_2 a0_3 l0_4 a1_0 a1_1 a1_2 a1_3 l1_4=some (r1,r2,r3,r4,r5,r6)) :
  Calls Try.prog 5 #[.agg #[.int .i64 a0_0,.int .i64 a0_1,.int .i64 a0_2,.int .i64 a0_3,.slice A0_4 l0_4.length c0_4],.agg #[.int .i64 a1_0,.int .i64 a1_1,.int .i64 a1_2,.int .i64 a1_3,.slice A1_4 l1_4.length c1_4]] w fun e w'=>∃ v4_:Value,e=.returned (.tuple #[.agg #[.int .i64 r1,.int .i64 r2,.int .i64 r3,.int .i64 r4,v4_],.bool r6])∧Kd.R k43 43 w' w.heap.size (fun _=>True) v4_ r5∧Below w.heap.size w w':=by
 refine k4_ Try.underlying28 Try.underlying43 (Aside0.mk hr0_4) (Aside0.mk hc0_4) ?_;intro hu28 hu43 HR0_4 HC0_4;clear hr0_4 hc0_4;have HR1_4:=Aside0.mk hr1_4;have HC1_4:=Aside0.mk hc1_4;clear hr1_4 hc1_4;have HB:=Aside0.mk (Below.refl w.heap.size w);have H:((spec_GenOk.f k a0_0 a0_1 a0_2 a0_3 l0_4).bind fun hG=>(if hG=true then ((spec_GenOk.f k a1_0 a1_1 a1_2 a1_3 l1_4).bind fun gc=>(if gc=true then (if a0_0=a1_0 then (spec_GenMeet.j0 k (decide ((wrap64 (a0_3+a1_3))>4)) a0_0 a0_1 a0_2 a0_3 l0_4 a1_0 a1_1 a1_2 a1_3 l1_4) else (spec_GenMeet.j0 k true a0_0 a0_1 a0_2 a0_3 l0_4 a1_0 a1_1 a1_2 a1_3 l1_4)) else (spec_GenMeet.j0 k true a0_0 a0_1 a0_2 a0_3 l0_4 a1_0 a1_1 a1_2 a1_3 l1_4))) else (spec_GenMeet.j0 k true a0_0 a0_1 a0_2 a0_3 l0_4 a1_0 a1_1 a1_2 a1_3 l1_4)))=some (r1,r2,r3,r4,r5,r6):=h;clear h;have HC3:=Aside0.mk H;clear H;go_enter Try.func5,Try.ntmps5;go_upto_region 1 with (first|((with_reducible refine gate_dst (N:=2) rfl ?_);refine bx_ 2 #[.int .i64 a0_0,.int .i64 a0_1,.int .i64 a0_2,.int .i64 a0_3,.slice A0_4 l0_4.length c0_4] 28 ?_;intro ap hg w4 hbox hb;have ac:=Aside0.mk (hbox);have ri:=xG HB hg;have rj:=xG HB hg;replace HB:=xS HB hb;clear hb hbox hg)|((with_reducible refine gate_dst (N:=3) rfl ?_);refine bx_ 3 #[.int .i64 a1_0,.int .i64 a1_1,.int .i64 a1_2,.int .i64 a1_3,.slice A1_4 l1_4.length c1_4] 28 ?_;intro ax hg w5 hbox hb;have ad:=Aside0.mk (hbox);have rk:=xG HB hg;have rl:=xG HB hg;replace HB:=xS HB hb;have bi:=xN ac hg;have jm:=xM ac hg;replace ac:=xB ac hb;clear hb hbox hg)|((with_reducible refine gate_dst (N:=4) rfl ?_);refine bx_ 4 #[.int .i64 0,.int .i64 0,.int .i64 0,.int .i64 0,.slice none 0 0] 28 ?_;intro aZ hg w6 hbox hb;have ah:=Aside0.mk (hbox);have rm:=xG HB hg;have rn:=xG HB hg;replace HB:=xS HB hb;have bj:=xN ac hg;have gd:=xM ac hg;replace ac:=xB ac hb;have dN:=xN ad hg;have ge:=xM ad hg;replace ad:=xB ad hb;clear hb hbox hg))
 (try simp only[Act.put,q3]);go_cut [37] (fun pL wc=>∃ (kq:Nat) (hj:Bool),pL=.bool hj∧Aside0 (spec_GenMeet.j0 kq hj a0_0 a0_1 a0_2 a0_3 l0_4 a1_0 a1_1 a1_2 a1_3 l1_4=some (r1,r2,r3,r4,r5,r6))∧Aside0 (kq≤k)∧Aside0 (wc.heap[ap]?=some (.cells #[.int .i64 a0_0,.int .i64 a0_1,.int .i64 a0_2,.int .i64 a0_3,(.slice A0_4 l0_4.length c0_4)] 28 (0,0)))∧Aside0 (wc.heap[ax]?=some (.cells #[.int .i64 a1_0,.int .i64 a1_1,.int .i64 a1_2,.int .i64 a1_3,(.slice A1_4 l1_4.length c1_4)] 28 (0,0)))∧Aside0 (wc.heap[aZ]?=some (.cells #[.int .i64 0,.int .i64 0,.int .i64 0,.int .i64 0,(.slice none 0 0)] 28 (0,0)))∧Aside0 (Below w.heap.size w wc))
 case first=>
  have H:=HC3.out;clear HC3;replace H:=bI H;refine e1a2 H ?_;clear H;intro hG jn H;replace H:(if hG=true then ((spec_GenOk.f k a1_0 a1_1 a1_2 a1_3 l1_4).bind fun gc=>(if gc=true then (if a0_0=a1_0 then (spec_GenMeet.j0 k (decide ((wrap64 (a0_3+a1_3))>4)) a0_0 a0_1 a0_2 a0_3 l0_4 a1_0 a1_1 a1_2 a1_3 l1_4) else (spec_GenMeet.j0 k true a0_0 a0_1 a0_2 a0_3 l0_4 a1_0 a1_1 a1_2 a1_3 l1_4)) else (spec_GenMeet.j0 k true a0_0 a0_1 a0_2 a0_3 l0_4 a1_0 a1_1 a1_2 a1_3 l1_4))) else (spec_GenMeet.j0 k true a0_0 a0_1 a0_2 a0_3 l0_4 a1_0 a1_1 a1_2 a1_3 l1_4))=some (r1,r2,r3,r4,r5,r6):=H;have A7:=Aside0.mk jn;clear jn;by_cases c8:hG=true
  ·subst c8;have H1:((spec_GenOk.f k a1_0 a1_1 a1_2 a1_3 l1_4).bind fun gc=>(if gc=true then (if a0_0=a1_0 then (spec_GenMeet.j0 k (decide ((wrap64 (a0_3+a1_3))>4)) a0_0 a0_1 a0_2 a0_3 l0_4 a1_0 a1_1 a1_2 a1_3 l1_4) else (spec_GenMeet.j0 k true a0_0 a0_1 a0_2 a0_3 l0_4 a1_0 a1_1 a1_2 a1_3 l1_4)) else (spec_GenMeet.j0 k true a0_0 a0_1 a0_2 a0_3 l0_4 a1_0 a1_1 a1_2 a1_3 l1_4)))=some (r1,r2,r3,r4,r5,r6):=by rw[if_pos rfl]at H;exact H
   clear H;have H:=H1;clear H1;replace H:=bI H;refine e1a2 H ?_;clear H;intro gc jo H;replace H:(if gc=true then (if a0_0=a1_0 then (spec_GenMeet.j0 k (decide ((wrap64 (a0_3+a1_3))>4)) a0_0 a0_1 a0_2 a0_3 l0_4 a1_0 a1_1 a1_2 a1_3 l1_4) else (spec_GenMeet.j0 k true a0_0 a0_1 a0_2 a0_3 l0_4 a1_0 a1_1 a1_2 a1_3 l1_4)) else (spec_GenMeet.j0 k true a0_0 a0_1 a0_2 a0_3 l0_4 a1_0 a1_1 a1_2 a1_3 l1_4))=some (r1,r2,r3,r4,r5,r6):=H;have A9:=Aside0.mk jo;clear jo;by_cases gG:gc=true
   ·subst gG;have H1:(if a0_0=a1_0 then (spec_GenMeet.j0 k (decide ((wrap64 (a0_3+a1_3))>4)) a0_0 a0_1 a0_2 a0_3 l0_4 a1_0 a1_1 a1_2 a1_3 l1_4) else (spec_GenMeet.j0 k true a0_0 a0_1 a0_2 a0_3 l0_4 a1_0 a1_1 a1_2 a1_3 l1_4))=some (r1,r2,r3,r4,r5,r6):=by rw[if_pos rfl]at H;exact H
    clear H;have H:=H1;clear H1;by_cases fV:a0_0=a1_0
    ·rw[if_pos fV]at H;have bz:(a0_0 == a1_0)=true:=beq_iff_eq.mpr fV;have ga:(a0_0 != a1_0)=false:=bne_eq_false_iff_eq.mpr fV;clear fV;(first|rw[bz]|(simp only[i64_w,i32_w];rw[bz])|skip);have H':=Aside0.mk H;clear H;refine nnk bi (fun ro rp=>?_);refine nnk bj (fun rq rr=>?_);refine cz5k ac (fun bA bB bC bD bE bH bJ bK bL bM=>?_);go_wp2_with (first|((with_reducible refine gate_callee (f:=12) rfl ?_);refine gl_ (some 16) Try.func12 #[.agg #[.int .i64 a0_0,.int .i64 a0_1,.int .i64 a0_2,.int .i64 a0_3,.slice A0_4 l0_4.length c0_4]] ?_;(with_reducible refine (spec_GenOk.calls k a0_0 a0_1 a0_2 a0_3 _ _ l0_4 true _ ?side1 ?side2 A7.out).mono ?_);(case side1=>exact zC (Kd.C_below HR0_4.out HB.out));(case side2=>exact HC0_4.out);rintro e tl ⟨rfl,hb⟩;refine ⟨_,rfl,?_⟩;replace ac:=xB ac hb;replace ad:=xB ad hb;replace ah:=xB ah hb;replace HB:=xS HB hb;(try clear hb);(try clear hb2);(try clear hk);(try clear hi);obtain ⟨rs,rt⟩:=nn dN;obtain ⟨bN,bO,bP,bQ,bR,bS,bT,bU,bV,bW⟩:=cz5 ad)|(go_at_call 12;(with_reducible refine (spec_GenOk.calls k a1_0 a1_1 a1_2 a1_3 _ _ l1_4 true _ ?side1 ?side2 A9.out).mono ?_);(case side1=>exact zC (Kd.C_below HR1_4.out HB.out));(case side2=>exact HC1_4.out);rintro e tm ⟨rfl,hb⟩;replace ac:=xB ac hb;replace ad:=xB ad hb;replace ah:=xB ah hb;replace HB:=xS HB hb;(try clear hb);(try clear hb2);(try clear hk);(try clear hi);obtain ⟨bX,bY,bZ,ca,cb,cc,cd,ce,cf,cg⟩:=cz5 ac;obtain ⟨ch,ci,cj,ck,cl,cm,cn,co,cp,cq⟩:=cz5 ad));go_meet
     case rel=>exact ⟨_,(decide ((wrap64 (a0_3+a1_3))>4)),vv,H',⟨by first|omega|exact Nat.le_refl _⟩,⟨zB ac.out⟩,⟨zB ad.out⟩,⟨zB ah.out⟩,⟨zS HB.out⟩⟩
    rw[if_neg fV]at H;have bz:(a0_0 == a1_0)=false:=beq_eq_false_iff_ne.mpr fV;have ga:(a0_0 != a1_0)=true:=bne_iff_ne.mpr fV;(first|rw[bz]|(simp only[i64_w,i32_w];rw[bz])|skip);have H':=Aside0.mk H;clear H;refine nnk bi (fun ru rv=>?_);refine nnk bj (fun rx ry=>?_);refine cz5k ac (fun cr ct cu cv cw cx cy cz cA cB=>?_);go_wp2_with (first|((with_reducible refine gate_callee (f:=12) rfl ?_);refine gl_ (some 16) Try.func12 #[.agg #[.int .i64 a0_0,.int .i64 a0_1,.int .i64 a0_2,.int .i64 a0_3,.slice A0_4 l0_4.length c0_4]] ?_;(with_reducible refine (spec_GenOk.calls k a0_0 a0_1 a0_2 a0_3 _ _ l0_4 true _ ?side1 ?side2 A7.out).mono ?_);(case side1=>exact zC (Kd.C_below HR0_4.out HB.out));(case side2=>exact HC0_4.out);rintro e tn ⟨rfl,hb⟩;refine ⟨_,rfl,?_⟩;replace ac:=xB ac hb;replace ad:=xB ad hb;replace ah:=xB ah hb;replace HB:=xS HB hb;(try clear hb);(try clear hb2);(try clear hk);(try clear hi);obtain ⟨rz,rA⟩:=nn dN;obtain ⟨cC,cD,cE,cF,cG,cH,cI,cJ,cK,cL⟩:=cz5 ad)|(go_at_call 12;(with_reducible refine (spec_GenOk.calls k a1_0 a1_1 a1_2 a1_3 _ _ l1_4 true _ ?side1 ?side2 A9.out).mono ?_);(case side1=>exact zC (Kd.C_below HR1_4.out HB.out));(case side2=>exact HC1_4.out);rintro e tp ⟨rfl,hb⟩;replace ac:=xB ac hb;replace ad:=xB ad hb;replace ah:=xB ah hb;replace HB:=xS HB hb;(try clear hb);(try clear hb2);(try clear hk);(try clear hi);obtain ⟨cM,cN,cO,cP,cQ,cR,cS,cU,cV,cW⟩:=cz5 ac;obtain ⟨cX,cY,cZ,da,db,dc,dd,de,df,dg⟩:=cz5 ad));go_meet
    case rel=>exact ⟨_,(true),vv,H',⟨by first|omega|exact Nat.le_refl _⟩,⟨zB ac.out⟩,⟨zB ad.out⟩,⟨zB ah.out⟩,⟨zS HB.out⟩⟩
   replace gG:=Bool.eq_false_iff.mpr gG;subst gG;have H1:(spec_GenMeet.j0 k true a0_0 a0_1 a0_2 a0_3 l0_4 a1_0 a1_1 a1_2 a1_3 l1_4)=some (r1,r2,r3,r4,r5,r6):=by rw[if_neg (show ¬ (false=true) by decide)]at H;exact H
   clear H;have H:=H1;clear H1;have H':=Aside0.mk H;clear H;refine nnk bi (fun rB rC=>?_);refine nnk bj (fun rD rE=>?_);refine cz5k ac (fun dh di dj dk dl dm dn dp dq dr=>?_);go_wp2_with (first|((with_reducible refine gate_callee (f:=12) rfl ?_);refine gl_ (some 16) Try.func12 #[.agg #[.int .i64 a0_0,.int .i64 a0_1,.int .i64 a0_2,.int .i64 a0_3,.slice A0_4 l0_4.length c0_4]] ?_;(with_reducible refine (spec_GenOk.calls k a0_0 a0_1 a0_2 a0_3 _ _ l0_4 true _ ?side1 ?side2 A7.out).mono ?_);(case side1=>exact zC (Kd.C_below HR0_4.out HB.out));(case side2=>exact HC0_4.out);rintro e tq ⟨rfl,hb⟩;refine ⟨_,rfl,?_⟩;replace ac:=xB ac hb;replace ad:=xB ad hb;replace ah:=xB ah hb;replace HB:=xS HB hb;(try clear hb);(try clear hb2);(try clear hk);(try clear hi);obtain ⟨rF,rG⟩:=nn dN;obtain ⟨dt,du,dv,dw,dx,dy,dz,dA,dB,dC⟩:=cz5 ad)|(go_at_call 12;(with_reducible refine (spec_GenOk.calls k a1_0 a1_1 a1_2 a1_3 _ _ l1_4 false _ ?side1 ?side2 A9.out).mono ?_);(case side1=>exact zC (Kd.C_below HR1_4.out HB.out));(case side2=>exact HC1_4.out);rintro e tr ⟨rfl,hb⟩;replace ac:=xB ac hb;replace ad:=xB ad hb;replace ah:=xB ah hb;replace HB:=xS HB hb;(try clear hb);(try clear hb2);(try clear hk);(try clear hi)));go_meet
   case rel=>exact ⟨_,(true),vv,H',⟨by first|omega|exact Nat.le_refl _⟩,⟨zB ac.out⟩,⟨zB ad.out⟩,⟨zB ah.out⟩,⟨zS HB.out⟩⟩
  replace c8:=Bool.eq_false_iff.mpr c8;subst c8;have H1:(spec_GenMeet.j0 k true a0_0 a0_1 a0_2 a0_3 l0_4 a1_0 a1_1 a1_2 a1_3 l1_4)=some (r1,r2,r3,r4,r5,r6):=by rw[if_neg (show ¬ (false=true) by decide)]at H;exact H
  clear H;have H:=H1;clear H1;have H':=Aside0.mk H;clear H;refine nnk bi (fun rH rI=>?_);refine nnk bj (fun rJ rK=>?_);refine cz5k ac (fun dD dE dF dG dH dI dJ dK dL dM=>?_);go_wp2_with (first|((with_reducible refine gate_callee (f:=12) rfl ?_);refine gl_ (some 16) Try.func12 #[.agg #[.int .i64 a0_0,.int .i64 a0_1,.int .i64 a0_2,.int .i64 a0_3,.slice A0_4 l0_4.length c0_4]] ?_;(with_reducible refine (spec_GenOk.calls k a0_0 a0_1 a0_2 a0_3 _ _ l0_4 false _ ?side1 ?side2 A7.out).mono ?_);(case side1=>exact zC (Kd.C_below HR0_4.out HB.out));(case side2=>exact HC0_4.out);rintro e ts ⟨rfl,hb⟩;refine ⟨_,rfl,?_⟩;replace ac:=xB ac hb;replace ad:=xB ad hb;replace ah:=xB ah hb;replace HB:=xS HB hb;(try clear hb);(try clear hb2);(try clear hk);(try clear hi)));go_meet
  case rel=>exact ⟨_,(true),vv,H',⟨by first|omega|exact Nat.le_refl _⟩,⟨zB ac.out⟩,⟨zB ad.out⟩,⟨zB ah.out⟩,⟨zS HB.out⟩⟩
 case rest=>
  clear HC3;try clear c1
  try clear c2
  try clear p2
  try clear c3
  try clear c5
  try clear p6
  try clear c8
  try clear gG
  try clear fV
  try clear bz
  try clear ga
  try clear hV
  try clear hW
  try clear hX
  try clear hY
  try clear hZ
  try clear ia
  try clear ib
  try clear ic
  try clear id
  try clear ie
  try clear ig
  try clear bA bB bC bD bE
  try clear bN bO bP bQ bR
  try clear bX bY bZ ca cb
  try clear ch ci cj ck cl
  try clear cr ct cu cv cw
  try clear cC cD cE cF cG
  try clear cM cN cO cP cQ
  try clear cX cY cZ da db
  try clear dh di dj dk dl
  try clear dt du dv dw dx
  try clear dD dE dF dG dH
  try clear bH bJ bK bL bM
  try clear bS bT bU bV bW
  try clear cc cd ce cf cg
  try clear cm cn co cp cq
  try clear cx cy cz cA cB
  try clear cH cI cJ cK cL
  try clear cR cS cU cV cW
  try clear dc dd de df dg
  try clear dm dn dp dq dr
  try clear dy dz dA dB dC
  try clear dI dJ dK dL dM
  refine e2a7 hcut ?_;clear hcut;intro kq hj hQ HA HJ2 ac ad ah HB;subst hQ
  cases kq with
  | zero=>exact absurd HA.out (by simp[spec_GenMeet.j0])
  | succ kj2=>
   have H:=HA.out;clear HA;simp only[spec_GenMeet.j0]at H;by_cases gO:hj=true
   ·subst gO;have H1:(some (0,0,0,0,([]:List (S43)),false))=some (r1,r2,r3,r4,r5,r6):=by rw[if_pos rfl]at H;exact H
    clear H;have H:=H1;clear H1;simp only[Option.some.injEq,Prod.mk.injEq]at H;obtain ⟨rfl,rfl,rfl,rfl,rfl,rfl⟩:=H;refine nnk gd (fun rL rN=>?_);refine nnk ge (fun rO rP=>?_);refine cz5k ah (fun dT dU dV dW dX dY dZ ea eb ec=>?_);go_wp2;refine bodyPost_ret (results_ct rfl _ _ aZ 28 #[.int .i64 0,.int .i64 0,.int .i64 0,.int .i64 0,.slice none 0 0] (0,0) _ rfl (xP5 ah.out) Try.underlying28 rfl (by kernel_rfl)) rfl ?_;exact ⟨_,vw,by first|exact Kd.R_nil _ _ _ _ _|exact Kd.N_nil _ _ _ _ _|exact Kd.V_nil _ _ _ _ _|exact Kd.Q_nil _ _ _ _ _|exact Kd.S_nil _ _ _ _ _,zS HB.out⟩
   replace gO:=Bool.eq_false_iff.mpr gO;subst gO;have H1:((spec_l5Pairs.f kj2 a0_0 a0_1 a0_2 a0_3 l0_4 a1_0 a1_1 a1_2 a1_3 l1_4).bind fun bt185=>(if bt185.2>31 then (some (0,0,0,0,([]:List (S43)),false)) else (spec_GenMeet.l0 kj2 bt185.1 a1_1 0 a0_0 a0_1 a0_2 a0_3 l0_4 a1_0 a1_1 a1_2 a1_3 l1_4 a0_0 bt185.2 0 (wrap64 (a0_3+a1_3)) ([]:List (S43)))))=some (r1,r2,r3,r4,r5,r6):=by rw[if_neg (show ¬ (false=true) by decide)]at H;exact H
   clear H;have H:=H1;clear H1;replace H:=bI H;obtain ⟨⟨aw,aU⟩,iL,H⟩:=H;replace H:(if aU>31 then (some (0,0,0,0,([]:List (S43)),false)) else (spec_GenMeet.l0 kj2 aw a1_1 0 a0_0 a0_1 a0_2 a0_3 l0_4 a1_0 a1_1 a1_2 a1_3 l1_4 a0_0 aU 0 (wrap64 (a0_3+a1_3)) ([]:List (S43))))=some (r1,r2,r3,r4,r5,r6):=H;have jp:=Aside0.mk iL;clear iL;by_cases gf:aU>31
   ·rw[if_pos gf]at H;have gC:decide (31<aU)=true:=decide_eq_true gf;clear gf;simp only[Option.some.injEq,Prod.mk.injEq]at H;obtain ⟨rfl,rfl,rfl,rfl,rfl,rfl⟩:=H;refine nnk bi (fun rQ rR=>?_);refine nnk bj (fun rS rT=>?_);refine cz5k ac (fun ed ee ef eg eh ei ej ek el em=>?_);refine nnk dN (fun rU rV=>?_);refine cz5k ad (fun en eo ep eq er es et eu ev ew=>?_);go_wp2_with (first|((with_reducible refine gate_callee (f:=13) rfl ?_);refine gl_ (some 42) Try.func13 #[.agg #[.int .i64 a0_0,.int .i64 a0_1,.int .i64 a0_2,.int .i64 a0_3,.slice A0_4 l0_4.length c0_4],.agg #[.int .i64 a1_0,.int .i64 a1_1,.int .i64 a1_2,.int .i64 a1_3,.slice A1_4 l1_4.length c1_4]] ?_;(with_reducible refine (spec_l5Pairs.calls kj2 a0_0 a0_1 a0_2 a0_3 _ _ l0_4 a1_0 a1_1 a1_2 a1_3 _ _ l1_4 aw aU _ ?side1 ?side2 ?side3 ?side4 jp.out).mono ?_);(case side1=>exact zC (Kd.C_below HR0_4.out HB.out));(case side2=>exact HC0_4.out);(case side3=>exact zC (Kd.C_below HR1_4.out HB.out));(case side4=>exact HC1_4.out);rintro e tt ⟨iM,rfl,ho0,hb⟩;refine ⟨_,rfl,?_⟩;have hl:=rW0 ho0 HB;replace ac:=xB ac hb;replace ad:=xB ad hb;replace ah:=xB ah hb;replace HB:=xS HB hb;(try clear hb);(try clear hb2);(try clear hk);(try clear hi);(try clear ho0);obtain ⟨ex,ey,ez,eA,eB,eC,eD,eE,eF,eG⟩:=cz5 ah));refine bodyPost_ret (results_ct rfl _ _ aZ 28 #[.int .i64 0,.int .i64 0,.int .i64 0,.int .i64 0,.slice none 0 0] (0,0) _ rfl (xP5 ah.out) Try.underlying28 rfl (by kernel_rfl)) rfl ?_;exact ⟨_,vw,by first|exact Kd.R_nil _ _ _ _ _|exact Kd.N_nil _ _ _ _ _|exact Kd.V_nil _ _ _ _ _|exact Kd.Q_nil _ _ _ _ _|exact Kd.S_nil _ _ _ _ _,zS HB.out⟩
   rw[if_neg gf]at H;have gC:decide (31<aU)=false:=decide_eq_false gf;clear gf;have H':=Aside0.mk H;clear H;refine nnk bi (fun rW rX=>?_);refine nnk bj (fun rY rZ=>?_);refine cz5k ac (fun eH eI eJ eK eL eM eN eO eP eQ=>?_);refine nnk dN (fun sa sb=>?_);refine cz5k ad (fun eR eS eT eU eV eW eX eY eZ fa=>?_);go_wp2_with (first|((with_reducible refine gate_callee (f:=13) rfl ?_);refine gl_ (some 42) Try.func13 #[.agg #[.int .i64 a0_0,.int .i64 a0_1,.int .i64 a0_2,.int .i64 a0_3,.slice A0_4 l0_4.length c0_4],.agg #[.int .i64 a1_0,.int .i64 a1_1,.int .i64 a1_2,.int .i64 a1_3,.slice A1_4 l1_4.length c1_4]] ?_;(with_reducible refine (spec_l5Pairs.calls kj2 a0_0 a0_1 a0_2 a0_3 _ _ l0_4 a1_0 a1_1 a1_2 a1_3 _ _ l1_4 aw aU _ ?side1 ?side2 ?side3 ?side4 jp.out).mono ?_);(case side1=>exact zC (Kd.C_below HR0_4.out HB.out));(case side2=>exact HC0_4.out);(case side3=>exact zC (Kd.C_below HR1_4.out HB.out));(case side4=>exact HC1_4.out);rintro e tu ⟨iM,rfl,ho0,hb⟩;refine ⟨_,rfl,?_⟩;have hl:=rW0 ho0 HB;replace ac:=xB ac hb;replace ad:=xB ad hb;replace ah:=xB ah hb;replace HB:=xS HB hb;(try clear hb);(try clear hb2);(try clear hk);(try clear hi);(try clear ho0);obtain ⟨fb,fc,fd,fe,ff,fg,fh,fi,fj,fk⟩:=cz5 ac;obtain ⟨fl,fm,fn,fo,fp,fq,fr,fs,ft,fu⟩:=cz5 ad)|((with_reducible refine gate_dst (N:=8) rfl ?_);refine bx_ 8 #[.int .i64 0,.int .i64 0,.int .i64 0,.int .i64 0,.slice none 0 0] 28 ?_;intro aY hg tv hbox hb;replace hl:=xR hl hb;have ai:=Aside0.mk (hbox);have sc:=xG HB hg;have sd:=xG HB hg;replace HB:=xS HB hb;have fU:=xN ac hg;have dO:=xM ac hg;replace ac:=xB ac hb;have gX:=xN ad hg;have dP:=xM ad hg;replace ad:=xB ad hb;have gY:=xN ah hg;have dQ:=xM ah hg;replace ah:=xB ah hb;clear hb hbox hg;obtain ⟨se,sf⟩:=nn dO;obtain ⟨sg,sh⟩:=nn dP;obtain ⟨si,sj⟩:=nn dQ;obtain ⟨fv,fw,fx,fy,fz,fA,fB,fC,fD,fE⟩:=cz5 ai;obtain ⟨fF,fG,fH,fI,fJ,fK,fL,fM,fN,fO⟩:=cz5 ad));refine wp_loop_ghost_k (fun k' a' w'=>∃ u10 u11 u12 u13 u14 u59 u60 u61 u62 u63 u64 u65 u66 u67 u68 u69 u70 u71 u72 u73 u74 u75 u76 u77 u78 u79 u80 u81 u82 u83 u84 u85 u86 u87 u88 u89 u90 u91 u92 u93 u94 u95 u96 u97 u98 u99 u100 u101 u102 u103 u104 u105 u106 u107 u108 u109 u110 u111 u112 u113 u114 u115 u116 u117 u118 u119 u120 u121 u122 u123 u124 u125 u126 u127 u128 u129 u130 u131 u132 u133 u134 u135 u136 u137 u138 u139 u140 u141 u142 u143 u144 u145 u146 u147 u148 u149 u150 u151 u152 u153 u154 u155 u156 u157 u158 u159 u160 u161 u162 u163 u164 u165 u166 u167 u168 u169 u170 u171,(fun kq pM w'=>∃ (ao:Int) (aV:Int) (aT:List (S43)) (ay:Value),pM=.int .i64 ao∧Aside0 (spec_GenMeet.l0 kq aw a1_1 ao a0_0 a0_1 a0_2 a0_3 l0_4 a1_0 a1_1 a1_2 a1_3 l1_4 a0_0 aU aV (wrap64 (a0_3+a1_3)) aT=some (r1,r2,r3,r4,r5,r6))∧Aside0 (kq≤kj2)∧Aside0 (Kd.R (Kd.int .i64) 3 w' w.heap.size (fun _=>True) iM aw)∧Aside0 (Kd.R k43 43 w' w.heap.size (fun _=>True) ay aT)∧Aside0 (w'.heap[ap]?=some (.cells #[.int .i64 a0_0,.int .i64 a0_1,.int .i64 a0_2,.int .i64 a0_3,(.slice A0_4 l0_4.length c0_4)] 28 (0,0)))∧Aside0 (w'.heap[ax]?=some (.cells #[.int .i64 a1_0,.int .i64 a1_1,.int .i64 a1_2,.int .i64 a1_3,(.slice A1_4 l1_4.length c1_4)] 28 (0,0)))∧Aside0 (w'.heap[aZ]?=some (.cells #[.int .i64 0,.int .i64 0,.int .i64 0,.int .i64 0,(.slice none 0 0)] 28 (0,0)))∧Aside0 (w'.heap[aY]?=some (.cells #[.int .i64 a0_0,.int .i64 aU,.int .i64 aV,.int .i64 (wrap64 (a0_3+a1_3)),ay] 28 (0,0)))∧Aside0 (Below w.heap.size w w')) k' u10 w'∧a'=⟨#[.agg #[.int .i64 a0_0,.int .i64 a0_1,.int .i64 a0_2,.int .i64 a0_3,.slice A0_4 l0_4.length c0_4],.agg #[.int .i64 a1_0,.int .i64 a1_1,.int .i64 a1_2,.int .i64 a1_3,.slice A1_4 l1_4.length c1_4],.pointer (some ⟨ap,0,none⟩),.pointer (some ⟨ax,0,none⟩),.pointer (some ⟨aZ,0,none⟩),.bool false,iM,.int .i64 aU,.pointer (some ⟨aY,0,none⟩),.int .i64 a1_1,u10,u11,u12,u13,u14,u15,u16,u17,u18,u19,u20,u21,u22,u23,u24,u25,u26,u27,u28,u29,u30,u31,u32,u33,u34,u35,u36,.bool false,u38,.tuple #[iM,.int .i64 aU],.agg #[.int .i64 a0_0,.int .i64 a0_1,.int .i64 a0_2,.int .i64 a0_3,.slice A0_4 l0_4.length c0_4],.agg #[.int .i64 a1_0,.int .i64 a1_1,.int .i64 a1_2,.int .i64 a1_3,.slice A1_4 l1_4.length c1_4],.tuple #[iM,.int .i64 aU],iM,.int .i64 aU,.int .i64 aU,.bool false,u47,.pointer (some ⟨ap,0,none⟩),.int .i64 a0_0,.int .i64 aU,.pointer (some ⟨ap,3,none⟩),.int .i64 a0_3,.pointer (some ⟨ax,3,none⟩),.int .i64 a1_3,.int .i64 (wrap64 (a0_3+a1_3)),.agg #[.int .i64 a0_0,.int .i64 aU,.int .i64 0,.int .i64 (wrap64 (a0_3+a1_3)),.slice none 0 0],.pointer (some ⟨ax,1,none⟩),.int .i64 a1_1,u59,u60,u61,u62,u63,u64,u65,u66,u67,u68,u69,u70,u71,u72,u73,u74,u75,u76,u77,u78,u79,u80,u81,u82,u83,u84,u85,u86,u87,u88,u89,u90,u91,u92,u93,u94,u95,u96,u97,u98,u99,u100,u101,u102,u103,u104,u105,u106,u107,u108,u109,u110,u111,u112,u113,u114,u115,u116,u117,u118,u119,u120,u121,u122,u123,u124,u125,u126,u127,u128,u129,u130,u131,u132,u133,u134,u135,u136,u137,u138,u139,u140,u141,u142,u143,u144,u145,u146,u147,u148,u149,u150,u151,u152,u153,u154,u155,u156,u157,u158,u159,u160,u161,u162,u163,u164,u165,u166,u167,u168,u169,u170,u171,u172,u173,u174,u175,u176,u177,u178],[]⟩) kj2 ?_ ?_
   ·(repeat apply Exists.intro);refine ⟨?_,rfl⟩;exact ⟨(0),(0),(([]:List (S43))),(.slice none 0 0),vv,H',⟨Nat.le_refl _⟩,⟨by (with_reducible repeat (first|apply Kd.R_alloc|apply Kd.R_drewN|apply Kd.R_drew));exact Kd.R_mono (Kd.R_far (p:=⟨aY,4,none⟩) (yF4 hl ai) (fun _ hk=>hk.2) (.slice none 0 0)) (fun _ hk=>trivial)⟩,⟨by first|exact Kd.R_nil _ _ _ _ _|exact Kd.N_nil _ _ _ _ _|exact Kd.V_nil _ _ _ _ _|exact Kd.Q_nil _ _ _ _ _|exact Kd.S_nil _ _ _ _ _⟩,⟨zB ac.out⟩,⟨zB ad.out⟩,⟨zB ah.out⟩,⟨by (with_reducible repeat (first|refine blk_drewN ?_ _|refine blk_drew ?_|refine blk_alloc ?_ _));refine blk_put (cs:=#[.int .i64 a0_0,.int .i64 aU,.int .i64 0,.int .i64 (wrap64 (a0_3+a1_3)),.slice none 0 0]) ?_ 4 _ rfl;(with_reducible repeat (first|refine blk_drewN ?_ _|refine blk_drew ?_|refine blk_alloc ?_ _));refine blk_put (cs:=#[.int .i64 a0_0,.int .i64 aU,.int .i64 0,.int .i64 0,.slice none 0 0]) ?_ 3 _ rfl;(with_reducible repeat (first|refine blk_drewN ?_ _|refine blk_drew ?_|refine blk_alloc ?_ _));refine blk_put (cs:=#[.int .i64 a0_0,.int .i64 aU,.int .i64 0,.int .i64 0,.slice none 0 0]) ?_ 2 _ rfl;(with_reducible repeat (first|refine blk_drewN ?_ _|refine blk_drew ?_|refine blk_alloc ?_ _));refine blk_put (cs:=#[.int .i64 a0_0,.int .i64 0,.int .i64 0,.int .i64 0,.slice none 0 0]) ?_ 1 _ rfl;(with_reducible repeat (first|refine blk_drewN ?_ _|refine blk_drew ?_|refine blk_alloc ?_ _));refine blk_put (cs:=#[.int .i64 0,.int .i64 0,.int .i64 0,.int .i64 0,.slice none 0 0]) ?_ 0 _ rfl;(with_reducible repeat (first|refine blk_drewN ?_ _|refine blk_drew ?_|refine blk_alloc ?_ _));exact ai.out⟩,⟨zS HB.out⟩⟩
   intro gk _ wr hinv;refine ex20_ hinv ?_;clear hinv;intro u10 u11 u12 u13 u14 u59 u60 u61 u62 u63 u64 u65 u66 u67 u68 u69 u70 u71 u72 u73 hinv;refine ex20_ hinv ?_;clear hinv;intro u74 u75 u76 u77 u78 u79 u80 u81 u82 u83 u84 u85 u86 u87 u88 u89 u90 u91 u92 u93 hinv;refine ex20_ hinv ?_;clear hinv;intro u94 u95 u96 u97 u98 u99 u100 u101 u102 u103 u104 u105 u106 u107 u108 u109 u110 u111 u112 u113 hinv;refine ex20_ hinv ?_;clear hinv;intro u114 u115 u116 u117 u118 u119 u120 u121 u122 u123 u124 u125 u126 u127 u128 u129 u130 u131 u132 u133 hinv;refine ex20_ hinv ?_;clear hinv;intro u134 u135 u136 u137 u138 u139 u140 u141 u142 u143 u144 u145 u146 u147 u148 u149 u150 u151 u152 u153 hinv;refine ex18_ hinv ?_;clear hinv;intro u154 u155 u156 u157 u158 u159 u160 u161 u162 u163 u164 u165 u166 u167 u168 u169 u170 u171 hinv;obtain ⟨hrel,ha⟩:=hinv;subst ha;(try dsimp only);intro _ _ _ _;clear H';try clear c1
   try clear c2
   try clear p2
   try clear c3
   try clear c4
   try clear c5
   try clear c6
   try clear p6
   try clear c8
   try clear gG
   try clear fV
   try clear bz
   try clear ga
   try clear hV
   try clear hW
   try clear hX
   try clear hY
   try clear hZ
   try clear ia
   try clear ib
   try clear ic
   try clear id
   try clear ie
   try clear ig
   try clear gO
   try clear it
   try clear iu
   try clear gf
   try clear gC
   try clear iv
   try clear iw
   try clear ix
   try clear iy
   try clear iz
   try clear iA
   try clear iB
   try clear iC
   try clear gH
   try clear iD
   try clear bA bB bC bD bE
   try clear bN bO bP bQ bR
   try clear bX bY bZ ca cb
   try clear ch ci cj ck cl
   try clear cr ct cu cv cw
   try clear cC cD cE cF cG
   try clear cM cN cO cP cQ
   try clear cX cY cZ da db
   try clear dh di dj dk dl
   try clear dt du dv dw dx
   try clear dD dE dF dG dH
   try clear dT dU dV dW dX
   try clear ed ee ef eg eh
   try clear en eo ep eq er
   try clear ex ey ez eA eB
   try clear eH eI eJ eK eL
   try clear eR eS eT eU eV
   try clear fb fc fd fe ff
   try clear fl fm fn fo fp
   try clear fv fw fx fy fz
   try clear fF fG fH fI fJ
   try clear bH bJ bK bL bM
   try clear bS bT bU bV bW
   try clear cc cd ce cf cg
   try clear cm cn co cp cq
   try clear cx cy cz cA cB
   try clear cH cI cJ cK cL
   try clear cR cS cU cV cW
   try clear dc dd de df dg
   try clear dm dn dp dq dr
   try clear dy dz dA dB dC
   try clear dI dJ dK dL dM
   try clear dY dZ ea eb ec
   try clear ei ej ek el em
   try clear es et eu ev ew
   try clear eC eD eE eF eG
   try clear eM eN eO eP eQ
   try clear eW eX eY eZ fa
   try clear fg fh fi fj fk
   try clear fq fr fs ft fu
   try clear fA fB fC fD fE
   try clear fK fL fM fN fO
   try clear p2
   try clear p6
   refine e4a10 hrel ?_;clear hrel;intro ao aV aT ay hQ HA HK2 al ae ac ad ah ai HB;subst hQ
   cases gk with
   | zero=>exact absurd HA.out (by simp[spec_GenMeet.l0])
   | succ k2=>
    have H:=HA.out;clear HA;simp only[spec_GenMeet.l0]at H;by_cases gI:ao<(aw.length:Int)
    ·rw[if_pos gI]at H;have gP:decide (ao<(aw.length:Int))=true:=decide_eq_true gI;clear gI;by_cases gZ:0≤ao
     ·rw[if_pos gZ]at H;have hm:decide (0≤ao)=true:=decide_eq_true gZ;clear gZ;by_cases gJ:(rd aw ao)<0
      ·rw[if_pos gJ]at H;have gQ:decide ((rd aw ao)<0)=true:=decide_eq_true gJ;clear gJ;have H':=Aside0.mk H;clear H;refine e2a1 (Kd.R_slice al.out) ?_;intro sY sZ js;subst js;have dS:0≤(ao:Int):=oD;have q197:ao<(aw.length:Int):=oD;refine e1a2 (Kd.at_int (Kd.R_reads' al.out).2.2 ao dS q197) ?_;intro ad197 e197 fP
       cases e197
       replace dS:=eq_true dS;replace q197:=eq_true q197;go_wp2;go_roundg k2
       case measure=>have:=HJ2.out;have:=HK2.out;omega
       case rel=>exact ⟨(wrap64 (ao+1)),(aV),(aT),(ay),vv,H',⟨by have:=HJ2.out;have:=HK2.out;omega⟩,⟨zR al.out⟩,⟨zR ae.out⟩,⟨zB ac.out⟩,⟨zB ad.out⟩,⟨zB ah.out⟩,⟨zB ai.out⟩,⟨zS HB.out⟩⟩
      rw[if_neg gJ]at H;have gQ:decide ((rd aw ao)<0)=false:=decide_eq_false gJ;clear gJ;have HC72:=Aside0.mk H;clear H;refine e2a1 (Kd.R_slice al.out) ?_;intro ta fR jt;subst jt;have dS:0≤(ao:Int):=oD;have q197:ao<(aw.length:Int):=oD;refine e1a2 (Kd.at_int (Kd.R_reads' al.out).2.2 ao dS q197) ?_;intro ad197 e197 fP
      cases e197
      replace dS:=eq_true dS;replace q197:=eq_true q197;go_upto_region 12 with (fail)
      go_cut [83] (fun pN wc=>∃ (kq:Nat) (gR:Bool),pN=.bool gR∧Aside0 (spec_GenMeet.j2 kq aw a1_1 ao gR a0_0 a0_1 a0_2 a0_3 l0_4 a1_0 a1_1 a1_2 a1_3 l1_4 a0_0 aU aV (wrap64 (a0_3+a1_3)) aT=some (r1,r2,r3,r4,r5,r6))∧Aside0 (kq≤k2)∧Aside0 (Kd.R (Kd.int .i64) 3 wc w.heap.size (fun _=>True) (.slice (some ad197) aw.length fR) aw)∧Aside0 (Kd.R k43 43 wc w.heap.size (fun _=>True) ay aT)∧Aside0 (wc.heap[ap]?=some (.cells #[.int .i64 a0_0,.int .i64 a0_1,.int .i64 a0_2,.int .i64 a0_3,(.slice A0_4 l0_4.length c0_4)] 28 (0,0)))∧Aside0 (wc.heap[ax]?=some (.cells #[.int .i64 a1_0,.int .i64 a1_1,.int .i64 a1_2,.int .i64 a1_3,(.slice A1_4 l1_4.length c1_4)] 28 (0,0)))∧Aside0 (wc.heap[aZ]?=some (.cells #[.int .i64 0,.int .i64 0,.int .i64 0,.int .i64 0,(.slice none 0 0)] 28 (0,0)))∧Aside0 (wc.heap[aY]?=some (.cells #[.int .i64 a0_0,.int .i64 aU,.int .i64 aV,.int .i64 (wrap64 (a0_3+a1_3)),ay] 28 (0,0)))∧Aside0 (Below w.heap.size w wc))
      case first=>
       have H:=HC72.out;clear HC72;by_cases gS:a1_1=0
       ·rw[if_pos gS]at H;exact absurd H (by simp)
       rw[if_neg gS]at H;have gb:(a1_1 == 0)=false:=beq_eq_false_iff_ne.mpr gS;have gT:(a1_1 != 0)=true:=bne_iff_ne.mpr gS;(first|rw[gb]|(simp only[i64_w,i32_w];rw[gb])|skip);replace H:=bI H;refine e1a2 H ?_;clear H;intro iN iO H;replace H:(if iN=true then ((spec_l1Has.f a1_2 (Int.tmod ao a1_1)).bind fun gK=>(spec_GenMeet.j2 k2 aw a1_1 ao gK a0_0 a0_1 a0_2 a0_3 l0_4 a1_0 a1_1 a1_2 a1_3 l1_4 a0_0 aU aV (wrap64 (a0_3+a1_3)) aT)) else (spec_GenMeet.j2 k2 aw a1_1 ao false a0_0 a0_1 a0_2 a0_3 l0_4 a1_0 a1_1 a1_2 a1_3 l1_4 a0_0 aU aV (wrap64 (a0_3+a1_3)) aT))=some (r1,r2,r3,r4,r5,r6):=H;have jq:=Aside0.mk iO;clear iO;by_cases gU:iN=true
       ·subst gU;have H1:((spec_l1Has.f a1_2 (Int.tmod ao a1_1)).bind fun gK=>(spec_GenMeet.j2 k2 aw a1_1 ao gK a0_0 a0_1 a0_2 a0_3 l0_4 a1_0 a1_1 a1_2 a1_3 l1_4 a0_0 aU aV (wrap64 (a0_3+a1_3)) aT))=some (r1,r2,r3,r4,r5,r6):=by rw[if_pos rfl]at H;exact H
        clear H;have H:=H1;clear H1;replace H:=bI H;refine e1a2 H ?_;clear H;intro gK iP H;replace H:(spec_GenMeet.j2 k2 aw a1_1 ao gK a0_0 a0_1 a0_2 a0_3 l0_4 a1_0 a1_1 a1_2 a1_3 l1_4 a0_0 aU aV (wrap64 (a0_3+a1_3)) aT)=some (r1,r2,r3,r4,r5,r6):=H;have pO:=Aside0.mk iP;clear iP;have H':=Aside0.mk H;clear H;try go_wp2
        refine k7_ (Aside0.mk (Kd.R_drew al.out)) (Aside0.mk (Kd.R_drew ae.out)) (Aside0.mk (blk_drew ac.out)) (Aside0.mk (blk_drew ad.out)) (Aside0.mk (blk_drew ah.out)) (Aside0.mk (blk_drew ai.out)) (Aside0.mk (below_drew1 HB.out)) ?_;clear al ae ac ad ah ai HB;intro al ae ac ad ah ai HB;refine start_ (n:=14) (S:=fun w'=>w'.cell? ⟨ap,0,none⟩=some (.int .i64 a0_0)∧w'.cell? ⟨ap,1,none⟩=some (.int .i64 a0_1)∧w'.cell? ⟨ap,2,none⟩=some (.int .i64 a0_2)∧w'.cell? ⟨ap,3,none⟩=some (.int .i64 a0_3)∧w'.cell? ⟨ap,4,none⟩=some (.slice A0_4 l0_4.length c0_4)∧w'.cell? ⟨ax,0,none⟩=some (.int .i64 a1_0)∧w'.cell? ⟨ax,1,none⟩=some (.int .i64 a1_1)∧w'.cell? ⟨ax,2,none⟩=some (.int .i64 a1_2)∧w'.cell? ⟨ax,3,none⟩=some (.int .i64 a1_3)∧w'.cell? ⟨ax,4,none⟩=some (.slice A1_4 l1_4.length c1_4)) (ds:=[]) bl0 (by kernel_rfl) rfl rfl ⟨b1 ac 0,b1 ac 1,b1 ac 2,b1 ac 3,b1 ac 4,b1 ad 0,b1 ad 1,b1 ad 2,b1 ad 3,b1 ad 4⟩ (fun hHeld=>?_);refine with_tabW spec_GenMeet.tab12 spec_GenMeet.bits12 (fun HT_ HW_=>?_);generalize wr.drew=tw at al ae ac ad ah ai HB hHeld ⊢;refine pv_ 0 (some 70) bl1 HT_ ?_
        refine pv_ 2 (some 72) bl2 HT_ ?_
        refine pv_ 3 (some 73) bl3 HT_ ?_
        refine pv_ 4 (some 74) bl4 HT_ ?_
        refine tk_ 1 (some 71) bl5 HT_ HW_ hHeld ?_
        refine on_ 5 (some 75) bl6 HT_ (fun K hK=>?_);refine gs_ Try.func14 #[.int .i64 a0_2,.int .i64 (wrap64 (Int.tdiv ao a1_1))] ?_
        with_reducible refine (spec_l1Has.calls a0_2 (wrap64 (Int.tdiv ao a1_1)) true _ jq.out).mono ?_
        rintro e w' ⟨rfl,⟨nd,rfl⟩⟩;refine ⟨_,rfl,?_⟩;refine hK.out _ _ ⟨b1 ac 0,b1 ac 1,b1 ac 2,b1 ac 3,b1 ac 4,b1 ad 0,b1 ad 1,b1 ad 2,b1 ad 3,b1 ad 4⟩ (fun hHeld=>?_);clear hK K;refine nr_ (some 75) ?_
        refine pv_ 6 (some 76) bl7 HT_ ?_
        refine pv_ 7 (some 77) bl8 HT_ ?_
        refine pv_ 9 (some 79) bl9 HT_ ?_
        refine pv_ 10 (some 80) bl10 HT_ ?_
        refine pv_ 11 (some 81) bl11 HT_ ?_
        refine tk_ 8 (some 78) bl12 HT_ HW_ hHeld ?_
        refine on_ 12 (some 82) bl13 HT_ (fun K hK=>?_);refine gs_ Try.func14 #[.int .i64 a1_2,.int .i64 (Int.tmod ao a1_1)] ?_
        with_reducible refine (spec_l1Has.calls a1_2 (Int.tmod ao a1_1) gK _ pO.out).mono ?_
        rintro e w' ⟨rfl,⟨nd,rfl⟩⟩;refine ⟨_,rfl,?_⟩;refine hK.out _ _ ⟨b1 ac 0,b1 ac 1,b1 ac 2,b1 ac 3,b1 ac 4,b1 ad 0,b1 ad 1,b1 ad 2,b1 ad 3,b1 ad 4⟩ (fun hHeld=>?_);clear hK K;refine nr_ (some 82) ?_
        refine pv_ 13 (some 83) bl14 HT_ ?_
        refine done_ (done_of HT_.out (by kernel_rfl)) ?_
        try go_wp2
        go_meet
        case rel=>exact ⟨_,(gK),vv,H',⟨by have:=HJ2.out;have:=HK2.out;first|omega|exact Nat.le_refl _⟩,⟨zR al.out⟩,⟨zR ae.out⟩,⟨zB ac.out⟩,⟨zB ad.out⟩,⟨zB ah.out⟩,⟨zB ai.out⟩,⟨zS HB.out⟩⟩
       replace gU:=Bool.eq_false_iff.mpr gU;subst gU;have H1:(spec_GenMeet.j2 k2 aw a1_1 ao false a0_0 a0_1 a0_2 a0_3 l0_4 a1_0 a1_1 a1_2 a1_3 l1_4 a0_0 aU aV (wrap64 (a0_3+a1_3)) aT)=some (r1,r2,r3,r4,r5,r6):=by rw[if_neg (show ¬ (false=true) by decide)]at H;exact H
       clear H;have H:=H1;clear H1;have H':=Aside0.mk H;clear H;try go_wp2
       refine k7_ (Aside0.mk (Kd.R_drew al.out)) (Aside0.mk (Kd.R_drew ae.out)) (Aside0.mk (blk_drew ac.out)) (Aside0.mk (blk_drew ad.out)) (Aside0.mk (blk_drew ah.out)) (Aside0.mk (blk_drew ai.out)) (Aside0.mk (below_drew1 HB.out)) ?_;clear al ae ac ad ah ai HB;intro al ae ac ad ah ai HB;refine start_ (n:=14) (S:=fun w'=>w'.cell? ⟨ap,0,none⟩=some (.int .i64 a0_0)∧w'.cell? ⟨ap,1,none⟩=some (.int .i64 a0_1)∧w'.cell? ⟨ap,2,none⟩=some (.int .i64 a0_2)∧w'.cell? ⟨ap,3,none⟩=some (.int .i64 a0_3)∧w'.cell? ⟨ap,4,none⟩=some (.slice A0_4 l0_4.length c0_4)) (ds:=[]) bl0 (by kernel_rfl) rfl rfl ⟨b1 ac 0,b1 ac 1,b1 ac 2,b1 ac 3,b1 ac 4⟩ (fun hHeld=>?_);refine with_tabW spec_GenMeet.tab12 spec_GenMeet.bits12 (fun HT_ HW_=>?_);generalize wr.drew=tx at al ae ac ad ah ai HB hHeld ⊢;refine pv_ 0 (some 70) bl1 HT_ ?_
       refine pv_ 2 (some 72) bl2 HT_ ?_
       refine pv_ 3 (some 73) bl3 HT_ ?_
       refine pv_ 4 (some 74) bl4 HT_ ?_
       refine tk_ 1 (some 71) bl5 HT_ HW_ hHeld ?_
       refine on_ 5 (some 75) bl6 HT_ (fun K hK=>?_);refine gs_ Try.func14 #[.int .i64 a0_2,.int .i64 (wrap64 (Int.tdiv ao a1_1))] ?_
       with_reducible refine (spec_l1Has.calls a0_2 (wrap64 (Int.tdiv ao a1_1)) false _ jq.out).mono ?_
       rintro e w' ⟨rfl,⟨nd,rfl⟩⟩;refine ⟨_,rfl,?_⟩;refine hK.out _ _ ⟨b1 ac 0,b1 ac 1,b1 ac 2,b1 ac 3,b1 ac 4⟩ (fun hHeld=>?_);clear hK K;refine nr_ (some 75) ?_
       refine pv_ 6 (some 76) bl7 HT_ ?_
       refine pn_ 7 (some 77) bl8 HT_ ?_
       refine pn_ 8 (some 78) bl15 HT_ ?_
       refine pn_ 9 (some 79) bl16 HT_ ?_
       refine pn_ 10 (some 80) bl17 HT_ ?_
       refine pn_ 11 (some 81) bl12 HT_ ?_
       refine pn_ 12 (some 82) bl13 HT_ ?_
       refine pv_ 13 (some 83) bl14 HT_ ?_
       refine done_ (done_of HT_.out (by kernel_rfl)) ?_
       try go_wp2
       go_meet
       case rel=>exact ⟨_,(false),vv,H',⟨by have:=HJ2.out;have:=HK2.out;first|omega|exact Nat.le_refl _⟩,⟨zR al.out⟩,⟨zR ae.out⟩,⟨zB ac.out⟩,⟨zB ad.out⟩,⟨zB ah.out⟩,⟨zB ai.out⟩,⟨zS HB.out⟩⟩
      case rest=>
       clear HC72;try clear c1
       try clear p1
       try clear q1
       try clear hx1
       try clear c2
       try clear p2
       try clear c3
       try clear c4
       try clear c5
       try clear c6
       try clear p6
       try clear c7
       try clear c8
       try clear gG
       try clear fV
       try clear bz
       try clear ga
       try clear hV
       try clear hW
       try clear iQ
       try clear hX
       try clear ha
       try clear q19
       try clear hx19
       try clear hY
       try clear hZ
       try clear ia
       try clear ib
       try clear ic
       try clear id
       try clear ie
       try clear ig
       try clear gO
       try clear it
       try clear iu
       try clear gf
       try clear gC
       try clear iv
       try clear iw
       try clear ix
       try clear iy
       try clear iz
       try clear iA
       try clear iB
       try clear iC
       try clear gH
       try clear iD
       try clear gI
       try clear gP
       try clear gZ
       try clear hm
       try clear gJ
       try clear gQ
       try clear gS
       try clear gb
       try clear gT
       try clear gU
       try clear bA bB bC bD bE
       try clear bN bO bP bQ bR
       try clear bX bY bZ ca cb
       try clear ch ci cj ck cl
       try clear cr ct cu cv cw
       try clear cC cD cE cF cG
       try clear cM cN cO cP cQ
       try clear cX cY cZ da db
       try clear dh di dj dk dl
       try clear dt du dv dw dx
       try clear dD dE dF dG dH
       try clear dT dU dV dW dX
       try clear ed ee ef eg eh
       try clear en eo ep eq er
       try clear ex ey ez eA eB
       try clear eH eI eJ eK eL
       try clear eR eS eT eU eV
       try clear fb fc fd fe ff
       try clear fl fm fn fo fp
       try clear fv fw fx fy fz
       try clear fF fG fH fI fJ
       try clear bH bJ bK bL bM
       try clear bS bT bU bV bW
       try clear cc cd ce cf cg
       try clear cm cn co cp cq
       try clear cx cy cz cA cB
       try clear cH cI cJ cK cL
       try clear cR cS cU cV cW
       try clear dc dd de df dg
       try clear dm dn dp dq dr
       try clear dy dz dA dB dC
       try clear dI dJ dK dL dM
       try clear dY dZ ea eb ec
       try clear ei ej ek el em
       try clear es et eu ev ew
       try clear eC eD eE eF eG
       try clear eM eN eO eP eQ
       try clear eW eX eY eZ fa
       try clear fg fh fi fj fk
       try clear fq fr fs ft fu
       try clear fA fB fC fD fE
       try clear fK fL fM fN fO
       try clear fP
       try clear dS
       try clear p2
       try clear p6
       try clear gH
       try clear q197
       refine e2a10 hcut ?_;clear hcut;intro kq gR hQ HA HJ71 al ae ac ad ah ai HB;subst hQ
       cases kq with
       | zero=>exact absurd HA.out (by simp[spec_GenMeet.j2])
       | succ kj71=>
        have H:=HA.out;clear HA;simp only[spec_GenMeet.j2]at H;have HC80:=Aside0.mk H;clear H;go_upto_if 83 with (fail)
        go_cut [] (fun wc=>∃ (kq:Nat) (az:Int),Aside0 (spec_GenMeet.j3 kq aw a1_1 ao a0_0 a0_1 a0_2 a0_3 l0_4 a1_0 a1_1 a1_2 a1_3 l1_4 a0_0 aU az (wrap64 (a0_3+a1_3)) aT=some (r1,r2,r3,r4,r5,r6))∧Aside0 (kq≤kj71)∧Aside0 (Kd.R (Kd.int .i64) 3 wc w.heap.size (fun _=>True) (.slice (some ad197) aw.length fR) aw)∧Aside0 (Kd.R k43 43 wc w.heap.size (fun _=>True) ay aT)∧Aside0 (wc.heap[ap]?=some (.cells #[.int .i64 a0_0,.int .i64 a0_1,.int .i64 a0_2,.int .i64 a0_3,(.slice A0_4 l0_4.length c0_4)] 28 (0,0)))∧Aside0 (wc.heap[ax]?=some (.cells #[.int .i64 a1_0,.int .i64 a1_1,.int .i64 a1_2,.int .i64 a1_3,(.slice A1_4 l1_4.length c1_4)] 28 (0,0)))∧Aside0 (wc.heap[aZ]?=some (.cells #[.int .i64 0,.int .i64 0,.int .i64 0,.int .i64 0,(.slice none 0 0)] 28 (0,0)))∧Aside0 (wc.heap[aY]?=some (.cells #[.int .i64 a0_0,.int .i64 aU,.int .i64 az,.int .i64 (wrap64 (a0_3+a1_3)),ay] 28 (0,0)))∧Aside0 (Below w.heap.size w wc))
        case first=>
         have H:=HC80.out;clear HC80;by_cases hc:gR=true
         ·subst hc;have H1:(if 0≤ao then (if ao<(aw.length:Int) then ((spec_l1Bit.f (rd aw ao)).bind fun hp=>(spec_GenMeet.j3 kj71 aw a1_1 ao a0_0 a0_1 a0_2 a0_3 l0_4 a1_0 a1_1 a1_2 a1_3 l1_4 a0_0 aU (Go.bits .or .i64 aV hp) (wrap64 (a0_3+a1_3)) aT)) else (none)) else (none))=some (r1,r2,r3,r4,r5,r6):=by rw[if_pos rfl]at H;exact H
          clear H;have H:=H1;clear H1;by_cases hd:0≤ao
          ·rw[if_pos hd]at H;have gD:decide (0≤ao)=true:=decide_eq_true hd;clear hd;(first|rw[gD]|(simp only[i64_w,i32_w];rw[gD])|skip);by_cases he:ao<(aw.length:Int)
           ·rw[if_pos he]at H;have hn:decide (ao<(aw.length:Int))=true:=decide_eq_true he;clear he;replace H:=bI H;refine e1a2 H ?_;clear H;intro hp iR H;replace H:(spec_GenMeet.j3 kj71 aw a1_1 ao a0_0 a0_1 a0_2 a0_3 l0_4 a1_0 a1_1 a1_2 a1_3 l1_4 a0_0 aU (Go.bits .or .i64 aV hp) (wrap64 (a0_3+a1_3)) aT)=some (r1,r2,r3,r4,r5,r6):=H;have pP:=Aside0.mk iR;clear iR;have H':=Aside0.mk H;clear H;try go_wp2
            refine k7_ (Aside0.mk (Kd.R_drew al.out)) (Aside0.mk (Kd.R_drew ae.out)) (Aside0.mk (blk_drew ac.out)) (Aside0.mk (blk_drew ad.out)) (Aside0.mk (blk_drew ah.out)) (Aside0.mk (blk_drew ai.out)) (Aside0.mk (below_drew1 HB.out)) ?_;clear al ae ac ad ah ai HB;intro al ae ac ad ah ai HB;have gL:0≤(ao:Int):=oD;have q200:ao<(aw.length:Int):=oD;refine e1a2 (Kd.at_int (Kd.R_reads' al.out).2.2 ao gL q200) ?_;intro ad200 e200 fQ;obtain rfl:ad197=ad200:=(by injection e200);replace gL:=eq_true gL;replace q200:=eq_true q200;refine start_ (n:=10) (S:=fun w'=>w'.cell? ⟨aY,0,none⟩=some (.int .i64 a0_0)∧w'.cell? ⟨aY,1,none⟩=some (.int .i64 aU)∧w'.cell? ⟨aY,2,none⟩=some (.int .i64 aV)∧w'.cell? ⟨aY,3,none⟩=some (.int .i64 (wrap64 (a0_3+a1_3)))∧w'.cell? ⟨aY,4,none⟩=some (ay)∧w'.cell? (ad197.add (ao).toNat)=some (.int .i64 (rd aw ao))) (ds:=[9]) bl18 (by kernel_rfl) rfl rfl ⟨b1 ai 0,b1 ai 1,b1 ai 2,b1 ai 3,b1 ai 4,fQ⟩ (fun hHeld=>?_);refine with_tabW spec_GenMeet.tab13 spec_GenMeet.bits13 (fun HT_ HW_=>?_);generalize wc.drew=pQ at al ae ac ad ah ai HB fQ hHeld ⊢;refine pv_ 0 (some 84) bl19 HT_ ?_
            refine pv_ 2 (some 86) bl20 HT_ ?_
            refine pv_ 3 (some 87) bl21 HT_ ?_
            refine pv_ 4 (some 88) bl22 HT_ ?_
            refine tk_ 1 (some 85) bl23 HT_ HW_ hHeld ?_
            refine tk_ 5 (some 89) bl24 HT_ HW_ hHeld ?_
            refine on_ 6 (some 90) bl25 HT_ (fun K hK=>?_);refine gs_ Try.func15 #[.int .i64 (rd aw ao)] ?_
            with_reducible refine (spec_l1Bit.calls (rd aw ao) hp _ pP.out).mono ?_
            rintro e w' ⟨rfl,⟨nd,rfl⟩⟩;refine ⟨_,rfl,?_⟩;refine hK.out _ _ ⟨b1 ai 0,b1 ai 1,b1 ai 2,b1 ai 3,b1 ai 4,hHeld.2.2.2.2.2⟩ (fun hHeld=>?_);clear hK K;refine nr_ (some 90) ?_
            refine pv_ 7 (some 91) bl26 HT_ ?_
            refine pv_ 8 (some 92) bl27 HT_ ?_
            refine last_ (i:=9) (N:=none) bl28 rfl rfl (one_of HT_.out (by kernel_rfl)) (by decide) (fun K hK=>?_);have tb:pQ.cell? ⟨aY,2,none⟩=some (.int .i64 aV):=b1 ai 2;refine k7_ (blk_frozen ai.out 2) fU.out gX.out gY.out dO.out dP.out dQ.out ?_;intro sk pF pG pH pI pJ pK;refine skip_ (w1:=?_) (by rfl) rfl ?_ ?_;rotate_left
            ·go_simp;rfl
            refine hK.out _ _ ?_;clear hK K;refine done_ (done_of HT_.out (by kernel_rfl)) ?_
            try go_wp2
            go_meet
            case rel=>exact ⟨_,(Go.bits .or .i64 aV hp),H',⟨by have:=HJ2.out;have:=HK2.out;have:=HJ71.out;first|omega|exact Nat.le_refl _⟩,⟨rM (Aside0.mk (yF1 al ai)) (fun _ hk=>trivial)⟩,⟨rM (Aside0.mk (yF1 ae ai)) (fun _ hk=>trivial)⟩,⟨zB ac.out⟩,⟨zB ad.out⟩,⟨zB ah.out⟩,⟨by (with_reducible repeat (first|refine blk_drewN ?_ _|refine blk_drew ?_|refine blk_alloc ?_ _));refine blk_put (cs:=#[.int .i64 a0_0,.int .i64 aU,.int .i64 aV,.int .i64 (wrap64 (a0_3+a1_3)),ay]) ?_ 2 _ rfl;(with_reducible repeat (first|refine blk_drewN ?_ _|refine blk_drew ?_|refine blk_alloc ?_ _));exact ai.out⟩,⟨zS HB.out⟩⟩
           rw[if_neg he]at H;exact absurd H (by simp)
          rw[if_neg hd]at H;exact absurd H (by simp)
         replace hc:=Bool.eq_false_iff.mpr hc;subst hc;have H1:(spec_GenMeet.j3 kj71 aw a1_1 ao a0_0 a0_1 a0_2 a0_3 l0_4 a1_0 a1_1 a1_2 a1_3 l1_4 a0_0 aU aV (wrap64 (a0_3+a1_3)) aT)=some (r1,r2,r3,r4,r5,r6):=by rw[if_neg (show ¬ (false=true) by decide)]at H;exact H
         clear H;have H:=H1;clear H1;have H':=Aside0.mk H;clear H;go_wp2;go_meet
         case rel=>exact ⟨_,(aV),H',⟨by have:=HJ2.out;have:=HK2.out;have:=HJ71.out;first|omega|exact Nat.le_refl _⟩,⟨zR al.out⟩,⟨zR ae.out⟩,⟨zB ac.out⟩,⟨zB ad.out⟩,⟨zB ah.out⟩,⟨zB ai.out⟩,⟨zS HB.out⟩⟩
        case rest=>
         clear HC80;try clear c1
         try clear p1
         try clear q1
         try clear hx1
         try clear c2
         try clear p2
         try clear q2
         try clear hx2
         try clear c3
         try clear c4
         try clear c5
         try clear c6
         try clear p6
         try clear c7
         try clear c8
         try clear gG
         try clear fV
         try clear bz
         try clear ga
         try clear hV
         try clear hW
         try clear iQ
         try clear jr
         try clear hX
         try clear ha
         try clear q19
         try clear hx19
         try clear hs
         try clear q20
         try clear hx20
         try clear hY
         try clear hZ
         try clear ia
         try clear ib
         try clear ic
         try clear id
         try clear ie
         try clear ig
         try clear gO
         try clear it
         try clear iu
         try clear gf
         try clear gC
         try clear iv
         try clear iw
         try clear ix
         try clear iy
         try clear iz
         try clear iA
         try clear iB
         try clear iC
         try clear gH
         try clear iD
         try clear gI
         try clear gP
         try clear gZ
         try clear hm
         try clear gJ
         try clear gQ
         try clear gS
         try clear gb
         try clear gT
         try clear gU
         try clear hc
         try clear hd
         try clear gD
         try clear he
         try clear hn
         try clear bA bB bC bD bE
         try clear bN bO bP bQ bR
         try clear bX bY bZ ca cb
         try clear ch ci cj ck cl
         try clear cr ct cu cv cw
         try clear cC cD cE cF cG
         try clear cM cN cO cP cQ
         try clear cX cY cZ da db
         try clear dh di dj dk dl
         try clear dt du dv dw dx
         try clear dD dE dF dG dH
         try clear dT dU dV dW dX
         try clear ed ee ef eg eh
         try clear en eo ep eq er
         try clear ex ey ez eA eB
         try clear eH eI eJ eK eL
         try clear eR eS eT eU eV
         try clear fb fc fd fe ff
         try clear fl fm fn fo fp
         try clear fv fw fx fy fz
         try clear fF fG fH fI fJ
         try clear bH bJ bK bL bM
         try clear bS bT bU bV bW
         try clear cc cd ce cf cg
         try clear cm cn co cp cq
         try clear cx cy cz cA cB
         try clear cH cI cJ cK cL
         try clear cR cS cU cV cW
         try clear dc dd de df dg
         try clear dm dn dp dq dr
         try clear dy dz dA dB dC
         try clear dI dJ dK dL dM
         try clear dY dZ ea eb ec
         try clear ei ej ek el em
         try clear es et eu ev ew
         try clear eC eD eE eF eG
         try clear eM eN eO eP eQ
         try clear eW eX eY eZ fa
         try clear fg fh fi fj fk
         try clear fq fr fs ft fu
         try clear fA fB fC fD fE
         try clear fK fL fM fN fO
         try clear fP
         try clear fQ
         try clear p1
         try clear ha
         try clear dS
         try clear p2
         try clear gL
         try clear p6
         try clear gH
         try clear q1
         try clear q19
         try clear q197
         try clear q200
         refine e2a9 hcut ?_;clear hcut;intro kq az HA HJ79 al ae ac ad ah ai HB
         cases kq with
         | zero=>exact absurd HA.out (by simp[spec_GenMeet.j3])
         | succ kj79=>
          have H:=HA.out;clear HA;simp only[spec_GenMeet.j3]at H;have H':=Aside0.mk H;clear H;go_wp2;refine wp_loop_ghost_k (fun k' a' w'=>∃ u11 u12 u13 u14 u93 u94 u95 u96 u97 u98 u99 u100 u101 u102 u103 u104 u105 u106 u107 u108 u109 u110 u111 u112 u113 u114 u115 u116 u117 u118 u119 u120 u121 u122 u123 u124 u125 u126 u127 u128 u129 u130 u131 u132 u133 u134 u135 u136 u137 u138 u139 u140 u141 u142 u143 u144 u145 u146 u147 u148 u149 u150 u151 u152 u153 u154 u155 u156 u157 u158 u159 u160 u161 u162 u163 u164 u165 u166 u167 u168 u169 u170 u171,(fun kq pR w'=>∃ (aa:Int) (dR:List (S43)) (ay:Value),pR=.int .i64 aa∧Aside0 (spec_GenMeet.l1 kq aw a1_1 ao aa a0_0 a0_1 a0_2 a0_3 l0_4 a1_0 a1_1 a1_2 a1_3 l1_4 a0_0 aU az (wrap64 (a0_3+a1_3)) dR=some (r1,r2,r3,r4,r5,r6))∧Aside0 (kq≤kj79)∧Aside0 (Kd.R (Kd.int .i64) 3 w' w.heap.size (fun _=>True) (.slice (some ad197) aw.length fR) aw)∧Aside0 (Kd.R k43 43 w' w.heap.size (fun _=>True) ay dR)∧Aside0 (w'.heap[ap]?=some (.cells #[.int .i64 a0_0,.int .i64 a0_1,.int .i64 a0_2,.int .i64 a0_3,(.slice A0_4 l0_4.length c0_4)] 28 (0,0)))∧Aside0 (w'.heap[ax]?=some (.cells #[.int .i64 a1_0,.int .i64 a1_1,.int .i64 a1_2,.int .i64 a1_3,(.slice A1_4 l1_4.length c1_4)] 28 (0,0)))∧Aside0 (w'.heap[aZ]?=some (.cells #[.int .i64 0,.int .i64 0,.int .i64 0,.int .i64 0,(.slice none 0 0)] 28 (0,0)))∧Aside0 (w'.heap[aY]?=some (.cells #[.int .i64 a0_0,.int .i64 aU,.int .i64 az,.int .i64 (wrap64 (a0_3+a1_3)),ay] 28 (0,0)))∧Aside0 (Below w.heap.size w w')) k' u11 w'∧a'=⟨#[.agg #[.int .i64 a0_0,.int .i64 a0_1,.int .i64 a0_2,.int .i64 a0_3,.slice A0_4 l0_4.length c0_4],.agg #[.int .i64 a1_0,.int .i64 a1_1,.int .i64 a1_2,.int .i64 a1_3,.slice A1_4 l1_4.length c1_4],.pointer (some ⟨ap,0,none⟩),.pointer (some ⟨ax,0,none⟩),.pointer (some ⟨aZ,0,none⟩),.bool false,.slice (some ad197) aw.length fR,.int .i64 aU,.pointer (some ⟨aY,0,none⟩),.int .i64 a1_1,.int .i64 ao,u11,u12,u13,u14,u15,u16,u17,u18,u19,u20,u21,u22,u23,u24,u25,u26,u27,u28,u29,u30,u31,u32,u33,u34,u35,u36,.bool false,u38,.tuple #[.slice (some ad197) aw.length fR,.int .i64 aU],.agg #[.int .i64 a0_0,.int .i64 a0_1,.int .i64 a0_2,.int .i64 a0_3,.slice A0_4 l0_4.length c0_4],.agg #[.int .i64 a1_0,.int .i64 a1_1,.int .i64 a1_2,.int .i64 a1_3,.slice A1_4 l1_4.length c1_4],.tuple #[.slice (some ad197) aw.length fR,.int .i64 aU],.slice (some ad197) aw.length fR,.int .i64 aU,.int .i64 aU,.bool false,u47,.pointer (some ⟨ap,0,none⟩),.int .i64 a0_0,.int .i64 aU,.pointer (some ⟨ap,3,none⟩),.int .i64 a0_3,.pointer (some ⟨ax,3,none⟩),.int .i64 a1_3,.int .i64 (wrap64 (a0_3+a1_3)),.agg #[.int .i64 a0_0,.int .i64 aU,.int .i64 0,.int .i64 (wrap64 (a0_3+a1_3)),.slice none 0 0],.pointer (some ⟨ax,1,none⟩),.int .i64 a1_1,u59,u60,u61,u62,u63,u64,u65,u66,u67,u68,u69,u70,u71,u72,u73,u74,u75,u76,u77,u78,u79,u80,u81,u82,u83,u84,u85,u86,u87,u88,u89,u90,u91,u92,u93,u94,u95,u96,u97,u98,u99,u100,u101,u102,u103,u104,u105,u106,u107,u108,u109,u110,u111,u112,u113,u114,u115,u116,u117,u118,u119,u120,u121,u122,u123,u124,u125,u126,u127,u128,u129,u130,u131,u132,u133,u134,u135,u136,u137,u138,u139,u140,u141,u142,u143,u144,u145,u146,u147,u148,u149,u150,u151,u152,u153,u154,u155,u156,u157,u158,u159,u160,u161,u162,u163,u164,u165,u166,u167,u168,u169,u170,u171,u172,u173,u174,u175,u176,u177,u178],[]⟩) kj79 ?_ ?_
          ·(repeat apply Exists.intro);refine ⟨?_,rfl⟩;exact ⟨(0),(aT),(ay),vv,H',⟨Nat.le_refl _⟩,⟨zR al.out⟩,⟨zR ae.out⟩,⟨zB ac.out⟩,⟨zB ad.out⟩,⟨zB ah.out⟩,⟨zB ai.out⟩,⟨zS HB.out⟩⟩
          intro gk _ wr hinv;refine ex20_ hinv ?_;clear hinv;intro u11 u12 u13 u14 u93 u94 u95 u96 u97 u98 u99 u100 u101 u102 u103 u104 u105 u106 u107 u108 hinv;refine ex20_ hinv ?_;clear hinv;intro u109 u110 u111 u112 u113 u114 u115 u116 u117 u118 u119 u120 u121 u122 u123 u124 u125 u126 u127 u128 hinv;refine ex20_ hinv ?_;clear hinv;intro u129 u130 u131 u132 u133 u134 u135 u136 u137 u138 u139 u140 u141 u142 u143 u144 u145 u146 u147 u148 hinv;refine ex20_ hinv ?_;clear hinv;intro u149 u150 u151 u152 u153 u154 u155 u156 u157 u158 u159 u160 u161 u162 u163 u164 u165 u166 u167 u168 hinv;refine ex3_ hinv ?_;clear hinv;intro u169 u170 u171 hinv;obtain ⟨hrel,ha⟩:=hinv;subst ha;(try dsimp only);intro _ _ _ _;clear H';try clear c1
          try clear p1
          try clear q1
          try clear hx1
          try clear c2
          try clear p2
          try clear q2
          try clear hx2
          try clear c3
          try clear c4
          try clear c5
          try clear c6
          try clear p6
          try clear c7
          try clear c8
          try clear gG
          try clear fV
          try clear bz
          try clear ga
          try clear hV
          try clear hW
          try clear iQ
          try clear jr
          try clear hX
          try clear ha
          try clear q19
          try clear hx19
          try clear hs
          try clear q20
          try clear hx20
          try clear hY
          try clear hZ
          try clear ia
          try clear ib
          try clear ic
          try clear id
          try clear ie
          try clear ig
          try clear gO
          try clear it
          try clear iu
          try clear gf
          try clear gC
          try clear iv
          try clear iw
          try clear ix
          try clear iy
          try clear iz
          try clear iA
          try clear iB
          try clear iC
          try clear gH
          try clear iD
          try clear gI
          try clear gP
          try clear gZ
          try clear hm
          try clear gJ
          try clear gQ
          try clear gS
          try clear gb
          try clear gT
          try clear gU
          try clear hc
          try clear hd
          try clear gD
          try clear he
          try clear hn
          try clear bA bB bC bD bE
          try clear bN bO bP bQ bR
          try clear bX bY bZ ca cb
          try clear ch ci cj ck cl
          try clear cr ct cu cv cw
          try clear cC cD cE cF cG
          try clear cM cN cO cP cQ
          try clear cX cY cZ da db
          try clear dh di dj dk dl
          try clear dt du dv dw dx
          try clear dD dE dF dG dH
          try clear dT dU dV dW dX
          try clear ed ee ef eg eh
          try clear en eo ep eq er
          try clear ex ey ez eA eB
          try clear eH eI eJ eK eL
          try clear eR eS eT eU eV
          try clear fb fc fd fe ff
          try clear fl fm fn fo fp
          try clear fv fw fx fy fz
          try clear fF fG fH fI fJ
          try clear bH bJ bK bL bM
          try clear bS bT bU bV bW
          try clear cc cd ce cf cg
          try clear cm cn co cp cq
          try clear cx cy cz cA cB
          try clear cH cI cJ cK cL
          try clear cR cS cU cV cW
          try clear dc dd de df dg
          try clear dm dn dp dq dr
          try clear dy dz dA dB dC
          try clear dI dJ dK dL dM
          try clear dY dZ ea eb ec
          try clear ei ej ek el em
          try clear es et eu ev ew
          try clear eC eD eE eF eG
          try clear eM eN eO eP eQ
          try clear eW eX eY eZ fa
          try clear fg fh fi fj fk
          try clear fq fr fs ft fu
          try clear fA fB fC fD fE
          try clear fK fL fM fN fO
          try clear fP
          try clear fQ
          try clear p1
          try clear ha
          try clear dS
          try clear p2
          try clear hs
          try clear gL
          try clear p6
          try clear gH
          try clear q1
          try clear q19
          try clear q197
          try clear q2
          try clear q20
          try clear q200
          refine e3a10 hrel ?_;clear hrel;intro aa dR ay hQ HA HK5 al ae ac ad ah ai HB;subst hQ
          cases gk with
          | zero=>exact absurd HA.out (by simp[spec_GenMeet.l1])
          | succ k5=>
           have H:=HA.out;clear HA;simp only[spec_GenMeet.l1]at H;by_cases hf:aa<(l0_4.length:Int)
           ·rw[if_pos hf]at H;have hH:decide (aa<(l0_4.length:Int))=true:=decide_eq_true hf;clear hf;have H':=Aside0.mk H;clear H;refine nnk bi (fun sl sm=>?_);refine nnk bj (fun sn so=>?_);refine nnk fU (fun sp sq=>?_);refine cz5k ac (fun ht hu hv hw hx hy hA hB hC hD=>?_);go_wp2;refine wp_loop_ghost_k (fun k' a' w'=>∃ u12 u13 u14 u100 u101 u102 u103 u104 u105 u106 u107 u108 u109 u110 u111 u112 u113 u114 u115 u116 u117 u118 u119 u120 u121 u122 u123 u124 u125 u126 u127 u128 u129 u130 u131 u132 u133 u134 u135 u136 u137 u138 u139 u140 u141 u142 u143 u144 u145 u146 u147 u148 u149 u150 u151 u152 u153 u154 u155 u156 u157 u158 u159 u160 u161 u162 u163 u164 u165 u166 u167 u168 u169 u170 u171,(fun kq pS w'=>∃ (ab:Int) (aG:List (S43)) (ay:Value),pS=.int .i64 ab∧Aside0 (spec_GenMeet.l2 kq aw a1_1 ao aa ab a0_0 a0_1 a0_2 a0_3 l0_4 a1_0 a1_1 a1_2 a1_3 l1_4 a0_0 aU az (wrap64 (a0_3+a1_3)) aG=some (r1,r2,r3,r4,r5,r6))∧Aside0 (kq≤k5)∧Aside0 (Kd.R (Kd.int .i64) 3 w' w.heap.size (fun _=>True) (.slice (some ad197) aw.length fR) aw)∧Aside0 (Kd.R k43 43 w' w.heap.size (fun _=>True) ay aG)∧Aside0 (w'.heap[ap]?=some (.cells #[.int .i64 a0_0,.int .i64 a0_1,.int .i64 a0_2,.int .i64 a0_3,(.slice A0_4 l0_4.length c0_4)] 28 (0,0)))∧Aside0 (w'.heap[ax]?=some (.cells #[.int .i64 a1_0,.int .i64 a1_1,.int .i64 a1_2,.int .i64 a1_3,(.slice A1_4 l1_4.length c1_4)] 28 (0,0)))∧Aside0 (w'.heap[aZ]?=some (.cells #[.int .i64 0,.int .i64 0,.int .i64 0,.int .i64 0,(.slice none 0 0)] 28 (0,0)))∧Aside0 (w'.heap[aY]?=some (.cells #[.int .i64 a0_0,.int .i64 aU,.int .i64 az,.int .i64 (wrap64 (a0_3+a1_3)),ay] 28 (0,0)))∧Aside0 (Below w.heap.size w w')) k' u12 w'∧a'=⟨#[.agg #[.int .i64 a0_0,.int .i64 a0_1,.int .i64 a0_2,.int .i64 a0_3,.slice A0_4 l0_4.length c0_4],.agg #[.int .i64 a1_0,.int .i64 a1_1,.int .i64 a1_2,.int .i64 a1_3,.slice A1_4 l1_4.length c1_4],.pointer (some ⟨ap,0,none⟩),.pointer (some ⟨ax,0,none⟩),.pointer (some ⟨aZ,0,none⟩),.bool false,.slice (some ad197) aw.length fR,.int .i64 aU,.pointer (some ⟨aY,0,none⟩),.int .i64 a1_1,.int .i64 ao,.int .i64 aa,u12,u13,u14,u15,u16,u17,u18,u19,u20,u21,u22,u23,u24,u25,u26,u27,u28,u29,u30,u31,u32,u33,u34,u35,u36,.bool false,u38,.tuple #[.slice (some ad197) aw.length fR,.int .i64 aU],.agg #[.int .i64 a0_0,.int .i64 a0_1,.int .i64 a0_2,.int .i64 a0_3,.slice A0_4 l0_4.length c0_4],.agg #[.int .i64 a1_0,.int .i64 a1_1,.int .i64 a1_2,.int .i64 a1_3,.slice A1_4 l1_4.length c1_4],.tuple #[.slice (some ad197) aw.length fR,.int .i64 aU],.slice (some ad197) aw.length fR,.int .i64 aU,.int .i64 aU,.bool false,u47,.pointer (some ⟨ap,0,none⟩),.int .i64 a0_0,.int .i64 aU,.pointer (some ⟨ap,3,none⟩),.int .i64 a0_3,.pointer (some ⟨ax,3,none⟩),.int .i64 a1_3,.int .i64 (wrap64 (a0_3+a1_3)),.agg #[.int .i64 a0_0,.int .i64 aU,.int .i64 0,.int .i64 (wrap64 (a0_3+a1_3)),.slice none 0 0],.pointer (some ⟨ax,1,none⟩),.int .i64 a1_1,u59,u60,u61,u62,u63,u64,u65,u66,u67,u68,u69,u70,u71,u72,u73,u74,u75,u76,u77,u78,u79,u80,u81,u82,u83,u84,u85,u86,u87,u88,u89,u90,u91,u92,.int .i64 aa,.pointer (some ⟨ap,4,none⟩),.slice A0_4 l0_4.length c0_4,.int .i64 (l0_4.length:Int),.bool true,u98,u99,u100,u101,u102,u103,u104,u105,u106,u107,u108,u109,u110,u111,u112,u113,u114,u115,u116,u117,u118,u119,u120,u121,u122,u123,u124,u125,u126,u127,u128,u129,u130,u131,u132,u133,u134,u135,u136,u137,u138,u139,u140,u141,u142,u143,u144,u145,u146,u147,u148,u149,u150,u151,u152,u153,u154,u155,u156,u157,u158,u159,u160,u161,u162,u163,u164,u165,u166,u167,u168,u169,u170,u171,u172,u173,u174,u175,u176,u177,u178],[]⟩) k5 ?_ ?_
            ·(repeat apply Exists.intro);refine ⟨?_,rfl⟩;exact ⟨(0),(dR),(ay),vv,H',⟨Nat.le_refl _⟩,⟨zR al.out⟩,⟨zR ae.out⟩,⟨zB ac.out⟩,⟨zB ad.out⟩,⟨zB ah.out⟩,⟨zB ai.out⟩,⟨zS HB.out⟩⟩
            intro gk _ wr hinv;refine ex20_ hinv ?_;clear hinv;intro u12 u13 u14 u100 u101 u102 u103 u104 u105 u106 u107 u108 u109 u110 u111 u112 u113 u114 u115 u116 hinv;refine ex20_ hinv ?_;clear hinv;intro u117 u118 u119 u120 u121 u122 u123 u124 u125 u126 u127 u128 u129 u130 u131 u132 u133 u134 u135 u136 hinv;refine ex20_ hinv ?_;clear hinv;intro u137 u138 u139 u140 u141 u142 u143 u144 u145 u146 u147 u148 u149 u150 u151 u152 u153 u154 u155 u156 hinv;refine ex15_ hinv ?_;clear hinv;intro u157 u158 u159 u160 u161 u162 u163 u164 u165 u166 u167 u168 u169 u170 u171 hinv;obtain ⟨hrel,ha⟩:=hinv;subst ha;(try dsimp only);intro _ _ _ _;clear H';try clear c1
            try clear p1
            try clear q1
            try clear hx1
            try clear c2
            try clear p2
            try clear q2
            try clear hx2
            try clear c3
            try clear c4
            try clear c5
            try clear c6
            try clear p6
            try clear c7
            try clear c8
            try clear c9
            try clear gG
            try clear fV
            try clear bz
            try clear ga
            try clear hV
            try clear hW
            try clear iQ
            try clear jr
            try clear hX
            try clear ha
            try clear q19
            try clear hx19
            try clear hs
            try clear q20
            try clear hx20
            try clear hY
            try clear hZ
            try clear ia
            try clear ib
            try clear ic
            try clear id
            try clear ie
            try clear ig
            try clear gO
            try clear it
            try clear iu
            try clear gf
            try clear gC
            try clear iv
            try clear iw
            try clear ix
            try clear iy
            try clear iz
            try clear iA
            try clear iB
            try clear iC
            try clear gH
            try clear iD
            try clear gI
            try clear gP
            try clear gZ
            try clear hm
            try clear gJ
            try clear gQ
            try clear gS
            try clear gb
            try clear gT
            try clear gU
            try clear hc
            try clear hd
            try clear gD
            try clear he
            try clear hn
            try clear hf
            try clear hH
            try clear pT
            try clear pU
            try clear pV
            try clear bA bB bC bD bE
            try clear bN bO bP bQ bR
            try clear bX bY bZ ca cb
            try clear ch ci cj ck cl
            try clear cr ct cu cv cw
            try clear cC cD cE cF cG
            try clear cM cN cO cP cQ
            try clear cX cY cZ da db
            try clear dh di dj dk dl
            try clear dt du dv dw dx
            try clear dD dE dF dG dH
            try clear dT dU dV dW dX
            try clear ed ee ef eg eh
            try clear en eo ep eq er
            try clear ex ey ez eA eB
            try clear eH eI eJ eK eL
            try clear eR eS eT eU eV
            try clear fb fc fd fe ff
            try clear fl fm fn fo fp
            try clear fv fw fx fy fz
            try clear fF fG fH fI fJ
            try clear ht hu hv hw hx
            try clear bH bJ bK bL bM
            try clear bS bT bU bV bW
            try clear cc cd ce cf cg
            try clear cm cn co cp cq
            try clear cx cy cz cA cB
            try clear cH cI cJ cK cL
            try clear cR cS cU cV cW
            try clear dc dd de df dg
            try clear dm dn dp dq dr
            try clear dy dz dA dB dC
            try clear dI dJ dK dL dM
            try clear dY dZ ea eb ec
            try clear ei ej ek el em
            try clear es et eu ev ew
            try clear eC eD eE eF eG
            try clear eM eN eO eP eQ
            try clear eW eX eY eZ fa
            try clear fg fh fi fj fk
            try clear fq fr fs ft fu
            try clear fA fB fC fD fE
            try clear fK fL fM fN fO
            try clear hy hA hB hC hD
            try clear fP
            try clear fQ
            try clear p1
            try clear ha
            try clear dS
            try clear p2
            try clear hs
            try clear gL
            try clear p6
            try clear gH
            try clear q1
            try clear q19
            try clear q197
            try clear q2
            try clear q20
            try clear q200
            refine e3a10 hrel ?_;clear hrel;intro ab aG ay hQ HA HK6 al ae ac ad ah ai HB;subst hQ
            cases gk with
            | zero=>exact absurd HA.out (by simp[spec_GenMeet.l2])
            | succ k6=>
             have H:=HA.out;clear HA;simp only[spec_GenMeet.l2]at H;have HC92:=Aside0.mk H;clear H;go_upto_region 18 with (fail)
             go_cut [116] (fun ju wc=>∃ (kq:Nat) (gE:Bool),ju=.bool gE∧Aside0 (spec_GenMeet.j6 kq aw a1_1 ao aa ab gE a0_0 a0_1 a0_2 a0_3 l0_4 a1_0 a1_1 a1_2 a1_3 l1_4 a0_0 aU az (wrap64 (a0_3+a1_3)) aG=some (r1,r2,r3,r4,r5,r6))∧Aside0 (kq≤k6)∧Aside0 (Kd.R (Kd.int .i64) 3 wc w.heap.size (fun _=>True) (.slice (some ad197) aw.length fR) aw)∧Aside0 (Kd.R k43 43 wc w.heap.size (fun _=>True) ay aG)∧Aside0 (wc.heap[ap]?=some (.cells #[.int .i64 a0_0,.int .i64 a0_1,.int .i64 a0_2,.int .i64 a0_3,(.slice A0_4 l0_4.length c0_4)] 28 (0,0)))∧Aside0 (wc.heap[ax]?=some (.cells #[.int .i64 a1_0,.int .i64 a1_1,.int .i64 a1_2,.int .i64 a1_3,(.slice A1_4 l1_4.length c1_4)] 28 (0,0)))∧Aside0 (wc.heap[aZ]?=some (.cells #[.int .i64 0,.int .i64 0,.int .i64 0,.int .i64 0,(.slice none 0 0)] 28 (0,0)))∧Aside0 (wc.heap[aY]?=some (.cells #[.int .i64 a0_0,.int .i64 aU,.int .i64 az,.int .i64 (wrap64 (a0_3+a1_3)),ay] 28 (0,0)))∧Aside0 (Below w.heap.size w wc))
             case first=>
              have H:=HC92.out;clear HC92;by_cases hq:ab<(l1_4.length:Int)
              ·rw[if_pos hq]at H;have gF:decide (ab<(l1_4.length:Int))=true:=decide_eq_true hq;clear hq;(first|rw[gF]|(simp only[i64_w,i32_w];rw[gF])|skip);by_cases ih:0≤aa
               ·rw[if_pos ih]at H;have iY:decide (0≤aa)=true:=decide_eq_true ih;clear ih;by_cases ii:aa<(l0_4.length:Int)
                ·rw[if_pos ii]at H;have iZ:decide (aa<(l0_4.length:Int))=true:=decide_eq_true ii;clear ii;by_cases ij:a1_1=0
                 ·rw[if_pos ij]at H;exact absurd H (by simp)
                 rw[if_neg ij]at H;have ja:(a1_1 == 0)=false:=beq_eq_false_iff_ne.mpr ij;have jb:(a1_1 != 0)=true:=bne_iff_ne.mpr ij;have H':=Aside0.mk H;clear H;try go_wp2
                 refine k7_ (Aside0.mk (Kd.R_drew al.out)) (Aside0.mk (Kd.R_drew ae.out)) (Aside0.mk (blk_drew ac.out)) (Aside0.mk (blk_drew ad.out)) (Aside0.mk (blk_drew ah.out)) (Aside0.mk (blk_drew ai.out)) (Aside0.mk (below_drew1 HB.out)) ?_;clear al ae ac ad ah ai HB;intro al ae ac ad ah ai HB;have hI:0≤(aa:Int):=oD;have q202:aa<(l0_4.length:Int):=oD;refine e1a5 (at_T43 HR0_4.out aa hI q202) ?_;intro ad202 e202 fW fX fY fZ;refine k4_ fZ fY fX fW ?_;intro hw202_3 hw202_2 hw202_1 hw202_0
                 cases e202
                 refine k6_ (ct_ HB fW) (ct_ HB fX) (ct_ HB fY) (ct_ HB fZ) (eq_true hI) (eq_true q202) ?_;clear fW fX fY fZ hI q202;intro fW fX fY fZ hI q202;refine start_ (n:=17) (S:=fun w'=>w'.cell? ⟨ax,0,none⟩=some (.int .i64 a1_0)∧w'.cell? ⟨ax,1,none⟩=some (.int .i64 a1_1)∧w'.cell? ⟨ax,2,none⟩=some (.int .i64 a1_2)∧w'.cell? ⟨ax,3,none⟩=some (.int .i64 a1_3)∧w'.cell? ⟨ax,4,none⟩=some (.slice A1_4 l1_4.length c1_4)∧w'.cell? ⟨ap,0,none⟩=some (.int .i64 a0_0)∧w'.cell? ⟨ap,1,none⟩=some (.int .i64 a0_1)∧w'.cell? ⟨ap,2,none⟩=some (.int .i64 a0_2)∧w'.cell? ⟨ap,3,none⟩=some (.int .i64 a0_3)∧w'.cell? ⟨ap,4,none⟩=some (.slice (some ad202) l0_4.length c0_4)∧w'.cell? (ad202.add ((aa).toNat * 4))=some (.int .i64 ((rd_T43 l0_4 aa).f0))∧w'.cell? ⟨(ad202.add ((aa).toNat * 4)).block,(ad202.add ((aa).toNat * 4)).off+1,none⟩=some (.int .i64 ((rd_T43 l0_4 aa).f1))∧w'.cell? ⟨(ad202.add ((aa).toNat * 4)).block,(ad202.add ((aa).toNat * 4)).off+2,none⟩=some (.int .i64 ((rd_T43 l0_4 aa).f2))∧w'.cell? ⟨(ad202.add ((aa).toNat * 4)).block,(ad202.add ((aa).toNat * 4)).off+3,none⟩=some (.int .i64 ((rd_T43 l0_4 aa).f3))) (ds:=[]) bl29 (by kernel_rfl) rfl rfl ⟨b1 ad 0,b1 ad 1,b1 ad 2,b1 ad 3,b1 ad 4,b1 ac 0,b1 ac 1,b1 ac 2,b1 ac 3,b1 ac 4,(ct_ HB hw202_0),(ct_ HB hw202_1),(ct_ HB hw202_2),(ct_ HB hw202_3)⟩ (fun hHeld=>?_);refine with_tabW spec_GenMeet.tab18 spec_GenMeet.bits18 (fun HT_ HW_=>?_);generalize wr.drew=ty at al ae ac ad ah ai HB fW fX fY fZ hHeld ⊢;refine pv_ 0 (some 100) bl30 HT_ ?_
                 refine pv_ 1 (some 101) bl31 HT_ ?_
                 refine tk_ 2 (some 102) bl32 HT_ HW_ hHeld ?_
                 refine pv_ 3 (some 103) bl33 HT_ ?_
                 refine pv_ 4 (some 104) bl34 HT_ ?_
                 refine pv_ 5 (some 105) bl35 HT_ ?_
                 refine pv_ 6 (some 106) bl36 HT_ ?_
                 refine pv_ 8 (some 108) bl37 HT_ ?_
                 refine pv_ 12 (some 112) bl38 HT_ ?_
                 refine pv_ 13 (some 113) bl39 HT_ ?_
                 refine pv_ 14 (some 114) bl40 HT_ ?_
                 refine tk_ 7 (some 107) bl41 HT_ HW_ hHeld ?_
                 refine pv_ 9 (some 109) bl42 HT_ ?_
                 refine pv_ 10 (some 110) bl43 HT_ ?_
                 refine tk_ 11 (some 111) bl44 HT_ HW_ hHeld ?_
                 refine pv_ 15 (some 115) bl45 HT_ ?_
                 refine pv_ 16 (some 116) bl46 HT_ ?_
                 refine done_ (done_of HT_.out (by kernel_rfl)) ?_
                 try go_wp2
                 go_meet
                 case rel=>exact ⟨_,((((rd_T43 l0_4 aa).f0) == (wrap64 (Int.tdiv ao a1_1)))),vv,H',⟨by have:=HJ2.out;have:=HK2.out;have:=HJ71.out;have:=HJ79.out;have:=HK5.out;have:=HK6.out;first|omega|exact Nat.le_refl _⟩,⟨zR al.out⟩,⟨zR ae.out⟩,⟨zB ac.out⟩,⟨zB ad.out⟩,⟨zB ah.out⟩,⟨zB ai.out⟩,⟨zS HB.out⟩⟩
                rw[if_neg ii]at H;exact absurd H (by simp)
               rw[if_neg ih]at H;exact absurd H (by simp)
              rw[if_neg hq]at H;have gF:decide (ab<(l1_4.length:Int))=false:=decide_eq_false hq;clear hq;(first|rw[gF]|(simp only[i64_w,i32_w];rw[gF])|skip);have H':=Aside0.mk H;clear H;try go_wp2
              refine k7_ (Aside0.mk (Kd.R_drew al.out)) (Aside0.mk (Kd.R_drew ae.out)) (Aside0.mk (blk_drew ac.out)) (Aside0.mk (blk_drew ad.out)) (Aside0.mk (blk_drew ah.out)) (Aside0.mk (blk_drew ai.out)) (Aside0.mk (below_drew1 HB.out)) ?_;clear al ae ac ad ah ai HB;intro al ae ac ad ah ai HB;refine start_ (n:=17) (S:=fun w'=>w'.cell? ⟨ax,0,none⟩=some (.int .i64 a1_0)∧w'.cell? ⟨ax,1,none⟩=some (.int .i64 a1_1)∧w'.cell? ⟨ax,2,none⟩=some (.int .i64 a1_2)∧w'.cell? ⟨ax,3,none⟩=some (.int .i64 a1_3)∧w'.cell? ⟨ax,4,none⟩=some (.slice A1_4 l1_4.length c1_4)) (ds:=[]) bl29 (by kernel_rfl) rfl rfl ⟨b1 ad 0,b1 ad 1,b1 ad 2,b1 ad 3,b1 ad 4⟩ (fun hHeld=>?_);refine with_tabW spec_GenMeet.tab18 spec_GenMeet.bits18 (fun HT_ HW_=>?_);generalize wr.drew=tz at al ae ac ad ah ai HB hHeld ⊢;refine pv_ 0 (some 100) bl30 HT_ ?_
              refine pv_ 1 (some 101) bl31 HT_ ?_
              refine tk_ 2 (some 102) bl32 HT_ HW_ hHeld ?_
              refine pv_ 3 (some 103) bl33 HT_ ?_
              refine pv_ 4 (some 104) bl34 HT_ ?_
              refine pv_ 5 (some 105) bl35 HT_ ?_
              refine pn_ 6 (some 106) bl36 HT_ ?_
              refine pn_ 7 (some 107) bl47 HT_ ?_
              refine pn_ 8 (some 108) bl48 HT_ ?_
              refine pn_ 9 (some 109) bl49 HT_ ?_
              refine pn_ 10 (some 110) bl50 HT_ ?_
              refine pn_ 11 (some 111) bl51 HT_ ?_
              refine pn_ 12 (some 112) bl52 HT_ ?_
              refine pn_ 13 (some 113) bl53 HT_ ?_
              refine pn_ 14 (some 114) bl44 HT_ ?_
              refine pn_ 15 (some 115) bl45 HT_ ?_
              refine pv_ 16 (some 116) bl46 HT_ ?_
              refine done_ (done_of HT_.out (by kernel_rfl)) ?_
              try go_wp2
              go_meet
              case rel=>exact ⟨_,(false),vv,H',⟨by have:=HJ2.out;have:=HK2.out;have:=HJ71.out;have:=HJ79.out;have:=HK5.out;have:=HK6.out;first|omega|exact Nat.le_refl _⟩,⟨zR al.out⟩,⟨zR ae.out⟩,⟨zB ac.out⟩,⟨zB ad.out⟩,⟨zB ah.out⟩,⟨zB ai.out⟩,⟨zS HB.out⟩⟩
             case rest=>
              clear HC92;try clear c1
              try clear p1
              try clear q1
              try clear hx1
              try clear p2
              try clear q2
              try clear hx2
              try clear p6
              try clear c7
              try clear c8
              try clear c9
              try clear ha
              try clear q19
              try clear hx19
              try clear hs
              try clear q20
              try clear hx20
              try clear gH
              try clear gS
              try clear gb
              try clear gT
              try clear gU
              try clear hc
              try clear hd
              try clear gD
              try clear he
              try clear hn
              try clear hf
              try clear hH
              try clear pT
              try clear pU
              try clear pV
              try clear hq
              try clear gF
              try clear ih
              try clear iY
              try clear ii
              try clear iZ
              try clear ij
              try clear ja
              try clear jb
              try clear bA bB bC bD bE
              try clear bN bO bP bQ bR
              try clear bX bY bZ ca cb
              try clear ch ci cj ck cl
              try clear cr ct cu cv cw
              try clear cC cD cE cF cG
              try clear cM cN cO cP cQ
              try clear cX cY cZ da db
              try clear dh di dj dk dl
              try clear dt du dv dw dx
              try clear dD dE dF dG dH
              try clear dT dU dV dW dX
              try clear ed ee ef eg eh
              try clear en eo ep eq er
              try clear ex ey ez eA eB
              try clear eH eI eJ eK eL
              try clear eR eS eT eU eV
              try clear fb fc fd fe ff
              try clear fl fm fn fo fp
              try clear fv fw fx fy fz
              try clear fF fG fH fI fJ
              try clear ht hu hv hw hx
              try clear bH bJ bK bL bM
              try clear bS bT bU bV bW
              try clear cc cd ce cf cg
              try clear cm cn co cp cq
              try clear cx cy cz cA cB
              try clear cH cI cJ cK cL
              try clear cR cS cU cV cW
              try clear dc dd de df dg
              try clear dm dn dp dq dr
              try clear dy dz dA dB dC
              try clear dI dJ dK dL dM
              try clear dY dZ ea eb ec
              try clear ei ej ek el em
              try clear es et eu ev ew
              try clear eC eD eE eF eG
              try clear eM eN eO eP eQ
              try clear eW eX eY eZ fa
              try clear fg fh fi fj fk
              try clear fq fr fs ft fu
              try clear fA fB fC fD fE
              try clear fK fL fM fN fO
              try clear hy hA hB hC hD
              try clear fP
              try clear fQ
              try clear fW
              try clear fX
              try clear fY
              try clear fZ
              try clear p1
              try clear ha
              try clear dS
              try clear p2
              try clear hs
              try clear gL
              try clear hI
              try clear p6
              try clear gH
              try clear q1
              try clear q19
              try clear q197
              try clear q2
              try clear q20
              try clear q200
              try clear q202
              refine e2a10 hcut ?_;clear hcut;intro kq gE hQ HA HJ91 al ae ac ad ah ai HB;subst hQ
              cases kq with
              | zero=>exact absurd HA.out (by simp[spec_GenMeet.j6])
              | succ kj91=>
               have H:=HA.out;clear HA;simp only[spec_GenMeet.j6]at H;by_cases iE:gE=true
               ·subst iE;have H1:(if 0≤aa then (if aa<(l0_4.length:Int) then (if 0≤ab then (if ab<(l1_4.length:Int) then (if a1_1=0 then (none) else (if ((rd_T43 l1_4 ab).f0)=(Int.tmod ao a1_1) then (if ((rd_T43 l0_4 aa).f1)=((rd_T43 l1_4 ab).f1) then (if 0≤ao then (if ao<(aw.length:Int) then (if 0≤(wrap64 ((wrap64 (((rd_T43 l0_4 aa).f2) * a1_1))+((rd_T43 l1_4 ab).f2))) then (if (wrap64 ((wrap64 (((rd_T43 l0_4 aa).f2) * a1_1))+((rd_T43 l1_4 ab).f2)))<(aw.length:Int) then (if 0≤a0_3 then (if aG.length<4398046511104 then (spec_GenMeet.l2 kj91 aw a1_1 ao aa (wrap64 (ab+1)) a0_0 a0_1 a0_2 a0_3 l0_4 a1_0 a1_1 a1_2 a1_3 l1_4 a0_0 aU az (wrap64 (a0_3+a1_3)) (aG ++ [(⟨rd aw ao,(rd_T43 l0_4 aa).f1,rd aw (wrap64 ((wrap64 (((rd_T43 l0_4 aa).f2) * a1_1))+((rd_T43 l1_4 ab).f2))),Go.bits .or .i64 ((rd_T43 l0_4 aa).f3) (shl .i64 ((rd_T43 l1_4 ab).f3) a0_3)⟩:S43)])) else (none)) else (none)) else (none)) else (none)) else (none)) else (none)) else (spec_GenMeet.l2 kj91 aw a1_1 ao aa (wrap64 (ab+1)) a0_0 a0_1 a0_2 a0_3 l0_4 a1_0 a1_1 a1_2 a1_3 l1_4 a0_0 aU az (wrap64 (a0_3+a1_3)) aG)) else (spec_GenMeet.l2 kj91 aw a1_1 ao aa (wrap64 (ab+1)) a0_0 a0_1 a0_2 a0_3 l0_4 a1_0 a1_1 a1_2 a1_3 l1_4 a0_0 aU az (wrap64 (a0_3+a1_3)) aG))) else (none)) else (none)) else (none)) else (none))=some (r1,r2,r3,r4,r5,r6):=by rw[if_pos rfl]at H;exact H
                clear H;have H:=H1;clear H1;by_cases hJ:0≤aa
                ·rw[if_pos hJ]at H;have pW:decide (0≤aa)=true:=decide_eq_true hJ;clear hJ;by_cases hL:aa<(l0_4.length:Int)
                 ·rw[if_pos hL]at H;have pX:decide (aa<(l0_4.length:Int))=true:=decide_eq_true hL;clear hL;by_cases hM:0≤ab
                  ·rw[if_pos hM]at H;have pY:decide (0≤ab)=true:=decide_eq_true hM;clear hM;by_cases hN:ab<(l1_4.length:Int)
                   ·rw[if_pos hN]at H;have pZ:decide (ab<(l1_4.length:Int))=true:=decide_eq_true hN;clear hN;by_cases hO:a1_1=0
                    ·rw[if_pos hO]at H;exact absurd H (by simp)
                    rw[if_neg hO]at H;have qa:(a1_1 == 0)=false:=beq_eq_false_iff_ne.mpr hO;have qb:(a1_1 != 0)=true:=bne_iff_ne.mpr hO;have HhU:=Aside0.mk H;clear H;try go_wp2
                    refine k7_ (Aside0.mk (Kd.R_drew al.out)) (Aside0.mk (Kd.R_drew ae.out)) (Aside0.mk (blk_drew ac.out)) (Aside0.mk (blk_drew ad.out)) (Aside0.mk (blk_drew ah.out)) (Aside0.mk (blk_drew ai.out)) (Aside0.mk (below_drew1 HB.out)) ?_;clear al ae ac ad ah ai HB;intro al ae ac ad ah ai HB;have fS:0≤(aa:Int):=oD;have q203:aa<(l0_4.length:Int):=oD;refine e1a5 (at_T43 HR0_4.out aa fS q203) ?_;intro ad203 e203 ba bb bc bd;refine k4_ bd bc bb ba ?_;intro hw203_3 hw203_2 hw203_1 hw203_0
                    cases e203
                    refine k6_ (ct_ HB ba) (ct_ HB bb) (ct_ HB bc) (ct_ HB bd) (eq_true fS) (eq_true q203) ?_;clear ba bb bc bd fS q203;intro ba bb bc bd fS q203;have fT:0≤(ab:Int):=oD;have q204:ab<(l1_4.length:Int):=oD;refine e1a5 (at_T43 HR1_4.out ab fT q204) ?_;intro ad204 e204 be bf bg bh;refine k4_ bh bg bf be ?_;intro hw204_3 hw204_2 hw204_1 hw204_0
                    cases e204
                    refine k6_ (ct_ HB be) (ct_ HB bf) (ct_ HB bg) (ct_ HB bh) (eq_true fT) (eq_true q204) ?_;clear be bf bg bh fT q204;intro be bf bg bh fT q204;refine start_ (n:=14) (S:=fun w'=>w'.cell? ⟨ap,0,none⟩=some (.int .i64 a0_0)∧w'.cell? ⟨ap,1,none⟩=some (.int .i64 a0_1)∧w'.cell? ⟨ap,2,none⟩=some (.int .i64 a0_2)∧w'.cell? ⟨ap,3,none⟩=some (.int .i64 a0_3)∧w'.cell? ⟨ap,4,none⟩=some (.slice (some ad203) l0_4.length c0_4)∧w'.cell? ⟨ax,0,none⟩=some (.int .i64 a1_0)∧w'.cell? ⟨ax,1,none⟩=some (.int .i64 a1_1)∧w'.cell? ⟨ax,2,none⟩=some (.int .i64 a1_2)∧w'.cell? ⟨ax,3,none⟩=some (.int .i64 a1_3)∧w'.cell? ⟨ax,4,none⟩=some (.slice (some ad204) l1_4.length c1_4)∧w'.cell? (ad203.add ((aa).toNat * 4))=some (.int .i64 ((rd_T43 l0_4 aa).f0))∧w'.cell? ⟨(ad203.add ((aa).toNat * 4)).block,(ad203.add ((aa).toNat * 4)).off+1,none⟩=some (.int .i64 ((rd_T43 l0_4 aa).f1))∧w'.cell? ⟨(ad203.add ((aa).toNat * 4)).block,(ad203.add ((aa).toNat * 4)).off+2,none⟩=some (.int .i64 ((rd_T43 l0_4 aa).f2))∧w'.cell? ⟨(ad203.add ((aa).toNat * 4)).block,(ad203.add ((aa).toNat * 4)).off+3,none⟩=some (.int .i64 ((rd_T43 l0_4 aa).f3))∧w'.cell? (ad204.add ((ab).toNat * 4))=some (.int .i64 ((rd_T43 l1_4 ab).f0))∧w'.cell? ⟨(ad204.add ((ab).toNat * 4)).block,(ad204.add ((ab).toNat * 4)).off+1,none⟩=some (.int .i64 ((rd_T43 l1_4 ab).f1))∧w'.cell? ⟨(ad204.add ((ab).toNat * 4)).block,(ad204.add ((ab).toNat * 4)).off+2,none⟩=some (.int .i64 ((rd_T43 l1_4 ab).f2))∧w'.cell? ⟨(ad204.add ((ab).toNat * 4)).block,(ad204.add ((ab).toNat * 4)).off+3,none⟩=some (.int .i64 ((rd_T43 l1_4 ab).f3))) (ds:=[]) bl0 (by kernel_rfl) rfl rfl ⟨b1 ac 0,b1 ac 1,b1 ac 2,b1 ac 3,b1 ac 4,b1 ad 0,b1 ad 1,b1 ad 2,b1 ad 3,b1 ad 4,(ct_ HB hw203_0),(ct_ HB hw203_1),(ct_ HB hw203_2),(ct_ HB hw203_3),(ct_ HB hw204_0),(ct_ HB hw204_1),(ct_ HB hw204_2),(ct_ HB hw204_3)⟩ (fun hHeld=>?_);refine with_tabW spec_GenMeet.tab20 spec_GenMeet.bits20 (fun HT_ HW_=>?_);have H:=HhU.out;clear HhU;by_cases gM:((rd_T43 l1_4 ab).f0)=(Int.tmod ao a1_1)
                    ·rw[if_pos gM]at H;have iS:(((rd_T43 l1_4 ab).f0) == (Int.tmod ao a1_1))=true:=beq_iff_eq.mpr gM;have iT:(((rd_T43 l1_4 ab).f0) != (Int.tmod ao a1_1))=false:=bne_eq_false_iff_eq.mpr gM;clear gM;have HhU:=Aside0.mk H;clear H;generalize wc.drew=tc at al ae ac ad ah ai HB ba bb bc bd be bf bg bh hHeld ⊢;refine pv_ 0 (some 119) bl1 HT_ ?_
                     refine pv_ 2 (some 121) bl2 HT_ ?_
                     refine pv_ 5 (some 124) bl54 HT_ ?_
                     refine pv_ 7 (some 126) bl55 HT_ ?_
                     refine tk_ 1 (some 120) bl56 HT_ HW_ hHeld ?_
                     refine pv_ 3 (some 122) bl57 HT_ ?_
                     refine tk_ 4 (some 123) bl58 HT_ HW_ hHeld ?_
                     refine tk_ 6 (some 125) bl8 HT_ HW_ hHeld ?_
                     refine pv_ 8 (some 127) bl15 HT_ ?_
                     refine tk_ 9 (some 128) bl16 HT_ HW_ hHeld ?_
                     refine join_ (σ:=Nat × Nat) 2 bl12 (fun s_=>[(13,.pointer (some ⟨s_.1,0,none⟩)),(14,.pointer (some ⟨s_.2,0,none⟩))]) (fun s_ w'=>(w'.cell? ⟨ap,0,none⟩=some (.int .i64 a0_0)∧w'.cell? ⟨ap,1,none⟩=some (.int .i64 a0_1)∧w'.cell? ⟨ap,2,none⟩=some (.int .i64 a0_2)∧w'.cell? ⟨ap,3,none⟩=some (.int .i64 a0_3)∧w'.cell? ⟨ap,4,none⟩=some (.slice (some ad203) l0_4.length c0_4)∧w'.cell? ⟨ax,0,none⟩=some (.int .i64 a1_0)∧w'.cell? ⟨ax,1,none⟩=some (.int .i64 a1_1)∧w'.cell? ⟨ax,2,none⟩=some (.int .i64 a1_2)∧w'.cell? ⟨ax,3,none⟩=some (.int .i64 a1_3)∧w'.cell? ⟨ax,4,none⟩=some (.slice (some ad204) l1_4.length c1_4)∧w'.cell? (ad203.add ((aa).toNat * 4))=some (.int .i64 ((rd_T43 l0_4 aa).f0))∧w'.cell? ⟨(ad203.add ((aa).toNat * 4)).block,(ad203.add ((aa).toNat * 4)).off+1,none⟩=some (.int .i64 ((rd_T43 l0_4 aa).f1))∧w'.cell? ⟨(ad203.add ((aa).toNat * 4)).block,(ad203.add ((aa).toNat * 4)).off+2,none⟩=some (.int .i64 ((rd_T43 l0_4 aa).f2))∧w'.cell? ⟨(ad203.add ((aa).toNat * 4)).block,(ad203.add ((aa).toNat * 4)).off+3,none⟩=some (.int .i64 ((rd_T43 l0_4 aa).f3))∧w'.cell? (ad204.add ((ab).toNat * 4))=some (.int .i64 ((rd_T43 l1_4 ab).f0))∧w'.cell? ⟨(ad204.add ((ab).toNat * 4)).block,(ad204.add ((ab).toNat * 4)).off+1,none⟩=some (.int .i64 ((rd_T43 l1_4 ab).f1))∧w'.cell? ⟨(ad204.add ((ab).toNat * 4)).block,(ad204.add ((ab).toNat * 4)).off+2,none⟩=some (.int .i64 ((rd_T43 l1_4 ab).f2))∧w'.cell? ⟨(ad204.add ((ab).toNat * 4)).block,(ad204.add ((ab).toNat * 4)).off+3,none⟩=some (.int .i64 ((rd_T43 l1_4 ab).f3)))∧(Kd.R k43 43 w' w.heap.size (fun k_=>k_≠s_.1∧k_≠s_.2) ay aG)∧(Kd.R (Kd.int .i64) 3 w' w.heap.size (fun _=>True) (.slice (some ad197) aw.length fR) aw)∧(w'.heap[ap]?=some (.cells #[.int .i64 a0_0,.int .i64 a0_1,.int .i64 a0_2,.int .i64 a0_3,.slice (some ad203) l0_4.length c0_4] 28 (0,0)))∧(w'.heap[ax]?=some (.cells #[.int .i64 a1_0,.int .i64 a1_1,.int .i64 a1_2,.int .i64 a1_3,.slice (some ad204) l1_4.length c1_4] 28 (0,0)))∧(w'.heap[aZ]?=some (.cells #[.int .i64 0,.int .i64 0,.int .i64 0,.int .i64 0,.slice none 0 0] 28 (0,0)))∧(w'.heap[aY]?=some (.cells #[.int .i64 a0_0,.int .i64 aU,.int .i64 az,.int .i64 (wrap64 (a0_3+a1_3)),ay] 28 (0,0)))∧(w'.heap[s_.1]?=some (.cells #[.int .i64 0,.int .i64 0,.int .i64 0,.int .i64 0] 43 (0,0)))∧(w'.heap[s_.2]?=some (.cells #[.int .i64 0,.int .i64 0,.int .i64 0,.int .i64 0] 43 (0,0)))∧(w.heap.size≤s_.1)∧(w.heap.size≤s_.1)∧(ap≠s_.1)∧(s_.1≠ap)∧(ax≠s_.1)∧(s_.1≠ax)∧(aZ≠s_.1)∧(s_.1≠aZ)∧(aY≠s_.1)∧(s_.1≠aY)∧(s_.2≠s_.1)∧(s_.1≠s_.2)∧(w.heap.size≤s_.2)∧(w.heap.size≤s_.2)∧(ap≠s_.2)∧(s_.2≠ap)∧(ax≠s_.2)∧(s_.2≠ax)∧(aZ≠s_.2)∧(s_.2≠aZ)∧(aY≠s_.2)∧(s_.2≠aY)∧(Below w.heap.size w w')) ?_ ?_
                     rotate_left
                     ·intro hCont;refine two_ (i:=10) (j:=11) (Ni:=some 13) (Nj:=some 14) bl17 bl59 rfl rfl rfl rfl (two_of HT_.out (by kernel_rfl)) (by decide) (by decide) (fun K hK=>?_) (fun K hK=>?_)
                      ·skip;refine by_ 13 #[.int .i64 0,.int .i64 0,.int .i64 0,.int .i64 0] 43 ?_
                       intro ag hg jv hbox hb;refine k18_ (xR al hb) (Aside0.mk (Kd.R_below (Kd.R_elderB (zR ae.out) ag (Nat.le_of_eq hg.symm)) hb)) (Aside0.mk (hbox)) (xG HB hg) (xG HB hg) (xS HB hb) (xN ac hg) (xM ac hg) (xB ac hb) (xN ad hg) (xM ad hg) (xB ad hb) (xN ah hg) (xM ah hg) (xB ah hb) (xN ai hg) (xM ai hg) (xB ai hb) ?_;clear al ae HB ac ad ah ai;intro al ae ak aW bn HB aq aH ac ar aI ad aJ aK ah aA aC ai;clear hb hbox hg;refine hK.out _ _ ⟨b1 ac 0,b1 ac 1,b1 ac 2,b1 ac 3,b1 ac 4,b1 ad 0,b1 ad 1,b1 ad 2,b1 ad 3,b1 ad 4,(ct_ HB hw203_0),(ct_ HB hw203_1),(ct_ HB hw203_2),(ct_ HB hw203_3),(ct_ HB hw204_0),(ct_ HB hw204_1),(ct_ HB hw204_2),(ct_ HB hw204_3)⟩ (fun hHeld=>?_);clear hK K;refine nr_ (some 13) ?_
                       refine on_ 11 (some 14) bl12 HT_ (fun K hK=>?_);refine by_ 14 #[.int .i64 0,.int .i64 0,.int .i64 0,.int .i64 0] 43 ?_
                       intro af hg jw hbox hb;refine k21_ (xR al hb) (Aside0.mk (Kd.R_below (Kd.R_elderB (zR ae.out) af (Nat.le_of_eq hg.symm)) hb)) (Aside0.mk (hbox)) (xG HB hg) (xG HB hg) (xS HB hb) (xN ac hg) (xM ac hg) (xB ac hb) (xN ad hg) (xM ad hg) (xB ad hb) (xN ah hg) (xM ah hg) (xB ah hb) (xN ai hg) (xM ai hg) (xB ai hb) (xN ak hg) (xM ak hg) (xB ak hb) ?_;clear al ae HB ac ad ah ai ak;intro al ae aj aX bo HB au aM ac av aN ad aQ aR ah aD aE ai am an ak;clear hb hbox hg;refine hK.out _ _ ⟨b1 ac 0,b1 ac 1,b1 ac 2,b1 ac 3,b1 ac 4,b1 ad 0,b1 ad 1,b1 ad 2,b1 ad 3,b1 ad 4,(ct_ HB hw203_0),(ct_ HB hw203_1),(ct_ HB hw203_2),(ct_ HB hw203_3),(ct_ HB hw204_0),(ct_ HB hw204_1),(ct_ HB hw204_2),(ct_ HB hw204_3)⟩ (fun hHeld=>?_);clear hK K;refine nr_ (some 14) ?_
                       exact norm_ (by simp only[putAll,Act.put,q3]) (hCont (ag,af) _ ⟨hHeld,(rM ae (fun _ hk=>⟨hk.1.2,hk.2⟩)),(zR al.out),(zB ac.out),(zB ad.out),(zB ah.out),(zB ai.out),(zB ak.out),(zB aj.out),aW.out,bn.out,aq.out,aH.out,ar.out,aI.out,aJ.out,aK.out,aA.out,aC.out,an.out,am.out,aX.out,bo.out,au.out,aM.out,av.out,aN.out,aQ.out,aR.out,aD.out,aE.out,(zS HB.out)⟩)
                      ·skip;refine by_ 14 #[.int .i64 0,.int .i64 0,.int .i64 0,.int .i64 0] 43 ?_
                       intro af hg jv hbox hb;refine k18_ (xR al hb) (Aside0.mk (Kd.R_below (Kd.R_elderB (zR ae.out) af (Nat.le_of_eq hg.symm)) hb)) (Aside0.mk (hbox)) (xG HB hg) (xG HB hg) (xS HB hb) (xN ac hg) (xM ac hg) (xB ac hb) (xN ad hg) (xM ad hg) (xB ad hb) (xN ah hg) (xM ah hg) (xB ah hb) (xN ai hg) (xM ai hg) (xB ai hb) ?_;clear al ae HB ac ad ah ai;intro al ae aj aX bo HB au aM ac av aN ad aQ aR ah aD aE ai;clear hb hbox hg;refine hK.out _ _ ⟨b1 ac 0,b1 ac 1,b1 ac 2,b1 ac 3,b1 ac 4,b1 ad 0,b1 ad 1,b1 ad 2,b1 ad 3,b1 ad 4,(ct_ HB hw203_0),(ct_ HB hw203_1),(ct_ HB hw203_2),(ct_ HB hw203_3),(ct_ HB hw204_0),(ct_ HB hw204_1),(ct_ HB hw204_2),(ct_ HB hw204_3)⟩ (fun hHeld=>?_);clear hK K;refine nr_ (some 14) ?_
                       refine on_ 10 (some 13) bl12 HT_ (fun K hK=>?_);refine by_ 13 #[.int .i64 0,.int .i64 0,.int .i64 0,.int .i64 0] 43 ?_
                       intro ag hg jw hbox hb;refine k21_ (xR al hb) (Aside0.mk (Kd.R_below (Kd.R_elderB (zR ae.out) ag (Nat.le_of_eq hg.symm)) hb)) (Aside0.mk (hbox)) (xG HB hg) (xG HB hg) (xS HB hb) (xN ac hg) (xM ac hg) (xB ac hb) (xN ad hg) (xM ad hg) (xB ad hb) (xN ah hg) (xM ah hg) (xB ah hb) (xN ai hg) (xM ai hg) (xB ai hb) (xN aj hg) (xM aj hg) (xB aj hb) ?_;clear al ae HB ac ad ah ai aj;intro al ae ak aW bn HB aq aH ac ar aI ad aJ aK ah aA aC ai an am aj;clear hb hbox hg;refine hK.out _ _ ⟨b1 ac 0,b1 ac 1,b1 ac 2,b1 ac 3,b1 ac 4,b1 ad 0,b1 ad 1,b1 ad 2,b1 ad 3,b1 ad 4,(ct_ HB hw203_0),(ct_ HB hw203_1),(ct_ HB hw203_2),(ct_ HB hw203_3),(ct_ HB hw204_0),(ct_ HB hw204_1),(ct_ HB hw204_2),(ct_ HB hw204_3)⟩ (fun hHeld=>?_);clear hK K;refine nr_ (some 13) ?_
                       exact norm_ (by simp only[putAll,Act.put,q3]) (hCont (ag,af) _ ⟨hHeld,(rM ae (fun _ hk=>⟨hk.2,hk.1.2⟩)),(zR al.out),(zB ac.out),(zB ad.out),(zB ah.out),(zB ai.out),(zB ak.out),(zB aj.out),aW.out,bn.out,aq.out,aH.out,ar.out,aI.out,aJ.out,aK.out,aA.out,aC.out,an.out,am.out,aX.out,bo.out,au.out,aM.out,av.out,aN.out,aQ.out,aR.out,aD.out,aE.out,(zS HB.out)⟩)
                     rintro ⟨ag,af⟩ bk ⟨hS_,h0_,h1_,h2_,h3_,h4_,h5_,h6_,h7_,h8_,h9_,h10_,h11_,h12_,h13_,h14_,h15_,h16_,h17_,h18_,h19_,h20_,h21_,h22_,h23_,h24_,h25_,h26_,h27_,h28_,h29_,h30_⟩;(try dsimp only at hS_ h0_ h1_ h2_ h3_ h4_ h5_ h6_ h7_ h8_ h9_ h10_ h11_ h12_ h13_ h14_ h15_ h16_ h17_ h18_ h19_ h20_ h21_ h22_ h23_ h24_ h25_ h26_ h27_ h28_ h29_ h30_);refine k31_ (Aside0.mk h0_) (Aside0.mk h1_) (Aside0.mk h2_) (Aside0.mk h3_) (Aside0.mk h4_) (Aside0.mk h5_) (Aside0.mk h6_) (Aside0.mk h7_) (Aside0.mk h8_) (Aside0.mk h9_) (Aside0.mk h10_) (Aside0.mk h11_) (Aside0.mk h12_) (Aside0.mk h13_) (Aside0.mk h14_) (Aside0.mk h15_) (Aside0.mk h16_) (Aside0.mk h17_) (Aside0.mk h18_) (Aside0.mk h19_) (Aside0.mk h20_) (Aside0.mk h21_) (Aside0.mk h22_) (Aside0.mk h23_) (Aside0.mk h24_) (Aside0.mk h25_) (Aside0.mk h26_) (Aside0.mk h27_) (Aside0.mk h28_) (Aside0.mk h29_) (Aside0.mk h30_) ?_;intro bp bq br bs bt bu bv bw bx hh gg gh gi gj gl gm gn go gp gq gr gs gt gu gv gw gx gy gz gA gB;clear al;clear ae;clear ac;clear ad;clear ah;clear ai;clear HB;clear h0_ h1_ h2_ h3_ h4_ h5_ h6_ h7_ h8_ h9_ h10_ h11_ h12_ h13_ h14_ h15_ h16_ h17_ h18_ h19_ h20_ h21_ h22_ h23_ h24_ h25_ h26_ h27_ h28_ h29_ h30_;refine k12_ bp bq br bs bt bu bv bw bx hh gg gh ?_;intro ae al ac ad ah ai ak aj aW bn aq aH;refine k19_ gi gj gl gm gn go gp gq gr gs gt gu gv gw gx gy gz gA gB ?_;intro ar aI aJ aK aA aC an am aX bo au aM av aN aQ aR aD aE HB;clear bp bq br bs bt bu bv bw bx hh gg gh gi gj gl gm gn go gp gq gr gs gt gu gv gw gx gy gz gA gB;have hHeld:=hS_;refine norm_ (a':=?_) ?_ ?_;rotate_left
                     ·simp only[putAll,Act.put,q3];rfl
                     refine on_ 12 (none) bl13 HT_ (fun K hK=>?_);have sr:bk.cell? ⟨ag,0,none⟩=some (.int .i64 0):=b1 ak 0;refine k11_ (blk_frozen ak.out 0) aq.out ar.out aJ.out aA.out an.out aH.out aI.out aK.out aC.out am.out ?_;intro qi jx jy jz jA jB jC jD jE jF jG;have ss:bk.cell? ⟨ag,1,none⟩=some (.int .i64 0):=b1 ak 1;refine k11_ (blk_frozen ak.out 1) aq.out ar.out aJ.out aA.out an.out aH.out aI.out aK.out aC.out am.out ?_;intro qj jH jI jJ jK jL jM jN jO jP jQ;have st:bk.cell? ⟨ag,2,none⟩=some (.int .i64 0):=b1 ak 2;refine k11_ (blk_frozen ak.out 2) aq.out ar.out aJ.out aA.out an.out aH.out aI.out aK.out aC.out am.out ?_;intro qk jR jS jT jU jV jW jX jY jZ ka;have su:bk.cell? ⟨ag,3,none⟩=some (.int .i64 0):=b1 ak 3;refine k11_ (blk_frozen ak.out 3) aq.out ar.out aJ.out aA.out an.out aH.out aI.out aK.out aC.out am.out ?_;intro ql kb kc kd ke kf kg kh ki kj kk;refine skip_ (w1:=?_) (by rfl) rfl ?_ ?_;rotate_left
                     ·go_simp;rfl
                     refine hK.out _ _ ⟨(cf4 (hHeld.1) aq.out),(cf4 (hHeld.2.1) aq.out),(cf4 (hHeld.2.2.1) aq.out),(cf4 (hHeld.2.2.2.1) aq.out),(cf4 (hHeld.2.2.2.2.1) aq.out),(cf4 (hHeld.2.2.2.2.2.1) ar.out),(cf4 (hHeld.2.2.2.2.2.2.1) ar.out),(cf4 (hHeld.2.2.2.2.2.2.2.1) ar.out),(cf4 (hHeld.2.2.2.2.2.2.2.2.1) ar.out),(cf4 (hHeld.2.2.2.2.2.2.2.2.2.1) ar.out),(cf4 (hHeld.2.2.2.2.2.2.2.2.2.2.1) (bF hw203_0 aW)),(cf4 (hHeld.2.2.2.2.2.2.2.2.2.2.2.1) (bF hw203_1 aW)),(cf4 (hHeld.2.2.2.2.2.2.2.2.2.2.2.2.1) (bF hw203_2 aW)),(cf4 (hHeld.2.2.2.2.2.2.2.2.2.2.2.2.2.1) (bF hw203_3 aW)),(cf4 (hHeld.2.2.2.2.2.2.2.2.2.2.2.2.2.2.1) (bF hw204_0 aW)),(cf4 (hHeld.2.2.2.2.2.2.2.2.2.2.2.2.2.2.2.1) (bF hw204_1 aW)),(cf4 (hHeld.2.2.2.2.2.2.2.2.2.2.2.2.2.2.2.2.1) (bF hw204_2 aW)),(cf4 (hHeld.2.2.2.2.2.2.2.2.2.2.2.2.2.2.2.2.2) (bF hw204_3 aW))⟩ (fun hHeld=>?_);clear hK K;refine on_ 13 (none) bl14 HT_ (fun K hK=>?_);have sv:bk.cell? ⟨af,0,none⟩=some (.int .i64 0):=b1 aj 0;refine k11_ (blk_frozen aj.out 0) au.out av.out aQ.out aD.out am.out aM.out aN.out aR.out aE.out an.out ?_;intro qm kl km kn ko kp kr ks kt ku kv;have sw:bk.cell? ⟨af,1,none⟩=some (.int .i64 0):=b1 aj 1;refine k11_ (blk_frozen aj.out 1) au.out av.out aQ.out aD.out am.out aM.out aN.out aR.out aE.out an.out ?_;intro qn kw kx ky kz kA kB kC kD kE kF;have sx:bk.cell? ⟨af,2,none⟩=some (.int .i64 0):=b1 aj 2;refine k11_ (blk_frozen aj.out 2) au.out av.out aQ.out aD.out am.out aM.out aN.out aR.out aE.out an.out ?_;intro qo kG kH kI kJ kK kL kM kN kO kP;have sy:bk.cell? ⟨af,3,none⟩=some (.int .i64 0):=b1 aj 3;refine k11_ (blk_frozen aj.out 3) au.out av.out aQ.out aD.out am.out aM.out aN.out aR.out aE.out an.out ?_;intro qp kQ kR kS kT kU kV kW kX kY kZ;refine skip_ (w1:=?_) (by rfl) rfl ?_ ?_;rotate_left
                     ·go_simp;rfl
                     refine hK.out _ _ ⟨(cf4 (hHeld.1) au.out),(cf4 (hHeld.2.1) au.out),(cf4 (hHeld.2.2.1) au.out),(cf4 (hHeld.2.2.2.1) au.out),(cf4 (hHeld.2.2.2.2.1) au.out),(cf4 (hHeld.2.2.2.2.2.1) av.out),(cf4 (hHeld.2.2.2.2.2.2.1) av.out),(cf4 (hHeld.2.2.2.2.2.2.2.1) av.out),(cf4 (hHeld.2.2.2.2.2.2.2.2.1) av.out),(cf4 (hHeld.2.2.2.2.2.2.2.2.2.1) av.out),(cf4 (hHeld.2.2.2.2.2.2.2.2.2.2.1) (bF hw203_0 aX)),(cf4 (hHeld.2.2.2.2.2.2.2.2.2.2.2.1) (bF hw203_1 aX)),(cf4 (hHeld.2.2.2.2.2.2.2.2.2.2.2.2.1) (bF hw203_2 aX)),(cf4 (hHeld.2.2.2.2.2.2.2.2.2.2.2.2.2.1) (bF hw203_3 aX)),(cf4 (hHeld.2.2.2.2.2.2.2.2.2.2.2.2.2.2.1) (bF hw204_0 aX)),(cf4 (hHeld.2.2.2.2.2.2.2.2.2.2.2.2.2.2.2.1) (bF hw204_1 aX)),(cf4 (hHeld.2.2.2.2.2.2.2.2.2.2.2.2.2.2.2.2.1) (bF hw204_2 aX)),(cf4 (hHeld.2.2.2.2.2.2.2.2.2.2.2.2.2.2.2.2.2) (bF hw204_3 aX))⟩ (fun hHeld=>?_);clear hK K;refine done_ (done_of HT_.out (by kernel_rfl)) ?_
                     try go_wp2
                     have bp:Aside0 (Kd.R (Kd.int .i64) 3 ((((((((bk.setCell ⟨ag,0,none⟩ (.int .i64 ((rd_T43 l0_4 aa).f0))).setCell ⟨ag,1,none⟩ (.int .i64 ((rd_T43 l0_4 aa).f1))).setCell ⟨ag,2,none⟩ (.int .i64 ((rd_T43 l0_4 aa).f2))).setCell ⟨ag,3,none⟩ (.int .i64 ((rd_T43 l0_4 aa).f3))).setCell ⟨af,0,none⟩ (.int .i64 ((rd_T43 l1_4 ab).f0))).setCell ⟨af,1,none⟩ (.int .i64 ((rd_T43 l1_4 ab).f1))).setCell ⟨af,2,none⟩ (.int .i64 ((rd_T43 l1_4 ab).f2))).setCell ⟨af,3,none⟩ (.int .i64 ((rd_T43 l1_4 ab).f3))) w.heap.size (fun _=>True) (.slice (some ad197) aw.length fR) aw):=⟨by (with_reducible repeat (first|apply Kd.R_alloc|apply Kd.R_drewN|apply Kd.R_drew));exact Kd.R_mono (Kd.R_far (p:=⟨af,3,none⟩) (Kd.R_far (p:=⟨af,2,none⟩) (Kd.R_far (p:=⟨af,1,none⟩) (Kd.R_far (p:=⟨af,0,none⟩) (Kd.R_far (p:=⟨ag,3,none⟩) (Kd.R_far (p:=⟨ag,2,none⟩) (Kd.R_far (p:=⟨ag,1,none⟩) (Kd.R_far (p:=⟨ag,0,none⟩) (Kd.R_types (Kd.R_types al.out ak.out (by decide)) aj.out (by decide)) (fun _ hk=>hk.1.2) (.int .i64 ((rd_T43 l0_4 aa).f0))) (fun _ hk=>hk.1.2) (.int .i64 ((rd_T43 l0_4 aa).f1))) (fun _ hk=>hk.1.2) (.int .i64 ((rd_T43 l0_4 aa).f2))) (fun _ hk=>hk.1.2) (.int .i64 ((rd_T43 l0_4 aa).f3))) (fun _ hk=>hk.2) (.int .i64 ((rd_T43 l1_4 ab).f0))) (fun _ hk=>hk.2) (.int .i64 ((rd_T43 l1_4 ab).f1))) (fun _ hk=>hk.2) (.int .i64 ((rd_T43 l1_4 ab).f2))) (fun _ hk=>hk.2) (.int .i64 ((rd_T43 l1_4 ab).f3))) (fun _ hk=>trivial)⟩;have bq:Aside0 (Kd.R k43 43 ((((((((bk.setCell ⟨ag,0,none⟩ (.int .i64 ((rd_T43 l0_4 aa).f0))).setCell ⟨ag,1,none⟩ (.int .i64 ((rd_T43 l0_4 aa).f1))).setCell ⟨ag,2,none⟩ (.int .i64 ((rd_T43 l0_4 aa).f2))).setCell ⟨ag,3,none⟩ (.int .i64 ((rd_T43 l0_4 aa).f3))).setCell ⟨af,0,none⟩ (.int .i64 ((rd_T43 l1_4 ab).f0))).setCell ⟨af,1,none⟩ (.int .i64 ((rd_T43 l1_4 ab).f1))).setCell ⟨af,2,none⟩ (.int .i64 ((rd_T43 l1_4 ab).f2))).setCell ⟨af,3,none⟩ (.int .i64 ((rd_T43 l1_4 ab).f3))) w.heap.size (fun k_=>k_≠ag∧k_≠af) ay aG):=⟨by (with_reducible repeat (first|apply Kd.R_alloc|apply Kd.R_drewN|apply Kd.R_drew));exact Kd.R_mono (Kd.R_far (p:=⟨af,3,none⟩) (Kd.R_far (p:=⟨af,2,none⟩) (Kd.R_far (p:=⟨af,1,none⟩) (Kd.R_far (p:=⟨af,0,none⟩) (Kd.R_far (p:=⟨ag,3,none⟩) (Kd.R_far (p:=⟨ag,2,none⟩) (Kd.R_far (p:=⟨ag,1,none⟩) (Kd.R_far (p:=⟨ag,0,none⟩) (Kd.R_mono (Kd.R_mono ae.out (fun k_ hk=>(⟨hk,hk.1⟩:_∧k_≠ag))) (fun k_ hk=>(⟨hk,hk.1.2⟩:_∧k_≠af))) (fun _ hk=>hk.1.2) (.int .i64 ((rd_T43 l0_4 aa).f0))) (fun _ hk=>hk.1.2) (.int .i64 ((rd_T43 l0_4 aa).f1))) (fun _ hk=>hk.1.2) (.int .i64 ((rd_T43 l0_4 aa).f2))) (fun _ hk=>hk.1.2) (.int .i64 ((rd_T43 l0_4 aa).f3))) (fun _ hk=>hk.2) (.int .i64 ((rd_T43 l1_4 ab).f0))) (fun _ hk=>hk.2) (.int .i64 ((rd_T43 l1_4 ab).f1))) (fun _ hk=>hk.2) (.int .i64 ((rd_T43 l1_4 ab).f2))) (fun _ hk=>hk.2) (.int .i64 ((rd_T43 l1_4 ab).f3))) (fun _ hk=>⟨hk.1.1.1,hk.1.1.2⟩)⟩;have br:Aside0 (((((((((bk.setCell ⟨ag,0,none⟩ (.int .i64 ((rd_T43 l0_4 aa).f0))).setCell ⟨ag,1,none⟩ (.int .i64 ((rd_T43 l0_4 aa).f1))).setCell ⟨ag,2,none⟩ (.int .i64 ((rd_T43 l0_4 aa).f2))).setCell ⟨ag,3,none⟩ (.int .i64 ((rd_T43 l0_4 aa).f3))).setCell ⟨af,0,none⟩ (.int .i64 ((rd_T43 l1_4 ab).f0))).setCell ⟨af,1,none⟩ (.int .i64 ((rd_T43 l1_4 ab).f1))).setCell ⟨af,2,none⟩ (.int .i64 ((rd_T43 l1_4 ab).f2))).setCell ⟨af,3,none⟩ (.int .i64 ((rd_T43 l1_4 ab).f3))).heap[ap]?=some (.cells #[.int .i64 a0_0,.int .i64 a0_1,.int .i64 a0_2,.int .i64 a0_3,.slice (some ad203) l0_4.length c0_4] 28 (0,0))):=⟨zB ac.out⟩
                     have bs:Aside0 (((((((((bk.setCell ⟨ag,0,none⟩ (.int .i64 ((rd_T43 l0_4 aa).f0))).setCell ⟨ag,1,none⟩ (.int .i64 ((rd_T43 l0_4 aa).f1))).setCell ⟨ag,2,none⟩ (.int .i64 ((rd_T43 l0_4 aa).f2))).setCell ⟨ag,3,none⟩ (.int .i64 ((rd_T43 l0_4 aa).f3))).setCell ⟨af,0,none⟩ (.int .i64 ((rd_T43 l1_4 ab).f0))).setCell ⟨af,1,none⟩ (.int .i64 ((rd_T43 l1_4 ab).f1))).setCell ⟨af,2,none⟩ (.int .i64 ((rd_T43 l1_4 ab).f2))).setCell ⟨af,3,none⟩ (.int .i64 ((rd_T43 l1_4 ab).f3))).heap[ax]?=some (.cells #[.int .i64 a1_0,.int .i64 a1_1,.int .i64 a1_2,.int .i64 a1_3,.slice (some ad204) l1_4.length c1_4] 28 (0,0))):=⟨zB ad.out⟩;have bt:Aside0 (((((((((bk.setCell ⟨ag,0,none⟩ (.int .i64 ((rd_T43 l0_4 aa).f0))).setCell ⟨ag,1,none⟩ (.int .i64 ((rd_T43 l0_4 aa).f1))).setCell ⟨ag,2,none⟩ (.int .i64 ((rd_T43 l0_4 aa).f2))).setCell ⟨ag,3,none⟩ (.int .i64 ((rd_T43 l0_4 aa).f3))).setCell ⟨af,0,none⟩ (.int .i64 ((rd_T43 l1_4 ab).f0))).setCell ⟨af,1,none⟩ (.int .i64 ((rd_T43 l1_4 ab).f1))).setCell ⟨af,2,none⟩ (.int .i64 ((rd_T43 l1_4 ab).f2))).setCell ⟨af,3,none⟩ (.int .i64 ((rd_T43 l1_4 ab).f3))).heap[aZ]?=some (.cells #[.int .i64 0,.int .i64 0,.int .i64 0,.int .i64 0,.slice none 0 0] 28 (0,0))):=⟨zB ah.out⟩;have bu:Aside0 (((((((((bk.setCell ⟨ag,0,none⟩ (.int .i64 ((rd_T43 l0_4 aa).f0))).setCell ⟨ag,1,none⟩ (.int .i64 ((rd_T43 l0_4 aa).f1))).setCell ⟨ag,2,none⟩ (.int .i64 ((rd_T43 l0_4 aa).f2))).setCell ⟨ag,3,none⟩ (.int .i64 ((rd_T43 l0_4 aa).f3))).setCell ⟨af,0,none⟩ (.int .i64 ((rd_T43 l1_4 ab).f0))).setCell ⟨af,1,none⟩ (.int .i64 ((rd_T43 l1_4 ab).f1))).setCell ⟨af,2,none⟩ (.int .i64 ((rd_T43 l1_4 ab).f2))).setCell ⟨af,3,none⟩ (.int .i64 ((rd_T43 l1_4 ab).f3))).heap[aY]?=some (.cells #[.int .i64 a0_0,.int .i64 aU,.int .i64 az,.int .i64 (wrap64 (a0_3+a1_3)),ay] 28 (0,0))):=⟨zB ai.out⟩;have bv:Aside0 (((((((((bk.setCell ⟨ag,0,none⟩ (.int .i64 ((rd_T43 l0_4 aa).f0))).setCell ⟨ag,1,none⟩ (.int .i64 ((rd_T43 l0_4 aa).f1))).setCell ⟨ag,2,none⟩ (.int .i64 ((rd_T43 l0_4 aa).f2))).setCell ⟨ag,3,none⟩ (.int .i64 ((rd_T43 l0_4 aa).f3))).setCell ⟨af,0,none⟩ (.int .i64 ((rd_T43 l1_4 ab).f0))).setCell ⟨af,1,none⟩ (.int .i64 ((rd_T43 l1_4 ab).f1))).setCell ⟨af,2,none⟩ (.int .i64 ((rd_T43 l1_4 ab).f2))).setCell ⟨af,3,none⟩ (.int .i64 ((rd_T43 l1_4 ab).f3))).heap[ag]?=some (.cells #[.int .i64 ((rd_T43 l0_4 aa).f0),.int .i64 ((rd_T43 l0_4 aa).f1),.int .i64 ((rd_T43 l0_4 aa).f2),.int .i64 ((rd_T43 l0_4 aa).f3)] 43 (0,0))):=⟨by (with_reducible repeat (first|refine blk_drewN ?_ _|refine blk_drew ?_|refine blk_alloc ?_ _));refine blk_far ?_ am.out _;(with_reducible repeat (first|refine blk_drewN ?_ _|refine blk_drew ?_|refine blk_alloc ?_ _));refine blk_far ?_ am.out _;(with_reducible repeat (first|refine blk_drewN ?_ _|refine blk_drew ?_|refine blk_alloc ?_ _));refine blk_far ?_ am.out _;(with_reducible repeat (first|refine blk_drewN ?_ _|refine blk_drew ?_|refine blk_alloc ?_ _));refine blk_far ?_ am.out _;(with_reducible repeat (first|refine blk_drewN ?_ _|refine blk_drew ?_|refine blk_alloc ?_ _));refine blk_put (cs:=#[.int .i64 ((rd_T43 l0_4 aa).f0),.int .i64 ((rd_T43 l0_4 aa).f1),.int .i64 ((rd_T43 l0_4 aa).f2),.int .i64 0]) ?_ 3 _ rfl;(with_reducible repeat (first|refine blk_drewN ?_ _|refine blk_drew ?_|refine blk_alloc ?_ _));refine blk_put (cs:=#[.int .i64 ((rd_T43 l0_4 aa).f0),.int .i64 ((rd_T43 l0_4 aa).f1),.int .i64 0,.int .i64 0]) ?_ 2 _ rfl;(with_reducible repeat (first|refine blk_drewN ?_ _|refine blk_drew ?_|refine blk_alloc ?_ _));refine blk_put (cs:=#[.int .i64 ((rd_T43 l0_4 aa).f0),.int .i64 0,.int .i64 0,.int .i64 0]) ?_ 1 _ rfl;(with_reducible repeat (first|refine blk_drewN ?_ _|refine blk_drew ?_|refine blk_alloc ?_ _));refine blk_put (cs:=#[.int .i64 0,.int .i64 0,.int .i64 0,.int .i64 0]) ?_ 0 _ rfl;(with_reducible repeat (first|refine blk_drewN ?_ _|refine blk_drew ?_|refine blk_alloc ?_ _));exact ak.out⟩
                     have bw:Aside0 (((((((((bk.setCell ⟨ag,0,none⟩ (.int .i64 ((rd_T43 l0_4 aa).f0))).setCell ⟨ag,1,none⟩ (.int .i64 ((rd_T43 l0_4 aa).f1))).setCell ⟨ag,2,none⟩ (.int .i64 ((rd_T43 l0_4 aa).f2))).setCell ⟨ag,3,none⟩ (.int .i64 ((rd_T43 l0_4 aa).f3))).setCell ⟨af,0,none⟩ (.int .i64 ((rd_T43 l1_4 ab).f0))).setCell ⟨af,1,none⟩ (.int .i64 ((rd_T43 l1_4 ab).f1))).setCell ⟨af,2,none⟩ (.int .i64 ((rd_T43 l1_4 ab).f2))).setCell ⟨af,3,none⟩ (.int .i64 ((rd_T43 l1_4 ab).f3))).heap[af]?=some (.cells #[.int .i64 ((rd_T43 l1_4 ab).f0),.int .i64 ((rd_T43 l1_4 ab).f1),.int .i64 ((rd_T43 l1_4 ab).f2),.int .i64 ((rd_T43 l1_4 ab).f3)] 43 (0,0))):=⟨by (with_reducible repeat (first|refine blk_drewN ?_ _|refine blk_drew ?_|refine blk_alloc ?_ _));refine blk_put (cs:=#[.int .i64 ((rd_T43 l1_4 ab).f0),.int .i64 ((rd_T43 l1_4 ab).f1),.int .i64 ((rd_T43 l1_4 ab).f2),.int .i64 0]) ?_ 3 _ rfl;(with_reducible repeat (first|refine blk_drewN ?_ _|refine blk_drew ?_|refine blk_alloc ?_ _));refine blk_put (cs:=#[.int .i64 ((rd_T43 l1_4 ab).f0),.int .i64 ((rd_T43 l1_4 ab).f1),.int .i64 0,.int .i64 0]) ?_ 2 _ rfl;(with_reducible repeat (first|refine blk_drewN ?_ _|refine blk_drew ?_|refine blk_alloc ?_ _));refine blk_put (cs:=#[.int .i64 ((rd_T43 l1_4 ab).f0),.int .i64 0,.int .i64 0,.int .i64 0]) ?_ 1 _ rfl;(with_reducible repeat (first|refine blk_drewN ?_ _|refine blk_drew ?_|refine blk_alloc ?_ _));refine blk_put (cs:=#[.int .i64 0,.int .i64 0,.int .i64 0,.int .i64 0]) ?_ 0 _ rfl;(with_reducible repeat (first|refine blk_drewN ?_ _|refine blk_drew ?_|refine blk_alloc ?_ _));refine blk_far ?_ an.out _;(with_reducible repeat (first|refine blk_drewN ?_ _|refine blk_drew ?_|refine blk_alloc ?_ _));refine blk_far ?_ an.out _;(with_reducible repeat (first|refine blk_drewN ?_ _|refine blk_drew ?_|refine blk_alloc ?_ _));refine blk_far ?_ an.out _;(with_reducible repeat (first|refine blk_drewN ?_ _|refine blk_drew ?_|refine blk_alloc ?_ _));refine blk_far ?_ an.out _;(with_reducible repeat (first|refine blk_drewN ?_ _|refine blk_drew ?_|refine blk_alloc ?_ _));exact aj.out⟩;have bx:Aside0 (Below w.heap.size w ((((((((bk.setCell ⟨ag,0,none⟩ (.int .i64 ((rd_T43 l0_4 aa).f0))).setCell ⟨ag,1,none⟩ (.int .i64 ((rd_T43 l0_4 aa).f1))).setCell ⟨ag,2,none⟩ (.int .i64 ((rd_T43 l0_4 aa).f2))).setCell ⟨ag,3,none⟩ (.int .i64 ((rd_T43 l0_4 aa).f3))).setCell ⟨af,0,none⟩ (.int .i64 ((rd_T43 l1_4 ab).f0))).setCell ⟨af,1,none⟩ (.int .i64 ((rd_T43 l1_4 ab).f1))).setCell ⟨af,2,none⟩ (.int .i64 ((rd_T43 l1_4 ab).f2))).setCell ⟨af,3,none⟩ (.int .i64 ((rd_T43 l1_4 ab).f3)))):=⟨zS HB.out⟩;(try clear al);(try clear ae);(try clear ac);(try clear ad);(try clear ah);(try clear ai);(try clear ak);(try clear aj);(try clear HB);generalize ((((((((bk.setCell ⟨ag,0,none⟩ (.int .i64 ((rd_T43 l0_4 aa).f0))).setCell ⟨ag,1,none⟩ (.int .i64 ((rd_T43 l0_4 aa).f1))).setCell ⟨ag,2,none⟩ (.int .i64 ((rd_T43 l0_4 aa).f2))).setCell ⟨ag,3,none⟩ (.int .i64 ((rd_T43 l0_4 aa).f3))).setCell ⟨af,0,none⟩ (.int .i64 ((rd_T43 l1_4 ab).f0))).setCell ⟨af,1,none⟩ (.int .i64 ((rd_T43 l1_4 ab).f1))).setCell ⟨af,2,none⟩ (.int .i64 ((rd_T43 l1_4 ab).f2))).setCell ⟨af,3,none⟩ (.int .i64 ((rd_T43 l1_4 ab).f3)))=la at bp bq br bs bt bu bv bw bx ⊢;refine k9_ bp bq br bs bt bu bv bw bx ?_;intro al ae ac ad ah ai ak aj HB;clear bp bq br bs bt bu bv bw bx;refine k9_ (Aside0.mk (Kd.R_drew al.out)) (Aside0.mk (Kd.R_drew ae.out)) (Aside0.mk (blk_drew ac.out)) (Aside0.mk (blk_drew ad.out)) (Aside0.mk (blk_drew ah.out)) (Aside0.mk (blk_drew ai.out)) (Aside0.mk (blk_drew ak.out)) (Aside0.mk (blk_drew aj.out)) (Aside0.mk (below_drew1 HB.out)) ?_;clear al ae ac ad ah ai ak aj HB;intro al ae ac ad ah ai ak aj HB;refine start_ (n:=13) (S:=fun w'=>w'.cell? ⟨af,0,none⟩=some (.int .i64 ((rd_T43 l1_4 ab).f0))∧w'.cell? ⟨af,1,none⟩=some (.int .i64 ((rd_T43 l1_4 ab).f1))∧w'.cell? ⟨af,2,none⟩=some (.int .i64 ((rd_T43 l1_4 ab).f2))∧w'.cell? ⟨af,3,none⟩=some (.int .i64 ((rd_T43 l1_4 ab).f3))∧w'.cell? ⟨ag,0,none⟩=some (.int .i64 ((rd_T43 l0_4 aa).f0))∧w'.cell? ⟨ag,1,none⟩=some (.int .i64 ((rd_T43 l0_4 aa).f1))∧w'.cell? ⟨ag,2,none⟩=some (.int .i64 ((rd_T43 l0_4 aa).f2))∧w'.cell? ⟨ag,3,none⟩=some (.int .i64 ((rd_T43 l0_4 aa).f3))) (ds:=[]) bl60 (by kernel_rfl) rfl rfl ⟨b1 aj 0,b1 aj 1,b1 aj 2,b1 aj 3,b1 ak 0,b1 ak 1,b1 ak 2,b1 ak 3⟩ (fun hHeld=>?_);refine with_tabW spec_GenMeet.tab21 spec_GenMeet.bits21 (fun HT_ HW_=>?_);generalize la.drew=lb at al ae ac ad ah ai ak aj HB hHeld ⊢
                     refine pv_ 0 (some 129) bl61 HT_ ?_
                     refine pv_ 2 (some 131) bl62 HT_ ?_
                     refine pv_ 3 (some 132) bl63 HT_ ?_
                     refine pv_ 4 (some 133) bl64 HT_ ?_
                     refine tk_ 1 (some 130) bl65 HT_ HW_ hHeld ?_
                     refine pv_ 5 (some 134) bl66 HT_ ?_
                     refine pv_ 6 (some 135) bl67 HT_ ?_
                     refine pv_ 7 (some 136) bl68 HT_ ?_
                     refine pv_ 9 (some 138) bl69 HT_ ?_
                     refine tk_ 8 (some 137) bl70 HT_ HW_ hHeld ?_
                     refine tk_ 10 (some 139) bl71 HT_ HW_ hHeld ?_
                     refine pv_ 11 (some 140) bl72 HT_ ?_
                     refine pv_ 12 (some 141) bl73 HT_ ?_
                     refine done_ (done_of HT_.out (by kernel_rfl)) ?_
                     have H:=HhU.out;clear HhU;by_cases gN:((rd_T43 l0_4 aa).f1)=((rd_T43 l1_4 ab).f1)
                     ·rw[if_pos gN]at H;have iU:(((rd_T43 l0_4 aa).f1) == ((rd_T43 l1_4 ab).f1))=true:=beq_iff_eq.mpr gN;have iV:(((rd_T43 l0_4 aa).f1) != ((rd_T43 l1_4 ab).f1))=false:=bne_eq_false_iff_eq.mpr gN;clear gN;by_cases hP:0≤ao
                      ·rw[if_pos hP]at H;have qc:decide (0≤ao)=true:=decide_eq_true hP;clear hP;by_cases hQ:ao<(aw.length:Int)
                       ·rw[if_pos hQ]at H;have qd:decide (ao<(aw.length:Int))=true:=decide_eq_true hQ;clear hQ;obtain ⟨ji109,hji109⟩:∃ j_:Int,(wrap64 ((wrap64 (((rd_T43 l0_4 aa).f2) * a1_1))+((rd_T43 l1_4 ab).f2)))=j_:=⟨_,rfl⟩;replace H:(if 0≤(ji109) then (if (ji109)<(aw.length:Int) then (if 0≤a0_3 then (if aG.length<4398046511104 then (spec_GenMeet.l2 kj91 aw a1_1 ao aa (wrap64 (ab+1)) a0_0 a0_1 a0_2 a0_3 l0_4 a1_0 a1_1 a1_2 a1_3 l1_4 a0_0 aU az (wrap64 (a0_3+a1_3)) (aG ++ [(⟨rd aw ao,(rd_T43 l0_4 aa).f1,rd aw (ji109),Go.bits .or .i64 ((rd_T43 l0_4 aa).f3) (shl .i64 ((rd_T43 l1_4 ab).f3) a0_3)⟩:S43)])) else (none)) else (none)) else (none)) else (none))=some (r1,r2,r3,r4,r5,r6):=by first|(rw[hji109]at H;exact H)|(simp only[hji109]at H ⊢;exact H)
                        have hji109w:(IntKind.i64.wrap ((wrap64 (((rd_T43 l0_4 aa).f2) * a1_1))+((rd_T43 l1_4 ab).f2)))=ji109:=(i64_w _).trans hji109;by_cases hR:0≤(ji109)
                        ·rw[if_pos hR]at H;have qe:decide (0≤(ji109))=true:=decide_eq_true hR;clear hR;by_cases hS:(ji109)<(aw.length:Int)
                         ·rw[if_pos hS]at H;have qf:decide ((ji109)<(aw.length:Int))=true:=decide_eq_true hS;clear hS;by_cases hr:0≤a0_3
                          ·rw[if_pos hr]at H;have qg:=eq_true hr;have qh:decide (0≤a0_3)=true:=decide_eq_true hr;clear hr;obtain ⟨ji113,hji113⟩:∃ j_:Int,(shl .i64 ((rd_T43 l1_4 ab).f3) a0_3)=j_:=⟨_,rfl⟩;replace H:(if aG.length<4398046511104 then (spec_GenMeet.l2 kj91 aw a1_1 ao aa (wrap64 (ab+1)) a0_0 a0_1 a0_2 a0_3 l0_4 a1_0 a1_1 a1_2 a1_3 l1_4 a0_0 aU az (wrap64 (a0_3+a1_3)) (aG ++ [(⟨rd aw ao,(rd_T43 l0_4 aa).f1,rd aw (ji109),Go.bits .or .i64 ((rd_T43 l0_4 aa).f3) (ji113)⟩:S43)])) else (none))=some (r1,r2,r3,r4,r5,r6):=by first|(rw[hji113]at H;exact H)|(simp only[hji113]at H ⊢;exact H)
                           have hji113_:(IntKind.i64.wrap (((rd_T43 l1_4 ab).f3) * 2 ^ min a0_3.toNat 64))=ji113:=hji113;have hji113z:a0_3≤64→(IntKind.i64.wrap (((rd_T43 l1_4 ab).f3) * 2 ^ a0_3.toNat))=ji113:=shl_small hji113;have hji113y:(wrap64 (((rd_T43 l1_4 ab).f3) * 2 ^ min a0_3.toNat 64))=ji113:=(i64_w _).symm.trans hji113_;have hji113x:a0_3≤64→(wrap64 (((rd_T43 l1_4 ab).f3) * 2 ^ a0_3.toNat))=ji113:=fun h_=>(i64_w _).symm.trans (hji113z h_)
                           by_cases hT:aG.length<4398046511104
                           ·rw[if_pos hT]at H;have LMc114:=Aside0.mk hT;clear hT;obtain ⟨ik,gV⟩:∃ y_:List (S43),y_=(aG ++ [(⟨rd aw ao,(rd_T43 l0_4 aa).f1,rd aw (ji109),Go.bits .or .i64 ((rd_T43 l0_4 aa).f3) (ji113)⟩:S43)]):=⟨_,rfl⟩;replace H:(spec_GenMeet.l2 kj91 aw a1_1 ao aa (wrap64 (ab+1)) a0_0 a0_1 a0_2 a0_3 l0_4 a1_0 a1_1 a1_2 a1_3 l1_4 a0_0 aU az (wrap64 (a0_3+a1_3)) ik)=some (r1,r2,r3,r4,r5,r6):=by first|(rw[gV];with_reducible exact H)|(have H2_:=(Option.bind_some _ _).symm.trans H;rw[gV];with_reducible exact H2_)|(have H2_:=(Option.bind_some _ _).symm.trans H;with_reducible exact H2_)|with_reducible exact H|(rw[gV];exact H)|exact H
                            have jc:=Aside0.mk gV;clear gV;have H':=Aside0.mk H;clear H;try go_wp2
                            refine k9_ (Aside0.mk (Kd.R_drew al.out)) (Aside0.mk (Kd.R_drew ae.out)) (Aside0.mk (blk_drew ac.out)) (Aside0.mk (blk_drew ad.out)) (Aside0.mk (blk_drew ah.out)) (Aside0.mk (blk_drew ai.out)) (Aside0.mk (blk_drew ak.out)) (Aside0.mk (blk_drew aj.out)) (Aside0.mk (below_drew1 HB.out)) ?_;clear al ae ac ad ah ai ak aj HB;intro al ae ac ad ah ai ak aj HB;have il:0≤(ao:Int):=oD;have q207:ao<(aw.length:Int):=oD;refine e1a2 (Kd.at_int (Kd.R_reads' al.out).2.2 ao il q207) ?_;intro ad207 e207 hE;obtain rfl:ad197=ad207:=(by injection e207);replace il:=eq_true il;replace q207:=eq_true q207;have im:0≤((ji109):Int):=oD;have q208:(ji109)<(aw.length:Int):=oD;refine e1a2 (Kd.at_int (Kd.R_reads' al.out).2.2 (ji109) im q208) ?_;intro ad208 e208 hF;obtain rfl:ad197=ad208:=(by injection e208);replace im:=eq_true im;replace q208:=eq_true q208;refine start_ (n:=31) (S:=fun w'=>w'.cell? ⟨aY,0,none⟩=some (.int .i64 a0_0)∧w'.cell? ⟨aY,1,none⟩=some (.int .i64 aU)∧w'.cell? ⟨aY,2,none⟩=some (.int .i64 az)∧w'.cell? ⟨aY,3,none⟩=some (.int .i64 (wrap64 (a0_3+a1_3)))∧w'.cell? ⟨aY,4,none⟩=some (ay)∧w'.cell? ⟨ag,0,none⟩=some (.int .i64 ((rd_T43 l0_4 aa).f0))∧w'.cell? ⟨ag,1,none⟩=some (.int .i64 ((rd_T43 l0_4 aa).f1))∧w'.cell? ⟨ag,2,none⟩=some (.int .i64 ((rd_T43 l0_4 aa).f2))∧w'.cell? ⟨ag,3,none⟩=some (.int .i64 ((rd_T43 l0_4 aa).f3))∧w'.cell? ⟨af,0,none⟩=some (.int .i64 ((rd_T43 l1_4 ab).f0))∧w'.cell? ⟨af,1,none⟩=some (.int .i64 ((rd_T43 l1_4 ab).f1))∧w'.cell? ⟨af,2,none⟩=some (.int .i64 ((rd_T43 l1_4 ab).f2))∧w'.cell? ⟨af,3,none⟩=some (.int .i64 ((rd_T43 l1_4 ab).f3))∧w'.cell? ⟨ap,0,none⟩=some (.int .i64 a0_0)∧w'.cell? ⟨ap,1,none⟩=some (.int .i64 a0_1)∧w'.cell? ⟨ap,2,none⟩=some (.int .i64 a0_2)∧w'.cell? ⟨ap,3,none⟩=some (.int .i64 a0_3)∧w'.cell? ⟨ap,4,none⟩=some (.slice (some ad203) l0_4.length c0_4)∧w'.cell? (ad197.add (ao).toNat)=some (.int .i64 (rd aw ao))∧w'.cell? (ad197.add ((ji109)).toNat)=some (.int .i64 (rd aw (ji109)))) (ds:=[28,30]) bl74 (by kernel_rfl) rfl rfl ⟨b1 ai 0,b1 ai 1,b1 ai 2,b1 ai 3,b1 ai 4,b1 ak 0,b1 ak 1,b1 ak 2,b1 ak 3,b1 aj 0,b1 aj 1,b1 aj 2,b1 aj 3,b1 ac 0,b1 ac 1,b1 ac 2,b1 ac 3,b1 ac 4,hE,hF⟩ (fun hHeld=>?_);refine with_tabW spec_GenMeet.tab22 spec_GenMeet.bits22 (fun HT_ HW_=>?_);generalize lb.drew=td at al ae ac ad ah ai ak aj HB hE hF hHeld ⊢;refine pv_ 0 (some 142) bl75 HT_ ?_
                            refine pv_ 2 (some 144) bl76 HT_ ?_
                            refine pv_ 3 (some 145) bl77 HT_ ?_
                            refine pv_ 4 (some 146) bl78 HT_ ?_
                            refine pv_ 6 (some 148) bl79 HT_ ?_
                            refine pv_ 8 (some 150) bl80 HT_ ?_
                            refine pv_ 9 (some 151) bl81 HT_ ?_
                            refine pv_ 11 (some 153) bl82 HT_ ?_
                            refine pv_ 13 (some 155) bl83 HT_ ?_
                            refine pv_ 18 (some 160) bl84 HT_ ?_
                            refine pv_ 20 (some 162) bl85 HT_ ?_
                            refine pv_ 22 (some 164) bl86 HT_ ?_
                            refine tk_ 1 (some 143) bl87 HT_ HW_ hHeld ?_
                            refine tk_ 5 (some 147) bl88 HT_ HW_ hHeld ?_
                            refine tk_ 7 (some 149) bl89 HT_ HW_ hHeld ?_
                            refine tk_ 10 (some 152) bl90 HT_ HW_ hHeld ?_
                            refine pv_ 12 (some 154) bl91 HT_ ?_
                            refine tk_ 14 (some 156) bl92 HT_ HW_ hHeld ?_
                            refine pv_ 15 (some 157) bl93 HT_ ?_
                            refine pv_ 16 (some 158) bl94 HT_ ?_
                            refine tk_ 17 (some 159) bl95 HT_ HW_ hHeld ?_
                            refine tk_ 19 (some 161) bl96 HT_ HW_ hHeld ?_
                            refine tk_ 21 (some 163) bl97 HT_ HW_ hHeld ?_
                            refine tk_ 23 (some 165) bl98 HT_ HW_ hHeld ?_
                            refine pv_ 24 (some 166) bl99 HT_ ?_
                            refine pv_ 25 (some 167) bl100 HT_ ?_
                            refine pv_ 26 (some 168) bl101 HT_ ?_
                            refine on_ 27 (some 169) bl102 HT_ (fun K hK=>?_);refine value_ (w1:=?_) (v:=?_) (by rfl) rfl ?_ ?_;rotate_left 2
                            ·go_simp;constructor
                             ·rfl
                             rfl
                            refine hK.out _ _ ⟨(blk_cell (blk_alloc ai.out _) 0).trans rfl,(blk_cell (blk_alloc ai.out _) 1).trans rfl,(blk_cell (blk_alloc ai.out _) 2).trans rfl,(blk_cell (blk_alloc ai.out _) 3).trans rfl,(blk_cell (blk_alloc ai.out _) 4).trans rfl,(blk_cell (blk_alloc ak.out _) 0).trans rfl,(blk_cell (blk_alloc ak.out _) 1).trans rfl,(blk_cell (blk_alloc ak.out _) 2).trans rfl,(blk_cell (blk_alloc ak.out _) 3).trans rfl,(blk_cell (blk_alloc aj.out _) 0).trans rfl,(blk_cell (blk_alloc aj.out _) 1).trans rfl,(blk_cell (blk_alloc aj.out _) 2).trans rfl,(blk_cell (blk_alloc aj.out _) 3).trans rfl,(blk_cell (blk_alloc ac.out _) 0).trans rfl,(blk_cell (blk_alloc ac.out _) 1).trans rfl,(blk_cell (blk_alloc ac.out _) 2).trans rfl,(blk_cell (blk_alloc ac.out _) 3).trans rfl,(blk_cell (blk_alloc ac.out _) 4).trans rfl,(World.cell?_alloc_lt _ _ _ (World.block_lt_of_cell? _ _ (hHeld.2.2.2.2.2.2.2.2.2.2.2.2.2.2.2.2.2.2.1))).trans (hHeld.2.2.2.2.2.2.2.2.2.2.2.2.2.2.2.2.2.2.1),(World.cell?_alloc_lt _ _ _ (World.block_lt_of_cell? _ _ (hHeld.2.2.2.2.2.2.2.2.2.2.2.2.2.2.2.2.2.2.2))).trans (hHeld.2.2.2.2.2.2.2.2.2.2.2.2.2.2.2.2.2.2.2)⟩ (fun hHeld=>?_);clear hK K;refine nr_ (some 169) ?_
                            refine last_ (i:=28) (N:=some 170) bl103 rfl rfl (one_of HT_.out (by kernel_rfl)) (by decide) (fun K hK=>?_);refine Kd.R_append_step k43 (w0:=w) w.heap.size (by rfl) (.tmp 143) (.tmp 169) 26 43 (.agg #[(.int .i64 0),(.int .i64 0),(.int .i64 0),(.int .i64 0)]) 32 rfl Try.underlying26 info43 rfl (by decide) (by omega) ay aG (⟨rd aw ao,(rd_T43 l0_4 aa).f1,rd aw (ji109),Go.bits .or .i64 ((rd_T43 l0_4 aa).f3) (ji113)⟩:S43) [.int .i64 (rd aw ao),.int .i64 ((rd_T43 l0_4 aa).f1),.int .i64 (rd aw (ji109)),.int .i64 (Go.bits .or .i64 ((rd_T43 l0_4 aa).f3) (ji113))] (fun k_=>k_≠ag∧k_≠af) (fun _=>False) rfl rfl ?aP (fun _ hk=>hk.elim) ?aF ?aO ?aB ?aS ?aL ?_
                            (case aP=>exact k43_mkM _ _ _ (⟨rd aw ao,(rd_T43 l0_4 aa).f1,rd aw (ji109),Go.bits .or .i64 ((rd_T43 l0_4 aa).f3) (ji113)⟩:S43));(case aB=>exact (zS HB.out));(case aF=>exact (fun k_ hk=>⟨Kd.freshB (g:=ag) (o:=.cells #[.int .i64 ((rd_T43 l0_4 aa).f0),.int .i64 ((rd_T43 l0_4 aa).f1),.int .i64 ((rd_T43 l0_4 aa).f2),.int .i64 ((rd_T43 l0_4 aa).f3)] 43 (0,0)) (zB ak.out) k_ hk,Kd.freshB (g:=af) (o:=.cells #[.int .i64 ((rd_T43 l1_4 ab).f0),.int .i64 ((rd_T43 l1_4 ab).f1),.int .i64 ((rd_T43 l1_4 ab).f2),.int .i64 ((rd_T43 l1_4 ab).f3)] 43 (0,0)) (zB aj.out) k_ hk⟩));(case aO=>exact (zR ae.out));(case aS=>exact (below_size (zS HB.out)));(case aL=>have:=LMc114.out;omega);intro te lc ho hb hg hat;rw[← jc.out]at ho;have bp:=Aside0.mk (Kd.R_over' (zR al.out) (Kd.R_typed (zR ae.out)) (by decide) hg);refine k8_ (bG ac hg ae) (bG ad hg ae) (bG ah hg ae) (bG ai hg ae) (Aside0.mk (blk_grown (g:=ag) (o:=.cells #[.int .i64 ((rd_T43 l0_4 aa).f0),.int .i64 ((rd_T43 l0_4 aa).f1),.int .i64 ((rd_T43 l0_4 aa).f2),.int .i64 ((rd_T43 l0_4 aa).f3)] 43 (0,0)) (zB ak.out) hg (Kd.R_away ae.out (fun _ hk=>hk.1)))) (Aside0.mk (blk_grown (g:=af) (o:=.cells #[.int .i64 ((rd_T43 l1_4 ab).f0),.int .i64 ((rd_T43 l1_4 ab).f1),.int .i64 ((rd_T43 l1_4 ab).f2),.int .i64 ((rd_T43 l1_4 ab).f3)] 43 (0,0)) (zB aj.out) hg (Kd.R_away ae.out (fun _ hk=>hk.2)))) (Aside0.mk (hb)) (Aside0.mk (ho)) ?_;intro bq br bs bt bu bv bw bx;clear al;clear ac;clear ad;clear ah;clear ai;clear ak;clear aj;clear HB;clear ae;refine k9_ bp bq br bs bt bu bv bw bx ?_;intro al ac ad ah ai ak aj HB iF;clear bp bq br bs bt bu bv bw bx;clear ho hb hg hat;refine e2a1 (Kd.R_slice iF.out) ?_;intro jd je iG;(first|subst iG|(injection iG with f1_ f2_ f3_;have f4_:=f1_.symm;have f5_:=f3_.symm;clear f1_ f2_ f3_;subst f4_;subst f5_));refine hK.out _ _ ?_;clear hK K;refine nr_ (some 170) ?_
                            refine pv_ 29 (some 171) bl104 HT_ ?_
                            refine last_ (i:=30) (N:=none) bl105 rfl rfl (one_of HT_.out (by kernel_rfl)) (by decide) (fun K hK=>?_);have sz:lc.cell? ⟨aY,4,none⟩=some (ay):=b1 ai 4;refine k11_ (blk_frozen ai.out 4) fU.out gX.out gY.out aC.out aE.out dO.out dP.out dQ.out aA.out aD.out ?_;intro qq ld le lf lg lh li lj lk ll lm;refine skip_ (w1:=?_) (by rfl) rfl ?_ ?_;rotate_left
                            ·go_simp;rfl
                            refine hK.out _ _ ?_;clear hK K;refine done_ (done_of HT_.out (by kernel_rfl)) ?_
                            try go_wp2
                            (first|go_roundg kj91|((try simp only[← hji109]);(try simp only[← hji113]);go_roundg kj91))
                            case measure=>have:=HJ2.out;have:=HK2.out;have:=HJ71.out;have:=HJ79.out;have:=HK5.out;have:=HK6.out;have:=HJ91.out;omega
                            case rel=>exact ⟨(wrap64 (ab+1)),(ik),(.slice jd ik.length je),vv,(by first|exact H' | (have h_:=H';(try simp only[← hji109]at h_);(try simp only[← hji109]);(try simp only[← hji113]at h_);(try simp only[← hji113]);exact h_)),⟨by have:=HJ2.out;have:=HK2.out;have:=HJ71.out;have:=HJ79.out;have:=HK5.out;have:=HK6.out;have:=HJ91.out;omega⟩,⟨rM (Aside0.mk (yF1 al ai)) (fun _ hk=>trivial)⟩,⟨rM (Aside0.mk (yF1 iF ai)) (fun _ hk=>trivial)⟩,⟨zB ac.out⟩,⟨zB ad.out⟩,⟨zB ah.out⟩,⟨by (with_reducible repeat (first|refine blk_drewN ?_ _|refine blk_drew ?_|refine blk_alloc ?_ _));refine blk_put (cs:=#[.int .i64 a0_0,.int .i64 aU,.int .i64 az,.int .i64 (wrap64 (a0_3+a1_3)),ay]) ?_ 4 _ rfl;(with_reducible repeat (first|refine blk_drewN ?_ _|refine blk_drew ?_|refine blk_alloc ?_ _));exact ai.out⟩,⟨zS HB.out⟩⟩
                           rw[if_neg hT]at H;exact absurd H (by simp)
                          rw[if_neg hr]at H;exact absurd H (by simp)
                         rw[if_neg hS]at H;exact absurd H (by simp)
                        rw[if_neg hR]at H;exact absurd H (by simp)
                       rw[if_neg hQ]at H;exact absurd H (by simp)
                      rw[if_neg hP]at H;exact absurd H (by simp)
                     rw[if_neg gN]at H;have iU:(((rd_T43 l0_4 aa).f1) == ((rd_T43 l1_4 ab).f1))=false:=beq_eq_false_iff_ne.mpr gN;have iV:(((rd_T43 l0_4 aa).f1) != ((rd_T43 l1_4 ab).f1))=true:=bne_iff_ne.mpr gN;have H':=Aside0.mk H;clear H;try go_wp2
                     go_roundg kj91
                     case measure=>have:=HJ2.out;have:=HK2.out;have:=HJ71.out;have:=HJ79.out;have:=HK5.out;have:=HK6.out;have:=HJ91.out;omega
                     case rel=>exact ⟨(wrap64 (ab+1)),(aG),(ay),vv,H',⟨by have:=HJ2.out;have:=HK2.out;have:=HJ71.out;have:=HJ79.out;have:=HK5.out;have:=HK6.out;have:=HJ91.out;omega⟩,⟨zR al.out⟩,⟨rM ae (fun _ hk=>trivial)⟩,⟨zB ac.out⟩,⟨zB ad.out⟩,⟨zB ah.out⟩,⟨zB ai.out⟩,⟨zS HB.out⟩⟩
                    rw[if_neg gM]at H;have iS:(((rd_T43 l1_4 ab).f0) == (Int.tmod ao a1_1))=false:=beq_eq_false_iff_ne.mpr gM;have iT:(((rd_T43 l1_4 ab).f0) != (Int.tmod ao a1_1))=true:=bne_iff_ne.mpr gM;have H':=Aside0.mk H;clear H;generalize wc.drew=tc at al ae ac ad ah ai HB ba bb bc bd be bf bg bh hHeld ⊢;refine pv_ 0 (some 119) bl1 HT_ ?_
                    refine pv_ 2 (some 121) bl2 HT_ ?_
                    refine pv_ 5 (some 124) bl54 HT_ ?_
                    refine pv_ 7 (some 126) bl55 HT_ ?_
                    refine tk_ 1 (some 120) bl56 HT_ HW_ hHeld ?_
                    refine pv_ 3 (some 122) bl57 HT_ ?_
                    refine tk_ 4 (some 123) bl58 HT_ HW_ hHeld ?_
                    refine tk_ 6 (some 125) bl8 HT_ HW_ hHeld ?_
                    refine pv_ 8 (some 127) bl15 HT_ ?_
                    refine tk_ 9 (some 128) bl16 HT_ HW_ hHeld ?_
                    refine join_ (σ:=Nat × Nat) 2 bl12 (fun s_=>[(13,.pointer (some ⟨s_.1,0,none⟩)),(14,.pointer (some ⟨s_.2,0,none⟩))]) (fun s_ w'=>(w'.cell? ⟨ap,0,none⟩=some (.int .i64 a0_0)∧w'.cell? ⟨ap,1,none⟩=some (.int .i64 a0_1)∧w'.cell? ⟨ap,2,none⟩=some (.int .i64 a0_2)∧w'.cell? ⟨ap,3,none⟩=some (.int .i64 a0_3)∧w'.cell? ⟨ap,4,none⟩=some (.slice (some ad203) l0_4.length c0_4)∧w'.cell? ⟨ax,0,none⟩=some (.int .i64 a1_0)∧w'.cell? ⟨ax,1,none⟩=some (.int .i64 a1_1)∧w'.cell? ⟨ax,2,none⟩=some (.int .i64 a1_2)∧w'.cell? ⟨ax,3,none⟩=some (.int .i64 a1_3)∧w'.cell? ⟨ax,4,none⟩=some (.slice (some ad204) l1_4.length c1_4)∧w'.cell? (ad203.add ((aa).toNat * 4))=some (.int .i64 ((rd_T43 l0_4 aa).f0))∧w'.cell? ⟨(ad203.add ((aa).toNat * 4)).block,(ad203.add ((aa).toNat * 4)).off+1,none⟩=some (.int .i64 ((rd_T43 l0_4 aa).f1))∧w'.cell? ⟨(ad203.add ((aa).toNat * 4)).block,(ad203.add ((aa).toNat * 4)).off+2,none⟩=some (.int .i64 ((rd_T43 l0_4 aa).f2))∧w'.cell? ⟨(ad203.add ((aa).toNat * 4)).block,(ad203.add ((aa).toNat * 4)).off+3,none⟩=some (.int .i64 ((rd_T43 l0_4 aa).f3))∧w'.cell? (ad204.add ((ab).toNat * 4))=some (.int .i64 ((rd_T43 l1_4 ab).f0))∧w'.cell? ⟨(ad204.add ((ab).toNat * 4)).block,(ad204.add ((ab).toNat * 4)).off+1,none⟩=some (.int .i64 ((rd_T43 l1_4 ab).f1))∧w'.cell? ⟨(ad204.add ((ab).toNat * 4)).block,(ad204.add ((ab).toNat * 4)).off+2,none⟩=some (.int .i64 ((rd_T43 l1_4 ab).f2))∧w'.cell? ⟨(ad204.add ((ab).toNat * 4)).block,(ad204.add ((ab).toNat * 4)).off+3,none⟩=some (.int .i64 ((rd_T43 l1_4 ab).f3)))∧(Kd.R k43 43 w' w.heap.size (fun k_=>k_≠s_.1∧k_≠s_.2) ay aG)∧(Kd.R (Kd.int .i64) 3 w' w.heap.size (fun _=>True) (.slice (some ad197) aw.length fR) aw)∧(w'.heap[ap]?=some (.cells #[.int .i64 a0_0,.int .i64 a0_1,.int .i64 a0_2,.int .i64 a0_3,.slice (some ad203) l0_4.length c0_4] 28 (0,0)))∧(w'.heap[ax]?=some (.cells #[.int .i64 a1_0,.int .i64 a1_1,.int .i64 a1_2,.int .i64 a1_3,.slice (some ad204) l1_4.length c1_4] 28 (0,0)))∧(w'.heap[aZ]?=some (.cells #[.int .i64 0,.int .i64 0,.int .i64 0,.int .i64 0,.slice none 0 0] 28 (0,0)))∧(w'.heap[aY]?=some (.cells #[.int .i64 a0_0,.int .i64 aU,.int .i64 az,.int .i64 (wrap64 (a0_3+a1_3)),ay] 28 (0,0)))∧(w'.heap[s_.1]?=some (.cells #[.int .i64 0,.int .i64 0,.int .i64 0,.int .i64 0] 43 (0,0)))∧(w'.heap[s_.2]?=some (.cells #[.int .i64 0,.int .i64 0,.int .i64 0,.int .i64 0] 43 (0,0)))∧(w.heap.size≤s_.1)∧(w.heap.size≤s_.1)∧(ap≠s_.1)∧(s_.1≠ap)∧(ax≠s_.1)∧(s_.1≠ax)∧(aZ≠s_.1)∧(s_.1≠aZ)∧(aY≠s_.1)∧(s_.1≠aY)∧(s_.2≠s_.1)∧(s_.1≠s_.2)∧(w.heap.size≤s_.2)∧(w.heap.size≤s_.2)∧(ap≠s_.2)∧(s_.2≠ap)∧(ax≠s_.2)∧(s_.2≠ax)∧(aZ≠s_.2)∧(s_.2≠aZ)∧(aY≠s_.2)∧(s_.2≠aY)∧(Below w.heap.size w w')) ?_ ?_
                    rotate_left
                    ·intro hCont;refine two_ (i:=10) (j:=11) (Ni:=some 13) (Nj:=some 14) bl17 bl59 rfl rfl rfl rfl (two_of HT_.out (by kernel_rfl)) (by decide) (by decide) (fun K hK=>?_) (fun K hK=>?_)
                     ·skip;refine by_ 13 #[.int .i64 0,.int .i64 0,.int .i64 0,.int .i64 0] 43 ?_
                      intro ag hg jv hbox hb;refine k18_ (xR al hb) (Aside0.mk (Kd.R_below (Kd.R_elderB (zR ae.out) ag (Nat.le_of_eq hg.symm)) hb)) (Aside0.mk (hbox)) (xG HB hg) (xG HB hg) (xS HB hb) (xN ac hg) (xM ac hg) (xB ac hb) (xN ad hg) (xM ad hg) (xB ad hb) (xN ah hg) (xM ah hg) (xB ah hb) (xN ai hg) (xM ai hg) (xB ai hb) ?_;clear al ae HB ac ad ah ai;intro al ae ak aW bn HB aq aH ac ar aI ad aJ aK ah aA aC ai;clear hb hbox hg;refine hK.out _ _ ⟨b1 ac 0,b1 ac 1,b1 ac 2,b1 ac 3,b1 ac 4,b1 ad 0,b1 ad 1,b1 ad 2,b1 ad 3,b1 ad 4,(ct_ HB hw203_0),(ct_ HB hw203_1),(ct_ HB hw203_2),(ct_ HB hw203_3),(ct_ HB hw204_0),(ct_ HB hw204_1),(ct_ HB hw204_2),(ct_ HB hw204_3)⟩ (fun hHeld=>?_);clear hK K;refine nr_ (some 13) ?_
                      refine on_ 11 (some 14) bl12 HT_ (fun K hK=>?_);refine by_ 14 #[.int .i64 0,.int .i64 0,.int .i64 0,.int .i64 0] 43 ?_
                      intro af hg jw hbox hb;refine k21_ (xR al hb) (Aside0.mk (Kd.R_below (Kd.R_elderB (zR ae.out) af (Nat.le_of_eq hg.symm)) hb)) (Aside0.mk (hbox)) (xG HB hg) (xG HB hg) (xS HB hb) (xN ac hg) (xM ac hg) (xB ac hb) (xN ad hg) (xM ad hg) (xB ad hb) (xN ah hg) (xM ah hg) (xB ah hb) (xN ai hg) (xM ai hg) (xB ai hb) (xN ak hg) (xM ak hg) (xB ak hb) ?_;clear al ae HB ac ad ah ai ak;intro al ae aj aX bo HB au aM ac av aN ad aQ aR ah aD aE ai am an ak;clear hb hbox hg;refine hK.out _ _ ⟨b1 ac 0,b1 ac 1,b1 ac 2,b1 ac 3,b1 ac 4,b1 ad 0,b1 ad 1,b1 ad 2,b1 ad 3,b1 ad 4,(ct_ HB hw203_0),(ct_ HB hw203_1),(ct_ HB hw203_2),(ct_ HB hw203_3),(ct_ HB hw204_0),(ct_ HB hw204_1),(ct_ HB hw204_2),(ct_ HB hw204_3)⟩ (fun hHeld=>?_);clear hK K;refine nr_ (some 14) ?_
                      exact norm_ (by simp only[putAll,Act.put,q3]) (hCont (ag,af) _ ⟨hHeld,(rM ae (fun _ hk=>⟨hk.1.2,hk.2⟩)),(zR al.out),(zB ac.out),(zB ad.out),(zB ah.out),(zB ai.out),(zB ak.out),(zB aj.out),aW.out,bn.out,aq.out,aH.out,ar.out,aI.out,aJ.out,aK.out,aA.out,aC.out,an.out,am.out,aX.out,bo.out,au.out,aM.out,av.out,aN.out,aQ.out,aR.out,aD.out,aE.out,(zS HB.out)⟩)
                     ·skip;refine by_ 14 #[.int .i64 0,.int .i64 0,.int .i64 0,.int .i64 0] 43 ?_
                      intro af hg jv hbox hb;refine k18_ (xR al hb) (Aside0.mk (Kd.R_below (Kd.R_elderB (zR ae.out) af (Nat.le_of_eq hg.symm)) hb)) (Aside0.mk (hbox)) (xG HB hg) (xG HB hg) (xS HB hb) (xN ac hg) (xM ac hg) (xB ac hb) (xN ad hg) (xM ad hg) (xB ad hb) (xN ah hg) (xM ah hg) (xB ah hb) (xN ai hg) (xM ai hg) (xB ai hb) ?_;clear al ae HB ac ad ah ai;intro al ae aj aX bo HB au aM ac av aN ad aQ aR ah aD aE ai;clear hb hbox hg;refine hK.out _ _ ⟨b1 ac 0,b1 ac 1,b1 ac 2,b1 ac 3,b1 ac 4,b1 ad 0,b1 ad 1,b1 ad 2,b1 ad 3,b1 ad 4,(ct_ HB hw203_0),(ct_ HB hw203_1),(ct_ HB hw203_2),(ct_ HB hw203_3),(ct_ HB hw204_0),(ct_ HB hw204_1),(ct_ HB hw204_2),(ct_ HB hw204_3)⟩ (fun hHeld=>?_);clear hK K;refine nr_ (some 14) ?_
                      refine on_ 10 (some 13) bl12 HT_ (fun K hK=>?_);refine by_ 13 #[.int .i64 0,.int .i64 0,.int .i64 0,.int .i64 0] 43 ?_
                      intro ag hg jw hbox hb;refine k21_ (xR al hb) (Aside0.mk (Kd.R_below (Kd.R_elderB (zR ae.out) ag (Nat.le_of_eq hg.symm)) hb)) (Aside0.mk (hbox)) (xG HB hg) (xG HB hg) (xS HB hb) (xN ac hg) (xM ac hg) (xB ac hb) (xN ad hg) (xM ad hg) (xB ad hb) (xN ah hg) (xM ah hg) (xB ah hb) (xN ai hg) (xM ai hg) (xB ai hb) (xN aj hg) (xM aj hg) (xB aj hb) ?_;clear al ae HB ac ad ah ai aj;intro al ae ak aW bn HB aq aH ac ar aI ad aJ aK ah aA aC ai an am aj;clear hb hbox hg;refine hK.out _ _ ⟨b1 ac 0,b1 ac 1,b1 ac 2,b1 ac 3,b1 ac 4,b1 ad 0,b1 ad 1,b1 ad 2,b1 ad 3,b1 ad 4,(ct_ HB hw203_0),(ct_ HB hw203_1),(ct_ HB hw203_2),(ct_ HB hw203_3),(ct_ HB hw204_0),(ct_ HB hw204_1),(ct_ HB hw204_2),(ct_ HB hw204_3)⟩ (fun hHeld=>?_);clear hK K;refine nr_ (some 13) ?_
                      exact norm_ (by simp only[putAll,Act.put,q3]) (hCont (ag,af) _ ⟨hHeld,(rM ae (fun _ hk=>⟨hk.2,hk.1.2⟩)),(zR al.out),(zB ac.out),(zB ad.out),(zB ah.out),(zB ai.out),(zB ak.out),(zB aj.out),aW.out,bn.out,aq.out,aH.out,ar.out,aI.out,aJ.out,aK.out,aA.out,aC.out,an.out,am.out,aX.out,bo.out,au.out,aM.out,av.out,aN.out,aQ.out,aR.out,aD.out,aE.out,(zS HB.out)⟩)
                    rintro ⟨ag,af⟩ bk ⟨hS_,h0_,h1_,h2_,h3_,h4_,h5_,h6_,h7_,h8_,h9_,h10_,h11_,h12_,h13_,h14_,h15_,h16_,h17_,h18_,h19_,h20_,h21_,h22_,h23_,h24_,h25_,h26_,h27_,h28_,h29_,h30_⟩;(try dsimp only at hS_ h0_ h1_ h2_ h3_ h4_ h5_ h6_ h7_ h8_ h9_ h10_ h11_ h12_ h13_ h14_ h15_ h16_ h17_ h18_ h19_ h20_ h21_ h22_ h23_ h24_ h25_ h26_ h27_ h28_ h29_ h30_);refine k31_ (Aside0.mk h0_) (Aside0.mk h1_) (Aside0.mk h2_) (Aside0.mk h3_) (Aside0.mk h4_) (Aside0.mk h5_) (Aside0.mk h6_) (Aside0.mk h7_) (Aside0.mk h8_) (Aside0.mk h9_) (Aside0.mk h10_) (Aside0.mk h11_) (Aside0.mk h12_) (Aside0.mk h13_) (Aside0.mk h14_) (Aside0.mk h15_) (Aside0.mk h16_) (Aside0.mk h17_) (Aside0.mk h18_) (Aside0.mk h19_) (Aside0.mk h20_) (Aside0.mk h21_) (Aside0.mk h22_) (Aside0.mk h23_) (Aside0.mk h24_) (Aside0.mk h25_) (Aside0.mk h26_) (Aside0.mk h27_) (Aside0.mk h28_) (Aside0.mk h29_) (Aside0.mk h30_) ?_;intro bp bq br bs bt bu bv bw bx hh gg gh gi gj gl gm gn go gp gq gr gs gt gu gv gw gx gy gz gA gB;clear al;clear ae;clear ac;clear ad;clear ah;clear ai;clear HB;clear h0_ h1_ h2_ h3_ h4_ h5_ h6_ h7_ h8_ h9_ h10_ h11_ h12_ h13_ h14_ h15_ h16_ h17_ h18_ h19_ h20_ h21_ h22_ h23_ h24_ h25_ h26_ h27_ h28_ h29_ h30_;refine k12_ bp bq br bs bt bu bv bw bx hh gg gh ?_;intro ae al ac ad ah ai ak aj aW bn aq aH;refine k19_ gi gj gl gm gn go gp gq gr gs gt gu gv gw gx gy gz gA gB ?_;intro ar aI aJ aK aA aC an am aX bo au aM av aN aQ aR aD aE HB;clear bp bq br bs bt bu bv bw bx hh gg gh gi gj gl gm gn go gp gq gr gs gt gu gv gw gx gy gz gA gB;have hHeld:=hS_;refine norm_ (a':=?_) ?_ ?_;rotate_left
                    ·simp only[putAll,Act.put,q3];rfl
                    refine on_ 12 (none) bl13 HT_ (fun K hK=>?_);have sr:bk.cell? ⟨ag,0,none⟩=some (.int .i64 0):=b1 ak 0;refine k11_ (blk_frozen ak.out 0) aq.out ar.out aJ.out aA.out an.out aH.out aI.out aK.out aC.out am.out ?_;intro qi jx jy jz jA jB jC jD jE jF jG;have ss:bk.cell? ⟨ag,1,none⟩=some (.int .i64 0):=b1 ak 1;refine k11_ (blk_frozen ak.out 1) aq.out ar.out aJ.out aA.out an.out aH.out aI.out aK.out aC.out am.out ?_;intro qj jH jI jJ jK jL jM jN jO jP jQ;have st:bk.cell? ⟨ag,2,none⟩=some (.int .i64 0):=b1 ak 2;refine k11_ (blk_frozen ak.out 2) aq.out ar.out aJ.out aA.out an.out aH.out aI.out aK.out aC.out am.out ?_;intro qk jR jS jT jU jV jW jX jY jZ ka;have su:bk.cell? ⟨ag,3,none⟩=some (.int .i64 0):=b1 ak 3;refine k11_ (blk_frozen ak.out 3) aq.out ar.out aJ.out aA.out an.out aH.out aI.out aK.out aC.out am.out ?_;intro ql kb kc kd ke kf kg kh ki kj kk;refine skip_ (w1:=?_) (by rfl) rfl ?_ ?_;rotate_left
                    ·go_simp;rfl
                    refine hK.out _ _ ⟨(cf4 (hHeld.1) aq.out),(cf4 (hHeld.2.1) aq.out),(cf4 (hHeld.2.2.1) aq.out),(cf4 (hHeld.2.2.2.1) aq.out),(cf4 (hHeld.2.2.2.2.1) aq.out),(cf4 (hHeld.2.2.2.2.2.1) ar.out),(cf4 (hHeld.2.2.2.2.2.2.1) ar.out),(cf4 (hHeld.2.2.2.2.2.2.2.1) ar.out),(cf4 (hHeld.2.2.2.2.2.2.2.2.1) ar.out),(cf4 (hHeld.2.2.2.2.2.2.2.2.2.1) ar.out),(cf4 (hHeld.2.2.2.2.2.2.2.2.2.2.1) (bF hw203_0 aW)),(cf4 (hHeld.2.2.2.2.2.2.2.2.2.2.2.1) (bF hw203_1 aW)),(cf4 (hHeld.2.2.2.2.2.2.2.2.2.2.2.2.1) (bF hw203_2 aW)),(cf4 (hHeld.2.2.2.2.2.2.2.2.2.2.2.2.2.1) (bF hw203_3 aW)),(cf4 (hHeld.2.2.2.2.2.2.2.2.2.2.2.2.2.2.1) (bF hw204_0 aW)),(cf4 (hHeld.2.2.2.2.2.2.2.2.2.2.2.2.2.2.2.1) (bF hw204_1 aW)),(cf4 (hHeld.2.2.2.2.2.2.2.2.2.2.2.2.2.2.2.2.1) (bF hw204_2 aW)),(cf4 (hHeld.2.2.2.2.2.2.2.2.2.2.2.2.2.2.2.2.2) (bF hw204_3 aW))⟩ (fun hHeld=>?_);clear hK K;refine on_ 13 (none) bl14 HT_ (fun K hK=>?_);have sv:bk.cell? ⟨af,0,none⟩=some (.int .i64 0):=b1 aj 0;refine k11_ (blk_frozen aj.out 0) au.out av.out aQ.out aD.out am.out aM.out aN.out aR.out aE.out an.out ?_;intro qm kl km kn ko kp kr ks kt ku kv;have sw:bk.cell? ⟨af,1,none⟩=some (.int .i64 0):=b1 aj 1;refine k11_ (blk_frozen aj.out 1) au.out av.out aQ.out aD.out am.out aM.out aN.out aR.out aE.out an.out ?_;intro qn kw kx ky kz kA kB kC kD kE kF;have sx:bk.cell? ⟨af,2,none⟩=some (.int .i64 0):=b1 aj 2;refine k11_ (blk_frozen aj.out 2) au.out av.out aQ.out aD.out am.out aM.out aN.out aR.out aE.out an.out ?_;intro qo kG kH kI kJ kK kL kM kN kO kP;have sy:bk.cell? ⟨af,3,none⟩=some (.int .i64 0):=b1 aj 3;refine k11_ (blk_frozen aj.out 3) au.out av.out aQ.out aD.out am.out aM.out aN.out aR.out aE.out an.out ?_;intro qp kQ kR kS kT kU kV kW kX kY kZ;refine skip_ (w1:=?_) (by rfl) rfl ?_ ?_;rotate_left
                    ·go_simp;rfl
                    refine hK.out _ _ ⟨(cf4 (hHeld.1) au.out),(cf4 (hHeld.2.1) au.out),(cf4 (hHeld.2.2.1) au.out),(cf4 (hHeld.2.2.2.1) au.out),(cf4 (hHeld.2.2.2.2.1) au.out),(cf4 (hHeld.2.2.2.2.2.1) av.out),(cf4 (hHeld.2.2.2.2.2.2.1) av.out),(cf4 (hHeld.2.2.2.2.2.2.2.1) av.out),(cf4 (hHeld.2.2.2.2.2.2.2.2.1) av.out),(cf4 (hHeld.2.2.2.2.2.2.2.2.2.1) av.out),(cf4 (hHeld.2.2.2.2.2.2.2.2.2.2.1) (bF hw203_0 aX)),(cf4 (hHeld.2.2.2.2.2.2.2.2.2.2.2.1) (bF hw203_1 aX)),(cf4 (hHeld.2.2.2.2.2.2.2.2.2.2.2.2.1) (bF hw203_2 aX)),(cf4 (hHeld.2.2.2.2.2.2.2.2.2.2.2.2.2.1) (bF hw203_3 aX)),(cf4 (hHeld.2.2.2.2.2.2.2.2.2.2.2.2.2.2.1) (bF hw204_0 aX)),(cf4 (hHeld.2.2.2.2.2.2.2.2.2.2.2.2.2.2.2.1) (bF hw204_1 aX)),(cf4 (hHeld.2.2.2.2.2.2.2.2.2.2.2.2.2.2.2.2.1) (bF hw204_2 aX)),(cf4 (hHeld.2.2.2.2.2.2.2.2.2.2.2.2.2.2.2.2.2) (bF hw204_3 aX))⟩ (fun hHeld=>?_);clear hK K;refine done_ (done_of HT_.out (by kernel_rfl)) ?_
                    try go_wp2
                    have bp:Aside0 (Kd.R (Kd.int .i64) 3 ((((((((bk.setCell ⟨ag,0,none⟩ (.int .i64 ((rd_T43 l0_4 aa).f0))).setCell ⟨ag,1,none⟩ (.int .i64 ((rd_T43 l0_4 aa).f1))).setCell ⟨ag,2,none⟩ (.int .i64 ((rd_T43 l0_4 aa).f2))).setCell ⟨ag,3,none⟩ (.int .i64 ((rd_T43 l0_4 aa).f3))).setCell ⟨af,0,none⟩ (.int .i64 ((rd_T43 l1_4 ab).f0))).setCell ⟨af,1,none⟩ (.int .i64 ((rd_T43 l1_4 ab).f1))).setCell ⟨af,2,none⟩ (.int .i64 ((rd_T43 l1_4 ab).f2))).setCell ⟨af,3,none⟩ (.int .i64 ((rd_T43 l1_4 ab).f3))) w.heap.size (fun _=>True) (.slice (some ad197) aw.length fR) aw):=⟨by (with_reducible repeat (first|apply Kd.R_alloc|apply Kd.R_drewN|apply Kd.R_drew));exact Kd.R_mono (Kd.R_far (p:=⟨af,3,none⟩) (Kd.R_far (p:=⟨af,2,none⟩) (Kd.R_far (p:=⟨af,1,none⟩) (Kd.R_far (p:=⟨af,0,none⟩) (Kd.R_far (p:=⟨ag,3,none⟩) (Kd.R_far (p:=⟨ag,2,none⟩) (Kd.R_far (p:=⟨ag,1,none⟩) (Kd.R_far (p:=⟨ag,0,none⟩) (Kd.R_types (Kd.R_types al.out ak.out (by decide)) aj.out (by decide)) (fun _ hk=>hk.1.2) (.int .i64 ((rd_T43 l0_4 aa).f0))) (fun _ hk=>hk.1.2) (.int .i64 ((rd_T43 l0_4 aa).f1))) (fun _ hk=>hk.1.2) (.int .i64 ((rd_T43 l0_4 aa).f2))) (fun _ hk=>hk.1.2) (.int .i64 ((rd_T43 l0_4 aa).f3))) (fun _ hk=>hk.2) (.int .i64 ((rd_T43 l1_4 ab).f0))) (fun _ hk=>hk.2) (.int .i64 ((rd_T43 l1_4 ab).f1))) (fun _ hk=>hk.2) (.int .i64 ((rd_T43 l1_4 ab).f2))) (fun _ hk=>hk.2) (.int .i64 ((rd_T43 l1_4 ab).f3))) (fun _ hk=>trivial)⟩;have bq:Aside0 (Kd.R k43 43 ((((((((bk.setCell ⟨ag,0,none⟩ (.int .i64 ((rd_T43 l0_4 aa).f0))).setCell ⟨ag,1,none⟩ (.int .i64 ((rd_T43 l0_4 aa).f1))).setCell ⟨ag,2,none⟩ (.int .i64 ((rd_T43 l0_4 aa).f2))).setCell ⟨ag,3,none⟩ (.int .i64 ((rd_T43 l0_4 aa).f3))).setCell ⟨af,0,none⟩ (.int .i64 ((rd_T43 l1_4 ab).f0))).setCell ⟨af,1,none⟩ (.int .i64 ((rd_T43 l1_4 ab).f1))).setCell ⟨af,2,none⟩ (.int .i64 ((rd_T43 l1_4 ab).f2))).setCell ⟨af,3,none⟩ (.int .i64 ((rd_T43 l1_4 ab).f3))) w.heap.size (fun k_=>k_≠ag∧k_≠af) ay aG):=⟨by (with_reducible repeat (first|apply Kd.R_alloc|apply Kd.R_drewN|apply Kd.R_drew));exact Kd.R_mono (Kd.R_far (p:=⟨af,3,none⟩) (Kd.R_far (p:=⟨af,2,none⟩) (Kd.R_far (p:=⟨af,1,none⟩) (Kd.R_far (p:=⟨af,0,none⟩) (Kd.R_far (p:=⟨ag,3,none⟩) (Kd.R_far (p:=⟨ag,2,none⟩) (Kd.R_far (p:=⟨ag,1,none⟩) (Kd.R_far (p:=⟨ag,0,none⟩) (Kd.R_mono (Kd.R_mono ae.out (fun k_ hk=>(⟨hk,hk.1⟩:_∧k_≠ag))) (fun k_ hk=>(⟨hk,hk.1.2⟩:_∧k_≠af))) (fun _ hk=>hk.1.2) (.int .i64 ((rd_T43 l0_4 aa).f0))) (fun _ hk=>hk.1.2) (.int .i64 ((rd_T43 l0_4 aa).f1))) (fun _ hk=>hk.1.2) (.int .i64 ((rd_T43 l0_4 aa).f2))) (fun _ hk=>hk.1.2) (.int .i64 ((rd_T43 l0_4 aa).f3))) (fun _ hk=>hk.2) (.int .i64 ((rd_T43 l1_4 ab).f0))) (fun _ hk=>hk.2) (.int .i64 ((rd_T43 l1_4 ab).f1))) (fun _ hk=>hk.2) (.int .i64 ((rd_T43 l1_4 ab).f2))) (fun _ hk=>hk.2) (.int .i64 ((rd_T43 l1_4 ab).f3))) (fun _ hk=>⟨hk.1.1.1,hk.1.1.2⟩)⟩;have br:Aside0 (((((((((bk.setCell ⟨ag,0,none⟩ (.int .i64 ((rd_T43 l0_4 aa).f0))).setCell ⟨ag,1,none⟩ (.int .i64 ((rd_T43 l0_4 aa).f1))).setCell ⟨ag,2,none⟩ (.int .i64 ((rd_T43 l0_4 aa).f2))).setCell ⟨ag,3,none⟩ (.int .i64 ((rd_T43 l0_4 aa).f3))).setCell ⟨af,0,none⟩ (.int .i64 ((rd_T43 l1_4 ab).f0))).setCell ⟨af,1,none⟩ (.int .i64 ((rd_T43 l1_4 ab).f1))).setCell ⟨af,2,none⟩ (.int .i64 ((rd_T43 l1_4 ab).f2))).setCell ⟨af,3,none⟩ (.int .i64 ((rd_T43 l1_4 ab).f3))).heap[ap]?=some (.cells #[.int .i64 a0_0,.int .i64 a0_1,.int .i64 a0_2,.int .i64 a0_3,.slice (some ad203) l0_4.length c0_4] 28 (0,0))):=⟨zB ac.out⟩
                    have bs:Aside0 (((((((((bk.setCell ⟨ag,0,none⟩ (.int .i64 ((rd_T43 l0_4 aa).f0))).setCell ⟨ag,1,none⟩ (.int .i64 ((rd_T43 l0_4 aa).f1))).setCell ⟨ag,2,none⟩ (.int .i64 ((rd_T43 l0_4 aa).f2))).setCell ⟨ag,3,none⟩ (.int .i64 ((rd_T43 l0_4 aa).f3))).setCell ⟨af,0,none⟩ (.int .i64 ((rd_T43 l1_4 ab).f0))).setCell ⟨af,1,none⟩ (.int .i64 ((rd_T43 l1_4 ab).f1))).setCell ⟨af,2,none⟩ (.int .i64 ((rd_T43 l1_4 ab).f2))).setCell ⟨af,3,none⟩ (.int .i64 ((rd_T43 l1_4 ab).f3))).heap[ax]?=some (.cells #[.int .i64 a1_0,.int .i64 a1_1,.int .i64 a1_2,.int .i64 a1_3,.slice (some ad204) l1_4.length c1_4] 28 (0,0))):=⟨zB ad.out⟩;have bt:Aside0 (((((((((bk.setCell ⟨ag,0,none⟩ (.int .i64 ((rd_T43 l0_4 aa).f0))).setCell ⟨ag,1,none⟩ (.int .i64 ((rd_T43 l0_4 aa).f1))).setCell ⟨ag,2,none⟩ (.int .i64 ((rd_T43 l0_4 aa).f2))).setCell ⟨ag,3,none⟩ (.int .i64 ((rd_T43 l0_4 aa).f3))).setCell ⟨af,0,none⟩ (.int .i64 ((rd_T43 l1_4 ab).f0))).setCell ⟨af,1,none⟩ (.int .i64 ((rd_T43 l1_4 ab).f1))).setCell ⟨af,2,none⟩ (.int .i64 ((rd_T43 l1_4 ab).f2))).setCell ⟨af,3,none⟩ (.int .i64 ((rd_T43 l1_4 ab).f3))).heap[aZ]?=some (.cells #[.int .i64 0,.int .i64 0,.int .i64 0,.int .i64 0,.slice none 0 0] 28 (0,0))):=⟨zB ah.out⟩;have bu:Aside0 (((((((((bk.setCell ⟨ag,0,none⟩ (.int .i64 ((rd_T43 l0_4 aa).f0))).setCell ⟨ag,1,none⟩ (.int .i64 ((rd_T43 l0_4 aa).f1))).setCell ⟨ag,2,none⟩ (.int .i64 ((rd_T43 l0_4 aa).f2))).setCell ⟨ag,3,none⟩ (.int .i64 ((rd_T43 l0_4 aa).f3))).setCell ⟨af,0,none⟩ (.int .i64 ((rd_T43 l1_4 ab).f0))).setCell ⟨af,1,none⟩ (.int .i64 ((rd_T43 l1_4 ab).f1))).setCell ⟨af,2,none⟩ (.int .i64 ((rd_T43 l1_4 ab).f2))).setCell ⟨af,3,none⟩ (.int .i64 ((rd_T43 l1_4 ab).f3))).heap[aY]?=some (.cells #[.int .i64 a0_0,.int .i64 aU,.int .i64 az,.int .i64 (wrap64 (a0_3+a1_3)),ay] 28 (0,0))):=⟨zB ai.out⟩;have bv:Aside0 (((((((((bk.setCell ⟨ag,0,none⟩ (.int .i64 ((rd_T43 l0_4 aa).f0))).setCell ⟨ag,1,none⟩ (.int .i64 ((rd_T43 l0_4 aa).f1))).setCell ⟨ag,2,none⟩ (.int .i64 ((rd_T43 l0_4 aa).f2))).setCell ⟨ag,3,none⟩ (.int .i64 ((rd_T43 l0_4 aa).f3))).setCell ⟨af,0,none⟩ (.int .i64 ((rd_T43 l1_4 ab).f0))).setCell ⟨af,1,none⟩ (.int .i64 ((rd_T43 l1_4 ab).f1))).setCell ⟨af,2,none⟩ (.int .i64 ((rd_T43 l1_4 ab).f2))).setCell ⟨af,3,none⟩ (.int .i64 ((rd_T43 l1_4 ab).f3))).heap[ag]?=some (.cells #[.int .i64 ((rd_T43 l0_4 aa).f0),.int .i64 ((rd_T43 l0_4 aa).f1),.int .i64 ((rd_T43 l0_4 aa).f2),.int .i64 ((rd_T43 l0_4 aa).f3)] 43 (0,0))):=⟨by (with_reducible repeat (first|refine blk_drewN ?_ _|refine blk_drew ?_|refine blk_alloc ?_ _));refine blk_far ?_ am.out _;(with_reducible repeat (first|refine blk_drewN ?_ _|refine blk_drew ?_|refine blk_alloc ?_ _));refine blk_far ?_ am.out _;(with_reducible repeat (first|refine blk_drewN ?_ _|refine blk_drew ?_|refine blk_alloc ?_ _));refine blk_far ?_ am.out _;(with_reducible repeat (first|refine blk_drewN ?_ _|refine blk_drew ?_|refine blk_alloc ?_ _));refine blk_far ?_ am.out _;(with_reducible repeat (first|refine blk_drewN ?_ _|refine blk_drew ?_|refine blk_alloc ?_ _));refine blk_put (cs:=#[.int .i64 ((rd_T43 l0_4 aa).f0),.int .i64 ((rd_T43 l0_4 aa).f1),.int .i64 ((rd_T43 l0_4 aa).f2),.int .i64 0]) ?_ 3 _ rfl;(with_reducible repeat (first|refine blk_drewN ?_ _|refine blk_drew ?_|refine blk_alloc ?_ _));refine blk_put (cs:=#[.int .i64 ((rd_T43 l0_4 aa).f0),.int .i64 ((rd_T43 l0_4 aa).f1),.int .i64 0,.int .i64 0]) ?_ 2 _ rfl;(with_reducible repeat (first|refine blk_drewN ?_ _|refine blk_drew ?_|refine blk_alloc ?_ _));refine blk_put (cs:=#[.int .i64 ((rd_T43 l0_4 aa).f0),.int .i64 0,.int .i64 0,.int .i64 0]) ?_ 1 _ rfl;(with_reducible repeat (first|refine blk_drewN ?_ _|refine blk_drew ?_|refine blk_alloc ?_ _));refine blk_put (cs:=#[.int .i64 0,.int .i64 0,.int .i64 0,.int .i64 0]) ?_ 0 _ rfl;(with_reducible repeat (first|refine blk_drewN ?_ _|refine blk_drew ?_|refine blk_alloc ?_ _));exact ak.out⟩
                    have bw:Aside0 (((((((((bk.setCell ⟨ag,0,none⟩ (.int .i64 ((rd_T43 l0_4 aa).f0))).setCell ⟨ag,1,none⟩ (.int .i64 ((rd_T43 l0_4 aa).f1))).setCell ⟨ag,2,none⟩ (.int .i64 ((rd_T43 l0_4 aa).f2))).setCell ⟨ag,3,none⟩ (.int .i64 ((rd_T43 l0_4 aa).f3))).setCell ⟨af,0,none⟩ (.int .i64 ((rd_T43 l1_4 ab).f0))).setCell ⟨af,1,none⟩ (.int .i64 ((rd_T43 l1_4 ab).f1))).setCell ⟨af,2,none⟩ (.int .i64 ((rd_T43 l1_4 ab).f2))).setCell ⟨af,3,none⟩ (.int .i64 ((rd_T43 l1_4 ab).f3))).heap[af]?=some (.cells #[.int .i64 ((rd_T43 l1_4 ab).f0),.int .i64 ((rd_T43 l1_4 ab).f1),.int .i64 ((rd_T43 l1_4 ab).f2),.int .i64 ((rd_T43 l1_4 ab).f3)] 43 (0,0))):=⟨by (with_reducible repeat (first|refine blk_drewN ?_ _|refine blk_drew ?_|refine blk_alloc ?_ _));refine blk_put (cs:=#[.int .i64 ((rd_T43 l1_4 ab).f0),.int .i64 ((rd_T43 l1_4 ab).f1),.int .i64 ((rd_T43 l1_4 ab).f2),.int .i64 0]) ?_ 3 _ rfl;(with_reducible repeat (first|refine blk_drewN ?_ _|refine blk_drew ?_|refine blk_alloc ?_ _));refine blk_put (cs:=#[.int .i64 ((rd_T43 l1_4 ab).f0),.int .i64 ((rd_T43 l1_4 ab).f1),.int .i64 0,.int .i64 0]) ?_ 2 _ rfl;(with_reducible repeat (first|refine blk_drewN ?_ _|refine blk_drew ?_|refine blk_alloc ?_ _));refine blk_put (cs:=#[.int .i64 ((rd_T43 l1_4 ab).f0),.int .i64 0,.int .i64 0,.int .i64 0]) ?_ 1 _ rfl;(with_reducible repeat (first|refine blk_drewN ?_ _|refine blk_drew ?_|refine blk_alloc ?_ _));refine blk_put (cs:=#[.int .i64 0,.int .i64 0,.int .i64 0,.int .i64 0]) ?_ 0 _ rfl;(with_reducible repeat (first|refine blk_drewN ?_ _|refine blk_drew ?_|refine blk_alloc ?_ _));refine blk_far ?_ an.out _;(with_reducible repeat (first|refine blk_drewN ?_ _|refine blk_drew ?_|refine blk_alloc ?_ _));refine blk_far ?_ an.out _;(with_reducible repeat (first|refine blk_drewN ?_ _|refine blk_drew ?_|refine blk_alloc ?_ _));refine blk_far ?_ an.out _;(with_reducible repeat (first|refine blk_drewN ?_ _|refine blk_drew ?_|refine blk_alloc ?_ _));refine blk_far ?_ an.out _;(with_reducible repeat (first|refine blk_drewN ?_ _|refine blk_drew ?_|refine blk_alloc ?_ _));exact aj.out⟩;have bx:Aside0 (Below w.heap.size w ((((((((bk.setCell ⟨ag,0,none⟩ (.int .i64 ((rd_T43 l0_4 aa).f0))).setCell ⟨ag,1,none⟩ (.int .i64 ((rd_T43 l0_4 aa).f1))).setCell ⟨ag,2,none⟩ (.int .i64 ((rd_T43 l0_4 aa).f2))).setCell ⟨ag,3,none⟩ (.int .i64 ((rd_T43 l0_4 aa).f3))).setCell ⟨af,0,none⟩ (.int .i64 ((rd_T43 l1_4 ab).f0))).setCell ⟨af,1,none⟩ (.int .i64 ((rd_T43 l1_4 ab).f1))).setCell ⟨af,2,none⟩ (.int .i64 ((rd_T43 l1_4 ab).f2))).setCell ⟨af,3,none⟩ (.int .i64 ((rd_T43 l1_4 ab).f3)))):=⟨zS HB.out⟩;(try clear al);(try clear ae);(try clear ac);(try clear ad);(try clear ah);(try clear ai);(try clear ak);(try clear aj);(try clear HB);generalize ((((((((bk.setCell ⟨ag,0,none⟩ (.int .i64 ((rd_T43 l0_4 aa).f0))).setCell ⟨ag,1,none⟩ (.int .i64 ((rd_T43 l0_4 aa).f1))).setCell ⟨ag,2,none⟩ (.int .i64 ((rd_T43 l0_4 aa).f2))).setCell ⟨ag,3,none⟩ (.int .i64 ((rd_T43 l0_4 aa).f3))).setCell ⟨af,0,none⟩ (.int .i64 ((rd_T43 l1_4 ab).f0))).setCell ⟨af,1,none⟩ (.int .i64 ((rd_T43 l1_4 ab).f1))).setCell ⟨af,2,none⟩ (.int .i64 ((rd_T43 l1_4 ab).f2))).setCell ⟨af,3,none⟩ (.int .i64 ((rd_T43 l1_4 ab).f3)))=oE at bp bq br bs bt bu bv bw bx ⊢;refine k9_ bp bq br bs bt bu bv bw bx ?_;intro al ae ac ad ah ai ak aj HB;clear bp bq br bs bt bu bv bw bx;refine k9_ (Aside0.mk (Kd.R_drew al.out)) (Aside0.mk (Kd.R_drew ae.out)) (Aside0.mk (blk_drew ac.out)) (Aside0.mk (blk_drew ad.out)) (Aside0.mk (blk_drew ah.out)) (Aside0.mk (blk_drew ai.out)) (Aside0.mk (blk_drew ak.out)) (Aside0.mk (blk_drew aj.out)) (Aside0.mk (below_drew1 HB.out)) ?_;clear al ae ac ad ah ai ak aj HB;intro al ae ac ad ah ai ak aj HB;refine start_ (n:=13) (S:=fun w'=>w'.cell? ⟨af,0,none⟩=some (.int .i64 ((rd_T43 l1_4 ab).f0))∧w'.cell? ⟨af,1,none⟩=some (.int .i64 ((rd_T43 l1_4 ab).f1))∧w'.cell? ⟨af,2,none⟩=some (.int .i64 ((rd_T43 l1_4 ab).f2))∧w'.cell? ⟨af,3,none⟩=some (.int .i64 ((rd_T43 l1_4 ab).f3))) (ds:=[]) bl60 (by kernel_rfl) rfl rfl ⟨b1 aj 0,b1 aj 1,b1 aj 2,b1 aj 3⟩ (fun hHeld=>?_);refine with_tabW spec_GenMeet.tab21 spec_GenMeet.bits21 (fun HT_ HW_=>?_);generalize oE.drew=ti at al ae ac ad ah ai ak aj HB hHeld ⊢
                    refine pv_ 0 (some 129) bl61 HT_ ?_
                    refine pv_ 2 (some 131) bl62 HT_ ?_
                    refine pv_ 3 (some 132) bl63 HT_ ?_
                    refine pv_ 4 (some 133) bl64 HT_ ?_
                    refine tk_ 1 (some 130) bl65 HT_ HW_ hHeld ?_
                    refine pv_ 5 (some 134) bl66 HT_ ?_
                    refine pv_ 6 (some 135) bl67 HT_ ?_
                    refine pn_ 7 (some 136) bl68 HT_ ?_
                    refine pn_ 8 (some 137) bl106 HT_ ?_
                    refine pn_ 9 (some 138) bl70 HT_ ?_
                    refine pn_ 10 (some 139) bl71 HT_ ?_
                    refine pn_ 11 (some 140) bl72 HT_ ?_
                    refine pv_ 12 (some 141) bl73 HT_ ?_
                    refine done_ (done_of HT_.out (by kernel_rfl)) ?_
                    try go_wp2
                    go_roundg kj91
                    case measure=>have:=HJ2.out;have:=HK2.out;have:=HJ71.out;have:=HJ79.out;have:=HK5.out;have:=HK6.out;have:=HJ91.out;omega
                    case rel=>exact ⟨(wrap64 (ab+1)),(aG),(ay),vv,H',⟨by have:=HJ2.out;have:=HK2.out;have:=HJ71.out;have:=HJ79.out;have:=HK5.out;have:=HK6.out;have:=HJ91.out;omega⟩,⟨zR al.out⟩,⟨rM ae (fun _ hk=>trivial)⟩,⟨zB ac.out⟩,⟨zB ad.out⟩,⟨zB ah.out⟩,⟨zB ai.out⟩,⟨zS HB.out⟩⟩
                   rw[if_neg hN]at H;exact absurd H (by simp)
                  rw[if_neg hM]at H;exact absurd H (by simp)
                 rw[if_neg hL]at H;exact absurd H (by simp)
                rw[if_neg hJ]at H;exact absurd H (by simp)
               replace iE:=Bool.eq_false_iff.mpr iE;subst iE;have H1:(spec_GenMeet.l1 kj91 aw a1_1 ao (wrap64 (aa+1)) a0_0 a0_1 a0_2 a0_3 l0_4 a1_0 a1_1 a1_2 a1_3 l1_4 a0_0 aU az (wrap64 (a0_3+a1_3)) aG)=some (r1,r2,r3,r4,r5,r6):=by rw[if_neg (show ¬ (false=true) by decide)]at H;exact H
               clear H;have H:=H1;clear H1;have H':=Aside0.mk H;clear H;go_wp2;go_roundg kj91
               case measure=>have:=HJ2.out;have:=HK2.out;have:=HJ71.out;have:=HJ79.out;have:=HK5.out;have:=HK6.out;have:=HJ91.out;omega
               case rel=>exact ⟨(wrap64 (aa+1)),(aG),(ay),vv,H',⟨by have:=HJ2.out;have:=HK2.out;have:=HJ71.out;have:=HJ79.out;have:=HK5.out;have:=HK6.out;have:=HJ91.out;omega⟩,⟨zR al.out⟩,⟨zR ae.out⟩,⟨zB ac.out⟩,⟨zB ad.out⟩,⟨zB ah.out⟩,⟨zB ai.out⟩,⟨zS HB.out⟩⟩
           rw[if_neg hf]at H;have hH:decide (aa<(l0_4.length:Int))=false:=decide_eq_false hf;clear hf;have H':=Aside0.mk H;clear H;refine nnk bi (fun qH qI=>?_);refine nnk bj (fun qJ qK=>?_);refine nnk fU (fun qL qM=>?_);refine cz5k ac (fun oF oG oH oI oJ oK oL oM oN oO=>?_);go_wp2;go_roundg k5
           case measure=>have:=HJ2.out;have:=HK2.out;have:=HJ71.out;have:=HJ79.out;have:=HK5.out;omega
           case rel=>exact ⟨(wrap64 (ao+1)),(az),(dR),(ay),vv,H',⟨by have:=HJ2.out;have:=HK2.out;have:=HJ71.out;have:=HJ79.out;have:=HK5.out;omega⟩,⟨zR al.out⟩,⟨zR ae.out⟩,⟨zB ac.out⟩,⟨zB ad.out⟩,⟨zB ah.out⟩,⟨zB ai.out⟩,⟨zS HB.out⟩⟩
     rw[if_neg gZ]at H;exact absurd H (by simp)
    rw[if_neg gI]at H;have gP:decide (ao<(aw.length:Int))=false:=decide_eq_false gI;clear gI;by_cases gW:(aT.length:Int)>2000
    ·rw[if_pos gW]at H;have iW:decide (2000<(aT.length:Int))=true:=decide_eq_true gW;have iX:decide (2000<aT.length)=true:=decide_eq_true (by omega);clear gW;simp only[Option.some.injEq,Prod.mk.injEq]at H;obtain ⟨rfl,rfl,rfl,rfl,rfl,rfl⟩:=H;refine e2a1 (Kd.R_slice al.out) ?_;intro sS sT jf;subst jf;refine nnk dO (fun qN qO=>?_);refine nnk dP (fun qP qQ=>?_);refine nnk dQ (fun qR qS=>?_);refine cz5k ai (fun oP oQ oR oS oT oU oV oW oX oY=>?_);refine e2a1 (Kd.R_slice ae.out) ?_;intro sU sV jg;subst jg;refine nnk gd (fun qT qU=>?_);refine nnk ge (fun qV qW=>?_);refine cz5k ah (fun oZ pa pb pc pd pe pf pg ph pi=>?_);go_wp2;refine bodyPost_ret (results_ct rfl _ _ aZ 28 #[.int .i64 0,.int .i64 0,.int .i64 0,.int .i64 0,.slice none 0 0] (0,0) _ rfl (xP5 ah.out) Try.underlying28 rfl (by kernel_rfl)) rfl ?_;exact ⟨_,vw,by first|exact Kd.R_nil _ _ _ _ _|exact Kd.N_nil _ _ _ _ _|exact Kd.V_nil _ _ _ _ _|exact Kd.Q_nil _ _ _ _ _|exact Kd.S_nil _ _ _ _ _,zS HB.out⟩
    rw[if_neg gW]at H;have iW:decide (2000<(aT.length:Int))=false:=decide_eq_false gW;have iX:decide (2000<aT.length)=false:=decide_eq_false (by omega);clear gW;replace H:=bI H;obtain ⟨⟨io,ip,iq,ir,hU⟩,iH,H⟩:=H;replace H:(some (io,ip,iq,ir,hU,true))=some (r1,r2,r3,r4,r5,r6):=H;have pj:=Aside0.mk iH;clear iH;simp only[Option.some.injEq,Prod.mk.injEq]at H;obtain ⟨rfl,rfl,rfl,rfl,rfl,rfl⟩:=H;refine e2a1 (Kd.R_slice al.out) ?_;intro sW sX jh;subst jh;refine nnk dO (fun qX qY=>?_);refine nnk dP (fun qZ ra=>?_);refine nnk dQ (fun rb rc=>?_);refine cz5k ai (fun pk pl pm pn po pp pq pr ps pt=>?_);refine e2a1 (Kd.R_slice ae.out) ?_;intro ji jj jk;subst jk;go_wp2_with (first|((with_reducible refine gate_callee (f:=16) rfl ?_);refine gl_ (some 178) Try.func16 #[.agg #[.int .i64 a0_0,.int .i64 aU,.int .i64 aV,.int .i64 (wrap64 (a0_3+a1_3)),.slice ji aT.length jj]] ?_;(with_reducible refine (spec_l5Sort.calls k2 a0_0 aU aV (wrap64 (a0_3+a1_3)) _ _ aT io ip iq ir hU _ ?side1 ?side2 pj.out).mono ?_);(case side1=>exact sC ae);(case side2=>exact sL ae);rintro e tj ⟨tk,rfl,ho0,hb⟩;refine ⟨_,rfl,?_⟩;replace al:=xR al hb;have iI:=rW1 ho0 ae HB;replace ae:=xE ae ho0 hb;replace ac:=xB ac hb;replace ad:=xB ad hb;replace ah:=xB ah hb;replace ai:=xB ai hb;replace HB:=xS HB hb;(try clear hb);(try clear hb2);(try clear hk);(try clear hi);(try clear ho0);obtain ⟨re,rf⟩:=nn gd;obtain ⟨rg,rh⟩:=nn ge;obtain ⟨pv,pw,px,py,pz,pA,pB,pC,pD,pE⟩:=cz5 ah;obtain ⟨iJ,iK,jl⟩:=Kd.R_slice iI.out;subst jl));refine bodyPost_ret (results_ct rfl _ _ aZ 28 #[.int .i64 io,.int .i64 ip,.int .i64 iq,.int .i64 ir,.slice iJ hU.length iK] (0,0) _ rfl (xP5 ah.out) Try.underlying28 rfl (by kernel_rfl)) rfl ?_;exact ⟨_,vw,by (with_reducible repeat (first|apply Kd.R_alloc|apply Kd.R_drewN|apply Kd.R_drew));exact Kd.R_mono (Kd.R_far (p:=⟨aZ,4,none⟩) (yF4 iI ah) (fun _ hk=>hk.2) (.slice iJ hU.length iK)) (fun _ hk=>trivial),zS HB.out⟩
end Go.Proofs.Ytbfghpbmalpdbaa.MFnExactGenMeet
