/- What the printed functions of FnExactConstants come to, one lemma a function, and from these the law: for all arguments (within the bounds that the printed statement names) it answers true. -/
import Derived.Test.YtldgkahbpmopiaaPFnExactConstantsx1
import Derived.Test.YtldgkahbpmopiaaBase
namespace Go.Proofs.Ytldgkahbpmopiaa.Pure
open Go.RowKit Go.Proofs.Ytldgkahbpmopiaa.PFnExactConstants Go.Proofs.YtldgkahbpmopiaaW.PrintWords Go.Proofs.YtldgkahbpmopiaaW.PrintLast Go.Proofs.Ytldgkahbpmopiaa.Base

namespace hFnExactConstants
end hFnExactConstants
open hFnExactConstants
theorem FnExactConstants : laws_FnExactConstants.Pure := rfl
end Go.Proofs.Ytldgkahbpmopiaa.Pure
