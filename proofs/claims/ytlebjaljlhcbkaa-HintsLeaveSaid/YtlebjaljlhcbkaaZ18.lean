/- HintsLeave: for every input the law's function answers true, and its arguments read as before. No condition. -/
import Derived.Test.YtlebjaljlhcbkaaO
import Derived.Test.YtlebjaljlhcbkaaP18
namespace Go.Proofs.Ytlebjaljlhcbkaa
theorem hintsLeave_holds : Rows.HintsLeaveSaid := hintsLeave_of fun a0 a1 _ _ => law_leave a0 a1
end Go.Proofs.Ytlebjaljlhcbkaa
