/- HintsFilter: for every input the law's function answers true, and its arguments read as before. No condition. -/
import Derived.Test.YtlebjaljlhcbkaaO
import Derived.Test.YtlebjaljlhcbkaaP18b
namespace Go.Proofs.Ytlebjaljlhcbkaa
theorem hintsFilter_holds : Rows.HintsFilterSaid := hintsFilter_of fun a0 a1 _ _ => law_filter a0 a1
end Go.Proofs.Ytlebjaljlhcbkaa
