/- PickChooses: for every input the law's function answers true, and its arguments read as before. No condition. -/
import Derived.Test.YteoaobiglodblaaO
import Derived.Test.YteoaobiglodblaaP19
namespace Go.Proofs.Yteoaobiglodblaa
theorem pickChooses_holds : Rows.PickChoosesSaid := pickChooses_of fun a0 a1 _ _ => law3 a0 a1
end Go.Proofs.Yteoaobiglodblaa
