/- PickRight: for every input the law's function answers true, and its arguments read as before. No condition. -/
import Derived.Test.YteoaobiglodblaaO
import Derived.Test.YteoaobiglodblaaP19b
namespace Go.Proofs.Yteoaobiglodblaa
theorem pickRight_holds : Rows.PickRightSaid := pickRight_of fun a0 a1 _ _ => law4 a0 a1
end Go.Proofs.Yteoaobiglodblaa
