/- PickPoints: for every input the law's function answers true, and its arguments read as before. No condition. -/
import Derived.Test.YteoaobiglodblaaO
import Derived.Test.YteoaobiglodblaaP19c
namespace Go.Proofs.Yteoaobiglodblaa
theorem pickPoints_holds : Rows.PickPointsSaid := pickPoints_of fun a0 a1 h0 _ => law5 a0 a1 h0
end Go.Proofs.Yteoaobiglodblaa
