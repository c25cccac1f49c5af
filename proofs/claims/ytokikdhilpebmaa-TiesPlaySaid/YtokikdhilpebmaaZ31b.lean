/- TiesPlay: for every input the law's function answers true, and its arguments read as before. No condition. -/
import Derived.Test.YtokikdhilpebmaaO
import Derived.Test.YtokikdhilpebmaaP31b
namespace Go.Proofs.Ytokikdhilpebmaa
theorem tiesPlay_holds : Rows.TiesPlaySaid := tiesPlay_of fun a0 h0 => law_play a0 h0
end Go.Proofs.Ytokikdhilpebmaa
