/- TiesFresh: for every input the law's function answers true, and its arguments read as before. No condition. -/
import Derived.Test.YtokikdhilpebmaaO
import Derived.Test.YtokikdhilpebmaaP31
namespace Go.Proofs.Ytokikdhilpebmaa
theorem tiesFresh_holds : Rows.TiesFreshSaid := tiesFresh_of fun a0 a1 a2 h0 h1 h2 => law_fresh a0 a1 a2 h0 h1 h2
end Go.Proofs.Ytokikdhilpebmaa
