/- ResolveWhole: for every input the law's function answers true, and its arguments read as before. No condition. -/
import Derived.Test.YtgcneihmkkldeaaGreatO
import Derived.Test.YtgcneihmkkldeaaGreatP21
namespace Go.Proofs.YtgcneihmkkldeaaGreat
theorem resolveWhole_holds : Rows.ResolveWholeSaid := resolveWhole_of fun a0 a1 a2 h0 h1 h2 => law_whole a0 a1 a2 h0 h1 h2
end Go.Proofs.YtgcneihmkkldeaaGreat
