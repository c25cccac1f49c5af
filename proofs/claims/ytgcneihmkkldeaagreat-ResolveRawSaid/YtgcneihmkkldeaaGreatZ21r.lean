/- ResolveRaw: for every input the law's function answers true, and its arguments read as before. No condition. -/
import Derived.Test.YtgcneihmkkldeaaGreatO
import Derived.Test.YtgcneihmkkldeaaGreatP21r
namespace Go.Proofs.YtgcneihmkkldeaaGreat
theorem resolveRaw_holds : Rows.ResolveRawSaid := resolveRaw_of fun a0 a1 a2 _ _ _ => law_raw a0 a1 a2
end Go.Proofs.YtgcneihmkkldeaaGreat
