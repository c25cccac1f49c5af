/- IndexPlays: for every input the law's function answers true, and its arguments read as before. No condition. -/
import Derived.Test.YtkopifmkikaaiaaO
import Derived.Test.YtkopifmkikaaiaaP16b
namespace Go.Proofs.Ytkopifmkikaaiaa
theorem indexPlays_holds : Rows.IndexPlaysSaid := indexPlays_of fun a0 _ => law_plays a0
end Go.Proofs.Ytkopifmkikaaiaa
