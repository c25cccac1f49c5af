/- IndexWhole: for every input of the second form's size the law's function answers true, and its arguments read as before. No other condition. -/
import Derived.Test.YtkopifmkikaaiaaO
import Derived.Test.YtkopifmkikaaiaaP16c
namespace Go.Proofs.Ytkopifmkikaaiaa
theorem indexWhole_holds : Rows.IndexWholeUptoSaid := indexWhole_of fun a0 a1 _ _ hb => law_whole a0 a1 hb
end Go.Proofs.Ytkopifmkikaaiaa
