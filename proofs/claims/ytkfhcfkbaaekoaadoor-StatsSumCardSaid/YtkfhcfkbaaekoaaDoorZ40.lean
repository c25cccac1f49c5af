/- StatsSum: for every input the law's function answers true, and its arguments read as before. No condition but the given: the package variables hold what the program lays. -/
import Derived.Test.YtkfhcfkbaaekoaaDoorO
import Derived.Test.YtkfhcfkbaaekoaaDoorP40b
namespace Go.Proofs.YtkfhcfkbaaekoaaDoor
theorem statsSum_holds : Rows.StatsSumCardSaid := statsSum_of fun a0 _ => law_sum a0
end Go.Proofs.YtkfhcfkbaaekoaaDoor
