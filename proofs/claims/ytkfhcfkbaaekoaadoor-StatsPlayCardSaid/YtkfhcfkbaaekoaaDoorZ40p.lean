import Derived.Test.YtkfhcfkbaaekoaaDoorP40h
import Derived.Test.YtkfhcfkbaaekoaaDoorO
namespace Go.Proofs.YtkfhcfkbaaekoaaDoor
open Go K
theorem statsPlay_holds : Rows.StatsPlayCardSaid := statsPlay_of fun a0 _ => law_play a0
end Go.Proofs.YtkfhcfkbaaekoaaDoor
