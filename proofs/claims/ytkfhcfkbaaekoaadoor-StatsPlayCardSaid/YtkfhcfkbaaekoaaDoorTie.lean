/-
  DERIVED. GIVEN WITH THE SEED: THE PROGRAM's TIES (one call each: nine closed facts by the kernel) AND EACH ROW's TIE, after the 31st guide's Derived/Test/Toyas{Tie, Card}.lean. No idea stands in it: it is a product of the set-up. Laid BY PROGRAM, IN A SANDBOX (cutbox-door.mjs). By AI agents, Wed Nov 11 2026. No macro, syntax, notation, axiom, sorry.
-/
import Derived.Test.YtkfhcfkbaaekoaaDoorRows
import Derived.LaidByTextLater
import Derived.SevenTiedAt
import Derived.LaidSub
import Derived.LaidOnce
namespace Go.Proofs.YtkfhcfkbaaekoaaDoor
open Go
set_option maxRecDepth 100000
theorem seatTie1 : Tryd.prog.laidByTextLater [("linkboy/api.ErrRange", Rows.laid_linkboy_api_ErrRange), ("linkboy/api.ErrShort", Rows.laid_linkboy_api_ErrShort), ("linkboy/api.ErrLong", Rows.laid_linkboy_api_ErrLong), ("linkboy/api.ErrForm", Rows.laid_linkboy_api_ErrForm), ("linkboy/api.ErrSum", Rows.laid_linkboy_api_ErrSum), ("linkboy/api.ErrName", Rows.laid_linkboy_api_ErrName), ("linkboy/api.ErrKind", Rows.laid_linkboy_api_ErrKind), ("linkboy/api.ErrAddress", Rows.laid_linkboy_api_ErrAddress), ("linkboy/api.ErrVersion", Rows.laid_linkboy_api_ErrVersion), ("linkboy/api.ErrStale", Rows.laid_linkboy_api_ErrStale), ("linkboy/api.ErrNone", Rows.laid_linkboy_api_ErrNone), ("linkboy/api.ErrDup", Rows.laid_linkboy_api_ErrDup), ("linkboy/api.ErrFull", Rows.laid_linkboy_api_ErrFull), ("linkboy/api.ErrFail", Rows.laid_linkboy_api_ErrFail), ("linkboy/api.ErrState", Rows.laid_linkboy_api_ErrState), ("linkboy/api.ErrDown", Rows.laid_linkboy_api_ErrDown), ("linkboy/api.ErrProto", Rows.laid_linkboy_api_ErrProto), ("linkboy/api.ErrIndex", Rows.laid_linkboy_api_ErrIndex)] [.sentinel, .sentinel, .sentinel, .sentinel, .sentinel, .sentinel, .sentinel, .sentinel, .sentinel, .sentinel, .sentinel, .sentinel, .sentinel, .sentinel, .sentinel, .sentinel, .sentinel, .sentinel] true :=
  Program.laidByTextLater_by_one 351 8 2 (by kernel_rfl) (by kernel_rfl) (by kernel_rfl) (by kernel_rfl) (by kernel_rfl) (by kernel_rfl) (fun _ _ => by kernel_rfl)
theorem noOwnUnsafe : Tryd.pinned.checked.prog.headLifts.contains "ownunsafe" = false := by kernel_rfl
theorem tie : Tryd.prog.laidByTextLater [("linkboy/api.ErrRange", Rows.laid_linkboy_api_ErrRange), ("linkboy/api.ErrStale", Rows.laid_linkboy_api_ErrStale), ("linkboy/api.ErrFull", Rows.laid_linkboy_api_ErrFull)] [.sentinel, .sentinel, .sentinel] true :=
  Program.laidByTextLater.sub seatTie1 ["linkboy/api.ErrRange", "linkboy/api.ErrStale", "linkboy/api.ErrFull"] (by kernel_rfl) (by kernel_rfl)
theorem statsSum_row_tie : Rows.statsSumRow.laidByTextAt .later Tryd.pinned [.sentinel, .sentinel, .sentinel] true :=
  OpenClaim.laidByTextAt_later rfl rfl tie noOwnUnsafe
theorem tie2 : Tryd.prog.laidByTextLater [("linkboy/api.ErrRange", Rows.laid_linkboy_api_ErrRange), ("linkboy/api.ErrShort", Rows.laid_linkboy_api_ErrShort), ("linkboy/api.ErrLong", Rows.laid_linkboy_api_ErrLong), ("linkboy/api.ErrForm", Rows.laid_linkboy_api_ErrForm), ("linkboy/api.ErrSum", Rows.laid_linkboy_api_ErrSum), ("linkboy/api.ErrName", Rows.laid_linkboy_api_ErrName), ("linkboy/api.ErrKind", Rows.laid_linkboy_api_ErrKind), ("linkboy/api.ErrAddress", Rows.laid_linkboy_api_ErrAddress), ("linkboy/api.ErrVersion", Rows.laid_linkboy_api_ErrVersion), ("linkboy/api.ErrStale", Rows.laid_linkboy_api_ErrStale), ("linkboy/api.ErrNone", Rows.laid_linkboy_api_ErrNone), ("linkboy/api.ErrDup", Rows.laid_linkboy_api_ErrDup), ("linkboy/api.ErrFull", Rows.laid_linkboy_api_ErrFull), ("linkboy/api.ErrFail", Rows.laid_linkboy_api_ErrFail), ("linkboy/api.ErrState", Rows.laid_linkboy_api_ErrState), ("linkboy/api.ErrDown", Rows.laid_linkboy_api_ErrDown), ("linkboy/api.ErrProto", Rows.laid_linkboy_api_ErrProto), ("linkboy/api.ErrIndex", Rows.laid_linkboy_api_ErrIndex)] [.sentinel, .sentinel, .sentinel, .sentinel, .sentinel, .sentinel, .sentinel, .sentinel, .sentinel, .sentinel, .sentinel, .sentinel, .sentinel, .sentinel, .sentinel, .sentinel, .sentinel, .sentinel] true :=
  Program.laidByTextLater.sub seatTie1 ["linkboy/api.ErrRange", "linkboy/api.ErrShort", "linkboy/api.ErrLong", "linkboy/api.ErrForm", "linkboy/api.ErrSum", "linkboy/api.ErrName", "linkboy/api.ErrKind", "linkboy/api.ErrAddress", "linkboy/api.ErrVersion", "linkboy/api.ErrStale", "linkboy/api.ErrNone", "linkboy/api.ErrDup", "linkboy/api.ErrFull", "linkboy/api.ErrFail", "linkboy/api.ErrState", "linkboy/api.ErrDown", "linkboy/api.ErrProto", "linkboy/api.ErrIndex"] (by kernel_rfl) (by kernel_rfl)
theorem statsPlay_row_tie : Rows.statsPlayRow.laidByTextAt .later Tryd.pinned [.sentinel, .sentinel, .sentinel, .sentinel, .sentinel, .sentinel, .sentinel, .sentinel, .sentinel, .sentinel, .sentinel, .sentinel, .sentinel, .sentinel, .sentinel, .sentinel, .sentinel, .sentinel] true :=
  OpenClaim.laidByTextAt_later rfl rfl tie2 noOwnUnsafe
theorem statsSumUpto_row_tie : Rows.statsSumUptoRow.laidByTextAt .later Tryd.pinned [.sentinel, .sentinel, .sentinel] true :=
  OpenClaim.laidByTextAt_later rfl rfl tie noOwnUnsafe
theorem statsPlayUpto_row_tie : Rows.statsPlayUptoRow.laidByTextAt .later Tryd.pinned [.sentinel, .sentinel, .sentinel, .sentinel, .sentinel, .sentinel, .sentinel, .sentinel, .sentinel, .sentinel, .sentinel, .sentinel, .sentinel, .sentinel, .sentinel, .sentinel, .sentinel, .sentinel] true :=
  OpenClaim.laidByTextAt_later rfl rfl tie2 noOwnUnsafe
end Go.Proofs.YtkfhcfkbaaekoaaDoor
