/-
  No cell of these rows narrows 'for every input' (looked for: loops, veiled, ifaces, maps, wideKeys, modest, calm, conditions, laid).
  DERIVED. THE GIVEN ROWS OF THIS SEAT. 3 by the template 'for every input the law returns true; each argument reads behind the call as it read before'; 0 by the template 'total and deterministic' (their statements: YteoaobiglodblaaTotals.lean).
  GIVEN WITH THE SEED: the statements are not yours to turn. If you find one false, say at which input.
  Laid BY PROGRAM, IN A SANDBOX (cutbox-rows.mjs): the forced cells as the released guide's own fill.sh prints them over the translation 9432ad2442748dde… (all of the seat's roots in one cut). By AI agents, Wed Nov 11 2026. No macro, syntax, notation, axiom, sorry.
-/
import Derived.Test.YteoaobiglodblaaChecked
import GoSem.Claim
import GoSem.ClaimJoined
import GoSem.ClaimMapViews
import Derived.JoinedTies
import Derived.KernelRfl
namespace Go.Proofs.Yteoaobiglodblaa
/- THE CELL 'sum', in the pinned program and in every row, IS THE sha256 OF THE DUMP (.gsa) THAT YteoaobiglodblaaProg.lean LOADS. Nothing in Lean hashes anything: it is a label: what it is worth is what the hold of that sum in a sandbox is worth. -/
noncomputable def Try.pinned : Pinned := { name := "yteoaobiglodblaa", sum := "9432ad2442748ddeb2f7b06d40e04ff9aa45d30fc8c41d6adcc52d83f6bdd66b", checked := Try.checked }
namespace Rows
def none {H : Type} : Left H := { results := [], args := [] }

/-- 'linkboylaw19.PickChooses': WHATEVER THE INPUT: true; the input reads as it did. -/
def pickChoosesSpec : ChangeSpec := { name := "pickChooses", fn := fun _ => fun
  | [d1, d2] => { results := [.lit (.bool true)], args := [d1, d2] }
  | _ => none }
def pickChoosesRow : OpenClaim := { program := "yteoaobiglodblaa", sum := "9432ad2442748ddeb2f7b06d40e04ff9aa45d30fc8c41d6adcc52d83f6bdd66b", func := "linkboy/linkboylaw19.PickChooses", spec := "pickChooses", unfollowed := true, recurses := true, plainKeys := false, apart := false }
def PickChoosesSaid : Prop := pickChoosesRow.holds Try.pinned (OpenSpec.ofChange pickChoosesSpec)

/-- ITS FALSE NEIGHBOUR: 'it returns false'. Refute it at one input. -/
def pickChoosesWrong : ChangeSpec := { name := "pickChooses", fn := fun _ => fun
  | [d1, d2] => { results := [.lit (.bool false)], args := [d1, d2] }
  | _ => none }
def PickChoosesWrongFalsely : Prop := pickChoosesRow.holds Try.pinned (OpenSpec.ofChange pickChoosesWrong)

/-- 'linkboylaw19.PickRight': WHATEVER THE INPUT: true; the input reads as it did. -/
def pickRightSpec : ChangeSpec := { name := "pickRight", fn := fun _ => fun
  | [d1, d2] => { results := [.lit (.bool true)], args := [d1, d2] }
  | _ => none }
def pickRightRow : OpenClaim := { program := "yteoaobiglodblaa", sum := "9432ad2442748ddeb2f7b06d40e04ff9aa45d30fc8c41d6adcc52d83f6bdd66b", func := "linkboy/linkboylaw19.PickRight", spec := "pickRight", unfollowed := true, recurses := true, plainKeys := false, apart := false }
def PickRightSaid : Prop := pickRightRow.holds Try.pinned (OpenSpec.ofChange pickRightSpec)

/-- ITS FALSE NEIGHBOUR: 'it returns false'. Refute it at one input. -/
def pickRightWrong : ChangeSpec := { name := "pickRight", fn := fun _ => fun
  | [d1, d2] => { results := [.lit (.bool false)], args := [d1, d2] }
  | _ => none }
def PickRightWrongFalsely : Prop := pickRightRow.holds Try.pinned (OpenSpec.ofChange pickRightWrong)

/-- 'linkboylaw19.PickPoints': WHATEVER THE INPUT: true; the input reads as it did. -/
def pickPointsSpec : ChangeSpec := { name := "pickPoints", fn := fun _ => fun
  | [d1, d2] => { results := [.lit (.bool true)], args := [d1, d2] }
  | _ => none }
def pickPointsRow : OpenClaim := { program := "yteoaobiglodblaa", sum := "9432ad2442748ddeb2f7b06d40e04ff9aa45d30fc8c41d6adcc52d83f6bdd66b", func := "linkboy/linkboylaw19.PickPoints", spec := "pickPoints", inPlace := ["internal/bytealg.Compare"], unfollowed := true, recurses := true, plainKeys := false, apart := false }
def PickPointsSaid : Prop := pickPointsRow.holds Try.pinned (OpenSpec.ofChange pickPointsSpec)

/-- ITS FALSE NEIGHBOUR: 'it returns false'. Refute it at one input. -/
def pickPointsWrong : ChangeSpec := { name := "pickPoints", fn := fun _ => fun
  | [d1, d2] => { results := [.lit (.bool false)], args := [d1, d2] }
  | _ => none }
def PickPointsWrongFalsely : Prop := pickPointsRow.holds Try.pinned (OpenSpec.ofChange pickPointsWrong)

/- THE SECOND FORM. 'bulk': how many values and letters a reading holds, each counted each time it is reached (what is shared counts as often as it is met; a slice's spare places count too). A statement '..UptoSaid' is the law's where the arguments, and the package variables that the reading takes, are together of bulk at most 1048576: NARROWER than '..Said'. Prove '..Said' where nothing that the law and all that it calls make is longer than what came in: it says more and counts as full. Else prove '..UptoSaid'. A law counts once. -/
mutual
def uptoBulk {H : Type} : DataW H → Nat
  | .lit (.string bytes) => bytes.length + 1
  | .lit _ => 1
  | .nil => 1
  | .ptr d => uptoBulk d + 1
  | .slice elems spare => uptoBulkAll elems + uptoBulkAll spare + 1
  | .agg parts => uptoBulkAll parts + 1
  | .iface _ d => uptoBulk d + 1
  | .map entries => uptoBulkEntries entries + 1
  | .held _ => 1
def uptoBulkAll {H : Type} : List (DataW H) → Nat
  | [] => 0
  | d :: r => uptoBulk d + uptoBulkAll r
def uptoBulkEntries {H : Type} : List (Lit × DataW H) → Nat
  | [] => 0
  | x :: r => uptoBulkEntry x + uptoBulkEntries r
def uptoBulkEntry {H : Type} : Lit × DataW H → Nat
  | (.string bytes, d) => bytes.length + uptoBulk d + 1
  | (_, d) => uptoBulk d + 1
 end
def uptoSmall : (H : Type) → List (DataW H) → Bool := fun _ ds => decide (uptoBulkAll ds ≤ 1048576)
def OpenSpec.upto (s : _root_.Go.ChangeSpec) : _root_.Go.OpenSpec := { _root_.Go.OpenSpec.ofChange s with cond := some uptoSmall }

/-- 'linkboylaw19.PickChooses', WHERE WHAT IT READS IS OF BULK AT MOST 1048576: true; the input reads as it did. -/
def pickChoosesUptoRow : OpenClaim := { program := "yteoaobiglodblaa", sum := "9432ad2442748ddeb2f7b06d40e04ff9aa45d30fc8c41d6adcc52d83f6bdd66b", func := "linkboy/linkboylaw19.PickChooses", spec := "pickChooses", unfollowed := true, recurses := true, plainKeys := false, apart := false, narrowed := true }
def PickChoosesUptoSaid : Prop := pickChoosesUptoRow.holds Try.pinned (OpenSpec.upto pickChoosesSpec)

/-- 'linkboylaw19.PickRight', WHERE WHAT IT READS IS OF BULK AT MOST 1048576: true; the input reads as it did. -/
def pickRightUptoRow : OpenClaim := { program := "yteoaobiglodblaa", sum := "9432ad2442748ddeb2f7b06d40e04ff9aa45d30fc8c41d6adcc52d83f6bdd66b", func := "linkboy/linkboylaw19.PickRight", spec := "pickRight", unfollowed := true, recurses := true, plainKeys := false, apart := false, narrowed := true }
def PickRightUptoSaid : Prop := pickRightUptoRow.holds Try.pinned (OpenSpec.upto pickRightSpec)

/-- 'linkboylaw19.PickPoints', WHERE WHAT IT READS IS OF BULK AT MOST 1048576: true; the input reads as it did. -/
def pickPointsUptoRow : OpenClaim := { program := "yteoaobiglodblaa", sum := "9432ad2442748ddeb2f7b06d40e04ff9aa45d30fc8c41d6adcc52d83f6bdd66b", func := "linkboy/linkboylaw19.PickPoints", spec := "pickPoints", inPlace := ["internal/bytealg.Compare"], unfollowed := true, recurses := true, plainKeys := false, apart := false, narrowed := true }
def PickPointsUptoSaid : Prop := pickPointsUptoRow.holds Try.pinned (OpenSpec.upto pickPointsSpec)

end Rows
end Go.Proofs.Yteoaobiglodblaa
