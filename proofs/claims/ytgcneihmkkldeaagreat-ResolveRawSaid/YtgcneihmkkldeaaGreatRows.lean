/-
  No cell of these rows narrows 'for every input' (looked for: loops, veiled, ifaces, maps, wideKeys, modest, calm, conditions, laid).
  DERIVED. THE GIVEN ROWS OF THIS SEAT. 3 by the template 'for every input the law returns true; each argument reads behind the call as it read before'; 0 by the template 'total and deterministic' (their statements: YtgcneihmkkldeaaGreatTotals.lean).
  GIVEN WITH THE SEED: the statements are not yours to turn. If you find one false, say at which input.
  Laid BY PROGRAM, IN A SANDBOX (cutbox-rows.mjs): the forced cells as the released guide's own fill.sh prints them over the translation 2dad751458eede25… (all of the seat's roots in one cut). By AI agents, Wed Nov 11 2026. No macro, syntax, notation, axiom, sorry.
-/
import Derived.Test.YtgcneihmkkldeaaGreatChecked
import GoSem.Claim
import GoSem.ClaimJoined
import GoSem.ClaimMapViews
import Derived.JoinedTies
import Derived.KernelRfl
namespace Go.Proofs.YtgcneihmkkldeaaGreat
/- THE CELL 'sum', in the pinned program and in every row, IS THE sha256 OF THE DUMP (.gsa) THAT YtgcneihmkkldeaaGreatProg.lean LOADS. Nothing in Lean hashes anything: it is a label: what it is worth is what the hold of that sum in a sandbox is worth. -/
noncomputable def Tryz.pinned : Pinned := { name := "ytgcneihmkkldeaagreat", sum := "2dad751458eede253c1bd9190a0f9570d0e294ba50b9c0397ca5151cc38de23c", checked := Tryz.checked }
namespace Rows
def none {H : Type} : Left H := { results := [], args := [] }

/-- 'linkboylaw21.ResolveWhole': WHATEVER THE INPUT: true; the input reads as it did. -/
def resolveWholeSpec : ChangeSpec := { name := "resolveWhole", fn := fun _ => fun
  | [d1, d2, d3] => { results := [.lit (.bool true)], args := [d1, d2, d3] }
  | _ => none }
def resolveWholeRow : OpenClaim := { program := "ytgcneihmkkldeaagreat", sum := "2dad751458eede253c1bd9190a0f9570d0e294ba50b9c0397ca5151cc38de23c", func := "linkboy/linkboylaw21.ResolveWhole", spec := "resolveWhole", inPlace := ["internal/bytealg.Compare"], unfollowed := true, recurses := true, plainKeys := false, apart := false }
def ResolveWholeSaid : Prop := resolveWholeRow.holds Tryz.pinned (OpenSpec.ofChange resolveWholeSpec)

/-- ITS FALSE NEIGHBOUR: 'it returns false'. Refute it at one input. -/
def resolveWholeWrong : ChangeSpec := { name := "resolveWhole", fn := fun _ => fun
  | [d1, d2, d3] => { results := [.lit (.bool false)], args := [d1, d2, d3] }
  | _ => none }
def ResolveWholeWrongFalsely : Prop := resolveWholeRow.holds Tryz.pinned (OpenSpec.ofChange resolveWholeWrong)

/-- 'linkboylaw21.ResolveAll': WHATEVER THE INPUT: true; the input reads as it did. -/
def resolveAllSpec : ChangeSpec := { name := "resolveAll", fn := fun _ => fun
  | [d1, d2, d3] => { results := [.lit (.bool true)], args := [d1, d2, d3] }
  | _ => none }
def resolveAllRow : OpenClaim := { program := "ytgcneihmkkldeaagreat", sum := "2dad751458eede253c1bd9190a0f9570d0e294ba50b9c0397ca5151cc38de23c", func := "linkboy/linkboylaw21.ResolveAll", spec := "resolveAll", inPlace := ["internal/bytealg.Compare"], unfollowed := true, recurses := true, plainKeys := false, apart := false }
def ResolveAllSaid : Prop := resolveAllRow.holds Tryz.pinned (OpenSpec.ofChange resolveAllSpec)

/-- ITS FALSE NEIGHBOUR: 'it returns false'. Refute it at one input. -/
def resolveAllWrong : ChangeSpec := { name := "resolveAll", fn := fun _ => fun
  | [d1, d2, d3] => { results := [.lit (.bool false)], args := [d1, d2, d3] }
  | _ => none }
def ResolveAllWrongFalsely : Prop := resolveAllRow.holds Tryz.pinned (OpenSpec.ofChange resolveAllWrong)

/-- 'linkboylaw21.ResolveRaw': WHATEVER THE INPUT: true; the input reads as it did. -/
def resolveRawSpec : ChangeSpec := { name := "resolveRaw", fn := fun _ => fun
  | [d1, d2, d3] => { results := [.lit (.bool true)], args := [d1, d2, d3] }
  | _ => none }
def resolveRawRow : OpenClaim := { program := "ytgcneihmkkldeaagreat", sum := "2dad751458eede253c1bd9190a0f9570d0e294ba50b9c0397ca5151cc38de23c", func := "linkboy/linkboylaw21.ResolveRaw", spec := "resolveRaw", inPlace := ["internal/bytealg.Compare"], unfollowed := true, recurses := true, plainKeys := false, apart := false }
def ResolveRawSaid : Prop := resolveRawRow.holds Tryz.pinned (OpenSpec.ofChange resolveRawSpec)

/-- ITS FALSE NEIGHBOUR: 'it returns false'. Refute it at one input. -/
def resolveRawWrong : ChangeSpec := { name := "resolveRaw", fn := fun _ => fun
  | [d1, d2, d3] => { results := [.lit (.bool false)], args := [d1, d2, d3] }
  | _ => none }
def ResolveRawWrongFalsely : Prop := resolveRawRow.holds Tryz.pinned (OpenSpec.ofChange resolveRawWrong)

/- THE SECOND FORM. 'bulk': how many values and letters a reading holds, each counted each time it is reached (what is shared counts as often as it is met; a slice's spare places count too). A statement '..UptoSaid' is the law's where the arguments, and the package variables that the reading takes, are together of bulk at most 1048576: NARROWER than '..Said'. Prove '..Said' where nothing that the law and all that it calls make is longer than what came in: it says more and counts as full. Else prove '..UptoSaid'. A law counts once. -/
mutual
def uptoBulk {H : Type} : DataW H → Nat
  | .lit (.string bytes) => bytes.length + 1
  | .lit _ => 1
  | .nil => 1
  | .ptr d => uptoBulk d + 1
  | .slice elems spare => uptoBulkAll elems + uptoBulkAll spare + 1
  | .agg parts => uptoBulkAll parts + 1
  | .iface _ d => uptoBulk d + 1
  | .map entries => uptoBulkEntries entries + 1
  | .held _ => 1
def uptoBulkAll {H : Type} : List (DataW H) → Nat
  | [] => 0
  | d :: r => uptoBulk d + uptoBulkAll r
def uptoBulkEntries {H : Type} : List (Lit × DataW H) → Nat
  | [] => 0
  | x :: r => uptoBulkEntry x + uptoBulkEntries r
def uptoBulkEntry {H : Type} : Lit × DataW H → Nat
  | (.string bytes, d) => bytes.length + uptoBulk d + 1
  | (_, d) => uptoBulk d + 1
 end
def uptoSmall : (H : Type) → List (DataW H) → Bool := fun _ ds => decide (uptoBulkAll ds ≤ 1048576)
def OpenSpec.upto (s : _root_.Go.ChangeSpec) : _root_.Go.OpenSpec := { _root_.Go.OpenSpec.ofChange s with cond := some uptoSmall }

/-- 'linkboylaw21.ResolveWhole', WHERE WHAT IT READS IS OF BULK AT MOST 1048576: true; the input reads as it did. -/
def resolveWholeUptoRow : OpenClaim := { program := "ytgcneihmkkldeaagreat", sum := "2dad751458eede253c1bd9190a0f9570d0e294ba50b9c0397ca5151cc38de23c", func := "linkboy/linkboylaw21.ResolveWhole", spec := "resolveWhole", inPlace := ["internal/bytealg.Compare"], unfollowed := true, recurses := true, plainKeys := false, apart := false, narrowed := true }
def ResolveWholeUptoSaid : Prop := resolveWholeUptoRow.holds Tryz.pinned (OpenSpec.upto resolveWholeSpec)

/-- 'linkboylaw21.ResolveAll', WHERE WHAT IT READS IS OF BULK AT MOST 1048576: true; the input reads as it did. -/
def resolveAllUptoRow : OpenClaim := { program := "ytgcneihmkkldeaagreat", sum := "2dad751458eede253c1bd9190a0f9570d0e294ba50b9c0397ca5151cc38de23c", func := "linkboy/linkboylaw21.ResolveAll", spec := "resolveAll", inPlace := ["internal/bytealg.Compare"], unfollowed := true, recurses := true, plainKeys := false, apart := false, narrowed := true }
def ResolveAllUptoSaid : Prop := resolveAllUptoRow.holds Tryz.pinned (OpenSpec.upto resolveAllSpec)

/-- 'linkboylaw21.ResolveRaw', WHERE WHAT IT READS IS OF BULK AT MOST 1048576: true; the input reads as it did. -/
def resolveRawUptoRow : OpenClaim := { program := "ytgcneihmkkldeaagreat", sum := "2dad751458eede253c1bd9190a0f9570d0e294ba50b9c0397ca5151cc38de23c", func := "linkboy/linkboylaw21.ResolveRaw", spec := "resolveRaw", inPlace := ["internal/bytealg.Compare"], unfollowed := true, recurses := true, plainKeys := false, apart := false, narrowed := true }
def ResolveRawUptoSaid : Prop := resolveRawUptoRow.holds Tryz.pinned (OpenSpec.upto resolveRawSpec)

end Rows
end Go.Proofs.YtgcneihmkkldeaaGreat
