/- What the bound of the second form of a statement says of a slice's length. -/
import Derived.Test.YtkopifmkikaaiaaK11
import Derived.Test.YtkopifmkikaaiaaRows
namespace Go.Proofs.Ytkopifmkikaaiaa.K
open Go
set_option linter.unusedVariables false

theorem bulk_one {H : Type} (d : DataW H) : 1 ≤ Rows.uptoBulk d := by
  cases d with
  | lit l => cases l <;> simp [Rows.uptoBulk]
  | nil => simp [Rows.uptoBulk]
  | ptr d => simp [Rows.uptoBulk]
  | slice elems spare => simp [Rows.uptoBulk]
  | agg parts => simp [Rows.uptoBulk]
  | iface t d => simp [Rows.uptoBulk]
  | map entries => simp [Rows.uptoBulk]
  | held h => simp [Rows.uptoBulk]
theorem bulk_len {H : Type} : ∀ l : List (DataW H), l.length ≤ Rows.uptoBulkAll l
  | [] => Nat.zero_le _
  | x :: r => by
    have := bulk_one x
    have := bulk_len r
    simp only [Rows.uptoBulkAll, List.length_cons]; omega
theorem bulk_mem {H : Type} {d : DataW H} : ∀ {l : List (DataW H)}, d ∈ l → Rows.uptoBulk d ≤ Rows.uptoBulkAll l
  | x :: r, h => by
    simp only [Rows.uptoBulkAll]
    rcases List.mem_cons.1 h with rfl | h
    · omega
    · have := bulk_mem h; omega
theorem bulk_all {H : Type} {l : List (DataW H)} (hk : Rows.uptoSmall H l = true) : Rows.uptoBulkAll l ≤ 1048576 := of_decide_eq_true hk
theorem bulk_sl {P : Program} {t e : TypeId} {H : Type} {enc : TypeId × Value → H} {w : World} {spare : Nat → Bool} {held : Bool} {fuel : Nat} {x : DataW H × List MemPlace} {α : Type} {k : Kd α} {F : Nat → Prop} {xs : List α} {v : Value} {l : List (DataW H)}
    (ht : P.underlying t = some (.slice e)) (h : DataW.trod enc P w 0 spare held fuel t [v] = some x) (hs : slRep k F w xs v) (hm : x.1 ∈ l) (hk : Rows.uptoSmall H l = true) : xs.length ≤ 1048576 := by
  obtain ⟨a, c, rfl⟩ := hs.shape
  rcases DataW.trod_slice ht h with ⟨e1, _⟩ | ⟨a, len, cap, elems, rest, n, _, e1, rfl, _, _, _, hl, _, _⟩
  · simp only [List.cons.injEq, Value.slice.injEq, and_true] at e1
    omega
  · simp only [List.cons.injEq, Value.slice.injEq, and_true] at e1
    have h1 := bulk_mem hm
    have h2 := bulk_all hk
    have h3 := bulk_len (elems.map (·.1))
    simp only [Rows.uptoBulk, List.length_map] at h1 h3
    omega
end Go.Proofs.Ytkopifmkikaaiaa.K
