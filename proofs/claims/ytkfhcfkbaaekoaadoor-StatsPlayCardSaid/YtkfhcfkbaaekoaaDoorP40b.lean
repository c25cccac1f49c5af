/- The plain law of StatsSum, its last part. No Go and no memory. -/
import Derived.Test.YtkfhcfkbaaekoaaDoorP40
namespace Go.Proofs.YtkfhcfkbaaekoaaDoor
open Go K
set_option linter.unusedVariables false
theorem sym_same : ∀ f : Nat, F51_Service_at f = symS_at f
  | 0 => rfl
  | f + 1 => by
    funext s a m b cf
    show F51_Service_body (F51_Service_at f) s a m b cf = symS_body (symS_at f) s a m b cf
    rw [sym_same f]; rfl
theorem symF_same : F51_Service = symS := by
  funext s a m b cf
  show F51_Service_at 64 s a m b cf = symS_at 64 s a m b cf
  rw [sym_same]
theorem stab1_same : F41_Service_b1 = stabS_b1 := rfl
theorem stab3_same : F41_Service_b3 = stabS_b3 := by
  funext n cf k s
  unfold F41_Service_b3 stabS_b3
  rw [symF_same]
theorem stab2_same : F41_Service_b2 = stabS_b2 := by
  funext n cf s
  unfold F41_Service_b2 stabS_b2
  rw [symF_same, stab3_same]
theorem stab_same : F41_Service = stabS := by
  funext s n cf
  unfold F41_Service stabS
  rw [stab2_same, stab1_same]
  have : F50_Service = insS := rfl
  rw [this]
theorem sortSt_same : F31_Service = sortSt := by
  funext s cf
  unfold F31_Service sortSt
  rw [stab_same]
theorem alive40 : F5_alive = some true := by decide +kernel
theorem long_len {a0 : List Act} (h : F6_Long a0 = false) : a0.length ≤ 60 := by
  unfold F6_Long at h
  by_cases hl : decide (((a0.length : Nat) : Int) > 60) = true
  · rw [if_pos hl] at h; cases h
  · rw [decide_eq_true_iff] at hl; omega
end Go.Proofs.YtkfhcfkbaaekoaaDoor
