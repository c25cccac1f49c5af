/- The plain law of StatsSum, its last part. No Go and no memory. -/
import Derived.Test.YtkfhcfkbaaekoaaDoorP40
namespace Go.Proofs.YtkfhcfkbaaekoaaDoor
open Go K
set_option linter.unusedVariables false

/-! ### the library's stable sort is the kit's -/
theorem sym_same : ∀ f : Nat, F51_Service_at f = symS_at f
  | 0 => rfl
  | f + 1 => by
    funext s a m b cf
    show F51_Service_body (F51_Service_at f) s a m b cf = symS_body (symS_at f) s a m b cf
    rw [sym_same f]; rfl
theorem symF_same : F51_Service = symS := by
  funext s a m b cf
  show F51_Service_at 64 s a m b cf = symS_at 64 s a m b cf
  rw [sym_same]
theorem stab1_same : F41_Service_b1 = stabS_b1 := rfl
theorem stab3_same : F41_Service_b3 = stabS_b3 := by
  funext n cf k s
  unfold F41_Service_b3 stabS_b3
  rw [symF_same]
theorem stab2_same : F41_Service_b2 = stabS_b2 := by
  funext n cf s
  unfold F41_Service_b2 stabS_b2
  rw [symF_same, stab3_same]
theorem stab_same : F41_Service = stabS := by
  funext s n cf
  unfold F41_Service stabS
  rw [stab2_same, stab1_same]
  have : F50_Service = insS := rfl
  rw [this]
theorem sortSt_same : F31_Service = sortSt := by
  funext s cf
  unfold F31_Service sortSt
  rw [stab_same]
theorem perm_sum {l m : List Int} (h : l.Perm m) : l.sum = m.sum := by
  induction h with
  | nil => rfl
  | cons x _ ih => simp [ih]
  | swap x y l => simp only [List.sum_cons]; omega
  | trans _ _ h1 h2 => exact h1.trans h2
theorem top_ok {s : Stats} {r : List Service} (hr : F11_Services s = some r) (hl : r.length ≤ 900) : ∃ q, F12_Top s 1000 = some q ∧ q.length = r.length := by
  obtain ⟨ys, c1, c2⟩ := sortSt_ok (fun x0 x1 => F32_1 x0 x1) r (by omega)
  have c1' : F31_Service r (fun x0 x1 => F32_1 x0 x1) = some ys := by rw [sortSt_same]; exact c1
  have hy := c2.length_eq
  unfold F12_Top
  simp only [hr, c1', Option.bind_some]
  have e : (if ((ys.length : Nat) : Int) < (if (0 : Int) > 1000 then 0 else 1000) then ((ys.length : Nat) : Int) else (if (0 : Int) > 1000 then 0 else 1000)) = ((ys.length : Nat) : Int) := by
    have h0 : (if (0 : Int) > 1000 then (0 : Int) else 1000) = 1000 := rfl
    rw [h0, if_pos (by omega)]
  rw [e]
  have := slO_ok (xs := ys) (lo := 0) (hi := ys.length) (by omega) (by omega)
  rw [show slO ys 0 ((ys.length : Nat) : Int) = _ from this]
  exact ⟨_, rfl, by simp; omega⟩
theorem alive40 : F5_alive = some true := by decide +kernel
theorem long_len {a0 : List Act} (h : F6_Long a0 = false) : a0.length ≤ 60 := by
  unfold F6_Long at h
  by_cases hl : decide (((a0.length : Nat) : Int) > 60) = true
  · rw [if_pos hl] at h; cases h
  · rw [decide_eq_true_iff] at hl; omega
theorem law_sum (a0 : List Act) : F3_StatsSum a0 = some true := by
  unfold F3_StatsSum
  rw [alive40]
  simp only [Option.bind_some, Bool.not_true, Bool.false_eq_true, if_false]
  rw [lt]
  by_cases hl : F6_Long a0 = true
  · rw [if_pos hl]
  · rw [if_neg hl]
    have hlen := long_len (by simpa using hl)
    obtain ⟨n, sz, s, k1, k2, k3⟩ := sum_loop a0 0 0 F7_New (by omega) SI.new
    have k1' : runBO F3_StatsSum_b1 a0 (0, 0, F7_New) = some (.fin ((n : Int), sz, s)) := k1
    obtain ⟨r, r1, r2⟩ := services_ok k2.sp (by omega)
    have hrl : r.length ≤ n := by rw [r2.length_eq, List.length_map]; exact k2.sp.le
    obtain ⟨q, q1, q2⟩ := top_ok r1 (by omega)
    have hv : ∀ v ∈ r, VN v := fun v hv => by
      obtain ⟨p, hp, rfl⟩ := List.mem_map.1 (r2.mem_iff.1 hv)
      exact (k2.sp.nn p hp).1
    have hT : TV r = TS s.services := by
      have := perm_sum (r2.map tot)
      unfold TV TS
      rw [this, List.map_map]; rfl
    have hts := k2.sp.ts
    have hh := had_ok r 0 hv (by omega) (by rw [hT]; omega)
    rw [hT, Int.zero_add] at hh
    rw [lt, k1']
    simp only [Option.bind_some, Lp.elim, verd_ok k2 (by omega), r1, hh, total_ok k2 (by omega), q1]
    simp [lt, andO, q2, hts]
end Go.Proofs.YtkfhcfkbaaekoaaDoor
