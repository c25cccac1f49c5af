/- The plain law of StatsPlay. No Go and no memory. -/
import Derived.Test.YtkfhcfkbaaekoaaDoorP40g
namespace Go.Proofs.YtkfhcfkbaaekoaaDoor
open Go K
set_option linter.unusedVariables false
theorem num_none : F14_Num none = some 0 := rfl
theorem num_0 : F14_Num (some 0) = some 1 := by decide +kernel
theorem num_1 : F14_Num (some 1) = some 10 := by decide +kernel
theorem b2_same (y : Stats) : F4_StatsPla_b2 y = F4_StatsPla_b3 (none, y) (0, ⟨[]⟩) := rfl
theorem looks {s : Stats} {A : List Told} {sz : Int} (h : RT s A sz) (hA : A.length ≤ 60) (a n m : Int) :
    ∃ r q y, F11_Services s = some r ∧ F19_Services ⟨A⟩ = some r ∧ F12_Top s n = some q ∧ F20_Top ⟨A⟩ n = some q ∧
      F21_Rate s a m = some y ∧ F22_Rate ⟨A⟩ a m = some y ∧ (FloatKind.f64.format.order y y != some .eq) = false := by
  obtain ⟨r, r1, r2, r3, r4⟩ := services_eq h.si.sp (by omega) (by omega) h.srv
  obtain ⟨q, q1, q2⟩ := top_eq r1 r2 r3 (by omega) n
  obtain ⟨y, y1, y2, y3⟩ := rate_eq h.sp hA h.lst a m
  refine ⟨r, q, y, r1, r2, q1, q2, y1, y2, ?_⟩
  rw [bne, y3]; rfl
theorem ver_all {s : Stats} {A : List Told} {sz : Int} (h : RT s A sz) (e : Option Nat) (i : Int) : runW (F4_StatsPla_b3 (e, s) (i, ⟨A⟩)) FUEL (-1) = some (.fin 8) := by
  have hF : FUEL = 4611686018427387904 := rfl
  exact ver_loop h.ver e i FUEL (-1) (by omega) (by omega) (by omega)
theorem b1_step (x : Act) {s : Stats} {A : List Told} {sz : Int} (h : RT s A sz) (hA : A.length + 1 ≤ 60) : ∃ s' B sz', F4_StatsPla_b1 x (⟨A⟩, s) = some (.next (⟨B⟩, s')) ∧ RT s' B sz' ∧ B.length ≤ A.length + 1 := by
  by_cases hk : (!decide (x.kind = 0)) = true
  · have e : F4_StatsPla_b1 x (⟨A⟩, s) = _ := if_pos hk
    refine ⟨F7_New, [], 0, ?_, RT.new, by simp⟩
    obtain ⟨r, q, y, r1, r2, q1, q2, y1, y2, y3⟩ := looks RT.new (by simp) x.atF x.top x.spans
    have hr : F13_Reset s = F7_New := rfl
    rw [e]
    simp only [lt, hr, b2_same, ver_all RT.new none 0, r1, r2, q1, q2, y1, y2, same_row, Option.bind_some, Lp.elim, y3]
    simp [orO]
  · have e : F4_StatsPla_b1 x (⟨A⟩, s) = _ := if_neg hk
    have fin : ∀ (s' : Stats) (B : List Told) (sz' : Int) (er : Option Nat) (i : Int), F9_Tell s x.out x.size x.now = some (er, s') → F15_Tell ⟨A⟩ (F16_Out x.out) x.size x.now = some (i, ⟨B⟩) → F14_Num er = some i → RT s' B sz' → B.length ≤ 60 → F4_StatsPla_b1 x (⟨A⟩, s) = some (.next (⟨B⟩, s')) := by
      intro s' B sz' er i h1 h2 h3 h4 h5
      obtain ⟨r, q, y, r1, r2, q1, q2, y1, y2, y3⟩ := looks h4 h5 x.atF x.top x.spans
      rw [e]
      simp only [lt, h1, h2, h3, Option.bind_some]
      refine (if_neg (by simp)).trans ?_
      simp only [ver_all h4 er i, r1, r2, q1, q2, y1, y2, same_row, Option.bind_some, Lp.elim, y3]
      simp [orO]
    rcases tell2 h (by omega) x.out x.size x.now with ⟨h1, h2⟩ | ⟨h1, h2⟩ | ⟨s', z, h1, h2, h3⟩
    · exact ⟨s, A, sz, fin s A sz _ _ h1 h2 num_0 h (by omega), h, by omega⟩
    · exact ⟨s, A, sz, fin s A sz _ _ h1 h2 num_1 h (by omega), h, by omega⟩
    · exact ⟨s', A ++ [z], _, fin s' _ _ _ _ h1 h2 num_none h3 (by simp; omega), h3, by simp⟩
theorem play_loop : ∀ (l : List Act) (s : Stats) (A : List Told) (sz : Int), RT s A sz → A.length + l.length ≤ 60 → ∃ o, runBO F4_StatsPla_b1 l (⟨A⟩, s) = some (.fin o)
  | [], s, A, sz, _, _ => ⟨_, rfl⟩
  | x :: l, s, A, sz, h, hl => by
    simp only [List.length_cons] at hl
    obtain ⟨s', B, sz', h1, h2, h3⟩ := b1_step x h (by omega)
    obtain ⟨o, ho⟩ := play_loop l s' B sz' h2 (by omega)
    exact ⟨o, by rw [runBO, h1]; exact ho⟩
theorem law_play (a0 : List Act) : F4_StatsPla a0 = some true := by
  unfold F4_StatsPla
  rw [alive40]
  simp only [Option.bind_some, Bool.not_true, Bool.false_eq_true, if_false]
  rw [lt]
  by_cases hl : F6_Long a0 = true
  · rw [if_pos hl]
  · rw [if_neg hl]
    have hlen := long_len (by simpa using hl)
    obtain ⟨o, ho⟩ := play_loop a0 F7_New [] 0 RT.new (by simpa using hlen)
    rw [lt, ho]; rfl
end Go.Proofs.YtkfhcfkbaaekoaaDoor
