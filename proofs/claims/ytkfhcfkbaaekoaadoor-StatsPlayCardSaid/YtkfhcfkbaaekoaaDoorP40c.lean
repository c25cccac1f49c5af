/- Top: the library's stable sort, and the reference's insertion, give the same row. No Go and no memory. -/
import Derived.Test.YtkfhcfkbaaekoaaDoorP40b
import Derived.Test.YtkfhcfkbaaekoaaDoorS12
namespace Go.Proofs.YtkfhcfkbaaekoaaDoor
open Go K
set_option linter.unusedVariables false
def keyS (v : Service) : List Int := keyK v.key
def key2 (v : Service) : List Int := (-v.begun) :: keyK v.key
theorem top_cf (a b : Service) : F32_1 a b = if b.begun < a.begun then -1 else if a.begun < b.begun then 1 else 0 := by
  unfold F32_1 F33_int F42_int
  simp [lt]
theorem key2_lt {a b : Service} (h : b.begun < a.begun) : lexc (key2 a) (key2 b) = -1 := by
  unfold key2; rw [lexc, if_pos (by omega)]
theorem key2_gt {a b : Service} (h : a.begun < b.begun) : lexc (key2 a) (key2 b) = 1 := by
  unfold key2; rw [lexc, if_neg (by omega), if_pos (by omega)]
theorem key2_eq {a b : Service} (h : a.begun = b.begun) : lexc (key2 a) (key2 b) = lexc (keyS a) (keyS b) := by
  unfold key2 keyS; rw [lexc, if_neg (by omega), if_neg (by omega)]
theorem kord_gt {r : List Service} (hr : KOrd keyS r) {i j : Nat} {x y : Service} (h : i < j) (hx : r[i]? = some x) (hy : r[j]? = some y) : lexc (keyS y) (keyS x) = 1 := by
  obtain ⟨hi, rfl⟩ := List.getElem?_eq_some_iff.1 hx
  obtain ⟨hj, rfl⟩ := List.getElem?_eq_some_iff.1 hy
  have := List.pairwise_iff_getElem.1 hr i j hi hj h
  rw [lexc_anti, this]; rfl
theorem top_prog {r : List Service} (hr : KOrd keyS r) (hl : r.length ≤ 900) : ∃ q, F31_Service r (fun x0 x1 => F32_1 x0 x1) = some q ∧ KOrd key2 q ∧ q.Perm r := by
  have hO : Go.Sort.SWO (ltC fun a b => lexc (key2 a) (key2 b)) := by
    have e : (ltC fun a b => lexc (key2 a) (key2 b)) = ltK key2 := by funext x y; exact ltC_key rfl
    rw [e]; exact swo_key key2
  obtain ⟨q, h1, h2, h3⟩ := sortSt_srt (cf := fun x0 x1 => F32_1 x0 x1) hO r (by omega) (fun i j x y hij hx hy => by
    have hg := kord_gt hr hij hx hy
    rw [top_cf]
    rcases Int.lt_trichotomy x.begun y.begun with h | h | h
    · rw [if_pos h, key2_lt h]
    · rw [if_neg (by omega), if_neg (by omega), key2_eq h.symm, hg]; decide
    · rw [if_neg (by omega), if_pos h, key2_gt h])
  refine ⟨q, by rw [sortSt_same]; exact h1, ?_, h2⟩
  have hnd : q.Nodup := h2.nodup_iff.2 hr.nodup
  refine (List.pairwise_and_iff.2 ⟨hnd, h3⟩).imp_of_mem fun {a b} ha hb hab => ?_
  obtain ⟨hne, hba⟩ := hab
  have hk : lexc (key2 a) (key2 b) ≠ 0 := fun e => by
    have e2 := lexc_eq e
    unfold key2 at e2
    exact hne (hr.inj a (h2.mem_iff.1 ha) b (h2.mem_iff.1 hb) (List.cons.inj e2).2)
  rcases lexc_vals (key2 a) (key2 b) with h | h | h
  · exact h
  · exact absurd h hk
  · have := lexc_anti (key2 a) (key2 b); rw [h] at this; rw [this] at hba; exact absurd (by decide) hba
theorem at_loop (out : List Service) (z : Service) (hl : out.length < 1000000) : ∀ (f p : Nat), p ≤ out.length → p < f → (∀ y ∈ out.drop p, y.begun < z.begun) → ∃ q : Nat, runW (F20_Top_b2 out z) f (p : Int) = some (.fin (q : Int)) ∧ q ≤ p ∧ (∀ y ∈ out.drop q, y.begun < z.begun) ∧ (q = 0 ∨ ∃ y, out[q - 1]? = some y ∧ ¬ y.begun < z.begun)
  | 0, _, _, h, _ => absurd h (by omega)
  | f + 1, p, h1, h2, h3 => by
    rw [runW]
    cases p with
    | zero => exact ⟨0, rfl, Nat.le_refl _, h3, .inl rfl⟩
    | succ p =>
      have hp : p < out.length := by omega
      have hix : ixO out (IntKind.i64.wrap (((p + 1 : Nat) : Int) - 1)) = some out[p] := by
        rw [wrapI (by omega), show ((p + 1 : Nat) : Int) - 1 = (p : Int) by omega]
        exact ixO_at (List.getElem?_eq_getElem hp)
      have hb : F20_Top_b2 out z ((p + 1 : Nat) : Int) = if out[p].begun < z.begun then some (.next ((p : Nat) : Int)) else some (.fin ((p + 1 : Nat) : Int)) := by
        unfold F20_Top_b2 andO
        rw [if_pos (by rw [decide_eq_true_iff]; omega), hix]
        simp only [Option.bind_some]
        rw [wrapI (by omega), show ((p + 1 : Nat) : Int) - 1 = (p : Int) by omega]
        by_cases h : out[p].begun < z.begun <;> simp [h]
      rw [hb]
      by_cases h : out[p].begun < z.begun
      · rw [if_pos h]
        obtain ⟨q, k1, k2, k3⟩ := at_loop out z hl f p (by omega) (by omega) (fun y hy => by
          rw [List.drop_eq_getElem_cons hp] at hy
          rcases List.mem_cons.1 hy with rfl | hy
          · exact h
          · exact h3 y hy)
        exact ⟨q, k1, by omega, k3⟩
      · rw [if_neg h]
        exact ⟨p + 1, rfl, Nat.le_refl _, h3, .inr ⟨out[p], by rw [Nat.add_sub_cancel]; exact List.getElem?_eq_getElem hp, h⟩⟩
theorem top_ref : ∀ (r pre out : List Service), KOrd keyS (pre ++ r) → KOrd key2 out → out.Perm pre → pre.length + r.length ≤ 900 → ∃ L, runAO F20_Top_b1 r out = some L ∧ KOrd key2 L ∧ L.Perm (pre ++ r)
  | [], pre, out, _, h2, h3, _ => ⟨out, rfl, h2, by simpa using h3⟩
  | z :: r, pre, out, h1, h2, h3, h4 => by
    simp only [List.length_cons] at h4
    have hol := h3.length_eq
    have hF : FUEL = 4611686018427387904 := rfl
    have hL : LIM = 4294967296 := rfl
    obtain ⟨q, k1, k2, k3, k4⟩ := at_loop out z (by omega) FUEL out.length (Nat.le_refl _) (by omega) (by simp)
    have hz : ∀ y ∈ out, lexc (keyS z) (keyS y) = 1 := fun y hy => by
      obtain ⟨i, hi, e⟩ := List.mem_iff_getElem.1 (h3.mem_iff.1 hy)
      have hx : (pre ++ z :: r)[i]? = some y := by rw [List.getElem?_append_left hi, List.getElem?_eq_getElem hi, e]
      have hzz : (pre ++ z :: r)[pre.length]? = some z := by simp
      exact kord_gt h1 hi hx hzz
    have hput := h2.put (z := z) (p := q) k2 (fun y hy => key2_lt (k3 y hy)) (k4.imp id fun ⟨y, hy, hny⟩ => ⟨y, hy, by
      have hm := hz y (List.mem_of_getElem? hy)
      rcases Int.lt_trichotomy y.begun z.begun with h | h | h
      · exact absurd h hny
      · rw [key2_eq h.symm, hm]; decide
      · rw [key2_gt h]; decide⟩) (fun y hy e => by
      have := hz y hy
      unfold key2 at e
      unfold keyS at this
      rw [(List.cons.inj e).2, lexc_self] at this; exact absurd this (by decide))
    have hb : F20_Top_b1 z out = some (out.take q ++ [z] ++ out.drop q) := by
      unfold F20_Top_b1
      have e1 := slO_ok (xs := out) (lo := 0) (hi := q) (by omega) k2
      have e2 := slO_ok (xs := out) (lo := q) (hi := out.length) k2 (Nat.le_refl _)
      have e1' : slO out 0 (q : Int) = some (out.take q) := by rw [show slO out 0 (q : Int) = _ from e1]; simp
      have e2' : slO out (q : Int) ((out.length : Nat) : Int) = some (out.drop q) := by
        rw [e2]
        congr 1
        rw [List.take_of_length_le (by simp)]
      rw [k1]
      simp only [Option.bind_some, Lp.elim, e1', e2', List.nil_append]
      rw [apO_ok (by simp; omega)]
      simp only [Option.bind_some]
      rw [apO_ok (by simp; omega)]
      simp only [Option.bind_some]
      rw [apO_ok (by simp; omega)]
      rfl
    rw [runAO, hb]
    obtain ⟨L, l1, l2, l3⟩ := top_ref r (pre ++ [z]) _ (by simpa using h1) hput ((put_perm out z q).trans ((h3.cons z).trans (by simpa using (List.perm_append_comm (l₁ := [z]) (l₂ := pre))))) (by simp; omega)
    exact ⟨L, l1, l2, by simpa using l3⟩
theorem top_eq {s : Stats} {A : List Told} {r : List Service} (h1 : F11_Services s = some r) (h2 : F19_Services ⟨A⟩ = some r) (hr : KOrd keyS r) (hl : r.length ≤ 900) (n : Int) : ∃ q, F12_Top s n = some q ∧ F20_Top ⟨A⟩ n = some q := by
  obtain ⟨q, c1, c2, c3⟩ := top_prog hr hl
  obtain ⟨L, l1, l2, l3⟩ := top_ref r [] [] (by simpa using hr) List.Pairwise.nil (.refl _) (by simp; omega)
  have e : L = q := KOrd.ext L q l2 c2 fun x => by rw [l3.mem_iff, c3.mem_iff]; simp
  subst e
  have hq := c3.length_eq
  unfold F12_Top F20_Top
  rw [h1, h2]
  simp only [Option.bind_some, c1, l1]
  by_cases hn : n < 0
  · rw [if_pos (show (0 : Int) > n by omega), if_pos (show decide (n < 0) = true by simpa using hn), if_neg (by omega), if_neg (show ¬ decide ((0 : Int) > ((L.length : Nat) : Int)) = true by simp)]
    have e1 := slO_ok (xs := L) (lo := 0) (hi := 0) (by omega) (by omega)
    rw [show slO L 0 0 = _ from e1]
    exact ⟨_, rfl, rfl⟩
  · rw [if_neg (show ¬ (0 : Int) > n by omega), if_neg (show ¬ decide (n < 0) = true by simpa using hn)]
    obtain ⟨m, rfl⟩ : ∃ m : Nat, n = (m : Int) := ⟨n.toNat, by omega⟩
    by_cases hm : L.length < m
    · rw [if_pos (show ((L.length : Nat) : Int) < (m : Int) by omega), if_pos (by rw [decide_eq_true_iff]; omega)]
      have e1 := slO_ok (xs := L) (lo := 0) (hi := L.length) (by omega) (by omega)
      rw [show slO L 0 ((L.length : Nat) : Int) = _ from e1]
      exact ⟨_, rfl, rfl⟩
    · rw [if_neg (show ¬ ((L.length : Nat) : Int) < (m : Int) by omega), if_neg (by rw [decide_eq_true_iff]; omega)]
      have e1 := slO_ok (xs := L) (lo := 0) (hi := m) (by omega) (by omega)
      rw [show slO L 0 (m : Int) = _ from e1]
      exact ⟨_, rfl, rfl⟩
end Go.Proofs.YtkfhcfkbaaekoaaDoor
