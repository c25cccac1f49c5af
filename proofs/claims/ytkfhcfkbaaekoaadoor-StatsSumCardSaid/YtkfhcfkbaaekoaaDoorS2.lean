/- slices.Compact in plain words; texts in order. No program is named. -/
import Derived.Test.YtkfhcfkbaaekoaaDoorS1
namespace Go.Proofs.YtkfhcfkbaaekoaaDoor.K
open Go
set_option linter.unusedVariables false
theorem snoc_ind {α : Type} {p : List α → Prop} (h0 : p []) (hs : ∀ l x, p l → p (l ++ [x])) : ∀ l, p l := by
  intro l
  have : ∀ m : List α, p m.reverse := by
    intro m
    induction m with
    | nil => exact h0
    | cons x m ih => rw [List.reverse_cons]; exact hs _ _ ih
  have h := this l.reverse
  rwa [List.reverse_reverse] at h
section
variable {α : Type} [DecidableEq α]
/-- Neighbours that are equal are told once. -/
def compL (l : List α) : List α := l.foldl (fun acc x => if acc.getLast? = some x then acc else acc ++ [x]) []
theorem compL_snoc (l : List α) (x : α) : compL (l ++ [x]) = if (compL l).getLast? = some x then compL l else compL l ++ [x] := by
  unfold compL; rw [List.foldl_append]; rfl
theorem compL_last (l : List α) : (compL l).getLast? = l.getLast? := by
  refine snoc_ind (p := fun l => (compL l).getLast? = l.getLast?) rfl (fun l x ih => ?_) l
  rw [compL_snoc]
  split
  · rename_i h; rw [h]; simp
  · simp
theorem compL_mem (l : List α) (z : α) : z ∈ compL l ↔ z ∈ l := by
  refine snoc_ind (p := fun l => z ∈ compL l ↔ z ∈ l) Iff.rfl (fun l x ih => ?_) l
  rw [compL_snoc]
  split
  · rename_i h
    rw [ih, List.mem_append, List.mem_singleton]
    refine ⟨.inl, fun h' => h'.elim id fun e => ?_⟩
    subst e; exact ih.1 (List.mem_of_getLast? h)
  · rw [List.mem_append, List.mem_append, ih]
theorem compL_len (l : List α) : (compL l).length ≤ l.length := by
  refine snoc_ind (p := fun l => (compL l).length ≤ l.length) (Nat.le_refl _) (fun l x ih => ?_) l
  rw [compL_snoc]
  split <;> simp <;> omega

def comB2 (k : Int) (ys : List α) (s : Int × Int × List α) : Option (Step Empty (Int × Int × List α)) :=
  if (decide (s.2.1 < ((ys.length : Nat) : Int))) = true then (ixO (s.2.2.drop k.toNat) s.2.1).bind fun y => (ixO (s.2.2.drop k.toNat) (IntKind.i64.wrap (s.2.1 - 1))).bind fun z => if (!decide (y = z)) = true then (ixO (s.2.2.drop k.toNat) s.2.1).bind fun u => (ixO s.2.2 s.1).bind fun _ =>
    some (.next (IntKind.i64.wrap (s.1 + 1), IntKind.i64.wrap (s.2.1 + 1), s.2.2.set s.1.toNat u)) else some (.next (s.1, IntKind.i64.wrap (s.2.1 + 1), s.2.2)) else some (.fin (s.1, s.2.1, s.2.2))
def comB1 (z0 : α) (s : Int × List α) : Option (Step (List α) (Int × List α)) :=
  if (decide (s.1 < ((s.2.length : Nat) : Int))) = true then (ixO s.2 s.1).bind fun y => (ixO s.2 (IntKind.i64.wrap (s.1 - 1))).bind fun z => if (decide (y = z)) = true then (slO s.2 s.1 ((s.2.length : Nat) : Int)).bind fun ys => (runW (comB2 s.1 ys) FUEL (s.1, 1, s.2)).bind fun o => o.elim (fun r => r.elim) fun (t : Int × Int × List α) =>
    (slO t.2.2 t.1 ((t.2.2.length : Nat) : Int)).bind fun _ => (slO (t.2.2.take t.1.toNat ++ List.replicate (t.2.2.length - t.1.toNat) z0) 0 t.1).bind fun r => some (.ret r) else some (.next (IntKind.i64.wrap (s.1 + 1), s.2)) else some (.fin (s.1, s.2))
def comG (z0 : α) (xs : List α) : Option (List α) := if (decide (((xs.length : Nat) : Int) < 2)) = true then some xs else (runW (comB1 z0) FUEL (1, xs)).bind fun o => o.elim (fun r => some r) fun (s : Int × List α) => some s.2

theorem wrapm {n : Nat} (h0 : 0 < n) (h : n < 9223372036854775807) : IntKind.i64.wrap ((n : Int) - 1) = ((n - 1 : Nat) : Int) := by
  rw [Go.IntWalk.i64_in _ (by omega)]; omega

theorem com_loop2 (xs ys : List α) (k : Nat) (hk : 0 < k) (hkl : k < xs.length) (hys : ys.length = xs.length - k) (hl : xs.length < FUEL) : ∀ (f q : Nat) (s : List α), 0 < q → q ≤ xs.length - k → xs.length - k - q < f → s.length = xs.length →
    s.take (compL (xs.take (k + q))).length = compL (xs.take (k + q)) → s.drop (k + q - 1) = xs.drop (k + q - 1) → (compL (xs.take (k + q))).length < k + q →
    ∃ t : List α, runW (comB2 (k : Int) ys) f ((((compL (xs.take (k + q))).length : Nat) : Int), ((q : Nat) : Int), s) = some (.fin ((((compL xs).length : Nat) : Int), ((xs.length - k : Nat) : Int), t)) ∧ t.length = xs.length ∧ t.take (compL xs).length = compL xs
  | 0, q, s, _, _, h, _, _, _, _ => by omega
  | f + 1, q, s, hq, hql, hf, hs, ht, hd, hc => by
    have hF : FUEL < 9223372036854775807 := by decide
    rw [runW]
    simp only [comB2, hys, Int.toNat_natCast]
    rcases Nat.lt_or_ge q (xs.length - k) with h | h
    · rw [if_pos (by rw [decide_eq_true_eq]; omega)]
      have hget : ∀ j, k + q - 1 ≤ j → s[j]? = xs[j]? := by
        intro j hj
        have := congrArg (fun l => l[j - (k + q - 1)]?) hd
        simp only [List.getElem?_drop] at this
        rwa [show k + q - 1 + (j - (k + q - 1)) = j by omega] at this
      have h1 : (s.drop k)[q]? = some xs[k + q] := by
        rw [List.getElem?_drop, hget _ (by omega), List.getElem?_eq_getElem (by omega)]
      have h2 : (s.drop k)[q - 1]? = some xs[k + q - 1] := by
        rw [List.getElem?_drop, show k + (q - 1) = k + q - 1 by omega, hget _ (by omega), List.getElem?_eq_getElem (by omega)]
      rw [ixO_at h1, wrapm hq (by omega), ixO_at h2]
      simp only [Option.bind_some]
      have htk : xs.take (k + (q + 1)) = xs.take (k + q) ++ [xs[k + q]] := by rw [show k + (q + 1) = k + q + 1 by omega, List.take_succ_eq_append_getElem (by omega)]
      have hlast : (compL (xs.take (k + q))).getLast? = some xs[k + q - 1] := by
        rw [compL_last, List.getLast?_eq_getElem?, List.length_take, Nat.min_eq_left (by omega), List.getElem?_take, if_pos (by omega), List.getElem?_eq_getElem (by omega)]
      have hsn := compL_snoc (xs.take (k + q)) xs[k + q]
      rw [← htk, hlast] at hsn
      have hdrop : ∀ (s' : List α), (∀ j, k + q ≤ j → s'[j]? = s[j]?) → s'.drop (k + (q + 1) - 1) = xs.drop (k + (q + 1) - 1) := by
        intro s' h'
        apply List.ext_getElem?
        intro j
        rw [List.getElem?_drop, List.getElem?_drop, h' _ (by omega), hget _ (by omega)]
      by_cases e : xs[k + q] = xs[k + q - 1]
      · rw [if_neg (by simp [e]), wrap1 (n := q) (by omega)]
        rw [if_pos (by rw [e])] at hsn
        have ih := com_loop2 xs ys k hk hkl hys hl f (q + 1) s (by omega) (by omega) (by omega) hs (by rw [hsn]; exact ht) (hdrop s fun _ _ => rfl) (by rw [hsn]; omega)
        rw [hsn] at ih
        exact ih
      · rw [if_pos (by simp [e]), ixO_at (show s[(compL (xs.take (k + q))).length]? = some s[(compL (xs.take (k + q))).length] from List.getElem?_eq_getElem (by omega))]
        simp only [Option.bind_some]
        rw [wrap1 (n := (compL (xs.take (k + q))).length) (by omega), wrap1 (n := q) (by omega)]
        rw [if_neg (by intro h; exact e (Option.some.inj h).symm)] at hsn
        have hlen : (compL (xs.take (k + (q + 1)))).length = (compL (xs.take (k + q))).length + 1 := by rw [hsn]; simp
        have ih := com_loop2 xs ys k hk hkl hys hl f (q + 1) (s.set (compL (xs.take (k + q))).length xs[k + q]) (by omega) (by omega) (by omega) (by simpa using hs) (by
          rw [hlen, List.take_succ_eq_append_getElem (by rw [List.length_set]; omega), List.take_set_of_le (Nat.le_refl _), ht, List.getElem_set_self]
          exact hsn.symm) (hdrop _ fun j hj => by rw [List.getElem?_set_ne (by omega)]) (by rw [hlen]; omega)
        rw [hlen] at ih
        exact ih
    · rw [if_neg (by rw [decide_eq_true_eq]; omega)]
      have e : xs.take (k + q) = xs := List.take_of_length_le (by omega)
      rw [e] at ht ⊢
      exact ⟨s, by rw [show q = xs.length - k by omega], hs, ht⟩
theorem com_loop1 (z0 : α) (xs : List α) (hl : xs.length < FUEL) : ∀ (f k : Nat), 0 < k → k ≤ xs.length → xs.length - k < f → compL (xs.take k) = xs.take k →
    (runW (comB1 z0) f (((k : Nat) : Int), xs)).bind (fun o => o.elim (fun r => some r) fun (s : Int × List α) => some s.2) = some (compL xs)
  | 0, k, _, _, h, _ => by omega
  | f + 1, k, hk, hkl, hf, hc => by
    have hF : FUEL < 9223372036854775807 := by decide
    rw [runW]
    simp only [comB1]
    rcases Nat.lt_or_ge k xs.length with h | h
    · rw [if_pos (by rw [decide_eq_true_eq]; omega), ixO_at (List.getElem?_eq_getElem h), wrapm hk (by omega), ixO_at (show xs[k - 1]? = some xs[k - 1] from List.getElem?_eq_getElem (by omega))]
      simp only [Option.bind_some]
      have htk : xs.take (k + 1) = xs.take k ++ [xs[k]] := List.take_succ_eq_append_getElem h
      have hlast : (compL (xs.take k)).getLast? = some xs[k - 1] := by
        rw [compL_last, List.getLast?_eq_getElem?, List.length_take, Nat.min_eq_left (by omega), List.getElem?_take, if_pos (by omega), List.getElem?_eq_getElem (by omega)]
      have hsn := compL_snoc (xs.take k) xs[k]
      rw [← htk, hlast] at hsn
      by_cases e : xs[k] = xs[k - 1]
      · rw [if_pos (by simp [e]), slO_ok (Nat.le_of_lt h) (Nat.le_refl _)]
        simp only [Option.bind_some]
        rw [if_pos (by rw [e])] at hsn
        have hlk : (compL (xs.take (k + 1))).length = k := by rw [hsn, hc, List.length_take]; omega
        obtain ⟨t, h1, h2, h3⟩ := com_loop2 xs ((xs.drop k).take (xs.length - k)) k hk h (by simp) hl FUEL 1 xs (by omega) (by omega) (by omega) rfl (by rw [hlk, hsn, hc]) rfl (by rw [hlk]; omega)
        rw [hlk] at h1
        have e1 : ((1 : Nat) : Int) = 1 := rfl
        rw [e1] at h1
        rw [h1]
        have hcl := compL_len xs
        simp only [Option.bind_some, Lp.elim]
        rw [slO_ok (by rw [h2]; exact hcl) (Nat.le_refl _)]
        simp only [Option.bind_some, Int.toNat_natCast]
        have e0 : ((0 : Nat) : Int) = 0 := rfl
        rw [← e0, slO_ok (Nat.zero_le _) (by simp; omega)]
        simp only [Option.bind_some, List.drop_zero, Nat.sub_zero]
        rw [h3, List.take_left' rfl]
      · rw [if_neg (by simp [e]), wrap1 (n := k) (by omega)]
        rw [if_neg (by intro h; exact e (Option.some.inj h).symm)] at hsn
        exact com_loop1 z0 xs hl f (k + 1) (by omega) (by omega) (by omega) (by rw [hsn, hc, ← htk])
    · rw [if_neg (by rw [decide_eq_true_eq]; omega)]
      have e : xs.take k = xs := List.take_of_length_le h
      rw [e] at hc
      simp [Lp.elim, hc]
theorem comG_eq (z0 : α) (xs : List α) (hl : xs.length < FUEL) : comG z0 xs = some (compL xs) := by
  unfold comG
  by_cases h : xs.length < 2
  · rw [if_pos (by rw [decide_eq_true_eq]; omega)]
    match xs, h with
    | [], _ => rfl
    | [x], _ => rfl
  · rw [if_neg (by rw [decide_eq_true_eq]; omega)]
    have e1 : ((1 : Nat) : Int) = 1 := rfl
    rw [← e1]
    refine com_loop1 z0 xs hl FUEL 1 (by omega) (by omega) (by omega) ?_
    match xs, h with
    | [], h => exact absurd (show ([] : List α).length < 2 by simp) h
    | x :: r, _ => rfl
end
end Go.Proofs.YtkfhcfkbaaekoaaDoor.K
