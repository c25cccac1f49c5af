/- slices.SortStableFunc: what its turns leave, place by place (towards: it sorts). No program is named. -/
import Derived.Test.YtkfhcfkbaaekoaaDoorS8
namespace Go.Proofs.YtkfhcfkbaaekoaaDoor.K
open Go
set_option linter.unusedVariables false
section
variable {α β : Type}
def swpF (f : Nat → β) (a b k : Nat) : Nat → β := fun x => if a ≤ x ∧ x < a + k then f (x - a + b) else if b ≤ x ∧ x < b + k then f (x - b + a) else f x
def rotF (f : Nat → β) (a m b : Nat) : Nat → β := fun x => if a ≤ x ∧ x < b then (if x < a + (b - m) then f (x + (m - a)) else f (x - (b - m))) else f x
theorem rot_left (f : Nat → β) (m i j : Nat) (h : j < i) (him : i ≤ m) : rotF f (m - i) m (m + j) = rotF (swpF f (m - i) m j) (m - (i - j)) m (m + j) := by
  funext x
  unfold rotF swpF
  repeat' split
  all_goals first | rfl | (congr 1; omega) | omega
theorem rot_right (f : Nat → β) (m i j : Nat) (h : i < j) (him : i ≤ m) : rotF f (m - i) m (m + j) = rotF (swpF f (m - i) (m + j - i) i) (m - i) m (m + (j - i)) := by
  funext x
  unfold rotF swpF
  repeat' split
  all_goals first | rfl | (congr 1; omega) | omega
theorem rot_same (f : Nat → β) (m i : Nat) (him : i ≤ m) : rotF f (m - i) m (m + i) = swpF f (m - i) m i := by
  funext x
  unfold rotF swpF
  repeat' split
  all_goals first | rfl | (congr 1; omega) | omega
theorem set2_get (s : List α) (i j x : Nat) (hi : i < s.length) (hj : j < s.length) : ((s.set i s[j]).set j s[i])[x]? = if x = i then s[j]? else if x = j then s[i]? else s[x]? := by
  rw [List.getElem?_set, List.getElem?_set, List.length_set]
  by_cases h1 : x = j
  · subst h1
    by_cases h2 : x = i
    · subst h2; simp [hi]
    · have : ¬ x = i := h2
      simp [hj, this, List.getElem?_eq_getElem hi]
  · by_cases h2 : x = i
    · subst h2
      have : ¬ j = x := fun e => h1 e.symm
      simp [hi, this, List.getElem?_eq_getElem hj]
    · have h3 : ¬ j = x := fun e => h1 e.symm
      have h4 : ¬ i = x := fun e => h2 e.symm
      simp [h1, h2, h3, h4]
theorem swp_b1x (a b k : Nat) (hab : a + k ≤ b) : ∀ (f i : Nat) (s : List α), b + k ≤ s.length → s.length < 4294967296 → i ≤ k → k - i < f → ∃ i' s', runW (swpS_b1 (a : Int) (b : Int) (k : Int)) f ((i : Int), s) = some (.fin (i', s')) ∧ ∀ x, s'[x]? = swpF (fun x => s[x]?) (a + i) (b + i) (k - i) x
  | 0, i, s, _, _, _, h => by omega
  | f + 1, i, s, hb, hl, hik, hf => by
    rw [runW]
    by_cases hg : i < k
    · have hai : a + i < s.length := by omega
      have hbi : b + i < s.length := by omega
      have hbd : swpS_b1 (a : Int) (b : Int) (k : Int) ((i : Int), s) = some (.next (((i + 1 : Nat) : Int), (s.set (a + i) s[b + i]).set (b + i) s[a + i])) := by
        unfold swpS_b1
        simp only
        rw [if_pos (by rw [decide_eq_true_eq]; omega)]
        rw [wadd (x := b) (y := i) (by omega), wadd (x := a) (y := i) (by omega), wadd1 (by omega)]
        simp only [ix_lt hai, ix_lt hbi, Option.bind_some, Int.toNat_natCast]
        rw [ix_lt (by rw [List.length_set]; exact hbi)]; rfl
      rw [hbd]
      simp only
      obtain ⟨i', s', h1, h2⟩ := swp_b1x a b k hab f (i + 1) ((s.set (a + i) s[b + i]).set (b + i) s[a + i]) (by simpa using hb) (by simpa using hl) hg (by omega)
      refine ⟨i', s', h1, fun x => (h2 x).trans ?_⟩
      unfold swpF
      simp only [set2_get s (a + i) (b + i) _ hai hbi]
      repeat' split
      all_goals first | rfl | omega | (congr 1; omega)
    · have hbd : swpS_b1 (a : Int) (b : Int) (k : Int) ((i : Int), s) = some (.fin ((i : Int), s)) := by
        unfold swpS_b1
        simp only
        rw [if_neg (by rw [decide_eq_true_eq]; omega)]
      rw [hbd]
      refine ⟨_, _, rfl, fun x => ?_⟩
      unfold swpF
      rw [if_neg (by omega), if_neg (by omega)]
theorem swpS_get (cf : α → α → Int) (a b k : Nat) (s : List α) (hab : a + k ≤ b) (hb : b + k ≤ s.length) (hl : s.length < 4294967296) : ∃ s', swpS s (a : Int) (b : Int) (k : Int) cf = some s' ∧ ∀ x, s'[x]? = swpF (fun x => s[x]?) a b k x := by
  have hF : 4294967296 < FUEL := by decide
  obtain ⟨i', s', h1, h2⟩ := swp_b1x a b k hab FUEL 0 s hb hl (Nat.zero_le _) (by omega)
  refine ⟨s', ?_, h2⟩
  unfold swpS
  have h1' : runW (swpS_b1 (a : Int) (b : Int) (k : Int)) FUEL (0, s) = some (.fin (i', s')) := h1
  rw [h1']; rfl
theorem rot_b1x (cf : α → α → Int) (m : Nat) : ∀ (f i j : Nat) (s : List α), 0 < i → 0 < j → i ≤ m → m + j ≤ s.length → s.length < 4294967296 → i + j < f →
    ∃ (i' : Nat) (j' : Int) (s' : List α), runW (rotS_b1 (m : Int) cf) f ((i : Int), (j : Int), s) = some (.fin ((i' : Int), j', s')) ∧ i' ≤ m ∧ m + i' ≤ s.length ∧ s'.length = s.length ∧ (fun x => rotF (fun x => s'[x]?) (m - i') m (m + i') x) = rotF (fun x => s[x]?) (m - i) m (m + j)
  | 0, i, j, s, _, _, _, _, _, h => by omega
  | f + 1, i, j, s, hi, hj, him, hmj, hl, hf => by
    rw [runW]
    by_cases hg : i = j
    · have hbd : rotS_b1 (m : Int) cf ((i : Int), (j : Int), s) = some (.fin ((i : Int), (j : Int), s)) := by
        unfold rotS_b1
        simp [hg]
      rw [hbd]
      exact ⟨i, _, _, rfl, him, by omega, rfl, by rw [hg]⟩
    · have hne : (!decide ((i : Int) = (j : Int))) = true := by simp; omega
      by_cases hc : i > j
      · obtain ⟨s', h1, h2⟩ := swpS_get cf (m - i) m j s (by omega) hmj hl
        obtain ⟨s'', h1', hp⟩ := swpS_ok cf (m - i) m j s (by omega) hmj hl
        obtain rfl : s' = s'' := Option.some.inj (h1.symm.trans h1')
        have hbd : rotS_b1 (m : Int) cf ((i : Int), (j : Int), s) = some (.next (((i - j : Nat) : Int), (j : Int), s')) := by
          unfold rotS_b1
          simp only
          rw [if_pos hne, if_pos (by rw [decide_eq_true_eq]; omega), wsub him (by omega), h1]
          simp only [Option.bind_some]
          rw [wsub (by omega) (by omega)]
        rw [hbd]
        simp only
        obtain ⟨i', j', s2, k1, k3, k4, k5, k6⟩ := rot_b1x cf m f (i - j) j s' (by omega) hj (by omega) (by rw [hp.length_eq]; exact hmj) (by rw [hp.length_eq]; exact hl) (by omega)
        refine ⟨i', j', s2, k1, k3, by rw [← hp.length_eq]; exact k4, k5.trans hp.length_eq, k6.trans ?_⟩
        rw [rot_left _ m i j hc him, show (fun x => s'[x]?) = swpF (fun x => s[x]?) (m - i) m j from funext h2]
      · obtain ⟨s', h1, h2⟩ := swpS_get cf (m - i) (m + j - i) i s (by omega) (by omega) hl
        obtain ⟨s'', h1', hp⟩ := swpS_ok cf (m - i) (m + j - i) i s (by omega) (by omega) hl
        obtain rfl : s' = s'' := Option.some.inj (h1.symm.trans h1')
        have hbd : rotS_b1 (m : Int) cf ((i : Int), (j : Int), s) = some (.next ((i : Int), ((j - i : Nat) : Int), s')) := by
          unfold rotS_b1
          simp only
          rw [if_pos hne, if_neg (by rw [decide_eq_true_eq]; omega), wsub him (by omega), wadd (x := m) (y := j) (by omega), wsub (x := m + j) (y := i) (by omega) (by omega), h1]
          simp only [Option.bind_some]
          rw [wsub (by omega) (by omega)]
        rw [hbd]
        simp only
        obtain ⟨i', j', s2, k1, k3, k4, k5, k6⟩ := rot_b1x cf m f i (j - i) s' hi (by omega) him (by rw [hp.length_eq]; omega) (by rw [hp.length_eq]; exact hl) (by omega)
        refine ⟨i', j', s2, k1, k3, by rw [← hp.length_eq]; exact k4, k5.trans hp.length_eq, k6.trans ?_⟩
        rw [rot_right _ m i j (by omega) him, show (fun x => s'[x]?) = swpF (fun x => s[x]?) (m - i) (m + j - i) i from funext h2]
theorem rotS_get (cf : α → α → Int) (a m b : Nat) (s : List α) (h1 : a < m) (h2 : m < b) (hb : b ≤ s.length) (hl : s.length < 4294967296) : ∃ s', rotS s (a : Int) (m : Int) (b : Int) cf = some s' ∧ ∀ x, s'[x]? = rotF (fun x => s[x]?) a m b x := by
  have hF : 8589934592 < FUEL := by decide
  obtain ⟨i', j', s', k1, k3, k4, k5, k6⟩ := rot_b1x cf m FUEL (m - a) (b - m) s (by omega) (by omega) (by omega) (by omega) hl (by omega)
  obtain ⟨s2, q1, q2⟩ := swpS_get cf (m - i') m i' s' (by omega) (by omega) (by omega)
  refine ⟨s2, ?_, fun x => ?_⟩
  · unfold rotS
    rw [wsub (x := m) (y := a) (by omega) (by omega), wsub (x := b) (y := m) (by omega) (by omega), k1]
    simp only [Option.bind_some, Lp.elim]
    rw [wsub k3 (by omega), q1]; rfl
  · rw [q2, ← rot_same _ m i' k3]
    have := congrFun k6 x
    rw [show m - (m - a) = a by omega, show m + (b - m) = b by omega] at this
    exact this
def Srt (cf : α → α → Int) (s : List α) (a b : Nat) : Prop := ∀ i j x y, a ≤ i → i < j → j < b → s[i]? = some x → s[j]? = some y → ¬ cf y x < 0
def Same (s t : List α) (a b : Nat) : Prop := ∀ x, x < a ∨ b ≤ x → t[x]? = s[x]?
theorem ins_b2x (cf : α → α → Int) (hO : Go.Sort.SWO (ltC cf)) (a i : Nat) : ∀ (f j : Nat) (s : List α), a ≤ j → j ≤ i → i < s.length → s.length < 4294967296 → j < f →
    (∀ p q x y, a ≤ p → p < q → q ≤ i → p ≠ j → q ≠ j → s[p]? = some x → s[q]? = some y → ¬ cf y x < 0) → (∀ q x v, j < q → q ≤ i → s[q]? = some x → s[j]? = some v → ¬ cf x v < 0) →
    ∃ j' s', runW (insS_b2 (a : Int) cf) f ((j : Int), s) = some (.fin (j', s')) ∧ Srt cf s' a (i + 1) ∧ Same s s' a (i + 1)
  | 0, j, s, _, _, _, _, h, _, _ => by omega
  | f + 1, j, s, haj, hji, hi, hl, hf, h1, h2 => by
    have hj : j < s.length := by omega
    have hv : s[j]? = some s[j] := List.getElem?_eq_getElem hj
    rw [runW]
    -- it stands where it belongs
    have fin1 : (∀ p x, a ≤ p → p < j → s[p]? = some x → ¬ cf s[j] x < 0) → Srt cf s a (i + 1) := by
      intro h3 p q x y hap hpq hq hx hy
      by_cases e1 : p = j
      · subst e1
        rw [hv] at hx; cases hx
        exact h2 q y s[p] hpq (by omega) hy hv
      · by_cases e2 : q = j
        · subst e2
          rw [hv] at hy; cases hy
          exact h3 p x hap hpq hx
        · exact h1 p q x y hap hpq (by omega) e1 e2 hx hy
    by_cases hg : a < j
    · have e1 : IntKind.i64.wrap ((j : Int) - 1) = ((j - 1 : Nat) : Int) := wsub1 (by omega) (by omega)
      have hj1 : j - 1 < s.length := by omega
      have hv1 : s[j - 1]? = some s[j - 1] := List.getElem?_eq_getElem hj1
      by_cases hc : cf s[j] s[j - 1] < 0
      · have hb : insS_b2 (a : Int) cf ((j : Int), s) = some (.next (((j - 1 : Nat) : Int), (s.set j s[j - 1]).set (j - 1) s[j])) := by
          unfold insS_b2
          simp only [e1, ix_lt hj, ix_lt hj1, Option.bind_some, andO]
          rw [if_pos (by rw [decide_eq_true_eq]; omega)]
          simp only [Option.bind_some, hc, decide_true, if_true, Int.toNat_natCast]
          rw [ix_lt (by rw [List.length_set]; exact hj1)]; rfl
        rw [hb]
        simp only
        have hget := fun x => set2_get s j (j - 1) x hj hj1
        obtain ⟨j', s', k1, k2, k3⟩ := ins_b2x cf hO a i f (j - 1) ((s.set j s[j - 1]).set (j - 1) s[j]) (by omega) (by omega) (by simpa using hi) (by simpa using hl) (by omega)
          (fun p q x y hap hpq hq hp1 hq1 hx hy => by
            rw [hget] at hx hy
            rw [if_neg hp1] at hx
            rw [if_neg hq1] at hy
            by_cases ep : p = j
            · rw [if_pos ep, hv1] at hx
              by_cases eq : q = j
              · omega
              · rw [if_neg eq] at hy; cases hx
                exact h1 (j - 1) q s[j - 1] y (by omega) (by omega) hq (by omega) eq hv1 hy
            · rw [if_neg ep] at hx
              by_cases eq : q = j
              · rw [if_pos eq, hv1] at hy; cases hy
                exact h1 p (j - 1) x s[j - 1] hap (by omega) (by omega) ep (by omega) hx hv1
              · rw [if_neg eq] at hy
                exact h1 p q x y hap hpq hq ep eq hx hy)
          (fun q x v hq1 hq2 hx hvv => by
            rw [hget] at hx hvv
            rw [if_neg (by omega), if_pos rfl, hv] at hvv; cases hvv
            by_cases eq : q = j
            · rw [if_pos eq, hv1] at hx; cases hx
              intro hn
              have := hO.trans _ _ _ (show ltC cf s[j] s[j - 1] = true from decide_eq_true hc) (show ltC cf s[j - 1] s[j] = true from decide_eq_true hn)
              rw [hO.irrefl] at this; cases this
            · rw [if_neg eq, if_neg (by omega)] at hx
              exact h2 q x s[j] (by omega) hq2 hx hv)
        refine ⟨j', s', k1, k2, fun x hx => ?_⟩
        rw [k3 x hx, hget, if_neg (by omega), if_neg (by omega)]
      · have hb : insS_b2 (a : Int) cf ((j : Int), s) = some (.fin ((j : Int), s)) := by
          unfold insS_b2
          simp only [e1, ix_lt hj, ix_lt hj1, Option.bind_some, andO]
          rw [if_pos (by rw [decide_eq_true_eq]; omega)]
          simp [hc]
        rw [hb]
        refine ⟨_, _, rfl, fin1 fun p x hap hpj hx => ?_, fun x _ => rfl⟩
        by_cases e : p = j - 1
        · subst e; rw [hv1] at hx; cases hx; exact hc
        · have h4 := h1 p (j - 1) x s[j - 1] hap (by omega) (by omega) (by omega) (by omega) hx hv1
          intro hn
          have := hO.ntrans _ _ _ (show ltC cf s[j] s[j - 1] = false from decide_eq_false hc) (show ltC cf s[j - 1] x = false from decide_eq_false h4)
          rw [show ltC cf s[j] x = true from decide_eq_true hn] at this; cases this
    · have hb : insS_b2 (a : Int) cf ((j : Int), s) = some (.fin ((j : Int), s)) := by
        unfold insS_b2
        simp only [andO]
        rw [if_neg (by rw [decide_eq_true_eq]; omega)]; rfl
      rw [hb]
      exact ⟨_, _, rfl, fin1 fun p x hap hpj _ => by omega, fun x _ => rfl⟩
theorem ins_b1x (cf : α → α → Int) (hO : Go.Sort.SWO (ltC cf)) (a b : Nat) : ∀ (f i : Nat) (s : List α), a < i → b ≤ s.length → s.length < 4294967296 → b - i < f → i ≤ b + 1 → Srt cf s a i →
    ∃ i' s', runW (insS_b1 (a : Int) (b : Int) cf) f ((i : Int), s) = some (.fin (i', s')) ∧ Srt cf s' a b ∧ Same s s' a b
  | 0, i, s, _, _, _, h, _, _ => by omega
  | f + 1, i, s, hai, hb, hl, hf, hi, hs => by
    have hF : 4294967296 < FUEL := by decide
    rw [runW]
    by_cases hg : i < b
    · obtain ⟨j', s', h1, h2, h3⟩ := ins_b2x cf hO a i FUEL i s (by omega) (Nat.le_refl _) (by omega) hl (by omega)
        (fun p q x y hap hpq hq hp1 hq1 hx hy => hs p q x y hap hpq (by omega) hx hy) (fun q x v h1 h2 => by omega)
      obtain ⟨j2, s2, g1, g2⟩ := ins_b2 cf a FUEL i s (by omega) hl (by omega)
      have e := h1.symm.trans g1
      simp only [Option.some.injEq, Lp.fin.injEq, Prod.mk.injEq] at e
      obtain ⟨rfl, rfl⟩ := e
      have hbd : insS_b1 (a : Int) (b : Int) cf ((i : Int), s) = some (.next (((i + 1 : Nat) : Int), s')) := by
        unfold insS_b1
        simp only
        rw [if_pos (by rw [decide_eq_true_eq]; omega), h1]
        simp only [Option.bind_some, Lp.elim]
        rw [wadd1 (by omega)]
      rw [hbd]
      simp only
      obtain ⟨i', s3, k1, k2, k3⟩ := ins_b1x cf hO a b f (i + 1) s' (by omega) (by rw [g2.length_eq]; exact hb) (by rw [g2.length_eq]; exact hl) (by omega) (by omega) h2
      exact ⟨i', s3, k1, k2, fun x hx => (k3 x hx).trans (h3 x (by omega))⟩
    · have hbd : insS_b1 (a : Int) (b : Int) cf ((i : Int), s) = some (.fin ((i : Int), s)) := by
        unfold insS_b1
        simp only
        rw [if_neg (by rw [decide_eq_true_eq]; omega)]
      rw [hbd]
      exact ⟨_, _, rfl, fun p q x y h1 h2 h3 => hs p q x y h1 h2 (by omega), fun x _ => rfl⟩
theorem insS_srt (cf : α → α → Int) (hO : Go.Sort.SWO (ltC cf)) (a b : Nat) (s : List α) (hab : a ≤ b) (hb : b ≤ s.length) (hl : s.length < 4294967296) : ∃ s', insS s (a : Int) (b : Int) cf = some s' ∧ s'.Perm s ∧ Srt cf s' a b ∧ Same s s' a b := by
  have hF : 4294967296 < FUEL := by decide
  obtain ⟨i', s', h1, h2, h3⟩ := ins_b1x cf hO a b FUEL (a + 1) s (by omega) hb hl (by omega) (by omega) (fun p q x y h1 h2 h3 => by omega)
  have e : insS s (a : Int) (b : Int) cf = some s' := by
    unfold insS
    rw [wadd1 (by omega), h1]; rfl
  obtain ⟨s2, g1, g2⟩ := insS_ok cf a b s hab hb hl
  obtain rfl : s' = s2 := Option.some.inj (e.symm.trans g1)
  exact ⟨s', e, g2, h2, h3⟩
theorem huntP (body : Int × Int → Option (Step Empty (Int × Int))) (P : Nat → Bool) (lo hi : Nat) (hh : hi < 549755813888) (hm : ∀ c c', lo ≤ c → c ≤ c' → c' < hi → P c = false → P c' = false)
    (hb : ∀ i j : Nat, lo ≤ i → i < j → j ≤ hi → body ((i : Int), (j : Int)) = some (.next (if P ((i + j) / 2) = true then ((((i + j) / 2 + 1 : Nat) : Int), (j : Int)) else ((i : Int), (((i + j) / 2 : Nat) : Int)))))
    (he : ∀ i j : Nat, j ≤ i → body ((i : Int), (j : Int)) = some (.fin ((i : Int), (j : Int)))) : ∀ (f i j : Nat), lo ≤ i → i ≤ j → j ≤ hi → j - i < f → (∀ c, lo ≤ c → c < i → P c = true) → (∀ c, j ≤ c → c < hi → P c = false) →
    ∃ (k : Nat) (k' : Int), runW body f ((i : Int), (j : Int)) = some (.fin ((k : Int), k')) ∧ i ≤ k ∧ k ≤ j ∧ (∀ c, lo ≤ c → c < k → P c = true) ∧ ∀ c, k ≤ c → c < hi → P c = false
  | 0, i, j, _, _, _, h, _, _ => by omega
  | f + 1, i, j, h1, h2, h3, h4, hl, hr => by
    rw [runW]
    by_cases hij : i < j
    · rw [hb i j h1 hij h3]
      cases hp : P ((i + j) / 2) with
      | true =>
        simp only [if_true]
        obtain ⟨k, k', q1, q2, q3, q4, q5⟩ := huntP body P lo hi hh hm hb he f ((i + j) / 2 + 1) j (by omega) (by omega) h3 (by omega) (fun c c1 c2 => by
          cases hc : P c with
          | true => rfl
          | false =>
            have := hm c ((i + j) / 2) c1 (by omega) (by omega) hc
            rw [hp] at this; cases this) hr
        exact ⟨k, k', q1, by omega, q3, q4, q5⟩
      | false =>
        simp only [Bool.false_eq_true, if_false]
        obtain ⟨k, k', q1, q2, q3, q4, q5⟩ := huntP body P lo hi hh hm hb he f i ((i + j) / 2) h1 (by omega) (by omega) (by omega) hl (fun c c1 c2 => hm ((i + j) / 2) c (by omega) c1 c2 hp)
        exact ⟨k, k', q1, q2, by omega, q4, q5⟩
    · rw [he i j (by omega)]
      obtain rfl : i = j := by omega
      exact ⟨i, _, rfl, Nat.le_refl _, Nat.le_refl _, hl, hr⟩
theorem sym_b2x (X : Nat) : ∀ (f k : Nat) (s : List α), 1 ≤ X → X ≤ s.length → s.length < 4294967296 → X - k < f → k < X → ∃ k' s', runW (symS_body_b2 (α := α) (X : Int) (X : Int)) f ((k : Int), s) = some (.fin (k', s')) ∧ ∀ x, s'[x]? = rotF (fun x => s[x]?) k (k + 1) X x
  | 0, k, s, _, _, _, h, _ => by omega
  | f + 1, k, s, h1, hx, hl, hf, hkX => by
    rw [runW]
    have e0 : IntKind.i64.wrap ((X : Int) - 1) = ((X - 1 : Nat) : Int) := wsub1 h1 (by omega)
    by_cases hg : k < X - 1
    · have hk : k < s.length := by omega
      have hk1 : k + 1 < s.length := by omega
      have hbd : symS_body_b2 (α := α) (X : Int) (X : Int) ((k : Int), s) = some (.next (((k + 1 : Nat) : Int), (s.set k s[k + 1]).set (k + 1) s[k])) := by
        unfold symS_body_b2
        simp only
        rw [e0, if_pos (by rw [decide_eq_true_eq]; omega), wadd1 (by omega)]
        simp only [ix_lt hk, ix_lt hk1, Option.bind_some, Int.toNat_natCast]
        rw [ix_lt (by rw [List.length_set]; exact hk1)]; rfl
      rw [hbd]
      simp only
      obtain ⟨k', s', q1, q2⟩ := sym_b2x X f (k + 1) ((s.set k s[k + 1]).set (k + 1) s[k]) h1 (by simpa using hx) (by simpa using hl) (by omega) (by omega)
      refine ⟨k', s', q1, fun x => (q2 x).trans ?_⟩
      unfold rotF
      simp only [set2_get s k (k + 1) _ hk hk1]
      repeat' split
      all_goals first | rfl | omega | (congr 1; omega)
    · have hbd : symS_body_b2 (α := α) (X : Int) (X : Int) ((k : Int), s) = some (.fin ((k : Int), s)) := by
        unfold symS_body_b2
        simp only
        rw [e0, if_neg (by rw [decide_eq_true_eq]; omega)]
      rw [hbd]
      refine ⟨_, _, rfl, fun x => ?_⟩
      unfold rotF
      repeat' split
      all_goals first | rfl | omega | (congr 1; omega)
theorem sym_b4x (X : Nat) : ∀ (f k : Nat) (s : List α), k < s.length → s.length < 4294967296 → k < f → X ≤ k → ∃ k' s', runW (symS_body_b4 (α := α) (X : Int) (X : Int)) f ((k : Int), s) = some (.fin (k', s')) ∧ ∀ x, s'[x]? = rotF (fun x => s[x]?) X k (k + 1) x
  | 0, k, s, _, _, h, _ => by omega
  | f + 1, k, s, hk, hl, hf, hkX => by
    rw [runW]
    by_cases hg : X < k
    · have hk1 : k - 1 < s.length := by omega
      have hbd : symS_body_b4 (α := α) (X : Int) (X : Int) ((k : Int), s) = some (.next (((k - 1 : Nat) : Int), (s.set k s[k - 1]).set (k - 1) s[k])) := by
        unfold symS_body_b4
        simp only
        rw [if_pos (by rw [decide_eq_true_eq]; omega), wsub1 (by omega) (by omega)]
        simp only [ix_lt hk, ix_lt hk1, Option.bind_some, Int.toNat_natCast]
        rw [ix_lt (by rw [List.length_set]; exact hk1)]; rfl
      rw [hbd]
      simp only
      obtain ⟨k', s', q1, q2⟩ := sym_b4x X f (k - 1) ((s.set k s[k - 1]).set (k - 1) s[k]) (by simpa using hk1) (by simpa using hl) (by omega) (by omega)
      refine ⟨k', s', q1, fun x => (q2 x).trans ?_⟩
      unfold rotF
      simp only [set2_get s k (k - 1) _ hk hk1]
      repeat' split
      all_goals first | rfl | omega | (congr 1; omega)
    · have hbd : symS_body_b4 (α := α) (X : Int) (X : Int) ((k : Int), s) = some (.fin ((k : Int), s)) := by
        unfold symS_body_b4
        simp only
        rw [if_neg (by rw [decide_eq_true_eq]; omega)]
      rw [hbd]
      refine ⟨_, _, rfl, fun x => ?_⟩
      unfold rotF
      repeat' split
      all_goals first | rfl | omega | (congr 1; omega)
theorem swo_asym {cf : α → α → Int} (hO : Go.Sort.SWO (ltC cf)) {x y : α} (h : cf x y < 0) : ¬ cf y x < 0 := fun k => by
  have := hO.trans _ _ _ (show ltC cf x y = true from decide_eq_true h) (show ltC cf y x = true from decide_eq_true k)
  rw [hO.irrefl] at this; cases this
theorem put_up (cf : α → α → Int) (hO : Go.Sort.SWO (ltC cf)) (s r : List α) (a b k : Nat) (v : α) (hv : s[a]? = some v) (hk1 : a + 1 ≤ k) (hk2 : k ≤ b) (hs : Srt cf s (a + 1) b)
    (hl : ∀ c x, a + 1 ≤ c → c < k → s[c]? = some x → cf x v < 0) (hr : ∀ c x, k ≤ c → c < b → s[c]? = some x → ¬ cf x v < 0) (h : ∀ x, r[x]? = rotF (fun x => s[x]?) a (a + 1) k x) : Srt cf r a b ∧ Same s r a b := by
  have g1 : ∀ x, a ≤ x → x < k - 1 → r[x]? = s[x + 1]? := fun x h1 h2 => by
    rw [h]; unfold rotF; rw [if_pos ⟨h1, by omega⟩, if_pos (by omega)]; congr 1; omega
  have g2 : r[k - 1]? = some v := by
    rw [h, ← hv]; unfold rotF; rw [if_pos ⟨by omega, by omega⟩, if_neg (by omega)]; congr 1; omega
  have g3 : ∀ x, x < a ∨ k ≤ x → r[x]? = s[x]? := fun x h1 => by
    rw [h]; unfold rotF; rw [if_neg (by omega)]
  refine ⟨fun i j x y h1 h2 h3 hx hy => ?_, fun x hx => g3 x (by omega)⟩
  by_cases ci : i < k - 1
  · rw [g1 i h1 ci] at hx
    by_cases cj : j < k - 1
    · rw [g1 j (by omega) cj] at hy
      exact hs (i + 1) (j + 1) x y (by omega) (by omega) (by omega) hx hy
    · by_cases cj2 : j = k - 1
      · rw [cj2, g2] at hy; cases hy
        exact swo_asym hO (hl (i + 1) x (by omega) (by omega) hx)
      · rw [g3 j (by omega)] at hy
        exact hs (i + 1) j x y (by omega) (by omega) h3 hx hy
  · by_cases ci2 : i = k - 1
    · rw [ci2, g2] at hx; cases hx
      rw [g3 j (by omega)] at hy
      exact hr j y (by omega) h3 hy
    · rw [g3 i (by omega)] at hx
      rw [g3 j (by omega)] at hy
      exact hs i j x y (by omega) h2 h3 hx hy
theorem put_down (cf : α → α → Int) (hO : Go.Sort.SWO (ltC cf)) (s r : List α) (a m k : Nat) (v : α) (hv : s[m]? = some v) (hk1 : a ≤ k) (hk2 : k ≤ m) (hs : Srt cf s a m)
    (hl : ∀ c x, a ≤ c → c < k → s[c]? = some x → ¬ cf v x < 0) (hr : ∀ c x, k ≤ c → c < m → s[c]? = some x → cf v x < 0) (h : ∀ x, r[x]? = rotF (fun x => s[x]?) k m (m + 1) x) : Srt cf r a (m + 1) ∧ Same s r a (m + 1) := by
  have g1 : ∀ x, k < x → x ≤ m → r[x]? = s[x - 1]? := fun x h1 h2 => by
    rw [h]; unfold rotF; rw [if_pos ⟨by omega, by omega⟩, if_neg (by omega)]; congr 1; omega
  have g2 : r[k]? = some v := by
    rw [h, ← hv]; unfold rotF; rw [if_pos ⟨by omega, by omega⟩, if_pos (by omega)]; congr 1; omega
  have g3 : ∀ x, x < k ∨ m + 1 ≤ x → r[x]? = s[x]? := fun x h1 => by
    rw [h]; unfold rotF; rw [if_neg (by omega)]
  refine ⟨fun i j x y h1 h2 h3 hx hy => ?_, fun x hx => g3 x (by omega)⟩
  by_cases ci : i < k
  · rw [g3 i (by omega)] at hx
    by_cases cj : j < k
    · rw [g3 j (by omega)] at hy
      exact hs i j x y h1 h2 (by omega) hx hy
    · by_cases cj2 : j = k
      · rw [cj2, g2] at hy; cases hy
        exact hl i x h1 ci hx
      · rw [g1 j (by omega) (by omega)] at hy
        exact hs i (j - 1) x y h1 (by omega) (by omega) hx hy
  · by_cases ci2 : i = k
    · rw [ci2, g2] at hx; cases hx
      rw [g1 j (by omega) (by omega)] at hy
      exact swo_asym hO (hr (j - 1) y (by omega) (by omega) hy)
    · rw [g1 i (by omega) (by omega)] at hx
      rw [g1 j (by omega) (by omega)] at hy
      exact hs (i - 1) (j - 1) x y (by omega) (by omega) (by omega) hx hy
end
end Go.Proofs.YtkfhcfkbaaekoaaDoor.K
