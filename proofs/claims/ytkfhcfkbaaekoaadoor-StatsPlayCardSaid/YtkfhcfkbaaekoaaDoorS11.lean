/- slices.SortStableFunc sorts, and is stable: told by a second comparison c2 that refines the program's own cf. No program is named. -/
import Derived.Test.YtkfhcfkbaaekoaaDoorS9
namespace Go.Proofs.YtkfhcfkbaaekoaaDoor.K
open Go
set_option linter.unusedVariables false
section
variable {α : Type} {cf c2 : α → α → Int}
def Agr (cf c2 : α → α → Int) (s : List α) (a m b : Nat) : Prop := ∀ i j x y, a ≤ i → i < m → m ≤ j → j < b → s[i]? = some x → s[j]? = some y → (cf y x < 0 ↔ c2 y x < 0)
def Sub' (s t : List α) (a b : Nat) : Prop := ∀ x, a ≤ x → x < b → ∃ y, a ≤ y ∧ y < b ∧ t[x]? = s[y]?
theorem swo_n (hO : Go.Sort.SWO (ltC c2)) {x y z : α} (h1 : ¬ c2 x y < 0) (h2 : ¬ c2 y z < 0) : ¬ c2 x z < 0 := fun h => by
  have := hO.ntrans x y z (decide_eq_false h1) (decide_eq_false h2)
  rw [show ltC c2 x z = true from decide_eq_true h] at this; cases this
theorem swo_sq (hO : Go.Sort.SWO (ltC c2)) {y' y x x' : α} (h1 : ¬ c2 y y' < 0) (h2 : c2 y x < 0) (h3 : ¬ c2 x' x < 0) : c2 y' x' < 0 := by
  by_cases h : c2 y' x' < 0
  · exact h
  · exact absurd h2 (swo_n hO h1 (swo_n hO h h3))
theorem swo_na (hO : Go.Sort.SWO (ltC c2)) {x y : α} (h : c2 x y < 0) : ¬ c2 y x < 0 := swo_asym hO h
theorem srt_mono {s : List α} {a b a' b' : Nat} (h : Srt c2 s a b) (h1 : a ≤ a') (h2 : b' ≤ b) : Srt c2 s a' b' := fun i j x y p q r => h i j x y (by omega) q (by omega)
theorem rot_sub {s r : List α} {a k m e b : Nat} (h : ∀ x, r[x]? = rotF (fun x => s[x]?) k m e x) (h1 : a ≤ k) (h2 : k ≤ m) (h3 : m ≤ e) (h4 : e ≤ b) : Sub' s r a b := fun x p q => by
  rw [h]; unfold rotF
  by_cases c : k ≤ x ∧ x < e
  · rw [if_pos c]
    by_cases c2 : x < k + (e - m)
    · rw [if_pos c2]; exact ⟨_, by omega, by omega, rfl⟩
    · rw [if_neg c2]; exact ⟨_, by omega, by omega, rfl⟩
  · rw [if_neg c]; exact ⟨x, p, q, rfl⟩
theorem lt_of_some {s : List α} {i : Nat} {x : α} (h : s[i]? = some x) : i < s.length := (List.getElem?_eq_some_iff.1 h).1
theorem hunt_b1 (hO : Go.Sort.SWO (ltC c2)) (s : List α) (a m b : Nat) (v : α) (hv : s[a]? = some v) (hma : m = a + 1) (hmb : m ≤ b) (hb : b ≤ s.length) (hl : s.length < 4294967296) (hs : Srt c2 s m b) (hg : Agr cf c2 s a m b) :
    ∃ (k : Nat) (k' : Int), runW (symS_body_b1 s (a : Int) cf) FUEL ((m : Int), (b : Int)) = some (.fin ((k : Int), k')) ∧ m ≤ k ∧ k ≤ b ∧ (∀ c x, m ≤ c → c < k → s[c]? = some x → c2 x v < 0) ∧ ∀ c x, k ≤ c → c < b → s[c]? = some x → ¬ c2 x v < 0 := by
  have hF : 4294967296 < FUEL := by decide
  have ha := lt_of_some hv
  have hva : s[a] = v := by rw [List.getElem?_eq_getElem ha] at hv; exact Option.some.inj hv
  have key : ∀ c (hc : c < s.length), m ≤ c → c < b → (cf s[c] v < 0 ↔ c2 s[c] v < 0) := fun c hc h1 h2 => hg a c v s[c] (Nat.le_refl _) (by omega) h1 h2 hv (List.getElem?_eq_getElem hc)
  obtain ⟨k, k', q1, q2, q3, q4, q5⟩ := huntP (symS_body_b1 s (a : Int) cf) (fun c => match s[c]? with | some x => decide (c2 x v < 0) | none => false) m b (by omega) (fun c c' h1 h2 h3 h => by
      have hc : c < s.length := by omega
      have hc' : c' < s.length := by omega
      simp only [List.getElem?_eq_getElem hc, decide_eq_false_iff_not] at h
      simp only [List.getElem?_eq_getElem hc', decide_eq_false_iff_not]
      rcases Nat.lt_or_ge c c' with hlt | hge
      · exact swo_n hO (hs c c' _ _ h1 hlt h3 (List.getElem?_eq_getElem hc) (List.getElem?_eq_getElem hc')) h
      · have e : c = c' := by omega
        subst e; exact h) (fun i j h1 h2 h3 => by
      have hc : (i + j) / 2 < s.length := by omega
      unfold symS_body_b1
      simp only
      rw [if_pos (by rw [decide_eq_true_eq]; omega), half (by omega), ix_lt hc, ix_lt ha]
      simp only [Option.bind_some, List.getElem?_eq_getElem hc, hva, decide_eq_true_eq]
      have hk := key _ hc (by omega) (by omega)
      by_cases h : c2 s[(i + j) / 2] v < 0
      · rw [if_pos (hk.2 h), if_pos h, wadd1 (by omega)]
      · rw [if_neg (fun h' => h (hk.1 h')), if_neg h]) (fun i j h => by
      unfold symS_body_b1
      simp only
      rw [if_neg (by rw [decide_eq_true_eq]; omega)]) FUEL m b (Nat.le_refl _) hmb (Nat.le_refl _) (by omega) (fun c h1 h2 => by omega) (fun c h1 h2 => by omega)
  refine ⟨k, k', q1, q2, q3, fun c x h1 h2 hx => ?_, fun c x h1 h2 hx => ?_⟩
  · have := q4 c h1 h2
    simp only [hx, decide_eq_true_eq] at this
    exact this
  · have := q5 c h1 h2
    simp only [hx, decide_eq_false_iff_not] at this
    exact this
theorem hunt_b3 (hO : Go.Sort.SWO (ltC c2)) (s : List α) (a m : Nat) (v : α) (hv : s[m]? = some v) (ham : a ≤ m) (hl : s.length < 4294967296) (hs : Srt c2 s a m) (hg : Agr cf c2 s a m (m + 1)) :
    ∃ (k : Nat) (k' : Int), runW (symS_body_b3 s (m : Int) cf) FUEL ((a : Int), (m : Int)) = some (.fin ((k : Int), k')) ∧ a ≤ k ∧ k ≤ m ∧ (∀ c x, a ≤ c → c < k → s[c]? = some x → ¬ c2 v x < 0) ∧ ∀ c x, k ≤ c → c < m → s[c]? = some x → c2 v x < 0 := by
  have hF : 4294967296 < FUEL := by decide
  have hm := lt_of_some hv
  have hva : s[m] = v := by rw [List.getElem?_eq_getElem hm] at hv; exact Option.some.inj hv
  have key : ∀ c (hc : c < s.length), a ≤ c → c < m → (cf v s[c] < 0 ↔ c2 v s[c] < 0) := fun c hc h1 h2 => hg c m s[c] v h1 h2 (Nat.le_refl _) (by omega) (List.getElem?_eq_getElem hc) hv
  obtain ⟨k, k', q1, q2, q3, q4, q5⟩ := huntP (symS_body_b3 s (m : Int) cf) (fun c => match s[c]? with | some x => !decide (c2 v x < 0) | none => true) a m (by omega) (fun c c' h1 h2 h3 h => by
      have hc : c < s.length := by omega
      have hc' : c' < s.length := by omega
      simp only [List.getElem?_eq_getElem hc, Bool.not_eq_false', decide_eq_true_eq] at h
      simp only [List.getElem?_eq_getElem hc', Bool.not_eq_false', decide_eq_true_eq]
      rcases Nat.lt_or_ge c c' with hlt | hge
      · exact swo_sq hO (by rw [show c2 v v < 0 ↔ ltC c2 v v = true by unfold ltC; rw [decide_eq_true_eq], hO.irrefl]; decide) h (hs c c' _ _ h1 hlt h3 (List.getElem?_eq_getElem hc) (List.getElem?_eq_getElem hc'))
      · have e : c = c' := by omega
        subst e; exact h) (fun i j h1 h2 h3 => by
      have hc : (i + j) / 2 < s.length := by omega
      unfold symS_body_b3
      simp only
      rw [if_pos (by rw [decide_eq_true_eq]; omega), half (by omega), ix_lt hc, ix_lt hm]
      simp only [Option.bind_some, List.getElem?_eq_getElem hc, hva, Bool.not_eq_true', decide_eq_false_iff_not]
      have hk := key _ hc (by omega) (by omega)
      by_cases h : c2 v s[(i + j) / 2] < 0
      · rw [if_neg (fun h' => h' (hk.2 h)), if_neg (fun h' => h' h)]
      · rw [if_pos (fun h' => h (hk.1 h')), if_pos h, wadd1 (by omega)]) (fun i j h => by
      unfold symS_body_b3
      simp only
      rw [if_neg (by rw [decide_eq_true_eq]; omega)]) FUEL a m (Nat.le_refl _) ham (Nat.le_refl _) (by omega) (fun c h1 h2 => by omega) (fun c h1 h2 => by omega)
  refine ⟨k, k', q1, q2, q3, fun c x h1 h2 hx => ?_, fun c x h1 h2 hx => ?_⟩
  · have := q4 c h1 h2
    simp only [hx, Bool.not_eq_true', decide_eq_false_iff_not] at this
    exact this
  · have := q5 c h1 h2
    simp only [hx, Bool.not_eq_false', decide_eq_true_eq] at this
    exact this
theorem hunt_b5 (hO : Go.Sort.SWO (ltC c2)) (s : List α) (a m b lo hi : Nat) (hb : b ≤ s.length) (hl : s.length < 4294967296) (h1 : a < m) (h2 : m < b) (hlh : lo ≤ hi)
    (hr : ∀ c, lo ≤ c → c < hi → a ≤ c ∧ c < m ∧ c + m ≤ (a + b) / 2 + m - 1 ∧ (a + b) / 2 + m - 1 < c + b) (hhi : hi ≤ m) (s1 : Srt c2 s a m) (s2 : Srt c2 s m b) (hg : Agr cf c2 s a m b) :
    ∃ (k : Nat) (k' : Int), runW (symS_body_b5 s (a : Int) (m : Int) (b : Int) cf) FUEL ((lo : Int), (hi : Int)) = some (.fin ((k : Int), k')) ∧ lo ≤ k ∧ k ≤ hi ∧
      (∀ c x y, lo ≤ c → c < k → s[c]? = some x → s[(a + b) / 2 + m - 1 - c]? = some y → ¬ c2 y x < 0) ∧ ∀ c x y, k ≤ c → c < hi → s[c]? = some x → s[(a + b) / 2 + m - 1 - c]? = some y → c2 y x < 0 := by
  have hF : 4294967296 < FUEL := by decide
  have hc1 : ∀ c, lo ≤ c → c < hi → c < s.length ∧ (a + b) / 2 + m - 1 - c < s.length := fun c p q => by have := hr c p q; omega
  have key : ∀ c (p : lo ≤ c) (q : c < hi), (cf (s[(a + b) / 2 + m - 1 - c]'(hc1 c p q).2) (s[c]'(hc1 c p q).1) < 0 ↔ c2 (s[(a + b) / 2 + m - 1 - c]'(hc1 c p q).2) (s[c]'(hc1 c p q).1) < 0) := fun c p q => by
    have := hr c p q
    exact hg c ((a + b) / 2 + m - 1 - c) _ _ (by omega) (by omega) (by omega) (by omega) (List.getElem?_eq_getElem (hc1 c p q).1) (List.getElem?_eq_getElem (hc1 c p q).2)
  obtain ⟨k, k', q1, q2, q3, q4, q5⟩ := huntP (symS_body_b5 s (a : Int) (m : Int) (b : Int) cf) (fun c => match s[c]?, s[(a + b) / 2 + m - 1 - c]? with | some x, some y => !decide (c2 y x < 0) | _, _ => true) lo hi (by omega) (fun c c' p1 p2 p3 h => by
      have r1 := hr c p1 (by omega)
      have r2 := hr c' (by omega) p3
      obtain ⟨e1, e2⟩ := hc1 c p1 (by omega)
      obtain ⟨e3, e4⟩ := hc1 c' (by omega) p3
      simp only [List.getElem?_eq_getElem e1, List.getElem?_eq_getElem e2, Bool.not_eq_false', decide_eq_true_eq] at h
      simp only [List.getElem?_eq_getElem e3, List.getElem?_eq_getElem e4, Bool.not_eq_false', decide_eq_true_eq]
      rcases Nat.lt_or_ge c c' with hlt | hge
      · exact swo_sq hO (s2 ((a + b) / 2 + m - 1 - c') ((a + b) / 2 + m - 1 - c) _ _ (by omega) (by omega) (by omega) (List.getElem?_eq_getElem e4) (List.getElem?_eq_getElem e2)) h
          (s1 c c' _ _ (by omega) hlt (by omega) (List.getElem?_eq_getElem e1) (List.getElem?_eq_getElem e3))
      · have e : c = c' := by omega
        subst e; exact h) (fun i j p1 p2 p3 => by
      have r := hr ((i + j) / 2) (by omega) (by omega)
      obtain ⟨hc, hpc⟩ := hc1 ((i + j) / 2) (by omega) (by omega)
      have hk := key ((i + j) / 2) (by omega) (by omega)
      unfold symS_body_b5
      simp only
      rw [if_pos (by rw [decide_eq_true_eq]; omega), half (x := a) (y := b) (by omega), half (x := i) (y := j) (by omega), wadd (x := (a + b) / 2) (y := m) (by omega), wsub1 (by omega) (by omega), wsub (x := (a + b) / 2 + m - 1) (y := (i + j) / 2) (by omega) (by omega), ix_lt hc, ix_lt hpc]
      simp only [Option.bind_some, List.getElem?_eq_getElem hc, List.getElem?_eq_getElem hpc, Bool.not_eq_true', decide_eq_false_iff_not]
      by_cases h : c2 s[(a + b) / 2 + m - 1 - (i + j) / 2] s[(i + j) / 2] < 0
      · rw [if_neg (fun h' => h' (hk.2 h)), if_neg (fun h' => h' h)]
      · rw [if_pos (fun h' => h (hk.1 h')), if_pos h, wadd1 (by omega)]) (fun i j h => by
      unfold symS_body_b5
      simp only
      rw [if_neg (by rw [decide_eq_true_eq]; omega)]) FUEL lo hi (Nat.le_refl _) hlh (Nat.le_refl _) (by omega) (fun c h1 h2 => by omega) (fun c h1 h2 => by omega)
  refine ⟨k, k', q1, q2, q3, fun c x y p1 p2 hx hy => ?_, fun c x y p1 p2 hx hy => ?_⟩
  · have := q4 c p1 p2
    simp only [hx, hy, Bool.not_eq_true', decide_eq_false_iff_not] at this
    exact this
  · have := q5 c p1 p2
    simp only [hx, hy, Bool.not_eq_false', decide_eq_true_eq] at this
    exact this
structure Mrg (c2 : α → α → Int) (s t : List α) (a b : Nat) : Prop where
  pm : t.Perm s
  srt : Srt c2 t a b
  same : Same s t a b
  sub : Sub' s t a b
theorem turn_ok (hO : Go.Sort.SWO (ltC c2)) (s r : List α) (a m b k en lo hi : Nat) (hb : b ≤ s.length) (h1 : a < m) (h2 : m < b) (hen : en = (a + b) / 2 + m - k) (hk1 : a ≤ k) (hk2 : k ≤ m) (hk3 : m ≤ en) (hk4 : en ≤ b)
    (hlo : lo = a ∨ (a + b) / 2 + m - lo = b) (hhi : hi = m ∨ hi = (a + b) / 2) (hlk : lo ≤ k) (hkh : k ≤ hi) (hhm : hi ≤ m) (hlm : lo ≤ (a + b) / 2 + m)
    (s1 : Srt c2 s a m) (s2 : Srt c2 s m b) (hg : Agr cf c2 s a m b)
    (f1 : ∀ c x y, lo ≤ c → c < k → s[c]? = some x → s[(a + b) / 2 + m - 1 - c]? = some y → ¬ c2 y x < 0) (f2 : ∀ c x y, k ≤ c → c < hi → s[c]? = some x → s[(a + b) / 2 + m - 1 - c]? = some y → c2 y x < 0)
    (h : ∀ x, r[x]? = rotF (fun x => s[x]?) k m en x) :
    Srt c2 r a k ∧ Srt c2 r k ((a + b) / 2) ∧ Srt c2 r ((a + b) / 2) en ∧ Srt c2 r en b ∧ Agr cf c2 r a k ((a + b) / 2) ∧ Agr cf c2 r ((a + b) / 2) en b ∧
      ∀ i j x y, a ≤ i → i < (a + b) / 2 → (a + b) / 2 ≤ j → j < b → r[i]? = some x → r[j]? = some y → ¬ c2 y x < 0 := by
  have g1 : ∀ x, x < k → r[x]? = s[x]? := fun x p => by rw [h]; unfold rotF; rw [if_neg (by omega)]
  have g2 : ∀ x, k ≤ x → x < (a + b) / 2 → r[x]? = s[x + (m - k)]? := fun x p q => by rw [h]; unfold rotF; rw [if_pos (by omega), if_pos (by omega)]
  have g3 : ∀ x, (a + b) / 2 ≤ x → x < en → r[x]? = s[x - (en - m)]? := fun x p q => by rw [h]; unfold rotF; rw [if_pos (by omega), if_neg (by omega)]
  have g4 : ∀ x, en ≤ x → r[x]? = s[x]? := fun x p => by rw [h]; unfold rotF; rw [if_neg (by omega)]
  refine ⟨fun i j x y p q t hx hy => ?_, fun i j x y p q t hx hy => ?_, fun i j x y p q t hx hy => ?_, fun i j x y p q t hx hy => ?_, fun i j x y p q t u hx hy => ?_, fun i j x y p q t u hx hy => ?_, fun i j x y p q t u hx hy => ?_⟩
  · rw [g1 i (by omega)] at hx; rw [g1 j t] at hy; exact s1 i j x y p q (by omega) hx hy
  · rw [g2 i p (by omega)] at hx; rw [g2 j (by omega) t] at hy; exact s2 _ _ x y (by omega) (by omega) (by omega) hx hy
  · rw [g3 i p (by omega)] at hx; rw [g3 j (by omega) t] at hy; exact s1 _ _ x y (by omega) (by omega) (by omega) hx hy
  · rw [g4 i p] at hx; rw [g4 j (by omega)] at hy; exact s2 i j x y (by omega) q t hx hy
  · rw [g1 i q] at hx; rw [g2 j t u] at hy; exact hg i _ x y p (by omega) (by omega) (by omega) hx hy
  · rw [g3 i p q] at hx; rw [g4 j t] at hy; exact hg _ j x y (by omega) (by omega) (by omega) u hx hy
  · by_cases ci : i < k
    · rw [g1 i ci] at hx
      by_cases cj : j < en
      · rw [g3 j t cj] at hy
        exact s1 i _ x y p (by omega) (by omega) hx hy
      · rw [g4 j (by omega)] at hy
        -- s[i] ≤ s[k-1] ≤ s[en] ≤ s[j]
        have hlk2 : lo < k := by rcases hlo with e | e <;> omega
        have e1 : k - 1 < s.length := by omega
        have e2 : en < s.length := by omega
        have hm := f1 (k - 1) s[k - 1] s[en] (by omega) (by omega) (List.getElem?_eq_getElem e1) (by rw [show (a + b) / 2 + m - 1 - (k - 1) = en by omega]; exact List.getElem?_eq_getElem e2)
        have hx1 : ¬ c2 s[k - 1] x < 0 := by
          rcases Nat.lt_or_ge i (k - 1) with hlt | hge
          · exact s1 i (k - 1) x _ p hlt (by omega) hx (List.getElem?_eq_getElem e1)
          · have e : i = k - 1 := by omega
            subst e
            rw [List.getElem?_eq_getElem e1] at hx; cases hx
            rw [show c2 s[k - 1] s[k - 1] < 0 ↔ ltC c2 s[k - 1] s[k - 1] = true by unfold ltC; rw [decide_eq_true_eq], hO.irrefl]; decide
        have hy1 : ¬ c2 y s[en] < 0 := by
          rcases Nat.lt_or_ge en j with hlt | hge
          · exact s2 en j _ y (by omega) hlt u (List.getElem?_eq_getElem e2) hy
          · have e : j = en := by omega
            subst e
            rw [List.getElem?_eq_getElem e2] at hy; cases hy
            rw [show c2 s[j] s[j] < 0 ↔ ltC c2 s[j] s[j] = true by unfold ltC; rw [decide_eq_true_eq], hO.irrefl]; decide
        exact swo_n hO hy1 (swo_n hO hm hx1)
    · rw [g2 i (by omega) q] at hx
      by_cases cj : j < en
      · rw [g3 j t cj] at hy
        -- s[..i..] ≤ s[en-1] < s[k] ≤ s[..j..]
        have hkh2 : k < hi := by rcases hhi with e | e <;> omega
        have e1 : k < s.length := by omega
        have e2 : en - 1 < s.length := by omega
        have hm := f2 k s[k] s[en - 1] (Nat.le_refl _) hkh2 (List.getElem?_eq_getElem e1) (by rw [show (a + b) / 2 + m - 1 - k = en - 1 by omega]; exact List.getElem?_eq_getElem e2)
        have hx1 : ¬ c2 s[en - 1] x < 0 := by
          rcases Nat.lt_or_ge (i + (m - k)) (en - 1) with hlt | hge
          · exact s2 _ (en - 1) x _ (by omega) hlt (by omega) hx (List.getElem?_eq_getElem e2)
          · have e : i + (m - k) = en - 1 := by omega
            rw [e, List.getElem?_eq_getElem e2] at hx; cases hx
            rw [show c2 s[en - 1] s[en - 1] < 0 ↔ ltC c2 s[en - 1] s[en - 1] = true by unfold ltC; rw [decide_eq_true_eq], hO.irrefl]; decide
        have hy1 : ¬ c2 y s[k] < 0 := by
          rcases Nat.lt_or_ge k (j - (en - m)) with hlt | hge
          · exact s1 k _ _ y hk1 hlt (by omega) (List.getElem?_eq_getElem e1) hy
          · have e : j - (en - m) = k := by omega
            rw [e, List.getElem?_eq_getElem e1] at hy; cases hy
            rw [show c2 s[k] s[k] < 0 ↔ ltC c2 s[k] s[k] = true by unfold ltC; rw [decide_eq_true_eq], hO.irrefl]; decide
        exact swo_na hO (swo_sq hO hx1 hm hy1)
      · rw [g4 j (by omega)] at hy
        exact s2 _ j x y (by omega) (by omega) u hx hy
theorem Mrg.refl {s : List α} {a b : Nat} (h : Srt c2 s a b) : Mrg c2 s s a b := ⟨.refl _, h, fun _ _ => rfl, fun x h1 h2 => ⟨x, h1, h2, rfl⟩⟩
theorem Srt.cong {s t : List α} {a b : Nat} (h : Srt c2 s a b) (he : ∀ x, a ≤ x → x < b → t[x]? = s[x]?) : Srt c2 t a b := fun i j x y p q r hx hy => h i j x y p q r (by rw [← he i p (by omega)]; exact hx) (by rw [← he j (by omega) r]; exact hy)
theorem Agr.cong {s t : List α} {a m b : Nat} (h : Agr cf c2 s a m b) (he : ∀ x, a ≤ x → x < b → t[x]? = s[x]?) (hm : a ≤ m) (hmb : m ≤ b) : Agr cf c2 t a m b := fun i j x y p q r u hx hy => h i j x y p q r u (by rw [← he i p (by omega)]; exact hx) (by rw [← he j (by omega) u]; exact hy)
theorem Mrg.join {s r y1 y2 : List α} {a k m en b mid : Nat} (hr : r.Perm s) (h : ∀ x, r[x]? = rotF (fun x => s[x]?) k m en x) (h1 : a ≤ k) (h2 : k ≤ m) (h3 : m ≤ en) (h4 : en ≤ b) (hm1 : a ≤ mid) (hm2 : mid ≤ b)
    (hx : ∀ i j x y, a ≤ i → i < mid → mid ≤ j → j < b → r[i]? = some x → r[j]? = some y → ¬ c2 y x < 0) (L : Mrg c2 r y1 a mid) (R : Mrg c2 y1 y2 mid b) : Mrg c2 s y2 a b := by
  have hsub := rot_sub (a := a) (b := b) h h1 h2 h3 h4
  have e1 : ∀ x, x < a ∨ mid ≤ x → y1[x]? = r[x]? := L.same
  have e2 : ∀ x, x < mid ∨ b ≤ x → y2[x]? = y1[x]? := R.same
  have toR : ∀ x, a ≤ x → x < mid → ∃ z, a ≤ z ∧ z < mid ∧ y2[x]? = r[z]? := fun x p q => by
    obtain ⟨z, z1, z2, z3⟩ := L.sub x p q
    exact ⟨z, z1, z2, (e2 x (.inl q)).trans z3⟩
  have toR2 : ∀ x, mid ≤ x → x < b → ∃ z, mid ≤ z ∧ z < b ∧ y2[x]? = r[z]? := fun x p q => by
    obtain ⟨z, z1, z2, z3⟩ := R.sub x p q
    exact ⟨z, z1, z2, z3.trans (e1 z (.inr z1))⟩
  refine ⟨R.pm.trans (L.pm.trans hr), fun i j x y p q t hx1 hy1 => ?_, fun x hx1 => ?_, fun x p q => ?_⟩
  · by_cases ci : i < mid
    · by_cases cj : j < mid
      · rw [e2 i (.inl ci)] at hx1
        rw [e2 j (.inl cj)] at hy1
        exact L.srt i j x y p q cj hx1 hy1
      · obtain ⟨z, z1, z2, z3⟩ := toR i p ci
        obtain ⟨u, u1, u2, u3⟩ := toR2 j (by omega) t
        rw [z3] at hx1
        rw [u3] at hy1
        exact hx z u x y z1 z2 u1 u2 hx1 hy1
    · exact R.srt i j x y (by omega) q t hx1 hy1
  · rw [e2 x (by omega), e1 x (by omega), h]; unfold rotF; rw [if_neg (by omega)]
  · by_cases c : x < mid
    · obtain ⟨z, z1, z2, z3⟩ := toR x p c
      obtain ⟨u, u1, u2, u3⟩ := hsub z z1 (by omega)
      exact ⟨u, u1, u2, z3.trans u3⟩
    · obtain ⟨z, z1, z2, z3⟩ := toR2 x (by omega) q
      obtain ⟨u, u1, u2, u3⟩ := hsub z (by omega) z2
      exact ⟨u, u1, u2, z3.trans u3⟩
theorem srt_step (hO : Go.Sort.SWO (ltC c2)) (N : Nat) (rec : List α → Int → Int → Int → (α → α → Int) → Option (List α))
    (hrec : ∀ (s : List α) (a m b : Nat), a < m → m < b → b ≤ s.length → s.length < 4294967296 → b - a ≤ N → Srt c2 s a m → Srt c2 s m b → Agr cf c2 s a m b → ∃ s', rec s (a : Int) (m : Int) (b : Int) cf = some s' ∧ Mrg c2 s s' a b)
    (s : List α) (a m b : Nat) (h1 : a < m) (h2 : m < b) (hb : b ≤ s.length) (hl : s.length < 4294967296) (hN : b - a ≤ 2 * N) (s1 : Srt c2 s a m) (s2 : Srt c2 s m b) (hg : Agr cf c2 s a m b) : ∃ s', symS_body rec s (a : Int) (m : Int) (b : Int) cf = some s' ∧ Mrg c2 s s' a b := by
  have hF : 4294967296 < FUEL := by decide
  unfold symS_body
  rw [wsub (x := m) (y := a) (by omega) (by omega), wsub (x := b) (y := m) (by omega) (by omega)]
  by_cases c1 : m - a = 1
  · rw [if_pos (by rw [decide_eq_true_eq]; omega)]
    have hma : m = a + 1 := by omega
    have hv : s[a]? = some (s[a]'(by omega)) := List.getElem?_eq_getElem (by omega)
    obtain ⟨k, k', q1, q2, q3, q4, q5⟩ := hunt_b1 hO s a m b _ hv hma (by omega) hb hl s2 hg
    rw [q1]
    simp only [Option.bind_some, Lp.elim]
    obtain ⟨k2, s', r1, r2⟩ := sym_b2x k FUEL a s (by omega) (by omega) hl (by omega) (by omega)
    obtain ⟨k3, s'', t1, t2⟩ := sym_b2 (α := α) k FUEL a s (by omega) (by omega) hl (by omega)
    rw [r1] at t1
    cases t1
    rw [r1]
    subst hma
    obtain ⟨p1, p2⟩ := put_up c2 hO s s' a b k _ hv q2 q3 s2 q4 q5 r2
    exact ⟨s', rfl, t2, p1, p2, rot_sub r2 (Nat.le_refl _) (by omega) q2 q3⟩
  rw [if_neg (by rw [decide_eq_true_eq]; omega)]
  by_cases cc : b - m = 1
  · rw [if_pos (by rw [decide_eq_true_eq]; omega)]
    have hbm : b = m + 1 := by omega
    subst hbm
    have hv : s[m]? = some (s[m]'(by omega)) := List.getElem?_eq_getElem (by omega)
    obtain ⟨k, k', q1, q2, q3, q4, q5⟩ := hunt_b3 hO s a m _ hv (by omega) hl s1 hg
    rw [q1]
    simp only [Option.bind_some, Lp.elim]
    obtain ⟨k2, s', r1, r2⟩ := sym_b4x k FUEL m s (by omega) hl (by omega) q3
    obtain ⟨k3, s'', t1, t2⟩ := sym_b4 (α := α) k FUEL m s (by omega) hl (by omega)
    rw [r1] at t1
    cases t1
    rw [r1]
    obtain ⟨p1, p2⟩ := put_down c2 hO s s' a m k _ hv q2 q3 s1 q4 q5 r2
    exact ⟨s', rfl, t2, p1, p2, rot_sub r2 q2 q3 (by omega) (Nat.le_refl _)⟩
  rw [if_neg (by rw [decide_eq_true_eq]; omega)]
  rw [half (x := a) (y := b) (by omega), wadd (x := (a + b) / 2) (y := m) (by omega)]
  -- behind the search
  have hrest : ∀ k en lo hi : Nat, en = (a + b) / 2 + m - k → a ≤ k → k ≤ m → m ≤ en → en ≤ b → (lo = a ∨ (a + b) / 2 + m - lo = b) → (hi = m ∨ hi = (a + b) / 2) → lo ≤ k → k ≤ hi → hi ≤ m → lo ≤ (a + b) / 2 + m →
      (∀ c x y, lo ≤ c → c < k → s[c]? = some x → s[(a + b) / 2 + m - 1 - c]? = some y → ¬ c2 y x < 0) → (∀ c x y, k ≤ c → c < hi → s[c]? = some x → s[(a + b) / 2 + m - 1 - c]? = some y → c2 y x < 0) →
      ∀ (tailT : List α → Option (List α)),
      (∀ y, tailT y = if (decide ((((a + b) / 2 : Nat) : Int) < (en : Int)) && decide ((en : Int) < (b : Int))) = true then (rec y (((a + b) / 2 : Nat) : Int) (en : Int) (b : Int) cf).bind fun y => some y else some y) →
      ∀ (tailR : List α → Option (List α)), (∀ y, tailR y = if (decide ((a : Int) < (k : Int)) && decide ((k : Int) < (((a + b) / 2 : Nat) : Int))) = true then (rec y (a : Int) (k : Int) (((a + b) / 2 : Nat) : Int) cf).bind fun y => tailT y else tailT y) →
      ∃ s', (if (decide ((k : Int) < (m : Int)) && decide ((m : Int) < (en : Int))) = true then (rotS s (k : Int) (m : Int) (en : Int) cf).bind fun y => tailR y else tailR s) = some s' ∧ Mrg c2 s s' a b := by
    intro k en lo hi hen hk1 hk2 hk3 hk4 hlo hhi hlk hkh hhm hlm f1 f2 tailT hT tailR hR
    obtain ⟨r, e0, rp, rg⟩ : ∃ r, (if (decide ((k : Int) < (m : Int)) && decide ((m : Int) < (en : Int))) = true then (rotS s (k : Int) (m : Int) (en : Int) cf).bind fun y => tailR y else tailR s) = tailR r ∧ r.Perm s ∧ ∀ x, r[x]? = rotF (fun x => s[x]?) k m en x := by
      by_cases c : k < m ∧ m < en
      · rw [if_pos (by simp; omega)]
        obtain ⟨r, e1, e2⟩ := rotS_get cf k m en s c.1 c.2 (by omega) hl
        obtain ⟨r', e3, e4⟩ := rotS_ok cf k m en s c.1 c.2 (by omega) hl
        obtain rfl : r = r' := Option.some.inj (e1.symm.trans e3)
        rw [e1]
        exact ⟨r, rfl, e4, e2⟩
      · rw [if_neg (by simp; omega)]
        refine ⟨s, rfl, .refl _, fun x => ?_⟩
        unfold rotF
        by_cases cx : k ≤ x ∧ x < en
        · rw [if_pos cx]
          by_cases cy : x < k + (en - m)
          · rw [if_pos cy]; congr 1; omega
          · rw [if_neg cy]; congr 1; omega
        · rw [if_neg cx]
    obtain ⟨t1, t2, t3, t4, t5, t6, t7⟩ := turn_ok (cf := cf) hO s r a m b k en lo hi hb h1 h2 hen hk1 hk2 hk3 hk4 hlo hhi hlk hkh hhm hlm s1 s2 hg f1 f2 rg
    have hkm : k ≤ (a + b) / 2 := by omega
    have hme : (a + b) / 2 ≤ en := by omega
    have hrl : r.length = s.length := rp.length_eq
    rw [e0, hR]
    obtain ⟨y1, w1, L⟩ : ∃ y1, (if (decide ((a : Int) < (k : Int)) && decide ((k : Int) < (((a + b) / 2 : Nat) : Int))) = true then (rec r (a : Int) (k : Int) (((a + b) / 2 : Nat) : Int) cf).bind fun y => tailT y else tailT r) = tailT y1 ∧ Mrg c2 r y1 a ((a + b) / 2) := by
      by_cases c : a < k ∧ k < (a + b) / 2
      · rw [if_pos (by simp; omega)]
        obtain ⟨y1, e1, e2⟩ := hrec r a k ((a + b) / 2) c.1 c.2 (by omega) (by omega) (by omega) t1 t2 t5
        rw [e1]
        exact ⟨y1, rfl, e2⟩
      · rw [if_neg (by simp; omega)]
        refine ⟨r, rfl, Mrg.refl ?_⟩
        rcases Nat.lt_or_ge a k with hlt | hge
        · have e : k = (a + b) / 2 := by omega
          rw [← e]; exact t1
        · have e : k = a := by omega
          rw [e] at t2; exact t2
    rw [w1, hT]
    have hy1 : ∀ x, (a + b) / 2 ≤ x → x < b → y1[x]? = r[x]? := fun x p _ => L.same x (.inr p)
    have hyl : y1.length = s.length := by rw [L.pm.length_eq, hrl]
    by_cases c : (a + b) / 2 < en ∧ en < b
    · rw [if_pos (by simp; omega)]
      obtain ⟨y2, e1, e2⟩ := hrec y1 ((a + b) / 2) en b c.1 c.2 (by omega) (by omega) (by omega) (t3.cong fun x p q => hy1 x p (by omega)) (t4.cong fun x p q => hy1 x (by omega) q) (t6.cong hy1 hme hk4)
      rw [e1]
      exact ⟨y2, rfl, Mrg.join rp rg hk1 hk2 hk3 hk4 (by omega) (by omega) t7 L e2⟩
    · rw [if_neg (by simp; omega)]
      refine ⟨y1, rfl, Mrg.join rp rg hk1 hk2 hk3 hk4 (by omega) (by omega) t7 L (Mrg.refl ?_)⟩
      refine Srt.cong ?_ hy1
      rcases Nat.lt_or_ge ((a + b) / 2) en with hlt | hge
      · have e : en = b := by omega
        rw [e] at t3; exact t3
      · have e : en = (a + b) / 2 := by omega
        rw [e] at t4; exact t4
  by_cases c3 : m > (a + b) / 2
  · rw [if_pos (by rw [decide_eq_true_eq]; omega), wsub (x := (a + b) / 2 + m) (y := b) (by omega) (by omega)]
    simp only [lt]
    obtain ⟨k, k', q1, q2, q3, q4, q5⟩ := hunt_b5 hO s a m b ((a + b) / 2 + m - b) ((a + b) / 2) hb hl h1 h2 (by omega) (fun c p q => by omega) (by omega) s1 s2 hg
    rw [q1]
    simp only [Option.bind_some, Lp.elim]
    rw [wsub (x := (a + b) / 2 + m) (y := k) (by omega) (by omega)]
    exact hrest k _ ((a + b) / 2 + m - b) ((a + b) / 2) rfl (by omega) (by omega) (by omega) (by omega) (by omega) (by omega) q2 q3 (by omega) (by omega) q4 q5 _ (fun y => rfl) _ (fun y => rfl)
  · rw [if_neg (by rw [decide_eq_true_eq]; omega)]
    simp only [lt]
    obtain ⟨k, k', q1, q2, q3, q4, q5⟩ := hunt_b5 hO s a m b a m hb hl h1 h2 (by omega) (fun c p q => by omega) (by omega) s1 s2 hg
    rw [q1]
    simp only [Option.bind_some, Lp.elim]
    rw [wsub (x := (a + b) / 2 + m) (y := k) (by omega) (by omega)]
    exact hrest k _ a m rfl (by omega) (by omega) (by omega) (by omega) (by omega) (by omega) q2 q3 (by omega) (by omega) q4 q5 _ (fun y => rfl) _ (fun y => rfl)
theorem srt_at (hO : Go.Sort.SWO (ltC c2)) : ∀ (f : Nat) (s : List α) (a m b : Nat), a < m → m < b → b ≤ s.length → s.length < 4294967296 → b - a ≤ 2 ^ f → Srt c2 s a m → Srt c2 s m b → Agr cf c2 s a m b → ∃ s', symS_at f s (a : Int) (m : Int) (b : Int) cf = some s' ∧ Mrg c2 s s' a b
  | 0, s, a, m, b, h1, h2, _, _, h, _, _, _ => by simp at h; omega
  | f + 1, s, a, m, b, h1, h2, hb, hl, h, s1, s2, hg => by
    obtain ⟨s', e1, e2⟩ := srt_step hO (2 ^ f) (symS_at f) (fun s a m b => srt_at hO f s a m b) s a m b h1 h2 hb hl (by rw [Nat.pow_succ] at h; omega) s1 s2 hg
    exact ⟨s', by rw [symS_at]; exact e1, e2⟩
theorem symS_srt (hO : Go.Sort.SWO (ltC c2)) (s : List α) (a m b : Nat) (h1 : a < m) (h2 : m < b) (hb : b ≤ s.length) (hl : s.length < 4294967296) (s1 : Srt c2 s a m) (s2 : Srt c2 s m b) (hg : Agr cf c2 s a m b) : ∃ s', symS s (a : Int) (m : Int) (b : Int) cf = some s' ∧ Mrg c2 s s' a b :=
  srt_at hO 64 s a m b h1 h2 hb hl (by have : (2 : Nat) ^ 64 = 18446744073709551616 := by decide
                                       omega) s1 s2 hg
end
end Go.Proofs.YtkfhcfkbaaekoaaDoor.K
