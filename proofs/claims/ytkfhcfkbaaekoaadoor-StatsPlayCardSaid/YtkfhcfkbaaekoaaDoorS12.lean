/- slices.SortStableFunc sorts, and is stable: from the parts (S11) to the whole. No program is named. -/
import Derived.Test.YtkfhcfkbaaekoaaDoorS11
namespace Go.Proofs.YtkfhcfkbaaekoaaDoor.K
open Go
set_option linter.unusedVariables false
section
variable {α : Type} {cf c2 : α → α → Int}
theorem mid_eq {s t : List α} {a b : Nat} (hs : Same s t a b) (hl : t.length = s.length) (hab : a ≤ b) (hb : b ≤ s.length) : t.take a = s.take a ∧ t.drop b = s.drop b := by
  constructor
  · refine List.ext_getElem? fun i => ?_
    rw [List.getElem?_take, List.getElem?_take]
    split
    · exact hs i (.inl (by omega))
    · rfl
  · refine List.ext_getElem? fun i => ?_
    rw [List.getElem?_drop, List.getElem?_drop]
    exact hs _ (.inr (by omega))
theorem cut3 (s : List α) {a b : Nat} (hab : a ≤ b) : s = s.take a ++ ((s.drop a).take (b - a) ++ s.drop b) := by
  have h1 : (s.drop a).drop (b - a) = s.drop b := by rw [List.drop_drop]; congr 1; omega
  rw [← h1, List.take_append_drop, List.take_append_drop]
theorem sub_of_perm {s t : List α} {a b : Nat} (hp : t.Perm s) (hs : Same s t a b) (hab : a ≤ b) (hb : b ≤ s.length) : Sub' s t a b := by
  obtain ⟨h1, h2⟩ := mid_eq hs hp.length_eq hab hb
  have hp2 : ((t.drop a).take (b - a)).Perm ((s.drop a).take (b - a)) := by
    rw [cut3 t hab, cut3 s hab, h1, h2] at hp
    exact (List.perm_append_right_iff _).1 ((List.perm_append_left_iff _).1 hp)
  intro x p q
  have hx : x < t.length := by rw [hp.length_eq]; omega
  have hv : t[x]? = some t[x] := List.getElem?_eq_getElem hx
  have hm : t[x] ∈ (t.drop a).take (b - a) := by
    refine List.mem_of_getElem? (i := x - a) ?_
    rw [List.getElem?_take, if_pos (by omega), List.getElem?_drop, show a + (x - a) = x by omega, hv]
  obtain ⟨i, hi, e⟩ := List.mem_iff_getElem.1 (hp2.mem_iff.1 hm)
  have hi2 : i < b - a ∧ i < s.length - a := by
    have := hi
    rw [List.length_take, List.length_drop] at this
    omega
  refine ⟨a + i, by omega, by omega, ?_⟩
  have h3 : ((s.drop a).take (b - a))[i]? = some t[x] := by rw [List.getElem?_eq_getElem hi, e]
  rw [List.getElem?_take, if_pos hi2.1, List.getElem?_drop] at h3
  rw [hv, h3]
theorem ins_b2_eq (a : Nat) : ∀ (f j : Nat) (s : List α) (v : α), j < s.length → s.length < 4294967296 → s[j]? = some v → (∀ i x, a ≤ i → i < j → s[i]? = some x → (cf v x < 0 ↔ c2 v x < 0)) → runW (insS_b2 (a : Int) cf) f ((j : Int), s) = runW (insS_b2 (a : Int) c2) f ((j : Int), s)
  | 0, j, s, v, _, _, _, _ => by rw [runW, runW]
  | f + 1, j, s, v, hj, hl, hv, h => by
    have hvj : s[j] = v := by rw [List.getElem?_eq_getElem hj] at hv; exact Option.some.inj hv
    rw [runW, runW]
    by_cases hg : a < j
    · have e1 : IntKind.i64.wrap ((j : Int) - 1) = ((j - 1 : Nat) : Int) := wsub1 (by omega) (by omega)
      have hj1 : j - 1 < s.length := by omega
      have hk := h (j - 1) s[j - 1] (by omega) (by omega) (List.getElem?_eq_getElem hj1)
      have step : ∀ g : α → α → Int, insS_b2 (a : Int) g ((j : Int), s) = if g v s[j - 1] < 0 then some (.next (((j - 1 : Nat) : Int), (s.set j s[j - 1]).set (j - 1) s[j])) else some (.fin ((j : Int), s)) := by
        intro g
        unfold insS_b2
        simp only [e1, ix_lt hj, ix_lt hj1, Option.bind_some, andO]
        rw [if_pos (by rw [decide_eq_true_eq]; omega)]
        by_cases hc : g v s[j - 1] < 0
        · rw [if_pos hc]
          simp only [Option.bind_some, hvj, hc, decide_true, if_true, Int.toNat_natCast]
          rw [ix_lt (by rw [List.length_set]; exact hj1)]; rfl
        · rw [if_neg hc]
          simp only [Option.bind_some, hvj, hc, decide_false, Bool.false_eq_true, if_false]
      rw [step cf, step c2]
      by_cases hc : c2 v s[j - 1] < 0
      · rw [if_pos (hk.2 hc), if_pos hc]
        simp only
        have hget := fun x => set2_get s j (j - 1) x hj hj1
        refine ins_b2_eq a f (j - 1) _ v (by simpa using hj1) (by simpa using hl) ?_ (fun i x p q hx => ?_)
        · rw [hget, if_neg (by omega), if_pos rfl, hv]
        · rw [hget, if_neg (by omega), if_neg (by omega)] at hx
          exact h i x p (by omega) hx
      · rw [if_neg (fun h' => hc (hk.1 h')), if_neg hc]
    · have step : ∀ g : α → α → Int, insS_b2 (a : Int) g ((j : Int), s) = some (.fin ((j : Int), s)) := by
        intro g
        unfold insS_b2
        simp only [andO]
        rw [if_neg (by rw [decide_eq_true_eq]; omega)]
        rfl
      rw [step cf, step c2]
theorem ins_b1_eq (hO : Go.Sort.SWO (ltC c2)) (a b : Nat) : ∀ (f i : Nat) (s : List α), a < i → b ≤ s.length → s.length < 4294967296 → Srt c2 s a i → (∀ p q x y, a ≤ p → p < q → q < b → i ≤ q → s[p]? = some x → s[q]? = some y → (cf y x < 0 ↔ c2 y x < 0)) →
    runW (insS_b1 (a : Int) (b : Int) cf) f ((i : Int), s) = runW (insS_b1 (a : Int) (b : Int) c2) f ((i : Int), s)
  | 0, i, s, _, _, _, _, _ => by rw [runW, runW]
  | f + 1, i, s, hai, hb, hl, hs, h => by
    have hF : 4294967296 < FUEL := by decide
    rw [runW, runW]
    by_cases hg : i < b
    · have hi : i < s.length := by omega
      have hv : s[i]? = some s[i] := List.getElem?_eq_getElem hi
      have e := ins_b2_eq (cf := cf) (c2 := c2) a FUEL i s s[i] hi hl hv (fun p x p1 p2 hx => h p i x s[i] p1 p2 hg (Nat.le_refl _) hx hv)
      obtain ⟨j', s', h1, h2, h3⟩ := ins_b2x c2 hO a i FUEL i s (by omega) (Nat.le_refl _) (by omega) hl (by omega)
        (fun p q x y hap hpq hq hp1 hq1 hx hy => hs p q x y hap hpq (by omega) hx hy) (fun q x v h1 h2 => by omega)
      obtain ⟨j2, s2, g1, g2⟩ := ins_b2 c2 a FUEL i s (by omega) hl (by omega)
      have e3 := h1.symm.trans g1
      simp only [Option.some.injEq, Lp.fin.injEq, Prod.mk.injEq] at e3
      obtain ⟨rfl, rfl⟩ := e3
      have step : ∀ g : α → α → Int, runW (insS_b2 (a : Int) g) FUEL ((i : Int), s) = some (.fin (j', s')) → insS_b1 (a : Int) (b : Int) g ((i : Int), s) = some (.next (((i + 1 : Nat) : Int), s')) := by
        intro g hgr
        unfold insS_b1
        simp only
        rw [if_pos (by rw [decide_eq_true_eq]; omega), hgr]
        simp only [Option.bind_some, Lp.elim]
        rw [wadd1 (by omega)]
      rw [step cf (e.trans h1), step c2 h1]
      simp only
      have hsub := sub_of_perm g2 h3 (by omega) (by omega)
      refine ins_b1_eq hO a b f (i + 1) s' (by omega) (by rw [g2.length_eq]; exact hb) (by rw [g2.length_eq]; exact hl) h2 (fun p q x y p1 p2 p3 p4 hx hy => ?_)
      rw [h3 q (.inr p4)] at hy
      by_cases hp : p < i + 1
      · obtain ⟨z, z1, z2, z3⟩ := hsub p p1 hp
        rw [z3] at hx
        exact h z q x y z1 (by omega) p3 (by omega) hx hy
      · rw [h3 p (.inr (by omega))] at hx
        exact h p q x y p1 p2 p3 (by omega) hx hy
    · have step : ∀ g : α → α → Int, insS_b1 (a : Int) (b : Int) g ((i : Int), s) = some (.fin ((i : Int), s)) := by
        intro g
        unfold insS_b1
        simp only
        rw [if_neg (by rw [decide_eq_true_eq]; omega)]
      rw [step cf, step c2]
theorem insS_two (hO : Go.Sort.SWO (ltC c2)) (a b : Nat) (s : List α) (hab : a ≤ b) (hb : b ≤ s.length) (hl : s.length < 4294967296) (h : ∀ p q x y, a ≤ p → p < q → q < b → s[p]? = some x → s[q]? = some y → (cf y x < 0 ↔ c2 y x < 0)) :
    ∃ s', insS s (a : Int) (b : Int) cf = some s' ∧ Mrg c2 s s' a b := by
  have e : insS s (a : Int) (b : Int) cf = insS s (a : Int) (b : Int) c2 := by
    unfold insS
    rw [wadd1 (by omega), ins_b1_eq hO a b FUEL (a + 1) s (by omega) hb hl (fun i j x y p q r => by omega) (fun p q x y p1 p2 p3 _ => h p q x y p1 p2 p3)]
  obtain ⟨s', h1, h2, h3, h4⟩ := insS_srt c2 hO a b s hab hb hl
  exact ⟨s', e.trans h1, h2, h3, h4, sub_of_perm h2 h4 hab hb⟩
def Bd (k c : Nat) : Prop := ∃ t, c = t * k
def Sep (k i j : Nat) : Prop := ∃ c, Bd k c ∧ i < c ∧ c ≤ j
def OkB (cf c2 : α → α → Int) (s : List α) (rel : Nat → Nat → Prop) : Prop := ∀ i j x y, i < j → rel i j → s[i]? = some x → s[j]? = some y → (cf y x < 0 ↔ c2 y x < 0)
theorem Bd.zero (k : Nat) : Bd k 0 := ⟨0, by omega⟩
theorem Bd.add {k c : Nat} (h : Bd k c) : Bd k (c + k) := by obtain ⟨t, rfl⟩ := h; exact ⟨t + 1, by rw [Nat.succ_mul]⟩
theorem Bd.half {k c : Nat} (h : Bd (2 * k) c) : Bd k c := by obtain ⟨t, rfl⟩ := h; exact ⟨t * 2, by rw [Nat.mul_assoc]⟩
theorem Bd.gap {k a c : Nat} (ha : Bd k a) (hc : Bd k c) (h : a < c) : a + k ≤ c := by
  obtain ⟨t, rfl⟩ := ha
  obtain ⟨u, rfl⟩ := hc
  have : t < u := Nat.lt_of_mul_lt_mul_right h
  have := Nat.mul_le_mul_right k this
  rw [Nat.succ_mul] at this; exact this
theorem ok_sub {s t : List α} {k a b : Nat} (hgap : ∀ c, Bd k c → c ≤ a ∨ b ≤ c) (hsub : Sub' s t a b) (hsame : Same s t a b) (h : OkB cf c2 s (Sep k)) : OkB cf c2 t (Sep k) := by
  rintro i j x y hij ⟨c, c1, c2', c3⟩ hx hy
  have hc := hgap c c1
  by_cases hi : a ≤ i ∧ i < b
  · obtain ⟨z, z1, z2, z3⟩ := hsub i hi.1 hi.2
    rw [z3] at hx
    rw [hsame j (.inr (by omega))] at hy
    exact h z j x y (by omega) ⟨c, c1, by omega, c3⟩ hx hy
  · rw [hsame i (by omega)] at hx
    by_cases hj : a ≤ j ∧ j < b
    · obtain ⟨z, z1, z2, z3⟩ := hsub j hj.1 hj.2
      rw [z3] at hy
      exact h i z x y (by omega) ⟨c, c1, c2', by omega⟩ hx hy
    · rw [hsame j (by omega)] at hy
      exact h i j x y hij ⟨c, c1, c2', c3⟩ hx hy
theorem Srt.same {s t : List α} {a b c e : Nat} (h : Srt c2 s c e) (hs : Same s t a b) (hd : e ≤ a ∨ b ≤ c) : Srt c2 t c e := h.cong fun x p q => hs x (by omega)
theorem two_b1 (hO : Go.Sort.SWO (ltC c2)) (n : Nat) : ∀ (f a : Nat) (s : List α), s.length = n → n < 4294967296 → a ≤ n → n - a < f → Bd 20 a → (∀ c, Bd 20 c → c < a → Srt c2 s c (c + 20)) → OkB cf c2 s (Sep 20) → OkB cf c2 s (fun i _ => a ≤ i) →
    ∃ (a' : Nat) (b' : Int) (s' : List α), runW (stabS_b1 (n : Int) cf) f ((a : Int), ((a + 20 : Nat) : Int), s) = some (.fin ((a' : Int), b', s')) ∧ a' ≤ n ∧ n < a' + 20 ∧ s'.Perm s ∧ Bd 20 a' ∧ (∀ c, Bd 20 c → c < a' → Srt c2 s' c (c + 20)) ∧ OkB cf c2 s' (Sep 20) ∧ OkB cf c2 s' (fun i _ => a' ≤ i)
  | 0, a, s, _, _, _, h, _, _, _, _ => by omega
  | f + 1, a, s, hs, hn, ha, hf, hB, h1, h2, h3 => by
    rw [runW]
    by_cases hg : a + 20 ≤ n
    · obtain ⟨s', q1, q2⟩ := insS_two (cf := cf) hO a (a + 20) s (by omega) (by omega) (by omega) (fun p q x y p1 p2 p3 hx hy => h3 p q x y p2 p1 hx hy)
      have hbd : stabS_b1 (n : Int) cf ((a : Int), ((a + 20 : Nat) : Int), s) = some (.next (((a + 20 : Nat) : Int), ((a + 20 + 20 : Nat) : Int), s')) := by
        unfold stabS_b1
        simp only
        rw [if_pos (by rw [decide_eq_true_eq]; omega), q1]
        simp only [Option.bind_some]
        rw [show IntKind.i64.wrap (((a + 20 : Nat) : Int) + 20) = ((a + 20 + 20 : Nat) : Int) from wadd (y := 20) (by omega)]
      rw [hbd]
      simp only
      obtain ⟨a', b', s2, k1, k2, k3, k4, k5⟩ := two_b1 hO n f (a + 20) s' (by rw [q2.pm.length_eq]; exact hs) hn hg (by omega) hB.add (fun c c1 c2 => by
          rcases Nat.lt_or_ge c a with hlt | hge
          · have := c1.gap hB hlt
            exact (h1 c c1 hlt).same q2.same (.inl (by omega))
          · have e : c = a := by
              rcases Nat.lt_or_ge a c with h' | h'
              · have := hB.gap c1 h'; omega
              · omega
            subst e; exact q2.srt)
        (ok_sub (fun c c1 => by
          rcases Nat.lt_or_ge a c with h' | h'
          · exact .inr (hB.gap c1 h')
          · exact .inl h') q2.sub q2.same h2)
        (fun i j x y p q hx hy => by
          rw [q2.same i (.inr q)] at hx
          rw [q2.same j (.inr (by have q' : a + 20 ≤ i := q; omega))] at hy
          exact h3 i j x y p (by have q' : a + 20 ≤ i := q; show a ≤ i; omega) hx hy)
      exact ⟨a', b', s2, k1, k2, k3, k4.trans q2.pm, k5⟩
    · have hbd : stabS_b1 (n : Int) cf ((a : Int), ((a + 20 : Nat) : Int), s) = some (.fin ((a : Int), ((a + 20 : Nat) : Int), s)) := by
        unfold stabS_b1
        simp only
        rw [if_neg (by rw [decide_eq_true_eq]; omega)]
      rw [hbd]
      exact ⟨a, _, _, rfl, ha, by omega, .refl _, hB, h1, h2, h3⟩
def Runs (c2 : α → α → Int) (k n : Nat) (s : List α) (a : Nat) : Prop := ∀ c e, Bd k c → a ≤ c → e ≤ c + k → e ≤ n → Srt c2 s c e
theorem two_b3 (hO : Go.Sort.SWO (ltC c2)) (n k : Nat) (hk : 0 < k) (hkn : k < n) : ∀ (f a : Nat) (s : List α), s.length = n → n < 4294967296 → a ≤ n → n - a < f → Bd (2 * k) a → (∀ c, Bd (2 * k) c → c < a → Srt c2 s c (c + 2 * k)) → Runs c2 k n s a → OkB cf c2 s (Sep (2 * k)) → OkB cf c2 s (fun i j => a ≤ i ∧ Sep k i j) →
    ∃ (a' : Nat) (b' : Int) (s' : List α), runW (stabS_b3 (n : Int) cf (k : Int)) f ((a : Int), ((a + 2 * k : Nat) : Int), s) = some (.fin ((a' : Int), b', s')) ∧ a' ≤ n ∧ n < a' + 2 * k ∧ s'.Perm s ∧ Bd (2 * k) a' ∧ (∀ c, Bd (2 * k) c → c < a' → Srt c2 s' c (c + 2 * k)) ∧ Runs c2 k n s' a' ∧ OkB cf c2 s' (Sep (2 * k)) ∧ OkB cf c2 s' (fun i j => a' ≤ i ∧ Sep k i j)
  | 0, a, s, _, _, _, h, _, _, _, _, _ => by omega
  | f + 1, a, s, hs, hn, ha, hf, hB, h1, h2, h3, h4 => by
    rw [runW]
    have e2 : IntKind.i64.wrap (2 * (k : Int)) = ((2 * k : Nat) : Int) := by rw [wrapI (by omega)]; omega
    by_cases hg : a + 2 * k ≤ n
    · obtain ⟨s', q1, q2⟩ := symS_srt (cf := cf) hO s a (a + k) (a + 2 * k) (by omega) (by omega) (by omega) (by omega) (h2 a (a + k) hB.half (Nat.le_refl _) (Nat.le_refl _) (by omega)) (h2 (a + k) (a + 2 * k) hB.half.add (by omega) (by omega) hg)
        (fun i j x y p1 p2 p3 p4 hx hy => h4 i j x y (by omega) ⟨p1, a + k, hB.half.add, p2, p3⟩ hx hy)
      have hbd : stabS_b3 (n : Int) cf (k : Int) ((a : Int), ((a + 2 * k : Nat) : Int), s) = some (.next (((a + 2 * k : Nat) : Int), ((a + 2 * k + 2 * k : Nat) : Int), s')) := by
        unfold stabS_b3
        simp only
        rw [if_pos (by rw [decide_eq_true_eq]; omega), wadd (x := a) (y := k) (by omega), q1]
        simp only [Option.bind_some]
        rw [e2, wadd (by omega)]
      rw [hbd]
      simp only
      obtain ⟨a', b', s2, k1, k2, k3, k4, k5⟩ := two_b3 hO n k hk hkn f (a + 2 * k) s' (by rw [q2.pm.length_eq]; exact hs) hn hg (by omega) hB.add (fun c c1 c2 => by
          rcases Nat.lt_or_ge c a with hlt | hge
          · have := c1.gap hB hlt
            exact (h1 c c1 hlt).same q2.same (.inl (by omega))
          · have e : c = a := by
              rcases Nat.lt_or_ge a c with h' | h'
              · have := hB.gap c1 h'; omega
              · omega
            subst e; exact q2.srt)
        (fun c e c1 c2 c3 c4 => (h2 c e c1 (by omega) c3 c4).same q2.same (.inr c2))
        (ok_sub (fun c c1 => by
          rcases Nat.lt_or_ge a c with h' | h'
          · exact .inr (hB.gap c1 h')
          · exact .inl h') q2.sub q2.same h3)
        (fun i j x y p q hx hy => by
          have q' : a + 2 * k ≤ i := q.1
          rw [q2.same i (.inr q')] at hx
          rw [q2.same j (.inr (by omega))] at hy
          exact h4 i j x y p ⟨by omega, q.2⟩ hx hy)
      exact ⟨a', b', s2, k1, k2, k3, k4.trans q2.pm, k5⟩
    · have hbd : stabS_b3 (n : Int) cf (k : Int) ((a : Int), ((a + 2 * k : Nat) : Int), s) = some (.fin ((a : Int), ((a + 2 * k : Nat) : Int), s)) := by
        unfold stabS_b3
        simp only
        rw [if_neg (by rw [decide_eq_true_eq]; omega)]
      rw [hbd]
      exact ⟨a, _, _, rfl, ha, by omega, .refl _, hB, h1, h2, h3, h4⟩
theorem two_b2 (hO : Go.Sort.SWO (ltC c2)) (n : Nat) : ∀ (f k : Nat) (s : List α), s.length = n → n < 4294967296 → 0 < k → k < 8589934592 → n - k < f → Runs c2 k n s 0 → OkB cf c2 s (Sep k) →
    ∃ (k' : Int) (s' : List α), runW (stabS_b2 (n : Int) cf) f ((k : Int), s) = some (.fin (k', s')) ∧ s'.Perm s ∧ Srt c2 s' 0 n
  | 0, k, s, _, _, _, _, h, _, _ => by omega
  | f + 1, k, s, hs, hn, hk, hk2, hf, hr, ho => by
    have hF : 4294967296 < FUEL := by decide
    rw [runW]
    by_cases hg : k < n
    · obtain ⟨a', b', s', h1, h2, h2b, h3, hB, j1, j2, j3, j4⟩ := two_b3 (cf := cf) hO n k hk hg FUEL 0 s hs hn (by omega) (by omega) (Bd.zero _) (fun c _ h => by omega) hr
        (fun i j x y p q hx hy => by obtain ⟨c, c1, c2, c3⟩ := q; exact ho i j x y p ⟨c, c1.half, c2, c3⟩ hx hy) (fun i j x y p q hx hy => ho i j x y p q.2 hx hy)
      have e2 : IntKind.i64.wrap (2 * (k : Int)) = ((2 * k : Nat) : Int) := by rw [wrapI (by omega)]; omega
      have e3 : IntKind.i64.wrap ((k : Int) * 2) = ((2 * k : Nat) : Int) := by rw [wrapI (by omega)]; omega
      have h1' : runW (stabS_b3 (n : Int) cf (k : Int)) FUEL (0, ((2 * k : Nat) : Int), s) = some (.fin ((a' : Int), b', s')) := by
        have := h1; rw [Nat.zero_add] at this; exact this
      have hsl : s'.length = n := by rw [h3.length_eq]; exact hs
      obtain ⟨s2, hbd, q2⟩ : ∃ s2, stabS_b2 (n : Int) cf ((k : Int), s) = some (.next (((2 * k : Nat) : Int), s2)) ∧ Mrg c2 s' s2 a' n := by
        unfold stabS_b2
        simp only
        rw [if_pos (by rw [decide_eq_true_eq]; omega), e2, h1']
        simp only [Option.bind_some, Lp.elim]
        rw [wadd (x := a') (y := k) (by omega), e3]
        by_cases c : a' + k < n
        · rw [if_pos (by rw [decide_eq_true_eq]; omega)]
          obtain ⟨s3, q1, q2⟩ := symS_srt (cf := cf) hO s' a' (a' + k) n (by omega) c (by omega) (by omega) (j2 a' (a' + k) hB.half (Nat.le_refl _) (Nat.le_refl _) (by omega)) (j2 (a' + k) n hB.half.add (by omega) (by omega) (Nat.le_refl _))
            (fun i j x y p1 p2 p3 p4 hx hy => j4 i j x y (by omega) ⟨p1, a' + k, hB.half.add, p2, p3⟩ hx hy)
          rw [q1]; exact ⟨s3, rfl, q2⟩
        · rw [if_neg (by rw [decide_eq_true_eq]; omega)]
          exact ⟨s', rfl, Mrg.refl (j2 a' n hB.half (Nat.le_refl _) (by omega) (Nat.le_refl _))⟩
      rw [hbd]
      simp only
      have hgap : ∀ c, Bd (2 * k) c → c ≤ a' ∨ n ≤ c := fun c c1 => by
        rcases Nat.lt_or_ge a' c with h' | h'
        · have := hB.gap c1 h'; exact .inr (by omega)
        · exact .inl h'
      obtain ⟨k', s3, r1, r2, r3⟩ := two_b2 hO n f (2 * k) s2 (by rw [q2.pm.length_eq]; exact hsl) hn (by omega) (by omega) (by omega) (fun c e c1 _ c3 c4 => by
          rcases Nat.lt_or_ge c a' with hlt | hge
          · have := c1.gap hB hlt
            exact srt_mono ((j1 c c1 hlt).same q2.same (.inl (by omega))) (Nat.le_refl _) c3
          · rcases hgap c c1 with h' | h'
            · have e' : c = a' := by omega
              subst e'; exact srt_mono q2.srt (Nat.le_refl _) c4
            · exact fun i j x y p q r => by omega) (ok_sub hgap q2.sub q2.same j3)
      exact ⟨k', s3, r1, r2.trans (q2.pm.trans h3), r3⟩
    · have hbd : stabS_b2 (n : Int) cf ((k : Int), s) = some (.fin ((k : Int), s)) := by
        unfold stabS_b2
        simp only
        rw [if_neg (by rw [decide_eq_true_eq]; omega)]
      rw [hbd]
      exact ⟨_, _, rfl, .refl _, hr 0 n (Bd.zero _) (Nat.le_refl _) (by omega) (Nat.le_refl _)⟩
theorem sortSt_srt (hO : Go.Sort.SWO (ltC c2)) (s : List α) (hl : s.length < 4294967296) (h : ∀ (i j : Nat) (x y : α), i < j → s[i]? = some x → s[j]? = some y → (cf y x < 0 ↔ c2 y x < 0)) : ∃ s', sortSt s cf = some s' ∧ s'.Perm s ∧ s'.Pairwise fun x y => ¬ c2 y x < 0 := by
  have hF : 4294967296 < FUEL := by decide
  obtain ⟨a', b', s1, h1, h2, h2b, h3, hB, j1, j2, j3⟩ := two_b1 (cf := cf) hO s.length FUEL 0 s rfl hl (by omega) (by omega) (Bd.zero _) (fun c _ hc => absurd hc (Nat.not_lt_zero c)) (fun i j x y p _ hx hy => h i j x y p hx hy) (fun i j x y p _ hx hy => h i j x y p hx hy)
  have hl1 : s1.length = s.length := h3.length_eq
  obtain ⟨s2, k1, k2⟩ := insS_two (cf := cf) hO a' s.length s1 h2 (by omega) (by omega) (fun p q x y p1 p2 p3 hx hy => j3 p q x y p2 p1 hx hy)
  have hgap : ∀ c, Bd 20 c → c ≤ a' ∨ s.length ≤ c := fun c c1 => by
    rcases Nat.lt_or_ge a' c with h' | h'
    · have := hB.gap c1 h'; exact .inr (by omega)
    · exact .inl h'
  obtain ⟨k', s3, r1, r2, r3⟩ := two_b2 (cf := cf) hO s.length FUEL 20 s2 (by rw [k2.pm.length_eq]; exact hl1) hl (by omega) (by omega) (by omega) (fun c e c1 _ c3 c4 => by
      rcases Nat.lt_or_ge c a' with hlt | hge
      · have := c1.gap hB hlt
        exact srt_mono ((j1 c c1 hlt).same k2.same (.inl (by omega))) (Nat.le_refl _) c3
      · rcases hgap c c1 with h' | h'
        · have e' : c = a' := by omega
          subst e'; exact srt_mono k2.srt (Nat.le_refl _) c4
        · exact fun i j x y p q r => by omega) (ok_sub hgap k2.sub k2.same j2)
  have hp := r2.trans (k2.pm.trans h3)
  refine ⟨s3, ?_, hp, List.pairwise_iff_getElem.2 fun i j hi hj hij => r3 i j _ _ (Nat.zero_le _) hij (by rw [← hp.length_eq]; exact hj) (List.getElem?_eq_getElem hi) (List.getElem?_eq_getElem hj)⟩
  have h1' : runW (stabS_b1 (s.length : Int) cf) FUEL (0, 20, s) = some (.fin ((a' : Int), b', s1)) := h1
  have r1' : runW (stabS_b2 (s.length : Int) cf) FUEL (20, s2) = some (.fin (k', s3)) := r1
  unfold sortSt stabS
  rw [h1']
  simp only [Option.bind_some, Lp.elim]
  rw [k1]
  simp only [Option.bind_some]
  rw [r1']; rfl
end
end Go.Proofs.YtkfhcfkbaaekoaaDoor.K
