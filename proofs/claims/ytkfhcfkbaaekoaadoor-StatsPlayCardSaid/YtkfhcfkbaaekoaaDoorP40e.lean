/- StatsPlay: the spans and the rate. No Go and no memory. -/
import Derived.Test.YtkfhcfkbaaekoaaDoorP40d
namespace Go.Proofs.YtkfhcfkbaaekoaaDoor
open Go K
set_option linter.unusedVariables false
theorem upd16 : ∀ (x : A16i64) (i : Nat) (f : Int → Int), A16i64.list (A16i64.upd x i f) = (A16i64.list x).modify i f
  | _, 0, _ => rfl
  | _, 1, _ => rfl
  | _, 2, _ => rfl
  | _, 3, _ => rfl
  | _, 4, _ => rfl
  | _, 5, _ => rfl
  | _, 6, _ => rfl
  | _, 7, _ => rfl
  | _, 8, _ => rfl
  | _, 9, _ => rfl
  | _, 10, _ => rfl
  | _, 11, _ => rfl
  | _, 12, _ => rfl
  | _, 13, _ => rfl
  | _, 14, _ => rfl
  | _, 15, _ => rfl
  | x, i + 16, f => (List.modify_eq_self (l := A16i64.list x) (i := i + 16) (f := f) (by show 16 ≤ i + 16; omega)).symm
theorem get16 {x : A16i64} {i j : Nat} {f : Int → Int} (h : i ≠ j) : (A16i64.list (A16i64.upd x i f))[j]? = (A16i64.list x)[j]? := by
  rw [upd16, List.getElem?_modify]; simp [h]
theorem get16s {x : A16i64} {i : Nat} {f : Int → Int} {y : Int} (h : (A16i64.list x)[i]? = some y) : (A16i64.list (A16i64.upd x i f))[i]? = some (f y) := by
  rw [upd16, List.getElem?_modify]; simp [h]
theorem fwd2 (to : Int) (ht : to ≤ 109951162777) : ∀ (f : Nat) (n : Int) (s : Stats), 0 ≤ n → n ≤ 109951162778 → (to + 1 - n).toNat < f → ∃ n' s', runW (F25_forward_b1 to) f (n, s) = some (.fin (n', s')) ∧ s'.verdicts = s.verdicts ∧ s'.services = s.services ∧
    (∀ i : Nat, i < 16 → (∀ m : Int, n ≤ m → m ≤ to → (m % 16).toNat ≠ i) → (A16i64.list s'.spans)[i]? = (A16i64.list s.spans)[i]?) ∧ (∀ m : Int, n ≤ m → m ≤ to → (A16i64.list s'.spans)[(m % 16).toNat]? = some 0)
  | 0, _, _, _, _, h => absurd h (by omega)
  | f + 1, n, s, h0, h1, h2 => by
    rw [runW]
    by_cases h : n ≤ to
    · have hm : n.tmod 16 = n % 16 := Int.tmod_eq_emod_of_nonneg h0
      obtain ⟨y, hy, hy2⟩ := ixO_ex (l := A16i64.list s.spans) (i := n.tmod 16) (by rw [hm]; omega) (by rw [hm]; show n % 16 < 16; omega)
      have hb : F25_forward_b1 to (n, s) = some (.next (n + 1, { verdicts := s.verdicts, services := s.services, spans := A16i64.upd s.spans (n.tmod 16).toNat (fun _ => 0), last := s.last })) := by
        unfold F25_forward_b1
        rw [if_pos (by rw [decide_eq_true_iff]; exact h), hy]
        simp only [Option.bind_some]
        rw [wrapI (by omega)]
      rw [hb]
      obtain ⟨n', s', k1, k2, k3, k4, k5⟩ := fwd2 to ht f (n + 1) { verdicts := s.verdicts, services := s.services, spans := A16i64.upd s.spans (n.tmod 16).toNat (fun _ => 0), last := s.last } (by omega) (by omega) (by omega)
      rw [hm] at hy2 k4
      refine ⟨n', s', k1, k2, k3, fun i hi hno => ?_, fun m hm1 hm2 => ?_⟩
      · rw [k4 i hi fun m p q => hno m (by omega) q]
        exact get16 (hno n (Int.le_refl _) h)
      · by_cases hmn : m = n
        · subst hmn
          by_cases hex : ∃ m', m + 1 ≤ m' ∧ m' ≤ to ∧ (m' % 16).toNat = (m % 16).toNat
          · obtain ⟨m', p, q, e⟩ := hex
            have := k5 m' p q
            rwa [e] at this
          · rw [k4 _ (by omega) fun m' p q e => hex ⟨m', p, q, e⟩]
            exact get16s hy2
        · exact k5 m (by omega) hm2
    · have hb : F25_forward_b1 to (n, s) = some (.fin (n, s)) := by
        unfold F25_forward_b1
        rw [if_neg (by rw [decide_eq_true_iff]; exact h)]
      rw [hb]
      exact ⟨n, s, rfl, rfl, rfl, fun _ _ _ => rfl, fun m p q => absurd q (by omega)⟩
def cS (A : List Told) (n : Int) : Nat := (A.filter fun x => decide (x.span = n)).length
structure SpR (s : Stats) (A : List Told) : Prop where
  l0 : 0 ≤ s.last
  l1 : s.last ≤ 109951162777
  all : ∀ x ∈ A, 0 ≤ x.span ∧ x.span ≤ s.last
  sp : ∀ n : Int, 0 ≤ n → s.last - 16 < n → n ≤ s.last → (A16i64.list s.spans)[(n % 16).toNat]? = some ((cS A n : Nat) : Int)
theorem forward2 {s : Stats} {A : List Told} (h : SpR s A) (to : Int) (h2 : s.last ≤ to) (h3 : to ≤ 109951162777) : ∃ s', F25_forward s to = some s' ∧ s'.verdicts = s.verdicts ∧ s'.services = s.services ∧ s'.last = to ∧ SpR s' A := by
  have hF : FUEL = 4611686018427387904 := rfl
  have h0 := h.l0
  have h1 := h.l1
  unfold F25_forward
  rw [wrapI (n := to - 16) (by omega), wrapI (n := to - 16 + 1) (by omega), wrapI (n := s.last + 1) (by omega)]
  obtain ⟨n', s', e, e1, e2, e3, e4⟩ := fwd2 to h3 FUEL (if to - 16 + 1 > s.last + 1 then to - 16 + 1 else s.last + 1) s (by split <;> omega) (by split <;> omega) (by split <;> omega)
  rw [e]
  refine ⟨_, rfl, e1, e2, rfl, ⟨by show 0 ≤ to; omega, h3, fun x hx => ⟨(h.all x hx).1, Int.le_trans (h.all x hx).2 h2⟩, fun n p q r => ?_⟩⟩
  show (A16i64.list s'.spans)[(n % 16).toNat]? = _
  have q' : to - 16 < n := q
  have r' : n ≤ to := r
  by_cases hn : n ≤ s.last
  · rw [e3 _ (by omega) fun m m1 m2 e => by
      have : s.last + 1 ≤ m := by split at m1 <;> omega
      omega]
    exact h.sp n p (by omega) hn
  · rw [e4 n (by split <;> omega) r']
    have : cS A n = 0 := by
      unfold cS
      rw [List.filter_eq_nil_iff.2 fun x hx => by rw [decide_eq_true_iff]; have := (h.all x hx).2; omega]; rfl
    rw [this]; rfl
theorem cS_app (A : List Told) (x : Told) (n : Int) : cS (A ++ [x]) n = cS A n + if x.span = n then 1 else 0 := by
  unfold cS
  rw [List.filter_append, List.length_append]
  by_cases h : x.span = n <;> simp [h]
theorem cS_le (A : List Told) (n : Int) : cS A n ≤ A.length := List.length_filter_le _ _
theorem SpR.add {s : Stats} {A : List Told} (h : SpR s A) (hA : A.length ≤ 900) (x : Told) (hx : x.span = s.last) {X : Stats} {y : Int} (hy : (A16i64.list s.spans)[(s.last % 16).toNat]? = some y) (hX : X.spans = A16i64.upd s.spans (s.last % 16).toNat (fun _ => IntKind.i64.wrap (y + 1))) (hl : X.last = s.last) : SpR X (A ++ [x]) := by
  have h0 := h.l0
  refine ⟨by rw [hl]; exact h0, by rw [hl]; exact h.l1, fun z hz => ?_, fun n p q r => ?_⟩
  · rw [hl]
    rcases List.mem_append.1 hz with hz | hz
    · exact h.all z hz
    · rw [List.mem_singleton.1 hz, hx]; omega
  · rw [hl] at q r
    rw [hX, cS_app]
    by_cases e : n = s.last
    · subst e
      have h1 := h.sp s.last h0 (by omega) (Int.le_refl _)
      rw [hy] at h1
      have hle := cS_le A s.last
      rw [get16s hy, Option.some.inj h1, wrapI (by omega), if_pos hx]; rfl
    · rw [get16 (by omega), h.sp n p q r, if_neg (by rw [hx]; exact fun e' => e e'.symm)]; rfl
def cR (A : List Told) (n hi last : Int) : Nat := (A.filter fun x => decide (n ≤ x.span) && decide (x.span ≤ hi) && decide (x.span > last - 16)).length
theorem cR_le (A : List Told) (n hi last : Int) : cR A n hi last ≤ A.length := List.length_filter_le _ _
theorem cR_step (last hi n : Int) (h : n ≤ hi) : ∀ A : List Told, (∀ x ∈ A, x.span ≤ last) → cR A n hi last = (if n ≤ last ∧ n > last - 16 then cS A n else 0) + cR A (n + 1) hi last
  | [], _ => by simp [cR, cS]
  | x :: A, ha => by
    have ih := cR_step last hi n h A fun y hy => ha y (by simp [hy])
    have hx := ha x (by simp)
    unfold cR cS at ih ⊢
    simp only [List.filter_cons]
    by_cases e : x.span = n
    · by_cases e2 : n > last - 16
      · have c1 : (decide (n ≤ x.span) && decide (x.span ≤ hi) && decide (x.span > last - 16)) = true := by simp; omega
        have c2 : (decide (n + 1 ≤ x.span) && decide (x.span ≤ hi) && decide (x.span > last - 16)) = false := by simp; omega
        have hok : n ≤ last ∧ n > last - 16 := by omega
        rw [c1, c2]
        simp only [if_true, Bool.false_eq_true, if_false, hok, and_self, e, decide_true, List.length_cons] at ih ⊢
        omega
      · have c1 : (decide (n ≤ x.span) && decide (x.span ≤ hi) && decide (x.span > last - 16)) = false := by simp; omega
        have c2 : (decide (n + 1 ≤ x.span) && decide (x.span ≤ hi) && decide (x.span > last - 16)) = false := by simp; omega
        have hok : ¬ (n ≤ last ∧ n > last - 16) := by omega
        rw [c1, c2]
        simp only [Bool.false_eq_true, if_false, if_neg hok] at ih ⊢
        exact ih
    · have c1 : (decide (n ≤ x.span) && decide (x.span ≤ hi) && decide (x.span > last - 16)) = (decide (n + 1 ≤ x.span) && decide (x.span ≤ hi) && decide (x.span > last - 16)) := by
        congr 2; exact decide_eq_decide.2 (by omega)
      rw [c1, if_neg (show ¬ decide (x.span = n) = true by simpa using e)]
      by_cases c : (decide (n + 1 ≤ x.span) && decide (x.span ≤ hi) && decide (x.span > last - 16)) = true
      · rw [if_pos c, if_pos c]; simp only [List.length_cons]; omega
      · rw [if_neg c, if_neg c]; exact ih
theorem cR_end {A : List Told} {n hi last : Int} (h : hi < n) : cR A n hi last = 0 := by
  unfold cR
  rw [List.filter_eq_nil_iff.2 fun x _ => by simp; omega]; rfl
theorem rate_loop {s : Stats} {A : List Told} (h : SpR s A) (hA : A.length ≤ 900) (now : Int) (hn0 : 0 ≤ now) (hn1 : now ≤ 1099511627776) : ∀ (f : Nat) (n acc : Int), 0 ≤ n → n ≤ now / 10 + 1 → (now / 10 + 1 - n).toNat < f → 0 ≤ acc → acc + ((cR A n (now / 10) s.last : Nat) : Int) ≤ 1000000 →
    ∃ n', runW (F21_Rate_b1 s now) f (acc, n) = some (.fin (acc + ((cR A n (now / 10) s.last : Nat) : Int), n'))
  | 0, _, _, _, _, hf, _, _ => absurd hf (by omega)
  | f + 1, n, acc, h0, h1, hf, ha, ha2 => by
    have hl0 := h.l0
    have hl1 := h.l1
    have hq : now.tdiv 10 = now / 10 := Int.tdiv_eq_ediv_of_nonneg hn0
    have hw : IntKind.i64.wrap (now.tdiv 10) = now / 10 := by rw [hq, wrapI (by omega)]
    rw [runW]
    by_cases hle : n ≤ now / 10
    · have e0 : F21_Rate_b1 s now (acc, n) = _ := if_pos (by rw [decide_eq_true_iff, hw]; exact hle)
      have hs := cR_step s.last (now / 10) n hle A fun x hx => (h.all x hx).2
      have hcl := cS_le A n
      by_cases hok : n ≤ s.last ∧ n > s.last - 16
      · rw [if_pos hok] at hs
        rw [hs] at ha2
        have hm : n.tmod 16 = n % 16 := Int.tmod_eq_emod_of_nonneg h0
        have hsp := h.sp n h0 (by omega) hok.1
        have hix : ixO (A16i64.list s.spans) (n.tmod 16) = some ((cS A n : Nat) : Int) := by
          have := ixO_at hsp
          rwa [Int.toNat_of_nonneg (by omega), ← hm] at this
        have e1 : F21_Rate_b1 s now (acc, n) = some (.next (acc + ((cS A n : Nat) : Int), n + 1)) := by
          rw [e0]
          refine Eq.trans (if_pos (by rw [wrapI (by omega)]; simp; omega)) ?_
          rw [hix]
          simp only [Option.bind_some]
          rw [wrapI (by omega), wrapI (by omega)]
        rw [e1]
        obtain ⟨n', k⟩ := rate_loop h hA now hn0 hn1 f (n + 1) (acc + ((cS A n : Nat) : Int)) (by omega) (by omega) (by omega) (by omega) (by omega)
        refine ⟨n', ?_⟩
        simp only
        rw [k, hs]; congr 3; omega
      · rw [if_neg hok] at hs
        rw [hs] at ha2
        have e1 : F21_Rate_b1 s now (acc, n) = some (.next (acc, n + 1)) := by
          rw [e0]
          refine Eq.trans (if_neg (by rw [wrapI (by omega)]; simp; omega)) ?_
          rw [wrapI (by omega)]
        rw [e1]
        obtain ⟨n', k⟩ := rate_loop h hA now hn0 hn1 f (n + 1) acc (by omega) (by omega) (by omega) ha (by omega)
        refine ⟨n', ?_⟩
        simp only
        rw [k, hs]; congr 3; omega
    · have e0 : F21_Rate_b1 s now (acc, n) = some (.fin (acc, n)) := if_neg (by rw [decide_eq_true_iff, hw]; exact hle)
      rw [e0, cR_end (by omega)]
      exact ⟨n, by simp⟩
end Go.Proofs.YtkfhcfkbaaekoaaDoor
