/- The plain law of StatsPlay. No Go and no memory. -/
import Derived.Test.YtkfhcfkbaaekoaaDoorP40e
namespace Go.Proofs.YtkfhcfkbaaekoaaDoor
open Go K
set_option linter.unusedVariables false
theorem cnt_fold {body : Told → Int → Int} (c : Told → Bool) (hb : ∀ x s, body x s = if c x = true then IntKind.i64.wrap (s + 1) else s) : ∀ (A : List Told) (a : Int), 0 ≤ a → a + (A.length : Int) ≤ 1000000 → runA body A a = a + (((A.filter c).length : Nat) : Int)
  | [], a, _, _ => by simp [runA]
  | x :: A, a, h0, h1 => by
    simp only [List.length_cons] at h1
    rw [runA, hb, List.filter_cons]
    by_cases h : c x = true
    · rw [if_pos h, if_pos h, wrapI (by omega), cnt_fold c hb A (a + 1) (by omega) (by omega), List.length_cons]; omega
    · rw [if_neg h, if_neg h, cnt_fold c hb A a h0 (by omega)]
def LastR (s : Stats) (A : List Told) : Prop := (A = [] ∧ s.last = 0) ∨ ∃ y, 0 < A.length ∧ A[A.length - 1]? = some y ∧ y.span = s.last
theorem rate_eq {s : Stats} {A : List Told} (h : SpR s A) (hA : A.length ≤ 60) (hL : LastR s A) (a1 a2 : Int) : ∃ y, F21_Rate s a1 a2 = some y ∧ F22_Rate ⟨A⟩ a1 a2 = some y ∧ (FloatKind.f64.format.order y y == some .eq) = true := by
  have hF : FUEL = 4611686018427387904 := rfl
  have hl0 := h.l0
  have hl1 := h.l1
  by_cases hbad : a1 < 0 ∨ a1 > 1099511627776
  · refine ⟨0, ?_, ?_, by decide +kernel⟩
    · exact if_pos (by show (!(decide (a1 ≥ 0) && decide (a1 ≤ 1099511627776))) = true; simp; omega)
    · exact if_pos (by show (decide (a1 < 0) || decide (a1 > 1099511627776)) = true; simp; omega)
  · have hq : a1.tdiv 10 = a1 / 10 := Int.tdiv_eq_ediv_of_nonneg (by omega)
    have hw : IntKind.i64.wrap (a1.tdiv 10) = a1 / 10 := by rw [hq, wrapI (by omega)]
    obtain ⟨k, hk, k1, k2⟩ : ∃ k : Nat, (if 16 < (if 1 > a2 then 1 else a2) then 16 else (if 1 > a2 then 1 else a2)) = (k : Int) ∧ 1 ≤ k ∧ k ≤ 16 := by
      refine ⟨(if 16 < (if 1 > a2 then 1 else a2) then (16 : Int) else (if 1 > a2 then 1 else a2)).toNat, ?_, ?_, ?_⟩ <;> (repeat' split) <;> omega
    have hk2 : (if decide ((if decide (a2 < 1) = true then 1 else a2) > 16) = true then 16 else (if decide (a2 < 1) = true then 1 else a2)) = (k : Int) := by
      rw [← hk]
      by_cases c1 : a2 < 1
      · have c2 : 1 > a2 := c1
        simp [c1]
      · simp [c1]
    have e1 : F21_Rate s a1 a2 = _ := if_neg (by show ¬ (!(decide (a1 ≥ 0) && decide (a1 ≤ 1099511627776))) = true; simp; omega)
    have e2 : F22_Rate ⟨A⟩ a1 a2 = _ := if_neg (by show ¬ (decide (a1 < 0) || decide (a1 > 1099511627776)) = true; simp; omega)
    have hX : (if (0 : Int) > IntKind.i64.wrap (IntKind.i64.wrap (a1 / 10 - (k : Int)) + 1) then 0 else IntKind.i64.wrap (IntKind.i64.wrap (a1 / 10 - (k : Int)) + 1)) = if (0 : Int) > a1 / 10 - (k : Int) + 1 then 0 else a1 / 10 - (k : Int) + 1 := by
      rw [wrapI (n := a1 / 10 - (k : Int)) (by omega), wrapI (by omega)]
    obtain ⟨lo, hlo⟩ : ∃ lo, (if (0 : Int) > a1 / 10 - (k : Int) + 1 then 0 else a1 / 10 - (k : Int) + 1) = lo := ⟨_, rfl⟩
    have hlo2 : 0 ≤ lo ∧ lo ≤ a1 / 10 + 1 ∧ (lo = 0 ∧ a1 / 10 - (k : Int) + 1 < 0 ∨ lo = a1 / 10 - (k : Int) + 1) := by
      rw [← hlo]; split <;> omega
    have hcl := cR_le A lo (a1 / 10) s.last
    obtain ⟨n', hloop⟩ := rate_loop h (by omega) a1 (by omega) (by omega) FUEL lo 0 hlo2.1 hlo2.2.1 (by omega) (Int.le_refl _) (by omega)
    obtain ⟨y, hy, hyy⟩ := rate_div (s := cR A lo (a1 / 10) s.last) (k := k) (by omega) k1 k2
    refine ⟨y, ?_, ?_, hyy⟩
    · rw [e1]
      rw [hk, hw, hX, hlo, hloop]
      simp only [Option.bind_some, Lp.elim]
      rw [Int.zero_add, wrapI (by omega), hy]; rfl
    · have hfil : ∀ (c : Told → Bool), (∀ x ∈ A, c x = (decide (lo ≤ x.span) && decide (x.span ≤ a1 / 10) && decide (x.span > s.last - 16))) → (A.filter c).length = cR A lo (a1 / 10) s.last := fun c hc => by
        unfold cR; rw [List.filter_congr hc]
      rw [e2]
      show (if (decide (((A.length : Nat) : Int) > 0)) = true then _ else _) = _
      rcases hL with ⟨h1, h2⟩ | ⟨z, h1, h2, h3⟩
      · subst h1
        rw [if_neg (by simp)]
        show (FloatKind.f64.format.div (FloatKind.f64.nearest 0) (FloatKind.f64.nearest (IntKind.i64.wrap (10 * (if decide ((if decide (a2 < 1) = true then 1 else a2) > 16) = true then 16 else (if decide (a2 < 1) = true then 1 else a2)))))).bind (fun y => some y) = some y
        have hc0 : cR ([] : List Told) lo (a1 / 10) s.last = 0 := rfl
        rw [hc0] at hy
        rw [hk2, wrapI (by omega)]
        rw [show ((0 : Nat) : Int) = 0 from rfl] at hy
        rw [hy]; rfl
      · rw [if_pos (by rw [decide_eq_true_iff]; omega)]
        have hix : ixO A (IntKind.i64.wrap (((A.length : Nat) : Int) - 1)) = some z := by
          rw [wrapI (by omega), show ((A.length : Nat) : Int) - 1 = ((A.length - 1 : Nat) : Int) by omega]
          exact ixO_at h2
        rw [hix]
        show (FloatKind.f64.format.div (FloatKind.f64.nearest (runA (F22_Rate_b1 a1 (if decide ((if decide (a2 < 1) = true then 1 else a2) > 16) = true then 16 else (if decide (a2 < 1) = true then 1 else a2)) z) A 0)) (FloatKind.f64.nearest (IntKind.i64.wrap (10 * (if decide ((if decide (a2 < 1) = true then 1 else a2) > 16) = true then 16 else (if decide (a2 < 1) = true then 1 else a2)))))).bind (fun y => some y) = some y
        rw [hk2, wrapI (by omega)]
        have hc := cnt_fold (body := F22_Rate_b1 a1 (k : Int) z) (fun x => decide (x.span ≤ IntKind.i64.wrap (a1.tdiv 10)) && decide (x.span > IntKind.i64.wrap (IntKind.i64.wrap (a1.tdiv 10) - (k : Int))) && decide (x.span > IntKind.i64.wrap (z.span - 16))) (fun x s => rfl) A 0 (Int.le_refl _) (by omega)
        rw [hc, Int.zero_add, hfil _ (fun x hx => by
          have hsp := h.all x hx
          rw [hw, h3, wrapI (by omega), wrapI (by omega), Bool.eq_iff_iff]
          simp only [Bool.and_eq_true, decide_eq_true_eq]
          omega), hy]
        rfl
structure RT (s : Stats) (A : List Told) (sz : Int) : Prop where
  si : SI A.length sz s
  sp : SpR s A
  ver : VerR s A
  srv : SrvR s A
  lst : LastR s A
theorem RT.new : RT F7_New [] 0 := by
  refine ⟨SI.new, ⟨by decide, by decide, (fun x hx => by cases hx), fun n h0 h1 h2 => ?_⟩, fun v hv => ?_, fun k => rfl, .inl ⟨rfl, rfl⟩⟩
  · have h1' : (0 : Int) - 16 < n := h1
    have h2' : n ≤ 0 := h2
    have : n = 0 := by omega
    subst this; rfl
  · match v, hv with
    | 0, _ => rfl
    | 1, _ => rfl
    | 2, _ => rfl
    | 3, _ => rfl
    | 4, _ => rfl
    | 5, _ => rfl
    | 6, _ => rfl
    | n + 7, h => exact absurd h (by omega)
theorem served_mget (s : Stats) (o : Out) (A : List Told) (x : Told) (hx1 : x.verdict = o.verdict) (hx2 : x.service = o.front.service) (hx3 : x.fronted = true) (hv : 0 ≤ o.verdict ∧ o.verdict ≤ 6) (hr : SrvR s A) : SrvR (F26_served s o) (A ++ [x]) := by
  have hold : ∀ k, (mget s.services k).getD Service.z = if hits A k = true then svc A k else Service.z := fun k => by
    rw [hr]; split <;> rfl
  have hfld : ∀ k, ((mget s.services k).getD Service.z).begun = (svc A k).begun ∧ ((mget s.services k).getD Service.z).filtered = (svc A k).filtered ∧ ((mget s.services k).getD Service.z).rejected = (svc A k).rejected ∧ ((mget s.services k).getD Service.z).full = (svc A k).full := fun k => by
    rw [hold]
    by_cases h : hits A k = true
    · rw [if_pos h]; exact ⟨rfl, rfl, rfl, rfl⟩
    · rw [if_neg h, svc_no (by simpa using h)]; exact ⟨rfl, rfl, rfl, rfl⟩
  have b3 : ∀ v : Service, F19_Services_b3 o.front.service x v = _ := fun v => if_neg (by show ¬ (!x.fronted || !decide (x.service = o.front.service)) = true; rw [hx3, hx2]; simp)
  obtain ⟨f1, f2, f3, f4⟩ := hfld o.front.service
  have hkey := svc_key A o.front.service
  have put : ∀ (v : Service) (X : Stats), X.services = mput s.services o.front.service v → hit x = true → F19_Services_b3 o.front.service x (svc A o.front.service) = v → SrvR X (A ++ [x]) := by
    intro v X hX hh hb k
    rw [hX, mget_mput, hits_app, svc_app]
    by_cases e : k = o.front.service
    · rw [if_pos e, e, hb, hh, hx2]; simp
    · rw [if_neg e, hr]
      have hno : (hit x && decide (x.service = k)) = false := by rw [hx2]; simp; exact fun _ e' => e e'.symm
      rw [hno, Bool.or_false, b3_no k x _ hno]
  have stay : ∀ (X : Stats), X.services = s.services → hit x = false → SrvR X (A ++ [x]) := by
    intro X hX hh k
    have hno : (hit x && decide (x.service = k)) = false := by rw [hh]; rfl
    rw [hX, hr, hits_app, svc_app, hno, Bool.or_false, b3_no k x _ hno]
  unfold F26_served
  by_cases h2 : o.verdict = 2
  · rw [if_pos (by rw [decide_eq_true_iff]; exact h2)]
    refine put _ _ rfl (by unfold hit; rw [hx3, hx1, h2]; rfl) ?_
    rw [b3, if_pos (by rw [decide_eq_true_iff, hx1]; exact h2), f1, f2, f3, f4, hkey]
  · rw [if_neg (by rw [decide_eq_true_iff]; exact h2)]
    by_cases h4 : o.verdict = 4
    · rw [if_pos (by rw [decide_eq_true_iff]; exact h4)]
      refine put _ _ rfl (by unfold hit; rw [hx3, hx1, h4]; rfl) ?_
      rw [b3, if_neg (by rw [decide_eq_true_iff, hx1]; exact h2), if_pos (by rw [decide_eq_true_iff, hx1]; exact h4), f1, f2, f3, f4, hkey]
    · rw [if_neg (by rw [decide_eq_true_iff]; exact h4)]
      by_cases h5 : o.verdict = 5
      · rw [if_pos (by rw [decide_eq_true_iff]; exact h5)]
        refine put _ _ rfl (by unfold hit; rw [hx3, hx1, h5]; rfl) ?_
        rw [b3, if_neg (by rw [decide_eq_true_iff, hx1]; exact h2), if_neg (by rw [decide_eq_true_iff, hx1]; exact h4), if_pos (by rw [decide_eq_true_iff, hx1]; exact h5), f1, f2, f3, f4, hkey]
      · rw [if_neg (by rw [decide_eq_true_iff]; exact h5)]
        by_cases h6 : o.verdict = 6
        · rw [if_pos (by rw [decide_eq_true_iff]; exact h6)]
          refine put _ _ rfl (by unfold hit; rw [hx3, hx1, h6]; rfl) ?_
          rw [b3, if_neg (by rw [decide_eq_true_iff, hx1]; exact h2), if_neg (by rw [decide_eq_true_iff, hx1]; exact h4), if_neg (by rw [decide_eq_true_iff, hx1]; exact h5), if_pos (by rw [decide_eq_true_iff, hx1]; exact h6), f1, f2, f3, f4, hkey]
        · rw [if_neg (by rw [decide_eq_true_iff]; exact h6)]
          exact stay _ rfl (by unfold hit; rw [hx3, hx1]; simp; omega)
end Go.Proofs.YtkfhcfkbaaekoaaDoor
