/- Lists put in order two ways: each value put in where it belongs; the library's sort, then neighbours told once. No program is named. -/
import Derived.Test.YtkfhcfkbaaekoaaDoorS5
namespace Go.Proofs.YtkfhcfkbaaekoaaDoor.K
open Go
set_option linter.unusedVariables false
section
variable {α : Type} [DecidableEq α] {lt : α → α → Bool}
def insB2 (C : α → α → Option Int) (out : List α) (z : α) (s : Int) : Option (Step Empty Int) := (andO (decide (s > 0)) ((ixO out (IntKind.i64.wrap (s - 1))).bind fun y => (C z y).bind fun c => some (decide (c < 0)))).bind fun b => (if b = true then some (.next (IntKind.i64.wrap (s - 1))) else some (.fin s))
def insB1 (C : α → α → Option Int) (z : α) (out : List α) : Option (List α) := (runW (insB2 C out z) FUEL ((out.length : Nat) : Int)).bind fun o => o.elim (fun r => r.elim) fun (p : Int) => (andO (decide (p > 0)) ((ixO out (IntKind.i64.wrap (p - 1))).bind fun y => some (decide (y = z)))).bind fun b => (if b = true then some out else (slO out 0 p).bind fun a => (apO [] a).bind fun _ => (apO ([] ++ a) [z]).bind fun _ => (slO out p ((out.length : Nat) : Int)).bind fun c => (apO (([] ++ a) ++ [z]) c).bind fun _ => some ((([] ++ a) ++ [z]) ++ c))
def insG (C : α → α → Option Int) (zs : List α) : Option (List α) := (runAO (insB1 C) zs []).bind fun (s : List α) => some s
omit [DecidableEq α] in
theorem ins_loop (C : α → α → Option Int) (out : List α) (z : α) (hC : ∀ y ∈ out, ∃ c, C z y = some c ∧ decide (c < 0) = lt z y) : ∀ (f p : Nat), p < f → p ≤ out.length → out.length < FUEL → (∀ y ∈ out.drop p, lt z y = true) →
    ∃ q, runW (insB2 C out z) f ((p : Nat) : Int) = some (.fin ((q : Nat) : Int)) ∧ q ≤ out.length ∧ (∀ y ∈ out.drop q, lt z y = true) ∧ (q = 0 ∨ ∃ y, out[q - 1]? = some y ∧ lt z y = false)
  | 0, p, h, _, _, _ => by omega
  | f + 1, p, h, hp, hl, hh => by
    have hF : FUEL < 9223372036854775807 := by decide
    rw [runW]
    simp only [insB2]
    rcases Nat.eq_zero_or_pos p with e | e
    · subst e
      refine ⟨0, ?_, Nat.zero_le _, hh, .inl rfl⟩
      simp [andO]
    · have hg : out[p - 1]? = some out[p - 1] := List.getElem?_eq_getElem (by omega)
      obtain ⟨c, hc, hlt⟩ := hC out[p - 1] (List.getElem_mem _)
      rw [wrapm e (by omega), ixO_at hg]
      simp only [Option.bind_some, andO, hc, hlt]
      rw [if_pos (by rw [decide_eq_true_eq]; omega)]
      simp only [Option.bind_some]
      cases hb : lt z out[p - 1] with
      | true =>
        simp only [if_true]
        refine ins_loop C out z hC f (p - 1) (by omega) (by omega) hl fun y hy => ?_
        have hd : out.drop (p - 1) = out[p - 1] :: out.drop p := by
          rw [List.drop_eq_getElem_cons (by omega)]; congr 2; omega
        rw [hd] at hy
        rcases List.mem_cons.1 hy with e2 | hy
        · rw [e2]; exact hb
        · exact hh y hy
      | false =>
        simp only [Bool.false_eq_true, if_false]
        exact ⟨p, rfl, hp, hh, .inr ⟨_, hg, hb⟩⟩
theorem ins_one (h : STO lt) (C : α → α → Option Int) (z : α) (out : List α) (hC : ∀ y ∈ out, ∃ c, C z y = some c ∧ decide (c < 0) = lt z y) (ho : Ord lt out) (hl : out.length + 1 < LIM) :
    ∃ r, insB1 C z out = some r ∧ Ord lt r ∧ r.length ≤ out.length + 1 ∧ ∀ x, x ∈ r ↔ x ∈ out ∨ x = z := by
  have hF : FUEL < 9223372036854775807 := by decide
  have hL : LIM < FUEL := by decide
  obtain ⟨q, h1, h2, h3, h4⟩ := ins_loop C out z hC FUEL out.length (by omega) (Nat.le_refl _) (by omega) (by simp)
  have hs : Spot lt out z q := ⟨h2, fun y hy => by
    rcases h4 with h4 | ⟨u, hu, hlt⟩
    · subst h4; simp at hy
    · obtain ⟨i, hi, he⟩ := List.mem_iff_getElem.1 hy
      have hi' : i < min q out.length := by simpa using hi
      rw [List.getElem_take] at he
      rcases Nat.lt_or_ge i (q - 1) with hlt' | hge
      · have h5 := List.pairwise_iff_getElem.1 ho i (q - 1) (by omega) (by omega) hlt'
        rw [List.getElem?_eq_getElem (by omega)] at hu
        rw [he, Option.some.inj hu] at h5
        cases hz : lt z y with
        | false => rfl
        | true => have := h.trans _ _ _ hz h5; rw [this] at hlt; cases hlt
      · have e : i = q - 1 := by omega
        subst e
        rw [List.getElem?_eq_getElem (by omega), he] at hu
        rw [Option.some.inj hu]; exact hlt, h3⟩
  have hhas := hs.has h ho
  unfold insB1
  rw [h1]
  simp only [Option.bind_some, Lp.elim]
  by_cases hz : z ∈ out
  · obtain ⟨y, hq, hy, rfl⟩ := hhas.1 hz
    rw [wrapm hq (by omega), ixO_at hy]
    refine ⟨out, ?_, ho, by omega, fun x => ⟨.inl, fun h => h.elim id fun e => e ▸ hz⟩⟩
    simp only [andO, Option.bind_some]
    rw [if_pos (by rw [decide_eq_true_eq]; omega)]
    simp
  · have hp := hs.put h ho hz
    have hb : (andO (decide (((q : Nat) : Int) > 0)) ((ixO out (IntKind.i64.wrap (((q : Nat) : Int) - 1))).bind fun y => some (decide (y = z)))) = some false := by
      rcases Nat.eq_zero_or_pos q with e | e
      · subst e; rfl
      · have hg : out[q - 1]? = some out[q - 1] := List.getElem?_eq_getElem (by omega)
        rw [wrapm e (by omega), ixO_at hg]
        simp only [andO, Option.bind_some]
        rw [if_pos (by rw [decide_eq_true_eq]; omega)]
        congr 1
        rw [decide_eq_false_iff_not]
        intro h; exact hz (hhas.2 ⟨_, e, hg, h⟩)
    rw [hb]
    simp only [Option.bind_some, Bool.false_eq_true, if_false]
    have e0 : ((0 : Nat) : Int) = 0 := rfl
    rw [← e0, slO_ok (Nat.zero_le _) h2]
    simp only [Option.bind_some, List.drop_zero, Nat.sub_zero]
    have ht : (out.take q).length = q := by simp; omega
    rw [apO_ok (by simp; omega)]
    simp only [Option.bind_some, List.nil_append]
    rw [apO_ok (by simp; omega), slO_ok h2 (Nat.le_refl _)]
    simp only [Option.bind_some]
    have hdr : (out.drop q).take (out.length - q) = out.drop q := List.take_of_length_le (by simp)
    rw [hdr, apO_ok (by simp; omega)]
    simp only [Option.bind_some]
    exact ⟨_, rfl, hp.1, by simp; omega, hp.2⟩
theorem ins_all (h : STO lt) (C : α → α → Option Int) (p : α → Prop) (hC : ∀ z y, p z → p y → ∃ c, C z y = some c ∧ decide (c < 0) = lt z y) : ∀ (zs out : List α), (∀ z ∈ zs, p z) → (∀ z ∈ out, p z) → Ord lt out → out.length + zs.length < LIM →
    ∃ r, runAO (insB1 C) zs out = some r ∧ Ord lt r ∧ r.length ≤ out.length + zs.length ∧ ∀ x, x ∈ r ↔ x ∈ out ∨ x ∈ zs
  | [], out, _, _, ho, _ => ⟨out, rfl, ho, by simp, fun x => by simp⟩
  | z :: zs, out, hz, hp, ho, hl => by
    simp only [List.length_cons] at hl
    obtain ⟨r, h1, h2, h3, h4⟩ := ins_one h C z out (fun y hy => hC z y (hz z (by simp)) (hp y hy)) ho (by omega)
    obtain ⟨r2, k1, k2, k3, k4⟩ := ins_all h C p hC zs r (fun x hx => hz x (by simp [hx])) (fun x hx => ((h4 x).1 hx).elim (hp x) fun e => e ▸ hz z (by simp)) h2 (by omega)
    refine ⟨r2, by rw [runAO, h1]; exact k1, k2, by simp only [List.length_cons]; omega, fun x => ?_⟩
    rw [k4, h4, List.mem_cons, or_assoc]
theorem insG_eq (h : STO lt) (C : α → α → Option Int) (p : α → Prop) (hC : ∀ z y, p z → p y → ∃ c, C z y = some c ∧ decide (c < 0) = lt z y) (zs : List α) (hz : ∀ z ∈ zs, p z) (hl : zs.length < LIM) :
    ∃ r, insG C zs = some r ∧ Ord lt r ∧ r.length ≤ zs.length ∧ ∀ x, x ∈ r ↔ x ∈ zs := by
  obtain ⟨r, h1, h2, h3, h4⟩ := ins_all h C p hC zs [] hz (by simp) List.Pairwise.nil (by simpa using hl)
  exact ⟨r, by unfold insG; rw [h1]; rfl, h2, by simpa using h3, by simpa using h4⟩
end
theorem swo_key {α : Type} (key : α → List Int) : Go.Sort.SWO (ltK key) where
  irrefl x := by unfold ltK; rw [lexc_self]; rfl
  trans x y z h k := ltK_iff.2 (lexc_trans (ltK_iff.1 h) (ltK_iff.1 k))
  ntrans x y z h k := by
    rw [← Bool.not_eq_true, ltK_iff] at *
    intro e
    rcases lexc_vals (key x) (key y) with h1 | h1 | h1
    · exact h h1
    · rw [lexc_eq h1] at e; exact k e
    · have h2 := lexc_anti (key x) (key y)
      rw [h1] at h2
      exact k (lexc_trans h2 e)
theorem ltC_key {α : Type} {cf : α → α → Int} {key : α → List Int} {x y : α} (h : cf x y = lexc (key x) (key y)) : ltC cf x y = ltK key x y := by unfold ltC ltK; rw [h]
def nrm (n : Int) : Int := ((n.toNat.toUInt8.toNat : Nat) : Int)
theorem mget_mput {α β : Type} [DecidableEq α] : ∀ (m : List (α × β)) (k : α) (v : β) (q : α), mget (mput m k v) q = if q = k then some v else mget m q
  | [], k, v, q => by simp [mput, mget]
  | p :: m, k, v, q => by
    rw [mput]
    by_cases h : k = p.1
    · rw [if_pos h]
      by_cases hq : q = k
      · simp [mget, hq]
      · simp [mget, hq, ← h]
    · rw [if_neg h, mget, mget, mget_mput m k v q]
      by_cases hq : q = p.1
      · have : ¬ q = k := fun e => h (e.symm.trans hq)
        rw [if_pos hq, if_neg this, if_pos hq]
      · simp [hq]
section
variable {α β : Type} [DecidableEq β]
def keepL (key : α → β) (acc : List α) (x : α) : List α := if acc.any (fun y => decide (key y = key x)) = true then acc else acc ++ [x]
def dd (key : α → β) (xs : List α) : List α := xs.foldl (keepL key) []
end
end Go.Proofs.YtkfhcfkbaaekoaaDoor.K
