/- How the program and the reference hold addresses against each other: both by one row of numbers. No Go and no memory. -/
import Derived.Test.YtokikdhilpebmaaS6
import Derived.Test.YtokikdhilpebmaaO
namespace Go.Proofs.Ytokikdhilpebmaa
open Go K
set_option linter.unusedVariables false

def keyA (a : Addr) : List Int := (if a.six = true then 1 else 0) :: A16u8.list a.b
theorem keyA_inj {a b : Addr} (h : keyA a = keyA b) : a = b := by
  obtain ⟨s, ⟨⟩⟩ := a
  obtain ⟨t, ⟨⟩⟩ := b
  simp only [keyA, A16u8.list, List.cons.injEq, and_true] at h
  obtain ⟨h1, h2⟩ := h
  have : s = t := by cases s <;> cases t <;> simp at h1 ⊢
  simp [this, h2]
theorem bytes_ok {a : A16u8} (h : ok_A16u8 a) : ∀ n ∈ A16u8.list a, 0 ≤ n ∧ n ≤ 255 := by
  obtain ⟨h0, h1, h2, h3, h4, h5, h6, h7, h8, h9, h10, h11, h12, h13, h14, h15⟩ := h
  intro n hn
  simp only [A16u8.list, List.mem_cons, List.not_mem_nil, or_false] at hn
  rcases hn with e | e | e | e | e | e | e | e | e | e | e | e | e | e | e | e <;> subst e <;> exact inU8 (by assumption)
theorem or_nil : F20_int [] = 0 := rfl
theorem or_cons (x : Int) (l : List Int) : F20_int (x :: l) = if x = 0 then F20_int l else x := by
  unfold F20_int
  rw [runB]
  unfold F20_int_b1
  by_cases h : x = 0 <;> simp [h, lt, Lp.elim]
theorem cmpI (a b : Int) : F24_int a b = if a < b then -1 else if b < a then 1 else 0 := by
  unfold F24_int F40_int
  simp [lt]
theorem ite1 {c : Prop} [Decidable c] {x y : Int} (hx : x ≠ 0) : (if (if c then x else y) = 0 then (1 : Nat) else 0) = if c then 0 else if y = 0 then 1 else 0 := by
  by_cases h : c <;> simp [h, hx]
def keyN (a : Addr) : List Int := (if a.six = true then 1 else 0) :: (A16u8.list a.b).map nrm
theorem keyN_ok {a : Addr} (h : ok_Addr a) : keyN a = keyA a := by unfold keyN keyA; rw [map_nrm (bytes_ok h.2)]
theorem addr_cmpN (a b : Addr) : F21_Compare a b = lexc (keyN a) (keyN b) := by
  unfold F21_Compare F38_Compare keyN
  simp only [lt, lexc]
  rw [cmpB_nrm]
  cases a.six <;> cases b.six <;> simp
theorem addr_cmp (a b : Addr) (ha : ok_Addr a) (hb : ok_Addr b) : F21_Compare a b = lexc (keyA a) (keyA b) := by
  rw [addr_cmpN, keyN_ok ha, keyN_ok hb]
theorem addr_cmpR (a b : Addr) (ha : ok_Addr a) (hb : ok_Addr b) : F26_Compare a b = some (lexc (keyA a) (keyA b)) := by
  have hF : (17 : Nat) < FUEL := by decide
  have hloop := loop_lex (x := A16u8.list a.b) (y := A16u8.list b.b) (body := F26_Compare_b1 a b) (fun k x y hx hy => by
    have hk : k < 16 := lt_of_get hx
    unfold F26_Compare_b1
    rw [if_pos (by rw [decide_eq_true_iff]; omega)]
    have e1 : ixO (A16u8.list a.b) (k : Int) = some x := ixO_at hx
    have e2 : ixO (A16u8.list b.b) (k : Int) = some y := ixO_at hy
    simp only [e1, e2, Option.bind_some, decide_eq_true_eq]
    have e3 : IntKind.i64.wrap ((k : Int) + 1) = ((k + 1 : Nat) : Int) := by rw [wrapI (by omega)]; omega
    by_cases c1 : x < y
    · simp [c1]
    · by_cases c2 : y < x
      · simp [c1, c2]
      · simp [c1, c2, e3]) rfl rfl FUEL 0 (by omega) (by show 16 - 0 < FUEL; omega)
  unfold F26_Compare
  have hloop' : runW (F26_Compare_b1 a b) FUEL 0 = _ := hloop
  rw [hloop']
  simp only [List.drop_zero, Option.bind_some]
  unfold keyA
  simp only [lexc]
  have hv := lexc_vals (A16u8.list a.b) (A16u8.list b.b)
  cases a.six <;> cases b.six <;> simp <;> (rcases hv with h | h | h <;> rw [h] <;> simp [Lp.elim])
end Go.Proofs.Ytokikdhilpebmaa
