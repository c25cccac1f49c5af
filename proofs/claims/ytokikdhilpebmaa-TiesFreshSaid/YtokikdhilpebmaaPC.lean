/- How the program and the reference hold addresses, keys and places against each other: both by one row of numbers. No Go and no memory. -/
import Derived.Test.YtokikdhilpebmaaS4
import Derived.Test.YtokikdhilpebmaaO
namespace Go.Proofs.Ytokikdhilpebmaa
open Go K
set_option linter.unusedVariables false

def keyA (a : Addr) : List Int := (if a.six = true then 1 else 0) :: A16u8.list a.b
def keyK (k : Key) : List Int := txt k.space ++ txt k.name
theorem keyA_inj {a b : Addr} (h : keyA a = keyA b) : a = b := by
  obtain ⟨s, ⟨⟩⟩ := a
  obtain ⟨t, ⟨⟩⟩ := b
  simp only [keyA, A16u8.list, List.cons.injEq, and_true] at h
  obtain ⟨h1, h2⟩ := h
  have : s = t := by cases s <;> cases t <;> simp at h1 ⊢
  simp [this, h2]
theorem bytes_ok {a : A16u8} (h : ok_A16u8 a) : ∀ n ∈ A16u8.list a, 0 ≤ n ∧ n ≤ 255 := by
  obtain ⟨h0, h1, h2, h3, h4, h5, h6, h7, h8, h9, h10, h11, h12, h13, h14, h15⟩ := h
  intro n hn
  simp only [A16u8.list, List.mem_cons, List.not_mem_nil, or_false] at hn
  rcases hn with e | e | e | e | e | e | e | e | e | e | e | e | e | e | e | e <;> subst e <;> exact inU8 (by assumption)
theorem or_nil : F20_cmp_Or_int [] = 0 := rfl
theorem or_cons (x : Int) (l : List Int) : F20_cmp_Or_int (x :: l) = if x = 0 then F20_cmp_Or_int l else x := by
  unfold F20_cmp_Or_int
  rw [runB]
  unfold F20_cmp_Or_int_b1
  by_cases h : x = 0 <;> simp [h, lt, Lp.elim]
theorem cmpI (a b : Int) : F24_cmp_Compare_int a b = if a < b then -1 else if b < a then 1 else 0 := by
  unfold F24_cmp_Compare_int F40_cmp_isNaN_int
  simp [lt]
theorem cmpS (a b : ByteArray) : F23_cmp_Compare_string a b = if a = b then 0 else if Op.bytesLess a.toList b.toList then -1 else 1 := by
  unfold F23_cmp_Compare_string F39_cmp_isNaN_string
  by_cases h : a = b
  · subst h
    have hs : Op.bytesLess a.toList a.toList = false := less_self _
    simp [lt, hs]
  · cases hb : Op.bytesLess a.toList b.toList <;> simp [lt, h]
theorem ite1 {c : Prop} [Decidable c] {x y : Int} (hx : x ≠ 0) : (if (if c then x else y) = 0 then (1 : Nat) else 0) = if c then 0 else if y = 0 then 1 else 0 := by
  by_cases h : c <;> simp [h, hx]
theorem addr_cmp (a b : Addr) (ha : ok_Addr a) (hb : ok_Addr b) : F21_addr_Compare a b = lexc (keyA a) (keyA b) := by
  unfold F21_addr_Compare F38_bytes_Compare keyA
  simp only [lt, lexc]
  rw [cmpB_lex (bytes_ok ha.2) (bytes_ok hb.2)]
  cases a.six <;> cases b.six <;> simp
theorem addr_cmpR (a b : Addr) (ha : ok_Addr a) (hb : ok_Addr b) : F26_linkboyref02_Compare a b = some (lexc (keyA a) (keyA b)) := by
  have hF : (17 : Nat) < FUEL := by decide
  have hloop := loop_lex (x := A16u8.list a.b) (y := A16u8.list b.b) (body := F26_linkboyref02_Compare_b1 a b) (fun k x y hx hy => by
    have hk : k < 16 := lt_of_get hx
    unfold F26_linkboyref02_Compare_b1
    rw [if_pos (by rw [decide_eq_true_iff]; omega)]
    have e1 : ixO (A16u8.list a.b) (k : Int) = some x := ixO_at hx
    have e2 : ixO (A16u8.list b.b) (k : Int) = some y := ixO_at hy
    simp only [e1, e2, Option.bind_some, decide_eq_true_eq]
    have e3 : IntKind.i64.wrap ((k : Int) + 1) = ((k + 1 : Nat) : Int) := by rw [wrapI (by omega)]; omega
    by_cases c1 : x < y
    · simp [c1]
    · by_cases c2 : y < x
      · simp [c1, c2]
      · simp [c1, c2, e3]) rfl rfl FUEL 0 (by omega) (by show 16 - 0 < FUEL; omega)
  unfold F26_linkboyref02_Compare
  have hloop' : runW (F26_linkboyref02_Compare_b1 a b) FUEL 0 = _ := hloop
  rw [hloop']
  simp only [List.drop_zero, Option.bind_some]
  unfold keyA
  simp only [lexc]
  have hv := lexc_vals (A16u8.list a.b) (A16u8.list b.b)
  cases a.six <;> cases b.six <;> simp <;> (rcases hv with h | h | h <;> rw [h] <;> simp [Lp.elim])
theorem key_cmp (a b : Key) : F22_names_Compare a b = lexc (keyK a) (keyK b) := by
  have e : lexc (keyK a) (keyK b) = lexc (txt a.space ++ (txt a.name ++ [])) (txt b.space ++ (txt b.name ++ [])) := by unfold keyK; simp
  rw [e, txt_cmp, txt_cmp]
  unfold F22_names_Compare
  simp only [lt, cmpS, or_cons, or_nil, lexc]
  by_cases h1 : a.space = b.space
  · by_cases h2 : a.name = b.name
    · simp [h1, h2]
    · cases h3 : Op.bytesLess a.name.toList b.name.toList <;> simp [h1, h2]
  · cases h3 : Op.bytesLess a.space.toList b.space.toList <;> simp [h1]
theorem key_cmpR (a b : Key) : F27_linkboyref05_Compare a b = lexc (keyK a) (keyK b) := by
  have e : lexc (keyK a) (keyK b) = lexc (txt a.space ++ (txt a.name ++ [])) (txt b.space ++ (txt b.name ++ [])) := by unfold keyK; simp
  rw [e, txt_cmp, txt_cmp]
  have hself : ∀ s : ByteArray, Op.bytesLess s.toList s.toList = false := fun s => less_self _
  unfold F27_linkboyref05_Compare
  obtain ⟨s, n⟩ := a
  obtain ⟨t, m⟩ := b
  simp only [lt, Key.mk.injEq]
  by_cases h1 : s = t
  · subst h1
    by_cases h2 : n = m
    · subst h2; simp [hself, lexc]
    · cases h3 : Op.bytesLess n.toList m.toList <;> simp [h2, hself]
  · cases h3 : Op.bytesLess s.toList t.toList <;> simp [h1]
theorem keyK_inj {a b : Key} (h : keyK a = keyK b) : a = b := by
  obtain ⟨s, n⟩ := a
  obtain ⟨t, m⟩ := b
  simp only [keyK] at h
  obtain ⟨h1, h2⟩ := txt_inj _ _ _ _ h
  obtain ⟨h3, _⟩ := txt_inj n m [] [] (by simpa using h2)
  simp [h1, h3]
end Go.Proofs.Ytokikdhilpebmaa
