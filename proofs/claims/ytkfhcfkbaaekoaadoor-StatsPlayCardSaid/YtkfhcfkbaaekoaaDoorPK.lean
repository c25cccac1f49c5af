/- How the program and the reference hold keys against each other: both by one row of numbers. No Go and no memory. -/
import Derived.Test.YtkfhcfkbaaekoaaDoorS6
import Derived.Test.YtkfhcfkbaaekoaaDoorO
namespace Go.Proofs.YtkfhcfkbaaekoaaDoor
open Go K
set_option linter.unusedVariables false
theorem or_nil : F39_int [] = 0 := rfl
theorem or_cons (x : Int) (l : List Int) : F39_int (x :: l) = if x = 0 then F39_int l else x := by
  unfold F39_int
  rw [runB]
  unfold F39_int_b1
  by_cases h : x = 0 <;> simp [h, lt, Lp.elim]
theorem cmpS (a b : ByteArray) : F40_string a b = if a = b then 0 else if Op.bytesLess a.toList b.toList then -1 else 1 := by
  unfold F40_string F49_string
  by_cases h : a = b
  · subst h
    have hs : Op.bytesLess a.toList a.toList = false := less_self _
    simp [lt, hs]
  · cases hb : Op.bytesLess a.toList b.toList <;> simp [lt, h]
def keyK (k : Key) : List Int := txt k.space ++ txt k.name
theorem key_cmp (a b : Key) : F30_Compare a b = lexc (keyK a) (keyK b) := by
  have e : lexc (keyK a) (keyK b) = lexc (txt a.space ++ (txt a.name ++ [])) (txt b.space ++ (txt b.name ++ [])) := by unfold keyK; simp
  rw [e, txt_cmp, txt_cmp]
  unfold F30_Compare
  simp only [lt, cmpS, or_cons, or_nil, lexc]
  by_cases h1 : a.space = b.space
  · by_cases h2 : a.name = b.name
    · simp [h1, h2]
    · cases h3 : Op.bytesLess a.name.toList b.name.toList <;> simp [h1, h2]
  · cases h3 : Op.bytesLess a.space.toList b.space.toList <;> simp [h1]
theorem key_cmpR (a b : Key) : F45_Compare a b = lexc (keyK a) (keyK b) := by
  have e : lexc (keyK a) (keyK b) = lexc (txt a.space ++ (txt a.name ++ [])) (txt b.space ++ (txt b.name ++ [])) := by unfold keyK; simp
  rw [e, txt_cmp, txt_cmp]
  have hself : ∀ s : ByteArray, Op.bytesLess s.toList s.toList = false := fun s => less_self _
  unfold F45_Compare
  obtain ⟨s, n⟩ := a
  obtain ⟨t, m⟩ := b
  simp only [lt, Key.mk.injEq]
  by_cases h1 : s = t
  · subst h1
    by_cases h2 : n = m
    · subst h2; simp [hself, lexc]
    · cases h3 : Op.bytesLess n.toList m.toList <;> simp [h2, hself]
  · cases h3 : Op.bytesLess s.toList t.toList <;> simp [h1]
theorem keyK_inj {a b : Key} (h : keyK a = keyK b) : a = b := by
  obtain ⟨s, n⟩ := a
  obtain ⟨t, m⟩ := b
  simp only [keyK] at h
  obtain ⟨h1, h2⟩ := txt_inj _ _ _ _ h
  obtain ⟨h3, _⟩ := txt_inj n m [] [] (by simpa using h2)
  simp [h1, h3]
end Go.Proofs.YtkfhcfkbaaekoaaDoor
