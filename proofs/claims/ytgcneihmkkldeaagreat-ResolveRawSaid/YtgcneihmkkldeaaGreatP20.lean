/- How the program and the reference hold faces against each other: both by one row of numbers. No Go and no memory. -/
import Derived.Test.YtgcneihmkkldeaaGreatPP
import Derived.Test.YtgcneihmkkldeaaGreatPS
namespace Go.Proofs.YtgcneihmkkldeaaGreat
open Go K
set_option linter.unusedVariables false

def bit (b : Bool) : Int := if b = true then 1 else 0
def keyF (K : Addr → List Int) (f : Face) : List Int := f.proto :: (keyP K f.point ++ (txt f.name ++ [f.how, bit f.localF, bit f.asked]))
def restF (a b : Face) : Int := if a.name = b.name then (if a.how < b.how then -1 else if b.how < a.how then 1 else if a.localF = b.localF then (if a.asked = b.asked then 0 else if a.asked = true then 1 else -1) else if a.localF = true then 1 else -1) else if Op.bytesLess a.name.toList b.name.toList then -1 else 1
theorem rest_lex (a b : Face) : lexc (txt a.name ++ [a.how, bit a.localF, bit a.asked]) (txt b.name ++ [b.how, bit b.localF, bit b.asked]) = restF a b := by
  rw [txt_cmp]
  unfold restF
  by_cases h : a.name = b.name
  · rw [if_pos h, if_pos h]
    simp only [lexc]
    by_cases h1 : a.how < b.how
    · simp [h1]
    · by_cases h2 : b.how < a.how
      · simp [h1, h2]
      · cases a.localF <;> cases b.localF <;> cases a.asked <;> cases b.asked <;> simp [h1, h2, bit]
  · rw [if_neg h, if_neg h]
theorem keyF_lexN (a b : Face) : lexc (keyF keyN a) (keyF keyN b) = if a.proto < b.proto then -1 else if b.proto < a.proto then 1 else if lexc (keyP keyN a.point) (keyP keyN b.point) = 0 then restF a b else lexc (keyP keyN a.point) (keyP keyN b.point) := by
  unfold keyF; rw [lexc, lexc_app _ _ keyPN_len, rest_lex]
theorem keyF_lex (a b : Face) : lexc (keyF keyA a) (keyF keyA b) = if a.proto < b.proto then -1 else if b.proto < a.proto then 1 else if lexc (keyP keyA a.point) (keyP keyA b.point) = 0 then restF a b else lexc (keyP keyA a.point) (keyP keyA b.point) := by
  unfold keyF; rw [lexc, lexc_app _ _ keyP_len, rest_lex]
theorem keyF_inj {a b : Face} (h : keyF keyA a = keyF keyA b) : a = b := by
  obtain ⟨p, q, n, w, l, s⟩ := a
  obtain ⟨p', q', n', w', l', s'⟩ := b
  simp only [keyF] at h
  obtain ⟨h1, h2⟩ := List.cons.inj h
  obtain ⟨h3, h4⟩ := List.append_inj h2 rfl
  obtain ⟨h5, h6⟩ := txt_inj _ _ _ _ h4
  have h3 : q = q' := keyP_inj h3
  have h5 : n = n' := h5
  have h1 : p = p' := h1
  simp only [List.cons.injEq, and_true] at h6
  obtain ⟨h7, h8, h9⟩ := h6
  have hb : ∀ u v : Bool, bit u = bit v → u = v := by intro u v; cases u <;> cases v <;> simp [bit]
  rw [h1, h3, h5, h7, hb _ _ h8, hb _ _ h9]
theorem face_cmp (a b : Face) : F63_Compare a b = lexc (keyF keyN a) (keyF keyN b) := by
  rw [keyF_lexN]
  unfold F63_Compare F87_truth restF
  simp only [lt, pt_cmp, cmpI, cmpS, or_cons, or_nil]
  by_cases h1 : a.proto < b.proto
  · simp [h1]
  · by_cases h2 : b.proto < a.proto
    · simp [h1, h2]
    · by_cases h3 : lexc (keyP keyN a.point) (keyP keyN b.point) = 0
      · by_cases h4 : a.name = b.name
        · by_cases h5 : a.how < b.how
          · simp [h1, h2, h3, h4, h5]
          · by_cases h6 : b.how < a.how
            · simp [h1, h2, h3, h4, h5, h6]
            · cases a.localF <;> cases b.localF <;> cases a.asked <;> cases b.asked <;> simp [h1, h2, h3, h4, h5, h6]
        · cases h5 : Op.bytesLess a.name.toList b.name.toList <;> simp [h1, h2, h3, h4]
      · simp [h1, h2, h3]
theorem face_cmpR (a b : Face) (ha : ok_Addr a.point.addr) (hb : ok_Addr b.point.addr) : F81_Compare a b = some (lexc (keyF keyA a) (keyF keyA b)) := by
  have hs : ∀ s : ByteArray, Op.bytesLess s.toList s.toList = false := fun s => less_self _
  have hl : ∀ x y : Int, F102_less x y = if x < y then -1 else if y < x then 1 else 0 := by
    intro x y; unfold F102_less; simp
  rw [keyF_lex]
  unfold F81_Compare restF
  rw [pt_cmpR _ _ ha hb]
  simp only [lt, hl, Option.bind_some, F103_n]
  by_cases h1 : a.proto < b.proto
  · simp [h1]
  · by_cases h2 : b.proto < a.proto
    · simp [h1, h2]
    · by_cases h3 : lexc (keyP keyA a.point) (keyP keyA b.point) = 0
      · by_cases h4 : a.name = b.name
        · by_cases h5 : a.how < b.how
          · simp [h1, h2, h3, h4, h5, hs]
          · by_cases h6 : b.how < a.how
            · simp [h1, h2, h3, h4, h5, h6, hs]
            · cases a.localF <;> cases b.localF <;> cases a.asked <;> cases b.asked <;> simp [h1, h2, h3, h4, h5, h6, hs]
        · cases h5 : Op.bytesLess a.name.toList b.name.toList <;> simp [h1, h2, h3, h4]
      · simp [h1, h2, h3]
end Go.Proofs.YtgcneihmkkldeaaGreat
