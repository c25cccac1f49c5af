/- The plain laws of chapter 31: what the printed functions of TiesFresh answer. No Go and no memory. -/
import Derived.Test.YtokikdhilpebmaaPC
namespace Go.Proofs.Ytokikdhilpebmaa
open Go K
set_option linter.unusedVariables false

theorem alive_eq : F5_alive = some true := by decide +kernel
theorem fresh_eq (t : Tie) (n m : Int) (h1 : inK .i64 t.last) (h2 : inK .i64 n) (h3 : inK .i64 m) : F7_Fresh t n m = F8_Fresh t n m := by
  have h1 := inI64 h1
  have h2 := inI64 h2
  have h3 := inI64 h3
  unfold F7_Fresh F8_Fresh
  generalize t.last = l at h1 ⊢
  simp only [lt, wrapU, wrapI', decide_eq_true_eq, Bool.and_eq_true]
  by_cases c2 : n ≤ 0
  · rw [if_pos c2]
    have : ¬ n > 0 := by omega
    simp [this]
  · rw [if_neg c2]
    have c3 : n > 0 := by omega
    simp only [c3, decide_true, Bool.true_and]
    by_cases c1 : m < l
    · rw [if_pos c1, if_pos (by omega), decide_eq_true_iff]; omega
    · rw [if_neg c1]
      by_cases c4 : m ≤ l
      · rw [if_pos c4, decide_eq_true_iff]; omega
      · rw [if_neg c4]
        split
        · rename_i h; rw [decide_eq_true_iff]; omega
        · rename_i h; exact decide_eq_decide.2 (by omega)
def keyT (t : Tie) : List Int := keyA t.client ++ (keyK t.service ++ (txt t.name ++ [if t.localF = true then 1 else 0]))
theorem keyK_app (a b : Key) (u v : List Int) : lexc (keyK a ++ u) (keyK b ++ v) = if lexc (keyK a) (keyK b) = 0 then lexc u v else lexc (keyK a) (keyK b) := by
  have e : lexc (keyK a) (keyK b) = lexc (txt a.space ++ (txt a.name ++ [])) (txt b.space ++ (txt b.name ++ [])) := by unfold keyK; simp
  rw [e]
  unfold keyK
  rw [List.append_assoc, List.append_assoc, txt_cmp, txt_cmp, txt_cmp, txt_cmp]
  by_cases h1 : a.space = b.space
  · by_cases h2 : a.name = b.name
    · simp [h1, h2, lexc]
    · cases h3 : Op.bytesLess a.name.toList b.name.toList <;> simp [h1, h2]
  · cases h3 : Op.bytesLess a.space.toList b.space.toList <;> simp [h1]
theorem keyA_app (a b : Addr) (u v : List Int) : lexc (keyA a ++ u) (keyA b ++ v) = if lexc (keyA a) (keyA b) = 0 then lexc u v else lexc (keyA a) (keyA b) := lexc_app u v rfl
theorem keyT_lex (a b : Tie) : lexc (keyT a) (keyT b) = if lexc (keyA a.client) (keyA b.client) = 0 then (if lexc (keyK a.service) (keyK b.service) = 0 then (if a.name = b.name then (if a.localF = b.localF then 0 else if a.localF = true then 1 else -1) else if Op.bytesLess a.name.toList b.name.toList then -1 else 1) else lexc (keyK a.service) (keyK b.service)) else lexc (keyA a.client) (keyA b.client) := by
  unfold keyT
  rw [keyA_app, keyK_app, txt_cmp]
  cases a.localF <;> cases b.localF <;> simp [lexc]
theorem cmp_eq (a b : Tie) (ha : ok_Tie a) (hb : ok_Tie b) : F9_Compare a b = lexc (keyT a) (keyT b) := by
  rw [keyT_lex]
  unfold F9_Compare
  simp only [lt, addr_cmp _ _ ha.1 hb.1, key_cmp, cmpS, cmpI, or_cons, or_nil, F25_number]
  by_cases h1 : lexc (keyA a.client) (keyA b.client) = 0
  · by_cases h2 : lexc (keyK a.service) (keyK b.service) = 0
    · by_cases h3 : a.name = b.name
      · cases a.localF <;> cases b.localF <;> simp [h1, h2, h3]
      · cases h4 : Op.bytesLess a.name.toList b.name.toList <;> simp [h1, h2, h3]
    · simp [h1, h2]
  · simp [h1]
theorem cmpR_eq (a b : Tie) (ha : ok_Tie a) (hb : ok_Tie b) : F10_Compare a b = some (lexc (keyT a) (keyT b)) := by
  rw [keyT_lex]
  unfold F10_Compare
  rw [addr_cmpR _ _ ha.1 hb.1]
  simp only [Option.bind_some, lt, key_cmpR]
  by_cases h1 : lexc (keyA a.client) (keyA b.client) = 0
  · by_cases h2 : lexc (keyK a.service) (keyK b.service) = 0
    · by_cases h3 : a.name = b.name
      · cases a.localF <;> cases b.localF <;> simp [h1, h2, h3]
      · cases h4 : Op.bytesLess a.name.toList b.name.toList <;> simp [h1, h2, h3]
    · simp [h1, h2]
  · simp [h1]
end Go.Proofs.Ytokikdhilpebmaa
