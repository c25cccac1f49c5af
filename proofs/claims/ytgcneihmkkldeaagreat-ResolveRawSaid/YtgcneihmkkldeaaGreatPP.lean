/- How the program and the reference hold points (an address and a port) against each other: both by one row of numbers. No Go and no memory. -/
import Derived.Test.YtgcneihmkkldeaaGreatPA
namespace Go.Proofs.YtgcneihmkkldeaaGreat
open Go K
set_option linter.unusedVariables false

def keyP (K : Addr → List Int) (p : Point) : List Int := K p.addr ++ [p.port]
theorem keyP_len {p q : Point} : (keyP keyA p).length = (keyP keyA q).length := rfl
theorem keyPN_len {p q : Point} : (keyP keyN p).length = (keyP keyN q).length := by simp [keyP, keyN, A16u8.list]
theorem keyP_inj {p q : Point} (h : keyP keyA p = keyP keyA q) : p = q := by
  obtain ⟨a, n⟩ := p
  obtain ⟨b, m⟩ := q
  obtain ⟨h1, h2⟩ := List.append_inj h rfl
  have e1 : a = b := keyA_inj h1
  have e2 : n = m := (List.cons.inj h2).1
  rw [e1, e2]
theorem keyN_len {a b : Addr} : (keyN a).length = (keyN b).length := by simp [keyN, A16u8.list]
theorem keyP_lexN (p q : Point) : lexc (keyP keyN p) (keyP keyN q) = if lexc (keyN p.addr) (keyN q.addr) = 0 then (if p.port < q.port then -1 else if q.port < p.port then 1 else 0) else lexc (keyN p.addr) (keyN q.addr) := by
  unfold keyP; rw [lexc_app _ _ keyN_len]; rfl
theorem keyP_lex (p q : Point) : lexc (keyP keyA p) (keyP keyA q) = if lexc (keyA p.addr) (keyA q.addr) = 0 then (if p.port < q.port then -1 else if q.port < p.port then 1 else 0) else lexc (keyA p.addr) (keyA q.addr) := by
  unfold keyP; rw [lexc_app (x := keyA p.addr) (y := keyA q.addr) _ _ rfl]; rfl
theorem keyPN_ok {p : Point} (h : ok_Addr p.addr) : keyP keyN p = keyP keyA p := by unfold keyP; rw [keyN_ok h]
theorem pt_cmp (p q : Point) : F75_Compare p q = lexc (keyP keyN p) (keyP keyN q) := by
  rw [keyP_lexN]
  unfold F75_Compare
  simp only [lt, addr_cmpN, cmpI, or_cons, or_nil]
  by_cases h : lexc (keyN p.addr) (keyN q.addr) = 0
  · rw [if_pos h, if_pos h]
    by_cases h1 : p.port < q.port
    · simp [h1]
    · by_cases h2 : q.port < p.port <;> simp [h1, h2]
  · rw [if_neg h, if_neg h]
theorem pt_cmpR (p q : Point) (hp : ok_Addr p.addr) (hq : ok_Addr q.addr) : F84_Compare p q = some (lexc (keyP keyA p) (keyP keyA q)) := by
  rw [keyP_lex]
  unfold F84_Compare
  rw [addr_cmpR _ _ hp hq]
  simp only [Option.bind_some]
  by_cases h : lexc (keyA p.addr) (keyA q.addr) = 0
  · rw [if_pos h, h]
    by_cases h1 : p.port < q.port
    · simp [h1]
    · by_cases h2 : q.port < p.port
      · have h3 : p.port > q.port := h2
        simp [h1, h2]
      · have h3 : ¬ p.port > q.port := h2
        simp [h1, h2]
  · simp [h]
end Go.Proofs.YtgcneihmkkldeaaGreat
