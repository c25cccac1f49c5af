/- A region whose order the tape picks: each operation has what it needs of those before it, and leaves what the later ones need, in whatever order; a chain of operations may build something of its own meanwhile. General: no program is named. -/
import Derived.Test.YtkfhcfkbaaekoaaDoorK6
namespace Go.Proofs.YtkfhcfkbaaekoaaDoor.K
open Go
set_option linter.unusedVariables false
abbrev Fct := List Value → (Nat → Prop) → Value → World → Prop
def chOf : Nat → List (Option Bool × Fct) → List Nat
  | _, [] => []
  | i, (some true, _) :: r => i :: chOf (i + 1) r
  | i, (_, _) :: r => chOf (i + 1) r
def preOf : Nat → List (Option Bool × Fct) → List Nat
  | _, [] => []
  | i, (some false, _) :: r => i :: preOf (i + 1) r
  | i, (_, _) :: r => preOf (i + 1) r
def prevOf : List Nat → Nat → Option Nat
  | a :: b :: r, i => if b = i then some a else prevOf (b :: r) i
  | _, _ => none
def flOf : Option Nat → List Value
  | none => []
  | some _ => [undef]
def Fits (Φ : List (Option Bool × Fct)) (cur : Option Nat) (pf : Bool) (fl h : List Value) (Op : Nat → Nat → Prop) (O : Nat → Prop) (w : World) (j : Nat) (φ : Option Bool × Fct) (v : Value) : Prop :=
  match φ.1 with
  | none => φ.2 fl O v w
  | some true => if cur = some j then φ.2 h O v w else (cur ≠ none → h[(preOf 0 Φ ++ chOf 0 Φ).idxOf j]? = some v) ∧ ∃ h' O' w', φ.2 h' O' v w'
  | some false => (pf = true → φ.2 [] (Op j) v w) ∧ (pf = true ∨ cur ≠ none → h[(preOf 0 Φ ++ chOf 0 Φ).idxOf j]? = some v) ∧ ∃ h' O' w', φ.2 h' O' v w'
def Need (l : List Oper) (Φ : List (Option Bool × Fct)) (cur : Option Nat) (pf : Bool) (fl h : List Value) (Op : Nat → Nat → Prop) (O : Nat → Prop) (w : World) (C : Env → Prop) : List Nat → Env → Prop
  | [], E => C E
  | j :: r, E => match (l[j]?).bind (·.dst), Φ[j]? with
    | some d, some φ => ∀ v, Fits Φ cur pf fl h Op O w j φ v → Need l Φ cur pf fl h Op O w C r ((d, v) :: E)
    | none, some φ => Fits Φ cur pf fl h Op O w j φ undef → Need l Φ cur pf fl h Op O w C r E
    | _, none => Need l Φ cur pf fl h Op O w C r E
section
variable {l : List Oper} {Φ : List (Option Bool × Fct)} {cur : Option Nat} {pf : Bool} {fl h : List Value} {Op : Nat → Nat → Prop} {O : Nat → Prop} {w : World} {C : Env → Prop} {j d : Nat} {r : List Nat} {E : Env} {φ : Option Bool × Fct}
theorem Need.one (h1 : (l[j]?).bind (·.dst) = some d) (h2 : Φ[j]? = some φ) (h3 : φ.1 = none) (hk : ∀ v, φ.2 fl O v w → Need l Φ cur pf fl h Op O w C r ((d, v) :: E)) : Need l Φ cur pf fl h Op O w C (j :: r) E := by
  simp only [Need, h1, h2, Fits, h3]; exact hk
theorem Need.o1 {v0 : Value} (h1 : (l[j]?).bind (·.dst) = some d) (h2 : Φ[j]? = some φ) (h3 : φ.1 = none) (hv : ∀ v, φ.2 fl O v w → v = v0) (hk : Need l Φ cur pf fl h Op O w C r ((d, v0) :: E)) : Need l Φ cur pf fl h Op O w C (j :: r) E :=
  Need.one h1 h2 h3 fun v hf => by rw [hv v hf]; exact hk
theorem Need.here (h1 : (l[j]?).bind (·.dst) = some d) (h2 : Φ[j]? = some φ) (h3 : φ.1 = some true) (h4 : cur = some j) (hk : ∀ v, φ.2 h O v w → Need l Φ cur pf fl h Op O w C r ((d, v) :: E)) : Need l Φ cur pf fl h Op O w C (j :: r) E := by
  simp only [Need, h1, h2, Fits, h3, h4, if_true]; rw [h4] at hk; exact hk
theorem Need.hereN (h1 : (l[j]?).bind (·.dst) = none) (h2 : Φ[j]? = some φ) (h3 : φ.1 = some true) (h4 : cur = some j) (hk : φ.2 h O undef w → Need l Φ cur pf fl h Op O w C r E) : Need l Φ cur pf fl h Op O w C (j :: r) E := by
  simp only [Need, h1, h2, Fits, h3, h4, if_true]; rw [h4] at hk; exact hk
theorem Need.made (h1 : (l[j]?).bind (·.dst) = some d) (h2 : Φ[j]? = some φ) (h3 : φ.1 = some false) (hp : pf = true) (hk : ∀ v, φ.2 [] (Op j) v w → h[(preOf 0 Φ ++ chOf 0 Φ).idxOf j]? = some v → Need l Φ cur pf fl h Op O w C r ((d, v) :: E)) : Need l Φ cur pf fl h Op O w C (j :: r) E := by
  simp only [Need, h1, h2, Fits, h3]
  exact fun v ⟨hf, hv, _⟩ => hk v (hf hp) (hv (.inl hp))
theorem Need.past (h1 : (l[j]?).bind (·.dst) = some d) (h2 : Φ[j]? = some φ) (h3 : φ.1.isSome = true) (h4 : (cur == some j) = false) (hk : ∀ v h' O' w', φ.2 h' O' v w' → Need l Φ cur pf fl h Op O w C r ((d, v) :: E)) : Need l Φ cur pf fl h Op O w C (j :: r) E := by
  have h4' : cur ≠ some j := by simpa using h4
  obtain ⟨c, φ⟩ := φ
  match c, h3 with
  | some true, _ =>
    simp only [Need, h1, h2, Fits, if_neg h4']
    exact fun v ⟨_, h', O', w', hf⟩ => hk v h' O' w' hf
  | some false, _ =>
    simp only [Need, h1, h2, Fits]
    exact fun v ⟨_, _, h', O', w', hf⟩ => hk v h' O' w' hf
end
def bindOn (o : Oper) : List Nat := (o.after.toList.filter (Region.binds .any)).map (·.on)
def okD (n : Nat) (l : List Oper) (E : Env) (pre ch : List Nat) : Nat → List Oper → List (List Nat) → List Nat → Bool
  | _, [], [], _ => true
  | i, o :: r, ds :: dr, seen =>
    match o.dst with
    | some d => Nat.blt d n && (look E d).isNone && !seen.contains d && (bindOn o).all (Nat.blt · i) && ds.all ((bindOn o).contains ·) &&
        (!ch.contains i || (match prevOf ch i with | some a => (bindOn o).contains a | none => pre.all ((bindOn o).contains ·))) && okD n l E pre ch (i + 1) r dr (d :: seen)
    | none => ch.contains i && (bindOn o).all (Nat.blt · i) && ds.all ((bindOn o).contains ·) &&
        (!ch.contains i || (match prevOf ch i with | some a => (bindOn o).contains a | none => pre.all ((bindOn o).contains ·))) && okD n l E pre ch (i + 1) r dr seen
  | _, _, _, _ => false
def cover (l : List Oper) : Nat → List Nat → List Nat
  | 0, acc => acc
  | i + 1, acc => if acc.contains i then cover l i (acc ++ (match l[i]? with | some o => bindOn o | none => [])) else cover l i acc
theorem cover_sound {l : List Oper} {p : Nat → Prop} (hc : ∀ i o, l[i]? = some o → p i → ∀ j ∈ bindOn o, p j) : ∀ (i : Nat) (acc : List Nat), (∀ j ∈ acc, p j) → ∀ j ∈ cover l i acc, p j
  | 0, acc, h, j, hj => h j hj
  | i + 1, acc, h, j, hj => by
    simp only [cover] at hj
    split at hj
    · rename_i hi
      have hi' : p i := h i (by simpa using hi)
      refine cover_sound hc i _ (fun k hk => ?_) j hj
      rcases List.mem_append.1 hk with hk | hk
      · exact h k hk
      · cases ho : l[i]? with
        | none => rw [ho] at hk; simp at hk
        | some o => rw [ho] at hk; exact hc i o ho hi' k hk
    · exact cover_sound hc i acc h j hj
def tailOK (l : List Oper) (m : Nat) : Bool := (List.range l.length).all fun t => Nat.blt t m || (match l[t]? with
  | some o => (List.range t).all ((cover l t (bindOn o)).contains ·) && (bindOn o).all (Nat.blt · t)
  | none => true)
section
variable {P : Program} {n : Nat}
theorem kq_put {M : Env → World → Prop} {o : Oper} {a : Act} {w : World} {K : Act → World → Prop} {Q' : Exit → Act → World → Prop}
    (h : o.wp P a w (fun a' w' => kq n M .normal a' w') (kq n M)) (hK : ∀ v w', kq n M .normal (a.put o.dst v) w' → K (a.put o.dst v) w') : o.wp P a w K Q' := by
  unfold Oper.wp at h ⊢
  generalize (execOp a.eval o).run P w = r at h ⊢
  cases r with
  | ok x w' =>
    cases x <;> simp only [Oper.upon] at h ⊢
    case value v => exact hK _ _ h
    case skip => exact hK _ _ h
    case defer d =>
      obtain ⟨E, hE, _⟩ := h
      have := hE.df
      cases hd : o.dst <;> simp [Act.put, hd] at this
    case enter =>
      refine Calls.mono h ?_
      intro e w'' he
      cases e with
      | returned v => exact hK _ _ he
      | panicked c => exact he.elim
      | outgrown => obtain ⟨_, _, he⟩ := he; exact he.elim
    case row => exact Rows.mono h (fun _ _ he => hK _ _ he)
  | halt x w' => cases x <;> simp only [Oper.upon, kq] at h
theorem wpOp_of_RL {ops : Array Oper} {i : Nat} {o : Oper} {M : Env → World → Prop} {E : Env} {a : Act} {w : World} {K : Act → World → Prop} {Q' : Exit → Act → World → Prop} (ho : ops[i]? = some o)
    (h : RL P n ops [o] M E w) (ha : Ok n E a) (hK : ∀ v w', kq n M .normal (a.put o.dst v) w' → K (a.put o.dst v) w') : wpOp P ops Q' i K a w := by
  have h := h a ha
  unfold wpOp
  simp only [ho]
  unfold wpList at h
  split
  · rename_i hw
    rw [if_pos hw] at h
    rcases h with h | ⟨_, _, _, h⟩
    · exact .inl (kq_put h hK)
    · exact h.elim
  · rename_i hw
    rw [if_neg hw] at h
    exact hK _ _ h
def slotV (l : List Oper) (a : Act) (i : Nat) : Option Value :=
  match (l[i]?).bind (·.dst) with
  | some d => a.tmps[d]?
  | none => some undef
def Good (l : List Oper) (Φ : List (Option Bool × Fct)) (h : List Value) (O : Nat → Prop) (i : Nat) (a : Act) (w : World) : Prop :=
  ∃ φ v, Φ[i]? = some φ ∧ slotV l a i = some v ∧ φ.2 h O v w
def Past (l : List Oper) (Φ : List (Option Bool × Fct)) (i : Nat) (a : Act) : Prop :=
  ∃ φ v, Φ[i]? = some φ ∧ slotV l a i = some v ∧ ∃ h O w, φ.2 h O v w
theorem Good.past {l : List Oper} {Φ : List (Option Bool × Fct)} {h : List Value} {O : Nat → Prop} {i : Nat} {a : Act} {w : World} (hg : Good l Φ h O i a w) : Past l Φ i a := by
  obtain ⟨φ, v, h1, h2, h3⟩ := hg
  exact ⟨φ, v, h1, h2, h, O, w, h3⟩
theorem Need.elim {l : List Oper} {Φ : List (Option Bool × Fct)} {cur : Option Nat} {pf : Bool} {fl h : List Value} {Op : Nat → Nat → Prop} {O : Nat → Prop} {w : World} {C : Env → Prop} {a : Act} : ∀ (js : List Nat) (E : Env), Need l Φ cur pf fl h Op O w C js E → Ok n E a →
    (∀ j ∈ js, ∀ φ, Φ[j]? = some φ → ∃ v, slotV l a j = some v ∧ Fits Φ cur pf fl h Op O w j φ v) → (∀ j ∈ js, j < Φ.length) → ∃ E', Ok n E' a ∧ C E'
  | [], E, hk, ha, _, _ => ⟨E, ha, hk⟩
  | j :: r, E, hk, ha, hg, hl => by
    have hj := hl j (by simp)
    have hφ : Φ[j]? = some Φ[j] := List.getElem?_eq_getElem hj
    have hg' : ∀ k ∈ r, ∀ φ, Φ[k]? = some φ → ∃ v, slotV l a k = some v ∧ Fits Φ cur pf fl h Op O w k φ v := fun k hk => hg k (by simp [hk])
    have hl' : ∀ k ∈ r, k < Φ.length := fun k hk => hl k (by simp [hk])
    obtain ⟨v, hv, hf⟩ := hg j (by simp) _ hφ
    cases hd : (l[j]?).bind (·.dst) with
    | none =>
      simp only [Need, hd, hφ] at hk
      simp only [slotV, hd, Option.some.injEq] at hv
      subst hv
      exact Need.elim r _ (hk hf) ha hg' hl'
    | some d =>
      simp only [Need, hd, hφ] at hk
      simp only [slotV, hd] at hv
      refine Need.elim r _ (hk v hf) ⟨ha.sz, ha.df, fun t u ht => ?_⟩ hg' hl'
      rw [look_cons] at ht
      by_cases e : d = t
      · subst e; rw [if_pos rfl] at ht; cases ht; exact hv
      · rw [if_neg e] at ht; exact ha.sl t u ht
def upd (Op : Nat → Nat → Prop) (i : Nat) (O : Nat → Prop) : Nat → Nat → Prop := fun k => if k = i then O else Op k
theorem upd_same {Op : Nat → Nat → Prop} {i : Nat} {O : Nat → Prop} : upd Op i O i = O := if_pos rfl
theorem upd_ne {Op : Nat → Nat → Prop} {i k : Nat} {O : Nat → Prop} (h : k ≠ i) : upd Op i O k = Op k := if_neg h
def Begun (C : Nat → Prop) (pre : List Nat) (Op : Nat → Nat → Prop) (w0 w : World) (O : Nat → Prop) : Prop :=
  (∀ b, O b ↔ C b ∨ ∃ k ∈ pre, Op k b) ∧ Ch nb w0 w ∧ (∀ k b, Op k b → w0.heap.size ≤ b ∧ b < w.heap.size) ∧ ∀ k k' b, k ≠ k' → Op k b → ¬ Op k' b
def isEarly (l : List Oper) (ch : List Nat) (i : Nat) : Bool := match ch with
  | [] => true
  | c :: _ => match l[c]? with
    | some oc => (cover l c (bindOn oc)).contains i
    | none => false
def EachA (P : Program) (n : Nat) (l : List Oper) (Φ : List (Option Bool × Fct)) (C : Nat → Prop) (E0 : Env) (w0 : World) (i : Nat) (o : Oper) (φ : Fct) (ds : List Nat) : Prop :=
  (∀ h O v w w', Ch nb w w' → φ h O v w → φ h O v w') ∧
  (preOf 0 Φ ++ chOf 0 Φ ≠ [] → ∀ h h' (O O' D : Nat → Prop) v w w', (h' = [undef] ∨ h' = h ∧ ∀ b, ¬ D b) → (∀ b, D b → O b) → (∀ b, O' b → O b ∨ w.heap.size ≤ b) → Ch D w w' → φ h O v w → φ h' O' v w') ∧
  ∀ fl O w, (isEarly l (chOf 0 Φ) i = true → fl = []) → (fl = [] → ∃ Op, Begun C (preOf 0 Φ) Op w0 w O) → (∀ b, O b → (C b ∨ w0.heap.size ≤ b) ∧ b < w.heap.size) → Ch C w0 w → Need l Φ none false fl [] (fun _ _ => False) O w (fun E => RL P n l.toArray [o] (fun E' w' => ∃ v, (match o.dst with | some d => look E' d = some v | none => False) ∧ Ch nb w w' ∧ φ fl O v w') E w) ds E0
def EachP (P : Program) (n : Nat) (l : List Oper) (Φ : List (Option Bool × Fct)) (C : Nat → Prop) (E0 : Env) (w0 : World) (o : Oper) (φ : Fct) (ds : List Nat) : Prop :=
  (∀ h O v w w', Ch nb w w' → φ h O v w → φ h O v w') ∧
  ∀ O w, (∀ b, O b → (C b ∨ w0.heap.size ≤ b) ∧ b < w.heap.size) → Ch nb w0 w → Need l Φ none false [] [] (fun _ _ => False) O w (fun E => RL P n l.toArray [o] (fun E' w' => ∃ v O', (match o.dst with | some d => look E' d = some v | none => False) ∧
    (∀ b, O' b → w.heap.size ≤ b ∧ b < w'.heap.size) ∧ Ch nb w w' ∧ φ [] O' v w') E w) ds E0
def EachO (P : Program) (n : Nat) (l : List Oper) (Φ : List (Option Bool × Fct)) (C : Nat → Prop) (E0 : Env) (w0 : World) (i : Nat) (o : Oper) (φ : Fct) (ds : List Nat) : Prop :=
  (∀ h O v w w', Ch nb w w' → φ h O v w → φ h O v w') ∧
  ∀ h Op O w, (∀ b, O b → (C b ∨ w0.heap.size ≤ b) ∧ b < w.heap.size) → Ch C w0 w → (prevOf (chOf 0 Φ) i = none → h.length = (preOf 0 Φ).length ∧ Begun C (preOf 0 Φ) Op w0 w O) → Need l Φ (prevOf (chOf 0 Φ) i) (prevOf (chOf 0 Φ) i).isNone (flOf (prevOf (chOf 0 Φ) i)) h Op O w (fun E => RL P n l.toArray [o] (fun E' w' => ∃ v O', (match o.dst with | some d => look E' d = some v | none => v = undef) ∧
    (∀ b, O' b → (O b ∨ w.heap.size ≤ b) ∧ b < w'.heap.size) ∧ Ch O w w' ∧ φ (h ++ [v]) O' v w') E w) ds E0
def Each (P : Program) (n : Nat) (l : List Oper) (Φ : List (Option Bool × Fct)) (C : Nat → Prop) (E0 : Env) (w0 : World) : Nat → List Oper → List (Option Bool × Fct) → List (List Nat) → Prop
  | _, [], [], [] => True
  | i, o :: r, (none, φ) :: s, ds :: dr => EachA P n l Φ C E0 w0 i o φ ds ∧ Each P n l Φ C E0 w0 (i + 1) r s dr
  | i, o :: r, (some false, φ) :: s, ds :: dr => EachP P n l Φ C E0 w0 o φ ds ∧ Each P n l Φ C E0 w0 (i + 1) r s dr
  | i, o :: r, (some true, φ) :: s, ds :: dr => EachO P n l Φ C E0 w0 i o φ ds ∧ Each P n l Φ C E0 w0 (i + 1) r s dr
  | _, _, _, _ => False
section
variable {P : Program} {n : Nat} {l : List Oper} {Φ : List (Option Bool × Fct)} {C : Nat → Prop} {E0 : Env} {w0 : World} {i : Nat} {o : Oper} {r : List Oper} {φ : Fct} {s : List (Option Bool × Fct)} {ds : List Nat} {dr : List (List Nat)}
theorem Each.consA (h : EachA P n l Φ C E0 w0 i o φ ds) (h' : Each P n l Φ C E0 w0 (i + 1) r s dr) : Each P n l Φ C E0 w0 i (o :: r) ((none, φ) :: s) (ds :: dr) := ⟨h, h'⟩
theorem Each.consS (h3 : ∀ fl O w, (isEarly l (chOf 0 Φ) i = true → fl = []) → (fl = [] → ∃ Op, Begun C (preOf 0 Φ) Op w0 w O) → (∀ b, O b → (C b ∨ w0.heap.size ≤ b) ∧ b < w.heap.size) → Ch C w0 w → Need l Φ none false fl [] (fun _ _ => False) O w (fun E => RL P n l.toArray [o] (fun E' w' => ∃ v, (match o.dst with | some d => look E' d = some v | none => False) ∧ Ch nb w w' ∧ φ fl O v w') E w) ds E0)
    (h' : Each P n l Φ C E0 w0 (i + 1) r s dr) (hs : ∀ h h' O O' v w w', φ h O v w → φ h' O' v w' := by exact fun _ _ _ _ _ _ _ h => h) : Each P n l Φ C E0 w0 i (o :: r) ((none, φ) :: s) (ds :: dr) :=
  ⟨⟨fun _ _ _ _ _ _ h => hs _ _ _ _ _ _ _ h, fun _ _ _ _ _ _ _ _ _ _ _ _ _ h => hs _ _ _ _ _ _ _ h, h3⟩, h'⟩
theorem Each.consP (h : EachP P n l Φ C E0 w0 o φ ds) (h' : Each P n l Φ C E0 w0 (i + 1) r s dr) : Each P n l Φ C E0 w0 i (o :: r) ((some false, φ) :: s) (ds :: dr) := ⟨h, h'⟩
theorem Each.consO (h : EachO P n l Φ C E0 w0 i o φ ds) (h' : Each P n l Φ C E0 w0 (i + 1) r s dr) : Each P n l Φ C E0 w0 i (o :: r) ((some true, φ) :: s) (ds :: dr) := ⟨h, h'⟩
theorem Each.length : ∀ (r : List Oper) (s : List (Option Bool × Fct)) (dr : List (List Nat)) (i0 : Nat), Each P n l Φ C E0 w0 i0 r s dr → s.length = r.length
  | [], [], [], _, _ => rfl
  | o :: r, (none, φ) :: s, ds :: dr, i0, h => by simp [Each.length r s dr (i0 + 1) h.2]
  | o :: r, (some false, φ) :: s, ds :: dr, i0, h => by simp [Each.length r s dr (i0 + 1) h.2]
  | o :: r, (some true, φ) :: s, ds :: dr, i0, h => by simp [Each.length r s dr (i0 + 1) h.2]
  | [], [], _ :: _, _, h => h.elim
  | [], _ :: _, _, _, h => h.elim
  | _ :: _, [], _, _, h => h.elim
  | _ :: _, (none, _) :: _, [], _, h => h.elim
  | _ :: _, (some false, _) :: _, [], _, h => h.elim
  | _ :: _, (some true, _) :: _, [], _, h => h.elim
end
def OkAt (n : Nat) (E : Env) (pre ch : List Nat) (r : List Oper) (dr : List (List Nat)) (i0 : Nat) (seen : List Nat) : Prop := r.length = dr.length ∧ ∀ i o, r[i]? = some o → ∃ ds, dr[i]? = some ds ∧
      (∀ d, o.dst = some d → d < n ∧ look E d = none ∧ d ∉ seen ∧ ∀ k o', r[k]? = some o' → k ≠ i → o'.dst ≠ some d) ∧ (o.dst = none → i0 + i ∈ ch) ∧
      (∀ j ∈ bindOn o, j < i0 + i) ∧ (∀ j ∈ ds, j ∈ bindOn o) ∧ (i0 + i ∈ ch → (∀ a, prevOf ch (i0 + i) = some a → a ∈ bindOn o) ∧ (prevOf ch (i0 + i) = none → ∀ a ∈ pre, a ∈ bindOn o))
theorem okD.at {l : List Oper} {E : Env} {pre ch : List Nat} : ∀ (r : List Oper) (dr : List (List Nat)) (i0 : Nat) (seen : List Nat), okD n l E pre ch i0 r dr seen = true → OkAt n E pre ch r dr i0 seen
  | [], [], _, _, _ => ⟨rfl, fun i o h => by simp at h⟩
  | [], _ :: _, _, _, h => by simp [okD] at h
  | _ :: _, [], _, _, h => by simp [okD] at h
  | o :: r, ds :: dr, i0, seen, h => by
    have key : ∀ seen', (∀ d ∈ seen, d ∈ seen') → (∀ d, o.dst = some d → d ∈ seen') → (∀ d, o.dst = some d → d < n ∧ look E d = none ∧ d ∉ seen) → (o.dst = none → i0 ∈ ch) → (bindOn o).all (Nat.blt · i0) = true → ds.all ((bindOn o).contains ·) = true →
        (!ch.contains i0 || (match prevOf ch i0 with | some a => (bindOn o).contains a | none => pre.all ((bindOn o).contains ·))) = true → okD n l E pre ch (i0 + 1) r dr seen' = true → OkAt n E pre ch (o :: r) (ds :: dr) i0 seen := fun seen' hs1 hs2 hd hn h4 h5 h8 h6 => by
      obtain ⟨hl, ih⟩ := okD.at r dr (i0 + 1) seen' h6
      have hb : ∀ j ∈ bindOn o, j < i0 := by
        intro j hj
        have := List.all_eq_true.1 h4 j hj
        simpa [Nat.blt, Nat.succ_le_iff] using this
      have hs : ∀ j ∈ ds, j ∈ bindOn o := by
        intro j hj
        have := List.all_eq_true.1 h5 j hj
        simpa using this
      have hc2 : i0 ∈ ch → (∀ a, prevOf ch i0 = some a → a ∈ bindOn o) ∧ (prevOf ch i0 = none → ∀ a ∈ pre, a ∈ bindOn o) := by
        intro hi
        refine ⟨fun a ha => ?_, fun hn a ha => ?_⟩
        · rw [ha] at h8
          simpa [hi] using h8
        · rw [hn] at h8
          simp only [List.contains_eq_mem, hi, decide_true, Bool.not_true, Bool.false_or] at h8
          simpa using List.all_eq_true.1 h8 a ha
      refine ⟨by simp [hl], fun i o' ho' => ?_⟩
      cases i with
      | zero =>
        simp only [List.getElem?_cons_zero, Option.some.injEq] at ho'
        subst ho'
        refine ⟨ds, rfl, fun d hdd => ⟨(hd d hdd).1, (hd d hdd).2.1, (hd d hdd).2.2, fun k o' hk hne => ?_⟩, by simpa using hn, by simpa using hb, hs, by simpa using hc2⟩
        cases k with
        | zero => exact absurd rfl hne
        | succ k =>
          simp only [List.getElem?_cons_succ] at hk
          obtain ⟨_, _, e1, _⟩ := ih k o' hk
          intro e; exact (e1 d e).2.2.1 (hs2 d hdd)
      | succ i =>
        simp only [List.getElem?_cons_succ] at ho'
        obtain ⟨ds', e1, e2, e3, e6, e7, e10⟩ := ih i o' ho'
        have hii : i0 + 1 + i = i0 + (i + 1) := by omega
        rw [hii] at e3 e10
        refine ⟨ds', by simpa using e1, fun d hdd => ?_, e3, fun j hj => by have := e6 j hj; omega, e7, e10⟩
        obtain ⟨q1, q2, q3, q4⟩ := e2 d hdd
        refine ⟨q1, q2, fun hx => q3 (hs1 d hx), fun k o'' hk hne => ?_⟩
        cases k with
        | zero =>
          simp only [List.getElem?_cons_zero, Option.some.injEq] at hk
          subst hk
          intro e; exact q3 (hs2 d e)
        | succ k =>
          simp only [List.getElem?_cons_succ] at hk
          exact q4 k o'' hk (fun e => hne (by rw [e]))
    simp only [okD] at h
    cases hd : o.dst with
    | none =>
      rw [hd] at h
      simp only [Bool.and_eq_true] at h
      obtain ⟨⟨⟨⟨h1, h4⟩, h5⟩, h8⟩, h6⟩ := h
      exact key seen (fun _ h => h) (fun d e => by rw [hd] at e; cases e) (fun d e => by rw [hd] at e; cases e) (fun _ => by simpa using h1) h4 h5 h8 h6
    | some d =>
      rw [hd] at h
      simp only [Bool.and_eq_true, Bool.not_eq_true'] at h
      obtain ⟨⟨⟨⟨⟨⟨h1, h2⟩, h3⟩, h4⟩, h5⟩, h8⟩, h6⟩ := h
      exact key (d :: seen) (fun _ h => by simp [h]) (fun d' e => by rw [hd] at e; cases e; simp)
        (fun d' e => by rw [hd] at e; cases e; exact ⟨by simpa [Nat.blt, Nat.succ_le_iff] using h1, by simpa using h2, by simpa using h3⟩) (fun e => by rw [hd] at e; cases e) h4 h5 h8 h6
theorem chOf_ge : ∀ (i0 : Nat) (Φ : List (Option Bool × Fct)) (j : Nat), j ∈ chOf i0 Φ → i0 ≤ j ∧ j < i0 + Φ.length
  | _, [], _, h => by simp [chOf] at h
  | i0, (some true, φ) :: r, j, h => by
    simp only [chOf, List.mem_cons] at h
    rcases h with h | h
    · simp only [List.length_cons]; omega
    · have := chOf_ge (i0 + 1) r j h; simp only [List.length_cons]; omega
  | i0, (some false, φ) :: r, j, h => by have := chOf_ge (i0 + 1) r j h; simp only [List.length_cons]; omega
  | i0, (none, φ) :: r, j, h => by have := chOf_ge (i0 + 1) r j h; simp only [List.length_cons]; omega
theorem chOf_at : ∀ (i0 : Nat) (Φ : List (Option Bool × Fct)) (i : Nat) (c : Option Bool) (φ : Fct), Φ[i]? = some (c, φ) → (i0 + i ∈ chOf i0 Φ ↔ c = some true)
  | _, [], i, _, _, h => by simp at h
  | i0, (some true, φ') :: r, 0, c, φ, h => by
    simp only [List.getElem?_cons_zero, Option.some.injEq, Prod.mk.injEq] at h
    simp [chOf, ← h.1]
  | i0, (some false, φ') :: r, 0, c, φ, h => by
    simp only [List.getElem?_cons_zero, Option.some.injEq, Prod.mk.injEq] at h
    simp only [chOf, ← h.1, Nat.add_zero]
    constructor
    · intro hx; have := chOf_ge _ _ _ hx; omega
    · intro hx; cases hx
  | i0, (none, φ') :: r, 0, c, φ, h => by
    simp only [List.getElem?_cons_zero, Option.some.injEq, Prod.mk.injEq] at h
    simp only [chOf, ← h.1, Nat.add_zero]
    constructor
    · intro hx; have := chOf_ge _ _ _ hx; omega
    · intro hx; cases hx
  | i0, (some true, φ') :: r, i + 1, c, φ, h => by
    have := chOf_at (i0 + 1) r i c φ (by simpa using h)
    rw [show i0 + 1 + i = i0 + (i + 1) by omega] at this
    simp only [chOf, List.mem_cons]
    constructor
    · rintro (h | h)
      · omega
      · exact this.1 h
    · exact fun h => .inr (this.2 h)
  | i0, (some false, φ') :: r, i + 1, c, φ, h => by
    have := chOf_at (i0 + 1) r i c φ (by simpa using h)
    rw [show i0 + 1 + i = i0 + (i + 1) by omega] at this
    simpa only [chOf] using this
  | i0, (none, φ') :: r, i + 1, c, φ, h => by
    have := chOf_at (i0 + 1) r i c φ (by simpa using h)
    rw [show i0 + 1 + i = i0 + (i + 1) by omega] at this
    simpa only [chOf] using this
theorem preOf_ge : ∀ (i0 : Nat) (Φ : List (Option Bool × Fct)) (j : Nat), j ∈ preOf i0 Φ → i0 ≤ j ∧ j < i0 + Φ.length
  | _, [], _, h => by simp [preOf] at h
  | i0, (some false, φ) :: r, j, h => by
    simp only [preOf, List.mem_cons] at h
    rcases h with h | h
    · simp only [List.length_cons]; omega
    · have := preOf_ge (i0 + 1) r j h; simp only [List.length_cons]; omega
  | i0, (some true, φ) :: r, j, h => by have := preOf_ge (i0 + 1) r j h; simp only [List.length_cons]; omega
  | i0, (none, φ) :: r, j, h => by have := preOf_ge (i0 + 1) r j h; simp only [List.length_cons]; omega
theorem preOf_at : ∀ (i0 : Nat) (Φ : List (Option Bool × Fct)) (i : Nat) (c : Option Bool) (φ : Fct), Φ[i]? = some (c, φ) → (i0 + i ∈ preOf i0 Φ ↔ c = some false)
  | _, [], i, _, _, h => by simp at h
  | i0, (some false, φ') :: r, 0, c, φ, h => by
    simp only [List.getElem?_cons_zero, Option.some.injEq, Prod.mk.injEq] at h
    simp [preOf, ← h.1]
  | i0, (some true, φ') :: r, 0, c, φ, h => by
    simp only [List.getElem?_cons_zero, Option.some.injEq, Prod.mk.injEq] at h
    simp only [preOf, ← h.1, Nat.add_zero]
    constructor
    · intro hx; have := preOf_ge _ _ _ hx; omega
    · intro hx; cases hx
  | i0, (none, φ') :: r, 0, c, φ, h => by
    simp only [List.getElem?_cons_zero, Option.some.injEq, Prod.mk.injEq] at h
    simp only [preOf, ← h.1, Nat.add_zero]
    constructor
    · intro hx; have := preOf_ge _ _ _ hx; omega
    · intro hx; cases hx
  | i0, (some false, φ') :: r, i + 1, c, φ, h => by
    have := preOf_at (i0 + 1) r i c φ (by simpa using h)
    rw [show i0 + 1 + i = i0 + (i + 1) by omega] at this
    simp only [preOf, List.mem_cons]
    constructor
    · rintro (h | h)
      · omega
      · exact this.1 h
    · exact fun h => .inr (this.2 h)
  | i0, (some true, φ') :: r, i + 1, c, φ, h => by
    have := preOf_at (i0 + 1) r i c φ (by simpa using h)
    rw [show i0 + 1 + i = i0 + (i + 1) by omega] at this
    simpa only [preOf] using this
  | i0, (none, φ') :: r, i + 1, c, φ, h => by
    have := preOf_at (i0 + 1) r i c φ (by simpa using h)
    rw [show i0 + 1 + i = i0 + (i + 1) by omega] at this
    simpa only [preOf] using this
theorem chOf_nodup : ∀ (i0 : Nat) (Φ : List (Option Bool × Fct)), (chOf i0 Φ).Nodup
  | _, [] => List.nodup_nil
  | i0, (some true, φ) :: r => List.nodup_cons.2 ⟨fun h => by have := chOf_ge _ _ _ h; omega, chOf_nodup (i0 + 1) r⟩
  | i0, (some false, φ) :: r => chOf_nodup (i0 + 1) r
  | i0, (none, φ) :: r => chOf_nodup (i0 + 1) r
theorem prevOf_none : ∀ (p : List Nat) (a i : Nat), i ∉ p → prevOf (a :: p) i = none
  | [], a, i, _ => rfl
  | b :: r, a, i, h => by
    simp only [List.mem_cons, not_or] at h
    rw [prevOf, if_neg (fun e => h.1 e.symm)]
    exact prevOf_none r b i h.2
theorem prevOf_at : ∀ (d : List Nat) (i : Nat) (p : List Nat), i ∉ d → i ∉ p → prevOf (d ++ i :: p) i = d.getLast?
  | [], i, p, _, hp => prevOf_none p i i hp
  | [a], i, p, h, _ => by simp [prevOf]
  | a :: b :: r, i, p, h, hp => by
    simp only [List.mem_cons, not_or] at h
    have := prevOf_at (b :: r) i p (by simp [h.2.1, h.2.2]) hp
    simp only [List.cons_append] at this ⊢
    rw [prevOf, if_neg (fun e => h.2.1 e.symm), this]
    simp
theorem Each.at {l : List Oper} {Φ : List (Option Bool × Fct)} {C : Nat → Prop} {E0 : Env} {w0 : World} : ∀ (r : List Oper) (s : List (Option Bool × Fct)) (dr : List (List Nat)) (i0 : Nat), Each P n l Φ C E0 w0 i0 r s dr → ∀ (i : Nat) (o : Oper), r[i]? = some o → ∃ c φ ds, s[i]? = some (c, φ) ∧ dr[i]? = some ds ∧
      (c = none → EachA P n l Φ C E0 w0 (i0 + i) o φ ds) ∧ (c = some false → EachP P n l Φ C E0 w0 o φ ds) ∧ (c = some true → EachO P n l Φ C E0 w0 (i0 + i) o φ ds)
  | [], [], [], _, _, i, o, h => by simp at h
  | o :: r, (none, φ) :: s, ds :: dr, i0, h, i, o', ho => by
    cases i with
    | zero => simp only [List.getElem?_cons_zero, Option.some.injEq] at ho; subst ho; exact ⟨none, φ, ds, rfl, rfl, fun _ => h.1, fun hx => (nomatch hx), fun hx => (nomatch hx)⟩
    | succ i =>
      have := Each.at r s dr (i0 + 1) h.2 i o' (by simpa using ho)
      rw [show i0 + 1 + i = i0 + (i + 1) by omega] at this
      simpa using this
  | o :: r, (some false, φ) :: s, ds :: dr, i0, h, i, o', ho => by
    cases i with
    | zero => simp only [List.getElem?_cons_zero, Option.some.injEq] at ho; subst ho; exact ⟨some false, φ, ds, rfl, rfl, fun hx => (nomatch hx), fun _ => h.1, fun hx => (nomatch hx)⟩
    | succ i =>
      have := Each.at r s dr (i0 + 1) h.2 i o' (by simpa using ho)
      rw [show i0 + 1 + i = i0 + (i + 1) by omega] at this
      simpa using this
  | o :: r, (some true, φ) :: s, ds :: dr, i0, h, i, o', ho => by
    cases i with
    | zero => simp only [List.getElem?_cons_zero, Option.some.injEq] at ho; subst ho; exact ⟨some true, φ, ds, rfl, rfl, fun hx => (nomatch hx), fun hx => (nomatch hx), fun _ => h.1⟩
    | succ i =>
      have := Each.at r s dr (i0 + 1) h.2 i o' (by simpa using ho)
      rw [show i0 + 1 + i = i0 + (i + 1) by omega] at this
      simpa using this
  | [], [], _ :: _, _, h, _, _, _ => h.elim
  | [], _ :: _, _, _, h, _, _, _ => h.elim
  | _ :: _, [], _, _, h, _, _, _ => h.elim
  | _ :: _, (none, _) :: _, [], _, h, _, _, _ => h.elim
  | _ :: _, (some false, _) :: _, [], _, h, _, _, _ => h.elim
  | _ :: _, (some true, _) :: _, [], _, h, _, _, _ => h.elim
def left (listed : Array Bool) : Nat := listed.toList.countP (! ·)
theorem left_set {listed : Array Bool} {i : Nat} (h : listed[i]? = some false) : left (listed.setIfInBounds i true) + 1 = left listed := by
  have hlt : i < listed.size := (Array.getElem?_eq_some_iff.1 h).1
  have hv : listed.toList[i]'(by simpa using hlt) = false := by
    have := (Array.getElem?_eq_some_iff.1 h).2
    simpa using this
  unfold left
  rw [Array.toList_setIfInBounds, List.countP_set (by simpa using hlt), hv]
  have h0 : 0 < listed.toList.countP (! ·) := List.countP_pos_iff.2 ⟨false, by rw [← hv]; exact List.getElem_mem _, rfl⟩
  simp only [Bool.not_false, Bool.not_true, if_true, Bool.false_eq_true, if_false, Nat.add_zero]
  omega
theorem left_zero {listed : Array Bool} (h : left listed = 0) : ∀ i, i < listed.size → listed[i]? = some true := by
  intro i hi
  unfold left at h
  rw [List.countP_eq_zero] at h
  have := h (listed.toList[i]'(by simpa using hi)) (List.getElem_mem _)
  rw [Array.getElem?_eq_getElem hi]
  simpa using this
def DW (P : Program) (n : Nat) (l : List Oper) (Q : Exit → Env → World → Prop) (E : Env) (w : World) : Prop :=
  ∀ a, Ok n E a → wpAny P .any l.toArray (lift n Q) l.length (Array.replicate l.length false) a w
theorem DW.draw1 {l : List Oper} {Q : Exit → Env → World → Prop} {E0 : Env} {w0 w1 : World} (h01 : Ch nb w0 w1) (m : Nat) (Φ : List (Option Bool × Fct)) (ds : List (List Nat)) (fs : List Nat) (C : Nat → Prop) (hC : ∀ b, C b → b < w0.heap.size) (hm : P.follows .mixedOrders = true)
    (hml : Nat.ble m l.length = true) (hok : okD n l E0 (preOf 0 Φ) (chOf 0 Φ) 0 (l.take m) ds [] = true) (htail : tailOK l m = true)
    (hfs : fs.all (Nat.blt · m) = true)
    (each : Each P n l Φ C E0 w0 0 (l.take m) Φ ds)
    (fin : ∀ h Op O w, (∀ b, O b → (C b ∨ w0.heap.size ≤ b) ∧ b < w.heap.size) → Ch C w0 w → (chOf 0 Φ = [] → h.length = (preOf 0 Φ).length ∧ Begun C (preOf 0 Φ) Op w0 w O) →
      Need l Φ (chOf 0 Φ).getLast? (chOf 0 Φ).getLast?.isNone (flOf (chOf 0 Φ).getLast?) h Op O w (fun E => RL P n l.toArray (l.drop m) (Q .normal) E w) fs E0) : DW P n l Q E0 w1 := by
  intro a ha
  have hml := Nat.le_of_ble_eq_true hml
  have hat := (okD.at _ _ _ _ hok).2
  have heach := Each.at _ _ _ _ each
  have hlen : (l.take m).length = m := by rw [List.length_take]; omega
  have hlenΦ : Φ.length = m := by rw [Each.length _ _ _ _ each, hlen]
  have hΦlt : ∀ i c φ, Φ[i]? = some (c, φ) → i < m := fun i c φ h => by have := lt_of_get h; omega
  have hchlt : ∀ k ∈ chOf 0 Φ, k < m := fun k hk => by have := chOf_ge 0 Φ k hk; omega
  have hprelt : ∀ k ∈ preOf 0 Φ, k < m := fun k hk => by have := preOf_ge 0 Φ k hk; omega
  have hkind : ∀ (i : Nat) (c : Option Bool) (φ : Fct), Φ[i]? = some (c, φ) → (i ∈ chOf 0 Φ ↔ c = some true) ∧ (i ∈ preOf 0 Φ ↔ c = some false) := fun i c φ h => by
    have h1 := chOf_at 0 Φ i c φ h
    have h2 := preOf_at 0 Φ i c φ h
    rw [Nat.zero_add] at h1 h2
    exact ⟨h1, h2⟩
  have htk : ∀ i o, i < m → l[i]? = some o → (l.take m)[i]? = some o := by
    intro i o h1 h2
    rw [List.getElem?_take, if_pos h1]; exact h2
  have ready_iff : ∀ (listed : Array Bool) (i : Nat), i ∈ Region.ready .any l.toArray listed ↔ i < l.length ∧ listed.getD i true = false ∧ ∃ o, l[i]? = some o ∧ ∀ j ∈ bindOn o, listed.getD j false = true := by
    intro listed i
    unfold Region.ready
    rw [List.mem_filter]
    simp only [List.mem_range, List.size_toArray, Bool.and_eq_true, Bool.not_eq_true', List.getElem?_toArray]
    refine and_congr_right fun hi => and_congr_right fun _ => ?_
    rw [List.getElem?_eq_getElem hi]
    simp only [Option.map_some, Option.getD_some, Array.all_eq_true_iff_forall_mem, Bool.or_eq_true, Bool.not_eq_true', Option.some.injEq, exists_eq_left']
    constructor
    · intro h j hj
      unfold bindOn at hj
      rw [List.mem_map] at hj
      obtain ⟨e, he, rfl⟩ := hj
      rw [List.mem_filter] at he
      rcases h e (by simpa using he.1) with h | h
      · rw [he.2] at h; cases h
      · exact h
    · intro h e he
      cases hb : Region.binds .any e
      · exact .inl rfl
      · exact .inr (h e.on (List.mem_map.2 ⟨e, List.mem_filter.2 ⟨by simpa using he, hb⟩, rfl⟩))
  -- every operation hangs on earlier ones
  have hbef : ∀ (i : Nat) (o : Oper), l[i]? = some o → ∀ j ∈ bindOn o, j < i := by
    intro i o ho j hj
    rcases Nat.lt_or_ge i m with him | him
    · obtain ⟨dd, _, _, _, e6, _⟩ := hat i o (htk i o him ho)
      have := e6 j hj; omega
    · have hil : i < l.length := by
        rcases Nat.lt_or_ge i l.length with h' | h'
        · exact h'
        · rw [List.getElem?_eq_none h'] at ho; cases ho
      have h1 := List.all_eq_true.1 htail i (by simpa using hil)
      have h2 : Nat.blt i m = false := by
        cases h : Nat.blt i m
        · rfl
        · have : i < m := by simpa [Nat.blt, Nat.succ_le_iff] using h
          omega
      rw [h2, ho] at h1
      simp only [Bool.false_or, Bool.and_eq_true] at h1
      have h3 := List.all_eq_true.1 h1.2 j hj
      simpa [Nat.blt, Nat.succ_le_iff] using h3
  have htl : ∀ (t : Nat) (o : Oper), m ≤ t → l[t]? = some o → ∀ j, j < t → j ∈ cover l t (bindOn o) := by
    intro t o hmt ho j hj
    have hil : t < l.length := by
      rcases Nat.lt_or_ge t l.length with h' | h'
      · exact h'
      · rw [List.getElem?_eq_none h'] at ho; cases ho
    have h1 := List.all_eq_true.1 htail t (by simpa using hil)
    have h2 : Nat.blt t m = false := by
      cases h : Nat.blt t m
      · rfl
      · have : t < m := by simpa [Nat.blt, Nat.succ_le_iff] using h
        omega
    rw [h2, ho] at h1
    simp only [Bool.false_or, Bool.and_eq_true] at h1
    have h3 := List.all_eq_true.1 h1.1 j (by simpa using hj)
    simpa using h3
  -- the values
  have hidx : ∀ (done todo : List Nat) (h : List Value) (a : Act), chOf 0 Φ = done ++ todo → (∀ (k j : Nat), (preOf 0 Φ ++ done)[k]? = some j → slotV l a j = h[k]?) → ∀ j ∈ preOf 0 Φ ++ done, slotV l a j = h[(preOf 0 Φ ++ chOf 0 Φ).idxOf j]? := by
    intro done todo h a hch hv j hj
    have h1 : (preOf 0 Φ ++ chOf 0 Φ).idxOf j = (preOf 0 Φ ++ done).idxOf j := by rw [hch, ← List.append_assoc, List.idxOf_append, if_pos hj]
    rw [h1]
    refine hv _ j ?_
    rw [List.getElem?_eq_getElem (List.idxOf_lt_length_iff.2 hj), List.getElem_idxOf]
  -- what the facts give
  have hneed : ∀ (cur : Option Nat) (pf : Bool) (fl : List Value) (done todo : List Nat) (h : List Value) (Op : Nat → Nat → Prop) (O : Nat → Prop) (a : Act) (w : World) (j : Nat) (φ : Option Bool × Fct), Φ[j]? = some φ → (φ.1 = none → Good l Φ fl O j a w) → (φ.1 = some true → j ∈ done) → chOf 0 Φ = done ++ todo →
      (φ.1 = some false → Past l Φ j a) → (∀ k ∈ done, Past l Φ k a) → (pf = true → φ.1 = some false → Good l Φ [] (Op j) j a w) →
      (pf = true ∨ cur ≠ none → ∀ (k j : Nat), (preOf 0 Φ ++ done)[k]? = some j → slotV l a j = h[k]?) → (∀ k, cur = some k → Good l Φ h O k a w) → ∃ v, slotV l a j = some v ∧ Fits Φ cur pf fl h Op O w j φ v := by
    intro cur pf fl done todo h Op O a w j φ hφ h1 h2 hch hpp hp hpf hv hc
    have hk := hkind j φ.1 φ.2 hφ
    cases hb : φ.1 with
    | none =>
      obtain ⟨φ', v, e1, e2, e3⟩ := h1 hb
      rw [hφ] at e1; cases e1
      exact ⟨v, e2, by simp only [Fits, hb]; exact e3⟩
    | some b =>
      cases b with
      | true =>
        by_cases hcj : cur = some j
        · obtain ⟨φ', v, e1, e2, e3⟩ := hc j hcj
          rw [hφ] at e1; cases e1
          exact ⟨v, e2, by simp only [Fits, hb, if_pos hcj]; exact e3⟩
        · have hjd := h2 hb
          obtain ⟨φ', v, e1, e2, h', O', w', e3⟩ := hp j hjd
          rw [hφ] at e1; cases e1
          refine ⟨v, e2, ?_⟩
          simp only [Fits, hb, if_neg hcj]
          exact ⟨fun hx => by rw [← hidx done todo h a hch (hv (.inr hx)) j (by simp [hjd])]; exact e2, h', O', w', e3⟩
      | false =>
        have hjp : j ∈ preOf 0 Φ := hk.2.2 hb
        obtain ⟨φ', v, e1, e2, h', O', w', e3⟩ := hpp hb
        rw [hφ] at e1; cases e1
        refine ⟨v, e2, ?_⟩
        simp only [Fits, hb]
        refine ⟨fun hx => ?_, fun hx => by rw [← hidx done todo h a hch (hv hx) j (by simp [hjp])]; exact e2, h', O', w', e3⟩
        obtain ⟨φ', v', f1, f2, f3⟩ := hpf hx hb
        rw [hφ] at f1; cases f1
        rw [e2] at f2; cases f2; exact f3
  have step : ∀ fuel (listed : Array Bool) (a : Act) (w : World), listed.size = l.length → left listed = fuel →
      (∀ (i : Nat) (o : Oper), l[i]? = some o → listed[i]? = some true → ∀ j ∈ bindOn o, listed[j]? = some true) →
      ((∃ O Op h done todo, Ch C w0 w ∧ (∀ b, O b → (C b ∨ w0.heap.size ≤ b) ∧ b < w.heap.size) ∧ Ok n E0 a ∧ (∀ i : Nat, i < m → i ∉ chOf 0 Φ → i ∉ preOf 0 Φ → listed[i]? = some true → Good l Φ (flOf done.getLast?) O i a w) ∧
          (chOf 0 Φ = done ++ todo ∧ (∀ j ∈ done, listed[j]? = some true) ∧ (∀ j ∈ todo, listed[j]? = some false)) ∧
          (done = [] → Begun C (preOf 0 Φ) Op w0 w O ∧ (∀ k, listed[k]? = some false → ∀ b, ¬ Op k b) ∧ ∀ k ∈ preOf 0 Φ, listed[k]? = some true → Good l Φ [] (Op k) k a w) ∧
          (∀ k ∈ preOf 0 Φ ++ done, listed[k]? = some true → Past l Φ k a) ∧
          (done ≠ [] → (∀ k ∈ preOf 0 Φ, listed[k]? = some true) ∧ h.length = (preOf 0 Φ).length + done.length ∧ ∀ (k j : Nat), (preOf 0 Φ ++ done)[k]? = some j → slotV l a j = h[k]?) ∧
          (∀ j, done.getLast? = some j → Good l Φ h O j a w) ∧
          (∀ i, m ≤ i → i < l.length → listed[i]? = some false)) ∨
       (∃ t, m ≤ t ∧ t ≤ l.length ∧ (∀ i, i < t → listed[i]? = some true) ∧ (∀ i, t ≤ i → i < l.length → listed[i]? = some false) ∧ wpList P l.toArray (kq n (Q .normal)) (l.drop t) a w)) →
      wpAny P .any l.toArray (lift n Q) fuel listed a w := by
    -- all of the head is done: the rest
    have hfin : ∀ (listed : Array Bool) (a : Act) (w : World) (O : Nat → Prop) (Op : Nat → Nat → Prop) (h : List Value) (done todo : List Nat), (∀ j, j < m → listed[j]? = some true) → Ch C w0 w → (∀ b, O b → (C b ∨ w0.heap.size ≤ b) ∧ b < w.heap.size) → Ok n E0 a →
        (∀ i : Nat, i < m → i ∉ chOf 0 Φ → i ∉ preOf 0 Φ → listed[i]? = some true → Good l Φ (flOf done.getLast?) O i a w) → chOf 0 Φ = done ++ todo → (∀ j ∈ todo, listed[j]? = some false) →
        (done = [] → Begun C (preOf 0 Φ) Op w0 w O ∧ (∀ k, listed[k]? = some false → ∀ b, ¬ Op k b) ∧ ∀ k ∈ preOf 0 Φ, listed[k]? = some true → Good l Φ [] (Op k) k a w) →
        (∀ k ∈ preOf 0 Φ ++ done, listed[k]? = some true → Past l Φ k a) →
        (done ≠ [] → (∀ k ∈ preOf 0 Φ, listed[k]? = some true) ∧ h.length = (preOf 0 Φ).length + done.length ∧ ∀ (k j : Nat), (preOf 0 Φ ++ done)[k]? = some j → slotV l a j = h[k]?) →
        (∀ j, done.getLast? = some j → Good l Φ h O j a w) → ∃ E', Ok n E' a ∧ RL P n l.toArray (l.drop m) (Q .normal) E' w := by
      intro listed a w O Op h done todo hall hb hO hok' hg hch hd2 hbeg hpast hh hlast
      have htodo : todo = [] := by
        cases todo with
        | nil => rfl
        | cons j r =>
          have h1 := hd2 j (by simp)
          rw [hall j (hchlt j (by rw [hch]; simp))] at h1; cases h1
      subst htodo
      rw [List.append_nil] at hch
      by_cases hd : done = []
      · subst hd
        obtain ⟨hB, hB2, hB3⟩ := hbeg rfl
        have hpv : ∀ k ∈ preOf 0 Φ, ∃ v, slotV l a k = some v := fun k hk => by
          obtain ⟨φ', v, _, e2, _⟩ := hB3 k hk (hall k (hprelt k hk))
          exact ⟨v, e2⟩
        refine Need.elim fs E0 (fin ((preOf 0 Φ).map fun k => (slotV l a k).getD undef) Op O w hO hb fun _ => ⟨by simp, hB⟩) hok' (fun j hj φ hφ => ?_) (fun j hj => by
          have h1 := List.all_eq_true.1 hfs j hj
          have hjm : j < m := by simpa [Nat.blt, Nat.succ_le_iff] using h1
          omega)
        have h1 := List.all_eq_true.1 hfs j hj
        have hjm : j < m := by simpa [Nat.blt, Nat.succ_le_iff] using h1
        have hk := hkind j φ.1 φ.2 hφ
        refine hneed _ _ _ [] [] _ Op O a w j φ hφ (fun hb => by rw [hch]; exact hg j hjm (fun hx => by rw [hk.1.1 hx] at hb; cases hb) (fun hx => by rw [hk.2.1 hx] at hb; cases hb) (hall j hjm)) (fun hb => by rw [← hch]; exact hk.1.2 hb) (by rw [hch, List.append_nil])
          (fun hb => (hB3 j (hk.2.2 hb) (hall j hjm)).past) (fun k hk => (List.not_mem_nil hk).elim) (fun _ hb => hB3 j (hk.2.2 hb) (hall j hjm)) (fun _ k j' hkj => ?_) (fun k hk => by rw [hch] at hk; cases hk)
        rw [List.append_nil] at hkj
        obtain ⟨v, hv⟩ := hpv j' (List.mem_of_getElem? hkj)
        rw [List.getElem?_map, hkj, hv]; simp [hv]
      · obtain ⟨q1, q2, q3⟩ := hh hd
        have hce : chOf 0 Φ ≠ [] := by rw [hch]; exact hd
        refine Need.elim fs E0 (fin h Op O w hO hb fun hx => (hce hx).elim) hok' (fun j hj φ hφ => ?_) (fun j hj => by
          have h1 := List.all_eq_true.1 hfs j hj
          have hjm : j < m := by simpa [Nat.blt, Nat.succ_le_iff] using h1
          omega)
        have h1 := List.all_eq_true.1 hfs j hj
        have hjm : j < m := by simpa [Nat.blt, Nat.succ_le_iff] using h1
        have hk := hkind j φ.1 φ.2 hφ
        refine hneed _ _ _ done [] h Op O a w j φ hφ (fun hb => by rw [hch]; exact hg j hjm (fun hx => by rw [hk.1.1 hx] at hb; cases hb) (fun hx => by rw [hk.2.1 hx] at hb; cases hb) (hall j hjm)) (fun hb => by rw [← hch]; exact hk.1.2 hb) (by rw [List.append_nil]; exact hch)
          (fun hb => hpast j (by simp [hk.2.2 hb]) (hall j hjm)) (fun k hk => hpast k (by simp [hk]) (hall k (hchlt k (by rw [hch]; exact hk)))) (fun hx _ => ?_) (fun _ => q3) (fun k hk => hlast k (by rw [← hch]; exact hk))
        exfalso
        rw [Option.isNone_iff_eq_none, List.getLast?_eq_none_iff] at hx
        exact hce hx
    intro fuel
    induction fuel with
    | zero =>
      intro listed a w hs h0 hcl hI
      have hz := left_zero h0
      refine ⟨?_, ?_⟩
      · rw [List.eq_nil_iff_forall_not_mem]
        intro i hi
        obtain ⟨h1, h2, _⟩ := (ready_iff listed i).1 hi
        have := hz i (by omega)
        simp [Array.getD_eq_getD_getElem?, this] at h2
      · rcases hI with ⟨O, Op, h, done, todo, hb, hO, hok', hg, ⟨hch, hd1, hd2⟩, hbeg, hpast, hh, hlast, hl⟩ | ⟨t, h1, h2, h3, h4, hq⟩
        · have hnil : l.drop m = [] := by
            apply List.drop_eq_nil_of_le
            rcases Nat.lt_or_ge m l.length with h | h
            · have h1 := hl m (Nat.le_refl _) h
              rw [hz m (by omega)] at h1; cases h1
            · exact h
          obtain ⟨E', hE, hr⟩ := hfin listed a w O Op h done todo (fun j hj => hz j (by omega)) hb hO hok' hg hch hd2 hbeg hpast hh hlast
          rw [hnil] at hr
          exact hr a hE
        · have : t = l.length := by
            rcases Nat.lt_or_ge t l.length with h | h
            · have h5 := h4 t (Nat.le_refl _) h
              rw [hz t (by omega)] at h5; cases h5
            · omega
          rw [this, List.drop_length] at hq
          exact hq
    | succ fuel ih =>
      intro listed a w hs hf hcl hI
      -- the next operation that is not yet carried out is ready
      have hex : ∃ i, i < l.length ∧ listed[i]? = some false ∧ ∀ j, j < i → listed[j]? = some true := by
        have h1 : ∃ i, i < l.length ∧ listed[i]? = some false := by
          refine Classical.byContradiction fun hn => ?_
          have : left listed = 0 := by
            unfold left
            rw [List.countP_eq_zero]
            intro b hb'
            obtain ⟨p, hp, rfl⟩ := List.mem_iff_getElem.1 hb'
            have hp' : p < listed.size := by simpa using hp
            cases hv : listed[p]
            · exact absurd ⟨p, by omega, by rw [Array.getElem?_eq_getElem hp', hv]⟩ hn
            · simp [hv]
          omega
        obtain ⟨i, hi, hfalse⟩ := h1
        induction i using Nat.strongRecOn with
        | _ i ihi =>
          by_cases hall : ∀ j, j < i → listed[j]? = some true
          · exact ⟨i, hi, hfalse, hall⟩
          · obtain ⟨j, hj⟩ := Classical.not_forall.1 hall
            obtain ⟨hji, hj⟩ := Classical.not_imp.1 hj
            refine ihi j hji (by omega) ?_
            have hjs : j < listed.size := by omega
            rw [Array.getElem?_eq_getElem hjs] at hj ⊢
            cases hv : listed[j]
            · rfl
            · rw [hv] at hj; exact absurd rfl hj
      refine ⟨fun hnil => ?_, fun i hi => ?_⟩
      · exfalso
        obtain ⟨i, hi, hfalse, hbefore⟩ := hex
        have : i ∈ Region.ready .any l.toArray listed := by
          refine (ready_iff listed i).2 ⟨hi, by simp [Array.getD_eq_getD_getElem?, hfalse], l[i], List.getElem?_eq_getElem hi, fun j hj => ?_⟩
          have hji : j < i := hbef i _ (List.getElem?_eq_getElem hi) j hj
          simp [Array.getD_eq_getD_getElem?, hbefore j hji]
        rw [hnil] at this; cases this
      · obtain ⟨hil, hnot, o, ho, hdeps⟩ := (ready_iff listed i).1 hi
        have hfalse : listed[i]? = some false := by
          have his : i < listed.size := by omega
          rw [Array.getElem?_eq_getElem his]
          simp [Array.getD_eq_getD_getElem?, Array.getElem?_eq_getElem his] at hnot
          rw [hnot]
        have hls := left_set hfalse
        have hdep : ∀ j ∈ bindOn o, listed[j]? = some true := by
          intro j hj
          have h1 := hdeps j hj
          rcases Nat.lt_or_ge j listed.size with h | h
          · rw [Array.getElem?_eq_getElem h]
            simpa [Array.getD_eq_getD_getElem?, Array.getElem?_eq_getElem h] using h1
          · simp [Array.getD_eq_getD_getElem?, Array.getElem?_eq_none h] at h1
        have hset : ∀ k : Nat, listed[k]? = some true → (listed.setIfInBounds i true)[k]? = some true := by
          intro k hk
          by_cases e : k = i
          · subst e; rw [hfalse] at hk; cases hk
          · rw [Array.getElem?_setIfInBounds_ne (fun x => e x.symm)]; exact hk
        have hsetF : ∀ k : Nat, k ≠ i → listed[k]? = some false → (listed.setIfInBounds i true)[k]? = some false := by
          intro k e hk
          rw [Array.getElem?_setIfInBounds_ne (fun x => e x.symm)]; exact hk
        have hseti : (listed.setIfInBounds i true)[i]? = some true := by
          have his : i < listed.size := by omega
          simp [his]
        have hcl' : ∀ (k : Nat) (o' : Oper), l[k]? = some o' → (listed.setIfInBounds i true)[k]? = some true → ∀ j ∈ bindOn o', (listed.setIfInBounds i true)[j]? = some true := by
          intro k o' hk hkt j hj
          by_cases e : k = i
          · subst e
            rw [ho] at hk; cases hk
            exact hset j (hdep j hj)
          · rw [Array.getElem?_setIfInBounds_ne (fun x => e x.symm)] at hkt
            exact hset j (hcl k o' hk hkt j hj)
        -- an operation of the tail: all before it are done
        have hall : m ≤ i → ∀ j, j < i → listed[j]? = some true := by
          intro hmi j hj
          exact cover_sound (l := l) (p := fun k : Nat => listed[k]? = some true) hcl i (bindOn o) hdep j (htl i o hmi ho j hj)
        rcases hI with ⟨O, Op, hv, done, todo, hb, hO, hok', hg, ⟨hch, hd1, hd2⟩, hbeg, hpast, hh, hlast, hl⟩ | ⟨t, h1, h2, h3, h4, hq⟩
        case inr =>
          have hit : i = t := by
            rcases Nat.lt_trichotomy i t with h | h | h
            · rw [h3 i h] at hfalse; cases hfalse
            · exact h
            · have := hall (by omega) t h
              rw [h4 t (Nat.le_refl _) (by omega)] at this; cases this
          subst hit
          rw [List.drop_eq_getElem_cons hil] at hq
          have hoe : l[i] = o := by rw [List.getElem?_eq_getElem hil] at ho; exact Option.some.inj ho
          rw [hoe] at hq
          have hnext : ∀ a' w', wpList P l.toArray (kq n (Q .normal)) (l.drop (i + 1)) a' w' → wpAny P .any l.toArray (lift n Q) fuel (listed.setIfInBounds i true) a' w' := by
            intro a' w' h
            refine ih _ _ _ (by simp [hs]) (by omega) hcl' (.inr ⟨i + 1, by omega, by omega, fun k hk => ?_, fun k hk hkl => hsetF k (by omega) (h4 k (by omega) hkl), h⟩)
            by_cases e : k = i
            · subst e; exact hseti
            · exact hset k (h3 k (by omega))
          unfold wpList at hq
          unfold wpOp
          simp only [List.getElem?_toArray, ho]
          split at hq
          · rename_i hw
            rw [if_pos hw]
            rcases hq with hq | ⟨_, _, _, hq⟩
            · refine .inl ?_
              unfold Oper.wp at hq ⊢
              generalize (execOp a.eval o).run P w = r at hq ⊢
              cases r with
              | ok x w' =>
                cases x <;> simp only [Oper.upon] at hq ⊢
                case value => exact hnext _ _ hq
                case skip => exact hnext _ _ hq
                case defer => exact hnext _ _ hq
                case enter =>
                  refine Calls.mono hq fun e w'' he => ?_
                  cases e with
                  | returned v => exact hnext _ _ he
                  | panicked c => exact he.elim
                  | outgrown => obtain ⟨_, _, he⟩ := he; exact he.elim
                case row => exact Rows.mono hq fun _ _ he => hnext _ _ he
              | halt x w' => cases x <;> simp only [Oper.upon, kq] at hq
            · exact hq.elim
          · rename_i hw
            rw [if_neg hw]
            exact hnext _ _ hq
        case inl =>
        rcases Nat.lt_or_ge i m with him | him
        · obtain ⟨dd, e2, eD, eN, e6, e7, e10⟩ := hat i o (htk i o him ho)
          simp only [Nat.zero_add] at e10 eN
          obtain ⟨c, φ, dd', f1, f2, fA, fP, fO⟩ := heach i o (htk i o him ho)
          obtain rfl : dd' = dd := by rw [e2] at f2; cases f2; rfl
          simp only [Nat.zero_add] at fO fA
          have hmem := hkind i c φ f1
          -- what the operation leaves in the frame
          have hframe : ∀ (v : Value) (E'' : Env), Ok n E'' (a.put o.dst v) → Ok n E0 (a.put o.dst v) := by
            intro v E'' h''
            refine ⟨h''.sz, h''.df, fun t x ht => ?_⟩
            cases hd : o.dst with
            | none => simp only [Act.put]; exact hok'.sl t x ht
            | some d =>
              have hne : d ≠ t := by rintro rfl; rw [(eD d hd).2.1] at ht; cases ht
              simp only [Act.put]
              rw [Array.getElem?_setIfInBounds_ne hne]; exact hok'.sl t x ht
          have hslotV : ∀ (v : Value) (k : Nat), k ≠ i → k < m → slotV l (a.put o.dst v) k = slotV l a k := by
            intro v k hne hkm
            have hkl : k < l.length := by omega
            unfold slotV
            cases hd' : (l[k]?).bind (·.dst) with
            | none => rfl
            | some d' =>
              simp only
              cases hd : o.dst with
              | none => rfl
              | some d =>
                have hdd : d ≠ d' := by
                  rintro rfl
                  have := (eD d hd).2.2.2 k l[k] (htk k _ hkm (List.getElem?_eq_getElem hkl)) hne
                  rw [List.getElem?_eq_getElem hkl] at hd'
                  exact this (by simpa using hd')
                simp only [Act.put]
                rw [Array.getElem?_setIfInBounds_ne hdd]
          have hother : ∀ (v : Value) (k : Nat) (h h2 : List Value) (O1 O2 : Nat → Prop) (w1 w2 : World), k ≠ i → Good l Φ h O1 k a w1 → (∀ (c' : Option Bool) (φ' : Fct) (v' : Value), Φ[k]? = some (c', φ') → φ' h O1 v' w1 → φ' h2 O2 v' w2) → Good l Φ h2 O2 k (a.put o.dst v) w2 := by
            rintro v k h h2 O1 O2 w1 w2 hne ⟨⟨c', φ'⟩, v', g2, g3, g4⟩ hst
            exact ⟨(c', φ'), v', g2, by rw [hslotV v k hne (hΦlt k c' φ' g2)]; exact g3, hst c' φ' v' g2 g4⟩
          have hpastv : ∀ (v : Value) (k : Nat), k ≠ i → Past l Φ k a → Past l Φ k (a.put o.dst v) := by
            rintro v k hne ⟨⟨c', φ'⟩, v', g2, g3, g4⟩
            exact ⟨(c', φ'), v', g2, by rw [hslotV v k hne (hΦlt k c' φ' g2)]; exact g3, g4⟩
          have hstays : ∀ (k : Nat) (c' : Option Bool) (φ' : Fct), Φ[k]? = some (c', φ') → ∀ h O1 v' w1 w2, Ch nb w1 w2 → φ' h O1 v' w1 → φ' h O1 v' w2 := by
            intro k c' φ' hk h O1 v' w1 w2 hc hf
            have hkm := hΦlt k c' φ' hk
            have hkl : k < l.length := by omega
            obtain ⟨c2, φ2, dd2, k1, k2, kA, kP, kO⟩ := heach k l[k] (htk k _ hkm (List.getElem?_eq_getElem hkl))
            rw [hk] at k1
            simp only [Option.some.injEq, Prod.mk.injEq] at k1
            obtain ⟨rfl, rfl⟩ := k1
            match c', kA, kP, kO with
            | none, kA, _, _ => exact (kA rfl).1 _ _ _ _ _ hc hf
            | some false, _, kP, _ => exact (kP rfl).1 _ _ _ _ _ hc hf
            | some true, _, _, kO => exact (kO rfl).1 _ _ _ _ _ hc hf
          have hplain : ∀ (k : Nat) (c' : Option Bool) (φ' : Fct), Φ[k]? = some (c', φ') → k ∉ chOf 0 Φ → k ∉ preOf 0 Φ → preOf 0 Φ ++ chOf 0 Φ ≠ [] → ∀ (h1 h2 : List Value) (O1 O2 D : Nat → Prop) v' w1 w2, (h2 = [undef] ∨ h2 = h1 ∧ ∀ b, ¬ D b) → (∀ b, D b → O1 b) → (∀ b, O2 b → O1 b ∨ w1.heap.size ≤ b) → Ch D w1 w2 → φ' h1 O1 v' w1 → φ' h2 O2 v' w2 := by
            intro k c' φ' hk hn1 hn2 hne h1 h2 O1 O2 D v' w1 w2 hhh hD hO2 hc hf
            have hkm := hΦlt k c' φ' hk
            have hkl : k < l.length := by omega
            obtain ⟨c2, φ2, dd2, k1, k2, kA, kP, kO⟩ := heach k l[k] (htk k _ hkm (List.getElem?_eq_getElem hkl))
            rw [hk] at k1
            simp only [Option.some.injEq, Prod.mk.injEq] at k1
            obtain ⟨rfl, rfl⟩ := k1
            have hkk := hkind k c' φ' hk
            match c', kA, kP, kO, hkk with
            | none, kA, _, _, _ => exact (kA rfl).2.1 hne _ _ _ _ _ _ _ _ hhh hD hO2 hc hf
            | some false, _, _, _, hkk => exact (hn2 (hkk.2.2 rfl)).elim
            | some true, _, _, _, hkk => exact (hn1 (hkk.1.2 rfl)).elim
          -- what comes before: for an operation that is no part of the chain
          have hdepA : ∀ j ∈ dd', ∀ φ', Φ[j]? = some φ' → ∃ v, slotV l a j = some v ∧ Fits Φ none false (flOf done.getLast?) [] (fun _ _ => False) O w j φ' v := by
            intro j hj φ' hφ'
            have hk := hkind j φ'.1 φ'.2 hφ'
            have hjl := hdep j (e7 j hj)
            have hjm : j < m := by have := e6 j (e7 j hj); omega
            refine hneed none false _ done todo [] _ O a w j φ' hφ' (fun hb' => hg j hjm (fun h => by have := hk.1.1 h; rw [hb'] at this; cases this) (fun h => by have := hk.2.1 h; rw [hb'] at this; cases this) hjl) (fun hb' => ?_) hch (fun hb' => hpast j (by simp [hk.2.2 hb']) hjl)
              (fun k hk => hpast k (by simp [hk]) (hd1 k hk)) (fun hx _ => by cases hx) (fun hx => hx.elim (fun h => nomatch h) (fun h => absurd rfl h)) (fun k hk => by cases hk)
            have hjc := hk.1.2 hb'
            rw [hch] at hjc
            rcases List.mem_append.1 hjc with h | h
            · exact h
            · have h5 := hd2 j h; rw [hjl] at h5; cases h5
          have hdlt : ∀ j ∈ dd', j < Φ.length := fun j hj => by have := e6 j (e7 j hj); omega
          have hpast' : ∀ (v : Value), (∀ k ∈ preOf 0 Φ ++ done, k ≠ i → (listed.setIfInBounds i true)[k]? = some true → Past l Φ k (a.put o.dst v)) := fun v k hk hne hkt => by
            have hkt' : listed[k]? = some true := by rwa [Array.getElem?_setIfInBounds_ne (fun x => hne x.symm)] at hkt
            exact hpastv v k hne (hpast k hk hkt')
          match c, f1, fA, fP, fO, hmem with
          | none, f1, fA, _, _, hmem =>
            have hnch : i ∉ chOf 0 Φ := fun h => by have := hmem.1.1 h; cases this
            have hnpre : i ∉ preOf 0 Φ := fun h => by have := hmem.2.1 h; cases this
            obtain ⟨d, e1⟩ : ∃ d, o.dst = some d := by
              cases hd : o.dst with
              | none => exact (hnch (eN hd)).elim
              | some d => exact ⟨d, rfl⟩
            obtain ⟨s1, s2, hobl⟩ := fA rfl
            have hearly : isEarly l (chOf 0 Φ) i = true → flOf done.getLast? = [] := by
              intro hea
              cases hd0 : done with
              | nil => rfl
              | cons c0 rr =>
                exfalso
                rw [hch, hd0] at hea
                simp only [List.cons_append, isEarly] at hea
                have hc0 : listed[c0]? = some true := hd1 c0 (by rw [hd0]; simp)
                have hc0m : c0 < m := hchlt c0 (by rw [hch, hd0]; simp)
                have hc0l : c0 < l.length := by omega
                rw [List.getElem?_eq_getElem hc0l] at hea
                have := cover_sound (l := l) (p := fun k : Nat => listed[k]? = some true) hcl c0 (bindOn l[c0]) (fun j hj => hcl c0 _ (List.getElem?_eq_getElem hc0l) hc0 j hj) i (by simpa using hea)
                rw [hfalse] at this; cases this
            obtain ⟨E', hE', hr⟩ := Need.elim dd' E0 (hobl (flOf done.getLast?) O w hearly (fun hfl => ⟨Op, (hbeg (by
              cases hd0 : done with
              | nil => rfl
              | cons c0 rr =>
                rw [hd0] at hfl
                cases hq : (c0 :: rr).getLast? with
                | none => simp at hq
                | some q => rw [hq] at hfl; cases hfl)).1⟩) hO hb) hok' hdepA hdlt
            refine wpOp_of_RL (by simpa using ho) hr hE' ?_
            rintro v w' ⟨E'', hE'', u, hu, hc, hφ⟩
            rw [e1] at hu
            simp only at hu
            have hslot := hE''.sl d u hu
            have hok2 := hframe v E'' hE''
            have hnd : ∀ j ∈ preOf 0 Φ ++ done, j ≠ i := fun j hj => by
              rintro rfl
              rcases List.mem_append.1 hj with h | h
              · exact hnpre h
              · exact hnch (by rw [hch]; simp [h])
            refine ih _ _ _ (by simp [hs]) (by omega) hcl' (.inl ⟨O, Op, hv, done, todo, hb.then0 hc, fun b h => ⟨(hO b h).1, Nat.lt_of_lt_of_le (hO b h).2 hc.size⟩, hok2, fun k hk hkc hkp hkt => ?_, ⟨hch, fun j hj => hset j (hd1 j hj), fun j hj => hsetF j (by rintro rfl; exact hnch (by rw [hch]; simp [hj])) (hd2 j hj)⟩,
              fun hdn => ?_, fun k hk hkt => hpast' v k hk (hnd k hk) hkt, fun hdn => ⟨fun k hk => hset k ((hh hdn).1 k hk), (hh hdn).2.1, fun k j hkj => ?_⟩, fun j hj => ?_, fun k hk hkl => hsetF k (by omega) (hl k hk hkl)⟩)
            · by_cases e : k = i
              · subst e
                exact ⟨(none, φ), u, f1, by simp [slotV, ho, e1]; rw [e1] at hslot; simpa using hslot, hφ⟩
              · have hkt' : listed[k]? = some true := by rwa [Array.getElem?_setIfInBounds_ne (fun x => e x.symm)] at hkt
                exact hother v k (flOf done.getLast?) (flOf done.getLast?) O O w w' e (hg k hk hkc hkp hkt') fun c' φ' v' hk' => hstays k c' φ' hk' (flOf done.getLast?) O v' w w' hc
            · obtain ⟨⟨b1, b2, b3, b4⟩, b5, b6⟩ := hbeg hdn
              refine ⟨⟨b1, b2.then0 hc, fun k b h => ⟨(b3 k b h).1, Nat.lt_of_lt_of_le (b3 k b h).2 hc.size⟩, b4⟩, fun k hkf => b5 k ?_, fun k hk hkt => ?_⟩
              · by_cases e : k = i
                · subst e; rw [hseti] at hkf; cases hkf
                · rwa [Array.getElem?_setIfInBounds_ne (fun x => e x.symm)] at hkf
              · have e : k ≠ i := by rintro rfl; exact hnpre hk
                have hkt' : listed[k]? = some true := by rwa [Array.getElem?_setIfInBounds_ne (fun x => e x.symm)] at hkt
                exact hother v k [] [] (Op k) (Op k) w w' e (b6 k hk hkt') fun c' φ' v' hk' => hstays k c' φ' hk' [] (Op k) v' w w' hc
            · have hjd := List.mem_of_getElem? hkj
              rw [hslotV v j (hnd j hjd) (by
                rcases List.mem_append.1 hjd with h | h
                · exact hprelt j h
                · exact hchlt j (by rw [hch]; simp [h]))]
              exact (hh hdn).2.2 k j hkj
            · exact hother v j hv hv O O w w' (hnd j (by simp [List.mem_of_getLast? hj])) (hlast j hj) fun c' φ' v' hk' => hstays j c' φ' hk' hv O v' w w' hc
          | some false, f1, _, fP, _, hmem =>
            have hnch : i ∉ chOf 0 Φ := fun h => by have := hmem.1.1 h; cases this
            have hipre : i ∈ preOf 0 Φ := hmem.2.2 rfl
            have hdn : done = [] := Classical.byContradiction fun hx => by
              have := (hh hx).1 i hipre; rw [hfalse] at this; cases this
            subst hdn
            obtain ⟨⟨b1, b2, b3, b4⟩, b5, b6⟩ := hbeg rfl
            obtain ⟨d, e1⟩ : ∃ d, o.dst = some d := by
              cases hd : o.dst with
              | none => exact (hnch (eN hd)).elim
              | some d => exact ⟨d, rfl⟩
            obtain ⟨s1, hobl⟩ := fP rfl
            obtain ⟨E', hE', hr⟩ := Need.elim dd' E0 (hobl O w hO b2) hok' hdepA hdlt
            refine wpOp_of_RL (by simpa using ho) hr hE' ?_
            rintro v w' ⟨E'', hE'', u, O', hu, hO', hc, hφ⟩
            rw [e1] at hu
            simp only at hu
            have hslot := hE''.sl d u hu
            have hok2 := hframe v E'' hE''
            have hne : preOf 0 Φ ++ chOf 0 Φ ≠ [] := fun h => by rw [List.append_eq_nil_iff] at h; rw [h.1] at hipre; cases hipre
            have hOpi : ∀ b, ¬ Op i b := b5 i hfalse
            have hgi : Good l Φ [] O' i (a.put o.dst v) w' := ⟨(some false, φ), u, f1, by simp [slotV, ho, e1]; rw [e1] at hslot; simpa using hslot, hφ⟩
            refine ih _ _ _ (by simp [hs]) (by omega) hcl' (.inl ⟨fun b => O b ∨ O' b, upd Op i O', hv, [], todo, hb.then0 hc, fun b h => ?_, hok2, fun k hk hkc hkp hkt => ?_, ⟨hch, fun j hj => (List.not_mem_nil hj).elim, fun j hj => hsetF j (by rintro rfl; exact hnch (by rw [hch]; simp [hj])) (hd2 j hj)⟩,
              fun _ => ⟨⟨fun b => ?_, b2.then0 hc, fun k b h => ?_, fun k k' b hkk h h' => ?_⟩, fun k hkf b h => ?_, fun k hk hkt => ?_⟩, fun k hk hkt => ?_, fun hx => absurd rfl hx, fun j hj => (nomatch hj), fun k hk hkl => hsetF k (by omega) (hl k hk hkl)⟩)
            · rcases h with h | h
              · exact ⟨(hO b h).1, Nat.lt_of_lt_of_le (hO b h).2 hc.size⟩
              · have := hO' b h; have := b2.size; exact ⟨.inr (by omega), (hO' b h).2⟩
            · have e : k ≠ i := by rintro rfl; exact hkp hipre
              have hkt' : listed[k]? = some true := by rwa [Array.getElem?_setIfInBounds_ne (fun x => e x.symm)] at hkt
              exact hother v k _ _ O _ w w' e (hg k hk hkc hkp hkt') fun c' φ' v' hk' => hplain k c' φ' hk' hkc hkp hne _ _ O _ nb v' w w' (.inr ⟨rfl, fun _ h => h⟩) (fun _ h => h.elim) (fun b h => h.imp (fun h => h) fun h => (hO' b h).1) hc
            · constructor
              · rintro (h | h)
                · rcases (b1 b).1 h with h | ⟨k, hk, h⟩
                  · exact .inl h
                  · exact .inr ⟨k, hk, by rw [upd_ne (by rintro rfl; exact hOpi b h)]; exact h⟩
                · exact .inr ⟨i, hipre, by rw [upd_same]; exact h⟩
              · rintro (h | ⟨k, hk, h⟩)
                · exact .inl ((b1 b).2 (.inl h))
                · by_cases e : k = i
                  · rw [e, upd_same] at h; exact .inr h
                  · rw [upd_ne e] at h; exact .inl ((b1 b).2 (.inr ⟨k, hk, h⟩))
            · have := b2.size
              by_cases e : k = i
              · rw [e, upd_same] at h; have := hO' b h; exact ⟨by omega, this.2⟩
              · rw [upd_ne e] at h; exact ⟨(b3 k b h).1, Nat.lt_of_lt_of_le (b3 k b h).2 hc.size⟩
            · by_cases e : k = i
              · rw [e, upd_same] at h
                rw [upd_ne (fun e' => hkk (e.trans e'.symm))] at h'
                have := (hO' b h).1; have := (b3 k' b h').2; omega
              · rw [upd_ne e] at h
                by_cases e' : k' = i
                · rw [e', upd_same] at h'; have := (hO' b h').1; have := (b3 k b h).2; omega
                · rw [upd_ne e'] at h'; exact b4 k k' b hkk h h'
            · have e : k ≠ i := by rintro rfl; rw [hseti] at hkf; cases hkf
              rw [upd_ne e] at h
              exact b5 k (by rwa [Array.getElem?_setIfInBounds_ne (fun x => e x.symm)] at hkf) b h
            · by_cases e : k = i
              · subst e
                rw [upd_same]; exact hgi
              · have hkt' : listed[k]? = some true := by rwa [Array.getElem?_setIfInBounds_ne (fun x => e x.symm)] at hkt
                rw [upd_ne e]
                exact hother v k [] [] (Op k) (Op k) w w' e (b6 k hk hkt') fun c' φ' v' hk' => hstays k c' φ' hk' [] (Op k) v' w w' hc
            · by_cases e : k = i
              · subst e; exact hgi.past
              · exact hpast' v k hk e hkt
          | some true, f1, _, _, fO, hmem =>
            have hich : i ∈ chOf 0 Φ := hmem.1.2 rfl
            have hnpre0 : i ∉ preOf 0 Φ := fun h => by have := hmem.2.1 h; cases this
            obtain ⟨s1, hobl⟩ := fO rfl
            have hne : preOf 0 Φ ++ chOf 0 Φ ≠ [] := fun h => by rw [List.append_eq_nil_iff] at h; rw [h.2] at hich; cases hich
            have hnd : i ∉ done := fun h => by rw [hd1 i h] at hfalse; cases hfalse
            have hit : i ∈ todo := by
              rw [hch] at hich
              rcases List.mem_append.1 hich with h | h
              · exact (hnd h).elim
              · exact h
            obtain ⟨pre, post, hpp⟩ := List.append_of_mem hit
            have hnodup := chOf_nodup 0 Φ
            rw [hch, hpp] at hnodup
            have hnpre : i ∉ pre ∧ i ∉ post := by
              rw [List.nodup_append] at hnodup
              have h2 := hnodup.2.1
              rw [List.nodup_append] at h2
              refine ⟨fun h => h2.2.2 i h i (by simp) rfl, fun h => (List.nodup_cons.1 h2.2.1).1 h⟩
            have hprev : prevOf (chOf 0 Φ) i = (done ++ pre).getLast? := by
              rw [hch, hpp, ← List.append_assoc]
              exact prevOf_at _ _ _ (by simp [hnd, hnpre.1]) hnpre.2
            have hpre : pre = [] := by
              refine Classical.byContradiction fun hx => ?_
              obtain ⟨p, hp⟩ : ∃ p, pre.getLast? = some p := by
                cases hq : pre.getLast? with
                | none => exact (hx (List.getLast?_eq_none_iff.1 hq)).elim
                | some p => exact ⟨p, rfl⟩
              have h1 : prevOf (chOf 0 Φ) i = some p := by rw [hprev, List.getLast?_append, hp]; rfl
              have h2 := hdep p ((e10 hich).1 p h1)
              have h3 := hd2 p (by rw [hpp]; exact List.mem_append_left _ (List.mem_of_getLast? hp))
              rw [h2] at h3; cases h3
            subst hpre
            simp only [List.append_nil] at hprev
            simp only [List.nil_append] at hpp
            -- all that was to be made is there
            have hprel : ∀ k ∈ preOf 0 Φ, listed[k]? = some true := fun k hk => by
              by_cases hdn : done = []
              · exact hdep k ((e10 hich).2 (by rw [hprev, hdn]; rfl) k hk)
              · exact (hh hdn).1 k hk
            obtain ⟨h0, hh0l, hh0v, hh0n⟩ : ∃ h0 : List Value, h0.length = (preOf 0 Φ).length + done.length ∧ (∀ (k j : Nat), (preOf 0 Φ ++ done)[k]? = some j → slotV l a j = h0[k]?) ∧ (done ≠ [] → h0 = hv) := by
              by_cases hdn : done = []
              · subst hdn
                refine ⟨(preOf 0 Φ).map fun k => (slotV l a k).getD undef, by simp, fun k j hkj => ?_, fun h => absurd rfl h⟩
                rw [List.append_nil] at hkj
                have hjp := List.mem_of_getElem? hkj
                obtain ⟨φ', v, _, q2, _⟩ := (hbeg rfl).2.2 j hjp (hprel j hjp)
                rw [List.getElem?_map, hkj, q2]; simp [q2]
              · exact ⟨hv, (hh hdn).2.1, (hh hdn).2.2, fun _ => rfl⟩
            have hdn0 : prevOf (chOf 0 Φ) i = none → done = [] := fun h => List.getLast?_eq_none_iff.1 (hprev ▸ h)
            obtain ⟨E', hE', hr⟩ := Need.elim dd' E0 (hobl h0 Op O w hO hb fun h => by
                have := hdn0 h; subst this
                exact ⟨by simpa using hh0l, (hbeg rfl).1⟩) hok' (fun j hj φ' hφ' => by
              have hk := hkind j φ'.1 φ'.2 hφ'
              have hjl := hdep j (e7 j hj)
              have hjm : j < m := by have := e6 j (e7 j hj); omega
              refine hneed _ _ _ done todo h0 Op O a w j φ' hφ' (fun hb' => by rw [hprev]; exact hg j hjm (fun h => by have := hk.1.1 h; rw [hb'] at this; cases this) (fun h => by have := hk.2.1 h; rw [hb'] at this; cases this) hjl) (fun hb' => ?_) hch (fun hb' => hpast j (by simp [hk.2.2 hb']) hjl)
                (fun k hk => hpast k (by simp [hk]) (hd1 k hk)) (fun hx hb' => ?_) (fun _ => hh0v) (fun k hk => ?_)
              · have hjc := hk.1.2 hb'
                rw [hch] at hjc
                rcases List.mem_append.1 hjc with h | h
                · exact h
                · have h5 := hd2 j h; rw [hjl] at h5; cases h5
              · exact (hbeg (hdn0 (by simpa using hx))).2.2 j (hk.2.2 hb') hjl
              · have hdne : done ≠ [] := by rintro rfl; rw [hprev] at hk; cases hk
                rw [hh0n hdne]; exact hlast k (by rw [← hprev]; exact hk)) hdlt
            refine wpOp_of_RL (by simpa using ho) hr hE' ?_
            rintro v w' ⟨E'', hE'', u, O', hu, hO', hc, hφ⟩
            have hok2 := hframe v E'' hE''
            have hu' : slotV l (a.put o.dst v) i = some u := by
              unfold slotV
              cases hd : o.dst with
              | none => rw [hd] at hu; simp only at hu; simp [ho, hd, hu]
              | some d =>
                rw [hd] at hu hE''; simp only at hu
                have := hE''.sl d u hu
                simp only [ho, Option.bind_some, hd]; exact this
            have hgood : Good l Φ (h0 ++ [u]) O' i (a.put o.dst v) w' := ⟨(some true, φ), u, f1, hu', hφ⟩
            have hb' : Ch C w0 w' := hb.then hc fun b hbl hob => (hO b hob).1.elim (fun h => h) fun h => by omega
            refine ih _ _ _ (by simp [hs]) (by omega) hcl' (.inl ⟨O', Op, h0 ++ [u], done ++ [i], post, hb', fun b h => ⟨?_, (hO' b h).2⟩, hok2, fun k hk hkc hkp hkt => ?_, ⟨by rw [hch, hpp]; simp, fun j hj => ?_, fun j hj => hsetF j (by rintro rfl; exact hnpre.2 hj) (hd2 j (by rw [hpp]; simp [hj]))⟩, fun h => by simp at h,
              fun k hk hkt => ?_, fun _ => ⟨fun k hk => hset k (hprel k hk), by simp [hh0l]; omega, fun k j hkj => ?_⟩, fun j hj => ?_, fun k hk hkl => hsetF k (by omega) (hl k hk hkl)⟩)
            · rcases (hO' b h).1 with h1 | h1
              · exact (hO b h1).1
              · have := hb.size; exact .inr (by omega)
            · have e : k ≠ i := by rintro rfl; exact hkc hich
              have hkt' : listed[k]? = some true := by rwa [Array.getElem?_setIfInBounds_ne (fun x => e x.symm)] at hkt
              exact hother v k _ _ O O' w w' e (hg k hk hkc hkp hkt') fun c' φ' v' hk' => hplain k c' φ' hk' hkc hkp hne _ _ O O' O v' w w' (.inl (by simp [flOf])) (fun _ h => h) (fun b h => (hO' b h).1) hc
            · rcases List.mem_append.1 hj with h | h
              · exact hset j (hd1 j h)
              · simp only [List.mem_singleton] at h; subst h; exact hseti
            · by_cases e : k = i
              · subst e; exact hgood.past
              · refine hpast' v k ?_ e hkt
                rw [← List.append_assoc] at hk
                rcases List.mem_append.1 hk with h | h
                · exact h
                · simp only [List.mem_singleton] at h; exact (e h).elim
            · rw [← List.append_assoc] at hkj
              have hll : (preOf 0 Φ ++ done).length = h0.length := by rw [List.length_append, hh0l]
              rcases Nat.lt_or_ge k (preOf 0 Φ ++ done).length with hk | hk
              · rw [List.getElem?_append_left hk] at hkj
                rw [List.getElem?_append_left (by omega)]
                have hjd : j ∈ preOf 0 Φ ++ done := List.mem_of_getElem? hkj
                have hjm : j < m ∧ j ≠ i := by
                  rcases List.mem_append.1 hjd with h | h
                  · exact ⟨hprelt j h, by rintro rfl; exact hnpre0 h⟩
                  · exact ⟨hchlt j (by rw [hch]; simp [h]), by rintro rfl; exact hnd h⟩
                rw [hslotV v j hjm.2 hjm.1]
                exact hh0v k j hkj
              · rw [List.getElem?_append_right hk] at hkj
                rw [List.getElem?_append_right (by omega), ← hll]
                cases hkk : k - (preOf 0 Φ ++ done).length with
                | zero =>
                  rw [hkk] at hkj; simp only [List.getElem?_cons_zero, Option.some.injEq] at hkj
                  subst hkj; simpa using hu'
                | succ q => rw [hkk] at hkj; simp at hkj
            · simp only [List.getLast?_append, List.getLast?_singleton, Option.some_or, Option.some.injEq] at hj
              subst hj
              exact hgood
        · -- the first of the tail
          have hmi : i = m := by
            rcases Nat.lt_or_ge m i with h | h
            · have := hall him m h
              rw [hl m (Nat.le_refl _) (by omega)] at this; cases this
            · omega
          subst hmi
          have hall := hall (Nat.le_refl _)
          obtain ⟨E', hE', hr⟩ := hfin listed a w O Op hv done todo hall hb hO hok' hg hch hd2 hbeg hpast hh hlast
          have hq := hr a hE'
          rw [List.drop_eq_getElem_cons hil] at hq
          have hoe : l[i] = o := by rw [List.getElem?_eq_getElem hil] at ho; exact Option.some.inj ho
          rw [hoe] at hq
          have hnext : ∀ a' w', wpList P l.toArray (kq n (Q .normal)) (l.drop (i + 1)) a' w' → wpAny P .any l.toArray (lift n Q) fuel (listed.setIfInBounds i true) a' w' := by
            intro a' w' h
            refine ih _ _ _ (by simp [hs]) (by omega) hcl' (.inr ⟨i + 1, by omega, by omega, fun k hk => ?_, fun k hk hkl => hsetF k (by omega) (hl k (by omega) hkl), h⟩)
            by_cases e : k = i
            · subst e; exact hseti
            · exact hset k (hall k (by omega))
          unfold wpList at hq
          unfold wpOp
          simp only [List.getElem?_toArray, ho]
          split at hq
          · rename_i hw
            rw [if_pos hw]
            rcases hq with hq | ⟨_, _, _, hq⟩
            · refine .inl ?_
              unfold Oper.wp at hq ⊢
              generalize (execOp a.eval o).run P w = r at hq ⊢
              cases r with
              | ok x w' =>
                cases x <;> simp only [Oper.upon] at hq ⊢
                case value => exact hnext _ _ hq
                case skip => exact hnext _ _ hq
                case defer => exact hnext _ _ hq
                case enter =>
                  refine Calls.mono hq fun e w'' he => ?_
                  cases e with
                  | returned v => exact hnext _ _ he
                  | panicked c => exact he.elim
                  | outgrown => obtain ⟨_, _, he⟩ := he; exact he.elim
                case row => exact Rows.mono hq fun _ _ he => hnext _ _ he
              | halt x w' => cases x <;> simp only [Oper.upon, kq] at hq
            · exact hq.elim
          · rename_i hw
            rw [if_neg hw]
            exact hnext _ _ hq
  refine step l.length _ a w1 (by simp) ?_ (fun i o ho h => ?_) (.inl ⟨C, fun _ _ => False, [], [], chOf 0 Φ, h01.mono fun _ _ h => h.elim, fun b h => ⟨.inl h, Nat.lt_of_lt_of_le (hC b h) h01.size⟩, ha, fun i _ _ _ h => ?_, ⟨rfl, fun _ h => (List.not_mem_nil h).elim, fun j hj => ?_⟩,
    fun _ => ⟨⟨fun b => ⟨.inl, fun h => h.elim (fun h => h) fun ⟨_, _, h⟩ => h.elim⟩, h01, fun _ _ h => h.elim, fun _ _ _ _ h => h.elim⟩, fun _ _ _ h => h, fun k _ h => ?_⟩, fun k _ h => ?_, fun h => absurd rfl h, fun j h => (nomatch h), fun i _ hi => ?_⟩)
  · unfold left; simp [List.countP_replicate]
  · simp [Array.getElem?_replicate] at h
  · simp [Array.getElem?_replicate] at h
  · have := hchlt j hj
    simp [Array.getElem?_replicate]; omega
  · simp [Array.getElem?_replicate] at h
  · simp [Array.getElem?_replicate] at h
  · simp [hi]
theorem CW.draw {id : Nat} {l : List Oper} {Q : Exit → Env → World → Prop} {E0 : Env} {w0 : World} (m : Nat) (Φ : List (Option Bool × Fct)) (ds : List (List Nat)) (fs : List Nat) (C : Nat → Prop) (hC : ∀ b, C b → b < w0.heap.size) (hm : P.follows .mixedOrders = true)
    (hml : Nat.ble m l.length = true) (hok : okD n l E0 (preOf 0 Φ) (chOf 0 Φ) 0 (l.take m) ds [] = true) (htail : tailOK l m = true)
    (hfs : fs.all (Nat.blt · m) = true)
    (each : Each P n l Φ C E0 w0 0 (l.take m) Φ ds)
    (fin : ∀ h Op O w, (∀ b, O b → (C b ∨ w0.heap.size ≤ b) ∧ b < w.heap.size) → Ch C w0 w → (chOf 0 Φ = [] → h.length = (preOf 0 Φ).length ∧ Begun C (preOf 0 Φ) Op w0 w O) →
      Need l Φ (chOf 0 Φ).getLast? (chOf 0 Φ).getLast?.isNone (flOf (chOf 0 Φ).getLast?) h Op O w (fun E => RL P n l.toArray (l.drop m) (Q .normal) E w) fs E0) : CW P n (.region id l.toArray true) Q E0 w0 := fun a ha =>
  wp_region_any hm (DW.draw1 (w1 := w0.drew) Ch.drew m Φ ds fs C hC hm hml hok htail hfs each fin a ha)
end
end Go.Proofs.YtkfhcfkbaaekoaaDoor.K
