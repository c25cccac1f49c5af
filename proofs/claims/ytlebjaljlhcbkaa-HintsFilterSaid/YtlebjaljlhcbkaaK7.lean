/- A region whose order the tape picks: each operation has what it needs of those before it, and leaves what the later ones need, in whatever order; a chain of operations may build something of its own meanwhile. General: no program is named. -/
import Derived.Test.YtlebjaljlhcbkaaK6
namespace Go.Proofs.Ytlebjaljlhcbkaa.K
open Go
set_option linter.unusedVariables false

/-- What is known of an operation's value: O are the blocks of the thing that the region builds. -/
abbrev Fct := (Nat → Prop) → Value → World → Prop

/-- What operation i needs: a value for each of these operations, of which its fact is known. -/
def Need (l : List Oper) (Φ : List (Bool × Fct)) (O : Nat → Prop) (w : World) (C : Env → Prop) : List Nat → Env → Prop
  | [], E => C E
  | j :: r, E => match (l[j]?).bind (·.dst), Φ[j]? with
    | some d, some φ => ∀ v, φ.2 O v w → Need l Φ O w C r ((d, v) :: E)
    | _, _ => Need l Φ O w C r E
theorem Need.one {l : List Oper} {Φ : List (Bool × Fct)} {O : Nat → Prop} {w : World} {C : Env → Prop} {j d : Nat} {r : List Nat} {E : Env} {φ : Bool × Fct} (h1 : (l[j]?).bind (·.dst) = some d) (h2 : Φ[j]? = some φ)
    (h : ∀ v, φ.2 O v w → Need l Φ O w C r ((d, v) :: E)) : Need l Φ O w C (j :: r) E := by
  simp only [Need, h1, h2]; exact h

def bindOn (o : Oper) : List Nat := (o.after.toList.filter (Region.binds .any)).map (·.on)

/-- The operations of the chain. -/
def chOf : Nat → List (Bool × Fct) → List Nat
  | _, [] => []
  | i, (true, _) :: r => i :: chOf (i + 1) r
  | i, (false, _) :: r => chOf (i + 1) r
def prevOf : List Nat → Nat → Option Nat
  | a :: b :: r, i => if b = i then some a else prevOf (b :: r) i
  | _, _ => none

/-- The form of the region: each operation but the last leaves a value in a slot of its own; 'ds' names, for each, operations that come before it in every order. -/
def okD (n : Nat) (l : List Oper) (E : Env) (ch : List Nat) : Nat → List Oper → List (List Nat) → List Nat → Bool
  | _, [], [], _ => true
  | i, o :: r, ds :: dr, seen =>
    match o.dst with
    | some d => Nat.blt d n && (look E d).isNone && !seen.contains d && (bindOn o).all (Nat.blt · i) && ds.all ((bindOn o).contains ·) && ds.all (fun j => !ch.contains j || (ch.contains i && prevOf ch i == some j)) &&
        (!ch.contains i || (match prevOf ch i with | some a => (bindOn o).contains a | none => true)) && okD n l E ch (i + 1) r dr (d :: seen)
    | none => false
  | _, _, _, _ => false

/-- All that comes before, directly or through others. -/
def cover (l : List Oper) : Nat → List Nat → List Nat
  | 0, acc => acc
  | i + 1, acc => if acc.contains i then cover l i (acc ++ (match l[i]? with | some o => bindOn o | none => [])) else cover l i acc
theorem cover_sound {l : List Oper} {p : Nat → Prop} (hc : ∀ i o, l[i]? = some o → p i → ∀ j ∈ bindOn o, p j) : ∀ (i : Nat) (acc : List Nat), (∀ j ∈ acc, p j) → ∀ j ∈ cover l i acc, p j
  | 0, acc, h, j, hj => h j hj
  | i + 1, acc, h, j, hj => by
    simp only [cover] at hj
    split at hj
    · rename_i hi
      have hi' : p i := h i (by simpa using hi)
      refine cover_sound hc i _ (fun k hk => ?_) j hj
      rcases List.mem_append.1 hk with hk | hk
      · exact h k hk
      · cases ho : l[i]? with
        | none => rw [ho] at hk; simp at hk
        | some o => rw [ho] at hk; exact hc i o ho hi' k hk
    · exact cover_sound hc i acc h j hj
/-- From operation m on all stand in one line. -/
def tailOK (l : List Oper) (m : Nat) : Bool := (List.range l.length).all fun t => Nat.blt t m || (match l[t]? with
  | some o => (List.range t).all ((cover l t (bindOn o)).contains ·) && (bindOn o).all (Nat.blt · t)
  | none => true)

section
variable {P : Program} {n : Nat}

theorem kq_put {M : Env → World → Prop} {o : Oper} {a : Act} {w : World} {K : Act → World → Prop} {Q' : Exit → Act → World → Prop}
    (h : o.wp P a w (fun a' w' => kq n M .normal a' w') (kq n M)) (hK : ∀ v w', kq n M .normal (a.put o.dst v) w' → K (a.put o.dst v) w') : o.wp P a w K Q' := by
  unfold Oper.wp at h ⊢
  generalize (execOp a.eval o).run P w = r at h ⊢
  cases r with
  | ok x w' =>
    cases x <;> simp only [Oper.upon] at h ⊢
    case value v => exact hK _ _ h
    case skip => exact hK _ _ h
    case defer d =>
      obtain ⟨E, hE, _⟩ := h
      have := hE.df
      cases hd : o.dst <;> simp [Act.put, hd] at this
    case enter =>
      refine Calls.mono h ?_
      intro e w'' he
      cases e with
      | returned v => exact hK _ _ he
      | panicked c => exact he.elim
      | outgrown => obtain ⟨_, _, he⟩ := he; exact he.elim
    case row => exact Rows.mono h (fun _ _ he => hK _ _ he)
  | halt x w' => cases x <;> simp only [Oper.upon, kq] at h

theorem wpOp_of_RL {ops : Array Oper} {i : Nat} {o : Oper} {M : Env → World → Prop} {E : Env} {a : Act} {w : World} {K : Act → World → Prop} {Q' : Exit → Act → World → Prop} (ho : ops[i]? = some o)
    (h : RL P n ops [o] M E w) (ha : Ok n E a) (hK : ∀ v w', kq n M .normal (a.put o.dst v) w' → K (a.put o.dst v) w') : wpOp P ops Q' i K a w := by
  have h := h a ha
  unfold wpOp
  simp only [ho]
  unfold wpList at h
  split
  · rename_i hw
    rw [if_pos hw] at h
    rcases h with h | ⟨_, _, _, h⟩
    · exact .inl (kq_put h hK)
    · exact h.elim
  · rename_i hw
    rw [if_neg hw] at h
    exact hK _ _ h

/-- Operation i has been carried out, and its fact holds. -/
def Good (l : List Oper) (Φ : List (Bool × Fct)) (O : Nat → Prop) (i : Nat) (a : Act) (w : World) : Prop :=
  ∃ d φ v, (l[i]?).bind (·.dst) = some d ∧ Φ[i]? = some φ ∧ a.tmps[d]? = some v ∧ φ.2 O v w

theorem Need.elim {l : List Oper} {Φ : List (Bool × Fct)} {O : Nat → Prop} {w : World} {C : Env → Prop} {a : Act} : ∀ (js : List Nat) (E : Env), Need l Φ O w C js E → Ok n E a → (∀ j ∈ js, Good l Φ O j a w) → ∃ E', Ok n E' a ∧ C E'
  | [], E, h, ha, _ => ⟨E, ha, h⟩
  | j :: r, E, h, ha, hg => by
    obtain ⟨d, φ, v, hd, hφ, hv, hf⟩ := hg j (by simp)
    simp only [Need, hd, hφ] at h
    refine Need.elim r _ (h v hf) ⟨ha.sz, ha.df, fun t u ht => ?_⟩ (fun k hk => hg k (by simp [hk]))
    rw [look_cons] at ht
    by_cases e : d = t
    · subst e; rw [if_pos rfl] at ht; cases ht; exact hv
    · rw [if_neg e] at ht; exact ha.sl t u ht

/-- What is to be shown of an operation. -/
def EachA (P : Program) (n : Nat) (l : List Oper) (Φ : List (Bool × Fct)) (E0 : Env) (w0 : World) (o : Oper) (φ : Fct) (ds : List Nat) : Prop :=
  (∀ O v w w', Ch nb w w' → φ O v w → φ O v w') ∧
  (chOf 0 Φ ≠ [] → ∀ (O O' D : Nat → Prop) v w w', (∀ b, D b → O b) → (∀ b, O' b → O b ∨ w.heap.size ≤ b) → Ch D w w' → φ O v w → φ O' v w') ∧
  ∀ O w, (∀ b, O b → w0.heap.size ≤ b ∧ b < w.heap.size) → Ch nb w0 w → Need l Φ O w (fun E => RL P n l.toArray [o] (fun E' w' => ∃ v, (match o.dst with | some d => look E' d = some v | none => False) ∧ Ch nb w w' ∧ φ O v w') E w) ds E0
def EachO (P : Program) (n : Nat) (l : List Oper) (Φ : List (Bool × Fct)) (E0 : Env) (w0 : World) (i : Nat) (o : Oper) (φ : Fct) (ds : List Nat) : Prop :=
  (∀ O v w w', Ch nb w w' → φ O v w → φ O v w') ∧
  ∀ O w, (∀ b, O b → w0.heap.size ≤ b ∧ b < w.heap.size) → Ch nb w0 w → (prevOf (chOf 0 Φ) i = none → ∀ b, ¬ O b) → Need l Φ O w (fun E => RL P n l.toArray [o] (fun E' w' => ∃ v O', (match o.dst with | some d => look E' d = some v | none => False) ∧
    (∀ b, O' b → (O b ∨ w.heap.size ≤ b) ∧ b < w'.heap.size) ∧ Ch O w w' ∧ φ O' v w') E w) ds E0
def Each (P : Program) (n : Nat) (l : List Oper) (Φ : List (Bool × Fct)) (E0 : Env) (w0 : World) : Nat → List Oper → List (Bool × Fct) → List (List Nat) → Prop
  | _, [], [], [] => True
  | i, o :: r, (false, φ) :: s, ds :: dr => EachA P n l Φ E0 w0 o φ ds ∧ Each P n l Φ E0 w0 (i + 1) r s dr
  | i, o :: r, (true, φ) :: s, ds :: dr => EachO P n l Φ E0 w0 i o φ ds ∧ Each P n l Φ E0 w0 (i + 1) r s dr
  | _, _, _, _ => False

theorem Each.consA {P : Program} {n : Nat} {l : List Oper} {Φ : List (Bool × Fct)} {E0 : Env} {w0 : World} {i : Nat} {o : Oper} {r : List Oper} {φ : Fct} {s : List (Bool × Fct)} {ds : List Nat} {dr : List (List Nat)}
    (h : EachA P n l Φ E0 w0 o φ ds) (h' : Each P n l Φ E0 w0 (i + 1) r s dr) : Each P n l Φ E0 w0 i (o :: r) ((false, φ) :: s) (ds :: dr) := ⟨h, h'⟩
theorem Each.consO {P : Program} {n : Nat} {l : List Oper} {Φ : List (Bool × Fct)} {E0 : Env} {w0 : World} {i : Nat} {o : Oper} {r : List Oper} {φ : Fct} {s : List (Bool × Fct)} {ds : List Nat} {dr : List (List Nat)}
    (h : EachO P n l Φ E0 w0 i o φ ds) (h' : Each P n l Φ E0 w0 (i + 1) r s dr) : Each P n l Φ E0 w0 i (o :: r) ((true, φ) :: s) (ds :: dr) := ⟨h, h'⟩

theorem okD.at {l : List Oper} {E : Env} {ch : List Nat} : ∀ (r : List Oper) (dr : List (List Nat)) (i0 : Nat) (seen : List Nat), okD n l E ch i0 r dr seen = true → r.length = dr.length ∧ ∀ i o, r[i]? = some o → ∃ d ds, o.dst = some d ∧ dr[i]? = some ds ∧ d < n ∧ look E d = none ∧ d ∉ seen ∧
      (∀ j ∈ bindOn o, j < i0 + i) ∧ (∀ j ∈ ds, j ∈ bindOn o) ∧ (∀ k o', r[k]? = some o' → k ≠ i → o'.dst ≠ some d) ∧ (∀ j ∈ ds, j ∈ ch → i0 + i ∈ ch ∧ prevOf ch (i0 + i) = some j) ∧ (i0 + i ∈ ch → ∀ a, prevOf ch (i0 + i) = some a → a ∈ bindOn o)
  | [], [], _, _, _ => ⟨rfl, fun i o h => by simp at h⟩
  | [], _ :: _, _, _, h => by simp [okD] at h
  | _ :: _, [], _, _, h => by simp [okD] at h
  | o :: r, ds :: dr, i0, seen, h => by
    simp only [okD] at h
    cases hd : o.dst with
    | none => rw [hd] at h; cases h
    | some d =>
      rw [hd] at h
      simp only [Bool.and_eq_true, Bool.not_eq_true'] at h
      obtain ⟨⟨⟨⟨⟨⟨⟨h1, h2⟩, h3⟩, h4⟩, h5⟩, h7⟩, h8⟩, h6⟩ := h
      obtain ⟨hl, ih⟩ := okD.at r dr (i0 + 1) (d :: seen) h6
      have hlt : d < n := by simpa [Nat.blt, Nat.succ_le_iff] using h1
      have hnone : look E d = none := by simpa using h2
      have hseen : d ∉ seen := by simpa using h3
      have hb : ∀ j ∈ bindOn o, j < i0 := by
        intro j hj
        have := List.all_eq_true.1 h4 j hj
        simpa [Nat.blt, Nat.succ_le_iff] using this
      have hs : ∀ j ∈ ds, j ∈ bindOn o := by
        intro j hj
        have := List.all_eq_true.1 h5 j hj
        simpa using this
      have hc1 : ∀ j ∈ ds, j ∈ ch → i0 ∈ ch ∧ prevOf ch i0 = some j := by
        intro j hj hjc
        have := List.all_eq_true.1 h7 j hj
        simpa [hjc] using this
      have hc2 : i0 ∈ ch → ∀ a, prevOf ch i0 = some a → a ∈ bindOn o := by
        intro hi a ha
        rw [ha] at h8
        simpa [hi] using h8
      refine ⟨by simp [hl], fun i o' ho' => ?_⟩
      cases i with
      | zero =>
        simp only [List.getElem?_cons_zero, Option.some.injEq] at ho'
        subst ho'
        refine ⟨d, ds, hd, rfl, hlt, hnone, hseen, by simpa using hb, hs, fun k o' hk hne => ?_, by simpa using hc1, by simpa using hc2⟩
        cases k with
        | zero => exact absurd rfl hne
        | succ k =>
          simp only [List.getElem?_cons_succ] at hk
          obtain ⟨d', _, e1, _, _, _, e5, _⟩ := ih k o' hk
          rw [e1]; rintro e; cases e; exact e5 (by simp)
      | succ i =>
        simp only [List.getElem?_cons_succ] at ho'
        obtain ⟨d', ds', e1, e2, e3, e4, e5, e6, e7, e8, e9, e10⟩ := ih i o' ho'
        have hii : i0 + 1 + i = i0 + (i + 1) := by omega
        rw [hii] at e9 e10
        refine ⟨d', ds', e1, by simpa using e2, e3, e4, fun hx => e5 (by simp [hx]), fun j hj => by have := e6 j hj; omega, e7, fun k o'' hk hne => ?_, e9, e10⟩
        cases k with
        | zero =>
          simp only [List.getElem?_cons_zero, Option.some.injEq] at hk
          subst hk
          rw [hd]; rintro e; cases e; exact e5 (by simp)
        | succ k =>
          simp only [List.getElem?_cons_succ] at hk
          exact e8 k o'' hk (fun e => hne (by rw [e]))

theorem chOf_ge : ∀ (i0 : Nat) (Φ : List (Bool × Fct)) (j : Nat), j ∈ chOf i0 Φ → i0 ≤ j
  | _, [], _, h => by simp [chOf] at h
  | i0, (true, φ) :: r, j, h => by
    simp only [chOf, List.mem_cons] at h
    rcases h with h | h
    · omega
    · have := chOf_ge (i0 + 1) r j h; omega
  | i0, (false, φ) :: r, j, h => by have := chOf_ge (i0 + 1) r j h; omega
theorem chOf_at : ∀ (i0 : Nat) (Φ : List (Bool × Fct)) (i : Nat) (c : Bool) (φ : Fct), Φ[i]? = some (c, φ) → (i0 + i ∈ chOf i0 Φ ↔ c = true)
  | _, [], i, _, _, h => by simp at h
  | i0, (true, φ') :: r, 0, c, φ, h => by
    simp only [List.getElem?_cons_zero, Option.some.injEq, Prod.mk.injEq] at h
    simp [chOf, ← h.1]
  | i0, (false, φ') :: r, 0, c, φ, h => by
    simp only [List.getElem?_cons_zero, Option.some.injEq, Prod.mk.injEq] at h
    simp only [chOf, ← h.1, Nat.add_zero]
    constructor
    · intro hx; have := chOf_ge _ _ _ hx; omega
    · intro hx; cases hx
  | i0, (true, φ') :: r, i + 1, c, φ, h => by
    have := chOf_at (i0 + 1) r i c φ (by simpa using h)
    rw [show i0 + 1 + i = i0 + (i + 1) by omega] at this
    simp only [chOf, List.mem_cons]
    constructor
    · rintro (h | h)
      · omega
      · exact this.1 h
    · exact fun h => .inr (this.2 h)
  | i0, (false, φ') :: r, i + 1, c, φ, h => by
    have := chOf_at (i0 + 1) r i c φ (by simpa using h)
    rw [show i0 + 1 + i = i0 + (i + 1) by omega] at this
    simpa only [chOf] using this
theorem chOf_nodup : ∀ (i0 : Nat) (Φ : List (Bool × Fct)), (chOf i0 Φ).Nodup
  | _, [] => List.nodup_nil
  | i0, (true, φ) :: r => List.nodup_cons.2 ⟨fun h => by have := chOf_ge _ _ _ h; omega, chOf_nodup (i0 + 1) r⟩
  | i0, (false, φ) :: r => chOf_nodup (i0 + 1) r
theorem prevOf_none : ∀ (p : List Nat) (a i : Nat), i ∉ p → prevOf (a :: p) i = none
  | [], a, i, _ => rfl
  | b :: r, a, i, h => by
    simp only [List.mem_cons, not_or] at h
    rw [prevOf, if_neg (fun e => h.1 e.symm)]
    exact prevOf_none r b i h.2
theorem prevOf_at : ∀ (d : List Nat) (i : Nat) (p : List Nat), i ∉ d → i ∉ p → prevOf (d ++ i :: p) i = d.getLast?
  | [], i, p, _, hp => prevOf_none p i i hp
  | [a], i, p, h, _ => by simp [prevOf]
  | a :: b :: r, i, p, h, hp => by
    simp only [List.mem_cons, not_or] at h
    have := prevOf_at (b :: r) i p (by simp [h.2.1, h.2.2]) hp
    simp only [List.cons_append] at this ⊢
    rw [prevOf, if_neg (fun e => h.2.1 e.symm), this]
    simp

theorem Each.at {l : List Oper} {Φ : List (Bool × Fct)} {E0 : Env} {w0 : World} : ∀ (r : List Oper) (s : List (Bool × Fct)) (dr : List (List Nat)) (i0 : Nat), Each P n l Φ E0 w0 i0 r s dr → ∀ (i : Nat) (o : Oper), r[i]? = some o → ∃ c φ ds, s[i]? = some (c, φ) ∧ dr[i]? = some ds ∧
      (c = false → EachA P n l Φ E0 w0 o φ ds) ∧ (c = true → EachO P n l Φ E0 w0 (i0 + i) o φ ds)
  | [], [], [], _, _, i, o, h => by simp at h
  | o :: r, (false, φ) :: s, ds :: dr, i0, h, i, o', ho => by
    cases i with
    | zero => simp only [List.getElem?_cons_zero, Option.some.injEq] at ho; subst ho; exact ⟨false, φ, ds, rfl, rfl, fun _ => h.1, fun hx => by cases hx⟩
    | succ i =>
      have := Each.at r s dr (i0 + 1) h.2 i o' (by simpa using ho)
      rw [show i0 + 1 + i = i0 + (i + 1) by omega] at this
      simpa using this
  | o :: r, (true, φ) :: s, ds :: dr, i0, h, i, o', ho => by
    cases i with
    | zero => simp only [List.getElem?_cons_zero, Option.some.injEq] at ho; subst ho; exact ⟨true, φ, ds, rfl, rfl, fun hx => (by cases hx), fun _ => h.1⟩
    | succ i =>
      have := Each.at r s dr (i0 + 1) h.2 i o' (by simpa using ho)
      rw [show i0 + 1 + i = i0 + (i + 1) by omega] at this
      simpa using this
  | [], [], _ :: _, _, h, _, _, _ => h.elim
  | [], _ :: _, _, _, h, _, _, _ => h.elim
  | _ :: _, [], _, _, h, _, _, _ => h.elim
  | _ :: _, (false, _) :: _, [], _, h, _, _, _ => h.elim
  | _ :: _, (true, _) :: _, [], _, h, _, _, _ => h.elim

/-- How many are still to come. -/
def left (listed : Array Bool) : Nat := listed.toList.countP (! ·)
theorem left_set {listed : Array Bool} {i : Nat} (h : listed[i]? = some false) : left (listed.setIfInBounds i true) + 1 = left listed := by
  have hlt : i < listed.size := (Array.getElem?_eq_some_iff.1 h).1
  have hv : listed.toList[i]'(by simpa using hlt) = false := by
    have := (Array.getElem?_eq_some_iff.1 h).2
    simpa using this
  unfold left
  rw [Array.toList_setIfInBounds, List.countP_set (by simpa using hlt), hv]
  have h0 : 0 < listed.toList.countP (! ·) := List.countP_pos_iff.2 ⟨false, by rw [← hv]; exact List.getElem_mem _, rfl⟩
  simp only [Bool.not_false, Bool.not_true, if_true, Bool.false_eq_true, if_false, Nat.add_zero]
  omega
theorem left_zero {listed : Array Bool} (h : left listed = 0) : ∀ i, i < listed.size → listed[i]? = some true := by
  intro i hi
  unfold left at h
  rw [List.countP_eq_zero] at h
  have := h (listed.toList[i]'(by simpa using hi)) (List.getElem_mem _)
  rw [Array.getElem?_eq_getElem hi]
  simpa using this

theorem CW.draw {id : Nat} {l : List Oper} {Q : Exit → Env → World → Prop} {E0 : Env} {w0 : World} (m : Nat) (Φ : List (Bool × Fct)) (ds : List (List Nat)) (fs : List Nat) (hm : P.follows .mixedOrders = true)
    (hml : Nat.ble m l.length = true) (hok : okD n l E0 (chOf 0 Φ) 0 (l.take m) ds [] = true) (htail : tailOK l m = true)
    (hfs : fs.all (fun j => Nat.blt j m && (!(chOf 0 Φ).contains j || (chOf 0 Φ).getLast? == some j)) = true)
    (each : Each P n l Φ E0 w0 0 (l.take m) Φ ds)
    (fin : ∀ O w, (∀ b, O b → w0.heap.size ≤ b ∧ b < w.heap.size) → Ch nb w0 w → Need l Φ O w (fun E => RL P n l.toArray (l.drop m) (Q .normal) E w) fs E0) : CW P n (.region id l.toArray true) Q E0 w0 := by
  intro a ha
  have hml := Nat.le_of_ble_eq_true hml
  have hat := (okD.at _ _ _ _ hok).2
  have heach := Each.at _ _ _ _ each
  have hlen : (l.take m).length = m := by rw [List.length_take]; omega
  have hΦlt : ∀ i c φ, Φ[i]? = some (c, φ) → i < m := by
    intro i c φ h
    refine Classical.byContradiction fun hn => ?_
    have : ∀ (r : List Oper) (s : List (Bool × Fct)) (dr : List (List Nat)) (i0 : Nat), Each P n l Φ E0 w0 i0 r s dr → s.length = r.length := by
      intro r
      induction r with
      | nil => intro s dr i0 h; cases s <;> cases dr <;> first | rfl | exact h.elim
      | cons o r ih =>
        intro s dr i0 h
        cases s with
        | nil => exact h.elim
        | cons x s =>
          cases dr with
          | nil => obtain ⟨c, φ⟩ := x; cases c <;> exact h.elim
          | cons d dr => obtain ⟨c, φ⟩ := x; cases c <;> simp [ih s dr (i0 + 1) h.2]
    have h1 := this _ _ _ _ each
    have h2 : i < Φ.length := by
      rcases Nat.lt_or_ge i Φ.length with h' | h'
      · exact h'
      · rw [List.getElem?_eq_none h'] at h; cases h
    omega
  have htk : ∀ i o, i < m → l[i]? = some o → (l.take m)[i]? = some o := by
    intro i o h1 h2
    rw [List.getElem?_take, if_pos h1]; exact h2
  have ready_iff : ∀ (listed : Array Bool) (i : Nat), i ∈ Region.ready .any l.toArray listed ↔ i < l.length ∧ listed.getD i true = false ∧ ∃ o, l[i]? = some o ∧ ∀ j ∈ bindOn o, listed.getD j false = true := by
    intro listed i
    unfold Region.ready
    rw [List.mem_filter]
    simp only [List.mem_range, List.size_toArray, Bool.and_eq_true, Bool.not_eq_true', List.getElem?_toArray]
    refine and_congr_right fun hi => and_congr_right fun _ => ?_
    rw [List.getElem?_eq_getElem hi]
    simp only [Option.map_some, Option.getD_some, Array.all_eq_true_iff_forall_mem, Bool.or_eq_true, Bool.not_eq_true', Option.some.injEq, exists_eq_left']
    constructor
    · intro h j hj
      unfold bindOn at hj
      rw [List.mem_map] at hj
      obtain ⟨e, he, rfl⟩ := hj
      rw [List.mem_filter] at he
      rcases h e (by simpa using he.1) with h | h
      · rw [he.2] at h; cases h
      · exact h
    · intro h e he
      cases hb : Region.binds .any e
      · exact .inl rfl
      · exact .inr (h e.on (List.mem_map.2 ⟨e, List.mem_filter.2 ⟨by simpa using he, hb⟩, rfl⟩))
  -- every operation hangs on earlier ones
  have hbef : ∀ (i : Nat) (o : Oper), l[i]? = some o → ∀ j ∈ bindOn o, j < i := by
    intro i o ho j hj
    rcases Nat.lt_or_ge i m with him | him
    · obtain ⟨d, dd, e1, e2, e3, e4, e5, e6, _⟩ := hat i o (htk i o him ho)
      have := e6 j hj; omega
    · have hil : i < l.length := by
        rcases Nat.lt_or_ge i l.length with h' | h'
        · exact h'
        · rw [List.getElem?_eq_none h'] at ho; cases ho
      have h1 := List.all_eq_true.1 htail i (by simpa using hil)
      have h2 : Nat.blt i m = false := by
        cases h : Nat.blt i m
        · rfl
        · have : i < m := by simpa [Nat.blt, Nat.succ_le_iff] using h
          omega
      rw [h2, ho] at h1
      simp only [Bool.false_or, Bool.and_eq_true] at h1
      have h3 := List.all_eq_true.1 h1.2 j hj
      simpa [Nat.blt, Nat.succ_le_iff] using h3
  have htl : ∀ (t : Nat) (o : Oper), m ≤ t → l[t]? = some o → ∀ j, j < t → j ∈ cover l t (bindOn o) := by
    intro t o hmt ho j hj
    have hil : t < l.length := by
      rcases Nat.lt_or_ge t l.length with h' | h'
      · exact h'
      · rw [List.getElem?_eq_none h'] at ho; cases ho
    have h1 := List.all_eq_true.1 htail t (by simpa using hil)
    have h2 : Nat.blt t m = false := by
      cases h : Nat.blt t m
      · rfl
      · have : t < m := by simpa [Nat.blt, Nat.succ_le_iff] using h
        omega
    rw [h2, ho] at h1
    simp only [Bool.false_or, Bool.and_eq_true] at h1
    have h3 := List.all_eq_true.1 h1.1 j (by simpa using hj)
    simpa using h3
  have step : ∀ fuel (listed : Array Bool) (a : Act) (w : World), listed.size = l.length → left listed = fuel →
      (∀ (i : Nat) (o : Oper), l[i]? = some o → listed[i]? = some true → ∀ j ∈ bindOn o, listed[j]? = some true) →
      ((∃ O, Ch nb w0 w ∧ (∀ b, O b → w0.heap.size ≤ b ∧ b < w.heap.size) ∧ Ok n E0 a ∧ (∀ i : Nat, i < m → i ∉ chOf 0 Φ → listed[i]? = some true → Good l Φ O i a w) ∧
          (∃ done todo, chOf 0 Φ = done ++ todo ∧ (∀ j ∈ done, listed[j]? = some true) ∧ (∀ j ∈ todo, listed[j]? = some false) ∧ (done = [] → ∀ b, ¬ O b) ∧ ∀ j, done.getLast? = some j → Good l Φ O j a w) ∧
          (∀ i, m ≤ i → i < l.length → listed[i]? = some false)) ∨
       (∃ t, m ≤ t ∧ t ≤ l.length ∧ (∀ i, i < t → listed[i]? = some true) ∧ (∀ i, t ≤ i → i < l.length → listed[i]? = some false) ∧ wpList P l.toArray (kq n (Q .normal)) (l.drop t) a w)) →
      wpAny P .any l.toArray (lift n Q) fuel listed a w := by
    intro fuel
    induction fuel with
    | zero =>
      intro listed a w hs h0 hcl hI
      have hz := left_zero h0
      refine ⟨?_, ?_⟩
      · rw [List.eq_nil_iff_forall_not_mem]
        intro i hi
        obtain ⟨h1, h2, _⟩ := (ready_iff listed i).1 hi
        have := hz i (by omega)
        simp [Array.getD_eq_getD_getElem?, this] at h2
      · rcases hI with ⟨O, hb, hO, hok', hg, ⟨done, todo, hch, hd1, hd2, hd3, hd4⟩, hl⟩ | ⟨t, h1, h2, h3, h4, hq⟩
        · have hnil : l.drop m = [] := by
            apply List.drop_eq_nil_of_le
            rcases Nat.lt_or_ge m l.length with h | h
            · have h1 := hl m (Nat.le_refl _) h
              rw [hz m (by omega)] at h1; cases h1
            · exact h
          have htodo : todo = [] := by
            cases todo with
            | nil => rfl
            | cons j r =>
              exfalso
              have hj : j ∈ chOf 0 Φ := by rw [hch]; simp
              have h1 := hd2 j (by simp)
              have : j < listed.size := by
                rcases Nat.lt_or_ge j listed.size with h' | h'
                · exact h'
                · rw [Array.getElem?_eq_none h'] at h1; cases h1
              rw [hz j this] at h1; cases h1
          subst htodo
          rw [List.append_nil] at hch
          obtain ⟨E', hE, hr⟩ := Need.elim fs E0 (fin O w hO hb) hok' fun j hj => by
            have h1 := List.all_eq_true.1 hfs j hj
            simp only [Bool.and_eq_true, Bool.or_eq_true, Bool.not_eq_true', beq_iff_eq] at h1
            have hjm : j < m := by simpa [Nat.blt, Nat.succ_le_iff] using h1.1
            rcases h1.2 with h2 | h2
            · exact hg j hjm (by simpa using h2) (hz j (by omega))
            · rw [hch] at h2; exact hd4 j h2
          rw [hnil] at hr
          exact hr a hE
        · have : t = l.length := by
            rcases Nat.lt_or_ge t l.length with h | h
            · have h5 := h4 t (Nat.le_refl _) h
              rw [hz t (by omega)] at h5; cases h5
            · omega
          rw [this, List.drop_length] at hq
          exact hq
    | succ fuel ih =>
      intro listed a w hs hf hcl hI
      -- the next operation that is not yet carried out is ready
      have hex : ∃ i, i < l.length ∧ listed[i]? = some false ∧ ∀ j, j < i → listed[j]? = some true := by
        have h1 : ∃ i, i < l.length ∧ listed[i]? = some false := by
          refine Classical.byContradiction fun hn => ?_
          have : left listed = 0 := by
            unfold left
            rw [List.countP_eq_zero]
            intro b hb'
            obtain ⟨p, hp, rfl⟩ := List.mem_iff_getElem.1 hb'
            have hp' : p < listed.size := by simpa using hp
            cases hv : listed[p]
            · exact absurd ⟨p, by omega, by rw [Array.getElem?_eq_getElem hp', hv]⟩ hn
            · simp [hv]
          omega
        obtain ⟨i, hi, hfalse⟩ := h1
        induction i using Nat.strongRecOn with
        | _ i ihi =>
          by_cases hall : ∀ j, j < i → listed[j]? = some true
          · exact ⟨i, hi, hfalse, hall⟩
          · obtain ⟨j, hj⟩ := Classical.not_forall.1 hall
            obtain ⟨hji, hj⟩ := Classical.not_imp.1 hj
            refine ihi j hji (by omega) ?_
            have hjs : j < listed.size := by omega
            rw [Array.getElem?_eq_getElem hjs] at hj ⊢
            cases hv : listed[j]
            · rfl
            · rw [hv] at hj; exact absurd rfl hj
      refine ⟨fun hnil => ?_, fun i hi => ?_⟩
      · exfalso
        obtain ⟨i, hi, hfalse, hbefore⟩ := hex
        have : i ∈ Region.ready .any l.toArray listed := by
          refine (ready_iff listed i).2 ⟨hi, by simp [Array.getD_eq_getD_getElem?, hfalse], l[i], List.getElem?_eq_getElem hi, fun j hj => ?_⟩
          have hji : j < i := hbef i _ (List.getElem?_eq_getElem hi) j hj
          simp [Array.getD_eq_getD_getElem?, hbefore j hji]
        rw [hnil] at this; cases this
      · obtain ⟨hil, hnot, o, ho, hdeps⟩ := (ready_iff listed i).1 hi
        have hfalse : listed[i]? = some false := by
          have his : i < listed.size := by omega
          rw [Array.getElem?_eq_getElem his]
          simp [Array.getD_eq_getD_getElem?, Array.getElem?_eq_getElem his] at hnot
          rw [hnot]
        have hls := left_set hfalse
        have hdep : ∀ j ∈ bindOn o, listed[j]? = some true := by
          intro j hj
          have h1 := hdeps j hj
          rcases Nat.lt_or_ge j listed.size with h | h
          · rw [Array.getElem?_eq_getElem h]
            simpa [Array.getD_eq_getD_getElem?, Array.getElem?_eq_getElem h] using h1
          · simp [Array.getD_eq_getD_getElem?, Array.getElem?_eq_none h] at h1
        have hset : ∀ k : Nat, listed[k]? = some true → (listed.setIfInBounds i true)[k]? = some true := by
          intro k hk
          by_cases e : k = i
          · subst e; rw [hfalse] at hk; cases hk
          · rw [Array.getElem?_setIfInBounds_ne (fun x => e x.symm)]; exact hk
        have hsetF : ∀ k : Nat, k ≠ i → listed[k]? = some false → (listed.setIfInBounds i true)[k]? = some false := by
          intro k e hk
          rw [Array.getElem?_setIfInBounds_ne (fun x => e x.symm)]; exact hk
        have hseti : (listed.setIfInBounds i true)[i]? = some true := by
          have his : i < listed.size := by omega
          simp [his]
        have hcl' : ∀ (k : Nat) (o' : Oper), l[k]? = some o' → (listed.setIfInBounds i true)[k]? = some true → ∀ j ∈ bindOn o', (listed.setIfInBounds i true)[j]? = some true := by
          intro k o' hk hkt j hj
          by_cases e : k = i
          · subst e
            rw [ho] at hk; cases hk
            exact hset j (hdep j hj)
          · rw [Array.getElem?_setIfInBounds_ne (fun x => e x.symm)] at hkt
            exact hset j (hcl k o' hk hkt j hj)
        -- an operation of the tail: all before it are done
        have hall : m ≤ i → ∀ j, j < i → listed[j]? = some true := by
          intro hmi j hj
          exact cover_sound (l := l) (p := fun k : Nat => listed[k]? = some true) hcl i (bindOn o) hdep j (htl i o hmi ho j hj)
        rcases hI with ⟨O, hb, hO, hok', hg, ⟨done, todo, hch, hd1, hd2, hd3, hd4⟩, hl⟩ | ⟨t, h1, h2, h3, h4, hq⟩
        case inr =>
          have hit : i = t := by
            rcases Nat.lt_trichotomy i t with h | h | h
            · rw [h3 i h] at hfalse; cases hfalse
            · exact h
            · have := hall (by omega) t h
              rw [h4 t (Nat.le_refl _) (by omega)] at this; cases this
          subst hit
          rw [List.drop_eq_getElem_cons hil] at hq
          have hoe : l[i] = o := by rw [List.getElem?_eq_getElem hil] at ho; exact Option.some.inj ho
          rw [hoe] at hq
          have hnext : ∀ a' w', wpList P l.toArray (kq n (Q .normal)) (l.drop (i + 1)) a' w' → wpAny P .any l.toArray (lift n Q) fuel (listed.setIfInBounds i true) a' w' := by
            intro a' w' h
            refine ih _ _ _ (by simp [hs]) (by omega) hcl' (.inr ⟨i + 1, by omega, by omega, fun k hk => ?_, fun k hk hkl => hsetF k (by omega) (h4 k (by omega) hkl), h⟩)
            by_cases e : k = i
            · subst e; exact hseti
            · exact hset k (h3 k (by omega))
          unfold wpList at hq
          unfold wpOp
          simp only [List.getElem?_toArray, ho]
          split at hq
          · rename_i hw
            rw [if_pos hw]
            rcases hq with hq | ⟨_, _, _, hq⟩
            · refine .inl ?_
              unfold Oper.wp at hq ⊢
              generalize (execOp a.eval o).run P w = r at hq ⊢
              cases r with
              | ok x w' =>
                cases x <;> simp only [Oper.upon] at hq ⊢
                case value => exact hnext _ _ hq
                case skip => exact hnext _ _ hq
                case defer => exact hnext _ _ hq
                case enter =>
                  refine Calls.mono hq fun e w'' he => ?_
                  cases e with
                  | returned v => exact hnext _ _ he
                  | panicked c => exact he.elim
                  | outgrown => obtain ⟨_, _, he⟩ := he; exact he.elim
                case row => exact Rows.mono hq fun _ _ he => hnext _ _ he
              | halt x w' => cases x <;> simp only [Oper.upon, kq] at hq
            · exact hq.elim
          · rename_i hw
            rw [if_neg hw]
            exact hnext _ _ hq
        case inl =>
        rcases Nat.lt_or_ge i m with him | him
        · obtain ⟨d, dd, e1, e2, e3, e4, e5, e6, e7, e8, e9, e10⟩ := hat i o (htk i o him ho)
          simp only [Nat.zero_add] at e9 e10
          obtain ⟨c, φ, dd', f1, f2, fA, fO⟩ := heach i o (htk i o him ho)
          obtain rfl : dd' = dd := by rw [e2] at f2; cases f2; rfl
          simp only [Nat.zero_add] at fO
          have hmem := chOf_at 0 Φ i c φ f1
          rw [Nat.zero_add] at hmem
          -- what the operation leaves in the frame
          have hframe : ∀ (E'' : Env) (v u : Value) (w' : World), Ok n E'' (a.put o.dst v) → look E'' d = some u → Ok n E0 (a.put o.dst v) ∧ (a.put o.dst v).tmps[d]? = some u := by
            intros; exact ⟨⟨‹Ok n _ (a.put o.dst _)›.sz, ‹Ok n _ (a.put o.dst _)›.df, fun t x ht => by
              have hne : d ≠ t := by rintro rfl; rw [e4] at ht; cases ht
              rw [e1]; simp only [Act.put]
              rw [Array.getElem?_setIfInBounds_ne hne]; exact hok'.sl t x ht⟩, ‹Ok n _ (a.put o.dst _)›.sl d _ ‹_›⟩
          have hother : ∀ (v : Value) (k : Nat) (O1 O2 : Nat → Prop) (w1 w2 : World), k ≠ i → Good l Φ O1 k a w1 → (∀ (c' : Bool) (φ' : Fct) (v' : Value), Φ[k]? = some (c', φ') → φ' O1 v' w1 → φ' O2 v' w2) → Good l Φ O2 k (a.put o.dst v) w2 := by
            rintro v k O1 O2 w1 w2 hne ⟨d', ⟨c', φ'⟩, v', g1, g2, g3, g4⟩ hst
            have hkm := hΦlt k c' φ' g2
            have hkl : k < l.length := by omega
            have hdd : d ≠ d' := by
              rintro rfl
              have := e8 k l[k] (htk k _ hkm (List.getElem?_eq_getElem hkl)) hne
              rw [List.getElem?_eq_getElem hkl] at g1
              exact this (by simpa using g1)
            refine ⟨d', (c', φ'), v', g1, g2, ?_, hst c' φ' v' g2 g4⟩
            rw [e1]; simp only [Act.put]
            rw [Array.getElem?_setIfInBounds_ne hdd]; exact g3
          have hstays : ∀ (k : Nat) (c' : Bool) (φ' : Fct), Φ[k]? = some (c', φ') → ∀ O1 v' w1 w2, Ch nb w1 w2 → φ' O1 v' w1 → φ' O1 v' w2 := by
            intro k c' φ' hk O1 v' w1 w2 hc hf
            have hkm := hΦlt k c' φ' hk
            have hkl : k < l.length := by omega
            obtain ⟨c2, φ2, dd2, k1, k2, kA, kO⟩ := heach k l[k] (htk k _ hkm (List.getElem?_eq_getElem hkl))
            rw [hk] at k1
            simp only [Option.some.injEq, Prod.mk.injEq] at k1
            obtain ⟨rfl, rfl⟩ := k1
            cases c'
            · exact (kA rfl).1 _ _ _ _ hc hf
            · exact (kO rfl).1 _ _ _ _ hc hf
          cases c with
          | false =>
            have hnch : i ∉ chOf 0 Φ := fun h => by have := hmem.1 h; cases this
            obtain ⟨s1, s2, hobl⟩ := fA rfl
            obtain ⟨E', hE', hr⟩ := Need.elim dd' E0 (hobl O w hO hb) hok' fun j hj => by
              refine hg j (by have := e6 j (e7 j hj); omega) (fun hjc => hnch (e9 j hj hjc).1) (hdep j (e7 j hj))
            refine wpOp_of_RL (by simpa using ho) hr hE' ?_
            rintro v w' ⟨E'', hE'', u, hu, hc, hφ⟩
            rw [e1] at hu
            simp only at hu
            have hslot := hE''.sl d u hu
            obtain ⟨hok2, _⟩ := hframe E'' v u w' hE'' hu
            refine ih _ _ _ (by simp [hs]) (by omega) hcl' (.inl ⟨O, hb.then0 hc, fun b h => ⟨(hO b h).1, Nat.lt_of_lt_of_le (hO b h).2 hc.size⟩, hok2, fun k hk hkc hkt => ?_, ⟨done, todo, hch, fun j hj => hset j (hd1 j hj), fun j hj => hsetF j ?_ (hd2 j hj), hd3, fun j hj => ?_⟩, fun k hk hkl => ?_⟩)
            · by_cases e : k = i
              · subst e
                exact ⟨d, (false, φ), u, by simp [ho, e1], f1, hslot, hφ⟩
              · have hkt' : listed[k]? = some true := by rwa [Array.getElem?_setIfInBounds_ne (fun x => e x.symm)] at hkt
                exact hother v k O O w w' e (hg k hk hkc hkt') fun c' φ' v' hk' => hstays k c' φ' hk' O v' w w' hc
            · rintro rfl; exact hnch (by rw [hch]; simp [hj])
            · refine hother v j O O w w' ?_ (hd4 j hj) fun c' φ' v' hk' => hstays j c' φ' hk' O v' w w' hc
              rintro rfl
              exact hnch (by rw [hch]; exact List.mem_append_left _ (List.mem_of_getLast? hj))
            · exact hsetF k (by omega) (hl k hk hkl)
          | true =>
            have hich : i ∈ chOf 0 Φ := hmem.2 rfl
            obtain ⟨s1, hobl⟩ := fO rfl
            have hne : chOf 0 Φ ≠ [] := fun h => by rw [h] at hich; cases hich
            have hnd : i ∉ done := fun h => by rw [hd1 i h] at hfalse; cases hfalse
            have hit : i ∈ todo := by
              rw [hch] at hich
              rcases List.mem_append.1 hich with h | h
              · exact (hnd h).elim
              · exact h
            obtain ⟨pre, post, hpp⟩ := List.append_of_mem hit
            have hnodup := chOf_nodup 0 Φ
            rw [hch, hpp] at hnodup
            have hnpre : i ∉ pre ∧ i ∉ post := by
              rw [List.nodup_append] at hnodup
              have h2 := hnodup.2.1
              rw [List.nodup_append] at h2
              refine ⟨fun h => h2.2.2 i h i (by simp) rfl, fun h => (List.nodup_cons.1 h2.2.1).1 h⟩
            have hprev : prevOf (chOf 0 Φ) i = (done ++ pre).getLast? := by
              rw [hch, hpp, ← List.append_assoc]
              exact prevOf_at _ _ _ (by simp [hnd, hnpre.1]) hnpre.2
            have hpre : pre = [] := by
              refine Classical.byContradiction fun hx => ?_
              obtain ⟨p, hp⟩ : ∃ p, pre.getLast? = some p := by
                cases hq : pre.getLast? with
                | none => exact (hx (List.getLast?_eq_none_iff.1 hq)).elim
                | some p => exact ⟨p, rfl⟩
              have h1 : prevOf (chOf 0 Φ) i = some p := by rw [hprev, List.getLast?_append, hp]; rfl
              have h2 := hdep p (e10 hich p h1)
              have h3 := hd2 p (by rw [hpp]; exact List.mem_append_left _ (List.mem_of_getLast? hp))
              rw [h2] at h3; cases h3
            subst hpre
            simp only [List.append_nil] at hprev
            simp only [List.nil_append] at hpp
            have hnone : prevOf (chOf 0 Φ) i = none → ∀ b, ¬ O b := fun h => hd3 (List.getLast?_eq_none_iff.1 (hprev ▸ h))
            obtain ⟨E', hE', hr⟩ := Need.elim dd' E0 (hobl O w hO hb hnone) hok' fun j hj => by
              by_cases hjc : j ∈ chOf 0 Φ
              · have := (e9 j hj hjc).2
                rw [hprev] at this
                exact hd4 j this
              · exact hg j (by have := e6 j (e7 j hj); omega) hjc (hdep j (e7 j hj))
            refine wpOp_of_RL (by simpa using ho) hr hE' ?_
            rintro v w' ⟨E'', hE'', u, O', hu, hO', hc, hφ⟩
            rw [e1] at hu
            simp only at hu
            have hslot := hE''.sl d u hu
            obtain ⟨hok2, _⟩ := hframe E'' v u w' hE'' hu
            have hb' : Ch nb w0 w' := hb.then hc fun b hbl hob => by have := (hO b hob).1; omega
            refine ih _ _ _ (by simp [hs]) (by omega) hcl' (.inl ⟨O', hb', fun b h => ⟨?_, (hO' b h).2⟩, hok2, fun k hk hkc hkt => ?_, ⟨done ++ [i], post, by rw [hch, hpp]; simp, fun j hj => ?_, fun j hj => hsetF j ?_ (hd2 j (by rw [hpp]; simp [hj])), fun h => by simp at h, fun j hj => ?_⟩, fun k hk hkl => ?_⟩)
            · rcases (hO' b h).1 with h1 | h1
              · exact (hO b h1).1
              · have := hb.size; omega
            · have e : k ≠ i := by rintro rfl; exact hkc hich
              have hkt' : listed[k]? = some true := by rwa [Array.getElem?_setIfInBounds_ne (fun x => e x.symm)] at hkt
              refine hother v k O O' w w' e (hg k hk hkc hkt') fun c' φ' v' hk' hf => ?_
              have hkl : k < l.length := by omega
              obtain ⟨c2, φ2, dd2, k1, k2, kA, kO⟩ := heach k l[k] (htk k _ hk (List.getElem?_eq_getElem hkl))
              rw [hk'] at k1
              simp only [Option.some.injEq, Prod.mk.injEq] at k1
              obtain ⟨rfl, rfl⟩ := k1
              have hc' : c' = false := by
                cases c' with
                | false => rfl
                | true =>
                  have := (chOf_at 0 Φ k true φ' hk').2 rfl
                  rw [Nat.zero_add] at this
                  exact (hkc this).elim
              exact (kA hc').2.1 hne O O' O v' w w' (fun _ h => h) (fun b h => (hO' b h).1) hc hf
            · rcases List.mem_append.1 hj with h | h
              · exact hset j (hd1 j h)
              · simp only [List.mem_singleton] at h; subst h; exact hseti
            · rintro rfl; exact hnpre.2 hj
            · simp only [List.getLast?_append, List.getLast?_singleton, Option.some_or, Option.some.injEq] at hj
              subst hj
              exact ⟨d, (true, φ), u, by simp [ho, e1], f1, hslot, hφ⟩
            · exact hsetF k (by omega) (hl k hk hkl)
        · -- the first of the tail
          have hmi : i = m := by
            rcases Nat.lt_or_ge m i with h | h
            · have := hall him m h
              rw [hl m (Nat.le_refl _) (by omega)] at this; cases this
            · omega
          subst hmi
          have hall := hall (Nat.le_refl _)
          have htodo : todo = [] := by
            cases todo with
            | nil => rfl
            | cons j r =>
              exfalso
              have hj : j ∈ chOf 0 Φ := by rw [hch]; simp
              have h1 := hd2 j (by simp)
              have hjm : j < i := by
                have : ∀ (i0 : Nat) (Ψ : List (Bool × Fct)) (j : Nat), j ∈ chOf i0 Ψ → j < i0 + Ψ.length := by
                  intro i0 Ψ
                  induction Ψ generalizing i0 with
                  | nil => intro j h; simp [chOf] at h
                  | cons x r ih =>
                    intro j h
                    obtain ⟨c, φ⟩ := x
                    cases c
                    · simp only [chOf] at h
                      have := ih _ _ h; simp only [List.length_cons]; omega
                    · simp only [chOf, List.mem_cons] at h
                      rcases h with h | h
                      · simp only [List.length_cons]; omega
                      · have := ih _ _ h; simp only [List.length_cons]; omega
                have h2 := this 0 Φ j hj
                have h3 : Φ[j]? = some Φ[j] := List.getElem?_eq_getElem (by omega)
                exact hΦlt j Φ[j].1 Φ[j].2 h3
              rw [hall j hjm] at h1; cases h1
          subst htodo
          rw [List.append_nil] at hch
          obtain ⟨E', hE', hr⟩ := Need.elim fs E0 (fin O w hO hb) hok' fun j hj => by
            have h1 := List.all_eq_true.1 hfs j hj
            simp only [Bool.and_eq_true, Bool.or_eq_true, Bool.not_eq_true', beq_iff_eq] at h1
            have hjm : j < i := by simpa [Nat.blt, Nat.succ_le_iff] using h1.1
            rcases h1.2 with h2 | h2
            · exact hg j hjm (by simpa using h2) (hall j hjm)
            · rw [hch] at h2; exact hd4 j h2
          have hq := hr a hE'
          rw [List.drop_eq_getElem_cons hil] at hq
          have hoe : l[i] = o := by rw [List.getElem?_eq_getElem hil] at ho; exact Option.some.inj ho
          rw [hoe] at hq
          have hnext : ∀ a' w', wpList P l.toArray (kq n (Q .normal)) (l.drop (i + 1)) a' w' → wpAny P .any l.toArray (lift n Q) fuel (listed.setIfInBounds i true) a' w' := by
            intro a' w' h
            refine ih _ _ _ (by simp [hs]) (by omega) hcl' (.inr ⟨i + 1, by omega, by omega, fun k hk => ?_, fun k hk hkl => hsetF k (by omega) (hl k (by omega) hkl), h⟩)
            by_cases e : k = i
            · subst e; exact hseti
            · exact hset k (hall k (by omega))
          unfold wpList at hq
          unfold wpOp
          simp only [List.getElem?_toArray, ho]
          split at hq
          · rename_i hw
            rw [if_pos hw]
            rcases hq with hq | ⟨_, _, _, hq⟩
            · refine .inl ?_
              unfold Oper.wp at hq ⊢
              generalize (execOp a.eval o).run P w = r at hq ⊢
              cases r with
              | ok x w' =>
                cases x <;> simp only [Oper.upon] at hq ⊢
                case value => exact hnext _ _ hq
                case skip => exact hnext _ _ hq
                case defer => exact hnext _ _ hq
                case enter =>
                  refine Calls.mono hq fun e w'' he => ?_
                  cases e with
                  | returned v => exact hnext _ _ he
                  | panicked c => exact he.elim
                  | outgrown => obtain ⟨_, _, he⟩ := he; exact he.elim
                case row => exact Rows.mono hq fun _ _ he => hnext _ _ he
              | halt x w' => cases x <;> simp only [Oper.upon, kq] at hq
            · exact hq.elim
          · rename_i hw
            rw [if_neg hw]
            exact hnext _ _ hq
  refine wp_region_any hm (step l.length _ a w0.drew (by simp) ?_ (fun i o ho h => ?_) (.inl ⟨fun _ => False, Ch.drew, fun _ h => h.elim, ha, fun i _ _ h => ?_, ⟨[], chOf 0 Φ, rfl, fun _ h => (List.not_mem_nil h).elim, fun j hj => ?_, fun _ _ h => h, fun j h => (nomatch h)⟩, fun i _ hi => ?_⟩))
  · unfold left; simp [List.countP_replicate]
  · simp [Array.getElem?_replicate] at h
  · simp [Array.getElem?_replicate] at h
  · have : ∀ (i0 : Nat) (Ψ : List (Bool × Fct)) (j : Nat), j ∈ chOf i0 Ψ → j < i0 + Ψ.length := by
      intro i0 Ψ
      induction Ψ generalizing i0 with
      | nil => intro j h; simp [chOf] at h
      | cons x r ih =>
        intro j h
        obtain ⟨c, φ⟩ := x
        cases c
        · simp only [chOf] at h
          have := ih _ _ h; simp only [List.length_cons]; omega
        · simp only [chOf, List.mem_cons] at h
          rcases h with h | h
          · simp only [List.length_cons]; omega
          · have := ih _ _ h; simp only [List.length_cons]; omega
    have h2 := this 0 Φ j hj
    have h3 : Φ[j]? = some Φ[j] := List.getElem?_eq_getElem (by omega)
    have h4 := hΦlt j Φ[j].1 Φ[j].2 h3
    simp [Array.getElem?_replicate]; omega
  · simp [hi]
end
end Go.Proofs.Ytlebjaljlhcbkaa.K
