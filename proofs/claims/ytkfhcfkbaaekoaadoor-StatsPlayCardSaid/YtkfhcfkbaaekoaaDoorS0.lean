/- The words in which the printed functions are written: plain Lean, without memory. -/
namespace Go.Proofs.YtkfhcfkbaaekoaaDoor.K
def lt {α β : Type} (x : α) (f : α → β) : β := f x
inductive Step (ρ σ : Type) where
  | next (s : σ)
  | fin (s : σ)
  | ret (r : ρ)
inductive Lp (ρ σ : Type) where
  | fin (s : σ)
  | ret (r : ρ)
def Lp.elim {ρ σ τ : Type} (o : Lp ρ σ) (f : ρ → τ) (g : σ → τ) : τ :=
  match o with
  | .ret r => f r
  | .fin s => g s
section
variable {α ρ σ τ : Type}
def runB (body : α → σ → Step ρ σ) : List α → σ → Lp ρ σ
  | [], s => .fin s
  | x :: r, s => match body x s with
    | .next s' => runB body r s'
    | .fin s' => .fin s'
    | .ret v => .ret v
def runBO (body : α → σ → Option (Step ρ σ)) : List α → σ → Option (Lp ρ σ)
  | [], s => some (.fin s)
  | x :: r, s => match body x s with
    | some (.next s') => runBO body r s'
    | some (.fin s') => some (.fin s')
    | some (.ret v) => some (.ret v)
    | none => none
def runA (body : α → σ → σ) : List α → σ → σ
  | [], s => s
  | x :: r, s => runA body r (body x s)
def runAO (body : α → σ → Option σ) : List α → σ → Option σ
  | [], s => some s
  | x :: r, s => match body x s with
    | some s' => runAO body r s'
    | none => none
def runW (body : σ → Option (Step ρ σ)) : Nat → σ → Option (Lp ρ σ)
  | 0, _ => none
  | k + 1, s => match body s with
    | some (.next s') => runW body k s'
    | some (.fin s') => some (.fin s')
    | some (.ret v) => some (.ret v)
    | none => none
def FUEL : Nat := 4611686018427387904
def ixO (xs : List α) (i : Int) : Option α := if 0 ≤ i then xs[i.toNat]? else none
def slO (xs : List α) (lo hi : Int) : Option (List α) := if 0 ≤ lo ∧ lo ≤ hi ∧ hi ≤ (xs.length : Int) then some ((xs.drop lo.toNat).take (hi - lo).toNat) else none
def apO (xs ys : List α) : Option (List α) := if xs.length + ys.length < 4294967296 then some (xs ++ ys) else none
def sortS (xs : List ByteArray) : List ByteArray := ((xs.map (·.data.toList)).mergeSort fun x y => decide (x ≤ y)).map fun l => ⟨l.toArray⟩
def cmpB : List Int → List Int → Int
  | [], [] => 0
  | [], _ :: _ => -1
  | _ :: _, [] => 1
  | a :: as, b :: bs => if a.toNat.toUInt8 < b.toNat.toUInt8 then -1 else if b.toNat.toUInt8 < a.toNat.toUInt8 then 1 else cmpB as bs
def mget {α β : Type} [DecidableEq α] : List (α × β) → α → Option β
  | [], _ => none
  | p :: r, k => if k = p.1 then some p.2 else mget r k
def mput {α β : Type} [DecidableEq α] : List (α × β) → α → β → List (α × β)
  | [], k, v => [(k, v)]
  | p :: r, k, v => if k = p.1 then (k, v) :: r else p :: mput r k v
def mdel {α β : Type} [DecidableEq α] : List (α × β) → α → List (α × β)
  | [], _ => []
  | p :: r, k => if k = p.1 then r else p :: mdel r k
def andO (b : Bool) (k : Option Bool) : Option Bool := if b = true then k else some false
def orO (b : Bool) (k : Option Bool) : Option Bool := if b = true then some true else k
theorem and_t {b r v : Bool} (hb : b = true) (h : (b && r) = v) : r = v := by subst hb; simpa using h
theorem and_f {b r v : Bool} (hb : b = false) (h : (b && r) = v) : false = v := by subst hb; simpa using h
theorem or_t {b r v : Bool} (hb : b = true) (h : (b || r) = v) : true = v := by subst hb; simpa using h
theorem or_f {b r v : Bool} (hb : b = false) (h : (b || r) = v) : r = v := by subst hb; simpa using h
theorem andO_t {b : Bool} {k r : Option Bool} (hb : b = true) (h : andO b k = r) : k = r := by subst hb; simpa [andO] using h
theorem andO_f {b : Bool} {k r : Option Bool} (hb : b = false) (h : andO b k = r) : some false = r := by subst hb; simpa [andO] using h
theorem orO_t {b : Bool} {k r : Option Bool} (hb : b = true) (h : orO b k = r) : some true = r := by subst hb; simpa [orO] using h
theorem orO_f {b : Bool} {k r : Option Bool} (hb : b = false) (h : orO b k = r) : k = r := by subst hb; simpa [orO] using h
theorem ltS {x y : α} {f : α → τ} {r : τ} (h : x = y) (hS : lt x f = r) : f y = r := h ▸ hS
theorem bindS {o : Option α} {f : α → Option τ} {r : τ} (h : o.bind f = some r) : ∃ x, o = some x ∧ f x = some r := by
  cases o with
  | none => cases h
  | some x => exact ⟨x, rfl, h⟩
theorem finS {o : Lp ρ σ} {s : σ} {f : ρ → τ} {g : σ → τ} {r : τ} (h : .fin s = o) (hS : o.elim f g = r) : g s = r := by subst h; exact hS
theorem retS {o : Lp ρ σ} {v : ρ} {f : ρ → τ} {g : σ → τ} {r : τ} (h : .ret v = o) (hS : o.elim f g = r) : f v = r := by subst h; exact hS
theorem runB_next {body : α → σ → Step ρ σ} {x : α} {r : List α} {s s' : σ} {o : Lp ρ σ} (h : runB body (x :: r) s = o) (hb : .next s' = body x s) : runB body r s' = o := by
  rw [← h]; simp only [runB]; rw [← hb]
theorem runB_ret {body : α → σ → Step ρ σ} {x : α} {r : List α} {s : σ} {v : ρ} {o : Lp ρ σ} (h : runB body (x :: r) s = o) (hb : .ret v = body x s) : .ret v = o := by
  rw [← h]; simp only [runB]; rw [← hb]
theorem runBO_some {body : α → σ → Option (Step ρ σ)} {x : α} {r : List α} {s : σ} {o : Lp ρ σ} (h : runBO body (x :: r) s = some o) : ∃ q, body x s = some q := by
  simp only [runBO] at h
  cases hb : body x s with
  | none => rw [hb] at h; cases h
  | some q => exact ⟨q, rfl⟩
theorem runBO_next {body : α → σ → Option (Step ρ σ)} {x : α} {r : List α} {s s' : σ} {o : Lp ρ σ} {q : Step ρ σ} (h : runBO body (x :: r) s = some o) (hq : body x s = some q) (hb : some (.next s') = some q) : runBO body r s' = some o := by
  cases hb; rw [← h]; simp only [runBO, hq]
theorem runBO_ret {body : α → σ → Option (Step ρ σ)} {x : α} {r : List α} {s : σ} {v : ρ} {o : Lp ρ σ} {q : Step ρ σ} (h : runBO body (x :: r) s = some o) (hq : body x s = some q) (hb : some (.ret v) = some q) : .ret v = o := by
  cases hb; simp only [runBO, hq] at h; exact Option.some.inj h
theorem runBO_done {body : α → σ → Option (Step ρ σ)} {s : σ} {o : Lp ρ σ} (h : runBO body [] s = some o) : .fin s = o := Option.some.inj h
theorem runA_next {body : α → σ → σ} {x : α} {r : List α} {s s' : σ} {o : σ} (h : runA body (x :: r) s = o) (hb : s' = body x s) : runA body r s' = o := by
  rw [← h, hb]; rfl
theorem runAO_some {body : α → σ → Option σ} {x : α} {r : List α} {s : σ} {o : σ} (h : runAO body (x :: r) s = some o) : ∃ q, body x s = some q := by
  simp only [runAO] at h
  cases hb : body x s with
  | none => rw [hb] at h; cases h
  | some q => exact ⟨q, rfl⟩
theorem runAO_next {body : α → σ → Option σ} {x : α} {r : List α} {s s' : σ} {o : σ} {q : σ} (h : runAO body (x :: r) s = some o) (hq : body x s = some q) (hb : some s' = some q) : runAO body r s' = some o := by
  cases hb; rw [← h]; simp only [runAO, hq]
theorem runAO_done {body : α → σ → Option σ} {s : σ} {o : σ} (h : runAO body [] s = some o) : s = o := Option.some.inj h
theorem runW_some {body : σ → Option (Step ρ σ)} {k : Nat} {s : σ} {o : Lp ρ σ} (h : runW body k s = some o) : ∃ j q, k = j + 1 ∧ body s = some q := by
  cases k with
  | zero => cases h
  | succ k =>
    simp only [runW] at h
    cases hb : body s with
    | none => rw [hb] at h; cases h
    | some q => exact ⟨k, q, rfl, rfl⟩
theorem runW_next {body : σ → Option (Step ρ σ)} {k : Nat} {s s' : σ} {o : Lp ρ σ} {q : Step ρ σ} (h : runW body (k + 1) s = some o) (hq : body s = some q) (hb : some (.next s') = some q) : runW body k s' = some o := by
  cases hb; rw [← h]; simp only [runW, hq]
theorem runW_fin {body : σ → Option (Step ρ σ)} {k : Nat} {s s' : σ} {o : Lp ρ σ} {q : Step ρ σ} (h : runW body (k + 1) s = some o) (hq : body s = some q) (hb : some (.fin s') = some q) : .fin s' = o := by
  cases hb; simp only [runW, hq] at h; exact Option.some.inj h
theorem runW_ret {body : σ → Option (Step ρ σ)} {k : Nat} {s : σ} {v : ρ} {o : Lp ρ σ} {q : Step ρ σ} (h : runW body (k + 1) s = some o) (hq : body s = some q) (hb : some (.ret v) = some q) : .ret v = o := by
  cases hb; simp only [runW, hq] at h; exact Option.some.inj h
theorem ixO_nat {xs : List α} {j : Nat} {y : α} (h : ixO xs (j : Int) = some y) : xs[j]? = some y := by
  unfold ixO at h; simpa using h
theorem ixO_get {xs : List α} {i : Int} {y : α} (h : ixO xs i = some y) : 0 ≤ i ∧ i < (xs.length : Int) ∧ xs[i.toNat]? = some y := by
  unfold ixO at h
  split at h
  · rename_i h0
    refine ⟨h0, ?_, h⟩
    rcases Nat.lt_or_ge i.toNat xs.length with h' | h'
    · omega
    · rw [List.getElem?_eq_none h'] at h; cases h
  · cases h
theorem slO_get {xs ys : List α} {lo hi : Int} (h : slO xs lo hi = some ys) : 0 ≤ lo ∧ lo ≤ hi ∧ hi ≤ (xs.length : Int) ∧ ys = (xs.drop lo.toNat).take (hi - lo).toNat := by
  unfold slO at h
  split at h
  · rename_i h0; cases h; exact ⟨h0.1, h0.2.1, h0.2.2, rfl⟩
  · cases h
theorem apO_get {xs ys zs : List α} (h : apO xs ys = some zs) : xs.length + ys.length < 4294967296 ∧ zs = xs ++ ys := by
  unfold apO at h
  split at h
  · rename_i h0; cases h; exact ⟨h0, rfl⟩
  · cases h
end
end Go.Proofs.YtkfhcfkbaaekoaaDoor.K
