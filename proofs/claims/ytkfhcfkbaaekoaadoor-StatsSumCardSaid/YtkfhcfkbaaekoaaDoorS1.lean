/- Plain laws of the words in which the printed functions are written, and of library functions printed in them. No program is named. -/
import Derived.Test.YtkfhcfkbaaekoaaDoorS0
import Derived.Test.YtkfhcfkbaaekoaaDoorK4
namespace Go.Proofs.YtkfhcfkbaaekoaaDoor.K
open Go
set_option linter.unusedVariables false

def LIM : Nat := 4294967296
section
variable {α β ρ σ : Type}
theorem apO_ok {xs ys : List α} (h : xs.length + ys.length < LIM) : apO xs ys = some (xs ++ ys) := if_pos h
theorem ap1_ok {xs : List α} {x : α} (h : xs.length + 1 < LIM) : apO xs [x] = some (xs ++ [x]) := apO_ok (by simpa using h)
theorem ixO_at {xs : List α} {i : Nat} {x : α} (h : xs[i]? = some x) : ixO xs (i : Int) = some x := by
  unfold ixO; rw [if_pos (by omega)]; simpa using h
theorem slO_ok {xs : List α} {lo hi : Nat} (h1 : lo ≤ hi) (h2 : hi ≤ xs.length) : slO xs (lo : Int) (hi : Int) = some ((xs.drop lo).take (hi - lo)) := by
  unfold slO
  rw [if_pos ⟨by omega, by omega, by omega⟩]
  congr 2; omega
theorem wrap1 {n : Nat} (h : n < 9223372036854775807) : IntKind.i64.wrap ((n : Int) + 1) = ((n + 1 : Nat) : Int) := wrap_succ h (Nat.le_refl _)

/-- A loop that gathers. -/
theorem runAO_gather {body : α → List β → Option (List β)} (p : α → Bool) (g : α → β) (hb : ∀ x s, s.length + 1 < LIM → body x s = some (if p x = true then s ++ [g x] else s)) :
    ∀ (xs : List α) (s : List β), s.length + xs.length < LIM → runAO body xs s = some (s ++ (xs.filter p).map g)
  | [], s, _ => by simp [runAO]
  | x :: xs, s, h => by
    simp only [List.length_cons] at h
    rw [runAO, hb x s (by omega)]
    simp only
    cases hp : p x
    · simp only [Bool.false_eq_true, if_false, List.filter_cons, hp]
      exact runAO_gather p g hb xs s (by omega)
    · simp only [if_true, List.filter_cons, hp, List.map_cons]
      rw [runAO_gather p g hb xs _ (by simp; omega)]
      simp
theorem runA_eq {body : α → σ → σ} : ∀ (xs : List α) (s : σ), runA body xs s = xs.foldl (fun s x => body x s) s
  | [], s => rfl
  | x :: xs, s => runA_eq xs _

/-- slices.IndexFunc. -/
def idxB (f : α → Bool) (x : α) (s : Nat) : Step Int Nat := if f x = true then .ret ((s : Nat) : Int) else .next (s + 1)
def idxG (xs : List α) (f : α → Bool) : Int := lt (runB (idxB f) xs 0) fun o => o.elim (fun r => r) fun (s : Nat) => (-1)
theorem run_idxB (f : α → Bool) : ∀ (xs : List α) (n : Nat), runB (idxB f) xs n = match xs.findIdx? f with | some i => Lp.ret ((n + i : Nat) : Int) | none => Lp.fin (n + xs.length)
  | [], n => by simp [runB]
  | x :: xs, n => by
    rw [runB, List.findIdx?_cons]
    simp only [idxB]
    cases hf : f x
    · simp only [Bool.false_eq_true, if_false]
      rw [run_idxB f xs (n + 1)]
      cases xs.findIdx? f <;> simp <;> omega
    · simp
theorem idxG_eq (xs : List α) (f : α → Bool) : idxG xs f = match xs.findIdx? f with | some i => (i : Int) | none => -1 := by
  unfold idxG lt
  rw [run_idxB]
  cases xs.findIdx? f <;> simp [Lp.elim]
theorem idxG_some (xs : List α) (f : α → Bool) : decide (idxG xs f ≥ 0) = xs.any f := by
  rw [idxG_eq]
  cases h : xs.findIdx? f with
  | none =>
    have := List.findIdx?_eq_none_iff.1 h
    rw [Bool.eq_iff_iff]
    simp only [decide_eq_true_eq, List.any_eq_true]
    constructor
    · intro h; omega
    · rintro ⟨x, hx, hf⟩; rw [this x hx] at hf; cases hf
  | some i =>
    obtain ⟨hi, hf, _⟩ := List.findIdx?_eq_some_iff_getElem.1 h
    rw [Bool.eq_iff_iff]
    simp only [decide_eq_true_eq, List.any_eq_true]
    exact ⟨fun _ => ⟨_, List.getElem_mem hi, hf⟩, fun _ => by omega⟩

/-- slices.DeleteFunc. -/
def delB (f : α → Bool) (s : Int × Int × List α) : Option (Step Empty (Int × Int × List α)) :=
  if (decide (s.2.1 < ((s.2.2.length : Nat) : Int))) = true then (ixO s.2.2 s.2.1).bind fun y => if (!(f y)) = true then (ixO s.2.2 s.1).bind fun _ => some (.next (IntKind.i64.wrap (s.1 + 1), IntKind.i64.wrap (s.2.1 + 1), s.2.2.set s.1.toNat y)) else some (.next (s.1, IntKind.i64.wrap (s.2.1 + 1), s.2.2)) else some (.fin (s.1, s.2.1, s.2.2))
def delG (z : α) (xs : List α) (f : α → Bool) : Option (List α) := lt (idxG xs f) fun y => if (decide (y = (-1))) = true then some xs else (runW (delB f) FUEL (y, IntKind.i64.wrap (y + 1), xs)).bind fun o => o.elim (fun r => r.elim) fun (s : Int × Int × List α) =>
  (slO s.2.2 s.1 ((s.2.2.length : Nat) : Int)).bind fun _ => (slO (s.2.2.take s.1.toNat ++ List.replicate (s.2.2.length - s.1.toNat) z) 0 s.1).bind fun y => some y

theorem del_loop (f : α → Bool) (xs : List α) (hl : xs.length < FUEL) : ∀ (k j : Nat), j ≤ xs.length → xs.length - j < k →
    runW (delB f) k (((((xs.take j).filter (fun x => !f x)).length : Nat) : Int), ((j : Nat) : Int), (xs.take j).filter (fun x => !f x) ++ xs.drop ((xs.take j).filter (fun x => !f x)).length) =
      some (.fin ((((xs.filter (fun x => !f x)).length : Nat) : Int), ((xs.length : Nat) : Int), xs.filter (fun x => !f x) ++ xs.drop (xs.filter (fun x => !f x)).length))
  | 0, j, _, h => by omega
  | k + 1, j, hj, hk => by
    have hF : FUEL < 9223372036854775807 := by decide
    generalize hi : ((xs.take j).filter (fun x => !f x)).length = i
    have hij : i ≤ j := by
      rw [← hi]; refine Nat.le_trans (List.length_filter_le _ _) ?_
      rw [List.length_take]; omega
    have hlen : ((xs.take j).filter (fun x => !f x) ++ xs.drop i).length = xs.length := by rw [List.length_append, List.length_drop, hi]; omega
    rw [runW]
    simp only [delB, hlen]
    rcases Nat.lt_or_ge j xs.length with h | h
    · rw [if_pos (by simp; omega)]
      have hx : xs[j]? = some xs[j] := List.getElem?_eq_getElem h
      have hy : ((xs.take j).filter (fun x => !f x) ++ xs.drop i)[j]? = some xs[j] := by
        rw [List.getElem?_append_right (by omega), hi, List.getElem?_drop, ← hx]; congr 1; omega
      rw [ixO_at hy]
      simp only [Option.bind_some]
      have ht : xs.take (j + 1) = xs.take j ++ [xs[j]] := by rw [List.take_succ_eq_append_getElem h]
      rw [wrap1 (n := j) (by omega)]
      cases hf : f xs[j]
      · simp only [Bool.not_false, if_true]
        have hii : ∃ y, ((xs.take j).filter (fun x => !f x) ++ xs.drop i)[i]? = some y := ⟨_, List.getElem?_eq_getElem (by omega)⟩
        obtain ⟨y, hy2⟩ := hii
        rw [ixO_at hy2]
        simp only [Option.bind_some, Int.toNat_natCast]
        rw [wrap1 (n := i) (by omega)]
        have ih := del_loop f xs hl k (j + 1) (by omega) (by omega)
        rw [ht, List.filter_append] at ih
        simp only [List.filter_cons, hf, Bool.not_false, if_true, List.filter_nil, List.length_append, List.length_singleton, hi] at ih
        have hset : ((xs.take j).filter (fun x => !f x) ++ xs.drop i).set i xs[j] = (xs.take j).filter (fun x => !f x) ++ [xs[j]] ++ xs.drop (i + 1) := by
          rw [List.set_append_right _ _ (by omega), hi, Nat.sub_self, List.append_assoc]
          congr 1
          rw [List.drop_eq_getElem_cons (by omega)]; rfl
        rw [hset]; exact ih
      · simp only [Bool.not_true, Bool.false_eq_true, if_false]
        have ih := del_loop f xs hl k (j + 1) (by omega) (by omega)
        rw [ht, List.filter_append] at ih
        simp only [List.filter_cons, hf, Bool.not_true, Bool.false_eq_true, if_false, List.filter_nil, List.append_nil, hi] at ih
        exact ih
    · rw [if_neg (by simp; omega)]
      have e : xs.take j = xs := List.take_of_length_le h
      rw [e] at hi ⊢
      subst hi
      simp only [Option.some.injEq, Lp.fin.injEq, Prod.mk.injEq, and_true, true_and]
      omega
theorem delG_eq (z : α) (xs : List α) (f : α → Bool) (hl : xs.length < FUEL) : delG z xs f = some (xs.filter fun x => !f x) := by
  have hF : FUEL < 9223372036854775807 := by decide
  unfold delG lt
  rw [idxG_eq]
  cases h : xs.findIdx? f with
  | none =>
    have := List.findIdx?_eq_none_iff.1 h
    simp only [decide_true, if_true, Option.some.injEq]
    rw [eq_comm, List.filter_eq_self]
    intro x hx; rw [this x hx]; rfl
  | some i =>
    obtain ⟨hi, hf, hb⟩ := List.findIdx?_eq_some_iff_getElem.1 h
    simp only
    rw [if_neg (by rw [decide_eq_true_eq]; omega), wrap1 (by omega)]
    have h1 : (xs.take i).filter (fun x => !f x) = xs.take i := by
      rw [List.filter_eq_self]
      intro x hx
      obtain ⟨p, hp, rfl⟩ := List.mem_iff_getElem.1 hx
      rw [List.length_take] at hp
      rw [List.getElem_take]
      have := hb p (by omega)
      simpa using this
    have h2 : (xs.take (i + 1)).filter (fun x => !f x) = xs.take i := by
      rw [List.take_succ_eq_append_getElem hi, List.filter_append, h1]
      simp [hf]
    have h3 := del_loop f xs hl FUEL (i + 1) (by omega) (by omega)
    rw [h2, List.length_take, Nat.min_eq_left (by omega), List.take_append_drop] at h3
    rw [h3]
    simp only [Option.bind_some, Lp.elim]
    have hfl : (xs.filter fun x => !f x).length ≤ xs.length := List.length_filter_le _ _
    rw [slO_ok (show (xs.filter fun x => !f x).length ≤ ((xs.filter fun x => !f x) ++ xs.drop (xs.filter fun x => !f x).length).length from by rw [List.length_append]; exact Nat.le_add_right _ _) (Nat.le_refl _)]
    simp only [Option.bind_some, Int.toNat_natCast]
    have e0 : ((0 : Nat) : Int) = 0 := rfl
    rw [← e0, slO_ok (Nat.zero_le _) (by simp)]
    simp

/-- A loop over places that always goes on. -/
theorem runBO_all {body : α → Nat → Option (Step ρ Nat)} : ∀ (xs : List α) (n : Nat), (∀ i x, xs[i]? = some x → body x (n + i) = some (.next (n + i + 1))) → runBO body xs n = some (.fin (n + xs.length))
  | [], n, _ => by simp [runBO]
  | x :: xs, n, h => by
    have h0 := h 0 x rfl
    rw [Nat.add_zero] at h0
    rw [runBO, h0]
    simp only
    rw [runBO_all xs (n + 1) fun i y hy => ?_]
    · simp; omega
    · have := h (i + 1) y (by simpa using hy)
      rw [show n + 1 + i = n + (i + 1) by omega]; exact this
/-- A loop that looks for one. -/
theorem runB_any {body : α → Unit → Step Bool Unit} (p : α → Bool) (hb : ∀ x, body x () = if p x = true then .ret true else .next ()) : ∀ (xs : List α), runB body xs () = if xs.any p = true then .ret true else .fin ()
  | [] => by simp [runB]
  | x :: xs => by
    rw [runB, hb]
    cases hp : p x
    · simp only [Bool.false_eq_true, if_false]; rw [runB_any p hb xs]; simp [hp]
    · simp [hp]
theorem any_elim {xs : List α} {p : α → Bool} {f : Bool → Bool} (hf : f true = true) : (if xs.any p = true then Lp.ret (σ := Unit) true else .fin ()).elim f (fun _ => false) = xs.any p := by
  cases h : xs.any p <;> simp [Lp.elim, hf]
theorem all_any {xs : List α} {p : α → Bool} : (∀ x ∈ xs, p x = false) → xs.any p = false := fun h => by
  cases h' : xs.any p with
  | false => rfl
  | true => obtain ⟨x, hx, hp⟩ := List.any_eq_true.1 h'; rw [h x hx] at hp; cases hp
end
end Go.Proofs.YtkfhcfkbaaekoaaDoor.K
