/- Slices of arrays, bytes held against each other, pointers against nil; what is one's own and came in with the call. General: no program is named. -/
import Derived.Test.YtkfhcfkbaaekoaaDoorK14
import Derived.Lib.Bytealg
import Derived.Laws.Externs
namespace Go.Proofs.YtkfhcfkbaaekoaaDoor.K
open Go
set_option linter.unusedVariables false
section
variable {P : Program} {n : Nat} {ops : Array Oper} {rest : List Oper} {K : Env → World → Prop} {E : Env} {w : World} {d : Nat} {ty : TypeId} {pos : String} {af : Array Edge}
theorem B.neqPN {t e : TypeId} {a : Addr} (ht : P.underlying t = some (.pointer e)) : BinRun P .neq t (.pointer (some a)) (.pointer none) (.bool true) := fun X Y w => by
  have hp : P.underlying t = some (.pointer (P.pointee t)) := by simp [Program.pointee, ht]
  rw [Sem.run_bind]
  exact run_neq_pointer_nil w t (some a) hp
end
theorem one_nil : ∀ u ∈ ([] : List Value), u.oneCell' = true := fun _ h => by cases h
theorem one_cons {v : Value} {l : List Value} (h : v.oneCell' = true) (t : ∀ u ∈ l, u.oneCell' = true) : ∀ u ∈ v :: l, u.oneCell' = true := fun u hu => by
  cases hu with
  | head => exact h
  | tail _ hu => exact t u hu
def HistIs (h : List Value) : Nat → List Value → Prop
  | _, [] => True
  | i, v :: r => h[i]? = some v ∧ HistIs h (i + 1) r
theorem hist_eq (l h : List Value) (hl : h.length = l.length) (hh : HistIs h 0 l) : h = l := by
  have key : ∀ (r : List Value) (i : Nat), HistIs h i r → ∀ k v, r[k]? = some v → h[i + k]? = some v := by
    intro r
    induction r with
    | nil => intro i _ k v hk; simp at hk
    | cons x r ih =>
      intro i hi k v hk
      cases k with
      | zero => simp only [List.getElem?_cons_zero, Option.some.injEq] at hk; subst hk; exact hi.1
      | succ k =>
        have := ih (i + 1) hi.2 k v (by simpa using hk)
        rwa [show i + 1 + k = i + (k + 1) by omega] at this
  apply List.ext_getElem?
  intro k
  rcases Nat.lt_or_ge k l.length with hk | hk
  · rw [List.getElem?_eq_getElem hk]
    have := key l 0 hh k _ (List.getElem?_eq_getElem hk)
    rwa [Nat.zero_add] at this
  · rw [List.getElem?_eq_none hk, List.getElem?_eq_none (by omega)]
theorem inPre {l : List Nat} {i : Nat} (h : l.contains i = true) : i ∈ l := by simpa using h
theorem SlO.reS {α : Type} {k : Kd α} {T : TypeId} {F : Nat → Prop} {B : Nat} {S S' : Nat → Prop} {w : World} {xs : List α} {v : Value} (hp : ∀ {F F' : Nat → Prop} {w w' : World} {x : α} {cs : List Value}, k.rep F w x cs → k.rep F' w' x cs)
    (h : SlO k T F B S w xs v) (hm : ∀ b, inBlk v b → S' b) : SlO k T F B S' w xs v := by
  obtain ⟨cs, h1, h2⟩ := h.row
  exact ⟨⟨cs, h1, h2.len, fun i x hx => let ⟨c, hc, hj⟩ := h2.el i x hx; ⟨c, hp hc, hj⟩⟩, h.big, hm⟩
theorem SlO.outP {α : Type} {k : Kd α} {T : TypeId} {F F' : Nat → Prop} {B n : Nat} {S : Nat → Prop} {w : World} {xs : List α} {v : Value} (hp : ∀ {F F' : Nat → Prop} {w w' : World} {x : α} {cs : List Value}, k.rep F w x cs → k.rep F' w' x cs)
    (h : SlO k T F B S w xs v) (hn : ∀ b, inBlk v b → n ≤ b) : SlO k T F' n (inBlk v) w xs v := by
  obtain ⟨cs, h1, h2⟩ := h.row
  refine ⟨⟨cs, ⟨h1.1, h1.2.imp id ?_⟩, h2.len, fun i x hx => let ⟨c, hc, hj⟩ := h2.el i x hx; ⟨c, hp hc, hj⟩⟩, h.big, fun _ h => h⟩
  rintro ⟨g, cap, cur, e, hg, hr⟩
  exact ⟨g, cap, cur, e, hn g (by rw [e]; rfl), hr⟩
theorem linNot {O S T : Nat → Prop} {m : Nat} (hl : ∀ b, S b → O b ∨ m ≤ b) (hd : ∀ b, O b → ¬ T b) (ht : ∀ b, T b → b < m) : ∀ b, S b → ¬ T b := fun b hb => (hl b hb).elim (hd b) fun x h => Nat.not_le_of_lt (ht b h) x
end Go.Proofs.YtkfhcfkbaaekoaaDoor.K
