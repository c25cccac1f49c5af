/- Maps whose elements are maps, all of one's own: told by a row of the blocks (the outer map, then each inner one). General: no program is named. -/
import Derived.Test.YtkfhcfkbaaekoaaDoorK18
import Derived.Test.YtkfhcfkbaaekoaaDoorS4
namespace Go.Proofs.YtkfhcfkbaaekoaaDoor.K
open Go
set_option linter.unusedVariables false
def posK {α β : Type} [DecidableEq α] (l : List (α × β)) (k : α) : Option Nat := l.findIdx? fun p => decide (k = p.1)
def innv {α β : Type} [DecidableEq α] (l : List (α × β)) (z : Value) (k : α) : Value :=
  match z, posK l k with
  | .tuple vs, some i => vs.toList.getD (i + 1) (.map none)
  | _, _ => .map none
def zOf (m : Nat) (cs : List Nat) : Value := .tuple (Value.map (some m) :: cs.map fun c => Value.map (some c)).toArray
def MM {α β γ : Type} (ek : α → Value) (ek2 : β → Value) (ev2 : γ → Value) (w : World) (l : List (α × List (β × γ))) (u z : Value) : Prop :=
  ∃ m cs, u = .map (some m) ∧ z = zOf m cs ∧ cs.length = l.length ∧ Mp ek Value.map w ((l.map (·.1)).zip (cs.map some)) (.map (some m)) ∧ (∀ (i c : Nat) p, cs[i]? = some c → l[i]? = some p → Mp ek2 ev2 w p.2 (.map (some c))) ∧ (m :: cs).Nodup
section
variable {α β γ : Type} [DecidableEq α] {ek : α → Value} {ek2 : β → Value} {ev2 : γ → Value} {w w' : World} {l : List (α × List (β × γ))} {u z : Value} {k : α} {D : Nat → Prop} {m : Nat} {cs : List Nat}
theorem inBlk_z {b : Nat} : inBlk (zOf m cs) b ↔ b = m ∨ b ∈ cs := by
  show Value.map (some b) ∈ (Value.map (some m) :: cs.map fun c => Value.map (some c)) ↔ _
  rw [List.mem_cons, List.mem_map]
  constructor
  · rintro (h | ⟨c, hc, h⟩)
    · cases h; exact .inl rfl
    · cases h; exact .inr hc
  · rintro (h | h)
    · exact .inl (by rw [h])
    · exact .inr ⟨b, h, rfl⟩
omit [DecidableEq α] in
theorem MM.ltp (h : MM ek ek2 ev2 w l u z) : ∀ b, inBlk z b → b < w.heap.size := by
  obtain ⟨m, cs, rfl, rfl, hl, ho, hi, hn⟩ := h
  intro b hb
  rcases inBlk_z.1 hb with rfl | hb
  · exact ho.ltp b rfl
  · obtain ⟨i, hi', e⟩ := List.mem_iff_getElem.1 hb
    have hil : i < l.length := by omega
    exact (hi i b l[i] (by rw [List.getElem?_eq_getElem hi', e]) (List.getElem?_eq_getElem hil)).ltp b rfl
omit [DecidableEq α] in
theorem MM.ch (h : MM ek ek2 ev2 w l u z) (c : Ch D w w') (hd : ∀ b, inBlk z b → ¬ D b) : MM ek ek2 ev2 w' l u z := by
  obtain ⟨m, cs, rfl, rfl, hl, ho, hi, hn⟩ := h
  exact ⟨m, cs, rfl, rfl, hl, ho.ch c fun b hb => hd b (inBlk_z.2 (.inl (by have e : m = b := hb; exact e.symm))), fun i q p h1 h2 => (hi i q p h1 h2).ch c fun b hb => hd b (inBlk_z.2 (.inr (by have e : q = b := hb; rw [← e]; exact List.mem_of_getElem? h1))), hn⟩
omit [DecidableEq α] in
theorem MM.ch0 (h : MM ek ek2 ev2 w l u z) (c : Ch nb w w') : MM ek ek2 ev2 w' l u z := h.ch c fun _ _ x => x
omit [DecidableEq α] in
theorem MM.one (h : MM ek ek2 ev2 w l u z) : u.cells = #[u] ∧ u.oneCell' = true := by
  obtain ⟨m, cs, rfl, _⟩ := h
  exact ⟨rfl, rfl⟩
omit [DecidableEq α] in
theorem MM.new {b : Nat} (h : Mp ek Value.map w ([] : List (α × Option Nat)) (.map (some b))) : MM ek ek2 ev2 w ([] : List (α × List (β × γ))) (.map (some b)) (zOf b []) := ⟨b, [], rfl, rfl, rfl, h, fun i c p h => by simp at h, by simp⟩
theorem posK_some {δ : Type} : ∀ {l : List (α × δ)} {k : α} {i : Nat}, posK l k = some i → ∃ v, l[i]? = some (k, v) ∧ mget l k = some v ∧ (∀ x, mput l k x = l.set i (k, x)) ∧ mdel l k = l.eraseIdx i
  | [], _, _, h => by simp [posK] at h
  | p :: r, k, i, h => by
    unfold posK at h
    rw [List.findIdx?_cons] at h
    by_cases e : k = p.1
    · simp only [e, decide_true, if_true, Option.some.injEq] at h
      subst h
      subst e
      exact ⟨p.2, rfl, by rw [mget, if_pos rfl], fun x => by rw [mput, if_pos rfl]; rfl, by rw [mdel, if_pos rfl]; rfl⟩
    · simp only [e, decide_false, Bool.false_eq_true, if_false] at h
      cases hj : r.findIdx? fun p => decide (k = p.1) with
      | none => rw [hj] at h; cases h
      | some j =>
        rw [hj] at h
        simp only [Option.map_some, Option.some.injEq] at h
        subst h
        obtain ⟨v, h1, h2, h3, h4⟩ := posK_some (l := r) (k := k) (i := j) hj
        exact ⟨v, by simpa using h1, by rw [mget, if_neg e, h2], fun x => by rw [mput, if_neg e, h3]; rfl, by rw [mdel, if_neg e, h4]; rfl⟩
omit [DecidableEq α] in
theorem MM.outer (h : MM ek ek2 ev2 w l u z) : ∃ Q : List (α × Option Nat), MpN ek Value.map w Q u ∧ Q.map (·.1) = l.map (·.1) ∧ Q.length = l.length := by
  obtain ⟨m, cs, rfl, rfl, hl, ho, hi, hn⟩ := h
  refine ⟨_, ho.n, ?_, ?_⟩
  · exact List.map_fst_zip (by simp [hl])
  · simp [hl]
theorem MM.upd {i c : Nat} {v v' : List (β × γ)} (hl : cs.length = l.length) (ho : Mp ek Value.map w ((l.map (·.1)).zip (cs.map some)) (.map (some m))) (hi : ∀ (i c : Nat) p, cs[i]? = some c → l[i]? = some p → Mp ek2 ev2 w p.2 (.map (some c)))
    (hn : (m :: cs).Nodup) (hp : posK l k = some i) (hc : cs[i]? = some c) (hch : Ch (inBlk (.map (some c))) w w') (hv : Mp ek2 ev2 w' v' (.map (some c))) : MM ek ek2 ev2 w' (mput l k v') (.map (some m)) (zOf m cs) ∧ Ch (inBlk (zOf m cs)) w w' := by
  obtain ⟨u, h1, h2, h3, _⟩ := posK_some hp
  have hil := lt_of_get h1
  have hcm : c ∈ cs := List.mem_of_getElem? hc
  rw [List.nodup_cons] at hn
  refine ⟨⟨m, cs, rfl, rfl, by rw [h3]; simp [hl], ?_, ?_, List.nodup_cons.2 hn⟩, hch.mono fun b _ hb => inBlk_z.2 (.inr (by have e : c = b := hb; rw [← e]; exact hcm))⟩
  · have e : (mput l k v').map (·.1) = l.map (·.1) := by
      rw [h3, List.map_set]
      apply List.ext_getElem?
      intro j
      rw [List.getElem?_set]
      by_cases ej : i = j
      · subst ej
        have e1 : l[i] = (k, u) := by rw [List.getElem?_eq_getElem hil] at h1; exact Option.some.inj h1
        simp [hil, e1]
      · simp [ej]
    rw [e]
    exact ho.ch hch fun b hb hb' => by
      have e1 : m = b := hb
      have e2 : c = b := hb'
      exact hn.1 (by rw [e1, ← e2]; exact hcm)
  · intro j q p hq hpj
    rw [h3, List.getElem?_set] at hpj
    by_cases ej : i = j
    · subst ej
      rw [if_pos rfl] at hpj
      simp only [hil, if_true, Option.some.injEq] at hpj
      rw [hc] at hq; cases hq
      rw [← hpj]; exact hv
    · rw [if_neg ej] at hpj
      refine (hi j q p hq hpj).ch hch fun b hb hb' => ?_
      have e1 : q = b := hb
      have e2 : c = b := hb'
      have hjl := lt_of_get hq
      have hic := lt_of_get hc
      have e3 : cs[i] = cs[j] := by
        rw [List.getElem?_eq_getElem hic] at hc
        rw [List.getElem?_eq_getElem hjl] at hq
        rw [Option.some.inj hc, Option.some.inj hq, e1, e2]
      have hp2 := List.pairwise_iff_getElem.1 hn.2
      rcases Nat.lt_or_gt_of_ne ej with hlt | hlt
      · exact hp2 i j hic hjl hlt e3
      · exact hp2 j i hjl hic hlt e3.symm
end
section
variable {P : Program} {n : Nat} {ops : Array Oper} {rest : List Oper} {K : Env → World → Prop} {E : Env} {w : World} {d : Nat} {ty : TypeId} {pos : String} {af : Array Edge}
variable {α β γ : Type} [DecidableEq α] {ek : α → Value} {ek2 : β → Value} {ev2 : γ → Value} {l : List (α × List (β × γ))} {u z : Value} {t kt et : TypeId} {k : α}
end
end Go.Proofs.YtkfhcfkbaaekoaaDoor.K
