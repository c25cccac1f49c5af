/- Maps whose elements are maps, all of one's own: told by a row of the blocks (the outer map, then each inner one). General: no program is named. -/
import Derived.Test.YtkfhcfkbaaekoaaDoorK18
import Derived.Test.YtkfhcfkbaaekoaaDoorS4
namespace Go.Proofs.YtkfhcfkbaaekoaaDoor.K
open Go
set_option linter.unusedVariables false

def posK {α β : Type} [DecidableEq α] (l : List (α × β)) (k : α) : Option Nat := l.findIdx? fun p => decide (k = p.1)
/-- The inner map's value at a key; nil where there is none. -/
def innv {α β : Type} [DecidableEq α] (l : List (α × β)) (z : Value) (k : α) : Value :=
  match z, posK l k with
  | .tuple vs, some i => vs.toList.getD (i + 1) (.map none)
  | _, _ => .map none
def zOf (m : Nat) (cs : List Nat) : Value := .tuple (Value.map (some m) :: cs.map fun c => Value.map (some c)).toArray
def MM {α β γ : Type} (ek : α → Value) (ek2 : β → Value) (ev2 : γ → Value) (w : World) (l : List (α × List (β × γ))) (u z : Value) : Prop :=
  ∃ m cs, u = .map (some m) ∧ z = zOf m cs ∧ cs.length = l.length ∧ Mp ek Value.map w ((l.map (·.1)).zip (cs.map some)) (.map (some m)) ∧ (∀ (i c : Nat) p, cs[i]? = some c → l[i]? = some p → Mp ek2 ev2 w p.2 (.map (some c))) ∧ (m :: cs).Nodup

section
variable {α β γ : Type} [DecidableEq α] {ek : α → Value} {ek2 : β → Value} {ev2 : γ → Value} {w w' : World} {l : List (α × List (β × γ))} {u z : Value} {k : α} {D : Nat → Prop} {m : Nat} {cs : List Nat}
theorem inBlk_z {b : Nat} : inBlk (zOf m cs) b ↔ b = m ∨ b ∈ cs := by
  show Value.map (some b) ∈ (Value.map (some m) :: cs.map fun c => Value.map (some c)) ↔ _
  rw [List.mem_cons, List.mem_map]
  constructor
  · rintro (h | ⟨c, hc, h⟩)
    · cases h; exact .inl rfl
    · cases h; exact .inr hc
  · rintro (h | h)
    · exact .inl (by rw [h])
    · exact .inr ⟨b, h, rfl⟩
omit [DecidableEq α] in
theorem MM.ltp (h : MM ek ek2 ev2 w l u z) : ∀ b, inBlk z b → b < w.heap.size := by
  obtain ⟨m, cs, rfl, rfl, hl, ho, hi, hn⟩ := h
  intro b hb
  rcases inBlk_z.1 hb with rfl | hb
  · exact ho.ltp b rfl
  · obtain ⟨i, hi', e⟩ := List.mem_iff_getElem.1 hb
    have hil : i < l.length := by omega
    exact (hi i b l[i] (by rw [List.getElem?_eq_getElem hi', e]) (List.getElem?_eq_getElem hil)).ltp b rfl
omit [DecidableEq α] in
theorem MM.ch (h : MM ek ek2 ev2 w l u z) (c : Ch D w w') (hd : ∀ b, inBlk z b → ¬ D b) : MM ek ek2 ev2 w' l u z := by
  obtain ⟨m, cs, rfl, rfl, hl, ho, hi, hn⟩ := h
  exact ⟨m, cs, rfl, rfl, hl, ho.ch c fun b hb => hd b (inBlk_z.2 (.inl (by have e : m = b := hb; exact e.symm))), fun i q p h1 h2 => (hi i q p h1 h2).ch c fun b hb => hd b (inBlk_z.2 (.inr (by have e : q = b := hb; rw [← e]; exact List.mem_of_getElem? h1))), hn⟩
omit [DecidableEq α] in
theorem MM.ch0 (h : MM ek ek2 ev2 w l u z) (c : Ch nb w w') : MM ek ek2 ev2 w' l u z := h.ch c fun _ _ x => x
omit [DecidableEq α] in
theorem MM.one (h : MM ek ek2 ev2 w l u z) : u.cells = #[u] ∧ u.oneCell' = true := by
  obtain ⟨m, cs, rfl, _⟩ := h
  exact ⟨rfl, rfl⟩
omit [DecidableEq α] in
/-- A new outer map. -/
theorem MM.new {b : Nat} (h : Mp ek Value.map w ([] : List (α × Option Nat)) (.map (some b))) : MM ek ek2 ev2 w ([] : List (α × List (β × γ))) (.map (some b)) (zOf b []) := ⟨b, [], rfl, rfl, rfl, h, fun i c p h => by simp at h, by simp⟩
theorem zOf_one {b c : Nat} : inBlk (zOf b []) c ↔ inBlk (.map (some b)) c := by
  rw [inBlk_z]
  constructor
  · rintro (h | h)
    · exact h.symm
    · cases h
  · exact fun h => .inl (Eq.symm h)

theorem posK_some {δ : Type} : ∀ {l : List (α × δ)} {k : α} {i : Nat}, posK l k = some i → ∃ v, l[i]? = some (k, v) ∧ mget l k = some v ∧ (∀ x, mput l k x = l.set i (k, x)) ∧ mdel l k = l.eraseIdx i
  | [], _, _, h => by simp [posK] at h
  | p :: r, k, i, h => by
    unfold posK at h
    rw [List.findIdx?_cons] at h
    by_cases e : k = p.1
    · simp only [e, decide_true, if_true, Option.some.injEq] at h
      subst h
      subst e
      exact ⟨p.2, rfl, by rw [mget, if_pos rfl], fun x => by rw [mput, if_pos rfl]; rfl, by rw [mdel, if_pos rfl]; rfl⟩
    · simp only [e, decide_false, Bool.false_eq_true, if_false] at h
      cases hj : r.findIdx? fun p => decide (k = p.1) with
      | none => rw [hj] at h; cases h
      | some j =>
        rw [hj] at h
        simp only [Option.map_some, Option.some.injEq] at h
        subst h
        obtain ⟨v, h1, h2, h3, h4⟩ := posK_some (l := r) (k := k) (i := j) hj
        exact ⟨v, by simpa using h1, by rw [mget, if_neg e, h2], fun x => by rw [mput, if_neg e, h3]; rfl, by rw [mdel, if_neg e, h4]; rfl⟩
theorem posK_none {δ : Type} : ∀ {l : List (α × δ)} {k : α}, posK l k = none → mget l k = none ∧ mdel l k = l ∧ (∀ x, mput l k x = l ++ [(k, x)])
  | [], _, _ => ⟨rfl, rfl, fun _ => rfl⟩
  | p :: r, k, h => by
    unfold posK at h
    rw [List.findIdx?_cons] at h
    by_cases e : k = p.1
    · simp [e] at h
    · simp only [e, decide_false, Bool.false_eq_true, if_false, Option.map_eq_none_iff] at h
      obtain ⟨h1, h2, h3⟩ := posK_none (l := r) (k := k) h
      exact ⟨by rw [mget, if_neg e, h1], by rw [mdel, if_neg e, h2], fun x => by rw [mput, if_neg e, h3]; rfl⟩
theorem posK_zip {δ ε : Type} : ∀ (l : List (α × δ)) (cs : List ε) (k : α), cs.length = l.length → posK ((l.map (·.1)).zip cs) k = posK l k
  | [], [], _, _ => rfl
  | [], _ :: _, _, h => by cases h
  | _ :: _, [], _, h => by cases h
  | p :: r, c :: cs, k, h => by
    have ih := posK_zip r cs k (by simpa using h)
    unfold posK at ih ⊢
    simp only [List.map_cons, List.zip_cons_cons, List.findIdx?_cons]
    rw [ih]
theorem innv_some {i c : Nat} (hp : posK l k = some i) (hc : cs[i]? = some c) : innv l (zOf m cs) k = .map (some c) := by
  unfold innv zOf
  rw [hp]
  simp [List.getD_eq_getElem?_getD, hc]
theorem innv_none (hp : posK l k = none) : innv l z k = .map none := by
  unfold innv
  rw [hp]
  cases z <;> rfl
/-- The inner map at a key. -/
theorem MM.inn (h : MM ek ek2 ev2 w l u z) (k : α) : MpN ek2 ev2 w ((mget l k).getD []) (innv l z k) := by
  obtain ⟨m, cs, rfl, rfl, hl, ho, hi, hn⟩ := h
  cases hp : posK l k with
  | none => rw [innv_none hp, (posK_none hp).1]; exact .inl ⟨rfl, rfl⟩
  | some i =>
    obtain ⟨v, h1, h2, _⟩ := posK_some hp
    have hil := lt_of_get h1
    have hc : cs[i]? = some (cs[i]'(by omega)) := List.getElem?_eq_getElem (by omega)
    rw [innv_some hp hc, h2]
    exact .inr (hi i _ _ hc h1)
omit [DecidableEq α] in
theorem MM.outer (h : MM ek ek2 ev2 w l u z) : ∃ Q : List (α × Option Nat), MpN ek Value.map w Q u ∧ Q.map (·.1) = l.map (·.1) ∧ Q.length = l.length := by
  obtain ⟨m, cs, rfl, rfl, hl, ho, hi, hn⟩ := h
  refine ⟨_, ho.n, ?_, ?_⟩
  · exact List.map_fst_zip (by simp [hl])
  · simp [hl]
theorem innv_eqN (h : MM ek ek2 ev2 w l u z) (k : α) : (innv l z k = .map none ∧ (mget l k).isNone = true) ∨ ∃ c, innv l z k = .map (some c) ∧ (mget l k).isNone = false := by
  obtain ⟨m, cs, rfl, rfl, hl, ho, hi, hn⟩ := h
  cases hp : posK l k with
  | none => exact .inl ⟨innv_none hp, by rw [(posK_none hp).1]; rfl⟩
  | some i =>
    obtain ⟨v, h1, h2, _⟩ := posK_some hp
    have hil := lt_of_get h1
    have hc : cs[i]? = some (cs[i]'(by omega)) := List.getElem?_eq_getElem (by omega)
    exact .inr ⟨_, innv_some hp hc, by rw [h2]; rfl⟩
theorem MM.eqlN {P : Program} {t kt et : TypeId} (h : MM ek ek2 ev2 w l u z) (k : α) (ht : P.underlying t = some (.map kt et)) : BinRun P .eql t (innv l z k) (.map none) (.bool (mget l k).isNone) := fun X Y w' => by
  rw [Sem.run_bind]
  rcases innv_eqN h k with ⟨e1, e2⟩ | ⟨c, e1, e2⟩
  · rw [e1, e2]; exact run_eql_map_nil w' t kt et none ht
  · rw [e1, e2]; exact run_eql_map_nil w' t kt et (some c) ht
/-- An inner map has turned. -/
theorem MM.upd {i c : Nat} {v v' : List (β × γ)} (hl : cs.length = l.length) (ho : Mp ek Value.map w ((l.map (·.1)).zip (cs.map some)) (.map (some m))) (hi : ∀ (i c : Nat) p, cs[i]? = some c → l[i]? = some p → Mp ek2 ev2 w p.2 (.map (some c)))
    (hn : (m :: cs).Nodup) (hp : posK l k = some i) (hc : cs[i]? = some c) (hch : Ch (inBlk (.map (some c))) w w') (hv : Mp ek2 ev2 w' v' (.map (some c))) : MM ek ek2 ev2 w' (mput l k v') (.map (some m)) (zOf m cs) ∧ Ch (inBlk (zOf m cs)) w w' := by
  obtain ⟨u, h1, h2, h3, _⟩ := posK_some hp
  have hil := lt_of_get h1
  have hcm : c ∈ cs := List.mem_of_getElem? hc
  rw [List.nodup_cons] at hn
  refine ⟨⟨m, cs, rfl, rfl, by rw [h3]; simp [hl], ?_, ?_, List.nodup_cons.2 hn⟩, hch.mono fun b _ hb => inBlk_z.2 (.inr (by have e : c = b := hb; rw [← e]; exact hcm))⟩
  · have e : (mput l k v').map (·.1) = l.map (·.1) := by
      rw [h3, List.map_set]
      apply List.ext_getElem?
      intro j
      rw [List.getElem?_set]
      by_cases ej : i = j
      · subst ej
        have e1 : l[i] = (k, u) := by rw [List.getElem?_eq_getElem hil] at h1; exact Option.some.inj h1
        simp [hil, e1]
      · simp [ej]
    rw [e]
    exact ho.ch hch fun b hb hb' => by
      have e1 : m = b := hb
      have e2 : c = b := hb'
      exact hn.1 (by rw [e1, ← e2]; exact hcm)
  · intro j q p hq hpj
    rw [h3, List.getElem?_set] at hpj
    by_cases ej : i = j
    · subst ej
      rw [if_pos rfl] at hpj
      simp only [hil, if_true, Option.some.injEq] at hpj
      rw [hc] at hq; cases hq
      rw [← hpj]; exact hv
    · rw [if_neg ej] at hpj
      refine (hi j q p hq hpj).ch hch fun b hb hb' => ?_
      have e1 : q = b := hb
      have e2 : c = b := hb'
      have hjl := lt_of_get hq
      have hic := lt_of_get hc
      have e3 : cs[i] = cs[j] := by
        rw [List.getElem?_eq_getElem hic] at hc
        rw [List.getElem?_eq_getElem hjl] at hq
        rw [Option.some.inj hc, Option.some.inj hq, e1, e2]
      have hp2 := List.pairwise_iff_getElem.1 hn.2
      rcases Nat.lt_or_gt_of_ne ej with hlt | hlt
      · exact hp2 i j hic hjl hlt e3
      · exact hp2 j i hjl hic hlt e3.symm
end

section
variable {P : Program} {n : Nat} {ops : Array Oper} {rest : List Oper} {K : Env → World → Prop} {E : Env} {w : World} {d : Nat} {ty : TypeId} {pos : String} {af : Array Edge}
variable {α β γ : Type} [DecidableEq α] {ek : α → Value} {ek2 : β → Value} {ev2 : γ → Value} {l : List (α × List (β × γ))} {u z : Value} {t kt et : TypeId} {k : α}
theorem rl_mmLookup {X I : Operand} {i : Value} (k : α) (hx : ev E X = some u) (hi : ev E I = some i) (hm : MM ek ek2 ev2 w l u z) (hik : i = ek k) (hk : KeyT P kt ek) (ht : P.underlying t = some (.map kt et)) (hz : ∀ w, (zeroValue et).run P w = .ok (.map none) w) (hn : Nat.blt d n = true)
    (h : RL P n ops rest K ((d, innv l z k) :: E) w) : RL P n ops (⟨some d, .lookup t X I false, ty, pos, af, none⟩ :: rest) K E w := by
  obtain ⟨m, cs, rfl, rfl, hl, ho, hin, hnd⟩ := hm
  refine rl_lookup1 (ev := Value.map) k none hx hi ho hik hk ht hz hn ?_
  have e : Value.map ((mget ((l.map (·.1)).zip (cs.map some)) k).getD none) = innv l (zOf m cs) k := by
    have hz := posK_zip l (cs.map some) k (by simp [hl])
    cases hp : posK l k with
    | none => rw [hp] at hz; rw [(posK_none hz).1, innv_none hp]; rfl
    | some q =>
      rw [hp] at hz
      obtain ⟨v, h1, h2, _⟩ := posK_some hz
      obtain ⟨u, h3, _⟩ := posK_some hp
      have hql := lt_of_get h3
      have hc : cs[q]? = some (cs[q]'(by omega)) := List.getElem?_eq_getElem (by omega)
      rw [h2, innv_some hp hc]
      have h4 := List.getElem?_zip_eq_some.1 h1
      have h5 : (cs.map some)[q]? = some v := h4.2
      rw [List.getElem?_map, hc] at h5
      rw [← Option.some.inj h5]; rfl
  rw [e]; exact h
omit [DecidableEq α] in
theorem rl_lenMapN {ek' : α → Value} {δ : Type} {ev' : δ → Value} {l : List (α × δ)} {v : Value} {X : Operand} (hx : ev E X = some v) (hm : MpN ek' ev' w l v) (ht : P.underlying t = some (.map kt et)) (hn : Nat.blt d n = true)
    (h : RL P n ops rest K ((d, .int .i64 (l.length : Nat)) :: E) w) : RL P n ops (⟨some d, .call ⟨.builtin .len, #[X], #[t]⟩, ty, pos, af, none⟩ :: rest) K E w := by
  rcases hm with ⟨rfl, rfl⟩ | hm
  · exact RL.op rfl rfl hn (fun a ha => by simp [execOp, resolve, invoke, builtin, Builtin.len_, ha.eval hx, run_underlying ht, goInt]) h
  · exact rl_lenMap hx hm ht hn h
theorem rl_mmDelete [DecidableEq β] {X I : Operand} {i : Value} (s : β) (hx : ev E X = some (innv l z k)) (hi : ev E I = some i) (hm : MM ek ek2 ev2 w l u z) (his : i = ek2 s) (hk : KeyT P kt ek2) (ht : P.underlying t = some (.map kt et))
    (h : ∀ w', Ch (inBlk z) w w' → MM ek ek2 ev2 w' (mmod l k fun m => mdel m s) u z → RL P n ops rest K E w') : RL P n ops (⟨none, .call ⟨.builtin .delete, #[X, I], #[t, kt]⟩, ty, pos, af, none⟩ :: rest) K E w := by
  obtain ⟨m, cs, rfl, rfl, hl, ho, hin, hnd⟩ := id hm
  cases hp : posK l k with
  | none =>
    rw [innv_none hp] at hx
    have e : mmod l k (fun m => mdel m s) = l := by unfold mmod; rw [(posK_none hp).1]
    rw [e] at h
    subst his
    have hr : (Builtin.delete_ #[t, kt] ty #[Value.map none, ek2 s]).run P w = .ok (.tuple #[]) w := by
      simp only [Builtin.delete_, Sem.run_bind, run_underlying ht, Result.andThen_ok, hk.chk, Sem.run_pure, List.getElem?_toArray, List.getElem?_cons_zero, List.getElem?_cons_succ]
    exact RL.opRet (v := .tuple #[]) rfl rfl (fun a ha => by simp [execOp, resolve, invoke, builtin, ha.eval hx, ha.eval hi, hr]) (h w Ch.refl hm)
  | some q =>
    obtain ⟨v, h1, h2, _⟩ := posK_some hp
    have hql := lt_of_get h1
    have hc : cs[q]? = some (cs[q]'(by omega)) := List.getElem?_eq_getElem (by omega)
    rw [innv_some hp hc] at hx
    have e : mmod l k (fun m => mdel m s) = mput l k (mdel v s) := by unfold mmod; rw [h2]
    rw [e] at h
    refine rl_delete s hx hi (hin q _ _ hc h1) his hk ht fun w' hch hv => ?_
    obtain ⟨u1, u2⟩ := MM.upd hl ho hin hnd hp hc hch hv (v := v)
    exact h w' u2 u1
theorem rl_mmPut [DecidableEq β] {X I Y : Operand} {i uv : Value} {v : List (β × γ)} (s : β) (x : γ) (hx : ev E X = some (innv l z k)) (hi : ev E I = some i) (hy : ev E Y = some uv) (hm : MM ek ek2 ev2 w l u z) (hg : mget l k = some v) (his : i = ek2 s) (hux : uv = ev2 x) (hk : KeyT P kt ek2) (ht : P.underlying t = some (.map kt et))
    (h : ∀ w', Ch (inBlk z) w w' → MM ek ek2 ev2 w' (mput l k (mput v s x)) u z → RL P n ops rest K E w') : RL P n ops (⟨none, .mapUpdate t X I Y, ty, pos, af, none⟩ :: rest) K E w := by
  obtain ⟨m, cs, rfl, rfl, hl, ho, hin, hnd⟩ := id hm
  cases hp : posK l k with
  | none => rw [(posK_none hp).1] at hg; cases hg
  | some q =>
    obtain ⟨v', h1, h2, _⟩ := posK_some hp
    rw [h2] at hg; cases hg
    have hql := lt_of_get h1
    have hc : cs[q]? = some (cs[q]'(by omega)) := List.getElem?_eq_getElem (by omega)
    rw [innv_some hp hc] at hx
    refine rl_mapUpdate s x hx hi hy (hin q _ _ hc h1) his hux hk ht fun w' hch hv => ?_
    obtain ⟨u1, u2⟩ := MM.upd hl ho hin hnd hp hc hch hv (v := v)
    exact h w' u2 u1
theorem rl_mmDel {X I : Operand} {i : Value} (k : α) (hx : ev E X = some u) (hi : ev E I = some i) (hm : MM ek ek2 ev2 w l u z) (hik : i = ek k) (hk : KeyT P kt ek) (ht : P.underlying t = some (.map kt et))
    (h : ∀ z' w', Ch (inBlk z) w w' → (∀ b, inBlk z' b → inBlk z b ∨ w.heap.size ≤ b) → MM ek ek2 ev2 w' (mdel l k) u z' → RL P n ops rest K E w') : RL P n ops (⟨none, .call ⟨.builtin .delete, #[X, I], #[t, kt]⟩, ty, pos, af, none⟩ :: rest) K E w := by
  obtain ⟨m, cs, rfl, rfl, hl, ho, hin, hnd⟩ := id hm
  have hnd' := List.nodup_cons.1 hnd
  refine rl_delete k hx hi ho hik hk ht fun w' hch hv => ?_
  have hchz : Ch (inBlk (zOf m cs)) w w' := hch.mono fun b _ hb => inBlk_z.2 (.inl (Eq.symm hb))
  have hinn : ∀ (i c : Nat) p, cs[i]? = some c → l[i]? = some p → Mp ek2 ev2 w' p.2 (.map (some c)) := fun i c p h1 h2 => (hin i c p h1 h2).ch hch fun b hb hb' => by
    have e1 : c = b := hb
    have e2 : m = b := hb'
    exact hnd'.1 (by rw [e2, ← e1]; exact List.mem_of_getElem? h1)
  have hz := posK_zip l (cs.map some) k (by simp [hl])
  cases hp : posK l k with
  | none =>
    rw [hp] at hz
    rw [(posK_none hz).2.1] at hv
    rw [(posK_none hp).2.1] at h
    exact h (zOf m cs) w' hchz (fun _ hb => .inl hb) ⟨m, cs, rfl, rfl, hl, hv, hinn, hnd⟩
  | some q =>
    rw [hp] at hz
    obtain ⟨_, h1, _, _, h4⟩ := posK_some hz
    obtain ⟨_, h5, _, _, h6⟩ := posK_some hp
    have hql := lt_of_get h5
    rw [h4] at hv
    rw [h6] at h
    have ezip : ∀ {A B : Type} (x : List A) (y : List B) (q : Nat), (x.zip y).eraseIdx q = (x.eraseIdx q).zip (y.eraseIdx q) := by
      intro A B x
      induction x with
      | nil => intro y q; simp
      | cons a x ih =>
        intro y q
        cases y with
        | nil => simp
        | cons b y =>
          cases q with
          | zero => simp
          | succ q => simp [ih]
    have e1 : ((l.map (·.1)).zip (cs.map some)).eraseIdx q = ((l.eraseIdx q).map (·.1)).zip ((cs.eraseIdx q).map some) := by
      rw [ezip, ← erase_map, ← erase_map]
    rw [e1] at hv
    have hsub : (cs.eraseIdx q).Sublist cs := List.eraseIdx_sublist _ _
    refine h (zOf m (cs.eraseIdx q)) w' hchz (fun b hb => .inl ?_) ⟨m, cs.eraseIdx q, rfl, rfl, by rw [List.length_eraseIdx_of_lt (by omega), List.length_eraseIdx_of_lt hql, hl], hv, fun i c p h1 h2 => ?_, hnd.sublist (hsub.cons_cons m)⟩
    · rcases inBlk_z.1 hb with hb | hb
      · exact inBlk_z.2 (.inl hb)
      · exact inBlk_z.2 (.inr (hsub.subset hb))
    · rw [List.getElem?_eraseIdx] at h1 h2
      by_cases hiq : i < q
      · rw [if_pos hiq] at h1 h2; exact hinn i c p h1 h2
      · rw [if_neg hiq] at h1 h2; exact hinn _ c p h1 h2
theorem rl_mmNew {X I Y : Operand} {i : Value} {b : Nat} (k : α) (hx : ev E X = some u) (hi : ev E I = some i) (hy : ev E Y = some (.map (some b))) (hm : MM ek ek2 ev2 w l u z) (hb : Mp ek2 ev2 w ([] : List (β × γ)) (.map (some b))) (hd : ∀ c, inBlk (.map (some b)) c → ¬ inBlk z c) (hg : mget l k = none)
    (hik : i = ek k) (hk : KeyT P kt ek) (ht : P.underlying t = some (.map kt et))
    (h : ∀ z' w', Ch (inBlk z) w w' → (∀ c, inBlk z' c → un (inBlk z) (inBlk (.map (some b))) c ∨ w.heap.size ≤ c) → MM ek ek2 ev2 w' (mput l k []) u z' → RL P n ops rest K E w') : RL P n ops (⟨none, .mapUpdate t X I Y, ty, pos, af, none⟩ :: rest) K E w := by
  obtain ⟨m, cs, rfl, rfl, hl, ho, hin, hnd⟩ := id hm
  have hnd' := List.nodup_cons.1 hnd
  have hbz := hd b rfl
  rw [inBlk_z] at hbz
  refine rl_mapUpdate k (some b) hx hi hy ho hik rfl hk ht fun w' hch hv => ?_
  have hchz : Ch (inBlk (zOf m cs)) w w' := hch.mono fun b _ hb => inBlk_z.2 (.inl (Eq.symm hb))
  have hz := posK_zip l (cs.map some) k (by simp [hl])
  cases hp : posK l k with
  | some q => obtain ⟨v, _, h2, _⟩ := posK_some hp; rw [h2] at hg; cases hg
  | none =>
    rw [hp] at hz
    rw [(posK_none hz).2.2] at hv
    rw [(posK_none hp).2.2] at h
    refine h (zOf m (cs ++ [b])) w' hchz (fun c hc => ?_) ⟨m, cs ++ [b], rfl, rfl, by simp [hl], ?_, fun i c p h1 h2 => ?_, ?_⟩
    · rcases inBlk_z.1 hc with hc | hc
      · exact .inl (.inl (inBlk_z.2 (.inl hc)))
      · rcases List.mem_append.1 hc with hc | hc
        · exact .inl (.inl (inBlk_z.2 (.inr hc)))
        · exact .inl (.inr (List.mem_singleton.1 hc).symm)
    · have e : ((l ++ [(k, ([] : List (β × γ)))]).map (·.1)).zip ((cs ++ [b]).map some) = (l.map (·.1)).zip (cs.map some) ++ [(k, some b)] := by
        rw [List.map_append, List.map_append, List.zip_append (by simp [hl])]; rfl
      rw [e]; exact hv
    · rcases Nat.lt_or_ge i cs.length with hi' | hi'
      · rw [List.getElem?_append_left hi'] at h1
        rw [List.getElem?_append_left (by omega)] at h2
        exact (hin i c p h1 h2).ch hch fun b' hb1 hb2 => by
          have e1 : c = b' := hb1
          have e2 : m = b' := hb2
          exact hnd'.1 (by rw [e2, ← e1]; exact List.mem_of_getElem? h1)
      · have hi2 : i = cs.length := by have := lt_of_get h1; simp at this; omega
        subst hi2
        rw [List.getElem?_append_right (Nat.le_refl _)] at h1
        rw [List.getElem?_append_right (by omega)] at h2
        simp only [Nat.sub_self, List.getElem?_cons_zero, Option.some.injEq] at h1
        simp only [hl, Nat.sub_self, List.getElem?_cons_zero, Option.some.injEq] at h2
        subst h1; subst h2
        exact hb.ch hch fun c hc1 hc2 => hbz (.inl (by have e1 : b = c := hc1; have e2 : m = c := hc2; rw [e1, e2]))
    · rw [List.nodup_cons, List.nodup_append]
      refine ⟨fun hm => ?_, hnd'.2, by simp, fun a ha c hc => ?_⟩
      · rcases List.mem_append.1 hm with h1 | h1
        · exact hnd'.1 h1
        · exact hbz (.inl (List.mem_singleton.1 h1).symm)
      · rw [List.mem_singleton.1 hc]; intro e; exact hbz (.inr (by rw [← e]; exact ha))
end
end Go.Proofs.YtkfhcfkbaaekoaaDoor.K
