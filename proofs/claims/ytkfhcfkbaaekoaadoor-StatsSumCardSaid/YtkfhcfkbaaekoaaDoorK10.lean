/- Elements of a slice of one's own: read, stored, cut, cleared; slices of slices; strings cut. General: no program is named. -/
import Derived.Test.YtkfhcfkbaaekoaaDoorK9
import Derived.Laws.Slices
namespace Go.Proofs.YtkfhcfkbaaekoaaDoor.K
open Go
set_option linter.unusedVariables false

section
variable {α : Type} {k : Kd α} {T : TypeId} {F R : Nat → Prop} {B : Nat} {S S' D : Nat → Prop} {w w' : World} {xs ys : List α} {v u : Value} {cs ds : List Value}

theorem Row.take (h : Row k R w xs cs) (j : Nat) (hj : j ≤ xs.length) : Row k R w (xs.take j) (cs.take (j * k.n)) := by
  refine ⟨?_, fun i x hx => ?_⟩
  · rw [List.length_take, List.length_take, h.len, Nat.min_eq_left hj, Nat.min_eq_left (Nat.mul_le_mul_right _ hj)]
  · rw [List.getElem?_take] at hx
    split at hx
    · rename_i hi
      obtain ⟨c, hc, hq⟩ := h.el i x hx
      refine ⟨c, hc, fun p q hp => ?_⟩
      have h1 := hq p q hp
      have h2 : p < k.n := by rw [← k.len hc]; exact lt_of_get hp
      rw [List.getElem?_take, if_pos]; exact h1
      have : (i + 1) * k.n ≤ j * k.n := Nat.mul_le_mul_right _ hi
      rw [Nat.add_mul] at this; omega
    · cases hx
theorem Row.drop (h : Row k R w xs cs) (j : Nat) : Row k R w (xs.drop j) (cs.drop (j * k.n)) := by
  refine ⟨?_, fun i x hx => ?_⟩
  · rw [List.length_drop, List.length_drop, h.len, Nat.sub_mul]
  · rw [List.getElem?_drop] at hx
    obtain ⟨c, hc, hq⟩ := h.el _ x hx
    refine ⟨c, hc, fun p q hp => ?_⟩
    have h1 := hq p q hp
    rw [List.getElem?_drop, ← Nat.add_assoc, ← Nat.add_mul]; exact h1
theorem Row.write (h : Row k R w xs cs) (h' : Row k R w ys ds) (j : Nat) (hj : j + ys.length ≤ xs.length) : Row k R w (xs.take j ++ (ys ++ xs.drop (j + ys.length))) (writeL cs (j * k.n) ds) := by
  unfold writeL
  refine (h.take j (by omega)).append (h'.append ?_)
  rw [h'.len, ← Nat.add_mul]
  exact h.drop _
theorem Row.rep {x : α} {c : List Value} (n : Nat) (h : k.rep R w x c) : Row k R w (List.replicate n x) (List.replicate n c).flatten := by
  induction n with
  | zero => exact Row.nil
  | succ n ih =>
    have := (Row.cons1 h).append ih
    simpa [List.replicate_succ] using this

/-- What is asked of one's own block. -/
theorem SlO.blk (h : SlO k T F B S w xs v) : (v = .slice none 0 0 ∧ xs = []) ∨ ∃ g cap cur, v = .slice (some ⟨g, 0, none⟩) xs.length cap ∧ Blk w g T cur ∧ cur.length = cap * k.n ∧ xs.length ≤ cap ∧ B ≤ g ∧ cap ≤ maxLen ∧ Row k (G F B S) w xs (cur.take (xs.length * k.n)) := by
  obtain ⟨cs, h1, h2⟩ := h.row
  rcases h1.2 with ⟨rfl, h0⟩ | ⟨g, cap, cur, rfl, hg, hp, hnc, hcm, hcs, ht⟩
  · exact .inl ⟨rfl, List.eq_nil_of_length_eq_zero h0⟩
  · exact .inr ⟨g, cap, cur.toList, rfl, by unfold Blk; simpa using hp, by simpa using hcs, hnc, hg, hcm, by rw [ht]; exact h2⟩
/-- A row of values is written into it. -/
theorem SlO.write {g cap : Nat} {cur : List Value} (h : SlO k T F B S w xs v) (hv : v = .slice (some ⟨g, 0, none⟩) xs.length cap) (hb : Blk w g T cur) (hc : Ch (inBlk v) w w') (hy : Row k (G F B S) w ys ds) (j : Nat) (hj : j + ys.length ≤ xs.length)
    (hw : Blk w' g T (writeL cur (j * k.n) ds)) : SlO k T F B S w' (xs.take j ++ (ys ++ xs.drop (j + ys.length))) v := by
  rcases h.blk with ⟨h1, h2⟩ | ⟨g', cap', cur', h1, h2, h3, h4, h5, h6, h7⟩
  · rw [hv] at h1; cases h1
  · rw [hv] at h1
    simp only [Value.slice.injEq, Option.some.injEq, Addr.mk.injEq, true_and, and_true] at h1
    obtain ⟨rfl, rfl⟩ := h1
    obtain rfl : cur = cur' := by
      unfold Blk at hb h2
      rw [hb] at h2; simpa using h2
    have hl : (xs.take j ++ (ys ++ xs.drop (j + ys.length))).length = xs.length := by simp; omega
    have hmul : (j + ys.length) * k.n ≤ xs.length * k.n := Nat.mul_le_mul_right _ hj
    rw [Nat.add_mul, ← hy.len] at hmul
    have hcap : xs.length * k.n ≤ cap * k.n := Nat.mul_le_mul_right _ h4
    have ht : (writeL cur (j * k.n) ds).take (xs.length * k.n) = writeL (cur.take (xs.length * k.n)) (j * k.n) ds := by
      unfold writeL
      rw [List.take_append, List.take_append, List.length_take, List.take_take, List.take_take, Nat.min_eq_left (show j * k.n ≤ cur.length by omega)]
      rw [Nat.min_eq_right (show j * k.n ≤ xs.length * k.n by omega), Nat.min_eq_left (show j * k.n ≤ xs.length * k.n by omega), List.take_of_length_le (l := ds) (by omega), List.drop_take]
      congr 3; omega
    have hrow := h7.write hy j hj
    refine ⟨⟨writeL (cur.take (xs.length * k.n)) (j * k.n) ds, ?_, ?_⟩, by rw [hl]; exact h.big, h.mine⟩
    · refine ⟨by rw [hrow.len], .inr ⟨g, cap, (writeL cur (j * k.n) ds).toArray, by rw [hl]; exact hv, h5, hw, by omega, h6, ?_, ?_⟩⟩
      · rw [List.size_toArray, writeL_length (by omega), h3]
      · rw [hl]; exact ht
    · exact hrow.mono fun b hb' hf => ⟨hf, hc.blk b hb' fun hx => hf.2 (h.mine b hx)⟩
/-- Its head alone. -/
theorem SlO.take {m : Nat} (h : SlO k T F B S w xs v) (j : Nat) (hj : j ≤ xs.length) : ∃ v', (∀ b, inBlk v' b ↔ inBlk v b) ∧ SlO k T F B S w (xs.take j) v' ∧ ((v = .slice none 0 0 ∧ v' = .slice none 0 0) ∨ ∃ g cap, v = .slice (some ⟨g, 0, none⟩) xs.length cap ∧ xs.length ≤ cap ∧ v' = .slice (some ⟨g, 0, none⟩) j cap) := by
  rcases h.blk with ⟨rfl, rfl⟩ | ⟨g, cap, cur, h1, h2, h3, h4, h5, h6, h7⟩
  · exact ⟨.slice none 0 0, fun _ => Iff.rfl, by simpa using h, .inl ⟨rfl, rfl⟩⟩
  · refine ⟨.slice (some ⟨g, 0, none⟩) j cap, fun b => by rw [h1]; rfl, ?_, .inr ⟨g, cap, h1, h4, rfl⟩⟩
    have h8 := h7.take j hj
    have hl : (xs.take j).length = j := by simp; omega
    have hm : j * k.n ≤ xs.length * k.n := Nat.mul_le_mul_right _ hj
    rw [List.take_take, Nat.min_eq_left hm] at h8
    refine ⟨⟨cur.take (j * k.n), ⟨h8.len, .inr ⟨g, cap, cur.toArray, by rw [hl], h5, h2, by omega, h6, by simpa using h3, by rw [hl]⟩⟩, h8⟩, by have := h.big; omega, fun b hb => h.mine b (by rw [h1]; exact hb)⟩

theorem slRep.cut (hn : 0 < k.n) (h : slRep k R w xs v) (l hh : Nat) (h1 : l ≤ hh) (h2 : hh ≤ xs.length) : ∀ a cap, v = .slice a xs.length cap → slRep k R w ((xs.drop l).take (hh - l)) (sliced a l hh cap k.n) := by
  intro a cap hv
  rcases h with ⟨rfl, rfl⟩ | ⟨b, off, cap', h⟩
  · simp only [List.length_nil, Nat.le_zero_eq] at h2
    subst h2
    obtain rfl : l = 0 := by omega
    simp only [Value.slice.injEq] at hv
    obtain ⟨rfl, _, rfl⟩ := hv
    exact .inl ⟨rfl, rfl⟩
  · obtain ⟨s, this, hs0⟩ := h.hv
    rw [hv] at this
    simp only [Value.slice.injEq, true_and] at this
    obtain ⟨rfl, rfl⟩ := this
    have hl : ((xs.drop l).take (hh - l)).length = hh - l := by simp; omega
    have hcap := h.cap
    by_cases hc : cap = l
    · have e : (xs.drop l).take (hh - l) = [] := List.eq_nil_of_length_eq_zero (by omega)
      have e2 : hh - l = 0 := by omega
      have e3 : cap - l = 0 := by omega
      refine .inr ⟨b, off, 0, ?_, by rw [hl]; omega, by rw [hl]; omega, fun i x hx => ?_⟩
      · exact ⟨s, by rw [sliced, if_pos hc, hl, e3], fun h => absurd e h⟩
      · rw [e] at hx; simp at hx
    · refine .inr ⟨b, off + l * k.n, cap - l, ?_, by rw [hl]; omega, by rw [hl]; have := h.big; omega, fun i x hx => ?_⟩
      · by_cases h0 : l * k.n = 0
        · refine ⟨s, by rw [sliced, if_neg hc, hl]; simp [Addr.add, h0], fun h => hs0 fun e => h (by rw [e]; simp)⟩
        · exact ⟨none, by rw [sliced, if_neg hc, hl]; simp [Addr.add, h0], fun _ => rfl⟩
      · rw [List.getElem?_take] at hx
        split at hx
        · rw [List.getElem?_drop] at hx
          obtain ⟨hf, c, hr, hs⟩ := h.el _ x hx
          refine ⟨hf, c, hr, ?_⟩
          rw [Nat.add_assoc, ← Nat.add_mul]; exact hs
        · cases hx

/-- The part of one's own slice from place l on. -/
def Suf (m n l : Nat) (v v' : Value) : Prop := (v = .slice none 0 0 ∧ v' = .slice none 0 0 ∧ n - l = 0) ∨ ∃ g cap, v = .slice (some ⟨g, 0, none⟩) n cap ∧ v' = .slice (some ⟨g, if cap = l then 0 else l * m, none⟩) (n - l) (cap - l)
end

section
variable {P : Program} {n : Nat} {ops : Array Oper} {rest : List Oper} {K : Env → World → Prop} {E : Env} {w : World}
variable {d : Nat} {ty : TypeId} {pos : String} {af : Array Edge}
variable {α : Type} {k : Kd α} {T : TypeId} {F R : Nat → Prop} {B : Nat} {S : Nat → Prop} {xs : List α} {v : Value}

theorem RL.opRet {o : Oper} {K : Env → World → Prop} {v : Value} {w w' : World} (hg : o.guard = none) (hd : o.dst = none)
    (hr : ∀ a, Ok n E a → (execOp a.eval o).run P w = .ok (.value v) w') (h : RL P n ops rest K E w') : RL P n ops (o :: rest) K E w := by
  intro a ha
  unfold wpList
  rw [if_pos (by simp [Region.wanted, hg])]
  refine .inl ?_
  unfold Oper.wp
  rw [hr a ha]
  show wpList P ops _ rest (a.put o.dst v) w'
  rw [hd]
  exact h _ ha

theorem elem_of {t el : TypeId} (ht : P.underlying t = some (.slice el)) : P.underlying t = some (.slice (P.elem t)) ∧ P.elem t = el := by
  have : P.elem t = el := by simp [Program.elem, ht]
  exact ⟨by rw [this]; exact ht, this⟩

/-- A value for an operand that may be missing. -/
theorem run_cut {t el : TypeId} {a : Option Addr} {len cap m : Nat} (lo hi : Option Int) (kl kh : IntKind) (ht : P.underlying t = some (.slice el)) (hz : ∀ w, (sizeOf el).run P w = .ok m w) (h0 : 0 ≤ lo.getD 0) (h1 : lo.getD 0 ≤ hi.getD len) (h2 : hi.getD len ≤ len) (hc : len ≤ cap) :
    (Instr.sliceAt t (.slice a len cap) (lo.map (.int kl)) (hi.map (.int kh)) none).run P w = .ok (sliced a (lo.getD 0).toNat (hi.getD len).toNat cap m) w := by
  obtain ⟨ht', he⟩ := elem_of ht
  rw [run_sliceAt_slice (P := P) w t _ _ _ _ ht']
  cases lo with
  | none =>
    cases hi with
    | none => simp only [Option.map_none, Option.getD_none] at *; rw [run_slice_all (P := P) w t a len cap ht', he, hz]; simp [Result.andThen]
    | some h => simp only [Option.map_none, Option.map_some, Option.getD_none, Option.getD_some] at *; rw [run_slice_h (P := P) w t a len cap ht' kh h h1 (by omega), he, hz]; simp [Result.andThen]
  | some l =>
    cases hi with
    | none => simp only [Option.map_none, Option.map_some, Option.getD_none, Option.getD_some] at *; rw [run_slice_l (P := P) w t a len cap ht' kl l h0 h1, he, hz]; simp [Result.andThen]
    | some h => simp only [Option.map_some, Option.getD_some] at *; rw [run_slice_lh (P := P) w t a len cap ht' kl kh l h h0 h1 (by omega), he, hz]; simp [Result.andThen]

/-- An int at an operand that may be missing. -/
def evI (E : Env) (k : IntKind) : Option Operand → Option Int → Prop
  | none, none => True
  | some x, some i => ev E x = some (.int k i)
  | _, _ => False
theorem evI.map {E : Env} {k : IntKind} {o : Option Operand} {i : Option Int} {a : Act} {n : Nat} (h : evI E k o i) (ha : Ok n E a) : o.map a.eval = i.map (.int k) := by
  cases o <;> cases i <;> simp only [evI] at h <;> first | rfl | exact h.elim | (simp [ha.eval h])

/-- s[lo:hi], read. -/
theorem rl_cutR {t el : TypeId} {X : Operand} {lo hi : Option Operand} {kl kh : IntKind} (li ri : Option Int) {ys : List α} (hx : ev E X = some v) (h : slRep k R w xs v) (hn0 : 0 < k.n) (hl : evI E kl lo li) (hr : evI E kh hi ri)
    (hs : slO xs (li.getD 0) (ri.getD xs.length) = some ys) (ht : P.underlying t = some (.slice el)) (hz : ∀ w, (sizeOf el).run P w = .ok k.n w) (hn : Nat.blt d n = true)
    (hK : ∀ v', slRep k R w ys v' → RL P n ops rest K ((d, v') :: E) w) : RL P n ops (⟨some d, .slice t X lo hi none, ty, pos, af, none⟩ :: rest) K E w := by
  obtain ⟨h0, h1, h2, rfl⟩ := slO_get hs
  obtain ⟨a, cap, hv⟩ := h.shape
  have hcap : xs.length ≤ cap := by
    rcases h with ⟨rfl, rfl⟩ | ⟨b, off, cap', h⟩
    · simp
    · obtain ⟨s, this, _⟩ := h.hv; rw [hv] at this; simp only [Value.slice.injEq, true_and] at this; rw [this.2]; exact h.cap
  have hq := h.cut hn0 (li.getD 0).toNat (ri.getD xs.length).toNat (by omega) (by omega) a cap hv
  rw [show ((ri.getD xs.length) - li.getD 0).toNat = (ri.getD xs.length).toNat - (li.getD 0).toNat by omega] at hK
  refine RL.op rfl rfl hn (fun ac ha => ?_) (hK _ hq)
  have hr' := run_cut (P := P) (w := w) (a := a) (len := xs.length) (cap := cap) li ri kl kh ht hz h0 h1 h2 hcap
  simp only [execOp, ha.eval hx, hl.map ha, hr.map ha, Option.map_none, hv]
  show ((do let u ← Instr.sliceAt t _ _ _ none; Pure.pure (Next.value u)) : Sem Next).run P w = _
  rw [Sem.run_bind, hr']; rfl

/-- s[:hi] of one's own slice goes on as one's own. -/
theorem rl_cutO {t el : TypeId} {X : Operand} {lo hi : Option Operand} {kl kh : IntKind} (li ri : Option Int) {ys : List α} (hx : ev E X = some v) (h : SlO k T F B S w xs v) (hl : evI E kl lo li) (hr : evI E kh hi ri) (hl0 : li.getD 0 = 0)
    (hs : slO xs (li.getD 0) (ri.getD xs.length) = some ys) (ht : P.underlying t = some (.slice el)) (hz : ∀ w, (sizeOf el).run P w = .ok k.n w) (hn : Nat.blt d n = true)
    (hK : ∀ v', (∀ b, inBlk v' b ↔ inBlk v b) → SlO k T F B S w ys v' → RL P n ops rest K ((d, v') :: E) w) : RL P n ops (⟨some d, .slice t X lo hi none, ty, pos, af, none⟩ :: rest) K E w := by
  obtain ⟨h0, h1, h2, rfl⟩ := slO_get hs
  rw [hl0] at h0 h1 hK
  obtain ⟨v', hb, ho, hv⟩ := h.take (m := k.n) (ri.getD xs.length).toNat (by omega)
  have e : (xs.drop (0 : Int).toNat).take (ri.getD xs.length - 0).toNat = xs.take (ri.getD xs.length).toNat := by simp
  rw [e] at hK
  refine RL.op rfl rfl hn (fun ac ha => ?_) (hK v' hb ho)
  simp only [execOp, ha.eval hx, hl.map ha, hr.map ha, Option.map_none]
  show ((do let u ← Instr.sliceAt t _ _ _ none; Pure.pure (Next.value u)) : Sem Next).run P w = _
  rcases hv with ⟨rfl, rfl⟩ | ⟨g, cap, rfl, hcap, rfl⟩
  · have hx0 : xs = [] := by
      rcases h.blk with ⟨_, h⟩ | ⟨g, cap, cur, h, _⟩
      · exact h
      · cases h
    subst hx0
    have hr' := run_cut (P := P) (w := w) (a := none) (len := 0) (cap := 0) li ri kl kh ht hz (by omega) (by rw [hl0]; simpa using h1) (by simpa using h2) (Nat.le_refl _)
    rw [Sem.run_bind, hr', hl0]
    have : (ri.getD ((0 : Nat) : Int)).toNat = 0 := by simp at h1 h2 ⊢; omega
    rw [this]; rfl
  · have hr' := run_cut (P := P) (w := w) (a := some ⟨g, 0, none⟩) (len := xs.length) (cap := cap) li ri kl kh ht hz (by omega) (by rw [hl0]; exact h1) h2 hcap
    rw [Sem.run_bind, hr', hl0]
    have e2 : sliced (some ⟨g, 0, none⟩) (0 : Int).toNat (ri.getD xs.length).toNat cap k.n = .slice (some ⟨g, 0, none⟩) (ri.getD xs.length).toNat cap := by
      unfold sliced
      split <;> simp [Addr_add]
    rw [e2]; rfl

/-- s[lo:] of one's own slice, to be cleared. -/
theorem rl_cutS {t el : TypeId} {X : Operand} {lo : Operand} {kl : IntKind} {i : Int} {ys : List α} (hx : ev E X = some v) (h : SlO k T F B S w xs v) (hl : ev E lo = some (.int kl i))
    (hs : slO xs i xs.length = some ys) (ht : P.underlying t = some (.slice el)) (hz : ∀ w, (sizeOf el).run P w = .ok k.n w) (hn : Nat.blt d n = true)
    (hK : ∀ v', Suf k.n xs.length i.toNat v v' → RL P n ops rest K ((d, v') :: E) w) : RL P n ops (⟨some d, .slice t X (some lo) none none, ty, pos, af, none⟩ :: rest) K E w := by
  obtain ⟨h0, h1, h2, rfl⟩ := slO_get hs
  have hl' : evI E kl (some lo) (some i) := hl
  rcases h.blk with ⟨rfl, rfl⟩ | ⟨g, cap, cur, rfl, _, _, hcap, _⟩
  · refine RL.op rfl rfl hn (fun ac ha => ?_) (hK (.slice none 0 0) (.inl ⟨rfl, rfl, by simp⟩))
    have hr' := run_cut (P := P) (w := w) (a := none) (len := 0) (cap := 0) (some i) none kl kl ht hz h0 h1 (Int.le_refl _) (Nat.le_refl _)
    simp only [execOp, ha.eval hx, hl'.map ha, Option.map_none]
    show ((do let u ← Instr.sliceAt t _ _ _ none; Pure.pure (Next.value u)) : Sem Next).run P w = _
    simp only [Option.map_none] at hr'
    have e : i.toNat = 0 := by simp at h1; omega
    rw [Sem.run_bind, hr']
    simp [e, sliced]
  · refine RL.op rfl rfl hn (fun ac ha => ?_) (hK (.slice (some ⟨g, if cap = i.toNat then 0 else i.toNat * k.n, none⟩) (xs.length - i.toNat) (cap - i.toNat)) (.inr ⟨g, cap, rfl, rfl⟩))
    have hr' := run_cut (P := P) (w := w) (a := some ⟨g, 0, none⟩) (len := xs.length) (cap := cap) (some i) none kl kl ht hz h0 h1 (Int.le_refl _) hcap
    simp only [execOp, ha.eval hx, hl'.map ha, Option.map_none]
    show ((do let u ← Instr.sliceAt t _ _ _ none; Pure.pure (Next.value u)) : Sem Next).run P w = _
    simp only [Option.map_none] at hr'
    rw [Sem.run_bind, hr']
    simp only [Option.getD_some, Option.getD_none, Int.toNat_natCast]
    unfold sliced
    split <;> simp [Addr_add]

/-- The address of element i of one's own slice. -/
theorem rl_ixO {t el : TypeId} {X I : Operand} {kk : IntKind} {i : Int} {y : α} (hx : ev E X = some v) (h : SlO k T F B S w xs v) (hi : ev E I = some (.int kk i)) (hj : 0 ≤ i ∧ i < (xs.length : Int) ∧ xs[i.toNat]? = some y)
    (ht : P.underlying t = some (.slice el)) (hz : ∀ w, (sizeOf el).run P w = .ok k.n w) (hn : Nat.blt d n = true)
    (hK : ∀ g, inBlk v g → RL P n ops rest K ((d, .pointer (some ⟨g, i.toNat * k.n, none⟩)) :: E) w) : RL P n ops (⟨some d, .indexAddr t X I, ty, pos, af, none⟩ :: rest) K E w := by
  rcases h.blk with ⟨rfl, rfl⟩ | ⟨g, cap, cur, rfl, _⟩
  · simp at hj
  · have hi' : ev E I = some (.int kk (i.toNat : Int)) := by rw [hi, Int.toNat_of_nonneg hj.1]
    refine rl_ixSl i.toNat hx hi' (by omega) ht hz hn ?_
    rw [Nat.zero_add]
    exact hK g rfl

theorem ixN {xs : List α} {j : Nat} {y : α} (h : xs[j]? = some y) : 0 ≤ (j : Int) ∧ (j : Int) < (xs.length : Int) ∧ xs[(j : Int).toNat]? = some y := by
  have := lt_of_get h
  exact ⟨by omega, by omega, by simpa using h⟩
/-- Element i of one's own slice, read. -/
theorem rl_ixOR {t el : TypeId} {X I : Operand} {kk : IntKind} {i : Int} {y : α} (hx : ev E X = some v) (h : SlO k T F B S w xs v) (hi : ev E I = some (.int kk i)) (hj : 0 ≤ i ∧ i < (xs.length : Int) ∧ xs[i.toNat]? = some y) (hn0 : 0 < k.n)
    (ht : P.underlying t = some (.slice el)) (hz : ∀ w, (sizeOf el).run P w = .ok k.n w) (hn : Nat.blt d n = true)
    (hK : ∀ b o cs, k.rep (G F B S) w y cs → Seg w b o cs → inBlk v b → RL P n ops rest K ((d, .pointer (some ⟨b, o, none⟩)) :: E) w) : RL P n ops (⟨some d, .indexAddr t X I, ty, pos, af, none⟩ :: rest) K E w := by
  rcases h.blk with ⟨rfl, rfl⟩ | ⟨g, cap, cur, rfl, hb, hl, hcap, _, _, hrow⟩
  · simp at hj
  · have hi' : ev E I = some (.int kk (i.toNat : Int)) := by rw [hi, Int.toNat_of_nonneg hj.1]
    refine rl_ixSl i.toNat hx hi' (by omega) ht hz hn ?_
    obtain ⟨c, hc, hq⟩ := hrow.el i.toNat y hj.2.2
    refine hK g _ c hc (fun p u hp => ?_) rfl
    have h1 := hq p u hp
    rw [List.getElem?_take] at h1
    split at h1
    · rw [Nat.zero_add]; exact hb.cell h1
    · cases h1

theorem Suf.len {N l : Nat} {u : Value} (hs : Suf k.n N l v u) (h : SlO k T F B S w xs v) : v = .slice none 0 0 ∧ xs = [] ∨ N = xs.length := by
  rcases h.blk with ⟨h1, h2⟩ | ⟨g, cap, cur, h1, _⟩
  · exact .inl ⟨h1, h2⟩
  · rcases hs with ⟨h2, _⟩ | ⟨g', cap', h2, _⟩
    · rw [h1] at h2; cases h2
    · rw [h1] at h2; simp only [Value.slice.injEq] at h2; exact .inr h2.2.1.symm
/-- An element of the part from place l on. -/
theorem rl_ixSuf {t el : TypeId} {X I : Operand} {kk : IntKind} {i : Int} {y : α} {u : Value} {N l : Nat} (hx : ev E X = some u) (hs : Suf k.n N l v u) (h : SlO k T F B S w xs v) (hi : ev E I = some (.int kk i))
    (hj : 0 ≤ i ∧ i < ((xs.drop l).length : Int) ∧ (xs.drop l)[i.toNat]? = some y) (hn0 : 0 < k.n) (ht : P.underlying t = some (.slice el)) (hz : ∀ w, (sizeOf el).run P w = .ok k.n w) (hn : Nat.blt d n = true)
    (hK : ∀ b o cs, k.rep (G F B S) w y cs → Seg w b o cs → inBlk v b → RL P n ops rest K ((d, .pointer (some ⟨b, o, none⟩)) :: E) w) : RL P n ops (⟨some d, .indexAddr t X I, ty, pos, af, none⟩ :: rest) K E w := by
  have hlen := hj.2.1
  rw [List.length_drop] at hlen
  rcases h.blk with ⟨rfl, rfl⟩ | ⟨g, cap, cur, rfl, hb, hl, hcap, _, _, hrow⟩
  · simp at hlen; omega
  · rcases hs with ⟨h1, _⟩ | ⟨g', cap', h1, rfl⟩
    · cases h1
    · simp only [Value.slice.injEq, Option.some.injEq, Addr.mk.injEq, and_true] at h1
      obtain ⟨rfl, rfl, rfl⟩ := h1
      have hi' : ev E I = some (.int kk (i.toNat : Int)) := by rw [hi, Int.toNat_of_nonneg hj.1]
      rw [if_neg (by omega)] at hx
      refine rl_ixSl i.toNat hx hi' (by omega) ht hz hn ?_
      have hy : xs[l + i.toNat]? = some y := by rw [← List.getElem?_drop]; exact hj.2.2
      obtain ⟨c, hc, hq⟩ := hrow.el _ y hy
      refine hK g _ c hc (fun p u hp => ?_) rfl
      have h1 := hq p u hp
      rw [List.getElem?_take] at h1
      split at h1
      · rw [← Nat.add_mul]; exact hb.cell h1
      · cases h1
theorem rl_lenSuf {t el : TypeId} {X : Operand} {i : Int} {ys : List α} {u : Value} {N : Nat} {zs : List α} (hx : ev E X = some u) (hs : Suf k.n N i.toNat v u) (hy : slO zs i (N : Int) = some ys) (ht : P.underlying t = some (.slice el)) (hn : Nat.blt d n = true)
    (hK : RL P n ops rest K ((d, .int .i64 (ys.length : Nat)) :: E) w) : RL P n ops (⟨some d, .call ⟨.builtin .len, #[X], #[t]⟩, ty, pos, af, none⟩ :: rest) K E w := by
  obtain ⟨h0, h1, h2, rfl⟩ := slO_get hy
  have e : ((zs.drop i.toNat).take ((N : Int) - i).toNat).length = N - i.toNat := by simp; omega
  rw [e] at hK
  rcases hs with ⟨_, rfl, h0⟩ | ⟨g, cap, _, rfl⟩
  · rw [h0] at hK
    exact rl_lenSl hx ht hn hK
  · exact rl_lenSl hx ht hn hK

theorem setAt {α : Type} {xs : List α} {j : Nat} {x : α} (hj : j < xs.length) : xs.take j ++ ([x] ++ xs.drop (j + [x].length)) = xs.set j x := by
  rw [List.set_eq_take_append_cons_drop, if_pos hj]; rfl

/-- A value is stored there. -/
theorem rl_storeOS {t : TypeId} {X Y : Operand} {g i : Nat} {u : Value} {x : α} (hx : ev E X = some (.pointer (some ⟨g, i * k.n, none⟩))) (hy : ev E Y = some u) (hc : u.cells = #[u] ∧ u.oneCell' = true)
    (hz : ∀ w, (sizeOf t).run P w = .ok 1 w) (h : SlO k T F B S w xs v) (hg : inBlk v g) (hi : i < xs.length) (hr : k.rep (G F B S) w x [u])
    (hK : ∀ w', Ch (inBlk v) w w' → SlO k T F B S w' (xs.set i x) v → RL P n ops rest K E w') : RL P n ops (⟨none, .store t X Y, ty, pos, af, none⟩ :: rest) K E w := by
  have h1 : k.n = 1 := by rw [← k.len hr]; rfl
  rcases h.blk with ⟨rfl, rfl⟩ | ⟨g', cap, cur, hv, hb, hl, hcap, _⟩
  · exact hg.elim
  · obtain rfl : g' = g := by rw [hv] at hg; exact hg
    have hm : (i + 1) * k.n ≤ cap * k.n := Nat.mul_le_mul_right _ (by omega)
    rw [h1] at hm
    refine rl_storeS hx hy hc hz hb (by rw [hl, h1]; simp [Nat.blt, Nat.succ_le_iff]; omega) fun w' hs hch hbl => ?_
    have hch' : Ch (inBlk v) w w' := hch.mono fun b _ hb => by rw [hv]; exact hb
    refine hK w' hch' ?_
    have := h.write (ys := [x]) (ds := [u]) hv hb hch' (Row.cons1 hr) i (by simp only [List.length_singleton]; omega) (by
      rw [h1]; unfold writeL
      rw [h1] at hbl
      rw [List.set_eq_take_append_cons_drop, if_pos (by rw [hl, h1]; omega)] at hbl
      exact hbl)
    rwa [setAt hi] at this
theorem rl_storeOA {t : TypeId} {X Y : Operand} {g i : Nat} {vs : List Value} {x : α} (hx : ev E X = some (.pointer (some ⟨g, i * k.n, none⟩))) (hy : ev E Y = some (.agg vs.toArray))
    (hz : ∀ w, (sizeOf t).run P w = .ok k.n w) (h : SlO k T F B S w xs v) (hg : inBlk v g) (hi : i < xs.length) (hr : k.rep (G F B S) w x vs)
    (hK : ∀ w', Ch (inBlk v) w w' → SlO k T F B S w' (xs.set i x) v → RL P n ops rest K E w') : RL P n ops (⟨none, .store t X Y, ty, pos, af, none⟩ :: rest) K E w := by
  have hlen := k.len hr
  rcases h.blk with ⟨rfl, rfl⟩ | ⟨g', cap, cur, hv, hb, hl, hcap, _⟩
  · exact hg.elim
  · obtain rfl : g' = g := by rw [hv] at hg; exact hg
    have hm : (i + 1) * k.n ≤ cap * k.n := Nat.mul_le_mul_right _ (by omega)
    rw [Nat.add_mul] at hm
    refine rl_storeA hx hy (k.one hr) hz hlen hb (Nat.ble_eq_true_of_le (by rw [hlen, hl]; omega)) fun w' hs hch hbl => ?_
    have hch' : Ch (inBlk v) w w' := hch.mono fun b _ hb => by rw [hv]; exact hb
    refine hK w' hch' ?_
    have := h.write (ys := [x]) (ds := vs) hv hb hch' (Row.cons1 hr) i (by simp only [List.length_singleton]; omega) hbl
    rwa [setAt hi] at this

theorem zeroCells_flat (c : Array Value) (n : Nat) : (Builtin.zeroCells c n).toList = (List.replicate n c.toList).flatten := by
  have h : ∀ n, (List.range (n * c.size)).map (fun i => c[i % c.size]!) = (List.replicate n c.toList).flatten := by
    intro n
    induction n with
    | zero => simp
    | succ n ih =>
      rw [List.replicate_succ, List.flatten_cons, ← ih, show (n + 1) * c.size = c.size + n * c.size by rw [Nat.add_mul]; omega, List.range_add, List.map_append, List.map_map]
      congr 1
      · apply List.ext_getElem (by simp)
        intro i h1 h2
        simp only [List.length_map, List.length_range] at h1
        simp [Nat.mod_eq_of_lt h1, h1]
      · apply List.map_congr_left
        intro i _
        simp
  unfold Builtin.zeroCells
  simpa using h n

/-- Its tail is cleared. -/
theorem rl_clearO {t el : TypeId} {X : Operand} {i : Nat} {u z : Value} {z0 : α} (hx : ev E X = some u) (hu : Suf k.n xs.length i v u) (hi : i ≤ xs.length) (ht : P.underlying t = some (.slice el)) (hzv : ∀ w, (zeroValue el).run P w = .ok z w)
    (h : SlO k T F B S w xs v) (hr : k.rep (G F B S) w z0 z.cells.toList)
    (hK : ∀ w', Ch (inBlk v) w w' → SlO k T F B S w' (xs.take i ++ List.replicate (xs.length - i) z0) v → RL P n ops rest K E w') : RL P n ops (⟨none, .call ⟨.builtin .clear, #[X], #[t]⟩, ty, pos, af, none⟩ :: rest) K E w := by
  have hlen := k.len hr
  have nothing : xs.length - i = 0 → SlO k T F B S w (xs.take i ++ List.replicate (xs.length - i) z0) v := fun e => by
    rw [e, List.take_of_length_le (by omega)]; simpa using h
  rcases hu with ⟨rfl, rfl, _⟩ | ⟨g, cap, rfl, rfl⟩
  · have hx0 : xs = [] := by
      rcases h.blk with ⟨_, h⟩ | ⟨g, cap, cur, h, _⟩
      · exact h
      · cases h
    refine RL.opRet (v := .tuple #[]) (w' := w) rfl rfl (fun a ha => ?_) (hK w Ch.refl (nothing (by rw [hx0]; simp)))
    simp [execOp, resolve, invoke, builtin, ha.eval hx, Builtin.clear_, run_underlying ht]
  · by_cases e : xs.length - i = 0
    · refine RL.opRet (v := .tuple #[]) (w' := w) rfl rfl (fun a ha => ?_) (hK w Ch.refl (nothing e))
      simp [execOp, resolve, invoke, builtin, ha.eval hx, Builtin.clear_, run_underlying ht, e]
    · rcases h.blk with ⟨h1, h2⟩ | ⟨g', cap', cur, h1, h2, h3, h4, h5, h6, h7⟩
      · cases h1
      · simp only [Value.slice.injEq, Option.some.injEq, Addr.mk.injEq, true_and, and_true] at h1
        obtain ⟨rfl, rfl⟩ := h1
        have hne : cap ≠ i := by omega
        have hmul : i * k.n + (xs.length - i) * k.n ≤ cap * k.n := by
          rw [← Nat.add_mul]; exact Nat.mul_le_mul_right _ (by omega)
        have hzl : ((List.replicate (xs.length - i) z.cells.toList).flatten).length = (xs.length - i) * k.n := by simp [hlen]
        have hs := run_storeCells_at P g (i * k.n) T (List.replicate (xs.length - i) z.cells.toList).flatten 0 cur.toArray w h2 (by rw [hzl]; simp only [List.size_toArray]; omega) (by
          intro v hv
          simp only [List.mem_flatten, List.mem_replicate] at hv
          obtain ⟨l, ⟨_, rfl⟩, hv⟩ := hv
          exact k.one hr v hv)
        simp only [Nat.add_zero] at hs
        have hch : Ch (inBlk (.slice (some ⟨g, 0, none⟩) xs.length cap)) w (w.setRow g (cur.take (i * k.n) ++ (List.replicate (xs.length - i) z.cells.toList).flatten ++ cur.drop (i * k.n + ((List.replicate (xs.length - i) z.cells.toList).flatten).length)).toArray) :=
          ⟨rfl, rfl, rfl, Nat.le_refl _, by simp, fun c _ hd => setRow_other w g c _ (fun e => hd (by simp [inBlk, e]))⟩
        refine RL.opRet (v := .tuple #[]) (w' := w.setRow g (cur.take (i * k.n) ++ (List.replicate (xs.length - i) z.cells.toList).flatten ++ cur.drop (i * k.n + ((List.replicate (xs.length - i) z.cells.toList).flatten).length)).toArray) rfl rfl (fun a ha => ?_) (hK _ hch ?_)
        · have hs' : ∀ zz, zz = (Builtin.zeroCells z.cells (xs.length - i)).toList → (storeCells ⟨g, i * k.n, none⟩ zz 0).run P w = .ok () (w.setRow g (cur.take (i * k.n) ++ (List.replicate (xs.length - i) z.cells.toList).flatten ++ cur.drop (i * k.n + ((List.replicate (xs.length - i) z.cells.toList).flatten).length)).toArray) := by
            rintro _ rfl
            rw [zeroCells_flat]; exact hs
          rw [if_neg hne] at hx
          have hx' := ha.eval hx
          obtain ⟨q, hq⟩ : ∃ q, xs.length - i = q + 1 := ⟨xs.length - i - 1, by omega⟩
          rw [hq] at hx' hs' ⊢
          simp [execOp, resolve, invoke, builtin, hx', Builtin.clear_, run_underlying ht, hzv, hs']
        · have := h.write (ys := List.replicate (xs.length - i) z0) (ds := (List.replicate (xs.length - i) z.cells.toList).flatten) rfl h2 hch (Row.rep _ hr) i (by simp; omega) (by
            unfold Blk writeL
            rw [setRow_heap w g cur.toArray _ T (0, 0) h2]
            simp [List.append_assoc])
          have e2 : xs.drop (i + (List.replicate (xs.length - i) z0).length) = [] := by rw [List.drop_eq_nil_iff]; simp; omega
          rw [e2, List.append_nil] at this
          exact this
end

theorem ixO_lt {α : Type} {xs : List α} {i : Int} {y : α} (h : ixO xs i = some y) : i.toNat < xs.length := by
  have := ixO_get h; omega
theorem slO_le {α : Type} {xs ys : List α} {lo hi : Int} (h : slO xs lo hi = some ys) : lo.toNat ≤ xs.length := by
  have := slO_get h; omega
theorem admApp {v v' : Value} {S2 S' : Nat → Prop} {w : World} (h3 : ∀ b, inBlk v' b → inBlk v b ∨ w.heap.size ≤ b) (hS : ∀ b, un (inBlk v') S2 b ↔ S' b := by exact fun _ => Iff.rfl) : ∀ b, b < w.heap.size → ¬ un (inBlk v) S2 b → ¬ inBlk v b ∧ ¬ S' b :=
  fun b hb hs => ⟨fun x => hs (.inl x), fun hs' => ((hS b).2 hs').elim (fun x => (h3 b x).elim (fun x => hs (.inl x)) (fun x => by omega)) fun x => hs (.inr x)⟩
section
variable {P : Program} {n : Nat} {ops : Array Oper} {rest : List Oper} {K : Env → World → Prop} {E : Env} {w : World} {ty : TypeId} {pos : String} {af : Array Edge}
theorem RL.opCallN {o : Oper} {f : FuncId} {args : Array Value} {R : Value → World → Prop} (hg : o.guard = none) (hd : o.dst = none)
    (hr : ∀ a, Ok n E a → (execOp a.eval o).run P w = .ok (.enter f args) w) (hc : Ret P f args w R) (h : ∀ v w', R v w' → RL P n ops rest K E w') : RL P n ops (o :: rest) K E w := by
  intro a ha
  unfold wpList
  rw [if_pos (by simp [Region.wanted, hg])]
  refine .inl ?_
  unfold Oper.wp
  rw [hr a ha]
  refine Calls.mono hc ?_
  rintro e w' ⟨v, rfl, hR⟩
  show wpList P ops _ rest (a.put o.dst v) w'
  rw [hd]
  exact h v w' hR _ ha
theorem rl_callN {g : FuncId} {args : Array Operand} {tys : Array TypeId} {vs : List Value} {R : Value → World → Prop}
    (ha : evs E args.toList = some vs) (he : Enters P g) (hc : Ret P g vs.toArray w R)
    (h : ∀ v w', R v w' → RL P n ops rest K E w') : RL P n ops (⟨none, .call ⟨.value (.func g), args, tys⟩, ty, pos, af, none⟩ :: rest) K E w :=
  RL.opCallN rfl rfl (fun a hok => by
    have h1 : args.map a.eval = vs.toArray := by rw [← hok.evals _ _ ha, ← Array.toList_map]
    have h2 : a.eval (.func g) = .func (.func g) #[] #[] := by simpa using hok.eval (x := .func g) (v := .func (.func g) #[] #[]) rfl
    simp only [execOp, resolve, h1, h2, Deferred.ofValue]
    simp [invoke, he _ w]) hc h
end
theorem fn_cells1 {α ρ : Type} {P : Program} {agg : Bool} {k : Kd α} {rv : ρ → Value} {F : Nat → Prop} {w : World} {f : α → ρ} {v : Value} (h : (Kd.fn1 P agg k rv).rep F w f [v]) : v.cells.toList = [v] := by
  obtain ⟨g, cap, e, _⟩ := h
  simp only [List.cons.injEq, and_true] at e
  rw [e]; rfl
theorem fn_cells2 {α β ρ : Type} {P : Program} {agg agg' : Bool} {k : Kd α} {k' : Kd β} {rv : ρ → Value} {F : Nat → Prop} {w : World} {f : α → β → ρ} {v : Value} (h : (Kd.fn2 P agg agg' k k' rv).rep F w f [v]) : v.cells.toList = [v] := by
  obtain ⟨g, cap, e, _⟩ := h
  simp only [List.cons.injEq, and_true] at e
  rw [e]; rfl
theorem admO {O S : Nat → Prop} {n : Nat} (hO : ∀ b, O b → n ≤ b) : ∀ b, b < n → ¬ S b → ¬ nb b ∧ ¬ un O S b :=
  fun b hb hs => ⟨fun x => x, fun h => h.elim (fun h => absurd (hO b h) (Nat.not_le_of_lt hb)) hs⟩
theorem admGh {O O' D S : Nat → Prop} {n : Nat} (hD : ∀ b, D b → O b) (hO' : ∀ b, O' b → O b ∨ n ≤ b) : ∀ b, b < n → ¬ un O S b → ¬ D b ∧ ¬ un O' S b :=
  fun b hb hs => ⟨fun hd => hs (.inl (hD b hd)), fun h => h.elim (fun h => (hO' b h).elim (fun h => hs (.inl h)) fun h => absurd h (Nat.not_le_of_lt hb)) fun h => hs (.inr h)⟩
theorem Seg.lt {w : World} {b o j : Nat} {cs : List Value} {v : Value} (h : Seg w b o cs) (hj : cs[j]? = some v) : b < w.heap.size := lt_of_cell (h j v hj)
/-- The parts of a struct by their cells. -/
def fillC (place : Nat → Option (Nat × Nat)) (cells : List Value) : List (Nat × List Value) → Option (List Value)
  | [] => some cells
  | (i, c) :: rest =>
    match place i with
    | none => none
    | some (off, size) => cond (Nat.beq c.length size && Nat.ble (off + c.length) cells.length) (fillC place (writeL cells off c) rest) none
def CellsOf : List (Nat × Value) → List (Nat × List Value) → Prop
  | [], [] => True
  | (i, v) :: r, (j, c) :: s => (i = j ∧ v.cells.toList = c) ∧ CellsOf r s
  | _, _ => False
theorem co_nil : CellsOf [] [] := trivial
theorem co_cons {i : Nat} {v : Value} {c : List Value} {r : List (Nat × Value)} {s : List (Nat × List Value)} (h : v.cells.toList = c) (k : CellsOf r s) : CellsOf ((i, v) :: r) ((i, c) :: s) := ⟨⟨rfl, h⟩, k⟩
theorem one_toL {v : Value} (h : v.cells = #[v]) : v.cells.toList = [v] := congrArg Array.toList h
theorem fillC_eq (place : Nat → Option (Nat × Nat)) : ∀ (vs : List (Nat × Value)) (cs : List (Nat × List Value)) (cells : List Value), CellsOf vs cs → fillL place cells vs = fillC place cells cs
  | [], [], _, _ => rfl
  | (i, v) :: r, (j, c) :: s, cells, h => by
    obtain ⟨⟨rfl, rfl⟩, h2⟩ := h
    simp only [fillL, fillC]
    cases place i with
    | none => rfl
    | some p => simp only [fillC_eq place r s _ h2]
  | [], _ :: _, _, h => h.elim
  | _ :: _, [], _, h => h.elim
section
variable {P : Program} {n : Nat} {ops : Array Oper} {rest : List Oper} {K : Env → World → Prop} {E : Env} {w : World} {d : Nat} {ty : TypeId} {pos : String} {af : Array Edge}
theorem rl_buildC {t : TypeId} {pl : List (Nat × Nat)} {z : Value} {zs out : List Value} {parts : Array (Nat × Operand)} {vs : List (Nat × Value)} (cs : List (Nat × List Value)) (hv : evP E parts.toList = some vs) (hc : CellsOf vs cs) (hp : Places P t pl)
    (hz : ∀ w, (zeroValue t).run P w = .ok z w) (hzs : z.cells.toList = zs) (hf : fillC (pl[·]?) zs cs = some out) (hn : Nat.blt d n = true) (h : RL P n ops rest K ((d, .agg out.toArray) :: E) w) :
    RL P n ops (⟨some d, .build t parts, ty, pos, af, none⟩ :: rest) K E w :=
  rl_build hv hp hz hzs ((fillC_eq _ vs cs zs hc).trans hf) hn h
end
end Go.Proofs.YtkfhcfkbaaekoaaDoor.K
