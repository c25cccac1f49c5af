/- Elements of a slice of one's own: read, stored, cut, cleared; slices of slices; strings cut. General: no program is named. -/
import Derived.Test.YtkfhcfkbaaekoaaDoorK9
import Derived.Laws.Slices
namespace Go.Proofs.YtkfhcfkbaaekoaaDoor.K
open Go
set_option linter.unusedVariables false
section
variable {α : Type} {k : Kd α} {T : TypeId} {F R : Nat → Prop} {B : Nat} {S S' D : Nat → Prop} {w w' : World} {xs ys : List α} {v u : Value} {cs ds : List Value}
theorem Row.take (h : Row k R w xs cs) (j : Nat) (hj : j ≤ xs.length) : Row k R w (xs.take j) (cs.take (j * k.n)) := by
  refine ⟨?_, fun i x hx => ?_⟩
  · rw [List.length_take, List.length_take, h.len, Nat.min_eq_left hj, Nat.min_eq_left (Nat.mul_le_mul_right _ hj)]
  · rw [List.getElem?_take] at hx
    split at hx
    · rename_i hi
      obtain ⟨c, hc, hq⟩ := h.el i x hx
      refine ⟨c, hc, fun p q hp => ?_⟩
      have h1 := hq p q hp
      have h2 : p < k.n := by rw [← k.len hc]; exact lt_of_get hp
      rw [List.getElem?_take, if_pos]; exact h1
      have : (i + 1) * k.n ≤ j * k.n := Nat.mul_le_mul_right _ hi
      rw [Nat.add_mul] at this; omega
    · cases hx
theorem Row.drop (h : Row k R w xs cs) (j : Nat) : Row k R w (xs.drop j) (cs.drop (j * k.n)) := by
  refine ⟨?_, fun i x hx => ?_⟩
  · rw [List.length_drop, List.length_drop, h.len, Nat.sub_mul]
  · rw [List.getElem?_drop] at hx
    obtain ⟨c, hc, hq⟩ := h.el _ x hx
    refine ⟨c, hc, fun p q hp => ?_⟩
    have h1 := hq p q hp
    rw [List.getElem?_drop, ← Nat.add_assoc, ← Nat.add_mul]; exact h1
theorem Row.write (h : Row k R w xs cs) (h' : Row k R w ys ds) (j : Nat) (hj : j + ys.length ≤ xs.length) : Row k R w (xs.take j ++ (ys ++ xs.drop (j + ys.length))) (writeL cs (j * k.n) ds) := by
  unfold writeL
  refine (h.take j (by omega)).append (h'.append ?_)
  rw [h'.len, ← Nat.add_mul]
  exact h.drop _
theorem Row.rep {x : α} {c : List Value} (n : Nat) (h : k.rep R w x c) : Row k R w (List.replicate n x) (List.replicate n c).flatten := by
  induction n with
  | zero => exact Row.nil
  | succ n ih =>
    have := (Row.cons1 h).append ih
    simpa [List.replicate_succ] using this
theorem SlO.blk (h : SlO k T F B S w xs v) : (v = .slice none 0 0 ∧ xs = []) ∨ ∃ g cap cur, v = .slice (some ⟨g, 0, none⟩) xs.length cap ∧ Blk w g T cur ∧ cur.length = cap * k.n ∧ xs.length ≤ cap ∧ B ≤ g ∧ cap ≤ maxLen ∧ Row k (G F B S) w xs (cur.take (xs.length * k.n)) := by
  obtain ⟨cs, h1, h2⟩ := h.row
  rcases h1.2 with ⟨rfl, h0⟩ | ⟨g, cap, cur, rfl, hg, hp, hnc, hcm, hcs, ht⟩
  · exact .inl ⟨rfl, List.eq_nil_of_length_eq_zero h0⟩
  · exact .inr ⟨g, cap, cur.toList, rfl, by unfold Blk; simpa using hp, by simpa using hcs, hnc, hg, hcm, by rw [ht]; exact h2⟩
theorem SlO.write {g cap : Nat} {cur : List Value} (h : SlO k T F B S w xs v) (hv : v = .slice (some ⟨g, 0, none⟩) xs.length cap) (hb : Blk w g T cur) (hc : Ch (inBlk v) w w') (hy : Row k (G F B S) w ys ds) (j : Nat) (hj : j + ys.length ≤ xs.length)
    (hw : Blk w' g T (writeL cur (j * k.n) ds)) : SlO k T F B S w' (xs.take j ++ (ys ++ xs.drop (j + ys.length))) v := by
  rcases h.blk with ⟨h1, h2⟩ | ⟨g', cap', cur', h1, h2, h3, h4, h5, h6, h7⟩
  · rw [hv] at h1; cases h1
  · rw [hv] at h1
    simp only [Value.slice.injEq, Option.some.injEq, Addr.mk.injEq, true_and, and_true] at h1
    obtain ⟨rfl, rfl⟩ := h1
    obtain rfl : cur = cur' := by
      unfold Blk at hb h2
      rw [hb] at h2; simpa using h2
    have hl : (xs.take j ++ (ys ++ xs.drop (j + ys.length))).length = xs.length := by simp; omega
    have hmul : (j + ys.length) * k.n ≤ xs.length * k.n := Nat.mul_le_mul_right _ hj
    rw [Nat.add_mul, ← hy.len] at hmul
    have hcap : xs.length * k.n ≤ cap * k.n := Nat.mul_le_mul_right _ h4
    have ht : (writeL cur (j * k.n) ds).take (xs.length * k.n) = writeL (cur.take (xs.length * k.n)) (j * k.n) ds := by
      unfold writeL
      rw [List.take_append, List.take_append, List.length_take, List.take_take, List.take_take, Nat.min_eq_left (show j * k.n ≤ cur.length by omega)]
      rw [Nat.min_eq_right (show j * k.n ≤ xs.length * k.n by omega), Nat.min_eq_left (show j * k.n ≤ xs.length * k.n by omega), List.take_of_length_le (l := ds) (by omega), List.drop_take]
      congr 3; omega
    have hrow := h7.write hy j hj
    refine ⟨⟨writeL (cur.take (xs.length * k.n)) (j * k.n) ds, ?_, ?_⟩, by rw [hl]; exact h.big, h.mine⟩
    · refine ⟨by rw [hrow.len], .inr ⟨g, cap, (writeL cur (j * k.n) ds).toArray, by rw [hl]; exact hv, h5, hw, by omega, h6, ?_, ?_⟩⟩
      · rw [List.size_toArray, writeL_length (by omega), h3]
      · rw [hl]; exact ht
    · exact hrow.mono fun b hb' hf => ⟨hf, hc.blk b hb' fun hx => hf.2 (h.mine b hx)⟩
theorem SlO.take {m : Nat} (h : SlO k T F B S w xs v) (j : Nat) (hj : j ≤ xs.length) : ∃ v', (∀ b, inBlk v' b ↔ inBlk v b) ∧ SlO k T F B S w (xs.take j) v' ∧ ((v = .slice none 0 0 ∧ v' = .slice none 0 0) ∨ ∃ g cap, v = .slice (some ⟨g, 0, none⟩) xs.length cap ∧ xs.length ≤ cap ∧ v' = .slice (some ⟨g, 0, none⟩) j cap) := by
  rcases h.blk with ⟨rfl, rfl⟩ | ⟨g, cap, cur, h1, h2, h3, h4, h5, h6, h7⟩
  · exact ⟨.slice none 0 0, fun _ => Iff.rfl, by simpa using h, .inl ⟨rfl, rfl⟩⟩
  · refine ⟨.slice (some ⟨g, 0, none⟩) j cap, fun b => by rw [h1]; rfl, ?_, .inr ⟨g, cap, h1, h4, rfl⟩⟩
    have h8 := h7.take j hj
    have hl : (xs.take j).length = j := by simp; omega
    have hm : j * k.n ≤ xs.length * k.n := Nat.mul_le_mul_right _ hj
    rw [List.take_take, Nat.min_eq_left hm] at h8
    refine ⟨⟨cur.take (j * k.n), ⟨h8.len, .inr ⟨g, cap, cur.toArray, by rw [hl], h5, h2, by omega, h6, by simpa using h3, by rw [hl]⟩⟩, h8⟩, by have := h.big; omega, fun b hb => h.mine b (by rw [h1]; exact hb)⟩
theorem slRep.cut (hn : 0 < k.n) (h : slRep k R w xs v) (l hh : Nat) (h1 : l ≤ hh) (h2 : hh ≤ xs.length) : ∀ a cap, v = .slice a xs.length cap → slRep k R w ((xs.drop l).take (hh - l)) (sliced a l hh cap k.n) := by
  intro a cap hv
  rcases h with ⟨rfl, rfl⟩ | ⟨b, off, cap', h⟩
  · simp only [List.length_nil, Nat.le_zero_eq] at h2
    subst h2
    obtain rfl : l = 0 := by omega
    simp only [Value.slice.injEq] at hv
    obtain ⟨rfl, _, rfl⟩ := hv
    exact .inl ⟨rfl, rfl⟩
  · obtain ⟨s, this, hs0⟩ := h.hv
    rw [hv] at this
    simp only [Value.slice.injEq, true_and] at this
    obtain ⟨rfl, rfl⟩ := this
    have hl : ((xs.drop l).take (hh - l)).length = hh - l := by simp; omega
    have hcap := h.cap
    by_cases hc : cap = l
    · have e : (xs.drop l).take (hh - l) = [] := List.eq_nil_of_length_eq_zero (by omega)
      have e2 : hh - l = 0 := by omega
      have e3 : cap - l = 0 := by omega
      refine .inr ⟨b, off, 0, ?_, by rw [hl]; omega, by rw [hl]; omega, fun i x hx => ?_⟩
      · exact ⟨s, by rw [sliced, if_pos hc, hl, e3], fun h => absurd e h⟩
      · rw [e] at hx; simp at hx
    · refine .inr ⟨b, off + l * k.n, cap - l, ?_, by rw [hl]; omega, by rw [hl]; have := h.big; omega, fun i x hx => ?_⟩
      · by_cases h0 : l * k.n = 0
        · refine ⟨s, by rw [sliced, if_neg hc, hl]; simp [Addr.add, h0], fun h => hs0 fun e => h (by rw [e]; simp)⟩
        · exact ⟨none, by rw [sliced, if_neg hc, hl]; simp [Addr.add, h0], fun _ => rfl⟩
      · rw [List.getElem?_take] at hx
        split at hx
        · rw [List.getElem?_drop] at hx
          obtain ⟨hf, c, hr, hs⟩ := h.el _ x hx
          refine ⟨hf, c, hr, ?_⟩
          rw [Nat.add_assoc, ← Nat.add_mul]; exact hs
        · cases hx
def Suf (m n l : Nat) (v v' : Value) : Prop := (v = .slice none 0 0 ∧ v' = .slice none 0 0 ∧ n - l = 0) ∨ ∃ g cap, v = .slice (some ⟨g, 0, none⟩) n cap ∧ v' = .slice (some ⟨g, if cap = l then 0 else l * m, none⟩) (n - l) (cap - l)
end
section
variable {P : Program} {n : Nat} {ops : Array Oper} {rest : List Oper} {K : Env → World → Prop} {E : Env} {w : World}
variable {d : Nat} {ty : TypeId} {pos : String} {af : Array Edge}
variable {α : Type} {k : Kd α} {T : TypeId} {F R : Nat → Prop} {B : Nat} {S : Nat → Prop} {xs : List α} {v : Value}
theorem elem_of {t el : TypeId} (ht : P.underlying t = some (.slice el)) : P.underlying t = some (.slice (P.elem t)) ∧ P.elem t = el := by
  have : P.elem t = el := by simp [Program.elem, ht]
  exact ⟨by rw [this]; exact ht, this⟩
theorem run_cut {t el : TypeId} {a : Option Addr} {len cap m : Nat} (lo hi : Option Int) (kl kh : IntKind) (ht : P.underlying t = some (.slice el)) (hz : ∀ w, (sizeOf el).run P w = .ok m w) (h0 : 0 ≤ lo.getD 0) (h1 : lo.getD 0 ≤ hi.getD len) (h2 : hi.getD len ≤ len) (hc : len ≤ cap) :
    (Instr.sliceAt t (.slice a len cap) (lo.map (.int kl)) (hi.map (.int kh)) none).run P w = .ok (sliced a (lo.getD 0).toNat (hi.getD len).toNat cap m) w := by
  obtain ⟨ht', he⟩ := elem_of ht
  rw [run_sliceAt_slice (P := P) w t _ _ _ _ ht']
  cases lo with
  | none =>
    cases hi with
    | none => simp only [Option.map_none, Option.getD_none] at *; rw [run_slice_all (P := P) w t a len cap ht', he, hz]; simp [Result.andThen]
    | some h => simp only [Option.map_none, Option.map_some, Option.getD_none, Option.getD_some] at *; rw [run_slice_h (P := P) w t a len cap ht' kh h h1 (by omega), he, hz]; simp [Result.andThen]
  | some l =>
    cases hi with
    | none => simp only [Option.map_none, Option.map_some, Option.getD_none, Option.getD_some] at *; rw [run_slice_l (P := P) w t a len cap ht' kl l h0 h1, he, hz]; simp [Result.andThen]
    | some h => simp only [Option.map_some, Option.getD_some] at *; rw [run_slice_lh (P := P) w t a len cap ht' kl kh l h h0 h1 (by omega), he, hz]; simp [Result.andThen]
def evI (E : Env) (k : IntKind) : Option Operand → Option Int → Prop
  | none, none => True
  | some x, some i => ev E x = some (.int k i)
  | _, _ => False
theorem evI.map {E : Env} {k : IntKind} {o : Option Operand} {i : Option Int} {a : Act} {n : Nat} (h : evI E k o i) (ha : Ok n E a) : o.map a.eval = i.map (.int k) := by
  cases o <;> cases i <;> simp only [evI] at h <;> first | rfl | exact h.elim | (simp [ha.eval h])
theorem rl_cutR {t el : TypeId} {X : Operand} {lo hi : Option Operand} {kl kh : IntKind} (li ri : Option Int) {ys : List α} (hx : ev E X = some v) (h : slRep k R w xs v) (hn0 : 0 < k.n) (hl : evI E kl lo li) (hr : evI E kh hi ri)
    (hs : slO xs (li.getD 0) (ri.getD xs.length) = some ys) (ht : P.underlying t = some (.slice el)) (hz : ∀ w, (sizeOf el).run P w = .ok k.n w) (hn : Nat.blt d n = true)
    (hK : ∀ v', slRep k R w ys v' → RL P n ops rest K ((d, v') :: E) w) : RL P n ops (⟨some d, .slice t X lo hi none, ty, pos, af, none⟩ :: rest) K E w := by
  obtain ⟨h0, h1, h2, rfl⟩ := slO_get hs
  obtain ⟨a, cap, hv⟩ := h.shape
  have hcap : xs.length ≤ cap := by
    rcases h with ⟨rfl, rfl⟩ | ⟨b, off, cap', h⟩
    · simp
    · obtain ⟨s, this, _⟩ := h.hv; rw [hv] at this; simp only [Value.slice.injEq, true_and] at this; rw [this.2]; exact h.cap
  have hq := h.cut hn0 (li.getD 0).toNat (ri.getD xs.length).toNat (by omega) (by omega) a cap hv
  rw [show ((ri.getD xs.length) - li.getD 0).toNat = (ri.getD xs.length).toNat - (li.getD 0).toNat by omega] at hK
  refine RL.op rfl rfl hn (fun ac ha => ?_) (hK _ hq)
  have hr' := run_cut (P := P) (w := w) (a := a) (len := xs.length) (cap := cap) li ri kl kh ht hz h0 h1 h2 hcap
  simp only [execOp, ha.eval hx, hl.map ha, hr.map ha, Option.map_none, hv]
  show ((do let u ← Instr.sliceAt t _ _ _ none; Pure.pure (Next.value u)) : Sem Next).run P w = _
  rw [Sem.run_bind, hr']; rfl
theorem rl_cutO {t el : TypeId} {X : Operand} {lo hi : Option Operand} {kl kh : IntKind} (li ri : Option Int) {ys : List α} (hx : ev E X = some v) (h : SlO k T F B S w xs v) (hl : evI E kl lo li) (hr : evI E kh hi ri) (hl0 : li.getD 0 = 0)
    (hs : slO xs (li.getD 0) (ri.getD xs.length) = some ys) (ht : P.underlying t = some (.slice el)) (hz : ∀ w, (sizeOf el).run P w = .ok k.n w) (hn : Nat.blt d n = true)
    (hK : ∀ v', (∀ b, inBlk v' b ↔ inBlk v b) → SlO k T F B S w ys v' → RL P n ops rest K ((d, v') :: E) w) : RL P n ops (⟨some d, .slice t X lo hi none, ty, pos, af, none⟩ :: rest) K E w := by
  obtain ⟨h0, h1, h2, rfl⟩ := slO_get hs
  rw [hl0] at h0 h1 hK
  obtain ⟨v', hb, ho, hv⟩ := h.take (m := k.n) (ri.getD xs.length).toNat (by omega)
  have e : (xs.drop (0 : Int).toNat).take (ri.getD xs.length - 0).toNat = xs.take (ri.getD xs.length).toNat := by simp
  rw [e] at hK
  refine RL.op rfl rfl hn (fun ac ha => ?_) (hK v' hb ho)
  simp only [execOp, ha.eval hx, hl.map ha, hr.map ha, Option.map_none]
  show ((do let u ← Instr.sliceAt t _ _ _ none; Pure.pure (Next.value u)) : Sem Next).run P w = _
  rcases hv with ⟨rfl, rfl⟩ | ⟨g, cap, rfl, hcap, rfl⟩
  · have hx0 : xs = [] := by
      rcases h.blk with ⟨_, h⟩ | ⟨g, cap, cur, h, _⟩
      · exact h
      · cases h
    subst hx0
    have hr' := run_cut (P := P) (w := w) (a := none) (len := 0) (cap := 0) li ri kl kh ht hz (by omega) (by rw [hl0]; simpa using h1) (by simpa using h2) (Nat.le_refl _)
    rw [Sem.run_bind, hr', hl0]
    have : (ri.getD ((0 : Nat) : Int)).toNat = 0 := by simp at h1 h2 ⊢; omega
    rw [this]; rfl
  · have hr' := run_cut (P := P) (w := w) (a := some ⟨g, 0, none⟩) (len := xs.length) (cap := cap) li ri kl kh ht hz (by omega) (by rw [hl0]; exact h1) h2 hcap
    rw [Sem.run_bind, hr', hl0]
    have e2 : sliced (some ⟨g, 0, none⟩) (0 : Int).toNat (ri.getD xs.length).toNat cap k.n = .slice (some ⟨g, 0, none⟩) (ri.getD xs.length).toNat cap := by
      unfold sliced
      split <;> simp [Addr_add]
    rw [e2]; rfl
theorem rl_ixO {t el : TypeId} {X I : Operand} {kk : IntKind} {i : Int} {y : α} (hx : ev E X = some v) (h : SlO k T F B S w xs v) (hi : ev E I = some (.int kk i)) (hj : 0 ≤ i ∧ i < (xs.length : Int) ∧ xs[i.toNat]? = some y)
    (ht : P.underlying t = some (.slice el)) (hz : ∀ w, (sizeOf el).run P w = .ok k.n w) (hn : Nat.blt d n = true)
    (hK : ∀ g, inBlk v g → RL P n ops rest K ((d, .pointer (some ⟨g, i.toNat * k.n, none⟩)) :: E) w) : RL P n ops (⟨some d, .indexAddr t X I, ty, pos, af, none⟩ :: rest) K E w := by
  rcases h.blk with ⟨rfl, rfl⟩ | ⟨g, cap, cur, rfl, _⟩
  · simp at hj
  · have hi' : ev E I = some (.int kk (i.toNat : Int)) := by rw [hi, Int.toNat_of_nonneg hj.1]
    refine rl_ixSl i.toNat hx hi' (by omega) ht hz hn ?_
    rw [Nat.zero_add]
    exact hK g rfl
theorem rl_ixOR {t el : TypeId} {X I : Operand} {kk : IntKind} {i : Int} {y : α} (hx : ev E X = some v) (h : SlO k T F B S w xs v) (hi : ev E I = some (.int kk i)) (hj : 0 ≤ i ∧ i < (xs.length : Int) ∧ xs[i.toNat]? = some y) (hn0 : 0 < k.n)
    (ht : P.underlying t = some (.slice el)) (hz : ∀ w, (sizeOf el).run P w = .ok k.n w) (hn : Nat.blt d n = true)
    (hK : ∀ b o cs, k.rep (G F B S) w y cs → Seg w b o cs → inBlk v b → RL P n ops rest K ((d, .pointer (some ⟨b, o, none⟩)) :: E) w) : RL P n ops (⟨some d, .indexAddr t X I, ty, pos, af, none⟩ :: rest) K E w := by
  rcases h.blk with ⟨rfl, rfl⟩ | ⟨g, cap, cur, rfl, hb, hl, hcap, _, _, hrow⟩
  · simp at hj
  · have hi' : ev E I = some (.int kk (i.toNat : Int)) := by rw [hi, Int.toNat_of_nonneg hj.1]
    refine rl_ixSl i.toNat hx hi' (by omega) ht hz hn ?_
    obtain ⟨c, hc, hq⟩ := hrow.el i.toNat y hj.2.2
    refine hK g _ c hc (fun p u hp => ?_) rfl
    have h1 := hq p u hp
    rw [List.getElem?_take] at h1
    split at h1
    · rw [Nat.zero_add]; exact hb.cell h1
    · cases h1
theorem Suf.len {N l : Nat} {u : Value} (hs : Suf k.n N l v u) (h : SlO k T F B S w xs v) : v = .slice none 0 0 ∧ xs = [] ∨ N = xs.length := by
  rcases h.blk with ⟨h1, h2⟩ | ⟨g, cap, cur, h1, _⟩
  · exact .inl ⟨h1, h2⟩
  · rcases hs with ⟨h2, _⟩ | ⟨g', cap', h2, _⟩
    · rw [h1] at h2; cases h2
    · rw [h1] at h2; simp only [Value.slice.injEq] at h2; exact .inr h2.2.1.symm
theorem setAt {α : Type} {xs : List α} {j : Nat} {x : α} (hj : j < xs.length) : xs.take j ++ ([x] ++ xs.drop (j + [x].length)) = xs.set j x := by
  rw [List.set_eq_take_append_cons_drop, if_pos hj]; rfl
theorem rl_storeOA {t : TypeId} {X Y : Operand} {g i : Nat} {vs : List Value} {x : α} (hx : ev E X = some (.pointer (some ⟨g, i * k.n, none⟩))) (hy : ev E Y = some (.agg vs.toArray))
    (hz : ∀ w, (sizeOf t).run P w = .ok k.n w) (h : SlO k T F B S w xs v) (hg : inBlk v g) (hi : i < xs.length) (hr : k.rep (G F B S) w x vs)
    (hK : ∀ w', Ch (inBlk v) w w' → SlO k T F B S w' (xs.set i x) v → RL P n ops rest K E w') : RL P n ops (⟨none, .store t X Y, ty, pos, af, none⟩ :: rest) K E w := by
  have hlen := k.len hr
  rcases h.blk with ⟨rfl, rfl⟩ | ⟨g', cap, cur, hv, hb, hl, hcap, _⟩
  · exact hg.elim
  · obtain rfl : g' = g := by rw [hv] at hg; exact hg
    have hm : (i + 1) * k.n ≤ cap * k.n := Nat.mul_le_mul_right _ (by omega)
    rw [Nat.add_mul] at hm
    refine rl_storeA hx hy (k.one hr) hz hlen hb (Nat.ble_eq_true_of_le (by rw [hlen, hl]; omega)) fun w' hs hch hbl => ?_
    have hch' : Ch (inBlk v) w w' := hch.mono fun b _ hb => by rw [hv]; exact hb
    refine hK w' hch' ?_
    have := h.write (ys := [x]) (ds := vs) hv hb hch' (Row.cons1 hr) i (by simp only [List.length_singleton]; omega) hbl
    rwa [setAt hi] at this
end
theorem ixO_lt {α : Type} {xs : List α} {i : Int} {y : α} (h : ixO xs i = some y) : i.toNat < xs.length := by
  have := ixO_get h; omega
section
variable {P : Program} {n : Nat} {ops : Array Oper} {rest : List Oper} {K : Env → World → Prop} {E : Env} {w : World} {ty : TypeId} {pos : String} {af : Array Edge}
end
theorem admGh {O O' D S : Nat → Prop} {n : Nat} (hD : ∀ b, D b → O b) (hO' : ∀ b, O' b → O b ∨ n ≤ b) : ∀ b, b < n → ¬ un O S b → ¬ D b ∧ ¬ un O' S b :=
  fun b hb hs => ⟨fun hd => hs (.inl (hD b hd)), fun h => h.elim (fun h => (hO' b h).elim (fun h => hs (.inl h)) fun h => absurd h (Nat.not_le_of_lt hb)) fun h => hs (.inr h)⟩
theorem Seg.lt {w : World} {b o j : Nat} {cs : List Value} {v : Value} (h : Seg w b o cs) (hj : cs[j]? = some v) : b < w.heap.size := lt_of_cell (h j v hj)
def fillC (place : Nat → Option (Nat × Nat)) (cells : List Value) : List (Nat × List Value) → Option (List Value)
  | [] => some cells
  | (i, c) :: rest =>
    match place i with
    | none => none
    | some (off, size) => cond (Nat.beq c.length size && Nat.ble (off + c.length) cells.length) (fillC place (writeL cells off c) rest) none
def CellsOf : List (Nat × Value) → List (Nat × List Value) → Prop
  | [], [] => True
  | (i, v) :: r, (j, c) :: s => (i = j ∧ v.cells.toList = c) ∧ CellsOf r s
  | _, _ => False
theorem co_nil : CellsOf [] [] := trivial
theorem co_cons {i : Nat} {v : Value} {c : List Value} {r : List (Nat × Value)} {s : List (Nat × List Value)} (h : v.cells.toList = c) (k : CellsOf r s) : CellsOf ((i, v) :: r) ((i, c) :: s) := ⟨⟨rfl, h⟩, k⟩
theorem one_toL {v : Value} (h : v.cells = #[v]) : v.cells.toList = [v] := congrArg Array.toList h
theorem fillC_eq (place : Nat → Option (Nat × Nat)) : ∀ (vs : List (Nat × Value)) (cs : List (Nat × List Value)) (cells : List Value), CellsOf vs cs → fillL place cells vs = fillC place cells cs
  | [], [], _, _ => rfl
  | (i, v) :: r, (j, c) :: s, cells, h => by
    obtain ⟨⟨rfl, rfl⟩, h2⟩ := h
    simp only [fillL, fillC]
    cases place i with
    | none => rfl
    | some p => simp only [fillC_eq place r s _ h2]
  | [], _ :: _, _, h => h.elim
  | _ :: _, [], _, h => h.elim
section
variable {P : Program} {n : Nat} {ops : Array Oper} {rest : List Oper} {K : Env → World → Prop} {E : Env} {w : World} {d : Nat} {ty : TypeId} {pos : String} {af : Array Edge}
theorem rl_buildC {t : TypeId} {pl : List (Nat × Nat)} {z : Value} {zs out : List Value} {parts : Array (Nat × Operand)} {vs : List (Nat × Value)} (cs : List (Nat × List Value)) (hv : evP E parts.toList = some vs) (hc : CellsOf vs cs) (hp : Places P t pl)
    (hz : ∀ w, (zeroValue t).run P w = .ok z w) (hzs : z.cells.toList = zs) (hf : fillC (pl[·]?) zs cs = some out) (hn : Nat.blt d n = true) (h : RL P n ops rest K ((d, .agg out.toArray) :: E) w) :
    RL P n ops (⟨some d, .build t parts, ty, pos, af, none⟩ :: rest) K E w :=
  rl_build hv hp hz hzs ((fillC_eq _ vs cs zs hc).trans hf) hn h
end
end Go.Proofs.YtkfhcfkbaaekoaaDoor.K
