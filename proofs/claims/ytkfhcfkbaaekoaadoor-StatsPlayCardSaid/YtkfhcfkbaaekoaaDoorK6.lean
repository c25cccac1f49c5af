/- Rules: append, literals of slices and structs, stores into blocks of one's own. General: no program is named. -/
import Derived.Test.YtkfhcfkbaaekoaaDoorK5
namespace Go.Proofs.YtkfhcfkbaaekoaaDoor.K
open Go
set_option linter.unusedVariables false
section
variable {P : Program} {n : Nat} {ops : Array Oper} {rest : List Oper} {K : Env → World → Prop} {E : Env} {w : World}
variable {d : Nat} {ty : TypeId} {pos : String} {af : Array Edge}
theorem AppT.of {t e m by' : Nat} {z : Value} (h : P.underlying t = some (.slice e)) (hi : (P.info? e).map (fun i => (i.zero, i.size, i.bytes)) = some (some z, m, by')) (hb : Nat.ble by' 32768 = true) (hz : z.cells.size = m) : AppT P t e m := by
  cases hq : P.info? e with
  | none => rw [hq] at hi; cases hi
  | some i =>
    rw [hq] at hi
    simp only [Option.map_some, Option.some.injEq, Prod.mk.injEq] at hi
    obtain ⟨h1, h2, h3⟩ := hi
    exact ⟨h, i, z, hq, h1, h2, by rw [h3]; exact hb, hz⟩
theorem rl_append {α : Type} {k : Kd α} {T : TypeId} {F : Nat → Prop} {B : Nat} {S S2 : Nat → Prop} {xs ys : List α} {v u : Value} {t : TypeId} {x y : Operand} (S' : Value → Nat → Prop)
    (hx : ev E x = some v) (hy' : ev E y = some u) (hn0 : 0 < k.n) (hT : AppT P t T k.n) (h : SlO k T F B S w xs v) (hy : slRep k (G F B S) w ys u)
    (hS : ∀ b, S b ↔ un (inBlk v) S2 b) (hS' : ∀ v' b, S' v' b ↔ un (inBlk v') S2 b)
    (hl : xs.length + ys.length < 4294967296) (hB : B ≤ w.heap.size) (hd : ∀ b, S b → b < w.heap.size) (hn : Nat.blt d n = true)
    (hK : ∀ v' w', SlO k T F B (S' v') w' (xs ++ ys) v' → Ch (inBlk v) w w' → (∀ b, inBlk v' b → inBlk v b ∨ w.heap.size ≤ b) → (∀ b, b < w.heap.size → ¬ S b → ¬ inBlk v b ∧ ¬ S' v' b) →
      RL P n ops rest K ((d, v') :: E) w') : RL P n ops (⟨some d, .call ⟨.builtin .append, #[x, y], #[t, t]⟩, ty, pos, af, none⟩ :: rest) K E w := by
  obtain rfl : S = un (inBlk v) S2 := funext fun b => propext (hS b)
  obtain rfl : S' = fun v' => un (inBlk v') S2 := funext fun v' => funext fun b => propext (hS' v' b)
  obtain ⟨v', w', hr, h1, h2, h3⟩ := h.append (ty := ty) hn0 hT hy hl hB (fun b hb => hd b (.inr hb))
  exact RL.op rfl rfl hn (fun a ha => by simp [execOp, resolve, invoke, builtin, ha.eval hx, ha.eval hy', hr])
    (hK v' w' h1 h2 h3 fun b hb hs => ⟨fun x => hs (.inl x), fun hs' => hs'.elim (fun x => (h3 b x).elim (fun x => hs (.inl x)) (fun x => by omega)) fun x => hs (.inr x)⟩)
def writeL (cells : List Value) (off : Nat) (vs : List Value) : List Value := cells.take off ++ (vs ++ cells.drop (off + vs.length))
theorem writeL_length {cells vs : List Value} {off : Nat} (h : off + vs.length ≤ cells.length) : (writeL cells off vs).length = cells.length := by
  simp [writeL]; omega
theorem foldl_write (off : Nat) : ∀ (vs : List Value) (i : Nat) (cells : List Value), off + i + vs.length ≤ cells.length →
    (vs.zipIdx i).foldl (fun (cs : Array Value) (p : Value × Nat) => cs.setIfInBounds (off + p.2) p.1) cells.toArray = (writeL cells (off + i) vs).toArray
  | [], i, cells, h => by simp [writeL]
  | v :: vs, i, cells, h => by
    simp only [List.length_cons] at h
    rw [List.zipIdx_cons, List.foldl_cons]
    have e : (cells.toArray.setIfInBounds (off + i) v) = (cells.set (off + i) v).toArray := by simp
    rw [e, foldl_write off vs (i + 1) _ (by simp; omega)]
    congr 1
    unfold writeL
    have h1 : off + i < cells.length := by omega
    rw [← Nat.add_assoc, List.take_succ_eq_append_getElem (by simpa using h1)]
    simp only [List.getElem_set_self, List.append_assoc, List.cons_append, List.nil_append, List.length_cons]
    rw [List.take_set_of_le (Nat.le_refl _), List.drop_set_of_lt (by omega)]
    congr 4; omega
def fillL (place : Nat → Option (Nat × Nat)) (cells : List Value) : List (Nat × Value) → Option (List Value)
  | [] => some cells
  | (i, v) :: rest =>
    match place i with
    | none => none
    | some (off, size) => cond (Nat.beq v.cells.toList.length size && Nat.ble (off + v.cells.toList.length) cells.length) (fillL place (writeL cells off v.cells.toList) rest) none
theorem fill_eq (place : Nat → Option (Nat × Nat)) : ∀ (parts : List (Nat × Value)) (cells out : List Value), fillL place cells parts = some out → Instr.fill place cells.toArray parts = some out.toArray
  | [], cells, out, h => by simp only [fillL, Option.some.injEq] at h; rw [← h]; rfl
  | (i, v) :: rest, cells, out, h => by
    simp only [fillL] at h
    simp only [Instr.fill]
    cases hp : place i with
    | none => rw [hp] at h; cases h
    | some p =>
      obtain ⟨off, size⟩ := p
      rw [hp] at h
      simp only at h
      cases hc : (Nat.beq v.cells.toList.length size && Nat.ble (off + v.cells.toList.length) cells.length) with
      | false => rw [hc] at h; cases h
      | true =>
        rw [hc] at h
        rw [Bool.and_eq_true] at hc
        have h1 := Nat.eq_of_beq_eq_true hc.1
        have h2 := Nat.le_of_ble_eq_true hc.2
        have h3 : ¬ ((v.cells.size ≠ size || decide (off + v.cells.size > cells.toArray.size)) = true) := by
          simp at h1 h2 ⊢
          omega
        simp only
        rw [if_neg h3]
        have := foldl_write off v.cells.toList 0 cells (by omega)
        rw [Nat.add_zero] at this
        have e : v.cells.zipIdx.foldl (fun (cs : Array Value) (p : Value × Nat) => cs.setIfInBounds (off + p.2) p.1) cells.toArray = (writeL cells off v.cells.toList).toArray := by
          rw [← this, ← Array.foldl_toList, Array.toList_zipIdx]
        rw [show (fun (cs : Array Value) (x : Value × Nat) => match x with | (c, j) => cs.setIfInBounds (off + j) c) = (fun (cs : Array Value) (p : Value × Nat) => cs.setIfInBounds (off + p.2) p.1) from rfl, e]
        exact fill_eq place rest _ out h
def Places (P : Program) (t : TypeId) (pl : List (Nat × Nat)) : Prop := ∃ fs, P.underlying t = some (.struct fs) ∧ ∀ w, (fs.mapM (m := Sem) fun (f : Field) => do pure (f.offset, ← sizeOf f.type)).run P w = .ok pl.toArray w
theorem run_build {t : TypeId} {pl : List (Nat × Nat)} {z : Value} {zs parts' out : List Value} {parts : List (Nat × Value)} (hp : Places P t pl) (hz : ∀ w, (zeroValue t).run P w = .ok z w) (hzs : z.cells.toList = zs)
    (hf : fillL (pl[·]?) zs parts = some out) : (Instr.build t parts.toArray).run P w = .ok (.agg out.toArray) w := by
  obtain ⟨fs, hu, hpl⟩ := hp
  have h1 := fill_eq _ parts zs out hf
  have e : z.cells = zs.toArray := by rw [← hzs]
  have e2 : (fun i : Nat => pl.toArray[i]?) = (fun i : Nat => pl[i]?) := by funext i; simp
  simp only [Instr.build, Sem.run_bind, hz, Result.andThen_ok, run_underlying hu, hpl, e, e2, h1]
  rfl
def evP (E : Env) : List (Nat × Operand) → Option (List (Nat × Value))
  | [] => some []
  | (i, x) :: r => match ev E x, evP E r with | some v, some vs => some ((i, v) :: vs) | _, _ => none
theorem Ok.evalP {a : Act} (ha : Ok n E a) : ∀ (l : List (Nat × Operand)) (vs : List (Nat × Value)), evP E l = some vs → l.map (fun p => (p.1, a.eval p.2)) = vs
  | [], vs, h => by cases h; rfl
  | (i, x) :: r, vs, h => by
    simp only [evP] at h
    cases hx : ev E x with
    | none => rw [hx] at h; cases h
    | some v =>
      cases hr : evP E r with
      | none => rw [hx, hr] at h; cases h
      | some us =>
        rw [hx, hr] at h; cases h
        simp [ha.eval hx, ha.evalP r us hr]
theorem rl_build {t : TypeId} {pl : List (Nat × Nat)} {z : Value} {zs out : List Value} {parts : Array (Nat × Operand)} {vs : List (Nat × Value)} (hv : evP E parts.toList = some vs) (hp : Places P t pl)
    (hz : ∀ w, (zeroValue t).run P w = .ok z w) (hzs : z.cells.toList = zs) (hf : fillL (pl[·]?) zs vs = some out) (hn : Nat.blt d n = true) (h : RL P n ops rest K ((d, .agg out.toArray) :: E) w) :
    RL P n ops (⟨some d, .build t parts, ty, pos, af, none⟩ :: rest) K E w :=
  RL.op rfl rfl hn (fun a ha => by
    have e : (parts.map fun (i, x) => (i, a.eval x)) = vs.toArray := by rw [← ha.evalP _ _ hv, ← Array.toList_map]
    have := run_build (w := w) (parts' := []) hp hz hzs hf
    simp only [execOp]
    rw [Sem.run_bind]
    rw [show (parts.map fun (x : Nat × Operand) => match x with | (i, x) => (i, a.eval x)) = vs.toArray from e, this]; rfl) h
def Parts {α : Type} (k : Kd α) (R : Nat → Prop) (w : World) : Nat → List α → List (Nat × Value) → Prop
  | _, [], [] => True
  | i, x :: xs, (j, v) :: vs => j = i ∧ k.rep R w x v.cells.toList ∧ Parts k R w (i + 1) xs vs
  | _, _, _ => False
theorem Parts.fill {α : Type} {k : Kd α} {R : Nat → Prop} : ∀ (xs : List α) (vs : List (Nat × Value)) (i : Nat) (done z : List Value), Parts k R w i xs vs → done.length = i * k.n → z.length = xs.length * k.n →
    ∃ cs, fillL (fun i => some (i * k.n, k.n)) (done ++ z) vs = some (done ++ cs) ∧ Row k R w xs cs
  | [], [], i, done, z, _, _, hz => by
    obtain rfl : z = [] := List.eq_nil_of_length_eq_zero (by simpa using hz)
    exact ⟨[], rfl, Row.nil⟩
  | [], _ :: _, _, _, _, h, _, _ => h.elim
  | _ :: _, [], _, _, _, h, _, _ => h.elim
  | x :: xs, (j, v) :: vs, i, done, z, h, hd, hz => by
    obtain ⟨rfl, hr, hp⟩ := h
    have hl := k.len hr
    rw [List.length_cons, Nat.add_mul, Nat.one_mul] at hz
    obtain ⟨cs, h1, h2⟩ := Parts.fill xs vs (j + 1) (done ++ v.cells.toList) (z.drop k.n) hp (by rw [List.length_append, hd, hl, Nat.add_mul, Nat.one_mul]) (by rw [List.length_drop]; omega)
    refine ⟨v.cells.toList ++ cs, ?_, (Row.cons1 hr).append h2⟩
    have hw : writeL (done ++ z) (j * k.n) v.cells.toList = done ++ v.cells.toList ++ z.drop k.n := by
      unfold writeL
      rw [← hd, List.take_left, hl, List.drop_append]
      simp
    have hb : Nat.ble (j * k.n + v.cells.toList.length) (done ++ z).length = true := by
      rw [Nat.ble_eq]; rw [List.length_append, hd, hl]; omega
    have hq : Nat.beq v.cells.toList.length k.n = true := by rw [hl]; simp
    simp only [fillL, hb, hq, Bool.and_self, cond_true, hw]
    rw [h1, List.append_assoc]
theorem run_buildSlice {α : Type} {k : Kd α} {R : Nat → Prop} {t T len : Nat} {z : Value} {xs : List α} {vs : List (Nat × Value)} (hn : 0 < k.n) (ht : P.underlying t = some (.slice T)) (hz : ∀ w, (sizeOf T).run P w = .ok k.n w)
    (hzz : ∀ w, (zeroValue T).run P w = .ok z w) (hlen : xs.length = len) (hbig : Nat.ble (len * k.n) 16777216 = true) (hp : Parts k R w 0 xs vs) :
    ∃ cs, (Instr.buildSlice t len vs.toArray).run P w = .ok (.slice (some ⟨w.heap.size, 0, none⟩) len len) (w.alloc (.cells cs.toArray T)) ∧ Row k R w xs cs := by
  have hb := Nat.le_of_ble_eq_true hbig
  have hb' : ¬ len * k.n > 2 ^ 24 := by omega
  by_cases h0 : len * k.n = 0
  · have : xs = [] := by
      have : len = 0 := by rcases Nat.mul_eq_zero.1 h0 with h | h <;> omega
      exact List.eq_nil_of_length_eq_zero (by omega)
    subst this
    cases vs with
    | cons _ _ => exact hp.elim
    | nil =>
      refine ⟨[], ?_, Row.nil⟩
      simp [Instr.buildSlice, run_underlying ht, hz, h0, Instr.fill, newRow]
      congr 2
      apply Array.eq_empty_of_size_eq_zero; simp
  · obtain ⟨cs, h1, h2⟩ := Parts.fill xs vs 0 [] ((Array.range (len * k.n)).map (z.cells[· % z.cells.size]!)).toList hp (by simp) (by simp [hlen])
    refine ⟨cs, ?_, h2⟩
    have h3 := fill_eq _ vs _ _ h1
    simp only [List.nil_append, Array.toArray_toList] at h3
    simp only [Instr.buildSlice, Sem.run_bind, run_underlying ht, Result.andThen_ok, hz, hb', if_false, h0, hzz, Sem.run_pure, h3, newRow, run_newObj]
    rfl
theorem rl_bslice {α : Type} {k : Kd α} {F S : Nat → Prop} {B : Nat} {t T len : Nat} {z : Value} {parts : Array (Nat × Operand)} {vs : List (Nat × Value)} (xs : List α) (hv : evP E parts.toList = some vs) (hn0 : 0 < k.n)
    (ht : P.underlying t = some (.slice T)) (hz : ∀ w, (sizeOf T).run P w = .ok k.n w) (hzz : ∀ w, (zeroValue T).run P w = .ok z w) (hlen : xs.length = len) (hbig : Nat.ble (len * k.n) 16777216 = true)
    (hp : Parts k (G F B S) w 0 xs vs) (hB : B ≤ w.heap.size) (hd : ∀ b, S b → b < w.heap.size) (hn : Nat.blt d n = true)
    (hK : ∀ v w', Ch nb w w' → (∀ b, inBlk v b → w.heap.size ≤ b) → SlO k T F B (un (inBlk v) S) w' xs v → RL P n ops rest K ((d, v) :: E) w') :
    RL P n ops (⟨some d, .buildSlice t len parts, ty, pos, af, none⟩ :: rest) K E w := by
  obtain ⟨cs, h1, h2⟩ := run_buildSlice hn0 ht hz hzz hlen hbig hp
  have hb := Nat.le_of_ble_eq_true hbig
  refine RL.op rfl rfl hn (fun a ha => ?_) (hK (.slice (some ⟨w.heap.size, 0, none⟩) len len) (w.alloc (.cells cs.toArray T)) Ch.alloc (fun b hb => by simp only [inBlk] at hb; omega) ⟨⟨cs, ⟨?_, .inr ⟨w.heap.size, len, cs.toArray, by rw [hlen], hB, Go.heap_alloc_new _ _, by omega, ?_, ?_, ?_⟩⟩, ?_⟩, ?_, fun b hb => .inl hb⟩)
  · have e : (parts.map fun (i, x) => (i, a.eval x)) = vs.toArray := by rw [← ha.evalP _ _ hv, ← Array.toList_map]
    simp only [execOp]
    rw [Sem.run_bind]
    rw [show (parts.map fun (x : Nat × Operand) => match x with | (i, x) => (i, a.eval x)) = vs.toArray from e, h1]; rfl
  · exact h2.len
  · have : len ≤ len * k.n := Nat.le_mul_of_pos_right _ hn0
    simp only [maxLen]; omega
  · simp [h2.len, hlen]
  · rw [List.toList_toArray, ← h2.len, List.take_length]
  · refine h2.mono fun b hb hf => ⟨⟨hf.1, fun hx => ?_⟩, Go.RowKit.Below.heap_alloc _ _ _ hb⟩
    rcases hx with hx | hx
    · simp only [inBlk] at hx; omega
    · exact hf.2 hx
  · have : len ≤ len * k.n := Nat.le_mul_of_pos_right _ hn0
    omega
theorem rl_storeS {t T b o : Nat} {x y : Operand} {u : Value} {cs : List Value} (hx : ev E x = some (.pointer (some ⟨b, o, none⟩))) (hy : ev E y = some u) (hc : u.cells = #[u] ∧ u.oneCell' = true)
    (hz : ∀ w, (sizeOf t).run P w = .ok 1 w) (hb : Blk w b T cs) (ho : Nat.blt o cs.length = true)
    (hK : ∀ w', w'.heap.size = w.heap.size → Ch (inBlk (.pointer (some ⟨b, 0, none⟩))) w w' → Blk w' b T (cs.set o u) → RL P n ops rest K E w') : RL P n ops (⟨none, .store t x y, ty, pos, af, none⟩ :: rest) K E w := by
  have ho' : o < cs.length := by simpa [Nat.blt, Nat.succ_le_iff] using ho
  have hcell : w.cell? ⟨b, o, none⟩ = some cs[o] := hb.cell (by simp [ho'])
  have hfz : w.frozen? ⟨b, o, none⟩ = false := frozen_of_row w b o _ T hb
  obtain ⟨hc, h1⟩ := hc
  refine RL.opSkip (w' := w.setCell ⟨b, o, none⟩ u) rfl rfl (fun a ha => ?_) (hK _ (by simp) (Ch.setCell rfl) ?_)
  · have hs := run_store P w ⟨b, o, none⟩ u .plain h1
    rw [hcell] at hs
    simp only [hfz, Bool.false_eq_true, if_false] at hs
    have e0 : (⟨b, o, none⟩ : Addr).add 0 = ⟨b, o, none⟩ := by rw [Addr_add]; rfl
    simp [execOp, ha.eval hx, ha.eval hy, Instr.storeAt, Instr.sureAddr, storeVar, hc, hz, storeCells, e0, hs]
  · unfold Blk
    rw [heap_setCell_same w b o _ T u hb]; simp
theorem rl_storeA {t T b o m : Nat} {x y : Operand} {cs vs : List Value} (hx : ev E x = some (.pointer (some ⟨b, o, none⟩))) (hy : ev E y = some (.agg vs.toArray)) (h1 : ∀ v, v ∈ vs → v.oneCell' = true)
    (hz : ∀ w, (sizeOf t).run P w = .ok m w) (hm : vs.length = m) (hb : Blk w b T cs) (ho : Nat.ble (o + vs.length) cs.length = true)
    (hK : ∀ w', w'.heap.size = w.heap.size → Ch (inBlk (.pointer (some ⟨b, 0, none⟩))) w w' → Blk w' b T (writeL cs o vs) → RL P n ops rest K E w') : RL P n ops (⟨none, .store t x y, ty, pos, af, none⟩ :: rest) K E w := by
  have ho' := Nat.le_of_ble_eq_true ho
  have hs := run_storeCells_at P b o T vs 0 cs.toArray w hb (by simpa using ho') h1
  simp only [Nat.add_zero] at hs
  refine RL.opSkip (w' := w.setRow b (cs.take o ++ vs ++ cs.drop (o + vs.length)).toArray) rfl rfl (fun a ha => ?_) (hK _ (by simp) ⟨rfl, rfl, rfl, Nat.le_refl _, by simp, fun c _ hd => setRow_other w b c _ (fun e => hd (by simp [inBlk, e]))⟩ ?_)
  · simp [execOp, ha.eval hx, ha.eval hy, Instr.storeAt, Instr.sureAddr, storeVar, Value.cells, hz, hm, hs]
  · unfold Blk writeL
    rw [setRow_heap w b cs.toArray _ T (0, 0) hb]
    simp [List.append_assoc]
end
end Go.Proofs.YtkfhcfkbaaekoaaDoor.K
