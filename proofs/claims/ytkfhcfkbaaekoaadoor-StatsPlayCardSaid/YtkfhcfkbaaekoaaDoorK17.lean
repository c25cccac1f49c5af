/- Ranges over a map, and ranges over a function, in the words of this kit. General: no program is named. -/
import Derived.Test.YtkfhcfkbaaekoaaDoorK15
import Derived.RangeFuncSeq
import Derived.RangeFuncLeaves
import Derived.Laws.IdiomRangeMap
import Derived.TacticsIn
namespace Go.Proofs.YtkfhcfkbaaekoaaDoor.K
open Go
set_option linter.unusedVariables false
def Walk {α β : Type} (ek : α → Value) (ev : β → Value) (w : World) (l todo : List (α × β)) (v : Value) (r : Nat) : Prop :=
  (∃ m es clock since seen c0, v = .map (some m) ∧ w.heap[m]? = some (.map es clock) ∧ w.heap[r]? = some (.mapIter (some m) since seen c0) ∧
    es.toList.map (fun e => (e.key, e.val)) = l.map (fun p => (ek p.1, ev p.2)) ∧ es.toList.Pairwise (fun a b => a.born ≠ b.born) ∧ (∀ e ∈ es.toList, e.born < clock) ∧
    (∀ e ∈ es.toList, e.born < since) ∧ since ≤ clock ∧ since ≤ c0 ∧ ((leftOf es seen).toList.map fun e => (e.key, e.val)).Perm (todo.map fun p => (ek p.1, ev p.2))) ∨
  (v = .map none ∧ l = [] ∧ todo = [] ∧ w.heap[r]? = some (.mapIter none 0 #[] 0))
def MpN {α β : Type} (ek : α → Value) (ev : β → Value) (w : World) (l : List (α × β)) (v : Value) : Prop := (v = .map none ∧ l = []) ∨ Mp ek ev w l v
section
variable {α β : Type} {ek : α → Value} {ev : β → Value} {w w' : World} {l todo : List (α × β)} {v : Value} {r : Nat} {D : Nat → Prop} {P : Program}
theorem Mp.n (h : Mp ek ev w l v) : MpN ek ev w l v := .inr h
theorem MpN.ch0 (h : MpN ek ev w l v) (c : Ch nb w w') : MpN ek ev w' l v := h.imp id fun h => h.ch0 c
theorem MpN.one (h : MpN ek ev w l v) : v.cells = #[v] ∧ v.oneCell' = true := by
  rcases h with ⟨rfl, _⟩ | h
  · exact ⟨rfl, rfl⟩
  · exact h.one
theorem Walk.keep (h : Walk ek ev w l todo v r) (hk : ∀ (b : Nat) (o : Obj), w.heap[b]? = some o → o.isWalk = true → w'.heap[b]? = some o) : Walk ek ev w' l todo v r := by
  rcases h with ⟨m, es, clock, since, seen, c0, h1, h2, h3, h4⟩ | ⟨h1, h2, h3, h4⟩
  · exact .inl ⟨m, es, clock, since, seen, c0, h1, hk _ _ h2 rfl, hk _ _ h3 rfl, h4⟩
  · exact .inr ⟨h1, h2, h3, hk _ _ h4 rfl⟩
theorem Walk.iter (h : Walk ek ev w l todo v r) : ∃ o : Obj, w.heap[r]? = some o ∧ o.isWalk = true := by
  rcases h with ⟨m, es, clock, since, seen, c0, h1, h2, h3, h4⟩ | ⟨h1, h2, h3, h4⟩
  · exact ⟨_, h3, rfl⟩
  · exact ⟨_, h4, rfl⟩
theorem Walk.ch0 (h : Walk ek ev w l todo v r) (c : Ch nb w w') : Walk ek ev w' l todo v r := h.keep fun b o hb _ => (c.blk b (heap_lt hb) (fun x => x)).trans hb
theorem perm_born : ∀ (L : List MapEntry) (e : MapEntry), L.Pairwise (fun a b => a.born ≠ b.born) → e ∈ L → L.Perm (e :: L.filter fun x => !(x.born == e.born))
  | x :: L, e, hp, he => by
    rw [List.pairwise_cons] at hp
    rcases List.mem_cons.1 he with rfl | he
    · have : L.filter (fun x => !(x.born == e.born)) = L := List.filter_eq_self.2 fun y hy => by
        have := hp.1 y hy
        simp [Ne.symm this]
      simp [this]
    · have hne : x.born ≠ e.born := hp.1 e he
      have ih := perm_born L e hp.2 he
      rw [List.filter_cons, if_pos (by simp [hne])]
      exact (ih.cons x).trans (.swap _ _ _)
theorem leftOf_push (es : Array MapEntry) (seen : Array Nat) (b : Nat) : (leftOf es (seen.push b)).toList = (leftOf es seen).toList.filter fun x => !(x.born == b) := by
  unfold leftOf
  rw [Array.toList_filter, Array.toList_filter, List.filter_filter]
  congr 1
  funext x
  rw [contains_push, Bool.not_or, Bool.and_comm]
theorem run_setObj_iter {m : Option Nat} {a c : Nat} {s : Array Nat} (h : w.heap[r]? = some (.mapIter m a s c)) (o : Obj) : (setObj r o).run P w = .ok () { w with heap := w.heap.setIfInBounds r o } := by
  show (Sem.setObj r o (.pure ())).run P w = _
  simp only [Sem.run, h]
theorem run_getObj_iter {m : Option Nat} {a c : Nat} {s : Array Nat} (h : w.heap[r]? = some (.mapIter m a s c)) : (getObj r).run P w = .ok (.mapIter m a s c) w := by
  show (Sem.getObj r .pure).run P w = _
  simp only [Sem.run, h]
theorem next_run {ty : TypeId} {bm since c0 : Nat} {seen : Array Nat} {es : Array MapEntry} {clock : Nat} (hr : w.heap[r]? = some (.mapIter (some bm) since seen c0)) (hb : w.heap[bm]? = some (.map es clock))
    (hold : ∀ x ∈ es.toList, x.born < since) (hsc : since ≤ c0) :
    ((leftOf es seen).size = 0 ∧ (Instr.next (PV r) false ty).run P w = .ok (.tuple #[.bool false]) w) ∨
    ∃ e ∈ (leftOf es seen).toList, ∃ w1 : World, (w1 = w ∨ w1 = w.drew) ∧
      (Instr.next (PV r) false ty).run P w = .ok (.tuple #[.bool true, e.key, e.val]) { w1 with heap := w1.heap.setIfInBounds r (.mapIter (some bm) since (seen.push e.born) clock) } := by
  simp only [Instr.next, Sem.run_bind, run_getObj_iter hr, run_getObj_map hb, Result.andThen, next_test_false seen es since c0 hold hsc, Bool.false_eq_true, if_false]
  have hmem : ∀ x ∈ (Array.filter (fun e => !seen.contains e.born) es).toList, x.born < since := fun x hx => hold x (by simp at hx ⊢; exact hx.1)
  unfold leftOf
  generalize Array.filter (fun e => !seen.contains e.born) es = L at hmem ⊢
  have e1 : L.filter (fun x => decide (x.born < since)) = L := Array.filter_eq_self.2 (fun x hx => by simpa using hmem x (by simpa using hx))
  have e2 : L.filter (fun x => decide (x.born ≥ since)) = #[] := by
    rw [Array.filter_eq_empty_iff]
    intro x hx
    have := hmem x (by simpa using hx)
    simp; omega
  simp only [e1, e2, Array.append_empty]
  by_cases h0 : L.size = 0
  · left
    obtain rfl : L = #[] := Array.eq_empty_of_size_eq_zero h0
    refine ⟨rfl, ?_⟩
    simp [choose, Sem.run, Question.forced]
  · right
    have hne : L.isEmpty = false := by simp [Array.isEmpty, h0]
    simp only [hne, Bool.false_eq_true, if_false, Array.empty_append, Array.size_map]
    have hch : ∃ (j : Nat) (w1 : World), j < L.size ∧ (w1 = w ∨ w1 = w.drew) ∧ (choose (Question.mapNext L.size)).run P w = .ok j w1 := by
      by_cases hf : L.size ≤ 1
      · exact ⟨0, w, by omega, .inl rfl, by simp [choose, Sem.run, Question.forced, hf]⟩
      · exact ⟨_, w.drew, Nat.mod_lt _ (by omega), .inr rfl, by
          simp only [choose, Sem.run, Question.forced, decide_eq_true_eq, hf, if_false, Question.cut]
          rfl⟩
    obtain ⟨j, w1, hj, hal, hrun⟩ := hch
    refine ⟨L[j], by simp, w1, hal, ?_⟩
    have hr1 : w1.heap[r]? = some (.mapIter (some bm) since seen c0) := by rcases hal with rfl | rfl <;> exact hr
    simp only [hrun, Array.getElem?_map, Array.getElem?_eq_getElem hj, Option.map_some, Sem.run_bind, run_setObj_iter hr1, Result.andThen]
    rfl
end
section
variable {P : Program} {n : Nat} {ops : Array Oper} {rest : List Oper} {K : Env → World → Prop} {E : Env} {w : World} {d : Nat} {ty : TypeId} {pos : String} {af : Array Edge}
variable {α β : Type} {ek : α → Value} {ev : β → Value} {l todo : List (α × β)} {v : Value} {t kt et : TypeId} {r : Nat}
theorem rl_range {X : Operand} (hx : Go.Proofs.YtkfhcfkbaaekoaaDoor.K.ev E X = some v) (hm : MpN ek ev w l v) (ht : P.underlying t = some (.map kt et)) (hn : Nat.blt d n = true)
    (h : ∀ r w', New w w' r → Walk ek ev w' l l v r → RL P n ops rest K ((d, PV r) :: E) w') : RL P n ops (⟨some d, .range t X, ty, pos, af, none⟩ :: rest) K E w := by
  rcases hm with ⟨rfl, rfl⟩ | ⟨m, es, clock, rfl, hm, he, hb, hc⟩
  · refine RL.op (w' := w.alloc (.mapIter none 0 #[] 0)) rfl rfl hn (fun a ha => ?_) (h _ _ New.alloc (.inr ⟨rfl, rfl, rfl, Go.heap_alloc_new _ _⟩))
    simp [execOp, ha.eval hx, Instr.range, run_underlying ht]
  · refine RL.op (w' := w.alloc (.mapIter (some m) clock #[] clock)) rfl rfl hn (fun a ha => ?_)
      (h _ _ New.alloc (.inl ⟨m, es, clock, clock, #[], clock, rfl, (Go.heap_alloc_old _ _ (heap_lt hm)).trans hm, Go.heap_alloc_new _ _, he, hb, hc, hc, Nat.le_refl _, Nat.le_refl _, ?_⟩))
    · simp [execOp, ha.eval hx, Instr.range, run_underlying ht, run_getObj_map hm]
    · have : leftOf es #[] = es := by unfold leftOf; exact Array.filter_eq_self.2 fun x hx => by simp
      rw [this, he]
theorem perm_pick {γ : Type} {todo : List γ} {p : γ} (h : p ∈ todo) : ∃ t', todo.Perm (p :: t') := by
  obtain ⟨s, t, rfl⟩ := List.append_of_mem h
  exact ⟨s ++ t, List.perm_middle⟩
theorem rl_next {X : Operand} (hx : Go.Proofs.YtkfhcfkbaaekoaaDoor.K.ev E X = some (PV r)) (hw : Walk ek ev w l todo v r) (hn : Nat.blt d n = true)
    (h0 : todo = [] → RL P n ops rest K ((d, .tuple #[.bool false]) :: E) w)
    (h1 : ∀ k x todo' w', todo.Perm ((k, x) :: todo') → Ch (inBlk (PV r)) w w' → Walk ek ev w' l todo' v r → (Instr.entry (PV r)).run P w' = .ok (.tuple #[ek k, ev x]) w' →
      RL P n ops rest K ((d, .tuple #[.bool true, ek k, ev x]) :: E) w') : RL P n ops (⟨some d, .next X false, ty, pos, af, none⟩ :: rest) K E w := by
  rcases hw with ⟨m, es, clock, since, seen, c0, rfl, hm, hr, he, hb, hc, hold, hsk, hsc, hp⟩ | ⟨rfl, rfl, rfl, hr⟩
  · rcases next_run (P := P) (ty := ty) hr hm hold hsc with ⟨hz, hrun⟩ | ⟨e, hel, w1, hw1, hrun⟩
    · refine RL.op (w' := w) rfl rfl hn (fun a ha => by simp only [execOp, ha.eval hx]; rw [Sem.run_bind, hrun]; rfl) (h0 ?_)
      have hl : (leftOf es seen).toList = [] := by
        apply List.eq_nil_of_length_eq_zero
        rw [Array.length_toList]; exact hz
      rw [hl] at hp
      exact List.map_eq_nil_iff.1 (List.nil_perm.1 hp)
    · have hmem : (e.key, e.val) ∈ todo.map fun p => (ek p.1, ev p.2) := hp.subset (List.mem_map.2 ⟨e, hel, rfl⟩)
      obtain ⟨⟨k, x⟩, hkx, hkv⟩ := List.mem_map.1 hmem
      obtain ⟨t', ht'⟩ := perm_pick hkx
      have hrl : r < w.heap.size := heap_lt hr
      have hml : m < w.heap.size := heap_lt hm
      have hne : m ≠ r := fun e => by subst e; rw [hm] at hr; cases hr
      have hh1 : w1.heap = w.heap := by rcases hw1 with rfl | rfl <;> rfl
      have hdr : w.drawn ≤ w1.drawn := by rcases hw1 with rfl | rfl <;> first | exact Nat.le_refl _ | exact Nat.le_succ _
      have hos : w1.os = w.os ∧ w1.tape = w.tape ∧ w1.output = w.output := by rcases hw1 with rfl | rfl <;> exact ⟨rfl, rfl, rfl⟩
      have hkey : e.key = ek k ∧ e.val = ev x := by simpa [eq_comm] using hkv
      refine RL.op (w' := { w1 with heap := w1.heap.setIfInBounds r (.mapIter (some m) since (seen.push e.born) clock) }) rfl rfl hn
        (fun a ha => by simp only [execOp, ha.eval hx]; rw [Sem.run_bind, hrun, hkey.1, hkey.2]; rfl) (h1 k x t' _ ht' ⟨hos.1, hos.2.1, hos.2.2, hdr, by simp [hh1], fun b hb hd => ?_⟩
          (.inl ⟨m, es, clock, since, seen.push e.born, clock, rfl, ?_, ?_, he, hb, hc, hold, hsk, hsk, ?_⟩) ?_)
      · have : r ≠ b := fun e => hd e
        simp [hh1, this]
      · simp [hh1, hne.symm, hm]
      · simp [hh1, hrl]
      · have hlp : (leftOf es seen).toList.Pairwise (fun a b => a.born ≠ b.born) := by
          unfold leftOf
          rw [Array.toList_filter]
          exact hb.sublist List.filter_sublist
        have h2 := perm_born _ e hlp hel
        rw [leftOf_push]
        have h3 := (h2.map fun e => (e.key, e.val)).symm.trans (hp.trans (ht'.map fun p => (ek p.1, ev p.2)))
        simp only [List.map_cons, hkey.1, hkey.2] at h3
        exact h3.cons_inv
      · have hf : es.find? (·.born == e.born) = some e := by
          rw [← Array.find?_toList]
          exact find_born e es.toList (List.pairwise_map.2 hb) (mem_left hel).1
        have hg1 : ({ w1 with heap := w1.heap.setIfInBounds r (.mapIter (some m) since (seen.push e.born) clock) } : World).heap[r]? = some (.mapIter (some m) since (seen.push e.born) clock) := by simp [hh1, hrl]
        have hg2 : ({ w1 with heap := w1.heap.setIfInBounds r (.mapIter (some m) since (seen.push e.born) clock) } : World).heap[m]? = some (.map es clock) := by simp [hh1, hne.symm, hm]
        simp only [Instr.entry, Sem.run_bind, run_getObj_iter hg1, run_getObj_map hg2, Result.andThen, Array.back?_push, bne_self_eq_false, Bool.false_eq_true, if_false, hf, Sem.run_pure]
        rw [hkey.1, hkey.2]
  · refine RL.op (w' := w) rfl rfl hn (fun a ha => ?_) (h0 rfl)
    simp [execOp, ha.eval hx, Instr.next, run_getObj_iter hr]
theorem rl_entry {X : Operand} {u : Value} (hx : Go.Proofs.YtkfhcfkbaaekoaaDoor.K.ev E X = some (PV r)) (hu : (Instr.entry (PV r)).run P w = .ok u w) (hn : Nat.blt d n = true) (h : RL P n ops rest K ((d, u) :: E) w) :
    RL P n ops (⟨some d, .entry X, ty, pos, af, none⟩ :: rest) K E w :=
  RL.op rfl rfl hn (fun a ha => by simp only [execOp, ha.eval hx]; rw [Sem.run_bind, hu]; rfl) h
end
def cellsB : Obj → Bool
  | .cells .. => true
  | _ => false
structure Kc (w w' : World) : Prop where
  size : w.heap.size ≤ w'.heap.size
  same : ∀ (b : Nat) (o : Obj), w.heap[b]? = some o → cellsB o = false → w'.heap[b]? = some o
def NC (n : Nat) (w : World) : Nat → Prop := fun b => n ≤ b ∧ ∃ o : Obj, w.heap[b]? = some o ∧ cellsB o = false
section
variable {D : Nat → Prop} {a b c : World}
theorem Kc.refl : Kc a a := ⟨Nat.le_refl _, fun _ _ h _ => h⟩
theorem Kc.trans (h : Kc a b) (k : Kc b c) : Kc a c := ⟨Nat.le_trans h.size k.size, fun i o hi ho => k.same i o (h.same i o hi ho) ho⟩
theorem Kc.of (h : Ch D a b) (hd : ∀ i, D i → ∀ o : Obj, a.heap[i]? = some o → cellsB o = true) : Kc a b :=
  ⟨h.size, fun i o hi ho => (h.blk i (heap_lt hi) (fun hx => by rw [hd i hx o hi] at ho; cases ho)).trans hi⟩
theorem Kc.ch0 (h : Ch nb a b) : Kc a b := Kc.of h fun _ x => x.elim
theorem Kc.blk {p T : Nat} {cs : List Value} (h : Ch (inBlk (PV p)) a b) (hb : Blk a p T cs) : Kc a b := Kc.of h fun i hi o ho => by
  have e : p = i := hi
  subst e
  have hb' : a.heap[p]? = some (.cells cs.toArray T (0, 0)) := hb
  rw [hb'] at ho; cases ho; rfl
theorem SlO.cells {α : Type} {k : Kd α} {T : TypeId} {F : Nat → Prop} {B : Nat} {S : Nat → Prop} {w : World} {xs : List α} {v : Value} (h : SlO k T F B S w xs v) :
    ∀ i, inBlk v i → ∀ o : Obj, w.heap[i]? = some o → cellsB o = true := by
  obtain ⟨cs, h1, h2⟩ := h.row
  rcases h1.2 with ⟨rfl, _⟩ | ⟨g, cap, cur, rfl, hg, hp, _⟩
  · exact fun i hi => hi.elim
  · intro i hi o ho
    have e : g = i := hi
    subst e
    rw [hp] at ho; cases ho; rfl
theorem Kc.slo {α : Type} {k : Kd α} {T : TypeId} {F : Nat → Prop} {B : Nat} {S : Nat → Prop} {xs : List α} {v : Value} (h : Ch (inBlk v) a b) (hs : SlO k T F B S a xs v) : Kc a b := Kc.of h hs.cells
theorem Blk.nc {w w' : World} {p T n : Nat} {cs : List Value} (h : Blk w p T cs) (c : Ch (NC n w) w w') : Blk w' p T cs := by
  have hb : w.heap[p]? = some (.cells cs.toArray T (0, 0)) := h
  exact (c.blk p (heap_lt hb) fun ⟨_, o, ho, hc⟩ => by rw [hb] at ho; cases ho; cases hc).trans hb
end
abbrev WF (ro : Option Nat) : Fence := { Fence.wide with round := ro }
def noDefer : Op → Bool
  | .defer _ => false
  | _ => true
theorem noDefer_of {o : Oper} (h : noDefer o.op = true) : ∀ c, o.op ≠ .defer c := fun c e => by rw [e] at h; cases h
section
variable {P : Program} {n : Nat} {ops : Array Oper} {Q : Exit → Act → World → Prop}
theorem kq_out {M : Env → World → Prop} : ¬ LetsOut (kq n M) := fun ⟨_, _, h⟩ => h
theorem uponIn_of {ro : Option Nat} {o : Oper} {a : Act} {w : World} {M : Env → World → Prop} {N N' : Act → World → Prop} (hN : ∀ a w, N a w → N' a w) (ho : noDefer o.op = true) (h : o.wp P a w N (kq n M)) :
    o.wpIn (WF ro) 0 P a w N' Q := by
  refine ⟨fun _ _ => trivial, ?_⟩
  rw [Oper.semAt_eq _ _ _ (noDefer_of ho)]
  unfold Oper.wp at h
  generalize (execOp a.eval o).run P w = r at h ⊢
  cases r with
  | ok x w' =>
    cases x <;> simp only [Oper.upon, Oper.uponIn] at h ⊢
    case value => exact hN _ _ h
    case skip => exact hN _ _ h
    case defer => exact hN _ _ h
    case enter f args =>
      refine ⟨fun h => by simp [Fence.wide] at h, ?_⟩
      have h2 := (callsIn_wide (n := 0 - 1) (P := P) (f := f) (args := args) (w := w')).2 h
      exact CallsIn.mono (F := Fence.wide) h2 fun e w'' he => by cases e <;> first | exact hN _ _ he | exact he.elim | exact (kq_out he).elim
    case row row args =>
      refine ⟨fun h => by simp [Fence.wide] at h, ?_⟩
      intro c cs hr
      obtain ⟨v, w'', hv, hs⟩ := h c cs
      exact ⟨v, w'', hN _ _ hv, stepsIn_wide.2 hs⟩
  | halt x w' => cases x <;> simp only [Oper.upon] at h <;> exact h.elim
theorem wpListIn_pre {ro : Option Nat} {M : Env → World → Prop} {l2 : List Oper} (hM : ∀ a w E, Ok n E a → M E w → wpListIn (WF ro) 0 P ops Q l2 a w) : ∀ (l1 : List Oper) (a : Act) (w : World), l1.all (fun o => noDefer o.op) = true →
    wpList P ops (kq n M) l1 a w → wpListIn (WF ro) 0 P ops Q (l1 ++ l2) a w
  | [], a, w, _, h => by obtain ⟨E, h1, h2⟩ := h; exact hM a w E h1 h2
  | o :: l1, a, w, hd, h => by
    show wpListIn (WF ro) 0 P ops Q (o :: (l1 ++ l2)) a w
    simp only [List.all_cons, Bool.and_eq_true] at hd
    unfold wpList at h
    unfold wpListIn
    split
    · rename_i hw
      rw [if_pos hw] at h
      exact uponIn_of (fun a w => wpListIn_pre hM l1 a w hd.2) hd.1 (h.resolve_right fun h => kq_out h.2)
    · rename_i hw
      rw [if_neg hw] at h
      exact ⟨fun _ _ => trivial, wpListIn_pre hM l1 _ _ hd.2 h⟩
def RLI (P : Program) (n : Nat) (ops : Array Oper) (Q : Exit → Act → World → Prop) (ro : Option Nat) (l : List Oper) (E : Env) (w : World) : Prop :=
  ∀ a, Ok n E a → wpListIn (WF ro) 0 P ops Q l a w
theorem RLI.pre {ro : Option Nat} {M : Env → World → Prop} {E : Env} {w : World} (k : Nat) {l : List Oper} (hd : (l.take k).all (fun o => noDefer o.op) = true) (h : RL P n ops (l.take k) M E w)
    (h2 : ∀ E' w', M E' w' → RLI P n ops Q ro (l.drop k) E' w') : RLI P n ops Q ro l E w := fun a ha => by
  rw [← List.take_append_drop k l]
  exact wpListIn_pre (fun a w E ha hm => h2 E w hm a ha) _ a w hd (h a ha)
theorem RLI.preK {ro : Option Nat} {E : Env} {w : World} (k : Nat) {l : List Oper} (hd : (l.take k).all (fun o => noDefer o.op) = true) (h : RL P n ops (l.take k) (fun E' w' => RLI P n ops Q ro (l.drop k) E' w') E w) :
    RLI P n ops Q ro l E w := RLI.pre k hd h fun _ _ h => h
theorem RLI.nil {ro : Option Nat} {E : Env} {w : World} (h : ∀ a, Ok n E a → Q .normal a w) : RLI P n ops Q ro [] E w := h
theorem region_in {ro : Option Nat} {id : Nat} {M : Env → World → Prop} {E : Env} {w : World} {l : Array Oper} {a : Act} (ha : Ok n E a) (hd : l.toList.all (fun o => noDefer o.op) = true) (h : RL P n l l.toList M E w)
    (h2 : ∀ a w E, Ok n E a → M E w → Q .normal a w) : (Code.region id l false).wpIn (WF ro) 0 P Q a w := by
  refine wpIn_region_list ?_
  have := wpListIn_pre (ro := ro) (l2 := []) (Q := Q) (fun a w E ha hm => h2 a w E ha hm) l.toList a w hd (h a ha)
  rwa [List.append_nil] at this
theorem RLI.yield {E : Env} {w : World} {rest : List Oper} {d : Nat} {ty : TypeId} {pos : String} {af : Array Edge} {X A : Operand} {tys : Array TypeId} {l : Nat} {u : Value} {R : Ending → World → Prop}
    (hX : ev E X = some (.func (.yield l) #[] #[])) (hA : ev E A = some u) (hn : Nat.blt d n = true) (hy : YieldAt Fence.wide 0 P l #[u] w R)
    (h : ∀ e w', R e w' → ∃ v, e = .returned v ∧ RLI P n ops Q none rest ((d, v) :: E) w') : RLI P n ops Q none (⟨some d, .call ⟨.value X, #[A], tys⟩, ty, pos, af, none⟩ :: rest) E w := by
  intro a ha
  obtain ⟨fn, tmps, assign, body, hrun, hR⟩ := hy
  unfold wpListIn
  rw [if_pos (by simp [Region.wanted])]
  refine ⟨fun _ _ => trivial, ?_⟩
  have e : (execOp a.eval ⟨some d, .call ⟨.value X, #[A], tys⟩, ty, pos, af, none⟩).run P w = .ok (.round l fn tmps assign body) w := by
    simp [execOp, resolve, invoke, Deferred.ofValue, ha.eval hX, ha.eval hA, hrun]
  show Oper.uponIn _ _ _ _ _ _ _ ((execOp a.eval ⟨some d, .call ⟨.value X, #[A], tys⟩, ty, pos, af, none⟩).run P w)
  rw [e]
  refine ⟨fun h => by simp [Fence.wide] at h, RoundIn.mono (F := Fence.wide) hR fun e w' he => ?_⟩
  obtain ⟨v, rfl, hr⟩ := h e w' he
  exact hr _ (ha.put (by simpa [Nat.blt, Nat.succ_le_iff] using hn))
theorem CW.regionI {Q : Exit → Env → World → Prop} {E : Env} {w : World} {id : Nat} {l : Array Oper} (h : RLI P n l (lift n Q) none l.toList E w) : CW P n (.region id l false) Q E w := fun a ha =>
  (wpIn_wide (n := 0)).1 (wpIn_region_list (h a ha))
end
def Seq {α : Type} (P : Program) (val : α → Value) (w : World) (xs : List α) (v : Value) : Prop :=
  ∃ g cap, v = .func (.func g) #[] cap.toArray ∧ Enters P g ∧ ∀ W, Ch nb w W → ∀ (l : Nat) (J : List α → World → Prop),
    (∀ s A B, J s A → Ch (fun b => W.heap.size ≤ b ∧ ∃ o : Obj, A.heap[b]? = some o ∧ o.isWalk = true) A B → J s B) →
    (∀ pre x A, J pre A → pre.length < xs.length → YieldAt Fence.wide 0 P l #[val x] A fun e B => e = .returned (.bool true) ∧ J (pre ++ [x]) B ∧ KeepsWalks A B) →
    J [] W → Ret P g (.func (.yield l) #[] #[] :: cap).toArray W fun _ W' => ∃ ys, ys.Perm xs ∧ J ys W'
theorem Seq.ch0 {α : Type} {P : Program} {val : α → Value} {w w' : World} {xs : List α} {v : Value} (h : Seq P val w xs v) (c : Ch nb w w') : Seq P val w' xs v := by
  obtain ⟨g, cap, e, he, h⟩ := h
  exact ⟨g, cap, e, he, fun W cW => h W (c.then0 cW)⟩
theorem notwalk_nc {o : Obj} (h : o.isWalk = true) : cellsB o = false := by cases o <;> first | rfl | cases h
section
variable {P : Program} {n : Nat} {Q : Exit → Act → World → Prop} {α : Type} {val : α → Value} {E : Env} {w : World} {g : Operand} {v : Value} {xs : List α} {p i1 i2 j : Nat} {o1 o2 : Array Oper}
theorem chPut {b : Nat} {o o' : Obj} (hb : w.heap[b]? = some o) (hc : cellsB o = false) {m : Nat} (hm : m ≤ b) : Ch (NC m w) w (w.putObj b o') :=
  ⟨rfl, rfl, rfl, Nat.le_refl _, by simp, fun c hc' hd => World.putObj_heap_other (fun e => hd (by subst e; exact ⟨hm, o, hb, hc⟩))⟩
theorem wp_ranges {a : Act} (ha : Ok n E a) (hg : ev E g = some v) (hs : Seq P val w xs v) (hp : Nat.blt p n = true) (I : List α → World → Prop)
    (hI : ∀ s A B, I s A → w.heap.size ≤ A.heap.size → Ch (NC w.heap.size A) A B → I s B) (h0 : I [] w) (hI0 : ∀ s A, I s A → w.heap.size ≤ A.heap.size)
    (hd1 : o1.toList.all (fun o => noDefer o.op) = true) (hd2 : o2.toList.all (fun o => noDefer o.op) = true)
    (round : ∀ pre x A, I pre A → pre.length < xs.length → RL P n o1 o1.toList (fun E1 A1 => Kc A A1 ∧ ∀ A2, Ch (NC w.heap.size A1) A1 A2 → RL P n o2 o2.toList (fun _ A3 => Kc A2 A3 ∧ I (pre ++ [x]) A3) E1 A2) ((p, val x) :: E) A)
    (hdone : ∀ D W ys, w.heap.size ≤ D → ys.Perm xs → I ys W → W.heap[D]? = some (.deferred (some [])) → Q .normal { a with defers := { target := .collected D, args := #[] } :: a.defers } W) :
    (Code.rangeFunc g #[p] (.region i1 o1 false) (.block j (.region i2 o2 false))).wpIn Fence.wide 0 P Q a w := by
  obtain ⟨gf, cap, rfl, he, hseq⟩ := hs
  refine wpIn_rangeFunc ?_
  intro fn hfn
  obtain ⟨rec, hrec⟩ : ∃ rec : LoopState → Option Code → Loop, rec = fun st pe => { state := st, pending := pe, fn, tmps := a.tmps, params := #[p], assign := .region i1 o1 false, body := .block j (.region i2 o2 false), defers := w.heap.size } := ⟨_, rfl⟩
  obtain ⟨W1, hW1⟩ : ∃ W1, (w.alloc (.deferred (some []))).alloc (.loop (rec .ready none)) = W1 := ⟨_, rfl⟩
  have hL1 : W1.heap[w.heap.size + 1]? = some (.loop (rec .ready none)) := by
    rw [← hW1]; have := World.alloc_heap_new (w.alloc (.deferred (some []))) (.loop (rec .ready none)); rwa [World.size_alloc] at this
  have hK1 : W1.heap[w.heap.size]? = some (.deferred (some [])) := by
    rw [← hW1]; exact (Go.heap_alloc_old _ _ (by simp)).trans (Go.heap_alloc_new w _)
  have c01 : Ch nb w W1 := by rw [← hW1]; exact (Ch.alloc (D := nb)).then0 Ch.alloc
  have hsz1 : W1.heap.size = w.heap.size + 2 := by rw [← hW1]; simp
  have hI1 : I [] W1 := hI _ _ _ h0 (Nat.le_refl _) (c01.mono fun _ _ h => h.elim)
  have hev : a.eval g = .func (.func gf) #[] cap.toArray := ha.eval hg
  refine ⟨w.heap.size + 1, [{ target := .collected w.heap.size, args := #[] }], W1, { target := .fn (.func gf) cap.toArray, args := #[.func (.yield (w.heap.size + 1)) #[] #[]] }, W1, gf,
    #[.func (.yield (w.heap.size + 1)) #[] #[]] ++ cap.toArray, W1, ?_, ?_, fun _ _ => trivial, ?_, fun h => by simp [Fence.wide] at h, ?_⟩
  · rw [← hW1, hrec]; exact run_enterLoop_outer _ _ _ _ _
  · simp only [resolve, hev]
    simp [go_sem]
  · have := he (#[.func (.yield (w.heap.size + 1)) #[] #[]] ++ cap.toArray) W1
    simp [invoke, go_sem]
    simpa using this
  · refine (callsIn_wide (n := 0 - 1)).2 ?_
    have key := hseq W1 c01 (w.heap.size + 1) (fun pre W => I pre W ∧ W.heap[w.heap.size + 1]? = some (.loop (rec .ready none)) ∧ W.heap[w.heap.size]? = some (.deferred (some [])))
      (fun s A B hs c => ?_) ?_ ⟨hI1, hL1, hK1⟩
    · have e : #[.func (.yield (w.heap.size + 1)) #[] #[]] ++ cap.toArray = (.func (.yield (w.heap.size + 1)) #[] #[] :: cap).toArray := by simp
      rw [e]
      refine Calls.mono key ?_
      rintro e W2 ⟨u, rfl, ys, hys, hi, hl, hk⟩
      refine ⟨none, _, by have := run_endLoop (P := P) hl (by rw [hrec]; simp); rw [hrec] at this; exact this, ?_⟩
      exact hdone _ _ ys (Nat.le_refl _) hys (hI _ _ _ hi (hI0 _ _ hi) (chPut hl rfl (by omega))) ((World.putObj_heap_other (by omega)).trans hk)
    · have keep : ∀ (b : Nat) (o : Obj), A.heap[b]? = some o → o.isWalk = false → B.heap[b]? = some o := fun b o hb ho => (c.blk b (heap_lt hb) (by
        rintro ⟨_, o', ho', hw'⟩
        rw [hb] at ho'; cases ho'; rw [ho] at hw'; cases hw')).trans hb
      exact ⟨hI _ _ _ hs.1 (hI0 _ _ hs.1) (c.mono fun b _ ⟨h1, o, h2, h3⟩ => ⟨by omega, o, h2, notwalk_nc h3⟩), keep _ _ hs.2.1 rfl, keep _ _ hs.2.2 rfl⟩
    · rintro pre x W ⟨hi, hl, hk⟩ hlen
      have hlt : w.heap.size + 1 < W.heap.size := heap_lt hl
      have hy := run_yield (P := P) (args := #[val x]) hl (by rw [hrec]; rfl)
      rw [hrec] at hy
      have hf : (#[p].zip #[val x]).foldl (fun tmps (t, a) => tmps.setIfInBounds t a) a.tmps = a.tmps.setIfInBounds p (val x) := by simp
      dsimp only at hy
      rw [hf] at hy
      refine ⟨fn, _, _, _, hy, roundIn_of_wpIn hfn ?_⟩
      have hpn : p < n := by simpa [Nat.blt, Nat.succ_le_iff] using hp
      have hok : Ok n ((p, val x) :: E) { tmps := a.tmps.setIfInBounds p (val x), defers := [] } := by
        have := (show Ok n E { tmps := a.tmps, defers := [] } from ⟨ha.sz, rfl, ha.sl⟩).put (v := val x) hpn
        exact this
      have hr := round pre x W hi hlen
      refine region_in (ro := some (w.heap.size + 1)) (a := { tmps := a.tmps.setIfInBounds p (val x), defers := [] }) hok hd1 hr ?_
      rintro a1 A1 E1 hok1 ⟨hk1, hbody⟩
      have hl1 := hk1.same _ _ hl rfl
      have hd1' := hk1.same _ _ hk rfl
      refine ⟨_, run_beginRound hl1 (by rw [hrec]), ?_⟩
      have hl2 : (A1.putObj (w.heap.size + 1) (.loop { rec .ready none with state := .busy })).heap[w.heap.size + 1]? = some (.loop { rec .ready none with state := .busy }) := World.putObj_heap_same (heap_lt hl1)
      have hk2 : (A1.putObj (w.heap.size + 1) (.loop { rec .ready none with state := .busy })).heap[w.heap.size]? = some (.deferred (some [])) := (World.putObj_heap_other (by omega)).trans hd1'
      have c12 : Ch (NC w.heap.size A1) A1 (A1.putObj (w.heap.size + 1) (.loop { rec .ready none with state := .busy })) := chPut hl1 rfl (by omega)
      refine wpIn_block (wpIn_mono (region_in (ro := some (w.heap.size + 1)) (Q := fun e a3 A3 => e = .normal ∧ Kc (A1.putObj (w.heap.size + 1) (.loop { rec .ready none with state := .busy })) A3 ∧ I (pre ++ [x]) A3) hok1 hd2 (hbody _ c12) (fun _ _ _ _ h => ⟨rfl, h⟩)) ?_)
      rintro e a3 A3 ⟨rfl, hk3, hi3⟩
      have hl3 := hk3.same _ _ hl2 rfl
      have hd3 := hk3.same _ _ hk2 rfl
      have hend := run_endRound (P := P) none hl3
      rw [hrec] at hend
      refine ⟨_, _, hend, rfl, ⟨hI _ _ _ hi3 (hI0 _ _ hi3) (chPut hl3 rfl (by omega)), ?_, (World.putObj_heap_other (by omega)).trans hd3⟩, ?_⟩
      · rw [hrec]; exact World.putObj_heap_same (heap_lt hl3)
      · have hs13 : W.heap.size ≤ A3.heap.size := Nat.le_trans hk1.size (Nat.le_trans c12.size hk3.size)
        refine ⟨by simpa using hs13, fun b o hb ho => ?_⟩
        have h1 := hk1.same b o hb (notwalk_nc ho)
        have hne : b ≠ w.heap.size + 1 := fun e => by subst e; rw [hl] at hb; cases hb; cases ho
        have h2 : (A1.putObj (w.heap.size + 1) (.loop { rec .ready none with state := .busy })).heap[b]? = some o := (World.putObj_heap_other hne).trans h1
        exact (World.putObj_heap_other hne).trans (hk3.same b o h2 (notwalk_nc ho))
end
def CM (P : Program) (n : Nat) (Q : Exit → Act → World → Prop) (c : Code) (E : Env) (w : World) : Prop := ∀ a, Ok n E a → c.wp P Q a w
section
variable {P : Program} {n : Nat} {Q : Exit → Act → World → Prop} {α : Type} {val : α → Value} {E : Env} {w : World}
theorem CM.region {y : Code} {l : Array Oper} {id : Nat} (h : RL P n l l.toList (fun E w => CM P n Q y E w) E w) : CM P n Q ((Code.region id l false).seq y) E w := fun a ha =>
  wp_seq (wp_region_list (wpList_mono (fun e a w hq => by cases e <;> first | exact hq.elim | (obtain ⟨E, h1, h2⟩ := hq; exact h2 a h1)) _ _ _ (h a ha)))
theorem CM.seq {x y : Code} (h : CM P n (Exit.then (fun a w => y.wp P Q a w) Q) x E w) : CM P n Q (x.seq y) E w := fun a ha => wp_seq (h a ha)
theorem Ret.ofM {f : FuncId} {fn : Func} {c : Code} {args : List Value} {R : Value → World → Prop} (hf : P.funcs[f]? = some fn) (hb : fn.body = some c) (hn : fn.ntmps = n) (hl : Nat.ble args.length n = true)
    (h : CM P n (bodyPostM Fence.wide 0 P fn fun e w' => ∃ v, e = .returned v ∧ R v w') c (argsE 0 args) w) : Ret P f args.toArray w R := by
  refine (callsIn_wide (n := 0)).1 (callsIn_of_wp_marks hf hb trivial ((wpIn_wide (n := 0)).2 (h _ ?_)))
  have hl' := Nat.le_of_ble_eq_true hl
  refine ⟨by simp [hn]; omega, rfl, fun t v ht => ?_⟩
  obtain ⟨_, h2⟩ := look_argsE args 0 t v ht
  simp only [Nat.sub_zero] at h2
  have hlt : t < args.length := by
    rcases Nat.lt_or_ge t args.length with h' | h'
    · exact h'
    · rw [List.getElem?_eq_none h'] at h2; cases h2
  rw [Array.getElem?_append_left (by simpa using hlt)]
  simpa using h2
theorem CM.ranges {fn : Func} {R : Value → World → Prop} {g : Operand} {v : Value} {xs : List α} {p i1 i2 i4 b j d1 d2 x t t1 t2 B : Nat} {s1 s2 : String} {f1 f2 : Array Edge} {o1 o2 : Array Oper}
    (hg : ev E g = some v) (hs : Seq P val w xs v) (hp : Nat.blt p n = true) (I : List α → World → Prop)
    (hI : ∀ s A B, I s A → w.heap.size ≤ A.heap.size → Ch (NC w.heap.size A) A B → I s B) (h0 : I [] w) (hI0 : ∀ s A, I s A → w.heap.size ≤ A.heap.size)
    (hd1 : o1.toList.all (fun o => noDefer o.op) = true) (hd2 : o2.toList.all (fun o => noDefer o.op) = true)
    (hx : ev E (.tmp x) = some (PV B)) (ht : ∀ w, (isAgg t).run P w = .ok false w) (hn1 : Nat.blt d1 n = true) (hn2 : Nat.blt d2 n = true) (hres : fn.results = #[.tmp d2])
    (hfin : ∀ W ys, ys.Perm xs → I ys W → ∃ u, W.cell? ⟨B, 0, none⟩ = some u ∧ ∀ W', Ch (NC w.heap.size W) W W' → R u W')
    (round : ∀ pre x A, I pre A → pre.length < xs.length → RL P n o1 o1.toList (fun E1 A1 => Kc A A1 ∧ ∀ A2, Ch (NC w.heap.size A1) A1 A2 → RL P n o2 o2.toList (fun _ A3 => Kc A2 A3 ∧ I (pre ++ [x]) A3) E1 A2) ((p, val x) :: E) A) :
    CM P n (Exit.then (fun a w => ((Code.region i4 #[⟨some d1, .load t (.tmp x), t1, s1, f1, none⟩, ⟨some d2, .assign (.tmp d1), t2, s2, f2, none⟩] false).seq .ret).wp P (bodyPostM Fence.wide 0 P fn fun e w' => ∃ v, e = .returned v ∧ R v w') a w)
      (bodyPostM Fence.wide 0 P fn fun e w' => ∃ v, e = .returned v ∧ R v w')) (Code.block b (.rangeFunc g #[p] (.region i1 o1 false) (.block j (.region i2 o2 false)))) E w := by
  intro a ha
  refine (wpIn_wide (n := 0)).1 (wpIn_block (wp_ranges ha hg hs hp I hI h0 hI0 hd1 hd2 round ?_))
  intro D W ys hD hys hi hk
  obtain ⟨u, hu, hR⟩ := hfin W ys hys hi
  have hxe : ({ a with defers := { target := .collected D, args := #[] } :: a.defers } : Act).eval (.tmp x) = PV B := ha.eval hx
  have l1 : d1 < n := by simpa [Nat.blt, Nat.succ_le_iff] using hn1
  have l2 : d2 < n := by simpa [Nat.blt, Nat.succ_le_iff] using hn2
  obtain ⟨a', ha'⟩ : ∃ a' : Act, a' = { a with defers := { target := .collected D, args := #[] } :: a.defers } := ⟨_, rfl⟩
  have hsz : a'.tmps.size = n := by rw [ha']; exact ha.sz
  have hdf : a'.defers = [{ target := .collected D, args := #[] }] := by rw [ha', ha.df]
  rw [← ha'] at hxe ⊢
  refine (wpIn_wide (n := 0)).1 (wpIn_seq (wpIn_region_list ?_))
  have e1 : (execOp a'.eval ⟨some d1, .load t (.tmp x), t1, s1, f1, none⟩).run P W = .ok (.value u) W := by simp [execOp, hxe, run_loadS ht hu]
  refine wpListIn_plain rfl fun K hK => ⟨fun _ _ => trivial, ?_⟩
  show Oper.uponIn _ _ _ _ _ _ _ ((execOp a'.eval ⟨some d1, .load t (.tmp x), t1, s1, f1, none⟩).run P W)
  rw [e1]
  refine hK _ _ ?_
  have e2 : (execOp (a'.put (some d1) u).eval ⟨some d2, .assign (.tmp d1), t2, s2, f2, none⟩).run P W = .ok (.value u) W := by
    have : (a'.put (some d1) u).eval (.tmp d1) = u := by simp [Act.put, Act.eval, hsz, l1]
    show Result.ok (Next.value ((a'.put (some d1) u).eval (.tmp d1))) W = _
    rw [this]
  refine wpListIn_plain rfl fun K hK => ⟨fun _ _ => trivial, ?_⟩
  show Oper.uponIn _ _ _ _ _ _ _ ((execOp (a'.put (some d1) u).eval ⟨some d2, .assign (.tmp d1), t2, s2, f2, none⟩).run P W)
  rw [e2]
  refine hK _ _ ?_
  refine wpListIn_nil (wpIn_ret ?_)
  show LeavesInM _ _ _ _ _ _ (((a'.put (some d1) u).put (some d2) u).defers) _ _
  have e3 : ((a'.put (some d1) u).put (some d2) u).defers = [{ target := .collected D, args := #[] }] := hdf
  rw [e3]
  refine ⟨by simp, .inl ⟨D, _, rfl, run_takeDeferred hk, ?_⟩⟩
  refine ⟨u, ?_, u, rfl, hR _ (chPut hk rfl hD)⟩
  have e4 : ((a'.put (some d1) u).put (some d2) u).tmps[d2]? = some u := by simp [Act.put, hsz, l2]
  rw [results_eq, hres, Array.mapM_eq_mapM_toList]
  simp [resM, e4]
end
section
variable {P : Program} {n m : Nat} {α : Type} {enc : α → List Value} {hl : ∀ x, (enc x).length = m} {h1 : ∀ x, (enc x).all Value.oneCell' = true} {T : TypeId} {F : Nat → Prop} {w : World} {xs : List α} {v : Value}
theorem SlO.pureS {S S' : Nat → Prop} {B : Nat} {w : World} (h : SlO (Kd.pure m enc hl h1) T F B S w xs v) (hm : ∀ b, inBlk v b → S' b) : SlO (Kd.pure m enc hl h1) T F B S' w xs v := h.reS (fun h => h) hm
theorem SlO.pureCh {S : Nat → Prop} {B : Nat} {w w' : World} {D : Nat → Prop} (h : SlO (Kd.pure m enc hl h1) T F B S w xs v) (c : Ch D w w') (hv : ∀ b, inBlk v b → ¬ D b) : SlO (Kd.pure m enc hl h1) T F B S w' xs v :=
  ((h.pureS (S' := fun _ => True) fun _ _ => trivial).st (S' := fun _ => True) c hv (fun _ _ hs => (hs trivial).elim) fun _ _ => trivial).pureS h.mine
theorem SlO.notNC {S : Nat → Prop} {B q : Nat} {w : World} (h : SlO (Kd.pure m enc hl h1) T F B S w xs v) : ∀ b, inBlk v b → ¬ NC q w b := fun b hb ⟨_, o, ho, hc⟩ => by rw [h.cells b hb o ho] at hc; cases hc
def Coll (m : Nat) (enc : α → List Value) (hl : ∀ x, (enc x).length = m) (h1 : ∀ x, (enc x).all Value.oneCell' = true) (T tS : TypeId) (F : Nat → Prop) (w w1 : World) (B : Nat) (pre : List α) (W : World) : Prop :=
  ∃ v, Blk W B tS [v] ∧ SlO (Kd.pure m enc hl h1) T F w.heap.size (inBlk v) W pre v ∧ ¬ inBlk v B ∧ Ch nb w W ∧ w1.heap.size ≤ W.heap.size
theorem Coll.nc {tS : TypeId} {w1 A C : World} {B : Nat} {s : List α} (h : Coll m enc hl h1 T tS F w w1 B s A) (hw : w.heap.size ≤ w1.heap.size) (c : Ch (NC w1.heap.size A) A C) : Coll m enc hl h1 T tS F w w1 B s C := by
  obtain ⟨v, hb, hs, hn, hc, hz⟩ := h
  exact ⟨v, hb.nc c, hs.pureCh c hs.notNC, hn, hc.then c (fun i hi ⟨hx, _⟩ => by omega), Nat.le_trans hz c.size⟩
end
section
variable {α β : Type} [DecidableEq α] {ek : α → Value} {ev : β → Value} {P : Program}
theorem KeyT.inj {t : TypeId} (h : KeyT P t ek) {x y : α} (e : ek x = ek y) : x = y := by
  obtain ⟨n, hn, hq⟩ := h.eq
  have h1 : (Op.equal t (ek x) (ek x)).run P (default : World) = .ok (decide (x = x)) default := hq 10000 x x _ hn
  have h2 : (Op.equal t (ek x) (ek y)).run P (default : World) = .ok (decide (x = y)) default := hq 10000 x y _ hn
  rw [← e, h1] at h2
  simpa using h2
end
end Go.Proofs.YtkfhcfkbaaekoaaDoor.K
