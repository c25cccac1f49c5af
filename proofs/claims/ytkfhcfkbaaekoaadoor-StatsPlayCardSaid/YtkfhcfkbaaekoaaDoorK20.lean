/- Floats, the lesser and the greater of two, elements of array values, errors, package variables that hold errors, elements of an array in a block of one's own. General: no program is named. -/
import Derived.Test.YtkfhcfkbaaekoaaDoorK13
import Derived.Test.YtkfhcfkbaaekoaaDoorK15
import Derived.Test.YtkfhcfkbaaekoaaDoorK19
import Derived.WideLaws
namespace Go.Proofs.YtkfhcfkbaaekoaaDoor.K
open Go
set_option linter.unusedVariables false
def errV (ge : Nat → Value) : Option Nat → Value
  | none => .nilIface
  | some g => ge g
def kGL (tp : TypeId) (m : Nat) : Kd (Nat → Value) :=
  ⟨1, fun F w e cs => cs = [.bool true] ∧ (∀ g, ∃ t v, e g = .iface t v) ∧ ∃ A : Nat → Addr, (∀ g, g < m → e g = .iface tp (.pointer (some (A g))) ∧ (F g ∧ ∃ t fz, w.heap[g]? = some (.cells #[e g] t fz)) ∧ F (A g).block ∧ ∃ c t, w.heap[(A g).block]? = some (.cells c t (0, 0))) ∧ ∀ g h, g < m → h < m → A g = A h → g = h,
    fun h => by rw [h.1]; rfl,
    fun h hm => by
      obtain ⟨h1, h2, A, h3, h4⟩ := h
      refine ⟨h1, h2, A, fun g hg => ?_, h4⟩
      obtain ⟨k1, ⟨k2, t, fz, k3⟩, k4, c, t', k5⟩ := h3 g hg
      obtain ⟨m1, m2⟩ := hm g (heap_lt k3) k2
      obtain ⟨m3, m4⟩ := hm _ (heap_lt k5) k4
      exact ⟨k1, ⟨m1, t, fz, by rw [m2]; exact k3⟩, m3, c, t', by rw [m4]; exact k5⟩,
    fun h v hv => by rw [h.1] at hv; simp at hv; subst hv; rfl⟩
theorem gl_cell {F : Nat → Prop} {w : World} {ge : Nat → Value} {cs : List Value} {T m : Nat} (h : (kGL T m).rep F w ge cs) (g : Nat) (hg : Nat.blt g m = true) : w.cell? ⟨g, 0, none⟩ = some (ge g) := by
  obtain ⟨_, _, A, h3, _⟩ := h
  obtain ⟨_, ⟨_, t, fz, hb⟩, _⟩ := h3 g (by simpa using hg)
  simp [World.cell?, hb]
theorem var_heap {P : Program} {w : World} {nm : String} {g : Nat} {v : Value} (hg : P.globalNamed nm = some g) (hv : w.var? P nm = some #[v]) : ∃ t fz, w.heap[g]? = some (.cells #[v] t fz) := by
  unfold World.var? at hv
  rw [hg] at hv
  simp only [Option.bind_some] at hv
  split at hv
  · rename_i cs t fz h
    cases hv
    exact ⟨t, fz, h⟩
  · cases hv
theorem gl_of {w : World} {tp : TypeId} (gs : List Nat) (As : List Addr) (m : Nat) (hl : As.length = gs.length) (hi : ∀ g, g < m → gs[gs.idxOf g]? = some g)
    (h : ∀ (i : Nat) (a : Addr) (g : Nat), As[i]? = some a → gs[i]? = some g → (∃ t fz, w.heap[g]? = some (Obj.cells #[.iface tp (.pointer (some a))] t fz)) ∧ ∃ c t, w.heap[a.block]? = some (Obj.cells c t (0, 0))) (hn : As.Nodup) :
    ∃ ge, (kGL tp m).rep allB w ge [.bool true] := by
  have key : ∀ g, g < m → ∃ a, As[gs.idxOf g]? = some a := fun g hg => by
    have h1 := (List.getElem?_eq_some_iff.1 (hi g hg)).1
    exact ⟨_, List.getElem?_eq_getElem (by omega)⟩
  refine ⟨fun g => .iface tp (.pointer (some ((As[gs.idxOf g]?).getD ⟨0, 0, none⟩))), rfl, fun g => ⟨_, _, rfl⟩, fun g => (As[gs.idxOf g]?).getD ⟨0, 0, none⟩, fun g hg => ?_, fun g h' hg hh e => ?_⟩
  · obtain ⟨a, ha⟩ := key g hg
    obtain ⟨k1, k2⟩ := h _ a g ha (hi g hg)
    simp only [ha, Option.getD_some]
    exact ⟨trivial, ⟨trivial, k1⟩, trivial, k2⟩
  · obtain ⟨a, ha⟩ := key g hg
    obtain ⟨b, hb⟩ := key h' hh
    simp only [ha, hb, Option.getD_some] at e
    subst e
    have h1 := (List.getElem?_eq_some_iff.1 ha).1
    have h2 := (List.getElem?_eq_some_iff.1 hb).1
    have h3 : gs.idxOf g = gs.idxOf h' := by
      refine (List.getElem_inj (h₀ := h1) (h₁ := h2) hn).1 ?_
      rw [List.getElem?_eq_getElem h1] at ha
      rw [List.getElem?_eq_getElem h2] at hb
      exact (Option.some.inj ha).trans (Option.some.inj hb).symm
    have e1 := hi g hg
    have e2 := hi h' hh
    rw [h3, e2] at e1
    exact (Option.some.inj e1).symm
def kE (ge : Nat → Value) : Kd (Option Nat) := ⟨1, fun F w x cs => cs = [errV ge x] ∧ (errV ge x).oneCell' = true, fun h => by rw [h.1]; rfl, fun h _ => h, fun h v hv => by rw [h.1] at hv; simp at hv; subst hv; exact h.2⟩
theorem kE_pos {ge : Nat → Value} : 0 < (kE ge).n := Nat.one_pos
theorem errV_one {F : Nat → Prop} {w : World} {ge : Nat → Value} {cs : List Value} {T m : Nat} (h : (kGL T m).rep F w ge cs) (x : Option Nat) : (errV ge x).oneCell' = true := by
  cases x with
  | none => rfl
  | some g =>
    obtain ⟨t, v, e⟩ := h.2.1 g
    show (ge g).oneCell' = true
    rw [e]; rfl
theorem errV_cells {F : Nat → Prop} {w : World} {ge : Nat → Value} {cs : List Value} {T m : Nat} (h : (kGL T m).rep F w ge cs) (x : Option Nat) : (errV ge x).cells.toList = [errV ge x] := by
  cases x with
  | none => rfl
  | some g =>
    obtain ⟨t, v, e⟩ := h.2.1 g
    show (ge g).cells.toList = [ge g]
    rw [e]; rfl
theorem errV_of {F : Nat → Prop} {w : World} {ge : Nat → Value} {cs : List Value} {T m : Nat} (h : (kGL T m).rep F w ge cs) (x : Option Nat) : (x = none ∧ errV ge x = .nilIface) ∨ (x.isSome = true ∧ ∃ t v, errV ge x = .iface t v) := by
  cases x with
  | none => exact .inl ⟨rfl, rfl⟩
  | some g => exact .inr ⟨rfl, h.2.1 g⟩
section
variable {P : Program} {n : Nat} {ops : Array Oper} {rest : List Oper} {K : Env → World → Prop} {E : Env} {w : World} {d : Nat} {ty : TypeId} {pos : String} {af : Array Edge}
theorem rl_errEq {t yt m : TypeId} {X : Operand} {ge : Nat → Value} {x : Option Nat} {T : TypeId} {F : Nat → Prop} {cs : List Value} {ms : Array (String × TypeId)} (hx : ev E X = some (errV ge x)) (hg : (kGL T m).rep F w ge cs) (ht : P.underlying t = some (.interface ms)) (hn : Nat.blt d n = true)
    (h : RL P n ops rest K ((d, .bool x.isNone) :: E) w) : RL P n ops (⟨some d, .binOp .eql t X (.const .nilIface) yt, ty, pos, af, none⟩ :: rest) K E w := by
  have hp : P.underlying t = some (.interface (P.methodsAt t)) := by simp [Program.methodsAt, ht]
  refine RL.op rfl rfl hn (fun a ha => ?_) h
  have e : (do eqGuard .eql t X (.const .nilIface) (errV ge x) .nilIface; binOp .eql t (errV ge x) .nilIface : Sem Value).run P w = .ok (.bool x.isNone) w := by
    rw [Sem.run_bind]
    rcases errV_of hg x with ⟨rfl, e⟩ | ⟨hs, t1, v1, e⟩
    · rw [e, show (eqGuard .eql t X (.const .nilIface) .nilIface .nilIface).run P w = .ok () w from by cases X <;> rfl]
      exact run_eql_nil_nil w t hp
    · rw [e, show (eqGuard .eql t X (.const .nilIface) (.iface t1 v1) .nilIface).run P w = .ok () w from rfl]
      cases x with
      | none => cases hs
      | some g => exact run_eql_held_nil w t t1 v1 hp
  simp only [execOp, ha.eval hx, ha.eval (show ev E (.const .nilIface) = some .nilIface from rfl)]
  show ((do let u ← (do eqGuard .eql t X (.const .nilIface) _ _; binOp .eql t _ _); Pure.pure (Next.value u)) : Sem Next).run P w = _
  rw [Sem.run_bind, e]; rfl
theorem guard_float (op : BinOp) (t : TypeId) (X Y : Operand) (k l : FloatKind) (x y : Nat) (w : World) : (eqGuard op t X Y (.float k x) (.float l y)).run P w = .ok () w := by
  cases op <;> rfl
theorem B.quoF {t : TypeId} {k : FloatKind} {x y r : Nat} (h : k.format.div x y = some r) : BinRun P .quo t (.float k x) (.float k y) (.float k r) := fun X Y w => by
  rw [Sem.run_bind, guard_float]
  simp [Result.andThen, binOp, Op.floatArith, h]
theorem B.eqlF {t : TypeId} {k : FloatKind} {x y : Nat} : BinRun P .eql t (.float k x) (.float k y) (.bool (k.format.order x y == some .eq)) := fun X Y w => by
  rw [Sem.run_bind, guard_float]
  simp [Result.andThen, binOp, Op.floatCmp]
theorem B.neqF {t : TypeId} {k : FloatKind} {x y : Nat} : BinRun P .neq t (.float k x) (.float k y) (.bool (k.format.order x y != some .eq)) := fun X Y w => by
  rw [Sem.run_bind, guard_float]
  simp [Result.andThen, binOp, Op.floatCmp]
theorem rl_convFlt {s t : TypeId} {x : Operand} {k : FloatKind} {l : IntKind} {i : Int} (hx : ev E x = some (.int l i)) (hs : P.underlying s = some (.int l)) (ht : P.underlying t = some (.float k)) (hn : Nat.blt d n = true) (h : RL P n ops rest K ((d, .float k (k.nearest i)) :: E) w) :
    RL P n ops (⟨some d, .convert s t x, ty, pos, af, none⟩ :: rest) K E w :=
  RL.op rfl rfl hn (fun a ha => by simp [execOp, ha.eval hx, convert, run_underlying hs, run_underlying ht, Conv.intToFloat]) h
theorem rl_max {t t' : TypeId} {X Y : Operand} {k l : IntKind} {x y : Int} (hx : ev E X = some (.int k x)) (hy : ev E Y = some (.int l y)) (hn : Nat.blt d n = true) (h : RL P n ops rest K ((d, .int k (if y > x then y else x)) :: E) w) :
    RL P n ops (⟨some d, .call ⟨.builtin .max, #[X, Y], #[t, t']⟩, ty, pos, af, none⟩ :: rest) K E w :=
  RL.op rfl rfl hn (fun a ha => by simp [execOp, resolve, invoke, builtin, Builtin.max_, Builtin.max2, ha.eval hx, ha.eval hy]) h
theorem rl_min {t t' : TypeId} {X Y : Operand} {k l : IntKind} {x y : Int} (hx : ev E X = some (.int k x)) (hy : ev E Y = some (.int l y)) (hn : Nat.blt d n = true) (h : RL P n ops rest K ((d, .int k (if y < x then y else x)) :: E) w) :
    RL P n ops (⟨some d, .call ⟨.builtin .min, #[X, Y], #[t, t']⟩, ty, pos, af, none⟩ :: rest) K E w :=
  RL.op rfl rfl hn (fun a ha => by simp [execOp, resolve, invoke, builtin, Builtin.min_, Builtin.min2, ha.eval hx, ha.eval hy]) h
theorem rl_indexA {t el len m : Nat} {X I : Operand} {kk : IntKind} {i : Int} {cs es : List Value} (hx : ev E X = some (.agg cs.toArray)) (hi : ev E I = some (.int kk i)) (hj : 0 ≤ i ∧ i < (len : Int)) (ht : P.underlying t = some (.array len el))
    (ha : ∀ w, (isAgg el).run P w = .ok true w) (hz : ∀ w, (sizeOf el).run P w = .ok m w) (he : (cs.drop (i.toNat * m)).take m = es) (hn : Nat.blt d n = true)
    (h : RL P n ops rest K ((d, .agg es.toArray) :: E) w) : RL P n ops (⟨some d, .index t X I, ty, pos, af, none⟩ :: rest) K E w := by
  refine RL.op rfl rfl hn (fun a hA => ?_) h
  have hp := part_A (P := P) (w := w) ha hz he
  simp [execOp, hA.eval hx, hA.eval hi, Instr.index, asIntOf, run_underlying ht, hz, hj.1, hj.2, hp]
theorem rl_fieldS {s f off ft : Nat} {X : Operand} {fs : Array Field} {fd : Field} {cs : List Value} {v : Value} (hx : ev E X = some (.agg cs.toArray)) (hs : P.underlying s = some (.struct fs)) (hf : fs[f]? = some fd) (ht : fd.type = ft) (ho : fd.offset = off)
    (ha : ∀ w, (isAgg ft).run P w = .ok false w) (he : cs[off]? = some v) (hn : Nat.blt d n = true)
    (h : RL P n ops rest K ((d, v) :: E) w) : RL P n ops (⟨some d, .field s X f, ty, pos, af, none⟩ :: rest) K E w := by
  subst ht; subst ho
  refine RL.op rfl rfl hn (fun a hA => ?_) h
  have hp := part_S (P := P) (w := w) (cs := cs.toArray) ha (by simpa using he)
  simp [execOp, hA.eval hx, Instr.field, asAgg, run_underlying hs, hf, hp]
theorem rl_ixArrV {t el b o len m : Nat} {X I : Operand} {kk : IntKind} {i : Int} (hx : ev E X = some (.pointer (some ⟨b, o, none⟩))) (hi : ev E I = some (.int kk i)) (hj : 0 ≤ i ∧ i < (len : Int))
    (ht : P.underlying t = some (.array len el)) (hz : ∀ w, (sizeOf el).run P w = .ok m w) (hn : Nat.blt d n = true)
    (hK : RL P n ops rest K ((d, .pointer (some ⟨b, o + i.toNat * m, none⟩)) :: E) w) : RL P n ops (⟨some d, .indexAddr t X I, ty, pos, af, none⟩ :: rest) K E w := by
  refine RL.op rfl rfl hn (fun a ha => ?_) hK
  simp [execOp, ha.eval hx, ha.eval hi, Instr.indexAt, asIntOf, run_underlying ht, hz, Addr_add, hj.1, hj.2, Instr.sureAddr]
theorem rl_storeV {t T b o : Nat} {x y : Operand} {u : Value} {cs cs' : List Value} (hx : ev E x = some (.pointer (some ⟨b, o, none⟩))) (hy : ev E y = some u) (hc : u.cells = #[u] ∧ u.oneCell' = true)
    (hz : ∀ w, (sizeOf t).run P w = .ok 1 w) (hb : Blk w b T cs) (ho : o < cs.length) (he : cs.set o u = cs')
    (hK : ∀ w', w'.heap.size = w.heap.size → Ch (inBlk (.pointer (some ⟨b, 0, none⟩))) w w' → Blk w' b T cs' → RL P n ops rest K E w') : RL P n ops (⟨none, .store t x y, ty, pos, af, none⟩ :: rest) K E w := by
  subst he
  exact rl_storeS hx hy hc hz hb (by simpa [Nat.blt, Nat.succ_le_iff] using ho) hK
theorem seg_eq {b o : Nat} {cs es : List Value} (h : Seg w b o cs) (e : cs = es) : Seg w b o es := e ▸ h
end
theorem ixO_in {α : Type} {l : List α} {i : Int} {y : α} (h : ixO l i = some y) : 0 ≤ i ∧ i < ((l.length : Nat) : Int) := ⟨(ixO_get h).1, (ixO_get h).2.1⟩
end Go.Proofs.YtkfhcfkbaaekoaaDoor.K
