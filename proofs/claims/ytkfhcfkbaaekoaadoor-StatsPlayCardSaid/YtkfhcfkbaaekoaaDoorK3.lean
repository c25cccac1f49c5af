/- The rules of the single operations. General: no program is named. -/
import Derived.Test.YtkfhcfkbaaekoaaDoorK2
namespace Go.Proofs.YtkfhcfkbaaekoaaDoor.K
open Go
set_option linter.unusedVariables false
section
variable {P : Program} {n : Nat} {ops : Array Oper} {rest : List Oper} {K : Env → World → Prop} {E : Env} {w : World}
variable {d : Nat} {ty : TypeId} {pos : String} {af : Array Edge}
theorem rl_move {x : Operand} {v : Value} (hx : ev E x = some v) (hn : Nat.blt d n = true) (h : RL P n ops rest K ((d, v) :: E) w) :
    RL P n ops (⟨some d, .move x, ty, pos, af, none⟩ :: rest) K E w :=
  RL.op rfl rfl hn (fun a ha => by show Result.ok (Next.value (a.eval x)) w = _; rw [ha.eval hx]) h
theorem rl_assign {x : Operand} {v : Value} (hx : ev E x = some v) (hn : Nat.blt d n = true) (h : RL P n ops rest K ((d, v) :: E) w) :
    RL P n ops (⟨some d, .assign x, ty, pos, af, none⟩ :: rest) K E w :=
  RL.op rfl rfl hn (fun a ha => by show Result.ok (Next.value (a.eval x)) w = _; rw [ha.eval hx]) h
theorem rl_pickT {c x y : Operand} {b : Bool} {v : Value} (hc : ev E c = some (.bool b)) (hb : b = true) (hx : ev E x = some v) (hn : Nat.blt d n = true) (h : RL P n ops rest K ((d, v) :: E) w) :
    RL P n ops (⟨some d, .pick c x y, ty, pos, af, none⟩ :: rest) K E w :=
  RL.op rfl rfl hn (fun a ha => by subst hb; simp [execOp, ha.eval hx, ha.eval hc, asBool]) h
theorem rl_pickF {c x y : Operand} {b : Bool} {v : Value} (hc : ev E c = some (.bool b)) (hb : b = false) (hx : ev E y = some v) (hn : Nat.blt d n = true) (h : RL P n ops rest K ((d, v) :: E) w) :
    RL P n ops (⟨some d, .pick c x y, ty, pos, af, none⟩ :: rest) K E w :=
  RL.op rfl rfl hn (fun a ha => by subst hb; simp [execOp, ha.eval hx, ha.eval hc, asBool]) h
def BinRun (P : Program) (op : BinOp) (t : TypeId) (a b v : Value) : Prop :=
  ∀ (X Y : Operand) (w : World), (do eqGuard op t X Y a b; binOp op t a b).run P w = .ok v w
theorem rl_bin {op : BinOp} {t yt : TypeId} {x y : Operand} {a b v : Value} (hx : ev E x = some a) (hy : ev E y = some b) (hr : BinRun P op t a b v) (hn : Nat.blt d n = true)
    (h : RL P n ops rest K ((d, v) :: E) w) : RL P n ops (⟨some d, .binOp op t x y yt, ty, pos, af, none⟩ :: rest) K E w :=
  RL.op rfl rfl hn (fun a ha => by
    have := hr x y w
    simp only [execOp, ha.eval hx, ha.eval hy]
    show ((do let u ← (do eqGuard op t x y _ _; binOp op t _ _); Pure.pure (Next.value u)) : Sem Next).run P w = _
    rw [Sem.run_bind, this]; rfl) h
theorem guard_int (op : BinOp) (t : TypeId) (X Y : Operand) (k l : IntKind) (x y : Int) (w : World) : (eqGuard op t X Y (.int k x) (.int l y)).run P w = .ok () w := by
  cases op <;> rfl
theorem guard_string (op : BinOp) (t : TypeId) (X Y : Operand) (x y : ByteArray) (w : World) : (eqGuard op t X Y (.string x) (.string y)).run P w = .ok () w := by
  cases op <;> rfl
theorem BinRun.int {op : BinOp} {t : TypeId} {k : IntKind} {x y : Int} {v : Value} (h : ∀ w, (binOp op t (.int k x) (.int k y)).run P w = .ok v w) : BinRun P op t (.int k x) (.int k y) v :=
  fun X Y w => by rw [Sem.run_bind, guard_int]; exact h w
namespace B
variable {t : TypeId} {k : IntKind} {x y : Int}
theorem add : BinRun P .add t (.int k x) (.int k y) (.int k (k.wrap (x + y))) := .int fun w => by simp [binOp, Op.intArith]
theorem sub : BinRun P .sub t (.int k x) (.int k y) (.int k (k.wrap (x - y))) := .int fun w => by simp [binOp, Op.intArith]
theorem mul : BinRun P .mul t (.int k x) (.int k y) (.int k (k.wrap (x * y))) := .int fun w => by simp [binOp, Op.intArith]
theorem quo (hy : (y == 0) = false) : BinRun P .quo t (.int k x) (.int k y) (.int k (k.wrap (x.tdiv y))) := .int fun w => by
  have : y ≠ 0 := by simpa using hy
  simp [binOp, Op.intDiv, this]
theorem rem (hy : (y == 0) = false) : BinRun P .rem t (.int k x) (.int k y) (.int k (x.tmod y)) := .int fun w => by
  have : y ≠ 0 := by simpa using hy
  simp [binOp, Op.intDiv, this]
theorem lss : BinRun P .lss t (.int k x) (.int k y) (.bool (decide (x < y))) := .int fun w => by simp [binOp, Op.intCmp]
theorem leq : BinRun P .leq t (.int k x) (.int k y) (.bool (decide (x ≤ y))) := .int fun w => by simp [binOp, Op.intCmp]
theorem gtr : BinRun P .gtr t (.int k x) (.int k y) (.bool (decide (x > y))) := .int fun w => by simp [binOp, Op.intCmp]
theorem geq : BinRun P .geq t (.int k x) (.int k y) (.bool (decide (x ≥ y))) := .int fun w => by simp [binOp, Op.intCmp]
theorem eql : BinRun P .eql t (.int k x) (.int k y) (.bool (decide (x = y))) := .int fun w => by simp [binOp, Op.intCmp]; rfl
theorem neq : BinRun P .neq t (.int k x) (.int k y) (.bool (!decide (x = y))) := .int fun w => by simp [binOp, Op.intCmp]; rfl
theorem and : BinRun P .and t (.int k x) (.int k y) (.int k (k.wrap (BitVec.ofInt k.bits x &&& BitVec.ofInt k.bits y).toNat)) := .int fun w => by simp [binOp, Op.intBits]
theorem or : BinRun P .or t (.int k x) (.int k y) (.int k (k.wrap (BitVec.ofInt k.bits x ||| BitVec.ofInt k.bits y).toNat)) := .int fun w => by simp [binOp, Op.intBits]
theorem shr {l : IntKind} (hy : decide (0 ≤ y) = true) : BinRun P .shr t (.int k x) (.int l y) (.int k (x.fdiv (2 ^ (min y.toNat k.bits)))) := fun X Y w => by
  have : ¬ y < 0 := by simpa using hy
  rw [Sem.run_bind, guard_int]; simp [binOp, Op.shift, this]
theorem beq_str (a b : ByteArray) : (a.toList == b.toList) = decide (a = b) := by
  have h : (a.toList = b.toList) ↔ a = b := by
    rw [ByteArray.toList_eq, ByteArray.toList_eq]
    constructor
    · intro h; cases a; cases b; congr; exact Array.toList_inj.1 h
    · rintro rfl; rfl
  by_cases e : a = b
  · simp [e]
  · simp [h, e]
theorem eqlS {a b : ByteArray} : BinRun P .eql t (.string a) (.string b) (.bool (decide (a = b))) := fun X Y w => by
  rw [Sem.run_bind, guard_string, ← beq_str]; simp [binOp, Op.stringOp]
theorem neqS {a b : ByteArray} : BinRun P .neq t (.string a) (.string b) (.bool (!decide (a = b))) := fun X Y w => by
  rw [Sem.run_bind, guard_string, ← beq_str]; simp [binOp, Op.stringOp]
theorem lssS {a b : ByteArray} : BinRun P .lss t (.string a) (.string b) (.bool (Op.bytesLess a.toList b.toList)) := fun X Y w => by
  rw [Sem.run_bind, guard_string]; simp [binOp, Op.stringOp]
theorem gtrS {a b : ByteArray} : BinRun P .gtr t (.string a) (.string b) (.bool (!(Op.bytesLess a.toList b.toList || decide (a = b)))) := fun X Y w => by
  rw [Sem.run_bind, guard_string, ← beq_str]; simp [binOp, Op.stringOp]
end B
theorem rl_not {t : TypeId} {x : Operand} {b : Bool} (hx : ev E x = some (.bool b)) (hn : Nat.blt d n = true) (h : RL P n ops rest K ((d, .bool (!b)) :: E) w) :
    RL P n ops (⟨some d, .unOp .not t x, ty, pos, af, none⟩ :: rest) K E w :=
  RL.op rfl rfl hn (fun a ha => by simp [execOp, ha.eval hx, Op.unary]) h
theorem rl_convInt {s t : TypeId} {x : Operand} {k l : IntKind} {i : Int} (hx : ev E x = some (.int l i)) (hs : ∃ u, P.underlying s = some u) (ht : P.underlying t = some (.int k)) (hn : Nat.blt d n = true) (h : RL P n ops rest K ((d, .int k (k.wrap i)) :: E) w) :
    RL P n ops (⟨some d, .convert s t x, ty, pos, af, none⟩ :: rest) K E w :=
  RL.op rfl rfl hn (fun a ha => by obtain ⟨u, hu⟩ := hs; simp [execOp, ha.eval hx, convert, run_underlying hu, run_underlying ht, Conv.intToInt]) h
theorem rl_lenSl {t : TypeId} {x : Operand} {a : Option Addr} {len cap : Nat} {el : TypeId} (hx : ev E x = some (.slice a len cap)) (ht : P.underlying t = some (.slice el)) (hn : Nat.blt d n = true)
    (h : RL P n ops rest K ((d, .int .i64 len) :: E) w) : RL P n ops (⟨some d, .call ⟨.builtin .len, #[x], #[t]⟩, ty, pos, af, none⟩ :: rest) K E w :=
  RL.op rfl rfl hn (fun a ha => by simp [execOp, resolve, invoke, builtin, Builtin.len_, run_underlying ht, ha.eval hx, goInt]) h
theorem rl_lenStr {t : TypeId} {x : Operand} {s : ByteArray} (hx : ev E x = some (.string s)) (ht : P.underlying t = some .string) (hn : Nat.blt d n = true)
    (h : RL P n ops rest K ((d, .int .i64 s.size) :: E) w) : RL P n ops (⟨some d, .call ⟨.builtin .len, #[x], #[t]⟩, ty, pos, af, none⟩ :: rest) K E w :=
  RL.op rfl rfl hn (fun a ha => by simp [execOp, resolve, invoke, builtin, Builtin.len_, run_underlying ht, ha.eval hx, goInt]) h
theorem rl_extract {i : Nat} {x : Operand} {vs : Array Value} {v : Value} (hx : ev E x = some (.tuple vs)) (hv : vs[i]? = some v) (hn : Nat.blt d n = true)
    (h : RL P n ops rest K ((d, v) :: E) w) : RL P n ops (⟨some d, .extract x i, ty, pos, af, none⟩ :: rest) K E w :=
  RL.op rfl rfl hn (fun a ha => by simp [execOp, ha.eval hx, Instr.extract, hv]) h
def evs (E : Env) : List Operand → Option (List Value)
  | [] => some []
  | x :: r => match ev E x, evs E r with | some v, some vs => some (v :: vs) | _, _ => none
theorem Ok.evals {a : Act} (ha : Ok n E a) : ∀ (l : List Operand) (vs : List Value), evs E l = some vs → l.map a.eval = vs
  | [], vs, h => by cases h; rfl
  | x :: r, vs, h => by
    simp only [evs] at h
    cases hx : ev E x with
    | none => rw [hx] at h; cases h
    | some v =>
      cases hr : evs E r with
      | none => rw [hx, hr] at h; cases h
      | some us =>
        rw [hx, hr] at h; cases h
        simp [ha.eval hx, ha.evals r us hr]
theorem rl_makeFunc {g : FuncId} {cap : Array Operand} {vs : List Value} (hc : evs E cap.toList = some vs) (hn : Nat.blt d n = true)
    (h : RL P n ops rest K ((d, .func (.func g) #[] vs.toArray) :: E) w) : RL P n ops (⟨some d, .makeFunc (.func g) #[] cap, ty, pos, af, none⟩ :: rest) K E w :=
  RL.op rfl rfl hn (fun a ha => by
    have : cap.map a.eval = vs.toArray := by rw [← ha.evals _ _ hc, ← Array.toList_map]
    simp [execOp, Instr.makeFunc, this]) h
theorem rl_call {g : FuncId} {x : Operand} {args : Array Operand} {tys : Array TypeId} {cap : List Value} {vs : List Value} {R : Value → World → Prop}
    (hx : ev E x = some (.func (.func g) #[] cap.toArray)) (ha : evs E args.toList = some vs) (he : Enters P g) (hn : Nat.blt d n = true) (hc : Ret P g (vs ++ cap).toArray w R)
    (h : ∀ v w', R v w' → RL P n ops rest K ((d, v) :: E) w') : RL P n ops (⟨some d, .call ⟨.value x, args, tys⟩, ty, pos, af, none⟩ :: rest) K E w :=
  RL.opCall rfl rfl hn (fun a hok => by
    have h1 : args.map a.eval = vs.toArray := by rw [← hok.evals _ _ ha, ← Array.toList_map]
    simp only [execOp, resolve, h1, hok.eval hx, Deferred.ofValue]
    simp [invoke, he _ w]) hc h
theorem rl_callF {g : FuncId} {args : Array Operand} {tys : Array TypeId} {vs : List Value} {R : Value → World → Prop}
    (ha : evs E args.toList = some vs) (he : Enters P g) (hn : Nat.blt d n = true) (hc : Ret P g vs.toArray w R)
    (h : ∀ v w', R v w' → RL P n ops rest K ((d, v) :: E) w') : RL P n ops (⟨some d, .call ⟨.value (.func g), args, tys⟩, ty, pos, af, none⟩ :: rest) K E w :=
  rl_call (cap := []) rfl ha he hn (by simpa using hc) h
def Blk (w : World) (b : Nat) (T : TypeId) (cs : List Value) : Prop := w.heap[b]? = some (.cells cs.toArray T (0, 0))
theorem Blk.lt {b : Nat} {T : TypeId} {cs : List Value} (h : Blk w b T cs) : b < w.heap.size := by
  unfold Blk at h
  rcases Nat.lt_or_ge b w.heap.size with h' | h'
  · exact h'
  · rw [Array.getElem?_eq_none h'] at h; cases h
theorem Blk.cell {b o : Nat} {T : TypeId} {cs : List Value} {v : Value} (h : Blk w b T cs) (hv : cs[o]? = some v) : w.cell? ⟨b, o, none⟩ = some v := by
  unfold Blk at h; simp [World.cell?, h, hv]
theorem Blk.seg {b : Nat} {T : TypeId} {cs : List Value} (h : Blk w b T cs) : Seg w b 0 cs := fun j v hv => by
  rw [Nat.zero_add]; exact h.cell hv
theorem Blk.segAt {b : Nat} {T : TypeId} {cs : List Value} (h : Blk w b T cs) (i m : Nat) : Seg w b i ((cs.drop i).take m) := by
  have := h.seg.sub i m; rwa [Nat.zero_add] at this
theorem Blk.ch {D : Nat → Prop} {w' : World} {b : Nat} {T : TypeId} {cs : List Value} (h : Blk w b T cs) (c : Ch D w w') (hd : ¬ D b) : Blk w' b T cs := by
  unfold Blk; rw [c.blk b h.lt hd]; exact h
theorem Blk.ch0 {w' : World} {b : Nat} {T : TypeId} {cs : List Value} (h : Blk w b T cs) (c : Ch nb w w') : Blk w' b T cs := h.ch c fun x => x
structure New (w w' : World) (b : Nat) : Prop where
  eq : b = w.heap.size
  sz : w'.heap.size = b + 1
  ch : Ch nb w w'
theorem New.alloc {o : Obj} : New w (w.alloc o) w.heap.size := ⟨rfl, by simp, Ch.alloc⟩
theorem run_box (T : TypeId) (v : Value) : (Instr.box T v).run P w = .ok (.pointer (some ⟨w.heap.size, 0, none⟩)) (w.alloc (.cells v.cells T)) := by
  simp [Instr.box, newVar, newRow]
theorem rl_box {T : TypeId} {x : Operand} {v : Value} (cs : List Value) (hx : ev E x = some v) (hc : v.cells.toList = cs) (hn : Nat.blt d n = true)
    (h : ∀ b w', New w w' b → Blk w' b T cs → RL P n ops rest K ((d, .pointer (some ⟨b, 0, none⟩)) :: E) w') : RL P n ops (⟨some d, .box T x, ty, pos, af, none⟩ :: rest) K E w :=
  RL.op (w' := w.alloc (.cells v.cells T)) rfl rfl hn (fun a ha => by simp only [execOp, ha.eval hx]; rw [Sem.run_bind, run_box]; rfl)
    (h _ _ New.alloc (by unfold Blk; rw [Go.heap_alloc_new, ← hc]))
theorem rl_boxA {T : TypeId} {x : Operand} {cs : List Value} (hx : ev E x = some (.agg cs.toArray)) (hn : Nat.blt d n = true)
    (h : ∀ b w', New w w' b → Blk w' b T cs → RL P n ops rest K ((d, .pointer (some ⟨b, 0, none⟩)) :: E) w') : RL P n ops (⟨some d, .box T x, ty, pos, af, none⟩ :: rest) K E w :=
  rl_box cs hx rfl hn h
theorem rl_alloc {T : TypeId} {z : Value} (cs : List Value) (hz : ∀ w, (zeroValue T).run P w = .ok z w) (hc : z.cells.toList = cs) (hn : Nat.blt d n = true)
    (h : ∀ b w', New w w' b → Blk w' b T cs → RL P n ops rest K ((d, .pointer (some ⟨b, 0, none⟩)) :: E) w') : RL P n ops (⟨some d, .alloc T, ty, pos, af, none⟩ :: rest) K E w :=
  RL.op (w' := w.alloc (.cells z.cells T)) rfl rfl hn (fun a ha => by simp [execOp, Instr.alloc, newVar, newRow, hz])
    (h _ _ New.alloc (by unfold Blk; rw [Go.heap_alloc_new, ← hc]))
def FA (P : Program) (s f off : Nat) : Prop := ∀ (b o : Nat) (w : World), (Instr.fieldAt s (.pointer (some ⟨b, o, none⟩)) f).run P w = .ok (.pointer (some ⟨b, o + off, none⟩)) w
theorem FA.mk {s f off ft m : Nat} {fs : Array Field} {fd : Field} (hs : P.underlying s = some (.struct fs)) (hf : fs[f]? = some fd) (ho : fd.offset = off) (ht : fd.type = ft)
    (hz : ∀ w, (sizeOf ft).run P w = .ok m w) (hm : Nat.beq m 0 = false) : FA P s f off := by
  intro b o w
  subst ho; subst ht
  have hm' : m ≠ 0 := fun e => by subst e; simp at hm
  simp only [Instr.fieldAt, Sem.run_bind, run_underlying hs, Result.andThen_ok, hf, Instr.sureAddr, Sem.run_pure, fieldPlace, hz]
  simp [Addr_add, hm']
theorem rl_fieldAddr {s f off b o : Nat} {x : Operand} (hx : ev E x = some (.pointer (some ⟨b, o, none⟩))) (hf : FA P s f off) (hn : Nat.blt d n = true)
    (h : RL P n ops rest K ((d, .pointer (some ⟨b, o + off, none⟩)) :: E) w) : RL P n ops (⟨some d, .fieldAddr s x f, ty, pos, af, none⟩ :: rest) K E w :=
  RL.op rfl rfl hn (fun a ha => by simp [execOp, ha.eval hx, hf b o w]) h
theorem run_loadS {t : TypeId} {a : Addr} {v : Value} (ht : ∀ w, (isAgg t).run P w = .ok false w) (hc : w.cell? a = some v) : (Instr.loadAt t (.pointer (some a))).run P w = .ok v w := by
  simp [Instr.loadAt, Instr.sureAddr, loadVar, ht, run_load, hc]
theorem rl_loadS {t b o : Nat} {x : Operand} {v : Value} (hx : ev E x = some (.pointer (some ⟨b, o, none⟩))) (ht : ∀ w, (isAgg t).run P w = .ok false w) (hc : w.cell? ⟨b, o, none⟩ = some v) (hn : Nat.blt d n = true)
    (h : RL P n ops rest K ((d, v) :: E) w) : RL P n ops (⟨some d, .load t x, ty, pos, af, none⟩ :: rest) K E w :=
  RL.op rfl rfl hn (fun a ha => by simp [execOp, ha.eval hx, run_loadS ht hc]) h
theorem run_loadA {t b o m : Nat} {cs : List Value} (ht : ∀ w, (isAgg t).run P w = .ok true w) (hz : ∀ w, (sizeOf t).run P w = .ok m w) (hc : Seg w b o cs) (hl : cs.length = m) :
    (Instr.loadAt t (.pointer (some ⟨b, o, none⟩))).run P w = .ok (.agg cs.toArray) w := by
  have := run_loadCells_list (P := P) (w := w) ⟨b, o, none⟩ cs (fun j v hv => by rw [Addr_add]; exact hc j v hv)
  simp [Instr.loadAt, Instr.sureAddr, loadVar, ht, hz, ← hl, this]
theorem rl_loadA {t b o m : Nat} {x : Operand} {cs : List Value} (hx : ev E x = some (.pointer (some ⟨b, o, none⟩))) (ht : ∀ w, (isAgg t).run P w = .ok true w) (hz : ∀ w, (sizeOf t).run P w = .ok m w)
    (hc : Seg w b o cs) (hl : cs.length = m) (hn : Nat.blt d n = true) (h : RL P n ops rest K ((d, .agg cs.toArray) :: E) w) : RL P n ops (⟨some d, .load t x, ty, pos, af, none⟩ :: rest) K E w :=
  RL.op rfl rfl hn (fun a ha => by simp [execOp, ha.eval hx, run_loadA ht hz hc hl]) h
theorem rl_ixSl {t b o len cap el m : Nat} {x i : Operand} {k : IntKind} (j : Nat) (hx : ev E x = some (.slice (some ⟨b, o, none⟩) len cap)) (hi : ev E i = some (.int k (j : Int))) (hj : j < len)
    (ht : P.underlying t = some (.slice el)) (hz : ∀ w, (sizeOf el).run P w = .ok m w) (hn : Nat.blt d n = true) (h : RL P n ops rest K ((d, .pointer (some ⟨b, o + j * m, none⟩)) :: E) w) :
    RL P n ops (⟨some d, .indexAddr t x i, ty, pos, af, none⟩ :: rest) K E w :=
  RL.op rfl rfl hn (fun a ha => by
    have h2 : ¬ len ≤ j := by omega
    simp [execOp, ha.eval hx, ha.eval hi, Instr.indexAt, asIntOf, run_underlying ht, hz, Addr_add, h2]) h
end
end Go.Proofs.YtkfhcfkbaaekoaaDoor.K
