/- Slices of arrays, bytes held against each other, pointers against nil; what is one's own and came in with the call. General: no program is named. -/
import Derived.Test.YtkfhcfkbaaekoaaDoorK14
import Derived.Lib.Bytealg
import Derived.Laws.Externs
namespace Go.Proofs.YtkfhcfkbaaekoaaDoor.K
open Go
set_option linter.unusedVariables false

section
variable {P : Program} {n : Nat} {ops : Array Oper} {rest : List Oper} {K : Env → World → Prop} {E : Env} {w : World} {d : Nat} {ty : TypeId} {pos : String} {af : Array Edge}

/-- An array made from parts. -/
theorem rl_buildArr {t el len sz : Nat} {z : Value} {zs out : List Value} {parts : Array (Nat × Operand)} {vs : List (Nat × Value)} (hv : evP E parts.toList = some vs) (hu : P.underlying t = some (.array len el))
    (hsz : ∀ w, (sizeOf el).run P w = .ok sz w) (hz : ∀ w, (zeroValue t).run P w = .ok z w) (hzs : z.cells.toList = zs) (hf : fillL (fun i => some (i * sz, sz)) zs vs = some out) (hn : Nat.blt d n = true)
    (h : RL P n ops rest K ((d, .agg out.toArray) :: E) w) : RL P n ops (⟨some d, .build t parts, ty, pos, af, none⟩ :: rest) K E w :=
  RL.op rfl rfl hn (fun a ha => by
    have e : (parts.map fun (i, x) => (i, a.eval x)) = vs.toArray := by rw [← ha.evalP _ _ hv, ← Array.toList_map]
    have h1 := fill_eq _ vs zs out hf
    have e1 : z.cells = zs.toArray := by rw [← hzs]
    simp only [execOp]
    rw [Sem.run_bind]
    rw [show (parts.map fun (x : Nat × Operand) => match x with | (i, x) => (i, a.eval x)) = vs.toArray from e]
    have : (Instr.build t vs.toArray).run P w = .ok (.agg out.toArray) w := by
      simp only [Instr.build, Sem.run_bind, hz, Result.andThen_ok, run_underlying hu, hsz, e1, h1]
      rfl
    rw [this]; rfl) h

/-- a[:] of an array behind a pointer. -/
theorem rl_sliceArr {α : Type} {k : Kd α} {R : Nat → Prop} {t el b o len : Nat} {X : Operand} (l : List α) (val : α → Value) {cs : List Value} (hx : ev E X = some (.pointer (some ⟨b, o, none⟩)))
    (ht : P.underlying t = some (.array len el)) (hl : l.length = len) (hz : ∀ w, (sizeOf el).run P w = .ok 1 w) (hs : Seg w b o cs) (hc : cs = l.map val) (hk : k.n = 1) (hr : ∀ x, k.rep R w x [val x]) (hb : R b)
    (hbig : Nat.ble len 4294967296 = true) (hn : Nat.blt d n = true) (hK : ∀ v, slRep k R w l v → RL P n ops rest K ((d, v) :: E) w) : RL P n ops (⟨some d, .slice t X none none none, ty, pos, af, none⟩ :: rest) K E w := by
  subst hc; subst hl
  have hbig := Nat.le_of_ble_eq_true hbig
  refine RL.op rfl rfl hn (fun a ha => ?_) (hK (.slice (some ⟨b, o, none⟩) l.length l.length) (.inr ⟨b, o, l.length, ⟨none, rfl, fun _ => rfl⟩, Nat.le_refl _, by omega, fun i x hx => ⟨hb, [val x], hr x, fun j u hu => ?_⟩⟩))
  · simp only [execOp, ha.eval hx, Instr.sliceAt, Option.map_none]
    by_cases h0 : l.length = 0
    · simp [run_underlying ht, Instr.sureAddr, Instr.sliceBounds, hz, Addr_add, h0]
    · simp [run_underlying ht, Instr.sureAddr, Instr.sliceBounds, hz, Addr_add]
  · cases j with
    | zero =>
      simp only [List.getElem?_cons_zero, Option.some.injEq] at hu; subst hu
      rw [hk, Nat.mul_one, Nat.add_zero]
      exact hs i (val x) (by rw [List.getElem?_map, hx]; rfl)
    | succ j => simp at hu

/-- The bytes of a slice of bytes. -/
theorem loadBytes_run : ∀ (xs : List Int) (b o : Nat) (acc : ByteArray) (w : World), Seg w b o (xs.map (Value.int .u8)) →
    (Extern.Bytes.loadBytes ⟨b, o, none⟩ xs.length acc).run P w = .ok ⟨acc.data ++ (xs.map fun x => x.toNat.toUInt8).toArray⟩ w
  | [], b, o, acc, w, _ => by simp [Extern.Bytes.loadBytes]
  | x :: xs, b, o, acc, w, h => by
    have h0 := h 0 (.int .u8 x) rfl
    have ih := loadBytes_run xs b (o + 1) (acc.push x.toNat.toUInt8) w (fun j v hv => by
      have := h (j + 1) v (by simpa using hv)
      rw [Nat.add_assoc, Nat.add_comm 1 j]; exact this)
    rw [List.length_cons, Extern.Bytes.loadBytes, Sem.run_bind, run_load]
    rw [Nat.add_zero] at h0
    rw [h0]
    simp only [Result.andThen_ok, Addr_add]
    rw [ih]
    congr 1
    congr 1
    apply Array.toList_inj.1
    simp [ByteArray.push]
theorem bytesOf_run {R : Nat → Prop} {xs : List Int} {v : Value} (h : slRep (kInt .u8) R w xs v) : (Extern.Bytes.bytesOf v).run P w = .ok ⟨(xs.map fun x => x.toNat.toUInt8).toArray⟩ w := by
  rcases h.row (k := kInt .u8) Nat.one_pos with ⟨a, cap, rfl, rfl⟩ | ⟨b, o, cap, cs, rfl, _, _, hr, hs⟩
  · cases a with
    | none => rfl
    | some a => simp [Extern.Bytes.bytesOf, Extern.Bytes.loadBytes]; rfl
  · have hcs : cs = xs.map (Value.int .u8) := by
      apply List.ext_getElem?
      intro i
      have hl : cs.length = xs.length := by have := hr.len; simpa [kInt] using this
      rcases Nat.lt_or_ge i xs.length with hi | hi
      · obtain ⟨c, hc, hj⟩ := hr.el i xs[i] (List.getElem?_eq_getElem hi)
        have hc' : c = [.int .u8 xs[i]] := hc
        subst hc'
        have := hj 0 _ rfl
        have e : i * (kInt .u8).n + 0 = i := by show i * 1 + 0 = i; omega
        rw [e] at this
        rw [this, List.getElem?_map, List.getElem?_eq_getElem hi]; rfl
      · rw [List.getElem?_eq_none (by omega), List.getElem?_eq_none (by simpa using hi)]
    subst hcs
    have := loadBytes_run (P := P) xs b o .empty w hs
    rw [Extern.Bytes.bytesOf, this]
    congr 2
    simp
theorem cmpB_eq : ∀ xs ys : List Int, Lib.compareBytes (xs.map fun x => x.toNat.toUInt8) (ys.map fun x => x.toNat.toUInt8) = cmpB xs ys
  | [], [] => rfl
  | [], _ :: _ => rfl
  | _ :: _, [] => rfl
  | a :: ra, b :: rb => by
    rw [List.map_cons, List.map_cons, Lib.compareBytes, cmpB, cmpB_eq ra rb]
theorem rl_bcmp {R R' : Nat → Prop} {g : FuncId} {fn : Func} {X Y : Operand} {tys : Array TypeId} {xs ys : List Int} {u v : Value} (hx : ev E X = some u) (hy : ev E Y = some v) (hu : slRep (kInt .u8) R w xs u) (hv : slRep (kInt .u8) R' w ys v)
    (hf : P.funcs[g]? = some fn) (hname : (fn.name == "runtime.NumGoroutine") = false) (hb : fn.body.isNone = true) (hnx : Extern.findNext fn = none) (he : Extern.find fn = some Extern.BytealgCompare.compare) (hn : Nat.blt d n = true)
    (h : RL P n ops rest K ((d, .int .i64 (cmpB xs ys)) :: E) w) : RL P n ops (⟨some d, .call ⟨.value (.func g), #[X, Y], tys⟩, ty, pos, af, none⟩ :: rest) K E w :=
  RL.op rfl rfl hn (fun a ha => by
    have h2 : a.eval (.func g) = .func (.func g) #[] #[] := by simpa using ha.eval (x := .func g) (v := .func (.func g) #[] #[]) rfl
    have hc : (Extern.BytealgCompare.compare #[u, v]).run P w = .ok (.int .i64 (cmpB xs ys)) w := by
      change Sem.run P (do pure (goInt (Extern.BytealgCompare.cmp (← Extern.Bytes.bytesOf u) (← Extern.Bytes.bytesOf v)))) w = _
      simp only [Sem.run_bind, bytesOf_run hu, bytesOf_run hv, Result.andThen_ok, Sem.run_pure]
      rw [Lib.cmp_eq, ← cmpB_eq]; rfl
    have e0 := run_callFunc_extern hf hname hb hnx he #[u, v] w
    rw [hc] at e0
    simp only [execOp, resolve, List.map_toArray, List.map_cons, List.map_nil, ha.eval hx, ha.eval hy, h2, Deferred.ofValue, Sem.run_pure, Sem.run_bind, Result.andThen_ok, invoke, Array.append_empty]
    exact e0) h

theorem B.eqlPN {t e : TypeId} {a : Addr} (ht : P.underlying t = some (.pointer e)) : BinRun P .eql t (.pointer (some a)) (.pointer none) (.bool false) := fun X Y w => by
  have hp : P.underlying t = some (.pointer (P.pointee t)) := by simp [Program.pointee, ht]
  rw [Sem.run_bind]
  exact run_eql_pointer_nil w t (some a) hp
theorem B.neqPN {t e : TypeId} {a : Addr} (ht : P.underlying t = some (.pointer e)) : BinRun P .neq t (.pointer (some a)) (.pointer none) (.bool true) := fun X Y w => by
  have hp : P.underlying t = some (.pointer (P.pointee t)) := by simp [Program.pointee, ht]
  rw [Sem.run_bind]
  exact run_neq_pointer_nil w t (some a) hp
end

theorem one_nil : ∀ u ∈ ([] : List Value), u.oneCell' = true := fun _ h => by cases h
theorem one_cons {v : Value} {l : List Value} (h : v.oneCell' = true) (t : ∀ u ∈ l, u.oneCell' = true) : ∀ u ∈ v :: l, u.oneCell' = true := fun u hu => by
  cases hu with
  | head => exact h
  | tail _ hu => exact t u hu

/-- The values of a region, one by one. -/
def HistIs (h : List Value) : Nat → List Value → Prop
  | _, [] => True
  | i, v :: r => h[i]? = some v ∧ HistIs h (i + 1) r
theorem hist_eq (l h : List Value) (hl : h.length = l.length) (hh : HistIs h 0 l) : h = l := by
  have key : ∀ (r : List Value) (i : Nat), HistIs h i r → ∀ k v, r[k]? = some v → h[i + k]? = some v := by
    intro r
    induction r with
    | nil => intro i _ k v hk; simp at hk
    | cons x r ih =>
      intro i hi k v hk
      cases k with
      | zero => simp only [List.getElem?_cons_zero, Option.some.injEq] at hk; subst hk; exact hi.1
      | succ k =>
        have := ih (i + 1) hi.2 k v (by simpa using hk)
        rwa [show i + 1 + k = i + (k + 1) by omega] at this
  apply List.ext_getElem?
  intro k
  rcases Nat.lt_or_ge k l.length with hk | hk
  · rw [List.getElem?_eq_getElem hk]
    have := key l 0 hh k _ (List.getElem?_eq_getElem hk)
    rwa [Nat.zero_add] at this
  · rw [List.getElem?_eq_none hk, List.getElem?_eq_none (by omega)]
theorem inPre {l : List Nat} {i : Nat} (h : l.contains i = true) : i ∈ l := by simpa using h
/-- A slice of one's own whose elements hold no memory: whatever else is one's own. -/
theorem SlO.reS {α : Type} {k : Kd α} {T : TypeId} {F : Nat → Prop} {B : Nat} {S S' : Nat → Prop} {w : World} {xs : List α} {v : Value} (hp : ∀ {F F' : Nat → Prop} {w w' : World} {x : α} {cs : List Value}, k.rep F w x cs → k.rep F' w' x cs)
    (h : SlO k T F B S w xs v) (hm : ∀ b, inBlk v b → S' b) : SlO k T F B S' w xs v := by
  obtain ⟨cs, h1, h2⟩ := h.row
  exact ⟨⟨cs, h1, h2.len, fun i x hx => let ⟨c, hc, hj⟩ := h2.el i x hx; ⟨c, hp hc, hj⟩⟩, h.big, hm⟩
/-- .. it goes out as new. -/
theorem SlO.outP {α : Type} {k : Kd α} {T : TypeId} {F F' : Nat → Prop} {B n : Nat} {S : Nat → Prop} {w : World} {xs : List α} {v : Value} (hp : ∀ {F F' : Nat → Prop} {w w' : World} {x : α} {cs : List Value}, k.rep F w x cs → k.rep F' w' x cs)
    (h : SlO k T F B S w xs v) (hn : ∀ b, inBlk v b → n ≤ b) : SlO k T F' n (inBlk v) w xs v := by
  obtain ⟨cs, h1, h2⟩ := h.row
  refine ⟨⟨cs, ⟨h1.1, h1.2.imp id ?_⟩, h2.len, fun i x hx => let ⟨c, hc, hj⟩ := h2.el i x hx; ⟨c, hp hc, hj⟩⟩, h.big, fun _ h => h⟩
  rintro ⟨g, cap, cur, e, hg, hr⟩
  exact ⟨g, cap, cur, e, hn g (by rw [e]; rfl), hr⟩

/-! ### what is one's own: in the blocks that came with the call, or new -/
theorem linNew {O S : Nat → Prop} {m n : Nat} (hf : ∀ b, S b → n ≤ b) (h : m ≤ n) : ∀ b, S b → O b ∨ m ≤ b := fun b hb => .inr (Nat.le_trans h (hf b hb))
theorem linApp {O S S' : Nat → Prop} {m n : Nat} (hl : ∀ b, S b → O b ∨ m ≤ b) (hf : ∀ b, S' b → S b ∨ n ≤ b) (h : m ≤ n) : ∀ b, S' b → O b ∨ m ≤ b := fun b hb => (hf b hb).elim (hl b) fun x => .inr (Nat.le_trans h x)
theorem linNot {O S T : Nat → Prop} {m : Nat} (hl : ∀ b, S b → O b ∨ m ≤ b) (hd : ∀ b, O b → ¬ T b) (ht : ∀ b, T b → b < m) : ∀ b, S b → ¬ T b := fun b hb => (hl b hb).elim (hd b) fun x h => Nat.not_le_of_lt (ht b h) x
end Go.Proofs.YtkfhcfkbaaekoaaDoor.K
