/- How a call begins and ends; slices that are read, walked; loops over slices. General: no program is named. -/
import Derived.Test.YtkfhcfkbaaekoaaDoorK3
namespace Go.Proofs.YtkfhcfkbaaekoaaDoor.K
open Go
set_option linter.unusedVariables false
def argsE : Nat → List Value → Env
  | _, [] => []
  | i, v :: r => (i, v) :: argsE (i + 1) r
theorem look_argsE : ∀ (l : List Value) (i t : Nat) (v : Value), look (argsE i l) t = some v → i ≤ t ∧ l[t - i]? = some v
  | [], i, t, v, h => by simp [argsE, look] at h
  | u :: r, i, t, v, h => by
    simp only [argsE] at h
    rw [look_cons] at h
    by_cases e : i = t
    · rw [if_pos e] at h; cases h; subst e; simp
    · rw [if_neg e] at h
      obtain ⟨h1, h2⟩ := look_argsE r (i + 1) t v h
      refine ⟨by omega, ?_⟩
      obtain ⟨m, hm⟩ : ∃ m, t - i = m + 1 := ⟨t - i - 1, by omega⟩
      rw [hm, List.getElem?_cons_succ]
      rwa [show t - (i + 1) = m by omega] at h2
def Res1 (P : Program) (E : Env) (w : World) : ResultVar → Value → Prop
  | .tmp t, v => look E t = some v
  | .cell t ty, v => ∃ a, look E t = some (.pointer (some a)) ∧ (loadVar ty a).run P w = .ok v w
def ResL (P : Program) (E : Env) (w : World) : List ResultVar → List Value → Prop
  | [], [] => True
  | r :: rs, v :: vs => Res1 P E w r v ∧ ResL P E w rs vs
  | _, _ => False
def retP (P : Program) (rs : List ResultVar) (R : Value → World → Prop) : Exit → Env → World → Prop
  | .ret, E, w => ∃ vs, ResL P E w rs vs ∧ R (resVal vs) w
  | .normal, E, w => ∃ vs, ResL P E w rs vs ∧ R (resVal vs) w
  | _, _, _ => False
section
variable {P : Program} {n : Nat} {E : Env} {w : World}
def resM (tmps : Array Value) : ResultVar → Sem Value
  | .tmp t => pure (tmps.getD t undef)
  | .cell x t => do loadVar t (← asAddr (tmps.getD x undef))
theorem results_eq (fn : Func) (tmps : Array Value) : results fn tmps = (do let vs ← fn.results.mapM (resM tmps); pure (if h : vs.size = 1 then vs[0] else .tuple vs)) := rfl
theorem ResL.run {a : Act} (ha : Ok n E a) : ∀ (rs : List ResultVar) (vs : List Value), ResL P E w rs vs →
    (rs.mapM (resM a.tmps)).run P w = .ok vs w
  | [], [], _ => rfl
  | [], _ :: _, h => h.elim
  | _ :: _, [], h => h.elim
  | r :: rs, v :: vs, h => by
    obtain ⟨h1, h2⟩ := h
    have ih := ResL.run ha rs vs h2
    rw [List.mapM_cons]
    cases r with
    | tmp t =>
      have : a.tmps.getD t undef = v := by simp [ha.sl t v h1]
      simp only [Sem.run_bind, resM, Sem.run_pure, Result.andThen_ok, ih, this]
    | cell x t =>
      obtain ⟨p, hp, hl⟩ := h1
      have : a.tmps.getD x undef = .pointer (some p) := by simp [ha.sl x _ hp]
      have hq : (asAddr (.pointer (some p))).run P w = .ok p w := rfl
      simp only [Sem.run_bind, resM, this, hq, Result.andThen_ok, hl, ih, Sem.run_pure]
theorem results_run {fn : Func} {rs : List ResultVar} {vs : List Value} {a : Act} (ha : Ok n E a) (hr : fn.results = rs.toArray) (h : ResL P E w rs vs) : (results fn a.tmps).run P w = .ok (resVal vs) w := by
  rw [results_eq, hr, Array.mapM_eq_mapM_toList]
  simp only [Sem.run_bind, Sem.run_map]
  rw [ResL.run ha rs vs h]
  simp only [Result.andThen_ok, Sem.run_pure]
  congr 1
  match vs with
  | [] => rfl
  | [v] => rfl
  | v :: u :: r => simp [resVal]
theorem Ret.of {f : FuncId} {fn : Func} {c : Code} {args : List Value} {rs : List ResultVar} {R : Value → World → Prop} (hf : P.funcs[f]? = some fn) (hb : fn.body = some c) (hn : fn.ntmps = n) (hr : fn.results = rs.toArray)
    (hl : Nat.ble args.length n = true) (h : CW P n c (retP P rs R) (argsE 0 args) w) : Ret P f args.toArray w R := by
  refine calls_of_wp hf hb ?_
  have hl' := Nat.le_of_ble_eq_true hl
  have hok : Ok n (argsE 0 args) { tmps := args.toArray ++ Array.replicate (fn.ntmps - args.toArray.size) undef, defers := [] } := by
    refine ⟨by simp [hn]; omega, rfl, fun t v ht => ?_⟩
    obtain ⟨_, h2⟩ := look_argsE args 0 t v ht
    simp only [Nat.sub_zero] at h2
    have hlt : t < args.length := by
      rcases Nat.lt_or_ge t args.length with h' | h'
      · exact h'
      · rw [List.getElem?_eq_none h'] at h2; cases h2
    rw [Array.getElem?_append_left (by simpa using hlt)]
    simpa using h2
  refine Code.wp_mono (fun e a w' ⟨E', hok', hq⟩ => ?_) (h _ hok)
  cases e with
  | ret => obtain ⟨vs, h1, h2⟩ := hq; exact ⟨hok'.df, _, results_run hok' hr h1, _, rfl, h2⟩
  | normal => obtain ⟨vs, h1, h2⟩ := hq; exact ⟨hok'.df, _, results_run hok' hr h1, _, rfl, h2⟩
  | _ => exact hq.elim
theorem ret1 {t : Nat} {v : Value} {R : Value → World → Prop} (h : look E t = some v) (hR : R v w) : retP P [.tmp t] R .ret E w := ⟨[v], ⟨h, trivial⟩, hR⟩
theorem ret2 {s t : Nat} {u v : Value} {R : Value → World → Prop} (h : look E s = some u) (h' : look E t = some v) (hR : R (.tuple #[u, v]) w) : retP P [.tmp s, .tmp t] R .ret E w := ⟨[u, v], ⟨h, h', trivial⟩, hR⟩
theorem Res1.agg {t ty b o m : Nat} {cs : List Value} (h : look E t = some (.pointer (some ⟨b, o, none⟩))) (ht : ∀ w, (isAgg ty).run P w = .ok true w) (hz : ∀ w, (sizeOf ty).run P w = .ok m w) (hc : Seg w b o cs) (hl : cs.length = m) :
    Res1 P E w (.cell t ty) (.agg cs.toArray) := ⟨_, h, by simpa [Instr.loadAt, Instr.sureAddr] using run_loadA ht hz hc hl⟩
theorem Res1.one {t ty b o : Nat} {v : Value} (h : look E t = some (.pointer (some ⟨b, o, none⟩))) (ht : ∀ w, (isAgg ty).run P w = .ok false w) (hc : w.cell? ⟨b, o, none⟩ = some v) :
    Res1 P E w (.cell t ty) v := ⟨_, h, by simpa [Instr.loadAt, Instr.sureAddr] using run_loadS ht hc⟩
end
section
variable {K : Env → World → Prop} {Q : Exit → Env → World → Prop} {E : Env} {w : World} {id i : Nat}
theorem thn_n (h : K E w) : thn K Q .normal E w := h
theorem thn_ret (h : Q .ret E w) : thn K Q .ret E w := h
theorem thn_exit (h : Q (.exit i) E w) : thn K Q (.exit i) E w := h
theorem inB_n (h : Q .normal E w) : inB id Q .normal E w := h
theorem inB_ret (h : Q .ret E w) : inB id Q .ret E w := h
theorem inB_hit (h : Q .normal E w) : inB i Q (.exit i) E w := by simpa [inB] using h
end
theorem df {p : Prop} [Decidable p] (h : decide p = false) : ¬ p := of_decide_eq_false h
theorem ifT {α : Type} {b : Bool} {x y r : α} (hb : b = true) (h : (if b = true then x else y) = r) : x = r := by rwa [if_pos hb] at h
theorem ifF {α : Type} {b : Bool} {x y r : α} (hb : b = false) (h : (if b = true then x else y) = r) : y = r := by rwa [if_neg (by simp [hb])] at h
theorem wrap_succ {i m : Nat} (h : i < m) (hm : m ≤ 9223372036854775807) : IntKind.i64.wrap ((i : Int) + 1) = ((i + 1 : Nat) : Int) := by
  rw [Go.IntWalk.i64_in _ (by omega)]; omega
def At {α : Type} (xs : List α) (i : Nat) (rest : List α) : Prop := rest = xs.drop i ∧ i ≤ xs.length
section
variable {α : Type} {xs rest r : List α} {i : Nat} {x : α}
theorem At.start : At xs 0 xs := ⟨rfl, Nat.zero_le _⟩
theorem At.get (h : At xs i (x :: r)) : xs[i]? = some x := by
  have := congrArg (fun l => l[0]?) h.1
  simpa using this.symm
theorem At.lt (h : At xs i (x :: r)) : i < xs.length := by
  have := h.get
  rcases Nat.lt_or_ge i xs.length with h' | h'
  · exact h'
  · rw [List.getElem?_eq_none h'] at this; cases this
theorem At.next (h : At xs i (x :: r)) : At xs (i + 1) r := by
  refine ⟨?_, h.lt⟩
  have := congrArg (fun l => l.drop 1) h.1
  simp at this
  rw [this]
theorem At.nil (h : At xs i rest) (hi : decide ((i : Int) < (xs.length : Int)) = false) : rest = [] := by
  have := of_decide_eq_false hi
  rw [h.1]; apply List.drop_eq_nil_of_le; omega
theorem At.cons (h : At xs i rest) (hi : decide ((i : Int) < (xs.length : Int)) = true) : ∃ x r, rest = x :: r := by
  have := of_decide_eq_true hi
  cases rest with
  | nil =>
    have := congrArg List.length h.1
    simp at this; omega
  | cons x r => exact ⟨x, r, rfl⟩
end
section
variable {P : Program} {n : Nat} {ops : Array Oper} {rest : List Oper} {K : Env → World → Prop} {E : Env} {w : World}
variable {d : Nat} {ty : TypeId} {pos : String} {af : Array Edge}
variable {α : Type} {k : Kd α} {F : Nat → Prop} {xs : List α} {v : Value}
theorem rl_lenR {t : TypeId} {x : Operand} {el : TypeId} (hx : ev E x = some v) (h : slRep k F w xs v) (ht : P.underlying t = some (.slice el)) (hn : Nat.blt d n = true)
    (hK : RL P n ops rest K ((d, .int .i64 (xs.length : Nat)) :: E) w) : RL P n ops (⟨some d, .call ⟨.builtin .len, #[x], #[t]⟩, ty, pos, af, none⟩ :: rest) K E w := by
  obtain ⟨a, cap, rfl⟩ := h.shape
  exact rl_lenSl hx ht hn hK
theorem rl_inc {t yt : TypeId} {x : Operand} {i m : Nat} (hx : ev E x = some (.int .i64 (i : Nat))) (hi : i < m) (hm : m ≤ 9223372036854775807) (hn : Nat.blt d n = true)
    (hK : RL P n ops rest K ((d, .int .i64 ((i + 1 : Nat) : Int)) :: E) w) : RL P n ops (⟨some d, .binOp .add t x (.const (.int .i64 1)) yt, ty, pos, af, none⟩ :: rest) K E w :=
  rl_bin hx rfl (by have := B.add (P := P) (t := t) (k := .i64) (x := (i : Int)) (y := 1); rw [wrap_succ hi hm] at this; exact this) hn hK
theorem rl_ixR {t el : TypeId} {x i : Operand} {kk : IntKind} {j : Nat} {y : α} (hx : ev E x = some v) (h : slRep k F w xs v) (hi : ev E i = some (.int kk (j : Nat))) (hj : xs[j]? = some y)
    (ht : P.underlying t = some (.slice el)) (hz : ∀ w, (sizeOf el).run P w = .ok k.n w) (hn : Nat.blt d n = true)
    (hK : ∀ b o cs, k.rep F w y cs → Seg w b o cs → F b → RL P n ops rest K ((d, .pointer (some ⟨b, o, none⟩)) :: E) w) : RL P n ops (⟨some d, .indexAddr t x i, ty, pos, af, none⟩ :: rest) K E w := by
  rcases h with ⟨_, h⟩ | ⟨b, off, cap, h⟩
  · subst h; simp at hj
  · obtain ⟨hf, cs, hr, hs⟩ := h.el j y hj
    have hl : j < xs.length := by
      rcases Nat.lt_or_ge j xs.length with h' | h'
      · exact h'
      · rw [List.getElem?_eq_none h'] at hj; cases hj
    obtain ⟨s, hv, hs0⟩ := h.hv
    obtain rfl := hs0 (by rintro rfl; simp at hj)
    subst hv
    exact rl_ixSl j hx hi hl ht hz hn (hK b _ cs hr hs hf)
end
end Go.Proofs.YtkfhcfkbaaekoaaDoor.K
