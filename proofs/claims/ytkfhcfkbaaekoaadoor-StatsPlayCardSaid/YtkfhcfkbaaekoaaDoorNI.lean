import Derived.Test.YtkfhcfkbaaekoaaDoorK21
import Derived.Test.YtkfhcfkbaaekoaaDoorM
import Derived.WalkKit
import Derived.LaidEql
import Derived.Stop.Asserts
import Derived.RowKitTokens
/- errors.Is, at two errors of errors.New's make: by the guide's worked text for one sentinel, turned to this seat's numbers. -/
namespace Go.Proofs.YtkfhcfkbaaekoaaDoor
open Go K
open Go.RowKit Go.Extern.Stop Go.Stop Go.Extern
set_option linter.unusedVariables false
theorem Tryd.isTypeOf (v : Value) (w : World) : (Extern.ReflectliteType.typeOf #[.iface 156 v]).run Tryd.prog w = .ok (.iface 128 (.agg #[.pointer (some ⟨18, 156, none⟩)])) w := by kernel_rfl
theorem Tryd.isComparable (w : World) : (callFunc 90 #[.agg #[.pointer (some ⟨18, 156, none⟩)]]).run Tryd.prog w = .ok (.value (.bool true)) w := by kernel_rfl
theorem Tryd.isMethodComparable (v : Value) (w : World) : (Go.method 298 128 v "Comparable").run Tryd.prog w = .ok (90, v) w := by kernel_rfl
theorem Tryd.isComp : (Tryd.prog.info? 156).map (·.comparable) = some true := by kernel_rfl
theorem Tryd.isSize : (Tryd.prog.info? 186).map (·.size) = some 1 := by kernel_rfl
theorem Tryd.noIsE (v : Value) (xT : TypeId) (w : World) : (Instr.typeAssert (.iface 156 v) xT 130 true).run Tryd.prog w = .ok (.tuple #[.nilIface, .bool false]) w := run_typeAssert_lacksB Tryd.underlying130 (by kernel_rfl) (by kernel_rfl) v xT w
theorem Tryd.noUnwrapE (v : Value) (xT : TypeId) (w : World) : (Instr.typeAssert (.iface 156 v) xT 133 true).run Tryd.prog w = .ok (.tuple #[.nilIface, .bool false]) w := run_typeAssert_lacksB Tryd.underlying133 (by kernel_rfl) (by kernel_rfl) v xT w
theorem Tryd.noUnwrapsE (v : Value) (xT : TypeId) (w : World) : (Instr.typeAssert (.iface 156 v) xT 135 true).run Tryd.prog w = .ok (.tuple #[.nilIface, .bool false]) w := run_typeAssert_lacksB Tryd.underlying135 (by kernel_rfl) (by kernel_rfl) v xT w
theorem is_same (a : Go.Addr) (w : World) :
    Calls Tryd.prog 34 #[.iface 156 (.pointer (some a)), .iface 156 (.pointer (some a))] w fun e w' => e = .returned (.bool true) ∧ w' = w := by
  obtain ⟨i, hi, hcmp⟩ := Option.map_eq_some_iff.1 Tryd.isComp
  obtain ⟨j, hj, hjs⟩ := Option.map_eq_some_iff.1 Tryd.isSize
  have h8 := @run_callFunc_extern Tryd.prog 43 _ Extern.ReflectliteType.typeOf Tryd.func43 (by kernel_rfl) (by kernel_rfl) (by kernel_rfl) (by kernel_rfl)
  have tT := Tryd.isTypeOf
  have cT := Tryd.isComparable
  have mR := Tryd.isMethodComparable
  have heq := run_eql_iface_ptr_same (P := Tryd.prog) w a Tryd.underlying45 Tryd.underlying156 hi hcmp hj
  go_enter Tryd.func34, Tryd.ntmps34
  go_wp2
  refine wp_loop_rounds 1 ?_
  rw [rounds_succ]
  go_wp2
  go_ret
  exact ⟨rfl, rfl⟩
theorem is_other (a b : Go.Addr) (ca cb : Array Value) (ta tb : TypeId) (w : World) (hne : a ≠ b) (ha : w.heap[a.block]? = some (.cells ca ta (0, 0))) (hb : w.heap[b.block]? = some (.cells cb tb (0, 0))) :
    Calls Tryd.prog 34 #[.iface 156 (.pointer (some a)), .iface 156 (.pointer (some b))] w fun e w' => e = .returned (.bool false) ∧ w' = w := by
  obtain ⟨i, hi, hcmp⟩ := Option.map_eq_some_iff.1 Tryd.isComp
  obtain ⟨j, hj, hjs⟩ := Option.map_eq_some_iff.1 Tryd.isSize
  have h8 := @run_callFunc_extern Tryd.prog 43 _ Extern.ReflectliteType.typeOf Tryd.func43 (by kernel_rfl) (by kernel_rfl) (by kernel_rfl) (by kernel_rfl)
  have tT := Tryd.isTypeOf
  have cT := Tryd.isComparable
  have mR := Tryd.isMethodComparable
  have nE := Tryd.noIsE
  have uE := Tryd.noUnwrapE
  have vE := Tryd.noUnwrapsE
  have heq := run_eql_iface_ptr_other (P := Tryd.prog) w Tryd.underlying45 Tryd.underlying156 hi hcmp hj (by rw [hjs]; decide) hne ha hb
  go_enter Tryd.func34, Tryd.ntmps34
  go_wp2
  refine wp_loop_rounds 1 ?_
  rw [rounds_succ]
  go_wp2
  go_ret
  exact ⟨rfl, rfl⟩
theorem isS {F : Nat → Prop} {w : World} {ge : Nat → Value} {a0 a1 : Option Nat} {r : Bool} (gl : (kGL 156 18).rep F w ge [Value.bool true]) (hs : F34_Is a0 a1 = some r) : Ret Tryd.prog 34 #[(errV ge a0), (errV ge a1)] w fun v w' => v = (Value.bool r) ∧ Ch nb w w' := by
  obtain ⟨_, _, A, h3, h4⟩ := gl
  cases a0 with
  | none => simp [F34_Is] at hs
  | some g =>
    cases a1 with
    | none => simp [F34_Is] at hs
    | some h =>
      unfold F34_Is at hs
      simp only at hs
      split at hs
      · rename_i hgh
        cases hs
        obtain ⟨e1, _, _, c, t, b1⟩ := h3 g hgh.1
        obtain ⟨e2, _, _, c', t', b2⟩ := h3 h hgh.2
        show Ret Tryd.prog 34 #[ge g, ge h] w _
        rw [e1, e2]
        by_cases e : g = h
        · subst e
          refine Calls.mono (is_same (A g) w) fun en w' he => ?_
          obtain ⟨rfl, rfl⟩ := he
          exact ⟨_, rfl, by simp, Ch.refl⟩
        · refine Calls.mono (is_other (A g) (A h) c c' t t' w (fun e' => e (h4 g h hgh.1 hgh.2 e')) b1 b2) fun en w' he => ?_
          obtain ⟨rfl, rfl⟩ := he
          exact ⟨_, rfl, by simp [e], Ch.refl⟩
      · cases hs
end Go.Proofs.YtkfhcfkbaaekoaaDoor
