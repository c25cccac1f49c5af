/- Elements of arrays through a pointer. General: no program is named. -/
import Derived.Test.YtkfhcfkbaaekoaaDoorK11
namespace Go.Proofs.YtkfhcfkbaaekoaaDoor.K
open Go
set_option linter.unusedVariables false
theorem Seg.one {w : World} {b o : Nat} {v : Value} (h : w.cell? ⟨b, o, none⟩ = some v) : Seg w b o [v] := fun j u hu => by
  cases j with
  | zero => simp at hu; subst hu; exact h
  | succ j => simp at hu
section
variable {P : Program} {n : Nat} {ops : Array Oper} {rest : List Oper} {K : Env → World → Prop} {E : Env} {w : World} {d : Nat} {ty : TypeId} {pos : String} {af : Array Edge}
theorem rl_ixArr {t el b o len : Nat} {X I : Operand} {kk : IntKind} {i : Int} {α : Type} {l : List α} {y : α} {val : α → Value} {cs : List Value} (hx : ev E X = some (.pointer (some ⟨b, o, none⟩))) (hi : ev E I = some (.int kk i)) (hj : 0 ≤ i ∧ i < (l.length : Int) ∧ l[i.toNat]? = some y)
    (ht : P.underlying t = some (.array len el)) (hl : l.length = len) (hz : ∀ w, (sizeOf el).run P w = .ok 1 w) (hs : Seg w b o cs) (hc : cs = l.map val) (hn : Nat.blt d n = true)
    (hK : w.cell? ⟨b, o + i.toNat, none⟩ = some (val y) → RL P n ops rest K ((d, .pointer (some ⟨b, o + i.toNat, none⟩)) :: E) w) : RL P n ops (⟨some d, .indexAddr t X I, ty, pos, af, none⟩ :: rest) K E w := by
  subst hc
  have hcell := hs i.toNat (val y) (by rw [List.getElem?_map, hj.2.2]; rfl)
  refine RL.op rfl rfl hn (fun a ha => ?_) (hK hcell)
  have h2 : i < (len : Int) := by omega
  simp [execOp, ha.eval hx, ha.eval hi, Instr.indexAt, asIntOf, run_underlying ht, hz, Addr_add, hj.1, h2, Instr.sureAddr]
theorem rl_ixArrP {t el b o len m off : Nat} {X I : Operand} {kk : IntKind} {i : Int} (hx : ev E X = some (.pointer (some ⟨b, o, none⟩))) (hi : ev E I = some (.int kk i)) (hj : (decide (0 ≤ i) && decide (i < (len : Int))) = true)
    (ht : P.underlying t = some (.array len el)) (hz : ∀ w, (sizeOf el).run P w = .ok m w) (ho : o + i.toNat * m = off) (hn : Nat.blt d n = true)
    (hK : RL P n ops rest K ((d, .pointer (some ⟨b, off, none⟩)) :: E) w) : RL P n ops (⟨some d, .indexAddr t X I, ty, pos, af, none⟩ :: rest) K E w := by
  subst ho
  rw [Bool.and_eq_true, decide_eq_true_iff, decide_eq_true_iff] at hj
  refine RL.op rfl rfl hn (fun a ha => ?_) hK
  simp [execOp, ha.eval hx, ha.eval hi, Instr.indexAt, asIntOf, run_underlying ht, hz, Addr_add, hj.1, hj.2, Instr.sureAddr]
end
end Go.Proofs.YtkfhcfkbaaekoaaDoor.K
