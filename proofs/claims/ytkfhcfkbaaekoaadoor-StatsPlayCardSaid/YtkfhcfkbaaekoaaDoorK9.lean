/- Equality of structs and arrays without memory. General: no program is named. -/
import Derived.Test.YtkfhcfkbaaekoaaDoorK8
import Derived.Laws.StructEq
namespace Go.Proofs.YtkfhcfkbaaekoaaDoor.K
open Go
set_option linter.unusedVariables false
def EqV {α : Type} [DecidableEq α] (P : Program) (t : TypeId) (val : α → Value) (n : Nat) : Prop :=
  ∀ (d : Nat) (x y : α) (w : World), Nat.ble n d = true → (Op.equalIn d t (val x) (val y)).run P w = .ok (decide (x = y)) w
section
variable {P : Program} {t : TypeId}
theorem pred_of_ble {n d : Nat} (h : Nat.ble (n + 1) d = true) : ∃ e, d = e + 1 ∧ Nat.ble n e = true := by
  have := Nat.le_of_ble_eq_true h
  exact ⟨d - 1, by omega, Nat.ble_eq_true_of_le (by omega)⟩
theorem ble_trans {m n d : Nat} (h : Nat.ble n d = true) (hm : Nat.ble m n = true) : Nat.ble m d = true := Nat.ble_eq_true_of_le (Nat.le_trans (Nat.le_of_ble_eq_true hm) (Nat.le_of_ble_eq_true h))
theorem EqV.int {k k' : IntKind} (h : P.underlying t = some (.int k')) : EqV P t (Value.int k) 1 := fun d x y w hd => by
  obtain ⟨e, rfl, _⟩ := pred_of_ble hd
  rw [run_equalIn_int w e t k k' x y h]; congr 1
theorem EqV.bool (h : P.underlying t = some .bool) : EqV P t Value.bool 1 := fun d x y w hd => by
  obtain ⟨e, rfl, _⟩ := pred_of_ble hd
  rw [run_equalIn_bool' w e t x y h]; cases x <;> cases y <;> rfl
theorem EqV.string (h : P.underlying t = some .string) : EqV P t Value.string 1 := fun d x y w hd => by
  obtain ⟨e, rfl, _⟩ := pred_of_ble hd
  rw [run_equalIn_string w e t x y h, ByteArray.toList_eq, ByteArray.toList_eq]
  congr 1
  obtain ⟨⟨x⟩⟩ := x
  obtain ⟨⟨y⟩⟩ := y
  rw [Bool.eq_iff_iff]; simp
theorem part_A {ft m off : Nat} {cs es : List Value} {w : World} (h : ∀ w, (isAgg ft).run P w = .ok true w) (hz : ∀ w, (sizeOf ft).run P w = .ok m w) (he : (cs.drop off).take m = es) : (part ft cs.toArray off).run P w = .ok (.agg es.toArray) w := by
  subst he
  simp [part, h, hz, List.extract_toArray, List.extract]
theorem part_S {ft off : Nat} {cs : Array Value} {w : World} {v : Value} (h : ∀ w, (isAgg ft).run P w = .ok false w) (hv : cs[off]? = some v) : (part ft cs off).run P w = .ok v w := by
  simp [part, h, hv]
theorem eqf_nil {d : Nat} {xs ys : Array Value} {w : World} : (Op.eqFields d xs ys []).run P w = .ok true w := by simp [Op.eqFields]
theorem eqf_cons {d : Nat} {xs ys : Array Value} {w : World} {f : Field} {fs : List Field} {a b : Value} {r s : Bool} (hn : (f.name == "_") = false) (ha : (part f.type xs f.offset).run P w = .ok a w) (hb : (part f.type ys f.offset).run P w = .ok b w)
    (he : (Op.equalIn d f.type a b).run P w = .ok r w) (hr : (Op.eqFields d xs ys fs).run P w = .ok s w) : (Op.eqFields d xs ys (f :: fs)).run P w = .ok (r && s) w := by
  have hn' : f.name ≠ "_" := by simpa using hn
  rw [Op.eqFields]
  simp only [if_pos hn', Sem.run_bind, ha, hb, he, Result.andThen_ok]
  cases r
  · simp
  · simpa using hr
theorem EqV.struct {α : Type} [DecidableEq α] {val : α → List Value} {n : Nat} {fs : Array Field} (hu : P.underlying t = some (.struct fs)) (hp : P.stoodInHeld t = false)
    (h : ∀ d x y w, Nat.ble n d = true → (Op.eqFields d (val x).toArray (val y).toArray fs.toList).run P w = .ok (decide (x = y)) w) : EqV P t (fun x => .agg (val x).toArray) (n + 1) := fun d x y w hd => by
  obtain ⟨e, rfl, he⟩ := pred_of_ble hd
  have hf : P.fieldsOf t = fs := by simp [Program.fieldsOf, hu]
  show (Op.equalIn (e + 1) t (.agg _) (.agg _)).run P w = _
  rw [run_equalIn_struct (P := P) w e t _ _ (by rw [hf]; exact hu) hp, hf]
  exact h e x y w he
theorem EqV.eql {α : Type} [DecidableEq α] {val : α → List Value} {n : Nat} (h : EqV P t (fun x => .agg (val x).toArray) n) (hg : P.eqGuardType P.depth t = false) (hn : Nat.ble n 10000 = true) (x y : α) :
    BinRun P .eql t (.agg (val x).toArray) (.agg (val y).toArray) (.bool (decide (x = y))) := fun X Y w => by
  have := h 10000 x y w hn
  rw [Sem.run_bind, run_eqGuard_agg w .eql t X Y _ _ hg, Result.andThen_ok, run_eql_struct]
  simp only at this
  rw [this]; rfl
theorem EqV.neq {α : Type} [DecidableEq α] {val : α → List Value} {n : Nat} (h : EqV P t (fun x => .agg (val x).toArray) n) (hg : P.eqGuardType P.depth t = false) (hn : Nat.ble n 10000 = true) (x y : α) :
    BinRun P .neq t (.agg (val x).toArray) (.agg (val y).toArray) (.bool (!decide (x = y))) := fun X Y w => by
  have := h 10000 x y w hn
  rw [Sem.run_bind, run_eqGuard_agg w .neq t X Y _ _ hg, Result.andThen_ok, run_neq_struct]
  simp only at this
  rw [this]; rfl
end
end Go.Proofs.YtkfhcfkbaaekoaaDoor.K
