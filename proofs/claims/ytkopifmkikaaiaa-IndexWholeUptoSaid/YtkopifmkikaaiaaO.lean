/- How the arguments are read, and each statement from its plain law. Written by a program of this session. -/
import Derived.Test.YtkopifmkikaaiaaK11
import Derived.Test.YtkopifmkikaaiaaRows
import Derived.Test.YtkopifmkikaaiaaU1
import Derived.JoinedCond
import Derived.OpenShut
import Derived.WalkKit
import Derived.ProofKit
import Derived.Test.YtkopifmkikaaiaaW1
import Derived.Test.YtkopifmkikaaiaaW2
namespace Go.Proofs.Ytkopifmkikaaiaa
open Go K
open Go.ChangeShapes Go.WideShapes Go.ChangeAt Go.RowKit
set_option linter.unusedVariables false
theorem Try.own : ownKnob Try.prog.godebug = none := by kernel_rfl
theorem Try.laidOut : laidOutB Try.prog = true := by kernel_rfl
def ok_Key (x : Key) : Prop := inS x.space ∧ inS x.name
def ok_Act (x : Act) : Prop := (inK .i64) x.kind ∧ ok_Key x.slice ∧ ok_Key x.owner
theorem op3 : Opens Try.prog 3 (kInt .i64) (inK .i64) := opens_int Try.underlying3
theorem cells3 : Try.prog.cellsOf 3 = 1 := by kernel_rfl
theorem op9 : Opens Try.prog 9 kStr inS := opens_str Try.underlying9
theorem cells9 : Try.prog.cellsOf 9 = 1 := by kernel_rfl
theorem cells32 : Try.prog.cellsOf 32 = 2 := by kernel_rfl
theorem op32 : Opens Try.prog 32 k_Key ok_Key := fun {H enc w spare held fuel cs x} h => by
  obtain ⟨hl, hf⟩ := field_open Try.underlying32 h
  rw [cells32] at hl
  obtain ⟨x0, r0, i0⟩ := hf 0 0 9 1 _ rfl rfl rfl cells9 op9
  obtain ⟨x1, r1, i1⟩ := hf 1 1 9 1 _ rfl rfl rfl cells9 op9
  have e : cs = (cs.drop 0).take 1 ++ ((cs.drop 1).take 1 ++ (cs.drop 2)) := ((cut_eq (cs := cs) 0 1).trans (congrArg ((cs.drop 0).take 1 ++ ·) (cut_eq (cs := cs) 1 1)))
  rw [(show (cs.drop 0).take 1 = _ from r0), (show (cs.drop 1).take 1 = _ from r1), List.drop_eq_nil_iff.2 (Nat.le_of_eq hl)] at e
  exact ⟨⟨x0, x1⟩, e, ⟨i0, i1⟩⟩
theorem cells34 : Try.prog.cellsOf 34 = 5 := by kernel_rfl
theorem op34 : Opens Try.prog 34 k_Act ok_Act := fun {H enc w spare held fuel cs x} h => by
  obtain ⟨hl, hf⟩ := field_open Try.underlying34 h
  rw [cells34] at hl
  obtain ⟨x0, r0, i0⟩ := hf 0 0 3 1 _ rfl rfl rfl cells3 op3
  obtain ⟨x1, r1, i1⟩ := hf 1 1 32 2 _ rfl rfl rfl cells32 op32
  obtain ⟨x2, r2, i2⟩ := hf 2 3 32 2 _ rfl rfl rfl cells32 op32
  have e : cs = (cs.drop 0).take 1 ++ ((cs.drop 1).take 2 ++ ((cs.drop 3).take 2 ++ (cs.drop 5))) := ((cut_eq (cs := cs) 0 1).trans (congrArg ((cs.drop 0).take 1 ++ ·) ((cut_eq (cs := cs) 1 2).trans (congrArg ((cs.drop 1).take 2 ++ ·) (cut_eq (cs := cs) 3 2)))))
  rw [(show (cs.drop 0).take 1 = _ from r0), (show (cs.drop 1).take 2 = _ from r1), (show (cs.drop 3).take 2 = _ from r2), List.drop_eq_nil_iff.2 (Nat.le_of_eq hl)] at e
  exact ⟨⟨x0, x1, x2⟩, e, ⟨i0, i1, i2⟩⟩
theorem op22 : Opens Try.prog 22 (k_Act.sl k_Act_pos) (fun l => ∀ x ∈ l, ok_Act x) := opens_sl k_Act_pos Try.underlying22 cells34 op34
/-- What is left to show of the statement: plain Lean. -/
def Plain4 : Prop := ∀ (a0 : (List Act)) (a1 : Act), (fun l => ∀ x ∈ l, ok_Act x) a0 → ok_Act a1 → a0.length ≤ 1048576 → F4_IndexWho a0 a1 = some true
theorem indexWhole_contract (hl : Plain4) (H : Type) (enc : TypeId × Value → H) (W : World) (base : Nat) (args : Array Value) (ds gs : List (DataW H)) (before : List MemPlace)
    (hval0 : ∀ (j : Nat) t v, Try.f4.params[j]? = some t → args[j]? = some v → Value.okWide Try.prog W .any base t v)
    (hW : DataW.Whole enc Try.prog Try.f4.params.toList Rows.indexWholeSpec.vars false W args.toList ds gs before) (hk : Rows.uptoSmall H (ds ++ gs) = true) :
    Calls Try.prog 4 args W fun e W' => ∃ v, e = .returned v ∧ Rows.indexWholeSpec.post enc Try.prog Try.f4 false true false false W args v W' := by
  have hval : ∀ (j : Nat) t v, Try.f4.params[j]? = some t → args[j]? = some v → Value.okWide Try.prog W .any base t v := hval0
  have hW' := hW
  obtain ⟨p, q, hA0, hV, rfl, hfz, hnd⟩ := hW
  have hA : DataW.TrodAll enc Try.prog W 0 (fun _ => true) true Try.f4.params.toList args.toList ds p := hA0
  rw [Try.params4] at hA hval
  obtain ⟨v0, v1, d0, d1, p0, p1, rfl, rfl, rfl, t0, t1⟩ := trodAll_two hA
  obtain ⟨rfl, rfl⟩ := trodVars_none hV
  obtain ⟨f0, e0⟩ := id t0
  obtain ⟨a0, r0, i0⟩ := op22 e0
  obtain ⟨b0, l0, c0, rfl⟩ := okWide_slice Try.underlying22 (hval 0 22 v0 rfl rfl)
  obtain ⟨z0, g0, s0⟩ := r0
  obtain rfl : Value.slice b0 l0 c0 = z0 := by simpa [Value.cells] using g0
  obtain ⟨f1, e1⟩ := id t1
  obtain ⟨a1, r1, i1⟩ := op34 e1
  obtain ⟨cs1, rfl, _⟩ := okWide_struct Try.underlying34 (hval 1 34 v1 rfl rfl)
  obtain rfl : cs1 = (Act.enc a1).toArray := Array.toList_inj.1 (show cs1.toList = _ from r1)
  refine Calls.mono (ctr4 allB W a0 _ s0 a1 true (hl a0 a1 i0 i1 (bulk_sl Try.underlying22 e0 s0 (by simp) hk))) fun e W' he => ?_
  obtain ⟨v, rfl, rfl, c⟩ := he
  have hb : Below W.heap.size W W' := ⟨c.os, c.tape, c.output, c.size, fun k hk => c.blk k hk (fun x => x)⟩
  have u0 := Below.trod Try.laidOut (by kernel_rfl) (of_decide_eq_true (by kernel_rfl)) t0 hb (DataW.trod_lt _ _ _ _ e0)
  have u1 := Below.trod Try.laidOut (by kernel_rfl) (of_decide_eq_true (by kernel_rfl)) t1 hb (DataW.trod_lt _ _ _ _ e1)
  exact ⟨_, rfl, _, _, _, [], _, [], hW', trodAll_mk1 (shut_bool Try.underlying4 true), ⟨_, _, u0, ⟨_, _, u1, rfl, rfl⟩, rfl⟩, rfl, hb.frame _, fun h => by cases h⟩
set_option maxRecDepth 100000 in
theorem indexWhole_lifted (hl : Plain4) (os : Os) (started : os.Started) (H : Type) (enc : TypeId × Value → H) (F : Stop.Interp) :
    ReturnsInHanded {} Try.checked os 4 .any ((Rows.OpenSpec.upto Rows.indexWholeSpec).pre6 enc Try.prog Try.f4 Rows.indexWholeUptoRow.domain false) (((Rows.OpenSpec.upto Rows.indexWholeSpec).at F).post enc Try.prog Try.f4 false true false false) := by
  refine returnsInHanded_of_cond (C := Try.checked) (s := Rows.OpenSpec.upto Rows.indexWholeSpec) (k := Rows.uptoSmall) rfl Try.own started (by kernel_rfl) Try.func4
    (OpenSpec.witness (enc := enc) (C := Try.checked) (s := Rows.OpenSpec.upto Rows.indexWholeSpec) (k := Rows.uptoSmall) rfl false ⟨#[], #[.slice none 0 0, .agg #[.int .i64 0, .string ⟨#[]⟩, .string ⟨#[]⟩, .string ⟨#[]⟩, .string ⟨#[]⟩]], []⟩ 8 (by kernel_rfl) (by kernel_rfl) (by kernel_rfl)
      (x := ([.nil, .agg [.lit (.int .i64 0), .agg [.lit (.string []), .lit (.string [])], .agg [.lit (.string []), .lit (.string [])]]], [], [])) (by kernel_rfl) rfl (by kernel_rfl)) ?_
  intro W base args ds gs before hval hW _ hk _
  exact indexWhole_contract hl H enc W base args ds gs before hval hW hk
theorem indexWhole_of (hl : Plain4) : Rows.IndexWholeUptoSaid :=
  OpenClaim.holds_of_cond 4 Try.f4 rfl rfl rfl rfl rfl rfl rfl ⟨rfl, rfl, rfl, rfl, rfl⟩ rfl rfl rfl rfl rfl (by kernel_rfl) Try.func4 (by kernel_rfl)
    (of_decide_eq_true (by kernel_rfl)) (by unfold Func.isWrapper; rw [if_neg (by decide +kernel)]; exact ⟨rfl, rfl⟩)
    (fun os started H enc _ F => indexWhole_lifted hl os started H enc F)
end Go.Proofs.Ytkopifmkikaaiaa
