/- How the arguments are read, and each statement from its plain law. Written by a program of this session. -/
import Derived.Test.YteoaobiglodblaaK11
import Derived.Test.YteoaobiglodblaaRows
import Derived.Test.YteoaobiglodblaaW1
import Derived.Test.YteoaobiglodblaaW2
import Derived.Test.YteoaobiglodblaaW3
import Derived.Test.YteoaobiglodblaaW4
import Derived.Test.YteoaobiglodblaaW5
import Derived.Test.YteoaobiglodblaaW6
namespace Go.Proofs.Yteoaobiglodblaa
open Go K
open Go.ChangeShapes Go.WideShapes Go.ChangeAt Go.RowKit
set_option linter.unusedVariables false
theorem Try.own : ownKnob Try.prog.godebug = none := by kernel_rfl
theorem Try.laidOut : laidOutB Try.prog = true := by kernel_rfl
def ok_Want (x : Want) : Prop := inS x.name ∧ (inK .i64) x.proto ∧ (fun _ => True) x.six ∧ (fun _ => True) x.localF ∧ (fun _ => True) x.hinted ∧ inS x.node ∧ inS x.zone
theorem op9 : Opens Try.prog 9 kStr inS := opens_str Try.underlying9
theorem cells9 : Try.prog.cellsOf 9 = 1 := by kernel_rfl
theorem op3 : Opens Try.prog 3 (kInt .i64) (inK .i64) := opens_int Try.underlying3
theorem cells3 : Try.prog.cellsOf 3 = 1 := by kernel_rfl
theorem op4 : Opens Try.prog 4 kBool (fun _ => True) := opens_bool Try.underlying4
theorem cells4 : Try.prog.cellsOf 4 = 1 := by kernel_rfl
theorem cells24 : Try.prog.cellsOf 24 = 7 := by kernel_rfl
theorem op24 : Opens Try.prog 24 k_Want ok_Want := fun {H enc w spare held fuel cs x} h => by
  obtain ⟨hl, hf⟩ := field_open Try.underlying24 h
  rw [cells24] at hl
  obtain ⟨x0, r0, i0⟩ := hf 0 0 9 1 _ rfl rfl rfl cells9 op9
  obtain ⟨x1, r1, i1⟩ := hf 1 1 3 1 _ rfl rfl rfl cells3 op3
  obtain ⟨x2, r2, i2⟩ := hf 2 2 4 1 _ rfl rfl rfl cells4 op4
  obtain ⟨x3, r3, i3⟩ := hf 3 3 4 1 _ rfl rfl rfl cells4 op4
  obtain ⟨x4, r4, i4⟩ := hf 4 4 4 1 _ rfl rfl rfl cells4 op4
  obtain ⟨x5, r5, i5⟩ := hf 5 5 9 1 _ rfl rfl rfl cells9 op9
  obtain ⟨x6, r6, i6⟩ := hf 6 6 9 1 _ rfl rfl rfl cells9 op9
  have e : cs = (cs.drop 0).take 1 ++ ((cs.drop 1).take 1 ++ ((cs.drop 2).take 1 ++ ((cs.drop 3).take 1 ++ ((cs.drop 4).take 1 ++ ((cs.drop 5).take 1 ++ ((cs.drop 6).take 1 ++ (cs.drop 7))))))) := ((cut_eq (cs := cs) 0 1).trans (congrArg ((cs.drop 0).take 1 ++ ·) ((cut_eq (cs := cs) 1 1).trans (congrArg ((cs.drop 1).take 1 ++ ·) ((cut_eq (cs := cs) 2 1).trans (congrArg ((cs.drop 2).take 1 ++ ·) ((cut_eq (cs := cs) 3 1).trans (congrArg ((cs.drop 3).take 1 ++ ·) ((cut_eq (cs := cs) 4 1).trans (congrArg ((cs.drop 4).take 1 ++ ·) ((cut_eq (cs := cs) 5 1).trans (congrArg ((cs.drop 5).take 1 ++ ·) (cut_eq (cs := cs) 6 1)))))))))))))
  rw [(show (cs.drop 0).take 1 = _ from r0), (show (cs.drop 1).take 1 = _ from r1), (show (cs.drop 2).take 1 = _ from r2), (show (cs.drop 3).take 1 = _ from r3), (show (cs.drop 4).take 1 = _ from r4), (show (cs.drop 5).take 1 = _ from r5), (show (cs.drop 6).take 1 = _ from r6), List.drop_eq_nil_iff.2 (Nat.le_of_eq hl)] at e
  exact ⟨⟨x0, x1, x2, x3, x4, x5, x6⟩, e, ⟨i0, i1, i2, i3, i4, i5, i6⟩⟩
def ok_Key (x : Key) : Prop := inS x.space ∧ inS x.name
def ok_Port (x : Port) : Prop := inS x.name ∧ (inK .i64) x.proto ∧ (inK .i64) x.port ∧ (inK .i64) x.outer
def ok_A16u8 (x : A16u8) : Prop := (inK .u8) x.e0 ∧ (inK .u8) x.e1 ∧ (inK .u8) x.e2 ∧ (inK .u8) x.e3 ∧ (inK .u8) x.e4 ∧ (inK .u8) x.e5 ∧ (inK .u8) x.e6 ∧ (inK .u8) x.e7 ∧ (inK .u8) x.e8 ∧ (inK .u8) x.e9 ∧ (inK .u8) x.e10 ∧ (inK .u8) x.e11 ∧ (inK .u8) x.e12 ∧ (inK .u8) x.e13 ∧ (inK .u8) x.e14 ∧ (inK .u8) x.e15
def ok_Addr (x : Addr) : Prop := (fun _ => True) x.six ∧ ok_A16u8 x.b
def ok_Endpoint (x : Endpoint) : Prop := ok_Addr x.addr ∧ inS x.node ∧ (fun _ => True) x.ready ∧ (fun _ => True) x.serving ∧ (fun _ => True) x.terminating ∧ (fun l => ∀ x ∈ l, inS x) x.zones
def ok_Slice (x : Slice) : Prop := ok_Key x.key ∧ inS x.service ∧ (fun _ => True) x.six ∧ (fun l => ∀ x ∈ l, ok_Port x) x.ports ∧ (fun l => ∀ x ∈ l, ok_Endpoint x) x.endpoints
theorem cells67 : Try.prog.cellsOf 67 = 2 := by kernel_rfl
theorem op67 : Opens Try.prog 67 k_Key ok_Key := fun {H enc w spare held fuel cs x} h => by
  obtain ⟨hl, hf⟩ := field_open Try.underlying67 h
  rw [cells67] at hl
  obtain ⟨x0, r0, i0⟩ := hf 0 0 9 1 _ rfl rfl rfl cells9 op9
  obtain ⟨x1, r1, i1⟩ := hf 1 1 9 1 _ rfl rfl rfl cells9 op9
  have e : cs = (cs.drop 0).take 1 ++ ((cs.drop 1).take 1 ++ (cs.drop 2)) := ((cut_eq (cs := cs) 0 1).trans (congrArg ((cs.drop 0).take 1 ++ ·) (cut_eq (cs := cs) 1 1)))
  rw [(show (cs.drop 0).take 1 = _ from r0), (show (cs.drop 1).take 1 = _ from r1), List.drop_eq_nil_iff.2 (Nat.le_of_eq hl)] at e
  exact ⟨⟨x0, x1⟩, e, ⟨i0, i1⟩⟩
theorem cells83 : Try.prog.cellsOf 83 = 4 := by kernel_rfl
theorem op83 : Opens Try.prog 83 k_Port ok_Port := fun {H enc w spare held fuel cs x} h => by
  obtain ⟨hl, hf⟩ := field_open Try.underlying83 h
  rw [cells83] at hl
  obtain ⟨x0, r0, i0⟩ := hf 0 0 9 1 _ rfl rfl rfl cells9 op9
  obtain ⟨x1, r1, i1⟩ := hf 1 1 3 1 _ rfl rfl rfl cells3 op3
  obtain ⟨x2, r2, i2⟩ := hf 2 2 3 1 _ rfl rfl rfl cells3 op3
  obtain ⟨x3, r3, i3⟩ := hf 3 3 3 1 _ rfl rfl rfl cells3 op3
  have e : cs = (cs.drop 0).take 1 ++ ((cs.drop 1).take 1 ++ ((cs.drop 2).take 1 ++ ((cs.drop 3).take 1 ++ (cs.drop 4)))) := ((cut_eq (cs := cs) 0 1).trans (congrArg ((cs.drop 0).take 1 ++ ·) ((cut_eq (cs := cs) 1 1).trans (congrArg ((cs.drop 1).take 1 ++ ·) ((cut_eq (cs := cs) 2 1).trans (congrArg ((cs.drop 2).take 1 ++ ·) (cut_eq (cs := cs) 3 1)))))))
  rw [(show (cs.drop 0).take 1 = _ from r0), (show (cs.drop 1).take 1 = _ from r1), (show (cs.drop 2).take 1 = _ from r2), (show (cs.drop 3).take 1 = _ from r3), List.drop_eq_nil_iff.2 (Nat.le_of_eq hl)] at e
  exact ⟨⟨x0, x1, x2, x3⟩, e, ⟨i0, i1, i2, i3⟩⟩
theorem op68 : Opens Try.prog 68 (k_Port.sl k_Port_pos) (fun l => ∀ x ∈ l, ok_Port x) := opens_sl k_Port_pos Try.underlying68 cells83 op83
theorem cells68 : Try.prog.cellsOf 68 = 1 := by kernel_rfl
theorem op5 : Opens Try.prog 5 (kInt .u8) (inK .u8) := opens_int Try.underlying5
theorem cells5 : Try.prog.cellsOf 5 = 1 := by kernel_rfl
theorem cells37 : Try.prog.cellsOf 37 = 16 := by kernel_rfl
theorem op37 : Opens Try.prog 37 k_A16u8 ok_A16u8 := fun {H enc w spare held fuel cs x} h => by
  obtain ⟨hl, hf⟩ := array_open Try.underlying37 h
  rw [cells37] at hl
  obtain ⟨x0, r0, i0⟩ := hf 0 1 (by decide) cells5 op5
  obtain ⟨x1, r1, i1⟩ := hf 1 1 (by decide) cells5 op5
  obtain ⟨x2, r2, i2⟩ := hf 2 1 (by decide) cells5 op5
  obtain ⟨x3, r3, i3⟩ := hf 3 1 (by decide) cells5 op5
  obtain ⟨x4, r4, i4⟩ := hf 4 1 (by decide) cells5 op5
  obtain ⟨x5, r5, i5⟩ := hf 5 1 (by decide) cells5 op5
  obtain ⟨x6, r6, i6⟩ := hf 6 1 (by decide) cells5 op5
  obtain ⟨x7, r7, i7⟩ := hf 7 1 (by decide) cells5 op5
  obtain ⟨x8, r8, i8⟩ := hf 8 1 (by decide) cells5 op5
  obtain ⟨x9, r9, i9⟩ := hf 9 1 (by decide) cells5 op5
  obtain ⟨x10, r10, i10⟩ := hf 10 1 (by decide) cells5 op5
  obtain ⟨x11, r11, i11⟩ := hf 11 1 (by decide) cells5 op5
  obtain ⟨x12, r12, i12⟩ := hf 12 1 (by decide) cells5 op5
  obtain ⟨x13, r13, i13⟩ := hf 13 1 (by decide) cells5 op5
  obtain ⟨x14, r14, i14⟩ := hf 14 1 (by decide) cells5 op5
  obtain ⟨x15, r15, i15⟩ := hf 15 1 (by decide) cells5 op5
  have e : cs = (cs.drop 0).take 1 ++ ((cs.drop 1).take 1 ++ ((cs.drop 2).take 1 ++ ((cs.drop 3).take 1 ++ ((cs.drop 4).take 1 ++ ((cs.drop 5).take 1 ++ ((cs.drop 6).take 1 ++ ((cs.drop 7).take 1 ++ ((cs.drop 8).take 1 ++ ((cs.drop 9).take 1 ++ ((cs.drop 10).take 1 ++ ((cs.drop 11).take 1 ++ ((cs.drop 12).take 1 ++ ((cs.drop 13).take 1 ++ ((cs.drop 14).take 1 ++ ((cs.drop 15).take 1 ++ (cs.drop 16)))))))))))))))) := ((cut_eq (cs := cs) 0 1).trans (congrArg ((cs.drop 0).take 1 ++ ·) ((cut_eq (cs := cs) 1 1).trans (congrArg ((cs.drop 1).take 1 ++ ·) ((cut_eq (cs := cs) 2 1).trans (congrArg ((cs.drop 2).take 1 ++ ·) ((cut_eq (cs := cs) 3 1).trans (congrArg ((cs.drop 3).take 1 ++ ·) ((cut_eq (cs := cs) 4 1).trans (congrArg ((cs.drop 4).take 1 ++ ·) ((cut_eq (cs := cs) 5 1).trans (congrArg ((cs.drop 5).take 1 ++ ·) ((cut_eq (cs := cs) 6 1).trans (congrArg ((cs.drop 6).take 1 ++ ·) ((cut_eq (cs := cs) 7 1).trans (congrArg ((cs.drop 7).take 1 ++ ·) ((cut_eq (cs := cs) 8 1).trans (congrArg ((cs.drop 8).take 1 ++ ·) ((cut_eq (cs := cs) 9 1).trans (congrArg ((cs.drop 9).take 1 ++ ·) ((cut_eq (cs := cs) 10 1).trans (congrArg ((cs.drop 10).take 1 ++ ·) ((cut_eq (cs := cs) 11 1).trans (congrArg ((cs.drop 11).take 1 ++ ·) ((cut_eq (cs := cs) 12 1).trans (congrArg ((cs.drop 12).take 1 ++ ·) ((cut_eq (cs := cs) 13 1).trans (congrArg ((cs.drop 13).take 1 ++ ·) ((cut_eq (cs := cs) 14 1).trans (congrArg ((cs.drop 14).take 1 ++ ·) (cut_eq (cs := cs) 15 1)))))))))))))))))))))))))))))))
  rw [(show (cs.drop 0).take 1 = _ from r0), (show (cs.drop 1).take 1 = _ from r1), (show (cs.drop 2).take 1 = _ from r2), (show (cs.drop 3).take 1 = _ from r3), (show (cs.drop 4).take 1 = _ from r4), (show (cs.drop 5).take 1 = _ from r5), (show (cs.drop 6).take 1 = _ from r6), (show (cs.drop 7).take 1 = _ from r7), (show (cs.drop 8).take 1 = _ from r8), (show (cs.drop 9).take 1 = _ from r9), (show (cs.drop 10).take 1 = _ from r10), (show (cs.drop 11).take 1 = _ from r11), (show (cs.drop 12).take 1 = _ from r12), (show (cs.drop 13).take 1 = _ from r13), (show (cs.drop 14).take 1 = _ from r14), (show (cs.drop 15).take 1 = _ from r15), List.drop_eq_nil_iff.2 (Nat.le_of_eq hl)] at e
  exact ⟨⟨x0, x1, x2, x3, x4, x5, x6, x7, x8, x9, x10, x11, x12, x13, x14, x15⟩, e, ⟨i0, i1, i2, i3, i4, i5, i6, i7, i8, i9, i10, i11, i12, i13, i14, i15⟩⟩
theorem cells39 : Try.prog.cellsOf 39 = 17 := by kernel_rfl
theorem op39 : Opens Try.prog 39 k_Addr ok_Addr := fun {H enc w spare held fuel cs x} h => by
  obtain ⟨hl, hf⟩ := field_open Try.underlying39 h
  rw [cells39] at hl
  obtain ⟨x0, r0, i0⟩ := hf 0 0 4 1 _ rfl rfl rfl cells4 op4
  obtain ⟨x1, r1, i1⟩ := hf 1 1 37 16 _ rfl rfl rfl cells37 op37
  have e : cs = (cs.drop 0).take 1 ++ ((cs.drop 1).take 16 ++ (cs.drop 17)) := ((cut_eq (cs := cs) 0 1).trans (congrArg ((cs.drop 0).take 1 ++ ·) (cut_eq (cs := cs) 1 16)))
  rw [(show (cs.drop 0).take 1 = _ from r0), (show (cs.drop 1).take 16 = _ from r1), List.drop_eq_nil_iff.2 (Nat.le_of_eq hl)] at e
  exact ⟨⟨x0, x1⟩, e, ⟨i0, i1⟩⟩
theorem op42 : Opens Try.prog 42 (kStr.sl kStr_pos) (fun l => ∀ x ∈ l, inS x) := opens_sl kStr_pos Try.underlying42 cells9 op9
theorem cells42 : Try.prog.cellsOf 42 = 1 := by kernel_rfl
theorem cells86 : Try.prog.cellsOf 86 = 22 := by kernel_rfl
theorem op86 : Opens Try.prog 86 k_Endpoint ok_Endpoint := fun {H enc w spare held fuel cs x} h => by
  obtain ⟨hl, hf⟩ := field_open Try.underlying86 h
  rw [cells86] at hl
  obtain ⟨x0, r0, i0⟩ := hf 0 0 39 17 _ rfl rfl rfl cells39 op39
  obtain ⟨x1, r1, i1⟩ := hf 1 17 9 1 _ rfl rfl rfl cells9 op9
  obtain ⟨x2, r2, i2⟩ := hf 2 18 4 1 _ rfl rfl rfl cells4 op4
  obtain ⟨x3, r3, i3⟩ := hf 3 19 4 1 _ rfl rfl rfl cells4 op4
  obtain ⟨x4, r4, i4⟩ := hf 4 20 4 1 _ rfl rfl rfl cells4 op4
  obtain ⟨x5, r5, i5⟩ := hf 5 21 42 1 _ rfl rfl rfl cells42 op42
  have e : cs = (cs.drop 0).take 17 ++ ((cs.drop 17).take 1 ++ ((cs.drop 18).take 1 ++ ((cs.drop 19).take 1 ++ ((cs.drop 20).take 1 ++ ((cs.drop 21).take 1 ++ (cs.drop 22)))))) := ((cut_eq (cs := cs) 0 17).trans (congrArg ((cs.drop 0).take 17 ++ ·) ((cut_eq (cs := cs) 17 1).trans (congrArg ((cs.drop 17).take 1 ++ ·) ((cut_eq (cs := cs) 18 1).trans (congrArg ((cs.drop 18).take 1 ++ ·) ((cut_eq (cs := cs) 19 1).trans (congrArg ((cs.drop 19).take 1 ++ ·) ((cut_eq (cs := cs) 20 1).trans (congrArg ((cs.drop 20).take 1 ++ ·) (cut_eq (cs := cs) 21 1)))))))))))
  obtain ⟨z5_0, e5, h5_0⟩ := r5
  rw [(show (cs.drop 0).take 17 = _ from r0), (show (cs.drop 17).take 1 = _ from r1), (show (cs.drop 18).take 1 = _ from r2), (show (cs.drop 19).take 1 = _ from r3), (show (cs.drop 20).take 1 = _ from r4), (show (cs.drop 21).take 1 = _ from e5), List.drop_eq_nil_iff.2 (Nat.le_of_eq hl)] at e
  exact ⟨⟨x0, x1, x2, x3, x4, x5⟩, ⟨z5_0, e, h5_0⟩, ⟨i0, i1, i2, i3, i4, i5⟩⟩
theorem op69 : Opens Try.prog 69 (k_Endpoint.sl k_Endpoint_pos) (fun l => ∀ x ∈ l, ok_Endpoint x) := opens_sl k_Endpoint_pos Try.underlying69 cells86 op86
theorem cells69 : Try.prog.cellsOf 69 = 1 := by kernel_rfl
theorem cells71 : Try.prog.cellsOf 71 = 6 := by kernel_rfl
theorem op71 : Opens Try.prog 71 k_Slice ok_Slice := fun {H enc w spare held fuel cs x} h => by
  obtain ⟨hl, hf⟩ := field_open Try.underlying71 h
  rw [cells71] at hl
  obtain ⟨x0, r0, i0⟩ := hf 0 0 67 2 _ rfl rfl rfl cells67 op67
  obtain ⟨x1, r1, i1⟩ := hf 1 2 9 1 _ rfl rfl rfl cells9 op9
  obtain ⟨x2, r2, i2⟩ := hf 2 3 4 1 _ rfl rfl rfl cells4 op4
  obtain ⟨x3, r3, i3⟩ := hf 3 4 68 1 _ rfl rfl rfl cells68 op68
  obtain ⟨x4, r4, i4⟩ := hf 4 5 69 1 _ rfl rfl rfl cells69 op69
  have e : cs = (cs.drop 0).take 2 ++ ((cs.drop 2).take 1 ++ ((cs.drop 3).take 1 ++ ((cs.drop 4).take 1 ++ ((cs.drop 5).take 1 ++ (cs.drop 6))))) := ((cut_eq (cs := cs) 0 2).trans (congrArg ((cs.drop 0).take 2 ++ ·) ((cut_eq (cs := cs) 2 1).trans (congrArg ((cs.drop 2).take 1 ++ ·) ((cut_eq (cs := cs) 3 1).trans (congrArg ((cs.drop 3).take 1 ++ ·) ((cut_eq (cs := cs) 4 1).trans (congrArg ((cs.drop 4).take 1 ++ ·) (cut_eq (cs := cs) 5 1)))))))))
  obtain ⟨z3_0, e3, h3_0⟩ := r3
  obtain ⟨z4_0, e4, h4_0⟩ := r4
  rw [(show (cs.drop 0).take 2 = _ from r0), (show (cs.drop 2).take 1 = _ from r1), (show (cs.drop 3).take 1 = _ from r2), (show (cs.drop 4).take 1 = _ from e3), (show (cs.drop 5).take 1 = _ from e4), List.drop_eq_nil_iff.2 (Nat.le_of_eq hl)] at e
  exact ⟨⟨x0, x1, x2, x3, x4⟩, ⟨z3_0, z4_0, e, h3_0, h4_0⟩, ⟨i0, i1, i2, i3, i4⟩⟩
theorem op46 : Opens Try.prog 46 (k_Slice.sl k_Slice_pos) (fun l => ∀ x ∈ l, ok_Slice x) := opens_sl k_Slice_pos Try.underlying46 cells71 op71
/-- What is left to show of the statement: plain Lean. -/
def Plain5 : Prop := ∀ (a0 : (List Slice)) (a1 : Want), (fun l => ∀ x ∈ l, ok_Slice x) a0 → ok_Want a1 → F5_linkboylaw19_PickPoints a0 a1 = some true
set_option maxRecDepth 100000 in
theorem pickPoints_lifted (hl : Plain5) (os : Os) (started : os.Started) (H : Type) (enc : TypeId × Value → H) :
    ReturnsInHanded {} Try.checked os 5 .any (Rows.pickPointsSpec.pre6 enc Try.prog Try.f5 Rows.pickPointsRow.domain false) (Rows.pickPointsSpec.post enc Try.prog Try.f5 false true false false) := by
  refine returnsInHanded_of_change (C := Try.checked) Try.own started (by kernel_rfl) Try.func5
    (ChangeSpec.witness6 (enc := enc) (C := Try.checked) false ⟨#[], #[.slice none 0 0, .agg #[.string ⟨#[]⟩, .int .i64 0, .bool false, .bool false, .bool false, .string ⟨#[]⟩, .string ⟨#[]⟩]], []⟩ 8 (by kernel_rfl) (by kernel_rfl) (by kernel_rfl) (by kernel_rfl)) ?_
  intro W base args ds gs before hval0 hW hcnd _
  have hval : ∀ (j : Nat) t v, Try.f5.params[j]? = some t → args[j]? = some v → Value.okWide Try.prog W .any base t v := hval0
  have hW' := hW
  obtain ⟨p, q, hA0, hV, rfl, hfz, hnd⟩ := hW
  have hA : DataW.TrodAll enc Try.prog W 0 (fun _ => true) true Try.f5.params.toList args.toList ds p := hA0
  rw [Try.params5] at hA hval
  obtain ⟨v0, v1, d0, d1, p0, p1, rfl, rfl, rfl, t0, t1⟩ := trodAll_two hA
  obtain ⟨rfl, rfl⟩ := trodVars_none hV
  obtain ⟨f0, e0⟩ := id t0
  obtain ⟨a0, r0, i0⟩ := op46 e0
  obtain ⟨b0, l0, c0, rfl⟩ := okWide_slice Try.underlying46 (hval 0 46 v0 rfl rfl)
  obtain ⟨z0, g0, s0⟩ := r0
  obtain rfl : Value.slice b0 l0 c0 = z0 := by simpa [Value.cells] using g0
  obtain ⟨f1, e1⟩ := id t1
  obtain ⟨a1, r1, i1⟩ := op24 e1
  obtain ⟨cs1, rfl, _⟩ := okWide_struct Try.underlying24 (hval 1 24 v1 rfl rfl)
  obtain rfl : cs1 = (Want.enc a1).toArray := Array.toList_inj.1 (show cs1.toList = _ from r1)
  refine Calls.mono (ctr5 allB W a0 _ s0 a1 true (hl a0 a1 i0 i1)) fun e W' he => ?_
  obtain ⟨v, rfl, rfl, c⟩ := he
  have hb : Below W.heap.size W W' := ⟨c.os, c.tape, c.output, c.size, fun k hk => c.blk k hk (fun x => x)⟩
  have u0 := Below.trod Try.laidOut (by kernel_rfl) (of_decide_eq_true (by kernel_rfl)) t0 hb (DataW.trod_lt _ _ _ _ e0)
  have u1 := Below.trod Try.laidOut (by kernel_rfl) (of_decide_eq_true (by kernel_rfl)) t1 hb (DataW.trod_lt _ _ _ _ e1)
  exact ⟨_, rfl, _, _, _, [], _, [], hW', trodAll_mk1 (shut_bool Try.underlying4 true), ⟨_, _, u0, ⟨_, _, u1, rfl, rfl⟩, rfl⟩, rfl, hb.frame _, fun h => by cases h⟩
theorem pickPoints_of (hl : Plain5) : Rows.PickPointsSaid :=
  OpenClaim.holds_of_wide 5 Try.f5 rfl rfl rfl rfl rfl rfl rfl ⟨rfl, rfl, rfl, rfl, rfl⟩ rfl rfl rfl rfl rfl (by kernel_rfl) Try.func5 (by kernel_rfl)
    (of_decide_eq_true (by kernel_rfl)) (by unfold Func.isWrapper; rw [if_neg (by decide +kernel)]; exact ⟨rfl, rfl⟩)
    (fun os started H enc _ => pickPoints_lifted hl os started H enc)
end Go.Proofs.Yteoaobiglodblaa
