/- How the arguments are read, and each statement from its plain law. Written by a program of this session. -/
import Derived.Test.YtejkknmedebgnaaK11
import Derived.Test.YtejkknmedebgnaaRows
import Derived.Test.YtejkknmedebgnaaW1
import Derived.Test.YtejkknmedebgnaaW2
import Derived.Test.YtejkknmedebgnaaW3
import Derived.Test.YtejkknmedebgnaaW4
import Derived.Test.YtejkknmedebgnaaW5
import Derived.Test.YtejkknmedebgnaaW6
namespace Go.Proofs.Ytejkknmedebgnaa
open Go K
open Go.ChangeShapes Go.WideShapes Go.ChangeAt Go.RowKit
set_option linter.unusedVariables false
theorem Try.own : ownKnob Try.prog.godebug = none := by kernel_rfl
theorem Try.laidOut : laidOutB Try.prog = true := by kernel_rfl
def ok_Key (x : Key) : Prop := inS x.space ∧ inS x.name
def ok_A16u8 (x : A16u8) : Prop := (inK .u8) x.e0 ∧ (inK .u8) x.e1 ∧ (inK .u8) x.e2 ∧ (inK .u8) x.e3 ∧ (inK .u8) x.e4 ∧ (inK .u8) x.e5 ∧ (inK .u8) x.e6 ∧ (inK .u8) x.e7 ∧ (inK .u8) x.e8 ∧ (inK .u8) x.e9 ∧ (inK .u8) x.e10 ∧ (inK .u8) x.e11 ∧ (inK .u8) x.e12 ∧ (inK .u8) x.e13 ∧ (inK .u8) x.e14 ∧ (inK .u8) x.e15
def ok_Addr (x : Addr) : Prop := (fun _ => True) x.six ∧ ok_A16u8 x.b
def ok_Cidr (x : Cidr) : Prop := ok_Addr x.addr ∧ (inK .i64) x.bits
def ok_Port (x : Port) : Prop := inS x.name ∧ (inK .i64) x.proto ∧ (inK .i64) x.port ∧ (inK .i64) x.outer
def ok_Service (x : Service) : Prop := ok_Key x.key ∧ (inK .i64) x.kind ∧ (fun l => ∀ x ∈ l, ok_Addr x) x.cluster ∧ (fun l => ∀ x ∈ l, ok_Addr x) x.external ∧ (fun l => ∀ x ∈ l, ok_Addr x) x.balancers ∧ (fun l => ∀ x ∈ l, ok_Cidr x) x.ranges ∧ (fun l => ∀ x ∈ l, ok_Port x) x.ports ∧ (fun _ => True) x.internalLocal ∧ (fun _ => True) x.externalLocal ∧ (fun _ => True) x.sticky ∧ (inK .i64) x.ticks ∧ (fun _ => True) x.hinted
theorem op9 : Opens Try.prog 9 kStr inS := opens_str Try.underlying9
theorem cells9 : Try.prog.cellsOf 9 = 1 := by kernel_rfl
theorem cells23 : Try.prog.cellsOf 23 = 2 := by kernel_rfl
theorem op23 : Opens Try.prog 23 k_Key ok_Key := fun {H enc w spare held fuel cs x} h => by
  obtain ⟨hl, hf⟩ := field_open Try.underlying23 h
  rw [cells23] at hl
  obtain ⟨x0, r0, i0⟩ := hf 0 0 9 1 _ rfl rfl rfl cells9 op9
  obtain ⟨x1, r1, i1⟩ := hf 1 1 9 1 _ rfl rfl rfl cells9 op9
  have e : cs = (cs.drop 0).take 1 ++ ((cs.drop 1).take 1 ++ (cs.drop 2)) := ((cut_eq (cs := cs) 0 1).trans (congrArg ((cs.drop 0).take 1 ++ ·) (cut_eq (cs := cs) 1 1)))
  rw [(show (cs.drop 0).take 1 = _ from r0), (show (cs.drop 1).take 1 = _ from r1), List.drop_eq_nil_iff.2 (Nat.le_of_eq hl)] at e
  exact ⟨⟨x0, x1⟩, e, ⟨i0, i1⟩⟩
theorem op3 : Opens Try.prog 3 (kInt .i64) (inK .i64) := opens_int Try.underlying3
theorem cells3 : Try.prog.cellsOf 3 = 1 := by kernel_rfl
theorem op4 : Opens Try.prog 4 kBool (fun _ => True) := opens_bool Try.underlying4
theorem cells4 : Try.prog.cellsOf 4 = 1 := by kernel_rfl
theorem op5 : Opens Try.prog 5 (kInt .u8) (inK .u8) := opens_int Try.underlying5
theorem cells5 : Try.prog.cellsOf 5 = 1 := by kernel_rfl
theorem cells36 : Try.prog.cellsOf 36 = 16 := by kernel_rfl
theorem op36 : Opens Try.prog 36 k_A16u8 ok_A16u8 := fun {H enc w spare held fuel cs x} h => by
  obtain ⟨hl, hf⟩ := array_open Try.underlying36 h
  rw [cells36] at hl
  obtain ⟨x0, r0, i0⟩ := hf 0 1 (by decide) cells5 op5
  obtain ⟨x1, r1, i1⟩ := hf 1 1 (by decide) cells5 op5
  obtain ⟨x2, r2, i2⟩ := hf 2 1 (by decide) cells5 op5
  obtain ⟨x3, r3, i3⟩ := hf 3 1 (by decide) cells5 op5
  obtain ⟨x4, r4, i4⟩ := hf 4 1 (by decide) cells5 op5
  obtain ⟨x5, r5, i5⟩ := hf 5 1 (by decide) cells5 op5
  obtain ⟨x6, r6, i6⟩ := hf 6 1 (by decide) cells5 op5
  obtain ⟨x7, r7, i7⟩ := hf 7 1 (by decide) cells5 op5
  obtain ⟨x8, r8, i8⟩ := hf 8 1 (by decide) cells5 op5
  obtain ⟨x9, r9, i9⟩ := hf 9 1 (by decide) cells5 op5
  obtain ⟨x10, r10, i10⟩ := hf 10 1 (by decide) cells5 op5
  obtain ⟨x11, r11, i11⟩ := hf 11 1 (by decide) cells5 op5
  obtain ⟨x12, r12, i12⟩ := hf 12 1 (by decide) cells5 op5
  obtain ⟨x13, r13, i13⟩ := hf 13 1 (by decide) cells5 op5
  obtain ⟨x14, r14, i14⟩ := hf 14 1 (by decide) cells5 op5
  obtain ⟨x15, r15, i15⟩ := hf 15 1 (by decide) cells5 op5
  have e : cs = (cs.drop 0).take 1 ++ ((cs.drop 1).take 1 ++ ((cs.drop 2).take 1 ++ ((cs.drop 3).take 1 ++ ((cs.drop 4).take 1 ++ ((cs.drop 5).take 1 ++ ((cs.drop 6).take 1 ++ ((cs.drop 7).take 1 ++ ((cs.drop 8).take 1 ++ ((cs.drop 9).take 1 ++ ((cs.drop 10).take 1 ++ ((cs.drop 11).take 1 ++ ((cs.drop 12).take 1 ++ ((cs.drop 13).take 1 ++ ((cs.drop 14).take 1 ++ ((cs.drop 15).take 1 ++ (cs.drop 16)))))))))))))))) := ((cut_eq (cs := cs) 0 1).trans (congrArg ((cs.drop 0).take 1 ++ ·) ((cut_eq (cs := cs) 1 1).trans (congrArg ((cs.drop 1).take 1 ++ ·) ((cut_eq (cs := cs) 2 1).trans (congrArg ((cs.drop 2).take 1 ++ ·) ((cut_eq (cs := cs) 3 1).trans (congrArg ((cs.drop 3).take 1 ++ ·) ((cut_eq (cs := cs) 4 1).trans (congrArg ((cs.drop 4).take 1 ++ ·) ((cut_eq (cs := cs) 5 1).trans (congrArg ((cs.drop 5).take 1 ++ ·) ((cut_eq (cs := cs) 6 1).trans (congrArg ((cs.drop 6).take 1 ++ ·) ((cut_eq (cs := cs) 7 1).trans (congrArg ((cs.drop 7).take 1 ++ ·) ((cut_eq (cs := cs) 8 1).trans (congrArg ((cs.drop 8).take 1 ++ ·) ((cut_eq (cs := cs) 9 1).trans (congrArg ((cs.drop 9).take 1 ++ ·) ((cut_eq (cs := cs) 10 1).trans (congrArg ((cs.drop 10).take 1 ++ ·) ((cut_eq (cs := cs) 11 1).trans (congrArg ((cs.drop 11).take 1 ++ ·) ((cut_eq (cs := cs) 12 1).trans (congrArg ((cs.drop 12).take 1 ++ ·) ((cut_eq (cs := cs) 13 1).trans (congrArg ((cs.drop 13).take 1 ++ ·) ((cut_eq (cs := cs) 14 1).trans (congrArg ((cs.drop 14).take 1 ++ ·) (cut_eq (cs := cs) 15 1)))))))))))))))))))))))))))))))
  rw [(show (cs.drop 0).take 1 = _ from r0), (show (cs.drop 1).take 1 = _ from r1), (show (cs.drop 2).take 1 = _ from r2), (show (cs.drop 3).take 1 = _ from r3), (show (cs.drop 4).take 1 = _ from r4), (show (cs.drop 5).take 1 = _ from r5), (show (cs.drop 6).take 1 = _ from r6), (show (cs.drop 7).take 1 = _ from r7), (show (cs.drop 8).take 1 = _ from r8), (show (cs.drop 9).take 1 = _ from r9), (show (cs.drop 10).take 1 = _ from r10), (show (cs.drop 11).take 1 = _ from r11), (show (cs.drop 12).take 1 = _ from r12), (show (cs.drop 13).take 1 = _ from r13), (show (cs.drop 14).take 1 = _ from r14), (show (cs.drop 15).take 1 = _ from r15), List.drop_eq_nil_iff.2 (Nat.le_of_eq hl)] at e
  exact ⟨⟨x0, x1, x2, x3, x4, x5, x6, x7, x8, x9, x10, x11, x12, x13, x14, x15⟩, e, ⟨i0, i1, i2, i3, i4, i5, i6, i7, i8, i9, i10, i11, i12, i13, i14, i15⟩⟩
theorem cells38 : Try.prog.cellsOf 38 = 17 := by kernel_rfl
theorem op38 : Opens Try.prog 38 k_Addr ok_Addr := fun {H enc w spare held fuel cs x} h => by
  obtain ⟨hl, hf⟩ := field_open Try.underlying38 h
  rw [cells38] at hl
  obtain ⟨x0, r0, i0⟩ := hf 0 0 4 1 _ rfl rfl rfl cells4 op4
  obtain ⟨x1, r1, i1⟩ := hf 1 1 36 16 _ rfl rfl rfl cells36 op36
  have e : cs = (cs.drop 0).take 1 ++ ((cs.drop 1).take 16 ++ (cs.drop 17)) := ((cut_eq (cs := cs) 0 1).trans (congrArg ((cs.drop 0).take 1 ++ ·) (cut_eq (cs := cs) 1 16)))
  rw [(show (cs.drop 0).take 1 = _ from r0), (show (cs.drop 1).take 16 = _ from r1), List.drop_eq_nil_iff.2 (Nat.le_of_eq hl)] at e
  exact ⟨⟨x0, x1⟩, e, ⟨i0, i1⟩⟩
theorem op24 : Opens Try.prog 24 (k_Addr.sl k_Addr_pos) (fun l => ∀ x ∈ l, ok_Addr x) := opens_sl k_Addr_pos Try.underlying24 cells38 op38
theorem cells24 : Try.prog.cellsOf 24 = 1 := by kernel_rfl
theorem cells126 : Try.prog.cellsOf 126 = 18 := by kernel_rfl
theorem op126 : Opens Try.prog 126 k_Cidr ok_Cidr := fun {H enc w spare held fuel cs x} h => by
  obtain ⟨hl, hf⟩ := field_open Try.underlying126 h
  rw [cells126] at hl
  obtain ⟨x0, r0, i0⟩ := hf 0 0 38 17 _ rfl rfl rfl cells38 op38
  obtain ⟨x1, r1, i1⟩ := hf 1 17 3 1 _ rfl rfl rfl cells3 op3
  have e : cs = (cs.drop 0).take 17 ++ ((cs.drop 17).take 1 ++ (cs.drop 18)) := ((cut_eq (cs := cs) 0 17).trans (congrArg ((cs.drop 0).take 17 ++ ·) (cut_eq (cs := cs) 17 1)))
  rw [(show (cs.drop 0).take 17 = _ from r0), (show (cs.drop 17).take 1 = _ from r1), List.drop_eq_nil_iff.2 (Nat.le_of_eq hl)] at e
  exact ⟨⟨x0, x1⟩, e, ⟨i0, i1⟩⟩
theorem op25 : Opens Try.prog 25 (k_Cidr.sl k_Cidr_pos) (fun l => ∀ x ∈ l, ok_Cidr x) := opens_sl k_Cidr_pos Try.underlying25 cells126 op126
theorem cells25 : Try.prog.cellsOf 25 = 1 := by kernel_rfl
theorem cells55 : Try.prog.cellsOf 55 = 4 := by kernel_rfl
theorem op55 : Opens Try.prog 55 k_Port ok_Port := fun {H enc w spare held fuel cs x} h => by
  obtain ⟨hl, hf⟩ := field_open Try.underlying55 h
  rw [cells55] at hl
  obtain ⟨x0, r0, i0⟩ := hf 0 0 9 1 _ rfl rfl rfl cells9 op9
  obtain ⟨x1, r1, i1⟩ := hf 1 1 3 1 _ rfl rfl rfl cells3 op3
  obtain ⟨x2, r2, i2⟩ := hf 2 2 3 1 _ rfl rfl rfl cells3 op3
  obtain ⟨x3, r3, i3⟩ := hf 3 3 3 1 _ rfl rfl rfl cells3 op3
  have e : cs = (cs.drop 0).take 1 ++ ((cs.drop 1).take 1 ++ ((cs.drop 2).take 1 ++ ((cs.drop 3).take 1 ++ (cs.drop 4)))) := ((cut_eq (cs := cs) 0 1).trans (congrArg ((cs.drop 0).take 1 ++ ·) ((cut_eq (cs := cs) 1 1).trans (congrArg ((cs.drop 1).take 1 ++ ·) ((cut_eq (cs := cs) 2 1).trans (congrArg ((cs.drop 2).take 1 ++ ·) (cut_eq (cs := cs) 3 1)))))))
  rw [(show (cs.drop 0).take 1 = _ from r0), (show (cs.drop 1).take 1 = _ from r1), (show (cs.drop 2).take 1 = _ from r2), (show (cs.drop 3).take 1 = _ from r3), List.drop_eq_nil_iff.2 (Nat.le_of_eq hl)] at e
  exact ⟨⟨x0, x1, x2, x3⟩, e, ⟨i0, i1, i2, i3⟩⟩
theorem op26 : Opens Try.prog 26 (k_Port.sl k_Port_pos) (fun l => ∀ x ∈ l, ok_Port x) := opens_sl k_Port_pos Try.underlying26 cells55 op55
theorem cells26 : Try.prog.cellsOf 26 = 1 := by kernel_rfl
theorem cells28 : Try.prog.cellsOf 28 = 13 := by kernel_rfl
theorem op28 : Opens Try.prog 28 k_Service ok_Service := fun {H enc w spare held fuel cs x} h => by
  obtain ⟨hl, hf⟩ := field_open Try.underlying28 h
  rw [cells28] at hl
  obtain ⟨x0, r0, i0⟩ := hf 0 0 23 2 _ rfl rfl rfl cells23 op23
  obtain ⟨x1, r1, i1⟩ := hf 1 2 3 1 _ rfl rfl rfl cells3 op3
  obtain ⟨x2, r2, i2⟩ := hf 2 3 24 1 _ rfl rfl rfl cells24 op24
  obtain ⟨x3, r3, i3⟩ := hf 3 4 24 1 _ rfl rfl rfl cells24 op24
  obtain ⟨x4, r4, i4⟩ := hf 4 5 24 1 _ rfl rfl rfl cells24 op24
  obtain ⟨x5, r5, i5⟩ := hf 5 6 25 1 _ rfl rfl rfl cells25 op25
  obtain ⟨x6, r6, i6⟩ := hf 6 7 26 1 _ rfl rfl rfl cells26 op26
  obtain ⟨x7, r7, i7⟩ := hf 7 8 4 1 _ rfl rfl rfl cells4 op4
  obtain ⟨x8, r8, i8⟩ := hf 8 9 4 1 _ rfl rfl rfl cells4 op4
  obtain ⟨x9, r9, i9⟩ := hf 9 10 4 1 _ rfl rfl rfl cells4 op4
  obtain ⟨x10, r10, i10⟩ := hf 10 11 3 1 _ rfl rfl rfl cells3 op3
  obtain ⟨x11, r11, i11⟩ := hf 11 12 4 1 _ rfl rfl rfl cells4 op4
  have e : cs = (cs.drop 0).take 2 ++ ((cs.drop 2).take 1 ++ ((cs.drop 3).take 1 ++ ((cs.drop 4).take 1 ++ ((cs.drop 5).take 1 ++ ((cs.drop 6).take 1 ++ ((cs.drop 7).take 1 ++ ((cs.drop 8).take 1 ++ ((cs.drop 9).take 1 ++ ((cs.drop 10).take 1 ++ ((cs.drop 11).take 1 ++ ((cs.drop 12).take 1 ++ (cs.drop 13)))))))))))) := ((cut_eq (cs := cs) 0 2).trans (congrArg ((cs.drop 0).take 2 ++ ·) ((cut_eq (cs := cs) 2 1).trans (congrArg ((cs.drop 2).take 1 ++ ·) ((cut_eq (cs := cs) 3 1).trans (congrArg ((cs.drop 3).take 1 ++ ·) ((cut_eq (cs := cs) 4 1).trans (congrArg ((cs.drop 4).take 1 ++ ·) ((cut_eq (cs := cs) 5 1).trans (congrArg ((cs.drop 5).take 1 ++ ·) ((cut_eq (cs := cs) 6 1).trans (congrArg ((cs.drop 6).take 1 ++ ·) ((cut_eq (cs := cs) 7 1).trans (congrArg ((cs.drop 7).take 1 ++ ·) ((cut_eq (cs := cs) 8 1).trans (congrArg ((cs.drop 8).take 1 ++ ·) ((cut_eq (cs := cs) 9 1).trans (congrArg ((cs.drop 9).take 1 ++ ·) ((cut_eq (cs := cs) 10 1).trans (congrArg ((cs.drop 10).take 1 ++ ·) ((cut_eq (cs := cs) 11 1).trans (congrArg ((cs.drop 11).take 1 ++ ·) (cut_eq (cs := cs) 12 1)))))))))))))))))))))))
  obtain ⟨z2_0, e2, h2_0⟩ := r2
  obtain ⟨z3_0, e3, h3_0⟩ := r3
  obtain ⟨z4_0, e4, h4_0⟩ := r4
  obtain ⟨z5_0, e5, h5_0⟩ := r5
  obtain ⟨z6_0, e6, h6_0⟩ := r6
  rw [(show (cs.drop 0).take 2 = _ from r0), (show (cs.drop 2).take 1 = _ from r1), (show (cs.drop 3).take 1 = _ from e2), (show (cs.drop 4).take 1 = _ from e3), (show (cs.drop 5).take 1 = _ from e4), (show (cs.drop 6).take 1 = _ from e5), (show (cs.drop 7).take 1 = _ from e6), (show (cs.drop 8).take 1 = _ from r7), (show (cs.drop 9).take 1 = _ from r8), (show (cs.drop 10).take 1 = _ from r9), (show (cs.drop 11).take 1 = _ from r10), (show (cs.drop 12).take 1 = _ from r11), List.drop_eq_nil_iff.2 (Nat.le_of_eq hl)] at e
  exact ⟨⟨x0, x1, x2, x3, x4, x5, x6, x7, x8, x9, x10, x11⟩, ⟨z2_0, z3_0, z4_0, z5_0, z6_0, e, h2_0, h3_0, h4_0, h5_0, h6_0⟩, ⟨i0, i1, i2, i3, i4, i5, i6, i7, i8, i9, i10, i11⟩⟩
def ok_Node (x : Node) : Prop := inS x.name ∧ inS x.zone ∧ (fun l => ∀ x ∈ l, ok_Addr x) x.addrs
theorem cells30 : Try.prog.cellsOf 30 = 3 := by kernel_rfl
theorem op30 : Opens Try.prog 30 k_Node ok_Node := fun {H enc w spare held fuel cs x} h => by
  obtain ⟨hl, hf⟩ := field_open Try.underlying30 h
  rw [cells30] at hl
  obtain ⟨x0, r0, i0⟩ := hf 0 0 9 1 _ rfl rfl rfl cells9 op9
  obtain ⟨x1, r1, i1⟩ := hf 1 1 9 1 _ rfl rfl rfl cells9 op9
  obtain ⟨x2, r2, i2⟩ := hf 2 2 24 1 _ rfl rfl rfl cells24 op24
  have e : cs = (cs.drop 0).take 1 ++ ((cs.drop 1).take 1 ++ ((cs.drop 2).take 1 ++ (cs.drop 3))) := ((cut_eq (cs := cs) 0 1).trans (congrArg ((cs.drop 0).take 1 ++ ·) ((cut_eq (cs := cs) 1 1).trans (congrArg ((cs.drop 1).take 1 ++ ·) (cut_eq (cs := cs) 2 1)))))
  obtain ⟨z2_0, e2, h2_0⟩ := r2
  rw [(show (cs.drop 0).take 1 = _ from r0), (show (cs.drop 1).take 1 = _ from r1), (show (cs.drop 2).take 1 = _ from e2), List.drop_eq_nil_iff.2 (Nat.le_of_eq hl)] at e
  exact ⟨⟨x0, x1, x2⟩, ⟨z2_0, e, h2_0⟩, ⟨i0, i1, i2⟩⟩
/-- What is left to show of the statement: plain Lean. -/
def Plain3 : Prop := ∀ (a0 : Service) (a1 : Node), ok_Service a0 → ok_Node a1 → F3_linkboylaw20_FaceOf a0 a1 = some true
set_option maxRecDepth 100000 in
theorem faceOf_lifted (hl : Plain3) (os : Os) (started : os.Started) (H : Type) (enc : TypeId × Value → H) :
    ReturnsInHanded {} Try.checked os 3 .any (Rows.faceOfSpec.pre6 enc Try.prog Try.f3 Rows.faceOfRow.domain false) (Rows.faceOfSpec.post enc Try.prog Try.f3 false true false false) := by
  refine returnsInHanded_of_change (C := Try.checked) Try.own started (by kernel_rfl) Try.func3
    (ChangeSpec.witness6 (enc := enc) (C := Try.checked) false ⟨#[], #[.agg #[.string ⟨#[]⟩, .string ⟨#[]⟩, .int .i64 0, .slice none 0 0, .slice none 0 0, .slice none 0 0, .slice none 0 0, .slice none 0 0, .bool false, .bool false, .bool false, .int .i64 0, .bool false], .agg #[.string ⟨#[]⟩, .string ⟨#[]⟩, .slice none 0 0]], []⟩ 8 (by kernel_rfl) (by kernel_rfl) (by kernel_rfl) (by kernel_rfl)) ?_
  intro W base args ds gs before hval0 hW hcnd _
  have hval : ∀ (j : Nat) t v, Try.f3.params[j]? = some t → args[j]? = some v → Value.okWide Try.prog W .any base t v := hval0
  have hW' := hW
  obtain ⟨p, q, hA0, hV, rfl, hfz, hnd⟩ := hW
  have hA : DataW.TrodAll enc Try.prog W 0 (fun _ => true) true Try.f3.params.toList args.toList ds p := hA0
  rw [Try.params3] at hA hval
  obtain ⟨v0, v1, d0, d1, p0, p1, rfl, rfl, rfl, t0, t1⟩ := trodAll_two hA
  obtain ⟨rfl, rfl⟩ := trodVars_none hV
  obtain ⟨f0, e0⟩ := id t0
  obtain ⟨a0, r0, i0⟩ := op28 e0
  obtain ⟨cs0, rfl, _⟩ := okWide_struct Try.underlying28 (hval 0 28 v0 rfl rfl)
  obtain ⟨z0_0, z0_1, z0_2, z0_3, z0_4, g0, s0_0, s0_1, s0_2, s0_3, s0_4⟩ := r0
  obtain rfl : cs0 = (Service.c a0 z0_0 z0_1 z0_2 z0_3 z0_4).toArray := Array.toList_inj.1 (show cs0.toList = _ from g0)
  obtain ⟨f1, e1⟩ := id t1
  obtain ⟨a1, r1, i1⟩ := op30 e1
  obtain ⟨cs1, rfl, _⟩ := okWide_struct Try.underlying30 (hval 1 30 v1 rfl rfl)
  obtain ⟨z1_0, g1, s1_0⟩ := r1
  obtain rfl : cs1 = (Node.c a1 z1_0).toArray := Array.toList_inj.1 (show cs1.toList = _ from g1)
  refine Calls.mono (ctr3 allB W a0 z0_0 z0_1 z0_2 z0_3 z0_4 s0_0 s0_1 s0_2 s0_3 s0_4 a1 z1_0 s1_0 true (hl a0 a1 i0 i1)) fun e W' he => ?_
  obtain ⟨v, rfl, rfl, c⟩ := he
  have hb : Below W.heap.size W W' := ⟨c.os, c.tape, c.output, c.size, fun k hk => c.blk k hk (fun x => x)⟩
  have u0 := Below.trod Try.laidOut (by kernel_rfl) (of_decide_eq_true (by kernel_rfl)) t0 hb (DataW.trod_lt _ _ _ _ e0)
  have u1 := Below.trod Try.laidOut (by kernel_rfl) (of_decide_eq_true (by kernel_rfl)) t1 hb (DataW.trod_lt _ _ _ _ e1)
  exact ⟨_, rfl, _, _, _, [], _, [], hW', trodAll_mk1 (shut_bool Try.underlying4 true), ⟨_, _, u0, ⟨_, _, u1, rfl, rfl⟩, rfl⟩, rfl, hb.frame _, fun h => by cases h⟩
theorem faceOf_of (hl : Plain3) : Rows.FaceOfSaid :=
  OpenClaim.holds_of_wide 3 Try.f3 rfl rfl rfl rfl rfl rfl rfl ⟨rfl, rfl, rfl, rfl, rfl⟩ rfl rfl rfl rfl rfl (by kernel_rfl) Try.func3 (by kernel_rfl)
    (of_decide_eq_true (by kernel_rfl)) (by unfold Func.isWrapper; rw [if_neg (by decide +kernel)]; exact ⟨rfl, rfl⟩)
    (fun os started H enc _ => faceOf_lifted hl os started H enc)
end Go.Proofs.Ytejkknmedebgnaa
