/- How the arguments are read, and each statement from its plain law. Written by a program of this session. -/
import Derived.Test.YtkfhcfkbaaekoaaDoorK11
import Derived.Test.YtkfhcfkbaaekoaaDoorRows
import Derived.Test.YtkfhcfkbaaekoaaDoorCards
import Derived.Test.YtkfhcfkbaaekoaaDoorTie
import Derived.OpenShut
import Derived.Deep.DeepHandedRow
import Derived.Deep.DeepWitnessRowRef
import Derived.Test.YtkfhcfkbaaekoaaDoorK21
import Derived.ProofKit
import Derived.Test.YtkfhcfkbaaekoaaDoorW1
import Derived.Test.YtkfhcfkbaaekoaaDoorW2
import Derived.Test.YtkfhcfkbaaekoaaDoorW3
import Derived.Test.YtkfhcfkbaaekoaaDoorW4
import Derived.Test.YtkfhcfkbaaekoaaDoorW5
namespace Go.Proofs.YtkfhcfkbaaekoaaDoor
open Go K
open Go.ChangeShapes Go.WideShapes Go.ChangeAt Go.RowKit
set_option linter.unusedVariables false
theorem Tryd.own : ownKnob Tryd.prog.godebug = none := by kernel_rfl
theorem Tryd.laidOut : laidOutB Tryd.prog = true := by kernel_rfl
def ok_A16u8 (x : A16u8) : Prop := (inK .u8) x.e0 ∧ (inK .u8) x.e1 ∧ (inK .u8) x.e2 ∧ (inK .u8) x.e3 ∧ (inK .u8) x.e4 ∧ (inK .u8) x.e5 ∧ (inK .u8) x.e6 ∧ (inK .u8) x.e7 ∧ (inK .u8) x.e8 ∧ (inK .u8) x.e9 ∧ (inK .u8) x.e10 ∧ (inK .u8) x.e11 ∧ (inK .u8) x.e12 ∧ (inK .u8) x.e13 ∧ (inK .u8) x.e14 ∧ (inK .u8) x.e15
def ok_Addr (x : Addr) : Prop := (fun _ => True) x.six ∧ ok_A16u8 x.b
def ok_Point (x : Point) : Prop := ok_Addr x.addr ∧ (inK .i64) x.port
def ok_Key (x : Key) : Prop := inS x.space ∧ inS x.name
def ok_Front (x : Front) : Prop := (inK .i64) x.proto ∧ ok_Point x.point ∧ ok_Key x.service ∧ inS x.name ∧ (inK .i64) x.how ∧ (fun _ => True) x.localF ∧ (fun _ => True) x.asked ∧ (inK .i64) x.ticks
def ok_Out (x : Out) : Prop := (inK .i64) x.verdict ∧ (fun l => ∀ x ∈ l, (inK .u8) x) x.packet ∧ ok_Front x.front ∧ ok_Point x.backend
def ok_Act (x : Act) : Prop := (inK .i64) x.kind ∧ (inK .i64) x.size ∧ (inK .i64) x.now ∧ ok_Out x.out ∧ (inK .i64) x.atF ∧ (inK .i64) x.spans ∧ (inK .i64) x.top
theorem op3 : Opens Tryd.prog 3 (kInt .i64) (inK .i64) := opens_int Tryd.underlying3
theorem cells3 : Tryd.prog.cellsOf 3 = 1 := by kernel_rfl
theorem op5 : Opens Tryd.prog 5 (kInt .u8) (inK .u8) := opens_int Tryd.underlying5
theorem cells5 : Tryd.prog.cellsOf 5 = 1 := by kernel_rfl
theorem op27 : Opens Tryd.prog 27 ((kInt .u8).sl kInt_pos) (fun l => ∀ x ∈ l, (inK .u8) x) := opens_sl kInt_pos Tryd.underlying27 cells5 op5
theorem cells27 : Tryd.prog.cellsOf 27 = 1 := by kernel_rfl
theorem op4 : Opens Tryd.prog 4 kBool (fun _ => True) := opens_bool Tryd.underlying4
theorem cells4 : Tryd.prog.cellsOf 4 = 1 := by kernel_rfl
theorem cells28 : Tryd.prog.cellsOf 28 = 16 := by kernel_rfl
theorem op28 : Opens Tryd.prog 28 k_A16u8 ok_A16u8 := fun {H enc w spare held fuel cs x} h => by
  obtain ⟨hl, hf⟩ := array_open Tryd.underlying28 h
  rw [cells28] at hl
  obtain ⟨x0, r0, i0⟩ := hf 0 1 (by decide) cells5 op5
  obtain ⟨x1, r1, i1⟩ := hf 1 1 (by decide) cells5 op5
  obtain ⟨x2, r2, i2⟩ := hf 2 1 (by decide) cells5 op5
  obtain ⟨x3, r3, i3⟩ := hf 3 1 (by decide) cells5 op5
  obtain ⟨x4, r4, i4⟩ := hf 4 1 (by decide) cells5 op5
  obtain ⟨x5, r5, i5⟩ := hf 5 1 (by decide) cells5 op5
  obtain ⟨x6, r6, i6⟩ := hf 6 1 (by decide) cells5 op5
  obtain ⟨x7, r7, i7⟩ := hf 7 1 (by decide) cells5 op5
  obtain ⟨x8, r8, i8⟩ := hf 8 1 (by decide) cells5 op5
  obtain ⟨x9, r9, i9⟩ := hf 9 1 (by decide) cells5 op5
  obtain ⟨x10, r10, i10⟩ := hf 10 1 (by decide) cells5 op5
  obtain ⟨x11, r11, i11⟩ := hf 11 1 (by decide) cells5 op5
  obtain ⟨x12, r12, i12⟩ := hf 12 1 (by decide) cells5 op5
  obtain ⟨x13, r13, i13⟩ := hf 13 1 (by decide) cells5 op5
  obtain ⟨x14, r14, i14⟩ := hf 14 1 (by decide) cells5 op5
  obtain ⟨x15, r15, i15⟩ := hf 15 1 (by decide) cells5 op5
  have e : cs = (cs.drop 0).take 1 ++ ((cs.drop 1).take 1 ++ ((cs.drop 2).take 1 ++ ((cs.drop 3).take 1 ++ ((cs.drop 4).take 1 ++ ((cs.drop 5).take 1 ++ ((cs.drop 6).take 1 ++ ((cs.drop 7).take 1 ++ ((cs.drop 8).take 1 ++ ((cs.drop 9).take 1 ++ ((cs.drop 10).take 1 ++ ((cs.drop 11).take 1 ++ ((cs.drop 12).take 1 ++ ((cs.drop 13).take 1 ++ ((cs.drop 14).take 1 ++ ((cs.drop 15).take 1 ++ (cs.drop 16)))))))))))))))) := ((cut_eq (cs := cs) 0 1).trans (congrArg ((cs.drop 0).take 1 ++ ·) ((cut_eq (cs := cs) 1 1).trans (congrArg ((cs.drop 1).take 1 ++ ·) ((cut_eq (cs := cs) 2 1).trans (congrArg ((cs.drop 2).take 1 ++ ·) ((cut_eq (cs := cs) 3 1).trans (congrArg ((cs.drop 3).take 1 ++ ·) ((cut_eq (cs := cs) 4 1).trans (congrArg ((cs.drop 4).take 1 ++ ·) ((cut_eq (cs := cs) 5 1).trans (congrArg ((cs.drop 5).take 1 ++ ·) ((cut_eq (cs := cs) 6 1).trans (congrArg ((cs.drop 6).take 1 ++ ·) ((cut_eq (cs := cs) 7 1).trans (congrArg ((cs.drop 7).take 1 ++ ·) ((cut_eq (cs := cs) 8 1).trans (congrArg ((cs.drop 8).take 1 ++ ·) ((cut_eq (cs := cs) 9 1).trans (congrArg ((cs.drop 9).take 1 ++ ·) ((cut_eq (cs := cs) 10 1).trans (congrArg ((cs.drop 10).take 1 ++ ·) ((cut_eq (cs := cs) 11 1).trans (congrArg ((cs.drop 11).take 1 ++ ·) ((cut_eq (cs := cs) 12 1).trans (congrArg ((cs.drop 12).take 1 ++ ·) ((cut_eq (cs := cs) 13 1).trans (congrArg ((cs.drop 13).take 1 ++ ·) ((cut_eq (cs := cs) 14 1).trans (congrArg ((cs.drop 14).take 1 ++ ·) (cut_eq (cs := cs) 15 1)))))))))))))))))))))))))))))))
  rw [(show (cs.drop 0).take 1 = _ from r0), (show (cs.drop 1).take 1 = _ from r1), (show (cs.drop 2).take 1 = _ from r2), (show (cs.drop 3).take 1 = _ from r3), (show (cs.drop 4).take 1 = _ from r4), (show (cs.drop 5).take 1 = _ from r5), (show (cs.drop 6).take 1 = _ from r6), (show (cs.drop 7).take 1 = _ from r7), (show (cs.drop 8).take 1 = _ from r8), (show (cs.drop 9).take 1 = _ from r9), (show (cs.drop 10).take 1 = _ from r10), (show (cs.drop 11).take 1 = _ from r11), (show (cs.drop 12).take 1 = _ from r12), (show (cs.drop 13).take 1 = _ from r13), (show (cs.drop 14).take 1 = _ from r14), (show (cs.drop 15).take 1 = _ from r15), List.drop_eq_nil_iff.2 (Nat.le_of_eq hl)] at e
  exact ⟨⟨x0, x1, x2, x3, x4, x5, x6, x7, x8, x9, x10, x11, x12, x13, x14, x15⟩, e, ⟨i0, i1, i2, i3, i4, i5, i6, i7, i8, i9, i10, i11, i12, i13, i14, i15⟩⟩
theorem cells30 : Tryd.prog.cellsOf 30 = 17 := by kernel_rfl
theorem op30 : Opens Tryd.prog 30 k_Addr ok_Addr := fun {H enc w spare held fuel cs x} h => by
  obtain ⟨hl, hf⟩ := field_open Tryd.underlying30 h
  rw [cells30] at hl
  obtain ⟨x0, r0, i0⟩ := hf 0 0 4 1 _ rfl rfl rfl cells4 op4
  obtain ⟨x1, r1, i1⟩ := hf 1 1 28 16 _ rfl rfl rfl cells28 op28
  have e : cs = (cs.drop 0).take 1 ++ ((cs.drop 1).take 16 ++ (cs.drop 17)) := ((cut_eq (cs := cs) 0 1).trans (congrArg ((cs.drop 0).take 1 ++ ·) (cut_eq (cs := cs) 1 16)))
  rw [(show (cs.drop 0).take 1 = _ from r0), (show (cs.drop 1).take 16 = _ from r1), List.drop_eq_nil_iff.2 (Nat.le_of_eq hl)] at e
  exact ⟨⟨x0, x1⟩, e, ⟨i0, i1⟩⟩
theorem cells32 : Tryd.prog.cellsOf 32 = 18 := by kernel_rfl
theorem op32 : Opens Tryd.prog 32 k_Point ok_Point := fun {H enc w spare held fuel cs x} h => by
  obtain ⟨hl, hf⟩ := field_open Tryd.underlying32 h
  rw [cells32] at hl
  obtain ⟨x0, r0, i0⟩ := hf 0 0 30 17 _ rfl rfl rfl cells30 op30
  obtain ⟨x1, r1, i1⟩ := hf 1 17 3 1 _ rfl rfl rfl cells3 op3
  have e : cs = (cs.drop 0).take 17 ++ ((cs.drop 17).take 1 ++ (cs.drop 18)) := ((cut_eq (cs := cs) 0 17).trans (congrArg ((cs.drop 0).take 17 ++ ·) (cut_eq (cs := cs) 17 1)))
  rw [(show (cs.drop 0).take 17 = _ from r0), (show (cs.drop 17).take 1 = _ from r1), List.drop_eq_nil_iff.2 (Nat.le_of_eq hl)] at e
  exact ⟨⟨x0, x1⟩, e, ⟨i0, i1⟩⟩
theorem op9 : Opens Tryd.prog 9 kStr inS := opens_str Tryd.underlying9
theorem cells9 : Tryd.prog.cellsOf 9 = 1 := by kernel_rfl
theorem cells34 : Tryd.prog.cellsOf 34 = 2 := by kernel_rfl
theorem op34 : Opens Tryd.prog 34 k_Key ok_Key := fun {H enc w spare held fuel cs x} h => by
  obtain ⟨hl, hf⟩ := field_open Tryd.underlying34 h
  rw [cells34] at hl
  obtain ⟨x0, r0, i0⟩ := hf 0 0 9 1 _ rfl rfl rfl cells9 op9
  obtain ⟨x1, r1, i1⟩ := hf 1 1 9 1 _ rfl rfl rfl cells9 op9
  have e : cs = (cs.drop 0).take 1 ++ ((cs.drop 1).take 1 ++ (cs.drop 2)) := ((cut_eq (cs := cs) 0 1).trans (congrArg ((cs.drop 0).take 1 ++ ·) (cut_eq (cs := cs) 1 1)))
  rw [(show (cs.drop 0).take 1 = _ from r0), (show (cs.drop 1).take 1 = _ from r1), List.drop_eq_nil_iff.2 (Nat.le_of_eq hl)] at e
  exact ⟨⟨x0, x1⟩, e, ⟨i0, i1⟩⟩
theorem cells36 : Tryd.prog.cellsOf 36 = 26 := by kernel_rfl
theorem op36 : Opens Tryd.prog 36 k_Front ok_Front := fun {H enc w spare held fuel cs x} h => by
  obtain ⟨hl, hf⟩ := field_open Tryd.underlying36 h
  rw [cells36] at hl
  obtain ⟨x0, r0, i0⟩ := hf 0 0 3 1 _ rfl rfl rfl cells3 op3
  obtain ⟨x1, r1, i1⟩ := hf 1 1 32 18 _ rfl rfl rfl cells32 op32
  obtain ⟨x2, r2, i2⟩ := hf 2 19 34 2 _ rfl rfl rfl cells34 op34
  obtain ⟨x3, r3, i3⟩ := hf 3 21 9 1 _ rfl rfl rfl cells9 op9
  obtain ⟨x4, r4, i4⟩ := hf 4 22 3 1 _ rfl rfl rfl cells3 op3
  obtain ⟨x5, r5, i5⟩ := hf 5 23 4 1 _ rfl rfl rfl cells4 op4
  obtain ⟨x6, r6, i6⟩ := hf 6 24 4 1 _ rfl rfl rfl cells4 op4
  obtain ⟨x7, r7, i7⟩ := hf 7 25 3 1 _ rfl rfl rfl cells3 op3
  have e : cs = (cs.drop 0).take 1 ++ ((cs.drop 1).take 18 ++ ((cs.drop 19).take 2 ++ ((cs.drop 21).take 1 ++ ((cs.drop 22).take 1 ++ ((cs.drop 23).take 1 ++ ((cs.drop 24).take 1 ++ ((cs.drop 25).take 1 ++ (cs.drop 26)))))))) := ((cut_eq (cs := cs) 0 1).trans (congrArg ((cs.drop 0).take 1 ++ ·) ((cut_eq (cs := cs) 1 18).trans (congrArg ((cs.drop 1).take 18 ++ ·) ((cut_eq (cs := cs) 19 2).trans (congrArg ((cs.drop 19).take 2 ++ ·) ((cut_eq (cs := cs) 21 1).trans (congrArg ((cs.drop 21).take 1 ++ ·) ((cut_eq (cs := cs) 22 1).trans (congrArg ((cs.drop 22).take 1 ++ ·) ((cut_eq (cs := cs) 23 1).trans (congrArg ((cs.drop 23).take 1 ++ ·) ((cut_eq (cs := cs) 24 1).trans (congrArg ((cs.drop 24).take 1 ++ ·) (cut_eq (cs := cs) 25 1)))))))))))))))
  rw [(show (cs.drop 0).take 1 = _ from r0), (show (cs.drop 1).take 18 = _ from r1), (show (cs.drop 19).take 2 = _ from r2), (show (cs.drop 21).take 1 = _ from r3), (show (cs.drop 22).take 1 = _ from r4), (show (cs.drop 23).take 1 = _ from r5), (show (cs.drop 24).take 1 = _ from r6), (show (cs.drop 25).take 1 = _ from r7), List.drop_eq_nil_iff.2 (Nat.le_of_eq hl)] at e
  exact ⟨⟨x0, x1, x2, x3, x4, x5, x6, x7⟩, e, ⟨i0, i1, i2, i3, i4, i5, i6, i7⟩⟩
theorem cells38 : Tryd.prog.cellsOf 38 = 46 := by kernel_rfl
theorem op38 : Opens Tryd.prog 38 k_Out ok_Out := fun {H enc w spare held fuel cs x} h => by
  obtain ⟨hl, hf⟩ := field_open Tryd.underlying38 h
  rw [cells38] at hl
  obtain ⟨x0, r0, i0⟩ := hf 0 0 3 1 _ rfl rfl rfl cells3 op3
  obtain ⟨x1, r1, i1⟩ := hf 1 1 27 1 _ rfl rfl rfl cells27 op27
  obtain ⟨x2, r2, i2⟩ := hf 2 2 36 26 _ rfl rfl rfl cells36 op36
  obtain ⟨x3, r3, i3⟩ := hf 3 28 32 18 _ rfl rfl rfl cells32 op32
  have e : cs = (cs.drop 0).take 1 ++ ((cs.drop 1).take 1 ++ ((cs.drop 2).take 26 ++ ((cs.drop 28).take 18 ++ (cs.drop 46)))) := ((cut_eq (cs := cs) 0 1).trans (congrArg ((cs.drop 0).take 1 ++ ·) ((cut_eq (cs := cs) 1 1).trans (congrArg ((cs.drop 1).take 1 ++ ·) ((cut_eq (cs := cs) 2 26).trans (congrArg ((cs.drop 2).take 26 ++ ·) (cut_eq (cs := cs) 28 18)))))))
  obtain ⟨z1_0, e1, h1_0⟩ := r1
  rw [(show (cs.drop 0).take 1 = _ from r0), (show (cs.drop 1).take 1 = _ from e1), (show (cs.drop 2).take 26 = _ from r2), (show (cs.drop 28).take 18 = _ from r3), List.drop_eq_nil_iff.2 (Nat.le_of_eq hl)] at e
  exact ⟨⟨x0, x1, x2, x3⟩, ⟨z1_0, e, h1_0⟩, ⟨i0, i1, i2, i3⟩⟩
theorem cells40 : Tryd.prog.cellsOf 40 = 52 := by kernel_rfl
theorem op40 : Opens Tryd.prog 40 k_Act ok_Act := fun {H enc w spare held fuel cs x} h => by
  obtain ⟨hl, hf⟩ := field_open Tryd.underlying40 h
  rw [cells40] at hl
  obtain ⟨x0, r0, i0⟩ := hf 0 0 3 1 _ rfl rfl rfl cells3 op3
  obtain ⟨x1, r1, i1⟩ := hf 1 1 3 1 _ rfl rfl rfl cells3 op3
  obtain ⟨x2, r2, i2⟩ := hf 2 2 3 1 _ rfl rfl rfl cells3 op3
  obtain ⟨x3, r3, i3⟩ := hf 3 3 38 46 _ rfl rfl rfl cells38 op38
  obtain ⟨x4, r4, i4⟩ := hf 4 49 3 1 _ rfl rfl rfl cells3 op3
  obtain ⟨x5, r5, i5⟩ := hf 5 50 3 1 _ rfl rfl rfl cells3 op3
  obtain ⟨x6, r6, i6⟩ := hf 6 51 3 1 _ rfl rfl rfl cells3 op3
  have e : cs = (cs.drop 0).take 1 ++ ((cs.drop 1).take 1 ++ ((cs.drop 2).take 1 ++ ((cs.drop 3).take 46 ++ ((cs.drop 49).take 1 ++ ((cs.drop 50).take 1 ++ ((cs.drop 51).take 1 ++ (cs.drop 52))))))) := ((cut_eq (cs := cs) 0 1).trans (congrArg ((cs.drop 0).take 1 ++ ·) ((cut_eq (cs := cs) 1 1).trans (congrArg ((cs.drop 1).take 1 ++ ·) ((cut_eq (cs := cs) 2 1).trans (congrArg ((cs.drop 2).take 1 ++ ·) ((cut_eq (cs := cs) 3 46).trans (congrArg ((cs.drop 3).take 46 ++ ·) ((cut_eq (cs := cs) 49 1).trans (congrArg ((cs.drop 49).take 1 ++ ·) ((cut_eq (cs := cs) 50 1).trans (congrArg ((cs.drop 50).take 1 ++ ·) (cut_eq (cs := cs) 51 1)))))))))))))
  obtain ⟨z3_0, e3, h3_0⟩ := r3
  rw [(show (cs.drop 0).take 1 = _ from r0), (show (cs.drop 1).take 1 = _ from r1), (show (cs.drop 2).take 1 = _ from r2), (show (cs.drop 3).take 46 = _ from e3), (show (cs.drop 49).take 1 = _ from r4), (show (cs.drop 50).take 1 = _ from r5), (show (cs.drop 51).take 1 = _ from r6), List.drop_eq_nil_iff.2 (Nat.le_of_eq hl)] at e
  exact ⟨⟨x0, x1, x2, x3, x4, x5, x6⟩, ⟨z3_0, e, h3_0⟩, ⟨i0, i1, i2, i3, i4, i5, i6⟩⟩
theorem op22 : Opens Tryd.prog 22 (k_Act.sl k_Act_pos) (fun l => ∀ x ∈ l, ok_Act x) := opens_sl k_Act_pos Tryd.underlying22 cells40 op40
/-- What is left to show of the statement: plain Lean. -/
def Plain4 : Prop := ∀ (a0 : (List Act)), (fun l => ∀ x ∈ l, ok_Act x) a0 → F4_StatsPla a0 = some true
theorem Tryd.gErr0 : Tryd.prog.globalNamed "linkboy/api.ErrRange" = some 0 := by kernel_rfl
theorem Tryd.gTy0 : (Tryd.prog.globals[0]?).map (·.type) = some 45 := by kernel_rfl
theorem Tryd.gErr3 : Tryd.prog.globalNamed "linkboy/api.ErrShort" = some 3 := by kernel_rfl
theorem Tryd.gTy3 : (Tryd.prog.globals[3]?).map (·.type) = some 45 := by kernel_rfl
theorem Tryd.gErr4 : Tryd.prog.globalNamed "linkboy/api.ErrLong" = some 4 := by kernel_rfl
theorem Tryd.gTy4 : (Tryd.prog.globals[4]?).map (·.type) = some 45 := by kernel_rfl
theorem Tryd.gErr5 : Tryd.prog.globalNamed "linkboy/api.ErrForm" = some 5 := by kernel_rfl
theorem Tryd.gTy5 : (Tryd.prog.globals[5]?).map (·.type) = some 45 := by kernel_rfl
theorem Tryd.gErr6 : Tryd.prog.globalNamed "linkboy/api.ErrSum" = some 6 := by kernel_rfl
theorem Tryd.gTy6 : (Tryd.prog.globals[6]?).map (·.type) = some 45 := by kernel_rfl
theorem Tryd.gErr7 : Tryd.prog.globalNamed "linkboy/api.ErrName" = some 7 := by kernel_rfl
theorem Tryd.gTy7 : (Tryd.prog.globals[7]?).map (·.type) = some 45 := by kernel_rfl
theorem Tryd.gErr8 : Tryd.prog.globalNamed "linkboy/api.ErrKind" = some 8 := by kernel_rfl
theorem Tryd.gTy8 : (Tryd.prog.globals[8]?).map (·.type) = some 45 := by kernel_rfl
theorem Tryd.gErr9 : Tryd.prog.globalNamed "linkboy/api.ErrAddress" = some 9 := by kernel_rfl
theorem Tryd.gTy9 : (Tryd.prog.globals[9]?).map (·.type) = some 45 := by kernel_rfl
theorem Tryd.gErr10 : Tryd.prog.globalNamed "linkboy/api.ErrVersion" = some 10 := by kernel_rfl
theorem Tryd.gTy10 : (Tryd.prog.globals[10]?).map (·.type) = some 45 := by kernel_rfl
theorem Tryd.gErr1 : Tryd.prog.globalNamed "linkboy/api.ErrStale" = some 1 := by kernel_rfl
theorem Tryd.gTy1 : (Tryd.prog.globals[1]?).map (·.type) = some 45 := by kernel_rfl
theorem Tryd.gErr11 : Tryd.prog.globalNamed "linkboy/api.ErrNone" = some 11 := by kernel_rfl
theorem Tryd.gTy11 : (Tryd.prog.globals[11]?).map (·.type) = some 45 := by kernel_rfl
theorem Tryd.gErr12 : Tryd.prog.globalNamed "linkboy/api.ErrDup" = some 12 := by kernel_rfl
theorem Tryd.gTy12 : (Tryd.prog.globals[12]?).map (·.type) = some 45 := by kernel_rfl
theorem Tryd.gErr2 : Tryd.prog.globalNamed "linkboy/api.ErrFull" = some 2 := by kernel_rfl
theorem Tryd.gTy2 : (Tryd.prog.globals[2]?).map (·.type) = some 45 := by kernel_rfl
theorem Tryd.gErr13 : Tryd.prog.globalNamed "linkboy/api.ErrFail" = some 13 := by kernel_rfl
theorem Tryd.gTy13 : (Tryd.prog.globals[13]?).map (·.type) = some 45 := by kernel_rfl
theorem Tryd.gErr14 : Tryd.prog.globalNamed "linkboy/api.ErrState" = some 14 := by kernel_rfl
theorem Tryd.gTy14 : (Tryd.prog.globals[14]?).map (·.type) = some 45 := by kernel_rfl
theorem Tryd.gErr15 : Tryd.prog.globalNamed "linkboy/api.ErrDown" = some 15 := by kernel_rfl
theorem Tryd.gTy15 : (Tryd.prog.globals[15]?).map (·.type) = some 45 := by kernel_rfl
theorem Tryd.gErr16 : Tryd.prog.globalNamed "linkboy/api.ErrProto" = some 16 := by kernel_rfl
theorem Tryd.gTy16 : (Tryd.prog.globals[16]?).map (·.type) = some 45 := by kernel_rfl
theorem Tryd.gErr17 : Tryd.prog.globalNamed "linkboy/api.ErrIndex" = some 17 := by kernel_rfl
theorem Tryd.gTy17 : (Tryd.prog.globals[17]?).map (·.type) = some 45 := by kernel_rfl
theorem Tryd.ecells186 : Tryd.prog.cellsOf 186 = 1 := by kernel_rfl
theorem Tryd.ecellsS : Tryd.prog.cellsOf 9 = 1 := by kernel_rfl
theorem Tryd.estar : "*" ++ "errors.errorString" = "*errors.errorString" := by decide
theorem Tryd.erow (u : TypeId) (h : Tryd.prog.typeName? 3 u = some "*errors.errorString") : u = 156 :=
  typeName_ptr_named (nm := "errors.errorString") (by rw [Tryd.estar]; kernel_rfl) (by kernel_rfl) (by decide) u (by rw [Tryd.estar]; exact h)
set_option maxRecDepth 100000 in
theorem statsPlay_gl {W : World} (h : laidMet Tryd.prog Rows.statsPlayRow.laid W) : ∃ ge, (kGL 156 18).rep allB W ge [Value.bool true] := by
  obtain ⟨ps, hv, hnd, hr⟩ := h
  obtain ⟨As, k1, k2, _, k4⟩ := laid_addrs (P := Tryd.prog) (nm := "*errors.errorString") Tryd.underlying45 Tryd.erow Tryd.underlying156 Tryd.underlying186 rfl rfl Tryd.underlying9 Tryd.ecells186 Tryd.ecellsS [("linkboy/api.ErrRange", [97, 32, 110, 117, 109, 98, 101, 114, 32, 105, 115, 32, 111, 117, 116, 32, 111, 102, 32, 105, 116, 115, 32, 114, 97, 110, 103, 101]), ("linkboy/api.ErrShort", [115, 111, 109, 101, 116, 104, 105, 110, 103, 32, 105, 115, 32, 109, 105, 115, 115, 105, 110, 103, 32, 97, 116, 32, 116, 104, 101, 32, 101, 110, 100]), ("linkboy/api.ErrLong", [116, 104, 101, 114, 101, 32, 105, 115, 32, 109, 111, 114, 101, 32, 116, 104, 97, 110, 32, 109, 97, 121, 32, 98, 101]), ("linkboy/api.ErrForm", [105, 116, 32, 105, 115, 32, 110, 111, 116, 32, 111, 102, 32, 105, 116, 115, 32, 102, 111, 114, 109]), ("linkboy/api.ErrSum", [116, 104, 101, 32, 99, 104, 101, 99, 107, 115, 117, 109, 32, 105, 115, 32, 110, 111, 116, 32, 114, 105, 103, 104, 116]), ("linkboy/api.ErrName", [105, 116, 32, 105, 115, 32, 110, 111, 32, 114, 105, 103, 104, 116, 32, 110, 97, 109, 101]), ("linkboy/api.ErrKind", [105, 116, 32, 105, 115, 32, 111, 102, 32, 97, 110, 111, 116, 104, 101, 114, 32, 107, 105, 110, 100]), ("linkboy/api.ErrAddress", [105, 116, 32, 105, 115, 32, 110, 111, 32, 114, 105, 103, 104, 116, 32, 97, 100, 100, 114, 101, 115, 115]), ("linkboy/api.ErrVersion", [116, 104, 101, 32, 118, 101, 114, 115, 105, 111, 110, 32, 105, 115, 32, 110, 111, 116, 32, 111, 110, 101]), ("linkboy/api.ErrStale", [105, 116, 32, 105, 115, 32, 111, 108, 100, 101, 114, 32, 116, 104, 97, 110, 32, 119, 104, 97, 116, 32, 105, 115, 32, 107, 110, 111, 119, 110]), ("linkboy/api.ErrNone", [116, 104, 101, 114, 101, 32, 105, 115, 32, 110, 111, 110, 101]), ("linkboy/api.ErrDup", [105, 116, 32, 105, 115, 32, 116, 104, 101, 114, 101, 32, 97, 108, 114, 101, 97, 100, 121]), ("linkboy/api.ErrFull", [116, 104, 101, 114, 101, 32, 97, 114, 101, 32, 97, 115, 32, 109, 97, 110, 121, 32, 97, 115, 32, 109, 97, 121, 32, 98, 101]), ("linkboy/api.ErrFail", [105, 116, 32, 102, 97, 105, 108, 101, 100, 32, 111, 110, 32, 116, 104, 101, 32, 119, 97, 121]), ("linkboy/api.ErrState", [105, 116, 32, 99, 97, 110, 32, 110, 111, 116, 32, 98, 101, 32, 100, 111, 110, 101, 32, 105, 110, 32, 116, 104, 105, 115, 32, 115, 116, 97, 116, 101]), ("linkboy/api.ErrDown", [105, 116, 32, 105, 115, 32, 100, 111, 119, 110]), ("linkboy/api.ErrProto", [105, 116, 32, 105, 115, 32, 111, 102, 32, 97, 110, 111, 116, 104, 101, 114, 32, 112, 114, 111, 116, 111, 99, 111, 108]), ("linkboy/api.ErrIndex", [97, 32, 112, 108, 97, 99, 101, 32, 105, 115, 32, 110, 111, 116, 32, 105, 110, 32, 116, 104, 101, 32, 108, 105, 115, 116])] [0, 3, 4, 5, 6, 7, 8, 9, 10, 1, 11, 12, 2, 13, 14, 15, 16, 17] ps hv hr rfl (fun i x g h1 h2 => by
    match i, h1, h2 with
    | 0, h1, h2 => cases h1; cases h2; exact ⟨Tryd.gErr0, Tryd.gTy0⟩
    | 1, h1, h2 => cases h1; cases h2; exact ⟨Tryd.gErr3, Tryd.gTy3⟩
    | 2, h1, h2 => cases h1; cases h2; exact ⟨Tryd.gErr4, Tryd.gTy4⟩
    | 3, h1, h2 => cases h1; cases h2; exact ⟨Tryd.gErr5, Tryd.gTy5⟩
    | 4, h1, h2 => cases h1; cases h2; exact ⟨Tryd.gErr6, Tryd.gTy6⟩
    | 5, h1, h2 => cases h1; cases h2; exact ⟨Tryd.gErr7, Tryd.gTy7⟩
    | 6, h1, h2 => cases h1; cases h2; exact ⟨Tryd.gErr8, Tryd.gTy8⟩
    | 7, h1, h2 => cases h1; cases h2; exact ⟨Tryd.gErr9, Tryd.gTy9⟩
    | 8, h1, h2 => cases h1; cases h2; exact ⟨Tryd.gErr10, Tryd.gTy10⟩
    | 9, h1, h2 => cases h1; cases h2; exact ⟨Tryd.gErr1, Tryd.gTy1⟩
    | 10, h1, h2 => cases h1; cases h2; exact ⟨Tryd.gErr11, Tryd.gTy11⟩
    | 11, h1, h2 => cases h1; cases h2; exact ⟨Tryd.gErr12, Tryd.gTy12⟩
    | 12, h1, h2 => cases h1; cases h2; exact ⟨Tryd.gErr2, Tryd.gTy2⟩
    | 13, h1, h2 => cases h1; cases h2; exact ⟨Tryd.gErr13, Tryd.gTy13⟩
    | 14, h1, h2 => cases h1; cases h2; exact ⟨Tryd.gErr14, Tryd.gTy14⟩
    | 15, h1, h2 => cases h1; cases h2; exact ⟨Tryd.gErr15, Tryd.gTy15⟩
    | 16, h1, h2 => cases h1; cases h2; exact ⟨Tryd.gErr16, Tryd.gTy16⟩
    | 17, h1, h2 => cases h1; cases h2; exact ⟨Tryd.gErr17, Tryd.gTy17⟩
    | i + 18, h1, _ => cases h1)
  exact gl_of [0, 3, 4, 5, 6, 7, 8, 9, 10, 1, 11, 12, 2, 13, 14, 15, 16, 17] As 18 k1 (by decide) k2 (k4 hnd)
noncomputable def statsPlay_low : Nat := (World.holding Tryd.prog default ⟨#[], #[], []⟩).heap.size
/-- A world for the witness: the settled one, the variables holding what their initialisers lay. -/
noncomputable def statsPlay_world (os : Os) : World :=
  let w0 := World.holding Tryd.prog os ⟨#[.cells #[.string ⟨#[97, 32, 110, 117, 109, 98, 101, 114, 32, 105, 115, 32, 111, 117, 116, 32, 111, 102, 32, 105, 116, 115, 32, 114, 97, 110, 103, 101]⟩] 186, .cells #[.string ⟨#[105, 116, 32, 105, 115, 32, 111, 108, 100, 101, 114, 32, 116, 104, 97, 110, 32, 119, 104, 97, 116, 32, 105, 115, 32, 107, 110, 111, 119, 110]⟩] 186, .cells #[.string ⟨#[116, 104, 101, 114, 101, 32, 97, 114, 101, 32, 97, 115, 32, 109, 97, 110, 121, 32, 97, 115, 32, 109, 97, 121, 32, 98, 101]⟩] 186, .cells #[.string ⟨#[115, 111, 109, 101, 116, 104, 105, 110, 103, 32, 105, 115, 32, 109, 105, 115, 115, 105, 110, 103, 32, 97, 116, 32, 116, 104, 101, 32, 101, 110, 100]⟩] 186, .cells #[.string ⟨#[116, 104, 101, 114, 101, 32, 105, 115, 32, 109, 111, 114, 101, 32, 116, 104, 97, 110, 32, 109, 97, 121, 32, 98, 101]⟩] 186, .cells #[.string ⟨#[105, 116, 32, 105, 115, 32, 110, 111, 116, 32, 111, 102, 32, 105, 116, 115, 32, 102, 111, 114, 109]⟩] 186, .cells #[.string ⟨#[116, 104, 101, 32, 99, 104, 101, 99, 107, 115, 117, 109, 32, 105, 115, 32, 110, 111, 116, 32, 114, 105, 103, 104, 116]⟩] 186, .cells #[.string ⟨#[105, 116, 32, 105, 115, 32, 110, 111, 32, 114, 105, 103, 104, 116, 32, 110, 97, 109, 101]⟩] 186, .cells #[.string ⟨#[105, 116, 32, 105, 115, 32, 111, 102, 32, 97, 110, 111, 116, 104, 101, 114, 32, 107, 105, 110, 100]⟩] 186, .cells #[.string ⟨#[105, 116, 32, 105, 115, 32, 110, 111, 32, 114, 105, 103, 104, 116, 32, 97, 100, 100, 114, 101, 115, 115]⟩] 186, .cells #[.string ⟨#[116, 104, 101, 32, 118, 101, 114, 115, 105, 111, 110, 32, 105, 115, 32, 110, 111, 116, 32, 111, 110, 101]⟩] 186, .cells #[.string ⟨#[116, 104, 101, 114, 101, 32, 105, 115, 32, 110, 111, 110, 101]⟩] 186, .cells #[.string ⟨#[105, 116, 32, 105, 115, 32, 116, 104, 101, 114, 101, 32, 97, 108, 114, 101, 97, 100, 121]⟩] 186, .cells #[.string ⟨#[105, 116, 32, 102, 97, 105, 108, 101, 100, 32, 111, 110, 32, 116, 104, 101, 32, 119, 97, 121]⟩] 186, .cells #[.string ⟨#[105, 116, 32, 99, 97, 110, 32, 110, 111, 116, 32, 98, 101, 32, 100, 111, 110, 101, 32, 105, 110, 32, 116, 104, 105, 115, 32, 115, 116, 97, 116, 101]⟩] 186, .cells #[.string ⟨#[105, 116, 32, 105, 115, 32, 100, 111, 119, 110]⟩] 186, .cells #[.string ⟨#[105, 116, 32, 105, 115, 32, 111, 102, 32, 97, 110, 111, 116, 104, 101, 114, 32, 112, 114, 111, 116, 111, 99, 111, 108]⟩] 186, .cells #[.string ⟨#[97, 32, 112, 108, 97, 99, 101, 32, 105, 115, 32, 110, 111, 116, 32, 105, 110, 32, 116, 104, 101, 32, 108, 105, 115, 116]⟩] 186], #[], []⟩
  let put (h : Array Obj) (g : Nat) (v : Value) : Array Obj := h.modify g fun
    | .cells _ t frozen => .cells #[v] t frozen
    | o => o
  { w0 with heap := put (put (put (put (put (put (put (put (put (put (put (put (put (put (put (put (put (put (w0.heap) 0 (.iface 156 (.pointer (some ⟨statsPlay_low + 0, 0, none⟩)))) 1 (.iface 156 (.pointer (some ⟨statsPlay_low + 1, 0, none⟩)))) 2 (.iface 156 (.pointer (some ⟨statsPlay_low + 2, 0, none⟩)))) 3 (.iface 156 (.pointer (some ⟨statsPlay_low + 3, 0, none⟩)))) 4 (.iface 156 (.pointer (some ⟨statsPlay_low + 4, 0, none⟩)))) 5 (.iface 156 (.pointer (some ⟨statsPlay_low + 5, 0, none⟩)))) 6 (.iface 156 (.pointer (some ⟨statsPlay_low + 6, 0, none⟩)))) 7 (.iface 156 (.pointer (some ⟨statsPlay_low + 7, 0, none⟩)))) 8 (.iface 156 (.pointer (some ⟨statsPlay_low + 8, 0, none⟩)))) 9 (.iface 156 (.pointer (some ⟨statsPlay_low + 9, 0, none⟩)))) 10 (.iface 156 (.pointer (some ⟨statsPlay_low + 10, 0, none⟩)))) 11 (.iface 156 (.pointer (some ⟨statsPlay_low + 11, 0, none⟩)))) 12 (.iface 156 (.pointer (some ⟨statsPlay_low + 12, 0, none⟩)))) 13 (.iface 156 (.pointer (some ⟨statsPlay_low + 13, 0, none⟩)))) 14 (.iface 156 (.pointer (some ⟨statsPlay_low + 14, 0, none⟩)))) 15 (.iface 156 (.pointer (some ⟨statsPlay_low + 15, 0, none⟩)))) 16 (.iface 156 (.pointer (some ⟨statsPlay_low + 16, 0, none⟩)))) 17 (.iface 156 (.pointer (some ⟨statsPlay_low + 17, 0, none⟩))) }
set_option maxRecDepth 100000 in
theorem statsPlay_contract (hl : Plain4) (H : Type) (enc : TypeId × Value → H) (W : World) (base : Nat) (args : Array Value) (ds gs : List (DataW H)) (before : List MemPlace)
    (hval0 : ∀ (j : Nat) t v, Tryd.f4.params[j]? = some t → args[j]? = some v → Value.okWide Tryd.prog W .any base t v)
    (hW : DataW.Whole enc Tryd.prog Tryd.f4.params.toList Rows.statsPlaySpec.vars false W args.toList ds gs before) (hL : laidMetH Tryd.prog Rows.statsPlayRow.laid W) :
    Calls Tryd.prog 4 args W fun e W' => ∃ v, e = .returned v ∧ Rows.statsPlaySpec.post enc Tryd.prog Tryd.f4 false true false false W args v W' := by
  obtain ⟨ge, gl⟩ := statsPlay_gl (show laidMet Tryd.prog Rows.statsPlayRow.laid W from hL)
  have hval : ∀ (j : Nat) t v, Tryd.f4.params[j]? = some t → args[j]? = some v → Value.okWide Tryd.prog W .any base t v := hval0
  have hW' := hW
  obtain ⟨p, q, hA0, hV, rfl, hfz, hnd⟩ := hW
  have hA : DataW.TrodAll enc Tryd.prog W 0 (fun _ => true) true Tryd.f4.params.toList args.toList ds p := hA0
  rw [Tryd.params4] at hA hval
  obtain ⟨v0, d0, rfl, rfl, t0⟩ := trodAll_one hA
  obtain ⟨rfl, rfl⟩ := trodVars_none hV
  obtain ⟨f0, e0⟩ := id t0
  obtain ⟨a0, r0, i0⟩ := op22 e0
  obtain ⟨b0, l0, c0, rfl⟩ := okWide_slice Tryd.underlying22 (hval 0 22 v0 rfl rfl)
  obtain ⟨z0, g0, s0⟩ := r0
  obtain rfl : Value.slice b0 l0 c0 = z0 := by simpa [Value.cells] using g0
  refine Calls.mono (ctr4 allB W a0 _ s0 ge gl true (hl a0 i0)) fun e W' he => ?_
  obtain ⟨v, rfl, rfl, c⟩ := he
  have hb : Below W.heap.size W W' := ⟨c.os, c.tape, c.output, c.size, fun k hk => c.blk k hk (fun x => x)⟩
  have u0 := Below.trod Tryd.laidOut (by kernel_rfl) (of_decide_eq_true (by kernel_rfl)) t0 hb (DataW.trod_lt _ _ _ _ e0)
  exact ⟨_, rfl, _, _, _, [], _, [], hW', trodAll_mk1 (shut_bool Tryd.underlying4 true), ⟨_, _, u0, rfl, rfl⟩, rfl, hb.frame _, fun h => by cases h⟩
set_option maxRecDepth 100000 in
theorem statsPlay_laid (os : Os) : laidMet Tryd.prog Rows.statsPlayRow.laid ((statsPlay_world os).forCall (fun _ _ => 0) ⟨#[], #[.slice none 0 0], []⟩).memory :=
  laidMet_of_run' 8 (by kernel_rfl) (by kernel_rfl)
set_option maxRecDepth 100000 in
theorem statsPlay_reads (os : Os) {H : Type} (enc : TypeId × Value → H) : ∃ places, DataW.whole enc Tryd.prog ((statsPlay_world os).forCall (fun _ _ => 0) ⟨#[], #[.slice none 0 0], []⟩).memory Tryd.f4.params.toList Rows.statsPlaySpec.vars false (#[.slice none 0 0] : Array Value).toList 8 = some ([.nil], [], places) :=
  ⟨[], by kernel_rfl⟩
set_option maxRecDepth 100000 in
theorem statsPlay_lifted (hl : Plain4) (os : Os) (started : os.Started) (H : Type) (enc : TypeId × Value → H) (F : Stop.Interp) :
    ReturnsInHanded {} Tryd.checked os 4 .any ((OpenSpec.ofChange Rows.statsPlaySpec).preRow enc Tryd.prog Tryd.f4 Rows.statsPlayRow.domain false Rows.statsPlayRow.laid) (((OpenSpec.ofChange Rows.statsPlaySpec).at F).post enc Tryd.prog Tryd.f4 false true false false) := by
  obtain ⟨places, hx⟩ := statsPlay_reads os enc
  refine returnsInHanded_of_row (C := Tryd.checked) (s := OpenSpec.ofChange Rows.statsPlaySpec) Tryd.own started (by kernel_rfl) Tryd.func4
    (witness_row_at (enc := enc) (C := Tryd.checked) false (statsPlay_world os) #[.slice none 0 0] rfl (by kernel_rfl) (by kernel_rfl) (by kernel_rfl)
      (OpenSpec.preRow_of_cond 8 hx (by kernel_rfl) (fun k hk => by cases hk) (by kernel_rfl) (statsPlay_laid os))) ?_
  intro W base args ds gs before hval hW _ _ _ hL _ _
  exact statsPlay_contract hl H enc W base args ds gs before hval hW hL
set_option maxRecDepth 100000 in
theorem statsPlay_said (hl : Plain4) : Rows.StatsPlaySaid :=
  OpenClaim.holds_of_cond 4 Tryd.f4 rfl rfl rfl rfl rfl rfl rfl ⟨rfl, rfl, rfl, rfl, rfl⟩ rfl rfl rfl rfl rfl (by kernel_rfl) Tryd.func4 (by kernel_rfl)
    (of_decide_eq_true (by kernel_rfl)) (by unfold Func.isWrapper; rw [if_neg (by decide +kernel)]; exact ⟨rfl, rfl⟩)
    (fun os started H enc _ F => by rw [OpenClaim.pre_eq_preRow]; exact statsPlay_lifted hl os started H enc F)
set_option maxRecDepth 100000 in
theorem statsPlay_plain (f : FuncId) (fn : Func) (hf : Tryd.pinned.checked.prog.funcNamed "linkboy/linkboylaw40.StatsPlay" = some f) (hfn : Tryd.pinned.checked.prog.funcs[f]? = some fn) :
    true = Tryd.pinned.checked.prog.looks [] ∧ ∀ (j : Nat) t, fn.params[j]? = some t → Tryd.pinned.checked.prog.wantsStandIn t = false := by
  obtain rfl : f = 4 := Option.some.inj ((show Tryd.prog.funcNamed "linkboy/linkboylaw40.StatsPlay" = some 4 by kernel_rfl).symm.trans hf) |>.symm
  obtain rfl : fn = Tryd.f4 := (Option.some.inj (Tryd.func4.symm.trans hfn)).symm
  refine ⟨by kernel_rfl, fun j t ht => ?_⟩
  rw [Tryd.params4] at ht
  have hm : t ∈ [22] := by simpa using Array.mem_of_getElem? ht
  have hall : ([22].all fun u => !Tryd.prog.wantsStandIn u) = true := by kernel_rfl
  exact (show Tryd.prog.wantsStandIn t = false by simpa using List.all_eq_true.1 hall t hm)
set_option maxRecDepth 100000 in
theorem statsPlay_of (hl : Plain4) : Rows.StatsPlayCardSaid :=
  Claim7.holds_tied_plain_at .later [] _ _ _ _ (statsPlay_said hl) (fun _ h => by cases h) (by kernel_rfl) (fun _ h => by cases h) statsPlay_row_tie rfl ⟨rfl, rfl⟩ (by kernel_rfl) rfl statsPlay_plain (by kernel_rfl)
end Go.Proofs.YtkfhcfkbaaekoaaDoor
