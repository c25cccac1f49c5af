/- How the arguments are read, and each statement from its plain law. Written by a program of this session. -/
import Derived.Test.YtgcneihmkkldeaaGreatK11
import Derived.Test.YtgcneihmkkldeaaGreatRows
import Derived.Test.YtgcneihmkkldeaaGreatW1
import Derived.Test.YtgcneihmkkldeaaGreatW2
import Derived.Test.YtgcneihmkkldeaaGreatW3
import Derived.Test.YtgcneihmkkldeaaGreatW4
import Derived.Test.YtgcneihmkkldeaaGreatW5
import Derived.Test.YtgcneihmkkldeaaGreatW6
namespace Go.Proofs.YtgcneihmkkldeaaGreat
open Go K
open Go.ChangeShapes Go.WideShapes Go.ChangeAt Go.RowKit
set_option linter.unusedVariables false
theorem Tryz.own : ownKnob Tryz.prog.godebug = none := by kernel_rfl
theorem Tryz.laidOut : laidOutB Tryz.prog = true := by kernel_rfl
def ok_Key (x : Key) : Prop := inS x.space ∧ inS x.name
def ok_A16u8 (x : A16u8) : Prop := (inK .u8) x.e0 ∧ (inK .u8) x.e1 ∧ (inK .u8) x.e2 ∧ (inK .u8) x.e3 ∧ (inK .u8) x.e4 ∧ (inK .u8) x.e5 ∧ (inK .u8) x.e6 ∧ (inK .u8) x.e7 ∧ (inK .u8) x.e8 ∧ (inK .u8) x.e9 ∧ (inK .u8) x.e10 ∧ (inK .u8) x.e11 ∧ (inK .u8) x.e12 ∧ (inK .u8) x.e13 ∧ (inK .u8) x.e14 ∧ (inK .u8) x.e15
def ok_Addr (x : Addr) : Prop := (fun _ => True) x.six ∧ ok_A16u8 x.b
def ok_Cidr (x : Cidr) : Prop := ok_Addr x.addr ∧ (inK .i64) x.bits
def ok_Port (x : Port) : Prop := inS x.name ∧ (inK .i64) x.proto ∧ (inK .i64) x.port ∧ (inK .i64) x.outer
def ok_Service (x : Service) : Prop := ok_Key x.key ∧ (inK .i64) x.kind ∧ (fun l => ∀ x ∈ l, ok_Addr x) x.cluster ∧ (fun l => ∀ x ∈ l, ok_Addr x) x.external ∧ (fun l => ∀ x ∈ l, ok_Addr x) x.balancers ∧ (fun l => ∀ x ∈ l, ok_Cidr x) x.ranges ∧ (fun l => ∀ x ∈ l, ok_Port x) x.ports ∧ (fun _ => True) x.internalLocal ∧ (fun _ => True) x.externalLocal ∧ (fun _ => True) x.sticky ∧ (inK .i64) x.ticks ∧ (fun _ => True) x.hinted
theorem op9 : Opens Tryz.prog 9 kStr inS := opens_str Tryz.underlying9
theorem cells9 : Tryz.prog.cellsOf 9 = 1 := by kernel_rfl
theorem cells23 : Tryz.prog.cellsOf 23 = 2 := by kernel_rfl
theorem op23 : Opens Tryz.prog 23 k_Key ok_Key := fun {H enc w spare held fuel cs x} h => by
  obtain ⟨hl, hf⟩ := field_open Tryz.underlying23 h
  rw [cells23] at hl
  obtain ⟨x0, r0, i0⟩ := hf 0 0 9 1 _ rfl rfl rfl cells9 op9
  obtain ⟨x1, r1, i1⟩ := hf 1 1 9 1 _ rfl rfl rfl cells9 op9
  have e : cs = (cs.drop 0).take 1 ++ ((cs.drop 1).take 1 ++ (cs.drop 2)) := ((cut_eq (cs := cs) 0 1).trans (congrArg ((cs.drop 0).take 1 ++ ·) (cut_eq (cs := cs) 1 1)))
  rw [(show (cs.drop 0).take 1 = _ from r0), (show (cs.drop 1).take 1 = _ from r1), List.drop_eq_nil_iff.2 (Nat.le_of_eq hl)] at e
  exact ⟨⟨x0, x1⟩, e, ⟨i0, i1⟩⟩
theorem op3 : Opens Tryz.prog 3 (kInt .i64) (inK .i64) := opens_int Tryz.underlying3
theorem cells3 : Tryz.prog.cellsOf 3 = 1 := by kernel_rfl
theorem op4 : Opens Tryz.prog 4 kBool (fun _ => True) := opens_bool Tryz.underlying4
theorem cells4 : Tryz.prog.cellsOf 4 = 1 := by kernel_rfl
theorem op5 : Opens Tryz.prog 5 (kInt .u8) (inK .u8) := opens_int Tryz.underlying5
theorem cells5 : Tryz.prog.cellsOf 5 = 1 := by kernel_rfl
theorem cells41 : Tryz.prog.cellsOf 41 = 16 := by kernel_rfl
theorem op41 : Opens Tryz.prog 41 k_A16u8 ok_A16u8 := fun {H enc w spare held fuel cs x} h => by
  obtain ⟨hl, hf⟩ := array_open Tryz.underlying41 h
  rw [cells41] at hl
  obtain ⟨x0, r0, i0⟩ := hf 0 1 (by decide) cells5 op5
  obtain ⟨x1, r1, i1⟩ := hf 1 1 (by decide) cells5 op5
  obtain ⟨x2, r2, i2⟩ := hf 2 1 (by decide) cells5 op5
  obtain ⟨x3, r3, i3⟩ := hf 3 1 (by decide) cells5 op5
  obtain ⟨x4, r4, i4⟩ := hf 4 1 (by decide) cells5 op5
  obtain ⟨x5, r5, i5⟩ := hf 5 1 (by decide) cells5 op5
  obtain ⟨x6, r6, i6⟩ := hf 6 1 (by decide) cells5 op5
  obtain ⟨x7, r7, i7⟩ := hf 7 1 (by decide) cells5 op5
  obtain ⟨x8, r8, i8⟩ := hf 8 1 (by decide) cells5 op5
  obtain ⟨x9, r9, i9⟩ := hf 9 1 (by decide) cells5 op5
  obtain ⟨x10, r10, i10⟩ := hf 10 1 (by decide) cells5 op5
  obtain ⟨x11, r11, i11⟩ := hf 11 1 (by decide) cells5 op5
  obtain ⟨x12, r12, i12⟩ := hf 12 1 (by decide) cells5 op5
  obtain ⟨x13, r13, i13⟩ := hf 13 1 (by decide) cells5 op5
  obtain ⟨x14, r14, i14⟩ := hf 14 1 (by decide) cells5 op5
  obtain ⟨x15, r15, i15⟩ := hf 15 1 (by decide) cells5 op5
  have e : cs = (cs.drop 0).take 1 ++ ((cs.drop 1).take 1 ++ ((cs.drop 2).take 1 ++ ((cs.drop 3).take 1 ++ ((cs.drop 4).take 1 ++ ((cs.drop 5).take 1 ++ ((cs.drop 6).take 1 ++ ((cs.drop 7).take 1 ++ ((cs.drop 8).take 1 ++ ((cs.drop 9).take 1 ++ ((cs.drop 10).take 1 ++ ((cs.drop 11).take 1 ++ ((cs.drop 12).take 1 ++ ((cs.drop 13).take 1 ++ ((cs.drop 14).take 1 ++ ((cs.drop 15).take 1 ++ (cs.drop 16)))))))))))))))) := ((cut_eq (cs := cs) 0 1).trans (congrArg ((cs.drop 0).take 1 ++ ·) ((cut_eq (cs := cs) 1 1).trans (congrArg ((cs.drop 1).take 1 ++ ·) ((cut_eq (cs := cs) 2 1).trans (congrArg ((cs.drop 2).take 1 ++ ·) ((cut_eq (cs := cs) 3 1).trans (congrArg ((cs.drop 3).take 1 ++ ·) ((cut_eq (cs := cs) 4 1).trans (congrArg ((cs.drop 4).take 1 ++ ·) ((cut_eq (cs := cs) 5 1).trans (congrArg ((cs.drop 5).take 1 ++ ·) ((cut_eq (cs := cs) 6 1).trans (congrArg ((cs.drop 6).take 1 ++ ·) ((cut_eq (cs := cs) 7 1).trans (congrArg ((cs.drop 7).take 1 ++ ·) ((cut_eq (cs := cs) 8 1).trans (congrArg ((cs.drop 8).take 1 ++ ·) ((cut_eq (cs := cs) 9 1).trans (congrArg ((cs.drop 9).take 1 ++ ·) ((cut_eq (cs := cs) 10 1).trans (congrArg ((cs.drop 10).take 1 ++ ·) ((cut_eq (cs := cs) 11 1).trans (congrArg ((cs.drop 11).take 1 ++ ·) ((cut_eq (cs := cs) 12 1).trans (congrArg ((cs.drop 12).take 1 ++ ·) ((cut_eq (cs := cs) 13 1).trans (congrArg ((cs.drop 13).take 1 ++ ·) ((cut_eq (cs := cs) 14 1).trans (congrArg ((cs.drop 14).take 1 ++ ·) (cut_eq (cs := cs) 15 1)))))))))))))))))))))))))))))))
  rw [(show (cs.drop 0).take 1 = _ from r0), (show (cs.drop 1).take 1 = _ from r1), (show (cs.drop 2).take 1 = _ from r2), (show (cs.drop 3).take 1 = _ from r3), (show (cs.drop 4).take 1 = _ from r4), (show (cs.drop 5).take 1 = _ from r5), (show (cs.drop 6).take 1 = _ from r6), (show (cs.drop 7).take 1 = _ from r7), (show (cs.drop 8).take 1 = _ from r8), (show (cs.drop 9).take 1 = _ from r9), (show (cs.drop 10).take 1 = _ from r10), (show (cs.drop 11).take 1 = _ from r11), (show (cs.drop 12).take 1 = _ from r12), (show (cs.drop 13).take 1 = _ from r13), (show (cs.drop 14).take 1 = _ from r14), (show (cs.drop 15).take 1 = _ from r15), List.drop_eq_nil_iff.2 (Nat.le_of_eq hl)] at e
  exact ⟨⟨x0, x1, x2, x3, x4, x5, x6, x7, x8, x9, x10, x11, x12, x13, x14, x15⟩, e, ⟨i0, i1, i2, i3, i4, i5, i6, i7, i8, i9, i10, i11, i12, i13, i14, i15⟩⟩
theorem cells43 : Tryz.prog.cellsOf 43 = 17 := by kernel_rfl
theorem op43 : Opens Tryz.prog 43 k_Addr ok_Addr := fun {H enc w spare held fuel cs x} h => by
  obtain ⟨hl, hf⟩ := field_open Tryz.underlying43 h
  rw [cells43] at hl
  obtain ⟨x0, r0, i0⟩ := hf 0 0 4 1 _ rfl rfl rfl cells4 op4
  obtain ⟨x1, r1, i1⟩ := hf 1 1 41 16 _ rfl rfl rfl cells41 op41
  have e : cs = (cs.drop 0).take 1 ++ ((cs.drop 1).take 16 ++ (cs.drop 17)) := ((cut_eq (cs := cs) 0 1).trans (congrArg ((cs.drop 0).take 1 ++ ·) (cut_eq (cs := cs) 1 16)))
  rw [(show (cs.drop 0).take 1 = _ from r0), (show (cs.drop 1).take 16 = _ from r1), List.drop_eq_nil_iff.2 (Nat.le_of_eq hl)] at e
  exact ⟨⟨x0, x1⟩, e, ⟨i0, i1⟩⟩
theorem op24 : Opens Tryz.prog 24 (k_Addr.sl k_Addr_pos) (fun l => ∀ x ∈ l, ok_Addr x) := opens_sl k_Addr_pos Tryz.underlying24 cells43 op43
theorem cells24 : Tryz.prog.cellsOf 24 = 1 := by kernel_rfl
theorem cells227 : Tryz.prog.cellsOf 227 = 18 := by kernel_rfl
theorem op227 : Opens Tryz.prog 227 k_Cidr ok_Cidr := fun {H enc w spare held fuel cs x} h => by
  obtain ⟨hl, hf⟩ := field_open Tryz.underlying227 h
  rw [cells227] at hl
  obtain ⟨x0, r0, i0⟩ := hf 0 0 43 17 _ rfl rfl rfl cells43 op43
  obtain ⟨x1, r1, i1⟩ := hf 1 17 3 1 _ rfl rfl rfl cells3 op3
  have e : cs = (cs.drop 0).take 17 ++ ((cs.drop 17).take 1 ++ (cs.drop 18)) := ((cut_eq (cs := cs) 0 17).trans (congrArg ((cs.drop 0).take 17 ++ ·) (cut_eq (cs := cs) 17 1)))
  rw [(show (cs.drop 0).take 17 = _ from r0), (show (cs.drop 17).take 1 = _ from r1), List.drop_eq_nil_iff.2 (Nat.le_of_eq hl)] at e
  exact ⟨⟨x0, x1⟩, e, ⟨i0, i1⟩⟩
theorem op25 : Opens Tryz.prog 25 (k_Cidr.sl k_Cidr_pos) (fun l => ∀ x ∈ l, ok_Cidr x) := opens_sl k_Cidr_pos Tryz.underlying25 cells227 op227
theorem cells25 : Tryz.prog.cellsOf 25 = 1 := by kernel_rfl
theorem cells78 : Tryz.prog.cellsOf 78 = 4 := by kernel_rfl
theorem op78 : Opens Tryz.prog 78 k_Port ok_Port := fun {H enc w spare held fuel cs x} h => by
  obtain ⟨hl, hf⟩ := field_open Tryz.underlying78 h
  rw [cells78] at hl
  obtain ⟨x0, r0, i0⟩ := hf 0 0 9 1 _ rfl rfl rfl cells9 op9
  obtain ⟨x1, r1, i1⟩ := hf 1 1 3 1 _ rfl rfl rfl cells3 op3
  obtain ⟨x2, r2, i2⟩ := hf 2 2 3 1 _ rfl rfl rfl cells3 op3
  obtain ⟨x3, r3, i3⟩ := hf 3 3 3 1 _ rfl rfl rfl cells3 op3
  have e : cs = (cs.drop 0).take 1 ++ ((cs.drop 1).take 1 ++ ((cs.drop 2).take 1 ++ ((cs.drop 3).take 1 ++ (cs.drop 4)))) := ((cut_eq (cs := cs) 0 1).trans (congrArg ((cs.drop 0).take 1 ++ ·) ((cut_eq (cs := cs) 1 1).trans (congrArg ((cs.drop 1).take 1 ++ ·) ((cut_eq (cs := cs) 2 1).trans (congrArg ((cs.drop 2).take 1 ++ ·) (cut_eq (cs := cs) 3 1)))))))
  rw [(show (cs.drop 0).take 1 = _ from r0), (show (cs.drop 1).take 1 = _ from r1), (show (cs.drop 2).take 1 = _ from r2), (show (cs.drop 3).take 1 = _ from r3), List.drop_eq_nil_iff.2 (Nat.le_of_eq hl)] at e
  exact ⟨⟨x0, x1, x2, x3⟩, e, ⟨i0, i1, i2, i3⟩⟩
theorem op26 : Opens Tryz.prog 26 (k_Port.sl k_Port_pos) (fun l => ∀ x ∈ l, ok_Port x) := opens_sl k_Port_pos Tryz.underlying26 cells78 op78
theorem cells26 : Tryz.prog.cellsOf 26 = 1 := by kernel_rfl
theorem cells28 : Tryz.prog.cellsOf 28 = 13 := by kernel_rfl
theorem op28 : Opens Tryz.prog 28 k_Service ok_Service := fun {H enc w spare held fuel cs x} h => by
  obtain ⟨hl, hf⟩ := field_open Tryz.underlying28 h
  rw [cells28] at hl
  obtain ⟨x0, r0, i0⟩ := hf 0 0 23 2 _ rfl rfl rfl cells23 op23
  obtain ⟨x1, r1, i1⟩ := hf 1 2 3 1 _ rfl rfl rfl cells3 op3
  obtain ⟨x2, r2, i2⟩ := hf 2 3 24 1 _ rfl rfl rfl cells24 op24
  obtain ⟨x3, r3, i3⟩ := hf 3 4 24 1 _ rfl rfl rfl cells24 op24
  obtain ⟨x4, r4, i4⟩ := hf 4 5 24 1 _ rfl rfl rfl cells24 op24
  obtain ⟨x5, r5, i5⟩ := hf 5 6 25 1 _ rfl rfl rfl cells25 op25
  obtain ⟨x6, r6, i6⟩ := hf 6 7 26 1 _ rfl rfl rfl cells26 op26
  obtain ⟨x7, r7, i7⟩ := hf 7 8 4 1 _ rfl rfl rfl cells4 op4
  obtain ⟨x8, r8, i8⟩ := hf 8 9 4 1 _ rfl rfl rfl cells4 op4
  obtain ⟨x9, r9, i9⟩ := hf 9 10 4 1 _ rfl rfl rfl cells4 op4
  obtain ⟨x10, r10, i10⟩ := hf 10 11 3 1 _ rfl rfl rfl cells3 op3
  obtain ⟨x11, r11, i11⟩ := hf 11 12 4 1 _ rfl rfl rfl cells4 op4
  have e : cs = (cs.drop 0).take 2 ++ ((cs.drop 2).take 1 ++ ((cs.drop 3).take 1 ++ ((cs.drop 4).take 1 ++ ((cs.drop 5).take 1 ++ ((cs.drop 6).take 1 ++ ((cs.drop 7).take 1 ++ ((cs.drop 8).take 1 ++ ((cs.drop 9).take 1 ++ ((cs.drop 10).take 1 ++ ((cs.drop 11).take 1 ++ ((cs.drop 12).take 1 ++ (cs.drop 13)))))))))))) := ((cut_eq (cs := cs) 0 2).trans (congrArg ((cs.drop 0).take 2 ++ ·) ((cut_eq (cs := cs) 2 1).trans (congrArg ((cs.drop 2).take 1 ++ ·) ((cut_eq (cs := cs) 3 1).trans (congrArg ((cs.drop 3).take 1 ++ ·) ((cut_eq (cs := cs) 4 1).trans (congrArg ((cs.drop 4).take 1 ++ ·) ((cut_eq (cs := cs) 5 1).trans (congrArg ((cs.drop 5).take 1 ++ ·) ((cut_eq (cs := cs) 6 1).trans (congrArg ((cs.drop 6).take 1 ++ ·) ((cut_eq (cs := cs) 7 1).trans (congrArg ((cs.drop 7).take 1 ++ ·) ((cut_eq (cs := cs) 8 1).trans (congrArg ((cs.drop 8).take 1 ++ ·) ((cut_eq (cs := cs) 9 1).trans (congrArg ((cs.drop 9).take 1 ++ ·) ((cut_eq (cs := cs) 10 1).trans (congrArg ((cs.drop 10).take 1 ++ ·) ((cut_eq (cs := cs) 11 1).trans (congrArg ((cs.drop 11).take 1 ++ ·) (cut_eq (cs := cs) 12 1)))))))))))))))))))))))
  obtain ⟨z2_0, e2, h2_0⟩ := r2
  obtain ⟨z3_0, e3, h3_0⟩ := r3
  obtain ⟨z4_0, e4, h4_0⟩ := r4
  obtain ⟨z5_0, e5, h5_0⟩ := r5
  obtain ⟨z6_0, e6, h6_0⟩ := r6
  rw [(show (cs.drop 0).take 2 = _ from r0), (show (cs.drop 2).take 1 = _ from r1), (show (cs.drop 3).take 1 = _ from e2), (show (cs.drop 4).take 1 = _ from e3), (show (cs.drop 5).take 1 = _ from e4), (show (cs.drop 6).take 1 = _ from e5), (show (cs.drop 7).take 1 = _ from e6), (show (cs.drop 8).take 1 = _ from r7), (show (cs.drop 9).take 1 = _ from r8), (show (cs.drop 10).take 1 = _ from r9), (show (cs.drop 11).take 1 = _ from r10), (show (cs.drop 12).take 1 = _ from r11), List.drop_eq_nil_iff.2 (Nat.le_of_eq hl)] at e
  exact ⟨⟨x0, x1, x2, x3, x4, x5, x6, x7, x8, x9, x10, x11⟩, ⟨z2_0, z3_0, z4_0, z5_0, z6_0, e, h2_0, h3_0, h4_0, h5_0, h6_0⟩, ⟨i0, i1, i2, i3, i4, i5, i6, i7, i8, i9, i10, i11⟩⟩
def ok_Endpoint (x : Endpoint) : Prop := ok_Addr x.addr ∧ inS x.node ∧ (fun _ => True) x.ready ∧ (fun _ => True) x.serving ∧ (fun _ => True) x.terminating ∧ (fun l => ∀ x ∈ l, inS x) x.zones
def ok_Slice (x : Slice) : Prop := ok_Key x.key ∧ inS x.service ∧ (fun _ => True) x.six ∧ (fun l => ∀ x ∈ l, ok_Port x) x.ports ∧ (fun l => ∀ x ∈ l, ok_Endpoint x) x.endpoints
theorem op115 : Opens Tryz.prog 115 (kStr.sl kStr_pos) (fun l => ∀ x ∈ l, inS x) := opens_sl kStr_pos Tryz.underlying115 cells9 op9
theorem cells115 : Tryz.prog.cellsOf 115 = 1 := by kernel_rfl
theorem cells117 : Tryz.prog.cellsOf 117 = 22 := by kernel_rfl
theorem op117 : Opens Tryz.prog 117 k_Endpoint ok_Endpoint := fun {H enc w spare held fuel cs x} h => by
  obtain ⟨hl, hf⟩ := field_open Tryz.underlying117 h
  rw [cells117] at hl
  obtain ⟨x0, r0, i0⟩ := hf 0 0 43 17 _ rfl rfl rfl cells43 op43
  obtain ⟨x1, r1, i1⟩ := hf 1 17 9 1 _ rfl rfl rfl cells9 op9
  obtain ⟨x2, r2, i2⟩ := hf 2 18 4 1 _ rfl rfl rfl cells4 op4
  obtain ⟨x3, r3, i3⟩ := hf 3 19 4 1 _ rfl rfl rfl cells4 op4
  obtain ⟨x4, r4, i4⟩ := hf 4 20 4 1 _ rfl rfl rfl cells4 op4
  obtain ⟨x5, r5, i5⟩ := hf 5 21 115 1 _ rfl rfl rfl cells115 op115
  have e : cs = (cs.drop 0).take 17 ++ ((cs.drop 17).take 1 ++ ((cs.drop 18).take 1 ++ ((cs.drop 19).take 1 ++ ((cs.drop 20).take 1 ++ ((cs.drop 21).take 1 ++ (cs.drop 22)))))) := ((cut_eq (cs := cs) 0 17).trans (congrArg ((cs.drop 0).take 17 ++ ·) ((cut_eq (cs := cs) 17 1).trans (congrArg ((cs.drop 17).take 1 ++ ·) ((cut_eq (cs := cs) 18 1).trans (congrArg ((cs.drop 18).take 1 ++ ·) ((cut_eq (cs := cs) 19 1).trans (congrArg ((cs.drop 19).take 1 ++ ·) ((cut_eq (cs := cs) 20 1).trans (congrArg ((cs.drop 20).take 1 ++ ·) (cut_eq (cs := cs) 21 1)))))))))))
  obtain ⟨z5_0, e5, h5_0⟩ := r5
  rw [(show (cs.drop 0).take 17 = _ from r0), (show (cs.drop 17).take 1 = _ from r1), (show (cs.drop 18).take 1 = _ from r2), (show (cs.drop 19).take 1 = _ from r3), (show (cs.drop 20).take 1 = _ from r4), (show (cs.drop 21).take 1 = _ from e5), List.drop_eq_nil_iff.2 (Nat.le_of_eq hl)] at e
  exact ⟨⟨x0, x1, x2, x3, x4, x5⟩, ⟨z5_0, e, h5_0⟩, ⟨i0, i1, i2, i3, i4, i5⟩⟩
theorem op79 : Opens Tryz.prog 79 (k_Endpoint.sl k_Endpoint_pos) (fun l => ∀ x ∈ l, ok_Endpoint x) := opens_sl k_Endpoint_pos Tryz.underlying79 cells117 op117
theorem cells79 : Tryz.prog.cellsOf 79 = 1 := by kernel_rfl
theorem cells81 : Tryz.prog.cellsOf 81 = 6 := by kernel_rfl
theorem op81 : Opens Tryz.prog 81 k_Slice ok_Slice := fun {H enc w spare held fuel cs x} h => by
  obtain ⟨hl, hf⟩ := field_open Tryz.underlying81 h
  rw [cells81] at hl
  obtain ⟨x0, r0, i0⟩ := hf 0 0 23 2 _ rfl rfl rfl cells23 op23
  obtain ⟨x1, r1, i1⟩ := hf 1 2 9 1 _ rfl rfl rfl cells9 op9
  obtain ⟨x2, r2, i2⟩ := hf 2 3 4 1 _ rfl rfl rfl cells4 op4
  obtain ⟨x3, r3, i3⟩ := hf 3 4 26 1 _ rfl rfl rfl cells26 op26
  obtain ⟨x4, r4, i4⟩ := hf 4 5 79 1 _ rfl rfl rfl cells79 op79
  have e : cs = (cs.drop 0).take 2 ++ ((cs.drop 2).take 1 ++ ((cs.drop 3).take 1 ++ ((cs.drop 4).take 1 ++ ((cs.drop 5).take 1 ++ (cs.drop 6))))) := ((cut_eq (cs := cs) 0 2).trans (congrArg ((cs.drop 0).take 2 ++ ·) ((cut_eq (cs := cs) 2 1).trans (congrArg ((cs.drop 2).take 1 ++ ·) ((cut_eq (cs := cs) 3 1).trans (congrArg ((cs.drop 3).take 1 ++ ·) ((cut_eq (cs := cs) 4 1).trans (congrArg ((cs.drop 4).take 1 ++ ·) (cut_eq (cs := cs) 5 1)))))))))
  obtain ⟨z3_0, e3, h3_0⟩ := r3
  obtain ⟨z4_0, e4, h4_0⟩ := r4
  rw [(show (cs.drop 0).take 2 = _ from r0), (show (cs.drop 2).take 1 = _ from r1), (show (cs.drop 3).take 1 = _ from r2), (show (cs.drop 4).take 1 = _ from e3), (show (cs.drop 5).take 1 = _ from e4), List.drop_eq_nil_iff.2 (Nat.le_of_eq hl)] at e
  exact ⟨⟨x0, x1, x2, x3, x4⟩, ⟨z3_0, z4_0, e, h3_0, h4_0⟩, ⟨i0, i1, i2, i3, i4⟩⟩
theorem op29 : Opens Tryz.prog 29 (k_Slice.sl k_Slice_pos) (fun l => ∀ x ∈ l, ok_Slice x) := opens_sl k_Slice_pos Tryz.underlying29 cells81 op81
def ok_Node (x : Node) : Prop := inS x.name ∧ inS x.zone ∧ (fun l => ∀ x ∈ l, ok_Addr x) x.addrs
theorem cells31 : Tryz.prog.cellsOf 31 = 3 := by kernel_rfl
theorem op31 : Opens Tryz.prog 31 k_Node ok_Node := fun {H enc w spare held fuel cs x} h => by
  obtain ⟨hl, hf⟩ := field_open Tryz.underlying31 h
  rw [cells31] at hl
  obtain ⟨x0, r0, i0⟩ := hf 0 0 9 1 _ rfl rfl rfl cells9 op9
  obtain ⟨x1, r1, i1⟩ := hf 1 1 9 1 _ rfl rfl rfl cells9 op9
  obtain ⟨x2, r2, i2⟩ := hf 2 2 24 1 _ rfl rfl rfl cells24 op24
  have e : cs = (cs.drop 0).take 1 ++ ((cs.drop 1).take 1 ++ ((cs.drop 2).take 1 ++ (cs.drop 3))) := ((cut_eq (cs := cs) 0 1).trans (congrArg ((cs.drop 0).take 1 ++ ·) ((cut_eq (cs := cs) 1 1).trans (congrArg ((cs.drop 1).take 1 ++ ·) (cut_eq (cs := cs) 2 1)))))
  obtain ⟨z2_0, e2, h2_0⟩ := r2
  rw [(show (cs.drop 0).take 1 = _ from r0), (show (cs.drop 1).take 1 = _ from r1), (show (cs.drop 2).take 1 = _ from e2), List.drop_eq_nil_iff.2 (Nat.le_of_eq hl)] at e
  exact ⟨⟨x0, x1, x2⟩, ⟨z2_0, e, h2_0⟩, ⟨i0, i1, i2⟩⟩
def ok_Point (x : Point) : Prop := ok_Addr x.addr ∧ (inK .i64) x.port
def ok_Face (x : Face) : Prop := (inK .i64) x.proto ∧ ok_Point x.point ∧ inS x.name ∧ (inK .i64) x.how ∧ (fun _ => True) x.localF ∧ (fun _ => True) x.asked
def ok_Group (x : Group) : Prop := inS x.name ∧ (inK .i64) x.proto ∧ (fun _ => True) x.six ∧ (fun _ => True) x.localF ∧ (fun l => ∀ x ∈ l, ok_Point x) x.points
def ok_Resolved (x : Resolved) : Prop := ok_Key x.key ∧ (fun l => ∀ x ∈ l, ok_Face x) x.faces ∧ (fun l => ∀ x ∈ l, ok_Group x) x.groups
theorem cells45 : Tryz.prog.cellsOf 45 = 18 := by kernel_rfl
theorem op45 : Opens Tryz.prog 45 k_Point ok_Point := fun {H enc w spare held fuel cs x} h => by
  obtain ⟨hl, hf⟩ := field_open Tryz.underlying45 h
  rw [cells45] at hl
  obtain ⟨x0, r0, i0⟩ := hf 0 0 43 17 _ rfl rfl rfl cells43 op43
  obtain ⟨x1, r1, i1⟩ := hf 1 17 3 1 _ rfl rfl rfl cells3 op3
  have e : cs = (cs.drop 0).take 17 ++ ((cs.drop 17).take 1 ++ (cs.drop 18)) := ((cut_eq (cs := cs) 0 17).trans (congrArg ((cs.drop 0).take 17 ++ ·) (cut_eq (cs := cs) 17 1)))
  rw [(show (cs.drop 0).take 17 = _ from r0), (show (cs.drop 17).take 1 = _ from r1), List.drop_eq_nil_iff.2 (Nat.le_of_eq hl)] at e
  exact ⟨⟨x0, x1⟩, e, ⟨i0, i1⟩⟩
theorem cells47 : Tryz.prog.cellsOf 47 = 23 := by kernel_rfl
theorem op47 : Opens Tryz.prog 47 k_Face ok_Face := fun {H enc w spare held fuel cs x} h => by
  obtain ⟨hl, hf⟩ := field_open Tryz.underlying47 h
  rw [cells47] at hl
  obtain ⟨x0, r0, i0⟩ := hf 0 0 3 1 _ rfl rfl rfl cells3 op3
  obtain ⟨x1, r1, i1⟩ := hf 1 1 45 18 _ rfl rfl rfl cells45 op45
  obtain ⟨x2, r2, i2⟩ := hf 2 19 9 1 _ rfl rfl rfl cells9 op9
  obtain ⟨x3, r3, i3⟩ := hf 3 20 3 1 _ rfl rfl rfl cells3 op3
  obtain ⟨x4, r4, i4⟩ := hf 4 21 4 1 _ rfl rfl rfl cells4 op4
  obtain ⟨x5, r5, i5⟩ := hf 5 22 4 1 _ rfl rfl rfl cells4 op4
  have e : cs = (cs.drop 0).take 1 ++ ((cs.drop 1).take 18 ++ ((cs.drop 19).take 1 ++ ((cs.drop 20).take 1 ++ ((cs.drop 21).take 1 ++ ((cs.drop 22).take 1 ++ (cs.drop 23)))))) := ((cut_eq (cs := cs) 0 1).trans (congrArg ((cs.drop 0).take 1 ++ ·) ((cut_eq (cs := cs) 1 18).trans (congrArg ((cs.drop 1).take 18 ++ ·) ((cut_eq (cs := cs) 19 1).trans (congrArg ((cs.drop 19).take 1 ++ ·) ((cut_eq (cs := cs) 20 1).trans (congrArg ((cs.drop 20).take 1 ++ ·) ((cut_eq (cs := cs) 21 1).trans (congrArg ((cs.drop 21).take 1 ++ ·) (cut_eq (cs := cs) 22 1)))))))))))
  rw [(show (cs.drop 0).take 1 = _ from r0), (show (cs.drop 1).take 18 = _ from r1), (show (cs.drop 19).take 1 = _ from r2), (show (cs.drop 20).take 1 = _ from r3), (show (cs.drop 21).take 1 = _ from r4), (show (cs.drop 22).take 1 = _ from r5), List.drop_eq_nil_iff.2 (Nat.le_of_eq hl)] at e
  exact ⟨⟨x0, x1, x2, x3, x4, x5⟩, e, ⟨i0, i1, i2, i3, i4, i5⟩⟩
theorem op36 : Opens Tryz.prog 36 (k_Face.sl k_Face_pos) (fun l => ∀ x ∈ l, ok_Face x) := opens_sl k_Face_pos Tryz.underlying36 cells47 op47
theorem cells36 : Tryz.prog.cellsOf 36 = 1 := by kernel_rfl
theorem op48 : Opens Tryz.prog 48 (k_Point.sl k_Point_pos) (fun l => ∀ x ∈ l, ok_Point x) := opens_sl k_Point_pos Tryz.underlying48 cells45 op45
theorem cells48 : Tryz.prog.cellsOf 48 = 1 := by kernel_rfl
theorem cells50 : Tryz.prog.cellsOf 50 = 5 := by kernel_rfl
theorem op50 : Opens Tryz.prog 50 k_Group ok_Group := fun {H enc w spare held fuel cs x} h => by
  obtain ⟨hl, hf⟩ := field_open Tryz.underlying50 h
  rw [cells50] at hl
  obtain ⟨x0, r0, i0⟩ := hf 0 0 9 1 _ rfl rfl rfl cells9 op9
  obtain ⟨x1, r1, i1⟩ := hf 1 1 3 1 _ rfl rfl rfl cells3 op3
  obtain ⟨x2, r2, i2⟩ := hf 2 2 4 1 _ rfl rfl rfl cells4 op4
  obtain ⟨x3, r3, i3⟩ := hf 3 3 4 1 _ rfl rfl rfl cells4 op4
  obtain ⟨x4, r4, i4⟩ := hf 4 4 48 1 _ rfl rfl rfl cells48 op48
  have e : cs = (cs.drop 0).take 1 ++ ((cs.drop 1).take 1 ++ ((cs.drop 2).take 1 ++ ((cs.drop 3).take 1 ++ ((cs.drop 4).take 1 ++ (cs.drop 5))))) := ((cut_eq (cs := cs) 0 1).trans (congrArg ((cs.drop 0).take 1 ++ ·) ((cut_eq (cs := cs) 1 1).trans (congrArg ((cs.drop 1).take 1 ++ ·) ((cut_eq (cs := cs) 2 1).trans (congrArg ((cs.drop 2).take 1 ++ ·) ((cut_eq (cs := cs) 3 1).trans (congrArg ((cs.drop 3).take 1 ++ ·) (cut_eq (cs := cs) 4 1)))))))))
  obtain ⟨z4_0, e4, h4_0⟩ := r4
  rw [(show (cs.drop 0).take 1 = _ from r0), (show (cs.drop 1).take 1 = _ from r1), (show (cs.drop 2).take 1 = _ from r2), (show (cs.drop 3).take 1 = _ from r3), (show (cs.drop 4).take 1 = _ from e4), List.drop_eq_nil_iff.2 (Nat.le_of_eq hl)] at e
  exact ⟨⟨x0, x1, x2, x3, x4⟩, ⟨z4_0, e, h4_0⟩, ⟨i0, i1, i2, i3, i4⟩⟩
theorem op37 : Opens Tryz.prog 37 (k_Group.sl k_Group_pos) (fun l => ∀ x ∈ l, ok_Group x) := opens_sl k_Group_pos Tryz.underlying37 cells50 op50
theorem cells37 : Tryz.prog.cellsOf 37 = 1 := by kernel_rfl
theorem cells39 : Tryz.prog.cellsOf 39 = 4 := by kernel_rfl
theorem op39 : Opens Tryz.prog 39 k_Resolved ok_Resolved := fun {H enc w spare held fuel cs x} h => by
  obtain ⟨hl, hf⟩ := field_open Tryz.underlying39 h
  rw [cells39] at hl
  obtain ⟨x0, r0, i0⟩ := hf 0 0 23 2 _ rfl rfl rfl cells23 op23
  obtain ⟨x1, r1, i1⟩ := hf 1 2 36 1 _ rfl rfl rfl cells36 op36
  obtain ⟨x2, r2, i2⟩ := hf 2 3 37 1 _ rfl rfl rfl cells37 op37
  have e : cs = (cs.drop 0).take 2 ++ ((cs.drop 2).take 1 ++ ((cs.drop 3).take 1 ++ (cs.drop 4))) := ((cut_eq (cs := cs) 0 2).trans (congrArg ((cs.drop 0).take 2 ++ ·) ((cut_eq (cs := cs) 2 1).trans (congrArg ((cs.drop 2).take 1 ++ ·) (cut_eq (cs := cs) 3 1)))))
  obtain ⟨z1_0, e1, h1_0⟩ := r1
  obtain ⟨z2_0, e2, h2_0⟩ := r2
  rw [(show (cs.drop 0).take 2 = _ from r0), (show (cs.drop 2).take 1 = _ from e1), (show (cs.drop 3).take 1 = _ from e2), List.drop_eq_nil_iff.2 (Nat.le_of_eq hl)] at e
  exact ⟨⟨x0, x1, x2⟩, ⟨z1_0, z2_0, e, h1_0, h2_0⟩, ⟨i0, i1, i2⟩⟩
/-- What is left to show of the statement: plain Lean. -/
def Plain5 : Prop := ∀ (a0 : Resolved) (a1 : Resolved) (a2 : Face), ok_Resolved a0 → ok_Resolved a1 → ok_Face a2 → F5_ResolveR a0 a1 a2 = some true
set_option maxRecDepth 100000 in
theorem resolveRaw_lifted (hl : Plain5) (os : Os) (started : os.Started) (H : Type) (enc : TypeId × Value → H) :
    ReturnsInHanded {} Tryz.checked os 5 .any (Rows.resolveRawSpec.pre6 enc Tryz.prog Tryz.f5 Rows.resolveRawRow.domain false) (Rows.resolveRawSpec.post enc Tryz.prog Tryz.f5 false true false false) := by
  refine returnsInHanded_of_change (C := Tryz.checked) Tryz.own started (by kernel_rfl) Tryz.func5
    (ChangeSpec.witness6 (enc := enc) (C := Tryz.checked) false ⟨#[], #[.agg #[.string ⟨#[]⟩, .string ⟨#[]⟩, .slice none 0 0, .slice none 0 0], .agg #[.string ⟨#[]⟩, .string ⟨#[]⟩, .slice none 0 0, .slice none 0 0], .agg #[.int .i64 0, .bool false, .int .u8 0, .int .u8 0, .int .u8 0, .int .u8 0, .int .u8 0, .int .u8 0, .int .u8 0, .int .u8 0, .int .u8 0, .int .u8 0, .int .u8 0, .int .u8 0, .int .u8 0, .int .u8 0, .int .u8 0, .int .u8 0, .int .i64 0, .string ⟨#[]⟩, .int .i64 0, .bool false, .bool false]], []⟩ 8 (by kernel_rfl) (by kernel_rfl) (by kernel_rfl) (by kernel_rfl)) ?_
  intro W base args ds gs before hval0 hW hcnd _
  have hval : ∀ (j : Nat) t v, Tryz.f5.params[j]? = some t → args[j]? = some v → Value.okWide Tryz.prog W .any base t v := hval0
  have hW' := hW
  obtain ⟨p, q, hA0, hV, rfl, hfz, hnd⟩ := hW
  have hA : DataW.TrodAll enc Tryz.prog W 0 (fun _ => true) true Tryz.f5.params.toList args.toList ds p := hA0
  rw [Tryz.params5] at hA hval
  obtain ⟨v0, v1, v2, d0, d1, d2, p0, p1, p2, rfl, rfl, rfl, t0, t1, t2⟩ := trodAll_three hA
  obtain ⟨rfl, rfl⟩ := trodVars_none hV
  obtain ⟨f0, e0⟩ := id t0
  obtain ⟨a0, r0, i0⟩ := op39 e0
  obtain ⟨cs0, rfl, _⟩ := okWide_struct Tryz.underlying39 (hval 0 39 v0 rfl rfl)
  obtain ⟨z0_0, z0_1, g0, s0_0, s0_1⟩ := r0
  obtain rfl : cs0 = (Resolved.c a0 z0_0 z0_1).toArray := Array.toList_inj.1 (show cs0.toList = _ from g0)
  obtain ⟨f1, e1⟩ := id t1
  obtain ⟨a1, r1, i1⟩ := op39 e1
  obtain ⟨cs1, rfl, _⟩ := okWide_struct Tryz.underlying39 (hval 1 39 v1 rfl rfl)
  obtain ⟨z1_0, z1_1, g1, s1_0, s1_1⟩ := r1
  obtain rfl : cs1 = (Resolved.c a1 z1_0 z1_1).toArray := Array.toList_inj.1 (show cs1.toList = _ from g1)
  obtain ⟨f2, e2⟩ := id t2
  obtain ⟨a2, r2, i2⟩ := op47 e2
  obtain ⟨cs2, rfl, _⟩ := okWide_struct Tryz.underlying47 (hval 2 47 v2 rfl rfl)
  obtain rfl : cs2 = (Face.enc a2).toArray := Array.toList_inj.1 (show cs2.toList = _ from r2)
  refine Calls.mono (ctr5 allB W a0 z0_0 z0_1 s0_0 s0_1 a1 z1_0 z1_1 s1_0 s1_1 a2 true (hl a0 a1 a2 i0 i1 i2)) fun e W' he => ?_
  obtain ⟨v, rfl, rfl, c⟩ := he
  have hb : Below W.heap.size W W' := ⟨c.os, c.tape, c.output, c.size, fun k hk => c.blk k hk (fun x => x)⟩
  have u0 := Below.trod Tryz.laidOut (by kernel_rfl) (of_decide_eq_true (by kernel_rfl)) t0 hb (DataW.trod_lt _ _ _ _ e0)
  have u1 := Below.trod Tryz.laidOut (by kernel_rfl) (of_decide_eq_true (by kernel_rfl)) t1 hb (DataW.trod_lt _ _ _ _ e1)
  have u2 := Below.trod Tryz.laidOut (by kernel_rfl) (of_decide_eq_true (by kernel_rfl)) t2 hb (DataW.trod_lt _ _ _ _ e2)
  exact ⟨_, rfl, _, _, _, [], _, [], hW', trodAll_mk1 (shut_bool Tryz.underlying4 true), ⟨_, _, u0, ⟨_, _, u1, ⟨_, _, u2, rfl, rfl⟩, rfl⟩, rfl⟩, rfl, hb.frame _, fun h => by cases h⟩
theorem resolveRaw_of (hl : Plain5) : Rows.ResolveRawSaid :=
  OpenClaim.holds_of_wide 5 Tryz.f5 rfl rfl rfl rfl rfl rfl rfl ⟨rfl, rfl, rfl, rfl, rfl⟩ rfl rfl rfl rfl rfl (by kernel_rfl) Tryz.func5 (by kernel_rfl)
    (of_decide_eq_true (by kernel_rfl)) (by unfold Func.isWrapper; rw [if_neg (by decide +kernel)]; exact ⟨rfl, rfl⟩)
    (fun os started H enc _ => resolveRaw_lifted hl os started H enc)
end Go.Proofs.YtgcneihmkkldeaaGreat
