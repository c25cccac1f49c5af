/- How the arguments are read, and each statement from its plain law. Written by a program of this session. -/
import Derived.Test.YtokikdhilpebmaaK11
import Derived.Test.YtokikdhilpebmaaRows
import Derived.Test.YtokikdhilpebmaaW1
import Derived.Test.YtokikdhilpebmaaW2
import Derived.Test.YtokikdhilpebmaaW3
namespace Go.Proofs.Ytokikdhilpebmaa
open Go K
open Go.ChangeShapes Go.WideShapes Go.ChangeAt Go.RowKit
set_option linter.unusedVariables false
theorem Try.own : ownKnob Try.prog.godebug = none := by kernel_rfl
theorem Try.laidOut : laidOutB Try.prog = true := by kernel_rfl
def ok_A16u8 (x : A16u8) : Prop := (inK .u8) x.e0 ∧ (inK .u8) x.e1 ∧ (inK .u8) x.e2 ∧ (inK .u8) x.e3 ∧ (inK .u8) x.e4 ∧ (inK .u8) x.e5 ∧ (inK .u8) x.e6 ∧ (inK .u8) x.e7 ∧ (inK .u8) x.e8 ∧ (inK .u8) x.e9 ∧ (inK .u8) x.e10 ∧ (inK .u8) x.e11 ∧ (inK .u8) x.e12 ∧ (inK .u8) x.e13 ∧ (inK .u8) x.e14 ∧ (inK .u8) x.e15
def ok_Addr (x : Addr) : Prop := (fun _ => True) x.six ∧ ok_A16u8 x.b
def ok_Key (x : Key) : Prop := inS x.space ∧ inS x.name
def ok_Point (x : Point) : Prop := ok_Addr x.addr ∧ (inK .i64) x.port
def ok_Tie (x : Tie) : Prop := ok_Addr x.client ∧ ok_Key x.service ∧ inS x.name ∧ (fun _ => True) x.localF ∧ ok_Point x.backend ∧ (inK .i64) x.last
def ok_Act (x : Act) : Prop := (inK .i64) x.kind ∧ (inK .i64) x.now ∧ (inK .i64) x.ticks ∧ ok_Tie x.tie
theorem op3 : Opens Try.prog 3 (kInt .i64) (inK .i64) := opens_int Try.underlying3
theorem cells3 : Try.prog.cellsOf 3 = 1 := by kernel_rfl
theorem op4 : Opens Try.prog 4 kBool (fun _ => True) := opens_bool Try.underlying4
theorem cells4 : Try.prog.cellsOf 4 = 1 := by kernel_rfl
theorem op5 : Opens Try.prog 5 (kInt .u8) (inK .u8) := opens_int Try.underlying5
theorem cells5 : Try.prog.cellsOf 5 = 1 := by kernel_rfl
theorem cells22 : Try.prog.cellsOf 22 = 16 := by kernel_rfl
theorem op22 : Opens Try.prog 22 k_A16u8 ok_A16u8 := fun {H enc w spare held fuel cs x} h => by
  obtain ⟨hl, hf⟩ := array_open Try.underlying22 h
  rw [cells22] at hl
  obtain ⟨x0, r0, i0⟩ := hf 0 1 (by decide) cells5 op5
  obtain ⟨x1, r1, i1⟩ := hf 1 1 (by decide) cells5 op5
  obtain ⟨x2, r2, i2⟩ := hf 2 1 (by decide) cells5 op5
  obtain ⟨x3, r3, i3⟩ := hf 3 1 (by decide) cells5 op5
  obtain ⟨x4, r4, i4⟩ := hf 4 1 (by decide) cells5 op5
  obtain ⟨x5, r5, i5⟩ := hf 5 1 (by decide) cells5 op5
  obtain ⟨x6, r6, i6⟩ := hf 6 1 (by decide) cells5 op5
  obtain ⟨x7, r7, i7⟩ := hf 7 1 (by decide) cells5 op5
  obtain ⟨x8, r8, i8⟩ := hf 8 1 (by decide) cells5 op5
  obtain ⟨x9, r9, i9⟩ := hf 9 1 (by decide) cells5 op5
  obtain ⟨x10, r10, i10⟩ := hf 10 1 (by decide) cells5 op5
  obtain ⟨x11, r11, i11⟩ := hf 11 1 (by decide) cells5 op5
  obtain ⟨x12, r12, i12⟩ := hf 12 1 (by decide) cells5 op5
  obtain ⟨x13, r13, i13⟩ := hf 13 1 (by decide) cells5 op5
  obtain ⟨x14, r14, i14⟩ := hf 14 1 (by decide) cells5 op5
  obtain ⟨x15, r15, i15⟩ := hf 15 1 (by decide) cells5 op5
  have e : cs = (cs.drop 0).take 1 ++ ((cs.drop 1).take 1 ++ ((cs.drop 2).take 1 ++ ((cs.drop 3).take 1 ++ ((cs.drop 4).take 1 ++ ((cs.drop 5).take 1 ++ ((cs.drop 6).take 1 ++ ((cs.drop 7).take 1 ++ ((cs.drop 8).take 1 ++ ((cs.drop 9).take 1 ++ ((cs.drop 10).take 1 ++ ((cs.drop 11).take 1 ++ ((cs.drop 12).take 1 ++ ((cs.drop 13).take 1 ++ ((cs.drop 14).take 1 ++ ((cs.drop 15).take 1 ++ (cs.drop 16)))))))))))))))) := ((cut_eq (cs := cs) 0 1).trans (congrArg ((cs.drop 0).take 1 ++ ·) ((cut_eq (cs := cs) 1 1).trans (congrArg ((cs.drop 1).take 1 ++ ·) ((cut_eq (cs := cs) 2 1).trans (congrArg ((cs.drop 2).take 1 ++ ·) ((cut_eq (cs := cs) 3 1).trans (congrArg ((cs.drop 3).take 1 ++ ·) ((cut_eq (cs := cs) 4 1).trans (congrArg ((cs.drop 4).take 1 ++ ·) ((cut_eq (cs := cs) 5 1).trans (congrArg ((cs.drop 5).take 1 ++ ·) ((cut_eq (cs := cs) 6 1).trans (congrArg ((cs.drop 6).take 1 ++ ·) ((cut_eq (cs := cs) 7 1).trans (congrArg ((cs.drop 7).take 1 ++ ·) ((cut_eq (cs := cs) 8 1).trans (congrArg ((cs.drop 8).take 1 ++ ·) ((cut_eq (cs := cs) 9 1).trans (congrArg ((cs.drop 9).take 1 ++ ·) ((cut_eq (cs := cs) 10 1).trans (congrArg ((cs.drop 10).take 1 ++ ·) ((cut_eq (cs := cs) 11 1).trans (congrArg ((cs.drop 11).take 1 ++ ·) ((cut_eq (cs := cs) 12 1).trans (congrArg ((cs.drop 12).take 1 ++ ·) ((cut_eq (cs := cs) 13 1).trans (congrArg ((cs.drop 13).take 1 ++ ·) ((cut_eq (cs := cs) 14 1).trans (congrArg ((cs.drop 14).take 1 ++ ·) (cut_eq (cs := cs) 15 1)))))))))))))))))))))))))))))))
  rw [(show (cs.drop 0).take 1 = _ from r0), (show (cs.drop 1).take 1 = _ from r1), (show (cs.drop 2).take 1 = _ from r2), (show (cs.drop 3).take 1 = _ from r3), (show (cs.drop 4).take 1 = _ from r4), (show (cs.drop 5).take 1 = _ from r5), (show (cs.drop 6).take 1 = _ from r6), (show (cs.drop 7).take 1 = _ from r7), (show (cs.drop 8).take 1 = _ from r8), (show (cs.drop 9).take 1 = _ from r9), (show (cs.drop 10).take 1 = _ from r10), (show (cs.drop 11).take 1 = _ from r11), (show (cs.drop 12).take 1 = _ from r12), (show (cs.drop 13).take 1 = _ from r13), (show (cs.drop 14).take 1 = _ from r14), (show (cs.drop 15).take 1 = _ from r15), List.drop_eq_nil_iff.2 (Nat.le_of_eq hl)] at e
  exact ⟨⟨x0, x1, x2, x3, x4, x5, x6, x7, x8, x9, x10, x11, x12, x13, x14, x15⟩, e, ⟨i0, i1, i2, i3, i4, i5, i6, i7, i8, i9, i10, i11, i12, i13, i14, i15⟩⟩
theorem cells24 : Try.prog.cellsOf 24 = 17 := by kernel_rfl
theorem op24 : Opens Try.prog 24 k_Addr ok_Addr := fun {H enc w spare held fuel cs x} h => by
  obtain ⟨hl, hf⟩ := field_open Try.underlying24 h
  rw [cells24] at hl
  obtain ⟨x0, r0, i0⟩ := hf 0 0 4 1 _ rfl rfl rfl cells4 op4
  obtain ⟨x1, r1, i1⟩ := hf 1 1 22 16 _ rfl rfl rfl cells22 op22
  have e : cs = (cs.drop 0).take 1 ++ ((cs.drop 1).take 16 ++ (cs.drop 17)) := ((cut_eq (cs := cs) 0 1).trans (congrArg ((cs.drop 0).take 1 ++ ·) (cut_eq (cs := cs) 1 16)))
  rw [(show (cs.drop 0).take 1 = _ from r0), (show (cs.drop 1).take 16 = _ from r1), List.drop_eq_nil_iff.2 (Nat.le_of_eq hl)] at e
  exact ⟨⟨x0, x1⟩, e, ⟨i0, i1⟩⟩
theorem op9 : Opens Try.prog 9 kStr inS := opens_str Try.underlying9
theorem cells9 : Try.prog.cellsOf 9 = 1 := by kernel_rfl
theorem cells26 : Try.prog.cellsOf 26 = 2 := by kernel_rfl
theorem op26 : Opens Try.prog 26 k_Key ok_Key := fun {H enc w spare held fuel cs x} h => by
  obtain ⟨hl, hf⟩ := field_open Try.underlying26 h
  rw [cells26] at hl
  obtain ⟨x0, r0, i0⟩ := hf 0 0 9 1 _ rfl rfl rfl cells9 op9
  obtain ⟨x1, r1, i1⟩ := hf 1 1 9 1 _ rfl rfl rfl cells9 op9
  have e : cs = (cs.drop 0).take 1 ++ ((cs.drop 1).take 1 ++ (cs.drop 2)) := ((cut_eq (cs := cs) 0 1).trans (congrArg ((cs.drop 0).take 1 ++ ·) (cut_eq (cs := cs) 1 1)))
  rw [(show (cs.drop 0).take 1 = _ from r0), (show (cs.drop 1).take 1 = _ from r1), List.drop_eq_nil_iff.2 (Nat.le_of_eq hl)] at e
  exact ⟨⟨x0, x1⟩, e, ⟨i0, i1⟩⟩
theorem cells28 : Try.prog.cellsOf 28 = 18 := by kernel_rfl
theorem op28 : Opens Try.prog 28 k_Point ok_Point := fun {H enc w spare held fuel cs x} h => by
  obtain ⟨hl, hf⟩ := field_open Try.underlying28 h
  rw [cells28] at hl
  obtain ⟨x0, r0, i0⟩ := hf 0 0 24 17 _ rfl rfl rfl cells24 op24
  obtain ⟨x1, r1, i1⟩ := hf 1 17 3 1 _ rfl rfl rfl cells3 op3
  have e : cs = (cs.drop 0).take 17 ++ ((cs.drop 17).take 1 ++ (cs.drop 18)) := ((cut_eq (cs := cs) 0 17).trans (congrArg ((cs.drop 0).take 17 ++ ·) (cut_eq (cs := cs) 17 1)))
  rw [(show (cs.drop 0).take 17 = _ from r0), (show (cs.drop 17).take 1 = _ from r1), List.drop_eq_nil_iff.2 (Nat.le_of_eq hl)] at e
  exact ⟨⟨x0, x1⟩, e, ⟨i0, i1⟩⟩
theorem cells30 : Try.prog.cellsOf 30 = 40 := by kernel_rfl
theorem op30 : Opens Try.prog 30 k_Tie ok_Tie := fun {H enc w spare held fuel cs x} h => by
  obtain ⟨hl, hf⟩ := field_open Try.underlying30 h
  rw [cells30] at hl
  obtain ⟨x0, r0, i0⟩ := hf 0 0 24 17 _ rfl rfl rfl cells24 op24
  obtain ⟨x1, r1, i1⟩ := hf 1 17 26 2 _ rfl rfl rfl cells26 op26
  obtain ⟨x2, r2, i2⟩ := hf 2 19 9 1 _ rfl rfl rfl cells9 op9
  obtain ⟨x3, r3, i3⟩ := hf 3 20 4 1 _ rfl rfl rfl cells4 op4
  obtain ⟨x4, r4, i4⟩ := hf 4 21 28 18 _ rfl rfl rfl cells28 op28
  obtain ⟨x5, r5, i5⟩ := hf 5 39 3 1 _ rfl rfl rfl cells3 op3
  have e : cs = (cs.drop 0).take 17 ++ ((cs.drop 17).take 2 ++ ((cs.drop 19).take 1 ++ ((cs.drop 20).take 1 ++ ((cs.drop 21).take 18 ++ ((cs.drop 39).take 1 ++ (cs.drop 40)))))) := ((cut_eq (cs := cs) 0 17).trans (congrArg ((cs.drop 0).take 17 ++ ·) ((cut_eq (cs := cs) 17 2).trans (congrArg ((cs.drop 17).take 2 ++ ·) ((cut_eq (cs := cs) 19 1).trans (congrArg ((cs.drop 19).take 1 ++ ·) ((cut_eq (cs := cs) 20 1).trans (congrArg ((cs.drop 20).take 1 ++ ·) ((cut_eq (cs := cs) 21 18).trans (congrArg ((cs.drop 21).take 18 ++ ·) (cut_eq (cs := cs) 39 1)))))))))))
  rw [(show (cs.drop 0).take 17 = _ from r0), (show (cs.drop 17).take 2 = _ from r1), (show (cs.drop 19).take 1 = _ from r2), (show (cs.drop 20).take 1 = _ from r3), (show (cs.drop 21).take 18 = _ from r4), (show (cs.drop 39).take 1 = _ from r5), List.drop_eq_nil_iff.2 (Nat.le_of_eq hl)] at e
  exact ⟨⟨x0, x1, x2, x3, x4, x5⟩, e, ⟨i0, i1, i2, i3, i4, i5⟩⟩
theorem cells35 : Try.prog.cellsOf 35 = 43 := by kernel_rfl
theorem op35 : Opens Try.prog 35 k_Act ok_Act := fun {H enc w spare held fuel cs x} h => by
  obtain ⟨hl, hf⟩ := field_open Try.underlying35 h
  rw [cells35] at hl
  obtain ⟨x0, r0, i0⟩ := hf 0 0 3 1 _ rfl rfl rfl cells3 op3
  obtain ⟨x1, r1, i1⟩ := hf 1 1 3 1 _ rfl rfl rfl cells3 op3
  obtain ⟨x2, r2, i2⟩ := hf 2 2 3 1 _ rfl rfl rfl cells3 op3
  obtain ⟨x3, r3, i3⟩ := hf 3 3 30 40 _ rfl rfl rfl cells30 op30
  have e : cs = (cs.drop 0).take 1 ++ ((cs.drop 1).take 1 ++ ((cs.drop 2).take 1 ++ ((cs.drop 3).take 40 ++ (cs.drop 43)))) := ((cut_eq (cs := cs) 0 1).trans (congrArg ((cs.drop 0).take 1 ++ ·) ((cut_eq (cs := cs) 1 1).trans (congrArg ((cs.drop 1).take 1 ++ ·) ((cut_eq (cs := cs) 2 1).trans (congrArg ((cs.drop 2).take 1 ++ ·) (cut_eq (cs := cs) 3 40)))))))
  rw [(show (cs.drop 0).take 1 = _ from r0), (show (cs.drop 1).take 1 = _ from r1), (show (cs.drop 2).take 1 = _ from r2), (show (cs.drop 3).take 40 = _ from r3), List.drop_eq_nil_iff.2 (Nat.le_of_eq hl)] at e
  exact ⟨⟨x0, x1, x2, x3⟩, e, ⟨i0, i1, i2, i3⟩⟩
theorem op36 : Opens Try.prog 36 (k_Act.sl k_Act_pos) (fun l => ∀ x ∈ l, ok_Act x) := opens_sl k_Act_pos Try.underlying36 cells35 op35
/-- What is left to show of the statement: plain Lean. -/
def Plain4 : Prop := ∀ (a0 : (List Act)), (fun l => ∀ x ∈ l, ok_Act x) a0 → F4_TiesPlay a0 = some true
set_option maxRecDepth 100000 in
theorem tiesPlay_lifted (hl : Plain4) (os : Os) (started : os.Started) (H : Type) (enc : TypeId × Value → H) :
    ReturnsInHanded {} Try.checked os 4 .any (Rows.tiesPlaySpec.pre6 enc Try.prog Try.f4 Rows.tiesPlayRow.domain false) (Rows.tiesPlaySpec.post enc Try.prog Try.f4 false true false false) := by
  refine returnsInHanded_of_change (C := Try.checked) Try.own started (by kernel_rfl) Try.func4
    (ChangeSpec.witness6 (enc := enc) (C := Try.checked) false ⟨#[], #[.slice none 0 0], []⟩ 8 (by kernel_rfl) (by kernel_rfl) (by kernel_rfl) (by kernel_rfl)) ?_
  intro W base args ds gs before hval0 hW hcnd _
  have hval : ∀ (j : Nat) t v, Try.f4.params[j]? = some t → args[j]? = some v → Value.okWide Try.prog W .any base t v := hval0
  have hW' := hW
  obtain ⟨p, q, hA0, hV, rfl, hfz, hnd⟩ := hW
  have hA : DataW.TrodAll enc Try.prog W 0 (fun _ => true) true Try.f4.params.toList args.toList ds p := hA0
  rw [Try.params4] at hA hval
  obtain ⟨v0, d0, rfl, rfl, t0⟩ := trodAll_one hA
  obtain ⟨rfl, rfl⟩ := trodVars_none hV
  obtain ⟨f0, e0⟩ := id t0
  obtain ⟨a0, r0, i0⟩ := op36 e0
  obtain ⟨b0, l0, c0, rfl⟩ := okWide_slice Try.underlying36 (hval 0 36 v0 rfl rfl)
  obtain ⟨z0, g0, s0⟩ := r0
  obtain rfl : Value.slice b0 l0 c0 = z0 := by simpa [Value.cells] using g0
  refine Calls.mono (ctr4 allB W a0 _ s0 true (hl a0 i0)) fun e W' he => ?_
  obtain ⟨v, rfl, rfl, c⟩ := he
  have hb : Below W.heap.size W W' := ⟨c.os, c.tape, c.output, c.size, fun k hk => c.blk k hk (fun x => x)⟩
  have u0 := Below.trod Try.laidOut (by kernel_rfl) (of_decide_eq_true (by kernel_rfl)) t0 hb (DataW.trod_lt _ _ _ _ e0)
  exact ⟨_, rfl, _, _, _, [], _, [], hW', trodAll_mk1 (shut_bool Try.underlying4 true), ⟨_, _, u0, rfl, rfl⟩, rfl, hb.frame _, fun h => by cases h⟩
theorem tiesPlay_of (hl : Plain4) : Rows.TiesPlaySaid :=
  OpenClaim.holds_of_wide 4 Try.f4 rfl rfl rfl rfl rfl rfl rfl ⟨rfl, rfl, rfl, rfl, rfl⟩ rfl rfl rfl rfl rfl (by kernel_rfl) Try.func4 (by kernel_rfl)
    (of_decide_eq_true (by kernel_rfl)) (by unfold Func.isWrapper; rw [if_neg (by decide +kernel)]; exact ⟨rfl, rfl⟩)
    (fun os started H enc _ => tiesPlay_lifted hl os started H enc)
end Go.Proofs.Ytokikdhilpebmaa
