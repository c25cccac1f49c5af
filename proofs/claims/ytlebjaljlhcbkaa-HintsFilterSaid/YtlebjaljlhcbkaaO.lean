/- How the arguments are read, and each statement from its plain law. Written by a program of this session. -/
import Derived.Test.YtlebjaljlhcbkaaK11
import Derived.Test.YtlebjaljlhcbkaaRows
import Derived.Test.YtlebjaljlhcbkaaW1
import Derived.Test.YtlebjaljlhcbkaaW2
namespace Go.Proofs.Ytlebjaljlhcbkaa
open Go K
open Go.ChangeShapes Go.WideShapes Go.ChangeAt Go.RowKit
set_option linter.unusedVariables false
theorem Try.own : ownKnob Try.prog.godebug = none := by kernel_rfl
theorem Try.laidOut : laidOutB Try.prog = true := by kernel_rfl
theorem op9 : Opens Try.prog 9 kStr inS := opens_str Try.underlying9
def ok_A16u8 (x : A16u8) : Prop := (inK .u8) x.e0 ∧ (inK .u8) x.e1 ∧ (inK .u8) x.e2 ∧ (inK .u8) x.e3 ∧ (inK .u8) x.e4 ∧ (inK .u8) x.e5 ∧ (inK .u8) x.e6 ∧ (inK .u8) x.e7 ∧ (inK .u8) x.e8 ∧ (inK .u8) x.e9 ∧ (inK .u8) x.e10 ∧ (inK .u8) x.e11 ∧ (inK .u8) x.e12 ∧ (inK .u8) x.e13 ∧ (inK .u8) x.e14 ∧ (inK .u8) x.e15
def ok_Addr (x : Addr) : Prop := (fun _ => True) x.six ∧ ok_A16u8 x.b
def ok_Point (x : Point) : Prop := ok_Addr x.addr ∧ (inK .i64) x.port
def ok_Candidate (x : Candidate) : Prop := ok_Point x.point ∧ (fun _ => True) x.localF ∧ (fun _ => True) x.ready ∧ (fun _ => True) x.serving ∧ (fun _ => True) x.terminating ∧ (fun l => ∀ x ∈ l, inS x) x.zones
theorem op4 : Opens Try.prog 4 kBool (fun _ => True) := opens_bool Try.underlying4
theorem cells4 : Try.prog.cellsOf 4 = 1 := by kernel_rfl
theorem op5 : Opens Try.prog 5 (kInt .u8) (inK .u8) := opens_int Try.underlying5
theorem cells5 : Try.prog.cellsOf 5 = 1 := by kernel_rfl
theorem cells25 : Try.prog.cellsOf 25 = 16 := by kernel_rfl
theorem op25 : Opens Try.prog 25 k_A16u8 ok_A16u8 := fun {H enc w spare held fuel cs x} h => by
  obtain ⟨hl, hf⟩ := array_open Try.underlying25 h
  rw [cells25] at hl
  obtain ⟨x0, r0, i0⟩ := hf 0 1 (by decide) cells5 op5
  obtain ⟨x1, r1, i1⟩ := hf 1 1 (by decide) cells5 op5
  obtain ⟨x2, r2, i2⟩ := hf 2 1 (by decide) cells5 op5
  obtain ⟨x3, r3, i3⟩ := hf 3 1 (by decide) cells5 op5
  obtain ⟨x4, r4, i4⟩ := hf 4 1 (by decide) cells5 op5
  obtain ⟨x5, r5, i5⟩ := hf 5 1 (by decide) cells5 op5
  obtain ⟨x6, r6, i6⟩ := hf 6 1 (by decide) cells5 op5
  obtain ⟨x7, r7, i7⟩ := hf 7 1 (by decide) cells5 op5
  obtain ⟨x8, r8, i8⟩ := hf 8 1 (by decide) cells5 op5
  obtain ⟨x9, r9, i9⟩ := hf 9 1 (by decide) cells5 op5
  obtain ⟨x10, r10, i10⟩ := hf 10 1 (by decide) cells5 op5
  obtain ⟨x11, r11, i11⟩ := hf 11 1 (by decide) cells5 op5
  obtain ⟨x12, r12, i12⟩ := hf 12 1 (by decide) cells5 op5
  obtain ⟨x13, r13, i13⟩ := hf 13 1 (by decide) cells5 op5
  obtain ⟨x14, r14, i14⟩ := hf 14 1 (by decide) cells5 op5
  obtain ⟨x15, r15, i15⟩ := hf 15 1 (by decide) cells5 op5
  have e : cs = (cs.drop 0).take 1 ++ ((cs.drop 1).take 1 ++ ((cs.drop 2).take 1 ++ ((cs.drop 3).take 1 ++ ((cs.drop 4).take 1 ++ ((cs.drop 5).take 1 ++ ((cs.drop 6).take 1 ++ ((cs.drop 7).take 1 ++ ((cs.drop 8).take 1 ++ ((cs.drop 9).take 1 ++ ((cs.drop 10).take 1 ++ ((cs.drop 11).take 1 ++ ((cs.drop 12).take 1 ++ ((cs.drop 13).take 1 ++ ((cs.drop 14).take 1 ++ ((cs.drop 15).take 1 ++ (cs.drop 16)))))))))))))))) := ((cut_eq (cs := cs) 0 1).trans (congrArg ((cs.drop 0).take 1 ++ ·) ((cut_eq (cs := cs) 1 1).trans (congrArg ((cs.drop 1).take 1 ++ ·) ((cut_eq (cs := cs) 2 1).trans (congrArg ((cs.drop 2).take 1 ++ ·) ((cut_eq (cs := cs) 3 1).trans (congrArg ((cs.drop 3).take 1 ++ ·) ((cut_eq (cs := cs) 4 1).trans (congrArg ((cs.drop 4).take 1 ++ ·) ((cut_eq (cs := cs) 5 1).trans (congrArg ((cs.drop 5).take 1 ++ ·) ((cut_eq (cs := cs) 6 1).trans (congrArg ((cs.drop 6).take 1 ++ ·) ((cut_eq (cs := cs) 7 1).trans (congrArg ((cs.drop 7).take 1 ++ ·) ((cut_eq (cs := cs) 8 1).trans (congrArg ((cs.drop 8).take 1 ++ ·) ((cut_eq (cs := cs) 9 1).trans (congrArg ((cs.drop 9).take 1 ++ ·) ((cut_eq (cs := cs) 10 1).trans (congrArg ((cs.drop 10).take 1 ++ ·) ((cut_eq (cs := cs) 11 1).trans (congrArg ((cs.drop 11).take 1 ++ ·) ((cut_eq (cs := cs) 12 1).trans (congrArg ((cs.drop 12).take 1 ++ ·) ((cut_eq (cs := cs) 13 1).trans (congrArg ((cs.drop 13).take 1 ++ ·) ((cut_eq (cs := cs) 14 1).trans (congrArg ((cs.drop 14).take 1 ++ ·) (cut_eq (cs := cs) 15 1)))))))))))))))))))))))))))))))
  rw [(show (cs.drop 0).take 1 = _ from r0), (show (cs.drop 1).take 1 = _ from r1), (show (cs.drop 2).take 1 = _ from r2), (show (cs.drop 3).take 1 = _ from r3), (show (cs.drop 4).take 1 = _ from r4), (show (cs.drop 5).take 1 = _ from r5), (show (cs.drop 6).take 1 = _ from r6), (show (cs.drop 7).take 1 = _ from r7), (show (cs.drop 8).take 1 = _ from r8), (show (cs.drop 9).take 1 = _ from r9), (show (cs.drop 10).take 1 = _ from r10), (show (cs.drop 11).take 1 = _ from r11), (show (cs.drop 12).take 1 = _ from r12), (show (cs.drop 13).take 1 = _ from r13), (show (cs.drop 14).take 1 = _ from r14), (show (cs.drop 15).take 1 = _ from r15), List.drop_eq_nil_iff.2 (Nat.le_of_eq hl)] at e
  exact ⟨⟨x0, x1, x2, x3, x4, x5, x6, x7, x8, x9, x10, x11, x12, x13, x14, x15⟩, e, ⟨i0, i1, i2, i3, i4, i5, i6, i7, i8, i9, i10, i11, i12, i13, i14, i15⟩⟩
theorem cells27 : Try.prog.cellsOf 27 = 17 := by kernel_rfl
theorem op27 : Opens Try.prog 27 k_Addr ok_Addr := fun {H enc w spare held fuel cs x} h => by
  obtain ⟨hl, hf⟩ := field_open Try.underlying27 h
  rw [cells27] at hl
  obtain ⟨x0, r0, i0⟩ := hf 0 0 4 1 _ rfl rfl rfl cells4 op4
  obtain ⟨x1, r1, i1⟩ := hf 1 1 25 16 _ rfl rfl rfl cells25 op25
  have e : cs = (cs.drop 0).take 1 ++ ((cs.drop 1).take 16 ++ (cs.drop 17)) := ((cut_eq (cs := cs) 0 1).trans (congrArg ((cs.drop 0).take 1 ++ ·) (cut_eq (cs := cs) 1 16)))
  rw [(show (cs.drop 0).take 1 = _ from r0), (show (cs.drop 1).take 16 = _ from r1), List.drop_eq_nil_iff.2 (Nat.le_of_eq hl)] at e
  exact ⟨⟨x0, x1⟩, e, ⟨i0, i1⟩⟩
theorem op3 : Opens Try.prog 3 (kInt .i64) (inK .i64) := opens_int Try.underlying3
theorem cells3 : Try.prog.cellsOf 3 = 1 := by kernel_rfl
theorem cells29 : Try.prog.cellsOf 29 = 18 := by kernel_rfl
theorem op29 : Opens Try.prog 29 k_Point ok_Point := fun {H enc w spare held fuel cs x} h => by
  obtain ⟨hl, hf⟩ := field_open Try.underlying29 h
  rw [cells29] at hl
  obtain ⟨x0, r0, i0⟩ := hf 0 0 27 17 _ rfl rfl rfl cells27 op27
  obtain ⟨x1, r1, i1⟩ := hf 1 17 3 1 _ rfl rfl rfl cells3 op3
  have e : cs = (cs.drop 0).take 17 ++ ((cs.drop 17).take 1 ++ (cs.drop 18)) := ((cut_eq (cs := cs) 0 17).trans (congrArg ((cs.drop 0).take 17 ++ ·) (cut_eq (cs := cs) 17 1)))
  rw [(show (cs.drop 0).take 17 = _ from r0), (show (cs.drop 17).take 1 = _ from r1), List.drop_eq_nil_iff.2 (Nat.le_of_eq hl)] at e
  exact ⟨⟨x0, x1⟩, e, ⟨i0, i1⟩⟩
theorem cells9 : Try.prog.cellsOf 9 = 1 := by kernel_rfl
theorem op30 : Opens Try.prog 30 (kStr.sl kStr_pos) (fun l => ∀ x ∈ l, inS x) := opens_sl kStr_pos Try.underlying30 cells9 op9
theorem cells30 : Try.prog.cellsOf 30 = 1 := by kernel_rfl
theorem cells32 : Try.prog.cellsOf 32 = 23 := by kernel_rfl
theorem op32 : Opens Try.prog 32 k_Candidate ok_Candidate := fun {H enc w spare held fuel cs x} h => by
  obtain ⟨hl, hf⟩ := field_open Try.underlying32 h
  rw [cells32] at hl
  obtain ⟨x0, r0, i0⟩ := hf 0 0 29 18 _ rfl rfl rfl cells29 op29
  obtain ⟨x1, r1, i1⟩ := hf 1 18 4 1 _ rfl rfl rfl cells4 op4
  obtain ⟨x2, r2, i2⟩ := hf 2 19 4 1 _ rfl rfl rfl cells4 op4
  obtain ⟨x3, r3, i3⟩ := hf 3 20 4 1 _ rfl rfl rfl cells4 op4
  obtain ⟨x4, r4, i4⟩ := hf 4 21 4 1 _ rfl rfl rfl cells4 op4
  obtain ⟨x5, r5, i5⟩ := hf 5 22 30 1 _ rfl rfl rfl cells30 op30
  have e : cs = (cs.drop 0).take 18 ++ ((cs.drop 18).take 1 ++ ((cs.drop 19).take 1 ++ ((cs.drop 20).take 1 ++ ((cs.drop 21).take 1 ++ ((cs.drop 22).take 1 ++ (cs.drop 23)))))) := ((cut_eq (cs := cs) 0 18).trans (congrArg ((cs.drop 0).take 18 ++ ·) ((cut_eq (cs := cs) 18 1).trans (congrArg ((cs.drop 18).take 1 ++ ·) ((cut_eq (cs := cs) 19 1).trans (congrArg ((cs.drop 19).take 1 ++ ·) ((cut_eq (cs := cs) 20 1).trans (congrArg ((cs.drop 20).take 1 ++ ·) ((cut_eq (cs := cs) 21 1).trans (congrArg ((cs.drop 21).take 1 ++ ·) (cut_eq (cs := cs) 22 1)))))))))))
  obtain ⟨z5_0, e5, h5_0⟩ := r5
  rw [(show (cs.drop 0).take 18 = _ from r0), (show (cs.drop 18).take 1 = _ from r1), (show (cs.drop 19).take 1 = _ from r2), (show (cs.drop 20).take 1 = _ from r3), (show (cs.drop 21).take 1 = _ from r4), (show (cs.drop 22).take 1 = _ from e5), List.drop_eq_nil_iff.2 (Nat.le_of_eq hl)] at e
  exact ⟨⟨x0, x1, x2, x3, x4, x5⟩, ⟨z5_0, e, h5_0⟩, ⟨i0, i1, i2, i3, i4, i5⟩⟩
theorem op22 : Opens Try.prog 22 (k_Candidate.sl k_Candidate_pos) (fun l => ∀ x ∈ l, ok_Candidate x) := opens_sl k_Candidate_pos Try.underlying22 cells32 op32
/-- What is left to show of the statement: plain Lean. -/
def Plain3 : Prop := ∀ (a0 : (List Candidate)) (a1 : ByteArray), (fun l => ∀ x ∈ l, ok_Candidate x) a0 → inS a1 → F3_linkboylaw18_HintsLeave a0 a1 = some true
set_option maxRecDepth 100000 in
theorem hintsLeave_lifted (hl : Plain3) (os : Os) (started : os.Started) (H : Type) (enc : TypeId × Value → H) :
    ReturnsInHanded {} Try.checked os 3 .any (Rows.hintsLeaveSpec.pre6 enc Try.prog Try.f3 Rows.hintsLeaveRow.domain false) (Rows.hintsLeaveSpec.post enc Try.prog Try.f3 false true false false) := by
  refine returnsInHanded_of_change (C := Try.checked) Try.own started (by kernel_rfl) Try.func3
    (ChangeSpec.witness6 (enc := enc) (C := Try.checked) false ⟨#[], #[.slice none 0 0, .string ⟨#[]⟩], []⟩ 8 (by kernel_rfl) (by kernel_rfl) (by kernel_rfl) (by kernel_rfl)) ?_
  intro W base args ds gs before hval0 hW hcnd _
  have hval : ∀ (j : Nat) t v, Try.f3.params[j]? = some t → args[j]? = some v → Value.okWide Try.prog W .any base t v := hval0
  have hW' := hW
  obtain ⟨p, q, hA0, hV, rfl, hfz, hnd⟩ := hW
  have hA : DataW.TrodAll enc Try.prog W 0 (fun _ => true) true Try.f3.params.toList args.toList ds p := hA0
  rw [Try.params3] at hA hval
  obtain ⟨v0, v1, d0, d1, p0, p1, rfl, rfl, rfl, t0, t1⟩ := trodAll_two hA
  obtain ⟨rfl, rfl⟩ := trodVars_none hV
  obtain ⟨f0, e0⟩ := id t0
  obtain ⟨a0, r0, i0⟩ := op22 e0
  obtain ⟨b0, l0, c0, rfl⟩ := okWide_slice Try.underlying22 (hval 0 22 v0 rfl rfl)
  obtain ⟨z0, g0, s0⟩ := r0
  obtain rfl : Value.slice b0 l0 c0 = z0 := by simpa [Value.cells] using g0
  obtain ⟨f1, e1⟩ := id t1
  obtain ⟨a1, r1, i1⟩ := op9 e1
  obtain ⟨b1, rfl⟩ := okWide_string Try.underlying9 (hval 1 9 v1 rfl rfl)
  obtain rfl : a1 = b1 := by have r := r1; simpa [kStr, Value.cells, eq_comm] using r
  refine Calls.mono (ctr3 allB W a0 _ s0 a1 true (hl a0 a1 i0 i1)) fun e W' he => ?_
  obtain ⟨v, rfl, rfl, c⟩ := he
  have hb : Below W.heap.size W W' := ⟨c.os, c.tape, c.output, c.size, fun k hk => c.blk k hk (fun x => x)⟩
  have u0 := Below.trod Try.laidOut (by kernel_rfl) (of_decide_eq_true (by kernel_rfl)) t0 hb (DataW.trod_lt _ _ _ _ e0)
  have u1 := Below.trod Try.laidOut (by kernel_rfl) (of_decide_eq_true (by kernel_rfl)) t1 hb (DataW.trod_lt _ _ _ _ e1)
  exact ⟨_, rfl, _, _, _, [], _, [], hW', trodAll_mk1 (shut_bool Try.underlying4 true), ⟨_, _, u0, ⟨_, _, u1, rfl, rfl⟩, rfl⟩, rfl, hb.frame _, fun h => by cases h⟩
theorem hintsLeave_of (hl : Plain3) : Rows.HintsLeaveSaid :=
  OpenClaim.holds_of_wide 3 Try.f3 rfl rfl rfl rfl rfl rfl rfl ⟨rfl, rfl, rfl, rfl, rfl⟩ rfl rfl rfl rfl rfl (by kernel_rfl) Try.func3 (by kernel_rfl)
    (of_decide_eq_true (by kernel_rfl)) (by unfold Func.isWrapper; rw [if_neg (by decide +kernel)]; exact ⟨rfl, rfl⟩)
    (fun os started H enc _ => hintsLeave_lifted hl os started H enc)
/-- What is left to show of the statement: plain Lean. -/
def Plain4 : Prop := ∀ (a0 : (List Candidate)) (a1 : ByteArray), (fun l => ∀ x ∈ l, ok_Candidate x) a0 → inS a1 → F4_linkboylaw18_HintsFilter a0 a1 = some true
set_option maxRecDepth 100000 in
theorem hintsFilter_lifted (hl : Plain4) (os : Os) (started : os.Started) (H : Type) (enc : TypeId × Value → H) :
    ReturnsInHanded {} Try.checked os 4 .any (Rows.hintsFilterSpec.pre6 enc Try.prog Try.f4 Rows.hintsFilterRow.domain false) (Rows.hintsFilterSpec.post enc Try.prog Try.f4 false true false false) := by
  refine returnsInHanded_of_change (C := Try.checked) Try.own started (by kernel_rfl) Try.func4
    (ChangeSpec.witness6 (enc := enc) (C := Try.checked) false ⟨#[], #[.slice none 0 0, .string ⟨#[]⟩], []⟩ 8 (by kernel_rfl) (by kernel_rfl) (by kernel_rfl) (by kernel_rfl)) ?_
  intro W base args ds gs before hval0 hW hcnd _
  have hval : ∀ (j : Nat) t v, Try.f4.params[j]? = some t → args[j]? = some v → Value.okWide Try.prog W .any base t v := hval0
  have hW' := hW
  obtain ⟨p, q, hA0, hV, rfl, hfz, hnd⟩ := hW
  have hA : DataW.TrodAll enc Try.prog W 0 (fun _ => true) true Try.f4.params.toList args.toList ds p := hA0
  rw [Try.params4] at hA hval
  obtain ⟨v0, v1, d0, d1, p0, p1, rfl, rfl, rfl, t0, t1⟩ := trodAll_two hA
  obtain ⟨rfl, rfl⟩ := trodVars_none hV
  obtain ⟨f0, e0⟩ := id t0
  obtain ⟨a0, r0, i0⟩ := op22 e0
  obtain ⟨b0, l0, c0, rfl⟩ := okWide_slice Try.underlying22 (hval 0 22 v0 rfl rfl)
  obtain ⟨z0, g0, s0⟩ := r0
  obtain rfl : Value.slice b0 l0 c0 = z0 := by simpa [Value.cells] using g0
  obtain ⟨f1, e1⟩ := id t1
  obtain ⟨a1, r1, i1⟩ := op9 e1
  obtain ⟨b1, rfl⟩ := okWide_string Try.underlying9 (hval 1 9 v1 rfl rfl)
  obtain rfl : a1 = b1 := by have r := r1; simpa [kStr, Value.cells, eq_comm] using r
  refine Calls.mono (ctr4 allB W a0 _ s0 a1 true (hl a0 a1 i0 i1)) fun e W' he => ?_
  obtain ⟨v, rfl, rfl, c⟩ := he
  have hb : Below W.heap.size W W' := ⟨c.os, c.tape, c.output, c.size, fun k hk => c.blk k hk (fun x => x)⟩
  have u0 := Below.trod Try.laidOut (by kernel_rfl) (of_decide_eq_true (by kernel_rfl)) t0 hb (DataW.trod_lt _ _ _ _ e0)
  have u1 := Below.trod Try.laidOut (by kernel_rfl) (of_decide_eq_true (by kernel_rfl)) t1 hb (DataW.trod_lt _ _ _ _ e1)
  exact ⟨_, rfl, _, _, _, [], _, [], hW', trodAll_mk1 (shut_bool Try.underlying4 true), ⟨_, _, u0, ⟨_, _, u1, rfl, rfl⟩, rfl⟩, rfl, hb.frame _, fun h => by cases h⟩
theorem hintsFilter_of (hl : Plain4) : Rows.HintsFilterSaid :=
  OpenClaim.holds_of_wide 4 Try.f4 rfl rfl rfl rfl rfl rfl rfl ⟨rfl, rfl, rfl, rfl, rfl⟩ rfl rfl rfl rfl rfl (by kernel_rfl) Try.func4 (by kernel_rfl)
    (of_decide_eq_true (by kernel_rfl)) (by unfold Func.isWrapper; rw [if_neg (by decide +kernel)]; exact ⟨rfl, rfl⟩)
    (fun os started H enc _ => hintsFilter_lifted hl os started H enc)
end Go.Proofs.Ytlebjaljlhcbkaa
