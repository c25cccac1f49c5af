/- How this program's data lie in cells. Written by a program of this session. -/
import Derived.Test.YtlebjaljlhcbkaaK10
import Derived.Test.YtlebjaljlhcbkaaY
import Derived.Test.YtlebjaljlhcbkaaProg
import Derived.KernelRfl
namespace Go.Proofs.Ytlebjaljlhcbkaa
open Go K
set_option linter.unusedVariables false
theorem mixed : Try.prog.follows .mixedOrders = true := by kernel_rfl
def A16u8.enc (x : A16u8) : List Value := [.int .u8 x.e0, .int .u8 x.e1, .int .u8 x.e2, .int .u8 x.e3, .int .u8 x.e4, .int .u8 x.e5, .int .u8 x.e6, .int .u8 x.e7, .int .u8 x.e8, .int .u8 x.e9, .int .u8 x.e10, .int .u8 x.e11, .int .u8 x.e12, .int .u8 x.e13, .int .u8 x.e14, .int .u8 x.e15]
def k_A16u8 : Kd A16u8 := Kd.pure 16 A16u8.enc (fun _ => rfl) fun _ => rfl
theorem k_A16u8_pos : 0 < k_A16u8.n := by decide
def Addr.enc (x : Addr) : List Value := [.bool x.six, .int .u8 x.b.e0, .int .u8 x.b.e1, .int .u8 x.b.e2, .int .u8 x.b.e3, .int .u8 x.b.e4, .int .u8 x.b.e5, .int .u8 x.b.e6, .int .u8 x.b.e7, .int .u8 x.b.e8, .int .u8 x.b.e9, .int .u8 x.b.e10, .int .u8 x.b.e11, .int .u8 x.b.e12, .int .u8 x.b.e13, .int .u8 x.b.e14, .int .u8 x.b.e15]
def k_Addr : Kd Addr := Kd.pure 17 Addr.enc (fun _ => rfl) fun _ => rfl
theorem k_Addr_pos : 0 < k_Addr.n := by decide
def Point.enc (x : Point) : List Value := [.bool x.addr.six, .int .u8 x.addr.b.e0, .int .u8 x.addr.b.e1, .int .u8 x.addr.b.e2, .int .u8 x.addr.b.e3, .int .u8 x.addr.b.e4, .int .u8 x.addr.b.e5, .int .u8 x.addr.b.e6, .int .u8 x.addr.b.e7, .int .u8 x.addr.b.e8, .int .u8 x.addr.b.e9, .int .u8 x.addr.b.e10, .int .u8 x.addr.b.e11, .int .u8 x.addr.b.e12, .int .u8 x.addr.b.e13, .int .u8 x.addr.b.e14, .int .u8 x.addr.b.e15, .int .i64 x.port]
def k_Point : Kd Point := Kd.pure 18 Point.enc (fun _ => rfl) fun _ => rfl
theorem k_Point_pos : 0 < k_Point.n := by decide
def Candidate.c (x : Candidate) (z0 : Value) : List Value := [.bool x.point.addr.six, .int .u8 x.point.addr.b.e0, .int .u8 x.point.addr.b.e1, .int .u8 x.point.addr.b.e2, .int .u8 x.point.addr.b.e3, .int .u8 x.point.addr.b.e4, .int .u8 x.point.addr.b.e5, .int .u8 x.point.addr.b.e6, .int .u8 x.point.addr.b.e7, .int .u8 x.point.addr.b.e8, .int .u8 x.point.addr.b.e9, .int .u8 x.point.addr.b.e10, .int .u8 x.point.addr.b.e11, .int .u8 x.point.addr.b.e12, .int .u8 x.point.addr.b.e13, .int .u8 x.point.addr.b.e14, .int .u8 x.point.addr.b.e15, .int .i64 x.point.port, .bool x.localF, .bool x.ready, .bool x.serving, .bool x.terminating, z0]
def k_Candidate : Kd Candidate := ⟨23, fun F w x cs => ∃ z0, cs = Candidate.c x z0 ∧ slRep kStr F w x.zones z0,
  fun ⟨_, h, _⟩ => by rw [h]; rfl, fun ⟨z0, h, h0⟩ hm => ⟨z0, h, slRep.mono kStr_pos h0 hm⟩,
  fun ⟨z0, h, h0⟩ v hv => by
    obtain ⟨a0, c0, e0⟩ := h0.shape
    rw [h, e0] at hv; exact all_one (l := Candidate.c _ _) rfl v hv⟩
theorem k_Candidate_pos : 0 < k_Candidate.n := by decide
theorem fa32_0 : FA Try.prog 32 0 0 := FA.mk Try.underlying32 rfl rfl rfl Try.sizeOf29 rfl
theorem fa32_1 : FA Try.prog 32 1 18 := FA.mk Try.underlying32 rfl rfl rfl Try.sizeOf4 rfl
theorem fa32_2 : FA Try.prog 32 2 19 := FA.mk Try.underlying32 rfl rfl rfl Try.sizeOf4 rfl
theorem fa32_3 : FA Try.prog 32 3 20 := FA.mk Try.underlying32 rfl rfl rfl Try.sizeOf4 rfl
theorem fa32_4 : FA Try.prog 32 4 21 := FA.mk Try.underlying32 rfl rfl rfl Try.sizeOf4 rfl
theorem fa32_5 : FA Try.prog 32 5 22 := FA.mk Try.underlying32 rfl rfl rfl Try.sizeOf30 rfl
theorem fa40_0 : FA Try.prog 40 0 0 := FA.mk Try.underlying40 rfl rfl rfl Try.sizeOf29 rfl
theorem fa40_1 : FA Try.prog 40 1 18 := FA.mk Try.underlying40 rfl rfl rfl Try.sizeOf4 rfl
theorem fa40_2 : FA Try.prog 40 2 19 := FA.mk Try.underlying40 rfl rfl rfl Try.sizeOf4 rfl
theorem fa40_3 : FA Try.prog 40 3 20 := FA.mk Try.underlying40 rfl rfl rfl Try.sizeOf4 rfl
theorem fa40_4 : FA Try.prog 40 4 21 := FA.mk Try.underlying40 rfl rfl rfl Try.sizeOf4 rfl
theorem fa40_5 : FA Try.prog 40 5 22 := FA.mk Try.underlying40 rfl rfl rfl Try.sizeOf30 rfl
theorem pl32 : Places Try.prog 32 [(0, 18), (18, 1), (19, 1), (20, 1), (21, 1), (22, 1)] := ⟨_, Try.underlying32, fun w => by simp [Try.sizeOf29, Try.sizeOf30, Try.sizeOf4]⟩
theorem ap22 : AppT Try.prog 22 32 23 := AppT.of (z := Value.agg #[.bool false, .int .u8 0, .int .u8 0, .int .u8 0, .int .u8 0, .int .u8 0, .int .u8 0, .int .u8 0, .int .u8 0, .int .u8 0, .int .u8 0, .int .u8 0, .int .u8 0, .int .u8 0, .int .u8 0, .int .u8 0, .int .u8 0, .int .i64 0, .bool false, .bool false, .bool false, .bool false, .slice none 0 0]) (by' := 64) Try.underlying22 (by kernel_rfl) rfl rfl
theorem ap30 : AppT Try.prog 30 9 1 := AppT.of (z := .string ⟨#[]⟩) (by' := 16) Try.underlying30 (by kernel_rfl) rfl rfl
theorem ap36 : AppT Try.prog 36 40 23 := AppT.of (z := Value.agg #[.bool false, .int .u8 0, .int .u8 0, .int .u8 0, .int .u8 0, .int .u8 0, .int .u8 0, .int .u8 0, .int .u8 0, .int .u8 0, .int .u8 0, .int .u8 0, .int .u8 0, .int .u8 0, .int .u8 0, .int .u8 0, .int .u8 0, .int .i64 0, .bool false, .bool false, .bool false, .bool false, .slice none 0 0]) (by' := 64) Try.underlying36 (by kernel_rfl) rfl rfl
theorem en5 : Enters Try.prog 5 := enters_of Try.func5 rfl rfl
theorem en6 : Enters Try.prog 6 := enters_of Try.func6 rfl rfl
theorem en7 : Enters Try.prog 7 := enters_of Try.func7 rfl rfl
theorem en8 : Enters Try.prog 8 := enters_of Try.func8 rfl rfl
theorem en9 : Enters Try.prog 9 := enters_of Try.func9 rfl rfl
theorem en10 : Enters Try.prog 10 := enters_of Try.func10 rfl rfl
theorem en11 : Enters Try.prog 11 := enters_of Try.func11 rfl rfl
theorem en12 : Enters Try.prog 12 := enters_of Try.func12 rfl rfl
theorem en13 : Enters Try.prog 13 := enters_of Try.func13 rfl rfl
theorem en14 : Enters Try.prog 14 := enters_of Try.func14 rfl rfl
theorem en15 : Enters Try.prog 15 := enters_of Try.func15 rfl rfl
theorem en16 : Enters Try.prog 16 := enters_of Try.func16 rfl rfl
theorem en17 : Enters Try.prog 17 := enters_of Try.func17 rfl rfl
theorem en18 : Enters Try.prog 18 := enters_of Try.func18 rfl rfl
theorem en19 : Enters Try.prog 19 := enters_of Try.func19 rfl rfl
theorem en20 : Enters Try.prog 20 := enters_of Try.func20 rfl rfl
theorem en21 : Enters Try.prog 21 := enters_of Try.func21 rfl rfl
theorem en22 : Enters Try.prog 22 := enters_of Try.func22 rfl rfl
theorem en23 : Enters Try.prog 23 := enters_of Try.func23 rfl rfl
theorem en24 : Enters Try.prog 24 := enters_of Try.func24 rfl rfl
theorem en25 : Enters Try.prog 25 := enters_of Try.func25 rfl rfl
theorem en26 : Enters Try.prog 26 := enters_of Try.func26 rfl rfl
theorem en27 : Enters Try.prog 27 := enters_of Try.func27 rfl rfl
theorem en28 : Enters Try.prog 28 := enters_of Try.func28 rfl rfl
theorem en29 : Enters Try.prog 29 := enters_of Try.func29 rfl rfl
theorem en30 : Enters Try.prog 30 := enters_of Try.func30 rfl rfl
theorem en31 : Enters Try.prog 31 := enters_of Try.func31 rfl rfl
theorem en32 : Enters Try.prog 32 := enters_of Try.func32 rfl rfl
theorem en33 : Enters Try.prog 33 := enters_of Try.func33 rfl rfl
theorem en34 : Enters Try.prog 34 := enters_of Try.func34 rfl rfl
theorem en37 : Enters Try.prog 37 := enters_of Try.func37 rfl rfl
theorem en38 : Enters Try.prog 38 := enters_of Try.func38 rfl rfl
theorem eqv4 : EqV Try.prog 4 Value.bool 1 := EqV.bool Try.underlying4
theorem eqv5 : EqV Try.prog 5 (Value.int .u8) 1 := EqV.int Try.underlying5
theorem eqv25 : EqV Try.prog 25 (fun x => Value.agg (A16u8.enc x).toArray) 2 := fun d x y w hd => (eq_arr (val := (Value.int .u8)) Try.underlying25 Try.sizeOf5 Try.isAgg5 eqv5 d [x.e0, x.e1, x.e2, x.e3, x.e4, x.e5, x.e6, x.e7, x.e8, x.e9, x.e10, x.e11, x.e12, x.e13, x.e14, x.e15] [y.e0, y.e1, y.e2, y.e3, y.e4, y.e5, y.e6, y.e7, y.e8, y.e9, y.e10, y.e11, y.e12, y.e13, y.e14, y.e15] w rfl rfl hd).trans (congrArg (Result.ok · w) (by cases x; cases y; simp))
theorem eqv27 : EqV Try.prog 27 (fun x => Value.agg (Addr.enc x).toArray) 3 := by
  refine EqV.struct (val := Addr.enc) Try.underlying27 Try.stoodInHeld27 fun d x y w hd => ?_
  refine Eq.trans (b := .ok (decide (x.six = y.six) && (decide (x.b = y.b) && true)) w) ?_ (by cases x; cases y; simp)
  refine eqf_cons (a := Value.bool x.six) (b := Value.bool y.six) rfl (part_S Try.isAgg4 rfl) (part_S Try.isAgg4 rfl) (eqv4 d x.six y.six w (ble_trans hd rfl)) ?_
  refine eqf_cons (a := .agg (A16u8.enc x.b).toArray) (b := .agg (A16u8.enc y.b).toArray) rfl (part_A (es := A16u8.enc x.b) Try.isAgg25 Try.sizeOf25 rfl) (part_A (es := A16u8.enc y.b) Try.isAgg25 Try.sizeOf25 rfl) (eqv25 d x.b y.b w (ble_trans hd rfl)) ?_
  exact eqf_nil
theorem eqv3 : EqV Try.prog 3 (Value.int .i64) 1 := EqV.int Try.underlying3
theorem eqv29 : EqV Try.prog 29 (fun x => Value.agg (Point.enc x).toArray) 4 := by
  refine EqV.struct (val := Point.enc) Try.underlying29 Try.stoodInHeld29 fun d x y w hd => ?_
  refine Eq.trans (b := .ok (decide (x.addr = y.addr) && (decide (x.port = y.port) && true)) w) ?_ (by cases x; cases y; simp)
  refine eqf_cons (a := .agg (Addr.enc x.addr).toArray) (b := .agg (Addr.enc y.addr).toArray) rfl (part_A (es := Addr.enc x.addr) Try.isAgg27 Try.sizeOf27 rfl) (part_A (es := Addr.enc y.addr) Try.isAgg27 Try.sizeOf27 rfl) (eqv27 d x.addr y.addr w (ble_trans hd rfl)) ?_
  refine eqf_cons (a := Value.int .i64 x.port) (b := Value.int .i64 y.port) rfl (part_S Try.isAgg3 rfl) (part_S Try.isAgg3 rfl) (eqv3 d x.port y.port w (ble_trans hd rfl)) ?_
  exact eqf_nil
theorem eql29 (x y : Point) : BinRun Try.prog .eql 29 (.agg (Point.enc x).toArray) (.agg (Point.enc y).toArray) (.bool (decide (x = y))) := EqV.eql eqv29 Try.eqGuardType29 rfl x y
theorem neq29 (x y : Point) : BinRun Try.prog .neq 29 (.agg (Point.enc x).toArray) (.agg (Point.enc y).toArray) (.bool (!decide (x = y))) := EqV.neq eqv29 Try.eqGuardType29 rfl x y
end Go.Proofs.Ytlebjaljlhcbkaa
