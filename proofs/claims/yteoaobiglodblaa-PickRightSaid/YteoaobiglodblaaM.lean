/- How this program's data lie in cells. Written by a program of this session. -/
import Derived.Test.YteoaobiglodblaaK10
import Derived.Test.YteoaobiglodblaaY
import Derived.Test.YteoaobiglodblaaProg
import Derived.KernelRfl
namespace Go.Proofs.Yteoaobiglodblaa
open Go K
set_option linter.unusedVariables false
theorem mixed : Try.prog.follows .mixedOrders = true := by kernel_rfl
def A16u8.enc (x : A16u8) : List Value := [.int .u8 x.e0, .int .u8 x.e1, .int .u8 x.e2, .int .u8 x.e3, .int .u8 x.e4, .int .u8 x.e5, .int .u8 x.e6, .int .u8 x.e7, .int .u8 x.e8, .int .u8 x.e9, .int .u8 x.e10, .int .u8 x.e11, .int .u8 x.e12, .int .u8 x.e13, .int .u8 x.e14, .int .u8 x.e15]
def k_A16u8 : Kd A16u8 := Kd.pure 16 A16u8.enc (fun _ => rfl) fun _ => rfl
theorem k_A16u8_pos : 0 < k_A16u8.n := by decide
def Addr.enc (x : Addr) : List Value := [.bool x.six, .int .u8 x.b.e0, .int .u8 x.b.e1, .int .u8 x.b.e2, .int .u8 x.b.e3, .int .u8 x.b.e4, .int .u8 x.b.e5, .int .u8 x.b.e6, .int .u8 x.b.e7, .int .u8 x.b.e8, .int .u8 x.b.e9, .int .u8 x.b.e10, .int .u8 x.b.e11, .int .u8 x.b.e12, .int .u8 x.b.e13, .int .u8 x.b.e14, .int .u8 x.b.e15]
def k_Addr : Kd Addr := Kd.pure 17 Addr.enc (fun _ => rfl) fun _ => rfl
theorem k_Addr_pos : 0 < k_Addr.n := by decide
def Point.enc (x : Point) : List Value := [.bool x.addr.six, .int .u8 x.addr.b.e0, .int .u8 x.addr.b.e1, .int .u8 x.addr.b.e2, .int .u8 x.addr.b.e3, .int .u8 x.addr.b.e4, .int .u8 x.addr.b.e5, .int .u8 x.addr.b.e6, .int .u8 x.addr.b.e7, .int .u8 x.addr.b.e8, .int .u8 x.addr.b.e9, .int .u8 x.addr.b.e10, .int .u8 x.addr.b.e11, .int .u8 x.addr.b.e12, .int .u8 x.addr.b.e13, .int .u8 x.addr.b.e14, .int .u8 x.addr.b.e15, .int .i64 x.port]
def k_Point : Kd Point := Kd.pure 18 Point.enc (fun _ => rfl) fun _ => rfl
theorem k_Point_pos : 0 < k_Point.n := by decide
def Candidate.c (x : Candidate) (z0 : Value) : List Value := [.bool x.point.addr.six, .int .u8 x.point.addr.b.e0, .int .u8 x.point.addr.b.e1, .int .u8 x.point.addr.b.e2, .int .u8 x.point.addr.b.e3, .int .u8 x.point.addr.b.e4, .int .u8 x.point.addr.b.e5, .int .u8 x.point.addr.b.e6, .int .u8 x.point.addr.b.e7, .int .u8 x.point.addr.b.e8, .int .u8 x.point.addr.b.e9, .int .u8 x.point.addr.b.e10, .int .u8 x.point.addr.b.e11, .int .u8 x.point.addr.b.e12, .int .u8 x.point.addr.b.e13, .int .u8 x.point.addr.b.e14, .int .u8 x.point.addr.b.e15, .int .i64 x.point.port, .bool x.localF, .bool x.ready, .bool x.serving, .bool x.terminating, z0]
def k_Candidate : Kd Candidate := ⟨23, fun F w x cs => ∃ z0, cs = Candidate.c x z0 ∧ slRep kStr F w x.zones z0,
  fun ⟨_, h, _⟩ => by rw [h]; rfl, fun ⟨z0, h, h0⟩ hm => ⟨z0, h, slRep.mono kStr_pos h0 hm⟩,
  fun ⟨z0, h, h0⟩ v hv => by
    obtain ⟨a0, c0, e0⟩ := h0.shape
    rw [h, e0] at hv; exact all_one (l := Candidate.c _ _) rfl v hv⟩
theorem k_Candidate_pos : 0 < k_Candidate.n := by decide
def Want.enc (x : Want) : List Value := [.string x.name, .int .i64 x.proto, .bool x.six, .bool x.localF, .bool x.hinted, .string x.node, .string x.zone]
def k_Want : Kd Want := Kd.pure 7 Want.enc (fun _ => rfl) fun _ => rfl
theorem k_Want_pos : 0 < k_Want.n := by decide
theorem fa24_0 : FA Try.prog 24 0 0 := FA.mk Try.underlying24 rfl rfl rfl Try.sizeOf9 rfl
theorem fa24_3 : FA Try.prog 24 3 3 := FA.mk Try.underlying24 rfl rfl rfl Try.sizeOf4 rfl
theorem fa24_4 : FA Try.prog 24 4 4 := FA.mk Try.underlying24 rfl rfl rfl Try.sizeOf4 rfl
theorem fa24_5 : FA Try.prog 24 5 5 := FA.mk Try.underlying24 rfl rfl rfl Try.sizeOf9 rfl
theorem fa24_6 : FA Try.prog 24 6 6 := FA.mk Try.underlying24 rfl rfl rfl Try.sizeOf9 rfl
theorem fa35_3 : FA Try.prog 35 3 3 := FA.mk Try.underlying35 rfl rfl rfl Try.sizeOf4 rfl
theorem fa35_4 : FA Try.prog 35 4 4 := FA.mk Try.underlying35 rfl rfl rfl Try.sizeOf4 rfl
theorem fa35_6 : FA Try.prog 35 6 6 := FA.mk Try.underlying35 rfl rfl rfl Try.sizeOf9 rfl
theorem fa44_0 : FA Try.prog 44 0 0 := FA.mk Try.underlying44 rfl rfl rfl Try.sizeOf41 rfl
theorem fa44_1 : FA Try.prog 44 1 18 := FA.mk Try.underlying44 rfl rfl rfl Try.sizeOf4 rfl
theorem fa44_2 : FA Try.prog 44 2 19 := FA.mk Try.underlying44 rfl rfl rfl Try.sizeOf4 rfl
theorem fa44_3 : FA Try.prog 44 3 20 := FA.mk Try.underlying44 rfl rfl rfl Try.sizeOf4 rfl
theorem fa44_4 : FA Try.prog 44 4 21 := FA.mk Try.underlying44 rfl rfl rfl Try.sizeOf4 rfl
theorem fa44_5 : FA Try.prog 44 5 22 := FA.mk Try.underlying44 rfl rfl rfl Try.sizeOf42 rfl
theorem fa58_0 : FA Try.prog 58 0 0 := FA.mk Try.underlying58 rfl rfl rfl Try.sizeOf41 rfl
theorem fa58_1 : FA Try.prog 58 1 18 := FA.mk Try.underlying58 rfl rfl rfl Try.sizeOf4 rfl
theorem fa58_2 : FA Try.prog 58 2 19 := FA.mk Try.underlying58 rfl rfl rfl Try.sizeOf4 rfl
theorem fa58_3 : FA Try.prog 58 3 20 := FA.mk Try.underlying58 rfl rfl rfl Try.sizeOf4 rfl
theorem fa58_4 : FA Try.prog 58 4 21 := FA.mk Try.underlying58 rfl rfl rfl Try.sizeOf4 rfl
theorem fa58_5 : FA Try.prog 58 5 22 := FA.mk Try.underlying58 rfl rfl rfl Try.sizeOf42 rfl
theorem pl44 : Places Try.prog 44 [(0, 18), (18, 1), (19, 1), (20, 1), (21, 1), (22, 1)] := ⟨_, Try.underlying44, fun w => by simp [Try.sizeOf4, Try.sizeOf41, Try.sizeOf42]⟩
theorem ap22 : AppT Try.prog 22 44 23 := AppT.of (z := Value.agg #[.bool false, .int .u8 0, .int .u8 0, .int .u8 0, .int .u8 0, .int .u8 0, .int .u8 0, .int .u8 0, .int .u8 0, .int .u8 0, .int .u8 0, .int .u8 0, .int .u8 0, .int .u8 0, .int .u8 0, .int .u8 0, .int .u8 0, .int .i64 0, .bool false, .bool false, .bool false, .bool false, .slice none 0 0]) (by' := 64) Try.underlying22 (by kernel_rfl) rfl rfl
theorem ap28 : AppT Try.prog 28 58 23 := AppT.of (z := Value.agg #[.bool false, .int .u8 0, .int .u8 0, .int .u8 0, .int .u8 0, .int .u8 0, .int .u8 0, .int .u8 0, .int .u8 0, .int .u8 0, .int .u8 0, .int .u8 0, .int .u8 0, .int .u8 0, .int .u8 0, .int .u8 0, .int .u8 0, .int .i64 0, .bool false, .bool false, .bool false, .bool false, .slice none 0 0]) (by' := 64) Try.underlying28 (by kernel_rfl) rfl rfl
theorem en6 : Enters Try.prog 6 := enters_of Try.func6 rfl rfl
theorem en7 : Enters Try.prog 7 := enters_of Try.func7 rfl rfl
theorem en8 : Enters Try.prog 8 := enters_of Try.func8 rfl rfl
theorem en9 : Enters Try.prog 9 := enters_of Try.func9 rfl rfl
theorem en10 : Enters Try.prog 10 := enters_of Try.func10 rfl rfl
theorem en11 : Enters Try.prog 11 := enters_of Try.func11 rfl rfl
theorem en12 : Enters Try.prog 12 := enters_of Try.func12 rfl rfl
theorem en13 : Enters Try.prog 13 := enters_of Try.func13 rfl rfl
theorem en14 : Enters Try.prog 14 := enters_of Try.func14 rfl rfl
theorem en15 : Enters Try.prog 15 := enters_of Try.func15 rfl rfl
theorem en23 : Enters Try.prog 23 := enters_of Try.func23 rfl rfl
theorem en24 : Enters Try.prog 24 := enters_of Try.func24 rfl rfl
theorem en25 : Enters Try.prog 25 := enters_of Try.func25 rfl rfl
theorem en26 : Enters Try.prog 26 := enters_of Try.func26 rfl rfl
theorem en27 : Enters Try.prog 27 := enters_of Try.func27 rfl rfl
theorem en28 : Enters Try.prog 28 := enters_of Try.func28 rfl rfl
theorem en29 : Enters Try.prog 29 := enters_of Try.func29 rfl rfl
theorem en30 : Enters Try.prog 30 := enters_of Try.func30 rfl rfl
theorem en31 : Enters Try.prog 31 := enters_of Try.func31 rfl rfl
theorem en32 : Enters Try.prog 32 := enters_of Try.func32 rfl rfl
theorem en40 : Enters Try.prog 40 := enters_of Try.func40 rfl rfl
theorem en41 : Enters Try.prog 41 := enters_of Try.func41 rfl rfl
theorem en42 : Enters Try.prog 42 := enters_of Try.func42 rfl rfl
theorem en43 : Enters Try.prog 43 := enters_of Try.func43 rfl rfl
theorem en44 : Enters Try.prog 44 := enters_of Try.func44 rfl rfl
theorem en45 : Enters Try.prog 45 := enters_of Try.func45 rfl rfl
theorem en46 : Enters Try.prog 46 := enters_of Try.func46 rfl rfl
theorem en47 : Enters Try.prog 47 := enters_of Try.func47 rfl rfl
theorem en48 : Enters Try.prog 48 := enters_of Try.func48 rfl rfl
theorem en49 : Enters Try.prog 49 := enters_of Try.func49 rfl rfl
theorem en50 : Enters Try.prog 50 := enters_of Try.func50 rfl rfl
theorem en51 : Enters Try.prog 51 := enters_of Try.func51 rfl rfl
theorem en59 : Enters Try.prog 59 := enters_of Try.func59 rfl rfl
theorem en60 : Enters Try.prog 60 := enters_of Try.func60 rfl rfl
theorem en61 : Enters Try.prog 61 := enters_of Try.func61 rfl rfl
theorem en62 : Enters Try.prog 62 := enters_of Try.func62 rfl rfl
theorem en63 : Enters Try.prog 63 := enters_of Try.func63 rfl rfl
theorem en70 : Enters Try.prog 70 := enters_of Try.func70 rfl rfl
theorem eqv4 : EqV Try.prog 4 Value.bool 1 := EqV.bool Try.underlying4
theorem eqv5 : EqV Try.prog 5 (Value.int .u8) 1 := EqV.int Try.underlying5
theorem eqv37 : EqV Try.prog 37 (fun x => Value.agg (A16u8.enc x).toArray) 2 := fun d x y w hd => (eq_arr (val := (Value.int .u8)) Try.underlying37 Try.sizeOf5 Try.isAgg5 eqv5 d [x.e0, x.e1, x.e2, x.e3, x.e4, x.e5, x.e6, x.e7, x.e8, x.e9, x.e10, x.e11, x.e12, x.e13, x.e14, x.e15] [y.e0, y.e1, y.e2, y.e3, y.e4, y.e5, y.e6, y.e7, y.e8, y.e9, y.e10, y.e11, y.e12, y.e13, y.e14, y.e15] w rfl rfl hd).trans (congrArg (Result.ok · w) (by cases x; cases y; simp))
theorem eqv39 : EqV Try.prog 39 (fun x => Value.agg (Addr.enc x).toArray) 3 := by
  refine EqV.struct (val := Addr.enc) Try.underlying39 Try.stoodInHeld39 fun d x y w hd => ?_
  refine Eq.trans (b := .ok (decide (x.six = y.six) && (decide (x.b = y.b) && true)) w) ?_ (by cases x; cases y; simp)
  refine eqf_cons (a := Value.bool x.six) (b := Value.bool y.six) rfl (part_S Try.isAgg4 rfl) (part_S Try.isAgg4 rfl) (eqv4 d x.six y.six w (ble_trans hd rfl)) ?_
  refine eqf_cons (a := .agg (A16u8.enc x.b).toArray) (b := .agg (A16u8.enc y.b).toArray) rfl (part_A (es := A16u8.enc x.b) Try.isAgg37 Try.sizeOf37 rfl) (part_A (es := A16u8.enc y.b) Try.isAgg37 Try.sizeOf37 rfl) (eqv37 d x.b y.b w (ble_trans hd rfl)) ?_
  exact eqf_nil
theorem eqv3 : EqV Try.prog 3 (Value.int .i64) 1 := EqV.int Try.underlying3
theorem eqv41 : EqV Try.prog 41 (fun x => Value.agg (Point.enc x).toArray) 4 := by
  refine EqV.struct (val := Point.enc) Try.underlying41 Try.stoodInHeld41 fun d x y w hd => ?_
  refine Eq.trans (b := .ok (decide (x.addr = y.addr) && (decide (x.port = y.port) && true)) w) ?_ (by cases x; cases y; simp)
  refine eqf_cons (a := .agg (Addr.enc x.addr).toArray) (b := .agg (Addr.enc y.addr).toArray) rfl (part_A (es := Addr.enc x.addr) Try.isAgg39 Try.sizeOf39 rfl) (part_A (es := Addr.enc y.addr) Try.isAgg39 Try.sizeOf39 rfl) (eqv39 d x.addr y.addr w (ble_trans hd rfl)) ?_
  refine eqf_cons (a := Value.int .i64 x.port) (b := Value.int .i64 y.port) rfl (part_S Try.isAgg3 rfl) (part_S Try.isAgg3 rfl) (eqv3 d x.port y.port w (ble_trans hd rfl)) ?_
  exact eqf_nil
theorem eql41 (x y : Point) : BinRun Try.prog .eql 41 (.agg (Point.enc x).toArray) (.agg (Point.enc y).toArray) (.bool (decide (x = y))) := EqV.eql eqv41 Try.eqGuardType41 rfl x y
theorem neq41 (x y : Point) : BinRun Try.prog .neq 41 (.agg (Point.enc x).toArray) (.agg (Point.enc y).toArray) (.bool (!decide (x = y))) := EqV.neq eqv41 Try.eqGuardType41 rfl x y
end Go.Proofs.Yteoaobiglodblaa
