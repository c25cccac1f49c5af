/- How this program's data lie in cells. Written by a program of this session. -/
import Derived.Test.YtokikdhilpebmaaK18
import Derived.Test.YtokikdhilpebmaaY
import Derived.Test.YtokikdhilpebmaaProg
import Derived.KernelRfl
namespace Go.Proofs.Ytokikdhilpebmaa
open Go K
set_option linter.unusedVariables false
theorem mixed : Try.prog.follows .mixedOrders = true := by kernel_rfl
def A16u8.enc (x : A16u8) : List Value := [.int .u8 x.e0, .int .u8 x.e1, .int .u8 x.e2, .int .u8 x.e3, .int .u8 x.e4, .int .u8 x.e5, .int .u8 x.e6, .int .u8 x.e7, .int .u8 x.e8, .int .u8 x.e9, .int .u8 x.e10, .int .u8 x.e11, .int .u8 x.e12, .int .u8 x.e13, .int .u8 x.e14, .int .u8 x.e15]
def k_A16u8 : Kd A16u8 := Kd.pure 16 A16u8.enc (fun _ => rfl) fun _ => rfl
theorem k_A16u8_pos : 0 < k_A16u8.n := by decide
def Addr.enc (x : Addr) : List Value := [.bool x.six, .int .u8 x.b.e0, .int .u8 x.b.e1, .int .u8 x.b.e2, .int .u8 x.b.e3, .int .u8 x.b.e4, .int .u8 x.b.e5, .int .u8 x.b.e6, .int .u8 x.b.e7, .int .u8 x.b.e8, .int .u8 x.b.e9, .int .u8 x.b.e10, .int .u8 x.b.e11, .int .u8 x.b.e12, .int .u8 x.b.e13, .int .u8 x.b.e14, .int .u8 x.b.e15]
def k_Addr : Kd Addr := Kd.pure 17 Addr.enc (fun _ => rfl) fun _ => rfl
theorem k_Addr_pos : 0 < k_Addr.n := by decide
def Key.enc (x : Key) : List Value := [.string x.space, .string x.name]
def k_Key : Kd Key := Kd.pure 2 Key.enc (fun _ => rfl) fun _ => rfl
theorem k_Key_pos : 0 < k_Key.n := by decide
def Place.enc (x : Place) : List Value := [.bool x.client.six, .int .u8 x.client.b.e0, .int .u8 x.client.b.e1, .int .u8 x.client.b.e2, .int .u8 x.client.b.e3, .int .u8 x.client.b.e4, .int .u8 x.client.b.e5, .int .u8 x.client.b.e6, .int .u8 x.client.b.e7, .int .u8 x.client.b.e8, .int .u8 x.client.b.e9, .int .u8 x.client.b.e10, .int .u8 x.client.b.e11, .int .u8 x.client.b.e12, .int .u8 x.client.b.e13, .int .u8 x.client.b.e14, .int .u8 x.client.b.e15, .string x.service.space, .string x.service.name, .string x.name, .bool x.localF]
def k_Place : Kd Place := Kd.pure 21 Place.enc (fun _ => rfl) fun _ => rfl
theorem k_Place_pos : 0 < k_Place.n := by decide
def Point.enc (x : Point) : List Value := [.bool x.addr.six, .int .u8 x.addr.b.e0, .int .u8 x.addr.b.e1, .int .u8 x.addr.b.e2, .int .u8 x.addr.b.e3, .int .u8 x.addr.b.e4, .int .u8 x.addr.b.e5, .int .u8 x.addr.b.e6, .int .u8 x.addr.b.e7, .int .u8 x.addr.b.e8, .int .u8 x.addr.b.e9, .int .u8 x.addr.b.e10, .int .u8 x.addr.b.e11, .int .u8 x.addr.b.e12, .int .u8 x.addr.b.e13, .int .u8 x.addr.b.e14, .int .u8 x.addr.b.e15, .int .i64 x.port]
def k_Point : Kd Point := Kd.pure 18 Point.enc (fun _ => rfl) fun _ => rfl
theorem k_Point_pos : 0 < k_Point.n := by decide
def Tie.enc (x : Tie) : List Value := [.bool x.client.six, .int .u8 x.client.b.e0, .int .u8 x.client.b.e1, .int .u8 x.client.b.e2, .int .u8 x.client.b.e3, .int .u8 x.client.b.e4, .int .u8 x.client.b.e5, .int .u8 x.client.b.e6, .int .u8 x.client.b.e7, .int .u8 x.client.b.e8, .int .u8 x.client.b.e9, .int .u8 x.client.b.e10, .int .u8 x.client.b.e11, .int .u8 x.client.b.e12, .int .u8 x.client.b.e13, .int .u8 x.client.b.e14, .int .u8 x.client.b.e15, .string x.service.space, .string x.service.name, .string x.name, .bool x.localF, .bool x.backend.addr.six, .int .u8 x.backend.addr.b.e0, .int .u8 x.backend.addr.b.e1, .int .u8 x.backend.addr.b.e2, .int .u8 x.backend.addr.b.e3, .int .u8 x.backend.addr.b.e4, .int .u8 x.backend.addr.b.e5, .int .u8 x.backend.addr.b.e6, .int .u8 x.backend.addr.b.e7, .int .u8 x.backend.addr.b.e8, .int .u8 x.backend.addr.b.e9, .int .u8 x.backend.addr.b.e10, .int .u8 x.backend.addr.b.e11, .int .u8 x.backend.addr.b.e12, .int .u8 x.backend.addr.b.e13, .int .u8 x.backend.addr.b.e14, .int .u8 x.backend.addr.b.e15, .int .i64 x.backend.port, .int .i64 x.last]
def k_Tie : Kd Tie := Kd.pure 40 Tie.enc (fun _ => rfl) fun _ => rfl
theorem k_Tie_pos : 0 < k_Tie.n := by decide
def Ties.c (x : Ties) (z0 : Value) : List Value := [z0]
def Act.enc (x : Act) : List Value := [.int .i64 x.kind, .int .i64 x.now, .int .i64 x.ticks, .bool x.tie.client.six, .int .u8 x.tie.client.b.e0, .int .u8 x.tie.client.b.e1, .int .u8 x.tie.client.b.e2, .int .u8 x.tie.client.b.e3, .int .u8 x.tie.client.b.e4, .int .u8 x.tie.client.b.e5, .int .u8 x.tie.client.b.e6, .int .u8 x.tie.client.b.e7, .int .u8 x.tie.client.b.e8, .int .u8 x.tie.client.b.e9, .int .u8 x.tie.client.b.e10, .int .u8 x.tie.client.b.e11, .int .u8 x.tie.client.b.e12, .int .u8 x.tie.client.b.e13, .int .u8 x.tie.client.b.e14, .int .u8 x.tie.client.b.e15, .string x.tie.service.space, .string x.tie.service.name, .string x.tie.name, .bool x.tie.localF, .bool x.tie.backend.addr.six, .int .u8 x.tie.backend.addr.b.e0, .int .u8 x.tie.backend.addr.b.e1, .int .u8 x.tie.backend.addr.b.e2, .int .u8 x.tie.backend.addr.b.e3, .int .u8 x.tie.backend.addr.b.e4, .int .u8 x.tie.backend.addr.b.e5, .int .u8 x.tie.backend.addr.b.e6, .int .u8 x.tie.backend.addr.b.e7, .int .u8 x.tie.backend.addr.b.e8, .int .u8 x.tie.backend.addr.b.e9, .int .u8 x.tie.backend.addr.b.e10, .int .u8 x.tie.backend.addr.b.e11, .int .u8 x.tie.backend.addr.b.e12, .int .u8 x.tie.backend.addr.b.e13, .int .u8 x.tie.backend.addr.b.e14, .int .u8 x.tie.backend.addr.b.e15, .int .i64 x.tie.backend.port, .int .i64 x.tie.last]
def k_Act : Kd Act := Kd.pure 43 Act.enc (fun _ => rfl) fun _ => rfl
theorem k_Act_pos : 0 < k_Act.n := by decide
def Ties_2.c (x : Ties_2) (z0 : Value) : List Value := [z0]
def k_Ties_2 : Kd Ties_2 := ⟨1, fun F w x cs => ∃ z0, cs = Ties_2.c x z0 ∧ slRep k_Tie F w x.all z0,
  fun ⟨_, h, _⟩ => by rw [h]; rfl, fun ⟨z0, h, h0⟩ hm => ⟨z0, h, slRep.mono k_Tie_pos h0 hm⟩,
  fun ⟨z0, h, h0⟩ v hv => by
    obtain ⟨a0, c0, e0⟩ := h0.shape
    rw [h, e0] at hv; exact all_one (l := Ties_2.c _ _) rfl v hv⟩
theorem k_Ties_2_pos : 0 < k_Ties_2.n := by decide
theorem fa24_0 : FA Try.prog 24 0 0 := FA.mk Try.underlying24 rfl rfl rfl Try.sizeOf4 rfl
theorem fa24_1 : FA Try.prog 24 1 1 := FA.mk Try.underlying24 rfl rfl rfl Try.sizeOf22 rfl
theorem fa26_0 : FA Try.prog 26 0 0 := FA.mk Try.underlying26 rfl rfl rfl Try.sizeOf9 rfl
theorem fa26_1 : FA Try.prog 26 1 1 := FA.mk Try.underlying26 rfl rfl rfl Try.sizeOf9 rfl
theorem fa28_1 : FA Try.prog 28 1 17 := FA.mk Try.underlying28 rfl rfl rfl Try.sizeOf3 rfl
theorem fa30_0 : FA Try.prog 30 0 0 := FA.mk Try.underlying30 rfl rfl rfl Try.sizeOf24 rfl
theorem fa30_1 : FA Try.prog 30 1 17 := FA.mk Try.underlying30 rfl rfl rfl Try.sizeOf26 rfl
theorem fa30_2 : FA Try.prog 30 2 19 := FA.mk Try.underlying30 rfl rfl rfl Try.sizeOf9 rfl
theorem fa30_3 : FA Try.prog 30 3 20 := FA.mk Try.underlying30 rfl rfl rfl Try.sizeOf4 rfl
theorem fa30_4 : FA Try.prog 30 4 21 := FA.mk Try.underlying30 rfl rfl rfl Try.sizeOf28 rfl
theorem fa30_5 : FA Try.prog 30 5 39 := FA.mk Try.underlying30 rfl rfl rfl Try.sizeOf3 rfl
theorem fa35_0 : FA Try.prog 35 0 0 := FA.mk Try.underlying35 rfl rfl rfl Try.sizeOf3 rfl
theorem fa35_1 : FA Try.prog 35 1 1 := FA.mk Try.underlying35 rfl rfl rfl Try.sizeOf3 rfl
theorem fa35_2 : FA Try.prog 35 2 2 := FA.mk Try.underlying35 rfl rfl rfl Try.sizeOf3 rfl
theorem fa35_3 : FA Try.prog 35 3 3 := FA.mk Try.underlying35 rfl rfl rfl Try.sizeOf30 rfl
theorem fa37_0 : FA Try.prog 37 0 0 := FA.mk Try.underlying37 rfl rfl rfl Try.sizeOf24 rfl
theorem fa37_1 : FA Try.prog 37 1 17 := FA.mk Try.underlying37 rfl rfl rfl Try.sizeOf26 rfl
theorem fa37_2 : FA Try.prog 37 2 19 := FA.mk Try.underlying37 rfl rfl rfl Try.sizeOf9 rfl
theorem fa37_3 : FA Try.prog 37 3 20 := FA.mk Try.underlying37 rfl rfl rfl Try.sizeOf4 rfl
theorem fa37_4 : FA Try.prog 37 4 21 := FA.mk Try.underlying37 rfl rfl rfl Try.sizeOf28 rfl
theorem fa37_5 : FA Try.prog 37 5 39 := FA.mk Try.underlying37 rfl rfl rfl Try.sizeOf3 rfl
theorem fa48_0 : FA Try.prog 48 0 0 := FA.mk Try.underlying48 rfl rfl rfl Try.sizeOf46 rfl
theorem fa69_0 : FA Try.prog 69 0 0 := FA.mk Try.underlying69 rfl rfl rfl Try.sizeOf67 rfl
theorem pl28 : Places Try.prog 28 [(0, 17), (17, 1)] := ⟨_, Try.underlying28, fun w => by simp [Try.sizeOf24, Try.sizeOf3]⟩
theorem pl30 : Places Try.prog 30 [(0, 17), (17, 2), (19, 1), (20, 1), (21, 18), (39, 1)] := ⟨_, Try.underlying30, fun w => by simp [Try.sizeOf24, Try.sizeOf26, Try.sizeOf28, Try.sizeOf3, Try.sizeOf4, Try.sizeOf9]⟩
theorem pl37 : Places Try.prog 37 [(0, 17), (17, 2), (19, 1), (20, 1), (21, 18), (39, 1)] := ⟨_, Try.underlying37, fun w => by simp [Try.sizeOf24, Try.sizeOf26, Try.sizeOf28, Try.sizeOf3, Try.sizeOf4, Try.sizeOf9]⟩
theorem pl48 : Places Try.prog 48 [(0, 1)] := ⟨_, Try.underlying48, fun w => by simp [Try.sizeOf46]⟩
theorem pl69 : Places Try.prog 69 [(0, 1)] := ⟨_, Try.underlying69, fun w => by simp [Try.sizeOf67]⟩
theorem pl79 : Places Try.prog 79 [(0, 17), (17, 2), (19, 1), (20, 1)] := ⟨_, Try.underlying79, fun w => by simp [Try.sizeOf24, Try.sizeOf26, Try.sizeOf4, Try.sizeOf9]⟩
theorem ap46 : AppT Try.prog 46 37 40 := AppT.of (z := Value.agg #[.bool false, .int .u8 0, .int .u8 0, .int .u8 0, .int .u8 0, .int .u8 0, .int .u8 0, .int .u8 0, .int .u8 0, .int .u8 0, .int .u8 0, .int .u8 0, .int .u8 0, .int .u8 0, .int .u8 0, .int .u8 0, .int .u8 0, .string ⟨#[]⟩, .string ⟨#[]⟩, .string ⟨#[]⟩, .bool false, .bool false, .int .u8 0, .int .u8 0, .int .u8 0, .int .u8 0, .int .u8 0, .int .u8 0, .int .u8 0, .int .u8 0, .int .u8 0, .int .u8 0, .int .u8 0, .int .u8 0, .int .u8 0, .int .u8 0, .int .u8 0, .int .u8 0, .int .i64 0, .int .i64 0]) (by' := 120) Try.underlying46 (by kernel_rfl) rfl rfl
theorem ap52 : AppT Try.prog 52 30 40 := AppT.of (z := Value.agg #[.bool false, .int .u8 0, .int .u8 0, .int .u8 0, .int .u8 0, .int .u8 0, .int .u8 0, .int .u8 0, .int .u8 0, .int .u8 0, .int .u8 0, .int .u8 0, .int .u8 0, .int .u8 0, .int .u8 0, .int .u8 0, .int .u8 0, .string ⟨#[]⟩, .string ⟨#[]⟩, .string ⟨#[]⟩, .bool false, .bool false, .int .u8 0, .int .u8 0, .int .u8 0, .int .u8 0, .int .u8 0, .int .u8 0, .int .u8 0, .int .u8 0, .int .u8 0, .int .u8 0, .int .u8 0, .int .u8 0, .int .u8 0, .int .u8 0, .int .u8 0, .int .u8 0, .int .i64 0, .int .i64 0]) (by' := 120) Try.underlying52 (by kernel_rfl) rfl rfl
theorem en5 : Enters Try.prog 5 := enters_of Try.func5 rfl rfl
theorem en6 : Enters Try.prog 6 := enters_of Try.func6 rfl rfl
theorem en7 : Enters Try.prog 7 := enters_of Try.func7 rfl rfl
theorem en8 : Enters Try.prog 8 := enters_of Try.func8 rfl rfl
theorem en9 : Enters Try.prog 9 := enters_of Try.func9 rfl rfl
theorem en10 : Enters Try.prog 10 := enters_of Try.func10 rfl rfl
theorem en11 : Enters Try.prog 11 := enters_of Try.func11 rfl rfl
theorem en12 : Enters Try.prog 12 := enters_of Try.func12 rfl rfl
theorem en13 : Enters Try.prog 13 := enters_of Try.func13 rfl rfl
theorem en14 : Enters Try.prog 14 := enters_of Try.func14 rfl rfl
theorem en15 : Enters Try.prog 15 := enters_of Try.func15 rfl rfl
theorem en16 : Enters Try.prog 16 := enters_of Try.func16 rfl rfl
theorem en17 : Enters Try.prog 17 := enters_of Try.func17 rfl rfl
theorem en18 : Enters Try.prog 18 := enters_of Try.func18 rfl rfl
theorem en19 : Enters Try.prog 19 := enters_of Try.func19 rfl rfl
theorem en20 : Enters Try.prog 20 := enters_of Try.func20 rfl rfl
theorem en21 : Enters Try.prog 21 := enters_of Try.func21 rfl rfl
theorem en22 : Enters Try.prog 22 := enters_of Try.func22 rfl rfl
theorem en23 : Enters Try.prog 23 := enters_of Try.func23 rfl rfl
theorem en24 : Enters Try.prog 24 := enters_of Try.func24 rfl rfl
theorem en25 : Enters Try.prog 25 := enters_of Try.func25 rfl rfl
theorem en26 : Enters Try.prog 26 := enters_of Try.func26 rfl rfl
theorem en27 : Enters Try.prog 27 := enters_of Try.func27 rfl rfl
theorem en28 : Enters Try.prog 28 := enters_of Try.func28 rfl rfl
theorem en29 : Enters Try.prog 29 := enters_of Try.func29 rfl rfl
theorem en30 : Enters Try.prog 30 := enters_of Try.func30 rfl rfl
theorem en31 : Enters Try.prog 31 := enters_of Try.func31 rfl rfl
theorem en32 : Enters Try.prog 32 := enters_of Try.func32 rfl rfl
theorem en33 : Enters Try.prog 33 := enters_of Try.func33 rfl rfl
theorem en34 : Enters Try.prog 34 := enters_of Try.func34 rfl rfl
theorem en35 : Enters Try.prog 35 := enters_of Try.func35 rfl rfl
theorem en36 : Enters Try.prog 36 := enters_of Try.func36 rfl rfl
theorem en37 : Enters Try.prog 37 := enters_of Try.func37 rfl rfl
theorem en38 : Enters Try.prog 38 := enters_of Try.func38 rfl rfl
theorem en39 : Enters Try.prog 39 := enters_of Try.func39 rfl rfl
theorem en40 : Enters Try.prog 40 := enters_of Try.func40 rfl rfl
theorem en41 : Enters Try.prog 41 := enters_of Try.func41 rfl rfl
theorem en42 : Enters Try.prog 42 := enters_of Try.func42 rfl rfl
theorem en43 : Enters Try.prog 43 := enters_of Try.func43 rfl rfl
theorem en44 : Enters Try.prog 44 := enters_of Try.func44 rfl rfl
theorem en45 : Enters Try.prog 45 := enters_of Try.func45 rfl rfl
theorem en46 : Enters Try.prog 46 := enters_of Try.func46 rfl rfl
theorem en47 : Enters Try.prog 47 := enters_of Try.func47 rfl rfl
theorem en48 : Enters Try.prog 48 := enters_of Try.func48 rfl rfl
theorem en50 : Enters Try.prog 50 := enters_of Try.func50 rfl rfl
theorem eqv4 : EqV Try.prog 4 Value.bool 1 := EqV.bool Try.underlying4
theorem eqv5 : EqV Try.prog 5 (Value.int .u8) 1 := EqV.int Try.underlying5
theorem eqv22 : EqV Try.prog 22 (fun x => Value.agg (A16u8.enc x).toArray) 2 := fun d x y w hd => (eq_arr (val := (Value.int .u8)) Try.underlying22 Try.sizeOf5 Try.isAgg5 eqv5 d [x.e0, x.e1, x.e2, x.e3, x.e4, x.e5, x.e6, x.e7, x.e8, x.e9, x.e10, x.e11, x.e12, x.e13, x.e14, x.e15] [y.e0, y.e1, y.e2, y.e3, y.e4, y.e5, y.e6, y.e7, y.e8, y.e9, y.e10, y.e11, y.e12, y.e13, y.e14, y.e15] w rfl rfl hd).trans (congrArg (Result.ok · w) (by cases x; cases y; simp))
theorem eqv24 : EqV Try.prog 24 (fun x => Value.agg (Addr.enc x).toArray) 3 := by
  refine EqV.struct (val := Addr.enc) Try.underlying24 Try.stoodInHeld24 fun d x y w hd => ?_
  refine Eq.trans (b := .ok (decide (x.six = y.six) && (decide (x.b = y.b) && true)) w) ?_ (by cases x; cases y; simp)
  refine eqf_cons (a := Value.bool x.six) (b := Value.bool y.six) rfl (part_S Try.isAgg4 rfl) (part_S Try.isAgg4 rfl) (eqv4 d x.six y.six w (ble_trans hd rfl)) ?_
  refine eqf_cons (a := .agg (A16u8.enc x.b).toArray) (b := .agg (A16u8.enc y.b).toArray) rfl (part_A (es := A16u8.enc x.b) Try.isAgg22 Try.sizeOf22 rfl) (part_A (es := A16u8.enc y.b) Try.isAgg22 Try.sizeOf22 rfl) (eqv22 d x.b y.b w (ble_trans hd rfl)) ?_
  exact eqf_nil
theorem eqv9 : EqV Try.prog 9 Value.string 1 := EqV.string Try.underlying9
theorem eqv26 : EqV Try.prog 26 (fun x => Value.agg (Key.enc x).toArray) 2 := by
  refine EqV.struct (val := Key.enc) Try.underlying26 Try.stoodInHeld26 fun d x y w hd => ?_
  refine Eq.trans (b := .ok (decide (x.space = y.space) && (decide (x.name = y.name) && true)) w) ?_ (by cases x; cases y; simp)
  refine eqf_cons (a := Value.string x.space) (b := Value.string y.space) rfl (part_S Try.isAgg9 rfl) (part_S Try.isAgg9 rfl) (eqv9 d x.space y.space w (ble_trans hd rfl)) ?_
  refine eqf_cons (a := Value.string x.name) (b := Value.string y.name) rfl (part_S Try.isAgg9 rfl) (part_S Try.isAgg9 rfl) (eqv9 d x.name y.name w (ble_trans hd rfl)) ?_
  exact eqf_nil
theorem eqv79 : EqV Try.prog 79 (fun x => Value.agg (Place.enc x).toArray) 4 := by
  refine EqV.struct (val := Place.enc) Try.underlying79 Try.stoodInHeld79 fun d x y w hd => ?_
  refine Eq.trans (b := .ok (decide (x.client = y.client) && (decide (x.service = y.service) && (decide (x.name = y.name) && (decide (x.localF = y.localF) && true)))) w) ?_ (by cases x; cases y; simp)
  refine eqf_cons (a := .agg (Addr.enc x.client).toArray) (b := .agg (Addr.enc y.client).toArray) rfl (part_A (es := Addr.enc x.client) Try.isAgg24 Try.sizeOf24 rfl) (part_A (es := Addr.enc y.client) Try.isAgg24 Try.sizeOf24 rfl) (eqv24 d x.client y.client w (ble_trans hd rfl)) ?_
  refine eqf_cons (a := .agg (Key.enc x.service).toArray) (b := .agg (Key.enc y.service).toArray) rfl (part_A (es := Key.enc x.service) Try.isAgg26 Try.sizeOf26 rfl) (part_A (es := Key.enc y.service) Try.isAgg26 Try.sizeOf26 rfl) (eqv26 d x.service y.service w (ble_trans hd rfl)) ?_
  refine eqf_cons (a := Value.string x.name) (b := Value.string y.name) rfl (part_S Try.isAgg9 rfl) (part_S Try.isAgg9 rfl) (eqv9 d x.name y.name w (ble_trans hd rfl)) ?_
  refine eqf_cons (a := Value.bool x.localF) (b := Value.bool y.localF) rfl (part_S Try.isAgg4 rfl) (part_S Try.isAgg4 rfl) (eqv4 d x.localF y.localF w (ble_trans hd rfl)) ?_
  exact eqf_nil
theorem kv4 : KeyV Try.prog 4 Value.bool 1 := KeyV.bool Try.underlying4
theorem kv5 : KeyV Try.prog 5 (Value.int .u8) 1 := KeyV.int Try.underlying5
theorem kv22 : KeyV Try.prog 22 (fun x => Value.agg (A16u8.enc x).toArray) 2 := fun b d x w hd => KeyV.arr (val := (Value.int .u8)) Try.underlying22 Try.sizeOf5 Try.isAgg5 kv5 b d (A16u8.list x) w rfl hd
theorem kv24 : KeyV Try.prog 24 (fun x => Value.agg (Addr.enc x).toArray) 3 := KeyV.struct (n := 2) (val := Addr.enc) Try.underlying24 fun b d x w hd => fc_cons ⟨_, part_S Try.isAgg4 rfl, kv4 b d x.six w (ble_trans hd rfl)⟩ (fc_cons ⟨_, part_A (es := A16u8.enc x.b) Try.isAgg22 Try.sizeOf22 rfl, kv22 b d x.b w (ble_trans hd rfl)⟩ (fc_nil))
theorem kv9 : KeyV Try.prog 9 Value.string 1 := KeyV.string Try.underlying9
theorem kv26 : KeyV Try.prog 26 (fun x => Value.agg (Key.enc x).toArray) 2 := KeyV.struct (n := 1) (val := Key.enc) Try.underlying26 fun b d x w hd => fc_cons ⟨_, part_S Try.isAgg9 rfl, kv9 b d x.space w (ble_trans hd rfl)⟩ (fc_cons ⟨_, part_S Try.isAgg9 rfl, kv9 b d x.name w (ble_trans hd rfl)⟩ (fc_nil))
theorem kv79 : KeyV Try.prog 79 (fun x => Value.agg (Place.enc x).toArray) 4 := KeyV.struct (n := 3) (val := Place.enc) Try.underlying79 fun b d x w hd => fc_cons ⟨_, part_A (es := Addr.enc x.client) Try.isAgg24 Try.sizeOf24 rfl, kv24 b d x.client w (ble_trans hd rfl)⟩ (fc_cons ⟨_, part_A (es := Key.enc x.service) Try.isAgg26 Try.sizeOf26 rfl, kv26 b d x.service w (ble_trans hd rfl)⟩ (fc_cons ⟨_, part_S Try.isAgg9 rfl, kv9 b d x.name w (ble_trans hd rfl)⟩ (fc_cons ⟨_, part_S Try.isAgg4 rfl, kv4 b d x.localF w (ble_trans hd rfl)⟩ (fc_nil))))
theorem kt79 : KeyT Try.prog 79 (fun x => Value.agg (Place.enc x).toArray) := KeyT.agg (val := Place.enc) Try.underlying79 eqv79 kv79 rfl rfl (fun x => rfl)
theorem eql24 (x y : Addr) : BinRun Try.prog .eql 24 (.agg (Addr.enc x).toArray) (.agg (Addr.enc y).toArray) (.bool (decide (x = y))) := EqV.eql eqv24 Try.eqGuardType24 rfl x y
theorem neq24 (x y : Addr) : BinRun Try.prog .neq 24 (.agg (Addr.enc x).toArray) (.agg (Addr.enc y).toArray) (.bool (!decide (x = y))) := EqV.neq eqv24 Try.eqGuardType24 rfl x y
theorem eql26 (x y : Key) : BinRun Try.prog .eql 26 (.agg (Key.enc x).toArray) (.agg (Key.enc y).toArray) (.bool (decide (x = y))) := EqV.eql eqv26 Try.eqGuardType26 rfl x y
theorem neq26 (x y : Key) : BinRun Try.prog .neq 26 (.agg (Key.enc x).toArray) (.agg (Key.enc y).toArray) (.bool (!decide (x = y))) := EqV.neq eqv26 Try.eqGuardType26 rfl x y
theorem eqv3 : EqV Try.prog 3 (Value.int .i64) 1 := EqV.int Try.underlying3
theorem eqv28 : EqV Try.prog 28 (fun x => Value.agg (Point.enc x).toArray) 4 := by
  refine EqV.struct (val := Point.enc) Try.underlying28 Try.stoodInHeld28 fun d x y w hd => ?_
  refine Eq.trans (b := .ok (decide (x.addr = y.addr) && (decide (x.port = y.port) && true)) w) ?_ (by cases x; cases y; simp)
  refine eqf_cons (a := .agg (Addr.enc x.addr).toArray) (b := .agg (Addr.enc y.addr).toArray) rfl (part_A (es := Addr.enc x.addr) Try.isAgg24 Try.sizeOf24 rfl) (part_A (es := Addr.enc y.addr) Try.isAgg24 Try.sizeOf24 rfl) (eqv24 d x.addr y.addr w (ble_trans hd rfl)) ?_
  refine eqf_cons (a := Value.int .i64 x.port) (b := Value.int .i64 y.port) rfl (part_S Try.isAgg3 rfl) (part_S Try.isAgg3 rfl) (eqv3 d x.port y.port w (ble_trans hd rfl)) ?_
  exact eqf_nil
theorem eql28 (x y : Point) : BinRun Try.prog .eql 28 (.agg (Point.enc x).toArray) (.agg (Point.enc y).toArray) (.bool (decide (x = y))) := EqV.eql eqv28 Try.eqGuardType28 rfl x y
theorem neq28 (x y : Point) : BinRun Try.prog .neq 28 (.agg (Point.enc x).toArray) (.agg (Point.enc y).toArray) (.bool (!decide (x = y))) := EqV.neq eqv28 Try.eqGuardType28 rfl x y
theorem eqv37 : EqV Try.prog 37 (fun x => Value.agg (Tie.enc x).toArray) 5 := by
  refine EqV.struct (val := Tie.enc) Try.underlying37 Try.stoodInHeld37 fun d x y w hd => ?_
  refine Eq.trans (b := .ok (decide (x.client = y.client) && (decide (x.service = y.service) && (decide (x.name = y.name) && (decide (x.localF = y.localF) && (decide (x.backend = y.backend) && (decide (x.last = y.last) && true)))))) w) ?_ (by cases x; cases y; simp)
  refine eqf_cons (a := .agg (Addr.enc x.client).toArray) (b := .agg (Addr.enc y.client).toArray) rfl (part_A (es := Addr.enc x.client) Try.isAgg24 Try.sizeOf24 rfl) (part_A (es := Addr.enc y.client) Try.isAgg24 Try.sizeOf24 rfl) (eqv24 d x.client y.client w (ble_trans hd rfl)) ?_
  refine eqf_cons (a := .agg (Key.enc x.service).toArray) (b := .agg (Key.enc y.service).toArray) rfl (part_A (es := Key.enc x.service) Try.isAgg26 Try.sizeOf26 rfl) (part_A (es := Key.enc y.service) Try.isAgg26 Try.sizeOf26 rfl) (eqv26 d x.service y.service w (ble_trans hd rfl)) ?_
  refine eqf_cons (a := Value.string x.name) (b := Value.string y.name) rfl (part_S Try.isAgg9 rfl) (part_S Try.isAgg9 rfl) (eqv9 d x.name y.name w (ble_trans hd rfl)) ?_
  refine eqf_cons (a := Value.bool x.localF) (b := Value.bool y.localF) rfl (part_S Try.isAgg4 rfl) (part_S Try.isAgg4 rfl) (eqv4 d x.localF y.localF w (ble_trans hd rfl)) ?_
  refine eqf_cons (a := .agg (Point.enc x.backend).toArray) (b := .agg (Point.enc y.backend).toArray) rfl (part_A (es := Point.enc x.backend) Try.isAgg28 Try.sizeOf28 rfl) (part_A (es := Point.enc y.backend) Try.isAgg28 Try.sizeOf28 rfl) (eqv28 d x.backend y.backend w (ble_trans hd rfl)) ?_
  refine eqf_cons (a := Value.int .i64 x.last) (b := Value.int .i64 y.last) rfl (part_S Try.isAgg3 rfl) (part_S Try.isAgg3 rfl) (eqv3 d x.last y.last w (ble_trans hd rfl)) ?_
  exact eqf_nil
theorem eql37 (x y : Tie) : BinRun Try.prog .eql 37 (.agg (Tie.enc x).toArray) (.agg (Tie.enc y).toArray) (.bool (decide (x = y))) := EqV.eql eqv37 Try.eqGuardType37 rfl x y
theorem neq37 (x y : Tie) : BinRun Try.prog .neq 37 (.agg (Tie.enc x).toArray) (.agg (Tie.enc y).toArray) (.bool (!decide (x = y))) := EqV.neq eqv37 Try.eqGuardType37 rfl x y
end Go.Proofs.Ytokikdhilpebmaa
