/- How this program's data lie in cells. Written by a program of this session. -/
import Derived.Test.YtejkknmedebgnaaK15
import Derived.Test.YtejkknmedebgnaaY
import Derived.Test.YtejkknmedebgnaaProg
import Derived.KernelRfl
namespace Go.Proofs.Ytejkknmedebgnaa
open Go K
set_option linter.unusedVariables false
theorem mixed : Try.prog.follows .mixedOrders = true := by kernel_rfl
def A16u8.enc (x : A16u8) : List Value := [.int .u8 x.e0, .int .u8 x.e1, .int .u8 x.e2, .int .u8 x.e3, .int .u8 x.e4, .int .u8 x.e5, .int .u8 x.e6, .int .u8 x.e7, .int .u8 x.e8, .int .u8 x.e9, .int .u8 x.e10, .int .u8 x.e11, .int .u8 x.e12, .int .u8 x.e13, .int .u8 x.e14, .int .u8 x.e15]
def k_A16u8 : Kd A16u8 := Kd.pure 16 A16u8.enc (fun _ => rfl) fun _ => rfl
theorem k_A16u8_pos : 0 < k_A16u8.n := by decide
def Addr.enc (x : Addr) : List Value := [.bool x.six, .int .u8 x.b.e0, .int .u8 x.b.e1, .int .u8 x.b.e2, .int .u8 x.b.e3, .int .u8 x.b.e4, .int .u8 x.b.e5, .int .u8 x.b.e6, .int .u8 x.b.e7, .int .u8 x.b.e8, .int .u8 x.b.e9, .int .u8 x.b.e10, .int .u8 x.b.e11, .int .u8 x.b.e12, .int .u8 x.b.e13, .int .u8 x.b.e14, .int .u8 x.b.e15]
def k_Addr : Kd Addr := Kd.pure 17 Addr.enc (fun _ => rfl) fun _ => rfl
theorem k_Addr_pos : 0 < k_Addr.n := by decide
def Point.enc (x : Point) : List Value := [.bool x.addr.six, .int .u8 x.addr.b.e0, .int .u8 x.addr.b.e1, .int .u8 x.addr.b.e2, .int .u8 x.addr.b.e3, .int .u8 x.addr.b.e4, .int .u8 x.addr.b.e5, .int .u8 x.addr.b.e6, .int .u8 x.addr.b.e7, .int .u8 x.addr.b.e8, .int .u8 x.addr.b.e9, .int .u8 x.addr.b.e10, .int .u8 x.addr.b.e11, .int .u8 x.addr.b.e12, .int .u8 x.addr.b.e13, .int .u8 x.addr.b.e14, .int .u8 x.addr.b.e15, .int .i64 x.port]
def k_Point : Kd Point := Kd.pure 18 Point.enc (fun _ => rfl) fun _ => rfl
theorem k_Point_pos : 0 < k_Point.n := by decide
def Place.enc (x : Place) : List Value := [.int .i64 x.proto, .bool x.point.addr.six, .int .u8 x.point.addr.b.e0, .int .u8 x.point.addr.b.e1, .int .u8 x.point.addr.b.e2, .int .u8 x.point.addr.b.e3, .int .u8 x.point.addr.b.e4, .int .u8 x.point.addr.b.e5, .int .u8 x.point.addr.b.e6, .int .u8 x.point.addr.b.e7, .int .u8 x.point.addr.b.e8, .int .u8 x.point.addr.b.e9, .int .u8 x.point.addr.b.e10, .int .u8 x.point.addr.b.e11, .int .u8 x.point.addr.b.e12, .int .u8 x.point.addr.b.e13, .int .u8 x.point.addr.b.e14, .int .u8 x.point.addr.b.e15, .int .i64 x.point.port]
def k_Place : Kd Place := Kd.pure 19 Place.enc (fun _ => rfl) fun _ => rfl
theorem k_Place_pos : 0 < k_Place.n := by decide
def St72.enc (x : St72) : List Value := []
def k_St72 : Kd St72 := Kd.pure 0 St72.enc (fun _ => rfl) fun _ => rfl
def Face.enc (x : Face) : List Value := [.int .i64 x.proto, .bool x.point.addr.six, .int .u8 x.point.addr.b.e0, .int .u8 x.point.addr.b.e1, .int .u8 x.point.addr.b.e2, .int .u8 x.point.addr.b.e3, .int .u8 x.point.addr.b.e4, .int .u8 x.point.addr.b.e5, .int .u8 x.point.addr.b.e6, .int .u8 x.point.addr.b.e7, .int .u8 x.point.addr.b.e8, .int .u8 x.point.addr.b.e9, .int .u8 x.point.addr.b.e10, .int .u8 x.point.addr.b.e11, .int .u8 x.point.addr.b.e12, .int .u8 x.point.addr.b.e13, .int .u8 x.point.addr.b.e14, .int .u8 x.point.addr.b.e15, .int .i64 x.point.port, .string x.name, .int .i64 x.how, .bool x.localF, .bool x.asked]
def k_Face : Kd Face := Kd.pure 23 Face.enc (fun _ => rfl) fun _ => rfl
theorem k_Face_pos : 0 < k_Face.n := by decide
def Row_2.c (x : Row_2) (z0 z1 : Value) : List Value := [z0, z1]
def Key.enc (x : Key) : List Value := [.string x.space, .string x.name]
def k_Key : Kd Key := Kd.pure 2 Key.enc (fun _ => rfl) fun _ => rfl
theorem k_Key_pos : 0 < k_Key.n := by decide
def Cidr.enc (x : Cidr) : List Value := [.bool x.addr.six, .int .u8 x.addr.b.e0, .int .u8 x.addr.b.e1, .int .u8 x.addr.b.e2, .int .u8 x.addr.b.e3, .int .u8 x.addr.b.e4, .int .u8 x.addr.b.e5, .int .u8 x.addr.b.e6, .int .u8 x.addr.b.e7, .int .u8 x.addr.b.e8, .int .u8 x.addr.b.e9, .int .u8 x.addr.b.e10, .int .u8 x.addr.b.e11, .int .u8 x.addr.b.e12, .int .u8 x.addr.b.e13, .int .u8 x.addr.b.e14, .int .u8 x.addr.b.e15, .int .i64 x.bits]
def k_Cidr : Kd Cidr := Kd.pure 18 Cidr.enc (fun _ => rfl) fun _ => rfl
theorem k_Cidr_pos : 0 < k_Cidr.n := by decide
def Port.enc (x : Port) : List Value := [.string x.name, .int .i64 x.proto, .int .i64 x.port, .int .i64 x.outer]
def k_Port : Kd Port := Kd.pure 4 Port.enc (fun _ => rfl) fun _ => rfl
theorem k_Port_pos : 0 < k_Port.n := by decide
def Service.c (x : Service) (z0 z1 z2 z3 z4 : Value) : List Value := [.string x.key.space, .string x.key.name, .int .i64 x.kind, z0, z1, z2, z3, z4, .bool x.internalLocal, .bool x.externalLocal, .bool x.sticky, .int .i64 x.ticks, .bool x.hinted]
def k_Service : Kd Service := ⟨13, fun F w x cs => ∃ z0 z1 z2 z3 z4, cs = Service.c x z0 z1 z2 z3 z4 ∧ slRep k_Addr F w x.cluster z0 ∧ slRep k_Addr F w x.external z1 ∧ slRep k_Addr F w x.balancers z2 ∧ slRep k_Cidr F w x.ranges z3 ∧ slRep k_Port F w x.ports z4,
  fun ⟨_, _, _, _, _, h, _⟩ => by rw [h]; rfl, fun ⟨z0, z1, z2, z3, z4, h, h0, h1, h2, h3, h4⟩ hm => ⟨z0, z1, z2, z3, z4, h, slRep.mono k_Addr_pos h0 hm, slRep.mono k_Addr_pos h1 hm, slRep.mono k_Addr_pos h2 hm, slRep.mono k_Cidr_pos h3 hm, slRep.mono k_Port_pos h4 hm⟩,
  fun ⟨z0, z1, z2, z3, z4, h, h0, h1, h2, h3, h4⟩ v hv => by
    obtain ⟨a0, c0, e0⟩ := h0.shape
    obtain ⟨a1, c1, e1⟩ := h1.shape
    obtain ⟨a2, c2, e2⟩ := h2.shape
    obtain ⟨a3, c3, e3⟩ := h3.shape
    obtain ⟨a4, c4, e4⟩ := h4.shape
    rw [h, e0, e1, e2, e3, e4] at hv; exact all_one (l := Service.c _ _ _ _ _ _) rfl v hv⟩
theorem k_Service_pos : 0 < k_Service.n := by decide
def Node.c (x : Node) (z0 : Value) : List Value := [.string x.name, .string x.zone, z0]
def k_Node : Kd Node := ⟨3, fun F w x cs => ∃ z0, cs = Node.c x z0 ∧ slRep k_Addr F w x.addrs z0,
  fun ⟨_, h, _⟩ => by rw [h]; rfl, fun ⟨z0, h, h0⟩ hm => ⟨z0, h, slRep.mono k_Addr_pos h0 hm⟩,
  fun ⟨z0, h, h0⟩ v hv => by
    obtain ⟨a0, c0, e0⟩ := h0.shape
    rw [h, e0] at hv; exact all_one (l := Node.c _ _) rfl v hv⟩
theorem k_Node_pos : 0 < k_Node.n := by decide
theorem fa23_0 : FA Try.prog 23 0 0 := FA.mk Try.underlying23 rfl rfl rfl Try.sizeOf9 rfl
theorem fa23_1 : FA Try.prog 23 1 1 := FA.mk Try.underlying23 rfl rfl rfl Try.sizeOf9 rfl
theorem fa28_0 : FA Try.prog 28 0 0 := FA.mk Try.underlying28 rfl rfl rfl Try.sizeOf23 rfl
theorem fa28_1 : FA Try.prog 28 1 2 := FA.mk Try.underlying28 rfl rfl rfl Try.sizeOf3 rfl
theorem fa28_2 : FA Try.prog 28 2 3 := FA.mk Try.underlying28 rfl rfl rfl Try.sizeOf24 rfl
theorem fa28_3 : FA Try.prog 28 3 4 := FA.mk Try.underlying28 rfl rfl rfl Try.sizeOf24 rfl
theorem fa28_4 : FA Try.prog 28 4 5 := FA.mk Try.underlying28 rfl rfl rfl Try.sizeOf24 rfl
theorem fa28_5 : FA Try.prog 28 5 6 := FA.mk Try.underlying28 rfl rfl rfl Try.sizeOf25 rfl
theorem fa28_6 : FA Try.prog 28 6 7 := FA.mk Try.underlying28 rfl rfl rfl Try.sizeOf26 rfl
theorem fa28_7 : FA Try.prog 28 7 8 := FA.mk Try.underlying28 rfl rfl rfl Try.sizeOf4 rfl
theorem fa28_8 : FA Try.prog 28 8 9 := FA.mk Try.underlying28 rfl rfl rfl Try.sizeOf4 rfl
theorem fa28_9 : FA Try.prog 28 9 10 := FA.mk Try.underlying28 rfl rfl rfl Try.sizeOf4 rfl
theorem fa28_10 : FA Try.prog 28 10 11 := FA.mk Try.underlying28 rfl rfl rfl Try.sizeOf3 rfl
theorem fa28_11 : FA Try.prog 28 11 12 := FA.mk Try.underlying28 rfl rfl rfl Try.sizeOf4 rfl
theorem fa30_0 : FA Try.prog 30 0 0 := FA.mk Try.underlying30 rfl rfl rfl Try.sizeOf9 rfl
theorem fa30_1 : FA Try.prog 30 1 1 := FA.mk Try.underlying30 rfl rfl rfl Try.sizeOf9 rfl
theorem fa30_2 : FA Try.prog 30 2 2 := FA.mk Try.underlying30 rfl rfl rfl Try.sizeOf24 rfl
theorem fa38_0 : FA Try.prog 38 0 0 := FA.mk Try.underlying38 rfl rfl rfl Try.sizeOf4 rfl
theorem fa38_1 : FA Try.prog 38 1 1 := FA.mk Try.underlying38 rfl rfl rfl Try.sizeOf36 rfl
theorem fa40_0 : FA Try.prog 40 0 0 := FA.mk Try.underlying40 rfl rfl rfl Try.sizeOf38 rfl
theorem fa40_1 : FA Try.prog 40 1 17 := FA.mk Try.underlying40 rfl rfl rfl Try.sizeOf3 rfl
theorem fa42_0 : FA Try.prog 42 0 0 := FA.mk Try.underlying42 rfl rfl rfl Try.sizeOf3 rfl
theorem fa42_1 : FA Try.prog 42 1 1 := FA.mk Try.underlying42 rfl rfl rfl Try.sizeOf40 rfl
theorem fa42_2 : FA Try.prog 42 2 19 := FA.mk Try.underlying42 rfl rfl rfl Try.sizeOf9 rfl
theorem fa42_3 : FA Try.prog 42 3 20 := FA.mk Try.underlying42 rfl rfl rfl Try.sizeOf3 rfl
theorem fa42_4 : FA Try.prog 42 4 21 := FA.mk Try.underlying42 rfl rfl rfl Try.sizeOf4 rfl
theorem fa42_5 : FA Try.prog 42 5 22 := FA.mk Try.underlying42 rfl rfl rfl Try.sizeOf4 rfl
theorem fa49_2 : FA Try.prog 49 2 3 := FA.mk Try.underlying49 rfl rfl rfl Try.sizeOf24 rfl
theorem fa49_3 : FA Try.prog 49 3 4 := FA.mk Try.underlying49 rfl rfl rfl Try.sizeOf24 rfl
theorem fa49_4 : FA Try.prog 49 4 5 := FA.mk Try.underlying49 rfl rfl rfl Try.sizeOf24 rfl
theorem fa49_5 : FA Try.prog 49 5 6 := FA.mk Try.underlying49 rfl rfl rfl Try.sizeOf25 rfl
theorem fa49_6 : FA Try.prog 49 6 7 := FA.mk Try.underlying49 rfl rfl rfl Try.sizeOf47 rfl
theorem fa49_7 : FA Try.prog 49 7 8 := FA.mk Try.underlying49 rfl rfl rfl Try.sizeOf4 rfl
theorem fa49_8 : FA Try.prog 49 8 9 := FA.mk Try.underlying49 rfl rfl rfl Try.sizeOf4 rfl
theorem fa51_2 : FA Try.prog 51 2 2 := FA.mk Try.underlying51 rfl rfl rfl Try.sizeOf24 rfl
theorem fa55_0 : FA Try.prog 55 0 0 := FA.mk Try.underlying55 rfl rfl rfl Try.sizeOf9 rfl
theorem fa55_1 : FA Try.prog 55 1 1 := FA.mk Try.underlying55 rfl rfl rfl Try.sizeOf3 rfl
theorem fa55_2 : FA Try.prog 55 2 2 := FA.mk Try.underlying55 rfl rfl rfl Try.sizeOf3 rfl
theorem fa55_3 : FA Try.prog 55 3 3 := FA.mk Try.underlying55 rfl rfl rfl Try.sizeOf3 rfl
theorem fa59_0 : FA Try.prog 59 0 0 := FA.mk Try.underlying59 rfl rfl rfl Try.sizeOf57 rfl
theorem fa59_1 : FA Try.prog 59 1 1 := FA.mk Try.underlying59 rfl rfl rfl Try.sizeOf34 rfl
theorem fa62_0 : FA Try.prog 62 0 0 := FA.mk Try.underlying62 rfl rfl rfl Try.sizeOf3 rfl
theorem fa62_1 : FA Try.prog 62 1 1 := FA.mk Try.underlying62 rfl rfl rfl Try.sizeOf40 rfl
theorem fa62_2 : FA Try.prog 62 2 19 := FA.mk Try.underlying62 rfl rfl rfl Try.sizeOf9 rfl
theorem fa62_3 : FA Try.prog 62 3 20 := FA.mk Try.underlying62 rfl rfl rfl Try.sizeOf3 rfl
theorem fa62_4 : FA Try.prog 62 4 21 := FA.mk Try.underlying62 rfl rfl rfl Try.sizeOf4 rfl
theorem fa62_5 : FA Try.prog 62 5 22 := FA.mk Try.underlying62 rfl rfl rfl Try.sizeOf4 rfl
theorem fa63_0 : FA Try.prog 63 0 0 := FA.mk Try.underlying63 rfl rfl rfl Try.sizeOf9 rfl
theorem fa63_1 : FA Try.prog 63 1 1 := FA.mk Try.underlying63 rfl rfl rfl Try.sizeOf3 rfl
theorem fa63_2 : FA Try.prog 63 2 2 := FA.mk Try.underlying63 rfl rfl rfl Try.sizeOf3 rfl
theorem fa63_3 : FA Try.prog 63 3 3 := FA.mk Try.underlying63 rfl rfl rfl Try.sizeOf3 rfl
theorem pl28 : Places Try.prog 28 [(0, 2), (2, 1), (3, 1), (4, 1), (5, 1), (6, 1), (7, 1), (8, 1), (9, 1), (10, 1), (11, 1), (12, 1)] := ⟨_, Try.underlying28, fun w => by simp [Try.sizeOf23, Try.sizeOf24, Try.sizeOf25, Try.sizeOf26, Try.sizeOf3, Try.sizeOf4]⟩
theorem pl30 : Places Try.prog 30 [(0, 1), (1, 1), (2, 1)] := ⟨_, Try.underlying30, fun w => by simp [Try.sizeOf24, Try.sizeOf9]⟩
theorem pl38 : Places Try.prog 38 [(0, 1), (1, 16)] := ⟨_, Try.underlying38, fun w => by simp [Try.sizeOf36, Try.sizeOf4]⟩
theorem pl40 : Places Try.prog 40 [(0, 17), (17, 1)] := ⟨_, Try.underlying40, fun w => by simp [Try.sizeOf3, Try.sizeOf38]⟩
theorem pl42 : Places Try.prog 42 [(0, 1), (1, 18), (19, 1), (20, 1), (21, 1), (22, 1)] := ⟨_, Try.underlying42, fun w => by simp [Try.sizeOf3, Try.sizeOf4, Try.sizeOf40, Try.sizeOf9]⟩
theorem pl49 : Places Try.prog 49 [(0, 2), (2, 1), (3, 1), (4, 1), (5, 1), (6, 1), (7, 1), (8, 1), (9, 1), (10, 1), (11, 1), (12, 1)] := ⟨_, Try.underlying49, fun w => by simp [Try.sizeOf23, Try.sizeOf24, Try.sizeOf25, Try.sizeOf3, Try.sizeOf4, Try.sizeOf47]⟩
theorem pl55 : Places Try.prog 55 [(0, 1), (1, 1), (2, 1), (3, 1)] := ⟨_, Try.underlying55, fun w => by simp [Try.sizeOf3, Try.sizeOf9]⟩
theorem pl59 : Places Try.prog 59 [(0, 1), (1, 1)] := ⟨_, Try.underlying59, fun w => by simp [Try.sizeOf34, Try.sizeOf57]⟩
theorem pl62 : Places Try.prog 62 [(0, 1), (1, 18), (19, 1), (20, 1), (21, 1), (22, 1)] := ⟨_, Try.underlying62, fun w => by simp [Try.sizeOf3, Try.sizeOf4, Try.sizeOf40, Try.sizeOf9]⟩
theorem pl71 : Places Try.prog 71 [(0, 1), (1, 18)] := ⟨_, Try.underlying71, fun w => by simp [Try.sizeOf3, Try.sizeOf40]⟩
theorem pl72 : Places Try.prog 72 [] := ⟨_, Try.underlying72, fun w => by simp []⟩
theorem ap34 : AppT Try.prog 34 42 23 := AppT.of (z := Value.agg #[.int .i64 0, .bool false, .int .u8 0, .int .u8 0, .int .u8 0, .int .u8 0, .int .u8 0, .int .u8 0, .int .u8 0, .int .u8 0, .int .u8 0, .int .u8 0, .int .u8 0, .int .u8 0, .int .u8 0, .int .u8 0, .int .u8 0, .int .u8 0, .int .i64 0, .string ⟨#[]⟩, .int .i64 0, .bool false, .bool false]) (by' := 72) Try.underlying34 (by kernel_rfl) rfl rfl
theorem ap44 : AppT Try.prog 44 62 23 := AppT.of (z := Value.agg #[.int .i64 0, .bool false, .int .u8 0, .int .u8 0, .int .u8 0, .int .u8 0, .int .u8 0, .int .u8 0, .int .u8 0, .int .u8 0, .int .u8 0, .int .u8 0, .int .u8 0, .int .u8 0, .int .u8 0, .int .u8 0, .int .u8 0, .int .u8 0, .int .i64 0, .string ⟨#[]⟩, .int .i64 0, .bool false, .bool false]) (by' := 72) Try.underlying44 (by kernel_rfl) rfl rfl
theorem ap47 : AppT Try.prog 47 63 4 := AppT.of (z := Value.agg #[.string ⟨#[]⟩, .int .i64 0, .int .i64 0, .int .i64 0]) (by' := 40) Try.underlying47 (by kernel_rfl) rfl rfl
theorem en4 : Enters Try.prog 4 := enters_of Try.func4 rfl rfl
theorem en5 : Enters Try.prog 5 := enters_of Try.func5 rfl rfl
theorem en6 : Enters Try.prog 6 := enters_of Try.func6 rfl rfl
theorem en7 : Enters Try.prog 7 := enters_of Try.func7 rfl rfl
theorem en8 : Enters Try.prog 8 := enters_of Try.func8 rfl rfl
theorem en9 : Enters Try.prog 9 := enters_of Try.func9 rfl rfl
theorem en10 : Enters Try.prog 10 := enters_of Try.func10 rfl rfl
theorem en11 : Enters Try.prog 11 := enters_of Try.func11 rfl rfl
theorem en12 : Enters Try.prog 12 := enters_of Try.func12 rfl rfl
theorem en13 : Enters Try.prog 13 := enters_of Try.func13 rfl rfl
theorem en14 : Enters Try.prog 14 := enters_of Try.func14 rfl rfl
theorem en15 : Enters Try.prog 15 := enters_of Try.func15 rfl rfl
theorem en16 : Enters Try.prog 16 := enters_of Try.func16 rfl rfl
theorem en17 : Enters Try.prog 17 := enters_of Try.func17 rfl rfl
theorem en18 : Enters Try.prog 18 := enters_of Try.func18 rfl rfl
theorem en19 : Enters Try.prog 19 := enters_of Try.func19 rfl rfl
theorem en20 : Enters Try.prog 20 := enters_of Try.func20 rfl rfl
theorem en21 : Enters Try.prog 21 := enters_of Try.func21 rfl rfl
theorem en22 : Enters Try.prog 22 := enters_of Try.func22 rfl rfl
theorem en25 : Enters Try.prog 25 := enters_of Try.func25 rfl rfl
theorem en26 : Enters Try.prog 26 := enters_of Try.func26 rfl rfl
theorem en27 : Enters Try.prog 27 := enters_of Try.func27 rfl rfl
theorem en28 : Enters Try.prog 28 := enters_of Try.func28 rfl rfl
theorem en29 : Enters Try.prog 29 := enters_of Try.func29 rfl rfl
theorem en30 : Enters Try.prog 30 := enters_of Try.func30 rfl rfl
theorem en31 : Enters Try.prog 31 := enters_of Try.func31 rfl rfl
theorem en32 : Enters Try.prog 32 := enters_of Try.func32 rfl rfl
theorem en43 : Enters Try.prog 43 := enters_of Try.func43 rfl rfl
theorem en44 : Enters Try.prog 44 := enters_of Try.func44 rfl rfl
theorem en45 : Enters Try.prog 45 := enters_of Try.func45 rfl rfl
theorem en46 : Enters Try.prog 46 := enters_of Try.func46 rfl rfl
theorem en52 : Enters Try.prog 52 := enters_of Try.func52 rfl rfl
theorem eqv3 : EqV Try.prog 3 (Value.int .i64) 1 := EqV.int Try.underlying3
theorem eqv4 : EqV Try.prog 4 Value.bool 1 := EqV.bool Try.underlying4
theorem eqv5 : EqV Try.prog 5 (Value.int .u8) 1 := EqV.int Try.underlying5
theorem eqv36 : EqV Try.prog 36 (fun x => Value.agg (A16u8.enc x).toArray) 2 := fun d x y w hd => (eq_arr (val := (Value.int .u8)) Try.underlying36 Try.sizeOf5 Try.isAgg5 eqv5 d [x.e0, x.e1, x.e2, x.e3, x.e4, x.e5, x.e6, x.e7, x.e8, x.e9, x.e10, x.e11, x.e12, x.e13, x.e14, x.e15] [y.e0, y.e1, y.e2, y.e3, y.e4, y.e5, y.e6, y.e7, y.e8, y.e9, y.e10, y.e11, y.e12, y.e13, y.e14, y.e15] w rfl rfl hd).trans (congrArg (Result.ok · w) (by cases x; cases y; simp))
theorem eqv38 : EqV Try.prog 38 (fun x => Value.agg (Addr.enc x).toArray) 3 := by
  refine EqV.struct (val := Addr.enc) Try.underlying38 Try.stoodInHeld38 fun d x y w hd => ?_
  refine Eq.trans (b := .ok (decide (x.six = y.six) && (decide (x.b = y.b) && true)) w) ?_ (by cases x; cases y; simp)
  refine eqf_cons (a := Value.bool x.six) (b := Value.bool y.six) rfl (part_S Try.isAgg4 rfl) (part_S Try.isAgg4 rfl) (eqv4 d x.six y.six w (ble_trans hd rfl)) ?_
  refine eqf_cons (a := .agg (A16u8.enc x.b).toArray) (b := .agg (A16u8.enc y.b).toArray) rfl (part_A (es := A16u8.enc x.b) Try.isAgg36 Try.sizeOf36 rfl) (part_A (es := A16u8.enc y.b) Try.isAgg36 Try.sizeOf36 rfl) (eqv36 d x.b y.b w (ble_trans hd rfl)) ?_
  exact eqf_nil
theorem eqv40 : EqV Try.prog 40 (fun x => Value.agg (Point.enc x).toArray) 4 := by
  refine EqV.struct (val := Point.enc) Try.underlying40 Try.stoodInHeld40 fun d x y w hd => ?_
  refine Eq.trans (b := .ok (decide (x.addr = y.addr) && (decide (x.port = y.port) && true)) w) ?_ (by cases x; cases y; simp)
  refine eqf_cons (a := .agg (Addr.enc x.addr).toArray) (b := .agg (Addr.enc y.addr).toArray) rfl (part_A (es := Addr.enc x.addr) Try.isAgg38 Try.sizeOf38 rfl) (part_A (es := Addr.enc y.addr) Try.isAgg38 Try.sizeOf38 rfl) (eqv38 d x.addr y.addr w (ble_trans hd rfl)) ?_
  refine eqf_cons (a := Value.int .i64 x.port) (b := Value.int .i64 y.port) rfl (part_S Try.isAgg3 rfl) (part_S Try.isAgg3 rfl) (eqv3 d x.port y.port w (ble_trans hd rfl)) ?_
  exact eqf_nil
theorem eqv71 : EqV Try.prog 71 (fun x => Value.agg (Place.enc x).toArray) 5 := by
  refine EqV.struct (val := Place.enc) Try.underlying71 Try.stoodInHeld71 fun d x y w hd => ?_
  refine Eq.trans (b := .ok (decide (x.proto = y.proto) && (decide (x.point = y.point) && true)) w) ?_ (by cases x; cases y; simp)
  refine eqf_cons (a := Value.int .i64 x.proto) (b := Value.int .i64 y.proto) rfl (part_S Try.isAgg3 rfl) (part_S Try.isAgg3 rfl) (eqv3 d x.proto y.proto w (ble_trans hd rfl)) ?_
  refine eqf_cons (a := .agg (Point.enc x.point).toArray) (b := .agg (Point.enc y.point).toArray) rfl (part_A (es := Point.enc x.point) Try.isAgg40 Try.sizeOf40 rfl) (part_A (es := Point.enc y.point) Try.isAgg40 Try.sizeOf40 rfl) (eqv40 d x.point y.point w (ble_trans hd rfl)) ?_
  exact eqf_nil
theorem kv3 : KeyV Try.prog 3 (Value.int .i64) 1 := KeyV.int Try.underlying3
theorem kv4 : KeyV Try.prog 4 Value.bool 1 := KeyV.bool Try.underlying4
theorem kv5 : KeyV Try.prog 5 (Value.int .u8) 1 := KeyV.int Try.underlying5
theorem kv36 : KeyV Try.prog 36 (fun x => Value.agg (A16u8.enc x).toArray) 2 := fun b d x w hd => KeyV.arr (val := (Value.int .u8)) Try.underlying36 Try.sizeOf5 Try.isAgg5 kv5 b d (A16u8.list x) w rfl hd
theorem kv38 : KeyV Try.prog 38 (fun x => Value.agg (Addr.enc x).toArray) 3 := KeyV.struct (n := 2) (val := Addr.enc) Try.underlying38 fun b d x w hd => fc_cons ⟨_, part_S Try.isAgg4 rfl, kv4 b d x.six w (ble_trans hd rfl)⟩ (fc_cons ⟨_, part_A (es := A16u8.enc x.b) Try.isAgg36 Try.sizeOf36 rfl, kv36 b d x.b w (ble_trans hd rfl)⟩ (fc_nil))
theorem kv40 : KeyV Try.prog 40 (fun x => Value.agg (Point.enc x).toArray) 4 := KeyV.struct (n := 3) (val := Point.enc) Try.underlying40 fun b d x w hd => fc_cons ⟨_, part_A (es := Addr.enc x.addr) Try.isAgg38 Try.sizeOf38 rfl, kv38 b d x.addr w (ble_trans hd rfl)⟩ (fc_cons ⟨_, part_S Try.isAgg3 rfl, kv3 b d x.port w (ble_trans hd rfl)⟩ (fc_nil))
theorem kv71 : KeyV Try.prog 71 (fun x => Value.agg (Place.enc x).toArray) 5 := KeyV.struct (n := 4) (val := Place.enc) Try.underlying71 fun b d x w hd => fc_cons ⟨_, part_S Try.isAgg3 rfl, kv3 b d x.proto w (ble_trans hd rfl)⟩ (fc_cons ⟨_, part_A (es := Point.enc x.point) Try.isAgg40 Try.sizeOf40 rfl, kv40 b d x.point w (ble_trans hd rfl)⟩ (fc_nil))
theorem kt71 : KeyT Try.prog 71 (fun x => Value.agg (Place.enc x).toArray) := KeyT.agg (val := Place.enc) Try.underlying71 eqv71 kv71 rfl rfl (fun x => rfl)
theorem eql40 (x y : Point) : BinRun Try.prog .eql 40 (.agg (Point.enc x).toArray) (.agg (Point.enc y).toArray) (.bool (decide (x = y))) := EqV.eql eqv40 Try.eqGuardType40 rfl x y
theorem neq40 (x y : Point) : BinRun Try.prog .neq 40 (.agg (Point.enc x).toArray) (.agg (Point.enc y).toArray) (.bool (!decide (x = y))) := EqV.neq eqv40 Try.eqGuardType40 rfl x y
theorem eqv9 : EqV Try.prog 9 Value.string 1 := EqV.string Try.underlying9
theorem eqv42 : EqV Try.prog 42 (fun x => Value.agg (Face.enc x).toArray) 5 := by
  refine EqV.struct (val := Face.enc) Try.underlying42 Try.stoodInHeld42 fun d x y w hd => ?_
  refine Eq.trans (b := .ok (decide (x.proto = y.proto) && (decide (x.point = y.point) && (decide (x.name = y.name) && (decide (x.how = y.how) && (decide (x.localF = y.localF) && (decide (x.asked = y.asked) && true)))))) w) ?_ (by cases x; cases y; simp)
  refine eqf_cons (a := Value.int .i64 x.proto) (b := Value.int .i64 y.proto) rfl (part_S Try.isAgg3 rfl) (part_S Try.isAgg3 rfl) (eqv3 d x.proto y.proto w (ble_trans hd rfl)) ?_
  refine eqf_cons (a := .agg (Point.enc x.point).toArray) (b := .agg (Point.enc y.point).toArray) rfl (part_A (es := Point.enc x.point) Try.isAgg40 Try.sizeOf40 rfl) (part_A (es := Point.enc y.point) Try.isAgg40 Try.sizeOf40 rfl) (eqv40 d x.point y.point w (ble_trans hd rfl)) ?_
  refine eqf_cons (a := Value.string x.name) (b := Value.string y.name) rfl (part_S Try.isAgg9 rfl) (part_S Try.isAgg9 rfl) (eqv9 d x.name y.name w (ble_trans hd rfl)) ?_
  refine eqf_cons (a := Value.int .i64 x.how) (b := Value.int .i64 y.how) rfl (part_S Try.isAgg3 rfl) (part_S Try.isAgg3 rfl) (eqv3 d x.how y.how w (ble_trans hd rfl)) ?_
  refine eqf_cons (a := Value.bool x.localF) (b := Value.bool y.localF) rfl (part_S Try.isAgg4 rfl) (part_S Try.isAgg4 rfl) (eqv4 d x.localF y.localF w (ble_trans hd rfl)) ?_
  refine eqf_cons (a := Value.bool x.asked) (b := Value.bool y.asked) rfl (part_S Try.isAgg4 rfl) (part_S Try.isAgg4 rfl) (eqv4 d x.asked y.asked w (ble_trans hd rfl)) ?_
  exact eqf_nil
theorem eql42 (x y : Face) : BinRun Try.prog .eql 42 (.agg (Face.enc x).toArray) (.agg (Face.enc y).toArray) (.bool (decide (x = y))) := EqV.eql eqv42 Try.eqGuardType42 rfl x y
theorem neq42 (x y : Face) : BinRun Try.prog .neq 42 (.agg (Face.enc x).toArray) (.agg (Face.enc y).toArray) (.bool (!decide (x = y))) := EqV.neq eqv42 Try.eqGuardType42 rfl x y
theorem eqv62 : EqV Try.prog 62 (fun x => Value.agg (Face.enc x).toArray) 5 := by
  refine EqV.struct (val := Face.enc) Try.underlying62 Try.stoodInHeld62 fun d x y w hd => ?_
  refine Eq.trans (b := .ok (decide (x.proto = y.proto) && (decide (x.point = y.point) && (decide (x.name = y.name) && (decide (x.how = y.how) && (decide (x.localF = y.localF) && (decide (x.asked = y.asked) && true)))))) w) ?_ (by cases x; cases y; simp)
  refine eqf_cons (a := Value.int .i64 x.proto) (b := Value.int .i64 y.proto) rfl (part_S Try.isAgg3 rfl) (part_S Try.isAgg3 rfl) (eqv3 d x.proto y.proto w (ble_trans hd rfl)) ?_
  refine eqf_cons (a := .agg (Point.enc x.point).toArray) (b := .agg (Point.enc y.point).toArray) rfl (part_A (es := Point.enc x.point) Try.isAgg40 Try.sizeOf40 rfl) (part_A (es := Point.enc y.point) Try.isAgg40 Try.sizeOf40 rfl) (eqv40 d x.point y.point w (ble_trans hd rfl)) ?_
  refine eqf_cons (a := Value.string x.name) (b := Value.string y.name) rfl (part_S Try.isAgg9 rfl) (part_S Try.isAgg9 rfl) (eqv9 d x.name y.name w (ble_trans hd rfl)) ?_
  refine eqf_cons (a := Value.int .i64 x.how) (b := Value.int .i64 y.how) rfl (part_S Try.isAgg3 rfl) (part_S Try.isAgg3 rfl) (eqv3 d x.how y.how w (ble_trans hd rfl)) ?_
  refine eqf_cons (a := Value.bool x.localF) (b := Value.bool y.localF) rfl (part_S Try.isAgg4 rfl) (part_S Try.isAgg4 rfl) (eqv4 d x.localF y.localF w (ble_trans hd rfl)) ?_
  refine eqf_cons (a := Value.bool x.asked) (b := Value.bool y.asked) rfl (part_S Try.isAgg4 rfl) (part_S Try.isAgg4 rfl) (eqv4 d x.asked y.asked w (ble_trans hd rfl)) ?_
  exact eqf_nil
theorem eql62 (x y : Face) : BinRun Try.prog .eql 62 (.agg (Face.enc x).toArray) (.agg (Face.enc y).toArray) (.bool (decide (x = y))) := EqV.eql eqv62 Try.eqGuardType62 rfl x y
theorem neq62 (x y : Face) : BinRun Try.prog .neq 62 (.agg (Face.enc x).toArray) (.agg (Face.enc y).toArray) (.bool (!decide (x = y))) := EqV.neq eqv62 Try.eqGuardType62 rfl x y
end Go.Proofs.Ytejkknmedebgnaa
