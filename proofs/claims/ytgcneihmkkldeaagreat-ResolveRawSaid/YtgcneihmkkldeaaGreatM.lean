/- How this program's data lie in cells. Written by a program of this session. -/
import Derived.Test.YtgcneihmkkldeaaGreatK15
import Derived.Test.YtgcneihmkkldeaaGreatY
import Derived.Test.YtgcneihmkkldeaaGreatProg
import Derived.KernelRfl
namespace Go.Proofs.YtgcneihmkkldeaaGreat
open Go K
set_option linter.unusedVariables false
theorem mixed : Tryz.prog.follows .mixedOrders = true := by kernel_rfl
def A16u8.enc (x : A16u8) : List Value := [.int .u8 x.e0, .int .u8 x.e1, .int .u8 x.e2, .int .u8 x.e3, .int .u8 x.e4, .int .u8 x.e5, .int .u8 x.e6, .int .u8 x.e7, .int .u8 x.e8, .int .u8 x.e9, .int .u8 x.e10, .int .u8 x.e11, .int .u8 x.e12, .int .u8 x.e13, .int .u8 x.e14, .int .u8 x.e15]
def k_A16u8 : Kd A16u8 := Kd.pure 16 A16u8.enc (fun _ => rfl) fun _ => rfl
def Addr.enc (x : Addr) : List Value := [.bool x.six, .int .u8 x.b.e0, .int .u8 x.b.e1, .int .u8 x.b.e2, .int .u8 x.b.e3, .int .u8 x.b.e4, .int .u8 x.b.e5, .int .u8 x.b.e6, .int .u8 x.b.e7, .int .u8 x.b.e8, .int .u8 x.b.e9, .int .u8 x.b.e10, .int .u8 x.b.e11, .int .u8 x.b.e12, .int .u8 x.b.e13, .int .u8 x.b.e14, .int .u8 x.b.e15]
def k_Addr : Kd Addr := Kd.pure 17 Addr.enc (fun _ => rfl) fun _ => rfl
theorem k_Addr_pos : 0 < k_Addr.n := by decide
def Point.enc (x : Point) : List Value := [.bool x.addr.six, .int .u8 x.addr.b.e0, .int .u8 x.addr.b.e1, .int .u8 x.addr.b.e2, .int .u8 x.addr.b.e3, .int .u8 x.addr.b.e4, .int .u8 x.addr.b.e5, .int .u8 x.addr.b.e6, .int .u8 x.addr.b.e7, .int .u8 x.addr.b.e8, .int .u8 x.addr.b.e9, .int .u8 x.addr.b.e10, .int .u8 x.addr.b.e11, .int .u8 x.addr.b.e12, .int .u8 x.addr.b.e13, .int .u8 x.addr.b.e14, .int .u8 x.addr.b.e15, .int .i64 x.port]
def k_Point : Kd Point := Kd.pure 18 Point.enc (fun _ => rfl) fun _ => rfl
theorem k_Point_pos : 0 < k_Point.n := by decide
def Place.enc (x : Place) : List Value := [.int .i64 x.proto, .bool x.point.addr.six, .int .u8 x.point.addr.b.e0, .int .u8 x.point.addr.b.e1, .int .u8 x.point.addr.b.e2, .int .u8 x.point.addr.b.e3, .int .u8 x.point.addr.b.e4, .int .u8 x.point.addr.b.e5, .int .u8 x.point.addr.b.e6, .int .u8 x.point.addr.b.e7, .int .u8 x.point.addr.b.e8, .int .u8 x.point.addr.b.e9, .int .u8 x.point.addr.b.e10, .int .u8 x.point.addr.b.e11, .int .u8 x.point.addr.b.e12, .int .u8 x.point.addr.b.e13, .int .u8 x.point.addr.b.e14, .int .u8 x.point.addr.b.e15, .int .i64 x.point.port]
def k_Place : Kd Place := Kd.pure 19 Place.enc (fun _ => rfl) fun _ => rfl
def St85.enc (x : St85) : List Value := []
def k_St85 : Kd St85 := Kd.pure 0 St85.enc (fun _ => rfl) fun _ => rfl
def Face.enc (x : Face) : List Value := [.int .i64 x.proto, .bool x.point.addr.six, .int .u8 x.point.addr.b.e0, .int .u8 x.point.addr.b.e1, .int .u8 x.point.addr.b.e2, .int .u8 x.point.addr.b.e3, .int .u8 x.point.addr.b.e4, .int .u8 x.point.addr.b.e5, .int .u8 x.point.addr.b.e6, .int .u8 x.point.addr.b.e7, .int .u8 x.point.addr.b.e8, .int .u8 x.point.addr.b.e9, .int .u8 x.point.addr.b.e10, .int .u8 x.point.addr.b.e11, .int .u8 x.point.addr.b.e12, .int .u8 x.point.addr.b.e13, .int .u8 x.point.addr.b.e14, .int .u8 x.point.addr.b.e15, .int .i64 x.point.port, .string x.name, .int .i64 x.how, .bool x.localF, .bool x.asked]
def k_Face : Kd Face := Kd.pure 23 Face.enc (fun _ => rfl) fun _ => rfl
theorem k_Face_pos : 0 < k_Face.n := by decide
def Row_2.c (x : Row_2) (z0 z1 : Value) : List Value := [z0, z1]
def Key.enc (x : Key) : List Value := [.string x.space, .string x.name]
def k_Key : Kd Key := Kd.pure 2 Key.enc (fun _ => rfl) fun _ => rfl
def Cidr.enc (x : Cidr) : List Value := [.bool x.addr.six, .int .u8 x.addr.b.e0, .int .u8 x.addr.b.e1, .int .u8 x.addr.b.e2, .int .u8 x.addr.b.e3, .int .u8 x.addr.b.e4, .int .u8 x.addr.b.e5, .int .u8 x.addr.b.e6, .int .u8 x.addr.b.e7, .int .u8 x.addr.b.e8, .int .u8 x.addr.b.e9, .int .u8 x.addr.b.e10, .int .u8 x.addr.b.e11, .int .u8 x.addr.b.e12, .int .u8 x.addr.b.e13, .int .u8 x.addr.b.e14, .int .u8 x.addr.b.e15, .int .i64 x.bits]
def k_Cidr : Kd Cidr := Kd.pure 18 Cidr.enc (fun _ => rfl) fun _ => rfl
theorem k_Cidr_pos : 0 < k_Cidr.n := by decide
def Port.enc (x : Port) : List Value := [.string x.name, .int .i64 x.proto, .int .i64 x.port, .int .i64 x.outer]
def k_Port : Kd Port := Kd.pure 4 Port.enc (fun _ => rfl) fun _ => rfl
theorem k_Port_pos : 0 < k_Port.n := by decide
def Service.c (x : Service) (z0 z1 z2 z3 z4 : Value) : List Value := [.string x.key.space, .string x.key.name, .int .i64 x.kind, z0, z1, z2, z3, z4, .bool x.internalLocal, .bool x.externalLocal, .bool x.sticky, .int .i64 x.ticks, .bool x.hinted]
def k_Service : Kd Service := ⟨13, fun F w x cs => ∃ z0 z1 z2 z3 z4, cs = Service.c x z0 z1 z2 z3 z4 ∧ slRep k_Addr F w x.cluster z0 ∧ slRep k_Addr F w x.external z1 ∧ slRep k_Addr F w x.balancers z2 ∧ slRep k_Cidr F w x.ranges z3 ∧ slRep k_Port F w x.ports z4,
  fun ⟨_, _, _, _, _, h, _⟩ => by rw [h]; rfl, fun ⟨z0, z1, z2, z3, z4, h, h0, h1, h2, h3, h4⟩ hm => ⟨z0, z1, z2, z3, z4, h, slRep.mono k_Addr_pos h0 hm, slRep.mono k_Addr_pos h1 hm, slRep.mono k_Addr_pos h2 hm, slRep.mono k_Cidr_pos h3 hm, slRep.mono k_Port_pos h4 hm⟩,
  fun ⟨z0, z1, z2, z3, z4, h, h0, h1, h2, h3, h4⟩ v hv => by
    obtain ⟨a0, c0, e0⟩ := h0.shape
    obtain ⟨a1, c1, e1⟩ := h1.shape
    obtain ⟨a2, c2, e2⟩ := h2.shape
    obtain ⟨a3, c3, e3⟩ := h3.shape
    obtain ⟨a4, c4, e4⟩ := h4.shape
    rw [h, e0, e1, e2, e3, e4] at hv; exact all_one (l := Service.c _ _ _ _ _ _) rfl v hv⟩
def Node.c (x : Node) (z0 : Value) : List Value := [.string x.name, .string x.zone, z0]
def k_Node : Kd Node := ⟨3, fun F w x cs => ∃ z0, cs = Node.c x z0 ∧ slRep k_Addr F w x.addrs z0,
  fun ⟨_, h, _⟩ => by rw [h]; rfl, fun ⟨z0, h, h0⟩ hm => ⟨z0, h, slRep.mono k_Addr_pos h0 hm⟩,
  fun ⟨z0, h, h0⟩ v hv => by
    obtain ⟨a0, c0, e0⟩ := h0.shape
    rw [h, e0] at hv; exact all_one (l := Node.c _ _) rfl v hv⟩
def Id.enc (x : Id) : List Value := [.string x.name, .bool x.six, .bool x.localF]
def k_Id : Kd Id := Kd.pure 3 Id.enc (fun _ => rfl) fun _ => rfl
def Want.enc (x : Want) : List Value := [.string x.name, .int .i64 x.proto, .bool x.six, .bool x.localF, .bool x.hinted, .string x.node, .string x.zone]
def k_Want : Kd Want := Kd.pure 7 Want.enc (fun _ => rfl) fun _ => rfl
def Candidate.c (x : Candidate) (z0 : Value) : List Value := [.bool x.point.addr.six, .int .u8 x.point.addr.b.e0, .int .u8 x.point.addr.b.e1, .int .u8 x.point.addr.b.e2, .int .u8 x.point.addr.b.e3, .int .u8 x.point.addr.b.e4, .int .u8 x.point.addr.b.e5, .int .u8 x.point.addr.b.e6, .int .u8 x.point.addr.b.e7, .int .u8 x.point.addr.b.e8, .int .u8 x.point.addr.b.e9, .int .u8 x.point.addr.b.e10, .int .u8 x.point.addr.b.e11, .int .u8 x.point.addr.b.e12, .int .u8 x.point.addr.b.e13, .int .u8 x.point.addr.b.e14, .int .u8 x.point.addr.b.e15, .int .i64 x.point.port, .bool x.localF, .bool x.ready, .bool x.serving, .bool x.terminating, z0]
def k_Candidate : Kd Candidate := ⟨23, fun F w x cs => ∃ z0, cs = Candidate.c x z0 ∧ slRep kStr F w x.zones z0,
  fun ⟨_, h, _⟩ => by rw [h]; rfl, fun ⟨z0, h, h0⟩ hm => ⟨z0, h, slRep.mono kStr_pos h0 hm⟩,
  fun ⟨z0, h, h0⟩ v hv => by
    obtain ⟨a0, c0, e0⟩ := h0.shape
    rw [h, e0] at hv; exact all_one (l := Candidate.c _ _) rfl v hv⟩
theorem k_Candidate_pos : 0 < k_Candidate.n := by decide
def Endpoint.c (x : Endpoint) (z0 : Value) : List Value := [.bool x.addr.six, .int .u8 x.addr.b.e0, .int .u8 x.addr.b.e1, .int .u8 x.addr.b.e2, .int .u8 x.addr.b.e3, .int .u8 x.addr.b.e4, .int .u8 x.addr.b.e5, .int .u8 x.addr.b.e6, .int .u8 x.addr.b.e7, .int .u8 x.addr.b.e8, .int .u8 x.addr.b.e9, .int .u8 x.addr.b.e10, .int .u8 x.addr.b.e11, .int .u8 x.addr.b.e12, .int .u8 x.addr.b.e13, .int .u8 x.addr.b.e14, .int .u8 x.addr.b.e15, .string x.node, .bool x.ready, .bool x.serving, .bool x.terminating, z0]
def k_Endpoint : Kd Endpoint := ⟨22, fun F w x cs => ∃ z0, cs = Endpoint.c x z0 ∧ slRep kStr F w x.zones z0,
  fun ⟨_, h, _⟩ => by rw [h]; rfl, fun ⟨z0, h, h0⟩ hm => ⟨z0, h, slRep.mono kStr_pos h0 hm⟩,
  fun ⟨z0, h, h0⟩ v hv => by
    obtain ⟨a0, c0, e0⟩ := h0.shape
    rw [h, e0] at hv; exact all_one (l := Endpoint.c _ _) rfl v hv⟩
theorem k_Endpoint_pos : 0 < k_Endpoint.n := by decide
def Slice.c (x : Slice) (z0 z1 : Value) : List Value := [.string x.key.space, .string x.key.name, .string x.service, .bool x.six, z0, z1]
def k_Slice : Kd Slice := ⟨6, fun F w x cs => ∃ z0 z1, cs = Slice.c x z0 z1 ∧ slRep k_Port F w x.ports z0 ∧ slRep k_Endpoint F w x.endpoints z1,
  fun ⟨_, _, h, _⟩ => by rw [h]; rfl, fun ⟨z0, z1, h, h0, h1⟩ hm => ⟨z0, z1, h, slRep.mono k_Port_pos h0 hm, slRep.mono k_Endpoint_pos h1 hm⟩,
  fun ⟨z0, z1, h, h0, h1⟩ v hv => by
    obtain ⟨a0, c0, e0⟩ := h0.shape
    obtain ⟨a1, c1, e1⟩ := h1.shape
    rw [h, e0, e1] at hv; exact all_one (l := Slice.c _ _ _) rfl v hv⟩
theorem k_Slice_pos : 0 < k_Slice.n := by decide
def Group.c (x : Group) (z0 : Value) : List Value := [.string x.name, .int .i64 x.proto, .bool x.six, .bool x.localF, z0]
def k_Group : Kd Group := ⟨5, fun F w x cs => ∃ z0, cs = Group.c x z0 ∧ slRep k_Point F w x.points z0,
  fun ⟨_, h, _⟩ => by rw [h]; rfl, fun ⟨z0, h, h0⟩ hm => ⟨z0, h, slRep.mono k_Point_pos h0 hm⟩,
  fun ⟨z0, h, h0⟩ v hv => by
    obtain ⟨a0, c0, e0⟩ := h0.shape
    rw [h, e0] at hv; exact all_one (l := Group.c _ _) rfl v hv⟩
theorem k_Group_pos : 0 < k_Group.n := by decide
def Resolved.c (x : Resolved) (z0 z1 : Value) : List Value := [.string x.key.space, .string x.key.name, z0, z1]
def k_Resolved : Kd Resolved := ⟨4, fun F w x cs => ∃ z0 z1, cs = Resolved.c x z0 z1 ∧ slRep k_Face F w x.faces z0 ∧ slRep k_Group F w x.groups z1,
  fun ⟨_, _, h, _⟩ => by rw [h]; rfl, fun ⟨z0, z1, h, h0, h1⟩ hm => ⟨z0, z1, h, slRep.mono k_Face_pos h0 hm, slRep.mono k_Group_pos h1 hm⟩,
  fun ⟨z0, z1, h, h0, h1⟩ v hv => by
    obtain ⟨a0, c0, e0⟩ := h0.shape
    obtain ⟨a1, c1, e1⟩ := h1.shape
    rw [h, e0, e1] at hv; exact all_one (l := Resolved.c _ _ _) rfl v hv⟩
theorem fa28_0 : FA Tryz.prog 28 0 0 := FA.mk Tryz.underlying28 rfl rfl rfl Tryz.sizeOf23 rfl
theorem fa28_2 : FA Tryz.prog 28 2 3 := FA.mk Tryz.underlying28 rfl rfl rfl Tryz.sizeOf24 rfl
theorem fa28_3 : FA Tryz.prog 28 3 4 := FA.mk Tryz.underlying28 rfl rfl rfl Tryz.sizeOf24 rfl
theorem fa28_4 : FA Tryz.prog 28 4 5 := FA.mk Tryz.underlying28 rfl rfl rfl Tryz.sizeOf24 rfl
theorem fa28_5 : FA Tryz.prog 28 5 6 := FA.mk Tryz.underlying28 rfl rfl rfl Tryz.sizeOf25 rfl
theorem fa28_6 : FA Tryz.prog 28 6 7 := FA.mk Tryz.underlying28 rfl rfl rfl Tryz.sizeOf26 rfl
theorem fa28_7 : FA Tryz.prog 28 7 8 := FA.mk Tryz.underlying28 rfl rfl rfl Tryz.sizeOf4 rfl
theorem fa28_8 : FA Tryz.prog 28 8 9 := FA.mk Tryz.underlying28 rfl rfl rfl Tryz.sizeOf4 rfl
theorem fa28_11 : FA Tryz.prog 28 11 12 := FA.mk Tryz.underlying28 rfl rfl rfl Tryz.sizeOf4 rfl
theorem fa31_0 : FA Tryz.prog 31 0 0 := FA.mk Tryz.underlying31 rfl rfl rfl Tryz.sizeOf9 rfl
theorem fa31_1 : FA Tryz.prog 31 1 1 := FA.mk Tryz.underlying31 rfl rfl rfl Tryz.sizeOf9 rfl
theorem fa31_2 : FA Tryz.prog 31 2 2 := FA.mk Tryz.underlying31 rfl rfl rfl Tryz.sizeOf24 rfl
theorem fa39_0 : FA Tryz.prog 39 0 0 := FA.mk Tryz.underlying39 rfl rfl rfl Tryz.sizeOf23 rfl
theorem fa39_1 : FA Tryz.prog 39 1 2 := FA.mk Tryz.underlying39 rfl rfl rfl Tryz.sizeOf36 rfl
theorem fa39_2 : FA Tryz.prog 39 2 3 := FA.mk Tryz.underlying39 rfl rfl rfl Tryz.sizeOf37 rfl
theorem fa43_0 : FA Tryz.prog 43 0 0 := FA.mk Tryz.underlying43 rfl rfl rfl Tryz.sizeOf4 rfl
theorem fa43_1 : FA Tryz.prog 43 1 1 := FA.mk Tryz.underlying43 rfl rfl rfl Tryz.sizeOf41 rfl
theorem fa45_0 : FA Tryz.prog 45 0 0 := FA.mk Tryz.underlying45 rfl rfl rfl Tryz.sizeOf43 rfl
theorem fa45_1 : FA Tryz.prog 45 1 17 := FA.mk Tryz.underlying45 rfl rfl rfl Tryz.sizeOf3 rfl
theorem fa47_0 : FA Tryz.prog 47 0 0 := FA.mk Tryz.underlying47 rfl rfl rfl Tryz.sizeOf3 rfl
theorem fa47_1 : FA Tryz.prog 47 1 1 := FA.mk Tryz.underlying47 rfl rfl rfl Tryz.sizeOf45 rfl
theorem fa47_2 : FA Tryz.prog 47 2 19 := FA.mk Tryz.underlying47 rfl rfl rfl Tryz.sizeOf9 rfl
theorem fa47_3 : FA Tryz.prog 47 3 20 := FA.mk Tryz.underlying47 rfl rfl rfl Tryz.sizeOf3 rfl
theorem fa47_4 : FA Tryz.prog 47 4 21 := FA.mk Tryz.underlying47 rfl rfl rfl Tryz.sizeOf4 rfl
theorem fa47_5 : FA Tryz.prog 47 5 22 := FA.mk Tryz.underlying47 rfl rfl rfl Tryz.sizeOf4 rfl
theorem fa50_0 : FA Tryz.prog 50 0 0 := FA.mk Tryz.underlying50 rfl rfl rfl Tryz.sizeOf9 rfl
theorem fa50_1 : FA Tryz.prog 50 1 1 := FA.mk Tryz.underlying50 rfl rfl rfl Tryz.sizeOf3 rfl
theorem fa50_2 : FA Tryz.prog 50 2 2 := FA.mk Tryz.underlying50 rfl rfl rfl Tryz.sizeOf4 rfl
theorem fa50_3 : FA Tryz.prog 50 3 3 := FA.mk Tryz.underlying50 rfl rfl rfl Tryz.sizeOf4 rfl
theorem fa50_4 : FA Tryz.prog 50 4 4 := FA.mk Tryz.underlying50 rfl rfl rfl Tryz.sizeOf48 rfl
theorem fa57_0 : FA Tryz.prog 57 0 0 := FA.mk Tryz.underlying57 rfl rfl rfl Tryz.sizeOf23 rfl
theorem fa57_1 : FA Tryz.prog 57 1 2 := FA.mk Tryz.underlying57 rfl rfl rfl Tryz.sizeOf54 rfl
theorem fa57_2 : FA Tryz.prog 57 2 3 := FA.mk Tryz.underlying57 rfl rfl rfl Tryz.sizeOf55 rfl
theorem fa75_0 : FA Tryz.prog 75 0 0 := FA.mk Tryz.underlying75 rfl rfl rfl Tryz.sizeOf9 rfl
theorem fa75_1 : FA Tryz.prog 75 1 1 := FA.mk Tryz.underlying75 rfl rfl rfl Tryz.sizeOf3 rfl
theorem fa75_2 : FA Tryz.prog 75 2 2 := FA.mk Tryz.underlying75 rfl rfl rfl Tryz.sizeOf4 rfl
theorem fa75_3 : FA Tryz.prog 75 3 3 := FA.mk Tryz.underlying75 rfl rfl rfl Tryz.sizeOf4 rfl
theorem fa75_4 : FA Tryz.prog 75 4 4 := FA.mk Tryz.underlying75 rfl rfl rfl Tryz.sizeOf48 rfl
theorem fa78_0 : FA Tryz.prog 78 0 0 := FA.mk Tryz.underlying78 rfl rfl rfl Tryz.sizeOf9 rfl
theorem fa78_1 : FA Tryz.prog 78 1 1 := FA.mk Tryz.underlying78 rfl rfl rfl Tryz.sizeOf3 rfl
theorem fa78_2 : FA Tryz.prog 78 2 2 := FA.mk Tryz.underlying78 rfl rfl rfl Tryz.sizeOf3 rfl
theorem fa78_3 : FA Tryz.prog 78 3 3 := FA.mk Tryz.underlying78 rfl rfl rfl Tryz.sizeOf3 rfl
theorem fa81_2 : FA Tryz.prog 81 2 3 := FA.mk Tryz.underlying81 rfl rfl rfl Tryz.sizeOf4 rfl
theorem fa81_3 : FA Tryz.prog 81 3 4 := FA.mk Tryz.underlying81 rfl rfl rfl Tryz.sizeOf26 rfl
theorem fa81_4 : FA Tryz.prog 81 4 5 := FA.mk Tryz.underlying81 rfl rfl rfl Tryz.sizeOf79 rfl
theorem fa92_0 : FA Tryz.prog 92 0 0 := FA.mk Tryz.underlying92 rfl rfl rfl Tryz.sizeOf9 rfl
theorem fa92_1 : FA Tryz.prog 92 1 1 := FA.mk Tryz.underlying92 rfl rfl rfl Tryz.sizeOf3 rfl
theorem fa92_2 : FA Tryz.prog 92 2 2 := FA.mk Tryz.underlying92 rfl rfl rfl Tryz.sizeOf4 rfl
theorem fa92_3 : FA Tryz.prog 92 3 3 := FA.mk Tryz.underlying92 rfl rfl rfl Tryz.sizeOf4 rfl
theorem fa92_4 : FA Tryz.prog 92 4 4 := FA.mk Tryz.underlying92 rfl rfl rfl Tryz.sizeOf4 rfl
theorem fa92_5 : FA Tryz.prog 92 5 5 := FA.mk Tryz.underlying92 rfl rfl rfl Tryz.sizeOf9 rfl
theorem fa92_6 : FA Tryz.prog 92 6 6 := FA.mk Tryz.underlying92 rfl rfl rfl Tryz.sizeOf9 rfl
theorem fa101_0 : FA Tryz.prog 101 0 0 := FA.mk Tryz.underlying101 rfl rfl rfl Tryz.sizeOf3 rfl
theorem fa101_1 : FA Tryz.prog 101 1 1 := FA.mk Tryz.underlying101 rfl rfl rfl Tryz.sizeOf45 rfl
theorem fa101_2 : FA Tryz.prog 101 2 19 := FA.mk Tryz.underlying101 rfl rfl rfl Tryz.sizeOf9 rfl
theorem fa101_4 : FA Tryz.prog 101 4 21 := FA.mk Tryz.underlying101 rfl rfl rfl Tryz.sizeOf4 rfl
theorem fa117_0 : FA Tryz.prog 117 0 0 := FA.mk Tryz.underlying117 rfl rfl rfl Tryz.sizeOf43 rfl
theorem fa117_1 : FA Tryz.prog 117 1 17 := FA.mk Tryz.underlying117 rfl rfl rfl Tryz.sizeOf9 rfl
theorem fa117_2 : FA Tryz.prog 117 2 18 := FA.mk Tryz.underlying117 rfl rfl rfl Tryz.sizeOf4 rfl
theorem fa117_3 : FA Tryz.prog 117 3 19 := FA.mk Tryz.underlying117 rfl rfl rfl Tryz.sizeOf4 rfl
theorem fa117_4 : FA Tryz.prog 117 4 20 := FA.mk Tryz.underlying117 rfl rfl rfl Tryz.sizeOf4 rfl
theorem fa117_5 : FA Tryz.prog 117 5 21 := FA.mk Tryz.underlying117 rfl rfl rfl Tryz.sizeOf115 rfl
theorem fa122_0 : FA Tryz.prog 122 0 0 := FA.mk Tryz.underlying122 rfl rfl rfl Tryz.sizeOf120 rfl
theorem fa122_1 : FA Tryz.prog 122 1 1 := FA.mk Tryz.underlying122 rfl rfl rfl Tryz.sizeOf36 rfl
theorem fa129_0 : FA Tryz.prog 129 0 0 := FA.mk Tryz.underlying129 rfl rfl rfl Tryz.sizeOf45 rfl
theorem fa129_1 : FA Tryz.prog 129 1 18 := FA.mk Tryz.underlying129 rfl rfl rfl Tryz.sizeOf4 rfl
theorem fa129_2 : FA Tryz.prog 129 2 19 := FA.mk Tryz.underlying129 rfl rfl rfl Tryz.sizeOf4 rfl
theorem fa129_3 : FA Tryz.prog 129 3 20 := FA.mk Tryz.underlying129 rfl rfl rfl Tryz.sizeOf4 rfl
theorem fa129_4 : FA Tryz.prog 129 4 21 := FA.mk Tryz.underlying129 rfl rfl rfl Tryz.sizeOf4 rfl
theorem fa129_5 : FA Tryz.prog 129 5 22 := FA.mk Tryz.underlying129 rfl rfl rfl Tryz.sizeOf115 rfl
theorem pl28 : Places Tryz.prog 28 [(0, 2), (2, 1), (3, 1), (4, 1), (5, 1), (6, 1), (7, 1), (8, 1), (9, 1), (10, 1), (11, 1), (12, 1)] := ⟨_, Tryz.underlying28, fun w => by simp [Tryz.sizeOf23, Tryz.sizeOf24, Tryz.sizeOf25, Tryz.sizeOf26, Tryz.sizeOf3, Tryz.sizeOf4]⟩
theorem pl31 : Places Tryz.prog 31 [(0, 1), (1, 1), (2, 1)] := ⟨_, Tryz.underlying31, fun w => by simp [Tryz.sizeOf24, Tryz.sizeOf9]⟩
theorem pl39 : Places Tryz.prog 39 [(0, 2), (2, 1), (3, 1)] := ⟨_, Tryz.underlying39, fun w => by simp [Tryz.sizeOf23, Tryz.sizeOf36, Tryz.sizeOf37]⟩
theorem pl43 : Places Tryz.prog 43 [(0, 1), (1, 16)] := ⟨_, Tryz.underlying43, fun w => by simp [Tryz.sizeOf4, Tryz.sizeOf41]⟩
theorem pl45 : Places Tryz.prog 45 [(0, 17), (17, 1)] := ⟨_, Tryz.underlying45, fun w => by simp [Tryz.sizeOf3, Tryz.sizeOf43]⟩
theorem pl47 : Places Tryz.prog 47 [(0, 1), (1, 18), (19, 1), (20, 1), (21, 1), (22, 1)] := ⟨_, Tryz.underlying47, fun w => by simp [Tryz.sizeOf3, Tryz.sizeOf4, Tryz.sizeOf45, Tryz.sizeOf9]⟩
theorem pl50 : Places Tryz.prog 50 [(0, 1), (1, 1), (2, 1), (3, 1), (4, 1)] := ⟨_, Tryz.underlying50, fun w => by simp [Tryz.sizeOf3, Tryz.sizeOf4, Tryz.sizeOf48, Tryz.sizeOf9]⟩
theorem pl57 : Places Tryz.prog 57 [(0, 2), (2, 1), (3, 1)] := ⟨_, Tryz.underlying57, fun w => by simp [Tryz.sizeOf23, Tryz.sizeOf54, Tryz.sizeOf55]⟩
theorem pl78 : Places Tryz.prog 78 [(0, 1), (1, 1), (2, 1), (3, 1)] := ⟨_, Tryz.underlying78, fun w => by simp [Tryz.sizeOf3, Tryz.sizeOf9]⟩
theorem pl85 : Places Tryz.prog 85 [] := ⟨_, Tryz.underlying85, fun w => by simp []⟩
theorem pl88 : Places Tryz.prog 88 [(0, 1), (1, 1), (2, 1)] := ⟨_, Tryz.underlying88, fun w => by simp [Tryz.sizeOf4, Tryz.sizeOf9]⟩
theorem pl92 : Places Tryz.prog 92 [(0, 1), (1, 1), (2, 1), (3, 1), (4, 1), (5, 1), (6, 1)] := ⟨_, Tryz.underlying92, fun w => by simp [Tryz.sizeOf3, Tryz.sizeOf4, Tryz.sizeOf9]⟩
theorem pl122 : Places Tryz.prog 122 [(0, 1), (1, 1)] := ⟨_, Tryz.underlying122, fun w => by simp [Tryz.sizeOf120, Tryz.sizeOf36]⟩
theorem pl129 : Places Tryz.prog 129 [(0, 18), (18, 1), (19, 1), (20, 1), (21, 1), (22, 1)] := ⟨_, Tryz.underlying129, fun w => by simp [Tryz.sizeOf115, Tryz.sizeOf4, Tryz.sizeOf45]⟩
theorem pl165 : Places Tryz.prog 165 [(0, 1), (1, 18)] := ⟨_, Tryz.underlying165, fun w => by simp [Tryz.sizeOf3, Tryz.sizeOf45]⟩
theorem ap36 : AppT Tryz.prog 36 47 23 := AppT.of (z := Value.agg #[.int .i64 0, .bool false, .int .u8 0, .int .u8 0, .int .u8 0, .int .u8 0, .int .u8 0, .int .u8 0, .int .u8 0, .int .u8 0, .int .u8 0, .int .u8 0, .int .u8 0, .int .u8 0, .int .u8 0, .int .u8 0, .int .u8 0, .int .u8 0, .int .i64 0, .string ⟨#[]⟩, .int .i64 0, .bool false, .bool false]) (by' := 72) Tryz.underlying36 (by kernel_rfl) rfl rfl
theorem ap37 : AppT Tryz.prog 37 50 5 := AppT.of (z := Value.agg #[.string ⟨#[]⟩, .int .i64 0, .bool false, .bool false, .slice none 0 0]) (by' := 56) Tryz.underlying37 (by kernel_rfl) rfl rfl
theorem ap48 : AppT Tryz.prog 48 45 18 := AppT.of (z := Value.agg #[.bool false, .int .u8 0, .int .u8 0, .int .u8 0, .int .u8 0, .int .u8 0, .int .u8 0, .int .u8 0, .int .u8 0, .int .u8 0, .int .u8 0, .int .u8 0, .int .u8 0, .int .u8 0, .int .u8 0, .int .u8 0, .int .u8 0, .int .i64 0]) (by' := 32) Tryz.underlying48 (by kernel_rfl) rfl rfl
theorem ap54 : AppT Tryz.prog 54 101 23 := AppT.of (z := Value.agg #[.int .i64 0, .bool false, .int .u8 0, .int .u8 0, .int .u8 0, .int .u8 0, .int .u8 0, .int .u8 0, .int .u8 0, .int .u8 0, .int .u8 0, .int .u8 0, .int .u8 0, .int .u8 0, .int .u8 0, .int .u8 0, .int .u8 0, .int .u8 0, .int .i64 0, .string ⟨#[]⟩, .int .i64 0, .bool false, .bool false]) (by' := 72) Tryz.underlying54 (by kernel_rfl) rfl rfl
theorem ap55 : AppT Tryz.prog 55 75 5 := AppT.of (z := Value.agg #[.string ⟨#[]⟩, .int .i64 0, .bool false, .bool false, .slice none 0 0]) (by' := 56) Tryz.underlying55 (by kernel_rfl) rfl rfl
theorem ap115 : AppT Tryz.prog 115 9 1 := AppT.of (z := .string ⟨#[]⟩) (by' := 16) Tryz.underlying115 (by kernel_rfl) rfl rfl
theorem ap125 : AppT Tryz.prog 125 129 23 := AppT.of (z := Value.agg #[.bool false, .int .u8 0, .int .u8 0, .int .u8 0, .int .u8 0, .int .u8 0, .int .u8 0, .int .u8 0, .int .u8 0, .int .u8 0, .int .u8 0, .int .u8 0, .int .u8 0, .int .u8 0, .int .u8 0, .int .u8 0, .int .u8 0, .int .i64 0, .bool false, .bool false, .bool false, .bool false, .slice none 0 0]) (by' := 64) Tryz.underlying125 (by kernel_rfl) rfl rfl
theorem en6 : Enters Tryz.prog 6 := enters_of Tryz.func6 rfl rfl
theorem en10 : Enters Tryz.prog 10 := enters_of Tryz.func10 rfl rfl
theorem en11 : Enters Tryz.prog 11 := enters_of Tryz.func11 rfl rfl
theorem en16 : Enters Tryz.prog 16 := enters_of Tryz.func16 rfl rfl
theorem en17 : Enters Tryz.prog 17 := enters_of Tryz.func17 rfl rfl
theorem en18 : Enters Tryz.prog 18 := enters_of Tryz.func18 rfl rfl
theorem en19 : Enters Tryz.prog 19 := enters_of Tryz.func19 rfl rfl
theorem en20 : Enters Tryz.prog 20 := enters_of Tryz.func20 rfl rfl
theorem en21 : Enters Tryz.prog 21 := enters_of Tryz.func21 rfl rfl
theorem en22 : Enters Tryz.prog 22 := enters_of Tryz.func22 rfl rfl
theorem en24 : Enters Tryz.prog 24 := enters_of Tryz.func24 rfl rfl
theorem en25 : Enters Tryz.prog 25 := enters_of Tryz.func25 rfl rfl
theorem en26 : Enters Tryz.prog 26 := enters_of Tryz.func26 rfl rfl
theorem en27 : Enters Tryz.prog 27 := enters_of Tryz.func27 rfl rfl
theorem en28 : Enters Tryz.prog 28 := enters_of Tryz.func28 rfl rfl
theorem en29 : Enters Tryz.prog 29 := enters_of Tryz.func29 rfl rfl
theorem en30 : Enters Tryz.prog 30 := enters_of Tryz.func30 rfl rfl
theorem en31 : Enters Tryz.prog 31 := enters_of Tryz.func31 rfl rfl
theorem en32 : Enters Tryz.prog 32 := enters_of Tryz.func32 rfl rfl
theorem en33 : Enters Tryz.prog 33 := enters_of Tryz.func33 rfl rfl
theorem en39 : Enters Tryz.prog 39 := enters_of Tryz.func39 rfl rfl
theorem en40 : Enters Tryz.prog 40 := enters_of Tryz.func40 rfl rfl
theorem en41 : Enters Tryz.prog 41 := enters_of Tryz.func41 rfl rfl
theorem en42 : Enters Tryz.prog 42 := enters_of Tryz.func42 rfl rfl
theorem en43 : Enters Tryz.prog 43 := enters_of Tryz.func43 rfl rfl
theorem en45 : Enters Tryz.prog 45 := enters_of Tryz.func45 rfl rfl
theorem en46 : Enters Tryz.prog 46 := enters_of Tryz.func46 rfl rfl
theorem en47 : Enters Tryz.prog 47 := enters_of Tryz.func47 rfl rfl
theorem en48 : Enters Tryz.prog 48 := enters_of Tryz.func48 rfl rfl
theorem en49 : Enters Tryz.prog 49 := enters_of Tryz.func49 rfl rfl
theorem en50 : Enters Tryz.prog 50 := enters_of Tryz.func50 rfl rfl
theorem en51 : Enters Tryz.prog 51 := enters_of Tryz.func51 rfl rfl
theorem en52 : Enters Tryz.prog 52 := enters_of Tryz.func52 rfl rfl
theorem en53 : Enters Tryz.prog 53 := enters_of Tryz.func53 rfl rfl
theorem en54 : Enters Tryz.prog 54 := enters_of Tryz.func54 rfl rfl
theorem en59 : Enters Tryz.prog 59 := enters_of Tryz.func59 rfl rfl
theorem en60 : Enters Tryz.prog 60 := enters_of Tryz.func60 rfl rfl
theorem en61 : Enters Tryz.prog 61 := enters_of Tryz.func61 rfl rfl
theorem en62 : Enters Tryz.prog 62 := enters_of Tryz.func62 rfl rfl
theorem en63 : Enters Tryz.prog 63 := enters_of Tryz.func63 rfl rfl
theorem en64 : Enters Tryz.prog 64 := enters_of Tryz.func64 rfl rfl
theorem en65 : Enters Tryz.prog 65 := enters_of Tryz.func65 rfl rfl
theorem en66 : Enters Tryz.prog 66 := enters_of Tryz.func66 rfl rfl
theorem en67 : Enters Tryz.prog 67 := enters_of Tryz.func67 rfl rfl
theorem en68 : Enters Tryz.prog 68 := enters_of Tryz.func68 rfl rfl
theorem en69 : Enters Tryz.prog 69 := enters_of Tryz.func69 rfl rfl
theorem en70 : Enters Tryz.prog 70 := enters_of Tryz.func70 rfl rfl
theorem en71 : Enters Tryz.prog 71 := enters_of Tryz.func71 rfl rfl
theorem en72 : Enters Tryz.prog 72 := enters_of Tryz.func72 rfl rfl
theorem en73 : Enters Tryz.prog 73 := enters_of Tryz.func73 rfl rfl
theorem en74 : Enters Tryz.prog 74 := enters_of Tryz.func74 rfl rfl
theorem en75 : Enters Tryz.prog 75 := enters_of Tryz.func75 rfl rfl
theorem en76 : Enters Tryz.prog 76 := enters_of Tryz.func76 rfl rfl
theorem en77 : Enters Tryz.prog 77 := enters_of Tryz.func77 rfl rfl
theorem en78 : Enters Tryz.prog 78 := enters_of Tryz.func78 rfl rfl
theorem en79 : Enters Tryz.prog 79 := enters_of Tryz.func79 rfl rfl
theorem en80 : Enters Tryz.prog 80 := enters_of Tryz.func80 rfl rfl
theorem en87 : Enters Tryz.prog 87 := enters_of Tryz.func87 rfl rfl
theorem en88 : Enters Tryz.prog 88 := enters_of Tryz.func88 rfl rfl
theorem en89 : Enters Tryz.prog 89 := enters_of Tryz.func89 rfl rfl
theorem en90 : Enters Tryz.prog 90 := enters_of Tryz.func90 rfl rfl
theorem en91 : Enters Tryz.prog 91 := enters_of Tryz.func91 rfl rfl
theorem en92 : Enters Tryz.prog 92 := enters_of Tryz.func92 rfl rfl
theorem en93 : Enters Tryz.prog 93 := enters_of Tryz.func93 rfl rfl
theorem en94 : Enters Tryz.prog 94 := enters_of Tryz.func94 rfl rfl
theorem en95 : Enters Tryz.prog 95 := enters_of Tryz.func95 rfl rfl
theorem en96 : Enters Tryz.prog 96 := enters_of Tryz.func96 rfl rfl
theorem en97 : Enters Tryz.prog 97 := enters_of Tryz.func97 rfl rfl
theorem en98 : Enters Tryz.prog 98 := enters_of Tryz.func98 rfl rfl
theorem en100 : Enters Tryz.prog 100 := enters_of Tryz.func100 rfl rfl
theorem en101 : Enters Tryz.prog 101 := enters_of Tryz.func101 rfl rfl
theorem en117 : Enters Tryz.prog 117 := enters_of Tryz.func117 rfl rfl
theorem en118 : Enters Tryz.prog 118 := enters_of Tryz.func118 rfl rfl
theorem en119 : Enters Tryz.prog 119 := enters_of Tryz.func119 rfl rfl
theorem en120 : Enters Tryz.prog 120 := enters_of Tryz.func120 rfl rfl
theorem en121 : Enters Tryz.prog 121 := enters_of Tryz.func121 rfl rfl
theorem en130 : Enters Tryz.prog 130 := enters_of Tryz.func130 rfl rfl
theorem en131 : Enters Tryz.prog 131 := enters_of Tryz.func131 rfl rfl
theorem en137 : Enters Tryz.prog 137 := enters_of Tryz.func137 rfl rfl
theorem eqv4 : EqV Tryz.prog 4 Value.bool 1 := EqV.bool Tryz.underlying4
theorem eqv5 : EqV Tryz.prog 5 (Value.int .u8) 1 := EqV.int Tryz.underlying5
theorem eqv41 : EqV Tryz.prog 41 (fun x => Value.agg (A16u8.enc x).toArray) 2 := fun d x y w hd => (eq_arr (val := (Value.int .u8)) Tryz.underlying41 Tryz.sizeOf5 Tryz.isAgg5 eqv5 d [x.e0, x.e1, x.e2, x.e3, x.e4, x.e5, x.e6, x.e7, x.e8, x.e9, x.e10, x.e11, x.e12, x.e13, x.e14, x.e15] [y.e0, y.e1, y.e2, y.e3, y.e4, y.e5, y.e6, y.e7, y.e8, y.e9, y.e10, y.e11, y.e12, y.e13, y.e14, y.e15] w rfl rfl hd).trans (congrArg (Result.ok · w) (by cases x; cases y; simp))
theorem eqv43 : EqV Tryz.prog 43 (fun x => Value.agg (Addr.enc x).toArray) 3 := by
  refine EqV.struct (val := Addr.enc) Tryz.underlying43 Tryz.stoodInHeld43 fun d x y w hd => ?_
  refine Eq.trans (b := .ok (decide (x.six = y.six) && (decide (x.b = y.b) && true)) w) ?_ (by cases x; cases y; simp)
  refine eqf_cons (a := Value.bool x.six) (b := Value.bool y.six) rfl (part_S Tryz.isAgg4 rfl) (part_S Tryz.isAgg4 rfl) (eqv4 d x.six y.six w (ble_trans hd rfl)) ?_
  refine eqf_cons (a := .agg (A16u8.enc x.b).toArray) (b := .agg (A16u8.enc y.b).toArray) rfl (part_A (es := A16u8.enc x.b) Tryz.isAgg41 Tryz.sizeOf41 rfl) (part_A (es := A16u8.enc y.b) Tryz.isAgg41 Tryz.sizeOf41 rfl) (eqv41 d x.b y.b w (ble_trans hd rfl)) ?_
  exact eqf_nil
theorem eqv3 : EqV Tryz.prog 3 (Value.int .i64) 1 := EqV.int Tryz.underlying3
theorem eqv45 : EqV Tryz.prog 45 (fun x => Value.agg (Point.enc x).toArray) 4 := by
  refine EqV.struct (val := Point.enc) Tryz.underlying45 Tryz.stoodInHeld45 fun d x y w hd => ?_
  refine Eq.trans (b := .ok (decide (x.addr = y.addr) && (decide (x.port = y.port) && true)) w) ?_ (by cases x; cases y; simp)
  refine eqf_cons (a := .agg (Addr.enc x.addr).toArray) (b := .agg (Addr.enc y.addr).toArray) rfl (part_A (es := Addr.enc x.addr) Tryz.isAgg43 Tryz.sizeOf43 rfl) (part_A (es := Addr.enc y.addr) Tryz.isAgg43 Tryz.sizeOf43 rfl) (eqv43 d x.addr y.addr w (ble_trans hd rfl)) ?_
  refine eqf_cons (a := Value.int .i64 x.port) (b := Value.int .i64 y.port) rfl (part_S Tryz.isAgg3 rfl) (part_S Tryz.isAgg3 rfl) (eqv3 d x.port y.port w (ble_trans hd rfl)) ?_
  exact eqf_nil
theorem eqv9 : EqV Tryz.prog 9 Value.string 1 := EqV.string Tryz.underlying9
theorem eqv88 : EqV Tryz.prog 88 (fun x => Value.agg (Id.enc x).toArray) 2 := by
  refine EqV.struct (val := Id.enc) Tryz.underlying88 Tryz.stoodInHeld88 fun d x y w hd => ?_
  refine Eq.trans (b := .ok (decide (x.name = y.name) && (decide (x.six = y.six) && (decide (x.localF = y.localF) && true))) w) ?_ (by cases x; cases y; simp)
  refine eqf_cons (a := Value.string x.name) (b := Value.string y.name) rfl (part_S Tryz.isAgg9 rfl) (part_S Tryz.isAgg9 rfl) (eqv9 d x.name y.name w (ble_trans hd rfl)) ?_
  refine eqf_cons (a := Value.bool x.six) (b := Value.bool y.six) rfl (part_S Tryz.isAgg4 rfl) (part_S Tryz.isAgg4 rfl) (eqv4 d x.six y.six w (ble_trans hd rfl)) ?_
  refine eqf_cons (a := Value.bool x.localF) (b := Value.bool y.localF) rfl (part_S Tryz.isAgg4 rfl) (part_S Tryz.isAgg4 rfl) (eqv4 d x.localF y.localF w (ble_trans hd rfl)) ?_
  exact eqf_nil
theorem eqv165 : EqV Tryz.prog 165 (fun x => Value.agg (Place.enc x).toArray) 5 := by
  refine EqV.struct (val := Place.enc) Tryz.underlying165 Tryz.stoodInHeld165 fun d x y w hd => ?_
  refine Eq.trans (b := .ok (decide (x.proto = y.proto) && (decide (x.point = y.point) && true)) w) ?_ (by cases x; cases y; simp)
  refine eqf_cons (a := Value.int .i64 x.proto) (b := Value.int .i64 y.proto) rfl (part_S Tryz.isAgg3 rfl) (part_S Tryz.isAgg3 rfl) (eqv3 d x.proto y.proto w (ble_trans hd rfl)) ?_
  refine eqf_cons (a := .agg (Point.enc x.point).toArray) (b := .agg (Point.enc y.point).toArray) rfl (part_A (es := Point.enc x.point) Tryz.isAgg45 Tryz.sizeOf45 rfl) (part_A (es := Point.enc y.point) Tryz.isAgg45 Tryz.sizeOf45 rfl) (eqv45 d x.point y.point w (ble_trans hd rfl)) ?_
  exact eqf_nil
theorem kv4 : KeyV Tryz.prog 4 Value.bool 1 := KeyV.bool Tryz.underlying4
theorem kv5 : KeyV Tryz.prog 5 (Value.int .u8) 1 := KeyV.int Tryz.underlying5
theorem kv41 : KeyV Tryz.prog 41 (fun x => Value.agg (A16u8.enc x).toArray) 2 := fun b d x w hd => KeyV.arr (val := (Value.int .u8)) Tryz.underlying41 Tryz.sizeOf5 Tryz.isAgg5 kv5 b d (A16u8.list x) w rfl hd
theorem kv43 : KeyV Tryz.prog 43 (fun x => Value.agg (Addr.enc x).toArray) 3 := KeyV.struct (n := 2) (val := Addr.enc) Tryz.underlying43 fun b d x w hd => fc_cons ⟨_, part_S Tryz.isAgg4 rfl, kv4 b d x.six w (ble_trans hd rfl)⟩ (fc_cons ⟨_, part_A (es := A16u8.enc x.b) Tryz.isAgg41 Tryz.sizeOf41 rfl, kv41 b d x.b w (ble_trans hd rfl)⟩ (fc_nil))
theorem kv3 : KeyV Tryz.prog 3 (Value.int .i64) 1 := KeyV.int Tryz.underlying3
theorem kv45 : KeyV Tryz.prog 45 (fun x => Value.agg (Point.enc x).toArray) 4 := KeyV.struct (n := 3) (val := Point.enc) Tryz.underlying45 fun b d x w hd => fc_cons ⟨_, part_A (es := Addr.enc x.addr) Tryz.isAgg43 Tryz.sizeOf43 rfl, kv43 b d x.addr w (ble_trans hd rfl)⟩ (fc_cons ⟨_, part_S Tryz.isAgg3 rfl, kv3 b d x.port w (ble_trans hd rfl)⟩ (fc_nil))
theorem kt45 : KeyT Tryz.prog 45 (fun x => Value.agg (Point.enc x).toArray) := KeyT.agg (val := Point.enc) Tryz.underlying45 eqv45 kv45 rfl rfl (fun x => rfl)
theorem kv9 : KeyV Tryz.prog 9 Value.string 1 := KeyV.string Tryz.underlying9
theorem kv88 : KeyV Tryz.prog 88 (fun x => Value.agg (Id.enc x).toArray) 2 := KeyV.struct (n := 1) (val := Id.enc) Tryz.underlying88 fun b d x w hd => fc_cons ⟨_, part_S Tryz.isAgg9 rfl, kv9 b d x.name w (ble_trans hd rfl)⟩ (fc_cons ⟨_, part_S Tryz.isAgg4 rfl, kv4 b d x.six w (ble_trans hd rfl)⟩ (fc_cons ⟨_, part_S Tryz.isAgg4 rfl, kv4 b d x.localF w (ble_trans hd rfl)⟩ (fc_nil)))
theorem kt88 : KeyT Tryz.prog 88 (fun x => Value.agg (Id.enc x).toArray) := KeyT.agg (val := Id.enc) Tryz.underlying88 eqv88 kv88 rfl rfl (fun x => rfl)
theorem kv165 : KeyV Tryz.prog 165 (fun x => Value.agg (Place.enc x).toArray) 5 := KeyV.struct (n := 4) (val := Place.enc) Tryz.underlying165 fun b d x w hd => fc_cons ⟨_, part_S Tryz.isAgg3 rfl, kv3 b d x.proto w (ble_trans hd rfl)⟩ (fc_cons ⟨_, part_A (es := Point.enc x.point) Tryz.isAgg45 Tryz.sizeOf45 rfl, kv45 b d x.point w (ble_trans hd rfl)⟩ (fc_nil))
theorem kt165 : KeyT Tryz.prog 165 (fun x => Value.agg (Place.enc x).toArray) := KeyT.agg (val := Place.enc) Tryz.underlying165 eqv165 kv165 rfl rfl (fun x => rfl)
theorem eqv23 : EqV Tryz.prog 23 (fun x => Value.agg (Key.enc x).toArray) 2 := by
  refine EqV.struct (val := Key.enc) Tryz.underlying23 Tryz.stoodInHeld23 fun d x y w hd => ?_
  refine Eq.trans (b := .ok (decide (x.space = y.space) && (decide (x.name = y.name) && true)) w) ?_ (by cases x; cases y; simp)
  refine eqf_cons (a := Value.string x.space) (b := Value.string y.space) rfl (part_S Tryz.isAgg9 rfl) (part_S Tryz.isAgg9 rfl) (eqv9 d x.space y.space w (ble_trans hd rfl)) ?_
  refine eqf_cons (a := Value.string x.name) (b := Value.string y.name) rfl (part_S Tryz.isAgg9 rfl) (part_S Tryz.isAgg9 rfl) (eqv9 d x.name y.name w (ble_trans hd rfl)) ?_
  exact eqf_nil
theorem eql23 (x y : Key) : BinRun Tryz.prog .eql 23 (.agg (Key.enc x).toArray) (.agg (Key.enc y).toArray) (.bool (decide (x = y))) := EqV.eql eqv23 Tryz.eqGuardType23 rfl x y
theorem neq23 (x y : Key) : BinRun Tryz.prog .neq 23 (.agg (Key.enc x).toArray) (.agg (Key.enc y).toArray) (.bool (!decide (x = y))) := EqV.neq eqv23 Tryz.eqGuardType23 rfl x y
theorem eql45 (x y : Point) : BinRun Tryz.prog .eql 45 (.agg (Point.enc x).toArray) (.agg (Point.enc y).toArray) (.bool (decide (x = y))) := EqV.eql eqv45 Tryz.eqGuardType45 rfl x y
theorem neq45 (x y : Point) : BinRun Tryz.prog .neq 45 (.agg (Point.enc x).toArray) (.agg (Point.enc y).toArray) (.bool (!decide (x = y))) := EqV.neq eqv45 Tryz.eqGuardType45 rfl x y
theorem eqv47 : EqV Tryz.prog 47 (fun x => Value.agg (Face.enc x).toArray) 5 := by
  refine EqV.struct (val := Face.enc) Tryz.underlying47 Tryz.stoodInHeld47 fun d x y w hd => ?_
  refine Eq.trans (b := .ok (decide (x.proto = y.proto) && (decide (x.point = y.point) && (decide (x.name = y.name) && (decide (x.how = y.how) && (decide (x.localF = y.localF) && (decide (x.asked = y.asked) && true)))))) w) ?_ (by cases x; cases y; simp)
  refine eqf_cons (a := Value.int .i64 x.proto) (b := Value.int .i64 y.proto) rfl (part_S Tryz.isAgg3 rfl) (part_S Tryz.isAgg3 rfl) (eqv3 d x.proto y.proto w (ble_trans hd rfl)) ?_
  refine eqf_cons (a := .agg (Point.enc x.point).toArray) (b := .agg (Point.enc y.point).toArray) rfl (part_A (es := Point.enc x.point) Tryz.isAgg45 Tryz.sizeOf45 rfl) (part_A (es := Point.enc y.point) Tryz.isAgg45 Tryz.sizeOf45 rfl) (eqv45 d x.point y.point w (ble_trans hd rfl)) ?_
  refine eqf_cons (a := Value.string x.name) (b := Value.string y.name) rfl (part_S Tryz.isAgg9 rfl) (part_S Tryz.isAgg9 rfl) (eqv9 d x.name y.name w (ble_trans hd rfl)) ?_
  refine eqf_cons (a := Value.int .i64 x.how) (b := Value.int .i64 y.how) rfl (part_S Tryz.isAgg3 rfl) (part_S Tryz.isAgg3 rfl) (eqv3 d x.how y.how w (ble_trans hd rfl)) ?_
  refine eqf_cons (a := Value.bool x.localF) (b := Value.bool y.localF) rfl (part_S Tryz.isAgg4 rfl) (part_S Tryz.isAgg4 rfl) (eqv4 d x.localF y.localF w (ble_trans hd rfl)) ?_
  refine eqf_cons (a := Value.bool x.asked) (b := Value.bool y.asked) rfl (part_S Tryz.isAgg4 rfl) (part_S Tryz.isAgg4 rfl) (eqv4 d x.asked y.asked w (ble_trans hd rfl)) ?_
  exact eqf_nil
theorem eql47 (x y : Face) : BinRun Tryz.prog .eql 47 (.agg (Face.enc x).toArray) (.agg (Face.enc y).toArray) (.bool (decide (x = y))) := EqV.eql eqv47 Tryz.eqGuardType47 rfl x y
theorem neq47 (x y : Face) : BinRun Tryz.prog .neq 47 (.agg (Face.enc x).toArray) (.agg (Face.enc y).toArray) (.bool (!decide (x = y))) := EqV.neq eqv47 Tryz.eqGuardType47 rfl x y
theorem eql88 (x y : Id) : BinRun Tryz.prog .eql 88 (.agg (Id.enc x).toArray) (.agg (Id.enc y).toArray) (.bool (decide (x = y))) := EqV.eql eqv88 Tryz.eqGuardType88 rfl x y
theorem eqv101 : EqV Tryz.prog 101 (fun x => Value.agg (Face.enc x).toArray) 5 := by
  refine EqV.struct (val := Face.enc) Tryz.underlying101 Tryz.stoodInHeld101 fun d x y w hd => ?_
  refine Eq.trans (b := .ok (decide (x.proto = y.proto) && (decide (x.point = y.point) && (decide (x.name = y.name) && (decide (x.how = y.how) && (decide (x.localF = y.localF) && (decide (x.asked = y.asked) && true)))))) w) ?_ (by cases x; cases y; simp)
  refine eqf_cons (a := Value.int .i64 x.proto) (b := Value.int .i64 y.proto) rfl (part_S Tryz.isAgg3 rfl) (part_S Tryz.isAgg3 rfl) (eqv3 d x.proto y.proto w (ble_trans hd rfl)) ?_
  refine eqf_cons (a := .agg (Point.enc x.point).toArray) (b := .agg (Point.enc y.point).toArray) rfl (part_A (es := Point.enc x.point) Tryz.isAgg45 Tryz.sizeOf45 rfl) (part_A (es := Point.enc y.point) Tryz.isAgg45 Tryz.sizeOf45 rfl) (eqv45 d x.point y.point w (ble_trans hd rfl)) ?_
  refine eqf_cons (a := Value.string x.name) (b := Value.string y.name) rfl (part_S Tryz.isAgg9 rfl) (part_S Tryz.isAgg9 rfl) (eqv9 d x.name y.name w (ble_trans hd rfl)) ?_
  refine eqf_cons (a := Value.int .i64 x.how) (b := Value.int .i64 y.how) rfl (part_S Tryz.isAgg3 rfl) (part_S Tryz.isAgg3 rfl) (eqv3 d x.how y.how w (ble_trans hd rfl)) ?_
  refine eqf_cons (a := Value.bool x.localF) (b := Value.bool y.localF) rfl (part_S Tryz.isAgg4 rfl) (part_S Tryz.isAgg4 rfl) (eqv4 d x.localF y.localF w (ble_trans hd rfl)) ?_
  refine eqf_cons (a := Value.bool x.asked) (b := Value.bool y.asked) rfl (part_S Tryz.isAgg4 rfl) (part_S Tryz.isAgg4 rfl) (eqv4 d x.asked y.asked w (ble_trans hd rfl)) ?_
  exact eqf_nil
theorem neq101 (x y : Face) : BinRun Tryz.prog .neq 101 (.agg (Face.enc x).toArray) (.agg (Face.enc y).toArray) (.bool (!decide (x = y))) := EqV.neq eqv101 Tryz.eqGuardType101 rfl x y
end Go.Proofs.YtgcneihmkkldeaaGreat
