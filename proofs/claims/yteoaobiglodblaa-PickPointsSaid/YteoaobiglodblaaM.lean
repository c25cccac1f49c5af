/- How this program's data lie in cells. Written by a program of this session. -/
import Derived.Test.YteoaobiglodblaaK15
import Derived.Test.YteoaobiglodblaaY
import Derived.Test.YteoaobiglodblaaProg
import Derived.KernelRfl
namespace Go.Proofs.Yteoaobiglodblaa
open Go K
set_option linter.unusedVariables false
theorem mixed : Try.prog.follows .mixedOrders = true := by kernel_rfl
def A16u8.enc (x : A16u8) : List Value := [.int .u8 x.e0, .int .u8 x.e1, .int .u8 x.e2, .int .u8 x.e3, .int .u8 x.e4, .int .u8 x.e5, .int .u8 x.e6, .int .u8 x.e7, .int .u8 x.e8, .int .u8 x.e9, .int .u8 x.e10, .int .u8 x.e11, .int .u8 x.e12, .int .u8 x.e13, .int .u8 x.e14, .int .u8 x.e15]
def k_A16u8 : Kd A16u8 := Kd.pure 16 A16u8.enc (fun _ => rfl) fun _ => rfl
theorem k_A16u8_pos : 0 < k_A16u8.n := by decide
def Addr.enc (x : Addr) : List Value := [.bool x.six, .int .u8 x.b.e0, .int .u8 x.b.e1, .int .u8 x.b.e2, .int .u8 x.b.e3, .int .u8 x.b.e4, .int .u8 x.b.e5, .int .u8 x.b.e6, .int .u8 x.b.e7, .int .u8 x.b.e8, .int .u8 x.b.e9, .int .u8 x.b.e10, .int .u8 x.b.e11, .int .u8 x.b.e12, .int .u8 x.b.e13, .int .u8 x.b.e14, .int .u8 x.b.e15]
def k_Addr : Kd Addr := Kd.pure 17 Addr.enc (fun _ => rfl) fun _ => rfl
theorem k_Addr_pos : 0 < k_Addr.n := by decide
def Point.enc (x : Point) : List Value := [.bool x.addr.six, .int .u8 x.addr.b.e0, .int .u8 x.addr.b.e1, .int .u8 x.addr.b.e2, .int .u8 x.addr.b.e3, .int .u8 x.addr.b.e4, .int .u8 x.addr.b.e5, .int .u8 x.addr.b.e6, .int .u8 x.addr.b.e7, .int .u8 x.addr.b.e8, .int .u8 x.addr.b.e9, .int .u8 x.addr.b.e10, .int .u8 x.addr.b.e11, .int .u8 x.addr.b.e12, .int .u8 x.addr.b.e13, .int .u8 x.addr.b.e14, .int .u8 x.addr.b.e15, .int .i64 x.port]
def k_Point : Kd Point := Kd.pure 18 Point.enc (fun _ => rfl) fun _ => rfl
theorem k_Point_pos : 0 < k_Point.n := by decide
def Candidate.c (x : Candidate) (z0 : Value) : List Value := [.bool x.point.addr.six, .int .u8 x.point.addr.b.e0, .int .u8 x.point.addr.b.e1, .int .u8 x.point.addr.b.e2, .int .u8 x.point.addr.b.e3, .int .u8 x.point.addr.b.e4, .int .u8 x.point.addr.b.e5, .int .u8 x.point.addr.b.e6, .int .u8 x.point.addr.b.e7, .int .u8 x.point.addr.b.e8, .int .u8 x.point.addr.b.e9, .int .u8 x.point.addr.b.e10, .int .u8 x.point.addr.b.e11, .int .u8 x.point.addr.b.e12, .int .u8 x.point.addr.b.e13, .int .u8 x.point.addr.b.e14, .int .u8 x.point.addr.b.e15, .int .i64 x.point.port, .bool x.localF, .bool x.ready, .bool x.serving, .bool x.terminating, z0]
def k_Candidate : Kd Candidate := ⟨23, fun F w x cs => ∃ z0, cs = Candidate.c x z0 ∧ slRep kStr F w x.zones z0,
  fun ⟨_, h, _⟩ => by rw [h]; rfl, fun ⟨z0, h, h0⟩ hm => ⟨z0, h, slRep.mono kStr_pos h0 hm⟩,
  fun ⟨z0, h, h0⟩ v hv => by
    obtain ⟨a0, c0, e0⟩ := h0.shape
    rw [h, e0] at hv; exact all_one (l := Candidate.c _ _) rfl v hv⟩
theorem k_Candidate_pos : 0 < k_Candidate.n := by decide
def Key.enc (x : Key) : List Value := [.string x.space, .string x.name]
def k_Key : Kd Key := Kd.pure 2 Key.enc (fun _ => rfl) fun _ => rfl
theorem k_Key_pos : 0 < k_Key.n := by decide
def Port.enc (x : Port) : List Value := [.string x.name, .int .i64 x.proto, .int .i64 x.port, .int .i64 x.outer]
def k_Port : Kd Port := Kd.pure 4 Port.enc (fun _ => rfl) fun _ => rfl
theorem k_Port_pos : 0 < k_Port.n := by decide
def Endpoint.c (x : Endpoint) (z0 : Value) : List Value := [.bool x.addr.six, .int .u8 x.addr.b.e0, .int .u8 x.addr.b.e1, .int .u8 x.addr.b.e2, .int .u8 x.addr.b.e3, .int .u8 x.addr.b.e4, .int .u8 x.addr.b.e5, .int .u8 x.addr.b.e6, .int .u8 x.addr.b.e7, .int .u8 x.addr.b.e8, .int .u8 x.addr.b.e9, .int .u8 x.addr.b.e10, .int .u8 x.addr.b.e11, .int .u8 x.addr.b.e12, .int .u8 x.addr.b.e13, .int .u8 x.addr.b.e14, .int .u8 x.addr.b.e15, .string x.node, .bool x.ready, .bool x.serving, .bool x.terminating, z0]
def k_Endpoint : Kd Endpoint := ⟨22, fun F w x cs => ∃ z0, cs = Endpoint.c x z0 ∧ slRep kStr F w x.zones z0,
  fun ⟨_, h, _⟩ => by rw [h]; rfl, fun ⟨z0, h, h0⟩ hm => ⟨z0, h, slRep.mono kStr_pos h0 hm⟩,
  fun ⟨z0, h, h0⟩ v hv => by
    obtain ⟨a0, c0, e0⟩ := h0.shape
    rw [h, e0] at hv; exact all_one (l := Endpoint.c _ _) rfl v hv⟩
theorem k_Endpoint_pos : 0 < k_Endpoint.n := by decide
def Slice.c (x : Slice) (z0 z1 : Value) : List Value := [.string x.key.space, .string x.key.name, .string x.service, .bool x.six, z0, z1]
def k_Slice : Kd Slice := ⟨6, fun F w x cs => ∃ z0 z1, cs = Slice.c x z0 z1 ∧ slRep k_Port F w x.ports z0 ∧ slRep k_Endpoint F w x.endpoints z1,
  fun ⟨_, _, h, _⟩ => by rw [h]; rfl, fun ⟨z0, z1, h, h0, h1⟩ hm => ⟨z0, z1, h, slRep.mono k_Port_pos h0 hm, slRep.mono k_Endpoint_pos h1 hm⟩,
  fun ⟨z0, z1, h, h0, h1⟩ v hv => by
    obtain ⟨a0, c0, e0⟩ := h0.shape
    obtain ⟨a1, c1, e1⟩ := h1.shape
    rw [h, e0, e1] at hv; exact all_one (l := Slice.c _ _ _) rfl v hv⟩
theorem k_Slice_pos : 0 < k_Slice.n := by decide
def Want.enc (x : Want) : List Value := [.string x.name, .int .i64 x.proto, .bool x.six, .bool x.localF, .bool x.hinted, .string x.node, .string x.zone]
def k_Want : Kd Want := Kd.pure 7 Want.enc (fun _ => rfl) fun _ => rfl
theorem k_Want_pos : 0 < k_Want.n := by decide
def St79.enc (x : St79) : List Value := []
def k_St79 : Kd St79 := Kd.pure 0 St79.enc (fun _ => rfl) fun _ => rfl
theorem fa24_0 : FA Try.prog 24 0 0 := FA.mk Try.underlying24 rfl rfl rfl Try.sizeOf9 rfl
theorem fa24_1 : FA Try.prog 24 1 1 := FA.mk Try.underlying24 rfl rfl rfl Try.sizeOf3 rfl
theorem fa24_2 : FA Try.prog 24 2 2 := FA.mk Try.underlying24 rfl rfl rfl Try.sizeOf4 rfl
theorem fa24_3 : FA Try.prog 24 3 3 := FA.mk Try.underlying24 rfl rfl rfl Try.sizeOf4 rfl
theorem fa24_4 : FA Try.prog 24 4 4 := FA.mk Try.underlying24 rfl rfl rfl Try.sizeOf4 rfl
theorem fa24_5 : FA Try.prog 24 5 5 := FA.mk Try.underlying24 rfl rfl rfl Try.sizeOf9 rfl
theorem fa24_6 : FA Try.prog 24 6 6 := FA.mk Try.underlying24 rfl rfl rfl Try.sizeOf9 rfl
theorem fa35_0 : FA Try.prog 35 0 0 := FA.mk Try.underlying35 rfl rfl rfl Try.sizeOf9 rfl
theorem fa35_1 : FA Try.prog 35 1 1 := FA.mk Try.underlying35 rfl rfl rfl Try.sizeOf3 rfl
theorem fa35_2 : FA Try.prog 35 2 2 := FA.mk Try.underlying35 rfl rfl rfl Try.sizeOf4 rfl
theorem fa35_3 : FA Try.prog 35 3 3 := FA.mk Try.underlying35 rfl rfl rfl Try.sizeOf4 rfl
theorem fa35_4 : FA Try.prog 35 4 4 := FA.mk Try.underlying35 rfl rfl rfl Try.sizeOf4 rfl
theorem fa35_5 : FA Try.prog 35 5 5 := FA.mk Try.underlying35 rfl rfl rfl Try.sizeOf9 rfl
theorem fa35_6 : FA Try.prog 35 6 6 := FA.mk Try.underlying35 rfl rfl rfl Try.sizeOf9 rfl
theorem fa39_0 : FA Try.prog 39 0 0 := FA.mk Try.underlying39 rfl rfl rfl Try.sizeOf4 rfl
theorem fa39_1 : FA Try.prog 39 1 1 := FA.mk Try.underlying39 rfl rfl rfl Try.sizeOf37 rfl
theorem fa41_0 : FA Try.prog 41 0 0 := FA.mk Try.underlying41 rfl rfl rfl Try.sizeOf39 rfl
theorem fa41_1 : FA Try.prog 41 1 17 := FA.mk Try.underlying41 rfl rfl rfl Try.sizeOf3 rfl
theorem fa44_0 : FA Try.prog 44 0 0 := FA.mk Try.underlying44 rfl rfl rfl Try.sizeOf41 rfl
theorem fa44_1 : FA Try.prog 44 1 18 := FA.mk Try.underlying44 rfl rfl rfl Try.sizeOf4 rfl
theorem fa44_2 : FA Try.prog 44 2 19 := FA.mk Try.underlying44 rfl rfl rfl Try.sizeOf4 rfl
theorem fa44_3 : FA Try.prog 44 3 20 := FA.mk Try.underlying44 rfl rfl rfl Try.sizeOf4 rfl
theorem fa44_4 : FA Try.prog 44 4 21 := FA.mk Try.underlying44 rfl rfl rfl Try.sizeOf4 rfl
theorem fa44_5 : FA Try.prog 44 5 22 := FA.mk Try.underlying44 rfl rfl rfl Try.sizeOf42 rfl
theorem fa58_0 : FA Try.prog 58 0 0 := FA.mk Try.underlying58 rfl rfl rfl Try.sizeOf41 rfl
theorem fa58_1 : FA Try.prog 58 1 18 := FA.mk Try.underlying58 rfl rfl rfl Try.sizeOf4 rfl
theorem fa58_2 : FA Try.prog 58 2 19 := FA.mk Try.underlying58 rfl rfl rfl Try.sizeOf4 rfl
theorem fa58_3 : FA Try.prog 58 3 20 := FA.mk Try.underlying58 rfl rfl rfl Try.sizeOf4 rfl
theorem fa58_4 : FA Try.prog 58 4 21 := FA.mk Try.underlying58 rfl rfl rfl Try.sizeOf4 rfl
theorem fa58_5 : FA Try.prog 58 5 22 := FA.mk Try.underlying58 rfl rfl rfl Try.sizeOf42 rfl
theorem fa67_0 : FA Try.prog 67 0 0 := FA.mk Try.underlying67 rfl rfl rfl Try.sizeOf9 rfl
theorem fa67_1 : FA Try.prog 67 1 1 := FA.mk Try.underlying67 rfl rfl rfl Try.sizeOf9 rfl
theorem fa71_0 : FA Try.prog 71 0 0 := FA.mk Try.underlying71 rfl rfl rfl Try.sizeOf67 rfl
theorem fa71_1 : FA Try.prog 71 1 2 := FA.mk Try.underlying71 rfl rfl rfl Try.sizeOf9 rfl
theorem fa71_2 : FA Try.prog 71 2 3 := FA.mk Try.underlying71 rfl rfl rfl Try.sizeOf4 rfl
theorem fa71_3 : FA Try.prog 71 3 4 := FA.mk Try.underlying71 rfl rfl rfl Try.sizeOf68 rfl
theorem fa71_4 : FA Try.prog 71 4 5 := FA.mk Try.underlying71 rfl rfl rfl Try.sizeOf69 rfl
theorem fa76_2 : FA Try.prog 76 2 3 := FA.mk Try.underlying76 rfl rfl rfl Try.sizeOf4 rfl
theorem fa76_3 : FA Try.prog 76 3 4 := FA.mk Try.underlying76 rfl rfl rfl Try.sizeOf73 rfl
theorem fa76_4 : FA Try.prog 76 4 5 := FA.mk Try.underlying76 rfl rfl rfl Try.sizeOf74 rfl
theorem fa83_0 : FA Try.prog 83 0 0 := FA.mk Try.underlying83 rfl rfl rfl Try.sizeOf9 rfl
theorem fa83_1 : FA Try.prog 83 1 1 := FA.mk Try.underlying83 rfl rfl rfl Try.sizeOf3 rfl
theorem fa83_2 : FA Try.prog 83 2 2 := FA.mk Try.underlying83 rfl rfl rfl Try.sizeOf3 rfl
theorem fa86_0 : FA Try.prog 86 0 0 := FA.mk Try.underlying86 rfl rfl rfl Try.sizeOf39 rfl
theorem fa86_1 : FA Try.prog 86 1 17 := FA.mk Try.underlying86 rfl rfl rfl Try.sizeOf9 rfl
theorem fa86_2 : FA Try.prog 86 2 18 := FA.mk Try.underlying86 rfl rfl rfl Try.sizeOf4 rfl
theorem fa86_3 : FA Try.prog 86 3 19 := FA.mk Try.underlying86 rfl rfl rfl Try.sizeOf4 rfl
theorem fa86_4 : FA Try.prog 86 4 20 := FA.mk Try.underlying86 rfl rfl rfl Try.sizeOf4 rfl
theorem fa86_5 : FA Try.prog 86 5 21 := FA.mk Try.underlying86 rfl rfl rfl Try.sizeOf42 rfl
theorem fa88_0 : FA Try.prog 88 0 0 := FA.mk Try.underlying88 rfl rfl rfl Try.sizeOf9 rfl
theorem fa88_1 : FA Try.prog 88 1 1 := FA.mk Try.underlying88 rfl rfl rfl Try.sizeOf3 rfl
theorem fa88_2 : FA Try.prog 88 2 2 := FA.mk Try.underlying88 rfl rfl rfl Try.sizeOf3 rfl
theorem fa89_0 : FA Try.prog 89 0 0 := FA.mk Try.underlying89 rfl rfl rfl Try.sizeOf39 rfl
theorem fa89_1 : FA Try.prog 89 1 17 := FA.mk Try.underlying89 rfl rfl rfl Try.sizeOf9 rfl
theorem fa89_2 : FA Try.prog 89 2 18 := FA.mk Try.underlying89 rfl rfl rfl Try.sizeOf4 rfl
theorem fa89_3 : FA Try.prog 89 3 19 := FA.mk Try.underlying89 rfl rfl rfl Try.sizeOf4 rfl
theorem fa89_4 : FA Try.prog 89 4 20 := FA.mk Try.underlying89 rfl rfl rfl Try.sizeOf4 rfl
theorem fa89_5 : FA Try.prog 89 5 21 := FA.mk Try.underlying89 rfl rfl rfl Try.sizeOf42 rfl
theorem pl41 : Places Try.prog 41 [(0, 17), (17, 1)] := ⟨_, Try.underlying41, fun w => by simp [Try.sizeOf3, Try.sizeOf39]⟩
theorem pl44 : Places Try.prog 44 [(0, 18), (18, 1), (19, 1), (20, 1), (21, 1), (22, 1)] := ⟨_, Try.underlying44, fun w => by simp [Try.sizeOf4, Try.sizeOf41, Try.sizeOf42]⟩
theorem pl58 : Places Try.prog 58 [(0, 18), (18, 1), (19, 1), (20, 1), (21, 1), (22, 1)] := ⟨_, Try.underlying58, fun w => by simp [Try.sizeOf4, Try.sizeOf41, Try.sizeOf42]⟩
theorem pl76 : Places Try.prog 76 [(0, 2), (2, 1), (3, 1), (4, 1), (5, 1)] := ⟨_, Try.underlying76, fun w => by simp [Try.sizeOf4, Try.sizeOf67, Try.sizeOf73, Try.sizeOf74, Try.sizeOf9]⟩
theorem pl79 : Places Try.prog 79 [] := ⟨_, Try.underlying79, fun w => by simp []⟩
theorem ap22 : AppT Try.prog 22 44 23 := AppT.of (z := Value.agg #[.bool false, .int .u8 0, .int .u8 0, .int .u8 0, .int .u8 0, .int .u8 0, .int .u8 0, .int .u8 0, .int .u8 0, .int .u8 0, .int .u8 0, .int .u8 0, .int .u8 0, .int .u8 0, .int .u8 0, .int .u8 0, .int .u8 0, .int .i64 0, .bool false, .bool false, .bool false, .bool false, .slice none 0 0]) (by' := 64) Try.underlying22 (by kernel_rfl) rfl rfl
theorem ap28 : AppT Try.prog 28 58 23 := AppT.of (z := Value.agg #[.bool false, .int .u8 0, .int .u8 0, .int .u8 0, .int .u8 0, .int .u8 0, .int .u8 0, .int .u8 0, .int .u8 0, .int .u8 0, .int .u8 0, .int .u8 0, .int .u8 0, .int .u8 0, .int .u8 0, .int .u8 0, .int .u8 0, .int .i64 0, .bool false, .bool false, .bool false, .bool false, .slice none 0 0]) (by' := 64) Try.underlying28 (by kernel_rfl) rfl rfl
theorem ap42 : AppT Try.prog 42 9 1 := AppT.of (z := .string ⟨#[]⟩) (by' := 16) Try.underlying42 (by kernel_rfl) rfl rfl
theorem ap48 : AppT Try.prog 48 76 6 := AppT.of (z := Value.agg #[.string ⟨#[]⟩, .string ⟨#[]⟩, .string ⟨#[]⟩, .bool false, .slice none 0 0, .slice none 0 0]) (by' := 104) Try.underlying48 (by kernel_rfl) rfl rfl
theorem ap53 : AppT Try.prog 53 41 18 := AppT.of (z := Value.agg #[.bool false, .int .u8 0, .int .u8 0, .int .u8 0, .int .u8 0, .int .u8 0, .int .u8 0, .int .u8 0, .int .u8 0, .int .u8 0, .int .u8 0, .int .u8 0, .int .u8 0, .int .u8 0, .int .u8 0, .int .u8 0, .int .u8 0, .int .i64 0]) (by' := 32) Try.underlying53 (by kernel_rfl) rfl rfl
theorem ap73 : AppT Try.prog 73 88 4 := AppT.of (z := Value.agg #[.string ⟨#[]⟩, .int .i64 0, .int .i64 0, .int .i64 0]) (by' := 40) Try.underlying73 (by kernel_rfl) rfl rfl
theorem ap74 : AppT Try.prog 74 89 22 := AppT.of (z := Value.agg #[.bool false, .int .u8 0, .int .u8 0, .int .u8 0, .int .u8 0, .int .u8 0, .int .u8 0, .int .u8 0, .int .u8 0, .int .u8 0, .int .u8 0, .int .u8 0, .int .u8 0, .int .u8 0, .int .u8 0, .int .u8 0, .int .u8 0, .string ⟨#[]⟩, .bool false, .bool false, .bool false, .slice none 0 0]) (by' := 72) Try.underlying74 (by kernel_rfl) rfl rfl
theorem en6 : Enters Try.prog 6 := enters_of Try.func6 rfl rfl
theorem en7 : Enters Try.prog 7 := enters_of Try.func7 rfl rfl
theorem en8 : Enters Try.prog 8 := enters_of Try.func8 rfl rfl
theorem en9 : Enters Try.prog 9 := enters_of Try.func9 rfl rfl
theorem en10 : Enters Try.prog 10 := enters_of Try.func10 rfl rfl
theorem en11 : Enters Try.prog 11 := enters_of Try.func11 rfl rfl
theorem en12 : Enters Try.prog 12 := enters_of Try.func12 rfl rfl
theorem en13 : Enters Try.prog 13 := enters_of Try.func13 rfl rfl
theorem en14 : Enters Try.prog 14 := enters_of Try.func14 rfl rfl
theorem en15 : Enters Try.prog 15 := enters_of Try.func15 rfl rfl
theorem en16 : Enters Try.prog 16 := enters_of Try.func16 rfl rfl
theorem en17 : Enters Try.prog 17 := enters_of Try.func17 rfl rfl
theorem en18 : Enters Try.prog 18 := enters_of Try.func18 rfl rfl
theorem en19 : Enters Try.prog 19 := enters_of Try.func19 rfl rfl
theorem en20 : Enters Try.prog 20 := enters_of Try.func20 rfl rfl
theorem en21 : Enters Try.prog 21 := enters_of Try.func21 rfl rfl
theorem en22 : Enters Try.prog 22 := enters_of Try.func22 rfl rfl
theorem en23 : Enters Try.prog 23 := enters_of Try.func23 rfl rfl
theorem en24 : Enters Try.prog 24 := enters_of Try.func24 rfl rfl
theorem en25 : Enters Try.prog 25 := enters_of Try.func25 rfl rfl
theorem en26 : Enters Try.prog 26 := enters_of Try.func26 rfl rfl
theorem en27 : Enters Try.prog 27 := enters_of Try.func27 rfl rfl
theorem en28 : Enters Try.prog 28 := enters_of Try.func28 rfl rfl
theorem en29 : Enters Try.prog 29 := enters_of Try.func29 rfl rfl
theorem en30 : Enters Try.prog 30 := enters_of Try.func30 rfl rfl
theorem en31 : Enters Try.prog 31 := enters_of Try.func31 rfl rfl
theorem en32 : Enters Try.prog 32 := enters_of Try.func32 rfl rfl
theorem en33 : Enters Try.prog 33 := enters_of Try.func33 rfl rfl
theorem en34 : Enters Try.prog 34 := enters_of Try.func34 rfl rfl
theorem en35 : Enters Try.prog 35 := enters_of Try.func35 rfl rfl
theorem en36 : Enters Try.prog 36 := enters_of Try.func36 rfl rfl
theorem en37 : Enters Try.prog 37 := enters_of Try.func37 rfl rfl
theorem en38 : Enters Try.prog 38 := enters_of Try.func38 rfl rfl
theorem en39 : Enters Try.prog 39 := enters_of Try.func39 rfl rfl
theorem en40 : Enters Try.prog 40 := enters_of Try.func40 rfl rfl
theorem en41 : Enters Try.prog 41 := enters_of Try.func41 rfl rfl
theorem en42 : Enters Try.prog 42 := enters_of Try.func42 rfl rfl
theorem en43 : Enters Try.prog 43 := enters_of Try.func43 rfl rfl
theorem en44 : Enters Try.prog 44 := enters_of Try.func44 rfl rfl
theorem en45 : Enters Try.prog 45 := enters_of Try.func45 rfl rfl
theorem en46 : Enters Try.prog 46 := enters_of Try.func46 rfl rfl
theorem en47 : Enters Try.prog 47 := enters_of Try.func47 rfl rfl
theorem en48 : Enters Try.prog 48 := enters_of Try.func48 rfl rfl
theorem en49 : Enters Try.prog 49 := enters_of Try.func49 rfl rfl
theorem en50 : Enters Try.prog 50 := enters_of Try.func50 rfl rfl
theorem en51 : Enters Try.prog 51 := enters_of Try.func51 rfl rfl
theorem en52 : Enters Try.prog 52 := enters_of Try.func52 rfl rfl
theorem en53 : Enters Try.prog 53 := enters_of Try.func53 rfl rfl
theorem en54 : Enters Try.prog 54 := enters_of Try.func54 rfl rfl
theorem en55 : Enters Try.prog 55 := enters_of Try.func55 rfl rfl
theorem en56 : Enters Try.prog 56 := enters_of Try.func56 rfl rfl
theorem en57 : Enters Try.prog 57 := enters_of Try.func57 rfl rfl
theorem en58 : Enters Try.prog 58 := enters_of Try.func58 rfl rfl
theorem en59 : Enters Try.prog 59 := enters_of Try.func59 rfl rfl
theorem en60 : Enters Try.prog 60 := enters_of Try.func60 rfl rfl
theorem en61 : Enters Try.prog 61 := enters_of Try.func61 rfl rfl
theorem en62 : Enters Try.prog 62 := enters_of Try.func62 rfl rfl
theorem en63 : Enters Try.prog 63 := enters_of Try.func63 rfl rfl
theorem en66 : Enters Try.prog 66 := enters_of Try.func66 rfl rfl
theorem en67 : Enters Try.prog 67 := enters_of Try.func67 rfl rfl
theorem en68 : Enters Try.prog 68 := enters_of Try.func68 rfl rfl
theorem en69 : Enters Try.prog 69 := enters_of Try.func69 rfl rfl
theorem en70 : Enters Try.prog 70 := enters_of Try.func70 rfl rfl
theorem en81 : Enters Try.prog 81 := enters_of Try.func81 rfl rfl
theorem en82 : Enters Try.prog 82 := enters_of Try.func82 rfl rfl
theorem eqv4 : EqV Try.prog 4 Value.bool 1 := EqV.bool Try.underlying4
theorem eqv5 : EqV Try.prog 5 (Value.int .u8) 1 := EqV.int Try.underlying5
theorem eqv37 : EqV Try.prog 37 (fun x => Value.agg (A16u8.enc x).toArray) 2 := fun d x y w hd => (eq_arr (val := (Value.int .u8)) Try.underlying37 Try.sizeOf5 Try.isAgg5 eqv5 d [x.e0, x.e1, x.e2, x.e3, x.e4, x.e5, x.e6, x.e7, x.e8, x.e9, x.e10, x.e11, x.e12, x.e13, x.e14, x.e15] [y.e0, y.e1, y.e2, y.e3, y.e4, y.e5, y.e6, y.e7, y.e8, y.e9, y.e10, y.e11, y.e12, y.e13, y.e14, y.e15] w rfl rfl hd).trans (congrArg (Result.ok · w) (by cases x; cases y; simp))
theorem eqv39 : EqV Try.prog 39 (fun x => Value.agg (Addr.enc x).toArray) 3 := by
  refine EqV.struct (val := Addr.enc) Try.underlying39 Try.stoodInHeld39 fun d x y w hd => ?_
  refine Eq.trans (b := .ok (decide (x.six = y.six) && (decide (x.b = y.b) && true)) w) ?_ (by cases x; cases y; simp)
  refine eqf_cons (a := Value.bool x.six) (b := Value.bool y.six) rfl (part_S Try.isAgg4 rfl) (part_S Try.isAgg4 rfl) (eqv4 d x.six y.six w (ble_trans hd rfl)) ?_
  refine eqf_cons (a := .agg (A16u8.enc x.b).toArray) (b := .agg (A16u8.enc y.b).toArray) rfl (part_A (es := A16u8.enc x.b) Try.isAgg37 Try.sizeOf37 rfl) (part_A (es := A16u8.enc y.b) Try.isAgg37 Try.sizeOf37 rfl) (eqv37 d x.b y.b w (ble_trans hd rfl)) ?_
  exact eqf_nil
theorem eqv3 : EqV Try.prog 3 (Value.int .i64) 1 := EqV.int Try.underlying3
theorem eqv41 : EqV Try.prog 41 (fun x => Value.agg (Point.enc x).toArray) 4 := by
  refine EqV.struct (val := Point.enc) Try.underlying41 Try.stoodInHeld41 fun d x y w hd => ?_
  refine Eq.trans (b := .ok (decide (x.addr = y.addr) && (decide (x.port = y.port) && true)) w) ?_ (by cases x; cases y; simp)
  refine eqf_cons (a := .agg (Addr.enc x.addr).toArray) (b := .agg (Addr.enc y.addr).toArray) rfl (part_A (es := Addr.enc x.addr) Try.isAgg39 Try.sizeOf39 rfl) (part_A (es := Addr.enc y.addr) Try.isAgg39 Try.sizeOf39 rfl) (eqv39 d x.addr y.addr w (ble_trans hd rfl)) ?_
  refine eqf_cons (a := Value.int .i64 x.port) (b := Value.int .i64 y.port) rfl (part_S Try.isAgg3 rfl) (part_S Try.isAgg3 rfl) (eqv3 d x.port y.port w (ble_trans hd rfl)) ?_
  exact eqf_nil
theorem kv4 : KeyV Try.prog 4 Value.bool 1 := KeyV.bool Try.underlying4
theorem kv5 : KeyV Try.prog 5 (Value.int .u8) 1 := KeyV.int Try.underlying5
theorem kv37 : KeyV Try.prog 37 (fun x => Value.agg (A16u8.enc x).toArray) 2 := fun b d x w hd => KeyV.arr (val := (Value.int .u8)) Try.underlying37 Try.sizeOf5 Try.isAgg5 kv5 b d (A16u8.list x) w rfl hd
theorem kv39 : KeyV Try.prog 39 (fun x => Value.agg (Addr.enc x).toArray) 3 := KeyV.struct (n := 2) (val := Addr.enc) Try.underlying39 fun b d x w hd => fc_cons ⟨_, part_S Try.isAgg4 rfl, kv4 b d x.six w (ble_trans hd rfl)⟩ (fc_cons ⟨_, part_A (es := A16u8.enc x.b) Try.isAgg37 Try.sizeOf37 rfl, kv37 b d x.b w (ble_trans hd rfl)⟩ (fc_nil))
theorem kv3 : KeyV Try.prog 3 (Value.int .i64) 1 := KeyV.int Try.underlying3
theorem kv41 : KeyV Try.prog 41 (fun x => Value.agg (Point.enc x).toArray) 4 := KeyV.struct (n := 3) (val := Point.enc) Try.underlying41 fun b d x w hd => fc_cons ⟨_, part_A (es := Addr.enc x.addr) Try.isAgg39 Try.sizeOf39 rfl, kv39 b d x.addr w (ble_trans hd rfl)⟩ (fc_cons ⟨_, part_S Try.isAgg3 rfl, kv3 b d x.port w (ble_trans hd rfl)⟩ (fc_nil))
theorem kt41 : KeyT Try.prog 41 (fun x => Value.agg (Point.enc x).toArray) := KeyT.agg (val := Point.enc) Try.underlying41 eqv41 kv41 rfl rfl (fun x => rfl)
theorem eql41 (x y : Point) : BinRun Try.prog .eql 41 (.agg (Point.enc x).toArray) (.agg (Point.enc y).toArray) (.bool (decide (x = y))) := EqV.eql eqv41 Try.eqGuardType41 rfl x y
theorem neq41 (x y : Point) : BinRun Try.prog .neq 41 (.agg (Point.enc x).toArray) (.agg (Point.enc y).toArray) (.bool (!decide (x = y))) := EqV.neq eqv41 Try.eqGuardType41 rfl x y
end Go.Proofs.Yteoaobiglodblaa
