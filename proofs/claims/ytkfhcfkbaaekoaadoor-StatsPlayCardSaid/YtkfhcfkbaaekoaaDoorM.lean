/- How this program's data lie in cells. Written by a program of this session. -/
import Derived.Test.YtkfhcfkbaaekoaaDoorK20
import Derived.Test.YtkfhcfkbaaekoaaDoorY
import Derived.Test.YtkfhcfkbaaekoaaDoorProg
import Derived.KernelRfl
namespace Go.Proofs.YtkfhcfkbaaekoaaDoor
open Go K
set_option linter.unusedVariables false
theorem mixed : Tryd.prog.follows .mixedOrders = true := by kernel_rfl
def Key.enc (x : Key) : List Value := [.string x.space, .string x.name]
def k_Key : Kd Key := Kd.pure 2 Key.enc (fun _ => rfl) fun _ => rfl
theorem k_Key_pos : 0 < k_Key.n := by decide
def Service.enc (x : Service) : List Value := [.string x.key.space, .string x.key.name, .int .i64 x.begun, .int .i64 x.filtered, .int .i64 x.rejected, .int .i64 x.full]
def k_Service : Kd Service := Kd.pure 6 Service.enc (fun _ => rfl) fun _ => rfl
theorem k_Service_pos : 0 < k_Service.n := by decide
def Count.enc (x : Count) : List Value := [.int .i64 x.packets, .int .i64 x.bytes]
def k_Count : Kd Count := Kd.pure 2 Count.enc (fun _ => rfl) fun _ => rfl
def A7Count.enc (x : A7Count) : List Value := [.int .i64 x.e0.packets, .int .i64 x.e0.bytes, .int .i64 x.e1.packets, .int .i64 x.e1.bytes, .int .i64 x.e2.packets, .int .i64 x.e2.bytes, .int .i64 x.e3.packets, .int .i64 x.e3.bytes, .int .i64 x.e4.packets, .int .i64 x.e4.bytes, .int .i64 x.e5.packets, .int .i64 x.e5.bytes, .int .i64 x.e6.packets, .int .i64 x.e6.bytes]
def k_A7Count : Kd A7Count := Kd.pure 14 A7Count.enc (fun _ => rfl) fun _ => rfl
def A16i64.enc (x : A16i64) : List Value := [.int .i64 x.e0, .int .i64 x.e1, .int .i64 x.e2, .int .i64 x.e3, .int .i64 x.e4, .int .i64 x.e5, .int .i64 x.e6, .int .i64 x.e7, .int .i64 x.e8, .int .i64 x.e9, .int .i64 x.e10, .int .i64 x.e11, .int .i64 x.e12, .int .i64 x.e13, .int .i64 x.e14, .int .i64 x.e15]
def k_A16i64 : Kd A16i64 := Kd.pure 16 A16i64.enc (fun _ => rfl) fun _ => rfl
def Stats.c (x : Stats) (z0 : Value) : List Value := [.int .i64 x.verdicts.e0.packets, .int .i64 x.verdicts.e0.bytes, .int .i64 x.verdicts.e1.packets, .int .i64 x.verdicts.e1.bytes, .int .i64 x.verdicts.e2.packets, .int .i64 x.verdicts.e2.bytes, .int .i64 x.verdicts.e3.packets, .int .i64 x.verdicts.e3.bytes, .int .i64 x.verdicts.e4.packets, .int .i64 x.verdicts.e4.bytes, .int .i64 x.verdicts.e5.packets, .int .i64 x.verdicts.e5.bytes, .int .i64 x.verdicts.e6.packets, .int .i64 x.verdicts.e6.bytes, z0, .int .i64 x.spans.e0, .int .i64 x.spans.e1, .int .i64 x.spans.e2, .int .i64 x.spans.e3, .int .i64 x.spans.e4, .int .i64 x.spans.e5, .int .i64 x.spans.e6, .int .i64 x.spans.e7, .int .i64 x.spans.e8, .int .i64 x.spans.e9, .int .i64 x.spans.e10, .int .i64 x.spans.e11, .int .i64 x.spans.e12, .int .i64 x.spans.e13, .int .i64 x.spans.e14, .int .i64 x.spans.e15, .int .i64 x.last]
def A16u8.enc (x : A16u8) : List Value := [.int .u8 x.e0, .int .u8 x.e1, .int .u8 x.e2, .int .u8 x.e3, .int .u8 x.e4, .int .u8 x.e5, .int .u8 x.e6, .int .u8 x.e7, .int .u8 x.e8, .int .u8 x.e9, .int .u8 x.e10, .int .u8 x.e11, .int .u8 x.e12, .int .u8 x.e13, .int .u8 x.e14, .int .u8 x.e15]
def k_A16u8 : Kd A16u8 := Kd.pure 16 A16u8.enc (fun _ => rfl) fun _ => rfl
def Addr.enc (x : Addr) : List Value := [.bool x.six, .int .u8 x.b.e0, .int .u8 x.b.e1, .int .u8 x.b.e2, .int .u8 x.b.e3, .int .u8 x.b.e4, .int .u8 x.b.e5, .int .u8 x.b.e6, .int .u8 x.b.e7, .int .u8 x.b.e8, .int .u8 x.b.e9, .int .u8 x.b.e10, .int .u8 x.b.e11, .int .u8 x.b.e12, .int .u8 x.b.e13, .int .u8 x.b.e14, .int .u8 x.b.e15]
def k_Addr : Kd Addr := Kd.pure 17 Addr.enc (fun _ => rfl) fun _ => rfl
def Point.enc (x : Point) : List Value := [.bool x.addr.six, .int .u8 x.addr.b.e0, .int .u8 x.addr.b.e1, .int .u8 x.addr.b.e2, .int .u8 x.addr.b.e3, .int .u8 x.addr.b.e4, .int .u8 x.addr.b.e5, .int .u8 x.addr.b.e6, .int .u8 x.addr.b.e7, .int .u8 x.addr.b.e8, .int .u8 x.addr.b.e9, .int .u8 x.addr.b.e10, .int .u8 x.addr.b.e11, .int .u8 x.addr.b.e12, .int .u8 x.addr.b.e13, .int .u8 x.addr.b.e14, .int .u8 x.addr.b.e15, .int .i64 x.port]
def k_Point : Kd Point := Kd.pure 18 Point.enc (fun _ => rfl) fun _ => rfl
theorem k_Point_pos : 0 < k_Point.n := by decide
def Front.enc (x : Front) : List Value := [.int .i64 x.proto, .bool x.point.addr.six, .int .u8 x.point.addr.b.e0, .int .u8 x.point.addr.b.e1, .int .u8 x.point.addr.b.e2, .int .u8 x.point.addr.b.e3, .int .u8 x.point.addr.b.e4, .int .u8 x.point.addr.b.e5, .int .u8 x.point.addr.b.e6, .int .u8 x.point.addr.b.e7, .int .u8 x.point.addr.b.e8, .int .u8 x.point.addr.b.e9, .int .u8 x.point.addr.b.e10, .int .u8 x.point.addr.b.e11, .int .u8 x.point.addr.b.e12, .int .u8 x.point.addr.b.e13, .int .u8 x.point.addr.b.e14, .int .u8 x.point.addr.b.e15, .int .i64 x.point.port, .string x.service.space, .string x.service.name, .string x.name, .int .i64 x.how, .bool x.localF, .bool x.asked, .int .i64 x.ticks]
def k_Front : Kd Front := Kd.pure 26 Front.enc (fun _ => rfl) fun _ => rfl
theorem k_Front_pos : 0 < k_Front.n := by decide
def Out.c (x : Out) (z0 : Value) : List Value := [.int .i64 x.verdict, z0, .int .i64 x.front.proto, .bool x.front.point.addr.six, .int .u8 x.front.point.addr.b.e0, .int .u8 x.front.point.addr.b.e1, .int .u8 x.front.point.addr.b.e2, .int .u8 x.front.point.addr.b.e3, .int .u8 x.front.point.addr.b.e4, .int .u8 x.front.point.addr.b.e5, .int .u8 x.front.point.addr.b.e6, .int .u8 x.front.point.addr.b.e7, .int .u8 x.front.point.addr.b.e8, .int .u8 x.front.point.addr.b.e9, .int .u8 x.front.point.addr.b.e10, .int .u8 x.front.point.addr.b.e11, .int .u8 x.front.point.addr.b.e12, .int .u8 x.front.point.addr.b.e13, .int .u8 x.front.point.addr.b.e14, .int .u8 x.front.point.addr.b.e15, .int .i64 x.front.point.port, .string x.front.service.space, .string x.front.service.name, .string x.front.name, .int .i64 x.front.how, .bool x.front.localF, .bool x.front.asked, .int .i64 x.front.ticks, .bool x.backend.addr.six, .int .u8 x.backend.addr.b.e0, .int .u8 x.backend.addr.b.e1, .int .u8 x.backend.addr.b.e2, .int .u8 x.backend.addr.b.e3, .int .u8 x.backend.addr.b.e4, .int .u8 x.backend.addr.b.e5, .int .u8 x.backend.addr.b.e6, .int .u8 x.backend.addr.b.e7, .int .u8 x.backend.addr.b.e8, .int .u8 x.backend.addr.b.e9, .int .u8 x.backend.addr.b.e10, .int .u8 x.backend.addr.b.e11, .int .u8 x.backend.addr.b.e12, .int .u8 x.backend.addr.b.e13, .int .u8 x.backend.addr.b.e14, .int .u8 x.backend.addr.b.e15, .int .i64 x.backend.port]
def k_Out : Kd Out := ⟨46, fun F w x cs => ∃ z0, cs = Out.c x z0 ∧ slRep (kInt .u8) F w x.packet z0,
  fun ⟨_, h, _⟩ => by rw [h]; rfl, fun ⟨z0, h, h0⟩ hm => ⟨z0, h, slRep.mono kInt_pos h0 hm⟩,
  fun ⟨z0, h, h0⟩ v hv => by
    obtain ⟨a0, c0, e0⟩ := h0.shape
    rw [h, e0] at hv; exact all_one (l := Out.c _ _) rfl v hv⟩
def Id.enc (x : Id) : List Value := [.string x.service.space, .string x.service.name, .string x.name, .bool x.six, .bool x.localF]
def k_Id : Kd Id := Kd.pure 5 Id.enc (fun _ => rfl) fun _ => rfl
def Table.c (x : Table) (z0 z1 : Value) : List Value := [.int .i64 x.size, z0, z1]
def k_Table : Kd Table := ⟨3, fun F w x cs => ∃ z0 z1, cs = Table.c x z0 z1 ∧ slRep k_Point F w x.backends z0 ∧ slRep (kInt .i64) F w x.slots z1,
  fun ⟨_, _, h, _⟩ => by rw [h]; rfl, fun ⟨z0, z1, h, h0, h1⟩ hm => ⟨z0, z1, h, slRep.mono k_Point_pos h0 hm, slRep.mono kInt_pos h1 hm⟩,
  fun ⟨z0, z1, h, h0, h1⟩ v hv => by
    obtain ⟨a0, c0, e0⟩ := h0.shape
    obtain ⟨a1, c1, e1⟩ := h1.shape
    rw [h, e0, e1] at hv; exact all_one (l := Table.c _ _ _) rfl v hv⟩
def Group.c (x : Group) (z0 z1 : Value) : List Value := [.string x.id.service.space, .string x.id.service.name, .string x.id.name, .bool x.id.six, .bool x.id.localF, .int .i64 x.table.size, z0, z1]
def k_Group : Kd Group := ⟨8, fun F w x cs => ∃ z0 z1, cs = Group.c x z0 z1 ∧ slRep k_Point F w x.table.backends z0 ∧ slRep (kInt .i64) F w x.table.slots z1,
  fun ⟨_, _, h, _⟩ => by rw [h]; rfl, fun ⟨z0, z1, h, h0, h1⟩ hm => ⟨z0, z1, h, slRep.mono k_Point_pos h0 hm, slRep.mono kInt_pos h1 hm⟩,
  fun ⟨z0, z1, h, h0, h1⟩ v hv => by
    obtain ⟨a0, c0, e0⟩ := h0.shape
    obtain ⟨a1, c1, e1⟩ := h1.shape
    rw [h, e0, e1] at hv; exact all_one (l := Group.c _ _ _) rfl v hv⟩
theorem k_Group_pos : 0 < k_Group.n := by decide
def Cidr.enc (x : Cidr) : List Value := [.bool x.addr.six, .int .u8 x.addr.b.e0, .int .u8 x.addr.b.e1, .int .u8 x.addr.b.e2, .int .u8 x.addr.b.e3, .int .u8 x.addr.b.e4, .int .u8 x.addr.b.e5, .int .u8 x.addr.b.e6, .int .u8 x.addr.b.e7, .int .u8 x.addr.b.e8, .int .u8 x.addr.b.e9, .int .u8 x.addr.b.e10, .int .u8 x.addr.b.e11, .int .u8 x.addr.b.e12, .int .u8 x.addr.b.e13, .int .u8 x.addr.b.e14, .int .u8 x.addr.b.e15, .int .i64 x.bits]
def k_Cidr : Kd Cidr := Kd.pure 18 Cidr.enc (fun _ => rfl) fun _ => rfl
theorem k_Cidr_pos : 0 < k_Cidr.n := by decide
def Filter.c (x : Filter) (z0 : Value) : List Value := [.string x.service.space, .string x.service.name, z0]
def k_Filter : Kd Filter := ⟨3, fun F w x cs => ∃ z0, cs = Filter.c x z0 ∧ slRep k_Cidr F w x.ranges z0,
  fun ⟨_, h, _⟩ => by rw [h]; rfl, fun ⟨z0, h, h0⟩ hm => ⟨z0, h, slRep.mono k_Cidr_pos h0 hm⟩,
  fun ⟨z0, h, h0⟩ v hv => by
    obtain ⟨a0, c0, e0⟩ := h0.shape
    rw [h, e0] at hv; exact all_one (l := Filter.c _ _) rfl v hv⟩
theorem k_Filter_pos : 0 < k_Filter.n := by decide
def Rows.c (x : Rows) (z0 z1 z2 : Value) : List Value := [z0, z1, z2]
def k_Rows : Kd Rows := ⟨3, fun F w x cs => ∃ z0 z1 z2, cs = Rows.c x z0 z1 z2 ∧ slRep k_Front F w x.fronts z0 ∧ slRep k_Group F w x.groups z1 ∧ slRep k_Filter F w x.filters z2,
  fun ⟨_, _, _, h, _⟩ => by rw [h]; rfl, fun ⟨z0, z1, z2, h, h0, h1, h2⟩ hm => ⟨z0, z1, z2, h, slRep.mono k_Front_pos h0 hm, slRep.mono k_Group_pos h1 hm, slRep.mono k_Filter_pos h2 hm⟩,
  fun ⟨z0, z1, z2, h, h0, h1, h2⟩ v hv => by
    obtain ⟨a0, c0, e0⟩ := h0.shape
    obtain ⟨a1, c1, e1⟩ := h1.shape
    obtain ⟨a2, c2, e2⟩ := h2.shape
    rw [h, e0, e1, e2] at hv; exact all_one (l := Rows.c _ _ _ _) rfl v hv⟩
def Act.c (x : Act) (z0 : Value) : List Value := [.int .i64 x.kind, .int .i64 x.size, .int .i64 x.now, .int .i64 x.out.verdict, z0, .int .i64 x.out.front.proto, .bool x.out.front.point.addr.six, .int .u8 x.out.front.point.addr.b.e0, .int .u8 x.out.front.point.addr.b.e1, .int .u8 x.out.front.point.addr.b.e2, .int .u8 x.out.front.point.addr.b.e3, .int .u8 x.out.front.point.addr.b.e4, .int .u8 x.out.front.point.addr.b.e5, .int .u8 x.out.front.point.addr.b.e6, .int .u8 x.out.front.point.addr.b.e7, .int .u8 x.out.front.point.addr.b.e8, .int .u8 x.out.front.point.addr.b.e9, .int .u8 x.out.front.point.addr.b.e10, .int .u8 x.out.front.point.addr.b.e11, .int .u8 x.out.front.point.addr.b.e12, .int .u8 x.out.front.point.addr.b.e13, .int .u8 x.out.front.point.addr.b.e14, .int .u8 x.out.front.point.addr.b.e15, .int .i64 x.out.front.point.port, .string x.out.front.service.space, .string x.out.front.service.name, .string x.out.front.name, .int .i64 x.out.front.how, .bool x.out.front.localF, .bool x.out.front.asked, .int .i64 x.out.front.ticks, .bool x.out.backend.addr.six, .int .u8 x.out.backend.addr.b.e0, .int .u8 x.out.backend.addr.b.e1, .int .u8 x.out.backend.addr.b.e2, .int .u8 x.out.backend.addr.b.e3, .int .u8 x.out.backend.addr.b.e4, .int .u8 x.out.backend.addr.b.e5, .int .u8 x.out.backend.addr.b.e6, .int .u8 x.out.backend.addr.b.e7, .int .u8 x.out.backend.addr.b.e8, .int .u8 x.out.backend.addr.b.e9, .int .u8 x.out.backend.addr.b.e10, .int .u8 x.out.backend.addr.b.e11, .int .u8 x.out.backend.addr.b.e12, .int .u8 x.out.backend.addr.b.e13, .int .u8 x.out.backend.addr.b.e14, .int .u8 x.out.backend.addr.b.e15, .int .i64 x.out.backend.port, .int .i64 x.atF, .int .i64 x.spans, .int .i64 x.top]
def k_Act : Kd Act := ⟨52, fun F w x cs => ∃ z0, cs = Act.c x z0 ∧ slRep (kInt .u8) F w x.out.packet z0,
  fun ⟨_, h, _⟩ => by rw [h]; rfl, fun ⟨z0, h, h0⟩ hm => ⟨z0, h, slRep.mono kInt_pos h0 hm⟩,
  fun ⟨z0, h, h0⟩ v hv => by
    obtain ⟨a0, c0, e0⟩ := h0.shape
    rw [h, e0] at hv; exact all_one (l := Act.c _ _) rfl v hv⟩
theorem k_Act_pos : 0 < k_Act.n := by decide
def Told.enc (x : Told) : List Value := [.int .i64 x.verdict, .int .i64 x.size, .int .i64 x.span, .bool x.fronted, .string x.service.space, .string x.service.name]
def k_Told : Kd Told := Kd.pure 6 Told.enc (fun _ => rfl) fun _ => rfl
theorem k_Told_pos : 0 < k_Told.n := by decide
def Stats_2.c (x : Stats_2) (z0 : Value) : List Value := [z0]
def k_Stats_2 : Kd Stats_2 := ⟨1, fun F w x cs => ∃ z0, cs = Stats_2.c x z0 ∧ slRep k_Told F w x.all z0,
  fun ⟨_, h, _⟩ => by rw [h]; rfl, fun ⟨z0, h, h0⟩ hm => ⟨z0, h, slRep.mono k_Told_pos h0 hm⟩,
  fun ⟨z0, h, h0⟩ v hv => by
    obtain ⟨a0, c0, e0⟩ := h0.shape
    rw [h, e0] at hv; exact all_one (l := Stats_2.c _ _) rfl v hv⟩
theorem A7Count.upd_at : ∀ (x : A7Count) (i : Nat) (f : Count → Count) (y : Count), (A7Count.list x)[i]? = some y → (A7Count.list (A7Count.upd x i f))[i]? = some (f y)
  | _, 0, _, _, h => by cases h; rfl
  | _, 1, _, _, h => by cases h; rfl
  | _, 2, _, _, h => by cases h; rfl
  | _, 3, _, _, h => by cases h; rfl
  | _, 4, _, _, h => by cases h; rfl
  | _, 5, _, _, h => by cases h; rfl
  | _, 6, _, _, h => by cases h; rfl
  | _, _ + 7, _, _, h => by cases h
theorem A7Count.part : ∀ (x : A7Count) (i : Nat) (y : Count), (A7Count.list x)[i]? = some y → ((A7Count.enc x).drop (i * 2)).take 2 = Count.enc y
  | _, 0, _, h => by cases h; rfl
  | _, 1, _, h => by cases h; rfl
  | _, 2, _, h => by cases h; rfl
  | _, 3, _, h => by cases h; rfl
  | _, 4, _, h => by cases h; rfl
  | _, 5, _, h => by cases h; rfl
  | _, 6, _, h => by cases h; rfl
  | _, _ + 7, _, h => by cases h
theorem A16i64.upd_at : ∀ (x : A16i64) (i : Nat) (f : Int → Int) (y : Int), (A16i64.list x)[i]? = some y → (A16i64.list (A16i64.upd x i f))[i]? = some (f y)
  | _, 0, _, _, h => by cases h; rfl
  | _, 1, _, _, h => by cases h; rfl
  | _, 2, _, _, h => by cases h; rfl
  | _, 3, _, _, h => by cases h; rfl
  | _, 4, _, _, h => by cases h; rfl
  | _, 5, _, _, h => by cases h; rfl
  | _, 6, _, _, h => by cases h; rfl
  | _, 7, _, _, h => by cases h; rfl
  | _, 8, _, _, h => by cases h; rfl
  | _, 9, _, _, h => by cases h; rfl
  | _, 10, _, _, h => by cases h; rfl
  | _, 11, _, _, h => by cases h; rfl
  | _, 12, _, _, h => by cases h; rfl
  | _, 13, _, _, h => by cases h; rfl
  | _, 14, _, _, h => by cases h; rfl
  | _, 15, _, _, h => by cases h; rfl
  | _, _ + 16, _, _, h => by cases h
theorem Stats.at_spans (x : Stats) (z0 : Value) : ∀ (i : Nat) (y : Int), (A16i64.list x.spans)[i]? = some y → (Stats.c x z0)[15 + i * 1]? = some ((Value.int .i64) y)
  | 0, _, h => by cases h; rfl
  | 1, _, h => by cases h; rfl
  | 2, _, h => by cases h; rfl
  | 3, _, h => by cases h; rfl
  | 4, _, h => by cases h; rfl
  | 5, _, h => by cases h; rfl
  | 6, _, h => by cases h; rfl
  | 7, _, h => by cases h; rfl
  | 8, _, h => by cases h; rfl
  | 9, _, h => by cases h; rfl
  | 10, _, h => by cases h; rfl
  | 11, _, h => by cases h; rfl
  | 12, _, h => by cases h; rfl
  | 13, _, h => by cases h; rfl
  | 14, _, h => by cases h; rfl
  | 15, _, h => by cases h; rfl
  | _ + 16, _, h => by cases h
theorem Stats.set_spans (x : Stats) (z0 : Value) (u : Int) : ∀ (i : Nat), i < 16 → (Stats.c x z0).set (15 + i * 1) ((Value.int .i64) u) = (Stats.c { x with spans := A16i64.upd x.spans i (fun _ => u) } z0)
  | 0, _ => rfl
  | 1, _ => rfl
  | 2, _ => rfl
  | 3, _ => rfl
  | 4, _ => rfl
  | 5, _ => rfl
  | 6, _ => rfl
  | 7, _ => rfl
  | 8, _ => rfl
  | 9, _ => rfl
  | 10, _ => rfl
  | 11, _ => rfl
  | 12, _ => rfl
  | 13, _ => rfl
  | 14, _ => rfl
  | 15, _ => rfl
  | _ + 16, h => absurd h (by omega)
theorem Stats.part_verdicts (x : Stats) (z0 : Value) : ∀ (i : Nat) (y : Count), (A7Count.list x.verdicts)[i]? = some y → ((Stats.c x z0).drop (0 + i * 2)).take 2 = Count.enc y
  | 0, _, h => by cases h; rfl
  | 1, _, h => by cases h; rfl
  | 2, _, h => by cases h; rfl
  | 3, _, h => by cases h; rfl
  | 4, _, h => by cases h; rfl
  | 5, _, h => by cases h; rfl
  | 6, _, h => by cases h; rfl
  | _ + 7, _, h => by cases h
theorem Stats.at_verdicts_bytes (x : Stats) (z0 : Value) : ∀ (i : Nat) (y : Count), (A7Count.list x.verdicts)[i]? = some y → (Stats.c x z0)[0 + i * 2 + 1]? = some ((Value.int .i64) y.bytes)
  | 0, _, h => by cases h; rfl
  | 1, _, h => by cases h; rfl
  | 2, _, h => by cases h; rfl
  | 3, _, h => by cases h; rfl
  | 4, _, h => by cases h; rfl
  | 5, _, h => by cases h; rfl
  | 6, _, h => by cases h; rfl
  | _ + 7, _, h => by cases h
theorem Stats.set_verdicts_bytes (x : Stats) (z0 : Value) (u : Int) : ∀ (i : Nat), i < 7 → (Stats.c x z0).set (0 + i * 2 + 1) ((Value.int .i64) u) = (Stats.c { x with verdicts := A7Count.upd x.verdicts i (fun e => { e with bytes := u }) } z0)
  | 0, _ => rfl
  | 1, _ => rfl
  | 2, _ => rfl
  | 3, _ => rfl
  | 4, _ => rfl
  | 5, _ => rfl
  | 6, _ => rfl
  | _ + 7, h => absurd h (by omega)
theorem Stats.at_verdicts_packets (x : Stats) (z0 : Value) : ∀ (i : Nat) (y : Count), (A7Count.list x.verdicts)[i]? = some y → (Stats.c x z0)[0 + i * 2]? = some ((Value.int .i64) y.packets)
  | 0, _, h => by cases h; rfl
  | 1, _, h => by cases h; rfl
  | 2, _, h => by cases h; rfl
  | 3, _, h => by cases h; rfl
  | 4, _, h => by cases h; rfl
  | 5, _, h => by cases h; rfl
  | 6, _, h => by cases h; rfl
  | _ + 7, _, h => by cases h
theorem Stats.set_verdicts_packets (x : Stats) (z0 : Value) (u : Int) : ∀ (i : Nat), i < 7 → (Stats.c x z0).set (0 + i * 2) ((Value.int .i64) u) = (Stats.c { x with verdicts := A7Count.upd x.verdicts i (fun e => { e with packets := u }) } z0)
  | 0, _ => rfl
  | 1, _ => rfl
  | 2, _ => rfl
  | 3, _ => rfl
  | 4, _ => rfl
  | 5, _ => rfl
  | 6, _ => rfl
  | _ + 7, h => absurd h (by omega)
theorem fa34_0 : FA Tryd.prog 34 0 0 := FA.mk Tryd.underlying34 rfl rfl rfl Tryd.sizeOf9 rfl
theorem fa34_1 : FA Tryd.prog 34 1 1 := FA.mk Tryd.underlying34 rfl rfl rfl Tryd.sizeOf9 rfl
theorem fa36_0 : FA Tryd.prog 36 0 0 := FA.mk Tryd.underlying36 rfl rfl rfl Tryd.sizeOf3 rfl
theorem fa36_2 : FA Tryd.prog 36 2 19 := FA.mk Tryd.underlying36 rfl rfl rfl Tryd.sizeOf34 rfl
theorem fa36_3 : FA Tryd.prog 36 3 21 := FA.mk Tryd.underlying36 rfl rfl rfl Tryd.sizeOf9 rfl
theorem fa38_0 : FA Tryd.prog 38 0 0 := FA.mk Tryd.underlying38 rfl rfl rfl Tryd.sizeOf3 rfl
theorem fa38_1 : FA Tryd.prog 38 1 1 := FA.mk Tryd.underlying38 rfl rfl rfl Tryd.sizeOf27 rfl
theorem fa38_2 : FA Tryd.prog 38 2 2 := FA.mk Tryd.underlying38 rfl rfl rfl Tryd.sizeOf36 rfl
theorem fa38_3 : FA Tryd.prog 38 3 28 := FA.mk Tryd.underlying38 rfl rfl rfl Tryd.sizeOf32 rfl
theorem fa40_0 : FA Tryd.prog 40 0 0 := FA.mk Tryd.underlying40 rfl rfl rfl Tryd.sizeOf3 rfl
theorem fa40_1 : FA Tryd.prog 40 1 1 := FA.mk Tryd.underlying40 rfl rfl rfl Tryd.sizeOf3 rfl
theorem fa40_2 : FA Tryd.prog 40 2 2 := FA.mk Tryd.underlying40 rfl rfl rfl Tryd.sizeOf3 rfl
theorem fa40_3 : FA Tryd.prog 40 3 3 := FA.mk Tryd.underlying40 rfl rfl rfl Tryd.sizeOf38 rfl
theorem fa40_4 : FA Tryd.prog 40 4 49 := FA.mk Tryd.underlying40 rfl rfl rfl Tryd.sizeOf3 rfl
theorem fa40_5 : FA Tryd.prog 40 5 50 := FA.mk Tryd.underlying40 rfl rfl rfl Tryd.sizeOf3 rfl
theorem fa40_6 : FA Tryd.prog 40 6 51 := FA.mk Tryd.underlying40 rfl rfl rfl Tryd.sizeOf3 rfl
theorem fa42_0 : FA Tryd.prog 42 0 0 := FA.mk Tryd.underlying42 rfl rfl rfl Tryd.sizeOf3 rfl
theorem fa42_1 : FA Tryd.prog 42 1 1 := FA.mk Tryd.underlying42 rfl rfl rfl Tryd.sizeOf3 rfl
theorem fa51_0 : FA Tryd.prog 51 0 0 := FA.mk Tryd.underlying51 rfl rfl rfl Tryd.sizeOf34 rfl
theorem fa51_1 : FA Tryd.prog 51 1 2 := FA.mk Tryd.underlying51 rfl rfl rfl Tryd.sizeOf3 rfl
theorem fa51_2 : FA Tryd.prog 51 2 3 := FA.mk Tryd.underlying51 rfl rfl rfl Tryd.sizeOf3 rfl
theorem fa51_3 : FA Tryd.prog 51 3 4 := FA.mk Tryd.underlying51 rfl rfl rfl Tryd.sizeOf3 rfl
theorem fa51_4 : FA Tryd.prog 51 4 5 := FA.mk Tryd.underlying51 rfl rfl rfl Tryd.sizeOf3 rfl
theorem fa56_0 : FA Tryd.prog 56 0 0 := FA.mk Tryd.underlying56 rfl rfl rfl Tryd.sizeOf54 rfl
theorem fa59_0 : FA Tryd.prog 59 0 0 := FA.mk Tryd.underlying59 rfl rfl rfl Tryd.sizeOf3 rfl
theorem fa59_2 : FA Tryd.prog 59 2 19 := FA.mk Tryd.underlying59 rfl rfl rfl Tryd.sizeOf34 rfl
theorem fa61_0 : FA Tryd.prog 61 0 0 := FA.mk Tryd.underlying61 rfl rfl rfl Tryd.sizeOf3 rfl
theorem fa61_2 : FA Tryd.prog 61 2 2 := FA.mk Tryd.underlying61 rfl rfl rfl Tryd.sizeOf59 rfl
theorem fa76_0 : FA Tryd.prog 76 0 0 := FA.mk Tryd.underlying76 rfl rfl rfl Tryd.sizeOf72 rfl
theorem fa76_1 : FA Tryd.prog 76 1 1 := FA.mk Tryd.underlying76 rfl rfl rfl Tryd.sizeOf73 rfl
theorem fa76_2 : FA Tryd.prog 76 2 2 := FA.mk Tryd.underlying76 rfl rfl rfl Tryd.sizeOf74 rfl
theorem fa81_0 : FA Tryd.prog 81 0 0 := FA.mk Tryd.underlying81 rfl rfl rfl Tryd.sizeOf78 rfl
theorem fa81_1 : FA Tryd.prog 81 1 14 := FA.mk Tryd.underlying81 rfl rfl rfl Tryd.sizeOf77 rfl
theorem fa81_2 : FA Tryd.prog 81 2 15 := FA.mk Tryd.underlying81 rfl rfl rfl Tryd.sizeOf79 rfl
theorem fa81_3 : FA Tryd.prog 81 3 31 := FA.mk Tryd.underlying81 rfl rfl rfl Tryd.sizeOf3 rfl
theorem fa97_0 : FA Tryd.prog 97 0 0 := FA.mk Tryd.underlying97 rfl rfl rfl Tryd.sizeOf3 rfl
theorem fa97_1 : FA Tryd.prog 97 1 1 := FA.mk Tryd.underlying97 rfl rfl rfl Tryd.sizeOf3 rfl
theorem fa97_2 : FA Tryd.prog 97 2 2 := FA.mk Tryd.underlying97 rfl rfl rfl Tryd.sizeOf3 rfl
theorem fa97_3 : FA Tryd.prog 97 3 3 := FA.mk Tryd.underlying97 rfl rfl rfl Tryd.sizeOf4 rfl
theorem fa97_4 : FA Tryd.prog 97 4 4 := FA.mk Tryd.underlying97 rfl rfl rfl Tryd.sizeOf34 rfl
theorem fa98_1 : FA Tryd.prog 98 1 2 := FA.mk Tryd.underlying98 rfl rfl rfl Tryd.sizeOf3 rfl
theorem fa98_2 : FA Tryd.prog 98 2 3 := FA.mk Tryd.underlying98 rfl rfl rfl Tryd.sizeOf3 rfl
theorem fa98_3 : FA Tryd.prog 98 3 4 := FA.mk Tryd.underlying98 rfl rfl rfl Tryd.sizeOf3 rfl
theorem fa98_4 : FA Tryd.prog 98 4 5 := FA.mk Tryd.underlying98 rfl rfl rfl Tryd.sizeOf3 rfl
theorem fa102_0 : FA Tryd.prog 102 0 0 := FA.mk Tryd.underlying102 rfl rfl rfl Tryd.sizeOf34 rfl
theorem fa102_1 : FA Tryd.prog 102 1 2 := FA.mk Tryd.underlying102 rfl rfl rfl Tryd.sizeOf9 rfl
theorem fa106_1 : FA Tryd.prog 106 1 1 := FA.mk Tryd.underlying106 rfl rfl rfl Tryd.sizeOf103 rfl
theorem fa106_2 : FA Tryd.prog 106 2 2 := FA.mk Tryd.underlying106 rfl rfl rfl Tryd.sizeOf104 rfl
theorem fa108_0 : FA Tryd.prog 108 0 0 := FA.mk Tryd.underlying108 rfl rfl rfl Tryd.sizeOf102 rfl
theorem fa108_1 : FA Tryd.prog 108 1 5 := FA.mk Tryd.underlying108 rfl rfl rfl Tryd.sizeOf106 rfl
theorem fa111_0 : FA Tryd.prog 111 0 0 := FA.mk Tryd.underlying111 rfl rfl rfl Tryd.sizeOf34 rfl
theorem fa111_1 : FA Tryd.prog 111 1 2 := FA.mk Tryd.underlying111 rfl rfl rfl Tryd.sizeOf109 rfl
theorem pl38 : Places Tryd.prog 38 [(0, 1), (1, 1), (2, 26), (28, 18)] := ⟨_, Tryd.underlying38, fun w => by simp [Tryd.sizeOf27, Tryd.sizeOf3, Tryd.sizeOf32, Tryd.sizeOf36]⟩
theorem pl42 : Places Tryd.prog 42 [(0, 1), (1, 1)] := ⟨_, Tryd.underlying42, fun w => by simp [Tryd.sizeOf3]⟩
theorem pl56 : Places Tryd.prog 56 [(0, 1)] := ⟨_, Tryd.underlying56, fun w => by simp [Tryd.sizeOf54]⟩
theorem pl61 : Places Tryd.prog 61 [(0, 1), (1, 1), (2, 26), (28, 18)] := ⟨_, Tryd.underlying61, fun w => by simp [Tryd.sizeOf27, Tryd.sizeOf3, Tryd.sizeOf32, Tryd.sizeOf59]⟩
theorem pl76 : Places Tryd.prog 76 [(0, 1), (1, 1), (2, 1)] := ⟨_, Tryd.underlying76, fun w => by simp [Tryd.sizeOf72, Tryd.sizeOf73, Tryd.sizeOf74]⟩
theorem pl81 : Places Tryd.prog 81 [(0, 14), (14, 1), (15, 16), (31, 1)] := ⟨_, Tryd.underlying81, fun w => by simp [Tryd.sizeOf3, Tryd.sizeOf77, Tryd.sizeOf78, Tryd.sizeOf79]⟩
theorem pl97 : Places Tryd.prog 97 [(0, 1), (1, 1), (2, 1), (3, 1), (4, 2)] := ⟨_, Tryd.underlying97, fun w => by simp [Tryd.sizeOf3, Tryd.sizeOf34, Tryd.sizeOf4]⟩
theorem pl98 : Places Tryd.prog 98 [(0, 2), (2, 1), (3, 1), (4, 1), (5, 1)] := ⟨_, Tryd.underlying98, fun w => by simp [Tryd.sizeOf3, Tryd.sizeOf34]⟩
theorem ap48 : AppT Tryd.prog 48 51 6 := AppT.of (z := Value.agg #[.string ⟨#[]⟩, .string ⟨#[]⟩, .int .i64 0, .int .i64 0, .int .i64 0, .int .i64 0]) (by' := 64) Tryd.underlying48 (by kernel_rfl) rfl rfl
theorem ap54 : AppT Tryd.prog 54 97 6 := AppT.of (z := Value.agg #[.int .i64 0, .int .i64 0, .int .i64 0, .bool false, .string ⟨#[]⟩, .string ⟨#[]⟩]) (by' := 64) Tryd.underlying54 (by kernel_rfl) rfl rfl
theorem ap66 : AppT Tryd.prog 66 98 6 := AppT.of (z := Value.agg #[.string ⟨#[]⟩, .string ⟨#[]⟩, .int .i64 0, .int .i64 0, .int .i64 0, .int .i64 0]) (by' := 64) Tryd.underlying66 (by kernel_rfl) rfl rfl
theorem ap99 : AppT Tryd.prog 99 34 2 := AppT.of (z := Value.agg #[.string ⟨#[]⟩, .string ⟨#[]⟩]) (by' := 32) Tryd.underlying99 (by kernel_rfl) rfl rfl
theorem en5 : Enters Tryd.prog 5 := enters_of Tryd.func5 rfl rfl
theorem en6 : Enters Tryd.prog 6 := enters_of Tryd.func6 rfl rfl
theorem en7 : Enters Tryd.prog 7 := enters_of Tryd.func7 rfl rfl
theorem en8 : Enters Tryd.prog 8 := enters_of Tryd.func8 rfl rfl
theorem en9 : Enters Tryd.prog 9 := enters_of Tryd.func9 rfl rfl
theorem en10 : Enters Tryd.prog 10 := enters_of Tryd.func10 rfl rfl
theorem en11 : Enters Tryd.prog 11 := enters_of Tryd.func11 rfl rfl
theorem en12 : Enters Tryd.prog 12 := enters_of Tryd.func12 rfl rfl
theorem en13 : Enters Tryd.prog 13 := enters_of Tryd.func13 rfl rfl
theorem en14 : Enters Tryd.prog 14 := enters_of Tryd.func14 rfl rfl
theorem en15 : Enters Tryd.prog 15 := enters_of Tryd.func15 rfl rfl
theorem en16 : Enters Tryd.prog 16 := enters_of Tryd.func16 rfl rfl
theorem en17 : Enters Tryd.prog 17 := enters_of Tryd.func17 rfl rfl
theorem en18 : Enters Tryd.prog 18 := enters_of Tryd.func18 rfl rfl
theorem en19 : Enters Tryd.prog 19 := enters_of Tryd.func19 rfl rfl
theorem en20 : Enters Tryd.prog 20 := enters_of Tryd.func20 rfl rfl
theorem en21 : Enters Tryd.prog 21 := enters_of Tryd.func21 rfl rfl
theorem en22 : Enters Tryd.prog 22 := enters_of Tryd.func22 rfl rfl
theorem en23 : Enters Tryd.prog 23 := enters_of Tryd.func23 rfl rfl
theorem en24 : Enters Tryd.prog 24 := enters_of Tryd.func24 rfl rfl
theorem en25 : Enters Tryd.prog 25 := enters_of Tryd.func25 rfl rfl
theorem en26 : Enters Tryd.prog 26 := enters_of Tryd.func26 rfl rfl
theorem en27 : Enters Tryd.prog 27 := enters_of Tryd.func27 rfl rfl
theorem en28 : Enters Tryd.prog 28 := enters_of Tryd.func28 rfl rfl
theorem en29 : Enters Tryd.prog 29 := enters_of Tryd.func29 rfl rfl
theorem en30 : Enters Tryd.prog 30 := enters_of Tryd.func30 rfl rfl
theorem en31 : Enters Tryd.prog 31 := enters_of Tryd.func31 rfl rfl
theorem en32 : Enters Tryd.prog 32 := enters_of Tryd.func32 rfl rfl
theorem en33 : Enters Tryd.prog 33 := enters_of Tryd.func33 rfl rfl
theorem en34 : Enters Tryd.prog 34 := enters_of Tryd.func34 rfl rfl
theorem en35 : Enters Tryd.prog 35 := enters_of Tryd.func35 rfl rfl
theorem en36 : Enters Tryd.prog 36 := enters_of Tryd.func36 rfl rfl
theorem en37 : Enters Tryd.prog 37 := enters_of Tryd.func37 rfl rfl
theorem en38 : Enters Tryd.prog 38 := enters_of Tryd.func38 rfl rfl
theorem en39 : Enters Tryd.prog 39 := enters_of Tryd.func39 rfl rfl
theorem en40 : Enters Tryd.prog 40 := enters_of Tryd.func40 rfl rfl
theorem en41 : Enters Tryd.prog 41 := enters_of Tryd.func41 rfl rfl
theorem en42 : Enters Tryd.prog 42 := enters_of Tryd.func42 rfl rfl
theorem en45 : Enters Tryd.prog 45 := enters_of Tryd.func45 rfl rfl
theorem en46 : Enters Tryd.prog 46 := enters_of Tryd.func46 rfl rfl
theorem en49 : Enters Tryd.prog 49 := enters_of Tryd.func49 rfl rfl
theorem en50 : Enters Tryd.prog 50 := enters_of Tryd.func50 rfl rfl
theorem en51 : Enters Tryd.prog 51 := enters_of Tryd.func51 rfl rfl
theorem en61 : Enters Tryd.prog 61 := enters_of Tryd.func61 rfl rfl
theorem en67 : Enters Tryd.prog 67 := enters_of Tryd.func67 rfl rfl
theorem eqv9 : EqV Tryd.prog 9 Value.string 1 := EqV.string Tryd.underlying9
theorem eqv34 : EqV Tryd.prog 34 (fun x => Value.agg (Key.enc x).toArray) 2 := by
  refine EqV.struct (val := Key.enc) Tryd.underlying34 Tryd.stoodInHeld34 fun d x y w hd => ?_
  refine Eq.trans (b := .ok (decide (x.space = y.space) && (decide (x.name = y.name) && true)) w) ?_ (by cases x; cases y; simp)
  refine eqf_cons (a := Value.string x.space) (b := Value.string y.space) rfl (part_S Tryd.isAgg9 rfl) (part_S Tryd.isAgg9 rfl) (eqv9 d x.space y.space w (ble_trans hd rfl)) ?_
  refine eqf_cons (a := Value.string x.name) (b := Value.string y.name) rfl (part_S Tryd.isAgg9 rfl) (part_S Tryd.isAgg9 rfl) (eqv9 d x.name y.name w (ble_trans hd rfl)) ?_
  exact eqf_nil
theorem kv9 : KeyV Tryd.prog 9 Value.string 1 := KeyV.string Tryd.underlying9
theorem kv34 : KeyV Tryd.prog 34 (fun x => Value.agg (Key.enc x).toArray) 2 := KeyV.struct (n := 1) (val := Key.enc) Tryd.underlying34 fun b d x w hd => fc_cons ⟨_, part_S Tryd.isAgg9 rfl, kv9 b d x.space w (ble_trans hd rfl)⟩ (fc_cons ⟨_, part_S Tryd.isAgg9 rfl, kv9 b d x.name w (ble_trans hd rfl)⟩ (fc_nil))
theorem kt34 : KeyT Tryd.prog 34 (fun x => Value.agg (Key.enc x).toArray) := KeyT.agg (val := Key.enc) Tryd.underlying34 eqv34 kv34 rfl rfl (fun x => rfl)
theorem eql34 (x y : Key) : BinRun Tryd.prog .eql 34 (.agg (Key.enc x).toArray) (.agg (Key.enc y).toArray) (.bool (decide (x = y))) := EqV.eql eqv34 Tryd.eqGuardType34 rfl x y
theorem neq34 (x y : Key) : BinRun Tryd.prog .neq 34 (.agg (Key.enc x).toArray) (.agg (Key.enc y).toArray) (.bool (!decide (x = y))) := EqV.neq eqv34 Tryd.eqGuardType34 rfl x y
theorem eqv3 : EqV Tryd.prog 3 (Value.int .i64) 1 := EqV.int Tryd.underlying3
theorem eqv98 : EqV Tryd.prog 98 (fun x => Value.agg (Service.enc x).toArray) 3 := by
  refine EqV.struct (val := Service.enc) Tryd.underlying98 Tryd.stoodInHeld98 fun d x y w hd => ?_
  refine Eq.trans (b := .ok (decide (x.key = y.key) && (decide (x.begun = y.begun) && (decide (x.filtered = y.filtered) && (decide (x.rejected = y.rejected) && (decide (x.full = y.full) && true))))) w) ?_ (by cases x; cases y; simp)
  refine eqf_cons (a := .agg (Key.enc x.key).toArray) (b := .agg (Key.enc y.key).toArray) rfl (part_A (es := Key.enc x.key) Tryd.isAgg34 Tryd.sizeOf34 rfl) (part_A (es := Key.enc y.key) Tryd.isAgg34 Tryd.sizeOf34 rfl) (eqv34 d x.key y.key w (ble_trans hd rfl)) ?_
  refine eqf_cons (a := Value.int .i64 x.begun) (b := Value.int .i64 y.begun) rfl (part_S Tryd.isAgg3 rfl) (part_S Tryd.isAgg3 rfl) (eqv3 d x.begun y.begun w (ble_trans hd rfl)) ?_
  refine eqf_cons (a := Value.int .i64 x.filtered) (b := Value.int .i64 y.filtered) rfl (part_S Tryd.isAgg3 rfl) (part_S Tryd.isAgg3 rfl) (eqv3 d x.filtered y.filtered w (ble_trans hd rfl)) ?_
  refine eqf_cons (a := Value.int .i64 x.rejected) (b := Value.int .i64 y.rejected) rfl (part_S Tryd.isAgg3 rfl) (part_S Tryd.isAgg3 rfl) (eqv3 d x.rejected y.rejected w (ble_trans hd rfl)) ?_
  refine eqf_cons (a := Value.int .i64 x.full) (b := Value.int .i64 y.full) rfl (part_S Tryd.isAgg3 rfl) (part_S Tryd.isAgg3 rfl) (eqv3 d x.full y.full w (ble_trans hd rfl)) ?_
  exact eqf_nil
theorem neq98 (x y : Service) : BinRun Tryd.prog .neq 98 (.agg (Service.enc x).toArray) (.agg (Service.enc y).toArray) (.bool (!decide (x = y))) := EqV.neq eqv98 Tryd.eqGuardType98 rfl x y
end Go.Proofs.YtkfhcfkbaaekoaaDoor
