/- How this program's data lie in cells. Written by a program of this session. -/
import Derived.Test.YtkopifmkikaaiaaK19
import Derived.Test.YtkopifmkikaaiaaY
import Derived.Test.YtkopifmkikaaiaaProg
import Derived.KernelRfl
namespace Go.Proofs.Ytkopifmkikaaiaa
open Go K
set_option linter.unusedVariables false
theorem mixed : Try.prog.follows .mixedOrders = true := by kernel_rfl
def Key.enc (x : Key) : List Value := [.string x.space, .string x.name]
def k_Key : Kd Key := Kd.pure 2 Key.enc (fun _ => rfl) fun _ => rfl
theorem k_Key_pos : 0 < k_Key.n := by decide
def St50.enc (x : St50) : List Value := []
def k_St50 : Kd St50 := Kd.pure 0 St50.enc (fun _ => rfl) fun _ => rfl
def Index_2.c (x : Index_2) (z0 z1 : Value) : List Value := [z0, z1]
def Act.enc (x : Act) : List Value := [.int .i64 x.kind, .string x.slice.space, .string x.slice.name, .string x.owner.space, .string x.owner.name]
def k_Act : Kd Act := Kd.pure 5 Act.enc (fun _ => rfl) fun _ => rfl
theorem k_Act_pos : 0 < k_Act.n := by decide
def A2Key.enc (x : A2Key) : List Value := [.string x.e0.space, .string x.e0.name, .string x.e1.space, .string x.e1.name]
def k_A2Key : Kd A2Key := Kd.pure 4 A2Key.enc (fun _ => rfl) fun _ => rfl
theorem k_A2Key_pos : 0 < k_A2Key.n := by decide
def Index_3.c (x : Index_3) (z0 : Value) : List Value := [z0]
def k_Index_3 : Kd Index_3 := ⟨1, fun F w x cs => ∃ z0, cs = Index_3.c x z0 ∧ slRep k_A2Key F w x.all z0,
  fun ⟨_, h, _⟩ => by rw [h]; rfl, fun ⟨z0, h, h0⟩ hm => ⟨z0, h, slRep.mono k_A2Key_pos h0 hm⟩,
  fun ⟨z0, h, h0⟩ v hv => by
    obtain ⟨a0, c0, e0⟩ := h0.shape
    rw [h, e0] at hv; exact all_one (l := Index_3.c _ _) rfl v hv⟩
theorem k_Index_3_pos : 0 < k_Index_3.n := by decide
theorem fa30_0 : FA Try.prog 30 0 0 := FA.mk Try.underlying30 rfl rfl rfl Try.sizeOf28 rfl
theorem fa32_0 : FA Try.prog 32 0 0 := FA.mk Try.underlying32 rfl rfl rfl Try.sizeOf9 rfl
theorem fa32_1 : FA Try.prog 32 1 1 := FA.mk Try.underlying32 rfl rfl rfl Try.sizeOf9 rfl
theorem fa34_0 : FA Try.prog 34 0 0 := FA.mk Try.underlying34 rfl rfl rfl Try.sizeOf3 rfl
theorem fa34_1 : FA Try.prog 34 1 1 := FA.mk Try.underlying34 rfl rfl rfl Try.sizeOf32 rfl
theorem fa34_2 : FA Try.prog 34 2 3 := FA.mk Try.underlying34 rfl rfl rfl Try.sizeOf32 rfl
theorem fa47_0 : FA Try.prog 47 0 0 := FA.mk Try.underlying47 rfl rfl rfl Try.sizeOf44 rfl
theorem fa47_1 : FA Try.prog 47 1 1 := FA.mk Try.underlying47 rfl rfl rfl Try.sizeOf45 rfl
theorem pl30 : Places Try.prog 30 [(0, 1)] := ⟨_, Try.underlying30, fun w => by simp [Try.sizeOf28]⟩
theorem pl32 : Places Try.prog 32 [(0, 1), (1, 1)] := ⟨_, Try.underlying32, fun w => by simp [Try.sizeOf9]⟩
theorem pl47 : Places Try.prog 47 [(0, 1), (1, 1)] := ⟨_, Try.underlying47, fun w => by simp [Try.sizeOf44, Try.sizeOf45]⟩
theorem pl50 : Places Try.prog 50 [] := ⟨_, Try.underlying50, fun w => by simp []⟩
theorem ap22 : AppT Try.prog 22 34 5 := AppT.of (z := Value.agg #[.int .i64 0, .string ⟨#[]⟩, .string ⟨#[]⟩, .string ⟨#[]⟩, .string ⟨#[]⟩]) (by' := 72) Try.underlying22 (by kernel_rfl) rfl rfl
theorem ap28 : AppT Try.prog 28 51 4 := AppT.of (z := Value.agg #[.string ⟨#[]⟩, .string ⟨#[]⟩, .string ⟨#[]⟩, .string ⟨#[]⟩]) (by' := 64) Try.underlying28 (by kernel_rfl) rfl rfl
theorem ap40 : AppT Try.prog 40 32 2 := AppT.of (z := Value.agg #[.string ⟨#[]⟩, .string ⟨#[]⟩]) (by' := 32) Try.underlying40 (by kernel_rfl) rfl rfl
theorem en5 : Enters Try.prog 5 := enters_of Try.func5 rfl rfl
theorem en6 : Enters Try.prog 6 := enters_of Try.func6 rfl rfl
theorem en7 : Enters Try.prog 7 := enters_of Try.func7 rfl rfl
theorem en8 : Enters Try.prog 8 := enters_of Try.func8 rfl rfl
theorem en9 : Enters Try.prog 9 := enters_of Try.func9 rfl rfl
theorem en10 : Enters Try.prog 10 := enters_of Try.func10 rfl rfl
theorem en11 : Enters Try.prog 11 := enters_of Try.func11 rfl rfl
theorem en12 : Enters Try.prog 12 := enters_of Try.func12 rfl rfl
theorem en13 : Enters Try.prog 13 := enters_of Try.func13 rfl rfl
theorem en14 : Enters Try.prog 14 := enters_of Try.func14 rfl rfl
theorem en15 : Enters Try.prog 15 := enters_of Try.func15 rfl rfl
theorem en16 : Enters Try.prog 16 := enters_of Try.func16 rfl rfl
theorem en17 : Enters Try.prog 17 := enters_of Try.func17 rfl rfl
theorem en18 : Enters Try.prog 18 := enters_of Try.func18 rfl rfl
theorem en19 : Enters Try.prog 19 := enters_of Try.func19 rfl rfl
theorem en20 : Enters Try.prog 20 := enters_of Try.func20 rfl rfl
theorem en21 : Enters Try.prog 21 := enters_of Try.func21 rfl rfl
theorem en22 : Enters Try.prog 22 := enters_of Try.func22 rfl rfl
theorem en23 : Enters Try.prog 23 := enters_of Try.func23 rfl rfl
theorem en24 : Enters Try.prog 24 := enters_of Try.func24 rfl rfl
theorem en25 : Enters Try.prog 25 := enters_of Try.func25 rfl rfl
theorem en26 : Enters Try.prog 26 := enters_of Try.func26 rfl rfl
theorem en27 : Enters Try.prog 27 := enters_of Try.func27 rfl rfl
theorem en28 : Enters Try.prog 28 := enters_of Try.func28 rfl rfl
theorem en29 : Enters Try.prog 29 := enters_of Try.func29 rfl rfl
theorem en30 : Enters Try.prog 30 := enters_of Try.func30 rfl rfl
theorem en31 : Enters Try.prog 31 := enters_of Try.func31 rfl rfl
theorem en32 : Enters Try.prog 32 := enters_of Try.func32 rfl rfl
theorem en33 : Enters Try.prog 33 := enters_of Try.func33 rfl rfl
theorem en36 : Enters Try.prog 36 := enters_of Try.func36 rfl rfl
theorem en37 : Enters Try.prog 37 := enters_of Try.func37 rfl rfl
theorem en48 : Enters Try.prog 48 := enters_of Try.func48 rfl rfl
theorem eqv9 : EqV Try.prog 9 Value.string 1 := EqV.string Try.underlying9
theorem eqv32 : EqV Try.prog 32 (fun x => Value.agg (Key.enc x).toArray) 2 := by
  refine EqV.struct (val := Key.enc) Try.underlying32 Try.stoodInHeld32 fun d x y w hd => ?_
  refine Eq.trans (b := .ok (decide (x.space = y.space) && (decide (x.name = y.name) && true)) w) ?_ (by cases x; cases y; simp)
  refine eqf_cons (a := Value.string x.space) (b := Value.string y.space) rfl (part_S Try.isAgg9 rfl) (part_S Try.isAgg9 rfl) (eqv9 d x.space y.space w (ble_trans hd rfl)) ?_
  refine eqf_cons (a := Value.string x.name) (b := Value.string y.name) rfl (part_S Try.isAgg9 rfl) (part_S Try.isAgg9 rfl) (eqv9 d x.name y.name w (ble_trans hd rfl)) ?_
  exact eqf_nil
theorem kv9 : KeyV Try.prog 9 Value.string 1 := KeyV.string Try.underlying9
theorem kv32 : KeyV Try.prog 32 (fun x => Value.agg (Key.enc x).toArray) 2 := KeyV.struct (n := 1) (val := Key.enc) Try.underlying32 fun b d x w hd => fc_cons ⟨_, part_S Try.isAgg9 rfl, kv9 b d x.space w (ble_trans hd rfl)⟩ (fc_cons ⟨_, part_S Try.isAgg9 rfl, kv9 b d x.name w (ble_trans hd rfl)⟩ (fc_nil))
theorem kt32 : KeyT Try.prog 32 (fun x => Value.agg (Key.enc x).toArray) := KeyT.agg (val := Key.enc) Try.underlying32 eqv32 kv32 rfl rfl (fun x => rfl)
theorem eql32 (x y : Key) : BinRun Try.prog .eql 32 (.agg (Key.enc x).toArray) (.agg (Key.enc y).toArray) (.bool (decide (x = y))) := EqV.eql eqv32 Try.eqGuardType32 rfl x y
theorem neq32 (x y : Key) : BinRun Try.prog .neq 32 (.agg (Key.enc x).toArray) (.agg (Key.enc y).toArray) (.bool (!decide (x = y))) := EqV.neq eqv32 Try.eqGuardType32 rfl x y
end Go.Proofs.Ytkopifmkikaaiaa
