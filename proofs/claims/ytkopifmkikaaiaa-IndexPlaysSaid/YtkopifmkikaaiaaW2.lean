/- The walks through the code: each call comes to its printed function. Written by a program of this session. -/
import Derived.Test.YtkopifmkikaaiaaM
import Derived.Test.YtkopifmkikaaiaaL
import Derived.Test.YtkopifmkikaaiaaW1
namespace Go.Proofs.Ytkopifmkikaaiaa
open Go K
set_option linter.unusedVariables false
/-- (*lb/lbref16.Index).Drop -/
theorem ctr11 (F : Nat → Prop) (w : World) (Bb : Nat) (S2 : Nat → Prop) (hB : Bb ≤ w.heap.size) (h2 : ∀ b, S2 b → b < w.heap.size) (po0 : Nat) (az0_0 : Value) (hd2 : ∀ b, (un (inBlk (PV po0)) (inBlk az0_0)) b → ¬ S2 b) (hx0_1 : ∀ b, inBlk (PV po0) b → ¬ inBlk az0_0 b) (a0 : Index_3) (ah0 : Blk w po0 30 (Index_3.c a0 az0_0)) (ah0_0 : SlO k_A2Key 51 F Bb (un (inBlk (PV po0)) (un (inBlk az0_0) S2)) w a0.all az0_0) (a1 : Key) (r : (Key × Bool × Index_3)) (hs : F11_Drop a0 a1 = some r) :
    Ret Try.prog 11 #[(PV po0), (Value.agg (Key.enc a1).toArray)] w fun v w' => ∃ (nz0_0 : Value), v = Value.tuple #[(Value.agg (Key.enc r.1).toArray), (Value.bool r.2.1)] ∧ Blk w' po0 30 (Index_3.c r.2.2 nz0_0) ∧ SlO k_A2Key 51 F Bb (un (inBlk (PV po0)) (un (inBlk nz0_0) S2)) w' r.2.2.all nz0_0 ∧ (∀ b, inBlk nz0_0 b → (un (inBlk (PV po0)) (inBlk az0_0)) b ∨ w.heap.size ≤ b) ∧ (∀ b, inBlk (PV po0) b → ¬ inBlk nz0_0 b) ∧ Ch (un (inBlk (PV po0)) (inBlk az0_0)) w w' := by
 have hS := hs
 have c0 : Ch (un (inBlk (PV po0)) (inBlk az0_0)) w w := Ch.refl
 have lin0_0 : ∀ b, inBlk (PV po0) b → (un (inBlk (PV po0)) (inBlk az0_0)) b ∨ w.heap.size ≤ b := fun b h => .inl (.inl h)
 have lin1_0 : ∀ b, inBlk az0_0 b → (un (inBlk (PV po0)) (inBlk az0_0)) b ∨ w.heap.size ≤ b := fun b h => .inl (.inr h)
 refine Ret.of (n := 42) (args := [_, _]) (rs := [.cell 4 32, .tmp 5]) Try.func11 rfl rfl rfl rfl ?_
 refine CW.seq (CW.region ?_)
 refine rl_boxA (cs := (Key.enc a1)) rfl rfl ?_
 intro p1 w2 n3 k4
 have gp1 : (G F Bb (un (inBlk (PV po0)) (un (inBlk az0_0) S2))) p1 := ⟨.inr (by rw [n3.eq]; exact (Nat.le_trans hB c0.size)), fun h => absurd ((un_lt ah0.ltp (un_lt (fun b hb => (ah0_0.lt b hb).2) (fun b h => Nat.lt_of_lt_of_le (h2 b h) c0.size))) _ h) (by rw [n3.eq]; exact Nat.lt_irrefl _)⟩
 have ah0 := ah0.ch0 n3.ch
 have ah0_0 := ah0_0.ch0 n3.ch
 have c0 := c0.then0 n3.ch
 refine rl_alloc (Key.enc Key.z) Try.zeroValue32 rfl rfl ?_
 intro p5 w6 n7 k8
 have lo9 : ∀ b, inBlk (PV p5) b → w.heap.size ≤ b := fun b h => Nat.le_trans c0.size (n7.fresh b h)
 have d10 : ∀ b, inBlk (PV p5) b → ¬ inBlk (PV po0) b := disNew n7.fresh ah0.ltp
 have d11 : ∀ b, inBlk (PV p5) b → ¬ inBlk az0_0 b := disNew n7.fresh (fun b hb => (ah0_0.lt b hb).2)
 have ah0 := ah0.ch0 n7.ch
 have ah0_0 := ah0_0.st n7.ch (fun _ _ x => x) (admNew n7.fresh (fun _ x => x)) (fun b h => (.inr (.inr (.inl h))))
 have gp1n : (G F Bb (un (inBlk (PV p5)) (un (inBlk (PV po0)) (un (inBlk az0_0) S2)))) p1 := ⟨gp1.1, ((admNew n7.fresh (fun _ x => x)) _ k4.lt gp1.2).2⟩
 have k4 := k4.ch0 n7.ch
 have gp1 := gp1n
 have c0 := c0.then0 n7.ch
 refine rl_assign rfl rfl ?_
 refine RL.nil (thn_n (CW.seq (CW.region ?_)))
 refine rl_move rfl rfl ?_
 refine rl_loadA (cs := (Key.enc a1)) rfl Try.isAgg32 Try.sizeOf32 (k4.segAt 0 2) rfl rfl ?_
 have hd12 : ∀ b, (un (inBlk (PV po0)) (inBlk az0_0)) b → ¬ (un (inBlk (PV p5)) S2) b := fun b h => un_el h (fun h => (fun b hb => fun h => un_el h (fun h => (disSym d10) b hb h) (linNot lin0_0 hd2 h2 b hb)) b h) (fun h => (fun b hb => fun h => un_el h (fun h => (disSym d11) b hb h) (linNot lin1_0 hd2 h2 b hb)) b h)
 have hS13 : (un (inBlk (PV p5)) (un (inBlk (PV po0)) (un (inBlk az0_0) S2))) = (un (inBlk (PV po0)) (un (inBlk az0_0) (un (inBlk (PV p5)) S2))) := funext fun b => propext ⟨fun h => un_el h (fun h => (.inr (.inr (.inl h)))) (fun h => un_el h (fun h => (.inl h)) (fun h => un_el h (fun h => (.inr (.inl h))) (fun h => (.inr (.inr (.inr h)))))), fun h => un_el h (fun h => (.inr (.inl h))) (fun h => un_el h (fun h => (.inr (.inr (.inl h)))) (fun h => un_el h (fun h => (.inl h)) (fun h => (.inr (.inr (.inr h))))))⟩
 obtain ⟨y16, hy17⟩ : ∃ y, F19_Owner a0 a1 = y := ⟨_, rfl⟩
 have hS := ltS hy17 hS
 refine rl_callF rfl en19 rfl (ctr19 F w6 Bb (un (inBlk (PV p5)) S2) (Nat.le_trans hB c0.size) (un_lt k8.ltp (fun b h => Nat.lt_of_lt_of_le (h2 b h) c0.size)) po0 az0_0 hd12 hx0_1 a0 ah0 (hS13 ▸ ah0_0) a1 y16 hy17) ?_
 rintro _ w14 ⟨rfl, c15⟩
 have ah0 := ah0.ch0 c15
 have ah0_0 := ah0_0.ch0 c15
 have k4 := k4.ch0 c15
 have k8 := k8.ch0 c15
 have c0 := c0.then0 c15
 refine rl_move rfl rfl ?_
 refine rl_extract rfl rfl rfl ?_
 refine rl_extract rfl rfl rfl ?_
 refine rl_alloc (Key.enc Key.z) Try.zeroValue32 rfl rfl ?_
 intro p18 w19 n20 k21
 have lo22 : ∀ b, inBlk (PV p18) b → w.heap.size ≤ b := fun b h => Nat.le_trans c0.size (n20.fresh b h)
 have d23 : ∀ b, inBlk (PV p18) b → ¬ inBlk (PV p5) b := disNew n20.fresh k8.ltp
 have d24 : ∀ b, inBlk (PV p18) b → ¬ inBlk (PV po0) b := disNew n20.fresh ah0.ltp
 have d25 : ∀ b, inBlk (PV p18) b → ¬ inBlk az0_0 b := disNew n20.fresh (fun b hb => (ah0_0.lt b hb).2)
 have ah0 := ah0.ch0 n20.ch
 have ah0_0 := ah0_0.st n20.ch (fun _ _ x => x) (admNew n20.fresh (fun _ x => x)) (fun b h => (.inr (.inr (.inr (.inl h)))))
 have gp1n : (G F Bb (un (inBlk (PV p18)) (un (inBlk (PV p5)) (un (inBlk (PV po0)) (un (inBlk az0_0) S2))))) p1 := ⟨gp1.1, ((admNew n20.fresh (fun _ x => x)) _ k4.lt gp1.2).2⟩
 have k4 := k4.ch0 n20.ch
 have gp1 := gp1n
 have k8 := k8.ch0 n20.ch
 have c0 := c0.then0 n20.ch
 refine rl_storeA (vs := (Key.enc y16.1)) rfl rfl (all_one rfl) Try.sizeOf32 rfl k21 rfl ?_
 intro w26 s28 c27 k29
 have ad30 : ∀ b, b < w19.heap.size → ¬ (un (inBlk (PV p18)) (un (inBlk (PV p5)) (un (inBlk (PV po0)) (un (inBlk az0_0) S2)))) b → ¬ (inBlk (PV p18)) b ∧ ¬ (un (inBlk (PV p18)) (un (inBlk (PV p5)) (un (inBlk (PV po0)) (un (inBlk az0_0) S2)))) b := fun b _ hs => ⟨fun h => hs (.inl h), hs⟩
 have ah0 := ah0.ch c27 ((fun b hb h => (disSym d24) b hb h) _ rfl)
 have ah0_0 := ah0_0.st c27 (fun b hb h => (disSym d25) b hb h) ad30 (fun b h => (.inr (.inr (.inr (.inl h)))))
 have k4 := k4.ch c27 (ad30 _ k4.lt gp1.2).1
 have k8 := k8.ch c27 ((fun b hb h => (disSym d23) b hb h) _ rfl)
 have c0 := c0.then c27 (fun i hi h => absurd (lo22 i h) (Nat.not_le_of_lt hi))
 refine rl_assign rfl rfl ?_
 refine RL.nil (thn_n (CW.seq (CW.region ?_)))
 refine rl_bslice (k := k_A2Key) (F := F) (B := Bb) (S := (un (inBlk (PV p18)) (un (inBlk (PV p5)) (un (inBlk (PV po0)) (un (inBlk az0_0) S2))))) ([] : List A2Key) rfl k_A2Key_pos Try.underlying28 Try.sizeOf51 Try.zeroValue51 rfl rfl trivial (Nat.le_trans hB c0.size) (un_lt k29.ltp (un_lt k8.ltp (un_lt ah0.ltp (un_lt (fun b hb => (ah0_0.lt b hb).2) (fun b h => Nat.lt_of_lt_of_le (h2 b h) c0.size))))) rfl ?_
 intro v31 w32 c33 hf34 h35
 have lo36 : ∀ b, inBlk v31 b → w.heap.size ≤ b := fun b h => Nat.le_trans c0.size (hf34 b h)
 have d37 : ∀ b, inBlk v31 b → ¬ inBlk (PV p18) b := disNew hf34 k29.ltp
 have d38 : ∀ b, inBlk v31 b → ¬ inBlk (PV p5) b := disNew hf34 k8.ltp
 have d39 : ∀ b, inBlk v31 b → ¬ inBlk (PV po0) b := disNew hf34 ah0.ltp
 have d40 : ∀ b, inBlk v31 b → ¬ inBlk az0_0 b := disNew hf34 (fun b hb => (ah0_0.lt b hb).2)
 have ah0 := ah0.ch0 c33
 have ah0_0 := ah0_0.st c33 (fun _ _ x => x) (admNew hf34 (fun _ x => x)) (fun b h => (.inr (.inr (.inr (.inr (.inl h))))))
 have gp1n : (G F Bb (un (inBlk v31) (un (inBlk (PV p18)) (un (inBlk (PV p5)) (un (inBlk (PV po0)) (un (inBlk az0_0) S2)))))) p1 := ⟨gp1.1, ((admNew hf34 (fun _ x => x)) _ k4.lt gp1.2).2⟩
 have k4 := k4.ch0 c33
 have gp1 := gp1n
 have k8 := k8.ch0 c33
 have k29 := k29.ch0 c33
 have c0 := c0.then0 c33
 refine rl_assign rfl rfl ?_
 refine RL.nil (thn_n (CW.seq ?_))
 refine CW.seq (CW.region ?_)
 refine rl_move rfl rfl ?_
 refine rl_nilCheck rfl rfl ?_
 refine rl_fieldAddr rfl fa30_0 rfl ?_
 refine rl_loadS (v := az0_0) rfl Try.isAgg28 (ah0.cell rfl) rfl ?_
 refine rl_lenR rfl (SlO.read (S' := (un (inBlk v31) (un (inBlk (PV p18)) (un (inBlk (PV p5)) (un (inBlk (PV po0)) S2))))) k_A2Key_pos ah0_0 (fun b hs h => hs (un_el h (fun h => (.inl h)) (fun h => un_el h (fun h => (.inr (.inl h))) (fun h => un_el h (fun h => (.inr (.inr (.inl h)))) (fun h => un_el h (fun h => (.inr (.inr (.inr (.inl h))))) (fun h => (.inr (.inr (.inr (.inr (.inr h))))))))))) (fun b hb => fun h => un_el h (fun h => (disSym d40) b hb h) (fun h => un_el h (fun h => (disSym d25) b hb h) (fun h => un_el h (fun h => (disSym d11) b hb h) (fun h => un_el h (fun h => (disSym hx0_1) b hb h) (linNot lin1_0 hd2 h2 b hb)))))) Try.underlying28 rfl ?_
 refine rl_move rfl rfl ?_
 refine RL.nil (thn_n ?_)
 obtain ⟨o62, ho63, hS⟩ := bindS hS
 refine CW.cutB (fun E' w' => ∃ (x41 : (List A2Key)) (v42 : Value), Sub [(0, (PV po0)), (4, (PV p5)), (6, (PV p18)), (7, (Value.bool y16.2)), (8, v42)] E' ∧ Ch (un (inBlk (PV po0)) (inBlk az0_0)) w w' ∧ x41 = o62 ∧ Blk w' po0 30 (Index_3.c a0 az0_0) ∧ SlO k_A2Key 51 F Bb (un (inBlk v42) (un (inBlk (PV p18)) (un (inBlk (PV p5)) (un (inBlk (PV po0)) (un (inBlk az0_0) S2))))) w' a0.all az0_0 ∧ Blk w' p1 32 (Key.enc a1) ∧ Blk w' p5 32 (Key.enc Key.z) ∧ Blk w' p18 32 (Key.enc y16.1) ∧ SlO k_A2Key 51 F Bb (un (inBlk v42) (un (inBlk (PV p18)) (un (inBlk (PV p5)) (un (inBlk (PV po0)) (un (inBlk az0_0) S2))))) w' x41 v42 ∧ (G F Bb (un (inBlk v42) (un (inBlk (PV p18)) (un (inBlk (PV p5)) (un (inBlk (PV po0)) (un (inBlk az0_0) S2)))))) p1 ∧ (∀ b, inBlk v42 b → ¬ inBlk (PV p18) b) ∧ (∀ b, inBlk v42 b → ¬ inBlk (PV p5) b) ∧ (∀ b, inBlk v42 b → ¬ inBlk (PV po0) b) ∧ (∀ b, inBlk v42 b → ¬ inBlk az0_0 b) ∧ (∀ b, inBlk (PV p18) b → ¬ inBlk (PV p5) b) ∧ (∀ b, inBlk (PV p18) b → ¬ inBlk (PV po0) b) ∧ (∀ b, inBlk (PV p18) b → ¬ inBlk az0_0 b) ∧ (∀ b, inBlk (PV p5) b → ¬ inBlk (PV po0) b) ∧ (∀ b, inBlk (PV p5) b → ¬ inBlk az0_0 b) ∧ (∀ b, inBlk (PV po0) b → ¬ inBlk az0_0 b) ∧ (∀ b, inBlk v42 b → w.heap.size ≤ b)) ?_ ?_
 ·
  refine CW.loopS [(0, (PV po0)), (3, (PV p1)), (4, (PV p5)), (6, (PV p18)), (7, (Value.bool y16.2)), (21, az0_0), (22, (Value.int .i64 ((a0.all.length : Nat) : Int))), (8, v31), (23, (Value.int .i64 ((0 : Nat) : Int)))] ⟨rfl, rfl, rfl, rfl, rfl, rfl, rfl, rfl, rfl, trivial⟩ a0.all.length (fun m E w' => ∃ (rest55 : List A2Key) (i56 : Nat) (x41 : (List A2Key)) (v42 : Value), m = rest55.length ∧ E = [(0, (PV po0)), (3, (PV p1)), (4, (PV p5)), (6, (PV p18)), (7, (Value.bool y16.2)), (21, az0_0), (22, (Value.int .i64 ((a0.all.length : Nat) : Int))), (8, v42), (23, (Value.int .i64 ((i56 : Nat) : Int)))] ∧ Ch (un (inBlk (PV po0)) (inBlk az0_0)) w w' ∧ At a0.all i56 rest55 ∧ runAO (F11_Drop_b1 a1) rest55 x41 = some o62 ∧ Blk w' po0 30 (Index_3.c a0 az0_0) ∧ SlO k_A2Key 51 F Bb (un (inBlk v42) (un (inBlk (PV p18)) (un (inBlk (PV p5)) (un (inBlk (PV po0)) (un (inBlk az0_0) S2))))) w' a0.all az0_0 ∧ Blk w' p1 32 (Key.enc a1) ∧ Blk w' p5 32 (Key.enc Key.z) ∧ Blk w' p18 32 (Key.enc y16.1) ∧ SlO k_A2Key 51 F Bb (un (inBlk v42) (un (inBlk (PV p18)) (un (inBlk (PV p5)) (un (inBlk (PV po0)) (un (inBlk az0_0) S2))))) w' x41 v42 ∧ (G F Bb (un (inBlk v42) (un (inBlk (PV p18)) (un (inBlk (PV p5)) (un (inBlk (PV po0)) (un (inBlk az0_0) S2)))))) p1 ∧ (∀ b, inBlk v42 b → ¬ inBlk (PV p18) b) ∧ (∀ b, inBlk v42 b → ¬ inBlk (PV p5) b) ∧ (∀ b, inBlk v42 b → ¬ inBlk (PV po0) b) ∧ (∀ b, inBlk v42 b → ¬ inBlk az0_0 b) ∧ (∀ b, inBlk (PV p18) b → ¬ inBlk (PV p5) b) ∧ (∀ b, inBlk (PV p18) b → ¬ inBlk (PV po0) b) ∧ (∀ b, inBlk (PV p18) b → ¬ inBlk az0_0 b) ∧ (∀ b, inBlk (PV p5) b → ¬ inBlk (PV po0) b) ∧ (∀ b, inBlk (PV p5) b → ¬ inBlk az0_0 b) ∧ (∀ b, inBlk (PV po0) b → ¬ inBlk az0_0 b) ∧ (∀ b, inBlk v42 b → w.heap.size ≤ b))
      ⟨a0.all, 0, [], v31, rfl, rfl, c0, At.start, ho63, ah0, ah0_0, k4, k8, k29, h35, gp1, d37, d38, d39, d40, d23, d24, d25, d10, d11, hx0_1, lo36⟩ ?_
  rintro _ _ w68 ⟨rest55, i56, x41, v42, rfl, rfl, c67, hat58, hL57, ah0, ah0_0, k4, k8, k29, h43, gp1, d45, d46, d47, d48, d49, d50, d51, d52, d53, d54, lo44⟩
  refine CW.seq (CW.region ?_)
  refine rl_bin rfl rfl B.lss rfl ?_
  refine RL.nil (thn_n ?_)
  refine CW.seq ?_
  refine CW.cond (t := decide (((i56 : Nat) : Int) < ((a0.all.length : Nat) : Int))) rfl (fun q70 => ?_) (fun q70 => ?_)
  ·
   obtain ⟨x64, rest71, rfl⟩ := hat58.cons q70
   obtain ⟨q59, hq60⟩ := runAO_some hL57
   have hb61 := hq60
   refine CW.skip (thn_n ?_)
   refine CW.seq ?_
   refine CW.block ?_
   refine CW.seq (CW.region ?_)
   refine rl_ixOR rfl ah0_0 rfl (ixN hat58.get) k_A2Key_pos Try.underlying28 Try.sizeOf51 rfl ?_
   intro p72 o73 cs74 hr75 hs76 hg77
   obtain rfl := hr75
   refine rl_loadA (cs := (A2Key.enc x64)) rfl Try.isAgg51 Try.sizeOf51 (hs76) rfl rfl ?_
   refine rl_alloc (A2Key.enc A2Key.z) Try.zeroValue51 rfl rfl ?_
   intro p78 w79 n80 k81
   have lo82 : ∀ b, inBlk (PV p78) b → w.heap.size ≤ b := fun b h => Nat.le_trans c67.size (n80.fresh b h)
   have d83 : ∀ b, inBlk (PV p78) b → ¬ inBlk v42 b := disNew n80.fresh (fun b hb => (h43.lt b hb).2)
   have d84 : ∀ b, inBlk (PV p78) b → ¬ inBlk (PV p18) b := disNew n80.fresh k29.ltp
   have d85 : ∀ b, inBlk (PV p78) b → ¬ inBlk (PV p5) b := disNew n80.fresh k8.ltp
   have d86 : ∀ b, inBlk (PV p78) b → ¬ inBlk (PV po0) b := disNew n80.fresh ah0.ltp
   have d87 : ∀ b, inBlk (PV p78) b → ¬ inBlk az0_0 b := disNew n80.fresh (fun b hb => (ah0_0.lt b hb).2)
   have ah0 := ah0.ch0 n80.ch
   have ah0_0 := ah0_0.st n80.ch (fun _ _ x => x) (admNew n80.fresh (fun _ x => x)) (fun b h => (.inr (.inr (.inr (.inr (.inr (.inl h)))))))
   have gp1n : (G F Bb (un (inBlk (PV p78)) (un (inBlk v42) (un (inBlk (PV p18)) (un (inBlk (PV p5)) (un (inBlk (PV po0)) (un (inBlk az0_0) S2))))))) p1 := ⟨gp1.1, ((admNew n80.fresh (fun _ x => x)) _ k4.lt gp1.2).2⟩
   have k4 := k4.ch0 n80.ch
   have gp1 := gp1n
   have k8 := k8.ch0 n80.ch
   have k29 := k29.ch0 n80.ch
   have h43 := h43.st n80.ch (fun _ _ x => x) (admNew n80.fresh (fun _ x => x)) (fun b h => (.inr (.inl h)))
   have c67 := c67.then0 n80.ch
   refine rl_storeA (vs := (A2Key.enc x64)) rfl rfl (all_one rfl) Try.sizeOf51 rfl k81 rfl ?_
   intro w88 s90 c89 k91
   have ad92 : ∀ b, b < w79.heap.size → ¬ (un (inBlk (PV p78)) (un (inBlk v42) (un (inBlk (PV p18)) (un (inBlk (PV p5)) (un (inBlk (PV po0)) (un (inBlk az0_0) S2)))))) b → ¬ (inBlk (PV p78)) b ∧ ¬ (un (inBlk (PV p78)) (un (inBlk v42) (un (inBlk (PV p18)) (un (inBlk (PV p5)) (un (inBlk (PV po0)) (un (inBlk az0_0) S2)))))) b := fun b _ hs => ⟨fun h => hs (.inl h), hs⟩
   have ah0 := ah0.ch c89 ((fun b hb h => (disSym d86) b hb h) _ rfl)
   have ah0_0 := ah0_0.st c89 (fun b hb h => (disSym d87) b hb h) ad92 (fun b h => (.inr (.inr (.inr (.inr (.inr (.inl h)))))))
   have k4 := k4.ch c89 (ad92 _ k4.lt gp1.2).1
   have k8 := k8.ch c89 ((fun b hb h => (disSym d85) b hb h) _ rfl)
   have k29 := k29.ch c89 ((fun b hb h => (disSym d84) b hb h) _ rfl)
   have h43 := h43.st c89 (fun b hb h => (disSym d83) b hb h) ad92 (fun b h => (.inr (.inl h)))
   have c67 := c67.then c89 (fun i hi h => absurd (lo82 i h) (Nat.not_le_of_lt hi))
   refine RL.nil (thn_n (CW.seq (CW.region ?_)))
   refine rl_ixArrP (off := 0) rfl rfl rfl Try.underlying51 Try.sizeOf32 rfl rfl ?_
   refine rl_loadA (cs := (Key.enc x64.e0)) rfl Try.isAgg32 Try.sizeOf32 (k91.segAt 0 2) rfl rfl ?_
   refine rl_loadA (cs := (Key.enc a1)) rfl Try.isAgg32 Try.sizeOf32 (k4.segAt 0 2) rfl rfl ?_
   refine rl_bin rfl rfl (neq32 x64.e0 a1) rfl ?_
   refine RL.nil (thn_n ?_)
   refine CW.cond (t := !decide (x64.e0 = a1)) rfl (fun q93 => ?_) (fun q93 => ?_)
   ·
    have hb61 := ifT q93 hb61
    refine CW.region ?_
    refine rl_move rfl rfl ?_
    refine rl_loadA (cs := (A2Key.enc x64)) rfl Try.isAgg51 Try.sizeOf51 (k91.segAt 0 4) rfl rfl ?_
    refine rl_bslice (k := k_A2Key) (F := F) (B := Bb) (S := (un (inBlk (PV p78)) (un (inBlk v42) (un (inBlk (PV p18)) (un (inBlk (PV p5)) (un (inBlk (PV po0)) (un (inBlk az0_0) S2))))))) ([x64] : List A2Key) rfl k_A2Key_pos Try.underlying28 Try.sizeOf51 Try.zeroValue51 rfl rfl ⟨rfl, rfl, trivial⟩ (Nat.le_trans hB c67.size) (un_lt k91.ltp (un_lt (fun b hb => (h43.lt b hb).2) (un_lt k29.ltp (un_lt k8.ltp (un_lt ah0.ltp (un_lt (fun b hb => (ah0_0.lt b hb).2) (fun b h => Nat.lt_of_lt_of_le (h2 b h) c67.size))))))) rfl ?_
    intro v94 w95 c96 hf97 h98
    have h98 := h98.readNew k_A2Key_pos hf97 (un_lt k91.ltp (un_lt (fun b hb => (h43.lt b hb).2) (un_lt k29.ltp (un_lt k8.ltp (un_lt ah0.ltp (un_lt (fun b hb => (ah0_0.lt b hb).2) (fun b h => Nat.lt_of_lt_of_le (h2 b h) c67.size)))))))
    have ah0 := ah0.ch0 c96
    have ah0_0 := ah0_0.ch0 c96
    have k4 := k4.ch0 c96
    have k8 := k8.ch0 c96
    have k29 := k29.ch0 c96
    have h43 := h43.ch0 c96
    have k91 := k91.ch0 c96
    have c67 := c67.then0 c96
    obtain ⟨z107, hz108, hb61⟩ := bindS hb61
    have hl := (apO_get hz108).1
    refine rl_append (k := k_A2Key) (T := 51) (F := F) (B := Bb) (S := (un (inBlk (PV p78)) (un (inBlk v42) (un (inBlk (PV p18)) (un (inBlk (PV p5)) (un (inBlk (PV po0)) (un (inBlk az0_0) S2))))))) (S2 := (un (inBlk (PV p78)) (un (inBlk (PV p18)) (un (inBlk (PV p5)) (un (inBlk (PV po0)) (un (inBlk az0_0) S2)))))) (fun v => (un (inBlk (PV p78)) (un (inBlk v) (un (inBlk (PV p18)) (un (inBlk (PV p5)) (un (inBlk (PV po0)) (un (inBlk az0_0) S2))))))) rfl rfl k_A2Key_pos ap28 h43 h98 (fun _ => un_swap) (fun _ _ => un_swap) hl (Nat.le_trans hB c67.size) (un_lt k91.ltp (un_lt (fun b hb => (h43.lt b hb).2) (un_lt k29.ltp (un_lt k8.ltp (un_lt ah0.ltp (un_lt (fun b hb => (ah0_0.lt b hb).2) (fun b h => Nat.lt_of_lt_of_le (h2 b h) c67.size))))))) rfl ?_
    intro v101 w102 h103 c104 hf105 ha106
    have lo109 : ∀ b, inBlk v101 b → w.heap.size ≤ b := fun b h => (hf105 b h).elim (lo44 b) (Nat.le_trans c67.size)
    have d111 : ∀ b, inBlk v101 b → ¬ inBlk (PV p18) b := disApp hf105 d45 k29.ltp
    have d112 : ∀ b, inBlk v101 b → ¬ inBlk (PV p5) b := disApp hf105 d46 k8.ltp
    have d113 : ∀ b, inBlk v101 b → ¬ inBlk (PV po0) b := disApp hf105 d47 ah0.ltp
    have d114 : ∀ b, inBlk v101 b → ¬ inBlk az0_0 b := disApp hf105 d48 (fun b hb => (ah0_0.lt b hb).2)
    have ah0 := ah0.ch c104 ((fun b hb h => (disSym d47) b hb h) _ rfl)
    have ah0_0 := ah0_0.st c104 (fun b hb h => (disSym d48) b hb h) ha106 (fun b h => (.inr (.inr (.inr (.inr (.inr (.inl h)))))))
    have gp1n : (G F Bb (un (inBlk (PV p78)) (un (inBlk v101) (un (inBlk (PV p18)) (un (inBlk (PV p5)) (un (inBlk (PV po0)) (un (inBlk az0_0) S2))))))) p1 := ⟨gp1.1, (ha106 _ k4.lt gp1.2).2⟩
    have k4 := k4.ch c104 (ha106 _ k4.lt gp1.2).1
    have gp1 := gp1n
    have k8 := k8.ch c104 ((fun b hb h => (disSym d46) b hb h) _ rfl)
    have k29 := k29.ch c104 ((fun b hb h => (disSym d45) b hb h) _ rfl)
    have c67 := c67.then c104 (fun i hi h => absurd (lo44 i h) (Nat.not_le_of_lt hi))
    refine rl_assign rfl rfl ?_
    refine RL.nil ?_
    refine inB_n ?_
    refine thn_n (CW.region ?_)
    refine rl_inc rfl hat58.lt (Nat.le_trans ah0_0.big (by decide)) rfl ?_
    refine rl_move rfl rfl ?_
    refine RL.nil (thn_n ?_)
    have ad115 : ∀ b, b < w102.heap.size → ¬ (un (inBlk (PV p78)) (un (inBlk v101) (un (inBlk (PV p18)) (un (inBlk (PV p5)) (un (inBlk (PV po0)) (un (inBlk az0_0) S2)))))) b → ¬ nb b ∧ ¬ (un (inBlk v101) (un (inBlk (PV p18)) (un (inBlk (PV p5)) (un (inBlk (PV po0)) (un (inBlk az0_0) S2))))) b := fun b _ hs => ⟨fun x => x, fun h => hs (un_el h (fun h => (.inr (.inl h))) (fun h => un_el h (fun h => (.inr (.inr (.inl h)))) (fun h => un_el h (fun h => (.inr (.inr (.inr (.inl h))))) (fun h => un_el h (fun h => (.inr (.inr (.inr (.inr (.inl h)))))) (fun h => un_el h (fun h => (.inr (.inr (.inr (.inr (.inr (.inl h))))))) (fun h => (.inr (.inr (.inr (.inr (.inr (.inr h))))))))))))⟩
    have crf : Ch nb w102 w102 := Ch.refl
    have ah0 := ah0.ch0 crf
    have ah0_0 := ah0_0.st crf (fun _ _ x => x) ad115 (fun b h => (.inr (.inr (.inr (.inr (.inl h))))))
    have gp1n : (G F Bb (un (inBlk v101) (un (inBlk (PV p18)) (un (inBlk (PV p5)) (un (inBlk (PV po0)) (un (inBlk az0_0) S2)))))) p1 := ⟨gp1.1, (ad115 _ k4.lt gp1.2).2⟩
    have k4 := k4.ch0 crf
    have gp1 := gp1n
    have k8 := k8.ch0 crf
    have k29 := k29.ch0 crf
    have h103 := h103.st crf (fun _ _ x => x) ad115 (fun b h => (.inl h))
    have c67 := c67.then0 crf
    have hLn := runAO_next hL57 hq60 hb61
    exact ⟨rest71.length, Nat.lt_succ_self _, [(0, (PV po0)), (3, (PV p1)), (4, (PV p5)), (6, (PV p18)), (7, (Value.bool y16.2)), (21, az0_0), (22, (Value.int .i64 ((a0.all.length : Nat) : Int))), (8, v101), (23, (Value.int .i64 ((i56 + 1 : Nat) : Int)))], ⟨rfl, rfl, rfl, rfl, rfl, rfl, rfl, rfl, rfl, trivial⟩, ⟨rest71, i56 + 1, x41 ++ [x64], v101, rfl, rfl, c67, hat58.next, hLn, ah0, ah0_0, k4, k8, k29, h103, gp1, d111, d112, d113, d114, d49, d50, d51, d52, d53, d54, lo109⟩⟩
   have hb61 := ifF q93 hb61
   refine CW.skip ?_
   refine inB_n ?_
   refine thn_n (CW.region ?_)
   refine rl_inc rfl hat58.lt (Nat.le_trans ah0_0.big (by decide)) rfl ?_
   refine rl_move rfl rfl ?_
   refine RL.nil (thn_n ?_)
   have ad116 : ∀ b, b < w88.heap.size → ¬ (un (inBlk (PV p78)) (un (inBlk v42) (un (inBlk (PV p18)) (un (inBlk (PV p5)) (un (inBlk (PV po0)) (un (inBlk az0_0) S2)))))) b → ¬ nb b ∧ ¬ (un (inBlk v42) (un (inBlk (PV p18)) (un (inBlk (PV p5)) (un (inBlk (PV po0)) (un (inBlk az0_0) S2))))) b := fun b _ hs => ⟨fun x => x, fun h => hs (un_el h (fun h => (.inr (.inl h))) (fun h => un_el h (fun h => (.inr (.inr (.inl h)))) (fun h => un_el h (fun h => (.inr (.inr (.inr (.inl h))))) (fun h => un_el h (fun h => (.inr (.inr (.inr (.inr (.inl h)))))) (fun h => un_el h (fun h => (.inr (.inr (.inr (.inr (.inr (.inl h))))))) (fun h => (.inr (.inr (.inr (.inr (.inr (.inr h))))))))))))⟩
   have crf : Ch nb w88 w88 := Ch.refl
   have ah0 := ah0.ch0 crf
   have ah0_0 := ah0_0.st crf (fun _ _ x => x) ad116 (fun b h => (.inr (.inr (.inr (.inr (.inl h))))))
   have gp1n : (G F Bb (un (inBlk v42) (un (inBlk (PV p18)) (un (inBlk (PV p5)) (un (inBlk (PV po0)) (un (inBlk az0_0) S2)))))) p1 := ⟨gp1.1, (ad116 _ k4.lt gp1.2).2⟩
   have k4 := k4.ch0 crf
   have gp1 := gp1n
   have k8 := k8.ch0 crf
   have k29 := k29.ch0 crf
   have h43 := h43.st crf (fun _ _ x => x) ad116 (fun b h => (.inl h))
   have c67 := c67.then0 crf
   have hLn := runAO_next hL57 hq60 hb61
   exact ⟨rest71.length, Nat.lt_succ_self _, [(0, (PV po0)), (3, (PV p1)), (4, (PV p5)), (6, (PV p18)), (7, (Value.bool y16.2)), (21, az0_0), (22, (Value.int .i64 ((a0.all.length : Nat) : Int))), (8, v42), (23, (Value.int .i64 ((i56 + 1 : Nat) : Int)))], ⟨rfl, rfl, rfl, rfl, rfl, rfl, rfl, rfl, rfl, trivial⟩, ⟨rest71, i56 + 1, x41, v42, rfl, rfl, c67, hat58.next, hLn, ah0, ah0_0, k4, k8, k29, h43, gp1, d45, d46, d47, d48, d49, d50, d51, d52, d53, d54, lo44⟩⟩
  obtain rfl := hat58.nil q70
  have hLf : x41 = o62 := runAO_done hL57
  refine CW.exit (thn_exit (thn_exit (inB_hit ?_)))
  exact ⟨x41, v42, ⟨rfl, rfl, rfl, rfl, rfl, trivial⟩, c67, hLf, ah0, ah0_0, k4, k8, k29, h43, gp1, d45, d46, d47, d48, d49, d50, d51, d52, d53, d54, lo44⟩
 rintro _ w118 ⟨x41, v42, hE119, c117, f120, ah0, ah0_0, k4, k8, k29, h43, gp1, d45, d46, d47, d48, d49, d50, d51, d52, d53, d54, lo44⟩
 subst f120
 refine thn_n (CW.sub [(0, (PV po0)), (4, (PV p5)), (6, (PV p18)), (7, (Value.bool y16.2)), (8, v42)] hE119 ?_)
 refine CW.seq (CW.region ?_)
 refine rl_move rfl rfl ?_
 refine rl_move rfl rfl ?_
 refine rl_nilCheck rfl rfl ?_
 refine rl_fieldAddr rfl fa30_0 rfl ?_
 refine rl_storeS (u := v42) rfl rfl h43.one Try.sizeOf28 ah0 rfl ?_
 intro w122 s124 c123 k125
 have ad126 : ∀ b, b < w118.heap.size → ¬ (un (inBlk v42) (un (inBlk (PV p18)) (un (inBlk (PV p5)) (un (inBlk (PV po0)) (un (inBlk az0_0) S2))))) b → ¬ (inBlk (PV po0)) b ∧ ¬ (un (inBlk v42) (un (inBlk (PV p18)) (un (inBlk (PV p5)) (un (inBlk (PV po0)) (un (inBlk az0_0) S2))))) b := fun b _ hs => ⟨fun h => hs (.inr (.inr (.inr (.inl h)))), hs⟩
 have ah0_0 := ah0_0.st c123 (fun b hb h => (disSym d54) b hb h) ad126 (fun b h => (.inr (.inr (.inr (.inr (.inl h))))))
 have k4 := k4.ch c123 (ad126 _ k4.lt gp1.2).1
 have k8 := k8.ch c123 ((fun b hb h => d52 b hb h) _ rfl)
 have k29 := k29.ch c123 ((fun b hb h => d50 b hb h) _ rfl)
 have h43 := h43.st c123 (fun b hb h => d47 b hb h) ad126 (fun b h => (.inl h))
 have c117 := c117.then c123 (fun i hi h => (lin0_0 i h).elim (fun x => x) (fun x => absurd x (Nat.not_le_of_lt hi)))
 refine RL.nil (thn_n (CW.seq (CW.region ?_)))
 refine rl_loadA (cs := (Key.enc y16.1)) rfl Try.isAgg32 Try.sizeOf32 (k29.segAt 0 2) rfl rfl ?_
 refine rl_move rfl rfl ?_
 refine rl_storeA (vs := (Key.enc y16.1)) rfl rfl (all_one rfl) Try.sizeOf32 rfl k8 rfl ?_
 intro w127 s129 c128 k130
 have ad131 : ∀ b, b < w122.heap.size → ¬ (un (inBlk v42) (un (inBlk (PV p18)) (un (inBlk (PV p5)) (un (inBlk (PV po0)) (un (inBlk az0_0) S2))))) b → ¬ (inBlk (PV p5)) b ∧ ¬ (un (inBlk v42) (un (inBlk (PV p18)) (un (inBlk (PV p5)) (un (inBlk (PV po0)) (un (inBlk az0_0) S2))))) b := fun b _ hs => ⟨fun h => hs (.inr (.inr (.inl h))), hs⟩
 have ah0_0 := ah0_0.st c128 (fun b hb h => (disSym d53) b hb h) ad131 (fun b h => (.inr (.inr (.inr (.inr (.inl h))))))
 have k4 := k4.ch c128 (ad131 _ k4.lt gp1.2).1
 have h43 := h43.st c128 (fun b hb h => d46 b hb h) ad131 (fun b h => (.inl h))
 have k125 := k125.ch c128 ((fun b hb h => (disSym d52) b hb h) _ rfl)
 have c117 := c117.then c128 (fun i hi h => absurd (lo9 i h) (Nat.not_le_of_lt hi))
 refine rl_assign rfl rfl ?_
 refine RL.nil (thn_n (CW.ret ?_))
 obtain rfl := Option.some.inj hS
 have ad132 : ∀ b, b < w127.heap.size → ¬ (un (inBlk v42) (un (inBlk (PV p18)) (un (inBlk (PV p5)) (un (inBlk (PV po0)) (un (inBlk az0_0) S2))))) b → ¬ nb b ∧ ¬ (un (inBlk v42) (un (inBlk (PV p5)) (un (inBlk (PV po0)) (un (inBlk az0_0) S2)))) b := fun b _ hs => ⟨fun x => x, fun h => hs (un_el h (fun h => (.inl h)) (fun h => un_el h (fun h => (.inr (.inr (.inl h)))) (fun h => un_el h (fun h => (.inr (.inr (.inr (.inl h))))) (fun h => un_el h (fun h => (.inr (.inr (.inr (.inr (.inl h)))))) (fun h => (.inr (.inr (.inr (.inr (.inr h))))))))))⟩
 have crf : Ch nb w127 w127 := Ch.refl
 have ah0_0 := ah0_0.st crf (fun _ _ x => x) ad132 (fun b h => (.inr (.inr (.inr (.inl h)))))
 have gp1n : (G F Bb (un (inBlk v42) (un (inBlk (PV p5)) (un (inBlk (PV po0)) (un (inBlk az0_0) S2))))) p1 := ⟨gp1.1, (ad132 _ k4.lt gp1.2).2⟩
 have k4 := k4.ch0 crf
 have gp1 := gp1n
 have h43 := h43.st crf (fun _ _ x => x) ad132 (fun b h => (.inl h))
 have k125 := k125.ch0 crf
 have k130 := k130.ch0 crf
 have c117 := c117.then0 crf
 have ad133 : ∀ b, b < w127.heap.size → ¬ (un (inBlk v42) (un (inBlk (PV p5)) (un (inBlk (PV po0)) (un (inBlk az0_0) S2)))) b → ¬ nb b ∧ ¬ (un (inBlk v42) (un (inBlk (PV po0)) (un (inBlk az0_0) S2))) b := fun b _ hs => ⟨fun x => x, fun h => hs (un_el h (fun h => (.inl h)) (fun h => un_el h (fun h => (.inr (.inr (.inl h)))) (fun h => un_el h (fun h => (.inr (.inr (.inr (.inl h))))) (fun h => (.inr (.inr (.inr (.inr h))))))))⟩
 have crf : Ch nb w127 w127 := Ch.refl
 have ah0_0 := ah0_0.st crf (fun _ _ x => x) ad133 (fun b h => (.inr (.inr (.inl h))))
 have gp1n : (G F Bb (un (inBlk v42) (un (inBlk (PV po0)) (un (inBlk az0_0) S2)))) p1 := ⟨gp1.1, (ad133 _ k4.lt gp1.2).2⟩
 have k4 := k4.ch0 crf
 have gp1 := gp1n
 have h43 := h43.st crf (fun _ _ x => x) ad133 (fun b h => (.inl h))
 have k125 := k125.ch0 crf
 have c117 := c117.then0 crf
 have ad134 : ∀ b, b < w127.heap.size → ¬ (un (inBlk v42) (un (inBlk (PV po0)) (un (inBlk az0_0) S2))) b → ¬ nb b ∧ ¬ (un (inBlk v42) (un (inBlk (PV po0)) S2)) b := fun b _ hs => ⟨fun x => x, fun h => hs (un_el h (fun h => (.inl h)) (fun h => un_el h (fun h => (.inr (.inl h))) (fun h => (.inr (.inr (.inr h))))))⟩
 have ah0_0 := SlO.read (S' := (un (inBlk v42) (un (inBlk (PV po0)) S2))) k_A2Key_pos ah0_0 (fun b hs h => hs (un_el h (fun h => (.inl h)) (fun h => un_el h (fun h => (.inr (.inl h))) (fun h => (.inr (.inr (.inr h))))))) (fun b hb => fun h => un_el h (fun h => (disSym d48) b hb h) (fun h => un_el h (fun h => (disSym d54) b hb h) (linNot lin1_0 hd2 h2 b hb)))
 have crf : Ch nb w127 w127 := Ch.refl
 have gp1n : (G F Bb (un (inBlk v42) (un (inBlk (PV po0)) S2))) p1 := ⟨gp1.1, (ad134 _ k4.lt gp1.2).2⟩
 have gp1 := gp1n
 have h43 := h43.st crf (fun _ _ x => x) ad134 (fun b h => (.inl h))
 have k125 := k125.ch0 crf
 have c117 := c117.then0 crf
 have hS135 : (un (inBlk v42) (un (inBlk (PV po0)) S2)) = (un (inBlk (PV po0)) (un (inBlk v42) S2)) := funext fun b => propext ⟨fun h => un_el h (fun h => (.inr (.inl h))) (fun h => un_el h (fun h => (.inl h)) (fun h => (.inr (.inr h)))), fun h => un_el h (fun h => (.inr (.inl h))) (fun h => un_el h (fun h => (.inl h)) (fun h => (.inr (.inr h))))⟩
 rw [hS135] at h43 ah0_0 gp1
 exact ⟨[_, _], ⟨Res1.agg (cs := (Key.enc y16.1)) rfl Try.isAgg32 Try.sizeOf32 (k130.segAt 0 2) rfl, rfl, trivial⟩, ⟨v42, rfl, k125, h43, (fun b h => .inr (lo44 b h)), (disSym d47), c117⟩⟩
/-- (*lb/lbref16.Index).Put -/
theorem ctr9 (F : Nat → Prop) (w : World) (Bb : Nat) (S2 : Nat → Prop) (hB : Bb ≤ w.heap.size) (h2 : ∀ b, S2 b → b < w.heap.size) (po0 : Nat) (az0_0 : Value) (hd2 : ∀ b, (un (inBlk (PV po0)) (inBlk az0_0)) b → ¬ S2 b) (hx0_1 : ∀ b, inBlk (PV po0) b → ¬ inBlk az0_0 b) (a0 : Index_3) (ah0 : Blk w po0 30 (Index_3.c a0 az0_0)) (ah0_0 : SlO k_A2Key 51 F Bb (un (inBlk (PV po0)) (un (inBlk az0_0) S2)) w a0.all az0_0) (a1 : Key) (a2 : Key) (r : (Key × Bool × Index_3)) (hs : F9_Put a0 a1 a2 = some r) :
    Ret Try.prog 9 #[(PV po0), (Value.agg (Key.enc a1).toArray), (Value.agg (Key.enc a2).toArray)] w fun v w' => ∃ (nz0_0 : Value), v = Value.tuple #[(Value.agg (Key.enc r.1).toArray), (Value.bool r.2.1)] ∧ Blk w' po0 30 (Index_3.c r.2.2 nz0_0) ∧ SlO k_A2Key 51 F Bb (un (inBlk (PV po0)) (un (inBlk nz0_0) S2)) w' r.2.2.all nz0_0 ∧ (∀ b, inBlk nz0_0 b → (un (inBlk (PV po0)) (inBlk az0_0)) b ∨ w.heap.size ≤ b) ∧ (∀ b, inBlk (PV po0) b → ¬ inBlk nz0_0 b) ∧ Ch (un (inBlk (PV po0)) (inBlk az0_0)) w w' := by
 have hS := hs
 have c0 : Ch (un (inBlk (PV po0)) (inBlk az0_0)) w w := Ch.refl
 have lin0_0 : ∀ b, inBlk (PV po0) b → (un (inBlk (PV po0)) (inBlk az0_0)) b ∨ w.heap.size ≤ b := fun b h => .inl (.inl h)
 have lin1_0 : ∀ b, inBlk az0_0 b → (un (inBlk (PV po0)) (inBlk az0_0)) b ∨ w.heap.size ≤ b := fun b h => .inl (.inr h)
 refine Ret.of (n := 30) (args := [_, _, _]) (rs := [.cell 6 32, .tmp 7]) Try.func9 rfl rfl rfl rfl ?_
 refine CW.seq (CW.region ?_)
 refine rl_boxA (cs := (Key.enc a1)) rfl rfl ?_
 intro p1 w2 n3 k4
 have gp1 : (G F Bb (un (inBlk (PV po0)) (un (inBlk az0_0) S2))) p1 := ⟨.inr (by rw [n3.eq]; exact (Nat.le_trans hB c0.size)), fun h => absurd ((un_lt ah0.ltp (un_lt (fun b hb => (ah0_0.lt b hb).2) (fun b h => Nat.lt_of_lt_of_le (h2 b h) c0.size))) _ h) (by rw [n3.eq]; exact Nat.lt_irrefl _)⟩
 have ah0 := ah0.ch0 n3.ch
 have ah0_0 := ah0_0.ch0 n3.ch
 have c0 := c0.then0 n3.ch
 refine rl_boxA (cs := (Key.enc a2)) rfl rfl ?_
 intro p5 w6 n7 k8
 have gp5 : (G F Bb (un (inBlk (PV po0)) (un (inBlk az0_0) S2))) p5 := ⟨.inr (by rw [n7.eq]; exact (Nat.le_trans hB c0.size)), fun h => absurd ((un_lt ah0.ltp (un_lt (fun b hb => (ah0_0.lt b hb).2) (fun b h => Nat.lt_of_lt_of_le (h2 b h) c0.size))) _ h) (by rw [n7.eq]; exact Nat.lt_irrefl _)⟩
 have ah0 := ah0.ch0 n7.ch
 have ah0_0 := ah0_0.ch0 n7.ch
 have k4 := k4.ch0 n7.ch
 have c0 := c0.then0 n7.ch
 refine rl_alloc (Key.enc Key.z) Try.zeroValue32 rfl rfl ?_
 intro p9 w10 n11 k12
 have lo13 : ∀ b, inBlk (PV p9) b → w.heap.size ≤ b := fun b h => Nat.le_trans c0.size (n11.fresh b h)
 have d14 : ∀ b, inBlk (PV p9) b → ¬ inBlk (PV po0) b := disNew n11.fresh ah0.ltp
 have d15 : ∀ b, inBlk (PV p9) b → ¬ inBlk az0_0 b := disNew n11.fresh (fun b hb => (ah0_0.lt b hb).2)
 have ah0 := ah0.ch0 n11.ch
 have ah0_0 := ah0_0.st n11.ch (fun _ _ x => x) (admNew n11.fresh (fun _ x => x)) (fun b h => (.inr (.inr (.inl h))))
 have gp1n : (G F Bb (un (inBlk (PV p9)) (un (inBlk (PV po0)) (un (inBlk az0_0) S2)))) p1 := ⟨gp1.1, ((admNew n11.fresh (fun _ x => x)) _ k4.lt gp1.2).2⟩
 have k4 := k4.ch0 n11.ch
 have gp1 := gp1n
 have gp5n : (G F Bb (un (inBlk (PV p9)) (un (inBlk (PV po0)) (un (inBlk az0_0) S2)))) p5 := ⟨gp5.1, ((admNew n11.fresh (fun _ x => x)) _ k8.lt gp5.2).2⟩
 have k8 := k8.ch0 n11.ch
 have gp5 := gp5n
 have c0 := c0.then0 n11.ch
 refine rl_assign rfl rfl ?_
 refine RL.nil (thn_n (CW.seq (CW.region ?_)))
 refine rl_move rfl rfl ?_
 refine rl_loadA (cs := (Key.enc a1)) rfl Try.isAgg32 Try.sizeOf32 (k4.segAt 0 2) rfl rfl ?_
 have hd16 : ∀ b, (un (inBlk (PV po0)) (inBlk az0_0)) b → ¬ (un (inBlk (PV p9)) S2) b := fun b h => un_el h (fun h => (fun b hb => fun h => un_el h (fun h => (disSym d14) b hb h) (linNot lin0_0 hd2 h2 b hb)) b h) (fun h => (fun b hb => fun h => un_el h (fun h => (disSym d15) b hb h) (linNot lin1_0 hd2 h2 b hb)) b h)
 have hS17 : (un (inBlk (PV p9)) (un (inBlk (PV po0)) (un (inBlk az0_0) S2))) = (un (inBlk (PV po0)) (un (inBlk az0_0) (un (inBlk (PV p9)) S2))) := funext fun b => propext ⟨fun h => un_el h (fun h => (.inr (.inr (.inl h)))) (fun h => un_el h (fun h => (.inl h)) (fun h => un_el h (fun h => (.inr (.inl h))) (fun h => (.inr (.inr (.inr h)))))), fun h => un_el h (fun h => (.inr (.inl h))) (fun h => un_el h (fun h => (.inr (.inr (.inl h)))) (fun h => un_el h (fun h => (.inl h)) (fun h => (.inr (.inr (.inr h))))))⟩
 obtain ⟨y20, hy21, hS⟩ := bindS hS
 refine rl_callF rfl en11 rfl (ctr11 F w10 Bb (un (inBlk (PV p9)) S2) (Nat.le_trans hB c0.size) (un_lt k12.ltp (fun b h => Nat.lt_of_lt_of_le (h2 b h) c0.size)) po0 az0_0 hd16 hx0_1 a0 ah0 (hS17 ▸ ah0_0) a1 y20 hy21) ?_
 rintro _ w18 ⟨z22, rfl, h23, h24, hf25, d26, c19⟩
 have lin27 : ∀ b, inBlk z22 b → (un (inBlk (PV po0)) (inBlk az0_0)) b ∨ w.heap.size ≤ b := fun b h => (hf25 b h).elim (fun h => un_el h (fun h => lin0_0 b h) (fun h => lin1_0 b h)) (fun h => .inr (Nat.le_trans c0.size h))
 have d28 : ∀ b, inBlk z22 b → ¬ inBlk (PV p9) b := fun b h hu => (hf25 b h).elim (fun h => un_el h (fun h => (disSym d14) b h hu) (fun h => (disSym d15) b h hu)) (fun h => Nat.not_le_of_lt (k12.ltp b hu) h)
 have hS29 : (un (inBlk (PV p9)) (un (inBlk (PV po0)) (un (inBlk z22) S2))) = (un (inBlk (PV po0)) (un (inBlk z22) (un (inBlk (PV p9)) S2))) := funext fun b => propext ⟨fun h => un_el h (fun h => (.inr (.inr (.inl h)))) (fun h => un_el h (fun h => (.inl h)) (fun h => un_el h (fun h => (.inr (.inl h))) (fun h => (.inr (.inr (.inr h)))))), fun h => un_el h (fun h => (.inr (.inl h))) (fun h => un_el h (fun h => (.inr (.inr (.inl h)))) (fun h => un_el h (fun h => (.inl h)) (fun h => (.inr (.inr (.inr h))))))⟩
 rw [← hS29] at h24
 have ha30 : ∀ b, b < w10.heap.size → ¬ (un (inBlk (PV p9)) (un (inBlk (PV po0)) (un (inBlk az0_0) S2))) b → ¬ (un (inBlk (PV po0)) (inBlk az0_0)) b ∧ ¬ (un (inBlk (PV p9)) (un (inBlk (PV po0)) (un (inBlk z22) S2))) b := fun b hb hs => ⟨fun h => un_el h (fun h => hs (.inr (.inl h))) (fun h => hs (.inr (.inr (.inl h)))), fun h => un_el h (fun h => hs (.inl h)) (fun h => un_el h (fun h => hs (.inr (.inl h))) (fun h => un_el h (fun h => (hf25 b h).elim (fun h => un_el h (fun h => hs (.inr (.inl h))) (fun h => hs (.inr (.inr (.inl h))))) (fun h => Nat.not_le_of_lt hb h)) (fun h => hs (.inr (.inr (.inr h))))))⟩
 have gp1n : (G F Bb (un (inBlk (PV p9)) (un (inBlk (PV po0)) (un (inBlk z22) S2)))) p1 := ⟨gp1.1, (ha30 _ k4.lt gp1.2).2⟩
 have k4 := k4.ch c19 (ha30 _ k4.lt gp1.2).1
 have gp1 := gp1n
 have gp5n : (G F Bb (un (inBlk (PV p9)) (un (inBlk (PV po0)) (un (inBlk z22) S2)))) p5 := ⟨gp5.1, (ha30 _ k8.lt gp5.2).2⟩
 have k8 := k8.ch c19 (ha30 _ k8.lt gp5.2).1
 have gp5 := gp5n
 have k12 := k12.ch c19 ((fun b hb h => un_el h (fun h => d14 b hb h) (fun h => d15 b hb h)) _ rfl)
 have c0 := c0.then c19 (fun i hi h => un_el h (fun h => (lin0_0 i h).elim (fun x => x) (fun x => absurd x (Nat.not_le_of_lt hi))) (fun h => (lin1_0 i h).elim (fun x => x) (fun x => absurd x (Nat.not_le_of_lt hi))))
 refine rl_move rfl rfl ?_
 refine rl_extract rfl rfl rfl ?_
 refine rl_extract rfl rfl rfl ?_
 refine rl_alloc (Key.enc Key.z) Try.zeroValue32 rfl rfl ?_
 intro p31 w32 n33 k34
 have lo35 : ∀ b, inBlk (PV p31) b → w.heap.size ≤ b := fun b h => Nat.le_trans c0.size (n33.fresh b h)
 have d36 : ∀ b, inBlk (PV p31) b → ¬ inBlk (PV p9) b := disNew n33.fresh k12.ltp
 have d37 : ∀ b, inBlk (PV p31) b → ¬ inBlk (PV po0) b := disNew n33.fresh h23.ltp
 have d38 : ∀ b, inBlk (PV p31) b → ¬ inBlk z22 b := disNew n33.fresh (fun b hb => (h24.lt b hb).2)
 have gp1n : (G F Bb (un (inBlk (PV p31)) (un (inBlk (PV p9)) (un (inBlk (PV po0)) (un (inBlk z22) S2))))) p1 := ⟨gp1.1, ((admNew n33.fresh (fun _ x => x)) _ k4.lt gp1.2).2⟩
 have k4 := k4.ch0 n33.ch
 have gp1 := gp1n
 have gp5n : (G F Bb (un (inBlk (PV p31)) (un (inBlk (PV p9)) (un (inBlk (PV po0)) (un (inBlk z22) S2))))) p5 := ⟨gp5.1, ((admNew n33.fresh (fun _ x => x)) _ k8.lt gp5.2).2⟩
 have k8 := k8.ch0 n33.ch
 have gp5 := gp5n
 have k12 := k12.ch0 n33.ch
 have h23 := h23.ch0 n33.ch
 have h24 := h24.st n33.ch (fun _ _ x => x) (admNew n33.fresh (fun _ x => x)) (fun b h => (.inr (.inr (.inr (.inl h)))))
 have c0 := c0.then0 n33.ch
 refine rl_storeA (vs := (Key.enc y20.1)) rfl rfl (all_one rfl) Try.sizeOf32 rfl k34 rfl ?_
 intro w39 s41 c40 k42
 have ad43 : ∀ b, b < w32.heap.size → ¬ (un (inBlk (PV p31)) (un (inBlk (PV p9)) (un (inBlk (PV po0)) (un (inBlk z22) S2)))) b → ¬ (inBlk (PV p31)) b ∧ ¬ (un (inBlk (PV p31)) (un (inBlk (PV p9)) (un (inBlk (PV po0)) (un (inBlk z22) S2)))) b := fun b _ hs => ⟨fun h => hs (.inl h), hs⟩
 have k4 := k4.ch c40 (ad43 _ k4.lt gp1.2).1
 have k8 := k8.ch c40 (ad43 _ k8.lt gp5.2).1
 have k12 := k12.ch c40 ((fun b hb h => (disSym d36) b hb h) _ rfl)
 have h23 := h23.ch c40 ((fun b hb h => (disSym d37) b hb h) _ rfl)
 have h24 := h24.st c40 (fun b hb h => (disSym d38) b hb h) ad43 (fun b h => (.inr (.inr (.inr (.inl h)))))
 have c0 := c0.then c40 (fun i hi h => absurd (lo35 i h) (Nat.not_le_of_lt hi))
 refine rl_assign rfl rfl ?_
 refine RL.nil (thn_n (CW.seq ?_))
 have hS68 : (un (inBlk (PV p31)) (un (inBlk (PV p9)) (un (inBlk (PV po0)) (un (inBlk z22) S2)))) = (un (inBlk z22) (un (inBlk (PV p31)) (un (inBlk (PV p9)) (un (inBlk (PV po0)) S2)))) := funext fun b => propext ⟨fun h => un_el h (fun h => (.inr (.inl h))) (fun h => un_el h (fun h => (.inr (.inr (.inl h)))) (fun h => un_el h (fun h => (.inr (.inr (.inr (.inl h))))) (fun h => un_el h (fun h => (.inl h)) (fun h => (.inr (.inr (.inr (.inr h)))))))), fun h => un_el h (fun h => (.inr (.inr (.inr (.inl h))))) (fun h => un_el h (fun h => (.inl h)) (fun h => un_el h (fun h => (.inr (.inl h))) (fun h => un_el h (fun h => (.inr (.inr (.inl h)))) (fun h => (.inr (.inr (.inr (.inr h))))))))⟩
 rw [hS68] at h24 gp1 gp5
 obtain ⟨z57, hz58, hS⟩ := bindS hS
 refine CW.draw 10 [(none, fun fx O uu wx => uu = (PV po0)), (none, fun fx O uu wx => uu = (PV po0)), (none, fun fx O uu wx => uu = (PV po0)), (none, fun fx O uu wx => uu = (PV po0)), (none, fun fx O uu wx => uu = z22), (none, fun fx O uu wx => uu = (Value.agg (Key.enc a1).toArray)), (none, fun fx O uu wx => uu = (Value.agg (Key.enc a2).toArray)), (none, fun fx O uu wx => uu = (Value.agg (A2Key.enc ({ e0 := a1, e1 := a2 } : A2Key)).toArray)), (none, fun fx O uu wx => ∃ (v44 : Value), uu = v44 ∧ slRep k_A2Key (G F Bb (un O (un (inBlk (PV p31)) (un (inBlk (PV p9)) (un (inBlk (PV po0)) S2))))) wx [({ e0 := a1, e1 := a2 } : A2Key)] v44), (some true, fun hv O uu wx => ∃ (v51 : Value), hv = [v51] ∧ uu = v51 ∧ O = (inBlk v51) ∧ SlO k_A2Key 51 F Bb (un (inBlk v51) (un (inBlk (PV p31)) (un (inBlk (PV p9)) (un (inBlk (PV po0)) S2)))) wx (y20.2.2.all ++ [({ e0 := a1, e1 := a2 } : A2Key)]) v51)] [[], [], [1], [2], [3], [], [], [5, 6], [7], [4, 8]] [9, 0] (inBlk z22) (fun b h => (fun b hb => (h24.lt b hb).2) b h) mixed rfl rfl rfl rfl ?_ ?_
 ·
  refine Each.consS (fun fl O wk hE hN hO ck => ?_) ?_
  ·
   refine rl_move rfl rfl ?_
   exact RL.nil ⟨_, rfl, Ch.refl, rfl⟩
  refine Each.consS (fun fl O wk hE hN hO ck => ?_) ?_
  ·
   refine rl_move rfl rfl ?_
   exact RL.nil ⟨_, rfl, Ch.refl, rfl⟩
  refine Each.consS (fun fl O wk hE hN hO ck => ?_) ?_
  ·
   refine Need.o1 rfl rfl rfl (fun _ h => h) ?_
   refine rl_nilCheck rfl rfl ?_
   exact RL.nil ⟨_, rfl, Ch.refl, rfl⟩
  refine Each.consS (fun fl O wk hE hN hO ck => ?_) ?_
  ·
   refine Need.o1 rfl rfl rfl (fun _ h => h) ?_
   refine rl_fieldAddr rfl fa30_0 rfl ?_
   exact RL.nil ⟨_, rfl, Ch.refl, rfl⟩
  refine Each.consS (fun fl O wk hE hN hO ck => ?_) ?_
  ·
   have h23 := h23.ch ck ((fun b hb h => d26 b hb h) _ rfl)
   refine Need.o1 rfl rfl rfl (fun _ h => h) ?_
   refine rl_loadS (v := z22) rfl Try.isAgg28 (h23.cell rfl) rfl ?_
   exact RL.nil ⟨_, rfl, Ch.refl, rfl⟩
  refine Each.consS (fun fl O wk hE hN hO ck => ?_) ?_
  ·
   have ha95 : ∀ b, b < w39.heap.size → ¬ (un (inBlk z22) (un (inBlk (PV p31)) (un (inBlk (PV p9)) (un (inBlk (PV po0)) S2)))) b → ¬ (inBlk z22) b ∧ ¬ (un O (un (inBlk (PV p31)) (un (inBlk (PV p9)) (un (inBlk (PV po0)) S2)))) b := fun b hb hs => ⟨fun h => hs (.inl h), fun h => un_el h (fun ho => (hO b ho).1.elim (fun h => hs (.inl h)) (fun h => Nat.not_le_of_lt hb h)) (fun h => un_el h (fun h => hs (.inr (.inl h))) (fun h => un_el h (fun h => hs (.inr (.inr (.inl h)))) (fun h => un_el h (fun h => hs (.inr (.inr (.inr (.inl h))))) (fun h => hs (.inr (.inr (.inr (.inr h))))))))⟩
   have k4 := k4.ch ck (ha95 _ k4.lt gp1.2).1
   refine rl_loadA (cs := (Key.enc a1)) rfl Try.isAgg32 Try.sizeOf32 (k4.segAt 0 2) rfl rfl ?_
   exact RL.nil ⟨_, rfl, Ch.refl, rfl⟩
  refine Each.consS (fun fl O wk hE hN hO ck => ?_) ?_
  ·
   have ha99 : ∀ b, b < w39.heap.size → ¬ (un (inBlk z22) (un (inBlk (PV p31)) (un (inBlk (PV p9)) (un (inBlk (PV po0)) S2)))) b → ¬ (inBlk z22) b ∧ ¬ (un O (un (inBlk (PV p31)) (un (inBlk (PV p9)) (un (inBlk (PV po0)) S2)))) b := fun b hb hs => ⟨fun h => hs (.inl h), fun h => un_el h (fun ho => (hO b ho).1.elim (fun h => hs (.inl h)) (fun h => Nat.not_le_of_lt hb h)) (fun h => un_el h (fun h => hs (.inr (.inl h))) (fun h => un_el h (fun h => hs (.inr (.inr (.inl h)))) (fun h => un_el h (fun h => hs (.inr (.inr (.inr (.inl h))))) (fun h => hs (.inr (.inr (.inr (.inr h))))))))⟩
   have k8 := k8.ch ck (ha99 _ k8.lt gp5.2).1
   refine rl_loadA (cs := (Key.enc a2)) rfl Try.isAgg32 Try.sizeOf32 (k8.segAt 0 2) rfl rfl ?_
   exact RL.nil ⟨_, rfl, Ch.refl, rfl⟩
  refine Each.consS (fun fl O wk hE hN hO ck => ?_) ?_
  ·
   refine Need.o1 rfl rfl rfl (fun _ h => h) ?_
   refine Need.o1 rfl rfl rfl (fun _ h => h) ?_
   refine rl_buildArr (out := (A2Key.enc ({ e0 := a1, e1 := a2 } : A2Key))) rfl Try.underlying51 Try.sizeOf32 Try.zeroValue51 rfl rfl rfl ?_
   exact RL.nil ⟨_, rfl, Ch.refl, rfl⟩
  refine Each.consA ⟨fun _ _ _ _ _ cc hh => by obtain ⟨v44, e, h48⟩ := hh; exact ⟨v44, e, slRep.ch k_A2Key_pos h48 cc⟩, fun _ _ h' O O' D _ wx wy hfl hD hO' cc hh => by obtain ⟨v44, e, h48⟩ := hh; have ad := admGh (S := (un (inBlk (PV p31)) (un (inBlk (PV p9)) (un (inBlk (PV po0)) S2)))) hD hO'; exact ⟨v44, e, slRep.st k_A2Key_pos h48 cc ad⟩, fun fl O wk hE hN hO ck => ?_⟩ ?_
  ·
   have k12 := k12.ch ck ((fun b hb h => (disSym d28) b hb h) _ rfl)
   have h23 := h23.ch ck ((fun b hb h => d26 b hb h) _ rfl)
   have k42 := k42.ch ck ((fun b hb h => d38 b hb h) _ rfl)
   have c0 := c0.then ck (fun i hi h => (lin27 i h).elim (fun x => x) (fun x => absurd x (Nat.not_le_of_lt hi)))
   refine Need.o1 rfl rfl rfl (fun _ h => h) ?_
   refine rl_bslice (k := k_A2Key) (F := F) (B := Bb) (S := (un O (un (inBlk (PV p31)) (un (inBlk (PV p9)) (un (inBlk (PV po0)) S2))))) ([({ e0 := a1, e1 := a2 } : A2Key)] : List A2Key) rfl k_A2Key_pos Try.underlying28 Try.sizeOf51 Try.zeroValue51 rfl rfl ⟨rfl, rfl, trivial⟩ (Nat.le_trans hB c0.size) (un_lt (fun b h => (hO b h).2) (un_lt k42.ltp (un_lt k12.ltp (un_lt h23.ltp (fun b h => Nat.lt_of_lt_of_le (h2 b h) c0.size))))) rfl ?_
   intro v111 w112 c113 hf114 h115
   have h115 := h115.readNew k_A2Key_pos hf114 (un_lt (fun b h => (hO b h).2) (un_lt k42.ltp (un_lt k12.ltp (un_lt h23.ltp (fun b h => Nat.lt_of_lt_of_le (h2 b h) c0.size)))))
   exact RL.nil ⟨_, rfl, c113, ⟨v111, rfl, h115⟩⟩
  refine Each.consO ⟨fun _ O _ wx wy cc hh => by obtain ⟨v51, eh, e, rfl, ck9_0⟩ := hh; exact ⟨v51, eh, e, rfl, ck9_0.ch0 cc⟩, fun hv Op O wk hO ck hO0 => ?_⟩ ?_
  ·
   obtain ⟨hl, hBg⟩ := hO0 rfl
   obtain rfl := List.eq_nil_of_length_eq_zero hl
   have k12 := k12.ch0 hBg.2.1
   have h23 := h23.ch0 hBg.2.1
   have h24 := h24.ch0 hBg.2.1
   have k42 := k42.ch0 hBg.2.1
   have c0 := c0.then0 hBg.2.1
   refine Need.o1 rfl rfl rfl (fun _ h => h) ?_
   refine Need.one rfl rfl rfl ?_
   rintro _ ⟨v44, e117, h48⟩
   obtain rfl := e117.symm
   have h48 := slRep.wk (F' := (G F Bb (un (inBlk z22) (un (inBlk (PV p31)) (un (inBlk (PV p9)) (un (inBlk (PV po0)) S2)))))) k_A2Key_pos h48 (fun b _ hf => ⟨hf.1, fun h => hf.2 (un_el h (fun h => (.inl ((hBg.1 b).2 (.inl h)))) (fun h => un_el h (fun h => (.inr (.inl h))) (fun h => un_el h (fun h => (.inr (.inr (.inl h)))) (fun h => un_el h (fun h => (.inr (.inr (.inr (.inl h))))) (fun h => (.inr (.inr (.inr (.inr h)))))))))⟩)
   have hl := (apO_get hz58).1
   refine rl_append (k := k_A2Key) (T := 51) (F := F) (B := Bb) (S := (un (inBlk z22) (un (inBlk (PV p31)) (un (inBlk (PV p9)) (un (inBlk (PV po0)) S2))))) (S2 := (un (inBlk (PV p31)) (un (inBlk (PV p9)) (un (inBlk (PV po0)) S2)))) (fun v => (un (inBlk v) (un (inBlk (PV p31)) (un (inBlk (PV p9)) (un (inBlk (PV po0)) S2))))) rfl rfl k_A2Key_pos ap28 h24 h48 (fun _ => Iff.rfl) (fun _ _ => Iff.rfl) hl (Nat.le_trans hB c0.size) (un_lt (fun b hb => (h24.lt b hb).2) (un_lt k42.ltp (un_lt k12.ltp (un_lt h23.ltp (fun b h => Nat.lt_of_lt_of_le (h2 b h) c0.size))))) rfl ?_
   intro v120 w121 h122 c123 hf124 ha125
   have hb130 : ∀ b, (inBlk v120) b → (O b ∨ wk.heap.size ≤ b) ∧ b < w121.heap.size := fun b h => ⟨(hf124 b h).elim (fun h => .inl (((hBg.1 b).2 (.inl h)))) (fun h => .inr (Nat.le_trans (Nat.le_refl _) h)), (fun b hb => (h122.lt b hb).2) b h⟩
   exact RL.nil ⟨_, (inBlk v120), rfl, hb130, (c123.mono (fun b _ h => ((hBg.1 b).2 (.inl h)))), ⟨v120, rfl, rfl, rfl, h122⟩⟩
  trivial
 intro hvO133 OpO133 O133 w131 hO134 c132 hN135
 have ol137 : ∀ b, inBlk (PV p9) b → b < w39.heap.size := k12.ltp
 have ol138 : ∀ b, inBlk (PV po0) b → b < w39.heap.size := h23.ltp
 refine Need.here rfl rfl rfl rfl ?_
 rintro _ ⟨v51, rfl, e139, rfl, ck9_0⟩
 obtain rfl := e139.symm
 have lin140 : ∀ b, inBlk v51 b → (un (inBlk (PV po0)) (inBlk az0_0)) b ∨ w.heap.size ≤ b := fun b h => (hO134 b h).1.elim (fun h => lin27 b h) (fun h => .inr (Nat.le_trans c0.size h))
 have d142 : ∀ b, inBlk v51 b → ¬ inBlk (PV p9) b := fun b h hu => (hO134 b h).1.elim (fun h => d28 b h hu) (fun h => Nat.not_le_of_lt (ol137 b hu) h)
 have d143 : ∀ b, inBlk v51 b → ¬ inBlk (PV po0) b := fun b h hu => (hO134 b h).1.elim (fun h => (disSym d26) b h hu) (fun h => Nat.not_le_of_lt (ol138 b hu) h)
 have ha144 : ∀ b, b < w39.heap.size → ¬ (un (inBlk z22) (un (inBlk (PV p31)) (un (inBlk (PV p9)) (un (inBlk (PV po0)) S2)))) b → ¬ (inBlk z22) b ∧ ¬ (un (inBlk v51) (un (inBlk (PV p31)) (un (inBlk (PV p9)) (un (inBlk (PV po0)) S2)))) b := fun b hb hs => ⟨fun h => hs (.inl h), fun h => un_el h (fun h => (hO134 b h).1.elim (fun h => hs (.inl h)) (fun h => Nat.not_le_of_lt hb h)) (fun h => un_el h (fun h => hs (.inr (.inl h))) (fun h => un_el h (fun h => hs (.inr (.inr (.inl h)))) (fun h => un_el h (fun h => hs (.inr (.inr (.inr (.inl h))))) (fun h => hs (.inr (.inr (.inr (.inr h))))))))⟩
 have gp1n : (G F Bb (un (inBlk v51) (un (inBlk (PV p31)) (un (inBlk (PV p9)) (un (inBlk (PV po0)) S2))))) p1 := ⟨gp1.1, (ha144 _ k4.lt gp1.2).2⟩
 have k4 := k4.ch c132 (ha144 _ k4.lt gp1.2).1
 have gp1 := gp1n
 have gp5n : (G F Bb (un (inBlk v51) (un (inBlk (PV p31)) (un (inBlk (PV p9)) (un (inBlk (PV po0)) S2))))) p5 := ⟨gp5.1, (ha144 _ k8.lt gp5.2).2⟩
 have k8 := k8.ch c132 (ha144 _ k8.lt gp5.2).1
 have gp5 := gp5n
 have k12 := k12.ch c132 ((fun b hb h => (disSym d28) b hb h) _ rfl)
 have h23 := h23.ch c132 ((fun b hb h => d26 b hb h) _ rfl)
 have k42 := k42.ch c132 ((fun b hb h => d38 b hb h) _ rfl)
 have c0 := c0.then c132 (fun i hi h => (lin27 i h).elim (fun x => x) (fun x => absurd x (Nat.not_le_of_lt hi)))
 refine Need.o1 rfl rfl rfl (fun _ h => h) ?_
 refine rl_nilCheck rfl rfl ?_
 refine rl_fieldAddr rfl fa30_0 rfl ?_
 refine rl_storeS (u := v51) rfl rfl ck9_0.one Try.sizeOf28 h23 rfl ?_
 intro w146 s148 c147 k149
 have ad150 : ∀ b, b < w131.heap.size → ¬ (un (inBlk v51) (un (inBlk (PV p31)) (un (inBlk (PV p9)) (un (inBlk (PV po0)) S2)))) b → ¬ (inBlk (PV po0)) b ∧ ¬ (un (inBlk v51) (un (inBlk (PV p31)) (un (inBlk (PV p9)) (un (inBlk (PV po0)) S2)))) b := fun b _ hs => ⟨fun h => hs (.inr (.inr (.inr (.inl h)))), hs⟩
 have k4 := k4.ch c147 (ad150 _ k4.lt gp1.2).1
 have k8 := k8.ch c147 (ad150 _ k8.lt gp5.2).1
 have k12 := k12.ch c147 ((fun b hb h => d14 b hb h) _ rfl)
 have k42 := k42.ch c147 ((fun b hb h => d37 b hb h) _ rfl)
 have ck9_0 := ck9_0.st c147 (fun b hb h => d143 b hb h) ad150 (fun b h => (.inl h))
 have c0 := c0.then c147 (fun i hi h => (lin0_0 i h).elim (fun x => x) (fun x => absurd x (Nat.not_le_of_lt hi)))
 refine RL.nil (thn_n (CW.seq (CW.region ?_)))
 refine rl_loadA (cs := (Key.enc y20.1)) rfl Try.isAgg32 Try.sizeOf32 (k42.segAt 0 2) rfl rfl ?_
 refine rl_move rfl rfl ?_
 refine rl_storeA (vs := (Key.enc y20.1)) rfl rfl (all_one rfl) Try.sizeOf32 rfl k12 rfl ?_
 intro w151 s153 c152 k154
 have ad155 : ∀ b, b < w146.heap.size → ¬ (un (inBlk v51) (un (inBlk (PV p31)) (un (inBlk (PV p9)) (un (inBlk (PV po0)) S2)))) b → ¬ (inBlk (PV p9)) b ∧ ¬ (un (inBlk v51) (un (inBlk (PV p31)) (un (inBlk (PV p9)) (un (inBlk (PV po0)) S2)))) b := fun b _ hs => ⟨fun h => hs (.inr (.inr (.inl h))), hs⟩
 have k4 := k4.ch c152 (ad155 _ k4.lt gp1.2).1
 have k8 := k8.ch c152 (ad155 _ k8.lt gp5.2).1
 have ck9_0 := ck9_0.st c152 (fun b hb h => d142 b hb h) ad155 (fun b h => (.inl h))
 have k149 := k149.ch c152 ((fun b hb h => (disSym d14) b hb h) _ rfl)
 have c0 := c0.then c152 (fun i hi h => absurd (lo13 i h) (Nat.not_le_of_lt hi))
 refine rl_assign rfl rfl ?_
 refine RL.nil (thn_n (CW.ret ?_))
 obtain rfl := Option.some.inj hS
 have ad156 : ∀ b, b < w151.heap.size → ¬ (un (inBlk v51) (un (inBlk (PV p31)) (un (inBlk (PV p9)) (un (inBlk (PV po0)) S2)))) b → ¬ nb b ∧ ¬ (un (inBlk v51) (un (inBlk (PV p9)) (un (inBlk (PV po0)) S2))) b := fun b _ hs => ⟨fun x => x, fun h => hs (un_el h (fun h => (.inl h)) (fun h => un_el h (fun h => (.inr (.inr (.inl h)))) (fun h => un_el h (fun h => (.inr (.inr (.inr (.inl h))))) (fun h => (.inr (.inr (.inr (.inr h))))))))⟩
 have crf : Ch nb w151 w151 := Ch.refl
 have gp1n : (G F Bb (un (inBlk v51) (un (inBlk (PV p9)) (un (inBlk (PV po0)) S2)))) p1 := ⟨gp1.1, (ad156 _ k4.lt gp1.2).2⟩
 have k4 := k4.ch0 crf
 have gp1 := gp1n
 have gp5n : (G F Bb (un (inBlk v51) (un (inBlk (PV p9)) (un (inBlk (PV po0)) S2)))) p5 := ⟨gp5.1, (ad156 _ k8.lt gp5.2).2⟩
 have k8 := k8.ch0 crf
 have gp5 := gp5n
 have ck9_0 := ck9_0.st crf (fun _ _ x => x) ad156 (fun b h => (.inl h))
 have k149 := k149.ch0 crf
 have k154 := k154.ch0 crf
 have c0 := c0.then0 crf
 have ad157 : ∀ b, b < w151.heap.size → ¬ (un (inBlk v51) (un (inBlk (PV p9)) (un (inBlk (PV po0)) S2))) b → ¬ nb b ∧ ¬ (un (inBlk v51) (un (inBlk (PV po0)) S2)) b := fun b _ hs => ⟨fun x => x, fun h => hs (un_el h (fun h => (.inl h)) (fun h => un_el h (fun h => (.inr (.inr (.inl h)))) (fun h => (.inr (.inr (.inr h))))))⟩
 have crf : Ch nb w151 w151 := Ch.refl
 have gp1n : (G F Bb (un (inBlk v51) (un (inBlk (PV po0)) S2))) p1 := ⟨gp1.1, (ad157 _ k4.lt gp1.2).2⟩
 have gp1 := gp1n
 have gp5n : (G F Bb (un (inBlk v51) (un (inBlk (PV po0)) S2))) p5 := ⟨gp5.1, (ad157 _ k8.lt gp5.2).2⟩
 have gp5 := gp5n
 have ck9_0 := ck9_0.st crf (fun _ _ x => x) ad157 (fun b h => (.inl h))
 have k149 := k149.ch0 crf
 have c0 := c0.then0 crf
 have hS158 : (un (inBlk v51) (un (inBlk (PV po0)) S2)) = (un (inBlk (PV po0)) (un (inBlk v51) S2)) := funext fun b => propext ⟨fun h => un_el h (fun h => (.inr (.inl h))) (fun h => un_el h (fun h => (.inl h)) (fun h => (.inr (.inr h)))), fun h => un_el h (fun h => (.inr (.inl h))) (fun h => un_el h (fun h => (.inl h)) (fun h => (.inr (.inr h))))⟩
 rw [hS158] at ck9_0 gp1 gp5
 exact ⟨[_, _], ⟨Res1.agg (cs := (Key.enc y20.1)) rfl Try.isAgg32 Try.sizeOf32 (k154.segAt 0 2) rfl, rfl, trivial⟩, ⟨v51, rfl, k149, ck9_0, lin140, (disSym d143), c0⟩⟩
/-- (*lb/index.Index).Len -/
theorem ctr12 (F : Nat → Prop) (w : World) (Bb : Nat) (S2 : Nat → Prop) (hB : Bb ≤ w.heap.size) (h2 : ∀ b, S2 b → b < w.heap.size) (po0 : Nat) (az0_0 : Value) (az0_1 az0_1u : Value) (hd2 : ∀ b, (un (inBlk (PV po0)) (un (inBlk az0_0) (inBlk az0_1))) b → ¬ S2 b) (hx0_1 : ∀ b, inBlk (PV po0) b → ¬ inBlk az0_0 b) (hx0_2 : ∀ b, inBlk (PV po0) b → ¬ inBlk az0_1 b) (hx1_2 : ∀ b, inBlk az0_0 b → ¬ inBlk az0_1 b) (a0 : Index_2) (ah0 : Blk w po0 47 (Index_2.c a0 az0_0 az0_1u)) (ah0_0 : Mp (fun x => Value.agg (Key.enc x).toArray) (fun x => Value.agg (Key.enc x).toArray) w a0.owner az0_0) (ah0_1 : MM (fun x => Value.agg (Key.enc x).toArray) (fun x => Value.agg (Key.enc x).toArray) (fun x => Value.agg (St50.enc x).toArray) w a0.slices az0_1u az0_1) (r : Int) (hs : F12_Len a0 = r) :
    Ret Try.prog 12 #[(PV po0)] w fun v w' => v = (Value.int .i64 r) ∧ Ch nb w w' := by
 have hS := hs
 have c0 : Ch nb w w := Ch.refl
 refine Ret.of (n := 8) (args := [_]) (rs := [.tmp 2]) Try.func12 rfl rfl rfl rfl ?_
 refine CW.seq (CW.region ?_)
 refine rl_assign rfl rfl ?_
 refine RL.nil (thn_n (CW.seq (CW.region ?_)))
 refine rl_move rfl rfl ?_
 refine rl_nilCheck rfl rfl ?_
 refine rl_fieldAddr rfl fa47_0 rfl ?_
 refine rl_loadS (v := az0_0) rfl Try.isAgg44 (ah0.cell rfl) rfl ?_
 refine rl_lenMap rfl ah0_0 Try.underlying44 rfl ?_
 refine rl_assign rfl rfl ?_
 refine RL.nil (thn_n (CW.ret ?_))
 obtain rfl := hS
 exact ret1 rfl ⟨rfl, c0⟩
/-- maps.Keys[map[lb/api.Key]lb/index.set,lb/api.Key,lb/index.set]$1 -/
theorem it31 {w : World} {m : List (Key × (Option Nat))} {v : Value} {b : Nat} (hb : Blk w b 45 [v]) (hm : MpN (fun x => Value.agg (Key.enc x).toArray) Value.map w m v) : Seq Try.prog (fun x => Value.agg (Key.enc x).toArray) w (m.map (·.1)) (.func (.func 31) #[] [PV b].toArray) := by
  refine ⟨31, [PV b], rfl, en31, fun W c0 l J hJ hY h0 => ?_⟩
  have hb1 := hb.ch0 c0
  have hm1 := hm.ch0 c0
  refine Ret.of (n := 14) (args := [_, _]) (rs := []) Try.func31 rfl rfl rfl rfl ?_
  refine CW.seq (CW.region ?_)
  refine rl_loadS (v := v) rfl Try.isAgg45 (hb1.cell rfl) rfl ?_
  refine rl_range rfl hm1 Try.underlying45 rfl ?_
  intro r W1 hn hw
  refine RL.nil (thn_n ?_)
  refine CW.block ?_
  refine CW.loopS [(0, .func (.yield l) #[] #[]), (5, PV r)] ⟨rfl, rfl, trivial⟩ m.length (fun k E' W' => ∃ (todo : List (Key × (Option Nat))) (ys : List Key), todo.length = k ∧ E' = [(0, .func (.yield l) #[] #[]), (5, PV r)] ∧ (ys ++ todo.map (·.1)).Perm (m.map (·.1)) ∧ J ys W' ∧ Walk (fun x => Value.agg (Key.enc x).toArray) Value.map W' m todo v r ∧ W.heap.size ≤ r)
    ⟨m, [], rfl, rfl, .refl _, hJ _ _ _ h0 (hn.ch.mono fun _ _ h => h.elim), hw, by rw [hn.eq]; exact Nat.le_refl _⟩ ?_
  rintro k _ W2 ⟨todo, ys, rfl, rfl, hp, hj, hw, hr⟩
  refine CW.seq (CW.region ?_)
  refine rl_next rfl hw rfl ?_ ?_
  · rintro rfl
    refine rl_extract rfl rfl rfl ?_
    refine RL.nil (thn_n ?_)
    refine CW.seq ?_
    refine CW.no rfl ?_
    refine CW.exit (thn_exit (thn_exit (inB_hit ?_)))
    exact ⟨[], trivial, ys, by simpa using hp, hj⟩
  · intro k x todo' W3 hpt c3 hw3 hen
    have hj3 := hJ _ _ _ hj (c3.mono fun i _ h => ⟨by have e : r = i := h; omega, by have e : r = i := h; subst e; exact hw.iter⟩)
    have hlen : ys.length < (m.map (·.1)).length := by have h1 := hp.length_eq; have h2 := hpt.length_eq; simp only [List.length_append, List.length_map, List.length_cons] at h1 h2 ⊢; omega
    refine rl_extract rfl rfl rfl ?_
    refine RL.nil (thn_n ?_)
    refine CW.seq ?_
    refine CW.yes rfl ?_
    refine CW.skip (thn_n ?_)
    refine CW.block ?_
    refine CW.seq (CW.region ?_)
    refine rl_entry rfl hen rfl ?_
    refine rl_extract rfl rfl rfl ?_
    refine rl_alloc [.string ⟨#[]⟩, .string ⟨#[]⟩] Try.zeroValue32 rfl rfl ?_
    intro p W4 hn4 hk4
    refine rl_storeA (vs := Key.enc k) rfl rfl (all_one rfl) Try.sizeOf32 rfl hk4 rfl ?_
    intro W5 hs5 c5 hk5
    have c45 : Ch nb W3 W5 := hn4.ch.then c5 fun i hi h => by have e : p = i := h; have := hn4.eq; omega
    have hw5 := hw3.ch0 c45
    have hj5 := hJ _ _ _ hj3 (c45.mono fun _ _ h => h.elim)
    refine RL.nil (thn_n ?_)
    refine CW.seq (CW.regionI ?_)
    refine RLI.preK 2 rfl ?_
    refine rl_move rfl rfl ?_
    refine rl_loadA (cs := Key.enc k) rfl Try.isAgg32 Try.sizeOf32 (hk5.segAt 0 2) rfl rfl ?_
    refine RL.nil ?_
    refine RLI.yield rfl rfl rfl (hY ys k _ hj5 hlen) ?_
    rintro e W6 ⟨rfl, hj6, hk6⟩
    refine ⟨_, rfl, ?_⟩
    have hw6 := hw5.keep fun b o hb ho => hk6.same b o hb ho
    refine RLI.preK 1 rfl ?_
    refine rl_not rfl rfl ?_
    refine RL.nil ?_
    refine RLI.nil fun a ha => ⟨_, ha, thn_n ?_⟩
    refine CW.no rfl ?_
    refine CW.skip (inB_n (thn_n ?_))
    exact ⟨todo'.length, by have := hpt.length_eq; simp only [List.length_cons] at this; omega, [(0, .func (.yield l) #[] #[]), (5, PV r)], ⟨rfl, rfl, trivial⟩, todo', ys ++ [k], rfl, rfl, by
      rw [List.append_assoc]; exact (((hpt.map (·.1)).symm.append_left ys).trans hp), hj6, hw6, hr⟩
/-- maps.Keys[map[lb/api.Key]lb/index.set,lb/api.Key,lb/index.set] -/
theorem ctr23 {w : World} {m : List (Key × (Option Nat))} {v : Value} (hm : MpN (fun x => Value.agg (Key.enc x).toArray) Value.map w m v) : Ret Try.prog 23 #[v] w fun u w' => Seq Try.prog (fun x => Value.agg (Key.enc x).toArray) w' (m.map (·.1)) u ∧ Ch nb w w' := by
  refine Ret.of (n := 4) (args := [_]) (rs := [.tmp 2]) Try.func23 rfl rfl rfl rfl ?_
  refine CW.seq (CW.region ?_)
  refine rl_box [v] rfl (by rw [hm.one.1]) rfl ?_
  intro b w1 hn hk
  refine rl_assign rfl rfl ?_
  refine RL.nil (thn_n ?_)
  refine CW.seq (CW.region ?_)
  refine rl_makeFunc rfl rfl ?_
  refine rl_assign rfl rfl ?_
  refine RL.nil (thn_n ?_)
  refine CW.ret ?_
  exact ret1 rfl ⟨it31 hk (hm.ch0 hn.ch), hn.ch⟩
/-- (*lb/index.Index).Owners -/
theorem ctr14 (F : Nat → Prop) (w : World) (Bb : Nat) (S2 : Nat → Prop) (hB : Bb ≤ w.heap.size) (h2 : ∀ b, S2 b → b < w.heap.size) (po0 : Nat) (az0_0 : Value) (az0_1 az0_1u : Value) (hd2 : ∀ b, (un (inBlk (PV po0)) (un (inBlk az0_0) (inBlk az0_1))) b → ¬ S2 b) (hx0_1 : ∀ b, inBlk (PV po0) b → ¬ inBlk az0_0 b) (hx0_2 : ∀ b, inBlk (PV po0) b → ¬ inBlk az0_1 b) (hx1_2 : ∀ b, inBlk az0_0 b → ¬ inBlk az0_1 b) (a0 : Index_2) (ah0 : Blk w po0 47 (Index_2.c a0 az0_0 az0_1u)) (ah0_0 : Mp (fun x => Value.agg (Key.enc x).toArray) (fun x => Value.agg (Key.enc x).toArray) w a0.owner az0_0) (ah0_1 : MM (fun x => Value.agg (Key.enc x).toArray) (fun x => Value.agg (Key.enc x).toArray) (fun x => Value.agg (St50.enc x).toArray) w a0.slices az0_1u az0_1) (r : (List Key)) (hs : F14_Owners a0 = some r) :
    Ret Try.prog 14 #[(PV po0)] w fun v w' => ∃ (y0 : Value), v = y0 ∧ SlO k_Key 32 (G F Bb (un (inBlk (PV po0)) (un (inBlk az0_0) (un (inBlk az0_1) S2)))) w.heap.size (inBlk y0) w' r y0 ∧ Ch nb w w' := by
 have hS := hs
 have c0 : Ch nb w w := Ch.refl
 refine Ret.of (n := 10) (args := [_]) (rs := [.tmp 2]) Try.func14 rfl rfl rfl rfl ?_
 refine CW.seq (CW.region ?_)
 refine rl_assign rfl rfl ?_
 refine RL.nil (thn_n (CW.seq (CW.region ?_)))
 refine rl_move rfl rfl ?_
 refine rl_nilCheck rfl rfl ?_
 refine rl_fieldAddr rfl fa47_1 rfl ?_
 refine rl_loadS (v := az0_1u) rfl Try.isAgg45 (ah0.cell rfl) rfl ?_
 obtain ⟨Q1, hQ2, eQ3, _⟩ := ah0_1.outer
 refine rl_callF rfl en23 rfl (ctr23 hQ2) ?_
 rintro u4 w5 ⟨h6, c7⟩
 rw [eQ3] at h6
 have ah0 := ah0.ch0 c7
 have ah0_0 := ah0_0.ch0 c7
 have ah0_1 := ah0_1.ch0 c7
 have c0 := c0.then0 c7
 refine rl_callF rfl en22 rfl (ctr22 (F := (G F Bb (un (inBlk (PV po0)) (un (inBlk az0_0) (un (inBlk az0_1) S2))))) h6 (anyPerm_lt hS)) ?_
 rintro v10 w11 ⟨ys8, hp9, h12, c13⟩
 have hS := anyPerm_el hS hp9
 have h12 := SlO.backR k_Key_pos h12 (un_lt ah0.ltp (un_lt ah0_0.ltp (un_lt ah0_1.ltp (fun b h => Nat.lt_of_lt_of_le (h2 b h) c0.size)))) (Nat.le_trans hB c0.size)
 have ah0 := ah0.ch0 c13
 have ah0_0 := ah0_0.ch0 c13
 have ah0_1 := ah0_1.ch0 c13
 have c0 := c0.then0 c13
 obtain ⟨y16, hy17, hS⟩ := bindS hS
 refine rl_callF rfl en21 rfl (ctr21 (G F Bb (un (inBlk (PV po0)) (un (inBlk az0_0) (un (inBlk az0_1) S2)))) w11 ys8 v10 h12 y16 hy17) ?_
 rintro v18 w14 ⟨_, rfl, h19, c15⟩
 have hf20 : ∀ b, inBlk v18 b → w11.heap.size ≤ b := fun b hb => (h19.lt b hb).1
 have h19 := SlO.back (S' := un (inBlk v18) (un (inBlk (PV po0)) (un (inBlk az0_0) (un (inBlk az0_1) S2)))) h19 (un_lt ah0.ltp (un_lt ah0_0.ltp (un_lt ah0_1.ltp (fun b h => Nat.lt_of_lt_of_le (h2 b h) c0.size)))) (Nat.le_trans hB c0.size) (fun _ => Or.comm)
 have lo21 : ∀ b, inBlk v18 b → w.heap.size ≤ b := fun b h => Nat.le_trans c0.size (hf20 b h)
 have c0 := c0.then0 c15
 refine rl_assign rfl rfl ?_
 refine RL.nil (thn_n (CW.ret ?_))
 obtain rfl := Option.some.inj hS
 exact ret1 rfl ⟨v18, rfl, (SlO.outP (fun h => h) h19 lo21), c0⟩
/-- lb/lbref05.Compare -/
theorem ctr32 (F : Nat → Prop) (w : World) (a0 : Key) (a1 : Key) (r : Int) (hs : F32_Compare a0 a1 = r) :
    Ret Try.prog 32 #[(Value.agg (Key.enc a0).toArray), (Value.agg (Key.enc a1).toArray)] w fun v w' => v = (Value.int .i64 r) ∧ Ch nb w w' := by
 have hS := hs
 have c0 : Ch nb w w := Ch.refl
 refine Ret.of (n := 27) (args := [_, _]) (rs := [.tmp 4]) Try.func32 rfl rfl rfl rfl ?_
 refine CW.seq (CW.region ?_)
 refine rl_boxA (cs := (Key.enc a0)) rfl rfl ?_
 intro p1 w2 n3 k4
 have c0 := c0.then0 n3.ch
 refine rl_boxA (cs := (Key.enc a1)) rfl rfl ?_
 intro p5 w6 n7 k8
 have k4 := k4.ch0 n7.ch
 have c0 := c0.then0 n7.ch
 refine rl_assign rfl rfl ?_
 refine RL.nil (thn_n (CW.seq ?_))
 refine CW.seq (CW.region ?_)
 refine rl_fieldAddr rfl fa32_0 rfl ?_
 refine rl_loadS (v := (Value.string a0.space)) rfl Try.isAgg9 (k4.cell rfl) rfl ?_
 refine rl_fieldAddr rfl fa32_0 rfl ?_
 refine rl_loadS (v := (Value.string a1.space)) rfl Try.isAgg9 (k8.cell rfl) rfl ?_
 refine rl_bin rfl rfl B.lssS rfl ?_
 refine rl_move rfl rfl ?_
 obtain ⟨b11, hb12⟩ : ∃ v, ((Op.bytesLess a0.space.toList a1.space.toList) || (lt ((decide (a0.space = a1.space)) && (Op.bytesLess a0.name.toList a1.name.toList)) fun b13 => b13)) = v := ⟨_, rfl⟩
 have hS := ltS hb12 hS
 refine RL.join 13 23 (.bool b11) (fun w' => Ch nb w6 w') ?_ ?_
 · rcases Bool.eq_false_or_eq_true (Op.bytesLess a0.space.toList a1.space.toList) with hg10 | hg10
   ·
    have hs9 := or_t hg10 hb12
    have cs : Ch nb w6 w6 := Ch.refl
    refine RL.no rfl rfl rfl hg10 rfl rfl ?_
    refine RL.no rfl rfl rfl hg10 rfl rfl ?_
    refine RL.no rfl rfl rfl hg10 rfl rfl ?_
    refine RL.no rfl rfl rfl hg10 rfl rfl ?_
    refine RL.no rfl rfl rfl hg10 rfl rfl ?_
    refine RL.no rfl rfl rfl hg10 rfl rfl ?_
    refine RL.noU rfl rfl rfl rfl rfl ?_
    refine RL.noU rfl rfl rfl rfl rfl ?_
    refine RL.noU rfl rfl rfl rfl rfl ?_
    refine RL.noU rfl rfl rfl rfl rfl ?_
    refine RL.noU rfl rfl rfl rfl rfl ?_
    refine RL.no rfl rfl rfl hg10 rfl rfl ?_
    refine rl_pickT rfl hg10 rfl rfl ?_
    exact RL.nil ⟨Ext.bothEq (congrArg Value.bool hs9) (Ext.skip rfl (Ext.skip rfl (Ext.skip rfl (Ext.skip rfl (Ext.skip rfl (Ext.skip rfl (Ext.skip rfl (Ext.skip rfl (Ext.skip rfl (Ext.skip rfl (Ext.skip rfl (Ext.skip rfl (Ext.rfl'))))))))))))), cs⟩
   ·
    have hs9 := or_f hg10 hb12
    have cs : Ch nb w6 w6 := Ch.refl
    refine RL.yes rfl rfl rfl hg10 ?_
    refine rl_fieldAddr rfl fa32_0 rfl ?_
    refine RL.yes rfl rfl rfl hg10 ?_
    refine rl_loadS (v := (Value.string a0.space)) rfl Try.isAgg9 (k4.cell rfl) rfl ?_
    refine RL.yes rfl rfl rfl hg10 ?_
    refine rl_fieldAddr rfl fa32_0 rfl ?_
    refine RL.yes rfl rfl rfl hg10 ?_
    refine rl_loadS (v := (Value.string a1.space)) rfl Try.isAgg9 (k8.cell rfl) rfl ?_
    refine RL.yes rfl rfl rfl hg10 ?_
    refine rl_bin rfl rfl B.eqlS rfl ?_
    refine RL.yes rfl rfl rfl hg10 ?_
    refine rl_move rfl rfl ?_
    obtain ⟨b16, hb17⟩ : ∃ v, ((decide (a0.space = a1.space)) && (Op.bytesLess a0.name.toList a1.name.toList)) = v := ⟨_, rfl⟩
    have hs9 := ltS hb17 hs9
    refine RL.join 6 22 (.bool b16) (fun w' => Ch nb w6 w') ?_ ?_
    · rcases Bool.eq_false_or_eq_true (decide (a0.space = a1.space)) with hg15 | hg15
      ·
       have hs14 := and_t hg15 hb17
       have cs : Ch nb w6 w6 := Ch.refl
       refine RL.yes rfl rfl rfl hg15 ?_
       refine rl_fieldAddr rfl fa32_1 rfl ?_
       refine RL.yes rfl rfl rfl hg15 ?_
       refine rl_loadS (v := (Value.string a0.name)) rfl Try.isAgg9 (k4.cell rfl) rfl ?_
       refine RL.yes rfl rfl rfl hg15 ?_
       refine rl_fieldAddr rfl fa32_1 rfl ?_
       refine RL.yes rfl rfl rfl hg15 ?_
       refine rl_loadS (v := (Value.string a1.name)) rfl Try.isAgg9 (k8.cell rfl) rfl ?_
       refine RL.yes rfl rfl rfl hg15 ?_
       refine rl_bin rfl rfl B.lssS rfl ?_
       refine RL.yes rfl rfl rfl hg10 ?_
       refine rl_pickT rfl hg15 rfl rfl ?_
       exact RL.nil ⟨Ext.bothEq (congrArg Value.bool hs14) (Ext.skip rfl (Ext.skip rfl (Ext.skip rfl (Ext.skip rfl (Ext.skip rfl (Ext.rfl')))))), cs⟩
      ·
       have hs14 := and_f hg15 hb17
       have cs : Ch nb w6 w6 := Ch.refl
       refine RL.no rfl rfl rfl hg15 rfl rfl ?_
       refine RL.no rfl rfl rfl hg15 rfl rfl ?_
       refine RL.no rfl rfl rfl hg15 rfl rfl ?_
       refine RL.no rfl rfl rfl hg15 rfl rfl ?_
       refine RL.no rfl rfl rfl hg15 rfl rfl ?_
       refine RL.yes rfl rfl rfl hg10 ?_
       refine rl_pickF rfl hg15 rfl rfl ?_
       exact RL.nil ⟨Ext.bothEq (congrArg Value.bool hs14) (Ext.skip rfl (Ext.skip rfl (Ext.skip rfl (Ext.skip rfl (Ext.skip rfl (Ext.rfl')))))), cs⟩
    intro w18 c19
    refine rl_pickF rfl hg10 rfl rfl ?_
    have cs := cs.then0 c19
    exact RL.nil ⟨Ext.bothEq (congrArg Value.bool hs9) (Ext.skip rfl (Ext.skip rfl (Ext.skip rfl (Ext.skip rfl (Ext.skip rfl (Ext.skip rfl (Ext.skip rfl (Ext.rfl')))))))), cs⟩
 intro w13 c20
 have k4 := k4.ch0 c20
 have k8 := k8.ch0 c20
 have c0 := c0.then0 c20
 refine RL.nil (thn_n ?_)
 refine CW.cond (t := b11) rfl (fun q21 => ?_) (fun q21 => ?_)
 ·
  have hS := ifT q21 hS
  refine CW.seq (CW.region ?_)
  refine rl_assign rfl rfl ?_
  refine RL.nil (thn_n (CW.ret ?_))
  refine thn_ret ?_
  obtain rfl := hS
  exact ret1 rfl ⟨rfl, c0⟩
 have hS := ifF q21 hS
 refine CW.skip ?_
 refine thn_n (CW.seq ?_)
 refine CW.seq (CW.region ?_)
 refine rl_loadA (cs := (Key.enc a0)) rfl Try.isAgg32 Try.sizeOf32 (k4.segAt 0 2) rfl rfl ?_
 refine rl_loadA (cs := (Key.enc a1)) rfl Try.isAgg32 Try.sizeOf32 (k8.segAt 0 2) rfl rfl ?_
 refine rl_bin rfl rfl (eql32 a0 a1) rfl ?_
 refine RL.nil (thn_n ?_)
 refine CW.cond (t := decide (a0 = a1)) rfl (fun q22 => ?_) (fun q22 => ?_)
 ·
  have hS := ifT q22 hS
  refine CW.seq (CW.region ?_)
  refine rl_assign rfl rfl ?_
  refine RL.nil (thn_n (CW.ret ?_))
  refine thn_ret ?_
  obtain rfl := hS
  exact ret1 rfl ⟨rfl, c0⟩
 have hS := ifF q22 hS
 refine CW.skip ?_
 refine thn_n (CW.seq (CW.region ?_))
 refine rl_assign rfl rfl ?_
 refine RL.nil (thn_n (CW.ret ?_))
 obtain rfl := hS
 exact ret1 rfl ⟨rfl, c0⟩
/-- lb/lbref05.Sort -/
theorem ctr24 (F : Nat → Prop) (w : World) (a0 : (List Key)) (av0 : Value) (ah0 : slRep k_Key F w a0 av0) (r : (List Key)) (hs : F24_Sort a0 = some r) :
    Ret Try.prog 24 #[av0] w fun v w' => ∃ (y0 : Value), v = y0 ∧ SlO k_Key 32 F w.heap.size (inBlk y0) w' r y0 ∧ Ch nb w w' := by
 have hS := hs
 have c0 : Ch nb w w := Ch.refl
 have ah0 := slRep.enter k_Key_pos ah0
 refine Ret.of (n := 55) (args := [_]) (rs := [.tmp 2]) Try.func24 rfl rfl rfl rfl ?_
 refine CW.seq (CW.region ?_)
 refine rl_assign rfl rfl ?_
 refine RL.nil (thn_n (CW.seq (CW.region ?_)))
 refine rl_bslice (k := k_Key) (F := F) (B := w.heap.size) (S := nb) ([] : List Key) rfl k_Key_pos Try.underlying40 Try.sizeOf32 Try.zeroValue32 rfl rfl trivial c0.size nbS rfl ?_
 intro v1 w2 c3 hf4 h5
 have ah0 := slRep.st k_Key_pos ah0 c3 (admNew hf4 (fun _ x => x))
 have c0 := c0.then0 c3
 refine rl_assign rfl rfl ?_
 refine RL.nil (thn_n (CW.seq ?_))
 refine CW.seq (CW.region ?_)
 refine rl_move rfl rfl ?_
 refine rl_lenR rfl ah0 Try.underlying40 rfl ?_
 refine rl_move rfl rfl ?_
 refine RL.nil (thn_n ?_)
 obtain ⟨o16, ho17, hS⟩ := bindS hS
 refine CW.cutB (fun E' w' => ∃ (x6 : (List Key)) (v7 : Value), Sub [(3, v7)] E' ∧ Ch nb w w' ∧ x6 = o16 ∧ slRep k_Key (G F w.heap.size (un (inBlk v7) nb)) w' a0 av0 ∧ SlO k_Key 32 F w.heap.size (un (inBlk v7) nb) w' x6 v7) ?_ ?_
 ·
  refine CW.loopS [(8, av0), (9, (Value.int .i64 ((a0.length : Nat) : Int))), (3, v1), (10, (Value.int .i64 ((0 : Nat) : Int)))] ⟨rfl, rfl, rfl, rfl, trivial⟩ a0.length (fun m E w' => ∃ (rest9 : List Key) (i10 : Nat) (x6 : (List Key)) (v7 : Value), m = rest9.length ∧ E = [(8, av0), (9, (Value.int .i64 ((a0.length : Nat) : Int))), (3, v7), (10, (Value.int .i64 ((i10 : Nat) : Int)))] ∧ Ch nb w w' ∧ At a0 i10 rest9 ∧ runAO F24_Sort_b1 rest9 x6 = some o16 ∧ slRep k_Key (G F w.heap.size (un (inBlk v7) nb)) w' a0 av0 ∧ SlO k_Key 32 F w.heap.size (un (inBlk v7) nb) w' x6 v7)
      ⟨a0, 0, [], v1, rfl, rfl, c0, At.start, ho17, ah0, h5⟩ ?_
  rintro _ _ w22 ⟨rest9, i10, x6, v7, rfl, rfl, c21, hat12, hL11, ah0, h8⟩
  refine CW.seq (CW.region ?_)
  refine rl_bin rfl rfl B.lss rfl ?_
  refine RL.nil (thn_n ?_)
  refine CW.seq ?_
  refine CW.cond (t := decide (((i10 : Nat) : Int) < ((a0.length : Nat) : Int))) rfl (fun q24 => ?_) (fun q24 => ?_)
  ·
   obtain ⟨x18, rest25, rfl⟩ := hat12.cons q24
   obtain ⟨q13, hq14⟩ := runAO_some hL11
   have hb15 := hq14
   refine CW.skip (thn_n ?_)
   refine CW.seq ?_
   refine CW.block ?_
   refine CW.seq (CW.region ?_)
   refine rl_ixR rfl ah0 rfl hat12.get Try.underlying40 Try.sizeOf32 rfl ?_
   intro p26 o27 cs28 hr29 hs30 hg31
   obtain rfl := hr29
   refine rl_loadA (cs := (Key.enc x18)) rfl Try.isAgg32 Try.sizeOf32 (hs30) rfl rfl ?_
   refine rl_alloc (Key.enc Key.z) Try.zeroValue32 rfl rfl ?_
   intro p32 w33 n34 k35
   have lo36 : ∀ b, inBlk (PV p32) b → w.heap.size ≤ b := fun b h => Nat.le_trans c21.size (n34.fresh b h)
   have d37 : ∀ b, inBlk (PV p32) b → ¬ inBlk v7 b := disNew n34.fresh (fun b hb => (h8.lt b hb).2)
   have ah0 := slRep.st k_Key_pos ah0 n34.ch (admNew n34.fresh (fun _ x => x))
   have h8 := h8.st n34.ch (fun _ _ x => x) (admNew n34.fresh (fun _ x => x)) (fun b h => (.inr (.inl h)))
   have c21 := c21.then0 n34.ch
   refine rl_storeA (vs := (Key.enc x18)) rfl rfl (all_one rfl) Try.sizeOf32 rfl k35 rfl ?_
   intro w38 s40 c39 k41
   have ad42 : ∀ b, b < w33.heap.size → ¬ (un (inBlk (PV p32)) (un (inBlk v7) nb)) b → ¬ (inBlk (PV p32)) b ∧ ¬ (un (inBlk (PV p32)) (un (inBlk v7) nb)) b := fun b _ hs => ⟨fun h => hs (.inl h), hs⟩
   have ah0 := slRep.st k_Key_pos ah0 c39 ad42
   have h8 := h8.st c39 (fun b hb h => (disSym d37) b hb h) ad42 (fun b h => (.inr (.inl h)))
   have c21 := c21.then c39 (fun i hi h => absurd (lo36 i h) (Nat.not_le_of_lt hi))
   refine RL.nil (thn_n (CW.seq (CW.region ?_)))
   refine rl_move rfl rfl ?_
   refine rl_lenR rfl (SlO.read (S' := (un (inBlk (PV p32)) nb)) k_Key_pos h8 (fun b hs h => hs (un_el h (fun h => (.inl h)) (fun h => False.elim h))) (fun b hb => fun h => un_el h (fun h => (disSym d37) b hb h) (fun h => h))) Try.underlying40 rfl ?_
   refine rl_assign rfl rfl ?_
   refine RL.nil (thn_n (CW.seq ?_))
   obtain ⟨o52, ho53, hb15⟩ := bindS hb15
   refine CW.cutB (fun E' w' => ∃ (x43 : Int), Sub [(3, v7), (5, (PV p32)), (8, av0), (9, (Value.int .i64 ((a0.length : Nat) : Int))), (10, (Value.int .i64 ((i10 : Nat) : Int))), (6, (Value.int .i64 x43))] E' ∧ Ch nb w w' ∧ Lp.fin x43 = o52 ∧ slRep k_Key (G F w.heap.size (un (inBlk (PV p32)) (un (inBlk v7) nb))) w' a0 av0 ∧ SlO k_Key 32 F w.heap.size (un (inBlk (PV p32)) (un (inBlk v7) nb)) w' x6 v7 ∧ Blk w' p32 32 (Key.enc x18) ∧ (∀ b, inBlk (PV p32) b → ¬ inBlk v7 b)) ?_ ?_
   ·
    refine CW.loopS [(3, v7), (5, (PV p32)), (8, av0), (9, (Value.int .i64 ((a0.length : Nat) : Int))), (10, (Value.int .i64 ((i10 : Nat) : Int))), (6, (Value.int .i64 ((x6.length : Nat) : Int)))] ⟨rfl, rfl, rfl, rfl, rfl, rfl, trivial⟩ FUEL (fun m E w' => ∃ (x43 : Int), E = [(3, v7), (5, (PV p32)), (8, av0), (9, (Value.int .i64 ((a0.length : Nat) : Int))), (10, (Value.int .i64 ((i10 : Nat) : Int))), (6, (Value.int .i64 x43))] ∧ Ch nb w w' ∧ runW (F24_Sort_b2 x6 x18) m x43 = some o52 ∧ slRep k_Key (G F w.heap.size (un (inBlk (PV p32)) (un (inBlk v7) nb))) w' a0 av0 ∧ SlO k_Key 32 F w.heap.size (un (inBlk (PV p32)) (un (inBlk v7) nb)) w' x6 v7 ∧ Blk w' p32 32 (Key.enc x18) ∧ (∀ b, inBlk (PV p32) b → ¬ inBlk v7 b))
        ⟨((x6.length : Nat) : Int), rfl, c21, ho53, ah0, h8, k41, d37⟩ ?_
    rintro _ _ w58 ⟨x43, rfl, c57, hL47, ah0, h8, k41, d44⟩
    obtain ⟨k56, q49, rfl, hq50⟩ := runW_some hL47
    have hb51 := hq50
    refine CW.seq ?_
    refine CW.seq ?_
    obtain ⟨b72, hb73, hb51⟩ := bindS hb51
    refine CW.cutN (fun E' w' => Sub [(3, v7), (5, (PV p32)), (6, (Value.int .i64 x43)), (8, av0), (9, (Value.int .i64 ((a0.length : Nat) : Int))), (10, (Value.int .i64 ((i10 : Nat) : Int))), (27, (Value.bool b72))] E' ∧ Ch nb w58 w') ?_ ?_
    ·
     rcases Bool.eq_false_or_eq_true (decide (x43 > 0)) with hg74 | hg74
     ·
      have hs75 := andO_t hg74 hb73
      obtain ⟨y66, hy67, hs75⟩ := bindS hs75
      obtain ⟨y70, hy71⟩ : ∃ y, F32_Compare x18 y66 = y := ⟨_, rfl⟩
      have hs75 := ltS hy71 hs75
      refine CW.draw 12 [(none, fun fx O uu wx => uu = (Value.int .i64 x43)), (none, fun fx O uu wx => uu = (Value.bool (decide (x43 > 0)))), (none, fun fx O uu wx => uu = (Value.bool (decide (x43 > 0)))), (none, fun fx O uu wx => uu = (Value.agg (Key.enc x18).toArray)), (none, fun fx O uu wx => uu = v7), (none, fun fx O uu wx => uu = (Value.int .i64 x43)), (none, fun fx O uu wx => uu = (Value.int .i64 (IntKind.i64.wrap (x43 - 1)))), (none, fun fx O uu wx => ∃ (p60 : Nat) (o61 : Nat), uu = (Value.pointer (some ⟨p60, o61, none⟩)) ∧ Seg wx p60 o61 (Key.enc y66)), (none, fun fx O uu wx => uu = (Value.agg (Key.enc y66).toArray)), (none, fun fx O uu wx => uu = (Value.int .i64 y70)), (none, fun fx O uu wx => uu = (Value.bool (decide (y70 < 0)))), (none, fun fx O uu wx => uu = (Value.bool b72))] [[], [0], [1], [2], [2], [2], [2, 5], [2, 4, 6], [2, 7], [2, 3, 8], [2, 9], [2, 10]] [11] nb (fun _ h => h.elim) mixed rfl rfl rfl rfl ?_ ?_
      ·
       refine Each.consS (fun fl O wk hE hN hO ck => ?_) ?_
       ·
        refine rl_move rfl rfl ?_
        exact RL.nil ⟨_, rfl, Ch.refl, rfl⟩
       refine Each.consS (fun fl O wk hE hN hO ck => ?_) ?_
       ·
        refine Need.o1 rfl rfl rfl (fun _ h => h) ?_
        refine rl_bin rfl rfl B.gtr rfl ?_
        exact RL.nil ⟨_, rfl, Ch.refl, rfl⟩
       refine Each.consS (fun fl O wk hE hN hO ck => ?_) ?_
       ·
        refine Need.o1 rfl rfl rfl (fun _ h => h) ?_
        refine rl_move rfl rfl ?_
        exact RL.nil ⟨_, rfl, Ch.refl, rfl⟩
       refine Each.consS (fun fl O wk hE hN hO ck => ?_) ?_
       ·
        have k41 := k41.ch0 ck
        refine Need.o1 rfl rfl rfl (fun _ h => h) ?_
        refine RL.yes rfl rfl rfl hg74 ?_
        refine rl_loadA (cs := (Key.enc x18)) rfl Try.isAgg32 Try.sizeOf32 (k41.segAt 0 2) rfl rfl ?_
        exact RL.nil ⟨_, rfl, Ch.refl, rfl⟩
       refine Each.consS (fun fl O wk hE hN hO ck => ?_) ?_
       ·
        refine Need.o1 rfl rfl rfl (fun _ h => h) ?_
        refine RL.yes rfl rfl rfl hg74 ?_
        refine rl_move rfl rfl ?_
        exact RL.nil ⟨_, rfl, Ch.refl, rfl⟩
       refine Each.consS (fun fl O wk hE hN hO ck => ?_) ?_
       ·
        refine Need.o1 rfl rfl rfl (fun _ h => h) ?_
        refine RL.yes rfl rfl rfl hg74 ?_
        refine rl_move rfl rfl ?_
        exact RL.nil ⟨_, rfl, Ch.refl, rfl⟩
       refine Each.consS (fun fl O wk hE hN hO ck => ?_) ?_
       ·
        refine Need.o1 rfl rfl rfl (fun _ h => h) ?_
        refine Need.o1 rfl rfl rfl (fun _ h => h) ?_
        refine RL.yes rfl rfl rfl hg74 ?_
        refine rl_bin rfl rfl B.sub rfl ?_
        exact RL.nil ⟨_, rfl, Ch.refl, rfl⟩
       refine Each.consA ⟨fun _ _ _ _ _ cc hh => by obtain ⟨p60, o61, e, hs64⟩ := hh; exact ⟨p60, o61, e, hs64.ch0 cc⟩, fun h => absurd rfl h, fun fl O wk hE hN hO ck => ?_⟩ ?_
       ·
        have h8 := h8.ch0 ck
        refine Need.o1 rfl rfl rfl (fun _ h => h) ?_
        refine Need.o1 rfl rfl rfl (fun _ h => h) ?_
        refine Need.o1 rfl rfl rfl (fun _ h => h) ?_
        refine RL.yes rfl rfl rfl hg74 ?_
        refine rl_ixOR rfl h8 rfl (ixO_get hy67) k_Key_pos Try.underlying40 Try.sizeOf32 rfl ?_
        intro p86 o87 cs88 hr89 hs90 hg91
        obtain rfl := hr89
        exact RL.nil ⟨_, rfl, Ch.refl, ⟨p86, o87, rfl, hs90⟩⟩
       refine Each.consS (fun fl O wk hE hN hO ck => ?_) ?_
       ·
        refine Need.o1 rfl rfl rfl (fun _ h => h) ?_
        refine Need.one rfl rfl rfl ?_
        rintro _ ⟨p60, o61, e93, hs64⟩
        obtain rfl := e93.symm
        refine RL.yes rfl rfl rfl hg74 ?_
        refine rl_loadA (cs := (Key.enc y66)) rfl Try.isAgg32 Try.sizeOf32 (hs64) rfl rfl ?_
        exact RL.nil ⟨_, rfl, Ch.refl, rfl⟩
       refine Each.consS (fun fl O wk hE hN hO ck => ?_) ?_
       ·
        refine Need.o1 rfl rfl rfl (fun _ h => h) ?_
        refine Need.o1 rfl rfl rfl (fun _ h => h) ?_
        refine Need.o1 rfl rfl rfl (fun _ h => h) ?_
        refine RL.yes rfl rfl rfl hg74 ?_
        refine rl_callF rfl en32 rfl (ctr32 (G F w.heap.size (un (inBlk (PV p32)) (un (inBlk v7) nb))) wk x18 y66 y70 hy71) ?_
        rintro _ w97 ⟨rfl, c98⟩
        exact RL.nil ⟨_, rfl, c98, rfl⟩
       refine Each.consS (fun fl O wk hE hN hO ck => ?_) ?_
       ·
        refine Need.o1 rfl rfl rfl (fun _ h => h) ?_
        refine Need.o1 rfl rfl rfl (fun _ h => h) ?_
        refine RL.yes rfl rfl rfl hg74 ?_
        refine rl_bin rfl rfl B.lss rfl ?_
        exact RL.nil ⟨_, rfl, Ch.refl, rfl⟩
       refine Each.consS (fun fl O wk hE hN hO ck => ?_) ?_
       ·
        refine Need.o1 rfl rfl rfl (fun _ h => h) ?_
        refine Need.o1 rfl rfl rfl (fun _ h => h) ?_
        refine rl_pickT rfl hg74 rfl rfl ?_
        exact RL.nil ⟨_, rfl, Ch.refl, congrArg Value.bool (Option.some.inj hs75)⟩
       trivial
      intro hvO105 OpO105 O105 w103 hO106 c104 hN107
      refine Need.o1 rfl rfl rfl (fun _ h => h) ?_
      exact RL.nil ⟨rfl, ⟨rfl, rfl, rfl, rfl, rfl, rfl, rfl, trivial⟩, c104⟩
     have hs109 := andO_f hg74 hb73
     refine CW.draw 12 [(none, fun fx O uu wx => uu = (Value.int .i64 x43)), (none, fun fx O uu wx => uu = (Value.bool (decide (x43 > 0)))), (none, fun fx O uu wx => uu = (Value.bool (decide (x43 > 0)))), (none, fun _ O uu wx => uu = undef), (none, fun _ O uu wx => uu = undef), (none, fun _ O uu wx => uu = undef), (none, fun _ O uu wx => uu = undef), (none, fun _ O uu wx => uu = undef), (none, fun _ O uu wx => uu = undef), (none, fun _ O uu wx => uu = undef), (none, fun _ O uu wx => uu = undef), (none, fun fx O uu wx => uu = (Value.bool b72))] [[], [0], [1], [2], [2], [2], [2], [2], [2], [2], [2], [2]] [11] nb (fun _ h => h.elim) mixed rfl rfl rfl rfl ?_ ?_
     ·
      refine Each.consS (fun fl O wk hE hN hO ck => ?_) ?_
      ·
       refine rl_move rfl rfl ?_
       exact RL.nil ⟨_, rfl, Ch.refl, rfl⟩
      refine Each.consS (fun fl O wk hE hN hO ck => ?_) ?_
      ·
       refine Need.o1 rfl rfl rfl (fun _ h => h) ?_
       refine rl_bin rfl rfl B.gtr rfl ?_
       exact RL.nil ⟨_, rfl, Ch.refl, rfl⟩
      refine Each.consS (fun fl O wk hE hN hO ck => ?_) ?_
      ·
       refine Need.o1 rfl rfl rfl (fun _ h => h) ?_
       refine rl_move rfl rfl ?_
       exact RL.nil ⟨_, rfl, Ch.refl, rfl⟩
      refine Each.consS (fun fl O wk hE hN hO ck => ?_) ?_
      ·
       refine Need.o1 rfl rfl rfl (fun _ h => h) ?_
       refine RL.no rfl rfl rfl hg74 rfl rfl ?_
       exact RL.nil ⟨_, rfl, Ch.refl, rfl⟩
      refine Each.consS (fun fl O wk hE hN hO ck => ?_) ?_
      ·
       refine Need.o1 rfl rfl rfl (fun _ h => h) ?_
       refine RL.no rfl rfl rfl hg74 rfl rfl ?_
       exact RL.nil ⟨_, rfl, Ch.refl, rfl⟩
      refine Each.consS (fun fl O wk hE hN hO ck => ?_) ?_
      ·
       refine Need.o1 rfl rfl rfl (fun _ h => h) ?_
       refine RL.no rfl rfl rfl hg74 rfl rfl ?_
       exact RL.nil ⟨_, rfl, Ch.refl, rfl⟩
      refine Each.consS (fun fl O wk hE hN hO ck => ?_) ?_
      ·
       refine Need.o1 rfl rfl rfl (fun _ h => h) ?_
       refine RL.no rfl rfl rfl hg74 rfl rfl ?_
       exact RL.nil ⟨_, rfl, Ch.refl, rfl⟩
      refine Each.consS (fun fl O wk hE hN hO ck => ?_) ?_
      ·
       refine Need.o1 rfl rfl rfl (fun _ h => h) ?_
       refine RL.no rfl rfl rfl hg74 rfl rfl ?_
       exact RL.nil ⟨_, rfl, Ch.refl, rfl⟩
      refine Each.consS (fun fl O wk hE hN hO ck => ?_) ?_
      ·
       refine Need.o1 rfl rfl rfl (fun _ h => h) ?_
       refine RL.no rfl rfl rfl hg74 rfl rfl ?_
       exact RL.nil ⟨_, rfl, Ch.refl, rfl⟩
      refine Each.consS (fun fl O wk hE hN hO ck => ?_) ?_
      ·
       refine Need.o1 rfl rfl rfl (fun _ h => h) ?_
       refine RL.no rfl rfl rfl hg74 rfl rfl ?_
       exact RL.nil ⟨_, rfl, Ch.refl, rfl⟩
      refine Each.consS (fun fl O wk hE hN hO ck => ?_) ?_
      ·
       refine Need.o1 rfl rfl rfl (fun _ h => h) ?_
       refine RL.no rfl rfl rfl hg74 rfl rfl ?_
       exact RL.nil ⟨_, rfl, Ch.refl, rfl⟩
      refine Each.consS (fun fl O wk hE hN hO ck => ?_) ?_
      ·
       refine Need.o1 rfl rfl rfl (fun _ h => h) ?_
       refine rl_pickF rfl hg74 rfl rfl ?_
       exact RL.nil ⟨_, rfl, Ch.refl, congrArg Value.bool (Option.some.inj hs109)⟩
      trivial
     intro hvO123 OpO123 O123 w121 hO124 c122 hN125
     refine Need.o1 rfl rfl rfl (fun _ h => h) ?_
     exact RL.nil ⟨rfl, ⟨rfl, rfl, rfl, rfl, rfl, rfl, rfl, trivial⟩, c122⟩
    rintro _ w128 ⟨hE127, c129⟩
    have ah0 := slRep.ch k_Key_pos ah0 c129
    have h8 := h8.ch0 c129
    have k41 := k41.ch0 c129
    have c57 := c57.then0 c129
    refine thn_n (CW.sub [(3, v7), (5, (PV p32)), (6, (Value.int .i64 x43)), (8, av0), (9, (Value.int .i64 ((a0.length : Nat) : Int))), (10, (Value.int .i64 ((i10 : Nat) : Int))), (27, (Value.bool b72))] hE127 ?_)
    refine CW.cond (t := b72) rfl (fun q130 => ?_) (fun q130 => ?_)
    ·
     have hb51 := ifT q130 hb51
     refine CW.skip ?_
     refine thn_n (CW.block ?_)
     refine CW.region ?_
     refine rl_move rfl rfl ?_
     refine rl_bin rfl rfl B.sub rfl ?_
     refine rl_assign rfl rfl ?_
     refine RL.nil ?_
     refine inB_n ?_
     refine thn_n ?_
     have hLn := runW_next hL47 hq50 hb51
     exact ⟨k56, Nat.lt_succ_self _, [(3, v7), (5, (PV p32)), (8, av0), (9, (Value.int .i64 ((a0.length : Nat) : Int))), (10, (Value.int .i64 ((i10 : Nat) : Int))), (6, (Value.int .i64 (IntKind.i64.wrap (x43 - 1))))], ⟨rfl, rfl, rfl, rfl, rfl, rfl, trivial⟩, ⟨IntKind.i64.wrap (x43 - 1), rfl, c57, hLn, ah0, h8, k41, d44⟩⟩
    have hb51 := ifF q130 hb51
    refine CW.exit ?_
    refine thn_exit ?_
    refine thn_exit ?_
    refine inB_hit ?_
    have hLf := runW_fin hL47 hq50 hb51
    exact ⟨x43, ⟨rfl, rfl, rfl, rfl, rfl, rfl, trivial⟩, c57, hLf, ah0, h8, k41, d44⟩
   rintro _ w132 ⟨x43, hE133, c131, f134, ah0, h8, k41, d44⟩
   have hb15 := finS f134 hb15
   refine thn_n (CW.sub [(3, v7), (5, (PV p32)), (8, av0), (9, (Value.int .i64 ((a0.length : Nat) : Int))), (10, (Value.int .i64 ((i10 : Nat) : Int))), (6, (Value.int .i64 x43))] hE133 ?_)
   refine CW.seq ?_
   refine CW.seq ?_
   obtain ⟨b144, hb145, hb15⟩ := bindS hb15
   refine CW.cutN (fun E' w' => Sub [(3, v7), (5, (PV p32)), (6, (Value.int .i64 x43)), (8, av0), (9, (Value.int .i64 ((a0.length : Nat) : Int))), (10, (Value.int .i64 ((i10 : Nat) : Int))), (40, (Value.bool b144))] E' ∧ Ch nb w132 w') ?_ ?_
   ·
    rcases Bool.eq_false_or_eq_true (decide (x43 > 0)) with hg146 | hg146
    ·
     have hs147 := andO_t hg146 hb145
     obtain ⟨y142, hy143, hs147⟩ := bindS hs147
     refine CW.draw 11 [(none, fun fx O uu wx => uu = (Value.int .i64 x43)), (none, fun fx O uu wx => uu = (Value.bool (decide (x43 > 0)))), (none, fun fx O uu wx => uu = (Value.bool (decide (x43 > 0)))), (none, fun fx O uu wx => uu = v7), (none, fun fx O uu wx => uu = (Value.int .i64 x43)), (none, fun fx O uu wx => uu = (Value.int .i64 (IntKind.i64.wrap (x43 - 1)))), (none, fun fx O uu wx => ∃ (p136 : Nat) (o137 : Nat), uu = (Value.pointer (some ⟨p136, o137, none⟩)) ∧ Seg wx p136 o137 (Key.enc y142)), (none, fun fx O uu wx => uu = (Value.agg (Key.enc y142).toArray)), (none, fun fx O uu wx => uu = (Value.agg (Key.enc x18).toArray)), (none, fun fx O uu wx => uu = (Value.bool (decide (y142 = x18)))), (none, fun fx O uu wx => uu = (Value.bool b144))] [[], [0], [1], [2], [2], [2, 4], [2, 3, 5], [2, 6], [2], [2, 7, 8], [2, 9]] [10] nb (fun _ h => h.elim) mixed rfl rfl rfl rfl ?_ ?_
     ·
      refine Each.consS (fun fl O wk hE hN hO ck => ?_) ?_
      ·
       refine rl_move rfl rfl ?_
       exact RL.nil ⟨_, rfl, Ch.refl, rfl⟩
      refine Each.consS (fun fl O wk hE hN hO ck => ?_) ?_
      ·
       refine Need.o1 rfl rfl rfl (fun _ h => h) ?_
       refine rl_bin rfl rfl B.gtr rfl ?_
       exact RL.nil ⟨_, rfl, Ch.refl, rfl⟩
      refine Each.consS (fun fl O wk hE hN hO ck => ?_) ?_
      ·
       refine Need.o1 rfl rfl rfl (fun _ h => h) ?_
       refine rl_move rfl rfl ?_
       exact RL.nil ⟨_, rfl, Ch.refl, rfl⟩
      refine Each.consS (fun fl O wk hE hN hO ck => ?_) ?_
      ·
       refine Need.o1 rfl rfl rfl (fun _ h => h) ?_
       refine RL.yes rfl rfl rfl hg146 ?_
       refine rl_move rfl rfl ?_
       exact RL.nil ⟨_, rfl, Ch.refl, rfl⟩
      refine Each.consS (fun fl O wk hE hN hO ck => ?_) ?_
      ·
       refine Need.o1 rfl rfl rfl (fun _ h => h) ?_
       refine RL.yes rfl rfl rfl hg146 ?_
       refine rl_move rfl rfl ?_
       exact RL.nil ⟨_, rfl, Ch.refl, rfl⟩
      refine Each.consS (fun fl O wk hE hN hO ck => ?_) ?_
      ·
       refine Need.o1 rfl rfl rfl (fun _ h => h) ?_
       refine Need.o1 rfl rfl rfl (fun _ h => h) ?_
       refine RL.yes rfl rfl rfl hg146 ?_
       refine rl_bin rfl rfl B.sub rfl ?_
       exact RL.nil ⟨_, rfl, Ch.refl, rfl⟩
      refine Each.consA ⟨fun _ _ _ _ _ cc hh => by obtain ⟨p136, o137, e, hs140⟩ := hh; exact ⟨p136, o137, e, hs140.ch0 cc⟩, fun h => absurd rfl h, fun fl O wk hE hN hO ck => ?_⟩ ?_
      ·
       have h8 := h8.ch0 ck
       refine Need.o1 rfl rfl rfl (fun _ h => h) ?_
       refine Need.o1 rfl rfl rfl (fun _ h => h) ?_
       refine Need.o1 rfl rfl rfl (fun _ h => h) ?_
       refine RL.yes rfl rfl rfl hg146 ?_
       refine rl_ixOR rfl h8 rfl (ixO_get hy143) k_Key_pos Try.underlying40 Try.sizeOf32 rfl ?_
       intro p157 o158 cs159 hr160 hs161 hg162
       obtain rfl := hr160
       exact RL.nil ⟨_, rfl, Ch.refl, ⟨p157, o158, rfl, hs161⟩⟩
      refine Each.consS (fun fl O wk hE hN hO ck => ?_) ?_
      ·
       refine Need.o1 rfl rfl rfl (fun _ h => h) ?_
       refine Need.one rfl rfl rfl ?_
       rintro _ ⟨p136, o137, e164, hs140⟩
       obtain rfl := e164.symm
       refine RL.yes rfl rfl rfl hg146 ?_
       refine rl_loadA (cs := (Key.enc y142)) rfl Try.isAgg32 Try.sizeOf32 (hs140) rfl rfl ?_
       exact RL.nil ⟨_, rfl, Ch.refl, rfl⟩
      refine Each.consS (fun fl O wk hE hN hO ck => ?_) ?_
      ·
       have k41 := k41.ch0 ck
       refine Need.o1 rfl rfl rfl (fun _ h => h) ?_
       refine RL.yes rfl rfl rfl hg146 ?_
       refine rl_loadA (cs := (Key.enc x18)) rfl Try.isAgg32 Try.sizeOf32 (k41.segAt 0 2) rfl rfl ?_
       exact RL.nil ⟨_, rfl, Ch.refl, rfl⟩
      refine Each.consS (fun fl O wk hE hN hO ck => ?_) ?_
      ·
       refine Need.o1 rfl rfl rfl (fun _ h => h) ?_
       refine Need.o1 rfl rfl rfl (fun _ h => h) ?_
       refine Need.o1 rfl rfl rfl (fun _ h => h) ?_
       refine RL.yes rfl rfl rfl hg146 ?_
       refine rl_bin rfl rfl (eql32 y142 x18) rfl ?_
       exact RL.nil ⟨_, rfl, Ch.refl, rfl⟩
      refine Each.consS (fun fl O wk hE hN hO ck => ?_) ?_
      ·
       refine Need.o1 rfl rfl rfl (fun _ h => h) ?_
       refine Need.o1 rfl rfl rfl (fun _ h => h) ?_
       refine rl_pickT rfl hg146 rfl rfl ?_
       exact RL.nil ⟨_, rfl, Ch.refl, congrArg Value.bool (Option.some.inj hs147)⟩
      trivial
     intro hvO173 OpO173 O173 w171 hO174 c172 hN175
     refine Need.o1 rfl rfl rfl (fun _ h => h) ?_
     exact RL.nil ⟨rfl, ⟨rfl, rfl, rfl, rfl, rfl, rfl, rfl, trivial⟩, c172⟩
    have hs177 := andO_f hg146 hb145
    refine CW.draw 11 [(none, fun fx O uu wx => uu = (Value.int .i64 x43)), (none, fun fx O uu wx => uu = (Value.bool (decide (x43 > 0)))), (none, fun fx O uu wx => uu = (Value.bool (decide (x43 > 0)))), (none, fun _ O uu wx => uu = undef), (none, fun _ O uu wx => uu = undef), (none, fun _ O uu wx => uu = undef), (none, fun _ O uu wx => uu = undef), (none, fun _ O uu wx => uu = undef), (none, fun _ O uu wx => uu = undef), (none, fun _ O uu wx => uu = undef), (none, fun fx O uu wx => uu = (Value.bool b144))] [[], [0], [1], [2], [2], [2], [2], [2], [2], [2], [2]] [10] nb (fun _ h => h.elim) mixed rfl rfl rfl rfl ?_ ?_
    ·
     refine Each.consS (fun fl O wk hE hN hO ck => ?_) ?_
     ·
      refine rl_move rfl rfl ?_
      exact RL.nil ⟨_, rfl, Ch.refl, rfl⟩
     refine Each.consS (fun fl O wk hE hN hO ck => ?_) ?_
     ·
      refine Need.o1 rfl rfl rfl (fun _ h => h) ?_
      refine rl_bin rfl rfl B.gtr rfl ?_
      exact RL.nil ⟨_, rfl, Ch.refl, rfl⟩
     refine Each.consS (fun fl O wk hE hN hO ck => ?_) ?_
     ·
      refine Need.o1 rfl rfl rfl (fun _ h => h) ?_
      refine rl_move rfl rfl ?_
      exact RL.nil ⟨_, rfl, Ch.refl, rfl⟩
     refine Each.consS (fun fl O wk hE hN hO ck => ?_) ?_
     ·
      refine Need.o1 rfl rfl rfl (fun _ h => h) ?_
      refine RL.no rfl rfl rfl hg146 rfl rfl ?_
      exact RL.nil ⟨_, rfl, Ch.refl, rfl⟩
     refine Each.consS (fun fl O wk hE hN hO ck => ?_) ?_
     ·
      refine Need.o1 rfl rfl rfl (fun _ h => h) ?_
      refine RL.no rfl rfl rfl hg146 rfl rfl ?_
      exact RL.nil ⟨_, rfl, Ch.refl, rfl⟩
     refine Each.consS (fun fl O wk hE hN hO ck => ?_) ?_
     ·
      refine Need.o1 rfl rfl rfl (fun _ h => h) ?_
      refine RL.no rfl rfl rfl hg146 rfl rfl ?_
      exact RL.nil ⟨_, rfl, Ch.refl, rfl⟩
     refine Each.consS (fun fl O wk hE hN hO ck => ?_) ?_
     ·
      refine Need.o1 rfl rfl rfl (fun _ h => h) ?_
      refine RL.no rfl rfl rfl hg146 rfl rfl ?_
      exact RL.nil ⟨_, rfl, Ch.refl, rfl⟩
     refine Each.consS (fun fl O wk hE hN hO ck => ?_) ?_
     ·
      refine Need.o1 rfl rfl rfl (fun _ h => h) ?_
      refine RL.no rfl rfl rfl hg146 rfl rfl ?_
      exact RL.nil ⟨_, rfl, Ch.refl, rfl⟩
     refine Each.consS (fun fl O wk hE hN hO ck => ?_) ?_
     ·
      refine Need.o1 rfl rfl rfl (fun _ h => h) ?_
      refine RL.no rfl rfl rfl hg146 rfl rfl ?_
      exact RL.nil ⟨_, rfl, Ch.refl, rfl⟩
     refine Each.consS (fun fl O wk hE hN hO ck => ?_) ?_
     ·
      refine Need.o1 rfl rfl rfl (fun _ h => h) ?_
      refine RL.no rfl rfl rfl hg146 rfl rfl ?_
      exact RL.nil ⟨_, rfl, Ch.refl, rfl⟩
     refine Each.consS (fun fl O wk hE hN hO ck => ?_) ?_
     ·
      refine Need.o1 rfl rfl rfl (fun _ h => h) ?_
      refine rl_pickF rfl hg146 rfl rfl ?_
      exact RL.nil ⟨_, rfl, Ch.refl, congrArg Value.bool (Option.some.inj hs177)⟩
     trivial
    intro hvO190 OpO190 O190 w188 hO191 c189 hN192
    refine Need.o1 rfl rfl rfl (fun _ h => h) ?_
    exact RL.nil ⟨rfl, ⟨rfl, rfl, rfl, rfl, rfl, rfl, rfl, trivial⟩, c189⟩
   rintro _ w195 ⟨hE194, c196⟩
   have ah0 := slRep.ch k_Key_pos ah0 c196
   have h8 := h8.ch0 c196
   have k41 := k41.ch0 c196
   have c131 := c131.then0 c196
   refine thn_n (CW.sub [(3, v7), (5, (PV p32)), (6, (Value.int .i64 x43)), (8, av0), (9, (Value.int .i64 ((a0.length : Nat) : Int))), (10, (Value.int .i64 ((i10 : Nat) : Int))), (40, (Value.bool b144))] hE194 ?_)
   refine CW.cond (t := b144) rfl (fun q197 => ?_) (fun q197 => ?_)
   ·
    have hb15 := ifT q197 hb15
    refine CW.exit ?_
    refine thn_exit ?_
    refine inB_hit ?_
    refine thn_n (CW.region ?_)
    refine rl_inc rfl hat12.lt ah0.big rfl ?_
    refine rl_move rfl rfl ?_
    refine RL.nil (thn_n ?_)
    have ad198 : ∀ b, b < w195.heap.size → ¬ (un (inBlk (PV p32)) (un (inBlk v7) nb)) b → ¬ nb b ∧ ¬ (un (inBlk v7) nb) b := fun b _ hs => ⟨fun x => x, fun h => hs (un_el h (fun h => (.inr (.inl h))) (fun h => False.elim h))⟩
    have crf : Ch nb w195 w195 := Ch.refl
    have ah0 := slRep.st k_Key_pos ah0 crf ad198
    have h8 := h8.st crf (fun _ _ x => x) ad198 (fun b h => (.inl h))
    have c131 := c131.then0 crf
    have hLn := runAO_next hL11 hq14 hb15
    exact ⟨rest25.length, Nat.lt_succ_self _, [(8, av0), (9, (Value.int .i64 ((a0.length : Nat) : Int))), (3, v7), (10, (Value.int .i64 ((i10 + 1 : Nat) : Int)))], ⟨rfl, rfl, rfl, rfl, trivial⟩, ⟨rest25, i10 + 1, x6, v7, rfl, rfl, c131, hat12.next, hLn, ah0, h8⟩⟩
   have hb15 := ifF q197 hb15
   refine CW.skip ?_
   refine thn_n ?_
   have ad199 : ∀ b, b < w195.heap.size → ¬ (un (inBlk (PV p32)) (un (inBlk v7) nb)) b → ¬ nb b ∧ ¬ (un (inBlk (PV p32)) nb) b := fun b _ hs => ⟨fun x => x, fun h => hs (un_el h (fun h => (.inl h)) (fun h => False.elim h))⟩
   have h8 := SlO.read (S' := (un (inBlk (PV p32)) nb)) k_Key_pos h8 (fun b hs h => hs (un_el h (fun h => (.inl h)) (fun h => False.elim h))) (fun b hb => fun h => un_el h (fun h => (disSym d44) b hb h) (fun h => h))
   have crf : Ch nb w195 w195 := Ch.refl
   have ah0 := slRep.st k_Key_pos ah0 crf ad199
   have k41 := k41.ch0 crf
   have c131 := c131.then0 crf
   obtain ⟨y206, hy207, hb15⟩ := bindS hb15
   obtain ⟨z218, hz219, hb15⟩ := bindS hb15
   obtain ⟨z234, hz235, hb15⟩ := bindS hb15
   obtain ⟨y237, hy238, hb15⟩ := bindS hb15
   obtain ⟨z249, hz250, hb15⟩ := bindS hb15
   refine CW.draw 11 [(some false, fun _ O uu wx => ∃ (v200 : Value), uu = v200 ∧ O = (inBlk v200) ∧ SlO k_Key 32 F w.heap.size (un (inBlk v200) (un (inBlk (PV p32)) nb)) wx [] v200), (none, fun fx O uu wx => uu = v7), (none, fun fx O uu wx => uu = (Value.int .i64 x43)), (none, fun fx O uu wx => ∃ (v208 : Value), uu = v208 ∧ slRep k_Key (G F w.heap.size (un O (un (inBlk (PV p32)) nb))) wx y206 v208), (some true, fun hv O uu wx => ∃ (v212 : Value) (v200 : Value), hv = [v200, v212] ∧ uu = v212 ∧ O = (inBlk v212) ∧ SlO k_Key 32 F w.heap.size (un (inBlk v212) (un (inBlk (PV p32)) nb)) wx ([] ++ y206) v212), (none, fun fx O uu wx => uu = (Value.agg (Key.enc x18).toArray)), (none, fun fx O uu wx => ∃ (v221 : Value), uu = v221 ∧ slRep k_Key (G F w.heap.size (un O (un (inBlk (PV p32)) nb))) wx [x18] v221), (some true, fun hv O uu wx => ∃ (v228 : Value) (v200 : Value) (v212 : Value), hv = [v200, v212, v228] ∧ uu = v228 ∧ O = (inBlk v228) ∧ SlO k_Key 32 F w.heap.size (un (inBlk v228) (un (inBlk (PV p32)) nb)) wx (([] ++ y206) ++ [x18]) v228), (none, fun fx O uu wx => uu = v7), (none, fun fx O uu wx => uu = (Value.int .i64 x43)), (none, fun fx O uu wx => ∃ (v239 : Value), uu = v239 ∧ slRep k_Key (G F w.heap.size (un O (un (inBlk (PV p32)) nb))) wx y237 v239)] [[], [], [], [1, 2], [0, 3], [], [5], [4, 6], [], [], [8, 9]] [7, 10] nb (fun _ h => h.elim) mixed rfl rfl rfl rfl ?_ ?_
   ·
    refine Each.consP ⟨fun _ O _ wx wy cc hh => by obtain ⟨v200, e, rfl, ck0_0⟩ := hh; exact ⟨v200, e, rfl, ck0_0.ch0 cc⟩, fun O wk hO ck => ?_⟩ ?_
    ·
     have k41 := k41.ch0 ck
     have c131 := c131.then0 ck
     refine rl_bslice (k := k_Key) (F := F) (B := w.heap.size) (S := (un O (un (inBlk (PV p32)) nb))) ([] : List Key) rfl k_Key_pos Try.underlying40 Try.sizeOf32 Try.zeroValue32 rfl rfl trivial c131.size (un_lt (fun b h => (hO b h).2) (un_lt k41.ltp nbS)) rfl ?_
     intro v254 w255 c256 hf257 h258
     have hb261 : ∀ b, (inBlk v254) b → wk.heap.size ≤ b ∧ b < w255.heap.size := fun b h => ⟨hf257 b h, (fun b hb => (h258.lt b hb).2) b h⟩
     have h262 := SlO.reS (S' := (un (inBlk v254) (un (inBlk (PV p32)) nb))) (fun h => h) h258 (fun b h => .inl h)
     exact RL.nil ⟨_, (inBlk v254), rfl, hb261, c256, ⟨v254, rfl, rfl, h262⟩⟩
    refine Each.consS (fun fl O wk hE hN hO ck => ?_) ?_
    ·
     refine rl_move rfl rfl ?_
     exact RL.nil ⟨_, rfl, Ch.refl, rfl⟩
    refine Each.consS (fun fl O wk hE hN hO ck => ?_) ?_
    ·
     refine rl_move rfl rfl ?_
     exact RL.nil ⟨_, rfl, Ch.refl, rfl⟩
    refine Each.consA ⟨fun _ _ _ _ _ cc hh => by obtain ⟨v208, e, h209⟩ := hh; exact ⟨v208, e, slRep.ch k_Key_pos h209 cc⟩, fun _ _ h' O O' D _ wx wy hfl hD hO' cc hh => by obtain ⟨v208, e, h209⟩ := hh; have ad := admGh (S := (un (inBlk (PV p32)) nb)) hD hO'; exact ⟨v208, e, slRep.st k_Key_pos h209 cc ad⟩, fun fl O wk hE hN hO ck => ?_⟩ ?_
    ·
     have ha268 : ∀ b, b < w195.heap.size → ¬ (un (inBlk (PV p32)) nb) b → ¬ nb b ∧ ¬ (un O (un (inBlk (PV p32)) nb)) b := fun b hb hs => ⟨fun h => h.elim, fun h => un_el h (fun ho => (hO b ho).1.elim (fun h => h.elim) (fun h => Nat.not_le_of_lt hb h)) (fun h => un_el h (fun h => hs (.inl h)) (fun h => False.elim h))⟩
     have h8 := slRep.st k_Key_pos h8 ck ha268
     refine Need.o1 rfl rfl rfl (fun _ h => h) ?_
     refine Need.o1 rfl rfl rfl (fun _ h => h) ?_
     refine rl_cutR (kl := .i64) (kh := .i64) none (some x43) rfl h8 k_Key_pos trivial rfl hy207 Try.underlying40 Try.sizeOf32 rfl ?_
     intro v271 h272
     exact RL.nil ⟨_, rfl, Ch.refl, ⟨v271, rfl, h272⟩⟩
    refine Each.consO ⟨fun _ O _ wx wy cc hh => by obtain ⟨v212, v200, eh, e, rfl, ck4_0⟩ := hh; exact ⟨v212, v200, eh, e, rfl, ck4_0.ch0 cc⟩, fun hv Op O wk hO ck hO0 => ?_⟩ ?_
    ·
     obtain ⟨hl, hBg⟩ := hO0 rfl
     refine Need.made rfl rfl rfl rfl ?_
     rintro _ ⟨v200, e273, eO274, ck0_0⟩ hh275
     obtain rfl := e273.symm
     have io276 : ∀ b, inBlk v200 b → _ := fun b h => (Eq.mpr (congrFun eO274 b) h)
     obtain rfl := hist_eq [v200] hv hl ⟨hh275, trivial⟩
     have k41 := k41.ch0 hBg.2.1
     have c131 := c131.then0 hBg.2.1
     have ck0_0 := SlO.reS (S' := (un (inBlk v200) (un (inBlk (PV p32)) nb))) (fun h => h) ck0_0 (fun b h => (.inl h))
     refine Need.one rfl rfl rfl ?_
     rintro _ ⟨v208, e280, h209⟩
     obtain rfl := e280.symm
     have h209 := slRep.wk (F' := (G F w.heap.size (un (inBlk v200) (un (inBlk (PV p32)) nb)))) k_Key_pos h209 (fun b _ hf => ⟨hf.1, fun h => hf.2 (un_el h (fun h => (.inl ((hBg.1 b).2 (.inr ⟨_, inPre rfl, io276 b h⟩)))) (fun h => un_el h (fun h => (.inr (.inl h))) (fun h => False.elim h)))⟩)
     have hl := (apO_get hz219).1
     refine rl_append (k := k_Key) (T := 32) (F := F) (B := w.heap.size) (S := (un (inBlk v200) (un (inBlk (PV p32)) nb))) (S2 := (un (inBlk (PV p32)) nb)) (fun v => (un (inBlk v) (un (inBlk (PV p32)) nb))) rfl rfl k_Key_pos ap40 ck0_0 h209 (fun _ => Iff.rfl) (fun _ _ => Iff.rfl) hl c131.size (un_lt (fun b hb => (ck0_0.lt b hb).2) (un_lt k41.ltp nbS)) rfl ?_
     intro v283 w284 h285 c286 hf287 ha288
     have hb290 : ∀ b, (inBlk v283) b → (O b ∨ wk.heap.size ≤ b) ∧ b < w284.heap.size := fun b h => ⟨(hf287 b h).elim (fun h => .inl (((hBg.1 b).2 (.inr ⟨_, inPre rfl, io276 b h⟩)))) (fun h => .inr (Nat.le_trans (Nat.le_refl _) h)), (fun b hb => (h285.lt b hb).2) b h⟩
     exact RL.nil ⟨_, (inBlk v283), rfl, hb290, (c286.mono (fun b _ h => ((hBg.1 b).2 (.inr ⟨_, inPre rfl, io276 b h⟩)))), ⟨v283, v200, rfl, rfl, rfl, h285⟩⟩
    refine Each.consS (fun fl O wk hE hN hO ck => ?_) ?_
    ·
     have k41 := k41.ch0 ck
     refine rl_loadA (cs := (Key.enc x18)) rfl Try.isAgg32 Try.sizeOf32 (k41.segAt 0 2) rfl rfl ?_
     exact RL.nil ⟨_, rfl, Ch.refl, rfl⟩
    refine Each.consA ⟨fun _ _ _ _ _ cc hh => by obtain ⟨v221, e, h225⟩ := hh; exact ⟨v221, e, slRep.ch k_Key_pos h225 cc⟩, fun _ _ h' O O' D _ wx wy hfl hD hO' cc hh => by obtain ⟨v221, e, h225⟩ := hh; have ad := admGh (S := (un (inBlk (PV p32)) nb)) hD hO'; exact ⟨v221, e, slRep.st k_Key_pos h225 cc ad⟩, fun fl O wk hE hN hO ck => ?_⟩ ?_
    ·
     have k41 := k41.ch0 ck
     have c131 := c131.then0 ck
     refine Need.o1 rfl rfl rfl (fun _ h => h) ?_
     refine rl_bslice (k := k_Key) (F := F) (B := w.heap.size) (S := (un O (un (inBlk (PV p32)) nb))) ([x18] : List Key) rfl k_Key_pos Try.underlying40 Try.sizeOf32 Try.zeroValue32 rfl rfl ⟨rfl, rfl, trivial⟩ c131.size (un_lt (fun b h => (hO b h).2) (un_lt k41.ltp nbS)) rfl ?_
     intro v296 w297 c298 hf299 h300
     have h300 := h300.readNew k_Key_pos hf299 (un_lt (fun b h => (hO b h).2) (un_lt k41.ltp nbS))
     exact RL.nil ⟨_, rfl, c298, ⟨v296, rfl, h300⟩⟩
    refine Each.consO ⟨fun _ O _ wx wy cc hh => by obtain ⟨v228, v200, v212, eh, e, rfl, ck7_0⟩ := hh; exact ⟨v228, v200, v212, eh, e, rfl, ck7_0.ch0 cc⟩, fun hv Op O wk hO ck hO0 => ?_⟩ ?_
    ·
     refine Need.here rfl rfl rfl rfl ?_
     rintro _ ⟨v212, v200, rfl, e302, rfl, ck4_0⟩
     obtain rfl := e302.symm
     have k41 := k41.ch0 ck
     have c131 := c131.then0 ck
     refine Need.one rfl rfl rfl ?_
     rintro _ ⟨v221, e305, h225⟩
     obtain rfl := e305.symm
     have h225 := slRep.wk (F' := (G F w.heap.size (un (inBlk v212) (un (inBlk (PV p32)) nb)))) k_Key_pos h225 (fun b _ hf => ⟨hf.1, fun h => hf.2 (un_el h (fun h => (.inl h)) (fun h => un_el h (fun h => (.inr (.inl h))) (fun h => False.elim h)))⟩)
     have hl := (apO_get hz235).1
     refine rl_append (k := k_Key) (T := 32) (F := F) (B := w.heap.size) (S := (un (inBlk v212) (un (inBlk (PV p32)) nb))) (S2 := (un (inBlk (PV p32)) nb)) (fun v => (un (inBlk v) (un (inBlk (PV p32)) nb))) rfl rfl k_Key_pos ap40 ck4_0 h225 (fun _ => Iff.rfl) (fun _ _ => Iff.rfl) hl c131.size (un_lt (fun b hb => (ck4_0.lt b hb).2) (un_lt k41.ltp nbS)) rfl ?_
     intro v308 w309 h310 c311 hf312 ha313
     have hb315 : ∀ b, (inBlk v308) b → ((inBlk v212) b ∨ wk.heap.size ≤ b) ∧ b < w309.heap.size := fun b h => ⟨(hf312 b h).elim (fun h => .inl (h)) (fun h => .inr (Nat.le_trans (Nat.le_refl _) h)), (fun b hb => (h310.lt b hb).2) b h⟩
     exact RL.nil ⟨_, (inBlk v308), rfl, hb315, (c311.mono (fun b _ h => h)), ⟨v308, v200, v212, rfl, rfl, rfl, h310⟩⟩
    refine Each.consS (fun fl O wk hE hN hO ck => ?_) ?_
    ·
     refine rl_move rfl rfl ?_
     exact RL.nil ⟨_, rfl, Ch.refl, rfl⟩
    refine Each.consS (fun fl O wk hE hN hO ck => ?_) ?_
    ·
     refine rl_move rfl rfl ?_
     exact RL.nil ⟨_, rfl, Ch.refl, rfl⟩
    refine Each.consA ⟨fun _ _ _ _ _ cc hh => by obtain ⟨v239, e, h240⟩ := hh; exact ⟨v239, e, slRep.ch k_Key_pos h240 cc⟩, fun _ _ h' O O' D _ wx wy hfl hD hO' cc hh => by obtain ⟨v239, e, h240⟩ := hh; have ad := admGh (S := (un (inBlk (PV p32)) nb)) hD hO'; exact ⟨v239, e, slRep.st k_Key_pos h240 cc ad⟩, fun fl O wk hE hN hO ck => ?_⟩ ?_
    ·
     have ha321 : ∀ b, b < w195.heap.size → ¬ (un (inBlk (PV p32)) nb) b → ¬ nb b ∧ ¬ (un O (un (inBlk (PV p32)) nb)) b := fun b hb hs => ⟨fun h => h.elim, fun h => un_el h (fun ho => (hO b ho).1.elim (fun h => h.elim) (fun h => Nat.not_le_of_lt hb h)) (fun h => un_el h (fun h => hs (.inl h)) (fun h => False.elim h))⟩
     have h8 := slRep.st k_Key_pos h8 ck ha321
     refine Need.o1 rfl rfl rfl (fun _ h => h) ?_
     refine Need.o1 rfl rfl rfl (fun _ h => h) ?_
     refine rl_cutR (kl := .i64) (kh := .i64) (some x43) none rfl h8 k_Key_pos rfl trivial hy238 Try.underlying40 Try.sizeOf32 rfl ?_
     intro v324 h325
     exact RL.nil ⟨_, rfl, Ch.refl, ⟨v324, rfl, h325⟩⟩
    trivial
   intro hvO328 OpO328 O328 w326 hO329 c327 hN330
   refine Need.here rfl rfl rfl rfl ?_
   rintro _ ⟨v228, v200, v212, rfl, e332, rfl, ck7_0⟩
   obtain rfl := e332.symm
   have ha334 : ∀ b, b < w195.heap.size → ¬ (un (inBlk (PV p32)) nb) b → ¬ nb b ∧ ¬ (un (inBlk v228) (un (inBlk (PV p32)) nb)) b := fun b hb hs => ⟨fun h => h.elim, fun h => un_el h (fun h => (hO329 b h).1.elim (fun h => h.elim) (fun h => Nat.not_le_of_lt hb h)) (fun h => un_el h (fun h => hs (.inl h)) (fun h => False.elim h))⟩
   have ah0 := slRep.st k_Key_pos ah0 c327 ha334
   have k41 := k41.ch0 c327
   have c131 := c131.then0 c327
   refine Need.one rfl rfl rfl ?_
   rintro _ ⟨v239, e335, h240⟩
   obtain rfl := e335.symm
   have h240 := slRep.wk (F' := (G F w.heap.size (un (inBlk v228) (un (inBlk (PV p32)) nb)))) k_Key_pos h240 (fun b _ hf => ⟨hf.1, fun h => hf.2 (un_el h (fun h => (.inl h)) (fun h => un_el h (fun h => (.inr (.inl h))) (fun h => False.elim h)))⟩)
   have hl := (apO_get hz250).1
   refine rl_append (k := k_Key) (T := 32) (F := F) (B := w.heap.size) (S := (un (inBlk v228) (un (inBlk (PV p32)) nb))) (S2 := (un (inBlk (PV p32)) nb)) (fun v => (un (inBlk v) (un (inBlk (PV p32)) nb))) rfl rfl k_Key_pos ap40 ck7_0 h240 (fun _ => Iff.rfl) (fun _ _ => Iff.rfl) hl c131.size (un_lt (fun b hb => (ck7_0.lt b hb).2) (un_lt k41.ltp nbS)) rfl ?_
   intro v338 w339 h340 c341 hf342 ha343
   have ah0 := slRep.st k_Key_pos ah0 c341 ha343
   have c131 := c131.then c341 (fun i hi h => absurd ((fun b hb => (ck7_0.lt b hb).1) i h) (Nat.not_le_of_lt hi))
   refine rl_assign rfl rfl ?_
   refine RL.nil ?_
   refine inB_n ?_
   refine thn_n (CW.region ?_)
   refine rl_inc rfl hat12.lt ah0.big rfl ?_
   refine rl_move rfl rfl ?_
   refine RL.nil (thn_n ?_)
   have ad345 : ∀ b, b < w339.heap.size → ¬ (un (inBlk v338) (un (inBlk (PV p32)) nb)) b → ¬ nb b ∧ ¬ (un (inBlk v338) nb) b := fun b _ hs => ⟨fun x => x, fun h => hs (un_el h (fun h => (.inl h)) (fun h => False.elim h))⟩
   have crf : Ch nb w339 w339 := Ch.refl
   have ah0 := slRep.st k_Key_pos ah0 crf ad345
   have h340 := h340.st crf (fun _ _ x => x) ad345 (fun b h => (.inl h))
   have c131 := c131.then0 crf
   have hLn := runAO_next hL11 hq14 hb15
   exact ⟨rest25.length, Nat.lt_succ_self _, [(8, av0), (9, (Value.int .i64 ((a0.length : Nat) : Int))), (3, v338), (10, (Value.int .i64 ((i10 + 1 : Nat) : Int)))], ⟨rfl, rfl, rfl, rfl, trivial⟩, ⟨rest25, i10 + 1, (([] ++ y206) ++ [x18]) ++ y237, v338, rfl, rfl, c131, hat12.next, hLn, ah0, h340⟩⟩
  obtain rfl := hat12.nil q24
  have hLf : x6 = o16 := runAO_done hL11
  refine CW.exit (thn_exit (thn_exit (inB_hit ?_)))
  exact ⟨x6, v7, ⟨rfl, trivial⟩, c21, hLf, ah0, h8⟩
 rintro _ w347 ⟨x6, v7, hE348, c346, f349, ah0, h8⟩
 subst f349
 refine thn_n (CW.sub [(3, v7)] hE348 ?_)
 refine CW.seq (CW.region ?_)
 refine rl_move rfl rfl ?_
 refine rl_assign rfl rfl ?_
 refine RL.nil (thn_n (CW.ret ?_))
 obtain rfl := Option.some.inj hS
 exact ret1 rfl ⟨v7, rfl, h8.out, c346⟩
/-- (*lb/lbref16.Index).Owners -/
theorem ctr15 (F : Nat → Prop) (w : World) (Bb : Nat) (S2 : Nat → Prop) (hB : Bb ≤ w.heap.size) (h2 : ∀ b, S2 b → b < w.heap.size) (po0 : Nat) (az0_0 : Value) (hd2 : ∀ b, (un (inBlk (PV po0)) (inBlk az0_0)) b → ¬ S2 b) (hx0_1 : ∀ b, inBlk (PV po0) b → ¬ inBlk az0_0 b) (a0 : Index_3) (ah0 : Blk w po0 30 (Index_3.c a0 az0_0)) (ah0_0 : SlO k_A2Key 51 F Bb (un (inBlk (PV po0)) (un (inBlk az0_0) S2)) w a0.all az0_0) (r : (List Key)) (hs : F15_Owners a0 = some r) :
    Ret Try.prog 15 #[(PV po0)] w fun v w' => ∃ (y0 : Value), v = y0 ∧ SlO k_Key 32 (G F Bb (un (inBlk (PV po0)) (un (inBlk az0_0) S2))) w.heap.size (inBlk y0) w' r y0 ∧ Ch nb w w' := by
 have hS := hs
 have c0 : Ch nb w w := Ch.refl
 have lin1_0 : ∀ b, inBlk az0_0 b → (un (inBlk (PV po0)) (inBlk az0_0)) b ∨ w.heap.size ≤ b := fun b h => .inl (.inr h)
 refine Ret.of (n := 24) (args := [_]) (rs := [.tmp 2]) Try.func15 rfl rfl rfl rfl ?_
 refine CW.seq (CW.region ?_)
 refine rl_assign rfl rfl ?_
 refine RL.nil (thn_n (CW.seq (CW.region ?_)))
 refine rl_bslice (k := k_Key) (F := F) (B := Bb) (S := (un (inBlk (PV po0)) (un (inBlk az0_0) S2))) ([] : List Key) rfl k_Key_pos Try.underlying40 Try.sizeOf32 Try.zeroValue32 rfl rfl trivial (Nat.le_trans hB c0.size) (un_lt ah0.ltp (un_lt (fun b hb => (ah0_0.lt b hb).2) (fun b h => Nat.lt_of_lt_of_le (h2 b h) c0.size))) rfl ?_
 intro v1 w2 c3 hf4 h5
 have lo6 : ∀ b, inBlk v1 b → w.heap.size ≤ b := fun b h => Nat.le_trans c0.size (hf4 b h)
 have d7 : ∀ b, inBlk v1 b → ¬ inBlk (PV po0) b := disNew hf4 ah0.ltp
 have d8 : ∀ b, inBlk v1 b → ¬ inBlk az0_0 b := disNew hf4 (fun b hb => (ah0_0.lt b hb).2)
 have ah0 := ah0.ch0 c3
 have ah0_0 := ah0_0.st c3 (fun _ _ x => x) (admNew hf4 (fun _ x => x)) (fun b h => (.inr (.inr (.inl h))))
 have c0 := c0.then0 c3
 refine rl_assign rfl rfl ?_
 refine RL.nil (thn_n (CW.seq ?_))
 refine CW.seq (CW.region ?_)
 refine rl_move rfl rfl ?_
 refine rl_nilCheck rfl rfl ?_
 refine rl_fieldAddr rfl fa30_0 rfl ?_
 refine rl_loadS (v := az0_0) rfl Try.isAgg28 (ah0.cell rfl) rfl ?_
 refine rl_lenR rfl (SlO.read (S' := (un (inBlk v1) (un (inBlk (PV po0)) S2))) k_A2Key_pos ah0_0 (fun b hs h => hs (un_el h (fun h => (.inl h)) (fun h => un_el h (fun h => (.inr (.inl h))) (fun h => (.inr (.inr (.inr h))))))) (fun b hb => fun h => un_el h (fun h => (disSym d8) b hb h) (fun h => un_el h (fun h => (disSym hx0_1) b hb h) (linNot lin1_0 hd2 h2 b hb)))) Try.underlying28 rfl ?_
 refine rl_move rfl rfl ?_
 refine RL.nil (thn_n ?_)
 have ad9 : ∀ b, b < w2.heap.size → ¬ (un (inBlk v1) (un (inBlk (PV po0)) (un (inBlk az0_0) S2))) b → ¬ nb b ∧ ¬ (un (inBlk v1) (un (inBlk (PV po0)) S2)) b := fun b _ hs => ⟨fun x => x, fun h => hs (un_el h (fun h => (.inl h)) (fun h => un_el h (fun h => (.inr (.inl h))) (fun h => (.inr (.inr (.inr h))))))⟩
 have ah0_0 := SlO.read (S' := (un (inBlk v1) (un (inBlk (PV po0)) S2))) k_A2Key_pos ah0_0 (fun b hs h => hs (un_el h (fun h => (.inl h)) (fun h => un_el h (fun h => (.inr (.inl h))) (fun h => (.inr (.inr (.inr h))))))) (fun b hb => fun h => un_el h (fun h => (disSym d8) b hb h) (fun h => un_el h (fun h => (disSym hx0_1) b hb h) (linNot lin1_0 hd2 h2 b hb)))
 have crf : Ch nb w2 w2 := Ch.refl
 have ah0 := ah0.ch0 crf
 have h5 := h5.st crf (fun _ _ x => x) ad9 (fun b h => (.inl h))
 have c0 := c0.then0 crf
 obtain ⟨o22, ho23, hS⟩ := bindS hS
 refine CW.cutB (fun E' w' => ∃ (x10 : (List Key)) (v11 : Value), Sub [(3, v11)] E' ∧ Ch nb w w' ∧ x10 = o22 ∧ Blk w' po0 30 (Index_3.c a0 az0_0) ∧ slRep k_A2Key (G F Bb (un (inBlk v11) (un (inBlk (PV po0)) S2))) w' a0.all az0_0 ∧ SlO k_Key 32 F Bb (un (inBlk v11) (un (inBlk (PV po0)) S2)) w' x10 v11 ∧ (∀ b, inBlk v11 b → ¬ inBlk (PV po0) b) ∧ (∀ b, inBlk v11 b → w.heap.size ≤ b)) ?_ ?_
 ·
  refine CW.loopS [(10, az0_0), (11, (Value.int .i64 ((a0.all.length : Nat) : Int))), (3, v1), (12, (Value.int .i64 ((0 : Nat) : Int)))] ⟨rfl, rfl, rfl, rfl, trivial⟩ a0.all.length (fun m E w' => ∃ (rest15 : List A2Key) (i16 : Nat) (x10 : (List Key)) (v11 : Value), m = rest15.length ∧ E = [(10, az0_0), (11, (Value.int .i64 ((a0.all.length : Nat) : Int))), (3, v11), (12, (Value.int .i64 ((i16 : Nat) : Int)))] ∧ Ch nb w w' ∧ At a0.all i16 rest15 ∧ runAO F15_Owners_b1 rest15 x10 = some o22 ∧ Blk w' po0 30 (Index_3.c a0 az0_0) ∧ slRep k_A2Key (G F Bb (un (inBlk v11) (un (inBlk (PV po0)) S2))) w' a0.all az0_0 ∧ SlO k_Key 32 F Bb (un (inBlk v11) (un (inBlk (PV po0)) S2)) w' x10 v11 ∧ (∀ b, inBlk v11 b → ¬ inBlk (PV po0) b) ∧ (∀ b, inBlk v11 b → w.heap.size ≤ b))
      ⟨a0.all, 0, [], v1, rfl, rfl, c0, At.start, ho23, ah0, ah0_0, h5, d7, lo6⟩ ?_
  rintro _ _ w28 ⟨rest15, i16, x10, v11, rfl, rfl, c27, hat18, hL17, ah0, ah0_0, h12, d14, lo13⟩
  refine CW.seq (CW.region ?_)
  refine rl_bin rfl rfl B.lss rfl ?_
  refine RL.nil (thn_n ?_)
  refine CW.seq ?_
  refine CW.cond (t := decide (((i16 : Nat) : Int) < ((a0.all.length : Nat) : Int))) rfl (fun q30 => ?_) (fun q30 => ?_)
  ·
   obtain ⟨x24, rest31, rfl⟩ := hat18.cons q30
   obtain ⟨q19, hq20⟩ := runAO_some hL17
   have hb21 := hq20
   refine CW.skip (thn_n ?_)
   refine CW.seq ?_
   refine CW.block ?_
   refine CW.seq (CW.region ?_)
   refine rl_ixR rfl ah0_0 rfl hat18.get Try.underlying28 Try.sizeOf51 rfl ?_
   intro p32 o33 cs34 hr35 hs36 hg37
   obtain rfl := hr35
   refine rl_loadA (cs := (A2Key.enc x24)) rfl Try.isAgg51 Try.sizeOf51 (hs36) rfl rfl ?_
   refine rl_alloc (A2Key.enc A2Key.z) Try.zeroValue51 rfl rfl ?_
   intro p38 w39 n40 k41
   have lo42 : ∀ b, inBlk (PV p38) b → w.heap.size ≤ b := fun b h => Nat.le_trans c27.size (n40.fresh b h)
   have d43 : ∀ b, inBlk (PV p38) b → ¬ inBlk v11 b := disNew n40.fresh (fun b hb => (h12.lt b hb).2)
   have d44 : ∀ b, inBlk (PV p38) b → ¬ inBlk (PV po0) b := disNew n40.fresh ah0.ltp
   have ah0 := ah0.ch0 n40.ch
   have ah0_0 := slRep.st k_A2Key_pos ah0_0 n40.ch (admNew n40.fresh (fun _ x => x))
   have h12 := h12.st n40.ch (fun _ _ x => x) (admNew n40.fresh (fun _ x => x)) (fun b h => (.inr (.inl h)))
   have c27 := c27.then0 n40.ch
   refine rl_storeA (vs := (A2Key.enc x24)) rfl rfl (all_one rfl) Try.sizeOf51 rfl k41 rfl ?_
   intro w45 s47 c46 k48
   have ad49 : ∀ b, b < w39.heap.size → ¬ (un (inBlk (PV p38)) (un (inBlk v11) (un (inBlk (PV po0)) S2))) b → ¬ (inBlk (PV p38)) b ∧ ¬ (un (inBlk (PV p38)) (un (inBlk v11) (un (inBlk (PV po0)) S2))) b := fun b _ hs => ⟨fun h => hs (.inl h), hs⟩
   have ah0 := ah0.ch c46 ((fun b hb h => (disSym d44) b hb h) _ rfl)
   have ah0_0 := slRep.st k_A2Key_pos ah0_0 c46 ad49
   have h12 := h12.st c46 (fun b hb h => (disSym d43) b hb h) ad49 (fun b h => (.inr (.inl h)))
   have c27 := c27.then c46 (fun i hi h => absurd (lo42 i h) (Nat.not_le_of_lt hi))
   refine RL.nil (thn_n (CW.region ?_))
   refine rl_move rfl rfl ?_
   refine rl_ixArrP (off := 2) rfl rfl rfl Try.underlying51 Try.sizeOf32 rfl rfl ?_
   refine rl_loadA (cs := (Key.enc x24.e1)) rfl Try.isAgg32 Try.sizeOf32 (k48.segAt 2 2) rfl rfl ?_
   refine rl_bslice (k := k_Key) (F := F) (B := Bb) (S := (un (inBlk (PV p38)) (un (inBlk v11) (un (inBlk (PV po0)) S2)))) ([x24.e1] : List Key) rfl k_Key_pos Try.underlying40 Try.sizeOf32 Try.zeroValue32 rfl rfl ⟨rfl, rfl, trivial⟩ (Nat.le_trans hB c27.size) (un_lt k48.ltp (un_lt (fun b hb => (h12.lt b hb).2) (un_lt ah0.ltp (fun b h => Nat.lt_of_lt_of_le (h2 b h) c27.size)))) rfl ?_
   intro v50 w51 c52 hf53 h54
   have h54 := h54.readNew k_Key_pos hf53 (un_lt k48.ltp (un_lt (fun b hb => (h12.lt b hb).2) (un_lt ah0.ltp (fun b h => Nat.lt_of_lt_of_le (h2 b h) c27.size))))
   have ah0 := ah0.ch0 c52
   have ah0_0 := slRep.ch k_A2Key_pos ah0_0 c52
   have h12 := h12.ch0 c52
   have k48 := k48.ch0 c52
   have c27 := c27.then0 c52
   obtain ⟨z63, hz64, hb21⟩ := bindS hb21
   have hl := (apO_get hz64).1
   refine rl_append (k := k_Key) (T := 32) (F := F) (B := Bb) (S := (un (inBlk (PV p38)) (un (inBlk v11) (un (inBlk (PV po0)) S2)))) (S2 := (un (inBlk (PV p38)) (un (inBlk (PV po0)) S2))) (fun v => (un (inBlk (PV p38)) (un (inBlk v) (un (inBlk (PV po0)) S2)))) rfl rfl k_Key_pos ap40 h12 h54 (fun _ => un_swap) (fun _ _ => un_swap) hl (Nat.le_trans hB c27.size) (un_lt k48.ltp (un_lt (fun b hb => (h12.lt b hb).2) (un_lt ah0.ltp (fun b h => Nat.lt_of_lt_of_le (h2 b h) c27.size)))) rfl ?_
   intro v57 w58 h59 c60 hf61 ha62
   have lo65 : ∀ b, inBlk v57 b → w.heap.size ≤ b := fun b h => (hf61 b h).elim (lo13 b) (Nat.le_trans c27.size)
   have d67 : ∀ b, inBlk v57 b → ¬ inBlk (PV po0) b := disApp hf61 d14 ah0.ltp
   have ah0 := ah0.ch c60 ((fun b hb h => (disSym d14) b hb h) _ rfl)
   have ah0_0 := slRep.st k_A2Key_pos ah0_0 c60 ha62
   have c27 := c27.then c60 (fun i hi h => absurd (lo13 i h) (Nat.not_le_of_lt hi))
   refine rl_assign rfl rfl ?_
   refine RL.nil ?_
   refine inB_n ?_
   refine thn_n (CW.region ?_)
   refine rl_inc rfl hat18.lt ah0_0.big rfl ?_
   refine rl_move rfl rfl ?_
   refine RL.nil (thn_n ?_)
   have ad68 : ∀ b, b < w58.heap.size → ¬ (un (inBlk (PV p38)) (un (inBlk v57) (un (inBlk (PV po0)) S2))) b → ¬ nb b ∧ ¬ (un (inBlk v57) (un (inBlk (PV po0)) S2)) b := fun b _ hs => ⟨fun x => x, fun h => hs (un_el h (fun h => (.inr (.inl h))) (fun h => un_el h (fun h => (.inr (.inr (.inl h)))) (fun h => (.inr (.inr (.inr h))))))⟩
   have crf : Ch nb w58 w58 := Ch.refl
   have ah0 := ah0.ch0 crf
   have ah0_0 := slRep.st k_A2Key_pos ah0_0 crf ad68
   have h59 := h59.st crf (fun _ _ x => x) ad68 (fun b h => (.inl h))
   have c27 := c27.then0 crf
   have hLn := runAO_next hL17 hq20 hb21
   exact ⟨rest31.length, Nat.lt_succ_self _, [(10, az0_0), (11, (Value.int .i64 ((a0.all.length : Nat) : Int))), (3, v57), (12, (Value.int .i64 ((i16 + 1 : Nat) : Int)))], ⟨rfl, rfl, rfl, rfl, trivial⟩, ⟨rest31, i16 + 1, x10 ++ [x24.e1], v57, rfl, rfl, c27, hat18.next, hLn, ah0, ah0_0, h59, d67, lo65⟩⟩
  obtain rfl := hat18.nil q30
  have hLf : x10 = o22 := runAO_done hL17
  refine CW.exit (thn_exit (thn_exit (inB_hit ?_)))
  exact ⟨x10, v11, ⟨rfl, trivial⟩, c27, hLf, ah0, ah0_0, h12, d14, lo13⟩
 rintro _ w70 ⟨x10, v11, hE71, c69, f72, ah0, ah0_0, h12, d14, lo13⟩
 subst f72
 refine thn_n (CW.sub [(3, v11)] hE71 ?_)
 refine CW.seq (CW.region ?_)
 refine rl_move rfl rfl ?_
 have h12 := SlO.read (S' := (un (inBlk (PV po0)) S2)) k_Key_pos h12 (fun b hs h => hs (un_el h (fun h => (.inr (.inl h))) (fun h => (.inr (.inr h))))) (fun b hb => fun h => un_el h (fun h => d14 b hb h) (linNot (fun b h => .inr (lo13 b h)) hd2 h2 b hb))
 have crf : Ch nb w70 w70 := Ch.refl
 have ah0 := ah0.ch0 crf
 have c69 := c69.then0 crf
 obtain ⟨y77, hy78, hS⟩ := bindS hS
 refine rl_callF rfl en24 rfl (ctr24 (G F Bb (un (inBlk (PV po0)) S2)) w70 x10 v11 h12 y77 hy78) ?_
 rintro v79 w75 ⟨_, rfl, h80, c76⟩
 have hf81 : ∀ b, inBlk v79 b → w70.heap.size ≤ b := fun b hb => (h80.lt b hb).1
 have h80 := SlO.back (S' := un (inBlk v79) (un (inBlk (PV po0)) S2)) h80 (un_lt ah0.ltp (fun b h => Nat.lt_of_lt_of_le (h2 b h) c69.size)) (Nat.le_trans hB c69.size) (fun _ => Or.comm)
 have lo82 : ∀ b, inBlk v79 b → w.heap.size ≤ b := fun b h => Nat.le_trans c69.size (hf81 b h)
 have c69 := c69.then0 c76
 refine rl_assign rfl rfl ?_
 refine RL.nil (thn_n (CW.ret ?_))
 obtain rfl := Option.some.inj hS
 exact ret1 rfl ⟨v79, rfl, (SlO.outP (fun h => h) h80 lo82), c69⟩
/-- lb/lbref16.Same -/
theorem ctr13 (F : Nat → Prop) (w : World) (a0 : (List Key)) (av0 : Value) (ah0 : slRep k_Key F w a0 av0) (a1 : (List Key)) (av1 : Value) (ah1 : slRep k_Key F w a1 av1) (r : Bool) (hs : F13_Same a0 a1 = some r) :
    Ret Try.prog 13 #[av0, av1] w fun v w' => v = (Value.bool r) ∧ Ch nb w w' := by
 have hS := hs
 have c0 : Ch nb w w := Ch.refl
 have ah0 := slRep.enter k_Key_pos ah0
 have ah1 := slRep.enter k_Key_pos ah1
 refine Ret.of (n := 26) (args := [_, _]) (rs := [.tmp 4]) Try.func13 rfl rfl rfl rfl ?_
 refine CW.seq (CW.region ?_)
 refine rl_assign rfl rfl ?_
 refine RL.nil (thn_n (CW.seq ?_))
 refine CW.seq (CW.region ?_)
 refine rl_move rfl rfl ?_
 refine rl_lenR rfl ah0 Try.underlying40 rfl ?_
 refine rl_move rfl rfl ?_
 refine rl_lenR rfl ah1 Try.underlying40 rfl ?_
 refine rl_bin rfl rfl B.neq rfl ?_
 refine RL.nil (thn_n ?_)
 refine CW.cond (t := !decide (((a0.length : Nat) : Int) = ((a1.length : Nat) : Int))) rfl (fun q1 => ?_) (fun q1 => ?_)
 ·
  have hS := ifT q1 hS
  refine CW.seq (CW.region ?_)
  refine rl_assign rfl rfl ?_
  refine RL.nil (thn_n (CW.ret ?_))
  refine thn_ret ?_
  obtain rfl := Option.some.inj hS
  exact ret1 rfl ⟨rfl, c0⟩
 have hS := ifF q1 hS
 refine CW.skip ?_
 refine thn_n (CW.seq ?_)
 refine CW.seq (CW.region ?_)
 refine rl_move rfl rfl ?_
 refine rl_lenR rfl ah0 Try.underlying40 rfl ?_
 refine rl_move rfl rfl ?_
 refine RL.nil (thn_n ?_)
 obtain ⟨o9, ho10, hS⟩ := bindS hS
 refine CW.cutB (fun E' w' => ∃ (ix16 : Nat), Sub [] E' ∧ Ch nb w w' ∧ Lp.fin ix16 = o9 ∧ slRep k_Key (G F w.heap.size nb) w' a0 av0 ∧ slRep k_Key (G F w.heap.size nb) w' a1 av1) ?_ ?_
 ·
  refine CW.loopS [(0, av0), (1, av1), (12, (Value.int .i64 ((a0.length : Nat) : Int))), (13, (Value.int .i64 ((0 : Nat) : Int)))] ⟨rfl, rfl, rfl, rfl, trivial⟩ a0.length (fun m E w' => ∃ (rest2 : List Key) (i3 : Nat) , m = rest2.length ∧ E = [(0, av0), (1, av1), (12, (Value.int .i64 ((a0.length : Nat) : Int))), (13, (Value.int .i64 ((i3 : Nat) : Int)))] ∧ Ch nb w w' ∧ At a0 i3 rest2 ∧ runBO (F13_Same_b1 a1) rest2 i3 = some o9 ∧ slRep k_Key (G F w.heap.size nb) w' a0 av0 ∧ slRep k_Key (G F w.heap.size nb) w' a1 av1)
      ⟨a0, 0, rfl, rfl, c0, At.start, ho10, ah0, ah1⟩ ?_
  rintro _ _ w15 ⟨rest2, i3, rfl, rfl, c14, hat5, hL4, ah0, ah1⟩
  refine CW.seq (CW.region ?_)
  refine rl_bin rfl rfl B.lss rfl ?_
  refine RL.nil (thn_n ?_)
  refine CW.seq ?_
  refine CW.cond (t := decide (((i3 : Nat) : Int) < ((a0.length : Nat) : Int))) rfl (fun q17 => ?_) (fun q17 => ?_)
  ·
   obtain ⟨x11, rest18, rfl⟩ := hat5.cons q17
   obtain ⟨q6, hq7⟩ := runBO_some hL4
   have hb8 := hq7
   refine CW.skip (thn_n ?_)
   refine CW.seq ?_
   refine CW.block ?_
   refine CW.seq (CW.region ?_)
   refine rl_move rfl rfl ?_
   refine rl_assign rfl rfl ?_
   refine RL.nil (thn_n (CW.seq ?_))
   obtain ⟨y31, hy32, hb8⟩ := bindS hb8
   refine CW.draw 8 [(none, fun fx O uu wx => uu = av0), (none, fun fx O uu wx => uu = (Value.int .i64 ((i3 : Nat) : Int))), (none, fun fx O uu wx => ∃ (p19 : Nat) (o20 : Nat), uu = (Value.pointer (some ⟨p19, o20, none⟩)) ∧ (G F w.heap.size nb) p19 ∧ Seg wx p19 o20 (Key.enc x11)), (none, fun fx O uu wx => uu = (Value.agg (Key.enc x11).toArray)), (none, fun fx O uu wx => uu = av1), (none, fun fx O uu wx => uu = (Value.int .i64 ((i3 : Nat) : Int))), (none, fun fx O uu wx => ∃ (p25 : Nat) (o26 : Nat), uu = (Value.pointer (some ⟨p25, o26, none⟩)) ∧ (G F w.heap.size nb) p25 ∧ Seg wx p25 o26 (Key.enc y31)), (none, fun fx O uu wx => uu = (Value.agg (Key.enc y31).toArray))] [[], [], [0, 1], [2], [], [], [4, 5], [6]] [3, 7] nb (fun _ h => h.elim) mixed rfl rfl rfl rfl ?_ ?_
   ·
    refine Each.consS (fun fl O wk hE hN hO ck => ?_) ?_
    ·
     refine rl_move rfl rfl ?_
     exact RL.nil ⟨_, rfl, Ch.refl, rfl⟩
    refine Each.consS (fun fl O wk hE hN hO ck => ?_) ?_
    ·
     refine rl_move rfl rfl ?_
     exact RL.nil ⟨_, rfl, Ch.refl, rfl⟩
    refine Each.consA ⟨fun _ _ _ _ _ cc hh => by obtain ⟨p19, o20, e, hg24, hs23⟩ := hh; exact ⟨p19, o20, e, hg24, hs23.ch0 cc⟩, fun h => absurd rfl h, fun fl O wk hE hN hO ck => ?_⟩ ?_
    ·
     have ah0 := slRep.ch k_Key_pos ah0 ck
     refine Need.o1 rfl rfl rfl (fun _ h => h) ?_
     refine Need.o1 rfl rfl rfl (fun _ h => h) ?_
     refine rl_ixR rfl ah0 rfl hat5.get Try.underlying40 Try.sizeOf32 rfl ?_
     intro p35 o36 cs37 hr38 hs39 hg40
     obtain rfl := hr38
     exact RL.nil ⟨_, rfl, Ch.refl, ⟨p35, o36, rfl, hg40, hs39⟩⟩
    refine Each.consS (fun fl O wk hE hN hO ck => ?_) ?_
    ·
     refine Need.one rfl rfl rfl ?_
     rintro _ ⟨p19, o20, e41, hg24, hs23⟩
     obtain rfl := e41.symm
     refine rl_loadA (cs := (Key.enc x11)) rfl Try.isAgg32 Try.sizeOf32 (hs23) rfl rfl ?_
     exact RL.nil ⟨_, rfl, Ch.refl, rfl⟩
    refine Each.consS (fun fl O wk hE hN hO ck => ?_) ?_
    ·
     refine rl_move rfl rfl ?_
     exact RL.nil ⟨_, rfl, Ch.refl, rfl⟩
    refine Each.consS (fun fl O wk hE hN hO ck => ?_) ?_
    ·
     refine rl_move rfl rfl ?_
     exact RL.nil ⟨_, rfl, Ch.refl, rfl⟩
    refine Each.consA ⟨fun _ _ _ _ _ cc hh => by obtain ⟨p25, o26, e, hg30, hs29⟩ := hh; exact ⟨p25, o26, e, hg30, hs29.ch0 cc⟩, fun h => absurd rfl h, fun fl O wk hE hN hO ck => ?_⟩ ?_
    ·
     have ah1 := slRep.ch k_Key_pos ah1 ck
     refine Need.o1 rfl rfl rfl (fun _ h => h) ?_
     refine Need.o1 rfl rfl rfl (fun _ h => h) ?_
     refine rl_ixR rfl ah1 rfl (ixO_nat hy32) Try.underlying40 Try.sizeOf32 rfl ?_
     intro p44 o45 cs46 hr47 hs48 hg49
     obtain rfl := hr47
     exact RL.nil ⟨_, rfl, Ch.refl, ⟨p44, o45, rfl, hg49, hs48⟩⟩
    refine Each.consS (fun fl O wk hE hN hO ck => ?_) ?_
    ·
     refine Need.one rfl rfl rfl ?_
     rintro _ ⟨p25, o26, e50, hg30, hs29⟩
     obtain rfl := e50.symm
     refine rl_loadA (cs := (Key.enc y31)) rfl Try.isAgg32 Try.sizeOf32 (hs29) rfl rfl ?_
     exact RL.nil ⟨_, rfl, Ch.refl, rfl⟩
    trivial
   intro hvO53 OpO53 O53 w51 hO54 c52 hN55
   have ah0 := slRep.ch k_Key_pos ah0 c52
   have ah1 := slRep.ch k_Key_pos ah1 c52
   have c14 := c14.then0 c52
   refine Need.o1 rfl rfl rfl (fun _ h => h) ?_
   refine Need.o1 rfl rfl rfl (fun _ h => h) ?_
   refine rl_bin rfl rfl (neq32 x11 y31) rfl ?_
   refine RL.nil (thn_n ?_)
   refine CW.cond (t := !decide (x11 = y31)) rfl (fun q58 => ?_) (fun q58 => ?_)
   ·
    have hb8 := ifT q58 hb8
    refine CW.seq (CW.region ?_)
    refine rl_assign rfl rfl ?_
    refine RL.nil (thn_n (CW.ret ?_))
    refine inB_ret ?_
    refine thn_ret ?_
    refine thn_ret (inB_ret (thn_ret ?_))
    refine thn_ret ?_
    have f59 := runBO_ret hL4 hq7 hb8
    have hS := retS f59 hS
    obtain rfl := Option.some.inj hS
    exact ret1 rfl ⟨rfl, c14⟩
   have hb8 := ifF q58 hb8
   refine CW.skip ?_
   refine inB_n ?_
   refine thn_n (CW.region ?_)
   refine rl_inc rfl hat5.lt ah0.big rfl ?_
   refine rl_move rfl rfl ?_
   refine RL.nil (thn_n ?_)
   have hLn := runBO_next hL4 hq7 hb8
   exact ⟨rest18.length, Nat.lt_succ_self _, [(0, av0), (1, av1), (12, (Value.int .i64 ((a0.length : Nat) : Int))), (13, (Value.int .i64 ((i3 + 1 : Nat) : Int)))], ⟨rfl, rfl, rfl, rfl, trivial⟩, ⟨rest18, i3 + 1, rfl, rfl, c14, hat5.next, hLn, ah0, ah1⟩⟩
  obtain rfl := hat5.nil q17
  have hLf : Lp.fin i3 = o9 := runBO_done hL4
  refine CW.exit (thn_exit (thn_exit (inB_hit ?_)))
  exact ⟨i3, trivial, c14, hLf, ah0, ah1⟩
 rintro _ w61 ⟨ix16, hE62, c60, f63, ah0, ah1⟩
 have hS := finS f63 hS
 refine thn_n (CW.sub [] hE62 ?_)
 refine CW.seq (CW.region ?_)
 refine rl_assign rfl rfl ?_
 refine RL.nil (thn_n (CW.ret ?_))
 obtain rfl := Option.some.inj hS
 exact ret1 rfl ⟨rfl, c60⟩
/-- (*lb/lbref16.Index).Slices -/
theorem ctr17 (F : Nat → Prop) (w : World) (Bb : Nat) (S2 : Nat → Prop) (hB : Bb ≤ w.heap.size) (h2 : ∀ b, S2 b → b < w.heap.size) (po0 : Nat) (az0_0 : Value) (hd2 : ∀ b, (un (inBlk (PV po0)) (inBlk az0_0)) b → ¬ S2 b) (hx0_1 : ∀ b, inBlk (PV po0) b → ¬ inBlk az0_0 b) (a0 : Index_3) (ah0 : Blk w po0 30 (Index_3.c a0 az0_0)) (ah0_0 : SlO k_A2Key 51 F Bb (un (inBlk (PV po0)) (un (inBlk az0_0) S2)) w a0.all az0_0) (a1 : Key) (r : (List Key)) (hs : F17_Slices a0 a1 = some r) :
    Ret Try.prog 17 #[(PV po0), (Value.agg (Key.enc a1).toArray)] w fun v w' => ∃ (y0 : Value), v = y0 ∧ SlO k_Key 32 (G F Bb (un (inBlk (PV po0)) (un (inBlk az0_0) S2))) w.heap.size (inBlk y0) w' r y0 ∧ Ch nb w w' := by
 have hS := hs
 have c0 : Ch nb w w := Ch.refl
 have lin1_0 : ∀ b, inBlk az0_0 b → (un (inBlk (PV po0)) (inBlk az0_0)) b ∨ w.heap.size ≤ b := fun b h => .inl (.inr h)
 refine Ret.of (n := 30) (args := [_, _]) (rs := [.tmp 4]) Try.func17 rfl rfl rfl rfl ?_
 refine CW.seq (CW.region ?_)
 refine rl_boxA (cs := (Key.enc a1)) rfl rfl ?_
 intro p1 w2 n3 k4
 have gp1 : (G F Bb (un (inBlk (PV po0)) (un (inBlk az0_0) S2))) p1 := ⟨.inr (by rw [n3.eq]; exact (Nat.le_trans hB c0.size)), fun h => absurd ((un_lt ah0.ltp (un_lt (fun b hb => (ah0_0.lt b hb).2) (fun b h => Nat.lt_of_lt_of_le (h2 b h) c0.size))) _ h) (by rw [n3.eq]; exact Nat.lt_irrefl _)⟩
 have ah0 := ah0.ch0 n3.ch
 have ah0_0 := ah0_0.ch0 n3.ch
 have c0 := c0.then0 n3.ch
 refine rl_assign rfl rfl ?_
 refine RL.nil (thn_n (CW.seq (CW.region ?_)))
 refine rl_bslice (k := k_Key) (F := F) (B := Bb) (S := (un (inBlk (PV po0)) (un (inBlk az0_0) S2))) ([] : List Key) rfl k_Key_pos Try.underlying40 Try.sizeOf32 Try.zeroValue32 rfl rfl trivial (Nat.le_trans hB c0.size) (un_lt ah0.ltp (un_lt (fun b hb => (ah0_0.lt b hb).2) (fun b h => Nat.lt_of_lt_of_le (h2 b h) c0.size))) rfl ?_
 intro v5 w6 c7 hf8 h9
 have lo10 : ∀ b, inBlk v5 b → w.heap.size ≤ b := fun b h => Nat.le_trans c0.size (hf8 b h)
 have d11 : ∀ b, inBlk v5 b → ¬ inBlk (PV po0) b := disNew hf8 ah0.ltp
 have d12 : ∀ b, inBlk v5 b → ¬ inBlk az0_0 b := disNew hf8 (fun b hb => (ah0_0.lt b hb).2)
 have ah0 := ah0.ch0 c7
 have ah0_0 := ah0_0.st c7 (fun _ _ x => x) (admNew hf8 (fun _ x => x)) (fun b h => (.inr (.inr (.inl h))))
 have gp1n : (G F Bb (un (inBlk v5) (un (inBlk (PV po0)) (un (inBlk az0_0) S2)))) p1 := ⟨gp1.1, ((admNew hf8 (fun _ x => x)) _ k4.lt gp1.2).2⟩
 have k4 := k4.ch0 c7
 have gp1 := gp1n
 have c0 := c0.then0 c7
 refine rl_assign rfl rfl ?_
 refine RL.nil (thn_n (CW.seq ?_))
 refine CW.seq (CW.region ?_)
 refine rl_move rfl rfl ?_
 refine rl_nilCheck rfl rfl ?_
 refine rl_fieldAddr rfl fa30_0 rfl ?_
 refine rl_loadS (v := az0_0) rfl Try.isAgg28 (ah0.cell rfl) rfl ?_
 refine rl_lenR rfl (SlO.read (S' := (un (inBlk v5) (un (inBlk (PV po0)) S2))) k_A2Key_pos ah0_0 (fun b hs h => hs (un_el h (fun h => (.inl h)) (fun h => un_el h (fun h => (.inr (.inl h))) (fun h => (.inr (.inr (.inr h))))))) (fun b hb => fun h => un_el h (fun h => (disSym d12) b hb h) (fun h => un_el h (fun h => (disSym hx0_1) b hb h) (linNot lin1_0 hd2 h2 b hb)))) Try.underlying28 rfl ?_
 refine rl_move rfl rfl ?_
 refine RL.nil (thn_n ?_)
 have ad13 : ∀ b, b < w6.heap.size → ¬ (un (inBlk v5) (un (inBlk (PV po0)) (un (inBlk az0_0) S2))) b → ¬ nb b ∧ ¬ (un (inBlk v5) (un (inBlk (PV po0)) S2)) b := fun b _ hs => ⟨fun x => x, fun h => hs (un_el h (fun h => (.inl h)) (fun h => un_el h (fun h => (.inr (.inl h))) (fun h => (.inr (.inr (.inr h))))))⟩
 have ah0_0 := SlO.read (S' := (un (inBlk v5) (un (inBlk (PV po0)) S2))) k_A2Key_pos ah0_0 (fun b hs h => hs (un_el h (fun h => (.inl h)) (fun h => un_el h (fun h => (.inr (.inl h))) (fun h => (.inr (.inr (.inr h))))))) (fun b hb => fun h => un_el h (fun h => (disSym d12) b hb h) (fun h => un_el h (fun h => (disSym hx0_1) b hb h) (linNot lin1_0 hd2 h2 b hb)))
 have crf : Ch nb w6 w6 := Ch.refl
 have ah0 := ah0.ch0 crf
 have gp1n : (G F Bb (un (inBlk v5) (un (inBlk (PV po0)) S2))) p1 := ⟨gp1.1, (ad13 _ k4.lt gp1.2).2⟩
 have k4 := k4.ch0 crf
 have gp1 := gp1n
 have h9 := h9.st crf (fun _ _ x => x) ad13 (fun b h => (.inl h))
 have c0 := c0.then0 crf
 obtain ⟨o26, ho27, hS⟩ := bindS hS
 refine CW.cutB (fun E' w' => ∃ (x14 : (List Key)) (v15 : Value), Sub [(5, v15)] E' ∧ Ch nb w w' ∧ x14 = o26 ∧ Blk w' po0 30 (Index_3.c a0 az0_0) ∧ Blk w' p1 32 (Key.enc a1) ∧ slRep k_A2Key (G F Bb (un (inBlk v15) (un (inBlk (PV po0)) S2))) w' a0.all az0_0 ∧ SlO k_Key 32 F Bb (un (inBlk v15) (un (inBlk (PV po0)) S2)) w' x14 v15 ∧ (G F Bb (un (inBlk v15) (un (inBlk (PV po0)) S2))) p1 ∧ (∀ b, inBlk v15 b → ¬ inBlk (PV po0) b) ∧ (∀ b, inBlk v15 b → w.heap.size ≤ b)) ?_ ?_
 ·
  refine CW.loopS [(3, (PV p1)), (12, az0_0), (13, (Value.int .i64 ((a0.all.length : Nat) : Int))), (5, v5), (14, (Value.int .i64 ((0 : Nat) : Int)))] ⟨rfl, rfl, rfl, rfl, rfl, trivial⟩ a0.all.length (fun m E w' => ∃ (rest19 : List A2Key) (i20 : Nat) (x14 : (List Key)) (v15 : Value), m = rest19.length ∧ E = [(3, (PV p1)), (12, az0_0), (13, (Value.int .i64 ((a0.all.length : Nat) : Int))), (5, v15), (14, (Value.int .i64 ((i20 : Nat) : Int)))] ∧ Ch nb w w' ∧ At a0.all i20 rest19 ∧ runAO (F17_Slices_b1 a1) rest19 x14 = some o26 ∧ Blk w' po0 30 (Index_3.c a0 az0_0) ∧ Blk w' p1 32 (Key.enc a1) ∧ slRep k_A2Key (G F Bb (un (inBlk v15) (un (inBlk (PV po0)) S2))) w' a0.all az0_0 ∧ SlO k_Key 32 F Bb (un (inBlk v15) (un (inBlk (PV po0)) S2)) w' x14 v15 ∧ (G F Bb (un (inBlk v15) (un (inBlk (PV po0)) S2))) p1 ∧ (∀ b, inBlk v15 b → ¬ inBlk (PV po0) b) ∧ (∀ b, inBlk v15 b → w.heap.size ≤ b))
      ⟨a0.all, 0, [], v5, rfl, rfl, c0, At.start, ho27, ah0, k4, ah0_0, h9, gp1, d11, lo10⟩ ?_
  rintro _ _ w32 ⟨rest19, i20, x14, v15, rfl, rfl, c31, hat22, hL21, ah0, k4, ah0_0, h16, gp1, d18, lo17⟩
  refine CW.seq (CW.region ?_)
  refine rl_bin rfl rfl B.lss rfl ?_
  refine RL.nil (thn_n ?_)
  refine CW.seq ?_
  refine CW.cond (t := decide (((i20 : Nat) : Int) < ((a0.all.length : Nat) : Int))) rfl (fun q34 => ?_) (fun q34 => ?_)
  ·
   obtain ⟨x28, rest35, rfl⟩ := hat22.cons q34
   obtain ⟨q23, hq24⟩ := runAO_some hL21
   have hb25 := hq24
   refine CW.skip (thn_n ?_)
   refine CW.seq ?_
   refine CW.block ?_
   refine CW.seq (CW.region ?_)
   refine rl_ixR rfl ah0_0 rfl hat22.get Try.underlying28 Try.sizeOf51 rfl ?_
   intro p36 o37 cs38 hr39 hs40 hg41
   obtain rfl := hr39
   refine rl_loadA (cs := (A2Key.enc x28)) rfl Try.isAgg51 Try.sizeOf51 (hs40) rfl rfl ?_
   refine rl_alloc (A2Key.enc A2Key.z) Try.zeroValue51 rfl rfl ?_
   intro p42 w43 n44 k45
   have lo46 : ∀ b, inBlk (PV p42) b → w.heap.size ≤ b := fun b h => Nat.le_trans c31.size (n44.fresh b h)
   have d47 : ∀ b, inBlk (PV p42) b → ¬ inBlk v15 b := disNew n44.fresh (fun b hb => (h16.lt b hb).2)
   have d48 : ∀ b, inBlk (PV p42) b → ¬ inBlk (PV po0) b := disNew n44.fresh ah0.ltp
   have ah0 := ah0.ch0 n44.ch
   have gp1n : (G F Bb (un (inBlk (PV p42)) (un (inBlk v15) (un (inBlk (PV po0)) S2)))) p1 := ⟨gp1.1, ((admNew n44.fresh (fun _ x => x)) _ k4.lt gp1.2).2⟩
   have k4 := k4.ch0 n44.ch
   have gp1 := gp1n
   have ah0_0 := slRep.st k_A2Key_pos ah0_0 n44.ch (admNew n44.fresh (fun _ x => x))
   have h16 := h16.st n44.ch (fun _ _ x => x) (admNew n44.fresh (fun _ x => x)) (fun b h => (.inr (.inl h)))
   have c31 := c31.then0 n44.ch
   refine rl_storeA (vs := (A2Key.enc x28)) rfl rfl (all_one rfl) Try.sizeOf51 rfl k45 rfl ?_
   intro w49 s51 c50 k52
   have ad53 : ∀ b, b < w43.heap.size → ¬ (un (inBlk (PV p42)) (un (inBlk v15) (un (inBlk (PV po0)) S2))) b → ¬ (inBlk (PV p42)) b ∧ ¬ (un (inBlk (PV p42)) (un (inBlk v15) (un (inBlk (PV po0)) S2))) b := fun b _ hs => ⟨fun h => hs (.inl h), hs⟩
   have ah0 := ah0.ch c50 ((fun b hb h => (disSym d48) b hb h) _ rfl)
   have k4 := k4.ch c50 (ad53 _ k4.lt gp1.2).1
   have ah0_0 := slRep.st k_A2Key_pos ah0_0 c50 ad53
   have h16 := h16.st c50 (fun b hb h => (disSym d47) b hb h) ad53 (fun b h => (.inr (.inl h)))
   have c31 := c31.then c50 (fun i hi h => absurd (lo46 i h) (Nat.not_le_of_lt hi))
   refine RL.nil (thn_n (CW.seq (CW.region ?_)))
   refine rl_ixArrP (off := 2) rfl rfl rfl Try.underlying51 Try.sizeOf32 rfl rfl ?_
   refine rl_loadA (cs := (Key.enc x28.e1)) rfl Try.isAgg32 Try.sizeOf32 (k52.segAt 2 2) rfl rfl ?_
   refine rl_loadA (cs := (Key.enc a1)) rfl Try.isAgg32 Try.sizeOf32 (k4.segAt 0 2) rfl rfl ?_
   refine rl_bin rfl rfl (eql32 x28.e1 a1) rfl ?_
   refine RL.nil (thn_n ?_)
   refine CW.cond (t := decide (x28.e1 = a1)) rfl (fun q54 => ?_) (fun q54 => ?_)
   ·
    have hb25 := ifT q54 hb25
    refine CW.region ?_
    refine rl_move rfl rfl ?_
    refine rl_ixArrP (off := 0) rfl rfl rfl Try.underlying51 Try.sizeOf32 rfl rfl ?_
    refine rl_loadA (cs := (Key.enc x28.e0)) rfl Try.isAgg32 Try.sizeOf32 (k52.segAt 0 2) rfl rfl ?_
    refine rl_bslice (k := k_Key) (F := F) (B := Bb) (S := (un (inBlk (PV p42)) (un (inBlk v15) (un (inBlk (PV po0)) S2)))) ([x28.e0] : List Key) rfl k_Key_pos Try.underlying40 Try.sizeOf32 Try.zeroValue32 rfl rfl ⟨rfl, rfl, trivial⟩ (Nat.le_trans hB c31.size) (un_lt k52.ltp (un_lt (fun b hb => (h16.lt b hb).2) (un_lt ah0.ltp (fun b h => Nat.lt_of_lt_of_le (h2 b h) c31.size)))) rfl ?_
    intro v55 w56 c57 hf58 h59
    have h59 := h59.readNew k_Key_pos hf58 (un_lt k52.ltp (un_lt (fun b hb => (h16.lt b hb).2) (un_lt ah0.ltp (fun b h => Nat.lt_of_lt_of_le (h2 b h) c31.size))))
    have ah0 := ah0.ch0 c57
    have k4 := k4.ch0 c57
    have ah0_0 := slRep.ch k_A2Key_pos ah0_0 c57
    have h16 := h16.ch0 c57
    have k52 := k52.ch0 c57
    have c31 := c31.then0 c57
    obtain ⟨z68, hz69, hb25⟩ := bindS hb25
    have hl := (apO_get hz69).1
    refine rl_append (k := k_Key) (T := 32) (F := F) (B := Bb) (S := (un (inBlk (PV p42)) (un (inBlk v15) (un (inBlk (PV po0)) S2)))) (S2 := (un (inBlk (PV p42)) (un (inBlk (PV po0)) S2))) (fun v => (un (inBlk (PV p42)) (un (inBlk v) (un (inBlk (PV po0)) S2)))) rfl rfl k_Key_pos ap40 h16 h59 (fun _ => un_swap) (fun _ _ => un_swap) hl (Nat.le_trans hB c31.size) (un_lt k52.ltp (un_lt (fun b hb => (h16.lt b hb).2) (un_lt ah0.ltp (fun b h => Nat.lt_of_lt_of_le (h2 b h) c31.size)))) rfl ?_
    intro v62 w63 h64 c65 hf66 ha67
    have lo70 : ∀ b, inBlk v62 b → w.heap.size ≤ b := fun b h => (hf66 b h).elim (lo17 b) (Nat.le_trans c31.size)
    have d72 : ∀ b, inBlk v62 b → ¬ inBlk (PV po0) b := disApp hf66 d18 ah0.ltp
    have ah0 := ah0.ch c65 ((fun b hb h => (disSym d18) b hb h) _ rfl)
    have gp1n : (G F Bb (un (inBlk (PV p42)) (un (inBlk v62) (un (inBlk (PV po0)) S2)))) p1 := ⟨gp1.1, (ha67 _ k4.lt gp1.2).2⟩
    have k4 := k4.ch c65 (ha67 _ k4.lt gp1.2).1
    have gp1 := gp1n
    have ah0_0 := slRep.st k_A2Key_pos ah0_0 c65 ha67
    have c31 := c31.then c65 (fun i hi h => absurd (lo17 i h) (Nat.not_le_of_lt hi))
    refine rl_assign rfl rfl ?_
    refine RL.nil ?_
    refine inB_n ?_
    refine thn_n (CW.region ?_)
    refine rl_inc rfl hat22.lt ah0_0.big rfl ?_
    refine rl_move rfl rfl ?_
    refine RL.nil (thn_n ?_)
    have ad73 : ∀ b, b < w63.heap.size → ¬ (un (inBlk (PV p42)) (un (inBlk v62) (un (inBlk (PV po0)) S2))) b → ¬ nb b ∧ ¬ (un (inBlk v62) (un (inBlk (PV po0)) S2)) b := fun b _ hs => ⟨fun x => x, fun h => hs (un_el h (fun h => (.inr (.inl h))) (fun h => un_el h (fun h => (.inr (.inr (.inl h)))) (fun h => (.inr (.inr (.inr h))))))⟩
    have crf : Ch nb w63 w63 := Ch.refl
    have ah0 := ah0.ch0 crf
    have gp1n : (G F Bb (un (inBlk v62) (un (inBlk (PV po0)) S2))) p1 := ⟨gp1.1, (ad73 _ k4.lt gp1.2).2⟩
    have k4 := k4.ch0 crf
    have gp1 := gp1n
    have ah0_0 := slRep.st k_A2Key_pos ah0_0 crf ad73
    have h64 := h64.st crf (fun _ _ x => x) ad73 (fun b h => (.inl h))
    have c31 := c31.then0 crf
    have hLn := runAO_next hL21 hq24 hb25
    exact ⟨rest35.length, Nat.lt_succ_self _, [(3, (PV p1)), (12, az0_0), (13, (Value.int .i64 ((a0.all.length : Nat) : Int))), (5, v62), (14, (Value.int .i64 ((i20 + 1 : Nat) : Int)))], ⟨rfl, rfl, rfl, rfl, rfl, trivial⟩, ⟨rest35, i20 + 1, x14 ++ [x28.e0], v62, rfl, rfl, c31, hat22.next, hLn, ah0, k4, ah0_0, h64, gp1, d72, lo70⟩⟩
   have hb25 := ifF q54 hb25
   refine CW.skip ?_
   refine inB_n ?_
   refine thn_n (CW.region ?_)
   refine rl_inc rfl hat22.lt ah0_0.big rfl ?_
   refine rl_move rfl rfl ?_
   refine RL.nil (thn_n ?_)
   have ad74 : ∀ b, b < w49.heap.size → ¬ (un (inBlk (PV p42)) (un (inBlk v15) (un (inBlk (PV po0)) S2))) b → ¬ nb b ∧ ¬ (un (inBlk v15) (un (inBlk (PV po0)) S2)) b := fun b _ hs => ⟨fun x => x, fun h => hs (un_el h (fun h => (.inr (.inl h))) (fun h => un_el h (fun h => (.inr (.inr (.inl h)))) (fun h => (.inr (.inr (.inr h))))))⟩
   have crf : Ch nb w49 w49 := Ch.refl
   have ah0 := ah0.ch0 crf
   have gp1n : (G F Bb (un (inBlk v15) (un (inBlk (PV po0)) S2))) p1 := ⟨gp1.1, (ad74 _ k4.lt gp1.2).2⟩
   have k4 := k4.ch0 crf
   have gp1 := gp1n
   have ah0_0 := slRep.st k_A2Key_pos ah0_0 crf ad74
   have h16 := h16.st crf (fun _ _ x => x) ad74 (fun b h => (.inl h))
   have c31 := c31.then0 crf
   have hLn := runAO_next hL21 hq24 hb25
   exact ⟨rest35.length, Nat.lt_succ_self _, [(3, (PV p1)), (12, az0_0), (13, (Value.int .i64 ((a0.all.length : Nat) : Int))), (5, v15), (14, (Value.int .i64 ((i20 + 1 : Nat) : Int)))], ⟨rfl, rfl, rfl, rfl, rfl, trivial⟩, ⟨rest35, i20 + 1, x14, v15, rfl, rfl, c31, hat22.next, hLn, ah0, k4, ah0_0, h16, gp1, d18, lo17⟩⟩
  obtain rfl := hat22.nil q34
  have hLf : x14 = o26 := runAO_done hL21
  refine CW.exit (thn_exit (thn_exit (inB_hit ?_)))
  exact ⟨x14, v15, ⟨rfl, trivial⟩, c31, hLf, ah0, k4, ah0_0, h16, gp1, d18, lo17⟩
 rintro _ w76 ⟨x14, v15, hE77, c75, f78, ah0, k4, ah0_0, h16, gp1, d18, lo17⟩
 subst f78
 refine thn_n (CW.sub [(5, v15)] hE77 ?_)
 refine CW.seq (CW.region ?_)
 refine rl_move rfl rfl ?_
 have h16 := SlO.read (S' := (un (inBlk (PV po0)) S2)) k_Key_pos h16 (fun b hs h => hs (un_el h (fun h => (.inr (.inl h))) (fun h => (.inr (.inr h))))) (fun b hb => fun h => un_el h (fun h => d18 b hb h) (linNot (fun b h => .inr (lo17 b h)) hd2 h2 b hb))
 have crf : Ch nb w76 w76 := Ch.refl
 have ah0 := ah0.ch0 crf
 have c75 := c75.then0 crf
 obtain ⟨y83, hy84, hS⟩ := bindS hS
 refine rl_callF rfl en24 rfl (ctr24 (G F Bb (un (inBlk (PV po0)) S2)) w76 x14 v15 h16 y83 hy84) ?_
 rintro v85 w81 ⟨_, rfl, h86, c82⟩
 have hf87 : ∀ b, inBlk v85 b → w76.heap.size ≤ b := fun b hb => (h86.lt b hb).1
 have h86 := SlO.back (S' := un (inBlk v85) (un (inBlk (PV po0)) S2)) h86 (un_lt ah0.ltp (fun b h => Nat.lt_of_lt_of_le (h2 b h) c75.size)) (Nat.le_trans hB c75.size) (fun _ => Or.comm)
 have lo88 : ∀ b, inBlk v85 b → w.heap.size ≤ b := fun b h => Nat.le_trans c75.size (hf87 b h)
 have c75 := c75.then0 c82
 refine rl_assign rfl rfl ?_
 refine RL.nil (thn_n (CW.ret ?_))
 obtain rfl := Option.some.inj hS
 exact ret1 rfl ⟨v85, rfl, (SlO.outP (fun h => h) h86 lo88), c75⟩
/-- (*lb/index.Index).Owner -/
theorem ctr18 (F : Nat → Prop) (w : World) (Bb : Nat) (S2 : Nat → Prop) (hB : Bb ≤ w.heap.size) (h2 : ∀ b, S2 b → b < w.heap.size) (po0 : Nat) (az0_0 : Value) (az0_1 az0_1u : Value) (hd2 : ∀ b, (un (inBlk (PV po0)) (un (inBlk az0_0) (inBlk az0_1))) b → ¬ S2 b) (hx0_1 : ∀ b, inBlk (PV po0) b → ¬ inBlk az0_0 b) (hx0_2 : ∀ b, inBlk (PV po0) b → ¬ inBlk az0_1 b) (hx1_2 : ∀ b, inBlk az0_0 b → ¬ inBlk az0_1 b) (a0 : Index_2) (ah0 : Blk w po0 47 (Index_2.c a0 az0_0 az0_1u)) (ah0_0 : Mp (fun x => Value.agg (Key.enc x).toArray) (fun x => Value.agg (Key.enc x).toArray) w a0.owner az0_0) (ah0_1 : MM (fun x => Value.agg (Key.enc x).toArray) (fun x => Value.agg (Key.enc x).toArray) (fun x => Value.agg (St50.enc x).toArray) w a0.slices az0_1u az0_1) (a1 : Key) (r : (Key × Bool)) (hs : F18_Owner a0 a1 = r) :
    Ret Try.prog 18 #[(PV po0), (Value.agg (Key.enc a1).toArray)] w fun v w' => v = Value.tuple #[(Value.agg (Key.enc r.1).toArray), (Value.bool r.2)] ∧ Ch nb w w' := by
 have hS := hs
 have c0 : Ch nb w w := Ch.refl
 refine Ret.of (n := 19) (args := [_, _]) (rs := [.cell 4 32, .tmp 5]) Try.func18 rfl rfl rfl rfl ?_
 refine CW.seq (CW.region ?_)
 refine rl_boxA (cs := (Key.enc a1)) rfl rfl ?_
 intro p1 w2 n3 k4
 have ah0 := ah0.ch0 n3.ch
 have ah0_0 := ah0_0.ch0 n3.ch
 have c0 := c0.then0 n3.ch
 refine rl_alloc (Key.enc Key.z) Try.zeroValue32 rfl rfl ?_
 intro p5 w6 n7 k8
 have lo9 : ∀ b, inBlk (PV p5) b → w.heap.size ≤ b := fun b h => Nat.le_trans c0.size (n7.fresh b h)
 have ah0 := ah0.ch0 n7.ch
 have ah0_0 := ah0_0.ch0 n7.ch
 have k4 := k4.ch0 n7.ch
 have c0 := c0.then0 n7.ch
 refine rl_assign rfl rfl ?_
 refine RL.nil (thn_n (CW.seq ?_))
 refine CW.draw 11 [(none, fun fx O uu wx => uu = (PV po0)), (none, fun fx O uu wx => uu = (PV po0)), (none, fun fx O uu wx => uu = (PV po0)), (none, fun fx O uu wx => uu = az0_0), (none, fun fx O uu wx => uu = (Value.agg (Key.enc a1).toArray)), (none, fun fx O uu wx => uu = (Value.tuple #[(Value.agg (Key.enc ((mget a0.owner a1).getD Key.z)).toArray), (Value.bool ((mget a0.owner a1).isSome))])), (none, fun fx O uu wx => uu = (Value.tuple #[(Value.agg (Key.enc ((mget a0.owner a1).getD Key.z)).toArray), (Value.bool ((mget a0.owner a1).isSome))])), (none, fun fx O uu wx => uu = (Value.agg (Key.enc ((mget a0.owner a1).getD Key.z)).toArray)), (none, fun fx O uu wx => uu = (Value.bool ((mget a0.owner a1).isSome))), (some false, fun _ O uu wx => ∃ (p13 : Nat), uu = (PV p13) ∧ O = (inBlk (PV p13)) ∧ Blk wx p13 32 (Key.enc Key.z)), (some true, fun hv O uu wx => ∃ (p13 : Nat), hv = [(PV p13), undef] ∧ uu = undef ∧ O = (inBlk (PV p13)) ∧ Blk wx p13 32 (Key.enc ((mget a0.owner a1).getD Key.z)))] [[], [0], [1], [2], [], [3, 4], [5], [6], [6], [], [9, 7]] [10, 8, 9] nb (fun _ h => h.elim) mixed rfl rfl rfl rfl ?_ ?_
 ·
  refine Each.consS (fun fl O wk hE hN hO ck => ?_) ?_
  ·
   refine rl_move rfl rfl ?_
   exact RL.nil ⟨_, rfl, Ch.refl, rfl⟩
  refine Each.consS (fun fl O wk hE hN hO ck => ?_) ?_
  ·
   refine Need.o1 rfl rfl rfl (fun _ h => h) ?_
   refine rl_nilCheck rfl rfl ?_
   exact RL.nil ⟨_, rfl, Ch.refl, rfl⟩
  refine Each.consS (fun fl O wk hE hN hO ck => ?_) ?_
  ·
   refine Need.o1 rfl rfl rfl (fun _ h => h) ?_
   refine rl_fieldAddr rfl fa47_0 rfl ?_
   exact RL.nil ⟨_, rfl, Ch.refl, rfl⟩
  refine Each.consS (fun fl O wk hE hN hO ck => ?_) ?_
  ·
   have ah0 := ah0.ch0 ck
   refine Need.o1 rfl rfl rfl (fun _ h => h) ?_
   refine rl_loadS (v := az0_0) rfl Try.isAgg44 (ah0.cell rfl) rfl ?_
   exact RL.nil ⟨_, rfl, Ch.refl, rfl⟩
  refine Each.consS (fun fl O wk hE hN hO ck => ?_) ?_
  ·
   have k4 := k4.ch0 ck
   refine rl_loadA (cs := (Key.enc a1)) rfl Try.isAgg32 Try.sizeOf32 (k4.segAt 0 2) rfl rfl ?_
   exact RL.nil ⟨_, rfl, Ch.refl, rfl⟩
  refine Each.consS (fun fl O wk hE hN hO ck => ?_) ?_
  ·
   have ah0_0 := ah0_0.ch0 ck
   refine Need.o1 rfl rfl rfl (fun _ h => h) ?_
   refine Need.o1 rfl rfl rfl (fun _ h => h) ?_
   refine rl_lookup2 a1 Key.z rfl rfl ah0_0 rfl kt32 Try.underlying44 Try.zeroValue32 rfl ?_
   exact RL.nil ⟨_, rfl, Ch.refl, rfl⟩
  refine Each.consS (fun fl O wk hE hN hO ck => ?_) ?_
  ·
   refine Need.o1 rfl rfl rfl (fun _ h => h) ?_
   refine rl_move rfl rfl ?_
   exact RL.nil ⟨_, rfl, Ch.refl, rfl⟩
  refine Each.consS (fun fl O wk hE hN hO ck => ?_) ?_
  ·
   refine Need.o1 rfl rfl rfl (fun _ h => h) ?_
   refine rl_extract rfl rfl rfl ?_
   exact RL.nil ⟨_, rfl, Ch.refl, rfl⟩
  refine Each.consS (fun fl O wk hE hN hO ck => ?_) ?_
  ·
   refine Need.o1 rfl rfl rfl (fun _ h => h) ?_
   refine rl_extract rfl rfl rfl ?_
   exact RL.nil ⟨_, rfl, Ch.refl, rfl⟩
  refine Each.consP ⟨fun _ O _ wx wy cc hh => by obtain ⟨p13, e, rfl, ck9_0⟩ := hh; exact ⟨p13, e, rfl, ck9_0.ch0 cc⟩, fun O wk hO ck => ?_⟩ ?_
  ·
   refine rl_alloc (Key.enc Key.z) Try.zeroValue32 rfl rfl ?_
   intro p85 w86 n87 k88
   have hb95 : ∀ b, (inBlk (PV p85)) b → wk.heap.size ≤ b ∧ b < w86.heap.size := fun b h => ⟨n87.fresh b h, k88.ltp b h⟩
   exact RL.nil ⟨_, (inBlk (PV p85)), rfl, hb95, n87.ch, ⟨p85, rfl, rfl, k88⟩⟩
  refine Each.consO ⟨fun _ O _ wx wy cc hh => by obtain ⟨p13, eh, e, rfl, ck10_0⟩ := hh; exact ⟨p13, eh, e, rfl, ck10_0.ch0 cc⟩, fun hv Op O wk hO ck hO0 => ?_⟩ ?_
  ·
   obtain ⟨hl, hBg⟩ := hO0 rfl
   refine Need.made rfl rfl rfl rfl ?_
   rintro _ ⟨p13, e96, eO97, ck9_0⟩ hh98
   obtain rfl := e96.symm
   have io99 : ∀ b, inBlk (PV p13) b → _ := fun b h => (Eq.mpr (congrFun eO97 b) h)
   obtain rfl := hist_eq [(PV p13)] hv hl ⟨hh98, trivial⟩
   refine Need.o1 rfl rfl rfl (fun _ h => h) ?_
   refine rl_storeA (vs := (Key.enc ((mget a0.owner a1).getD Key.z))) rfl rfl (all_one rfl) Try.sizeOf32 rfl ck9_0 rfl ?_
   intro w108 s110 c109 k111
   have hb113 : ∀ b, (inBlk (PV p13)) b → (O b ∨ wk.heap.size ≤ b) ∧ b < w108.heap.size := fun b h => ⟨.inl ((hBg.1 b).2 (.inr ⟨_, inPre rfl, io99 b h⟩)), k111.ltp b h⟩
   exact RL.nil ⟨_, (inBlk (PV p13)), rfl, hb113, (c109.mono (fun b _ h => ((hBg.1 b).2 (.inr ⟨_, inPre rfl, io99 b h⟩)))), ⟨p13, rfl, rfl, rfl, k111⟩⟩
  trivial
 intro hvO116 OpO116 O116 w114 hO117 c115 hN118
 refine Need.hereN rfl rfl rfl rfl ?_
 rintro ⟨p13, rfl, _, rfl, ck10_0⟩
 have k8 := k8.ch0 c115
 have c0 := c0.then0 c115
 refine Need.o1 rfl rfl rfl (fun _ h => h) ?_
 refine Need.hist (PV p13) rfl rfl rfl rfl rfl rfl ?_
 refine rl_assign rfl rfl ?_
 refine RL.nil (thn_n (CW.seq (CW.region ?_)))
 refine rl_loadA (cs := (Key.enc ((mget a0.owner a1).getD Key.z))) rfl Try.isAgg32 Try.sizeOf32 (ck10_0.segAt 0 2) rfl rfl ?_
 refine rl_move rfl rfl ?_
 refine rl_storeA (vs := (Key.enc ((mget a0.owner a1).getD Key.z))) rfl rfl (all_one rfl) Try.sizeOf32 rfl k8 rfl ?_
 intro w132 s134 c133 k135
 have c0 := c0.then c133 (fun i hi h => absurd (lo9 i h) (Nat.not_le_of_lt hi))
 refine rl_assign rfl rfl ?_
 refine RL.nil (thn_n (CW.ret ?_))
 obtain rfl := hS
 exact ⟨[_, _], ⟨Res1.agg (cs := (Key.enc ((mget a0.owner a1).getD Key.z))) rfl Try.isAgg32 Try.sizeOf32 (k135.segAt 0 2) rfl, rfl, trivial⟩, ⟨rfl, c0⟩⟩
end Go.Proofs.Ytkopifmkikaaiaa
