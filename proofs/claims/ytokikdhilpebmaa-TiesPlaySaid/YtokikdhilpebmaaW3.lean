/- The walks through the code: each call comes to its printed function. Written by a program of this session. -/
import Derived.Test.YtokikdhilpebmaaM
import Derived.Test.YtokikdhilpebmaaL
import Derived.Test.YtokikdhilpebmaaW2
namespace Go.Proofs.Ytokikdhilpebmaa
open Go K
set_option linter.unusedVariables false
/-- (*lb/lbref31.Ties).Purge -/
theorem ctr32 (F : Nat → Prop) (w : World) (Bb : Nat) (S2 : Nat → Prop) (hB : Bb ≤ w.heap.size) (h2 : ∀ b, S2 b → b < w.heap.size) (po0 : Nat) (az0_0 : Value) (hd2 : ∀ b, (un (inBlk (PV po0)) (inBlk az0_0)) b → ¬ S2 b) (hx0_1 : ∀ b, inBlk (PV po0) b → ¬ inBlk az0_0 b) (a0 : Ties_2) (ah0 : Blk w po0 48 (Ties_2.c a0 az0_0)) (ah0_0 : SlO k_Tie 37 F Bb (un (inBlk (PV po0)) (un (inBlk az0_0) S2)) w a0.all az0_0) (a1 : Int) (a2 : Int) (r : (Int × Ties_2)) (hs : F32_Purge a0 a1 a2 = some r) :
    Ret Try.prog 32 #[(PV po0), (Value.int .i64 a1), (Value.int .i64 a2)] w fun v w' => ∃ (nz0_0 : Value), v = (Value.int .i64 r.1) ∧ Blk w' po0 48 (Ties_2.c r.2 nz0_0) ∧ SlO k_Tie 37 F Bb (un (inBlk (PV po0)) (un (inBlk nz0_0) S2)) w' r.2.all nz0_0 ∧ (∀ b, inBlk nz0_0 b → (un (inBlk (PV po0)) (inBlk az0_0)) b ∨ w.heap.size ≤ b) ∧ (∀ b, inBlk (PV po0) b → ¬ inBlk nz0_0 b) ∧ Ch (un (inBlk (PV po0)) (inBlk az0_0)) w w' := by
 have hS := hs
 have c0 : Ch (un (inBlk (PV po0)) (inBlk az0_0)) w w := Ch.refl
 have lin0_0 : ∀ b, inBlk (PV po0) b → (un (inBlk (PV po0)) (inBlk az0_0)) b ∨ w.heap.size ≤ b := fun b h => .inl (.inl h)
 have lin1_0 : ∀ b, inBlk az0_0 b → (un (inBlk (PV po0)) (inBlk az0_0)) b ∨ w.heap.size ≤ b := fun b h => .inl (.inr h)
 refine Ret.of (n := 43) (args := [_, _, _]) (rs := [.tmp 6]) Try.func32 rfl rfl rfl rfl ?_
 refine CW.seq (CW.region ?_)
 refine rl_assign rfl rfl ?_
 refine RL.nil (thn_n (CW.seq (CW.region ?_)))
 refine rl_bslice (k := k_Tie) (F := F) (B := Bb) (S := (un (inBlk (PV po0)) (un (inBlk az0_0) S2))) ([] : List Tie) rfl k_Tie_pos Try.underlying46 Try.sizeOf37 Try.zeroValue37 rfl rfl trivial (Nat.le_trans hB c0.size) (un_lt ah0.ltp (un_lt (fun b hb => (ah0_0.lt b hb).2) (fun b h => Nat.lt_of_lt_of_le (h2 b h) c0.size))) rfl ?_
 intro v1 w2 c3 hf4 h5
 have lo6 : ∀ b, inBlk v1 b → w.heap.size ≤ b := fun b h => Nat.le_trans c0.size (hf4 b h)
 have d7 : ∀ b, inBlk v1 b → ¬ inBlk (PV po0) b := disNew hf4 ah0.ltp
 have d8 : ∀ b, inBlk v1 b → ¬ inBlk az0_0 b := disNew hf4 (fun b hb => (ah0_0.lt b hb).2)
 have ah0 := ah0.ch0 c3
 have ah0_0 := ah0_0.st c3 (fun _ _ x => x) (admNew hf4 (fun _ x => x)) (fun b h => (.inr (.inr (.inl h))))
 have c0 := c0.then0 c3
 refine rl_assign rfl rfl ?_
 refine RL.nil (thn_n (CW.seq ?_))
 refine CW.seq (CW.region ?_)
 refine rl_move rfl rfl ?_
 refine rl_nilCheck rfl rfl ?_
 refine rl_fieldAddr rfl fa48_0 rfl ?_
 refine rl_loadS (v := az0_0) rfl Try.isAgg46 (ah0.cell rfl) rfl ?_
 refine rl_lenR rfl (SlO.read (S' := (un (inBlk v1) (un (inBlk (PV po0)) S2))) k_Tie_pos ah0_0 (fun b hs h => hs (un_el h (fun h => (.inl h)) (fun h => un_el h (fun h => (.inr (.inl h))) (fun h => (.inr (.inr (.inr h))))))) (fun b hb => fun h => un_el h (fun h => (disSym d8) b hb h) (fun h => un_el h (fun h => (disSym hx0_1) b hb h) (linNot lin1_0 hd2 h2 b hb)))) Try.underlying46 rfl ?_
 refine rl_move rfl rfl ?_
 refine RL.nil (thn_n ?_)
 obtain ⟨o23, ho24, hS⟩ := bindS hS
 refine CW.cutB (fun E' w' => ∃ (x9 : (List Tie)) (v10 : Value), Sub [(0, (PV po0)), (7, v10)] E' ∧ Ch (un (inBlk (PV po0)) (inBlk az0_0)) w w' ∧ x9 = o23 ∧ Blk w' po0 48 (Ties_2.c a0 az0_0) ∧ SlO k_Tie 37 F Bb (un (inBlk v10) (un (inBlk (PV po0)) (un (inBlk az0_0) S2))) w' a0.all az0_0 ∧ SlO k_Tie 37 F Bb (un (inBlk v10) (un (inBlk (PV po0)) (un (inBlk az0_0) S2))) w' x9 v10 ∧ (∀ b, inBlk v10 b → ¬ inBlk (PV po0) b) ∧ (∀ b, inBlk v10 b → ¬ inBlk az0_0 b) ∧ (∀ b, inBlk (PV po0) b → ¬ inBlk az0_0 b) ∧ (∀ b, inBlk v10 b → w.heap.size ≤ b)) ?_ ?_
 ·
  refine CW.loopS [(0, (PV po0)), (1, (Value.int .i64 a1)), (2, (Value.int .i64 a2)), (15, az0_0), (16, (Value.int .i64 ((a0.all.length : Nat) : Int))), (7, v1), (17, (Value.int .i64 ((0 : Nat) : Int)))] ⟨rfl, rfl, rfl, rfl, rfl, rfl, rfl, trivial⟩ a0.all.length (fun m E w' => ∃ (rest16 : List Tie) (i17 : Nat) (x9 : (List Tie)) (v10 : Value), m = rest16.length ∧ E = [(0, (PV po0)), (1, (Value.int .i64 a1)), (2, (Value.int .i64 a2)), (15, az0_0), (16, (Value.int .i64 ((a0.all.length : Nat) : Int))), (7, v10), (17, (Value.int .i64 ((i17 : Nat) : Int)))] ∧ Ch (un (inBlk (PV po0)) (inBlk az0_0)) w w' ∧ At a0.all i17 rest16 ∧ runAO (F32_Purge_b1 a1 a2) rest16 x9 = some o23 ∧ Blk w' po0 48 (Ties_2.c a0 az0_0) ∧ SlO k_Tie 37 F Bb (un (inBlk v10) (un (inBlk (PV po0)) (un (inBlk az0_0) S2))) w' a0.all az0_0 ∧ SlO k_Tie 37 F Bb (un (inBlk v10) (un (inBlk (PV po0)) (un (inBlk az0_0) S2))) w' x9 v10 ∧ (∀ b, inBlk v10 b → ¬ inBlk (PV po0) b) ∧ (∀ b, inBlk v10 b → ¬ inBlk az0_0 b) ∧ (∀ b, inBlk (PV po0) b → ¬ inBlk az0_0 b) ∧ (∀ b, inBlk v10 b → w.heap.size ≤ b))
      ⟨a0.all, 0, [], v1, rfl, rfl, c0, At.start, ho24, ah0, ah0_0, h5, d7, d8, hx0_1, lo6⟩ ?_
  rintro _ _ w29 ⟨rest16, i17, x9, v10, rfl, rfl, c28, hat19, hL18, ah0, ah0_0, h11, d13, d14, d15, lo12⟩
  refine CW.seq (CW.region ?_)
  refine rl_bin rfl rfl B.lss rfl ?_
  refine RL.nil (thn_n ?_)
  refine CW.seq ?_
  refine CW.cond (t := decide (((i17 : Nat) : Int) < ((a0.all.length : Nat) : Int))) rfl (fun q31 => ?_) (fun q31 => ?_)
  ·
   obtain ⟨x25, rest32, rfl⟩ := hat19.cons q31
   obtain ⟨q20, hq21⟩ := runAO_some hL18
   have hb22 := hq21
   refine CW.skip (thn_n ?_)
   refine CW.seq ?_
   refine CW.block ?_
   refine CW.seq (CW.region ?_)
   refine rl_ixOR rfl ah0_0 rfl (ixN hat19.get) k_Tie_pos Try.underlying46 Try.sizeOf37 rfl ?_
   intro p33 o34 cs35 hr36 hs37 hg38
   obtain rfl := hr36
   refine rl_loadA (cs := (Tie.enc x25)) rfl Try.isAgg37 Try.sizeOf37 (hs37) rfl rfl ?_
   refine rl_alloc (Tie.enc Tie.z) Try.zeroValue37 rfl rfl ?_
   intro p39 w40 n41 k42
   have lo43 : ∀ b, inBlk (PV p39) b → w.heap.size ≤ b := fun b h => Nat.le_trans c28.size (n41.fresh b h)
   have d44 : ∀ b, inBlk (PV p39) b → ¬ inBlk v10 b := disNew n41.fresh (fun b hb => (h11.lt b hb).2)
   have d45 : ∀ b, inBlk (PV p39) b → ¬ inBlk (PV po0) b := disNew n41.fresh ah0.ltp
   have d46 : ∀ b, inBlk (PV p39) b → ¬ inBlk az0_0 b := disNew n41.fresh (fun b hb => (ah0_0.lt b hb).2)
   have ah0 := ah0.ch0 n41.ch
   have ah0_0 := ah0_0.st n41.ch (fun _ _ x => x) (admNew n41.fresh (fun _ x => x)) (fun b h => (.inr (.inr (.inr (.inl h)))))
   have h11 := h11.st n41.ch (fun _ _ x => x) (admNew n41.fresh (fun _ x => x)) (fun b h => (.inr (.inl h)))
   have c28 := c28.then0 n41.ch
   refine rl_storeA (vs := (Tie.enc x25)) rfl rfl (all_one rfl) Try.sizeOf37 rfl k42 rfl ?_
   intro w47 s49 c48 k50
   have ad51 : ∀ b, b < w40.heap.size → ¬ (un (inBlk (PV p39)) (un (inBlk v10) (un (inBlk (PV po0)) (un (inBlk az0_0) S2)))) b → ¬ (inBlk (PV p39)) b ∧ ¬ (un (inBlk (PV p39)) (un (inBlk v10) (un (inBlk (PV po0)) (un (inBlk az0_0) S2)))) b := fun b _ hs => ⟨fun h => hs (.inl h), hs⟩
   have ah0 := ah0.ch c48 ((fun b hb h => (disSym d45) b hb h) _ rfl)
   have ah0_0 := ah0_0.st c48 (fun b hb h => (disSym d46) b hb h) ad51 (fun b h => (.inr (.inr (.inr (.inl h)))))
   have h11 := h11.st c48 (fun b hb h => (disSym d44) b hb h) ad51 (fun b h => (.inr (.inl h)))
   have c28 := c28.then c48 (fun i hi h => absurd (lo43 i h) (Nat.not_le_of_lt hi))
   refine RL.nil (thn_n (CW.seq (CW.region ?_)))
   refine rl_loadA (cs := (Tie.enc x25)) rfl Try.isAgg37 Try.sizeOf37 (k50.segAt 0 40) rfl rfl ?_
   refine rl_move rfl rfl ?_
   refine rl_move rfl rfl ?_
   obtain ⟨y54, hy55⟩ : ∃ y, F8_Fresh x25 a1 a2 = y := ⟨_, rfl⟩
   have hb22 := ltS hy55 hb22
   refine rl_callF rfl en8 rfl (ctr8 (G F Bb (un (inBlk (PV p39)) (un (inBlk v10) (un (inBlk (PV po0)) (un (inBlk az0_0) S2))))) w47 x25 a1 a2 y54 hy55) ?_
   rintro _ w52 ⟨rfl, c53⟩
   have ah0 := ah0.ch0 c53
   have ah0_0 := ah0_0.ch0 c53
   have h11 := h11.ch0 c53
   have k50 := k50.ch0 c53
   have c28 := c28.then0 c53
   refine RL.nil (thn_n ?_)
   refine CW.cond (t := y54) rfl (fun q56 => ?_) (fun q56 => ?_)
   ·
    have hb22 := ifT q56 hb22
    refine CW.region ?_
    refine rl_move rfl rfl ?_
    refine rl_loadA (cs := (Tie.enc x25)) rfl Try.isAgg37 Try.sizeOf37 (k50.segAt 0 40) rfl rfl ?_
    refine rl_bslice (k := k_Tie) (F := F) (B := Bb) (S := (un (inBlk (PV p39)) (un (inBlk v10) (un (inBlk (PV po0)) (un (inBlk az0_0) S2))))) ([x25] : List Tie) rfl k_Tie_pos Try.underlying46 Try.sizeOf37 Try.zeroValue37 rfl rfl ⟨rfl, rfl, trivial⟩ (Nat.le_trans hB c28.size) (un_lt k50.ltp (un_lt (fun b hb => (h11.lt b hb).2) (un_lt ah0.ltp (un_lt (fun b hb => (ah0_0.lt b hb).2) (fun b h => Nat.lt_of_lt_of_le (h2 b h) c28.size))))) rfl ?_
    intro v57 w58 c59 hf60 h61
    have h61 := h61.readNew k_Tie_pos hf60 (un_lt k50.ltp (un_lt (fun b hb => (h11.lt b hb).2) (un_lt ah0.ltp (un_lt (fun b hb => (ah0_0.lt b hb).2) (fun b h => Nat.lt_of_lt_of_le (h2 b h) c28.size)))))
    have ah0 := ah0.ch0 c59
    have ah0_0 := ah0_0.ch0 c59
    have h11 := h11.ch0 c59
    have k50 := k50.ch0 c59
    have c28 := c28.then0 c59
    obtain ⟨z70, hz71, hb22⟩ := bindS hb22
    have hl := (apO_get hz71).1
    refine rl_append (k := k_Tie) (T := 37) (F := F) (B := Bb) (S := (un (inBlk (PV p39)) (un (inBlk v10) (un (inBlk (PV po0)) (un (inBlk az0_0) S2))))) (S2 := (un (inBlk (PV p39)) (un (inBlk (PV po0)) (un (inBlk az0_0) S2)))) (fun v => (un (inBlk (PV p39)) (un (inBlk v) (un (inBlk (PV po0)) (un (inBlk az0_0) S2))))) rfl rfl k_Tie_pos ap46 h11 h61 (fun _ => un_swap) (fun _ _ => un_swap) hl (Nat.le_trans hB c28.size) (un_lt k50.ltp (un_lt (fun b hb => (h11.lt b hb).2) (un_lt ah0.ltp (un_lt (fun b hb => (ah0_0.lt b hb).2) (fun b h => Nat.lt_of_lt_of_le (h2 b h) c28.size))))) rfl ?_
    intro v64 w65 h66 c67 hf68 ha69
    have lo72 : ∀ b, inBlk v64 b → w.heap.size ≤ b := fun b h => (hf68 b h).elim (lo12 b) (Nat.le_trans c28.size)
    have d74 : ∀ b, inBlk v64 b → ¬ inBlk (PV po0) b := disApp hf68 d13 ah0.ltp
    have d75 : ∀ b, inBlk v64 b → ¬ inBlk az0_0 b := disApp hf68 d14 (fun b hb => (ah0_0.lt b hb).2)
    have ah0 := ah0.ch c67 ((fun b hb h => (disSym d13) b hb h) _ rfl)
    have ah0_0 := ah0_0.st c67 (fun b hb h => (disSym d14) b hb h) ha69 (fun b h => (.inr (.inr (.inr (.inl h)))))
    have c28 := c28.then c67 (fun i hi h => absurd (lo12 i h) (Nat.not_le_of_lt hi))
    refine rl_assign rfl rfl ?_
    refine RL.nil ?_
    refine inB_n ?_
    refine thn_n (CW.region ?_)
    refine rl_inc rfl hat19.lt (Nat.le_trans ah0_0.big (by decide)) rfl ?_
    refine rl_move rfl rfl ?_
    refine RL.nil (thn_n ?_)
    have ad76 : ∀ b, b < w65.heap.size → ¬ (un (inBlk (PV p39)) (un (inBlk v64) (un (inBlk (PV po0)) (un (inBlk az0_0) S2)))) b → ¬ nb b ∧ ¬ (un (inBlk v64) (un (inBlk (PV po0)) (un (inBlk az0_0) S2))) b := fun b _ hs => ⟨fun x => x, fun h => hs (un_el h (fun h => (.inr (.inl h))) (fun h => un_el h (fun h => (.inr (.inr (.inl h)))) (fun h => un_el h (fun h => (.inr (.inr (.inr (.inl h))))) (fun h => (.inr (.inr (.inr (.inr h))))))))⟩
    have crf : Ch nb w65 w65 := Ch.refl
    have ah0 := ah0.ch0 crf
    have ah0_0 := ah0_0.st crf (fun _ _ x => x) ad76 (fun b h => (.inr (.inr (.inl h))))
    have h66 := h66.st crf (fun _ _ x => x) ad76 (fun b h => (.inl h))
    have c28 := c28.then0 crf
    have hLn := runAO_next hL18 hq21 hb22
    exact ⟨rest32.length, Nat.lt_succ_self _, [(0, (PV po0)), (1, (Value.int .i64 a1)), (2, (Value.int .i64 a2)), (15, az0_0), (16, (Value.int .i64 ((a0.all.length : Nat) : Int))), (7, v64), (17, (Value.int .i64 ((i17 + 1 : Nat) : Int)))], ⟨rfl, rfl, rfl, rfl, rfl, rfl, rfl, trivial⟩, ⟨rest32, i17 + 1, x9 ++ [x25], v64, rfl, rfl, c28, hat19.next, hLn, ah0, ah0_0, h66, d74, d75, d15, lo72⟩⟩
   have hb22 := ifF q56 hb22
   refine CW.skip ?_
   refine inB_n ?_
   refine thn_n (CW.region ?_)
   refine rl_inc rfl hat19.lt (Nat.le_trans ah0_0.big (by decide)) rfl ?_
   refine rl_move rfl rfl ?_
   refine RL.nil (thn_n ?_)
   have ad77 : ∀ b, b < w52.heap.size → ¬ (un (inBlk (PV p39)) (un (inBlk v10) (un (inBlk (PV po0)) (un (inBlk az0_0) S2)))) b → ¬ nb b ∧ ¬ (un (inBlk v10) (un (inBlk (PV po0)) (un (inBlk az0_0) S2))) b := fun b _ hs => ⟨fun x => x, fun h => hs (un_el h (fun h => (.inr (.inl h))) (fun h => un_el h (fun h => (.inr (.inr (.inl h)))) (fun h => un_el h (fun h => (.inr (.inr (.inr (.inl h))))) (fun h => (.inr (.inr (.inr (.inr h))))))))⟩
   have crf : Ch nb w52 w52 := Ch.refl
   have ah0 := ah0.ch0 crf
   have ah0_0 := ah0_0.st crf (fun _ _ x => x) ad77 (fun b h => (.inr (.inr (.inl h))))
   have h11 := h11.st crf (fun _ _ x => x) ad77 (fun b h => (.inl h))
   have c28 := c28.then0 crf
   have hLn := runAO_next hL18 hq21 hb22
   exact ⟨rest32.length, Nat.lt_succ_self _, [(0, (PV po0)), (1, (Value.int .i64 a1)), (2, (Value.int .i64 a2)), (15, az0_0), (16, (Value.int .i64 ((a0.all.length : Nat) : Int))), (7, v10), (17, (Value.int .i64 ((i17 + 1 : Nat) : Int)))], ⟨rfl, rfl, rfl, rfl, rfl, rfl, rfl, trivial⟩, ⟨rest32, i17 + 1, x9, v10, rfl, rfl, c28, hat19.next, hLn, ah0, ah0_0, h11, d13, d14, d15, lo12⟩⟩
  obtain rfl := hat19.nil q31
  have hLf : x9 = o23 := runAO_done hL18
  refine CW.exit (thn_exit (thn_exit (inB_hit ?_)))
  exact ⟨x9, v10, ⟨rfl, rfl, trivial⟩, c28, hLf, ah0, ah0_0, h11, d13, d14, d15, lo12⟩
 rintro _ w79 ⟨x9, v10, hE80, c78, f81, ah0, ah0_0, h11, d13, d14, d15, lo12⟩
 subst f81
 refine thn_n (CW.sub [(0, (PV po0)), (7, v10)] hE80 ?_)
 refine CW.seq (CW.region ?_)
 refine rl_move rfl rfl ?_
 refine rl_nilCheck rfl rfl ?_
 refine rl_fieldAddr rfl fa48_0 rfl ?_
 refine rl_loadS (v := az0_0) rfl Try.isAgg46 (ah0.cell rfl) rfl ?_
 refine rl_lenR rfl (SlO.read (S' := (un (inBlk v10) (un (inBlk (PV po0)) S2))) k_Tie_pos ah0_0 (fun b hs h => hs (un_el h (fun h => (.inl h)) (fun h => un_el h (fun h => (.inr (.inl h))) (fun h => (.inr (.inr (.inr h))))))) (fun b hb => fun h => un_el h (fun h => (disSym d14) b hb h) (fun h => un_el h (fun h => (disSym d15) b hb h) (linNot lin1_0 hd2 h2 b hb)))) Try.underlying46 rfl ?_
 refine rl_move rfl rfl ?_
 refine rl_lenR rfl (SlO.read (S' := (un (inBlk (PV po0)) (un (inBlk az0_0) S2))) k_Tie_pos h11 (fun b hs h => hs (un_el h (fun h => (.inr (.inl h))) (fun h => un_el h (fun h => (.inr (.inr (.inl h)))) (fun h => (.inr (.inr (.inr h))))))) (fun b hb => fun h => un_el h (fun h => d13 b hb h) (fun h => un_el h (fun h => d14 b hb h) (linNot (fun b h => .inr (lo12 b h)) hd2 h2 b hb)))) Try.underlying46 rfl ?_
 refine rl_bin rfl rfl B.sub rfl ?_
 refine rl_assign rfl rfl ?_
 refine RL.nil (thn_n (CW.seq (CW.region ?_)))
 refine rl_move rfl rfl ?_
 refine rl_move rfl rfl ?_
 refine rl_nilCheck rfl rfl ?_
 refine rl_fieldAddr rfl fa48_0 rfl ?_
 refine rl_storeS (u := v10) rfl rfl h11.one Try.sizeOf46 ah0 rfl ?_
 intro w83 s85 c84 k86
 have ad87 : ∀ b, b < w79.heap.size → ¬ (un (inBlk v10) (un (inBlk (PV po0)) (un (inBlk az0_0) S2))) b → ¬ (inBlk (PV po0)) b ∧ ¬ (un (inBlk v10) (un (inBlk (PV po0)) (un (inBlk az0_0) S2))) b := fun b _ hs => ⟨fun h => hs (.inr (.inl h)), hs⟩
 have ah0_0 := ah0_0.st c84 (fun b hb h => (disSym d15) b hb h) ad87 (fun b h => (.inr (.inr (.inl h))))
 have h11 := h11.st c84 (fun b hb h => d13 b hb h) ad87 (fun b h => (.inl h))
 have c78 := c78.then c84 (fun i hi h => (lin0_0 i h).elim (fun x => x) (fun x => absurd x (Nat.not_le_of_lt hi)))
 refine RL.nil (thn_n (CW.seq (CW.region ?_)))
 refine rl_move rfl rfl ?_
 refine rl_assign rfl rfl ?_
 refine RL.nil (thn_n (CW.ret ?_))
 obtain rfl := Option.some.inj hS
 have ad88 : ∀ b, b < w83.heap.size → ¬ (un (inBlk v10) (un (inBlk (PV po0)) (un (inBlk az0_0) S2))) b → ¬ nb b ∧ ¬ (un (inBlk v10) (un (inBlk (PV po0)) S2)) b := fun b _ hs => ⟨fun x => x, fun h => hs (un_el h (fun h => (.inl h)) (fun h => un_el h (fun h => (.inr (.inl h))) (fun h => (.inr (.inr (.inr h))))))⟩
 have ah0_0 := SlO.read (S' := (un (inBlk v10) (un (inBlk (PV po0)) S2))) k_Tie_pos ah0_0 (fun b hs h => hs (un_el h (fun h => (.inl h)) (fun h => un_el h (fun h => (.inr (.inl h))) (fun h => (.inr (.inr (.inr h))))))) (fun b hb => fun h => un_el h (fun h => (disSym d14) b hb h) (fun h => un_el h (fun h => (disSym d15) b hb h) (linNot lin1_0 hd2 h2 b hb)))
 have crf : Ch nb w83 w83 := Ch.refl
 have h11 := h11.st crf (fun _ _ x => x) ad88 (fun b h => (.inl h))
 have k86 := k86.ch0 crf
 have c78 := c78.then0 crf
 have hS89 : (un (inBlk v10) (un (inBlk (PV po0)) S2)) = (un (inBlk (PV po0)) (un (inBlk v10) S2)) := funext fun b => propext ⟨fun h => un_el h (fun h => (.inr (.inl h))) (fun h => un_el h (fun h => (.inl h)) (fun h => (.inr (.inr h)))), fun h => un_el h (fun h => (.inr (.inl h))) (fun h => un_el h (fun h => (.inl h)) (fun h => (.inr (.inr h))))⟩
 rw [hS89] at h11 ah0_0
 exact ret1 rfl ⟨v10, rfl, k86, h11, (fun b h => .inr (lo12 b h)), (disSym d13), c78⟩
/-- lb/lblaw31.do -/
theorem ctr12 (F : Nat → Prop) (w : World) (Bb : Nat) (S2 : Nat → Prop) (hB : Bb ≤ w.heap.size) (h2 : ∀ b, S2 b → b < w.heap.size) (po0 : Nat) (az0_0 : Value) (po1 : Nat) (az1_0 : Value) (hd2 : ∀ b, (un (inBlk (PV po0)) (un (inBlk az0_0) (un (inBlk (PV po1)) (inBlk az1_0)))) b → ¬ S2 b) (hx0_1 : ∀ b, inBlk (PV po0) b → ¬ inBlk az0_0 b) (hx0_2 : ∀ b, inBlk (PV po0) b → ¬ inBlk (PV po1) b) (hx0_3 : ∀ b, inBlk (PV po0) b → ¬ inBlk az1_0 b) (hx1_2 : ∀ b, inBlk az0_0 b → ¬ inBlk (PV po1) b) (hx1_3 : ∀ b, inBlk az0_0 b → ¬ inBlk az1_0 b) (hx2_3 : ∀ b, inBlk (PV po1) b → ¬ inBlk az1_0 b) (a0 : Ties) (ah0 : Blk w po0 69 (Ties.c a0 az0_0)) (ah0_0 : Mp (fun x => Value.agg (Place.enc x).toArray) (fun x => Value.agg (Tie.enc x).toArray) w a0.all az0_0) (a1 : Ties_2) (ah1 : Blk w po1 48 (Ties_2.c a1 az1_0)) (ah1_0 : SlO k_Tie 37 F Bb (un (inBlk (PV po0)) (un (inBlk az0_0) (un (inBlk (PV po1)) (un (inBlk az1_0) S2)))) w a1.all az1_0) (a2 : Act) (r : (Bool × Ties × Ties_2)) (hs : F12_do a0 a1 a2 = some r) :
    Ret Try.prog 12 #[(PV po0), (PV po1), (Value.agg (Act.enc a2).toArray)] w fun v w' => ∃ (nz0_0 : Value) (nz1_0 : Value), v = (Value.bool r.1) ∧ Blk w' po0 69 (Ties.c r.2.1 nz0_0) ∧ Mp (fun x => Value.agg (Place.enc x).toArray) (fun x => Value.agg (Tie.enc x).toArray) w' r.2.1.all nz0_0 ∧ Blk w' po1 48 (Ties_2.c r.2.2 nz1_0) ∧ SlO k_Tie 37 F Bb (un (inBlk (PV po0)) (un (inBlk nz0_0) (un (inBlk (PV po1)) (un (inBlk nz1_0) S2)))) w' r.2.2.all nz1_0 ∧ (∀ b, inBlk nz0_0 b → (un (inBlk (PV po0)) (un (inBlk az0_0) (un (inBlk (PV po1)) (inBlk az1_0)))) b ∨ w.heap.size ≤ b) ∧ (∀ b, inBlk nz1_0 b → (un (inBlk (PV po0)) (un (inBlk az0_0) (un (inBlk (PV po1)) (inBlk az1_0)))) b ∨ w.heap.size ≤ b) ∧ (∀ b, inBlk (PV po0) b → ¬ inBlk nz0_0 b) ∧ (∀ b, inBlk (PV po0) b → ¬ inBlk nz1_0 b) ∧ (∀ b, inBlk nz0_0 b → ¬ inBlk (PV po1) b) ∧ (∀ b, inBlk nz0_0 b → ¬ inBlk nz1_0 b) ∧ (∀ b, inBlk (PV po1) b → ¬ inBlk nz1_0 b) ∧ Ch (un (inBlk (PV po0)) (un (inBlk az0_0) (un (inBlk (PV po1)) (inBlk az1_0)))) w w' := by
 have hS := hs
 have c0 : Ch (un (inBlk (PV po0)) (un (inBlk az0_0) (un (inBlk (PV po1)) (inBlk az1_0)))) w w := Ch.refl
 have lin0_0 : ∀ b, inBlk (PV po0) b → (un (inBlk (PV po0)) (un (inBlk az0_0) (un (inBlk (PV po1)) (inBlk az1_0)))) b ∨ w.heap.size ≤ b := fun b h => .inl (.inl h)
 have lin1_0 : ∀ b, inBlk az0_0 b → (un (inBlk (PV po0)) (un (inBlk az0_0) (un (inBlk (PV po1)) (inBlk az1_0)))) b ∨ w.heap.size ≤ b := fun b h => .inl (.inr (.inl h))
 have lin2_0 : ∀ b, inBlk (PV po1) b → (un (inBlk (PV po0)) (un (inBlk az0_0) (un (inBlk (PV po1)) (inBlk az1_0)))) b ∨ w.heap.size ≤ b := fun b h => .inl (.inr (.inr (.inl h)))
 have lin3_0 : ∀ b, inBlk az1_0 b → (un (inBlk (PV po0)) (un (inBlk az0_0) (un (inBlk (PV po1)) (inBlk az1_0)))) b ∨ w.heap.size ≤ b := fun b h => .inl (.inr (.inr (.inr h)))
 refine Ret.of (n := 68) (args := [_, _, _]) (rs := [.tmp 6]) Try.func12 rfl rfl rfl rfl ?_
 refine CW.seq (CW.region ?_)
 refine rl_boxA (cs := (Act.enc a2)) rfl rfl ?_
 intro p1 w2 n3 k4
 have gp1 : (G F Bb (un (inBlk (PV po0)) (un (inBlk az0_0) (un (inBlk (PV po1)) (un (inBlk az1_0) S2))))) p1 := ⟨.inr (by rw [n3.eq]; exact (Nat.le_trans hB c0.size)), fun h => absurd ((un_lt ah0.ltp (un_lt ah0_0.ltp (un_lt ah1.ltp (un_lt (fun b hb => (ah1_0.lt b hb).2) (fun b h => Nat.lt_of_lt_of_le (h2 b h) c0.size))))) _ h) (by rw [n3.eq]; exact Nat.lt_irrefl _)⟩
 have ah0 := ah0.ch0 n3.ch
 have ah0_0 := ah0_0.ch0 n3.ch
 have ah1 := ah1.ch0 n3.ch
 have ah1_0 := ah1_0.ch0 n3.ch
 have c0 := c0.then0 n3.ch
 refine rl_assign rfl rfl ?_
 refine RL.nil (thn_n (CW.seq (CW.region ?_)))
 refine rl_fieldAddr rfl fa35_3 rfl ?_
 refine rl_loadA (cs := (Tie.enc a2.tie)) rfl Try.isAgg30 Try.sizeOf30 (k4.segAt 3 40) rfl rfl ?_
 refine rl_alloc (Tie.enc Tie.z) Try.zeroValue37 rfl rfl ?_
 intro p5 w6 n7 k8
 have lo9 : ∀ b, inBlk (PV p5) b → w.heap.size ≤ b := fun b h => Nat.le_trans c0.size (n7.fresh b h)
 have d10 : ∀ b, inBlk (PV p5) b → ¬ inBlk (PV po0) b := disNew n7.fresh ah0.ltp
 have d11 : ∀ b, inBlk (PV p5) b → ¬ inBlk az0_0 b := disNew n7.fresh ah0_0.ltp
 have d12 : ∀ b, inBlk (PV p5) b → ¬ inBlk (PV po1) b := disNew n7.fresh ah1.ltp
 have d13 : ∀ b, inBlk (PV p5) b → ¬ inBlk az1_0 b := disNew n7.fresh (fun b hb => (ah1_0.lt b hb).2)
 have ah0 := ah0.ch0 n7.ch
 have ah0_0 := ah0_0.ch0 n7.ch
 have ah1 := ah1.ch0 n7.ch
 have ah1_0 := ah1_0.st n7.ch (fun _ _ x => x) (admNew n7.fresh (fun _ x => x)) (fun b h => (.inr (.inr (.inr (.inr (.inl h))))))
 have gp1n : (G F Bb (un (inBlk (PV p5)) (un (inBlk (PV po0)) (un (inBlk az0_0) (un (inBlk (PV po1)) (un (inBlk az1_0) S2)))))) p1 := ⟨gp1.1, ((admNew n7.fresh (fun _ x => x)) _ k4.lt gp1.2).2⟩
 have k4 := k4.ch0 n7.ch
 have gp1 := gp1n
 have c0 := c0.then0 n7.ch
 refine rl_storeA (vs := (Tie.enc a2.tie)) rfl rfl (all_one rfl) Try.sizeOf37 rfl k8 rfl ?_
 intro w14 s16 c15 k17
 have ad18 : ∀ b, b < w6.heap.size → ¬ (un (inBlk (PV p5)) (un (inBlk (PV po0)) (un (inBlk az0_0) (un (inBlk (PV po1)) (un (inBlk az1_0) S2))))) b → ¬ (inBlk (PV p5)) b ∧ ¬ (un (inBlk (PV p5)) (un (inBlk (PV po0)) (un (inBlk az0_0) (un (inBlk (PV po1)) (un (inBlk az1_0) S2))))) b := fun b _ hs => ⟨fun h => hs (.inl h), hs⟩
 have ah0 := ah0.ch c15 ((fun b hb h => (disSym d10) b hb h) _ rfl)
 have ah0_0 := ah0_0.ch c15 ((fun b hb h => (disSym d11) b hb h))
 have ah1 := ah1.ch c15 ((fun b hb h => (disSym d12) b hb h) _ rfl)
 have ah1_0 := ah1_0.st c15 (fun b hb h => (disSym d13) b hb h) ad18 (fun b h => (.inr (.inr (.inr (.inr (.inl h))))))
 have k4 := k4.ch c15 (ad18 _ k4.lt gp1.2).1
 have c0 := c0.then c15 (fun i hi h => absurd (lo9 i h) (Nat.not_le_of_lt hi))
 refine RL.nil (thn_n (CW.seq ?_))
 refine CW.seq (CW.region ?_)
 refine rl_fieldAddr rfl fa35_0 rfl ?_
 refine rl_loadS (v := (Value.int .i64 a2.kind)) rfl Try.isAgg3 (k4.cell rfl) rfl ?_
 refine RL.nil (thn_n (CW.block ?_))
 refine CW.seq (CW.region ?_)
 refine rl_bin rfl rfl B.eql rfl ?_
 refine rl_assign rfl rfl ?_
 refine RL.nil (thn_n ?_)
 refine CW.cond (t := decide (a2.kind = 0)) rfl (fun q19 => ?_) (fun q19 => ?_)
 ·
  have hS := ifT q19 hS
  refine CW.seq (CW.region ?_)
  refine rl_move rfl rfl ?_
  refine rl_fieldAddr rfl fa35_3 rfl ?_
  refine rl_loadA (cs := (Tie.enc a2.tie)) rfl Try.isAgg30 Try.sizeOf30 (k4.segAt 3 40) rfl rfl ?_
  refine rl_fieldAddr rfl fa35_1 rfl ?_
  refine rl_loadS (v := (Value.int .i64 a2.now)) rfl Try.isAgg3 (k4.cell rfl) rfl ?_
  have hd20 : ∀ b, (un (inBlk (PV po0)) (inBlk az0_0)) b → ¬ (un (inBlk (PV p5)) (un (inBlk (PV po1)) (un (inBlk az1_0) S2))) b := fun b h => un_el h (fun h => (fun b hb => fun h => un_el h (fun h => (disSym d10) b hb h) (fun h => un_el h (fun h => hx0_2 b hb h) (fun h => un_el h (fun h => hx0_3 b hb h) (linNot lin0_0 hd2 h2 b hb)))) b h) (fun h => (fun b hb => fun h => un_el h (fun h => (disSym d11) b hb h) (fun h => un_el h (fun h => hx1_2 b hb h) (fun h => un_el h (fun h => hx1_3 b hb h) (linNot lin1_0 hd2 h2 b hb)))) b h)
  obtain ⟨y24, hy25, hS⟩ := bindS hS
  refine rl_callF rfl en19 rfl (ctr19 F w14 Bb (un (inBlk (PV p5)) (un (inBlk (PV po1)) (un (inBlk az1_0) S2))) (Nat.le_trans hB c0.size) (un_lt k17.ltp (un_lt ah1.ltp (un_lt (fun b hb => (ah1_0.lt b hb).2) (fun b h => Nat.lt_of_lt_of_le (h2 b h) c0.size)))) po0 az0_0 hd20 hx0_1 a0 ah0 ah0_0 a2.tie a2.now y24 hy25) ?_
  rintro _ w22 ⟨z26, rfl, h27, h28, hf29, d30, c23⟩
  have lin31 : ∀ b, inBlk z26 b → (un (inBlk (PV po0)) (un (inBlk az0_0) (un (inBlk (PV po1)) (inBlk az1_0)))) b ∨ w.heap.size ≤ b := fun b h => (hf29 b h).elim (fun h => un_el h (fun h => lin0_0 b h) (fun h => lin1_0 b h)) (fun h => .inr (Nat.le_trans c0.size h))
  have d33 : ∀ b, inBlk z26 b → ¬ inBlk (PV po1) b := fun b h hu => (hf29 b h).elim (fun h => un_el h (fun h => hx0_2 b h hu) (fun h => hx1_2 b h hu)) (fun h => Nat.not_le_of_lt (ah1.ltp b hu) h)
  have d34 : ∀ b, inBlk z26 b → ¬ inBlk az1_0 b := fun b h hu => (hf29 b h).elim (fun h => un_el h (fun h => hx0_3 b h hu) (fun h => hx1_3 b h hu)) (fun h => Nat.not_le_of_lt ((fun b hb => (ah1_0.lt b hb).2) b hu) h)
  have ha36 : ∀ b, b < w14.heap.size → ¬ (un (inBlk (PV p5)) (un (inBlk (PV po0)) (un (inBlk az0_0) (un (inBlk (PV po1)) (un (inBlk az1_0) S2))))) b → ¬ (un (inBlk (PV po0)) (inBlk az0_0)) b ∧ ¬ (un (inBlk (PV p5)) (un (inBlk (PV po0)) (un (inBlk z26) (un (inBlk (PV po1)) (un (inBlk az1_0) S2))))) b := fun b hb hs => ⟨fun h => un_el h (fun h => hs (.inr (.inl h))) (fun h => hs (.inr (.inr (.inl h)))), fun h => un_el h (fun h => hs (.inl h)) (fun h => un_el h (fun h => hs (.inr (.inl h))) (fun h => un_el h (fun h => (hf29 b h).elim (fun h => un_el h (fun h => hs (.inr (.inl h))) (fun h => hs (.inr (.inr (.inl h))))) (fun h => Nat.not_le_of_lt hb h)) (fun h => un_el h (fun h => hs (.inr (.inr (.inr (.inl h))))) (fun h => un_el h (fun h => hs (.inr (.inr (.inr (.inr (.inl h)))))) (fun h => hs (.inr (.inr (.inr (.inr (.inr h))))))))))⟩
  have ah1 := ah1.ch c23 ((fun b hb h => un_el h (fun h => (disSym hx0_2) b hb h) (fun h => (disSym hx1_2) b hb h)) _ rfl)
  have ah1_0 := ah1_0.st c23 (fun b hb h => un_el h (fun h => (disSym hx0_3) b hb h) (fun h => (disSym hx1_3) b hb h)) ha36 (fun b h => (.inr (.inr (.inr (.inr (.inl h))))))
  have gp1n : (G F Bb (un (inBlk (PV p5)) (un (inBlk (PV po0)) (un (inBlk z26) (un (inBlk (PV po1)) (un (inBlk az1_0) S2)))))) p1 := ⟨gp1.1, (ha36 _ k4.lt gp1.2).2⟩
  have k4 := k4.ch c23 (ha36 _ k4.lt gp1.2).1
  have gp1 := gp1n
  have k17 := k17.ch c23 ((fun b hb h => un_el h (fun h => d10 b hb h) (fun h => d11 b hb h)) _ rfl)
  have c0 := c0.then c23 (fun i hi h => un_el h (fun h => (lin0_0 i h).elim (fun x => x) (fun x => absurd x (Nat.not_le_of_lt hi))) (fun h => (lin1_0 i h).elim (fun x => x) (fun x => absurd x (Nat.not_le_of_lt hi))))
  refine rl_move rfl rfl ?_
  refine rl_extract rfl rfl rfl ?_
  refine rl_extract rfl rfl rfl ?_
  refine rl_alloc (Tie.enc Tie.z) Try.zeroValue30 rfl rfl ?_
  intro p37 w38 n39 k40
  have lo41 : ∀ b, inBlk (PV p37) b → w.heap.size ≤ b := fun b h => Nat.le_trans c0.size (n39.fresh b h)
  have d42 : ∀ b, inBlk (PV p37) b → ¬ inBlk (PV p5) b := disNew n39.fresh k17.ltp
  have d43 : ∀ b, inBlk (PV p37) b → ¬ inBlk (PV po0) b := disNew n39.fresh h27.ltp
  have d44 : ∀ b, inBlk (PV p37) b → ¬ inBlk z26 b := disNew n39.fresh h28.ltp
  have d45 : ∀ b, inBlk (PV p37) b → ¬ inBlk (PV po1) b := disNew n39.fresh ah1.ltp
  have d46 : ∀ b, inBlk (PV p37) b → ¬ inBlk az1_0 b := disNew n39.fresh (fun b hb => (ah1_0.lt b hb).2)
  have ah1 := ah1.ch0 n39.ch
  have ah1_0 := ah1_0.st n39.ch (fun _ _ x => x) (admNew n39.fresh (fun _ x => x)) (fun b h => (.inr (.inr (.inr (.inr (.inr (.inl h)))))))
  have gp1n : (G F Bb (un (inBlk (PV p37)) (un (inBlk (PV p5)) (un (inBlk (PV po0)) (un (inBlk z26) (un (inBlk (PV po1)) (un (inBlk az1_0) S2))))))) p1 := ⟨gp1.1, ((admNew n39.fresh (fun _ x => x)) _ k4.lt gp1.2).2⟩
  have k4 := k4.ch0 n39.ch
  have gp1 := gp1n
  have k17 := k17.ch0 n39.ch
  have h27 := h27.ch0 n39.ch
  have h28 := h28.ch0 n39.ch
  have c0 := c0.then0 n39.ch
  refine rl_storeA (vs := (Tie.enc y24.1)) rfl rfl (all_one rfl) Try.sizeOf30 rfl k40 rfl ?_
  intro w47 s49 c48 k50
  have ad51 : ∀ b, b < w38.heap.size → ¬ (un (inBlk (PV p37)) (un (inBlk (PV p5)) (un (inBlk (PV po0)) (un (inBlk z26) (un (inBlk (PV po1)) (un (inBlk az1_0) S2)))))) b → ¬ (inBlk (PV p37)) b ∧ ¬ (un (inBlk (PV p37)) (un (inBlk (PV p5)) (un (inBlk (PV po0)) (un (inBlk z26) (un (inBlk (PV po1)) (un (inBlk az1_0) S2)))))) b := fun b _ hs => ⟨fun h => hs (.inl h), hs⟩
  have ah1 := ah1.ch c48 ((fun b hb h => (disSym d45) b hb h) _ rfl)
  have ah1_0 := ah1_0.st c48 (fun b hb h => (disSym d46) b hb h) ad51 (fun b h => (.inr (.inr (.inr (.inr (.inr (.inl h)))))))
  have k4 := k4.ch c48 (ad51 _ k4.lt gp1.2).1
  have k17 := k17.ch c48 ((fun b hb h => (disSym d42) b hb h) _ rfl)
  have h27 := h27.ch c48 ((fun b hb h => (disSym d43) b hb h) _ rfl)
  have h28 := h28.ch c48 ((fun b hb h => (disSym d44) b hb h))
  have c0 := c0.then c48 (fun i hi h => absurd (lo41 i h) (Nat.not_le_of_lt hi))
  refine rl_assign rfl rfl ?_
  refine RL.nil (thn_n (CW.seq (CW.region ?_)))
  refine rl_move rfl rfl ?_
  refine rl_loadA (cs := (Tie.enc a2.tie)) rfl Try.isAgg37 Try.sizeOf37 (k17.segAt 0 40) rfl rfl ?_
  refine rl_fieldAddr rfl fa35_1 rfl ?_
  refine rl_loadS (v := (Value.int .i64 a2.now)) rfl Try.isAgg3 (k4.cell rfl) rfl ?_
  have hd52 : ∀ b, (un (inBlk (PV po1)) (inBlk az1_0)) b → ¬ (un (inBlk (PV p37)) (un (inBlk (PV p5)) (un (inBlk (PV po0)) (un (inBlk z26) S2)))) b := fun b h => un_el h (fun h => (fun b hb => fun h => un_el h (fun h => (disSym d45) b hb h) (fun h => un_el h (fun h => (disSym d12) b hb h) (fun h => un_el h (fun h => (disSym hx0_2) b hb h) (fun h => un_el h (fun h => (disSym d33) b hb h) (linNot lin2_0 hd2 h2 b hb))))) b h) (fun h => (fun b hb => fun h => un_el h (fun h => (disSym d46) b hb h) (fun h => un_el h (fun h => (disSym d13) b hb h) (fun h => un_el h (fun h => (disSym hx0_3) b hb h) (fun h => un_el h (fun h => (disSym d34) b hb h) (linNot lin3_0 hd2 h2 b hb))))) b h)
  have hS53 : (un (inBlk (PV p37)) (un (inBlk (PV p5)) (un (inBlk (PV po0)) (un (inBlk z26) (un (inBlk (PV po1)) (un (inBlk az1_0) S2)))))) = (un (inBlk (PV po1)) (un (inBlk az1_0) (un (inBlk (PV p37)) (un (inBlk (PV p5)) (un (inBlk (PV po0)) (un (inBlk z26) S2)))))) := funext fun b => propext ⟨fun h => un_el h (fun h => (.inr (.inr (.inl h)))) (fun h => un_el h (fun h => (.inr (.inr (.inr (.inl h))))) (fun h => un_el h (fun h => (.inr (.inr (.inr (.inr (.inl h)))))) (fun h => un_el h (fun h => (.inr (.inr (.inr (.inr (.inr (.inl h))))))) (fun h => un_el h (fun h => (.inl h)) (fun h => un_el h (fun h => (.inr (.inl h))) (fun h => (.inr (.inr (.inr (.inr (.inr (.inr h)))))))))))), fun h => un_el h (fun h => (.inr (.inr (.inr (.inr (.inl h)))))) (fun h => un_el h (fun h => (.inr (.inr (.inr (.inr (.inr (.inl h))))))) (fun h => un_el h (fun h => (.inl h)) (fun h => un_el h (fun h => (.inr (.inl h))) (fun h => un_el h (fun h => (.inr (.inr (.inl h)))) (fun h => un_el h (fun h => (.inr (.inr (.inr (.inl h))))) (fun h => (.inr (.inr (.inr (.inr (.inr (.inr h))))))))))))⟩
  obtain ⟨y56, hy57, hS⟩ := bindS hS
  refine rl_callF rfl en28 rfl (ctr28 F w47 Bb (un (inBlk (PV p37)) (un (inBlk (PV p5)) (un (inBlk (PV po0)) (un (inBlk z26) S2)))) (Nat.le_trans hB c0.size) (un_lt k50.ltp (un_lt k17.ltp (un_lt h27.ltp (un_lt h28.ltp (fun b h => Nat.lt_of_lt_of_le (h2 b h) c0.size))))) po1 az1_0 hd52 hx2_3 a1 ah1 (hS53 ▸ ah1_0) a2.tie a2.now y56 hy57) ?_
  rintro _ w54 ⟨z58, rfl, h59, h60, hf61, d62, c55⟩
  have lin63 : ∀ b, inBlk z58 b → (un (inBlk (PV po0)) (un (inBlk az0_0) (un (inBlk (PV po1)) (inBlk az1_0)))) b ∨ w.heap.size ≤ b := fun b h => (hf61 b h).elim (fun h => un_el h (fun h => lin2_0 b h) (fun h => lin3_0 b h)) (fun h => .inr (Nat.le_trans c0.size h))
  have d66 : ∀ b, inBlk z58 b → ¬ inBlk (PV po0) b := fun b h hu => (hf61 b h).elim (fun h => un_el h (fun h => (disSym hx0_2) b h hu) (fun h => (disSym hx0_3) b h hu)) (fun h => Nat.not_le_of_lt (h27.ltp b hu) h)
  have d67 : ∀ b, inBlk z58 b → ¬ inBlk z26 b := fun b h hu => (hf61 b h).elim (fun h => un_el h (fun h => (disSym d33) b h hu) (fun h => (disSym d34) b h hu)) (fun h => Nat.not_le_of_lt (h28.ltp b hu) h)
  have hS68 : (un (inBlk (PV p37)) (un (inBlk (PV p5)) (un (inBlk (PV po0)) (un (inBlk z26) (un (inBlk (PV po1)) (un (inBlk z58) S2)))))) = (un (inBlk (PV po1)) (un (inBlk z58) (un (inBlk (PV p37)) (un (inBlk (PV p5)) (un (inBlk (PV po0)) (un (inBlk z26) S2)))))) := funext fun b => propext ⟨fun h => un_el h (fun h => (.inr (.inr (.inl h)))) (fun h => un_el h (fun h => (.inr (.inr (.inr (.inl h))))) (fun h => un_el h (fun h => (.inr (.inr (.inr (.inr (.inl h)))))) (fun h => un_el h (fun h => (.inr (.inr (.inr (.inr (.inr (.inl h))))))) (fun h => un_el h (fun h => (.inl h)) (fun h => un_el h (fun h => (.inr (.inl h))) (fun h => (.inr (.inr (.inr (.inr (.inr (.inr h)))))))))))), fun h => un_el h (fun h => (.inr (.inr (.inr (.inr (.inl h)))))) (fun h => un_el h (fun h => (.inr (.inr (.inr (.inr (.inr (.inl h))))))) (fun h => un_el h (fun h => (.inl h)) (fun h => un_el h (fun h => (.inr (.inl h))) (fun h => un_el h (fun h => (.inr (.inr (.inl h)))) (fun h => un_el h (fun h => (.inr (.inr (.inr (.inl h))))) (fun h => (.inr (.inr (.inr (.inr (.inr (.inr h))))))))))))⟩
  rw [← hS68] at h60
  have h27 := h27.ch c55 ((fun b hb h => un_el h (fun h => hx0_2 b hb h) (fun h => hx0_3 b hb h)) _ rfl)
  have h28 := h28.ch c55 ((fun b hb h => un_el h (fun h => d33 b hb h) (fun h => d34 b hb h)))
  have k50 := k50.ch c55 ((fun b hb h => un_el h (fun h => d45 b hb h) (fun h => d46 b hb h)) _ rfl)
  have c0 := c0.then c55 (fun i hi h => un_el h (fun h => (lin2_0 i h).elim (fun x => x) (fun x => absurd x (Nat.not_le_of_lt hi))) (fun h => (lin3_0 i h).elim (fun x => x) (fun x => absurd x (Nat.not_le_of_lt hi))))
  refine rl_move rfl rfl ?_
  refine rl_extract rfl rfl rfl ?_
  refine rl_extract rfl rfl rfl ?_
  refine rl_alloc (Tie.enc Tie.z) Try.zeroValue37 rfl rfl ?_
  intro p70 w71 n72 k73
  have lo74 : ∀ b, inBlk (PV p70) b → w.heap.size ≤ b := fun b h => Nat.le_trans c0.size (n72.fresh b h)
  have d75 : ∀ b, inBlk (PV p70) b → ¬ inBlk (PV p37) b := disNew n72.fresh k50.ltp
  have d77 : ∀ b, inBlk (PV p70) b → ¬ inBlk (PV po0) b := disNew n72.fresh h27.ltp
  have d78 : ∀ b, inBlk (PV p70) b → ¬ inBlk z26 b := disNew n72.fresh h28.ltp
  have d79 : ∀ b, inBlk (PV p70) b → ¬ inBlk (PV po1) b := disNew n72.fresh h59.ltp
  have d80 : ∀ b, inBlk (PV p70) b → ¬ inBlk z58 b := disNew n72.fresh (fun b hb => (h60.lt b hb).2)
  have h27 := h27.ch0 n72.ch
  have h28 := h28.ch0 n72.ch
  have k50 := k50.ch0 n72.ch
  have h59 := h59.ch0 n72.ch
  have h60 := h60.st n72.ch (fun _ _ x => x) (admNew n72.fresh (fun _ x => x)) (fun b h => (.inr (.inr (.inr (.inr (.inr (.inr (.inl h))))))))
  have c0 := c0.then0 n72.ch
  refine rl_storeA (vs := (Tie.enc y56.1)) rfl rfl (all_one rfl) Try.sizeOf37 rfl k73 rfl ?_
  intro w81 s83 c82 k84
  have ad85 : ∀ b, b < w71.heap.size → ¬ (un (inBlk (PV p70)) (un (inBlk (PV p37)) (un (inBlk (PV p5)) (un (inBlk (PV po0)) (un (inBlk z26) (un (inBlk (PV po1)) (un (inBlk z58) S2))))))) b → ¬ (inBlk (PV p70)) b ∧ ¬ (un (inBlk (PV p70)) (un (inBlk (PV p37)) (un (inBlk (PV p5)) (un (inBlk (PV po0)) (un (inBlk z26) (un (inBlk (PV po1)) (un (inBlk z58) S2))))))) b := fun b _ hs => ⟨fun h => hs (.inl h), hs⟩
  have h27 := h27.ch c82 ((fun b hb h => (disSym d77) b hb h) _ rfl)
  have h28 := h28.ch c82 ((fun b hb h => (disSym d78) b hb h))
  have k50 := k50.ch c82 ((fun b hb h => (disSym d75) b hb h) _ rfl)
  have h59 := h59.ch c82 ((fun b hb h => (disSym d79) b hb h) _ rfl)
  have h60 := h60.st c82 (fun b hb h => (disSym d80) b hb h) ad85 (fun b h => (.inr (.inr (.inr (.inr (.inr (.inr (.inl h))))))))
  have c0 := c0.then c82 (fun i hi h => absurd (lo74 i h) (Nat.not_le_of_lt hi))
  refine rl_assign rfl rfl ?_
  refine RL.nil (thn_n (CW.seq (CW.region ?_)))
  refine rl_move rfl rfl ?_
  refine rl_move rfl rfl ?_
  refine rl_bin rfl rfl (B.eqlB Try.underlying4) rfl ?_
  refine rl_move rfl rfl ?_
  obtain ⟨b88, hb89⟩ : ∃ v, ((y24.2.1 == y56.2.1) && (decide (y24.1 = y56.1))) = v := ⟨_, rfl⟩
  have hS := ltS hb89 hS
  refine RL.join 4 42 (.bool b88) (fun w' => Ch nb w81 w') ?_ ?_
  · rcases Bool.eq_false_or_eq_true (y24.2.1 == y56.2.1) with hg87 | hg87
    ·
     have hs86 := and_t hg87 hb89
     have cs : Ch nb w81 w81 := Ch.refl
     refine RL.yes rfl rfl rfl hg87 ?_
     refine rl_loadA (cs := (Tie.enc y24.1)) rfl Try.isAgg30 Try.sizeOf30 (k50.segAt 0 40) rfl rfl ?_
     refine RL.yes rfl rfl rfl hg87 ?_
     refine rl_loadA (cs := (Tie.enc y56.1)) rfl Try.isAgg37 Try.sizeOf37 (k84.segAt 0 40) rfl rfl ?_
     refine RL.yes rfl rfl rfl hg87 ?_
     refine rl_bin rfl rfl (eql37 y24.1 y56.1) rfl ?_
     refine rl_pickT rfl hg87 rfl rfl ?_
     exact RL.nil ⟨Ext.bothEq (congrArg Value.bool hs86) (Ext.skip rfl (Ext.skip rfl (Ext.skip rfl (Ext.rfl')))), cs⟩
    ·
     have hs86 := and_f hg87 hb89
     have cs : Ch nb w81 w81 := Ch.refl
     refine RL.no rfl rfl rfl hg87 rfl rfl ?_
     refine RL.no rfl rfl rfl hg87 rfl rfl ?_
     refine RL.no rfl rfl rfl hg87 rfl rfl ?_
     refine rl_pickF rfl hg87 rfl rfl ?_
     exact RL.nil ⟨Ext.bothEq (congrArg Value.bool hs86) (Ext.skip rfl (Ext.skip rfl (Ext.skip rfl (Ext.rfl')))), cs⟩
  intro w90 c91
  have h27 := h27.ch0 c91
  have h28 := h28.ch0 c91
  have h59 := h59.ch0 c91
  have h60 := h60.ch0 c91
  have c0 := c0.then0 c91
  refine rl_assign rfl rfl ?_
  refine RL.nil (thn_n (CW.ret ?_))
  refine inB_ret ?_
  refine thn_ret ?_
  obtain rfl := Option.some.inj hS
  have ad92 : ∀ b, b < w90.heap.size → ¬ (un (inBlk (PV p70)) (un (inBlk (PV p37)) (un (inBlk (PV p5)) (un (inBlk (PV po0)) (un (inBlk z26) (un (inBlk (PV po1)) (un (inBlk z58) S2))))))) b → ¬ nb b ∧ ¬ (un (inBlk (PV p37)) (un (inBlk (PV p5)) (un (inBlk (PV po0)) (un (inBlk z26) (un (inBlk (PV po1)) (un (inBlk z58) S2)))))) b := fun b _ hs => ⟨fun x => x, fun h => hs (un_el h (fun h => (.inr (.inl h))) (fun h => un_el h (fun h => (.inr (.inr (.inl h)))) (fun h => un_el h (fun h => (.inr (.inr (.inr (.inl h))))) (fun h => un_el h (fun h => (.inr (.inr (.inr (.inr (.inl h)))))) (fun h => un_el h (fun h => (.inr (.inr (.inr (.inr (.inr (.inl h))))))) (fun h => un_el h (fun h => (.inr (.inr (.inr (.inr (.inr (.inr (.inl h)))))))) (fun h => (.inr (.inr (.inr (.inr (.inr (.inr (.inr h))))))))))))))⟩
  have crf : Ch nb w90 w90 := Ch.refl
  have h27 := h27.ch0 crf
  have h28 := h28.ch0 crf
  have h59 := h59.ch0 crf
  have h60 := h60.st crf (fun _ _ x => x) ad92 (fun b h => (.inr (.inr (.inr (.inr (.inr (.inl h)))))))
  have c0 := c0.then0 crf
  have ad93 : ∀ b, b < w90.heap.size → ¬ (un (inBlk (PV p37)) (un (inBlk (PV p5)) (un (inBlk (PV po0)) (un (inBlk z26) (un (inBlk (PV po1)) (un (inBlk z58) S2)))))) b → ¬ nb b ∧ ¬ (un (inBlk (PV p5)) (un (inBlk (PV po0)) (un (inBlk z26) (un (inBlk (PV po1)) (un (inBlk z58) S2))))) b := fun b _ hs => ⟨fun x => x, fun h => hs (un_el h (fun h => (.inr (.inl h))) (fun h => un_el h (fun h => (.inr (.inr (.inl h)))) (fun h => un_el h (fun h => (.inr (.inr (.inr (.inl h))))) (fun h => un_el h (fun h => (.inr (.inr (.inr (.inr (.inl h)))))) (fun h => un_el h (fun h => (.inr (.inr (.inr (.inr (.inr (.inl h))))))) (fun h => (.inr (.inr (.inr (.inr (.inr (.inr h))))))))))))⟩
  have crf : Ch nb w90 w90 := Ch.refl
  have h27 := h27.ch0 crf
  have h28 := h28.ch0 crf
  have h59 := h59.ch0 crf
  have h60 := h60.st crf (fun _ _ x => x) ad93 (fun b h => (.inr (.inr (.inr (.inr (.inl h))))))
  have c0 := c0.then0 crf
  have ad94 : ∀ b, b < w90.heap.size → ¬ (un (inBlk (PV p5)) (un (inBlk (PV po0)) (un (inBlk z26) (un (inBlk (PV po1)) (un (inBlk z58) S2))))) b → ¬ nb b ∧ ¬ (un (inBlk (PV po0)) (un (inBlk z26) (un (inBlk (PV po1)) (un (inBlk z58) S2)))) b := fun b _ hs => ⟨fun x => x, fun h => hs (un_el h (fun h => (.inr (.inl h))) (fun h => un_el h (fun h => (.inr (.inr (.inl h)))) (fun h => un_el h (fun h => (.inr (.inr (.inr (.inl h))))) (fun h => un_el h (fun h => (.inr (.inr (.inr (.inr (.inl h)))))) (fun h => (.inr (.inr (.inr (.inr (.inr h))))))))))⟩
  have crf : Ch nb w90 w90 := Ch.refl
  have h27 := h27.ch0 crf
  have h28 := h28.ch0 crf
  have h59 := h59.ch0 crf
  have h60 := h60.st crf (fun _ _ x => x) ad94 (fun b h => (.inr (.inr (.inr (.inl h)))))
  have c0 := c0.then0 crf
  exact ret1 rfl ⟨z26, z58, rfl, h27, h28, h59, h60, lin31, lin63, d30, (disSym d66), d33, (disSym d67), d62, c0⟩
 have hS := ifF q19 hS
 refine CW.seq (CW.region ?_)
 refine rl_bin rfl rfl B.eql rfl ?_
 refine rl_assign rfl rfl ?_
 refine RL.nil (thn_n ?_)
 refine CW.cond (t := decide (a2.kind = 1)) rfl (fun q95 => ?_) (fun q95 => ?_)
 ·
  have hS := ifT q95 hS
  refine CW.seq ?_
  have hS130 : (un (inBlk (PV p5)) (un (inBlk (PV po0)) (un (inBlk az0_0) (un (inBlk (PV po1)) (un (inBlk az1_0) S2))))) = (un (inBlk (PV po0)) (un (inBlk az0_0) (un (inBlk (PV p5)) (un (inBlk (PV po1)) (un (inBlk az1_0) S2))))) := funext fun b => propext ⟨fun h => un_el h (fun h => (.inr (.inr (.inl h)))) (fun h => un_el h (fun h => (.inl h)) (fun h => un_el h (fun h => (.inr (.inl h))) (fun h => un_el h (fun h => (.inr (.inr (.inr (.inl h))))) (fun h => un_el h (fun h => (.inr (.inr (.inr (.inr (.inl h)))))) (fun h => (.inr (.inr (.inr (.inr (.inr h)))))))))), fun h => un_el h (fun h => (.inr (.inl h))) (fun h => un_el h (fun h => (.inr (.inr (.inl h)))) (fun h => un_el h (fun h => (.inl h)) (fun h => un_el h (fun h => (.inr (.inr (.inr (.inl h))))) (fun h => un_el h (fun h => (.inr (.inr (.inr (.inr (.inl h)))))) (fun h => (.inr (.inr (.inr (.inr (.inr h))))))))))⟩
  rw [hS130] at ah1_0 gp1
  obtain ⟨y100, hy101⟩ : ∃ y, F29_Drop a0 a2.tie = y := ⟨_, rfl⟩
  have hS := ltS hy101 hS
  obtain ⟨y117, hy118, hS⟩ := bindS hS
  refine CW.draw 6 [(none, fun fx O uu wx => uu = (PV po0)), (none, fun fx O uu wx => uu = (Value.pointer (some ⟨p1, 3, none⟩))), (none, fun fx O uu wx => uu = (Value.agg (Tie.enc a2.tie).toArray)), (some true, fun hv O uu wx => ∃ (z102 : Value), hv = [(Value.bool y100.1)] ∧ uu = (Value.bool y100.1) ∧ O = (un (inBlk (PV po0)) (inBlk z102)) ∧ Blk wx po0 69 (Ties.c y100.2 z102) ∧ Mp (fun x => Value.agg (Place.enc x).toArray) (fun x => Value.agg (Tie.enc x).toArray) wx y100.2.all z102 ∧ (∀ b, inBlk (PV po0) b → ¬ inBlk z102 b)), (none, fun fx O uu wx => uu = (PV po1)), (none, fun fx O uu wx => uu = (Value.agg (Tie.enc a2.tie).toArray))] [[], [], [1], [0, 2], [], []] [3, 4, 5] (un (inBlk (PV po0)) (inBlk az0_0)) (fun b h => un_el h (fun h => ah0.ltp b h) (fun h => ah0_0.ltp b h)) mixed rfl rfl rfl rfl ?_ ?_
  ·
   refine Each.consS (fun fl O wk hE hN hO ck => ?_) ?_
   ·
    refine rl_move rfl rfl ?_
    exact RL.nil ⟨_, rfl, Ch.refl, rfl⟩
   refine Each.consS (fun fl O wk hE hN hO ck => ?_) ?_
   ·
    refine rl_fieldAddr rfl fa35_3 rfl ?_
    exact RL.nil ⟨_, rfl, Ch.refl, rfl⟩
   refine Each.consS (fun fl O wk hE hN hO ck => ?_) ?_
   ·
    have ha142 : ∀ b, b < w14.heap.size → ¬ (un (inBlk (PV po0)) (un (inBlk az0_0) (un (inBlk (PV p5)) (un (inBlk (PV po1)) (un (inBlk az1_0) S2))))) b → ¬ (un (inBlk (PV po0)) (inBlk az0_0)) b ∧ ¬ (un O (un (inBlk (PV p5)) (un (inBlk (PV po1)) (un (inBlk az1_0) S2)))) b := fun b hb hs => ⟨fun h => un_el h (fun h => hs (.inl h)) (fun h => hs (.inr (.inl h))), fun h => un_el h (fun ho => (hO b ho).1.elim (fun h => un_el h (fun h => hs (.inl h)) (fun h => hs (.inr (.inl h)))) (fun h => Nat.not_le_of_lt hb h)) (fun h => un_el h (fun h => hs (.inr (.inr (.inl h)))) (fun h => un_el h (fun h => hs (.inr (.inr (.inr (.inl h))))) (fun h => un_el h (fun h => hs (.inr (.inr (.inr (.inr (.inl h)))))) (fun h => hs (.inr (.inr (.inr (.inr (.inr h)))))))))⟩
    have k4 := k4.ch ck (ha142 _ k4.lt gp1.2).1
    refine Need.o1 rfl rfl rfl (fun _ h => h) ?_
    refine rl_loadA (cs := (Tie.enc a2.tie)) rfl Try.isAgg30 Try.sizeOf30 (k4.segAt 3 40) rfl rfl ?_
    exact RL.nil ⟨_, rfl, Ch.refl, rfl⟩
   refine Each.consO ⟨fun _ O _ wx wy cc hh => by obtain ⟨z102, eh, e, rfl, ck3_0, ck3_1, cd3_0_1⟩ := hh; exact ⟨z102, eh, e, rfl, ck3_0.ch0 cc, ck3_1.ch0 cc, cd3_0_1⟩, fun hv Op O wk hO ck hO0 => ?_⟩ ?_
   ·
    obtain ⟨hl, hBg⟩ := hO0 rfl
    obtain rfl := List.eq_nil_of_length_eq_zero hl
    have ah0 := ah0.ch0 hBg.2.1
    have ah0_0 := ah0_0.ch0 hBg.2.1
    have ah1 := ah1.ch0 hBg.2.1
    have ah1_0 := ah1_0.ch0 hBg.2.1
    have k17 := k17.ch0 hBg.2.1
    have c0 := c0.then0 hBg.2.1
    refine Need.o1 rfl rfl rfl (fun _ h => h) ?_
    refine Need.o1 rfl rfl rfl (fun _ h => h) ?_
    have hd146 : ∀ b, (un (inBlk (PV po0)) (inBlk az0_0)) b → ¬ (un (inBlk (PV p5)) (un (inBlk (PV po1)) (un (inBlk az1_0) S2))) b := fun b h => un_el h (fun h => (fun b hb => fun h => un_el h (fun h => (disSym d10) b hb h) (fun h => un_el h (fun h => hx0_2 b hb h) (fun h => un_el h (fun h => hx0_3 b hb h) (linNot lin0_0 hd2 h2 b hb)))) b h) (fun h => (fun b hb => fun h => un_el h (fun h => (disSym d11) b hb h) (fun h => un_el h (fun h => hx1_2 b hb h) (fun h => un_el h (fun h => hx1_3 b hb h) (linNot lin1_0 hd2 h2 b hb)))) b h)
    refine rl_callF rfl en29 rfl (ctr29 F wk Bb (un (inBlk (PV p5)) (un (inBlk (PV po1)) (un (inBlk az1_0) S2))) (Nat.le_trans hB c0.size) (un_lt k17.ltp (un_lt ah1.ltp (un_lt (fun b hb => (ah1_0.lt b hb).2) (fun b h => Nat.lt_of_lt_of_le (h2 b h) c0.size)))) po0 az0_0 hd146 hx0_1 a0 ah0 ah0_0 a2.tie y100 hy101) ?_
    rintro _ w148 ⟨z150, rfl, h151, h152, hf153, d154, c149⟩
    have hb161 : ∀ b, (un (inBlk (PV po0)) (inBlk z150)) b → (O b ∨ wk.heap.size ≤ b) ∧ b < w148.heap.size := fun b h => ⟨un_el h (fun h => .inl ((hBg.1 b).2 (.inl (.inl h)))) (fun h => (hf153 b h).elim (fun h => .inl (un_el h (fun h => ((hBg.1 b).2 (.inl (.inl h)))) (fun h => ((hBg.1 b).2 (.inl (.inr h)))))) (fun h => .inr (Nat.le_trans (Nat.le_refl _) h))), un_el h (fun h => h151.ltp b h) (fun h => h152.ltp b h)⟩
    exact RL.nil ⟨_, (un (inBlk (PV po0)) (inBlk z150)), rfl, hb161, (c149.mono (fun b _ h => un_el h (fun h => ((hBg.1 b).2 (.inl (.inl h)))) (fun h => ((hBg.1 b).2 (.inl (.inr h)))))), ⟨z150, rfl, rfl, rfl, h151, h152, d154⟩⟩
   refine Each.consS (fun fl O wk hE hN hO ck => ?_) ?_
   ·
    refine rl_move rfl rfl ?_
    exact RL.nil ⟨_, rfl, Ch.refl, rfl⟩
   refine Each.consS (fun fl O wk hE hN hO ck => ?_) ?_
   ·
    have k17 := k17.ch ck ((fun b hb h => un_el h (fun h => d10 b hb h) (fun h => d11 b hb h)) _ rfl)
    refine rl_loadA (cs := (Tie.enc a2.tie)) rfl Try.isAgg37 Try.sizeOf37 (k17.segAt 0 40) rfl rfl ?_
    exact RL.nil ⟨_, rfl, Ch.refl, rfl⟩
   trivial
  intro hvO172 OpO172 O172 w170 hO173 c171 hN174
  have ol176 : ∀ b, inBlk (PV po1) b → b < w14.heap.size := ah1.ltp
  have ol177 : ∀ b, inBlk az1_0 b → b < w14.heap.size := (fun b hb => (ah1_0.lt b hb).2)
  refine Need.here rfl rfl rfl rfl ?_
  rintro _ ⟨z102, rfl, e178, rfl, ck3_0, ck3_1, cd3_0_1⟩
  obtain rfl := e178.symm
  have d180 : ∀ b, inBlk (PV po0) b → ¬ inBlk (PV po1) b := fun b h hu => (hO173 b (.inl h)).1.elim (fun h => un_el h (fun h => hx0_2 b h hu) (fun h => hx1_2 b h hu)) (fun h => Nat.not_le_of_lt (ol176 b hu) h)
  have d181 : ∀ b, inBlk (PV po0) b → ¬ inBlk az1_0 b := fun b h hu => (hO173 b (.inl h)).1.elim (fun h => un_el h (fun h => hx0_3 b h hu) (fun h => hx1_3 b h hu)) (fun h => Nat.not_le_of_lt (ol177 b hu) h)
  have lin182 : ∀ b, inBlk z102 b → (un (inBlk (PV po0)) (un (inBlk az0_0) (un (inBlk (PV po1)) (inBlk az1_0)))) b ∨ w.heap.size ≤ b := fun b h => (hO173 b (.inr h)).1.elim (fun h => un_el h (fun h => lin0_0 b h) (fun h => lin1_0 b h)) (fun h => .inr (Nat.le_trans c0.size h))
  have d184 : ∀ b, inBlk z102 b → ¬ inBlk (PV po1) b := fun b h hu => (hO173 b (.inr h)).1.elim (fun h => un_el h (fun h => d180 b h hu) (fun h => hx1_2 b h hu)) (fun h => Nat.not_le_of_lt (ol176 b hu) h)
  have d185 : ∀ b, inBlk z102 b → ¬ inBlk az1_0 b := fun b h hu => (hO173 b (.inr h)).1.elim (fun h => un_el h (fun h => d181 b h hu) (fun h => hx1_3 b h hu)) (fun h => Nat.not_le_of_lt (ol177 b hu) h)
  have ha186 : ∀ b, b < w14.heap.size → ¬ (un (inBlk (PV po0)) (un (inBlk az0_0) (un (inBlk (PV p5)) (un (inBlk (PV po1)) (un (inBlk az1_0) S2))))) b → ¬ (un (inBlk (PV po0)) (inBlk az0_0)) b ∧ ¬ (un (inBlk (PV po0)) (un (inBlk z102) (un (inBlk (PV p5)) (un (inBlk (PV po1)) (un (inBlk az1_0) S2))))) b := fun b hb hs => ⟨fun h => un_el h (fun h => hs (.inl h)) (fun h => hs (.inr (.inl h))), fun h => un_el h (fun h => (hO173 b (.inl h)).1.elim (fun h => un_el h (fun h => hs (.inl h)) (fun h => hs (.inr (.inl h)))) (fun h => Nat.not_le_of_lt hb h)) (fun h => un_el h (fun h => (hO173 b (.inr h)).1.elim (fun h => un_el h (fun h => hs (.inl h)) (fun h => hs (.inr (.inl h)))) (fun h => Nat.not_le_of_lt hb h)) (fun h => un_el h (fun h => hs (.inr (.inr (.inl h)))) (fun h => un_el h (fun h => hs (.inr (.inr (.inr (.inl h))))) (fun h => un_el h (fun h => hs (.inr (.inr (.inr (.inr (.inl h)))))) (fun h => hs (.inr (.inr (.inr (.inr (.inr h))))))))))⟩
  have ah1 := ah1.ch c171 ((fun b hb h => un_el h (fun h => (disSym d180) b hb h) (fun h => (disSym hx1_2) b hb h)) _ rfl)
  have ah1_0 := ah1_0.st c171 (fun b hb h => un_el h (fun h => (disSym d181) b hb h) (fun h => (disSym hx1_3) b hb h)) ha186 (fun b h => (.inr (.inr (.inr (.inr (.inl h))))))
  have k17 := k17.ch c171 ((fun b hb h => un_el h (fun h => d10 b hb h) (fun h => d11 b hb h)) _ rfl)
  have c0 := c0.then c171 (fun i hi h => un_el h (fun h => (lin0_0 i h).elim (fun x => x) (fun x => absurd x (Nat.not_le_of_lt hi))) (fun h => (lin1_0 i h).elim (fun x => x) (fun x => absurd x (Nat.not_le_of_lt hi))))
  refine Need.o1 rfl rfl rfl (fun _ h => h) ?_
  refine Need.o1 rfl rfl rfl (fun _ h => h) ?_
  have hd189 : ∀ b, (un (inBlk (PV po1)) (inBlk az1_0)) b → ¬ (un (inBlk (PV po0)) (un (inBlk z102) (un (inBlk (PV p5)) S2))) b := fun b h => un_el h (fun h => (fun b hb => fun h => un_el h (fun h => (disSym d180) b hb h) (fun h => un_el h (fun h => (disSym d184) b hb h) (fun h => un_el h (fun h => (disSym d12) b hb h) (linNot lin2_0 hd2 h2 b hb)))) b h) (fun h => (fun b hb => fun h => un_el h (fun h => (disSym d181) b hb h) (fun h => un_el h (fun h => (disSym d185) b hb h) (fun h => un_el h (fun h => (disSym d13) b hb h) (linNot lin3_0 hd2 h2 b hb)))) b h)
  have hS190 : (un (inBlk (PV po0)) (un (inBlk z102) (un (inBlk (PV p5)) (un (inBlk (PV po1)) (un (inBlk az1_0) S2))))) = (un (inBlk (PV po1)) (un (inBlk az1_0) (un (inBlk (PV po0)) (un (inBlk z102) (un (inBlk (PV p5)) S2))))) := funext fun b => propext ⟨fun h => un_el h (fun h => (.inr (.inr (.inl h)))) (fun h => un_el h (fun h => (.inr (.inr (.inr (.inl h))))) (fun h => un_el h (fun h => (.inr (.inr (.inr (.inr (.inl h)))))) (fun h => un_el h (fun h => (.inl h)) (fun h => un_el h (fun h => (.inr (.inl h))) (fun h => (.inr (.inr (.inr (.inr (.inr h)))))))))), fun h => un_el h (fun h => (.inr (.inr (.inr (.inl h))))) (fun h => un_el h (fun h => (.inr (.inr (.inr (.inr (.inl h)))))) (fun h => un_el h (fun h => (.inl h)) (fun h => un_el h (fun h => (.inr (.inl h))) (fun h => un_el h (fun h => (.inr (.inr (.inl h)))) (fun h => (.inr (.inr (.inr (.inr (.inr h))))))))))⟩
  refine rl_callF rfl en30 rfl (ctr30 F w170 Bb (un (inBlk (PV po0)) (un (inBlk z102) (un (inBlk (PV p5)) S2))) (Nat.le_trans hB c0.size) (un_lt ck3_0.ltp (un_lt ck3_1.ltp (un_lt k17.ltp (fun b h => Nat.lt_of_lt_of_le (h2 b h) c0.size)))) po1 az1_0 hd189 hx2_3 a1 ah1 (hS190 ▸ ah1_0) a2.tie y117 hy118) ?_
  rintro _ w191 ⟨z193, rfl, h194, h195, hf196, d197, c192⟩
  have lin198 : ∀ b, inBlk z193 b → (un (inBlk (PV po0)) (un (inBlk az0_0) (un (inBlk (PV po1)) (inBlk az1_0)))) b ∨ w.heap.size ≤ b := fun b h => (hf196 b h).elim (fun h => un_el h (fun h => lin2_0 b h) (fun h => lin3_0 b h)) (fun h => .inr (Nat.le_trans c0.size h))
  have d199 : ∀ b, inBlk z193 b → ¬ inBlk (PV po0) b := fun b h hu => (hf196 b h).elim (fun h => un_el h (fun h => (disSym d180) b h hu) (fun h => (disSym d181) b h hu)) (fun h => Nat.not_le_of_lt (ck3_0.ltp b hu) h)
  have d200 : ∀ b, inBlk z193 b → ¬ inBlk z102 b := fun b h hu => (hf196 b h).elim (fun h => un_el h (fun h => (disSym d184) b h hu) (fun h => (disSym d185) b h hu)) (fun h => Nat.not_le_of_lt (ck3_1.ltp b hu) h)
  have hS202 : (un (inBlk (PV po0)) (un (inBlk z102) (un (inBlk (PV p5)) (un (inBlk (PV po1)) (un (inBlk z193) S2))))) = (un (inBlk (PV po1)) (un (inBlk z193) (un (inBlk (PV po0)) (un (inBlk z102) (un (inBlk (PV p5)) S2))))) := funext fun b => propext ⟨fun h => un_el h (fun h => (.inr (.inr (.inl h)))) (fun h => un_el h (fun h => (.inr (.inr (.inr (.inl h))))) (fun h => un_el h (fun h => (.inr (.inr (.inr (.inr (.inl h)))))) (fun h => un_el h (fun h => (.inl h)) (fun h => un_el h (fun h => (.inr (.inl h))) (fun h => (.inr (.inr (.inr (.inr (.inr h)))))))))), fun h => un_el h (fun h => (.inr (.inr (.inr (.inl h))))) (fun h => un_el h (fun h => (.inr (.inr (.inr (.inr (.inl h)))))) (fun h => un_el h (fun h => (.inl h)) (fun h => un_el h (fun h => (.inr (.inl h))) (fun h => un_el h (fun h => (.inr (.inr (.inl h)))) (fun h => (.inr (.inr (.inr (.inr (.inr h))))))))))⟩
  rw [← hS202] at h195
  have ck3_0 := ck3_0.ch c192 ((fun b hb h => un_el h (fun h => d180 b hb h) (fun h => d181 b hb h)) _ rfl)
  have ck3_1 := ck3_1.ch c192 ((fun b hb h => un_el h (fun h => d184 b hb h) (fun h => d185 b hb h)))
  have c0 := c0.then c192 (fun i hi h => un_el h (fun h => (lin2_0 i h).elim (fun x => x) (fun x => absurd x (Nat.not_le_of_lt hi))) (fun h => (lin3_0 i h).elim (fun x => x) (fun x => absurd x (Nat.not_le_of_lt hi))))
  refine rl_bin rfl rfl (B.eqlB Try.underlying4) rfl ?_
  refine rl_assign rfl rfl ?_
  refine RL.nil (thn_n (CW.ret ?_))
  refine inB_ret ?_
  refine thn_ret ?_
  obtain rfl := Option.some.inj hS
  have ad204 : ∀ b, b < w191.heap.size → ¬ (un (inBlk (PV po0)) (un (inBlk z102) (un (inBlk (PV p5)) (un (inBlk (PV po1)) (un (inBlk z193) S2))))) b → ¬ nb b ∧ ¬ (un (inBlk (PV po0)) (un (inBlk z102) (un (inBlk (PV po1)) (un (inBlk z193) S2)))) b := fun b _ hs => ⟨fun x => x, fun h => hs (un_el h (fun h => (.inl h)) (fun h => un_el h (fun h => (.inr (.inl h))) (fun h => un_el h (fun h => (.inr (.inr (.inr (.inl h))))) (fun h => un_el h (fun h => (.inr (.inr (.inr (.inr (.inl h)))))) (fun h => (.inr (.inr (.inr (.inr (.inr h))))))))))⟩
  have crf : Ch nb w191 w191 := Ch.refl
  have ck3_0 := ck3_0.ch0 crf
  have ck3_1 := ck3_1.ch0 crf
  have h194 := h194.ch0 crf
  have h195 := h195.st crf (fun _ _ x => x) ad204 (fun b h => (.inr (.inr (.inr (.inl h)))))
  have c0 := c0.then0 crf
  exact ret1 rfl ⟨z102, z193, rfl, ck3_0, ck3_1, h194, h195, lin182, lin198, cd3_0_1, (disSym d199), d184, (disSym d200), d197, c0⟩
 have hS := ifF q95 hS
 refine CW.seq (CW.region ?_)
 refine rl_bin rfl rfl B.eql rfl ?_
 refine rl_assign rfl rfl ?_
 refine RL.nil (thn_n ?_)
 refine CW.cond (t := decide (a2.kind = 2)) rfl (fun q205 => ?_) (fun q205 => ?_)
 ·
  have hS := ifT q205 hS
  refine CW.seq ?_
  have hS240 : (un (inBlk (PV p5)) (un (inBlk (PV po0)) (un (inBlk az0_0) (un (inBlk (PV po1)) (un (inBlk az1_0) S2))))) = (un (inBlk (PV po0)) (un (inBlk az0_0) (un (inBlk (PV p5)) (un (inBlk (PV po1)) (un (inBlk az1_0) S2))))) := funext fun b => propext ⟨fun h => un_el h (fun h => (.inr (.inr (.inl h)))) (fun h => un_el h (fun h => (.inl h)) (fun h => un_el h (fun h => (.inr (.inl h))) (fun h => un_el h (fun h => (.inr (.inr (.inr (.inl h))))) (fun h => un_el h (fun h => (.inr (.inr (.inr (.inr (.inl h)))))) (fun h => (.inr (.inr (.inr (.inr (.inr h)))))))))), fun h => un_el h (fun h => (.inr (.inl h))) (fun h => un_el h (fun h => (.inr (.inr (.inl h)))) (fun h => un_el h (fun h => (.inl h)) (fun h => un_el h (fun h => (.inr (.inr (.inr (.inl h))))) (fun h => un_el h (fun h => (.inr (.inr (.inr (.inr (.inl h)))))) (fun h => (.inr (.inr (.inr (.inr (.inr h))))))))))⟩
  rw [hS240] at ah1_0 gp1
  obtain ⟨y210, hy211, hS⟩ := bindS hS
  obtain ⟨y227, hy228, hS⟩ := bindS hS
  refine CW.draw 11 [(none, fun fx O uu wx => uu = (PV po0)), (none, fun fx O uu wx => uu = (Value.pointer (some ⟨p1, 2, none⟩))), (none, fun fx O uu wx => uu = (Value.int .i64 a2.ticks)), (none, fun fx O uu wx => uu = (Value.pointer (some ⟨p1, 1, none⟩))), (none, fun fx O uu wx => uu = (Value.int .i64 a2.now)), (some true, fun hv O uu wx => ∃ (z212 : Value), hv = [(Value.int .i64 y210.1)] ∧ uu = (Value.int .i64 y210.1) ∧ O = (un (inBlk (PV po0)) (inBlk z212)) ∧ Blk wx po0 69 (Ties.c y210.2 z212) ∧ Mp (fun x => Value.agg (Place.enc x).toArray) (fun x => Value.agg (Tie.enc x).toArray) wx y210.2.all z212 ∧ (∀ b, inBlk (PV po0) b → ¬ inBlk z212 b)), (none, fun fx O uu wx => uu = (PV po1)), (none, fun fx O uu wx => uu = (Value.pointer (some ⟨p1, 2, none⟩))), (none, fun fx O uu wx => uu = (Value.int .i64 a2.ticks)), (none, fun fx O uu wx => uu = (Value.pointer (some ⟨p1, 1, none⟩))), (none, fun fx O uu wx => uu = (Value.int .i64 a2.now))] [[], [], [1], [], [3], [0, 2, 4], [], [], [7], [], [9]] [5, 6, 8, 10] (un (inBlk (PV po0)) (inBlk az0_0)) (fun b h => un_el h (fun h => ah0.ltp b h) (fun h => ah0_0.ltp b h)) mixed rfl rfl rfl rfl ?_ ?_
  ·
   refine Each.consS (fun fl O wk hE hN hO ck => ?_) ?_
   ·
    refine rl_move rfl rfl ?_
    exact RL.nil ⟨_, rfl, Ch.refl, rfl⟩
   refine Each.consS (fun fl O wk hE hN hO ck => ?_) ?_
   ·
    refine rl_fieldAddr rfl fa35_2 rfl ?_
    exact RL.nil ⟨_, rfl, Ch.refl, rfl⟩
   refine Each.consS (fun fl O wk hE hN hO ck => ?_) ?_
   ·
    have ha252 : ∀ b, b < w14.heap.size → ¬ (un (inBlk (PV po0)) (un (inBlk az0_0) (un (inBlk (PV p5)) (un (inBlk (PV po1)) (un (inBlk az1_0) S2))))) b → ¬ (un (inBlk (PV po0)) (inBlk az0_0)) b ∧ ¬ (un O (un (inBlk (PV p5)) (un (inBlk (PV po1)) (un (inBlk az1_0) S2)))) b := fun b hb hs => ⟨fun h => un_el h (fun h => hs (.inl h)) (fun h => hs (.inr (.inl h))), fun h => un_el h (fun ho => (hO b ho).1.elim (fun h => un_el h (fun h => hs (.inl h)) (fun h => hs (.inr (.inl h)))) (fun h => Nat.not_le_of_lt hb h)) (fun h => un_el h (fun h => hs (.inr (.inr (.inl h)))) (fun h => un_el h (fun h => hs (.inr (.inr (.inr (.inl h))))) (fun h => un_el h (fun h => hs (.inr (.inr (.inr (.inr (.inl h)))))) (fun h => hs (.inr (.inr (.inr (.inr (.inr h)))))))))⟩
    have k4 := k4.ch ck (ha252 _ k4.lt gp1.2).1
    refine Need.o1 rfl rfl rfl (fun _ h => h) ?_
    refine rl_loadS (v := (Value.int .i64 a2.ticks)) rfl Try.isAgg3 (k4.cell rfl) rfl ?_
    exact RL.nil ⟨_, rfl, Ch.refl, rfl⟩
   refine Each.consS (fun fl O wk hE hN hO ck => ?_) ?_
   ·
    refine rl_fieldAddr rfl fa35_1 rfl ?_
    exact RL.nil ⟨_, rfl, Ch.refl, rfl⟩
   refine Each.consS (fun fl O wk hE hN hO ck => ?_) ?_
   ·
    have ha261 : ∀ b, b < w14.heap.size → ¬ (un (inBlk (PV po0)) (un (inBlk az0_0) (un (inBlk (PV p5)) (un (inBlk (PV po1)) (un (inBlk az1_0) S2))))) b → ¬ (un (inBlk (PV po0)) (inBlk az0_0)) b ∧ ¬ (un O (un (inBlk (PV p5)) (un (inBlk (PV po1)) (un (inBlk az1_0) S2)))) b := fun b hb hs => ⟨fun h => un_el h (fun h => hs (.inl h)) (fun h => hs (.inr (.inl h))), fun h => un_el h (fun ho => (hO b ho).1.elim (fun h => un_el h (fun h => hs (.inl h)) (fun h => hs (.inr (.inl h)))) (fun h => Nat.not_le_of_lt hb h)) (fun h => un_el h (fun h => hs (.inr (.inr (.inl h)))) (fun h => un_el h (fun h => hs (.inr (.inr (.inr (.inl h))))) (fun h => un_el h (fun h => hs (.inr (.inr (.inr (.inr (.inl h)))))) (fun h => hs (.inr (.inr (.inr (.inr (.inr h)))))))))⟩
    have k4 := k4.ch ck (ha261 _ k4.lt gp1.2).1
    refine Need.o1 rfl rfl rfl (fun _ h => h) ?_
    refine rl_loadS (v := (Value.int .i64 a2.now)) rfl Try.isAgg3 (k4.cell rfl) rfl ?_
    exact RL.nil ⟨_, rfl, Ch.refl, rfl⟩
   refine Each.consO ⟨fun _ O _ wx wy cc hh => by obtain ⟨z212, eh, e, rfl, ck5_0, ck5_1, cd5_0_1⟩ := hh; exact ⟨z212, eh, e, rfl, ck5_0.ch0 cc, ck5_1.ch0 cc, cd5_0_1⟩, fun hv Op O wk hO ck hO0 => ?_⟩ ?_
   ·
    obtain ⟨hl, hBg⟩ := hO0 rfl
    obtain rfl := List.eq_nil_of_length_eq_zero hl
    have ah0 := ah0.ch0 hBg.2.1
    have ah0_0 := ah0_0.ch0 hBg.2.1
    have ah1 := ah1.ch0 hBg.2.1
    have ah1_0 := ah1_0.ch0 hBg.2.1
    have k17 := k17.ch0 hBg.2.1
    have c0 := c0.then0 hBg.2.1
    refine Need.o1 rfl rfl rfl (fun _ h => h) ?_
    refine Need.o1 rfl rfl rfl (fun _ h => h) ?_
    refine Need.o1 rfl rfl rfl (fun _ h => h) ?_
    have hd266 : ∀ b, (un (inBlk (PV po0)) (inBlk az0_0)) b → ¬ (un (inBlk (PV p5)) (un (inBlk (PV po1)) (un (inBlk az1_0) S2))) b := fun b h => un_el h (fun h => (fun b hb => fun h => un_el h (fun h => (disSym d10) b hb h) (fun h => un_el h (fun h => hx0_2 b hb h) (fun h => un_el h (fun h => hx0_3 b hb h) (linNot lin0_0 hd2 h2 b hb)))) b h) (fun h => (fun b hb => fun h => un_el h (fun h => (disSym d11) b hb h) (fun h => un_el h (fun h => hx1_2 b hb h) (fun h => un_el h (fun h => hx1_3 b hb h) (linNot lin1_0 hd2 h2 b hb)))) b h)
    refine rl_callF rfl en31 rfl (ctr31 F wk Bb (un (inBlk (PV p5)) (un (inBlk (PV po1)) (un (inBlk az1_0) S2))) (Nat.le_trans hB c0.size) (un_lt k17.ltp (un_lt ah1.ltp (un_lt (fun b hb => (ah1_0.lt b hb).2) (fun b h => Nat.lt_of_lt_of_le (h2 b h) c0.size)))) po0 az0_0 hd266 hx0_1 a0 ah0 ah0_0 a2.ticks a2.now y210 hy211) ?_
    rintro _ w268 ⟨z270, rfl, h271, h272, hf273, d274, c269⟩
    have hb281 : ∀ b, (un (inBlk (PV po0)) (inBlk z270)) b → (O b ∨ wk.heap.size ≤ b) ∧ b < w268.heap.size := fun b h => ⟨un_el h (fun h => .inl ((hBg.1 b).2 (.inl (.inl h)))) (fun h => (hf273 b h).elim (fun h => .inl (un_el h (fun h => ((hBg.1 b).2 (.inl (.inl h)))) (fun h => ((hBg.1 b).2 (.inl (.inr h)))))) (fun h => .inr (Nat.le_trans (Nat.le_refl _) h))), un_el h (fun h => h271.ltp b h) (fun h => h272.ltp b h)⟩
    exact RL.nil ⟨_, (un (inBlk (PV po0)) (inBlk z270)), rfl, hb281, (c269.mono (fun b _ h => un_el h (fun h => ((hBg.1 b).2 (.inl (.inl h)))) (fun h => ((hBg.1 b).2 (.inl (.inr h)))))), ⟨z270, rfl, rfl, rfl, h271, h272, d274⟩⟩
   refine Each.consS (fun fl O wk hE hN hO ck => ?_) ?_
   ·
    refine rl_move rfl rfl ?_
    exact RL.nil ⟨_, rfl, Ch.refl, rfl⟩
   refine Each.consS (fun fl O wk hE hN hO ck => ?_) ?_
   ·
    refine rl_fieldAddr rfl fa35_2 rfl ?_
    exact RL.nil ⟨_, rfl, Ch.refl, rfl⟩
   refine Each.consS (fun fl O wk hE hN hO ck => ?_) ?_
   ·
    have ha293 : ∀ b, b < w14.heap.size → ¬ (un (inBlk (PV po0)) (un (inBlk az0_0) (un (inBlk (PV p5)) (un (inBlk (PV po1)) (un (inBlk az1_0) S2))))) b → ¬ (un (inBlk (PV po0)) (inBlk az0_0)) b ∧ ¬ (un O (un (inBlk (PV p5)) (un (inBlk (PV po1)) (un (inBlk az1_0) S2)))) b := fun b hb hs => ⟨fun h => un_el h (fun h => hs (.inl h)) (fun h => hs (.inr (.inl h))), fun h => un_el h (fun ho => (hO b ho).1.elim (fun h => un_el h (fun h => hs (.inl h)) (fun h => hs (.inr (.inl h)))) (fun h => Nat.not_le_of_lt hb h)) (fun h => un_el h (fun h => hs (.inr (.inr (.inl h)))) (fun h => un_el h (fun h => hs (.inr (.inr (.inr (.inl h))))) (fun h => un_el h (fun h => hs (.inr (.inr (.inr (.inr (.inl h)))))) (fun h => hs (.inr (.inr (.inr (.inr (.inr h)))))))))⟩
    have k4 := k4.ch ck (ha293 _ k4.lt gp1.2).1
    refine Need.o1 rfl rfl rfl (fun _ h => h) ?_
    refine rl_loadS (v := (Value.int .i64 a2.ticks)) rfl Try.isAgg3 (k4.cell rfl) rfl ?_
    exact RL.nil ⟨_, rfl, Ch.refl, rfl⟩
   refine Each.consS (fun fl O wk hE hN hO ck => ?_) ?_
   ·
    refine rl_fieldAddr rfl fa35_1 rfl ?_
    exact RL.nil ⟨_, rfl, Ch.refl, rfl⟩
   refine Each.consS (fun fl O wk hE hN hO ck => ?_) ?_
   ·
    have ha302 : ∀ b, b < w14.heap.size → ¬ (un (inBlk (PV po0)) (un (inBlk az0_0) (un (inBlk (PV p5)) (un (inBlk (PV po1)) (un (inBlk az1_0) S2))))) b → ¬ (un (inBlk (PV po0)) (inBlk az0_0)) b ∧ ¬ (un O (un (inBlk (PV p5)) (un (inBlk (PV po1)) (un (inBlk az1_0) S2)))) b := fun b hb hs => ⟨fun h => un_el h (fun h => hs (.inl h)) (fun h => hs (.inr (.inl h))), fun h => un_el h (fun ho => (hO b ho).1.elim (fun h => un_el h (fun h => hs (.inl h)) (fun h => hs (.inr (.inl h)))) (fun h => Nat.not_le_of_lt hb h)) (fun h => un_el h (fun h => hs (.inr (.inr (.inl h)))) (fun h => un_el h (fun h => hs (.inr (.inr (.inr (.inl h))))) (fun h => un_el h (fun h => hs (.inr (.inr (.inr (.inr (.inl h)))))) (fun h => hs (.inr (.inr (.inr (.inr (.inr h)))))))))⟩
    have k4 := k4.ch ck (ha302 _ k4.lt gp1.2).1
    refine Need.o1 rfl rfl rfl (fun _ h => h) ?_
    refine rl_loadS (v := (Value.int .i64 a2.now)) rfl Try.isAgg3 (k4.cell rfl) rfl ?_
    exact RL.nil ⟨_, rfl, Ch.refl, rfl⟩
   trivial
  intro hvO306 OpO306 O306 w304 hO307 c305 hN308
  have ol310 : ∀ b, inBlk (PV po1) b → b < w14.heap.size := ah1.ltp
  have ol311 : ∀ b, inBlk az1_0 b → b < w14.heap.size := (fun b hb => (ah1_0.lt b hb).2)
  refine Need.here rfl rfl rfl rfl ?_
  rintro _ ⟨z212, rfl, e312, rfl, ck5_0, ck5_1, cd5_0_1⟩
  obtain rfl := e312.symm
  have d314 : ∀ b, inBlk (PV po0) b → ¬ inBlk (PV po1) b := fun b h hu => (hO307 b (.inl h)).1.elim (fun h => un_el h (fun h => hx0_2 b h hu) (fun h => hx1_2 b h hu)) (fun h => Nat.not_le_of_lt (ol310 b hu) h)
  have d315 : ∀ b, inBlk (PV po0) b → ¬ inBlk az1_0 b := fun b h hu => (hO307 b (.inl h)).1.elim (fun h => un_el h (fun h => hx0_3 b h hu) (fun h => hx1_3 b h hu)) (fun h => Nat.not_le_of_lt (ol311 b hu) h)
  have lin316 : ∀ b, inBlk z212 b → (un (inBlk (PV po0)) (un (inBlk az0_0) (un (inBlk (PV po1)) (inBlk az1_0)))) b ∨ w.heap.size ≤ b := fun b h => (hO307 b (.inr h)).1.elim (fun h => un_el h (fun h => lin0_0 b h) (fun h => lin1_0 b h)) (fun h => .inr (Nat.le_trans c0.size h))
  have d318 : ∀ b, inBlk z212 b → ¬ inBlk (PV po1) b := fun b h hu => (hO307 b (.inr h)).1.elim (fun h => un_el h (fun h => d314 b h hu) (fun h => hx1_2 b h hu)) (fun h => Nat.not_le_of_lt (ol310 b hu) h)
  have d319 : ∀ b, inBlk z212 b → ¬ inBlk az1_0 b := fun b h hu => (hO307 b (.inr h)).1.elim (fun h => un_el h (fun h => d315 b h hu) (fun h => hx1_3 b h hu)) (fun h => Nat.not_le_of_lt (ol311 b hu) h)
  have ha320 : ∀ b, b < w14.heap.size → ¬ (un (inBlk (PV po0)) (un (inBlk az0_0) (un (inBlk (PV p5)) (un (inBlk (PV po1)) (un (inBlk az1_0) S2))))) b → ¬ (un (inBlk (PV po0)) (inBlk az0_0)) b ∧ ¬ (un (inBlk (PV po0)) (un (inBlk z212) (un (inBlk (PV p5)) (un (inBlk (PV po1)) (un (inBlk az1_0) S2))))) b := fun b hb hs => ⟨fun h => un_el h (fun h => hs (.inl h)) (fun h => hs (.inr (.inl h))), fun h => un_el h (fun h => (hO307 b (.inl h)).1.elim (fun h => un_el h (fun h => hs (.inl h)) (fun h => hs (.inr (.inl h)))) (fun h => Nat.not_le_of_lt hb h)) (fun h => un_el h (fun h => (hO307 b (.inr h)).1.elim (fun h => un_el h (fun h => hs (.inl h)) (fun h => hs (.inr (.inl h)))) (fun h => Nat.not_le_of_lt hb h)) (fun h => un_el h (fun h => hs (.inr (.inr (.inl h)))) (fun h => un_el h (fun h => hs (.inr (.inr (.inr (.inl h))))) (fun h => un_el h (fun h => hs (.inr (.inr (.inr (.inr (.inl h)))))) (fun h => hs (.inr (.inr (.inr (.inr (.inr h))))))))))⟩
  have ah1 := ah1.ch c305 ((fun b hb h => un_el h (fun h => (disSym d314) b hb h) (fun h => (disSym hx1_2) b hb h)) _ rfl)
  have ah1_0 := ah1_0.st c305 (fun b hb h => un_el h (fun h => (disSym d315) b hb h) (fun h => (disSym hx1_3) b hb h)) ha320 (fun b h => (.inr (.inr (.inr (.inr (.inl h))))))
  have k17 := k17.ch c305 ((fun b hb h => un_el h (fun h => d10 b hb h) (fun h => d11 b hb h)) _ rfl)
  have c0 := c0.then c305 (fun i hi h => un_el h (fun h => (lin0_0 i h).elim (fun x => x) (fun x => absurd x (Nat.not_le_of_lt hi))) (fun h => (lin1_0 i h).elim (fun x => x) (fun x => absurd x (Nat.not_le_of_lt hi))))
  refine Need.o1 rfl rfl rfl (fun _ h => h) ?_
  refine Need.o1 rfl rfl rfl (fun _ h => h) ?_
  refine Need.o1 rfl rfl rfl (fun _ h => h) ?_
  have hd324 : ∀ b, (un (inBlk (PV po1)) (inBlk az1_0)) b → ¬ (un (inBlk (PV po0)) (un (inBlk z212) (un (inBlk (PV p5)) S2))) b := fun b h => un_el h (fun h => (fun b hb => fun h => un_el h (fun h => (disSym d314) b hb h) (fun h => un_el h (fun h => (disSym d318) b hb h) (fun h => un_el h (fun h => (disSym d12) b hb h) (linNot lin2_0 hd2 h2 b hb)))) b h) (fun h => (fun b hb => fun h => un_el h (fun h => (disSym d315) b hb h) (fun h => un_el h (fun h => (disSym d319) b hb h) (fun h => un_el h (fun h => (disSym d13) b hb h) (linNot lin3_0 hd2 h2 b hb)))) b h)
  have hS325 : (un (inBlk (PV po0)) (un (inBlk z212) (un (inBlk (PV p5)) (un (inBlk (PV po1)) (un (inBlk az1_0) S2))))) = (un (inBlk (PV po1)) (un (inBlk az1_0) (un (inBlk (PV po0)) (un (inBlk z212) (un (inBlk (PV p5)) S2))))) := funext fun b => propext ⟨fun h => un_el h (fun h => (.inr (.inr (.inl h)))) (fun h => un_el h (fun h => (.inr (.inr (.inr (.inl h))))) (fun h => un_el h (fun h => (.inr (.inr (.inr (.inr (.inl h)))))) (fun h => un_el h (fun h => (.inl h)) (fun h => un_el h (fun h => (.inr (.inl h))) (fun h => (.inr (.inr (.inr (.inr (.inr h)))))))))), fun h => un_el h (fun h => (.inr (.inr (.inr (.inl h))))) (fun h => un_el h (fun h => (.inr (.inr (.inr (.inr (.inl h)))))) (fun h => un_el h (fun h => (.inl h)) (fun h => un_el h (fun h => (.inr (.inl h))) (fun h => un_el h (fun h => (.inr (.inr (.inl h)))) (fun h => (.inr (.inr (.inr (.inr (.inr h))))))))))⟩
  refine rl_callF rfl en32 rfl (ctr32 F w304 Bb (un (inBlk (PV po0)) (un (inBlk z212) (un (inBlk (PV p5)) S2))) (Nat.le_trans hB c0.size) (un_lt ck5_0.ltp (un_lt ck5_1.ltp (un_lt k17.ltp (fun b h => Nat.lt_of_lt_of_le (h2 b h) c0.size)))) po1 az1_0 hd324 hx2_3 a1 ah1 (hS325 ▸ ah1_0) a2.ticks a2.now y227 hy228) ?_
  rintro _ w326 ⟨z328, rfl, h329, h330, hf331, d332, c327⟩
  have lin333 : ∀ b, inBlk z328 b → (un (inBlk (PV po0)) (un (inBlk az0_0) (un (inBlk (PV po1)) (inBlk az1_0)))) b ∨ w.heap.size ≤ b := fun b h => (hf331 b h).elim (fun h => un_el h (fun h => lin2_0 b h) (fun h => lin3_0 b h)) (fun h => .inr (Nat.le_trans c0.size h))
  have d334 : ∀ b, inBlk z328 b → ¬ inBlk (PV po0) b := fun b h hu => (hf331 b h).elim (fun h => un_el h (fun h => (disSym d314) b h hu) (fun h => (disSym d315) b h hu)) (fun h => Nat.not_le_of_lt (ck5_0.ltp b hu) h)
  have d335 : ∀ b, inBlk z328 b → ¬ inBlk z212 b := fun b h hu => (hf331 b h).elim (fun h => un_el h (fun h => (disSym d318) b h hu) (fun h => (disSym d319) b h hu)) (fun h => Nat.not_le_of_lt (ck5_1.ltp b hu) h)
  have hS337 : (un (inBlk (PV po0)) (un (inBlk z212) (un (inBlk (PV p5)) (un (inBlk (PV po1)) (un (inBlk z328) S2))))) = (un (inBlk (PV po1)) (un (inBlk z328) (un (inBlk (PV po0)) (un (inBlk z212) (un (inBlk (PV p5)) S2))))) := funext fun b => propext ⟨fun h => un_el h (fun h => (.inr (.inr (.inl h)))) (fun h => un_el h (fun h => (.inr (.inr (.inr (.inl h))))) (fun h => un_el h (fun h => (.inr (.inr (.inr (.inr (.inl h)))))) (fun h => un_el h (fun h => (.inl h)) (fun h => un_el h (fun h => (.inr (.inl h))) (fun h => (.inr (.inr (.inr (.inr (.inr h)))))))))), fun h => un_el h (fun h => (.inr (.inr (.inr (.inl h))))) (fun h => un_el h (fun h => (.inr (.inr (.inr (.inr (.inl h)))))) (fun h => un_el h (fun h => (.inl h)) (fun h => un_el h (fun h => (.inr (.inl h))) (fun h => un_el h (fun h => (.inr (.inr (.inl h)))) (fun h => (.inr (.inr (.inr (.inr (.inr h))))))))))⟩
  rw [← hS337] at h330
  have ck5_0 := ck5_0.ch c327 ((fun b hb h => un_el h (fun h => d314 b hb h) (fun h => d315 b hb h)) _ rfl)
  have ck5_1 := ck5_1.ch c327 ((fun b hb h => un_el h (fun h => d318 b hb h) (fun h => d319 b hb h)))
  have c0 := c0.then c327 (fun i hi h => un_el h (fun h => (lin2_0 i h).elim (fun x => x) (fun x => absurd x (Nat.not_le_of_lt hi))) (fun h => (lin3_0 i h).elim (fun x => x) (fun x => absurd x (Nat.not_le_of_lt hi))))
  refine rl_bin rfl rfl B.eql rfl ?_
  refine rl_assign rfl rfl ?_
  refine RL.nil (thn_n (CW.ret ?_))
  refine inB_ret ?_
  refine thn_ret ?_
  obtain rfl := Option.some.inj hS
  have ad339 : ∀ b, b < w326.heap.size → ¬ (un (inBlk (PV po0)) (un (inBlk z212) (un (inBlk (PV p5)) (un (inBlk (PV po1)) (un (inBlk z328) S2))))) b → ¬ nb b ∧ ¬ (un (inBlk (PV po0)) (un (inBlk z212) (un (inBlk (PV po1)) (un (inBlk z328) S2)))) b := fun b _ hs => ⟨fun x => x, fun h => hs (un_el h (fun h => (.inl h)) (fun h => un_el h (fun h => (.inr (.inl h))) (fun h => un_el h (fun h => (.inr (.inr (.inr (.inl h))))) (fun h => un_el h (fun h => (.inr (.inr (.inr (.inr (.inl h)))))) (fun h => (.inr (.inr (.inr (.inr (.inr h))))))))))⟩
  have crf : Ch nb w326 w326 := Ch.refl
  have ck5_0 := ck5_0.ch0 crf
  have ck5_1 := ck5_1.ch0 crf
  have h329 := h329.ch0 crf
  have h330 := h330.st crf (fun _ _ x => x) ad339 (fun b h => (.inr (.inr (.inr (.inl h)))))
  have c0 := c0.then0 crf
  exact ret1 rfl ⟨z212, z328, rfl, ck5_0, ck5_1, h329, h330, lin316, lin333, cd5_0_1, (disSym d334), d318, (disSym d335), d332, c0⟩
 have hS := ifF q205 hS
 refine CW.skip ?_
 refine inB_n ?_
 refine thn_n (CW.seq (CW.region ?_))
 refine rl_assign rfl rfl ?_
 refine RL.nil (thn_n (CW.ret ?_))
 obtain rfl := Option.some.inj hS
 have ad340 : ∀ b, b < w14.heap.size → ¬ (un (inBlk (PV p5)) (un (inBlk (PV po0)) (un (inBlk az0_0) (un (inBlk (PV po1)) (un (inBlk az1_0) S2))))) b → ¬ nb b ∧ ¬ (un (inBlk (PV po0)) (un (inBlk az0_0) (un (inBlk (PV po1)) (un (inBlk az1_0) S2)))) b := fun b _ hs => ⟨fun x => x, fun h => hs (un_el h (fun h => (.inr (.inl h))) (fun h => un_el h (fun h => (.inr (.inr (.inl h)))) (fun h => un_el h (fun h => (.inr (.inr (.inr (.inl h))))) (fun h => un_el h (fun h => (.inr (.inr (.inr (.inr (.inl h)))))) (fun h => (.inr (.inr (.inr (.inr (.inr h))))))))))⟩
 have crf : Ch nb w14 w14 := Ch.refl
 have ah0 := ah0.ch0 crf
 have ah0_0 := ah0_0.ch0 crf
 have ah1 := ah1.ch0 crf
 have ah1_0 := ah1_0.st crf (fun _ _ x => x) ad340 (fun b h => (.inr (.inr (.inr (.inl h)))))
 have c0 := c0.then0 crf
 exact ret1 rfl ⟨az0_0, az1_0, rfl, ah0, ah0_0, ah1, ah1_0, lin1_0, lin3_0, hx0_1, hx0_3, hx1_2, hx1_3, hx2_3, c0⟩
/-- slices.SortFunc[[]lb/ties.Tie,lb/ties.Tie] -/
theorem ctr44 (F : Nat → Prop) (w : World) (Bb : Nat) (S2 : Nat → Prop) (hB : Bb ≤ w.heap.size) (h2 : ∀ b, S2 b → b < w.heap.size) (av0 : Value) (hd2 : ∀ b, (inBlk av0) b → ¬ S2 b) (a0 : (List Tie)) (ah0 : SlO k_Tie 30 F Bb (un (inBlk av0) S2) w a0 av0) (a1 : (Tie → Tie → Int)) (av1 : Value) (ah1 : (Kd.fn2 Try.prog true true k_Tie k_Tie (Value.int .i64)).rep (G F Bb (un (inBlk av0) S2)) w a1 [av1]) (r : (List Tie)) (hs : F44_slices_SortFunc a0 a1 = some r) :
    Ret Try.prog 44 #[av0, av1] w fun v w' => v = Value.tuple #[] ∧ SlO k_Tie 30 F Bb (un (inBlk av0) S2) w' r av0 ∧ Ch (inBlk av0) w w' :=
  sortF_ret (n := 40) (enc := Tie.enc) (fun _ => rfl) (fun _ => rfl) lays44 (by decide) Try.isAgg30 Try.sizeOf30 ah0 ah1 (fun b hb h => hb.2 (.inl h)) hs
/-- slices.SortedFunc[lb/ties.Tie] -/
theorem ctr33 (F : Nat → Prop) (w : World) (a0 : (List Tie)) (av0 : Value) (ah0 : Seq Try.prog (fun x => Value.agg (Tie.enc x).toArray) w a0 av0) (a1 : (Tie → Tie → Int)) (av1 : Value) (ah1 : (Kd.fn2 Try.prog true true k_Tie k_Tie (Value.int .i64)).rep F w a1 [av1]) (r : (List Tie)) (hs : F33_Tie a0 a1 = some r) :
    Ret Try.prog 33 #[av0, av1] w fun v w' => ∃ (y0 : Value), v = y0 ∧ SlO k_Tie 30 F w.heap.size (inBlk y0) w' r y0 ∧ Ch nb w w' := by
 have hS := hs
 have c0 : Ch nb w w := Ch.refl
 have ah1 := Kd.enter ah1
 refine Ret.of (n := 12) (args := [_, _]) (rs := [.tmp 4]) Try.func33 rfl rfl rfl rfl ?_
 refine CW.seq (CW.region ?_)
 refine rl_assign rfl rfl ?_
 refine RL.nil (thn_n (CW.seq (CW.region ?_)))
 refine rl_move rfl rfl ?_
 refine rl_callF rfl en43 rfl (ctr43 (F := (G F w.heap.size nb)) ah0 (anyPerm_lt hS)) ?_
 rintro v3 w4 ⟨ys1, hp2, h5, c6⟩
 have hS := anyPerm_el hS hp2
 have hf7 : ∀ b, inBlk v3 b → w.heap.size ≤ b := fun b hb => (h5.lt b hb).1
 have h5 := SlO.back (S' := un (inBlk v3) nb) h5 nbS c0.size (fun _ => Or.comm)
 have ah1 := Kd.st ah1 c6 (admNew hf7 (fun _ x => x))
 have c0 := c0.then0 c6
 refine rl_assign rfl rfl ?_
 refine RL.nil (thn_n (CW.seq (CW.region ?_)))
 refine rl_move rfl rfl ?_
 refine rl_move rfl rfl ?_
 have hd8 : ∀ b, (inBlk v3) b → ¬ nb b := fun b h => (fun b hb => fun h => h) b h
 have hS9 : (un (inBlk v3) nb) = (un (inBlk v3) nb) := rfl
 have ha10 := ah1
 rw [hS9] at ha10
 obtain ⟨y13, hy14, hS⟩ := bindS hS
 refine rl_callF rfl en44 rfl (ctr44 F w4 w.heap.size nb c0.size nbS v3 hd8  ys1 (hS9 ▸ h5) a1 av1 ha10 y13 hy14) ?_
 rintro _ w11 ⟨rfl, h15, c12⟩
 rw [← hS9] at h15
 have c0 := c0.then c12 (fun i hi h => absurd ((fun b hb => (h5.lt b hb).1) i h) (Nat.not_le_of_lt hi))
 refine RL.nil (thn_n (CW.seq (CW.region ?_)))
 refine rl_move rfl rfl ?_
 refine rl_assign rfl rfl ?_
 refine RL.nil (thn_n (CW.ret ?_))
 obtain rfl := Option.some.inj hS
 exact ret1 rfl ⟨v3, rfl, h15.out, c0⟩
/-- (*lb/ties.Ties).List -/
theorem ctr15 (F : Nat → Prop) (w : World) (Bb : Nat) (S2 : Nat → Prop) (hB : Bb ≤ w.heap.size) (h2 : ∀ b, S2 b → b < w.heap.size) (po0 : Nat) (az0_0 : Value) (hd2 : ∀ b, (un (inBlk (PV po0)) (inBlk az0_0)) b → ¬ S2 b) (hx0_1 : ∀ b, inBlk (PV po0) b → ¬ inBlk az0_0 b) (a0 : Ties) (ah0 : Blk w po0 69 (Ties.c a0 az0_0)) (ah0_0 : Mp (fun x => Value.agg (Place.enc x).toArray) (fun x => Value.agg (Tie.enc x).toArray) w a0.all az0_0) (r : (List Tie)) (hs : F15_List a0 = some r) :
    Ret Try.prog 15 #[(PV po0)] w fun v w' => ∃ (y0 : Value), v = y0 ∧ SlO k_Tie 30 (G F Bb (un (inBlk (PV po0)) (un (inBlk az0_0) S2))) w.heap.size (inBlk y0) w' r y0 ∧ Ch nb w w' := by
 have hS := hs
 have c0 : Ch nb w w := Ch.refl
 refine Ret.of (n := 9) (args := [_]) (rs := [.tmp 2]) Try.func15 rfl rfl rfl rfl ?_
 refine CW.seq (CW.region ?_)
 refine rl_assign rfl rfl ?_
 refine RL.nil (thn_n (CW.seq (CW.region ?_)))
 refine rl_move rfl rfl ?_
 refine rl_nilCheck rfl rfl ?_
 refine rl_fieldAddr rfl fa69_0 rfl ?_
 refine rl_loadS (v := az0_0) rfl Try.isAgg67 (ah0.cell rfl) rfl ?_
 refine rl_callF rfl en34 rfl (ctr34 ah0_0.n) ?_
 rintro u1 w2 ⟨h3, c4⟩
 have ah0 := ah0.ch0 c4
 have ah0_0 := ah0_0.ch0 c4
 have c0 := c0.then0 c4
 obtain ⟨y7, hy8, hS⟩ := bindS hS
 refine rl_callF rfl en33 rfl (ctr33 (G F Bb (un (inBlk (PV po0)) (un (inBlk az0_0) S2))) w2 (a0.all.map (·.2)) u1 h3 (fun x0 x1 => F9_Compare x0 x1) (Value.func (.func 9) #[] [].toArray) (show (Kd.fn2 Try.prog true true k_Tie k_Tie (Value.int .i64)).rep (G F Bb (un (inBlk (PV po0)) (un (inBlk az0_0) S2))) w2 (fun x0 x1 => F9_Compare x0 x1) [(Value.func (.func 9) #[] [].toArray)] from ⟨9, [], rfl, en9, fun w' hw F' x0 x1 c0 c1 hx0 hx1 => by
     obtain rfl := hx0
     obtain rfl := hx1
     exact (ctr9 (fun b => (G F Bb (un (inBlk (PV po0)) (un (inBlk az0_0) S2))) b ∨ F' b) w' x0 x1 _ rfl).mono (by rintro v w'' ⟨rfl, c⟩; exact ⟨rfl, c⟩)⟩) y7 hy8) ?_
 rintro v9 w5 ⟨_, rfl, h10, c6⟩
 have hf11 : ∀ b, inBlk v9 b → w2.heap.size ≤ b := fun b hb => (h10.lt b hb).1
 have h10 := SlO.back (S' := un (inBlk v9) (un (inBlk (PV po0)) (un (inBlk az0_0) S2))) h10 (un_lt ah0.ltp (un_lt ah0_0.ltp (fun b h => Nat.lt_of_lt_of_le (h2 b h) c0.size))) (Nat.le_trans hB c0.size) (fun _ => Or.comm)
 have lo12 : ∀ b, inBlk v9 b → w.heap.size ≤ b := fun b h => Nat.le_trans c0.size (hf11 b h)
 have c0 := c0.then0 c6
 refine rl_assign rfl rfl ?_
 refine RL.nil (thn_n (CW.ret ?_))
 obtain rfl := Option.some.inj hS
 exact ret1 rfl ⟨v9, rfl, (SlO.outP (fun h => h) h10 lo12), c0⟩
/-- lb/lblaw31.Of -/
theorem ctr14 (F : Nat → Prop) (w : World) (a0 : (List Tie)) (av0 : Value) (ah0 : slRep k_Tie F w a0 av0) (r : (List Tie)) (hs : F14_Of a0 = some r) :
    Ret Try.prog 14 #[av0] w fun v w' => ∃ (y0 : Value), v = y0 ∧ SlO k_Tie 37 F w.heap.size (inBlk y0) w' r y0 ∧ Ch nb w w' := by
 have hS := hs
 have c0 : Ch nb w w := Ch.refl
 have ah0 := slRep.enter k_Tie_pos ah0
 refine Ret.of (n := 19) (args := [_]) (rs := [.tmp 2]) Try.func14 rfl rfl rfl rfl ?_
 refine CW.seq (CW.region ?_)
 refine rl_assign rfl rfl ?_
 refine RL.nil (thn_n (CW.seq (CW.region ?_)))
 refine rl_bslice (k := k_Tie) (F := F) (B := w.heap.size) (S := nb) ([] : List Tie) rfl k_Tie_pos Try.underlying46 Try.sizeOf37 Try.zeroValue37 rfl rfl trivial c0.size nbS rfl ?_
 intro v1 w2 c3 hf4 h5
 have ah0 := slRep.st k_Tie_pos ah0 c3 (admNew hf4 (fun _ x => x))
 have c0 := c0.then0 c3
 refine rl_assign rfl rfl ?_
 refine RL.nil (thn_n (CW.seq ?_))
 refine CW.seq (CW.region ?_)
 refine rl_move rfl rfl ?_
 refine rl_lenR rfl ah0 Try.underlying52 rfl ?_
 refine rl_move rfl rfl ?_
 refine RL.nil (thn_n ?_)
 obtain ⟨o16, ho17, hS⟩ := bindS hS
 refine CW.cutB (fun E' w' => ∃ (x6 : (List Tie)) (v7 : Value), Sub [(3, v7)] E' ∧ Ch nb w w' ∧ x6 = o16 ∧ slRep k_Tie (G F w.heap.size (un (inBlk v7) nb)) w' a0 av0 ∧ SlO k_Tie 37 F w.heap.size (un (inBlk v7) nb) w' x6 v7) ?_ ?_
 ·
  refine CW.loopS [(7, av0), (8, (Value.int .i64 ((a0.length : Nat) : Int))), (3, v1), (9, (Value.int .i64 ((0 : Nat) : Int)))] ⟨rfl, rfl, rfl, rfl, trivial⟩ a0.length (fun m E w' => ∃ (rest9 : List Tie) (i10 : Nat) (x6 : (List Tie)) (v7 : Value), m = rest9.length ∧ E = [(7, av0), (8, (Value.int .i64 ((a0.length : Nat) : Int))), (3, v7), (9, (Value.int .i64 ((i10 : Nat) : Int)))] ∧ Ch nb w w' ∧ At a0 i10 rest9 ∧ runAO F14_Of_b1 rest9 x6 = some o16 ∧ slRep k_Tie (G F w.heap.size (un (inBlk v7) nb)) w' a0 av0 ∧ SlO k_Tie 37 F w.heap.size (un (inBlk v7) nb) w' x6 v7)
      ⟨a0, 0, [], v1, rfl, rfl, c0, At.start, ho17, ah0, h5⟩ ?_
  rintro _ _ w22 ⟨rest9, i10, x6, v7, rfl, rfl, c21, hat12, hL11, ah0, h8⟩
  refine CW.seq (CW.region ?_)
  refine rl_bin rfl rfl B.lss rfl ?_
  refine RL.nil (thn_n ?_)
  refine CW.seq ?_
  refine CW.cond (t := decide (((i10 : Nat) : Int) < ((a0.length : Nat) : Int))) rfl (fun q24 => ?_) (fun q24 => ?_)
  ·
   obtain ⟨x18, rest25, rfl⟩ := hat12.cons q24
   obtain ⟨q13, hq14⟩ := runAO_some hL11
   have hb15 := hq14
   refine CW.skip (thn_n ?_)
   refine CW.seq ?_
   refine CW.block ?_
   refine CW.seq (CW.region ?_)
   refine rl_ixR rfl ah0 rfl hat12.get Try.underlying52 Try.sizeOf30 rfl ?_
   intro p26 o27 cs28 hr29 hs30 hg31
   obtain rfl := hr29
   refine rl_loadA (cs := (Tie.enc x18)) rfl Try.isAgg30 Try.sizeOf30 (hs30) rfl rfl ?_
   refine rl_alloc (Tie.enc Tie.z) Try.zeroValue30 rfl rfl ?_
   intro p32 w33 n34 k35
   have lo36 : ∀ b, inBlk (PV p32) b → w.heap.size ≤ b := fun b h => Nat.le_trans c21.size (n34.fresh b h)
   have d37 : ∀ b, inBlk (PV p32) b → ¬ inBlk v7 b := disNew n34.fresh (fun b hb => (h8.lt b hb).2)
   have ah0 := slRep.st k_Tie_pos ah0 n34.ch (admNew n34.fresh (fun _ x => x))
   have h8 := h8.st n34.ch (fun _ _ x => x) (admNew n34.fresh (fun _ x => x)) (fun b h => (.inr (.inl h)))
   have c21 := c21.then0 n34.ch
   refine rl_storeA (vs := (Tie.enc x18)) rfl rfl (all_one rfl) Try.sizeOf30 rfl k35 rfl ?_
   intro w38 s40 c39 k41
   have ad42 : ∀ b, b < w33.heap.size → ¬ (un (inBlk (PV p32)) (un (inBlk v7) nb)) b → ¬ (inBlk (PV p32)) b ∧ ¬ (un (inBlk (PV p32)) (un (inBlk v7) nb)) b := fun b _ hs => ⟨fun h => hs (.inl h), hs⟩
   have ah0 := slRep.st k_Tie_pos ah0 c39 ad42
   have h8 := h8.st c39 (fun b hb h => (disSym d37) b hb h) ad42 (fun b h => (.inr (.inl h)))
   have c21 := c21.then c39 (fun i hi h => absurd (lo36 i h) (Nat.not_le_of_lt hi))
   refine RL.nil (thn_n (CW.region ?_))
   refine rl_move rfl rfl ?_
   refine rl_loadA (cs := (Tie.enc x18)) rfl Try.isAgg30 Try.sizeOf30 (k41.segAt 0 40) rfl rfl ?_
   refine rl_bslice (k := k_Tie) (F := F) (B := w.heap.size) (S := (un (inBlk (PV p32)) (un (inBlk v7) nb))) ([x18] : List Tie) rfl k_Tie_pos Try.underlying46 Try.sizeOf37 Try.zeroValue37 rfl rfl ⟨rfl, rfl, trivial⟩ c21.size (un_lt k41.ltp (un_lt (fun b hb => (h8.lt b hb).2) nbS)) rfl ?_
   intro v43 w44 c45 hf46 h47
   have h47 := h47.readNew k_Tie_pos hf46 (un_lt k41.ltp (un_lt (fun b hb => (h8.lt b hb).2) nbS))
   have ah0 := slRep.ch k_Tie_pos ah0 c45
   have h8 := h8.ch0 c45
   have k41 := k41.ch0 c45
   have c21 := c21.then0 c45
   obtain ⟨z56, hz57, hb15⟩ := bindS hb15
   have hl := (apO_get hz57).1
   refine rl_append (k := k_Tie) (T := 37) (F := F) (B := w.heap.size) (S := (un (inBlk (PV p32)) (un (inBlk v7) nb))) (S2 := (un (inBlk (PV p32)) nb)) (fun v => (un (inBlk (PV p32)) (un (inBlk v) nb))) rfl rfl k_Tie_pos ap46 h8 h47 (fun _ => un_swap) (fun _ _ => un_swap) hl c21.size (un_lt k41.ltp (un_lt (fun b hb => (h8.lt b hb).2) nbS)) rfl ?_
   intro v50 w51 h52 c53 hf54 ha55
   have ah0 := slRep.st k_Tie_pos ah0 c53 ha55
   have c21 := c21.then c53 (fun i hi h => absurd ((fun b hb => (h8.lt b hb).1) i h) (Nat.not_le_of_lt hi))
   refine rl_assign rfl rfl ?_
   refine RL.nil ?_
   refine inB_n ?_
   refine thn_n (CW.region ?_)
   refine rl_inc rfl hat12.lt ah0.big rfl ?_
   refine rl_move rfl rfl ?_
   refine RL.nil (thn_n ?_)
   have ad59 : ∀ b, b < w51.heap.size → ¬ (un (inBlk (PV p32)) (un (inBlk v50) nb)) b → ¬ nb b ∧ ¬ (un (inBlk v50) nb) b := fun b _ hs => ⟨fun x => x, fun h => hs (un_el h (fun h => (.inr (.inl h))) (fun h => False.elim h))⟩
   have crf : Ch nb w51 w51 := Ch.refl
   have ah0 := slRep.st k_Tie_pos ah0 crf ad59
   have h52 := h52.st crf (fun _ _ x => x) ad59 (fun b h => (.inl h))
   have c21 := c21.then0 crf
   have hLn := runAO_next hL11 hq14 hb15
   exact ⟨rest25.length, Nat.lt_succ_self _, [(7, av0), (8, (Value.int .i64 ((a0.length : Nat) : Int))), (3, v50), (9, (Value.int .i64 ((i10 + 1 : Nat) : Int)))], ⟨rfl, rfl, rfl, rfl, trivial⟩, ⟨rest25, i10 + 1, x6 ++ [x18], v50, rfl, rfl, c21, hat12.next, hLn, ah0, h52⟩⟩
  obtain rfl := hat12.nil q24
  have hLf : x6 = o16 := runAO_done hL11
  refine CW.exit (thn_exit (thn_exit (inB_hit ?_)))
  exact ⟨x6, v7, ⟨rfl, trivial⟩, c21, hLf, ah0, h8⟩
 rintro _ w61 ⟨x6, v7, hE62, c60, f63, ah0, h8⟩
 subst f63
 refine thn_n (CW.sub [(3, v7)] hE62 ?_)
 refine CW.seq (CW.region ?_)
 refine rl_move rfl rfl ?_
 refine rl_assign rfl rfl ?_
 refine RL.nil (thn_n (CW.ret ?_))
 obtain rfl := Option.some.inj hS
 exact ret1 rfl ⟨v7, rfl, h8.out, c60⟩
/-- lb/lbref31.Same -/
theorem ctr13 (F : Nat → Prop) (w : World) (a0 : (List Tie)) (av0 : Value) (ah0 : slRep k_Tie F w a0 av0) (a1 : (List Tie)) (av1 : Value) (ah1 : slRep k_Tie F w a1 av1) (r : Bool) (hs : F13_Same a0 a1 = some r) :
    Ret Try.prog 13 #[av0, av1] w fun v w' => v = (Value.bool r) ∧ Ch nb w w' := by
 have hS := hs
 have c0 : Ch nb w w := Ch.refl
 have ah0 := slRep.enter k_Tie_pos ah0
 have ah1 := slRep.enter k_Tie_pos ah1
 refine Ret.of (n := 26) (args := [_, _]) (rs := [.tmp 4]) Try.func13 rfl rfl rfl rfl ?_
 refine CW.seq (CW.region ?_)
 refine rl_assign rfl rfl ?_
 refine RL.nil (thn_n (CW.seq ?_))
 refine CW.seq (CW.region ?_)
 refine rl_move rfl rfl ?_
 refine rl_lenR rfl ah0 Try.underlying46 rfl ?_
 refine rl_move rfl rfl ?_
 refine rl_lenR rfl ah1 Try.underlying46 rfl ?_
 refine rl_bin rfl rfl B.neq rfl ?_
 refine RL.nil (thn_n ?_)
 refine CW.cond (t := !decide (((a0.length : Nat) : Int) = ((a1.length : Nat) : Int))) rfl (fun q1 => ?_) (fun q1 => ?_)
 ·
  have hS := ifT q1 hS
  refine CW.seq (CW.region ?_)
  refine rl_assign rfl rfl ?_
  refine RL.nil (thn_n (CW.ret ?_))
  refine thn_ret ?_
  obtain rfl := Option.some.inj hS
  exact ret1 rfl ⟨rfl, c0⟩
 have hS := ifF q1 hS
 refine CW.skip ?_
 refine thn_n (CW.seq ?_)
 refine CW.seq (CW.region ?_)
 refine rl_move rfl rfl ?_
 refine rl_lenR rfl ah0 Try.underlying46 rfl ?_
 refine rl_move rfl rfl ?_
 refine RL.nil (thn_n ?_)
 obtain ⟨o9, ho10, hS⟩ := bindS hS
 refine CW.cutB (fun E' w' => ∃ (ix16 : Nat), Sub [] E' ∧ Ch nb w w' ∧ Lp.fin ix16 = o9 ∧ slRep k_Tie (G F w.heap.size nb) w' a0 av0 ∧ slRep k_Tie (G F w.heap.size nb) w' a1 av1) ?_ ?_
 ·
  refine CW.loopS [(0, av0), (1, av1), (12, (Value.int .i64 ((a0.length : Nat) : Int))), (13, (Value.int .i64 ((0 : Nat) : Int)))] ⟨rfl, rfl, rfl, rfl, trivial⟩ a0.length (fun m E w' => ∃ (rest2 : List Tie) (i3 : Nat) , m = rest2.length ∧ E = [(0, av0), (1, av1), (12, (Value.int .i64 ((a0.length : Nat) : Int))), (13, (Value.int .i64 ((i3 : Nat) : Int)))] ∧ Ch nb w w' ∧ At a0 i3 rest2 ∧ runBO (F13_Same_b1 a1) rest2 i3 = some o9 ∧ slRep k_Tie (G F w.heap.size nb) w' a0 av0 ∧ slRep k_Tie (G F w.heap.size nb) w' a1 av1)
      ⟨a0, 0, rfl, rfl, c0, At.start, ho10, ah0, ah1⟩ ?_
  rintro _ _ w15 ⟨rest2, i3, rfl, rfl, c14, hat5, hL4, ah0, ah1⟩
  refine CW.seq (CW.region ?_)
  refine rl_bin rfl rfl B.lss rfl ?_
  refine RL.nil (thn_n ?_)
  refine CW.seq ?_
  refine CW.cond (t := decide (((i3 : Nat) : Int) < ((a0.length : Nat) : Int))) rfl (fun q17 => ?_) (fun q17 => ?_)
  ·
   obtain ⟨x11, rest18, rfl⟩ := hat5.cons q17
   obtain ⟨q6, hq7⟩ := runBO_some hL4
   have hb8 := hq7
   refine CW.skip (thn_n ?_)
   refine CW.seq ?_
   refine CW.block ?_
   refine CW.seq (CW.region ?_)
   refine rl_move rfl rfl ?_
   refine rl_assign rfl rfl ?_
   refine RL.nil (thn_n (CW.seq ?_))
   obtain ⟨y31, hy32, hb8⟩ := bindS hb8
   refine CW.draw 8 [(none, fun fx O uu wx => uu = av0), (none, fun fx O uu wx => uu = (Value.int .i64 ((i3 : Nat) : Int))), (none, fun fx O uu wx => ∃ (p19 : Nat) (o20 : Nat), uu = (Value.pointer (some ⟨p19, o20, none⟩)) ∧ (G F w.heap.size nb) p19 ∧ Seg wx p19 o20 (Tie.enc x11)), (none, fun fx O uu wx => uu = (Value.agg (Tie.enc x11).toArray)), (none, fun fx O uu wx => uu = av1), (none, fun fx O uu wx => uu = (Value.int .i64 ((i3 : Nat) : Int))), (none, fun fx O uu wx => ∃ (p25 : Nat) (o26 : Nat), uu = (Value.pointer (some ⟨p25, o26, none⟩)) ∧ (G F w.heap.size nb) p25 ∧ Seg wx p25 o26 (Tie.enc y31)), (none, fun fx O uu wx => uu = (Value.agg (Tie.enc y31).toArray))] [[], [], [0, 1], [2], [], [], [4, 5], [6]] [3, 7] nb (fun _ h => h.elim) mixed rfl rfl rfl rfl ?_ ?_
   ·
    refine Each.consS (fun fl O wk hE hN hO ck => ?_) ?_
    ·
     refine rl_move rfl rfl ?_
     exact RL.nil ⟨_, rfl, Ch.refl, rfl⟩
    refine Each.consS (fun fl O wk hE hN hO ck => ?_) ?_
    ·
     refine rl_move rfl rfl ?_
     exact RL.nil ⟨_, rfl, Ch.refl, rfl⟩
    refine Each.consA ⟨fun _ _ _ _ _ cc hh => by obtain ⟨p19, o20, e, hg24, hs23⟩ := hh; exact ⟨p19, o20, e, hg24, hs23.ch0 cc⟩, fun h => absurd rfl h, fun fl O wk hE hN hO ck => ?_⟩ ?_
    ·
     have ah0 := slRep.ch k_Tie_pos ah0 ck
     refine Need.o1 rfl rfl rfl (fun _ h => h) ?_
     refine Need.o1 rfl rfl rfl (fun _ h => h) ?_
     refine rl_ixR rfl ah0 rfl hat5.get Try.underlying46 Try.sizeOf37 rfl ?_
     intro p35 o36 cs37 hr38 hs39 hg40
     obtain rfl := hr38
     exact RL.nil ⟨_, rfl, Ch.refl, ⟨p35, o36, rfl, hg40, hs39⟩⟩
    refine Each.consS (fun fl O wk hE hN hO ck => ?_) ?_
    ·
     refine Need.one rfl rfl rfl ?_
     rintro _ ⟨p19, o20, e41, hg24, hs23⟩
     obtain rfl := e41.symm
     refine rl_loadA (cs := (Tie.enc x11)) rfl Try.isAgg37 Try.sizeOf37 (hs23) rfl rfl ?_
     exact RL.nil ⟨_, rfl, Ch.refl, rfl⟩
    refine Each.consS (fun fl O wk hE hN hO ck => ?_) ?_
    ·
     refine rl_move rfl rfl ?_
     exact RL.nil ⟨_, rfl, Ch.refl, rfl⟩
    refine Each.consS (fun fl O wk hE hN hO ck => ?_) ?_
    ·
     refine rl_move rfl rfl ?_
     exact RL.nil ⟨_, rfl, Ch.refl, rfl⟩
    refine Each.consA ⟨fun _ _ _ _ _ cc hh => by obtain ⟨p25, o26, e, hg30, hs29⟩ := hh; exact ⟨p25, o26, e, hg30, hs29.ch0 cc⟩, fun h => absurd rfl h, fun fl O wk hE hN hO ck => ?_⟩ ?_
    ·
     have ah1 := slRep.ch k_Tie_pos ah1 ck
     refine Need.o1 rfl rfl rfl (fun _ h => h) ?_
     refine Need.o1 rfl rfl rfl (fun _ h => h) ?_
     refine rl_ixR rfl ah1 rfl (ixO_nat hy32) Try.underlying46 Try.sizeOf37 rfl ?_
     intro p44 o45 cs46 hr47 hs48 hg49
     obtain rfl := hr47
     exact RL.nil ⟨_, rfl, Ch.refl, ⟨p44, o45, rfl, hg49, hs48⟩⟩
    refine Each.consS (fun fl O wk hE hN hO ck => ?_) ?_
    ·
     refine Need.one rfl rfl rfl ?_
     rintro _ ⟨p25, o26, e50, hg30, hs29⟩
     obtain rfl := e50.symm
     refine rl_loadA (cs := (Tie.enc y31)) rfl Try.isAgg37 Try.sizeOf37 (hs29) rfl rfl ?_
     exact RL.nil ⟨_, rfl, Ch.refl, rfl⟩
    trivial
   intro hvO53 OpO53 O53 w51 hO54 c52 hN55
   have ah0 := slRep.ch k_Tie_pos ah0 c52
   have ah1 := slRep.ch k_Tie_pos ah1 c52
   have c14 := c14.then0 c52
   refine Need.o1 rfl rfl rfl (fun _ h => h) ?_
   refine Need.o1 rfl rfl rfl (fun _ h => h) ?_
   refine rl_bin rfl rfl (neq37 x11 y31) rfl ?_
   refine RL.nil (thn_n ?_)
   refine CW.cond (t := !decide (x11 = y31)) rfl (fun q58 => ?_) (fun q58 => ?_)
   ·
    have hb8 := ifT q58 hb8
    refine CW.seq (CW.region ?_)
    refine rl_assign rfl rfl ?_
    refine RL.nil (thn_n (CW.ret ?_))
    refine inB_ret ?_
    refine thn_ret ?_
    refine thn_ret (inB_ret (thn_ret ?_))
    refine thn_ret ?_
    have f59 := runBO_ret hL4 hq7 hb8
    have hS := retS f59 hS
    obtain rfl := Option.some.inj hS
    exact ret1 rfl ⟨rfl, c14⟩
   have hb8 := ifF q58 hb8
   refine CW.skip ?_
   refine inB_n ?_
   refine thn_n (CW.region ?_)
   refine rl_inc rfl hat5.lt ah0.big rfl ?_
   refine rl_move rfl rfl ?_
   refine RL.nil (thn_n ?_)
   have hLn := runBO_next hL4 hq7 hb8
   exact ⟨rest18.length, Nat.lt_succ_self _, [(0, av0), (1, av1), (12, (Value.int .i64 ((a0.length : Nat) : Int))), (13, (Value.int .i64 ((i3 + 1 : Nat) : Int)))], ⟨rfl, rfl, rfl, rfl, trivial⟩, ⟨rest18, i3 + 1, rfl, rfl, c14, hat5.next, hLn, ah0, ah1⟩⟩
  obtain rfl := hat5.nil q17
  have hLf : Lp.fin i3 = o9 := runBO_done hL4
  refine CW.exit (thn_exit (thn_exit (inB_hit ?_)))
  exact ⟨i3, trivial, c14, hLf, ah0, ah1⟩
 rintro _ w61 ⟨ix16, hE62, c60, f63, ah0, ah1⟩
 have hS := finS f63 hS
 refine thn_n (CW.sub [] hE62 ?_)
 refine CW.seq (CW.region ?_)
 refine rl_assign rfl rfl ?_
 refine RL.nil (thn_n (CW.ret ?_))
 obtain rfl := Option.some.inj hS
 exact ret1 rfl ⟨rfl, c60⟩
/-- (*lb/lbref31.Ties).Get -/
theorem ctr18 (F : Nat → Prop) (w : World) (Bb : Nat) (S2 : Nat → Prop) (hB : Bb ≤ w.heap.size) (h2 : ∀ b, S2 b → b < w.heap.size) (po0 : Nat) (az0_0 : Value) (hd2 : ∀ b, (un (inBlk (PV po0)) (inBlk az0_0)) b → ¬ S2 b) (hx0_1 : ∀ b, inBlk (PV po0) b → ¬ inBlk az0_0 b) (a0 : Ties_2) (ah0 : Blk w po0 48 (Ties_2.c a0 az0_0)) (ah0_0 : SlO k_Tie 37 F Bb (un (inBlk (PV po0)) (un (inBlk az0_0) S2)) w a0.all az0_0) (a1 : Tie) (a2 : Int) (a3 : Int) (r : (Point × Bool)) (hs : F18_Get a0 a1 a2 a3 = some r) :
    Ret Try.prog 18 #[(PV po0), (Value.agg (Tie.enc a1).toArray), (Value.int .i64 a2), (Value.int .i64 a3)] w fun v w' => v = Value.tuple #[(Value.agg (Point.enc r.1).toArray), (Value.bool r.2)] ∧ Ch nb w w' := by
 have hS := hs
 have c0 : Ch nb w w := Ch.refl
 have lin0_0 : ∀ b, inBlk (PV po0) b → (un (inBlk (PV po0)) (inBlk az0_0)) b ∨ w.heap.size ≤ b := fun b h => .inl (.inl h)
 have lin1_0 : ∀ b, inBlk az0_0 b → (un (inBlk (PV po0)) (inBlk az0_0)) b ∨ w.heap.size ≤ b := fun b h => .inl (.inr h)
 refine Ret.of (n := 38) (args := [_, _, _, _]) (rs := [.cell 8 28, .tmp 9]) Try.func18 rfl rfl rfl rfl ?_
 refine CW.seq (CW.region ?_)
 refine rl_boxA (cs := (Tie.enc a1)) rfl rfl ?_
 intro p1 w2 n3 k4
 have ah0 := ah0.ch0 n3.ch
 have ah0_0 := ah0_0.ch0 n3.ch
 have c0 := c0.then0 n3.ch
 refine rl_alloc (Point.enc Point.z) Try.zeroValue28 rfl rfl ?_
 intro p5 w6 n7 k8
 have lo9 : ∀ b, inBlk (PV p5) b → w.heap.size ≤ b := fun b h => Nat.le_trans c0.size (n7.fresh b h)
 have d10 : ∀ b, inBlk (PV p5) b → ¬ inBlk (PV po0) b := disNew n7.fresh ah0.ltp
 have d11 : ∀ b, inBlk (PV p5) b → ¬ inBlk az0_0 b := disNew n7.fresh (fun b hb => (ah0_0.lt b hb).2)
 have ah0 := ah0.ch0 n7.ch
 have ah0_0 := ah0_0.st n7.ch (fun _ _ x => x) (admNew n7.fresh (fun _ x => x)) (fun b h => (.inr (.inr (.inl h))))
 have k4 := k4.ch0 n7.ch
 have c0 := c0.then0 n7.ch
 refine rl_assign rfl rfl ?_
 refine RL.nil (thn_n (CW.seq (CW.region ?_)))
 refine rl_move rfl rfl ?_
 refine rl_loadA (cs := (Tie.enc a1)) rfl Try.isAgg37 Try.sizeOf37 (k4.segAt 0 40) rfl rfl ?_
 have hd12 : ∀ b, (un (inBlk (PV po0)) (inBlk az0_0)) b → ¬ (un (inBlk (PV p5)) S2) b := fun b h => un_el h (fun h => (fun b hb => fun h => un_el h (fun h => (disSym d10) b hb h) (linNot lin0_0 hd2 h2 b hb)) b h) (fun h => (fun b hb => fun h => un_el h (fun h => (disSym d11) b hb h) (linNot lin1_0 hd2 h2 b hb)) b h)
 have hS13 : (un (inBlk (PV p5)) (un (inBlk (PV po0)) (un (inBlk az0_0) S2))) = (un (inBlk (PV po0)) (un (inBlk az0_0) (un (inBlk (PV p5)) S2))) := funext fun b => propext ⟨fun h => un_el h (fun h => (.inr (.inr (.inl h)))) (fun h => un_el h (fun h => (.inl h)) (fun h => un_el h (fun h => (.inr (.inl h))) (fun h => (.inr (.inr (.inr h)))))), fun h => un_el h (fun h => (.inr (.inl h))) (fun h => un_el h (fun h => (.inr (.inr (.inl h)))) (fun h => un_el h (fun h => (.inl h)) (fun h => (.inr (.inr (.inr h))))))⟩
 obtain ⟨y16, hy17⟩ : ∃ y, F36_find a0 a1 = y := ⟨_, rfl⟩
 have hS := ltS hy17 hS
 refine rl_callF rfl en36 rfl (ctr36 F w6 Bb (un (inBlk (PV p5)) S2) (Nat.le_trans hB c0.size) (un_lt k8.ltp (fun b h => Nat.lt_of_lt_of_le (h2 b h) c0.size)) po0 az0_0 hd12 hx0_1 a0 ah0 (hS13 ▸ ah0_0) a1 y16 hy17) ?_
 rintro _ w14 ⟨rfl, c15⟩
 have ah0 := ah0.ch0 c15
 have ah0_0 := ah0_0.ch0 c15
 have k8 := k8.ch0 c15
 have c0 := c0.then0 c15
 refine rl_assign rfl rfl ?_
 refine RL.nil (thn_n (CW.seq ?_))
 refine CW.seq (CW.region ?_)
 refine rl_move rfl rfl ?_
 refine rl_bin rfl rfl B.lss rfl ?_
 refine rl_move rfl rfl ?_
 obtain ⟨b20, hb21, hS⟩ := bindS hS
 refine RL.join 12 28 (.bool b20) (fun w' => Ch nb w14 w') ?_ ?_
 · rcases Bool.eq_false_or_eq_true (decide (y16 < 0)) with hg19 | hg19
   ·
    have hs18 := orO_t hg19 hb21
    have cs : Ch nb w14 w14 := Ch.refl
    refine RL.no rfl rfl rfl hg19 rfl rfl ?_
    refine RL.no rfl rfl rfl hg19 rfl rfl ?_
    refine RL.no rfl rfl rfl hg19 rfl rfl ?_
    refine RL.no rfl rfl rfl hg19 rfl rfl ?_
    refine RL.no rfl rfl rfl hg19 rfl rfl ?_
    refine RL.no rfl rfl rfl hg19 rfl rfl ?_
    refine RL.no rfl rfl rfl hg19 rfl rfl ?_
    refine RL.no rfl rfl rfl hg19 rfl rfl ?_
    refine RL.no rfl rfl rfl hg19 rfl rfl ?_
    refine RL.no rfl rfl rfl hg19 rfl rfl ?_
    refine RL.no rfl rfl rfl hg19 rfl rfl ?_
    refine rl_pickT rfl hg19 rfl rfl ?_
    exact RL.nil ⟨Ext.bothEq (congrArg Value.bool (Option.some.inj hs18)) (Ext.skip rfl (Ext.skip rfl (Ext.skip rfl (Ext.skip rfl (Ext.skip rfl (Ext.skip rfl (Ext.skip rfl (Ext.skip rfl (Ext.skip rfl (Ext.skip rfl (Ext.skip rfl (Ext.rfl')))))))))))), cs⟩
   ·
    have hs18 := orO_f hg19 hb21
    have cs : Ch nb w14 w14 := Ch.refl
    refine RL.yes rfl rfl rfl hg19 ?_
    refine rl_move rfl rfl ?_
    refine RL.yes rfl rfl rfl hg19 ?_
    refine rl_nilCheck rfl rfl ?_
    refine RL.yes rfl rfl rfl hg19 ?_
    refine rl_fieldAddr rfl fa48_0 rfl ?_
    refine RL.yes rfl rfl rfl hg19 ?_
    refine rl_loadS (v := az0_0) rfl Try.isAgg46 (ah0.cell rfl) rfl ?_
    refine RL.yes rfl rfl rfl hg19 ?_
    refine rl_move rfl rfl ?_
    refine RL.yes rfl rfl rfl hg19 ?_
    obtain ⟨y29, hy30, hs18⟩ := bindS hs18
    refine rl_ixOR rfl ah0_0 rfl (ixO_get hy30) k_Tie_pos Try.underlying46 Try.sizeOf37 rfl ?_
    intro p23 o24 cs25 hr26 hs27 hg28
    obtain rfl := hr26
    refine RL.yes rfl rfl rfl hg19 ?_
    refine rl_loadA (cs := (Tie.enc y29)) rfl Try.isAgg37 Try.sizeOf37 (hs27) rfl rfl ?_
    refine RL.yes rfl rfl rfl hg19 ?_
    refine rl_move rfl rfl ?_
    refine RL.yes rfl rfl rfl hg19 ?_
    refine rl_move rfl rfl ?_
    refine RL.yes rfl rfl rfl hg19 ?_
    obtain ⟨y33, hy34⟩ : ∃ y, F8_Fresh y29 a2 a3 = y := ⟨_, rfl⟩
    have hs18 := ltS hy34 hs18
    refine rl_callF rfl en8 rfl (ctr8 (G F Bb (un (inBlk (PV p5)) (un (inBlk (PV po0)) (un (inBlk az0_0) S2)))) w14 y29 a2 a3 y33 hy34) ?_
    rintro _ w31 ⟨rfl, c32⟩
    refine RL.yes rfl rfl rfl hg19 ?_
    refine rl_not rfl rfl ?_
    refine rl_pickF rfl hg19 rfl rfl ?_
    have cs := cs.then0 c32
    exact RL.nil ⟨Ext.bothEq (congrArg Value.bool (Option.some.inj hs18)) (Ext.skip rfl (Ext.skip rfl (Ext.skip rfl (Ext.skip rfl (Ext.skip rfl (Ext.skip rfl (Ext.skip rfl (Ext.skip rfl (Ext.skip rfl (Ext.skip rfl (Ext.skip rfl (Ext.rfl')))))))))))), cs⟩
 intro w22 c35
 have ah0 := ah0.ch0 c35
 have ah0_0 := ah0_0.ch0 c35
 have k8 := k8.ch0 c35
 have c0 := c0.then0 c35
 refine RL.nil (thn_n ?_)
 refine CW.cond (t := b20) rfl (fun q36 => ?_) (fun q36 => ?_)
 ·
  have hS := ifT q36 hS
  refine CW.seq (CW.region ?_)
  refine rl_build (out := (Point.enc ({ addr := Addr.z, port := 0 } : Point))) rfl pl28 Try.zeroValue28 rfl rfl rfl ?_
  refine rl_storeA (vs := (Point.enc ({ addr := Addr.z, port := 0 } : Point))) rfl rfl (all_one rfl) Try.sizeOf28 rfl k8 rfl ?_
  intro w37 s39 c38 k40
  have c0 := c0.then c38 (fun i hi h => absurd (lo9 i h) (Nat.not_le_of_lt hi))
  refine rl_assign rfl rfl ?_
  refine RL.nil (thn_n (CW.ret ?_))
  refine thn_ret ?_
  obtain rfl := Option.some.inj hS
  exact ⟨[_, _], ⟨Res1.agg (cs := (Point.enc ({ addr := Addr.z, port := 0 } : Point))) rfl Try.isAgg28 Try.sizeOf28 (k40.segAt 0 18) rfl, rfl, trivial⟩, ⟨rfl, c0⟩⟩
 have hS := ifF q36 hS
 refine CW.skip ?_
 refine thn_n (CW.seq (CW.region ?_))
 refine rl_move rfl rfl ?_
 refine rl_nilCheck rfl rfl ?_
 refine rl_fieldAddr rfl fa48_0 rfl ?_
 refine rl_loadS (v := az0_0) rfl Try.isAgg46 (ah0.cell rfl) rfl ?_
 refine rl_move rfl rfl ?_
 obtain ⟨y48, hy49, hS⟩ := bindS hS
 refine rl_ixOR rfl ah0_0 rfl (ixO_get hy49) k_Tie_pos Try.underlying46 Try.sizeOf37 rfl ?_
 intro p42 o43 cs44 hr45 hs46 hg47
 obtain rfl := hr45
 refine rl_fieldAddr rfl fa37_4 rfl ?_
 refine rl_loadA (cs := (Point.enc y48.backend)) rfl Try.isAgg28 Try.sizeOf28 (hs46.sub 21 18) rfl rfl ?_
 refine rl_storeA (vs := (Point.enc y48.backend)) rfl rfl (all_one rfl) Try.sizeOf28 rfl k8 rfl ?_
 intro w50 s52 c51 k53
 have c0 := c0.then c51 (fun i hi h => absurd (lo9 i h) (Nat.not_le_of_lt hi))
 refine rl_assign rfl rfl ?_
 refine RL.nil (thn_n (CW.ret ?_))
 obtain rfl := Option.some.inj hS
 exact ⟨[_, _], ⟨Res1.agg (cs := (Point.enc y48.backend)) rfl Try.isAgg28 Try.sizeOf28 (k53.segAt 0 18) rfl, rfl, trivial⟩, ⟨rfl, c0⟩⟩
/-- lb/lblaw31.TiesPlay -/
theorem ctr4 (F : Nat → Prop) (w : World) (a0 : (List Act)) (av0 : Value) (ah0 : slRep k_Act F w a0 av0) (r : Bool) (hs : F4_TiesPlay a0 = some r) :
    Ret Try.prog 4 #[av0] w fun v w' => v = (Value.bool r) ∧ Ch nb w w' := by
 have hS := hs
 have c0 : Ch nb w w := Ch.refl
 have ah0 := slRep.enter k_Act_pos ah0
 refine Ret.of (n := 81) (args := [_]) (rs := [.tmp 2]) Try.func4 rfl rfl rfl rfl ?_
 refine CW.seq (CW.region ?_)
 refine rl_assign rfl rfl ?_
 refine RL.nil (thn_n (CW.seq ?_))
 refine CW.seq (CW.region ?_)
 obtain ⟨y3, hy4, hS⟩ := bindS hS
 refine rl_callF rfl en5 rfl (ctr5 (G F w.heap.size nb) w  y3 hy4) ?_
 rintro _ w1 ⟨rfl, c2⟩
 have ah0 := slRep.ch k_Act_pos ah0 c2
 have c0 := c0.then0 c2
 refine rl_not rfl rfl ?_
 refine RL.nil (thn_n ?_)
 refine CW.cond (t := !y3) rfl (fun q5 => ?_) (fun q5 => ?_)
 ·
  have hS := ifT q5 hS
  refine CW.seq (CW.region ?_)
  refine rl_assign rfl rfl ?_
  refine RL.nil (thn_n (CW.ret ?_))
  refine thn_ret ?_
  obtain rfl := Option.some.inj hS
  exact ret1 rfl ⟨rfl, c0⟩
 have hS := ifF q5 hS
 refine CW.skip ?_
 refine thn_n (CW.seq ?_)
 refine CW.seq (CW.region ?_)
 refine rl_move rfl rfl ?_
 obtain ⟨y8, hy9⟩ : ∃ y, F6_Long a0 = y := ⟨_, rfl⟩
 have hS := ltS hy9 hS
 refine rl_callF rfl en6 rfl (ctr6 (G F w.heap.size nb) w1 a0 av0 ah0 y8 hy9) ?_
 rintro _ w6 ⟨rfl, c7⟩
 have ah0 := slRep.ch k_Act_pos ah0 c7
 have c0 := c0.then0 c7
 refine RL.nil (thn_n ?_)
 refine CW.cond (t := y8) rfl (fun q10 => ?_) (fun q10 => ?_)
 ·
  have hS := ifT q10 hS
  refine CW.seq (CW.region ?_)
  refine rl_assign rfl rfl ?_
  refine RL.nil (thn_n (CW.ret ?_))
  refine thn_ret ?_
  obtain rfl := Option.some.inj hS
  exact ret1 rfl ⟨rfl, c0⟩
 have hS := ifF q10 hS
 refine CW.skip ?_
 refine thn_n (CW.seq (CW.region ?_))
 obtain ⟨y13, hy14⟩ : ∃ y, F11_New = y := ⟨_, rfl⟩
 have hS := ltS hy14 hS
 refine rl_callF rfl en11 rfl (ctr11 (G F w.heap.size nb) w6  y13 hy14) ?_
 rintro _ w11 ⟨p15, z18, rfl, h16, h17, hf19, hf20, d21, c12⟩
 have lo22 : ∀ b, inBlk (PV p15) b → w.heap.size ≤ b := fun b h => Nat.le_trans c0.size (hf19 b h)
 have lo23 : ∀ b, inBlk z18 b → w.heap.size ≤ b := fun b h => Nat.le_trans c0.size (hf20 b h)
 have ah0 := slRep.st k_Act_pos ah0 c12 (show ∀ b, b < w6.heap.size → ¬ nb b → ¬ nb b ∧ ¬ (un (inBlk (PV p15)) (un (inBlk z18) nb)) b from fun b hb hs => ⟨fun x => x, fun h => un_el h (fun h => Nat.not_le_of_lt hb (hf19 b h)) (fun h => un_el h (fun h => Nat.not_le_of_lt hb (hf20 b h)) (fun h => hs h))⟩)
 have c0 := c0.then0 c12
 refine rl_build (out := (Ties_2.c ({ all := [] } : Ties_2) (Value.slice none 0 0))) rfl pl48 Try.zeroValue48 rfl rfl rfl ?_
 refine rl_boxA (cs := (Ties_2.c ({ all := [] } : Ties_2) (Value.slice none 0 0))) rfl rfl ?_
 intro p24 w25 n26 k27
 have lo28 : ∀ b, inBlk (PV p24) b → w.heap.size ≤ b := fun b h => Nat.le_trans c0.size (n26.fresh b h)
 have d29 : ∀ b, inBlk (PV p24) b → ¬ inBlk (PV p15) b := disNew n26.fresh h16.ltp
 have d30 : ∀ b, inBlk (PV p24) b → ¬ inBlk z18 b := disNew n26.fresh h17.ltp
 have ah0 := slRep.st k_Act_pos ah0 n26.ch (admNew n26.fresh (fun _ x => x))
 have h16 := h16.ch0 n26.ch
 have h17 := h17.ch0 n26.ch
 have c0 := c0.then0 n26.ch
 refine rl_assign rfl rfl ?_
 refine rl_assign rfl rfl ?_
 refine RL.nil (thn_n (CW.seq ?_))
 refine CW.seq (CW.region ?_)
 refine rl_move rfl rfl ?_
 refine rl_lenR rfl ah0 Try.underlying36 rfl ?_
 refine rl_move rfl rfl ?_
 refine RL.nil (thn_n ?_)
 have d32 : ∀ b, inBlk (Value.slice none 0 0) b → ¬ inBlk (PV p24) b := fun _ h => h.elim
 have d33 : ∀ b, inBlk (Value.slice none 0 0) b → ¬ inBlk (PV p15) b := fun _ h => h.elim
 have d34 : ∀ b, inBlk (Value.slice none 0 0) b → ¬ inBlk z18 b := fun _ h => h.elim
 have crf : Ch nb w25 w25 := Ch.refl
 have ah0 := slRep.st k_Act_pos ah0 crf admNil
 have h16 := h16.ch0 crf
 have h17 := h17.ch0 crf
 have k27 := k27.ch0 crf
 have c0 := c0.then0 crf
 have h31 : SlO k_Tie 37 F w.heap.size (un (inBlk (Value.slice none 0 0)) (un (inBlk (PV p24)) (un (inBlk (PV p15)) (un (inBlk z18) nb)))) w25 ([] : List Tie) (.slice none 0 0) := SlO.nil
 obtain ⟨o57, ho58, hS⟩ := bindS hS
 refine CW.cutB (fun E' w' => ∃ (x35 : Ties) (v36 : Value) (x38 : Ties_2) (v39 : Value), Sub [] E' ∧ Ch nb w w' ∧ Lp.fin (x35, x38) = o57 ∧ slRep k_Act (G F w.heap.size (un (inBlk v39) (un (inBlk (PV p24)) (un (inBlk (PV p15)) (un (inBlk v36) nb))))) w' a0 av0 ∧ Mp (fun x => Value.agg (Place.enc x).toArray) (fun x => Value.agg (Tie.enc x).toArray) w' x35.all v36 ∧ SlO k_Tie 37 F w.heap.size (un (inBlk v39) (un (inBlk (PV p24)) (un (inBlk (PV p15)) (un (inBlk v36) nb)))) w' x38.all v39 ∧ Blk w' p15 69 (Ties.c x35 v36) ∧ Blk w' p24 48 (Ties_2.c x38 v39) ∧ (∀ b, inBlk v39 b → ¬ inBlk (PV p24) b) ∧ (∀ b, inBlk v39 b → ¬ inBlk (PV p15) b) ∧ (∀ b, inBlk v39 b → ¬ inBlk v36 b) ∧ (∀ b, inBlk (PV p24) b → ¬ inBlk (PV p15) b) ∧ (∀ b, inBlk (PV p24) b → ¬ inBlk v36 b) ∧ (∀ b, inBlk (PV p15) b → ¬ inBlk v36 b) ∧ (∀ b, inBlk v36 b → w.heap.size ≤ b)) ?_ ?_
 ·
  refine CW.loopS [(3, (PV p15)), (4, (PV p24)), (18, av0), (19, (Value.int .i64 ((a0.length : Nat) : Int))), (20, (Value.int .i64 ((0 : Nat) : Int)))] ⟨rfl, rfl, rfl, rfl, rfl, trivial⟩ a0.length (fun m E w' => ∃ (rest50 : List Act) (i51 : Nat) (x35 : Ties) (v36 : Value) (x38 : Ties_2) (v39 : Value), m = rest50.length ∧ E = [(3, (PV p15)), (4, (PV p24)), (18, av0), (19, (Value.int .i64 ((a0.length : Nat) : Int))), (20, (Value.int .i64 ((i51 : Nat) : Int)))] ∧ Ch nb w w' ∧ At a0 i51 rest50 ∧ runBO F4_TiesPlay_b1 rest50 (x35, x38) = some o57 ∧ slRep k_Act (G F w.heap.size (un (inBlk v39) (un (inBlk (PV p24)) (un (inBlk (PV p15)) (un (inBlk v36) nb))))) w' a0 av0 ∧ Mp (fun x => Value.agg (Place.enc x).toArray) (fun x => Value.agg (Tie.enc x).toArray) w' x35.all v36 ∧ SlO k_Tie 37 F w.heap.size (un (inBlk v39) (un (inBlk (PV p24)) (un (inBlk (PV p15)) (un (inBlk v36) nb)))) w' x38.all v39 ∧ Blk w' p15 69 (Ties.c x35 v36) ∧ Blk w' p24 48 (Ties_2.c x38 v39) ∧ (∀ b, inBlk v39 b → ¬ inBlk (PV p24) b) ∧ (∀ b, inBlk v39 b → ¬ inBlk (PV p15) b) ∧ (∀ b, inBlk v39 b → ¬ inBlk v36 b) ∧ (∀ b, inBlk (PV p24) b → ¬ inBlk (PV p15) b) ∧ (∀ b, inBlk (PV p24) b → ¬ inBlk v36 b) ∧ (∀ b, inBlk (PV p15) b → ¬ inBlk v36 b) ∧ (∀ b, inBlk v36 b → w.heap.size ≤ b))
      ⟨a0, 0, y13, z18, ({ all := [] } : Ties_2), (Value.slice none 0 0), rfl, rfl, c0, At.start, ho58, ah0, h17, h31, h16, k27, d32, d33, d34, d29, d30, d21, lo23⟩ ?_
  rintro _ _ w63 ⟨rest50, i51, x35, v36, x38, v39, rfl, rfl, c62, hat53, hL52, ah0, h37, h40, k41, k42, d44, d45, d46, d47, d48, d49, lo43⟩
  refine CW.seq (CW.region ?_)
  refine rl_bin rfl rfl B.lss rfl ?_
  refine RL.nil (thn_n ?_)
  refine CW.seq ?_
  refine CW.cond (t := decide (((i51 : Nat) : Int) < ((a0.length : Nat) : Int))) rfl (fun q65 => ?_) (fun q65 => ?_)
  ·
   obtain ⟨x59, rest66, rfl⟩ := hat53.cons q65
   obtain ⟨q54, hq55⟩ := runBO_some hL52
   have hb56 := hq55
   refine CW.skip (thn_n ?_)
   refine CW.seq ?_
   refine CW.block ?_
   refine CW.seq (CW.region ?_)
   refine rl_ixR rfl ah0 rfl hat53.get Try.underlying36 Try.sizeOf35 rfl ?_
   intro p67 o68 cs69 hr70 hs71 hg72
   obtain rfl := hr70
   refine rl_loadA (cs := (Act.enc x59)) rfl Try.isAgg35 Try.sizeOf35 (hs71) rfl rfl ?_
   refine rl_alloc (Act.enc Act.z) Try.zeroValue35 rfl rfl ?_
   intro p73 w74 n75 k76
   have lo77 : ∀ b, inBlk (PV p73) b → w.heap.size ≤ b := fun b h => Nat.le_trans c62.size (n75.fresh b h)
   have d78 : ∀ b, inBlk (PV p73) b → ¬ inBlk v39 b := disNew n75.fresh (fun b hb => (h40.lt b hb).2)
   have d79 : ∀ b, inBlk (PV p73) b → ¬ inBlk (PV p24) b := disNew n75.fresh k42.ltp
   have d80 : ∀ b, inBlk (PV p73) b → ¬ inBlk (PV p15) b := disNew n75.fresh k41.ltp
   have d81 : ∀ b, inBlk (PV p73) b → ¬ inBlk v36 b := disNew n75.fresh h37.ltp
   have ah0 := slRep.st k_Act_pos ah0 n75.ch (admNew n75.fresh (fun _ x => x))
   have h37 := h37.ch0 n75.ch
   have h40 := h40.st n75.ch (fun _ _ x => x) (admNew n75.fresh (fun _ x => x)) (fun b h => (.inr (.inl h)))
   have k41 := k41.ch0 n75.ch
   have k42 := k42.ch0 n75.ch
   have c62 := c62.then0 n75.ch
   refine rl_storeA (vs := (Act.enc x59)) rfl rfl (all_one rfl) Try.sizeOf35 rfl k76 rfl ?_
   intro w82 s84 c83 k85
   have ad86 : ∀ b, b < w74.heap.size → ¬ (un (inBlk (PV p73)) (un (inBlk v39) (un (inBlk (PV p24)) (un (inBlk (PV p15)) (un (inBlk v36) nb))))) b → ¬ (inBlk (PV p73)) b ∧ ¬ (un (inBlk (PV p73)) (un (inBlk v39) (un (inBlk (PV p24)) (un (inBlk (PV p15)) (un (inBlk v36) nb))))) b := fun b _ hs => ⟨fun h => hs (.inl h), hs⟩
   have ah0 := slRep.st k_Act_pos ah0 c83 ad86
   have h37 := h37.ch c83 ((fun b hb h => (disSym d81) b hb h))
   have h40 := h40.st c83 (fun b hb h => (disSym d78) b hb h) ad86 (fun b h => (.inr (.inl h)))
   have k41 := k41.ch c83 ((fun b hb h => (disSym d80) b hb h) _ rfl)
   have k42 := k42.ch c83 ((fun b hb h => (disSym d79) b hb h) _ rfl)
   have c62 := c62.then c83 (fun i hi h => absurd (lo77 i h) (Nat.not_le_of_lt hi))
   refine RL.nil (thn_n (CW.seq ?_))
   refine CW.seq ?_
   refine CW.drawD mixed ?_
   intro w87 c88
   have ah0 := slRep.ch k_Act_pos ah0 c88
   have h37 := h37.ch0 c88
   have h40 := h40.ch0 c88
   have k41 := k41.ch0 c88
   have k42 := k42.ch0 c88
   have k85 := k85.ch0 c88
   have c62 := c62.then0 c88
   refine DW.split 4 rfl rfl ?_
   obtain ⟨y93, hy94, hb56⟩ := bindS hb56
   refine DW.draw1 Ch.refl 3 [(none, fun fx O uu wx => uu = (PV p15)), (none, fun fx O uu wx => uu = (PV p24)), (none, fun fx O uu wx => uu = (Value.agg (Act.enc x59).toArray))] [[], [], []] [0, 1, 2] nb (fun _ h => h.elim) mixed rfl rfl rfl rfl ?_ ?_
   ·
    refine Each.consS (fun fl O wk hE hN hO ck => ?_) ?_
    ·
     refine rl_move rfl rfl ?_
     exact RL.nil ⟨_, rfl, Ch.refl, rfl⟩
    refine Each.consS (fun fl O wk hE hN hO ck => ?_) ?_
    ·
     refine rl_move rfl rfl ?_
     exact RL.nil ⟨_, rfl, Ch.refl, rfl⟩
    refine Each.consS (fun fl O wk hE hN hO ck => ?_) ?_
    ·
     have k85 := k85.ch0 ck
     refine rl_loadA (cs := (Act.enc x59)) rfl Try.isAgg35 Try.sizeOf35 (k85.segAt 0 43) rfl rfl ?_
     exact RL.nil ⟨_, rfl, Ch.refl, rfl⟩
    trivial
   intro hvO116 OpO116 O116 w114 hO117 c115 hN118
   have ah0 := slRep.ch k_Act_pos ah0 c115
   have h37 := h37.ch0 c115
   have h40 := h40.ch0 c115
   have k41 := k41.ch0 c115
   have k42 := k42.ch0 c115
   have k85 := k85.ch0 c115
   have c62 := c62.then0 c115
   refine Need.o1 rfl rfl rfl (fun _ h => h) ?_
   refine Need.o1 rfl rfl rfl (fun _ h => h) ?_
   refine Need.o1 rfl rfl rfl (fun _ h => h) ?_
   have hd122 : ∀ b, (un (inBlk (PV p15)) (un (inBlk v36) (un (inBlk (PV p24)) (inBlk v39)))) b → ¬ (un (inBlk (PV p73)) nb) b := fun b h => un_el h (fun h => (fun b hb => fun h => un_el h (fun h => (disSym d80) b hb h) (fun h => h)) b h) (fun h => un_el h (fun h => (fun b hb => fun h => un_el h (fun h => (disSym d81) b hb h) (fun h => h)) b h) (fun h => un_el h (fun h => (fun b hb => fun h => un_el h (fun h => (disSym d79) b hb h) (fun h => h)) b h) (fun h => (fun b hb => fun h => un_el h (fun h => (disSym d78) b hb h) (fun h => h)) b h)))
   have hS123 : (un (inBlk (PV p73)) (un (inBlk v39) (un (inBlk (PV p24)) (un (inBlk (PV p15)) (un (inBlk v36) nb))))) = (un (inBlk (PV p15)) (un (inBlk v36) (un (inBlk (PV p24)) (un (inBlk v39) (un (inBlk (PV p73)) nb))))) := funext fun b => propext ⟨fun h => un_el h (fun h => (.inr (.inr (.inr (.inr (.inl h)))))) (fun h => un_el h (fun h => (.inr (.inr (.inr (.inl h))))) (fun h => un_el h (fun h => (.inr (.inr (.inl h)))) (fun h => un_el h (fun h => (.inl h)) (fun h => un_el h (fun h => (.inr (.inl h))) (fun h => False.elim h))))), fun h => un_el h (fun h => (.inr (.inr (.inr (.inl h))))) (fun h => un_el h (fun h => (.inr (.inr (.inr (.inr (.inl h)))))) (fun h => un_el h (fun h => (.inr (.inr (.inl h)))) (fun h => un_el h (fun h => (.inr (.inl h))) (fun h => un_el h (fun h => (.inl h)) (fun h => False.elim h)))))⟩
   refine rl_callF rfl en12 rfl (ctr12 F w114 w.heap.size (un (inBlk (PV p73)) nb) c62.size (un_lt k85.ltp nbS) p15 v36 p24 v39 hd122 d49 (disSym d47) (disSym d45) (disSym d48) (disSym d46) (disSym d44) x35 k41 h37 x38 k42 (hS123 ▸ h40) x59 y93 hy94) ?_
   rintro _ w124 ⟨z126, z127, rfl, h128, h129, h130, h131, hf132, hf133, d134, d135, d136, d137, d138, c125⟩
   have lo139 : ∀ b, inBlk z126 b → w.heap.size ≤ b := fun b h => (hf132 b h).elim (fun h => un_el h (fun h => lo22 b h) (fun h => un_el h (fun h => lo43 b h) (fun h => un_el h (fun h => lo28 b h) (fun h => (fun b hb => (h40.lt b hb).1) b h)))) (Nat.le_trans c62.size)
   have d140 : ∀ b, inBlk z126 b → ¬ inBlk (PV p73) b := fun b h hu => (hf132 b h).elim (fun h => un_el h (fun h => (disSym d80) b h hu) (fun h => un_el h (fun h => (disSym d81) b h hu) (fun h => un_el h (fun h => (disSym d79) b h hu) (fun h => (disSym d78) b h hu)))) (fun h => Nat.not_le_of_lt (k85.ltp b hu) h)
   have d142 : ∀ b, inBlk z127 b → ¬ inBlk (PV p73) b := fun b h hu => (hf133 b h).elim (fun h => un_el h (fun h => (disSym d80) b h hu) (fun h => un_el h (fun h => (disSym d81) b h hu) (fun h => un_el h (fun h => (disSym d79) b h hu) (fun h => (disSym d78) b h hu)))) (fun h => Nat.not_le_of_lt (k85.ltp b hu) h)
   have hS143 : (un (inBlk (PV p73)) (un (inBlk z127) (un (inBlk (PV p24)) (un (inBlk (PV p15)) (un (inBlk z126) nb))))) = (un (inBlk (PV p15)) (un (inBlk z126) (un (inBlk (PV p24)) (un (inBlk z127) (un (inBlk (PV p73)) nb))))) := funext fun b => propext ⟨fun h => un_el h (fun h => (.inr (.inr (.inr (.inr (.inl h)))))) (fun h => un_el h (fun h => (.inr (.inr (.inr (.inl h))))) (fun h => un_el h (fun h => (.inr (.inr (.inl h)))) (fun h => un_el h (fun h => (.inl h)) (fun h => un_el h (fun h => (.inr (.inl h))) (fun h => False.elim h))))), fun h => un_el h (fun h => (.inr (.inr (.inr (.inl h))))) (fun h => un_el h (fun h => (.inr (.inr (.inr (.inr (.inl h)))))) (fun h => un_el h (fun h => (.inr (.inr (.inl h)))) (fun h => un_el h (fun h => (.inr (.inl h))) (fun h => un_el h (fun h => (.inl h)) (fun h => False.elim h)))))⟩
   rw [← hS143] at h131
   have ha144 : ∀ b, b < w114.heap.size → ¬ (un (inBlk (PV p73)) (un (inBlk v39) (un (inBlk (PV p24)) (un (inBlk (PV p15)) (un (inBlk v36) nb))))) b → ¬ (un (inBlk (PV p15)) (un (inBlk v36) (un (inBlk (PV p24)) (inBlk v39)))) b ∧ ¬ (un (inBlk (PV p73)) (un (inBlk z127) (un (inBlk (PV p24)) (un (inBlk (PV p15)) (un (inBlk z126) nb))))) b := fun b hb hs => ⟨fun h => un_el h (fun h => hs (.inr (.inr (.inr (.inl h))))) (fun h => un_el h (fun h => hs (.inr (.inr (.inr (.inr (.inl h)))))) (fun h => un_el h (fun h => hs (.inr (.inr (.inl h)))) (fun h => hs (.inr (.inl h))))), fun h => un_el h (fun h => hs (.inl h)) (fun h => un_el h (fun h => (hf133 b h).elim (fun h => un_el h (fun h => hs (.inr (.inr (.inr (.inl h))))) (fun h => un_el h (fun h => hs (.inr (.inr (.inr (.inr (.inl h)))))) (fun h => un_el h (fun h => hs (.inr (.inr (.inl h)))) (fun h => hs (.inr (.inl h)))))) (fun h => Nat.not_le_of_lt hb h)) (fun h => un_el h (fun h => hs (.inr (.inr (.inl h)))) (fun h => un_el h (fun h => hs (.inr (.inr (.inr (.inl h))))) (fun h => un_el h (fun h => (hf132 b h).elim (fun h => un_el h (fun h => hs (.inr (.inr (.inr (.inl h))))) (fun h => un_el h (fun h => hs (.inr (.inr (.inr (.inr (.inl h)))))) (fun h => un_el h (fun h => hs (.inr (.inr (.inl h)))) (fun h => hs (.inr (.inl h)))))) (fun h => Nat.not_le_of_lt hb h)) (fun h => False.elim h)))))⟩
   have ah0 := slRep.st k_Act_pos ah0 c125 ha144
   have k85 := k85.ch c125 ((fun b hb h => un_el h (fun h => d80 b hb h) (fun h => un_el h (fun h => d81 b hb h) (fun h => un_el h (fun h => d79 b hb h) (fun h => d78 b hb h)))) _ rfl)
   have c62 := c62.then c125 (fun i hi h => un_el h (fun h => absurd (lo22 i h) (Nat.not_le_of_lt hi)) (fun h => un_el h (fun h => absurd (lo43 i h) (Nat.not_le_of_lt hi)) (fun h => un_el h (fun h => absurd (lo28 i h) (Nat.not_le_of_lt hi)) (fun h => absurd ((fun b hb => (h40.lt b hb).1) i h) (Nat.not_le_of_lt hi)))))
   refine RL.nil ?_
   refine ⟨rfl, ?_⟩
   obtain ⟨b163, hb164, hb56⟩ := bindS hb56
   obtain ⟨b171, hb172⟩ : ∃ y, (b163 || (lt (F16_Len y93.2.1) fun y169 => !decide (y169 = ((y93.2.2.all.length : Nat) : Int)))) = y := ⟨_, rfl⟩
   have hb56 := ltS hb172 hb56
   refine DW.cutN (fun E' w' => Sub [(3, (PV p15)), (4, (PV p24)), (6, (PV p73)), (18, av0), (19, (Value.int .i64 ((a0.length : Nat) : Int))), (20, (Value.int .i64 ((i51 : Nat) : Int))), (49, (Value.bool b171))] E' ∧ Ch nb w124 w') ?_ ?_
   ·
    rcases Bool.eq_false_or_eq_true (!y93.1) with hg173 | hg173
    ·
     have hs174 := orO_t hg173 hb164
     have hs175 := or_t (Option.some.inj hs174).symm hb172
     refine DW.draw1 Ch.refl 22 [(none, fun fx O uu wx => uu = (Value.bool (!y93.1))), (none, fun fx O uu wx => uu = (Value.bool (!y93.1))), (none, fun _ O uu wx => uu = undef), (none, fun _ O uu wx => uu = undef), (none, fun _ O uu wx => uu = undef), (none, fun _ O uu wx => uu = undef), (none, fun _ O uu wx => uu = undef), (none, fun _ O uu wx => uu = undef), (none, fun _ O uu wx => uu = undef), (none, fun _ O uu wx => uu = undef), (none, fun _ O uu wx => uu = undef), (none, fun fx O uu wx => uu = (Value.bool b163)), (none, fun fx O uu wx => uu = (Value.bool b163)), (none, fun _ O uu wx => uu = undef), (none, fun _ O uu wx => uu = undef), (none, fun _ O uu wx => uu = undef), (none, fun _ O uu wx => uu = undef), (none, fun _ O uu wx => uu = undef), (none, fun _ O uu wx => uu = undef), (none, fun _ O uu wx => uu = undef), (none, fun _ O uu wx => uu = undef), (none, fun fx O uu wx => uu = (Value.bool b171))] [[], [0], [1], [1], [1], [1], [1], [1], [1], [1], [1], [1], [11], [12], [12], [12], [12], [12], [12], [12], [12], [12]] [21] nb (fun _ h => h.elim) mixed rfl rfl rfl rfl ?_ ?_
     ·
      refine Each.consS (fun fl O wk hE hN hO ck => ?_) ?_
      ·
       refine rl_not rfl rfl ?_
       exact RL.nil ⟨_, rfl, Ch.refl, rfl⟩
      refine Each.consS (fun fl O wk hE hN hO ck => ?_) ?_
      ·
       refine Need.o1 rfl rfl rfl (fun _ h => h) ?_
       refine rl_move rfl rfl ?_
       exact RL.nil ⟨_, rfl, Ch.refl, rfl⟩
      refine Each.consS (fun fl O wk hE hN hO ck => ?_) ?_
      ·
       refine Need.o1 rfl rfl rfl (fun _ h => h) ?_
       refine RL.no rfl rfl rfl hg173 rfl rfl ?_
       exact RL.nil ⟨_, rfl, Ch.refl, rfl⟩
      refine Each.consS (fun fl O wk hE hN hO ck => ?_) ?_
      ·
       refine Need.o1 rfl rfl rfl (fun _ h => h) ?_
       refine RL.no rfl rfl rfl hg173 rfl rfl ?_
       exact RL.nil ⟨_, rfl, Ch.refl, rfl⟩
      refine Each.consS (fun fl O wk hE hN hO ck => ?_) ?_
      ·
       refine Need.o1 rfl rfl rfl (fun _ h => h) ?_
       refine RL.no rfl rfl rfl hg173 rfl rfl ?_
       exact RL.nil ⟨_, rfl, Ch.refl, rfl⟩
      refine Each.consS (fun fl O wk hE hN hO ck => ?_) ?_
      ·
       refine Need.o1 rfl rfl rfl (fun _ h => h) ?_
       refine RL.no rfl rfl rfl hg173 rfl rfl ?_
       exact RL.nil ⟨_, rfl, Ch.refl, rfl⟩
      refine Each.consS (fun fl O wk hE hN hO ck => ?_) ?_
      ·
       refine Need.o1 rfl rfl rfl (fun _ h => h) ?_
       refine RL.no rfl rfl rfl hg173 rfl rfl ?_
       exact RL.nil ⟨_, rfl, Ch.refl, rfl⟩
      refine Each.consS (fun fl O wk hE hN hO ck => ?_) ?_
      ·
       refine Need.o1 rfl rfl rfl (fun _ h => h) ?_
       refine RL.no rfl rfl rfl hg173 rfl rfl ?_
       exact RL.nil ⟨_, rfl, Ch.refl, rfl⟩
      refine Each.consS (fun fl O wk hE hN hO ck => ?_) ?_
      ·
       refine Need.o1 rfl rfl rfl (fun _ h => h) ?_
       refine RL.no rfl rfl rfl hg173 rfl rfl ?_
       exact RL.nil ⟨_, rfl, Ch.refl, rfl⟩
      refine Each.consS (fun fl O wk hE hN hO ck => ?_) ?_
      ·
       refine Need.o1 rfl rfl rfl (fun _ h => h) ?_
       refine RL.no rfl rfl rfl hg173 rfl rfl ?_
       exact RL.nil ⟨_, rfl, Ch.refl, rfl⟩
      refine Each.consS (fun fl O wk hE hN hO ck => ?_) ?_
      ·
       refine Need.o1 rfl rfl rfl (fun _ h => h) ?_
       refine RL.no rfl rfl rfl hg173 rfl rfl ?_
       exact RL.nil ⟨_, rfl, Ch.refl, rfl⟩
      refine Each.consS (fun fl O wk hE hN hO ck => ?_) ?_
      ·
       refine Need.o1 rfl rfl rfl (fun _ h => h) ?_
       refine rl_pickT rfl hg173 rfl rfl ?_
       exact RL.nil ⟨_, rfl, Ch.refl, congrArg Value.bool (Option.some.inj hs174)⟩
      refine Each.consS (fun fl O wk hE hN hO ck => ?_) ?_
      ·
       refine Need.o1 rfl rfl rfl (fun _ h => h) ?_
       refine rl_move rfl rfl ?_
       exact RL.nil ⟨_, rfl, Ch.refl, rfl⟩
      refine Each.consS (fun fl O wk hE hN hO ck => ?_) ?_
      ·
       refine Need.o1 rfl rfl rfl (fun _ h => h) ?_
       refine RL.no rfl rfl rfl (Option.some.inj hs174).symm rfl rfl ?_
       exact RL.nil ⟨_, rfl, Ch.refl, rfl⟩
      refine Each.consS (fun fl O wk hE hN hO ck => ?_) ?_
      ·
       refine Need.o1 rfl rfl rfl (fun _ h => h) ?_
       refine RL.no rfl rfl rfl (Option.some.inj hs174).symm rfl rfl ?_
       exact RL.nil ⟨_, rfl, Ch.refl, rfl⟩
      refine Each.consS (fun fl O wk hE hN hO ck => ?_) ?_
      ·
       refine Need.o1 rfl rfl rfl (fun _ h => h) ?_
       refine RL.no rfl rfl rfl (Option.some.inj hs174).symm rfl rfl ?_
       exact RL.nil ⟨_, rfl, Ch.refl, rfl⟩
      refine Each.consS (fun fl O wk hE hN hO ck => ?_) ?_
      ·
       refine Need.o1 rfl rfl rfl (fun _ h => h) ?_
       refine RL.no rfl rfl rfl (Option.some.inj hs174).symm rfl rfl ?_
       exact RL.nil ⟨_, rfl, Ch.refl, rfl⟩
      refine Each.consS (fun fl O wk hE hN hO ck => ?_) ?_
      ·
       refine Need.o1 rfl rfl rfl (fun _ h => h) ?_
       refine RL.no rfl rfl rfl (Option.some.inj hs174).symm rfl rfl ?_
       exact RL.nil ⟨_, rfl, Ch.refl, rfl⟩
      refine Each.consS (fun fl O wk hE hN hO ck => ?_) ?_
      ·
       refine Need.o1 rfl rfl rfl (fun _ h => h) ?_
       refine RL.no rfl rfl rfl (Option.some.inj hs174).symm rfl rfl ?_
       exact RL.nil ⟨_, rfl, Ch.refl, rfl⟩
      refine Each.consS (fun fl O wk hE hN hO ck => ?_) ?_
      ·
       refine Need.o1 rfl rfl rfl (fun _ h => h) ?_
       refine RL.no rfl rfl rfl (Option.some.inj hs174).symm rfl rfl ?_
       exact RL.nil ⟨_, rfl, Ch.refl, rfl⟩
      refine Each.consS (fun fl O wk hE hN hO ck => ?_) ?_
      ·
       refine Need.o1 rfl rfl rfl (fun _ h => h) ?_
       refine RL.no rfl rfl rfl (Option.some.inj hs174).symm rfl rfl ?_
       exact RL.nil ⟨_, rfl, Ch.refl, rfl⟩
      refine Each.consS (fun fl O wk hE hN hO ck => ?_) ?_
      ·
       refine Need.o1 rfl rfl rfl (fun _ h => h) ?_
       refine rl_pickT rfl (Option.some.inj hs174).symm rfl rfl ?_
       exact RL.nil ⟨_, rfl, Ch.refl, congrArg Value.bool hs175⟩
      trivial
     intro hvO199 OpO199 O199 w197 hO200 c198 hN201
     refine Need.o1 rfl rfl rfl (fun _ h => h) ?_
     exact RL.nil ⟨rfl, ⟨rfl, rfl, rfl, rfl, rfl, rfl, rfl, trivial⟩, c198⟩
    have hs203 := orO_f hg173 hb164
    obtain ⟨y149, hy150, hs203⟩ := bindS hs203
    obtain ⟨y155, hy156, hs203⟩ := bindS hs203
    obtain ⟨y161, hy162, hs203⟩ := bindS hs203
    rcases Bool.eq_false_or_eq_true b163 with hg204 | hg204
    ·
     have hs205 := or_t hg204 hb172
     refine DW.draw1 Ch.refl 22 [(none, fun fx O uu wx => uu = (Value.bool (!y93.1))), (none, fun fx O uu wx => uu = (Value.bool (!y93.1))), (none, fun fx O uu wx => uu = (PV p15)), (none, fun fx O uu wx => ∃ (v151 : Value), uu = v151 ∧ slRep k_Tie (G F w.heap.size (un (inBlk (PV p73)) (un (inBlk z127) (un (inBlk (PV p24)) (un (inBlk (PV p15)) (un (inBlk z126) nb)))))) wx y149 v151), (none, fun fx O uu wx => ∃ (v157 : Value), uu = v157 ∧ slRep k_Tie (G F w.heap.size (un (inBlk (PV p73)) (un (inBlk z127) (un (inBlk (PV p24)) (un (inBlk (PV p15)) (un (inBlk z126) nb)))))) wx y155 v157), (none, fun fx O uu wx => uu = (PV p24)), (none, fun fx O uu wx => uu = (PV p24)), (none, fun fx O uu wx => uu = (PV p24)), (none, fun fx O uu wx => uu = z127), (none, fun fx O uu wx => uu = (Value.bool y161)), (none, fun fx O uu wx => uu = (Value.bool (!y161))), (none, fun fx O uu wx => uu = (Value.bool b163)), (none, fun fx O uu wx => uu = (Value.bool b163)), (none, fun _ O uu wx => uu = undef), (none, fun _ O uu wx => uu = undef), (none, fun _ O uu wx => uu = undef), (none, fun _ O uu wx => uu = undef), (none, fun _ O uu wx => uu = undef), (none, fun _ O uu wx => uu = undef), (none, fun _ O uu wx => uu = undef), (none, fun _ O uu wx => uu = undef), (none, fun fx O uu wx => uu = (Value.bool b171))] [[], [0], [1], [1, 2], [1, 3], [1], [1, 5], [1, 6], [1, 7], [1, 4, 8], [1, 9], [1, 10], [11], [12], [12], [12], [12], [12], [12], [12], [12], [12]] [21] nb (fun _ h => h.elim) mixed rfl rfl rfl rfl ?_ ?_
     ·
      refine Each.consS (fun fl O wk hE hN hO ck => ?_) ?_
      ·
       refine rl_not rfl rfl ?_
       exact RL.nil ⟨_, rfl, Ch.refl, rfl⟩
      refine Each.consS (fun fl O wk hE hN hO ck => ?_) ?_
      ·
       refine Need.o1 rfl rfl rfl (fun _ h => h) ?_
       refine rl_move rfl rfl ?_
       exact RL.nil ⟨_, rfl, Ch.refl, rfl⟩
      refine Each.consS (fun fl O wk hE hN hO ck => ?_) ?_
      ·
       refine Need.o1 rfl rfl rfl (fun _ h => h) ?_
       refine RL.yes rfl rfl rfl hg173 ?_
       refine rl_move rfl rfl ?_
       exact RL.nil ⟨_, rfl, Ch.refl, rfl⟩
      refine Each.consA ⟨fun _ _ _ _ _ cc hh => by obtain ⟨v151, e, h152⟩ := hh; exact ⟨v151, e, slRep.ch k_Tie_pos h152 cc⟩, fun h => absurd rfl h, fun fl O wk hE hN hO ck => ?_⟩ ?_
      ·
       have k85 := k85.ch0 ck
       have h128 := h128.ch0 ck
       have h129 := h129.ch0 ck
       have h130 := h130.ch0 ck
       have h131 := h131.ch0 ck
       have c62 := c62.then0 ck
       refine Need.o1 rfl rfl rfl (fun _ h => h) ?_
       refine Need.o1 rfl rfl rfl (fun _ h => h) ?_
       refine RL.yes rfl rfl rfl hg173 ?_
       have hd210 : ∀ b, (un (inBlk (PV p15)) (inBlk z126)) b → ¬ (un (inBlk (PV p73)) (un (inBlk z127) (un (inBlk (PV p24)) nb))) b := fun b h => un_el h (fun h => (fun b hb => fun h => un_el h (fun h => (disSym d80) b hb h) (fun h => un_el h (fun h => d135 b hb h) (fun h => un_el h (fun h => (disSym d47) b hb h) (fun h => h)))) b h) (fun h => (fun b hb => fun h => un_el h (fun h => d140 b hb h) (fun h => un_el h (fun h => d137 b hb h) (fun h => un_el h (fun h => d136 b hb h) (fun h => h)))) b h)
       have hS211 : (un (inBlk (PV p73)) (un (inBlk z127) (un (inBlk (PV p24)) (un (inBlk (PV p15)) (un (inBlk z126) nb))))) = (un (inBlk (PV p15)) (un (inBlk z126) (un (inBlk (PV p73)) (un (inBlk z127) (un (inBlk (PV p24)) nb))))) := funext fun b => propext ⟨fun h => un_el h (fun h => (.inr (.inr (.inl h)))) (fun h => un_el h (fun h => (.inr (.inr (.inr (.inl h))))) (fun h => un_el h (fun h => (.inr (.inr (.inr (.inr (.inl h)))))) (fun h => un_el h (fun h => (.inl h)) (fun h => un_el h (fun h => (.inr (.inl h))) (fun h => False.elim h))))), fun h => un_el h (fun h => (.inr (.inr (.inr (.inl h))))) (fun h => un_el h (fun h => (.inr (.inr (.inr (.inr (.inl h)))))) (fun h => un_el h (fun h => (.inl h)) (fun h => un_el h (fun h => (.inr (.inl h))) (fun h => un_el h (fun h => (.inr (.inr (.inl h)))) (fun h => False.elim h)))))⟩
       refine rl_callF rfl en15 rfl (ctr15 F wk w.heap.size (un (inBlk (PV p73)) (un (inBlk z127) (un (inBlk (PV p24)) nb))) c62.size (un_lt k85.ltp (un_lt (fun b hb => (h131.lt b hb).2) (un_lt h130.ltp nbS))) p15 z126 hd210 d134 y93.2.1 h128 h129 y149 hy150) ?_
       rintro v214 w212 ⟨_, rfl, h215, c213⟩
       rw [← hS211] at h215
       have h215 := SlO.backR k_Tie_pos h215 (un_lt k85.ltp (un_lt (fun b hb => (h131.lt b hb).2) (un_lt h130.ltp (un_lt h128.ltp (un_lt h129.ltp nbS))))) c62.size
       exact RL.nil ⟨_, rfl, c213, ⟨v214, rfl, h215⟩⟩
      refine Each.consA ⟨fun _ _ _ _ _ cc hh => by obtain ⟨v157, e, h158⟩ := hh; exact ⟨v157, e, slRep.ch k_Tie_pos h158 cc⟩, fun h => absurd rfl h, fun fl O wk hE hN hO ck => ?_⟩ ?_
      ·
       have k85 := k85.ch0 ck
       have h128 := h128.ch0 ck
       have h129 := h129.ch0 ck
       have h130 := h130.ch0 ck
       have h131 := h131.ch0 ck
       have c62 := c62.then0 ck
       refine Need.o1 rfl rfl rfl (fun _ h => h) ?_
       refine Need.one rfl rfl rfl ?_
       rintro _ ⟨v151, e217, h152⟩
       obtain rfl := e217.symm
       refine RL.yes rfl rfl rfl hg173 ?_
       refine rl_callF rfl en14 rfl (ctr14 (G F w.heap.size (un (inBlk (PV p73)) (un (inBlk z127) (un (inBlk (PV p24)) (un (inBlk (PV p15)) (un (inBlk z126) nb)))))) wk y149 v151 h152 y155 hy156) ?_
       rintro v220 w218 ⟨_, rfl, h221, c219⟩
       have h221 := SlO.backR k_Tie_pos h221 (un_lt k85.ltp (un_lt (fun b hb => (h131.lt b hb).2) (un_lt h130.ltp (un_lt h128.ltp (un_lt h129.ltp nbS))))) c62.size
       exact RL.nil ⟨_, rfl, c219, ⟨v220, rfl, h221⟩⟩
      refine Each.consS (fun fl O wk hE hN hO ck => ?_) ?_
      ·
       refine Need.o1 rfl rfl rfl (fun _ h => h) ?_
       refine RL.yes rfl rfl rfl hg173 ?_
       refine rl_move rfl rfl ?_
       exact RL.nil ⟨_, rfl, Ch.refl, rfl⟩
      refine Each.consS (fun fl O wk hE hN hO ck => ?_) ?_
      ·
       refine Need.o1 rfl rfl rfl (fun _ h => h) ?_
       refine Need.o1 rfl rfl rfl (fun _ h => h) ?_
       refine RL.yes rfl rfl rfl hg173 ?_
       refine rl_nilCheck rfl rfl ?_
       exact RL.nil ⟨_, rfl, Ch.refl, rfl⟩
      refine Each.consS (fun fl O wk hE hN hO ck => ?_) ?_
      ·
       refine Need.o1 rfl rfl rfl (fun _ h => h) ?_
       refine Need.o1 rfl rfl rfl (fun _ h => h) ?_
       refine RL.yes rfl rfl rfl hg173 ?_
       refine rl_fieldAddr rfl fa48_0 rfl ?_
       exact RL.nil ⟨_, rfl, Ch.refl, rfl⟩
      refine Each.consS (fun fl O wk hE hN hO ck => ?_) ?_
      ·
       have h130 := h130.ch0 ck
       refine Need.o1 rfl rfl rfl (fun _ h => h) ?_
       refine Need.o1 rfl rfl rfl (fun _ h => h) ?_
       refine RL.yes rfl rfl rfl hg173 ?_
       refine rl_loadS (v := z127) rfl Try.isAgg46 (h130.cell rfl) rfl ?_
       exact RL.nil ⟨_, rfl, Ch.refl, rfl⟩
      refine Each.consS (fun fl O wk hE hN hO ck => ?_) ?_
      ·
       have h131 := h131.ch0 ck
       refine Need.o1 rfl rfl rfl (fun _ h => h) ?_
       refine Need.one rfl rfl rfl ?_
       rintro _ ⟨v157, e230, h158⟩
       obtain rfl := e230.symm
       refine Need.o1 rfl rfl rfl (fun _ h => h) ?_
       refine RL.yes rfl rfl rfl hg173 ?_
       refine rl_callF rfl en13 rfl (ctr13 (G F w.heap.size (un (inBlk (PV p73)) (un (inBlk (PV p24)) (un (inBlk (PV p15)) (un (inBlk z126) nb))))) wk y155 v157 (slRep.wk k_Tie_pos h158 (fun b _ hf => ⟨hf.1, fun h => hf.2 (un_el h (fun h => (.inl h)) (fun h => un_el h (fun h => (.inr (.inr (.inl h)))) (fun h => un_el h (fun h => (.inr (.inr (.inr (.inl h))))) (fun h => un_el h (fun h => (.inr (.inr (.inr (.inr (.inl h)))))) (fun h => False.elim h)))))⟩)) y93.2.2.all z127 (SlO.read (S' := (un (inBlk (PV p73)) (un (inBlk (PV p24)) (un (inBlk (PV p15)) (un (inBlk z126) nb))))) k_Tie_pos h131 (fun b hs h => hs (un_el h (fun h => (.inl h)) (fun h => un_el h (fun h => (.inr (.inr (.inl h)))) (fun h => un_el h (fun h => (.inr (.inr (.inr (.inl h))))) (fun h => un_el h (fun h => (.inr (.inr (.inr (.inr (.inl h)))))) (fun h => False.elim h)))))) (fun b hb => fun h => un_el h (fun h => d142 b hb h) (fun h => un_el h (fun h => (disSym d138) b hb h) (fun h => un_el h (fun h => (disSym d135) b hb h) (fun h => un_el h (fun h => (disSym d137) b hb h) (fun h => h)))))) y161 hy162) ?_
       rintro _ w232 ⟨rfl, c233⟩
       exact RL.nil ⟨_, rfl, c233, rfl⟩
      refine Each.consS (fun fl O wk hE hN hO ck => ?_) ?_
      ·
       refine Need.o1 rfl rfl rfl (fun _ h => h) ?_
       refine Need.o1 rfl rfl rfl (fun _ h => h) ?_
       refine RL.yes rfl rfl rfl hg173 ?_
       refine rl_not rfl rfl ?_
       exact RL.nil ⟨_, rfl, Ch.refl, rfl⟩
      refine Each.consS (fun fl O wk hE hN hO ck => ?_) ?_
      ·
       refine Need.o1 rfl rfl rfl (fun _ h => h) ?_
       refine Need.o1 rfl rfl rfl (fun _ h => h) ?_
       refine rl_pickF rfl hg173 rfl rfl ?_
       exact RL.nil ⟨_, rfl, Ch.refl, congrArg Value.bool (Option.some.inj hs203)⟩
      refine Each.consS (fun fl O wk hE hN hO ck => ?_) ?_
      ·
       refine Need.o1 rfl rfl rfl (fun _ h => h) ?_
       refine rl_move rfl rfl ?_
       exact RL.nil ⟨_, rfl, Ch.refl, rfl⟩
      refine Each.consS (fun fl O wk hE hN hO ck => ?_) ?_
      ·
       refine Need.o1 rfl rfl rfl (fun _ h => h) ?_
       refine RL.no rfl rfl rfl hg204 rfl rfl ?_
       exact RL.nil ⟨_, rfl, Ch.refl, rfl⟩
      refine Each.consS (fun fl O wk hE hN hO ck => ?_) ?_
      ·
       refine Need.o1 rfl rfl rfl (fun _ h => h) ?_
       refine RL.no rfl rfl rfl hg204 rfl rfl ?_
       exact RL.nil ⟨_, rfl, Ch.refl, rfl⟩
      refine Each.consS (fun fl O wk hE hN hO ck => ?_) ?_
      ·
       refine Need.o1 rfl rfl rfl (fun _ h => h) ?_
       refine RL.no rfl rfl rfl hg204 rfl rfl ?_
       exact RL.nil ⟨_, rfl, Ch.refl, rfl⟩
      refine Each.consS (fun fl O wk hE hN hO ck => ?_) ?_
      ·
       refine Need.o1 rfl rfl rfl (fun _ h => h) ?_
       refine RL.no rfl rfl rfl hg204 rfl rfl ?_
       exact RL.nil ⟨_, rfl, Ch.refl, rfl⟩
      refine Each.consS (fun fl O wk hE hN hO ck => ?_) ?_
      ·
       refine Need.o1 rfl rfl rfl (fun _ h => h) ?_
       refine RL.no rfl rfl rfl hg204 rfl rfl ?_
       exact RL.nil ⟨_, rfl, Ch.refl, rfl⟩
      refine Each.consS (fun fl O wk hE hN hO ck => ?_) ?_
      ·
       refine Need.o1 rfl rfl rfl (fun _ h => h) ?_
       refine RL.no rfl rfl rfl hg204 rfl rfl ?_
       exact RL.nil ⟨_, rfl, Ch.refl, rfl⟩
      refine Each.consS (fun fl O wk hE hN hO ck => ?_) ?_
      ·
       refine Need.o1 rfl rfl rfl (fun _ h => h) ?_
       refine RL.no rfl rfl rfl hg204 rfl rfl ?_
       exact RL.nil ⟨_, rfl, Ch.refl, rfl⟩
      refine Each.consS (fun fl O wk hE hN hO ck => ?_) ?_
      ·
       refine Need.o1 rfl rfl rfl (fun _ h => h) ?_
       refine RL.no rfl rfl rfl hg204 rfl rfl ?_
       exact RL.nil ⟨_, rfl, Ch.refl, rfl⟩
      refine Each.consS (fun fl O wk hE hN hO ck => ?_) ?_
      ·
       refine Need.o1 rfl rfl rfl (fun _ h => h) ?_
       refine rl_pickT rfl hg204 rfl rfl ?_
       exact RL.nil ⟨_, rfl, Ch.refl, congrArg Value.bool hs205⟩
      trivial
     intro hvO250 OpO250 O250 w248 hO251 c249 hN252
     refine Need.o1 rfl rfl rfl (fun _ h => h) ?_
     exact RL.nil ⟨rfl, ⟨rfl, rfl, rfl, rfl, rfl, rfl, rfl, trivial⟩, c249⟩
    have hs254 := or_f hg204 hb172
    obtain ⟨y169, hy170⟩ : ∃ y, F16_Len y93.2.1 = y := ⟨_, rfl⟩
    have hs254 := ltS hy170 hs254
    refine DW.draw1 Ch.refl 22 [(none, fun fx O uu wx => uu = (Value.bool (!y93.1))), (none, fun fx O uu wx => uu = (Value.bool (!y93.1))), (none, fun fx O uu wx => uu = (PV p15)), (none, fun fx O uu wx => ∃ (v151 : Value), uu = v151 ∧ slRep k_Tie (G F w.heap.size (un (inBlk (PV p73)) (un (inBlk z127) (un (inBlk (PV p24)) (un (inBlk (PV p15)) (un (inBlk z126) nb)))))) wx y149 v151), (none, fun fx O uu wx => ∃ (v157 : Value), uu = v157 ∧ slRep k_Tie (G F w.heap.size (un (inBlk (PV p73)) (un (inBlk z127) (un (inBlk (PV p24)) (un (inBlk (PV p15)) (un (inBlk z126) nb)))))) wx y155 v157), (none, fun fx O uu wx => uu = (PV p24)), (none, fun fx O uu wx => uu = (PV p24)), (none, fun fx O uu wx => uu = (PV p24)), (none, fun fx O uu wx => uu = z127), (none, fun fx O uu wx => uu = (Value.bool y161)), (none, fun fx O uu wx => uu = (Value.bool (!y161))), (none, fun fx O uu wx => uu = (Value.bool b163)), (none, fun fx O uu wx => uu = (Value.bool b163)), (none, fun fx O uu wx => uu = (PV p15)), (none, fun fx O uu wx => uu = (Value.int .i64 y169)), (none, fun fx O uu wx => uu = (PV p24)), (none, fun fx O uu wx => uu = (PV p24)), (none, fun fx O uu wx => uu = (PV p24)), (none, fun fx O uu wx => uu = z127), (none, fun fx O uu wx => uu = (Value.int .i64 ((y93.2.2.all.length : Nat) : Int))), (none, fun fx O uu wx => uu = (Value.bool (!decide (y169 = ((y93.2.2.all.length : Nat) : Int))))), (none, fun fx O uu wx => uu = (Value.bool b171))] [[], [0], [1], [1, 2], [1, 3], [1], [1, 5], [1, 6], [1, 7], [1, 4, 8], [1, 9], [1, 10], [11], [12], [12, 13], [12], [12, 15], [12, 16], [12, 17], [12, 18], [12, 14, 19], [12, 20]] [21] nb (fun _ h => h.elim) mixed rfl rfl rfl rfl ?_ ?_
    ·
     refine Each.consS (fun fl O wk hE hN hO ck => ?_) ?_
     ·
      refine rl_not rfl rfl ?_
      exact RL.nil ⟨_, rfl, Ch.refl, rfl⟩
     refine Each.consS (fun fl O wk hE hN hO ck => ?_) ?_
     ·
      refine Need.o1 rfl rfl rfl (fun _ h => h) ?_
      refine rl_move rfl rfl ?_
      exact RL.nil ⟨_, rfl, Ch.refl, rfl⟩
     refine Each.consS (fun fl O wk hE hN hO ck => ?_) ?_
     ·
      refine Need.o1 rfl rfl rfl (fun _ h => h) ?_
      refine RL.yes rfl rfl rfl hg173 ?_
      refine rl_move rfl rfl ?_
      exact RL.nil ⟨_, rfl, Ch.refl, rfl⟩
     refine Each.consA ⟨fun _ _ _ _ _ cc hh => by obtain ⟨v151, e, h152⟩ := hh; exact ⟨v151, e, slRep.ch k_Tie_pos h152 cc⟩, fun h => absurd rfl h, fun fl O wk hE hN hO ck => ?_⟩ ?_
     ·
      have k85 := k85.ch0 ck
      have h128 := h128.ch0 ck
      have h129 := h129.ch0 ck
      have h130 := h130.ch0 ck
      have h131 := h131.ch0 ck
      have c62 := c62.then0 ck
      refine Need.o1 rfl rfl rfl (fun _ h => h) ?_
      refine Need.o1 rfl rfl rfl (fun _ h => h) ?_
      refine RL.yes rfl rfl rfl hg173 ?_
      have hd259 : ∀ b, (un (inBlk (PV p15)) (inBlk z126)) b → ¬ (un (inBlk (PV p73)) (un (inBlk z127) (un (inBlk (PV p24)) nb))) b := fun b h => un_el h (fun h => (fun b hb => fun h => un_el h (fun h => (disSym d80) b hb h) (fun h => un_el h (fun h => d135 b hb h) (fun h => un_el h (fun h => (disSym d47) b hb h) (fun h => h)))) b h) (fun h => (fun b hb => fun h => un_el h (fun h => d140 b hb h) (fun h => un_el h (fun h => d137 b hb h) (fun h => un_el h (fun h => d136 b hb h) (fun h => h)))) b h)
      have hS260 : (un (inBlk (PV p73)) (un (inBlk z127) (un (inBlk (PV p24)) (un (inBlk (PV p15)) (un (inBlk z126) nb))))) = (un (inBlk (PV p15)) (un (inBlk z126) (un (inBlk (PV p73)) (un (inBlk z127) (un (inBlk (PV p24)) nb))))) := funext fun b => propext ⟨fun h => un_el h (fun h => (.inr (.inr (.inl h)))) (fun h => un_el h (fun h => (.inr (.inr (.inr (.inl h))))) (fun h => un_el h (fun h => (.inr (.inr (.inr (.inr (.inl h)))))) (fun h => un_el h (fun h => (.inl h)) (fun h => un_el h (fun h => (.inr (.inl h))) (fun h => False.elim h))))), fun h => un_el h (fun h => (.inr (.inr (.inr (.inl h))))) (fun h => un_el h (fun h => (.inr (.inr (.inr (.inr (.inl h)))))) (fun h => un_el h (fun h => (.inl h)) (fun h => un_el h (fun h => (.inr (.inl h))) (fun h => un_el h (fun h => (.inr (.inr (.inl h)))) (fun h => False.elim h)))))⟩
      refine rl_callF rfl en15 rfl (ctr15 F wk w.heap.size (un (inBlk (PV p73)) (un (inBlk z127) (un (inBlk (PV p24)) nb))) c62.size (un_lt k85.ltp (un_lt (fun b hb => (h131.lt b hb).2) (un_lt h130.ltp nbS))) p15 z126 hd259 d134 y93.2.1 h128 h129 y149 hy150) ?_
      rintro v263 w261 ⟨_, rfl, h264, c262⟩
      rw [← hS260] at h264
      have h264 := SlO.backR k_Tie_pos h264 (un_lt k85.ltp (un_lt (fun b hb => (h131.lt b hb).2) (un_lt h130.ltp (un_lt h128.ltp (un_lt h129.ltp nbS))))) c62.size
      exact RL.nil ⟨_, rfl, c262, ⟨v263, rfl, h264⟩⟩
     refine Each.consA ⟨fun _ _ _ _ _ cc hh => by obtain ⟨v157, e, h158⟩ := hh; exact ⟨v157, e, slRep.ch k_Tie_pos h158 cc⟩, fun h => absurd rfl h, fun fl O wk hE hN hO ck => ?_⟩ ?_
     ·
      have k85 := k85.ch0 ck
      have h128 := h128.ch0 ck
      have h129 := h129.ch0 ck
      have h130 := h130.ch0 ck
      have h131 := h131.ch0 ck
      have c62 := c62.then0 ck
      refine Need.o1 rfl rfl rfl (fun _ h => h) ?_
      refine Need.one rfl rfl rfl ?_
      rintro _ ⟨v151, e266, h152⟩
      obtain rfl := e266.symm
      refine RL.yes rfl rfl rfl hg173 ?_
      refine rl_callF rfl en14 rfl (ctr14 (G F w.heap.size (un (inBlk (PV p73)) (un (inBlk z127) (un (inBlk (PV p24)) (un (inBlk (PV p15)) (un (inBlk z126) nb)))))) wk y149 v151 h152 y155 hy156) ?_
      rintro v269 w267 ⟨_, rfl, h270, c268⟩
      have h270 := SlO.backR k_Tie_pos h270 (un_lt k85.ltp (un_lt (fun b hb => (h131.lt b hb).2) (un_lt h130.ltp (un_lt h128.ltp (un_lt h129.ltp nbS))))) c62.size
      exact RL.nil ⟨_, rfl, c268, ⟨v269, rfl, h270⟩⟩
     refine Each.consS (fun fl O wk hE hN hO ck => ?_) ?_
     ·
      refine Need.o1 rfl rfl rfl (fun _ h => h) ?_
      refine RL.yes rfl rfl rfl hg173 ?_
      refine rl_move rfl rfl ?_
      exact RL.nil ⟨_, rfl, Ch.refl, rfl⟩
     refine Each.consS (fun fl O wk hE hN hO ck => ?_) ?_
     ·
      refine Need.o1 rfl rfl rfl (fun _ h => h) ?_
      refine Need.o1 rfl rfl rfl (fun _ h => h) ?_
      refine RL.yes rfl rfl rfl hg173 ?_
      refine rl_nilCheck rfl rfl ?_
      exact RL.nil ⟨_, rfl, Ch.refl, rfl⟩
     refine Each.consS (fun fl O wk hE hN hO ck => ?_) ?_
     ·
      refine Need.o1 rfl rfl rfl (fun _ h => h) ?_
      refine Need.o1 rfl rfl rfl (fun _ h => h) ?_
      refine RL.yes rfl rfl rfl hg173 ?_
      refine rl_fieldAddr rfl fa48_0 rfl ?_
      exact RL.nil ⟨_, rfl, Ch.refl, rfl⟩
     refine Each.consS (fun fl O wk hE hN hO ck => ?_) ?_
     ·
      have h130 := h130.ch0 ck
      refine Need.o1 rfl rfl rfl (fun _ h => h) ?_
      refine Need.o1 rfl rfl rfl (fun _ h => h) ?_
      refine RL.yes rfl rfl rfl hg173 ?_
      refine rl_loadS (v := z127) rfl Try.isAgg46 (h130.cell rfl) rfl ?_
      exact RL.nil ⟨_, rfl, Ch.refl, rfl⟩
     refine Each.consS (fun fl O wk hE hN hO ck => ?_) ?_
     ·
      have h131 := h131.ch0 ck
      refine Need.o1 rfl rfl rfl (fun _ h => h) ?_
      refine Need.one rfl rfl rfl ?_
      rintro _ ⟨v157, e279, h158⟩
      obtain rfl := e279.symm
      refine Need.o1 rfl rfl rfl (fun _ h => h) ?_
      refine RL.yes rfl rfl rfl hg173 ?_
      refine rl_callF rfl en13 rfl (ctr13 (G F w.heap.size (un (inBlk (PV p73)) (un (inBlk (PV p24)) (un (inBlk (PV p15)) (un (inBlk z126) nb))))) wk y155 v157 (slRep.wk k_Tie_pos h158 (fun b _ hf => ⟨hf.1, fun h => hf.2 (un_el h (fun h => (.inl h)) (fun h => un_el h (fun h => (.inr (.inr (.inl h)))) (fun h => un_el h (fun h => (.inr (.inr (.inr (.inl h))))) (fun h => un_el h (fun h => (.inr (.inr (.inr (.inr (.inl h)))))) (fun h => False.elim h)))))⟩)) y93.2.2.all z127 (SlO.read (S' := (un (inBlk (PV p73)) (un (inBlk (PV p24)) (un (inBlk (PV p15)) (un (inBlk z126) nb))))) k_Tie_pos h131 (fun b hs h => hs (un_el h (fun h => (.inl h)) (fun h => un_el h (fun h => (.inr (.inr (.inl h)))) (fun h => un_el h (fun h => (.inr (.inr (.inr (.inl h))))) (fun h => un_el h (fun h => (.inr (.inr (.inr (.inr (.inl h)))))) (fun h => False.elim h)))))) (fun b hb => fun h => un_el h (fun h => d142 b hb h) (fun h => un_el h (fun h => (disSym d138) b hb h) (fun h => un_el h (fun h => (disSym d135) b hb h) (fun h => un_el h (fun h => (disSym d137) b hb h) (fun h => h)))))) y161 hy162) ?_
      rintro _ w281 ⟨rfl, c282⟩
      exact RL.nil ⟨_, rfl, c282, rfl⟩
     refine Each.consS (fun fl O wk hE hN hO ck => ?_) ?_
     ·
      refine Need.o1 rfl rfl rfl (fun _ h => h) ?_
      refine Need.o1 rfl rfl rfl (fun _ h => h) ?_
      refine RL.yes rfl rfl rfl hg173 ?_
      refine rl_not rfl rfl ?_
      exact RL.nil ⟨_, rfl, Ch.refl, rfl⟩
     refine Each.consS (fun fl O wk hE hN hO ck => ?_) ?_
     ·
      refine Need.o1 rfl rfl rfl (fun _ h => h) ?_
      refine Need.o1 rfl rfl rfl (fun _ h => h) ?_
      refine rl_pickF rfl hg173 rfl rfl ?_
      exact RL.nil ⟨_, rfl, Ch.refl, congrArg Value.bool (Option.some.inj hs203)⟩
     refine Each.consS (fun fl O wk hE hN hO ck => ?_) ?_
     ·
      refine Need.o1 rfl rfl rfl (fun _ h => h) ?_
      refine rl_move rfl rfl ?_
      exact RL.nil ⟨_, rfl, Ch.refl, rfl⟩
     refine Each.consS (fun fl O wk hE hN hO ck => ?_) ?_
     ·
      refine Need.o1 rfl rfl rfl (fun _ h => h) ?_
      refine RL.yes rfl rfl rfl hg204 ?_
      refine rl_move rfl rfl ?_
      exact RL.nil ⟨_, rfl, Ch.refl, rfl⟩
     refine Each.consS (fun fl O wk hE hN hO ck => ?_) ?_
     ·
      have k85 := k85.ch0 ck
      have h128 := h128.ch0 ck
      have h129 := h129.ch0 ck
      have h130 := h130.ch0 ck
      have h131 := h131.ch0 ck
      have c62 := c62.then0 ck
      refine Need.o1 rfl rfl rfl (fun _ h => h) ?_
      refine Need.o1 rfl rfl rfl (fun _ h => h) ?_
      refine RL.yes rfl rfl rfl hg204 ?_
      have hd291 : ∀ b, (un (inBlk (PV p15)) (inBlk z126)) b → ¬ (un (inBlk (PV p73)) (un (inBlk z127) (un (inBlk (PV p24)) nb))) b := fun b h => un_el h (fun h => (fun b hb => fun h => un_el h (fun h => (disSym d80) b hb h) (fun h => un_el h (fun h => d135 b hb h) (fun h => un_el h (fun h => (disSym d47) b hb h) (fun h => h)))) b h) (fun h => (fun b hb => fun h => un_el h (fun h => d140 b hb h) (fun h => un_el h (fun h => d137 b hb h) (fun h => un_el h (fun h => d136 b hb h) (fun h => h)))) b h)
      refine rl_callF rfl en16 rfl (ctr16 F wk w.heap.size (un (inBlk (PV p73)) (un (inBlk z127) (un (inBlk (PV p24)) nb))) c62.size (un_lt k85.ltp (un_lt (fun b hb => (h131.lt b hb).2) (un_lt h130.ltp nbS))) p15 z126 hd291 d134 y93.2.1 h128 h129 y169 hy170) ?_
      rintro _ w293 ⟨rfl, c294⟩
      exact RL.nil ⟨_, rfl, c294, rfl⟩
     refine Each.consS (fun fl O wk hE hN hO ck => ?_) ?_
     ·
      refine Need.o1 rfl rfl rfl (fun _ h => h) ?_
      refine RL.yes rfl rfl rfl hg204 ?_
      refine rl_move rfl rfl ?_
      exact RL.nil ⟨_, rfl, Ch.refl, rfl⟩
     refine Each.consS (fun fl O wk hE hN hO ck => ?_) ?_
     ·
      refine Need.o1 rfl rfl rfl (fun _ h => h) ?_
      refine Need.o1 rfl rfl rfl (fun _ h => h) ?_
      refine RL.yes rfl rfl rfl hg204 ?_
      refine rl_nilCheck rfl rfl ?_
      exact RL.nil ⟨_, rfl, Ch.refl, rfl⟩
     refine Each.consS (fun fl O wk hE hN hO ck => ?_) ?_
     ·
      refine Need.o1 rfl rfl rfl (fun _ h => h) ?_
      refine Need.o1 rfl rfl rfl (fun _ h => h) ?_
      refine RL.yes rfl rfl rfl hg204 ?_
      refine rl_fieldAddr rfl fa48_0 rfl ?_
      exact RL.nil ⟨_, rfl, Ch.refl, rfl⟩
     refine Each.consS (fun fl O wk hE hN hO ck => ?_) ?_
     ·
      have h130 := h130.ch0 ck
      refine Need.o1 rfl rfl rfl (fun _ h => h) ?_
      refine Need.o1 rfl rfl rfl (fun _ h => h) ?_
      refine RL.yes rfl rfl rfl hg204 ?_
      refine rl_loadS (v := z127) rfl Try.isAgg46 (h130.cell rfl) rfl ?_
      exact RL.nil ⟨_, rfl, Ch.refl, rfl⟩
     refine Each.consS (fun fl O wk hE hN hO ck => ?_) ?_
     ·
      have h131 := h131.ch0 ck
      refine Need.o1 rfl rfl rfl (fun _ h => h) ?_
      refine Need.o1 rfl rfl rfl (fun _ h => h) ?_
      refine RL.yes rfl rfl rfl hg204 ?_
      refine rl_lenR rfl (SlO.read (S' := (un (inBlk (PV p73)) (un (inBlk (PV p24)) (un (inBlk (PV p15)) (un (inBlk z126) nb))))) k_Tie_pos h131 (fun b hs h => hs (un_el h (fun h => (.inl h)) (fun h => un_el h (fun h => (.inr (.inr (.inl h)))) (fun h => un_el h (fun h => (.inr (.inr (.inr (.inl h))))) (fun h => un_el h (fun h => (.inr (.inr (.inr (.inr (.inl h)))))) (fun h => False.elim h)))))) (fun b hb => fun h => un_el h (fun h => d142 b hb h) (fun h => un_el h (fun h => (disSym d138) b hb h) (fun h => un_el h (fun h => (disSym d135) b hb h) (fun h => un_el h (fun h => (disSym d137) b hb h) (fun h => h)))))) Try.underlying46 rfl ?_
      exact RL.nil ⟨_, rfl, Ch.refl, rfl⟩
     refine Each.consS (fun fl O wk hE hN hO ck => ?_) ?_
     ·
      refine Need.o1 rfl rfl rfl (fun _ h => h) ?_
      refine Need.o1 rfl rfl rfl (fun _ h => h) ?_
      refine Need.o1 rfl rfl rfl (fun _ h => h) ?_
      refine RL.yes rfl rfl rfl hg204 ?_
      refine rl_bin rfl rfl B.neq rfl ?_
      exact RL.nil ⟨_, rfl, Ch.refl, rfl⟩
     refine Each.consS (fun fl O wk hE hN hO ck => ?_) ?_
     ·
      refine Need.o1 rfl rfl rfl (fun _ h => h) ?_
      refine Need.o1 rfl rfl rfl (fun _ h => h) ?_
      refine rl_pickF rfl hg204 rfl rfl ?_
      exact RL.nil ⟨_, rfl, Ch.refl, congrArg Value.bool hs254⟩
     trivial
    intro hvO311 OpO311 O311 w309 hO312 c310 hN313
    refine Need.o1 rfl rfl rfl (fun _ h => h) ?_
    exact RL.nil ⟨rfl, ⟨rfl, rfl, rfl, rfl, rfl, rfl, rfl, trivial⟩, c310⟩
   rintro _ w316 ⟨hE315, c317⟩
   have ah0 := slRep.ch k_Act_pos ah0 c317
   have k85 := k85.ch0 c317
   have h128 := h128.ch0 c317
   have h129 := h129.ch0 c317
   have h130 := h130.ch0 c317
   have h131 := h131.ch0 c317
   have c62 := c62.then0 c317
   refine thn_n (CW.sub [(3, (PV p15)), (4, (PV p24)), (6, (PV p73)), (18, av0), (19, (Value.int .i64 ((a0.length : Nat) : Int))), (20, (Value.int .i64 ((i51 : Nat) : Int))), (49, (Value.bool b171))] hE315 ?_)
   refine CW.cond (t := b171) rfl (fun q318 => ?_) (fun q318 => ?_)
   ·
    have hb56 := ifT q318 hb56
    refine CW.seq (CW.region ?_)
    refine rl_assign rfl rfl ?_
    refine RL.nil (thn_n (CW.ret ?_))
    refine thn_ret ?_
    refine inB_ret ?_
    refine thn_ret ?_
    refine thn_ret (inB_ret (thn_ret ?_))
    refine thn_ret ?_
    have f319 := runBO_ret hL52 hq55 hb56
    have hS := retS f319 hS
    obtain rfl := Option.some.inj hS
    exact ret1 rfl ⟨rfl, c62⟩
   have hb56 := ifF q318 hb56
   refine CW.skip ?_
   refine thn_n (CW.seq (CW.region ?_))
   refine rl_move rfl rfl ?_
   refine rl_fieldAddr rfl fa35_3 rfl ?_
   refine rl_loadA (cs := (Tie.enc x59.tie)) rfl Try.isAgg30 Try.sizeOf30 (k85.segAt 3 40) rfl rfl ?_
   refine rl_fieldAddr rfl fa35_2 rfl ?_
   refine rl_loadS (v := (Value.int .i64 x59.ticks)) rfl Try.isAgg3 (k85.cell rfl) rfl ?_
   refine rl_fieldAddr rfl fa35_1 rfl ?_
   refine rl_loadS (v := (Value.int .i64 x59.now)) rfl Try.isAgg3 (k85.cell rfl) rfl ?_
   have hd320 : ∀ b, (un (inBlk (PV p15)) (inBlk z126)) b → ¬ (un (inBlk (PV p73)) (un (inBlk z127) (un (inBlk (PV p24)) nb))) b := fun b h => un_el h (fun h => (fun b hb => fun h => un_el h (fun h => (disSym d80) b hb h) (fun h => un_el h (fun h => d135 b hb h) (fun h => un_el h (fun h => (disSym d47) b hb h) (fun h => h)))) b h) (fun h => (fun b hb => fun h => un_el h (fun h => d140 b hb h) (fun h => un_el h (fun h => d137 b hb h) (fun h => un_el h (fun h => d136 b hb h) (fun h => h)))) b h)
   obtain ⟨y324, hy325⟩ : ∃ y, F17_Get y93.2.1 x59.tie x59.ticks x59.now = y := ⟨_, rfl⟩
   have hb56 := ltS hy325 hb56
   refine rl_callF rfl en17 rfl (ctr17 F w316 w.heap.size (un (inBlk (PV p73)) (un (inBlk z127) (un (inBlk (PV p24)) nb))) c62.size (un_lt k85.ltp (un_lt (fun b hb => (h131.lt b hb).2) (un_lt h130.ltp nbS))) p15 z126 hd320 d134 y93.2.1 h128 h129 x59.tie x59.ticks x59.now y324 hy325) ?_
   rintro _ w322 ⟨rfl, c323⟩
   have ah0 := slRep.ch k_Act_pos ah0 c323
   have k85 := k85.ch0 c323
   have h128 := h128.ch0 c323
   have h129 := h129.ch0 c323
   have h130 := h130.ch0 c323
   have h131 := h131.ch0 c323
   have c62 := c62.then0 c323
   refine rl_move rfl rfl ?_
   refine rl_extract rfl rfl rfl ?_
   refine rl_extract rfl rfl rfl ?_
   refine rl_alloc (Point.enc Point.z) Try.zeroValue28 rfl rfl ?_
   intro p326 w327 n328 k329
   have lo330 : ∀ b, inBlk (PV p326) b → w.heap.size ≤ b := fun b h => Nat.le_trans c62.size (n328.fresh b h)
   have d331 : ∀ b, inBlk (PV p326) b → ¬ inBlk (PV p73) b := disNew n328.fresh k85.ltp
   have d332 : ∀ b, inBlk (PV p326) b → ¬ inBlk z127 b := disNew n328.fresh (fun b hb => (h131.lt b hb).2)
   have d333 : ∀ b, inBlk (PV p326) b → ¬ inBlk (PV p24) b := disNew n328.fresh h130.ltp
   have d334 : ∀ b, inBlk (PV p326) b → ¬ inBlk (PV p15) b := disNew n328.fresh h128.ltp
   have d335 : ∀ b, inBlk (PV p326) b → ¬ inBlk z126 b := disNew n328.fresh h129.ltp
   have ah0 := slRep.st k_Act_pos ah0 n328.ch (admNew n328.fresh (fun _ x => x))
   have k85 := k85.ch0 n328.ch
   have h128 := h128.ch0 n328.ch
   have h129 := h129.ch0 n328.ch
   have h130 := h130.ch0 n328.ch
   have h131 := h131.st n328.ch (fun _ _ x => x) (admNew n328.fresh (fun _ x => x)) (fun b h => (.inr (.inr (.inl h))))
   have c62 := c62.then0 n328.ch
   refine rl_storeA (vs := (Point.enc y324.1)) rfl rfl (all_one rfl) Try.sizeOf28 rfl k329 rfl ?_
   intro w336 s338 c337 k339
   have ad340 : ∀ b, b < w327.heap.size → ¬ (un (inBlk (PV p326)) (un (inBlk (PV p73)) (un (inBlk z127) (un (inBlk (PV p24)) (un (inBlk (PV p15)) (un (inBlk z126) nb)))))) b → ¬ (inBlk (PV p326)) b ∧ ¬ (un (inBlk (PV p326)) (un (inBlk (PV p73)) (un (inBlk z127) (un (inBlk (PV p24)) (un (inBlk (PV p15)) (un (inBlk z126) nb)))))) b := fun b _ hs => ⟨fun h => hs (.inl h), hs⟩
   have ah0 := slRep.st k_Act_pos ah0 c337 ad340
   have k85 := k85.ch c337 ((fun b hb h => (disSym d331) b hb h) _ rfl)
   have h128 := h128.ch c337 ((fun b hb h => (disSym d334) b hb h) _ rfl)
   have h129 := h129.ch c337 ((fun b hb h => (disSym d335) b hb h))
   have h130 := h130.ch c337 ((fun b hb h => (disSym d333) b hb h) _ rfl)
   have h131 := h131.st c337 (fun b hb h => (disSym d332) b hb h) ad340 (fun b h => (.inr (.inr (.inl h))))
   have c62 := c62.then c337 (fun i hi h => absurd (lo330 i h) (Nat.not_le_of_lt hi))
   refine rl_assign rfl rfl ?_
   refine RL.nil (thn_n (CW.seq (CW.region ?_)))
   refine rl_move rfl rfl ?_
   refine rl_fieldAddr rfl fa35_3 rfl ?_
   refine rl_loadA (cs := (Tie.enc x59.tie)) rfl Try.isAgg30 Try.sizeOf30 (k85.segAt 3 40) rfl rfl ?_
   refine rl_fieldAddr rfl fa35_2 rfl ?_
   refine rl_loadS (v := (Value.int .i64 x59.ticks)) rfl Try.isAgg3 (k85.cell rfl) rfl ?_
   refine rl_fieldAddr rfl fa35_1 rfl ?_
   refine rl_loadS (v := (Value.int .i64 x59.now)) rfl Try.isAgg3 (k85.cell rfl) rfl ?_
   have hd341 : ∀ b, (un (inBlk (PV p24)) (inBlk z127)) b → ¬ (un (inBlk (PV p326)) (un (inBlk (PV p73)) (un (inBlk (PV p15)) (un (inBlk z126) nb)))) b := fun b h => un_el h (fun h => (fun b hb => fun h => un_el h (fun h => (disSym d333) b hb h) (fun h => un_el h (fun h => (disSym d79) b hb h) (fun h => un_el h (fun h => d47 b hb h) (fun h => un_el h (fun h => (disSym d136) b hb h) (fun h => h))))) b h) (fun h => (fun b hb => fun h => un_el h (fun h => (disSym d332) b hb h) (fun h => un_el h (fun h => d142 b hb h) (fun h => un_el h (fun h => (disSym d135) b hb h) (fun h => un_el h (fun h => (disSym d137) b hb h) (fun h => h))))) b h)
   have hS342 : (un (inBlk (PV p326)) (un (inBlk (PV p73)) (un (inBlk z127) (un (inBlk (PV p24)) (un (inBlk (PV p15)) (un (inBlk z126) nb)))))) = (un (inBlk (PV p24)) (un (inBlk z127) (un (inBlk (PV p326)) (un (inBlk (PV p73)) (un (inBlk (PV p15)) (un (inBlk z126) nb)))))) := funext fun b => propext ⟨fun h => un_el h (fun h => (.inr (.inr (.inl h)))) (fun h => un_el h (fun h => (.inr (.inr (.inr (.inl h))))) (fun h => un_el h (fun h => (.inr (.inl h))) (fun h => un_el h (fun h => (.inl h)) (fun h => un_el h (fun h => (.inr (.inr (.inr (.inr (.inl h)))))) (fun h => un_el h (fun h => (.inr (.inr (.inr (.inr (.inr (.inl h))))))) (fun h => False.elim h)))))), fun h => un_el h (fun h => (.inr (.inr (.inr (.inl h))))) (fun h => un_el h (fun h => (.inr (.inr (.inl h)))) (fun h => un_el h (fun h => (.inl h)) (fun h => un_el h (fun h => (.inr (.inl h))) (fun h => un_el h (fun h => (.inr (.inr (.inr (.inr (.inl h)))))) (fun h => un_el h (fun h => (.inr (.inr (.inr (.inr (.inr (.inl h))))))) (fun h => False.elim h))))))⟩
   obtain ⟨y345, hy346, hb56⟩ := bindS hb56
   refine rl_callF rfl en18 rfl (ctr18 F w336 w.heap.size (un (inBlk (PV p326)) (un (inBlk (PV p73)) (un (inBlk (PV p15)) (un (inBlk z126) nb)))) c62.size (un_lt k339.ltp (un_lt k85.ltp (un_lt h128.ltp (un_lt h129.ltp nbS)))) p24 z127 hd341 d138 y93.2.2 h130 (hS342 ▸ h131) x59.tie x59.ticks x59.now y345 hy346) ?_
   rintro _ w343 ⟨rfl, c344⟩
   have ah0 := slRep.ch k_Act_pos ah0 c344
   have h128 := h128.ch0 c344
   have h129 := h129.ch0 c344
   have h130 := h130.ch0 c344
   have h131 := h131.ch0 c344
   have k339 := k339.ch0 c344
   have c62 := c62.then0 c344
   refine rl_move rfl rfl ?_
   refine rl_extract rfl rfl rfl ?_
   refine rl_extract rfl rfl rfl ?_
   refine rl_alloc (Point.enc Point.z) Try.zeroValue28 rfl rfl ?_
   intro p347 w348 n349 k350
   have lo351 : ∀ b, inBlk (PV p347) b → w.heap.size ≤ b := fun b h => Nat.le_trans c62.size (n349.fresh b h)
   have d352 : ∀ b, inBlk (PV p347) b → ¬ inBlk (PV p326) b := disNew n349.fresh k339.ltp
   have d354 : ∀ b, inBlk (PV p347) b → ¬ inBlk z127 b := disNew n349.fresh (fun b hb => (h131.lt b hb).2)
   have d355 : ∀ b, inBlk (PV p347) b → ¬ inBlk (PV p24) b := disNew n349.fresh h130.ltp
   have d356 : ∀ b, inBlk (PV p347) b → ¬ inBlk (PV p15) b := disNew n349.fresh h128.ltp
   have d357 : ∀ b, inBlk (PV p347) b → ¬ inBlk z126 b := disNew n349.fresh h129.ltp
   have ah0 := slRep.st k_Act_pos ah0 n349.ch (admNew n349.fresh (fun _ x => x))
   have h128 := h128.ch0 n349.ch
   have h129 := h129.ch0 n349.ch
   have h130 := h130.ch0 n349.ch
   have h131 := h131.st n349.ch (fun _ _ x => x) (admNew n349.fresh (fun _ x => x)) (fun b h => (.inr (.inr (.inr (.inl h)))))
   have k339 := k339.ch0 n349.ch
   have c62 := c62.then0 n349.ch
   refine rl_storeA (vs := (Point.enc y345.1)) rfl rfl (all_one rfl) Try.sizeOf28 rfl k350 rfl ?_
   intro w358 s360 c359 k361
   have ad362 : ∀ b, b < w348.heap.size → ¬ (un (inBlk (PV p347)) (un (inBlk (PV p326)) (un (inBlk (PV p73)) (un (inBlk z127) (un (inBlk (PV p24)) (un (inBlk (PV p15)) (un (inBlk z126) nb))))))) b → ¬ (inBlk (PV p347)) b ∧ ¬ (un (inBlk (PV p347)) (un (inBlk (PV p326)) (un (inBlk (PV p73)) (un (inBlk z127) (un (inBlk (PV p24)) (un (inBlk (PV p15)) (un (inBlk z126) nb))))))) b := fun b _ hs => ⟨fun h => hs (.inl h), hs⟩
   have ah0 := slRep.st k_Act_pos ah0 c359 ad362
   have h128 := h128.ch c359 ((fun b hb h => (disSym d356) b hb h) _ rfl)
   have h129 := h129.ch c359 ((fun b hb h => (disSym d357) b hb h))
   have h130 := h130.ch c359 ((fun b hb h => (disSym d355) b hb h) _ rfl)
   have h131 := h131.st c359 (fun b hb h => (disSym d354) b hb h) ad362 (fun b h => (.inr (.inr (.inr (.inl h)))))
   have k339 := k339.ch c359 ((fun b hb h => (disSym d352) b hb h) _ rfl)
   have c62 := c62.then c359 (fun i hi h => absurd (lo351 i h) (Nat.not_le_of_lt hi))
   refine rl_assign rfl rfl ?_
   refine RL.nil (thn_n (CW.seq (CW.region ?_)))
   refine rl_move rfl rfl ?_
   refine rl_move rfl rfl ?_
   refine rl_bin rfl rfl (B.neqB Try.underlying4) rfl ?_
   refine rl_move rfl rfl ?_
   obtain ⟨b365, hb366⟩ : ∃ v, ((!(y324.2 == y345.2)) || (!decide (y324.1 = y345.1))) = v := ⟨_, rfl⟩
   have hb56 := ltS hb366 hb56
   refine RL.join 4 79 (.bool b365) (fun w' => Ch nb w358 w') ?_ ?_
   · rcases Bool.eq_false_or_eq_true (!(y324.2 == y345.2)) with hg364 | hg364
     ·
      have hs363 := or_t hg364 hb366
      have cs : Ch nb w358 w358 := Ch.refl
      refine RL.no rfl rfl rfl hg364 rfl rfl ?_
      refine RL.no rfl rfl rfl hg364 rfl rfl ?_
      refine RL.no rfl rfl rfl hg364 rfl rfl ?_
      refine rl_pickT rfl hg364 rfl rfl ?_
      exact RL.nil ⟨Ext.bothEq (congrArg Value.bool hs363) (Ext.skip rfl (Ext.skip rfl (Ext.skip rfl (Ext.rfl')))), cs⟩
     ·
      have hs363 := or_f hg364 hb366
      have cs : Ch nb w358 w358 := Ch.refl
      refine RL.yes rfl rfl rfl hg364 ?_
      refine rl_loadA (cs := (Point.enc y324.1)) rfl Try.isAgg28 Try.sizeOf28 (k339.segAt 0 18) rfl rfl ?_
      refine RL.yes rfl rfl rfl hg364 ?_
      refine rl_loadA (cs := (Point.enc y345.1)) rfl Try.isAgg28 Try.sizeOf28 (k361.segAt 0 18) rfl rfl ?_
      refine RL.yes rfl rfl rfl hg364 ?_
      refine rl_bin rfl rfl (neq28 y324.1 y345.1) rfl ?_
      refine rl_pickF rfl hg364 rfl rfl ?_
      exact RL.nil ⟨Ext.bothEq (congrArg Value.bool hs363) (Ext.skip rfl (Ext.skip rfl (Ext.skip rfl (Ext.rfl')))), cs⟩
   intro w367 c368
   have ah0 := slRep.ch k_Act_pos ah0 c368
   have h128 := h128.ch0 c368
   have h129 := h129.ch0 c368
   have h130 := h130.ch0 c368
   have h131 := h131.ch0 c368
   have c62 := c62.then0 c368
   refine RL.nil (thn_n ?_)
   refine CW.cond (t := b365) rfl (fun q369 => ?_) (fun q369 => ?_)
   ·
    have hb56 := ifT q369 hb56
    refine CW.seq (CW.region ?_)
    refine rl_assign rfl rfl ?_
    refine RL.nil (thn_n (CW.ret ?_))
    refine inB_ret ?_
    refine thn_ret ?_
    refine thn_ret (inB_ret (thn_ret ?_))
    refine thn_ret ?_
    have f370 := runBO_ret hL52 hq55 hb56
    have hS := retS f370 hS
    obtain rfl := Option.some.inj hS
    exact ret1 rfl ⟨rfl, c62⟩
   have hb56 := ifF q369 hb56
   refine CW.skip ?_
   refine inB_n ?_
   refine thn_n (CW.region ?_)
   refine rl_inc rfl hat53.lt ah0.big rfl ?_
   refine rl_move rfl rfl ?_
   refine RL.nil (thn_n ?_)
   have ad371 : ∀ b, b < w367.heap.size → ¬ (un (inBlk (PV p347)) (un (inBlk (PV p326)) (un (inBlk (PV p73)) (un (inBlk z127) (un (inBlk (PV p24)) (un (inBlk (PV p15)) (un (inBlk z126) nb))))))) b → ¬ nb b ∧ ¬ (un (inBlk (PV p326)) (un (inBlk (PV p73)) (un (inBlk z127) (un (inBlk (PV p24)) (un (inBlk (PV p15)) (un (inBlk z126) nb)))))) b := fun b _ hs => ⟨fun x => x, fun h => hs (un_el h (fun h => (.inr (.inl h))) (fun h => un_el h (fun h => (.inr (.inr (.inl h)))) (fun h => un_el h (fun h => (.inr (.inr (.inr (.inl h))))) (fun h => un_el h (fun h => (.inr (.inr (.inr (.inr (.inl h)))))) (fun h => un_el h (fun h => (.inr (.inr (.inr (.inr (.inr (.inl h))))))) (fun h => un_el h (fun h => (.inr (.inr (.inr (.inr (.inr (.inr (.inl h)))))))) (fun h => False.elim h)))))))⟩
   have crf : Ch nb w367 w367 := Ch.refl
   have ah0 := slRep.st k_Act_pos ah0 crf ad371
   have h128 := h128.ch0 crf
   have h129 := h129.ch0 crf
   have h130 := h130.ch0 crf
   have h131 := h131.st crf (fun _ _ x => x) ad371 (fun b h => (.inr (.inr (.inl h))))
   have c62 := c62.then0 crf
   have ad372 : ∀ b, b < w367.heap.size → ¬ (un (inBlk (PV p326)) (un (inBlk (PV p73)) (un (inBlk z127) (un (inBlk (PV p24)) (un (inBlk (PV p15)) (un (inBlk z126) nb)))))) b → ¬ nb b ∧ ¬ (un (inBlk (PV p73)) (un (inBlk z127) (un (inBlk (PV p24)) (un (inBlk (PV p15)) (un (inBlk z126) nb))))) b := fun b _ hs => ⟨fun x => x, fun h => hs (un_el h (fun h => (.inr (.inl h))) (fun h => un_el h (fun h => (.inr (.inr (.inl h)))) (fun h => un_el h (fun h => (.inr (.inr (.inr (.inl h))))) (fun h => un_el h (fun h => (.inr (.inr (.inr (.inr (.inl h)))))) (fun h => un_el h (fun h => (.inr (.inr (.inr (.inr (.inr (.inl h))))))) (fun h => False.elim h))))))⟩
   have crf : Ch nb w367 w367 := Ch.refl
   have ah0 := slRep.st k_Act_pos ah0 crf ad372
   have h128 := h128.ch0 crf
   have h129 := h129.ch0 crf
   have h130 := h130.ch0 crf
   have h131 := h131.st crf (fun _ _ x => x) ad372 (fun b h => (.inr (.inl h)))
   have c62 := c62.then0 crf
   have ad373 : ∀ b, b < w367.heap.size → ¬ (un (inBlk (PV p73)) (un (inBlk z127) (un (inBlk (PV p24)) (un (inBlk (PV p15)) (un (inBlk z126) nb))))) b → ¬ nb b ∧ ¬ (un (inBlk z127) (un (inBlk (PV p24)) (un (inBlk (PV p15)) (un (inBlk z126) nb)))) b := fun b _ hs => ⟨fun x => x, fun h => hs (un_el h (fun h => (.inr (.inl h))) (fun h => un_el h (fun h => (.inr (.inr (.inl h)))) (fun h => un_el h (fun h => (.inr (.inr (.inr (.inl h))))) (fun h => un_el h (fun h => (.inr (.inr (.inr (.inr (.inl h)))))) (fun h => False.elim h)))))⟩
   have crf : Ch nb w367 w367 := Ch.refl
   have ah0 := slRep.st k_Act_pos ah0 crf ad373
   have h128 := h128.ch0 crf
   have h129 := h129.ch0 crf
   have h130 := h130.ch0 crf
   have h131 := h131.st crf (fun _ _ x => x) ad373 (fun b h => (.inl h))
   have c62 := c62.then0 crf
   have hLn := runBO_next hL52 hq55 hb56
   exact ⟨rest66.length, Nat.lt_succ_self _, [(3, (PV p15)), (4, (PV p24)), (18, av0), (19, (Value.int .i64 ((a0.length : Nat) : Int))), (20, (Value.int .i64 ((i51 + 1 : Nat) : Int)))], ⟨rfl, rfl, rfl, rfl, rfl, trivial⟩, ⟨rest66, i51 + 1, y93.2.1, z126, y93.2.2, z127, rfl, rfl, c62, hat53.next, hLn, ah0, h129, h131, h128, h130, (disSym d138), (disSym d135), (disSym d137), d47, (disSym d136), d134, lo139⟩⟩
  obtain rfl := hat53.nil q65
  have hLf : Lp.fin (x35, x38) = o57 := runBO_done hL52
  refine CW.exit (thn_exit (thn_exit (inB_hit ?_)))
  exact ⟨x35, v36, x38, v39, trivial, c62, hLf, ah0, h37, h40, k41, k42, d44, d45, d46, d47, d48, d49, lo43⟩
 rintro _ w375 ⟨x35, v36, x38, v39, hE376, c374, f377, ah0, h37, h40, k41, k42, d44, d45, d46, d47, d48, d49, lo43⟩
 have hS := finS f377 hS
 refine thn_n (CW.sub [] hE376 ?_)
 refine CW.seq (CW.region ?_)
 refine rl_assign rfl rfl ?_
 refine RL.nil (thn_n (CW.ret ?_))
 obtain rfl := Option.some.inj hS
 exact ret1 rfl ⟨rfl, c374⟩
end Go.Proofs.Ytokikdhilpebmaa
