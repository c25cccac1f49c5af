/- The walks through the code: each call comes to its printed function. Written by a program of this session. -/
import Derived.Test.YtkopifmkikaaiaaM
import Derived.Test.YtkopifmkikaaiaaL
import Derived.Test.YtkopifmkikaaiaaW2
namespace Go.Proofs.Ytkopifmkikaaiaa
open Go K
set_option linter.unusedVariables false
set_option maxHeartbeats 4000000 in
/-- lb/lblaw16.IndexPlays -/
theorem ctr3 (F : Nat → Prop) (w : World) (a0 : (List Act)) (av0 : Value) (ah0 : slRep k_Act F w a0 av0) (r : Bool) (hs : F3_IndexPla a0 = some r) :
    Ret Try.prog 3 #[av0] w fun v w' => v = (Value.bool r) ∧ Ch nb w w' := by
 have hS := hs
 have c0 : Ch nb w w := Ch.refl
 have ah0 := slRep.enter k_Act_pos ah0
 refine Ret.of (n := 120) (args := [_]) (rs := [.tmp 2]) Try.func3 rfl rfl rfl rfl ?_
 refine CW.seq (CW.region ?_)
 refine rl_assign rfl rfl ?_
 refine RL.nil (thn_n (CW.seq ?_))
 refine CW.seq (CW.region ?_)
 obtain ⟨y3, hy4, hS⟩ := bindS hS
 refine rl_callF rfl en5 rfl (ctr5 (G F w.heap.size nb) w  y3 hy4) ?_
 rintro _ w1 ⟨rfl, c2⟩
 have ah0 := slRep.ch k_Act_pos ah0 c2
 have c0 := c0.then0 c2
 refine rl_not rfl rfl ?_
 refine RL.nil (thn_n ?_)
 refine CW.cond (t := !y3) rfl (fun q5 => ?_) (fun q5 => ?_)
 ·
  have hS := ifT q5 hS
  refine CW.seq (CW.region ?_)
  refine rl_assign rfl rfl ?_
  refine RL.nil (thn_n (CW.ret ?_))
  refine thn_ret ?_
  obtain rfl := Option.some.inj hS
  exact ret1 rfl ⟨rfl, c0⟩
 have hS := ifF q5 hS
 refine CW.skip ?_
 refine thn_n (CW.seq ?_)
 refine CW.seq (CW.region ?_)
 refine rl_move rfl rfl ?_
 obtain ⟨y8, hy9⟩ : ∃ y, F6_Long a0 = y := ⟨_, rfl⟩
 have hS := ltS hy9 hS
 refine rl_callF rfl en6 rfl (ctr6 (G F w.heap.size nb) w1 a0 av0 ah0 y8 hy9) ?_
 rintro _ w6 ⟨rfl, c7⟩
 have ah0 := slRep.ch k_Act_pos ah0 c7
 have c0 := c0.then0 c7
 refine RL.nil (thn_n ?_)
 refine CW.cond (t := y8) rfl (fun q10 => ?_) (fun q10 => ?_)
 ·
  have hS := ifT q10 hS
  refine CW.seq (CW.region ?_)
  refine rl_assign rfl rfl ?_
  refine RL.nil (thn_n (CW.ret ?_))
  refine thn_ret ?_
  obtain rfl := Option.some.inj hS
  exact ret1 rfl ⟨rfl, c0⟩
 have hS := ifF q10 hS
 refine CW.skip ?_
 refine thn_n (CW.seq (CW.region ?_))
 obtain ⟨y13, hy14⟩ : ∃ y, F7_New = y := ⟨_, rfl⟩
 have hS := ltS hy14 hS
 refine rl_callF rfl en7 rfl (ctr7 (G F w.heap.size nb) w6  y13 hy14) ?_
 rintro _ w11 ⟨p15, z19, z20, u21, rfl, h16, h17, h18, hf22, hf23, hf24, d25, d26, d27, c12⟩
 have lo28 : ∀ b, inBlk (PV p15) b → w.heap.size ≤ b := fun b h => Nat.le_trans c0.size (hf22 b h)
 have lo29 : ∀ b, inBlk z19 b → w.heap.size ≤ b := fun b h => Nat.le_trans c0.size (hf23 b h)
 have lo30 : ∀ b, inBlk z20 b → w.heap.size ≤ b := fun b h => Nat.le_trans c0.size (hf24 b h)
 have ah0 := slRep.st k_Act_pos ah0 c12 (show ∀ b, b < w6.heap.size → ¬ nb b → ¬ nb b ∧ ¬ (un (inBlk (PV p15)) (un (inBlk z19) (un (inBlk z20) nb))) b from fun b hb hs => ⟨fun x => x, fun h => un_el h (fun h => Nat.not_le_of_lt hb (hf22 b h)) (fun h => un_el h (fun h => Nat.not_le_of_lt hb (hf23 b h)) (fun h => un_el h (fun h => Nat.not_le_of_lt hb (hf24 b h)) (fun h => hs h)))⟩)
 have c0 := c0.then0 c12
 refine rl_build (out := (Index_3.c ({ all := [] } : Index_3) (Value.slice none 0 0))) rfl pl30 Try.zeroValue30 rfl rfl rfl ?_
 refine rl_boxA (cs := (Index_3.c ({ all := [] } : Index_3) (Value.slice none 0 0))) rfl rfl ?_
 intro p31 w32 n33 k34
 have lo35 : ∀ b, inBlk (PV p31) b → w.heap.size ≤ b := fun b h => Nat.le_trans c0.size (n33.fresh b h)
 have d36 : ∀ b, inBlk (PV p31) b → ¬ inBlk (PV p15) b := disNew n33.fresh h16.ltp
 have d37 : ∀ b, inBlk (PV p31) b → ¬ inBlk z19 b := disNew n33.fresh h17.ltp
 have d38 : ∀ b, inBlk (PV p31) b → ¬ inBlk z20 b := disNew n33.fresh h18.ltp
 have ah0 := slRep.st k_Act_pos ah0 n33.ch (admNew n33.fresh (fun _ x => x))
 have h16 := h16.ch0 n33.ch
 have h17 := h17.ch0 n33.ch
 have h18 := h18.ch0 n33.ch
 have c0 := c0.then0 n33.ch
 refine rl_assign rfl rfl ?_
 refine rl_assign rfl rfl ?_
 refine RL.nil (thn_n (CW.seq ?_))
 refine CW.seq (CW.region ?_)
 refine rl_move rfl rfl ?_
 refine rl_lenR rfl ah0 Try.underlying22 rfl ?_
 refine rl_move rfl rfl ?_
 refine RL.nil (thn_n ?_)
 have d40 : ∀ b, inBlk (Value.slice none 0 0) b → ¬ inBlk (PV p31) b := fun _ h => h.elim
 have d41 : ∀ b, inBlk (Value.slice none 0 0) b → ¬ inBlk (PV p15) b := fun _ h => h.elim
 have d42 : ∀ b, inBlk (Value.slice none 0 0) b → ¬ inBlk z19 b := fun _ h => h.elim
 have d43 : ∀ b, inBlk (Value.slice none 0 0) b → ¬ inBlk z20 b := fun _ h => h.elim
 have crf : Ch nb w32 w32 := Ch.refl
 have ah0 := slRep.st k_Act_pos ah0 crf admNil
 have h16 := h16.ch0 crf
 have h17 := h17.ch0 crf
 have h18 := h18.ch0 crf
 have k34 := k34.ch0 crf
 have c0 := c0.then0 crf
 have h39 : SlO k_A2Key 51 F w.heap.size (un (inBlk (Value.slice none 0 0)) (un (inBlk (PV p31)) (un (inBlk (PV p15)) (un (inBlk z19) (un (inBlk z20) nb))))) w32 ([] : List A2Key) (.slice none 0 0) := SlO.nil
 obtain ⟨o74, ho75, hS⟩ := bindS hS
 refine CW.cutB (fun E' w' => ∃ (x44 : Index_2) (v45 : Value) (v47 : Value) (u49 : Value) (x50 : Index_3) (v51 : Value), Sub [] E' ∧ Ch nb w w' ∧ Lp.fin (x44, x50) = o74 ∧ slRep k_Act (G F w.heap.size (un (inBlk v51) (un (inBlk (PV p31)) (un (inBlk (PV p15)) (un (inBlk v45) (un (inBlk v47) nb)))))) w' a0 av0 ∧ Mp (fun x => Value.agg (Key.enc x).toArray) (fun x => Value.agg (Key.enc x).toArray) w' x44.owner v45 ∧ MM (fun x => Value.agg (Key.enc x).toArray) (fun x => Value.agg (Key.enc x).toArray) (fun x => Value.agg (St50.enc x).toArray) w' x44.slices u49 v47 ∧ SlO k_A2Key 51 F w.heap.size (un (inBlk v51) (un (inBlk (PV p31)) (un (inBlk (PV p15)) (un (inBlk v45) (un (inBlk v47) nb))))) w' x50.all v51 ∧ Blk w' p15 47 (Index_2.c x44 v45 u49) ∧ Blk w' p31 30 (Index_3.c x50 v51) ∧ (∀ b, inBlk v51 b → ¬ inBlk (PV p31) b) ∧ (∀ b, inBlk v51 b → ¬ inBlk (PV p15) b) ∧ (∀ b, inBlk v51 b → ¬ inBlk v45 b) ∧ (∀ b, inBlk v51 b → ¬ inBlk v47 b) ∧ (∀ b, inBlk (PV p31) b → ¬ inBlk (PV p15) b) ∧ (∀ b, inBlk (PV p31) b → ¬ inBlk v45 b) ∧ (∀ b, inBlk (PV p31) b → ¬ inBlk v47 b) ∧ (∀ b, inBlk (PV p15) b → ¬ inBlk v45 b) ∧ (∀ b, inBlk (PV p15) b → ¬ inBlk v47 b) ∧ (∀ b, inBlk v45 b → ¬ inBlk v47 b) ∧ (∀ b, inBlk v45 b → w.heap.size ≤ b) ∧ (∀ b, inBlk v47 b → w.heap.size ≤ b)) ?_ ?_
 ·
  refine CW.loopS [(3, (PV p15)), (4, (PV p31)), (18, av0), (19, (Value.int .i64 ((a0.length : Nat) : Int))), (20, (Value.int .i64 ((0 : Nat) : Int)))] ⟨rfl, rfl, rfl, rfl, rfl, trivial⟩ a0.length (fun m E w' => ∃ (rest67 : List Act) (i68 : Nat) (x44 : Index_2) (v45 : Value) (v47 : Value) (u49 : Value) (x50 : Index_3) (v51 : Value), m = rest67.length ∧ E = [(3, (PV p15)), (4, (PV p31)), (18, av0), (19, (Value.int .i64 ((a0.length : Nat) : Int))), (20, (Value.int .i64 ((i68 : Nat) : Int)))] ∧ Ch nb w w' ∧ At a0 i68 rest67 ∧ runBO F3_IndexPla_b1 rest67 (x44, x50) = some o74 ∧ slRep k_Act (G F w.heap.size (un (inBlk v51) (un (inBlk (PV p31)) (un (inBlk (PV p15)) (un (inBlk v45) (un (inBlk v47) nb)))))) w' a0 av0 ∧ Mp (fun x => Value.agg (Key.enc x).toArray) (fun x => Value.agg (Key.enc x).toArray) w' x44.owner v45 ∧ MM (fun x => Value.agg (Key.enc x).toArray) (fun x => Value.agg (Key.enc x).toArray) (fun x => Value.agg (St50.enc x).toArray) w' x44.slices u49 v47 ∧ SlO k_A2Key 51 F w.heap.size (un (inBlk v51) (un (inBlk (PV p31)) (un (inBlk (PV p15)) (un (inBlk v45) (un (inBlk v47) nb))))) w' x50.all v51 ∧ Blk w' p15 47 (Index_2.c x44 v45 u49) ∧ Blk w' p31 30 (Index_3.c x50 v51) ∧ (∀ b, inBlk v51 b → ¬ inBlk (PV p31) b) ∧ (∀ b, inBlk v51 b → ¬ inBlk (PV p15) b) ∧ (∀ b, inBlk v51 b → ¬ inBlk v45 b) ∧ (∀ b, inBlk v51 b → ¬ inBlk v47 b) ∧ (∀ b, inBlk (PV p31) b → ¬ inBlk (PV p15) b) ∧ (∀ b, inBlk (PV p31) b → ¬ inBlk v45 b) ∧ (∀ b, inBlk (PV p31) b → ¬ inBlk v47 b) ∧ (∀ b, inBlk (PV p15) b → ¬ inBlk v45 b) ∧ (∀ b, inBlk (PV p15) b → ¬ inBlk v47 b) ∧ (∀ b, inBlk v45 b → ¬ inBlk v47 b) ∧ (∀ b, inBlk v45 b → w.heap.size ≤ b) ∧ (∀ b, inBlk v47 b → w.heap.size ≤ b))
      ⟨a0, 0, y13, z19, z20, u21, ({ all := [] } : Index_3), (Value.slice none 0 0), rfl, rfl, c0, At.start, ho75, ah0, h17, h18, h39, h16, k34, d40, d41, d42, d43, d36, d37, d38, d25, d26, d27, lo29, lo30⟩ ?_
  rintro _ _ w80 ⟨rest67, i68, x44, v45, v47, u49, x50, v51, rfl, rfl, c79, hat70, hL69, ah0, h46, h48, h52, k53, k54, d57, d58, d59, d60, d61, d62, d63, d64, d65, d66, lo55, lo56⟩
  refine CW.seq (CW.region ?_)
  refine rl_bin rfl rfl B.lss rfl ?_
  refine RL.nil (thn_n ?_)
  refine CW.seq ?_
  refine CW.cond (t := decide (((i68 : Nat) : Int) < ((a0.length : Nat) : Int))) rfl (fun q82 => ?_) (fun q82 => ?_)
  ·
   obtain ⟨x76, rest83, rfl⟩ := hat70.cons q82
   obtain ⟨q71, hq72⟩ := runBO_some hL69
   have hb73 := hq72
   refine CW.skip (thn_n ?_)
   refine CW.seq ?_
   refine CW.block ?_
   refine CW.seq (CW.region ?_)
   refine rl_ixR rfl ah0 rfl hat70.get Try.underlying22 Try.sizeOf34 rfl ?_
   intro p84 o85 cs86 hr87 hs88 hg89
   obtain rfl := hr87
   refine rl_loadA (cs := (Act.enc x76)) rfl Try.isAgg34 Try.sizeOf34 (hs88) rfl rfl ?_
   refine rl_alloc (Act.enc Act.z) Try.zeroValue34 rfl rfl ?_
   intro p90 w91 n92 k93
   have lo94 : ∀ b, inBlk (PV p90) b → w.heap.size ≤ b := fun b h => Nat.le_trans c79.size (n92.fresh b h)
   have d95 : ∀ b, inBlk (PV p90) b → ¬ inBlk v51 b := disNew n92.fresh (fun b hb => (h52.lt b hb).2)
   have d96 : ∀ b, inBlk (PV p90) b → ¬ inBlk (PV p31) b := disNew n92.fresh k54.ltp
   have d97 : ∀ b, inBlk (PV p90) b → ¬ inBlk (PV p15) b := disNew n92.fresh k53.ltp
   have d98 : ∀ b, inBlk (PV p90) b → ¬ inBlk v45 b := disNew n92.fresh h46.ltp
   have d99 : ∀ b, inBlk (PV p90) b → ¬ inBlk v47 b := disNew n92.fresh h48.ltp
   have ah0 := slRep.st k_Act_pos ah0 n92.ch (admNew n92.fresh (fun _ x => x))
   have h46 := h46.ch0 n92.ch
   have h48 := h48.ch0 n92.ch
   have h52 := h52.st n92.ch (fun _ _ x => x) (admNew n92.fresh (fun _ x => x)) (fun b h => (.inr (.inl h)))
   have k53 := k53.ch0 n92.ch
   have k54 := k54.ch0 n92.ch
   have c79 := c79.then0 n92.ch
   refine rl_storeA (vs := (Act.enc x76)) rfl rfl (all_one rfl) Try.sizeOf34 rfl k93 rfl ?_
   intro w100 s102 c101 k103
   have ad104 : ∀ b, b < w91.heap.size → ¬ (un (inBlk (PV p90)) (un (inBlk v51) (un (inBlk (PV p31)) (un (inBlk (PV p15)) (un (inBlk v45) (un (inBlk v47) nb)))))) b → ¬ (inBlk (PV p90)) b ∧ ¬ (un (inBlk (PV p90)) (un (inBlk v51) (un (inBlk (PV p31)) (un (inBlk (PV p15)) (un (inBlk v45) (un (inBlk v47) nb)))))) b := fun b _ hs => ⟨fun h => hs (.inl h), hs⟩
   have ah0 := slRep.st k_Act_pos ah0 c101 ad104
   have h46 := h46.ch c101 ((fun b hb h => (disSym d98) b hb h))
   have h48 := h48.ch c101 ((fun b hb h => (disSym d99) b hb h))
   have h52 := h52.st c101 (fun b hb h => (disSym d95) b hb h) ad104 (fun b h => (.inr (.inl h)))
   have k53 := k53.ch c101 ((fun b hb h => (disSym d97) b hb h) _ rfl)
   have k54 := k54.ch c101 ((fun b hb h => (disSym d96) b hb h) _ rfl)
   have c79 := c79.then c101 (fun i hi h => absurd (lo94 i h) (Nat.not_le_of_lt hi))
   refine RL.nil (thn_n (CW.seq (CW.region ?_)))
   refine rl_alloc (Key.enc Key.z) Try.zeroValue32 rfl rfl ?_
   intro p105 w106 n107 k108
   have lo109 : ∀ b, inBlk (PV p105) b → w.heap.size ≤ b := fun b h => Nat.le_trans c79.size (n107.fresh b h)
   have d110 : ∀ b, inBlk (PV p105) b → ¬ inBlk (PV p90) b := disNew n107.fresh k103.ltp
   have d111 : ∀ b, inBlk (PV p105) b → ¬ inBlk v51 b := disNew n107.fresh (fun b hb => (h52.lt b hb).2)
   have d112 : ∀ b, inBlk (PV p105) b → ¬ inBlk (PV p31) b := disNew n107.fresh k54.ltp
   have d113 : ∀ b, inBlk (PV p105) b → ¬ inBlk (PV p15) b := disNew n107.fresh k53.ltp
   have d114 : ∀ b, inBlk (PV p105) b → ¬ inBlk v45 b := disNew n107.fresh h46.ltp
   have d115 : ∀ b, inBlk (PV p105) b → ¬ inBlk v47 b := disNew n107.fresh h48.ltp
   have ah0 := slRep.st k_Act_pos ah0 n107.ch (admNew n107.fresh (fun _ x => x))
   have h46 := h46.ch0 n107.ch
   have h48 := h48.ch0 n107.ch
   have h52 := h52.st n107.ch (fun _ _ x => x) (admNew n107.fresh (fun _ x => x)) (fun b h => (.inr (.inr (.inl h))))
   have k53 := k53.ch0 n107.ch
   have k54 := k54.ch0 n107.ch
   have k103 := k103.ch0 n107.ch
   have c79 := c79.then0 n107.ch
   refine rl_alloc (Key.enc Key.z) Try.zeroValue32 rfl rfl ?_
   intro p116 w117 n118 k119
   have lo120 : ∀ b, inBlk (PV p116) b → w.heap.size ≤ b := fun b h => Nat.le_trans c79.size (n118.fresh b h)
   have d121 : ∀ b, inBlk (PV p116) b → ¬ inBlk (PV p105) b := disNew n118.fresh k108.ltp
   have d122 : ∀ b, inBlk (PV p116) b → ¬ inBlk (PV p90) b := disNew n118.fresh k103.ltp
   have d123 : ∀ b, inBlk (PV p116) b → ¬ inBlk v51 b := disNew n118.fresh (fun b hb => (h52.lt b hb).2)
   have d124 : ∀ b, inBlk (PV p116) b → ¬ inBlk (PV p31) b := disNew n118.fresh k54.ltp
   have d125 : ∀ b, inBlk (PV p116) b → ¬ inBlk (PV p15) b := disNew n118.fresh k53.ltp
   have d126 : ∀ b, inBlk (PV p116) b → ¬ inBlk v45 b := disNew n118.fresh h46.ltp
   have d127 : ∀ b, inBlk (PV p116) b → ¬ inBlk v47 b := disNew n118.fresh h48.ltp
   have ah0 := slRep.st k_Act_pos ah0 n118.ch (admNew n118.fresh (fun _ x => x))
   have h46 := h46.ch0 n118.ch
   have h48 := h48.ch0 n118.ch
   have h52 := h52.st n118.ch (fun _ _ x => x) (admNew n118.fresh (fun _ x => x)) (fun b h => (.inr (.inr (.inr (.inl h)))))
   have k53 := k53.ch0 n118.ch
   have k54 := k54.ch0 n118.ch
   have k103 := k103.ch0 n118.ch
   have k108 := k108.ch0 n118.ch
   have c79 := c79.then0 n118.ch
   refine RL.nil (thn_n (CW.seq (CW.region ?_)))
   refine rl_assign rfl rfl ?_
   refine rl_assign rfl rfl ?_
   refine RL.nil (thn_n (CW.seq ?_))
   refine CW.seq (CW.region ?_)
   refine rl_fieldAddr rfl fa34_0 rfl ?_
   refine rl_loadS (v := (Value.int .i64 x76.kind)) rfl Try.isAgg3 (k103.cell rfl) rfl ?_
   refine rl_bin rfl rfl B.eql rfl ?_
   refine RL.nil (thn_n ?_)
   refine CW.cond (t := decide (x76.kind = 0)) rfl (fun q128 => ?_) (fun q128 => ?_)
   ·
    have hb73 := ifT q128 hb73
    refine CW.seq (CW.region ?_)
    refine rl_move rfl rfl ?_
    refine rl_fieldAddr rfl fa34_1 rfl ?_
    refine rl_loadA (cs := (Key.enc x76.slice)) rfl Try.isAgg32 Try.sizeOf32 (k103.segAt 1 2) rfl rfl ?_
    refine rl_fieldAddr rfl fa34_2 rfl ?_
    refine rl_loadA (cs := (Key.enc x76.owner)) rfl Try.isAgg32 Try.sizeOf32 (k103.segAt 3 2) rfl rfl ?_
    have hd129 : ∀ b, (un (inBlk (PV p15)) (un (inBlk v45) (inBlk v47))) b → ¬ (un (inBlk (PV p116)) (un (inBlk (PV p105)) (un (inBlk (PV p90)) (un (inBlk v51) (un (inBlk (PV p31)) nb))))) b := fun b h => un_el h (fun h => (fun b hb => fun h => un_el h (fun h => (disSym d125) b hb h) (fun h => un_el h (fun h => (disSym d113) b hb h) (fun h => un_el h (fun h => (disSym d97) b hb h) (fun h => un_el h (fun h => (disSym d58) b hb h) (fun h => un_el h (fun h => (disSym d61) b hb h) (fun h => h)))))) b h) (fun h => un_el h (fun h => (fun b hb => fun h => un_el h (fun h => (disSym d126) b hb h) (fun h => un_el h (fun h => (disSym d114) b hb h) (fun h => un_el h (fun h => (disSym d98) b hb h) (fun h => un_el h (fun h => (disSym d59) b hb h) (fun h => un_el h (fun h => (disSym d62) b hb h) (fun h => h)))))) b h) (fun h => (fun b hb => fun h => un_el h (fun h => (disSym d127) b hb h) (fun h => un_el h (fun h => (disSym d115) b hb h) (fun h => un_el h (fun h => (disSym d99) b hb h) (fun h => un_el h (fun h => (disSym d60) b hb h) (fun h => un_el h (fun h => (disSym d63) b hb h) (fun h => h)))))) b h))
    obtain ⟨y133, hy134, hb73⟩ := bindS hb73
    refine rl_callF rfl en8 rfl (ctr8 F w117 w.heap.size (un (inBlk (PV p116)) (un (inBlk (PV p105)) (un (inBlk (PV p90)) (un (inBlk v51) (un (inBlk (PV p31)) nb))))) c79.size (un_lt k119.ltp (un_lt k108.ltp (un_lt k103.ltp (un_lt (fun b hb => (h52.lt b hb).2) (un_lt k54.ltp nbS))))) p15 v45 v47 u49 hd129 d64 d65 d66 x44 k53 h46 h48 x76.slice x76.owner y133 hy134) ?_
    rintro _ w131 ⟨z135, z136, u137, rfl, h138, h139, h140, hf141, hf142, d143, d144, d145, c132⟩
    have lo146 : ∀ b, inBlk z135 b → w.heap.size ≤ b := fun b h => (hf141 b h).elim (fun h => un_el h (fun h => lo28 b h) (fun h => un_el h (fun h => lo55 b h) (fun h => lo56 b h))) (Nat.le_trans c79.size)
    have d147 : ∀ b, inBlk z135 b → ¬ inBlk (PV p116) b := fun b h hu => (hf141 b h).elim (fun h => un_el h (fun h => (disSym d125) b h hu) (fun h => un_el h (fun h => (disSym d126) b h hu) (fun h => (disSym d127) b h hu))) (fun h => Nat.not_le_of_lt (k119.ltp b hu) h)
    have d148 : ∀ b, inBlk z135 b → ¬ inBlk (PV p105) b := fun b h hu => (hf141 b h).elim (fun h => un_el h (fun h => (disSym d113) b h hu) (fun h => un_el h (fun h => (disSym d114) b h hu) (fun h => (disSym d115) b h hu))) (fun h => Nat.not_le_of_lt (k108.ltp b hu) h)
    have d149 : ∀ b, inBlk z135 b → ¬ inBlk (PV p90) b := fun b h hu => (hf141 b h).elim (fun h => un_el h (fun h => (disSym d97) b h hu) (fun h => un_el h (fun h => (disSym d98) b h hu) (fun h => (disSym d99) b h hu))) (fun h => Nat.not_le_of_lt (k103.ltp b hu) h)
    have d150 : ∀ b, inBlk z135 b → ¬ inBlk v51 b := fun b h hu => (hf141 b h).elim (fun h => un_el h (fun h => (disSym d58) b h hu) (fun h => un_el h (fun h => (disSym d59) b h hu) (fun h => (disSym d60) b h hu))) (fun h => Nat.not_le_of_lt ((fun b hb => (h52.lt b hb).2) b hu) h)
    have d151 : ∀ b, inBlk z135 b → ¬ inBlk (PV p31) b := fun b h hu => (hf141 b h).elim (fun h => un_el h (fun h => (disSym d61) b h hu) (fun h => un_el h (fun h => (disSym d62) b h hu) (fun h => (disSym d63) b h hu))) (fun h => Nat.not_le_of_lt (k54.ltp b hu) h)
    have lo152 : ∀ b, inBlk z136 b → w.heap.size ≤ b := fun b h => (hf142 b h).elim (fun h => un_el h (fun h => lo28 b h) (fun h => un_el h (fun h => lo55 b h) (fun h => lo56 b h))) (Nat.le_trans c79.size)
    have d153 : ∀ b, inBlk z136 b → ¬ inBlk (PV p116) b := fun b h hu => (hf142 b h).elim (fun h => un_el h (fun h => (disSym d125) b h hu) (fun h => un_el h (fun h => (disSym d126) b h hu) (fun h => (disSym d127) b h hu))) (fun h => Nat.not_le_of_lt (k119.ltp b hu) h)
    have d154 : ∀ b, inBlk z136 b → ¬ inBlk (PV p105) b := fun b h hu => (hf142 b h).elim (fun h => un_el h (fun h => (disSym d113) b h hu) (fun h => un_el h (fun h => (disSym d114) b h hu) (fun h => (disSym d115) b h hu))) (fun h => Nat.not_le_of_lt (k108.ltp b hu) h)
    have d155 : ∀ b, inBlk z136 b → ¬ inBlk (PV p90) b := fun b h hu => (hf142 b h).elim (fun h => un_el h (fun h => (disSym d97) b h hu) (fun h => un_el h (fun h => (disSym d98) b h hu) (fun h => (disSym d99) b h hu))) (fun h => Nat.not_le_of_lt (k103.ltp b hu) h)
    have d156 : ∀ b, inBlk z136 b → ¬ inBlk v51 b := fun b h hu => (hf142 b h).elim (fun h => un_el h (fun h => (disSym d58) b h hu) (fun h => un_el h (fun h => (disSym d59) b h hu) (fun h => (disSym d60) b h hu))) (fun h => Nat.not_le_of_lt ((fun b hb => (h52.lt b hb).2) b hu) h)
    have d157 : ∀ b, inBlk z136 b → ¬ inBlk (PV p31) b := fun b h hu => (hf142 b h).elim (fun h => un_el h (fun h => (disSym d61) b h hu) (fun h => un_el h (fun h => (disSym d62) b h hu) (fun h => (disSym d63) b h hu))) (fun h => Nat.not_le_of_lt (k54.ltp b hu) h)
    have ha159 : ∀ b, b < w117.heap.size → ¬ (un (inBlk (PV p116)) (un (inBlk (PV p105)) (un (inBlk (PV p90)) (un (inBlk v51) (un (inBlk (PV p31)) (un (inBlk (PV p15)) (un (inBlk v45) (un (inBlk v47) nb)))))))) b → ¬ (un (inBlk (PV p15)) (un (inBlk v45) (inBlk v47))) b ∧ ¬ (un (inBlk (PV p116)) (un (inBlk (PV p105)) (un (inBlk (PV p90)) (un (inBlk v51) (un (inBlk (PV p31)) (un (inBlk (PV p15)) (un (inBlk z135) (un (inBlk z136) nb)))))))) b := fun b hb hs => ⟨fun h => un_el h (fun h => hs (.inr (.inr (.inr (.inr (.inr (.inl h))))))) (fun h => un_el h (fun h => hs (.inr (.inr (.inr (.inr (.inr (.inr (.inl h)))))))) (fun h => hs (.inr (.inr (.inr (.inr (.inr (.inr (.inr (.inl h)))))))))), fun h => un_el h (fun h => hs (.inl h)) (fun h => un_el h (fun h => hs (.inr (.inl h))) (fun h => un_el h (fun h => hs (.inr (.inr (.inl h)))) (fun h => un_el h (fun h => hs (.inr (.inr (.inr (.inl h))))) (fun h => un_el h (fun h => hs (.inr (.inr (.inr (.inr (.inl h)))))) (fun h => un_el h (fun h => hs (.inr (.inr (.inr (.inr (.inr (.inl h))))))) (fun h => un_el h (fun h => (hf141 b h).elim (fun h => un_el h (fun h => hs (.inr (.inr (.inr (.inr (.inr (.inl h))))))) (fun h => un_el h (fun h => hs (.inr (.inr (.inr (.inr (.inr (.inr (.inl h)))))))) (fun h => hs (.inr (.inr (.inr (.inr (.inr (.inr (.inr (.inl h))))))))))) (fun h => Nat.not_le_of_lt hb h)) (fun h => un_el h (fun h => (hf142 b h).elim (fun h => un_el h (fun h => hs (.inr (.inr (.inr (.inr (.inr (.inl h))))))) (fun h => un_el h (fun h => hs (.inr (.inr (.inr (.inr (.inr (.inr (.inl h)))))))) (fun h => hs (.inr (.inr (.inr (.inr (.inr (.inr (.inr (.inl h))))))))))) (fun h => Nat.not_le_of_lt hb h)) (fun h => False.elim h))))))))⟩
    have ah0 := slRep.st k_Act_pos ah0 c132 ha159
    have h52 := h52.st c132 (fun b hb h => un_el h (fun h => d58 b hb h) (fun h => un_el h (fun h => d59 b hb h) (fun h => d60 b hb h))) ha159 (fun b h => (.inr (.inr (.inr (.inl h)))))
    have k54 := k54.ch c132 ((fun b hb h => un_el h (fun h => d61 b hb h) (fun h => un_el h (fun h => d62 b hb h) (fun h => d63 b hb h))) _ rfl)
    have k103 := k103.ch c132 ((fun b hb h => un_el h (fun h => d97 b hb h) (fun h => un_el h (fun h => d98 b hb h) (fun h => d99 b hb h))) _ rfl)
    have k108 := k108.ch c132 ((fun b hb h => un_el h (fun h => d113 b hb h) (fun h => un_el h (fun h => d114 b hb h) (fun h => d115 b hb h))) _ rfl)
    have k119 := k119.ch c132 ((fun b hb h => un_el h (fun h => d125 b hb h) (fun h => un_el h (fun h => d126 b hb h) (fun h => d127 b hb h))) _ rfl)
    have c79 := c79.then c132 (fun i hi h => un_el h (fun h => absurd (lo28 i h) (Nat.not_le_of_lt hi)) (fun h => un_el h (fun h => absurd (lo55 i h) (Nat.not_le_of_lt hi)) (fun h => absurd (lo56 i h) (Nat.not_le_of_lt hi))))
    refine rl_move rfl rfl ?_
    refine rl_extract rfl rfl rfl ?_
    refine rl_extract rfl rfl rfl ?_
    refine rl_storeA (vs := (Key.enc y133.1)) rfl rfl (all_one rfl) Try.sizeOf32 rfl k108 rfl ?_
    intro w160 s162 c161 k163
    have ad164 : ∀ b, b < w131.heap.size → ¬ (un (inBlk (PV p116)) (un (inBlk (PV p105)) (un (inBlk (PV p90)) (un (inBlk v51) (un (inBlk (PV p31)) (un (inBlk (PV p15)) (un (inBlk z135) (un (inBlk z136) nb)))))))) b → ¬ (inBlk (PV p105)) b ∧ ¬ (un (inBlk (PV p116)) (un (inBlk (PV p105)) (un (inBlk (PV p90)) (un (inBlk v51) (un (inBlk (PV p31)) (un (inBlk (PV p15)) (un (inBlk z135) (un (inBlk z136) nb)))))))) b := fun b _ hs => ⟨fun h => hs (.inr (.inl h)), hs⟩
    have ah0 := slRep.st k_Act_pos ah0 c161 ad164
    have h52 := h52.st c161 (fun b hb h => (disSym d111) b hb h) ad164 (fun b h => (.inr (.inr (.inr (.inl h)))))
    have k54 := k54.ch c161 ((fun b hb h => (disSym d112) b hb h) _ rfl)
    have k103 := k103.ch c161 ((fun b hb h => (disSym d110) b hb h) _ rfl)
    have k119 := k119.ch c161 ((fun b hb h => d121 b hb h) _ rfl)
    have h138 := h138.ch c161 ((fun b hb h => (disSym d113) b hb h) _ rfl)
    have h139 := h139.ch c161 ((fun b hb h => d148 b hb h))
    have h140 := h140.ch c161 ((fun b hb h => d154 b hb h))
    have c79 := c79.then c161 (fun i hi h => absurd (lo109 i h) (Nat.not_le_of_lt hi))
    refine rl_assign rfl rfl ?_
    refine RL.nil (thn_n (CW.region ?_))
    refine rl_move rfl rfl ?_
    refine rl_fieldAddr rfl fa34_1 rfl ?_
    refine rl_loadA (cs := (Key.enc x76.slice)) rfl Try.isAgg32 Try.sizeOf32 (k103.segAt 1 2) rfl rfl ?_
    refine rl_fieldAddr rfl fa34_2 rfl ?_
    refine rl_loadA (cs := (Key.enc x76.owner)) rfl Try.isAgg32 Try.sizeOf32 (k103.segAt 3 2) rfl rfl ?_
    have hd165 : ∀ b, (un (inBlk (PV p31)) (inBlk v51)) b → ¬ (un (inBlk (PV p116)) (un (inBlk (PV p105)) (un (inBlk (PV p90)) (un (inBlk (PV p15)) (un (inBlk z135) (un (inBlk z136) nb)))))) b := fun b h => un_el h (fun h => (fun b hb => fun h => un_el h (fun h => (disSym d124) b hb h) (fun h => un_el h (fun h => (disSym d112) b hb h) (fun h => un_el h (fun h => (disSym d96) b hb h) (fun h => un_el h (fun h => d61 b hb h) (fun h => un_el h (fun h => (disSym d151) b hb h) (fun h => un_el h (fun h => (disSym d157) b hb h) (fun h => h))))))) b h) (fun h => (fun b hb => fun h => un_el h (fun h => (disSym d123) b hb h) (fun h => un_el h (fun h => (disSym d111) b hb h) (fun h => un_el h (fun h => (disSym d95) b hb h) (fun h => un_el h (fun h => d58 b hb h) (fun h => un_el h (fun h => (disSym d150) b hb h) (fun h => un_el h (fun h => (disSym d156) b hb h) (fun h => h))))))) b h)
    have hS166 : (un (inBlk (PV p116)) (un (inBlk (PV p105)) (un (inBlk (PV p90)) (un (inBlk v51) (un (inBlk (PV p31)) (un (inBlk (PV p15)) (un (inBlk z135) (un (inBlk z136) nb)))))))) = (un (inBlk (PV p31)) (un (inBlk v51) (un (inBlk (PV p116)) (un (inBlk (PV p105)) (un (inBlk (PV p90)) (un (inBlk (PV p15)) (un (inBlk z135) (un (inBlk z136) nb)))))))) := funext fun b => propext ⟨fun h => un_el h (fun h => (.inr (.inr (.inl h)))) (fun h => un_el h (fun h => (.inr (.inr (.inr (.inl h))))) (fun h => un_el h (fun h => (.inr (.inr (.inr (.inr (.inl h)))))) (fun h => un_el h (fun h => (.inr (.inl h))) (fun h => un_el h (fun h => (.inl h)) (fun h => un_el h (fun h => (.inr (.inr (.inr (.inr (.inr (.inl h))))))) (fun h => un_el h (fun h => (.inr (.inr (.inr (.inr (.inr (.inr (.inl h)))))))) (fun h => un_el h (fun h => (.inr (.inr (.inr (.inr (.inr (.inr (.inr (.inl h))))))))) (fun h => False.elim h)))))))), fun h => un_el h (fun h => (.inr (.inr (.inr (.inr (.inl h)))))) (fun h => un_el h (fun h => (.inr (.inr (.inr (.inl h))))) (fun h => un_el h (fun h => (.inl h)) (fun h => un_el h (fun h => (.inr (.inl h))) (fun h => un_el h (fun h => (.inr (.inr (.inl h)))) (fun h => un_el h (fun h => (.inr (.inr (.inr (.inr (.inr (.inl h))))))) (fun h => un_el h (fun h => (.inr (.inr (.inr (.inr (.inr (.inr (.inl h)))))))) (fun h => un_el h (fun h => (.inr (.inr (.inr (.inr (.inr (.inr (.inr (.inl h))))))))) (fun h => False.elim h))))))))⟩
    obtain ⟨y169, hy170, hb73⟩ := bindS hb73
    refine rl_callF rfl en9 rfl (ctr9 F w160 w.heap.size (un (inBlk (PV p116)) (un (inBlk (PV p105)) (un (inBlk (PV p90)) (un (inBlk (PV p15)) (un (inBlk z135) (un (inBlk z136) nb)))))) c79.size (un_lt k119.ltp (un_lt k163.ltp (un_lt k103.ltp (un_lt h138.ltp (un_lt h139.ltp (un_lt h140.ltp nbS)))))) p31 v51 hd165 (disSym d57) x50 k54 (hS166 ▸ h52) x76.slice x76.owner y169 hy170) ?_
    rintro _ w167 ⟨z171, rfl, h172, h173, hf174, d175, c168⟩
    have d177 : ∀ b, inBlk z171 b → ¬ inBlk (PV p116) b := fun b h hu => (hf174 b h).elim (fun h => un_el h (fun h => (disSym d124) b h hu) (fun h => (disSym d123) b h hu)) (fun h => Nat.not_le_of_lt (k119.ltp b hu) h)
    have d178 : ∀ b, inBlk z171 b → ¬ inBlk (PV p105) b := fun b h hu => (hf174 b h).elim (fun h => un_el h (fun h => (disSym d112) b h hu) (fun h => (disSym d111) b h hu)) (fun h => Nat.not_le_of_lt (k163.ltp b hu) h)
    have d179 : ∀ b, inBlk z171 b → ¬ inBlk (PV p90) b := fun b h hu => (hf174 b h).elim (fun h => un_el h (fun h => (disSym d96) b h hu) (fun h => (disSym d95) b h hu)) (fun h => Nat.not_le_of_lt (k103.ltp b hu) h)
    have d180 : ∀ b, inBlk z171 b → ¬ inBlk (PV p15) b := fun b h hu => (hf174 b h).elim (fun h => un_el h (fun h => d61 b h hu) (fun h => d58 b h hu)) (fun h => Nat.not_le_of_lt (h138.ltp b hu) h)
    have d181 : ∀ b, inBlk z171 b → ¬ inBlk z135 b := fun b h hu => (hf174 b h).elim (fun h => un_el h (fun h => (disSym d151) b h hu) (fun h => (disSym d150) b h hu)) (fun h => Nat.not_le_of_lt (h139.ltp b hu) h)
    have d182 : ∀ b, inBlk z171 b → ¬ inBlk z136 b := fun b h hu => (hf174 b h).elim (fun h => un_el h (fun h => (disSym d157) b h hu) (fun h => (disSym d156) b h hu)) (fun h => Nat.not_le_of_lt (h140.ltp b hu) h)
    have hS183 : (un (inBlk (PV p116)) (un (inBlk (PV p105)) (un (inBlk (PV p90)) (un (inBlk z171) (un (inBlk (PV p31)) (un (inBlk (PV p15)) (un (inBlk z135) (un (inBlk z136) nb)))))))) = (un (inBlk (PV p31)) (un (inBlk z171) (un (inBlk (PV p116)) (un (inBlk (PV p105)) (un (inBlk (PV p90)) (un (inBlk (PV p15)) (un (inBlk z135) (un (inBlk z136) nb)))))))) := funext fun b => propext ⟨fun h => un_el h (fun h => (.inr (.inr (.inl h)))) (fun h => un_el h (fun h => (.inr (.inr (.inr (.inl h))))) (fun h => un_el h (fun h => (.inr (.inr (.inr (.inr (.inl h)))))) (fun h => un_el h (fun h => (.inr (.inl h))) (fun h => un_el h (fun h => (.inl h)) (fun h => un_el h (fun h => (.inr (.inr (.inr (.inr (.inr (.inl h))))))) (fun h => un_el h (fun h => (.inr (.inr (.inr (.inr (.inr (.inr (.inl h)))))))) (fun h => un_el h (fun h => (.inr (.inr (.inr (.inr (.inr (.inr (.inr (.inl h))))))))) (fun h => False.elim h)))))))), fun h => un_el h (fun h => (.inr (.inr (.inr (.inr (.inl h)))))) (fun h => un_el h (fun h => (.inr (.inr (.inr (.inl h))))) (fun h => un_el h (fun h => (.inl h)) (fun h => un_el h (fun h => (.inr (.inl h))) (fun h => un_el h (fun h => (.inr (.inr (.inl h)))) (fun h => un_el h (fun h => (.inr (.inr (.inr (.inr (.inr (.inl h))))))) (fun h => un_el h (fun h => (.inr (.inr (.inr (.inr (.inr (.inr (.inl h)))))))) (fun h => un_el h (fun h => (.inr (.inr (.inr (.inr (.inr (.inr (.inr (.inl h))))))))) (fun h => False.elim h))))))))⟩
    rw [← hS183] at h173
    have ha184 : ∀ b, b < w160.heap.size → ¬ (un (inBlk (PV p116)) (un (inBlk (PV p105)) (un (inBlk (PV p90)) (un (inBlk v51) (un (inBlk (PV p31)) (un (inBlk (PV p15)) (un (inBlk z135) (un (inBlk z136) nb)))))))) b → ¬ (un (inBlk (PV p31)) (inBlk v51)) b ∧ ¬ (un (inBlk (PV p116)) (un (inBlk (PV p105)) (un (inBlk (PV p90)) (un (inBlk z171) (un (inBlk (PV p31)) (un (inBlk (PV p15)) (un (inBlk z135) (un (inBlk z136) nb)))))))) b := fun b hb hs => ⟨fun h => un_el h (fun h => hs (.inr (.inr (.inr (.inr (.inl h)))))) (fun h => hs (.inr (.inr (.inr (.inl h))))), fun h => un_el h (fun h => hs (.inl h)) (fun h => un_el h (fun h => hs (.inr (.inl h))) (fun h => un_el h (fun h => hs (.inr (.inr (.inl h)))) (fun h => un_el h (fun h => (hf174 b h).elim (fun h => un_el h (fun h => hs (.inr (.inr (.inr (.inr (.inl h)))))) (fun h => hs (.inr (.inr (.inr (.inl h)))))) (fun h => Nat.not_le_of_lt hb h)) (fun h => un_el h (fun h => hs (.inr (.inr (.inr (.inr (.inl h)))))) (fun h => un_el h (fun h => hs (.inr (.inr (.inr (.inr (.inr (.inl h))))))) (fun h => un_el h (fun h => hs (.inr (.inr (.inr (.inr (.inr (.inr (.inl h)))))))) (fun h => un_el h (fun h => hs (.inr (.inr (.inr (.inr (.inr (.inr (.inr (.inl h))))))))) (fun h => False.elim h))))))))⟩
    have ah0 := slRep.st k_Act_pos ah0 c168 ha184
    have k103 := k103.ch c168 ((fun b hb h => un_el h (fun h => d96 b hb h) (fun h => d95 b hb h)) _ rfl)
    have k119 := k119.ch c168 ((fun b hb h => un_el h (fun h => d124 b hb h) (fun h => d123 b hb h)) _ rfl)
    have h138 := h138.ch c168 ((fun b hb h => un_el h (fun h => (disSym d61) b hb h) (fun h => (disSym d58) b hb h)) _ rfl)
    have h139 := h139.ch c168 ((fun b hb h => un_el h (fun h => d151 b hb h) (fun h => d150 b hb h)))
    have h140 := h140.ch c168 ((fun b hb h => un_el h (fun h => d157 b hb h) (fun h => d156 b hb h)))
    have k163 := k163.ch c168 ((fun b hb h => un_el h (fun h => d112 b hb h) (fun h => d111 b hb h)) _ rfl)
    have c79 := c79.then c168 (fun i hi h => un_el h (fun h => absurd (lo35 i h) (Nat.not_le_of_lt hi)) (fun h => absurd ((fun b hb => (h52.lt b hb).1) i h) (Nat.not_le_of_lt hi)))
    refine rl_move rfl rfl ?_
    refine rl_extract rfl rfl rfl ?_
    refine rl_extract rfl rfl rfl ?_
    refine rl_storeA (vs := (Key.enc y169.1)) rfl rfl (all_one rfl) Try.sizeOf32 rfl k119 rfl ?_
    intro w185 s187 c186 k188
    have ad189 : ∀ b, b < w167.heap.size → ¬ (un (inBlk (PV p116)) (un (inBlk (PV p105)) (un (inBlk (PV p90)) (un (inBlk z171) (un (inBlk (PV p31)) (un (inBlk (PV p15)) (un (inBlk z135) (un (inBlk z136) nb)))))))) b → ¬ (inBlk (PV p116)) b ∧ ¬ (un (inBlk (PV p116)) (un (inBlk (PV p105)) (un (inBlk (PV p90)) (un (inBlk z171) (un (inBlk (PV p31)) (un (inBlk (PV p15)) (un (inBlk z135) (un (inBlk z136) nb)))))))) b := fun b _ hs => ⟨fun h => hs (.inl h), hs⟩
    have ah0 := slRep.st k_Act_pos ah0 c186 ad189
    have k103 := k103.ch c186 ((fun b hb h => (disSym d122) b hb h) _ rfl)
    have h138 := h138.ch c186 ((fun b hb h => (disSym d125) b hb h) _ rfl)
    have h139 := h139.ch c186 ((fun b hb h => d147 b hb h))
    have h140 := h140.ch c186 ((fun b hb h => d153 b hb h))
    have k163 := k163.ch c186 ((fun b hb h => (disSym d121) b hb h) _ rfl)
    have h172 := h172.ch c186 ((fun b hb h => (disSym d124) b hb h) _ rfl)
    have h173 := h173.st c186 (fun b hb h => d177 b hb h) ad189 (fun b h => (.inr (.inr (.inr (.inl h)))))
    have c79 := c79.then c186 (fun i hi h => absurd (lo120 i h) (Nat.not_le_of_lt hi))
    refine rl_assign rfl rfl ?_
    refine RL.nil (thn_n (CW.seq ?_))
    refine CW.seq ?_
    obtain ⟨b190, hb191⟩ : ∃ y, ((!decide (y133.1 = y169.1)) || (!(y133.2.1 == y169.2.1))) = y := ⟨_, rfl⟩
    have hb73 := ltS hb191 hb73
    obtain ⟨b198, hb199⟩ : ∃ y, (b190 || (lt (F12_Len y133.2.2) fun y196 => !decide (y196 = ((y169.2.2.all.length : Nat) : Int)))) = y := ⟨_, rfl⟩
    have hb73 := ltS hb199 hb73
    obtain ⟨b220, hb221, hb73⟩ := bindS hb73
    obtain ⟨b242, hb243, hb73⟩ := bindS hb73
    refine CW.cutN (fun E' w' => Sub [(3, (PV p15)), (4, (PV p31)), (6, (PV p90)), (7, (PV p105)), (8, (PV p116)), (18, av0), (19, (Value.int .i64 ((a0.length : Nat) : Int))), (20, (Value.int .i64 ((i68 : Nat) : Int))), (96, (Value.bool b242))] E' ∧ Ch nb w185 w') ?_ ?_
    ·
     rcases Bool.eq_false_or_eq_true (!decide (y133.1 = y169.1)) with hg244 | hg244
     ·
      have hs245 := or_t hg244 hb191
      have hs246 := or_t hs245.symm hb199
      have hs247 := orO_t hs246.symm hb221
      have hs248 := orO_t (Option.some.inj hs247).symm hb243
      refine CW.draw 38 [(none, fun fx O uu wx => uu = (Value.agg (Key.enc y133.1).toArray)), (none, fun fx O uu wx => uu = (Value.agg (Key.enc y169.1).toArray)), (none, fun fx O uu wx => uu = (Value.bool (!decide (y133.1 = y169.1)))), (none, fun fx O uu wx => uu = (Value.bool (!decide (y133.1 = y169.1)))), (none, fun _ O uu wx => uu = undef), (none, fun _ O uu wx => uu = undef), (none, fun _ O uu wx => uu = undef), (none, fun fx O uu wx => uu = (Value.bool b190)), (none, fun fx O uu wx => uu = (Value.bool b190)), (none, fun _ O uu wx => uu = undef), (none, fun _ O uu wx => uu = undef), (none, fun _ O uu wx => uu = undef), (none, fun _ O uu wx => uu = undef), (none, fun _ O uu wx => uu = undef), (none, fun _ O uu wx => uu = undef), (none, fun _ O uu wx => uu = undef), (none, fun _ O uu wx => uu = undef), (none, fun fx O uu wx => uu = (Value.bool b198)), (none, fun fx O uu wx => uu = (Value.bool b198)), (none, fun _ O uu wx => uu = undef), (none, fun _ O uu wx => uu = undef), (none, fun _ O uu wx => uu = undef), (none, fun _ O uu wx => uu = undef), (none, fun _ O uu wx => uu = undef), (none, fun _ O uu wx => uu = undef), (none, fun fx O uu wx => uu = (Value.bool b220)), (none, fun fx O uu wx => uu = (Value.bool b220)), (none, fun _ O uu wx => uu = undef), (none, fun _ O uu wx => uu = undef), (none, fun _ O uu wx => uu = undef), (none, fun _ O uu wx => uu = undef), (none, fun _ O uu wx => uu = undef), (none, fun _ O uu wx => uu = undef), (none, fun _ O uu wx => uu = undef), (none, fun _ O uu wx => uu = undef), (none, fun _ O uu wx => uu = undef), (none, fun _ O uu wx => uu = undef), (none, fun fx O uu wx => uu = (Value.bool b242))] [[], [], [0, 1], [2], [3], [3], [3], [3], [7], [8], [8], [8], [8], [8], [8], [8], [8], [8], [17], [18], [18], [18], [18], [18], [18], [18], [25], [26], [26], [26], [26], [26], [26], [26], [26], [26], [26], [26]] [37] nb (fun _ h => h.elim) mixed rfl rfl rfl rfl ?_ ?_
      ·
       refine Each.consS (fun fl O wk hE hN hO ck => ?_) ?_
       ·
        have k163 := k163.ch0 ck
        refine rl_loadA (cs := (Key.enc y133.1)) rfl Try.isAgg32 Try.sizeOf32 (k163.segAt 0 2) rfl rfl ?_
        exact RL.nil ⟨_, rfl, Ch.refl, rfl⟩
       refine Each.consS (fun fl O wk hE hN hO ck => ?_) ?_
       ·
        have k188 := k188.ch0 ck
        refine rl_loadA (cs := (Key.enc y169.1)) rfl Try.isAgg32 Try.sizeOf32 (k188.segAt 0 2) rfl rfl ?_
        exact RL.nil ⟨_, rfl, Ch.refl, rfl⟩
       refine Each.consS (fun fl O wk hE hN hO ck => ?_) ?_
       ·
        refine Need.o1 rfl rfl rfl (fun _ h => h) ?_
        refine Need.o1 rfl rfl rfl (fun _ h => h) ?_
        refine rl_bin rfl rfl (neq32 y133.1 y169.1) rfl ?_
        exact RL.nil ⟨_, rfl, Ch.refl, rfl⟩
       refine Each.consS (fun fl O wk hE hN hO ck => ?_) ?_
       ·
        refine Need.o1 rfl rfl rfl (fun _ h => h) ?_
        refine rl_move rfl rfl ?_
        exact RL.nil ⟨_, rfl, Ch.refl, rfl⟩
       refine Each.consS (fun fl O wk hE hN hO ck => ?_) ?_
       ·
        refine Need.o1 rfl rfl rfl (fun _ h => h) ?_
        refine RL.no rfl rfl rfl hg244 rfl rfl ?_
        exact RL.nil ⟨_, rfl, Ch.refl, rfl⟩
       refine Each.consS (fun fl O wk hE hN hO ck => ?_) ?_
       ·
        refine Need.o1 rfl rfl rfl (fun _ h => h) ?_
        refine RL.no rfl rfl rfl hg244 rfl rfl ?_
        exact RL.nil ⟨_, rfl, Ch.refl, rfl⟩
       refine Each.consS (fun fl O wk hE hN hO ck => ?_) ?_
       ·
        refine Need.o1 rfl rfl rfl (fun _ h => h) ?_
        refine RL.no rfl rfl rfl hg244 rfl rfl ?_
        exact RL.nil ⟨_, rfl, Ch.refl, rfl⟩
       refine Each.consS (fun fl O wk hE hN hO ck => ?_) ?_
       ·
        refine Need.o1 rfl rfl rfl (fun _ h => h) ?_
        refine rl_pickT rfl hg244 rfl rfl ?_
        exact RL.nil ⟨_, rfl, Ch.refl, congrArg Value.bool hs245⟩
       refine Each.consS (fun fl O wk hE hN hO ck => ?_) ?_
       ·
        refine Need.o1 rfl rfl rfl (fun _ h => h) ?_
        refine rl_move rfl rfl ?_
        exact RL.nil ⟨_, rfl, Ch.refl, rfl⟩
       refine Each.consS (fun fl O wk hE hN hO ck => ?_) ?_
       ·
        refine Need.o1 rfl rfl rfl (fun _ h => h) ?_
        refine RL.no rfl rfl rfl hs245.symm rfl rfl ?_
        exact RL.nil ⟨_, rfl, Ch.refl, rfl⟩
       refine Each.consS (fun fl O wk hE hN hO ck => ?_) ?_
       ·
        refine Need.o1 rfl rfl rfl (fun _ h => h) ?_
        refine RL.no rfl rfl rfl hs245.symm rfl rfl ?_
        exact RL.nil ⟨_, rfl, Ch.refl, rfl⟩
       refine Each.consS (fun fl O wk hE hN hO ck => ?_) ?_
       ·
        refine Need.o1 rfl rfl rfl (fun _ h => h) ?_
        refine RL.no rfl rfl rfl hs245.symm rfl rfl ?_
        exact RL.nil ⟨_, rfl, Ch.refl, rfl⟩
       refine Each.consS (fun fl O wk hE hN hO ck => ?_) ?_
       ·
        refine Need.o1 rfl rfl rfl (fun _ h => h) ?_
        refine RL.no rfl rfl rfl hs245.symm rfl rfl ?_
        exact RL.nil ⟨_, rfl, Ch.refl, rfl⟩
       refine Each.consS (fun fl O wk hE hN hO ck => ?_) ?_
       ·
        refine Need.o1 rfl rfl rfl (fun _ h => h) ?_
        refine RL.no rfl rfl rfl hs245.symm rfl rfl ?_
        exact RL.nil ⟨_, rfl, Ch.refl, rfl⟩
       refine Each.consS (fun fl O wk hE hN hO ck => ?_) ?_
       ·
        refine Need.o1 rfl rfl rfl (fun _ h => h) ?_
        refine RL.no rfl rfl rfl hs245.symm rfl rfl ?_
        exact RL.nil ⟨_, rfl, Ch.refl, rfl⟩
       refine Each.consS (fun fl O wk hE hN hO ck => ?_) ?_
       ·
        refine Need.o1 rfl rfl rfl (fun _ h => h) ?_
        refine RL.no rfl rfl rfl hs245.symm rfl rfl ?_
        exact RL.nil ⟨_, rfl, Ch.refl, rfl⟩
       refine Each.consS (fun fl O wk hE hN hO ck => ?_) ?_
       ·
        refine Need.o1 rfl rfl rfl (fun _ h => h) ?_
        refine RL.no rfl rfl rfl hs245.symm rfl rfl ?_
        exact RL.nil ⟨_, rfl, Ch.refl, rfl⟩
       refine Each.consS (fun fl O wk hE hN hO ck => ?_) ?_
       ·
        refine Need.o1 rfl rfl rfl (fun _ h => h) ?_
        refine rl_pickT rfl hs245.symm rfl rfl ?_
        exact RL.nil ⟨_, rfl, Ch.refl, congrArg Value.bool hs246⟩
       refine Each.consS (fun fl O wk hE hN hO ck => ?_) ?_
       ·
        refine Need.o1 rfl rfl rfl (fun _ h => h) ?_
        refine rl_move rfl rfl ?_
        exact RL.nil ⟨_, rfl, Ch.refl, rfl⟩
       refine Each.consS (fun fl O wk hE hN hO ck => ?_) ?_
       ·
        refine Need.o1 rfl rfl rfl (fun _ h => h) ?_
        refine RL.no rfl rfl rfl hs246.symm rfl rfl ?_
        exact RL.nil ⟨_, rfl, Ch.refl, rfl⟩
       refine Each.consS (fun fl O wk hE hN hO ck => ?_) ?_
       ·
        refine Need.o1 rfl rfl rfl (fun _ h => h) ?_
        refine RL.no rfl rfl rfl hs246.symm rfl rfl ?_
        exact RL.nil ⟨_, rfl, Ch.refl, rfl⟩
       refine Each.consS (fun fl O wk hE hN hO ck => ?_) ?_
       ·
        refine Need.o1 rfl rfl rfl (fun _ h => h) ?_
        refine RL.no rfl rfl rfl hs246.symm rfl rfl ?_
        exact RL.nil ⟨_, rfl, Ch.refl, rfl⟩
       refine Each.consS (fun fl O wk hE hN hO ck => ?_) ?_
       ·
        refine Need.o1 rfl rfl rfl (fun _ h => h) ?_
        refine RL.no rfl rfl rfl hs246.symm rfl rfl ?_
        exact RL.nil ⟨_, rfl, Ch.refl, rfl⟩
       refine Each.consS (fun fl O wk hE hN hO ck => ?_) ?_
       ·
        refine Need.o1 rfl rfl rfl (fun _ h => h) ?_
        refine RL.no rfl rfl rfl hs246.symm rfl rfl ?_
        exact RL.nil ⟨_, rfl, Ch.refl, rfl⟩
       refine Each.consS (fun fl O wk hE hN hO ck => ?_) ?_
       ·
        refine Need.o1 rfl rfl rfl (fun _ h => h) ?_
        refine RL.no rfl rfl rfl hs246.symm rfl rfl ?_
        exact RL.nil ⟨_, rfl, Ch.refl, rfl⟩
       refine Each.consS (fun fl O wk hE hN hO ck => ?_) ?_
       ·
        refine Need.o1 rfl rfl rfl (fun _ h => h) ?_
        refine rl_pickT rfl hs246.symm rfl rfl ?_
        exact RL.nil ⟨_, rfl, Ch.refl, congrArg Value.bool (Option.some.inj hs247)⟩
       refine Each.consS (fun fl O wk hE hN hO ck => ?_) ?_
       ·
        refine Need.o1 rfl rfl rfl (fun _ h => h) ?_
        refine rl_move rfl rfl ?_
        exact RL.nil ⟨_, rfl, Ch.refl, rfl⟩
       refine Each.consS (fun fl O wk hE hN hO ck => ?_) ?_
       ·
        refine Need.o1 rfl rfl rfl (fun _ h => h) ?_
        refine RL.no rfl rfl rfl (Option.some.inj hs247).symm rfl rfl ?_
        exact RL.nil ⟨_, rfl, Ch.refl, rfl⟩
       refine Each.consS (fun fl O wk hE hN hO ck => ?_) ?_
       ·
        refine Need.o1 rfl rfl rfl (fun _ h => h) ?_
        refine RL.no rfl rfl rfl (Option.some.inj hs247).symm rfl rfl ?_
        exact RL.nil ⟨_, rfl, Ch.refl, rfl⟩
       refine Each.consS (fun fl O wk hE hN hO ck => ?_) ?_
       ·
        refine Need.o1 rfl rfl rfl (fun _ h => h) ?_
        refine RL.no rfl rfl rfl (Option.some.inj hs247).symm rfl rfl ?_
        exact RL.nil ⟨_, rfl, Ch.refl, rfl⟩
       refine Each.consS (fun fl O wk hE hN hO ck => ?_) ?_
       ·
        refine Need.o1 rfl rfl rfl (fun _ h => h) ?_
        refine RL.no rfl rfl rfl (Option.some.inj hs247).symm rfl rfl ?_
        exact RL.nil ⟨_, rfl, Ch.refl, rfl⟩
       refine Each.consS (fun fl O wk hE hN hO ck => ?_) ?_
       ·
        refine Need.o1 rfl rfl rfl (fun _ h => h) ?_
        refine RL.no rfl rfl rfl (Option.some.inj hs247).symm rfl rfl ?_
        exact RL.nil ⟨_, rfl, Ch.refl, rfl⟩
       refine Each.consS (fun fl O wk hE hN hO ck => ?_) ?_
       ·
        refine Need.o1 rfl rfl rfl (fun _ h => h) ?_
        refine RL.no rfl rfl rfl (Option.some.inj hs247).symm rfl rfl ?_
        exact RL.nil ⟨_, rfl, Ch.refl, rfl⟩
       refine Each.consS (fun fl O wk hE hN hO ck => ?_) ?_
       ·
        refine Need.o1 rfl rfl rfl (fun _ h => h) ?_
        refine RL.no rfl rfl rfl (Option.some.inj hs247).symm rfl rfl ?_
        exact RL.nil ⟨_, rfl, Ch.refl, rfl⟩
       refine Each.consS (fun fl O wk hE hN hO ck => ?_) ?_
       ·
        refine Need.o1 rfl rfl rfl (fun _ h => h) ?_
        refine RL.no rfl rfl rfl (Option.some.inj hs247).symm rfl rfl ?_
        exact RL.nil ⟨_, rfl, Ch.refl, rfl⟩
       refine Each.consS (fun fl O wk hE hN hO ck => ?_) ?_
       ·
        refine Need.o1 rfl rfl rfl (fun _ h => h) ?_
        refine RL.no rfl rfl rfl (Option.some.inj hs247).symm rfl rfl ?_
        exact RL.nil ⟨_, rfl, Ch.refl, rfl⟩
       refine Each.consS (fun fl O wk hE hN hO ck => ?_) ?_
       ·
        refine Need.o1 rfl rfl rfl (fun _ h => h) ?_
        refine RL.no rfl rfl rfl (Option.some.inj hs247).symm rfl rfl ?_
        exact RL.nil ⟨_, rfl, Ch.refl, rfl⟩
       refine Each.consS (fun fl O wk hE hN hO ck => ?_) ?_
       ·
        refine Need.o1 rfl rfl rfl (fun _ h => h) ?_
        refine rl_pickT rfl (Option.some.inj hs247).symm rfl rfl ?_
        exact RL.nil ⟨_, rfl, Ch.refl, congrArg Value.bool (Option.some.inj hs248)⟩
       trivial
      intro hvO288 OpO288 O288 w286 hO289 c287 hN290
      refine Need.o1 rfl rfl rfl (fun _ h => h) ?_
      exact RL.nil ⟨rfl, ⟨rfl, rfl, rfl, rfl, rfl, rfl, rfl, rfl, rfl, trivial⟩, c287⟩
     have hs292 := or_f hg244 hb191
     rcases Bool.eq_false_or_eq_true b190 with hg293 | hg293
     ·
      have hs294 := or_t hg293 hb199
      have hs295 := orO_t hs294.symm hb221
      have hs296 := orO_t (Option.some.inj hs295).symm hb243
      refine CW.draw 38 [(none, fun fx O uu wx => uu = (Value.agg (Key.enc y133.1).toArray)), (none, fun fx O uu wx => uu = (Value.agg (Key.enc y169.1).toArray)), (none, fun fx O uu wx => uu = (Value.bool (!decide (y133.1 = y169.1)))), (none, fun fx O uu wx => uu = (Value.bool (!decide (y133.1 = y169.1)))), (none, fun fx O uu wx => uu = (Value.bool y133.2.1)), (none, fun fx O uu wx => uu = (Value.bool y169.2.1)), (none, fun fx O uu wx => uu = (Value.bool (!(y133.2.1 == y169.2.1)))), (none, fun fx O uu wx => uu = (Value.bool b190)), (none, fun fx O uu wx => uu = (Value.bool b190)), (none, fun _ O uu wx => uu = undef), (none, fun _ O uu wx => uu = undef), (none, fun _ O uu wx => uu = undef), (none, fun _ O uu wx => uu = undef), (none, fun _ O uu wx => uu = undef), (none, fun _ O uu wx => uu = undef), (none, fun _ O uu wx => uu = undef), (none, fun _ O uu wx => uu = undef), (none, fun fx O uu wx => uu = (Value.bool b198)), (none, fun fx O uu wx => uu = (Value.bool b198)), (none, fun _ O uu wx => uu = undef), (none, fun _ O uu wx => uu = undef), (none, fun _ O uu wx => uu = undef), (none, fun _ O uu wx => uu = undef), (none, fun _ O uu wx => uu = undef), (none, fun _ O uu wx => uu = undef), (none, fun fx O uu wx => uu = (Value.bool b220)), (none, fun fx O uu wx => uu = (Value.bool b220)), (none, fun _ O uu wx => uu = undef), (none, fun _ O uu wx => uu = undef), (none, fun _ O uu wx => uu = undef), (none, fun _ O uu wx => uu = undef), (none, fun _ O uu wx => uu = undef), (none, fun _ O uu wx => uu = undef), (none, fun _ O uu wx => uu = undef), (none, fun _ O uu wx => uu = undef), (none, fun _ O uu wx => uu = undef), (none, fun _ O uu wx => uu = undef), (none, fun fx O uu wx => uu = (Value.bool b242))] [[], [], [0, 1], [2], [3], [3], [3, 4, 5], [3, 6], [7], [8], [8], [8], [8], [8], [8], [8], [8], [8], [17], [18], [18], [18], [18], [18], [18], [18], [25], [26], [26], [26], [26], [26], [26], [26], [26], [26], [26], [26]] [37] nb (fun _ h => h.elim) mixed rfl rfl rfl rfl ?_ ?_
      ·
       refine Each.consS (fun fl O wk hE hN hO ck => ?_) ?_
       ·
        have k163 := k163.ch0 ck
        refine rl_loadA (cs := (Key.enc y133.1)) rfl Try.isAgg32 Try.sizeOf32 (k163.segAt 0 2) rfl rfl ?_
        exact RL.nil ⟨_, rfl, Ch.refl, rfl⟩
       refine Each.consS (fun fl O wk hE hN hO ck => ?_) ?_
       ·
        have k188 := k188.ch0 ck
        refine rl_loadA (cs := (Key.enc y169.1)) rfl Try.isAgg32 Try.sizeOf32 (k188.segAt 0 2) rfl rfl ?_
        exact RL.nil ⟨_, rfl, Ch.refl, rfl⟩
       refine Each.consS (fun fl O wk hE hN hO ck => ?_) ?_
       ·
        refine Need.o1 rfl rfl rfl (fun _ h => h) ?_
        refine Need.o1 rfl rfl rfl (fun _ h => h) ?_
        refine rl_bin rfl rfl (neq32 y133.1 y169.1) rfl ?_
        exact RL.nil ⟨_, rfl, Ch.refl, rfl⟩
       refine Each.consS (fun fl O wk hE hN hO ck => ?_) ?_
       ·
        refine Need.o1 rfl rfl rfl (fun _ h => h) ?_
        refine rl_move rfl rfl ?_
        exact RL.nil ⟨_, rfl, Ch.refl, rfl⟩
       refine Each.consS (fun fl O wk hE hN hO ck => ?_) ?_
       ·
        refine Need.o1 rfl rfl rfl (fun _ h => h) ?_
        refine RL.yes rfl rfl rfl hg244 ?_
        refine rl_move rfl rfl ?_
        exact RL.nil ⟨_, rfl, Ch.refl, rfl⟩
       refine Each.consS (fun fl O wk hE hN hO ck => ?_) ?_
       ·
        refine Need.o1 rfl rfl rfl (fun _ h => h) ?_
        refine RL.yes rfl rfl rfl hg244 ?_
        refine rl_move rfl rfl ?_
        exact RL.nil ⟨_, rfl, Ch.refl, rfl⟩
       refine Each.consS (fun fl O wk hE hN hO ck => ?_) ?_
       ·
        refine Need.o1 rfl rfl rfl (fun _ h => h) ?_
        refine Need.o1 rfl rfl rfl (fun _ h => h) ?_
        refine Need.o1 rfl rfl rfl (fun _ h => h) ?_
        refine RL.yes rfl rfl rfl hg244 ?_
        refine rl_bin rfl rfl (B.neqB Try.underlying4) rfl ?_
        exact RL.nil ⟨_, rfl, Ch.refl, rfl⟩
       refine Each.consS (fun fl O wk hE hN hO ck => ?_) ?_
       ·
        refine Need.o1 rfl rfl rfl (fun _ h => h) ?_
        refine Need.o1 rfl rfl rfl (fun _ h => h) ?_
        refine rl_pickF rfl hg244 rfl rfl ?_
        exact RL.nil ⟨_, rfl, Ch.refl, congrArg Value.bool hs292⟩
       refine Each.consS (fun fl O wk hE hN hO ck => ?_) ?_
       ·
        refine Need.o1 rfl rfl rfl (fun _ h => h) ?_
        refine rl_move rfl rfl ?_
        exact RL.nil ⟨_, rfl, Ch.refl, rfl⟩
       refine Each.consS (fun fl O wk hE hN hO ck => ?_) ?_
       ·
        refine Need.o1 rfl rfl rfl (fun _ h => h) ?_
        refine RL.no rfl rfl rfl hg293 rfl rfl ?_
        exact RL.nil ⟨_, rfl, Ch.refl, rfl⟩
       refine Each.consS (fun fl O wk hE hN hO ck => ?_) ?_
       ·
        refine Need.o1 rfl rfl rfl (fun _ h => h) ?_
        refine RL.no rfl rfl rfl hg293 rfl rfl ?_
        exact RL.nil ⟨_, rfl, Ch.refl, rfl⟩
       refine Each.consS (fun fl O wk hE hN hO ck => ?_) ?_
       ·
        refine Need.o1 rfl rfl rfl (fun _ h => h) ?_
        refine RL.no rfl rfl rfl hg293 rfl rfl ?_
        exact RL.nil ⟨_, rfl, Ch.refl, rfl⟩
       refine Each.consS (fun fl O wk hE hN hO ck => ?_) ?_
       ·
        refine Need.o1 rfl rfl rfl (fun _ h => h) ?_
        refine RL.no rfl rfl rfl hg293 rfl rfl ?_
        exact RL.nil ⟨_, rfl, Ch.refl, rfl⟩
       refine Each.consS (fun fl O wk hE hN hO ck => ?_) ?_
       ·
        refine Need.o1 rfl rfl rfl (fun _ h => h) ?_
        refine RL.no rfl rfl rfl hg293 rfl rfl ?_
        exact RL.nil ⟨_, rfl, Ch.refl, rfl⟩
       refine Each.consS (fun fl O wk hE hN hO ck => ?_) ?_
       ·
        refine Need.o1 rfl rfl rfl (fun _ h => h) ?_
        refine RL.no rfl rfl rfl hg293 rfl rfl ?_
        exact RL.nil ⟨_, rfl, Ch.refl, rfl⟩
       refine Each.consS (fun fl O wk hE hN hO ck => ?_) ?_
       ·
        refine Need.o1 rfl rfl rfl (fun _ h => h) ?_
        refine RL.no rfl rfl rfl hg293 rfl rfl ?_
        exact RL.nil ⟨_, rfl, Ch.refl, rfl⟩
       refine Each.consS (fun fl O wk hE hN hO ck => ?_) ?_
       ·
        refine Need.o1 rfl rfl rfl (fun _ h => h) ?_
        refine RL.no rfl rfl rfl hg293 rfl rfl ?_
        exact RL.nil ⟨_, rfl, Ch.refl, rfl⟩
       refine Each.consS (fun fl O wk hE hN hO ck => ?_) ?_
       ·
        refine Need.o1 rfl rfl rfl (fun _ h => h) ?_
        refine rl_pickT rfl hg293 rfl rfl ?_
        exact RL.nil ⟨_, rfl, Ch.refl, congrArg Value.bool hs294⟩
       refine Each.consS (fun fl O wk hE hN hO ck => ?_) ?_
       ·
        refine Need.o1 rfl rfl rfl (fun _ h => h) ?_
        refine rl_move rfl rfl ?_
        exact RL.nil ⟨_, rfl, Ch.refl, rfl⟩
       refine Each.consS (fun fl O wk hE hN hO ck => ?_) ?_
       ·
        refine Need.o1 rfl rfl rfl (fun _ h => h) ?_
        refine RL.no rfl rfl rfl hs294.symm rfl rfl ?_
        exact RL.nil ⟨_, rfl, Ch.refl, rfl⟩
       refine Each.consS (fun fl O wk hE hN hO ck => ?_) ?_
       ·
        refine Need.o1 rfl rfl rfl (fun _ h => h) ?_
        refine RL.no rfl rfl rfl hs294.symm rfl rfl ?_
        exact RL.nil ⟨_, rfl, Ch.refl, rfl⟩
       refine Each.consS (fun fl O wk hE hN hO ck => ?_) ?_
       ·
        refine Need.o1 rfl rfl rfl (fun _ h => h) ?_
        refine RL.no rfl rfl rfl hs294.symm rfl rfl ?_
        exact RL.nil ⟨_, rfl, Ch.refl, rfl⟩
       refine Each.consS (fun fl O wk hE hN hO ck => ?_) ?_
       ·
        refine Need.o1 rfl rfl rfl (fun _ h => h) ?_
        refine RL.no rfl rfl rfl hs294.symm rfl rfl ?_
        exact RL.nil ⟨_, rfl, Ch.refl, rfl⟩
       refine Each.consS (fun fl O wk hE hN hO ck => ?_) ?_
       ·
        refine Need.o1 rfl rfl rfl (fun _ h => h) ?_
        refine RL.no rfl rfl rfl hs294.symm rfl rfl ?_
        exact RL.nil ⟨_, rfl, Ch.refl, rfl⟩
       refine Each.consS (fun fl O wk hE hN hO ck => ?_) ?_
       ·
        refine Need.o1 rfl rfl rfl (fun _ h => h) ?_
        refine RL.no rfl rfl rfl hs294.symm rfl rfl ?_
        exact RL.nil ⟨_, rfl, Ch.refl, rfl⟩
       refine Each.consS (fun fl O wk hE hN hO ck => ?_) ?_
       ·
        refine Need.o1 rfl rfl rfl (fun _ h => h) ?_
        refine rl_pickT rfl hs294.symm rfl rfl ?_
        exact RL.nil ⟨_, rfl, Ch.refl, congrArg Value.bool (Option.some.inj hs295)⟩
       refine Each.consS (fun fl O wk hE hN hO ck => ?_) ?_
       ·
        refine Need.o1 rfl rfl rfl (fun _ h => h) ?_
        refine rl_move rfl rfl ?_
        exact RL.nil ⟨_, rfl, Ch.refl, rfl⟩
       refine Each.consS (fun fl O wk hE hN hO ck => ?_) ?_
       ·
        refine Need.o1 rfl rfl rfl (fun _ h => h) ?_
        refine RL.no rfl rfl rfl (Option.some.inj hs295).symm rfl rfl ?_
        exact RL.nil ⟨_, rfl, Ch.refl, rfl⟩
       refine Each.consS (fun fl O wk hE hN hO ck => ?_) ?_
       ·
        refine Need.o1 rfl rfl rfl (fun _ h => h) ?_
        refine RL.no rfl rfl rfl (Option.some.inj hs295).symm rfl rfl ?_
        exact RL.nil ⟨_, rfl, Ch.refl, rfl⟩
       refine Each.consS (fun fl O wk hE hN hO ck => ?_) ?_
       ·
        refine Need.o1 rfl rfl rfl (fun _ h => h) ?_
        refine RL.no rfl rfl rfl (Option.some.inj hs295).symm rfl rfl ?_
        exact RL.nil ⟨_, rfl, Ch.refl, rfl⟩
       refine Each.consS (fun fl O wk hE hN hO ck => ?_) ?_
       ·
        refine Need.o1 rfl rfl rfl (fun _ h => h) ?_
        refine RL.no rfl rfl rfl (Option.some.inj hs295).symm rfl rfl ?_
        exact RL.nil ⟨_, rfl, Ch.refl, rfl⟩
       refine Each.consS (fun fl O wk hE hN hO ck => ?_) ?_
       ·
        refine Need.o1 rfl rfl rfl (fun _ h => h) ?_
        refine RL.no rfl rfl rfl (Option.some.inj hs295).symm rfl rfl ?_
        exact RL.nil ⟨_, rfl, Ch.refl, rfl⟩
       refine Each.consS (fun fl O wk hE hN hO ck => ?_) ?_
       ·
        refine Need.o1 rfl rfl rfl (fun _ h => h) ?_
        refine RL.no rfl rfl rfl (Option.some.inj hs295).symm rfl rfl ?_
        exact RL.nil ⟨_, rfl, Ch.refl, rfl⟩
       refine Each.consS (fun fl O wk hE hN hO ck => ?_) ?_
       ·
        refine Need.o1 rfl rfl rfl (fun _ h => h) ?_
        refine RL.no rfl rfl rfl (Option.some.inj hs295).symm rfl rfl ?_
        exact RL.nil ⟨_, rfl, Ch.refl, rfl⟩
       refine Each.consS (fun fl O wk hE hN hO ck => ?_) ?_
       ·
        refine Need.o1 rfl rfl rfl (fun _ h => h) ?_
        refine RL.no rfl rfl rfl (Option.some.inj hs295).symm rfl rfl ?_
        exact RL.nil ⟨_, rfl, Ch.refl, rfl⟩
       refine Each.consS (fun fl O wk hE hN hO ck => ?_) ?_
       ·
        refine Need.o1 rfl rfl rfl (fun _ h => h) ?_
        refine RL.no rfl rfl rfl (Option.some.inj hs295).symm rfl rfl ?_
        exact RL.nil ⟨_, rfl, Ch.refl, rfl⟩
       refine Each.consS (fun fl O wk hE hN hO ck => ?_) ?_
       ·
        refine Need.o1 rfl rfl rfl (fun _ h => h) ?_
        refine RL.no rfl rfl rfl (Option.some.inj hs295).symm rfl rfl ?_
        exact RL.nil ⟨_, rfl, Ch.refl, rfl⟩
       refine Each.consS (fun fl O wk hE hN hO ck => ?_) ?_
       ·
        refine Need.o1 rfl rfl rfl (fun _ h => h) ?_
        refine rl_pickT rfl (Option.some.inj hs295).symm rfl rfl ?_
        exact RL.nil ⟨_, rfl, Ch.refl, congrArg Value.bool (Option.some.inj hs296)⟩
       trivial
      intro hvO339 OpO339 O339 w337 hO340 c338 hN341
      refine Need.o1 rfl rfl rfl (fun _ h => h) ?_
      exact RL.nil ⟨rfl, ⟨rfl, rfl, rfl, rfl, rfl, rfl, rfl, rfl, rfl, trivial⟩, c338⟩
     have hs343 := or_f hg293 hb199
     obtain ⟨y196, hy197⟩ : ∃ y, F12_Len y133.2.2 = y := ⟨_, rfl⟩
     have hs343 := ltS hy197 hs343
     rcases Bool.eq_false_or_eq_true b198 with hg344 | hg344
     ·
      have hs345 := orO_t hg344 hb221
      have hs346 := orO_t (Option.some.inj hs345).symm hb243
      refine CW.draw 38 [(none, fun fx O uu wx => uu = (Value.agg (Key.enc y133.1).toArray)), (none, fun fx O uu wx => uu = (Value.agg (Key.enc y169.1).toArray)), (none, fun fx O uu wx => uu = (Value.bool (!decide (y133.1 = y169.1)))), (none, fun fx O uu wx => uu = (Value.bool (!decide (y133.1 = y169.1)))), (none, fun fx O uu wx => uu = (Value.bool y133.2.1)), (none, fun fx O uu wx => uu = (Value.bool y169.2.1)), (none, fun fx O uu wx => uu = (Value.bool (!(y133.2.1 == y169.2.1)))), (none, fun fx O uu wx => uu = (Value.bool b190)), (none, fun fx O uu wx => uu = (Value.bool b190)), (none, fun fx O uu wx => uu = (PV p15)), (none, fun fx O uu wx => uu = (Value.int .i64 y196)), (none, fun fx O uu wx => uu = (PV p31)), (none, fun fx O uu wx => uu = (PV p31)), (none, fun fx O uu wx => uu = (PV p31)), (none, fun fx O uu wx => uu = z171), (none, fun fx O uu wx => uu = (Value.int .i64 ((y169.2.2.all.length : Nat) : Int))), (none, fun fx O uu wx => uu = (Value.bool (!decide (y196 = ((y169.2.2.all.length : Nat) : Int))))), (none, fun fx O uu wx => uu = (Value.bool b198)), (none, fun fx O uu wx => uu = (Value.bool b198)), (none, fun _ O uu wx => uu = undef), (none, fun _ O uu wx => uu = undef), (none, fun _ O uu wx => uu = undef), (none, fun _ O uu wx => uu = undef), (none, fun _ O uu wx => uu = undef), (none, fun _ O uu wx => uu = undef), (none, fun fx O uu wx => uu = (Value.bool b220)), (none, fun fx O uu wx => uu = (Value.bool b220)), (none, fun _ O uu wx => uu = undef), (none, fun _ O uu wx => uu = undef), (none, fun _ O uu wx => uu = undef), (none, fun _ O uu wx => uu = undef), (none, fun _ O uu wx => uu = undef), (none, fun _ O uu wx => uu = undef), (none, fun _ O uu wx => uu = undef), (none, fun _ O uu wx => uu = undef), (none, fun _ O uu wx => uu = undef), (none, fun _ O uu wx => uu = undef), (none, fun fx O uu wx => uu = (Value.bool b242))] [[], [], [0, 1], [2], [3], [3], [3, 4, 5], [3, 6], [7], [8], [8, 9], [8], [8, 11], [8, 12], [8, 13], [8, 14], [8, 10, 15], [8, 16], [17], [18], [18], [18], [18], [18], [18], [18], [25], [26], [26], [26], [26], [26], [26], [26], [26], [26], [26], [26]] [37] nb (fun _ h => h.elim) mixed rfl rfl rfl rfl ?_ ?_
      ·
       refine Each.consS (fun fl O wk hE hN hO ck => ?_) ?_
       ·
        have k163 := k163.ch0 ck
        refine rl_loadA (cs := (Key.enc y133.1)) rfl Try.isAgg32 Try.sizeOf32 (k163.segAt 0 2) rfl rfl ?_
        exact RL.nil ⟨_, rfl, Ch.refl, rfl⟩
       refine Each.consS (fun fl O wk hE hN hO ck => ?_) ?_
       ·
        have k188 := k188.ch0 ck
        refine rl_loadA (cs := (Key.enc y169.1)) rfl Try.isAgg32 Try.sizeOf32 (k188.segAt 0 2) rfl rfl ?_
        exact RL.nil ⟨_, rfl, Ch.refl, rfl⟩
       refine Each.consS (fun fl O wk hE hN hO ck => ?_) ?_
       ·
        refine Need.o1 rfl rfl rfl (fun _ h => h) ?_
        refine Need.o1 rfl rfl rfl (fun _ h => h) ?_
        refine rl_bin rfl rfl (neq32 y133.1 y169.1) rfl ?_
        exact RL.nil ⟨_, rfl, Ch.refl, rfl⟩
       refine Each.consS (fun fl O wk hE hN hO ck => ?_) ?_
       ·
        refine Need.o1 rfl rfl rfl (fun _ h => h) ?_
        refine rl_move rfl rfl ?_
        exact RL.nil ⟨_, rfl, Ch.refl, rfl⟩
       refine Each.consS (fun fl O wk hE hN hO ck => ?_) ?_
       ·
        refine Need.o1 rfl rfl rfl (fun _ h => h) ?_
        refine RL.yes rfl rfl rfl hg244 ?_
        refine rl_move rfl rfl ?_
        exact RL.nil ⟨_, rfl, Ch.refl, rfl⟩
       refine Each.consS (fun fl O wk hE hN hO ck => ?_) ?_
       ·
        refine Need.o1 rfl rfl rfl (fun _ h => h) ?_
        refine RL.yes rfl rfl rfl hg244 ?_
        refine rl_move rfl rfl ?_
        exact RL.nil ⟨_, rfl, Ch.refl, rfl⟩
       refine Each.consS (fun fl O wk hE hN hO ck => ?_) ?_
       ·
        refine Need.o1 rfl rfl rfl (fun _ h => h) ?_
        refine Need.o1 rfl rfl rfl (fun _ h => h) ?_
        refine Need.o1 rfl rfl rfl (fun _ h => h) ?_
        refine RL.yes rfl rfl rfl hg244 ?_
        refine rl_bin rfl rfl (B.neqB Try.underlying4) rfl ?_
        exact RL.nil ⟨_, rfl, Ch.refl, rfl⟩
       refine Each.consS (fun fl O wk hE hN hO ck => ?_) ?_
       ·
        refine Need.o1 rfl rfl rfl (fun _ h => h) ?_
        refine Need.o1 rfl rfl rfl (fun _ h => h) ?_
        refine rl_pickF rfl hg244 rfl rfl ?_
        exact RL.nil ⟨_, rfl, Ch.refl, congrArg Value.bool hs292⟩
       refine Each.consS (fun fl O wk hE hN hO ck => ?_) ?_
       ·
        refine Need.o1 rfl rfl rfl (fun _ h => h) ?_
        refine rl_move rfl rfl ?_
        exact RL.nil ⟨_, rfl, Ch.refl, rfl⟩
       refine Each.consS (fun fl O wk hE hN hO ck => ?_) ?_
       ·
        refine Need.o1 rfl rfl rfl (fun _ h => h) ?_
        refine RL.yes rfl rfl rfl hg293 ?_
        refine rl_move rfl rfl ?_
        exact RL.nil ⟨_, rfl, Ch.refl, rfl⟩
       refine Each.consS (fun fl O wk hE hN hO ck => ?_) ?_
       ·
        have k103 := k103.ch0 ck
        have h138 := h138.ch0 ck
        have h139 := h139.ch0 ck
        have h140 := h140.ch0 ck
        have k163 := k163.ch0 ck
        have h172 := h172.ch0 ck
        have h173 := h173.ch0 ck
        have k188 := k188.ch0 ck
        have c79 := c79.then0 ck
        refine Need.o1 rfl rfl rfl (fun _ h => h) ?_
        refine Need.o1 rfl rfl rfl (fun _ h => h) ?_
        refine RL.yes rfl rfl rfl hg293 ?_
        have hd361 : ∀ b, (un (inBlk (PV p15)) (un (inBlk z135) (inBlk z136))) b → ¬ (un (inBlk (PV p116)) (un (inBlk (PV p105)) (un (inBlk (PV p90)) (un (inBlk z171) (un (inBlk (PV p31)) nb))))) b := fun b h => un_el h (fun h => (fun b hb => fun h => un_el h (fun h => (disSym d125) b hb h) (fun h => un_el h (fun h => (disSym d113) b hb h) (fun h => un_el h (fun h => (disSym d97) b hb h) (fun h => un_el h (fun h => (disSym d180) b hb h) (fun h => un_el h (fun h => (disSym d61) b hb h) (fun h => h)))))) b h) (fun h => un_el h (fun h => (fun b hb => fun h => un_el h (fun h => d147 b hb h) (fun h => un_el h (fun h => d148 b hb h) (fun h => un_el h (fun h => d149 b hb h) (fun h => un_el h (fun h => (disSym d181) b hb h) (fun h => un_el h (fun h => d151 b hb h) (fun h => h)))))) b h) (fun h => (fun b hb => fun h => un_el h (fun h => d153 b hb h) (fun h => un_el h (fun h => d154 b hb h) (fun h => un_el h (fun h => d155 b hb h) (fun h => un_el h (fun h => (disSym d182) b hb h) (fun h => un_el h (fun h => d157 b hb h) (fun h => h)))))) b h))
        refine rl_callF rfl en12 rfl (ctr12 F wk w.heap.size (un (inBlk (PV p116)) (un (inBlk (PV p105)) (un (inBlk (PV p90)) (un (inBlk z171) (un (inBlk (PV p31)) nb))))) c79.size (un_lt k188.ltp (un_lt k163.ltp (un_lt k103.ltp (un_lt (fun b hb => (h173.lt b hb).2) (un_lt h172.ltp nbS))))) p15 z135 z136 u137 hd361 d143 d144 d145 y133.2.2 h138 h139 h140 y196 hy197) ?_
        rintro _ w363 ⟨rfl, c364⟩
        exact RL.nil ⟨_, rfl, c364, rfl⟩
       refine Each.consS (fun fl O wk hE hN hO ck => ?_) ?_
       ·
        refine Need.o1 rfl rfl rfl (fun _ h => h) ?_
        refine RL.yes rfl rfl rfl hg293 ?_
        refine rl_move rfl rfl ?_
        exact RL.nil ⟨_, rfl, Ch.refl, rfl⟩
       refine Each.consS (fun fl O wk hE hN hO ck => ?_) ?_
       ·
        refine Need.o1 rfl rfl rfl (fun _ h => h) ?_
        refine Need.o1 rfl rfl rfl (fun _ h => h) ?_
        refine RL.yes rfl rfl rfl hg293 ?_
        refine rl_nilCheck rfl rfl ?_
        exact RL.nil ⟨_, rfl, Ch.refl, rfl⟩
       refine Each.consS (fun fl O wk hE hN hO ck => ?_) ?_
       ·
        refine Need.o1 rfl rfl rfl (fun _ h => h) ?_
        refine Need.o1 rfl rfl rfl (fun _ h => h) ?_
        refine RL.yes rfl rfl rfl hg293 ?_
        refine rl_fieldAddr rfl fa30_0 rfl ?_
        exact RL.nil ⟨_, rfl, Ch.refl, rfl⟩
       refine Each.consS (fun fl O wk hE hN hO ck => ?_) ?_
       ·
        have h172 := h172.ch0 ck
        refine Need.o1 rfl rfl rfl (fun _ h => h) ?_
        refine Need.o1 rfl rfl rfl (fun _ h => h) ?_
        refine RL.yes rfl rfl rfl hg293 ?_
        refine rl_loadS (v := z171) rfl Try.isAgg28 (h172.cell rfl) rfl ?_
        exact RL.nil ⟨_, rfl, Ch.refl, rfl⟩
       refine Each.consS (fun fl O wk hE hN hO ck => ?_) ?_
       ·
        have h173 := h173.ch0 ck
        refine Need.o1 rfl rfl rfl (fun _ h => h) ?_
        refine Need.o1 rfl rfl rfl (fun _ h => h) ?_
        refine RL.yes rfl rfl rfl hg293 ?_
        refine rl_lenR rfl (SlO.read (S' := (un (inBlk (PV p116)) (un (inBlk (PV p105)) (un (inBlk (PV p90)) (un (inBlk (PV p31)) (un (inBlk (PV p15)) (un (inBlk z135) (un (inBlk z136) nb)))))))) k_A2Key_pos h173 (fun b hs h => hs (un_el h (fun h => (.inl h)) (fun h => un_el h (fun h => (.inr (.inl h))) (fun h => un_el h (fun h => (.inr (.inr (.inl h)))) (fun h => un_el h (fun h => (.inr (.inr (.inr (.inr (.inl h)))))) (fun h => un_el h (fun h => (.inr (.inr (.inr (.inr (.inr (.inl h))))))) (fun h => un_el h (fun h => (.inr (.inr (.inr (.inr (.inr (.inr (.inl h)))))))) (fun h => un_el h (fun h => (.inr (.inr (.inr (.inr (.inr (.inr (.inr (.inl h))))))))) (fun h => False.elim h))))))))) (fun b hb => fun h => un_el h (fun h => d177 b hb h) (fun h => un_el h (fun h => d178 b hb h) (fun h => un_el h (fun h => d179 b hb h) (fun h => un_el h (fun h => (disSym d175) b hb h) (fun h => un_el h (fun h => d180 b hb h) (fun h => un_el h (fun h => d181 b hb h) (fun h => un_el h (fun h => d182 b hb h) (fun h => h))))))))) Try.underlying28 rfl ?_
        exact RL.nil ⟨_, rfl, Ch.refl, rfl⟩
       refine Each.consS (fun fl O wk hE hN hO ck => ?_) ?_
       ·
        refine Need.o1 rfl rfl rfl (fun _ h => h) ?_
        refine Need.o1 rfl rfl rfl (fun _ h => h) ?_
        refine Need.o1 rfl rfl rfl (fun _ h => h) ?_
        refine RL.yes rfl rfl rfl hg293 ?_
        refine rl_bin rfl rfl B.neq rfl ?_
        exact RL.nil ⟨_, rfl, Ch.refl, rfl⟩
       refine Each.consS (fun fl O wk hE hN hO ck => ?_) ?_
       ·
        refine Need.o1 rfl rfl rfl (fun _ h => h) ?_
        refine Need.o1 rfl rfl rfl (fun _ h => h) ?_
        refine rl_pickF rfl hg293 rfl rfl ?_
        exact RL.nil ⟨_, rfl, Ch.refl, congrArg Value.bool hs343⟩
       refine Each.consS (fun fl O wk hE hN hO ck => ?_) ?_
       ·
        refine Need.o1 rfl rfl rfl (fun _ h => h) ?_
        refine rl_move rfl rfl ?_
        exact RL.nil ⟨_, rfl, Ch.refl, rfl⟩
       refine Each.consS (fun fl O wk hE hN hO ck => ?_) ?_
       ·
        refine Need.o1 rfl rfl rfl (fun _ h => h) ?_
        refine RL.no rfl rfl rfl hg344 rfl rfl ?_
        exact RL.nil ⟨_, rfl, Ch.refl, rfl⟩
       refine Each.consS (fun fl O wk hE hN hO ck => ?_) ?_
       ·
        refine Need.o1 rfl rfl rfl (fun _ h => h) ?_
        refine RL.no rfl rfl rfl hg344 rfl rfl ?_
        exact RL.nil ⟨_, rfl, Ch.refl, rfl⟩
       refine Each.consS (fun fl O wk hE hN hO ck => ?_) ?_
       ·
        refine Need.o1 rfl rfl rfl (fun _ h => h) ?_
        refine RL.no rfl rfl rfl hg344 rfl rfl ?_
        exact RL.nil ⟨_, rfl, Ch.refl, rfl⟩
       refine Each.consS (fun fl O wk hE hN hO ck => ?_) ?_
       ·
        refine Need.o1 rfl rfl rfl (fun _ h => h) ?_
        refine RL.no rfl rfl rfl hg344 rfl rfl ?_
        exact RL.nil ⟨_, rfl, Ch.refl, rfl⟩
       refine Each.consS (fun fl O wk hE hN hO ck => ?_) ?_
       ·
        refine Need.o1 rfl rfl rfl (fun _ h => h) ?_
        refine RL.no rfl rfl rfl hg344 rfl rfl ?_
        exact RL.nil ⟨_, rfl, Ch.refl, rfl⟩
       refine Each.consS (fun fl O wk hE hN hO ck => ?_) ?_
       ·
        refine Need.o1 rfl rfl rfl (fun _ h => h) ?_
        refine RL.no rfl rfl rfl hg344 rfl rfl ?_
        exact RL.nil ⟨_, rfl, Ch.refl, rfl⟩
       refine Each.consS (fun fl O wk hE hN hO ck => ?_) ?_
       ·
        refine Need.o1 rfl rfl rfl (fun _ h => h) ?_
        refine rl_pickT rfl hg344 rfl rfl ?_
        exact RL.nil ⟨_, rfl, Ch.refl, congrArg Value.bool (Option.some.inj hs345)⟩
       refine Each.consS (fun fl O wk hE hN hO ck => ?_) ?_
       ·
        refine Need.o1 rfl rfl rfl (fun _ h => h) ?_
        refine rl_move rfl rfl ?_
        exact RL.nil ⟨_, rfl, Ch.refl, rfl⟩
       refine Each.consS (fun fl O wk hE hN hO ck => ?_) ?_
       ·
        refine Need.o1 rfl rfl rfl (fun _ h => h) ?_
        refine RL.no rfl rfl rfl (Option.some.inj hs345).symm rfl rfl ?_
        exact RL.nil ⟨_, rfl, Ch.refl, rfl⟩
       refine Each.consS (fun fl O wk hE hN hO ck => ?_) ?_
       ·
        refine Need.o1 rfl rfl rfl (fun _ h => h) ?_
        refine RL.no rfl rfl rfl (Option.some.inj hs345).symm rfl rfl ?_
        exact RL.nil ⟨_, rfl, Ch.refl, rfl⟩
       refine Each.consS (fun fl O wk hE hN hO ck => ?_) ?_
       ·
        refine Need.o1 rfl rfl rfl (fun _ h => h) ?_
        refine RL.no rfl rfl rfl (Option.some.inj hs345).symm rfl rfl ?_
        exact RL.nil ⟨_, rfl, Ch.refl, rfl⟩
       refine Each.consS (fun fl O wk hE hN hO ck => ?_) ?_
       ·
        refine Need.o1 rfl rfl rfl (fun _ h => h) ?_
        refine RL.no rfl rfl rfl (Option.some.inj hs345).symm rfl rfl ?_
        exact RL.nil ⟨_, rfl, Ch.refl, rfl⟩
       refine Each.consS (fun fl O wk hE hN hO ck => ?_) ?_
       ·
        refine Need.o1 rfl rfl rfl (fun _ h => h) ?_
        refine RL.no rfl rfl rfl (Option.some.inj hs345).symm rfl rfl ?_
        exact RL.nil ⟨_, rfl, Ch.refl, rfl⟩
       refine Each.consS (fun fl O wk hE hN hO ck => ?_) ?_
       ·
        refine Need.o1 rfl rfl rfl (fun _ h => h) ?_
        refine RL.no rfl rfl rfl (Option.some.inj hs345).symm rfl rfl ?_
        exact RL.nil ⟨_, rfl, Ch.refl, rfl⟩
       refine Each.consS (fun fl O wk hE hN hO ck => ?_) ?_
       ·
        refine Need.o1 rfl rfl rfl (fun _ h => h) ?_
        refine RL.no rfl rfl rfl (Option.some.inj hs345).symm rfl rfl ?_
        exact RL.nil ⟨_, rfl, Ch.refl, rfl⟩
       refine Each.consS (fun fl O wk hE hN hO ck => ?_) ?_
       ·
        refine Need.o1 rfl rfl rfl (fun _ h => h) ?_
        refine RL.no rfl rfl rfl (Option.some.inj hs345).symm rfl rfl ?_
        exact RL.nil ⟨_, rfl, Ch.refl, rfl⟩
       refine Each.consS (fun fl O wk hE hN hO ck => ?_) ?_
       ·
        refine Need.o1 rfl rfl rfl (fun _ h => h) ?_
        refine RL.no rfl rfl rfl (Option.some.inj hs345).symm rfl rfl ?_
        exact RL.nil ⟨_, rfl, Ch.refl, rfl⟩
       refine Each.consS (fun fl O wk hE hN hO ck => ?_) ?_
       ·
        refine Need.o1 rfl rfl rfl (fun _ h => h) ?_
        refine RL.no rfl rfl rfl (Option.some.inj hs345).symm rfl rfl ?_
        exact RL.nil ⟨_, rfl, Ch.refl, rfl⟩
       refine Each.consS (fun fl O wk hE hN hO ck => ?_) ?_
       ·
        refine Need.o1 rfl rfl rfl (fun _ h => h) ?_
        refine rl_pickT rfl (Option.some.inj hs345).symm rfl rfl ?_
        exact RL.nil ⟨_, rfl, Ch.refl, congrArg Value.bool (Option.some.inj hs346)⟩
       trivial
      intro hvO401 OpO401 O401 w399 hO402 c400 hN403
      refine Need.o1 rfl rfl rfl (fun _ h => h) ?_
      exact RL.nil ⟨rfl, ⟨rfl, rfl, rfl, rfl, rfl, rfl, rfl, rfl, rfl, trivial⟩, c400⟩
     have hs405 := orO_f hg344 hb221
     obtain ⟨y204, hy205, hs405⟩ := bindS hs405
     obtain ⟨y212, hy213, hs405⟩ := bindS hs405
     obtain ⟨y218, hy219, hs405⟩ := bindS hs405
     rcases Bool.eq_false_or_eq_true b220 with hg406 | hg406
     ·
      have hs407 := orO_t hg406 hb243
      refine CW.draw 38 [(none, fun fx O uu wx => uu = (Value.agg (Key.enc y133.1).toArray)), (none, fun fx O uu wx => uu = (Value.agg (Key.enc y169.1).toArray)), (none, fun fx O uu wx => uu = (Value.bool (!decide (y133.1 = y169.1)))), (none, fun fx O uu wx => uu = (Value.bool (!decide (y133.1 = y169.1)))), (none, fun fx O uu wx => uu = (Value.bool y133.2.1)), (none, fun fx O uu wx => uu = (Value.bool y169.2.1)), (none, fun fx O uu wx => uu = (Value.bool (!(y133.2.1 == y169.2.1)))), (none, fun fx O uu wx => uu = (Value.bool b190)), (none, fun fx O uu wx => uu = (Value.bool b190)), (none, fun fx O uu wx => uu = (PV p15)), (none, fun fx O uu wx => uu = (Value.int .i64 y196)), (none, fun fx O uu wx => uu = (PV p31)), (none, fun fx O uu wx => uu = (PV p31)), (none, fun fx O uu wx => uu = (PV p31)), (none, fun fx O uu wx => uu = z171), (none, fun fx O uu wx => uu = (Value.int .i64 ((y169.2.2.all.length : Nat) : Int))), (none, fun fx O uu wx => uu = (Value.bool (!decide (y196 = ((y169.2.2.all.length : Nat) : Int))))), (none, fun fx O uu wx => uu = (Value.bool b198)), (none, fun fx O uu wx => uu = (Value.bool b198)), (none, fun fx O uu wx => uu = (PV p15)), (none, fun fx O uu wx => ∃ (v206 : Value), uu = v206 ∧ slRep k_Key (G F w.heap.size (un (inBlk (PV p116)) (un (inBlk (PV p105)) (un (inBlk (PV p90)) (un (inBlk z171) (un (inBlk (PV p31)) (un (inBlk (PV p15)) (un (inBlk z135) (un (inBlk z136) nb))))))))) wx y204 v206), (none, fun fx O uu wx => uu = (PV p31)), (none, fun fx O uu wx => ∃ (v214 : Value), uu = v214 ∧ slRep k_Key (G F w.heap.size (un (inBlk (PV p116)) (un (inBlk (PV p105)) (un (inBlk (PV p90)) (un (inBlk z171) (un (inBlk (PV p31)) (un (inBlk (PV p15)) (un (inBlk z135) (un (inBlk z136) nb))))))))) wx y212 v214), (none, fun fx O uu wx => uu = (Value.bool y218)), (none, fun fx O uu wx => uu = (Value.bool (!y218))), (none, fun fx O uu wx => uu = (Value.bool b220)), (none, fun fx O uu wx => uu = (Value.bool b220)), (none, fun _ O uu wx => uu = undef), (none, fun _ O uu wx => uu = undef), (none, fun _ O uu wx => uu = undef), (none, fun _ O uu wx => uu = undef), (none, fun _ O uu wx => uu = undef), (none, fun _ O uu wx => uu = undef), (none, fun _ O uu wx => uu = undef), (none, fun _ O uu wx => uu = undef), (none, fun _ O uu wx => uu = undef), (none, fun _ O uu wx => uu = undef), (none, fun fx O uu wx => uu = (Value.bool b242))] [[], [], [0, 1], [2], [3], [3], [3, 4, 5], [3, 6], [7], [8], [8, 9], [8], [8, 11], [8, 12], [8, 13], [8, 14], [8, 10, 15], [8, 16], [17], [18], [18, 19], [18], [18, 21], [18, 20, 22], [18, 23], [18, 24], [25], [26], [26], [26], [26], [26], [26], [26], [26], [26], [26], [26]] [37] nb (fun _ h => h.elim) mixed rfl rfl rfl rfl ?_ ?_
      ·
       refine Each.consS (fun fl O wk hE hN hO ck => ?_) ?_
       ·
        have k163 := k163.ch0 ck
        refine rl_loadA (cs := (Key.enc y133.1)) rfl Try.isAgg32 Try.sizeOf32 (k163.segAt 0 2) rfl rfl ?_
        exact RL.nil ⟨_, rfl, Ch.refl, rfl⟩
       refine Each.consS (fun fl O wk hE hN hO ck => ?_) ?_
       ·
        have k188 := k188.ch0 ck
        refine rl_loadA (cs := (Key.enc y169.1)) rfl Try.isAgg32 Try.sizeOf32 (k188.segAt 0 2) rfl rfl ?_
        exact RL.nil ⟨_, rfl, Ch.refl, rfl⟩
       refine Each.consS (fun fl O wk hE hN hO ck => ?_) ?_
       ·
        refine Need.o1 rfl rfl rfl (fun _ h => h) ?_
        refine Need.o1 rfl rfl rfl (fun _ h => h) ?_
        refine rl_bin rfl rfl (neq32 y133.1 y169.1) rfl ?_
        exact RL.nil ⟨_, rfl, Ch.refl, rfl⟩
       refine Each.consS (fun fl O wk hE hN hO ck => ?_) ?_
       ·
        refine Need.o1 rfl rfl rfl (fun _ h => h) ?_
        refine rl_move rfl rfl ?_
        exact RL.nil ⟨_, rfl, Ch.refl, rfl⟩
       refine Each.consS (fun fl O wk hE hN hO ck => ?_) ?_
       ·
        refine Need.o1 rfl rfl rfl (fun _ h => h) ?_
        refine RL.yes rfl rfl rfl hg244 ?_
        refine rl_move rfl rfl ?_
        exact RL.nil ⟨_, rfl, Ch.refl, rfl⟩
       refine Each.consS (fun fl O wk hE hN hO ck => ?_) ?_
       ·
        refine Need.o1 rfl rfl rfl (fun _ h => h) ?_
        refine RL.yes rfl rfl rfl hg244 ?_
        refine rl_move rfl rfl ?_
        exact RL.nil ⟨_, rfl, Ch.refl, rfl⟩
       refine Each.consS (fun fl O wk hE hN hO ck => ?_) ?_
       ·
        refine Need.o1 rfl rfl rfl (fun _ h => h) ?_
        refine Need.o1 rfl rfl rfl (fun _ h => h) ?_
        refine Need.o1 rfl rfl rfl (fun _ h => h) ?_
        refine RL.yes rfl rfl rfl hg244 ?_
        refine rl_bin rfl rfl (B.neqB Try.underlying4) rfl ?_
        exact RL.nil ⟨_, rfl, Ch.refl, rfl⟩
       refine Each.consS (fun fl O wk hE hN hO ck => ?_) ?_
       ·
        refine Need.o1 rfl rfl rfl (fun _ h => h) ?_
        refine Need.o1 rfl rfl rfl (fun _ h => h) ?_
        refine rl_pickF rfl hg244 rfl rfl ?_
        exact RL.nil ⟨_, rfl, Ch.refl, congrArg Value.bool hs292⟩
       refine Each.consS (fun fl O wk hE hN hO ck => ?_) ?_
       ·
        refine Need.o1 rfl rfl rfl (fun _ h => h) ?_
        refine rl_move rfl rfl ?_
        exact RL.nil ⟨_, rfl, Ch.refl, rfl⟩
       refine Each.consS (fun fl O wk hE hN hO ck => ?_) ?_
       ·
        refine Need.o1 rfl rfl rfl (fun _ h => h) ?_
        refine RL.yes rfl rfl rfl hg293 ?_
        refine rl_move rfl rfl ?_
        exact RL.nil ⟨_, rfl, Ch.refl, rfl⟩
       refine Each.consS (fun fl O wk hE hN hO ck => ?_) ?_
       ·
        have k103 := k103.ch0 ck
        have h138 := h138.ch0 ck
        have h139 := h139.ch0 ck
        have h140 := h140.ch0 ck
        have k163 := k163.ch0 ck
        have h172 := h172.ch0 ck
        have h173 := h173.ch0 ck
        have k188 := k188.ch0 ck
        have c79 := c79.then0 ck
        refine Need.o1 rfl rfl rfl (fun _ h => h) ?_
        refine Need.o1 rfl rfl rfl (fun _ h => h) ?_
        refine RL.yes rfl rfl rfl hg293 ?_
        have hd422 : ∀ b, (un (inBlk (PV p15)) (un (inBlk z135) (inBlk z136))) b → ¬ (un (inBlk (PV p116)) (un (inBlk (PV p105)) (un (inBlk (PV p90)) (un (inBlk z171) (un (inBlk (PV p31)) nb))))) b := fun b h => un_el h (fun h => (fun b hb => fun h => un_el h (fun h => (disSym d125) b hb h) (fun h => un_el h (fun h => (disSym d113) b hb h) (fun h => un_el h (fun h => (disSym d97) b hb h) (fun h => un_el h (fun h => (disSym d180) b hb h) (fun h => un_el h (fun h => (disSym d61) b hb h) (fun h => h)))))) b h) (fun h => un_el h (fun h => (fun b hb => fun h => un_el h (fun h => d147 b hb h) (fun h => un_el h (fun h => d148 b hb h) (fun h => un_el h (fun h => d149 b hb h) (fun h => un_el h (fun h => (disSym d181) b hb h) (fun h => un_el h (fun h => d151 b hb h) (fun h => h)))))) b h) (fun h => (fun b hb => fun h => un_el h (fun h => d153 b hb h) (fun h => un_el h (fun h => d154 b hb h) (fun h => un_el h (fun h => d155 b hb h) (fun h => un_el h (fun h => (disSym d182) b hb h) (fun h => un_el h (fun h => d157 b hb h) (fun h => h)))))) b h))
        refine rl_callF rfl en12 rfl (ctr12 F wk w.heap.size (un (inBlk (PV p116)) (un (inBlk (PV p105)) (un (inBlk (PV p90)) (un (inBlk z171) (un (inBlk (PV p31)) nb))))) c79.size (un_lt k188.ltp (un_lt k163.ltp (un_lt k103.ltp (un_lt (fun b hb => (h173.lt b hb).2) (un_lt h172.ltp nbS))))) p15 z135 z136 u137 hd422 d143 d144 d145 y133.2.2 h138 h139 h140 y196 hy197) ?_
        rintro _ w424 ⟨rfl, c425⟩
        exact RL.nil ⟨_, rfl, c425, rfl⟩
       refine Each.consS (fun fl O wk hE hN hO ck => ?_) ?_
       ·
        refine Need.o1 rfl rfl rfl (fun _ h => h) ?_
        refine RL.yes rfl rfl rfl hg293 ?_
        refine rl_move rfl rfl ?_
        exact RL.nil ⟨_, rfl, Ch.refl, rfl⟩
       refine Each.consS (fun fl O wk hE hN hO ck => ?_) ?_
       ·
        refine Need.o1 rfl rfl rfl (fun _ h => h) ?_
        refine Need.o1 rfl rfl rfl (fun _ h => h) ?_
        refine RL.yes rfl rfl rfl hg293 ?_
        refine rl_nilCheck rfl rfl ?_
        exact RL.nil ⟨_, rfl, Ch.refl, rfl⟩
       refine Each.consS (fun fl O wk hE hN hO ck => ?_) ?_
       ·
        refine Need.o1 rfl rfl rfl (fun _ h => h) ?_
        refine Need.o1 rfl rfl rfl (fun _ h => h) ?_
        refine RL.yes rfl rfl rfl hg293 ?_
        refine rl_fieldAddr rfl fa30_0 rfl ?_
        exact RL.nil ⟨_, rfl, Ch.refl, rfl⟩
       refine Each.consS (fun fl O wk hE hN hO ck => ?_) ?_
       ·
        have h172 := h172.ch0 ck
        refine Need.o1 rfl rfl rfl (fun _ h => h) ?_
        refine Need.o1 rfl rfl rfl (fun _ h => h) ?_
        refine RL.yes rfl rfl rfl hg293 ?_
        refine rl_loadS (v := z171) rfl Try.isAgg28 (h172.cell rfl) rfl ?_
        exact RL.nil ⟨_, rfl, Ch.refl, rfl⟩
       refine Each.consS (fun fl O wk hE hN hO ck => ?_) ?_
       ·
        have h173 := h173.ch0 ck
        refine Need.o1 rfl rfl rfl (fun _ h => h) ?_
        refine Need.o1 rfl rfl rfl (fun _ h => h) ?_
        refine RL.yes rfl rfl rfl hg293 ?_
        refine rl_lenR rfl (SlO.read (S' := (un (inBlk (PV p116)) (un (inBlk (PV p105)) (un (inBlk (PV p90)) (un (inBlk (PV p31)) (un (inBlk (PV p15)) (un (inBlk z135) (un (inBlk z136) nb)))))))) k_A2Key_pos h173 (fun b hs h => hs (un_el h (fun h => (.inl h)) (fun h => un_el h (fun h => (.inr (.inl h))) (fun h => un_el h (fun h => (.inr (.inr (.inl h)))) (fun h => un_el h (fun h => (.inr (.inr (.inr (.inr (.inl h)))))) (fun h => un_el h (fun h => (.inr (.inr (.inr (.inr (.inr (.inl h))))))) (fun h => un_el h (fun h => (.inr (.inr (.inr (.inr (.inr (.inr (.inl h)))))))) (fun h => un_el h (fun h => (.inr (.inr (.inr (.inr (.inr (.inr (.inr (.inl h))))))))) (fun h => False.elim h))))))))) (fun b hb => fun h => un_el h (fun h => d177 b hb h) (fun h => un_el h (fun h => d178 b hb h) (fun h => un_el h (fun h => d179 b hb h) (fun h => un_el h (fun h => (disSym d175) b hb h) (fun h => un_el h (fun h => d180 b hb h) (fun h => un_el h (fun h => d181 b hb h) (fun h => un_el h (fun h => d182 b hb h) (fun h => h))))))))) Try.underlying28 rfl ?_
        exact RL.nil ⟨_, rfl, Ch.refl, rfl⟩
       refine Each.consS (fun fl O wk hE hN hO ck => ?_) ?_
       ·
        refine Need.o1 rfl rfl rfl (fun _ h => h) ?_
        refine Need.o1 rfl rfl rfl (fun _ h => h) ?_
        refine Need.o1 rfl rfl rfl (fun _ h => h) ?_
        refine RL.yes rfl rfl rfl hg293 ?_
        refine rl_bin rfl rfl B.neq rfl ?_
        exact RL.nil ⟨_, rfl, Ch.refl, rfl⟩
       refine Each.consS (fun fl O wk hE hN hO ck => ?_) ?_
       ·
        refine Need.o1 rfl rfl rfl (fun _ h => h) ?_
        refine Need.o1 rfl rfl rfl (fun _ h => h) ?_
        refine rl_pickF rfl hg293 rfl rfl ?_
        exact RL.nil ⟨_, rfl, Ch.refl, congrArg Value.bool hs343⟩
       refine Each.consS (fun fl O wk hE hN hO ck => ?_) ?_
       ·
        refine Need.o1 rfl rfl rfl (fun _ h => h) ?_
        refine rl_move rfl rfl ?_
        exact RL.nil ⟨_, rfl, Ch.refl, rfl⟩
       refine Each.consS (fun fl O wk hE hN hO ck => ?_) ?_
       ·
        refine Need.o1 rfl rfl rfl (fun _ h => h) ?_
        refine RL.yes rfl rfl rfl hg344 ?_
        refine rl_move rfl rfl ?_
        exact RL.nil ⟨_, rfl, Ch.refl, rfl⟩
       refine Each.consA ⟨fun _ _ _ _ _ cc hh => by obtain ⟨v206, e, h207⟩ := hh; exact ⟨v206, e, slRep.ch k_Key_pos h207 cc⟩, fun h => absurd rfl h, fun fl O wk hE hN hO ck => ?_⟩ ?_
       ·
        have k103 := k103.ch0 ck
        have h138 := h138.ch0 ck
        have h139 := h139.ch0 ck
        have h140 := h140.ch0 ck
        have k163 := k163.ch0 ck
        have h172 := h172.ch0 ck
        have h173 := h173.ch0 ck
        have k188 := k188.ch0 ck
        have c79 := c79.then0 ck
        refine Need.o1 rfl rfl rfl (fun _ h => h) ?_
        refine Need.o1 rfl rfl rfl (fun _ h => h) ?_
        refine RL.yes rfl rfl rfl hg344 ?_
        have hd444 : ∀ b, (un (inBlk (PV p15)) (un (inBlk z135) (inBlk z136))) b → ¬ (un (inBlk (PV p116)) (un (inBlk (PV p105)) (un (inBlk (PV p90)) (un (inBlk z171) (un (inBlk (PV p31)) nb))))) b := fun b h => un_el h (fun h => (fun b hb => fun h => un_el h (fun h => (disSym d125) b hb h) (fun h => un_el h (fun h => (disSym d113) b hb h) (fun h => un_el h (fun h => (disSym d97) b hb h) (fun h => un_el h (fun h => (disSym d180) b hb h) (fun h => un_el h (fun h => (disSym d61) b hb h) (fun h => h)))))) b h) (fun h => un_el h (fun h => (fun b hb => fun h => un_el h (fun h => d147 b hb h) (fun h => un_el h (fun h => d148 b hb h) (fun h => un_el h (fun h => d149 b hb h) (fun h => un_el h (fun h => (disSym d181) b hb h) (fun h => un_el h (fun h => d151 b hb h) (fun h => h)))))) b h) (fun h => (fun b hb => fun h => un_el h (fun h => d153 b hb h) (fun h => un_el h (fun h => d154 b hb h) (fun h => un_el h (fun h => d155 b hb h) (fun h => un_el h (fun h => (disSym d182) b hb h) (fun h => un_el h (fun h => d157 b hb h) (fun h => h)))))) b h))
        have hS445 : (un (inBlk (PV p116)) (un (inBlk (PV p105)) (un (inBlk (PV p90)) (un (inBlk z171) (un (inBlk (PV p31)) (un (inBlk (PV p15)) (un (inBlk z135) (un (inBlk z136) nb)))))))) = (un (inBlk (PV p15)) (un (inBlk z135) (un (inBlk z136) (un (inBlk (PV p116)) (un (inBlk (PV p105)) (un (inBlk (PV p90)) (un (inBlk z171) (un (inBlk (PV p31)) nb)))))))) := funext fun b => propext ⟨fun h => un_el h (fun h => (.inr (.inr (.inr (.inl h))))) (fun h => un_el h (fun h => (.inr (.inr (.inr (.inr (.inl h)))))) (fun h => un_el h (fun h => (.inr (.inr (.inr (.inr (.inr (.inl h))))))) (fun h => un_el h (fun h => (.inr (.inr (.inr (.inr (.inr (.inr (.inl h)))))))) (fun h => un_el h (fun h => (.inr (.inr (.inr (.inr (.inr (.inr (.inr (.inl h))))))))) (fun h => un_el h (fun h => (.inl h)) (fun h => un_el h (fun h => (.inr (.inl h))) (fun h => un_el h (fun h => (.inr (.inr (.inl h)))) (fun h => False.elim h)))))))), fun h => un_el h (fun h => (.inr (.inr (.inr (.inr (.inr (.inl h))))))) (fun h => un_el h (fun h => (.inr (.inr (.inr (.inr (.inr (.inr (.inl h)))))))) (fun h => un_el h (fun h => (.inr (.inr (.inr (.inr (.inr (.inr (.inr (.inl h))))))))) (fun h => un_el h (fun h => (.inl h)) (fun h => un_el h (fun h => (.inr (.inl h))) (fun h => un_el h (fun h => (.inr (.inr (.inl h)))) (fun h => un_el h (fun h => (.inr (.inr (.inr (.inl h))))) (fun h => un_el h (fun h => (.inr (.inr (.inr (.inr (.inl h)))))) (fun h => False.elim h))))))))⟩
        refine rl_callF rfl en14 rfl (ctr14 F wk w.heap.size (un (inBlk (PV p116)) (un (inBlk (PV p105)) (un (inBlk (PV p90)) (un (inBlk z171) (un (inBlk (PV p31)) nb))))) c79.size (un_lt k188.ltp (un_lt k163.ltp (un_lt k103.ltp (un_lt (fun b hb => (h173.lt b hb).2) (un_lt h172.ltp nbS))))) p15 z135 z136 u137 hd444 d143 d144 d145 y133.2.2 h138 h139 h140 y204 hy205) ?_
        rintro v448 w446 ⟨_, rfl, h449, c447⟩
        rw [← hS445] at h449
        have h449 := SlO.backR k_Key_pos h449 (un_lt k188.ltp (un_lt k163.ltp (un_lt k103.ltp (un_lt (fun b hb => (h173.lt b hb).2) (un_lt h172.ltp (un_lt h138.ltp (un_lt h139.ltp (un_lt h140.ltp nbS)))))))) c79.size
        exact RL.nil ⟨_, rfl, c447, ⟨v448, rfl, h449⟩⟩
       refine Each.consS (fun fl O wk hE hN hO ck => ?_) ?_
       ·
        refine Need.o1 rfl rfl rfl (fun _ h => h) ?_
        refine RL.yes rfl rfl rfl hg344 ?_
        refine rl_move rfl rfl ?_
        exact RL.nil ⟨_, rfl, Ch.refl, rfl⟩
       refine Each.consA ⟨fun _ _ _ _ _ cc hh => by obtain ⟨v214, e, h215⟩ := hh; exact ⟨v214, e, slRep.ch k_Key_pos h215 cc⟩, fun h => absurd rfl h, fun fl O wk hE hN hO ck => ?_⟩ ?_
       ·
        have k103 := k103.ch0 ck
        have h138 := h138.ch0 ck
        have h139 := h139.ch0 ck
        have h140 := h140.ch0 ck
        have k163 := k163.ch0 ck
        have h172 := h172.ch0 ck
        have h173 := h173.ch0 ck
        have k188 := k188.ch0 ck
        have c79 := c79.then0 ck
        refine Need.o1 rfl rfl rfl (fun _ h => h) ?_
        refine Need.o1 rfl rfl rfl (fun _ h => h) ?_
        refine RL.yes rfl rfl rfl hg344 ?_
        have hd453 : ∀ b, (un (inBlk (PV p31)) (inBlk z171)) b → ¬ (un (inBlk (PV p116)) (un (inBlk (PV p105)) (un (inBlk (PV p90)) (un (inBlk (PV p15)) (un (inBlk z135) (un (inBlk z136) nb)))))) b := fun b h => un_el h (fun h => (fun b hb => fun h => un_el h (fun h => (disSym d124) b hb h) (fun h => un_el h (fun h => (disSym d112) b hb h) (fun h => un_el h (fun h => (disSym d96) b hb h) (fun h => un_el h (fun h => d61 b hb h) (fun h => un_el h (fun h => (disSym d151) b hb h) (fun h => un_el h (fun h => (disSym d157) b hb h) (fun h => h))))))) b h) (fun h => (fun b hb => fun h => un_el h (fun h => d177 b hb h) (fun h => un_el h (fun h => d178 b hb h) (fun h => un_el h (fun h => d179 b hb h) (fun h => un_el h (fun h => d180 b hb h) (fun h => un_el h (fun h => d181 b hb h) (fun h => un_el h (fun h => d182 b hb h) (fun h => h))))))) b h)
        have hS454 : (un (inBlk (PV p116)) (un (inBlk (PV p105)) (un (inBlk (PV p90)) (un (inBlk z171) (un (inBlk (PV p31)) (un (inBlk (PV p15)) (un (inBlk z135) (un (inBlk z136) nb)))))))) = (un (inBlk (PV p31)) (un (inBlk z171) (un (inBlk (PV p116)) (un (inBlk (PV p105)) (un (inBlk (PV p90)) (un (inBlk (PV p15)) (un (inBlk z135) (un (inBlk z136) nb)))))))) := funext fun b => propext ⟨fun h => un_el h (fun h => (.inr (.inr (.inl h)))) (fun h => un_el h (fun h => (.inr (.inr (.inr (.inl h))))) (fun h => un_el h (fun h => (.inr (.inr (.inr (.inr (.inl h)))))) (fun h => un_el h (fun h => (.inr (.inl h))) (fun h => un_el h (fun h => (.inl h)) (fun h => un_el h (fun h => (.inr (.inr (.inr (.inr (.inr (.inl h))))))) (fun h => un_el h (fun h => (.inr (.inr (.inr (.inr (.inr (.inr (.inl h)))))))) (fun h => un_el h (fun h => (.inr (.inr (.inr (.inr (.inr (.inr (.inr (.inl h))))))))) (fun h => False.elim h)))))))), fun h => un_el h (fun h => (.inr (.inr (.inr (.inr (.inl h)))))) (fun h => un_el h (fun h => (.inr (.inr (.inr (.inl h))))) (fun h => un_el h (fun h => (.inl h)) (fun h => un_el h (fun h => (.inr (.inl h))) (fun h => un_el h (fun h => (.inr (.inr (.inl h)))) (fun h => un_el h (fun h => (.inr (.inr (.inr (.inr (.inr (.inl h))))))) (fun h => un_el h (fun h => (.inr (.inr (.inr (.inr (.inr (.inr (.inl h)))))))) (fun h => un_el h (fun h => (.inr (.inr (.inr (.inr (.inr (.inr (.inr (.inl h))))))))) (fun h => False.elim h))))))))⟩
        refine rl_callF rfl en15 rfl (ctr15 F wk w.heap.size (un (inBlk (PV p116)) (un (inBlk (PV p105)) (un (inBlk (PV p90)) (un (inBlk (PV p15)) (un (inBlk z135) (un (inBlk z136) nb)))))) c79.size (un_lt k188.ltp (un_lt k163.ltp (un_lt k103.ltp (un_lt h138.ltp (un_lt h139.ltp (un_lt h140.ltp nbS)))))) p31 z171 hd453 d175 y169.2.2 h172 (hS454 ▸ h173) y212 hy213) ?_
        rintro v457 w455 ⟨_, rfl, h458, c456⟩
        rw [← hS454] at h458
        have h458 := SlO.backR k_Key_pos h458 (un_lt k188.ltp (un_lt k163.ltp (un_lt k103.ltp (un_lt (fun b hb => (h173.lt b hb).2) (un_lt h172.ltp (un_lt h138.ltp (un_lt h139.ltp (un_lt h140.ltp nbS)))))))) c79.size
        exact RL.nil ⟨_, rfl, c456, ⟨v457, rfl, h458⟩⟩
       refine Each.consS (fun fl O wk hE hN hO ck => ?_) ?_
       ·
        refine Need.o1 rfl rfl rfl (fun _ h => h) ?_
        refine Need.one rfl rfl rfl ?_
        rintro _ ⟨v206, e460, h207⟩
        obtain rfl := e460.symm
        refine Need.one rfl rfl rfl ?_
        rintro _ ⟨v214, e461, h215⟩
        obtain rfl := e461.symm
        refine RL.yes rfl rfl rfl hg344 ?_
        refine rl_callF rfl en13 rfl (ctr13 (G F w.heap.size (un (inBlk (PV p116)) (un (inBlk (PV p105)) (un (inBlk (PV p90)) (un (inBlk z171) (un (inBlk (PV p31)) (un (inBlk (PV p15)) (un (inBlk z135) (un (inBlk z136) nb))))))))) wk y204 v206 h207 y212 v214 h215 y218 hy219) ?_
        rintro _ w462 ⟨rfl, c463⟩
        exact RL.nil ⟨_, rfl, c463, rfl⟩
       refine Each.consS (fun fl O wk hE hN hO ck => ?_) ?_
       ·
        refine Need.o1 rfl rfl rfl (fun _ h => h) ?_
        refine Need.o1 rfl rfl rfl (fun _ h => h) ?_
        refine RL.yes rfl rfl rfl hg344 ?_
        refine rl_not rfl rfl ?_
        exact RL.nil ⟨_, rfl, Ch.refl, rfl⟩
       refine Each.consS (fun fl O wk hE hN hO ck => ?_) ?_
       ·
        refine Need.o1 rfl rfl rfl (fun _ h => h) ?_
        refine Need.o1 rfl rfl rfl (fun _ h => h) ?_
        refine rl_pickF rfl hg344 rfl rfl ?_
        exact RL.nil ⟨_, rfl, Ch.refl, congrArg Value.bool (Option.some.inj hs405)⟩
       refine Each.consS (fun fl O wk hE hN hO ck => ?_) ?_
       ·
        refine Need.o1 rfl rfl rfl (fun _ h => h) ?_
        refine rl_move rfl rfl ?_
        exact RL.nil ⟨_, rfl, Ch.refl, rfl⟩
       refine Each.consS (fun fl O wk hE hN hO ck => ?_) ?_
       ·
        refine Need.o1 rfl rfl rfl (fun _ h => h) ?_
        refine RL.no rfl rfl rfl hg406 rfl rfl ?_
        exact RL.nil ⟨_, rfl, Ch.refl, rfl⟩
       refine Each.consS (fun fl O wk hE hN hO ck => ?_) ?_
       ·
        refine Need.o1 rfl rfl rfl (fun _ h => h) ?_
        refine RL.no rfl rfl rfl hg406 rfl rfl ?_
        exact RL.nil ⟨_, rfl, Ch.refl, rfl⟩
       refine Each.consS (fun fl O wk hE hN hO ck => ?_) ?_
       ·
        refine Need.o1 rfl rfl rfl (fun _ h => h) ?_
        refine RL.no rfl rfl rfl hg406 rfl rfl ?_
        exact RL.nil ⟨_, rfl, Ch.refl, rfl⟩
       refine Each.consS (fun fl O wk hE hN hO ck => ?_) ?_
       ·
        refine Need.o1 rfl rfl rfl (fun _ h => h) ?_
        refine RL.no rfl rfl rfl hg406 rfl rfl ?_
        exact RL.nil ⟨_, rfl, Ch.refl, rfl⟩
       refine Each.consS (fun fl O wk hE hN hO ck => ?_) ?_
       ·
        refine Need.o1 rfl rfl rfl (fun _ h => h) ?_
        refine RL.no rfl rfl rfl hg406 rfl rfl ?_
        exact RL.nil ⟨_, rfl, Ch.refl, rfl⟩
       refine Each.consS (fun fl O wk hE hN hO ck => ?_) ?_
       ·
        refine Need.o1 rfl rfl rfl (fun _ h => h) ?_
        refine RL.no rfl rfl rfl hg406 rfl rfl ?_
        exact RL.nil ⟨_, rfl, Ch.refl, rfl⟩
       refine Each.consS (fun fl O wk hE hN hO ck => ?_) ?_
       ·
        refine Need.o1 rfl rfl rfl (fun _ h => h) ?_
        refine RL.no rfl rfl rfl hg406 rfl rfl ?_
        exact RL.nil ⟨_, rfl, Ch.refl, rfl⟩
       refine Each.consS (fun fl O wk hE hN hO ck => ?_) ?_
       ·
        refine Need.o1 rfl rfl rfl (fun _ h => h) ?_
        refine RL.no rfl rfl rfl hg406 rfl rfl ?_
        exact RL.nil ⟨_, rfl, Ch.refl, rfl⟩
       refine Each.consS (fun fl O wk hE hN hO ck => ?_) ?_
       ·
        refine Need.o1 rfl rfl rfl (fun _ h => h) ?_
        refine RL.no rfl rfl rfl hg406 rfl rfl ?_
        exact RL.nil ⟨_, rfl, Ch.refl, rfl⟩
       refine Each.consS (fun fl O wk hE hN hO ck => ?_) ?_
       ·
        refine Need.o1 rfl rfl rfl (fun _ h => h) ?_
        refine RL.no rfl rfl rfl hg406 rfl rfl ?_
        exact RL.nil ⟨_, rfl, Ch.refl, rfl⟩
       refine Each.consS (fun fl O wk hE hN hO ck => ?_) ?_
       ·
        refine Need.o1 rfl rfl rfl (fun _ h => h) ?_
        refine rl_pickT rfl hg406 rfl rfl ?_
        exact RL.nil ⟨_, rfl, Ch.refl, congrArg Value.bool (Option.some.inj hs407)⟩
       trivial
      intro hvO482 OpO482 O482 w480 hO483 c481 hN484
      refine Need.o1 rfl rfl rfl (fun _ h => h) ?_
      exact RL.nil ⟨rfl, ⟨rfl, rfl, rfl, rfl, rfl, rfl, rfl, rfl, rfl, trivial⟩, c481⟩
     have hs486 := orO_f hg406 hb243
     obtain ⟨y226, hy227, hs486⟩ := bindS hs486
     obtain ⟨y234, hy235, hs486⟩ := bindS hs486
     obtain ⟨y240, hy241, hs486⟩ := bindS hs486
     refine CW.draw 38 [(none, fun fx O uu wx => uu = (Value.agg (Key.enc y133.1).toArray)), (none, fun fx O uu wx => uu = (Value.agg (Key.enc y169.1).toArray)), (none, fun fx O uu wx => uu = (Value.bool (!decide (y133.1 = y169.1)))), (none, fun fx O uu wx => uu = (Value.bool (!decide (y133.1 = y169.1)))), (none, fun fx O uu wx => uu = (Value.bool y133.2.1)), (none, fun fx O uu wx => uu = (Value.bool y169.2.1)), (none, fun fx O uu wx => uu = (Value.bool (!(y133.2.1 == y169.2.1)))), (none, fun fx O uu wx => uu = (Value.bool b190)), (none, fun fx O uu wx => uu = (Value.bool b190)), (none, fun fx O uu wx => uu = (PV p15)), (none, fun fx O uu wx => uu = (Value.int .i64 y196)), (none, fun fx O uu wx => uu = (PV p31)), (none, fun fx O uu wx => uu = (PV p31)), (none, fun fx O uu wx => uu = (PV p31)), (none, fun fx O uu wx => uu = z171), (none, fun fx O uu wx => uu = (Value.int .i64 ((y169.2.2.all.length : Nat) : Int))), (none, fun fx O uu wx => uu = (Value.bool (!decide (y196 = ((y169.2.2.all.length : Nat) : Int))))), (none, fun fx O uu wx => uu = (Value.bool b198)), (none, fun fx O uu wx => uu = (Value.bool b198)), (none, fun fx O uu wx => uu = (PV p15)), (none, fun fx O uu wx => ∃ (v206 : Value), uu = v206 ∧ slRep k_Key (G F w.heap.size (un (inBlk (PV p116)) (un (inBlk (PV p105)) (un (inBlk (PV p90)) (un (inBlk z171) (un (inBlk (PV p31)) (un (inBlk (PV p15)) (un (inBlk z135) (un (inBlk z136) nb))))))))) wx y204 v206), (none, fun fx O uu wx => uu = (PV p31)), (none, fun fx O uu wx => ∃ (v214 : Value), uu = v214 ∧ slRep k_Key (G F w.heap.size (un (inBlk (PV p116)) (un (inBlk (PV p105)) (un (inBlk (PV p90)) (un (inBlk z171) (un (inBlk (PV p31)) (un (inBlk (PV p15)) (un (inBlk z135) (un (inBlk z136) nb))))))))) wx y212 v214), (none, fun fx O uu wx => uu = (Value.bool y218)), (none, fun fx O uu wx => uu = (Value.bool (!y218))), (none, fun fx O uu wx => uu = (Value.bool b220)), (none, fun fx O uu wx => uu = (Value.bool b220)), (none, fun fx O uu wx => uu = (PV p15)), (none, fun fx O uu wx => uu = (Value.pointer (some ⟨p90, 3, none⟩))), (none, fun fx O uu wx => uu = (Value.agg (Key.enc x76.owner).toArray)), (none, fun fx O uu wx => ∃ (v228 : Value), uu = v228 ∧ slRep k_Key (G F w.heap.size (un (inBlk (PV p116)) (un (inBlk (PV p105)) (un (inBlk (PV p90)) (un (inBlk z171) (un (inBlk (PV p31)) (un (inBlk (PV p15)) (un (inBlk z135) (un (inBlk z136) nb))))))))) wx y226 v228), (none, fun fx O uu wx => uu = (PV p31)), (none, fun fx O uu wx => uu = (Value.pointer (some ⟨p90, 3, none⟩))), (none, fun fx O uu wx => uu = (Value.agg (Key.enc x76.owner).toArray)), (none, fun fx O uu wx => ∃ (v236 : Value), uu = v236 ∧ slRep k_Key (G F w.heap.size (un (inBlk (PV p116)) (un (inBlk (PV p105)) (un (inBlk (PV p90)) (un (inBlk z171) (un (inBlk (PV p31)) (un (inBlk (PV p15)) (un (inBlk z135) (un (inBlk z136) nb))))))))) wx y234 v236), (none, fun fx O uu wx => uu = (Value.bool y240)), (none, fun fx O uu wx => uu = (Value.bool (!y240))), (none, fun fx O uu wx => uu = (Value.bool b242))] [[], [], [0, 1], [2], [3], [3], [3, 4, 5], [3, 6], [7], [8], [8, 9], [8], [8, 11], [8, 12], [8, 13], [8, 14], [8, 10, 15], [8, 16], [17], [18], [18, 19], [18], [18, 21], [18, 20, 22], [18, 23], [18, 24], [25], [26], [26], [26, 28], [26, 27, 29], [26], [26], [26, 32], [26, 31, 33], [26, 30, 34], [26, 35], [26, 36]] [37] nb (fun _ h => h.elim) mixed rfl rfl rfl rfl ?_ ?_
     ·
      refine Each.consS (fun fl O wk hE hN hO ck => ?_) ?_
      ·
       have k163 := k163.ch0 ck
       refine rl_loadA (cs := (Key.enc y133.1)) rfl Try.isAgg32 Try.sizeOf32 (k163.segAt 0 2) rfl rfl ?_
       exact RL.nil ⟨_, rfl, Ch.refl, rfl⟩
      refine Each.consS (fun fl O wk hE hN hO ck => ?_) ?_
      ·
       have k188 := k188.ch0 ck
       refine rl_loadA (cs := (Key.enc y169.1)) rfl Try.isAgg32 Try.sizeOf32 (k188.segAt 0 2) rfl rfl ?_
       exact RL.nil ⟨_, rfl, Ch.refl, rfl⟩
      refine Each.consS (fun fl O wk hE hN hO ck => ?_) ?_
      ·
       refine Need.o1 rfl rfl rfl (fun _ h => h) ?_
       refine Need.o1 rfl rfl rfl (fun _ h => h) ?_
       refine rl_bin rfl rfl (neq32 y133.1 y169.1) rfl ?_
       exact RL.nil ⟨_, rfl, Ch.refl, rfl⟩
      refine Each.consS (fun fl O wk hE hN hO ck => ?_) ?_
      ·
       refine Need.o1 rfl rfl rfl (fun _ h => h) ?_
       refine rl_move rfl rfl ?_
       exact RL.nil ⟨_, rfl, Ch.refl, rfl⟩
      refine Each.consS (fun fl O wk hE hN hO ck => ?_) ?_
      ·
       refine Need.o1 rfl rfl rfl (fun _ h => h) ?_
       refine RL.yes rfl rfl rfl hg244 ?_
       refine rl_move rfl rfl ?_
       exact RL.nil ⟨_, rfl, Ch.refl, rfl⟩
      refine Each.consS (fun fl O wk hE hN hO ck => ?_) ?_
      ·
       refine Need.o1 rfl rfl rfl (fun _ h => h) ?_
       refine RL.yes rfl rfl rfl hg244 ?_
       refine rl_move rfl rfl ?_
       exact RL.nil ⟨_, rfl, Ch.refl, rfl⟩
      refine Each.consS (fun fl O wk hE hN hO ck => ?_) ?_
      ·
       refine Need.o1 rfl rfl rfl (fun _ h => h) ?_
       refine Need.o1 rfl rfl rfl (fun _ h => h) ?_
       refine Need.o1 rfl rfl rfl (fun _ h => h) ?_
       refine RL.yes rfl rfl rfl hg244 ?_
       refine rl_bin rfl rfl (B.neqB Try.underlying4) rfl ?_
       exact RL.nil ⟨_, rfl, Ch.refl, rfl⟩
      refine Each.consS (fun fl O wk hE hN hO ck => ?_) ?_
      ·
       refine Need.o1 rfl rfl rfl (fun _ h => h) ?_
       refine Need.o1 rfl rfl rfl (fun _ h => h) ?_
       refine rl_pickF rfl hg244 rfl rfl ?_
       exact RL.nil ⟨_, rfl, Ch.refl, congrArg Value.bool hs292⟩
      refine Each.consS (fun fl O wk hE hN hO ck => ?_) ?_
      ·
       refine Need.o1 rfl rfl rfl (fun _ h => h) ?_
       refine rl_move rfl rfl ?_
       exact RL.nil ⟨_, rfl, Ch.refl, rfl⟩
      refine Each.consS (fun fl O wk hE hN hO ck => ?_) ?_
      ·
       refine Need.o1 rfl rfl rfl (fun _ h => h) ?_
       refine RL.yes rfl rfl rfl hg293 ?_
       refine rl_move rfl rfl ?_
       exact RL.nil ⟨_, rfl, Ch.refl, rfl⟩
      refine Each.consS (fun fl O wk hE hN hO ck => ?_) ?_
      ·
       have k103 := k103.ch0 ck
       have h138 := h138.ch0 ck
       have h139 := h139.ch0 ck
       have h140 := h140.ch0 ck
       have k163 := k163.ch0 ck
       have h172 := h172.ch0 ck
       have h173 := h173.ch0 ck
       have k188 := k188.ch0 ck
       have c79 := c79.then0 ck
       refine Need.o1 rfl rfl rfl (fun _ h => h) ?_
       refine Need.o1 rfl rfl rfl (fun _ h => h) ?_
       refine RL.yes rfl rfl rfl hg293 ?_
       have hd501 : ∀ b, (un (inBlk (PV p15)) (un (inBlk z135) (inBlk z136))) b → ¬ (un (inBlk (PV p116)) (un (inBlk (PV p105)) (un (inBlk (PV p90)) (un (inBlk z171) (un (inBlk (PV p31)) nb))))) b := fun b h => un_el h (fun h => (fun b hb => fun h => un_el h (fun h => (disSym d125) b hb h) (fun h => un_el h (fun h => (disSym d113) b hb h) (fun h => un_el h (fun h => (disSym d97) b hb h) (fun h => un_el h (fun h => (disSym d180) b hb h) (fun h => un_el h (fun h => (disSym d61) b hb h) (fun h => h)))))) b h) (fun h => un_el h (fun h => (fun b hb => fun h => un_el h (fun h => d147 b hb h) (fun h => un_el h (fun h => d148 b hb h) (fun h => un_el h (fun h => d149 b hb h) (fun h => un_el h (fun h => (disSym d181) b hb h) (fun h => un_el h (fun h => d151 b hb h) (fun h => h)))))) b h) (fun h => (fun b hb => fun h => un_el h (fun h => d153 b hb h) (fun h => un_el h (fun h => d154 b hb h) (fun h => un_el h (fun h => d155 b hb h) (fun h => un_el h (fun h => (disSym d182) b hb h) (fun h => un_el h (fun h => d157 b hb h) (fun h => h)))))) b h))
       refine rl_callF rfl en12 rfl (ctr12 F wk w.heap.size (un (inBlk (PV p116)) (un (inBlk (PV p105)) (un (inBlk (PV p90)) (un (inBlk z171) (un (inBlk (PV p31)) nb))))) c79.size (un_lt k188.ltp (un_lt k163.ltp (un_lt k103.ltp (un_lt (fun b hb => (h173.lt b hb).2) (un_lt h172.ltp nbS))))) p15 z135 z136 u137 hd501 d143 d144 d145 y133.2.2 h138 h139 h140 y196 hy197) ?_
       rintro _ w503 ⟨rfl, c504⟩
       exact RL.nil ⟨_, rfl, c504, rfl⟩
      refine Each.consS (fun fl O wk hE hN hO ck => ?_) ?_
      ·
       refine Need.o1 rfl rfl rfl (fun _ h => h) ?_
       refine RL.yes rfl rfl rfl hg293 ?_
       refine rl_move rfl rfl ?_
       exact RL.nil ⟨_, rfl, Ch.refl, rfl⟩
      refine Each.consS (fun fl O wk hE hN hO ck => ?_) ?_
      ·
       refine Need.o1 rfl rfl rfl (fun _ h => h) ?_
       refine Need.o1 rfl rfl rfl (fun _ h => h) ?_
       refine RL.yes rfl rfl rfl hg293 ?_
       refine rl_nilCheck rfl rfl ?_
       exact RL.nil ⟨_, rfl, Ch.refl, rfl⟩
      refine Each.consS (fun fl O wk hE hN hO ck => ?_) ?_
      ·
       refine Need.o1 rfl rfl rfl (fun _ h => h) ?_
       refine Need.o1 rfl rfl rfl (fun _ h => h) ?_
       refine RL.yes rfl rfl rfl hg293 ?_
       refine rl_fieldAddr rfl fa30_0 rfl ?_
       exact RL.nil ⟨_, rfl, Ch.refl, rfl⟩
      refine Each.consS (fun fl O wk hE hN hO ck => ?_) ?_
      ·
       have h172 := h172.ch0 ck
       refine Need.o1 rfl rfl rfl (fun _ h => h) ?_
       refine Need.o1 rfl rfl rfl (fun _ h => h) ?_
       refine RL.yes rfl rfl rfl hg293 ?_
       refine rl_loadS (v := z171) rfl Try.isAgg28 (h172.cell rfl) rfl ?_
       exact RL.nil ⟨_, rfl, Ch.refl, rfl⟩
      refine Each.consS (fun fl O wk hE hN hO ck => ?_) ?_
      ·
       have h173 := h173.ch0 ck
       refine Need.o1 rfl rfl rfl (fun _ h => h) ?_
       refine Need.o1 rfl rfl rfl (fun _ h => h) ?_
       refine RL.yes rfl rfl rfl hg293 ?_
       refine rl_lenR rfl (SlO.read (S' := (un (inBlk (PV p116)) (un (inBlk (PV p105)) (un (inBlk (PV p90)) (un (inBlk (PV p31)) (un (inBlk (PV p15)) (un (inBlk z135) (un (inBlk z136) nb)))))))) k_A2Key_pos h173 (fun b hs h => hs (un_el h (fun h => (.inl h)) (fun h => un_el h (fun h => (.inr (.inl h))) (fun h => un_el h (fun h => (.inr (.inr (.inl h)))) (fun h => un_el h (fun h => (.inr (.inr (.inr (.inr (.inl h)))))) (fun h => un_el h (fun h => (.inr (.inr (.inr (.inr (.inr (.inl h))))))) (fun h => un_el h (fun h => (.inr (.inr (.inr (.inr (.inr (.inr (.inl h)))))))) (fun h => un_el h (fun h => (.inr (.inr (.inr (.inr (.inr (.inr (.inr (.inl h))))))))) (fun h => False.elim h))))))))) (fun b hb => fun h => un_el h (fun h => d177 b hb h) (fun h => un_el h (fun h => d178 b hb h) (fun h => un_el h (fun h => d179 b hb h) (fun h => un_el h (fun h => (disSym d175) b hb h) (fun h => un_el h (fun h => d180 b hb h) (fun h => un_el h (fun h => d181 b hb h) (fun h => un_el h (fun h => d182 b hb h) (fun h => h))))))))) Try.underlying28 rfl ?_
       exact RL.nil ⟨_, rfl, Ch.refl, rfl⟩
      refine Each.consS (fun fl O wk hE hN hO ck => ?_) ?_
      ·
       refine Need.o1 rfl rfl rfl (fun _ h => h) ?_
       refine Need.o1 rfl rfl rfl (fun _ h => h) ?_
       refine Need.o1 rfl rfl rfl (fun _ h => h) ?_
       refine RL.yes rfl rfl rfl hg293 ?_
       refine rl_bin rfl rfl B.neq rfl ?_
       exact RL.nil ⟨_, rfl, Ch.refl, rfl⟩
      refine Each.consS (fun fl O wk hE hN hO ck => ?_) ?_
      ·
       refine Need.o1 rfl rfl rfl (fun _ h => h) ?_
       refine Need.o1 rfl rfl rfl (fun _ h => h) ?_
       refine rl_pickF rfl hg293 rfl rfl ?_
       exact RL.nil ⟨_, rfl, Ch.refl, congrArg Value.bool hs343⟩
      refine Each.consS (fun fl O wk hE hN hO ck => ?_) ?_
      ·
       refine Need.o1 rfl rfl rfl (fun _ h => h) ?_
       refine rl_move rfl rfl ?_
       exact RL.nil ⟨_, rfl, Ch.refl, rfl⟩
      refine Each.consS (fun fl O wk hE hN hO ck => ?_) ?_
      ·
       refine Need.o1 rfl rfl rfl (fun _ h => h) ?_
       refine RL.yes rfl rfl rfl hg344 ?_
       refine rl_move rfl rfl ?_
       exact RL.nil ⟨_, rfl, Ch.refl, rfl⟩
      refine Each.consA ⟨fun _ _ _ _ _ cc hh => by obtain ⟨v206, e, h207⟩ := hh; exact ⟨v206, e, slRep.ch k_Key_pos h207 cc⟩, fun h => absurd rfl h, fun fl O wk hE hN hO ck => ?_⟩ ?_
      ·
       have k103 := k103.ch0 ck
       have h138 := h138.ch0 ck
       have h139 := h139.ch0 ck
       have h140 := h140.ch0 ck
       have k163 := k163.ch0 ck
       have h172 := h172.ch0 ck
       have h173 := h173.ch0 ck
       have k188 := k188.ch0 ck
       have c79 := c79.then0 ck
       refine Need.o1 rfl rfl rfl (fun _ h => h) ?_
       refine Need.o1 rfl rfl rfl (fun _ h => h) ?_
       refine RL.yes rfl rfl rfl hg344 ?_
       have hd523 : ∀ b, (un (inBlk (PV p15)) (un (inBlk z135) (inBlk z136))) b → ¬ (un (inBlk (PV p116)) (un (inBlk (PV p105)) (un (inBlk (PV p90)) (un (inBlk z171) (un (inBlk (PV p31)) nb))))) b := fun b h => un_el h (fun h => (fun b hb => fun h => un_el h (fun h => (disSym d125) b hb h) (fun h => un_el h (fun h => (disSym d113) b hb h) (fun h => un_el h (fun h => (disSym d97) b hb h) (fun h => un_el h (fun h => (disSym d180) b hb h) (fun h => un_el h (fun h => (disSym d61) b hb h) (fun h => h)))))) b h) (fun h => un_el h (fun h => (fun b hb => fun h => un_el h (fun h => d147 b hb h) (fun h => un_el h (fun h => d148 b hb h) (fun h => un_el h (fun h => d149 b hb h) (fun h => un_el h (fun h => (disSym d181) b hb h) (fun h => un_el h (fun h => d151 b hb h) (fun h => h)))))) b h) (fun h => (fun b hb => fun h => un_el h (fun h => d153 b hb h) (fun h => un_el h (fun h => d154 b hb h) (fun h => un_el h (fun h => d155 b hb h) (fun h => un_el h (fun h => (disSym d182) b hb h) (fun h => un_el h (fun h => d157 b hb h) (fun h => h)))))) b h))
       have hS524 : (un (inBlk (PV p116)) (un (inBlk (PV p105)) (un (inBlk (PV p90)) (un (inBlk z171) (un (inBlk (PV p31)) (un (inBlk (PV p15)) (un (inBlk z135) (un (inBlk z136) nb)))))))) = (un (inBlk (PV p15)) (un (inBlk z135) (un (inBlk z136) (un (inBlk (PV p116)) (un (inBlk (PV p105)) (un (inBlk (PV p90)) (un (inBlk z171) (un (inBlk (PV p31)) nb)))))))) := funext fun b => propext ⟨fun h => un_el h (fun h => (.inr (.inr (.inr (.inl h))))) (fun h => un_el h (fun h => (.inr (.inr (.inr (.inr (.inl h)))))) (fun h => un_el h (fun h => (.inr (.inr (.inr (.inr (.inr (.inl h))))))) (fun h => un_el h (fun h => (.inr (.inr (.inr (.inr (.inr (.inr (.inl h)))))))) (fun h => un_el h (fun h => (.inr (.inr (.inr (.inr (.inr (.inr (.inr (.inl h))))))))) (fun h => un_el h (fun h => (.inl h)) (fun h => un_el h (fun h => (.inr (.inl h))) (fun h => un_el h (fun h => (.inr (.inr (.inl h)))) (fun h => False.elim h)))))))), fun h => un_el h (fun h => (.inr (.inr (.inr (.inr (.inr (.inl h))))))) (fun h => un_el h (fun h => (.inr (.inr (.inr (.inr (.inr (.inr (.inl h)))))))) (fun h => un_el h (fun h => (.inr (.inr (.inr (.inr (.inr (.inr (.inr (.inl h))))))))) (fun h => un_el h (fun h => (.inl h)) (fun h => un_el h (fun h => (.inr (.inl h))) (fun h => un_el h (fun h => (.inr (.inr (.inl h)))) (fun h => un_el h (fun h => (.inr (.inr (.inr (.inl h))))) (fun h => un_el h (fun h => (.inr (.inr (.inr (.inr (.inl h)))))) (fun h => False.elim h))))))))⟩
       refine rl_callF rfl en14 rfl (ctr14 F wk w.heap.size (un (inBlk (PV p116)) (un (inBlk (PV p105)) (un (inBlk (PV p90)) (un (inBlk z171) (un (inBlk (PV p31)) nb))))) c79.size (un_lt k188.ltp (un_lt k163.ltp (un_lt k103.ltp (un_lt (fun b hb => (h173.lt b hb).2) (un_lt h172.ltp nbS))))) p15 z135 z136 u137 hd523 d143 d144 d145 y133.2.2 h138 h139 h140 y204 hy205) ?_
       rintro v527 w525 ⟨_, rfl, h528, c526⟩
       rw [← hS524] at h528
       have h528 := SlO.backR k_Key_pos h528 (un_lt k188.ltp (un_lt k163.ltp (un_lt k103.ltp (un_lt (fun b hb => (h173.lt b hb).2) (un_lt h172.ltp (un_lt h138.ltp (un_lt h139.ltp (un_lt h140.ltp nbS)))))))) c79.size
       exact RL.nil ⟨_, rfl, c526, ⟨v527, rfl, h528⟩⟩
      refine Each.consS (fun fl O wk hE hN hO ck => ?_) ?_
      ·
       refine Need.o1 rfl rfl rfl (fun _ h => h) ?_
       refine RL.yes rfl rfl rfl hg344 ?_
       refine rl_move rfl rfl ?_
       exact RL.nil ⟨_, rfl, Ch.refl, rfl⟩
      refine Each.consA ⟨fun _ _ _ _ _ cc hh => by obtain ⟨v214, e, h215⟩ := hh; exact ⟨v214, e, slRep.ch k_Key_pos h215 cc⟩, fun h => absurd rfl h, fun fl O wk hE hN hO ck => ?_⟩ ?_
      ·
       have k103 := k103.ch0 ck
       have h138 := h138.ch0 ck
       have h139 := h139.ch0 ck
       have h140 := h140.ch0 ck
       have k163 := k163.ch0 ck
       have h172 := h172.ch0 ck
       have h173 := h173.ch0 ck
       have k188 := k188.ch0 ck
       have c79 := c79.then0 ck
       refine Need.o1 rfl rfl rfl (fun _ h => h) ?_
       refine Need.o1 rfl rfl rfl (fun _ h => h) ?_
       refine RL.yes rfl rfl rfl hg344 ?_
       have hd532 : ∀ b, (un (inBlk (PV p31)) (inBlk z171)) b → ¬ (un (inBlk (PV p116)) (un (inBlk (PV p105)) (un (inBlk (PV p90)) (un (inBlk (PV p15)) (un (inBlk z135) (un (inBlk z136) nb)))))) b := fun b h => un_el h (fun h => (fun b hb => fun h => un_el h (fun h => (disSym d124) b hb h) (fun h => un_el h (fun h => (disSym d112) b hb h) (fun h => un_el h (fun h => (disSym d96) b hb h) (fun h => un_el h (fun h => d61 b hb h) (fun h => un_el h (fun h => (disSym d151) b hb h) (fun h => un_el h (fun h => (disSym d157) b hb h) (fun h => h))))))) b h) (fun h => (fun b hb => fun h => un_el h (fun h => d177 b hb h) (fun h => un_el h (fun h => d178 b hb h) (fun h => un_el h (fun h => d179 b hb h) (fun h => un_el h (fun h => d180 b hb h) (fun h => un_el h (fun h => d181 b hb h) (fun h => un_el h (fun h => d182 b hb h) (fun h => h))))))) b h)
       have hS533 : (un (inBlk (PV p116)) (un (inBlk (PV p105)) (un (inBlk (PV p90)) (un (inBlk z171) (un (inBlk (PV p31)) (un (inBlk (PV p15)) (un (inBlk z135) (un (inBlk z136) nb)))))))) = (un (inBlk (PV p31)) (un (inBlk z171) (un (inBlk (PV p116)) (un (inBlk (PV p105)) (un (inBlk (PV p90)) (un (inBlk (PV p15)) (un (inBlk z135) (un (inBlk z136) nb)))))))) := funext fun b => propext ⟨fun h => un_el h (fun h => (.inr (.inr (.inl h)))) (fun h => un_el h (fun h => (.inr (.inr (.inr (.inl h))))) (fun h => un_el h (fun h => (.inr (.inr (.inr (.inr (.inl h)))))) (fun h => un_el h (fun h => (.inr (.inl h))) (fun h => un_el h (fun h => (.inl h)) (fun h => un_el h (fun h => (.inr (.inr (.inr (.inr (.inr (.inl h))))))) (fun h => un_el h (fun h => (.inr (.inr (.inr (.inr (.inr (.inr (.inl h)))))))) (fun h => un_el h (fun h => (.inr (.inr (.inr (.inr (.inr (.inr (.inr (.inl h))))))))) (fun h => False.elim h)))))))), fun h => un_el h (fun h => (.inr (.inr (.inr (.inr (.inl h)))))) (fun h => un_el h (fun h => (.inr (.inr (.inr (.inl h))))) (fun h => un_el h (fun h => (.inl h)) (fun h => un_el h (fun h => (.inr (.inl h))) (fun h => un_el h (fun h => (.inr (.inr (.inl h)))) (fun h => un_el h (fun h => (.inr (.inr (.inr (.inr (.inr (.inl h))))))) (fun h => un_el h (fun h => (.inr (.inr (.inr (.inr (.inr (.inr (.inl h)))))))) (fun h => un_el h (fun h => (.inr (.inr (.inr (.inr (.inr (.inr (.inr (.inl h))))))))) (fun h => False.elim h))))))))⟩
       refine rl_callF rfl en15 rfl (ctr15 F wk w.heap.size (un (inBlk (PV p116)) (un (inBlk (PV p105)) (un (inBlk (PV p90)) (un (inBlk (PV p15)) (un (inBlk z135) (un (inBlk z136) nb)))))) c79.size (un_lt k188.ltp (un_lt k163.ltp (un_lt k103.ltp (un_lt h138.ltp (un_lt h139.ltp (un_lt h140.ltp nbS)))))) p31 z171 hd532 d175 y169.2.2 h172 (hS533 ▸ h173) y212 hy213) ?_
       rintro v536 w534 ⟨_, rfl, h537, c535⟩
       rw [← hS533] at h537
       have h537 := SlO.backR k_Key_pos h537 (un_lt k188.ltp (un_lt k163.ltp (un_lt k103.ltp (un_lt (fun b hb => (h173.lt b hb).2) (un_lt h172.ltp (un_lt h138.ltp (un_lt h139.ltp (un_lt h140.ltp nbS)))))))) c79.size
       exact RL.nil ⟨_, rfl, c535, ⟨v536, rfl, h537⟩⟩
      refine Each.consS (fun fl O wk hE hN hO ck => ?_) ?_
      ·
       refine Need.o1 rfl rfl rfl (fun _ h => h) ?_
       refine Need.one rfl rfl rfl ?_
       rintro _ ⟨v206, e539, h207⟩
       obtain rfl := e539.symm
       refine Need.one rfl rfl rfl ?_
       rintro _ ⟨v214, e540, h215⟩
       obtain rfl := e540.symm
       refine RL.yes rfl rfl rfl hg344 ?_
       refine rl_callF rfl en13 rfl (ctr13 (G F w.heap.size (un (inBlk (PV p116)) (un (inBlk (PV p105)) (un (inBlk (PV p90)) (un (inBlk z171) (un (inBlk (PV p31)) (un (inBlk (PV p15)) (un (inBlk z135) (un (inBlk z136) nb))))))))) wk y204 v206 h207 y212 v214 h215 y218 hy219) ?_
       rintro _ w541 ⟨rfl, c542⟩
       exact RL.nil ⟨_, rfl, c542, rfl⟩
      refine Each.consS (fun fl O wk hE hN hO ck => ?_) ?_
      ·
       refine Need.o1 rfl rfl rfl (fun _ h => h) ?_
       refine Need.o1 rfl rfl rfl (fun _ h => h) ?_
       refine RL.yes rfl rfl rfl hg344 ?_
       refine rl_not rfl rfl ?_
       exact RL.nil ⟨_, rfl, Ch.refl, rfl⟩
      refine Each.consS (fun fl O wk hE hN hO ck => ?_) ?_
      ·
       refine Need.o1 rfl rfl rfl (fun _ h => h) ?_
       refine Need.o1 rfl rfl rfl (fun _ h => h) ?_
       refine rl_pickF rfl hg344 rfl rfl ?_
       exact RL.nil ⟨_, rfl, Ch.refl, congrArg Value.bool (Option.some.inj hs405)⟩
      refine Each.consS (fun fl O wk hE hN hO ck => ?_) ?_
      ·
       refine Need.o1 rfl rfl rfl (fun _ h => h) ?_
       refine rl_move rfl rfl ?_
       exact RL.nil ⟨_, rfl, Ch.refl, rfl⟩
      refine Each.consS (fun fl O wk hE hN hO ck => ?_) ?_
      ·
       refine Need.o1 rfl rfl rfl (fun _ h => h) ?_
       refine RL.yes rfl rfl rfl hg406 ?_
       refine rl_move rfl rfl ?_
       exact RL.nil ⟨_, rfl, Ch.refl, rfl⟩
      refine Each.consS (fun fl O wk hE hN hO ck => ?_) ?_
      ·
       refine Need.o1 rfl rfl rfl (fun _ h => h) ?_
       refine RL.yes rfl rfl rfl hg406 ?_
       refine rl_fieldAddr rfl fa34_2 rfl ?_
       exact RL.nil ⟨_, rfl, Ch.refl, rfl⟩
      refine Each.consS (fun fl O wk hE hN hO ck => ?_) ?_
      ·
       have k103 := k103.ch0 ck
       refine Need.o1 rfl rfl rfl (fun _ h => h) ?_
       refine Need.o1 rfl rfl rfl (fun _ h => h) ?_
       refine RL.yes rfl rfl rfl hg406 ?_
       refine rl_loadA (cs := (Key.enc x76.owner)) rfl Try.isAgg32 Try.sizeOf32 (k103.segAt 3 2) rfl rfl ?_
       exact RL.nil ⟨_, rfl, Ch.refl, rfl⟩
      refine Each.consA ⟨fun _ _ _ _ _ cc hh => by obtain ⟨v228, e, h229⟩ := hh; exact ⟨v228, e, slRep.ch k_Key_pos h229 cc⟩, fun h => absurd rfl h, fun fl O wk hE hN hO ck => ?_⟩ ?_
      ·
       have k103 := k103.ch0 ck
       have h138 := h138.ch0 ck
       have h139 := h139.ch0 ck
       have h140 := h140.ch0 ck
       have k163 := k163.ch0 ck
       have h172 := h172.ch0 ck
       have h173 := h173.ch0 ck
       have k188 := k188.ch0 ck
       have c79 := c79.then0 ck
       refine Need.o1 rfl rfl rfl (fun _ h => h) ?_
       refine Need.o1 rfl rfl rfl (fun _ h => h) ?_
       refine Need.o1 rfl rfl rfl (fun _ h => h) ?_
       refine RL.yes rfl rfl rfl hg406 ?_
       have hd555 : ∀ b, (un (inBlk (PV p15)) (un (inBlk z135) (inBlk z136))) b → ¬ (un (inBlk (PV p116)) (un (inBlk (PV p105)) (un (inBlk (PV p90)) (un (inBlk z171) (un (inBlk (PV p31)) nb))))) b := fun b h => un_el h (fun h => (fun b hb => fun h => un_el h (fun h => (disSym d125) b hb h) (fun h => un_el h (fun h => (disSym d113) b hb h) (fun h => un_el h (fun h => (disSym d97) b hb h) (fun h => un_el h (fun h => (disSym d180) b hb h) (fun h => un_el h (fun h => (disSym d61) b hb h) (fun h => h)))))) b h) (fun h => un_el h (fun h => (fun b hb => fun h => un_el h (fun h => d147 b hb h) (fun h => un_el h (fun h => d148 b hb h) (fun h => un_el h (fun h => d149 b hb h) (fun h => un_el h (fun h => (disSym d181) b hb h) (fun h => un_el h (fun h => d151 b hb h) (fun h => h)))))) b h) (fun h => (fun b hb => fun h => un_el h (fun h => d153 b hb h) (fun h => un_el h (fun h => d154 b hb h) (fun h => un_el h (fun h => d155 b hb h) (fun h => un_el h (fun h => (disSym d182) b hb h) (fun h => un_el h (fun h => d157 b hb h) (fun h => h)))))) b h))
       have hS556 : (un (inBlk (PV p116)) (un (inBlk (PV p105)) (un (inBlk (PV p90)) (un (inBlk z171) (un (inBlk (PV p31)) (un (inBlk (PV p15)) (un (inBlk z135) (un (inBlk z136) nb)))))))) = (un (inBlk (PV p15)) (un (inBlk z135) (un (inBlk z136) (un (inBlk (PV p116)) (un (inBlk (PV p105)) (un (inBlk (PV p90)) (un (inBlk z171) (un (inBlk (PV p31)) nb)))))))) := funext fun b => propext ⟨fun h => un_el h (fun h => (.inr (.inr (.inr (.inl h))))) (fun h => un_el h (fun h => (.inr (.inr (.inr (.inr (.inl h)))))) (fun h => un_el h (fun h => (.inr (.inr (.inr (.inr (.inr (.inl h))))))) (fun h => un_el h (fun h => (.inr (.inr (.inr (.inr (.inr (.inr (.inl h)))))))) (fun h => un_el h (fun h => (.inr (.inr (.inr (.inr (.inr (.inr (.inr (.inl h))))))))) (fun h => un_el h (fun h => (.inl h)) (fun h => un_el h (fun h => (.inr (.inl h))) (fun h => un_el h (fun h => (.inr (.inr (.inl h)))) (fun h => False.elim h)))))))), fun h => un_el h (fun h => (.inr (.inr (.inr (.inr (.inr (.inl h))))))) (fun h => un_el h (fun h => (.inr (.inr (.inr (.inr (.inr (.inr (.inl h)))))))) (fun h => un_el h (fun h => (.inr (.inr (.inr (.inr (.inr (.inr (.inr (.inl h))))))))) (fun h => un_el h (fun h => (.inl h)) (fun h => un_el h (fun h => (.inr (.inl h))) (fun h => un_el h (fun h => (.inr (.inr (.inl h)))) (fun h => un_el h (fun h => (.inr (.inr (.inr (.inl h))))) (fun h => un_el h (fun h => (.inr (.inr (.inr (.inr (.inl h)))))) (fun h => False.elim h))))))))⟩
       refine rl_callF rfl en16 rfl (ctr16 F wk w.heap.size (un (inBlk (PV p116)) (un (inBlk (PV p105)) (un (inBlk (PV p90)) (un (inBlk z171) (un (inBlk (PV p31)) nb))))) c79.size (un_lt k188.ltp (un_lt k163.ltp (un_lt k103.ltp (un_lt (fun b hb => (h173.lt b hb).2) (un_lt h172.ltp nbS))))) p15 z135 z136 u137 hd555 d143 d144 d145 y133.2.2 h138 h139 h140 x76.owner y226 hy227) ?_
       rintro v559 w557 ⟨_, rfl, h560, c558⟩
       rw [← hS556] at h560
       have h560 := SlO.backR k_Key_pos h560 (un_lt k188.ltp (un_lt k163.ltp (un_lt k103.ltp (un_lt (fun b hb => (h173.lt b hb).2) (un_lt h172.ltp (un_lt h138.ltp (un_lt h139.ltp (un_lt h140.ltp nbS)))))))) c79.size
       exact RL.nil ⟨_, rfl, c558, ⟨v559, rfl, h560⟩⟩
      refine Each.consS (fun fl O wk hE hN hO ck => ?_) ?_
      ·
       refine Need.o1 rfl rfl rfl (fun _ h => h) ?_
       refine RL.yes rfl rfl rfl hg406 ?_
       refine rl_move rfl rfl ?_
       exact RL.nil ⟨_, rfl, Ch.refl, rfl⟩
      refine Each.consS (fun fl O wk hE hN hO ck => ?_) ?_
      ·
       refine Need.o1 rfl rfl rfl (fun _ h => h) ?_
       refine RL.yes rfl rfl rfl hg406 ?_
       refine rl_fieldAddr rfl fa34_2 rfl ?_
       exact RL.nil ⟨_, rfl, Ch.refl, rfl⟩
      refine Each.consS (fun fl O wk hE hN hO ck => ?_) ?_
      ·
       have k103 := k103.ch0 ck
       refine Need.o1 rfl rfl rfl (fun _ h => h) ?_
       refine Need.o1 rfl rfl rfl (fun _ h => h) ?_
       refine RL.yes rfl rfl rfl hg406 ?_
       refine rl_loadA (cs := (Key.enc x76.owner)) rfl Try.isAgg32 Try.sizeOf32 (k103.segAt 3 2) rfl rfl ?_
       exact RL.nil ⟨_, rfl, Ch.refl, rfl⟩
      refine Each.consA ⟨fun _ _ _ _ _ cc hh => by obtain ⟨v236, e, h237⟩ := hh; exact ⟨v236, e, slRep.ch k_Key_pos h237 cc⟩, fun h => absurd rfl h, fun fl O wk hE hN hO ck => ?_⟩ ?_
      ·
       have k103 := k103.ch0 ck
       have h138 := h138.ch0 ck
       have h139 := h139.ch0 ck
       have h140 := h140.ch0 ck
       have k163 := k163.ch0 ck
       have h172 := h172.ch0 ck
       have h173 := h173.ch0 ck
       have k188 := k188.ch0 ck
       have c79 := c79.then0 ck
       refine Need.o1 rfl rfl rfl (fun _ h => h) ?_
       refine Need.o1 rfl rfl rfl (fun _ h => h) ?_
       refine Need.o1 rfl rfl rfl (fun _ h => h) ?_
       refine RL.yes rfl rfl rfl hg406 ?_
       have hd568 : ∀ b, (un (inBlk (PV p31)) (inBlk z171)) b → ¬ (un (inBlk (PV p116)) (un (inBlk (PV p105)) (un (inBlk (PV p90)) (un (inBlk (PV p15)) (un (inBlk z135) (un (inBlk z136) nb)))))) b := fun b h => un_el h (fun h => (fun b hb => fun h => un_el h (fun h => (disSym d124) b hb h) (fun h => un_el h (fun h => (disSym d112) b hb h) (fun h => un_el h (fun h => (disSym d96) b hb h) (fun h => un_el h (fun h => d61 b hb h) (fun h => un_el h (fun h => (disSym d151) b hb h) (fun h => un_el h (fun h => (disSym d157) b hb h) (fun h => h))))))) b h) (fun h => (fun b hb => fun h => un_el h (fun h => d177 b hb h) (fun h => un_el h (fun h => d178 b hb h) (fun h => un_el h (fun h => d179 b hb h) (fun h => un_el h (fun h => d180 b hb h) (fun h => un_el h (fun h => d181 b hb h) (fun h => un_el h (fun h => d182 b hb h) (fun h => h))))))) b h)
       have hS569 : (un (inBlk (PV p116)) (un (inBlk (PV p105)) (un (inBlk (PV p90)) (un (inBlk z171) (un (inBlk (PV p31)) (un (inBlk (PV p15)) (un (inBlk z135) (un (inBlk z136) nb)))))))) = (un (inBlk (PV p31)) (un (inBlk z171) (un (inBlk (PV p116)) (un (inBlk (PV p105)) (un (inBlk (PV p90)) (un (inBlk (PV p15)) (un (inBlk z135) (un (inBlk z136) nb)))))))) := funext fun b => propext ⟨fun h => un_el h (fun h => (.inr (.inr (.inl h)))) (fun h => un_el h (fun h => (.inr (.inr (.inr (.inl h))))) (fun h => un_el h (fun h => (.inr (.inr (.inr (.inr (.inl h)))))) (fun h => un_el h (fun h => (.inr (.inl h))) (fun h => un_el h (fun h => (.inl h)) (fun h => un_el h (fun h => (.inr (.inr (.inr (.inr (.inr (.inl h))))))) (fun h => un_el h (fun h => (.inr (.inr (.inr (.inr (.inr (.inr (.inl h)))))))) (fun h => un_el h (fun h => (.inr (.inr (.inr (.inr (.inr (.inr (.inr (.inl h))))))))) (fun h => False.elim h)))))))), fun h => un_el h (fun h => (.inr (.inr (.inr (.inr (.inl h)))))) (fun h => un_el h (fun h => (.inr (.inr (.inr (.inl h))))) (fun h => un_el h (fun h => (.inl h)) (fun h => un_el h (fun h => (.inr (.inl h))) (fun h => un_el h (fun h => (.inr (.inr (.inl h)))) (fun h => un_el h (fun h => (.inr (.inr (.inr (.inr (.inr (.inl h))))))) (fun h => un_el h (fun h => (.inr (.inr (.inr (.inr (.inr (.inr (.inl h)))))))) (fun h => un_el h (fun h => (.inr (.inr (.inr (.inr (.inr (.inr (.inr (.inl h))))))))) (fun h => False.elim h))))))))⟩
       refine rl_callF rfl en17 rfl (ctr17 F wk w.heap.size (un (inBlk (PV p116)) (un (inBlk (PV p105)) (un (inBlk (PV p90)) (un (inBlk (PV p15)) (un (inBlk z135) (un (inBlk z136) nb)))))) c79.size (un_lt k188.ltp (un_lt k163.ltp (un_lt k103.ltp (un_lt h138.ltp (un_lt h139.ltp (un_lt h140.ltp nbS)))))) p31 z171 hd568 d175 y169.2.2 h172 (hS569 ▸ h173) x76.owner y234 hy235) ?_
       rintro v572 w570 ⟨_, rfl, h573, c571⟩
       rw [← hS569] at h573
       have h573 := SlO.backR k_Key_pos h573 (un_lt k188.ltp (un_lt k163.ltp (un_lt k103.ltp (un_lt (fun b hb => (h173.lt b hb).2) (un_lt h172.ltp (un_lt h138.ltp (un_lt h139.ltp (un_lt h140.ltp nbS)))))))) c79.size
       exact RL.nil ⟨_, rfl, c571, ⟨v572, rfl, h573⟩⟩
      refine Each.consS (fun fl O wk hE hN hO ck => ?_) ?_
      ·
       refine Need.o1 rfl rfl rfl (fun _ h => h) ?_
       refine Need.one rfl rfl rfl ?_
       rintro _ ⟨v228, e575, h229⟩
       obtain rfl := e575.symm
       refine Need.one rfl rfl rfl ?_
       rintro _ ⟨v236, e576, h237⟩
       obtain rfl := e576.symm
       refine RL.yes rfl rfl rfl hg406 ?_
       refine rl_callF rfl en13 rfl (ctr13 (G F w.heap.size (un (inBlk (PV p116)) (un (inBlk (PV p105)) (un (inBlk (PV p90)) (un (inBlk z171) (un (inBlk (PV p31)) (un (inBlk (PV p15)) (un (inBlk z135) (un (inBlk z136) nb))))))))) wk y226 v228 h229 y234 v236 h237 y240 hy241) ?_
       rintro _ w577 ⟨rfl, c578⟩
       exact RL.nil ⟨_, rfl, c578, rfl⟩
      refine Each.consS (fun fl O wk hE hN hO ck => ?_) ?_
      ·
       refine Need.o1 rfl rfl rfl (fun _ h => h) ?_
       refine Need.o1 rfl rfl rfl (fun _ h => h) ?_
       refine RL.yes rfl rfl rfl hg406 ?_
       refine rl_not rfl rfl ?_
       exact RL.nil ⟨_, rfl, Ch.refl, rfl⟩
      refine Each.consS (fun fl O wk hE hN hO ck => ?_) ?_
      ·
       refine Need.o1 rfl rfl rfl (fun _ h => h) ?_
       refine Need.o1 rfl rfl rfl (fun _ h => h) ?_
       refine rl_pickF rfl hg406 rfl rfl ?_
       exact RL.nil ⟨_, rfl, Ch.refl, congrArg Value.bool (Option.some.inj hs486)⟩
      trivial
     intro hvO585 OpO585 O585 w583 hO586 c584 hN587
     refine Need.o1 rfl rfl rfl (fun _ h => h) ?_
     exact RL.nil ⟨rfl, ⟨rfl, rfl, rfl, rfl, rfl, rfl, rfl, rfl, rfl, trivial⟩, c584⟩
    rintro _ w590 ⟨hE589, c591⟩
    have ah0 := slRep.ch k_Act_pos ah0 c591
    have k103 := k103.ch0 c591
    have h138 := h138.ch0 c591
    have h139 := h139.ch0 c591
    have h140 := h140.ch0 c591
    have k163 := k163.ch0 c591
    have h172 := h172.ch0 c591
    have h173 := h173.ch0 c591
    have k188 := k188.ch0 c591
    have c79 := c79.then0 c591
    refine thn_n (CW.sub [(3, (PV p15)), (4, (PV p31)), (6, (PV p90)), (7, (PV p105)), (8, (PV p116)), (18, av0), (19, (Value.int .i64 ((a0.length : Nat) : Int))), (20, (Value.int .i64 ((i68 : Nat) : Int))), (96, (Value.bool b242))] hE589 ?_)
    refine CW.cond (t := b242) rfl (fun q592 => ?_) (fun q592 => ?_)
    ·
     have hb73 := ifT q592 hb73
     refine CW.seq (CW.region ?_)
     refine rl_assign rfl rfl ?_
     refine RL.nil (thn_n (CW.ret ?_))
     refine thn_ret ?_
     refine inB_ret ?_
     refine thn_ret ?_
     refine thn_ret (inB_ret (thn_ret ?_))
     refine thn_ret ?_
     have f593 := runBO_ret hL69 hq72 hb73
     have hS := retS f593 hS
     obtain rfl := Option.some.inj hS
     exact ret1 rfl ⟨rfl, c79⟩
    have hb73 := ifF q592 hb73
    refine CW.skip ?_
    refine thn_n (CW.seq (CW.region ?_))
    refine rl_move rfl rfl ?_
    refine rl_fieldAddr rfl fa34_1 rfl ?_
    refine rl_loadA (cs := (Key.enc x76.slice)) rfl Try.isAgg32 Try.sizeOf32 (k103.segAt 1 2) rfl rfl ?_
    have hd594 : ∀ b, (un (inBlk (PV p15)) (un (inBlk z135) (inBlk z136))) b → ¬ (un (inBlk (PV p116)) (un (inBlk (PV p105)) (un (inBlk (PV p90)) (un (inBlk z171) (un (inBlk (PV p31)) nb))))) b := fun b h => un_el h (fun h => (fun b hb => fun h => un_el h (fun h => (disSym d125) b hb h) (fun h => un_el h (fun h => (disSym d113) b hb h) (fun h => un_el h (fun h => (disSym d97) b hb h) (fun h => un_el h (fun h => (disSym d180) b hb h) (fun h => un_el h (fun h => (disSym d61) b hb h) (fun h => h)))))) b h) (fun h => un_el h (fun h => (fun b hb => fun h => un_el h (fun h => d147 b hb h) (fun h => un_el h (fun h => d148 b hb h) (fun h => un_el h (fun h => d149 b hb h) (fun h => un_el h (fun h => (disSym d181) b hb h) (fun h => un_el h (fun h => d151 b hb h) (fun h => h)))))) b h) (fun h => (fun b hb => fun h => un_el h (fun h => d153 b hb h) (fun h => un_el h (fun h => d154 b hb h) (fun h => un_el h (fun h => d155 b hb h) (fun h => un_el h (fun h => (disSym d182) b hb h) (fun h => un_el h (fun h => d157 b hb h) (fun h => h)))))) b h))
    obtain ⟨y598, hy599⟩ : ∃ y, F18_Owner y133.2.2 x76.slice = y := ⟨_, rfl⟩
    have hb73 := ltS hy599 hb73
    refine rl_callF rfl en18 rfl (ctr18 F w590 w.heap.size (un (inBlk (PV p116)) (un (inBlk (PV p105)) (un (inBlk (PV p90)) (un (inBlk z171) (un (inBlk (PV p31)) nb))))) c79.size (un_lt k188.ltp (un_lt k163.ltp (un_lt k103.ltp (un_lt (fun b hb => (h173.lt b hb).2) (un_lt h172.ltp nbS))))) p15 z135 z136 u137 hd594 d143 d144 d145 y133.2.2 h138 h139 h140 x76.slice y598 hy599) ?_
    rintro _ w596 ⟨rfl, c597⟩
    have ah0 := slRep.ch k_Act_pos ah0 c597
    have k103 := k103.ch0 c597
    have h138 := h138.ch0 c597
    have h139 := h139.ch0 c597
    have h140 := h140.ch0 c597
    have k163 := k163.ch0 c597
    have h172 := h172.ch0 c597
    have h173 := h173.ch0 c597
    have k188 := k188.ch0 c597
    have c79 := c79.then0 c597
    refine rl_move rfl rfl ?_
    refine rl_extract rfl rfl rfl ?_
    refine rl_extract rfl rfl rfl ?_
    refine rl_storeA (vs := (Key.enc y598.1)) rfl rfl (all_one rfl) Try.sizeOf32 rfl k163 rfl ?_
    intro w600 s602 c601 k603
    have ad604 : ∀ b, b < w596.heap.size → ¬ (un (inBlk (PV p116)) (un (inBlk (PV p105)) (un (inBlk (PV p90)) (un (inBlk z171) (un (inBlk (PV p31)) (un (inBlk (PV p15)) (un (inBlk z135) (un (inBlk z136) nb)))))))) b → ¬ (inBlk (PV p105)) b ∧ ¬ (un (inBlk (PV p116)) (un (inBlk (PV p105)) (un (inBlk (PV p90)) (un (inBlk z171) (un (inBlk (PV p31)) (un (inBlk (PV p15)) (un (inBlk z135) (un (inBlk z136) nb)))))))) b := fun b _ hs => ⟨fun h => hs (.inr (.inl h)), hs⟩
    have ah0 := slRep.st k_Act_pos ah0 c601 ad604
    have k103 := k103.ch c601 ((fun b hb h => (disSym d110) b hb h) _ rfl)
    have h138 := h138.ch c601 ((fun b hb h => (disSym d113) b hb h) _ rfl)
    have h139 := h139.ch c601 ((fun b hb h => d148 b hb h))
    have h140 := h140.ch c601 ((fun b hb h => d154 b hb h))
    have h172 := h172.ch c601 ((fun b hb h => (disSym d112) b hb h) _ rfl)
    have h173 := h173.st c601 (fun b hb h => d178 b hb h) ad604 (fun b h => (.inr (.inr (.inr (.inl h)))))
    have k188 := k188.ch c601 ((fun b hb h => d121 b hb h) _ rfl)
    have c79 := c79.then c601 (fun i hi h => absurd (lo109 i h) (Nat.not_le_of_lt hi))
    refine rl_assign rfl rfl ?_
    refine RL.nil (thn_n (CW.seq (CW.region ?_)))
    refine rl_move rfl rfl ?_
    refine rl_fieldAddr rfl fa34_1 rfl ?_
    refine rl_loadA (cs := (Key.enc x76.slice)) rfl Try.isAgg32 Try.sizeOf32 (k103.segAt 1 2) rfl rfl ?_
    have hd605 : ∀ b, (un (inBlk (PV p31)) (inBlk z171)) b → ¬ (un (inBlk (PV p116)) (un (inBlk (PV p105)) (un (inBlk (PV p90)) (un (inBlk (PV p15)) (un (inBlk z135) (un (inBlk z136) nb)))))) b := fun b h => un_el h (fun h => (fun b hb => fun h => un_el h (fun h => (disSym d124) b hb h) (fun h => un_el h (fun h => (disSym d112) b hb h) (fun h => un_el h (fun h => (disSym d96) b hb h) (fun h => un_el h (fun h => d61 b hb h) (fun h => un_el h (fun h => (disSym d151) b hb h) (fun h => un_el h (fun h => (disSym d157) b hb h) (fun h => h))))))) b h) (fun h => (fun b hb => fun h => un_el h (fun h => d177 b hb h) (fun h => un_el h (fun h => d178 b hb h) (fun h => un_el h (fun h => d179 b hb h) (fun h => un_el h (fun h => d180 b hb h) (fun h => un_el h (fun h => d181 b hb h) (fun h => un_el h (fun h => d182 b hb h) (fun h => h))))))) b h)
    have hS606 : (un (inBlk (PV p116)) (un (inBlk (PV p105)) (un (inBlk (PV p90)) (un (inBlk z171) (un (inBlk (PV p31)) (un (inBlk (PV p15)) (un (inBlk z135) (un (inBlk z136) nb)))))))) = (un (inBlk (PV p31)) (un (inBlk z171) (un (inBlk (PV p116)) (un (inBlk (PV p105)) (un (inBlk (PV p90)) (un (inBlk (PV p15)) (un (inBlk z135) (un (inBlk z136) nb)))))))) := funext fun b => propext ⟨fun h => un_el h (fun h => (.inr (.inr (.inl h)))) (fun h => un_el h (fun h => (.inr (.inr (.inr (.inl h))))) (fun h => un_el h (fun h => (.inr (.inr (.inr (.inr (.inl h)))))) (fun h => un_el h (fun h => (.inr (.inl h))) (fun h => un_el h (fun h => (.inl h)) (fun h => un_el h (fun h => (.inr (.inr (.inr (.inr (.inr (.inl h))))))) (fun h => un_el h (fun h => (.inr (.inr (.inr (.inr (.inr (.inr (.inl h)))))))) (fun h => un_el h (fun h => (.inr (.inr (.inr (.inr (.inr (.inr (.inr (.inl h))))))))) (fun h => False.elim h)))))))), fun h => un_el h (fun h => (.inr (.inr (.inr (.inr (.inl h)))))) (fun h => un_el h (fun h => (.inr (.inr (.inr (.inl h))))) (fun h => un_el h (fun h => (.inl h)) (fun h => un_el h (fun h => (.inr (.inl h))) (fun h => un_el h (fun h => (.inr (.inr (.inl h)))) (fun h => un_el h (fun h => (.inr (.inr (.inr (.inr (.inr (.inl h))))))) (fun h => un_el h (fun h => (.inr (.inr (.inr (.inr (.inr (.inr (.inl h)))))))) (fun h => un_el h (fun h => (.inr (.inr (.inr (.inr (.inr (.inr (.inr (.inl h))))))))) (fun h => False.elim h))))))))⟩
    obtain ⟨y609, hy610⟩ : ∃ y, F19_Owner y169.2.2 x76.slice = y := ⟨_, rfl⟩
    have hb73 := ltS hy610 hb73
    refine rl_callF rfl en19 rfl (ctr19 F w600 w.heap.size (un (inBlk (PV p116)) (un (inBlk (PV p105)) (un (inBlk (PV p90)) (un (inBlk (PV p15)) (un (inBlk z135) (un (inBlk z136) nb)))))) c79.size (un_lt k188.ltp (un_lt k603.ltp (un_lt k103.ltp (un_lt h138.ltp (un_lt h139.ltp (un_lt h140.ltp nbS)))))) p31 z171 hd605 d175 y169.2.2 h172 (hS606 ▸ h173) x76.slice y609 hy610) ?_
    rintro _ w607 ⟨rfl, c608⟩
    have ah0 := slRep.ch k_Act_pos ah0 c608
    have h138 := h138.ch0 c608
    have h139 := h139.ch0 c608
    have h140 := h140.ch0 c608
    have h172 := h172.ch0 c608
    have h173 := h173.ch0 c608
    have k188 := k188.ch0 c608
    have k603 := k603.ch0 c608
    have c79 := c79.then0 c608
    refine rl_move rfl rfl ?_
    refine rl_extract rfl rfl rfl ?_
    refine rl_extract rfl rfl rfl ?_
    refine rl_storeA (vs := (Key.enc y609.1)) rfl rfl (all_one rfl) Try.sizeOf32 rfl k188 rfl ?_
    intro w611 s613 c612 k614
    have ad615 : ∀ b, b < w607.heap.size → ¬ (un (inBlk (PV p116)) (un (inBlk (PV p105)) (un (inBlk (PV p90)) (un (inBlk z171) (un (inBlk (PV p31)) (un (inBlk (PV p15)) (un (inBlk z135) (un (inBlk z136) nb)))))))) b → ¬ (inBlk (PV p116)) b ∧ ¬ (un (inBlk (PV p116)) (un (inBlk (PV p105)) (un (inBlk (PV p90)) (un (inBlk z171) (un (inBlk (PV p31)) (un (inBlk (PV p15)) (un (inBlk z135) (un (inBlk z136) nb)))))))) b := fun b _ hs => ⟨fun h => hs (.inl h), hs⟩
    have ah0 := slRep.st k_Act_pos ah0 c612 ad615
    have h138 := h138.ch c612 ((fun b hb h => (disSym d125) b hb h) _ rfl)
    have h139 := h139.ch c612 ((fun b hb h => d147 b hb h))
    have h140 := h140.ch c612 ((fun b hb h => d153 b hb h))
    have h172 := h172.ch c612 ((fun b hb h => (disSym d124) b hb h) _ rfl)
    have h173 := h173.st c612 (fun b hb h => d177 b hb h) ad615 (fun b h => (.inr (.inr (.inr (.inl h)))))
    have k603 := k603.ch c612 ((fun b hb h => (disSym d121) b hb h) _ rfl)
    have c79 := c79.then c612 (fun i hi h => absurd (lo120 i h) (Nat.not_le_of_lt hi))
    refine rl_assign rfl rfl ?_
    refine RL.nil (thn_n (CW.seq (CW.region ?_)))
    refine rl_loadA (cs := (Key.enc y598.1)) rfl Try.isAgg32 Try.sizeOf32 (k603.segAt 0 2) rfl rfl ?_
    refine rl_loadA (cs := (Key.enc y609.1)) rfl Try.isAgg32 Try.sizeOf32 (k614.segAt 0 2) rfl rfl ?_
    refine rl_bin rfl rfl (neq32 y598.1 y609.1) rfl ?_
    refine rl_move rfl rfl ?_
    obtain ⟨b618, hb619⟩ : ∃ v, ((!decide (y598.1 = y609.1)) || (!(y598.2 == y609.2))) = v := ⟨_, rfl⟩
    have hb73 := ltS hb619 hb73
    refine RL.join 4 118 (.bool b618) (fun w' => Ch nb w611 w') ?_ ?_
    · rcases Bool.eq_false_or_eq_true (!decide (y598.1 = y609.1)) with hg617 | hg617
      ·
       have hs616 := or_t hg617 hb619
       have cs : Ch nb w611 w611 := Ch.refl
       refine RL.no rfl rfl rfl hg617 rfl rfl ?_
       refine RL.no rfl rfl rfl hg617 rfl rfl ?_
       refine RL.no rfl rfl rfl hg617 rfl rfl ?_
       refine rl_pickT rfl hg617 rfl rfl ?_
       exact RL.nil ⟨Ext.bothEq (congrArg Value.bool hs616) (Ext.skip rfl (Ext.skip rfl (Ext.skip rfl (Ext.rfl')))), cs⟩
      ·
       have hs616 := or_f hg617 hb619
       have cs : Ch nb w611 w611 := Ch.refl
       refine RL.yes rfl rfl rfl hg617 ?_
       refine rl_move rfl rfl ?_
       refine RL.yes rfl rfl rfl hg617 ?_
       refine rl_move rfl rfl ?_
       refine RL.yes rfl rfl rfl hg617 ?_
       refine rl_bin rfl rfl (B.neqB Try.underlying4) rfl ?_
       refine rl_pickF rfl hg617 rfl rfl ?_
       exact RL.nil ⟨Ext.bothEq (congrArg Value.bool hs616) (Ext.skip rfl (Ext.skip rfl (Ext.skip rfl (Ext.rfl')))), cs⟩
    intro w620 c621
    have ah0 := slRep.ch k_Act_pos ah0 c621
    have h138 := h138.ch0 c621
    have h139 := h139.ch0 c621
    have h140 := h140.ch0 c621
    have h172 := h172.ch0 c621
    have h173 := h173.ch0 c621
    have c79 := c79.then0 c621
    refine RL.nil (thn_n ?_)
    refine CW.cond (t := b618) rfl (fun q622 => ?_) (fun q622 => ?_)
    ·
     have hb73 := ifT q622 hb73
     refine CW.seq (CW.region ?_)
     refine rl_assign rfl rfl ?_
     refine RL.nil (thn_n (CW.ret ?_))
     refine inB_ret ?_
     refine thn_ret ?_
     refine thn_ret (inB_ret (thn_ret ?_))
     refine thn_ret ?_
     have f623 := runBO_ret hL69 hq72 hb73
     have hS := retS f623 hS
     obtain rfl := Option.some.inj hS
     exact ret1 rfl ⟨rfl, c79⟩
    have hb73 := ifF q622 hb73
    refine CW.skip ?_
    refine inB_n ?_
    refine thn_n (CW.region ?_)
    refine rl_inc rfl hat70.lt ah0.big rfl ?_
    refine rl_move rfl rfl ?_
    refine RL.nil (thn_n ?_)
    have ad624 : ∀ b, b < w620.heap.size → ¬ (un (inBlk (PV p116)) (un (inBlk (PV p105)) (un (inBlk (PV p90)) (un (inBlk z171) (un (inBlk (PV p31)) (un (inBlk (PV p15)) (un (inBlk z135) (un (inBlk z136) nb)))))))) b → ¬ nb b ∧ ¬ (un (inBlk (PV p105)) (un (inBlk (PV p90)) (un (inBlk z171) (un (inBlk (PV p31)) (un (inBlk (PV p15)) (un (inBlk z135) (un (inBlk z136) nb))))))) b := fun b _ hs => ⟨fun x => x, fun h => hs (un_el h (fun h => (.inr (.inl h))) (fun h => un_el h (fun h => (.inr (.inr (.inl h)))) (fun h => un_el h (fun h => (.inr (.inr (.inr (.inl h))))) (fun h => un_el h (fun h => (.inr (.inr (.inr (.inr (.inl h)))))) (fun h => un_el h (fun h => (.inr (.inr (.inr (.inr (.inr (.inl h))))))) (fun h => un_el h (fun h => (.inr (.inr (.inr (.inr (.inr (.inr (.inl h)))))))) (fun h => un_el h (fun h => (.inr (.inr (.inr (.inr (.inr (.inr (.inr (.inl h))))))))) (fun h => False.elim h))))))))⟩
    have crf : Ch nb w620 w620 := Ch.refl
    have ah0 := slRep.st k_Act_pos ah0 crf ad624
    have h138 := h138.ch0 crf
    have h139 := h139.ch0 crf
    have h140 := h140.ch0 crf
    have h172 := h172.ch0 crf
    have h173 := h173.st crf (fun _ _ x => x) ad624 (fun b h => (.inr (.inr (.inl h))))
    have c79 := c79.then0 crf
    have ad625 : ∀ b, b < w620.heap.size → ¬ (un (inBlk (PV p105)) (un (inBlk (PV p90)) (un (inBlk z171) (un (inBlk (PV p31)) (un (inBlk (PV p15)) (un (inBlk z135) (un (inBlk z136) nb))))))) b → ¬ nb b ∧ ¬ (un (inBlk (PV p90)) (un (inBlk z171) (un (inBlk (PV p31)) (un (inBlk (PV p15)) (un (inBlk z135) (un (inBlk z136) nb)))))) b := fun b _ hs => ⟨fun x => x, fun h => hs (un_el h (fun h => (.inr (.inl h))) (fun h => un_el h (fun h => (.inr (.inr (.inl h)))) (fun h => un_el h (fun h => (.inr (.inr (.inr (.inl h))))) (fun h => un_el h (fun h => (.inr (.inr (.inr (.inr (.inl h)))))) (fun h => un_el h (fun h => (.inr (.inr (.inr (.inr (.inr (.inl h))))))) (fun h => un_el h (fun h => (.inr (.inr (.inr (.inr (.inr (.inr (.inl h)))))))) (fun h => False.elim h)))))))⟩
    have crf : Ch nb w620 w620 := Ch.refl
    have ah0 := slRep.st k_Act_pos ah0 crf ad625
    have h138 := h138.ch0 crf
    have h139 := h139.ch0 crf
    have h140 := h140.ch0 crf
    have h172 := h172.ch0 crf
    have h173 := h173.st crf (fun _ _ x => x) ad625 (fun b h => (.inr (.inl h)))
    have c79 := c79.then0 crf
    have ad626 : ∀ b, b < w620.heap.size → ¬ (un (inBlk (PV p90)) (un (inBlk z171) (un (inBlk (PV p31)) (un (inBlk (PV p15)) (un (inBlk z135) (un (inBlk z136) nb)))))) b → ¬ nb b ∧ ¬ (un (inBlk z171) (un (inBlk (PV p31)) (un (inBlk (PV p15)) (un (inBlk z135) (un (inBlk z136) nb))))) b := fun b _ hs => ⟨fun x => x, fun h => hs (un_el h (fun h => (.inr (.inl h))) (fun h => un_el h (fun h => (.inr (.inr (.inl h)))) (fun h => un_el h (fun h => (.inr (.inr (.inr (.inl h))))) (fun h => un_el h (fun h => (.inr (.inr (.inr (.inr (.inl h)))))) (fun h => un_el h (fun h => (.inr (.inr (.inr (.inr (.inr (.inl h))))))) (fun h => False.elim h))))))⟩
    have crf : Ch nb w620 w620 := Ch.refl
    have ah0 := slRep.st k_Act_pos ah0 crf ad626
    have h138 := h138.ch0 crf
    have h139 := h139.ch0 crf
    have h140 := h140.ch0 crf
    have h172 := h172.ch0 crf
    have h173 := h173.st crf (fun _ _ x => x) ad626 (fun b h => (.inl h))
    have c79 := c79.then0 crf
    have hLn := runBO_next hL69 hq72 hb73
    exact ⟨rest83.length, Nat.lt_succ_self _, [(3, (PV p15)), (4, (PV p31)), (18, av0), (19, (Value.int .i64 ((a0.length : Nat) : Int))), (20, (Value.int .i64 ((i68 + 1 : Nat) : Int)))], ⟨rfl, rfl, rfl, rfl, rfl, trivial⟩, ⟨rest83, i68 + 1, y133.2.2, z135, z136, u137, y169.2.2, z171, rfl, rfl, c79, hat70.next, hLn, ah0, h139, h140, h173, h138, h172, (disSym d175), d180, d181, d182, d61, (disSym d151), (disSym d157), d143, d144, d145, lo146, lo152⟩⟩
   have hb73 := ifF q128 hb73
   refine CW.seq (CW.region ?_)
   refine rl_move rfl rfl ?_
   refine rl_fieldAddr rfl fa34_1 rfl ?_
   refine rl_loadA (cs := (Key.enc x76.slice)) rfl Try.isAgg32 Try.sizeOf32 (k103.segAt 1 2) rfl rfl ?_
   have hd627 : ∀ b, (un (inBlk (PV p15)) (un (inBlk v45) (inBlk v47))) b → ¬ (un (inBlk (PV p116)) (un (inBlk (PV p105)) (un (inBlk (PV p90)) (un (inBlk v51) (un (inBlk (PV p31)) nb))))) b := fun b h => un_el h (fun h => (fun b hb => fun h => un_el h (fun h => (disSym d125) b hb h) (fun h => un_el h (fun h => (disSym d113) b hb h) (fun h => un_el h (fun h => (disSym d97) b hb h) (fun h => un_el h (fun h => (disSym d58) b hb h) (fun h => un_el h (fun h => (disSym d61) b hb h) (fun h => h)))))) b h) (fun h => un_el h (fun h => (fun b hb => fun h => un_el h (fun h => (disSym d126) b hb h) (fun h => un_el h (fun h => (disSym d114) b hb h) (fun h => un_el h (fun h => (disSym d98) b hb h) (fun h => un_el h (fun h => (disSym d59) b hb h) (fun h => un_el h (fun h => (disSym d62) b hb h) (fun h => h)))))) b h) (fun h => (fun b hb => fun h => un_el h (fun h => (disSym d127) b hb h) (fun h => un_el h (fun h => (disSym d115) b hb h) (fun h => un_el h (fun h => (disSym d99) b hb h) (fun h => un_el h (fun h => (disSym d60) b hb h) (fun h => un_el h (fun h => (disSym d63) b hb h) (fun h => h)))))) b h))
   obtain ⟨y631, hy632⟩ : ∃ y, F10_Drop x44 x76.slice = y := ⟨_, rfl⟩
   have hb73 := ltS hy632 hb73
   refine rl_callF rfl en10 rfl (ctr10 F w117 w.heap.size (un (inBlk (PV p116)) (un (inBlk (PV p105)) (un (inBlk (PV p90)) (un (inBlk v51) (un (inBlk (PV p31)) nb))))) c79.size (un_lt k119.ltp (un_lt k108.ltp (un_lt k103.ltp (un_lt (fun b hb => (h52.lt b hb).2) (un_lt k54.ltp nbS))))) p15 v45 v47 u49 hd627 d64 d65 d66 x44 k53 h46 h48 x76.slice y631 hy632) ?_
   rintro _ w629 ⟨z633, z634, u635, rfl, h636, h637, h638, hf639, hf640, d641, d642, d643, c630⟩
   have lo644 : ∀ b, inBlk z633 b → w.heap.size ≤ b := fun b h => (hf639 b h).elim (fun h => un_el h (fun h => lo28 b h) (fun h => un_el h (fun h => lo55 b h) (fun h => lo56 b h))) (Nat.le_trans c79.size)
   have d645 : ∀ b, inBlk z633 b → ¬ inBlk (PV p116) b := fun b h hu => (hf639 b h).elim (fun h => un_el h (fun h => (disSym d125) b h hu) (fun h => un_el h (fun h => (disSym d126) b h hu) (fun h => (disSym d127) b h hu))) (fun h => Nat.not_le_of_lt (k119.ltp b hu) h)
   have d646 : ∀ b, inBlk z633 b → ¬ inBlk (PV p105) b := fun b h hu => (hf639 b h).elim (fun h => un_el h (fun h => (disSym d113) b h hu) (fun h => un_el h (fun h => (disSym d114) b h hu) (fun h => (disSym d115) b h hu))) (fun h => Nat.not_le_of_lt (k108.ltp b hu) h)
   have d647 : ∀ b, inBlk z633 b → ¬ inBlk (PV p90) b := fun b h hu => (hf639 b h).elim (fun h => un_el h (fun h => (disSym d97) b h hu) (fun h => un_el h (fun h => (disSym d98) b h hu) (fun h => (disSym d99) b h hu))) (fun h => Nat.not_le_of_lt (k103.ltp b hu) h)
   have d648 : ∀ b, inBlk z633 b → ¬ inBlk v51 b := fun b h hu => (hf639 b h).elim (fun h => un_el h (fun h => (disSym d58) b h hu) (fun h => un_el h (fun h => (disSym d59) b h hu) (fun h => (disSym d60) b h hu))) (fun h => Nat.not_le_of_lt ((fun b hb => (h52.lt b hb).2) b hu) h)
   have d649 : ∀ b, inBlk z633 b → ¬ inBlk (PV p31) b := fun b h hu => (hf639 b h).elim (fun h => un_el h (fun h => (disSym d61) b h hu) (fun h => un_el h (fun h => (disSym d62) b h hu) (fun h => (disSym d63) b h hu))) (fun h => Nat.not_le_of_lt (k54.ltp b hu) h)
   have lo650 : ∀ b, inBlk z634 b → w.heap.size ≤ b := fun b h => (hf640 b h).elim (fun h => un_el h (fun h => lo28 b h) (fun h => un_el h (fun h => lo55 b h) (fun h => lo56 b h))) (Nat.le_trans c79.size)
   have d651 : ∀ b, inBlk z634 b → ¬ inBlk (PV p116) b := fun b h hu => (hf640 b h).elim (fun h => un_el h (fun h => (disSym d125) b h hu) (fun h => un_el h (fun h => (disSym d126) b h hu) (fun h => (disSym d127) b h hu))) (fun h => Nat.not_le_of_lt (k119.ltp b hu) h)
   have d652 : ∀ b, inBlk z634 b → ¬ inBlk (PV p105) b := fun b h hu => (hf640 b h).elim (fun h => un_el h (fun h => (disSym d113) b h hu) (fun h => un_el h (fun h => (disSym d114) b h hu) (fun h => (disSym d115) b h hu))) (fun h => Nat.not_le_of_lt (k108.ltp b hu) h)
   have d653 : ∀ b, inBlk z634 b → ¬ inBlk (PV p90) b := fun b h hu => (hf640 b h).elim (fun h => un_el h (fun h => (disSym d97) b h hu) (fun h => un_el h (fun h => (disSym d98) b h hu) (fun h => (disSym d99) b h hu))) (fun h => Nat.not_le_of_lt (k103.ltp b hu) h)
   have d654 : ∀ b, inBlk z634 b → ¬ inBlk v51 b := fun b h hu => (hf640 b h).elim (fun h => un_el h (fun h => (disSym d58) b h hu) (fun h => un_el h (fun h => (disSym d59) b h hu) (fun h => (disSym d60) b h hu))) (fun h => Nat.not_le_of_lt ((fun b hb => (h52.lt b hb).2) b hu) h)
   have d655 : ∀ b, inBlk z634 b → ¬ inBlk (PV p31) b := fun b h hu => (hf640 b h).elim (fun h => un_el h (fun h => (disSym d61) b h hu) (fun h => un_el h (fun h => (disSym d62) b h hu) (fun h => (disSym d63) b h hu))) (fun h => Nat.not_le_of_lt (k54.ltp b hu) h)
   have ha657 : ∀ b, b < w117.heap.size → ¬ (un (inBlk (PV p116)) (un (inBlk (PV p105)) (un (inBlk (PV p90)) (un (inBlk v51) (un (inBlk (PV p31)) (un (inBlk (PV p15)) (un (inBlk v45) (un (inBlk v47) nb)))))))) b → ¬ (un (inBlk (PV p15)) (un (inBlk v45) (inBlk v47))) b ∧ ¬ (un (inBlk (PV p116)) (un (inBlk (PV p105)) (un (inBlk (PV p90)) (un (inBlk v51) (un (inBlk (PV p31)) (un (inBlk (PV p15)) (un (inBlk z633) (un (inBlk z634) nb)))))))) b := fun b hb hs => ⟨fun h => un_el h (fun h => hs (.inr (.inr (.inr (.inr (.inr (.inl h))))))) (fun h => un_el h (fun h => hs (.inr (.inr (.inr (.inr (.inr (.inr (.inl h)))))))) (fun h => hs (.inr (.inr (.inr (.inr (.inr (.inr (.inr (.inl h)))))))))), fun h => un_el h (fun h => hs (.inl h)) (fun h => un_el h (fun h => hs (.inr (.inl h))) (fun h => un_el h (fun h => hs (.inr (.inr (.inl h)))) (fun h => un_el h (fun h => hs (.inr (.inr (.inr (.inl h))))) (fun h => un_el h (fun h => hs (.inr (.inr (.inr (.inr (.inl h)))))) (fun h => un_el h (fun h => hs (.inr (.inr (.inr (.inr (.inr (.inl h))))))) (fun h => un_el h (fun h => (hf639 b h).elim (fun h => un_el h (fun h => hs (.inr (.inr (.inr (.inr (.inr (.inl h))))))) (fun h => un_el h (fun h => hs (.inr (.inr (.inr (.inr (.inr (.inr (.inl h)))))))) (fun h => hs (.inr (.inr (.inr (.inr (.inr (.inr (.inr (.inl h))))))))))) (fun h => Nat.not_le_of_lt hb h)) (fun h => un_el h (fun h => (hf640 b h).elim (fun h => un_el h (fun h => hs (.inr (.inr (.inr (.inr (.inr (.inl h))))))) (fun h => un_el h (fun h => hs (.inr (.inr (.inr (.inr (.inr (.inr (.inl h)))))))) (fun h => hs (.inr (.inr (.inr (.inr (.inr (.inr (.inr (.inl h))))))))))) (fun h => Nat.not_le_of_lt hb h)) (fun h => False.elim h))))))))⟩
   have ah0 := slRep.st k_Act_pos ah0 c630 ha657
   have h52 := h52.st c630 (fun b hb h => un_el h (fun h => d58 b hb h) (fun h => un_el h (fun h => d59 b hb h) (fun h => d60 b hb h))) ha657 (fun b h => (.inr (.inr (.inr (.inl h)))))
   have k54 := k54.ch c630 ((fun b hb h => un_el h (fun h => d61 b hb h) (fun h => un_el h (fun h => d62 b hb h) (fun h => d63 b hb h))) _ rfl)
   have k103 := k103.ch c630 ((fun b hb h => un_el h (fun h => d97 b hb h) (fun h => un_el h (fun h => d98 b hb h) (fun h => d99 b hb h))) _ rfl)
   have k108 := k108.ch c630 ((fun b hb h => un_el h (fun h => d113 b hb h) (fun h => un_el h (fun h => d114 b hb h) (fun h => d115 b hb h))) _ rfl)
   have k119 := k119.ch c630 ((fun b hb h => un_el h (fun h => d125 b hb h) (fun h => un_el h (fun h => d126 b hb h) (fun h => d127 b hb h))) _ rfl)
   have c79 := c79.then c630 (fun i hi h => un_el h (fun h => absurd (lo28 i h) (Nat.not_le_of_lt hi)) (fun h => un_el h (fun h => absurd (lo55 i h) (Nat.not_le_of_lt hi)) (fun h => absurd (lo56 i h) (Nat.not_le_of_lt hi))))
   refine rl_move rfl rfl ?_
   refine rl_extract rfl rfl rfl ?_
   refine rl_extract rfl rfl rfl ?_
   refine rl_storeA (vs := (Key.enc y631.1)) rfl rfl (all_one rfl) Try.sizeOf32 rfl k108 rfl ?_
   intro w658 s660 c659 k661
   have ad662 : ∀ b, b < w629.heap.size → ¬ (un (inBlk (PV p116)) (un (inBlk (PV p105)) (un (inBlk (PV p90)) (un (inBlk v51) (un (inBlk (PV p31)) (un (inBlk (PV p15)) (un (inBlk z633) (un (inBlk z634) nb)))))))) b → ¬ (inBlk (PV p105)) b ∧ ¬ (un (inBlk (PV p116)) (un (inBlk (PV p105)) (un (inBlk (PV p90)) (un (inBlk v51) (un (inBlk (PV p31)) (un (inBlk (PV p15)) (un (inBlk z633) (un (inBlk z634) nb)))))))) b := fun b _ hs => ⟨fun h => hs (.inr (.inl h)), hs⟩
   have ah0 := slRep.st k_Act_pos ah0 c659 ad662
   have h52 := h52.st c659 (fun b hb h => (disSym d111) b hb h) ad662 (fun b h => (.inr (.inr (.inr (.inl h)))))
   have k54 := k54.ch c659 ((fun b hb h => (disSym d112) b hb h) _ rfl)
   have k103 := k103.ch c659 ((fun b hb h => (disSym d110) b hb h) _ rfl)
   have k119 := k119.ch c659 ((fun b hb h => d121 b hb h) _ rfl)
   have h636 := h636.ch c659 ((fun b hb h => (disSym d113) b hb h) _ rfl)
   have h637 := h637.ch c659 ((fun b hb h => d646 b hb h))
   have h638 := h638.ch c659 ((fun b hb h => d652 b hb h))
   have c79 := c79.then c659 (fun i hi h => absurd (lo109 i h) (Nat.not_le_of_lt hi))
   refine rl_assign rfl rfl ?_
   refine RL.nil (thn_n (CW.region ?_))
   refine rl_move rfl rfl ?_
   refine rl_fieldAddr rfl fa34_1 rfl ?_
   refine rl_loadA (cs := (Key.enc x76.slice)) rfl Try.isAgg32 Try.sizeOf32 (k103.segAt 1 2) rfl rfl ?_
   have hd663 : ∀ b, (un (inBlk (PV p31)) (inBlk v51)) b → ¬ (un (inBlk (PV p116)) (un (inBlk (PV p105)) (un (inBlk (PV p90)) (un (inBlk (PV p15)) (un (inBlk z633) (un (inBlk z634) nb)))))) b := fun b h => un_el h (fun h => (fun b hb => fun h => un_el h (fun h => (disSym d124) b hb h) (fun h => un_el h (fun h => (disSym d112) b hb h) (fun h => un_el h (fun h => (disSym d96) b hb h) (fun h => un_el h (fun h => d61 b hb h) (fun h => un_el h (fun h => (disSym d649) b hb h) (fun h => un_el h (fun h => (disSym d655) b hb h) (fun h => h))))))) b h) (fun h => (fun b hb => fun h => un_el h (fun h => (disSym d123) b hb h) (fun h => un_el h (fun h => (disSym d111) b hb h) (fun h => un_el h (fun h => (disSym d95) b hb h) (fun h => un_el h (fun h => d58 b hb h) (fun h => un_el h (fun h => (disSym d648) b hb h) (fun h => un_el h (fun h => (disSym d654) b hb h) (fun h => h))))))) b h)
   have hS664 : (un (inBlk (PV p116)) (un (inBlk (PV p105)) (un (inBlk (PV p90)) (un (inBlk v51) (un (inBlk (PV p31)) (un (inBlk (PV p15)) (un (inBlk z633) (un (inBlk z634) nb)))))))) = (un (inBlk (PV p31)) (un (inBlk v51) (un (inBlk (PV p116)) (un (inBlk (PV p105)) (un (inBlk (PV p90)) (un (inBlk (PV p15)) (un (inBlk z633) (un (inBlk z634) nb)))))))) := funext fun b => propext ⟨fun h => un_el h (fun h => (.inr (.inr (.inl h)))) (fun h => un_el h (fun h => (.inr (.inr (.inr (.inl h))))) (fun h => un_el h (fun h => (.inr (.inr (.inr (.inr (.inl h)))))) (fun h => un_el h (fun h => (.inr (.inl h))) (fun h => un_el h (fun h => (.inl h)) (fun h => un_el h (fun h => (.inr (.inr (.inr (.inr (.inr (.inl h))))))) (fun h => un_el h (fun h => (.inr (.inr (.inr (.inr (.inr (.inr (.inl h)))))))) (fun h => un_el h (fun h => (.inr (.inr (.inr (.inr (.inr (.inr (.inr (.inl h))))))))) (fun h => False.elim h)))))))), fun h => un_el h (fun h => (.inr (.inr (.inr (.inr (.inl h)))))) (fun h => un_el h (fun h => (.inr (.inr (.inr (.inl h))))) (fun h => un_el h (fun h => (.inl h)) (fun h => un_el h (fun h => (.inr (.inl h))) (fun h => un_el h (fun h => (.inr (.inr (.inl h)))) (fun h => un_el h (fun h => (.inr (.inr (.inr (.inr (.inr (.inl h))))))) (fun h => un_el h (fun h => (.inr (.inr (.inr (.inr (.inr (.inr (.inl h)))))))) (fun h => un_el h (fun h => (.inr (.inr (.inr (.inr (.inr (.inr (.inr (.inl h))))))))) (fun h => False.elim h))))))))⟩
   obtain ⟨y667, hy668, hb73⟩ := bindS hb73
   refine rl_callF rfl en11 rfl (ctr11 F w658 w.heap.size (un (inBlk (PV p116)) (un (inBlk (PV p105)) (un (inBlk (PV p90)) (un (inBlk (PV p15)) (un (inBlk z633) (un (inBlk z634) nb)))))) c79.size (un_lt k119.ltp (un_lt k661.ltp (un_lt k103.ltp (un_lt h636.ltp (un_lt h637.ltp (un_lt h638.ltp nbS)))))) p31 v51 hd663 (disSym d57) x50 k54 (hS664 ▸ h52) x76.slice y667 hy668) ?_
   rintro _ w665 ⟨z669, rfl, h670, h671, hf672, d673, c666⟩
   have d675 : ∀ b, inBlk z669 b → ¬ inBlk (PV p116) b := fun b h hu => (hf672 b h).elim (fun h => un_el h (fun h => (disSym d124) b h hu) (fun h => (disSym d123) b h hu)) (fun h => Nat.not_le_of_lt (k119.ltp b hu) h)
   have d676 : ∀ b, inBlk z669 b → ¬ inBlk (PV p105) b := fun b h hu => (hf672 b h).elim (fun h => un_el h (fun h => (disSym d112) b h hu) (fun h => (disSym d111) b h hu)) (fun h => Nat.not_le_of_lt (k661.ltp b hu) h)
   have d677 : ∀ b, inBlk z669 b → ¬ inBlk (PV p90) b := fun b h hu => (hf672 b h).elim (fun h => un_el h (fun h => (disSym d96) b h hu) (fun h => (disSym d95) b h hu)) (fun h => Nat.not_le_of_lt (k103.ltp b hu) h)
   have d678 : ∀ b, inBlk z669 b → ¬ inBlk (PV p15) b := fun b h hu => (hf672 b h).elim (fun h => un_el h (fun h => d61 b h hu) (fun h => d58 b h hu)) (fun h => Nat.not_le_of_lt (h636.ltp b hu) h)
   have d679 : ∀ b, inBlk z669 b → ¬ inBlk z633 b := fun b h hu => (hf672 b h).elim (fun h => un_el h (fun h => (disSym d649) b h hu) (fun h => (disSym d648) b h hu)) (fun h => Nat.not_le_of_lt (h637.ltp b hu) h)
   have d680 : ∀ b, inBlk z669 b → ¬ inBlk z634 b := fun b h hu => (hf672 b h).elim (fun h => un_el h (fun h => (disSym d655) b h hu) (fun h => (disSym d654) b h hu)) (fun h => Nat.not_le_of_lt (h638.ltp b hu) h)
   have hS681 : (un (inBlk (PV p116)) (un (inBlk (PV p105)) (un (inBlk (PV p90)) (un (inBlk z669) (un (inBlk (PV p31)) (un (inBlk (PV p15)) (un (inBlk z633) (un (inBlk z634) nb)))))))) = (un (inBlk (PV p31)) (un (inBlk z669) (un (inBlk (PV p116)) (un (inBlk (PV p105)) (un (inBlk (PV p90)) (un (inBlk (PV p15)) (un (inBlk z633) (un (inBlk z634) nb)))))))) := funext fun b => propext ⟨fun h => un_el h (fun h => (.inr (.inr (.inl h)))) (fun h => un_el h (fun h => (.inr (.inr (.inr (.inl h))))) (fun h => un_el h (fun h => (.inr (.inr (.inr (.inr (.inl h)))))) (fun h => un_el h (fun h => (.inr (.inl h))) (fun h => un_el h (fun h => (.inl h)) (fun h => un_el h (fun h => (.inr (.inr (.inr (.inr (.inr (.inl h))))))) (fun h => un_el h (fun h => (.inr (.inr (.inr (.inr (.inr (.inr (.inl h)))))))) (fun h => un_el h (fun h => (.inr (.inr (.inr (.inr (.inr (.inr (.inr (.inl h))))))))) (fun h => False.elim h)))))))), fun h => un_el h (fun h => (.inr (.inr (.inr (.inr (.inl h)))))) (fun h => un_el h (fun h => (.inr (.inr (.inr (.inl h))))) (fun h => un_el h (fun h => (.inl h)) (fun h => un_el h (fun h => (.inr (.inl h))) (fun h => un_el h (fun h => (.inr (.inr (.inl h)))) (fun h => un_el h (fun h => (.inr (.inr (.inr (.inr (.inr (.inl h))))))) (fun h => un_el h (fun h => (.inr (.inr (.inr (.inr (.inr (.inr (.inl h)))))))) (fun h => un_el h (fun h => (.inr (.inr (.inr (.inr (.inr (.inr (.inr (.inl h))))))))) (fun h => False.elim h))))))))⟩
   rw [← hS681] at h671
   have ha682 : ∀ b, b < w658.heap.size → ¬ (un (inBlk (PV p116)) (un (inBlk (PV p105)) (un (inBlk (PV p90)) (un (inBlk v51) (un (inBlk (PV p31)) (un (inBlk (PV p15)) (un (inBlk z633) (un (inBlk z634) nb)))))))) b → ¬ (un (inBlk (PV p31)) (inBlk v51)) b ∧ ¬ (un (inBlk (PV p116)) (un (inBlk (PV p105)) (un (inBlk (PV p90)) (un (inBlk z669) (un (inBlk (PV p31)) (un (inBlk (PV p15)) (un (inBlk z633) (un (inBlk z634) nb)))))))) b := fun b hb hs => ⟨fun h => un_el h (fun h => hs (.inr (.inr (.inr (.inr (.inl h)))))) (fun h => hs (.inr (.inr (.inr (.inl h))))), fun h => un_el h (fun h => hs (.inl h)) (fun h => un_el h (fun h => hs (.inr (.inl h))) (fun h => un_el h (fun h => hs (.inr (.inr (.inl h)))) (fun h => un_el h (fun h => (hf672 b h).elim (fun h => un_el h (fun h => hs (.inr (.inr (.inr (.inr (.inl h)))))) (fun h => hs (.inr (.inr (.inr (.inl h)))))) (fun h => Nat.not_le_of_lt hb h)) (fun h => un_el h (fun h => hs (.inr (.inr (.inr (.inr (.inl h)))))) (fun h => un_el h (fun h => hs (.inr (.inr (.inr (.inr (.inr (.inl h))))))) (fun h => un_el h (fun h => hs (.inr (.inr (.inr (.inr (.inr (.inr (.inl h)))))))) (fun h => un_el h (fun h => hs (.inr (.inr (.inr (.inr (.inr (.inr (.inr (.inl h))))))))) (fun h => False.elim h))))))))⟩
   have ah0 := slRep.st k_Act_pos ah0 c666 ha682
   have k103 := k103.ch c666 ((fun b hb h => un_el h (fun h => d96 b hb h) (fun h => d95 b hb h)) _ rfl)
   have k119 := k119.ch c666 ((fun b hb h => un_el h (fun h => d124 b hb h) (fun h => d123 b hb h)) _ rfl)
   have h636 := h636.ch c666 ((fun b hb h => un_el h (fun h => (disSym d61) b hb h) (fun h => (disSym d58) b hb h)) _ rfl)
   have h637 := h637.ch c666 ((fun b hb h => un_el h (fun h => d649 b hb h) (fun h => d648 b hb h)))
   have h638 := h638.ch c666 ((fun b hb h => un_el h (fun h => d655 b hb h) (fun h => d654 b hb h)))
   have k661 := k661.ch c666 ((fun b hb h => un_el h (fun h => d112 b hb h) (fun h => d111 b hb h)) _ rfl)
   have c79 := c79.then c666 (fun i hi h => un_el h (fun h => absurd (lo35 i h) (Nat.not_le_of_lt hi)) (fun h => absurd ((fun b hb => (h52.lt b hb).1) i h) (Nat.not_le_of_lt hi)))
   refine rl_move rfl rfl ?_
   refine rl_extract rfl rfl rfl ?_
   refine rl_extract rfl rfl rfl ?_
   refine rl_storeA (vs := (Key.enc y667.1)) rfl rfl (all_one rfl) Try.sizeOf32 rfl k119 rfl ?_
   intro w683 s685 c684 k686
   have ad687 : ∀ b, b < w665.heap.size → ¬ (un (inBlk (PV p116)) (un (inBlk (PV p105)) (un (inBlk (PV p90)) (un (inBlk z669) (un (inBlk (PV p31)) (un (inBlk (PV p15)) (un (inBlk z633) (un (inBlk z634) nb)))))))) b → ¬ (inBlk (PV p116)) b ∧ ¬ (un (inBlk (PV p116)) (un (inBlk (PV p105)) (un (inBlk (PV p90)) (un (inBlk z669) (un (inBlk (PV p31)) (un (inBlk (PV p15)) (un (inBlk z633) (un (inBlk z634) nb)))))))) b := fun b _ hs => ⟨fun h => hs (.inl h), hs⟩
   have ah0 := slRep.st k_Act_pos ah0 c684 ad687
   have k103 := k103.ch c684 ((fun b hb h => (disSym d122) b hb h) _ rfl)
   have h636 := h636.ch c684 ((fun b hb h => (disSym d125) b hb h) _ rfl)
   have h637 := h637.ch c684 ((fun b hb h => d645 b hb h))
   have h638 := h638.ch c684 ((fun b hb h => d651 b hb h))
   have k661 := k661.ch c684 ((fun b hb h => (disSym d121) b hb h) _ rfl)
   have h670 := h670.ch c684 ((fun b hb h => (disSym d124) b hb h) _ rfl)
   have h671 := h671.st c684 (fun b hb h => d675 b hb h) ad687 (fun b h => (.inr (.inr (.inr (.inl h)))))
   have c79 := c79.then c684 (fun i hi h => absurd (lo120 i h) (Nat.not_le_of_lt hi))
   refine rl_assign rfl rfl ?_
   refine RL.nil (thn_n (CW.seq ?_))
   refine CW.seq ?_
   obtain ⟨b688, hb689⟩ : ∃ y, ((!decide (y631.1 = y667.1)) || (!(y631.2.1 == y667.2.1))) = y := ⟨_, rfl⟩
   have hb73 := ltS hb689 hb73
   obtain ⟨b696, hb697⟩ : ∃ y, (b688 || (lt (F12_Len y631.2.2) fun y694 => !decide (y694 = ((y667.2.2.all.length : Nat) : Int)))) = y := ⟨_, rfl⟩
   have hb73 := ltS hb697 hb73
   obtain ⟨b718, hb719, hb73⟩ := bindS hb73
   obtain ⟨b740, hb741, hb73⟩ := bindS hb73
   refine CW.cutN (fun E' w' => Sub [(3, (PV p15)), (4, (PV p31)), (6, (PV p90)), (7, (PV p105)), (8, (PV p116)), (18, av0), (19, (Value.int .i64 ((a0.length : Nat) : Int))), (20, (Value.int .i64 ((i68 : Nat) : Int))), (96, (Value.bool b740))] E' ∧ Ch nb w683 w') ?_ ?_
   ·
    rcases Bool.eq_false_or_eq_true (!decide (y631.1 = y667.1)) with hg742 | hg742
    ·
     have hs743 := or_t hg742 hb689
     have hs744 := or_t hs743.symm hb697
     have hs745 := orO_t hs744.symm hb719
     have hs746 := orO_t (Option.some.inj hs745).symm hb741
     refine CW.draw 38 [(none, fun fx O uu wx => uu = (Value.agg (Key.enc y631.1).toArray)), (none, fun fx O uu wx => uu = (Value.agg (Key.enc y667.1).toArray)), (none, fun fx O uu wx => uu = (Value.bool (!decide (y631.1 = y667.1)))), (none, fun fx O uu wx => uu = (Value.bool (!decide (y631.1 = y667.1)))), (none, fun _ O uu wx => uu = undef), (none, fun _ O uu wx => uu = undef), (none, fun _ O uu wx => uu = undef), (none, fun fx O uu wx => uu = (Value.bool b688)), (none, fun fx O uu wx => uu = (Value.bool b688)), (none, fun _ O uu wx => uu = undef), (none, fun _ O uu wx => uu = undef), (none, fun _ O uu wx => uu = undef), (none, fun _ O uu wx => uu = undef), (none, fun _ O uu wx => uu = undef), (none, fun _ O uu wx => uu = undef), (none, fun _ O uu wx => uu = undef), (none, fun _ O uu wx => uu = undef), (none, fun fx O uu wx => uu = (Value.bool b696)), (none, fun fx O uu wx => uu = (Value.bool b696)), (none, fun _ O uu wx => uu = undef), (none, fun _ O uu wx => uu = undef), (none, fun _ O uu wx => uu = undef), (none, fun _ O uu wx => uu = undef), (none, fun _ O uu wx => uu = undef), (none, fun _ O uu wx => uu = undef), (none, fun fx O uu wx => uu = (Value.bool b718)), (none, fun fx O uu wx => uu = (Value.bool b718)), (none, fun _ O uu wx => uu = undef), (none, fun _ O uu wx => uu = undef), (none, fun _ O uu wx => uu = undef), (none, fun _ O uu wx => uu = undef), (none, fun _ O uu wx => uu = undef), (none, fun _ O uu wx => uu = undef), (none, fun _ O uu wx => uu = undef), (none, fun _ O uu wx => uu = undef), (none, fun _ O uu wx => uu = undef), (none, fun _ O uu wx => uu = undef), (none, fun fx O uu wx => uu = (Value.bool b740))] [[], [], [0, 1], [2], [3], [3], [3], [3], [7], [8], [8], [8], [8], [8], [8], [8], [8], [8], [17], [18], [18], [18], [18], [18], [18], [18], [25], [26], [26], [26], [26], [26], [26], [26], [26], [26], [26], [26]] [37] nb (fun _ h => h.elim) mixed rfl rfl rfl rfl ?_ ?_
     ·
      refine Each.consS (fun fl O wk hE hN hO ck => ?_) ?_
      ·
       have k661 := k661.ch0 ck
       refine rl_loadA (cs := (Key.enc y631.1)) rfl Try.isAgg32 Try.sizeOf32 (k661.segAt 0 2) rfl rfl ?_
       exact RL.nil ⟨_, rfl, Ch.refl, rfl⟩
      refine Each.consS (fun fl O wk hE hN hO ck => ?_) ?_
      ·
       have k686 := k686.ch0 ck
       refine rl_loadA (cs := (Key.enc y667.1)) rfl Try.isAgg32 Try.sizeOf32 (k686.segAt 0 2) rfl rfl ?_
       exact RL.nil ⟨_, rfl, Ch.refl, rfl⟩
      refine Each.consS (fun fl O wk hE hN hO ck => ?_) ?_
      ·
       refine Need.o1 rfl rfl rfl (fun _ h => h) ?_
       refine Need.o1 rfl rfl rfl (fun _ h => h) ?_
       refine rl_bin rfl rfl (neq32 y631.1 y667.1) rfl ?_
       exact RL.nil ⟨_, rfl, Ch.refl, rfl⟩
      refine Each.consS (fun fl O wk hE hN hO ck => ?_) ?_
      ·
       refine Need.o1 rfl rfl rfl (fun _ h => h) ?_
       refine rl_move rfl rfl ?_
       exact RL.nil ⟨_, rfl, Ch.refl, rfl⟩
      refine Each.consS (fun fl O wk hE hN hO ck => ?_) ?_
      ·
       refine Need.o1 rfl rfl rfl (fun _ h => h) ?_
       refine RL.no rfl rfl rfl hg742 rfl rfl ?_
       exact RL.nil ⟨_, rfl, Ch.refl, rfl⟩
      refine Each.consS (fun fl O wk hE hN hO ck => ?_) ?_
      ·
       refine Need.o1 rfl rfl rfl (fun _ h => h) ?_
       refine RL.no rfl rfl rfl hg742 rfl rfl ?_
       exact RL.nil ⟨_, rfl, Ch.refl, rfl⟩
      refine Each.consS (fun fl O wk hE hN hO ck => ?_) ?_
      ·
       refine Need.o1 rfl rfl rfl (fun _ h => h) ?_
       refine RL.no rfl rfl rfl hg742 rfl rfl ?_
       exact RL.nil ⟨_, rfl, Ch.refl, rfl⟩
      refine Each.consS (fun fl O wk hE hN hO ck => ?_) ?_
      ·
       refine Need.o1 rfl rfl rfl (fun _ h => h) ?_
       refine rl_pickT rfl hg742 rfl rfl ?_
       exact RL.nil ⟨_, rfl, Ch.refl, congrArg Value.bool hs743⟩
      refine Each.consS (fun fl O wk hE hN hO ck => ?_) ?_
      ·
       refine Need.o1 rfl rfl rfl (fun _ h => h) ?_
       refine rl_move rfl rfl ?_
       exact RL.nil ⟨_, rfl, Ch.refl, rfl⟩
      refine Each.consS (fun fl O wk hE hN hO ck => ?_) ?_
      ·
       refine Need.o1 rfl rfl rfl (fun _ h => h) ?_
       refine RL.no rfl rfl rfl hs743.symm rfl rfl ?_
       exact RL.nil ⟨_, rfl, Ch.refl, rfl⟩
      refine Each.consS (fun fl O wk hE hN hO ck => ?_) ?_
      ·
       refine Need.o1 rfl rfl rfl (fun _ h => h) ?_
       refine RL.no rfl rfl rfl hs743.symm rfl rfl ?_
       exact RL.nil ⟨_, rfl, Ch.refl, rfl⟩
      refine Each.consS (fun fl O wk hE hN hO ck => ?_) ?_
      ·
       refine Need.o1 rfl rfl rfl (fun _ h => h) ?_
       refine RL.no rfl rfl rfl hs743.symm rfl rfl ?_
       exact RL.nil ⟨_, rfl, Ch.refl, rfl⟩
      refine Each.consS (fun fl O wk hE hN hO ck => ?_) ?_
      ·
       refine Need.o1 rfl rfl rfl (fun _ h => h) ?_
       refine RL.no rfl rfl rfl hs743.symm rfl rfl ?_
       exact RL.nil ⟨_, rfl, Ch.refl, rfl⟩
      refine Each.consS (fun fl O wk hE hN hO ck => ?_) ?_
      ·
       refine Need.o1 rfl rfl rfl (fun _ h => h) ?_
       refine RL.no rfl rfl rfl hs743.symm rfl rfl ?_
       exact RL.nil ⟨_, rfl, Ch.refl, rfl⟩
      refine Each.consS (fun fl O wk hE hN hO ck => ?_) ?_
      ·
       refine Need.o1 rfl rfl rfl (fun _ h => h) ?_
       refine RL.no rfl rfl rfl hs743.symm rfl rfl ?_
       exact RL.nil ⟨_, rfl, Ch.refl, rfl⟩
      refine Each.consS (fun fl O wk hE hN hO ck => ?_) ?_
      ·
       refine Need.o1 rfl rfl rfl (fun _ h => h) ?_
       refine RL.no rfl rfl rfl hs743.symm rfl rfl ?_
       exact RL.nil ⟨_, rfl, Ch.refl, rfl⟩
      refine Each.consS (fun fl O wk hE hN hO ck => ?_) ?_
      ·
       refine Need.o1 rfl rfl rfl (fun _ h => h) ?_
       refine RL.no rfl rfl rfl hs743.symm rfl rfl ?_
       exact RL.nil ⟨_, rfl, Ch.refl, rfl⟩
      refine Each.consS (fun fl O wk hE hN hO ck => ?_) ?_
      ·
       refine Need.o1 rfl rfl rfl (fun _ h => h) ?_
       refine rl_pickT rfl hs743.symm rfl rfl ?_
       exact RL.nil ⟨_, rfl, Ch.refl, congrArg Value.bool hs744⟩
      refine Each.consS (fun fl O wk hE hN hO ck => ?_) ?_
      ·
       refine Need.o1 rfl rfl rfl (fun _ h => h) ?_
       refine rl_move rfl rfl ?_
       exact RL.nil ⟨_, rfl, Ch.refl, rfl⟩
      refine Each.consS (fun fl O wk hE hN hO ck => ?_) ?_
      ·
       refine Need.o1 rfl rfl rfl (fun _ h => h) ?_
       refine RL.no rfl rfl rfl hs744.symm rfl rfl ?_
       exact RL.nil ⟨_, rfl, Ch.refl, rfl⟩
      refine Each.consS (fun fl O wk hE hN hO ck => ?_) ?_
      ·
       refine Need.o1 rfl rfl rfl (fun _ h => h) ?_
       refine RL.no rfl rfl rfl hs744.symm rfl rfl ?_
       exact RL.nil ⟨_, rfl, Ch.refl, rfl⟩
      refine Each.consS (fun fl O wk hE hN hO ck => ?_) ?_
      ·
       refine Need.o1 rfl rfl rfl (fun _ h => h) ?_
       refine RL.no rfl rfl rfl hs744.symm rfl rfl ?_
       exact RL.nil ⟨_, rfl, Ch.refl, rfl⟩
      refine Each.consS (fun fl O wk hE hN hO ck => ?_) ?_
      ·
       refine Need.o1 rfl rfl rfl (fun _ h => h) ?_
       refine RL.no rfl rfl rfl hs744.symm rfl rfl ?_
       exact RL.nil ⟨_, rfl, Ch.refl, rfl⟩
      refine Each.consS (fun fl O wk hE hN hO ck => ?_) ?_
      ·
       refine Need.o1 rfl rfl rfl (fun _ h => h) ?_
       refine RL.no rfl rfl rfl hs744.symm rfl rfl ?_
       exact RL.nil ⟨_, rfl, Ch.refl, rfl⟩
      refine Each.consS (fun fl O wk hE hN hO ck => ?_) ?_
      ·
       refine Need.o1 rfl rfl rfl (fun _ h => h) ?_
       refine RL.no rfl rfl rfl hs744.symm rfl rfl ?_
       exact RL.nil ⟨_, rfl, Ch.refl, rfl⟩
      refine Each.consS (fun fl O wk hE hN hO ck => ?_) ?_
      ·
       refine Need.o1 rfl rfl rfl (fun _ h => h) ?_
       refine rl_pickT rfl hs744.symm rfl rfl ?_
       exact RL.nil ⟨_, rfl, Ch.refl, congrArg Value.bool (Option.some.inj hs745)⟩
      refine Each.consS (fun fl O wk hE hN hO ck => ?_) ?_
      ·
       refine Need.o1 rfl rfl rfl (fun _ h => h) ?_
       refine rl_move rfl rfl ?_
       exact RL.nil ⟨_, rfl, Ch.refl, rfl⟩
      refine Each.consS (fun fl O wk hE hN hO ck => ?_) ?_
      ·
       refine Need.o1 rfl rfl rfl (fun _ h => h) ?_
       refine RL.no rfl rfl rfl (Option.some.inj hs745).symm rfl rfl ?_
       exact RL.nil ⟨_, rfl, Ch.refl, rfl⟩
      refine Each.consS (fun fl O wk hE hN hO ck => ?_) ?_
      ·
       refine Need.o1 rfl rfl rfl (fun _ h => h) ?_
       refine RL.no rfl rfl rfl (Option.some.inj hs745).symm rfl rfl ?_
       exact RL.nil ⟨_, rfl, Ch.refl, rfl⟩
      refine Each.consS (fun fl O wk hE hN hO ck => ?_) ?_
      ·
       refine Need.o1 rfl rfl rfl (fun _ h => h) ?_
       refine RL.no rfl rfl rfl (Option.some.inj hs745).symm rfl rfl ?_
       exact RL.nil ⟨_, rfl, Ch.refl, rfl⟩
      refine Each.consS (fun fl O wk hE hN hO ck => ?_) ?_
      ·
       refine Need.o1 rfl rfl rfl (fun _ h => h) ?_
       refine RL.no rfl rfl rfl (Option.some.inj hs745).symm rfl rfl ?_
       exact RL.nil ⟨_, rfl, Ch.refl, rfl⟩
      refine Each.consS (fun fl O wk hE hN hO ck => ?_) ?_
      ·
       refine Need.o1 rfl rfl rfl (fun _ h => h) ?_
       refine RL.no rfl rfl rfl (Option.some.inj hs745).symm rfl rfl ?_
       exact RL.nil ⟨_, rfl, Ch.refl, rfl⟩
      refine Each.consS (fun fl O wk hE hN hO ck => ?_) ?_
      ·
       refine Need.o1 rfl rfl rfl (fun _ h => h) ?_
       refine RL.no rfl rfl rfl (Option.some.inj hs745).symm rfl rfl ?_
       exact RL.nil ⟨_, rfl, Ch.refl, rfl⟩
      refine Each.consS (fun fl O wk hE hN hO ck => ?_) ?_
      ·
       refine Need.o1 rfl rfl rfl (fun _ h => h) ?_
       refine RL.no rfl rfl rfl (Option.some.inj hs745).symm rfl rfl ?_
       exact RL.nil ⟨_, rfl, Ch.refl, rfl⟩
      refine Each.consS (fun fl O wk hE hN hO ck => ?_) ?_
      ·
       refine Need.o1 rfl rfl rfl (fun _ h => h) ?_
       refine RL.no rfl rfl rfl (Option.some.inj hs745).symm rfl rfl ?_
       exact RL.nil ⟨_, rfl, Ch.refl, rfl⟩
      refine Each.consS (fun fl O wk hE hN hO ck => ?_) ?_
      ·
       refine Need.o1 rfl rfl rfl (fun _ h => h) ?_
       refine RL.no rfl rfl rfl (Option.some.inj hs745).symm rfl rfl ?_
       exact RL.nil ⟨_, rfl, Ch.refl, rfl⟩
      refine Each.consS (fun fl O wk hE hN hO ck => ?_) ?_
      ·
       refine Need.o1 rfl rfl rfl (fun _ h => h) ?_
       refine RL.no rfl rfl rfl (Option.some.inj hs745).symm rfl rfl ?_
       exact RL.nil ⟨_, rfl, Ch.refl, rfl⟩
      refine Each.consS (fun fl O wk hE hN hO ck => ?_) ?_
      ·
       refine Need.o1 rfl rfl rfl (fun _ h => h) ?_
       refine rl_pickT rfl (Option.some.inj hs745).symm rfl rfl ?_
       exact RL.nil ⟨_, rfl, Ch.refl, congrArg Value.bool (Option.some.inj hs746)⟩
      trivial
     intro hvO786 OpO786 O786 w784 hO787 c785 hN788
     refine Need.o1 rfl rfl rfl (fun _ h => h) ?_
     exact RL.nil ⟨rfl, ⟨rfl, rfl, rfl, rfl, rfl, rfl, rfl, rfl, rfl, trivial⟩, c785⟩
    have hs790 := or_f hg742 hb689
    rcases Bool.eq_false_or_eq_true b688 with hg791 | hg791
    ·
     have hs792 := or_t hg791 hb697
     have hs793 := orO_t hs792.symm hb719
     have hs794 := orO_t (Option.some.inj hs793).symm hb741
     refine CW.draw 38 [(none, fun fx O uu wx => uu = (Value.agg (Key.enc y631.1).toArray)), (none, fun fx O uu wx => uu = (Value.agg (Key.enc y667.1).toArray)), (none, fun fx O uu wx => uu = (Value.bool (!decide (y631.1 = y667.1)))), (none, fun fx O uu wx => uu = (Value.bool (!decide (y631.1 = y667.1)))), (none, fun fx O uu wx => uu = (Value.bool y631.2.1)), (none, fun fx O uu wx => uu = (Value.bool y667.2.1)), (none, fun fx O uu wx => uu = (Value.bool (!(y631.2.1 == y667.2.1)))), (none, fun fx O uu wx => uu = (Value.bool b688)), (none, fun fx O uu wx => uu = (Value.bool b688)), (none, fun _ O uu wx => uu = undef), (none, fun _ O uu wx => uu = undef), (none, fun _ O uu wx => uu = undef), (none, fun _ O uu wx => uu = undef), (none, fun _ O uu wx => uu = undef), (none, fun _ O uu wx => uu = undef), (none, fun _ O uu wx => uu = undef), (none, fun _ O uu wx => uu = undef), (none, fun fx O uu wx => uu = (Value.bool b696)), (none, fun fx O uu wx => uu = (Value.bool b696)), (none, fun _ O uu wx => uu = undef), (none, fun _ O uu wx => uu = undef), (none, fun _ O uu wx => uu = undef), (none, fun _ O uu wx => uu = undef), (none, fun _ O uu wx => uu = undef), (none, fun _ O uu wx => uu = undef), (none, fun fx O uu wx => uu = (Value.bool b718)), (none, fun fx O uu wx => uu = (Value.bool b718)), (none, fun _ O uu wx => uu = undef), (none, fun _ O uu wx => uu = undef), (none, fun _ O uu wx => uu = undef), (none, fun _ O uu wx => uu = undef), (none, fun _ O uu wx => uu = undef), (none, fun _ O uu wx => uu = undef), (none, fun _ O uu wx => uu = undef), (none, fun _ O uu wx => uu = undef), (none, fun _ O uu wx => uu = undef), (none, fun _ O uu wx => uu = undef), (none, fun fx O uu wx => uu = (Value.bool b740))] [[], [], [0, 1], [2], [3], [3], [3, 4, 5], [3, 6], [7], [8], [8], [8], [8], [8], [8], [8], [8], [8], [17], [18], [18], [18], [18], [18], [18], [18], [25], [26], [26], [26], [26], [26], [26], [26], [26], [26], [26], [26]] [37] nb (fun _ h => h.elim) mixed rfl rfl rfl rfl ?_ ?_
     ·
      refine Each.consS (fun fl O wk hE hN hO ck => ?_) ?_
      ·
       have k661 := k661.ch0 ck
       refine rl_loadA (cs := (Key.enc y631.1)) rfl Try.isAgg32 Try.sizeOf32 (k661.segAt 0 2) rfl rfl ?_
       exact RL.nil ⟨_, rfl, Ch.refl, rfl⟩
      refine Each.consS (fun fl O wk hE hN hO ck => ?_) ?_
      ·
       have k686 := k686.ch0 ck
       refine rl_loadA (cs := (Key.enc y667.1)) rfl Try.isAgg32 Try.sizeOf32 (k686.segAt 0 2) rfl rfl ?_
       exact RL.nil ⟨_, rfl, Ch.refl, rfl⟩
      refine Each.consS (fun fl O wk hE hN hO ck => ?_) ?_
      ·
       refine Need.o1 rfl rfl rfl (fun _ h => h) ?_
       refine Need.o1 rfl rfl rfl (fun _ h => h) ?_
       refine rl_bin rfl rfl (neq32 y631.1 y667.1) rfl ?_
       exact RL.nil ⟨_, rfl, Ch.refl, rfl⟩
      refine Each.consS (fun fl O wk hE hN hO ck => ?_) ?_
      ·
       refine Need.o1 rfl rfl rfl (fun _ h => h) ?_
       refine rl_move rfl rfl ?_
       exact RL.nil ⟨_, rfl, Ch.refl, rfl⟩
      refine Each.consS (fun fl O wk hE hN hO ck => ?_) ?_
      ·
       refine Need.o1 rfl rfl rfl (fun _ h => h) ?_
       refine RL.yes rfl rfl rfl hg742 ?_
       refine rl_move rfl rfl ?_
       exact RL.nil ⟨_, rfl, Ch.refl, rfl⟩
      refine Each.consS (fun fl O wk hE hN hO ck => ?_) ?_
      ·
       refine Need.o1 rfl rfl rfl (fun _ h => h) ?_
       refine RL.yes rfl rfl rfl hg742 ?_
       refine rl_move rfl rfl ?_
       exact RL.nil ⟨_, rfl, Ch.refl, rfl⟩
      refine Each.consS (fun fl O wk hE hN hO ck => ?_) ?_
      ·
       refine Need.o1 rfl rfl rfl (fun _ h => h) ?_
       refine Need.o1 rfl rfl rfl (fun _ h => h) ?_
       refine Need.o1 rfl rfl rfl (fun _ h => h) ?_
       refine RL.yes rfl rfl rfl hg742 ?_
       refine rl_bin rfl rfl (B.neqB Try.underlying4) rfl ?_
       exact RL.nil ⟨_, rfl, Ch.refl, rfl⟩
      refine Each.consS (fun fl O wk hE hN hO ck => ?_) ?_
      ·
       refine Need.o1 rfl rfl rfl (fun _ h => h) ?_
       refine Need.o1 rfl rfl rfl (fun _ h => h) ?_
       refine rl_pickF rfl hg742 rfl rfl ?_
       exact RL.nil ⟨_, rfl, Ch.refl, congrArg Value.bool hs790⟩
      refine Each.consS (fun fl O wk hE hN hO ck => ?_) ?_
      ·
       refine Need.o1 rfl rfl rfl (fun _ h => h) ?_
       refine rl_move rfl rfl ?_
       exact RL.nil ⟨_, rfl, Ch.refl, rfl⟩
      refine Each.consS (fun fl O wk hE hN hO ck => ?_) ?_
      ·
       refine Need.o1 rfl rfl rfl (fun _ h => h) ?_
       refine RL.no rfl rfl rfl hg791 rfl rfl ?_
       exact RL.nil ⟨_, rfl, Ch.refl, rfl⟩
      refine Each.consS (fun fl O wk hE hN hO ck => ?_) ?_
      ·
       refine Need.o1 rfl rfl rfl (fun _ h => h) ?_
       refine RL.no rfl rfl rfl hg791 rfl rfl ?_
       exact RL.nil ⟨_, rfl, Ch.refl, rfl⟩
      refine Each.consS (fun fl O wk hE hN hO ck => ?_) ?_
      ·
       refine Need.o1 rfl rfl rfl (fun _ h => h) ?_
       refine RL.no rfl rfl rfl hg791 rfl rfl ?_
       exact RL.nil ⟨_, rfl, Ch.refl, rfl⟩
      refine Each.consS (fun fl O wk hE hN hO ck => ?_) ?_
      ·
       refine Need.o1 rfl rfl rfl (fun _ h => h) ?_
       refine RL.no rfl rfl rfl hg791 rfl rfl ?_
       exact RL.nil ⟨_, rfl, Ch.refl, rfl⟩
      refine Each.consS (fun fl O wk hE hN hO ck => ?_) ?_
      ·
       refine Need.o1 rfl rfl rfl (fun _ h => h) ?_
       refine RL.no rfl rfl rfl hg791 rfl rfl ?_
       exact RL.nil ⟨_, rfl, Ch.refl, rfl⟩
      refine Each.consS (fun fl O wk hE hN hO ck => ?_) ?_
      ·
       refine Need.o1 rfl rfl rfl (fun _ h => h) ?_
       refine RL.no rfl rfl rfl hg791 rfl rfl ?_
       exact RL.nil ⟨_, rfl, Ch.refl, rfl⟩
      refine Each.consS (fun fl O wk hE hN hO ck => ?_) ?_
      ·
       refine Need.o1 rfl rfl rfl (fun _ h => h) ?_
       refine RL.no rfl rfl rfl hg791 rfl rfl ?_
       exact RL.nil ⟨_, rfl, Ch.refl, rfl⟩
      refine Each.consS (fun fl O wk hE hN hO ck => ?_) ?_
      ·
       refine Need.o1 rfl rfl rfl (fun _ h => h) ?_
       refine RL.no rfl rfl rfl hg791 rfl rfl ?_
       exact RL.nil ⟨_, rfl, Ch.refl, rfl⟩
      refine Each.consS (fun fl O wk hE hN hO ck => ?_) ?_
      ·
       refine Need.o1 rfl rfl rfl (fun _ h => h) ?_
       refine rl_pickT rfl hg791 rfl rfl ?_
       exact RL.nil ⟨_, rfl, Ch.refl, congrArg Value.bool hs792⟩
      refine Each.consS (fun fl O wk hE hN hO ck => ?_) ?_
      ·
       refine Need.o1 rfl rfl rfl (fun _ h => h) ?_
       refine rl_move rfl rfl ?_
       exact RL.nil ⟨_, rfl, Ch.refl, rfl⟩
      refine Each.consS (fun fl O wk hE hN hO ck => ?_) ?_
      ·
       refine Need.o1 rfl rfl rfl (fun _ h => h) ?_
       refine RL.no rfl rfl rfl hs792.symm rfl rfl ?_
       exact RL.nil ⟨_, rfl, Ch.refl, rfl⟩
      refine Each.consS (fun fl O wk hE hN hO ck => ?_) ?_
      ·
       refine Need.o1 rfl rfl rfl (fun _ h => h) ?_
       refine RL.no rfl rfl rfl hs792.symm rfl rfl ?_
       exact RL.nil ⟨_, rfl, Ch.refl, rfl⟩
      refine Each.consS (fun fl O wk hE hN hO ck => ?_) ?_
      ·
       refine Need.o1 rfl rfl rfl (fun _ h => h) ?_
       refine RL.no rfl rfl rfl hs792.symm rfl rfl ?_
       exact RL.nil ⟨_, rfl, Ch.refl, rfl⟩
      refine Each.consS (fun fl O wk hE hN hO ck => ?_) ?_
      ·
       refine Need.o1 rfl rfl rfl (fun _ h => h) ?_
       refine RL.no rfl rfl rfl hs792.symm rfl rfl ?_
       exact RL.nil ⟨_, rfl, Ch.refl, rfl⟩
      refine Each.consS (fun fl O wk hE hN hO ck => ?_) ?_
      ·
       refine Need.o1 rfl rfl rfl (fun _ h => h) ?_
       refine RL.no rfl rfl rfl hs792.symm rfl rfl ?_
       exact RL.nil ⟨_, rfl, Ch.refl, rfl⟩
      refine Each.consS (fun fl O wk hE hN hO ck => ?_) ?_
      ·
       refine Need.o1 rfl rfl rfl (fun _ h => h) ?_
       refine RL.no rfl rfl rfl hs792.symm rfl rfl ?_
       exact RL.nil ⟨_, rfl, Ch.refl, rfl⟩
      refine Each.consS (fun fl O wk hE hN hO ck => ?_) ?_
      ·
       refine Need.o1 rfl rfl rfl (fun _ h => h) ?_
       refine rl_pickT rfl hs792.symm rfl rfl ?_
       exact RL.nil ⟨_, rfl, Ch.refl, congrArg Value.bool (Option.some.inj hs793)⟩
      refine Each.consS (fun fl O wk hE hN hO ck => ?_) ?_
      ·
       refine Need.o1 rfl rfl rfl (fun _ h => h) ?_
       refine rl_move rfl rfl ?_
       exact RL.nil ⟨_, rfl, Ch.refl, rfl⟩
      refine Each.consS (fun fl O wk hE hN hO ck => ?_) ?_
      ·
       refine Need.o1 rfl rfl rfl (fun _ h => h) ?_
       refine RL.no rfl rfl rfl (Option.some.inj hs793).symm rfl rfl ?_
       exact RL.nil ⟨_, rfl, Ch.refl, rfl⟩
      refine Each.consS (fun fl O wk hE hN hO ck => ?_) ?_
      ·
       refine Need.o1 rfl rfl rfl (fun _ h => h) ?_
       refine RL.no rfl rfl rfl (Option.some.inj hs793).symm rfl rfl ?_
       exact RL.nil ⟨_, rfl, Ch.refl, rfl⟩
      refine Each.consS (fun fl O wk hE hN hO ck => ?_) ?_
      ·
       refine Need.o1 rfl rfl rfl (fun _ h => h) ?_
       refine RL.no rfl rfl rfl (Option.some.inj hs793).symm rfl rfl ?_
       exact RL.nil ⟨_, rfl, Ch.refl, rfl⟩
      refine Each.consS (fun fl O wk hE hN hO ck => ?_) ?_
      ·
       refine Need.o1 rfl rfl rfl (fun _ h => h) ?_
       refine RL.no rfl rfl rfl (Option.some.inj hs793).symm rfl rfl ?_
       exact RL.nil ⟨_, rfl, Ch.refl, rfl⟩
      refine Each.consS (fun fl O wk hE hN hO ck => ?_) ?_
      ·
       refine Need.o1 rfl rfl rfl (fun _ h => h) ?_
       refine RL.no rfl rfl rfl (Option.some.inj hs793).symm rfl rfl ?_
       exact RL.nil ⟨_, rfl, Ch.refl, rfl⟩
      refine Each.consS (fun fl O wk hE hN hO ck => ?_) ?_
      ·
       refine Need.o1 rfl rfl rfl (fun _ h => h) ?_
       refine RL.no rfl rfl rfl (Option.some.inj hs793).symm rfl rfl ?_
       exact RL.nil ⟨_, rfl, Ch.refl, rfl⟩
      refine Each.consS (fun fl O wk hE hN hO ck => ?_) ?_
      ·
       refine Need.o1 rfl rfl rfl (fun _ h => h) ?_
       refine RL.no rfl rfl rfl (Option.some.inj hs793).symm rfl rfl ?_
       exact RL.nil ⟨_, rfl, Ch.refl, rfl⟩
      refine Each.consS (fun fl O wk hE hN hO ck => ?_) ?_
      ·
       refine Need.o1 rfl rfl rfl (fun _ h => h) ?_
       refine RL.no rfl rfl rfl (Option.some.inj hs793).symm rfl rfl ?_
       exact RL.nil ⟨_, rfl, Ch.refl, rfl⟩
      refine Each.consS (fun fl O wk hE hN hO ck => ?_) ?_
      ·
       refine Need.o1 rfl rfl rfl (fun _ h => h) ?_
       refine RL.no rfl rfl rfl (Option.some.inj hs793).symm rfl rfl ?_
       exact RL.nil ⟨_, rfl, Ch.refl, rfl⟩
      refine Each.consS (fun fl O wk hE hN hO ck => ?_) ?_
      ·
       refine Need.o1 rfl rfl rfl (fun _ h => h) ?_
       refine RL.no rfl rfl rfl (Option.some.inj hs793).symm rfl rfl ?_
       exact RL.nil ⟨_, rfl, Ch.refl, rfl⟩
      refine Each.consS (fun fl O wk hE hN hO ck => ?_) ?_
      ·
       refine Need.o1 rfl rfl rfl (fun _ h => h) ?_
       refine rl_pickT rfl (Option.some.inj hs793).symm rfl rfl ?_
       exact RL.nil ⟨_, rfl, Ch.refl, congrArg Value.bool (Option.some.inj hs794)⟩
      trivial
     intro hvO837 OpO837 O837 w835 hO838 c836 hN839
     refine Need.o1 rfl rfl rfl (fun _ h => h) ?_
     exact RL.nil ⟨rfl, ⟨rfl, rfl, rfl, rfl, rfl, rfl, rfl, rfl, rfl, trivial⟩, c836⟩
    have hs841 := or_f hg791 hb697
    obtain ⟨y694, hy695⟩ : ∃ y, F12_Len y631.2.2 = y := ⟨_, rfl⟩
    have hs841 := ltS hy695 hs841
    rcases Bool.eq_false_or_eq_true b696 with hg842 | hg842
    ·
     have hs843 := orO_t hg842 hb719
     have hs844 := orO_t (Option.some.inj hs843).symm hb741
     refine CW.draw 38 [(none, fun fx O uu wx => uu = (Value.agg (Key.enc y631.1).toArray)), (none, fun fx O uu wx => uu = (Value.agg (Key.enc y667.1).toArray)), (none, fun fx O uu wx => uu = (Value.bool (!decide (y631.1 = y667.1)))), (none, fun fx O uu wx => uu = (Value.bool (!decide (y631.1 = y667.1)))), (none, fun fx O uu wx => uu = (Value.bool y631.2.1)), (none, fun fx O uu wx => uu = (Value.bool y667.2.1)), (none, fun fx O uu wx => uu = (Value.bool (!(y631.2.1 == y667.2.1)))), (none, fun fx O uu wx => uu = (Value.bool b688)), (none, fun fx O uu wx => uu = (Value.bool b688)), (none, fun fx O uu wx => uu = (PV p15)), (none, fun fx O uu wx => uu = (Value.int .i64 y694)), (none, fun fx O uu wx => uu = (PV p31)), (none, fun fx O uu wx => uu = (PV p31)), (none, fun fx O uu wx => uu = (PV p31)), (none, fun fx O uu wx => uu = z669), (none, fun fx O uu wx => uu = (Value.int .i64 ((y667.2.2.all.length : Nat) : Int))), (none, fun fx O uu wx => uu = (Value.bool (!decide (y694 = ((y667.2.2.all.length : Nat) : Int))))), (none, fun fx O uu wx => uu = (Value.bool b696)), (none, fun fx O uu wx => uu = (Value.bool b696)), (none, fun _ O uu wx => uu = undef), (none, fun _ O uu wx => uu = undef), (none, fun _ O uu wx => uu = undef), (none, fun _ O uu wx => uu = undef), (none, fun _ O uu wx => uu = undef), (none, fun _ O uu wx => uu = undef), (none, fun fx O uu wx => uu = (Value.bool b718)), (none, fun fx O uu wx => uu = (Value.bool b718)), (none, fun _ O uu wx => uu = undef), (none, fun _ O uu wx => uu = undef), (none, fun _ O uu wx => uu = undef), (none, fun _ O uu wx => uu = undef), (none, fun _ O uu wx => uu = undef), (none, fun _ O uu wx => uu = undef), (none, fun _ O uu wx => uu = undef), (none, fun _ O uu wx => uu = undef), (none, fun _ O uu wx => uu = undef), (none, fun _ O uu wx => uu = undef), (none, fun fx O uu wx => uu = (Value.bool b740))] [[], [], [0, 1], [2], [3], [3], [3, 4, 5], [3, 6], [7], [8], [8, 9], [8], [8, 11], [8, 12], [8, 13], [8, 14], [8, 10, 15], [8, 16], [17], [18], [18], [18], [18], [18], [18], [18], [25], [26], [26], [26], [26], [26], [26], [26], [26], [26], [26], [26]] [37] nb (fun _ h => h.elim) mixed rfl rfl rfl rfl ?_ ?_
     ·
      refine Each.consS (fun fl O wk hE hN hO ck => ?_) ?_
      ·
       have k661 := k661.ch0 ck
       refine rl_loadA (cs := (Key.enc y631.1)) rfl Try.isAgg32 Try.sizeOf32 (k661.segAt 0 2) rfl rfl ?_
       exact RL.nil ⟨_, rfl, Ch.refl, rfl⟩
      refine Each.consS (fun fl O wk hE hN hO ck => ?_) ?_
      ·
       have k686 := k686.ch0 ck
       refine rl_loadA (cs := (Key.enc y667.1)) rfl Try.isAgg32 Try.sizeOf32 (k686.segAt 0 2) rfl rfl ?_
       exact RL.nil ⟨_, rfl, Ch.refl, rfl⟩
      refine Each.consS (fun fl O wk hE hN hO ck => ?_) ?_
      ·
       refine Need.o1 rfl rfl rfl (fun _ h => h) ?_
       refine Need.o1 rfl rfl rfl (fun _ h => h) ?_
       refine rl_bin rfl rfl (neq32 y631.1 y667.1) rfl ?_
       exact RL.nil ⟨_, rfl, Ch.refl, rfl⟩
      refine Each.consS (fun fl O wk hE hN hO ck => ?_) ?_
      ·
       refine Need.o1 rfl rfl rfl (fun _ h => h) ?_
       refine rl_move rfl rfl ?_
       exact RL.nil ⟨_, rfl, Ch.refl, rfl⟩
      refine Each.consS (fun fl O wk hE hN hO ck => ?_) ?_
      ·
       refine Need.o1 rfl rfl rfl (fun _ h => h) ?_
       refine RL.yes rfl rfl rfl hg742 ?_
       refine rl_move rfl rfl ?_
       exact RL.nil ⟨_, rfl, Ch.refl, rfl⟩
      refine Each.consS (fun fl O wk hE hN hO ck => ?_) ?_
      ·
       refine Need.o1 rfl rfl rfl (fun _ h => h) ?_
       refine RL.yes rfl rfl rfl hg742 ?_
       refine rl_move rfl rfl ?_
       exact RL.nil ⟨_, rfl, Ch.refl, rfl⟩
      refine Each.consS (fun fl O wk hE hN hO ck => ?_) ?_
      ·
       refine Need.o1 rfl rfl rfl (fun _ h => h) ?_
       refine Need.o1 rfl rfl rfl (fun _ h => h) ?_
       refine Need.o1 rfl rfl rfl (fun _ h => h) ?_
       refine RL.yes rfl rfl rfl hg742 ?_
       refine rl_bin rfl rfl (B.neqB Try.underlying4) rfl ?_
       exact RL.nil ⟨_, rfl, Ch.refl, rfl⟩
      refine Each.consS (fun fl O wk hE hN hO ck => ?_) ?_
      ·
       refine Need.o1 rfl rfl rfl (fun _ h => h) ?_
       refine Need.o1 rfl rfl rfl (fun _ h => h) ?_
       refine rl_pickF rfl hg742 rfl rfl ?_
       exact RL.nil ⟨_, rfl, Ch.refl, congrArg Value.bool hs790⟩
      refine Each.consS (fun fl O wk hE hN hO ck => ?_) ?_
      ·
       refine Need.o1 rfl rfl rfl (fun _ h => h) ?_
       refine rl_move rfl rfl ?_
       exact RL.nil ⟨_, rfl, Ch.refl, rfl⟩
      refine Each.consS (fun fl O wk hE hN hO ck => ?_) ?_
      ·
       refine Need.o1 rfl rfl rfl (fun _ h => h) ?_
       refine RL.yes rfl rfl rfl hg791 ?_
       refine rl_move rfl rfl ?_
       exact RL.nil ⟨_, rfl, Ch.refl, rfl⟩
      refine Each.consS (fun fl O wk hE hN hO ck => ?_) ?_
      ·
       have k103 := k103.ch0 ck
       have h636 := h636.ch0 ck
       have h637 := h637.ch0 ck
       have h638 := h638.ch0 ck
       have k661 := k661.ch0 ck
       have h670 := h670.ch0 ck
       have h671 := h671.ch0 ck
       have k686 := k686.ch0 ck
       have c79 := c79.then0 ck
       refine Need.o1 rfl rfl rfl (fun _ h => h) ?_
       refine Need.o1 rfl rfl rfl (fun _ h => h) ?_
       refine RL.yes rfl rfl rfl hg791 ?_
       have hd859 : ∀ b, (un (inBlk (PV p15)) (un (inBlk z633) (inBlk z634))) b → ¬ (un (inBlk (PV p116)) (un (inBlk (PV p105)) (un (inBlk (PV p90)) (un (inBlk z669) (un (inBlk (PV p31)) nb))))) b := fun b h => un_el h (fun h => (fun b hb => fun h => un_el h (fun h => (disSym d125) b hb h) (fun h => un_el h (fun h => (disSym d113) b hb h) (fun h => un_el h (fun h => (disSym d97) b hb h) (fun h => un_el h (fun h => (disSym d678) b hb h) (fun h => un_el h (fun h => (disSym d61) b hb h) (fun h => h)))))) b h) (fun h => un_el h (fun h => (fun b hb => fun h => un_el h (fun h => d645 b hb h) (fun h => un_el h (fun h => d646 b hb h) (fun h => un_el h (fun h => d647 b hb h) (fun h => un_el h (fun h => (disSym d679) b hb h) (fun h => un_el h (fun h => d649 b hb h) (fun h => h)))))) b h) (fun h => (fun b hb => fun h => un_el h (fun h => d651 b hb h) (fun h => un_el h (fun h => d652 b hb h) (fun h => un_el h (fun h => d653 b hb h) (fun h => un_el h (fun h => (disSym d680) b hb h) (fun h => un_el h (fun h => d655 b hb h) (fun h => h)))))) b h))
       refine rl_callF rfl en12 rfl (ctr12 F wk w.heap.size (un (inBlk (PV p116)) (un (inBlk (PV p105)) (un (inBlk (PV p90)) (un (inBlk z669) (un (inBlk (PV p31)) nb))))) c79.size (un_lt k686.ltp (un_lt k661.ltp (un_lt k103.ltp (un_lt (fun b hb => (h671.lt b hb).2) (un_lt h670.ltp nbS))))) p15 z633 z634 u635 hd859 d641 d642 d643 y631.2.2 h636 h637 h638 y694 hy695) ?_
       rintro _ w861 ⟨rfl, c862⟩
       exact RL.nil ⟨_, rfl, c862, rfl⟩
      refine Each.consS (fun fl O wk hE hN hO ck => ?_) ?_
      ·
       refine Need.o1 rfl rfl rfl (fun _ h => h) ?_
       refine RL.yes rfl rfl rfl hg791 ?_
       refine rl_move rfl rfl ?_
       exact RL.nil ⟨_, rfl, Ch.refl, rfl⟩
      refine Each.consS (fun fl O wk hE hN hO ck => ?_) ?_
      ·
       refine Need.o1 rfl rfl rfl (fun _ h => h) ?_
       refine Need.o1 rfl rfl rfl (fun _ h => h) ?_
       refine RL.yes rfl rfl rfl hg791 ?_
       refine rl_nilCheck rfl rfl ?_
       exact RL.nil ⟨_, rfl, Ch.refl, rfl⟩
      refine Each.consS (fun fl O wk hE hN hO ck => ?_) ?_
      ·
       refine Need.o1 rfl rfl rfl (fun _ h => h) ?_
       refine Need.o1 rfl rfl rfl (fun _ h => h) ?_
       refine RL.yes rfl rfl rfl hg791 ?_
       refine rl_fieldAddr rfl fa30_0 rfl ?_
       exact RL.nil ⟨_, rfl, Ch.refl, rfl⟩
      refine Each.consS (fun fl O wk hE hN hO ck => ?_) ?_
      ·
       have h670 := h670.ch0 ck
       refine Need.o1 rfl rfl rfl (fun _ h => h) ?_
       refine Need.o1 rfl rfl rfl (fun _ h => h) ?_
       refine RL.yes rfl rfl rfl hg791 ?_
       refine rl_loadS (v := z669) rfl Try.isAgg28 (h670.cell rfl) rfl ?_
       exact RL.nil ⟨_, rfl, Ch.refl, rfl⟩
      refine Each.consS (fun fl O wk hE hN hO ck => ?_) ?_
      ·
       have h671 := h671.ch0 ck
       refine Need.o1 rfl rfl rfl (fun _ h => h) ?_
       refine Need.o1 rfl rfl rfl (fun _ h => h) ?_
       refine RL.yes rfl rfl rfl hg791 ?_
       refine rl_lenR rfl (SlO.read (S' := (un (inBlk (PV p116)) (un (inBlk (PV p105)) (un (inBlk (PV p90)) (un (inBlk (PV p31)) (un (inBlk (PV p15)) (un (inBlk z633) (un (inBlk z634) nb)))))))) k_A2Key_pos h671 (fun b hs h => hs (un_el h (fun h => (.inl h)) (fun h => un_el h (fun h => (.inr (.inl h))) (fun h => un_el h (fun h => (.inr (.inr (.inl h)))) (fun h => un_el h (fun h => (.inr (.inr (.inr (.inr (.inl h)))))) (fun h => un_el h (fun h => (.inr (.inr (.inr (.inr (.inr (.inl h))))))) (fun h => un_el h (fun h => (.inr (.inr (.inr (.inr (.inr (.inr (.inl h)))))))) (fun h => un_el h (fun h => (.inr (.inr (.inr (.inr (.inr (.inr (.inr (.inl h))))))))) (fun h => False.elim h))))))))) (fun b hb => fun h => un_el h (fun h => d675 b hb h) (fun h => un_el h (fun h => d676 b hb h) (fun h => un_el h (fun h => d677 b hb h) (fun h => un_el h (fun h => (disSym d673) b hb h) (fun h => un_el h (fun h => d678 b hb h) (fun h => un_el h (fun h => d679 b hb h) (fun h => un_el h (fun h => d680 b hb h) (fun h => h))))))))) Try.underlying28 rfl ?_
       exact RL.nil ⟨_, rfl, Ch.refl, rfl⟩
      refine Each.consS (fun fl O wk hE hN hO ck => ?_) ?_
      ·
       refine Need.o1 rfl rfl rfl (fun _ h => h) ?_
       refine Need.o1 rfl rfl rfl (fun _ h => h) ?_
       refine Need.o1 rfl rfl rfl (fun _ h => h) ?_
       refine RL.yes rfl rfl rfl hg791 ?_
       refine rl_bin rfl rfl B.neq rfl ?_
       exact RL.nil ⟨_, rfl, Ch.refl, rfl⟩
      refine Each.consS (fun fl O wk hE hN hO ck => ?_) ?_
      ·
       refine Need.o1 rfl rfl rfl (fun _ h => h) ?_
       refine Need.o1 rfl rfl rfl (fun _ h => h) ?_
       refine rl_pickF rfl hg791 rfl rfl ?_
       exact RL.nil ⟨_, rfl, Ch.refl, congrArg Value.bool hs841⟩
      refine Each.consS (fun fl O wk hE hN hO ck => ?_) ?_
      ·
       refine Need.o1 rfl rfl rfl (fun _ h => h) ?_
       refine rl_move rfl rfl ?_
       exact RL.nil ⟨_, rfl, Ch.refl, rfl⟩
      refine Each.consS (fun fl O wk hE hN hO ck => ?_) ?_
      ·
       refine Need.o1 rfl rfl rfl (fun _ h => h) ?_
       refine RL.no rfl rfl rfl hg842 rfl rfl ?_
       exact RL.nil ⟨_, rfl, Ch.refl, rfl⟩
      refine Each.consS (fun fl O wk hE hN hO ck => ?_) ?_
      ·
       refine Need.o1 rfl rfl rfl (fun _ h => h) ?_
       refine RL.no rfl rfl rfl hg842 rfl rfl ?_
       exact RL.nil ⟨_, rfl, Ch.refl, rfl⟩
      refine Each.consS (fun fl O wk hE hN hO ck => ?_) ?_
      ·
       refine Need.o1 rfl rfl rfl (fun _ h => h) ?_
       refine RL.no rfl rfl rfl hg842 rfl rfl ?_
       exact RL.nil ⟨_, rfl, Ch.refl, rfl⟩
      refine Each.consS (fun fl O wk hE hN hO ck => ?_) ?_
      ·
       refine Need.o1 rfl rfl rfl (fun _ h => h) ?_
       refine RL.no rfl rfl rfl hg842 rfl rfl ?_
       exact RL.nil ⟨_, rfl, Ch.refl, rfl⟩
      refine Each.consS (fun fl O wk hE hN hO ck => ?_) ?_
      ·
       refine Need.o1 rfl rfl rfl (fun _ h => h) ?_
       refine RL.no rfl rfl rfl hg842 rfl rfl ?_
       exact RL.nil ⟨_, rfl, Ch.refl, rfl⟩
      refine Each.consS (fun fl O wk hE hN hO ck => ?_) ?_
      ·
       refine Need.o1 rfl rfl rfl (fun _ h => h) ?_
       refine RL.no rfl rfl rfl hg842 rfl rfl ?_
       exact RL.nil ⟨_, rfl, Ch.refl, rfl⟩
      refine Each.consS (fun fl O wk hE hN hO ck => ?_) ?_
      ·
       refine Need.o1 rfl rfl rfl (fun _ h => h) ?_
       refine rl_pickT rfl hg842 rfl rfl ?_
       exact RL.nil ⟨_, rfl, Ch.refl, congrArg Value.bool (Option.some.inj hs843)⟩
      refine Each.consS (fun fl O wk hE hN hO ck => ?_) ?_
      ·
       refine Need.o1 rfl rfl rfl (fun _ h => h) ?_
       refine rl_move rfl rfl ?_
       exact RL.nil ⟨_, rfl, Ch.refl, rfl⟩
      refine Each.consS (fun fl O wk hE hN hO ck => ?_) ?_
      ·
       refine Need.o1 rfl rfl rfl (fun _ h => h) ?_
       refine RL.no rfl rfl rfl (Option.some.inj hs843).symm rfl rfl ?_
       exact RL.nil ⟨_, rfl, Ch.refl, rfl⟩
      refine Each.consS (fun fl O wk hE hN hO ck => ?_) ?_
      ·
       refine Need.o1 rfl rfl rfl (fun _ h => h) ?_
       refine RL.no rfl rfl rfl (Option.some.inj hs843).symm rfl rfl ?_
       exact RL.nil ⟨_, rfl, Ch.refl, rfl⟩
      refine Each.consS (fun fl O wk hE hN hO ck => ?_) ?_
      ·
       refine Need.o1 rfl rfl rfl (fun _ h => h) ?_
       refine RL.no rfl rfl rfl (Option.some.inj hs843).symm rfl rfl ?_
       exact RL.nil ⟨_, rfl, Ch.refl, rfl⟩
      refine Each.consS (fun fl O wk hE hN hO ck => ?_) ?_
      ·
       refine Need.o1 rfl rfl rfl (fun _ h => h) ?_
       refine RL.no rfl rfl rfl (Option.some.inj hs843).symm rfl rfl ?_
       exact RL.nil ⟨_, rfl, Ch.refl, rfl⟩
      refine Each.consS (fun fl O wk hE hN hO ck => ?_) ?_
      ·
       refine Need.o1 rfl rfl rfl (fun _ h => h) ?_
       refine RL.no rfl rfl rfl (Option.some.inj hs843).symm rfl rfl ?_
       exact RL.nil ⟨_, rfl, Ch.refl, rfl⟩
      refine Each.consS (fun fl O wk hE hN hO ck => ?_) ?_
      ·
       refine Need.o1 rfl rfl rfl (fun _ h => h) ?_
       refine RL.no rfl rfl rfl (Option.some.inj hs843).symm rfl rfl ?_
       exact RL.nil ⟨_, rfl, Ch.refl, rfl⟩
      refine Each.consS (fun fl O wk hE hN hO ck => ?_) ?_
      ·
       refine Need.o1 rfl rfl rfl (fun _ h => h) ?_
       refine RL.no rfl rfl rfl (Option.some.inj hs843).symm rfl rfl ?_
       exact RL.nil ⟨_, rfl, Ch.refl, rfl⟩
      refine Each.consS (fun fl O wk hE hN hO ck => ?_) ?_
      ·
       refine Need.o1 rfl rfl rfl (fun _ h => h) ?_
       refine RL.no rfl rfl rfl (Option.some.inj hs843).symm rfl rfl ?_
       exact RL.nil ⟨_, rfl, Ch.refl, rfl⟩
      refine Each.consS (fun fl O wk hE hN hO ck => ?_) ?_
      ·
       refine Need.o1 rfl rfl rfl (fun _ h => h) ?_
       refine RL.no rfl rfl rfl (Option.some.inj hs843).symm rfl rfl ?_
       exact RL.nil ⟨_, rfl, Ch.refl, rfl⟩
      refine Each.consS (fun fl O wk hE hN hO ck => ?_) ?_
      ·
       refine Need.o1 rfl rfl rfl (fun _ h => h) ?_
       refine RL.no rfl rfl rfl (Option.some.inj hs843).symm rfl rfl ?_
       exact RL.nil ⟨_, rfl, Ch.refl, rfl⟩
      refine Each.consS (fun fl O wk hE hN hO ck => ?_) ?_
      ·
       refine Need.o1 rfl rfl rfl (fun _ h => h) ?_
       refine rl_pickT rfl (Option.some.inj hs843).symm rfl rfl ?_
       exact RL.nil ⟨_, rfl, Ch.refl, congrArg Value.bool (Option.some.inj hs844)⟩
      trivial
     intro hvO899 OpO899 O899 w897 hO900 c898 hN901
     refine Need.o1 rfl rfl rfl (fun _ h => h) ?_
     exact RL.nil ⟨rfl, ⟨rfl, rfl, rfl, rfl, rfl, rfl, rfl, rfl, rfl, trivial⟩, c898⟩
    have hs903 := orO_f hg842 hb719
    obtain ⟨y702, hy703, hs903⟩ := bindS hs903
    obtain ⟨y710, hy711, hs903⟩ := bindS hs903
    obtain ⟨y716, hy717, hs903⟩ := bindS hs903
    rcases Bool.eq_false_or_eq_true b718 with hg904 | hg904
    ·
     have hs905 := orO_t hg904 hb741
     refine CW.draw 38 [(none, fun fx O uu wx => uu = (Value.agg (Key.enc y631.1).toArray)), (none, fun fx O uu wx => uu = (Value.agg (Key.enc y667.1).toArray)), (none, fun fx O uu wx => uu = (Value.bool (!decide (y631.1 = y667.1)))), (none, fun fx O uu wx => uu = (Value.bool (!decide (y631.1 = y667.1)))), (none, fun fx O uu wx => uu = (Value.bool y631.2.1)), (none, fun fx O uu wx => uu = (Value.bool y667.2.1)), (none, fun fx O uu wx => uu = (Value.bool (!(y631.2.1 == y667.2.1)))), (none, fun fx O uu wx => uu = (Value.bool b688)), (none, fun fx O uu wx => uu = (Value.bool b688)), (none, fun fx O uu wx => uu = (PV p15)), (none, fun fx O uu wx => uu = (Value.int .i64 y694)), (none, fun fx O uu wx => uu = (PV p31)), (none, fun fx O uu wx => uu = (PV p31)), (none, fun fx O uu wx => uu = (PV p31)), (none, fun fx O uu wx => uu = z669), (none, fun fx O uu wx => uu = (Value.int .i64 ((y667.2.2.all.length : Nat) : Int))), (none, fun fx O uu wx => uu = (Value.bool (!decide (y694 = ((y667.2.2.all.length : Nat) : Int))))), (none, fun fx O uu wx => uu = (Value.bool b696)), (none, fun fx O uu wx => uu = (Value.bool b696)), (none, fun fx O uu wx => uu = (PV p15)), (none, fun fx O uu wx => ∃ (v704 : Value), uu = v704 ∧ slRep k_Key (G F w.heap.size (un (inBlk (PV p116)) (un (inBlk (PV p105)) (un (inBlk (PV p90)) (un (inBlk z669) (un (inBlk (PV p31)) (un (inBlk (PV p15)) (un (inBlk z633) (un (inBlk z634) nb))))))))) wx y702 v704), (none, fun fx O uu wx => uu = (PV p31)), (none, fun fx O uu wx => ∃ (v712 : Value), uu = v712 ∧ slRep k_Key (G F w.heap.size (un (inBlk (PV p116)) (un (inBlk (PV p105)) (un (inBlk (PV p90)) (un (inBlk z669) (un (inBlk (PV p31)) (un (inBlk (PV p15)) (un (inBlk z633) (un (inBlk z634) nb))))))))) wx y710 v712), (none, fun fx O uu wx => uu = (Value.bool y716)), (none, fun fx O uu wx => uu = (Value.bool (!y716))), (none, fun fx O uu wx => uu = (Value.bool b718)), (none, fun fx O uu wx => uu = (Value.bool b718)), (none, fun _ O uu wx => uu = undef), (none, fun _ O uu wx => uu = undef), (none, fun _ O uu wx => uu = undef), (none, fun _ O uu wx => uu = undef), (none, fun _ O uu wx => uu = undef), (none, fun _ O uu wx => uu = undef), (none, fun _ O uu wx => uu = undef), (none, fun _ O uu wx => uu = undef), (none, fun _ O uu wx => uu = undef), (none, fun _ O uu wx => uu = undef), (none, fun fx O uu wx => uu = (Value.bool b740))] [[], [], [0, 1], [2], [3], [3], [3, 4, 5], [3, 6], [7], [8], [8, 9], [8], [8, 11], [8, 12], [8, 13], [8, 14], [8, 10, 15], [8, 16], [17], [18], [18, 19], [18], [18, 21], [18, 20, 22], [18, 23], [18, 24], [25], [26], [26], [26], [26], [26], [26], [26], [26], [26], [26], [26]] [37] nb (fun _ h => h.elim) mixed rfl rfl rfl rfl ?_ ?_
     ·
      refine Each.consS (fun fl O wk hE hN hO ck => ?_) ?_
      ·
       have k661 := k661.ch0 ck
       refine rl_loadA (cs := (Key.enc y631.1)) rfl Try.isAgg32 Try.sizeOf32 (k661.segAt 0 2) rfl rfl ?_
       exact RL.nil ⟨_, rfl, Ch.refl, rfl⟩
      refine Each.consS (fun fl O wk hE hN hO ck => ?_) ?_
      ·
       have k686 := k686.ch0 ck
       refine rl_loadA (cs := (Key.enc y667.1)) rfl Try.isAgg32 Try.sizeOf32 (k686.segAt 0 2) rfl rfl ?_
       exact RL.nil ⟨_, rfl, Ch.refl, rfl⟩
      refine Each.consS (fun fl O wk hE hN hO ck => ?_) ?_
      ·
       refine Need.o1 rfl rfl rfl (fun _ h => h) ?_
       refine Need.o1 rfl rfl rfl (fun _ h => h) ?_
       refine rl_bin rfl rfl (neq32 y631.1 y667.1) rfl ?_
       exact RL.nil ⟨_, rfl, Ch.refl, rfl⟩
      refine Each.consS (fun fl O wk hE hN hO ck => ?_) ?_
      ·
       refine Need.o1 rfl rfl rfl (fun _ h => h) ?_
       refine rl_move rfl rfl ?_
       exact RL.nil ⟨_, rfl, Ch.refl, rfl⟩
      refine Each.consS (fun fl O wk hE hN hO ck => ?_) ?_
      ·
       refine Need.o1 rfl rfl rfl (fun _ h => h) ?_
       refine RL.yes rfl rfl rfl hg742 ?_
       refine rl_move rfl rfl ?_
       exact RL.nil ⟨_, rfl, Ch.refl, rfl⟩
      refine Each.consS (fun fl O wk hE hN hO ck => ?_) ?_
      ·
       refine Need.o1 rfl rfl rfl (fun _ h => h) ?_
       refine RL.yes rfl rfl rfl hg742 ?_
       refine rl_move rfl rfl ?_
       exact RL.nil ⟨_, rfl, Ch.refl, rfl⟩
      refine Each.consS (fun fl O wk hE hN hO ck => ?_) ?_
      ·
       refine Need.o1 rfl rfl rfl (fun _ h => h) ?_
       refine Need.o1 rfl rfl rfl (fun _ h => h) ?_
       refine Need.o1 rfl rfl rfl (fun _ h => h) ?_
       refine RL.yes rfl rfl rfl hg742 ?_
       refine rl_bin rfl rfl (B.neqB Try.underlying4) rfl ?_
       exact RL.nil ⟨_, rfl, Ch.refl, rfl⟩
      refine Each.consS (fun fl O wk hE hN hO ck => ?_) ?_
      ·
       refine Need.o1 rfl rfl rfl (fun _ h => h) ?_
       refine Need.o1 rfl rfl rfl (fun _ h => h) ?_
       refine rl_pickF rfl hg742 rfl rfl ?_
       exact RL.nil ⟨_, rfl, Ch.refl, congrArg Value.bool hs790⟩
      refine Each.consS (fun fl O wk hE hN hO ck => ?_) ?_
      ·
       refine Need.o1 rfl rfl rfl (fun _ h => h) ?_
       refine rl_move rfl rfl ?_
       exact RL.nil ⟨_, rfl, Ch.refl, rfl⟩
      refine Each.consS (fun fl O wk hE hN hO ck => ?_) ?_
      ·
       refine Need.o1 rfl rfl rfl (fun _ h => h) ?_
       refine RL.yes rfl rfl rfl hg791 ?_
       refine rl_move rfl rfl ?_
       exact RL.nil ⟨_, rfl, Ch.refl, rfl⟩
      refine Each.consS (fun fl O wk hE hN hO ck => ?_) ?_
      ·
       have k103 := k103.ch0 ck
       have h636 := h636.ch0 ck
       have h637 := h637.ch0 ck
       have h638 := h638.ch0 ck
       have k661 := k661.ch0 ck
       have h670 := h670.ch0 ck
       have h671 := h671.ch0 ck
       have k686 := k686.ch0 ck
       have c79 := c79.then0 ck
       refine Need.o1 rfl rfl rfl (fun _ h => h) ?_
       refine Need.o1 rfl rfl rfl (fun _ h => h) ?_
       refine RL.yes rfl rfl rfl hg791 ?_
       have hd920 : ∀ b, (un (inBlk (PV p15)) (un (inBlk z633) (inBlk z634))) b → ¬ (un (inBlk (PV p116)) (un (inBlk (PV p105)) (un (inBlk (PV p90)) (un (inBlk z669) (un (inBlk (PV p31)) nb))))) b := fun b h => un_el h (fun h => (fun b hb => fun h => un_el h (fun h => (disSym d125) b hb h) (fun h => un_el h (fun h => (disSym d113) b hb h) (fun h => un_el h (fun h => (disSym d97) b hb h) (fun h => un_el h (fun h => (disSym d678) b hb h) (fun h => un_el h (fun h => (disSym d61) b hb h) (fun h => h)))))) b h) (fun h => un_el h (fun h => (fun b hb => fun h => un_el h (fun h => d645 b hb h) (fun h => un_el h (fun h => d646 b hb h) (fun h => un_el h (fun h => d647 b hb h) (fun h => un_el h (fun h => (disSym d679) b hb h) (fun h => un_el h (fun h => d649 b hb h) (fun h => h)))))) b h) (fun h => (fun b hb => fun h => un_el h (fun h => d651 b hb h) (fun h => un_el h (fun h => d652 b hb h) (fun h => un_el h (fun h => d653 b hb h) (fun h => un_el h (fun h => (disSym d680) b hb h) (fun h => un_el h (fun h => d655 b hb h) (fun h => h)))))) b h))
       refine rl_callF rfl en12 rfl (ctr12 F wk w.heap.size (un (inBlk (PV p116)) (un (inBlk (PV p105)) (un (inBlk (PV p90)) (un (inBlk z669) (un (inBlk (PV p31)) nb))))) c79.size (un_lt k686.ltp (un_lt k661.ltp (un_lt k103.ltp (un_lt (fun b hb => (h671.lt b hb).2) (un_lt h670.ltp nbS))))) p15 z633 z634 u635 hd920 d641 d642 d643 y631.2.2 h636 h637 h638 y694 hy695) ?_
       rintro _ w922 ⟨rfl, c923⟩
       exact RL.nil ⟨_, rfl, c923, rfl⟩
      refine Each.consS (fun fl O wk hE hN hO ck => ?_) ?_
      ·
       refine Need.o1 rfl rfl rfl (fun _ h => h) ?_
       refine RL.yes rfl rfl rfl hg791 ?_
       refine rl_move rfl rfl ?_
       exact RL.nil ⟨_, rfl, Ch.refl, rfl⟩
      refine Each.consS (fun fl O wk hE hN hO ck => ?_) ?_
      ·
       refine Need.o1 rfl rfl rfl (fun _ h => h) ?_
       refine Need.o1 rfl rfl rfl (fun _ h => h) ?_
       refine RL.yes rfl rfl rfl hg791 ?_
       refine rl_nilCheck rfl rfl ?_
       exact RL.nil ⟨_, rfl, Ch.refl, rfl⟩
      refine Each.consS (fun fl O wk hE hN hO ck => ?_) ?_
      ·
       refine Need.o1 rfl rfl rfl (fun _ h => h) ?_
       refine Need.o1 rfl rfl rfl (fun _ h => h) ?_
       refine RL.yes rfl rfl rfl hg791 ?_
       refine rl_fieldAddr rfl fa30_0 rfl ?_
       exact RL.nil ⟨_, rfl, Ch.refl, rfl⟩
      refine Each.consS (fun fl O wk hE hN hO ck => ?_) ?_
      ·
       have h670 := h670.ch0 ck
       refine Need.o1 rfl rfl rfl (fun _ h => h) ?_
       refine Need.o1 rfl rfl rfl (fun _ h => h) ?_
       refine RL.yes rfl rfl rfl hg791 ?_
       refine rl_loadS (v := z669) rfl Try.isAgg28 (h670.cell rfl) rfl ?_
       exact RL.nil ⟨_, rfl, Ch.refl, rfl⟩
      refine Each.consS (fun fl O wk hE hN hO ck => ?_) ?_
      ·
       have h671 := h671.ch0 ck
       refine Need.o1 rfl rfl rfl (fun _ h => h) ?_
       refine Need.o1 rfl rfl rfl (fun _ h => h) ?_
       refine RL.yes rfl rfl rfl hg791 ?_
       refine rl_lenR rfl (SlO.read (S' := (un (inBlk (PV p116)) (un (inBlk (PV p105)) (un (inBlk (PV p90)) (un (inBlk (PV p31)) (un (inBlk (PV p15)) (un (inBlk z633) (un (inBlk z634) nb)))))))) k_A2Key_pos h671 (fun b hs h => hs (un_el h (fun h => (.inl h)) (fun h => un_el h (fun h => (.inr (.inl h))) (fun h => un_el h (fun h => (.inr (.inr (.inl h)))) (fun h => un_el h (fun h => (.inr (.inr (.inr (.inr (.inl h)))))) (fun h => un_el h (fun h => (.inr (.inr (.inr (.inr (.inr (.inl h))))))) (fun h => un_el h (fun h => (.inr (.inr (.inr (.inr (.inr (.inr (.inl h)))))))) (fun h => un_el h (fun h => (.inr (.inr (.inr (.inr (.inr (.inr (.inr (.inl h))))))))) (fun h => False.elim h))))))))) (fun b hb => fun h => un_el h (fun h => d675 b hb h) (fun h => un_el h (fun h => d676 b hb h) (fun h => un_el h (fun h => d677 b hb h) (fun h => un_el h (fun h => (disSym d673) b hb h) (fun h => un_el h (fun h => d678 b hb h) (fun h => un_el h (fun h => d679 b hb h) (fun h => un_el h (fun h => d680 b hb h) (fun h => h))))))))) Try.underlying28 rfl ?_
       exact RL.nil ⟨_, rfl, Ch.refl, rfl⟩
      refine Each.consS (fun fl O wk hE hN hO ck => ?_) ?_
      ·
       refine Need.o1 rfl rfl rfl (fun _ h => h) ?_
       refine Need.o1 rfl rfl rfl (fun _ h => h) ?_
       refine Need.o1 rfl rfl rfl (fun _ h => h) ?_
       refine RL.yes rfl rfl rfl hg791 ?_
       refine rl_bin rfl rfl B.neq rfl ?_
       exact RL.nil ⟨_, rfl, Ch.refl, rfl⟩
      refine Each.consS (fun fl O wk hE hN hO ck => ?_) ?_
      ·
       refine Need.o1 rfl rfl rfl (fun _ h => h) ?_
       refine Need.o1 rfl rfl rfl (fun _ h => h) ?_
       refine rl_pickF rfl hg791 rfl rfl ?_
       exact RL.nil ⟨_, rfl, Ch.refl, congrArg Value.bool hs841⟩
      refine Each.consS (fun fl O wk hE hN hO ck => ?_) ?_
      ·
       refine Need.o1 rfl rfl rfl (fun _ h => h) ?_
       refine rl_move rfl rfl ?_
       exact RL.nil ⟨_, rfl, Ch.refl, rfl⟩
      refine Each.consS (fun fl O wk hE hN hO ck => ?_) ?_
      ·
       refine Need.o1 rfl rfl rfl (fun _ h => h) ?_
       refine RL.yes rfl rfl rfl hg842 ?_
       refine rl_move rfl rfl ?_
       exact RL.nil ⟨_, rfl, Ch.refl, rfl⟩
      refine Each.consA ⟨fun _ _ _ _ _ cc hh => by obtain ⟨v704, e, h705⟩ := hh; exact ⟨v704, e, slRep.ch k_Key_pos h705 cc⟩, fun h => absurd rfl h, fun fl O wk hE hN hO ck => ?_⟩ ?_
      ·
       have k103 := k103.ch0 ck
       have h636 := h636.ch0 ck
       have h637 := h637.ch0 ck
       have h638 := h638.ch0 ck
       have k661 := k661.ch0 ck
       have h670 := h670.ch0 ck
       have h671 := h671.ch0 ck
       have k686 := k686.ch0 ck
       have c79 := c79.then0 ck
       refine Need.o1 rfl rfl rfl (fun _ h => h) ?_
       refine Need.o1 rfl rfl rfl (fun _ h => h) ?_
       refine RL.yes rfl rfl rfl hg842 ?_
       have hd942 : ∀ b, (un (inBlk (PV p15)) (un (inBlk z633) (inBlk z634))) b → ¬ (un (inBlk (PV p116)) (un (inBlk (PV p105)) (un (inBlk (PV p90)) (un (inBlk z669) (un (inBlk (PV p31)) nb))))) b := fun b h => un_el h (fun h => (fun b hb => fun h => un_el h (fun h => (disSym d125) b hb h) (fun h => un_el h (fun h => (disSym d113) b hb h) (fun h => un_el h (fun h => (disSym d97) b hb h) (fun h => un_el h (fun h => (disSym d678) b hb h) (fun h => un_el h (fun h => (disSym d61) b hb h) (fun h => h)))))) b h) (fun h => un_el h (fun h => (fun b hb => fun h => un_el h (fun h => d645 b hb h) (fun h => un_el h (fun h => d646 b hb h) (fun h => un_el h (fun h => d647 b hb h) (fun h => un_el h (fun h => (disSym d679) b hb h) (fun h => un_el h (fun h => d649 b hb h) (fun h => h)))))) b h) (fun h => (fun b hb => fun h => un_el h (fun h => d651 b hb h) (fun h => un_el h (fun h => d652 b hb h) (fun h => un_el h (fun h => d653 b hb h) (fun h => un_el h (fun h => (disSym d680) b hb h) (fun h => un_el h (fun h => d655 b hb h) (fun h => h)))))) b h))
       have hS943 : (un (inBlk (PV p116)) (un (inBlk (PV p105)) (un (inBlk (PV p90)) (un (inBlk z669) (un (inBlk (PV p31)) (un (inBlk (PV p15)) (un (inBlk z633) (un (inBlk z634) nb)))))))) = (un (inBlk (PV p15)) (un (inBlk z633) (un (inBlk z634) (un (inBlk (PV p116)) (un (inBlk (PV p105)) (un (inBlk (PV p90)) (un (inBlk z669) (un (inBlk (PV p31)) nb)))))))) := funext fun b => propext ⟨fun h => un_el h (fun h => (.inr (.inr (.inr (.inl h))))) (fun h => un_el h (fun h => (.inr (.inr (.inr (.inr (.inl h)))))) (fun h => un_el h (fun h => (.inr (.inr (.inr (.inr (.inr (.inl h))))))) (fun h => un_el h (fun h => (.inr (.inr (.inr (.inr (.inr (.inr (.inl h)))))))) (fun h => un_el h (fun h => (.inr (.inr (.inr (.inr (.inr (.inr (.inr (.inl h))))))))) (fun h => un_el h (fun h => (.inl h)) (fun h => un_el h (fun h => (.inr (.inl h))) (fun h => un_el h (fun h => (.inr (.inr (.inl h)))) (fun h => False.elim h)))))))), fun h => un_el h (fun h => (.inr (.inr (.inr (.inr (.inr (.inl h))))))) (fun h => un_el h (fun h => (.inr (.inr (.inr (.inr (.inr (.inr (.inl h)))))))) (fun h => un_el h (fun h => (.inr (.inr (.inr (.inr (.inr (.inr (.inr (.inl h))))))))) (fun h => un_el h (fun h => (.inl h)) (fun h => un_el h (fun h => (.inr (.inl h))) (fun h => un_el h (fun h => (.inr (.inr (.inl h)))) (fun h => un_el h (fun h => (.inr (.inr (.inr (.inl h))))) (fun h => un_el h (fun h => (.inr (.inr (.inr (.inr (.inl h)))))) (fun h => False.elim h))))))))⟩
       refine rl_callF rfl en14 rfl (ctr14 F wk w.heap.size (un (inBlk (PV p116)) (un (inBlk (PV p105)) (un (inBlk (PV p90)) (un (inBlk z669) (un (inBlk (PV p31)) nb))))) c79.size (un_lt k686.ltp (un_lt k661.ltp (un_lt k103.ltp (un_lt (fun b hb => (h671.lt b hb).2) (un_lt h670.ltp nbS))))) p15 z633 z634 u635 hd942 d641 d642 d643 y631.2.2 h636 h637 h638 y702 hy703) ?_
       rintro v946 w944 ⟨_, rfl, h947, c945⟩
       rw [← hS943] at h947
       have h947 := SlO.backR k_Key_pos h947 (un_lt k686.ltp (un_lt k661.ltp (un_lt k103.ltp (un_lt (fun b hb => (h671.lt b hb).2) (un_lt h670.ltp (un_lt h636.ltp (un_lt h637.ltp (un_lt h638.ltp nbS)))))))) c79.size
       exact RL.nil ⟨_, rfl, c945, ⟨v946, rfl, h947⟩⟩
      refine Each.consS (fun fl O wk hE hN hO ck => ?_) ?_
      ·
       refine Need.o1 rfl rfl rfl (fun _ h => h) ?_
       refine RL.yes rfl rfl rfl hg842 ?_
       refine rl_move rfl rfl ?_
       exact RL.nil ⟨_, rfl, Ch.refl, rfl⟩
      refine Each.consA ⟨fun _ _ _ _ _ cc hh => by obtain ⟨v712, e, h713⟩ := hh; exact ⟨v712, e, slRep.ch k_Key_pos h713 cc⟩, fun h => absurd rfl h, fun fl O wk hE hN hO ck => ?_⟩ ?_
      ·
       have k103 := k103.ch0 ck
       have h636 := h636.ch0 ck
       have h637 := h637.ch0 ck
       have h638 := h638.ch0 ck
       have k661 := k661.ch0 ck
       have h670 := h670.ch0 ck
       have h671 := h671.ch0 ck
       have k686 := k686.ch0 ck
       have c79 := c79.then0 ck
       refine Need.o1 rfl rfl rfl (fun _ h => h) ?_
       refine Need.o1 rfl rfl rfl (fun _ h => h) ?_
       refine RL.yes rfl rfl rfl hg842 ?_
       have hd951 : ∀ b, (un (inBlk (PV p31)) (inBlk z669)) b → ¬ (un (inBlk (PV p116)) (un (inBlk (PV p105)) (un (inBlk (PV p90)) (un (inBlk (PV p15)) (un (inBlk z633) (un (inBlk z634) nb)))))) b := fun b h => un_el h (fun h => (fun b hb => fun h => un_el h (fun h => (disSym d124) b hb h) (fun h => un_el h (fun h => (disSym d112) b hb h) (fun h => un_el h (fun h => (disSym d96) b hb h) (fun h => un_el h (fun h => d61 b hb h) (fun h => un_el h (fun h => (disSym d649) b hb h) (fun h => un_el h (fun h => (disSym d655) b hb h) (fun h => h))))))) b h) (fun h => (fun b hb => fun h => un_el h (fun h => d675 b hb h) (fun h => un_el h (fun h => d676 b hb h) (fun h => un_el h (fun h => d677 b hb h) (fun h => un_el h (fun h => d678 b hb h) (fun h => un_el h (fun h => d679 b hb h) (fun h => un_el h (fun h => d680 b hb h) (fun h => h))))))) b h)
       have hS952 : (un (inBlk (PV p116)) (un (inBlk (PV p105)) (un (inBlk (PV p90)) (un (inBlk z669) (un (inBlk (PV p31)) (un (inBlk (PV p15)) (un (inBlk z633) (un (inBlk z634) nb)))))))) = (un (inBlk (PV p31)) (un (inBlk z669) (un (inBlk (PV p116)) (un (inBlk (PV p105)) (un (inBlk (PV p90)) (un (inBlk (PV p15)) (un (inBlk z633) (un (inBlk z634) nb)))))))) := funext fun b => propext ⟨fun h => un_el h (fun h => (.inr (.inr (.inl h)))) (fun h => un_el h (fun h => (.inr (.inr (.inr (.inl h))))) (fun h => un_el h (fun h => (.inr (.inr (.inr (.inr (.inl h)))))) (fun h => un_el h (fun h => (.inr (.inl h))) (fun h => un_el h (fun h => (.inl h)) (fun h => un_el h (fun h => (.inr (.inr (.inr (.inr (.inr (.inl h))))))) (fun h => un_el h (fun h => (.inr (.inr (.inr (.inr (.inr (.inr (.inl h)))))))) (fun h => un_el h (fun h => (.inr (.inr (.inr (.inr (.inr (.inr (.inr (.inl h))))))))) (fun h => False.elim h)))))))), fun h => un_el h (fun h => (.inr (.inr (.inr (.inr (.inl h)))))) (fun h => un_el h (fun h => (.inr (.inr (.inr (.inl h))))) (fun h => un_el h (fun h => (.inl h)) (fun h => un_el h (fun h => (.inr (.inl h))) (fun h => un_el h (fun h => (.inr (.inr (.inl h)))) (fun h => un_el h (fun h => (.inr (.inr (.inr (.inr (.inr (.inl h))))))) (fun h => un_el h (fun h => (.inr (.inr (.inr (.inr (.inr (.inr (.inl h)))))))) (fun h => un_el h (fun h => (.inr (.inr (.inr (.inr (.inr (.inr (.inr (.inl h))))))))) (fun h => False.elim h))))))))⟩
       refine rl_callF rfl en15 rfl (ctr15 F wk w.heap.size (un (inBlk (PV p116)) (un (inBlk (PV p105)) (un (inBlk (PV p90)) (un (inBlk (PV p15)) (un (inBlk z633) (un (inBlk z634) nb)))))) c79.size (un_lt k686.ltp (un_lt k661.ltp (un_lt k103.ltp (un_lt h636.ltp (un_lt h637.ltp (un_lt h638.ltp nbS)))))) p31 z669 hd951 d673 y667.2.2 h670 (hS952 ▸ h671) y710 hy711) ?_
       rintro v955 w953 ⟨_, rfl, h956, c954⟩
       rw [← hS952] at h956
       have h956 := SlO.backR k_Key_pos h956 (un_lt k686.ltp (un_lt k661.ltp (un_lt k103.ltp (un_lt (fun b hb => (h671.lt b hb).2) (un_lt h670.ltp (un_lt h636.ltp (un_lt h637.ltp (un_lt h638.ltp nbS)))))))) c79.size
       exact RL.nil ⟨_, rfl, c954, ⟨v955, rfl, h956⟩⟩
      refine Each.consS (fun fl O wk hE hN hO ck => ?_) ?_
      ·
       refine Need.o1 rfl rfl rfl (fun _ h => h) ?_
       refine Need.one rfl rfl rfl ?_
       rintro _ ⟨v704, e958, h705⟩
       obtain rfl := e958.symm
       refine Need.one rfl rfl rfl ?_
       rintro _ ⟨v712, e959, h713⟩
       obtain rfl := e959.symm
       refine RL.yes rfl rfl rfl hg842 ?_
       refine rl_callF rfl en13 rfl (ctr13 (G F w.heap.size (un (inBlk (PV p116)) (un (inBlk (PV p105)) (un (inBlk (PV p90)) (un (inBlk z669) (un (inBlk (PV p31)) (un (inBlk (PV p15)) (un (inBlk z633) (un (inBlk z634) nb))))))))) wk y702 v704 h705 y710 v712 h713 y716 hy717) ?_
       rintro _ w960 ⟨rfl, c961⟩
       exact RL.nil ⟨_, rfl, c961, rfl⟩
      refine Each.consS (fun fl O wk hE hN hO ck => ?_) ?_
      ·
       refine Need.o1 rfl rfl rfl (fun _ h => h) ?_
       refine Need.o1 rfl rfl rfl (fun _ h => h) ?_
       refine RL.yes rfl rfl rfl hg842 ?_
       refine rl_not rfl rfl ?_
       exact RL.nil ⟨_, rfl, Ch.refl, rfl⟩
      refine Each.consS (fun fl O wk hE hN hO ck => ?_) ?_
      ·
       refine Need.o1 rfl rfl rfl (fun _ h => h) ?_
       refine Need.o1 rfl rfl rfl (fun _ h => h) ?_
       refine rl_pickF rfl hg842 rfl rfl ?_
       exact RL.nil ⟨_, rfl, Ch.refl, congrArg Value.bool (Option.some.inj hs903)⟩
      refine Each.consS (fun fl O wk hE hN hO ck => ?_) ?_
      ·
       refine Need.o1 rfl rfl rfl (fun _ h => h) ?_
       refine rl_move rfl rfl ?_
       exact RL.nil ⟨_, rfl, Ch.refl, rfl⟩
      refine Each.consS (fun fl O wk hE hN hO ck => ?_) ?_
      ·
       refine Need.o1 rfl rfl rfl (fun _ h => h) ?_
       refine RL.no rfl rfl rfl hg904 rfl rfl ?_
       exact RL.nil ⟨_, rfl, Ch.refl, rfl⟩
      refine Each.consS (fun fl O wk hE hN hO ck => ?_) ?_
      ·
       refine Need.o1 rfl rfl rfl (fun _ h => h) ?_
       refine RL.no rfl rfl rfl hg904 rfl rfl ?_
       exact RL.nil ⟨_, rfl, Ch.refl, rfl⟩
      refine Each.consS (fun fl O wk hE hN hO ck => ?_) ?_
      ·
       refine Need.o1 rfl rfl rfl (fun _ h => h) ?_
       refine RL.no rfl rfl rfl hg904 rfl rfl ?_
       exact RL.nil ⟨_, rfl, Ch.refl, rfl⟩
      refine Each.consS (fun fl O wk hE hN hO ck => ?_) ?_
      ·
       refine Need.o1 rfl rfl rfl (fun _ h => h) ?_
       refine RL.no rfl rfl rfl hg904 rfl rfl ?_
       exact RL.nil ⟨_, rfl, Ch.refl, rfl⟩
      refine Each.consS (fun fl O wk hE hN hO ck => ?_) ?_
      ·
       refine Need.o1 rfl rfl rfl (fun _ h => h) ?_
       refine RL.no rfl rfl rfl hg904 rfl rfl ?_
       exact RL.nil ⟨_, rfl, Ch.refl, rfl⟩
      refine Each.consS (fun fl O wk hE hN hO ck => ?_) ?_
      ·
       refine Need.o1 rfl rfl rfl (fun _ h => h) ?_
       refine RL.no rfl rfl rfl hg904 rfl rfl ?_
       exact RL.nil ⟨_, rfl, Ch.refl, rfl⟩
      refine Each.consS (fun fl O wk hE hN hO ck => ?_) ?_
      ·
       refine Need.o1 rfl rfl rfl (fun _ h => h) ?_
       refine RL.no rfl rfl rfl hg904 rfl rfl ?_
       exact RL.nil ⟨_, rfl, Ch.refl, rfl⟩
      refine Each.consS (fun fl O wk hE hN hO ck => ?_) ?_
      ·
       refine Need.o1 rfl rfl rfl (fun _ h => h) ?_
       refine RL.no rfl rfl rfl hg904 rfl rfl ?_
       exact RL.nil ⟨_, rfl, Ch.refl, rfl⟩
      refine Each.consS (fun fl O wk hE hN hO ck => ?_) ?_
      ·
       refine Need.o1 rfl rfl rfl (fun _ h => h) ?_
       refine RL.no rfl rfl rfl hg904 rfl rfl ?_
       exact RL.nil ⟨_, rfl, Ch.refl, rfl⟩
      refine Each.consS (fun fl O wk hE hN hO ck => ?_) ?_
      ·
       refine Need.o1 rfl rfl rfl (fun _ h => h) ?_
       refine RL.no rfl rfl rfl hg904 rfl rfl ?_
       exact RL.nil ⟨_, rfl, Ch.refl, rfl⟩
      refine Each.consS (fun fl O wk hE hN hO ck => ?_) ?_
      ·
       refine Need.o1 rfl rfl rfl (fun _ h => h) ?_
       refine rl_pickT rfl hg904 rfl rfl ?_
       exact RL.nil ⟨_, rfl, Ch.refl, congrArg Value.bool (Option.some.inj hs905)⟩
      trivial
     intro hvO980 OpO980 O980 w978 hO981 c979 hN982
     refine Need.o1 rfl rfl rfl (fun _ h => h) ?_
     exact RL.nil ⟨rfl, ⟨rfl, rfl, rfl, rfl, rfl, rfl, rfl, rfl, rfl, trivial⟩, c979⟩
    have hs984 := orO_f hg904 hb741
    obtain ⟨y724, hy725, hs984⟩ := bindS hs984
    obtain ⟨y732, hy733, hs984⟩ := bindS hs984
    obtain ⟨y738, hy739, hs984⟩ := bindS hs984
    refine CW.draw 38 [(none, fun fx O uu wx => uu = (Value.agg (Key.enc y631.1).toArray)), (none, fun fx O uu wx => uu = (Value.agg (Key.enc y667.1).toArray)), (none, fun fx O uu wx => uu = (Value.bool (!decide (y631.1 = y667.1)))), (none, fun fx O uu wx => uu = (Value.bool (!decide (y631.1 = y667.1)))), (none, fun fx O uu wx => uu = (Value.bool y631.2.1)), (none, fun fx O uu wx => uu = (Value.bool y667.2.1)), (none, fun fx O uu wx => uu = (Value.bool (!(y631.2.1 == y667.2.1)))), (none, fun fx O uu wx => uu = (Value.bool b688)), (none, fun fx O uu wx => uu = (Value.bool b688)), (none, fun fx O uu wx => uu = (PV p15)), (none, fun fx O uu wx => uu = (Value.int .i64 y694)), (none, fun fx O uu wx => uu = (PV p31)), (none, fun fx O uu wx => uu = (PV p31)), (none, fun fx O uu wx => uu = (PV p31)), (none, fun fx O uu wx => uu = z669), (none, fun fx O uu wx => uu = (Value.int .i64 ((y667.2.2.all.length : Nat) : Int))), (none, fun fx O uu wx => uu = (Value.bool (!decide (y694 = ((y667.2.2.all.length : Nat) : Int))))), (none, fun fx O uu wx => uu = (Value.bool b696)), (none, fun fx O uu wx => uu = (Value.bool b696)), (none, fun fx O uu wx => uu = (PV p15)), (none, fun fx O uu wx => ∃ (v704 : Value), uu = v704 ∧ slRep k_Key (G F w.heap.size (un (inBlk (PV p116)) (un (inBlk (PV p105)) (un (inBlk (PV p90)) (un (inBlk z669) (un (inBlk (PV p31)) (un (inBlk (PV p15)) (un (inBlk z633) (un (inBlk z634) nb))))))))) wx y702 v704), (none, fun fx O uu wx => uu = (PV p31)), (none, fun fx O uu wx => ∃ (v712 : Value), uu = v712 ∧ slRep k_Key (G F w.heap.size (un (inBlk (PV p116)) (un (inBlk (PV p105)) (un (inBlk (PV p90)) (un (inBlk z669) (un (inBlk (PV p31)) (un (inBlk (PV p15)) (un (inBlk z633) (un (inBlk z634) nb))))))))) wx y710 v712), (none, fun fx O uu wx => uu = (Value.bool y716)), (none, fun fx O uu wx => uu = (Value.bool (!y716))), (none, fun fx O uu wx => uu = (Value.bool b718)), (none, fun fx O uu wx => uu = (Value.bool b718)), (none, fun fx O uu wx => uu = (PV p15)), (none, fun fx O uu wx => uu = (Value.pointer (some ⟨p90, 3, none⟩))), (none, fun fx O uu wx => uu = (Value.agg (Key.enc x76.owner).toArray)), (none, fun fx O uu wx => ∃ (v726 : Value), uu = v726 ∧ slRep k_Key (G F w.heap.size (un (inBlk (PV p116)) (un (inBlk (PV p105)) (un (inBlk (PV p90)) (un (inBlk z669) (un (inBlk (PV p31)) (un (inBlk (PV p15)) (un (inBlk z633) (un (inBlk z634) nb))))))))) wx y724 v726), (none, fun fx O uu wx => uu = (PV p31)), (none, fun fx O uu wx => uu = (Value.pointer (some ⟨p90, 3, none⟩))), (none, fun fx O uu wx => uu = (Value.agg (Key.enc x76.owner).toArray)), (none, fun fx O uu wx => ∃ (v734 : Value), uu = v734 ∧ slRep k_Key (G F w.heap.size (un (inBlk (PV p116)) (un (inBlk (PV p105)) (un (inBlk (PV p90)) (un (inBlk z669) (un (inBlk (PV p31)) (un (inBlk (PV p15)) (un (inBlk z633) (un (inBlk z634) nb))))))))) wx y732 v734), (none, fun fx O uu wx => uu = (Value.bool y738)), (none, fun fx O uu wx => uu = (Value.bool (!y738))), (none, fun fx O uu wx => uu = (Value.bool b740))] [[], [], [0, 1], [2], [3], [3], [3, 4, 5], [3, 6], [7], [8], [8, 9], [8], [8, 11], [8, 12], [8, 13], [8, 14], [8, 10, 15], [8, 16], [17], [18], [18, 19], [18], [18, 21], [18, 20, 22], [18, 23], [18, 24], [25], [26], [26], [26, 28], [26, 27, 29], [26], [26], [26, 32], [26, 31, 33], [26, 30, 34], [26, 35], [26, 36]] [37] nb (fun _ h => h.elim) mixed rfl rfl rfl rfl ?_ ?_
    ·
     refine Each.consS (fun fl O wk hE hN hO ck => ?_) ?_
     ·
      have k661 := k661.ch0 ck
      refine rl_loadA (cs := (Key.enc y631.1)) rfl Try.isAgg32 Try.sizeOf32 (k661.segAt 0 2) rfl rfl ?_
      exact RL.nil ⟨_, rfl, Ch.refl, rfl⟩
     refine Each.consS (fun fl O wk hE hN hO ck => ?_) ?_
     ·
      have k686 := k686.ch0 ck
      refine rl_loadA (cs := (Key.enc y667.1)) rfl Try.isAgg32 Try.sizeOf32 (k686.segAt 0 2) rfl rfl ?_
      exact RL.nil ⟨_, rfl, Ch.refl, rfl⟩
     refine Each.consS (fun fl O wk hE hN hO ck => ?_) ?_
     ·
      refine Need.o1 rfl rfl rfl (fun _ h => h) ?_
      refine Need.o1 rfl rfl rfl (fun _ h => h) ?_
      refine rl_bin rfl rfl (neq32 y631.1 y667.1) rfl ?_
      exact RL.nil ⟨_, rfl, Ch.refl, rfl⟩
     refine Each.consS (fun fl O wk hE hN hO ck => ?_) ?_
     ·
      refine Need.o1 rfl rfl rfl (fun _ h => h) ?_
      refine rl_move rfl rfl ?_
      exact RL.nil ⟨_, rfl, Ch.refl, rfl⟩
     refine Each.consS (fun fl O wk hE hN hO ck => ?_) ?_
     ·
      refine Need.o1 rfl rfl rfl (fun _ h => h) ?_
      refine RL.yes rfl rfl rfl hg742 ?_
      refine rl_move rfl rfl ?_
      exact RL.nil ⟨_, rfl, Ch.refl, rfl⟩
     refine Each.consS (fun fl O wk hE hN hO ck => ?_) ?_
     ·
      refine Need.o1 rfl rfl rfl (fun _ h => h) ?_
      refine RL.yes rfl rfl rfl hg742 ?_
      refine rl_move rfl rfl ?_
      exact RL.nil ⟨_, rfl, Ch.refl, rfl⟩
     refine Each.consS (fun fl O wk hE hN hO ck => ?_) ?_
     ·
      refine Need.o1 rfl rfl rfl (fun _ h => h) ?_
      refine Need.o1 rfl rfl rfl (fun _ h => h) ?_
      refine Need.o1 rfl rfl rfl (fun _ h => h) ?_
      refine RL.yes rfl rfl rfl hg742 ?_
      refine rl_bin rfl rfl (B.neqB Try.underlying4) rfl ?_
      exact RL.nil ⟨_, rfl, Ch.refl, rfl⟩
     refine Each.consS (fun fl O wk hE hN hO ck => ?_) ?_
     ·
      refine Need.o1 rfl rfl rfl (fun _ h => h) ?_
      refine Need.o1 rfl rfl rfl (fun _ h => h) ?_
      refine rl_pickF rfl hg742 rfl rfl ?_
      exact RL.nil ⟨_, rfl, Ch.refl, congrArg Value.bool hs790⟩
     refine Each.consS (fun fl O wk hE hN hO ck => ?_) ?_
     ·
      refine Need.o1 rfl rfl rfl (fun _ h => h) ?_
      refine rl_move rfl rfl ?_
      exact RL.nil ⟨_, rfl, Ch.refl, rfl⟩
     refine Each.consS (fun fl O wk hE hN hO ck => ?_) ?_
     ·
      refine Need.o1 rfl rfl rfl (fun _ h => h) ?_
      refine RL.yes rfl rfl rfl hg791 ?_
      refine rl_move rfl rfl ?_
      exact RL.nil ⟨_, rfl, Ch.refl, rfl⟩
     refine Each.consS (fun fl O wk hE hN hO ck => ?_) ?_
     ·
      have k103 := k103.ch0 ck
      have h636 := h636.ch0 ck
      have h637 := h637.ch0 ck
      have h638 := h638.ch0 ck
      have k661 := k661.ch0 ck
      have h670 := h670.ch0 ck
      have h671 := h671.ch0 ck
      have k686 := k686.ch0 ck
      have c79 := c79.then0 ck
      refine Need.o1 rfl rfl rfl (fun _ h => h) ?_
      refine Need.o1 rfl rfl rfl (fun _ h => h) ?_
      refine RL.yes rfl rfl rfl hg791 ?_
      have hd999 : ∀ b, (un (inBlk (PV p15)) (un (inBlk z633) (inBlk z634))) b → ¬ (un (inBlk (PV p116)) (un (inBlk (PV p105)) (un (inBlk (PV p90)) (un (inBlk z669) (un (inBlk (PV p31)) nb))))) b := fun b h => un_el h (fun h => (fun b hb => fun h => un_el h (fun h => (disSym d125) b hb h) (fun h => un_el h (fun h => (disSym d113) b hb h) (fun h => un_el h (fun h => (disSym d97) b hb h) (fun h => un_el h (fun h => (disSym d678) b hb h) (fun h => un_el h (fun h => (disSym d61) b hb h) (fun h => h)))))) b h) (fun h => un_el h (fun h => (fun b hb => fun h => un_el h (fun h => d645 b hb h) (fun h => un_el h (fun h => d646 b hb h) (fun h => un_el h (fun h => d647 b hb h) (fun h => un_el h (fun h => (disSym d679) b hb h) (fun h => un_el h (fun h => d649 b hb h) (fun h => h)))))) b h) (fun h => (fun b hb => fun h => un_el h (fun h => d651 b hb h) (fun h => un_el h (fun h => d652 b hb h) (fun h => un_el h (fun h => d653 b hb h) (fun h => un_el h (fun h => (disSym d680) b hb h) (fun h => un_el h (fun h => d655 b hb h) (fun h => h)))))) b h))
      refine rl_callF rfl en12 rfl (ctr12 F wk w.heap.size (un (inBlk (PV p116)) (un (inBlk (PV p105)) (un (inBlk (PV p90)) (un (inBlk z669) (un (inBlk (PV p31)) nb))))) c79.size (un_lt k686.ltp (un_lt k661.ltp (un_lt k103.ltp (un_lt (fun b hb => (h671.lt b hb).2) (un_lt h670.ltp nbS))))) p15 z633 z634 u635 hd999 d641 d642 d643 y631.2.2 h636 h637 h638 y694 hy695) ?_
      rintro _ w1001 ⟨rfl, c1002⟩
      exact RL.nil ⟨_, rfl, c1002, rfl⟩
     refine Each.consS (fun fl O wk hE hN hO ck => ?_) ?_
     ·
      refine Need.o1 rfl rfl rfl (fun _ h => h) ?_
      refine RL.yes rfl rfl rfl hg791 ?_
      refine rl_move rfl rfl ?_
      exact RL.nil ⟨_, rfl, Ch.refl, rfl⟩
     refine Each.consS (fun fl O wk hE hN hO ck => ?_) ?_
     ·
      refine Need.o1 rfl rfl rfl (fun _ h => h) ?_
      refine Need.o1 rfl rfl rfl (fun _ h => h) ?_
      refine RL.yes rfl rfl rfl hg791 ?_
      refine rl_nilCheck rfl rfl ?_
      exact RL.nil ⟨_, rfl, Ch.refl, rfl⟩
     refine Each.consS (fun fl O wk hE hN hO ck => ?_) ?_
     ·
      refine Need.o1 rfl rfl rfl (fun _ h => h) ?_
      refine Need.o1 rfl rfl rfl (fun _ h => h) ?_
      refine RL.yes rfl rfl rfl hg791 ?_
      refine rl_fieldAddr rfl fa30_0 rfl ?_
      exact RL.nil ⟨_, rfl, Ch.refl, rfl⟩
     refine Each.consS (fun fl O wk hE hN hO ck => ?_) ?_
     ·
      have h670 := h670.ch0 ck
      refine Need.o1 rfl rfl rfl (fun _ h => h) ?_
      refine Need.o1 rfl rfl rfl (fun _ h => h) ?_
      refine RL.yes rfl rfl rfl hg791 ?_
      refine rl_loadS (v := z669) rfl Try.isAgg28 (h670.cell rfl) rfl ?_
      exact RL.nil ⟨_, rfl, Ch.refl, rfl⟩
     refine Each.consS (fun fl O wk hE hN hO ck => ?_) ?_
     ·
      have h671 := h671.ch0 ck
      refine Need.o1 rfl rfl rfl (fun _ h => h) ?_
      refine Need.o1 rfl rfl rfl (fun _ h => h) ?_
      refine RL.yes rfl rfl rfl hg791 ?_
      refine rl_lenR rfl (SlO.read (S' := (un (inBlk (PV p116)) (un (inBlk (PV p105)) (un (inBlk (PV p90)) (un (inBlk (PV p31)) (un (inBlk (PV p15)) (un (inBlk z633) (un (inBlk z634) nb)))))))) k_A2Key_pos h671 (fun b hs h => hs (un_el h (fun h => (.inl h)) (fun h => un_el h (fun h => (.inr (.inl h))) (fun h => un_el h (fun h => (.inr (.inr (.inl h)))) (fun h => un_el h (fun h => (.inr (.inr (.inr (.inr (.inl h)))))) (fun h => un_el h (fun h => (.inr (.inr (.inr (.inr (.inr (.inl h))))))) (fun h => un_el h (fun h => (.inr (.inr (.inr (.inr (.inr (.inr (.inl h)))))))) (fun h => un_el h (fun h => (.inr (.inr (.inr (.inr (.inr (.inr (.inr (.inl h))))))))) (fun h => False.elim h))))))))) (fun b hb => fun h => un_el h (fun h => d675 b hb h) (fun h => un_el h (fun h => d676 b hb h) (fun h => un_el h (fun h => d677 b hb h) (fun h => un_el h (fun h => (disSym d673) b hb h) (fun h => un_el h (fun h => d678 b hb h) (fun h => un_el h (fun h => d679 b hb h) (fun h => un_el h (fun h => d680 b hb h) (fun h => h))))))))) Try.underlying28 rfl ?_
      exact RL.nil ⟨_, rfl, Ch.refl, rfl⟩
     refine Each.consS (fun fl O wk hE hN hO ck => ?_) ?_
     ·
      refine Need.o1 rfl rfl rfl (fun _ h => h) ?_
      refine Need.o1 rfl rfl rfl (fun _ h => h) ?_
      refine Need.o1 rfl rfl rfl (fun _ h => h) ?_
      refine RL.yes rfl rfl rfl hg791 ?_
      refine rl_bin rfl rfl B.neq rfl ?_
      exact RL.nil ⟨_, rfl, Ch.refl, rfl⟩
     refine Each.consS (fun fl O wk hE hN hO ck => ?_) ?_
     ·
      refine Need.o1 rfl rfl rfl (fun _ h => h) ?_
      refine Need.o1 rfl rfl rfl (fun _ h => h) ?_
      refine rl_pickF rfl hg791 rfl rfl ?_
      exact RL.nil ⟨_, rfl, Ch.refl, congrArg Value.bool hs841⟩
     refine Each.consS (fun fl O wk hE hN hO ck => ?_) ?_
     ·
      refine Need.o1 rfl rfl rfl (fun _ h => h) ?_
      refine rl_move rfl rfl ?_
      exact RL.nil ⟨_, rfl, Ch.refl, rfl⟩
     refine Each.consS (fun fl O wk hE hN hO ck => ?_) ?_
     ·
      refine Need.o1 rfl rfl rfl (fun _ h => h) ?_
      refine RL.yes rfl rfl rfl hg842 ?_
      refine rl_move rfl rfl ?_
      exact RL.nil ⟨_, rfl, Ch.refl, rfl⟩
     refine Each.consA ⟨fun _ _ _ _ _ cc hh => by obtain ⟨v704, e, h705⟩ := hh; exact ⟨v704, e, slRep.ch k_Key_pos h705 cc⟩, fun h => absurd rfl h, fun fl O wk hE hN hO ck => ?_⟩ ?_
     ·
      have k103 := k103.ch0 ck
      have h636 := h636.ch0 ck
      have h637 := h637.ch0 ck
      have h638 := h638.ch0 ck
      have k661 := k661.ch0 ck
      have h670 := h670.ch0 ck
      have h671 := h671.ch0 ck
      have k686 := k686.ch0 ck
      have c79 := c79.then0 ck
      refine Need.o1 rfl rfl rfl (fun _ h => h) ?_
      refine Need.o1 rfl rfl rfl (fun _ h => h) ?_
      refine RL.yes rfl rfl rfl hg842 ?_
      have hd1021 : ∀ b, (un (inBlk (PV p15)) (un (inBlk z633) (inBlk z634))) b → ¬ (un (inBlk (PV p116)) (un (inBlk (PV p105)) (un (inBlk (PV p90)) (un (inBlk z669) (un (inBlk (PV p31)) nb))))) b := fun b h => un_el h (fun h => (fun b hb => fun h => un_el h (fun h => (disSym d125) b hb h) (fun h => un_el h (fun h => (disSym d113) b hb h) (fun h => un_el h (fun h => (disSym d97) b hb h) (fun h => un_el h (fun h => (disSym d678) b hb h) (fun h => un_el h (fun h => (disSym d61) b hb h) (fun h => h)))))) b h) (fun h => un_el h (fun h => (fun b hb => fun h => un_el h (fun h => d645 b hb h) (fun h => un_el h (fun h => d646 b hb h) (fun h => un_el h (fun h => d647 b hb h) (fun h => un_el h (fun h => (disSym d679) b hb h) (fun h => un_el h (fun h => d649 b hb h) (fun h => h)))))) b h) (fun h => (fun b hb => fun h => un_el h (fun h => d651 b hb h) (fun h => un_el h (fun h => d652 b hb h) (fun h => un_el h (fun h => d653 b hb h) (fun h => un_el h (fun h => (disSym d680) b hb h) (fun h => un_el h (fun h => d655 b hb h) (fun h => h)))))) b h))
      have hS1022 : (un (inBlk (PV p116)) (un (inBlk (PV p105)) (un (inBlk (PV p90)) (un (inBlk z669) (un (inBlk (PV p31)) (un (inBlk (PV p15)) (un (inBlk z633) (un (inBlk z634) nb)))))))) = (un (inBlk (PV p15)) (un (inBlk z633) (un (inBlk z634) (un (inBlk (PV p116)) (un (inBlk (PV p105)) (un (inBlk (PV p90)) (un (inBlk z669) (un (inBlk (PV p31)) nb)))))))) := funext fun b => propext ⟨fun h => un_el h (fun h => (.inr (.inr (.inr (.inl h))))) (fun h => un_el h (fun h => (.inr (.inr (.inr (.inr (.inl h)))))) (fun h => un_el h (fun h => (.inr (.inr (.inr (.inr (.inr (.inl h))))))) (fun h => un_el h (fun h => (.inr (.inr (.inr (.inr (.inr (.inr (.inl h)))))))) (fun h => un_el h (fun h => (.inr (.inr (.inr (.inr (.inr (.inr (.inr (.inl h))))))))) (fun h => un_el h (fun h => (.inl h)) (fun h => un_el h (fun h => (.inr (.inl h))) (fun h => un_el h (fun h => (.inr (.inr (.inl h)))) (fun h => False.elim h)))))))), fun h => un_el h (fun h => (.inr (.inr (.inr (.inr (.inr (.inl h))))))) (fun h => un_el h (fun h => (.inr (.inr (.inr (.inr (.inr (.inr (.inl h)))))))) (fun h => un_el h (fun h => (.inr (.inr (.inr (.inr (.inr (.inr (.inr (.inl h))))))))) (fun h => un_el h (fun h => (.inl h)) (fun h => un_el h (fun h => (.inr (.inl h))) (fun h => un_el h (fun h => (.inr (.inr (.inl h)))) (fun h => un_el h (fun h => (.inr (.inr (.inr (.inl h))))) (fun h => un_el h (fun h => (.inr (.inr (.inr (.inr (.inl h)))))) (fun h => False.elim h))))))))⟩
      refine rl_callF rfl en14 rfl (ctr14 F wk w.heap.size (un (inBlk (PV p116)) (un (inBlk (PV p105)) (un (inBlk (PV p90)) (un (inBlk z669) (un (inBlk (PV p31)) nb))))) c79.size (un_lt k686.ltp (un_lt k661.ltp (un_lt k103.ltp (un_lt (fun b hb => (h671.lt b hb).2) (un_lt h670.ltp nbS))))) p15 z633 z634 u635 hd1021 d641 d642 d643 y631.2.2 h636 h637 h638 y702 hy703) ?_
      rintro v1025 w1023 ⟨_, rfl, h1026, c1024⟩
      rw [← hS1022] at h1026
      have h1026 := SlO.backR k_Key_pos h1026 (un_lt k686.ltp (un_lt k661.ltp (un_lt k103.ltp (un_lt (fun b hb => (h671.lt b hb).2) (un_lt h670.ltp (un_lt h636.ltp (un_lt h637.ltp (un_lt h638.ltp nbS)))))))) c79.size
      exact RL.nil ⟨_, rfl, c1024, ⟨v1025, rfl, h1026⟩⟩
     refine Each.consS (fun fl O wk hE hN hO ck => ?_) ?_
     ·
      refine Need.o1 rfl rfl rfl (fun _ h => h) ?_
      refine RL.yes rfl rfl rfl hg842 ?_
      refine rl_move rfl rfl ?_
      exact RL.nil ⟨_, rfl, Ch.refl, rfl⟩
     refine Each.consA ⟨fun _ _ _ _ _ cc hh => by obtain ⟨v712, e, h713⟩ := hh; exact ⟨v712, e, slRep.ch k_Key_pos h713 cc⟩, fun h => absurd rfl h, fun fl O wk hE hN hO ck => ?_⟩ ?_
     ·
      have k103 := k103.ch0 ck
      have h636 := h636.ch0 ck
      have h637 := h637.ch0 ck
      have h638 := h638.ch0 ck
      have k661 := k661.ch0 ck
      have h670 := h670.ch0 ck
      have h671 := h671.ch0 ck
      have k686 := k686.ch0 ck
      have c79 := c79.then0 ck
      refine Need.o1 rfl rfl rfl (fun _ h => h) ?_
      refine Need.o1 rfl rfl rfl (fun _ h => h) ?_
      refine RL.yes rfl rfl rfl hg842 ?_
      have hd1030 : ∀ b, (un (inBlk (PV p31)) (inBlk z669)) b → ¬ (un (inBlk (PV p116)) (un (inBlk (PV p105)) (un (inBlk (PV p90)) (un (inBlk (PV p15)) (un (inBlk z633) (un (inBlk z634) nb)))))) b := fun b h => un_el h (fun h => (fun b hb => fun h => un_el h (fun h => (disSym d124) b hb h) (fun h => un_el h (fun h => (disSym d112) b hb h) (fun h => un_el h (fun h => (disSym d96) b hb h) (fun h => un_el h (fun h => d61 b hb h) (fun h => un_el h (fun h => (disSym d649) b hb h) (fun h => un_el h (fun h => (disSym d655) b hb h) (fun h => h))))))) b h) (fun h => (fun b hb => fun h => un_el h (fun h => d675 b hb h) (fun h => un_el h (fun h => d676 b hb h) (fun h => un_el h (fun h => d677 b hb h) (fun h => un_el h (fun h => d678 b hb h) (fun h => un_el h (fun h => d679 b hb h) (fun h => un_el h (fun h => d680 b hb h) (fun h => h))))))) b h)
      have hS1031 : (un (inBlk (PV p116)) (un (inBlk (PV p105)) (un (inBlk (PV p90)) (un (inBlk z669) (un (inBlk (PV p31)) (un (inBlk (PV p15)) (un (inBlk z633) (un (inBlk z634) nb)))))))) = (un (inBlk (PV p31)) (un (inBlk z669) (un (inBlk (PV p116)) (un (inBlk (PV p105)) (un (inBlk (PV p90)) (un (inBlk (PV p15)) (un (inBlk z633) (un (inBlk z634) nb)))))))) := funext fun b => propext ⟨fun h => un_el h (fun h => (.inr (.inr (.inl h)))) (fun h => un_el h (fun h => (.inr (.inr (.inr (.inl h))))) (fun h => un_el h (fun h => (.inr (.inr (.inr (.inr (.inl h)))))) (fun h => un_el h (fun h => (.inr (.inl h))) (fun h => un_el h (fun h => (.inl h)) (fun h => un_el h (fun h => (.inr (.inr (.inr (.inr (.inr (.inl h))))))) (fun h => un_el h (fun h => (.inr (.inr (.inr (.inr (.inr (.inr (.inl h)))))))) (fun h => un_el h (fun h => (.inr (.inr (.inr (.inr (.inr (.inr (.inr (.inl h))))))))) (fun h => False.elim h)))))))), fun h => un_el h (fun h => (.inr (.inr (.inr (.inr (.inl h)))))) (fun h => un_el h (fun h => (.inr (.inr (.inr (.inl h))))) (fun h => un_el h (fun h => (.inl h)) (fun h => un_el h (fun h => (.inr (.inl h))) (fun h => un_el h (fun h => (.inr (.inr (.inl h)))) (fun h => un_el h (fun h => (.inr (.inr (.inr (.inr (.inr (.inl h))))))) (fun h => un_el h (fun h => (.inr (.inr (.inr (.inr (.inr (.inr (.inl h)))))))) (fun h => un_el h (fun h => (.inr (.inr (.inr (.inr (.inr (.inr (.inr (.inl h))))))))) (fun h => False.elim h))))))))⟩
      refine rl_callF rfl en15 rfl (ctr15 F wk w.heap.size (un (inBlk (PV p116)) (un (inBlk (PV p105)) (un (inBlk (PV p90)) (un (inBlk (PV p15)) (un (inBlk z633) (un (inBlk z634) nb)))))) c79.size (un_lt k686.ltp (un_lt k661.ltp (un_lt k103.ltp (un_lt h636.ltp (un_lt h637.ltp (un_lt h638.ltp nbS)))))) p31 z669 hd1030 d673 y667.2.2 h670 (hS1031 ▸ h671) y710 hy711) ?_
      rintro v1034 w1032 ⟨_, rfl, h1035, c1033⟩
      rw [← hS1031] at h1035
      have h1035 := SlO.backR k_Key_pos h1035 (un_lt k686.ltp (un_lt k661.ltp (un_lt k103.ltp (un_lt (fun b hb => (h671.lt b hb).2) (un_lt h670.ltp (un_lt h636.ltp (un_lt h637.ltp (un_lt h638.ltp nbS)))))))) c79.size
      exact RL.nil ⟨_, rfl, c1033, ⟨v1034, rfl, h1035⟩⟩
     refine Each.consS (fun fl O wk hE hN hO ck => ?_) ?_
     ·
      refine Need.o1 rfl rfl rfl (fun _ h => h) ?_
      refine Need.one rfl rfl rfl ?_
      rintro _ ⟨v704, e1037, h705⟩
      obtain rfl := e1037.symm
      refine Need.one rfl rfl rfl ?_
      rintro _ ⟨v712, e1038, h713⟩
      obtain rfl := e1038.symm
      refine RL.yes rfl rfl rfl hg842 ?_
      refine rl_callF rfl en13 rfl (ctr13 (G F w.heap.size (un (inBlk (PV p116)) (un (inBlk (PV p105)) (un (inBlk (PV p90)) (un (inBlk z669) (un (inBlk (PV p31)) (un (inBlk (PV p15)) (un (inBlk z633) (un (inBlk z634) nb))))))))) wk y702 v704 h705 y710 v712 h713 y716 hy717) ?_
      rintro _ w1039 ⟨rfl, c1040⟩
      exact RL.nil ⟨_, rfl, c1040, rfl⟩
     refine Each.consS (fun fl O wk hE hN hO ck => ?_) ?_
     ·
      refine Need.o1 rfl rfl rfl (fun _ h => h) ?_
      refine Need.o1 rfl rfl rfl (fun _ h => h) ?_
      refine RL.yes rfl rfl rfl hg842 ?_
      refine rl_not rfl rfl ?_
      exact RL.nil ⟨_, rfl, Ch.refl, rfl⟩
     refine Each.consS (fun fl O wk hE hN hO ck => ?_) ?_
     ·
      refine Need.o1 rfl rfl rfl (fun _ h => h) ?_
      refine Need.o1 rfl rfl rfl (fun _ h => h) ?_
      refine rl_pickF rfl hg842 rfl rfl ?_
      exact RL.nil ⟨_, rfl, Ch.refl, congrArg Value.bool (Option.some.inj hs903)⟩
     refine Each.consS (fun fl O wk hE hN hO ck => ?_) ?_
     ·
      refine Need.o1 rfl rfl rfl (fun _ h => h) ?_
      refine rl_move rfl rfl ?_
      exact RL.nil ⟨_, rfl, Ch.refl, rfl⟩
     refine Each.consS (fun fl O wk hE hN hO ck => ?_) ?_
     ·
      refine Need.o1 rfl rfl rfl (fun _ h => h) ?_
      refine RL.yes rfl rfl rfl hg904 ?_
      refine rl_move rfl rfl ?_
      exact RL.nil ⟨_, rfl, Ch.refl, rfl⟩
     refine Each.consS (fun fl O wk hE hN hO ck => ?_) ?_
     ·
      refine Need.o1 rfl rfl rfl (fun _ h => h) ?_
      refine RL.yes rfl rfl rfl hg904 ?_
      refine rl_fieldAddr rfl fa34_2 rfl ?_
      exact RL.nil ⟨_, rfl, Ch.refl, rfl⟩
     refine Each.consS (fun fl O wk hE hN hO ck => ?_) ?_
     ·
      have k103 := k103.ch0 ck
      refine Need.o1 rfl rfl rfl (fun _ h => h) ?_
      refine Need.o1 rfl rfl rfl (fun _ h => h) ?_
      refine RL.yes rfl rfl rfl hg904 ?_
      refine rl_loadA (cs := (Key.enc x76.owner)) rfl Try.isAgg32 Try.sizeOf32 (k103.segAt 3 2) rfl rfl ?_
      exact RL.nil ⟨_, rfl, Ch.refl, rfl⟩
     refine Each.consA ⟨fun _ _ _ _ _ cc hh => by obtain ⟨v726, e, h727⟩ := hh; exact ⟨v726, e, slRep.ch k_Key_pos h727 cc⟩, fun h => absurd rfl h, fun fl O wk hE hN hO ck => ?_⟩ ?_
     ·
      have k103 := k103.ch0 ck
      have h636 := h636.ch0 ck
      have h637 := h637.ch0 ck
      have h638 := h638.ch0 ck
      have k661 := k661.ch0 ck
      have h670 := h670.ch0 ck
      have h671 := h671.ch0 ck
      have k686 := k686.ch0 ck
      have c79 := c79.then0 ck
      refine Need.o1 rfl rfl rfl (fun _ h => h) ?_
      refine Need.o1 rfl rfl rfl (fun _ h => h) ?_
      refine Need.o1 rfl rfl rfl (fun _ h => h) ?_
      refine RL.yes rfl rfl rfl hg904 ?_
      have hd1053 : ∀ b, (un (inBlk (PV p15)) (un (inBlk z633) (inBlk z634))) b → ¬ (un (inBlk (PV p116)) (un (inBlk (PV p105)) (un (inBlk (PV p90)) (un (inBlk z669) (un (inBlk (PV p31)) nb))))) b := fun b h => un_el h (fun h => (fun b hb => fun h => un_el h (fun h => (disSym d125) b hb h) (fun h => un_el h (fun h => (disSym d113) b hb h) (fun h => un_el h (fun h => (disSym d97) b hb h) (fun h => un_el h (fun h => (disSym d678) b hb h) (fun h => un_el h (fun h => (disSym d61) b hb h) (fun h => h)))))) b h) (fun h => un_el h (fun h => (fun b hb => fun h => un_el h (fun h => d645 b hb h) (fun h => un_el h (fun h => d646 b hb h) (fun h => un_el h (fun h => d647 b hb h) (fun h => un_el h (fun h => (disSym d679) b hb h) (fun h => un_el h (fun h => d649 b hb h) (fun h => h)))))) b h) (fun h => (fun b hb => fun h => un_el h (fun h => d651 b hb h) (fun h => un_el h (fun h => d652 b hb h) (fun h => un_el h (fun h => d653 b hb h) (fun h => un_el h (fun h => (disSym d680) b hb h) (fun h => un_el h (fun h => d655 b hb h) (fun h => h)))))) b h))
      have hS1054 : (un (inBlk (PV p116)) (un (inBlk (PV p105)) (un (inBlk (PV p90)) (un (inBlk z669) (un (inBlk (PV p31)) (un (inBlk (PV p15)) (un (inBlk z633) (un (inBlk z634) nb)))))))) = (un (inBlk (PV p15)) (un (inBlk z633) (un (inBlk z634) (un (inBlk (PV p116)) (un (inBlk (PV p105)) (un (inBlk (PV p90)) (un (inBlk z669) (un (inBlk (PV p31)) nb)))))))) := funext fun b => propext ⟨fun h => un_el h (fun h => (.inr (.inr (.inr (.inl h))))) (fun h => un_el h (fun h => (.inr (.inr (.inr (.inr (.inl h)))))) (fun h => un_el h (fun h => (.inr (.inr (.inr (.inr (.inr (.inl h))))))) (fun h => un_el h (fun h => (.inr (.inr (.inr (.inr (.inr (.inr (.inl h)))))))) (fun h => un_el h (fun h => (.inr (.inr (.inr (.inr (.inr (.inr (.inr (.inl h))))))))) (fun h => un_el h (fun h => (.inl h)) (fun h => un_el h (fun h => (.inr (.inl h))) (fun h => un_el h (fun h => (.inr (.inr (.inl h)))) (fun h => False.elim h)))))))), fun h => un_el h (fun h => (.inr (.inr (.inr (.inr (.inr (.inl h))))))) (fun h => un_el h (fun h => (.inr (.inr (.inr (.inr (.inr (.inr (.inl h)))))))) (fun h => un_el h (fun h => (.inr (.inr (.inr (.inr (.inr (.inr (.inr (.inl h))))))))) (fun h => un_el h (fun h => (.inl h)) (fun h => un_el h (fun h => (.inr (.inl h))) (fun h => un_el h (fun h => (.inr (.inr (.inl h)))) (fun h => un_el h (fun h => (.inr (.inr (.inr (.inl h))))) (fun h => un_el h (fun h => (.inr (.inr (.inr (.inr (.inl h)))))) (fun h => False.elim h))))))))⟩
      refine rl_callF rfl en16 rfl (ctr16 F wk w.heap.size (un (inBlk (PV p116)) (un (inBlk (PV p105)) (un (inBlk (PV p90)) (un (inBlk z669) (un (inBlk (PV p31)) nb))))) c79.size (un_lt k686.ltp (un_lt k661.ltp (un_lt k103.ltp (un_lt (fun b hb => (h671.lt b hb).2) (un_lt h670.ltp nbS))))) p15 z633 z634 u635 hd1053 d641 d642 d643 y631.2.2 h636 h637 h638 x76.owner y724 hy725) ?_
      rintro v1057 w1055 ⟨_, rfl, h1058, c1056⟩
      rw [← hS1054] at h1058
      have h1058 := SlO.backR k_Key_pos h1058 (un_lt k686.ltp (un_lt k661.ltp (un_lt k103.ltp (un_lt (fun b hb => (h671.lt b hb).2) (un_lt h670.ltp (un_lt h636.ltp (un_lt h637.ltp (un_lt h638.ltp nbS)))))))) c79.size
      exact RL.nil ⟨_, rfl, c1056, ⟨v1057, rfl, h1058⟩⟩
     refine Each.consS (fun fl O wk hE hN hO ck => ?_) ?_
     ·
      refine Need.o1 rfl rfl rfl (fun _ h => h) ?_
      refine RL.yes rfl rfl rfl hg904 ?_
      refine rl_move rfl rfl ?_
      exact RL.nil ⟨_, rfl, Ch.refl, rfl⟩
     refine Each.consS (fun fl O wk hE hN hO ck => ?_) ?_
     ·
      refine Need.o1 rfl rfl rfl (fun _ h => h) ?_
      refine RL.yes rfl rfl rfl hg904 ?_
      refine rl_fieldAddr rfl fa34_2 rfl ?_
      exact RL.nil ⟨_, rfl, Ch.refl, rfl⟩
     refine Each.consS (fun fl O wk hE hN hO ck => ?_) ?_
     ·
      have k103 := k103.ch0 ck
      refine Need.o1 rfl rfl rfl (fun _ h => h) ?_
      refine Need.o1 rfl rfl rfl (fun _ h => h) ?_
      refine RL.yes rfl rfl rfl hg904 ?_
      refine rl_loadA (cs := (Key.enc x76.owner)) rfl Try.isAgg32 Try.sizeOf32 (k103.segAt 3 2) rfl rfl ?_
      exact RL.nil ⟨_, rfl, Ch.refl, rfl⟩
     refine Each.consA ⟨fun _ _ _ _ _ cc hh => by obtain ⟨v734, e, h735⟩ := hh; exact ⟨v734, e, slRep.ch k_Key_pos h735 cc⟩, fun h => absurd rfl h, fun fl O wk hE hN hO ck => ?_⟩ ?_
     ·
      have k103 := k103.ch0 ck
      have h636 := h636.ch0 ck
      have h637 := h637.ch0 ck
      have h638 := h638.ch0 ck
      have k661 := k661.ch0 ck
      have h670 := h670.ch0 ck
      have h671 := h671.ch0 ck
      have k686 := k686.ch0 ck
      have c79 := c79.then0 ck
      refine Need.o1 rfl rfl rfl (fun _ h => h) ?_
      refine Need.o1 rfl rfl rfl (fun _ h => h) ?_
      refine Need.o1 rfl rfl rfl (fun _ h => h) ?_
      refine RL.yes rfl rfl rfl hg904 ?_
      have hd1066 : ∀ b, (un (inBlk (PV p31)) (inBlk z669)) b → ¬ (un (inBlk (PV p116)) (un (inBlk (PV p105)) (un (inBlk (PV p90)) (un (inBlk (PV p15)) (un (inBlk z633) (un (inBlk z634) nb)))))) b := fun b h => un_el h (fun h => (fun b hb => fun h => un_el h (fun h => (disSym d124) b hb h) (fun h => un_el h (fun h => (disSym d112) b hb h) (fun h => un_el h (fun h => (disSym d96) b hb h) (fun h => un_el h (fun h => d61 b hb h) (fun h => un_el h (fun h => (disSym d649) b hb h) (fun h => un_el h (fun h => (disSym d655) b hb h) (fun h => h))))))) b h) (fun h => (fun b hb => fun h => un_el h (fun h => d675 b hb h) (fun h => un_el h (fun h => d676 b hb h) (fun h => un_el h (fun h => d677 b hb h) (fun h => un_el h (fun h => d678 b hb h) (fun h => un_el h (fun h => d679 b hb h) (fun h => un_el h (fun h => d680 b hb h) (fun h => h))))))) b h)
      have hS1067 : (un (inBlk (PV p116)) (un (inBlk (PV p105)) (un (inBlk (PV p90)) (un (inBlk z669) (un (inBlk (PV p31)) (un (inBlk (PV p15)) (un (inBlk z633) (un (inBlk z634) nb)))))))) = (un (inBlk (PV p31)) (un (inBlk z669) (un (inBlk (PV p116)) (un (inBlk (PV p105)) (un (inBlk (PV p90)) (un (inBlk (PV p15)) (un (inBlk z633) (un (inBlk z634) nb)))))))) := funext fun b => propext ⟨fun h => un_el h (fun h => (.inr (.inr (.inl h)))) (fun h => un_el h (fun h => (.inr (.inr (.inr (.inl h))))) (fun h => un_el h (fun h => (.inr (.inr (.inr (.inr (.inl h)))))) (fun h => un_el h (fun h => (.inr (.inl h))) (fun h => un_el h (fun h => (.inl h)) (fun h => un_el h (fun h => (.inr (.inr (.inr (.inr (.inr (.inl h))))))) (fun h => un_el h (fun h => (.inr (.inr (.inr (.inr (.inr (.inr (.inl h)))))))) (fun h => un_el h (fun h => (.inr (.inr (.inr (.inr (.inr (.inr (.inr (.inl h))))))))) (fun h => False.elim h)))))))), fun h => un_el h (fun h => (.inr (.inr (.inr (.inr (.inl h)))))) (fun h => un_el h (fun h => (.inr (.inr (.inr (.inl h))))) (fun h => un_el h (fun h => (.inl h)) (fun h => un_el h (fun h => (.inr (.inl h))) (fun h => un_el h (fun h => (.inr (.inr (.inl h)))) (fun h => un_el h (fun h => (.inr (.inr (.inr (.inr (.inr (.inl h))))))) (fun h => un_el h (fun h => (.inr (.inr (.inr (.inr (.inr (.inr (.inl h)))))))) (fun h => un_el h (fun h => (.inr (.inr (.inr (.inr (.inr (.inr (.inr (.inl h))))))))) (fun h => False.elim h))))))))⟩
      refine rl_callF rfl en17 rfl (ctr17 F wk w.heap.size (un (inBlk (PV p116)) (un (inBlk (PV p105)) (un (inBlk (PV p90)) (un (inBlk (PV p15)) (un (inBlk z633) (un (inBlk z634) nb)))))) c79.size (un_lt k686.ltp (un_lt k661.ltp (un_lt k103.ltp (un_lt h636.ltp (un_lt h637.ltp (un_lt h638.ltp nbS)))))) p31 z669 hd1066 d673 y667.2.2 h670 (hS1067 ▸ h671) x76.owner y732 hy733) ?_
      rintro v1070 w1068 ⟨_, rfl, h1071, c1069⟩
      rw [← hS1067] at h1071
      have h1071 := SlO.backR k_Key_pos h1071 (un_lt k686.ltp (un_lt k661.ltp (un_lt k103.ltp (un_lt (fun b hb => (h671.lt b hb).2) (un_lt h670.ltp (un_lt h636.ltp (un_lt h637.ltp (un_lt h638.ltp nbS)))))))) c79.size
      exact RL.nil ⟨_, rfl, c1069, ⟨v1070, rfl, h1071⟩⟩
     refine Each.consS (fun fl O wk hE hN hO ck => ?_) ?_
     ·
      refine Need.o1 rfl rfl rfl (fun _ h => h) ?_
      refine Need.one rfl rfl rfl ?_
      rintro _ ⟨v726, e1073, h727⟩
      obtain rfl := e1073.symm
      refine Need.one rfl rfl rfl ?_
      rintro _ ⟨v734, e1074, h735⟩
      obtain rfl := e1074.symm
      refine RL.yes rfl rfl rfl hg904 ?_
      refine rl_callF rfl en13 rfl (ctr13 (G F w.heap.size (un (inBlk (PV p116)) (un (inBlk (PV p105)) (un (inBlk (PV p90)) (un (inBlk z669) (un (inBlk (PV p31)) (un (inBlk (PV p15)) (un (inBlk z633) (un (inBlk z634) nb))))))))) wk y724 v726 h727 y732 v734 h735 y738 hy739) ?_
      rintro _ w1075 ⟨rfl, c1076⟩
      exact RL.nil ⟨_, rfl, c1076, rfl⟩
     refine Each.consS (fun fl O wk hE hN hO ck => ?_) ?_
     ·
      refine Need.o1 rfl rfl rfl (fun _ h => h) ?_
      refine Need.o1 rfl rfl rfl (fun _ h => h) ?_
      refine RL.yes rfl rfl rfl hg904 ?_
      refine rl_not rfl rfl ?_
      exact RL.nil ⟨_, rfl, Ch.refl, rfl⟩
     refine Each.consS (fun fl O wk hE hN hO ck => ?_) ?_
     ·
      refine Need.o1 rfl rfl rfl (fun _ h => h) ?_
      refine Need.o1 rfl rfl rfl (fun _ h => h) ?_
      refine rl_pickF rfl hg904 rfl rfl ?_
      exact RL.nil ⟨_, rfl, Ch.refl, congrArg Value.bool (Option.some.inj hs984)⟩
     trivial
    intro hvO1083 OpO1083 O1083 w1081 hO1084 c1082 hN1085
    refine Need.o1 rfl rfl rfl (fun _ h => h) ?_
    exact RL.nil ⟨rfl, ⟨rfl, rfl, rfl, rfl, rfl, rfl, rfl, rfl, rfl, trivial⟩, c1082⟩
   rintro _ w1088 ⟨hE1087, c1089⟩
   have ah0 := slRep.ch k_Act_pos ah0 c1089
   have k103 := k103.ch0 c1089
   have h636 := h636.ch0 c1089
   have h637 := h637.ch0 c1089
   have h638 := h638.ch0 c1089
   have k661 := k661.ch0 c1089
   have h670 := h670.ch0 c1089
   have h671 := h671.ch0 c1089
   have k686 := k686.ch0 c1089
   have c79 := c79.then0 c1089
   refine thn_n (CW.sub [(3, (PV p15)), (4, (PV p31)), (6, (PV p90)), (7, (PV p105)), (8, (PV p116)), (18, av0), (19, (Value.int .i64 ((a0.length : Nat) : Int))), (20, (Value.int .i64 ((i68 : Nat) : Int))), (96, (Value.bool b740))] hE1087 ?_)
   refine CW.cond (t := b740) rfl (fun q1090 => ?_) (fun q1090 => ?_)
   ·
    have hb73 := ifT q1090 hb73
    refine CW.seq (CW.region ?_)
    refine rl_assign rfl rfl ?_
    refine RL.nil (thn_n (CW.ret ?_))
    refine thn_ret ?_
    refine inB_ret ?_
    refine thn_ret ?_
    refine thn_ret (inB_ret (thn_ret ?_))
    refine thn_ret ?_
    have f1091 := runBO_ret hL69 hq72 hb73
    have hS := retS f1091 hS
    obtain rfl := Option.some.inj hS
    exact ret1 rfl ⟨rfl, c79⟩
   have hb73 := ifF q1090 hb73
   refine CW.skip ?_
   refine thn_n (CW.seq (CW.region ?_))
   refine rl_move rfl rfl ?_
   refine rl_fieldAddr rfl fa34_1 rfl ?_
   refine rl_loadA (cs := (Key.enc x76.slice)) rfl Try.isAgg32 Try.sizeOf32 (k103.segAt 1 2) rfl rfl ?_
   have hd1092 : ∀ b, (un (inBlk (PV p15)) (un (inBlk z633) (inBlk z634))) b → ¬ (un (inBlk (PV p116)) (un (inBlk (PV p105)) (un (inBlk (PV p90)) (un (inBlk z669) (un (inBlk (PV p31)) nb))))) b := fun b h => un_el h (fun h => (fun b hb => fun h => un_el h (fun h => (disSym d125) b hb h) (fun h => un_el h (fun h => (disSym d113) b hb h) (fun h => un_el h (fun h => (disSym d97) b hb h) (fun h => un_el h (fun h => (disSym d678) b hb h) (fun h => un_el h (fun h => (disSym d61) b hb h) (fun h => h)))))) b h) (fun h => un_el h (fun h => (fun b hb => fun h => un_el h (fun h => d645 b hb h) (fun h => un_el h (fun h => d646 b hb h) (fun h => un_el h (fun h => d647 b hb h) (fun h => un_el h (fun h => (disSym d679) b hb h) (fun h => un_el h (fun h => d649 b hb h) (fun h => h)))))) b h) (fun h => (fun b hb => fun h => un_el h (fun h => d651 b hb h) (fun h => un_el h (fun h => d652 b hb h) (fun h => un_el h (fun h => d653 b hb h) (fun h => un_el h (fun h => (disSym d680) b hb h) (fun h => un_el h (fun h => d655 b hb h) (fun h => h)))))) b h))
   obtain ⟨y1096, hy1097⟩ : ∃ y, F18_Owner y631.2.2 x76.slice = y := ⟨_, rfl⟩
   have hb73 := ltS hy1097 hb73
   refine rl_callF rfl en18 rfl (ctr18 F w1088 w.heap.size (un (inBlk (PV p116)) (un (inBlk (PV p105)) (un (inBlk (PV p90)) (un (inBlk z669) (un (inBlk (PV p31)) nb))))) c79.size (un_lt k686.ltp (un_lt k661.ltp (un_lt k103.ltp (un_lt (fun b hb => (h671.lt b hb).2) (un_lt h670.ltp nbS))))) p15 z633 z634 u635 hd1092 d641 d642 d643 y631.2.2 h636 h637 h638 x76.slice y1096 hy1097) ?_
   rintro _ w1094 ⟨rfl, c1095⟩
   have ah0 := slRep.ch k_Act_pos ah0 c1095
   have k103 := k103.ch0 c1095
   have h636 := h636.ch0 c1095
   have h637 := h637.ch0 c1095
   have h638 := h638.ch0 c1095
   have k661 := k661.ch0 c1095
   have h670 := h670.ch0 c1095
   have h671 := h671.ch0 c1095
   have k686 := k686.ch0 c1095
   have c79 := c79.then0 c1095
   refine rl_move rfl rfl ?_
   refine rl_extract rfl rfl rfl ?_
   refine rl_extract rfl rfl rfl ?_
   refine rl_storeA (vs := (Key.enc y1096.1)) rfl rfl (all_one rfl) Try.sizeOf32 rfl k661 rfl ?_
   intro w1098 s1100 c1099 k1101
   have ad1102 : ∀ b, b < w1094.heap.size → ¬ (un (inBlk (PV p116)) (un (inBlk (PV p105)) (un (inBlk (PV p90)) (un (inBlk z669) (un (inBlk (PV p31)) (un (inBlk (PV p15)) (un (inBlk z633) (un (inBlk z634) nb)))))))) b → ¬ (inBlk (PV p105)) b ∧ ¬ (un (inBlk (PV p116)) (un (inBlk (PV p105)) (un (inBlk (PV p90)) (un (inBlk z669) (un (inBlk (PV p31)) (un (inBlk (PV p15)) (un (inBlk z633) (un (inBlk z634) nb)))))))) b := fun b _ hs => ⟨fun h => hs (.inr (.inl h)), hs⟩
   have ah0 := slRep.st k_Act_pos ah0 c1099 ad1102
   have k103 := k103.ch c1099 ((fun b hb h => (disSym d110) b hb h) _ rfl)
   have h636 := h636.ch c1099 ((fun b hb h => (disSym d113) b hb h) _ rfl)
   have h637 := h637.ch c1099 ((fun b hb h => d646 b hb h))
   have h638 := h638.ch c1099 ((fun b hb h => d652 b hb h))
   have h670 := h670.ch c1099 ((fun b hb h => (disSym d112) b hb h) _ rfl)
   have h671 := h671.st c1099 (fun b hb h => d676 b hb h) ad1102 (fun b h => (.inr (.inr (.inr (.inl h)))))
   have k686 := k686.ch c1099 ((fun b hb h => d121 b hb h) _ rfl)
   have c79 := c79.then c1099 (fun i hi h => absurd (lo109 i h) (Nat.not_le_of_lt hi))
   refine rl_assign rfl rfl ?_
   refine RL.nil (thn_n (CW.seq (CW.region ?_)))
   refine rl_move rfl rfl ?_
   refine rl_fieldAddr rfl fa34_1 rfl ?_
   refine rl_loadA (cs := (Key.enc x76.slice)) rfl Try.isAgg32 Try.sizeOf32 (k103.segAt 1 2) rfl rfl ?_
   have hd1103 : ∀ b, (un (inBlk (PV p31)) (inBlk z669)) b → ¬ (un (inBlk (PV p116)) (un (inBlk (PV p105)) (un (inBlk (PV p90)) (un (inBlk (PV p15)) (un (inBlk z633) (un (inBlk z634) nb)))))) b := fun b h => un_el h (fun h => (fun b hb => fun h => un_el h (fun h => (disSym d124) b hb h) (fun h => un_el h (fun h => (disSym d112) b hb h) (fun h => un_el h (fun h => (disSym d96) b hb h) (fun h => un_el h (fun h => d61 b hb h) (fun h => un_el h (fun h => (disSym d649) b hb h) (fun h => un_el h (fun h => (disSym d655) b hb h) (fun h => h))))))) b h) (fun h => (fun b hb => fun h => un_el h (fun h => d675 b hb h) (fun h => un_el h (fun h => d676 b hb h) (fun h => un_el h (fun h => d677 b hb h) (fun h => un_el h (fun h => d678 b hb h) (fun h => un_el h (fun h => d679 b hb h) (fun h => un_el h (fun h => d680 b hb h) (fun h => h))))))) b h)
   have hS1104 : (un (inBlk (PV p116)) (un (inBlk (PV p105)) (un (inBlk (PV p90)) (un (inBlk z669) (un (inBlk (PV p31)) (un (inBlk (PV p15)) (un (inBlk z633) (un (inBlk z634) nb)))))))) = (un (inBlk (PV p31)) (un (inBlk z669) (un (inBlk (PV p116)) (un (inBlk (PV p105)) (un (inBlk (PV p90)) (un (inBlk (PV p15)) (un (inBlk z633) (un (inBlk z634) nb)))))))) := funext fun b => propext ⟨fun h => un_el h (fun h => (.inr (.inr (.inl h)))) (fun h => un_el h (fun h => (.inr (.inr (.inr (.inl h))))) (fun h => un_el h (fun h => (.inr (.inr (.inr (.inr (.inl h)))))) (fun h => un_el h (fun h => (.inr (.inl h))) (fun h => un_el h (fun h => (.inl h)) (fun h => un_el h (fun h => (.inr (.inr (.inr (.inr (.inr (.inl h))))))) (fun h => un_el h (fun h => (.inr (.inr (.inr (.inr (.inr (.inr (.inl h)))))))) (fun h => un_el h (fun h => (.inr (.inr (.inr (.inr (.inr (.inr (.inr (.inl h))))))))) (fun h => False.elim h)))))))), fun h => un_el h (fun h => (.inr (.inr (.inr (.inr (.inl h)))))) (fun h => un_el h (fun h => (.inr (.inr (.inr (.inl h))))) (fun h => un_el h (fun h => (.inl h)) (fun h => un_el h (fun h => (.inr (.inl h))) (fun h => un_el h (fun h => (.inr (.inr (.inl h)))) (fun h => un_el h (fun h => (.inr (.inr (.inr (.inr (.inr (.inl h))))))) (fun h => un_el h (fun h => (.inr (.inr (.inr (.inr (.inr (.inr (.inl h)))))))) (fun h => un_el h (fun h => (.inr (.inr (.inr (.inr (.inr (.inr (.inr (.inl h))))))))) (fun h => False.elim h))))))))⟩
   obtain ⟨y1107, hy1108⟩ : ∃ y, F19_Owner y667.2.2 x76.slice = y := ⟨_, rfl⟩
   have hb73 := ltS hy1108 hb73
   refine rl_callF rfl en19 rfl (ctr19 F w1098 w.heap.size (un (inBlk (PV p116)) (un (inBlk (PV p105)) (un (inBlk (PV p90)) (un (inBlk (PV p15)) (un (inBlk z633) (un (inBlk z634) nb)))))) c79.size (un_lt k686.ltp (un_lt k1101.ltp (un_lt k103.ltp (un_lt h636.ltp (un_lt h637.ltp (un_lt h638.ltp nbS)))))) p31 z669 hd1103 d673 y667.2.2 h670 (hS1104 ▸ h671) x76.slice y1107 hy1108) ?_
   rintro _ w1105 ⟨rfl, c1106⟩
   have ah0 := slRep.ch k_Act_pos ah0 c1106
   have h636 := h636.ch0 c1106
   have h637 := h637.ch0 c1106
   have h638 := h638.ch0 c1106
   have h670 := h670.ch0 c1106
   have h671 := h671.ch0 c1106
   have k686 := k686.ch0 c1106
   have k1101 := k1101.ch0 c1106
   have c79 := c79.then0 c1106
   refine rl_move rfl rfl ?_
   refine rl_extract rfl rfl rfl ?_
   refine rl_extract rfl rfl rfl ?_
   refine rl_storeA (vs := (Key.enc y1107.1)) rfl rfl (all_one rfl) Try.sizeOf32 rfl k686 rfl ?_
   intro w1109 s1111 c1110 k1112
   have ad1113 : ∀ b, b < w1105.heap.size → ¬ (un (inBlk (PV p116)) (un (inBlk (PV p105)) (un (inBlk (PV p90)) (un (inBlk z669) (un (inBlk (PV p31)) (un (inBlk (PV p15)) (un (inBlk z633) (un (inBlk z634) nb)))))))) b → ¬ (inBlk (PV p116)) b ∧ ¬ (un (inBlk (PV p116)) (un (inBlk (PV p105)) (un (inBlk (PV p90)) (un (inBlk z669) (un (inBlk (PV p31)) (un (inBlk (PV p15)) (un (inBlk z633) (un (inBlk z634) nb)))))))) b := fun b _ hs => ⟨fun h => hs (.inl h), hs⟩
   have ah0 := slRep.st k_Act_pos ah0 c1110 ad1113
   have h636 := h636.ch c1110 ((fun b hb h => (disSym d125) b hb h) _ rfl)
   have h637 := h637.ch c1110 ((fun b hb h => d645 b hb h))
   have h638 := h638.ch c1110 ((fun b hb h => d651 b hb h))
   have h670 := h670.ch c1110 ((fun b hb h => (disSym d124) b hb h) _ rfl)
   have h671 := h671.st c1110 (fun b hb h => d675 b hb h) ad1113 (fun b h => (.inr (.inr (.inr (.inl h)))))
   have k1101 := k1101.ch c1110 ((fun b hb h => (disSym d121) b hb h) _ rfl)
   have c79 := c79.then c1110 (fun i hi h => absurd (lo120 i h) (Nat.not_le_of_lt hi))
   refine rl_assign rfl rfl ?_
   refine RL.nil (thn_n (CW.seq (CW.region ?_)))
   refine rl_loadA (cs := (Key.enc y1096.1)) rfl Try.isAgg32 Try.sizeOf32 (k1101.segAt 0 2) rfl rfl ?_
   refine rl_loadA (cs := (Key.enc y1107.1)) rfl Try.isAgg32 Try.sizeOf32 (k1112.segAt 0 2) rfl rfl ?_
   refine rl_bin rfl rfl (neq32 y1096.1 y1107.1) rfl ?_
   refine rl_move rfl rfl ?_
   obtain ⟨b1116, hb1117⟩ : ∃ v, ((!decide (y1096.1 = y1107.1)) || (!(y1096.2 == y1107.2))) = v := ⟨_, rfl⟩
   have hb73 := ltS hb1117 hb73
   refine RL.join 4 118 (.bool b1116) (fun w' => Ch nb w1109 w') ?_ ?_
   · rcases Bool.eq_false_or_eq_true (!decide (y1096.1 = y1107.1)) with hg1115 | hg1115
     ·
      have hs1114 := or_t hg1115 hb1117
      have cs : Ch nb w1109 w1109 := Ch.refl
      refine RL.no rfl rfl rfl hg1115 rfl rfl ?_
      refine RL.no rfl rfl rfl hg1115 rfl rfl ?_
      refine RL.no rfl rfl rfl hg1115 rfl rfl ?_
      refine rl_pickT rfl hg1115 rfl rfl ?_
      exact RL.nil ⟨Ext.bothEq (congrArg Value.bool hs1114) (Ext.skip rfl (Ext.skip rfl (Ext.skip rfl (Ext.rfl')))), cs⟩
     ·
      have hs1114 := or_f hg1115 hb1117
      have cs : Ch nb w1109 w1109 := Ch.refl
      refine RL.yes rfl rfl rfl hg1115 ?_
      refine rl_move rfl rfl ?_
      refine RL.yes rfl rfl rfl hg1115 ?_
      refine rl_move rfl rfl ?_
      refine RL.yes rfl rfl rfl hg1115 ?_
      refine rl_bin rfl rfl (B.neqB Try.underlying4) rfl ?_
      refine rl_pickF rfl hg1115 rfl rfl ?_
      exact RL.nil ⟨Ext.bothEq (congrArg Value.bool hs1114) (Ext.skip rfl (Ext.skip rfl (Ext.skip rfl (Ext.rfl')))), cs⟩
   intro w1118 c1119
   have ah0 := slRep.ch k_Act_pos ah0 c1119
   have h636 := h636.ch0 c1119
   have h637 := h637.ch0 c1119
   have h638 := h638.ch0 c1119
   have h670 := h670.ch0 c1119
   have h671 := h671.ch0 c1119
   have c79 := c79.then0 c1119
   refine RL.nil (thn_n ?_)
   refine CW.cond (t := b1116) rfl (fun q1120 => ?_) (fun q1120 => ?_)
   ·
    have hb73 := ifT q1120 hb73
    refine CW.seq (CW.region ?_)
    refine rl_assign rfl rfl ?_
    refine RL.nil (thn_n (CW.ret ?_))
    refine inB_ret ?_
    refine thn_ret ?_
    refine thn_ret (inB_ret (thn_ret ?_))
    refine thn_ret ?_
    have f1121 := runBO_ret hL69 hq72 hb73
    have hS := retS f1121 hS
    obtain rfl := Option.some.inj hS
    exact ret1 rfl ⟨rfl, c79⟩
   have hb73 := ifF q1120 hb73
   refine CW.skip ?_
   refine inB_n ?_
   refine thn_n (CW.region ?_)
   refine rl_inc rfl hat70.lt ah0.big rfl ?_
   refine rl_move rfl rfl ?_
   refine RL.nil (thn_n ?_)
   have ad1122 : ∀ b, b < w1118.heap.size → ¬ (un (inBlk (PV p116)) (un (inBlk (PV p105)) (un (inBlk (PV p90)) (un (inBlk z669) (un (inBlk (PV p31)) (un (inBlk (PV p15)) (un (inBlk z633) (un (inBlk z634) nb)))))))) b → ¬ nb b ∧ ¬ (un (inBlk (PV p105)) (un (inBlk (PV p90)) (un (inBlk z669) (un (inBlk (PV p31)) (un (inBlk (PV p15)) (un (inBlk z633) (un (inBlk z634) nb))))))) b := fun b _ hs => ⟨fun x => x, fun h => hs (un_el h (fun h => (.inr (.inl h))) (fun h => un_el h (fun h => (.inr (.inr (.inl h)))) (fun h => un_el h (fun h => (.inr (.inr (.inr (.inl h))))) (fun h => un_el h (fun h => (.inr (.inr (.inr (.inr (.inl h)))))) (fun h => un_el h (fun h => (.inr (.inr (.inr (.inr (.inr (.inl h))))))) (fun h => un_el h (fun h => (.inr (.inr (.inr (.inr (.inr (.inr (.inl h)))))))) (fun h => un_el h (fun h => (.inr (.inr (.inr (.inr (.inr (.inr (.inr (.inl h))))))))) (fun h => False.elim h))))))))⟩
   have crf : Ch nb w1118 w1118 := Ch.refl
   have ah0 := slRep.st k_Act_pos ah0 crf ad1122
   have h636 := h636.ch0 crf
   have h637 := h637.ch0 crf
   have h638 := h638.ch0 crf
   have h670 := h670.ch0 crf
   have h671 := h671.st crf (fun _ _ x => x) ad1122 (fun b h => (.inr (.inr (.inl h))))
   have c79 := c79.then0 crf
   have ad1123 : ∀ b, b < w1118.heap.size → ¬ (un (inBlk (PV p105)) (un (inBlk (PV p90)) (un (inBlk z669) (un (inBlk (PV p31)) (un (inBlk (PV p15)) (un (inBlk z633) (un (inBlk z634) nb))))))) b → ¬ nb b ∧ ¬ (un (inBlk (PV p90)) (un (inBlk z669) (un (inBlk (PV p31)) (un (inBlk (PV p15)) (un (inBlk z633) (un (inBlk z634) nb)))))) b := fun b _ hs => ⟨fun x => x, fun h => hs (un_el h (fun h => (.inr (.inl h))) (fun h => un_el h (fun h => (.inr (.inr (.inl h)))) (fun h => un_el h (fun h => (.inr (.inr (.inr (.inl h))))) (fun h => un_el h (fun h => (.inr (.inr (.inr (.inr (.inl h)))))) (fun h => un_el h (fun h => (.inr (.inr (.inr (.inr (.inr (.inl h))))))) (fun h => un_el h (fun h => (.inr (.inr (.inr (.inr (.inr (.inr (.inl h)))))))) (fun h => False.elim h)))))))⟩
   have crf : Ch nb w1118 w1118 := Ch.refl
   have ah0 := slRep.st k_Act_pos ah0 crf ad1123
   have h636 := h636.ch0 crf
   have h637 := h637.ch0 crf
   have h638 := h638.ch0 crf
   have h670 := h670.ch0 crf
   have h671 := h671.st crf (fun _ _ x => x) ad1123 (fun b h => (.inr (.inl h)))
   have c79 := c79.then0 crf
   have ad1124 : ∀ b, b < w1118.heap.size → ¬ (un (inBlk (PV p90)) (un (inBlk z669) (un (inBlk (PV p31)) (un (inBlk (PV p15)) (un (inBlk z633) (un (inBlk z634) nb)))))) b → ¬ nb b ∧ ¬ (un (inBlk z669) (un (inBlk (PV p31)) (un (inBlk (PV p15)) (un (inBlk z633) (un (inBlk z634) nb))))) b := fun b _ hs => ⟨fun x => x, fun h => hs (un_el h (fun h => (.inr (.inl h))) (fun h => un_el h (fun h => (.inr (.inr (.inl h)))) (fun h => un_el h (fun h => (.inr (.inr (.inr (.inl h))))) (fun h => un_el h (fun h => (.inr (.inr (.inr (.inr (.inl h)))))) (fun h => un_el h (fun h => (.inr (.inr (.inr (.inr (.inr (.inl h))))))) (fun h => False.elim h))))))⟩
   have crf : Ch nb w1118 w1118 := Ch.refl
   have ah0 := slRep.st k_Act_pos ah0 crf ad1124
   have h636 := h636.ch0 crf
   have h637 := h637.ch0 crf
   have h638 := h638.ch0 crf
   have h670 := h670.ch0 crf
   have h671 := h671.st crf (fun _ _ x => x) ad1124 (fun b h => (.inl h))
   have c79 := c79.then0 crf
   have hLn := runBO_next hL69 hq72 hb73
   exact ⟨rest83.length, Nat.lt_succ_self _, [(3, (PV p15)), (4, (PV p31)), (18, av0), (19, (Value.int .i64 ((a0.length : Nat) : Int))), (20, (Value.int .i64 ((i68 + 1 : Nat) : Int)))], ⟨rfl, rfl, rfl, rfl, rfl, trivial⟩, ⟨rest83, i68 + 1, y631.2.2, z633, z634, u635, y667.2.2, z669, rfl, rfl, c79, hat70.next, hLn, ah0, h637, h638, h671, h636, h670, (disSym d673), d678, d679, d680, d61, (disSym d649), (disSym d655), d641, d642, d643, lo644, lo650⟩⟩
  obtain rfl := hat70.nil q82
  have hLf : Lp.fin (x44, x50) = o74 := runBO_done hL69
  refine CW.exit (thn_exit (thn_exit (inB_hit ?_)))
  exact ⟨x44, v45, v47, u49, x50, v51, trivial, c79, hLf, ah0, h46, h48, h52, k53, k54, d57, d58, d59, d60, d61, d62, d63, d64, d65, d66, lo55, lo56⟩
 rintro _ w1126 ⟨x44, v45, v47, u49, x50, v51, hE1127, c1125, f1128, ah0, h46, h48, h52, k53, k54, d57, d58, d59, d60, d61, d62, d63, d64, d65, d66, lo55, lo56⟩
 have hS := finS f1128 hS
 refine thn_n (CW.sub [] hE1127 ?_)
 refine CW.seq (CW.region ?_)
 refine rl_assign rfl rfl ?_
 refine RL.nil (thn_n (CW.ret ?_))
 obtain rfl := Option.some.inj hS
 exact ret1 rfl ⟨rfl, c1125⟩
end Go.Proofs.Ytkopifmkikaaiaa
