/- The walks through the code: each call comes to its printed function. Written by a program of this session. -/
import Derived.Test.YteoaobiglodblaaM
import Derived.Test.YteoaobiglodblaaL
import Derived.Test.YteoaobiglodblaaW2
namespace Go.Proofs.Yteoaobiglodblaa
open Go K
set_option linter.unusedVariables false
/-- lb/lbref19.Candidates -/
theorem ctr19 (F : Nat → Prop) (w : World) (a0 : (List Slice)) (av0 : Value) (ah0 : slRep k_Slice F w a0 av0) (a1 : Want) (r : (List Candidate)) (hs : F19_linkboyref19_Candidates a0 a1 = some r) :
    Ret Try.prog 19 #[av0, (Value.agg (Want.enc a1).toArray)] w fun v w' => ∃ (y0 : Value), v = y0 ∧ SlO k_Candidate 58 F w.heap.size (inBlk y0) w' r y0 ∧ Ch nb w w' := by
  have hS := hs
  have c0 : Ch nb w w := Ch.refl
  have ah0 := slRep.enter k_Slice_pos ah0
  refine Ret.of (n := 123) (args := [_, _]) (rs := [.tmp 4]) Try.func19 rfl rfl rfl rfl ?_
  refine CW.seq (CW.region ?_)
  refine rl_boxA (cs := (Want.enc a1)) rfl rfl ?_
  intro p1 w2 n3 k4
  have gp1 : (G F w.heap.size nb) p1 := ⟨.inr (by rw [n3.eq]; exact c0.size), fun h => absurd (nbS _ h) (by rw [n3.eq]; exact Nat.lt_irrefl _)⟩
  have ah0 := slRep.ch k_Slice_pos ah0 n3.ch
  have c0 := c0.then0 n3.ch
  refine rl_assign rfl rfl ?_
  refine RL.nil ?_
  refine thn_n ?_
  refine CW.seq (CW.region ?_)
  refine rl_bslice (k := k_Candidate) (F := F) (B := w.heap.size) (S := nb) ([] : List Candidate) rfl k_Candidate_pos Try.underlying28 Try.sizeOf58 Try.zeroValue58 rfl rfl trivial c0.size nbS rfl ?_
  intro v5 w6 c7 hf8 h9
  have ah0 := slRep.st k_Slice_pos ah0 c7 (admNew hf8 (fun _ x => x))
  have gp1n : (G F w.heap.size (un (inBlk v5) nb)) p1 := ⟨gp1.1, ((admNew hf8 (fun _ x => x)) _ k4.lt gp1.2).2⟩
  have k4 := k4.ch0 c7
  have gp1 := gp1n
  have c0 := c0.then0 c7
  refine rl_assign rfl rfl ?_
  refine RL.nil ?_
  refine thn_n ?_
  refine CW.seq ?_
  refine CW.seq (CW.region ?_)
  refine rl_move rfl rfl ?_
  refine rl_lenR rfl ah0 Try.underlying48 rfl ?_
  refine rl_move rfl rfl ?_
  refine RL.nil ?_
  refine thn_n ?_
  obtain ⟨o20, ho21, hS⟩ := bindS hS
  refine CW.cutB (fun E' w' => ∃ (x10 : (List Candidate)) (v11 : Value), Sub [(5, v11)] E' ∧ Ch nb w w' ∧ x10 = o20 ∧ slRep k_Slice (G F w.heap.size (un (inBlk v11) nb)) w' a0 av0 ∧ Blk w' p1 35 (Want.enc a1) ∧ SlO k_Candidate 58 F w.heap.size (un (inBlk v11) nb) w' x10 v11 ∧ (G F w.heap.size (un (inBlk v11) nb)) p1) ?_ ?_
  ·
   refine CW.loopS [(3, (Value.pointer (some ⟨p1, 0, none⟩))), (20, av0), (21, (Value.int .i64 ((a0.length : Nat) : Int))), (5, v5), (22, (Value.int .i64 ((0 : Nat) : Int)))] ⟨rfl, rfl, rfl, rfl, rfl, trivial⟩ a0.length (fun m E w' => ∃ (rest13 : List Slice) (i14 : Nat) (x10 : (List Candidate)) (v11 : Value), m = rest13.length ∧ E = [(3, (Value.pointer (some ⟨p1, 0, none⟩))), (20, av0), (21, (Value.int .i64 ((a0.length : Nat) : Int))), (5, v11), (22, (Value.int .i64 ((i14 : Nat) : Int)))] ∧ Ch nb w w' ∧ At a0 i14 rest13 ∧ runAO (F19_linkboyref19_Candidates_b1 a1) rest13 x10 = some o20 ∧ slRep k_Slice (G F w.heap.size (un (inBlk v11) nb)) w' a0 av0 ∧ Blk w' p1 35 (Want.enc a1) ∧ SlO k_Candidate 58 F w.heap.size (un (inBlk v11) nb) w' x10 v11 ∧ (G F w.heap.size (un (inBlk v11) nb)) p1)
       ⟨a0, 0, [], v5, rfl, rfl, c0, At.start, ho21, ah0, k4, h9, gp1⟩ ?_
   rintro _ _ w26 ⟨rest13, i14, x10, v11, rfl, rfl, c25, hat16, hL15, ah0, k4, h12, gp1⟩
   refine CW.seq (CW.region ?_)
   refine rl_bin rfl rfl B.lss rfl ?_
   refine RL.nil (thn_n ?_)
   refine CW.seq ?_
   refine CW.cond (t := decide (((i14 : Nat) : Int) < ((a0.length : Nat) : Int))) rfl (fun q28 => ?_) (fun q28 => ?_)
   ·
    obtain ⟨x22, rest29, rfl⟩ := hat16.cons q28
    obtain ⟨q17, hq18⟩ := runAO_some hL15
    have hb19 := hq18
    refine CW.skip (thn_n ?_)
    refine CW.seq ?_
    refine CW.block ?_
    refine CW.seq (CW.region ?_)
    refine rl_ixR rfl ah0 rfl hat16.get Try.underlying48 Try.sizeOf76 rfl ?_
    intro p30 o31 cs32 hr33 hs34 hg35
    obtain ⟨z36, z37, rfl, h38, h39⟩ := hr33
    refine rl_loadA (cs := (Slice.c x22 z36 z37)) rfl Try.isAgg76 Try.sizeOf76 (hs34) rfl rfl ?_
    refine rl_alloc (Slice.c Slice.z (Value.slice none 0 0) (Value.slice none 0 0)) Try.zeroValue76 rfl rfl ?_
    intro p40 w41 n42 k43
    have lo44 : ∀ b, inBlk (Value.pointer (some ⟨p40, 0, none⟩)) b → w.heap.size ≤ b := fun b h => Nat.le_trans c25.size (n42.fresh b h)
    have d45 : ∀ b, inBlk (Value.pointer (some ⟨p40, 0, none⟩)) b → ¬ inBlk v11 b := disNew n42.fresh (fun b hb => (h12.lt b hb).2)
    have ah0 := slRep.st k_Slice_pos ah0 n42.ch (admNew n42.fresh (fun _ x => x))
    have gp1n : (G F w.heap.size (un (inBlk (Value.pointer (some ⟨p40, 0, none⟩))) (un (inBlk v11) nb))) p1 := ⟨gp1.1, ((admNew n42.fresh (fun _ x => x)) _ k4.lt gp1.2).2⟩
    have k4 := k4.ch0 n42.ch
    have gp1 := gp1n
    have h12 := h12.st n42.ch (fun _ _ x => x) (admNew n42.fresh (fun _ x => x)) (fun b h => (.inr (.inl h)))
    have h38 := slRep.st k_Port_pos h38 n42.ch (admNew n42.fresh (fun _ x => x))
    have h39 := slRep.st k_Endpoint_pos h39 n42.ch (admNew n42.fresh (fun _ x => x))
    have c25 := c25.then0 n42.ch
    refine rl_storeA (vs := (Slice.c x22 z36 z37)) rfl rfl (Kd.one _ (show k_Slice.rep (G F w.heap.size (un (inBlk (Value.pointer (some ⟨p40, 0, none⟩))) (un (inBlk v11) nb))) w41 x22 (Slice.c x22 z36 z37) from ⟨z36, z37, rfl, h38, h39⟩)) Try.sizeOf76 rfl k43 rfl ?_
    intro w46 s48 c47 k49
    have ad50 : ∀ b, b < w41.heap.size → ¬ (un (inBlk (Value.pointer (some ⟨p40, 0, none⟩))) (un (inBlk v11) nb)) b → ¬ (inBlk (Value.pointer (some ⟨p40, 0, none⟩))) b ∧ ¬ (un (inBlk (Value.pointer (some ⟨p40, 0, none⟩))) (un (inBlk v11) nb)) b := fun b _ hs => ⟨fun h => hs (.inl h), hs⟩
    have ah0 := slRep.st k_Slice_pos ah0 c47 ad50
    have k4 := k4.ch c47 (ad50 _ k4.lt gp1.2).1
    have h12 := h12.st c47 (fun b hb h => (disSym d45) b hb h) ad50 (fun b h => (.inr (.inl h)))
    have h38 := slRep.st k_Port_pos h38 c47 ad50
    have h39 := slRep.st k_Endpoint_pos h39 c47 ad50
    have c25 := c25.then c47 (fun i hi h => absurd (lo44 i h) (Nat.not_le_of_lt hi))
    refine RL.nil ?_
    refine thn_n ?_
    refine CW.seq (CW.region ?_)
    refine rl_fieldAddr rfl fa76_3 rfl ?_
    refine rl_loadS (v := z36) rfl Try.isAgg73 (k49.cell rfl) rfl ?_
    refine rl_lenR rfl h38 Try.underlying73 rfl ?_
    refine rl_move rfl rfl ?_
    refine RL.nil ?_
    refine thn_n ?_
    obtain ⟨o62, ho63, hb19⟩ := bindS hb19
    refine CW.cutB (fun E' w' => ∃ (x51 : (List Candidate)) (v52 : Value), Sub [(3, (Value.pointer (some ⟨p1, 0, none⟩))), (20, av0), (21, (Value.int .i64 ((a0.length : Nat) : Int))), (22, (Value.int .i64 ((i14 : Nat) : Int))), (5, v52)] E' ∧ Ch nb w w' ∧ x51 = o62 ∧ slRep k_Slice (G F w.heap.size (un (inBlk (Value.pointer (some ⟨p40, 0, none⟩))) (un (inBlk v52) nb))) w' a0 av0 ∧ Blk w' p1 35 (Want.enc a1) ∧ slRep k_Port (G F w.heap.size (un (inBlk (Value.pointer (some ⟨p40, 0, none⟩))) (un (inBlk v52) nb))) w' x22.ports z36 ∧ slRep k_Endpoint (G F w.heap.size (un (inBlk (Value.pointer (some ⟨p40, 0, none⟩))) (un (inBlk v52) nb))) w' x22.endpoints z37 ∧ Blk w' p40 76 (Slice.c x22 z36 z37) ∧ SlO k_Candidate 58 F w.heap.size (un (inBlk (Value.pointer (some ⟨p40, 0, none⟩))) (un (inBlk v52) nb)) w' x51 v52 ∧ (G F w.heap.size (un (inBlk (Value.pointer (some ⟨p40, 0, none⟩))) (un (inBlk v52) nb))) p1 ∧ (∀ b, inBlk (Value.pointer (some ⟨p40, 0, none⟩)) b → ¬ inBlk v52 b)) ?_ ?_
    ·
     refine CW.loopS [(3, (Value.pointer (some ⟨p1, 0, none⟩))), (7, (Value.pointer (some ⟨p40, 0, none⟩))), (20, av0), (21, (Value.int .i64 ((a0.length : Nat) : Int))), (22, (Value.int .i64 ((i14 : Nat) : Int))), (27, z36), (28, (Value.int .i64 ((x22.ports.length : Nat) : Int))), (5, v11), (29, (Value.int .i64 ((0 : Nat) : Int)))] ⟨rfl, rfl, rfl, rfl, rfl, rfl, rfl, rfl, rfl, trivial⟩ x22.ports.length (fun m E w' => ∃ (rest55 : List Port) (i56 : Nat) (x51 : (List Candidate)) (v52 : Value), m = rest55.length ∧ E = [(3, (Value.pointer (some ⟨p1, 0, none⟩))), (7, (Value.pointer (some ⟨p40, 0, none⟩))), (20, av0), (21, (Value.int .i64 ((a0.length : Nat) : Int))), (22, (Value.int .i64 ((i14 : Nat) : Int))), (27, z36), (28, (Value.int .i64 ((x22.ports.length : Nat) : Int))), (5, v52), (29, (Value.int .i64 ((i56 : Nat) : Int)))] ∧ Ch nb w w' ∧ At x22.ports i56 rest55 ∧ runAO (F19_linkboyref19_Candidates_b2 a1 x22) rest55 x51 = some o62 ∧ slRep k_Slice (G F w.heap.size (un (inBlk (Value.pointer (some ⟨p40, 0, none⟩))) (un (inBlk v52) nb))) w' a0 av0 ∧ Blk w' p1 35 (Want.enc a1) ∧ slRep k_Port (G F w.heap.size (un (inBlk (Value.pointer (some ⟨p40, 0, none⟩))) (un (inBlk v52) nb))) w' x22.ports z36 ∧ slRep k_Endpoint (G F w.heap.size (un (inBlk (Value.pointer (some ⟨p40, 0, none⟩))) (un (inBlk v52) nb))) w' x22.endpoints z37 ∧ Blk w' p40 76 (Slice.c x22 z36 z37) ∧ SlO k_Candidate 58 F w.heap.size (un (inBlk (Value.pointer (some ⟨p40, 0, none⟩))) (un (inBlk v52) nb)) w' x51 v52 ∧ (G F w.heap.size (un (inBlk (Value.pointer (some ⟨p40, 0, none⟩))) (un (inBlk v52) nb))) p1 ∧ (∀ b, inBlk (Value.pointer (some ⟨p40, 0, none⟩)) b → ¬ inBlk v52 b))
         ⟨x22.ports, 0, x10, v11, rfl, rfl, c25, At.start, ho63, ah0, k4, h38, h39, k49, h12, gp1, d45⟩ ?_
     rintro _ _ w68 ⟨rest55, i56, x51, v52, rfl, rfl, c67, hat58, hL57, ah0, k4, h38, h39, k49, h53, gp1, d54⟩
     refine CW.seq (CW.region ?_)
     refine rl_bin rfl rfl B.lss rfl ?_
     refine RL.nil (thn_n ?_)
     refine CW.seq ?_
     refine CW.cond (t := decide (((i56 : Nat) : Int) < ((x22.ports.length : Nat) : Int))) rfl (fun q70 => ?_) (fun q70 => ?_)
     ·
      obtain ⟨x64, rest71, rfl⟩ := hat58.cons q70
      obtain ⟨q59, hq60⟩ := runAO_some hL57
      have hb61 := hq60
      refine CW.skip (thn_n ?_)
      refine CW.seq ?_
      refine CW.block ?_
      refine CW.seq (CW.region ?_)
      refine rl_ixR rfl h38 rfl hat58.get Try.underlying73 Try.sizeOf88 rfl ?_
      intro p72 o73 cs74 hr75 hs76 hg77
      obtain rfl := hr75
      refine rl_loadA (cs := (Port.enc x64)) rfl Try.isAgg88 Try.sizeOf88 (hs76) rfl rfl ?_
      refine rl_alloc (Port.enc Port.z) Try.zeroValue88 rfl rfl ?_
      intro p78 w79 n80 k81
      have lo82 : ∀ b, inBlk (Value.pointer (some ⟨p78, 0, none⟩)) b → w.heap.size ≤ b := fun b h => Nat.le_trans c67.size (n80.fresh b h)
      have d83 : ∀ b, inBlk (Value.pointer (some ⟨p78, 0, none⟩)) b → ¬ inBlk (Value.pointer (some ⟨p40, 0, none⟩)) b := disNew n80.fresh k49.ltp
      have d84 : ∀ b, inBlk (Value.pointer (some ⟨p78, 0, none⟩)) b → ¬ inBlk v52 b := disNew n80.fresh (fun b hb => (h53.lt b hb).2)
      have ah0 := slRep.st k_Slice_pos ah0 n80.ch (admNew n80.fresh (fun _ x => x))
      have gp1n : (G F w.heap.size (un (inBlk (Value.pointer (some ⟨p78, 0, none⟩))) (un (inBlk (Value.pointer (some ⟨p40, 0, none⟩))) (un (inBlk v52) nb)))) p1 := ⟨gp1.1, ((admNew n80.fresh (fun _ x => x)) _ k4.lt gp1.2).2⟩
      have k4 := k4.ch0 n80.ch
      have gp1 := gp1n
      have h38 := slRep.st k_Port_pos h38 n80.ch (admNew n80.fresh (fun _ x => x))
      have h39 := slRep.st k_Endpoint_pos h39 n80.ch (admNew n80.fresh (fun _ x => x))
      have k49 := k49.ch0 n80.ch
      have h53 := h53.st n80.ch (fun _ _ x => x) (admNew n80.fresh (fun _ x => x)) (fun b h => (.inr (.inr (.inl h))))
      have c67 := c67.then0 n80.ch
      refine rl_storeA (vs := (Port.enc x64)) rfl rfl (all_one rfl) Try.sizeOf88 rfl k81 rfl ?_
      intro w85 s87 c86 k88
      have ad89 : ∀ b, b < w79.heap.size → ¬ (un (inBlk (Value.pointer (some ⟨p78, 0, none⟩))) (un (inBlk (Value.pointer (some ⟨p40, 0, none⟩))) (un (inBlk v52) nb))) b → ¬ (inBlk (Value.pointer (some ⟨p78, 0, none⟩))) b ∧ ¬ (un (inBlk (Value.pointer (some ⟨p78, 0, none⟩))) (un (inBlk (Value.pointer (some ⟨p40, 0, none⟩))) (un (inBlk v52) nb))) b := fun b _ hs => ⟨fun h => hs (.inl h), hs⟩
      have ah0 := slRep.st k_Slice_pos ah0 c86 ad89
      have k4 := k4.ch c86 (ad89 _ k4.lt gp1.2).1
      have h38 := slRep.st k_Port_pos h38 c86 ad89
      have h39 := slRep.st k_Endpoint_pos h39 c86 ad89
      have k49 := k49.ch c86 ((fun b hb h => (disSym d83) b hb h) _ rfl)
      have h53 := h53.st c86 (fun b hb h => (disSym d84) b hb h) ad89 (fun b h => (.inr (.inr (.inl h))))
      have c67 := c67.then c86 (fun i hi h => absurd (lo82 i h) (Nat.not_le_of_lt hi))
      refine RL.nil ?_
      refine thn_n ?_
      refine CW.seq (CW.region ?_)
      refine rl_fieldAddr rfl fa76_4 rfl ?_
      refine rl_loadS (v := z37) rfl Try.isAgg74 (k49.cell rfl) rfl ?_
      refine rl_lenR rfl h39 Try.underlying74 rfl ?_
      refine rl_move rfl rfl ?_
      refine RL.nil ?_
      refine thn_n ?_
      obtain ⟨o103, ho104, hb61⟩ := bindS hb61
      refine CW.cutB (fun E' w' => ∃ (x90 : (List Candidate)) (v91 : Value), Sub [(3, (Value.pointer (some ⟨p1, 0, none⟩))), (7, (Value.pointer (some ⟨p40, 0, none⟩))), (20, av0), (21, (Value.int .i64 ((a0.length : Nat) : Int))), (22, (Value.int .i64 ((i14 : Nat) : Int))), (27, z36), (28, (Value.int .i64 ((x22.ports.length : Nat) : Int))), (29, (Value.int .i64 ((i56 : Nat) : Int))), (5, v91)] E' ∧ Ch nb w w' ∧ x90 = o103 ∧ slRep k_Slice (G F w.heap.size (un (inBlk (Value.pointer (some ⟨p78, 0, none⟩))) (un (inBlk (Value.pointer (some ⟨p40, 0, none⟩))) (un (inBlk v91) nb)))) w' a0 av0 ∧ Blk w' p1 35 (Want.enc a1) ∧ slRep k_Port (G F w.heap.size (un (inBlk (Value.pointer (some ⟨p78, 0, none⟩))) (un (inBlk (Value.pointer (some ⟨p40, 0, none⟩))) (un (inBlk v91) nb)))) w' x22.ports z36 ∧ slRep k_Endpoint (G F w.heap.size (un (inBlk (Value.pointer (some ⟨p78, 0, none⟩))) (un (inBlk (Value.pointer (some ⟨p40, 0, none⟩))) (un (inBlk v91) nb)))) w' x22.endpoints z37 ∧ Blk w' p40 76 (Slice.c x22 z36 z37) ∧ Blk w' p78 88 (Port.enc x64) ∧ SlO k_Candidate 58 F w.heap.size (un (inBlk (Value.pointer (some ⟨p78, 0, none⟩))) (un (inBlk (Value.pointer (some ⟨p40, 0, none⟩))) (un (inBlk v91) nb))) w' x90 v91 ∧ (G F w.heap.size (un (inBlk (Value.pointer (some ⟨p78, 0, none⟩))) (un (inBlk (Value.pointer (some ⟨p40, 0, none⟩))) (un (inBlk v91) nb)))) p1 ∧ (∀ b, inBlk (Value.pointer (some ⟨p78, 0, none⟩)) b → ¬ inBlk (Value.pointer (some ⟨p40, 0, none⟩)) b) ∧ (∀ b, inBlk (Value.pointer (some ⟨p78, 0, none⟩)) b → ¬ inBlk v91 b) ∧ (∀ b, inBlk (Value.pointer (some ⟨p40, 0, none⟩)) b → ¬ inBlk v91 b)) ?_ ?_
      ·
       refine CW.loopS [(3, (Value.pointer (some ⟨p1, 0, none⟩))), (7, (Value.pointer (some ⟨p40, 0, none⟩))), (9, (Value.pointer (some ⟨p78, 0, none⟩))), (20, av0), (21, (Value.int .i64 ((a0.length : Nat) : Int))), (22, (Value.int .i64 ((i14 : Nat) : Int))), (27, z36), (28, (Value.int .i64 ((x22.ports.length : Nat) : Int))), (29, (Value.int .i64 ((i56 : Nat) : Int))), (34, z37), (35, (Value.int .i64 ((x22.endpoints.length : Nat) : Int))), (5, v52), (36, (Value.int .i64 ((0 : Nat) : Int)))] ⟨rfl, rfl, rfl, rfl, rfl, rfl, rfl, rfl, rfl, rfl, rfl, rfl, rfl, trivial⟩ x22.endpoints.length (fun m E w' => ∃ (rest96 : List Endpoint) (i97 : Nat) (x90 : (List Candidate)) (v91 : Value), m = rest96.length ∧ E = [(3, (Value.pointer (some ⟨p1, 0, none⟩))), (7, (Value.pointer (some ⟨p40, 0, none⟩))), (9, (Value.pointer (some ⟨p78, 0, none⟩))), (20, av0), (21, (Value.int .i64 ((a0.length : Nat) : Int))), (22, (Value.int .i64 ((i14 : Nat) : Int))), (27, z36), (28, (Value.int .i64 ((x22.ports.length : Nat) : Int))), (29, (Value.int .i64 ((i56 : Nat) : Int))), (34, z37), (35, (Value.int .i64 ((x22.endpoints.length : Nat) : Int))), (5, v91), (36, (Value.int .i64 ((i97 : Nat) : Int)))] ∧ Ch nb w w' ∧ At x22.endpoints i97 rest96 ∧ runAO (F19_linkboyref19_Candidates_b3 a1 x22 x64) rest96 x90 = some o103 ∧ slRep k_Slice (G F w.heap.size (un (inBlk (Value.pointer (some ⟨p78, 0, none⟩))) (un (inBlk (Value.pointer (some ⟨p40, 0, none⟩))) (un (inBlk v91) nb)))) w' a0 av0 ∧ Blk w' p1 35 (Want.enc a1) ∧ slRep k_Port (G F w.heap.size (un (inBlk (Value.pointer (some ⟨p78, 0, none⟩))) (un (inBlk (Value.pointer (some ⟨p40, 0, none⟩))) (un (inBlk v91) nb)))) w' x22.ports z36 ∧ slRep k_Endpoint (G F w.heap.size (un (inBlk (Value.pointer (some ⟨p78, 0, none⟩))) (un (inBlk (Value.pointer (some ⟨p40, 0, none⟩))) (un (inBlk v91) nb)))) w' x22.endpoints z37 ∧ Blk w' p40 76 (Slice.c x22 z36 z37) ∧ Blk w' p78 88 (Port.enc x64) ∧ SlO k_Candidate 58 F w.heap.size (un (inBlk (Value.pointer (some ⟨p78, 0, none⟩))) (un (inBlk (Value.pointer (some ⟨p40, 0, none⟩))) (un (inBlk v91) nb))) w' x90 v91 ∧ (G F w.heap.size (un (inBlk (Value.pointer (some ⟨p78, 0, none⟩))) (un (inBlk (Value.pointer (some ⟨p40, 0, none⟩))) (un (inBlk v91) nb)))) p1 ∧ (∀ b, inBlk (Value.pointer (some ⟨p78, 0, none⟩)) b → ¬ inBlk (Value.pointer (some ⟨p40, 0, none⟩)) b) ∧ (∀ b, inBlk (Value.pointer (some ⟨p78, 0, none⟩)) b → ¬ inBlk v91 b) ∧ (∀ b, inBlk (Value.pointer (some ⟨p40, 0, none⟩)) b → ¬ inBlk v91 b))
           ⟨x22.endpoints, 0, x51, v52, rfl, rfl, c67, At.start, ho104, ah0, k4, h38, h39, k49, k88, h53, gp1, d83, d84, d54⟩ ?_
       rintro _ _ w109 ⟨rest96, i97, x90, v91, rfl, rfl, c108, hat99, hL98, ah0, k4, h38, h39, k49, k88, h92, gp1, d93, d94, d95⟩
       refine CW.seq (CW.region ?_)
       refine rl_bin rfl rfl B.lss rfl ?_
       refine RL.nil (thn_n ?_)
       refine CW.seq ?_
       refine CW.cond (t := decide (((i97 : Nat) : Int) < ((x22.endpoints.length : Nat) : Int))) rfl (fun q111 => ?_) (fun q111 => ?_)
       ·
        obtain ⟨x105, rest112, rfl⟩ := hat99.cons q111
        obtain ⟨q100, hq101⟩ := runAO_some hL98
        have hb102 := hq101
        refine CW.skip (thn_n ?_)
        refine CW.seq ?_
        refine CW.block ?_
        refine CW.seq (CW.region ?_)
        refine rl_ixR rfl h39 rfl hat99.get Try.underlying74 Try.sizeOf89 rfl ?_
        intro p113 o114 cs115 hr116 hs117 hg118
        obtain ⟨z119, rfl, h120⟩ := hr116
        refine rl_loadA (cs := (Endpoint.c x105 z119)) rfl Try.isAgg89 Try.sizeOf89 (hs117) rfl rfl ?_
        refine rl_alloc (Endpoint.c Endpoint.z (Value.slice none 0 0)) Try.zeroValue89 rfl rfl ?_
        intro p121 w122 n123 k124
        have lo125 : ∀ b, inBlk (Value.pointer (some ⟨p121, 0, none⟩)) b → w.heap.size ≤ b := fun b h => Nat.le_trans c108.size (n123.fresh b h)
        have d126 : ∀ b, inBlk (Value.pointer (some ⟨p121, 0, none⟩)) b → ¬ inBlk (Value.pointer (some ⟨p78, 0, none⟩)) b := disNew n123.fresh k88.ltp
        have d127 : ∀ b, inBlk (Value.pointer (some ⟨p121, 0, none⟩)) b → ¬ inBlk (Value.pointer (some ⟨p40, 0, none⟩)) b := disNew n123.fresh k49.ltp
        have d128 : ∀ b, inBlk (Value.pointer (some ⟨p121, 0, none⟩)) b → ¬ inBlk v91 b := disNew n123.fresh (fun b hb => (h92.lt b hb).2)
        have ah0 := slRep.st k_Slice_pos ah0 n123.ch (admNew n123.fresh (fun _ x => x))
        have gp1n : (G F w.heap.size (un (inBlk (Value.pointer (some ⟨p121, 0, none⟩))) (un (inBlk (Value.pointer (some ⟨p78, 0, none⟩))) (un (inBlk (Value.pointer (some ⟨p40, 0, none⟩))) (un (inBlk v91) nb))))) p1 := ⟨gp1.1, ((admNew n123.fresh (fun _ x => x)) _ k4.lt gp1.2).2⟩
        have k4 := k4.ch0 n123.ch
        have gp1 := gp1n
        have h38 := slRep.st k_Port_pos h38 n123.ch (admNew n123.fresh (fun _ x => x))
        have h39 := slRep.st k_Endpoint_pos h39 n123.ch (admNew n123.fresh (fun _ x => x))
        have k49 := k49.ch0 n123.ch
        have k88 := k88.ch0 n123.ch
        have h92 := h92.st n123.ch (fun _ _ x => x) (admNew n123.fresh (fun _ x => x)) (fun b h => (.inr (.inr (.inr (.inl h)))))
        have h120 := slRep.st kStr_pos h120 n123.ch (admNew n123.fresh (fun _ x => x))
        have c108 := c108.then0 n123.ch
        refine rl_storeA (vs := (Endpoint.c x105 z119)) rfl rfl (Kd.one _ (show k_Endpoint.rep (G F w.heap.size (un (inBlk (Value.pointer (some ⟨p121, 0, none⟩))) (un (inBlk (Value.pointer (some ⟨p78, 0, none⟩))) (un (inBlk (Value.pointer (some ⟨p40, 0, none⟩))) (un (inBlk v91) nb))))) w122 x105 (Endpoint.c x105 z119) from ⟨z119, rfl, h120⟩)) Try.sizeOf89 rfl k124 rfl ?_
        intro w129 s131 c130 k132
        have ad133 : ∀ b, b < w122.heap.size → ¬ (un (inBlk (Value.pointer (some ⟨p121, 0, none⟩))) (un (inBlk (Value.pointer (some ⟨p78, 0, none⟩))) (un (inBlk (Value.pointer (some ⟨p40, 0, none⟩))) (un (inBlk v91) nb)))) b → ¬ (inBlk (Value.pointer (some ⟨p121, 0, none⟩))) b ∧ ¬ (un (inBlk (Value.pointer (some ⟨p121, 0, none⟩))) (un (inBlk (Value.pointer (some ⟨p78, 0, none⟩))) (un (inBlk (Value.pointer (some ⟨p40, 0, none⟩))) (un (inBlk v91) nb)))) b := fun b _ hs => ⟨fun h => hs (.inl h), hs⟩
        have ah0 := slRep.st k_Slice_pos ah0 c130 ad133
        have k4 := k4.ch c130 (ad133 _ k4.lt gp1.2).1
        have h38 := slRep.st k_Port_pos h38 c130 ad133
        have h39 := slRep.st k_Endpoint_pos h39 c130 ad133
        have k49 := k49.ch c130 ((fun b hb h => (disSym d127) b hb h) _ rfl)
        have k88 := k88.ch c130 ((fun b hb h => (disSym d126) b hb h) _ rfl)
        have h92 := h92.st c130 (fun b hb h => (disSym d128) b hb h) ad133 (fun b h => (.inr (.inr (.inr (.inl h)))))
        have h120 := slRep.st kStr_pos h120 c130 ad133
        have c108 := c108.then c130 (fun i hi h => absurd (lo125 i h) (Nat.not_le_of_lt hi))
        refine RL.nil ?_
        refine thn_n ?_
        refine CW.seq (CW.region ?_)
        refine rl_fieldAddr rfl fa76_2 rfl ?_
        refine rl_loadS (v := (Value.bool x22.six)) rfl Try.isAgg4 (k49.cell rfl) rfl ?_
        refine rl_fieldAddr rfl fa35_2 rfl ?_
        refine rl_loadS (v := (Value.bool a1.six)) rfl Try.isAgg4 (k4.cell rfl) rfl ?_
        refine rl_bin rfl rfl (B.eqlB Try.underlying4) rfl ?_
        refine rl_move rfl rfl ?_
        obtain ⟨b136, hb137⟩ : ∃ v, ((x22.six == a1.six) && (decide (x64.name = a1.name))) = v := ⟨_, rfl⟩
        have hb102 := ltS hb137 hb102
        refine RL.join 6 51 (.bool b136) (fun w' => Ch nb w129 w') ?_ ?_
        · rcases Bool.eq_false_or_eq_true (x22.six == a1.six) with hg135 | hg135
          ·
           have hs134 := and_t hg135 hb137
           have cs : Ch nb w129 w129 := Ch.refl
           refine RL.yes rfl rfl rfl hg135 ?_
           refine rl_fieldAddr rfl fa88_0 rfl ?_
           refine RL.yes rfl rfl rfl hg135 ?_
           refine rl_loadS (v := (Value.string x64.name)) rfl Try.isAgg9 (k88.cell rfl) rfl ?_
           refine RL.yes rfl rfl rfl hg135 ?_
           refine rl_fieldAddr rfl fa35_0 rfl ?_
           refine RL.yes rfl rfl rfl hg135 ?_
           refine rl_loadS (v := (Value.string a1.name)) rfl Try.isAgg9 (k4.cell rfl) rfl ?_
           refine RL.yes rfl rfl rfl hg135 ?_
           refine rl_bin rfl rfl B.eqlS rfl ?_
           refine rl_pickT rfl hg135 rfl rfl ?_
           exact RL.nil ⟨Ext.bothEq (congrArg Value.bool hs134) (Ext.skip rfl (Ext.skip rfl (Ext.skip rfl (Ext.skip rfl (Ext.skip rfl (Ext.rfl')))))), cs⟩
          ·
           have hs134 := and_f hg135 hb137
           have cs : Ch nb w129 w129 := Ch.refl
           refine RL.no rfl rfl rfl hg135 rfl rfl ?_
           refine RL.no rfl rfl rfl hg135 rfl rfl ?_
           refine RL.no rfl rfl rfl hg135 rfl rfl ?_
           refine RL.no rfl rfl rfl hg135 rfl rfl ?_
           refine RL.no rfl rfl rfl hg135 rfl rfl ?_
           refine rl_pickF rfl hg135 rfl rfl ?_
           exact RL.nil ⟨Ext.bothEq (congrArg Value.bool hs134) (Ext.skip rfl (Ext.skip rfl (Ext.skip rfl (Ext.skip rfl (Ext.skip rfl (Ext.rfl')))))), cs⟩
        intro w138 c139
        have ah0 := slRep.ch k_Slice_pos ah0 c139
        have k4 := k4.ch0 c139
        have h38 := slRep.ch k_Port_pos h38 c139
        have h39 := slRep.ch k_Endpoint_pos h39 c139
        have k49 := k49.ch0 c139
        have k88 := k88.ch0 c139
        have h92 := h92.ch0 c139
        have h120 := slRep.ch kStr_pos h120 c139
        have k132 := k132.ch0 c139
        have c108 := c108.then0 c139
        refine rl_move rfl rfl ?_
        obtain ⟨b142, hb143⟩ : ∃ v, (b136 && (decide (x64.proto = a1.proto))) = v := ⟨_, rfl⟩
        have hb102 := ltS hb143 hb102
        refine RL.join 6 58 (.bool b142) (fun w' => Ch nb w138 w') ?_ ?_
        · rcases Bool.eq_false_or_eq_true b136 with hg141 | hg141
          ·
           have hs140 := and_t hg141 hb143
           have cs : Ch nb w138 w138 := Ch.refl
           refine RL.yes rfl rfl rfl hg141 ?_
           refine rl_fieldAddr rfl fa88_1 rfl ?_
           refine RL.yes rfl rfl rfl hg141 ?_
           refine rl_loadS (v := (Value.int .i64 x64.proto)) rfl Try.isAgg3 (k88.cell rfl) rfl ?_
           refine RL.yes rfl rfl rfl hg141 ?_
           refine rl_fieldAddr rfl fa35_1 rfl ?_
           refine RL.yes rfl rfl rfl hg141 ?_
           refine rl_loadS (v := (Value.int .i64 a1.proto)) rfl Try.isAgg3 (k4.cell rfl) rfl ?_
           refine RL.yes rfl rfl rfl hg141 ?_
           refine rl_bin rfl rfl B.eql rfl ?_
           refine rl_pickT rfl hg141 rfl rfl ?_
           exact RL.nil ⟨Ext.bothEq (congrArg Value.bool hs140) (Ext.skip rfl (Ext.skip rfl (Ext.skip rfl (Ext.skip rfl (Ext.skip rfl (Ext.rfl')))))), cs⟩
          ·
           have hs140 := and_f hg141 hb143
           have cs : Ch nb w138 w138 := Ch.refl
           refine RL.no rfl rfl rfl hg141 rfl rfl ?_
           refine RL.no rfl rfl rfl hg141 rfl rfl ?_
           refine RL.no rfl rfl rfl hg141 rfl rfl ?_
           refine RL.no rfl rfl rfl hg141 rfl rfl ?_
           refine RL.no rfl rfl rfl hg141 rfl rfl ?_
           refine rl_pickF rfl hg141 rfl rfl ?_
           exact RL.nil ⟨Ext.bothEq (congrArg Value.bool hs140) (Ext.skip rfl (Ext.skip rfl (Ext.skip rfl (Ext.skip rfl (Ext.skip rfl (Ext.rfl')))))), cs⟩
        intro w144 c145
        have ah0 := slRep.ch k_Slice_pos ah0 c145
        have k4 := k4.ch0 c145
        have h38 := slRep.ch k_Port_pos h38 c145
        have h39 := slRep.ch k_Endpoint_pos h39 c145
        have k49 := k49.ch0 c145
        have k88 := k88.ch0 c145
        have h92 := h92.ch0 c145
        have h120 := slRep.ch kStr_pos h120 c145
        have k132 := k132.ch0 c145
        have c108 := c108.then0 c145
        refine RL.nil ?_
        refine thn_n ?_
        refine CW.cond (t := b142) rfl (fun q146 => ?_) (fun q146 => ?_)
        ·
         have hb102 := ifT q146 hb102
         refine CW.seq (CW.region ?_)
         refine rl_fieldAddr rfl fa89_0 rfl ?_
         refine rl_loadA (cs := (Addr.enc x105.addr)) rfl Try.isAgg39 Try.sizeOf39 (k132.segAt 0 17) rfl rfl ?_
         refine rl_fieldAddr rfl fa88_2 rfl ?_
         refine rl_loadS (v := (Value.int .i64 x64.port)) rfl Try.isAgg3 (k88.cell rfl) rfl ?_
         refine rl_build (out := (Point.enc ({ addr := x105.addr, port := x64.port } : Point))) rfl pl41 Try.zeroValue41 rfl rfl rfl ?_
         refine rl_fieldAddr rfl fa89_1 rfl ?_
         refine rl_loadS (v := (Value.string x105.node)) rfl Try.isAgg9 (k132.cell rfl) rfl ?_
         refine rl_lenStr rfl Try.underlying9 rfl ?_
         refine rl_bin rfl rfl B.gtr rfl ?_
         refine rl_move rfl rfl ?_
         obtain ⟨b149, hb150⟩ : ∃ v, ((decide (((x105.node.size : Nat) : Int) > 0)) && (decide (x105.node = a1.node))) = v := ⟨_, rfl⟩
         have hb102 := ltS hb150 hb102
         refine RL.join 6 74 (.bool b149) (fun w' => Ch nb w144 w') ?_ ?_
         · rcases Bool.eq_false_or_eq_true (decide (((x105.node.size : Nat) : Int) > 0)) with hg148 | hg148
           ·
            have hs147 := and_t hg148 hb150
            have cs : Ch nb w144 w144 := Ch.refl
            refine RL.yes rfl rfl rfl hg148 ?_
            refine rl_fieldAddr rfl fa89_1 rfl ?_
            refine RL.yes rfl rfl rfl hg148 ?_
            refine rl_loadS (v := (Value.string x105.node)) rfl Try.isAgg9 (k132.cell rfl) rfl ?_
            refine RL.yes rfl rfl rfl hg148 ?_
            refine rl_fieldAddr rfl fa35_5 rfl ?_
            refine RL.yes rfl rfl rfl hg148 ?_
            refine rl_loadS (v := (Value.string a1.node)) rfl Try.isAgg9 (k4.cell rfl) rfl ?_
            refine RL.yes rfl rfl rfl hg148 ?_
            refine rl_bin rfl rfl B.eqlS rfl ?_
            refine rl_pickT rfl hg148 rfl rfl ?_
            exact RL.nil ⟨Ext.bothEq (congrArg Value.bool hs147) (Ext.skip rfl (Ext.skip rfl (Ext.skip rfl (Ext.skip rfl (Ext.skip rfl (Ext.rfl')))))), cs⟩
           ·
            have hs147 := and_f hg148 hb150
            have cs : Ch nb w144 w144 := Ch.refl
            refine RL.no rfl rfl rfl hg148 rfl rfl ?_
            refine RL.no rfl rfl rfl hg148 rfl rfl ?_
            refine RL.no rfl rfl rfl hg148 rfl rfl ?_
            refine RL.no rfl rfl rfl hg148 rfl rfl ?_
            refine RL.no rfl rfl rfl hg148 rfl rfl ?_
            refine rl_pickF rfl hg148 rfl rfl ?_
            exact RL.nil ⟨Ext.bothEq (congrArg Value.bool hs147) (Ext.skip rfl (Ext.skip rfl (Ext.skip rfl (Ext.skip rfl (Ext.skip rfl (Ext.rfl')))))), cs⟩
         intro w151 c152
         have ah0 := slRep.ch k_Slice_pos ah0 c152
         have k4 := k4.ch0 c152
         have h38 := slRep.ch k_Port_pos h38 c152
         have h39 := slRep.ch k_Endpoint_pos h39 c152
         have k49 := k49.ch0 c152
         have k88 := k88.ch0 c152
         have h92 := h92.ch0 c152
         have h120 := slRep.ch kStr_pos h120 c152
         have k132 := k132.ch0 c152
         have c108 := c108.then0 c152
         refine rl_fieldAddr rfl fa89_2 rfl ?_
         refine rl_loadS (v := (Value.bool x105.ready)) rfl Try.isAgg4 (k132.cell rfl) rfl ?_
         refine rl_fieldAddr rfl fa89_3 rfl ?_
         refine rl_loadS (v := (Value.bool x105.serving)) rfl Try.isAgg4 (k132.cell rfl) rfl ?_
         refine rl_fieldAddr rfl fa89_4 rfl ?_
         refine rl_loadS (v := (Value.bool x105.terminating)) rfl Try.isAgg4 (k132.cell rfl) rfl ?_
         refine rl_fieldAddr rfl fa89_5 rfl ?_
         refine rl_loadS (v := z119) rfl Try.isAgg42 (k132.cell rfl) rfl ?_
         refine rl_buildC (out := (Candidate.c ({ point := ({ addr := x105.addr, port := x64.port } : Point), localF := b149, ready := x105.ready, serving := x105.serving, terminating := x105.terminating, zones := x105.zones } : Candidate) z119)) [(0, (Point.enc ({ addr := x105.addr, port := x64.port } : Point))), (1, [(Value.bool b149)]), (2, [(Value.bool x105.ready)]), (3, [(Value.bool x105.serving)]), (4, [(Value.bool x105.terminating)]), (5, [z119])] rfl (co_cons rfl (co_cons rfl (co_cons rfl (co_cons rfl (co_cons rfl (co_cons (one_toL h120.one.1) co_nil)))))) pl58 Try.zeroValue58 rfl rfl rfl ?_
         refine rl_alloc (Candidate.c Candidate.z (Value.slice none 0 0)) Try.zeroValue58 rfl rfl ?_
         intro p153 w154 n155 k156
         have lo157 : ∀ b, inBlk (Value.pointer (some ⟨p153, 0, none⟩)) b → w.heap.size ≤ b := fun b h => Nat.le_trans c108.size (n155.fresh b h)
         have d158 : ∀ b, inBlk (Value.pointer (some ⟨p153, 0, none⟩)) b → ¬ inBlk (Value.pointer (some ⟨p121, 0, none⟩)) b := disNew n155.fresh k132.ltp
         have d159 : ∀ b, inBlk (Value.pointer (some ⟨p153, 0, none⟩)) b → ¬ inBlk (Value.pointer (some ⟨p78, 0, none⟩)) b := disNew n155.fresh k88.ltp
         have d160 : ∀ b, inBlk (Value.pointer (some ⟨p153, 0, none⟩)) b → ¬ inBlk (Value.pointer (some ⟨p40, 0, none⟩)) b := disNew n155.fresh k49.ltp
         have d161 : ∀ b, inBlk (Value.pointer (some ⟨p153, 0, none⟩)) b → ¬ inBlk v91 b := disNew n155.fresh (fun b hb => (h92.lt b hb).2)
         have ah0 := slRep.st k_Slice_pos ah0 n155.ch (admNew n155.fresh (fun _ x => x))
         have gp1n : (G F w.heap.size (un (inBlk (Value.pointer (some ⟨p153, 0, none⟩))) (un (inBlk (Value.pointer (some ⟨p121, 0, none⟩))) (un (inBlk (Value.pointer (some ⟨p78, 0, none⟩))) (un (inBlk (Value.pointer (some ⟨p40, 0, none⟩))) (un (inBlk v91) nb)))))) p1 := ⟨gp1.1, ((admNew n155.fresh (fun _ x => x)) _ k4.lt gp1.2).2⟩
         have k4 := k4.ch0 n155.ch
         have gp1 := gp1n
         have h38 := slRep.st k_Port_pos h38 n155.ch (admNew n155.fresh (fun _ x => x))
         have h39 := slRep.st k_Endpoint_pos h39 n155.ch (admNew n155.fresh (fun _ x => x))
         have k49 := k49.ch0 n155.ch
         have k88 := k88.ch0 n155.ch
         have h92 := h92.st n155.ch (fun _ _ x => x) (admNew n155.fresh (fun _ x => x)) (fun b h => (.inr (.inr (.inr (.inr (.inl h))))))
         have h120 := slRep.st kStr_pos h120 n155.ch (admNew n155.fresh (fun _ x => x))
         have k132 := k132.ch0 n155.ch
         have c108 := c108.then0 n155.ch
         refine rl_storeA (vs := (Candidate.c ({ point := ({ addr := x105.addr, port := x64.port } : Point), localF := b149, ready := x105.ready, serving := x105.serving, terminating := x105.terminating, zones := x105.zones } : Candidate) z119)) rfl rfl (Kd.one _ (show k_Candidate.rep (G F w.heap.size (un (inBlk (Value.pointer (some ⟨p153, 0, none⟩))) (un (inBlk (Value.pointer (some ⟨p121, 0, none⟩))) (un (inBlk (Value.pointer (some ⟨p78, 0, none⟩))) (un (inBlk (Value.pointer (some ⟨p40, 0, none⟩))) (un (inBlk v91) nb)))))) w154 ({ point := ({ addr := x105.addr, port := x64.port } : Point), localF := b149, ready := x105.ready, serving := x105.serving, terminating := x105.terminating, zones := x105.zones } : Candidate) (Candidate.c ({ point := ({ addr := x105.addr, port := x64.port } : Point), localF := b149, ready := x105.ready, serving := x105.serving, terminating := x105.terminating, zones := x105.zones } : Candidate) z119) from ⟨z119, rfl, h120⟩)) Try.sizeOf58 rfl k156 rfl ?_
         intro w162 s164 c163 k165
         have ad166 : ∀ b, b < w154.heap.size → ¬ (un (inBlk (Value.pointer (some ⟨p153, 0, none⟩))) (un (inBlk (Value.pointer (some ⟨p121, 0, none⟩))) (un (inBlk (Value.pointer (some ⟨p78, 0, none⟩))) (un (inBlk (Value.pointer (some ⟨p40, 0, none⟩))) (un (inBlk v91) nb))))) b → ¬ (inBlk (Value.pointer (some ⟨p153, 0, none⟩))) b ∧ ¬ (un (inBlk (Value.pointer (some ⟨p153, 0, none⟩))) (un (inBlk (Value.pointer (some ⟨p121, 0, none⟩))) (un (inBlk (Value.pointer (some ⟨p78, 0, none⟩))) (un (inBlk (Value.pointer (some ⟨p40, 0, none⟩))) (un (inBlk v91) nb))))) b := fun b _ hs => ⟨fun h => hs (.inl h), hs⟩
         have ah0 := slRep.st k_Slice_pos ah0 c163 ad166
         have k4 := k4.ch c163 (ad166 _ k4.lt gp1.2).1
         have h38 := slRep.st k_Port_pos h38 c163 ad166
         have h39 := slRep.st k_Endpoint_pos h39 c163 ad166
         have k49 := k49.ch c163 ((fun b hb h => (disSym d160) b hb h) _ rfl)
         have k88 := k88.ch c163 ((fun b hb h => (disSym d159) b hb h) _ rfl)
         have h92 := h92.st c163 (fun b hb h => (disSym d161) b hb h) ad166 (fun b h => (.inr (.inr (.inr (.inr (.inl h))))))
         have h120 := slRep.st kStr_pos h120 c163 ad166
         have k132 := k132.ch c163 ((fun b hb h => (disSym d158) b hb h) _ rfl)
         have c108 := c108.then c163 (fun i hi h => absurd (lo157 i h) (Nat.not_le_of_lt hi))
         refine RL.nil ?_
         refine thn_n ?_
         refine CW.region ?_
         refine rl_move rfl rfl ?_
         refine rl_loadA (cs := (Candidate.c ({ point := ({ addr := x105.addr, port := x64.port } : Point), localF := b149, ready := x105.ready, serving := x105.serving, terminating := x105.terminating, zones := x105.zones } : Candidate) z119)) rfl Try.isAgg58 Try.sizeOf58 (k165.segAt 0 23) rfl rfl ?_
         refine rl_bslice (k := k_Candidate) (F := F) (B := w.heap.size) (S := (un (inBlk (Value.pointer (some ⟨p153, 0, none⟩))) (un (inBlk (Value.pointer (some ⟨p121, 0, none⟩))) (un (inBlk (Value.pointer (some ⟨p78, 0, none⟩))) (un (inBlk (Value.pointer (some ⟨p40, 0, none⟩))) (un (inBlk v91) nb)))))) ([({ point := ({ addr := x105.addr, port := x64.port } : Point), localF := b149, ready := x105.ready, serving := x105.serving, terminating := x105.terminating, zones := x105.zones } : Candidate)] : List Candidate) rfl k_Candidate_pos Try.underlying28 Try.sizeOf58 Try.zeroValue58 rfl rfl ⟨rfl, ⟨z119, rfl, h120⟩, trivial⟩ c108.size (un_lt k165.ltp (un_lt k132.ltp (un_lt k88.ltp (un_lt k49.ltp (un_lt (fun b hb => (h92.lt b hb).2) nbS))))) rfl ?_
         intro v167 w168 c169 hf170 h171
         have h171 := h171.readNew k_Candidate_pos hf170 (un_lt k165.ltp (un_lt k132.ltp (un_lt k88.ltp (un_lt k49.ltp (un_lt (fun b hb => (h92.lt b hb).2) nbS)))))
         have ah0 := slRep.ch k_Slice_pos ah0 c169
         have k4 := k4.ch0 c169
         have h38 := slRep.ch k_Port_pos h38 c169
         have h39 := slRep.ch k_Endpoint_pos h39 c169
         have k49 := k49.ch0 c169
         have k88 := k88.ch0 c169
         have h92 := h92.ch0 c169
         have h120 := slRep.ch kStr_pos h120 c169
         have k132 := k132.ch0 c169
         have k165 := k165.ch0 c169
         have c108 := c108.then0 c169
         obtain ⟨z180, hz181, hb102⟩ := bindS hb102
         have hl := (apO_get hz181).1
         refine rl_append (k := k_Candidate) (T := 58) (F := F) (B := w.heap.size) (S := (un (inBlk (Value.pointer (some ⟨p153, 0, none⟩))) (un (inBlk (Value.pointer (some ⟨p121, 0, none⟩))) (un (inBlk (Value.pointer (some ⟨p78, 0, none⟩))) (un (inBlk (Value.pointer (some ⟨p40, 0, none⟩))) (un (inBlk v91) nb)))))) (S2 := (un (inBlk (Value.pointer (some ⟨p153, 0, none⟩))) (un (inBlk (Value.pointer (some ⟨p121, 0, none⟩))) (un (inBlk (Value.pointer (some ⟨p78, 0, none⟩))) (un (inBlk (Value.pointer (some ⟨p40, 0, none⟩))) nb))))) (fun v => (un (inBlk (Value.pointer (some ⟨p153, 0, none⟩))) (un (inBlk (Value.pointer (some ⟨p121, 0, none⟩))) (un (inBlk (Value.pointer (some ⟨p78, 0, none⟩))) (un (inBlk (Value.pointer (some ⟨p40, 0, none⟩))) (un (inBlk v) nb)))))) rfl rfl k_Candidate_pos ap28 h92 h171 (fun _ => ⟨fun h => un_el h (fun h => (.inr (.inl h))) (fun h => un_el h (fun h => (.inr (.inr (.inl h)))) (fun h => un_el h (fun h => (.inr (.inr (.inr (.inl h))))) (fun h => un_el h (fun h => (.inr (.inr (.inr (.inr (.inl h)))))) (fun h => un_el h (fun h => (.inl h)) (fun h => False.elim h))))), fun h => un_el h (fun h => (.inr (.inr (.inr (.inr (.inl h)))))) (fun h => un_el h (fun h => (.inl h)) (fun h => un_el h (fun h => (.inr (.inl h))) (fun h => un_el h (fun h => (.inr (.inr (.inl h)))) (fun h => un_el h (fun h => (.inr (.inr (.inr (.inl h))))) (fun h => False.elim h)))))⟩) (fun _ _ => ⟨fun h => un_el h (fun h => (.inr (.inl h))) (fun h => un_el h (fun h => (.inr (.inr (.inl h)))) (fun h => un_el h (fun h => (.inr (.inr (.inr (.inl h))))) (fun h => un_el h (fun h => (.inr (.inr (.inr (.inr (.inl h)))))) (fun h => un_el h (fun h => (.inl h)) (fun h => False.elim h))))), fun h => un_el h (fun h => (.inr (.inr (.inr (.inr (.inl h)))))) (fun h => un_el h (fun h => (.inl h)) (fun h => un_el h (fun h => (.inr (.inl h))) (fun h => un_el h (fun h => (.inr (.inr (.inl h)))) (fun h => un_el h (fun h => (.inr (.inr (.inr (.inl h))))) (fun h => False.elim h)))))⟩) hl c108.size (un_lt k165.ltp (un_lt k132.ltp (un_lt k88.ltp (un_lt k49.ltp (un_lt (fun b hb => (h92.lt b hb).2) nbS))))) rfl ?_
         intro v174 w175 h176 c177 hf178 ha179
         have d182 : ∀ b, inBlk v174 b → ¬ inBlk (Value.pointer (some ⟨p153, 0, none⟩)) b := disApp hf178 (disSym d161) k165.ltp
         have d183 : ∀ b, inBlk v174 b → ¬ inBlk (Value.pointer (some ⟨p121, 0, none⟩)) b := disApp hf178 (disSym d128) k132.ltp
         have d184 : ∀ b, inBlk v174 b → ¬ inBlk (Value.pointer (some ⟨p78, 0, none⟩)) b := disApp hf178 (disSym d94) k88.ltp
         have d185 : ∀ b, inBlk v174 b → ¬ inBlk (Value.pointer (some ⟨p40, 0, none⟩)) b := disApp hf178 (disSym d95) k49.ltp
         have ah0 := slRep.st k_Slice_pos ah0 c177 ha179
         have gp1n : (G F w.heap.size (un (inBlk (Value.pointer (some ⟨p153, 0, none⟩))) (un (inBlk (Value.pointer (some ⟨p121, 0, none⟩))) (un (inBlk (Value.pointer (some ⟨p78, 0, none⟩))) (un (inBlk (Value.pointer (some ⟨p40, 0, none⟩))) (un (inBlk v174) nb)))))) p1 := ⟨gp1.1, (ha179 _ k4.lt gp1.2).2⟩
         have k4 := k4.ch c177 (ha179 _ k4.lt gp1.2).1
         have gp1 := gp1n
         have h38 := slRep.st k_Port_pos h38 c177 ha179
         have h39 := slRep.st k_Endpoint_pos h39 c177 ha179
         have k49 := k49.ch c177 ((fun b hb h => d95 b hb h) _ rfl)
         have k88 := k88.ch c177 ((fun b hb h => d94 b hb h) _ rfl)
         have h120 := slRep.st kStr_pos h120 c177 ha179
         have k132 := k132.ch c177 ((fun b hb h => d128 b hb h) _ rfl)
         have k165 := k165.ch c177 ((fun b hb h => d161 b hb h) _ rfl)
         have h171 := slRep.st k_Candidate_pos h171 c177 ha179
         have c108 := c108.then c177 (fun i hi h => absurd ((fun b hb => (h92.lt b hb).1) i h) (Nat.not_le_of_lt hi))
         refine rl_assign rfl rfl ?_
         refine RL.nil ?_
         refine inB_n ?_
         refine thn_n ?_
         refine CW.region ?_
         refine rl_inc rfl hat99.lt h39.big rfl ?_
         refine rl_move rfl rfl ?_
         refine RL.nil ?_
         refine thn_n ?_
         have crf : Ch nb w175 w175 := Ch.refl
         have ah0 := slRep.st k_Slice_pos ah0 crf (show ∀ b, b < w175.heap.size → ¬ (un (inBlk (Value.pointer (some ⟨p153, 0, none⟩))) (un (inBlk (Value.pointer (some ⟨p121, 0, none⟩))) (un (inBlk (Value.pointer (some ⟨p78, 0, none⟩))) (un (inBlk (Value.pointer (some ⟨p40, 0, none⟩))) (un (inBlk v174) nb))))) b → ¬ nb b ∧ ¬ (un (inBlk (Value.pointer (some ⟨p121, 0, none⟩))) (un (inBlk (Value.pointer (some ⟨p78, 0, none⟩))) (un (inBlk (Value.pointer (some ⟨p40, 0, none⟩))) (un (inBlk v174) nb)))) b from fun b _ hs => ⟨fun x => x, fun h => hs (un_el h (fun h => (.inr (.inl h))) (fun h => un_el h (fun h => (.inr (.inr (.inl h)))) (fun h => un_el h (fun h => (.inr (.inr (.inr (.inl h))))) (fun h => un_el h (fun h => (.inr (.inr (.inr (.inr (.inl h)))))) (fun h => False.elim h)))))⟩)
         have gp1n : (G F w.heap.size (un (inBlk (Value.pointer (some ⟨p121, 0, none⟩))) (un (inBlk (Value.pointer (some ⟨p78, 0, none⟩))) (un (inBlk (Value.pointer (some ⟨p40, 0, none⟩))) (un (inBlk v174) nb))))) p1 := ⟨gp1.1, ((show ∀ b, b < w175.heap.size → ¬ (un (inBlk (Value.pointer (some ⟨p153, 0, none⟩))) (un (inBlk (Value.pointer (some ⟨p121, 0, none⟩))) (un (inBlk (Value.pointer (some ⟨p78, 0, none⟩))) (un (inBlk (Value.pointer (some ⟨p40, 0, none⟩))) (un (inBlk v174) nb))))) b → ¬ nb b ∧ ¬ (un (inBlk (Value.pointer (some ⟨p121, 0, none⟩))) (un (inBlk (Value.pointer (some ⟨p78, 0, none⟩))) (un (inBlk (Value.pointer (some ⟨p40, 0, none⟩))) (un (inBlk v174) nb)))) b from fun b _ hs => ⟨fun x => x, fun h => hs (un_el h (fun h => (.inr (.inl h))) (fun h => un_el h (fun h => (.inr (.inr (.inl h)))) (fun h => un_el h (fun h => (.inr (.inr (.inr (.inl h))))) (fun h => un_el h (fun h => (.inr (.inr (.inr (.inr (.inl h)))))) (fun h => False.elim h)))))⟩) _ k4.lt gp1.2).2⟩
         have k4 := k4.ch0 crf
         have gp1 := gp1n
         have h38 := slRep.st k_Port_pos h38 crf (show ∀ b, b < w175.heap.size → ¬ (un (inBlk (Value.pointer (some ⟨p153, 0, none⟩))) (un (inBlk (Value.pointer (some ⟨p121, 0, none⟩))) (un (inBlk (Value.pointer (some ⟨p78, 0, none⟩))) (un (inBlk (Value.pointer (some ⟨p40, 0, none⟩))) (un (inBlk v174) nb))))) b → ¬ nb b ∧ ¬ (un (inBlk (Value.pointer (some ⟨p121, 0, none⟩))) (un (inBlk (Value.pointer (some ⟨p78, 0, none⟩))) (un (inBlk (Value.pointer (some ⟨p40, 0, none⟩))) (un (inBlk v174) nb)))) b from fun b _ hs => ⟨fun x => x, fun h => hs (un_el h (fun h => (.inr (.inl h))) (fun h => un_el h (fun h => (.inr (.inr (.inl h)))) (fun h => un_el h (fun h => (.inr (.inr (.inr (.inl h))))) (fun h => un_el h (fun h => (.inr (.inr (.inr (.inr (.inl h)))))) (fun h => False.elim h)))))⟩)
         have h39 := slRep.st k_Endpoint_pos h39 crf (show ∀ b, b < w175.heap.size → ¬ (un (inBlk (Value.pointer (some ⟨p153, 0, none⟩))) (un (inBlk (Value.pointer (some ⟨p121, 0, none⟩))) (un (inBlk (Value.pointer (some ⟨p78, 0, none⟩))) (un (inBlk (Value.pointer (some ⟨p40, 0, none⟩))) (un (inBlk v174) nb))))) b → ¬ nb b ∧ ¬ (un (inBlk (Value.pointer (some ⟨p121, 0, none⟩))) (un (inBlk (Value.pointer (some ⟨p78, 0, none⟩))) (un (inBlk (Value.pointer (some ⟨p40, 0, none⟩))) (un (inBlk v174) nb)))) b from fun b _ hs => ⟨fun x => x, fun h => hs (un_el h (fun h => (.inr (.inl h))) (fun h => un_el h (fun h => (.inr (.inr (.inl h)))) (fun h => un_el h (fun h => (.inr (.inr (.inr (.inl h))))) (fun h => un_el h (fun h => (.inr (.inr (.inr (.inr (.inl h)))))) (fun h => False.elim h)))))⟩)
         have k49 := k49.ch0 crf
         have k88 := k88.ch0 crf
         have h120 := slRep.st kStr_pos h120 crf (show ∀ b, b < w175.heap.size → ¬ (un (inBlk (Value.pointer (some ⟨p153, 0, none⟩))) (un (inBlk (Value.pointer (some ⟨p121, 0, none⟩))) (un (inBlk (Value.pointer (some ⟨p78, 0, none⟩))) (un (inBlk (Value.pointer (some ⟨p40, 0, none⟩))) (un (inBlk v174) nb))))) b → ¬ nb b ∧ ¬ (un (inBlk (Value.pointer (some ⟨p121, 0, none⟩))) (un (inBlk (Value.pointer (some ⟨p78, 0, none⟩))) (un (inBlk (Value.pointer (some ⟨p40, 0, none⟩))) (un (inBlk v174) nb)))) b from fun b _ hs => ⟨fun x => x, fun h => hs (un_el h (fun h => (.inr (.inl h))) (fun h => un_el h (fun h => (.inr (.inr (.inl h)))) (fun h => un_el h (fun h => (.inr (.inr (.inr (.inl h))))) (fun h => un_el h (fun h => (.inr (.inr (.inr (.inr (.inl h)))))) (fun h => False.elim h)))))⟩)
         have k132 := k132.ch0 crf
         have h171 := slRep.st k_Candidate_pos h171 crf (show ∀ b, b < w175.heap.size → ¬ (un (inBlk (Value.pointer (some ⟨p153, 0, none⟩))) (un (inBlk (Value.pointer (some ⟨p121, 0, none⟩))) (un (inBlk (Value.pointer (some ⟨p78, 0, none⟩))) (un (inBlk (Value.pointer (some ⟨p40, 0, none⟩))) (un (inBlk v174) nb))))) b → ¬ nb b ∧ ¬ (un (inBlk (Value.pointer (some ⟨p121, 0, none⟩))) (un (inBlk (Value.pointer (some ⟨p78, 0, none⟩))) (un (inBlk (Value.pointer (some ⟨p40, 0, none⟩))) (un (inBlk v174) nb)))) b from fun b _ hs => ⟨fun x => x, fun h => hs (un_el h (fun h => (.inr (.inl h))) (fun h => un_el h (fun h => (.inr (.inr (.inl h)))) (fun h => un_el h (fun h => (.inr (.inr (.inr (.inl h))))) (fun h => un_el h (fun h => (.inr (.inr (.inr (.inr (.inl h)))))) (fun h => False.elim h)))))⟩)
         have h176 := h176.st crf (fun _ _ x => x) (show ∀ b, b < w175.heap.size → ¬ (un (inBlk (Value.pointer (some ⟨p153, 0, none⟩))) (un (inBlk (Value.pointer (some ⟨p121, 0, none⟩))) (un (inBlk (Value.pointer (some ⟨p78, 0, none⟩))) (un (inBlk (Value.pointer (some ⟨p40, 0, none⟩))) (un (inBlk v174) nb))))) b → ¬ nb b ∧ ¬ (un (inBlk (Value.pointer (some ⟨p121, 0, none⟩))) (un (inBlk (Value.pointer (some ⟨p78, 0, none⟩))) (un (inBlk (Value.pointer (some ⟨p40, 0, none⟩))) (un (inBlk v174) nb)))) b from fun b _ hs => ⟨fun x => x, fun h => hs (un_el h (fun h => (.inr (.inl h))) (fun h => un_el h (fun h => (.inr (.inr (.inl h)))) (fun h => un_el h (fun h => (.inr (.inr (.inr (.inl h))))) (fun h => un_el h (fun h => (.inr (.inr (.inr (.inr (.inl h)))))) (fun h => False.elim h)))))⟩) (fun b h => (.inr (.inr (.inr (.inl h)))))
         have c108 := c108.then0 crf
         have crf : Ch nb w175 w175 := Ch.refl
         have ah0 := slRep.st k_Slice_pos ah0 crf (show ∀ b, b < w175.heap.size → ¬ (un (inBlk (Value.pointer (some ⟨p121, 0, none⟩))) (un (inBlk (Value.pointer (some ⟨p78, 0, none⟩))) (un (inBlk (Value.pointer (some ⟨p40, 0, none⟩))) (un (inBlk v174) nb)))) b → ¬ nb b ∧ ¬ (un (inBlk (Value.pointer (some ⟨p78, 0, none⟩))) (un (inBlk (Value.pointer (some ⟨p40, 0, none⟩))) (un (inBlk v174) nb))) b from fun b _ hs => ⟨fun x => x, fun h => hs (un_el h (fun h => (.inr (.inl h))) (fun h => un_el h (fun h => (.inr (.inr (.inl h)))) (fun h => un_el h (fun h => (.inr (.inr (.inr (.inl h))))) (fun h => False.elim h))))⟩)
         have gp1n : (G F w.heap.size (un (inBlk (Value.pointer (some ⟨p78, 0, none⟩))) (un (inBlk (Value.pointer (some ⟨p40, 0, none⟩))) (un (inBlk v174) nb)))) p1 := ⟨gp1.1, ((show ∀ b, b < w175.heap.size → ¬ (un (inBlk (Value.pointer (some ⟨p121, 0, none⟩))) (un (inBlk (Value.pointer (some ⟨p78, 0, none⟩))) (un (inBlk (Value.pointer (some ⟨p40, 0, none⟩))) (un (inBlk v174) nb)))) b → ¬ nb b ∧ ¬ (un (inBlk (Value.pointer (some ⟨p78, 0, none⟩))) (un (inBlk (Value.pointer (some ⟨p40, 0, none⟩))) (un (inBlk v174) nb))) b from fun b _ hs => ⟨fun x => x, fun h => hs (un_el h (fun h => (.inr (.inl h))) (fun h => un_el h (fun h => (.inr (.inr (.inl h)))) (fun h => un_el h (fun h => (.inr (.inr (.inr (.inl h))))) (fun h => False.elim h))))⟩) _ k4.lt gp1.2).2⟩
         have k4 := k4.ch0 crf
         have gp1 := gp1n
         have h38 := slRep.st k_Port_pos h38 crf (show ∀ b, b < w175.heap.size → ¬ (un (inBlk (Value.pointer (some ⟨p121, 0, none⟩))) (un (inBlk (Value.pointer (some ⟨p78, 0, none⟩))) (un (inBlk (Value.pointer (some ⟨p40, 0, none⟩))) (un (inBlk v174) nb)))) b → ¬ nb b ∧ ¬ (un (inBlk (Value.pointer (some ⟨p78, 0, none⟩))) (un (inBlk (Value.pointer (some ⟨p40, 0, none⟩))) (un (inBlk v174) nb))) b from fun b _ hs => ⟨fun x => x, fun h => hs (un_el h (fun h => (.inr (.inl h))) (fun h => un_el h (fun h => (.inr (.inr (.inl h)))) (fun h => un_el h (fun h => (.inr (.inr (.inr (.inl h))))) (fun h => False.elim h))))⟩)
         have h39 := slRep.st k_Endpoint_pos h39 crf (show ∀ b, b < w175.heap.size → ¬ (un (inBlk (Value.pointer (some ⟨p121, 0, none⟩))) (un (inBlk (Value.pointer (some ⟨p78, 0, none⟩))) (un (inBlk (Value.pointer (some ⟨p40, 0, none⟩))) (un (inBlk v174) nb)))) b → ¬ nb b ∧ ¬ (un (inBlk (Value.pointer (some ⟨p78, 0, none⟩))) (un (inBlk (Value.pointer (some ⟨p40, 0, none⟩))) (un (inBlk v174) nb))) b from fun b _ hs => ⟨fun x => x, fun h => hs (un_el h (fun h => (.inr (.inl h))) (fun h => un_el h (fun h => (.inr (.inr (.inl h)))) (fun h => un_el h (fun h => (.inr (.inr (.inr (.inl h))))) (fun h => False.elim h))))⟩)
         have k49 := k49.ch0 crf
         have k88 := k88.ch0 crf
         have h120 := slRep.st kStr_pos h120 crf (show ∀ b, b < w175.heap.size → ¬ (un (inBlk (Value.pointer (some ⟨p121, 0, none⟩))) (un (inBlk (Value.pointer (some ⟨p78, 0, none⟩))) (un (inBlk (Value.pointer (some ⟨p40, 0, none⟩))) (un (inBlk v174) nb)))) b → ¬ nb b ∧ ¬ (un (inBlk (Value.pointer (some ⟨p78, 0, none⟩))) (un (inBlk (Value.pointer (some ⟨p40, 0, none⟩))) (un (inBlk v174) nb))) b from fun b _ hs => ⟨fun x => x, fun h => hs (un_el h (fun h => (.inr (.inl h))) (fun h => un_el h (fun h => (.inr (.inr (.inl h)))) (fun h => un_el h (fun h => (.inr (.inr (.inr (.inl h))))) (fun h => False.elim h))))⟩)
         have h171 := slRep.st k_Candidate_pos h171 crf (show ∀ b, b < w175.heap.size → ¬ (un (inBlk (Value.pointer (some ⟨p121, 0, none⟩))) (un (inBlk (Value.pointer (some ⟨p78, 0, none⟩))) (un (inBlk (Value.pointer (some ⟨p40, 0, none⟩))) (un (inBlk v174) nb)))) b → ¬ nb b ∧ ¬ (un (inBlk (Value.pointer (some ⟨p78, 0, none⟩))) (un (inBlk (Value.pointer (some ⟨p40, 0, none⟩))) (un (inBlk v174) nb))) b from fun b _ hs => ⟨fun x => x, fun h => hs (un_el h (fun h => (.inr (.inl h))) (fun h => un_el h (fun h => (.inr (.inr (.inl h)))) (fun h => un_el h (fun h => (.inr (.inr (.inr (.inl h))))) (fun h => False.elim h))))⟩)
         have h176 := h176.st crf (fun _ _ x => x) (show ∀ b, b < w175.heap.size → ¬ (un (inBlk (Value.pointer (some ⟨p121, 0, none⟩))) (un (inBlk (Value.pointer (some ⟨p78, 0, none⟩))) (un (inBlk (Value.pointer (some ⟨p40, 0, none⟩))) (un (inBlk v174) nb)))) b → ¬ nb b ∧ ¬ (un (inBlk (Value.pointer (some ⟨p78, 0, none⟩))) (un (inBlk (Value.pointer (some ⟨p40, 0, none⟩))) (un (inBlk v174) nb))) b from fun b _ hs => ⟨fun x => x, fun h => hs (un_el h (fun h => (.inr (.inl h))) (fun h => un_el h (fun h => (.inr (.inr (.inl h)))) (fun h => un_el h (fun h => (.inr (.inr (.inr (.inl h))))) (fun h => False.elim h))))⟩) (fun b h => (.inr (.inr (.inl h))))
         have c108 := c108.then0 crf
         have hLn := runAO_next hL98 hq101 hb102
         exact ⟨rest112.length, Nat.lt_succ_self _, [(3, (Value.pointer (some ⟨p1, 0, none⟩))), (7, (Value.pointer (some ⟨p40, 0, none⟩))), (9, (Value.pointer (some ⟨p78, 0, none⟩))), (20, av0), (21, (Value.int .i64 ((a0.length : Nat) : Int))), (22, (Value.int .i64 ((i14 : Nat) : Int))), (27, z36), (28, (Value.int .i64 ((x22.ports.length : Nat) : Int))), (29, (Value.int .i64 ((i56 : Nat) : Int))), (34, z37), (35, (Value.int .i64 ((x22.endpoints.length : Nat) : Int))), (5, v174), (36, (Value.int .i64 ((i97 + 1 : Nat) : Int)))], ⟨rfl, rfl, rfl, rfl, rfl, rfl, rfl, rfl, rfl, rfl, rfl, rfl, rfl, trivial⟩, ⟨rest112, i97 + 1, x90 ++ [({ point := ({ addr := x105.addr, port := x64.port } : Point), localF := b149, ready := x105.ready, serving := x105.serving, terminating := x105.terminating, zones := x105.zones } : Candidate)], v174, rfl, rfl, c108, hat99.next, hLn, ah0, k4, h38, h39, k49, k88, h176, gp1, d93, (disSym d184), (disSym d185)⟩⟩
        ·
         have hb102 := ifF q146 hb102
         refine CW.skip ?_
         refine inB_n ?_
         refine thn_n ?_
         refine CW.region ?_
         refine rl_inc rfl hat99.lt h39.big rfl ?_
         refine rl_move rfl rfl ?_
         refine RL.nil ?_
         refine thn_n ?_
         have crf : Ch nb w144 w144 := Ch.refl
         have ah0 := slRep.st k_Slice_pos ah0 crf (show ∀ b, b < w144.heap.size → ¬ (un (inBlk (Value.pointer (some ⟨p121, 0, none⟩))) (un (inBlk (Value.pointer (some ⟨p78, 0, none⟩))) (un (inBlk (Value.pointer (some ⟨p40, 0, none⟩))) (un (inBlk v91) nb)))) b → ¬ nb b ∧ ¬ (un (inBlk (Value.pointer (some ⟨p78, 0, none⟩))) (un (inBlk (Value.pointer (some ⟨p40, 0, none⟩))) (un (inBlk v91) nb))) b from fun b _ hs => ⟨fun x => x, fun h => hs (un_el h (fun h => (.inr (.inl h))) (fun h => un_el h (fun h => (.inr (.inr (.inl h)))) (fun h => un_el h (fun h => (.inr (.inr (.inr (.inl h))))) (fun h => False.elim h))))⟩)
         have gp1n : (G F w.heap.size (un (inBlk (Value.pointer (some ⟨p78, 0, none⟩))) (un (inBlk (Value.pointer (some ⟨p40, 0, none⟩))) (un (inBlk v91) nb)))) p1 := ⟨gp1.1, ((show ∀ b, b < w144.heap.size → ¬ (un (inBlk (Value.pointer (some ⟨p121, 0, none⟩))) (un (inBlk (Value.pointer (some ⟨p78, 0, none⟩))) (un (inBlk (Value.pointer (some ⟨p40, 0, none⟩))) (un (inBlk v91) nb)))) b → ¬ nb b ∧ ¬ (un (inBlk (Value.pointer (some ⟨p78, 0, none⟩))) (un (inBlk (Value.pointer (some ⟨p40, 0, none⟩))) (un (inBlk v91) nb))) b from fun b _ hs => ⟨fun x => x, fun h => hs (un_el h (fun h => (.inr (.inl h))) (fun h => un_el h (fun h => (.inr (.inr (.inl h)))) (fun h => un_el h (fun h => (.inr (.inr (.inr (.inl h))))) (fun h => False.elim h))))⟩) _ k4.lt gp1.2).2⟩
         have k4 := k4.ch0 crf
         have gp1 := gp1n
         have h38 := slRep.st k_Port_pos h38 crf (show ∀ b, b < w144.heap.size → ¬ (un (inBlk (Value.pointer (some ⟨p121, 0, none⟩))) (un (inBlk (Value.pointer (some ⟨p78, 0, none⟩))) (un (inBlk (Value.pointer (some ⟨p40, 0, none⟩))) (un (inBlk v91) nb)))) b → ¬ nb b ∧ ¬ (un (inBlk (Value.pointer (some ⟨p78, 0, none⟩))) (un (inBlk (Value.pointer (some ⟨p40, 0, none⟩))) (un (inBlk v91) nb))) b from fun b _ hs => ⟨fun x => x, fun h => hs (un_el h (fun h => (.inr (.inl h))) (fun h => un_el h (fun h => (.inr (.inr (.inl h)))) (fun h => un_el h (fun h => (.inr (.inr (.inr (.inl h))))) (fun h => False.elim h))))⟩)
         have h39 := slRep.st k_Endpoint_pos h39 crf (show ∀ b, b < w144.heap.size → ¬ (un (inBlk (Value.pointer (some ⟨p121, 0, none⟩))) (un (inBlk (Value.pointer (some ⟨p78, 0, none⟩))) (un (inBlk (Value.pointer (some ⟨p40, 0, none⟩))) (un (inBlk v91) nb)))) b → ¬ nb b ∧ ¬ (un (inBlk (Value.pointer (some ⟨p78, 0, none⟩))) (un (inBlk (Value.pointer (some ⟨p40, 0, none⟩))) (un (inBlk v91) nb))) b from fun b _ hs => ⟨fun x => x, fun h => hs (un_el h (fun h => (.inr (.inl h))) (fun h => un_el h (fun h => (.inr (.inr (.inl h)))) (fun h => un_el h (fun h => (.inr (.inr (.inr (.inl h))))) (fun h => False.elim h))))⟩)
         have k49 := k49.ch0 crf
         have k88 := k88.ch0 crf
         have h92 := h92.st crf (fun _ _ x => x) (show ∀ b, b < w144.heap.size → ¬ (un (inBlk (Value.pointer (some ⟨p121, 0, none⟩))) (un (inBlk (Value.pointer (some ⟨p78, 0, none⟩))) (un (inBlk (Value.pointer (some ⟨p40, 0, none⟩))) (un (inBlk v91) nb)))) b → ¬ nb b ∧ ¬ (un (inBlk (Value.pointer (some ⟨p78, 0, none⟩))) (un (inBlk (Value.pointer (some ⟨p40, 0, none⟩))) (un (inBlk v91) nb))) b from fun b _ hs => ⟨fun x => x, fun h => hs (un_el h (fun h => (.inr (.inl h))) (fun h => un_el h (fun h => (.inr (.inr (.inl h)))) (fun h => un_el h (fun h => (.inr (.inr (.inr (.inl h))))) (fun h => False.elim h))))⟩) (fun b h => (.inr (.inr (.inl h))))
         have h120 := slRep.st kStr_pos h120 crf (show ∀ b, b < w144.heap.size → ¬ (un (inBlk (Value.pointer (some ⟨p121, 0, none⟩))) (un (inBlk (Value.pointer (some ⟨p78, 0, none⟩))) (un (inBlk (Value.pointer (some ⟨p40, 0, none⟩))) (un (inBlk v91) nb)))) b → ¬ nb b ∧ ¬ (un (inBlk (Value.pointer (some ⟨p78, 0, none⟩))) (un (inBlk (Value.pointer (some ⟨p40, 0, none⟩))) (un (inBlk v91) nb))) b from fun b _ hs => ⟨fun x => x, fun h => hs (un_el h (fun h => (.inr (.inl h))) (fun h => un_el h (fun h => (.inr (.inr (.inl h)))) (fun h => un_el h (fun h => (.inr (.inr (.inr (.inl h))))) (fun h => False.elim h))))⟩)
         have c108 := c108.then0 crf
         have hLn := runAO_next hL98 hq101 hb102
         exact ⟨rest112.length, Nat.lt_succ_self _, [(3, (Value.pointer (some ⟨p1, 0, none⟩))), (7, (Value.pointer (some ⟨p40, 0, none⟩))), (9, (Value.pointer (some ⟨p78, 0, none⟩))), (20, av0), (21, (Value.int .i64 ((a0.length : Nat) : Int))), (22, (Value.int .i64 ((i14 : Nat) : Int))), (27, z36), (28, (Value.int .i64 ((x22.ports.length : Nat) : Int))), (29, (Value.int .i64 ((i56 : Nat) : Int))), (34, z37), (35, (Value.int .i64 ((x22.endpoints.length : Nat) : Int))), (5, v91), (36, (Value.int .i64 ((i97 + 1 : Nat) : Int)))], ⟨rfl, rfl, rfl, rfl, rfl, rfl, rfl, rfl, rfl, rfl, rfl, rfl, rfl, trivial⟩, ⟨rest112, i97 + 1, x90, v91, rfl, rfl, c108, hat99.next, hLn, ah0, k4, h38, h39, k49, k88, h92, gp1, d93, d94, d95⟩⟩
       ·
        obtain rfl := hat99.nil q111
        have hLf : x90 = o103 := runAO_done hL98
        refine CW.exit (thn_exit (thn_exit (inB_hit ?_)))
        exact ⟨x90, v91, ⟨rfl, rfl, rfl, rfl, rfl, rfl, rfl, rfl, rfl, trivial⟩, c108, hLf, ah0, k4, h38, h39, k49, k88, h92, gp1, d93, d94, d95⟩
      ·
       rintro _ w187 ⟨x90, v91, hE188, c186, f189, ah0, k4, h38, h39, k49, k88, h92, gp1, d93, d94, d95⟩
       subst f189
       refine inB_n ?_
       refine thn_n (CW.sub [(3, (Value.pointer (some ⟨p1, 0, none⟩))), (7, (Value.pointer (some ⟨p40, 0, none⟩))), (20, av0), (21, (Value.int .i64 ((a0.length : Nat) : Int))), (22, (Value.int .i64 ((i14 : Nat) : Int))), (27, z36), (28, (Value.int .i64 ((x22.ports.length : Nat) : Int))), (29, (Value.int .i64 ((i56 : Nat) : Int))), (5, v91)] hE188 ?_)
       refine CW.region ?_
       refine rl_inc rfl hat58.lt h38.big rfl ?_
       refine rl_move rfl rfl ?_
       refine RL.nil ?_
       refine thn_n ?_
       have crf : Ch nb w187 w187 := Ch.refl
       have ah0 := slRep.st k_Slice_pos ah0 crf (show ∀ b, b < w187.heap.size → ¬ (un (inBlk (Value.pointer (some ⟨p78, 0, none⟩))) (un (inBlk (Value.pointer (some ⟨p40, 0, none⟩))) (un (inBlk v91) nb))) b → ¬ nb b ∧ ¬ (un (inBlk (Value.pointer (some ⟨p40, 0, none⟩))) (un (inBlk v91) nb)) b from fun b _ hs => ⟨fun x => x, fun h => hs (un_el h (fun h => (.inr (.inl h))) (fun h => un_el h (fun h => (.inr (.inr (.inl h)))) (fun h => False.elim h)))⟩)
       have gp1n : (G F w.heap.size (un (inBlk (Value.pointer (some ⟨p40, 0, none⟩))) (un (inBlk v91) nb))) p1 := ⟨gp1.1, ((show ∀ b, b < w187.heap.size → ¬ (un (inBlk (Value.pointer (some ⟨p78, 0, none⟩))) (un (inBlk (Value.pointer (some ⟨p40, 0, none⟩))) (un (inBlk v91) nb))) b → ¬ nb b ∧ ¬ (un (inBlk (Value.pointer (some ⟨p40, 0, none⟩))) (un (inBlk v91) nb)) b from fun b _ hs => ⟨fun x => x, fun h => hs (un_el h (fun h => (.inr (.inl h))) (fun h => un_el h (fun h => (.inr (.inr (.inl h)))) (fun h => False.elim h)))⟩) _ k4.lt gp1.2).2⟩
       have k4 := k4.ch0 crf
       have gp1 := gp1n
       have h38 := slRep.st k_Port_pos h38 crf (show ∀ b, b < w187.heap.size → ¬ (un (inBlk (Value.pointer (some ⟨p78, 0, none⟩))) (un (inBlk (Value.pointer (some ⟨p40, 0, none⟩))) (un (inBlk v91) nb))) b → ¬ nb b ∧ ¬ (un (inBlk (Value.pointer (some ⟨p40, 0, none⟩))) (un (inBlk v91) nb)) b from fun b _ hs => ⟨fun x => x, fun h => hs (un_el h (fun h => (.inr (.inl h))) (fun h => un_el h (fun h => (.inr (.inr (.inl h)))) (fun h => False.elim h)))⟩)
       have h39 := slRep.st k_Endpoint_pos h39 crf (show ∀ b, b < w187.heap.size → ¬ (un (inBlk (Value.pointer (some ⟨p78, 0, none⟩))) (un (inBlk (Value.pointer (some ⟨p40, 0, none⟩))) (un (inBlk v91) nb))) b → ¬ nb b ∧ ¬ (un (inBlk (Value.pointer (some ⟨p40, 0, none⟩))) (un (inBlk v91) nb)) b from fun b _ hs => ⟨fun x => x, fun h => hs (un_el h (fun h => (.inr (.inl h))) (fun h => un_el h (fun h => (.inr (.inr (.inl h)))) (fun h => False.elim h)))⟩)
       have k49 := k49.ch0 crf
       have h92 := h92.st crf (fun _ _ x => x) (show ∀ b, b < w187.heap.size → ¬ (un (inBlk (Value.pointer (some ⟨p78, 0, none⟩))) (un (inBlk (Value.pointer (some ⟨p40, 0, none⟩))) (un (inBlk v91) nb))) b → ¬ nb b ∧ ¬ (un (inBlk (Value.pointer (some ⟨p40, 0, none⟩))) (un (inBlk v91) nb)) b from fun b _ hs => ⟨fun x => x, fun h => hs (un_el h (fun h => (.inr (.inl h))) (fun h => un_el h (fun h => (.inr (.inr (.inl h)))) (fun h => False.elim h)))⟩) (fun b h => (.inr (.inl h)))
       have c186 := c186.then0 crf
       have hLn := runAO_next hL57 hq60 hb61
       exact ⟨rest71.length, Nat.lt_succ_self _, [(3, (Value.pointer (some ⟨p1, 0, none⟩))), (7, (Value.pointer (some ⟨p40, 0, none⟩))), (20, av0), (21, (Value.int .i64 ((a0.length : Nat) : Int))), (22, (Value.int .i64 ((i14 : Nat) : Int))), (27, z36), (28, (Value.int .i64 ((x22.ports.length : Nat) : Int))), (5, v91), (29, (Value.int .i64 ((i56 + 1 : Nat) : Int)))], ⟨rfl, rfl, rfl, rfl, rfl, rfl, rfl, rfl, rfl, trivial⟩, ⟨rest71, i56 + 1, x90, v91, rfl, rfl, c186, hat58.next, hLn, ah0, k4, h38, h39, k49, h92, gp1, d95⟩⟩
     ·
      obtain rfl := hat58.nil q70
      have hLf : x51 = o62 := runAO_done hL57
      refine CW.exit (thn_exit (thn_exit (inB_hit ?_)))
      exact ⟨x51, v52, ⟨rfl, rfl, rfl, rfl, rfl, trivial⟩, c67, hLf, ah0, k4, h38, h39, k49, h53, gp1, d54⟩
    ·
     rintro _ w192 ⟨x51, v52, hE193, c191, f194, ah0, k4, h38, h39, k49, h53, gp1, d54⟩
     subst f194
     refine inB_n ?_
     refine thn_n (CW.sub [(3, (Value.pointer (some ⟨p1, 0, none⟩))), (20, av0), (21, (Value.int .i64 ((a0.length : Nat) : Int))), (22, (Value.int .i64 ((i14 : Nat) : Int))), (5, v52)] hE193 ?_)
     refine CW.region ?_
     refine rl_inc rfl hat16.lt ah0.big rfl ?_
     refine rl_move rfl rfl ?_
     refine RL.nil ?_
     refine thn_n ?_
     have crf : Ch nb w192 w192 := Ch.refl
     have ah0 := slRep.st k_Slice_pos ah0 crf (show ∀ b, b < w192.heap.size → ¬ (un (inBlk (Value.pointer (some ⟨p40, 0, none⟩))) (un (inBlk v52) nb)) b → ¬ nb b ∧ ¬ (un (inBlk v52) nb) b from fun b _ hs => ⟨fun x => x, fun h => hs (un_el h (fun h => (.inr (.inl h))) (fun h => False.elim h))⟩)
     have gp1n : (G F w.heap.size (un (inBlk v52) nb)) p1 := ⟨gp1.1, ((show ∀ b, b < w192.heap.size → ¬ (un (inBlk (Value.pointer (some ⟨p40, 0, none⟩))) (un (inBlk v52) nb)) b → ¬ nb b ∧ ¬ (un (inBlk v52) nb) b from fun b _ hs => ⟨fun x => x, fun h => hs (un_el h (fun h => (.inr (.inl h))) (fun h => False.elim h))⟩) _ k4.lt gp1.2).2⟩
     have k4 := k4.ch0 crf
     have gp1 := gp1n
     have h38 := slRep.st k_Port_pos h38 crf (show ∀ b, b < w192.heap.size → ¬ (un (inBlk (Value.pointer (some ⟨p40, 0, none⟩))) (un (inBlk v52) nb)) b → ¬ nb b ∧ ¬ (un (inBlk v52) nb) b from fun b _ hs => ⟨fun x => x, fun h => hs (un_el h (fun h => (.inr (.inl h))) (fun h => False.elim h))⟩)
     have h39 := slRep.st k_Endpoint_pos h39 crf (show ∀ b, b < w192.heap.size → ¬ (un (inBlk (Value.pointer (some ⟨p40, 0, none⟩))) (un (inBlk v52) nb)) b → ¬ nb b ∧ ¬ (un (inBlk v52) nb) b from fun b _ hs => ⟨fun x => x, fun h => hs (un_el h (fun h => (.inr (.inl h))) (fun h => False.elim h))⟩)
     have h53 := h53.st crf (fun _ _ x => x) (show ∀ b, b < w192.heap.size → ¬ (un (inBlk (Value.pointer (some ⟨p40, 0, none⟩))) (un (inBlk v52) nb)) b → ¬ nb b ∧ ¬ (un (inBlk v52) nb) b from fun b _ hs => ⟨fun x => x, fun h => hs (un_el h (fun h => (.inr (.inl h))) (fun h => False.elim h))⟩) (fun b h => (.inl h))
     have c191 := c191.then0 crf
     have hLn := runAO_next hL15 hq18 hb19
     exact ⟨rest29.length, Nat.lt_succ_self _, [(3, (Value.pointer (some ⟨p1, 0, none⟩))), (20, av0), (21, (Value.int .i64 ((a0.length : Nat) : Int))), (5, v52), (22, (Value.int .i64 ((i14 + 1 : Nat) : Int)))], ⟨rfl, rfl, rfl, rfl, rfl, trivial⟩, ⟨rest29, i14 + 1, x51, v52, rfl, rfl, c191, hat16.next, hLn, ah0, k4, h53, gp1⟩⟩
   ·
    obtain rfl := hat16.nil q28
    have hLf : x10 = o20 := runAO_done hL15
    refine CW.exit (thn_exit (thn_exit (inB_hit ?_)))
    exact ⟨x10, v11, ⟨rfl, trivial⟩, c25, hLf, ah0, k4, h12, gp1⟩
  ·
   rintro _ w197 ⟨x10, v11, hE198, c196, f199, ah0, k4, h12, gp1⟩
   subst f199
   refine thn_n (CW.sub [(5, v11)] hE198 ?_)
   refine CW.seq (CW.region ?_)
   refine rl_bslice (k := k_Candidate) (F := F) (B := w.heap.size) (S := (un (inBlk v11) nb)) ([] : List Candidate) rfl k_Candidate_pos Try.underlying28 Try.sizeOf58 Try.zeroValue58 rfl rfl trivial c196.size (un_lt (fun b hb => (h12.lt b hb).2) nbS) rfl ?_
   intro v201 w202 c203 hf204 h205
   have d206 : ∀ b, inBlk v201 b → ¬ inBlk v11 b := disNew hf204 (fun b hb => (h12.lt b hb).2)
   have ah0 := slRep.st k_Slice_pos ah0 c203 (admNew hf204 (fun _ x => x))
   have gp1n : (G F w.heap.size (un (inBlk v201) (un (inBlk v11) nb))) p1 := ⟨gp1.1, ((admNew hf204 (fun _ x => x)) _ k4.lt gp1.2).2⟩
   have k4 := k4.ch0 c203
   have gp1 := gp1n
   have h12 := h12.st c203 (fun _ _ x => x) (admNew hf204 (fun _ x => x)) (fun b h => (.inr (.inl h)))
   have c196 := c196.then0 c203
   refine rl_assign rfl rfl ?_
   refine RL.nil ?_
   refine thn_n ?_
   refine CW.seq ?_
   refine CW.seq (CW.region ?_)
   refine rl_move rfl rfl ?_
   refine rl_lenR rfl (SlO.read (S' := (un (inBlk v201) nb)) k_Candidate_pos h12 (fun b hs h => hs (un_el h (fun h => (.inl h)) (fun h => False.elim h))) (fun b hb => fun h => un_el h (fun h => (disSym d206) b hb h) (fun h => h))) Try.underlying28 rfl ?_
   refine rl_move rfl rfl ?_
   refine RL.nil ?_
   refine thn_n ?_
   have h12 := SlO.read (S' := (un (inBlk v201) nb)) k_Candidate_pos h12 (fun b hs h => hs (un_el h (fun h => (.inl h)) (fun h => False.elim h))) (fun b hb => fun h => un_el h (fun h => (disSym d206) b hb h) (fun h => h))
   have crf : Ch nb w202 w202 := Ch.refl
   have ah0 := slRep.st k_Slice_pos ah0 crf (show ∀ b, b < w202.heap.size → ¬ (un (inBlk v201) (un (inBlk v11) nb)) b → ¬ nb b ∧ ¬ (un (inBlk v201) nb) b from fun b _ hs => ⟨fun x => x, fun h => hs (un_el h (fun h => (.inl h)) (fun h => False.elim h))⟩)
   have gp1n : (G F w.heap.size (un (inBlk v201) nb)) p1 := ⟨gp1.1, ((show ∀ b, b < w202.heap.size → ¬ (un (inBlk v201) (un (inBlk v11) nb)) b → ¬ nb b ∧ ¬ (un (inBlk v201) nb) b from fun b _ hs => ⟨fun x => x, fun h => hs (un_el h (fun h => (.inl h)) (fun h => False.elim h))⟩) _ k4.lt gp1.2).2⟩
   have k4 := k4.ch0 crf
   have gp1 := gp1n
   have h205 := h205.st crf (fun _ _ x => x) (show ∀ b, b < w202.heap.size → ¬ (un (inBlk v201) (un (inBlk v11) nb)) b → ¬ nb b ∧ ¬ (un (inBlk v201) nb) b from fun b _ hs => ⟨fun x => x, fun h => hs (un_el h (fun h => (.inl h)) (fun h => False.elim h))⟩) (fun b h => (.inl h))
   have c196 := c196.then0 crf
   obtain ⟨o217, ho218, hS⟩ := bindS hS
   refine CW.cutB (fun E' w' => ∃ (ix224 : Nat) (x207 : (List Candidate)) (v208 : Value), Sub [(13, v208)] E' ∧ Ch nb w w' ∧ (ix224, x207) = o217 ∧ slRep k_Slice (G F w.heap.size (un (inBlk v208) nb)) w' a0 av0 ∧ Blk w' p1 35 (Want.enc a1) ∧ slRep k_Candidate (G F w.heap.size (un (inBlk v208) nb)) w' x10 v11 ∧ SlO k_Candidate 58 F w.heap.size (un (inBlk v208) nb) w' x207 v208 ∧ (G F w.heap.size (un (inBlk v208) nb)) p1) ?_ ?_
   ·
    refine CW.loopS [(5, v11), (92, v11), (93, (Value.int .i64 ((x10.length : Nat) : Int))), (13, v201), (94, (Value.int .i64 ((0 : Nat) : Int)))] ⟨rfl, rfl, rfl, rfl, rfl, trivial⟩ x10.length (fun m E w' => ∃ (rest210 : List Candidate) (i211 : Nat) (x207 : (List Candidate)) (v208 : Value), m = rest210.length ∧ E = [(5, v11), (92, v11), (93, (Value.int .i64 ((x10.length : Nat) : Int))), (13, v208), (94, (Value.int .i64 ((i211 : Nat) : Int)))] ∧ Ch nb w w' ∧ At x10 i211 rest210 ∧ runAO (F19_linkboyref19_Candidates_b4 x10 x10) rest210 (i211, x207) = some o217 ∧ slRep k_Slice (G F w.heap.size (un (inBlk v208) nb)) w' a0 av0 ∧ Blk w' p1 35 (Want.enc a1) ∧ slRep k_Candidate (G F w.heap.size (un (inBlk v208) nb)) w' x10 v11 ∧ SlO k_Candidate 58 F w.heap.size (un (inBlk v208) nb) w' x207 v208 ∧ (G F w.heap.size (un (inBlk v208) nb)) p1)
        ⟨x10, 0, [], v201, rfl, rfl, c196, At.start, ho218, ah0, k4, h12, h205, gp1⟩ ?_
    rintro _ _ w223 ⟨rest210, i211, x207, v208, rfl, rfl, c222, hat213, hL212, ah0, k4, h12, h209, gp1⟩
    refine CW.seq (CW.region ?_)
    refine rl_bin rfl rfl B.lss rfl ?_
    refine RL.nil (thn_n ?_)
    refine CW.seq ?_
    refine CW.cond (t := decide (((i211 : Nat) : Int) < ((x10.length : Nat) : Int))) rfl (fun q225 => ?_) (fun q225 => ?_)
    ·
     obtain ⟨x219, rest226, rfl⟩ := hat213.cons q225
     obtain ⟨q214, hq215⟩ := runAO_some hL212
     have hb216 := hq215
     refine CW.skip (thn_n ?_)
     refine CW.seq ?_
     refine CW.block ?_
     refine CW.seq (CW.region ?_)
     refine rl_move rfl rfl ?_
     refine rl_ixR rfl h12 rfl hat213.get Try.underlying28 Try.sizeOf58 rfl ?_
     intro p227 o228 cs229 hr230 hs231 hg232
     obtain ⟨z233, rfl, h234⟩ := hr230
     refine rl_loadA (cs := (Candidate.c x219 z233)) rfl Try.isAgg58 Try.sizeOf58 (hs231) rfl rfl ?_
     refine rl_alloc (Candidate.c Candidate.z (Value.slice none 0 0)) Try.zeroValue58 rfl rfl ?_
     intro p235 w236 n237 k238
     have lo239 : ∀ b, inBlk (Value.pointer (some ⟨p235, 0, none⟩)) b → w.heap.size ≤ b := fun b h => Nat.le_trans c222.size (n237.fresh b h)
     have d240 : ∀ b, inBlk (Value.pointer (some ⟨p235, 0, none⟩)) b → ¬ inBlk v208 b := disNew n237.fresh (fun b hb => (h209.lt b hb).2)
     have ah0 := slRep.st k_Slice_pos ah0 n237.ch (admNew n237.fresh (fun _ x => x))
     have gp1n : (G F w.heap.size (un (inBlk (Value.pointer (some ⟨p235, 0, none⟩))) (un (inBlk v208) nb))) p1 := ⟨gp1.1, ((admNew n237.fresh (fun _ x => x)) _ k4.lt gp1.2).2⟩
     have k4 := k4.ch0 n237.ch
     have gp1 := gp1n
     have h12 := slRep.st k_Candidate_pos h12 n237.ch (admNew n237.fresh (fun _ x => x))
     have h209 := h209.st n237.ch (fun _ _ x => x) (admNew n237.fresh (fun _ x => x)) (fun b h => (.inr (.inl h)))
     have h234 := slRep.st kStr_pos h234 n237.ch (admNew n237.fresh (fun _ x => x))
     have c222 := c222.then0 n237.ch
     refine rl_assign rfl rfl ?_
     refine rl_storeA (vs := (Candidate.c x219 z233)) rfl rfl (Kd.one _ (show k_Candidate.rep (G F w.heap.size (un (inBlk (Value.pointer (some ⟨p235, 0, none⟩))) (un (inBlk v208) nb))) w236 x219 (Candidate.c x219 z233) from ⟨z233, rfl, h234⟩)) Try.sizeOf58 rfl k238 rfl ?_
     intro w241 s243 c242 k244
     have ad245 : ∀ b, b < w236.heap.size → ¬ (un (inBlk (Value.pointer (some ⟨p235, 0, none⟩))) (un (inBlk v208) nb)) b → ¬ (inBlk (Value.pointer (some ⟨p235, 0, none⟩))) b ∧ ¬ (un (inBlk (Value.pointer (some ⟨p235, 0, none⟩))) (un (inBlk v208) nb)) b := fun b _ hs => ⟨fun h => hs (.inl h), hs⟩
     have ah0 := slRep.st k_Slice_pos ah0 c242 ad245
     have k4 := k4.ch c242 (ad245 _ k4.lt gp1.2).1
     have h12 := slRep.st k_Candidate_pos h12 c242 ad245
     have h209 := h209.st c242 (fun b hb h => (disSym d240) b hb h) ad245 (fun b h => (.inr (.inl h)))
     have h234 := slRep.st kStr_pos h234 c242 ad245
     have c222 := c222.then c242 (fun i hi h => absurd (lo239 i h) (Nat.not_le_of_lt hi))
     refine RL.nil ?_
     refine thn_n ?_
     refine CW.seq (CW.region ?_)
     refine rl_assign rfl rfl ?_
     refine RL.nil ?_
     refine thn_n ?_
     refine CW.seq ?_
     refine CW.seq (CW.region ?_)
     refine rl_move rfl rfl ?_
     refine rl_move rfl rfl ?_
     obtain ⟨y246, hy247, hb216⟩ := bindS hb216
     refine rl_cutR (kl := .i64) (kh := .i64) none (some ((i211 : Nat) : Int)) rfl h12 k_Candidate_pos trivial rfl hy247 Try.underlying28 Try.sizeOf58 rfl ?_
     intro v248 h249
     refine rl_lenR rfl h249 Try.underlying28 rfl ?_
     refine rl_move rfl rfl ?_
     refine RL.nil ?_
     refine thn_n ?_
     obtain ⟨o259, ho260⟩ : ∃ o, runA (F19_linkboyref19_Candidates_b5 x219) y246 true = o := ⟨_, rfl⟩
     have hb216 := ltS ho260 hb216
     refine CW.cutB (fun E' w' => ∃ (x250 : Bool), Sub [(5, v11), (13, v208), (15, (Value.pointer (some ⟨p235, 0, none⟩))), (92, v11), (93, (Value.int .i64 ((x10.length : Nat) : Int))), (94, (Value.int .i64 ((i211 : Nat) : Int))), (16, (Value.bool x250))] E' ∧ Ch nb w w' ∧ x250 = o259 ∧ slRep k_Slice (G F w.heap.size (un (inBlk (Value.pointer (some ⟨p235, 0, none⟩))) (un (inBlk v208) nb))) w' a0 av0 ∧ Blk w' p1 35 (Want.enc a1) ∧ slRep k_Candidate (G F w.heap.size (un (inBlk (Value.pointer (some ⟨p235, 0, none⟩))) (un (inBlk v208) nb))) w' x10 v11 ∧ SlO k_Candidate 58 F w.heap.size (un (inBlk (Value.pointer (some ⟨p235, 0, none⟩))) (un (inBlk v208) nb)) w' x207 v208 ∧ slRep kStr (G F w.heap.size (un (inBlk (Value.pointer (some ⟨p235, 0, none⟩))) (un (inBlk v208) nb))) w' x219.zones z233 ∧ Blk w' p235 58 (Candidate.c x219 z233) ∧ slRep k_Candidate (G F w.heap.size (un (inBlk (Value.pointer (some ⟨p235, 0, none⟩))) (un (inBlk v208) nb))) w' y246 v248 ∧ (G F w.heap.size (un (inBlk (Value.pointer (some ⟨p235, 0, none⟩))) (un (inBlk v208) nb))) p1 ∧ (∀ b, inBlk (Value.pointer (some ⟨p235, 0, none⟩)) b → ¬ inBlk v208 b)) ?_ ?_
     ·
      refine CW.loopS [(5, v11), (13, v208), (15, (Value.pointer (some ⟨p235, 0, none⟩))), (92, v11), (93, (Value.int .i64 ((x10.length : Nat) : Int))), (94, (Value.int .i64 ((i211 : Nat) : Int))), (101, v248), (102, (Value.int .i64 ((y246.length : Nat) : Int))), (16, (Value.bool true)), (103, (Value.int .i64 ((0 : Nat) : Int)))] ⟨rfl, rfl, rfl, rfl, rfl, rfl, rfl, rfl, rfl, rfl, trivial⟩ y246.length (fun m E w' => ∃ (rest252 : List Candidate) (i253 : Nat) (x250 : Bool), m = rest252.length ∧ E = [(5, v11), (13, v208), (15, (Value.pointer (some ⟨p235, 0, none⟩))), (92, v11), (93, (Value.int .i64 ((x10.length : Nat) : Int))), (94, (Value.int .i64 ((i211 : Nat) : Int))), (101, v248), (102, (Value.int .i64 ((y246.length : Nat) : Int))), (16, (Value.bool x250)), (103, (Value.int .i64 ((i253 : Nat) : Int)))] ∧ Ch nb w w' ∧ At y246 i253 rest252 ∧ runA (F19_linkboyref19_Candidates_b5 x219) rest252 x250 = o259 ∧ slRep k_Slice (G F w.heap.size (un (inBlk (Value.pointer (some ⟨p235, 0, none⟩))) (un (inBlk v208) nb))) w' a0 av0 ∧ Blk w' p1 35 (Want.enc a1) ∧ slRep k_Candidate (G F w.heap.size (un (inBlk (Value.pointer (some ⟨p235, 0, none⟩))) (un (inBlk v208) nb))) w' x10 v11 ∧ SlO k_Candidate 58 F w.heap.size (un (inBlk (Value.pointer (some ⟨p235, 0, none⟩))) (un (inBlk v208) nb)) w' x207 v208 ∧ slRep kStr (G F w.heap.size (un (inBlk (Value.pointer (some ⟨p235, 0, none⟩))) (un (inBlk v208) nb))) w' x219.zones z233 ∧ Blk w' p235 58 (Candidate.c x219 z233) ∧ slRep k_Candidate (G F w.heap.size (un (inBlk (Value.pointer (some ⟨p235, 0, none⟩))) (un (inBlk v208) nb))) w' y246 v248 ∧ (G F w.heap.size (un (inBlk (Value.pointer (some ⟨p235, 0, none⟩))) (un (inBlk v208) nb))) p1 ∧ (∀ b, inBlk (Value.pointer (some ⟨p235, 0, none⟩)) b → ¬ inBlk v208 b))
          ⟨y246, 0, true, rfl, rfl, c222, At.start, ho260, ah0, k4, h12, h209, h234, k244, h249, gp1, d240⟩ ?_
      rintro _ _ w265 ⟨rest252, i253, x250, rfl, rfl, c264, hat255, hL254, ah0, k4, h12, h209, h234, k244, h249, gp1, d251⟩
      refine CW.seq (CW.region ?_)
      refine rl_bin rfl rfl B.lss rfl ?_
      refine RL.nil (thn_n ?_)
      refine CW.seq ?_
      refine CW.cond (t := decide (((i253 : Nat) : Int) < ((y246.length : Nat) : Int))) rfl (fun q267 => ?_) (fun q267 => ?_)
      ·
       obtain ⟨x261, rest268, rfl⟩ := hat255.cons q267
       obtain ⟨q256, hq257⟩ : ∃ q, (F19_linkboyref19_Candidates_b5 x219) x261 x250 = q := ⟨_, rfl⟩
       have hb258 := hq257
       refine CW.skip (thn_n ?_)
       refine CW.seq ?_
       refine CW.block ?_
       refine CW.seq (CW.region ?_)
       refine rl_ixR rfl h249 rfl hat255.get Try.underlying28 Try.sizeOf58 rfl ?_
       intro p269 o270 cs271 hr272 hs273 hg274
       obtain ⟨z275, rfl, h276⟩ := hr272
       refine rl_loadA (cs := (Candidate.c x261 z275)) rfl Try.isAgg58 Try.sizeOf58 (hs273) rfl rfl ?_
       refine rl_alloc (Candidate.c Candidate.z (Value.slice none 0 0)) Try.zeroValue58 rfl rfl ?_
       intro p277 w278 n279 k280
       have lo281 : ∀ b, inBlk (Value.pointer (some ⟨p277, 0, none⟩)) b → w.heap.size ≤ b := fun b h => Nat.le_trans c264.size (n279.fresh b h)
       have d282 : ∀ b, inBlk (Value.pointer (some ⟨p277, 0, none⟩)) b → ¬ inBlk (Value.pointer (some ⟨p235, 0, none⟩)) b := disNew n279.fresh k244.ltp
       have d283 : ∀ b, inBlk (Value.pointer (some ⟨p277, 0, none⟩)) b → ¬ inBlk v208 b := disNew n279.fresh (fun b hb => (h209.lt b hb).2)
       have ah0 := slRep.st k_Slice_pos ah0 n279.ch (admNew n279.fresh (fun _ x => x))
       have gp1n : (G F w.heap.size (un (inBlk (Value.pointer (some ⟨p277, 0, none⟩))) (un (inBlk (Value.pointer (some ⟨p235, 0, none⟩))) (un (inBlk v208) nb)))) p1 := ⟨gp1.1, ((admNew n279.fresh (fun _ x => x)) _ k4.lt gp1.2).2⟩
       have k4 := k4.ch0 n279.ch
       have gp1 := gp1n
       have h12 := slRep.st k_Candidate_pos h12 n279.ch (admNew n279.fresh (fun _ x => x))
       have h209 := h209.st n279.ch (fun _ _ x => x) (admNew n279.fresh (fun _ x => x)) (fun b h => (.inr (.inr (.inl h))))
       have h234 := slRep.st kStr_pos h234 n279.ch (admNew n279.fresh (fun _ x => x))
       have k244 := k244.ch0 n279.ch
       have h249 := slRep.st k_Candidate_pos h249 n279.ch (admNew n279.fresh (fun _ x => x))
       have h276 := slRep.st kStr_pos h276 n279.ch (admNew n279.fresh (fun _ x => x))
       have c264 := c264.then0 n279.ch
       refine rl_storeA (vs := (Candidate.c x261 z275)) rfl rfl (Kd.one _ (show k_Candidate.rep (G F w.heap.size (un (inBlk (Value.pointer (some ⟨p277, 0, none⟩))) (un (inBlk (Value.pointer (some ⟨p235, 0, none⟩))) (un (inBlk v208) nb)))) w278 x261 (Candidate.c x261 z275) from ⟨z275, rfl, h276⟩)) Try.sizeOf58 rfl k280 rfl ?_
       intro w284 s286 c285 k287
       have ad288 : ∀ b, b < w278.heap.size → ¬ (un (inBlk (Value.pointer (some ⟨p277, 0, none⟩))) (un (inBlk (Value.pointer (some ⟨p235, 0, none⟩))) (un (inBlk v208) nb))) b → ¬ (inBlk (Value.pointer (some ⟨p277, 0, none⟩))) b ∧ ¬ (un (inBlk (Value.pointer (some ⟨p277, 0, none⟩))) (un (inBlk (Value.pointer (some ⟨p235, 0, none⟩))) (un (inBlk v208) nb))) b := fun b _ hs => ⟨fun h => hs (.inl h), hs⟩
       have ah0 := slRep.st k_Slice_pos ah0 c285 ad288
       have k4 := k4.ch c285 (ad288 _ k4.lt gp1.2).1
       have h12 := slRep.st k_Candidate_pos h12 c285 ad288
       have h209 := h209.st c285 (fun b hb h => (disSym d283) b hb h) ad288 (fun b h => (.inr (.inr (.inl h))))
       have h234 := slRep.st kStr_pos h234 c285 ad288
       have k244 := k244.ch c285 ((fun b hb h => (disSym d282) b hb h) _ rfl)
       have h249 := slRep.st k_Candidate_pos h249 c285 ad288
       have h276 := slRep.st kStr_pos h276 c285 ad288
       have c264 := c264.then c285 (fun i hi h => absurd (lo281 i h) (Nat.not_le_of_lt hi))
       refine RL.nil ?_
       refine thn_n ?_
       refine CW.region ?_
       refine rl_move rfl rfl ?_
       refine rl_move rfl rfl ?_
       obtain ⟨b291, hb292⟩ : ∃ v, (x250 && (!decide (x261.point = x219.point))) = v := ⟨_, rfl⟩
       have hb258 := ltS hb292 hb258
       refine RL.join 6 114 (.bool b291) (fun w' => Ch nb w284 w') ?_ ?_
       · rcases Bool.eq_false_or_eq_true x250 with hg290 | hg290
         ·
          have hs289 := and_t hg290 hb292
          have cs : Ch nb w284 w284 := Ch.refl
          refine RL.yes rfl rfl rfl hg290 ?_
          refine rl_fieldAddr rfl fa58_0 rfl ?_
          refine RL.yes rfl rfl rfl hg290 ?_
          refine rl_loadA (cs := (Point.enc x261.point)) rfl Try.isAgg41 Try.sizeOf41 (k287.segAt 0 18) rfl rfl ?_
          refine RL.yes rfl rfl rfl hg290 ?_
          refine rl_fieldAddr rfl fa58_0 rfl ?_
          refine RL.yes rfl rfl rfl hg290 ?_
          refine rl_loadA (cs := (Point.enc x219.point)) rfl Try.isAgg41 Try.sizeOf41 (k244.segAt 0 18) rfl rfl ?_
          refine RL.yes rfl rfl rfl hg290 ?_
          refine rl_bin rfl rfl (neq41 x261.point x219.point) rfl ?_
          refine rl_pickT rfl hg290 rfl rfl ?_
          exact RL.nil ⟨Ext.bothEq (congrArg Value.bool hs289) (Ext.skip rfl (Ext.skip rfl (Ext.skip rfl (Ext.skip rfl (Ext.skip rfl (Ext.rfl')))))), cs⟩
         ·
          have hs289 := and_f hg290 hb292
          have cs : Ch nb w284 w284 := Ch.refl
          refine RL.no rfl rfl rfl hg290 rfl rfl ?_
          refine RL.no rfl rfl rfl hg290 rfl rfl ?_
          refine RL.no rfl rfl rfl hg290 rfl rfl ?_
          refine RL.no rfl rfl rfl hg290 rfl rfl ?_
          refine RL.no rfl rfl rfl hg290 rfl rfl ?_
          refine rl_pickF rfl hg290 rfl rfl ?_
          exact RL.nil ⟨Ext.bothEq (congrArg Value.bool hs289) (Ext.skip rfl (Ext.skip rfl (Ext.skip rfl (Ext.skip rfl (Ext.skip rfl (Ext.rfl')))))), cs⟩
       intro w293 c294
       have ah0 := slRep.ch k_Slice_pos ah0 c294
       have k4 := k4.ch0 c294
       have h12 := slRep.ch k_Candidate_pos h12 c294
       have h209 := h209.ch0 c294
       have h234 := slRep.ch kStr_pos h234 c294
       have k244 := k244.ch0 c294
       have h249 := slRep.ch k_Candidate_pos h249 c294
       have h276 := slRep.ch kStr_pos h276 c294
       have k287 := k287.ch0 c294
       have c264 := c264.then0 c294
       refine rl_assign rfl rfl ?_
       refine RL.nil ?_
       refine inB_n ?_
       refine thn_n ?_
       refine CW.region ?_
       refine rl_inc rfl hat255.lt h249.big rfl ?_
       refine rl_move rfl rfl ?_
       refine RL.nil ?_
       refine thn_n ?_
       have crf : Ch nb w293 w293 := Ch.refl
       have ah0 := slRep.st k_Slice_pos ah0 crf (show ∀ b, b < w293.heap.size → ¬ (un (inBlk (Value.pointer (some ⟨p277, 0, none⟩))) (un (inBlk (Value.pointer (some ⟨p235, 0, none⟩))) (un (inBlk v208) nb))) b → ¬ nb b ∧ ¬ (un (inBlk (Value.pointer (some ⟨p235, 0, none⟩))) (un (inBlk v208) nb)) b from fun b _ hs => ⟨fun x => x, fun h => hs (un_el h (fun h => (.inr (.inl h))) (fun h => un_el h (fun h => (.inr (.inr (.inl h)))) (fun h => False.elim h)))⟩)
       have gp1n : (G F w.heap.size (un (inBlk (Value.pointer (some ⟨p235, 0, none⟩))) (un (inBlk v208) nb))) p1 := ⟨gp1.1, ((show ∀ b, b < w293.heap.size → ¬ (un (inBlk (Value.pointer (some ⟨p277, 0, none⟩))) (un (inBlk (Value.pointer (some ⟨p235, 0, none⟩))) (un (inBlk v208) nb))) b → ¬ nb b ∧ ¬ (un (inBlk (Value.pointer (some ⟨p235, 0, none⟩))) (un (inBlk v208) nb)) b from fun b _ hs => ⟨fun x => x, fun h => hs (un_el h (fun h => (.inr (.inl h))) (fun h => un_el h (fun h => (.inr (.inr (.inl h)))) (fun h => False.elim h)))⟩) _ k4.lt gp1.2).2⟩
       have k4 := k4.ch0 crf
       have gp1 := gp1n
       have h12 := slRep.st k_Candidate_pos h12 crf (show ∀ b, b < w293.heap.size → ¬ (un (inBlk (Value.pointer (some ⟨p277, 0, none⟩))) (un (inBlk (Value.pointer (some ⟨p235, 0, none⟩))) (un (inBlk v208) nb))) b → ¬ nb b ∧ ¬ (un (inBlk (Value.pointer (some ⟨p235, 0, none⟩))) (un (inBlk v208) nb)) b from fun b _ hs => ⟨fun x => x, fun h => hs (un_el h (fun h => (.inr (.inl h))) (fun h => un_el h (fun h => (.inr (.inr (.inl h)))) (fun h => False.elim h)))⟩)
       have h209 := h209.st crf (fun _ _ x => x) (show ∀ b, b < w293.heap.size → ¬ (un (inBlk (Value.pointer (some ⟨p277, 0, none⟩))) (un (inBlk (Value.pointer (some ⟨p235, 0, none⟩))) (un (inBlk v208) nb))) b → ¬ nb b ∧ ¬ (un (inBlk (Value.pointer (some ⟨p235, 0, none⟩))) (un (inBlk v208) nb)) b from fun b _ hs => ⟨fun x => x, fun h => hs (un_el h (fun h => (.inr (.inl h))) (fun h => un_el h (fun h => (.inr (.inr (.inl h)))) (fun h => False.elim h)))⟩) (fun b h => (.inr (.inl h)))
       have h234 := slRep.st kStr_pos h234 crf (show ∀ b, b < w293.heap.size → ¬ (un (inBlk (Value.pointer (some ⟨p277, 0, none⟩))) (un (inBlk (Value.pointer (some ⟨p235, 0, none⟩))) (un (inBlk v208) nb))) b → ¬ nb b ∧ ¬ (un (inBlk (Value.pointer (some ⟨p235, 0, none⟩))) (un (inBlk v208) nb)) b from fun b _ hs => ⟨fun x => x, fun h => hs (un_el h (fun h => (.inr (.inl h))) (fun h => un_el h (fun h => (.inr (.inr (.inl h)))) (fun h => False.elim h)))⟩)
       have k244 := k244.ch0 crf
       have h249 := slRep.st k_Candidate_pos h249 crf (show ∀ b, b < w293.heap.size → ¬ (un (inBlk (Value.pointer (some ⟨p277, 0, none⟩))) (un (inBlk (Value.pointer (some ⟨p235, 0, none⟩))) (un (inBlk v208) nb))) b → ¬ nb b ∧ ¬ (un (inBlk (Value.pointer (some ⟨p235, 0, none⟩))) (un (inBlk v208) nb)) b from fun b _ hs => ⟨fun x => x, fun h => hs (un_el h (fun h => (.inr (.inl h))) (fun h => un_el h (fun h => (.inr (.inr (.inl h)))) (fun h => False.elim h)))⟩)
       have h276 := slRep.st kStr_pos h276 crf (show ∀ b, b < w293.heap.size → ¬ (un (inBlk (Value.pointer (some ⟨p277, 0, none⟩))) (un (inBlk (Value.pointer (some ⟨p235, 0, none⟩))) (un (inBlk v208) nb))) b → ¬ nb b ∧ ¬ (un (inBlk (Value.pointer (some ⟨p235, 0, none⟩))) (un (inBlk v208) nb)) b from fun b _ hs => ⟨fun x => x, fun h => hs (un_el h (fun h => (.inr (.inl h))) (fun h => un_el h (fun h => (.inr (.inr (.inl h)))) (fun h => False.elim h)))⟩)
       have c264 := c264.then0 crf
       have hLn := runA_next hL254 (hb258.trans hq257.symm)
       exact ⟨rest268.length, Nat.lt_succ_self _, [(5, v11), (13, v208), (15, (Value.pointer (some ⟨p235, 0, none⟩))), (92, v11), (93, (Value.int .i64 ((x10.length : Nat) : Int))), (94, (Value.int .i64 ((i211 : Nat) : Int))), (101, v248), (102, (Value.int .i64 ((y246.length : Nat) : Int))), (16, (Value.bool b291)), (103, (Value.int .i64 ((i253 + 1 : Nat) : Int)))], ⟨rfl, rfl, rfl, rfl, rfl, rfl, rfl, rfl, rfl, rfl, trivial⟩, ⟨rest268, i253 + 1, b291, rfl, rfl, c264, hat255.next, hLn, ah0, k4, h12, h209, h234, k244, h249, gp1, d251⟩⟩
      ·
       obtain rfl := hat255.nil q267
       have hLf : x250 = o259 := hL254
       refine CW.exit (thn_exit (thn_exit (inB_hit ?_)))
       exact ⟨x250, ⟨rfl, rfl, rfl, rfl, rfl, rfl, rfl, trivial⟩, c264, hLf, ah0, k4, h12, h209, h234, k244, h249, gp1, d251⟩
     ·
      rintro _ w296 ⟨x250, hE297, c295, f298, ah0, k4, h12, h209, h234, k244, h249, gp1, d251⟩
      subst f298
      refine thn_n (CW.sub [(5, v11), (13, v208), (15, (Value.pointer (some ⟨p235, 0, none⟩))), (92, v11), (93, (Value.int .i64 ((x10.length : Nat) : Int))), (94, (Value.int .i64 ((i211 : Nat) : Int))), (16, (Value.bool x250))] hE297 ?_)
      refine CW.seq (CW.region ?_)
      refine rl_move rfl rfl ?_
      refine RL.nil ?_
      refine thn_n ?_
      refine CW.cond (t := x250) rfl (fun q300 => ?_) (fun q300 => ?_)
      ·
       have hb216 := ifT q300 hb216
       refine CW.region ?_
       refine rl_move rfl rfl ?_
       refine rl_loadA (cs := (Candidate.c x219 z233)) rfl Try.isAgg58 Try.sizeOf58 (k244.segAt 0 23) rfl rfl ?_
       refine rl_bslice (k := k_Candidate) (F := F) (B := w.heap.size) (S := (un (inBlk (Value.pointer (some ⟨p235, 0, none⟩))) (un (inBlk v208) nb))) ([x219] : List Candidate) rfl k_Candidate_pos Try.underlying28 Try.sizeOf58 Try.zeroValue58 rfl rfl ⟨rfl, ⟨z233, rfl, h234⟩, trivial⟩ c295.size (un_lt k244.ltp (un_lt (fun b hb => (h209.lt b hb).2) nbS)) rfl ?_
       intro v301 w302 c303 hf304 h305
       have h305 := h305.readNew k_Candidate_pos hf304 (un_lt k244.ltp (un_lt (fun b hb => (h209.lt b hb).2) nbS))
       have ah0 := slRep.ch k_Slice_pos ah0 c303
       have k4 := k4.ch0 c303
       have h12 := slRep.ch k_Candidate_pos h12 c303
       have h209 := h209.ch0 c303
       have h234 := slRep.ch kStr_pos h234 c303
       have k244 := k244.ch0 c303
       have h249 := slRep.ch k_Candidate_pos h249 c303
       have c295 := c295.then0 c303
       obtain ⟨z314, hz315, hb216⟩ := bindS hb216
       have hl := (apO_get hz315).1
       refine rl_append (k := k_Candidate) (T := 58) (F := F) (B := w.heap.size) (S := (un (inBlk (Value.pointer (some ⟨p235, 0, none⟩))) (un (inBlk v208) nb))) (S2 := (un (inBlk (Value.pointer (some ⟨p235, 0, none⟩))) nb)) (fun v => (un (inBlk (Value.pointer (some ⟨p235, 0, none⟩))) (un (inBlk v) nb))) rfl rfl k_Candidate_pos ap28 h209 h305 (fun _ => un_swap) (fun _ _ => un_swap) hl c295.size (un_lt k244.ltp (un_lt (fun b hb => (h209.lt b hb).2) nbS)) rfl ?_
       intro v308 w309 h310 c311 hf312 ha313
       have d316 : ∀ b, inBlk v308 b → ¬ inBlk (Value.pointer (some ⟨p235, 0, none⟩)) b := disApp hf312 (disSym d251) k244.ltp
       have ah0 := slRep.st k_Slice_pos ah0 c311 ha313
       have gp1n : (G F w.heap.size (un (inBlk (Value.pointer (some ⟨p235, 0, none⟩))) (un (inBlk v308) nb))) p1 := ⟨gp1.1, (ha313 _ k4.lt gp1.2).2⟩
       have k4 := k4.ch c311 (ha313 _ k4.lt gp1.2).1
       have gp1 := gp1n
       have h12 := slRep.st k_Candidate_pos h12 c311 ha313
       have h234 := slRep.st kStr_pos h234 c311 ha313
       have k244 := k244.ch c311 ((fun b hb h => d251 b hb h) _ rfl)
       have h249 := slRep.st k_Candidate_pos h249 c311 ha313
       have h305 := slRep.st k_Candidate_pos h305 c311 ha313
       have c295 := c295.then c311 (fun i hi h => absurd ((fun b hb => (h209.lt b hb).1) i h) (Nat.not_le_of_lt hi))
       refine rl_assign rfl rfl ?_
       refine RL.nil ?_
       refine inB_n ?_
       refine thn_n ?_
       refine CW.region ?_
       refine rl_inc rfl hat213.lt h12.big rfl ?_
       refine rl_move rfl rfl ?_
       refine RL.nil ?_
       refine thn_n ?_
       have crf : Ch nb w309 w309 := Ch.refl
       have ah0 := slRep.st k_Slice_pos ah0 crf (show ∀ b, b < w309.heap.size → ¬ (un (inBlk (Value.pointer (some ⟨p235, 0, none⟩))) (un (inBlk v308) nb)) b → ¬ nb b ∧ ¬ (un (inBlk v308) nb) b from fun b _ hs => ⟨fun x => x, fun h => hs (un_el h (fun h => (.inr (.inl h))) (fun h => False.elim h))⟩)
       have gp1n : (G F w.heap.size (un (inBlk v308) nb)) p1 := ⟨gp1.1, ((show ∀ b, b < w309.heap.size → ¬ (un (inBlk (Value.pointer (some ⟨p235, 0, none⟩))) (un (inBlk v308) nb)) b → ¬ nb b ∧ ¬ (un (inBlk v308) nb) b from fun b _ hs => ⟨fun x => x, fun h => hs (un_el h (fun h => (.inr (.inl h))) (fun h => False.elim h))⟩) _ k4.lt gp1.2).2⟩
       have k4 := k4.ch0 crf
       have gp1 := gp1n
       have h12 := slRep.st k_Candidate_pos h12 crf (show ∀ b, b < w309.heap.size → ¬ (un (inBlk (Value.pointer (some ⟨p235, 0, none⟩))) (un (inBlk v308) nb)) b → ¬ nb b ∧ ¬ (un (inBlk v308) nb) b from fun b _ hs => ⟨fun x => x, fun h => hs (un_el h (fun h => (.inr (.inl h))) (fun h => False.elim h))⟩)
       have h234 := slRep.st kStr_pos h234 crf (show ∀ b, b < w309.heap.size → ¬ (un (inBlk (Value.pointer (some ⟨p235, 0, none⟩))) (un (inBlk v308) nb)) b → ¬ nb b ∧ ¬ (un (inBlk v308) nb) b from fun b _ hs => ⟨fun x => x, fun h => hs (un_el h (fun h => (.inr (.inl h))) (fun h => False.elim h))⟩)
       have h249 := slRep.st k_Candidate_pos h249 crf (show ∀ b, b < w309.heap.size → ¬ (un (inBlk (Value.pointer (some ⟨p235, 0, none⟩))) (un (inBlk v308) nb)) b → ¬ nb b ∧ ¬ (un (inBlk v308) nb) b from fun b _ hs => ⟨fun x => x, fun h => hs (un_el h (fun h => (.inr (.inl h))) (fun h => False.elim h))⟩)
       have h305 := slRep.st k_Candidate_pos h305 crf (show ∀ b, b < w309.heap.size → ¬ (un (inBlk (Value.pointer (some ⟨p235, 0, none⟩))) (un (inBlk v308) nb)) b → ¬ nb b ∧ ¬ (un (inBlk v308) nb) b from fun b _ hs => ⟨fun x => x, fun h => hs (un_el h (fun h => (.inr (.inl h))) (fun h => False.elim h))⟩)
       have h310 := h310.st crf (fun _ _ x => x) (show ∀ b, b < w309.heap.size → ¬ (un (inBlk (Value.pointer (some ⟨p235, 0, none⟩))) (un (inBlk v308) nb)) b → ¬ nb b ∧ ¬ (un (inBlk v308) nb) b from fun b _ hs => ⟨fun x => x, fun h => hs (un_el h (fun h => (.inr (.inl h))) (fun h => False.elim h))⟩) (fun b h => (.inl h))
       have c295 := c295.then0 crf
       have hLn := runAO_next hL212 hq215 hb216
       exact ⟨rest226.length, Nat.lt_succ_self _, [(5, v11), (92, v11), (93, (Value.int .i64 ((x10.length : Nat) : Int))), (13, v308), (94, (Value.int .i64 ((i211 + 1 : Nat) : Int)))], ⟨rfl, rfl, rfl, rfl, rfl, trivial⟩, ⟨rest226, i211 + 1, x207 ++ [x219], v308, rfl, rfl, c295, hat213.next, hLn, ah0, k4, h12, h310, gp1⟩⟩
      ·
       have hb216 := ifF q300 hb216
       refine CW.skip ?_
       refine inB_n ?_
       refine thn_n ?_
       refine CW.region ?_
       refine rl_inc rfl hat213.lt h12.big rfl ?_
       refine rl_move rfl rfl ?_
       refine RL.nil ?_
       refine thn_n ?_
       have crf : Ch nb w296 w296 := Ch.refl
       have ah0 := slRep.st k_Slice_pos ah0 crf (show ∀ b, b < w296.heap.size → ¬ (un (inBlk (Value.pointer (some ⟨p235, 0, none⟩))) (un (inBlk v208) nb)) b → ¬ nb b ∧ ¬ (un (inBlk v208) nb) b from fun b _ hs => ⟨fun x => x, fun h => hs (un_el h (fun h => (.inr (.inl h))) (fun h => False.elim h))⟩)
       have gp1n : (G F w.heap.size (un (inBlk v208) nb)) p1 := ⟨gp1.1, ((show ∀ b, b < w296.heap.size → ¬ (un (inBlk (Value.pointer (some ⟨p235, 0, none⟩))) (un (inBlk v208) nb)) b → ¬ nb b ∧ ¬ (un (inBlk v208) nb) b from fun b _ hs => ⟨fun x => x, fun h => hs (un_el h (fun h => (.inr (.inl h))) (fun h => False.elim h))⟩) _ k4.lt gp1.2).2⟩
       have k4 := k4.ch0 crf
       have gp1 := gp1n
       have h12 := slRep.st k_Candidate_pos h12 crf (show ∀ b, b < w296.heap.size → ¬ (un (inBlk (Value.pointer (some ⟨p235, 0, none⟩))) (un (inBlk v208) nb)) b → ¬ nb b ∧ ¬ (un (inBlk v208) nb) b from fun b _ hs => ⟨fun x => x, fun h => hs (un_el h (fun h => (.inr (.inl h))) (fun h => False.elim h))⟩)
       have h209 := h209.st crf (fun _ _ x => x) (show ∀ b, b < w296.heap.size → ¬ (un (inBlk (Value.pointer (some ⟨p235, 0, none⟩))) (un (inBlk v208) nb)) b → ¬ nb b ∧ ¬ (un (inBlk v208) nb) b from fun b _ hs => ⟨fun x => x, fun h => hs (un_el h (fun h => (.inr (.inl h))) (fun h => False.elim h))⟩) (fun b h => (.inl h))
       have h234 := slRep.st kStr_pos h234 crf (show ∀ b, b < w296.heap.size → ¬ (un (inBlk (Value.pointer (some ⟨p235, 0, none⟩))) (un (inBlk v208) nb)) b → ¬ nb b ∧ ¬ (un (inBlk v208) nb) b from fun b _ hs => ⟨fun x => x, fun h => hs (un_el h (fun h => (.inr (.inl h))) (fun h => False.elim h))⟩)
       have h249 := slRep.st k_Candidate_pos h249 crf (show ∀ b, b < w296.heap.size → ¬ (un (inBlk (Value.pointer (some ⟨p235, 0, none⟩))) (un (inBlk v208) nb)) b → ¬ nb b ∧ ¬ (un (inBlk v208) nb) b from fun b _ hs => ⟨fun x => x, fun h => hs (un_el h (fun h => (.inr (.inl h))) (fun h => False.elim h))⟩)
       have c295 := c295.then0 crf
       have hLn := runAO_next hL212 hq215 hb216
       exact ⟨rest226.length, Nat.lt_succ_self _, [(5, v11), (92, v11), (93, (Value.int .i64 ((x10.length : Nat) : Int))), (13, v208), (94, (Value.int .i64 ((i211 + 1 : Nat) : Int)))], ⟨rfl, rfl, rfl, rfl, rfl, trivial⟩, ⟨rest226, i211 + 1, x207, v208, rfl, rfl, c295, hat213.next, hLn, ah0, k4, h12, h209, gp1⟩⟩
    ·
     obtain rfl := hat213.nil q225
     have hLf : (i211, x207) = o217 := runAO_done hL212
     refine CW.exit (thn_exit (thn_exit (inB_hit ?_)))
     exact ⟨i211, x207, v208, ⟨rfl, trivial⟩, c222, hLf, ah0, k4, h12, h209, gp1⟩
   ·
    rintro _ w318 ⟨ix224, x207, v208, hE319, c317, f320, ah0, k4, h12, h209, gp1⟩
    subst f320
    refine thn_n (CW.sub [(13, v208)] hE319 ?_)
    refine CW.seq (CW.region ?_)
    refine rl_move rfl rfl ?_
    refine rl_assign rfl rfl ?_
    refine RL.nil ?_
    refine thn_n ?_
    refine CW.ret ?_
    obtain rfl := Option.some.inj hS
    exact ret1 rfl ⟨v208, rfl, h209.out, c317⟩
/-- lb/lbnum.SameTexts -/
theorem ctr40 (F : Nat → Prop) (w : World) (a0 : (List ByteArray)) (av0 : Value) (ah0 : slRep kStr F w a0 av0) (a1 : (List ByteArray)) (av1 : Value) (ah1 : slRep kStr F w a1 av1) (r : Bool) (hs : F40_linkboynum_SameTexts a0 a1 = some r) :
    Ret Try.prog 40 #[av0, av1] w fun v w' => v = (Value.bool r) ∧ Ch nb w w' := by
  have hS := hs
  have c0 : Ch nb w w := Ch.refl
  have ah0 := slRep.enter kStr_pos ah0
  have ah1 := slRep.enter kStr_pos ah1
  refine Ret.of (n := 26) (args := [_, _]) (rs := [.tmp 4]) Try.func40 rfl rfl rfl rfl ?_
  refine CW.seq (CW.region ?_)
  refine rl_assign rfl rfl ?_
  refine RL.nil ?_
  refine thn_n ?_
  refine CW.seq ?_
  refine CW.seq (CW.region ?_)
  refine rl_move rfl rfl ?_
  refine rl_lenR rfl ah0 Try.underlying42 rfl ?_
  refine rl_move rfl rfl ?_
  refine rl_lenR rfl ah1 Try.underlying42 rfl ?_
  refine rl_bin rfl rfl B.neq rfl ?_
  refine RL.nil ?_
  refine thn_n ?_
  refine CW.cond (t := !decide (((a0.length : Nat) : Int) = ((a1.length : Nat) : Int))) rfl (fun q1 => ?_) (fun q1 => ?_)
  ·
   have hS := ifT q1 hS
   refine CW.seq (CW.region ?_)
   refine rl_assign rfl rfl ?_
   refine RL.nil ?_
   refine thn_n ?_
   refine CW.ret ?_
   refine thn_ret ?_
   obtain rfl := Option.some.inj hS
   exact ret1 rfl ⟨rfl, c0⟩
  ·
   have hS := ifF q1 hS
   refine CW.skip ?_
   refine thn_n ?_
   refine CW.seq ?_
   refine CW.seq (CW.region ?_)
   refine rl_move rfl rfl ?_
   refine rl_lenR rfl ah0 Try.underlying42 rfl ?_
   refine rl_move rfl rfl ?_
   refine RL.nil ?_
   refine thn_n ?_
   obtain ⟨o9, ho10, hS⟩ := bindS hS
   refine CW.cutB (fun E' w' => ∃ (ix16 : Nat), Sub [] E' ∧ Ch nb w w' ∧ Lp.fin ix16 = o9 ∧ slRep kStr (G F w.heap.size nb) w' a0 av0 ∧ slRep kStr (G F w.heap.size nb) w' a1 av1) ?_ ?_
   ·
    refine CW.loopS [(0, av0), (1, av1), (12, (Value.int .i64 ((a0.length : Nat) : Int))), (13, (Value.int .i64 ((0 : Nat) : Int)))] ⟨rfl, rfl, rfl, rfl, trivial⟩ a0.length (fun m E w' => ∃ (rest2 : List ByteArray) (i3 : Nat) , m = rest2.length ∧ E = [(0, av0), (1, av1), (12, (Value.int .i64 ((a0.length : Nat) : Int))), (13, (Value.int .i64 ((i3 : Nat) : Int)))] ∧ Ch nb w w' ∧ At a0 i3 rest2 ∧ runBO (F40_linkboynum_SameTexts_b1 a1) rest2 i3 = some o9 ∧ slRep kStr (G F w.heap.size nb) w' a0 av0 ∧ slRep kStr (G F w.heap.size nb) w' a1 av1)
        ⟨a0, 0, rfl, rfl, c0, At.start, ho10, ah0, ah1⟩ ?_
    rintro _ _ w15 ⟨rest2, i3, rfl, rfl, c14, hat5, hL4, ah0, ah1⟩
    refine CW.seq (CW.region ?_)
    refine rl_bin rfl rfl B.lss rfl ?_
    refine RL.nil (thn_n ?_)
    refine CW.seq ?_
    refine CW.cond (t := decide (((i3 : Nat) : Int) < ((a0.length : Nat) : Int))) rfl (fun q17 => ?_) (fun q17 => ?_)
    ·
     obtain ⟨x11, rest18, rfl⟩ := hat5.cons q17
     obtain ⟨q6, hq7⟩ := runBO_some hL4
     have hb8 := hq7
     refine CW.skip (thn_n ?_)
     refine CW.seq ?_
     refine CW.block ?_
     refine CW.seq (CW.region ?_)
     refine rl_move rfl rfl ?_
     refine rl_assign rfl rfl ?_
     refine RL.nil ?_
     refine thn_n ?_
     refine CW.seq ?_
     obtain ⟨y31, hy32, hb8⟩ := bindS hb8
     refine CW.draw 8 [(none, fun _ O uu wx => uu = av0), (none, fun _ O uu wx => uu = (Value.int .i64 ((i3 : Nat) : Int))), (none, fun _ O uu wx => ∃ (p19 : Nat) (o20 : Nat), uu = (Value.pointer (some ⟨p19, o20, none⟩)) ∧ (G F w.heap.size nb) p19 ∧ Seg wx p19 o20 [(Value.string x11)]), (none, fun _ O uu wx => uu = (Value.string x11)), (none, fun _ O uu wx => uu = av1), (none, fun _ O uu wx => uu = (Value.int .i64 ((i3 : Nat) : Int))), (none, fun _ O uu wx => ∃ (p25 : Nat) (o26 : Nat), uu = (Value.pointer (some ⟨p25, o26, none⟩)) ∧ (G F w.heap.size nb) p25 ∧ Seg wx p25 o26 [(Value.string y31)]), (none, fun _ O uu wx => uu = (Value.string y31))] [[], [], [0, 1], [2], [], [], [4, 5], [6]] [3, 7] nb (fun _ h => h.elim) mixed rfl rfl rfl rfl ?_ ?_
     ·
      refine Each.consA ⟨fun _ _ _ _ _ _ h => h, fun h => absurd rfl h, fun O wk hO ck => ?_⟩ ?_
      ·
       have ah0 := slRep.ch kStr_pos ah0 ck
       have ah1 := slRep.ch kStr_pos ah1 ck
       have c14 := c14.then0 ck
       refine rl_move rfl rfl ?_
       exact RL.nil ⟨_, rfl, Ch.refl, rfl⟩
      refine Each.consA ⟨fun _ _ _ _ _ _ h => h, fun h => absurd rfl h, fun O wk hO ck => ?_⟩ ?_
      ·
       have ah0 := slRep.ch kStr_pos ah0 ck
       have ah1 := slRep.ch kStr_pos ah1 ck
       have c14 := c14.then0 ck
       refine rl_move rfl rfl ?_
       exact RL.nil ⟨_, rfl, Ch.refl, rfl⟩
      refine Each.consA ⟨fun _ _ _ _ _ cc hh => by obtain ⟨p19, o20, e, hg24, hs23⟩ := hh; exact ⟨p19, o20, e, hg24, hs23.ch0 cc⟩, fun h => absurd rfl h, fun O wk hO ck => ?_⟩ ?_
      ·
       have ah0 := slRep.ch kStr_pos ah0 ck
       have ah1 := slRep.ch kStr_pos ah1 ck
       have c14 := c14.then0 ck
       refine Need.one rfl rfl rfl ?_
       rintro _ e33
       obtain rfl := e33.symm
       refine Need.one rfl rfl rfl ?_
       rintro _ e34
       obtain rfl := e34.symm
       refine rl_ixR rfl ah0 rfl hat5.get Try.underlying42 Try.sizeOf9 rfl ?_
       intro p35 o36 cs37 hr38 hs39 hg40
       obtain rfl := hr38
       exact RL.nil ⟨_, rfl, Ch.refl, ⟨p35, o36, rfl, hg40, hs39⟩⟩
      refine Each.consA ⟨fun _ _ _ _ _ _ h => h, fun h => absurd rfl h, fun O wk hO ck => ?_⟩ ?_
      ·
       have ah0 := slRep.ch kStr_pos ah0 ck
       have ah1 := slRep.ch kStr_pos ah1 ck
       have c14 := c14.then0 ck
       refine Need.one rfl rfl rfl ?_
       rintro _ ⟨p19, o20, e41, hg24, hs23⟩
       obtain rfl := e41.symm
       refine rl_loadS (v := (Value.string x11)) rfl Try.isAgg9 (hs23 0 _ rfl) rfl ?_
       exact RL.nil ⟨_, rfl, Ch.refl, rfl⟩
      refine Each.consA ⟨fun _ _ _ _ _ _ h => h, fun h => absurd rfl h, fun O wk hO ck => ?_⟩ ?_
      ·
       have ah0 := slRep.ch kStr_pos ah0 ck
       have ah1 := slRep.ch kStr_pos ah1 ck
       have c14 := c14.then0 ck
       refine rl_move rfl rfl ?_
       exact RL.nil ⟨_, rfl, Ch.refl, rfl⟩
      refine Each.consA ⟨fun _ _ _ _ _ _ h => h, fun h => absurd rfl h, fun O wk hO ck => ?_⟩ ?_
      ·
       have ah0 := slRep.ch kStr_pos ah0 ck
       have ah1 := slRep.ch kStr_pos ah1 ck
       have c14 := c14.then0 ck
       refine rl_move rfl rfl ?_
       exact RL.nil ⟨_, rfl, Ch.refl, rfl⟩
      refine Each.consA ⟨fun _ _ _ _ _ cc hh => by obtain ⟨p25, o26, e, hg30, hs29⟩ := hh; exact ⟨p25, o26, e, hg30, hs29.ch0 cc⟩, fun h => absurd rfl h, fun O wk hO ck => ?_⟩ ?_
      ·
       have ah0 := slRep.ch kStr_pos ah0 ck
       have ah1 := slRep.ch kStr_pos ah1 ck
       have c14 := c14.then0 ck
       refine Need.one rfl rfl rfl ?_
       rintro _ e42
       obtain rfl := e42.symm
       refine Need.one rfl rfl rfl ?_
       rintro _ e43
       obtain rfl := e43.symm
       refine rl_ixR rfl ah1 rfl (ixO_nat hy32) Try.underlying42 Try.sizeOf9 rfl ?_
       intro p44 o45 cs46 hr47 hs48 hg49
       obtain rfl := hr47
       exact RL.nil ⟨_, rfl, Ch.refl, ⟨p44, o45, rfl, hg49, hs48⟩⟩
      refine Each.consA ⟨fun _ _ _ _ _ _ h => h, fun h => absurd rfl h, fun O wk hO ck => ?_⟩ ?_
      ·
       have ah0 := slRep.ch kStr_pos ah0 ck
       have ah1 := slRep.ch kStr_pos ah1 ck
       have c14 := c14.then0 ck
       refine Need.one rfl rfl rfl ?_
       rintro _ ⟨p25, o26, e50, hg30, hs29⟩
       obtain rfl := e50.symm
       refine rl_loadS (v := (Value.string y31)) rfl Try.isAgg9 (hs29 0 _ rfl) rfl ?_
       exact RL.nil ⟨_, rfl, Ch.refl, rfl⟩
      trivial
     ·
      intro hvO53 OpO53 O53 w51 hO54 c52 hN55
      have ah0 := slRep.ch kStr_pos ah0 c52
      have ah1 := slRep.ch kStr_pos ah1 c52
      have c14 := c14.then0 c52
      refine Need.one rfl rfl rfl ?_
      rintro _ e56
      obtain rfl := e56.symm
      refine Need.one rfl rfl rfl ?_
      rintro _ e57
      obtain rfl := e57.symm
      refine rl_bin rfl rfl B.neqS rfl ?_
      refine RL.nil ?_
      refine thn_n ?_
      refine CW.cond (t := !decide (x11 = y31)) rfl (fun q58 => ?_) (fun q58 => ?_)
      ·
       have hb8 := ifT q58 hb8
       refine CW.seq (CW.region ?_)
       refine rl_assign rfl rfl ?_
       refine RL.nil ?_
       refine thn_n ?_
       refine CW.ret ?_
       refine inB_ret ?_
       refine thn_ret ?_
       refine thn_ret (inB_ret (thn_ret ?_))
       refine thn_ret ?_
       have f59 := runBO_ret hL4 hq7 hb8
       have hS := retS f59 hS
       obtain rfl := Option.some.inj hS
       exact ret1 rfl ⟨rfl, c14⟩
      ·
       have hb8 := ifF q58 hb8
       refine CW.skip ?_
       refine inB_n ?_
       refine thn_n ?_
       refine CW.region ?_
       refine rl_inc rfl hat5.lt ah0.big rfl ?_
       refine rl_move rfl rfl ?_
       refine RL.nil ?_
       refine thn_n ?_
       have hLn := runBO_next hL4 hq7 hb8
       exact ⟨rest18.length, Nat.lt_succ_self _, [(0, av0), (1, av1), (12, (Value.int .i64 ((a0.length : Nat) : Int))), (13, (Value.int .i64 ((i3 + 1 : Nat) : Int)))], ⟨rfl, rfl, rfl, rfl, trivial⟩, ⟨rest18, i3 + 1, rfl, rfl, c14, hat5.next, hLn, ah0, ah1⟩⟩
    ·
     obtain rfl := hat5.nil q17
     have hLf : Lp.fin i3 = o9 := runBO_done hL4
     refine CW.exit (thn_exit (thn_exit (inB_hit ?_)))
     exact ⟨i3, trivial, c14, hLf, ah0, ah1⟩
   ·
    rintro _ w61 ⟨ix16, hE62, c60, f63, ah0, ah1⟩
    have hS := finS f63 hS
    refine thn_n (CW.sub [] hE62 ?_)
    refine CW.seq (CW.region ?_)
    refine rl_assign rfl rfl ?_
    refine RL.nil ?_
    refine thn_n ?_
    refine CW.ret ?_
    obtain rfl := Option.some.inj hS
    exact ret1 rfl ⟨rfl, c60⟩
/-- lb/lbref18.Same -/
theorem ctr24 (F : Nat → Prop) (w : World) (a0 : Candidate) (az0_0 : Value) (ah0_0 : slRep kStr F w a0.zones az0_0) (a1 : Candidate) (az1_0 : Value) (ah1_0 : slRep kStr F w a1.zones az1_0) (r : Bool) (hs : F24_linkboyref18_Same a0 a1 = some r) :
    Ret Try.prog 24 #[(Value.agg (Candidate.c a0 az0_0).toArray), (Value.agg (Candidate.c a1 az1_0).toArray)] w fun v w' => v = (Value.bool r) ∧ Ch nb w w' := by
  have hS := hs
  have c0 : Ch nb w w := Ch.refl
  have ah0_0 := slRep.enter kStr_pos ah0_0
  have ah1_0 := slRep.enter kStr_pos ah1_0
  refine Ret.of (n := 45) (args := [_, _]) (rs := [.tmp 4]) Try.func24 rfl rfl rfl rfl ?_
  refine CW.seq (CW.region ?_)
  refine rl_boxA (cs := (Candidate.c a0 az0_0)) rfl rfl ?_
  intro p1 w2 n3 k4
  have gp1 : (G F w.heap.size nb) p1 := ⟨.inr (by rw [n3.eq]; exact c0.size), fun h => absurd (nbS _ h) (by rw [n3.eq]; exact Nat.lt_irrefl _)⟩
  have ah0_0 := slRep.ch kStr_pos ah0_0 n3.ch
  have ah1_0 := slRep.ch kStr_pos ah1_0 n3.ch
  have c0 := c0.then0 n3.ch
  refine rl_boxA (cs := (Candidate.c a1 az1_0)) rfl rfl ?_
  intro p5 w6 n7 k8
  have gp5 : (G F w.heap.size nb) p5 := ⟨.inr (by rw [n7.eq]; exact c0.size), fun h => absurd (nbS _ h) (by rw [n7.eq]; exact Nat.lt_irrefl _)⟩
  have ah0_0 := slRep.ch kStr_pos ah0_0 n7.ch
  have ah1_0 := slRep.ch kStr_pos ah1_0 n7.ch
  have k4 := k4.ch0 n7.ch
  have c0 := c0.then0 n7.ch
  refine rl_assign rfl rfl ?_
  refine RL.nil ?_
  refine thn_n ?_
  refine CW.seq (CW.region ?_)
  refine rl_fieldAddr rfl fa58_0 rfl ?_
  refine rl_loadA (cs := (Point.enc a0.point)) rfl Try.isAgg41 Try.sizeOf41 (k4.segAt 0 18) rfl rfl ?_
  refine rl_fieldAddr rfl fa58_0 rfl ?_
  refine rl_loadA (cs := (Point.enc a1.point)) rfl Try.isAgg41 Try.sizeOf41 (k8.segAt 0 18) rfl rfl ?_
  refine rl_bin rfl rfl (eql41 a0.point a1.point) rfl ?_
  refine rl_move rfl rfl ?_
  obtain ⟨b11, hb12⟩ : ∃ v, ((decide (a0.point = a1.point)) && (a0.localF == a1.localF)) = v := ⟨_, rfl⟩
  have hS := ltS hb12 hS
  refine RL.join 6 16 (.bool b11) (fun w' => Ch nb w6 w') ?_ ?_
  · rcases Bool.eq_false_or_eq_true (decide (a0.point = a1.point)) with hg10 | hg10
    ·
     have hs9 := and_t hg10 hb12
     have cs : Ch nb w6 w6 := Ch.refl
     refine RL.yes rfl rfl rfl hg10 ?_
     refine rl_fieldAddr rfl fa58_1 rfl ?_
     refine RL.yes rfl rfl rfl hg10 ?_
     refine rl_loadS (v := (Value.bool a0.localF)) rfl Try.isAgg4 (k4.cell rfl) rfl ?_
     refine RL.yes rfl rfl rfl hg10 ?_
     refine rl_fieldAddr rfl fa58_1 rfl ?_
     refine RL.yes rfl rfl rfl hg10 ?_
     refine rl_loadS (v := (Value.bool a1.localF)) rfl Try.isAgg4 (k8.cell rfl) rfl ?_
     refine RL.yes rfl rfl rfl hg10 ?_
     refine rl_bin rfl rfl (B.eqlB Try.underlying4) rfl ?_
     refine rl_pickT rfl hg10 rfl rfl ?_
     exact RL.nil ⟨Ext.bothEq (congrArg Value.bool hs9) (Ext.skip rfl (Ext.skip rfl (Ext.skip rfl (Ext.skip rfl (Ext.skip rfl (Ext.rfl')))))), cs⟩
    ·
     have hs9 := and_f hg10 hb12
     have cs : Ch nb w6 w6 := Ch.refl
     refine RL.no rfl rfl rfl hg10 rfl rfl ?_
     refine RL.no rfl rfl rfl hg10 rfl rfl ?_
     refine RL.no rfl rfl rfl hg10 rfl rfl ?_
     refine RL.no rfl rfl rfl hg10 rfl rfl ?_
     refine RL.no rfl rfl rfl hg10 rfl rfl ?_
     refine rl_pickF rfl hg10 rfl rfl ?_
     exact RL.nil ⟨Ext.bothEq (congrArg Value.bool hs9) (Ext.skip rfl (Ext.skip rfl (Ext.skip rfl (Ext.skip rfl (Ext.skip rfl (Ext.rfl')))))), cs⟩
  intro w13 c14
  have ah0_0 := slRep.ch kStr_pos ah0_0 c14
  have ah1_0 := slRep.ch kStr_pos ah1_0 c14
  have k4 := k4.ch0 c14
  have k8 := k8.ch0 c14
  have c0 := c0.then0 c14
  refine rl_move rfl rfl ?_
  obtain ⟨b17, hb18⟩ : ∃ v, (b11 && (a0.ready == a1.ready)) = v := ⟨_, rfl⟩
  have hS := ltS hb18 hS
  refine RL.join 6 23 (.bool b17) (fun w' => Ch nb w13 w') ?_ ?_
  · rcases Bool.eq_false_or_eq_true b11 with hg16 | hg16
    ·
     have hs15 := and_t hg16 hb18
     have cs : Ch nb w13 w13 := Ch.refl
     refine RL.yes rfl rfl rfl hg16 ?_
     refine rl_fieldAddr rfl fa58_2 rfl ?_
     refine RL.yes rfl rfl rfl hg16 ?_
     refine rl_loadS (v := (Value.bool a0.ready)) rfl Try.isAgg4 (k4.cell rfl) rfl ?_
     refine RL.yes rfl rfl rfl hg16 ?_
     refine rl_fieldAddr rfl fa58_2 rfl ?_
     refine RL.yes rfl rfl rfl hg16 ?_
     refine rl_loadS (v := (Value.bool a1.ready)) rfl Try.isAgg4 (k8.cell rfl) rfl ?_
     refine RL.yes rfl rfl rfl hg16 ?_
     refine rl_bin rfl rfl (B.eqlB Try.underlying4) rfl ?_
     refine rl_pickT rfl hg16 rfl rfl ?_
     exact RL.nil ⟨Ext.bothEq (congrArg Value.bool hs15) (Ext.skip rfl (Ext.skip rfl (Ext.skip rfl (Ext.skip rfl (Ext.skip rfl (Ext.rfl')))))), cs⟩
    ·
     have hs15 := and_f hg16 hb18
     have cs : Ch nb w13 w13 := Ch.refl
     refine RL.no rfl rfl rfl hg16 rfl rfl ?_
     refine RL.no rfl rfl rfl hg16 rfl rfl ?_
     refine RL.no rfl rfl rfl hg16 rfl rfl ?_
     refine RL.no rfl rfl rfl hg16 rfl rfl ?_
     refine RL.no rfl rfl rfl hg16 rfl rfl ?_
     refine rl_pickF rfl hg16 rfl rfl ?_
     exact RL.nil ⟨Ext.bothEq (congrArg Value.bool hs15) (Ext.skip rfl (Ext.skip rfl (Ext.skip rfl (Ext.skip rfl (Ext.skip rfl (Ext.rfl')))))), cs⟩
  intro w19 c20
  have ah0_0 := slRep.ch kStr_pos ah0_0 c20
  have ah1_0 := slRep.ch kStr_pos ah1_0 c20
  have k4 := k4.ch0 c20
  have k8 := k8.ch0 c20
  have c0 := c0.then0 c20
  refine rl_move rfl rfl ?_
  obtain ⟨b23, hb24⟩ : ∃ v, (b17 && (a0.serving == a1.serving)) = v := ⟨_, rfl⟩
  have hS := ltS hb24 hS
  refine RL.join 6 30 (.bool b23) (fun w' => Ch nb w19 w') ?_ ?_
  · rcases Bool.eq_false_or_eq_true b17 with hg22 | hg22
    ·
     have hs21 := and_t hg22 hb24
     have cs : Ch nb w19 w19 := Ch.refl
     refine RL.yes rfl rfl rfl hg22 ?_
     refine rl_fieldAddr rfl fa58_3 rfl ?_
     refine RL.yes rfl rfl rfl hg22 ?_
     refine rl_loadS (v := (Value.bool a0.serving)) rfl Try.isAgg4 (k4.cell rfl) rfl ?_
     refine RL.yes rfl rfl rfl hg22 ?_
     refine rl_fieldAddr rfl fa58_3 rfl ?_
     refine RL.yes rfl rfl rfl hg22 ?_
     refine rl_loadS (v := (Value.bool a1.serving)) rfl Try.isAgg4 (k8.cell rfl) rfl ?_
     refine RL.yes rfl rfl rfl hg22 ?_
     refine rl_bin rfl rfl (B.eqlB Try.underlying4) rfl ?_
     refine rl_pickT rfl hg22 rfl rfl ?_
     exact RL.nil ⟨Ext.bothEq (congrArg Value.bool hs21) (Ext.skip rfl (Ext.skip rfl (Ext.skip rfl (Ext.skip rfl (Ext.skip rfl (Ext.rfl')))))), cs⟩
    ·
     have hs21 := and_f hg22 hb24
     have cs : Ch nb w19 w19 := Ch.refl
     refine RL.no rfl rfl rfl hg22 rfl rfl ?_
     refine RL.no rfl rfl rfl hg22 rfl rfl ?_
     refine RL.no rfl rfl rfl hg22 rfl rfl ?_
     refine RL.no rfl rfl rfl hg22 rfl rfl ?_
     refine RL.no rfl rfl rfl hg22 rfl rfl ?_
     refine rl_pickF rfl hg22 rfl rfl ?_
     exact RL.nil ⟨Ext.bothEq (congrArg Value.bool hs21) (Ext.skip rfl (Ext.skip rfl (Ext.skip rfl (Ext.skip rfl (Ext.skip rfl (Ext.rfl')))))), cs⟩
  intro w25 c26
  have ah0_0 := slRep.ch kStr_pos ah0_0 c26
  have ah1_0 := slRep.ch kStr_pos ah1_0 c26
  have k4 := k4.ch0 c26
  have k8 := k8.ch0 c26
  have c0 := c0.then0 c26
  refine rl_move rfl rfl ?_
  obtain ⟨b29, hb30⟩ : ∃ v, (b23 && (a0.terminating == a1.terminating)) = v := ⟨_, rfl⟩
  have hS := ltS hb30 hS
  refine RL.join 6 37 (.bool b29) (fun w' => Ch nb w25 w') ?_ ?_
  · rcases Bool.eq_false_or_eq_true b23 with hg28 | hg28
    ·
     have hs27 := and_t hg28 hb30
     have cs : Ch nb w25 w25 := Ch.refl
     refine RL.yes rfl rfl rfl hg28 ?_
     refine rl_fieldAddr rfl fa58_4 rfl ?_
     refine RL.yes rfl rfl rfl hg28 ?_
     refine rl_loadS (v := (Value.bool a0.terminating)) rfl Try.isAgg4 (k4.cell rfl) rfl ?_
     refine RL.yes rfl rfl rfl hg28 ?_
     refine rl_fieldAddr rfl fa58_4 rfl ?_
     refine RL.yes rfl rfl rfl hg28 ?_
     refine rl_loadS (v := (Value.bool a1.terminating)) rfl Try.isAgg4 (k8.cell rfl) rfl ?_
     refine RL.yes rfl rfl rfl hg28 ?_
     refine rl_bin rfl rfl (B.eqlB Try.underlying4) rfl ?_
     refine rl_pickT rfl hg28 rfl rfl ?_
     exact RL.nil ⟨Ext.bothEq (congrArg Value.bool hs27) (Ext.skip rfl (Ext.skip rfl (Ext.skip rfl (Ext.skip rfl (Ext.skip rfl (Ext.rfl')))))), cs⟩
    ·
     have hs27 := and_f hg28 hb30
     have cs : Ch nb w25 w25 := Ch.refl
     refine RL.no rfl rfl rfl hg28 rfl rfl ?_
     refine RL.no rfl rfl rfl hg28 rfl rfl ?_
     refine RL.no rfl rfl rfl hg28 rfl rfl ?_
     refine RL.no rfl rfl rfl hg28 rfl rfl ?_
     refine RL.no rfl rfl rfl hg28 rfl rfl ?_
     refine rl_pickF rfl hg28 rfl rfl ?_
     exact RL.nil ⟨Ext.bothEq (congrArg Value.bool hs27) (Ext.skip rfl (Ext.skip rfl (Ext.skip rfl (Ext.skip rfl (Ext.skip rfl (Ext.rfl')))))), cs⟩
  intro w31 c32
  have ah0_0 := slRep.ch kStr_pos ah0_0 c32
  have ah1_0 := slRep.ch kStr_pos ah1_0 c32
  have k4 := k4.ch0 c32
  have k8 := k8.ch0 c32
  have c0 := c0.then0 c32
  refine rl_move rfl rfl ?_
  obtain ⟨b35, hb36, hS⟩ := bindS hS
  refine RL.join 6 44 (.bool b35) (fun w' => Ch nb w31 w') ?_ ?_
  · rcases Bool.eq_false_or_eq_true b29 with hg34 | hg34
    ·
     have hs33 := andO_t hg34 hb36
     have cs : Ch nb w31 w31 := Ch.refl
     refine RL.yes rfl rfl rfl hg34 ?_
     refine rl_fieldAddr rfl fa58_5 rfl ?_
     refine RL.yes rfl rfl rfl hg34 ?_
     refine rl_loadS (v := az0_0) rfl Try.isAgg42 (k4.cell rfl) rfl ?_
     refine RL.yes rfl rfl rfl hg34 ?_
     refine rl_fieldAddr rfl fa58_5 rfl ?_
     refine RL.yes rfl rfl rfl hg34 ?_
     refine rl_loadS (v := az1_0) rfl Try.isAgg42 (k8.cell rfl) rfl ?_
     refine RL.yes rfl rfl rfl hg34 ?_
     obtain ⟨y40, hy41, hs33⟩ := bindS hs33
     refine rl_callF rfl en40 rfl (ctr40 (G F w.heap.size nb) w31 a0.zones az0_0 ah0_0 a1.zones az1_0 ah1_0 y40 hy41) ?_
     rintro _ w38 ⟨rfl, c39⟩
     have ah0_0 := slRep.ch kStr_pos ah0_0 c39
     have ah1_0 := slRep.ch kStr_pos ah1_0 c39
     have k4 := k4.ch0 c39
     have k8 := k8.ch0 c39
     have c0 := c0.then0 c39
     refine rl_pickT rfl hg34 rfl rfl ?_
     have cs := cs.then0 c39
     exact RL.nil ⟨Ext.bothEq (congrArg Value.bool (Option.some.inj hs33)) (Ext.skip rfl (Ext.skip rfl (Ext.skip rfl (Ext.skip rfl (Ext.skip rfl (Ext.rfl')))))), cs⟩
    ·
     have hs33 := andO_f hg34 hb36
     have cs : Ch nb w31 w31 := Ch.refl
     refine RL.no rfl rfl rfl hg34 rfl rfl ?_
     refine RL.no rfl rfl rfl hg34 rfl rfl ?_
     refine RL.no rfl rfl rfl hg34 rfl rfl ?_
     refine RL.no rfl rfl rfl hg34 rfl rfl ?_
     refine RL.no rfl rfl rfl hg34 rfl rfl ?_
     refine rl_pickF rfl hg34 rfl rfl ?_
     exact RL.nil ⟨Ext.bothEq (congrArg Value.bool (Option.some.inj hs33)) (Ext.skip rfl (Ext.skip rfl (Ext.skip rfl (Ext.skip rfl (Ext.skip rfl (Ext.rfl')))))), cs⟩
  intro w37 c42
  have ah0_0 := slRep.ch kStr_pos ah0_0 c42
  have ah1_0 := slRep.ch kStr_pos ah1_0 c42
  have k4 := k4.ch0 c42
  have k8 := k8.ch0 c42
  have c0 := c0.then0 c42
  refine rl_assign rfl rfl ?_
  refine RL.nil ?_
  refine thn_n ?_
  refine CW.ret ?_
  obtain rfl := Option.some.inj hS
  exact ret1 rfl ⟨rfl, c0⟩
/-- lb/lbref18.All -/
theorem ctr10 (F : Nat → Prop) (w : World) (a0 : (List Candidate)) (av0 : Value) (ah0 : slRep k_Candidate F w a0 av0) (a1 : (List Candidate)) (av1 : Value) (ah1 : slRep k_Candidate F w a1 av1) (r : Bool) (hs : F10_linkboyref18_All a0 a1 = some r) :
    Ret Try.prog 10 #[av0, av1] w fun v w' => v = (Value.bool r) ∧ Ch nb w w' := by
  have hS := hs
  have c0 : Ch nb w w := Ch.refl
  have ah0 := slRep.enter k_Candidate_pos ah0
  have ah1 := slRep.enter k_Candidate_pos ah1
  refine Ret.of (n := 27) (args := [_, _]) (rs := [.tmp 4]) Try.func10 rfl rfl rfl rfl ?_
  refine CW.seq (CW.region ?_)
  refine rl_assign rfl rfl ?_
  refine RL.nil ?_
  refine thn_n ?_
  refine CW.seq ?_
  refine CW.seq (CW.region ?_)
  refine rl_move rfl rfl ?_
  refine rl_lenR rfl ah0 Try.underlying28 rfl ?_
  refine rl_move rfl rfl ?_
  refine rl_lenR rfl ah1 Try.underlying28 rfl ?_
  refine rl_bin rfl rfl B.neq rfl ?_
  refine RL.nil ?_
  refine thn_n ?_
  refine CW.cond (t := !decide (((a0.length : Nat) : Int) = ((a1.length : Nat) : Int))) rfl (fun q1 => ?_) (fun q1 => ?_)
  ·
   have hS := ifT q1 hS
   refine CW.seq (CW.region ?_)
   refine rl_assign rfl rfl ?_
   refine RL.nil ?_
   refine thn_n ?_
   refine CW.ret ?_
   refine thn_ret ?_
   obtain rfl := Option.some.inj hS
   exact ret1 rfl ⟨rfl, c0⟩
  ·
   have hS := ifF q1 hS
   refine CW.skip ?_
   refine thn_n ?_
   refine CW.seq ?_
   refine CW.seq (CW.region ?_)
   refine rl_move rfl rfl ?_
   refine rl_lenR rfl ah0 Try.underlying28 rfl ?_
   refine rl_move rfl rfl ?_
   refine RL.nil ?_
   refine thn_n ?_
   obtain ⟨o9, ho10, hS⟩ := bindS hS
   refine CW.cutB (fun E' w' => ∃ (ix16 : Nat), Sub [] E' ∧ Ch nb w w' ∧ Lp.fin ix16 = o9 ∧ slRep k_Candidate (G F w.heap.size nb) w' a0 av0 ∧ slRep k_Candidate (G F w.heap.size nb) w' a1 av1) ?_ ?_
   ·
    refine CW.loopS [(0, av0), (1, av1), (12, (Value.int .i64 ((a0.length : Nat) : Int))), (13, (Value.int .i64 ((0 : Nat) : Int)))] ⟨rfl, rfl, rfl, rfl, trivial⟩ a0.length (fun m E w' => ∃ (rest2 : List Candidate) (i3 : Nat) , m = rest2.length ∧ E = [(0, av0), (1, av1), (12, (Value.int .i64 ((a0.length : Nat) : Int))), (13, (Value.int .i64 ((i3 : Nat) : Int)))] ∧ Ch nb w w' ∧ At a0 i3 rest2 ∧ runBO (F10_linkboyref18_All_b1 a1) rest2 i3 = some o9 ∧ slRep k_Candidate (G F w.heap.size nb) w' a0 av0 ∧ slRep k_Candidate (G F w.heap.size nb) w' a1 av1)
        ⟨a0, 0, rfl, rfl, c0, At.start, ho10, ah0, ah1⟩ ?_
    rintro _ _ w15 ⟨rest2, i3, rfl, rfl, c14, hat5, hL4, ah0, ah1⟩
    refine CW.seq (CW.region ?_)
    refine rl_bin rfl rfl B.lss rfl ?_
    refine RL.nil (thn_n ?_)
    refine CW.seq ?_
    refine CW.cond (t := decide (((i3 : Nat) : Int) < ((a0.length : Nat) : Int))) rfl (fun q17 => ?_) (fun q17 => ?_)
    ·
     obtain ⟨x11, rest18, rfl⟩ := hat5.cons q17
     obtain ⟨q6, hq7⟩ := runBO_some hL4
     have hb8 := hq7
     refine CW.skip (thn_n ?_)
     refine CW.seq ?_
     refine CW.block ?_
     refine CW.seq (CW.region ?_)
     refine rl_move rfl rfl ?_
     refine rl_assign rfl rfl ?_
     refine RL.nil ?_
     refine thn_n ?_
     refine CW.seq ?_
     obtain ⟨y33, hy34, hb8⟩ := bindS hb8
     obtain ⟨y39, hy40, hb8⟩ := bindS hb8
     refine CW.draw 8 [(none, fun _ O uu wx => uu = av0), (none, fun _ O uu wx => uu = (Value.int .i64 ((i3 : Nat) : Int))), (none, fun _ O uu wx => ∃ (p19 : Nat) (o20 : Nat) (z25 : Value), uu = (Value.pointer (some ⟨p19, o20, none⟩)) ∧ slRep kStr (G F w.heap.size nb) wx x11.zones z25 ∧ (G F w.heap.size nb) p19 ∧ Seg wx p19 o20 (Candidate.c x11 z25)), (none, fun _ O uu wx => ∃ (z25_3 : Value), uu = (Value.agg (Candidate.c x11 z25_3).toArray) ∧ slRep kStr (G F w.heap.size nb) wx x11.zones z25_3), (none, fun _ O uu wx => uu = av1), (none, fun _ O uu wx => uu = (Value.int .i64 ((i3 : Nat) : Int))), (none, fun _ O uu wx => ∃ (p27 : Nat) (o28 : Nat) (z35 : Value), uu = (Value.pointer (some ⟨p27, o28, none⟩)) ∧ slRep kStr (G F w.heap.size nb) wx y33.zones z35 ∧ (G F w.heap.size nb) p27 ∧ Seg wx p27 o28 (Candidate.c y33 z35)), (none, fun _ O uu wx => ∃ (z35_7 : Value), uu = (Value.agg (Candidate.c y33 z35_7).toArray) ∧ slRep kStr (G F w.heap.size nb) wx y33.zones z35_7)] [[], [], [0, 1], [2], [], [], [4, 5], [6]] [3, 7] nb (fun _ h => h.elim) mixed rfl rfl rfl rfl ?_ ?_
     ·
      refine Each.consA ⟨fun _ _ _ _ _ _ h => h, fun h => absurd rfl h, fun O wk hO ck => ?_⟩ ?_
      ·
       have ah0 := slRep.ch k_Candidate_pos ah0 ck
       have ah1 := slRep.ch k_Candidate_pos ah1 ck
       have c14 := c14.then0 ck
       refine rl_move rfl rfl ?_
       exact RL.nil ⟨_, rfl, Ch.refl, rfl⟩
      refine Each.consA ⟨fun _ _ _ _ _ _ h => h, fun h => absurd rfl h, fun O wk hO ck => ?_⟩ ?_
      ·
       have ah0 := slRep.ch k_Candidate_pos ah0 ck
       have ah1 := slRep.ch k_Candidate_pos ah1 ck
       have c14 := c14.then0 ck
       refine rl_move rfl rfl ?_
       exact RL.nil ⟨_, rfl, Ch.refl, rfl⟩
      refine Each.consA ⟨fun _ _ _ _ _ cc hh => by obtain ⟨p19, o20, z25, e, h26, hg24, hs23⟩ := hh; exact ⟨p19, o20, z25, e, slRep.ch kStr_pos h26 cc, hg24, hs23.ch0 cc⟩, fun h => absurd rfl h, fun O wk hO ck => ?_⟩ ?_
      ·
       have ah0 := slRep.ch k_Candidate_pos ah0 ck
       have ah1 := slRep.ch k_Candidate_pos ah1 ck
       have c14 := c14.then0 ck
       refine Need.one rfl rfl rfl ?_
       rintro _ e41
       obtain rfl := e41.symm
       refine Need.one rfl rfl rfl ?_
       rintro _ e42
       obtain rfl := e42.symm
       refine rl_ixR rfl ah0 rfl hat5.get Try.underlying28 Try.sizeOf58 rfl ?_
       intro p43 o44 cs45 hr46 hs47 hg48
       obtain ⟨z49, rfl, h50⟩ := hr46
       exact RL.nil ⟨_, rfl, Ch.refl, ⟨p43, o44, z49, rfl, h50, hg48, hs47⟩⟩
      refine Each.consA ⟨fun _ _ _ _ _ cc hh => by obtain ⟨z25_3, e, h26_3⟩ := hh; exact ⟨z25_3, e, slRep.ch kStr_pos h26_3 cc⟩, fun h => absurd rfl h, fun O wk hO ck => ?_⟩ ?_
      ·
       have ah0 := slRep.ch k_Candidate_pos ah0 ck
       have ah1 := slRep.ch k_Candidate_pos ah1 ck
       have c14 := c14.then0 ck
       refine Need.one rfl rfl rfl ?_
       rintro _ ⟨p19, o20, z25, e51, h26, hg24, hs23⟩
       obtain rfl := e51.symm
       refine rl_loadA (cs := (Candidate.c x11 z25)) rfl Try.isAgg58 Try.sizeOf58 (hs23) rfl rfl ?_
       exact RL.nil ⟨_, rfl, Ch.refl, ⟨z25, rfl, h26⟩⟩
      refine Each.consA ⟨fun _ _ _ _ _ _ h => h, fun h => absurd rfl h, fun O wk hO ck => ?_⟩ ?_
      ·
       have ah0 := slRep.ch k_Candidate_pos ah0 ck
       have ah1 := slRep.ch k_Candidate_pos ah1 ck
       have c14 := c14.then0 ck
       refine rl_move rfl rfl ?_
       exact RL.nil ⟨_, rfl, Ch.refl, rfl⟩
      refine Each.consA ⟨fun _ _ _ _ _ _ h => h, fun h => absurd rfl h, fun O wk hO ck => ?_⟩ ?_
      ·
       have ah0 := slRep.ch k_Candidate_pos ah0 ck
       have ah1 := slRep.ch k_Candidate_pos ah1 ck
       have c14 := c14.then0 ck
       refine rl_move rfl rfl ?_
       exact RL.nil ⟨_, rfl, Ch.refl, rfl⟩
      refine Each.consA ⟨fun _ _ _ _ _ cc hh => by obtain ⟨p27, o28, z35, e, h36, hg32, hs31⟩ := hh; exact ⟨p27, o28, z35, e, slRep.ch kStr_pos h36 cc, hg32, hs31.ch0 cc⟩, fun h => absurd rfl h, fun O wk hO ck => ?_⟩ ?_
      ·
       have ah0 := slRep.ch k_Candidate_pos ah0 ck
       have ah1 := slRep.ch k_Candidate_pos ah1 ck
       have c14 := c14.then0 ck
       refine Need.one rfl rfl rfl ?_
       rintro _ e52
       obtain rfl := e52.symm
       refine Need.one rfl rfl rfl ?_
       rintro _ e53
       obtain rfl := e53.symm
       refine rl_ixR rfl ah1 rfl (ixO_nat hy34) Try.underlying28 Try.sizeOf58 rfl ?_
       intro p54 o55 cs56 hr57 hs58 hg59
       obtain ⟨z60, rfl, h61⟩ := hr57
       exact RL.nil ⟨_, rfl, Ch.refl, ⟨p54, o55, z60, rfl, h61, hg59, hs58⟩⟩
      refine Each.consA ⟨fun _ _ _ _ _ cc hh => by obtain ⟨z35_7, e, h36_7⟩ := hh; exact ⟨z35_7, e, slRep.ch kStr_pos h36_7 cc⟩, fun h => absurd rfl h, fun O wk hO ck => ?_⟩ ?_
      ·
       have ah0 := slRep.ch k_Candidate_pos ah0 ck
       have ah1 := slRep.ch k_Candidate_pos ah1 ck
       have c14 := c14.then0 ck
       refine Need.one rfl rfl rfl ?_
       rintro _ ⟨p27, o28, z35, e62, h36, hg32, hs31⟩
       obtain rfl := e62.symm
       refine rl_loadA (cs := (Candidate.c y33 z35)) rfl Try.isAgg58 Try.sizeOf58 (hs31) rfl rfl ?_
       exact RL.nil ⟨_, rfl, Ch.refl, ⟨z35, rfl, h36⟩⟩
      trivial
     ·
      intro hvO65 OpO65 O65 w63 hO66 c64 hN67
      have ah0 := slRep.ch k_Candidate_pos ah0 c64
      have ah1 := slRep.ch k_Candidate_pos ah1 c64
      have c14 := c14.then0 c64
      refine Need.one rfl rfl rfl ?_
      rintro _ ⟨z25_3, e68, h26_3⟩
      obtain rfl := e68.symm
      refine Need.one rfl rfl rfl ?_
      rintro _ ⟨z35_7, e69, h36_7⟩
      obtain rfl := e69.symm
      refine rl_callF rfl en24 rfl (ctr24 (G F w.heap.size nb) w63 x11 z25_3 h26_3 y33 z35_7 h36_7 y39 hy40) ?_
      rintro _ w70 ⟨rfl, c71⟩
      have ah0 := slRep.ch k_Candidate_pos ah0 c71
      have ah1 := slRep.ch k_Candidate_pos ah1 c71
      have h26_3 := slRep.ch kStr_pos h26_3 c71
      have h36_7 := slRep.ch kStr_pos h36_7 c71
      have c14 := c14.then0 c71
      refine rl_not rfl rfl ?_
      refine RL.nil ?_
      refine thn_n ?_
      refine CW.cond (t := !y39) rfl (fun q72 => ?_) (fun q72 => ?_)
      ·
       have hb8 := ifT q72 hb8
       refine CW.seq (CW.region ?_)
       refine rl_assign rfl rfl ?_
       refine RL.nil ?_
       refine thn_n ?_
       refine CW.ret ?_
       refine inB_ret ?_
       refine thn_ret ?_
       refine thn_ret (inB_ret (thn_ret ?_))
       refine thn_ret ?_
       have f73 := runBO_ret hL4 hq7 hb8
       have hS := retS f73 hS
       obtain rfl := Option.some.inj hS
       exact ret1 rfl ⟨rfl, c14⟩
      ·
       have hb8 := ifF q72 hb8
       refine CW.skip ?_
       refine inB_n ?_
       refine thn_n ?_
       refine CW.region ?_
       refine rl_inc rfl hat5.lt ah0.big rfl ?_
       refine rl_move rfl rfl ?_
       refine RL.nil ?_
       refine thn_n ?_
       have hLn := runBO_next hL4 hq7 hb8
       exact ⟨rest18.length, Nat.lt_succ_self _, [(0, av0), (1, av1), (12, (Value.int .i64 ((a0.length : Nat) : Int))), (13, (Value.int .i64 ((i3 + 1 : Nat) : Int)))], ⟨rfl, rfl, rfl, rfl, trivial⟩, ⟨rest18, i3 + 1, rfl, rfl, c14, hat5.next, hLn, ah0, ah1⟩⟩
    ·
     obtain rfl := hat5.nil q17
     have hLf : Lp.fin i3 = o9 := runBO_done hL4
     refine CW.exit (thn_exit (thn_exit (inB_hit ?_)))
     exact ⟨i3, trivial, c14, hLf, ah0, ah1⟩
   ·
    rintro _ w75 ⟨ix16, hE76, c74, f77, ah0, ah1⟩
    have hS := finS f77 hS
    refine thn_n (CW.sub [] hE76 ?_)
    refine CW.seq (CW.region ?_)
    refine rl_assign rfl rfl ?_
    refine RL.nil ?_
    refine thn_n ?_
    refine CW.ret ?_
    obtain rfl := Option.some.inj hS
    exact ret1 rfl ⟨rfl, c74⟩
/-- lb/pick.local -/
theorem ctr28 (F : Nat → Prop) (w : World) (a0 : Candidate) (az0_0 : Value) (ah0_0 : slRep kStr F w a0.zones az0_0) (r : Bool) (hs : F28_pick_local a0 = r) :
    Ret Try.prog 28 #[(Value.agg (Candidate.c a0 az0_0).toArray)] w fun v w' => v = (Value.bool r) ∧ Ch nb w w' := by
  have hS := hs
  have c0 : Ch nb w w := Ch.refl
  have ah0_0 := slRep.enter kStr_pos ah0_0
  refine Ret.of (n := 5) (args := [_]) (rs := [.tmp 2]) Try.func28 rfl rfl rfl rfl ?_
  refine CW.seq (CW.region ?_)
  refine rl_boxA (cs := (Candidate.c a0 az0_0)) rfl rfl ?_
  intro p1 w2 n3 k4
  have gp1 : (G F w.heap.size nb) p1 := ⟨.inr (by rw [n3.eq]; exact c0.size), fun h => absurd (nbS _ h) (by rw [n3.eq]; exact Nat.lt_irrefl _)⟩
  have ah0_0 := slRep.ch kStr_pos ah0_0 n3.ch
  have c0 := c0.then0 n3.ch
  refine rl_assign rfl rfl ?_
  refine RL.nil ?_
  refine thn_n ?_
  refine CW.seq (CW.region ?_)
  refine rl_fieldAddr rfl fa44_1 rfl ?_
  refine rl_loadS (v := (Value.bool a0.localF)) rfl Try.isAgg4 (k4.cell rfl) rfl ?_
  refine rl_assign rfl rfl ?_
  refine RL.nil ?_
  refine thn_n ?_
  refine CW.ret ?_
  obtain rfl := hS
  exact ret1 rfl ⟨rfl, c0⟩
/-- slices.ContainsFunc[[]lb/hints.Candidate,lb/hints.Candidate] -/
theorem ctr29 (F : Nat → Prop) (w : World) (a0 : (List Candidate)) (av0 : Value) (ah0 : slRep k_Candidate F w a0 av0) (a1 : (Candidate → Bool)) (av1 : Value) (ah1 : (Kd.fn1 Try.prog true k_Candidate Value.bool).rep F w a1 [av1]) (r : Bool) (hs : F29_slices_ContainsFunc_hints_Candidate_hint a0 a1 = r) :
    Ret Try.prog 29 #[av0, av1] w fun v w' => v = (Value.bool r) ∧ Ch nb w w' := by
  have hS := hs
  have c0 : Ch nb w w := Ch.refl
  have ah0 := slRep.enter k_Candidate_pos ah0
  have ah1 := Kd.enter ah1
  refine Ret.of (n := 9) (args := [_, _]) (rs := [.tmp 4]) Try.func29 rfl rfl rfl rfl ?_
  refine CW.seq (CW.region ?_)
  refine rl_assign rfl rfl ?_
  refine RL.nil ?_
  refine thn_n ?_
  refine CW.seq (CW.region ?_)
  refine rl_move rfl rfl ?_
  refine rl_move rfl rfl ?_
  obtain ⟨y3, hy4⟩ : ∃ y, F44_slices_IndexFunc_hints_Candidate_hints_C a0 a1 = y := ⟨_, rfl⟩
  have hS := ltS hy4 hS
  refine rl_callF rfl en44 rfl (ctr44 (G F w.heap.size nb) w a0 av0 ah0 a1 av1 ah1 y3 hy4) ?_
  rintro _ w1 ⟨rfl, c2⟩
  have ah0 := slRep.ch k_Candidate_pos ah0 c2
  have ah1 := Kd.ch ah1 c2
  have c0 := c0.then0 c2
  refine rl_bin rfl rfl B.geq rfl ?_
  refine rl_assign rfl rfl ?_
  refine RL.nil ?_
  refine thn_n ?_
  refine CW.ret ?_
  obtain rfl := hS
  exact ret1 rfl ⟨rfl, c0⟩
/-- lb/hints.kept$1 -/
theorem ctr62 (F : Nat → Prop) (w : World) (a0 : Candidate) (az0_0 : Value) (ah0_0 : slRep kStr F w a0.zones az0_0) (a1 : (Candidate → Bool)) (av1 : Value) (ah1 : ((Kd.fn1 Try.prog true k_Candidate Value.bool).box 61).rep F w a1 [av1]) (r : Bool) (hs : F62_hints_kept_1 a0 a1 = r) :
    Ret Try.prog 62 #[(Value.agg (Candidate.c a0 az0_0).toArray), av1] w fun v w' => v = (Value.bool r) ∧ Ch nb w w' := by
  have hS := hs
  have c0 : Ch nb w w := Ch.refl
  have ah0_0 := slRep.enter kStr_pos ah0_0
  have ah1 := Kd.enter ah1
  refine Ret.of (n := 8) (args := [_, _]) (rs := [.tmp 3]) Try.func62 rfl rfl rfl rfl ?_
  refine CW.seq (CW.region ?_)
  refine rl_boxA (cs := (Candidate.c a0 az0_0)) rfl rfl ?_
  intro p1 w2 n3 k4
  have gp1 : (G F w.heap.size nb) p1 := ⟨.inr (by rw [n3.eq]; exact c0.size), fun h => absurd (nbS _ h) (by rw [n3.eq]; exact Nat.lt_irrefl _)⟩
  have ah0_0 := slRep.ch kStr_pos ah0_0 n3.ch
  have ah1 := Kd.ch ah1 n3.ch
  have c0 := c0.then0 n3.ch
  refine rl_assign rfl rfl ?_
  refine RL.nil ?_
  refine thn_n ?_
  refine CW.seq (CW.region ?_)
  obtain ⟨p5, cc6, e7, gf8, k9, h10⟩ := ah1
  obtain rfl := (List.cons.inj e7).1
  obtain ⟨u11, rfl⟩ : ∃ u, cc6 = [u] := List.length_eq_one_iff.1 (Kd.len _ h10)
  refine rl_loadS (v := u11) rfl Try.isAgg61 (k9.cell rfl) rfl ?_
  refine rl_loadA (cs := (Candidate.c a0 az0_0)) rfl Try.isAgg44 Try.sizeOf44 (k4.segAt 0 23) rfl rfl ?_
  refine rl_fn1 (c := (Candidate.c a0 az0_0)) rfl rfl rfl h10 (F' := (G F w.heap.size nb)) (xx := a0) (show k_Candidate.rep (G F w.heap.size nb) w2 a0 (Candidate.c a0 az0_0) from ⟨az0_0, rfl, ah0_0⟩) rfl ?_
  intro w12 c13
  have ah0_0 := slRep.ch kStr_pos ah0_0 c13
  have k4 := k4.ch0 c13
  have h10 := Kd.ch h10 c13
  have k9 := k9.ch0 c13
  have c0 := c0.then0 c13
  refine rl_not rfl rfl ?_
  refine rl_assign rfl rfl ?_
  refine RL.nil ?_
  refine thn_n ?_
  refine CW.ret ?_
  obtain rfl := hS
  exact ret1 rfl ⟨rfl, c0⟩
/-- lb/hints.kept -/
theorem ctr47 (F : Nat → Prop) (w : World) (a0 : (List Candidate)) (av0 : Value) (ah0 : slRep k_Candidate F w a0 av0) (a1 : (Candidate → Bool)) (av1 : Value) (ah1 : (Kd.fn1 Try.prog true k_Candidate Value.bool).rep F w a1 [av1]) (r : (List Candidate)) (hs : F47_hints_kept a0 a1 = some r) :
    Ret Try.prog 47 #[av0, av1] w fun v w' => ∃ (y0 : Value), v = y0 ∧ SlO k_Candidate 44 F w.heap.size (inBlk y0) w' r y0 ∧ Ch nb w w' := by
  have hS := hs
  have c0 : Ch nb w w := Ch.refl
  have ah0 := slRep.enter k_Candidate_pos ah0
  have ah1 := Kd.enter ah1
  refine Ret.of (n := 9) (args := [_, _]) (rs := [.tmp 4]) Try.func47 rfl rfl rfl rfl ?_
  refine CW.seq (CW.region ?_)
  refine rl_box [av1] rfl (fn_cells1 ah1) rfl ?_
  intro p1 w2 n3 k4
  have gp1 : (G F w.heap.size nb) p1 := ⟨.inr (by rw [n3.eq]; exact c0.size), fun h => absurd (nbS _ h) (by rw [n3.eq]; exact Nat.lt_irrefl _)⟩
  have ah0 := slRep.ch k_Candidate_pos ah0 n3.ch
  have ah1 := Kd.ch ah1 n3.ch
  have c0 := c0.then0 n3.ch
  refine rl_assign rfl rfl ?_
  refine RL.nil ?_
  refine thn_n ?_
  refine CW.seq (CW.region ?_)
  refine rl_move rfl rfl ?_
  obtain ⟨y7, hy8, hS⟩ := bindS hS
  refine rl_callF rfl en42 rfl (ctr42 (G F w.heap.size nb) w2 a0 av0 ah0 y7 hy8) ?_
  rintro v9 w5 ⟨_, rfl, h10, c6⟩
  have hf11 : ∀ b, inBlk v9 b → w2.heap.size ≤ b := fun b hb => (h10.lt b hb).1
  have h10 := SlO.back (S' := un (inBlk v9) nb) h10 nbS c0.size (fun _ => Or.comm)
  have ah0 := slRep.st k_Candidate_pos ah0 c6 (admNew hf11 (fun _ x => x))
  have ah1 := Kd.st ah1 c6 (admNew hf11 (fun _ x => x))
  have gp1n : (G F w.heap.size (un (inBlk v9) nb)) p1 := ⟨gp1.1, ((admNew hf11 (fun _ x => x)) _ k4.lt gp1.2).2⟩
  have k4 := k4.ch0 c6
  have gp1 := gp1n
  have c0 := c0.then0 c6
  refine rl_makeFunc rfl rfl ?_
  have hd12 : ∀ b, (inBlk v9) b → ¬ nb b := fun b h => (fun b hb => fun h => h) b h
  have hS13 : (un (inBlk v9) nb) = (un (inBlk v9) nb) := rfl
  have ha14 := (show (Kd.fn1 Try.prog true k_Candidate Value.bool).rep (G F w.heap.size (un (inBlk v9) nb)) w5 (fun x0 => F62_hints_kept_1 x0 a1) [(Value.func (.func 62) #[] [(Value.pointer (some ⟨p1, 0, none⟩))].toArray)] from ⟨62, [(Value.pointer (some ⟨p1, 0, none⟩))], rfl, en62, fun w' hw F' x0 c0 hx0 => by
      obtain ⟨u0_0, rfl, e0_0⟩ := hx0
      exact (ctr62 (fun b => (G F w.heap.size (un (inBlk v9) nb)) b ∨ F' b) w' x0 u0_0 (slRep.wk kStr_pos e0_0 fun _ _ h => .inr h) a1 (Value.pointer (some ⟨p1, 0, none⟩)) (Kd.mono _ (show ((Kd.fn1 Try.prog true k_Candidate Value.bool).box 61).rep (G F w.heap.size (un (inBlk v9) nb)) w5 a1 [(Value.pointer (some ⟨p1, 0, none⟩))] from ⟨p1, _, rfl, gp1, k4, ah1⟩) fun b hb hf => ⟨.inl hf, (hw b hb hf).2⟩) _ rfl).mono (by rintro v w'' ⟨rfl, c⟩; exact ⟨rfl, c⟩)⟩)
  rw [hS13] at ha14
  obtain ⟨y17, hy18, hS⟩ := bindS hS
  refine rl_callF rfl en41 rfl (ctr41 F w5 w.heap.size nb c0.size nbS v9 hd12  y7 (hS13 ▸ h10) (fun x0 => F62_hints_kept_1 x0 a1) (Value.func (.func 62) #[] [(Value.pointer (some ⟨p1, 0, none⟩))].toArray) ha14 y17 hy18) ?_
  rintro v19 w15 ⟨_, rfl, h20, hf21, c16⟩
  have ha22 : ∀ b, b < w5.heap.size → ¬ (un (inBlk v9) nb) b → ¬ inBlk v9 b ∧ ¬ (un (inBlk v19) nb) b := by rw [hS13]; exact admApp hf21
  have ah0 := slRep.st k_Candidate_pos ah0 c16 ha22
  have ah1 := Kd.st ah1 c16 ha22
  have gp1n : (G F w.heap.size (un (inBlk v19) nb)) p1 := ⟨gp1.1, (ha22 _ k4.lt gp1.2).2⟩
  have k4 := k4.ch c16 (ha22 _ k4.lt gp1.2).1
  have gp1 := gp1n
  have c0 := c0.then c16 (fun i hi h => absurd ((fun b hb => (h10.lt b hb).1) i h) (Nat.not_le_of_lt hi))
  refine rl_assign rfl rfl ?_
  refine RL.nil ?_
  refine thn_n ?_
  refine CW.ret ?_
  obtain rfl := Option.some.inj hS
  exact ret1 rfl ⟨v19, rfl, h20.out, c0⟩
/-- lb/hints.ready$1 -/
theorem ctr59 (F : Nat → Prop) (w : World) (a0 : Candidate) (az0_0 : Value) (ah0_0 : slRep kStr F w a0.zones az0_0) (r : Bool) (hs : F59_hints_ready_1 a0 = r) :
    Ret Try.prog 59 #[(Value.agg (Candidate.c a0 az0_0).toArray)] w fun v w' => v = (Value.bool r) ∧ Ch nb w w' := by
  have hS := hs
  have c0 : Ch nb w w := Ch.refl
  have ah0_0 := slRep.enter kStr_pos ah0_0
  refine Ret.of (n := 5) (args := [_]) (rs := [.tmp 2]) Try.func59 rfl rfl rfl rfl ?_
  refine CW.seq (CW.region ?_)
  refine rl_boxA (cs := (Candidate.c a0 az0_0)) rfl rfl ?_
  intro p1 w2 n3 k4
  have gp1 : (G F w.heap.size nb) p1 := ⟨.inr (by rw [n3.eq]; exact c0.size), fun h => absurd (nbS _ h) (by rw [n3.eq]; exact Nat.lt_irrefl _)⟩
  have ah0_0 := slRep.ch kStr_pos ah0_0 n3.ch
  have c0 := c0.then0 n3.ch
  refine rl_assign rfl rfl ?_
  refine RL.nil ?_
  refine thn_n ?_
  refine CW.seq (CW.region ?_)
  refine rl_fieldAddr rfl fa44_2 rfl ?_
  refine rl_loadS (v := (Value.bool a0.ready)) rfl Try.isAgg4 (k4.cell rfl) rfl ?_
  refine rl_assign rfl rfl ?_
  refine RL.nil ?_
  refine thn_n ?_
  refine CW.ret ?_
  obtain rfl := hS
  exact ret1 rfl ⟨rfl, c0⟩
/-- lb/hints.ready -/
theorem ctr45 (F : Nat → Prop) (w : World) (a0 : (List Candidate)) (av0 : Value) (ah0 : slRep k_Candidate F w a0 av0) (r : (List Candidate)) (hs : F45_hints_ready a0 = some r) :
    Ret Try.prog 45 #[av0] w fun v w' => ∃ (y0 : Value), v = y0 ∧ SlO k_Candidate 44 F w.heap.size (inBlk y0) w' r y0 ∧ Ch nb w w' := by
  have hS := hs
  have c0 : Ch nb w w := Ch.refl
  have ah0 := slRep.enter k_Candidate_pos ah0
  refine Ret.of (n := 5) (args := [_]) (rs := [.tmp 2]) Try.func45 rfl rfl rfl rfl ?_
  refine CW.seq (CW.region ?_)
  refine rl_assign rfl rfl ?_
  refine RL.nil ?_
  refine thn_n ?_
  refine CW.seq (CW.region ?_)
  refine rl_move rfl rfl ?_
  obtain ⟨y3, hy4, hS⟩ := bindS hS
  refine rl_callF rfl en47 rfl (ctr47 (G F w.heap.size nb) w a0 av0 ah0 (fun x0 => F59_hints_ready_1 x0) (Value.func (.func 59) #[] [].toArray) (show (Kd.fn1 Try.prog true k_Candidate Value.bool).rep (G F w.heap.size nb) w (fun x0 => F59_hints_ready_1 x0) [(Value.func (.func 59) #[] [].toArray)] from ⟨59, [], rfl, en59, fun w' hw F' x0 c0 hx0 => by
      obtain ⟨u0_0, rfl, e0_0⟩ := hx0
      exact (ctr59 (fun b => (G F w.heap.size nb) b ∨ F' b) w' x0 u0_0 (slRep.wk kStr_pos e0_0 fun _ _ h => .inr h) _ rfl).mono (by rintro v w'' ⟨rfl, c⟩; exact ⟨rfl, c⟩)⟩) y3 hy4) ?_
  rintro v5 w1 ⟨_, rfl, h6, c2⟩
  have hf7 : ∀ b, inBlk v5 b → w.heap.size ≤ b := fun b hb => (h6.lt b hb).1
  have h6 := SlO.back (S' := un (inBlk v5) nb) h6 nbS c0.size (fun _ => Or.comm)
  have ah0 := slRep.st k_Candidate_pos ah0 c2 (admNew hf7 (fun _ x => x))
  have c0 := c0.then0 c2
  refine rl_assign rfl rfl ?_
  refine RL.nil ?_
  refine thn_n ?_
  refine CW.ret ?_
  obtain rfl := Option.some.inj hS
  exact ret1 rfl ⟨v5, rfl, h6.out, c0⟩
/-- lb/hints.Count$1 -/
theorem ctr60 (F : Nat → Prop) (w : World) (a0 : Candidate) (az0_0 : Value) (ah0_0 : slRep kStr F w a0.zones az0_0) (r : Bool) (hs : F60_hints_Count_1 a0 = r) :
    Ret Try.prog 60 #[(Value.agg (Candidate.c a0 az0_0).toArray)] w fun v w' => v = (Value.bool r) ∧ Ch nb w w' := by
  have hS := hs
  have c0 : Ch nb w w := Ch.refl
  have ah0_0 := slRep.enter kStr_pos ah0_0
  refine Ret.of (n := 7) (args := [_]) (rs := [.tmp 2]) Try.func60 rfl rfl rfl rfl ?_
  refine CW.seq (CW.region ?_)
  refine rl_boxA (cs := (Candidate.c a0 az0_0)) rfl rfl ?_
  intro p1 w2 n3 k4
  have gp1 : (G F w.heap.size nb) p1 := ⟨.inr (by rw [n3.eq]; exact c0.size), fun h => absurd (nbS _ h) (by rw [n3.eq]; exact Nat.lt_irrefl _)⟩
  have ah0_0 := slRep.ch kStr_pos ah0_0 n3.ch
  have c0 := c0.then0 n3.ch
  refine rl_assign rfl rfl ?_
  refine RL.nil ?_
  refine thn_n ?_
  refine CW.seq (CW.region ?_)
  refine rl_fieldAddr rfl fa44_5 rfl ?_
  refine rl_loadS (v := az0_0) rfl Try.isAgg42 (k4.cell rfl) rfl ?_
  refine rl_lenR rfl ah0_0 Try.underlying42 rfl ?_
  refine rl_bin rfl rfl B.eql rfl ?_
  refine rl_assign rfl rfl ?_
  refine RL.nil ?_
  refine thn_n ?_
  refine CW.ret ?_
  obtain rfl := hS
  exact ret1 rfl ⟨rfl, c0⟩
/-- slices.Index[[]string,string] -/
theorem ctr70 (F : Nat → Prop) (w : World) (a0 : (List ByteArray)) (av0 : Value) (ah0 : slRep kStr F w a0 av0) (a1 : ByteArray) (r : Int) (hs : F70_slices_Index_string_string a0 a1 = r) :
    Ret Try.prog 70 #[av0, (Value.string a1)] w fun v w' => v = (Value.int .i64 r) ∧ Ch nb w w' := by
  have hS := hs
  have c0 : Ch nb w w := Ch.refl
  have ah0 := slRep.enter kStr_pos ah0
  refine Ret.of (n := 19) (args := [_, _]) (rs := [.tmp 4]) Try.func70 rfl rfl rfl rfl ?_
  refine CW.seq (CW.region ?_)
  refine rl_assign rfl rfl ?_
  refine RL.nil ?_
  refine thn_n ?_
  refine CW.seq ?_
  refine CW.seq (CW.region ?_)
  refine rl_move rfl rfl ?_
  refine rl_lenR rfl ah0 Try.underlying42 rfl ?_
  refine rl_move rfl rfl ?_
  refine RL.nil ?_
  refine thn_n ?_
  obtain ⟨o8, ho9⟩ : ∃ o, runB (F70_slices_Index_string_string_b1 a1) a0 0 = o := ⟨_, rfl⟩
  have hS := ltS ho9 hS
  refine CW.cutB (fun E' w' => ∃ (ix15 : Nat), Sub [] E' ∧ Ch nb w w' ∧ Lp.fin ix15 = o8 ∧ slRep kStr (G F w.heap.size nb) w' a0 av0) ?_ ?_
  ·
   refine CW.loopS [(0, av0), (1, (Value.string a1)), (7, (Value.int .i64 ((a0.length : Nat) : Int))), (8, (Value.int .i64 ((0 : Nat) : Int)))] ⟨rfl, rfl, rfl, rfl, trivial⟩ a0.length (fun m E w' => ∃ (rest1 : List ByteArray) (i2 : Nat) , m = rest1.length ∧ E = [(0, av0), (1, (Value.string a1)), (7, (Value.int .i64 ((a0.length : Nat) : Int))), (8, (Value.int .i64 ((i2 : Nat) : Int)))] ∧ Ch nb w w' ∧ At a0 i2 rest1 ∧ runB (F70_slices_Index_string_string_b1 a1) rest1 i2 = o8 ∧ slRep kStr (G F w.heap.size nb) w' a0 av0)
       ⟨a0, 0, rfl, rfl, c0, At.start, ho9, ah0⟩ ?_
   rintro _ _ w14 ⟨rest1, i2, rfl, rfl, c13, hat4, hL3, ah0⟩
   refine CW.seq (CW.region ?_)
   refine rl_bin rfl rfl B.lss rfl ?_
   refine RL.nil (thn_n ?_)
   refine CW.seq ?_
   refine CW.cond (t := decide (((i2 : Nat) : Int) < ((a0.length : Nat) : Int))) rfl (fun q16 => ?_) (fun q16 => ?_)
   ·
    obtain ⟨x10, rest17, rfl⟩ := hat4.cons q16
    obtain ⟨q5, hq6⟩ : ∃ q, (F70_slices_Index_string_string_b1 a1) x10 i2 = q := ⟨_, rfl⟩
    have hb7 := hq6
    refine CW.skip (thn_n ?_)
    refine CW.seq ?_
    refine CW.block ?_
    refine CW.seq (CW.region ?_)
    refine rl_move rfl rfl ?_
    refine rl_assign rfl rfl ?_
    refine RL.nil ?_
    refine thn_n ?_
    refine CW.seq (CW.region ?_)
    refine rl_move rfl rfl ?_
    refine rl_move rfl rfl ?_
    refine rl_move rfl rfl ?_
    refine rl_ixR rfl ah0 rfl hat4.get Try.underlying42 Try.sizeOf9 rfl ?_
    intro p18 o19 cs20 hr21 hs22 hg23
    obtain rfl := hr21
    refine rl_loadS (v := (Value.string x10)) rfl Try.isAgg9 (hs22 0 _ rfl) rfl ?_
    refine rl_bin rfl rfl B.eqlS rfl ?_
    refine RL.nil ?_
    refine thn_n ?_
    refine CW.cond (t := decide (a1 = x10)) rfl (fun q24 => ?_) (fun q24 => ?_)
    ·
     have hb7 := ifT q24 hb7
     refine CW.seq (CW.region ?_)
     refine rl_move rfl rfl ?_
     refine rl_assign rfl rfl ?_
     refine RL.nil ?_
     refine thn_n ?_
     refine CW.ret ?_
     refine inB_ret ?_
     refine thn_ret ?_
     refine thn_ret (inB_ret (thn_ret ?_))
     refine thn_ret ?_
     have f25 := runB_ret hL3 (hb7.trans hq6.symm)
     have hS := retS f25 hS
     obtain rfl := hS
     exact ret1 rfl ⟨rfl, c13⟩
    ·
     have hb7 := ifF q24 hb7
     refine CW.skip ?_
     refine inB_n ?_
     refine thn_n ?_
     refine CW.region ?_
     refine rl_inc rfl hat4.lt ah0.big rfl ?_
     refine rl_move rfl rfl ?_
     refine RL.nil ?_
     refine thn_n ?_
     have hLn := runB_next hL3 (hb7.trans hq6.symm)
     exact ⟨rest17.length, Nat.lt_succ_self _, [(0, av0), (1, (Value.string a1)), (7, (Value.int .i64 ((a0.length : Nat) : Int))), (8, (Value.int .i64 ((i2 + 1 : Nat) : Int)))], ⟨rfl, rfl, rfl, rfl, trivial⟩, ⟨rest17, i2 + 1, rfl, rfl, c13, hat4.next, hLn, ah0⟩⟩
   ·
    obtain rfl := hat4.nil q16
    have hLf : Lp.fin i2 = o8 := hL3
    refine CW.exit (thn_exit (thn_exit (inB_hit ?_)))
    exact ⟨i2, trivial, c13, hLf, ah0⟩
  ·
   rintro _ w27 ⟨ix15, hE28, c26, f29, ah0⟩
   have hS := finS f29 hS
   refine thn_n (CW.sub [] hE28 ?_)
   refine CW.seq (CW.region ?_)
   refine rl_assign rfl rfl ?_
   refine RL.nil ?_
   refine thn_n ?_
   refine CW.ret ?_
   obtain rfl := hS
   exact ret1 rfl ⟨rfl, c26⟩
/-- slices.Contains[[]string,string] -/
theorem ctr63 (F : Nat → Prop) (w : World) (a0 : (List ByteArray)) (av0 : Value) (ah0 : slRep kStr F w a0 av0) (a1 : ByteArray) (r : Bool) (hs : F63_slices_Contains_string_string a0 a1 = r) :
    Ret Try.prog 63 #[av0, (Value.string a1)] w fun v w' => v = (Value.bool r) ∧ Ch nb w w' := by
  have hS := hs
  have c0 : Ch nb w w := Ch.refl
  have ah0 := slRep.enter kStr_pos ah0
  refine Ret.of (n := 9) (args := [_, _]) (rs := [.tmp 4]) Try.func63 rfl rfl rfl rfl ?_
  refine CW.seq (CW.region ?_)
  refine rl_assign rfl rfl ?_
  refine RL.nil ?_
  refine thn_n ?_
  refine CW.seq (CW.region ?_)
  refine rl_move rfl rfl ?_
  refine rl_move rfl rfl ?_
  obtain ⟨y3, hy4⟩ : ∃ y, F70_slices_Index_string_string a0 a1 = y := ⟨_, rfl⟩
  have hS := ltS hy4 hS
  refine rl_callF rfl en70 rfl (ctr70 (G F w.heap.size nb) w a0 av0 ah0 a1 y3 hy4) ?_
  rintro _ w1 ⟨rfl, c2⟩
  have ah0 := slRep.ch kStr_pos ah0 c2
  have c0 := c0.then0 c2
  refine rl_bin rfl rfl B.geq rfl ?_
  refine rl_assign rfl rfl ?_
  refine RL.nil ?_
  refine thn_n ?_
  refine CW.ret ?_
  obtain rfl := hS
  exact ret1 rfl ⟨rfl, c0⟩
/-- lb/hints.Meant -/
theorem ctr49 (F : Nat → Prop) (w : World) (a0 : Candidate) (az0_0 : Value) (ah0_0 : slRep kStr F w a0.zones az0_0) (a1 : ByteArray) (r : Bool) (hs : F49_hints_Meant a0 a1 = r) :
    Ret Try.prog 49 #[(Value.agg (Candidate.c a0 az0_0).toArray), (Value.string a1)] w fun v w' => v = (Value.bool r) ∧ Ch nb w w' := by
  have hS := hs
  have c0 : Ch nb w w := Ch.refl
  have ah0_0 := slRep.enter kStr_pos ah0_0
  refine Ret.of (n := 9) (args := [_, _]) (rs := [.tmp 4]) Try.func49 rfl rfl rfl rfl ?_
  refine CW.seq (CW.region ?_)
  refine rl_boxA (cs := (Candidate.c a0 az0_0)) rfl rfl ?_
  intro p1 w2 n3 k4
  have gp1 : (G F w.heap.size nb) p1 := ⟨.inr (by rw [n3.eq]; exact c0.size), fun h => absurd (nbS _ h) (by rw [n3.eq]; exact Nat.lt_irrefl _)⟩
  have ah0_0 := slRep.ch kStr_pos ah0_0 n3.ch
  have c0 := c0.then0 n3.ch
  refine rl_assign rfl rfl ?_
  refine RL.nil ?_
  refine thn_n ?_
  refine CW.seq (CW.region ?_)
  refine rl_fieldAddr rfl fa44_5 rfl ?_
  refine rl_loadS (v := az0_0) rfl Try.isAgg42 (k4.cell rfl) rfl ?_
  refine rl_move rfl rfl ?_
  obtain ⟨y7, hy8⟩ : ∃ y, F63_slices_Contains_string_string a0.zones a1 = y := ⟨_, rfl⟩
  have hS := ltS hy8 hS
  refine rl_callF rfl en63 rfl (ctr63 (G F w.heap.size nb) w2 a0.zones az0_0 ah0_0 a1 y7 hy8) ?_
  rintro _ w5 ⟨rfl, c6⟩
  have ah0_0 := slRep.ch kStr_pos ah0_0 c6
  have k4 := k4.ch0 c6
  have c0 := c0.then0 c6
  refine rl_assign rfl rfl ?_
  refine RL.nil ?_
  refine thn_n ?_
  refine CW.ret ?_
  obtain rfl := hS
  exact ret1 rfl ⟨rfl, c0⟩
/-- lb/hints.Count$2 -/
theorem ctr61 (F : Nat → Prop) (w : World) (a0 : Candidate) (az0_0 : Value) (ah0_0 : slRep kStr F w a0.zones az0_0) (a1 : ByteArray) (av1 : Value) (ah1 : (kStr.box 9).rep F w a1 [av1]) (r : Bool) (hs : F61_hints_Count_2 a0 a1 = r) :
    Ret Try.prog 61 #[(Value.agg (Candidate.c a0 az0_0).toArray), av1] w fun v w' => v = (Value.bool r) ∧ Ch nb w w' := by
  have hS := hs
  have c0 : Ch nb w w := Ch.refl
  have ah0_0 := slRep.enter kStr_pos ah0_0
  have ah1 := Kd.enter ah1
  refine Ret.of (n := 7) (args := [_, _]) (rs := [.tmp 3]) Try.func61 rfl rfl rfl rfl ?_
  refine CW.seq (CW.region ?_)
  refine rl_boxA (cs := (Candidate.c a0 az0_0)) rfl rfl ?_
  intro p1 w2 n3 k4
  have gp1 : (G F w.heap.size nb) p1 := ⟨.inr (by rw [n3.eq]; exact c0.size), fun h => absurd (nbS _ h) (by rw [n3.eq]; exact Nat.lt_irrefl _)⟩
  have ah0_0 := slRep.ch kStr_pos ah0_0 n3.ch
  have ah1 := Kd.ch ah1 n3.ch
  have c0 := c0.then0 n3.ch
  refine rl_assign rfl rfl ?_
  refine RL.nil ?_
  refine thn_n ?_
  refine CW.seq (CW.region ?_)
  refine rl_loadA (cs := (Candidate.c a0 az0_0)) rfl Try.isAgg44 Try.sizeOf44 (k4.segAt 0 23) rfl rfl ?_
  obtain ⟨p5, cc6, e7, gf8, k9, h10⟩ := ah1
  obtain rfl := (List.cons.inj e7).1
  obtain rfl := h10
  refine rl_loadS (v := (Value.string a1)) rfl Try.isAgg9 (k9.cell rfl) rfl ?_
  obtain ⟨y13, hy14⟩ : ∃ y, F49_hints_Meant a0 a1 = y := ⟨_, rfl⟩
  have hS := ltS hy14 hS
  refine rl_callF rfl en49 rfl (ctr49 (G F w.heap.size nb) w2 a0 az0_0 ah0_0 a1 y13 hy14) ?_
  rintro _ w11 ⟨rfl, c12⟩
  have ah0_0 := slRep.ch kStr_pos ah0_0 c12
  have k4 := k4.ch0 c12
  have k9 := k9.ch0 c12
  have c0 := c0.then0 c12
  refine rl_assign rfl rfl ?_
  refine RL.nil ?_
  refine thn_n ?_
  refine CW.ret ?_
  obtain rfl := hS
  exact ret1 rfl ⟨rfl, c0⟩
/-- lb/hints.Count -/
theorem ctr46 (F : Nat → Prop) (w : World) (a0 : (List Candidate)) (av0 : Value) (ah0 : slRep k_Candidate F w a0 av0) (a1 : ByteArray) (r : Bool) (hs : F46_hints_Count a0 a1 = some r) :
    Ret Try.prog 46 #[av0, (Value.string a1)] w fun v w' => v = (Value.bool r) ∧ Ch nb w w' := by
  have hS := hs
  have c0 : Ch nb w w := Ch.refl
  have ah0 := slRep.enter k_Candidate_pos ah0
  refine Ret.of (n := 22) (args := [_, _]) (rs := [.tmp 4]) Try.func46 rfl rfl rfl rfl ?_
  refine CW.seq (CW.region ?_)
  refine rl_box [(Value.string a1)] rfl rfl rfl ?_
  intro p1 w2 n3 k4
  have gp1 : (G F w.heap.size nb) p1 := ⟨.inr (by rw [n3.eq]; exact c0.size), fun h => absurd (nbS _ h) (by rw [n3.eq]; exact Nat.lt_irrefl _)⟩
  have ah0 := slRep.ch k_Candidate_pos ah0 n3.ch
  have c0 := c0.then0 n3.ch
  refine rl_assign rfl rfl ?_
  refine RL.nil ?_
  refine thn_n ?_
  refine CW.seq (CW.region ?_)
  refine rl_move rfl rfl ?_
  obtain ⟨y7, hy8, hS⟩ := bindS hS
  refine rl_callF rfl en45 rfl (ctr45 (G F w.heap.size nb) w2 a0 av0 ah0 y7 hy8) ?_
  rintro v9 w5 ⟨_, rfl, h10, c6⟩
  have h10 := SlO.backR k_Candidate_pos h10 nbS c0.size
  have ah0 := slRep.ch k_Candidate_pos ah0 c6
  have k4 := k4.ch0 c6
  have c0 := c0.then0 c6
  refine rl_assign rfl rfl ?_
  refine RL.nil ?_
  refine thn_n ?_
  refine CW.seq (CW.region ?_)
  refine rl_move rfl rfl ?_
  obtain ⟨y13, hy14⟩ : ∃ y, F29_slices_ContainsFunc_hints_Candidate_hint y7 (fun x0 => F60_hints_Count_1 x0) = y := ⟨_, rfl⟩
  have hS := ltS hy14 hS
  refine rl_callF rfl en29 rfl (ctr29 (G F w.heap.size nb) w5 y7 v9 h10 (fun x0 => F60_hints_Count_1 x0) (Value.func (.func 60) #[] [].toArray) (show (Kd.fn1 Try.prog true k_Candidate Value.bool).rep (G F w.heap.size nb) w5 (fun x0 => F60_hints_Count_1 x0) [(Value.func (.func 60) #[] [].toArray)] from ⟨60, [], rfl, en60, fun w' hw F' x0 c0 hx0 => by
      obtain ⟨u0_0, rfl, e0_0⟩ := hx0
      exact (ctr60 (fun b => (G F w.heap.size nb) b ∨ F' b) w' x0 u0_0 (slRep.wk kStr_pos e0_0 fun _ _ h => .inr h) _ rfl).mono (by rintro v w'' ⟨rfl, c⟩; exact ⟨rfl, c⟩)⟩) y13 hy14) ?_
  rintro _ w11 ⟨rfl, c12⟩
  have ah0 := slRep.ch k_Candidate_pos ah0 c12
  have k4 := k4.ch0 c12
  have h10 := slRep.ch k_Candidate_pos h10 c12
  have c0 := c0.then0 c12
  refine rl_assign rfl rfl ?_
  refine RL.nil ?_
  refine thn_n ?_
  refine CW.seq (CW.region ?_)
  refine rl_loadS (v := (Value.string a1)) rfl Try.isAgg9 (k4.cell rfl) rfl ?_
  refine rl_bin rfl rfl B.neqS rfl ?_
  refine rl_move rfl rfl ?_
  obtain ⟨b17, hb18⟩ : ∃ v, ((!decide (a1 = (⟨#[]⟩ : ByteArray))) && (!y13)) = v := ⟨_, rfl⟩
  have hS := ltS hb18 hS
  refine RL.join 3 16 (.bool b17) (fun w' => Ch nb w11 w') ?_ ?_
  · rcases Bool.eq_false_or_eq_true (!decide (a1 = (⟨#[]⟩ : ByteArray))) with hg16 | hg16
    ·
     have hs15 := and_t hg16 hb18
     have cs : Ch nb w11 w11 := Ch.refl
     refine RL.yes rfl rfl rfl hg16 ?_
     refine rl_move rfl rfl ?_
     refine RL.yes rfl rfl rfl hg16 ?_
     refine rl_not rfl rfl ?_
     refine rl_pickT rfl hg16 rfl rfl ?_
     exact RL.nil ⟨Ext.bothEq (congrArg Value.bool hs15) (Ext.skip rfl (Ext.skip rfl (Ext.rfl'))), cs⟩
    ·
     have hs15 := and_f hg16 hb18
     have cs : Ch nb w11 w11 := Ch.refl
     refine RL.no rfl rfl rfl hg16 rfl rfl ?_
     refine RL.no rfl rfl rfl hg16 rfl rfl ?_
     refine rl_pickF rfl hg16 rfl rfl ?_
     exact RL.nil ⟨Ext.bothEq (congrArg Value.bool hs15) (Ext.skip rfl (Ext.skip rfl (Ext.rfl'))), cs⟩
  intro w19 c20
  have ah0 := slRep.ch k_Candidate_pos ah0 c20
  have k4 := k4.ch0 c20
  have h10 := slRep.ch k_Candidate_pos h10 c20
  have c0 := c0.then0 c20
  refine rl_move rfl rfl ?_
  obtain ⟨b23, hb24⟩ : ∃ v, (b17 && (lt (F29_slices_ContainsFunc_hints_Candidate_hint y7 (fun x0 => F61_hints_Count_2 x0 a1)) fun y25 => y25)) = v := ⟨_, rfl⟩
  have hS := ltS hb24 hS
  refine RL.join 4 21 (.bool b23) (fun w' => Ch nb w19 w') ?_ ?_
  · rcases Bool.eq_false_or_eq_true b17 with hg22 | hg22
    ·
     have hs21 := and_t hg22 hb24
     have cs : Ch nb w19 w19 := Ch.refl
     refine RL.yes rfl rfl rfl hg22 ?_
     refine rl_move rfl rfl ?_
     refine RL.yes rfl rfl rfl hg22 ?_
     refine rl_makeFunc rfl rfl ?_
     refine RL.yes rfl rfl rfl hg22 ?_
     obtain ⟨y28, hy29⟩ : ∃ y, F29_slices_ContainsFunc_hints_Candidate_hint y7 (fun x0 => F61_hints_Count_2 x0 a1) = y := ⟨_, rfl⟩
     have hs21 := ltS hy29 hs21
     refine rl_callF rfl en29 rfl (ctr29 (G F w.heap.size nb) w19 y7 v9 h10 (fun x0 => F61_hints_Count_2 x0 a1) (Value.func (.func 61) #[] [(Value.pointer (some ⟨p1, 0, none⟩))].toArray) (show (Kd.fn1 Try.prog true k_Candidate Value.bool).rep (G F w.heap.size nb) w19 (fun x0 => F61_hints_Count_2 x0 a1) [(Value.func (.func 61) #[] [(Value.pointer (some ⟨p1, 0, none⟩))].toArray)] from ⟨61, [(Value.pointer (some ⟨p1, 0, none⟩))], rfl, en61, fun w' hw F' x0 c0 hx0 => by
         obtain ⟨u0_0, rfl, e0_0⟩ := hx0
         exact (ctr61 (fun b => (G F w.heap.size nb) b ∨ F' b) w' x0 u0_0 (slRep.wk kStr_pos e0_0 fun _ _ h => .inr h) a1 (Value.pointer (some ⟨p1, 0, none⟩)) (Kd.mono _ (show (kStr.box 9).rep (G F w.heap.size nb) w19 a1 [(Value.pointer (some ⟨p1, 0, none⟩))] from ⟨p1, _, rfl, gp1, k4, rfl⟩) fun b hb hf => ⟨.inl hf, (hw b hb hf).2⟩) _ rfl).mono (by rintro v w'' ⟨rfl, c⟩; exact ⟨rfl, c⟩)⟩) y28 hy29) ?_
     rintro _ w26 ⟨rfl, c27⟩
     have ah0 := slRep.ch k_Candidate_pos ah0 c27
     have k4 := k4.ch0 c27
     have h10 := slRep.ch k_Candidate_pos h10 c27
     have c0 := c0.then0 c27
     refine rl_pickT rfl hg22 rfl rfl ?_
     have cs := cs.then0 c27
     exact RL.nil ⟨Ext.bothEq (congrArg Value.bool hs21) (Ext.skip rfl (Ext.skip rfl (Ext.skip rfl (Ext.rfl')))), cs⟩
    ·
     have hs21 := and_f hg22 hb24
     have cs : Ch nb w19 w19 := Ch.refl
     refine RL.no rfl rfl rfl hg22 rfl rfl ?_
     refine RL.no rfl rfl rfl hg22 rfl rfl ?_
     refine RL.no rfl rfl rfl hg22 rfl rfl ?_
     refine rl_pickF rfl hg22 rfl rfl ?_
     exact RL.nil ⟨Ext.bothEq (congrArg Value.bool hs21) (Ext.skip rfl (Ext.skip rfl (Ext.skip rfl (Ext.rfl')))), cs⟩
  intro w25 c30
  have ah0 := slRep.ch k_Candidate_pos ah0 c30
  have k4 := k4.ch0 c30
  have h10 := slRep.ch k_Candidate_pos h10 c30
  have c0 := c0.then0 c30
  refine rl_assign rfl rfl ?_
  refine RL.nil ?_
  refine thn_n ?_
  refine CW.ret ?_
  obtain rfl := Option.some.inj hS
  exact ret1 rfl ⟨rfl, c0⟩
/-- lb/hints.Filter$1 -/
theorem ctr48 (F : Nat → Prop) (w : World) (a0 : Candidate) (az0_0 : Value) (ah0_0 : slRep kStr F w a0.zones az0_0) (a1 : ByteArray) (av1 : Value) (ah1 : (kStr.box 9).rep F w a1 [av1]) (r : Bool) (hs : F48_hints_Filter_1 a0 a1 = r) :
    Ret Try.prog 48 #[(Value.agg (Candidate.c a0 az0_0).toArray), av1] w fun v w' => v = (Value.bool r) ∧ Ch nb w w' := by
  have hS := hs
  have c0 : Ch nb w w := Ch.refl
  have ah0_0 := slRep.enter kStr_pos ah0_0
  have ah1 := Kd.enter ah1
  refine Ret.of (n := 7) (args := [_, _]) (rs := [.tmp 3]) Try.func48 rfl rfl rfl rfl ?_
  refine CW.seq (CW.region ?_)
  refine rl_boxA (cs := (Candidate.c a0 az0_0)) rfl rfl ?_
  intro p1 w2 n3 k4
  have gp1 : (G F w.heap.size nb) p1 := ⟨.inr (by rw [n3.eq]; exact c0.size), fun h => absurd (nbS _ h) (by rw [n3.eq]; exact Nat.lt_irrefl _)⟩
  have ah0_0 := slRep.ch kStr_pos ah0_0 n3.ch
  have ah1 := Kd.ch ah1 n3.ch
  have c0 := c0.then0 n3.ch
  refine rl_assign rfl rfl ?_
  refine RL.nil ?_
  refine thn_n ?_
  refine CW.seq (CW.region ?_)
  refine rl_loadA (cs := (Candidate.c a0 az0_0)) rfl Try.isAgg44 Try.sizeOf44 (k4.segAt 0 23) rfl rfl ?_
  obtain ⟨p5, cc6, e7, gf8, k9, h10⟩ := ah1
  obtain rfl := (List.cons.inj e7).1
  obtain rfl := h10
  refine rl_loadS (v := (Value.string a1)) rfl Try.isAgg9 (k9.cell rfl) rfl ?_
  obtain ⟨y13, hy14⟩ : ∃ y, F49_hints_Meant a0 a1 = y := ⟨_, rfl⟩
  have hS := ltS hy14 hS
  refine rl_callF rfl en49 rfl (ctr49 (G F w.heap.size nb) w2 a0 az0_0 ah0_0 a1 y13 hy14) ?_
  rintro _ w11 ⟨rfl, c12⟩
  have ah0_0 := slRep.ch kStr_pos ah0_0 c12
  have k4 := k4.ch0 c12
  have k9 := k9.ch0 c12
  have c0 := c0.then0 c12
  refine rl_assign rfl rfl ?_
  refine RL.nil ?_
  refine thn_n ?_
  refine CW.ret ?_
  obtain rfl := hS
  exact ret1 rfl ⟨rfl, c0⟩
/-- lb/hints.Filter -/
theorem ctr30 (F : Nat → Prop) (w : World) (a0 : (List Candidate)) (av0 : Value) (ah0 : slRep k_Candidate F w a0 av0) (a1 : ByteArray) (r : (List Candidate)) (hs : F30_hints_Filter a0 a1 = some r) :
    Ret Try.prog 30 #[av0, (Value.string a1)] w fun v w' => ∃ (y0 : Value), v = y0 ∧ SlO k_Candidate 44 F w.heap.size (inBlk y0) w' r y0 ∧ Ch nb w w' := by
  have hS := hs
  have c0 : Ch nb w w := Ch.refl
  have ah0 := slRep.enter k_Candidate_pos ah0
  refine Ret.of (n := 16) (args := [_, _]) (rs := [.tmp 4]) Try.func30 rfl rfl rfl rfl ?_
  refine CW.seq (CW.region ?_)
  refine rl_box [(Value.string a1)] rfl rfl rfl ?_
  intro p1 w2 n3 k4
  have gp1 : (G F w.heap.size nb) p1 := ⟨.inr (by rw [n3.eq]; exact c0.size), fun h => absurd (nbS _ h) (by rw [n3.eq]; exact Nat.lt_irrefl _)⟩
  have ah0 := slRep.ch k_Candidate_pos ah0 n3.ch
  have c0 := c0.then0 n3.ch
  refine rl_assign rfl rfl ?_
  refine RL.nil ?_
  refine thn_n ?_
  refine CW.seq (CW.region ?_)
  refine rl_move rfl rfl ?_
  obtain ⟨y7, hy8, hS⟩ := bindS hS
  refine rl_callF rfl en45 rfl (ctr45 (G F w.heap.size nb) w2 a0 av0 ah0 y7 hy8) ?_
  rintro v9 w5 ⟨_, rfl, h10, c6⟩
  have hf11 : ∀ b, inBlk v9 b → w2.heap.size ≤ b := fun b hb => (h10.lt b hb).1
  have h10 := SlO.back (S' := un (inBlk v9) nb) h10 nbS c0.size (fun _ => Or.comm)
  have ah0 := slRep.st k_Candidate_pos ah0 c6 (admNew hf11 (fun _ x => x))
  have gp1n : (G F w.heap.size (un (inBlk v9) nb)) p1 := ⟨gp1.1, ((admNew hf11 (fun _ x => x)) _ k4.lt gp1.2).2⟩
  have k4 := k4.ch0 c6
  have gp1 := gp1n
  have c0 := c0.then0 c6
  refine rl_assign rfl rfl ?_
  refine RL.nil ?_
  refine thn_n ?_
  refine CW.seq ?_
  refine CW.seq (CW.region ?_)
  refine rl_move rfl rfl ?_
  refine rl_loadS (v := (Value.string a1)) rfl Try.isAgg9 (k4.cell rfl) rfl ?_
  obtain ⟨y14, hy15, hS⟩ := bindS hS
  refine rl_callF rfl en46 rfl (ctr46 (G F w.heap.size (un (inBlk v9) nb)) w5 a0 av0 ah0 a1 y14 hy15) ?_
  rintro _ w12 ⟨rfl, c13⟩
  have ah0 := slRep.ch k_Candidate_pos ah0 c13
  have k4 := k4.ch0 c13
  have h10 := h10.ch0 c13
  have c0 := c0.then0 c13
  refine rl_not rfl rfl ?_
  refine RL.nil ?_
  refine thn_n ?_
  refine CW.cond (t := !y14) rfl (fun q16 => ?_) (fun q16 => ?_)
  ·
   have hS := ifT q16 hS
   refine CW.seq (CW.region ?_)
   refine rl_move rfl rfl ?_
   refine rl_assign rfl rfl ?_
   refine RL.nil ?_
   refine thn_n ?_
   refine CW.ret ?_
   refine thn_ret ?_
   obtain rfl := Option.some.inj hS
   exact ret1 rfl ⟨v9, rfl, h10.out, c0⟩
  ·
   have hS := ifF q16 hS
   refine CW.skip ?_
   refine thn_n ?_
   refine CW.seq (CW.region ?_)
   refine rl_move rfl rfl ?_
   refine rl_makeFunc rfl rfl ?_
   have h10 := SlO.read (S' := nb) k_Candidate_pos h10 (fun b hs h => hs (False.elim h)) (fun b hb => fun h => h)
   have crf : Ch nb w12 w12 := Ch.refl
   have ah0 := slRep.st k_Candidate_pos ah0 crf (show ∀ b, b < w12.heap.size → ¬ (un (inBlk v9) nb) b → ¬ nb b ∧ ¬ nb b from fun b _ hs => ⟨fun x => x, fun h => hs (False.elim h)⟩)
   have gp1n : (G F w.heap.size nb) p1 := ⟨gp1.1, ((show ∀ b, b < w12.heap.size → ¬ (un (inBlk v9) nb) b → ¬ nb b ∧ ¬ nb b from fun b _ hs => ⟨fun x => x, fun h => hs (False.elim h)⟩) _ k4.lt gp1.2).2⟩
   have k4 := k4.ch0 crf
   have gp1 := gp1n
   have c0 := c0.then0 crf
   obtain ⟨y19, hy20, hS⟩ := bindS hS
   refine rl_callF rfl en47 rfl (ctr47 (G F w.heap.size nb) w12 y7 v9 h10 (fun x0 => F48_hints_Filter_1 x0 a1) (Value.func (.func 48) #[] [(Value.pointer (some ⟨p1, 0, none⟩))].toArray) (show (Kd.fn1 Try.prog true k_Candidate Value.bool).rep (G F w.heap.size nb) w12 (fun x0 => F48_hints_Filter_1 x0 a1) [(Value.func (.func 48) #[] [(Value.pointer (some ⟨p1, 0, none⟩))].toArray)] from ⟨48, [(Value.pointer (some ⟨p1, 0, none⟩))], rfl, en48, fun w' hw F' x0 c0 hx0 => by
       obtain ⟨u0_0, rfl, e0_0⟩ := hx0
       exact (ctr48 (fun b => (G F w.heap.size nb) b ∨ F' b) w' x0 u0_0 (slRep.wk kStr_pos e0_0 fun _ _ h => .inr h) a1 (Value.pointer (some ⟨p1, 0, none⟩)) (Kd.mono _ (show (kStr.box 9).rep (G F w.heap.size nb) w12 a1 [(Value.pointer (some ⟨p1, 0, none⟩))] from ⟨p1, _, rfl, gp1, k4, rfl⟩) fun b hb hf => ⟨.inl hf, (hw b hb hf).2⟩) _ rfl).mono (by rintro v w'' ⟨rfl, c⟩; exact ⟨rfl, c⟩)⟩) y19 hy20) ?_
   rintro v21 w17 ⟨_, rfl, h22, c18⟩
   have hf23 : ∀ b, inBlk v21 b → w12.heap.size ≤ b := fun b hb => (h22.lt b hb).1
   have h22 := SlO.back (S' := un (inBlk v21) nb) h22 nbS c0.size (fun _ => Or.comm)
   have ah0 := slRep.st k_Candidate_pos ah0 c18 (admNew hf23 (fun _ x => x))
   have gp1n : (G F w.heap.size (un (inBlk v21) nb)) p1 := ⟨gp1.1, ((admNew hf23 (fun _ x => x)) _ k4.lt gp1.2).2⟩
   have k4 := k4.ch0 c18
   have gp1 := gp1n
   have h10 := slRep.st k_Candidate_pos h10 c18 (admNew hf23 (fun _ x => x))
   have c0 := c0.then0 c18
   refine rl_assign rfl rfl ?_
   refine RL.nil ?_
   refine thn_n ?_
   refine CW.ret ?_
   obtain rfl := Option.some.inj hS
   exact ret1 rfl ⟨v21, rfl, h22.out, c0⟩
/-- lb/pick.Choose -/
theorem ctr13 (F : Nat → Prop) (w : World) (a0 : (List Candidate)) (av0 : Value) (ah0 : slRep k_Candidate F w a0 av0) (a1 : Want) (r : (List Candidate)) (hs : F13_pick_Choose a0 a1 = some r) :
    Ret Try.prog 13 #[av0, (Value.agg (Want.enc a1).toArray)] w fun v w' => ∃ (y0 : Value), v = y0 ∧ SlO k_Candidate 44 F w.heap.size (inBlk y0) w' r y0 ∧ Ch nb w w' := by
  have hS := hs
  have c0 : Ch nb w w := Ch.refl
  have ah0 := slRep.enter k_Candidate_pos ah0
  refine Ret.of (n := 24) (args := [_, _]) (rs := [.tmp 4]) Try.func13 rfl rfl rfl rfl ?_
  refine CW.seq (CW.region ?_)
  refine rl_boxA (cs := (Want.enc a1)) rfl rfl ?_
  intro p1 w2 n3 k4
  have gp1 : (G F w.heap.size nb) p1 := ⟨.inr (by rw [n3.eq]; exact c0.size), fun h => absurd (nbS _ h) (by rw [n3.eq]; exact Nat.lt_irrefl _)⟩
  have ah0 := slRep.ch k_Candidate_pos ah0 n3.ch
  have c0 := c0.then0 n3.ch
  refine rl_assign rfl rfl ?_
  refine RL.nil ?_
  refine thn_n ?_
  refine CW.seq ?_
  refine CW.block ?_
  refine CW.seq (CW.region ?_)
  refine rl_fieldAddr rfl fa24_3 rfl ?_
  refine rl_loadS (v := (Value.bool a1.localF)) rfl Try.isAgg4 (k4.cell rfl) rfl ?_
  refine rl_assign rfl rfl ?_
  refine RL.nil ?_
  refine thn_n ?_
  refine CW.cond (t := a1.localF) rfl (fun q5 => ?_) (fun q5 => ?_)
  ·
   have hS := ifT q5 hS
   refine CW.seq (CW.region ?_)
   refine rl_move rfl rfl ?_
   obtain ⟨y8, hy9, hS⟩ := bindS hS
   refine rl_callF rfl en25 rfl (ctr25 (G F w.heap.size nb) w2 a0 av0 ah0 (fun x0 => F28_pick_local x0) (Value.func (.func 28) #[] [].toArray) (show (Kd.fn1 Try.prog true k_Candidate Value.bool).rep (G F w.heap.size nb) w2 (fun x0 => F28_pick_local x0) [(Value.func (.func 28) #[] [].toArray)] from ⟨28, [], rfl, en28, fun w' hw F' x0 c0 hx0 => by
       obtain ⟨u0_0, rfl, e0_0⟩ := hx0
       exact (ctr28 (fun b => (G F w.heap.size nb) b ∨ F' b) w' x0 u0_0 (slRep.wk kStr_pos e0_0 fun _ _ h => .inr h) _ rfl).mono (by rintro v w'' ⟨rfl, c⟩; exact ⟨rfl, c⟩)⟩) y8 hy9) ?_
   rintro v10 w6 ⟨_, rfl, h11, c7⟩
   have h11 := SlO.backR k_Candidate_pos h11 nbS c0.size
   have ah0 := slRep.ch k_Candidate_pos ah0 c7
   have k4 := k4.ch0 c7
   have c0 := c0.then0 c7
   obtain ⟨y14, hy15, hS⟩ := bindS hS
   refine rl_callF rfl en11 rfl (ctr11 (G F w.heap.size nb) w6 y8 v10 h11 y14 hy15) ?_
   rintro v16 w12 ⟨_, rfl, h17, c13⟩
   have hf18 : ∀ b, inBlk v16 b → w6.heap.size ≤ b := fun b hb => (h17.lt b hb).1
   have h17 := SlO.back (S' := un (inBlk v16) nb) h17 nbS c0.size (fun _ => Or.comm)
   have ah0 := slRep.st k_Candidate_pos ah0 c13 (admNew hf18 (fun _ x => x))
   have gp1n : (G F w.heap.size (un (inBlk v16) nb)) p1 := ⟨gp1.1, ((admNew hf18 (fun _ x => x)) _ k4.lt gp1.2).2⟩
   have k4 := k4.ch0 c13
   have gp1 := gp1n
   have h11 := slRep.st k_Candidate_pos h11 c13 (admNew hf18 (fun _ x => x))
   have c0 := c0.then0 c13
   refine rl_assign rfl rfl ?_
   refine RL.nil ?_
   refine thn_n ?_
   refine CW.ret ?_
   refine inB_ret ?_
   refine thn_ret ?_
   obtain rfl := Option.some.inj hS
   exact ret1 rfl ⟨v16, rfl, h17.out, c0⟩
  ·
   have hS := ifF q5 hS
   refine CW.seq (CW.region ?_)
   refine rl_fieldAddr rfl fa24_4 rfl ?_
   refine rl_loadS (v := (Value.bool a1.hinted)) rfl Try.isAgg4 (k4.cell rfl) rfl ?_
   refine rl_move rfl rfl ?_
   obtain ⟨b21, hb22⟩ : ∃ v, (a1.hinted && (lt (F29_slices_ContainsFunc_hints_Candidate_hint a0 (fun x0 => F26_pick_ready x0)) fun y23 => y23)) = v := ⟨_, rfl⟩
   have hS := ltS hb22 hS
   refine RL.join 3 17 (.bool b21) (fun w' => Ch nb w2 w') ?_ ?_
   · rcases Bool.eq_false_or_eq_true a1.hinted with hg20 | hg20
     ·
      have hs19 := and_t hg20 hb22
      have cs : Ch nb w2 w2 := Ch.refl
      refine RL.yes rfl rfl rfl hg20 ?_
      refine rl_move rfl rfl ?_
      refine RL.yes rfl rfl rfl hg20 ?_
      obtain ⟨y26, hy27⟩ : ∃ y, F29_slices_ContainsFunc_hints_Candidate_hint a0 (fun x0 => F26_pick_ready x0) = y := ⟨_, rfl⟩
      have hs19 := ltS hy27 hs19
      refine rl_callF rfl en29 rfl (ctr29 (G F w.heap.size nb) w2 a0 av0 ah0 (fun x0 => F26_pick_ready x0) (Value.func (.func 26) #[] [].toArray) (show (Kd.fn1 Try.prog true k_Candidate Value.bool).rep (G F w.heap.size nb) w2 (fun x0 => F26_pick_ready x0) [(Value.func (.func 26) #[] [].toArray)] from ⟨26, [], rfl, en26, fun w' hw F' x0 c0 hx0 => by
          obtain ⟨u0_0, rfl, e0_0⟩ := hx0
          exact (ctr26 (fun b => (G F w.heap.size nb) b ∨ F' b) w' x0 u0_0 (slRep.wk kStr_pos e0_0 fun _ _ h => .inr h) _ rfl).mono (by rintro v w'' ⟨rfl, c⟩; exact ⟨rfl, c⟩)⟩) y26 hy27) ?_
      rintro _ w24 ⟨rfl, c25⟩
      have ah0 := slRep.ch k_Candidate_pos ah0 c25
      have k4 := k4.ch0 c25
      have c0 := c0.then0 c25
      refine rl_pickT rfl hg20 rfl rfl ?_
      have cs := cs.then0 c25
      exact RL.nil ⟨Ext.bothEq (congrArg Value.bool hs19) (Ext.skip rfl (Ext.skip rfl (Ext.rfl'))), cs⟩
     ·
      have hs19 := and_f hg20 hb22
      have cs : Ch nb w2 w2 := Ch.refl
      refine RL.no rfl rfl rfl hg20 rfl rfl ?_
      refine RL.no rfl rfl rfl hg20 rfl rfl ?_
      refine rl_pickF rfl hg20 rfl rfl ?_
      exact RL.nil ⟨Ext.bothEq (congrArg Value.bool hs19) (Ext.skip rfl (Ext.skip rfl (Ext.rfl'))), cs⟩
   intro w23 c28
   have ah0 := slRep.ch k_Candidate_pos ah0 c28
   have k4 := k4.ch0 c28
   have c0 := c0.then0 c28
   refine rl_assign rfl rfl ?_
   refine RL.nil ?_
   refine thn_n ?_
   refine CW.cond (t := b21) rfl (fun q29 => ?_) (fun q29 => ?_)
   ·
    have hS := ifT q29 hS
    refine CW.seq (CW.region ?_)
    refine rl_move rfl rfl ?_
    refine rl_fieldAddr rfl fa24_6 rfl ?_
    refine rl_loadS (v := (Value.string a1.zone)) rfl Try.isAgg9 (k4.cell rfl) rfl ?_
    obtain ⟨y32, hy33, hS⟩ := bindS hS
    refine rl_callF rfl en30 rfl (ctr30 (G F w.heap.size nb) w23 a0 av0 ah0 a1.zone y32 hy33) ?_
    rintro v34 w30 ⟨_, rfl, h35, c31⟩
    have hf36 : ∀ b, inBlk v34 b → w23.heap.size ≤ b := fun b hb => (h35.lt b hb).1
    have h35 := SlO.back (S' := un (inBlk v34) nb) h35 nbS c0.size (fun _ => Or.comm)
    have ah0 := slRep.st k_Candidate_pos ah0 c31 (admNew hf36 (fun _ x => x))
    have gp1n : (G F w.heap.size (un (inBlk v34) nb)) p1 := ⟨gp1.1, ((admNew hf36 (fun _ x => x)) _ k4.lt gp1.2).2⟩
    have k4 := k4.ch0 c31
    have gp1 := gp1n
    have c0 := c0.then0 c31
    refine rl_assign rfl rfl ?_
    refine RL.nil ?_
    refine thn_n ?_
    refine CW.ret ?_
    refine inB_ret ?_
    refine thn_ret ?_
    obtain rfl := Option.some.inj hS
    exact ret1 rfl ⟨v34, rfl, h35.out, c0⟩
   ·
    have hS := ifF q29 hS
    refine CW.skip ?_
    refine inB_n ?_
    refine thn_n ?_
    refine CW.seq (CW.region ?_)
    refine rl_move rfl rfl ?_
    obtain ⟨y39, hy40, hS⟩ := bindS hS
    refine rl_callF rfl en11 rfl (ctr11 (G F w.heap.size nb) w23 a0 av0 ah0 y39 hy40) ?_
    rintro v41 w37 ⟨_, rfl, h42, c38⟩
    have hf43 : ∀ b, inBlk v41 b → w23.heap.size ≤ b := fun b hb => (h42.lt b hb).1
    have h42 := SlO.back (S' := un (inBlk v41) nb) h42 nbS c0.size (fun _ => Or.comm)
    have ah0 := slRep.st k_Candidate_pos ah0 c38 (admNew hf43 (fun _ x => x))
    have gp1n : (G F w.heap.size (un (inBlk v41) nb)) p1 := ⟨gp1.1, ((admNew hf43 (fun _ x => x)) _ k4.lt gp1.2).2⟩
    have k4 := k4.ch0 c38
    have gp1 := gp1n
    have c0 := c0.then0 c38
    refine rl_assign rfl rfl ?_
    refine RL.nil ?_
    refine thn_n ?_
    refine CW.ret ?_
    obtain rfl := Option.some.inj hS
    exact ret1 rfl ⟨v41, rfl, h42.out, c0⟩
/-- slices.Clone[[]lb/api.Point,lb/api.Point] -/
theorem ctr54 (F : Nat → Prop) (w : World) (a0 : (List Point)) (av0 : Value) (ah0 : slRep k_Point F w a0 av0) (r : (List Point)) (hs : F54_slices_Clone_api_Point_api_Point a0 = some r) :
    Ret Try.prog 54 #[av0] w fun v w' => ∃ (y0 : Value), v = y0 ∧ SlO k_Point 41 F w.heap.size (inBlk y0) w' r y0 ∧ Ch nb w w' := by
  have hS := hs
  have c0 : Ch nb w w := Ch.refl
  have ah0 := slRep.enter k_Point_pos ah0
  refine Ret.of (n := 8) (args := [_]) (rs := [.tmp 2]) Try.func54 rfl rfl rfl rfl ?_
  refine CW.seq (CW.region ?_)
  refine rl_assign rfl rfl ?_
  refine RL.nil ?_
  refine thn_n ?_
  refine CW.seq ?_
  refine CW.seq (CW.region ?_)
  refine rl_move rfl rfl ?_
  refine rl_slNil rfl ah0 Try.underlying53 rfl ?_
  intro b1 n2
  refine RL.nil ?_
  refine thn_n ?_
  refine CW.cond (t := b1) rfl (fun q3 => ?_) (fun q3 => ?_)
  ·
   obtain ⟨rfl, rfl⟩ := n2 q3
   refine CW.seq (CW.region ?_)
   refine rl_assign rfl rfl ?_
   refine RL.nil ?_
   refine thn_n ?_
   refine CW.ret ?_
   refine thn_ret ?_
   obtain rfl := Option.some.inj hS
   exact ret1 rfl ⟨(Value.slice none 0 0), rfl, SlO.nil, c0⟩
  ·
   refine CW.skip ?_
   refine thn_n ?_
   refine CW.seq (CW.region ?_)
   refine rl_bslice (k := k_Point) (F := F) (B := w.heap.size) (S := nb) ([] : List Point) rfl k_Point_pos Try.underlying53 Try.sizeOf41 Try.zeroValue41 rfl rfl trivial c0.size nbS rfl ?_
   intro v4 w5 c6 hf7 h8
   have ah0 := slRep.st k_Point_pos ah0 c6 (admNew hf7 (fun _ x => x))
   have c0 := c0.then0 c6
   refine rl_move rfl rfl ?_
   obtain ⟨z17, hz18, hS⟩ := bindS hS
   have hl := (apO_get hz18).1
   refine rl_append (k := k_Point) (T := 41) (F := F) (B := w.heap.size) (S := (un (inBlk v4) nb)) (S2 := nb) (fun v => (un (inBlk v) nb)) rfl rfl k_Point_pos ap53 h8 ah0 (fun _ => Iff.rfl) (fun _ _ => Iff.rfl) hl c0.size (un_lt (fun b hb => (h8.lt b hb).2) nbS) rfl ?_
   intro v11 w12 h13 c14 hf15 ha16
   have ah0 := slRep.st k_Point_pos ah0 c14 ha16
   have c0 := c0.then c14 (fun i hi h => absurd ((fun b hb => (h8.lt b hb).1) i h) (Nat.not_le_of_lt hi))
   refine rl_assign rfl rfl ?_
   refine RL.nil ?_
   refine thn_n ?_
   refine CW.ret ?_
   obtain rfl := Option.some.inj hS
   exact ret1 rfl ⟨v11, rfl, h13.out, c0⟩
/-- slices.SortFunc[[]lb/api.Point,lb/api.Point] -/
theorem ctr55 (F : Nat → Prop) (w : World) (Bb : Nat) (S2 : Nat → Prop) (hB : Bb ≤ w.heap.size) (h2 : ∀ b, S2 b → b < w.heap.size) (av0 : Value) (hd2 : ∀ b, (inBlk av0) b → ¬ S2 b) (a0 : (List Point)) (ah0 : SlO k_Point 41 F Bb (un (inBlk av0) S2) w a0 av0) (a1 : (Point → Point → Int)) (av1 : Value) (ah1 : (Kd.fn2 Try.prog true true k_Point k_Point (Value.int .i64)).rep (G F Bb (un (inBlk av0) S2)) w a1 [av1]) (r : (List Point)) (hs : F55_slices_SortFunc a0 a1 = some r) :
    Ret Try.prog 55 #[av0, av1] w fun v w' => v = Value.tuple #[] ∧ SlO k_Point 41 F Bb (un (inBlk av0) S2) w' r av0 ∧ Ch (inBlk av0) w w' :=
  sortF_ret (n := 18) (enc := Point.enc) (fun _ => rfl) (fun _ => rfl) lays55 (by decide) Try.isAgg41 Try.sizeOf41 ah0 ah1 (fun b hb h => hb.2 (.inl h)) hs
/-- bytes.Compare -/
theorem ctr81 (F : Nat → Prop) (w : World) (a0 : (List Int)) (av0 : Value) (ah0 : slRep (kInt .u8) F w a0 av0) (a1 : (List Int)) (av1 : Value) (ah1 : slRep (kInt .u8) F w a1 av1) (r : Int) (hs : F81_bytes_Compare a0 a1 = r) :
    Ret Try.prog 81 #[av0, av1] w fun v w' => v = (Value.int .i64 r) ∧ Ch nb w w' := by
  have hS := hs
  have c0 : Ch nb w w := Ch.refl
  have ah0 := slRep.enter kInt_pos ah0
  have ah1 := slRep.enter kInt_pos ah1
  refine Ret.of (n := 8) (args := [_, _]) (rs := [.tmp 4]) Try.func81 rfl rfl rfl rfl ?_
  refine CW.seq (CW.region ?_)
  refine rl_assign rfl rfl ?_
  refine RL.nil ?_
  refine thn_n ?_
  refine CW.seq (CW.region ?_)
  refine rl_move rfl rfl ?_
  refine rl_move rfl rfl ?_
  refine rl_bcmp rfl rfl ah0 ah1 Try.func88 (by kernel_rfl) rfl (by kernel_rfl) (by kernel_rfl) rfl ?_
  refine rl_assign rfl rfl ?_
  refine RL.nil ?_
  refine thn_n ?_
  refine CW.ret ?_
  obtain rfl := hS
  exact ret1 rfl ⟨rfl, c0⟩
end Go.Proofs.Yteoaobiglodblaa
