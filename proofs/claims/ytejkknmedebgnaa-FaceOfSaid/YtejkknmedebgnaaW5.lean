/- The walks through the code: each call comes to its printed function. Written by a program of this session. -/
import Derived.Test.YtejkknmedebgnaaM
import Derived.Test.YtejkknmedebgnaaL
import Derived.Test.YtejkknmedebgnaaW4
namespace Go.Proofs.Ytejkknmedebgnaa
open Go K
set_option linter.unusedVariables false
/-- lb/lbref20.Faces -/
theorem ctr10 (F : Nat → Prop) (w : World) (a0 : Service) (az0_0 az0_1 az0_2 az0_3 az0_4 : Value) (ah0_0 : slRep k_Addr F w a0.cluster az0_0) (ah0_1 : slRep k_Addr F w a0.external az0_1) (ah0_2 : slRep k_Addr F w a0.balancers az0_2) (ah0_3 : slRep k_Cidr F w a0.ranges az0_3) (ah0_4 : slRep k_Port F w a0.ports az0_4) (a1 : Node) (az1_0 : Value) (ah1_0 : slRep k_Addr F w a1.addrs az1_0) (r : (List Face)) (hs : F10_linkboyref20_Faces a0 a1 = some r) :
    Ret Try.prog 10 #[(Value.agg (Service.c a0 az0_0 az0_1 az0_2 az0_3 az0_4).toArray), (Value.agg (Node.c a1 az1_0).toArray)] w fun v w' => ∃ (y0 : Value), v = y0 ∧ SlO k_Face 62 F w.heap.size (inBlk y0) w' r y0 ∧ Ch nb w w' := by
  have hS := hs
  have c0 : Ch nb w w := Ch.refl
  have ah0_0 := slRep.enter k_Addr_pos ah0_0
  have ah0_1 := slRep.enter k_Addr_pos ah0_1
  have ah0_2 := slRep.enter k_Addr_pos ah0_2
  have ah0_3 := slRep.enter k_Cidr_pos ah0_3
  have ah0_4 := slRep.enter k_Port_pos ah0_4
  have ah1_0 := slRep.enter k_Addr_pos ah1_0
  refine Ret.of (n := 167) (args := [_, _]) (rs := [.tmp 4]) Try.func10 rfl rfl rfl rfl ?_
  refine CW.seq (CW.region ?_)
  refine rl_boxA (cs := (Service.c a0 az0_0 az0_1 az0_2 az0_3 az0_4)) rfl rfl ?_
  intro p1 w2 n3 k4
  have gp1 : (G F w.heap.size nb) p1 := ⟨.inr (by rw [n3.eq]; exact c0.size), fun h => absurd (nbS _ h) (by rw [n3.eq]; exact Nat.lt_irrefl _)⟩
  have ah0_0 := slRep.ch k_Addr_pos ah0_0 n3.ch
  have ah0_1 := slRep.ch k_Addr_pos ah0_1 n3.ch
  have ah0_2 := slRep.ch k_Addr_pos ah0_2 n3.ch
  have ah0_3 := slRep.ch k_Cidr_pos ah0_3 n3.ch
  have ah0_4 := slRep.ch k_Port_pos ah0_4 n3.ch
  have ah1_0 := slRep.ch k_Addr_pos ah1_0 n3.ch
  have c0 := c0.then0 n3.ch
  refine rl_boxA (cs := (Node.c a1 az1_0)) rfl rfl ?_
  intro p5 w6 n7 k8
  have gp5 : (G F w.heap.size nb) p5 := ⟨.inr (by rw [n7.eq]; exact c0.size), fun h => absurd (nbS _ h) (by rw [n7.eq]; exact Nat.lt_irrefl _)⟩
  have ah0_0 := slRep.ch k_Addr_pos ah0_0 n7.ch
  have ah0_1 := slRep.ch k_Addr_pos ah0_1 n7.ch
  have ah0_2 := slRep.ch k_Addr_pos ah0_2 n7.ch
  have ah0_3 := slRep.ch k_Cidr_pos ah0_3 n7.ch
  have ah0_4 := slRep.ch k_Port_pos ah0_4 n7.ch
  have ah1_0 := slRep.ch k_Addr_pos ah1_0 n7.ch
  have k4 := k4.ch0 n7.ch
  have c0 := c0.then0 n7.ch
  refine rl_assign rfl rfl ?_
  refine RL.nil ?_
  refine thn_n ?_
  refine CW.seq (CW.region ?_)
  refine rl_bslice (k := k_Face) (F := F) (B := w.heap.size) (S := nb) ([] : List Face) rfl k_Face_pos Try.underlying44 Try.sizeOf62 Try.zeroValue62 rfl rfl trivial c0.size nbS rfl ?_
  intro v9 w10 c11 hf12 h13
  have ah0_0 := slRep.st k_Addr_pos ah0_0 c11 (admNew hf12 (fun _ x => x))
  have ah0_1 := slRep.st k_Addr_pos ah0_1 c11 (admNew hf12 (fun _ x => x))
  have ah0_2 := slRep.st k_Addr_pos ah0_2 c11 (admNew hf12 (fun _ x => x))
  have ah0_3 := slRep.st k_Cidr_pos ah0_3 c11 (admNew hf12 (fun _ x => x))
  have ah0_4 := slRep.st k_Port_pos ah0_4 c11 (admNew hf12 (fun _ x => x))
  have ah1_0 := slRep.st k_Addr_pos ah1_0 c11 (admNew hf12 (fun _ x => x))
  have gp1n : (G F w.heap.size (un (inBlk v9) nb)) p1 := ⟨gp1.1, ((admNew hf12 (fun _ x => x)) _ k4.lt gp1.2).2⟩
  have k4 := k4.ch0 c11
  have gp1 := gp1n
  have gp5n : (G F w.heap.size (un (inBlk v9) nb)) p5 := ⟨gp5.1, ((admNew hf12 (fun _ x => x)) _ k8.lt gp5.2).2⟩
  have k8 := k8.ch0 c11
  have gp5 := gp5n
  have c0 := c0.then0 c11
  refine rl_assign rfl rfl ?_
  refine RL.nil ?_
  refine thn_n ?_
  refine CW.seq ?_
  refine CW.seq (CW.region ?_)
  refine rl_fieldAddr rfl fa49_6 rfl ?_
  refine rl_loadS (v := az0_4) rfl Try.isAgg47 (k4.cell rfl) rfl ?_
  refine rl_lenR rfl ah0_4 Try.underlying47 rfl ?_
  refine rl_move rfl rfl ?_
  refine RL.nil ?_
  refine thn_n ?_
  obtain ⟨o24, ho25, hS⟩ := bindS hS
  refine CW.cutB (fun E' w' => ∃ (x14 : (List Face)) (v15 : Value), Sub [(5, v15)] E' ∧ Ch nb w w' ∧ x14 = o24 ∧ slRep k_Addr (G F w.heap.size (un (inBlk v15) nb)) w' a0.cluster az0_0 ∧ slRep k_Addr (G F w.heap.size (un (inBlk v15) nb)) w' a0.external az0_1 ∧ slRep k_Addr (G F w.heap.size (un (inBlk v15) nb)) w' a0.balancers az0_2 ∧ slRep k_Cidr (G F w.heap.size (un (inBlk v15) nb)) w' a0.ranges az0_3 ∧ slRep k_Port (G F w.heap.size (un (inBlk v15) nb)) w' a0.ports az0_4 ∧ slRep k_Addr (G F w.heap.size (un (inBlk v15) nb)) w' a1.addrs az1_0 ∧ Blk w' p1 49 (Service.c a0 az0_0 az0_1 az0_2 az0_3 az0_4) ∧ Blk w' p5 51 (Node.c a1 az1_0) ∧ SlO k_Face 62 F w.heap.size (un (inBlk v15) nb) w' x14 v15 ∧ (G F w.heap.size (un (inBlk v15) nb)) p1 ∧ (G F w.heap.size (un (inBlk v15) nb)) p5) ?_ ?_
  ·
   refine CW.loopS [(2, (Value.pointer (some ⟨p1, 0, none⟩))), (3, (Value.pointer (some ⟨p5, 0, none⟩))), (24, az0_4), (25, (Value.int .i64 ((a0.ports.length : Nat) : Int))), (5, v9), (26, (Value.int .i64 ((0 : Nat) : Int)))] ⟨rfl, rfl, rfl, rfl, rfl, rfl, trivial⟩ a0.ports.length (fun m E w' => ∃ (rest17 : List Port) (i18 : Nat) (x14 : (List Face)) (v15 : Value), m = rest17.length ∧ E = [(2, (Value.pointer (some ⟨p1, 0, none⟩))), (3, (Value.pointer (some ⟨p5, 0, none⟩))), (24, az0_4), (25, (Value.int .i64 ((a0.ports.length : Nat) : Int))), (5, v15), (26, (Value.int .i64 ((i18 : Nat) : Int)))] ∧ Ch nb w w' ∧ At a0.ports i18 rest17 ∧ runAO (F10_linkboyref20_Faces_b1 a0 a1) rest17 x14 = some o24 ∧ slRep k_Addr (G F w.heap.size (un (inBlk v15) nb)) w' a0.cluster az0_0 ∧ slRep k_Addr (G F w.heap.size (un (inBlk v15) nb)) w' a0.external az0_1 ∧ slRep k_Addr (G F w.heap.size (un (inBlk v15) nb)) w' a0.balancers az0_2 ∧ slRep k_Cidr (G F w.heap.size (un (inBlk v15) nb)) w' a0.ranges az0_3 ∧ slRep k_Port (G F w.heap.size (un (inBlk v15) nb)) w' a0.ports az0_4 ∧ slRep k_Addr (G F w.heap.size (un (inBlk v15) nb)) w' a1.addrs az1_0 ∧ Blk w' p1 49 (Service.c a0 az0_0 az0_1 az0_2 az0_3 az0_4) ∧ Blk w' p5 51 (Node.c a1 az1_0) ∧ SlO k_Face 62 F w.heap.size (un (inBlk v15) nb) w' x14 v15 ∧ (G F w.heap.size (un (inBlk v15) nb)) p1 ∧ (G F w.heap.size (un (inBlk v15) nb)) p5)
       ⟨a0.ports, 0, [], v9, rfl, rfl, c0, At.start, ho25, ah0_0, ah0_1, ah0_2, ah0_3, ah0_4, ah1_0, k4, k8, h13, gp1, gp5⟩ ?_
   rintro _ _ w30 ⟨rest17, i18, x14, v15, rfl, rfl, c29, hat20, hL19, ah0_0, ah0_1, ah0_2, ah0_3, ah0_4, ah1_0, k4, k8, h16, gp1, gp5⟩
   refine CW.seq (CW.region ?_)
   refine rl_bin rfl rfl B.lss rfl ?_
   refine RL.nil (thn_n ?_)
   refine CW.seq ?_
   refine CW.cond (t := decide (((i18 : Nat) : Int) < ((a0.ports.length : Nat) : Int))) rfl (fun q32 => ?_) (fun q32 => ?_)
   ·
    obtain ⟨x26, rest33, rfl⟩ := hat20.cons q32
    obtain ⟨q21, hq22⟩ := runAO_some hL19
    have hb23 := hq22
    refine CW.skip (thn_n ?_)
    refine CW.seq ?_
    refine CW.block ?_
    refine CW.seq (CW.region ?_)
    refine rl_ixR rfl ah0_4 rfl hat20.get Try.underlying47 Try.sizeOf63 rfl ?_
    intro p34 o35 cs36 hr37 hs38 hg39
    obtain rfl := hr37
    refine rl_loadA (cs := (Port.enc x26)) rfl Try.isAgg63 Try.sizeOf63 (hs38) rfl rfl ?_
    refine rl_alloc (Port.enc Port.z) Try.zeroValue63 rfl rfl ?_
    intro p40 w41 n42 k43
    have lo44 : ∀ b, inBlk (Value.pointer (some ⟨p40, 0, none⟩)) b → w.heap.size ≤ b := fun b h => Nat.le_trans c29.size (n42.fresh b h)
    have d45 : ∀ b, inBlk (Value.pointer (some ⟨p40, 0, none⟩)) b → ¬ inBlk v15 b := disNew n42.fresh (fun b hb => (h16.lt b hb).2)
    have ah0_0 := slRep.st k_Addr_pos ah0_0 n42.ch (admNew n42.fresh (fun _ x => x))
    have ah0_1 := slRep.st k_Addr_pos ah0_1 n42.ch (admNew n42.fresh (fun _ x => x))
    have ah0_2 := slRep.st k_Addr_pos ah0_2 n42.ch (admNew n42.fresh (fun _ x => x))
    have ah0_3 := slRep.st k_Cidr_pos ah0_3 n42.ch (admNew n42.fresh (fun _ x => x))
    have ah0_4 := slRep.st k_Port_pos ah0_4 n42.ch (admNew n42.fresh (fun _ x => x))
    have ah1_0 := slRep.st k_Addr_pos ah1_0 n42.ch (admNew n42.fresh (fun _ x => x))
    have gp1n : (G F w.heap.size (un (inBlk (Value.pointer (some ⟨p40, 0, none⟩))) (un (inBlk v15) nb))) p1 := ⟨gp1.1, ((admNew n42.fresh (fun _ x => x)) _ k4.lt gp1.2).2⟩
    have k4 := k4.ch0 n42.ch
    have gp1 := gp1n
    have gp5n : (G F w.heap.size (un (inBlk (Value.pointer (some ⟨p40, 0, none⟩))) (un (inBlk v15) nb))) p5 := ⟨gp5.1, ((admNew n42.fresh (fun _ x => x)) _ k8.lt gp5.2).2⟩
    have k8 := k8.ch0 n42.ch
    have gp5 := gp5n
    have h16 := h16.st n42.ch (fun _ _ x => x) (admNew n42.fresh (fun _ x => x)) (fun b h => (.inr (.inl h)))
    have c29 := c29.then0 n42.ch
    refine rl_storeA (vs := (Port.enc x26)) rfl rfl (all_one rfl) Try.sizeOf63 rfl k43 rfl ?_
    intro w46 s48 c47 k49
    have ad50 : ∀ b, b < w41.heap.size → ¬ (un (inBlk (Value.pointer (some ⟨p40, 0, none⟩))) (un (inBlk v15) nb)) b → ¬ (inBlk (Value.pointer (some ⟨p40, 0, none⟩))) b ∧ ¬ (un (inBlk (Value.pointer (some ⟨p40, 0, none⟩))) (un (inBlk v15) nb)) b := fun b _ hs => ⟨fun h => hs (.inl h), hs⟩
    have ah0_0 := slRep.st k_Addr_pos ah0_0 c47 ad50
    have ah0_1 := slRep.st k_Addr_pos ah0_1 c47 ad50
    have ah0_2 := slRep.st k_Addr_pos ah0_2 c47 ad50
    have ah0_3 := slRep.st k_Cidr_pos ah0_3 c47 ad50
    have ah0_4 := slRep.st k_Port_pos ah0_4 c47 ad50
    have ah1_0 := slRep.st k_Addr_pos ah1_0 c47 ad50
    have k4 := k4.ch c47 (ad50 _ k4.lt gp1.2).1
    have k8 := k8.ch c47 (ad50 _ k8.lt gp5.2).1
    have h16 := h16.st c47 (fun b hb h => (disSym d45) b hb h) ad50 (fun b h => (.inr (.inl h)))
    have c29 := c29.then c47 (fun i hi h => absurd (lo44 i h) (Nat.not_le_of_lt hi))
    refine RL.nil ?_
    refine thn_n ?_
    refine CW.seq ?_
    refine CW.seq (CW.region ?_)
    refine rl_fieldAddr rfl fa49_2 rfl ?_
    refine rl_loadS (v := az0_0) rfl Try.isAgg24 (k4.cell rfl) rfl ?_
    refine rl_lenR rfl ah0_0 Try.underlying24 rfl ?_
    refine rl_move rfl rfl ?_
    refine RL.nil ?_
    refine thn_n ?_
    obtain ⟨o62, ho63, hb23⟩ := bindS hb23
    refine CW.cutB (fun E' w' => ∃ (x51 : (List Face)) (v52 : Value), Sub [(2, (Value.pointer (some ⟨p1, 0, none⟩))), (3, (Value.pointer (some ⟨p5, 0, none⟩))), (7, (Value.pointer (some ⟨p40, 0, none⟩))), (24, az0_4), (25, (Value.int .i64 ((a0.ports.length : Nat) : Int))), (26, (Value.int .i64 ((i18 : Nat) : Int))), (5, v52)] E' ∧ Ch nb w w' ∧ x51 = o62 ∧ slRep k_Addr (G F w.heap.size (un (inBlk (Value.pointer (some ⟨p40, 0, none⟩))) (un (inBlk v52) nb))) w' a0.cluster az0_0 ∧ slRep k_Addr (G F w.heap.size (un (inBlk (Value.pointer (some ⟨p40, 0, none⟩))) (un (inBlk v52) nb))) w' a0.external az0_1 ∧ slRep k_Addr (G F w.heap.size (un (inBlk (Value.pointer (some ⟨p40, 0, none⟩))) (un (inBlk v52) nb))) w' a0.balancers az0_2 ∧ slRep k_Cidr (G F w.heap.size (un (inBlk (Value.pointer (some ⟨p40, 0, none⟩))) (un (inBlk v52) nb))) w' a0.ranges az0_3 ∧ slRep k_Port (G F w.heap.size (un (inBlk (Value.pointer (some ⟨p40, 0, none⟩))) (un (inBlk v52) nb))) w' a0.ports az0_4 ∧ slRep k_Addr (G F w.heap.size (un (inBlk (Value.pointer (some ⟨p40, 0, none⟩))) (un (inBlk v52) nb))) w' a1.addrs az1_0 ∧ Blk w' p1 49 (Service.c a0 az0_0 az0_1 az0_2 az0_3 az0_4) ∧ Blk w' p5 51 (Node.c a1 az1_0) ∧ Blk w' p40 63 (Port.enc x26) ∧ SlO k_Face 62 F w.heap.size (un (inBlk (Value.pointer (some ⟨p40, 0, none⟩))) (un (inBlk v52) nb)) w' x51 v52 ∧ (G F w.heap.size (un (inBlk (Value.pointer (some ⟨p40, 0, none⟩))) (un (inBlk v52) nb))) p1 ∧ (G F w.heap.size (un (inBlk (Value.pointer (some ⟨p40, 0, none⟩))) (un (inBlk v52) nb))) p5 ∧ (∀ b, inBlk (Value.pointer (some ⟨p40, 0, none⟩)) b → ¬ inBlk v52 b)) ?_ ?_
    ·
     refine CW.loopS [(2, (Value.pointer (some ⟨p1, 0, none⟩))), (3, (Value.pointer (some ⟨p5, 0, none⟩))), (7, (Value.pointer (some ⟨p40, 0, none⟩))), (24, az0_4), (25, (Value.int .i64 ((a0.ports.length : Nat) : Int))), (26, (Value.int .i64 ((i18 : Nat) : Int))), (31, az0_0), (32, (Value.int .i64 ((a0.cluster.length : Nat) : Int))), (5, v15), (33, (Value.int .i64 ((0 : Nat) : Int)))] ⟨rfl, rfl, rfl, rfl, rfl, rfl, rfl, rfl, rfl, rfl, trivial⟩ a0.cluster.length (fun m E w' => ∃ (rest55 : List Addr) (i56 : Nat) (x51 : (List Face)) (v52 : Value), m = rest55.length ∧ E = [(2, (Value.pointer (some ⟨p1, 0, none⟩))), (3, (Value.pointer (some ⟨p5, 0, none⟩))), (7, (Value.pointer (some ⟨p40, 0, none⟩))), (24, az0_4), (25, (Value.int .i64 ((a0.ports.length : Nat) : Int))), (26, (Value.int .i64 ((i18 : Nat) : Int))), (31, az0_0), (32, (Value.int .i64 ((a0.cluster.length : Nat) : Int))), (5, v52), (33, (Value.int .i64 ((i56 : Nat) : Int)))] ∧ Ch nb w w' ∧ At a0.cluster i56 rest55 ∧ runAO (F10_linkboyref20_Faces_b2 a0 x26) rest55 x51 = some o62 ∧ slRep k_Addr (G F w.heap.size (un (inBlk (Value.pointer (some ⟨p40, 0, none⟩))) (un (inBlk v52) nb))) w' a0.cluster az0_0 ∧ slRep k_Addr (G F w.heap.size (un (inBlk (Value.pointer (some ⟨p40, 0, none⟩))) (un (inBlk v52) nb))) w' a0.external az0_1 ∧ slRep k_Addr (G F w.heap.size (un (inBlk (Value.pointer (some ⟨p40, 0, none⟩))) (un (inBlk v52) nb))) w' a0.balancers az0_2 ∧ slRep k_Cidr (G F w.heap.size (un (inBlk (Value.pointer (some ⟨p40, 0, none⟩))) (un (inBlk v52) nb))) w' a0.ranges az0_3 ∧ slRep k_Port (G F w.heap.size (un (inBlk (Value.pointer (some ⟨p40, 0, none⟩))) (un (inBlk v52) nb))) w' a0.ports az0_4 ∧ slRep k_Addr (G F w.heap.size (un (inBlk (Value.pointer (some ⟨p40, 0, none⟩))) (un (inBlk v52) nb))) w' a1.addrs az1_0 ∧ Blk w' p1 49 (Service.c a0 az0_0 az0_1 az0_2 az0_3 az0_4) ∧ Blk w' p5 51 (Node.c a1 az1_0) ∧ Blk w' p40 63 (Port.enc x26) ∧ SlO k_Face 62 F w.heap.size (un (inBlk (Value.pointer (some ⟨p40, 0, none⟩))) (un (inBlk v52) nb)) w' x51 v52 ∧ (G F w.heap.size (un (inBlk (Value.pointer (some ⟨p40, 0, none⟩))) (un (inBlk v52) nb))) p1 ∧ (G F w.heap.size (un (inBlk (Value.pointer (some ⟨p40, 0, none⟩))) (un (inBlk v52) nb))) p5 ∧ (∀ b, inBlk (Value.pointer (some ⟨p40, 0, none⟩)) b → ¬ inBlk v52 b))
         ⟨a0.cluster, 0, x14, v15, rfl, rfl, c29, At.start, ho63, ah0_0, ah0_1, ah0_2, ah0_3, ah0_4, ah1_0, k4, k8, k49, h16, gp1, gp5, d45⟩ ?_
     rintro _ _ w68 ⟨rest55, i56, x51, v52, rfl, rfl, c67, hat58, hL57, ah0_0, ah0_1, ah0_2, ah0_3, ah0_4, ah1_0, k4, k8, k49, h53, gp1, gp5, d54⟩
     refine CW.seq (CW.region ?_)
     refine rl_bin rfl rfl B.lss rfl ?_
     refine RL.nil (thn_n ?_)
     refine CW.seq ?_
     refine CW.cond (t := decide (((i56 : Nat) : Int) < ((a0.cluster.length : Nat) : Int))) rfl (fun q70 => ?_) (fun q70 => ?_)
     ·
      obtain ⟨x64, rest71, rfl⟩ := hat58.cons q70
      obtain ⟨q59, hq60⟩ := runAO_some hL57
      have hb61 := hq60
      refine CW.skip (thn_n ?_)
      refine CW.seq ?_
      refine CW.block ?_
      refine CW.seq (CW.region ?_)
      refine rl_ixR rfl ah0_0 rfl hat58.get Try.underlying24 Try.sizeOf38 rfl ?_
      intro p72 o73 cs74 hr75 hs76 hg77
      obtain rfl := hr75
      refine rl_loadA (cs := (Addr.enc x64)) rfl Try.isAgg38 Try.sizeOf38 (hs76) rfl rfl ?_
      refine rl_alloc (Addr.enc Addr.z) Try.zeroValue38 rfl rfl ?_
      intro p78 w79 n80 k81
      have lo82 : ∀ b, inBlk (Value.pointer (some ⟨p78, 0, none⟩)) b → w.heap.size ≤ b := fun b h => Nat.le_trans c67.size (n80.fresh b h)
      have d83 : ∀ b, inBlk (Value.pointer (some ⟨p78, 0, none⟩)) b → ¬ inBlk (Value.pointer (some ⟨p40, 0, none⟩)) b := disNew n80.fresh k49.ltp
      have d84 : ∀ b, inBlk (Value.pointer (some ⟨p78, 0, none⟩)) b → ¬ inBlk v52 b := disNew n80.fresh (fun b hb => (h53.lt b hb).2)
      have ah0_0 := slRep.st k_Addr_pos ah0_0 n80.ch (admNew n80.fresh (fun _ x => x))
      have ah0_1 := slRep.st k_Addr_pos ah0_1 n80.ch (admNew n80.fresh (fun _ x => x))
      have ah0_2 := slRep.st k_Addr_pos ah0_2 n80.ch (admNew n80.fresh (fun _ x => x))
      have ah0_3 := slRep.st k_Cidr_pos ah0_3 n80.ch (admNew n80.fresh (fun _ x => x))
      have ah0_4 := slRep.st k_Port_pos ah0_4 n80.ch (admNew n80.fresh (fun _ x => x))
      have ah1_0 := slRep.st k_Addr_pos ah1_0 n80.ch (admNew n80.fresh (fun _ x => x))
      have gp1n : (G F w.heap.size (un (inBlk (Value.pointer (some ⟨p78, 0, none⟩))) (un (inBlk (Value.pointer (some ⟨p40, 0, none⟩))) (un (inBlk v52) nb)))) p1 := ⟨gp1.1, ((admNew n80.fresh (fun _ x => x)) _ k4.lt gp1.2).2⟩
      have k4 := k4.ch0 n80.ch
      have gp1 := gp1n
      have gp5n : (G F w.heap.size (un (inBlk (Value.pointer (some ⟨p78, 0, none⟩))) (un (inBlk (Value.pointer (some ⟨p40, 0, none⟩))) (un (inBlk v52) nb)))) p5 := ⟨gp5.1, ((admNew n80.fresh (fun _ x => x)) _ k8.lt gp5.2).2⟩
      have k8 := k8.ch0 n80.ch
      have gp5 := gp5n
      have k49 := k49.ch0 n80.ch
      have h53 := h53.st n80.ch (fun _ _ x => x) (admNew n80.fresh (fun _ x => x)) (fun b h => (.inr (.inr (.inl h))))
      have c67 := c67.then0 n80.ch
      refine rl_storeA (vs := (Addr.enc x64)) rfl rfl (all_one rfl) Try.sizeOf38 rfl k81 rfl ?_
      intro w85 s87 c86 k88
      have ad89 : ∀ b, b < w79.heap.size → ¬ (un (inBlk (Value.pointer (some ⟨p78, 0, none⟩))) (un (inBlk (Value.pointer (some ⟨p40, 0, none⟩))) (un (inBlk v52) nb))) b → ¬ (inBlk (Value.pointer (some ⟨p78, 0, none⟩))) b ∧ ¬ (un (inBlk (Value.pointer (some ⟨p78, 0, none⟩))) (un (inBlk (Value.pointer (some ⟨p40, 0, none⟩))) (un (inBlk v52) nb))) b := fun b _ hs => ⟨fun h => hs (.inl h), hs⟩
      have ah0_0 := slRep.st k_Addr_pos ah0_0 c86 ad89
      have ah0_1 := slRep.st k_Addr_pos ah0_1 c86 ad89
      have ah0_2 := slRep.st k_Addr_pos ah0_2 c86 ad89
      have ah0_3 := slRep.st k_Cidr_pos ah0_3 c86 ad89
      have ah0_4 := slRep.st k_Port_pos ah0_4 c86 ad89
      have ah1_0 := slRep.st k_Addr_pos ah1_0 c86 ad89
      have k4 := k4.ch c86 (ad89 _ k4.lt gp1.2).1
      have k8 := k8.ch c86 (ad89 _ k8.lt gp5.2).1
      have k49 := k49.ch c86 ((fun b hb h => (disSym d83) b hb h) _ rfl)
      have h53 := h53.st c86 (fun b hb h => (disSym d84) b hb h) ad89 (fun b h => (.inr (.inr (.inl h))))
      have c67 := c67.then c86 (fun i hi h => absurd (lo82 i h) (Nat.not_le_of_lt hi))
      refine RL.nil ?_
      refine thn_n ?_
      refine CW.region ?_
      refine rl_move rfl rfl ?_
      refine rl_fieldAddr rfl fa63_1 rfl ?_
      refine rl_loadS (v := (Value.int .i64 x26.proto)) rfl Try.isAgg3 (k49.cell rfl) rfl ?_
      refine rl_loadA (cs := (Addr.enc x64)) rfl Try.isAgg38 Try.sizeOf38 (k88.segAt 0 17) rfl rfl ?_
      refine rl_fieldAddr rfl fa63_2 rfl ?_
      refine rl_loadS (v := (Value.int .i64 x26.port)) rfl Try.isAgg3 (k49.cell rfl) rfl ?_
      refine rl_build (out := (Point.enc ({ addr := x64, port := x26.port } : Point))) rfl pl40 Try.zeroValue40 rfl rfl rfl ?_
      refine rl_fieldAddr rfl fa63_0 rfl ?_
      refine rl_loadS (v := (Value.string x26.name)) rfl Try.isAgg9 (k49.cell rfl) rfl ?_
      refine rl_fieldAddr rfl fa49_7 rfl ?_
      refine rl_loadS (v := (Value.bool a0.internalLocal)) rfl Try.isAgg4 (k4.cell rfl) rfl ?_
      refine rl_build (out := (Face.enc ({ proto := x26.proto, point := ({ addr := x64, port := x26.port } : Point), name := x26.name, how := 0, localF := a0.internalLocal, asked := false } : Face))) rfl pl62 Try.zeroValue62 rfl rfl rfl ?_
      refine rl_bslice (k := k_Face) (F := F) (B := w.heap.size) (S := (un (inBlk (Value.pointer (some ⟨p78, 0, none⟩))) (un (inBlk (Value.pointer (some ⟨p40, 0, none⟩))) (un (inBlk v52) nb)))) ([({ proto := x26.proto, point := ({ addr := x64, port := x26.port } : Point), name := x26.name, how := 0, localF := a0.internalLocal, asked := false } : Face)] : List Face) rfl k_Face_pos Try.underlying44 Try.sizeOf62 Try.zeroValue62 rfl rfl ⟨rfl, rfl, trivial⟩ c67.size (un_lt k88.ltp (un_lt k49.ltp (un_lt (fun b hb => (h53.lt b hb).2) nbS))) rfl ?_
      intro v90 w91 c92 hf93 h94
      have h94 := h94.readNew k_Face_pos hf93 (un_lt k88.ltp (un_lt k49.ltp (un_lt (fun b hb => (h53.lt b hb).2) nbS)))
      have ah0_0 := slRep.ch k_Addr_pos ah0_0 c92
      have ah0_1 := slRep.ch k_Addr_pos ah0_1 c92
      have ah0_2 := slRep.ch k_Addr_pos ah0_2 c92
      have ah0_3 := slRep.ch k_Cidr_pos ah0_3 c92
      have ah0_4 := slRep.ch k_Port_pos ah0_4 c92
      have ah1_0 := slRep.ch k_Addr_pos ah1_0 c92
      have k4 := k4.ch0 c92
      have k8 := k8.ch0 c92
      have k49 := k49.ch0 c92
      have h53 := h53.ch0 c92
      have k88 := k88.ch0 c92
      have c67 := c67.then0 c92
      obtain ⟨z103, hz104, hb61⟩ := bindS hb61
      have hl := (apO_get hz104).1
      refine rl_append (k := k_Face) (T := 62) (F := F) (B := w.heap.size) (S := (un (inBlk (Value.pointer (some ⟨p78, 0, none⟩))) (un (inBlk (Value.pointer (some ⟨p40, 0, none⟩))) (un (inBlk v52) nb)))) (S2 := (un (inBlk (Value.pointer (some ⟨p78, 0, none⟩))) (un (inBlk (Value.pointer (some ⟨p40, 0, none⟩))) nb))) (fun v => (un (inBlk (Value.pointer (some ⟨p78, 0, none⟩))) (un (inBlk (Value.pointer (some ⟨p40, 0, none⟩))) (un (inBlk v) nb)))) rfl rfl k_Face_pos ap44 h53 h94 (fun _ => un_swap3) (fun _ _ => un_swap3) hl c67.size (un_lt k88.ltp (un_lt k49.ltp (un_lt (fun b hb => (h53.lt b hb).2) nbS))) rfl ?_
      intro v97 w98 h99 c100 hf101 ha102
      have d105 : ∀ b, inBlk v97 b → ¬ inBlk (Value.pointer (some ⟨p78, 0, none⟩)) b := disApp hf101 (disSym d84) k88.ltp
      have d106 : ∀ b, inBlk v97 b → ¬ inBlk (Value.pointer (some ⟨p40, 0, none⟩)) b := disApp hf101 (disSym d54) k49.ltp
      have ah0_0 := slRep.st k_Addr_pos ah0_0 c100 ha102
      have ah0_1 := slRep.st k_Addr_pos ah0_1 c100 ha102
      have ah0_2 := slRep.st k_Addr_pos ah0_2 c100 ha102
      have ah0_3 := slRep.st k_Cidr_pos ah0_3 c100 ha102
      have ah0_4 := slRep.st k_Port_pos ah0_4 c100 ha102
      have ah1_0 := slRep.st k_Addr_pos ah1_0 c100 ha102
      have gp1n : (G F w.heap.size (un (inBlk (Value.pointer (some ⟨p78, 0, none⟩))) (un (inBlk (Value.pointer (some ⟨p40, 0, none⟩))) (un (inBlk v97) nb)))) p1 := ⟨gp1.1, (ha102 _ k4.lt gp1.2).2⟩
      have k4 := k4.ch c100 (ha102 _ k4.lt gp1.2).1
      have gp1 := gp1n
      have gp5n : (G F w.heap.size (un (inBlk (Value.pointer (some ⟨p78, 0, none⟩))) (un (inBlk (Value.pointer (some ⟨p40, 0, none⟩))) (un (inBlk v97) nb)))) p5 := ⟨gp5.1, (ha102 _ k8.lt gp5.2).2⟩
      have k8 := k8.ch c100 (ha102 _ k8.lt gp5.2).1
      have gp5 := gp5n
      have k49 := k49.ch c100 ((fun b hb h => d54 b hb h) _ rfl)
      have k88 := k88.ch c100 ((fun b hb h => d84 b hb h) _ rfl)
      have h94 := slRep.st k_Face_pos h94 c100 ha102
      have c67 := c67.then c100 (fun i hi h => absurd ((fun b hb => (h53.lt b hb).1) i h) (Nat.not_le_of_lt hi))
      refine rl_assign rfl rfl ?_
      refine RL.nil ?_
      refine inB_n ?_
      refine thn_n ?_
      refine CW.region ?_
      refine rl_inc rfl hat58.lt ah0_0.big rfl ?_
      refine rl_move rfl rfl ?_
      refine RL.nil ?_
      refine thn_n ?_
      have crf : Ch nb w98 w98 := Ch.refl
      have ah0_0 := slRep.st k_Addr_pos ah0_0 crf (show ∀ b, b < w98.heap.size → ¬ (un (inBlk (Value.pointer (some ⟨p78, 0, none⟩))) (un (inBlk (Value.pointer (some ⟨p40, 0, none⟩))) (un (inBlk v97) nb))) b → ¬ nb b ∧ ¬ (un (inBlk (Value.pointer (some ⟨p40, 0, none⟩))) (un (inBlk v97) nb)) b from fun b _ hs => ⟨fun x => x, fun h => hs (un_el h (fun h => (.inr (.inl h))) (fun h => un_el h (fun h => (.inr (.inr (.inl h)))) (fun h => False.elim h)))⟩)
      have ah0_1 := slRep.st k_Addr_pos ah0_1 crf (show ∀ b, b < w98.heap.size → ¬ (un (inBlk (Value.pointer (some ⟨p78, 0, none⟩))) (un (inBlk (Value.pointer (some ⟨p40, 0, none⟩))) (un (inBlk v97) nb))) b → ¬ nb b ∧ ¬ (un (inBlk (Value.pointer (some ⟨p40, 0, none⟩))) (un (inBlk v97) nb)) b from fun b _ hs => ⟨fun x => x, fun h => hs (un_el h (fun h => (.inr (.inl h))) (fun h => un_el h (fun h => (.inr (.inr (.inl h)))) (fun h => False.elim h)))⟩)
      have ah0_2 := slRep.st k_Addr_pos ah0_2 crf (show ∀ b, b < w98.heap.size → ¬ (un (inBlk (Value.pointer (some ⟨p78, 0, none⟩))) (un (inBlk (Value.pointer (some ⟨p40, 0, none⟩))) (un (inBlk v97) nb))) b → ¬ nb b ∧ ¬ (un (inBlk (Value.pointer (some ⟨p40, 0, none⟩))) (un (inBlk v97) nb)) b from fun b _ hs => ⟨fun x => x, fun h => hs (un_el h (fun h => (.inr (.inl h))) (fun h => un_el h (fun h => (.inr (.inr (.inl h)))) (fun h => False.elim h)))⟩)
      have ah0_3 := slRep.st k_Cidr_pos ah0_3 crf (show ∀ b, b < w98.heap.size → ¬ (un (inBlk (Value.pointer (some ⟨p78, 0, none⟩))) (un (inBlk (Value.pointer (some ⟨p40, 0, none⟩))) (un (inBlk v97) nb))) b → ¬ nb b ∧ ¬ (un (inBlk (Value.pointer (some ⟨p40, 0, none⟩))) (un (inBlk v97) nb)) b from fun b _ hs => ⟨fun x => x, fun h => hs (un_el h (fun h => (.inr (.inl h))) (fun h => un_el h (fun h => (.inr (.inr (.inl h)))) (fun h => False.elim h)))⟩)
      have ah0_4 := slRep.st k_Port_pos ah0_4 crf (show ∀ b, b < w98.heap.size → ¬ (un (inBlk (Value.pointer (some ⟨p78, 0, none⟩))) (un (inBlk (Value.pointer (some ⟨p40, 0, none⟩))) (un (inBlk v97) nb))) b → ¬ nb b ∧ ¬ (un (inBlk (Value.pointer (some ⟨p40, 0, none⟩))) (un (inBlk v97) nb)) b from fun b _ hs => ⟨fun x => x, fun h => hs (un_el h (fun h => (.inr (.inl h))) (fun h => un_el h (fun h => (.inr (.inr (.inl h)))) (fun h => False.elim h)))⟩)
      have ah1_0 := slRep.st k_Addr_pos ah1_0 crf (show ∀ b, b < w98.heap.size → ¬ (un (inBlk (Value.pointer (some ⟨p78, 0, none⟩))) (un (inBlk (Value.pointer (some ⟨p40, 0, none⟩))) (un (inBlk v97) nb))) b → ¬ nb b ∧ ¬ (un (inBlk (Value.pointer (some ⟨p40, 0, none⟩))) (un (inBlk v97) nb)) b from fun b _ hs => ⟨fun x => x, fun h => hs (un_el h (fun h => (.inr (.inl h))) (fun h => un_el h (fun h => (.inr (.inr (.inl h)))) (fun h => False.elim h)))⟩)
      have gp1n : (G F w.heap.size (un (inBlk (Value.pointer (some ⟨p40, 0, none⟩))) (un (inBlk v97) nb))) p1 := ⟨gp1.1, ((show ∀ b, b < w98.heap.size → ¬ (un (inBlk (Value.pointer (some ⟨p78, 0, none⟩))) (un (inBlk (Value.pointer (some ⟨p40, 0, none⟩))) (un (inBlk v97) nb))) b → ¬ nb b ∧ ¬ (un (inBlk (Value.pointer (some ⟨p40, 0, none⟩))) (un (inBlk v97) nb)) b from fun b _ hs => ⟨fun x => x, fun h => hs (un_el h (fun h => (.inr (.inl h))) (fun h => un_el h (fun h => (.inr (.inr (.inl h)))) (fun h => False.elim h)))⟩) _ k4.lt gp1.2).2⟩
      have k4 := k4.ch0 crf
      have gp1 := gp1n
      have gp5n : (G F w.heap.size (un (inBlk (Value.pointer (some ⟨p40, 0, none⟩))) (un (inBlk v97) nb))) p5 := ⟨gp5.1, ((show ∀ b, b < w98.heap.size → ¬ (un (inBlk (Value.pointer (some ⟨p78, 0, none⟩))) (un (inBlk (Value.pointer (some ⟨p40, 0, none⟩))) (un (inBlk v97) nb))) b → ¬ nb b ∧ ¬ (un (inBlk (Value.pointer (some ⟨p40, 0, none⟩))) (un (inBlk v97) nb)) b from fun b _ hs => ⟨fun x => x, fun h => hs (un_el h (fun h => (.inr (.inl h))) (fun h => un_el h (fun h => (.inr (.inr (.inl h)))) (fun h => False.elim h)))⟩) _ k8.lt gp5.2).2⟩
      have k8 := k8.ch0 crf
      have gp5 := gp5n
      have k49 := k49.ch0 crf
      have h94 := slRep.st k_Face_pos h94 crf (show ∀ b, b < w98.heap.size → ¬ (un (inBlk (Value.pointer (some ⟨p78, 0, none⟩))) (un (inBlk (Value.pointer (some ⟨p40, 0, none⟩))) (un (inBlk v97) nb))) b → ¬ nb b ∧ ¬ (un (inBlk (Value.pointer (some ⟨p40, 0, none⟩))) (un (inBlk v97) nb)) b from fun b _ hs => ⟨fun x => x, fun h => hs (un_el h (fun h => (.inr (.inl h))) (fun h => un_el h (fun h => (.inr (.inr (.inl h)))) (fun h => False.elim h)))⟩)
      have h99 := h99.st crf (fun _ _ x => x) (show ∀ b, b < w98.heap.size → ¬ (un (inBlk (Value.pointer (some ⟨p78, 0, none⟩))) (un (inBlk (Value.pointer (some ⟨p40, 0, none⟩))) (un (inBlk v97) nb))) b → ¬ nb b ∧ ¬ (un (inBlk (Value.pointer (some ⟨p40, 0, none⟩))) (un (inBlk v97) nb)) b from fun b _ hs => ⟨fun x => x, fun h => hs (un_el h (fun h => (.inr (.inl h))) (fun h => un_el h (fun h => (.inr (.inr (.inl h)))) (fun h => False.elim h)))⟩) (fun b h => (.inr (.inl h)))
      have c67 := c67.then0 crf
      have hLn := runAO_next hL57 hq60 hb61
      exact ⟨rest71.length, Nat.lt_succ_self _, [(2, (Value.pointer (some ⟨p1, 0, none⟩))), (3, (Value.pointer (some ⟨p5, 0, none⟩))), (7, (Value.pointer (some ⟨p40, 0, none⟩))), (24, az0_4), (25, (Value.int .i64 ((a0.ports.length : Nat) : Int))), (26, (Value.int .i64 ((i18 : Nat) : Int))), (31, az0_0), (32, (Value.int .i64 ((a0.cluster.length : Nat) : Int))), (5, v97), (33, (Value.int .i64 ((i56 + 1 : Nat) : Int)))], ⟨rfl, rfl, rfl, rfl, rfl, rfl, rfl, rfl, rfl, rfl, trivial⟩, ⟨rest71, i56 + 1, x51 ++ [({ proto := x26.proto, point := ({ addr := x64, port := x26.port } : Point), name := x26.name, how := 0, localF := a0.internalLocal, asked := false } : Face)], v97, rfl, rfl, c67, hat58.next, hLn, ah0_0, ah0_1, ah0_2, ah0_3, ah0_4, ah1_0, k4, k8, k49, h99, gp1, gp5, (disSym d106)⟩⟩
     ·
      obtain rfl := hat58.nil q70
      have hLf : x51 = o62 := runAO_done hL57
      refine CW.exit (thn_exit (thn_exit (inB_hit ?_)))
      exact ⟨x51, v52, ⟨rfl, rfl, rfl, rfl, rfl, rfl, rfl, trivial⟩, c67, hLf, ah0_0, ah0_1, ah0_2, ah0_3, ah0_4, ah1_0, k4, k8, k49, h53, gp1, gp5, d54⟩
    ·
     rintro _ w108 ⟨x51, v52, hE109, c107, f110, ah0_0, ah0_1, ah0_2, ah0_3, ah0_4, ah1_0, k4, k8, k49, h53, gp1, gp5, d54⟩
     subst f110
     refine thn_n (CW.sub [(2, (Value.pointer (some ⟨p1, 0, none⟩))), (3, (Value.pointer (some ⟨p5, 0, none⟩))), (7, (Value.pointer (some ⟨p40, 0, none⟩))), (24, az0_4), (25, (Value.int .i64 ((a0.ports.length : Nat) : Int))), (26, (Value.int .i64 ((i18 : Nat) : Int))), (5, v52)] hE109 ?_)
     refine CW.seq ?_
     refine CW.seq (CW.region ?_)
     refine rl_fieldAddr rfl fa49_3 rfl ?_
     refine rl_loadS (v := az0_1) rfl Try.isAgg24 (k4.cell rfl) rfl ?_
     refine rl_lenR rfl ah0_1 Try.underlying24 rfl ?_
     refine rl_move rfl rfl ?_
     refine RL.nil ?_
     refine thn_n ?_
     obtain ⟨o123, ho124, hb23⟩ := bindS hb23
     refine CW.cutB (fun E' w' => ∃ (x112 : (List Face)) (v113 : Value), Sub [(2, (Value.pointer (some ⟨p1, 0, none⟩))), (3, (Value.pointer (some ⟨p5, 0, none⟩))), (7, (Value.pointer (some ⟨p40, 0, none⟩))), (24, az0_4), (25, (Value.int .i64 ((a0.ports.length : Nat) : Int))), (26, (Value.int .i64 ((i18 : Nat) : Int))), (5, v113)] E' ∧ Ch nb w w' ∧ x112 = o123 ∧ slRep k_Addr (G F w.heap.size (un (inBlk (Value.pointer (some ⟨p40, 0, none⟩))) (un (inBlk v113) nb))) w' a0.cluster az0_0 ∧ slRep k_Addr (G F w.heap.size (un (inBlk (Value.pointer (some ⟨p40, 0, none⟩))) (un (inBlk v113) nb))) w' a0.external az0_1 ∧ slRep k_Addr (G F w.heap.size (un (inBlk (Value.pointer (some ⟨p40, 0, none⟩))) (un (inBlk v113) nb))) w' a0.balancers az0_2 ∧ slRep k_Cidr (G F w.heap.size (un (inBlk (Value.pointer (some ⟨p40, 0, none⟩))) (un (inBlk v113) nb))) w' a0.ranges az0_3 ∧ slRep k_Port (G F w.heap.size (un (inBlk (Value.pointer (some ⟨p40, 0, none⟩))) (un (inBlk v113) nb))) w' a0.ports az0_4 ∧ slRep k_Addr (G F w.heap.size (un (inBlk (Value.pointer (some ⟨p40, 0, none⟩))) (un (inBlk v113) nb))) w' a1.addrs az1_0 ∧ Blk w' p1 49 (Service.c a0 az0_0 az0_1 az0_2 az0_3 az0_4) ∧ Blk w' p5 51 (Node.c a1 az1_0) ∧ Blk w' p40 63 (Port.enc x26) ∧ SlO k_Face 62 F w.heap.size (un (inBlk (Value.pointer (some ⟨p40, 0, none⟩))) (un (inBlk v113) nb)) w' x112 v113 ∧ (G F w.heap.size (un (inBlk (Value.pointer (some ⟨p40, 0, none⟩))) (un (inBlk v113) nb))) p1 ∧ (G F w.heap.size (un (inBlk (Value.pointer (some ⟨p40, 0, none⟩))) (un (inBlk v113) nb))) p5 ∧ (∀ b, inBlk (Value.pointer (some ⟨p40, 0, none⟩)) b → ¬ inBlk v113 b)) ?_ ?_
     ·
      refine CW.loopS [(2, (Value.pointer (some ⟨p1, 0, none⟩))), (3, (Value.pointer (some ⟨p5, 0, none⟩))), (7, (Value.pointer (some ⟨p40, 0, none⟩))), (24, az0_4), (25, (Value.int .i64 ((a0.ports.length : Nat) : Int))), (26, (Value.int .i64 ((i18 : Nat) : Int))), (53, az0_1), (54, (Value.int .i64 ((a0.external.length : Nat) : Int))), (5, v52), (55, (Value.int .i64 ((0 : Nat) : Int)))] ⟨rfl, rfl, rfl, rfl, rfl, rfl, rfl, rfl, rfl, rfl, trivial⟩ a0.external.length (fun m E w' => ∃ (rest116 : List Addr) (i117 : Nat) (x112 : (List Face)) (v113 : Value), m = rest116.length ∧ E = [(2, (Value.pointer (some ⟨p1, 0, none⟩))), (3, (Value.pointer (some ⟨p5, 0, none⟩))), (7, (Value.pointer (some ⟨p40, 0, none⟩))), (24, az0_4), (25, (Value.int .i64 ((a0.ports.length : Nat) : Int))), (26, (Value.int .i64 ((i18 : Nat) : Int))), (53, az0_1), (54, (Value.int .i64 ((a0.external.length : Nat) : Int))), (5, v113), (55, (Value.int .i64 ((i117 : Nat) : Int)))] ∧ Ch nb w w' ∧ At a0.external i117 rest116 ∧ runAO (F10_linkboyref20_Faces_b3 a0 x26) rest116 x112 = some o123 ∧ slRep k_Addr (G F w.heap.size (un (inBlk (Value.pointer (some ⟨p40, 0, none⟩))) (un (inBlk v113) nb))) w' a0.cluster az0_0 ∧ slRep k_Addr (G F w.heap.size (un (inBlk (Value.pointer (some ⟨p40, 0, none⟩))) (un (inBlk v113) nb))) w' a0.external az0_1 ∧ slRep k_Addr (G F w.heap.size (un (inBlk (Value.pointer (some ⟨p40, 0, none⟩))) (un (inBlk v113) nb))) w' a0.balancers az0_2 ∧ slRep k_Cidr (G F w.heap.size (un (inBlk (Value.pointer (some ⟨p40, 0, none⟩))) (un (inBlk v113) nb))) w' a0.ranges az0_3 ∧ slRep k_Port (G F w.heap.size (un (inBlk (Value.pointer (some ⟨p40, 0, none⟩))) (un (inBlk v113) nb))) w' a0.ports az0_4 ∧ slRep k_Addr (G F w.heap.size (un (inBlk (Value.pointer (some ⟨p40, 0, none⟩))) (un (inBlk v113) nb))) w' a1.addrs az1_0 ∧ Blk w' p1 49 (Service.c a0 az0_0 az0_1 az0_2 az0_3 az0_4) ∧ Blk w' p5 51 (Node.c a1 az1_0) ∧ Blk w' p40 63 (Port.enc x26) ∧ SlO k_Face 62 F w.heap.size (un (inBlk (Value.pointer (some ⟨p40, 0, none⟩))) (un (inBlk v113) nb)) w' x112 v113 ∧ (G F w.heap.size (un (inBlk (Value.pointer (some ⟨p40, 0, none⟩))) (un (inBlk v113) nb))) p1 ∧ (G F w.heap.size (un (inBlk (Value.pointer (some ⟨p40, 0, none⟩))) (un (inBlk v113) nb))) p5 ∧ (∀ b, inBlk (Value.pointer (some ⟨p40, 0, none⟩)) b → ¬ inBlk v113 b))
          ⟨a0.external, 0, x51, v52, rfl, rfl, c107, At.start, ho124, ah0_0, ah0_1, ah0_2, ah0_3, ah0_4, ah1_0, k4, k8, k49, h53, gp1, gp5, d54⟩ ?_
      rintro _ _ w129 ⟨rest116, i117, x112, v113, rfl, rfl, c128, hat119, hL118, ah0_0, ah0_1, ah0_2, ah0_3, ah0_4, ah1_0, k4, k8, k49, h114, gp1, gp5, d115⟩
      refine CW.seq (CW.region ?_)
      refine rl_bin rfl rfl B.lss rfl ?_
      refine RL.nil (thn_n ?_)
      refine CW.seq ?_
      refine CW.cond (t := decide (((i117 : Nat) : Int) < ((a0.external.length : Nat) : Int))) rfl (fun q131 => ?_) (fun q131 => ?_)
      ·
       obtain ⟨x125, rest132, rfl⟩ := hat119.cons q131
       obtain ⟨q120, hq121⟩ := runAO_some hL118
       have hb122 := hq121
       refine CW.skip (thn_n ?_)
       refine CW.seq ?_
       refine CW.block ?_
       refine CW.seq (CW.region ?_)
       refine rl_ixR rfl ah0_1 rfl hat119.get Try.underlying24 Try.sizeOf38 rfl ?_
       intro p133 o134 cs135 hr136 hs137 hg138
       obtain rfl := hr136
       refine rl_loadA (cs := (Addr.enc x125)) rfl Try.isAgg38 Try.sizeOf38 (hs137) rfl rfl ?_
       refine rl_alloc (Addr.enc Addr.z) Try.zeroValue38 rfl rfl ?_
       intro p139 w140 n141 k142
       have lo143 : ∀ b, inBlk (Value.pointer (some ⟨p139, 0, none⟩)) b → w.heap.size ≤ b := fun b h => Nat.le_trans c128.size (n141.fresh b h)
       have d144 : ∀ b, inBlk (Value.pointer (some ⟨p139, 0, none⟩)) b → ¬ inBlk (Value.pointer (some ⟨p40, 0, none⟩)) b := disNew n141.fresh k49.ltp
       have d145 : ∀ b, inBlk (Value.pointer (some ⟨p139, 0, none⟩)) b → ¬ inBlk v113 b := disNew n141.fresh (fun b hb => (h114.lt b hb).2)
       have ah0_0 := slRep.st k_Addr_pos ah0_0 n141.ch (admNew n141.fresh (fun _ x => x))
       have ah0_1 := slRep.st k_Addr_pos ah0_1 n141.ch (admNew n141.fresh (fun _ x => x))
       have ah0_2 := slRep.st k_Addr_pos ah0_2 n141.ch (admNew n141.fresh (fun _ x => x))
       have ah0_3 := slRep.st k_Cidr_pos ah0_3 n141.ch (admNew n141.fresh (fun _ x => x))
       have ah0_4 := slRep.st k_Port_pos ah0_4 n141.ch (admNew n141.fresh (fun _ x => x))
       have ah1_0 := slRep.st k_Addr_pos ah1_0 n141.ch (admNew n141.fresh (fun _ x => x))
       have gp1n : (G F w.heap.size (un (inBlk (Value.pointer (some ⟨p139, 0, none⟩))) (un (inBlk (Value.pointer (some ⟨p40, 0, none⟩))) (un (inBlk v113) nb)))) p1 := ⟨gp1.1, ((admNew n141.fresh (fun _ x => x)) _ k4.lt gp1.2).2⟩
       have k4 := k4.ch0 n141.ch
       have gp1 := gp1n
       have gp5n : (G F w.heap.size (un (inBlk (Value.pointer (some ⟨p139, 0, none⟩))) (un (inBlk (Value.pointer (some ⟨p40, 0, none⟩))) (un (inBlk v113) nb)))) p5 := ⟨gp5.1, ((admNew n141.fresh (fun _ x => x)) _ k8.lt gp5.2).2⟩
       have k8 := k8.ch0 n141.ch
       have gp5 := gp5n
       have k49 := k49.ch0 n141.ch
       have h114 := h114.st n141.ch (fun _ _ x => x) (admNew n141.fresh (fun _ x => x)) (fun b h => (.inr (.inr (.inl h))))
       have c128 := c128.then0 n141.ch
       refine rl_storeA (vs := (Addr.enc x125)) rfl rfl (all_one rfl) Try.sizeOf38 rfl k142 rfl ?_
       intro w146 s148 c147 k149
       have ad150 : ∀ b, b < w140.heap.size → ¬ (un (inBlk (Value.pointer (some ⟨p139, 0, none⟩))) (un (inBlk (Value.pointer (some ⟨p40, 0, none⟩))) (un (inBlk v113) nb))) b → ¬ (inBlk (Value.pointer (some ⟨p139, 0, none⟩))) b ∧ ¬ (un (inBlk (Value.pointer (some ⟨p139, 0, none⟩))) (un (inBlk (Value.pointer (some ⟨p40, 0, none⟩))) (un (inBlk v113) nb))) b := fun b _ hs => ⟨fun h => hs (.inl h), hs⟩
       have ah0_0 := slRep.st k_Addr_pos ah0_0 c147 ad150
       have ah0_1 := slRep.st k_Addr_pos ah0_1 c147 ad150
       have ah0_2 := slRep.st k_Addr_pos ah0_2 c147 ad150
       have ah0_3 := slRep.st k_Cidr_pos ah0_3 c147 ad150
       have ah0_4 := slRep.st k_Port_pos ah0_4 c147 ad150
       have ah1_0 := slRep.st k_Addr_pos ah1_0 c147 ad150
       have k4 := k4.ch c147 (ad150 _ k4.lt gp1.2).1
       have k8 := k8.ch c147 (ad150 _ k8.lt gp5.2).1
       have k49 := k49.ch c147 ((fun b hb h => (disSym d144) b hb h) _ rfl)
       have h114 := h114.st c147 (fun b hb h => (disSym d145) b hb h) ad150 (fun b h => (.inr (.inr (.inl h))))
       have c128 := c128.then c147 (fun i hi h => absurd (lo143 i h) (Nat.not_le_of_lt hi))
       refine RL.nil ?_
       refine thn_n ?_
       refine CW.region ?_
       refine rl_move rfl rfl ?_
       refine rl_fieldAddr rfl fa63_1 rfl ?_
       refine rl_loadS (v := (Value.int .i64 x26.proto)) rfl Try.isAgg3 (k49.cell rfl) rfl ?_
       refine rl_loadA (cs := (Addr.enc x125)) rfl Try.isAgg38 Try.sizeOf38 (k149.segAt 0 17) rfl rfl ?_
       refine rl_fieldAddr rfl fa63_2 rfl ?_
       refine rl_loadS (v := (Value.int .i64 x26.port)) rfl Try.isAgg3 (k49.cell rfl) rfl ?_
       refine rl_build (out := (Point.enc ({ addr := x125, port := x26.port } : Point))) rfl pl40 Try.zeroValue40 rfl rfl rfl ?_
       refine rl_fieldAddr rfl fa63_0 rfl ?_
       refine rl_loadS (v := (Value.string x26.name)) rfl Try.isAgg9 (k49.cell rfl) rfl ?_
       refine rl_fieldAddr rfl fa49_8 rfl ?_
       refine rl_loadS (v := (Value.bool a0.externalLocal)) rfl Try.isAgg4 (k4.cell rfl) rfl ?_
       refine rl_build (out := (Face.enc ({ proto := x26.proto, point := ({ addr := x125, port := x26.port } : Point), name := x26.name, how := 1, localF := a0.externalLocal, asked := false } : Face))) rfl pl62 Try.zeroValue62 rfl rfl rfl ?_
       refine rl_bslice (k := k_Face) (F := F) (B := w.heap.size) (S := (un (inBlk (Value.pointer (some ⟨p139, 0, none⟩))) (un (inBlk (Value.pointer (some ⟨p40, 0, none⟩))) (un (inBlk v113) nb)))) ([({ proto := x26.proto, point := ({ addr := x125, port := x26.port } : Point), name := x26.name, how := 1, localF := a0.externalLocal, asked := false } : Face)] : List Face) rfl k_Face_pos Try.underlying44 Try.sizeOf62 Try.zeroValue62 rfl rfl ⟨rfl, rfl, trivial⟩ c128.size (un_lt k149.ltp (un_lt k49.ltp (un_lt (fun b hb => (h114.lt b hb).2) nbS))) rfl ?_
       intro v151 w152 c153 hf154 h155
       have h155 := h155.readNew k_Face_pos hf154 (un_lt k149.ltp (un_lt k49.ltp (un_lt (fun b hb => (h114.lt b hb).2) nbS)))
       have ah0_0 := slRep.ch k_Addr_pos ah0_0 c153
       have ah0_1 := slRep.ch k_Addr_pos ah0_1 c153
       have ah0_2 := slRep.ch k_Addr_pos ah0_2 c153
       have ah0_3 := slRep.ch k_Cidr_pos ah0_3 c153
       have ah0_4 := slRep.ch k_Port_pos ah0_4 c153
       have ah1_0 := slRep.ch k_Addr_pos ah1_0 c153
       have k4 := k4.ch0 c153
       have k8 := k8.ch0 c153
       have k49 := k49.ch0 c153
       have h114 := h114.ch0 c153
       have k149 := k149.ch0 c153
       have c128 := c128.then0 c153
       obtain ⟨z164, hz165, hb122⟩ := bindS hb122
       have hl := (apO_get hz165).1
       refine rl_append (k := k_Face) (T := 62) (F := F) (B := w.heap.size) (S := (un (inBlk (Value.pointer (some ⟨p139, 0, none⟩))) (un (inBlk (Value.pointer (some ⟨p40, 0, none⟩))) (un (inBlk v113) nb)))) (S2 := (un (inBlk (Value.pointer (some ⟨p139, 0, none⟩))) (un (inBlk (Value.pointer (some ⟨p40, 0, none⟩))) nb))) (fun v => (un (inBlk (Value.pointer (some ⟨p139, 0, none⟩))) (un (inBlk (Value.pointer (some ⟨p40, 0, none⟩))) (un (inBlk v) nb)))) rfl rfl k_Face_pos ap44 h114 h155 (fun _ => un_swap3) (fun _ _ => un_swap3) hl c128.size (un_lt k149.ltp (un_lt k49.ltp (un_lt (fun b hb => (h114.lt b hb).2) nbS))) rfl ?_
       intro v158 w159 h160 c161 hf162 ha163
       have d166 : ∀ b, inBlk v158 b → ¬ inBlk (Value.pointer (some ⟨p139, 0, none⟩)) b := disApp hf162 (disSym d145) k149.ltp
       have d167 : ∀ b, inBlk v158 b → ¬ inBlk (Value.pointer (some ⟨p40, 0, none⟩)) b := disApp hf162 (disSym d115) k49.ltp
       have ah0_0 := slRep.st k_Addr_pos ah0_0 c161 ha163
       have ah0_1 := slRep.st k_Addr_pos ah0_1 c161 ha163
       have ah0_2 := slRep.st k_Addr_pos ah0_2 c161 ha163
       have ah0_3 := slRep.st k_Cidr_pos ah0_3 c161 ha163
       have ah0_4 := slRep.st k_Port_pos ah0_4 c161 ha163
       have ah1_0 := slRep.st k_Addr_pos ah1_0 c161 ha163
       have gp1n : (G F w.heap.size (un (inBlk (Value.pointer (some ⟨p139, 0, none⟩))) (un (inBlk (Value.pointer (some ⟨p40, 0, none⟩))) (un (inBlk v158) nb)))) p1 := ⟨gp1.1, (ha163 _ k4.lt gp1.2).2⟩
       have k4 := k4.ch c161 (ha163 _ k4.lt gp1.2).1
       have gp1 := gp1n
       have gp5n : (G F w.heap.size (un (inBlk (Value.pointer (some ⟨p139, 0, none⟩))) (un (inBlk (Value.pointer (some ⟨p40, 0, none⟩))) (un (inBlk v158) nb)))) p5 := ⟨gp5.1, (ha163 _ k8.lt gp5.2).2⟩
       have k8 := k8.ch c161 (ha163 _ k8.lt gp5.2).1
       have gp5 := gp5n
       have k49 := k49.ch c161 ((fun b hb h => d115 b hb h) _ rfl)
       have k149 := k149.ch c161 ((fun b hb h => d145 b hb h) _ rfl)
       have h155 := slRep.st k_Face_pos h155 c161 ha163
       have c128 := c128.then c161 (fun i hi h => absurd ((fun b hb => (h114.lt b hb).1) i h) (Nat.not_le_of_lt hi))
       refine rl_assign rfl rfl ?_
       refine RL.nil ?_
       refine inB_n ?_
       refine thn_n ?_
       refine CW.region ?_
       refine rl_inc rfl hat119.lt ah0_1.big rfl ?_
       refine rl_move rfl rfl ?_
       refine RL.nil ?_
       refine thn_n ?_
       have crf : Ch nb w159 w159 := Ch.refl
       have ah0_0 := slRep.st k_Addr_pos ah0_0 crf (show ∀ b, b < w159.heap.size → ¬ (un (inBlk (Value.pointer (some ⟨p139, 0, none⟩))) (un (inBlk (Value.pointer (some ⟨p40, 0, none⟩))) (un (inBlk v158) nb))) b → ¬ nb b ∧ ¬ (un (inBlk (Value.pointer (some ⟨p40, 0, none⟩))) (un (inBlk v158) nb)) b from fun b _ hs => ⟨fun x => x, fun h => hs (un_el h (fun h => (.inr (.inl h))) (fun h => un_el h (fun h => (.inr (.inr (.inl h)))) (fun h => False.elim h)))⟩)
       have ah0_1 := slRep.st k_Addr_pos ah0_1 crf (show ∀ b, b < w159.heap.size → ¬ (un (inBlk (Value.pointer (some ⟨p139, 0, none⟩))) (un (inBlk (Value.pointer (some ⟨p40, 0, none⟩))) (un (inBlk v158) nb))) b → ¬ nb b ∧ ¬ (un (inBlk (Value.pointer (some ⟨p40, 0, none⟩))) (un (inBlk v158) nb)) b from fun b _ hs => ⟨fun x => x, fun h => hs (un_el h (fun h => (.inr (.inl h))) (fun h => un_el h (fun h => (.inr (.inr (.inl h)))) (fun h => False.elim h)))⟩)
       have ah0_2 := slRep.st k_Addr_pos ah0_2 crf (show ∀ b, b < w159.heap.size → ¬ (un (inBlk (Value.pointer (some ⟨p139, 0, none⟩))) (un (inBlk (Value.pointer (some ⟨p40, 0, none⟩))) (un (inBlk v158) nb))) b → ¬ nb b ∧ ¬ (un (inBlk (Value.pointer (some ⟨p40, 0, none⟩))) (un (inBlk v158) nb)) b from fun b _ hs => ⟨fun x => x, fun h => hs (un_el h (fun h => (.inr (.inl h))) (fun h => un_el h (fun h => (.inr (.inr (.inl h)))) (fun h => False.elim h)))⟩)
       have ah0_3 := slRep.st k_Cidr_pos ah0_3 crf (show ∀ b, b < w159.heap.size → ¬ (un (inBlk (Value.pointer (some ⟨p139, 0, none⟩))) (un (inBlk (Value.pointer (some ⟨p40, 0, none⟩))) (un (inBlk v158) nb))) b → ¬ nb b ∧ ¬ (un (inBlk (Value.pointer (some ⟨p40, 0, none⟩))) (un (inBlk v158) nb)) b from fun b _ hs => ⟨fun x => x, fun h => hs (un_el h (fun h => (.inr (.inl h))) (fun h => un_el h (fun h => (.inr (.inr (.inl h)))) (fun h => False.elim h)))⟩)
       have ah0_4 := slRep.st k_Port_pos ah0_4 crf (show ∀ b, b < w159.heap.size → ¬ (un (inBlk (Value.pointer (some ⟨p139, 0, none⟩))) (un (inBlk (Value.pointer (some ⟨p40, 0, none⟩))) (un (inBlk v158) nb))) b → ¬ nb b ∧ ¬ (un (inBlk (Value.pointer (some ⟨p40, 0, none⟩))) (un (inBlk v158) nb)) b from fun b _ hs => ⟨fun x => x, fun h => hs (un_el h (fun h => (.inr (.inl h))) (fun h => un_el h (fun h => (.inr (.inr (.inl h)))) (fun h => False.elim h)))⟩)
       have ah1_0 := slRep.st k_Addr_pos ah1_0 crf (show ∀ b, b < w159.heap.size → ¬ (un (inBlk (Value.pointer (some ⟨p139, 0, none⟩))) (un (inBlk (Value.pointer (some ⟨p40, 0, none⟩))) (un (inBlk v158) nb))) b → ¬ nb b ∧ ¬ (un (inBlk (Value.pointer (some ⟨p40, 0, none⟩))) (un (inBlk v158) nb)) b from fun b _ hs => ⟨fun x => x, fun h => hs (un_el h (fun h => (.inr (.inl h))) (fun h => un_el h (fun h => (.inr (.inr (.inl h)))) (fun h => False.elim h)))⟩)
       have gp1n : (G F w.heap.size (un (inBlk (Value.pointer (some ⟨p40, 0, none⟩))) (un (inBlk v158) nb))) p1 := ⟨gp1.1, ((show ∀ b, b < w159.heap.size → ¬ (un (inBlk (Value.pointer (some ⟨p139, 0, none⟩))) (un (inBlk (Value.pointer (some ⟨p40, 0, none⟩))) (un (inBlk v158) nb))) b → ¬ nb b ∧ ¬ (un (inBlk (Value.pointer (some ⟨p40, 0, none⟩))) (un (inBlk v158) nb)) b from fun b _ hs => ⟨fun x => x, fun h => hs (un_el h (fun h => (.inr (.inl h))) (fun h => un_el h (fun h => (.inr (.inr (.inl h)))) (fun h => False.elim h)))⟩) _ k4.lt gp1.2).2⟩
       have k4 := k4.ch0 crf
       have gp1 := gp1n
       have gp5n : (G F w.heap.size (un (inBlk (Value.pointer (some ⟨p40, 0, none⟩))) (un (inBlk v158) nb))) p5 := ⟨gp5.1, ((show ∀ b, b < w159.heap.size → ¬ (un (inBlk (Value.pointer (some ⟨p139, 0, none⟩))) (un (inBlk (Value.pointer (some ⟨p40, 0, none⟩))) (un (inBlk v158) nb))) b → ¬ nb b ∧ ¬ (un (inBlk (Value.pointer (some ⟨p40, 0, none⟩))) (un (inBlk v158) nb)) b from fun b _ hs => ⟨fun x => x, fun h => hs (un_el h (fun h => (.inr (.inl h))) (fun h => un_el h (fun h => (.inr (.inr (.inl h)))) (fun h => False.elim h)))⟩) _ k8.lt gp5.2).2⟩
       have k8 := k8.ch0 crf
       have gp5 := gp5n
       have k49 := k49.ch0 crf
       have h155 := slRep.st k_Face_pos h155 crf (show ∀ b, b < w159.heap.size → ¬ (un (inBlk (Value.pointer (some ⟨p139, 0, none⟩))) (un (inBlk (Value.pointer (some ⟨p40, 0, none⟩))) (un (inBlk v158) nb))) b → ¬ nb b ∧ ¬ (un (inBlk (Value.pointer (some ⟨p40, 0, none⟩))) (un (inBlk v158) nb)) b from fun b _ hs => ⟨fun x => x, fun h => hs (un_el h (fun h => (.inr (.inl h))) (fun h => un_el h (fun h => (.inr (.inr (.inl h)))) (fun h => False.elim h)))⟩)
       have h160 := h160.st crf (fun _ _ x => x) (show ∀ b, b < w159.heap.size → ¬ (un (inBlk (Value.pointer (some ⟨p139, 0, none⟩))) (un (inBlk (Value.pointer (some ⟨p40, 0, none⟩))) (un (inBlk v158) nb))) b → ¬ nb b ∧ ¬ (un (inBlk (Value.pointer (some ⟨p40, 0, none⟩))) (un (inBlk v158) nb)) b from fun b _ hs => ⟨fun x => x, fun h => hs (un_el h (fun h => (.inr (.inl h))) (fun h => un_el h (fun h => (.inr (.inr (.inl h)))) (fun h => False.elim h)))⟩) (fun b h => (.inr (.inl h)))
       have c128 := c128.then0 crf
       have hLn := runAO_next hL118 hq121 hb122
       exact ⟨rest132.length, Nat.lt_succ_self _, [(2, (Value.pointer (some ⟨p1, 0, none⟩))), (3, (Value.pointer (some ⟨p5, 0, none⟩))), (7, (Value.pointer (some ⟨p40, 0, none⟩))), (24, az0_4), (25, (Value.int .i64 ((a0.ports.length : Nat) : Int))), (26, (Value.int .i64 ((i18 : Nat) : Int))), (53, az0_1), (54, (Value.int .i64 ((a0.external.length : Nat) : Int))), (5, v158), (55, (Value.int .i64 ((i117 + 1 : Nat) : Int)))], ⟨rfl, rfl, rfl, rfl, rfl, rfl, rfl, rfl, rfl, rfl, trivial⟩, ⟨rest132, i117 + 1, x112 ++ [({ proto := x26.proto, point := ({ addr := x125, port := x26.port } : Point), name := x26.name, how := 1, localF := a0.externalLocal, asked := false } : Face)], v158, rfl, rfl, c128, hat119.next, hLn, ah0_0, ah0_1, ah0_2, ah0_3, ah0_4, ah1_0, k4, k8, k49, h160, gp1, gp5, (disSym d167)⟩⟩
      ·
       obtain rfl := hat119.nil q131
       have hLf : x112 = o123 := runAO_done hL118
       refine CW.exit (thn_exit (thn_exit (inB_hit ?_)))
       exact ⟨x112, v113, ⟨rfl, rfl, rfl, rfl, rfl, rfl, rfl, trivial⟩, c128, hLf, ah0_0, ah0_1, ah0_2, ah0_3, ah0_4, ah1_0, k4, k8, k49, h114, gp1, gp5, d115⟩
     ·
      rintro _ w169 ⟨x112, v113, hE170, c168, f171, ah0_0, ah0_1, ah0_2, ah0_3, ah0_4, ah1_0, k4, k8, k49, h114, gp1, gp5, d115⟩
      subst f171
      refine thn_n (CW.sub [(2, (Value.pointer (some ⟨p1, 0, none⟩))), (3, (Value.pointer (some ⟨p5, 0, none⟩))), (7, (Value.pointer (some ⟨p40, 0, none⟩))), (24, az0_4), (25, (Value.int .i64 ((a0.ports.length : Nat) : Int))), (26, (Value.int .i64 ((i18 : Nat) : Int))), (5, v113)] hE170 ?_)
      refine CW.seq ?_
      refine CW.seq (CW.region ?_)
      refine rl_fieldAddr rfl fa49_4 rfl ?_
      refine rl_loadS (v := az0_2) rfl Try.isAgg24 (k4.cell rfl) rfl ?_
      refine rl_lenR rfl ah0_2 Try.underlying24 rfl ?_
      refine rl_move rfl rfl ?_
      refine RL.nil ?_
      refine thn_n ?_
      obtain ⟨o184, ho185, hb23⟩ := bindS hb23
      refine CW.cutB (fun E' w' => ∃ (x173 : (List Face)) (v174 : Value), Sub [(2, (Value.pointer (some ⟨p1, 0, none⟩))), (3, (Value.pointer (some ⟨p5, 0, none⟩))), (7, (Value.pointer (some ⟨p40, 0, none⟩))), (24, az0_4), (25, (Value.int .i64 ((a0.ports.length : Nat) : Int))), (26, (Value.int .i64 ((i18 : Nat) : Int))), (5, v174)] E' ∧ Ch nb w w' ∧ x173 = o184 ∧ slRep k_Addr (G F w.heap.size (un (inBlk (Value.pointer (some ⟨p40, 0, none⟩))) (un (inBlk v174) nb))) w' a0.cluster az0_0 ∧ slRep k_Addr (G F w.heap.size (un (inBlk (Value.pointer (some ⟨p40, 0, none⟩))) (un (inBlk v174) nb))) w' a0.external az0_1 ∧ slRep k_Addr (G F w.heap.size (un (inBlk (Value.pointer (some ⟨p40, 0, none⟩))) (un (inBlk v174) nb))) w' a0.balancers az0_2 ∧ slRep k_Cidr (G F w.heap.size (un (inBlk (Value.pointer (some ⟨p40, 0, none⟩))) (un (inBlk v174) nb))) w' a0.ranges az0_3 ∧ slRep k_Port (G F w.heap.size (un (inBlk (Value.pointer (some ⟨p40, 0, none⟩))) (un (inBlk v174) nb))) w' a0.ports az0_4 ∧ slRep k_Addr (G F w.heap.size (un (inBlk (Value.pointer (some ⟨p40, 0, none⟩))) (un (inBlk v174) nb))) w' a1.addrs az1_0 ∧ Blk w' p1 49 (Service.c a0 az0_0 az0_1 az0_2 az0_3 az0_4) ∧ Blk w' p5 51 (Node.c a1 az1_0) ∧ Blk w' p40 63 (Port.enc x26) ∧ SlO k_Face 62 F w.heap.size (un (inBlk (Value.pointer (some ⟨p40, 0, none⟩))) (un (inBlk v174) nb)) w' x173 v174 ∧ (G F w.heap.size (un (inBlk (Value.pointer (some ⟨p40, 0, none⟩))) (un (inBlk v174) nb))) p1 ∧ (G F w.heap.size (un (inBlk (Value.pointer (some ⟨p40, 0, none⟩))) (un (inBlk v174) nb))) p5 ∧ (∀ b, inBlk (Value.pointer (some ⟨p40, 0, none⟩)) b → ¬ inBlk v174 b)) ?_ ?_
      ·
       refine CW.loopS [(2, (Value.pointer (some ⟨p1, 0, none⟩))), (3, (Value.pointer (some ⟨p5, 0, none⟩))), (7, (Value.pointer (some ⟨p40, 0, none⟩))), (24, az0_4), (25, (Value.int .i64 ((a0.ports.length : Nat) : Int))), (26, (Value.int .i64 ((i18 : Nat) : Int))), (75, az0_2), (76, (Value.int .i64 ((a0.balancers.length : Nat) : Int))), (5, v113), (77, (Value.int .i64 ((0 : Nat) : Int)))] ⟨rfl, rfl, rfl, rfl, rfl, rfl, rfl, rfl, rfl, rfl, trivial⟩ a0.balancers.length (fun m E w' => ∃ (rest177 : List Addr) (i178 : Nat) (x173 : (List Face)) (v174 : Value), m = rest177.length ∧ E = [(2, (Value.pointer (some ⟨p1, 0, none⟩))), (3, (Value.pointer (some ⟨p5, 0, none⟩))), (7, (Value.pointer (some ⟨p40, 0, none⟩))), (24, az0_4), (25, (Value.int .i64 ((a0.ports.length : Nat) : Int))), (26, (Value.int .i64 ((i18 : Nat) : Int))), (75, az0_2), (76, (Value.int .i64 ((a0.balancers.length : Nat) : Int))), (5, v174), (77, (Value.int .i64 ((i178 : Nat) : Int)))] ∧ Ch nb w w' ∧ At a0.balancers i178 rest177 ∧ runAO (F10_linkboyref20_Faces_b4 a0 x26) rest177 x173 = some o184 ∧ slRep k_Addr (G F w.heap.size (un (inBlk (Value.pointer (some ⟨p40, 0, none⟩))) (un (inBlk v174) nb))) w' a0.cluster az0_0 ∧ slRep k_Addr (G F w.heap.size (un (inBlk (Value.pointer (some ⟨p40, 0, none⟩))) (un (inBlk v174) nb))) w' a0.external az0_1 ∧ slRep k_Addr (G F w.heap.size (un (inBlk (Value.pointer (some ⟨p40, 0, none⟩))) (un (inBlk v174) nb))) w' a0.balancers az0_2 ∧ slRep k_Cidr (G F w.heap.size (un (inBlk (Value.pointer (some ⟨p40, 0, none⟩))) (un (inBlk v174) nb))) w' a0.ranges az0_3 ∧ slRep k_Port (G F w.heap.size (un (inBlk (Value.pointer (some ⟨p40, 0, none⟩))) (un (inBlk v174) nb))) w' a0.ports az0_4 ∧ slRep k_Addr (G F w.heap.size (un (inBlk (Value.pointer (some ⟨p40, 0, none⟩))) (un (inBlk v174) nb))) w' a1.addrs az1_0 ∧ Blk w' p1 49 (Service.c a0 az0_0 az0_1 az0_2 az0_3 az0_4) ∧ Blk w' p5 51 (Node.c a1 az1_0) ∧ Blk w' p40 63 (Port.enc x26) ∧ SlO k_Face 62 F w.heap.size (un (inBlk (Value.pointer (some ⟨p40, 0, none⟩))) (un (inBlk v174) nb)) w' x173 v174 ∧ (G F w.heap.size (un (inBlk (Value.pointer (some ⟨p40, 0, none⟩))) (un (inBlk v174) nb))) p1 ∧ (G F w.heap.size (un (inBlk (Value.pointer (some ⟨p40, 0, none⟩))) (un (inBlk v174) nb))) p5 ∧ (∀ b, inBlk (Value.pointer (some ⟨p40, 0, none⟩)) b → ¬ inBlk v174 b))
           ⟨a0.balancers, 0, x112, v113, rfl, rfl, c168, At.start, ho185, ah0_0, ah0_1, ah0_2, ah0_3, ah0_4, ah1_0, k4, k8, k49, h114, gp1, gp5, d115⟩ ?_
       rintro _ _ w190 ⟨rest177, i178, x173, v174, rfl, rfl, c189, hat180, hL179, ah0_0, ah0_1, ah0_2, ah0_3, ah0_4, ah1_0, k4, k8, k49, h175, gp1, gp5, d176⟩
       refine CW.seq (CW.region ?_)
       refine rl_bin rfl rfl B.lss rfl ?_
       refine RL.nil (thn_n ?_)
       refine CW.seq ?_
       refine CW.cond (t := decide (((i178 : Nat) : Int) < ((a0.balancers.length : Nat) : Int))) rfl (fun q192 => ?_) (fun q192 => ?_)
       ·
        obtain ⟨x186, rest193, rfl⟩ := hat180.cons q192
        obtain ⟨q181, hq182⟩ := runAO_some hL179
        have hb183 := hq182
        refine CW.skip (thn_n ?_)
        refine CW.seq ?_
        refine CW.block ?_
        refine CW.seq (CW.region ?_)
        refine rl_ixR rfl ah0_2 rfl hat180.get Try.underlying24 Try.sizeOf38 rfl ?_
        intro p194 o195 cs196 hr197 hs198 hg199
        obtain rfl := hr197
        refine rl_loadA (cs := (Addr.enc x186)) rfl Try.isAgg38 Try.sizeOf38 (hs198) rfl rfl ?_
        refine rl_alloc (Addr.enc Addr.z) Try.zeroValue38 rfl rfl ?_
        intro p200 w201 n202 k203
        have lo204 : ∀ b, inBlk (Value.pointer (some ⟨p200, 0, none⟩)) b → w.heap.size ≤ b := fun b h => Nat.le_trans c189.size (n202.fresh b h)
        have d205 : ∀ b, inBlk (Value.pointer (some ⟨p200, 0, none⟩)) b → ¬ inBlk (Value.pointer (some ⟨p40, 0, none⟩)) b := disNew n202.fresh k49.ltp
        have d206 : ∀ b, inBlk (Value.pointer (some ⟨p200, 0, none⟩)) b → ¬ inBlk v174 b := disNew n202.fresh (fun b hb => (h175.lt b hb).2)
        have ah0_0 := slRep.st k_Addr_pos ah0_0 n202.ch (admNew n202.fresh (fun _ x => x))
        have ah0_1 := slRep.st k_Addr_pos ah0_1 n202.ch (admNew n202.fresh (fun _ x => x))
        have ah0_2 := slRep.st k_Addr_pos ah0_2 n202.ch (admNew n202.fresh (fun _ x => x))
        have ah0_3 := slRep.st k_Cidr_pos ah0_3 n202.ch (admNew n202.fresh (fun _ x => x))
        have ah0_4 := slRep.st k_Port_pos ah0_4 n202.ch (admNew n202.fresh (fun _ x => x))
        have ah1_0 := slRep.st k_Addr_pos ah1_0 n202.ch (admNew n202.fresh (fun _ x => x))
        have gp1n : (G F w.heap.size (un (inBlk (Value.pointer (some ⟨p200, 0, none⟩))) (un (inBlk (Value.pointer (some ⟨p40, 0, none⟩))) (un (inBlk v174) nb)))) p1 := ⟨gp1.1, ((admNew n202.fresh (fun _ x => x)) _ k4.lt gp1.2).2⟩
        have k4 := k4.ch0 n202.ch
        have gp1 := gp1n
        have gp5n : (G F w.heap.size (un (inBlk (Value.pointer (some ⟨p200, 0, none⟩))) (un (inBlk (Value.pointer (some ⟨p40, 0, none⟩))) (un (inBlk v174) nb)))) p5 := ⟨gp5.1, ((admNew n202.fresh (fun _ x => x)) _ k8.lt gp5.2).2⟩
        have k8 := k8.ch0 n202.ch
        have gp5 := gp5n
        have k49 := k49.ch0 n202.ch
        have h175 := h175.st n202.ch (fun _ _ x => x) (admNew n202.fresh (fun _ x => x)) (fun b h => (.inr (.inr (.inl h))))
        have c189 := c189.then0 n202.ch
        refine rl_storeA (vs := (Addr.enc x186)) rfl rfl (all_one rfl) Try.sizeOf38 rfl k203 rfl ?_
        intro w207 s209 c208 k210
        have ad211 : ∀ b, b < w201.heap.size → ¬ (un (inBlk (Value.pointer (some ⟨p200, 0, none⟩))) (un (inBlk (Value.pointer (some ⟨p40, 0, none⟩))) (un (inBlk v174) nb))) b → ¬ (inBlk (Value.pointer (some ⟨p200, 0, none⟩))) b ∧ ¬ (un (inBlk (Value.pointer (some ⟨p200, 0, none⟩))) (un (inBlk (Value.pointer (some ⟨p40, 0, none⟩))) (un (inBlk v174) nb))) b := fun b _ hs => ⟨fun h => hs (.inl h), hs⟩
        have ah0_0 := slRep.st k_Addr_pos ah0_0 c208 ad211
        have ah0_1 := slRep.st k_Addr_pos ah0_1 c208 ad211
        have ah0_2 := slRep.st k_Addr_pos ah0_2 c208 ad211
        have ah0_3 := slRep.st k_Cidr_pos ah0_3 c208 ad211
        have ah0_4 := slRep.st k_Port_pos ah0_4 c208 ad211
        have ah1_0 := slRep.st k_Addr_pos ah1_0 c208 ad211
        have k4 := k4.ch c208 (ad211 _ k4.lt gp1.2).1
        have k8 := k8.ch c208 (ad211 _ k8.lt gp5.2).1
        have k49 := k49.ch c208 ((fun b hb h => (disSym d205) b hb h) _ rfl)
        have h175 := h175.st c208 (fun b hb h => (disSym d206) b hb h) ad211 (fun b h => (.inr (.inr (.inl h))))
        have c189 := c189.then c208 (fun i hi h => absurd (lo204 i h) (Nat.not_le_of_lt hi))
        refine RL.nil ?_
        refine thn_n ?_
        refine CW.region ?_
        refine rl_move rfl rfl ?_
        refine rl_fieldAddr rfl fa63_1 rfl ?_
        refine rl_loadS (v := (Value.int .i64 x26.proto)) rfl Try.isAgg3 (k49.cell rfl) rfl ?_
        refine rl_loadA (cs := (Addr.enc x186)) rfl Try.isAgg38 Try.sizeOf38 (k210.segAt 0 17) rfl rfl ?_
        refine rl_fieldAddr rfl fa63_2 rfl ?_
        refine rl_loadS (v := (Value.int .i64 x26.port)) rfl Try.isAgg3 (k49.cell rfl) rfl ?_
        refine rl_build (out := (Point.enc ({ addr := x186, port := x26.port } : Point))) rfl pl40 Try.zeroValue40 rfl rfl rfl ?_
        refine rl_fieldAddr rfl fa63_0 rfl ?_
        refine rl_loadS (v := (Value.string x26.name)) rfl Try.isAgg9 (k49.cell rfl) rfl ?_
        refine rl_fieldAddr rfl fa49_8 rfl ?_
        refine rl_loadS (v := (Value.bool a0.externalLocal)) rfl Try.isAgg4 (k4.cell rfl) rfl ?_
        refine rl_fieldAddr rfl fa49_5 rfl ?_
        refine rl_loadS (v := az0_3) rfl Try.isAgg25 (k4.cell rfl) rfl ?_
        refine rl_lenR rfl ah0_3 Try.underlying25 rfl ?_
        refine rl_bin rfl rfl B.gtr rfl ?_
        refine rl_build (out := (Face.enc ({ proto := x26.proto, point := ({ addr := x186, port := x26.port } : Point), name := x26.name, how := 2, localF := a0.externalLocal, asked := decide (((a0.ranges.length : Nat) : Int) > 0) } : Face))) rfl pl62 Try.zeroValue62 rfl rfl rfl ?_
        refine rl_bslice (k := k_Face) (F := F) (B := w.heap.size) (S := (un (inBlk (Value.pointer (some ⟨p200, 0, none⟩))) (un (inBlk (Value.pointer (some ⟨p40, 0, none⟩))) (un (inBlk v174) nb)))) ([({ proto := x26.proto, point := ({ addr := x186, port := x26.port } : Point), name := x26.name, how := 2, localF := a0.externalLocal, asked := decide (((a0.ranges.length : Nat) : Int) > 0) } : Face)] : List Face) rfl k_Face_pos Try.underlying44 Try.sizeOf62 Try.zeroValue62 rfl rfl ⟨rfl, rfl, trivial⟩ c189.size (un_lt k210.ltp (un_lt k49.ltp (un_lt (fun b hb => (h175.lt b hb).2) nbS))) rfl ?_
        intro v212 w213 c214 hf215 h216
        have h216 := h216.readNew k_Face_pos hf215 (un_lt k210.ltp (un_lt k49.ltp (un_lt (fun b hb => (h175.lt b hb).2) nbS)))
        have ah0_0 := slRep.ch k_Addr_pos ah0_0 c214
        have ah0_1 := slRep.ch k_Addr_pos ah0_1 c214
        have ah0_2 := slRep.ch k_Addr_pos ah0_2 c214
        have ah0_3 := slRep.ch k_Cidr_pos ah0_3 c214
        have ah0_4 := slRep.ch k_Port_pos ah0_4 c214
        have ah1_0 := slRep.ch k_Addr_pos ah1_0 c214
        have k4 := k4.ch0 c214
        have k8 := k8.ch0 c214
        have k49 := k49.ch0 c214
        have h175 := h175.ch0 c214
        have k210 := k210.ch0 c214
        have c189 := c189.then0 c214
        obtain ⟨z225, hz226, hb183⟩ := bindS hb183
        have hl := (apO_get hz226).1
        refine rl_append (k := k_Face) (T := 62) (F := F) (B := w.heap.size) (S := (un (inBlk (Value.pointer (some ⟨p200, 0, none⟩))) (un (inBlk (Value.pointer (some ⟨p40, 0, none⟩))) (un (inBlk v174) nb)))) (S2 := (un (inBlk (Value.pointer (some ⟨p200, 0, none⟩))) (un (inBlk (Value.pointer (some ⟨p40, 0, none⟩))) nb))) (fun v => (un (inBlk (Value.pointer (some ⟨p200, 0, none⟩))) (un (inBlk (Value.pointer (some ⟨p40, 0, none⟩))) (un (inBlk v) nb)))) rfl rfl k_Face_pos ap44 h175 h216 (fun _ => un_swap3) (fun _ _ => un_swap3) hl c189.size (un_lt k210.ltp (un_lt k49.ltp (un_lt (fun b hb => (h175.lt b hb).2) nbS))) rfl ?_
        intro v219 w220 h221 c222 hf223 ha224
        have d227 : ∀ b, inBlk v219 b → ¬ inBlk (Value.pointer (some ⟨p200, 0, none⟩)) b := disApp hf223 (disSym d206) k210.ltp
        have d228 : ∀ b, inBlk v219 b → ¬ inBlk (Value.pointer (some ⟨p40, 0, none⟩)) b := disApp hf223 (disSym d176) k49.ltp
        have ah0_0 := slRep.st k_Addr_pos ah0_0 c222 ha224
        have ah0_1 := slRep.st k_Addr_pos ah0_1 c222 ha224
        have ah0_2 := slRep.st k_Addr_pos ah0_2 c222 ha224
        have ah0_3 := slRep.st k_Cidr_pos ah0_3 c222 ha224
        have ah0_4 := slRep.st k_Port_pos ah0_4 c222 ha224
        have ah1_0 := slRep.st k_Addr_pos ah1_0 c222 ha224
        have gp1n : (G F w.heap.size (un (inBlk (Value.pointer (some ⟨p200, 0, none⟩))) (un (inBlk (Value.pointer (some ⟨p40, 0, none⟩))) (un (inBlk v219) nb)))) p1 := ⟨gp1.1, (ha224 _ k4.lt gp1.2).2⟩
        have k4 := k4.ch c222 (ha224 _ k4.lt gp1.2).1
        have gp1 := gp1n
        have gp5n : (G F w.heap.size (un (inBlk (Value.pointer (some ⟨p200, 0, none⟩))) (un (inBlk (Value.pointer (some ⟨p40, 0, none⟩))) (un (inBlk v219) nb)))) p5 := ⟨gp5.1, (ha224 _ k8.lt gp5.2).2⟩
        have k8 := k8.ch c222 (ha224 _ k8.lt gp5.2).1
        have gp5 := gp5n
        have k49 := k49.ch c222 ((fun b hb h => d176 b hb h) _ rfl)
        have k210 := k210.ch c222 ((fun b hb h => d206 b hb h) _ rfl)
        have h216 := slRep.st k_Face_pos h216 c222 ha224
        have c189 := c189.then c222 (fun i hi h => absurd ((fun b hb => (h175.lt b hb).1) i h) (Nat.not_le_of_lt hi))
        refine rl_assign rfl rfl ?_
        refine RL.nil ?_
        refine inB_n ?_
        refine thn_n ?_
        refine CW.region ?_
        refine rl_inc rfl hat180.lt ah0_2.big rfl ?_
        refine rl_move rfl rfl ?_
        refine RL.nil ?_
        refine thn_n ?_
        have crf : Ch nb w220 w220 := Ch.refl
        have ah0_0 := slRep.st k_Addr_pos ah0_0 crf (show ∀ b, b < w220.heap.size → ¬ (un (inBlk (Value.pointer (some ⟨p200, 0, none⟩))) (un (inBlk (Value.pointer (some ⟨p40, 0, none⟩))) (un (inBlk v219) nb))) b → ¬ nb b ∧ ¬ (un (inBlk (Value.pointer (some ⟨p40, 0, none⟩))) (un (inBlk v219) nb)) b from fun b _ hs => ⟨fun x => x, fun h => hs (un_el h (fun h => (.inr (.inl h))) (fun h => un_el h (fun h => (.inr (.inr (.inl h)))) (fun h => False.elim h)))⟩)
        have ah0_1 := slRep.st k_Addr_pos ah0_1 crf (show ∀ b, b < w220.heap.size → ¬ (un (inBlk (Value.pointer (some ⟨p200, 0, none⟩))) (un (inBlk (Value.pointer (some ⟨p40, 0, none⟩))) (un (inBlk v219) nb))) b → ¬ nb b ∧ ¬ (un (inBlk (Value.pointer (some ⟨p40, 0, none⟩))) (un (inBlk v219) nb)) b from fun b _ hs => ⟨fun x => x, fun h => hs (un_el h (fun h => (.inr (.inl h))) (fun h => un_el h (fun h => (.inr (.inr (.inl h)))) (fun h => False.elim h)))⟩)
        have ah0_2 := slRep.st k_Addr_pos ah0_2 crf (show ∀ b, b < w220.heap.size → ¬ (un (inBlk (Value.pointer (some ⟨p200, 0, none⟩))) (un (inBlk (Value.pointer (some ⟨p40, 0, none⟩))) (un (inBlk v219) nb))) b → ¬ nb b ∧ ¬ (un (inBlk (Value.pointer (some ⟨p40, 0, none⟩))) (un (inBlk v219) nb)) b from fun b _ hs => ⟨fun x => x, fun h => hs (un_el h (fun h => (.inr (.inl h))) (fun h => un_el h (fun h => (.inr (.inr (.inl h)))) (fun h => False.elim h)))⟩)
        have ah0_3 := slRep.st k_Cidr_pos ah0_3 crf (show ∀ b, b < w220.heap.size → ¬ (un (inBlk (Value.pointer (some ⟨p200, 0, none⟩))) (un (inBlk (Value.pointer (some ⟨p40, 0, none⟩))) (un (inBlk v219) nb))) b → ¬ nb b ∧ ¬ (un (inBlk (Value.pointer (some ⟨p40, 0, none⟩))) (un (inBlk v219) nb)) b from fun b _ hs => ⟨fun x => x, fun h => hs (un_el h (fun h => (.inr (.inl h))) (fun h => un_el h (fun h => (.inr (.inr (.inl h)))) (fun h => False.elim h)))⟩)
        have ah0_4 := slRep.st k_Port_pos ah0_4 crf (show ∀ b, b < w220.heap.size → ¬ (un (inBlk (Value.pointer (some ⟨p200, 0, none⟩))) (un (inBlk (Value.pointer (some ⟨p40, 0, none⟩))) (un (inBlk v219) nb))) b → ¬ nb b ∧ ¬ (un (inBlk (Value.pointer (some ⟨p40, 0, none⟩))) (un (inBlk v219) nb)) b from fun b _ hs => ⟨fun x => x, fun h => hs (un_el h (fun h => (.inr (.inl h))) (fun h => un_el h (fun h => (.inr (.inr (.inl h)))) (fun h => False.elim h)))⟩)
        have ah1_0 := slRep.st k_Addr_pos ah1_0 crf (show ∀ b, b < w220.heap.size → ¬ (un (inBlk (Value.pointer (some ⟨p200, 0, none⟩))) (un (inBlk (Value.pointer (some ⟨p40, 0, none⟩))) (un (inBlk v219) nb))) b → ¬ nb b ∧ ¬ (un (inBlk (Value.pointer (some ⟨p40, 0, none⟩))) (un (inBlk v219) nb)) b from fun b _ hs => ⟨fun x => x, fun h => hs (un_el h (fun h => (.inr (.inl h))) (fun h => un_el h (fun h => (.inr (.inr (.inl h)))) (fun h => False.elim h)))⟩)
        have gp1n : (G F w.heap.size (un (inBlk (Value.pointer (some ⟨p40, 0, none⟩))) (un (inBlk v219) nb))) p1 := ⟨gp1.1, ((show ∀ b, b < w220.heap.size → ¬ (un (inBlk (Value.pointer (some ⟨p200, 0, none⟩))) (un (inBlk (Value.pointer (some ⟨p40, 0, none⟩))) (un (inBlk v219) nb))) b → ¬ nb b ∧ ¬ (un (inBlk (Value.pointer (some ⟨p40, 0, none⟩))) (un (inBlk v219) nb)) b from fun b _ hs => ⟨fun x => x, fun h => hs (un_el h (fun h => (.inr (.inl h))) (fun h => un_el h (fun h => (.inr (.inr (.inl h)))) (fun h => False.elim h)))⟩) _ k4.lt gp1.2).2⟩
        have k4 := k4.ch0 crf
        have gp1 := gp1n
        have gp5n : (G F w.heap.size (un (inBlk (Value.pointer (some ⟨p40, 0, none⟩))) (un (inBlk v219) nb))) p5 := ⟨gp5.1, ((show ∀ b, b < w220.heap.size → ¬ (un (inBlk (Value.pointer (some ⟨p200, 0, none⟩))) (un (inBlk (Value.pointer (some ⟨p40, 0, none⟩))) (un (inBlk v219) nb))) b → ¬ nb b ∧ ¬ (un (inBlk (Value.pointer (some ⟨p40, 0, none⟩))) (un (inBlk v219) nb)) b from fun b _ hs => ⟨fun x => x, fun h => hs (un_el h (fun h => (.inr (.inl h))) (fun h => un_el h (fun h => (.inr (.inr (.inl h)))) (fun h => False.elim h)))⟩) _ k8.lt gp5.2).2⟩
        have k8 := k8.ch0 crf
        have gp5 := gp5n
        have k49 := k49.ch0 crf
        have h216 := slRep.st k_Face_pos h216 crf (show ∀ b, b < w220.heap.size → ¬ (un (inBlk (Value.pointer (some ⟨p200, 0, none⟩))) (un (inBlk (Value.pointer (some ⟨p40, 0, none⟩))) (un (inBlk v219) nb))) b → ¬ nb b ∧ ¬ (un (inBlk (Value.pointer (some ⟨p40, 0, none⟩))) (un (inBlk v219) nb)) b from fun b _ hs => ⟨fun x => x, fun h => hs (un_el h (fun h => (.inr (.inl h))) (fun h => un_el h (fun h => (.inr (.inr (.inl h)))) (fun h => False.elim h)))⟩)
        have h221 := h221.st crf (fun _ _ x => x) (show ∀ b, b < w220.heap.size → ¬ (un (inBlk (Value.pointer (some ⟨p200, 0, none⟩))) (un (inBlk (Value.pointer (some ⟨p40, 0, none⟩))) (un (inBlk v219) nb))) b → ¬ nb b ∧ ¬ (un (inBlk (Value.pointer (some ⟨p40, 0, none⟩))) (un (inBlk v219) nb)) b from fun b _ hs => ⟨fun x => x, fun h => hs (un_el h (fun h => (.inr (.inl h))) (fun h => un_el h (fun h => (.inr (.inr (.inl h)))) (fun h => False.elim h)))⟩) (fun b h => (.inr (.inl h)))
        have c189 := c189.then0 crf
        have hLn := runAO_next hL179 hq182 hb183
        exact ⟨rest193.length, Nat.lt_succ_self _, [(2, (Value.pointer (some ⟨p1, 0, none⟩))), (3, (Value.pointer (some ⟨p5, 0, none⟩))), (7, (Value.pointer (some ⟨p40, 0, none⟩))), (24, az0_4), (25, (Value.int .i64 ((a0.ports.length : Nat) : Int))), (26, (Value.int .i64 ((i18 : Nat) : Int))), (75, az0_2), (76, (Value.int .i64 ((a0.balancers.length : Nat) : Int))), (5, v219), (77, (Value.int .i64 ((i178 + 1 : Nat) : Int)))], ⟨rfl, rfl, rfl, rfl, rfl, rfl, rfl, rfl, rfl, rfl, trivial⟩, ⟨rest193, i178 + 1, x173 ++ [({ proto := x26.proto, point := ({ addr := x186, port := x26.port } : Point), name := x26.name, how := 2, localF := a0.externalLocal, asked := decide (((a0.ranges.length : Nat) : Int) > 0) } : Face)], v219, rfl, rfl, c189, hat180.next, hLn, ah0_0, ah0_1, ah0_2, ah0_3, ah0_4, ah1_0, k4, k8, k49, h221, gp1, gp5, (disSym d228)⟩⟩
       ·
        obtain rfl := hat180.nil q192
        have hLf : x173 = o184 := runAO_done hL179
        refine CW.exit (thn_exit (thn_exit (inB_hit ?_)))
        exact ⟨x173, v174, ⟨rfl, rfl, rfl, rfl, rfl, rfl, rfl, trivial⟩, c189, hLf, ah0_0, ah0_1, ah0_2, ah0_3, ah0_4, ah1_0, k4, k8, k49, h175, gp1, gp5, d176⟩
      ·
       rintro _ w230 ⟨x173, v174, hE231, c229, f232, ah0_0, ah0_1, ah0_2, ah0_3, ah0_4, ah1_0, k4, k8, k49, h175, gp1, gp5, d176⟩
       subst f232
       refine thn_n (CW.sub [(2, (Value.pointer (some ⟨p1, 0, none⟩))), (3, (Value.pointer (some ⟨p5, 0, none⟩))), (7, (Value.pointer (some ⟨p40, 0, none⟩))), (24, az0_4), (25, (Value.int .i64 ((a0.ports.length : Nat) : Int))), (26, (Value.int .i64 ((i18 : Nat) : Int))), (5, v174)] hE231 ?_)
       refine CW.seq (CW.region ?_)
       refine rl_fieldAddr rfl fa51_2 rfl ?_
       refine rl_loadS (v := az1_0) rfl Try.isAgg24 (k8.cell rfl) rfl ?_
       refine rl_lenR rfl ah1_0 Try.underlying24 rfl ?_
       refine rl_move rfl rfl ?_
       refine RL.nil ?_
       refine thn_n ?_
       obtain ⟨o245, ho246, hb23⟩ := bindS hb23
       refine CW.cutB (fun E' w' => ∃ (x234 : (List Face)) (v235 : Value), Sub [(2, (Value.pointer (some ⟨p1, 0, none⟩))), (3, (Value.pointer (some ⟨p5, 0, none⟩))), (24, az0_4), (25, (Value.int .i64 ((a0.ports.length : Nat) : Int))), (26, (Value.int .i64 ((i18 : Nat) : Int))), (5, v235)] E' ∧ Ch nb w w' ∧ x234 = o245 ∧ slRep k_Addr (G F w.heap.size (un (inBlk (Value.pointer (some ⟨p40, 0, none⟩))) (un (inBlk v235) nb))) w' a0.cluster az0_0 ∧ slRep k_Addr (G F w.heap.size (un (inBlk (Value.pointer (some ⟨p40, 0, none⟩))) (un (inBlk v235) nb))) w' a0.external az0_1 ∧ slRep k_Addr (G F w.heap.size (un (inBlk (Value.pointer (some ⟨p40, 0, none⟩))) (un (inBlk v235) nb))) w' a0.balancers az0_2 ∧ slRep k_Cidr (G F w.heap.size (un (inBlk (Value.pointer (some ⟨p40, 0, none⟩))) (un (inBlk v235) nb))) w' a0.ranges az0_3 ∧ slRep k_Port (G F w.heap.size (un (inBlk (Value.pointer (some ⟨p40, 0, none⟩))) (un (inBlk v235) nb))) w' a0.ports az0_4 ∧ slRep k_Addr (G F w.heap.size (un (inBlk (Value.pointer (some ⟨p40, 0, none⟩))) (un (inBlk v235) nb))) w' a1.addrs az1_0 ∧ Blk w' p1 49 (Service.c a0 az0_0 az0_1 az0_2 az0_3 az0_4) ∧ Blk w' p5 51 (Node.c a1 az1_0) ∧ Blk w' p40 63 (Port.enc x26) ∧ SlO k_Face 62 F w.heap.size (un (inBlk (Value.pointer (some ⟨p40, 0, none⟩))) (un (inBlk v235) nb)) w' x234 v235 ∧ (G F w.heap.size (un (inBlk (Value.pointer (some ⟨p40, 0, none⟩))) (un (inBlk v235) nb))) p1 ∧ (G F w.heap.size (un (inBlk (Value.pointer (some ⟨p40, 0, none⟩))) (un (inBlk v235) nb))) p5 ∧ (∀ b, inBlk (Value.pointer (some ⟨p40, 0, none⟩)) b → ¬ inBlk v235 b)) ?_ ?_
       ·
        refine CW.loopS [(2, (Value.pointer (some ⟨p1, 0, none⟩))), (3, (Value.pointer (some ⟨p5, 0, none⟩))), (7, (Value.pointer (some ⟨p40, 0, none⟩))), (24, az0_4), (25, (Value.int .i64 ((a0.ports.length : Nat) : Int))), (26, (Value.int .i64 ((i18 : Nat) : Int))), (101, az1_0), (102, (Value.int .i64 ((a1.addrs.length : Nat) : Int))), (5, v174), (103, (Value.int .i64 ((0 : Nat) : Int)))] ⟨rfl, rfl, rfl, rfl, rfl, rfl, rfl, rfl, rfl, rfl, trivial⟩ a1.addrs.length (fun m E w' => ∃ (rest238 : List Addr) (i239 : Nat) (x234 : (List Face)) (v235 : Value), m = rest238.length ∧ E = [(2, (Value.pointer (some ⟨p1, 0, none⟩))), (3, (Value.pointer (some ⟨p5, 0, none⟩))), (7, (Value.pointer (some ⟨p40, 0, none⟩))), (24, az0_4), (25, (Value.int .i64 ((a0.ports.length : Nat) : Int))), (26, (Value.int .i64 ((i18 : Nat) : Int))), (101, az1_0), (102, (Value.int .i64 ((a1.addrs.length : Nat) : Int))), (5, v235), (103, (Value.int .i64 ((i239 : Nat) : Int)))] ∧ Ch nb w w' ∧ At a1.addrs i239 rest238 ∧ runAO (F10_linkboyref20_Faces_b5 a0 x26) rest238 x234 = some o245 ∧ slRep k_Addr (G F w.heap.size (un (inBlk (Value.pointer (some ⟨p40, 0, none⟩))) (un (inBlk v235) nb))) w' a0.cluster az0_0 ∧ slRep k_Addr (G F w.heap.size (un (inBlk (Value.pointer (some ⟨p40, 0, none⟩))) (un (inBlk v235) nb))) w' a0.external az0_1 ∧ slRep k_Addr (G F w.heap.size (un (inBlk (Value.pointer (some ⟨p40, 0, none⟩))) (un (inBlk v235) nb))) w' a0.balancers az0_2 ∧ slRep k_Cidr (G F w.heap.size (un (inBlk (Value.pointer (some ⟨p40, 0, none⟩))) (un (inBlk v235) nb))) w' a0.ranges az0_3 ∧ slRep k_Port (G F w.heap.size (un (inBlk (Value.pointer (some ⟨p40, 0, none⟩))) (un (inBlk v235) nb))) w' a0.ports az0_4 ∧ slRep k_Addr (G F w.heap.size (un (inBlk (Value.pointer (some ⟨p40, 0, none⟩))) (un (inBlk v235) nb))) w' a1.addrs az1_0 ∧ Blk w' p1 49 (Service.c a0 az0_0 az0_1 az0_2 az0_3 az0_4) ∧ Blk w' p5 51 (Node.c a1 az1_0) ∧ Blk w' p40 63 (Port.enc x26) ∧ SlO k_Face 62 F w.heap.size (un (inBlk (Value.pointer (some ⟨p40, 0, none⟩))) (un (inBlk v235) nb)) w' x234 v235 ∧ (G F w.heap.size (un (inBlk (Value.pointer (some ⟨p40, 0, none⟩))) (un (inBlk v235) nb))) p1 ∧ (G F w.heap.size (un (inBlk (Value.pointer (some ⟨p40, 0, none⟩))) (un (inBlk v235) nb))) p5 ∧ (∀ b, inBlk (Value.pointer (some ⟨p40, 0, none⟩)) b → ¬ inBlk v235 b))
            ⟨a1.addrs, 0, x173, v174, rfl, rfl, c229, At.start, ho246, ah0_0, ah0_1, ah0_2, ah0_3, ah0_4, ah1_0, k4, k8, k49, h175, gp1, gp5, d176⟩ ?_
        rintro _ _ w251 ⟨rest238, i239, x234, v235, rfl, rfl, c250, hat241, hL240, ah0_0, ah0_1, ah0_2, ah0_3, ah0_4, ah1_0, k4, k8, k49, h236, gp1, gp5, d237⟩
        refine CW.seq (CW.region ?_)
        refine rl_bin rfl rfl B.lss rfl ?_
        refine RL.nil (thn_n ?_)
        refine CW.seq ?_
        refine CW.cond (t := decide (((i239 : Nat) : Int) < ((a1.addrs.length : Nat) : Int))) rfl (fun q253 => ?_) (fun q253 => ?_)
        ·
         obtain ⟨x247, rest254, rfl⟩ := hat241.cons q253
         obtain ⟨q242, hq243⟩ := runAO_some hL240
         have hb244 := hq243
         refine CW.skip (thn_n ?_)
         refine CW.seq ?_
         refine CW.block ?_
         refine CW.seq (CW.region ?_)
         refine rl_ixR rfl ah1_0 rfl hat241.get Try.underlying24 Try.sizeOf38 rfl ?_
         intro p255 o256 cs257 hr258 hs259 hg260
         obtain rfl := hr258
         refine rl_loadA (cs := (Addr.enc x247)) rfl Try.isAgg38 Try.sizeOf38 (hs259) rfl rfl ?_
         refine rl_alloc (Addr.enc Addr.z) Try.zeroValue38 rfl rfl ?_
         intro p261 w262 n263 k264
         have lo265 : ∀ b, inBlk (Value.pointer (some ⟨p261, 0, none⟩)) b → w.heap.size ≤ b := fun b h => Nat.le_trans c250.size (n263.fresh b h)
         have d266 : ∀ b, inBlk (Value.pointer (some ⟨p261, 0, none⟩)) b → ¬ inBlk (Value.pointer (some ⟨p40, 0, none⟩)) b := disNew n263.fresh k49.ltp
         have d267 : ∀ b, inBlk (Value.pointer (some ⟨p261, 0, none⟩)) b → ¬ inBlk v235 b := disNew n263.fresh (fun b hb => (h236.lt b hb).2)
         have ah0_0 := slRep.st k_Addr_pos ah0_0 n263.ch (admNew n263.fresh (fun _ x => x))
         have ah0_1 := slRep.st k_Addr_pos ah0_1 n263.ch (admNew n263.fresh (fun _ x => x))
         have ah0_2 := slRep.st k_Addr_pos ah0_2 n263.ch (admNew n263.fresh (fun _ x => x))
         have ah0_3 := slRep.st k_Cidr_pos ah0_3 n263.ch (admNew n263.fresh (fun _ x => x))
         have ah0_4 := slRep.st k_Port_pos ah0_4 n263.ch (admNew n263.fresh (fun _ x => x))
         have ah1_0 := slRep.st k_Addr_pos ah1_0 n263.ch (admNew n263.fresh (fun _ x => x))
         have gp1n : (G F w.heap.size (un (inBlk (Value.pointer (some ⟨p261, 0, none⟩))) (un (inBlk (Value.pointer (some ⟨p40, 0, none⟩))) (un (inBlk v235) nb)))) p1 := ⟨gp1.1, ((admNew n263.fresh (fun _ x => x)) _ k4.lt gp1.2).2⟩
         have k4 := k4.ch0 n263.ch
         have gp1 := gp1n
         have gp5n : (G F w.heap.size (un (inBlk (Value.pointer (some ⟨p261, 0, none⟩))) (un (inBlk (Value.pointer (some ⟨p40, 0, none⟩))) (un (inBlk v235) nb)))) p5 := ⟨gp5.1, ((admNew n263.fresh (fun _ x => x)) _ k8.lt gp5.2).2⟩
         have k8 := k8.ch0 n263.ch
         have gp5 := gp5n
         have k49 := k49.ch0 n263.ch
         have h236 := h236.st n263.ch (fun _ _ x => x) (admNew n263.fresh (fun _ x => x)) (fun b h => (.inr (.inr (.inl h))))
         have c250 := c250.then0 n263.ch
         refine rl_storeA (vs := (Addr.enc x247)) rfl rfl (all_one rfl) Try.sizeOf38 rfl k264 rfl ?_
         intro w268 s270 c269 k271
         have ad272 : ∀ b, b < w262.heap.size → ¬ (un (inBlk (Value.pointer (some ⟨p261, 0, none⟩))) (un (inBlk (Value.pointer (some ⟨p40, 0, none⟩))) (un (inBlk v235) nb))) b → ¬ (inBlk (Value.pointer (some ⟨p261, 0, none⟩))) b ∧ ¬ (un (inBlk (Value.pointer (some ⟨p261, 0, none⟩))) (un (inBlk (Value.pointer (some ⟨p40, 0, none⟩))) (un (inBlk v235) nb))) b := fun b _ hs => ⟨fun h => hs (.inl h), hs⟩
         have ah0_0 := slRep.st k_Addr_pos ah0_0 c269 ad272
         have ah0_1 := slRep.st k_Addr_pos ah0_1 c269 ad272
         have ah0_2 := slRep.st k_Addr_pos ah0_2 c269 ad272
         have ah0_3 := slRep.st k_Cidr_pos ah0_3 c269 ad272
         have ah0_4 := slRep.st k_Port_pos ah0_4 c269 ad272
         have ah1_0 := slRep.st k_Addr_pos ah1_0 c269 ad272
         have k4 := k4.ch c269 (ad272 _ k4.lt gp1.2).1
         have k8 := k8.ch c269 (ad272 _ k8.lt gp5.2).1
         have k49 := k49.ch c269 ((fun b hb h => (disSym d266) b hb h) _ rfl)
         have h236 := h236.st c269 (fun b hb h => (disSym d267) b hb h) ad272 (fun b h => (.inr (.inr (.inl h))))
         have c250 := c250.then c269 (fun i hi h => absurd (lo265 i h) (Nat.not_le_of_lt hi))
         refine RL.nil ?_
         refine thn_n ?_
         refine CW.seq (CW.region ?_)
         refine rl_fieldAddr rfl fa63_3 rfl ?_
         refine rl_loadS (v := (Value.int .i64 x26.outer)) rfl Try.isAgg3 (k49.cell rfl) rfl ?_
         refine rl_bin rfl rfl B.neq rfl ?_
         refine RL.nil ?_
         refine thn_n ?_
         refine CW.cond (t := !decide (x26.outer = 0)) rfl (fun q273 => ?_) (fun q273 => ?_)
         ·
          have hb244 := ifT q273 hb244
          refine CW.region ?_
          refine rl_move rfl rfl ?_
          refine rl_fieldAddr rfl fa63_1 rfl ?_
          refine rl_loadS (v := (Value.int .i64 x26.proto)) rfl Try.isAgg3 (k49.cell rfl) rfl ?_
          refine rl_loadA (cs := (Addr.enc x247)) rfl Try.isAgg38 Try.sizeOf38 (k271.segAt 0 17) rfl rfl ?_
          refine rl_fieldAddr rfl fa63_3 rfl ?_
          refine rl_loadS (v := (Value.int .i64 x26.outer)) rfl Try.isAgg3 (k49.cell rfl) rfl ?_
          refine rl_build (out := (Point.enc ({ addr := x247, port := x26.outer } : Point))) rfl pl40 Try.zeroValue40 rfl rfl rfl ?_
          refine rl_fieldAddr rfl fa63_0 rfl ?_
          refine rl_loadS (v := (Value.string x26.name)) rfl Try.isAgg9 (k49.cell rfl) rfl ?_
          refine rl_fieldAddr rfl fa49_8 rfl ?_
          refine rl_loadS (v := (Value.bool a0.externalLocal)) rfl Try.isAgg4 (k4.cell rfl) rfl ?_
          refine rl_build (out := (Face.enc ({ proto := x26.proto, point := ({ addr := x247, port := x26.outer } : Point), name := x26.name, how := 3, localF := a0.externalLocal, asked := false } : Face))) rfl pl62 Try.zeroValue62 rfl rfl rfl ?_
          refine rl_bslice (k := k_Face) (F := F) (B := w.heap.size) (S := (un (inBlk (Value.pointer (some ⟨p261, 0, none⟩))) (un (inBlk (Value.pointer (some ⟨p40, 0, none⟩))) (un (inBlk v235) nb)))) ([({ proto := x26.proto, point := ({ addr := x247, port := x26.outer } : Point), name := x26.name, how := 3, localF := a0.externalLocal, asked := false } : Face)] : List Face) rfl k_Face_pos Try.underlying44 Try.sizeOf62 Try.zeroValue62 rfl rfl ⟨rfl, rfl, trivial⟩ c250.size (un_lt k271.ltp (un_lt k49.ltp (un_lt (fun b hb => (h236.lt b hb).2) nbS))) rfl ?_
          intro v274 w275 c276 hf277 h278
          have h278 := h278.readNew k_Face_pos hf277 (un_lt k271.ltp (un_lt k49.ltp (un_lt (fun b hb => (h236.lt b hb).2) nbS)))
          have ah0_0 := slRep.ch k_Addr_pos ah0_0 c276
          have ah0_1 := slRep.ch k_Addr_pos ah0_1 c276
          have ah0_2 := slRep.ch k_Addr_pos ah0_2 c276
          have ah0_3 := slRep.ch k_Cidr_pos ah0_3 c276
          have ah0_4 := slRep.ch k_Port_pos ah0_4 c276
          have ah1_0 := slRep.ch k_Addr_pos ah1_0 c276
          have k4 := k4.ch0 c276
          have k8 := k8.ch0 c276
          have k49 := k49.ch0 c276
          have h236 := h236.ch0 c276
          have k271 := k271.ch0 c276
          have c250 := c250.then0 c276
          obtain ⟨z287, hz288, hb244⟩ := bindS hb244
          have hl := (apO_get hz288).1
          refine rl_append (k := k_Face) (T := 62) (F := F) (B := w.heap.size) (S := (un (inBlk (Value.pointer (some ⟨p261, 0, none⟩))) (un (inBlk (Value.pointer (some ⟨p40, 0, none⟩))) (un (inBlk v235) nb)))) (S2 := (un (inBlk (Value.pointer (some ⟨p261, 0, none⟩))) (un (inBlk (Value.pointer (some ⟨p40, 0, none⟩))) nb))) (fun v => (un (inBlk (Value.pointer (some ⟨p261, 0, none⟩))) (un (inBlk (Value.pointer (some ⟨p40, 0, none⟩))) (un (inBlk v) nb)))) rfl rfl k_Face_pos ap44 h236 h278 (fun _ => un_swap3) (fun _ _ => un_swap3) hl c250.size (un_lt k271.ltp (un_lt k49.ltp (un_lt (fun b hb => (h236.lt b hb).2) nbS))) rfl ?_
          intro v281 w282 h283 c284 hf285 ha286
          have d289 : ∀ b, inBlk v281 b → ¬ inBlk (Value.pointer (some ⟨p261, 0, none⟩)) b := disApp hf285 (disSym d267) k271.ltp
          have d290 : ∀ b, inBlk v281 b → ¬ inBlk (Value.pointer (some ⟨p40, 0, none⟩)) b := disApp hf285 (disSym d237) k49.ltp
          have ah0_0 := slRep.st k_Addr_pos ah0_0 c284 ha286
          have ah0_1 := slRep.st k_Addr_pos ah0_1 c284 ha286
          have ah0_2 := slRep.st k_Addr_pos ah0_2 c284 ha286
          have ah0_3 := slRep.st k_Cidr_pos ah0_3 c284 ha286
          have ah0_4 := slRep.st k_Port_pos ah0_4 c284 ha286
          have ah1_0 := slRep.st k_Addr_pos ah1_0 c284 ha286
          have gp1n : (G F w.heap.size (un (inBlk (Value.pointer (some ⟨p261, 0, none⟩))) (un (inBlk (Value.pointer (some ⟨p40, 0, none⟩))) (un (inBlk v281) nb)))) p1 := ⟨gp1.1, (ha286 _ k4.lt gp1.2).2⟩
          have k4 := k4.ch c284 (ha286 _ k4.lt gp1.2).1
          have gp1 := gp1n
          have gp5n : (G F w.heap.size (un (inBlk (Value.pointer (some ⟨p261, 0, none⟩))) (un (inBlk (Value.pointer (some ⟨p40, 0, none⟩))) (un (inBlk v281) nb)))) p5 := ⟨gp5.1, (ha286 _ k8.lt gp5.2).2⟩
          have k8 := k8.ch c284 (ha286 _ k8.lt gp5.2).1
          have gp5 := gp5n
          have k49 := k49.ch c284 ((fun b hb h => d237 b hb h) _ rfl)
          have k271 := k271.ch c284 ((fun b hb h => d267 b hb h) _ rfl)
          have h278 := slRep.st k_Face_pos h278 c284 ha286
          have c250 := c250.then c284 (fun i hi h => absurd ((fun b hb => (h236.lt b hb).1) i h) (Nat.not_le_of_lt hi))
          refine rl_assign rfl rfl ?_
          refine RL.nil ?_
          refine inB_n ?_
          refine thn_n ?_
          refine CW.region ?_
          refine rl_inc rfl hat241.lt ah1_0.big rfl ?_
          refine rl_move rfl rfl ?_
          refine RL.nil ?_
          refine thn_n ?_
          have crf : Ch nb w282 w282 := Ch.refl
          have ah0_0 := slRep.st k_Addr_pos ah0_0 crf (show ∀ b, b < w282.heap.size → ¬ (un (inBlk (Value.pointer (some ⟨p261, 0, none⟩))) (un (inBlk (Value.pointer (some ⟨p40, 0, none⟩))) (un (inBlk v281) nb))) b → ¬ nb b ∧ ¬ (un (inBlk (Value.pointer (some ⟨p40, 0, none⟩))) (un (inBlk v281) nb)) b from fun b _ hs => ⟨fun x => x, fun h => hs (un_el h (fun h => (.inr (.inl h))) (fun h => un_el h (fun h => (.inr (.inr (.inl h)))) (fun h => False.elim h)))⟩)
          have ah0_1 := slRep.st k_Addr_pos ah0_1 crf (show ∀ b, b < w282.heap.size → ¬ (un (inBlk (Value.pointer (some ⟨p261, 0, none⟩))) (un (inBlk (Value.pointer (some ⟨p40, 0, none⟩))) (un (inBlk v281) nb))) b → ¬ nb b ∧ ¬ (un (inBlk (Value.pointer (some ⟨p40, 0, none⟩))) (un (inBlk v281) nb)) b from fun b _ hs => ⟨fun x => x, fun h => hs (un_el h (fun h => (.inr (.inl h))) (fun h => un_el h (fun h => (.inr (.inr (.inl h)))) (fun h => False.elim h)))⟩)
          have ah0_2 := slRep.st k_Addr_pos ah0_2 crf (show ∀ b, b < w282.heap.size → ¬ (un (inBlk (Value.pointer (some ⟨p261, 0, none⟩))) (un (inBlk (Value.pointer (some ⟨p40, 0, none⟩))) (un (inBlk v281) nb))) b → ¬ nb b ∧ ¬ (un (inBlk (Value.pointer (some ⟨p40, 0, none⟩))) (un (inBlk v281) nb)) b from fun b _ hs => ⟨fun x => x, fun h => hs (un_el h (fun h => (.inr (.inl h))) (fun h => un_el h (fun h => (.inr (.inr (.inl h)))) (fun h => False.elim h)))⟩)
          have ah0_3 := slRep.st k_Cidr_pos ah0_3 crf (show ∀ b, b < w282.heap.size → ¬ (un (inBlk (Value.pointer (some ⟨p261, 0, none⟩))) (un (inBlk (Value.pointer (some ⟨p40, 0, none⟩))) (un (inBlk v281) nb))) b → ¬ nb b ∧ ¬ (un (inBlk (Value.pointer (some ⟨p40, 0, none⟩))) (un (inBlk v281) nb)) b from fun b _ hs => ⟨fun x => x, fun h => hs (un_el h (fun h => (.inr (.inl h))) (fun h => un_el h (fun h => (.inr (.inr (.inl h)))) (fun h => False.elim h)))⟩)
          have ah0_4 := slRep.st k_Port_pos ah0_4 crf (show ∀ b, b < w282.heap.size → ¬ (un (inBlk (Value.pointer (some ⟨p261, 0, none⟩))) (un (inBlk (Value.pointer (some ⟨p40, 0, none⟩))) (un (inBlk v281) nb))) b → ¬ nb b ∧ ¬ (un (inBlk (Value.pointer (some ⟨p40, 0, none⟩))) (un (inBlk v281) nb)) b from fun b _ hs => ⟨fun x => x, fun h => hs (un_el h (fun h => (.inr (.inl h))) (fun h => un_el h (fun h => (.inr (.inr (.inl h)))) (fun h => False.elim h)))⟩)
          have ah1_0 := slRep.st k_Addr_pos ah1_0 crf (show ∀ b, b < w282.heap.size → ¬ (un (inBlk (Value.pointer (some ⟨p261, 0, none⟩))) (un (inBlk (Value.pointer (some ⟨p40, 0, none⟩))) (un (inBlk v281) nb))) b → ¬ nb b ∧ ¬ (un (inBlk (Value.pointer (some ⟨p40, 0, none⟩))) (un (inBlk v281) nb)) b from fun b _ hs => ⟨fun x => x, fun h => hs (un_el h (fun h => (.inr (.inl h))) (fun h => un_el h (fun h => (.inr (.inr (.inl h)))) (fun h => False.elim h)))⟩)
          have gp1n : (G F w.heap.size (un (inBlk (Value.pointer (some ⟨p40, 0, none⟩))) (un (inBlk v281) nb))) p1 := ⟨gp1.1, ((show ∀ b, b < w282.heap.size → ¬ (un (inBlk (Value.pointer (some ⟨p261, 0, none⟩))) (un (inBlk (Value.pointer (some ⟨p40, 0, none⟩))) (un (inBlk v281) nb))) b → ¬ nb b ∧ ¬ (un (inBlk (Value.pointer (some ⟨p40, 0, none⟩))) (un (inBlk v281) nb)) b from fun b _ hs => ⟨fun x => x, fun h => hs (un_el h (fun h => (.inr (.inl h))) (fun h => un_el h (fun h => (.inr (.inr (.inl h)))) (fun h => False.elim h)))⟩) _ k4.lt gp1.2).2⟩
          have k4 := k4.ch0 crf
          have gp1 := gp1n
          have gp5n : (G F w.heap.size (un (inBlk (Value.pointer (some ⟨p40, 0, none⟩))) (un (inBlk v281) nb))) p5 := ⟨gp5.1, ((show ∀ b, b < w282.heap.size → ¬ (un (inBlk (Value.pointer (some ⟨p261, 0, none⟩))) (un (inBlk (Value.pointer (some ⟨p40, 0, none⟩))) (un (inBlk v281) nb))) b → ¬ nb b ∧ ¬ (un (inBlk (Value.pointer (some ⟨p40, 0, none⟩))) (un (inBlk v281) nb)) b from fun b _ hs => ⟨fun x => x, fun h => hs (un_el h (fun h => (.inr (.inl h))) (fun h => un_el h (fun h => (.inr (.inr (.inl h)))) (fun h => False.elim h)))⟩) _ k8.lt gp5.2).2⟩
          have k8 := k8.ch0 crf
          have gp5 := gp5n
          have k49 := k49.ch0 crf
          have h278 := slRep.st k_Face_pos h278 crf (show ∀ b, b < w282.heap.size → ¬ (un (inBlk (Value.pointer (some ⟨p261, 0, none⟩))) (un (inBlk (Value.pointer (some ⟨p40, 0, none⟩))) (un (inBlk v281) nb))) b → ¬ nb b ∧ ¬ (un (inBlk (Value.pointer (some ⟨p40, 0, none⟩))) (un (inBlk v281) nb)) b from fun b _ hs => ⟨fun x => x, fun h => hs (un_el h (fun h => (.inr (.inl h))) (fun h => un_el h (fun h => (.inr (.inr (.inl h)))) (fun h => False.elim h)))⟩)
          have h283 := h283.st crf (fun _ _ x => x) (show ∀ b, b < w282.heap.size → ¬ (un (inBlk (Value.pointer (some ⟨p261, 0, none⟩))) (un (inBlk (Value.pointer (some ⟨p40, 0, none⟩))) (un (inBlk v281) nb))) b → ¬ nb b ∧ ¬ (un (inBlk (Value.pointer (some ⟨p40, 0, none⟩))) (un (inBlk v281) nb)) b from fun b _ hs => ⟨fun x => x, fun h => hs (un_el h (fun h => (.inr (.inl h))) (fun h => un_el h (fun h => (.inr (.inr (.inl h)))) (fun h => False.elim h)))⟩) (fun b h => (.inr (.inl h)))
          have c250 := c250.then0 crf
          have hLn := runAO_next hL240 hq243 hb244
          exact ⟨rest254.length, Nat.lt_succ_self _, [(2, (Value.pointer (some ⟨p1, 0, none⟩))), (3, (Value.pointer (some ⟨p5, 0, none⟩))), (7, (Value.pointer (some ⟨p40, 0, none⟩))), (24, az0_4), (25, (Value.int .i64 ((a0.ports.length : Nat) : Int))), (26, (Value.int .i64 ((i18 : Nat) : Int))), (101, az1_0), (102, (Value.int .i64 ((a1.addrs.length : Nat) : Int))), (5, v281), (103, (Value.int .i64 ((i239 + 1 : Nat) : Int)))], ⟨rfl, rfl, rfl, rfl, rfl, rfl, rfl, rfl, rfl, rfl, trivial⟩, ⟨rest254, i239 + 1, x234 ++ [({ proto := x26.proto, point := ({ addr := x247, port := x26.outer } : Point), name := x26.name, how := 3, localF := a0.externalLocal, asked := false } : Face)], v281, rfl, rfl, c250, hat241.next, hLn, ah0_0, ah0_1, ah0_2, ah0_3, ah0_4, ah1_0, k4, k8, k49, h283, gp1, gp5, (disSym d290)⟩⟩
         ·
          have hb244 := ifF q273 hb244
          refine CW.skip ?_
          refine inB_n ?_
          refine thn_n ?_
          refine CW.region ?_
          refine rl_inc rfl hat241.lt ah1_0.big rfl ?_
          refine rl_move rfl rfl ?_
          refine RL.nil ?_
          refine thn_n ?_
          have crf : Ch nb w268 w268 := Ch.refl
          have ah0_0 := slRep.st k_Addr_pos ah0_0 crf (show ∀ b, b < w268.heap.size → ¬ (un (inBlk (Value.pointer (some ⟨p261, 0, none⟩))) (un (inBlk (Value.pointer (some ⟨p40, 0, none⟩))) (un (inBlk v235) nb))) b → ¬ nb b ∧ ¬ (un (inBlk (Value.pointer (some ⟨p40, 0, none⟩))) (un (inBlk v235) nb)) b from fun b _ hs => ⟨fun x => x, fun h => hs (un_el h (fun h => (.inr (.inl h))) (fun h => un_el h (fun h => (.inr (.inr (.inl h)))) (fun h => False.elim h)))⟩)
          have ah0_1 := slRep.st k_Addr_pos ah0_1 crf (show ∀ b, b < w268.heap.size → ¬ (un (inBlk (Value.pointer (some ⟨p261, 0, none⟩))) (un (inBlk (Value.pointer (some ⟨p40, 0, none⟩))) (un (inBlk v235) nb))) b → ¬ nb b ∧ ¬ (un (inBlk (Value.pointer (some ⟨p40, 0, none⟩))) (un (inBlk v235) nb)) b from fun b _ hs => ⟨fun x => x, fun h => hs (un_el h (fun h => (.inr (.inl h))) (fun h => un_el h (fun h => (.inr (.inr (.inl h)))) (fun h => False.elim h)))⟩)
          have ah0_2 := slRep.st k_Addr_pos ah0_2 crf (show ∀ b, b < w268.heap.size → ¬ (un (inBlk (Value.pointer (some ⟨p261, 0, none⟩))) (un (inBlk (Value.pointer (some ⟨p40, 0, none⟩))) (un (inBlk v235) nb))) b → ¬ nb b ∧ ¬ (un (inBlk (Value.pointer (some ⟨p40, 0, none⟩))) (un (inBlk v235) nb)) b from fun b _ hs => ⟨fun x => x, fun h => hs (un_el h (fun h => (.inr (.inl h))) (fun h => un_el h (fun h => (.inr (.inr (.inl h)))) (fun h => False.elim h)))⟩)
          have ah0_3 := slRep.st k_Cidr_pos ah0_3 crf (show ∀ b, b < w268.heap.size → ¬ (un (inBlk (Value.pointer (some ⟨p261, 0, none⟩))) (un (inBlk (Value.pointer (some ⟨p40, 0, none⟩))) (un (inBlk v235) nb))) b → ¬ nb b ∧ ¬ (un (inBlk (Value.pointer (some ⟨p40, 0, none⟩))) (un (inBlk v235) nb)) b from fun b _ hs => ⟨fun x => x, fun h => hs (un_el h (fun h => (.inr (.inl h))) (fun h => un_el h (fun h => (.inr (.inr (.inl h)))) (fun h => False.elim h)))⟩)
          have ah0_4 := slRep.st k_Port_pos ah0_4 crf (show ∀ b, b < w268.heap.size → ¬ (un (inBlk (Value.pointer (some ⟨p261, 0, none⟩))) (un (inBlk (Value.pointer (some ⟨p40, 0, none⟩))) (un (inBlk v235) nb))) b → ¬ nb b ∧ ¬ (un (inBlk (Value.pointer (some ⟨p40, 0, none⟩))) (un (inBlk v235) nb)) b from fun b _ hs => ⟨fun x => x, fun h => hs (un_el h (fun h => (.inr (.inl h))) (fun h => un_el h (fun h => (.inr (.inr (.inl h)))) (fun h => False.elim h)))⟩)
          have ah1_0 := slRep.st k_Addr_pos ah1_0 crf (show ∀ b, b < w268.heap.size → ¬ (un (inBlk (Value.pointer (some ⟨p261, 0, none⟩))) (un (inBlk (Value.pointer (some ⟨p40, 0, none⟩))) (un (inBlk v235) nb))) b → ¬ nb b ∧ ¬ (un (inBlk (Value.pointer (some ⟨p40, 0, none⟩))) (un (inBlk v235) nb)) b from fun b _ hs => ⟨fun x => x, fun h => hs (un_el h (fun h => (.inr (.inl h))) (fun h => un_el h (fun h => (.inr (.inr (.inl h)))) (fun h => False.elim h)))⟩)
          have gp1n : (G F w.heap.size (un (inBlk (Value.pointer (some ⟨p40, 0, none⟩))) (un (inBlk v235) nb))) p1 := ⟨gp1.1, ((show ∀ b, b < w268.heap.size → ¬ (un (inBlk (Value.pointer (some ⟨p261, 0, none⟩))) (un (inBlk (Value.pointer (some ⟨p40, 0, none⟩))) (un (inBlk v235) nb))) b → ¬ nb b ∧ ¬ (un (inBlk (Value.pointer (some ⟨p40, 0, none⟩))) (un (inBlk v235) nb)) b from fun b _ hs => ⟨fun x => x, fun h => hs (un_el h (fun h => (.inr (.inl h))) (fun h => un_el h (fun h => (.inr (.inr (.inl h)))) (fun h => False.elim h)))⟩) _ k4.lt gp1.2).2⟩
          have k4 := k4.ch0 crf
          have gp1 := gp1n
          have gp5n : (G F w.heap.size (un (inBlk (Value.pointer (some ⟨p40, 0, none⟩))) (un (inBlk v235) nb))) p5 := ⟨gp5.1, ((show ∀ b, b < w268.heap.size → ¬ (un (inBlk (Value.pointer (some ⟨p261, 0, none⟩))) (un (inBlk (Value.pointer (some ⟨p40, 0, none⟩))) (un (inBlk v235) nb))) b → ¬ nb b ∧ ¬ (un (inBlk (Value.pointer (some ⟨p40, 0, none⟩))) (un (inBlk v235) nb)) b from fun b _ hs => ⟨fun x => x, fun h => hs (un_el h (fun h => (.inr (.inl h))) (fun h => un_el h (fun h => (.inr (.inr (.inl h)))) (fun h => False.elim h)))⟩) _ k8.lt gp5.2).2⟩
          have k8 := k8.ch0 crf
          have gp5 := gp5n
          have k49 := k49.ch0 crf
          have h236 := h236.st crf (fun _ _ x => x) (show ∀ b, b < w268.heap.size → ¬ (un (inBlk (Value.pointer (some ⟨p261, 0, none⟩))) (un (inBlk (Value.pointer (some ⟨p40, 0, none⟩))) (un (inBlk v235) nb))) b → ¬ nb b ∧ ¬ (un (inBlk (Value.pointer (some ⟨p40, 0, none⟩))) (un (inBlk v235) nb)) b from fun b _ hs => ⟨fun x => x, fun h => hs (un_el h (fun h => (.inr (.inl h))) (fun h => un_el h (fun h => (.inr (.inr (.inl h)))) (fun h => False.elim h)))⟩) (fun b h => (.inr (.inl h)))
          have c250 := c250.then0 crf
          have hLn := runAO_next hL240 hq243 hb244
          exact ⟨rest254.length, Nat.lt_succ_self _, [(2, (Value.pointer (some ⟨p1, 0, none⟩))), (3, (Value.pointer (some ⟨p5, 0, none⟩))), (7, (Value.pointer (some ⟨p40, 0, none⟩))), (24, az0_4), (25, (Value.int .i64 ((a0.ports.length : Nat) : Int))), (26, (Value.int .i64 ((i18 : Nat) : Int))), (101, az1_0), (102, (Value.int .i64 ((a1.addrs.length : Nat) : Int))), (5, v235), (103, (Value.int .i64 ((i239 + 1 : Nat) : Int)))], ⟨rfl, rfl, rfl, rfl, rfl, rfl, rfl, rfl, rfl, rfl, trivial⟩, ⟨rest254, i239 + 1, x234, v235, rfl, rfl, c250, hat241.next, hLn, ah0_0, ah0_1, ah0_2, ah0_3, ah0_4, ah1_0, k4, k8, k49, h236, gp1, gp5, d237⟩⟩
        ·
         obtain rfl := hat241.nil q253
         have hLf : x234 = o245 := runAO_done hL240
         refine CW.exit (thn_exit (thn_exit (inB_hit ?_)))
         exact ⟨x234, v235, ⟨rfl, rfl, rfl, rfl, rfl, rfl, trivial⟩, c250, hLf, ah0_0, ah0_1, ah0_2, ah0_3, ah0_4, ah1_0, k4, k8, k49, h236, gp1, gp5, d237⟩
       ·
        rintro _ w292 ⟨x234, v235, hE293, c291, f294, ah0_0, ah0_1, ah0_2, ah0_3, ah0_4, ah1_0, k4, k8, k49, h236, gp1, gp5, d237⟩
        subst f294
        refine inB_n ?_
        refine thn_n (CW.sub [(2, (Value.pointer (some ⟨p1, 0, none⟩))), (3, (Value.pointer (some ⟨p5, 0, none⟩))), (24, az0_4), (25, (Value.int .i64 ((a0.ports.length : Nat) : Int))), (26, (Value.int .i64 ((i18 : Nat) : Int))), (5, v235)] hE293 ?_)
        refine CW.region ?_
        refine rl_inc rfl hat20.lt ah0_4.big rfl ?_
        refine rl_move rfl rfl ?_
        refine RL.nil ?_
        refine thn_n ?_
        have crf : Ch nb w292 w292 := Ch.refl
        have ah0_0 := slRep.st k_Addr_pos ah0_0 crf (show ∀ b, b < w292.heap.size → ¬ (un (inBlk (Value.pointer (some ⟨p40, 0, none⟩))) (un (inBlk v235) nb)) b → ¬ nb b ∧ ¬ (un (inBlk v235) nb) b from fun b _ hs => ⟨fun x => x, fun h => hs (un_el h (fun h => (.inr (.inl h))) (fun h => False.elim h))⟩)
        have ah0_1 := slRep.st k_Addr_pos ah0_1 crf (show ∀ b, b < w292.heap.size → ¬ (un (inBlk (Value.pointer (some ⟨p40, 0, none⟩))) (un (inBlk v235) nb)) b → ¬ nb b ∧ ¬ (un (inBlk v235) nb) b from fun b _ hs => ⟨fun x => x, fun h => hs (un_el h (fun h => (.inr (.inl h))) (fun h => False.elim h))⟩)
        have ah0_2 := slRep.st k_Addr_pos ah0_2 crf (show ∀ b, b < w292.heap.size → ¬ (un (inBlk (Value.pointer (some ⟨p40, 0, none⟩))) (un (inBlk v235) nb)) b → ¬ nb b ∧ ¬ (un (inBlk v235) nb) b from fun b _ hs => ⟨fun x => x, fun h => hs (un_el h (fun h => (.inr (.inl h))) (fun h => False.elim h))⟩)
        have ah0_3 := slRep.st k_Cidr_pos ah0_3 crf (show ∀ b, b < w292.heap.size → ¬ (un (inBlk (Value.pointer (some ⟨p40, 0, none⟩))) (un (inBlk v235) nb)) b → ¬ nb b ∧ ¬ (un (inBlk v235) nb) b from fun b _ hs => ⟨fun x => x, fun h => hs (un_el h (fun h => (.inr (.inl h))) (fun h => False.elim h))⟩)
        have ah0_4 := slRep.st k_Port_pos ah0_4 crf (show ∀ b, b < w292.heap.size → ¬ (un (inBlk (Value.pointer (some ⟨p40, 0, none⟩))) (un (inBlk v235) nb)) b → ¬ nb b ∧ ¬ (un (inBlk v235) nb) b from fun b _ hs => ⟨fun x => x, fun h => hs (un_el h (fun h => (.inr (.inl h))) (fun h => False.elim h))⟩)
        have ah1_0 := slRep.st k_Addr_pos ah1_0 crf (show ∀ b, b < w292.heap.size → ¬ (un (inBlk (Value.pointer (some ⟨p40, 0, none⟩))) (un (inBlk v235) nb)) b → ¬ nb b ∧ ¬ (un (inBlk v235) nb) b from fun b _ hs => ⟨fun x => x, fun h => hs (un_el h (fun h => (.inr (.inl h))) (fun h => False.elim h))⟩)
        have gp1n : (G F w.heap.size (un (inBlk v235) nb)) p1 := ⟨gp1.1, ((show ∀ b, b < w292.heap.size → ¬ (un (inBlk (Value.pointer (some ⟨p40, 0, none⟩))) (un (inBlk v235) nb)) b → ¬ nb b ∧ ¬ (un (inBlk v235) nb) b from fun b _ hs => ⟨fun x => x, fun h => hs (un_el h (fun h => (.inr (.inl h))) (fun h => False.elim h))⟩) _ k4.lt gp1.2).2⟩
        have k4 := k4.ch0 crf
        have gp1 := gp1n
        have gp5n : (G F w.heap.size (un (inBlk v235) nb)) p5 := ⟨gp5.1, ((show ∀ b, b < w292.heap.size → ¬ (un (inBlk (Value.pointer (some ⟨p40, 0, none⟩))) (un (inBlk v235) nb)) b → ¬ nb b ∧ ¬ (un (inBlk v235) nb) b from fun b _ hs => ⟨fun x => x, fun h => hs (un_el h (fun h => (.inr (.inl h))) (fun h => False.elim h))⟩) _ k8.lt gp5.2).2⟩
        have k8 := k8.ch0 crf
        have gp5 := gp5n
        have h236 := h236.st crf (fun _ _ x => x) (show ∀ b, b < w292.heap.size → ¬ (un (inBlk (Value.pointer (some ⟨p40, 0, none⟩))) (un (inBlk v235) nb)) b → ¬ nb b ∧ ¬ (un (inBlk v235) nb) b from fun b _ hs => ⟨fun x => x, fun h => hs (un_el h (fun h => (.inr (.inl h))) (fun h => False.elim h))⟩) (fun b h => (.inl h))
        have c291 := c291.then0 crf
        have hLn := runAO_next hL19 hq22 hb23
        exact ⟨rest33.length, Nat.lt_succ_self _, [(2, (Value.pointer (some ⟨p1, 0, none⟩))), (3, (Value.pointer (some ⟨p5, 0, none⟩))), (24, az0_4), (25, (Value.int .i64 ((a0.ports.length : Nat) : Int))), (5, v235), (26, (Value.int .i64 ((i18 + 1 : Nat) : Int)))], ⟨rfl, rfl, rfl, rfl, rfl, rfl, trivial⟩, ⟨rest33, i18 + 1, x234, v235, rfl, rfl, c291, hat20.next, hLn, ah0_0, ah0_1, ah0_2, ah0_3, ah0_4, ah1_0, k4, k8, h236, gp1, gp5⟩⟩
   ·
    obtain rfl := hat20.nil q32
    have hLf : x14 = o24 := runAO_done hL19
    refine CW.exit (thn_exit (thn_exit (inB_hit ?_)))
    exact ⟨x14, v15, ⟨rfl, trivial⟩, c29, hLf, ah0_0, ah0_1, ah0_2, ah0_3, ah0_4, ah1_0, k4, k8, h16, gp1, gp5⟩
  ·
   rintro _ w297 ⟨x14, v15, hE298, c296, f299, ah0_0, ah0_1, ah0_2, ah0_3, ah0_4, ah1_0, k4, k8, h16, gp1, gp5⟩
   subst f299
   refine thn_n (CW.sub [(5, v15)] hE298 ?_)
   refine CW.seq (CW.region ?_)
   refine rl_bslice (k := k_Face) (F := F) (B := w.heap.size) (S := (un (inBlk v15) nb)) ([] : List Face) rfl k_Face_pos Try.underlying44 Try.sizeOf62 Try.zeroValue62 rfl rfl trivial c296.size (un_lt (fun b hb => (h16.lt b hb).2) nbS) rfl ?_
   intro v301 w302 c303 hf304 h305
   have d306 : ∀ b, inBlk v301 b → ¬ inBlk v15 b := disNew hf304 (fun b hb => (h16.lt b hb).2)
   have ah0_0 := slRep.st k_Addr_pos ah0_0 c303 (admNew hf304 (fun _ x => x))
   have ah0_1 := slRep.st k_Addr_pos ah0_1 c303 (admNew hf304 (fun _ x => x))
   have ah0_2 := slRep.st k_Addr_pos ah0_2 c303 (admNew hf304 (fun _ x => x))
   have ah0_3 := slRep.st k_Cidr_pos ah0_3 c303 (admNew hf304 (fun _ x => x))
   have ah0_4 := slRep.st k_Port_pos ah0_4 c303 (admNew hf304 (fun _ x => x))
   have ah1_0 := slRep.st k_Addr_pos ah1_0 c303 (admNew hf304 (fun _ x => x))
   have gp1n : (G F w.heap.size (un (inBlk v301) (un (inBlk v15) nb))) p1 := ⟨gp1.1, ((admNew hf304 (fun _ x => x)) _ k4.lt gp1.2).2⟩
   have k4 := k4.ch0 c303
   have gp1 := gp1n
   have gp5n : (G F w.heap.size (un (inBlk v301) (un (inBlk v15) nb))) p5 := ⟨gp5.1, ((admNew hf304 (fun _ x => x)) _ k8.lt gp5.2).2⟩
   have k8 := k8.ch0 c303
   have gp5 := gp5n
   have h16 := h16.st c303 (fun _ _ x => x) (admNew hf304 (fun _ x => x)) (fun b h => (.inr (.inl h)))
   have c296 := c296.then0 c303
   refine rl_assign rfl rfl ?_
   refine RL.nil ?_
   refine thn_n ?_
   refine CW.seq ?_
   refine CW.seq (CW.region ?_)
   refine rl_move rfl rfl ?_
   refine rl_lenR rfl (SlO.read (S' := (un (inBlk v301) nb)) k_Face_pos h16 (fun b hs h => hs (un_el h (fun h => (.inl h)) (fun h => False.elim h))) (fun b hb => fun h => un_el h (fun h => (disSym d306) b hb h) (fun h => h))) Try.underlying44 rfl ?_
   refine rl_move rfl rfl ?_
   refine RL.nil ?_
   refine thn_n ?_
   have h16 := SlO.read (S' := (un (inBlk v301) nb)) k_Face_pos h16 (fun b hs h => hs (un_el h (fun h => (.inl h)) (fun h => False.elim h))) (fun b hb => fun h => un_el h (fun h => (disSym d306) b hb h) (fun h => h))
   have crf : Ch nb w302 w302 := Ch.refl
   have ah0_0 := slRep.st k_Addr_pos ah0_0 crf (show ∀ b, b < w302.heap.size → ¬ (un (inBlk v301) (un (inBlk v15) nb)) b → ¬ nb b ∧ ¬ (un (inBlk v301) nb) b from fun b _ hs => ⟨fun x => x, fun h => hs (un_el h (fun h => (.inl h)) (fun h => False.elim h))⟩)
   have ah0_1 := slRep.st k_Addr_pos ah0_1 crf (show ∀ b, b < w302.heap.size → ¬ (un (inBlk v301) (un (inBlk v15) nb)) b → ¬ nb b ∧ ¬ (un (inBlk v301) nb) b from fun b _ hs => ⟨fun x => x, fun h => hs (un_el h (fun h => (.inl h)) (fun h => False.elim h))⟩)
   have ah0_2 := slRep.st k_Addr_pos ah0_2 crf (show ∀ b, b < w302.heap.size → ¬ (un (inBlk v301) (un (inBlk v15) nb)) b → ¬ nb b ∧ ¬ (un (inBlk v301) nb) b from fun b _ hs => ⟨fun x => x, fun h => hs (un_el h (fun h => (.inl h)) (fun h => False.elim h))⟩)
   have ah0_3 := slRep.st k_Cidr_pos ah0_3 crf (show ∀ b, b < w302.heap.size → ¬ (un (inBlk v301) (un (inBlk v15) nb)) b → ¬ nb b ∧ ¬ (un (inBlk v301) nb) b from fun b _ hs => ⟨fun x => x, fun h => hs (un_el h (fun h => (.inl h)) (fun h => False.elim h))⟩)
   have ah0_4 := slRep.st k_Port_pos ah0_4 crf (show ∀ b, b < w302.heap.size → ¬ (un (inBlk v301) (un (inBlk v15) nb)) b → ¬ nb b ∧ ¬ (un (inBlk v301) nb) b from fun b _ hs => ⟨fun x => x, fun h => hs (un_el h (fun h => (.inl h)) (fun h => False.elim h))⟩)
   have ah1_0 := slRep.st k_Addr_pos ah1_0 crf (show ∀ b, b < w302.heap.size → ¬ (un (inBlk v301) (un (inBlk v15) nb)) b → ¬ nb b ∧ ¬ (un (inBlk v301) nb) b from fun b _ hs => ⟨fun x => x, fun h => hs (un_el h (fun h => (.inl h)) (fun h => False.elim h))⟩)
   have gp1n : (G F w.heap.size (un (inBlk v301) nb)) p1 := ⟨gp1.1, ((show ∀ b, b < w302.heap.size → ¬ (un (inBlk v301) (un (inBlk v15) nb)) b → ¬ nb b ∧ ¬ (un (inBlk v301) nb) b from fun b _ hs => ⟨fun x => x, fun h => hs (un_el h (fun h => (.inl h)) (fun h => False.elim h))⟩) _ k4.lt gp1.2).2⟩
   have k4 := k4.ch0 crf
   have gp1 := gp1n
   have gp5n : (G F w.heap.size (un (inBlk v301) nb)) p5 := ⟨gp5.1, ((show ∀ b, b < w302.heap.size → ¬ (un (inBlk v301) (un (inBlk v15) nb)) b → ¬ nb b ∧ ¬ (un (inBlk v301) nb) b from fun b _ hs => ⟨fun x => x, fun h => hs (un_el h (fun h => (.inl h)) (fun h => False.elim h))⟩) _ k8.lt gp5.2).2⟩
   have k8 := k8.ch0 crf
   have gp5 := gp5n
   have h305 := h305.st crf (fun _ _ x => x) (show ∀ b, b < w302.heap.size → ¬ (un (inBlk v301) (un (inBlk v15) nb)) b → ¬ nb b ∧ ¬ (un (inBlk v301) nb) b from fun b _ hs => ⟨fun x => x, fun h => hs (un_el h (fun h => (.inl h)) (fun h => False.elim h))⟩) (fun b h => (.inl h))
   have c296 := c296.then0 crf
   obtain ⟨o317, ho318, hS⟩ := bindS hS
   refine CW.cutB (fun E' w' => ∃ (ix324 : Nat) (x307 : (List Face)) (v308 : Value), Sub [(16, v308)] E' ∧ Ch nb w w' ∧ (ix324, x307) = o317 ∧ slRep k_Addr (G F w.heap.size (un (inBlk v308) nb)) w' a0.cluster az0_0 ∧ slRep k_Addr (G F w.heap.size (un (inBlk v308) nb)) w' a0.external az0_1 ∧ slRep k_Addr (G F w.heap.size (un (inBlk v308) nb)) w' a0.balancers az0_2 ∧ slRep k_Cidr (G F w.heap.size (un (inBlk v308) nb)) w' a0.ranges az0_3 ∧ slRep k_Port (G F w.heap.size (un (inBlk v308) nb)) w' a0.ports az0_4 ∧ slRep k_Addr (G F w.heap.size (un (inBlk v308) nb)) w' a1.addrs az1_0 ∧ Blk w' p1 49 (Service.c a0 az0_0 az0_1 az0_2 az0_3 az0_4) ∧ Blk w' p5 51 (Node.c a1 az1_0) ∧ slRep k_Face (G F w.heap.size (un (inBlk v308) nb)) w' x14 v15 ∧ SlO k_Face 62 F w.heap.size (un (inBlk v308) nb) w' x307 v308 ∧ (G F w.heap.size (un (inBlk v308) nb)) p1 ∧ (G F w.heap.size (un (inBlk v308) nb)) p5) ?_ ?_
   ·
    refine CW.loopS [(5, v15), (127, v15), (128, (Value.int .i64 ((x14.length : Nat) : Int))), (16, v301), (129, (Value.int .i64 ((0 : Nat) : Int)))] ⟨rfl, rfl, rfl, rfl, rfl, trivial⟩ x14.length (fun m E w' => ∃ (rest310 : List Face) (i311 : Nat) (x307 : (List Face)) (v308 : Value), m = rest310.length ∧ E = [(5, v15), (127, v15), (128, (Value.int .i64 ((x14.length : Nat) : Int))), (16, v308), (129, (Value.int .i64 ((i311 : Nat) : Int)))] ∧ Ch nb w w' ∧ At x14 i311 rest310 ∧ runAO (F10_linkboyref20_Faces_b6 x14 x14) rest310 (i311, x307) = some o317 ∧ slRep k_Addr (G F w.heap.size (un (inBlk v308) nb)) w' a0.cluster az0_0 ∧ slRep k_Addr (G F w.heap.size (un (inBlk v308) nb)) w' a0.external az0_1 ∧ slRep k_Addr (G F w.heap.size (un (inBlk v308) nb)) w' a0.balancers az0_2 ∧ slRep k_Cidr (G F w.heap.size (un (inBlk v308) nb)) w' a0.ranges az0_3 ∧ slRep k_Port (G F w.heap.size (un (inBlk v308) nb)) w' a0.ports az0_4 ∧ slRep k_Addr (G F w.heap.size (un (inBlk v308) nb)) w' a1.addrs az1_0 ∧ Blk w' p1 49 (Service.c a0 az0_0 az0_1 az0_2 az0_3 az0_4) ∧ Blk w' p5 51 (Node.c a1 az1_0) ∧ slRep k_Face (G F w.heap.size (un (inBlk v308) nb)) w' x14 v15 ∧ SlO k_Face 62 F w.heap.size (un (inBlk v308) nb) w' x307 v308 ∧ (G F w.heap.size (un (inBlk v308) nb)) p1 ∧ (G F w.heap.size (un (inBlk v308) nb)) p5)
        ⟨x14, 0, [], v301, rfl, rfl, c296, At.start, ho318, ah0_0, ah0_1, ah0_2, ah0_3, ah0_4, ah1_0, k4, k8, h16, h305, gp1, gp5⟩ ?_
    rintro _ _ w323 ⟨rest310, i311, x307, v308, rfl, rfl, c322, hat313, hL312, ah0_0, ah0_1, ah0_2, ah0_3, ah0_4, ah1_0, k4, k8, h16, h309, gp1, gp5⟩
    refine CW.seq (CW.region ?_)
    refine rl_bin rfl rfl B.lss rfl ?_
    refine RL.nil (thn_n ?_)
    refine CW.seq ?_
    refine CW.cond (t := decide (((i311 : Nat) : Int) < ((x14.length : Nat) : Int))) rfl (fun q325 => ?_) (fun q325 => ?_)
    ·
     obtain ⟨x319, rest326, rfl⟩ := hat313.cons q325
     obtain ⟨q314, hq315⟩ := runAO_some hL312
     have hb316 := hq315
     refine CW.skip (thn_n ?_)
     refine CW.seq ?_
     refine CW.block ?_
     refine CW.seq (CW.region ?_)
     refine rl_move rfl rfl ?_
     refine rl_ixR rfl h16 rfl hat313.get Try.underlying44 Try.sizeOf62 rfl ?_
     intro p327 o328 cs329 hr330 hs331 hg332
     obtain rfl := hr330
     refine rl_loadA (cs := (Face.enc x319)) rfl Try.isAgg62 Try.sizeOf62 (hs331) rfl rfl ?_
     refine rl_alloc (Face.enc Face.z) Try.zeroValue62 rfl rfl ?_
     intro p333 w334 n335 k336
     have lo337 : ∀ b, inBlk (Value.pointer (some ⟨p333, 0, none⟩)) b → w.heap.size ≤ b := fun b h => Nat.le_trans c322.size (n335.fresh b h)
     have d338 : ∀ b, inBlk (Value.pointer (some ⟨p333, 0, none⟩)) b → ¬ inBlk v308 b := disNew n335.fresh (fun b hb => (h309.lt b hb).2)
     have ah0_0 := slRep.st k_Addr_pos ah0_0 n335.ch (admNew n335.fresh (fun _ x => x))
     have ah0_1 := slRep.st k_Addr_pos ah0_1 n335.ch (admNew n335.fresh (fun _ x => x))
     have ah0_2 := slRep.st k_Addr_pos ah0_2 n335.ch (admNew n335.fresh (fun _ x => x))
     have ah0_3 := slRep.st k_Cidr_pos ah0_3 n335.ch (admNew n335.fresh (fun _ x => x))
     have ah0_4 := slRep.st k_Port_pos ah0_4 n335.ch (admNew n335.fresh (fun _ x => x))
     have ah1_0 := slRep.st k_Addr_pos ah1_0 n335.ch (admNew n335.fresh (fun _ x => x))
     have gp1n : (G F w.heap.size (un (inBlk (Value.pointer (some ⟨p333, 0, none⟩))) (un (inBlk v308) nb))) p1 := ⟨gp1.1, ((admNew n335.fresh (fun _ x => x)) _ k4.lt gp1.2).2⟩
     have k4 := k4.ch0 n335.ch
     have gp1 := gp1n
     have gp5n : (G F w.heap.size (un (inBlk (Value.pointer (some ⟨p333, 0, none⟩))) (un (inBlk v308) nb))) p5 := ⟨gp5.1, ((admNew n335.fresh (fun _ x => x)) _ k8.lt gp5.2).2⟩
     have k8 := k8.ch0 n335.ch
     have gp5 := gp5n
     have h16 := slRep.st k_Face_pos h16 n335.ch (admNew n335.fresh (fun _ x => x))
     have h309 := h309.st n335.ch (fun _ _ x => x) (admNew n335.fresh (fun _ x => x)) (fun b h => (.inr (.inl h)))
     have c322 := c322.then0 n335.ch
     refine rl_assign rfl rfl ?_
     refine rl_storeA (vs := (Face.enc x319)) rfl rfl (all_one rfl) Try.sizeOf62 rfl k336 rfl ?_
     intro w339 s341 c340 k342
     have ad343 : ∀ b, b < w334.heap.size → ¬ (un (inBlk (Value.pointer (some ⟨p333, 0, none⟩))) (un (inBlk v308) nb)) b → ¬ (inBlk (Value.pointer (some ⟨p333, 0, none⟩))) b ∧ ¬ (un (inBlk (Value.pointer (some ⟨p333, 0, none⟩))) (un (inBlk v308) nb)) b := fun b _ hs => ⟨fun h => hs (.inl h), hs⟩
     have ah0_0 := slRep.st k_Addr_pos ah0_0 c340 ad343
     have ah0_1 := slRep.st k_Addr_pos ah0_1 c340 ad343
     have ah0_2 := slRep.st k_Addr_pos ah0_2 c340 ad343
     have ah0_3 := slRep.st k_Cidr_pos ah0_3 c340 ad343
     have ah0_4 := slRep.st k_Port_pos ah0_4 c340 ad343
     have ah1_0 := slRep.st k_Addr_pos ah1_0 c340 ad343
     have k4 := k4.ch c340 (ad343 _ k4.lt gp1.2).1
     have k8 := k8.ch c340 (ad343 _ k8.lt gp5.2).1
     have h16 := slRep.st k_Face_pos h16 c340 ad343
     have h309 := h309.st c340 (fun b hb h => (disSym d338) b hb h) ad343 (fun b h => (.inr (.inl h)))
     have c322 := c322.then c340 (fun i hi h => absurd (lo337 i h) (Nat.not_le_of_lt hi))
     refine RL.nil ?_
     refine thn_n ?_
     refine CW.seq (CW.region ?_)
     refine rl_assign rfl rfl ?_
     refine RL.nil ?_
     refine thn_n ?_
     refine CW.seq ?_
     refine CW.seq (CW.region ?_)
     refine rl_move rfl rfl ?_
     refine rl_move rfl rfl ?_
     obtain ⟨y344, hy345, hb316⟩ := bindS hb316
     refine rl_cutR (kl := .i64) (kh := .i64) none (some ((i311 : Nat) : Int)) rfl h16 k_Face_pos trivial rfl hy345 Try.underlying44 Try.sizeOf62 rfl ?_
     intro v346 h347
     refine rl_lenR rfl h347 Try.underlying44 rfl ?_
     refine rl_move rfl rfl ?_
     refine RL.nil ?_
     refine thn_n ?_
     obtain ⟨o357, ho358⟩ : ∃ o, runA (F10_linkboyref20_Faces_b7 x319) y344 true = o := ⟨_, rfl⟩
     have hb316 := ltS ho358 hb316
     refine CW.cutB (fun E' w' => ∃ (x348 : Bool), Sub [(5, v15), (16, v308), (18, (Value.pointer (some ⟨p333, 0, none⟩))), (127, v15), (128, (Value.int .i64 ((x14.length : Nat) : Int))), (129, (Value.int .i64 ((i311 : Nat) : Int))), (19, (Value.bool x348))] E' ∧ Ch nb w w' ∧ x348 = o357 ∧ slRep k_Addr (G F w.heap.size (un (inBlk (Value.pointer (some ⟨p333, 0, none⟩))) (un (inBlk v308) nb))) w' a0.cluster az0_0 ∧ slRep k_Addr (G F w.heap.size (un (inBlk (Value.pointer (some ⟨p333, 0, none⟩))) (un (inBlk v308) nb))) w' a0.external az0_1 ∧ slRep k_Addr (G F w.heap.size (un (inBlk (Value.pointer (some ⟨p333, 0, none⟩))) (un (inBlk v308) nb))) w' a0.balancers az0_2 ∧ slRep k_Cidr (G F w.heap.size (un (inBlk (Value.pointer (some ⟨p333, 0, none⟩))) (un (inBlk v308) nb))) w' a0.ranges az0_3 ∧ slRep k_Port (G F w.heap.size (un (inBlk (Value.pointer (some ⟨p333, 0, none⟩))) (un (inBlk v308) nb))) w' a0.ports az0_4 ∧ slRep k_Addr (G F w.heap.size (un (inBlk (Value.pointer (some ⟨p333, 0, none⟩))) (un (inBlk v308) nb))) w' a1.addrs az1_0 ∧ Blk w' p1 49 (Service.c a0 az0_0 az0_1 az0_2 az0_3 az0_4) ∧ Blk w' p5 51 (Node.c a1 az1_0) ∧ slRep k_Face (G F w.heap.size (un (inBlk (Value.pointer (some ⟨p333, 0, none⟩))) (un (inBlk v308) nb))) w' x14 v15 ∧ SlO k_Face 62 F w.heap.size (un (inBlk (Value.pointer (some ⟨p333, 0, none⟩))) (un (inBlk v308) nb)) w' x307 v308 ∧ Blk w' p333 62 (Face.enc x319) ∧ slRep k_Face (G F w.heap.size (un (inBlk (Value.pointer (some ⟨p333, 0, none⟩))) (un (inBlk v308) nb))) w' y344 v346 ∧ (G F w.heap.size (un (inBlk (Value.pointer (some ⟨p333, 0, none⟩))) (un (inBlk v308) nb))) p1 ∧ (G F w.heap.size (un (inBlk (Value.pointer (some ⟨p333, 0, none⟩))) (un (inBlk v308) nb))) p5 ∧ (∀ b, inBlk (Value.pointer (some ⟨p333, 0, none⟩)) b → ¬ inBlk v308 b)) ?_ ?_
     ·
      refine CW.loopS [(5, v15), (16, v308), (18, (Value.pointer (some ⟨p333, 0, none⟩))), (127, v15), (128, (Value.int .i64 ((x14.length : Nat) : Int))), (129, (Value.int .i64 ((i311 : Nat) : Int))), (136, v346), (137, (Value.int .i64 ((y344.length : Nat) : Int))), (19, (Value.bool true)), (138, (Value.int .i64 ((0 : Nat) : Int)))] ⟨rfl, rfl, rfl, rfl, rfl, rfl, rfl, rfl, rfl, rfl, trivial⟩ y344.length (fun m E w' => ∃ (rest350 : List Face) (i351 : Nat) (x348 : Bool), m = rest350.length ∧ E = [(5, v15), (16, v308), (18, (Value.pointer (some ⟨p333, 0, none⟩))), (127, v15), (128, (Value.int .i64 ((x14.length : Nat) : Int))), (129, (Value.int .i64 ((i311 : Nat) : Int))), (136, v346), (137, (Value.int .i64 ((y344.length : Nat) : Int))), (19, (Value.bool x348)), (138, (Value.int .i64 ((i351 : Nat) : Int)))] ∧ Ch nb w w' ∧ At y344 i351 rest350 ∧ runA (F10_linkboyref20_Faces_b7 x319) rest350 x348 = o357 ∧ slRep k_Addr (G F w.heap.size (un (inBlk (Value.pointer (some ⟨p333, 0, none⟩))) (un (inBlk v308) nb))) w' a0.cluster az0_0 ∧ slRep k_Addr (G F w.heap.size (un (inBlk (Value.pointer (some ⟨p333, 0, none⟩))) (un (inBlk v308) nb))) w' a0.external az0_1 ∧ slRep k_Addr (G F w.heap.size (un (inBlk (Value.pointer (some ⟨p333, 0, none⟩))) (un (inBlk v308) nb))) w' a0.balancers az0_2 ∧ slRep k_Cidr (G F w.heap.size (un (inBlk (Value.pointer (some ⟨p333, 0, none⟩))) (un (inBlk v308) nb))) w' a0.ranges az0_3 ∧ slRep k_Port (G F w.heap.size (un (inBlk (Value.pointer (some ⟨p333, 0, none⟩))) (un (inBlk v308) nb))) w' a0.ports az0_4 ∧ slRep k_Addr (G F w.heap.size (un (inBlk (Value.pointer (some ⟨p333, 0, none⟩))) (un (inBlk v308) nb))) w' a1.addrs az1_0 ∧ Blk w' p1 49 (Service.c a0 az0_0 az0_1 az0_2 az0_3 az0_4) ∧ Blk w' p5 51 (Node.c a1 az1_0) ∧ slRep k_Face (G F w.heap.size (un (inBlk (Value.pointer (some ⟨p333, 0, none⟩))) (un (inBlk v308) nb))) w' x14 v15 ∧ SlO k_Face 62 F w.heap.size (un (inBlk (Value.pointer (some ⟨p333, 0, none⟩))) (un (inBlk v308) nb)) w' x307 v308 ∧ Blk w' p333 62 (Face.enc x319) ∧ slRep k_Face (G F w.heap.size (un (inBlk (Value.pointer (some ⟨p333, 0, none⟩))) (un (inBlk v308) nb))) w' y344 v346 ∧ (G F w.heap.size (un (inBlk (Value.pointer (some ⟨p333, 0, none⟩))) (un (inBlk v308) nb))) p1 ∧ (G F w.heap.size (un (inBlk (Value.pointer (some ⟨p333, 0, none⟩))) (un (inBlk v308) nb))) p5 ∧ (∀ b, inBlk (Value.pointer (some ⟨p333, 0, none⟩)) b → ¬ inBlk v308 b))
          ⟨y344, 0, true, rfl, rfl, c322, At.start, ho358, ah0_0, ah0_1, ah0_2, ah0_3, ah0_4, ah1_0, k4, k8, h16, h309, k342, h347, gp1, gp5, d338⟩ ?_
      rintro _ _ w363 ⟨rest350, i351, x348, rfl, rfl, c362, hat353, hL352, ah0_0, ah0_1, ah0_2, ah0_3, ah0_4, ah1_0, k4, k8, h16, h309, k342, h347, gp1, gp5, d349⟩
      refine CW.seq (CW.region ?_)
      refine rl_bin rfl rfl B.lss rfl ?_
      refine RL.nil (thn_n ?_)
      refine CW.seq ?_
      refine CW.cond (t := decide (((i351 : Nat) : Int) < ((y344.length : Nat) : Int))) rfl (fun q365 => ?_) (fun q365 => ?_)
      ·
       obtain ⟨x359, rest366, rfl⟩ := hat353.cons q365
       obtain ⟨q354, hq355⟩ : ∃ q, (F10_linkboyref20_Faces_b7 x319) x359 x348 = q := ⟨_, rfl⟩
       have hb356 := hq355
       refine CW.skip (thn_n ?_)
       refine CW.seq ?_
       refine CW.block ?_
       refine CW.seq (CW.region ?_)
       refine rl_ixR rfl h347 rfl hat353.get Try.underlying44 Try.sizeOf62 rfl ?_
       intro p367 o368 cs369 hr370 hs371 hg372
       obtain rfl := hr370
       refine rl_loadA (cs := (Face.enc x359)) rfl Try.isAgg62 Try.sizeOf62 (hs371) rfl rfl ?_
       refine rl_alloc (Face.enc Face.z) Try.zeroValue62 rfl rfl ?_
       intro p373 w374 n375 k376
       have lo377 : ∀ b, inBlk (Value.pointer (some ⟨p373, 0, none⟩)) b → w.heap.size ≤ b := fun b h => Nat.le_trans c362.size (n375.fresh b h)
       have d378 : ∀ b, inBlk (Value.pointer (some ⟨p373, 0, none⟩)) b → ¬ inBlk (Value.pointer (some ⟨p333, 0, none⟩)) b := disNew n375.fresh k342.ltp
       have d379 : ∀ b, inBlk (Value.pointer (some ⟨p373, 0, none⟩)) b → ¬ inBlk v308 b := disNew n375.fresh (fun b hb => (h309.lt b hb).2)
       have ah0_0 := slRep.st k_Addr_pos ah0_0 n375.ch (admNew n375.fresh (fun _ x => x))
       have ah0_1 := slRep.st k_Addr_pos ah0_1 n375.ch (admNew n375.fresh (fun _ x => x))
       have ah0_2 := slRep.st k_Addr_pos ah0_2 n375.ch (admNew n375.fresh (fun _ x => x))
       have ah0_3 := slRep.st k_Cidr_pos ah0_3 n375.ch (admNew n375.fresh (fun _ x => x))
       have ah0_4 := slRep.st k_Port_pos ah0_4 n375.ch (admNew n375.fresh (fun _ x => x))
       have ah1_0 := slRep.st k_Addr_pos ah1_0 n375.ch (admNew n375.fresh (fun _ x => x))
       have gp1n : (G F w.heap.size (un (inBlk (Value.pointer (some ⟨p373, 0, none⟩))) (un (inBlk (Value.pointer (some ⟨p333, 0, none⟩))) (un (inBlk v308) nb)))) p1 := ⟨gp1.1, ((admNew n375.fresh (fun _ x => x)) _ k4.lt gp1.2).2⟩
       have k4 := k4.ch0 n375.ch
       have gp1 := gp1n
       have gp5n : (G F w.heap.size (un (inBlk (Value.pointer (some ⟨p373, 0, none⟩))) (un (inBlk (Value.pointer (some ⟨p333, 0, none⟩))) (un (inBlk v308) nb)))) p5 := ⟨gp5.1, ((admNew n375.fresh (fun _ x => x)) _ k8.lt gp5.2).2⟩
       have k8 := k8.ch0 n375.ch
       have gp5 := gp5n
       have h16 := slRep.st k_Face_pos h16 n375.ch (admNew n375.fresh (fun _ x => x))
       have h309 := h309.st n375.ch (fun _ _ x => x) (admNew n375.fresh (fun _ x => x)) (fun b h => (.inr (.inr (.inl h))))
       have k342 := k342.ch0 n375.ch
       have h347 := slRep.st k_Face_pos h347 n375.ch (admNew n375.fresh (fun _ x => x))
       have c362 := c362.then0 n375.ch
       refine rl_storeA (vs := (Face.enc x359)) rfl rfl (all_one rfl) Try.sizeOf62 rfl k376 rfl ?_
       intro w380 s382 c381 k383
       have ad384 : ∀ b, b < w374.heap.size → ¬ (un (inBlk (Value.pointer (some ⟨p373, 0, none⟩))) (un (inBlk (Value.pointer (some ⟨p333, 0, none⟩))) (un (inBlk v308) nb))) b → ¬ (inBlk (Value.pointer (some ⟨p373, 0, none⟩))) b ∧ ¬ (un (inBlk (Value.pointer (some ⟨p373, 0, none⟩))) (un (inBlk (Value.pointer (some ⟨p333, 0, none⟩))) (un (inBlk v308) nb))) b := fun b _ hs => ⟨fun h => hs (.inl h), hs⟩
       have ah0_0 := slRep.st k_Addr_pos ah0_0 c381 ad384
       have ah0_1 := slRep.st k_Addr_pos ah0_1 c381 ad384
       have ah0_2 := slRep.st k_Addr_pos ah0_2 c381 ad384
       have ah0_3 := slRep.st k_Cidr_pos ah0_3 c381 ad384
       have ah0_4 := slRep.st k_Port_pos ah0_4 c381 ad384
       have ah1_0 := slRep.st k_Addr_pos ah1_0 c381 ad384
       have k4 := k4.ch c381 (ad384 _ k4.lt gp1.2).1
       have k8 := k8.ch c381 (ad384 _ k8.lt gp5.2).1
       have h16 := slRep.st k_Face_pos h16 c381 ad384
       have h309 := h309.st c381 (fun b hb h => (disSym d379) b hb h) ad384 (fun b h => (.inr (.inr (.inl h))))
       have k342 := k342.ch c381 ((fun b hb h => (disSym d378) b hb h) _ rfl)
       have h347 := slRep.st k_Face_pos h347 c381 ad384
       have c362 := c362.then c381 (fun i hi h => absurd (lo377 i h) (Nat.not_le_of_lt hi))
       refine RL.nil ?_
       refine thn_n ?_
       refine CW.region ?_
       refine rl_move rfl rfl ?_
       refine rl_move rfl rfl ?_
       obtain ⟨b387, hb388⟩ : ∃ v, (x348 && (lt ((decide (x359.proto = x319.proto)) && (decide (x359.point = x319.point))) fun b389 => !b389)) = v := ⟨_, rfl⟩
       have hb356 := ltS hb388 hb356
       refine RL.join 14 157 (.bool b387) (fun w' => Ch nb w380 w') ?_ ?_
       · rcases Bool.eq_false_or_eq_true x348 with hg386 | hg386
         ·
          have hs385 := and_t hg386 hb388
          have cs : Ch nb w380 w380 := Ch.refl
          refine RL.yes rfl rfl rfl hg386 ?_
          refine rl_fieldAddr rfl fa62_0 rfl ?_
          refine RL.yes rfl rfl rfl hg386 ?_
          refine rl_loadS (v := (Value.int .i64 x359.proto)) rfl Try.isAgg3 (k383.cell rfl) rfl ?_
          refine RL.yes rfl rfl rfl hg386 ?_
          refine rl_fieldAddr rfl fa62_0 rfl ?_
          refine RL.yes rfl rfl rfl hg386 ?_
          refine rl_loadS (v := (Value.int .i64 x319.proto)) rfl Try.isAgg3 (k342.cell rfl) rfl ?_
          refine RL.yes rfl rfl rfl hg386 ?_
          refine rl_bin rfl rfl B.eql rfl ?_
          refine RL.yes rfl rfl rfl hg386 ?_
          refine rl_move rfl rfl ?_
          obtain ⟨b392, hb393⟩ : ∃ v, ((decide (x359.proto = x319.proto)) && (decide (x359.point = x319.point))) = v := ⟨_, rfl⟩
          have hs385 := ltS hb393 hs385
          refine RL.join 6 155 (.bool b392) (fun w' => Ch nb w380 w') ?_ ?_
          · rcases Bool.eq_false_or_eq_true (decide (x359.proto = x319.proto)) with hg391 | hg391
            ·
             have hs390 := and_t hg391 hb393
             have cs : Ch nb w380 w380 := Ch.refl
             refine RL.yes rfl rfl rfl hg391 ?_
             refine rl_fieldAddr rfl fa62_1 rfl ?_
             refine RL.yes rfl rfl rfl hg391 ?_
             refine rl_loadA (cs := (Point.enc x359.point)) rfl Try.isAgg40 Try.sizeOf40 (k383.segAt 1 18) rfl rfl ?_
             refine RL.yes rfl rfl rfl hg391 ?_
             refine rl_fieldAddr rfl fa62_1 rfl ?_
             refine RL.yes rfl rfl rfl hg391 ?_
             refine rl_loadA (cs := (Point.enc x319.point)) rfl Try.isAgg40 Try.sizeOf40 (k342.segAt 1 18) rfl rfl ?_
             refine RL.yes rfl rfl rfl hg391 ?_
             refine rl_bin rfl rfl (eql40 x359.point x319.point) rfl ?_
             refine RL.yes rfl rfl rfl hg386 ?_
             refine rl_pickT rfl hg391 rfl rfl ?_
             exact RL.nil ⟨Ext.bothEq (congrArg Value.bool hs390) (Ext.skip rfl (Ext.skip rfl (Ext.skip rfl (Ext.skip rfl (Ext.skip rfl (Ext.rfl')))))), cs⟩
            ·
             have hs390 := and_f hg391 hb393
             have cs : Ch nb w380 w380 := Ch.refl
             refine RL.no rfl rfl rfl hg391 rfl rfl ?_
             refine RL.no rfl rfl rfl hg391 rfl rfl ?_
             refine RL.no rfl rfl rfl hg391 rfl rfl ?_
             refine RL.no rfl rfl rfl hg391 rfl rfl ?_
             refine RL.no rfl rfl rfl hg391 rfl rfl ?_
             refine RL.yes rfl rfl rfl hg386 ?_
             refine rl_pickF rfl hg391 rfl rfl ?_
             exact RL.nil ⟨Ext.bothEq (congrArg Value.bool hs390) (Ext.skip rfl (Ext.skip rfl (Ext.skip rfl (Ext.skip rfl (Ext.skip rfl (Ext.rfl')))))), cs⟩
          intro w394 c395
          have ah0_0 := slRep.ch k_Addr_pos ah0_0 c395
          have ah0_1 := slRep.ch k_Addr_pos ah0_1 c395
          have ah0_2 := slRep.ch k_Addr_pos ah0_2 c395
          have ah0_3 := slRep.ch k_Cidr_pos ah0_3 c395
          have ah0_4 := slRep.ch k_Port_pos ah0_4 c395
          have ah1_0 := slRep.ch k_Addr_pos ah1_0 c395
          have k4 := k4.ch0 c395
          have k8 := k8.ch0 c395
          have h16 := slRep.ch k_Face_pos h16 c395
          have h309 := h309.ch0 c395
          have k342 := k342.ch0 c395
          have h347 := slRep.ch k_Face_pos h347 c395
          have k383 := k383.ch0 c395
          have c362 := c362.then0 c395
          refine RL.yes rfl rfl rfl hg386 ?_
          refine rl_not rfl rfl ?_
          refine rl_pickT rfl hg386 rfl rfl ?_
          have cs := cs.then0 c395
          exact RL.nil ⟨Ext.bothEq (congrArg Value.bool hs385) (Ext.skip rfl (Ext.skip rfl (Ext.skip rfl (Ext.skip rfl (Ext.skip rfl (Ext.skip rfl (Ext.skip rfl (Ext.skip rfl (Ext.rfl'))))))))), cs⟩
         ·
          have hs385 := and_f hg386 hb388
          have cs : Ch nb w380 w380 := Ch.refl
          refine RL.no rfl rfl rfl hg386 rfl rfl ?_
          refine RL.no rfl rfl rfl hg386 rfl rfl ?_
          refine RL.no rfl rfl rfl hg386 rfl rfl ?_
          refine RL.no rfl rfl rfl hg386 rfl rfl ?_
          refine RL.no rfl rfl rfl hg386 rfl rfl ?_
          refine RL.no rfl rfl rfl hg386 rfl rfl ?_
          refine RL.noU rfl rfl rfl rfl rfl ?_
          refine RL.noU rfl rfl rfl rfl rfl ?_
          refine RL.noU rfl rfl rfl rfl rfl ?_
          refine RL.noU rfl rfl rfl rfl rfl ?_
          refine RL.noU rfl rfl rfl rfl rfl ?_
          refine RL.no rfl rfl rfl hg386 rfl rfl ?_
          refine RL.no rfl rfl rfl hg386 rfl rfl ?_
          refine rl_pickF rfl hg386 rfl rfl ?_
          exact RL.nil ⟨Ext.bothEq (congrArg Value.bool hs385) (Ext.skip rfl (Ext.skip rfl (Ext.skip rfl (Ext.skip rfl (Ext.skip rfl (Ext.skip rfl (Ext.skip rfl (Ext.skip rfl (Ext.skip rfl (Ext.skip rfl (Ext.skip rfl (Ext.skip rfl (Ext.skip rfl (Ext.rfl')))))))))))))), cs⟩
       intro w389 c396
       have ah0_0 := slRep.ch k_Addr_pos ah0_0 c396
       have ah0_1 := slRep.ch k_Addr_pos ah0_1 c396
       have ah0_2 := slRep.ch k_Addr_pos ah0_2 c396
       have ah0_3 := slRep.ch k_Cidr_pos ah0_3 c396
       have ah0_4 := slRep.ch k_Port_pos ah0_4 c396
       have ah1_0 := slRep.ch k_Addr_pos ah1_0 c396
       have k4 := k4.ch0 c396
       have k8 := k8.ch0 c396
       have h16 := slRep.ch k_Face_pos h16 c396
       have h309 := h309.ch0 c396
       have k342 := k342.ch0 c396
       have h347 := slRep.ch k_Face_pos h347 c396
       have k383 := k383.ch0 c396
       have c362 := c362.then0 c396
       refine rl_assign rfl rfl ?_
       refine RL.nil ?_
       refine inB_n ?_
       refine thn_n ?_
       refine CW.region ?_
       refine rl_inc rfl hat353.lt h347.big rfl ?_
       refine rl_move rfl rfl ?_
       refine RL.nil ?_
       refine thn_n ?_
       have crf : Ch nb w389 w389 := Ch.refl
       have ah0_0 := slRep.st k_Addr_pos ah0_0 crf (show ∀ b, b < w389.heap.size → ¬ (un (inBlk (Value.pointer (some ⟨p373, 0, none⟩))) (un (inBlk (Value.pointer (some ⟨p333, 0, none⟩))) (un (inBlk v308) nb))) b → ¬ nb b ∧ ¬ (un (inBlk (Value.pointer (some ⟨p333, 0, none⟩))) (un (inBlk v308) nb)) b from fun b _ hs => ⟨fun x => x, fun h => hs (un_el h (fun h => (.inr (.inl h))) (fun h => un_el h (fun h => (.inr (.inr (.inl h)))) (fun h => False.elim h)))⟩)
       have ah0_1 := slRep.st k_Addr_pos ah0_1 crf (show ∀ b, b < w389.heap.size → ¬ (un (inBlk (Value.pointer (some ⟨p373, 0, none⟩))) (un (inBlk (Value.pointer (some ⟨p333, 0, none⟩))) (un (inBlk v308) nb))) b → ¬ nb b ∧ ¬ (un (inBlk (Value.pointer (some ⟨p333, 0, none⟩))) (un (inBlk v308) nb)) b from fun b _ hs => ⟨fun x => x, fun h => hs (un_el h (fun h => (.inr (.inl h))) (fun h => un_el h (fun h => (.inr (.inr (.inl h)))) (fun h => False.elim h)))⟩)
       have ah0_2 := slRep.st k_Addr_pos ah0_2 crf (show ∀ b, b < w389.heap.size → ¬ (un (inBlk (Value.pointer (some ⟨p373, 0, none⟩))) (un (inBlk (Value.pointer (some ⟨p333, 0, none⟩))) (un (inBlk v308) nb))) b → ¬ nb b ∧ ¬ (un (inBlk (Value.pointer (some ⟨p333, 0, none⟩))) (un (inBlk v308) nb)) b from fun b _ hs => ⟨fun x => x, fun h => hs (un_el h (fun h => (.inr (.inl h))) (fun h => un_el h (fun h => (.inr (.inr (.inl h)))) (fun h => False.elim h)))⟩)
       have ah0_3 := slRep.st k_Cidr_pos ah0_3 crf (show ∀ b, b < w389.heap.size → ¬ (un (inBlk (Value.pointer (some ⟨p373, 0, none⟩))) (un (inBlk (Value.pointer (some ⟨p333, 0, none⟩))) (un (inBlk v308) nb))) b → ¬ nb b ∧ ¬ (un (inBlk (Value.pointer (some ⟨p333, 0, none⟩))) (un (inBlk v308) nb)) b from fun b _ hs => ⟨fun x => x, fun h => hs (un_el h (fun h => (.inr (.inl h))) (fun h => un_el h (fun h => (.inr (.inr (.inl h)))) (fun h => False.elim h)))⟩)
       have ah0_4 := slRep.st k_Port_pos ah0_4 crf (show ∀ b, b < w389.heap.size → ¬ (un (inBlk (Value.pointer (some ⟨p373, 0, none⟩))) (un (inBlk (Value.pointer (some ⟨p333, 0, none⟩))) (un (inBlk v308) nb))) b → ¬ nb b ∧ ¬ (un (inBlk (Value.pointer (some ⟨p333, 0, none⟩))) (un (inBlk v308) nb)) b from fun b _ hs => ⟨fun x => x, fun h => hs (un_el h (fun h => (.inr (.inl h))) (fun h => un_el h (fun h => (.inr (.inr (.inl h)))) (fun h => False.elim h)))⟩)
       have ah1_0 := slRep.st k_Addr_pos ah1_0 crf (show ∀ b, b < w389.heap.size → ¬ (un (inBlk (Value.pointer (some ⟨p373, 0, none⟩))) (un (inBlk (Value.pointer (some ⟨p333, 0, none⟩))) (un (inBlk v308) nb))) b → ¬ nb b ∧ ¬ (un (inBlk (Value.pointer (some ⟨p333, 0, none⟩))) (un (inBlk v308) nb)) b from fun b _ hs => ⟨fun x => x, fun h => hs (un_el h (fun h => (.inr (.inl h))) (fun h => un_el h (fun h => (.inr (.inr (.inl h)))) (fun h => False.elim h)))⟩)
       have gp1n : (G F w.heap.size (un (inBlk (Value.pointer (some ⟨p333, 0, none⟩))) (un (inBlk v308) nb))) p1 := ⟨gp1.1, ((show ∀ b, b < w389.heap.size → ¬ (un (inBlk (Value.pointer (some ⟨p373, 0, none⟩))) (un (inBlk (Value.pointer (some ⟨p333, 0, none⟩))) (un (inBlk v308) nb))) b → ¬ nb b ∧ ¬ (un (inBlk (Value.pointer (some ⟨p333, 0, none⟩))) (un (inBlk v308) nb)) b from fun b _ hs => ⟨fun x => x, fun h => hs (un_el h (fun h => (.inr (.inl h))) (fun h => un_el h (fun h => (.inr (.inr (.inl h)))) (fun h => False.elim h)))⟩) _ k4.lt gp1.2).2⟩
       have k4 := k4.ch0 crf
       have gp1 := gp1n
       have gp5n : (G F w.heap.size (un (inBlk (Value.pointer (some ⟨p333, 0, none⟩))) (un (inBlk v308) nb))) p5 := ⟨gp5.1, ((show ∀ b, b < w389.heap.size → ¬ (un (inBlk (Value.pointer (some ⟨p373, 0, none⟩))) (un (inBlk (Value.pointer (some ⟨p333, 0, none⟩))) (un (inBlk v308) nb))) b → ¬ nb b ∧ ¬ (un (inBlk (Value.pointer (some ⟨p333, 0, none⟩))) (un (inBlk v308) nb)) b from fun b _ hs => ⟨fun x => x, fun h => hs (un_el h (fun h => (.inr (.inl h))) (fun h => un_el h (fun h => (.inr (.inr (.inl h)))) (fun h => False.elim h)))⟩) _ k8.lt gp5.2).2⟩
       have k8 := k8.ch0 crf
       have gp5 := gp5n
       have h16 := slRep.st k_Face_pos h16 crf (show ∀ b, b < w389.heap.size → ¬ (un (inBlk (Value.pointer (some ⟨p373, 0, none⟩))) (un (inBlk (Value.pointer (some ⟨p333, 0, none⟩))) (un (inBlk v308) nb))) b → ¬ nb b ∧ ¬ (un (inBlk (Value.pointer (some ⟨p333, 0, none⟩))) (un (inBlk v308) nb)) b from fun b _ hs => ⟨fun x => x, fun h => hs (un_el h (fun h => (.inr (.inl h))) (fun h => un_el h (fun h => (.inr (.inr (.inl h)))) (fun h => False.elim h)))⟩)
       have h309 := h309.st crf (fun _ _ x => x) (show ∀ b, b < w389.heap.size → ¬ (un (inBlk (Value.pointer (some ⟨p373, 0, none⟩))) (un (inBlk (Value.pointer (some ⟨p333, 0, none⟩))) (un (inBlk v308) nb))) b → ¬ nb b ∧ ¬ (un (inBlk (Value.pointer (some ⟨p333, 0, none⟩))) (un (inBlk v308) nb)) b from fun b _ hs => ⟨fun x => x, fun h => hs (un_el h (fun h => (.inr (.inl h))) (fun h => un_el h (fun h => (.inr (.inr (.inl h)))) (fun h => False.elim h)))⟩) (fun b h => (.inr (.inl h)))
       have k342 := k342.ch0 crf
       have h347 := slRep.st k_Face_pos h347 crf (show ∀ b, b < w389.heap.size → ¬ (un (inBlk (Value.pointer (some ⟨p373, 0, none⟩))) (un (inBlk (Value.pointer (some ⟨p333, 0, none⟩))) (un (inBlk v308) nb))) b → ¬ nb b ∧ ¬ (un (inBlk (Value.pointer (some ⟨p333, 0, none⟩))) (un (inBlk v308) nb)) b from fun b _ hs => ⟨fun x => x, fun h => hs (un_el h (fun h => (.inr (.inl h))) (fun h => un_el h (fun h => (.inr (.inr (.inl h)))) (fun h => False.elim h)))⟩)
       have c362 := c362.then0 crf
       have hLn := runA_next hL352 (hb356.trans hq355.symm)
       exact ⟨rest366.length, Nat.lt_succ_self _, [(5, v15), (16, v308), (18, (Value.pointer (some ⟨p333, 0, none⟩))), (127, v15), (128, (Value.int .i64 ((x14.length : Nat) : Int))), (129, (Value.int .i64 ((i311 : Nat) : Int))), (136, v346), (137, (Value.int .i64 ((y344.length : Nat) : Int))), (19, (Value.bool b387)), (138, (Value.int .i64 ((i351 + 1 : Nat) : Int)))], ⟨rfl, rfl, rfl, rfl, rfl, rfl, rfl, rfl, rfl, rfl, trivial⟩, ⟨rest366, i351 + 1, b387, rfl, rfl, c362, hat353.next, hLn, ah0_0, ah0_1, ah0_2, ah0_3, ah0_4, ah1_0, k4, k8, h16, h309, k342, h347, gp1, gp5, d349⟩⟩
      ·
       obtain rfl := hat353.nil q365
       have hLf : x348 = o357 := hL352
       refine CW.exit (thn_exit (thn_exit (inB_hit ?_)))
       exact ⟨x348, ⟨rfl, rfl, rfl, rfl, rfl, rfl, rfl, trivial⟩, c362, hLf, ah0_0, ah0_1, ah0_2, ah0_3, ah0_4, ah1_0, k4, k8, h16, h309, k342, h347, gp1, gp5, d349⟩
     ·
      rintro _ w398 ⟨x348, hE399, c397, f400, ah0_0, ah0_1, ah0_2, ah0_3, ah0_4, ah1_0, k4, k8, h16, h309, k342, h347, gp1, gp5, d349⟩
      subst f400
      refine thn_n (CW.sub [(5, v15), (16, v308), (18, (Value.pointer (some ⟨p333, 0, none⟩))), (127, v15), (128, (Value.int .i64 ((x14.length : Nat) : Int))), (129, (Value.int .i64 ((i311 : Nat) : Int))), (19, (Value.bool x348))] hE399 ?_)
      refine CW.seq (CW.region ?_)
      refine rl_move rfl rfl ?_
      refine RL.nil ?_
      refine thn_n ?_
      refine CW.cond (t := x348) rfl (fun q402 => ?_) (fun q402 => ?_)
      ·
       have hb316 := ifT q402 hb316
       refine CW.region ?_
       refine rl_move rfl rfl ?_
       refine rl_loadA (cs := (Face.enc x319)) rfl Try.isAgg62 Try.sizeOf62 (k342.segAt 0 23) rfl rfl ?_
       refine rl_bslice (k := k_Face) (F := F) (B := w.heap.size) (S := (un (inBlk (Value.pointer (some ⟨p333, 0, none⟩))) (un (inBlk v308) nb))) ([x319] : List Face) rfl k_Face_pos Try.underlying44 Try.sizeOf62 Try.zeroValue62 rfl rfl ⟨rfl, rfl, trivial⟩ c397.size (un_lt k342.ltp (un_lt (fun b hb => (h309.lt b hb).2) nbS)) rfl ?_
       intro v403 w404 c405 hf406 h407
       have h407 := h407.readNew k_Face_pos hf406 (un_lt k342.ltp (un_lt (fun b hb => (h309.lt b hb).2) nbS))
       have ah0_0 := slRep.ch k_Addr_pos ah0_0 c405
       have ah0_1 := slRep.ch k_Addr_pos ah0_1 c405
       have ah0_2 := slRep.ch k_Addr_pos ah0_2 c405
       have ah0_3 := slRep.ch k_Cidr_pos ah0_3 c405
       have ah0_4 := slRep.ch k_Port_pos ah0_4 c405
       have ah1_0 := slRep.ch k_Addr_pos ah1_0 c405
       have k4 := k4.ch0 c405
       have k8 := k8.ch0 c405
       have h16 := slRep.ch k_Face_pos h16 c405
       have h309 := h309.ch0 c405
       have k342 := k342.ch0 c405
       have h347 := slRep.ch k_Face_pos h347 c405
       have c397 := c397.then0 c405
       obtain ⟨z416, hz417, hb316⟩ := bindS hb316
       have hl := (apO_get hz417).1
       refine rl_append (k := k_Face) (T := 62) (F := F) (B := w.heap.size) (S := (un (inBlk (Value.pointer (some ⟨p333, 0, none⟩))) (un (inBlk v308) nb))) (S2 := (un (inBlk (Value.pointer (some ⟨p333, 0, none⟩))) nb)) (fun v => (un (inBlk (Value.pointer (some ⟨p333, 0, none⟩))) (un (inBlk v) nb))) rfl rfl k_Face_pos ap44 h309 h407 (fun _ => un_swap) (fun _ _ => un_swap) hl c397.size (un_lt k342.ltp (un_lt (fun b hb => (h309.lt b hb).2) nbS)) rfl ?_
       intro v410 w411 h412 c413 hf414 ha415
       have d418 : ∀ b, inBlk v410 b → ¬ inBlk (Value.pointer (some ⟨p333, 0, none⟩)) b := disApp hf414 (disSym d349) k342.ltp
       have ah0_0 := slRep.st k_Addr_pos ah0_0 c413 ha415
       have ah0_1 := slRep.st k_Addr_pos ah0_1 c413 ha415
       have ah0_2 := slRep.st k_Addr_pos ah0_2 c413 ha415
       have ah0_3 := slRep.st k_Cidr_pos ah0_3 c413 ha415
       have ah0_4 := slRep.st k_Port_pos ah0_4 c413 ha415
       have ah1_0 := slRep.st k_Addr_pos ah1_0 c413 ha415
       have gp1n : (G F w.heap.size (un (inBlk (Value.pointer (some ⟨p333, 0, none⟩))) (un (inBlk v410) nb))) p1 := ⟨gp1.1, (ha415 _ k4.lt gp1.2).2⟩
       have k4 := k4.ch c413 (ha415 _ k4.lt gp1.2).1
       have gp1 := gp1n
       have gp5n : (G F w.heap.size (un (inBlk (Value.pointer (some ⟨p333, 0, none⟩))) (un (inBlk v410) nb))) p5 := ⟨gp5.1, (ha415 _ k8.lt gp5.2).2⟩
       have k8 := k8.ch c413 (ha415 _ k8.lt gp5.2).1
       have gp5 := gp5n
       have h16 := slRep.st k_Face_pos h16 c413 ha415
       have k342 := k342.ch c413 ((fun b hb h => d349 b hb h) _ rfl)
       have h347 := slRep.st k_Face_pos h347 c413 ha415
       have h407 := slRep.st k_Face_pos h407 c413 ha415
       have c397 := c397.then c413 (fun i hi h => absurd ((fun b hb => (h309.lt b hb).1) i h) (Nat.not_le_of_lt hi))
       refine rl_assign rfl rfl ?_
       refine RL.nil ?_
       refine inB_n ?_
       refine thn_n ?_
       refine CW.region ?_
       refine rl_inc rfl hat313.lt h16.big rfl ?_
       refine rl_move rfl rfl ?_
       refine RL.nil ?_
       refine thn_n ?_
       have crf : Ch nb w411 w411 := Ch.refl
       have ah0_0 := slRep.st k_Addr_pos ah0_0 crf (show ∀ b, b < w411.heap.size → ¬ (un (inBlk (Value.pointer (some ⟨p333, 0, none⟩))) (un (inBlk v410) nb)) b → ¬ nb b ∧ ¬ (un (inBlk v410) nb) b from fun b _ hs => ⟨fun x => x, fun h => hs (un_el h (fun h => (.inr (.inl h))) (fun h => False.elim h))⟩)
       have ah0_1 := slRep.st k_Addr_pos ah0_1 crf (show ∀ b, b < w411.heap.size → ¬ (un (inBlk (Value.pointer (some ⟨p333, 0, none⟩))) (un (inBlk v410) nb)) b → ¬ nb b ∧ ¬ (un (inBlk v410) nb) b from fun b _ hs => ⟨fun x => x, fun h => hs (un_el h (fun h => (.inr (.inl h))) (fun h => False.elim h))⟩)
       have ah0_2 := slRep.st k_Addr_pos ah0_2 crf (show ∀ b, b < w411.heap.size → ¬ (un (inBlk (Value.pointer (some ⟨p333, 0, none⟩))) (un (inBlk v410) nb)) b → ¬ nb b ∧ ¬ (un (inBlk v410) nb) b from fun b _ hs => ⟨fun x => x, fun h => hs (un_el h (fun h => (.inr (.inl h))) (fun h => False.elim h))⟩)
       have ah0_3 := slRep.st k_Cidr_pos ah0_3 crf (show ∀ b, b < w411.heap.size → ¬ (un (inBlk (Value.pointer (some ⟨p333, 0, none⟩))) (un (inBlk v410) nb)) b → ¬ nb b ∧ ¬ (un (inBlk v410) nb) b from fun b _ hs => ⟨fun x => x, fun h => hs (un_el h (fun h => (.inr (.inl h))) (fun h => False.elim h))⟩)
       have ah0_4 := slRep.st k_Port_pos ah0_4 crf (show ∀ b, b < w411.heap.size → ¬ (un (inBlk (Value.pointer (some ⟨p333, 0, none⟩))) (un (inBlk v410) nb)) b → ¬ nb b ∧ ¬ (un (inBlk v410) nb) b from fun b _ hs => ⟨fun x => x, fun h => hs (un_el h (fun h => (.inr (.inl h))) (fun h => False.elim h))⟩)
       have ah1_0 := slRep.st k_Addr_pos ah1_0 crf (show ∀ b, b < w411.heap.size → ¬ (un (inBlk (Value.pointer (some ⟨p333, 0, none⟩))) (un (inBlk v410) nb)) b → ¬ nb b ∧ ¬ (un (inBlk v410) nb) b from fun b _ hs => ⟨fun x => x, fun h => hs (un_el h (fun h => (.inr (.inl h))) (fun h => False.elim h))⟩)
       have gp1n : (G F w.heap.size (un (inBlk v410) nb)) p1 := ⟨gp1.1, ((show ∀ b, b < w411.heap.size → ¬ (un (inBlk (Value.pointer (some ⟨p333, 0, none⟩))) (un (inBlk v410) nb)) b → ¬ nb b ∧ ¬ (un (inBlk v410) nb) b from fun b _ hs => ⟨fun x => x, fun h => hs (un_el h (fun h => (.inr (.inl h))) (fun h => False.elim h))⟩) _ k4.lt gp1.2).2⟩
       have k4 := k4.ch0 crf
       have gp1 := gp1n
       have gp5n : (G F w.heap.size (un (inBlk v410) nb)) p5 := ⟨gp5.1, ((show ∀ b, b < w411.heap.size → ¬ (un (inBlk (Value.pointer (some ⟨p333, 0, none⟩))) (un (inBlk v410) nb)) b → ¬ nb b ∧ ¬ (un (inBlk v410) nb) b from fun b _ hs => ⟨fun x => x, fun h => hs (un_el h (fun h => (.inr (.inl h))) (fun h => False.elim h))⟩) _ k8.lt gp5.2).2⟩
       have k8 := k8.ch0 crf
       have gp5 := gp5n
       have h16 := slRep.st k_Face_pos h16 crf (show ∀ b, b < w411.heap.size → ¬ (un (inBlk (Value.pointer (some ⟨p333, 0, none⟩))) (un (inBlk v410) nb)) b → ¬ nb b ∧ ¬ (un (inBlk v410) nb) b from fun b _ hs => ⟨fun x => x, fun h => hs (un_el h (fun h => (.inr (.inl h))) (fun h => False.elim h))⟩)
       have h347 := slRep.st k_Face_pos h347 crf (show ∀ b, b < w411.heap.size → ¬ (un (inBlk (Value.pointer (some ⟨p333, 0, none⟩))) (un (inBlk v410) nb)) b → ¬ nb b ∧ ¬ (un (inBlk v410) nb) b from fun b _ hs => ⟨fun x => x, fun h => hs (un_el h (fun h => (.inr (.inl h))) (fun h => False.elim h))⟩)
       have h407 := slRep.st k_Face_pos h407 crf (show ∀ b, b < w411.heap.size → ¬ (un (inBlk (Value.pointer (some ⟨p333, 0, none⟩))) (un (inBlk v410) nb)) b → ¬ nb b ∧ ¬ (un (inBlk v410) nb) b from fun b _ hs => ⟨fun x => x, fun h => hs (un_el h (fun h => (.inr (.inl h))) (fun h => False.elim h))⟩)
       have h412 := h412.st crf (fun _ _ x => x) (show ∀ b, b < w411.heap.size → ¬ (un (inBlk (Value.pointer (some ⟨p333, 0, none⟩))) (un (inBlk v410) nb)) b → ¬ nb b ∧ ¬ (un (inBlk v410) nb) b from fun b _ hs => ⟨fun x => x, fun h => hs (un_el h (fun h => (.inr (.inl h))) (fun h => False.elim h))⟩) (fun b h => (.inl h))
       have c397 := c397.then0 crf
       have hLn := runAO_next hL312 hq315 hb316
       exact ⟨rest326.length, Nat.lt_succ_self _, [(5, v15), (127, v15), (128, (Value.int .i64 ((x14.length : Nat) : Int))), (16, v410), (129, (Value.int .i64 ((i311 + 1 : Nat) : Int)))], ⟨rfl, rfl, rfl, rfl, rfl, trivial⟩, ⟨rest326, i311 + 1, x307 ++ [x319], v410, rfl, rfl, c397, hat313.next, hLn, ah0_0, ah0_1, ah0_2, ah0_3, ah0_4, ah1_0, k4, k8, h16, h412, gp1, gp5⟩⟩
      ·
       have hb316 := ifF q402 hb316
       refine CW.skip ?_
       refine inB_n ?_
       refine thn_n ?_
       refine CW.region ?_
       refine rl_inc rfl hat313.lt h16.big rfl ?_
       refine rl_move rfl rfl ?_
       refine RL.nil ?_
       refine thn_n ?_
       have crf : Ch nb w398 w398 := Ch.refl
       have ah0_0 := slRep.st k_Addr_pos ah0_0 crf (show ∀ b, b < w398.heap.size → ¬ (un (inBlk (Value.pointer (some ⟨p333, 0, none⟩))) (un (inBlk v308) nb)) b → ¬ nb b ∧ ¬ (un (inBlk v308) nb) b from fun b _ hs => ⟨fun x => x, fun h => hs (un_el h (fun h => (.inr (.inl h))) (fun h => False.elim h))⟩)
       have ah0_1 := slRep.st k_Addr_pos ah0_1 crf (show ∀ b, b < w398.heap.size → ¬ (un (inBlk (Value.pointer (some ⟨p333, 0, none⟩))) (un (inBlk v308) nb)) b → ¬ nb b ∧ ¬ (un (inBlk v308) nb) b from fun b _ hs => ⟨fun x => x, fun h => hs (un_el h (fun h => (.inr (.inl h))) (fun h => False.elim h))⟩)
       have ah0_2 := slRep.st k_Addr_pos ah0_2 crf (show ∀ b, b < w398.heap.size → ¬ (un (inBlk (Value.pointer (some ⟨p333, 0, none⟩))) (un (inBlk v308) nb)) b → ¬ nb b ∧ ¬ (un (inBlk v308) nb) b from fun b _ hs => ⟨fun x => x, fun h => hs (un_el h (fun h => (.inr (.inl h))) (fun h => False.elim h))⟩)
       have ah0_3 := slRep.st k_Cidr_pos ah0_3 crf (show ∀ b, b < w398.heap.size → ¬ (un (inBlk (Value.pointer (some ⟨p333, 0, none⟩))) (un (inBlk v308) nb)) b → ¬ nb b ∧ ¬ (un (inBlk v308) nb) b from fun b _ hs => ⟨fun x => x, fun h => hs (un_el h (fun h => (.inr (.inl h))) (fun h => False.elim h))⟩)
       have ah0_4 := slRep.st k_Port_pos ah0_4 crf (show ∀ b, b < w398.heap.size → ¬ (un (inBlk (Value.pointer (some ⟨p333, 0, none⟩))) (un (inBlk v308) nb)) b → ¬ nb b ∧ ¬ (un (inBlk v308) nb) b from fun b _ hs => ⟨fun x => x, fun h => hs (un_el h (fun h => (.inr (.inl h))) (fun h => False.elim h))⟩)
       have ah1_0 := slRep.st k_Addr_pos ah1_0 crf (show ∀ b, b < w398.heap.size → ¬ (un (inBlk (Value.pointer (some ⟨p333, 0, none⟩))) (un (inBlk v308) nb)) b → ¬ nb b ∧ ¬ (un (inBlk v308) nb) b from fun b _ hs => ⟨fun x => x, fun h => hs (un_el h (fun h => (.inr (.inl h))) (fun h => False.elim h))⟩)
       have gp1n : (G F w.heap.size (un (inBlk v308) nb)) p1 := ⟨gp1.1, ((show ∀ b, b < w398.heap.size → ¬ (un (inBlk (Value.pointer (some ⟨p333, 0, none⟩))) (un (inBlk v308) nb)) b → ¬ nb b ∧ ¬ (un (inBlk v308) nb) b from fun b _ hs => ⟨fun x => x, fun h => hs (un_el h (fun h => (.inr (.inl h))) (fun h => False.elim h))⟩) _ k4.lt gp1.2).2⟩
       have k4 := k4.ch0 crf
       have gp1 := gp1n
       have gp5n : (G F w.heap.size (un (inBlk v308) nb)) p5 := ⟨gp5.1, ((show ∀ b, b < w398.heap.size → ¬ (un (inBlk (Value.pointer (some ⟨p333, 0, none⟩))) (un (inBlk v308) nb)) b → ¬ nb b ∧ ¬ (un (inBlk v308) nb) b from fun b _ hs => ⟨fun x => x, fun h => hs (un_el h (fun h => (.inr (.inl h))) (fun h => False.elim h))⟩) _ k8.lt gp5.2).2⟩
       have k8 := k8.ch0 crf
       have gp5 := gp5n
       have h16 := slRep.st k_Face_pos h16 crf (show ∀ b, b < w398.heap.size → ¬ (un (inBlk (Value.pointer (some ⟨p333, 0, none⟩))) (un (inBlk v308) nb)) b → ¬ nb b ∧ ¬ (un (inBlk v308) nb) b from fun b _ hs => ⟨fun x => x, fun h => hs (un_el h (fun h => (.inr (.inl h))) (fun h => False.elim h))⟩)
       have h309 := h309.st crf (fun _ _ x => x) (show ∀ b, b < w398.heap.size → ¬ (un (inBlk (Value.pointer (some ⟨p333, 0, none⟩))) (un (inBlk v308) nb)) b → ¬ nb b ∧ ¬ (un (inBlk v308) nb) b from fun b _ hs => ⟨fun x => x, fun h => hs (un_el h (fun h => (.inr (.inl h))) (fun h => False.elim h))⟩) (fun b h => (.inl h))
       have h347 := slRep.st k_Face_pos h347 crf (show ∀ b, b < w398.heap.size → ¬ (un (inBlk (Value.pointer (some ⟨p333, 0, none⟩))) (un (inBlk v308) nb)) b → ¬ nb b ∧ ¬ (un (inBlk v308) nb) b from fun b _ hs => ⟨fun x => x, fun h => hs (un_el h (fun h => (.inr (.inl h))) (fun h => False.elim h))⟩)
       have c397 := c397.then0 crf
       have hLn := runAO_next hL312 hq315 hb316
       exact ⟨rest326.length, Nat.lt_succ_self _, [(5, v15), (127, v15), (128, (Value.int .i64 ((x14.length : Nat) : Int))), (16, v308), (129, (Value.int .i64 ((i311 + 1 : Nat) : Int)))], ⟨rfl, rfl, rfl, rfl, rfl, trivial⟩, ⟨rest326, i311 + 1, x307, v308, rfl, rfl, c397, hat313.next, hLn, ah0_0, ah0_1, ah0_2, ah0_3, ah0_4, ah1_0, k4, k8, h16, h309, gp1, gp5⟩⟩
    ·
     obtain rfl := hat313.nil q325
     have hLf : (i311, x307) = o317 := runAO_done hL312
     refine CW.exit (thn_exit (thn_exit (inB_hit ?_)))
     exact ⟨i311, x307, v308, ⟨rfl, trivial⟩, c322, hLf, ah0_0, ah0_1, ah0_2, ah0_3, ah0_4, ah1_0, k4, k8, h16, h309, gp1, gp5⟩
   ·
    rintro _ w420 ⟨ix324, x307, v308, hE421, c419, f422, ah0_0, ah0_1, ah0_2, ah0_3, ah0_4, ah1_0, k4, k8, h16, h309, gp1, gp5⟩
    subst f422
    refine thn_n (CW.sub [(16, v308)] hE421 ?_)
    refine CW.seq (CW.region ?_)
    refine rl_move rfl rfl ?_
    have h309 := SlO.read (S' := nb) k_Face_pos h309 (fun b hs h => hs (False.elim h)) (fun b hb => fun h => h)
    have crf : Ch nb w420 w420 := Ch.refl
    have ah0_0 := slRep.st k_Addr_pos ah0_0 crf (show ∀ b, b < w420.heap.size → ¬ (un (inBlk v308) nb) b → ¬ nb b ∧ ¬ nb b from fun b _ hs => ⟨fun x => x, fun h => hs (False.elim h)⟩)
    have ah0_1 := slRep.st k_Addr_pos ah0_1 crf (show ∀ b, b < w420.heap.size → ¬ (un (inBlk v308) nb) b → ¬ nb b ∧ ¬ nb b from fun b _ hs => ⟨fun x => x, fun h => hs (False.elim h)⟩)
    have ah0_2 := slRep.st k_Addr_pos ah0_2 crf (show ∀ b, b < w420.heap.size → ¬ (un (inBlk v308) nb) b → ¬ nb b ∧ ¬ nb b from fun b _ hs => ⟨fun x => x, fun h => hs (False.elim h)⟩)
    have ah0_3 := slRep.st k_Cidr_pos ah0_3 crf (show ∀ b, b < w420.heap.size → ¬ (un (inBlk v308) nb) b → ¬ nb b ∧ ¬ nb b from fun b _ hs => ⟨fun x => x, fun h => hs (False.elim h)⟩)
    have ah0_4 := slRep.st k_Port_pos ah0_4 crf (show ∀ b, b < w420.heap.size → ¬ (un (inBlk v308) nb) b → ¬ nb b ∧ ¬ nb b from fun b _ hs => ⟨fun x => x, fun h => hs (False.elim h)⟩)
    have ah1_0 := slRep.st k_Addr_pos ah1_0 crf (show ∀ b, b < w420.heap.size → ¬ (un (inBlk v308) nb) b → ¬ nb b ∧ ¬ nb b from fun b _ hs => ⟨fun x => x, fun h => hs (False.elim h)⟩)
    have gp1n : (G F w.heap.size nb) p1 := ⟨gp1.1, ((show ∀ b, b < w420.heap.size → ¬ (un (inBlk v308) nb) b → ¬ nb b ∧ ¬ nb b from fun b _ hs => ⟨fun x => x, fun h => hs (False.elim h)⟩) _ k4.lt gp1.2).2⟩
    have k4 := k4.ch0 crf
    have gp1 := gp1n
    have gp5n : (G F w.heap.size nb) p5 := ⟨gp5.1, ((show ∀ b, b < w420.heap.size → ¬ (un (inBlk v308) nb) b → ¬ nb b ∧ ¬ nb b from fun b _ hs => ⟨fun x => x, fun h => hs (False.elim h)⟩) _ k8.lt gp5.2).2⟩
    have k8 := k8.ch0 crf
    have gp5 := gp5n
    have h16 := slRep.st k_Face_pos h16 crf (show ∀ b, b < w420.heap.size → ¬ (un (inBlk v308) nb) b → ¬ nb b ∧ ¬ nb b from fun b _ hs => ⟨fun x => x, fun h => hs (False.elim h)⟩)
    have c419 := c419.then0 crf
    obtain ⟨y426, hy427, hS⟩ := bindS hS
    refine rl_callF rfl en15 rfl (ctr15 (G F w.heap.size nb) w420 x307 v308 h309 y426 hy427) ?_
    rintro v428 w424 ⟨_, rfl, h429, c425⟩
    have hf430 : ∀ b, inBlk v428 b → w420.heap.size ≤ b := fun b hb => (h429.lt b hb).1
    have h429 := SlO.back (S' := un (inBlk v428) nb) h429 nbS c419.size (fun _ => Or.comm)
    have ah0_0 := slRep.st k_Addr_pos ah0_0 c425 (admNew hf430 (fun _ x => x))
    have ah0_1 := slRep.st k_Addr_pos ah0_1 c425 (admNew hf430 (fun _ x => x))
    have ah0_2 := slRep.st k_Addr_pos ah0_2 c425 (admNew hf430 (fun _ x => x))
    have ah0_3 := slRep.st k_Cidr_pos ah0_3 c425 (admNew hf430 (fun _ x => x))
    have ah0_4 := slRep.st k_Port_pos ah0_4 c425 (admNew hf430 (fun _ x => x))
    have ah1_0 := slRep.st k_Addr_pos ah1_0 c425 (admNew hf430 (fun _ x => x))
    have gp1n : (G F w.heap.size (un (inBlk v428) nb)) p1 := ⟨gp1.1, ((admNew hf430 (fun _ x => x)) _ k4.lt gp1.2).2⟩
    have k4 := k4.ch0 c425
    have gp1 := gp1n
    have gp5n : (G F w.heap.size (un (inBlk v428) nb)) p5 := ⟨gp5.1, ((admNew hf430 (fun _ x => x)) _ k8.lt gp5.2).2⟩
    have k8 := k8.ch0 c425
    have gp5 := gp5n
    have h16 := slRep.st k_Face_pos h16 c425 (admNew hf430 (fun _ x => x))
    have h309 := slRep.st k_Face_pos h309 c425 (admNew hf430 (fun _ x => x))
    have c419 := c419.then0 c425
    refine rl_assign rfl rfl ?_
    refine RL.nil ?_
    refine thn_n ?_
    refine CW.ret ?_
    obtain rfl := Option.some.inj hS
    exact ret1 rfl ⟨v428, rfl, h429.out, c419⟩
/-- lb/lbref20.Same -/
theorem ctr8 (F : Nat → Prop) (w : World) (a0 : (List Face)) (av0 : Value) (ah0 : slRep k_Face F w a0 av0) (a1 : (List Face)) (av1 : Value) (ah1 : slRep k_Face F w a1 av1) (r : Bool) (hs : F8_linkboyref20_Same a0 a1 = some r) :
    Ret Try.prog 8 #[av0, av1] w fun v w' => v = (Value.bool r) ∧ Ch nb w w' := by
  have hS := hs
  have c0 : Ch nb w w := Ch.refl
  have ah0 := slRep.enter k_Face_pos ah0
  have ah1 := slRep.enter k_Face_pos ah1
  refine Ret.of (n := 26) (args := [_, _]) (rs := [.tmp 4]) Try.func8 rfl rfl rfl rfl ?_
  refine CW.seq (CW.region ?_)
  refine rl_assign rfl rfl ?_
  refine RL.nil ?_
  refine thn_n ?_
  refine CW.seq ?_
  refine CW.seq (CW.region ?_)
  refine rl_move rfl rfl ?_
  refine rl_lenR rfl ah0 Try.underlying44 rfl ?_
  refine rl_move rfl rfl ?_
  refine rl_lenR rfl ah1 Try.underlying44 rfl ?_
  refine rl_bin rfl rfl B.neq rfl ?_
  refine RL.nil ?_
  refine thn_n ?_
  refine CW.cond (t := !decide (((a0.length : Nat) : Int) = ((a1.length : Nat) : Int))) rfl (fun q1 => ?_) (fun q1 => ?_)
  ·
   have hS := ifT q1 hS
   refine CW.seq (CW.region ?_)
   refine rl_assign rfl rfl ?_
   refine RL.nil ?_
   refine thn_n ?_
   refine CW.ret ?_
   refine thn_ret ?_
   obtain rfl := Option.some.inj hS
   exact ret1 rfl ⟨rfl, c0⟩
  ·
   have hS := ifF q1 hS
   refine CW.skip ?_
   refine thn_n ?_
   refine CW.seq ?_
   refine CW.seq (CW.region ?_)
   refine rl_move rfl rfl ?_
   refine rl_lenR rfl ah0 Try.underlying44 rfl ?_
   refine rl_move rfl rfl ?_
   refine RL.nil ?_
   refine thn_n ?_
   obtain ⟨o9, ho10, hS⟩ := bindS hS
   refine CW.cutB (fun E' w' => ∃ (ix16 : Nat), Sub [] E' ∧ Ch nb w w' ∧ Lp.fin ix16 = o9 ∧ slRep k_Face (G F w.heap.size nb) w' a0 av0 ∧ slRep k_Face (G F w.heap.size nb) w' a1 av1) ?_ ?_
   ·
    refine CW.loopS [(0, av0), (1, av1), (12, (Value.int .i64 ((a0.length : Nat) : Int))), (13, (Value.int .i64 ((0 : Nat) : Int)))] ⟨rfl, rfl, rfl, rfl, trivial⟩ a0.length (fun m E w' => ∃ (rest2 : List Face) (i3 : Nat) , m = rest2.length ∧ E = [(0, av0), (1, av1), (12, (Value.int .i64 ((a0.length : Nat) : Int))), (13, (Value.int .i64 ((i3 : Nat) : Int)))] ∧ Ch nb w w' ∧ At a0 i3 rest2 ∧ runBO (F8_linkboyref20_Same_b1 a1) rest2 i3 = some o9 ∧ slRep k_Face (G F w.heap.size nb) w' a0 av0 ∧ slRep k_Face (G F w.heap.size nb) w' a1 av1)
        ⟨a0, 0, rfl, rfl, c0, At.start, ho10, ah0, ah1⟩ ?_
    rintro _ _ w15 ⟨rest2, i3, rfl, rfl, c14, hat5, hL4, ah0, ah1⟩
    refine CW.seq (CW.region ?_)
    refine rl_bin rfl rfl B.lss rfl ?_
    refine RL.nil (thn_n ?_)
    refine CW.seq ?_
    refine CW.cond (t := decide (((i3 : Nat) : Int) < ((a0.length : Nat) : Int))) rfl (fun q17 => ?_) (fun q17 => ?_)
    ·
     obtain ⟨x11, rest18, rfl⟩ := hat5.cons q17
     obtain ⟨q6, hq7⟩ := runBO_some hL4
     have hb8 := hq7
     refine CW.skip (thn_n ?_)
     refine CW.seq ?_
     refine CW.block ?_
     refine CW.seq (CW.region ?_)
     refine rl_move rfl rfl ?_
     refine rl_assign rfl rfl ?_
     refine RL.nil ?_
     refine thn_n ?_
     refine CW.seq ?_
     obtain ⟨y31, hy32, hb8⟩ := bindS hb8
     refine CW.draw 8 [(none, fun _ O uu wx => uu = av0), (none, fun _ O uu wx => uu = (Value.int .i64 ((i3 : Nat) : Int))), (none, fun _ O uu wx => ∃ (p19 : Nat) (o20 : Nat), uu = (Value.pointer (some ⟨p19, o20, none⟩)) ∧ (G F w.heap.size nb) p19 ∧ Seg wx p19 o20 (Face.enc x11)), (none, fun _ O uu wx => uu = (Value.agg (Face.enc x11).toArray)), (none, fun _ O uu wx => uu = av1), (none, fun _ O uu wx => uu = (Value.int .i64 ((i3 : Nat) : Int))), (none, fun _ O uu wx => ∃ (p25 : Nat) (o26 : Nat), uu = (Value.pointer (some ⟨p25, o26, none⟩)) ∧ (G F w.heap.size nb) p25 ∧ Seg wx p25 o26 (Face.enc y31)), (none, fun _ O uu wx => uu = (Value.agg (Face.enc y31).toArray))] [[], [], [0, 1], [2], [], [], [4, 5], [6]] [3, 7] nb (fun _ h => h.elim) mixed rfl rfl rfl rfl ?_ ?_
     ·
      refine Each.consA ⟨fun _ _ _ _ _ _ h => h, fun h => absurd rfl h, fun O wk hO ck => ?_⟩ ?_
      ·
       have ah0 := slRep.ch k_Face_pos ah0 ck
       have ah1 := slRep.ch k_Face_pos ah1 ck
       have c14 := c14.then0 ck
       refine rl_move rfl rfl ?_
       exact RL.nil ⟨_, rfl, Ch.refl, rfl⟩
      refine Each.consA ⟨fun _ _ _ _ _ _ h => h, fun h => absurd rfl h, fun O wk hO ck => ?_⟩ ?_
      ·
       have ah0 := slRep.ch k_Face_pos ah0 ck
       have ah1 := slRep.ch k_Face_pos ah1 ck
       have c14 := c14.then0 ck
       refine rl_move rfl rfl ?_
       exact RL.nil ⟨_, rfl, Ch.refl, rfl⟩
      refine Each.consA ⟨fun _ _ _ _ _ cc hh => by obtain ⟨p19, o20, e, hg24, hs23⟩ := hh; exact ⟨p19, o20, e, hg24, hs23.ch0 cc⟩, fun h => absurd rfl h, fun O wk hO ck => ?_⟩ ?_
      ·
       have ah0 := slRep.ch k_Face_pos ah0 ck
       have ah1 := slRep.ch k_Face_pos ah1 ck
       have c14 := c14.then0 ck
       refine Need.one rfl rfl rfl ?_
       rintro _ e33
       obtain rfl := e33.symm
       refine Need.one rfl rfl rfl ?_
       rintro _ e34
       obtain rfl := e34.symm
       refine rl_ixR rfl ah0 rfl hat5.get Try.underlying44 Try.sizeOf62 rfl ?_
       intro p35 o36 cs37 hr38 hs39 hg40
       obtain rfl := hr38
       exact RL.nil ⟨_, rfl, Ch.refl, ⟨p35, o36, rfl, hg40, hs39⟩⟩
      refine Each.consA ⟨fun _ _ _ _ _ _ h => h, fun h => absurd rfl h, fun O wk hO ck => ?_⟩ ?_
      ·
       have ah0 := slRep.ch k_Face_pos ah0 ck
       have ah1 := slRep.ch k_Face_pos ah1 ck
       have c14 := c14.then0 ck
       refine Need.one rfl rfl rfl ?_
       rintro _ ⟨p19, o20, e41, hg24, hs23⟩
       obtain rfl := e41.symm
       refine rl_loadA (cs := (Face.enc x11)) rfl Try.isAgg62 Try.sizeOf62 (hs23) rfl rfl ?_
       exact RL.nil ⟨_, rfl, Ch.refl, rfl⟩
      refine Each.consA ⟨fun _ _ _ _ _ _ h => h, fun h => absurd rfl h, fun O wk hO ck => ?_⟩ ?_
      ·
       have ah0 := slRep.ch k_Face_pos ah0 ck
       have ah1 := slRep.ch k_Face_pos ah1 ck
       have c14 := c14.then0 ck
       refine rl_move rfl rfl ?_
       exact RL.nil ⟨_, rfl, Ch.refl, rfl⟩
      refine Each.consA ⟨fun _ _ _ _ _ _ h => h, fun h => absurd rfl h, fun O wk hO ck => ?_⟩ ?_
      ·
       have ah0 := slRep.ch k_Face_pos ah0 ck
       have ah1 := slRep.ch k_Face_pos ah1 ck
       have c14 := c14.then0 ck
       refine rl_move rfl rfl ?_
       exact RL.nil ⟨_, rfl, Ch.refl, rfl⟩
      refine Each.consA ⟨fun _ _ _ _ _ cc hh => by obtain ⟨p25, o26, e, hg30, hs29⟩ := hh; exact ⟨p25, o26, e, hg30, hs29.ch0 cc⟩, fun h => absurd rfl h, fun O wk hO ck => ?_⟩ ?_
      ·
       have ah0 := slRep.ch k_Face_pos ah0 ck
       have ah1 := slRep.ch k_Face_pos ah1 ck
       have c14 := c14.then0 ck
       refine Need.one rfl rfl rfl ?_
       rintro _ e42
       obtain rfl := e42.symm
       refine Need.one rfl rfl rfl ?_
       rintro _ e43
       obtain rfl := e43.symm
       refine rl_ixR rfl ah1 rfl (ixO_nat hy32) Try.underlying44 Try.sizeOf62 rfl ?_
       intro p44 o45 cs46 hr47 hs48 hg49
       obtain rfl := hr47
       exact RL.nil ⟨_, rfl, Ch.refl, ⟨p44, o45, rfl, hg49, hs48⟩⟩
      refine Each.consA ⟨fun _ _ _ _ _ _ h => h, fun h => absurd rfl h, fun O wk hO ck => ?_⟩ ?_
      ·
       have ah0 := slRep.ch k_Face_pos ah0 ck
       have ah1 := slRep.ch k_Face_pos ah1 ck
       have c14 := c14.then0 ck
       refine Need.one rfl rfl rfl ?_
       rintro _ ⟨p25, o26, e50, hg30, hs29⟩
       obtain rfl := e50.symm
       refine rl_loadA (cs := (Face.enc y31)) rfl Try.isAgg62 Try.sizeOf62 (hs29) rfl rfl ?_
       exact RL.nil ⟨_, rfl, Ch.refl, rfl⟩
      trivial
     ·
      intro hvO53 OpO53 O53 w51 hO54 c52 hN55
      have ah0 := slRep.ch k_Face_pos ah0 c52
      have ah1 := slRep.ch k_Face_pos ah1 c52
      have c14 := c14.then0 c52
      refine Need.one rfl rfl rfl ?_
      rintro _ e56
      obtain rfl := e56.symm
      refine Need.one rfl rfl rfl ?_
      rintro _ e57
      obtain rfl := e57.symm
      refine rl_bin rfl rfl (neq62 x11 y31) rfl ?_
      refine RL.nil ?_
      refine thn_n ?_
      refine CW.cond (t := !decide (x11 = y31)) rfl (fun q58 => ?_) (fun q58 => ?_)
      ·
       have hb8 := ifT q58 hb8
       refine CW.seq (CW.region ?_)
       refine rl_assign rfl rfl ?_
       refine RL.nil ?_
       refine thn_n ?_
       refine CW.ret ?_
       refine inB_ret ?_
       refine thn_ret ?_
       refine thn_ret (inB_ret (thn_ret ?_))
       refine thn_ret ?_
       have f59 := runBO_ret hL4 hq7 hb8
       have hS := retS f59 hS
       obtain rfl := Option.some.inj hS
       exact ret1 rfl ⟨rfl, c14⟩
      ·
       have hb8 := ifF q58 hb8
       refine CW.skip ?_
       refine inB_n ?_
       refine thn_n ?_
       refine CW.region ?_
       refine rl_inc rfl hat5.lt ah0.big rfl ?_
       refine rl_move rfl rfl ?_
       refine RL.nil ?_
       refine thn_n ?_
       have hLn := runBO_next hL4 hq7 hb8
       exact ⟨rest18.length, Nat.lt_succ_self _, [(0, av0), (1, av1), (12, (Value.int .i64 ((a0.length : Nat) : Int))), (13, (Value.int .i64 ((i3 + 1 : Nat) : Int)))], ⟨rfl, rfl, rfl, rfl, trivial⟩, ⟨rest18, i3 + 1, rfl, rfl, c14, hat5.next, hLn, ah0, ah1⟩⟩
    ·
     obtain rfl := hat5.nil q17
     have hLf : Lp.fin i3 = o9 := runBO_done hL4
     refine CW.exit (thn_exit (thn_exit (inB_hit ?_)))
     exact ⟨i3, trivial, c14, hLf, ah0, ah1⟩
   ·
    rintro _ w61 ⟨ix16, hE62, c60, f63, ah0, ah1⟩
    have hS := finS f63 hS
    refine thn_n (CW.sub [] hE62 ?_)
    refine CW.seq (CW.region ?_)
    refine rl_assign rfl rfl ?_
    refine RL.nil ?_
    refine thn_n ?_
    refine CW.ret ?_
    obtain rfl := Option.some.inj hS
    exact ret1 rfl ⟨rfl, c60⟩
end Go.Proofs.Ytejkknmedebgnaa
