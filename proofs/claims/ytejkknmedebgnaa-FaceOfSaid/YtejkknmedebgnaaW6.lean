/- The walks through the code: each call comes to its printed function. Written by a program of this session. -/
import Derived.Test.YtejkknmedebgnaaM
import Derived.Test.YtejkknmedebgnaaL
import Derived.Test.YtejkknmedebgnaaW5
namespace Go.Proofs.Ytejkknmedebgnaa
open Go K
set_option linter.unusedVariables false
/-- lb/lblaw20.FaceOf -/
theorem ctr3 (F : Nat → Prop) (w : World) (a0 : Service) (az0_0 az0_1 az0_2 az0_3 az0_4 : Value) (ah0_0 : slRep k_Addr F w a0.cluster az0_0) (ah0_1 : slRep k_Addr F w a0.external az0_1) (ah0_2 : slRep k_Addr F w a0.balancers az0_2) (ah0_3 : slRep k_Cidr F w a0.ranges az0_3) (ah0_4 : slRep k_Port F w a0.ports az0_4) (a1 : Node) (az1_0 : Value) (ah1_0 : slRep k_Addr F w a1.addrs az1_0) (r : Bool) (hs : F3_linkboylaw20_FaceOf a0 a1 = some r) :
    Ret Try.prog 3 #[(Value.agg (Service.c a0 az0_0 az0_1 az0_2 az0_3 az0_4).toArray), (Value.agg (Node.c a1 az1_0).toArray)] w fun v w' => v = (Value.bool r) ∧ Ch nb w w' := by
  have hS := hs
  have c0 : Ch nb w w := Ch.refl
  have ah0_0 := slRep.enter k_Addr_pos ah0_0
  have ah0_1 := slRep.enter k_Addr_pos ah0_1
  have ah0_2 := slRep.enter k_Addr_pos ah0_2
  have ah0_3 := slRep.enter k_Cidr_pos ah0_3
  have ah0_4 := slRep.enter k_Port_pos ah0_4
  have ah1_0 := slRep.enter k_Addr_pos ah1_0
  refine Ret.of (n := 58) (args := [_, _]) (rs := [.tmp 4]) Try.func3 rfl rfl rfl rfl ?_
  refine CW.seq (CW.region ?_)
  refine rl_boxA (cs := (Service.c a0 az0_0 az0_1 az0_2 az0_3 az0_4)) rfl rfl ?_
  intro p1 w2 n3 k4
  have gp1 : (G F w.heap.size nb) p1 := ⟨.inr (by rw [n3.eq]; exact c0.size), fun h => absurd (nbS _ h) (by rw [n3.eq]; exact Nat.lt_irrefl _)⟩
  have ah0_0 := slRep.ch k_Addr_pos ah0_0 n3.ch
  have ah0_1 := slRep.ch k_Addr_pos ah0_1 n3.ch
  have ah0_2 := slRep.ch k_Addr_pos ah0_2 n3.ch
  have ah0_3 := slRep.ch k_Cidr_pos ah0_3 n3.ch
  have ah0_4 := slRep.ch k_Port_pos ah0_4 n3.ch
  have ah1_0 := slRep.ch k_Addr_pos ah1_0 n3.ch
  have c0 := c0.then0 n3.ch
  refine rl_boxA (cs := (Node.c a1 az1_0)) rfl rfl ?_
  intro p5 w6 n7 k8
  have gp5 : (G F w.heap.size nb) p5 := ⟨.inr (by rw [n7.eq]; exact c0.size), fun h => absurd (nbS _ h) (by rw [n7.eq]; exact Nat.lt_irrefl _)⟩
  have ah0_0 := slRep.ch k_Addr_pos ah0_0 n7.ch
  have ah0_1 := slRep.ch k_Addr_pos ah0_1 n7.ch
  have ah0_2 := slRep.ch k_Addr_pos ah0_2 n7.ch
  have ah0_3 := slRep.ch k_Cidr_pos ah0_3 n7.ch
  have ah0_4 := slRep.ch k_Port_pos ah0_4 n7.ch
  have ah1_0 := slRep.ch k_Addr_pos ah1_0 n7.ch
  have k4 := k4.ch0 n7.ch
  have c0 := c0.then0 n7.ch
  refine rl_assign rfl rfl ?_
  refine RL.nil ?_
  refine thn_n ?_
  refine CW.seq ?_
  refine CW.seq (CW.region ?_)
  obtain ⟨y11, hy12, hS⟩ := bindS hS
  refine rl_callF rfl en4 rfl (ctr4 (G F w.heap.size nb) w6  y11 hy12) ?_
  rintro _ w9 ⟨rfl, c10⟩
  have ah0_0 := slRep.ch k_Addr_pos ah0_0 c10
  have ah0_1 := slRep.ch k_Addr_pos ah0_1 c10
  have ah0_2 := slRep.ch k_Addr_pos ah0_2 c10
  have ah0_3 := slRep.ch k_Cidr_pos ah0_3 c10
  have ah0_4 := slRep.ch k_Port_pos ah0_4 c10
  have ah1_0 := slRep.ch k_Addr_pos ah1_0 c10
  have k4 := k4.ch0 c10
  have k8 := k8.ch0 c10
  have c0 := c0.then0 c10
  refine rl_not rfl rfl ?_
  refine RL.nil ?_
  refine thn_n ?_
  refine CW.cond (t := !y11) rfl (fun q13 => ?_) (fun q13 => ?_)
  ·
   have hS := ifT q13 hS
   refine CW.seq (CW.region ?_)
   refine rl_assign rfl rfl ?_
   refine RL.nil ?_
   refine thn_n ?_
   refine CW.ret ?_
   refine thn_ret ?_
   obtain rfl := Option.some.inj hS
   exact ret1 rfl ⟨rfl, c0⟩
  ·
   have hS := ifF q13 hS
   refine CW.skip ?_
   refine thn_n ?_
   refine CW.seq ?_
   refine CW.seq (CW.region ?_)
   refine rl_loadA (cs := (Service.c a0 az0_0 az0_1 az0_2 az0_3 az0_4)) rfl Try.isAgg28 Try.sizeOf28 (k4.segAt 0 13) rfl rfl ?_
   obtain ⟨y16, hy17⟩ : ∃ y, F5_linkboylaw13_LongService a0 = y := ⟨_, rfl⟩
   have hS := ltS hy17 hS
   refine rl_callF rfl en5 rfl (ctr5 (G F w.heap.size nb) w9 a0 az0_0 az0_1 az0_2 az0_3 az0_4 ah0_0 ah0_1 ah0_2 ah0_3 ah0_4 y16 hy17) ?_
   rintro _ w14 ⟨rfl, c15⟩
   have ah0_0 := slRep.ch k_Addr_pos ah0_0 c15
   have ah0_1 := slRep.ch k_Addr_pos ah0_1 c15
   have ah0_2 := slRep.ch k_Addr_pos ah0_2 c15
   have ah0_3 := slRep.ch k_Cidr_pos ah0_3 c15
   have ah0_4 := slRep.ch k_Port_pos ah0_4 c15
   have ah1_0 := slRep.ch k_Addr_pos ah1_0 c15
   have k4 := k4.ch0 c15
   have k8 := k8.ch0 c15
   have c0 := c0.then0 c15
   refine rl_move rfl rfl ?_
   obtain ⟨b20, hb21⟩ : ∃ v, (y16 || (lt (F6_linkboylaw13_LongNode a1) fun y22 => y22)) = v := ⟨_, rfl⟩
   have hS := ltS hb21 hS
   refine RL.join 3 17 (.bool b20) (fun w' => Ch nb w14 w') ?_ ?_
   · rcases Bool.eq_false_or_eq_true y16 with hg19 | hg19
     ·
      have hs18 := or_t hg19 hb21
      have cs : Ch nb w14 w14 := Ch.refl
      refine RL.no rfl rfl rfl hg19 rfl rfl ?_
      refine RL.no rfl rfl rfl hg19 rfl rfl ?_
      refine rl_pickT rfl hg19 rfl rfl ?_
      exact RL.nil ⟨Ext.bothEq (congrArg Value.bool hs18) (Ext.skip rfl (Ext.skip rfl (Ext.rfl'))), cs⟩
     ·
      have hs18 := or_f hg19 hb21
      have cs : Ch nb w14 w14 := Ch.refl
      refine RL.yes rfl rfl rfl hg19 ?_
      refine rl_loadA (cs := (Node.c a1 az1_0)) rfl Try.isAgg30 Try.sizeOf30 (k8.segAt 0 3) rfl rfl ?_
      refine RL.yes rfl rfl rfl hg19 ?_
      obtain ⟨y25, hy26⟩ : ∃ y, F6_linkboylaw13_LongNode a1 = y := ⟨_, rfl⟩
      have hs18 := ltS hy26 hs18
      refine rl_callF rfl en6 rfl (ctr6 (G F w.heap.size nb) w14 a1 az1_0 ah1_0 y25 hy26) ?_
      rintro _ w23 ⟨rfl, c24⟩
      have ah0_0 := slRep.ch k_Addr_pos ah0_0 c24
      have ah0_1 := slRep.ch k_Addr_pos ah0_1 c24
      have ah0_2 := slRep.ch k_Addr_pos ah0_2 c24
      have ah0_3 := slRep.ch k_Cidr_pos ah0_3 c24
      have ah0_4 := slRep.ch k_Port_pos ah0_4 c24
      have ah1_0 := slRep.ch k_Addr_pos ah1_0 c24
      have k4 := k4.ch0 c24
      have k8 := k8.ch0 c24
      have c0 := c0.then0 c24
      refine rl_pickF rfl hg19 rfl rfl ?_
      have cs := cs.then0 c24
      exact RL.nil ⟨Ext.bothEq (congrArg Value.bool hs18) (Ext.skip rfl (Ext.skip rfl (Ext.rfl'))), cs⟩
   intro w22 c27
   have ah0_0 := slRep.ch k_Addr_pos ah0_0 c27
   have ah0_1 := slRep.ch k_Addr_pos ah0_1 c27
   have ah0_2 := slRep.ch k_Addr_pos ah0_2 c27
   have ah0_3 := slRep.ch k_Cidr_pos ah0_3 c27
   have ah0_4 := slRep.ch k_Port_pos ah0_4 c27
   have ah1_0 := slRep.ch k_Addr_pos ah1_0 c27
   have k4 := k4.ch0 c27
   have k8 := k8.ch0 c27
   have c0 := c0.then0 c27
   refine RL.nil ?_
   refine thn_n ?_
   refine CW.cond (t := b20) rfl (fun q28 => ?_) (fun q28 => ?_)
   ·
    have hS := ifT q28 hS
    refine CW.seq (CW.region ?_)
    refine rl_assign rfl rfl ?_
    refine RL.nil ?_
    refine thn_n ?_
    refine CW.ret ?_
    refine thn_ret ?_
    obtain rfl := Option.some.inj hS
    exact ret1 rfl ⟨rfl, c0⟩
   ·
    have hS := ifF q28 hS
    refine CW.skip ?_
    refine thn_n ?_
    refine CW.seq (CW.region ?_)
    refine rl_loadA (cs := (Service.c a0 az0_0 az0_1 az0_2 az0_3 az0_4)) rfl Try.isAgg28 Try.sizeOf28 (k4.segAt 0 13) rfl rfl ?_
    refine rl_loadA (cs := (Node.c a1 az1_0)) rfl Try.isAgg30 Try.sizeOf30 (k8.segAt 0 3) rfl rfl ?_
    obtain ⟨y31, hy32, hS⟩ := bindS hS
    refine rl_callF rfl en7 rfl (ctr7 (G F w.heap.size nb) w22 a0 az0_0 az0_1 az0_2 az0_3 az0_4 ah0_0 ah0_1 ah0_2 ah0_3 ah0_4 a1 az1_0 ah1_0 y31 hy32) ?_
    rintro v33 w29 ⟨_, rfl, h34, c30⟩
    have h34 := SlO.backR k_Face_pos h34 nbS c0.size
    have ah0_0 := slRep.ch k_Addr_pos ah0_0 c30
    have ah0_1 := slRep.ch k_Addr_pos ah0_1 c30
    have ah0_2 := slRep.ch k_Addr_pos ah0_2 c30
    have ah0_3 := slRep.ch k_Cidr_pos ah0_3 c30
    have ah0_4 := slRep.ch k_Port_pos ah0_4 c30
    have ah1_0 := slRep.ch k_Addr_pos ah1_0 c30
    have k4 := k4.ch0 c30
    have k8 := k8.ch0 c30
    have c0 := c0.then0 c30
    refine rl_assign rfl rfl ?_
    refine RL.nil ?_
    refine thn_n ?_
    refine CW.seq ?_
    refine CW.seq (CW.region ?_)
    refine rl_move rfl rfl ?_
    refine rl_lenR rfl h34 Try.underlying34 rfl ?_
    refine rl_move rfl rfl ?_
    refine RL.nil ?_
    refine thn_n ?_
    obtain ⟨o42, ho43, hS⟩ := bindS hS
    refine CW.cutB (fun E' w' => ∃ (ix49 : Nat), Sub [(2, (Value.pointer (some ⟨p1, 0, none⟩))), (3, (Value.pointer (some ⟨p5, 0, none⟩))), (5, v33)] E' ∧ Ch nb w w' ∧ Lp.fin ix49 = o42 ∧ slRep k_Addr (G F w.heap.size nb) w' a0.cluster az0_0 ∧ slRep k_Addr (G F w.heap.size nb) w' a0.external az0_1 ∧ slRep k_Addr (G F w.heap.size nb) w' a0.balancers az0_2 ∧ slRep k_Cidr (G F w.heap.size nb) w' a0.ranges az0_3 ∧ slRep k_Port (G F w.heap.size nb) w' a0.ports az0_4 ∧ slRep k_Addr (G F w.heap.size nb) w' a1.addrs az1_0 ∧ Blk w' p1 28 (Service.c a0 az0_0 az0_1 az0_2 az0_3 az0_4) ∧ Blk w' p5 30 (Node.c a1 az1_0) ∧ slRep k_Face (G F w.heap.size nb) w' y31 v33 ∧ (G F w.heap.size nb) p1 ∧ (G F w.heap.size nb) p5) ?_ ?_
    ·
     refine CW.loopS [(2, (Value.pointer (some ⟨p1, 0, none⟩))), (3, (Value.pointer (some ⟨p5, 0, none⟩))), (5, v33), (21, v33), (22, (Value.int .i64 ((y31.length : Nat) : Int))), (23, (Value.int .i64 ((0 : Nat) : Int)))] ⟨rfl, rfl, rfl, rfl, rfl, rfl, trivial⟩ y31.length (fun m E w' => ∃ (rest35 : List Face) (i36 : Nat) , m = rest35.length ∧ E = [(2, (Value.pointer (some ⟨p1, 0, none⟩))), (3, (Value.pointer (some ⟨p5, 0, none⟩))), (5, v33), (21, v33), (22, (Value.int .i64 ((y31.length : Nat) : Int))), (23, (Value.int .i64 ((i36 : Nat) : Int)))] ∧ Ch nb w w' ∧ At y31 i36 rest35 ∧ runBO (F3_linkboylaw20_FaceOf_b1 y31) rest35 i36 = some o42 ∧ slRep k_Addr (G F w.heap.size nb) w' a0.cluster az0_0 ∧ slRep k_Addr (G F w.heap.size nb) w' a0.external az0_1 ∧ slRep k_Addr (G F w.heap.size nb) w' a0.balancers az0_2 ∧ slRep k_Cidr (G F w.heap.size nb) w' a0.ranges az0_3 ∧ slRep k_Port (G F w.heap.size nb) w' a0.ports az0_4 ∧ slRep k_Addr (G F w.heap.size nb) w' a1.addrs az1_0 ∧ Blk w' p1 28 (Service.c a0 az0_0 az0_1 az0_2 az0_3 az0_4) ∧ Blk w' p5 30 (Node.c a1 az1_0) ∧ slRep k_Face (G F w.heap.size nb) w' y31 v33 ∧ (G F w.heap.size nb) p1 ∧ (G F w.heap.size nb) p5)
         ⟨y31, 0, rfl, rfl, c0, At.start, ho43, ah0_0, ah0_1, ah0_2, ah0_3, ah0_4, ah1_0, k4, k8, h34, gp1, gp5⟩ ?_
     rintro _ _ w48 ⟨rest35, i36, rfl, rfl, c47, hat38, hL37, ah0_0, ah0_1, ah0_2, ah0_3, ah0_4, ah1_0, k4, k8, h34, gp1, gp5⟩
     refine CW.seq (CW.region ?_)
     refine rl_bin rfl rfl B.lss rfl ?_
     refine RL.nil (thn_n ?_)
     refine CW.seq ?_
     refine CW.cond (t := decide (((i36 : Nat) : Int) < ((y31.length : Nat) : Int))) rfl (fun q50 => ?_) (fun q50 => ?_)
     ·
      obtain ⟨x44, rest51, rfl⟩ := hat38.cons q50
      obtain ⟨q39, hq40⟩ := runBO_some hL37
      have hb41 := hq40
      refine CW.skip (thn_n ?_)
      refine CW.seq ?_
      refine CW.block ?_
      refine CW.seq (CW.region ?_)
      refine rl_move rfl rfl ?_
      refine rl_ixR rfl h34 rfl hat38.get Try.underlying34 Try.sizeOf42 rfl ?_
      intro p52 o53 cs54 hr55 hs56 hg57
      obtain rfl := hr55
      refine rl_loadA (cs := (Face.enc x44)) rfl Try.isAgg42 Try.sizeOf42 (hs56) rfl rfl ?_
      refine rl_alloc (Face.enc Face.z) Try.zeroValue42 rfl rfl ?_
      intro p58 w59 n60 k61
      have lo62 : ∀ b, inBlk (Value.pointer (some ⟨p58, 0, none⟩)) b → w.heap.size ≤ b := fun b h => Nat.le_trans c47.size (n60.fresh b h)
      have ah0_0 := slRep.st k_Addr_pos ah0_0 n60.ch (admNew n60.fresh (fun _ x => x))
      have ah0_1 := slRep.st k_Addr_pos ah0_1 n60.ch (admNew n60.fresh (fun _ x => x))
      have ah0_2 := slRep.st k_Addr_pos ah0_2 n60.ch (admNew n60.fresh (fun _ x => x))
      have ah0_3 := slRep.st k_Cidr_pos ah0_3 n60.ch (admNew n60.fresh (fun _ x => x))
      have ah0_4 := slRep.st k_Port_pos ah0_4 n60.ch (admNew n60.fresh (fun _ x => x))
      have ah1_0 := slRep.st k_Addr_pos ah1_0 n60.ch (admNew n60.fresh (fun _ x => x))
      have gp1n : (G F w.heap.size (un (inBlk (Value.pointer (some ⟨p58, 0, none⟩))) nb)) p1 := ⟨gp1.1, ((admNew n60.fresh (fun _ x => x)) _ k4.lt gp1.2).2⟩
      have k4 := k4.ch0 n60.ch
      have gp1 := gp1n
      have gp5n : (G F w.heap.size (un (inBlk (Value.pointer (some ⟨p58, 0, none⟩))) nb)) p5 := ⟨gp5.1, ((admNew n60.fresh (fun _ x => x)) _ k8.lt gp5.2).2⟩
      have k8 := k8.ch0 n60.ch
      have gp5 := gp5n
      have h34 := slRep.st k_Face_pos h34 n60.ch (admNew n60.fresh (fun _ x => x))
      have c47 := c47.then0 n60.ch
      refine rl_assign rfl rfl ?_
      refine rl_storeA (vs := (Face.enc x44)) rfl rfl (all_one rfl) Try.sizeOf42 rfl k61 rfl ?_
      intro w63 s65 c64 k66
      have ad67 : ∀ b, b < w59.heap.size → ¬ (un (inBlk (Value.pointer (some ⟨p58, 0, none⟩))) nb) b → ¬ (inBlk (Value.pointer (some ⟨p58, 0, none⟩))) b ∧ ¬ (un (inBlk (Value.pointer (some ⟨p58, 0, none⟩))) nb) b := fun b _ hs => ⟨fun h => hs (.inl h), hs⟩
      have ah0_0 := slRep.st k_Addr_pos ah0_0 c64 ad67
      have ah0_1 := slRep.st k_Addr_pos ah0_1 c64 ad67
      have ah0_2 := slRep.st k_Addr_pos ah0_2 c64 ad67
      have ah0_3 := slRep.st k_Cidr_pos ah0_3 c64 ad67
      have ah0_4 := slRep.st k_Port_pos ah0_4 c64 ad67
      have ah1_0 := slRep.st k_Addr_pos ah1_0 c64 ad67
      have k4 := k4.ch c64 (ad67 _ k4.lt gp1.2).1
      have k8 := k8.ch c64 (ad67 _ k8.lt gp5.2).1
      have h34 := slRep.st k_Face_pos h34 c64 ad67
      have c47 := c47.then c64 (fun i hi h => absurd (lo62 i h) (Nat.not_le_of_lt hi))
      refine RL.nil ?_
      refine thn_n ?_
      refine CW.seq (CW.region ?_)
      refine rl_move rfl rfl ?_
      refine rl_move rfl rfl ?_
      obtain ⟨y68, hy69, hb41⟩ := bindS hb41
      refine rl_cutR (kl := .i64) (kh := .i64) none (some ((i36 : Nat) : Int)) rfl h34 k_Face_pos trivial rfl hy69 Try.underlying34 Try.sizeOf42 rfl ?_
      intro v70 h71
      refine rl_lenR rfl h71 Try.underlying34 rfl ?_
      refine rl_move rfl rfl ?_
      refine RL.nil ?_
      refine thn_n ?_
      obtain ⟨o79, ho80⟩ : ∃ o, runB (F3_linkboylaw20_FaceOf_b2 x44) y68 () = o := ⟨_, rfl⟩
      have hb41 := ltS ho80 hb41
      refine CW.cutB (fun E' w' => ∃ (_ : Unit), Sub [(2, (Value.pointer (some ⟨p1, 0, none⟩))), (3, (Value.pointer (some ⟨p5, 0, none⟩))), (5, v33), (21, v33), (22, (Value.int .i64 ((y31.length : Nat) : Int))), (23, (Value.int .i64 ((i36 : Nat) : Int)))] E' ∧ Ch nb w w' ∧ Lp.fin () = o79 ∧ slRep k_Addr (G F w.heap.size (un (inBlk (Value.pointer (some ⟨p58, 0, none⟩))) nb)) w' a0.cluster az0_0 ∧ slRep k_Addr (G F w.heap.size (un (inBlk (Value.pointer (some ⟨p58, 0, none⟩))) nb)) w' a0.external az0_1 ∧ slRep k_Addr (G F w.heap.size (un (inBlk (Value.pointer (some ⟨p58, 0, none⟩))) nb)) w' a0.balancers az0_2 ∧ slRep k_Cidr (G F w.heap.size (un (inBlk (Value.pointer (some ⟨p58, 0, none⟩))) nb)) w' a0.ranges az0_3 ∧ slRep k_Port (G F w.heap.size (un (inBlk (Value.pointer (some ⟨p58, 0, none⟩))) nb)) w' a0.ports az0_4 ∧ slRep k_Addr (G F w.heap.size (un (inBlk (Value.pointer (some ⟨p58, 0, none⟩))) nb)) w' a1.addrs az1_0 ∧ Blk w' p1 28 (Service.c a0 az0_0 az0_1 az0_2 az0_3 az0_4) ∧ Blk w' p5 30 (Node.c a1 az1_0) ∧ slRep k_Face (G F w.heap.size (un (inBlk (Value.pointer (some ⟨p58, 0, none⟩))) nb)) w' y31 v33 ∧ Blk w' p58 42 (Face.enc x44) ∧ slRep k_Face (G F w.heap.size (un (inBlk (Value.pointer (some ⟨p58, 0, none⟩))) nb)) w' y68 v70 ∧ (G F w.heap.size (un (inBlk (Value.pointer (some ⟨p58, 0, none⟩))) nb)) p1 ∧ (G F w.heap.size (un (inBlk (Value.pointer (some ⟨p58, 0, none⟩))) nb)) p5) ?_ ?_
      ·
       refine CW.loopS [(2, (Value.pointer (some ⟨p1, 0, none⟩))), (3, (Value.pointer (some ⟨p5, 0, none⟩))), (5, v33), (7, (Value.pointer (some ⟨p58, 0, none⟩))), (21, v33), (22, (Value.int .i64 ((y31.length : Nat) : Int))), (23, (Value.int .i64 ((i36 : Nat) : Int))), (30, v70), (31, (Value.int .i64 ((y68.length : Nat) : Int))), (32, (Value.int .i64 ((0 : Nat) : Int)))] ⟨rfl, rfl, rfl, rfl, rfl, rfl, rfl, rfl, rfl, rfl, trivial⟩ y68.length (fun m E w' => ∃ (rest72 : List Face) (i73 : Nat) , m = rest72.length ∧ E = [(2, (Value.pointer (some ⟨p1, 0, none⟩))), (3, (Value.pointer (some ⟨p5, 0, none⟩))), (5, v33), (7, (Value.pointer (some ⟨p58, 0, none⟩))), (21, v33), (22, (Value.int .i64 ((y31.length : Nat) : Int))), (23, (Value.int .i64 ((i36 : Nat) : Int))), (30, v70), (31, (Value.int .i64 ((y68.length : Nat) : Int))), (32, (Value.int .i64 ((i73 : Nat) : Int)))] ∧ Ch nb w w' ∧ At y68 i73 rest72 ∧ runB (F3_linkboylaw20_FaceOf_b2 x44) rest72 () = o79 ∧ slRep k_Addr (G F w.heap.size (un (inBlk (Value.pointer (some ⟨p58, 0, none⟩))) nb)) w' a0.cluster az0_0 ∧ slRep k_Addr (G F w.heap.size (un (inBlk (Value.pointer (some ⟨p58, 0, none⟩))) nb)) w' a0.external az0_1 ∧ slRep k_Addr (G F w.heap.size (un (inBlk (Value.pointer (some ⟨p58, 0, none⟩))) nb)) w' a0.balancers az0_2 ∧ slRep k_Cidr (G F w.heap.size (un (inBlk (Value.pointer (some ⟨p58, 0, none⟩))) nb)) w' a0.ranges az0_3 ∧ slRep k_Port (G F w.heap.size (un (inBlk (Value.pointer (some ⟨p58, 0, none⟩))) nb)) w' a0.ports az0_4 ∧ slRep k_Addr (G F w.heap.size (un (inBlk (Value.pointer (some ⟨p58, 0, none⟩))) nb)) w' a1.addrs az1_0 ∧ Blk w' p1 28 (Service.c a0 az0_0 az0_1 az0_2 az0_3 az0_4) ∧ Blk w' p5 30 (Node.c a1 az1_0) ∧ slRep k_Face (G F w.heap.size (un (inBlk (Value.pointer (some ⟨p58, 0, none⟩))) nb)) w' y31 v33 ∧ Blk w' p58 42 (Face.enc x44) ∧ slRep k_Face (G F w.heap.size (un (inBlk (Value.pointer (some ⟨p58, 0, none⟩))) nb)) w' y68 v70 ∧ (G F w.heap.size (un (inBlk (Value.pointer (some ⟨p58, 0, none⟩))) nb)) p1 ∧ (G F w.heap.size (un (inBlk (Value.pointer (some ⟨p58, 0, none⟩))) nb)) p5)
           ⟨y68, 0, rfl, rfl, c47, At.start, ho80, ah0_0, ah0_1, ah0_2, ah0_3, ah0_4, ah1_0, k4, k8, h34, k66, h71, gp1, gp5⟩ ?_
       rintro _ _ w85 ⟨rest72, i73, rfl, rfl, c84, hat75, hL74, ah0_0, ah0_1, ah0_2, ah0_3, ah0_4, ah1_0, k4, k8, h34, k66, h71, gp1, gp5⟩
       refine CW.seq (CW.region ?_)
       refine rl_bin rfl rfl B.lss rfl ?_
       refine RL.nil (thn_n ?_)
       refine CW.seq ?_
       refine CW.cond (t := decide (((i73 : Nat) : Int) < ((y68.length : Nat) : Int))) rfl (fun q87 => ?_) (fun q87 => ?_)
       ·
        obtain ⟨x81, rest88, rfl⟩ := hat75.cons q87
        obtain ⟨q76, hq77⟩ : ∃ q, (F3_linkboylaw20_FaceOf_b2 x44) x81 () = q := ⟨_, rfl⟩
        have hb78 := hq77
        refine CW.skip (thn_n ?_)
        refine CW.seq ?_
        refine CW.block ?_
        refine CW.seq (CW.region ?_)
        refine rl_ixR rfl h71 rfl hat75.get Try.underlying34 Try.sizeOf42 rfl ?_
        intro p89 o90 cs91 hr92 hs93 hg94
        obtain rfl := hr92
        refine rl_loadA (cs := (Face.enc x81)) rfl Try.isAgg42 Try.sizeOf42 (hs93) rfl rfl ?_
        refine rl_alloc (Face.enc Face.z) Try.zeroValue42 rfl rfl ?_
        intro p95 w96 n97 k98
        have lo99 : ∀ b, inBlk (Value.pointer (some ⟨p95, 0, none⟩)) b → w.heap.size ≤ b := fun b h => Nat.le_trans c84.size (n97.fresh b h)
        have d100 : ∀ b, inBlk (Value.pointer (some ⟨p95, 0, none⟩)) b → ¬ inBlk (Value.pointer (some ⟨p58, 0, none⟩)) b := disNew n97.fresh k66.ltp
        have ah0_0 := slRep.st k_Addr_pos ah0_0 n97.ch (admNew n97.fresh (fun _ x => x))
        have ah0_1 := slRep.st k_Addr_pos ah0_1 n97.ch (admNew n97.fresh (fun _ x => x))
        have ah0_2 := slRep.st k_Addr_pos ah0_2 n97.ch (admNew n97.fresh (fun _ x => x))
        have ah0_3 := slRep.st k_Cidr_pos ah0_3 n97.ch (admNew n97.fresh (fun _ x => x))
        have ah0_4 := slRep.st k_Port_pos ah0_4 n97.ch (admNew n97.fresh (fun _ x => x))
        have ah1_0 := slRep.st k_Addr_pos ah1_0 n97.ch (admNew n97.fresh (fun _ x => x))
        have gp1n : (G F w.heap.size (un (inBlk (Value.pointer (some ⟨p95, 0, none⟩))) (un (inBlk (Value.pointer (some ⟨p58, 0, none⟩))) nb))) p1 := ⟨gp1.1, ((admNew n97.fresh (fun _ x => x)) _ k4.lt gp1.2).2⟩
        have k4 := k4.ch0 n97.ch
        have gp1 := gp1n
        have gp5n : (G F w.heap.size (un (inBlk (Value.pointer (some ⟨p95, 0, none⟩))) (un (inBlk (Value.pointer (some ⟨p58, 0, none⟩))) nb))) p5 := ⟨gp5.1, ((admNew n97.fresh (fun _ x => x)) _ k8.lt gp5.2).2⟩
        have k8 := k8.ch0 n97.ch
        have gp5 := gp5n
        have h34 := slRep.st k_Face_pos h34 n97.ch (admNew n97.fresh (fun _ x => x))
        have k66 := k66.ch0 n97.ch
        have h71 := slRep.st k_Face_pos h71 n97.ch (admNew n97.fresh (fun _ x => x))
        have c84 := c84.then0 n97.ch
        refine rl_storeA (vs := (Face.enc x81)) rfl rfl (all_one rfl) Try.sizeOf42 rfl k98 rfl ?_
        intro w101 s103 c102 k104
        have ad105 : ∀ b, b < w96.heap.size → ¬ (un (inBlk (Value.pointer (some ⟨p95, 0, none⟩))) (un (inBlk (Value.pointer (some ⟨p58, 0, none⟩))) nb)) b → ¬ (inBlk (Value.pointer (some ⟨p95, 0, none⟩))) b ∧ ¬ (un (inBlk (Value.pointer (some ⟨p95, 0, none⟩))) (un (inBlk (Value.pointer (some ⟨p58, 0, none⟩))) nb)) b := fun b _ hs => ⟨fun h => hs (.inl h), hs⟩
        have ah0_0 := slRep.st k_Addr_pos ah0_0 c102 ad105
        have ah0_1 := slRep.st k_Addr_pos ah0_1 c102 ad105
        have ah0_2 := slRep.st k_Addr_pos ah0_2 c102 ad105
        have ah0_3 := slRep.st k_Cidr_pos ah0_3 c102 ad105
        have ah0_4 := slRep.st k_Port_pos ah0_4 c102 ad105
        have ah1_0 := slRep.st k_Addr_pos ah1_0 c102 ad105
        have k4 := k4.ch c102 (ad105 _ k4.lt gp1.2).1
        have k8 := k8.ch c102 (ad105 _ k8.lt gp5.2).1
        have h34 := slRep.st k_Face_pos h34 c102 ad105
        have k66 := k66.ch c102 ((fun b hb h => (disSym d100) b hb h) _ rfl)
        have h71 := slRep.st k_Face_pos h71 c102 ad105
        have c84 := c84.then c102 (fun i hi h => absurd (lo99 i h) (Nat.not_le_of_lt hi))
        refine RL.nil ?_
        refine thn_n ?_
        refine CW.seq (CW.region ?_)
        refine rl_fieldAddr rfl fa42_0 rfl ?_
        refine rl_loadS (v := (Value.int .i64 x81.proto)) rfl Try.isAgg3 (k104.cell rfl) rfl ?_
        refine rl_fieldAddr rfl fa42_0 rfl ?_
        refine rl_loadS (v := (Value.int .i64 x44.proto)) rfl Try.isAgg3 (k66.cell rfl) rfl ?_
        refine rl_bin rfl rfl B.eql rfl ?_
        refine rl_move rfl rfl ?_
        obtain ⟨b108, hb109⟩ : ∃ v, ((decide (x81.proto = x44.proto)) && (decide (x81.point = x44.point))) = v := ⟨_, rfl⟩
        have hb78 := ltS hb109 hb78
        refine RL.join 6 47 (.bool b108) (fun w' => Ch nb w101 w') ?_ ?_
        · rcases Bool.eq_false_or_eq_true (decide (x81.proto = x44.proto)) with hg107 | hg107
          ·
           have hs106 := and_t hg107 hb109
           have cs : Ch nb w101 w101 := Ch.refl
           refine RL.yes rfl rfl rfl hg107 ?_
           refine rl_fieldAddr rfl fa42_1 rfl ?_
           refine RL.yes rfl rfl rfl hg107 ?_
           refine rl_loadA (cs := (Point.enc x81.point)) rfl Try.isAgg40 Try.sizeOf40 (k104.segAt 1 18) rfl rfl ?_
           refine RL.yes rfl rfl rfl hg107 ?_
           refine rl_fieldAddr rfl fa42_1 rfl ?_
           refine RL.yes rfl rfl rfl hg107 ?_
           refine rl_loadA (cs := (Point.enc x44.point)) rfl Try.isAgg40 Try.sizeOf40 (k66.segAt 1 18) rfl rfl ?_
           refine RL.yes rfl rfl rfl hg107 ?_
           refine rl_bin rfl rfl (eql40 x81.point x44.point) rfl ?_
           refine rl_pickT rfl hg107 rfl rfl ?_
           exact RL.nil ⟨Ext.bothEq (congrArg Value.bool hs106) (Ext.skip rfl (Ext.skip rfl (Ext.skip rfl (Ext.skip rfl (Ext.skip rfl (Ext.rfl')))))), cs⟩
          ·
           have hs106 := and_f hg107 hb109
           have cs : Ch nb w101 w101 := Ch.refl
           refine RL.no rfl rfl rfl hg107 rfl rfl ?_
           refine RL.no rfl rfl rfl hg107 rfl rfl ?_
           refine RL.no rfl rfl rfl hg107 rfl rfl ?_
           refine RL.no rfl rfl rfl hg107 rfl rfl ?_
           refine RL.no rfl rfl rfl hg107 rfl rfl ?_
           refine rl_pickF rfl hg107 rfl rfl ?_
           exact RL.nil ⟨Ext.bothEq (congrArg Value.bool hs106) (Ext.skip rfl (Ext.skip rfl (Ext.skip rfl (Ext.skip rfl (Ext.skip rfl (Ext.rfl')))))), cs⟩
        intro w110 c111
        have ah0_0 := slRep.ch k_Addr_pos ah0_0 c111
        have ah0_1 := slRep.ch k_Addr_pos ah0_1 c111
        have ah0_2 := slRep.ch k_Addr_pos ah0_2 c111
        have ah0_3 := slRep.ch k_Cidr_pos ah0_3 c111
        have ah0_4 := slRep.ch k_Port_pos ah0_4 c111
        have ah1_0 := slRep.ch k_Addr_pos ah1_0 c111
        have k4 := k4.ch0 c111
        have k8 := k8.ch0 c111
        have h34 := slRep.ch k_Face_pos h34 c111
        have k66 := k66.ch0 c111
        have h71 := slRep.ch k_Face_pos h71 c111
        have k104 := k104.ch0 c111
        have c84 := c84.then0 c111
        refine RL.nil ?_
        refine thn_n ?_
        refine CW.cond (t := b108) rfl (fun q112 => ?_) (fun q112 => ?_)
        ·
         have hb78 := ifT q112 hb78
         refine CW.seq (CW.region ?_)
         refine rl_assign rfl rfl ?_
         refine RL.nil ?_
         refine thn_n ?_
         refine CW.ret ?_
         refine inB_ret ?_
         refine thn_ret ?_
         refine thn_ret (inB_ret (thn_ret ?_))
         refine inB_ret ?_
         refine thn_ret ?_
         refine thn_ret (inB_ret (thn_ret ?_))
         refine thn_ret ?_
         have f113 := runB_ret hL74 (hb78.trans hq77.symm)
         have hb41 := retS f113 hb41
         have f114 := runBO_ret hL37 hq40 hb41
         have hS := retS f114 hS
         obtain rfl := Option.some.inj hS
         exact ret1 rfl ⟨rfl, c84⟩
        ·
         have hb78 := ifF q112 hb78
         refine CW.skip ?_
         refine inB_n ?_
         refine thn_n ?_
         refine CW.region ?_
         refine rl_inc rfl hat75.lt h71.big rfl ?_
         refine rl_move rfl rfl ?_
         refine RL.nil ?_
         refine thn_n ?_
         have crf : Ch nb w110 w110 := Ch.refl
         have ah0_0 := slRep.st k_Addr_pos ah0_0 crf (show ∀ b, b < w110.heap.size → ¬ (un (inBlk (Value.pointer (some ⟨p95, 0, none⟩))) (un (inBlk (Value.pointer (some ⟨p58, 0, none⟩))) nb)) b → ¬ nb b ∧ ¬ (un (inBlk (Value.pointer (some ⟨p58, 0, none⟩))) nb) b from fun b _ hs => ⟨fun x => x, fun h => hs (un_el h (fun h => (.inr (.inl h))) (fun h => False.elim h))⟩)
         have ah0_1 := slRep.st k_Addr_pos ah0_1 crf (show ∀ b, b < w110.heap.size → ¬ (un (inBlk (Value.pointer (some ⟨p95, 0, none⟩))) (un (inBlk (Value.pointer (some ⟨p58, 0, none⟩))) nb)) b → ¬ nb b ∧ ¬ (un (inBlk (Value.pointer (some ⟨p58, 0, none⟩))) nb) b from fun b _ hs => ⟨fun x => x, fun h => hs (un_el h (fun h => (.inr (.inl h))) (fun h => False.elim h))⟩)
         have ah0_2 := slRep.st k_Addr_pos ah0_2 crf (show ∀ b, b < w110.heap.size → ¬ (un (inBlk (Value.pointer (some ⟨p95, 0, none⟩))) (un (inBlk (Value.pointer (some ⟨p58, 0, none⟩))) nb)) b → ¬ nb b ∧ ¬ (un (inBlk (Value.pointer (some ⟨p58, 0, none⟩))) nb) b from fun b _ hs => ⟨fun x => x, fun h => hs (un_el h (fun h => (.inr (.inl h))) (fun h => False.elim h))⟩)
         have ah0_3 := slRep.st k_Cidr_pos ah0_3 crf (show ∀ b, b < w110.heap.size → ¬ (un (inBlk (Value.pointer (some ⟨p95, 0, none⟩))) (un (inBlk (Value.pointer (some ⟨p58, 0, none⟩))) nb)) b → ¬ nb b ∧ ¬ (un (inBlk (Value.pointer (some ⟨p58, 0, none⟩))) nb) b from fun b _ hs => ⟨fun x => x, fun h => hs (un_el h (fun h => (.inr (.inl h))) (fun h => False.elim h))⟩)
         have ah0_4 := slRep.st k_Port_pos ah0_4 crf (show ∀ b, b < w110.heap.size → ¬ (un (inBlk (Value.pointer (some ⟨p95, 0, none⟩))) (un (inBlk (Value.pointer (some ⟨p58, 0, none⟩))) nb)) b → ¬ nb b ∧ ¬ (un (inBlk (Value.pointer (some ⟨p58, 0, none⟩))) nb) b from fun b _ hs => ⟨fun x => x, fun h => hs (un_el h (fun h => (.inr (.inl h))) (fun h => False.elim h))⟩)
         have ah1_0 := slRep.st k_Addr_pos ah1_0 crf (show ∀ b, b < w110.heap.size → ¬ (un (inBlk (Value.pointer (some ⟨p95, 0, none⟩))) (un (inBlk (Value.pointer (some ⟨p58, 0, none⟩))) nb)) b → ¬ nb b ∧ ¬ (un (inBlk (Value.pointer (some ⟨p58, 0, none⟩))) nb) b from fun b _ hs => ⟨fun x => x, fun h => hs (un_el h (fun h => (.inr (.inl h))) (fun h => False.elim h))⟩)
         have gp1n : (G F w.heap.size (un (inBlk (Value.pointer (some ⟨p58, 0, none⟩))) nb)) p1 := ⟨gp1.1, ((show ∀ b, b < w110.heap.size → ¬ (un (inBlk (Value.pointer (some ⟨p95, 0, none⟩))) (un (inBlk (Value.pointer (some ⟨p58, 0, none⟩))) nb)) b → ¬ nb b ∧ ¬ (un (inBlk (Value.pointer (some ⟨p58, 0, none⟩))) nb) b from fun b _ hs => ⟨fun x => x, fun h => hs (un_el h (fun h => (.inr (.inl h))) (fun h => False.elim h))⟩) _ k4.lt gp1.2).2⟩
         have k4 := k4.ch0 crf
         have gp1 := gp1n
         have gp5n : (G F w.heap.size (un (inBlk (Value.pointer (some ⟨p58, 0, none⟩))) nb)) p5 := ⟨gp5.1, ((show ∀ b, b < w110.heap.size → ¬ (un (inBlk (Value.pointer (some ⟨p95, 0, none⟩))) (un (inBlk (Value.pointer (some ⟨p58, 0, none⟩))) nb)) b → ¬ nb b ∧ ¬ (un (inBlk (Value.pointer (some ⟨p58, 0, none⟩))) nb) b from fun b _ hs => ⟨fun x => x, fun h => hs (un_el h (fun h => (.inr (.inl h))) (fun h => False.elim h))⟩) _ k8.lt gp5.2).2⟩
         have k8 := k8.ch0 crf
         have gp5 := gp5n
         have h34 := slRep.st k_Face_pos h34 crf (show ∀ b, b < w110.heap.size → ¬ (un (inBlk (Value.pointer (some ⟨p95, 0, none⟩))) (un (inBlk (Value.pointer (some ⟨p58, 0, none⟩))) nb)) b → ¬ nb b ∧ ¬ (un (inBlk (Value.pointer (some ⟨p58, 0, none⟩))) nb) b from fun b _ hs => ⟨fun x => x, fun h => hs (un_el h (fun h => (.inr (.inl h))) (fun h => False.elim h))⟩)
         have k66 := k66.ch0 crf
         have h71 := slRep.st k_Face_pos h71 crf (show ∀ b, b < w110.heap.size → ¬ (un (inBlk (Value.pointer (some ⟨p95, 0, none⟩))) (un (inBlk (Value.pointer (some ⟨p58, 0, none⟩))) nb)) b → ¬ nb b ∧ ¬ (un (inBlk (Value.pointer (some ⟨p58, 0, none⟩))) nb) b from fun b _ hs => ⟨fun x => x, fun h => hs (un_el h (fun h => (.inr (.inl h))) (fun h => False.elim h))⟩)
         have c84 := c84.then0 crf
         have hLn := runB_next hL74 (hb78.trans hq77.symm)
         exact ⟨rest88.length, Nat.lt_succ_self _, [(2, (Value.pointer (some ⟨p1, 0, none⟩))), (3, (Value.pointer (some ⟨p5, 0, none⟩))), (5, v33), (7, (Value.pointer (some ⟨p58, 0, none⟩))), (21, v33), (22, (Value.int .i64 ((y31.length : Nat) : Int))), (23, (Value.int .i64 ((i36 : Nat) : Int))), (30, v70), (31, (Value.int .i64 ((y68.length : Nat) : Int))), (32, (Value.int .i64 ((i73 + 1 : Nat) : Int)))], ⟨rfl, rfl, rfl, rfl, rfl, rfl, rfl, rfl, rfl, rfl, trivial⟩, ⟨rest88, i73 + 1, rfl, rfl, c84, hat75.next, hLn, ah0_0, ah0_1, ah0_2, ah0_3, ah0_4, ah1_0, k4, k8, h34, k66, h71, gp1, gp5⟩⟩
       ·
        obtain rfl := hat75.nil q87
        have hLf : Lp.fin () = o79 := hL74
        refine CW.exit (thn_exit (thn_exit (inB_hit ?_)))
        exact ⟨(), ⟨rfl, rfl, rfl, rfl, rfl, rfl, trivial⟩, c84, hLf, ah0_0, ah0_1, ah0_2, ah0_3, ah0_4, ah1_0, k4, k8, h34, k66, h71, gp1, gp5⟩
      ·
       rintro _ w116 ⟨_, hE117, c115, f118, ah0_0, ah0_1, ah0_2, ah0_3, ah0_4, ah1_0, k4, k8, h34, k66, h71, gp1, gp5⟩
       have hb41 := finS f118 hb41
       refine inB_n ?_
       refine thn_n (CW.sub [(2, (Value.pointer (some ⟨p1, 0, none⟩))), (3, (Value.pointer (some ⟨p5, 0, none⟩))), (5, v33), (21, v33), (22, (Value.int .i64 ((y31.length : Nat) : Int))), (23, (Value.int .i64 ((i36 : Nat) : Int)))] hE117 ?_)
       refine CW.region ?_
       refine rl_inc rfl hat38.lt h34.big rfl ?_
       refine rl_move rfl rfl ?_
       refine RL.nil ?_
       refine thn_n ?_
       have crf : Ch nb w116 w116 := Ch.refl
       have ah0_0 := slRep.st k_Addr_pos ah0_0 crf (show ∀ b, b < w116.heap.size → ¬ (un (inBlk (Value.pointer (some ⟨p58, 0, none⟩))) nb) b → ¬ nb b ∧ ¬ nb b from fun b _ hs => ⟨fun x => x, fun h => hs (False.elim h)⟩)
       have ah0_1 := slRep.st k_Addr_pos ah0_1 crf (show ∀ b, b < w116.heap.size → ¬ (un (inBlk (Value.pointer (some ⟨p58, 0, none⟩))) nb) b → ¬ nb b ∧ ¬ nb b from fun b _ hs => ⟨fun x => x, fun h => hs (False.elim h)⟩)
       have ah0_2 := slRep.st k_Addr_pos ah0_2 crf (show ∀ b, b < w116.heap.size → ¬ (un (inBlk (Value.pointer (some ⟨p58, 0, none⟩))) nb) b → ¬ nb b ∧ ¬ nb b from fun b _ hs => ⟨fun x => x, fun h => hs (False.elim h)⟩)
       have ah0_3 := slRep.st k_Cidr_pos ah0_3 crf (show ∀ b, b < w116.heap.size → ¬ (un (inBlk (Value.pointer (some ⟨p58, 0, none⟩))) nb) b → ¬ nb b ∧ ¬ nb b from fun b _ hs => ⟨fun x => x, fun h => hs (False.elim h)⟩)
       have ah0_4 := slRep.st k_Port_pos ah0_4 crf (show ∀ b, b < w116.heap.size → ¬ (un (inBlk (Value.pointer (some ⟨p58, 0, none⟩))) nb) b → ¬ nb b ∧ ¬ nb b from fun b _ hs => ⟨fun x => x, fun h => hs (False.elim h)⟩)
       have ah1_0 := slRep.st k_Addr_pos ah1_0 crf (show ∀ b, b < w116.heap.size → ¬ (un (inBlk (Value.pointer (some ⟨p58, 0, none⟩))) nb) b → ¬ nb b ∧ ¬ nb b from fun b _ hs => ⟨fun x => x, fun h => hs (False.elim h)⟩)
       have gp1n : (G F w.heap.size nb) p1 := ⟨gp1.1, ((show ∀ b, b < w116.heap.size → ¬ (un (inBlk (Value.pointer (some ⟨p58, 0, none⟩))) nb) b → ¬ nb b ∧ ¬ nb b from fun b _ hs => ⟨fun x => x, fun h => hs (False.elim h)⟩) _ k4.lt gp1.2).2⟩
       have k4 := k4.ch0 crf
       have gp1 := gp1n
       have gp5n : (G F w.heap.size nb) p5 := ⟨gp5.1, ((show ∀ b, b < w116.heap.size → ¬ (un (inBlk (Value.pointer (some ⟨p58, 0, none⟩))) nb) b → ¬ nb b ∧ ¬ nb b from fun b _ hs => ⟨fun x => x, fun h => hs (False.elim h)⟩) _ k8.lt gp5.2).2⟩
       have k8 := k8.ch0 crf
       have gp5 := gp5n
       have h34 := slRep.st k_Face_pos h34 crf (show ∀ b, b < w116.heap.size → ¬ (un (inBlk (Value.pointer (some ⟨p58, 0, none⟩))) nb) b → ¬ nb b ∧ ¬ nb b from fun b _ hs => ⟨fun x => x, fun h => hs (False.elim h)⟩)
       have h71 := slRep.st k_Face_pos h71 crf (show ∀ b, b < w116.heap.size → ¬ (un (inBlk (Value.pointer (some ⟨p58, 0, none⟩))) nb) b → ¬ nb b ∧ ¬ nb b from fun b _ hs => ⟨fun x => x, fun h => hs (False.elim h)⟩)
       have c115 := c115.then0 crf
       have hLn := runBO_next hL37 hq40 hb41
       exact ⟨rest51.length, Nat.lt_succ_self _, [(2, (Value.pointer (some ⟨p1, 0, none⟩))), (3, (Value.pointer (some ⟨p5, 0, none⟩))), (5, v33), (21, v33), (22, (Value.int .i64 ((y31.length : Nat) : Int))), (23, (Value.int .i64 ((i36 + 1 : Nat) : Int)))], ⟨rfl, rfl, rfl, rfl, rfl, rfl, trivial⟩, ⟨rest51, i36 + 1, rfl, rfl, c115, hat38.next, hLn, ah0_0, ah0_1, ah0_2, ah0_3, ah0_4, ah1_0, k4, k8, h34, gp1, gp5⟩⟩
     ·
      obtain rfl := hat38.nil q50
      have hLf : Lp.fin i36 = o42 := runBO_done hL37
      refine CW.exit (thn_exit (thn_exit (inB_hit ?_)))
      exact ⟨i36, ⟨rfl, rfl, rfl, trivial⟩, c47, hLf, ah0_0, ah0_1, ah0_2, ah0_3, ah0_4, ah1_0, k4, k8, h34, gp1, gp5⟩
    ·
     rintro _ w121 ⟨ix49, hE122, c120, f123, ah0_0, ah0_1, ah0_2, ah0_3, ah0_4, ah1_0, k4, k8, h34, gp1, gp5⟩
     have hS := finS f123 hS
     refine thn_n (CW.sub [(2, (Value.pointer (some ⟨p1, 0, none⟩))), (3, (Value.pointer (some ⟨p5, 0, none⟩))), (5, v33)] hE122 ?_)
     refine CW.seq ?_
     obtain ⟨y127, hy128, hS⟩ := bindS hS
     obtain ⟨y133, hy134, hS⟩ := bindS hS
     obtain ⟨y147, hy148⟩ : ∃ y, F12_linkboylaw13_Node a1 = y := ⟨_, rfl⟩
     have hS := ltS hy148 hS
     obtain ⟨y153, hy154, hS⟩ := bindS hS
     obtain ⟨y159, hy160, hS⟩ := bindS hS
     refine CW.draw 5 [(none, fun _ O uu wx => uu = v33), (none, fun _ O uu wx => ∃ (v129 : Value), uu = v129 ∧ slRep k_Face (G F w.heap.size nb) wx y127 v129), (none, fun _ O uu wx => uu = (Value.agg (Service.c a0 az0_0 az0_1 az0_2 az0_3 az0_4).toArray)), (none, fun _ O uu wx => ∃ (z135 : Value) (z136 : Value) (z137 : Value) (z138 : Value) (z139 : Value), uu = (Value.agg (Service.c y133 z135 z136 z137 z138 z139).toArray) ∧ slRep k_Addr (G F w.heap.size nb) wx y133.cluster z135 ∧ slRep k_Addr (G F w.heap.size nb) wx y133.external z136 ∧ slRep k_Addr (G F w.heap.size nb) wx y133.balancers z137 ∧ slRep k_Cidr (G F w.heap.size nb) wx y133.ranges z138 ∧ slRep k_Port (G F w.heap.size nb) wx y133.ports z139), (none, fun _ O uu wx => uu = (Value.agg (Node.c a1 az1_0).toArray))] [[], [0], [], [2], []] [1, 3, 4] nb (fun _ h => h.elim) mixed rfl rfl rfl rfl ?_ ?_
     ·
      refine Each.consA ⟨fun _ _ _ _ _ _ h => h, fun h => absurd rfl h, fun O wk hO ck => ?_⟩ ?_
      ·
       have ah0_0 := slRep.ch k_Addr_pos ah0_0 ck
       have ah0_1 := slRep.ch k_Addr_pos ah0_1 ck
       have ah0_2 := slRep.ch k_Addr_pos ah0_2 ck
       have ah0_3 := slRep.ch k_Cidr_pos ah0_3 ck
       have ah0_4 := slRep.ch k_Port_pos ah0_4 ck
       have ah1_0 := slRep.ch k_Addr_pos ah1_0 ck
       have k4 := k4.ch0 ck
       have k8 := k8.ch0 ck
       have h34 := slRep.ch k_Face_pos h34 ck
       have c120 := c120.then0 ck
       refine rl_move rfl rfl ?_
       exact RL.nil ⟨_, rfl, Ch.refl, rfl⟩
      refine Each.consA ⟨fun _ _ _ _ _ cc hh => by obtain ⟨v129, e, h130⟩ := hh; exact ⟨v129, e, slRep.ch k_Face_pos h130 cc⟩, fun h => absurd rfl h, fun O wk hO ck => ?_⟩ ?_
      ·
       have ah0_0 := slRep.ch k_Addr_pos ah0_0 ck
       have ah0_1 := slRep.ch k_Addr_pos ah0_1 ck
       have ah0_2 := slRep.ch k_Addr_pos ah0_2 ck
       have ah0_3 := slRep.ch k_Cidr_pos ah0_3 ck
       have ah0_4 := slRep.ch k_Port_pos ah0_4 ck
       have ah1_0 := slRep.ch k_Addr_pos ah1_0 ck
       have k4 := k4.ch0 ck
       have k8 := k8.ch0 ck
       have h34 := slRep.ch k_Face_pos h34 ck
       have c120 := c120.then0 ck
       refine Need.one rfl rfl rfl ?_
       rintro _ e161
       obtain rfl := e161.symm
       refine rl_callF rfl en9 rfl (ctr9 (G F w.heap.size nb) wk y31 v33 h34 y127 hy128) ?_
       rintro v164 w162 ⟨_, rfl, h165, c163⟩
       have h165 := SlO.backR k_Face_pos h165 nbS c120.size
       have ah0_0 := slRep.ch k_Addr_pos ah0_0 c163
       have ah0_1 := slRep.ch k_Addr_pos ah0_1 c163
       have ah0_2 := slRep.ch k_Addr_pos ah0_2 c163
       have ah0_3 := slRep.ch k_Cidr_pos ah0_3 c163
       have ah0_4 := slRep.ch k_Port_pos ah0_4 c163
       have ah1_0 := slRep.ch k_Addr_pos ah1_0 c163
       have k4 := k4.ch0 c163
       have k8 := k8.ch0 c163
       have h34 := slRep.ch k_Face_pos h34 c163
       have c120 := c120.then0 c163
       exact RL.nil ⟨_, rfl, c163, ⟨v164, rfl, h165⟩⟩
      refine Each.consA ⟨fun _ _ _ _ _ _ h => h, fun h => absurd rfl h, fun O wk hO ck => ?_⟩ ?_
      ·
       have ah0_0 := slRep.ch k_Addr_pos ah0_0 ck
       have ah0_1 := slRep.ch k_Addr_pos ah0_1 ck
       have ah0_2 := slRep.ch k_Addr_pos ah0_2 ck
       have ah0_3 := slRep.ch k_Cidr_pos ah0_3 ck
       have ah0_4 := slRep.ch k_Port_pos ah0_4 ck
       have ah1_0 := slRep.ch k_Addr_pos ah1_0 ck
       have k4 := k4.ch0 ck
       have k8 := k8.ch0 ck
       have h34 := slRep.ch k_Face_pos h34 ck
       have c120 := c120.then0 ck
       refine rl_loadA (cs := (Service.c a0 az0_0 az0_1 az0_2 az0_3 az0_4)) rfl Try.isAgg28 Try.sizeOf28 (k4.segAt 0 13) rfl rfl ?_
       exact RL.nil ⟨_, rfl, Ch.refl, rfl⟩
      refine Each.consA ⟨fun _ _ _ _ _ cc hh => by obtain ⟨z135, z136, z137, z138, z139, e, h140, h141, h142, h143, h144⟩ := hh; exact ⟨z135, z136, z137, z138, z139, e, slRep.ch k_Addr_pos h140 cc, slRep.ch k_Addr_pos h141 cc, slRep.ch k_Addr_pos h142 cc, slRep.ch k_Cidr_pos h143 cc, slRep.ch k_Port_pos h144 cc⟩, fun h => absurd rfl h, fun O wk hO ck => ?_⟩ ?_
      ·
       have ah0_0 := slRep.ch k_Addr_pos ah0_0 ck
       have ah0_1 := slRep.ch k_Addr_pos ah0_1 ck
       have ah0_2 := slRep.ch k_Addr_pos ah0_2 ck
       have ah0_3 := slRep.ch k_Cidr_pos ah0_3 ck
       have ah0_4 := slRep.ch k_Port_pos ah0_4 ck
       have ah1_0 := slRep.ch k_Addr_pos ah1_0 ck
       have k4 := k4.ch0 ck
       have k8 := k8.ch0 ck
       have h34 := slRep.ch k_Face_pos h34 ck
       have c120 := c120.then0 ck
       refine Need.one rfl rfl rfl ?_
       rintro _ e166
       obtain rfl := e166.symm
       refine rl_callF rfl en11 rfl (ctr11 (G F w.heap.size nb) wk a0 az0_0 az0_1 az0_2 az0_3 az0_4 ah0_0 ah0_1 ah0_2 ah0_3 ah0_4 y133 hy134) ?_
       rintro _ w167 ⟨z169, z170, z171, z172, z173, rfl, h174, h175, h176, h177, h178, c168⟩
       have h174 := slRep.back k_Addr_pos h174 nbS c120.size
       have h175 := slRep.back k_Addr_pos h175 nbS c120.size
       have h176 := slRep.back k_Addr_pos h176 nbS c120.size
       have h177 := slRep.back k_Cidr_pos h177 nbS c120.size
       have h178 := slRep.back k_Port_pos h178 nbS c120.size
       have ah0_0 := slRep.ch k_Addr_pos ah0_0 c168
       have ah0_1 := slRep.ch k_Addr_pos ah0_1 c168
       have ah0_2 := slRep.ch k_Addr_pos ah0_2 c168
       have ah0_3 := slRep.ch k_Cidr_pos ah0_3 c168
       have ah0_4 := slRep.ch k_Port_pos ah0_4 c168
       have ah1_0 := slRep.ch k_Addr_pos ah1_0 c168
       have k4 := k4.ch0 c168
       have k8 := k8.ch0 c168
       have h34 := slRep.ch k_Face_pos h34 c168
       have c120 := c120.then0 c168
       exact RL.nil ⟨_, rfl, c168, ⟨z169, z170, z171, z172, z173, rfl, h174, h175, h176, h177, h178⟩⟩
      refine Each.consA ⟨fun _ _ _ _ _ _ h => h, fun h => absurd rfl h, fun O wk hO ck => ?_⟩ ?_
      ·
       have ah0_0 := slRep.ch k_Addr_pos ah0_0 ck
       have ah0_1 := slRep.ch k_Addr_pos ah0_1 ck
       have ah0_2 := slRep.ch k_Addr_pos ah0_2 ck
       have ah0_3 := slRep.ch k_Cidr_pos ah0_3 ck
       have ah0_4 := slRep.ch k_Port_pos ah0_4 ck
       have ah1_0 := slRep.ch k_Addr_pos ah1_0 ck
       have k4 := k4.ch0 ck
       have k8 := k8.ch0 ck
       have h34 := slRep.ch k_Face_pos h34 ck
       have c120 := c120.then0 ck
       refine rl_loadA (cs := (Node.c a1 az1_0)) rfl Try.isAgg30 Try.sizeOf30 (k8.segAt 0 3) rfl rfl ?_
       exact RL.nil ⟨_, rfl, Ch.refl, rfl⟩
      trivial
     ·
      intro hvO181 OpO181 O181 w179 hO182 c180 hN183
      have ah0_0 := slRep.ch k_Addr_pos ah0_0 c180
      have ah0_1 := slRep.ch k_Addr_pos ah0_1 c180
      have ah0_2 := slRep.ch k_Addr_pos ah0_2 c180
      have ah0_3 := slRep.ch k_Cidr_pos ah0_3 c180
      have ah0_4 := slRep.ch k_Port_pos ah0_4 c180
      have ah1_0 := slRep.ch k_Addr_pos ah1_0 c180
      have k4 := k4.ch0 c180
      have k8 := k8.ch0 c180
      have h34 := slRep.ch k_Face_pos h34 c180
      have c120 := c120.then0 c180
      refine Need.one rfl rfl rfl ?_
      rintro _ ⟨v129, e184, h130⟩
      obtain rfl := e184.symm
      refine Need.one rfl rfl rfl ?_
      rintro _ ⟨z135, z136, z137, z138, z139, e185, h140, h141, h142, h143, h144⟩
      obtain rfl := e185.symm
      refine Need.one rfl rfl rfl ?_
      rintro _ e186
      obtain rfl := e186.symm
      refine rl_callF rfl en12 rfl (ctr12 (G F w.heap.size nb) w179 a1 az1_0 ah1_0 y147 hy148) ?_
      rintro _ w187 ⟨z189, rfl, h190, c188⟩
      have h190 := slRep.back k_Addr_pos h190 nbS c120.size
      have ah0_0 := slRep.ch k_Addr_pos ah0_0 c188
      have ah0_1 := slRep.ch k_Addr_pos ah0_1 c188
      have ah0_2 := slRep.ch k_Addr_pos ah0_2 c188
      have ah0_3 := slRep.ch k_Cidr_pos ah0_3 c188
      have ah0_4 := slRep.ch k_Port_pos ah0_4 c188
      have ah1_0 := slRep.ch k_Addr_pos ah1_0 c188
      have k4 := k4.ch0 c188
      have k8 := k8.ch0 c188
      have h34 := slRep.ch k_Face_pos h34 c188
      have h130 := slRep.ch k_Face_pos h130 c188
      have h140 := slRep.ch k_Addr_pos h140 c188
      have h141 := slRep.ch k_Addr_pos h141 c188
      have h142 := slRep.ch k_Addr_pos h142 c188
      have h143 := slRep.ch k_Cidr_pos h143 c188
      have h144 := slRep.ch k_Port_pos h144 c188
      have c120 := c120.then0 c188
      refine rl_callF rfl en10 rfl (ctr10 (G F w.heap.size nb) w187 y133 z135 z136 z137 z138 z139 h140 h141 h142 h143 h144 y147 z189 h190 y153 hy154) ?_
      rintro v193 w191 ⟨_, rfl, h194, c192⟩
      have h194 := SlO.backR k_Face_pos h194 nbS c120.size
      have ah0_0 := slRep.ch k_Addr_pos ah0_0 c192
      have ah0_1 := slRep.ch k_Addr_pos ah0_1 c192
      have ah0_2 := slRep.ch k_Addr_pos ah0_2 c192
      have ah0_3 := slRep.ch k_Cidr_pos ah0_3 c192
      have ah0_4 := slRep.ch k_Port_pos ah0_4 c192
      have ah1_0 := slRep.ch k_Addr_pos ah1_0 c192
      have k4 := k4.ch0 c192
      have k8 := k8.ch0 c192
      have h34 := slRep.ch k_Face_pos h34 c192
      have h130 := slRep.ch k_Face_pos h130 c192
      have h140 := slRep.ch k_Addr_pos h140 c192
      have h141 := slRep.ch k_Addr_pos h141 c192
      have h142 := slRep.ch k_Addr_pos h142 c192
      have h143 := slRep.ch k_Cidr_pos h143 c192
      have h144 := slRep.ch k_Port_pos h144 c192
      have h190 := slRep.ch k_Addr_pos h190 c192
      have c120 := c120.then0 c192
      refine rl_callF rfl en8 rfl (ctr8 (G F w.heap.size nb) w191 y127 v129 h130 y153 v193 h194 y159 hy160) ?_
      rintro _ w195 ⟨rfl, c196⟩
      have ah0_0 := slRep.ch k_Addr_pos ah0_0 c196
      have ah0_1 := slRep.ch k_Addr_pos ah0_1 c196
      have ah0_2 := slRep.ch k_Addr_pos ah0_2 c196
      have ah0_3 := slRep.ch k_Cidr_pos ah0_3 c196
      have ah0_4 := slRep.ch k_Port_pos ah0_4 c196
      have ah1_0 := slRep.ch k_Addr_pos ah1_0 c196
      have k4 := k4.ch0 c196
      have k8 := k8.ch0 c196
      have h34 := slRep.ch k_Face_pos h34 c196
      have h130 := slRep.ch k_Face_pos h130 c196
      have h140 := slRep.ch k_Addr_pos h140 c196
      have h141 := slRep.ch k_Addr_pos h141 c196
      have h142 := slRep.ch k_Addr_pos h142 c196
      have h143 := slRep.ch k_Cidr_pos h143 c196
      have h144 := slRep.ch k_Port_pos h144 c196
      have h190 := slRep.ch k_Addr_pos h190 c196
      have h194 := slRep.ch k_Face_pos h194 c196
      have c120 := c120.then0 c196
      refine rl_assign rfl rfl ?_
      refine RL.nil ?_
      refine thn_n ?_
      refine CW.ret ?_
      obtain rfl := Option.some.inj hS
      exact ret1 rfl ⟨rfl, c120⟩
end Go.Proofs.Ytejkknmedebgnaa
