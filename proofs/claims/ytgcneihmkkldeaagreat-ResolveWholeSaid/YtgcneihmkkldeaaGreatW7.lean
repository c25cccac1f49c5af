/- The walks through the code: each call comes to its printed function. Written by a program of this session. -/
import Derived.Test.YtgcneihmkkldeaaGreatM
import Derived.Test.YtgcneihmkkldeaaGreatL
import Derived.Test.YtgcneihmkkldeaaGreatW6
namespace Go.Proofs.YtgcneihmkkldeaaGreat
open Go K
set_option linter.unusedVariables false
/-- lb/lblaw21.ResolveWhole -/
theorem ctr3 (F : Nat → Prop) (w : World) (a0 : Service) (az0_0 az0_1 az0_2 az0_3 az0_4 : Value) (ah0_0 : slRep k_Addr F w a0.cluster az0_0) (ah0_1 : slRep k_Addr F w a0.external az0_1) (ah0_2 : slRep k_Addr F w a0.balancers az0_2) (ah0_3 : slRep k_Cidr F w a0.ranges az0_3) (ah0_4 : slRep k_Port F w a0.ports az0_4) (a1 : (List Slice)) (av1 : Value) (ah1 : slRep k_Slice F w a1 av1) (a2 : Node) (az2_0 : Value) (ah2_0 : slRep k_Addr F w a2.addrs az2_0) (r : Bool) (hs : F3_linkboylaw21_ResolveWhole a0 a1 a2 = some r) :
    Ret Tryz.prog 3 #[(Value.agg (Service.c a0 az0_0 az0_1 az0_2 az0_3 az0_4).toArray), av1, (Value.agg (Node.c a2 az2_0).toArray)] w fun v w' => v = (Value.bool r) ∧ Ch nb w w' := by
  have hS := hs
  have c0 : Ch nb w w := Ch.refl
  have ah0_0 := slRep.enter k_Addr_pos ah0_0
  have ah0_1 := slRep.enter k_Addr_pos ah0_1
  have ah0_2 := slRep.enter k_Addr_pos ah0_2
  have ah0_3 := slRep.enter k_Cidr_pos ah0_3
  have ah0_4 := slRep.enter k_Port_pos ah0_4
  have ah1 := slRep.enter k_Slice_pos ah1
  have ah2_0 := slRep.enter k_Addr_pos ah2_0
  refine Ret.of (n := 146) (args := [_, _, _]) (rs := [.tmp 6]) Tryz.func3 rfl rfl rfl rfl ?_
  refine CW.seq (CW.region ?_)
  refine rl_boxA (cs := (Service.c a0 az0_0 az0_1 az0_2 az0_3 az0_4)) rfl rfl ?_
  intro p1 w2 n3 k4
  have gp1 : (G F w.heap.size nb) p1 := ⟨.inr (by rw [n3.eq]; exact c0.size), fun h => absurd (nbS _ h) (by rw [n3.eq]; exact Nat.lt_irrefl _)⟩
  have ah0_0 := slRep.ch k_Addr_pos ah0_0 n3.ch
  have ah0_1 := slRep.ch k_Addr_pos ah0_1 n3.ch
  have ah0_2 := slRep.ch k_Addr_pos ah0_2 n3.ch
  have ah0_3 := slRep.ch k_Cidr_pos ah0_3 n3.ch
  have ah0_4 := slRep.ch k_Port_pos ah0_4 n3.ch
  have ah1 := slRep.ch k_Slice_pos ah1 n3.ch
  have ah2_0 := slRep.ch k_Addr_pos ah2_0 n3.ch
  have c0 := c0.then0 n3.ch
  refine rl_boxA (cs := (Node.c a2 az2_0)) rfl rfl ?_
  intro p5 w6 n7 k8
  have gp5 : (G F w.heap.size nb) p5 := ⟨.inr (by rw [n7.eq]; exact c0.size), fun h => absurd (nbS _ h) (by rw [n7.eq]; exact Nat.lt_irrefl _)⟩
  have ah0_0 := slRep.ch k_Addr_pos ah0_0 n7.ch
  have ah0_1 := slRep.ch k_Addr_pos ah0_1 n7.ch
  have ah0_2 := slRep.ch k_Addr_pos ah0_2 n7.ch
  have ah0_3 := slRep.ch k_Cidr_pos ah0_3 n7.ch
  have ah0_4 := slRep.ch k_Port_pos ah0_4 n7.ch
  have ah1 := slRep.ch k_Slice_pos ah1 n7.ch
  have ah2_0 := slRep.ch k_Addr_pos ah2_0 n7.ch
  have k4 := k4.ch0 n7.ch
  have c0 := c0.then0 n7.ch
  refine rl_assign rfl rfl ?_
  refine RL.nil ?_
  refine thn_n ?_
  refine CW.seq ?_
  refine CW.seq (CW.region ?_)
  obtain ⟨y11, hy12, hS⟩ := bindS hS
  refine rl_callF rfl en6 rfl (ctr6 (G F w.heap.size nb) w6  y11 hy12) ?_
  rintro _ w9 ⟨rfl, c10⟩
  have ah0_0 := slRep.ch k_Addr_pos ah0_0 c10
  have ah0_1 := slRep.ch k_Addr_pos ah0_1 c10
  have ah0_2 := slRep.ch k_Addr_pos ah0_2 c10
  have ah0_3 := slRep.ch k_Cidr_pos ah0_3 c10
  have ah0_4 := slRep.ch k_Port_pos ah0_4 c10
  have ah1 := slRep.ch k_Slice_pos ah1 c10
  have ah2_0 := slRep.ch k_Addr_pos ah2_0 c10
  have k4 := k4.ch0 c10
  have k8 := k8.ch0 c10
  have c0 := c0.then0 c10
  refine rl_not rfl rfl ?_
  refine RL.nil ?_
  refine thn_n ?_
  refine CW.cond (t := !y11) rfl (fun q13 => ?_) (fun q13 => ?_)
  ·
   have hS := ifT q13 hS
   refine CW.seq (CW.region ?_)
   refine rl_assign rfl rfl ?_
   refine RL.nil ?_
   refine thn_n ?_
   refine CW.ret ?_
   refine thn_ret ?_
   obtain rfl := Option.some.inj hS
   exact ret1 rfl ⟨rfl, c0⟩
  ·
   have hS := ifF q13 hS
   refine CW.skip ?_
   refine thn_n ?_
   refine CW.seq ?_
   refine CW.seq (CW.region ?_)
   refine rl_loadA (cs := (Service.c a0 az0_0 az0_1 az0_2 az0_3 az0_4)) rfl Tryz.isAgg28 Tryz.sizeOf28 (k4.segAt 0 13) rfl rfl ?_
   obtain ⟨y16, hy17⟩ : ∃ y, F7_linkboylaw13_LongService a0 = y := ⟨_, rfl⟩
   have hS := ltS hy17 hS
   refine rl_callF rfl en7 rfl (ctr7 (G F w.heap.size nb) w9 a0 az0_0 az0_1 az0_2 az0_3 az0_4 ah0_0 ah0_1 ah0_2 ah0_3 ah0_4 y16 hy17) ?_
   rintro _ w14 ⟨rfl, c15⟩
   have ah0_0 := slRep.ch k_Addr_pos ah0_0 c15
   have ah0_1 := slRep.ch k_Addr_pos ah0_1 c15
   have ah0_2 := slRep.ch k_Addr_pos ah0_2 c15
   have ah0_3 := slRep.ch k_Cidr_pos ah0_3 c15
   have ah0_4 := slRep.ch k_Port_pos ah0_4 c15
   have ah1 := slRep.ch k_Slice_pos ah1 c15
   have ah2_0 := slRep.ch k_Addr_pos ah2_0 c15
   have k4 := k4.ch0 c15
   have k8 := k8.ch0 c15
   have c0 := c0.then0 c15
   refine rl_move rfl rfl ?_
   obtain ⟨b20, hb21⟩ : ∃ v, (y16 || (lt (F8_linkboylaw13_LongNode a2) fun y22 => y22)) = v := ⟨_, rfl⟩
   have hS := ltS hb21 hS
   refine RL.join 3 26 (.bool b20) (fun w' => Ch nb w14 w') ?_ ?_
   · rcases Bool.eq_false_or_eq_true y16 with hg19 | hg19
     ·
      have hs18 := or_t hg19 hb21
      have cs : Ch nb w14 w14 := Ch.refl
      refine RL.no rfl rfl rfl hg19 rfl rfl ?_
      refine RL.no rfl rfl rfl hg19 rfl rfl ?_
      refine rl_pickT rfl hg19 rfl rfl ?_
      exact RL.nil ⟨Ext.bothEq (congrArg Value.bool hs18) (Ext.skip rfl (Ext.skip rfl (Ext.rfl'))), cs⟩
     ·
      have hs18 := or_f hg19 hb21
      have cs : Ch nb w14 w14 := Ch.refl
      refine RL.yes rfl rfl rfl hg19 ?_
      refine rl_loadA (cs := (Node.c a2 az2_0)) rfl Tryz.isAgg31 Tryz.sizeOf31 (k8.segAt 0 3) rfl rfl ?_
      refine RL.yes rfl rfl rfl hg19 ?_
      obtain ⟨y25, hy26⟩ : ∃ y, F8_linkboylaw13_LongNode a2 = y := ⟨_, rfl⟩
      have hs18 := ltS hy26 hs18
      refine rl_callF rfl en8 rfl (ctr8 (G F w.heap.size nb) w14 a2 az2_0 ah2_0 y25 hy26) ?_
      rintro _ w23 ⟨rfl, c24⟩
      refine rl_pickF rfl hg19 rfl rfl ?_
      have cs := cs.then0 c24
      exact RL.nil ⟨Ext.bothEq (congrArg Value.bool hs18) (Ext.skip rfl (Ext.skip rfl (Ext.rfl'))), cs⟩
   intro w22 c27
   have ah0_0 := slRep.ch k_Addr_pos ah0_0 c27
   have ah0_1 := slRep.ch k_Addr_pos ah0_1 c27
   have ah0_2 := slRep.ch k_Addr_pos ah0_2 c27
   have ah0_3 := slRep.ch k_Cidr_pos ah0_3 c27
   have ah0_4 := slRep.ch k_Port_pos ah0_4 c27
   have ah1 := slRep.ch k_Slice_pos ah1 c27
   have ah2_0 := slRep.ch k_Addr_pos ah2_0 c27
   have k4 := k4.ch0 c27
   have k8 := k8.ch0 c27
   have c0 := c0.then0 c27
   refine rl_move rfl rfl ?_
   obtain ⟨b30, hb31⟩ : ∃ v, (b20 || (lt (F9_linkboylaw19_Long a1) fun y32 => y32)) = v := ⟨_, rfl⟩
   have hS := ltS hb31 hS
   refine RL.join 3 30 (.bool b30) (fun w' => Ch nb w22 w') ?_ ?_
   · rcases Bool.eq_false_or_eq_true b20 with hg29 | hg29
     ·
      have hs28 := or_t hg29 hb31
      have cs : Ch nb w22 w22 := Ch.refl
      refine RL.no rfl rfl rfl hg29 rfl rfl ?_
      refine RL.no rfl rfl rfl hg29 rfl rfl ?_
      refine rl_pickT rfl hg29 rfl rfl ?_
      exact RL.nil ⟨Ext.bothEq (congrArg Value.bool hs28) (Ext.skip rfl (Ext.skip rfl (Ext.rfl'))), cs⟩
     ·
      have hs28 := or_f hg29 hb31
      have cs : Ch nb w22 w22 := Ch.refl
      refine RL.yes rfl rfl rfl hg29 ?_
      refine rl_move rfl rfl ?_
      refine RL.yes rfl rfl rfl hg29 ?_
      obtain ⟨y35, hy36⟩ : ∃ y, F9_linkboylaw19_Long a1 = y := ⟨_, rfl⟩
      have hs28 := ltS hy36 hs28
      refine rl_callF rfl en9 rfl (ctr9 (G F w.heap.size nb) w22 a1 av1 ah1 y35 hy36) ?_
      rintro _ w33 ⟨rfl, c34⟩
      refine rl_pickF rfl hg29 rfl rfl ?_
      have cs := cs.then0 c34
      exact RL.nil ⟨Ext.bothEq (congrArg Value.bool hs28) (Ext.skip rfl (Ext.skip rfl (Ext.rfl'))), cs⟩
   intro w32 c37
   have ah0_0 := slRep.ch k_Addr_pos ah0_0 c37
   have ah0_1 := slRep.ch k_Addr_pos ah0_1 c37
   have ah0_2 := slRep.ch k_Addr_pos ah0_2 c37
   have ah0_3 := slRep.ch k_Cidr_pos ah0_3 c37
   have ah0_4 := slRep.ch k_Port_pos ah0_4 c37
   have ah1 := slRep.ch k_Slice_pos ah1 c37
   have ah2_0 := slRep.ch k_Addr_pos ah2_0 c37
   have k4 := k4.ch0 c37
   have k8 := k8.ch0 c37
   have c0 := c0.then0 c37
   refine RL.nil ?_
   refine thn_n ?_
   refine CW.cond (t := b30) rfl (fun q38 => ?_) (fun q38 => ?_)
   ·
    have hS := ifT q38 hS
    refine CW.seq (CW.region ?_)
    refine rl_assign rfl rfl ?_
    refine RL.nil ?_
    refine thn_n ?_
    refine CW.ret ?_
    refine thn_ret ?_
    obtain rfl := Option.some.inj hS
    exact ret1 rfl ⟨rfl, c0⟩
   ·
    have hS := ifF q38 hS
    refine CW.skip ?_
    refine thn_n ?_
    refine CW.seq (CW.region ?_)
    refine rl_loadA (cs := (Service.c a0 az0_0 az0_1 az0_2 az0_3 az0_4)) rfl Tryz.isAgg28 Tryz.sizeOf28 (k4.segAt 0 13) rfl rfl ?_
    refine rl_move rfl rfl ?_
    refine rl_loadA (cs := (Node.c a2 az2_0)) rfl Tryz.isAgg31 Tryz.sizeOf31 (k8.segAt 0 3) rfl rfl ?_
    obtain ⟨y41, hy42, hS⟩ := bindS hS
    refine rl_callF rfl en10 rfl (ctr10 (G F w.heap.size nb) w32 a0 az0_0 az0_1 az0_2 az0_3 az0_4 ah0_0 ah0_1 ah0_2 ah0_3 ah0_4 a1 av1 ah1 a2 az2_0 ah2_0 y41 hy42) ?_
    rintro _ w39 ⟨z43, z44, rfl, h45, h46, c40⟩
    have h45 := slRep.back k_Face_pos h45 nbS c0.size
    have h46 := slRep.back k_Group_pos h46 nbS c0.size
    have ah0_0 := slRep.ch k_Addr_pos ah0_0 c40
    have ah0_1 := slRep.ch k_Addr_pos ah0_1 c40
    have ah0_2 := slRep.ch k_Addr_pos ah0_2 c40
    have ah0_3 := slRep.ch k_Cidr_pos ah0_3 c40
    have ah0_4 := slRep.ch k_Port_pos ah0_4 c40
    have ah1 := slRep.ch k_Slice_pos ah1 c40
    have ah2_0 := slRep.ch k_Addr_pos ah2_0 c40
    have k4 := k4.ch0 c40
    have k8 := k8.ch0 c40
    have c0 := c0.then0 c40
    refine rl_alloc (Resolved.c Resolved.z (Value.slice none 0 0) (Value.slice none 0 0)) Tryz.zeroValue39 rfl rfl ?_
    intro p47 w48 n49 k50
    have lo51 : ∀ b, inBlk (PV p47) b → w.heap.size ≤ b := fun b h => Nat.le_trans c0.size (n49.fresh b h)
    have ah0_0 := slRep.st k_Addr_pos ah0_0 n49.ch (admNew n49.fresh (fun _ x => x))
    have ah0_1 := slRep.st k_Addr_pos ah0_1 n49.ch (admNew n49.fresh (fun _ x => x))
    have ah0_2 := slRep.st k_Addr_pos ah0_2 n49.ch (admNew n49.fresh (fun _ x => x))
    have ah0_3 := slRep.st k_Cidr_pos ah0_3 n49.ch (admNew n49.fresh (fun _ x => x))
    have ah0_4 := slRep.st k_Port_pos ah0_4 n49.ch (admNew n49.fresh (fun _ x => x))
    have ah1 := slRep.st k_Slice_pos ah1 n49.ch (admNew n49.fresh (fun _ x => x))
    have ah2_0 := slRep.st k_Addr_pos ah2_0 n49.ch (admNew n49.fresh (fun _ x => x))
    have gp1n : (G F w.heap.size (un (inBlk (PV p47)) nb)) p1 := ⟨gp1.1, ((admNew n49.fresh (fun _ x => x)) _ k4.lt gp1.2).2⟩
    have k4 := k4.ch0 n49.ch
    have gp1 := gp1n
    have gp5n : (G F w.heap.size (un (inBlk (PV p47)) nb)) p5 := ⟨gp5.1, ((admNew n49.fresh (fun _ x => x)) _ k8.lt gp5.2).2⟩
    have k8 := k8.ch0 n49.ch
    have gp5 := gp5n
    have h45 := slRep.st k_Face_pos h45 n49.ch (admNew n49.fresh (fun _ x => x))
    have h46 := slRep.st k_Group_pos h46 n49.ch (admNew n49.fresh (fun _ x => x))
    have c0 := c0.then0 n49.ch
    refine rl_storeA (vs := (Resolved.c y41 z43 z44)) rfl rfl (Kd.one _ (show k_Resolved.rep (G F w.heap.size (un (inBlk (PV p47)) nb)) w48 y41 (Resolved.c y41 z43 z44) from ⟨z43, z44, rfl, h45, h46⟩)) Tryz.sizeOf39 rfl k50 rfl ?_
    intro w52 s54 c53 k55
    have ad56 : ∀ b, b < w48.heap.size → ¬ (un (inBlk (PV p47)) nb) b → ¬ (inBlk (PV p47)) b ∧ ¬ (un (inBlk (PV p47)) nb) b := fun b _ hs => ⟨fun h => hs (.inl h), hs⟩
    have ah0_0 := slRep.st k_Addr_pos ah0_0 c53 ad56
    have ah0_1 := slRep.st k_Addr_pos ah0_1 c53 ad56
    have ah0_2 := slRep.st k_Addr_pos ah0_2 c53 ad56
    have ah0_3 := slRep.st k_Cidr_pos ah0_3 c53 ad56
    have ah0_4 := slRep.st k_Port_pos ah0_4 c53 ad56
    have ah1 := slRep.st k_Slice_pos ah1 c53 ad56
    have ah2_0 := slRep.st k_Addr_pos ah2_0 c53 ad56
    have k4 := k4.ch c53 (ad56 _ k4.lt gp1.2).1
    have k8 := k8.ch c53 (ad56 _ k8.lt gp5.2).1
    have h45 := slRep.st k_Face_pos h45 c53 ad56
    have h46 := slRep.st k_Group_pos h46 c53 ad56
    have c0 := c0.then c53 (fun i hi h => absurd (lo51 i h) (Nat.not_le_of_lt hi))
    refine RL.nil ?_
    refine thn_n ?_
    refine CW.seq ?_
    refine CW.seq (CW.region ?_)
    refine rl_fieldAddr rfl fa39_1 rfl ?_
    refine rl_loadS (v := z43) rfl Tryz.isAgg36 (k55.cell rfl) rfl ?_
    refine rl_lenR rfl h45 Tryz.underlying36 rfl ?_
    refine rl_move rfl rfl ?_
    refine RL.nil ?_
    refine thn_n ?_
    obtain ⟨o64, ho65, hS⟩ := bindS hS
    refine CW.cutB (fun E' w' => ∃ (_ : Unit), Sub [(7, (PV p47))] E' ∧ Ch nb w w' ∧ Lp.fin () = o64 ∧ slRep k_Addr (G F w.heap.size (un (inBlk (PV p47)) nb)) w' a0.cluster az0_0 ∧ slRep k_Addr (G F w.heap.size (un (inBlk (PV p47)) nb)) w' a0.external az0_1 ∧ slRep k_Addr (G F w.heap.size (un (inBlk (PV p47)) nb)) w' a0.balancers az0_2 ∧ slRep k_Cidr (G F w.heap.size (un (inBlk (PV p47)) nb)) w' a0.ranges az0_3 ∧ slRep k_Port (G F w.heap.size (un (inBlk (PV p47)) nb)) w' a0.ports az0_4 ∧ slRep k_Slice (G F w.heap.size (un (inBlk (PV p47)) nb)) w' a1 av1 ∧ slRep k_Addr (G F w.heap.size (un (inBlk (PV p47)) nb)) w' a2.addrs az2_0 ∧ Blk w' p1 28 (Service.c a0 az0_0 az0_1 az0_2 az0_3 az0_4) ∧ Blk w' p5 31 (Node.c a2 az2_0) ∧ slRep k_Face (G F w.heap.size (un (inBlk (PV p47)) nb)) w' y41.faces z43 ∧ slRep k_Group (G F w.heap.size (un (inBlk (PV p47)) nb)) w' y41.groups z44 ∧ Blk w' p47 39 (Resolved.c y41 z43 z44) ∧ (G F w.heap.size (un (inBlk (PV p47)) nb)) p1 ∧ (G F w.heap.size (un (inBlk (PV p47)) nb)) p5) ?_ ?_
    ·
     refine CW.loopS [(7, (PV p47)), (36, z43), (37, (Value.int .i64 ((y41.faces.length : Nat) : Int))), (38, (Value.int .i64 ((0 : Nat) : Int)))] ⟨rfl, rfl, rfl, rfl, trivial⟩ y41.faces.length (fun m E w' => ∃ (rest57 : List Face) (i58 : Nat) , m = rest57.length ∧ E = [(7, (PV p47)), (36, z43), (37, (Value.int .i64 ((y41.faces.length : Nat) : Int))), (38, (Value.int .i64 ((i58 : Nat) : Int)))] ∧ Ch nb w w' ∧ At y41.faces i58 rest57 ∧ runBO (F3_linkboylaw21_ResolveWhole_b1 y41) rest57 () = some o64 ∧ slRep k_Addr (G F w.heap.size (un (inBlk (PV p47)) nb)) w' a0.cluster az0_0 ∧ slRep k_Addr (G F w.heap.size (un (inBlk (PV p47)) nb)) w' a0.external az0_1 ∧ slRep k_Addr (G F w.heap.size (un (inBlk (PV p47)) nb)) w' a0.balancers az0_2 ∧ slRep k_Cidr (G F w.heap.size (un (inBlk (PV p47)) nb)) w' a0.ranges az0_3 ∧ slRep k_Port (G F w.heap.size (un (inBlk (PV p47)) nb)) w' a0.ports az0_4 ∧ slRep k_Slice (G F w.heap.size (un (inBlk (PV p47)) nb)) w' a1 av1 ∧ slRep k_Addr (G F w.heap.size (un (inBlk (PV p47)) nb)) w' a2.addrs az2_0 ∧ Blk w' p1 28 (Service.c a0 az0_0 az0_1 az0_2 az0_3 az0_4) ∧ Blk w' p5 31 (Node.c a2 az2_0) ∧ slRep k_Face (G F w.heap.size (un (inBlk (PV p47)) nb)) w' y41.faces z43 ∧ slRep k_Group (G F w.heap.size (un (inBlk (PV p47)) nb)) w' y41.groups z44 ∧ Blk w' p47 39 (Resolved.c y41 z43 z44) ∧ (G F w.heap.size (un (inBlk (PV p47)) nb)) p1 ∧ (G F w.heap.size (un (inBlk (PV p47)) nb)) p5)
         ⟨y41.faces, 0, rfl, rfl, c0, At.start, ho65, ah0_0, ah0_1, ah0_2, ah0_3, ah0_4, ah1, ah2_0, k4, k8, h45, h46, k55, gp1, gp5⟩ ?_
     rintro _ _ w70 ⟨rest57, i58, rfl, rfl, c69, hat60, hL59, ah0_0, ah0_1, ah0_2, ah0_3, ah0_4, ah1, ah2_0, k4, k8, h45, h46, k55, gp1, gp5⟩
     refine CW.seq (CW.region ?_)
     refine rl_bin rfl rfl B.lss rfl ?_
     refine RL.nil (thn_n ?_)
     refine CW.seq ?_
     refine CW.cond (t := decide (((i58 : Nat) : Int) < ((y41.faces.length : Nat) : Int))) rfl (fun q72 => ?_) (fun q72 => ?_)
     ·
      obtain ⟨x66, rest73, rfl⟩ := hat60.cons q72
      obtain ⟨q61, hq62⟩ := runBO_some hL59
      have hb63 := hq62
      refine CW.skip (thn_n ?_)
      refine CW.seq ?_
      refine CW.block ?_
      refine CW.seq (CW.region ?_)
      refine rl_ixR rfl h45 rfl hat60.get Tryz.underlying36 Tryz.sizeOf47 rfl ?_
      intro p74 o75 cs76 hr77 hs78 hg79
      obtain rfl := hr77
      refine rl_loadA (cs := (Face.enc x66)) rfl Tryz.isAgg47 Tryz.sizeOf47 (hs78) rfl rfl ?_
      refine rl_alloc (Face.enc Face.z) Tryz.zeroValue47 rfl rfl ?_
      intro p80 w81 n82 k83
      have lo84 : ∀ b, inBlk (PV p80) b → w.heap.size ≤ b := fun b h => Nat.le_trans c69.size (n82.fresh b h)
      have d85 : ∀ b, inBlk (PV p80) b → ¬ inBlk (PV p47) b := disNew n82.fresh k55.ltp
      have ah0_0 := slRep.st k_Addr_pos ah0_0 n82.ch (admNew n82.fresh (fun _ x => x))
      have ah0_1 := slRep.st k_Addr_pos ah0_1 n82.ch (admNew n82.fresh (fun _ x => x))
      have ah0_2 := slRep.st k_Addr_pos ah0_2 n82.ch (admNew n82.fresh (fun _ x => x))
      have ah0_3 := slRep.st k_Cidr_pos ah0_3 n82.ch (admNew n82.fresh (fun _ x => x))
      have ah0_4 := slRep.st k_Port_pos ah0_4 n82.ch (admNew n82.fresh (fun _ x => x))
      have ah1 := slRep.st k_Slice_pos ah1 n82.ch (admNew n82.fresh (fun _ x => x))
      have ah2_0 := slRep.st k_Addr_pos ah2_0 n82.ch (admNew n82.fresh (fun _ x => x))
      have gp1n : (G F w.heap.size (un (inBlk (PV p80)) (un (inBlk (PV p47)) nb))) p1 := ⟨gp1.1, ((admNew n82.fresh (fun _ x => x)) _ k4.lt gp1.2).2⟩
      have k4 := k4.ch0 n82.ch
      have gp1 := gp1n
      have gp5n : (G F w.heap.size (un (inBlk (PV p80)) (un (inBlk (PV p47)) nb))) p5 := ⟨gp5.1, ((admNew n82.fresh (fun _ x => x)) _ k8.lt gp5.2).2⟩
      have k8 := k8.ch0 n82.ch
      have gp5 := gp5n
      have h45 := slRep.st k_Face_pos h45 n82.ch (admNew n82.fresh (fun _ x => x))
      have h46 := slRep.st k_Group_pos h46 n82.ch (admNew n82.fresh (fun _ x => x))
      have k55 := k55.ch0 n82.ch
      have c69 := c69.then0 n82.ch
      refine rl_storeA (vs := (Face.enc x66)) rfl rfl (all_one rfl) Tryz.sizeOf47 rfl k83 rfl ?_
      intro w86 s88 c87 k89
      have ad90 : ∀ b, b < w81.heap.size → ¬ (un (inBlk (PV p80)) (un (inBlk (PV p47)) nb)) b → ¬ (inBlk (PV p80)) b ∧ ¬ (un (inBlk (PV p80)) (un (inBlk (PV p47)) nb)) b := fun b _ hs => ⟨fun h => hs (.inl h), hs⟩
      have ah0_0 := slRep.st k_Addr_pos ah0_0 c87 ad90
      have ah0_1 := slRep.st k_Addr_pos ah0_1 c87 ad90
      have ah0_2 := slRep.st k_Addr_pos ah0_2 c87 ad90
      have ah0_3 := slRep.st k_Cidr_pos ah0_3 c87 ad90
      have ah0_4 := slRep.st k_Port_pos ah0_4 c87 ad90
      have ah1 := slRep.st k_Slice_pos ah1 c87 ad90
      have ah2_0 := slRep.st k_Addr_pos ah2_0 c87 ad90
      have k4 := k4.ch c87 (ad90 _ k4.lt gp1.2).1
      have k8 := k8.ch c87 (ad90 _ k8.lt gp5.2).1
      have h45 := slRep.st k_Face_pos h45 c87 ad90
      have h46 := slRep.st k_Group_pos h46 c87 ad90
      have k55 := k55.ch c87 ((fun b hb h => (disSym d85) b hb h) _ rfl)
      have c69 := c69.then c87 (fun i hi h => absurd (lo84 i h) (Nat.not_le_of_lt hi))
      refine RL.nil ?_
      refine thn_n ?_
      refine CW.seq (CW.region ?_)
      refine rl_loadA (cs := (Resolved.c y41 z43 z44)) rfl Tryz.isAgg39 Tryz.sizeOf39 (k55.segAt 0 4) rfl rfl ?_
      refine rl_loadA (cs := (Face.enc x66)) rfl Tryz.isAgg47 Tryz.sizeOf47 (k89.segAt 0 23) rfl rfl ?_
      obtain ⟨y93, hy94, hb63⟩ := bindS hb63
      refine rl_callF rfl en11 rfl (ctr11 (G F w.heap.size (un (inBlk (PV p80)) (un (inBlk (PV p47)) nb))) w86 y41 z43 z44 h45 h46 x66 y93 hy94) ?_
      rintro _ w91 ⟨z95, rfl, h96, c92⟩
      have h96 := slRep.back k_Point_pos h96 (un_lt k89.ltp (un_lt k55.ltp nbS)) c69.size
      have ah0_0 := slRep.ch k_Addr_pos ah0_0 c92
      have ah0_1 := slRep.ch k_Addr_pos ah0_1 c92
      have ah0_2 := slRep.ch k_Addr_pos ah0_2 c92
      have ah0_3 := slRep.ch k_Cidr_pos ah0_3 c92
      have ah0_4 := slRep.ch k_Port_pos ah0_4 c92
      have ah1 := slRep.ch k_Slice_pos ah1 c92
      have ah2_0 := slRep.ch k_Addr_pos ah2_0 c92
      have k4 := k4.ch0 c92
      have k8 := k8.ch0 c92
      have h45 := slRep.ch k_Face_pos h45 c92
      have h46 := slRep.ch k_Group_pos h46 c92
      have k55 := k55.ch0 c92
      have k89 := k89.ch0 c92
      have c69 := c69.then0 c92
      refine rl_move rfl rfl ?_
      refine rl_extract rfl rfl rfl ?_
      refine rl_extract rfl rfl rfl ?_
      refine rl_alloc (Group.c Group.z (Value.slice none 0 0)) Tryz.zeroValue50 rfl rfl ?_
      intro p97 w98 n99 k100
      have lo101 : ∀ b, inBlk (PV p97) b → w.heap.size ≤ b := fun b h => Nat.le_trans c69.size (n99.fresh b h)
      have d102 : ∀ b, inBlk (PV p97) b → ¬ inBlk (PV p80) b := disNew n99.fresh k89.ltp
      have d103 : ∀ b, inBlk (PV p97) b → ¬ inBlk (PV p47) b := disNew n99.fresh k55.ltp
      have ah0_0 := slRep.st k_Addr_pos ah0_0 n99.ch (admNew n99.fresh (fun _ x => x))
      have ah0_1 := slRep.st k_Addr_pos ah0_1 n99.ch (admNew n99.fresh (fun _ x => x))
      have ah0_2 := slRep.st k_Addr_pos ah0_2 n99.ch (admNew n99.fresh (fun _ x => x))
      have ah0_3 := slRep.st k_Cidr_pos ah0_3 n99.ch (admNew n99.fresh (fun _ x => x))
      have ah0_4 := slRep.st k_Port_pos ah0_4 n99.ch (admNew n99.fresh (fun _ x => x))
      have ah1 := slRep.st k_Slice_pos ah1 n99.ch (admNew n99.fresh (fun _ x => x))
      have ah2_0 := slRep.st k_Addr_pos ah2_0 n99.ch (admNew n99.fresh (fun _ x => x))
      have gp1n : (G F w.heap.size (un (inBlk (PV p97)) (un (inBlk (PV p80)) (un (inBlk (PV p47)) nb)))) p1 := ⟨gp1.1, ((admNew n99.fresh (fun _ x => x)) _ k4.lt gp1.2).2⟩
      have k4 := k4.ch0 n99.ch
      have gp1 := gp1n
      have gp5n : (G F w.heap.size (un (inBlk (PV p97)) (un (inBlk (PV p80)) (un (inBlk (PV p47)) nb)))) p5 := ⟨gp5.1, ((admNew n99.fresh (fun _ x => x)) _ k8.lt gp5.2).2⟩
      have k8 := k8.ch0 n99.ch
      have gp5 := gp5n
      have h45 := slRep.st k_Face_pos h45 n99.ch (admNew n99.fresh (fun _ x => x))
      have h46 := slRep.st k_Group_pos h46 n99.ch (admNew n99.fresh (fun _ x => x))
      have k55 := k55.ch0 n99.ch
      have k89 := k89.ch0 n99.ch
      have h96 := slRep.st k_Point_pos h96 n99.ch (admNew n99.fresh (fun _ x => x))
      have c69 := c69.then0 n99.ch
      refine rl_storeA (vs := (Group.c y93.1 z95)) rfl rfl (Kd.one _ (show k_Group.rep (G F w.heap.size (un (inBlk (PV p97)) (un (inBlk (PV p80)) (un (inBlk (PV p47)) nb)))) w98 y93.1 (Group.c y93.1 z95) from ⟨z95, rfl, h96⟩)) Tryz.sizeOf50 rfl k100 rfl ?_
      intro w104 s106 c105 k107
      have ad108 : ∀ b, b < w98.heap.size → ¬ (un (inBlk (PV p97)) (un (inBlk (PV p80)) (un (inBlk (PV p47)) nb))) b → ¬ (inBlk (PV p97)) b ∧ ¬ (un (inBlk (PV p97)) (un (inBlk (PV p80)) (un (inBlk (PV p47)) nb))) b := fun b _ hs => ⟨fun h => hs (.inl h), hs⟩
      have ah0_0 := slRep.st k_Addr_pos ah0_0 c105 ad108
      have ah0_1 := slRep.st k_Addr_pos ah0_1 c105 ad108
      have ah0_2 := slRep.st k_Addr_pos ah0_2 c105 ad108
      have ah0_3 := slRep.st k_Cidr_pos ah0_3 c105 ad108
      have ah0_4 := slRep.st k_Port_pos ah0_4 c105 ad108
      have ah1 := slRep.st k_Slice_pos ah1 c105 ad108
      have ah2_0 := slRep.st k_Addr_pos ah2_0 c105 ad108
      have k4 := k4.ch c105 (ad108 _ k4.lt gp1.2).1
      have k8 := k8.ch c105 (ad108 _ k8.lt gp5.2).1
      have h45 := slRep.st k_Face_pos h45 c105 ad108
      have h46 := slRep.st k_Group_pos h46 c105 ad108
      have k55 := k55.ch c105 ((fun b hb h => (disSym d103) b hb h) _ rfl)
      have k89 := k89.ch c105 ((fun b hb h => (disSym d102) b hb h) _ rfl)
      have c69 := c69.then c105 (fun i hi h => absurd (lo101 i h) (Nat.not_le_of_lt hi))
      refine rl_assign rfl rfl ?_
      refine RL.nil ?_
      refine thn_n ?_
      refine CW.seq (CW.region ?_)
      refine rl_move rfl rfl ?_
      refine rl_not rfl rfl ?_
      refine rl_move rfl rfl ?_
      obtain ⟨b111, hb112⟩ : ∃ v, ((!y93.2) || (!decide (y93.1.name = x66.name))) = v := ⟨_, rfl⟩
      have hb63 := ltS hb112 hb63
      refine RL.join 6 56 (.bool b111) (fun w' => Ch nb w104 w') ?_ ?_
      · rcases Bool.eq_false_or_eq_true (!y93.2) with hg110 | hg110
        ·
         have hs109 := or_t hg110 hb112
         have cs : Ch nb w104 w104 := Ch.refl
         refine RL.no rfl rfl rfl hg110 rfl rfl ?_
         refine RL.no rfl rfl rfl hg110 rfl rfl ?_
         refine RL.no rfl rfl rfl hg110 rfl rfl ?_
         refine RL.no rfl rfl rfl hg110 rfl rfl ?_
         refine RL.no rfl rfl rfl hg110 rfl rfl ?_
         refine rl_pickT rfl hg110 rfl rfl ?_
         exact RL.nil ⟨Ext.bothEq (congrArg Value.bool hs109) (Ext.skip rfl (Ext.skip rfl (Ext.skip rfl (Ext.skip rfl (Ext.skip rfl (Ext.rfl')))))), cs⟩
        ·
         have hs109 := or_f hg110 hb112
         have cs : Ch nb w104 w104 := Ch.refl
         refine RL.yes rfl rfl rfl hg110 ?_
         refine rl_fieldAddr rfl fa50_0 rfl ?_
         refine RL.yes rfl rfl rfl hg110 ?_
         refine rl_loadS (v := (Value.string y93.1.name)) rfl Tryz.isAgg9 (k107.cell rfl) rfl ?_
         refine RL.yes rfl rfl rfl hg110 ?_
         refine rl_fieldAddr rfl fa47_2 rfl ?_
         refine RL.yes rfl rfl rfl hg110 ?_
         refine rl_loadS (v := (Value.string x66.name)) rfl Tryz.isAgg9 (k89.cell rfl) rfl ?_
         refine RL.yes rfl rfl rfl hg110 ?_
         refine rl_bin rfl rfl B.neqS rfl ?_
         refine rl_pickF rfl hg110 rfl rfl ?_
         exact RL.nil ⟨Ext.bothEq (congrArg Value.bool hs109) (Ext.skip rfl (Ext.skip rfl (Ext.skip rfl (Ext.skip rfl (Ext.skip rfl (Ext.rfl')))))), cs⟩
      intro w113 c114
      have ah0_0 := slRep.ch k_Addr_pos ah0_0 c114
      have ah0_1 := slRep.ch k_Addr_pos ah0_1 c114
      have ah0_2 := slRep.ch k_Addr_pos ah0_2 c114
      have ah0_3 := slRep.ch k_Cidr_pos ah0_3 c114
      have ah0_4 := slRep.ch k_Port_pos ah0_4 c114
      have ah1 := slRep.ch k_Slice_pos ah1 c114
      have ah2_0 := slRep.ch k_Addr_pos ah2_0 c114
      have k4 := k4.ch0 c114
      have k8 := k8.ch0 c114
      have h45 := slRep.ch k_Face_pos h45 c114
      have h46 := slRep.ch k_Group_pos h46 c114
      have k55 := k55.ch0 c114
      have k89 := k89.ch0 c114
      have k107 := k107.ch0 c114
      have c69 := c69.then0 c114
      refine rl_move rfl rfl ?_
      obtain ⟨b117, hb118⟩ : ∃ v, (b111 || (!(y93.1.six == x66.point.addr.six))) = v := ⟨_, rfl⟩
      have hb63 := ltS hb118 hb63
      refine RL.join 8 65 (.bool b117) (fun w' => Ch nb w113 w') ?_ ?_
      · rcases Bool.eq_false_or_eq_true b111 with hg116 | hg116
        ·
         have hs115 := or_t hg116 hb118
         have cs : Ch nb w113 w113 := Ch.refl
         refine RL.no rfl rfl rfl hg116 rfl rfl ?_
         refine RL.no rfl rfl rfl hg116 rfl rfl ?_
         refine RL.no rfl rfl rfl hg116 rfl rfl ?_
         refine RL.no rfl rfl rfl hg116 rfl rfl ?_
         refine RL.no rfl rfl rfl hg116 rfl rfl ?_
         refine RL.no rfl rfl rfl hg116 rfl rfl ?_
         refine RL.no rfl rfl rfl hg116 rfl rfl ?_
         refine rl_pickT rfl hg116 rfl rfl ?_
         exact RL.nil ⟨Ext.bothEq (congrArg Value.bool hs115) (Ext.skip rfl (Ext.skip rfl (Ext.skip rfl (Ext.skip rfl (Ext.skip rfl (Ext.skip rfl (Ext.skip rfl (Ext.rfl')))))))), cs⟩
        ·
         have hs115 := or_f hg116 hb118
         have cs : Ch nb w113 w113 := Ch.refl
         refine RL.yes rfl rfl rfl hg116 ?_
         refine rl_fieldAddr rfl fa50_2 rfl ?_
         refine RL.yes rfl rfl rfl hg116 ?_
         refine rl_loadS (v := (Value.bool y93.1.six)) rfl Tryz.isAgg4 (k107.cell rfl) rfl ?_
         refine RL.yes rfl rfl rfl hg116 ?_
         refine rl_fieldAddr rfl fa47_1 rfl ?_
         refine RL.yes rfl rfl rfl hg116 ?_
         refine rl_fieldAddr rfl fa45_0 rfl ?_
         refine RL.yes rfl rfl rfl hg116 ?_
         refine rl_fieldAddr rfl fa43_0 rfl ?_
         refine RL.yes rfl rfl rfl hg116 ?_
         refine rl_loadS (v := (Value.bool x66.point.addr.six)) rfl Tryz.isAgg4 (k89.cell rfl) rfl ?_
         refine RL.yes rfl rfl rfl hg116 ?_
         refine rl_bin rfl rfl (B.neqB Tryz.underlying4) rfl ?_
         refine rl_pickF rfl hg116 rfl rfl ?_
         exact RL.nil ⟨Ext.bothEq (congrArg Value.bool hs115) (Ext.skip rfl (Ext.skip rfl (Ext.skip rfl (Ext.skip rfl (Ext.skip rfl (Ext.skip rfl (Ext.skip rfl (Ext.rfl')))))))), cs⟩
      intro w119 c120
      have ah0_0 := slRep.ch k_Addr_pos ah0_0 c120
      have ah0_1 := slRep.ch k_Addr_pos ah0_1 c120
      have ah0_2 := slRep.ch k_Addr_pos ah0_2 c120
      have ah0_3 := slRep.ch k_Cidr_pos ah0_3 c120
      have ah0_4 := slRep.ch k_Port_pos ah0_4 c120
      have ah1 := slRep.ch k_Slice_pos ah1 c120
      have ah2_0 := slRep.ch k_Addr_pos ah2_0 c120
      have k4 := k4.ch0 c120
      have k8 := k8.ch0 c120
      have h45 := slRep.ch k_Face_pos h45 c120
      have h46 := slRep.ch k_Group_pos h46 c120
      have k55 := k55.ch0 c120
      have k89 := k89.ch0 c120
      have k107 := k107.ch0 c120
      have c69 := c69.then0 c120
      refine rl_move rfl rfl ?_
      obtain ⟨b123, hb124⟩ : ∃ v, (b117 || (!(y93.1.localF == x66.localF))) = v := ⟨_, rfl⟩
      have hb63 := ltS hb124 hb63
      refine RL.join 6 72 (.bool b123) (fun w' => Ch nb w119 w') ?_ ?_
      · rcases Bool.eq_false_or_eq_true b117 with hg122 | hg122
        ·
         have hs121 := or_t hg122 hb124
         have cs : Ch nb w119 w119 := Ch.refl
         refine RL.no rfl rfl rfl hg122 rfl rfl ?_
         refine RL.no rfl rfl rfl hg122 rfl rfl ?_
         refine RL.no rfl rfl rfl hg122 rfl rfl ?_
         refine RL.no rfl rfl rfl hg122 rfl rfl ?_
         refine RL.no rfl rfl rfl hg122 rfl rfl ?_
         refine rl_pickT rfl hg122 rfl rfl ?_
         exact RL.nil ⟨Ext.bothEq (congrArg Value.bool hs121) (Ext.skip rfl (Ext.skip rfl (Ext.skip rfl (Ext.skip rfl (Ext.skip rfl (Ext.rfl')))))), cs⟩
        ·
         have hs121 := or_f hg122 hb124
         have cs : Ch nb w119 w119 := Ch.refl
         refine RL.yes rfl rfl rfl hg122 ?_
         refine rl_fieldAddr rfl fa50_3 rfl ?_
         refine RL.yes rfl rfl rfl hg122 ?_
         refine rl_loadS (v := (Value.bool y93.1.localF)) rfl Tryz.isAgg4 (k107.cell rfl) rfl ?_
         refine RL.yes rfl rfl rfl hg122 ?_
         refine rl_fieldAddr rfl fa47_4 rfl ?_
         refine RL.yes rfl rfl rfl hg122 ?_
         refine rl_loadS (v := (Value.bool x66.localF)) rfl Tryz.isAgg4 (k89.cell rfl) rfl ?_
         refine RL.yes rfl rfl rfl hg122 ?_
         refine rl_bin rfl rfl (B.neqB Tryz.underlying4) rfl ?_
         refine rl_pickF rfl hg122 rfl rfl ?_
         exact RL.nil ⟨Ext.bothEq (congrArg Value.bool hs121) (Ext.skip rfl (Ext.skip rfl (Ext.skip rfl (Ext.skip rfl (Ext.skip rfl (Ext.rfl')))))), cs⟩
      intro w125 c126
      have ah0_0 := slRep.ch k_Addr_pos ah0_0 c126
      have ah0_1 := slRep.ch k_Addr_pos ah0_1 c126
      have ah0_2 := slRep.ch k_Addr_pos ah0_2 c126
      have ah0_3 := slRep.ch k_Cidr_pos ah0_3 c126
      have ah0_4 := slRep.ch k_Port_pos ah0_4 c126
      have ah1 := slRep.ch k_Slice_pos ah1 c126
      have ah2_0 := slRep.ch k_Addr_pos ah2_0 c126
      have k4 := k4.ch0 c126
      have k8 := k8.ch0 c126
      have h45 := slRep.ch k_Face_pos h45 c126
      have h46 := slRep.ch k_Group_pos h46 c126
      have k55 := k55.ch0 c126
      have c69 := c69.then0 c126
      refine RL.nil ?_
      refine thn_n ?_
      refine CW.cond (t := b123) rfl (fun q127 => ?_) (fun q127 => ?_)
      ·
       have hb63 := ifT q127 hb63
       refine CW.seq (CW.region ?_)
       refine rl_assign rfl rfl ?_
       refine RL.nil ?_
       refine thn_n ?_
       refine CW.ret ?_
       refine inB_ret ?_
       refine thn_ret ?_
       refine thn_ret (inB_ret (thn_ret ?_))
       refine thn_ret ?_
       have f128 := runBO_ret hL59 hq62 hb63
       have hS := retS f128 hS
       obtain rfl := Option.some.inj hS
       exact ret1 rfl ⟨rfl, c69⟩
      ·
       have hb63 := ifF q127 hb63
       refine CW.skip ?_
       refine inB_n ?_
       refine thn_n ?_
       refine CW.region ?_
       refine rl_inc rfl hat60.lt h45.big rfl ?_
       refine rl_move rfl rfl ?_
       refine RL.nil ?_
       refine thn_n ?_
       have ad129 : ∀ b, b < w125.heap.size → ¬ (un (inBlk (PV p97)) (un (inBlk (PV p80)) (un (inBlk (PV p47)) nb))) b → ¬ nb b ∧ ¬ (un (inBlk (PV p80)) (un (inBlk (PV p47)) nb)) b := fun b _ hs => ⟨fun x => x, fun h => hs (un_el h (fun h => (.inr (.inl h))) (fun h => un_el h (fun h => (.inr (.inr (.inl h)))) (fun h => False.elim h)))⟩
       have crf : Ch nb w125 w125 := Ch.refl
       have ah0_0 := slRep.st k_Addr_pos ah0_0 crf ad129
       have ah0_1 := slRep.st k_Addr_pos ah0_1 crf ad129
       have ah0_2 := slRep.st k_Addr_pos ah0_2 crf ad129
       have ah0_3 := slRep.st k_Cidr_pos ah0_3 crf ad129
       have ah0_4 := slRep.st k_Port_pos ah0_4 crf ad129
       have ah1 := slRep.st k_Slice_pos ah1 crf ad129
       have ah2_0 := slRep.st k_Addr_pos ah2_0 crf ad129
       have gp1n : (G F w.heap.size (un (inBlk (PV p80)) (un (inBlk (PV p47)) nb))) p1 := ⟨gp1.1, (ad129 _ k4.lt gp1.2).2⟩
       have k4 := k4.ch0 crf
       have gp1 := gp1n
       have gp5n : (G F w.heap.size (un (inBlk (PV p80)) (un (inBlk (PV p47)) nb))) p5 := ⟨gp5.1, (ad129 _ k8.lt gp5.2).2⟩
       have k8 := k8.ch0 crf
       have gp5 := gp5n
       have h45 := slRep.st k_Face_pos h45 crf ad129
       have h46 := slRep.st k_Group_pos h46 crf ad129
       have k55 := k55.ch0 crf
       have c69 := c69.then0 crf
       have ad130 : ∀ b, b < w125.heap.size → ¬ (un (inBlk (PV p80)) (un (inBlk (PV p47)) nb)) b → ¬ nb b ∧ ¬ (un (inBlk (PV p47)) nb) b := fun b _ hs => ⟨fun x => x, fun h => hs (un_el h (fun h => (.inr (.inl h))) (fun h => False.elim h))⟩
       have crf : Ch nb w125 w125 := Ch.refl
       have ah0_0 := slRep.st k_Addr_pos ah0_0 crf ad130
       have ah0_1 := slRep.st k_Addr_pos ah0_1 crf ad130
       have ah0_2 := slRep.st k_Addr_pos ah0_2 crf ad130
       have ah0_3 := slRep.st k_Cidr_pos ah0_3 crf ad130
       have ah0_4 := slRep.st k_Port_pos ah0_4 crf ad130
       have ah1 := slRep.st k_Slice_pos ah1 crf ad130
       have ah2_0 := slRep.st k_Addr_pos ah2_0 crf ad130
       have gp1n : (G F w.heap.size (un (inBlk (PV p47)) nb)) p1 := ⟨gp1.1, (ad130 _ k4.lt gp1.2).2⟩
       have k4 := k4.ch0 crf
       have gp1 := gp1n
       have gp5n : (G F w.heap.size (un (inBlk (PV p47)) nb)) p5 := ⟨gp5.1, (ad130 _ k8.lt gp5.2).2⟩
       have k8 := k8.ch0 crf
       have gp5 := gp5n
       have h45 := slRep.st k_Face_pos h45 crf ad130
       have h46 := slRep.st k_Group_pos h46 crf ad130
       have k55 := k55.ch0 crf
       have c69 := c69.then0 crf
       have hLn := runBO_next hL59 hq62 hb63
       exact ⟨rest73.length, Nat.lt_succ_self _, [(7, (PV p47)), (36, z43), (37, (Value.int .i64 ((y41.faces.length : Nat) : Int))), (38, (Value.int .i64 ((i58 + 1 : Nat) : Int)))], ⟨rfl, rfl, rfl, rfl, trivial⟩, ⟨rest73, i58 + 1, rfl, rfl, c69, hat60.next, hLn, ah0_0, ah0_1, ah0_2, ah0_3, ah0_4, ah1, ah2_0, k4, k8, h45, h46, k55, gp1, gp5⟩⟩
     ·
      obtain rfl := hat60.nil q72
      have hLf : Lp.fin () = o64 := runBO_done hL59
      refine CW.exit (thn_exit (thn_exit (inB_hit ?_)))
      exact ⟨(), ⟨rfl, trivial⟩, c69, hLf, ah0_0, ah0_1, ah0_2, ah0_3, ah0_4, ah1, ah2_0, k4, k8, h45, h46, k55, gp1, gp5⟩
    ·
     rintro _ w132 ⟨_, hE133, c131, f134, ah0_0, ah0_1, ah0_2, ah0_3, ah0_4, ah1, ah2_0, k4, k8, h45, h46, k55, gp1, gp5⟩
     have hS := finS f134 hS
     refine thn_n (CW.sub [(7, (PV p47))] hE133 ?_)
     refine CW.seq ?_
     refine CW.seq (CW.region ?_)
     refine rl_fieldAddr rfl fa39_2 rfl ?_
     refine rl_loadS (v := z44) rfl Tryz.isAgg37 (k55.cell rfl) rfl ?_
     refine rl_lenR rfl h46 Tryz.underlying37 rfl ?_
     refine rl_move rfl rfl ?_
     refine RL.nil ?_
     refine thn_n ?_
     obtain ⟨o143, ho144, hS⟩ := bindS hS
     refine CW.cutB (fun E' w' => ∃ (ix150 : Nat), Sub [] E' ∧ Ch nb w w' ∧ Lp.fin ix150 = o143 ∧ slRep k_Addr (G F w.heap.size (un (inBlk (PV p47)) nb)) w' a0.cluster az0_0 ∧ slRep k_Addr (G F w.heap.size (un (inBlk (PV p47)) nb)) w' a0.external az0_1 ∧ slRep k_Addr (G F w.heap.size (un (inBlk (PV p47)) nb)) w' a0.balancers az0_2 ∧ slRep k_Cidr (G F w.heap.size (un (inBlk (PV p47)) nb)) w' a0.ranges az0_3 ∧ slRep k_Port (G F w.heap.size (un (inBlk (PV p47)) nb)) w' a0.ports az0_4 ∧ slRep k_Slice (G F w.heap.size (un (inBlk (PV p47)) nb)) w' a1 av1 ∧ slRep k_Addr (G F w.heap.size (un (inBlk (PV p47)) nb)) w' a2.addrs az2_0 ∧ Blk w' p1 28 (Service.c a0 az0_0 az0_1 az0_2 az0_3 az0_4) ∧ Blk w' p5 31 (Node.c a2 az2_0) ∧ slRep k_Face (G F w.heap.size (un (inBlk (PV p47)) nb)) w' y41.faces z43 ∧ slRep k_Group (G F w.heap.size (un (inBlk (PV p47)) nb)) w' y41.groups z44 ∧ Blk w' p47 39 (Resolved.c y41 z43 z44) ∧ (G F w.heap.size (un (inBlk (PV p47)) nb)) p1 ∧ (G F w.heap.size (un (inBlk (PV p47)) nb)) p5) ?_ ?_
     ·
      refine CW.loopS [(7, (PV p47)), (75, z44), (76, (Value.int .i64 ((y41.groups.length : Nat) : Int))), (77, (Value.int .i64 ((0 : Nat) : Int)))] ⟨rfl, rfl, rfl, rfl, trivial⟩ y41.groups.length (fun m E w' => ∃ (rest136 : List Group) (i137 : Nat) , m = rest136.length ∧ E = [(7, (PV p47)), (75, z44), (76, (Value.int .i64 ((y41.groups.length : Nat) : Int))), (77, (Value.int .i64 ((i137 : Nat) : Int)))] ∧ Ch nb w w' ∧ At y41.groups i137 rest136 ∧ runBO (F3_linkboylaw21_ResolveWhole_b2 y41) rest136 i137 = some o143 ∧ slRep k_Addr (G F w.heap.size (un (inBlk (PV p47)) nb)) w' a0.cluster az0_0 ∧ slRep k_Addr (G F w.heap.size (un (inBlk (PV p47)) nb)) w' a0.external az0_1 ∧ slRep k_Addr (G F w.heap.size (un (inBlk (PV p47)) nb)) w' a0.balancers az0_2 ∧ slRep k_Cidr (G F w.heap.size (un (inBlk (PV p47)) nb)) w' a0.ranges az0_3 ∧ slRep k_Port (G F w.heap.size (un (inBlk (PV p47)) nb)) w' a0.ports az0_4 ∧ slRep k_Slice (G F w.heap.size (un (inBlk (PV p47)) nb)) w' a1 av1 ∧ slRep k_Addr (G F w.heap.size (un (inBlk (PV p47)) nb)) w' a2.addrs az2_0 ∧ Blk w' p1 28 (Service.c a0 az0_0 az0_1 az0_2 az0_3 az0_4) ∧ Blk w' p5 31 (Node.c a2 az2_0) ∧ slRep k_Face (G F w.heap.size (un (inBlk (PV p47)) nb)) w' y41.faces z43 ∧ slRep k_Group (G F w.heap.size (un (inBlk (PV p47)) nb)) w' y41.groups z44 ∧ Blk w' p47 39 (Resolved.c y41 z43 z44) ∧ (G F w.heap.size (un (inBlk (PV p47)) nb)) p1 ∧ (G F w.heap.size (un (inBlk (PV p47)) nb)) p5)
          ⟨y41.groups, 0, rfl, rfl, c131, At.start, ho144, ah0_0, ah0_1, ah0_2, ah0_3, ah0_4, ah1, ah2_0, k4, k8, h45, h46, k55, gp1, gp5⟩ ?_
      rintro _ _ w149 ⟨rest136, i137, rfl, rfl, c148, hat139, hL138, ah0_0, ah0_1, ah0_2, ah0_3, ah0_4, ah1, ah2_0, k4, k8, h45, h46, k55, gp1, gp5⟩
      refine CW.seq (CW.region ?_)
      refine rl_bin rfl rfl B.lss rfl ?_
      refine RL.nil (thn_n ?_)
      refine CW.seq ?_
      refine CW.cond (t := decide (((i137 : Nat) : Int) < ((y41.groups.length : Nat) : Int))) rfl (fun q151 => ?_) (fun q151 => ?_)
      ·
       obtain ⟨x145, rest152, rfl⟩ := hat139.cons q151
       obtain ⟨q140, hq141⟩ := runBO_some hL138
       have hb142 := hq141
       refine CW.skip (thn_n ?_)
       refine CW.seq ?_
       refine CW.block ?_
       refine CW.seq (CW.region ?_)
       refine rl_move rfl rfl ?_
       refine rl_ixR rfl h46 rfl hat139.get Tryz.underlying37 Tryz.sizeOf50 rfl ?_
       intro p153 o154 cs155 hr156 hs157 hg158
       obtain ⟨z159, rfl, h160⟩ := hr156
       refine rl_loadA (cs := (Group.c x145 z159)) rfl Tryz.isAgg50 Tryz.sizeOf50 (hs157) rfl rfl ?_
       refine rl_alloc (Group.c Group.z (Value.slice none 0 0)) Tryz.zeroValue50 rfl rfl ?_
       intro p161 w162 n163 k164
       have lo165 : ∀ b, inBlk (PV p161) b → w.heap.size ≤ b := fun b h => Nat.le_trans c148.size (n163.fresh b h)
       have d166 : ∀ b, inBlk (PV p161) b → ¬ inBlk (PV p47) b := disNew n163.fresh k55.ltp
       have ah0_0 := slRep.st k_Addr_pos ah0_0 n163.ch (admNew n163.fresh (fun _ x => x))
       have ah0_1 := slRep.st k_Addr_pos ah0_1 n163.ch (admNew n163.fresh (fun _ x => x))
       have ah0_2 := slRep.st k_Addr_pos ah0_2 n163.ch (admNew n163.fresh (fun _ x => x))
       have ah0_3 := slRep.st k_Cidr_pos ah0_3 n163.ch (admNew n163.fresh (fun _ x => x))
       have ah0_4 := slRep.st k_Port_pos ah0_4 n163.ch (admNew n163.fresh (fun _ x => x))
       have ah1 := slRep.st k_Slice_pos ah1 n163.ch (admNew n163.fresh (fun _ x => x))
       have ah2_0 := slRep.st k_Addr_pos ah2_0 n163.ch (admNew n163.fresh (fun _ x => x))
       have gp1n : (G F w.heap.size (un (inBlk (PV p161)) (un (inBlk (PV p47)) nb))) p1 := ⟨gp1.1, ((admNew n163.fresh (fun _ x => x)) _ k4.lt gp1.2).2⟩
       have k4 := k4.ch0 n163.ch
       have gp1 := gp1n
       have gp5n : (G F w.heap.size (un (inBlk (PV p161)) (un (inBlk (PV p47)) nb))) p5 := ⟨gp5.1, ((admNew n163.fresh (fun _ x => x)) _ k8.lt gp5.2).2⟩
       have k8 := k8.ch0 n163.ch
       have gp5 := gp5n
       have h45 := slRep.st k_Face_pos h45 n163.ch (admNew n163.fresh (fun _ x => x))
       have h46 := slRep.st k_Group_pos h46 n163.ch (admNew n163.fresh (fun _ x => x))
       have k55 := k55.ch0 n163.ch
       have h160 := slRep.st k_Point_pos h160 n163.ch (admNew n163.fresh (fun _ x => x))
       have c148 := c148.then0 n163.ch
       refine rl_assign rfl rfl ?_
       refine rl_storeA (vs := (Group.c x145 z159)) rfl rfl (Kd.one _ (show k_Group.rep (G F w.heap.size (un (inBlk (PV p161)) (un (inBlk (PV p47)) nb))) w162 x145 (Group.c x145 z159) from ⟨z159, rfl, h160⟩)) Tryz.sizeOf50 rfl k164 rfl ?_
       intro w167 s169 c168 k170
       have ad171 : ∀ b, b < w162.heap.size → ¬ (un (inBlk (PV p161)) (un (inBlk (PV p47)) nb)) b → ¬ (inBlk (PV p161)) b ∧ ¬ (un (inBlk (PV p161)) (un (inBlk (PV p47)) nb)) b := fun b _ hs => ⟨fun h => hs (.inl h), hs⟩
       have ah0_0 := slRep.st k_Addr_pos ah0_0 c168 ad171
       have ah0_1 := slRep.st k_Addr_pos ah0_1 c168 ad171
       have ah0_2 := slRep.st k_Addr_pos ah0_2 c168 ad171
       have ah0_3 := slRep.st k_Cidr_pos ah0_3 c168 ad171
       have ah0_4 := slRep.st k_Port_pos ah0_4 c168 ad171
       have ah1 := slRep.st k_Slice_pos ah1 c168 ad171
       have ah2_0 := slRep.st k_Addr_pos ah2_0 c168 ad171
       have k4 := k4.ch c168 (ad171 _ k4.lt gp1.2).1
       have k8 := k8.ch c168 (ad171 _ k8.lt gp5.2).1
       have h45 := slRep.st k_Face_pos h45 c168 ad171
       have h46 := slRep.st k_Group_pos h46 c168 ad171
       have k55 := k55.ch c168 ((fun b hb h => (disSym d166) b hb h) _ rfl)
       have h160 := slRep.st k_Point_pos h160 c168 ad171
       have c148 := c148.then c168 (fun i hi h => absurd (lo165 i h) (Nat.not_le_of_lt hi))
       refine RL.nil ?_
       refine thn_n ?_
       refine CW.seq (CW.region ?_)
       refine rl_assign rfl rfl ?_
       refine RL.nil ?_
       refine thn_n ?_
       refine CW.seq ?_
       refine CW.seq (CW.region ?_)
       refine rl_fieldAddr rfl fa39_1 rfl ?_
       refine rl_loadS (v := z43) rfl Tryz.isAgg36 (k55.cell rfl) rfl ?_
       refine rl_lenR rfl h45 Tryz.underlying36 rfl ?_
       refine rl_move rfl rfl ?_
       refine RL.nil ?_
       refine thn_n ?_
       obtain ⟨o181, ho182⟩ : ∃ o, runA (F3_linkboylaw21_ResolveWhole_b3 x145) y41.faces false = o := ⟨_, rfl⟩
       have hb142 := ltS ho182 hb142
       refine CW.cutB (fun E' w' => ∃ (x172 : Bool), Sub [(7, (PV p47)), (12, (Value.int .i64 ((i137 : Nat) : Int))), (13, (PV p161)), (75, z44), (76, (Value.int .i64 ((y41.groups.length : Nat) : Int))), (77, (Value.int .i64 ((i137 : Nat) : Int))), (14, (Value.bool x172))] E' ∧ Ch nb w w' ∧ x172 = o181 ∧ slRep k_Addr (G F w.heap.size (un (inBlk (PV p161)) (un (inBlk (PV p47)) nb))) w' a0.cluster az0_0 ∧ slRep k_Addr (G F w.heap.size (un (inBlk (PV p161)) (un (inBlk (PV p47)) nb))) w' a0.external az0_1 ∧ slRep k_Addr (G F w.heap.size (un (inBlk (PV p161)) (un (inBlk (PV p47)) nb))) w' a0.balancers az0_2 ∧ slRep k_Cidr (G F w.heap.size (un (inBlk (PV p161)) (un (inBlk (PV p47)) nb))) w' a0.ranges az0_3 ∧ slRep k_Port (G F w.heap.size (un (inBlk (PV p161)) (un (inBlk (PV p47)) nb))) w' a0.ports az0_4 ∧ slRep k_Slice (G F w.heap.size (un (inBlk (PV p161)) (un (inBlk (PV p47)) nb))) w' a1 av1 ∧ slRep k_Addr (G F w.heap.size (un (inBlk (PV p161)) (un (inBlk (PV p47)) nb))) w' a2.addrs az2_0 ∧ Blk w' p1 28 (Service.c a0 az0_0 az0_1 az0_2 az0_3 az0_4) ∧ Blk w' p5 31 (Node.c a2 az2_0) ∧ slRep k_Face (G F w.heap.size (un (inBlk (PV p161)) (un (inBlk (PV p47)) nb))) w' y41.faces z43 ∧ slRep k_Group (G F w.heap.size (un (inBlk (PV p161)) (un (inBlk (PV p47)) nb))) w' y41.groups z44 ∧ Blk w' p47 39 (Resolved.c y41 z43 z44) ∧ slRep k_Point (G F w.heap.size (un (inBlk (PV p161)) (un (inBlk (PV p47)) nb))) w' x145.points z159 ∧ Blk w' p161 50 (Group.c x145 z159) ∧ (G F w.heap.size (un (inBlk (PV p161)) (un (inBlk (PV p47)) nb))) p1 ∧ (G F w.heap.size (un (inBlk (PV p161)) (un (inBlk (PV p47)) nb))) p5 ∧ (∀ b, inBlk (PV p161) b → ¬ inBlk (PV p47) b)) ?_ ?_
       ·
        refine CW.loopS [(7, (PV p47)), (12, (Value.int .i64 ((i137 : Nat) : Int))), (13, (PV p161)), (75, z44), (76, (Value.int .i64 ((y41.groups.length : Nat) : Int))), (77, (Value.int .i64 ((i137 : Nat) : Int))), (83, z43), (84, (Value.int .i64 ((y41.faces.length : Nat) : Int))), (14, (Value.bool false)), (85, (Value.int .i64 ((0 : Nat) : Int)))] ⟨rfl, rfl, rfl, rfl, rfl, rfl, rfl, rfl, rfl, rfl, trivial⟩ y41.faces.length (fun m E w' => ∃ (rest174 : List Face) (i175 : Nat) (x172 : Bool), m = rest174.length ∧ E = [(7, (PV p47)), (12, (Value.int .i64 ((i137 : Nat) : Int))), (13, (PV p161)), (75, z44), (76, (Value.int .i64 ((y41.groups.length : Nat) : Int))), (77, (Value.int .i64 ((i137 : Nat) : Int))), (83, z43), (84, (Value.int .i64 ((y41.faces.length : Nat) : Int))), (14, (Value.bool x172)), (85, (Value.int .i64 ((i175 : Nat) : Int)))] ∧ Ch nb w w' ∧ At y41.faces i175 rest174 ∧ runA (F3_linkboylaw21_ResolveWhole_b3 x145) rest174 x172 = o181 ∧ slRep k_Addr (G F w.heap.size (un (inBlk (PV p161)) (un (inBlk (PV p47)) nb))) w' a0.cluster az0_0 ∧ slRep k_Addr (G F w.heap.size (un (inBlk (PV p161)) (un (inBlk (PV p47)) nb))) w' a0.external az0_1 ∧ slRep k_Addr (G F w.heap.size (un (inBlk (PV p161)) (un (inBlk (PV p47)) nb))) w' a0.balancers az0_2 ∧ slRep k_Cidr (G F w.heap.size (un (inBlk (PV p161)) (un (inBlk (PV p47)) nb))) w' a0.ranges az0_3 ∧ slRep k_Port (G F w.heap.size (un (inBlk (PV p161)) (un (inBlk (PV p47)) nb))) w' a0.ports az0_4 ∧ slRep k_Slice (G F w.heap.size (un (inBlk (PV p161)) (un (inBlk (PV p47)) nb))) w' a1 av1 ∧ slRep k_Addr (G F w.heap.size (un (inBlk (PV p161)) (un (inBlk (PV p47)) nb))) w' a2.addrs az2_0 ∧ Blk w' p1 28 (Service.c a0 az0_0 az0_1 az0_2 az0_3 az0_4) ∧ Blk w' p5 31 (Node.c a2 az2_0) ∧ slRep k_Face (G F w.heap.size (un (inBlk (PV p161)) (un (inBlk (PV p47)) nb))) w' y41.faces z43 ∧ slRep k_Group (G F w.heap.size (un (inBlk (PV p161)) (un (inBlk (PV p47)) nb))) w' y41.groups z44 ∧ Blk w' p47 39 (Resolved.c y41 z43 z44) ∧ slRep k_Point (G F w.heap.size (un (inBlk (PV p161)) (un (inBlk (PV p47)) nb))) w' x145.points z159 ∧ Blk w' p161 50 (Group.c x145 z159) ∧ (G F w.heap.size (un (inBlk (PV p161)) (un (inBlk (PV p47)) nb))) p1 ∧ (G F w.heap.size (un (inBlk (PV p161)) (un (inBlk (PV p47)) nb))) p5 ∧ (∀ b, inBlk (PV p161) b → ¬ inBlk (PV p47) b))
            ⟨y41.faces, 0, false, rfl, rfl, c148, At.start, ho182, ah0_0, ah0_1, ah0_2, ah0_3, ah0_4, ah1, ah2_0, k4, k8, h45, h46, k55, h160, k170, gp1, gp5, d166⟩ ?_
        rintro _ _ w187 ⟨rest174, i175, x172, rfl, rfl, c186, hat177, hL176, ah0_0, ah0_1, ah0_2, ah0_3, ah0_4, ah1, ah2_0, k4, k8, h45, h46, k55, h160, k170, gp1, gp5, d173⟩
        refine CW.seq (CW.region ?_)
        refine rl_bin rfl rfl B.lss rfl ?_
        refine RL.nil (thn_n ?_)
        refine CW.seq ?_
        refine CW.cond (t := decide (((i175 : Nat) : Int) < ((y41.faces.length : Nat) : Int))) rfl (fun q189 => ?_) (fun q189 => ?_)
        ·
         obtain ⟨x183, rest190, rfl⟩ := hat177.cons q189
         obtain ⟨q178, hq179⟩ : ∃ q, (F3_linkboylaw21_ResolveWhole_b3 x145) x183 x172 = q := ⟨_, rfl⟩
         have hb180 := hq179
         refine CW.skip (thn_n ?_)
         refine CW.seq ?_
         refine CW.block ?_
         refine CW.seq (CW.region ?_)
         refine rl_ixR rfl h45 rfl hat177.get Tryz.underlying36 Tryz.sizeOf47 rfl ?_
         intro p191 o192 cs193 hr194 hs195 hg196
         obtain rfl := hr194
         refine rl_loadA (cs := (Face.enc x183)) rfl Tryz.isAgg47 Tryz.sizeOf47 (hs195) rfl rfl ?_
         refine rl_alloc (Face.enc Face.z) Tryz.zeroValue47 rfl rfl ?_
         intro p197 w198 n199 k200
         have lo201 : ∀ b, inBlk (PV p197) b → w.heap.size ≤ b := fun b h => Nat.le_trans c186.size (n199.fresh b h)
         have d202 : ∀ b, inBlk (PV p197) b → ¬ inBlk (PV p161) b := disNew n199.fresh k170.ltp
         have d203 : ∀ b, inBlk (PV p197) b → ¬ inBlk (PV p47) b := disNew n199.fresh k55.ltp
         have ah0_0 := slRep.st k_Addr_pos ah0_0 n199.ch (admNew n199.fresh (fun _ x => x))
         have ah0_1 := slRep.st k_Addr_pos ah0_1 n199.ch (admNew n199.fresh (fun _ x => x))
         have ah0_2 := slRep.st k_Addr_pos ah0_2 n199.ch (admNew n199.fresh (fun _ x => x))
         have ah0_3 := slRep.st k_Cidr_pos ah0_3 n199.ch (admNew n199.fresh (fun _ x => x))
         have ah0_4 := slRep.st k_Port_pos ah0_4 n199.ch (admNew n199.fresh (fun _ x => x))
         have ah1 := slRep.st k_Slice_pos ah1 n199.ch (admNew n199.fresh (fun _ x => x))
         have ah2_0 := slRep.st k_Addr_pos ah2_0 n199.ch (admNew n199.fresh (fun _ x => x))
         have gp1n : (G F w.heap.size (un (inBlk (PV p197)) (un (inBlk (PV p161)) (un (inBlk (PV p47)) nb)))) p1 := ⟨gp1.1, ((admNew n199.fresh (fun _ x => x)) _ k4.lt gp1.2).2⟩
         have k4 := k4.ch0 n199.ch
         have gp1 := gp1n
         have gp5n : (G F w.heap.size (un (inBlk (PV p197)) (un (inBlk (PV p161)) (un (inBlk (PV p47)) nb)))) p5 := ⟨gp5.1, ((admNew n199.fresh (fun _ x => x)) _ k8.lt gp5.2).2⟩
         have k8 := k8.ch0 n199.ch
         have gp5 := gp5n
         have h45 := slRep.st k_Face_pos h45 n199.ch (admNew n199.fresh (fun _ x => x))
         have h46 := slRep.st k_Group_pos h46 n199.ch (admNew n199.fresh (fun _ x => x))
         have k55 := k55.ch0 n199.ch
         have h160 := slRep.st k_Point_pos h160 n199.ch (admNew n199.fresh (fun _ x => x))
         have k170 := k170.ch0 n199.ch
         have c186 := c186.then0 n199.ch
         refine rl_storeA (vs := (Face.enc x183)) rfl rfl (all_one rfl) Tryz.sizeOf47 rfl k200 rfl ?_
         intro w204 s206 c205 k207
         have ad208 : ∀ b, b < w198.heap.size → ¬ (un (inBlk (PV p197)) (un (inBlk (PV p161)) (un (inBlk (PV p47)) nb))) b → ¬ (inBlk (PV p197)) b ∧ ¬ (un (inBlk (PV p197)) (un (inBlk (PV p161)) (un (inBlk (PV p47)) nb))) b := fun b _ hs => ⟨fun h => hs (.inl h), hs⟩
         have ah0_0 := slRep.st k_Addr_pos ah0_0 c205 ad208
         have ah0_1 := slRep.st k_Addr_pos ah0_1 c205 ad208
         have ah0_2 := slRep.st k_Addr_pos ah0_2 c205 ad208
         have ah0_3 := slRep.st k_Cidr_pos ah0_3 c205 ad208
         have ah0_4 := slRep.st k_Port_pos ah0_4 c205 ad208
         have ah1 := slRep.st k_Slice_pos ah1 c205 ad208
         have ah2_0 := slRep.st k_Addr_pos ah2_0 c205 ad208
         have k4 := k4.ch c205 (ad208 _ k4.lt gp1.2).1
         have k8 := k8.ch c205 (ad208 _ k8.lt gp5.2).1
         have h45 := slRep.st k_Face_pos h45 c205 ad208
         have h46 := slRep.st k_Group_pos h46 c205 ad208
         have k55 := k55.ch c205 ((fun b hb h => (disSym d203) b hb h) _ rfl)
         have h160 := slRep.st k_Point_pos h160 c205 ad208
         have k170 := k170.ch c205 ((fun b hb h => (disSym d202) b hb h) _ rfl)
         have c186 := c186.then c205 (fun i hi h => absurd (lo201 i h) (Nat.not_le_of_lt hi))
         refine RL.nil ?_
         refine thn_n ?_
         refine CW.region ?_
         refine rl_move rfl rfl ?_
         refine rl_move rfl rfl ?_
         obtain ⟨b211, hb212⟩ : ∃ v, (x172 || (lt ((decide (x183.name = x145.name)) && (x183.localF == x145.localF)) fun b213 => lt (b213 && (x183.point.addr.six == x145.six)) fun b219 => b219)) = v := ⟨_, rfl⟩
         have hb180 := ltS hb212 hb180
         refine RL.join 22 112 (.bool b211) (fun w' => Ch nb w204 w') ?_ ?_
         · rcases Bool.eq_false_or_eq_true x172 with hg210 | hg210
           ·
            have hs209 := or_t hg210 hb212
            have cs : Ch nb w204 w204 := Ch.refl
            refine RL.no rfl rfl rfl hg210 rfl rfl ?_
            refine RL.no rfl rfl rfl hg210 rfl rfl ?_
            refine RL.no rfl rfl rfl hg210 rfl rfl ?_
            refine RL.no rfl rfl rfl hg210 rfl rfl ?_
            refine RL.no rfl rfl rfl hg210 rfl rfl ?_
            refine RL.no rfl rfl rfl hg210 rfl rfl ?_
            refine RL.noU rfl rfl rfl rfl rfl ?_
            refine RL.noU rfl rfl rfl rfl rfl ?_
            refine RL.noU rfl rfl rfl rfl rfl ?_
            refine RL.noU rfl rfl rfl rfl rfl ?_
            refine RL.noU rfl rfl rfl rfl rfl ?_
            refine RL.no rfl rfl rfl hg210 rfl rfl ?_
            refine RL.no rfl rfl rfl hg210 rfl rfl ?_
            refine RL.noU rfl rfl rfl rfl rfl ?_
            refine RL.noU rfl rfl rfl rfl rfl ?_
            refine RL.noU rfl rfl rfl rfl rfl ?_
            refine RL.noU rfl rfl rfl rfl rfl ?_
            refine RL.noU rfl rfl rfl rfl rfl ?_
            refine RL.noU rfl rfl rfl rfl rfl ?_
            refine RL.noU rfl rfl rfl rfl rfl ?_
            refine RL.no rfl rfl rfl hg210 rfl rfl ?_
            refine rl_pickT rfl hg210 rfl rfl ?_
            exact RL.nil ⟨Ext.bothEq (congrArg Value.bool hs209) (Ext.skip rfl (Ext.skip rfl (Ext.skip rfl (Ext.skip rfl (Ext.skip rfl (Ext.skip rfl (Ext.skip rfl (Ext.skip rfl (Ext.skip rfl (Ext.skip rfl (Ext.skip rfl (Ext.skip rfl (Ext.skip rfl (Ext.skip rfl (Ext.skip rfl (Ext.skip rfl (Ext.skip rfl (Ext.skip rfl (Ext.skip rfl (Ext.skip rfl (Ext.skip rfl (Ext.rfl')))))))))))))))))))))), cs⟩
           ·
            have hs209 := or_f hg210 hb212
            have cs : Ch nb w204 w204 := Ch.refl
            refine RL.yes rfl rfl rfl hg210 ?_
            refine rl_fieldAddr rfl fa47_2 rfl ?_
            refine RL.yes rfl rfl rfl hg210 ?_
            refine rl_loadS (v := (Value.string x183.name)) rfl Tryz.isAgg9 (k207.cell rfl) rfl ?_
            refine RL.yes rfl rfl rfl hg210 ?_
            refine rl_fieldAddr rfl fa50_0 rfl ?_
            refine RL.yes rfl rfl rfl hg210 ?_
            refine rl_loadS (v := (Value.string x145.name)) rfl Tryz.isAgg9 (k170.cell rfl) rfl ?_
            refine RL.yes rfl rfl rfl hg210 ?_
            refine rl_bin rfl rfl B.eqlS rfl ?_
            refine RL.yes rfl rfl rfl hg210 ?_
            refine rl_move rfl rfl ?_
            obtain ⟨b216, hb217⟩ : ∃ v, ((decide (x183.name = x145.name)) && (x183.localF == x145.localF)) = v := ⟨_, rfl⟩
            have hs209 := ltS hb217 hs209
            refine RL.join 6 102 (.bool b216) (fun w' => Ch nb w204 w') ?_ ?_
            · rcases Bool.eq_false_or_eq_true (decide (x183.name = x145.name)) with hg215 | hg215
              ·
               have hs214 := and_t hg215 hb217
               have cs : Ch nb w204 w204 := Ch.refl
               refine RL.yes rfl rfl rfl hg215 ?_
               refine rl_fieldAddr rfl fa47_4 rfl ?_
               refine RL.yes rfl rfl rfl hg215 ?_
               refine rl_loadS (v := (Value.bool x183.localF)) rfl Tryz.isAgg4 (k207.cell rfl) rfl ?_
               refine RL.yes rfl rfl rfl hg215 ?_
               refine rl_fieldAddr rfl fa50_3 rfl ?_
               refine RL.yes rfl rfl rfl hg215 ?_
               refine rl_loadS (v := (Value.bool x145.localF)) rfl Tryz.isAgg4 (k170.cell rfl) rfl ?_
               refine RL.yes rfl rfl rfl hg215 ?_
               refine rl_bin rfl rfl (B.eqlB Tryz.underlying4) rfl ?_
               refine RL.yes rfl rfl rfl hg210 ?_
               refine rl_pickT rfl hg215 rfl rfl ?_
               exact RL.nil ⟨Ext.bothEq (congrArg Value.bool hs214) (Ext.skip rfl (Ext.skip rfl (Ext.skip rfl (Ext.skip rfl (Ext.skip rfl (Ext.rfl')))))), cs⟩
              ·
               have hs214 := and_f hg215 hb217
               have cs : Ch nb w204 w204 := Ch.refl
               refine RL.no rfl rfl rfl hg215 rfl rfl ?_
               refine RL.no rfl rfl rfl hg215 rfl rfl ?_
               refine RL.no rfl rfl rfl hg215 rfl rfl ?_
               refine RL.no rfl rfl rfl hg215 rfl rfl ?_
               refine RL.no rfl rfl rfl hg215 rfl rfl ?_
               refine RL.yes rfl rfl rfl hg210 ?_
               refine rl_pickF rfl hg215 rfl rfl ?_
               exact RL.nil ⟨Ext.bothEq (congrArg Value.bool hs214) (Ext.skip rfl (Ext.skip rfl (Ext.skip rfl (Ext.skip rfl (Ext.skip rfl (Ext.rfl')))))), cs⟩
            intro w218 c219
            have k170 := k170.ch0 c219
            have k207 := k207.ch0 c219
            refine RL.yes rfl rfl rfl hg210 ?_
            refine rl_move rfl rfl ?_
            obtain ⟨b222, hb223⟩ : ∃ v, (b216 && (x183.point.addr.six == x145.six)) = v := ⟨_, rfl⟩
            have hs209 := ltS hb223 hs209
            refine RL.join 8 111 (.bool b222) (fun w' => Ch nb w218 w') ?_ ?_
            · rcases Bool.eq_false_or_eq_true b216 with hg221 | hg221
              ·
               have hs220 := and_t hg221 hb223
               have cs : Ch nb w218 w218 := Ch.refl
               refine RL.yes rfl rfl rfl hg221 ?_
               refine rl_fieldAddr rfl fa47_1 rfl ?_
               refine RL.yes rfl rfl rfl hg221 ?_
               refine rl_fieldAddr rfl fa45_0 rfl ?_
               refine RL.yes rfl rfl rfl hg221 ?_
               refine rl_fieldAddr rfl fa43_0 rfl ?_
               refine RL.yes rfl rfl rfl hg221 ?_
               refine rl_loadS (v := (Value.bool x183.point.addr.six)) rfl Tryz.isAgg4 (k207.cell rfl) rfl ?_
               refine RL.yes rfl rfl rfl hg221 ?_
               refine rl_fieldAddr rfl fa50_2 rfl ?_
               refine RL.yes rfl rfl rfl hg221 ?_
               refine rl_loadS (v := (Value.bool x145.six)) rfl Tryz.isAgg4 (k170.cell rfl) rfl ?_
               refine RL.yes rfl rfl rfl hg221 ?_
               refine rl_bin rfl rfl (B.eqlB Tryz.underlying4) rfl ?_
               refine RL.yes rfl rfl rfl hg210 ?_
               refine rl_pickT rfl hg221 rfl rfl ?_
               exact RL.nil ⟨Ext.bothEq (congrArg Value.bool hs220) (Ext.skip rfl (Ext.skip rfl (Ext.skip rfl (Ext.skip rfl (Ext.skip rfl (Ext.skip rfl (Ext.skip rfl (Ext.rfl')))))))), cs⟩
              ·
               have hs220 := and_f hg221 hb223
               have cs : Ch nb w218 w218 := Ch.refl
               refine RL.no rfl rfl rfl hg221 rfl rfl ?_
               refine RL.no rfl rfl rfl hg221 rfl rfl ?_
               refine RL.no rfl rfl rfl hg221 rfl rfl ?_
               refine RL.no rfl rfl rfl hg221 rfl rfl ?_
               refine RL.no rfl rfl rfl hg221 rfl rfl ?_
               refine RL.no rfl rfl rfl hg221 rfl rfl ?_
               refine RL.no rfl rfl rfl hg221 rfl rfl ?_
               refine RL.yes rfl rfl rfl hg210 ?_
               refine rl_pickF rfl hg221 rfl rfl ?_
               exact RL.nil ⟨Ext.bothEq (congrArg Value.bool hs220) (Ext.skip rfl (Ext.skip rfl (Ext.skip rfl (Ext.skip rfl (Ext.skip rfl (Ext.skip rfl (Ext.skip rfl (Ext.rfl')))))))), cs⟩
            intro w224 c225
            refine rl_pickF rfl hg210 rfl rfl ?_
            have cs := cs.then0 c219
            have cs := cs.then0 c225
            exact RL.nil ⟨Ext.bothEq (congrArg Value.bool hs209) (Ext.skip rfl (Ext.skip rfl (Ext.skip rfl (Ext.skip rfl (Ext.skip rfl (Ext.skip rfl (Ext.skip rfl (Ext.skip rfl (Ext.skip rfl (Ext.rfl')))))))))), cs⟩
         intro w213 c226
         have ah0_0 := slRep.ch k_Addr_pos ah0_0 c226
         have ah0_1 := slRep.ch k_Addr_pos ah0_1 c226
         have ah0_2 := slRep.ch k_Addr_pos ah0_2 c226
         have ah0_3 := slRep.ch k_Cidr_pos ah0_3 c226
         have ah0_4 := slRep.ch k_Port_pos ah0_4 c226
         have ah1 := slRep.ch k_Slice_pos ah1 c226
         have ah2_0 := slRep.ch k_Addr_pos ah2_0 c226
         have k4 := k4.ch0 c226
         have k8 := k8.ch0 c226
         have h45 := slRep.ch k_Face_pos h45 c226
         have h46 := slRep.ch k_Group_pos h46 c226
         have k55 := k55.ch0 c226
         have h160 := slRep.ch k_Point_pos h160 c226
         have k170 := k170.ch0 c226
         have c186 := c186.then0 c226
         refine rl_assign rfl rfl ?_
         refine RL.nil ?_
         refine inB_n ?_
         refine thn_n ?_
         refine CW.region ?_
         refine rl_inc rfl hat177.lt h45.big rfl ?_
         refine rl_move rfl rfl ?_
         refine RL.nil ?_
         refine thn_n ?_
         have ad227 : ∀ b, b < w213.heap.size → ¬ (un (inBlk (PV p197)) (un (inBlk (PV p161)) (un (inBlk (PV p47)) nb))) b → ¬ nb b ∧ ¬ (un (inBlk (PV p161)) (un (inBlk (PV p47)) nb)) b := fun b _ hs => ⟨fun x => x, fun h => hs (un_el h (fun h => (.inr (.inl h))) (fun h => un_el h (fun h => (.inr (.inr (.inl h)))) (fun h => False.elim h)))⟩
         have crf : Ch nb w213 w213 := Ch.refl
         have ah0_0 := slRep.st k_Addr_pos ah0_0 crf ad227
         have ah0_1 := slRep.st k_Addr_pos ah0_1 crf ad227
         have ah0_2 := slRep.st k_Addr_pos ah0_2 crf ad227
         have ah0_3 := slRep.st k_Cidr_pos ah0_3 crf ad227
         have ah0_4 := slRep.st k_Port_pos ah0_4 crf ad227
         have ah1 := slRep.st k_Slice_pos ah1 crf ad227
         have ah2_0 := slRep.st k_Addr_pos ah2_0 crf ad227
         have gp1n : (G F w.heap.size (un (inBlk (PV p161)) (un (inBlk (PV p47)) nb))) p1 := ⟨gp1.1, (ad227 _ k4.lt gp1.2).2⟩
         have k4 := k4.ch0 crf
         have gp1 := gp1n
         have gp5n : (G F w.heap.size (un (inBlk (PV p161)) (un (inBlk (PV p47)) nb))) p5 := ⟨gp5.1, (ad227 _ k8.lt gp5.2).2⟩
         have k8 := k8.ch0 crf
         have gp5 := gp5n
         have h45 := slRep.st k_Face_pos h45 crf ad227
         have h46 := slRep.st k_Group_pos h46 crf ad227
         have k55 := k55.ch0 crf
         have h160 := slRep.st k_Point_pos h160 crf ad227
         have k170 := k170.ch0 crf
         have c186 := c186.then0 crf
         have hLn := runA_next hL176 (hb180.trans hq179.symm)
         exact ⟨rest190.length, Nat.lt_succ_self _, [(7, (PV p47)), (12, (Value.int .i64 ((i137 : Nat) : Int))), (13, (PV p161)), (75, z44), (76, (Value.int .i64 ((y41.groups.length : Nat) : Int))), (77, (Value.int .i64 ((i137 : Nat) : Int))), (83, z43), (84, (Value.int .i64 ((y41.faces.length : Nat) : Int))), (14, (Value.bool b211)), (85, (Value.int .i64 ((i175 + 1 : Nat) : Int)))], ⟨rfl, rfl, rfl, rfl, rfl, rfl, rfl, rfl, rfl, rfl, trivial⟩, ⟨rest190, i175 + 1, b211, rfl, rfl, c186, hat177.next, hLn, ah0_0, ah0_1, ah0_2, ah0_3, ah0_4, ah1, ah2_0, k4, k8, h45, h46, k55, h160, k170, gp1, gp5, d173⟩⟩
        ·
         obtain rfl := hat177.nil q189
         have hLf : x172 = o181 := hL176
         refine CW.exit (thn_exit (thn_exit (inB_hit ?_)))
         exact ⟨x172, ⟨rfl, rfl, rfl, rfl, rfl, rfl, rfl, trivial⟩, c186, hLf, ah0_0, ah0_1, ah0_2, ah0_3, ah0_4, ah1, ah2_0, k4, k8, h45, h46, k55, h160, k170, gp1, gp5, d173⟩
       ·
        rintro _ w229 ⟨x172, hE230, c228, f231, ah0_0, ah0_1, ah0_2, ah0_3, ah0_4, ah1, ah2_0, k4, k8, h45, h46, k55, h160, k170, gp1, gp5, d173⟩
        subst f231
        refine thn_n (CW.sub [(7, (PV p47)), (12, (Value.int .i64 ((i137 : Nat) : Int))), (13, (PV p161)), (75, z44), (76, (Value.int .i64 ((y41.groups.length : Nat) : Int))), (77, (Value.int .i64 ((i137 : Nat) : Int))), (14, (Value.bool x172))] hE230 ?_)
        refine CW.seq ?_
        refine CW.seq (CW.region ?_)
        refine rl_fieldAddr rfl fa39_2 rfl ?_
        refine rl_loadS (v := z44) rfl Tryz.isAgg37 (k55.cell rfl) rfl ?_
        refine rl_move rfl rfl ?_
        obtain ⟨y233, hy234, hb142⟩ := bindS hb142
        refine rl_cutR (kl := .i64) (kh := .i64) none (some ((i137 : Nat) : Int)) rfl h46 k_Group_pos trivial rfl hy234 Tryz.underlying37 Tryz.sizeOf50 rfl ?_
        intro v235 h236
        refine rl_lenR rfl h236 Tryz.underlying37 rfl ?_
        refine rl_move rfl rfl ?_
        refine RL.nil ?_
        refine thn_n ?_
        obtain ⟨o245, ho246⟩ : ∃ o, runB (F3_linkboylaw21_ResolveWhole_b4 x145) y233 () = o := ⟨_, rfl⟩
        have hb142 := ltS ho246 hb142
        refine CW.cutB (fun E' w' => ∃ (_ : Unit), Sub [(7, (PV p47)), (14, (Value.bool x172)), (75, z44), (76, (Value.int .i64 ((y41.groups.length : Nat) : Int))), (77, (Value.int .i64 ((i137 : Nat) : Int)))] E' ∧ Ch nb w w' ∧ Lp.fin () = o245 ∧ slRep k_Addr (G F w.heap.size (un (inBlk (PV p161)) (un (inBlk (PV p47)) nb))) w' a0.cluster az0_0 ∧ slRep k_Addr (G F w.heap.size (un (inBlk (PV p161)) (un (inBlk (PV p47)) nb))) w' a0.external az0_1 ∧ slRep k_Addr (G F w.heap.size (un (inBlk (PV p161)) (un (inBlk (PV p47)) nb))) w' a0.balancers az0_2 ∧ slRep k_Cidr (G F w.heap.size (un (inBlk (PV p161)) (un (inBlk (PV p47)) nb))) w' a0.ranges az0_3 ∧ slRep k_Port (G F w.heap.size (un (inBlk (PV p161)) (un (inBlk (PV p47)) nb))) w' a0.ports az0_4 ∧ slRep k_Slice (G F w.heap.size (un (inBlk (PV p161)) (un (inBlk (PV p47)) nb))) w' a1 av1 ∧ slRep k_Addr (G F w.heap.size (un (inBlk (PV p161)) (un (inBlk (PV p47)) nb))) w' a2.addrs az2_0 ∧ Blk w' p1 28 (Service.c a0 az0_0 az0_1 az0_2 az0_3 az0_4) ∧ Blk w' p5 31 (Node.c a2 az2_0) ∧ slRep k_Face (G F w.heap.size (un (inBlk (PV p161)) (un (inBlk (PV p47)) nb))) w' y41.faces z43 ∧ slRep k_Group (G F w.heap.size (un (inBlk (PV p161)) (un (inBlk (PV p47)) nb))) w' y41.groups z44 ∧ Blk w' p47 39 (Resolved.c y41 z43 z44) ∧ slRep k_Point (G F w.heap.size (un (inBlk (PV p161)) (un (inBlk (PV p47)) nb))) w' x145.points z159 ∧ Blk w' p161 50 (Group.c x145 z159) ∧ slRep k_Group (G F w.heap.size (un (inBlk (PV p161)) (un (inBlk (PV p47)) nb))) w' y233 v235 ∧ (G F w.heap.size (un (inBlk (PV p161)) (un (inBlk (PV p47)) nb))) p1 ∧ (G F w.heap.size (un (inBlk (PV p161)) (un (inBlk (PV p47)) nb))) p5 ∧ (∀ b, inBlk (PV p161) b → ¬ inBlk (PV p47) b)) ?_ ?_
        ·
         refine CW.loopS [(7, (PV p47)), (13, (PV p161)), (14, (Value.bool x172)), (75, z44), (76, (Value.int .i64 ((y41.groups.length : Nat) : Int))), (77, (Value.int .i64 ((i137 : Nat) : Int))), (117, v235), (118, (Value.int .i64 ((y233.length : Nat) : Int))), (119, (Value.int .i64 ((0 : Nat) : Int)))] ⟨rfl, rfl, rfl, rfl, rfl, rfl, rfl, rfl, rfl, trivial⟩ y233.length (fun m E w' => ∃ (rest238 : List Group) (i239 : Nat) , m = rest238.length ∧ E = [(7, (PV p47)), (13, (PV p161)), (14, (Value.bool x172)), (75, z44), (76, (Value.int .i64 ((y41.groups.length : Nat) : Int))), (77, (Value.int .i64 ((i137 : Nat) : Int))), (117, v235), (118, (Value.int .i64 ((y233.length : Nat) : Int))), (119, (Value.int .i64 ((i239 : Nat) : Int)))] ∧ Ch nb w w' ∧ At y233 i239 rest238 ∧ runB (F3_linkboylaw21_ResolveWhole_b4 x145) rest238 () = o245 ∧ slRep k_Addr (G F w.heap.size (un (inBlk (PV p161)) (un (inBlk (PV p47)) nb))) w' a0.cluster az0_0 ∧ slRep k_Addr (G F w.heap.size (un (inBlk (PV p161)) (un (inBlk (PV p47)) nb))) w' a0.external az0_1 ∧ slRep k_Addr (G F w.heap.size (un (inBlk (PV p161)) (un (inBlk (PV p47)) nb))) w' a0.balancers az0_2 ∧ slRep k_Cidr (G F w.heap.size (un (inBlk (PV p161)) (un (inBlk (PV p47)) nb))) w' a0.ranges az0_3 ∧ slRep k_Port (G F w.heap.size (un (inBlk (PV p161)) (un (inBlk (PV p47)) nb))) w' a0.ports az0_4 ∧ slRep k_Slice (G F w.heap.size (un (inBlk (PV p161)) (un (inBlk (PV p47)) nb))) w' a1 av1 ∧ slRep k_Addr (G F w.heap.size (un (inBlk (PV p161)) (un (inBlk (PV p47)) nb))) w' a2.addrs az2_0 ∧ Blk w' p1 28 (Service.c a0 az0_0 az0_1 az0_2 az0_3 az0_4) ∧ Blk w' p5 31 (Node.c a2 az2_0) ∧ slRep k_Face (G F w.heap.size (un (inBlk (PV p161)) (un (inBlk (PV p47)) nb))) w' y41.faces z43 ∧ slRep k_Group (G F w.heap.size (un (inBlk (PV p161)) (un (inBlk (PV p47)) nb))) w' y41.groups z44 ∧ Blk w' p47 39 (Resolved.c y41 z43 z44) ∧ slRep k_Point (G F w.heap.size (un (inBlk (PV p161)) (un (inBlk (PV p47)) nb))) w' x145.points z159 ∧ Blk w' p161 50 (Group.c x145 z159) ∧ slRep k_Group (G F w.heap.size (un (inBlk (PV p161)) (un (inBlk (PV p47)) nb))) w' y233 v235 ∧ (G F w.heap.size (un (inBlk (PV p161)) (un (inBlk (PV p47)) nb))) p1 ∧ (G F w.heap.size (un (inBlk (PV p161)) (un (inBlk (PV p47)) nb))) p5 ∧ (∀ b, inBlk (PV p161) b → ¬ inBlk (PV p47) b))
             ⟨y233, 0, rfl, rfl, c228, At.start, ho246, ah0_0, ah0_1, ah0_2, ah0_3, ah0_4, ah1, ah2_0, k4, k8, h45, h46, k55, h160, k170, h236, gp1, gp5, d173⟩ ?_
         rintro _ _ w251 ⟨rest238, i239, rfl, rfl, c250, hat241, hL240, ah0_0, ah0_1, ah0_2, ah0_3, ah0_4, ah1, ah2_0, k4, k8, h45, h46, k55, h160, k170, h236, gp1, gp5, d237⟩
         refine CW.seq (CW.region ?_)
         refine rl_bin rfl rfl B.lss rfl ?_
         refine RL.nil (thn_n ?_)
         refine CW.seq ?_
         refine CW.cond (t := decide (((i239 : Nat) : Int) < ((y233.length : Nat) : Int))) rfl (fun q253 => ?_) (fun q253 => ?_)
         ·
          obtain ⟨x247, rest254, rfl⟩ := hat241.cons q253
          obtain ⟨q242, hq243⟩ : ∃ q, (F3_linkboylaw21_ResolveWhole_b4 x145) x247 () = q := ⟨_, rfl⟩
          have hb244 := hq243
          refine CW.skip (thn_n ?_)
          refine CW.seq ?_
          refine CW.block ?_
          refine CW.seq (CW.region ?_)
          refine rl_ixR rfl h236 rfl hat241.get Tryz.underlying37 Tryz.sizeOf50 rfl ?_
          intro p255 o256 cs257 hr258 hs259 hg260
          obtain ⟨z261, rfl, h262⟩ := hr258
          refine rl_loadA (cs := (Group.c x247 z261)) rfl Tryz.isAgg50 Tryz.sizeOf50 (hs259) rfl rfl ?_
          refine rl_alloc (Group.c Group.z (Value.slice none 0 0)) Tryz.zeroValue50 rfl rfl ?_
          intro p263 w264 n265 k266
          have lo267 : ∀ b, inBlk (PV p263) b → w.heap.size ≤ b := fun b h => Nat.le_trans c250.size (n265.fresh b h)
          have d268 : ∀ b, inBlk (PV p263) b → ¬ inBlk (PV p161) b := disNew n265.fresh k170.ltp
          have d269 : ∀ b, inBlk (PV p263) b → ¬ inBlk (PV p47) b := disNew n265.fresh k55.ltp
          have ah0_0 := slRep.st k_Addr_pos ah0_0 n265.ch (admNew n265.fresh (fun _ x => x))
          have ah0_1 := slRep.st k_Addr_pos ah0_1 n265.ch (admNew n265.fresh (fun _ x => x))
          have ah0_2 := slRep.st k_Addr_pos ah0_2 n265.ch (admNew n265.fresh (fun _ x => x))
          have ah0_3 := slRep.st k_Cidr_pos ah0_3 n265.ch (admNew n265.fresh (fun _ x => x))
          have ah0_4 := slRep.st k_Port_pos ah0_4 n265.ch (admNew n265.fresh (fun _ x => x))
          have ah1 := slRep.st k_Slice_pos ah1 n265.ch (admNew n265.fresh (fun _ x => x))
          have ah2_0 := slRep.st k_Addr_pos ah2_0 n265.ch (admNew n265.fresh (fun _ x => x))
          have gp1n : (G F w.heap.size (un (inBlk (PV p263)) (un (inBlk (PV p161)) (un (inBlk (PV p47)) nb)))) p1 := ⟨gp1.1, ((admNew n265.fresh (fun _ x => x)) _ k4.lt gp1.2).2⟩
          have k4 := k4.ch0 n265.ch
          have gp1 := gp1n
          have gp5n : (G F w.heap.size (un (inBlk (PV p263)) (un (inBlk (PV p161)) (un (inBlk (PV p47)) nb)))) p5 := ⟨gp5.1, ((admNew n265.fresh (fun _ x => x)) _ k8.lt gp5.2).2⟩
          have k8 := k8.ch0 n265.ch
          have gp5 := gp5n
          have h45 := slRep.st k_Face_pos h45 n265.ch (admNew n265.fresh (fun _ x => x))
          have h46 := slRep.st k_Group_pos h46 n265.ch (admNew n265.fresh (fun _ x => x))
          have k55 := k55.ch0 n265.ch
          have h160 := slRep.st k_Point_pos h160 n265.ch (admNew n265.fresh (fun _ x => x))
          have k170 := k170.ch0 n265.ch
          have h236 := slRep.st k_Group_pos h236 n265.ch (admNew n265.fresh (fun _ x => x))
          have h262 := slRep.st k_Point_pos h262 n265.ch (admNew n265.fresh (fun _ x => x))
          have c250 := c250.then0 n265.ch
          refine rl_storeA (vs := (Group.c x247 z261)) rfl rfl (Kd.one _ (show k_Group.rep (G F w.heap.size (un (inBlk (PV p263)) (un (inBlk (PV p161)) (un (inBlk (PV p47)) nb)))) w264 x247 (Group.c x247 z261) from ⟨z261, rfl, h262⟩)) Tryz.sizeOf50 rfl k266 rfl ?_
          intro w270 s272 c271 k273
          have ad274 : ∀ b, b < w264.heap.size → ¬ (un (inBlk (PV p263)) (un (inBlk (PV p161)) (un (inBlk (PV p47)) nb))) b → ¬ (inBlk (PV p263)) b ∧ ¬ (un (inBlk (PV p263)) (un (inBlk (PV p161)) (un (inBlk (PV p47)) nb))) b := fun b _ hs => ⟨fun h => hs (.inl h), hs⟩
          have ah0_0 := slRep.st k_Addr_pos ah0_0 c271 ad274
          have ah0_1 := slRep.st k_Addr_pos ah0_1 c271 ad274
          have ah0_2 := slRep.st k_Addr_pos ah0_2 c271 ad274
          have ah0_3 := slRep.st k_Cidr_pos ah0_3 c271 ad274
          have ah0_4 := slRep.st k_Port_pos ah0_4 c271 ad274
          have ah1 := slRep.st k_Slice_pos ah1 c271 ad274
          have ah2_0 := slRep.st k_Addr_pos ah2_0 c271 ad274
          have k4 := k4.ch c271 (ad274 _ k4.lt gp1.2).1
          have k8 := k8.ch c271 (ad274 _ k8.lt gp5.2).1
          have h45 := slRep.st k_Face_pos h45 c271 ad274
          have h46 := slRep.st k_Group_pos h46 c271 ad274
          have k55 := k55.ch c271 ((fun b hb h => (disSym d269) b hb h) _ rfl)
          have h160 := slRep.st k_Point_pos h160 c271 ad274
          have k170 := k170.ch c271 ((fun b hb h => (disSym d268) b hb h) _ rfl)
          have h236 := slRep.st k_Group_pos h236 c271 ad274
          have c250 := c250.then c271 (fun i hi h => absurd (lo267 i h) (Nat.not_le_of_lt hi))
          refine RL.nil ?_
          refine thn_n ?_
          refine CW.seq (CW.region ?_)
          refine rl_fieldAddr rfl fa50_0 rfl ?_
          refine rl_loadS (v := (Value.string x247.name)) rfl Tryz.isAgg9 (k273.cell rfl) rfl ?_
          refine rl_fieldAddr rfl fa50_0 rfl ?_
          refine rl_loadS (v := (Value.string x145.name)) rfl Tryz.isAgg9 (k170.cell rfl) rfl ?_
          refine rl_bin rfl rfl B.eqlS rfl ?_
          refine rl_move rfl rfl ?_
          obtain ⟨b277, hb278⟩ : ∃ v, ((decide (x247.name = x145.name)) && (x247.localF == x145.localF)) = v := ⟨_, rfl⟩
          have hb244 := ltS hb278 hb244
          refine RL.join 6 134 (.bool b277) (fun w' => Ch nb w270 w') ?_ ?_
          · rcases Bool.eq_false_or_eq_true (decide (x247.name = x145.name)) with hg276 | hg276
            ·
             have hs275 := and_t hg276 hb278
             have cs : Ch nb w270 w270 := Ch.refl
             refine RL.yes rfl rfl rfl hg276 ?_
             refine rl_fieldAddr rfl fa50_3 rfl ?_
             refine RL.yes rfl rfl rfl hg276 ?_
             refine rl_loadS (v := (Value.bool x247.localF)) rfl Tryz.isAgg4 (k273.cell rfl) rfl ?_
             refine RL.yes rfl rfl rfl hg276 ?_
             refine rl_fieldAddr rfl fa50_3 rfl ?_
             refine RL.yes rfl rfl rfl hg276 ?_
             refine rl_loadS (v := (Value.bool x145.localF)) rfl Tryz.isAgg4 (k170.cell rfl) rfl ?_
             refine RL.yes rfl rfl rfl hg276 ?_
             refine rl_bin rfl rfl (B.eqlB Tryz.underlying4) rfl ?_
             refine rl_pickT rfl hg276 rfl rfl ?_
             exact RL.nil ⟨Ext.bothEq (congrArg Value.bool hs275) (Ext.skip rfl (Ext.skip rfl (Ext.skip rfl (Ext.skip rfl (Ext.skip rfl (Ext.rfl')))))), cs⟩
            ·
             have hs275 := and_f hg276 hb278
             have cs : Ch nb w270 w270 := Ch.refl
             refine RL.no rfl rfl rfl hg276 rfl rfl ?_
             refine RL.no rfl rfl rfl hg276 rfl rfl ?_
             refine RL.no rfl rfl rfl hg276 rfl rfl ?_
             refine RL.no rfl rfl rfl hg276 rfl rfl ?_
             refine RL.no rfl rfl rfl hg276 rfl rfl ?_
             refine rl_pickF rfl hg276 rfl rfl ?_
             exact RL.nil ⟨Ext.bothEq (congrArg Value.bool hs275) (Ext.skip rfl (Ext.skip rfl (Ext.skip rfl (Ext.skip rfl (Ext.skip rfl (Ext.rfl')))))), cs⟩
          intro w279 c280
          have ah0_0 := slRep.ch k_Addr_pos ah0_0 c280
          have ah0_1 := slRep.ch k_Addr_pos ah0_1 c280
          have ah0_2 := slRep.ch k_Addr_pos ah0_2 c280
          have ah0_3 := slRep.ch k_Cidr_pos ah0_3 c280
          have ah0_4 := slRep.ch k_Port_pos ah0_4 c280
          have ah1 := slRep.ch k_Slice_pos ah1 c280
          have ah2_0 := slRep.ch k_Addr_pos ah2_0 c280
          have k4 := k4.ch0 c280
          have k8 := k8.ch0 c280
          have h45 := slRep.ch k_Face_pos h45 c280
          have h46 := slRep.ch k_Group_pos h46 c280
          have k55 := k55.ch0 c280
          have h160 := slRep.ch k_Point_pos h160 c280
          have k170 := k170.ch0 c280
          have h236 := slRep.ch k_Group_pos h236 c280
          have k273 := k273.ch0 c280
          have c250 := c250.then0 c280
          refine rl_move rfl rfl ?_
          obtain ⟨b283, hb284⟩ : ∃ v, (b277 && (x247.six == x145.six)) = v := ⟨_, rfl⟩
          have hb244 := ltS hb284 hb244
          refine RL.join 6 141 (.bool b283) (fun w' => Ch nb w279 w') ?_ ?_
          · rcases Bool.eq_false_or_eq_true b277 with hg282 | hg282
            ·
             have hs281 := and_t hg282 hb284
             have cs : Ch nb w279 w279 := Ch.refl
             refine RL.yes rfl rfl rfl hg282 ?_
             refine rl_fieldAddr rfl fa50_2 rfl ?_
             refine RL.yes rfl rfl rfl hg282 ?_
             refine rl_loadS (v := (Value.bool x247.six)) rfl Tryz.isAgg4 (k273.cell rfl) rfl ?_
             refine RL.yes rfl rfl rfl hg282 ?_
             refine rl_fieldAddr rfl fa50_2 rfl ?_
             refine RL.yes rfl rfl rfl hg282 ?_
             refine rl_loadS (v := (Value.bool x145.six)) rfl Tryz.isAgg4 (k170.cell rfl) rfl ?_
             refine RL.yes rfl rfl rfl hg282 ?_
             refine rl_bin rfl rfl (B.eqlB Tryz.underlying4) rfl ?_
             refine rl_pickT rfl hg282 rfl rfl ?_
             exact RL.nil ⟨Ext.bothEq (congrArg Value.bool hs281) (Ext.skip rfl (Ext.skip rfl (Ext.skip rfl (Ext.skip rfl (Ext.skip rfl (Ext.rfl')))))), cs⟩
            ·
             have hs281 := and_f hg282 hb284
             have cs : Ch nb w279 w279 := Ch.refl
             refine RL.no rfl rfl rfl hg282 rfl rfl ?_
             refine RL.no rfl rfl rfl hg282 rfl rfl ?_
             refine RL.no rfl rfl rfl hg282 rfl rfl ?_
             refine RL.no rfl rfl rfl hg282 rfl rfl ?_
             refine RL.no rfl rfl rfl hg282 rfl rfl ?_
             refine rl_pickF rfl hg282 rfl rfl ?_
             exact RL.nil ⟨Ext.bothEq (congrArg Value.bool hs281) (Ext.skip rfl (Ext.skip rfl (Ext.skip rfl (Ext.skip rfl (Ext.skip rfl (Ext.rfl')))))), cs⟩
          intro w285 c286
          have ah0_0 := slRep.ch k_Addr_pos ah0_0 c286
          have ah0_1 := slRep.ch k_Addr_pos ah0_1 c286
          have ah0_2 := slRep.ch k_Addr_pos ah0_2 c286
          have ah0_3 := slRep.ch k_Cidr_pos ah0_3 c286
          have ah0_4 := slRep.ch k_Port_pos ah0_4 c286
          have ah1 := slRep.ch k_Slice_pos ah1 c286
          have ah2_0 := slRep.ch k_Addr_pos ah2_0 c286
          have k4 := k4.ch0 c286
          have k8 := k8.ch0 c286
          have h45 := slRep.ch k_Face_pos h45 c286
          have h46 := slRep.ch k_Group_pos h46 c286
          have k55 := k55.ch0 c286
          have h160 := slRep.ch k_Point_pos h160 c286
          have k170 := k170.ch0 c286
          have h236 := slRep.ch k_Group_pos h236 c286
          have c250 := c250.then0 c286
          refine RL.nil ?_
          refine thn_n ?_
          refine CW.cond (t := b283) rfl (fun q287 => ?_) (fun q287 => ?_)
          ·
           have hb244 := ifT q287 hb244
           refine CW.seq (CW.region ?_)
           refine rl_assign rfl rfl ?_
           refine RL.nil ?_
           refine thn_n ?_
           refine CW.ret ?_
           refine inB_ret ?_
           refine thn_ret ?_
           refine thn_ret (inB_ret (thn_ret ?_))
           refine thn_ret ?_
           refine inB_ret ?_
           refine thn_ret ?_
           refine thn_ret (inB_ret (thn_ret ?_))
           refine thn_ret ?_
           have f288 := runB_ret hL240 (hb244.trans hq243.symm)
           have hb142 := retS f288 hb142
           have f289 := runBO_ret hL138 hq141 hb142
           have hS := retS f289 hS
           obtain rfl := Option.some.inj hS
           exact ret1 rfl ⟨rfl, c250⟩
          ·
           have hb244 := ifF q287 hb244
           refine CW.skip ?_
           refine inB_n ?_
           refine thn_n ?_
           refine CW.region ?_
           refine rl_inc rfl hat241.lt h236.big rfl ?_
           refine rl_move rfl rfl ?_
           refine RL.nil ?_
           refine thn_n ?_
           have ad290 : ∀ b, b < w285.heap.size → ¬ (un (inBlk (PV p263)) (un (inBlk (PV p161)) (un (inBlk (PV p47)) nb))) b → ¬ nb b ∧ ¬ (un (inBlk (PV p161)) (un (inBlk (PV p47)) nb)) b := fun b _ hs => ⟨fun x => x, fun h => hs (un_el h (fun h => (.inr (.inl h))) (fun h => un_el h (fun h => (.inr (.inr (.inl h)))) (fun h => False.elim h)))⟩
           have crf : Ch nb w285 w285 := Ch.refl
           have ah0_0 := slRep.st k_Addr_pos ah0_0 crf ad290
           have ah0_1 := slRep.st k_Addr_pos ah0_1 crf ad290
           have ah0_2 := slRep.st k_Addr_pos ah0_2 crf ad290
           have ah0_3 := slRep.st k_Cidr_pos ah0_3 crf ad290
           have ah0_4 := slRep.st k_Port_pos ah0_4 crf ad290
           have ah1 := slRep.st k_Slice_pos ah1 crf ad290
           have ah2_0 := slRep.st k_Addr_pos ah2_0 crf ad290
           have gp1n : (G F w.heap.size (un (inBlk (PV p161)) (un (inBlk (PV p47)) nb))) p1 := ⟨gp1.1, (ad290 _ k4.lt gp1.2).2⟩
           have k4 := k4.ch0 crf
           have gp1 := gp1n
           have gp5n : (G F w.heap.size (un (inBlk (PV p161)) (un (inBlk (PV p47)) nb))) p5 := ⟨gp5.1, (ad290 _ k8.lt gp5.2).2⟩
           have k8 := k8.ch0 crf
           have gp5 := gp5n
           have h45 := slRep.st k_Face_pos h45 crf ad290
           have h46 := slRep.st k_Group_pos h46 crf ad290
           have k55 := k55.ch0 crf
           have h160 := slRep.st k_Point_pos h160 crf ad290
           have k170 := k170.ch0 crf
           have h236 := slRep.st k_Group_pos h236 crf ad290
           have c250 := c250.then0 crf
           have hLn := runB_next hL240 (hb244.trans hq243.symm)
           exact ⟨rest254.length, Nat.lt_succ_self _, [(7, (PV p47)), (13, (PV p161)), (14, (Value.bool x172)), (75, z44), (76, (Value.int .i64 ((y41.groups.length : Nat) : Int))), (77, (Value.int .i64 ((i137 : Nat) : Int))), (117, v235), (118, (Value.int .i64 ((y233.length : Nat) : Int))), (119, (Value.int .i64 ((i239 + 1 : Nat) : Int)))], ⟨rfl, rfl, rfl, rfl, rfl, rfl, rfl, rfl, rfl, trivial⟩, ⟨rest254, i239 + 1, rfl, rfl, c250, hat241.next, hLn, ah0_0, ah0_1, ah0_2, ah0_3, ah0_4, ah1, ah2_0, k4, k8, h45, h46, k55, h160, k170, h236, gp1, gp5, d237⟩⟩
         ·
          obtain rfl := hat241.nil q253
          have hLf : Lp.fin () = o245 := hL240
          refine CW.exit (thn_exit (thn_exit (inB_hit ?_)))
          exact ⟨(), ⟨rfl, rfl, rfl, rfl, rfl, trivial⟩, c250, hLf, ah0_0, ah0_1, ah0_2, ah0_3, ah0_4, ah1, ah2_0, k4, k8, h45, h46, k55, h160, k170, h236, gp1, gp5, d237⟩
        ·
         rintro _ w292 ⟨_, hE293, c291, f294, ah0_0, ah0_1, ah0_2, ah0_3, ah0_4, ah1, ah2_0, k4, k8, h45, h46, k55, h160, k170, h236, gp1, gp5, d237⟩
         have hb142 := finS f294 hb142
         refine thn_n (CW.sub [(7, (PV p47)), (14, (Value.bool x172)), (75, z44), (76, (Value.int .i64 ((y41.groups.length : Nat) : Int))), (77, (Value.int .i64 ((i137 : Nat) : Int)))] hE293 ?_)
         refine CW.seq (CW.region ?_)
         refine rl_move rfl rfl ?_
         refine rl_not rfl rfl ?_
         refine RL.nil ?_
         refine thn_n ?_
         refine CW.cond (t := !x172) rfl (fun q296 => ?_) (fun q296 => ?_)
         ·
          have hb142 := ifT q296 hb142
          refine CW.seq (CW.region ?_)
          refine rl_assign rfl rfl ?_
          refine RL.nil ?_
          refine thn_n ?_
          refine CW.ret ?_
          refine inB_ret ?_
          refine thn_ret ?_
          refine thn_ret (inB_ret (thn_ret ?_))
          refine thn_ret ?_
          have f297 := runBO_ret hL138 hq141 hb142
          have hS := retS f297 hS
          obtain rfl := Option.some.inj hS
          exact ret1 rfl ⟨rfl, c291⟩
         ·
          have hb142 := ifF q296 hb142
          refine CW.skip ?_
          refine inB_n ?_
          refine thn_n ?_
          refine CW.region ?_
          refine rl_inc rfl hat139.lt h46.big rfl ?_
          refine rl_move rfl rfl ?_
          refine RL.nil ?_
          refine thn_n ?_
          have ad298 : ∀ b, b < w292.heap.size → ¬ (un (inBlk (PV p161)) (un (inBlk (PV p47)) nb)) b → ¬ nb b ∧ ¬ (un (inBlk (PV p47)) nb) b := fun b _ hs => ⟨fun x => x, fun h => hs (un_el h (fun h => (.inr (.inl h))) (fun h => False.elim h))⟩
          have crf : Ch nb w292 w292 := Ch.refl
          have ah0_0 := slRep.st k_Addr_pos ah0_0 crf ad298
          have ah0_1 := slRep.st k_Addr_pos ah0_1 crf ad298
          have ah0_2 := slRep.st k_Addr_pos ah0_2 crf ad298
          have ah0_3 := slRep.st k_Cidr_pos ah0_3 crf ad298
          have ah0_4 := slRep.st k_Port_pos ah0_4 crf ad298
          have ah1 := slRep.st k_Slice_pos ah1 crf ad298
          have ah2_0 := slRep.st k_Addr_pos ah2_0 crf ad298
          have gp1n : (G F w.heap.size (un (inBlk (PV p47)) nb)) p1 := ⟨gp1.1, (ad298 _ k4.lt gp1.2).2⟩
          have k4 := k4.ch0 crf
          have gp1 := gp1n
          have gp5n : (G F w.heap.size (un (inBlk (PV p47)) nb)) p5 := ⟨gp5.1, (ad298 _ k8.lt gp5.2).2⟩
          have k8 := k8.ch0 crf
          have gp5 := gp5n
          have h45 := slRep.st k_Face_pos h45 crf ad298
          have h46 := slRep.st k_Group_pos h46 crf ad298
          have k55 := k55.ch0 crf
          have c291 := c291.then0 crf
          have hLn := runBO_next hL138 hq141 hb142
          exact ⟨rest152.length, Nat.lt_succ_self _, [(7, (PV p47)), (75, z44), (76, (Value.int .i64 ((y41.groups.length : Nat) : Int))), (77, (Value.int .i64 ((i137 + 1 : Nat) : Int)))], ⟨rfl, rfl, rfl, rfl, trivial⟩, ⟨rest152, i137 + 1, rfl, rfl, c291, hat139.next, hLn, ah0_0, ah0_1, ah0_2, ah0_3, ah0_4, ah1, ah2_0, k4, k8, h45, h46, k55, gp1, gp5⟩⟩
      ·
       obtain rfl := hat139.nil q151
       have hLf : Lp.fin i137 = o143 := runBO_done hL138
       refine CW.exit (thn_exit (thn_exit (inB_hit ?_)))
       exact ⟨i137, trivial, c148, hLf, ah0_0, ah0_1, ah0_2, ah0_3, ah0_4, ah1, ah2_0, k4, k8, h45, h46, k55, gp1, gp5⟩
     ·
      rintro _ w300 ⟨ix150, hE301, c299, f302, ah0_0, ah0_1, ah0_2, ah0_3, ah0_4, ah1, ah2_0, k4, k8, h45, h46, k55, gp1, gp5⟩
      have hS := finS f302 hS
      refine thn_n (CW.sub [] hE301 ?_)
      refine CW.seq (CW.region ?_)
      refine rl_assign rfl rfl ?_
      refine RL.nil ?_
      refine thn_n ?_
      refine CW.ret ?_
      obtain rfl := Option.some.inj hS
      exact ret1 rfl ⟨rfl, c299⟩
end Go.Proofs.YtgcneihmkkldeaaGreat
