/- The walks through the code: each call comes to its printed function. Written by a program of this session. -/
import Derived.Test.YteoaobiglodblaaM
import Derived.Test.YteoaobiglodblaaL
import Derived.Test.YteoaobiglodblaaW1
namespace Go.Proofs.Yteoaobiglodblaa
open Go K
set_option linter.unusedVariables false
/-- (lb/pick.Want).candidate -/
theorem ctr37 (F : Nat → Prop) (w : World) (a0 : Want) (a1 : Endpoint) (az1_0 : Value) (ah1_0 : slRep kStr F w a1.zones az1_0) (a2 : Int) (r : Candidate) (hs : F37_pick_Want_candidate a0 a1 a2 = some r) :
    Ret Try.prog 37 #[(Value.agg (Want.enc a0).toArray), (Value.agg (Endpoint.c a1 az1_0).toArray), (Value.int .i64 a2)] w fun v w' => ∃ (y0_0 : Value), v = (Value.agg (Candidate.c r y0_0).toArray) ∧ slRep kStr (fun b => F b ∨ w.heap.size ≤ b) w' r.zones y0_0 ∧ Ch nb w w' := by
  have hS := hs
  have c0 : Ch nb w w := Ch.refl
  have ah1_0 := slRep.enter kStr_pos ah1_0
  refine Ret.of (n := 31) (args := [_, _, _]) (rs := [.cell 6 44]) Try.func37 rfl rfl rfl rfl ?_
  refine CW.seq (CW.region ?_)
  refine rl_boxA (cs := (Want.enc a0)) rfl rfl ?_
  intro p1 w2 n3 k4
  have gp1 : (G F w.heap.size nb) p1 := ⟨.inr (by rw [n3.eq]; exact c0.size), fun h => absurd (nbS _ h) (by rw [n3.eq]; exact Nat.lt_irrefl _)⟩
  have ah1_0 := slRep.ch kStr_pos ah1_0 n3.ch
  have c0 := c0.then0 n3.ch
  refine rl_boxA (cs := (Endpoint.c a1 az1_0)) rfl rfl ?_
  intro p5 w6 n7 k8
  have gp5 : (G F w.heap.size nb) p5 := ⟨.inr (by rw [n7.eq]; exact c0.size), fun h => absurd (nbS _ h) (by rw [n7.eq]; exact Nat.lt_irrefl _)⟩
  have ah1_0 := slRep.ch kStr_pos ah1_0 n7.ch
  have k4 := k4.ch0 n7.ch
  have c0 := c0.then0 n7.ch
  refine rl_alloc (Candidate.c Candidate.z (Value.slice none 0 0)) Try.zeroValue44 rfl rfl ?_
  intro p9 w10 n11 k12
  have lo13 : ∀ b, inBlk (Value.pointer (some ⟨p9, 0, none⟩)) b → w.heap.size ≤ b := fun b h => Nat.le_trans c0.size (n11.fresh b h)
  have ah1_0 := slRep.st kStr_pos ah1_0 n11.ch (admNew n11.fresh (fun _ x => x))
  have gp1n : (G F w.heap.size (un (inBlk (Value.pointer (some ⟨p9, 0, none⟩))) nb)) p1 := ⟨gp1.1, ((admNew n11.fresh (fun _ x => x)) _ k4.lt gp1.2).2⟩
  have k4 := k4.ch0 n11.ch
  have gp1 := gp1n
  have gp5n : (G F w.heap.size (un (inBlk (Value.pointer (some ⟨p9, 0, none⟩))) nb)) p5 := ⟨gp5.1, ((admNew n11.fresh (fun _ x => x)) _ k8.lt gp5.2).2⟩
  have k8 := k8.ch0 n11.ch
  have gp5 := gp5n
  have c0 := c0.then0 n11.ch
  refine RL.nil ?_
  refine thn_n ?_
  refine CW.seq ?_
  obtain ⟨b14, hb15⟩ : ∃ y, ((!decide (a1.node = (⟨#[]⟩ : ByteArray))) && (decide (a1.node = a0.node))) = y := ⟨_, rfl⟩
  have hS := ltS hb15 hS
  obtain ⟨y18, hy19, hS⟩ := bindS hS
  refine CW.cutN (fun E' w' => ∃ (v20_23 : Value), Sub [(6, (Value.pointer (some ⟨p9, 0, none⟩)))] E' ∧ Ch (inBlk (Value.pointer (some ⟨p9, 0, none⟩))) w10 w' ∧ slRep kStr (G F w.heap.size (un (inBlk (Value.pointer (some ⟨p9, 0, none⟩))) nb)) w' y18 v20_23 ∧ Blk w' p9 44 (Candidate.c ({ point := ({ addr := a1.addr, port := a2 } : Point), localF := b14, ready := a1.ready, serving := a1.serving, terminating := a1.terminating, zones := y18 } : Candidate) v20_23)) ?_ ?_
  ·
   rcases Bool.eq_false_or_eq_true (!decide (a1.node = (⟨#[]⟩ : ByteArray))) with hg27 | hg27
   ·
    have hs28 := and_t hg27 hb15
    refine CW.draw 23 [(none, fun _ O uu wx => uu = (Value.pointer (some ⟨p5, 0, none⟩))), (none, fun _ O uu wx => uu = (Value.agg (Addr.enc a1.addr).toArray)), (none, fun _ O uu wx => uu = (Value.int .i64 a2)), (none, fun _ O uu wx => uu = (Value.agg (Point.enc ({ addr := a1.addr, port := a2 } : Point)).toArray)), (none, fun _ O uu wx => uu = (Value.pointer (some ⟨p5, 17, none⟩))), (none, fun _ O uu wx => uu = (Value.string a1.node)), (none, fun _ O uu wx => uu = (Value.bool (!decide (a1.node = (⟨#[]⟩ : ByteArray))))), (none, fun _ O uu wx => uu = (Value.bool (!decide (a1.node = (⟨#[]⟩ : ByteArray))))), (none, fun _ O uu wx => uu = (Value.pointer (some ⟨p5, 17, none⟩))), (none, fun _ O uu wx => uu = (Value.string a1.node)), (none, fun _ O uu wx => uu = (Value.pointer (some ⟨p1, 5, none⟩))), (none, fun _ O uu wx => uu = (Value.string a0.node)), (none, fun _ O uu wx => uu = (Value.bool (decide (a1.node = a0.node)))), (none, fun _ O uu wx => uu = (Value.bool b14)), (none, fun _ O uu wx => uu = (Value.pointer (some ⟨p5, 18, none⟩))), (none, fun _ O uu wx => uu = (Value.bool a1.ready)), (none, fun _ O uu wx => uu = (Value.pointer (some ⟨p5, 19, none⟩))), (none, fun _ O uu wx => uu = (Value.bool a1.serving)), (none, fun _ O uu wx => uu = (Value.pointer (some ⟨p5, 20, none⟩))), (none, fun _ O uu wx => uu = (Value.bool a1.terminating)), (none, fun _ O uu wx => uu = (Value.pointer (some ⟨p5, 21, none⟩))), (none, fun _ O uu wx => uu = az1_0), (none, fun _ O uu wx => ∃ (v20 : Value), uu = v20 ∧ slRep kStr (G F w.heap.size (un (inBlk (Value.pointer (some ⟨p9, 0, none⟩))) nb)) wx y18 v20)] [[], [0], [], [1, 2], [], [4], [5], [6], [7], [7, 8], [7], [7, 10], [7, 9, 11], [7, 12], [], [14], [], [16], [], [18], [], [20], [21]] [3, 13, 15, 17, 19, 22] nb (fun _ h => h.elim) mixed rfl rfl rfl rfl ?_ ?_
    ·
     refine Each.consA ⟨fun _ _ _ _ _ _ h => h, fun h => absurd rfl h, fun O wk hO ck => ?_⟩ ?_
     ·
      have ah1_0 := slRep.ch kStr_pos ah1_0 ck
      have k4 := k4.ch0 ck
      have k8 := k8.ch0 ck
      have k12 := k12.ch0 ck
      have c0 := c0.then0 ck
      refine rl_fieldAddr rfl fa86_0 rfl ?_
      exact RL.nil ⟨_, rfl, Ch.refl, rfl⟩
     refine Each.consA ⟨fun _ _ _ _ _ _ h => h, fun h => absurd rfl h, fun O wk hO ck => ?_⟩ ?_
     ·
      have ah1_0 := slRep.ch kStr_pos ah1_0 ck
      have k4 := k4.ch0 ck
      have k8 := k8.ch0 ck
      have k12 := k12.ch0 ck
      have c0 := c0.then0 ck
      refine Need.one rfl rfl rfl ?_
      rintro _ e29
      obtain rfl := e29.symm
      refine rl_loadA (cs := (Addr.enc a1.addr)) rfl Try.isAgg39 Try.sizeOf39 (k8.segAt 0 17) rfl rfl ?_
      exact RL.nil ⟨_, rfl, Ch.refl, rfl⟩
     refine Each.consA ⟨fun _ _ _ _ _ _ h => h, fun h => absurd rfl h, fun O wk hO ck => ?_⟩ ?_
     ·
      have ah1_0 := slRep.ch kStr_pos ah1_0 ck
      have k4 := k4.ch0 ck
      have k8 := k8.ch0 ck
      have k12 := k12.ch0 ck
      have c0 := c0.then0 ck
      refine rl_move rfl rfl ?_
      exact RL.nil ⟨_, rfl, Ch.refl, rfl⟩
     refine Each.consA ⟨fun _ _ _ _ _ _ h => h, fun h => absurd rfl h, fun O wk hO ck => ?_⟩ ?_
     ·
      have ah1_0 := slRep.ch kStr_pos ah1_0 ck
      have k4 := k4.ch0 ck
      have k8 := k8.ch0 ck
      have k12 := k12.ch0 ck
      have c0 := c0.then0 ck
      refine Need.one rfl rfl rfl ?_
      rintro _ e30
      obtain rfl := e30.symm
      refine Need.one rfl rfl rfl ?_
      rintro _ e31
      obtain rfl := e31.symm
      refine rl_build (out := (Point.enc ({ addr := a1.addr, port := a2 } : Point))) rfl pl41 Try.zeroValue41 rfl rfl rfl ?_
      exact RL.nil ⟨_, rfl, Ch.refl, rfl⟩
     refine Each.consA ⟨fun _ _ _ _ _ _ h => h, fun h => absurd rfl h, fun O wk hO ck => ?_⟩ ?_
     ·
      have ah1_0 := slRep.ch kStr_pos ah1_0 ck
      have k4 := k4.ch0 ck
      have k8 := k8.ch0 ck
      have k12 := k12.ch0 ck
      have c0 := c0.then0 ck
      refine rl_fieldAddr rfl fa86_1 rfl ?_
      exact RL.nil ⟨_, rfl, Ch.refl, rfl⟩
     refine Each.consA ⟨fun _ _ _ _ _ _ h => h, fun h => absurd rfl h, fun O wk hO ck => ?_⟩ ?_
     ·
      have ah1_0 := slRep.ch kStr_pos ah1_0 ck
      have k4 := k4.ch0 ck
      have k8 := k8.ch0 ck
      have k12 := k12.ch0 ck
      have c0 := c0.then0 ck
      refine Need.one rfl rfl rfl ?_
      rintro _ e32
      obtain rfl := e32.symm
      refine rl_loadS (v := (Value.string a1.node)) rfl Try.isAgg9 (k8.cell rfl) rfl ?_
      exact RL.nil ⟨_, rfl, Ch.refl, rfl⟩
     refine Each.consA ⟨fun _ _ _ _ _ _ h => h, fun h => absurd rfl h, fun O wk hO ck => ?_⟩ ?_
     ·
      have ah1_0 := slRep.ch kStr_pos ah1_0 ck
      have k4 := k4.ch0 ck
      have k8 := k8.ch0 ck
      have k12 := k12.ch0 ck
      have c0 := c0.then0 ck
      refine Need.one rfl rfl rfl ?_
      rintro _ e33
      obtain rfl := e33.symm
      refine rl_bin rfl rfl B.neqS rfl ?_
      exact RL.nil ⟨_, rfl, Ch.refl, rfl⟩
     refine Each.consA ⟨fun _ _ _ _ _ _ h => h, fun h => absurd rfl h, fun O wk hO ck => ?_⟩ ?_
     ·
      have ah1_0 := slRep.ch kStr_pos ah1_0 ck
      have k4 := k4.ch0 ck
      have k8 := k8.ch0 ck
      have k12 := k12.ch0 ck
      have c0 := c0.then0 ck
      refine Need.one rfl rfl rfl ?_
      rintro _ e34
      obtain rfl := e34.symm
      refine rl_move rfl rfl ?_
      exact RL.nil ⟨_, rfl, Ch.refl, rfl⟩
     refine Each.consA ⟨fun _ _ _ _ _ _ h => h, fun h => absurd rfl h, fun O wk hO ck => ?_⟩ ?_
     ·
      have ah1_0 := slRep.ch kStr_pos ah1_0 ck
      have k4 := k4.ch0 ck
      have k8 := k8.ch0 ck
      have k12 := k12.ch0 ck
      have c0 := c0.then0 ck
      refine Need.one rfl rfl rfl ?_
      rintro _ e35
      obtain rfl := e35.symm
      refine RL.yes rfl rfl rfl hg27 ?_
      refine rl_fieldAddr rfl fa86_1 rfl ?_
      exact RL.nil ⟨_, rfl, Ch.refl, rfl⟩
     refine Each.consA ⟨fun _ _ _ _ _ _ h => h, fun h => absurd rfl h, fun O wk hO ck => ?_⟩ ?_
     ·
      have ah1_0 := slRep.ch kStr_pos ah1_0 ck
      have k4 := k4.ch0 ck
      have k8 := k8.ch0 ck
      have k12 := k12.ch0 ck
      have c0 := c0.then0 ck
      refine Need.one rfl rfl rfl ?_
      rintro _ e36
      obtain rfl := e36.symm
      refine Need.one rfl rfl rfl ?_
      rintro _ e37
      obtain rfl := e37.symm
      refine RL.yes rfl rfl rfl hg27 ?_
      refine rl_loadS (v := (Value.string a1.node)) rfl Try.isAgg9 (k8.cell rfl) rfl ?_
      exact RL.nil ⟨_, rfl, Ch.refl, rfl⟩
     refine Each.consA ⟨fun _ _ _ _ _ _ h => h, fun h => absurd rfl h, fun O wk hO ck => ?_⟩ ?_
     ·
      have ah1_0 := slRep.ch kStr_pos ah1_0 ck
      have k4 := k4.ch0 ck
      have k8 := k8.ch0 ck
      have k12 := k12.ch0 ck
      have c0 := c0.then0 ck
      refine Need.one rfl rfl rfl ?_
      rintro _ e38
      obtain rfl := e38.symm
      refine RL.yes rfl rfl rfl hg27 ?_
      refine rl_fieldAddr rfl fa24_5 rfl ?_
      exact RL.nil ⟨_, rfl, Ch.refl, rfl⟩
     refine Each.consA ⟨fun _ _ _ _ _ _ h => h, fun h => absurd rfl h, fun O wk hO ck => ?_⟩ ?_
     ·
      have ah1_0 := slRep.ch kStr_pos ah1_0 ck
      have k4 := k4.ch0 ck
      have k8 := k8.ch0 ck
      have k12 := k12.ch0 ck
      have c0 := c0.then0 ck
      refine Need.one rfl rfl rfl ?_
      rintro _ e39
      obtain rfl := e39.symm
      refine Need.one rfl rfl rfl ?_
      rintro _ e40
      obtain rfl := e40.symm
      refine RL.yes rfl rfl rfl hg27 ?_
      refine rl_loadS (v := (Value.string a0.node)) rfl Try.isAgg9 (k4.cell rfl) rfl ?_
      exact RL.nil ⟨_, rfl, Ch.refl, rfl⟩
     refine Each.consA ⟨fun _ _ _ _ _ _ h => h, fun h => absurd rfl h, fun O wk hO ck => ?_⟩ ?_
     ·
      have ah1_0 := slRep.ch kStr_pos ah1_0 ck
      have k4 := k4.ch0 ck
      have k8 := k8.ch0 ck
      have k12 := k12.ch0 ck
      have c0 := c0.then0 ck
      refine Need.one rfl rfl rfl ?_
      rintro _ e41
      obtain rfl := e41.symm
      refine Need.one rfl rfl rfl ?_
      rintro _ e42
      obtain rfl := e42.symm
      refine Need.one rfl rfl rfl ?_
      rintro _ e43
      obtain rfl := e43.symm
      refine RL.yes rfl rfl rfl hg27 ?_
      refine rl_bin rfl rfl B.eqlS rfl ?_
      exact RL.nil ⟨_, rfl, Ch.refl, rfl⟩
     refine Each.consA ⟨fun _ _ _ _ _ _ h => h, fun h => absurd rfl h, fun O wk hO ck => ?_⟩ ?_
     ·
      refine Need.one rfl rfl rfl ?_
      rintro _ e44
      obtain rfl := e44.symm
      refine Need.one rfl rfl rfl ?_
      rintro _ e45
      obtain rfl := e45.symm
      refine rl_pickT rfl hg27 rfl rfl ?_
      exact RL.nil ⟨_, rfl, Ch.refl, congrArg Value.bool hs28⟩
     refine Each.consA ⟨fun _ _ _ _ _ _ h => h, fun h => absurd rfl h, fun O wk hO ck => ?_⟩ ?_
     ·
      have ah1_0 := slRep.ch kStr_pos ah1_0 ck
      have k4 := k4.ch0 ck
      have k8 := k8.ch0 ck
      have k12 := k12.ch0 ck
      have c0 := c0.then0 ck
      refine rl_fieldAddr rfl fa86_2 rfl ?_
      exact RL.nil ⟨_, rfl, Ch.refl, rfl⟩
     refine Each.consA ⟨fun _ _ _ _ _ _ h => h, fun h => absurd rfl h, fun O wk hO ck => ?_⟩ ?_
     ·
      have ah1_0 := slRep.ch kStr_pos ah1_0 ck
      have k4 := k4.ch0 ck
      have k8 := k8.ch0 ck
      have k12 := k12.ch0 ck
      have c0 := c0.then0 ck
      refine Need.one rfl rfl rfl ?_
      rintro _ e46
      obtain rfl := e46.symm
      refine rl_loadS (v := (Value.bool a1.ready)) rfl Try.isAgg4 (k8.cell rfl) rfl ?_
      exact RL.nil ⟨_, rfl, Ch.refl, rfl⟩
     refine Each.consA ⟨fun _ _ _ _ _ _ h => h, fun h => absurd rfl h, fun O wk hO ck => ?_⟩ ?_
     ·
      have ah1_0 := slRep.ch kStr_pos ah1_0 ck
      have k4 := k4.ch0 ck
      have k8 := k8.ch0 ck
      have k12 := k12.ch0 ck
      have c0 := c0.then0 ck
      refine rl_fieldAddr rfl fa86_3 rfl ?_
      exact RL.nil ⟨_, rfl, Ch.refl, rfl⟩
     refine Each.consA ⟨fun _ _ _ _ _ _ h => h, fun h => absurd rfl h, fun O wk hO ck => ?_⟩ ?_
     ·
      have ah1_0 := slRep.ch kStr_pos ah1_0 ck
      have k4 := k4.ch0 ck
      have k8 := k8.ch0 ck
      have k12 := k12.ch0 ck
      have c0 := c0.then0 ck
      refine Need.one rfl rfl rfl ?_
      rintro _ e47
      obtain rfl := e47.symm
      refine rl_loadS (v := (Value.bool a1.serving)) rfl Try.isAgg4 (k8.cell rfl) rfl ?_
      exact RL.nil ⟨_, rfl, Ch.refl, rfl⟩
     refine Each.consA ⟨fun _ _ _ _ _ _ h => h, fun h => absurd rfl h, fun O wk hO ck => ?_⟩ ?_
     ·
      have ah1_0 := slRep.ch kStr_pos ah1_0 ck
      have k4 := k4.ch0 ck
      have k8 := k8.ch0 ck
      have k12 := k12.ch0 ck
      have c0 := c0.then0 ck
      refine rl_fieldAddr rfl fa86_4 rfl ?_
      exact RL.nil ⟨_, rfl, Ch.refl, rfl⟩
     refine Each.consA ⟨fun _ _ _ _ _ _ h => h, fun h => absurd rfl h, fun O wk hO ck => ?_⟩ ?_
     ·
      have ah1_0 := slRep.ch kStr_pos ah1_0 ck
      have k4 := k4.ch0 ck
      have k8 := k8.ch0 ck
      have k12 := k12.ch0 ck
      have c0 := c0.then0 ck
      refine Need.one rfl rfl rfl ?_
      rintro _ e48
      obtain rfl := e48.symm
      refine rl_loadS (v := (Value.bool a1.terminating)) rfl Try.isAgg4 (k8.cell rfl) rfl ?_
      exact RL.nil ⟨_, rfl, Ch.refl, rfl⟩
     refine Each.consA ⟨fun _ _ _ _ _ _ h => h, fun h => absurd rfl h, fun O wk hO ck => ?_⟩ ?_
     ·
      have ah1_0 := slRep.ch kStr_pos ah1_0 ck
      have k4 := k4.ch0 ck
      have k8 := k8.ch0 ck
      have k12 := k12.ch0 ck
      have c0 := c0.then0 ck
      refine rl_fieldAddr rfl fa86_5 rfl ?_
      exact RL.nil ⟨_, rfl, Ch.refl, rfl⟩
     refine Each.consA ⟨fun _ _ _ _ _ _ h => h, fun h => absurd rfl h, fun O wk hO ck => ?_⟩ ?_
     ·
      have ah1_0 := slRep.ch kStr_pos ah1_0 ck
      have k4 := k4.ch0 ck
      have k8 := k8.ch0 ck
      have k12 := k12.ch0 ck
      have c0 := c0.then0 ck
      refine Need.one rfl rfl rfl ?_
      rintro _ e49
      obtain rfl := e49.symm
      refine rl_loadS (v := az1_0) rfl Try.isAgg42 (k8.cell rfl) rfl ?_
      exact RL.nil ⟨_, rfl, Ch.refl, rfl⟩
     refine Each.consA ⟨fun _ _ _ _ _ cc hh => by obtain ⟨v20, e, h21⟩ := hh; exact ⟨v20, e, slRep.ch kStr_pos h21 cc⟩, fun h => absurd rfl h, fun O wk hO ck => ?_⟩ ?_
     ·
      have ah1_0 := slRep.ch kStr_pos ah1_0 ck
      have k4 := k4.ch0 ck
      have k8 := k8.ch0 ck
      have k12 := k12.ch0 ck
      have c0 := c0.then0 ck
      refine Need.one rfl rfl rfl ?_
      rintro _ e50
      obtain rfl := e50.symm
      refine rl_callF rfl en53 rfl (ctr53 (G F w.heap.size (un (inBlk (Value.pointer (some ⟨p9, 0, none⟩))) nb)) wk a1.zones az1_0 ah1_0 y18 hy19) ?_
      rintro v53 w51 ⟨_, rfl, h54, c52⟩
      have h54 := SlO.backR kStr_pos h54 (un_lt k12.ltp nbS) c0.size
      have ah1_0 := slRep.ch kStr_pos ah1_0 c52
      have k4 := k4.ch0 c52
      have k8 := k8.ch0 c52
      have k12 := k12.ch0 c52
      have c0 := c0.then0 c52
      exact RL.nil ⟨_, rfl, c52, ⟨v53, rfl, h54⟩⟩
     trivial
    ·
     intro hvO57 OpO57 O57 w55 hO58 c56 hN59
     have ah1_0 := slRep.ch kStr_pos ah1_0 c56
     have k4 := k4.ch0 c56
     have k8 := k8.ch0 c56
     have k12 := k12.ch0 c56
     have c0 := c0.then0 c56
     refine Need.one rfl rfl rfl ?_
     rintro _ e60
     obtain rfl := e60.symm
     refine Need.one rfl rfl rfl ?_
     rintro _ e61
     obtain rfl := e61.symm
     refine Need.one rfl rfl rfl ?_
     rintro _ e62
     obtain rfl := e62.symm
     refine Need.one rfl rfl rfl ?_
     rintro _ e63
     obtain rfl := e63.symm
     refine Need.one rfl rfl rfl ?_
     rintro _ e64
     obtain rfl := e64.symm
     refine Need.one rfl rfl rfl ?_
     rintro _ ⟨v20, e65, h21⟩
     obtain rfl := e65.symm
     refine rl_buildC (out := (Candidate.c ({ point := ({ addr := a1.addr, port := a2 } : Point), localF := b14, ready := a1.ready, serving := a1.serving, terminating := a1.terminating, zones := y18 } : Candidate) v20)) [(0, (Point.enc ({ addr := a1.addr, port := a2 } : Point))), (1, [(Value.bool b14)]), (2, [(Value.bool a1.ready)]), (3, [(Value.bool a1.serving)]), (4, [(Value.bool a1.terminating)]), (5, [v20])] rfl (co_cons rfl (co_cons rfl (co_cons rfl (co_cons rfl (co_cons rfl (co_cons (one_toL h21.one.1) co_nil)))))) pl44 Try.zeroValue44 rfl rfl rfl ?_
     refine rl_storeA (vs := (Candidate.c ({ point := ({ addr := a1.addr, port := a2 } : Point), localF := b14, ready := a1.ready, serving := a1.serving, terminating := a1.terminating, zones := y18 } : Candidate) v20)) rfl rfl (Kd.one _ (show k_Candidate.rep (G F w.heap.size (un (inBlk (Value.pointer (some ⟨p9, 0, none⟩))) nb)) w55 ({ point := ({ addr := a1.addr, port := a2 } : Point), localF := b14, ready := a1.ready, serving := a1.serving, terminating := a1.terminating, zones := y18 } : Candidate) (Candidate.c ({ point := ({ addr := a1.addr, port := a2 } : Point), localF := b14, ready := a1.ready, serving := a1.serving, terminating := a1.terminating, zones := y18 } : Candidate) v20) from ⟨v20, rfl, h21⟩)) Try.sizeOf44 rfl k12 rfl ?_
     intro w66 s68 c67 k69
     have ad70 : ∀ b, b < w55.heap.size → ¬ (un (inBlk (Value.pointer (some ⟨p9, 0, none⟩))) nb) b → ¬ (inBlk (Value.pointer (some ⟨p9, 0, none⟩))) b ∧ ¬ (un (inBlk (Value.pointer (some ⟨p9, 0, none⟩))) nb) b := fun b _ hs => ⟨fun h => hs (.inl h), hs⟩
     have ah1_0 := slRep.st kStr_pos ah1_0 c67 ad70
     have k4 := k4.ch c67 (ad70 _ k4.lt gp1.2).1
     have k8 := k8.ch c67 (ad70 _ k8.lt gp5.2).1
     have h21 := slRep.st kStr_pos h21 c67 ad70
     have c0 := c0.then c67 (fun i hi h => absurd (lo13 i h) (Nat.not_le_of_lt hi))
     exact RL.nil ⟨rfl, v20, ⟨rfl, trivial⟩, ((Ch.refl.then0 c56).then c67 (fun i _ h => h)), h21, k69⟩
   ·
    have hs71 := and_f hg27 hb15
    refine CW.draw 23 [(none, fun _ O uu wx => uu = (Value.pointer (some ⟨p5, 0, none⟩))), (none, fun _ O uu wx => uu = (Value.agg (Addr.enc a1.addr).toArray)), (none, fun _ O uu wx => uu = (Value.int .i64 a2)), (none, fun _ O uu wx => uu = (Value.agg (Point.enc ({ addr := a1.addr, port := a2 } : Point)).toArray)), (none, fun _ O uu wx => uu = (Value.pointer (some ⟨p5, 17, none⟩))), (none, fun _ O uu wx => uu = (Value.string a1.node)), (none, fun _ O uu wx => uu = (Value.bool (!decide (a1.node = (⟨#[]⟩ : ByteArray))))), (none, fun _ O uu wx => uu = (Value.bool (!decide (a1.node = (⟨#[]⟩ : ByteArray))))), (none, fun _ O uu wx => uu = undef), (none, fun _ O uu wx => uu = undef), (none, fun _ O uu wx => uu = undef), (none, fun _ O uu wx => uu = undef), (none, fun _ O uu wx => uu = undef), (none, fun _ O uu wx => uu = (Value.bool b14)), (none, fun _ O uu wx => uu = (Value.pointer (some ⟨p5, 18, none⟩))), (none, fun _ O uu wx => uu = (Value.bool a1.ready)), (none, fun _ O uu wx => uu = (Value.pointer (some ⟨p5, 19, none⟩))), (none, fun _ O uu wx => uu = (Value.bool a1.serving)), (none, fun _ O uu wx => uu = (Value.pointer (some ⟨p5, 20, none⟩))), (none, fun _ O uu wx => uu = (Value.bool a1.terminating)), (none, fun _ O uu wx => uu = (Value.pointer (some ⟨p5, 21, none⟩))), (none, fun _ O uu wx => uu = az1_0), (none, fun _ O uu wx => ∃ (v20 : Value), uu = v20 ∧ slRep kStr (G F w.heap.size (un (inBlk (Value.pointer (some ⟨p9, 0, none⟩))) nb)) wx y18 v20)] [[], [0], [], [1, 2], [], [4], [5], [6], [7], [7], [7], [7], [7], [7], [], [14], [], [16], [], [18], [], [20], [21]] [3, 13, 15, 17, 19, 22] nb (fun _ h => h.elim) mixed rfl rfl rfl rfl ?_ ?_
    ·
     refine Each.consA ⟨fun _ _ _ _ _ _ h => h, fun h => absurd rfl h, fun O wk hO ck => ?_⟩ ?_
     ·
      have ah1_0 := slRep.ch kStr_pos ah1_0 ck
      have k4 := k4.ch0 ck
      have k8 := k8.ch0 ck
      have k12 := k12.ch0 ck
      have c0 := c0.then0 ck
      refine rl_fieldAddr rfl fa86_0 rfl ?_
      exact RL.nil ⟨_, rfl, Ch.refl, rfl⟩
     refine Each.consA ⟨fun _ _ _ _ _ _ h => h, fun h => absurd rfl h, fun O wk hO ck => ?_⟩ ?_
     ·
      have ah1_0 := slRep.ch kStr_pos ah1_0 ck
      have k4 := k4.ch0 ck
      have k8 := k8.ch0 ck
      have k12 := k12.ch0 ck
      have c0 := c0.then0 ck
      refine Need.one rfl rfl rfl ?_
      rintro _ e72
      obtain rfl := e72.symm
      refine rl_loadA (cs := (Addr.enc a1.addr)) rfl Try.isAgg39 Try.sizeOf39 (k8.segAt 0 17) rfl rfl ?_
      exact RL.nil ⟨_, rfl, Ch.refl, rfl⟩
     refine Each.consA ⟨fun _ _ _ _ _ _ h => h, fun h => absurd rfl h, fun O wk hO ck => ?_⟩ ?_
     ·
      have ah1_0 := slRep.ch kStr_pos ah1_0 ck
      have k4 := k4.ch0 ck
      have k8 := k8.ch0 ck
      have k12 := k12.ch0 ck
      have c0 := c0.then0 ck
      refine rl_move rfl rfl ?_
      exact RL.nil ⟨_, rfl, Ch.refl, rfl⟩
     refine Each.consA ⟨fun _ _ _ _ _ _ h => h, fun h => absurd rfl h, fun O wk hO ck => ?_⟩ ?_
     ·
      have ah1_0 := slRep.ch kStr_pos ah1_0 ck
      have k4 := k4.ch0 ck
      have k8 := k8.ch0 ck
      have k12 := k12.ch0 ck
      have c0 := c0.then0 ck
      refine Need.one rfl rfl rfl ?_
      rintro _ e73
      obtain rfl := e73.symm
      refine Need.one rfl rfl rfl ?_
      rintro _ e74
      obtain rfl := e74.symm
      refine rl_build (out := (Point.enc ({ addr := a1.addr, port := a2 } : Point))) rfl pl41 Try.zeroValue41 rfl rfl rfl ?_
      exact RL.nil ⟨_, rfl, Ch.refl, rfl⟩
     refine Each.consA ⟨fun _ _ _ _ _ _ h => h, fun h => absurd rfl h, fun O wk hO ck => ?_⟩ ?_
     ·
      have ah1_0 := slRep.ch kStr_pos ah1_0 ck
      have k4 := k4.ch0 ck
      have k8 := k8.ch0 ck
      have k12 := k12.ch0 ck
      have c0 := c0.then0 ck
      refine rl_fieldAddr rfl fa86_1 rfl ?_
      exact RL.nil ⟨_, rfl, Ch.refl, rfl⟩
     refine Each.consA ⟨fun _ _ _ _ _ _ h => h, fun h => absurd rfl h, fun O wk hO ck => ?_⟩ ?_
     ·
      have ah1_0 := slRep.ch kStr_pos ah1_0 ck
      have k4 := k4.ch0 ck
      have k8 := k8.ch0 ck
      have k12 := k12.ch0 ck
      have c0 := c0.then0 ck
      refine Need.one rfl rfl rfl ?_
      rintro _ e75
      obtain rfl := e75.symm
      refine rl_loadS (v := (Value.string a1.node)) rfl Try.isAgg9 (k8.cell rfl) rfl ?_
      exact RL.nil ⟨_, rfl, Ch.refl, rfl⟩
     refine Each.consA ⟨fun _ _ _ _ _ _ h => h, fun h => absurd rfl h, fun O wk hO ck => ?_⟩ ?_
     ·
      have ah1_0 := slRep.ch kStr_pos ah1_0 ck
      have k4 := k4.ch0 ck
      have k8 := k8.ch0 ck
      have k12 := k12.ch0 ck
      have c0 := c0.then0 ck
      refine Need.one rfl rfl rfl ?_
      rintro _ e76
      obtain rfl := e76.symm
      refine rl_bin rfl rfl B.neqS rfl ?_
      exact RL.nil ⟨_, rfl, Ch.refl, rfl⟩
     refine Each.consA ⟨fun _ _ _ _ _ _ h => h, fun h => absurd rfl h, fun O wk hO ck => ?_⟩ ?_
     ·
      have ah1_0 := slRep.ch kStr_pos ah1_0 ck
      have k4 := k4.ch0 ck
      have k8 := k8.ch0 ck
      have k12 := k12.ch0 ck
      have c0 := c0.then0 ck
      refine Need.one rfl rfl rfl ?_
      rintro _ e77
      obtain rfl := e77.symm
      refine rl_move rfl rfl ?_
      exact RL.nil ⟨_, rfl, Ch.refl, rfl⟩
     refine Each.consA ⟨fun _ _ _ _ _ _ h => h, fun h => absurd rfl h, fun O wk hO ck => ?_⟩ ?_
     ·
      refine Need.one rfl rfl rfl ?_
      rintro _ e78
      obtain rfl := e78.symm
      refine RL.no rfl rfl rfl hg27 rfl rfl ?_
      exact RL.nil ⟨_, rfl, Ch.refl, rfl⟩
     refine Each.consA ⟨fun _ _ _ _ _ _ h => h, fun h => absurd rfl h, fun O wk hO ck => ?_⟩ ?_
     ·
      refine Need.one rfl rfl rfl ?_
      rintro _ e79
      obtain rfl := e79.symm
      refine RL.no rfl rfl rfl hg27 rfl rfl ?_
      exact RL.nil ⟨_, rfl, Ch.refl, rfl⟩
     refine Each.consA ⟨fun _ _ _ _ _ _ h => h, fun h => absurd rfl h, fun O wk hO ck => ?_⟩ ?_
     ·
      refine Need.one rfl rfl rfl ?_
      rintro _ e80
      obtain rfl := e80.symm
      refine RL.no rfl rfl rfl hg27 rfl rfl ?_
      exact RL.nil ⟨_, rfl, Ch.refl, rfl⟩
     refine Each.consA ⟨fun _ _ _ _ _ _ h => h, fun h => absurd rfl h, fun O wk hO ck => ?_⟩ ?_
     ·
      refine Need.one rfl rfl rfl ?_
      rintro _ e81
      obtain rfl := e81.symm
      refine RL.no rfl rfl rfl hg27 rfl rfl ?_
      exact RL.nil ⟨_, rfl, Ch.refl, rfl⟩
     refine Each.consA ⟨fun _ _ _ _ _ _ h => h, fun h => absurd rfl h, fun O wk hO ck => ?_⟩ ?_
     ·
      refine Need.one rfl rfl rfl ?_
      rintro _ e82
      obtain rfl := e82.symm
      refine RL.no rfl rfl rfl hg27 rfl rfl ?_
      exact RL.nil ⟨_, rfl, Ch.refl, rfl⟩
     refine Each.consA ⟨fun _ _ _ _ _ _ h => h, fun h => absurd rfl h, fun O wk hO ck => ?_⟩ ?_
     ·
      refine Need.one rfl rfl rfl ?_
      rintro _ e83
      obtain rfl := e83.symm
      refine rl_pickF rfl hg27 rfl rfl ?_
      exact RL.nil ⟨_, rfl, Ch.refl, congrArg Value.bool hs71⟩
     refine Each.consA ⟨fun _ _ _ _ _ _ h => h, fun h => absurd rfl h, fun O wk hO ck => ?_⟩ ?_
     ·
      have ah1_0 := slRep.ch kStr_pos ah1_0 ck
      have k4 := k4.ch0 ck
      have k8 := k8.ch0 ck
      have k12 := k12.ch0 ck
      have c0 := c0.then0 ck
      refine rl_fieldAddr rfl fa86_2 rfl ?_
      exact RL.nil ⟨_, rfl, Ch.refl, rfl⟩
     refine Each.consA ⟨fun _ _ _ _ _ _ h => h, fun h => absurd rfl h, fun O wk hO ck => ?_⟩ ?_
     ·
      have ah1_0 := slRep.ch kStr_pos ah1_0 ck
      have k4 := k4.ch0 ck
      have k8 := k8.ch0 ck
      have k12 := k12.ch0 ck
      have c0 := c0.then0 ck
      refine Need.one rfl rfl rfl ?_
      rintro _ e84
      obtain rfl := e84.symm
      refine rl_loadS (v := (Value.bool a1.ready)) rfl Try.isAgg4 (k8.cell rfl) rfl ?_
      exact RL.nil ⟨_, rfl, Ch.refl, rfl⟩
     refine Each.consA ⟨fun _ _ _ _ _ _ h => h, fun h => absurd rfl h, fun O wk hO ck => ?_⟩ ?_
     ·
      have ah1_0 := slRep.ch kStr_pos ah1_0 ck
      have k4 := k4.ch0 ck
      have k8 := k8.ch0 ck
      have k12 := k12.ch0 ck
      have c0 := c0.then0 ck
      refine rl_fieldAddr rfl fa86_3 rfl ?_
      exact RL.nil ⟨_, rfl, Ch.refl, rfl⟩
     refine Each.consA ⟨fun _ _ _ _ _ _ h => h, fun h => absurd rfl h, fun O wk hO ck => ?_⟩ ?_
     ·
      have ah1_0 := slRep.ch kStr_pos ah1_0 ck
      have k4 := k4.ch0 ck
      have k8 := k8.ch0 ck
      have k12 := k12.ch0 ck
      have c0 := c0.then0 ck
      refine Need.one rfl rfl rfl ?_
      rintro _ e85
      obtain rfl := e85.symm
      refine rl_loadS (v := (Value.bool a1.serving)) rfl Try.isAgg4 (k8.cell rfl) rfl ?_
      exact RL.nil ⟨_, rfl, Ch.refl, rfl⟩
     refine Each.consA ⟨fun _ _ _ _ _ _ h => h, fun h => absurd rfl h, fun O wk hO ck => ?_⟩ ?_
     ·
      have ah1_0 := slRep.ch kStr_pos ah1_0 ck
      have k4 := k4.ch0 ck
      have k8 := k8.ch0 ck
      have k12 := k12.ch0 ck
      have c0 := c0.then0 ck
      refine rl_fieldAddr rfl fa86_4 rfl ?_
      exact RL.nil ⟨_, rfl, Ch.refl, rfl⟩
     refine Each.consA ⟨fun _ _ _ _ _ _ h => h, fun h => absurd rfl h, fun O wk hO ck => ?_⟩ ?_
     ·
      have ah1_0 := slRep.ch kStr_pos ah1_0 ck
      have k4 := k4.ch0 ck
      have k8 := k8.ch0 ck
      have k12 := k12.ch0 ck
      have c0 := c0.then0 ck
      refine Need.one rfl rfl rfl ?_
      rintro _ e86
      obtain rfl := e86.symm
      refine rl_loadS (v := (Value.bool a1.terminating)) rfl Try.isAgg4 (k8.cell rfl) rfl ?_
      exact RL.nil ⟨_, rfl, Ch.refl, rfl⟩
     refine Each.consA ⟨fun _ _ _ _ _ _ h => h, fun h => absurd rfl h, fun O wk hO ck => ?_⟩ ?_
     ·
      have ah1_0 := slRep.ch kStr_pos ah1_0 ck
      have k4 := k4.ch0 ck
      have k8 := k8.ch0 ck
      have k12 := k12.ch0 ck
      have c0 := c0.then0 ck
      refine rl_fieldAddr rfl fa86_5 rfl ?_
      exact RL.nil ⟨_, rfl, Ch.refl, rfl⟩
     refine Each.consA ⟨fun _ _ _ _ _ _ h => h, fun h => absurd rfl h, fun O wk hO ck => ?_⟩ ?_
     ·
      have ah1_0 := slRep.ch kStr_pos ah1_0 ck
      have k4 := k4.ch0 ck
      have k8 := k8.ch0 ck
      have k12 := k12.ch0 ck
      have c0 := c0.then0 ck
      refine Need.one rfl rfl rfl ?_
      rintro _ e87
      obtain rfl := e87.symm
      refine rl_loadS (v := az1_0) rfl Try.isAgg42 (k8.cell rfl) rfl ?_
      exact RL.nil ⟨_, rfl, Ch.refl, rfl⟩
     refine Each.consA ⟨fun _ _ _ _ _ cc hh => by obtain ⟨v20, e, h21⟩ := hh; exact ⟨v20, e, slRep.ch kStr_pos h21 cc⟩, fun h => absurd rfl h, fun O wk hO ck => ?_⟩ ?_
     ·
      have ah1_0 := slRep.ch kStr_pos ah1_0 ck
      have k4 := k4.ch0 ck
      have k8 := k8.ch0 ck
      have k12 := k12.ch0 ck
      have c0 := c0.then0 ck
      refine Need.one rfl rfl rfl ?_
      rintro _ e88
      obtain rfl := e88.symm
      refine rl_callF rfl en53 rfl (ctr53 (G F w.heap.size (un (inBlk (Value.pointer (some ⟨p9, 0, none⟩))) nb)) wk a1.zones az1_0 ah1_0 y18 hy19) ?_
      rintro v91 w89 ⟨_, rfl, h92, c90⟩
      have h92 := SlO.backR kStr_pos h92 (un_lt k12.ltp nbS) c0.size
      have ah1_0 := slRep.ch kStr_pos ah1_0 c90
      have k4 := k4.ch0 c90
      have k8 := k8.ch0 c90
      have k12 := k12.ch0 c90
      have c0 := c0.then0 c90
      exact RL.nil ⟨_, rfl, c90, ⟨v91, rfl, h92⟩⟩
     trivial
    ·
     intro hvO95 OpO95 O95 w93 hO96 c94 hN97
     have ah1_0 := slRep.ch kStr_pos ah1_0 c94
     have k4 := k4.ch0 c94
     have k8 := k8.ch0 c94
     have k12 := k12.ch0 c94
     have c0 := c0.then0 c94
     refine Need.one rfl rfl rfl ?_
     rintro _ e98
     obtain rfl := e98.symm
     refine Need.one rfl rfl rfl ?_
     rintro _ e99
     obtain rfl := e99.symm
     refine Need.one rfl rfl rfl ?_
     rintro _ e100
     obtain rfl := e100.symm
     refine Need.one rfl rfl rfl ?_
     rintro _ e101
     obtain rfl := e101.symm
     refine Need.one rfl rfl rfl ?_
     rintro _ e102
     obtain rfl := e102.symm
     refine Need.one rfl rfl rfl ?_
     rintro _ ⟨v20, e103, h21⟩
     obtain rfl := e103.symm
     refine rl_buildC (out := (Candidate.c ({ point := ({ addr := a1.addr, port := a2 } : Point), localF := b14, ready := a1.ready, serving := a1.serving, terminating := a1.terminating, zones := y18 } : Candidate) v20)) [(0, (Point.enc ({ addr := a1.addr, port := a2 } : Point))), (1, [(Value.bool b14)]), (2, [(Value.bool a1.ready)]), (3, [(Value.bool a1.serving)]), (4, [(Value.bool a1.terminating)]), (5, [v20])] rfl (co_cons rfl (co_cons rfl (co_cons rfl (co_cons rfl (co_cons rfl (co_cons (one_toL h21.one.1) co_nil)))))) pl44 Try.zeroValue44 rfl rfl rfl ?_
     refine rl_storeA (vs := (Candidate.c ({ point := ({ addr := a1.addr, port := a2 } : Point), localF := b14, ready := a1.ready, serving := a1.serving, terminating := a1.terminating, zones := y18 } : Candidate) v20)) rfl rfl (Kd.one _ (show k_Candidate.rep (G F w.heap.size (un (inBlk (Value.pointer (some ⟨p9, 0, none⟩))) nb)) w93 ({ point := ({ addr := a1.addr, port := a2 } : Point), localF := b14, ready := a1.ready, serving := a1.serving, terminating := a1.terminating, zones := y18 } : Candidate) (Candidate.c ({ point := ({ addr := a1.addr, port := a2 } : Point), localF := b14, ready := a1.ready, serving := a1.serving, terminating := a1.terminating, zones := y18 } : Candidate) v20) from ⟨v20, rfl, h21⟩)) Try.sizeOf44 rfl k12 rfl ?_
     intro w104 s106 c105 k107
     have ad108 : ∀ b, b < w93.heap.size → ¬ (un (inBlk (Value.pointer (some ⟨p9, 0, none⟩))) nb) b → ¬ (inBlk (Value.pointer (some ⟨p9, 0, none⟩))) b ∧ ¬ (un (inBlk (Value.pointer (some ⟨p9, 0, none⟩))) nb) b := fun b _ hs => ⟨fun h => hs (.inl h), hs⟩
     have ah1_0 := slRep.st kStr_pos ah1_0 c105 ad108
     have k4 := k4.ch c105 (ad108 _ k4.lt gp1.2).1
     have k8 := k8.ch c105 (ad108 _ k8.lt gp5.2).1
     have h21 := slRep.st kStr_pos h21 c105 ad108
     have c0 := c0.then c105 (fun i hi h => absurd (lo13 i h) (Nat.not_le_of_lt hi))
     exact RL.nil ⟨rfl, v20, ⟨rfl, trivial⟩, ((Ch.refl.then0 c94).then c105 (fun i _ h => h)), h21, k107⟩
  ·
   rintro _ w110 ⟨v20_23, hE109, c111, h21_23, k112⟩
   have ad113 : ∀ b, b < w10.heap.size → ¬ (un (inBlk (Value.pointer (some ⟨p9, 0, none⟩))) nb) b → ¬ (inBlk (Value.pointer (some ⟨p9, 0, none⟩))) b ∧ ¬ (un (inBlk (Value.pointer (some ⟨p9, 0, none⟩))) nb) b := fun b _ hs => ⟨fun h => hs (.inl h), hs⟩
   have ah1_0 := slRep.st kStr_pos ah1_0 c111 ad113
   have k4 := k4.ch c111 (ad113 _ k4.lt gp1.2).1
   have k8 := k8.ch c111 (ad113 _ k8.lt gp5.2).1
   have c0 := c0.then c111 (fun i hi h => absurd (lo13 i h) (Nat.not_le_of_lt hi))
   refine thn_n (CW.sub [(6, (Value.pointer (some ⟨p9, 0, none⟩)))] hE109 ?_)
   refine CW.ret ?_
   obtain rfl := Option.some.inj hS
   exact ⟨[_], ⟨Res1.agg (cs := (Candidate.c ({ point := ({ addr := a1.addr, port := a2 } : Point), localF := b14, ready := a1.ready, serving := a1.serving, terminating := a1.terminating, zones := y18 } : Candidate) v20_23)) rfl Try.isAgg44 Try.sizeOf44 (k112.segAt 0 23) rfl, trivial⟩, ⟨v20_23, rfl, slRep.out kStr_pos h21_23, c0⟩⟩
/-- lb/pick.Candidates -/
theorem ctr18 (F : Nat → Prop) (w : World) (a0 : (List Slice)) (av0 : Value) (ah0 : slRep k_Slice F w a0 av0) (a1 : Want) (r : (List Candidate)) (hs : F18_pick_Candidates a0 a1 = some r) :
    Ret Try.prog 18 #[av0, (Value.agg (Want.enc a1).toArray)] w fun v w' => ∃ (y0 : Value), v = y0 ∧ SlO k_Candidate 44 F w.heap.size (inBlk y0) w' r y0 ∧ Ch nb w w' := by
  have hS := hs
  have c0 : Ch nb w w := Ch.refl
  have ah0 := slRep.enter k_Slice_pos ah0
  refine Ret.of (n := 56) (args := [_, _]) (rs := [.tmp 4]) Try.func18 rfl rfl rfl rfl ?_
  refine CW.seq (CW.region ?_)
  refine rl_boxA (cs := (Want.enc a1)) rfl rfl ?_
  intro p1 w2 n3 k4
  have gp1 : (G F w.heap.size nb) p1 := ⟨.inr (by rw [n3.eq]; exact c0.size), fun h => absurd (nbS _ h) (by rw [n3.eq]; exact Nat.lt_irrefl _)⟩
  have ah0 := slRep.ch k_Slice_pos ah0 n3.ch
  have c0 := c0.then0 n3.ch
  refine rl_assign rfl rfl ?_
  refine RL.nil ?_
  refine thn_n ?_
  refine CW.seq (CW.region ?_)
  refine rl_alloc [(Value.slice none 0 0)] Try.zeroValue22 rfl rfl ?_
  intro p5 w6 n7 k8
  have lo9 : ∀ b, inBlk (Value.pointer (some ⟨p5, 0, none⟩)) b → w.heap.size ≤ b := fun b h => Nat.le_trans c0.size (n7.fresh b h)
  have ah0 := slRep.st k_Slice_pos ah0 n7.ch (admNew n7.fresh (fun _ x => x))
  have gp1n : (G F w.heap.size (un (inBlk (Value.pointer (some ⟨p5, 0, none⟩))) nb)) p1 := ⟨gp1.1, ((admNew n7.fresh (fun _ x => x)) _ k4.lt gp1.2).2⟩
  have k4 := k4.ch0 n7.ch
  have gp1 := gp1n
  have c0 := c0.then0 n7.ch
  refine RL.nil ?_
  refine thn_n ?_
  refine CW.seq (CW.region ?_)
  refine rl_makeMap (ek := (fun x => Value.agg (Point.enc x).toArray)) (ev := (fun x => Value.agg (St79.enc x).toArray)) rfl ?_
  intro p10 w11 n12 k13
  have lo14 : ∀ b, inBlk (Value.map (some p10)) b → w.heap.size ≤ b := fun b h => Nat.le_trans c0.size (n12.freshM b h)
  have d15 : ∀ b, inBlk (Value.map (some p10)) b → ¬ inBlk (Value.pointer (some ⟨p5, 0, none⟩)) b := disNew n12.freshM k8.ltp
  have ah0 := slRep.st k_Slice_pos ah0 n12.ch (admNew n12.freshM (fun _ x => x))
  have gp1n : (G F w.heap.size (un (inBlk (Value.map (some p10))) (un (inBlk (Value.pointer (some ⟨p5, 0, none⟩))) nb))) p1 := ⟨gp1.1, ((admNew n12.freshM (fun _ x => x)) _ k4.lt gp1.2).2⟩
  have k4 := k4.ch0 n12.ch
  have gp1 := gp1n
  have k8 := k8.ch0 n12.ch
  have c0 := c0.then0 n12.ch
  refine rl_alloc [(Value.map none)] Try.zeroValue78 rfl rfl ?_
  intro p16 w17 n18 k19
  have lo20 : ∀ b, inBlk (Value.pointer (some ⟨p16, 0, none⟩)) b → w.heap.size ≤ b := fun b h => Nat.le_trans c0.size (n18.fresh b h)
  have d21 : ∀ b, inBlk (Value.pointer (some ⟨p16, 0, none⟩)) b → ¬ inBlk (Value.map (some p10)) b := disNew n18.fresh k13.ltp
  have d22 : ∀ b, inBlk (Value.pointer (some ⟨p16, 0, none⟩)) b → ¬ inBlk (Value.pointer (some ⟨p5, 0, none⟩)) b := disNew n18.fresh k8.ltp
  have ah0 := slRep.st k_Slice_pos ah0 n18.ch (admNew n18.fresh (fun _ x => x))
  have gp1n : (G F w.heap.size (un (inBlk (Value.pointer (some ⟨p16, 0, none⟩))) (un (inBlk (Value.map (some p10))) (un (inBlk (Value.pointer (some ⟨p5, 0, none⟩))) nb)))) p1 := ⟨gp1.1, ((admNew n18.fresh (fun _ x => x)) _ k4.lt gp1.2).2⟩
  have k4 := k4.ch0 n18.ch
  have gp1 := gp1n
  have k8 := k8.ch0 n18.ch
  have k13 := k13.ch0 n18.ch
  have c0 := c0.then0 n18.ch
  refine rl_storeS (u := (Value.map (some p10))) rfl rfl k13.one Try.sizeOf78 k19 rfl ?_
  intro w23 s25 c24 k26
  have ad27 : ∀ b, b < w17.heap.size → ¬ (un (inBlk (Value.pointer (some ⟨p16, 0, none⟩))) (un (inBlk (Value.map (some p10))) (un (inBlk (Value.pointer (some ⟨p5, 0, none⟩))) nb))) b → ¬ (inBlk (Value.pointer (some ⟨p16, 0, none⟩))) b ∧ ¬ (un (inBlk (Value.pointer (some ⟨p16, 0, none⟩))) (un (inBlk (Value.map (some p10))) (un (inBlk (Value.pointer (some ⟨p5, 0, none⟩))) nb))) b := fun b _ hs => ⟨fun h => hs (.inl h), hs⟩
  have ah0 := slRep.st k_Slice_pos ah0 c24 ad27
  have k4 := k4.ch c24 (ad27 _ k4.lt gp1.2).1
  have k8 := k8.ch c24 ((fun b hb h => (disSym d22) b hb h) _ rfl)
  have k13 := k13.ch c24 ((fun b hb h => (disSym d21) b hb h))
  have c0 := c0.then c24 (fun i hi h => absurd (lo20 i h) (Nat.not_le_of_lt hi))
  refine RL.nil ?_
  refine thn_n ?_
  refine CW.seq (CW.region ?_)
  refine rl_makeFunc rfl rfl ?_
  refine rl_assign rfl rfl ?_
  refine RL.nil ?_
  refine thn_n ?_
  refine CW.seq ?_
  refine CW.seq (CW.region ?_)
  refine rl_move rfl rfl ?_
  refine rl_lenR rfl ah0 Try.underlying46 rfl ?_
  refine rl_move rfl rfl ?_
  refine RL.nil ?_
  refine thn_n ?_
  have d29 : ∀ b, inBlk (Value.slice none 0 0) b → ¬ inBlk (Value.pointer (some ⟨p16, 0, none⟩)) b := fun _ h => h.elim
  have d30 : ∀ b, inBlk (Value.slice none 0 0) b → ¬ inBlk (Value.map (some p10)) b := fun _ h => h.elim
  have d31 : ∀ b, inBlk (Value.slice none 0 0) b → ¬ inBlk (Value.pointer (some ⟨p5, 0, none⟩)) b := fun _ h => h.elim
  have crf : Ch nb w23 w23 := Ch.refl
  have ah0 := slRep.st k_Slice_pos ah0 crf admNil
  have gp1n : (G F w.heap.size (un (inBlk (Value.slice none 0 0)) (un (inBlk (Value.pointer (some ⟨p16, 0, none⟩))) (un (inBlk (Value.map (some p10))) (un (inBlk (Value.pointer (some ⟨p5, 0, none⟩))) nb))))) p1 := ⟨gp1.1, (admNil _ k4.lt gp1.2).2⟩
  have k4 := k4.ch0 crf
  have gp1 := gp1n
  have k8 := k8.ch0 crf
  have k13 := k13.ch0 crf
  have k26 := k26.ch0 crf
  have c0 := c0.then0 crf
  have h28 : SlO k_Candidate 44 F w.heap.size (un (inBlk (Value.slice none 0 0)) (un (inBlk (Value.pointer (some ⟨p16, 0, none⟩))) (un (inBlk (Value.map (some p10))) (un (inBlk (Value.pointer (some ⟨p5, 0, none⟩))) nb)))) w23 ([] : List Candidate) (.slice none 0 0) := SlO.nil
  obtain ⟨o54, ho55, hS⟩ := bindS hS
  refine CW.cutB (fun E' w' => ∃ (x32 : (List Candidate)) (v33 : Value) (x35 : (List (Point × St79))) (v36 : Value), Sub [(5, (Value.pointer (some ⟨p5, 0, none⟩)))] E' ∧ Ch nb w w' ∧ (x32, x35) = o54 ∧ slRep k_Slice (G F w.heap.size (un (inBlk v33) (un (inBlk (Value.pointer (some ⟨p16, 0, none⟩))) (un (inBlk v36) (un (inBlk (Value.pointer (some ⟨p5, 0, none⟩))) nb))))) w' a0 av0 ∧ Blk w' p1 24 (Want.enc a1) ∧ SlO k_Candidate 44 F w.heap.size (un (inBlk v33) (un (inBlk (Value.pointer (some ⟨p16, 0, none⟩))) (un (inBlk v36) (un (inBlk (Value.pointer (some ⟨p5, 0, none⟩))) nb)))) w' x32 v33 ∧ Mp (fun x => Value.agg (Point.enc x).toArray) (fun x => Value.agg (St79.enc x).toArray) w' x35 v36 ∧ Blk w' p5 22 [v33] ∧ Blk w' p16 78 [v36] ∧ (G F w.heap.size (un (inBlk v33) (un (inBlk (Value.pointer (some ⟨p16, 0, none⟩))) (un (inBlk v36) (un (inBlk (Value.pointer (some ⟨p5, 0, none⟩))) nb))))) p1 ∧ (∀ b, inBlk v33 b → ¬ inBlk (Value.pointer (some ⟨p16, 0, none⟩)) b) ∧ (∀ b, inBlk v33 b → ¬ inBlk v36 b) ∧ (∀ b, inBlk v33 b → ¬ inBlk (Value.pointer (some ⟨p5, 0, none⟩)) b) ∧ (∀ b, inBlk (Value.pointer (some ⟨p16, 0, none⟩)) b → ¬ inBlk v36 b) ∧ (∀ b, inBlk (Value.pointer (some ⟨p16, 0, none⟩)) b → ¬ inBlk (Value.pointer (some ⟨p5, 0, none⟩)) b) ∧ (∀ b, inBlk v36 b → ¬ inBlk (Value.pointer (some ⟨p5, 0, none⟩)) b) ∧ (∀ b, inBlk v36 b → w.heap.size ≤ b)) ?_ ?_
  ·
   refine CW.loopS [(3, (Value.pointer (some ⟨p1, 0, none⟩))), (5, (Value.pointer (some ⟨p5, 0, none⟩))), (7, (Value.func (.func 35) #[] [(Value.pointer (some ⟨p16, 0, none⟩)), (Value.pointer (some ⟨p5, 0, none⟩))].toArray)), (16, av0), (17, (Value.int .i64 ((a0.length : Nat) : Int))), (18, (Value.int .i64 ((0 : Nat) : Int)))] ⟨rfl, rfl, rfl, rfl, rfl, rfl, trivial⟩ a0.length (fun m E w' => ∃ (rest47 : List Slice) (i48 : Nat) (x32 : (List Candidate)) (v33 : Value) (x35 : (List (Point × St79))) (v36 : Value), m = rest47.length ∧ E = [(3, (Value.pointer (some ⟨p1, 0, none⟩))), (5, (Value.pointer (some ⟨p5, 0, none⟩))), (7, (Value.func (.func 35) #[] [(Value.pointer (some ⟨p16, 0, none⟩)), (Value.pointer (some ⟨p5, 0, none⟩))].toArray)), (16, av0), (17, (Value.int .i64 ((a0.length : Nat) : Int))), (18, (Value.int .i64 ((i48 : Nat) : Int)))] ∧ Ch nb w w' ∧ At a0 i48 rest47 ∧ runAO (F18_pick_Candidates_b1 a1) rest47 (x32, x35) = some o54 ∧ slRep k_Slice (G F w.heap.size (un (inBlk v33) (un (inBlk (Value.pointer (some ⟨p16, 0, none⟩))) (un (inBlk v36) (un (inBlk (Value.pointer (some ⟨p5, 0, none⟩))) nb))))) w' a0 av0 ∧ Blk w' p1 24 (Want.enc a1) ∧ SlO k_Candidate 44 F w.heap.size (un (inBlk v33) (un (inBlk (Value.pointer (some ⟨p16, 0, none⟩))) (un (inBlk v36) (un (inBlk (Value.pointer (some ⟨p5, 0, none⟩))) nb)))) w' x32 v33 ∧ Mp (fun x => Value.agg (Point.enc x).toArray) (fun x => Value.agg (St79.enc x).toArray) w' x35 v36 ∧ Blk w' p5 22 [v33] ∧ Blk w' p16 78 [v36] ∧ (G F w.heap.size (un (inBlk v33) (un (inBlk (Value.pointer (some ⟨p16, 0, none⟩))) (un (inBlk v36) (un (inBlk (Value.pointer (some ⟨p5, 0, none⟩))) nb))))) p1 ∧ (∀ b, inBlk v33 b → ¬ inBlk (Value.pointer (some ⟨p16, 0, none⟩)) b) ∧ (∀ b, inBlk v33 b → ¬ inBlk v36 b) ∧ (∀ b, inBlk v33 b → ¬ inBlk (Value.pointer (some ⟨p5, 0, none⟩)) b) ∧ (∀ b, inBlk (Value.pointer (some ⟨p16, 0, none⟩)) b → ¬ inBlk v36 b) ∧ (∀ b, inBlk (Value.pointer (some ⟨p16, 0, none⟩)) b → ¬ inBlk (Value.pointer (some ⟨p5, 0, none⟩)) b) ∧ (∀ b, inBlk v36 b → ¬ inBlk (Value.pointer (some ⟨p5, 0, none⟩)) b) ∧ (∀ b, inBlk v36 b → w.heap.size ≤ b))
       ⟨a0, 0, ([] : List Candidate), (Value.slice none 0 0), ([] : (List (Point × St79))), (Value.map (some p10)), rfl, rfl, c0, At.start, ho55, ah0, k4, h28, k13, k8, k26, gp1, d29, d30, d31, d21, d22, d15, lo14⟩ ?_
   rintro _ _ w60 ⟨rest47, i48, x32, v33, x35, v36, rfl, rfl, c59, hat50, hL49, ah0, k4, h34, h37, k38, k39, gp1, d41, d42, d43, d44, d45, d46, lo40⟩
   refine CW.seq (CW.region ?_)
   refine rl_bin rfl rfl B.lss rfl ?_
   refine RL.nil (thn_n ?_)
   refine CW.seq ?_
   refine CW.cond (t := decide (((i48 : Nat) : Int) < ((a0.length : Nat) : Int))) rfl (fun q62 => ?_) (fun q62 => ?_)
   ·
    obtain ⟨x56, rest63, rfl⟩ := hat50.cons q62
    obtain ⟨q51, hq52⟩ := runAO_some hL49
    have hb53 := hq52
    refine CW.skip (thn_n ?_)
    refine CW.seq ?_
    refine CW.block ?_
    refine CW.seq (CW.region ?_)
    refine rl_ixR rfl ah0 rfl hat50.get Try.underlying46 Try.sizeOf71 rfl ?_
    intro p64 o65 cs66 hr67 hs68 hg69
    obtain ⟨z70, z71, rfl, h72, h73⟩ := hr67
    refine rl_loadA (cs := (Slice.c x56 z70 z71)) rfl Try.isAgg71 Try.sizeOf71 (hs68) rfl rfl ?_
    refine rl_alloc (Slice.c Slice.z (Value.slice none 0 0) (Value.slice none 0 0)) Try.zeroValue71 rfl rfl ?_
    intro p74 w75 n76 k77
    have lo78 : ∀ b, inBlk (Value.pointer (some ⟨p74, 0, none⟩)) b → w.heap.size ≤ b := fun b h => Nat.le_trans c59.size (n76.fresh b h)
    have d79 : ∀ b, inBlk (Value.pointer (some ⟨p74, 0, none⟩)) b → ¬ inBlk v33 b := disNew n76.fresh (fun b hb => (h34.lt b hb).2)
    have d80 : ∀ b, inBlk (Value.pointer (some ⟨p74, 0, none⟩)) b → ¬ inBlk (Value.pointer (some ⟨p16, 0, none⟩)) b := disNew n76.fresh k39.ltp
    have d81 : ∀ b, inBlk (Value.pointer (some ⟨p74, 0, none⟩)) b → ¬ inBlk v36 b := disNew n76.fresh h37.ltp
    have d82 : ∀ b, inBlk (Value.pointer (some ⟨p74, 0, none⟩)) b → ¬ inBlk (Value.pointer (some ⟨p5, 0, none⟩)) b := disNew n76.fresh k38.ltp
    have ah0 := slRep.st k_Slice_pos ah0 n76.ch (admNew n76.fresh (fun _ x => x))
    have gp1n : (G F w.heap.size (un (inBlk (Value.pointer (some ⟨p74, 0, none⟩))) (un (inBlk v33) (un (inBlk (Value.pointer (some ⟨p16, 0, none⟩))) (un (inBlk v36) (un (inBlk (Value.pointer (some ⟨p5, 0, none⟩))) nb)))))) p1 := ⟨gp1.1, ((admNew n76.fresh (fun _ x => x)) _ k4.lt gp1.2).2⟩
    have k4 := k4.ch0 n76.ch
    have gp1 := gp1n
    have h34 := h34.st n76.ch (fun _ _ x => x) (admNew n76.fresh (fun _ x => x)) (fun b h => (.inr (.inl h)))
    have h37 := h37.ch0 n76.ch
    have k38 := k38.ch0 n76.ch
    have k39 := k39.ch0 n76.ch
    have h72 := slRep.st k_Port_pos h72 n76.ch (admNew n76.fresh (fun _ x => x))
    have h73 := slRep.st k_Endpoint_pos h73 n76.ch (admNew n76.fresh (fun _ x => x))
    have c59 := c59.then0 n76.ch
    refine rl_storeA (vs := (Slice.c x56 z70 z71)) rfl rfl (Kd.one _ (show k_Slice.rep (G F w.heap.size (un (inBlk (Value.pointer (some ⟨p74, 0, none⟩))) (un (inBlk v33) (un (inBlk (Value.pointer (some ⟨p16, 0, none⟩))) (un (inBlk v36) (un (inBlk (Value.pointer (some ⟨p5, 0, none⟩))) nb)))))) w75 x56 (Slice.c x56 z70 z71) from ⟨z70, z71, rfl, h72, h73⟩)) Try.sizeOf71 rfl k77 rfl ?_
    intro w83 s85 c84 k86
    have ad87 : ∀ b, b < w75.heap.size → ¬ (un (inBlk (Value.pointer (some ⟨p74, 0, none⟩))) (un (inBlk v33) (un (inBlk (Value.pointer (some ⟨p16, 0, none⟩))) (un (inBlk v36) (un (inBlk (Value.pointer (some ⟨p5, 0, none⟩))) nb))))) b → ¬ (inBlk (Value.pointer (some ⟨p74, 0, none⟩))) b ∧ ¬ (un (inBlk (Value.pointer (some ⟨p74, 0, none⟩))) (un (inBlk v33) (un (inBlk (Value.pointer (some ⟨p16, 0, none⟩))) (un (inBlk v36) (un (inBlk (Value.pointer (some ⟨p5, 0, none⟩))) nb))))) b := fun b _ hs => ⟨fun h => hs (.inl h), hs⟩
    have ah0 := slRep.st k_Slice_pos ah0 c84 ad87
    have k4 := k4.ch c84 (ad87 _ k4.lt gp1.2).1
    have h34 := h34.st c84 (fun b hb h => (disSym d79) b hb h) ad87 (fun b h => (.inr (.inl h)))
    have h37 := h37.ch c84 ((fun b hb h => (disSym d81) b hb h))
    have k38 := k38.ch c84 ((fun b hb h => (disSym d82) b hb h) _ rfl)
    have k39 := k39.ch c84 ((fun b hb h => (disSym d80) b hb h) _ rfl)
    have h72 := slRep.st k_Port_pos h72 c84 ad87
    have h73 := slRep.st k_Endpoint_pos h73 c84 ad87
    have c59 := c59.then c84 (fun i hi h => absurd (lo78 i h) (Nat.not_le_of_lt hi))
    refine RL.nil ?_
    refine thn_n ?_
    refine CW.seq ?_
    refine CW.seq (CW.region ?_)
    refine rl_fieldAddr rfl fa71_2 rfl ?_
    refine rl_loadS (v := (Value.bool x56.six)) rfl Try.isAgg4 (k86.cell rfl) rfl ?_
    refine rl_fieldAddr rfl fa24_2 rfl ?_
    refine rl_loadS (v := (Value.bool a1.six)) rfl Try.isAgg4 (k4.cell rfl) rfl ?_
    refine rl_bin rfl rfl (B.neqB Try.underlying4) rfl ?_
    refine RL.nil ?_
    refine thn_n ?_
    refine CW.cond (t := !(x56.six == a1.six)) rfl (fun q88 => ?_) (fun q88 => ?_)
    ·
     have hb53 := ifT q88 hb53
     refine CW.exit ?_
     refine thn_exit ?_
     refine inB_hit ?_
     refine thn_n ?_
     refine CW.region ?_
     refine rl_inc rfl hat50.lt ah0.big rfl ?_
     refine rl_move rfl rfl ?_
     refine RL.nil ?_
     refine thn_n ?_
     have crf : Ch nb w83 w83 := Ch.refl
     have ah0 := slRep.st k_Slice_pos ah0 crf (show ∀ b, b < w83.heap.size → ¬ (un (inBlk (Value.pointer (some ⟨p74, 0, none⟩))) (un (inBlk v33) (un (inBlk (Value.pointer (some ⟨p16, 0, none⟩))) (un (inBlk v36) (un (inBlk (Value.pointer (some ⟨p5, 0, none⟩))) nb))))) b → ¬ nb b ∧ ¬ (un (inBlk v33) (un (inBlk (Value.pointer (some ⟨p16, 0, none⟩))) (un (inBlk v36) (un (inBlk (Value.pointer (some ⟨p5, 0, none⟩))) nb)))) b from fun b _ hs => ⟨fun x => x, fun h => hs (un_el h (fun h => (.inr (.inl h))) (fun h => un_el h (fun h => (.inr (.inr (.inl h)))) (fun h => un_el h (fun h => (.inr (.inr (.inr (.inl h))))) (fun h => un_el h (fun h => (.inr (.inr (.inr (.inr (.inl h)))))) (fun h => False.elim h)))))⟩)
     have gp1n : (G F w.heap.size (un (inBlk v33) (un (inBlk (Value.pointer (some ⟨p16, 0, none⟩))) (un (inBlk v36) (un (inBlk (Value.pointer (some ⟨p5, 0, none⟩))) nb))))) p1 := ⟨gp1.1, ((show ∀ b, b < w83.heap.size → ¬ (un (inBlk (Value.pointer (some ⟨p74, 0, none⟩))) (un (inBlk v33) (un (inBlk (Value.pointer (some ⟨p16, 0, none⟩))) (un (inBlk v36) (un (inBlk (Value.pointer (some ⟨p5, 0, none⟩))) nb))))) b → ¬ nb b ∧ ¬ (un (inBlk v33) (un (inBlk (Value.pointer (some ⟨p16, 0, none⟩))) (un (inBlk v36) (un (inBlk (Value.pointer (some ⟨p5, 0, none⟩))) nb)))) b from fun b _ hs => ⟨fun x => x, fun h => hs (un_el h (fun h => (.inr (.inl h))) (fun h => un_el h (fun h => (.inr (.inr (.inl h)))) (fun h => un_el h (fun h => (.inr (.inr (.inr (.inl h))))) (fun h => un_el h (fun h => (.inr (.inr (.inr (.inr (.inl h)))))) (fun h => False.elim h)))))⟩) _ k4.lt gp1.2).2⟩
     have k4 := k4.ch0 crf
     have gp1 := gp1n
     have h34 := h34.st crf (fun _ _ x => x) (show ∀ b, b < w83.heap.size → ¬ (un (inBlk (Value.pointer (some ⟨p74, 0, none⟩))) (un (inBlk v33) (un (inBlk (Value.pointer (some ⟨p16, 0, none⟩))) (un (inBlk v36) (un (inBlk (Value.pointer (some ⟨p5, 0, none⟩))) nb))))) b → ¬ nb b ∧ ¬ (un (inBlk v33) (un (inBlk (Value.pointer (some ⟨p16, 0, none⟩))) (un (inBlk v36) (un (inBlk (Value.pointer (some ⟨p5, 0, none⟩))) nb)))) b from fun b _ hs => ⟨fun x => x, fun h => hs (un_el h (fun h => (.inr (.inl h))) (fun h => un_el h (fun h => (.inr (.inr (.inl h)))) (fun h => un_el h (fun h => (.inr (.inr (.inr (.inl h))))) (fun h => un_el h (fun h => (.inr (.inr (.inr (.inr (.inl h)))))) (fun h => False.elim h)))))⟩) (fun b h => (.inl h))
     have h37 := h37.ch0 crf
     have k38 := k38.ch0 crf
     have k39 := k39.ch0 crf
     have h72 := slRep.st k_Port_pos h72 crf (show ∀ b, b < w83.heap.size → ¬ (un (inBlk (Value.pointer (some ⟨p74, 0, none⟩))) (un (inBlk v33) (un (inBlk (Value.pointer (some ⟨p16, 0, none⟩))) (un (inBlk v36) (un (inBlk (Value.pointer (some ⟨p5, 0, none⟩))) nb))))) b → ¬ nb b ∧ ¬ (un (inBlk v33) (un (inBlk (Value.pointer (some ⟨p16, 0, none⟩))) (un (inBlk v36) (un (inBlk (Value.pointer (some ⟨p5, 0, none⟩))) nb)))) b from fun b _ hs => ⟨fun x => x, fun h => hs (un_el h (fun h => (.inr (.inl h))) (fun h => un_el h (fun h => (.inr (.inr (.inl h)))) (fun h => un_el h (fun h => (.inr (.inr (.inr (.inl h))))) (fun h => un_el h (fun h => (.inr (.inr (.inr (.inr (.inl h)))))) (fun h => False.elim h)))))⟩)
     have h73 := slRep.st k_Endpoint_pos h73 crf (show ∀ b, b < w83.heap.size → ¬ (un (inBlk (Value.pointer (some ⟨p74, 0, none⟩))) (un (inBlk v33) (un (inBlk (Value.pointer (some ⟨p16, 0, none⟩))) (un (inBlk v36) (un (inBlk (Value.pointer (some ⟨p5, 0, none⟩))) nb))))) b → ¬ nb b ∧ ¬ (un (inBlk v33) (un (inBlk (Value.pointer (some ⟨p16, 0, none⟩))) (un (inBlk v36) (un (inBlk (Value.pointer (some ⟨p5, 0, none⟩))) nb)))) b from fun b _ hs => ⟨fun x => x, fun h => hs (un_el h (fun h => (.inr (.inl h))) (fun h => un_el h (fun h => (.inr (.inr (.inl h)))) (fun h => un_el h (fun h => (.inr (.inr (.inr (.inl h))))) (fun h => un_el h (fun h => (.inr (.inr (.inr (.inr (.inl h)))))) (fun h => False.elim h)))))⟩)
     have c59 := c59.then0 crf
     have hLn := runAO_next hL49 hq52 hb53
     exact ⟨rest63.length, Nat.lt_succ_self _, [(3, (Value.pointer (some ⟨p1, 0, none⟩))), (5, (Value.pointer (some ⟨p5, 0, none⟩))), (7, (Value.func (.func 35) #[] [(Value.pointer (some ⟨p16, 0, none⟩)), (Value.pointer (some ⟨p5, 0, none⟩))].toArray)), (16, av0), (17, (Value.int .i64 ((a0.length : Nat) : Int))), (18, (Value.int .i64 ((i48 + 1 : Nat) : Int)))], ⟨rfl, rfl, rfl, rfl, rfl, rfl, trivial⟩, ⟨rest63, i48 + 1, x32, v33, x35, v36, rfl, rfl, c59, hat50.next, hLn, ah0, k4, h34, h37, k38, k39, gp1, d41, d42, d43, d44, d45, d46, lo40⟩⟩
    ·
     have hb53 := ifF q88 hb53
     refine CW.skip ?_
     refine thn_n ?_
     refine CW.seq (CW.region ?_)
     refine rl_fieldAddr rfl fa71_3 rfl ?_
     refine rl_loadS (v := z70) rfl Try.isAgg68 (k86.cell rfl) rfl ?_
     refine rl_lenR rfl h72 Try.underlying68 rfl ?_
     refine rl_move rfl rfl ?_
     refine RL.nil ?_
     refine thn_n ?_
     obtain ⟨o115, ho116, hb53⟩ := bindS hb53
     refine CW.cutB (fun E' w' => ∃ (x89 : (List Candidate)) (v90 : Value) (x92 : (List (Point × St79))) (v93 : Value), Sub [(3, (Value.pointer (some ⟨p1, 0, none⟩))), (5, (Value.pointer (some ⟨p5, 0, none⟩))), (7, (Value.func (.func 35) #[] [(Value.pointer (some ⟨p16, 0, none⟩)), (Value.pointer (some ⟨p5, 0, none⟩))].toArray)), (16, av0), (17, (Value.int .i64 ((a0.length : Nat) : Int))), (18, (Value.int .i64 ((i48 : Nat) : Int)))] E' ∧ Ch nb w w' ∧ (x89, x92) = o115 ∧ slRep k_Slice (G F w.heap.size (un (inBlk (Value.pointer (some ⟨p74, 0, none⟩))) (un (inBlk v90) (un (inBlk (Value.pointer (some ⟨p16, 0, none⟩))) (un (inBlk v93) (un (inBlk (Value.pointer (some ⟨p5, 0, none⟩))) nb)))))) w' a0 av0 ∧ Blk w' p1 24 (Want.enc a1) ∧ slRep k_Port (G F w.heap.size (un (inBlk (Value.pointer (some ⟨p74, 0, none⟩))) (un (inBlk v90) (un (inBlk (Value.pointer (some ⟨p16, 0, none⟩))) (un (inBlk v93) (un (inBlk (Value.pointer (some ⟨p5, 0, none⟩))) nb)))))) w' x56.ports z70 ∧ slRep k_Endpoint (G F w.heap.size (un (inBlk (Value.pointer (some ⟨p74, 0, none⟩))) (un (inBlk v90) (un (inBlk (Value.pointer (some ⟨p16, 0, none⟩))) (un (inBlk v93) (un (inBlk (Value.pointer (some ⟨p5, 0, none⟩))) nb)))))) w' x56.endpoints z71 ∧ Blk w' p74 71 (Slice.c x56 z70 z71) ∧ SlO k_Candidate 44 F w.heap.size (un (inBlk (Value.pointer (some ⟨p74, 0, none⟩))) (un (inBlk v90) (un (inBlk (Value.pointer (some ⟨p16, 0, none⟩))) (un (inBlk v93) (un (inBlk (Value.pointer (some ⟨p5, 0, none⟩))) nb))))) w' x89 v90 ∧ Mp (fun x => Value.agg (Point.enc x).toArray) (fun x => Value.agg (St79.enc x).toArray) w' x92 v93 ∧ Blk w' p5 22 [v90] ∧ Blk w' p16 78 [v93] ∧ (G F w.heap.size (un (inBlk (Value.pointer (some ⟨p74, 0, none⟩))) (un (inBlk v90) (un (inBlk (Value.pointer (some ⟨p16, 0, none⟩))) (un (inBlk v93) (un (inBlk (Value.pointer (some ⟨p5, 0, none⟩))) nb)))))) p1 ∧ (∀ b, inBlk (Value.pointer (some ⟨p74, 0, none⟩)) b → ¬ inBlk v90 b) ∧ (∀ b, inBlk (Value.pointer (some ⟨p74, 0, none⟩)) b → ¬ inBlk (Value.pointer (some ⟨p16, 0, none⟩)) b) ∧ (∀ b, inBlk (Value.pointer (some ⟨p74, 0, none⟩)) b → ¬ inBlk v93 b) ∧ (∀ b, inBlk (Value.pointer (some ⟨p74, 0, none⟩)) b → ¬ inBlk (Value.pointer (some ⟨p5, 0, none⟩)) b) ∧ (∀ b, inBlk v90 b → ¬ inBlk (Value.pointer (some ⟨p16, 0, none⟩)) b) ∧ (∀ b, inBlk v90 b → ¬ inBlk v93 b) ∧ (∀ b, inBlk v90 b → ¬ inBlk (Value.pointer (some ⟨p5, 0, none⟩)) b) ∧ (∀ b, inBlk (Value.pointer (some ⟨p16, 0, none⟩)) b → ¬ inBlk v93 b) ∧ (∀ b, inBlk (Value.pointer (some ⟨p16, 0, none⟩)) b → ¬ inBlk (Value.pointer (some ⟨p5, 0, none⟩)) b) ∧ (∀ b, inBlk v93 b → ¬ inBlk (Value.pointer (some ⟨p5, 0, none⟩)) b) ∧ (∀ b, inBlk v93 b → w.heap.size ≤ b)) ?_ ?_
     ·
      refine CW.loopS [(3, (Value.pointer (some ⟨p1, 0, none⟩))), (5, (Value.pointer (some ⟨p5, 0, none⟩))), (7, (Value.func (.func 35) #[] [(Value.pointer (some ⟨p16, 0, none⟩)), (Value.pointer (some ⟨p5, 0, none⟩))].toArray)), (9, (Value.pointer (some ⟨p74, 0, none⟩))), (16, av0), (17, (Value.int .i64 ((a0.length : Nat) : Int))), (18, (Value.int .i64 ((i48 : Nat) : Int))), (28, z70), (29, (Value.int .i64 ((x56.ports.length : Nat) : Int))), (30, (Value.int .i64 ((0 : Nat) : Int)))] ⟨rfl, rfl, rfl, rfl, rfl, rfl, rfl, rfl, rfl, rfl, trivial⟩ x56.ports.length (fun m E w' => ∃ (rest108 : List Port) (i109 : Nat) (x89 : (List Candidate)) (v90 : Value) (x92 : (List (Point × St79))) (v93 : Value), m = rest108.length ∧ E = [(3, (Value.pointer (some ⟨p1, 0, none⟩))), (5, (Value.pointer (some ⟨p5, 0, none⟩))), (7, (Value.func (.func 35) #[] [(Value.pointer (some ⟨p16, 0, none⟩)), (Value.pointer (some ⟨p5, 0, none⟩))].toArray)), (9, (Value.pointer (some ⟨p74, 0, none⟩))), (16, av0), (17, (Value.int .i64 ((a0.length : Nat) : Int))), (18, (Value.int .i64 ((i48 : Nat) : Int))), (28, z70), (29, (Value.int .i64 ((x56.ports.length : Nat) : Int))), (30, (Value.int .i64 ((i109 : Nat) : Int)))] ∧ Ch nb w w' ∧ At x56.ports i109 rest108 ∧ runAO (F18_pick_Candidates_b2 a1 x56) rest108 (x89, x92) = some o115 ∧ slRep k_Slice (G F w.heap.size (un (inBlk (Value.pointer (some ⟨p74, 0, none⟩))) (un (inBlk v90) (un (inBlk (Value.pointer (some ⟨p16, 0, none⟩))) (un (inBlk v93) (un (inBlk (Value.pointer (some ⟨p5, 0, none⟩))) nb)))))) w' a0 av0 ∧ Blk w' p1 24 (Want.enc a1) ∧ slRep k_Port (G F w.heap.size (un (inBlk (Value.pointer (some ⟨p74, 0, none⟩))) (un (inBlk v90) (un (inBlk (Value.pointer (some ⟨p16, 0, none⟩))) (un (inBlk v93) (un (inBlk (Value.pointer (some ⟨p5, 0, none⟩))) nb)))))) w' x56.ports z70 ∧ slRep k_Endpoint (G F w.heap.size (un (inBlk (Value.pointer (some ⟨p74, 0, none⟩))) (un (inBlk v90) (un (inBlk (Value.pointer (some ⟨p16, 0, none⟩))) (un (inBlk v93) (un (inBlk (Value.pointer (some ⟨p5, 0, none⟩))) nb)))))) w' x56.endpoints z71 ∧ Blk w' p74 71 (Slice.c x56 z70 z71) ∧ SlO k_Candidate 44 F w.heap.size (un (inBlk (Value.pointer (some ⟨p74, 0, none⟩))) (un (inBlk v90) (un (inBlk (Value.pointer (some ⟨p16, 0, none⟩))) (un (inBlk v93) (un (inBlk (Value.pointer (some ⟨p5, 0, none⟩))) nb))))) w' x89 v90 ∧ Mp (fun x => Value.agg (Point.enc x).toArray) (fun x => Value.agg (St79.enc x).toArray) w' x92 v93 ∧ Blk w' p5 22 [v90] ∧ Blk w' p16 78 [v93] ∧ (G F w.heap.size (un (inBlk (Value.pointer (some ⟨p74, 0, none⟩))) (un (inBlk v90) (un (inBlk (Value.pointer (some ⟨p16, 0, none⟩))) (un (inBlk v93) (un (inBlk (Value.pointer (some ⟨p5, 0, none⟩))) nb)))))) p1 ∧ (∀ b, inBlk (Value.pointer (some ⟨p74, 0, none⟩)) b → ¬ inBlk v90 b) ∧ (∀ b, inBlk (Value.pointer (some ⟨p74, 0, none⟩)) b → ¬ inBlk (Value.pointer (some ⟨p16, 0, none⟩)) b) ∧ (∀ b, inBlk (Value.pointer (some ⟨p74, 0, none⟩)) b → ¬ inBlk v93 b) ∧ (∀ b, inBlk (Value.pointer (some ⟨p74, 0, none⟩)) b → ¬ inBlk (Value.pointer (some ⟨p5, 0, none⟩)) b) ∧ (∀ b, inBlk v90 b → ¬ inBlk (Value.pointer (some ⟨p16, 0, none⟩)) b) ∧ (∀ b, inBlk v90 b → ¬ inBlk v93 b) ∧ (∀ b, inBlk v90 b → ¬ inBlk (Value.pointer (some ⟨p5, 0, none⟩)) b) ∧ (∀ b, inBlk (Value.pointer (some ⟨p16, 0, none⟩)) b → ¬ inBlk v93 b) ∧ (∀ b, inBlk (Value.pointer (some ⟨p16, 0, none⟩)) b → ¬ inBlk (Value.pointer (some ⟨p5, 0, none⟩)) b) ∧ (∀ b, inBlk v93 b → ¬ inBlk (Value.pointer (some ⟨p5, 0, none⟩)) b) ∧ (∀ b, inBlk v93 b → w.heap.size ≤ b))
          ⟨x56.ports, 0, x32, v33, x35, v36, rfl, rfl, c59, At.start, ho116, ah0, k4, h72, h73, k86, h34, h37, k38, k39, gp1, d79, d80, d81, d82, d41, d42, d43, d44, d45, d46, lo40⟩ ?_
      rintro _ _ w121 ⟨rest108, i109, x89, v90, x92, v93, rfl, rfl, c120, hat111, hL110, ah0, k4, h72, h73, k86, h91, h94, k95, k96, gp1, d98, d99, d100, d101, d102, d103, d104, d105, d106, d107, lo97⟩
      refine CW.seq (CW.region ?_)
      refine rl_bin rfl rfl B.lss rfl ?_
      refine RL.nil (thn_n ?_)
      refine CW.seq ?_
      refine CW.cond (t := decide (((i109 : Nat) : Int) < ((x56.ports.length : Nat) : Int))) rfl (fun q123 => ?_) (fun q123 => ?_)
      ·
       obtain ⟨x117, rest124, rfl⟩ := hat111.cons q123
       obtain ⟨q112, hq113⟩ := runAO_some hL110
       have hb114 := hq113
       refine CW.skip (thn_n ?_)
       refine CW.seq ?_
       refine CW.block ?_
       refine CW.seq (CW.region ?_)
       refine rl_ixR rfl h72 rfl hat111.get Try.underlying68 Try.sizeOf83 rfl ?_
       intro p125 o126 cs127 hr128 hs129 hg130
       obtain rfl := hr128
       refine rl_loadA (cs := (Port.enc x117)) rfl Try.isAgg83 Try.sizeOf83 (hs129) rfl rfl ?_
       refine rl_alloc (Port.enc Port.z) Try.zeroValue83 rfl rfl ?_
       intro p131 w132 n133 k134
       have lo135 : ∀ b, inBlk (Value.pointer (some ⟨p131, 0, none⟩)) b → w.heap.size ≤ b := fun b h => Nat.le_trans c120.size (n133.fresh b h)
       have d136 : ∀ b, inBlk (Value.pointer (some ⟨p131, 0, none⟩)) b → ¬ inBlk (Value.pointer (some ⟨p74, 0, none⟩)) b := disNew n133.fresh k86.ltp
       have d137 : ∀ b, inBlk (Value.pointer (some ⟨p131, 0, none⟩)) b → ¬ inBlk v90 b := disNew n133.fresh (fun b hb => (h91.lt b hb).2)
       have d138 : ∀ b, inBlk (Value.pointer (some ⟨p131, 0, none⟩)) b → ¬ inBlk (Value.pointer (some ⟨p16, 0, none⟩)) b := disNew n133.fresh k96.ltp
       have d139 : ∀ b, inBlk (Value.pointer (some ⟨p131, 0, none⟩)) b → ¬ inBlk v93 b := disNew n133.fresh h94.ltp
       have d140 : ∀ b, inBlk (Value.pointer (some ⟨p131, 0, none⟩)) b → ¬ inBlk (Value.pointer (some ⟨p5, 0, none⟩)) b := disNew n133.fresh k95.ltp
       have ah0 := slRep.st k_Slice_pos ah0 n133.ch (admNew n133.fresh (fun _ x => x))
       have gp1n : (G F w.heap.size (un (inBlk (Value.pointer (some ⟨p131, 0, none⟩))) (un (inBlk (Value.pointer (some ⟨p74, 0, none⟩))) (un (inBlk v90) (un (inBlk (Value.pointer (some ⟨p16, 0, none⟩))) (un (inBlk v93) (un (inBlk (Value.pointer (some ⟨p5, 0, none⟩))) nb))))))) p1 := ⟨gp1.1, ((admNew n133.fresh (fun _ x => x)) _ k4.lt gp1.2).2⟩
       have k4 := k4.ch0 n133.ch
       have gp1 := gp1n
       have h72 := slRep.st k_Port_pos h72 n133.ch (admNew n133.fresh (fun _ x => x))
       have h73 := slRep.st k_Endpoint_pos h73 n133.ch (admNew n133.fresh (fun _ x => x))
       have k86 := k86.ch0 n133.ch
       have h91 := h91.st n133.ch (fun _ _ x => x) (admNew n133.fresh (fun _ x => x)) (fun b h => (.inr (.inr (.inl h))))
       have h94 := h94.ch0 n133.ch
       have k95 := k95.ch0 n133.ch
       have k96 := k96.ch0 n133.ch
       have c120 := c120.then0 n133.ch
       refine rl_storeA (vs := (Port.enc x117)) rfl rfl (all_one rfl) Try.sizeOf83 rfl k134 rfl ?_
       intro w141 s143 c142 k144
       have ad145 : ∀ b, b < w132.heap.size → ¬ (un (inBlk (Value.pointer (some ⟨p131, 0, none⟩))) (un (inBlk (Value.pointer (some ⟨p74, 0, none⟩))) (un (inBlk v90) (un (inBlk (Value.pointer (some ⟨p16, 0, none⟩))) (un (inBlk v93) (un (inBlk (Value.pointer (some ⟨p5, 0, none⟩))) nb)))))) b → ¬ (inBlk (Value.pointer (some ⟨p131, 0, none⟩))) b ∧ ¬ (un (inBlk (Value.pointer (some ⟨p131, 0, none⟩))) (un (inBlk (Value.pointer (some ⟨p74, 0, none⟩))) (un (inBlk v90) (un (inBlk (Value.pointer (some ⟨p16, 0, none⟩))) (un (inBlk v93) (un (inBlk (Value.pointer (some ⟨p5, 0, none⟩))) nb)))))) b := fun b _ hs => ⟨fun h => hs (.inl h), hs⟩
       have ah0 := slRep.st k_Slice_pos ah0 c142 ad145
       have k4 := k4.ch c142 (ad145 _ k4.lt gp1.2).1
       have h72 := slRep.st k_Port_pos h72 c142 ad145
       have h73 := slRep.st k_Endpoint_pos h73 c142 ad145
       have k86 := k86.ch c142 ((fun b hb h => (disSym d136) b hb h) _ rfl)
       have h91 := h91.st c142 (fun b hb h => (disSym d137) b hb h) ad145 (fun b h => (.inr (.inr (.inl h))))
       have h94 := h94.ch c142 ((fun b hb h => (disSym d139) b hb h))
       have k95 := k95.ch c142 ((fun b hb h => (disSym d140) b hb h) _ rfl)
       have k96 := k96.ch c142 ((fun b hb h => (disSym d138) b hb h) _ rfl)
       have c120 := c120.then c142 (fun i hi h => absurd (lo135 i h) (Nat.not_le_of_lt hi))
       refine RL.nil ?_
       refine thn_n ?_
       refine CW.seq ?_
       refine CW.seq (CW.region ?_)
       refine rl_loadA (cs := (Want.enc a1)) rfl Try.isAgg24 Try.sizeOf24 (k4.segAt 0 7) rfl rfl ?_
       refine rl_loadA (cs := (Port.enc x117)) rfl Try.isAgg83 Try.sizeOf83 (k144.segAt 0 4) rfl rfl ?_
       obtain ⟨y148, hy149⟩ : ∃ y, F36_pick_Want_matches a1 x117 = y := ⟨_, rfl⟩
       have hb114 := ltS hy149 hb114
       refine rl_callF rfl en36 rfl (ctr36 (G F w.heap.size (un (inBlk (Value.pointer (some ⟨p131, 0, none⟩))) (un (inBlk (Value.pointer (some ⟨p74, 0, none⟩))) (un (inBlk v90) (un (inBlk (Value.pointer (some ⟨p16, 0, none⟩))) (un (inBlk v93) (un (inBlk (Value.pointer (some ⟨p5, 0, none⟩))) nb))))))) w141 a1 x117 y148 hy149) ?_
       rintro _ w146 ⟨rfl, c147⟩
       have ah0 := slRep.ch k_Slice_pos ah0 c147
       have k4 := k4.ch0 c147
       have h72 := slRep.ch k_Port_pos h72 c147
       have h73 := slRep.ch k_Endpoint_pos h73 c147
       have k86 := k86.ch0 c147
       have h91 := h91.ch0 c147
       have h94 := h94.ch0 c147
       have k95 := k95.ch0 c147
       have k96 := k96.ch0 c147
       have k144 := k144.ch0 c147
       have c120 := c120.then0 c147
       refine rl_not rfl rfl ?_
       refine RL.nil ?_
       refine thn_n ?_
       refine CW.cond (t := !y148) rfl (fun q150 => ?_) (fun q150 => ?_)
       ·
        have hb114 := ifT q150 hb114
        refine CW.exit ?_
        refine thn_exit ?_
        refine inB_hit ?_
        refine thn_n ?_
        refine CW.region ?_
        refine rl_inc rfl hat111.lt h72.big rfl ?_
        refine rl_move rfl rfl ?_
        refine RL.nil ?_
        refine thn_n ?_
        have crf : Ch nb w146 w146 := Ch.refl
        have ah0 := slRep.st k_Slice_pos ah0 crf (show ∀ b, b < w146.heap.size → ¬ (un (inBlk (Value.pointer (some ⟨p131, 0, none⟩))) (un (inBlk (Value.pointer (some ⟨p74, 0, none⟩))) (un (inBlk v90) (un (inBlk (Value.pointer (some ⟨p16, 0, none⟩))) (un (inBlk v93) (un (inBlk (Value.pointer (some ⟨p5, 0, none⟩))) nb)))))) b → ¬ nb b ∧ ¬ (un (inBlk (Value.pointer (some ⟨p74, 0, none⟩))) (un (inBlk v90) (un (inBlk (Value.pointer (some ⟨p16, 0, none⟩))) (un (inBlk v93) (un (inBlk (Value.pointer (some ⟨p5, 0, none⟩))) nb))))) b from fun b _ hs => ⟨fun x => x, fun h => hs (un_el h (fun h => (.inr (.inl h))) (fun h => un_el h (fun h => (.inr (.inr (.inl h)))) (fun h => un_el h (fun h => (.inr (.inr (.inr (.inl h))))) (fun h => un_el h (fun h => (.inr (.inr (.inr (.inr (.inl h)))))) (fun h => un_el h (fun h => (.inr (.inr (.inr (.inr (.inr (.inl h))))))) (fun h => False.elim h))))))⟩)
        have gp1n : (G F w.heap.size (un (inBlk (Value.pointer (some ⟨p74, 0, none⟩))) (un (inBlk v90) (un (inBlk (Value.pointer (some ⟨p16, 0, none⟩))) (un (inBlk v93) (un (inBlk (Value.pointer (some ⟨p5, 0, none⟩))) nb)))))) p1 := ⟨gp1.1, ((show ∀ b, b < w146.heap.size → ¬ (un (inBlk (Value.pointer (some ⟨p131, 0, none⟩))) (un (inBlk (Value.pointer (some ⟨p74, 0, none⟩))) (un (inBlk v90) (un (inBlk (Value.pointer (some ⟨p16, 0, none⟩))) (un (inBlk v93) (un (inBlk (Value.pointer (some ⟨p5, 0, none⟩))) nb)))))) b → ¬ nb b ∧ ¬ (un (inBlk (Value.pointer (some ⟨p74, 0, none⟩))) (un (inBlk v90) (un (inBlk (Value.pointer (some ⟨p16, 0, none⟩))) (un (inBlk v93) (un (inBlk (Value.pointer (some ⟨p5, 0, none⟩))) nb))))) b from fun b _ hs => ⟨fun x => x, fun h => hs (un_el h (fun h => (.inr (.inl h))) (fun h => un_el h (fun h => (.inr (.inr (.inl h)))) (fun h => un_el h (fun h => (.inr (.inr (.inr (.inl h))))) (fun h => un_el h (fun h => (.inr (.inr (.inr (.inr (.inl h)))))) (fun h => un_el h (fun h => (.inr (.inr (.inr (.inr (.inr (.inl h))))))) (fun h => False.elim h))))))⟩) _ k4.lt gp1.2).2⟩
        have k4 := k4.ch0 crf
        have gp1 := gp1n
        have h72 := slRep.st k_Port_pos h72 crf (show ∀ b, b < w146.heap.size → ¬ (un (inBlk (Value.pointer (some ⟨p131, 0, none⟩))) (un (inBlk (Value.pointer (some ⟨p74, 0, none⟩))) (un (inBlk v90) (un (inBlk (Value.pointer (some ⟨p16, 0, none⟩))) (un (inBlk v93) (un (inBlk (Value.pointer (some ⟨p5, 0, none⟩))) nb)))))) b → ¬ nb b ∧ ¬ (un (inBlk (Value.pointer (some ⟨p74, 0, none⟩))) (un (inBlk v90) (un (inBlk (Value.pointer (some ⟨p16, 0, none⟩))) (un (inBlk v93) (un (inBlk (Value.pointer (some ⟨p5, 0, none⟩))) nb))))) b from fun b _ hs => ⟨fun x => x, fun h => hs (un_el h (fun h => (.inr (.inl h))) (fun h => un_el h (fun h => (.inr (.inr (.inl h)))) (fun h => un_el h (fun h => (.inr (.inr (.inr (.inl h))))) (fun h => un_el h (fun h => (.inr (.inr (.inr (.inr (.inl h)))))) (fun h => un_el h (fun h => (.inr (.inr (.inr (.inr (.inr (.inl h))))))) (fun h => False.elim h))))))⟩)
        have h73 := slRep.st k_Endpoint_pos h73 crf (show ∀ b, b < w146.heap.size → ¬ (un (inBlk (Value.pointer (some ⟨p131, 0, none⟩))) (un (inBlk (Value.pointer (some ⟨p74, 0, none⟩))) (un (inBlk v90) (un (inBlk (Value.pointer (some ⟨p16, 0, none⟩))) (un (inBlk v93) (un (inBlk (Value.pointer (some ⟨p5, 0, none⟩))) nb)))))) b → ¬ nb b ∧ ¬ (un (inBlk (Value.pointer (some ⟨p74, 0, none⟩))) (un (inBlk v90) (un (inBlk (Value.pointer (some ⟨p16, 0, none⟩))) (un (inBlk v93) (un (inBlk (Value.pointer (some ⟨p5, 0, none⟩))) nb))))) b from fun b _ hs => ⟨fun x => x, fun h => hs (un_el h (fun h => (.inr (.inl h))) (fun h => un_el h (fun h => (.inr (.inr (.inl h)))) (fun h => un_el h (fun h => (.inr (.inr (.inr (.inl h))))) (fun h => un_el h (fun h => (.inr (.inr (.inr (.inr (.inl h)))))) (fun h => un_el h (fun h => (.inr (.inr (.inr (.inr (.inr (.inl h))))))) (fun h => False.elim h))))))⟩)
        have k86 := k86.ch0 crf
        have h91 := h91.st crf (fun _ _ x => x) (show ∀ b, b < w146.heap.size → ¬ (un (inBlk (Value.pointer (some ⟨p131, 0, none⟩))) (un (inBlk (Value.pointer (some ⟨p74, 0, none⟩))) (un (inBlk v90) (un (inBlk (Value.pointer (some ⟨p16, 0, none⟩))) (un (inBlk v93) (un (inBlk (Value.pointer (some ⟨p5, 0, none⟩))) nb)))))) b → ¬ nb b ∧ ¬ (un (inBlk (Value.pointer (some ⟨p74, 0, none⟩))) (un (inBlk v90) (un (inBlk (Value.pointer (some ⟨p16, 0, none⟩))) (un (inBlk v93) (un (inBlk (Value.pointer (some ⟨p5, 0, none⟩))) nb))))) b from fun b _ hs => ⟨fun x => x, fun h => hs (un_el h (fun h => (.inr (.inl h))) (fun h => un_el h (fun h => (.inr (.inr (.inl h)))) (fun h => un_el h (fun h => (.inr (.inr (.inr (.inl h))))) (fun h => un_el h (fun h => (.inr (.inr (.inr (.inr (.inl h)))))) (fun h => un_el h (fun h => (.inr (.inr (.inr (.inr (.inr (.inl h))))))) (fun h => False.elim h))))))⟩) (fun b h => (.inr (.inl h)))
        have h94 := h94.ch0 crf
        have k95 := k95.ch0 crf
        have k96 := k96.ch0 crf
        have c120 := c120.then0 crf
        have hLn := runAO_next hL110 hq113 hb114
        exact ⟨rest124.length, Nat.lt_succ_self _, [(3, (Value.pointer (some ⟨p1, 0, none⟩))), (5, (Value.pointer (some ⟨p5, 0, none⟩))), (7, (Value.func (.func 35) #[] [(Value.pointer (some ⟨p16, 0, none⟩)), (Value.pointer (some ⟨p5, 0, none⟩))].toArray)), (9, (Value.pointer (some ⟨p74, 0, none⟩))), (16, av0), (17, (Value.int .i64 ((a0.length : Nat) : Int))), (18, (Value.int .i64 ((i48 : Nat) : Int))), (28, z70), (29, (Value.int .i64 ((x56.ports.length : Nat) : Int))), (30, (Value.int .i64 ((i109 + 1 : Nat) : Int)))], ⟨rfl, rfl, rfl, rfl, rfl, rfl, rfl, rfl, rfl, rfl, trivial⟩, ⟨rest124, i109 + 1, x89, v90, x92, v93, rfl, rfl, c120, hat111.next, hLn, ah0, k4, h72, h73, k86, h91, h94, k95, k96, gp1, d98, d99, d100, d101, d102, d103, d104, d105, d106, d107, lo97⟩⟩
       ·
        have hb114 := ifF q150 hb114
        refine CW.skip ?_
        refine thn_n ?_
        refine CW.seq (CW.region ?_)
        refine rl_fieldAddr rfl fa71_4 rfl ?_
        refine rl_loadS (v := z71) rfl Try.isAgg69 (k86.cell rfl) rfl ?_
        refine rl_lenR rfl h73 Try.underlying69 rfl ?_
        refine rl_move rfl rfl ?_
        refine RL.nil ?_
        refine thn_n ?_
        obtain ⟨o182, ho183, hb114⟩ := bindS hb114
        refine CW.cutB (fun E' w' => ∃ (x151 : (List Candidate)) (v152 : Value) (x154 : (List (Point × St79))) (v155 : Value), Sub [(3, (Value.pointer (some ⟨p1, 0, none⟩))), (5, (Value.pointer (some ⟨p5, 0, none⟩))), (7, (Value.func (.func 35) #[] [(Value.pointer (some ⟨p16, 0, none⟩)), (Value.pointer (some ⟨p5, 0, none⟩))].toArray)), (9, (Value.pointer (some ⟨p74, 0, none⟩))), (16, av0), (17, (Value.int .i64 ((a0.length : Nat) : Int))), (18, (Value.int .i64 ((i48 : Nat) : Int))), (28, z70), (29, (Value.int .i64 ((x56.ports.length : Nat) : Int))), (30, (Value.int .i64 ((i109 : Nat) : Int)))] E' ∧ Ch nb w w' ∧ (x151, x154) = o182 ∧ slRep k_Slice (G F w.heap.size (un (inBlk (Value.pointer (some ⟨p131, 0, none⟩))) (un (inBlk (Value.pointer (some ⟨p74, 0, none⟩))) (un (inBlk v152) (un (inBlk (Value.pointer (some ⟨p16, 0, none⟩))) (un (inBlk v155) (un (inBlk (Value.pointer (some ⟨p5, 0, none⟩))) nb))))))) w' a0 av0 ∧ Blk w' p1 24 (Want.enc a1) ∧ slRep k_Port (G F w.heap.size (un (inBlk (Value.pointer (some ⟨p131, 0, none⟩))) (un (inBlk (Value.pointer (some ⟨p74, 0, none⟩))) (un (inBlk v152) (un (inBlk (Value.pointer (some ⟨p16, 0, none⟩))) (un (inBlk v155) (un (inBlk (Value.pointer (some ⟨p5, 0, none⟩))) nb))))))) w' x56.ports z70 ∧ slRep k_Endpoint (G F w.heap.size (un (inBlk (Value.pointer (some ⟨p131, 0, none⟩))) (un (inBlk (Value.pointer (some ⟨p74, 0, none⟩))) (un (inBlk v152) (un (inBlk (Value.pointer (some ⟨p16, 0, none⟩))) (un (inBlk v155) (un (inBlk (Value.pointer (some ⟨p5, 0, none⟩))) nb))))))) w' x56.endpoints z71 ∧ Blk w' p74 71 (Slice.c x56 z70 z71) ∧ Blk w' p131 83 (Port.enc x117) ∧ SlO k_Candidate 44 F w.heap.size (un (inBlk (Value.pointer (some ⟨p131, 0, none⟩))) (un (inBlk (Value.pointer (some ⟨p74, 0, none⟩))) (un (inBlk v152) (un (inBlk (Value.pointer (some ⟨p16, 0, none⟩))) (un (inBlk v155) (un (inBlk (Value.pointer (some ⟨p5, 0, none⟩))) nb)))))) w' x151 v152 ∧ Mp (fun x => Value.agg (Point.enc x).toArray) (fun x => Value.agg (St79.enc x).toArray) w' x154 v155 ∧ Blk w' p5 22 [v152] ∧ Blk w' p16 78 [v155] ∧ (G F w.heap.size (un (inBlk (Value.pointer (some ⟨p131, 0, none⟩))) (un (inBlk (Value.pointer (some ⟨p74, 0, none⟩))) (un (inBlk v152) (un (inBlk (Value.pointer (some ⟨p16, 0, none⟩))) (un (inBlk v155) (un (inBlk (Value.pointer (some ⟨p5, 0, none⟩))) nb))))))) p1 ∧ (∀ b, inBlk (Value.pointer (some ⟨p131, 0, none⟩)) b → ¬ inBlk (Value.pointer (some ⟨p74, 0, none⟩)) b) ∧ (∀ b, inBlk (Value.pointer (some ⟨p131, 0, none⟩)) b → ¬ inBlk v152 b) ∧ (∀ b, inBlk (Value.pointer (some ⟨p131, 0, none⟩)) b → ¬ inBlk (Value.pointer (some ⟨p16, 0, none⟩)) b) ∧ (∀ b, inBlk (Value.pointer (some ⟨p131, 0, none⟩)) b → ¬ inBlk v155 b) ∧ (∀ b, inBlk (Value.pointer (some ⟨p131, 0, none⟩)) b → ¬ inBlk (Value.pointer (some ⟨p5, 0, none⟩)) b) ∧ (∀ b, inBlk (Value.pointer (some ⟨p74, 0, none⟩)) b → ¬ inBlk v152 b) ∧ (∀ b, inBlk (Value.pointer (some ⟨p74, 0, none⟩)) b → ¬ inBlk (Value.pointer (some ⟨p16, 0, none⟩)) b) ∧ (∀ b, inBlk (Value.pointer (some ⟨p74, 0, none⟩)) b → ¬ inBlk v155 b) ∧ (∀ b, inBlk (Value.pointer (some ⟨p74, 0, none⟩)) b → ¬ inBlk (Value.pointer (some ⟨p5, 0, none⟩)) b) ∧ (∀ b, inBlk v152 b → ¬ inBlk (Value.pointer (some ⟨p16, 0, none⟩)) b) ∧ (∀ b, inBlk v152 b → ¬ inBlk v155 b) ∧ (∀ b, inBlk v152 b → ¬ inBlk (Value.pointer (some ⟨p5, 0, none⟩)) b) ∧ (∀ b, inBlk (Value.pointer (some ⟨p16, 0, none⟩)) b → ¬ inBlk v155 b) ∧ (∀ b, inBlk (Value.pointer (some ⟨p16, 0, none⟩)) b → ¬ inBlk (Value.pointer (some ⟨p5, 0, none⟩)) b) ∧ (∀ b, inBlk v155 b → ¬ inBlk (Value.pointer (some ⟨p5, 0, none⟩)) b) ∧ (∀ b, inBlk v155 b → w.heap.size ≤ b)) ?_ ?_
        ·
         refine CW.loopS [(3, (Value.pointer (some ⟨p1, 0, none⟩))), (5, (Value.pointer (some ⟨p5, 0, none⟩))), (7, (Value.func (.func 35) #[] [(Value.pointer (some ⟨p16, 0, none⟩)), (Value.pointer (some ⟨p5, 0, none⟩))].toArray)), (9, (Value.pointer (some ⟨p74, 0, none⟩))), (11, (Value.pointer (some ⟨p131, 0, none⟩))), (16, av0), (17, (Value.int .i64 ((a0.length : Nat) : Int))), (18, (Value.int .i64 ((i48 : Nat) : Int))), (28, z70), (29, (Value.int .i64 ((x56.ports.length : Nat) : Int))), (30, (Value.int .i64 ((i109 : Nat) : Int))), (39, z71), (40, (Value.int .i64 ((x56.endpoints.length : Nat) : Int))), (41, (Value.int .i64 ((0 : Nat) : Int)))] ⟨rfl, rfl, rfl, rfl, rfl, rfl, rfl, rfl, rfl, rfl, rfl, rfl, rfl, rfl, trivial⟩ x56.endpoints.length (fun m E w' => ∃ (rest175 : List Endpoint) (i176 : Nat) (x151 : (List Candidate)) (v152 : Value) (x154 : (List (Point × St79))) (v155 : Value), m = rest175.length ∧ E = [(3, (Value.pointer (some ⟨p1, 0, none⟩))), (5, (Value.pointer (some ⟨p5, 0, none⟩))), (7, (Value.func (.func 35) #[] [(Value.pointer (some ⟨p16, 0, none⟩)), (Value.pointer (some ⟨p5, 0, none⟩))].toArray)), (9, (Value.pointer (some ⟨p74, 0, none⟩))), (11, (Value.pointer (some ⟨p131, 0, none⟩))), (16, av0), (17, (Value.int .i64 ((a0.length : Nat) : Int))), (18, (Value.int .i64 ((i48 : Nat) : Int))), (28, z70), (29, (Value.int .i64 ((x56.ports.length : Nat) : Int))), (30, (Value.int .i64 ((i109 : Nat) : Int))), (39, z71), (40, (Value.int .i64 ((x56.endpoints.length : Nat) : Int))), (41, (Value.int .i64 ((i176 : Nat) : Int)))] ∧ Ch nb w w' ∧ At x56.endpoints i176 rest175 ∧ runAO (F18_pick_Candidates_b3 a1 x117) rest175 (x151, x154) = some o182 ∧ slRep k_Slice (G F w.heap.size (un (inBlk (Value.pointer (some ⟨p131, 0, none⟩))) (un (inBlk (Value.pointer (some ⟨p74, 0, none⟩))) (un (inBlk v152) (un (inBlk (Value.pointer (some ⟨p16, 0, none⟩))) (un (inBlk v155) (un (inBlk (Value.pointer (some ⟨p5, 0, none⟩))) nb))))))) w' a0 av0 ∧ Blk w' p1 24 (Want.enc a1) ∧ slRep k_Port (G F w.heap.size (un (inBlk (Value.pointer (some ⟨p131, 0, none⟩))) (un (inBlk (Value.pointer (some ⟨p74, 0, none⟩))) (un (inBlk v152) (un (inBlk (Value.pointer (some ⟨p16, 0, none⟩))) (un (inBlk v155) (un (inBlk (Value.pointer (some ⟨p5, 0, none⟩))) nb))))))) w' x56.ports z70 ∧ slRep k_Endpoint (G F w.heap.size (un (inBlk (Value.pointer (some ⟨p131, 0, none⟩))) (un (inBlk (Value.pointer (some ⟨p74, 0, none⟩))) (un (inBlk v152) (un (inBlk (Value.pointer (some ⟨p16, 0, none⟩))) (un (inBlk v155) (un (inBlk (Value.pointer (some ⟨p5, 0, none⟩))) nb))))))) w' x56.endpoints z71 ∧ Blk w' p74 71 (Slice.c x56 z70 z71) ∧ Blk w' p131 83 (Port.enc x117) ∧ SlO k_Candidate 44 F w.heap.size (un (inBlk (Value.pointer (some ⟨p131, 0, none⟩))) (un (inBlk (Value.pointer (some ⟨p74, 0, none⟩))) (un (inBlk v152) (un (inBlk (Value.pointer (some ⟨p16, 0, none⟩))) (un (inBlk v155) (un (inBlk (Value.pointer (some ⟨p5, 0, none⟩))) nb)))))) w' x151 v152 ∧ Mp (fun x => Value.agg (Point.enc x).toArray) (fun x => Value.agg (St79.enc x).toArray) w' x154 v155 ∧ Blk w' p5 22 [v152] ∧ Blk w' p16 78 [v155] ∧ (G F w.heap.size (un (inBlk (Value.pointer (some ⟨p131, 0, none⟩))) (un (inBlk (Value.pointer (some ⟨p74, 0, none⟩))) (un (inBlk v152) (un (inBlk (Value.pointer (some ⟨p16, 0, none⟩))) (un (inBlk v155) (un (inBlk (Value.pointer (some ⟨p5, 0, none⟩))) nb))))))) p1 ∧ (∀ b, inBlk (Value.pointer (some ⟨p131, 0, none⟩)) b → ¬ inBlk (Value.pointer (some ⟨p74, 0, none⟩)) b) ∧ (∀ b, inBlk (Value.pointer (some ⟨p131, 0, none⟩)) b → ¬ inBlk v152 b) ∧ (∀ b, inBlk (Value.pointer (some ⟨p131, 0, none⟩)) b → ¬ inBlk (Value.pointer (some ⟨p16, 0, none⟩)) b) ∧ (∀ b, inBlk (Value.pointer (some ⟨p131, 0, none⟩)) b → ¬ inBlk v155 b) ∧ (∀ b, inBlk (Value.pointer (some ⟨p131, 0, none⟩)) b → ¬ inBlk (Value.pointer (some ⟨p5, 0, none⟩)) b) ∧ (∀ b, inBlk (Value.pointer (some ⟨p74, 0, none⟩)) b → ¬ inBlk v152 b) ∧ (∀ b, inBlk (Value.pointer (some ⟨p74, 0, none⟩)) b → ¬ inBlk (Value.pointer (some ⟨p16, 0, none⟩)) b) ∧ (∀ b, inBlk (Value.pointer (some ⟨p74, 0, none⟩)) b → ¬ inBlk v155 b) ∧ (∀ b, inBlk (Value.pointer (some ⟨p74, 0, none⟩)) b → ¬ inBlk (Value.pointer (some ⟨p5, 0, none⟩)) b) ∧ (∀ b, inBlk v152 b → ¬ inBlk (Value.pointer (some ⟨p16, 0, none⟩)) b) ∧ (∀ b, inBlk v152 b → ¬ inBlk v155 b) ∧ (∀ b, inBlk v152 b → ¬ inBlk (Value.pointer (some ⟨p5, 0, none⟩)) b) ∧ (∀ b, inBlk (Value.pointer (some ⟨p16, 0, none⟩)) b → ¬ inBlk v155 b) ∧ (∀ b, inBlk (Value.pointer (some ⟨p16, 0, none⟩)) b → ¬ inBlk (Value.pointer (some ⟨p5, 0, none⟩)) b) ∧ (∀ b, inBlk v155 b → ¬ inBlk (Value.pointer (some ⟨p5, 0, none⟩)) b) ∧ (∀ b, inBlk v155 b → w.heap.size ≤ b))
             ⟨x56.endpoints, 0, x89, v90, x92, v93, rfl, rfl, c120, At.start, ho183, ah0, k4, h72, h73, k86, k144, h91, h94, k95, k96, gp1, d136, d137, d138, d139, d140, d98, d99, d100, d101, d102, d103, d104, d105, d106, d107, lo97⟩ ?_
         rintro _ _ w188 ⟨rest175, i176, x151, v152, x154, v155, rfl, rfl, c187, hat178, hL177, ah0, k4, h72, h73, k86, k144, h153, h156, k157, k158, gp1, d160, d161, d162, d163, d164, d165, d166, d167, d168, d169, d170, d171, d172, d173, d174, lo159⟩
         refine CW.seq (CW.region ?_)
         refine rl_bin rfl rfl B.lss rfl ?_
         refine RL.nil (thn_n ?_)
         refine CW.seq ?_
         refine CW.cond (t := decide (((i176 : Nat) : Int) < ((x56.endpoints.length : Nat) : Int))) rfl (fun q190 => ?_) (fun q190 => ?_)
         ·
          obtain ⟨x184, rest191, rfl⟩ := hat178.cons q190
          obtain ⟨q179, hq180⟩ := runAO_some hL177
          have hb181 := hq180
          refine CW.skip (thn_n ?_)
          refine CW.seq ?_
          refine CW.block ?_
          refine CW.seq (CW.region ?_)
          refine rl_ixR rfl h73 rfl hat178.get Try.underlying69 Try.sizeOf86 rfl ?_
          intro p192 o193 cs194 hr195 hs196 hg197
          obtain ⟨z198, rfl, h199⟩ := hr195
          refine rl_loadA (cs := (Endpoint.c x184 z198)) rfl Try.isAgg86 Try.sizeOf86 (hs196) rfl rfl ?_
          refine rl_alloc (Endpoint.c Endpoint.z (Value.slice none 0 0)) Try.zeroValue86 rfl rfl ?_
          intro p200 w201 n202 k203
          have lo204 : ∀ b, inBlk (Value.pointer (some ⟨p200, 0, none⟩)) b → w.heap.size ≤ b := fun b h => Nat.le_trans c187.size (n202.fresh b h)
          have d205 : ∀ b, inBlk (Value.pointer (some ⟨p200, 0, none⟩)) b → ¬ inBlk (Value.pointer (some ⟨p131, 0, none⟩)) b := disNew n202.fresh k144.ltp
          have d206 : ∀ b, inBlk (Value.pointer (some ⟨p200, 0, none⟩)) b → ¬ inBlk (Value.pointer (some ⟨p74, 0, none⟩)) b := disNew n202.fresh k86.ltp
          have d207 : ∀ b, inBlk (Value.pointer (some ⟨p200, 0, none⟩)) b → ¬ inBlk v152 b := disNew n202.fresh (fun b hb => (h153.lt b hb).2)
          have d208 : ∀ b, inBlk (Value.pointer (some ⟨p200, 0, none⟩)) b → ¬ inBlk (Value.pointer (some ⟨p16, 0, none⟩)) b := disNew n202.fresh k158.ltp
          have d209 : ∀ b, inBlk (Value.pointer (some ⟨p200, 0, none⟩)) b → ¬ inBlk v155 b := disNew n202.fresh h156.ltp
          have d210 : ∀ b, inBlk (Value.pointer (some ⟨p200, 0, none⟩)) b → ¬ inBlk (Value.pointer (some ⟨p5, 0, none⟩)) b := disNew n202.fresh k157.ltp
          have ah0 := slRep.st k_Slice_pos ah0 n202.ch (admNew n202.fresh (fun _ x => x))
          have gp1n : (G F w.heap.size (un (inBlk (Value.pointer (some ⟨p200, 0, none⟩))) (un (inBlk (Value.pointer (some ⟨p131, 0, none⟩))) (un (inBlk (Value.pointer (some ⟨p74, 0, none⟩))) (un (inBlk v152) (un (inBlk (Value.pointer (some ⟨p16, 0, none⟩))) (un (inBlk v155) (un (inBlk (Value.pointer (some ⟨p5, 0, none⟩))) nb)))))))) p1 := ⟨gp1.1, ((admNew n202.fresh (fun _ x => x)) _ k4.lt gp1.2).2⟩
          have k4 := k4.ch0 n202.ch
          have gp1 := gp1n
          have h72 := slRep.st k_Port_pos h72 n202.ch (admNew n202.fresh (fun _ x => x))
          have h73 := slRep.st k_Endpoint_pos h73 n202.ch (admNew n202.fresh (fun _ x => x))
          have k86 := k86.ch0 n202.ch
          have k144 := k144.ch0 n202.ch
          have h153 := h153.st n202.ch (fun _ _ x => x) (admNew n202.fresh (fun _ x => x)) (fun b h => (.inr (.inr (.inr (.inl h)))))
          have h156 := h156.ch0 n202.ch
          have k157 := k157.ch0 n202.ch
          have k158 := k158.ch0 n202.ch
          have h199 := slRep.st kStr_pos h199 n202.ch (admNew n202.fresh (fun _ x => x))
          have c187 := c187.then0 n202.ch
          refine rl_storeA (vs := (Endpoint.c x184 z198)) rfl rfl (Kd.one _ (show k_Endpoint.rep (G F w.heap.size (un (inBlk (Value.pointer (some ⟨p200, 0, none⟩))) (un (inBlk (Value.pointer (some ⟨p131, 0, none⟩))) (un (inBlk (Value.pointer (some ⟨p74, 0, none⟩))) (un (inBlk v152) (un (inBlk (Value.pointer (some ⟨p16, 0, none⟩))) (un (inBlk v155) (un (inBlk (Value.pointer (some ⟨p5, 0, none⟩))) nb)))))))) w201 x184 (Endpoint.c x184 z198) from ⟨z198, rfl, h199⟩)) Try.sizeOf86 rfl k203 rfl ?_
          intro w211 s213 c212 k214
          have ad215 : ∀ b, b < w201.heap.size → ¬ (un (inBlk (Value.pointer (some ⟨p200, 0, none⟩))) (un (inBlk (Value.pointer (some ⟨p131, 0, none⟩))) (un (inBlk (Value.pointer (some ⟨p74, 0, none⟩))) (un (inBlk v152) (un (inBlk (Value.pointer (some ⟨p16, 0, none⟩))) (un (inBlk v155) (un (inBlk (Value.pointer (some ⟨p5, 0, none⟩))) nb))))))) b → ¬ (inBlk (Value.pointer (some ⟨p200, 0, none⟩))) b ∧ ¬ (un (inBlk (Value.pointer (some ⟨p200, 0, none⟩))) (un (inBlk (Value.pointer (some ⟨p131, 0, none⟩))) (un (inBlk (Value.pointer (some ⟨p74, 0, none⟩))) (un (inBlk v152) (un (inBlk (Value.pointer (some ⟨p16, 0, none⟩))) (un (inBlk v155) (un (inBlk (Value.pointer (some ⟨p5, 0, none⟩))) nb))))))) b := fun b _ hs => ⟨fun h => hs (.inl h), hs⟩
          have ah0 := slRep.st k_Slice_pos ah0 c212 ad215
          have k4 := k4.ch c212 (ad215 _ k4.lt gp1.2).1
          have h72 := slRep.st k_Port_pos h72 c212 ad215
          have h73 := slRep.st k_Endpoint_pos h73 c212 ad215
          have k86 := k86.ch c212 ((fun b hb h => (disSym d206) b hb h) _ rfl)
          have k144 := k144.ch c212 ((fun b hb h => (disSym d205) b hb h) _ rfl)
          have h153 := h153.st c212 (fun b hb h => (disSym d207) b hb h) ad215 (fun b h => (.inr (.inr (.inr (.inl h)))))
          have h156 := h156.ch c212 ((fun b hb h => (disSym d209) b hb h))
          have k157 := k157.ch c212 ((fun b hb h => (disSym d210) b hb h) _ rfl)
          have k158 := k158.ch c212 ((fun b hb h => (disSym d208) b hb h) _ rfl)
          have h199 := slRep.st kStr_pos h199 c212 ad215
          have c187 := c187.then c212 (fun i hi h => absurd (lo204 i h) (Nat.not_le_of_lt hi))
          refine RL.nil ?_
          refine thn_n ?_
          refine CW.region ?_
          refine rl_move rfl rfl ?_
          refine rl_loadA (cs := (Want.enc a1)) rfl Try.isAgg24 Try.sizeOf24 (k4.segAt 0 7) rfl rfl ?_
          refine rl_loadA (cs := (Endpoint.c x184 z198)) rfl Try.isAgg86 Try.sizeOf86 (k214.segAt 0 22) rfl rfl ?_
          refine rl_fieldAddr rfl fa83_2 rfl ?_
          refine rl_loadS (v := (Value.int .i64 x117.port)) rfl Try.isAgg3 (k144.cell rfl) rfl ?_
          obtain ⟨y218, hy219, hb181⟩ := bindS hb181
          refine rl_callF rfl en37 rfl (ctr37 (G F w.heap.size (un (inBlk (Value.pointer (some ⟨p200, 0, none⟩))) (un (inBlk (Value.pointer (some ⟨p131, 0, none⟩))) (un (inBlk (Value.pointer (some ⟨p74, 0, none⟩))) (un (inBlk v152) (un (inBlk (Value.pointer (some ⟨p16, 0, none⟩))) (un (inBlk v155) (un (inBlk (Value.pointer (some ⟨p5, 0, none⟩))) nb)))))))) w211 a1 x184 z198 h199 x117.port y218 hy219) ?_
          rintro _ w216 ⟨z220, rfl, h221, c217⟩
          have h221 := slRep.back kStr_pos h221 (un_lt k214.ltp (un_lt k144.ltp (un_lt k86.ltp (un_lt (fun b hb => (h153.lt b hb).2) (un_lt k158.ltp (un_lt h156.ltp (un_lt k157.ltp nbS))))))) c187.size
          have ah0 := slRep.ch k_Slice_pos ah0 c217
          have k4 := k4.ch0 c217
          have h72 := slRep.ch k_Port_pos h72 c217
          have h73 := slRep.ch k_Endpoint_pos h73 c217
          have k86 := k86.ch0 c217
          have k144 := k144.ch0 c217
          have h153 := h153.ch0 c217
          have h156 := h156.ch0 c217
          have k157 := k157.ch0 c217
          have k158 := k158.ch0 c217
          have h199 := slRep.ch kStr_pos h199 c217
          have k214 := k214.ch0 c217
          have c187 := c187.then0 c217
          have hd222 : ∀ b, (un (inBlk (Value.pointer (some ⟨p16, 0, none⟩))) (un (inBlk v155) (un (inBlk (Value.pointer (some ⟨p5, 0, none⟩))) (inBlk v152)))) b → ¬ (un (inBlk (Value.pointer (some ⟨p200, 0, none⟩))) (un (inBlk (Value.pointer (some ⟨p131, 0, none⟩))) (un (inBlk (Value.pointer (some ⟨p74, 0, none⟩))) nb))) b := fun b h => un_el h (fun h => (fun b hb => fun h => un_el h (fun h => (disSym d208) b hb h) (fun h => un_el h (fun h => (disSym d162) b hb h) (fun h => un_el h (fun h => (disSym d166) b hb h) (fun h => h)))) b h) (fun h => un_el h (fun h => (fun b hb => fun h => un_el h (fun h => (disSym d209) b hb h) (fun h => un_el h (fun h => (disSym d163) b hb h) (fun h => un_el h (fun h => (disSym d167) b hb h) (fun h => h)))) b h) (fun h => un_el h (fun h => (fun b hb => fun h => un_el h (fun h => (disSym d210) b hb h) (fun h => un_el h (fun h => (disSym d164) b hb h) (fun h => un_el h (fun h => (disSym d168) b hb h) (fun h => h)))) b h) (fun h => (fun b hb => fun h => un_el h (fun h => (disSym d207) b hb h) (fun h => un_el h (fun h => (disSym d161) b hb h) (fun h => un_el h (fun h => (disSym d165) b hb h) (fun h => h)))) b h)))
          have hS223 : (un (inBlk (Value.pointer (some ⟨p200, 0, none⟩))) (un (inBlk (Value.pointer (some ⟨p131, 0, none⟩))) (un (inBlk (Value.pointer (some ⟨p74, 0, none⟩))) (un (inBlk v152) (un (inBlk (Value.pointer (some ⟨p16, 0, none⟩))) (un (inBlk v155) (un (inBlk (Value.pointer (some ⟨p5, 0, none⟩))) nb))))))) = (un (inBlk (Value.pointer (some ⟨p16, 0, none⟩))) (un (inBlk v155) (un (inBlk (Value.pointer (some ⟨p5, 0, none⟩))) (un (inBlk v152) (un (inBlk (Value.pointer (some ⟨p200, 0, none⟩))) (un (inBlk (Value.pointer (some ⟨p131, 0, none⟩))) (un (inBlk (Value.pointer (some ⟨p74, 0, none⟩))) nb))))))) := funext fun b => propext ⟨fun h => un_el h (fun h => (.inr (.inr (.inr (.inr (.inl h)))))) (fun h => un_el h (fun h => (.inr (.inr (.inr (.inr (.inr (.inl h))))))) (fun h => un_el h (fun h => (.inr (.inr (.inr (.inr (.inr (.inr (.inl h)))))))) (fun h => un_el h (fun h => (.inr (.inr (.inr (.inl h))))) (fun h => un_el h (fun h => (.inl h)) (fun h => un_el h (fun h => (.inr (.inl h))) (fun h => un_el h (fun h => (.inr (.inr (.inl h)))) (fun h => False.elim h))))))), fun h => un_el h (fun h => (.inr (.inr (.inr (.inr (.inl h)))))) (fun h => un_el h (fun h => (.inr (.inr (.inr (.inr (.inr (.inl h))))))) (fun h => un_el h (fun h => (.inr (.inr (.inr (.inr (.inr (.inr (.inl h)))))))) (fun h => un_el h (fun h => (.inr (.inr (.inr (.inl h))))) (fun h => un_el h (fun h => (.inl h)) (fun h => un_el h (fun h => (.inr (.inl h))) (fun h => un_el h (fun h => (.inr (.inr (.inl h)))) (fun h => False.elim h)))))))⟩
          have ha224 := h221
          rw [hS223] at ha224
          obtain ⟨y227, hy228, hb181⟩ := bindS hb181
          refine rl_call rfl rfl en35 rfl (ctr35 F w216 w.heap.size (un (inBlk (Value.pointer (some ⟨p200, 0, none⟩))) (un (inBlk (Value.pointer (some ⟨p131, 0, none⟩))) (un (inBlk (Value.pointer (some ⟨p74, 0, none⟩))) nb))) c187.size (un_lt k214.ltp (un_lt k144.ltp (un_lt k86.ltp nbS))) p16 v155 p5 v152 hd222 d172 d173 (disSym d169) d174 (disSym d170) (disSym d171) y218 z220 ha224 x154 k158 h156 x151 k157 (hS223 ▸ h153) y227 hy228) ?_
          rintro _ w225 ⟨z229, z230, rfl, h231, h232, h233, h234, hf235, hf236, d237, d238, d239, d240, d241, c226⟩
          have lo242 : ∀ b, inBlk z229 b → w.heap.size ≤ b := fun b h => (hf235 b h).elim (fun h => un_el h (fun h => lo20 b h) (fun h => un_el h (fun h => lo159 b h) (fun h => un_el h (fun h => lo9 b h) (fun h => (fun b hb => (h153.lt b hb).1) b h)))) (Nat.le_trans c187.size)
          have d243 : ∀ b, inBlk z229 b → ¬ inBlk (Value.pointer (some ⟨p200, 0, none⟩)) b := fun b h hu => (hf235 b h).elim (fun h => un_el h (fun h => (disSym d208) b h hu) (fun h => un_el h (fun h => (disSym d209) b h hu) (fun h => un_el h (fun h => (disSym d210) b h hu) (fun h => (disSym d207) b h hu)))) (fun h => Nat.not_le_of_lt (k214.ltp b hu) h)
          have d244 : ∀ b, inBlk z229 b → ¬ inBlk (Value.pointer (some ⟨p131, 0, none⟩)) b := fun b h hu => (hf235 b h).elim (fun h => un_el h (fun h => (disSym d162) b h hu) (fun h => un_el h (fun h => (disSym d163) b h hu) (fun h => un_el h (fun h => (disSym d164) b h hu) (fun h => (disSym d161) b h hu)))) (fun h => Nat.not_le_of_lt (k144.ltp b hu) h)
          have d245 : ∀ b, inBlk z229 b → ¬ inBlk (Value.pointer (some ⟨p74, 0, none⟩)) b := fun b h hu => (hf235 b h).elim (fun h => un_el h (fun h => (disSym d166) b h hu) (fun h => un_el h (fun h => (disSym d167) b h hu) (fun h => un_el h (fun h => (disSym d168) b h hu) (fun h => (disSym d165) b h hu)))) (fun h => Nat.not_le_of_lt (k86.ltp b hu) h)
          have lo246 : ∀ b, inBlk z230 b → w.heap.size ≤ b := fun b h => (hf236 b h).elim (fun h => un_el h (fun h => lo20 b h) (fun h => un_el h (fun h => lo159 b h) (fun h => un_el h (fun h => lo9 b h) (fun h => (fun b hb => (h153.lt b hb).1) b h)))) (Nat.le_trans c187.size)
          have d247 : ∀ b, inBlk z230 b → ¬ inBlk (Value.pointer (some ⟨p200, 0, none⟩)) b := fun b h hu => (hf236 b h).elim (fun h => un_el h (fun h => (disSym d208) b h hu) (fun h => un_el h (fun h => (disSym d209) b h hu) (fun h => un_el h (fun h => (disSym d210) b h hu) (fun h => (disSym d207) b h hu)))) (fun h => Nat.not_le_of_lt (k214.ltp b hu) h)
          have d248 : ∀ b, inBlk z230 b → ¬ inBlk (Value.pointer (some ⟨p131, 0, none⟩)) b := fun b h hu => (hf236 b h).elim (fun h => un_el h (fun h => (disSym d162) b h hu) (fun h => un_el h (fun h => (disSym d163) b h hu) (fun h => un_el h (fun h => (disSym d164) b h hu) (fun h => (disSym d161) b h hu)))) (fun h => Nat.not_le_of_lt (k144.ltp b hu) h)
          have d249 : ∀ b, inBlk z230 b → ¬ inBlk (Value.pointer (some ⟨p74, 0, none⟩)) b := fun b h hu => (hf236 b h).elim (fun h => un_el h (fun h => (disSym d166) b h hu) (fun h => un_el h (fun h => (disSym d167) b h hu) (fun h => un_el h (fun h => (disSym d168) b h hu) (fun h => (disSym d165) b h hu)))) (fun h => Nat.not_le_of_lt (k86.ltp b hu) h)
          have hS250 : (un (inBlk (Value.pointer (some ⟨p200, 0, none⟩))) (un (inBlk (Value.pointer (some ⟨p131, 0, none⟩))) (un (inBlk (Value.pointer (some ⟨p74, 0, none⟩))) (un (inBlk z230) (un (inBlk (Value.pointer (some ⟨p16, 0, none⟩))) (un (inBlk z229) (un (inBlk (Value.pointer (some ⟨p5, 0, none⟩))) nb))))))) = (un (inBlk (Value.pointer (some ⟨p16, 0, none⟩))) (un (inBlk z229) (un (inBlk (Value.pointer (some ⟨p5, 0, none⟩))) (un (inBlk z230) (un (inBlk (Value.pointer (some ⟨p200, 0, none⟩))) (un (inBlk (Value.pointer (some ⟨p131, 0, none⟩))) (un (inBlk (Value.pointer (some ⟨p74, 0, none⟩))) nb))))))) := funext fun b => propext ⟨fun h => un_el h (fun h => (.inr (.inr (.inr (.inr (.inl h)))))) (fun h => un_el h (fun h => (.inr (.inr (.inr (.inr (.inr (.inl h))))))) (fun h => un_el h (fun h => (.inr (.inr (.inr (.inr (.inr (.inr (.inl h)))))))) (fun h => un_el h (fun h => (.inr (.inr (.inr (.inl h))))) (fun h => un_el h (fun h => (.inl h)) (fun h => un_el h (fun h => (.inr (.inl h))) (fun h => un_el h (fun h => (.inr (.inr (.inl h)))) (fun h => False.elim h))))))), fun h => un_el h (fun h => (.inr (.inr (.inr (.inr (.inl h)))))) (fun h => un_el h (fun h => (.inr (.inr (.inr (.inr (.inr (.inl h))))))) (fun h => un_el h (fun h => (.inr (.inr (.inr (.inr (.inr (.inr (.inl h)))))))) (fun h => un_el h (fun h => (.inr (.inr (.inr (.inl h))))) (fun h => un_el h (fun h => (.inl h)) (fun h => un_el h (fun h => (.inr (.inl h))) (fun h => un_el h (fun h => (.inr (.inr (.inl h)))) (fun h => False.elim h)))))))⟩
          rw [← hS250] at h234
          have ha251 : ∀ b, b < w216.heap.size → ¬ (un (inBlk (Value.pointer (some ⟨p200, 0, none⟩))) (un (inBlk (Value.pointer (some ⟨p131, 0, none⟩))) (un (inBlk (Value.pointer (some ⟨p74, 0, none⟩))) (un (inBlk v152) (un (inBlk (Value.pointer (some ⟨p16, 0, none⟩))) (un (inBlk v155) (un (inBlk (Value.pointer (some ⟨p5, 0, none⟩))) nb))))))) b → ¬ (un (inBlk (Value.pointer (some ⟨p16, 0, none⟩))) (un (inBlk v155) (un (inBlk (Value.pointer (some ⟨p5, 0, none⟩))) (inBlk v152)))) b ∧ ¬ (un (inBlk (Value.pointer (some ⟨p200, 0, none⟩))) (un (inBlk (Value.pointer (some ⟨p131, 0, none⟩))) (un (inBlk (Value.pointer (some ⟨p74, 0, none⟩))) (un (inBlk z230) (un (inBlk (Value.pointer (some ⟨p16, 0, none⟩))) (un (inBlk z229) (un (inBlk (Value.pointer (some ⟨p5, 0, none⟩))) nb))))))) b := fun b hb hs => ⟨fun h => un_el h (fun h => hs (.inr (.inr (.inr (.inr (.inl h)))))) (fun h => un_el h (fun h => hs (.inr (.inr (.inr (.inr (.inr (.inl h))))))) (fun h => un_el h (fun h => hs (.inr (.inr (.inr (.inr (.inr (.inr (.inl h)))))))) (fun h => hs (.inr (.inr (.inr (.inl h))))))), fun h => un_el h (fun h => hs (.inl h)) (fun h => un_el h (fun h => hs (.inr (.inl h))) (fun h => un_el h (fun h => hs (.inr (.inr (.inl h)))) (fun h => un_el h (fun h => (hf236 b h).elim (fun h => un_el h (fun h => hs (.inr (.inr (.inr (.inr (.inl h)))))) (fun h => un_el h (fun h => hs (.inr (.inr (.inr (.inr (.inr (.inl h))))))) (fun h => un_el h (fun h => hs (.inr (.inr (.inr (.inr (.inr (.inr (.inl h)))))))) (fun h => hs (.inr (.inr (.inr (.inl h)))))))) (fun h => Nat.not_le_of_lt hb h)) (fun h => un_el h (fun h => hs (.inr (.inr (.inr (.inr (.inl h)))))) (fun h => un_el h (fun h => (hf235 b h).elim (fun h => un_el h (fun h => hs (.inr (.inr (.inr (.inr (.inl h)))))) (fun h => un_el h (fun h => hs (.inr (.inr (.inr (.inr (.inr (.inl h))))))) (fun h => un_el h (fun h => hs (.inr (.inr (.inr (.inr (.inr (.inr (.inl h)))))))) (fun h => hs (.inr (.inr (.inr (.inl h)))))))) (fun h => Nat.not_le_of_lt hb h)) (fun h => un_el h (fun h => hs (.inr (.inr (.inr (.inr (.inr (.inr (.inl h)))))))) (fun h => False.elim h)))))))⟩
          have ah0 := slRep.st k_Slice_pos ah0 c226 ha251
          have gp1n : (G F w.heap.size (un (inBlk (Value.pointer (some ⟨p200, 0, none⟩))) (un (inBlk (Value.pointer (some ⟨p131, 0, none⟩))) (un (inBlk (Value.pointer (some ⟨p74, 0, none⟩))) (un (inBlk z230) (un (inBlk (Value.pointer (some ⟨p16, 0, none⟩))) (un (inBlk z229) (un (inBlk (Value.pointer (some ⟨p5, 0, none⟩))) nb)))))))) p1 := ⟨gp1.1, (ha251 _ k4.lt gp1.2).2⟩
          have k4 := k4.ch c226 (ha251 _ k4.lt gp1.2).1
          have gp1 := gp1n
          have h72 := slRep.st k_Port_pos h72 c226 ha251
          have h73 := slRep.st k_Endpoint_pos h73 c226 ha251
          have k86 := k86.ch c226 ((fun b hb h => un_el h (fun h => d166 b hb h) (fun h => un_el h (fun h => d167 b hb h) (fun h => un_el h (fun h => d168 b hb h) (fun h => d165 b hb h)))) _ rfl)
          have k144 := k144.ch c226 ((fun b hb h => un_el h (fun h => d162 b hb h) (fun h => un_el h (fun h => d163 b hb h) (fun h => un_el h (fun h => d164 b hb h) (fun h => d161 b hb h)))) _ rfl)
          have h199 := slRep.st kStr_pos h199 c226 ha251
          have k214 := k214.ch c226 ((fun b hb h => un_el h (fun h => d208 b hb h) (fun h => un_el h (fun h => d209 b hb h) (fun h => un_el h (fun h => d210 b hb h) (fun h => d207 b hb h)))) _ rfl)
          have h221 := slRep.st kStr_pos h221 c226 ha251
          have c187 := c187.then c226 (fun i hi h => un_el h (fun h => absurd (lo20 i h) (Nat.not_le_of_lt hi)) (fun h => un_el h (fun h => absurd (lo159 i h) (Nat.not_le_of_lt hi)) (fun h => un_el h (fun h => absurd (lo9 i h) (Nat.not_le_of_lt hi)) (fun h => absurd ((fun b hb => (h153.lt b hb).1) i h) (Nat.not_le_of_lt hi)))))
          refine RL.nil ?_
          refine inB_n ?_
          refine thn_n ?_
          refine CW.region ?_
          refine rl_inc rfl hat178.lt h73.big rfl ?_
          refine rl_move rfl rfl ?_
          refine RL.nil ?_
          refine thn_n ?_
          have crf : Ch nb w225 w225 := Ch.refl
          have ah0 := slRep.st k_Slice_pos ah0 crf (show ∀ b, b < w225.heap.size → ¬ (un (inBlk (Value.pointer (some ⟨p200, 0, none⟩))) (un (inBlk (Value.pointer (some ⟨p131, 0, none⟩))) (un (inBlk (Value.pointer (some ⟨p74, 0, none⟩))) (un (inBlk z230) (un (inBlk (Value.pointer (some ⟨p16, 0, none⟩))) (un (inBlk z229) (un (inBlk (Value.pointer (some ⟨p5, 0, none⟩))) nb))))))) b → ¬ nb b ∧ ¬ (un (inBlk (Value.pointer (some ⟨p131, 0, none⟩))) (un (inBlk (Value.pointer (some ⟨p74, 0, none⟩))) (un (inBlk z230) (un (inBlk (Value.pointer (some ⟨p16, 0, none⟩))) (un (inBlk z229) (un (inBlk (Value.pointer (some ⟨p5, 0, none⟩))) nb)))))) b from fun b _ hs => ⟨fun x => x, fun h => hs (un_el h (fun h => (.inr (.inl h))) (fun h => un_el h (fun h => (.inr (.inr (.inl h)))) (fun h => un_el h (fun h => (.inr (.inr (.inr (.inl h))))) (fun h => un_el h (fun h => (.inr (.inr (.inr (.inr (.inl h)))))) (fun h => un_el h (fun h => (.inr (.inr (.inr (.inr (.inr (.inl h))))))) (fun h => un_el h (fun h => (.inr (.inr (.inr (.inr (.inr (.inr (.inl h)))))))) (fun h => False.elim h)))))))⟩)
          have gp1n : (G F w.heap.size (un (inBlk (Value.pointer (some ⟨p131, 0, none⟩))) (un (inBlk (Value.pointer (some ⟨p74, 0, none⟩))) (un (inBlk z230) (un (inBlk (Value.pointer (some ⟨p16, 0, none⟩))) (un (inBlk z229) (un (inBlk (Value.pointer (some ⟨p5, 0, none⟩))) nb))))))) p1 := ⟨gp1.1, ((show ∀ b, b < w225.heap.size → ¬ (un (inBlk (Value.pointer (some ⟨p200, 0, none⟩))) (un (inBlk (Value.pointer (some ⟨p131, 0, none⟩))) (un (inBlk (Value.pointer (some ⟨p74, 0, none⟩))) (un (inBlk z230) (un (inBlk (Value.pointer (some ⟨p16, 0, none⟩))) (un (inBlk z229) (un (inBlk (Value.pointer (some ⟨p5, 0, none⟩))) nb))))))) b → ¬ nb b ∧ ¬ (un (inBlk (Value.pointer (some ⟨p131, 0, none⟩))) (un (inBlk (Value.pointer (some ⟨p74, 0, none⟩))) (un (inBlk z230) (un (inBlk (Value.pointer (some ⟨p16, 0, none⟩))) (un (inBlk z229) (un (inBlk (Value.pointer (some ⟨p5, 0, none⟩))) nb)))))) b from fun b _ hs => ⟨fun x => x, fun h => hs (un_el h (fun h => (.inr (.inl h))) (fun h => un_el h (fun h => (.inr (.inr (.inl h)))) (fun h => un_el h (fun h => (.inr (.inr (.inr (.inl h))))) (fun h => un_el h (fun h => (.inr (.inr (.inr (.inr (.inl h)))))) (fun h => un_el h (fun h => (.inr (.inr (.inr (.inr (.inr (.inl h))))))) (fun h => un_el h (fun h => (.inr (.inr (.inr (.inr (.inr (.inr (.inl h)))))))) (fun h => False.elim h)))))))⟩) _ k4.lt gp1.2).2⟩
          have k4 := k4.ch0 crf
          have gp1 := gp1n
          have h72 := slRep.st k_Port_pos h72 crf (show ∀ b, b < w225.heap.size → ¬ (un (inBlk (Value.pointer (some ⟨p200, 0, none⟩))) (un (inBlk (Value.pointer (some ⟨p131, 0, none⟩))) (un (inBlk (Value.pointer (some ⟨p74, 0, none⟩))) (un (inBlk z230) (un (inBlk (Value.pointer (some ⟨p16, 0, none⟩))) (un (inBlk z229) (un (inBlk (Value.pointer (some ⟨p5, 0, none⟩))) nb))))))) b → ¬ nb b ∧ ¬ (un (inBlk (Value.pointer (some ⟨p131, 0, none⟩))) (un (inBlk (Value.pointer (some ⟨p74, 0, none⟩))) (un (inBlk z230) (un (inBlk (Value.pointer (some ⟨p16, 0, none⟩))) (un (inBlk z229) (un (inBlk (Value.pointer (some ⟨p5, 0, none⟩))) nb)))))) b from fun b _ hs => ⟨fun x => x, fun h => hs (un_el h (fun h => (.inr (.inl h))) (fun h => un_el h (fun h => (.inr (.inr (.inl h)))) (fun h => un_el h (fun h => (.inr (.inr (.inr (.inl h))))) (fun h => un_el h (fun h => (.inr (.inr (.inr (.inr (.inl h)))))) (fun h => un_el h (fun h => (.inr (.inr (.inr (.inr (.inr (.inl h))))))) (fun h => un_el h (fun h => (.inr (.inr (.inr (.inr (.inr (.inr (.inl h)))))))) (fun h => False.elim h)))))))⟩)
          have h73 := slRep.st k_Endpoint_pos h73 crf (show ∀ b, b < w225.heap.size → ¬ (un (inBlk (Value.pointer (some ⟨p200, 0, none⟩))) (un (inBlk (Value.pointer (some ⟨p131, 0, none⟩))) (un (inBlk (Value.pointer (some ⟨p74, 0, none⟩))) (un (inBlk z230) (un (inBlk (Value.pointer (some ⟨p16, 0, none⟩))) (un (inBlk z229) (un (inBlk (Value.pointer (some ⟨p5, 0, none⟩))) nb))))))) b → ¬ nb b ∧ ¬ (un (inBlk (Value.pointer (some ⟨p131, 0, none⟩))) (un (inBlk (Value.pointer (some ⟨p74, 0, none⟩))) (un (inBlk z230) (un (inBlk (Value.pointer (some ⟨p16, 0, none⟩))) (un (inBlk z229) (un (inBlk (Value.pointer (some ⟨p5, 0, none⟩))) nb)))))) b from fun b _ hs => ⟨fun x => x, fun h => hs (un_el h (fun h => (.inr (.inl h))) (fun h => un_el h (fun h => (.inr (.inr (.inl h)))) (fun h => un_el h (fun h => (.inr (.inr (.inr (.inl h))))) (fun h => un_el h (fun h => (.inr (.inr (.inr (.inr (.inl h)))))) (fun h => un_el h (fun h => (.inr (.inr (.inr (.inr (.inr (.inl h))))))) (fun h => un_el h (fun h => (.inr (.inr (.inr (.inr (.inr (.inr (.inl h)))))))) (fun h => False.elim h)))))))⟩)
          have k86 := k86.ch0 crf
          have k144 := k144.ch0 crf
          have h199 := slRep.st kStr_pos h199 crf (show ∀ b, b < w225.heap.size → ¬ (un (inBlk (Value.pointer (some ⟨p200, 0, none⟩))) (un (inBlk (Value.pointer (some ⟨p131, 0, none⟩))) (un (inBlk (Value.pointer (some ⟨p74, 0, none⟩))) (un (inBlk z230) (un (inBlk (Value.pointer (some ⟨p16, 0, none⟩))) (un (inBlk z229) (un (inBlk (Value.pointer (some ⟨p5, 0, none⟩))) nb))))))) b → ¬ nb b ∧ ¬ (un (inBlk (Value.pointer (some ⟨p131, 0, none⟩))) (un (inBlk (Value.pointer (some ⟨p74, 0, none⟩))) (un (inBlk z230) (un (inBlk (Value.pointer (some ⟨p16, 0, none⟩))) (un (inBlk z229) (un (inBlk (Value.pointer (some ⟨p5, 0, none⟩))) nb)))))) b from fun b _ hs => ⟨fun x => x, fun h => hs (un_el h (fun h => (.inr (.inl h))) (fun h => un_el h (fun h => (.inr (.inr (.inl h)))) (fun h => un_el h (fun h => (.inr (.inr (.inr (.inl h))))) (fun h => un_el h (fun h => (.inr (.inr (.inr (.inr (.inl h)))))) (fun h => un_el h (fun h => (.inr (.inr (.inr (.inr (.inr (.inl h))))))) (fun h => un_el h (fun h => (.inr (.inr (.inr (.inr (.inr (.inr (.inl h)))))))) (fun h => False.elim h)))))))⟩)
          have h221 := slRep.st kStr_pos h221 crf (show ∀ b, b < w225.heap.size → ¬ (un (inBlk (Value.pointer (some ⟨p200, 0, none⟩))) (un (inBlk (Value.pointer (some ⟨p131, 0, none⟩))) (un (inBlk (Value.pointer (some ⟨p74, 0, none⟩))) (un (inBlk z230) (un (inBlk (Value.pointer (some ⟨p16, 0, none⟩))) (un (inBlk z229) (un (inBlk (Value.pointer (some ⟨p5, 0, none⟩))) nb))))))) b → ¬ nb b ∧ ¬ (un (inBlk (Value.pointer (some ⟨p131, 0, none⟩))) (un (inBlk (Value.pointer (some ⟨p74, 0, none⟩))) (un (inBlk z230) (un (inBlk (Value.pointer (some ⟨p16, 0, none⟩))) (un (inBlk z229) (un (inBlk (Value.pointer (some ⟨p5, 0, none⟩))) nb)))))) b from fun b _ hs => ⟨fun x => x, fun h => hs (un_el h (fun h => (.inr (.inl h))) (fun h => un_el h (fun h => (.inr (.inr (.inl h)))) (fun h => un_el h (fun h => (.inr (.inr (.inr (.inl h))))) (fun h => un_el h (fun h => (.inr (.inr (.inr (.inr (.inl h)))))) (fun h => un_el h (fun h => (.inr (.inr (.inr (.inr (.inr (.inl h))))))) (fun h => un_el h (fun h => (.inr (.inr (.inr (.inr (.inr (.inr (.inl h)))))))) (fun h => False.elim h)))))))⟩)
          have h231 := h231.ch0 crf
          have h232 := h232.ch0 crf
          have h233 := h233.ch0 crf
          have h234 := h234.st crf (fun _ _ x => x) (show ∀ b, b < w225.heap.size → ¬ (un (inBlk (Value.pointer (some ⟨p200, 0, none⟩))) (un (inBlk (Value.pointer (some ⟨p131, 0, none⟩))) (un (inBlk (Value.pointer (some ⟨p74, 0, none⟩))) (un (inBlk z230) (un (inBlk (Value.pointer (some ⟨p16, 0, none⟩))) (un (inBlk z229) (un (inBlk (Value.pointer (some ⟨p5, 0, none⟩))) nb))))))) b → ¬ nb b ∧ ¬ (un (inBlk (Value.pointer (some ⟨p131, 0, none⟩))) (un (inBlk (Value.pointer (some ⟨p74, 0, none⟩))) (un (inBlk z230) (un (inBlk (Value.pointer (some ⟨p16, 0, none⟩))) (un (inBlk z229) (un (inBlk (Value.pointer (some ⟨p5, 0, none⟩))) nb)))))) b from fun b _ hs => ⟨fun x => x, fun h => hs (un_el h (fun h => (.inr (.inl h))) (fun h => un_el h (fun h => (.inr (.inr (.inl h)))) (fun h => un_el h (fun h => (.inr (.inr (.inr (.inl h))))) (fun h => un_el h (fun h => (.inr (.inr (.inr (.inr (.inl h)))))) (fun h => un_el h (fun h => (.inr (.inr (.inr (.inr (.inr (.inl h))))))) (fun h => un_el h (fun h => (.inr (.inr (.inr (.inr (.inr (.inr (.inl h)))))))) (fun h => False.elim h)))))))⟩) (fun b h => (.inr (.inr (.inl h))))
          have c187 := c187.then0 crf
          have hLn := runAO_next hL177 hq180 hb181
          exact ⟨rest191.length, Nat.lt_succ_self _, [(3, (Value.pointer (some ⟨p1, 0, none⟩))), (5, (Value.pointer (some ⟨p5, 0, none⟩))), (7, (Value.func (.func 35) #[] [(Value.pointer (some ⟨p16, 0, none⟩)), (Value.pointer (some ⟨p5, 0, none⟩))].toArray)), (9, (Value.pointer (some ⟨p74, 0, none⟩))), (11, (Value.pointer (some ⟨p131, 0, none⟩))), (16, av0), (17, (Value.int .i64 ((a0.length : Nat) : Int))), (18, (Value.int .i64 ((i48 : Nat) : Int))), (28, z70), (29, (Value.int .i64 ((x56.ports.length : Nat) : Int))), (30, (Value.int .i64 ((i109 : Nat) : Int))), (39, z71), (40, (Value.int .i64 ((x56.endpoints.length : Nat) : Int))), (41, (Value.int .i64 ((i176 + 1 : Nat) : Int)))], ⟨rfl, rfl, rfl, rfl, rfl, rfl, rfl, rfl, rfl, rfl, rfl, rfl, rfl, rfl, trivial⟩, ⟨rest191, i176 + 1, y227.2, z230, y227.1, z229, rfl, rfl, c187, hat178.next, hLn, ah0, k4, h72, h73, k86, k144, h234, h232, h233, h231, gp1, d160, (disSym d248), d162, (disSym d244), d164, (disSym d249), d166, (disSym d245), d168, (disSym d238), (disSym d240), (disSym d241), d237, d173, d239, lo242⟩⟩
         ·
          obtain rfl := hat178.nil q190
          have hLf : (x151, x154) = o182 := runAO_done hL177
          refine CW.exit (thn_exit (thn_exit (inB_hit ?_)))
          exact ⟨x151, v152, x154, v155, ⟨rfl, rfl, rfl, rfl, rfl, rfl, rfl, rfl, rfl, rfl, trivial⟩, c187, hLf, ah0, k4, h72, h73, k86, k144, h153, h156, k157, k158, gp1, d160, d161, d162, d163, d164, d165, d166, d167, d168, d169, d170, d171, d172, d173, d174, lo159⟩
        ·
         rintro _ w253 ⟨x151, v152, x154, v155, hE254, c252, f255, ah0, k4, h72, h73, k86, k144, h153, h156, k157, k158, gp1, d160, d161, d162, d163, d164, d165, d166, d167, d168, d169, d170, d171, d172, d173, d174, lo159⟩
         subst f255
         refine inB_n ?_
         refine thn_n (CW.sub [(3, (Value.pointer (some ⟨p1, 0, none⟩))), (5, (Value.pointer (some ⟨p5, 0, none⟩))), (7, (Value.func (.func 35) #[] [(Value.pointer (some ⟨p16, 0, none⟩)), (Value.pointer (some ⟨p5, 0, none⟩))].toArray)), (9, (Value.pointer (some ⟨p74, 0, none⟩))), (16, av0), (17, (Value.int .i64 ((a0.length : Nat) : Int))), (18, (Value.int .i64 ((i48 : Nat) : Int))), (28, z70), (29, (Value.int .i64 ((x56.ports.length : Nat) : Int))), (30, (Value.int .i64 ((i109 : Nat) : Int)))] hE254 ?_)
         refine CW.region ?_
         refine rl_inc rfl hat111.lt h72.big rfl ?_
         refine rl_move rfl rfl ?_
         refine RL.nil ?_
         refine thn_n ?_
         have crf : Ch nb w253 w253 := Ch.refl
         have ah0 := slRep.st k_Slice_pos ah0 crf (show ∀ b, b < w253.heap.size → ¬ (un (inBlk (Value.pointer (some ⟨p131, 0, none⟩))) (un (inBlk (Value.pointer (some ⟨p74, 0, none⟩))) (un (inBlk v152) (un (inBlk (Value.pointer (some ⟨p16, 0, none⟩))) (un (inBlk v155) (un (inBlk (Value.pointer (some ⟨p5, 0, none⟩))) nb)))))) b → ¬ nb b ∧ ¬ (un (inBlk (Value.pointer (some ⟨p74, 0, none⟩))) (un (inBlk v152) (un (inBlk (Value.pointer (some ⟨p16, 0, none⟩))) (un (inBlk v155) (un (inBlk (Value.pointer (some ⟨p5, 0, none⟩))) nb))))) b from fun b _ hs => ⟨fun x => x, fun h => hs (un_el h (fun h => (.inr (.inl h))) (fun h => un_el h (fun h => (.inr (.inr (.inl h)))) (fun h => un_el h (fun h => (.inr (.inr (.inr (.inl h))))) (fun h => un_el h (fun h => (.inr (.inr (.inr (.inr (.inl h)))))) (fun h => un_el h (fun h => (.inr (.inr (.inr (.inr (.inr (.inl h))))))) (fun h => False.elim h))))))⟩)
         have gp1n : (G F w.heap.size (un (inBlk (Value.pointer (some ⟨p74, 0, none⟩))) (un (inBlk v152) (un (inBlk (Value.pointer (some ⟨p16, 0, none⟩))) (un (inBlk v155) (un (inBlk (Value.pointer (some ⟨p5, 0, none⟩))) nb)))))) p1 := ⟨gp1.1, ((show ∀ b, b < w253.heap.size → ¬ (un (inBlk (Value.pointer (some ⟨p131, 0, none⟩))) (un (inBlk (Value.pointer (some ⟨p74, 0, none⟩))) (un (inBlk v152) (un (inBlk (Value.pointer (some ⟨p16, 0, none⟩))) (un (inBlk v155) (un (inBlk (Value.pointer (some ⟨p5, 0, none⟩))) nb)))))) b → ¬ nb b ∧ ¬ (un (inBlk (Value.pointer (some ⟨p74, 0, none⟩))) (un (inBlk v152) (un (inBlk (Value.pointer (some ⟨p16, 0, none⟩))) (un (inBlk v155) (un (inBlk (Value.pointer (some ⟨p5, 0, none⟩))) nb))))) b from fun b _ hs => ⟨fun x => x, fun h => hs (un_el h (fun h => (.inr (.inl h))) (fun h => un_el h (fun h => (.inr (.inr (.inl h)))) (fun h => un_el h (fun h => (.inr (.inr (.inr (.inl h))))) (fun h => un_el h (fun h => (.inr (.inr (.inr (.inr (.inl h)))))) (fun h => un_el h (fun h => (.inr (.inr (.inr (.inr (.inr (.inl h))))))) (fun h => False.elim h))))))⟩) _ k4.lt gp1.2).2⟩
         have k4 := k4.ch0 crf
         have gp1 := gp1n
         have h72 := slRep.st k_Port_pos h72 crf (show ∀ b, b < w253.heap.size → ¬ (un (inBlk (Value.pointer (some ⟨p131, 0, none⟩))) (un (inBlk (Value.pointer (some ⟨p74, 0, none⟩))) (un (inBlk v152) (un (inBlk (Value.pointer (some ⟨p16, 0, none⟩))) (un (inBlk v155) (un (inBlk (Value.pointer (some ⟨p5, 0, none⟩))) nb)))))) b → ¬ nb b ∧ ¬ (un (inBlk (Value.pointer (some ⟨p74, 0, none⟩))) (un (inBlk v152) (un (inBlk (Value.pointer (some ⟨p16, 0, none⟩))) (un (inBlk v155) (un (inBlk (Value.pointer (some ⟨p5, 0, none⟩))) nb))))) b from fun b _ hs => ⟨fun x => x, fun h => hs (un_el h (fun h => (.inr (.inl h))) (fun h => un_el h (fun h => (.inr (.inr (.inl h)))) (fun h => un_el h (fun h => (.inr (.inr (.inr (.inl h))))) (fun h => un_el h (fun h => (.inr (.inr (.inr (.inr (.inl h)))))) (fun h => un_el h (fun h => (.inr (.inr (.inr (.inr (.inr (.inl h))))))) (fun h => False.elim h))))))⟩)
         have h73 := slRep.st k_Endpoint_pos h73 crf (show ∀ b, b < w253.heap.size → ¬ (un (inBlk (Value.pointer (some ⟨p131, 0, none⟩))) (un (inBlk (Value.pointer (some ⟨p74, 0, none⟩))) (un (inBlk v152) (un (inBlk (Value.pointer (some ⟨p16, 0, none⟩))) (un (inBlk v155) (un (inBlk (Value.pointer (some ⟨p5, 0, none⟩))) nb)))))) b → ¬ nb b ∧ ¬ (un (inBlk (Value.pointer (some ⟨p74, 0, none⟩))) (un (inBlk v152) (un (inBlk (Value.pointer (some ⟨p16, 0, none⟩))) (un (inBlk v155) (un (inBlk (Value.pointer (some ⟨p5, 0, none⟩))) nb))))) b from fun b _ hs => ⟨fun x => x, fun h => hs (un_el h (fun h => (.inr (.inl h))) (fun h => un_el h (fun h => (.inr (.inr (.inl h)))) (fun h => un_el h (fun h => (.inr (.inr (.inr (.inl h))))) (fun h => un_el h (fun h => (.inr (.inr (.inr (.inr (.inl h)))))) (fun h => un_el h (fun h => (.inr (.inr (.inr (.inr (.inr (.inl h))))))) (fun h => False.elim h))))))⟩)
         have k86 := k86.ch0 crf
         have h153 := h153.st crf (fun _ _ x => x) (show ∀ b, b < w253.heap.size → ¬ (un (inBlk (Value.pointer (some ⟨p131, 0, none⟩))) (un (inBlk (Value.pointer (some ⟨p74, 0, none⟩))) (un (inBlk v152) (un (inBlk (Value.pointer (some ⟨p16, 0, none⟩))) (un (inBlk v155) (un (inBlk (Value.pointer (some ⟨p5, 0, none⟩))) nb)))))) b → ¬ nb b ∧ ¬ (un (inBlk (Value.pointer (some ⟨p74, 0, none⟩))) (un (inBlk v152) (un (inBlk (Value.pointer (some ⟨p16, 0, none⟩))) (un (inBlk v155) (un (inBlk (Value.pointer (some ⟨p5, 0, none⟩))) nb))))) b from fun b _ hs => ⟨fun x => x, fun h => hs (un_el h (fun h => (.inr (.inl h))) (fun h => un_el h (fun h => (.inr (.inr (.inl h)))) (fun h => un_el h (fun h => (.inr (.inr (.inr (.inl h))))) (fun h => un_el h (fun h => (.inr (.inr (.inr (.inr (.inl h)))))) (fun h => un_el h (fun h => (.inr (.inr (.inr (.inr (.inr (.inl h))))))) (fun h => False.elim h))))))⟩) (fun b h => (.inr (.inl h)))
         have h156 := h156.ch0 crf
         have k157 := k157.ch0 crf
         have k158 := k158.ch0 crf
         have c252 := c252.then0 crf
         have hLn := runAO_next hL110 hq113 hb114
         exact ⟨rest124.length, Nat.lt_succ_self _, [(3, (Value.pointer (some ⟨p1, 0, none⟩))), (5, (Value.pointer (some ⟨p5, 0, none⟩))), (7, (Value.func (.func 35) #[] [(Value.pointer (some ⟨p16, 0, none⟩)), (Value.pointer (some ⟨p5, 0, none⟩))].toArray)), (9, (Value.pointer (some ⟨p74, 0, none⟩))), (16, av0), (17, (Value.int .i64 ((a0.length : Nat) : Int))), (18, (Value.int .i64 ((i48 : Nat) : Int))), (28, z70), (29, (Value.int .i64 ((x56.ports.length : Nat) : Int))), (30, (Value.int .i64 ((i109 + 1 : Nat) : Int)))], ⟨rfl, rfl, rfl, rfl, rfl, rfl, rfl, rfl, rfl, rfl, trivial⟩, ⟨rest124, i109 + 1, x151, v152, x154, v155, rfl, rfl, c252, hat111.next, hLn, ah0, k4, h72, h73, k86, h153, h156, k157, k158, gp1, d165, d166, d167, d168, d169, d170, d171, d172, d173, d174, lo159⟩⟩
      ·
       obtain rfl := hat111.nil q123
       have hLf : (x89, x92) = o115 := runAO_done hL110
       refine CW.exit (thn_exit (thn_exit (inB_hit ?_)))
       exact ⟨x89, v90, x92, v93, ⟨rfl, rfl, rfl, rfl, rfl, rfl, trivial⟩, c120, hLf, ah0, k4, h72, h73, k86, h91, h94, k95, k96, gp1, d98, d99, d100, d101, d102, d103, d104, d105, d106, d107, lo97⟩
     ·
      rintro _ w258 ⟨x89, v90, x92, v93, hE259, c257, f260, ah0, k4, h72, h73, k86, h91, h94, k95, k96, gp1, d98, d99, d100, d101, d102, d103, d104, d105, d106, d107, lo97⟩
      subst f260
      refine inB_n ?_
      refine thn_n (CW.sub [(3, (Value.pointer (some ⟨p1, 0, none⟩))), (5, (Value.pointer (some ⟨p5, 0, none⟩))), (7, (Value.func (.func 35) #[] [(Value.pointer (some ⟨p16, 0, none⟩)), (Value.pointer (some ⟨p5, 0, none⟩))].toArray)), (16, av0), (17, (Value.int .i64 ((a0.length : Nat) : Int))), (18, (Value.int .i64 ((i48 : Nat) : Int)))] hE259 ?_)
      refine CW.region ?_
      refine rl_inc rfl hat50.lt ah0.big rfl ?_
      refine rl_move rfl rfl ?_
      refine RL.nil ?_
      refine thn_n ?_
      have crf : Ch nb w258 w258 := Ch.refl
      have ah0 := slRep.st k_Slice_pos ah0 crf (show ∀ b, b < w258.heap.size → ¬ (un (inBlk (Value.pointer (some ⟨p74, 0, none⟩))) (un (inBlk v90) (un (inBlk (Value.pointer (some ⟨p16, 0, none⟩))) (un (inBlk v93) (un (inBlk (Value.pointer (some ⟨p5, 0, none⟩))) nb))))) b → ¬ nb b ∧ ¬ (un (inBlk v90) (un (inBlk (Value.pointer (some ⟨p16, 0, none⟩))) (un (inBlk v93) (un (inBlk (Value.pointer (some ⟨p5, 0, none⟩))) nb)))) b from fun b _ hs => ⟨fun x => x, fun h => hs (un_el h (fun h => (.inr (.inl h))) (fun h => un_el h (fun h => (.inr (.inr (.inl h)))) (fun h => un_el h (fun h => (.inr (.inr (.inr (.inl h))))) (fun h => un_el h (fun h => (.inr (.inr (.inr (.inr (.inl h)))))) (fun h => False.elim h)))))⟩)
      have gp1n : (G F w.heap.size (un (inBlk v90) (un (inBlk (Value.pointer (some ⟨p16, 0, none⟩))) (un (inBlk v93) (un (inBlk (Value.pointer (some ⟨p5, 0, none⟩))) nb))))) p1 := ⟨gp1.1, ((show ∀ b, b < w258.heap.size → ¬ (un (inBlk (Value.pointer (some ⟨p74, 0, none⟩))) (un (inBlk v90) (un (inBlk (Value.pointer (some ⟨p16, 0, none⟩))) (un (inBlk v93) (un (inBlk (Value.pointer (some ⟨p5, 0, none⟩))) nb))))) b → ¬ nb b ∧ ¬ (un (inBlk v90) (un (inBlk (Value.pointer (some ⟨p16, 0, none⟩))) (un (inBlk v93) (un (inBlk (Value.pointer (some ⟨p5, 0, none⟩))) nb)))) b from fun b _ hs => ⟨fun x => x, fun h => hs (un_el h (fun h => (.inr (.inl h))) (fun h => un_el h (fun h => (.inr (.inr (.inl h)))) (fun h => un_el h (fun h => (.inr (.inr (.inr (.inl h))))) (fun h => un_el h (fun h => (.inr (.inr (.inr (.inr (.inl h)))))) (fun h => False.elim h)))))⟩) _ k4.lt gp1.2).2⟩
      have k4 := k4.ch0 crf
      have gp1 := gp1n
      have h72 := slRep.st k_Port_pos h72 crf (show ∀ b, b < w258.heap.size → ¬ (un (inBlk (Value.pointer (some ⟨p74, 0, none⟩))) (un (inBlk v90) (un (inBlk (Value.pointer (some ⟨p16, 0, none⟩))) (un (inBlk v93) (un (inBlk (Value.pointer (some ⟨p5, 0, none⟩))) nb))))) b → ¬ nb b ∧ ¬ (un (inBlk v90) (un (inBlk (Value.pointer (some ⟨p16, 0, none⟩))) (un (inBlk v93) (un (inBlk (Value.pointer (some ⟨p5, 0, none⟩))) nb)))) b from fun b _ hs => ⟨fun x => x, fun h => hs (un_el h (fun h => (.inr (.inl h))) (fun h => un_el h (fun h => (.inr (.inr (.inl h)))) (fun h => un_el h (fun h => (.inr (.inr (.inr (.inl h))))) (fun h => un_el h (fun h => (.inr (.inr (.inr (.inr (.inl h)))))) (fun h => False.elim h)))))⟩)
      have h73 := slRep.st k_Endpoint_pos h73 crf (show ∀ b, b < w258.heap.size → ¬ (un (inBlk (Value.pointer (some ⟨p74, 0, none⟩))) (un (inBlk v90) (un (inBlk (Value.pointer (some ⟨p16, 0, none⟩))) (un (inBlk v93) (un (inBlk (Value.pointer (some ⟨p5, 0, none⟩))) nb))))) b → ¬ nb b ∧ ¬ (un (inBlk v90) (un (inBlk (Value.pointer (some ⟨p16, 0, none⟩))) (un (inBlk v93) (un (inBlk (Value.pointer (some ⟨p5, 0, none⟩))) nb)))) b from fun b _ hs => ⟨fun x => x, fun h => hs (un_el h (fun h => (.inr (.inl h))) (fun h => un_el h (fun h => (.inr (.inr (.inl h)))) (fun h => un_el h (fun h => (.inr (.inr (.inr (.inl h))))) (fun h => un_el h (fun h => (.inr (.inr (.inr (.inr (.inl h)))))) (fun h => False.elim h)))))⟩)
      have h91 := h91.st crf (fun _ _ x => x) (show ∀ b, b < w258.heap.size → ¬ (un (inBlk (Value.pointer (some ⟨p74, 0, none⟩))) (un (inBlk v90) (un (inBlk (Value.pointer (some ⟨p16, 0, none⟩))) (un (inBlk v93) (un (inBlk (Value.pointer (some ⟨p5, 0, none⟩))) nb))))) b → ¬ nb b ∧ ¬ (un (inBlk v90) (un (inBlk (Value.pointer (some ⟨p16, 0, none⟩))) (un (inBlk v93) (un (inBlk (Value.pointer (some ⟨p5, 0, none⟩))) nb)))) b from fun b _ hs => ⟨fun x => x, fun h => hs (un_el h (fun h => (.inr (.inl h))) (fun h => un_el h (fun h => (.inr (.inr (.inl h)))) (fun h => un_el h (fun h => (.inr (.inr (.inr (.inl h))))) (fun h => un_el h (fun h => (.inr (.inr (.inr (.inr (.inl h)))))) (fun h => False.elim h)))))⟩) (fun b h => (.inl h))
      have h94 := h94.ch0 crf
      have k95 := k95.ch0 crf
      have k96 := k96.ch0 crf
      have c257 := c257.then0 crf
      have hLn := runAO_next hL49 hq52 hb53
      exact ⟨rest63.length, Nat.lt_succ_self _, [(3, (Value.pointer (some ⟨p1, 0, none⟩))), (5, (Value.pointer (some ⟨p5, 0, none⟩))), (7, (Value.func (.func 35) #[] [(Value.pointer (some ⟨p16, 0, none⟩)), (Value.pointer (some ⟨p5, 0, none⟩))].toArray)), (16, av0), (17, (Value.int .i64 ((a0.length : Nat) : Int))), (18, (Value.int .i64 ((i48 + 1 : Nat) : Int)))], ⟨rfl, rfl, rfl, rfl, rfl, rfl, trivial⟩, ⟨rest63, i48 + 1, x89, v90, x92, v93, rfl, rfl, c257, hat50.next, hLn, ah0, k4, h91, h94, k95, k96, gp1, d102, d103, d104, d105, d106, d107, lo97⟩⟩
   ·
    obtain rfl := hat50.nil q62
    have hLf : (x32, x35) = o54 := runAO_done hL49
    refine CW.exit (thn_exit (thn_exit (inB_hit ?_)))
    exact ⟨x32, v33, x35, v36, ⟨rfl, trivial⟩, c59, hLf, ah0, k4, h34, h37, k38, k39, gp1, d41, d42, d43, d44, d45, d46, lo40⟩
  ·
   rintro _ w263 ⟨x32, v33, x35, v36, hE264, c262, f265, ah0, k4, h34, h37, k38, k39, gp1, d41, d42, d43, d44, d45, d46, lo40⟩
   subst f265
   refine thn_n (CW.sub [(5, (Value.pointer (some ⟨p5, 0, none⟩)))] hE264 ?_)
   refine CW.seq (CW.region ?_)
   refine rl_loadS (v := v33) rfl Try.isAgg22 (k38.cell rfl) rfl ?_
   refine rl_assign rfl rfl ?_
   refine RL.nil ?_
   refine thn_n ?_
   refine CW.ret ?_
   obtain rfl := Option.some.inj hS
   exact ret1 rfl ⟨v33, rfl, h34.out, c262⟩
/-- lb/lblaw18.Of -/
theorem ctr9 (F : Nat → Prop) (w : World) (a0 : (List Candidate)) (av0 : Value) (ah0 : slRep k_Candidate F w a0 av0) (r : (List Candidate)) (hs : F9_linkboylaw18_Of a0 = some r) :
    Ret Try.prog 9 #[av0] w fun v w' => ∃ (y0 : Value), v = y0 ∧ SlO k_Candidate 58 F w.heap.size (inBlk y0) w' r y0 ∧ Ch nb w w' := by
  have hS := hs
  have c0 : Ch nb w w := Ch.refl
  have ah0 := slRep.enter k_Candidate_pos ah0
  refine Ret.of (n := 19) (args := [_]) (rs := [.tmp 2]) Try.func9 rfl rfl rfl rfl ?_
  refine CW.seq (CW.region ?_)
  refine rl_assign rfl rfl ?_
  refine RL.nil ?_
  refine thn_n ?_
  refine CW.seq (CW.region ?_)
  refine rl_bslice (k := k_Candidate) (F := F) (B := w.heap.size) (S := nb) ([] : List Candidate) rfl k_Candidate_pos Try.underlying28 Try.sizeOf58 Try.zeroValue58 rfl rfl trivial c0.size nbS rfl ?_
  intro v1 w2 c3 hf4 h5
  have ah0 := slRep.st k_Candidate_pos ah0 c3 (admNew hf4 (fun _ x => x))
  have c0 := c0.then0 c3
  refine rl_assign rfl rfl ?_
  refine RL.nil ?_
  refine thn_n ?_
  refine CW.seq ?_
  refine CW.seq (CW.region ?_)
  refine rl_move rfl rfl ?_
  refine rl_lenR rfl ah0 Try.underlying22 rfl ?_
  refine rl_move rfl rfl ?_
  refine RL.nil ?_
  refine thn_n ?_
  obtain ⟨o16, ho17, hS⟩ := bindS hS
  refine CW.cutB (fun E' w' => ∃ (x6 : (List Candidate)) (v7 : Value), Sub [(3, v7)] E' ∧ Ch nb w w' ∧ x6 = o16 ∧ slRep k_Candidate (G F w.heap.size (un (inBlk v7) nb)) w' a0 av0 ∧ SlO k_Candidate 58 F w.heap.size (un (inBlk v7) nb) w' x6 v7) ?_ ?_
  ·
   refine CW.loopS [(7, av0), (8, (Value.int .i64 ((a0.length : Nat) : Int))), (3, v1), (9, (Value.int .i64 ((0 : Nat) : Int)))] ⟨rfl, rfl, rfl, rfl, trivial⟩ a0.length (fun m E w' => ∃ (rest9 : List Candidate) (i10 : Nat) (x6 : (List Candidate)) (v7 : Value), m = rest9.length ∧ E = [(7, av0), (8, (Value.int .i64 ((a0.length : Nat) : Int))), (3, v7), (9, (Value.int .i64 ((i10 : Nat) : Int)))] ∧ Ch nb w w' ∧ At a0 i10 rest9 ∧ runAO F9_linkboylaw18_Of_b1 rest9 x6 = some o16 ∧ slRep k_Candidate (G F w.heap.size (un (inBlk v7) nb)) w' a0 av0 ∧ SlO k_Candidate 58 F w.heap.size (un (inBlk v7) nb) w' x6 v7)
       ⟨a0, 0, [], v1, rfl, rfl, c0, At.start, ho17, ah0, h5⟩ ?_
   rintro _ _ w22 ⟨rest9, i10, x6, v7, rfl, rfl, c21, hat12, hL11, ah0, h8⟩
   refine CW.seq (CW.region ?_)
   refine rl_bin rfl rfl B.lss rfl ?_
   refine RL.nil (thn_n ?_)
   refine CW.seq ?_
   refine CW.cond (t := decide (((i10 : Nat) : Int) < ((a0.length : Nat) : Int))) rfl (fun q24 => ?_) (fun q24 => ?_)
   ·
    obtain ⟨x18, rest25, rfl⟩ := hat12.cons q24
    obtain ⟨q13, hq14⟩ := runAO_some hL11
    have hb15 := hq14
    refine CW.skip (thn_n ?_)
    refine CW.seq ?_
    refine CW.block ?_
    refine CW.seq (CW.region ?_)
    refine rl_ixR rfl ah0 rfl hat12.get Try.underlying22 Try.sizeOf44 rfl ?_
    intro p26 o27 cs28 hr29 hs30 hg31
    obtain ⟨z32, rfl, h33⟩ := hr29
    refine rl_loadA (cs := (Candidate.c x18 z32)) rfl Try.isAgg44 Try.sizeOf44 (hs30) rfl rfl ?_
    refine rl_alloc (Candidate.c Candidate.z (Value.slice none 0 0)) Try.zeroValue44 rfl rfl ?_
    intro p34 w35 n36 k37
    have lo38 : ∀ b, inBlk (Value.pointer (some ⟨p34, 0, none⟩)) b → w.heap.size ≤ b := fun b h => Nat.le_trans c21.size (n36.fresh b h)
    have d39 : ∀ b, inBlk (Value.pointer (some ⟨p34, 0, none⟩)) b → ¬ inBlk v7 b := disNew n36.fresh (fun b hb => (h8.lt b hb).2)
    have ah0 := slRep.st k_Candidate_pos ah0 n36.ch (admNew n36.fresh (fun _ x => x))
    have h8 := h8.st n36.ch (fun _ _ x => x) (admNew n36.fresh (fun _ x => x)) (fun b h => (.inr (.inl h)))
    have h33 := slRep.st kStr_pos h33 n36.ch (admNew n36.fresh (fun _ x => x))
    have c21 := c21.then0 n36.ch
    refine rl_storeA (vs := (Candidate.c x18 z32)) rfl rfl (Kd.one _ (show k_Candidate.rep (G F w.heap.size (un (inBlk (Value.pointer (some ⟨p34, 0, none⟩))) (un (inBlk v7) nb))) w35 x18 (Candidate.c x18 z32) from ⟨z32, rfl, h33⟩)) Try.sizeOf44 rfl k37 rfl ?_
    intro w40 s42 c41 k43
    have ad44 : ∀ b, b < w35.heap.size → ¬ (un (inBlk (Value.pointer (some ⟨p34, 0, none⟩))) (un (inBlk v7) nb)) b → ¬ (inBlk (Value.pointer (some ⟨p34, 0, none⟩))) b ∧ ¬ (un (inBlk (Value.pointer (some ⟨p34, 0, none⟩))) (un (inBlk v7) nb)) b := fun b _ hs => ⟨fun h => hs (.inl h), hs⟩
    have ah0 := slRep.st k_Candidate_pos ah0 c41 ad44
    have h8 := h8.st c41 (fun b hb h => (disSym d39) b hb h) ad44 (fun b h => (.inr (.inl h)))
    have h33 := slRep.st kStr_pos h33 c41 ad44
    have c21 := c21.then c41 (fun i hi h => absurd (lo38 i h) (Nat.not_le_of_lt hi))
    refine RL.nil ?_
    refine thn_n ?_
    refine CW.region ?_
    refine rl_move rfl rfl ?_
    refine rl_loadA (cs := (Candidate.c x18 z32)) rfl Try.isAgg44 Try.sizeOf44 (k43.segAt 0 23) rfl rfl ?_
    refine rl_bslice (k := k_Candidate) (F := F) (B := w.heap.size) (S := (un (inBlk (Value.pointer (some ⟨p34, 0, none⟩))) (un (inBlk v7) nb))) ([x18] : List Candidate) rfl k_Candidate_pos Try.underlying28 Try.sizeOf58 Try.zeroValue58 rfl rfl ⟨rfl, ⟨z32, rfl, h33⟩, trivial⟩ c21.size (un_lt k43.ltp (un_lt (fun b hb => (h8.lt b hb).2) nbS)) rfl ?_
    intro v45 w46 c47 hf48 h49
    have h49 := h49.readNew k_Candidate_pos hf48 (un_lt k43.ltp (un_lt (fun b hb => (h8.lt b hb).2) nbS))
    have ah0 := slRep.ch k_Candidate_pos ah0 c47
    have h8 := h8.ch0 c47
    have h33 := slRep.ch kStr_pos h33 c47
    have k43 := k43.ch0 c47
    have c21 := c21.then0 c47
    obtain ⟨z58, hz59, hb15⟩ := bindS hb15
    have hl := (apO_get hz59).1
    refine rl_append (k := k_Candidate) (T := 58) (F := F) (B := w.heap.size) (S := (un (inBlk (Value.pointer (some ⟨p34, 0, none⟩))) (un (inBlk v7) nb))) (S2 := (un (inBlk (Value.pointer (some ⟨p34, 0, none⟩))) nb)) (fun v => (un (inBlk (Value.pointer (some ⟨p34, 0, none⟩))) (un (inBlk v) nb))) rfl rfl k_Candidate_pos ap28 h8 h49 (fun _ => un_swap) (fun _ _ => un_swap) hl c21.size (un_lt k43.ltp (un_lt (fun b hb => (h8.lt b hb).2) nbS)) rfl ?_
    intro v52 w53 h54 c55 hf56 ha57
    have d60 : ∀ b, inBlk v52 b → ¬ inBlk (Value.pointer (some ⟨p34, 0, none⟩)) b := disApp hf56 (disSym d39) k43.ltp
    have ah0 := slRep.st k_Candidate_pos ah0 c55 ha57
    have h33 := slRep.st kStr_pos h33 c55 ha57
    have k43 := k43.ch c55 ((fun b hb h => d39 b hb h) _ rfl)
    have h49 := slRep.st k_Candidate_pos h49 c55 ha57
    have c21 := c21.then c55 (fun i hi h => absurd ((fun b hb => (h8.lt b hb).1) i h) (Nat.not_le_of_lt hi))
    refine rl_assign rfl rfl ?_
    refine RL.nil ?_
    refine inB_n ?_
    refine thn_n ?_
    refine CW.region ?_
    refine rl_inc rfl hat12.lt ah0.big rfl ?_
    refine rl_move rfl rfl ?_
    refine RL.nil ?_
    refine thn_n ?_
    have crf : Ch nb w53 w53 := Ch.refl
    have ah0 := slRep.st k_Candidate_pos ah0 crf (show ∀ b, b < w53.heap.size → ¬ (un (inBlk (Value.pointer (some ⟨p34, 0, none⟩))) (un (inBlk v52) nb)) b → ¬ nb b ∧ ¬ (un (inBlk v52) nb) b from fun b _ hs => ⟨fun x => x, fun h => hs (un_el h (fun h => (.inr (.inl h))) (fun h => False.elim h))⟩)
    have h33 := slRep.st kStr_pos h33 crf (show ∀ b, b < w53.heap.size → ¬ (un (inBlk (Value.pointer (some ⟨p34, 0, none⟩))) (un (inBlk v52) nb)) b → ¬ nb b ∧ ¬ (un (inBlk v52) nb) b from fun b _ hs => ⟨fun x => x, fun h => hs (un_el h (fun h => (.inr (.inl h))) (fun h => False.elim h))⟩)
    have h49 := slRep.st k_Candidate_pos h49 crf (show ∀ b, b < w53.heap.size → ¬ (un (inBlk (Value.pointer (some ⟨p34, 0, none⟩))) (un (inBlk v52) nb)) b → ¬ nb b ∧ ¬ (un (inBlk v52) nb) b from fun b _ hs => ⟨fun x => x, fun h => hs (un_el h (fun h => (.inr (.inl h))) (fun h => False.elim h))⟩)
    have h54 := h54.st crf (fun _ _ x => x) (show ∀ b, b < w53.heap.size → ¬ (un (inBlk (Value.pointer (some ⟨p34, 0, none⟩))) (un (inBlk v52) nb)) b → ¬ nb b ∧ ¬ (un (inBlk v52) nb) b from fun b _ hs => ⟨fun x => x, fun h => hs (un_el h (fun h => (.inr (.inl h))) (fun h => False.elim h))⟩) (fun b h => (.inl h))
    have c21 := c21.then0 crf
    have hLn := runAO_next hL11 hq14 hb15
    exact ⟨rest25.length, Nat.lt_succ_self _, [(7, av0), (8, (Value.int .i64 ((a0.length : Nat) : Int))), (3, v52), (9, (Value.int .i64 ((i10 + 1 : Nat) : Int)))], ⟨rfl, rfl, rfl, rfl, trivial⟩, ⟨rest25, i10 + 1, x6 ++ [x18], v52, rfl, rfl, c21, hat12.next, hLn, ah0, h54⟩⟩
   ·
    obtain rfl := hat12.nil q24
    have hLf : x6 = o16 := runAO_done hL11
    refine CW.exit (thn_exit (thn_exit (inB_hit ?_)))
    exact ⟨x6, v7, ⟨rfl, trivial⟩, c21, hLf, ah0, h8⟩
  ·
   rintro _ w62 ⟨x6, v7, hE63, c61, f64, ah0, h8⟩
   subst f64
   refine thn_n (CW.sub [(3, v7)] hE63 ?_)
   refine CW.seq (CW.region ?_)
   refine rl_move rfl rfl ?_
   refine rl_assign rfl rfl ?_
   refine RL.nil ?_
   refine thn_n ?_
   refine CW.ret ?_
   obtain rfl := Option.some.inj hS
   exact ret1 rfl ⟨v7, rfl, h8.out, c61⟩
end Go.Proofs.Yteoaobiglodblaa
