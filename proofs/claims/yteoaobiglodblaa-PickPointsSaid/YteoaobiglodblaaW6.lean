/- The walks through the code: each call comes to its printed function. Written by a program of this session. -/
import Derived.Test.YteoaobiglodblaaM
import Derived.Test.YteoaobiglodblaaL
import Derived.Test.YteoaobiglodblaaW5
namespace Go.Proofs.Yteoaobiglodblaa
open Go K
set_option linter.unusedVariables false
/-- lb/lblaw19.PickChooses -/
theorem ctr3 (F : Nat → Prop) (w : World) (a0 : (List Candidate)) (av0 : Value) (ah0 : slRep k_Candidate F w a0 av0) (a1 : Want) (r : Bool) (hs : F3_linkboylaw19_PickChooses a0 a1 = some r) :
    Ret Try.prog 3 #[av0, (Value.agg (Want.enc a1).toArray)] w fun v w' => v = (Value.bool r) ∧ Ch nb w w' := by
  have hS := hs
  have c0 : Ch nb w w := Ch.refl
  have ah0 := slRep.enter k_Candidate_pos ah0
  refine Ret.of (n := 38) (args := [_, _]) (rs := [.tmp 4]) Try.func3 rfl rfl rfl rfl ?_
  refine CW.seq (CW.region ?_)
  refine rl_boxA (cs := (Want.enc a1)) rfl rfl ?_
  intro p1 w2 n3 k4
  have gp1 : (G F w.heap.size nb) p1 := ⟨.inr (by rw [n3.eq]; exact c0.size), fun h => absurd (nbS _ h) (by rw [n3.eq]; exact Nat.lt_irrefl _)⟩
  have ah0 := slRep.ch k_Candidate_pos ah0 n3.ch
  have c0 := c0.then0 n3.ch
  refine rl_assign rfl rfl ?_
  refine RL.nil ?_
  refine thn_n ?_
  refine CW.seq ?_
  refine CW.seq (CW.region ?_)
  obtain ⟨y7, hy8, hS⟩ := bindS hS
  refine rl_callF rfl en6 rfl (ctr6 (G F w.heap.size nb) w2  y7 hy8) ?_
  rintro _ w5 ⟨rfl, c6⟩
  have ah0 := slRep.ch k_Candidate_pos ah0 c6
  have k4 := k4.ch0 c6
  have c0 := c0.then0 c6
  refine rl_not rfl rfl ?_
  refine RL.nil ?_
  refine thn_n ?_
  refine CW.cond (t := !y7) rfl (fun q9 => ?_) (fun q9 => ?_)
  ·
   have hS := ifT q9 hS
   refine CW.seq (CW.region ?_)
   refine rl_assign rfl rfl ?_
   refine RL.nil ?_
   refine thn_n ?_
   refine CW.ret ?_
   refine thn_ret ?_
   obtain rfl := Option.some.inj hS
   exact ret1 rfl ⟨rfl, c0⟩
  ·
   have hS := ifF q9 hS
   refine CW.skip ?_
   refine thn_n ?_
   refine CW.seq ?_
   refine CW.seq (CW.region ?_)
   refine rl_move rfl rfl ?_
   obtain ⟨y12, hy13⟩ : ∃ y, F7_linkboylaw18_Long a0 = y := ⟨_, rfl⟩
   have hS := ltS hy13 hS
   refine rl_callF rfl en7 rfl (ctr7 (G F w.heap.size nb) w5 a0 av0 ah0 y12 hy13) ?_
   rintro _ w10 ⟨rfl, c11⟩
   have ah0 := slRep.ch k_Candidate_pos ah0 c11
   have k4 := k4.ch0 c11
   have c0 := c0.then0 c11
   refine rl_move rfl rfl ?_
   obtain ⟨b16, hb17⟩ : ∃ v, (y12 || (lt (F8_linkboylaw19_long a1) fun y18 => y18)) = v := ⟨_, rfl⟩
   have hS := ltS hb17 hS
   refine RL.join 3 13 (.bool b16) (fun w' => Ch nb w10 w') ?_ ?_
   · rcases Bool.eq_false_or_eq_true y12 with hg15 | hg15
     ·
      have hs14 := or_t hg15 hb17
      have cs : Ch nb w10 w10 := Ch.refl
      refine RL.no rfl rfl rfl hg15 rfl rfl ?_
      refine RL.no rfl rfl rfl hg15 rfl rfl ?_
      refine rl_pickT rfl hg15 rfl rfl ?_
      exact RL.nil ⟨Ext.bothEq (congrArg Value.bool hs14) (Ext.skip rfl (Ext.skip rfl (Ext.rfl'))), cs⟩
     ·
      have hs14 := or_f hg15 hb17
      have cs : Ch nb w10 w10 := Ch.refl
      refine RL.yes rfl rfl rfl hg15 ?_
      refine rl_loadA (cs := (Want.enc a1)) rfl Try.isAgg24 Try.sizeOf24 (k4.segAt 0 7) rfl rfl ?_
      refine RL.yes rfl rfl rfl hg15 ?_
      obtain ⟨y21, hy22⟩ : ∃ y, F8_linkboylaw19_long a1 = y := ⟨_, rfl⟩
      have hs14 := ltS hy22 hs14
      refine rl_callF rfl en8 rfl (ctr8 (G F w.heap.size nb) w10 a1 y21 hy22) ?_
      rintro _ w19 ⟨rfl, c20⟩
      have ah0 := slRep.ch k_Candidate_pos ah0 c20
      have k4 := k4.ch0 c20
      have c0 := c0.then0 c20
      refine rl_pickF rfl hg15 rfl rfl ?_
      have cs := cs.then0 c20
      exact RL.nil ⟨Ext.bothEq (congrArg Value.bool hs14) (Ext.skip rfl (Ext.skip rfl (Ext.rfl'))), cs⟩
   intro w18 c23
   have ah0 := slRep.ch k_Candidate_pos ah0 c23
   have k4 := k4.ch0 c23
   have c0 := c0.then0 c23
   refine RL.nil ?_
   refine thn_n ?_
   refine CW.cond (t := b16) rfl (fun q24 => ?_) (fun q24 => ?_)
   ·
    have hS := ifT q24 hS
    refine CW.seq (CW.region ?_)
    refine rl_assign rfl rfl ?_
    refine RL.nil ?_
    refine thn_n ?_
    refine CW.ret ?_
    refine thn_ret ?_
    obtain rfl := Option.some.inj hS
    exact ret1 rfl ⟨rfl, c0⟩
   ·
    have hS := ifF q24 hS
    refine CW.skip ?_
    refine thn_n ?_
    refine CW.seq (CW.region ?_)
    refine rl_move rfl rfl ?_
    obtain ⟨y27, hy28, hS⟩ := bindS hS
    refine rl_callF rfl en9 rfl (ctr9 (G F w.heap.size nb) w18 a0 av0 ah0 y27 hy28) ?_
    rintro v29 w25 ⟨_, rfl, h30, c26⟩
    have h30 := SlO.backR k_Candidate_pos h30 nbS c0.size
    have ah0 := slRep.ch k_Candidate_pos ah0 c26
    have k4 := k4.ch0 c26
    have c0 := c0.then0 c26
    refine rl_assign rfl rfl ?_
    refine RL.nil ?_
    refine thn_n ?_
    refine CW.seq ?_
    obtain ⟨y33, hy34, hS⟩ := bindS hS
    obtain ⟨y39, hy40, hS⟩ := bindS hS
    obtain ⟨y45, hy46, hS⟩ := bindS hS
    obtain ⟨y51, hy52, hS⟩ := bindS hS
    obtain ⟨b75, hb76, hS⟩ := bindS hS
    obtain ⟨b87, hb88, hS⟩ := bindS hS
    refine CW.cutN (fun E' w' => Sub [(4, (Value.bool b87))] E' ∧ Ch nb w25 w') ?_ ?_
    ·
     rcases Bool.eq_false_or_eq_true y51 with hg89 | hg89
     ·
      have hs90 := andO_t hg89 hb76
      obtain ⟨y55, hy56, hs90⟩ := bindS hs90
      obtain ⟨y61, hy62, hs90⟩ := bindS hs90
      obtain ⟨y67, hy68, hs90⟩ := bindS hs90
      obtain ⟨y73, hy74, hs90⟩ := bindS hs90
      rcases Bool.eq_false_or_eq_true b75 with hg91 | hg91
      ·
       have hs92 := andO_t hg91 hb88
       obtain ⟨y79, hy80, hs92⟩ := bindS hs92
       obtain ⟨y85, hy86, hs92⟩ := bindS hs92
       refine CW.draw 22 [(none, fun _ O uu wx => uu = av0), (none, fun _ O uu wx => ∃ (v35 : Value), uu = v35 ∧ slRep k_Candidate (G F w.heap.size nb) wx y33 v35), (none, fun _ O uu wx => ∃ (v41 : Value), uu = v41 ∧ slRep k_Candidate (G F w.heap.size nb) wx y39 v41), (none, fun _ O uu wx => uu = v29), (none, fun _ O uu wx => ∃ (v47 : Value), uu = v47 ∧ slRep k_Candidate (G F w.heap.size nb) wx y45 v47), (none, fun _ O uu wx => uu = (Value.bool y51)), (none, fun _ O uu wx => uu = (Value.bool y51)), (none, fun _ O uu wx => uu = av0), (none, fun _ O uu wx => uu = (Value.agg (Want.enc a1).toArray)), (none, fun _ O uu wx => ∃ (v57 : Value), uu = v57 ∧ slRep k_Candidate (G F w.heap.size nb) wx y55 v57), (none, fun _ O uu wx => ∃ (v63 : Value), uu = v63 ∧ slRep k_Candidate (G F w.heap.size nb) wx y61 v63), (none, fun _ O uu wx => uu = v29), (none, fun _ O uu wx => uu = (Value.agg (Want.enc a1).toArray)), (none, fun _ O uu wx => ∃ (v69 : Value), uu = v69 ∧ slRep k_Candidate (G F w.heap.size nb) wx y67 v69), (none, fun _ O uu wx => uu = (Value.bool y73)), (none, fun _ O uu wx => uu = (Value.bool b75)), (none, fun _ O uu wx => uu = (Value.bool b75)), (none, fun _ O uu wx => uu = av0), (none, fun _ O uu wx => ∃ (v81 : Value), uu = v81 ∧ slRep k_Candidate (G F w.heap.size nb) wx y79 v81), (none, fun _ O uu wx => uu = v29), (none, fun _ O uu wx => uu = (Value.bool y85)), (none, fun _ O uu wx => uu = (Value.bool b87))] [[], [0], [1], [], [3], [2, 4], [5], [6], [6], [6, 7, 8], [6, 9], [6], [6], [6, 11, 12], [6, 10, 13], [6, 14], [15], [16], [16, 17], [16], [16, 18, 19], [16, 20]] [21] nb (fun _ h => h.elim) mixed rfl rfl rfl rfl ?_ ?_
       ·
        refine Each.consA ⟨fun _ _ _ _ _ _ h => h, fun h => absurd rfl h, fun O wk hO ck => ?_⟩ ?_
        ·
         have ah0 := slRep.ch k_Candidate_pos ah0 ck
         have k4 := k4.ch0 ck
         have h30 := slRep.ch k_Candidate_pos h30 ck
         have c0 := c0.then0 ck
         refine rl_move rfl rfl ?_
         exact RL.nil ⟨_, rfl, Ch.refl, rfl⟩
        refine Each.consA ⟨fun _ _ _ _ _ cc hh => by obtain ⟨v35, e, h36⟩ := hh; exact ⟨v35, e, slRep.ch k_Candidate_pos h36 cc⟩, fun h => absurd rfl h, fun O wk hO ck => ?_⟩ ?_
        ·
         have ah0 := slRep.ch k_Candidate_pos ah0 ck
         have k4 := k4.ch0 ck
         have h30 := slRep.ch k_Candidate_pos h30 ck
         have c0 := c0.then0 ck
         refine Need.one rfl rfl rfl ?_
         rintro _ e93
         obtain rfl := e93.symm
         refine rl_callF rfl en11 rfl (ctr11 (G F w.heap.size nb) wk a0 av0 ah0 y33 hy34) ?_
         rintro v96 w94 ⟨_, rfl, h97, c95⟩
         have h97 := SlO.backR k_Candidate_pos h97 nbS c0.size
         have ah0 := slRep.ch k_Candidate_pos ah0 c95
         have k4 := k4.ch0 c95
         have h30 := slRep.ch k_Candidate_pos h30 c95
         have c0 := c0.then0 c95
         exact RL.nil ⟨_, rfl, c95, ⟨v96, rfl, h97⟩⟩
        refine Each.consA ⟨fun _ _ _ _ _ cc hh => by obtain ⟨v41, e, h42⟩ := hh; exact ⟨v41, e, slRep.ch k_Candidate_pos h42 cc⟩, fun h => absurd rfl h, fun O wk hO ck => ?_⟩ ?_
        ·
         have ah0 := slRep.ch k_Candidate_pos ah0 ck
         have k4 := k4.ch0 ck
         have h30 := slRep.ch k_Candidate_pos h30 ck
         have c0 := c0.then0 ck
         refine Need.one rfl rfl rfl ?_
         rintro _ ⟨v35, e98, h36⟩
         obtain rfl := e98.symm
         refine rl_callF rfl en9 rfl (ctr9 (G F w.heap.size nb) wk y33 v35 h36 y39 hy40) ?_
         rintro v101 w99 ⟨_, rfl, h102, c100⟩
         have h102 := SlO.backR k_Candidate_pos h102 nbS c0.size
         have ah0 := slRep.ch k_Candidate_pos ah0 c100
         have k4 := k4.ch0 c100
         have h30 := slRep.ch k_Candidate_pos h30 c100
         have h36 := slRep.ch k_Candidate_pos h36 c100
         have c0 := c0.then0 c100
         exact RL.nil ⟨_, rfl, c100, ⟨v101, rfl, h102⟩⟩
        refine Each.consA ⟨fun _ _ _ _ _ _ h => h, fun h => absurd rfl h, fun O wk hO ck => ?_⟩ ?_
        ·
         have ah0 := slRep.ch k_Candidate_pos ah0 ck
         have k4 := k4.ch0 ck
         have h30 := slRep.ch k_Candidate_pos h30 ck
         have c0 := c0.then0 ck
         refine rl_move rfl rfl ?_
         exact RL.nil ⟨_, rfl, Ch.refl, rfl⟩
        refine Each.consA ⟨fun _ _ _ _ _ cc hh => by obtain ⟨v47, e, h48⟩ := hh; exact ⟨v47, e, slRep.ch k_Candidate_pos h48 cc⟩, fun h => absurd rfl h, fun O wk hO ck => ?_⟩ ?_
        ·
         have ah0 := slRep.ch k_Candidate_pos ah0 ck
         have k4 := k4.ch0 ck
         have h30 := slRep.ch k_Candidate_pos h30 ck
         have c0 := c0.then0 ck
         refine Need.one rfl rfl rfl ?_
         rintro _ e103
         obtain rfl := e103.symm
         refine rl_callF rfl en12 rfl (ctr12 (G F w.heap.size nb) wk y27 v29 h30 y45 hy46) ?_
         rintro v106 w104 ⟨_, rfl, h107, c105⟩
         have h107 := SlO.backR k_Candidate_pos h107 nbS c0.size
         have ah0 := slRep.ch k_Candidate_pos ah0 c105
         have k4 := k4.ch0 c105
         have h30 := slRep.ch k_Candidate_pos h30 c105
         have c0 := c0.then0 c105
         exact RL.nil ⟨_, rfl, c105, ⟨v106, rfl, h107⟩⟩
        refine Each.consA ⟨fun _ _ _ _ _ _ h => h, fun h => absurd rfl h, fun O wk hO ck => ?_⟩ ?_
        ·
         have ah0 := slRep.ch k_Candidate_pos ah0 ck
         have k4 := k4.ch0 ck
         have h30 := slRep.ch k_Candidate_pos h30 ck
         have c0 := c0.then0 ck
         refine Need.one rfl rfl rfl ?_
         rintro _ ⟨v41, e108, h42⟩
         obtain rfl := e108.symm
         refine Need.one rfl rfl rfl ?_
         rintro _ ⟨v47, e109, h48⟩
         obtain rfl := e109.symm
         refine rl_callF rfl en10 rfl (ctr10 (G F w.heap.size nb) wk y39 v41 h42 y45 v47 h48 y51 hy52) ?_
         rintro _ w110 ⟨rfl, c111⟩
         have ah0 := slRep.ch k_Candidate_pos ah0 c111
         have k4 := k4.ch0 c111
         have h30 := slRep.ch k_Candidate_pos h30 c111
         have h42 := slRep.ch k_Candidate_pos h42 c111
         have h48 := slRep.ch k_Candidate_pos h48 c111
         have c0 := c0.then0 c111
         exact RL.nil ⟨_, rfl, c111, rfl⟩
        refine Each.consA ⟨fun _ _ _ _ _ _ h => h, fun h => absurd rfl h, fun O wk hO ck => ?_⟩ ?_
        ·
         have ah0 := slRep.ch k_Candidate_pos ah0 ck
         have k4 := k4.ch0 ck
         have h30 := slRep.ch k_Candidate_pos h30 ck
         have c0 := c0.then0 ck
         refine Need.one rfl rfl rfl ?_
         rintro _ e112
         obtain rfl := e112.symm
         refine rl_move rfl rfl ?_
         exact RL.nil ⟨_, rfl, Ch.refl, rfl⟩
        refine Each.consA ⟨fun _ _ _ _ _ _ h => h, fun h => absurd rfl h, fun O wk hO ck => ?_⟩ ?_
        ·
         have ah0 := slRep.ch k_Candidate_pos ah0 ck
         have k4 := k4.ch0 ck
         have h30 := slRep.ch k_Candidate_pos h30 ck
         have c0 := c0.then0 ck
         refine Need.one rfl rfl rfl ?_
         rintro _ e113
         obtain rfl := e113.symm
         refine RL.yes rfl rfl rfl hg89 ?_
         refine rl_move rfl rfl ?_
         exact RL.nil ⟨_, rfl, Ch.refl, rfl⟩
        refine Each.consA ⟨fun _ _ _ _ _ _ h => h, fun h => absurd rfl h, fun O wk hO ck => ?_⟩ ?_
        ·
         have ah0 := slRep.ch k_Candidate_pos ah0 ck
         have k4 := k4.ch0 ck
         have h30 := slRep.ch k_Candidate_pos h30 ck
         have c0 := c0.then0 ck
         refine Need.one rfl rfl rfl ?_
         rintro _ e114
         obtain rfl := e114.symm
         refine RL.yes rfl rfl rfl hg89 ?_
         refine rl_loadA (cs := (Want.enc a1)) rfl Try.isAgg24 Try.sizeOf24 (k4.segAt 0 7) rfl rfl ?_
         exact RL.nil ⟨_, rfl, Ch.refl, rfl⟩
        refine Each.consA ⟨fun _ _ _ _ _ cc hh => by obtain ⟨v57, e, h58⟩ := hh; exact ⟨v57, e, slRep.ch k_Candidate_pos h58 cc⟩, fun h => absurd rfl h, fun O wk hO ck => ?_⟩ ?_
        ·
         have ah0 := slRep.ch k_Candidate_pos ah0 ck
         have k4 := k4.ch0 ck
         have h30 := slRep.ch k_Candidate_pos h30 ck
         have c0 := c0.then0 ck
         refine Need.one rfl rfl rfl ?_
         rintro _ e115
         obtain rfl := e115.symm
         refine Need.one rfl rfl rfl ?_
         rintro _ e116
         obtain rfl := e116.symm
         refine Need.one rfl rfl rfl ?_
         rintro _ e117
         obtain rfl := e117.symm
         refine RL.yes rfl rfl rfl hg89 ?_
         refine rl_callF rfl en13 rfl (ctr13 (G F w.heap.size nb) wk a0 av0 ah0 a1 y55 hy56) ?_
         rintro v120 w118 ⟨_, rfl, h121, c119⟩
         have h121 := SlO.backR k_Candidate_pos h121 nbS c0.size
         have ah0 := slRep.ch k_Candidate_pos ah0 c119
         have k4 := k4.ch0 c119
         have h30 := slRep.ch k_Candidate_pos h30 c119
         have c0 := c0.then0 c119
         exact RL.nil ⟨_, rfl, c119, ⟨v120, rfl, h121⟩⟩
        refine Each.consA ⟨fun _ _ _ _ _ cc hh => by obtain ⟨v63, e, h64⟩ := hh; exact ⟨v63, e, slRep.ch k_Candidate_pos h64 cc⟩, fun h => absurd rfl h, fun O wk hO ck => ?_⟩ ?_
        ·
         have ah0 := slRep.ch k_Candidate_pos ah0 ck
         have k4 := k4.ch0 ck
         have h30 := slRep.ch k_Candidate_pos h30 ck
         have c0 := c0.then0 ck
         refine Need.one rfl rfl rfl ?_
         rintro _ e122
         obtain rfl := e122.symm
         refine Need.one rfl rfl rfl ?_
         rintro _ ⟨v57, e123, h58⟩
         obtain rfl := e123.symm
         refine RL.yes rfl rfl rfl hg89 ?_
         refine rl_callF rfl en9 rfl (ctr9 (G F w.heap.size nb) wk y55 v57 h58 y61 hy62) ?_
         rintro v126 w124 ⟨_, rfl, h127, c125⟩
         have h127 := SlO.backR k_Candidate_pos h127 nbS c0.size
         have ah0 := slRep.ch k_Candidate_pos ah0 c125
         have k4 := k4.ch0 c125
         have h30 := slRep.ch k_Candidate_pos h30 c125
         have h58 := slRep.ch k_Candidate_pos h58 c125
         have c0 := c0.then0 c125
         exact RL.nil ⟨_, rfl, c125, ⟨v126, rfl, h127⟩⟩
        refine Each.consA ⟨fun _ _ _ _ _ _ h => h, fun h => absurd rfl h, fun O wk hO ck => ?_⟩ ?_
        ·
         have ah0 := slRep.ch k_Candidate_pos ah0 ck
         have k4 := k4.ch0 ck
         have h30 := slRep.ch k_Candidate_pos h30 ck
         have c0 := c0.then0 ck
         refine Need.one rfl rfl rfl ?_
         rintro _ e128
         obtain rfl := e128.symm
         refine RL.yes rfl rfl rfl hg89 ?_
         refine rl_move rfl rfl ?_
         exact RL.nil ⟨_, rfl, Ch.refl, rfl⟩
        refine Each.consA ⟨fun _ _ _ _ _ _ h => h, fun h => absurd rfl h, fun O wk hO ck => ?_⟩ ?_
        ·
         have ah0 := slRep.ch k_Candidate_pos ah0 ck
         have k4 := k4.ch0 ck
         have h30 := slRep.ch k_Candidate_pos h30 ck
         have c0 := c0.then0 ck
         refine Need.one rfl rfl rfl ?_
         rintro _ e129
         obtain rfl := e129.symm
         refine RL.yes rfl rfl rfl hg89 ?_
         refine rl_loadA (cs := (Want.enc a1)) rfl Try.isAgg24 Try.sizeOf24 (k4.segAt 0 7) rfl rfl ?_
         exact RL.nil ⟨_, rfl, Ch.refl, rfl⟩
        refine Each.consA ⟨fun _ _ _ _ _ cc hh => by obtain ⟨v69, e, h70⟩ := hh; exact ⟨v69, e, slRep.ch k_Candidate_pos h70 cc⟩, fun h => absurd rfl h, fun O wk hO ck => ?_⟩ ?_
        ·
         have ah0 := slRep.ch k_Candidate_pos ah0 ck
         have k4 := k4.ch0 ck
         have h30 := slRep.ch k_Candidate_pos h30 ck
         have c0 := c0.then0 ck
         refine Need.one rfl rfl rfl ?_
         rintro _ e130
         obtain rfl := e130.symm
         refine Need.one rfl rfl rfl ?_
         rintro _ e131
         obtain rfl := e131.symm
         refine Need.one rfl rfl rfl ?_
         rintro _ e132
         obtain rfl := e132.symm
         refine RL.yes rfl rfl rfl hg89 ?_
         refine rl_callF rfl en14 rfl (ctr14 (G F w.heap.size nb) wk y27 v29 h30 a1 y67 hy68) ?_
         rintro v135 w133 ⟨_, rfl, h136, c134⟩
         have h136 := SlO.backR k_Candidate_pos h136 nbS c0.size
         have ah0 := slRep.ch k_Candidate_pos ah0 c134
         have k4 := k4.ch0 c134
         have h30 := slRep.ch k_Candidate_pos h30 c134
         have c0 := c0.then0 c134
         exact RL.nil ⟨_, rfl, c134, ⟨v135, rfl, h136⟩⟩
        refine Each.consA ⟨fun _ _ _ _ _ _ h => h, fun h => absurd rfl h, fun O wk hO ck => ?_⟩ ?_
        ·
         have ah0 := slRep.ch k_Candidate_pos ah0 ck
         have k4 := k4.ch0 ck
         have h30 := slRep.ch k_Candidate_pos h30 ck
         have c0 := c0.then0 ck
         refine Need.one rfl rfl rfl ?_
         rintro _ e137
         obtain rfl := e137.symm
         refine Need.one rfl rfl rfl ?_
         rintro _ ⟨v63, e138, h64⟩
         obtain rfl := e138.symm
         refine Need.one rfl rfl rfl ?_
         rintro _ ⟨v69, e139, h70⟩
         obtain rfl := e139.symm
         refine RL.yes rfl rfl rfl hg89 ?_
         refine rl_callF rfl en10 rfl (ctr10 (G F w.heap.size nb) wk y61 v63 h64 y67 v69 h70 y73 hy74) ?_
         rintro _ w140 ⟨rfl, c141⟩
         have ah0 := slRep.ch k_Candidate_pos ah0 c141
         have k4 := k4.ch0 c141
         have h30 := slRep.ch k_Candidate_pos h30 c141
         have h64 := slRep.ch k_Candidate_pos h64 c141
         have h70 := slRep.ch k_Candidate_pos h70 c141
         have c0 := c0.then0 c141
         exact RL.nil ⟨_, rfl, c141, rfl⟩
        refine Each.consA ⟨fun _ _ _ _ _ _ h => h, fun h => absurd rfl h, fun O wk hO ck => ?_⟩ ?_
        ·
         refine Need.one rfl rfl rfl ?_
         rintro _ e142
         obtain rfl := e142.symm
         refine Need.one rfl rfl rfl ?_
         rintro _ e143
         obtain rfl := e143.symm
         refine rl_pickT rfl hg89 rfl rfl ?_
         exact RL.nil ⟨_, rfl, Ch.refl, congrArg Value.bool (Option.some.inj hs90)⟩
        refine Each.consA ⟨fun _ _ _ _ _ _ h => h, fun h => absurd rfl h, fun O wk hO ck => ?_⟩ ?_
        ·
         have ah0 := slRep.ch k_Candidate_pos ah0 ck
         have k4 := k4.ch0 ck
         have h30 := slRep.ch k_Candidate_pos h30 ck
         have c0 := c0.then0 ck
         refine Need.one rfl rfl rfl ?_
         rintro _ e144
         obtain rfl := e144.symm
         refine rl_move rfl rfl ?_
         exact RL.nil ⟨_, rfl, Ch.refl, rfl⟩
        refine Each.consA ⟨fun _ _ _ _ _ _ h => h, fun h => absurd rfl h, fun O wk hO ck => ?_⟩ ?_
        ·
         have ah0 := slRep.ch k_Candidate_pos ah0 ck
         have k4 := k4.ch0 ck
         have h30 := slRep.ch k_Candidate_pos h30 ck
         have c0 := c0.then0 ck
         refine Need.one rfl rfl rfl ?_
         rintro _ e145
         obtain rfl := e145.symm
         refine RL.yes rfl rfl rfl hg91 ?_
         refine rl_move rfl rfl ?_
         exact RL.nil ⟨_, rfl, Ch.refl, rfl⟩
        refine Each.consA ⟨fun _ _ _ _ _ cc hh => by obtain ⟨v81, e, h82⟩ := hh; exact ⟨v81, e, slRep.ch k_Candidate_pos h82 cc⟩, fun h => absurd rfl h, fun O wk hO ck => ?_⟩ ?_
        ·
         have ah0 := slRep.ch k_Candidate_pos ah0 ck
         have k4 := k4.ch0 ck
         have h30 := slRep.ch k_Candidate_pos h30 ck
         have c0 := c0.then0 ck
         refine Need.one rfl rfl rfl ?_
         rintro _ e146
         obtain rfl := e146.symm
         refine Need.one rfl rfl rfl ?_
         rintro _ e147
         obtain rfl := e147.symm
         refine RL.yes rfl rfl rfl hg91 ?_
         refine rl_callF rfl en9 rfl (ctr9 (G F w.heap.size nb) wk a0 av0 ah0 y79 hy80) ?_
         rintro v150 w148 ⟨_, rfl, h151, c149⟩
         have h151 := SlO.backR k_Candidate_pos h151 nbS c0.size
         have ah0 := slRep.ch k_Candidate_pos ah0 c149
         have k4 := k4.ch0 c149
         have h30 := slRep.ch k_Candidate_pos h30 c149
         have c0 := c0.then0 c149
         exact RL.nil ⟨_, rfl, c149, ⟨v150, rfl, h151⟩⟩
        refine Each.consA ⟨fun _ _ _ _ _ _ h => h, fun h => absurd rfl h, fun O wk hO ck => ?_⟩ ?_
        ·
         have ah0 := slRep.ch k_Candidate_pos ah0 ck
         have k4 := k4.ch0 ck
         have h30 := slRep.ch k_Candidate_pos h30 ck
         have c0 := c0.then0 ck
         refine Need.one rfl rfl rfl ?_
         rintro _ e152
         obtain rfl := e152.symm
         refine RL.yes rfl rfl rfl hg91 ?_
         refine rl_move rfl rfl ?_
         exact RL.nil ⟨_, rfl, Ch.refl, rfl⟩
        refine Each.consA ⟨fun _ _ _ _ _ _ h => h, fun h => absurd rfl h, fun O wk hO ck => ?_⟩ ?_
        ·
         have ah0 := slRep.ch k_Candidate_pos ah0 ck
         have k4 := k4.ch0 ck
         have h30 := slRep.ch k_Candidate_pos h30 ck
         have c0 := c0.then0 ck
         refine Need.one rfl rfl rfl ?_
         rintro _ e153
         obtain rfl := e153.symm
         refine Need.one rfl rfl rfl ?_
         rintro _ ⟨v81, e154, h82⟩
         obtain rfl := e154.symm
         refine Need.one rfl rfl rfl ?_
         rintro _ e155
         obtain rfl := e155.symm
         refine RL.yes rfl rfl rfl hg91 ?_
         refine rl_callF rfl en10 rfl (ctr10 (G F w.heap.size nb) wk y79 v81 h82 y27 v29 h30 y85 hy86) ?_
         rintro _ w156 ⟨rfl, c157⟩
         have ah0 := slRep.ch k_Candidate_pos ah0 c157
         have k4 := k4.ch0 c157
         have h30 := slRep.ch k_Candidate_pos h30 c157
         have h82 := slRep.ch k_Candidate_pos h82 c157
         have c0 := c0.then0 c157
         exact RL.nil ⟨_, rfl, c157, rfl⟩
        refine Each.consA ⟨fun _ _ _ _ _ _ h => h, fun h => absurd rfl h, fun O wk hO ck => ?_⟩ ?_
        ·
         refine Need.one rfl rfl rfl ?_
         rintro _ e158
         obtain rfl := e158.symm
         refine Need.one rfl rfl rfl ?_
         rintro _ e159
         obtain rfl := e159.symm
         refine rl_pickT rfl hg91 rfl rfl ?_
         exact RL.nil ⟨_, rfl, Ch.refl, congrArg Value.bool (Option.some.inj hs92)⟩
        trivial
       ·
        intro hvO162 OpO162 O162 w160 hO163 c161 hN164
        have ah0 := slRep.ch k_Candidate_pos ah0 c161
        have k4 := k4.ch0 c161
        have h30 := slRep.ch k_Candidate_pos h30 c161
        have c0 := c0.then0 c161
        refine Need.one rfl rfl rfl ?_
        rintro _ e165
        obtain rfl := e165.symm
        refine rl_assign rfl rfl ?_
        exact RL.nil ⟨rfl, ⟨rfl, trivial⟩, c161⟩
      ·
       have hs166 := andO_f hg91 hb88
       refine CW.draw 22 [(none, fun _ O uu wx => uu = av0), (none, fun _ O uu wx => ∃ (v35 : Value), uu = v35 ∧ slRep k_Candidate (G F w.heap.size nb) wx y33 v35), (none, fun _ O uu wx => ∃ (v41 : Value), uu = v41 ∧ slRep k_Candidate (G F w.heap.size nb) wx y39 v41), (none, fun _ O uu wx => uu = v29), (none, fun _ O uu wx => ∃ (v47 : Value), uu = v47 ∧ slRep k_Candidate (G F w.heap.size nb) wx y45 v47), (none, fun _ O uu wx => uu = (Value.bool y51)), (none, fun _ O uu wx => uu = (Value.bool y51)), (none, fun _ O uu wx => uu = av0), (none, fun _ O uu wx => uu = (Value.agg (Want.enc a1).toArray)), (none, fun _ O uu wx => ∃ (v57 : Value), uu = v57 ∧ slRep k_Candidate (G F w.heap.size nb) wx y55 v57), (none, fun _ O uu wx => ∃ (v63 : Value), uu = v63 ∧ slRep k_Candidate (G F w.heap.size nb) wx y61 v63), (none, fun _ O uu wx => uu = v29), (none, fun _ O uu wx => uu = (Value.agg (Want.enc a1).toArray)), (none, fun _ O uu wx => ∃ (v69 : Value), uu = v69 ∧ slRep k_Candidate (G F w.heap.size nb) wx y67 v69), (none, fun _ O uu wx => uu = (Value.bool y73)), (none, fun _ O uu wx => uu = (Value.bool b75)), (none, fun _ O uu wx => uu = (Value.bool b75)), (none, fun _ O uu wx => uu = undef), (none, fun _ O uu wx => uu = undef), (none, fun _ O uu wx => uu = undef), (none, fun _ O uu wx => uu = undef), (none, fun _ O uu wx => uu = (Value.bool b87))] [[], [0], [1], [], [3], [2, 4], [5], [6], [6], [6, 7, 8], [6, 9], [6], [6], [6, 11, 12], [6, 10, 13], [6, 14], [15], [16], [16], [16], [16], [16]] [21] nb (fun _ h => h.elim) mixed rfl rfl rfl rfl ?_ ?_
       ·
        refine Each.consA ⟨fun _ _ _ _ _ _ h => h, fun h => absurd rfl h, fun O wk hO ck => ?_⟩ ?_
        ·
         have ah0 := slRep.ch k_Candidate_pos ah0 ck
         have k4 := k4.ch0 ck
         have h30 := slRep.ch k_Candidate_pos h30 ck
         have c0 := c0.then0 ck
         refine rl_move rfl rfl ?_
         exact RL.nil ⟨_, rfl, Ch.refl, rfl⟩
        refine Each.consA ⟨fun _ _ _ _ _ cc hh => by obtain ⟨v35, e, h36⟩ := hh; exact ⟨v35, e, slRep.ch k_Candidate_pos h36 cc⟩, fun h => absurd rfl h, fun O wk hO ck => ?_⟩ ?_
        ·
         have ah0 := slRep.ch k_Candidate_pos ah0 ck
         have k4 := k4.ch0 ck
         have h30 := slRep.ch k_Candidate_pos h30 ck
         have c0 := c0.then0 ck
         refine Need.one rfl rfl rfl ?_
         rintro _ e167
         obtain rfl := e167.symm
         refine rl_callF rfl en11 rfl (ctr11 (G F w.heap.size nb) wk a0 av0 ah0 y33 hy34) ?_
         rintro v170 w168 ⟨_, rfl, h171, c169⟩
         have h171 := SlO.backR k_Candidate_pos h171 nbS c0.size
         have ah0 := slRep.ch k_Candidate_pos ah0 c169
         have k4 := k4.ch0 c169
         have h30 := slRep.ch k_Candidate_pos h30 c169
         have c0 := c0.then0 c169
         exact RL.nil ⟨_, rfl, c169, ⟨v170, rfl, h171⟩⟩
        refine Each.consA ⟨fun _ _ _ _ _ cc hh => by obtain ⟨v41, e, h42⟩ := hh; exact ⟨v41, e, slRep.ch k_Candidate_pos h42 cc⟩, fun h => absurd rfl h, fun O wk hO ck => ?_⟩ ?_
        ·
         have ah0 := slRep.ch k_Candidate_pos ah0 ck
         have k4 := k4.ch0 ck
         have h30 := slRep.ch k_Candidate_pos h30 ck
         have c0 := c0.then0 ck
         refine Need.one rfl rfl rfl ?_
         rintro _ ⟨v35, e172, h36⟩
         obtain rfl := e172.symm
         refine rl_callF rfl en9 rfl (ctr9 (G F w.heap.size nb) wk y33 v35 h36 y39 hy40) ?_
         rintro v175 w173 ⟨_, rfl, h176, c174⟩
         have h176 := SlO.backR k_Candidate_pos h176 nbS c0.size
         have ah0 := slRep.ch k_Candidate_pos ah0 c174
         have k4 := k4.ch0 c174
         have h30 := slRep.ch k_Candidate_pos h30 c174
         have h36 := slRep.ch k_Candidate_pos h36 c174
         have c0 := c0.then0 c174
         exact RL.nil ⟨_, rfl, c174, ⟨v175, rfl, h176⟩⟩
        refine Each.consA ⟨fun _ _ _ _ _ _ h => h, fun h => absurd rfl h, fun O wk hO ck => ?_⟩ ?_
        ·
         have ah0 := slRep.ch k_Candidate_pos ah0 ck
         have k4 := k4.ch0 ck
         have h30 := slRep.ch k_Candidate_pos h30 ck
         have c0 := c0.then0 ck
         refine rl_move rfl rfl ?_
         exact RL.nil ⟨_, rfl, Ch.refl, rfl⟩
        refine Each.consA ⟨fun _ _ _ _ _ cc hh => by obtain ⟨v47, e, h48⟩ := hh; exact ⟨v47, e, slRep.ch k_Candidate_pos h48 cc⟩, fun h => absurd rfl h, fun O wk hO ck => ?_⟩ ?_
        ·
         have ah0 := slRep.ch k_Candidate_pos ah0 ck
         have k4 := k4.ch0 ck
         have h30 := slRep.ch k_Candidate_pos h30 ck
         have c0 := c0.then0 ck
         refine Need.one rfl rfl rfl ?_
         rintro _ e177
         obtain rfl := e177.symm
         refine rl_callF rfl en12 rfl (ctr12 (G F w.heap.size nb) wk y27 v29 h30 y45 hy46) ?_
         rintro v180 w178 ⟨_, rfl, h181, c179⟩
         have h181 := SlO.backR k_Candidate_pos h181 nbS c0.size
         have ah0 := slRep.ch k_Candidate_pos ah0 c179
         have k4 := k4.ch0 c179
         have h30 := slRep.ch k_Candidate_pos h30 c179
         have c0 := c0.then0 c179
         exact RL.nil ⟨_, rfl, c179, ⟨v180, rfl, h181⟩⟩
        refine Each.consA ⟨fun _ _ _ _ _ _ h => h, fun h => absurd rfl h, fun O wk hO ck => ?_⟩ ?_
        ·
         have ah0 := slRep.ch k_Candidate_pos ah0 ck
         have k4 := k4.ch0 ck
         have h30 := slRep.ch k_Candidate_pos h30 ck
         have c0 := c0.then0 ck
         refine Need.one rfl rfl rfl ?_
         rintro _ ⟨v41, e182, h42⟩
         obtain rfl := e182.symm
         refine Need.one rfl rfl rfl ?_
         rintro _ ⟨v47, e183, h48⟩
         obtain rfl := e183.symm
         refine rl_callF rfl en10 rfl (ctr10 (G F w.heap.size nb) wk y39 v41 h42 y45 v47 h48 y51 hy52) ?_
         rintro _ w184 ⟨rfl, c185⟩
         have ah0 := slRep.ch k_Candidate_pos ah0 c185
         have k4 := k4.ch0 c185
         have h30 := slRep.ch k_Candidate_pos h30 c185
         have h42 := slRep.ch k_Candidate_pos h42 c185
         have h48 := slRep.ch k_Candidate_pos h48 c185
         have c0 := c0.then0 c185
         exact RL.nil ⟨_, rfl, c185, rfl⟩
        refine Each.consA ⟨fun _ _ _ _ _ _ h => h, fun h => absurd rfl h, fun O wk hO ck => ?_⟩ ?_
        ·
         have ah0 := slRep.ch k_Candidate_pos ah0 ck
         have k4 := k4.ch0 ck
         have h30 := slRep.ch k_Candidate_pos h30 ck
         have c0 := c0.then0 ck
         refine Need.one rfl rfl rfl ?_
         rintro _ e186
         obtain rfl := e186.symm
         refine rl_move rfl rfl ?_
         exact RL.nil ⟨_, rfl, Ch.refl, rfl⟩
        refine Each.consA ⟨fun _ _ _ _ _ _ h => h, fun h => absurd rfl h, fun O wk hO ck => ?_⟩ ?_
        ·
         have ah0 := slRep.ch k_Candidate_pos ah0 ck
         have k4 := k4.ch0 ck
         have h30 := slRep.ch k_Candidate_pos h30 ck
         have c0 := c0.then0 ck
         refine Need.one rfl rfl rfl ?_
         rintro _ e187
         obtain rfl := e187.symm
         refine RL.yes rfl rfl rfl hg89 ?_
         refine rl_move rfl rfl ?_
         exact RL.nil ⟨_, rfl, Ch.refl, rfl⟩
        refine Each.consA ⟨fun _ _ _ _ _ _ h => h, fun h => absurd rfl h, fun O wk hO ck => ?_⟩ ?_
        ·
         have ah0 := slRep.ch k_Candidate_pos ah0 ck
         have k4 := k4.ch0 ck
         have h30 := slRep.ch k_Candidate_pos h30 ck
         have c0 := c0.then0 ck
         refine Need.one rfl rfl rfl ?_
         rintro _ e188
         obtain rfl := e188.symm
         refine RL.yes rfl rfl rfl hg89 ?_
         refine rl_loadA (cs := (Want.enc a1)) rfl Try.isAgg24 Try.sizeOf24 (k4.segAt 0 7) rfl rfl ?_
         exact RL.nil ⟨_, rfl, Ch.refl, rfl⟩
        refine Each.consA ⟨fun _ _ _ _ _ cc hh => by obtain ⟨v57, e, h58⟩ := hh; exact ⟨v57, e, slRep.ch k_Candidate_pos h58 cc⟩, fun h => absurd rfl h, fun O wk hO ck => ?_⟩ ?_
        ·
         have ah0 := slRep.ch k_Candidate_pos ah0 ck
         have k4 := k4.ch0 ck
         have h30 := slRep.ch k_Candidate_pos h30 ck
         have c0 := c0.then0 ck
         refine Need.one rfl rfl rfl ?_
         rintro _ e189
         obtain rfl := e189.symm
         refine Need.one rfl rfl rfl ?_
         rintro _ e190
         obtain rfl := e190.symm
         refine Need.one rfl rfl rfl ?_
         rintro _ e191
         obtain rfl := e191.symm
         refine RL.yes rfl rfl rfl hg89 ?_
         refine rl_callF rfl en13 rfl (ctr13 (G F w.heap.size nb) wk a0 av0 ah0 a1 y55 hy56) ?_
         rintro v194 w192 ⟨_, rfl, h195, c193⟩
         have h195 := SlO.backR k_Candidate_pos h195 nbS c0.size
         have ah0 := slRep.ch k_Candidate_pos ah0 c193
         have k4 := k4.ch0 c193
         have h30 := slRep.ch k_Candidate_pos h30 c193
         have c0 := c0.then0 c193
         exact RL.nil ⟨_, rfl, c193, ⟨v194, rfl, h195⟩⟩
        refine Each.consA ⟨fun _ _ _ _ _ cc hh => by obtain ⟨v63, e, h64⟩ := hh; exact ⟨v63, e, slRep.ch k_Candidate_pos h64 cc⟩, fun h => absurd rfl h, fun O wk hO ck => ?_⟩ ?_
        ·
         have ah0 := slRep.ch k_Candidate_pos ah0 ck
         have k4 := k4.ch0 ck
         have h30 := slRep.ch k_Candidate_pos h30 ck
         have c0 := c0.then0 ck
         refine Need.one rfl rfl rfl ?_
         rintro _ e196
         obtain rfl := e196.symm
         refine Need.one rfl rfl rfl ?_
         rintro _ ⟨v57, e197, h58⟩
         obtain rfl := e197.symm
         refine RL.yes rfl rfl rfl hg89 ?_
         refine rl_callF rfl en9 rfl (ctr9 (G F w.heap.size nb) wk y55 v57 h58 y61 hy62) ?_
         rintro v200 w198 ⟨_, rfl, h201, c199⟩
         have h201 := SlO.backR k_Candidate_pos h201 nbS c0.size
         have ah0 := slRep.ch k_Candidate_pos ah0 c199
         have k4 := k4.ch0 c199
         have h30 := slRep.ch k_Candidate_pos h30 c199
         have h58 := slRep.ch k_Candidate_pos h58 c199
         have c0 := c0.then0 c199
         exact RL.nil ⟨_, rfl, c199, ⟨v200, rfl, h201⟩⟩
        refine Each.consA ⟨fun _ _ _ _ _ _ h => h, fun h => absurd rfl h, fun O wk hO ck => ?_⟩ ?_
        ·
         have ah0 := slRep.ch k_Candidate_pos ah0 ck
         have k4 := k4.ch0 ck
         have h30 := slRep.ch k_Candidate_pos h30 ck
         have c0 := c0.then0 ck
         refine Need.one rfl rfl rfl ?_
         rintro _ e202
         obtain rfl := e202.symm
         refine RL.yes rfl rfl rfl hg89 ?_
         refine rl_move rfl rfl ?_
         exact RL.nil ⟨_, rfl, Ch.refl, rfl⟩
        refine Each.consA ⟨fun _ _ _ _ _ _ h => h, fun h => absurd rfl h, fun O wk hO ck => ?_⟩ ?_
        ·
         have ah0 := slRep.ch k_Candidate_pos ah0 ck
         have k4 := k4.ch0 ck
         have h30 := slRep.ch k_Candidate_pos h30 ck
         have c0 := c0.then0 ck
         refine Need.one rfl rfl rfl ?_
         rintro _ e203
         obtain rfl := e203.symm
         refine RL.yes rfl rfl rfl hg89 ?_
         refine rl_loadA (cs := (Want.enc a1)) rfl Try.isAgg24 Try.sizeOf24 (k4.segAt 0 7) rfl rfl ?_
         exact RL.nil ⟨_, rfl, Ch.refl, rfl⟩
        refine Each.consA ⟨fun _ _ _ _ _ cc hh => by obtain ⟨v69, e, h70⟩ := hh; exact ⟨v69, e, slRep.ch k_Candidate_pos h70 cc⟩, fun h => absurd rfl h, fun O wk hO ck => ?_⟩ ?_
        ·
         have ah0 := slRep.ch k_Candidate_pos ah0 ck
         have k4 := k4.ch0 ck
         have h30 := slRep.ch k_Candidate_pos h30 ck
         have c0 := c0.then0 ck
         refine Need.one rfl rfl rfl ?_
         rintro _ e204
         obtain rfl := e204.symm
         refine Need.one rfl rfl rfl ?_
         rintro _ e205
         obtain rfl := e205.symm
         refine Need.one rfl rfl rfl ?_
         rintro _ e206
         obtain rfl := e206.symm
         refine RL.yes rfl rfl rfl hg89 ?_
         refine rl_callF rfl en14 rfl (ctr14 (G F w.heap.size nb) wk y27 v29 h30 a1 y67 hy68) ?_
         rintro v209 w207 ⟨_, rfl, h210, c208⟩
         have h210 := SlO.backR k_Candidate_pos h210 nbS c0.size
         have ah0 := slRep.ch k_Candidate_pos ah0 c208
         have k4 := k4.ch0 c208
         have h30 := slRep.ch k_Candidate_pos h30 c208
         have c0 := c0.then0 c208
         exact RL.nil ⟨_, rfl, c208, ⟨v209, rfl, h210⟩⟩
        refine Each.consA ⟨fun _ _ _ _ _ _ h => h, fun h => absurd rfl h, fun O wk hO ck => ?_⟩ ?_
        ·
         have ah0 := slRep.ch k_Candidate_pos ah0 ck
         have k4 := k4.ch0 ck
         have h30 := slRep.ch k_Candidate_pos h30 ck
         have c0 := c0.then0 ck
         refine Need.one rfl rfl rfl ?_
         rintro _ e211
         obtain rfl := e211.symm
         refine Need.one rfl rfl rfl ?_
         rintro _ ⟨v63, e212, h64⟩
         obtain rfl := e212.symm
         refine Need.one rfl rfl rfl ?_
         rintro _ ⟨v69, e213, h70⟩
         obtain rfl := e213.symm
         refine RL.yes rfl rfl rfl hg89 ?_
         refine rl_callF rfl en10 rfl (ctr10 (G F w.heap.size nb) wk y61 v63 h64 y67 v69 h70 y73 hy74) ?_
         rintro _ w214 ⟨rfl, c215⟩
         have ah0 := slRep.ch k_Candidate_pos ah0 c215
         have k4 := k4.ch0 c215
         have h30 := slRep.ch k_Candidate_pos h30 c215
         have h64 := slRep.ch k_Candidate_pos h64 c215
         have h70 := slRep.ch k_Candidate_pos h70 c215
         have c0 := c0.then0 c215
         exact RL.nil ⟨_, rfl, c215, rfl⟩
        refine Each.consA ⟨fun _ _ _ _ _ _ h => h, fun h => absurd rfl h, fun O wk hO ck => ?_⟩ ?_
        ·
         refine Need.one rfl rfl rfl ?_
         rintro _ e216
         obtain rfl := e216.symm
         refine Need.one rfl rfl rfl ?_
         rintro _ e217
         obtain rfl := e217.symm
         refine rl_pickT rfl hg89 rfl rfl ?_
         exact RL.nil ⟨_, rfl, Ch.refl, congrArg Value.bool (Option.some.inj hs90)⟩
        refine Each.consA ⟨fun _ _ _ _ _ _ h => h, fun h => absurd rfl h, fun O wk hO ck => ?_⟩ ?_
        ·
         have ah0 := slRep.ch k_Candidate_pos ah0 ck
         have k4 := k4.ch0 ck
         have h30 := slRep.ch k_Candidate_pos h30 ck
         have c0 := c0.then0 ck
         refine Need.one rfl rfl rfl ?_
         rintro _ e218
         obtain rfl := e218.symm
         refine rl_move rfl rfl ?_
         exact RL.nil ⟨_, rfl, Ch.refl, rfl⟩
        refine Each.consA ⟨fun _ _ _ _ _ _ h => h, fun h => absurd rfl h, fun O wk hO ck => ?_⟩ ?_
        ·
         refine Need.one rfl rfl rfl ?_
         rintro _ e219
         obtain rfl := e219.symm
         refine RL.no rfl rfl rfl hg91 rfl rfl ?_
         exact RL.nil ⟨_, rfl, Ch.refl, rfl⟩
        refine Each.consA ⟨fun _ _ _ _ _ _ h => h, fun h => absurd rfl h, fun O wk hO ck => ?_⟩ ?_
        ·
         refine Need.one rfl rfl rfl ?_
         rintro _ e220
         obtain rfl := e220.symm
         refine RL.no rfl rfl rfl hg91 rfl rfl ?_
         exact RL.nil ⟨_, rfl, Ch.refl, rfl⟩
        refine Each.consA ⟨fun _ _ _ _ _ _ h => h, fun h => absurd rfl h, fun O wk hO ck => ?_⟩ ?_
        ·
         refine Need.one rfl rfl rfl ?_
         rintro _ e221
         obtain rfl := e221.symm
         refine RL.no rfl rfl rfl hg91 rfl rfl ?_
         exact RL.nil ⟨_, rfl, Ch.refl, rfl⟩
        refine Each.consA ⟨fun _ _ _ _ _ _ h => h, fun h => absurd rfl h, fun O wk hO ck => ?_⟩ ?_
        ·
         refine Need.one rfl rfl rfl ?_
         rintro _ e222
         obtain rfl := e222.symm
         refine RL.no rfl rfl rfl hg91 rfl rfl ?_
         exact RL.nil ⟨_, rfl, Ch.refl, rfl⟩
        refine Each.consA ⟨fun _ _ _ _ _ _ h => h, fun h => absurd rfl h, fun O wk hO ck => ?_⟩ ?_
        ·
         refine Need.one rfl rfl rfl ?_
         rintro _ e223
         obtain rfl := e223.symm
         refine rl_pickF rfl hg91 rfl rfl ?_
         exact RL.nil ⟨_, rfl, Ch.refl, congrArg Value.bool (Option.some.inj hs166)⟩
        trivial
       ·
        intro hvO226 OpO226 O226 w224 hO227 c225 hN228
        have ah0 := slRep.ch k_Candidate_pos ah0 c225
        have k4 := k4.ch0 c225
        have h30 := slRep.ch k_Candidate_pos h30 c225
        have c0 := c0.then0 c225
        refine Need.one rfl rfl rfl ?_
        rintro _ e229
        obtain rfl := e229.symm
        refine rl_assign rfl rfl ?_
        exact RL.nil ⟨rfl, ⟨rfl, trivial⟩, c225⟩
     ·
      have hs230 := andO_f hg89 hb76
      have hs231 := andO_f (Option.some.inj hs230).symm hb88
      refine CW.draw 22 [(none, fun _ O uu wx => uu = av0), (none, fun _ O uu wx => ∃ (v35 : Value), uu = v35 ∧ slRep k_Candidate (G F w.heap.size nb) wx y33 v35), (none, fun _ O uu wx => ∃ (v41 : Value), uu = v41 ∧ slRep k_Candidate (G F w.heap.size nb) wx y39 v41), (none, fun _ O uu wx => uu = v29), (none, fun _ O uu wx => ∃ (v47 : Value), uu = v47 ∧ slRep k_Candidate (G F w.heap.size nb) wx y45 v47), (none, fun _ O uu wx => uu = (Value.bool y51)), (none, fun _ O uu wx => uu = (Value.bool y51)), (none, fun _ O uu wx => uu = undef), (none, fun _ O uu wx => uu = undef), (none, fun _ O uu wx => uu = undef), (none, fun _ O uu wx => uu = undef), (none, fun _ O uu wx => uu = undef), (none, fun _ O uu wx => uu = undef), (none, fun _ O uu wx => uu = undef), (none, fun _ O uu wx => uu = undef), (none, fun _ O uu wx => uu = (Value.bool b75)), (none, fun _ O uu wx => uu = (Value.bool b75)), (none, fun _ O uu wx => uu = undef), (none, fun _ O uu wx => uu = undef), (none, fun _ O uu wx => uu = undef), (none, fun _ O uu wx => uu = undef), (none, fun _ O uu wx => uu = (Value.bool b87))] [[], [0], [1], [], [3], [2, 4], [5], [6], [6], [6], [6], [6], [6], [6], [6], [6], [15], [16], [16], [16], [16], [16]] [21] nb (fun _ h => h.elim) mixed rfl rfl rfl rfl ?_ ?_
      ·
       refine Each.consA ⟨fun _ _ _ _ _ _ h => h, fun h => absurd rfl h, fun O wk hO ck => ?_⟩ ?_
       ·
        have ah0 := slRep.ch k_Candidate_pos ah0 ck
        have k4 := k4.ch0 ck
        have h30 := slRep.ch k_Candidate_pos h30 ck
        have c0 := c0.then0 ck
        refine rl_move rfl rfl ?_
        exact RL.nil ⟨_, rfl, Ch.refl, rfl⟩
       refine Each.consA ⟨fun _ _ _ _ _ cc hh => by obtain ⟨v35, e, h36⟩ := hh; exact ⟨v35, e, slRep.ch k_Candidate_pos h36 cc⟩, fun h => absurd rfl h, fun O wk hO ck => ?_⟩ ?_
       ·
        have ah0 := slRep.ch k_Candidate_pos ah0 ck
        have k4 := k4.ch0 ck
        have h30 := slRep.ch k_Candidate_pos h30 ck
        have c0 := c0.then0 ck
        refine Need.one rfl rfl rfl ?_
        rintro _ e232
        obtain rfl := e232.symm
        refine rl_callF rfl en11 rfl (ctr11 (G F w.heap.size nb) wk a0 av0 ah0 y33 hy34) ?_
        rintro v235 w233 ⟨_, rfl, h236, c234⟩
        have h236 := SlO.backR k_Candidate_pos h236 nbS c0.size
        have ah0 := slRep.ch k_Candidate_pos ah0 c234
        have k4 := k4.ch0 c234
        have h30 := slRep.ch k_Candidate_pos h30 c234
        have c0 := c0.then0 c234
        exact RL.nil ⟨_, rfl, c234, ⟨v235, rfl, h236⟩⟩
       refine Each.consA ⟨fun _ _ _ _ _ cc hh => by obtain ⟨v41, e, h42⟩ := hh; exact ⟨v41, e, slRep.ch k_Candidate_pos h42 cc⟩, fun h => absurd rfl h, fun O wk hO ck => ?_⟩ ?_
       ·
        have ah0 := slRep.ch k_Candidate_pos ah0 ck
        have k4 := k4.ch0 ck
        have h30 := slRep.ch k_Candidate_pos h30 ck
        have c0 := c0.then0 ck
        refine Need.one rfl rfl rfl ?_
        rintro _ ⟨v35, e237, h36⟩
        obtain rfl := e237.symm
        refine rl_callF rfl en9 rfl (ctr9 (G F w.heap.size nb) wk y33 v35 h36 y39 hy40) ?_
        rintro v240 w238 ⟨_, rfl, h241, c239⟩
        have h241 := SlO.backR k_Candidate_pos h241 nbS c0.size
        have ah0 := slRep.ch k_Candidate_pos ah0 c239
        have k4 := k4.ch0 c239
        have h30 := slRep.ch k_Candidate_pos h30 c239
        have h36 := slRep.ch k_Candidate_pos h36 c239
        have c0 := c0.then0 c239
        exact RL.nil ⟨_, rfl, c239, ⟨v240, rfl, h241⟩⟩
       refine Each.consA ⟨fun _ _ _ _ _ _ h => h, fun h => absurd rfl h, fun O wk hO ck => ?_⟩ ?_
       ·
        have ah0 := slRep.ch k_Candidate_pos ah0 ck
        have k4 := k4.ch0 ck
        have h30 := slRep.ch k_Candidate_pos h30 ck
        have c0 := c0.then0 ck
        refine rl_move rfl rfl ?_
        exact RL.nil ⟨_, rfl, Ch.refl, rfl⟩
       refine Each.consA ⟨fun _ _ _ _ _ cc hh => by obtain ⟨v47, e, h48⟩ := hh; exact ⟨v47, e, slRep.ch k_Candidate_pos h48 cc⟩, fun h => absurd rfl h, fun O wk hO ck => ?_⟩ ?_
       ·
        have ah0 := slRep.ch k_Candidate_pos ah0 ck
        have k4 := k4.ch0 ck
        have h30 := slRep.ch k_Candidate_pos h30 ck
        have c0 := c0.then0 ck
        refine Need.one rfl rfl rfl ?_
        rintro _ e242
        obtain rfl := e242.symm
        refine rl_callF rfl en12 rfl (ctr12 (G F w.heap.size nb) wk y27 v29 h30 y45 hy46) ?_
        rintro v245 w243 ⟨_, rfl, h246, c244⟩
        have h246 := SlO.backR k_Candidate_pos h246 nbS c0.size
        have ah0 := slRep.ch k_Candidate_pos ah0 c244
        have k4 := k4.ch0 c244
        have h30 := slRep.ch k_Candidate_pos h30 c244
        have c0 := c0.then0 c244
        exact RL.nil ⟨_, rfl, c244, ⟨v245, rfl, h246⟩⟩
       refine Each.consA ⟨fun _ _ _ _ _ _ h => h, fun h => absurd rfl h, fun O wk hO ck => ?_⟩ ?_
       ·
        have ah0 := slRep.ch k_Candidate_pos ah0 ck
        have k4 := k4.ch0 ck
        have h30 := slRep.ch k_Candidate_pos h30 ck
        have c0 := c0.then0 ck
        refine Need.one rfl rfl rfl ?_
        rintro _ ⟨v41, e247, h42⟩
        obtain rfl := e247.symm
        refine Need.one rfl rfl rfl ?_
        rintro _ ⟨v47, e248, h48⟩
        obtain rfl := e248.symm
        refine rl_callF rfl en10 rfl (ctr10 (G F w.heap.size nb) wk y39 v41 h42 y45 v47 h48 y51 hy52) ?_
        rintro _ w249 ⟨rfl, c250⟩
        have ah0 := slRep.ch k_Candidate_pos ah0 c250
        have k4 := k4.ch0 c250
        have h30 := slRep.ch k_Candidate_pos h30 c250
        have h42 := slRep.ch k_Candidate_pos h42 c250
        have h48 := slRep.ch k_Candidate_pos h48 c250
        have c0 := c0.then0 c250
        exact RL.nil ⟨_, rfl, c250, rfl⟩
       refine Each.consA ⟨fun _ _ _ _ _ _ h => h, fun h => absurd rfl h, fun O wk hO ck => ?_⟩ ?_
       ·
        have ah0 := slRep.ch k_Candidate_pos ah0 ck
        have k4 := k4.ch0 ck
        have h30 := slRep.ch k_Candidate_pos h30 ck
        have c0 := c0.then0 ck
        refine Need.one rfl rfl rfl ?_
        rintro _ e251
        obtain rfl := e251.symm
        refine rl_move rfl rfl ?_
        exact RL.nil ⟨_, rfl, Ch.refl, rfl⟩
       refine Each.consA ⟨fun _ _ _ _ _ _ h => h, fun h => absurd rfl h, fun O wk hO ck => ?_⟩ ?_
       ·
        refine Need.one rfl rfl rfl ?_
        rintro _ e252
        obtain rfl := e252.symm
        refine RL.no rfl rfl rfl hg89 rfl rfl ?_
        exact RL.nil ⟨_, rfl, Ch.refl, rfl⟩
       refine Each.consA ⟨fun _ _ _ _ _ _ h => h, fun h => absurd rfl h, fun O wk hO ck => ?_⟩ ?_
       ·
        refine Need.one rfl rfl rfl ?_
        rintro _ e253
        obtain rfl := e253.symm
        refine RL.no rfl rfl rfl hg89 rfl rfl ?_
        exact RL.nil ⟨_, rfl, Ch.refl, rfl⟩
       refine Each.consA ⟨fun _ _ _ _ _ _ h => h, fun h => absurd rfl h, fun O wk hO ck => ?_⟩ ?_
       ·
        refine Need.one rfl rfl rfl ?_
        rintro _ e254
        obtain rfl := e254.symm
        refine RL.no rfl rfl rfl hg89 rfl rfl ?_
        exact RL.nil ⟨_, rfl, Ch.refl, rfl⟩
       refine Each.consA ⟨fun _ _ _ _ _ _ h => h, fun h => absurd rfl h, fun O wk hO ck => ?_⟩ ?_
       ·
        refine Need.one rfl rfl rfl ?_
        rintro _ e255
        obtain rfl := e255.symm
        refine RL.no rfl rfl rfl hg89 rfl rfl ?_
        exact RL.nil ⟨_, rfl, Ch.refl, rfl⟩
       refine Each.consA ⟨fun _ _ _ _ _ _ h => h, fun h => absurd rfl h, fun O wk hO ck => ?_⟩ ?_
       ·
        refine Need.one rfl rfl rfl ?_
        rintro _ e256
        obtain rfl := e256.symm
        refine RL.no rfl rfl rfl hg89 rfl rfl ?_
        exact RL.nil ⟨_, rfl, Ch.refl, rfl⟩
       refine Each.consA ⟨fun _ _ _ _ _ _ h => h, fun h => absurd rfl h, fun O wk hO ck => ?_⟩ ?_
       ·
        refine Need.one rfl rfl rfl ?_
        rintro _ e257
        obtain rfl := e257.symm
        refine RL.no rfl rfl rfl hg89 rfl rfl ?_
        exact RL.nil ⟨_, rfl, Ch.refl, rfl⟩
       refine Each.consA ⟨fun _ _ _ _ _ _ h => h, fun h => absurd rfl h, fun O wk hO ck => ?_⟩ ?_
       ·
        refine Need.one rfl rfl rfl ?_
        rintro _ e258
        obtain rfl := e258.symm
        refine RL.no rfl rfl rfl hg89 rfl rfl ?_
        exact RL.nil ⟨_, rfl, Ch.refl, rfl⟩
       refine Each.consA ⟨fun _ _ _ _ _ _ h => h, fun h => absurd rfl h, fun O wk hO ck => ?_⟩ ?_
       ·
        refine Need.one rfl rfl rfl ?_
        rintro _ e259
        obtain rfl := e259.symm
        refine RL.no rfl rfl rfl hg89 rfl rfl ?_
        exact RL.nil ⟨_, rfl, Ch.refl, rfl⟩
       refine Each.consA ⟨fun _ _ _ _ _ _ h => h, fun h => absurd rfl h, fun O wk hO ck => ?_⟩ ?_
       ·
        refine Need.one rfl rfl rfl ?_
        rintro _ e260
        obtain rfl := e260.symm
        refine rl_pickF rfl hg89 rfl rfl ?_
        exact RL.nil ⟨_, rfl, Ch.refl, congrArg Value.bool (Option.some.inj hs230)⟩
       refine Each.consA ⟨fun _ _ _ _ _ _ h => h, fun h => absurd rfl h, fun O wk hO ck => ?_⟩ ?_
       ·
        have ah0 := slRep.ch k_Candidate_pos ah0 ck
        have k4 := k4.ch0 ck
        have h30 := slRep.ch k_Candidate_pos h30 ck
        have c0 := c0.then0 ck
        refine Need.one rfl rfl rfl ?_
        rintro _ e261
        obtain rfl := e261.symm
        refine rl_move rfl rfl ?_
        exact RL.nil ⟨_, rfl, Ch.refl, rfl⟩
       refine Each.consA ⟨fun _ _ _ _ _ _ h => h, fun h => absurd rfl h, fun O wk hO ck => ?_⟩ ?_
       ·
        refine Need.one rfl rfl rfl ?_
        rintro _ e262
        obtain rfl := e262.symm
        refine RL.no rfl rfl rfl (Option.some.inj hs230).symm rfl rfl ?_
        exact RL.nil ⟨_, rfl, Ch.refl, rfl⟩
       refine Each.consA ⟨fun _ _ _ _ _ _ h => h, fun h => absurd rfl h, fun O wk hO ck => ?_⟩ ?_
       ·
        refine Need.one rfl rfl rfl ?_
        rintro _ e263
        obtain rfl := e263.symm
        refine RL.no rfl rfl rfl (Option.some.inj hs230).symm rfl rfl ?_
        exact RL.nil ⟨_, rfl, Ch.refl, rfl⟩
       refine Each.consA ⟨fun _ _ _ _ _ _ h => h, fun h => absurd rfl h, fun O wk hO ck => ?_⟩ ?_
       ·
        refine Need.one rfl rfl rfl ?_
        rintro _ e264
        obtain rfl := e264.symm
        refine RL.no rfl rfl rfl (Option.some.inj hs230).symm rfl rfl ?_
        exact RL.nil ⟨_, rfl, Ch.refl, rfl⟩
       refine Each.consA ⟨fun _ _ _ _ _ _ h => h, fun h => absurd rfl h, fun O wk hO ck => ?_⟩ ?_
       ·
        refine Need.one rfl rfl rfl ?_
        rintro _ e265
        obtain rfl := e265.symm
        refine RL.no rfl rfl rfl (Option.some.inj hs230).symm rfl rfl ?_
        exact RL.nil ⟨_, rfl, Ch.refl, rfl⟩
       refine Each.consA ⟨fun _ _ _ _ _ _ h => h, fun h => absurd rfl h, fun O wk hO ck => ?_⟩ ?_
       ·
        refine Need.one rfl rfl rfl ?_
        rintro _ e266
        obtain rfl := e266.symm
        refine rl_pickF rfl (Option.some.inj hs230).symm rfl rfl ?_
        exact RL.nil ⟨_, rfl, Ch.refl, congrArg Value.bool (Option.some.inj hs231)⟩
       trivial
      ·
       intro hvO269 OpO269 O269 w267 hO270 c268 hN271
       have ah0 := slRep.ch k_Candidate_pos ah0 c268
       have k4 := k4.ch0 c268
       have h30 := slRep.ch k_Candidate_pos h30 c268
       have c0 := c0.then0 c268
       refine Need.one rfl rfl rfl ?_
       rintro _ e272
       obtain rfl := e272.symm
       refine rl_assign rfl rfl ?_
       exact RL.nil ⟨rfl, ⟨rfl, trivial⟩, c268⟩
    ·
     rintro _ w274 ⟨hE273, c275⟩
     have ah0 := slRep.ch k_Candidate_pos ah0 c275
     have k4 := k4.ch0 c275
     have h30 := slRep.ch k_Candidate_pos h30 c275
     have c0 := c0.then0 c275
     refine thn_n (CW.sub [(4, (Value.bool b87))] hE273 ?_)
     refine CW.ret ?_
     obtain rfl := Option.some.inj hS
     exact ret1 rfl ⟨rfl, c0⟩
/-- slices.Equal[[]string,string] -/
theorem ctr32 (F : Nat → Prop) (w : World) (a0 : (List ByteArray)) (av0 : Value) (ah0 : slRep kStr F w a0 av0) (a1 : (List ByteArray)) (av1 : Value) (ah1 : slRep kStr F w a1 av1) (r : Bool) (hs : F32_slices_Equal_string_string a0 a1 = some r) :
    Ret Try.prog 32 #[av0, av1] w fun v w' => v = (Value.bool r) ∧ Ch nb w w' := by
  have hS := hs
  have c0 : Ch nb w w := Ch.refl
  have ah0 := slRep.enter kStr_pos ah0
  have ah1 := slRep.enter kStr_pos ah1
  refine Ret.of (n := 26) (args := [_, _]) (rs := [.tmp 4]) Try.func32 rfl rfl rfl rfl ?_
  refine CW.seq (CW.region ?_)
  refine rl_assign rfl rfl ?_
  refine RL.nil ?_
  refine thn_n ?_
  refine CW.seq ?_
  refine CW.seq (CW.region ?_)
  refine rl_move rfl rfl ?_
  refine rl_lenR rfl ah0 Try.underlying42 rfl ?_
  refine rl_move rfl rfl ?_
  refine rl_lenR rfl ah1 Try.underlying42 rfl ?_
  refine rl_bin rfl rfl B.neq rfl ?_
  refine RL.nil ?_
  refine thn_n ?_
  refine CW.cond (t := !decide (((a0.length : Nat) : Int) = ((a1.length : Nat) : Int))) rfl (fun q1 => ?_) (fun q1 => ?_)
  ·
   have hS := ifT q1 hS
   refine CW.seq (CW.region ?_)
   refine rl_assign rfl rfl ?_
   refine RL.nil ?_
   refine thn_n ?_
   refine CW.ret ?_
   refine thn_ret ?_
   obtain rfl := Option.some.inj hS
   exact ret1 rfl ⟨rfl, c0⟩
  ·
   have hS := ifF q1 hS
   refine CW.skip ?_
   refine thn_n ?_
   refine CW.seq ?_
   refine CW.seq (CW.region ?_)
   refine rl_move rfl rfl ?_
   refine rl_lenR rfl ah0 Try.underlying42 rfl ?_
   refine rl_move rfl rfl ?_
   refine RL.nil ?_
   refine thn_n ?_
   obtain ⟨o9, ho10, hS⟩ := bindS hS
   refine CW.cutB (fun E' w' => ∃ (ix16 : Nat), Sub [] E' ∧ Ch nb w w' ∧ Lp.fin ix16 = o9 ∧ slRep kStr (G F w.heap.size nb) w' a0 av0 ∧ slRep kStr (G F w.heap.size nb) w' a1 av1) ?_ ?_
   ·
    refine CW.loopS [(0, av0), (1, av1), (12, (Value.int .i64 ((a0.length : Nat) : Int))), (13, (Value.int .i64 ((0 : Nat) : Int)))] ⟨rfl, rfl, rfl, rfl, trivial⟩ a0.length (fun m E w' => ∃ (rest2 : List ByteArray) (i3 : Nat) , m = rest2.length ∧ E = [(0, av0), (1, av1), (12, (Value.int .i64 ((a0.length : Nat) : Int))), (13, (Value.int .i64 ((i3 : Nat) : Int)))] ∧ Ch nb w w' ∧ At a0 i3 rest2 ∧ runBO (F32_slices_Equal_string_string_b1 a1) rest2 i3 = some o9 ∧ slRep kStr (G F w.heap.size nb) w' a0 av0 ∧ slRep kStr (G F w.heap.size nb) w' a1 av1)
        ⟨a0, 0, rfl, rfl, c0, At.start, ho10, ah0, ah1⟩ ?_
    rintro _ _ w15 ⟨rest2, i3, rfl, rfl, c14, hat5, hL4, ah0, ah1⟩
    refine CW.seq (CW.region ?_)
    refine rl_bin rfl rfl B.lss rfl ?_
    refine RL.nil (thn_n ?_)
    refine CW.seq ?_
    refine CW.cond (t := decide (((i3 : Nat) : Int) < ((a0.length : Nat) : Int))) rfl (fun q17 => ?_) (fun q17 => ?_)
    ·
     obtain ⟨x11, rest18, rfl⟩ := hat5.cons q17
     obtain ⟨q6, hq7⟩ := runBO_some hL4
     have hb8 := hq7
     refine CW.skip (thn_n ?_)
     refine CW.seq ?_
     refine CW.block ?_
     refine CW.seq (CW.region ?_)
     refine rl_move rfl rfl ?_
     refine rl_assign rfl rfl ?_
     refine RL.nil ?_
     refine thn_n ?_
     refine CW.seq ?_
     obtain ⟨y31, hy32, hb8⟩ := bindS hb8
     refine CW.draw 8 [(none, fun _ O uu wx => uu = av0), (none, fun _ O uu wx => uu = (Value.int .i64 ((i3 : Nat) : Int))), (none, fun _ O uu wx => ∃ (p19 : Nat) (o20 : Nat), uu = (Value.pointer (some ⟨p19, o20, none⟩)) ∧ (G F w.heap.size nb) p19 ∧ Seg wx p19 o20 [(Value.string x11)]), (none, fun _ O uu wx => uu = (Value.string x11)), (none, fun _ O uu wx => uu = av1), (none, fun _ O uu wx => uu = (Value.int .i64 ((i3 : Nat) : Int))), (none, fun _ O uu wx => ∃ (p25 : Nat) (o26 : Nat), uu = (Value.pointer (some ⟨p25, o26, none⟩)) ∧ (G F w.heap.size nb) p25 ∧ Seg wx p25 o26 [(Value.string y31)]), (none, fun _ O uu wx => uu = (Value.string y31))] [[], [], [0, 1], [2], [], [], [4, 5], [6]] [3, 7] nb (fun _ h => h.elim) mixed rfl rfl rfl rfl ?_ ?_
     ·
      refine Each.consA ⟨fun _ _ _ _ _ _ h => h, fun h => absurd rfl h, fun O wk hO ck => ?_⟩ ?_
      ·
       have ah0 := slRep.ch kStr_pos ah0 ck
       have ah1 := slRep.ch kStr_pos ah1 ck
       have c14 := c14.then0 ck
       refine rl_move rfl rfl ?_
       exact RL.nil ⟨_, rfl, Ch.refl, rfl⟩
      refine Each.consA ⟨fun _ _ _ _ _ _ h => h, fun h => absurd rfl h, fun O wk hO ck => ?_⟩ ?_
      ·
       have ah0 := slRep.ch kStr_pos ah0 ck
       have ah1 := slRep.ch kStr_pos ah1 ck
       have c14 := c14.then0 ck
       refine rl_move rfl rfl ?_
       exact RL.nil ⟨_, rfl, Ch.refl, rfl⟩
      refine Each.consA ⟨fun _ _ _ _ _ cc hh => by obtain ⟨p19, o20, e, hg24, hs23⟩ := hh; exact ⟨p19, o20, e, hg24, hs23.ch0 cc⟩, fun h => absurd rfl h, fun O wk hO ck => ?_⟩ ?_
      ·
       have ah0 := slRep.ch kStr_pos ah0 ck
       have ah1 := slRep.ch kStr_pos ah1 ck
       have c14 := c14.then0 ck
       refine Need.one rfl rfl rfl ?_
       rintro _ e33
       obtain rfl := e33.symm
       refine Need.one rfl rfl rfl ?_
       rintro _ e34
       obtain rfl := e34.symm
       refine rl_ixR rfl ah0 rfl hat5.get Try.underlying42 Try.sizeOf9 rfl ?_
       intro p35 o36 cs37 hr38 hs39 hg40
       obtain rfl := hr38
       exact RL.nil ⟨_, rfl, Ch.refl, ⟨p35, o36, rfl, hg40, hs39⟩⟩
      refine Each.consA ⟨fun _ _ _ _ _ _ h => h, fun h => absurd rfl h, fun O wk hO ck => ?_⟩ ?_
      ·
       have ah0 := slRep.ch kStr_pos ah0 ck
       have ah1 := slRep.ch kStr_pos ah1 ck
       have c14 := c14.then0 ck
       refine Need.one rfl rfl rfl ?_
       rintro _ ⟨p19, o20, e41, hg24, hs23⟩
       obtain rfl := e41.symm
       refine rl_loadS (v := (Value.string x11)) rfl Try.isAgg9 (hs23 0 _ rfl) rfl ?_
       exact RL.nil ⟨_, rfl, Ch.refl, rfl⟩
      refine Each.consA ⟨fun _ _ _ _ _ _ h => h, fun h => absurd rfl h, fun O wk hO ck => ?_⟩ ?_
      ·
       have ah0 := slRep.ch kStr_pos ah0 ck
       have ah1 := slRep.ch kStr_pos ah1 ck
       have c14 := c14.then0 ck
       refine rl_move rfl rfl ?_
       exact RL.nil ⟨_, rfl, Ch.refl, rfl⟩
      refine Each.consA ⟨fun _ _ _ _ _ _ h => h, fun h => absurd rfl h, fun O wk hO ck => ?_⟩ ?_
      ·
       have ah0 := slRep.ch kStr_pos ah0 ck
       have ah1 := slRep.ch kStr_pos ah1 ck
       have c14 := c14.then0 ck
       refine rl_move rfl rfl ?_
       exact RL.nil ⟨_, rfl, Ch.refl, rfl⟩
      refine Each.consA ⟨fun _ _ _ _ _ cc hh => by obtain ⟨p25, o26, e, hg30, hs29⟩ := hh; exact ⟨p25, o26, e, hg30, hs29.ch0 cc⟩, fun h => absurd rfl h, fun O wk hO ck => ?_⟩ ?_
      ·
       have ah0 := slRep.ch kStr_pos ah0 ck
       have ah1 := slRep.ch kStr_pos ah1 ck
       have c14 := c14.then0 ck
       refine Need.one rfl rfl rfl ?_
       rintro _ e42
       obtain rfl := e42.symm
       refine Need.one rfl rfl rfl ?_
       rintro _ e43
       obtain rfl := e43.symm
       refine rl_ixR rfl ah1 rfl (ixO_nat hy32) Try.underlying42 Try.sizeOf9 rfl ?_
       intro p44 o45 cs46 hr47 hs48 hg49
       obtain rfl := hr47
       exact RL.nil ⟨_, rfl, Ch.refl, ⟨p44, o45, rfl, hg49, hs48⟩⟩
      refine Each.consA ⟨fun _ _ _ _ _ _ h => h, fun h => absurd rfl h, fun O wk hO ck => ?_⟩ ?_
      ·
       have ah0 := slRep.ch kStr_pos ah0 ck
       have ah1 := slRep.ch kStr_pos ah1 ck
       have c14 := c14.then0 ck
       refine Need.one rfl rfl rfl ?_
       rintro _ ⟨p25, o26, e50, hg30, hs29⟩
       obtain rfl := e50.symm
       refine rl_loadS (v := (Value.string y31)) rfl Try.isAgg9 (hs29 0 _ rfl) rfl ?_
       exact RL.nil ⟨_, rfl, Ch.refl, rfl⟩
      trivial
     ·
      intro hvO53 OpO53 O53 w51 hO54 c52 hN55
      have ah0 := slRep.ch kStr_pos ah0 c52
      have ah1 := slRep.ch kStr_pos ah1 c52
      have c14 := c14.then0 c52
      refine Need.one rfl rfl rfl ?_
      rintro _ e56
      obtain rfl := e56.symm
      refine Need.one rfl rfl rfl ?_
      rintro _ e57
      obtain rfl := e57.symm
      refine rl_bin rfl rfl B.neqS rfl ?_
      refine RL.nil ?_
      refine thn_n ?_
      refine CW.cond (t := !decide (x11 = y31)) rfl (fun q58 => ?_) (fun q58 => ?_)
      ·
       have hb8 := ifT q58 hb8
       refine CW.seq (CW.region ?_)
       refine rl_assign rfl rfl ?_
       refine RL.nil ?_
       refine thn_n ?_
       refine CW.ret ?_
       refine inB_ret ?_
       refine thn_ret ?_
       refine thn_ret (inB_ret (thn_ret ?_))
       refine thn_ret ?_
       have f59 := runBO_ret hL4 hq7 hb8
       have hS := retS f59 hS
       obtain rfl := Option.some.inj hS
       exact ret1 rfl ⟨rfl, c14⟩
      ·
       have hb8 := ifF q58 hb8
       refine CW.skip ?_
       refine inB_n ?_
       refine thn_n ?_
       refine CW.region ?_
       refine rl_inc rfl hat5.lt ah0.big rfl ?_
       refine rl_move rfl rfl ?_
       refine RL.nil ?_
       refine thn_n ?_
       have hLn := runBO_next hL4 hq7 hb8
       exact ⟨rest18.length, Nat.lt_succ_self _, [(0, av0), (1, av1), (12, (Value.int .i64 ((a0.length : Nat) : Int))), (13, (Value.int .i64 ((i3 + 1 : Nat) : Int)))], ⟨rfl, rfl, rfl, rfl, trivial⟩, ⟨rest18, i3 + 1, rfl, rfl, c14, hat5.next, hLn, ah0, ah1⟩⟩
    ·
     obtain rfl := hat5.nil q17
     have hLf : Lp.fin i3 = o9 := runBO_done hL4
     refine CW.exit (thn_exit (thn_exit (inB_hit ?_)))
     exact ⟨i3, trivial, c14, hLf, ah0, ah1⟩
   ·
    rintro _ w61 ⟨ix16, hE62, c60, f63, ah0, ah1⟩
    have hS := finS f63 hS
    refine thn_n (CW.sub [] hE62 ?_)
    refine CW.seq (CW.region ?_)
    refine rl_assign rfl rfl ?_
    refine RL.nil ?_
    refine thn_n ?_
    refine CW.ret ?_
    obtain rfl := Option.some.inj hS
    exact ret1 rfl ⟨rfl, c60⟩
/-- lb/hints.Same -/
theorem ctr15 (F : Nat → Prop) (w : World) (a0 : Candidate) (az0_0 : Value) (ah0_0 : slRep kStr F w a0.zones az0_0) (a1 : Candidate) (az1_0 : Value) (ah1_0 : slRep kStr F w a1.zones az1_0) (r : Bool) (hs : F15_hints_Same a0 a1 = some r) :
    Ret Try.prog 15 #[(Value.agg (Candidate.c a0 az0_0).toArray), (Value.agg (Candidate.c a1 az1_0).toArray)] w fun v w' => v = (Value.bool r) ∧ Ch nb w w' := by
  have hS := hs
  have c0 : Ch nb w w := Ch.refl
  have ah0_0 := slRep.enter kStr_pos ah0_0
  have ah1_0 := slRep.enter kStr_pos ah1_0
  refine Ret.of (n := 47) (args := [_, _]) (rs := [.tmp 4]) Try.func15 rfl rfl rfl rfl ?_
  refine CW.seq (CW.region ?_)
  refine rl_boxA (cs := (Candidate.c a0 az0_0)) rfl rfl ?_
  intro p1 w2 n3 k4
  have gp1 : (G F w.heap.size nb) p1 := ⟨.inr (by rw [n3.eq]; exact c0.size), fun h => absurd (nbS _ h) (by rw [n3.eq]; exact Nat.lt_irrefl _)⟩
  have ah0_0 := slRep.ch kStr_pos ah0_0 n3.ch
  have ah1_0 := slRep.ch kStr_pos ah1_0 n3.ch
  have c0 := c0.then0 n3.ch
  refine rl_boxA (cs := (Candidate.c a1 az1_0)) rfl rfl ?_
  intro p5 w6 n7 k8
  have gp5 : (G F w.heap.size nb) p5 := ⟨.inr (by rw [n7.eq]; exact c0.size), fun h => absurd (nbS _ h) (by rw [n7.eq]; exact Nat.lt_irrefl _)⟩
  have ah0_0 := slRep.ch kStr_pos ah0_0 n7.ch
  have ah1_0 := slRep.ch kStr_pos ah1_0 n7.ch
  have k4 := k4.ch0 n7.ch
  have c0 := c0.then0 n7.ch
  refine rl_assign rfl rfl ?_
  refine RL.nil ?_
  refine thn_n ?_
  refine CW.seq (CW.region ?_)
  refine rl_fieldAddr rfl fa44_1 rfl ?_
  refine rl_loadS (v := (Value.bool a0.localF)) rfl Try.isAgg4 (k4.cell rfl) rfl ?_
  refine rl_fieldAddr rfl fa44_1 rfl ?_
  refine rl_loadS (v := (Value.bool a1.localF)) rfl Try.isAgg4 (k8.cell rfl) rfl ?_
  refine rl_bin rfl rfl (B.eqlB Try.underlying4) rfl ?_
  refine rl_move rfl rfl ?_
  obtain ⟨b11, hb12⟩ : ∃ v, ((a0.localF == a1.localF) && (a0.ready == a1.ready)) = v := ⟨_, rfl⟩
  have hS := ltS hb12 hS
  refine RL.join 6 17 (.bool b11) (fun w' => Ch nb w6 w') ?_ ?_
  · rcases Bool.eq_false_or_eq_true (a0.localF == a1.localF) with hg10 | hg10
    ·
     have hs9 := and_t hg10 hb12
     have cs : Ch nb w6 w6 := Ch.refl
     refine RL.yes rfl rfl rfl hg10 ?_
     refine rl_fieldAddr rfl fa44_2 rfl ?_
     refine RL.yes rfl rfl rfl hg10 ?_
     refine rl_loadS (v := (Value.bool a0.ready)) rfl Try.isAgg4 (k4.cell rfl) rfl ?_
     refine RL.yes rfl rfl rfl hg10 ?_
     refine rl_fieldAddr rfl fa44_2 rfl ?_
     refine RL.yes rfl rfl rfl hg10 ?_
     refine rl_loadS (v := (Value.bool a1.ready)) rfl Try.isAgg4 (k8.cell rfl) rfl ?_
     refine RL.yes rfl rfl rfl hg10 ?_
     refine rl_bin rfl rfl (B.eqlB Try.underlying4) rfl ?_
     refine rl_pickT rfl hg10 rfl rfl ?_
     exact RL.nil ⟨Ext.bothEq (congrArg Value.bool hs9) (Ext.skip rfl (Ext.skip rfl (Ext.skip rfl (Ext.skip rfl (Ext.skip rfl (Ext.rfl')))))), cs⟩
    ·
     have hs9 := and_f hg10 hb12
     have cs : Ch nb w6 w6 := Ch.refl
     refine RL.no rfl rfl rfl hg10 rfl rfl ?_
     refine RL.no rfl rfl rfl hg10 rfl rfl ?_
     refine RL.no rfl rfl rfl hg10 rfl rfl ?_
     refine RL.no rfl rfl rfl hg10 rfl rfl ?_
     refine RL.no rfl rfl rfl hg10 rfl rfl ?_
     refine rl_pickF rfl hg10 rfl rfl ?_
     exact RL.nil ⟨Ext.bothEq (congrArg Value.bool hs9) (Ext.skip rfl (Ext.skip rfl (Ext.skip rfl (Ext.skip rfl (Ext.skip rfl (Ext.rfl')))))), cs⟩
  intro w13 c14
  have ah0_0 := slRep.ch kStr_pos ah0_0 c14
  have ah1_0 := slRep.ch kStr_pos ah1_0 c14
  have k4 := k4.ch0 c14
  have k8 := k8.ch0 c14
  have c0 := c0.then0 c14
  refine rl_move rfl rfl ?_
  obtain ⟨b17, hb18⟩ : ∃ v, (b11 && (a0.serving == a1.serving)) = v := ⟨_, rfl⟩
  have hS := ltS hb18 hS
  refine RL.join 6 24 (.bool b17) (fun w' => Ch nb w13 w') ?_ ?_
  · rcases Bool.eq_false_or_eq_true b11 with hg16 | hg16
    ·
     have hs15 := and_t hg16 hb18
     have cs : Ch nb w13 w13 := Ch.refl
     refine RL.yes rfl rfl rfl hg16 ?_
     refine rl_fieldAddr rfl fa44_3 rfl ?_
     refine RL.yes rfl rfl rfl hg16 ?_
     refine rl_loadS (v := (Value.bool a0.serving)) rfl Try.isAgg4 (k4.cell rfl) rfl ?_
     refine RL.yes rfl rfl rfl hg16 ?_
     refine rl_fieldAddr rfl fa44_3 rfl ?_
     refine RL.yes rfl rfl rfl hg16 ?_
     refine rl_loadS (v := (Value.bool a1.serving)) rfl Try.isAgg4 (k8.cell rfl) rfl ?_
     refine RL.yes rfl rfl rfl hg16 ?_
     refine rl_bin rfl rfl (B.eqlB Try.underlying4) rfl ?_
     refine rl_pickT rfl hg16 rfl rfl ?_
     exact RL.nil ⟨Ext.bothEq (congrArg Value.bool hs15) (Ext.skip rfl (Ext.skip rfl (Ext.skip rfl (Ext.skip rfl (Ext.skip rfl (Ext.rfl')))))), cs⟩
    ·
     have hs15 := and_f hg16 hb18
     have cs : Ch nb w13 w13 := Ch.refl
     refine RL.no rfl rfl rfl hg16 rfl rfl ?_
     refine RL.no rfl rfl rfl hg16 rfl rfl ?_
     refine RL.no rfl rfl rfl hg16 rfl rfl ?_
     refine RL.no rfl rfl rfl hg16 rfl rfl ?_
     refine RL.no rfl rfl rfl hg16 rfl rfl ?_
     refine rl_pickF rfl hg16 rfl rfl ?_
     exact RL.nil ⟨Ext.bothEq (congrArg Value.bool hs15) (Ext.skip rfl (Ext.skip rfl (Ext.skip rfl (Ext.skip rfl (Ext.skip rfl (Ext.rfl')))))), cs⟩
  intro w19 c20
  have ah0_0 := slRep.ch kStr_pos ah0_0 c20
  have ah1_0 := slRep.ch kStr_pos ah1_0 c20
  have k4 := k4.ch0 c20
  have k8 := k8.ch0 c20
  have c0 := c0.then0 c20
  refine rl_move rfl rfl ?_
  obtain ⟨b23, hb24⟩ : ∃ v, (b17 && (a0.terminating == a1.terminating)) = v := ⟨_, rfl⟩
  have hS := ltS hb24 hS
  refine RL.join 6 31 (.bool b23) (fun w' => Ch nb w19 w') ?_ ?_
  · rcases Bool.eq_false_or_eq_true b17 with hg22 | hg22
    ·
     have hs21 := and_t hg22 hb24
     have cs : Ch nb w19 w19 := Ch.refl
     refine RL.yes rfl rfl rfl hg22 ?_
     refine rl_fieldAddr rfl fa44_4 rfl ?_
     refine RL.yes rfl rfl rfl hg22 ?_
     refine rl_loadS (v := (Value.bool a0.terminating)) rfl Try.isAgg4 (k4.cell rfl) rfl ?_
     refine RL.yes rfl rfl rfl hg22 ?_
     refine rl_fieldAddr rfl fa44_4 rfl ?_
     refine RL.yes rfl rfl rfl hg22 ?_
     refine rl_loadS (v := (Value.bool a1.terminating)) rfl Try.isAgg4 (k8.cell rfl) rfl ?_
     refine RL.yes rfl rfl rfl hg22 ?_
     refine rl_bin rfl rfl (B.eqlB Try.underlying4) rfl ?_
     refine rl_pickT rfl hg22 rfl rfl ?_
     exact RL.nil ⟨Ext.bothEq (congrArg Value.bool hs21) (Ext.skip rfl (Ext.skip rfl (Ext.skip rfl (Ext.skip rfl (Ext.skip rfl (Ext.rfl')))))), cs⟩
    ·
     have hs21 := and_f hg22 hb24
     have cs : Ch nb w19 w19 := Ch.refl
     refine RL.no rfl rfl rfl hg22 rfl rfl ?_
     refine RL.no rfl rfl rfl hg22 rfl rfl ?_
     refine RL.no rfl rfl rfl hg22 rfl rfl ?_
     refine RL.no rfl rfl rfl hg22 rfl rfl ?_
     refine RL.no rfl rfl rfl hg22 rfl rfl ?_
     refine rl_pickF rfl hg22 rfl rfl ?_
     exact RL.nil ⟨Ext.bothEq (congrArg Value.bool hs21) (Ext.skip rfl (Ext.skip rfl (Ext.skip rfl (Ext.skip rfl (Ext.skip rfl (Ext.rfl')))))), cs⟩
  intro w25 c26
  have ah0_0 := slRep.ch kStr_pos ah0_0 c26
  have ah1_0 := slRep.ch kStr_pos ah1_0 c26
  have k4 := k4.ch0 c26
  have k8 := k8.ch0 c26
  have c0 := c0.then0 c26
  refine rl_assign rfl rfl ?_
  refine RL.nil ?_
  refine thn_n ?_
  refine CW.seq (CW.region ?_)
  refine rl_fieldAddr rfl fa44_0 rfl ?_
  refine rl_loadA (cs := (Point.enc a0.point)) rfl Try.isAgg41 Try.sizeOf41 (k4.segAt 0 18) rfl rfl ?_
  refine rl_fieldAddr rfl fa44_0 rfl ?_
  refine rl_loadA (cs := (Point.enc a1.point)) rfl Try.isAgg41 Try.sizeOf41 (k8.segAt 0 18) rfl rfl ?_
  refine rl_bin rfl rfl (eql41 a0.point a1.point) rfl ?_
  refine rl_move rfl rfl ?_
  obtain ⟨b29, hb30⟩ : ∃ v, ((decide (a0.point = a1.point)) && b23) = v := ⟨_, rfl⟩
  have hS := ltS hb30 hS
  refine RL.join 2 39 (.bool b29) (fun w' => Ch nb w25 w') ?_ ?_
  · rcases Bool.eq_false_or_eq_true (decide (a0.point = a1.point)) with hg28 | hg28
    ·
     have hs27 := and_t hg28 hb30
     have cs : Ch nb w25 w25 := Ch.refl
     refine RL.yes rfl rfl rfl hg28 ?_
     refine rl_move rfl rfl ?_
     refine rl_pickT rfl hg28 rfl rfl ?_
     exact RL.nil ⟨Ext.bothEq (congrArg Value.bool hs27) (Ext.skip rfl (Ext.rfl')), cs⟩
    ·
     have hs27 := and_f hg28 hb30
     have cs : Ch nb w25 w25 := Ch.refl
     refine RL.no rfl rfl rfl hg28 rfl rfl ?_
     refine rl_pickF rfl hg28 rfl rfl ?_
     exact RL.nil ⟨Ext.bothEq (congrArg Value.bool hs27) (Ext.skip rfl (Ext.rfl')), cs⟩
  intro w31 c32
  have ah0_0 := slRep.ch kStr_pos ah0_0 c32
  have ah1_0 := slRep.ch kStr_pos ah1_0 c32
  have k4 := k4.ch0 c32
  have k8 := k8.ch0 c32
  have c0 := c0.then0 c32
  refine rl_move rfl rfl ?_
  obtain ⟨b35, hb36, hS⟩ := bindS hS
  refine RL.join 6 46 (.bool b35) (fun w' => Ch nb w31 w') ?_ ?_
  · rcases Bool.eq_false_or_eq_true b29 with hg34 | hg34
    ·
     have hs33 := andO_t hg34 hb36
     have cs : Ch nb w31 w31 := Ch.refl
     refine RL.yes rfl rfl rfl hg34 ?_
     refine rl_fieldAddr rfl fa44_5 rfl ?_
     refine RL.yes rfl rfl rfl hg34 ?_
     refine rl_loadS (v := az0_0) rfl Try.isAgg42 (k4.cell rfl) rfl ?_
     refine RL.yes rfl rfl rfl hg34 ?_
     refine rl_fieldAddr rfl fa44_5 rfl ?_
     refine RL.yes rfl rfl rfl hg34 ?_
     refine rl_loadS (v := az1_0) rfl Try.isAgg42 (k8.cell rfl) rfl ?_
     refine RL.yes rfl rfl rfl hg34 ?_
     obtain ⟨y40, hy41, hs33⟩ := bindS hs33
     refine rl_callF rfl en32 rfl (ctr32 (G F w.heap.size nb) w31 a0.zones az0_0 ah0_0 a1.zones az1_0 ah1_0 y40 hy41) ?_
     rintro _ w38 ⟨rfl, c39⟩
     have ah0_0 := slRep.ch kStr_pos ah0_0 c39
     have ah1_0 := slRep.ch kStr_pos ah1_0 c39
     have k4 := k4.ch0 c39
     have k8 := k8.ch0 c39
     have c0 := c0.then0 c39
     refine rl_pickT rfl hg34 rfl rfl ?_
     have cs := cs.then0 c39
     exact RL.nil ⟨Ext.bothEq (congrArg Value.bool (Option.some.inj hs33)) (Ext.skip rfl (Ext.skip rfl (Ext.skip rfl (Ext.skip rfl (Ext.skip rfl (Ext.rfl')))))), cs⟩
    ·
     have hs33 := andO_f hg34 hb36
     have cs : Ch nb w31 w31 := Ch.refl
     refine RL.no rfl rfl rfl hg34 rfl rfl ?_
     refine RL.no rfl rfl rfl hg34 rfl rfl ?_
     refine RL.no rfl rfl rfl hg34 rfl rfl ?_
     refine RL.no rfl rfl rfl hg34 rfl rfl ?_
     refine RL.no rfl rfl rfl hg34 rfl rfl ?_
     refine rl_pickF rfl hg34 rfl rfl ?_
     exact RL.nil ⟨Ext.bothEq (congrArg Value.bool (Option.some.inj hs33)) (Ext.skip rfl (Ext.skip rfl (Ext.skip rfl (Ext.skip rfl (Ext.skip rfl (Ext.rfl')))))), cs⟩
  intro w37 c42
  have ah0_0 := slRep.ch kStr_pos ah0_0 c42
  have ah1_0 := slRep.ch kStr_pos ah1_0 c42
  have k4 := k4.ch0 c42
  have k8 := k8.ch0 c42
  have c0 := c0.then0 c42
  refine rl_assign rfl rfl ?_
  refine RL.nil ?_
  refine thn_n ?_
  refine CW.ret ?_
  obtain rfl := Option.some.inj hS
  exact ret1 rfl ⟨rfl, c0⟩
/-- lb/lblaw19.PickRight -/
theorem ctr4 (F : Nat → Prop) (w : World) (a0 : (List Candidate)) (av0 : Value) (ah0 : slRep k_Candidate F w a0 av0) (a1 : Want) (r : Bool) (hs : F4_linkboylaw19_PickRight a0 a1 = some r) :
    Ret Try.prog 4 #[av0, (Value.agg (Want.enc a1).toArray)] w fun v w' => v = (Value.bool r) ∧ Ch nb w w' := by
  have hS := hs
  have c0 : Ch nb w w := Ch.refl
  have ah0 := slRep.enter k_Candidate_pos ah0
  refine Ret.of (n := 104) (args := [_, _]) (rs := [.tmp 4]) Try.func4 rfl rfl rfl rfl ?_
  refine CW.seq (CW.region ?_)
  refine rl_boxA (cs := (Want.enc a1)) rfl rfl ?_
  intro p1 w2 n3 k4
  have gp1 : (G F w.heap.size nb) p1 := ⟨.inr (by rw [n3.eq]; exact c0.size), fun h => absurd (nbS _ h) (by rw [n3.eq]; exact Nat.lt_irrefl _)⟩
  have ah0 := slRep.ch k_Candidate_pos ah0 n3.ch
  have c0 := c0.then0 n3.ch
  refine rl_assign rfl rfl ?_
  refine RL.nil ?_
  refine thn_n ?_
  refine CW.seq ?_
  refine CW.seq (CW.region ?_)
  obtain ⟨y7, hy8, hS⟩ := bindS hS
  refine rl_callF rfl en6 rfl (ctr6 (G F w.heap.size nb) w2  y7 hy8) ?_
  rintro _ w5 ⟨rfl, c6⟩
  have ah0 := slRep.ch k_Candidate_pos ah0 c6
  have k4 := k4.ch0 c6
  have c0 := c0.then0 c6
  refine rl_not rfl rfl ?_
  refine RL.nil ?_
  refine thn_n ?_
  refine CW.cond (t := !y7) rfl (fun q9 => ?_) (fun q9 => ?_)
  ·
   have hS := ifT q9 hS
   refine CW.seq (CW.region ?_)
   refine rl_assign rfl rfl ?_
   refine RL.nil ?_
   refine thn_n ?_
   refine CW.ret ?_
   refine thn_ret ?_
   obtain rfl := Option.some.inj hS
   exact ret1 rfl ⟨rfl, c0⟩
  ·
   have hS := ifF q9 hS
   refine CW.skip ?_
   refine thn_n ?_
   refine CW.seq ?_
   refine CW.seq (CW.region ?_)
   refine rl_move rfl rfl ?_
   obtain ⟨y12, hy13⟩ : ∃ y, F7_linkboylaw18_Long a0 = y := ⟨_, rfl⟩
   have hS := ltS hy13 hS
   refine rl_callF rfl en7 rfl (ctr7 (G F w.heap.size nb) w5 a0 av0 ah0 y12 hy13) ?_
   rintro _ w10 ⟨rfl, c11⟩
   have ah0 := slRep.ch k_Candidate_pos ah0 c11
   have k4 := k4.ch0 c11
   have c0 := c0.then0 c11
   refine rl_move rfl rfl ?_
   obtain ⟨b16, hb17⟩ : ∃ v, (y12 || (lt (F8_linkboylaw19_long a1) fun y18 => y18)) = v := ⟨_, rfl⟩
   have hS := ltS hb17 hS
   refine RL.join 3 21 (.bool b16) (fun w' => Ch nb w10 w') ?_ ?_
   · rcases Bool.eq_false_or_eq_true y12 with hg15 | hg15
     ·
      have hs14 := or_t hg15 hb17
      have cs : Ch nb w10 w10 := Ch.refl
      refine RL.no rfl rfl rfl hg15 rfl rfl ?_
      refine RL.no rfl rfl rfl hg15 rfl rfl ?_
      refine rl_pickT rfl hg15 rfl rfl ?_
      exact RL.nil ⟨Ext.bothEq (congrArg Value.bool hs14) (Ext.skip rfl (Ext.skip rfl (Ext.rfl'))), cs⟩
     ·
      have hs14 := or_f hg15 hb17
      have cs : Ch nb w10 w10 := Ch.refl
      refine RL.yes rfl rfl rfl hg15 ?_
      refine rl_loadA (cs := (Want.enc a1)) rfl Try.isAgg24 Try.sizeOf24 (k4.segAt 0 7) rfl rfl ?_
      refine RL.yes rfl rfl rfl hg15 ?_
      obtain ⟨y21, hy22⟩ : ∃ y, F8_linkboylaw19_long a1 = y := ⟨_, rfl⟩
      have hs14 := ltS hy22 hs14
      refine rl_callF rfl en8 rfl (ctr8 (G F w.heap.size nb) w10 a1 y21 hy22) ?_
      rintro _ w19 ⟨rfl, c20⟩
      have ah0 := slRep.ch k_Candidate_pos ah0 c20
      have k4 := k4.ch0 c20
      have c0 := c0.then0 c20
      refine rl_pickF rfl hg15 rfl rfl ?_
      have cs := cs.then0 c20
      exact RL.nil ⟨Ext.bothEq (congrArg Value.bool hs14) (Ext.skip rfl (Ext.skip rfl (Ext.rfl'))), cs⟩
   intro w18 c23
   have ah0 := slRep.ch k_Candidate_pos ah0 c23
   have k4 := k4.ch0 c23
   have c0 := c0.then0 c23
   refine RL.nil ?_
   refine thn_n ?_
   refine CW.cond (t := b16) rfl (fun q24 => ?_) (fun q24 => ?_)
   ·
    have hS := ifT q24 hS
    refine CW.seq (CW.region ?_)
    refine rl_assign rfl rfl ?_
    refine RL.nil ?_
    refine thn_n ?_
    refine CW.ret ?_
    refine thn_ret ?_
    obtain rfl := Option.some.inj hS
    exact ret1 rfl ⟨rfl, c0⟩
   ·
    have hS := ifF q24 hS
    refine CW.skip ?_
    refine thn_n ?_
    refine CW.seq (CW.region ?_)
    refine rl_assign rfl rfl ?_
    refine RL.nil ?_
    refine thn_n ?_
    refine CW.seq ?_
    refine CW.seq (CW.region ?_)
    refine rl_move rfl rfl ?_
    refine rl_lenR rfl ah0 Try.underlying22 rfl ?_
    refine rl_move rfl rfl ?_
    refine RL.nil ?_
    refine thn_n ?_
    obtain ⟨o33, ho34⟩ : ∃ o, runA (F4_linkboylaw19_PickRight_b1 a1) a0 false = o := ⟨_, rfl⟩
    have hS := ltS ho34 hS
    refine CW.cutB (fun E' w' => ∃ (x25 : Bool), Sub [(0, av0), (3, (Value.pointer (some ⟨p1, 0, none⟩))), (5, (Value.bool x25))] E' ∧ Ch nb w w' ∧ x25 = o33 ∧ slRep k_Candidate (G F w.heap.size nb) w' a0 av0 ∧ Blk w' p1 24 (Want.enc a1) ∧ (G F w.heap.size nb) p1) ?_ ?_
    ·
     refine CW.loopS [(0, av0), (3, (Value.pointer (some ⟨p1, 0, none⟩))), (22, av0), (23, (Value.int .i64 ((a0.length : Nat) : Int))), (5, (Value.bool false)), (24, (Value.int .i64 ((0 : Nat) : Int)))] ⟨rfl, rfl, rfl, rfl, rfl, rfl, trivial⟩ a0.length (fun m E w' => ∃ (rest26 : List Candidate) (i27 : Nat) (x25 : Bool), m = rest26.length ∧ E = [(0, av0), (3, (Value.pointer (some ⟨p1, 0, none⟩))), (22, av0), (23, (Value.int .i64 ((a0.length : Nat) : Int))), (5, (Value.bool x25)), (24, (Value.int .i64 ((i27 : Nat) : Int)))] ∧ Ch nb w w' ∧ At a0 i27 rest26 ∧ runA (F4_linkboylaw19_PickRight_b1 a1) rest26 x25 = o33 ∧ slRep k_Candidate (G F w.heap.size nb) w' a0 av0 ∧ Blk w' p1 24 (Want.enc a1) ∧ (G F w.heap.size nb) p1)
         ⟨a0, 0, false, rfl, rfl, c0, At.start, ho34, ah0, k4, gp1⟩ ?_
     rintro _ _ w39 ⟨rest26, i27, x25, rfl, rfl, c38, hat29, hL28, ah0, k4, gp1⟩
     refine CW.seq (CW.region ?_)
     refine rl_bin rfl rfl B.lss rfl ?_
     refine RL.nil (thn_n ?_)
     refine CW.seq ?_
     refine CW.cond (t := decide (((i27 : Nat) : Int) < ((a0.length : Nat) : Int))) rfl (fun q41 => ?_) (fun q41 => ?_)
     ·
      obtain ⟨x35, rest42, rfl⟩ := hat29.cons q41
      obtain ⟨q30, hq31⟩ : ∃ q, (F4_linkboylaw19_PickRight_b1 a1) x35 x25 = q := ⟨_, rfl⟩
      have hb32 := hq31
      refine CW.skip (thn_n ?_)
      refine CW.seq ?_
      refine CW.block ?_
      refine CW.seq (CW.region ?_)
      refine rl_ixR rfl ah0 rfl hat29.get Try.underlying22 Try.sizeOf44 rfl ?_
      intro p43 o44 cs45 hr46 hs47 hg48
      obtain ⟨z49, rfl, h50⟩ := hr46
      refine rl_loadA (cs := (Candidate.c x35 z49)) rfl Try.isAgg44 Try.sizeOf44 (hs47) rfl rfl ?_
      refine rl_alloc (Candidate.c Candidate.z (Value.slice none 0 0)) Try.zeroValue44 rfl rfl ?_
      intro p51 w52 n53 k54
      have lo55 : ∀ b, inBlk (Value.pointer (some ⟨p51, 0, none⟩)) b → w.heap.size ≤ b := fun b h => Nat.le_trans c38.size (n53.fresh b h)
      have ah0 := slRep.st k_Candidate_pos ah0 n53.ch (admNew n53.fresh (fun _ x => x))
      have gp1n : (G F w.heap.size (un (inBlk (Value.pointer (some ⟨p51, 0, none⟩))) nb)) p1 := ⟨gp1.1, ((admNew n53.fresh (fun _ x => x)) _ k4.lt gp1.2).2⟩
      have k4 := k4.ch0 n53.ch
      have gp1 := gp1n
      have h50 := slRep.st kStr_pos h50 n53.ch (admNew n53.fresh (fun _ x => x))
      have c38 := c38.then0 n53.ch
      refine rl_storeA (vs := (Candidate.c x35 z49)) rfl rfl (Kd.one _ (show k_Candidate.rep (G F w.heap.size (un (inBlk (Value.pointer (some ⟨p51, 0, none⟩))) nb)) w52 x35 (Candidate.c x35 z49) from ⟨z49, rfl, h50⟩)) Try.sizeOf44 rfl k54 rfl ?_
      intro w56 s58 c57 k59
      have ad60 : ∀ b, b < w52.heap.size → ¬ (un (inBlk (Value.pointer (some ⟨p51, 0, none⟩))) nb) b → ¬ (inBlk (Value.pointer (some ⟨p51, 0, none⟩))) b ∧ ¬ (un (inBlk (Value.pointer (some ⟨p51, 0, none⟩))) nb) b := fun b _ hs => ⟨fun h => hs (.inl h), hs⟩
      have ah0 := slRep.st k_Candidate_pos ah0 c57 ad60
      have k4 := k4.ch c57 (ad60 _ k4.lt gp1.2).1
      have h50 := slRep.st kStr_pos h50 c57 ad60
      have c38 := c38.then c57 (fun i hi h => absurd (lo55 i h) (Nat.not_le_of_lt hi))
      refine RL.nil ?_
      refine thn_n ?_
      refine CW.region ?_
      refine rl_move rfl rfl ?_
      refine rl_move rfl rfl ?_
      obtain ⟨b63, hb64⟩ : ∃ v, (x25 || (lt (x35.ready && (lt (x35.localF || (!a1.localF)) fun b67 => b67)) fun b65 => b65)) = v := ⟨_, rfl⟩
      have hb32 := ltS hb64 hb32
      refine RL.join 12 41 (.bool b63) (fun w' => Ch nb w56 w') ?_ ?_
      · rcases Bool.eq_false_or_eq_true x25 with hg62 | hg62
        ·
         have hs61 := or_t hg62 hb64
         have cs : Ch nb w56 w56 := Ch.refl
         refine RL.no rfl rfl rfl hg62 rfl rfl ?_
         refine RL.no rfl rfl rfl hg62 rfl rfl ?_
         refine RL.no rfl rfl rfl hg62 rfl rfl ?_
         refine RL.noU rfl rfl rfl rfl rfl ?_
         refine RL.noU rfl rfl rfl rfl rfl ?_
         refine RL.noU rfl rfl rfl rfl rfl ?_
         refine RL.noU rfl rfl rfl rfl rfl ?_
         refine RL.noU rfl rfl rfl rfl rfl ?_
         refine RL.noU rfl rfl rfl rfl rfl ?_
         refine RL.noU rfl rfl rfl rfl rfl ?_
         refine RL.no rfl rfl rfl hg62 rfl rfl ?_
         refine rl_pickT rfl hg62 rfl rfl ?_
         exact RL.nil ⟨Ext.bothEq (congrArg Value.bool hs61) (Ext.skip rfl (Ext.skip rfl (Ext.skip rfl (Ext.skip rfl (Ext.skip rfl (Ext.skip rfl (Ext.skip rfl (Ext.skip rfl (Ext.skip rfl (Ext.skip rfl (Ext.skip rfl (Ext.rfl')))))))))))), cs⟩
        ·
         have hs61 := or_f hg62 hb64
         have cs : Ch nb w56 w56 := Ch.refl
         refine RL.yes rfl rfl rfl hg62 ?_
         refine rl_fieldAddr rfl fa44_2 rfl ?_
         refine RL.yes rfl rfl rfl hg62 ?_
         refine rl_loadS (v := (Value.bool x35.ready)) rfl Try.isAgg4 (k59.cell rfl) rfl ?_
         refine RL.yes rfl rfl rfl hg62 ?_
         refine rl_move rfl rfl ?_
         obtain ⟨b68, hb69⟩ : ∃ v, (x35.ready && (lt (x35.localF || (!a1.localF)) fun b70 => b70)) = v := ⟨_, rfl⟩
         have hs61 := ltS hb69 hs61
         refine RL.join 8 40 (.bool b68) (fun w' => Ch nb w56 w') ?_ ?_
         · rcases Bool.eq_false_or_eq_true x35.ready with hg67 | hg67
           ·
            have hs66 := and_t hg67 hb69
            have cs : Ch nb w56 w56 := Ch.refl
            refine RL.yes rfl rfl rfl hg67 ?_
            refine rl_fieldAddr rfl fa44_1 rfl ?_
            refine RL.yes rfl rfl rfl hg67 ?_
            refine rl_loadS (v := (Value.bool x35.localF)) rfl Try.isAgg4 (k59.cell rfl) rfl ?_
            refine RL.yes rfl rfl rfl hg67 ?_
            refine rl_move rfl rfl ?_
            obtain ⟨b73, hb74⟩ : ∃ v, (x35.localF || (!a1.localF)) = v := ⟨_, rfl⟩
            have hs66 := ltS hb74 hs66
            refine RL.join 4 39 (.bool b73) (fun w' => Ch nb w56 w') ?_ ?_
            · rcases Bool.eq_false_or_eq_true x35.localF with hg72 | hg72
              ·
               have hs71 := or_t hg72 hb74
               have cs : Ch nb w56 w56 := Ch.refl
               refine RL.no rfl rfl rfl hg72 rfl rfl ?_
               refine RL.no rfl rfl rfl hg72 rfl rfl ?_
               refine RL.no rfl rfl rfl hg72 rfl rfl ?_
               refine RL.yes rfl rfl rfl hg67 ?_
               refine rl_pickT rfl hg72 rfl rfl ?_
               exact RL.nil ⟨Ext.bothEq (congrArg Value.bool hs71) (Ext.skip rfl (Ext.skip rfl (Ext.skip rfl (Ext.rfl')))), cs⟩
              ·
               have hs71 := or_f hg72 hb74
               have cs : Ch nb w56 w56 := Ch.refl
               refine RL.yes rfl rfl rfl hg72 ?_
               refine rl_fieldAddr rfl fa24_3 rfl ?_
               refine RL.yes rfl rfl rfl hg72 ?_
               refine rl_loadS (v := (Value.bool a1.localF)) rfl Try.isAgg4 (k4.cell rfl) rfl ?_
               refine RL.yes rfl rfl rfl hg72 ?_
               refine rl_not rfl rfl ?_
               refine RL.yes rfl rfl rfl hg67 ?_
               refine rl_pickF rfl hg72 rfl rfl ?_
               exact RL.nil ⟨Ext.bothEq (congrArg Value.bool hs71) (Ext.skip rfl (Ext.skip rfl (Ext.skip rfl (Ext.rfl')))), cs⟩
            intro w75 c76
            have ah0 := slRep.ch k_Candidate_pos ah0 c76
            have k4 := k4.ch0 c76
            have h50 := slRep.ch kStr_pos h50 c76
            have k59 := k59.ch0 c76
            have c38 := c38.then0 c76
            refine RL.yes rfl rfl rfl hg62 ?_
            refine rl_pickT rfl hg67 rfl rfl ?_
            have cs := cs.then0 c76
            exact RL.nil ⟨Ext.bothEq (congrArg Value.bool hs66) (Ext.skip rfl (Ext.skip rfl (Ext.skip rfl (Ext.skip rfl (Ext.rfl'))))), cs⟩
           ·
            have hs66 := and_f hg67 hb69
            have cs : Ch nb w56 w56 := Ch.refl
            refine RL.no rfl rfl rfl hg67 rfl rfl ?_
            refine RL.no rfl rfl rfl hg67 rfl rfl ?_
            refine RL.no rfl rfl rfl hg67 rfl rfl ?_
            refine RL.noU rfl rfl rfl rfl rfl ?_
            refine RL.noU rfl rfl rfl rfl rfl ?_
            refine RL.noU rfl rfl rfl rfl rfl ?_
            refine RL.no rfl rfl rfl hg67 rfl rfl ?_
            refine RL.yes rfl rfl rfl hg62 ?_
            refine rl_pickF rfl hg67 rfl rfl ?_
            exact RL.nil ⟨Ext.bothEq (congrArg Value.bool hs66) (Ext.skip rfl (Ext.skip rfl (Ext.skip rfl (Ext.skip rfl (Ext.skip rfl (Ext.skip rfl (Ext.skip rfl (Ext.rfl')))))))), cs⟩
         intro w70 c77
         have ah0 := slRep.ch k_Candidate_pos ah0 c77
         have k4 := k4.ch0 c77
         have h50 := slRep.ch kStr_pos h50 c77
         have k59 := k59.ch0 c77
         have c38 := c38.then0 c77
         refine rl_pickF rfl hg62 rfl rfl ?_
         have cs := cs.then0 c77
         exact RL.nil ⟨Ext.bothEq (congrArg Value.bool hs61) (Ext.skip rfl (Ext.skip rfl (Ext.skip rfl (Ext.skip rfl (Ext.rfl'))))), cs⟩
      intro w65 c78
      have ah0 := slRep.ch k_Candidate_pos ah0 c78
      have k4 := k4.ch0 c78
      have h50 := slRep.ch kStr_pos h50 c78
      have k59 := k59.ch0 c78
      have c38 := c38.then0 c78
      refine rl_assign rfl rfl ?_
      refine RL.nil ?_
      refine inB_n ?_
      refine thn_n ?_
      refine CW.region ?_
      refine rl_inc rfl hat29.lt ah0.big rfl ?_
      refine rl_move rfl rfl ?_
      refine RL.nil ?_
      refine thn_n ?_
      have crf : Ch nb w65 w65 := Ch.refl
      have ah0 := slRep.st k_Candidate_pos ah0 crf (show ∀ b, b < w65.heap.size → ¬ (un (inBlk (Value.pointer (some ⟨p51, 0, none⟩))) nb) b → ¬ nb b ∧ ¬ nb b from fun b _ hs => ⟨fun x => x, fun h => hs (False.elim h)⟩)
      have gp1n : (G F w.heap.size nb) p1 := ⟨gp1.1, ((show ∀ b, b < w65.heap.size → ¬ (un (inBlk (Value.pointer (some ⟨p51, 0, none⟩))) nb) b → ¬ nb b ∧ ¬ nb b from fun b _ hs => ⟨fun x => x, fun h => hs (False.elim h)⟩) _ k4.lt gp1.2).2⟩
      have k4 := k4.ch0 crf
      have gp1 := gp1n
      have h50 := slRep.st kStr_pos h50 crf (show ∀ b, b < w65.heap.size → ¬ (un (inBlk (Value.pointer (some ⟨p51, 0, none⟩))) nb) b → ¬ nb b ∧ ¬ nb b from fun b _ hs => ⟨fun x => x, fun h => hs (False.elim h)⟩)
      have c38 := c38.then0 crf
      have hLn := runA_next hL28 (hb32.trans hq31.symm)
      exact ⟨rest42.length, Nat.lt_succ_self _, [(0, av0), (3, (Value.pointer (some ⟨p1, 0, none⟩))), (22, av0), (23, (Value.int .i64 ((a0.length : Nat) : Int))), (5, (Value.bool b63)), (24, (Value.int .i64 ((i27 + 1 : Nat) : Int)))], ⟨rfl, rfl, rfl, rfl, rfl, rfl, trivial⟩, ⟨rest42, i27 + 1, b63, rfl, rfl, c38, hat29.next, hLn, ah0, k4, gp1⟩⟩
     ·
      obtain rfl := hat29.nil q41
      have hLf : x25 = o33 := hL28
      refine CW.exit (thn_exit (thn_exit (inB_hit ?_)))
      exact ⟨x25, ⟨rfl, rfl, rfl, trivial⟩, c38, hLf, ah0, k4, gp1⟩
    ·
     rintro _ w80 ⟨x25, hE81, c79, f82, ah0, k4, gp1⟩
     subst f82
     refine thn_n (CW.sub [(0, av0), (3, (Value.pointer (some ⟨p1, 0, none⟩))), (5, (Value.bool x25))] hE81 ?_)
     refine CW.seq (CW.region ?_)
     refine rl_move rfl rfl ?_
     refine rl_loadA (cs := (Want.enc a1)) rfl Try.isAgg24 Try.sizeOf24 (k4.segAt 0 7) rfl rfl ?_
     obtain ⟨y86, hy87, hS⟩ := bindS hS
     refine rl_callF rfl en13 rfl (ctr13 (G F w.heap.size nb) w80 a0 av0 ah0 a1 y86 hy87) ?_
     rintro v88 w84 ⟨_, rfl, h89, c85⟩
     have h89 := SlO.backR k_Candidate_pos h89 nbS c79.size
     have ah0 := slRep.ch k_Candidate_pos ah0 c85
     have k4 := k4.ch0 c85
     have c79 := c79.then0 c85
     refine rl_assign rfl rfl ?_
     refine RL.nil ?_
     refine thn_n ?_
     refine CW.seq ?_
     refine CW.seq (CW.region ?_)
     refine rl_move rfl rfl ?_
     refine rl_lenR rfl h89 Try.underlying22 rfl ?_
     refine rl_move rfl rfl ?_
     refine RL.nil ?_
     refine thn_n ?_
     obtain ⟨o97, ho98, hS⟩ := bindS hS
     refine CW.cutB (fun E' w' => ∃ (_ : Unit), Sub [(5, (Value.bool x25)), (8, v88)] E' ∧ Ch nb w w' ∧ Lp.fin () = o97 ∧ slRep k_Candidate (G F w.heap.size nb) w' a0 av0 ∧ Blk w' p1 24 (Want.enc a1) ∧ slRep k_Candidate (G F w.heap.size nb) w' y86 v88 ∧ (G F w.heap.size nb) p1) ?_ ?_
     ·
      refine CW.loopS [(0, av0), (3, (Value.pointer (some ⟨p1, 0, none⟩))), (5, (Value.bool x25)), (8, v88), (46, v88), (47, (Value.int .i64 ((y86.length : Nat) : Int))), (48, (Value.int .i64 ((0 : Nat) : Int)))] ⟨rfl, rfl, rfl, rfl, rfl, rfl, rfl, trivial⟩ y86.length (fun m E w' => ∃ (rest90 : List Candidate) (i91 : Nat) , m = rest90.length ∧ E = [(0, av0), (3, (Value.pointer (some ⟨p1, 0, none⟩))), (5, (Value.bool x25)), (8, v88), (46, v88), (47, (Value.int .i64 ((y86.length : Nat) : Int))), (48, (Value.int .i64 ((i91 : Nat) : Int)))] ∧ Ch nb w w' ∧ At y86 i91 rest90 ∧ runBO (F4_linkboylaw19_PickRight_b2 a0 a1 x25 x25) rest90 () = some o97 ∧ slRep k_Candidate (G F w.heap.size nb) w' a0 av0 ∧ Blk w' p1 24 (Want.enc a1) ∧ slRep k_Candidate (G F w.heap.size nb) w' y86 v88 ∧ (G F w.heap.size nb) p1)
          ⟨y86, 0, rfl, rfl, c79, At.start, ho98, ah0, k4, h89, gp1⟩ ?_
      rintro _ _ w103 ⟨rest90, i91, rfl, rfl, c102, hat93, hL92, ah0, k4, h89, gp1⟩
      refine CW.seq (CW.region ?_)
      refine rl_bin rfl rfl B.lss rfl ?_
      refine RL.nil (thn_n ?_)
      refine CW.seq ?_
      refine CW.cond (t := decide (((i91 : Nat) : Int) < ((y86.length : Nat) : Int))) rfl (fun q105 => ?_) (fun q105 => ?_)
      ·
       obtain ⟨x99, rest106, rfl⟩ := hat93.cons q105
       obtain ⟨q94, hq95⟩ := runBO_some hL92
       have hb96 := hq95
       refine CW.skip (thn_n ?_)
       refine CW.seq ?_
       refine CW.block ?_
       refine CW.seq (CW.region ?_)
       refine rl_ixR rfl h89 rfl hat93.get Try.underlying22 Try.sizeOf44 rfl ?_
       intro p107 o108 cs109 hr110 hs111 hg112
       obtain ⟨z113, rfl, h114⟩ := hr110
       refine rl_loadA (cs := (Candidate.c x99 z113)) rfl Try.isAgg44 Try.sizeOf44 (hs111) rfl rfl ?_
       refine rl_alloc (Candidate.c Candidate.z (Value.slice none 0 0)) Try.zeroValue44 rfl rfl ?_
       intro p115 w116 n117 k118
       have lo119 : ∀ b, inBlk (Value.pointer (some ⟨p115, 0, none⟩)) b → w.heap.size ≤ b := fun b h => Nat.le_trans c102.size (n117.fresh b h)
       have ah0 := slRep.st k_Candidate_pos ah0 n117.ch (admNew n117.fresh (fun _ x => x))
       have gp1n : (G F w.heap.size (un (inBlk (Value.pointer (some ⟨p115, 0, none⟩))) nb)) p1 := ⟨gp1.1, ((admNew n117.fresh (fun _ x => x)) _ k4.lt gp1.2).2⟩
       have k4 := k4.ch0 n117.ch
       have gp1 := gp1n
       have h89 := slRep.st k_Candidate_pos h89 n117.ch (admNew n117.fresh (fun _ x => x))
       have h114 := slRep.st kStr_pos h114 n117.ch (admNew n117.fresh (fun _ x => x))
       have c102 := c102.then0 n117.ch
       refine rl_storeA (vs := (Candidate.c x99 z113)) rfl rfl (Kd.one _ (show k_Candidate.rep (G F w.heap.size (un (inBlk (Value.pointer (some ⟨p115, 0, none⟩))) nb)) w116 x99 (Candidate.c x99 z113) from ⟨z113, rfl, h114⟩)) Try.sizeOf44 rfl k118 rfl ?_
       intro w120 s122 c121 k123
       have ad124 : ∀ b, b < w116.heap.size → ¬ (un (inBlk (Value.pointer (some ⟨p115, 0, none⟩))) nb) b → ¬ (inBlk (Value.pointer (some ⟨p115, 0, none⟩))) b ∧ ¬ (un (inBlk (Value.pointer (some ⟨p115, 0, none⟩))) nb) b := fun b _ hs => ⟨fun h => hs (.inl h), hs⟩
       have ah0 := slRep.st k_Candidate_pos ah0 c121 ad124
       have k4 := k4.ch c121 (ad124 _ k4.lt gp1.2).1
       have h89 := slRep.st k_Candidate_pos h89 c121 ad124
       have h114 := slRep.st kStr_pos h114 c121 ad124
       have c102 := c102.then c121 (fun i hi h => absurd (lo119 i h) (Nat.not_le_of_lt hi))
       refine RL.nil ?_
       refine thn_n ?_
       refine CW.seq ?_
       refine CW.seq (CW.region ?_)
       refine rl_fieldAddr rfl fa24_3 rfl ?_
       refine rl_loadS (v := (Value.bool a1.localF)) rfl Try.isAgg4 (k4.cell rfl) rfl ?_
       refine rl_move rfl rfl ?_
       obtain ⟨b127, hb128⟩ : ∃ v, (a1.localF && (!x99.localF)) = v := ⟨_, rfl⟩
       have hb96 := ltS hb128 hb96
       refine RL.join 4 58 (.bool b127) (fun w' => Ch nb w120 w') ?_ ?_
       · rcases Bool.eq_false_or_eq_true a1.localF with hg126 | hg126
         ·
          have hs125 := and_t hg126 hb128
          have cs : Ch nb w120 w120 := Ch.refl
          refine RL.yes rfl rfl rfl hg126 ?_
          refine rl_fieldAddr rfl fa44_1 rfl ?_
          refine RL.yes rfl rfl rfl hg126 ?_
          refine rl_loadS (v := (Value.bool x99.localF)) rfl Try.isAgg4 (k123.cell rfl) rfl ?_
          refine RL.yes rfl rfl rfl hg126 ?_
          refine rl_not rfl rfl ?_
          refine rl_pickT rfl hg126 rfl rfl ?_
          exact RL.nil ⟨Ext.bothEq (congrArg Value.bool hs125) (Ext.skip rfl (Ext.skip rfl (Ext.skip rfl (Ext.rfl')))), cs⟩
         ·
          have hs125 := and_f hg126 hb128
          have cs : Ch nb w120 w120 := Ch.refl
          refine RL.no rfl rfl rfl hg126 rfl rfl ?_
          refine RL.no rfl rfl rfl hg126 rfl rfl ?_
          refine RL.no rfl rfl rfl hg126 rfl rfl ?_
          refine rl_pickF rfl hg126 rfl rfl ?_
          exact RL.nil ⟨Ext.bothEq (congrArg Value.bool hs125) (Ext.skip rfl (Ext.skip rfl (Ext.skip rfl (Ext.rfl')))), cs⟩
       intro w129 c130
       have ah0 := slRep.ch k_Candidate_pos ah0 c130
       have k4 := k4.ch0 c130
       have h89 := slRep.ch k_Candidate_pos h89 c130
       have h114 := slRep.ch kStr_pos h114 c130
       have k123 := k123.ch0 c130
       have c102 := c102.then0 c130
       refine rl_move rfl rfl ?_
       obtain ⟨b133, hb134⟩ : ∃ v, (b127 || (lt (x25 && (!x99.ready)) fun b135 => b135)) = v := ⟨_, rfl⟩
       have hb96 := ltS hb134 hb96
       refine RL.join 7 66 (.bool b133) (fun w' => Ch nb w129 w') ?_ ?_
       · rcases Bool.eq_false_or_eq_true b127 with hg132 | hg132
         ·
          have hs131 := or_t hg132 hb134
          have cs : Ch nb w129 w129 := Ch.refl
          refine RL.no rfl rfl rfl hg132 rfl rfl ?_
          refine RL.no rfl rfl rfl hg132 rfl rfl ?_
          refine RL.noU rfl rfl rfl rfl rfl ?_
          refine RL.noU rfl rfl rfl rfl rfl ?_
          refine RL.noU rfl rfl rfl rfl rfl ?_
          refine RL.no rfl rfl rfl hg132 rfl rfl ?_
          refine rl_pickT rfl hg132 rfl rfl ?_
          exact RL.nil ⟨Ext.bothEq (congrArg Value.bool hs131) (Ext.skip rfl (Ext.skip rfl (Ext.skip rfl (Ext.skip rfl (Ext.skip rfl (Ext.skip rfl (Ext.rfl'))))))), cs⟩
         ·
          have hs131 := or_f hg132 hb134
          have cs : Ch nb w129 w129 := Ch.refl
          refine RL.yes rfl rfl rfl hg132 ?_
          refine rl_move rfl rfl ?_
          refine RL.yes rfl rfl rfl hg132 ?_
          refine rl_move rfl rfl ?_
          obtain ⟨b138, hb139⟩ : ∃ v, (x25 && (!x99.ready)) = v := ⟨_, rfl⟩
          have hs131 := ltS hb139 hs131
          refine RL.join 4 65 (.bool b138) (fun w' => Ch nb w129 w') ?_ ?_
          · rcases Bool.eq_false_or_eq_true x25 with hg137 | hg137
            ·
             have hs136 := and_t hg137 hb139
             have cs : Ch nb w129 w129 := Ch.refl
             refine RL.yes rfl rfl rfl hg137 ?_
             refine rl_fieldAddr rfl fa44_2 rfl ?_
             refine RL.yes rfl rfl rfl hg137 ?_
             refine rl_loadS (v := (Value.bool x99.ready)) rfl Try.isAgg4 (k123.cell rfl) rfl ?_
             refine RL.yes rfl rfl rfl hg137 ?_
             refine rl_not rfl rfl ?_
             refine RL.yes rfl rfl rfl hg132 ?_
             refine rl_pickT rfl hg137 rfl rfl ?_
             exact RL.nil ⟨Ext.bothEq (congrArg Value.bool hs136) (Ext.skip rfl (Ext.skip rfl (Ext.skip rfl (Ext.rfl')))), cs⟩
            ·
             have hs136 := and_f hg137 hb139
             have cs : Ch nb w129 w129 := Ch.refl
             refine RL.no rfl rfl rfl hg137 rfl rfl ?_
             refine RL.no rfl rfl rfl hg137 rfl rfl ?_
             refine RL.no rfl rfl rfl hg137 rfl rfl ?_
             refine RL.yes rfl rfl rfl hg132 ?_
             refine rl_pickF rfl hg137 rfl rfl ?_
             exact RL.nil ⟨Ext.bothEq (congrArg Value.bool hs136) (Ext.skip rfl (Ext.skip rfl (Ext.skip rfl (Ext.rfl')))), cs⟩
          intro w140 c141
          have ah0 := slRep.ch k_Candidate_pos ah0 c141
          have k4 := k4.ch0 c141
          have h89 := slRep.ch k_Candidate_pos h89 c141
          have h114 := slRep.ch kStr_pos h114 c141
          have k123 := k123.ch0 c141
          have c102 := c102.then0 c141
          refine rl_pickF rfl hg132 rfl rfl ?_
          have cs := cs.then0 c141
          exact RL.nil ⟨Ext.bothEq (congrArg Value.bool hs131) (Ext.skip rfl (Ext.skip rfl (Ext.skip rfl (Ext.rfl')))), cs⟩
       intro w135 c142
       have ah0 := slRep.ch k_Candidate_pos ah0 c142
       have k4 := k4.ch0 c142
       have h89 := slRep.ch k_Candidate_pos h89 c142
       have h114 := slRep.ch kStr_pos h114 c142
       have k123 := k123.ch0 c142
       have c102 := c102.then0 c142
       refine rl_move rfl rfl ?_
       obtain ⟨b145, hb146⟩ : ∃ v, (b133 || (lt ((!x99.ready) && (lt (x99.serving && x99.terminating) fun b149 => !b149)) fun b147 => b147)) = v := ⟨_, rfl⟩
       have hb96 := ltS hb146 hb96
       refine RL.join 13 80 (.bool b145) (fun w' => Ch nb w135 w') ?_ ?_
       · rcases Bool.eq_false_or_eq_true b133 with hg144 | hg144
         ·
          have hs143 := or_t hg144 hb146
          have cs : Ch nb w135 w135 := Ch.refl
          refine RL.no rfl rfl rfl hg144 rfl rfl ?_
          refine RL.no rfl rfl rfl hg144 rfl rfl ?_
          refine RL.no rfl rfl rfl hg144 rfl rfl ?_
          refine RL.no rfl rfl rfl hg144 rfl rfl ?_
          refine RL.noU rfl rfl rfl rfl rfl ?_
          refine RL.noU rfl rfl rfl rfl rfl ?_
          refine RL.noU rfl rfl rfl rfl rfl ?_
          refine RL.noU rfl rfl rfl rfl rfl ?_
          refine RL.noU rfl rfl rfl rfl rfl ?_
          refine RL.noU rfl rfl rfl rfl rfl ?_
          refine RL.noU rfl rfl rfl rfl rfl ?_
          refine RL.no rfl rfl rfl hg144 rfl rfl ?_
          refine rl_pickT rfl hg144 rfl rfl ?_
          exact RL.nil ⟨Ext.bothEq (congrArg Value.bool hs143) (Ext.skip rfl (Ext.skip rfl (Ext.skip rfl (Ext.skip rfl (Ext.skip rfl (Ext.skip rfl (Ext.skip rfl (Ext.skip rfl (Ext.skip rfl (Ext.skip rfl (Ext.skip rfl (Ext.skip rfl (Ext.rfl'))))))))))))), cs⟩
         ·
          have hs143 := or_f hg144 hb146
          have cs : Ch nb w135 w135 := Ch.refl
          refine RL.yes rfl rfl rfl hg144 ?_
          refine rl_fieldAddr rfl fa44_2 rfl ?_
          refine RL.yes rfl rfl rfl hg144 ?_
          refine rl_loadS (v := (Value.bool x99.ready)) rfl Try.isAgg4 (k123.cell rfl) rfl ?_
          refine RL.yes rfl rfl rfl hg144 ?_
          refine rl_not rfl rfl ?_
          refine RL.yes rfl rfl rfl hg144 ?_
          refine rl_move rfl rfl ?_
          obtain ⟨b150, hb151⟩ : ∃ v, ((!x99.ready) && (lt (x99.serving && x99.terminating) fun b152 => !b152)) = v := ⟨_, rfl⟩
          have hs143 := ltS hb151 hs143
          refine RL.join 8 79 (.bool b150) (fun w' => Ch nb w135 w') ?_ ?_
          · rcases Bool.eq_false_or_eq_true (!x99.ready) with hg149 | hg149
            ·
             have hs148 := and_t hg149 hb151
             have cs : Ch nb w135 w135 := Ch.refl
             refine RL.yes rfl rfl rfl hg149 ?_
             refine rl_fieldAddr rfl fa44_3 rfl ?_
             refine RL.yes rfl rfl rfl hg149 ?_
             refine rl_loadS (v := (Value.bool x99.serving)) rfl Try.isAgg4 (k123.cell rfl) rfl ?_
             refine RL.yes rfl rfl rfl hg149 ?_
             refine rl_move rfl rfl ?_
             obtain ⟨b155, hb156⟩ : ∃ v, (x99.serving && x99.terminating) = v := ⟨_, rfl⟩
             have hs148 := ltS hb156 hs148
             refine RL.join 3 77 (.bool b155) (fun w' => Ch nb w135 w') ?_ ?_
             · rcases Bool.eq_false_or_eq_true x99.serving with hg154 | hg154
               ·
                have hs153 := and_t hg154 hb156
                have cs : Ch nb w135 w135 := Ch.refl
                refine RL.yes rfl rfl rfl hg154 ?_
                refine rl_fieldAddr rfl fa44_4 rfl ?_
                refine RL.yes rfl rfl rfl hg154 ?_
                refine rl_loadS (v := (Value.bool x99.terminating)) rfl Try.isAgg4 (k123.cell rfl) rfl ?_
                refine RL.yes rfl rfl rfl hg149 ?_
                refine rl_pickT rfl hg154 rfl rfl ?_
                exact RL.nil ⟨Ext.bothEq (congrArg Value.bool hs153) (Ext.skip rfl (Ext.skip rfl (Ext.rfl'))), cs⟩
               ·
                have hs153 := and_f hg154 hb156
                have cs : Ch nb w135 w135 := Ch.refl
                refine RL.no rfl rfl rfl hg154 rfl rfl ?_
                refine RL.no rfl rfl rfl hg154 rfl rfl ?_
                refine RL.yes rfl rfl rfl hg149 ?_
                refine rl_pickF rfl hg154 rfl rfl ?_
                exact RL.nil ⟨Ext.bothEq (congrArg Value.bool hs153) (Ext.skip rfl (Ext.skip rfl (Ext.rfl'))), cs⟩
             intro w157 c158
             have ah0 := slRep.ch k_Candidate_pos ah0 c158
             have k4 := k4.ch0 c158
             have h89 := slRep.ch k_Candidate_pos h89 c158
             have h114 := slRep.ch kStr_pos h114 c158
             have k123 := k123.ch0 c158
             have c102 := c102.then0 c158
             refine RL.yes rfl rfl rfl hg149 ?_
             refine rl_not rfl rfl ?_
             refine RL.yes rfl rfl rfl hg144 ?_
             refine rl_pickT rfl hg149 rfl rfl ?_
             have cs := cs.then0 c158
             exact RL.nil ⟨Ext.bothEq (congrArg Value.bool hs148) (Ext.skip rfl (Ext.skip rfl (Ext.skip rfl (Ext.skip rfl (Ext.skip rfl (Ext.rfl')))))), cs⟩
            ·
             have hs148 := and_f hg149 hb151
             have cs : Ch nb w135 w135 := Ch.refl
             refine RL.no rfl rfl rfl hg149 rfl rfl ?_
             refine RL.no rfl rfl rfl hg149 rfl rfl ?_
             refine RL.no rfl rfl rfl hg149 rfl rfl ?_
             refine RL.noU rfl rfl rfl rfl rfl ?_
             refine RL.noU rfl rfl rfl rfl rfl ?_
             refine RL.no rfl rfl rfl hg149 rfl rfl ?_
             refine RL.no rfl rfl rfl hg149 rfl rfl ?_
             refine RL.yes rfl rfl rfl hg144 ?_
             refine rl_pickF rfl hg149 rfl rfl ?_
             exact RL.nil ⟨Ext.bothEq (congrArg Value.bool hs148) (Ext.skip rfl (Ext.skip rfl (Ext.skip rfl (Ext.skip rfl (Ext.skip rfl (Ext.skip rfl (Ext.skip rfl (Ext.rfl')))))))), cs⟩
          intro w152 c159
          have ah0 := slRep.ch k_Candidate_pos ah0 c159
          have k4 := k4.ch0 c159
          have h89 := slRep.ch k_Candidate_pos h89 c159
          have h114 := slRep.ch kStr_pos h114 c159
          have k123 := k123.ch0 c159
          have c102 := c102.then0 c159
          refine rl_pickF rfl hg144 rfl rfl ?_
          have cs := cs.then0 c159
          exact RL.nil ⟨Ext.bothEq (congrArg Value.bool hs143) (Ext.skip rfl (Ext.skip rfl (Ext.skip rfl (Ext.skip rfl (Ext.skip rfl (Ext.rfl')))))), cs⟩
       intro w147 c160
       have ah0 := slRep.ch k_Candidate_pos ah0 c160
       have k4 := k4.ch0 c160
       have h89 := slRep.ch k_Candidate_pos h89 c160
       have h114 := slRep.ch kStr_pos h114 c160
       have k123 := k123.ch0 c160
       have c102 := c102.then0 c160
       refine RL.nil ?_
       refine thn_n ?_
       refine CW.cond (t := b145) rfl (fun q161 => ?_) (fun q161 => ?_)
       ·
        have hb96 := ifT q161 hb96
        refine CW.seq (CW.region ?_)
        refine rl_assign rfl rfl ?_
        refine RL.nil ?_
        refine thn_n ?_
        refine CW.ret ?_
        refine thn_ret ?_
        refine inB_ret ?_
        refine thn_ret ?_
        refine thn_ret (inB_ret (thn_ret ?_))
        refine thn_ret ?_
        have f162 := runBO_ret hL92 hq95 hb96
        have hS := retS f162 hS
        obtain rfl := Option.some.inj hS
        exact ret1 rfl ⟨rfl, c102⟩
       ·
        have hb96 := ifF q161 hb96
        refine CW.skip ?_
        refine thn_n ?_
        refine CW.seq (CW.region ?_)
        refine rl_assign rfl rfl ?_
        refine RL.nil ?_
        refine thn_n ?_
        refine CW.seq ?_
        refine CW.seq (CW.region ?_)
        refine rl_move rfl rfl ?_
        refine rl_lenR rfl ah0 Try.underlying22 rfl ?_
        refine rl_move rfl rfl ?_
        refine RL.nil ?_
        refine thn_n ?_
        obtain ⟨o171, ho172, hb96⟩ := bindS hb96
        refine CW.cutB (fun E' w' => ∃ (x163 : Bool), Sub [(0, av0), (3, (Value.pointer (some ⟨p1, 0, none⟩))), (5, (Value.bool x25)), (8, v88), (46, v88), (47, (Value.int .i64 ((y86.length : Nat) : Int))), (48, (Value.int .i64 ((i91 : Nat) : Int))), (11, (Value.bool x163))] E' ∧ Ch nb w w' ∧ x163 = o171 ∧ slRep k_Candidate (G F w.heap.size (un (inBlk (Value.pointer (some ⟨p115, 0, none⟩))) nb)) w' a0 av0 ∧ Blk w' p1 24 (Want.enc a1) ∧ slRep k_Candidate (G F w.heap.size (un (inBlk (Value.pointer (some ⟨p115, 0, none⟩))) nb)) w' y86 v88 ∧ slRep kStr (G F w.heap.size (un (inBlk (Value.pointer (some ⟨p115, 0, none⟩))) nb)) w' x99.zones z113 ∧ Blk w' p115 44 (Candidate.c x99 z113) ∧ (G F w.heap.size (un (inBlk (Value.pointer (some ⟨p115, 0, none⟩))) nb)) p1) ?_ ?_
        ·
         refine CW.loopS [(0, av0), (3, (Value.pointer (some ⟨p1, 0, none⟩))), (5, (Value.bool x25)), (8, v88), (10, (Value.pointer (some ⟨p115, 0, none⟩))), (46, v88), (47, (Value.int .i64 ((y86.length : Nat) : Int))), (48, (Value.int .i64 ((i91 : Nat) : Int))), (81, av0), (82, (Value.int .i64 ((a0.length : Nat) : Int))), (11, (Value.bool false)), (83, (Value.int .i64 ((0 : Nat) : Int)))] ⟨rfl, rfl, rfl, rfl, rfl, rfl, rfl, rfl, rfl, rfl, rfl, rfl, trivial⟩ a0.length (fun m E w' => ∃ (rest164 : List Candidate) (i165 : Nat) (x163 : Bool), m = rest164.length ∧ E = [(0, av0), (3, (Value.pointer (some ⟨p1, 0, none⟩))), (5, (Value.bool x25)), (8, v88), (10, (Value.pointer (some ⟨p115, 0, none⟩))), (46, v88), (47, (Value.int .i64 ((y86.length : Nat) : Int))), (48, (Value.int .i64 ((i91 : Nat) : Int))), (81, av0), (82, (Value.int .i64 ((a0.length : Nat) : Int))), (11, (Value.bool x163)), (83, (Value.int .i64 ((i165 : Nat) : Int)))] ∧ Ch nb w w' ∧ At a0 i165 rest164 ∧ runAO (F4_linkboylaw19_PickRight_b3 x99) rest164 x163 = some o171 ∧ slRep k_Candidate (G F w.heap.size (un (inBlk (Value.pointer (some ⟨p115, 0, none⟩))) nb)) w' a0 av0 ∧ Blk w' p1 24 (Want.enc a1) ∧ slRep k_Candidate (G F w.heap.size (un (inBlk (Value.pointer (some ⟨p115, 0, none⟩))) nb)) w' y86 v88 ∧ slRep kStr (G F w.heap.size (un (inBlk (Value.pointer (some ⟨p115, 0, none⟩))) nb)) w' x99.zones z113 ∧ Blk w' p115 44 (Candidate.c x99 z113) ∧ (G F w.heap.size (un (inBlk (Value.pointer (some ⟨p115, 0, none⟩))) nb)) p1)
             ⟨a0, 0, false, rfl, rfl, c102, At.start, ho172, ah0, k4, h89, h114, k123, gp1⟩ ?_
         rintro _ _ w177 ⟨rest164, i165, x163, rfl, rfl, c176, hat167, hL166, ah0, k4, h89, h114, k123, gp1⟩
         refine CW.seq (CW.region ?_)
         refine rl_bin rfl rfl B.lss rfl ?_
         refine RL.nil (thn_n ?_)
         refine CW.seq ?_
         refine CW.cond (t := decide (((i165 : Nat) : Int) < ((a0.length : Nat) : Int))) rfl (fun q179 => ?_) (fun q179 => ?_)
         ·
          obtain ⟨x173, rest180, rfl⟩ := hat167.cons q179
          obtain ⟨q168, hq169⟩ := runAO_some hL166
          have hb170 := hq169
          refine CW.skip (thn_n ?_)
          refine CW.seq ?_
          refine CW.block ?_
          refine CW.seq (CW.region ?_)
          refine rl_ixR rfl ah0 rfl hat167.get Try.underlying22 Try.sizeOf44 rfl ?_
          intro p181 o182 cs183 hr184 hs185 hg186
          obtain ⟨z187, rfl, h188⟩ := hr184
          refine rl_loadA (cs := (Candidate.c x173 z187)) rfl Try.isAgg44 Try.sizeOf44 (hs185) rfl rfl ?_
          refine rl_alloc (Candidate.c Candidate.z (Value.slice none 0 0)) Try.zeroValue44 rfl rfl ?_
          intro p189 w190 n191 k192
          have lo193 : ∀ b, inBlk (Value.pointer (some ⟨p189, 0, none⟩)) b → w.heap.size ≤ b := fun b h => Nat.le_trans c176.size (n191.fresh b h)
          have d194 : ∀ b, inBlk (Value.pointer (some ⟨p189, 0, none⟩)) b → ¬ inBlk (Value.pointer (some ⟨p115, 0, none⟩)) b := disNew n191.fresh k123.ltp
          have ah0 := slRep.st k_Candidate_pos ah0 n191.ch (admNew n191.fresh (fun _ x => x))
          have gp1n : (G F w.heap.size (un (inBlk (Value.pointer (some ⟨p189, 0, none⟩))) (un (inBlk (Value.pointer (some ⟨p115, 0, none⟩))) nb))) p1 := ⟨gp1.1, ((admNew n191.fresh (fun _ x => x)) _ k4.lt gp1.2).2⟩
          have k4 := k4.ch0 n191.ch
          have gp1 := gp1n
          have h89 := slRep.st k_Candidate_pos h89 n191.ch (admNew n191.fresh (fun _ x => x))
          have h114 := slRep.st kStr_pos h114 n191.ch (admNew n191.fresh (fun _ x => x))
          have k123 := k123.ch0 n191.ch
          have h188 := slRep.st kStr_pos h188 n191.ch (admNew n191.fresh (fun _ x => x))
          have c176 := c176.then0 n191.ch
          refine rl_storeA (vs := (Candidate.c x173 z187)) rfl rfl (Kd.one _ (show k_Candidate.rep (G F w.heap.size (un (inBlk (Value.pointer (some ⟨p189, 0, none⟩))) (un (inBlk (Value.pointer (some ⟨p115, 0, none⟩))) nb))) w190 x173 (Candidate.c x173 z187) from ⟨z187, rfl, h188⟩)) Try.sizeOf44 rfl k192 rfl ?_
          intro w195 s197 c196 k198
          have ad199 : ∀ b, b < w190.heap.size → ¬ (un (inBlk (Value.pointer (some ⟨p189, 0, none⟩))) (un (inBlk (Value.pointer (some ⟨p115, 0, none⟩))) nb)) b → ¬ (inBlk (Value.pointer (some ⟨p189, 0, none⟩))) b ∧ ¬ (un (inBlk (Value.pointer (some ⟨p189, 0, none⟩))) (un (inBlk (Value.pointer (some ⟨p115, 0, none⟩))) nb)) b := fun b _ hs => ⟨fun h => hs (.inl h), hs⟩
          have ah0 := slRep.st k_Candidate_pos ah0 c196 ad199
          have k4 := k4.ch c196 (ad199 _ k4.lt gp1.2).1
          have h89 := slRep.st k_Candidate_pos h89 c196 ad199
          have h114 := slRep.st kStr_pos h114 c196 ad199
          have k123 := k123.ch c196 ((fun b hb h => (disSym d194) b hb h) _ rfl)
          have h188 := slRep.st kStr_pos h188 c196 ad199
          have c176 := c176.then c196 (fun i hi h => absurd (lo193 i h) (Nat.not_le_of_lt hi))
          refine RL.nil ?_
          refine thn_n ?_
          refine CW.region ?_
          refine rl_move rfl rfl ?_
          refine rl_move rfl rfl ?_
          obtain ⟨b202, hb203, hb170⟩ := bindS hb170
          refine RL.join 4 92 (.bool b202) (fun w' => Ch nb w195 w') ?_ ?_
          · rcases Bool.eq_false_or_eq_true x163 with hg201 | hg201
            ·
             have hs200 := orO_t hg201 hb203
             have cs : Ch nb w195 w195 := Ch.refl
             refine RL.no rfl rfl rfl hg201 rfl rfl ?_
             refine RL.no rfl rfl rfl hg201 rfl rfl ?_
             refine RL.no rfl rfl rfl hg201 rfl rfl ?_
             refine rl_pickT rfl hg201 rfl rfl ?_
             exact RL.nil ⟨Ext.bothEq (congrArg Value.bool (Option.some.inj hs200)) (Ext.skip rfl (Ext.skip rfl (Ext.skip rfl (Ext.rfl')))), cs⟩
            ·
             have hs200 := orO_f hg201 hb203
             have cs : Ch nb w195 w195 := Ch.refl
             refine RL.yes rfl rfl rfl hg201 ?_
             refine rl_loadA (cs := (Candidate.c x173 z187)) rfl Try.isAgg44 Try.sizeOf44 (k198.segAt 0 23) rfl rfl ?_
             refine RL.yes rfl rfl rfl hg201 ?_
             refine rl_loadA (cs := (Candidate.c x99 z113)) rfl Try.isAgg44 Try.sizeOf44 (k123.segAt 0 23) rfl rfl ?_
             refine RL.yes rfl rfl rfl hg201 ?_
             obtain ⟨y207, hy208, hs200⟩ := bindS hs200
             refine rl_callF rfl en15 rfl (ctr15 (G F w.heap.size (un (inBlk (Value.pointer (some ⟨p189, 0, none⟩))) (un (inBlk (Value.pointer (some ⟨p115, 0, none⟩))) nb))) w195 x173 z187 h188 x99 z113 h114 y207 hy208) ?_
             rintro _ w205 ⟨rfl, c206⟩
             have ah0 := slRep.ch k_Candidate_pos ah0 c206
             have k4 := k4.ch0 c206
             have h89 := slRep.ch k_Candidate_pos h89 c206
             have h114 := slRep.ch kStr_pos h114 c206
             have k123 := k123.ch0 c206
             have h188 := slRep.ch kStr_pos h188 c206
             have k198 := k198.ch0 c206
             have c176 := c176.then0 c206
             refine rl_pickF rfl hg201 rfl rfl ?_
             have cs := cs.then0 c206
             exact RL.nil ⟨Ext.bothEq (congrArg Value.bool (Option.some.inj hs200)) (Ext.skip rfl (Ext.skip rfl (Ext.skip rfl (Ext.rfl')))), cs⟩
          intro w204 c209
          have ah0 := slRep.ch k_Candidate_pos ah0 c209
          have k4 := k4.ch0 c209
          have h89 := slRep.ch k_Candidate_pos h89 c209
          have h114 := slRep.ch kStr_pos h114 c209
          have k123 := k123.ch0 c209
          have h188 := slRep.ch kStr_pos h188 c209
          have k198 := k198.ch0 c209
          have c176 := c176.then0 c209
          refine rl_assign rfl rfl ?_
          refine RL.nil ?_
          refine inB_n ?_
          refine thn_n ?_
          refine CW.region ?_
          refine rl_inc rfl hat167.lt ah0.big rfl ?_
          refine rl_move rfl rfl ?_
          refine RL.nil ?_
          refine thn_n ?_
          have crf : Ch nb w204 w204 := Ch.refl
          have ah0 := slRep.st k_Candidate_pos ah0 crf (show ∀ b, b < w204.heap.size → ¬ (un (inBlk (Value.pointer (some ⟨p189, 0, none⟩))) (un (inBlk (Value.pointer (some ⟨p115, 0, none⟩))) nb)) b → ¬ nb b ∧ ¬ (un (inBlk (Value.pointer (some ⟨p115, 0, none⟩))) nb) b from fun b _ hs => ⟨fun x => x, fun h => hs (un_el h (fun h => (.inr (.inl h))) (fun h => False.elim h))⟩)
          have gp1n : (G F w.heap.size (un (inBlk (Value.pointer (some ⟨p115, 0, none⟩))) nb)) p1 := ⟨gp1.1, ((show ∀ b, b < w204.heap.size → ¬ (un (inBlk (Value.pointer (some ⟨p189, 0, none⟩))) (un (inBlk (Value.pointer (some ⟨p115, 0, none⟩))) nb)) b → ¬ nb b ∧ ¬ (un (inBlk (Value.pointer (some ⟨p115, 0, none⟩))) nb) b from fun b _ hs => ⟨fun x => x, fun h => hs (un_el h (fun h => (.inr (.inl h))) (fun h => False.elim h))⟩) _ k4.lt gp1.2).2⟩
          have k4 := k4.ch0 crf
          have gp1 := gp1n
          have h89 := slRep.st k_Candidate_pos h89 crf (show ∀ b, b < w204.heap.size → ¬ (un (inBlk (Value.pointer (some ⟨p189, 0, none⟩))) (un (inBlk (Value.pointer (some ⟨p115, 0, none⟩))) nb)) b → ¬ nb b ∧ ¬ (un (inBlk (Value.pointer (some ⟨p115, 0, none⟩))) nb) b from fun b _ hs => ⟨fun x => x, fun h => hs (un_el h (fun h => (.inr (.inl h))) (fun h => False.elim h))⟩)
          have h114 := slRep.st kStr_pos h114 crf (show ∀ b, b < w204.heap.size → ¬ (un (inBlk (Value.pointer (some ⟨p189, 0, none⟩))) (un (inBlk (Value.pointer (some ⟨p115, 0, none⟩))) nb)) b → ¬ nb b ∧ ¬ (un (inBlk (Value.pointer (some ⟨p115, 0, none⟩))) nb) b from fun b _ hs => ⟨fun x => x, fun h => hs (un_el h (fun h => (.inr (.inl h))) (fun h => False.elim h))⟩)
          have k123 := k123.ch0 crf
          have h188 := slRep.st kStr_pos h188 crf (show ∀ b, b < w204.heap.size → ¬ (un (inBlk (Value.pointer (some ⟨p189, 0, none⟩))) (un (inBlk (Value.pointer (some ⟨p115, 0, none⟩))) nb)) b → ¬ nb b ∧ ¬ (un (inBlk (Value.pointer (some ⟨p115, 0, none⟩))) nb) b from fun b _ hs => ⟨fun x => x, fun h => hs (un_el h (fun h => (.inr (.inl h))) (fun h => False.elim h))⟩)
          have c176 := c176.then0 crf
          have hLn := runAO_next hL166 hq169 hb170
          exact ⟨rest180.length, Nat.lt_succ_self _, [(0, av0), (3, (Value.pointer (some ⟨p1, 0, none⟩))), (5, (Value.bool x25)), (8, v88), (10, (Value.pointer (some ⟨p115, 0, none⟩))), (46, v88), (47, (Value.int .i64 ((y86.length : Nat) : Int))), (48, (Value.int .i64 ((i91 : Nat) : Int))), (81, av0), (82, (Value.int .i64 ((a0.length : Nat) : Int))), (11, (Value.bool b202)), (83, (Value.int .i64 ((i165 + 1 : Nat) : Int)))], ⟨rfl, rfl, rfl, rfl, rfl, rfl, rfl, rfl, rfl, rfl, rfl, rfl, trivial⟩, ⟨rest180, i165 + 1, b202, rfl, rfl, c176, hat167.next, hLn, ah0, k4, h89, h114, k123, gp1⟩⟩
         ·
          obtain rfl := hat167.nil q179
          have hLf : x163 = o171 := runAO_done hL166
          refine CW.exit (thn_exit (thn_exit (inB_hit ?_)))
          exact ⟨x163, ⟨rfl, rfl, rfl, rfl, rfl, rfl, rfl, rfl, trivial⟩, c176, hLf, ah0, k4, h89, h114, k123, gp1⟩
        ·
         rintro _ w211 ⟨x163, hE212, c210, f213, ah0, k4, h89, h114, k123, gp1⟩
         subst f213
         refine thn_n (CW.sub [(0, av0), (3, (Value.pointer (some ⟨p1, 0, none⟩))), (5, (Value.bool x25)), (8, v88), (46, v88), (47, (Value.int .i64 ((y86.length : Nat) : Int))), (48, (Value.int .i64 ((i91 : Nat) : Int))), (11, (Value.bool x163))] hE212 ?_)
         refine CW.seq (CW.region ?_)
         refine rl_move rfl rfl ?_
         refine rl_not rfl rfl ?_
         refine RL.nil ?_
         refine thn_n ?_
         refine CW.cond (t := !x163) rfl (fun q215 => ?_) (fun q215 => ?_)
         ·
          have hb96 := ifT q215 hb96
          refine CW.seq (CW.region ?_)
          refine rl_assign rfl rfl ?_
          refine RL.nil ?_
          refine thn_n ?_
          refine CW.ret ?_
          refine inB_ret ?_
          refine thn_ret ?_
          refine thn_ret (inB_ret (thn_ret ?_))
          refine thn_ret ?_
          have f216 := runBO_ret hL92 hq95 hb96
          have hS := retS f216 hS
          obtain rfl := Option.some.inj hS
          exact ret1 rfl ⟨rfl, c210⟩
         ·
          have hb96 := ifF q215 hb96
          refine CW.skip ?_
          refine inB_n ?_
          refine thn_n ?_
          refine CW.region ?_
          refine rl_inc rfl hat93.lt h89.big rfl ?_
          refine rl_move rfl rfl ?_
          refine RL.nil ?_
          refine thn_n ?_
          have crf : Ch nb w211 w211 := Ch.refl
          have ah0 := slRep.st k_Candidate_pos ah0 crf (show ∀ b, b < w211.heap.size → ¬ (un (inBlk (Value.pointer (some ⟨p115, 0, none⟩))) nb) b → ¬ nb b ∧ ¬ nb b from fun b _ hs => ⟨fun x => x, fun h => hs (False.elim h)⟩)
          have gp1n : (G F w.heap.size nb) p1 := ⟨gp1.1, ((show ∀ b, b < w211.heap.size → ¬ (un (inBlk (Value.pointer (some ⟨p115, 0, none⟩))) nb) b → ¬ nb b ∧ ¬ nb b from fun b _ hs => ⟨fun x => x, fun h => hs (False.elim h)⟩) _ k4.lt gp1.2).2⟩
          have k4 := k4.ch0 crf
          have gp1 := gp1n
          have h89 := slRep.st k_Candidate_pos h89 crf (show ∀ b, b < w211.heap.size → ¬ (un (inBlk (Value.pointer (some ⟨p115, 0, none⟩))) nb) b → ¬ nb b ∧ ¬ nb b from fun b _ hs => ⟨fun x => x, fun h => hs (False.elim h)⟩)
          have h114 := slRep.st kStr_pos h114 crf (show ∀ b, b < w211.heap.size → ¬ (un (inBlk (Value.pointer (some ⟨p115, 0, none⟩))) nb) b → ¬ nb b ∧ ¬ nb b from fun b _ hs => ⟨fun x => x, fun h => hs (False.elim h)⟩)
          have c210 := c210.then0 crf
          have hLn := runBO_next hL92 hq95 hb96
          exact ⟨rest106.length, Nat.lt_succ_self _, [(0, av0), (3, (Value.pointer (some ⟨p1, 0, none⟩))), (5, (Value.bool x25)), (8, v88), (46, v88), (47, (Value.int .i64 ((y86.length : Nat) : Int))), (48, (Value.int .i64 ((i91 + 1 : Nat) : Int)))], ⟨rfl, rfl, rfl, rfl, rfl, rfl, rfl, trivial⟩, ⟨rest106, i91 + 1, rfl, rfl, c210, hat93.next, hLn, ah0, k4, h89, gp1⟩⟩
      ·
       obtain rfl := hat93.nil q105
       have hLf : Lp.fin () = o97 := runBO_done hL92
       refine CW.exit (thn_exit (thn_exit (inB_hit ?_)))
       exact ⟨(), ⟨rfl, rfl, trivial⟩, c102, hLf, ah0, k4, h89, gp1⟩
     ·
      rintro _ w218 ⟨_, hE219, c217, f220, ah0, k4, h89, gp1⟩
      have hS := finS f220 hS
      refine thn_n (CW.sub [(5, (Value.bool x25)), (8, v88)] hE219 ?_)
      refine CW.seq (CW.region ?_)
      refine rl_move rfl rfl ?_
      refine rl_not rfl rfl ?_
      refine rl_move rfl rfl ?_
      obtain ⟨b224, hb225⟩ : ∃ v, ((!x25) || (decide (((y86.length : Nat) : Int) > 0))) = v := ⟨_, rfl⟩
      have hS := ltS hb225 hS
      refine RL.join 4 103 (.bool b224) (fun w' => Ch nb w218 w') ?_ ?_
      · rcases Bool.eq_false_or_eq_true (!x25) with hg223 | hg223
        ·
         have hs222 := or_t hg223 hb225
         have cs : Ch nb w218 w218 := Ch.refl
         refine RL.no rfl rfl rfl hg223 rfl rfl ?_
         refine RL.no rfl rfl rfl hg223 rfl rfl ?_
         refine RL.no rfl rfl rfl hg223 rfl rfl ?_
         refine rl_pickT rfl hg223 rfl rfl ?_
         exact RL.nil ⟨Ext.bothEq (congrArg Value.bool hs222) (Ext.skip rfl (Ext.skip rfl (Ext.skip rfl (Ext.rfl')))), cs⟩
        ·
         have hs222 := or_f hg223 hb225
         have cs : Ch nb w218 w218 := Ch.refl
         refine RL.yes rfl rfl rfl hg223 ?_
         refine rl_move rfl rfl ?_
         refine RL.yes rfl rfl rfl hg223 ?_
         refine rl_lenR rfl h89 Try.underlying22 rfl ?_
         refine RL.yes rfl rfl rfl hg223 ?_
         refine rl_bin rfl rfl B.gtr rfl ?_
         refine rl_pickF rfl hg223 rfl rfl ?_
         exact RL.nil ⟨Ext.bothEq (congrArg Value.bool hs222) (Ext.skip rfl (Ext.skip rfl (Ext.skip rfl (Ext.rfl')))), cs⟩
      intro w226 c227
      have ah0 := slRep.ch k_Candidate_pos ah0 c227
      have k4 := k4.ch0 c227
      have h89 := slRep.ch k_Candidate_pos h89 c227
      have c217 := c217.then0 c227
      refine rl_assign rfl rfl ?_
      refine RL.nil ?_
      refine thn_n ?_
      refine CW.ret ?_
      obtain rfl := Option.some.inj hS
      exact ret1 rfl ⟨rfl, c217⟩
end Go.Proofs.Yteoaobiglodblaa
