/- The walks through the code: each call comes to its printed function. Written by a program of this session. -/
import Derived.Test.YteoaobiglodblaaM
import Derived.Test.YteoaobiglodblaaW1
namespace Go.Proofs.Yteoaobiglodblaa
open Go K
set_option linter.unusedVariables false
/-- lb/lbref18.Count -/
theorem ctr50 (F : Nat → Prop) (w : World) (a0 : (List Candidate)) (av0 : Value) (ah0 : slRep k_Candidate F w a0 av0) (a1 : ByteArray) (r : Bool) (hs : F50_linkboyref18_Count a0 a1 = r) :
    Ret Try.prog 50 #[av0, (Value.string a1)] w fun v w' => v = (Value.bool r) ∧ Ch nb w w' := by
  have hS := hs
  have c0 : Ch nb w w := Ch.refl
  have ah0 := slRep.enter k_Candidate_pos ah0
  refine Ret.of (n := 40) (args := [_, _]) (rs := [.tmp 4]) Try.func50 rfl rfl rfl rfl ?_
  refine CW.seq (CW.region ?_)
  refine rl_assign rfl rfl ?_
  refine RL.nil ?_
  refine thn_n ?_
  refine CW.seq (CW.region ?_)
  refine rl_assign rfl rfl ?_
  refine rl_assign rfl rfl ?_
  refine RL.nil ?_
  refine thn_n ?_
  refine CW.seq ?_
  refine CW.seq (CW.region ?_)
  refine rl_move rfl rfl ?_
  refine rl_lenR rfl ah0 Try.underlying28 rfl ?_
  refine rl_move rfl rfl ?_
  refine RL.nil ?_
  refine thn_n ?_
  obtain ⟨o10, ho11⟩ : ∃ o, runA (F50_linkboyref18_Count_b1 a1) a0 (false, false) = o := ⟨_, rfl⟩
  have hS := ltS ho11 hS
  refine CW.cutB (fun E' w' => ∃ (x1 : Bool) (x2 : Bool), Sub [(1, (Value.string a1)), (5, (Value.bool x1)), (6, (Value.bool x2))] E' ∧ Ch nb w w' ∧ (x1, x2) = o10 ∧ slRep k_Candidate (G F w.heap.size nb) w' a0 av0) ?_ ?_
  ·
   refine CW.loopS [(1, (Value.string a1)), (9, av0), (10, (Value.int .i64 ((a0.length : Nat) : Int))), (5, (Value.bool false)), (6, (Value.bool false)), (11, (Value.int .i64 ((0 : Nat) : Int)))] ⟨rfl, rfl, rfl, rfl, rfl, rfl, trivial⟩ a0.length (fun m E w' => ∃ (rest3 : List Candidate) (i4 : Nat) (x1 : Bool) (x2 : Bool), m = rest3.length ∧ E = [(1, (Value.string a1)), (9, av0), (10, (Value.int .i64 ((a0.length : Nat) : Int))), (5, (Value.bool x1)), (6, (Value.bool x2)), (11, (Value.int .i64 ((i4 : Nat) : Int)))] ∧ Ch nb w w' ∧ At a0 i4 rest3 ∧ runA (F50_linkboyref18_Count_b1 a1) rest3 (x1, x2) = o10 ∧ slRep k_Candidate (G F w.heap.size nb) w' a0 av0)
       ⟨a0, 0, false, false, rfl, rfl, c0, At.start, ho11, ah0⟩ ?_
   rintro _ _ w16 ⟨rest3, i4, x1, x2, rfl, rfl, c15, hat6, hL5, ah0⟩
   refine CW.seq (CW.region ?_)
   refine rl_bin rfl rfl B.lss rfl ?_
   refine RL.nil (thn_n ?_)
   refine CW.seq ?_
   refine CW.cond (t := decide (((i4 : Nat) : Int) < ((a0.length : Nat) : Int))) rfl (fun q18 => ?_) (fun q18 => ?_)
   ·
    obtain ⟨x12, rest19, rfl⟩ := hat6.cons q18
    obtain ⟨q7, hq8⟩ : ∃ q, (F50_linkboyref18_Count_b1 a1) x12 (x1, x2) = q := ⟨_, rfl⟩
    have hb9 := hq8
    refine CW.skip (thn_n ?_)
    refine CW.seq ?_
    refine CW.block ?_
    refine CW.seq (CW.region ?_)
    refine rl_ixR rfl ah0 rfl hat6.get Try.underlying28 Try.sizeOf58 rfl ?_
    intro p20 o21 cs22 hr23 hs24 hg25
    obtain ⟨z26, rfl, h27⟩ := hr23
    refine rl_loadA (cs := (Candidate.c x12 z26)) rfl Try.isAgg58 Try.sizeOf58 (hs24) rfl rfl ?_
    refine rl_alloc (Candidate.c Candidate.z (Value.slice none 0 0)) Try.zeroValue58 rfl rfl ?_
    intro p28 w29 n30 k31
    have lop28 := n30.lo c15.size
    have ah0 := slRep.st k_Candidate_pos ah0 n30.ch (admNew n30.fresh (fun _ x => x))
    have h27 := slRep.st kStr_pos h27 n30.ch (admNew n30.fresh (fun _ x => x))
    have c15 := c15.then0 n30.ch
    refine rl_storeA (vs := (Candidate.c x12 z26)) rfl rfl (Kd.one _ (show k_Candidate.rep (G F w.heap.size (un (inBlk (Value.pointer (some ⟨p28, 0, none⟩))) nb)) w29 x12 (Candidate.c x12 z26) from ⟨z26, rfl, h27⟩)) Try.sizeOf58 rfl k31 rfl ?_
    intro w32 s34 c33 k35
    have ad36 : ∀ b, b < w29.heap.size → ¬ (un (inBlk (Value.pointer (some ⟨p28, 0, none⟩))) nb) b → ¬ inBlk (Value.pointer (some ⟨p28, 0, none⟩)) b ∧ ¬ (un (inBlk (Value.pointer (some ⟨p28, 0, none⟩))) nb) b := fun b _ hs => ⟨fun h => hs (.inl h), hs⟩
    have ah0 := slRep.st k_Candidate_pos ah0 c33 ad36
    have h27 := slRep.st kStr_pos h27 c33 ad36
    have c15 := c15.then c33 (fun i hi h => absurd (lop28 i h) (Nat.not_le_of_lt hi))
    refine RL.nil ?_
    refine thn_n ?_
    refine CW.seq (CW.region ?_)
    refine rl_fieldAddr rfl fa58_2 rfl ?_
    refine rl_loadS (v := (Value.bool x12.ready)) rfl Try.isAgg4 (k35.cell rfl) rfl ?_
    refine RL.nil ?_
    refine thn_n ?_
    refine CW.cond (t := x12.ready) rfl (fun q37 => ?_) (fun q37 => ?_)
    ·
     have hb9 := ifT q37 hb9
     refine CW.seq (CW.region ?_)
     refine rl_move rfl rfl ?_
     refine rl_move rfl rfl ?_
     obtain ⟨b40, hb41⟩ : ∃ v, (x1 || (lt (F51_linkboyref18_Meant x12 a1) fun y42 => y42)) = v := ⟨_, rfl⟩
     have hb9 := ltS hb41 hb9
     refine RL.join 4 22 (.bool b40) (fun w' => Ch nb w32 w') ?_ ?_
     · rcases Bool.eq_false_or_eq_true x1 with hg39 | hg39
       ·
        have hs38 := or_t hg39 hb41
        have cs : Ch nb w32 w32 := Ch.refl
        refine RL.no rfl rfl rfl hg39 rfl rfl ?_
        refine RL.no rfl rfl rfl hg39 rfl rfl ?_
        refine RL.no rfl rfl rfl hg39 rfl rfl ?_
        refine rl_pickT rfl hg39 rfl rfl ?_
        exact RL.nil ⟨Ext.bothEq (congrArg Value.bool hs38) (Ext.skip rfl (Ext.skip rfl (Ext.skip rfl (Ext.rfl')))), cs⟩
       ·
        have hs38 := or_f hg39 hb41
        have cs : Ch nb w32 w32 := Ch.refl
        refine RL.yes rfl rfl rfl hg39 ?_
        refine rl_loadA (cs := (Candidate.c x12 z26)) rfl Try.isAgg58 Try.sizeOf58 (k35.segAt 0 23) rfl rfl ?_
        refine RL.yes rfl rfl rfl hg39 ?_
        refine rl_move rfl rfl ?_
        refine RL.yes rfl rfl rfl hg39 ?_
        obtain ⟨y45, hy46⟩ : ∃ y, F51_linkboyref18_Meant x12 a1 = y := ⟨_, rfl⟩
        have hs38 := ltS hy46 hs38
        refine rl_callF rfl en51 rfl (ctr51 (G F w.heap.size (un (inBlk (Value.pointer (some ⟨p28, 0, none⟩))) nb)) w32 x12 z26 h27 a1 y45 hy46) ?_
        rintro _ w43 ⟨rfl, c44⟩
        have ah0 := slRep.ch k_Candidate_pos ah0 c44
        have h27 := slRep.ch kStr_pos h27 c44
        have k35 := k35.ch0 c44
        have c15 := c15.then0 c44
        refine rl_pickF rfl hg39 rfl rfl ?_
        have cs := cs.then0 c44
        exact RL.nil ⟨Ext.bothEq (congrArg Value.bool hs38) (Ext.skip rfl (Ext.skip rfl (Ext.skip rfl (Ext.rfl')))), cs⟩
     intro w42 c47
     have ah0 := slRep.ch k_Candidate_pos ah0 c47
     have h27 := slRep.ch kStr_pos h27 c47
     have k35 := k35.ch0 c47
     have c15 := c15.then0 c47
     refine rl_assign rfl rfl ?_
     refine RL.nil ?_
     refine thn_n ?_
     refine CW.region ?_
     refine rl_move rfl rfl ?_
     refine rl_move rfl rfl ?_
     obtain ⟨b50, hb51⟩ : ∃ v, (x2 || (decide (((x12.zones.length : Nat) : Int) = 0))) = v := ⟨_, rfl⟩
     have hb9 := ltS hb51 hb9
     refine RL.join 5 29 (.bool b50) (fun w' => Ch nb w42 w') ?_ ?_
     · rcases Bool.eq_false_or_eq_true x2 with hg49 | hg49
       ·
        have hs48 := or_t hg49 hb51
        have cs : Ch nb w42 w42 := Ch.refl
        refine RL.no rfl rfl rfl hg49 rfl rfl ?_
        refine RL.no rfl rfl rfl hg49 rfl rfl ?_
        refine RL.no rfl rfl rfl hg49 rfl rfl ?_
        refine RL.no rfl rfl rfl hg49 rfl rfl ?_
        refine rl_pickT rfl hg49 rfl rfl ?_
        exact RL.nil ⟨Ext.bothEq (congrArg Value.bool hs48) (Ext.skip rfl (Ext.skip rfl (Ext.skip rfl (Ext.skip rfl (Ext.rfl'))))), cs⟩
       ·
        have hs48 := or_f hg49 hb51
        have cs : Ch nb w42 w42 := Ch.refl
        refine RL.yes rfl rfl rfl hg49 ?_
        refine rl_fieldAddr rfl fa58_5 rfl ?_
        refine RL.yes rfl rfl rfl hg49 ?_
        refine rl_loadS (v := z26) rfl Try.isAgg42 (k35.cell rfl) rfl ?_
        refine RL.yes rfl rfl rfl hg49 ?_
        refine rl_lenR rfl h27 Try.underlying42 rfl ?_
        refine RL.yes rfl rfl rfl hg49 ?_
        refine rl_bin rfl rfl B.eql rfl ?_
        refine rl_pickF rfl hg49 rfl rfl ?_
        exact RL.nil ⟨Ext.bothEq (congrArg Value.bool hs48) (Ext.skip rfl (Ext.skip rfl (Ext.skip rfl (Ext.skip rfl (Ext.rfl'))))), cs⟩
     intro w52 c53
     have ah0 := slRep.ch k_Candidate_pos ah0 c53
     have h27 := slRep.ch kStr_pos h27 c53
     have k35 := k35.ch0 c53
     have c15 := c15.then0 c53
     refine rl_assign rfl rfl ?_
     refine RL.nil ?_
     refine inB_n ?_
     refine thn_n ?_
     refine CW.region ?_
     refine rl_inc rfl hat6.lt ah0.big rfl ?_
     refine rl_move rfl rfl ?_
     refine RL.nil ?_
     refine thn_n ?_
     have crf : Ch nb w52 w52 := Ch.refl
     have ah0 := slRep.st k_Candidate_pos ah0 crf (show ∀ b, b < w52.heap.size → ¬ (un (inBlk (Value.pointer (some ⟨p28, 0, none⟩))) nb) b → ¬ nb b ∧ ¬ nb b from fun b _ hs => ⟨fun x => x, fun h => hs (False.elim h)⟩)
     have h27 := slRep.st kStr_pos h27 crf (show ∀ b, b < w52.heap.size → ¬ (un (inBlk (Value.pointer (some ⟨p28, 0, none⟩))) nb) b → ¬ nb b ∧ ¬ nb b from fun b _ hs => ⟨fun x => x, fun h => hs (False.elim h)⟩)
     have c15 := c15.then0 crf
     have hLn := runA_next hL5 (hb9.trans hq8.symm)
     exact ⟨rest19.length, Nat.lt_succ_self _, [(1, (Value.string a1)), (9, av0), (10, (Value.int .i64 ((a0.length : Nat) : Int))), (5, (Value.bool b40)), (6, (Value.bool b50)), (11, (Value.int .i64 ((i4 + 1 : Nat) : Int)))], ⟨rfl, rfl, rfl, rfl, rfl, rfl, trivial⟩, ⟨rest19, i4 + 1, b40, b50, rfl, rfl, c15, hat6.next, hLn, ah0⟩⟩
    ·
     have hb9 := ifF q37 hb9
     refine CW.skip ?_
     refine inB_n ?_
     refine thn_n ?_
     refine CW.region ?_
     refine rl_inc rfl hat6.lt ah0.big rfl ?_
     refine rl_move rfl rfl ?_
     refine RL.nil ?_
     refine thn_n ?_
     have crf : Ch nb w32 w32 := Ch.refl
     have ah0 := slRep.st k_Candidate_pos ah0 crf (show ∀ b, b < w32.heap.size → ¬ (un (inBlk (Value.pointer (some ⟨p28, 0, none⟩))) nb) b → ¬ nb b ∧ ¬ nb b from fun b _ hs => ⟨fun x => x, fun h => hs (False.elim h)⟩)
     have h27 := slRep.st kStr_pos h27 crf (show ∀ b, b < w32.heap.size → ¬ (un (inBlk (Value.pointer (some ⟨p28, 0, none⟩))) nb) b → ¬ nb b ∧ ¬ nb b from fun b _ hs => ⟨fun x => x, fun h => hs (False.elim h)⟩)
     have c15 := c15.then0 crf
     have hLn := runA_next hL5 (hb9.trans hq8.symm)
     exact ⟨rest19.length, Nat.lt_succ_self _, [(1, (Value.string a1)), (9, av0), (10, (Value.int .i64 ((a0.length : Nat) : Int))), (5, (Value.bool x1)), (6, (Value.bool x2)), (11, (Value.int .i64 ((i4 + 1 : Nat) : Int)))], ⟨rfl, rfl, rfl, rfl, rfl, rfl, trivial⟩, ⟨rest19, i4 + 1, x1, x2, rfl, rfl, c15, hat6.next, hLn, ah0⟩⟩
   ·
    obtain rfl := hat6.nil q18
    have hLf : (x1, x2) = o10 := hL5
    refine CW.exit (thn_exit (thn_exit (inB_hit ?_)))
    exact ⟨x1, x2, ⟨rfl, rfl, rfl, trivial⟩, c15, hLf, ah0⟩
  ·
   rintro _ w55 ⟨x1, x2, hE56, c54, f57, ah0⟩
   subst f57
   refine thn_n (CW.sub [(1, (Value.string a1)), (5, (Value.bool x1)), (6, (Value.bool x2))] hE56 ?_)
   refine CW.seq (CW.region ?_)
   refine rl_move rfl rfl ?_
   refine rl_bin rfl rfl B.neqS rfl ?_
   refine rl_move rfl rfl ?_
   obtain ⟨b61, hb62⟩ : ∃ v, ((!decide (a1 = (⟨#[]⟩ : ByteArray))) && x1) = v := ⟨_, rfl⟩
   have hS := ltS hb62 hS
   refine RL.join 2 35 (.bool b61) (fun w' => Ch nb w55 w') ?_ ?_
   · rcases Bool.eq_false_or_eq_true (!decide (a1 = (⟨#[]⟩ : ByteArray))) with hg60 | hg60
     ·
      have hs59 := and_t hg60 hb62
      have cs : Ch nb w55 w55 := Ch.refl
      refine RL.yes rfl rfl rfl hg60 ?_
      refine rl_move rfl rfl ?_
      refine rl_pickT rfl hg60 rfl rfl ?_
      exact RL.nil ⟨Ext.bothEq (congrArg Value.bool hs59) (Ext.skip rfl (Ext.rfl')), cs⟩
     ·
      have hs59 := and_f hg60 hb62
      have cs : Ch nb w55 w55 := Ch.refl
      refine RL.no rfl rfl rfl hg60 rfl rfl ?_
      refine rl_pickF rfl hg60 rfl rfl ?_
      exact RL.nil ⟨Ext.bothEq (congrArg Value.bool hs59) (Ext.skip rfl (Ext.rfl')), cs⟩
   intro w63 c64
   have ah0 := slRep.ch k_Candidate_pos ah0 c64
   have c54 := c54.then0 c64
   refine rl_move rfl rfl ?_
   obtain ⟨b67, hb68⟩ : ∃ v, (b61 && (!x2)) = v := ⟨_, rfl⟩
   have hS := ltS hb68 hS
   refine RL.join 3 39 (.bool b67) (fun w' => Ch nb w63 w') ?_ ?_
   · rcases Bool.eq_false_or_eq_true b61 with hg66 | hg66
     ·
      have hs65 := and_t hg66 hb68
      have cs : Ch nb w63 w63 := Ch.refl
      refine RL.yes rfl rfl rfl hg66 ?_
      refine rl_move rfl rfl ?_
      refine RL.yes rfl rfl rfl hg66 ?_
      refine rl_not rfl rfl ?_
      refine rl_pickT rfl hg66 rfl rfl ?_
      exact RL.nil ⟨Ext.bothEq (congrArg Value.bool hs65) (Ext.skip rfl (Ext.skip rfl (Ext.rfl'))), cs⟩
     ·
      have hs65 := and_f hg66 hb68
      have cs : Ch nb w63 w63 := Ch.refl
      refine RL.no rfl rfl rfl hg66 rfl rfl ?_
      refine RL.no rfl rfl rfl hg66 rfl rfl ?_
      refine rl_pickF rfl hg66 rfl rfl ?_
      exact RL.nil ⟨Ext.bothEq (congrArg Value.bool hs65) (Ext.skip rfl (Ext.skip rfl (Ext.rfl'))), cs⟩
   intro w69 c70
   have ah0 := slRep.ch k_Candidate_pos ah0 c70
   have c54 := c54.then0 c70
   refine rl_assign rfl rfl ?_
   refine RL.nil ?_
   refine thn_n ?_
   refine CW.ret ?_
   obtain rfl := hS
   exact ret1 rfl ⟨rfl, c54⟩
/-- lb/lbref18.Filter -/
theorem ctr31 (F : Nat → Prop) (w : World) (a0 : (List Candidate)) (av0 : Value) (ah0 : slRep k_Candidate F w a0 av0) (a1 : ByteArray) (r : (List Candidate)) (hs : F31_linkboyref18_Filter a0 a1 = some r) :
    Ret Try.prog 31 #[av0, (Value.string a1)] w fun v w' => ∃ y0 : Value, v = y0 ∧ SlO k_Candidate 58 F w.heap.size (inBlk y0) w' r y0 ∧ Ch nb w w' := by
  have hS := hs
  have c0 : Ch nb w w := Ch.refl
  have ah0 := slRep.enter k_Candidate_pos ah0
  refine Ret.of (n := 36) (args := [_, _]) (rs := [.tmp 4]) Try.func31 rfl rfl rfl rfl ?_
  refine CW.seq (CW.region ?_)
  refine rl_assign rfl rfl ?_
  refine RL.nil ?_
  refine thn_n ?_
  refine CW.seq (CW.region ?_)
  refine rl_bslice (k := k_Candidate) (F := F) (B := w.heap.size) (S := nb) ([] : List Candidate) rfl k_Candidate_pos Try.underlying28 Try.sizeOf58 Try.zeroValue58 rfl rfl trivial c0.size nbS rfl ?_
  intro v1 w2 c3 hf4 h5
  have ah0 := slRep.st k_Candidate_pos ah0 c3 (admNew hf4 (fun _ x => x))
  have c0 := c0.then0 c3
  refine rl_assign rfl rfl ?_
  refine RL.nil ?_
  refine thn_n ?_
  refine CW.seq (CW.region ?_)
  refine rl_move rfl rfl ?_
  refine rl_move rfl rfl ?_
  obtain ⟨y8, hy9⟩ : ∃ y, F50_linkboyref18_Count a0 a1 = y := ⟨_, rfl⟩
  have hS := ltS hy9 hS
  refine rl_callF rfl en50 rfl (ctr50 (G F w.heap.size (un (inBlk v1) nb)) w2 a0 av0 ah0 a1 y8 hy9) ?_
  rintro _ w6 ⟨rfl, c7⟩
  have ah0 := slRep.ch k_Candidate_pos ah0 c7
  have h5 := h5.ch0 c7
  have c0 := c0.then0 c7
  refine rl_assign rfl rfl ?_
  refine RL.nil ?_
  refine thn_n ?_
  refine CW.seq ?_
  refine CW.seq (CW.region ?_)
  refine rl_move rfl rfl ?_
  refine rl_lenR rfl ah0 Try.underlying28 rfl ?_
  refine rl_move rfl rfl ?_
  refine RL.nil ?_
  refine thn_n ?_
  obtain ⟨o20, ho21, hS⟩ := bindS hS
  refine CW.cutB (fun E' w' => ∃ (x10 : (List Candidate)) (v11 : Value), Sub [(5, v11)] E' ∧ Ch nb w w' ∧ x10 = o20 ∧ slRep k_Candidate (G F w.heap.size (un (inBlk v11) nb)) w' a0 av0 ∧ SlO k_Candidate 58 F w.heap.size (un (inBlk v11) nb) w' x10 v11) ?_ ?_
  ·
   refine CW.loopS [(1, (Value.string a1)), (6, (Value.bool y8)), (13, av0), (14, (Value.int .i64 ((a0.length : Nat) : Int))), (5, v1), (15, (Value.int .i64 ((0 : Nat) : Int)))] ⟨rfl, rfl, rfl, rfl, rfl, rfl, trivial⟩ a0.length (fun m E w' => ∃ (rest13 : List Candidate) (i14 : Nat) (x10 : (List Candidate)) (v11 : Value), m = rest13.length ∧ E = [(1, (Value.string a1)), (6, (Value.bool y8)), (13, av0), (14, (Value.int .i64 ((a0.length : Nat) : Int))), (5, v11), (15, (Value.int .i64 ((i14 : Nat) : Int)))] ∧ Ch nb w w' ∧ At a0 i14 rest13 ∧ runAO (F31_linkboyref18_Filter_b1 a1 y8) rest13 x10 = some o20 ∧ slRep k_Candidate (G F w.heap.size (un (inBlk v11) nb)) w' a0 av0 ∧ SlO k_Candidate 58 F w.heap.size (un (inBlk v11) nb) w' x10 v11)
       ⟨a0, 0, [], v1, rfl, rfl, c0, At.start, ho21, ah0, h5⟩ ?_
   rintro _ _ w26 ⟨rest13, i14, x10, v11, rfl, rfl, c25, hat16, hL15, ah0, h12⟩
   refine CW.seq (CW.region ?_)
   refine rl_bin rfl rfl B.lss rfl ?_
   refine RL.nil (thn_n ?_)
   refine CW.seq ?_
   refine CW.cond (t := decide (((i14 : Nat) : Int) < ((a0.length : Nat) : Int))) rfl (fun q28 => ?_) (fun q28 => ?_)
   ·
    obtain ⟨x22, rest29, rfl⟩ := hat16.cons q28
    obtain ⟨q17, hq18⟩ := runAO_some hL15
    have hb19 := hq18
    refine CW.skip (thn_n ?_)
    refine CW.seq ?_
    refine CW.block ?_
    refine CW.seq (CW.region ?_)
    refine rl_ixR rfl ah0 rfl hat16.get Try.underlying28 Try.sizeOf58 rfl ?_
    intro p30 o31 cs32 hr33 hs34 hg35
    obtain ⟨z36, rfl, h37⟩ := hr33
    refine rl_loadA (cs := (Candidate.c x22 z36)) rfl Try.isAgg58 Try.sizeOf58 (hs34) rfl rfl ?_
    refine rl_alloc (Candidate.c Candidate.z (Value.slice none 0 0)) Try.zeroValue58 rfl rfl ?_
    intro p38 w39 n40 k41
    have lop38 := n40.lo c25.size
    have d42 : ∀ b, inBlk (Value.pointer (some ⟨p38, 0, none⟩)) b → ¬ inBlk v11 b := disNew n40.fresh (fun b hb => (h12.lt b hb).2)
    have ah0 := slRep.st k_Candidate_pos ah0 n40.ch (admNew n40.fresh (fun _ x => x))
    have h12 := h12.st n40.ch (fun _ _ x => x) (admNew n40.fresh (fun _ x => x)) (fun b h => (.inr (.inl h)))
    have h37 := slRep.st kStr_pos h37 n40.ch (admNew n40.fresh (fun _ x => x))
    have c25 := c25.then0 n40.ch
    refine rl_storeA (vs := (Candidate.c x22 z36)) rfl rfl (Kd.one _ (show k_Candidate.rep (G F w.heap.size (un (inBlk (Value.pointer (some ⟨p38, 0, none⟩))) (un (inBlk v11) nb))) w39 x22 (Candidate.c x22 z36) from ⟨z36, rfl, h37⟩)) Try.sizeOf58 rfl k41 rfl ?_
    intro w43 s45 c44 k46
    have ad47 : ∀ b, b < w39.heap.size → ¬ (un (inBlk (Value.pointer (some ⟨p38, 0, none⟩))) (un (inBlk v11) nb)) b → ¬ inBlk (Value.pointer (some ⟨p38, 0, none⟩)) b ∧ ¬ (un (inBlk (Value.pointer (some ⟨p38, 0, none⟩))) (un (inBlk v11) nb)) b := fun b _ hs => ⟨fun h => hs (.inl h), hs⟩
    have ah0 := slRep.st k_Candidate_pos ah0 c44 ad47
    have h12 := h12.st c44 (disSym d42) ad47 (fun b h => (.inr (.inl h)))
    have h37 := slRep.st kStr_pos h37 c44 ad47
    have c25 := c25.then c44 (fun i hi h => absurd (lop38 i h) (Nat.not_le_of_lt hi))
    refine RL.nil ?_
    refine thn_n ?_
    refine CW.seq (CW.region ?_)
    refine rl_fieldAddr rfl fa58_2 rfl ?_
    refine rl_loadS (v := (Value.bool x22.ready)) rfl Try.isAgg4 (k46.cell rfl) rfl ?_
    refine rl_move rfl rfl ?_
    obtain ⟨b50, hb51⟩ : ∃ v, (x22.ready && (lt ((!y8) || (lt (F51_linkboyref18_Meant x22 a1) fun y54 => y54)) fun b52 => b52)) = v := ⟨_, rfl⟩
    have hb19 := ltS hb51 hb19
    refine RL.join 8 29 (.bool b50) (fun w' => Ch nb w43 w') ?_ ?_
    · rcases Bool.eq_false_or_eq_true x22.ready with hg49 | hg49
      ·
       have hs48 := and_t hg49 hb51
       have cs : Ch nb w43 w43 := Ch.refl
       refine RL.yes rfl rfl rfl hg49 ?_
       refine rl_move rfl rfl ?_
       refine RL.yes rfl rfl rfl hg49 ?_
       refine rl_not rfl rfl ?_
       refine RL.yes rfl rfl rfl hg49 ?_
       refine rl_move rfl rfl ?_
       obtain ⟨b55, hb56⟩ : ∃ v, ((!y8) || (lt (F51_linkboyref18_Meant x22 a1) fun y57 => y57)) = v := ⟨_, rfl⟩
       have hs48 := ltS hb56 hs48
       refine RL.join 4 28 (.bool b55) (fun w' => Ch nb w43 w') ?_ ?_
       · rcases Bool.eq_false_or_eq_true (!y8) with hg54 | hg54
         ·
          have hs53 := or_t hg54 hb56
          have cs : Ch nb w43 w43 := Ch.refl
          refine RL.no rfl rfl rfl hg54 rfl rfl ?_
          refine RL.no rfl rfl rfl hg54 rfl rfl ?_
          refine RL.no rfl rfl rfl hg54 rfl rfl ?_
          refine RL.yes rfl rfl rfl hg49 ?_
          refine rl_pickT rfl hg54 rfl rfl ?_
          exact RL.nil ⟨Ext.bothEq (congrArg Value.bool hs53) (Ext.skip rfl (Ext.skip rfl (Ext.skip rfl (Ext.rfl')))), cs⟩
         ·
          have hs53 := or_f hg54 hb56
          have cs : Ch nb w43 w43 := Ch.refl
          refine RL.yes rfl rfl rfl hg54 ?_
          refine rl_loadA (cs := (Candidate.c x22 z36)) rfl Try.isAgg58 Try.sizeOf58 (k46.segAt 0 23) rfl rfl ?_
          refine RL.yes rfl rfl rfl hg54 ?_
          refine rl_move rfl rfl ?_
          refine RL.yes rfl rfl rfl hg54 ?_
          obtain ⟨y60, hy61⟩ : ∃ y, F51_linkboyref18_Meant x22 a1 = y := ⟨_, rfl⟩
          have hs53 := ltS hy61 hs53
          refine rl_callF rfl en51 rfl (ctr51 (G F w.heap.size (un (inBlk (Value.pointer (some ⟨p38, 0, none⟩))) (un (inBlk v11) nb))) w43 x22 z36 h37 a1 y60 hy61) ?_
          rintro _ w58 ⟨rfl, c59⟩
          have ah0 := slRep.ch k_Candidate_pos ah0 c59
          have h12 := h12.ch0 c59
          have h37 := slRep.ch kStr_pos h37 c59
          have k46 := k46.ch0 c59
          have c25 := c25.then0 c59
          refine RL.yes rfl rfl rfl hg49 ?_
          refine rl_pickF rfl hg54 rfl rfl ?_
          have cs := cs.then0 c59
          exact RL.nil ⟨Ext.bothEq (congrArg Value.bool hs53) (Ext.skip rfl (Ext.skip rfl (Ext.skip rfl (Ext.rfl')))), cs⟩
       intro w57 c62
       have ah0 := slRep.ch k_Candidate_pos ah0 c62
       have h12 := h12.ch0 c62
       have h37 := slRep.ch kStr_pos h37 c62
       have k46 := k46.ch0 c62
       have c25 := c25.then0 c62
       refine rl_pickT rfl hg49 rfl rfl ?_
       have cs := cs.then0 c62
       exact RL.nil ⟨Ext.bothEq (congrArg Value.bool hs48) (Ext.skip rfl (Ext.skip rfl (Ext.skip rfl (Ext.skip rfl (Ext.rfl'))))), cs⟩
      ·
       have hs48 := and_f hg49 hb51
       have cs : Ch nb w43 w43 := Ch.refl
       refine RL.no rfl rfl rfl hg49 rfl rfl ?_
       refine RL.no rfl rfl rfl hg49 rfl rfl ?_
       refine RL.no rfl rfl rfl hg49 rfl rfl ?_
       refine RL.noU rfl rfl rfl rfl rfl ?_
       refine RL.noU rfl rfl rfl rfl rfl ?_
       refine RL.noU rfl rfl rfl rfl rfl ?_
       refine RL.no rfl rfl rfl hg49 rfl rfl ?_
       refine rl_pickF rfl hg49 rfl rfl ?_
       exact RL.nil ⟨Ext.bothEq (congrArg Value.bool hs48) (Ext.skip rfl (Ext.skip rfl (Ext.skip rfl (Ext.skip rfl (Ext.skip rfl (Ext.skip rfl (Ext.skip rfl (Ext.rfl')))))))), cs⟩
    intro w52 c63
    have ah0 := slRep.ch k_Candidate_pos ah0 c63
    have h12 := h12.ch0 c63
    have h37 := slRep.ch kStr_pos h37 c63
    have k46 := k46.ch0 c63
    have c25 := c25.then0 c63
    refine RL.nil ?_
    refine thn_n ?_
    refine CW.cond (t := b50) rfl (fun q64 => ?_) (fun q64 => ?_)
    ·
     have hb19 := ifT q64 hb19
     refine CW.region ?_
     refine rl_move rfl rfl ?_
     refine rl_loadA (cs := (Candidate.c x22 z36)) rfl Try.isAgg58 Try.sizeOf58 (k46.segAt 0 23) rfl rfl ?_
     refine rl_bslice (k := k_Candidate) (F := F) (B := w.heap.size) (S := (un (inBlk (Value.pointer (some ⟨p38, 0, none⟩))) (un (inBlk v11) nb))) ([x22] : List Candidate) rfl k_Candidate_pos Try.underlying28 Try.sizeOf58 Try.zeroValue58 rfl rfl ⟨rfl, ⟨z36, rfl, h37⟩, trivial⟩ c25.size (un_lt k46.ltp (un_lt (fun b hb => (h12.lt b hb).2) nbS)) rfl ?_
     intro v65 w66 c67 hf68 h69
     have h69 := h69.readNew k_Candidate_pos hf68 (un_lt k46.ltp (un_lt (fun b hb => (h12.lt b hb).2) nbS))
     have ah0 := slRep.ch k_Candidate_pos ah0 c67
     have h12 := h12.ch0 c67
     have h37 := slRep.ch kStr_pos h37 c67
     have k46 := k46.ch0 c67
     have c25 := c25.then0 c67
     obtain ⟨z70, hz71, hb19⟩ := bindS hb19
     obtain ⟨hl, rfl⟩ := apO_get hz71
     refine rl_append (k := k_Candidate) (T := 58) (F := F) (B := w.heap.size) (S := (un (inBlk (Value.pointer (some ⟨p38, 0, none⟩))) (un (inBlk v11) nb))) (S2 := (un (inBlk (Value.pointer (some ⟨p38, 0, none⟩))) nb)) (fun v => (un (inBlk (Value.pointer (some ⟨p38, 0, none⟩))) (un (inBlk v) nb))) rfl rfl k_Candidate_pos ap28 h12 h69 (fun _ => un_swap) (fun _ _ => un_swap) hl c25.size (un_lt k46.ltp (un_lt (fun b hb => (h12.lt b hb).2) nbS)) rfl ?_
     intro v72 w73 h74 c75 hf76 ha77
     have d78 : ∀ b, inBlk v72 b → ¬ inBlk (Value.pointer (some ⟨p38, 0, none⟩)) b := disApp hf76 (disSym d42) k46.ltp
     have ah0 := slRep.st k_Candidate_pos ah0 c75 ha77
     have h37 := slRep.st kStr_pos h37 c75 ha77
     have k46 := k46.ch c75 (d42 _ rfl)
     have h69 := slRep.st k_Candidate_pos h69 c75 ha77
     have c25 := c25.then c75 (fun i hi h => absurd ((fun b hb => (h12.lt b hb).1) i h) (Nat.not_le_of_lt hi))
     refine rl_assign rfl rfl ?_
     refine RL.nil ?_
     refine inB_n ?_
     refine thn_n ?_
     refine CW.region ?_
     refine rl_inc rfl hat16.lt ah0.big rfl ?_
     refine rl_move rfl rfl ?_
     refine RL.nil ?_
     refine thn_n ?_
     have crf : Ch nb w73 w73 := Ch.refl
     have ah0 := slRep.st k_Candidate_pos ah0 crf (show ∀ b, b < w73.heap.size → ¬ (un (inBlk (Value.pointer (some ⟨p38, 0, none⟩))) (un (inBlk v72) nb)) b → ¬ nb b ∧ ¬ (un (inBlk v72) nb) b from fun b _ hs => ⟨fun x => x, fun h => hs (un_el h (fun h => (.inr (.inl h))) (fun h => False.elim h))⟩)
     have h37 := slRep.st kStr_pos h37 crf (show ∀ b, b < w73.heap.size → ¬ (un (inBlk (Value.pointer (some ⟨p38, 0, none⟩))) (un (inBlk v72) nb)) b → ¬ nb b ∧ ¬ (un (inBlk v72) nb) b from fun b _ hs => ⟨fun x => x, fun h => hs (un_el h (fun h => (.inr (.inl h))) (fun h => False.elim h))⟩)
     have h69 := slRep.st k_Candidate_pos h69 crf (show ∀ b, b < w73.heap.size → ¬ (un (inBlk (Value.pointer (some ⟨p38, 0, none⟩))) (un (inBlk v72) nb)) b → ¬ nb b ∧ ¬ (un (inBlk v72) nb) b from fun b _ hs => ⟨fun x => x, fun h => hs (un_el h (fun h => (.inr (.inl h))) (fun h => False.elim h))⟩)
     have h74 := h74.st crf (fun _ _ x => x) (show ∀ b, b < w73.heap.size → ¬ (un (inBlk (Value.pointer (some ⟨p38, 0, none⟩))) (un (inBlk v72) nb)) b → ¬ nb b ∧ ¬ (un (inBlk v72) nb) b from fun b _ hs => ⟨fun x => x, fun h => hs (un_el h (fun h => (.inr (.inl h))) (fun h => False.elim h))⟩) (fun b h => (.inl h))
     have c25 := c25.then0 crf
     have hLn := runAO_next hL15 hq18 hb19
     exact ⟨rest29.length, Nat.lt_succ_self _, [(1, (Value.string a1)), (6, (Value.bool y8)), (13, av0), (14, (Value.int .i64 ((a0.length : Nat) : Int))), (5, v72), (15, (Value.int .i64 ((i14 + 1 : Nat) : Int)))], ⟨rfl, rfl, rfl, rfl, rfl, rfl, trivial⟩, ⟨rest29, i14 + 1, x10 ++ [x22], v72, rfl, rfl, c25, hat16.next, hLn, ah0, h74⟩⟩
    ·
     have hb19 := ifF q64 hb19
     refine CW.skip ?_
     refine inB_n ?_
     refine thn_n ?_
     refine CW.region ?_
     refine rl_inc rfl hat16.lt ah0.big rfl ?_
     refine rl_move rfl rfl ?_
     refine RL.nil ?_
     refine thn_n ?_
     have crf : Ch nb w52 w52 := Ch.refl
     have ah0 := slRep.st k_Candidate_pos ah0 crf (show ∀ b, b < w52.heap.size → ¬ (un (inBlk (Value.pointer (some ⟨p38, 0, none⟩))) (un (inBlk v11) nb)) b → ¬ nb b ∧ ¬ (un (inBlk v11) nb) b from fun b _ hs => ⟨fun x => x, fun h => hs (un_el h (fun h => (.inr (.inl h))) (fun h => False.elim h))⟩)
     have h12 := h12.st crf (fun _ _ x => x) (show ∀ b, b < w52.heap.size → ¬ (un (inBlk (Value.pointer (some ⟨p38, 0, none⟩))) (un (inBlk v11) nb)) b → ¬ nb b ∧ ¬ (un (inBlk v11) nb) b from fun b _ hs => ⟨fun x => x, fun h => hs (un_el h (fun h => (.inr (.inl h))) (fun h => False.elim h))⟩) (fun b h => (.inl h))
     have h37 := slRep.st kStr_pos h37 crf (show ∀ b, b < w52.heap.size → ¬ (un (inBlk (Value.pointer (some ⟨p38, 0, none⟩))) (un (inBlk v11) nb)) b → ¬ nb b ∧ ¬ (un (inBlk v11) nb) b from fun b _ hs => ⟨fun x => x, fun h => hs (un_el h (fun h => (.inr (.inl h))) (fun h => False.elim h))⟩)
     have c25 := c25.then0 crf
     have hLn := runAO_next hL15 hq18 hb19
     exact ⟨rest29.length, Nat.lt_succ_self _, [(1, (Value.string a1)), (6, (Value.bool y8)), (13, av0), (14, (Value.int .i64 ((a0.length : Nat) : Int))), (5, v11), (15, (Value.int .i64 ((i14 + 1 : Nat) : Int)))], ⟨rfl, rfl, rfl, rfl, rfl, rfl, trivial⟩, ⟨rest29, i14 + 1, x10, v11, rfl, rfl, c25, hat16.next, hLn, ah0, h12⟩⟩
   ·
    obtain rfl := hat16.nil q28
    have hLf : x10 = o20 := runAO_done hL15
    refine CW.exit (thn_exit (thn_exit (inB_hit ?_)))
    exact ⟨x10, v11, ⟨rfl, trivial⟩, c25, hLf, ah0, h12⟩
  ·
   rintro _ w80 ⟨x10, v11, hE81, c79, f82, ah0, h12⟩
   subst f82
   refine thn_n (CW.sub [(5, v11)] hE81 ?_)
   refine CW.seq (CW.region ?_)
   refine rl_move rfl rfl ?_
   refine rl_assign rfl rfl ?_
   refine RL.nil ?_
   refine thn_n ?_
   refine CW.ret ?_
   obtain rfl := Option.some.inj hS
   exact ret1 rfl ⟨v11, rfl, h12.out, c79⟩
/-- lb/lbref19.Choose -/
theorem ctr14 (F : Nat → Prop) (w : World) (a0 : (List Candidate)) (av0 : Value) (ah0 : slRep k_Candidate F w a0 av0) (a1 : Want) (r : (List Candidate)) (hs : F14_linkboyref19_Choose a0 a1 = some r) :
    Ret Try.prog 14 #[av0, (Value.agg (Want.enc a1).toArray)] w fun v w' => ∃ y0 : Value, v = y0 ∧ SlO k_Candidate 58 F w.heap.size (inBlk y0) w' r y0 ∧ Ch nb w w' := by
  have hS := hs
  have c0 : Ch nb w w := Ch.refl
  have ah0 := slRep.enter k_Candidate_pos ah0
  refine Ret.of (n := 41) (args := [_, _]) (rs := [.tmp 4]) Try.func14 rfl rfl rfl rfl ?_
  refine CW.seq (CW.region ?_)
  refine rl_boxA (cs := (Want.enc a1)) rfl rfl ?_
  intro p1 w2 n3 k4
  have gp1 : (G F w.heap.size nb) p1 := ⟨.inr (by rw [n3.eq]; exact c0.size), fun h => absurd (nbS _ h) (by rw [n3.eq]; exact Nat.lt_irrefl _)⟩
  have ah0 := slRep.ch k_Candidate_pos ah0 n3.ch
  have c0 := c0.then0 n3.ch
  refine rl_assign rfl rfl ?_
  refine RL.nil ?_
  refine thn_n ?_
  refine CW.seq ?_
  refine CW.seq (CW.region ?_)
  refine rl_fieldAddr rfl fa35_3 rfl ?_
  refine rl_loadS (v := (Value.bool a1.localF)) rfl Try.isAgg4 (k4.cell rfl) rfl ?_
  refine RL.nil ?_
  refine thn_n ?_
  refine CW.cond (t := a1.localF) rfl (fun q5 => ?_) (fun q5 => ?_)
  ·
   have hS := ifT q5 hS
   refine CW.seq (CW.region ?_)
   refine rl_bslice (k := k_Candidate) (F := F) (B := w.heap.size) (S := nb) ([] : List Candidate) rfl k_Candidate_pos Try.underlying28 Try.sizeOf58 Try.zeroValue58 rfl rfl trivial c0.size nbS rfl ?_
   intro v6 w7 c8 hf9 h10
   have ah0 := slRep.st k_Candidate_pos ah0 c8 (admNew hf9 (fun _ x => x))
   have gp1n : (G F w.heap.size (un (inBlk v6) nb)) p1 := ⟨gp1.1, ((admNew hf9 (fun _ x => x)) _ k4.lt gp1.2).2⟩
   have k4 := k4.ch0 c8
   have gp1 := gp1n
   have c0 := c0.then0 c8
   refine rl_assign rfl rfl ?_
   refine RL.nil ?_
   refine thn_n ?_
   refine CW.seq ?_
   refine CW.seq (CW.region ?_)
   refine rl_move rfl rfl ?_
   refine rl_lenR rfl ah0 Try.underlying28 rfl ?_
   refine rl_move rfl rfl ?_
   refine RL.nil ?_
   refine thn_n ?_
   obtain ⟨o21, ho22, hS⟩ := bindS hS
   refine CW.cutB (fun E' w' => ∃ (x11 : (List Candidate)) (v12 : Value), Sub [(5, v12)] E' ∧ Ch nb w w' ∧ x11 = o21 ∧ slRep k_Candidate (G F w.heap.size (un (inBlk v12) nb)) w' a0 av0 ∧ Blk w' p1 35 (Want.enc a1) ∧ SlO k_Candidate 58 F w.heap.size (un (inBlk v12) nb) w' x11 v12 ∧ (G F w.heap.size (un (inBlk v12) nb)) p1) ?_ ?_
   ·
    refine CW.loopS [(12, av0), (13, (Value.int .i64 ((a0.length : Nat) : Int))), (5, v6), (14, (Value.int .i64 ((0 : Nat) : Int)))] ⟨rfl, rfl, rfl, rfl, trivial⟩ a0.length (fun m E w' => ∃ (rest14 : List Candidate) (i15 : Nat) (x11 : (List Candidate)) (v12 : Value), m = rest14.length ∧ E = [(12, av0), (13, (Value.int .i64 ((a0.length : Nat) : Int))), (5, v12), (14, (Value.int .i64 ((i15 : Nat) : Int)))] ∧ Ch nb w w' ∧ At a0 i15 rest14 ∧ runAO F14_linkboyref19_Choose_b1 rest14 x11 = some o21 ∧ slRep k_Candidate (G F w.heap.size (un (inBlk v12) nb)) w' a0 av0 ∧ Blk w' p1 35 (Want.enc a1) ∧ SlO k_Candidate 58 F w.heap.size (un (inBlk v12) nb) w' x11 v12 ∧ (G F w.heap.size (un (inBlk v12) nb)) p1)
        ⟨a0, 0, [], v6, rfl, rfl, c0, At.start, ho22, ah0, k4, h10, gp1⟩ ?_
    rintro _ _ w27 ⟨rest14, i15, x11, v12, rfl, rfl, c26, hat17, hL16, ah0, k4, h13, gp1⟩
    refine CW.seq (CW.region ?_)
    refine rl_bin rfl rfl B.lss rfl ?_
    refine RL.nil (thn_n ?_)
    refine CW.seq ?_
    refine CW.cond (t := decide (((i15 : Nat) : Int) < ((a0.length : Nat) : Int))) rfl (fun q29 => ?_) (fun q29 => ?_)
    ·
     obtain ⟨x23, rest30, rfl⟩ := hat17.cons q29
     obtain ⟨q18, hq19⟩ := runAO_some hL16
     have hb20 := hq19
     refine CW.skip (thn_n ?_)
     refine CW.seq ?_
     refine CW.block ?_
     refine CW.seq (CW.region ?_)
     refine rl_ixR rfl ah0 rfl hat17.get Try.underlying28 Try.sizeOf58 rfl ?_
     intro p31 o32 cs33 hr34 hs35 hg36
     obtain ⟨z37, rfl, h38⟩ := hr34
     refine rl_loadA (cs := (Candidate.c x23 z37)) rfl Try.isAgg58 Try.sizeOf58 (hs35) rfl rfl ?_
     refine rl_alloc (Candidate.c Candidate.z (Value.slice none 0 0)) Try.zeroValue58 rfl rfl ?_
     intro p39 w40 n41 k42
     have lop39 := n41.lo c26.size
     have d43 : ∀ b, inBlk (Value.pointer (some ⟨p39, 0, none⟩)) b → ¬ inBlk v12 b := disNew n41.fresh (fun b hb => (h13.lt b hb).2)
     have ah0 := slRep.st k_Candidate_pos ah0 n41.ch (admNew n41.fresh (fun _ x => x))
     have gp1n : (G F w.heap.size (un (inBlk (Value.pointer (some ⟨p39, 0, none⟩))) (un (inBlk v12) nb))) p1 := ⟨gp1.1, ((admNew n41.fresh (fun _ x => x)) _ k4.lt gp1.2).2⟩
     have k4 := k4.ch0 n41.ch
     have gp1 := gp1n
     have h13 := h13.st n41.ch (fun _ _ x => x) (admNew n41.fresh (fun _ x => x)) (fun b h => (.inr (.inl h)))
     have h38 := slRep.st kStr_pos h38 n41.ch (admNew n41.fresh (fun _ x => x))
     have c26 := c26.then0 n41.ch
     refine rl_storeA (vs := (Candidate.c x23 z37)) rfl rfl (Kd.one _ (show k_Candidate.rep (G F w.heap.size (un (inBlk (Value.pointer (some ⟨p39, 0, none⟩))) (un (inBlk v12) nb))) w40 x23 (Candidate.c x23 z37) from ⟨z37, rfl, h38⟩)) Try.sizeOf58 rfl k42 rfl ?_
     intro w44 s46 c45 k47
     have ad48 : ∀ b, b < w40.heap.size → ¬ (un (inBlk (Value.pointer (some ⟨p39, 0, none⟩))) (un (inBlk v12) nb)) b → ¬ inBlk (Value.pointer (some ⟨p39, 0, none⟩)) b ∧ ¬ (un (inBlk (Value.pointer (some ⟨p39, 0, none⟩))) (un (inBlk v12) nb)) b := fun b _ hs => ⟨fun h => hs (.inl h), hs⟩
     have ah0 := slRep.st k_Candidate_pos ah0 c45 ad48
     have k4 := k4.ch c45 (ad48 _ k4.lt gp1.2).1
     have h13 := h13.st c45 (disSym d43) ad48 (fun b h => (.inr (.inl h)))
     have h38 := slRep.st kStr_pos h38 c45 ad48
     have c26 := c26.then c45 (fun i hi h => absurd (lop39 i h) (Nat.not_le_of_lt hi))
     refine RL.nil ?_
     refine thn_n ?_
     refine CW.seq (CW.region ?_)
     refine rl_fieldAddr rfl fa58_1 rfl ?_
     refine rl_loadS (v := (Value.bool x23.localF)) rfl Try.isAgg4 (k47.cell rfl) rfl ?_
     refine RL.nil ?_
     refine thn_n ?_
     refine CW.cond (t := x23.localF) rfl (fun q49 => ?_) (fun q49 => ?_)
     ·
      have hb20 := ifT q49 hb20
      refine CW.region ?_
      refine rl_move rfl rfl ?_
      refine rl_loadA (cs := (Candidate.c x23 z37)) rfl Try.isAgg58 Try.sizeOf58 (k47.segAt 0 23) rfl rfl ?_
      refine rl_bslice (k := k_Candidate) (F := F) (B := w.heap.size) (S := (un (inBlk (Value.pointer (some ⟨p39, 0, none⟩))) (un (inBlk v12) nb))) ([x23] : List Candidate) rfl k_Candidate_pos Try.underlying28 Try.sizeOf58 Try.zeroValue58 rfl rfl ⟨rfl, ⟨z37, rfl, h38⟩, trivial⟩ c26.size (un_lt k47.ltp (un_lt (fun b hb => (h13.lt b hb).2) nbS)) rfl ?_
      intro v50 w51 c52 hf53 h54
      have h54 := h54.readNew k_Candidate_pos hf53 (un_lt k47.ltp (un_lt (fun b hb => (h13.lt b hb).2) nbS))
      have ah0 := slRep.ch k_Candidate_pos ah0 c52
      have k4 := k4.ch0 c52
      have h13 := h13.ch0 c52
      have h38 := slRep.ch kStr_pos h38 c52
      have k47 := k47.ch0 c52
      have c26 := c26.then0 c52
      obtain ⟨z55, hz56, hb20⟩ := bindS hb20
      obtain ⟨hl, rfl⟩ := apO_get hz56
      refine rl_append (k := k_Candidate) (T := 58) (F := F) (B := w.heap.size) (S := (un (inBlk (Value.pointer (some ⟨p39, 0, none⟩))) (un (inBlk v12) nb))) (S2 := (un (inBlk (Value.pointer (some ⟨p39, 0, none⟩))) nb)) (fun v => (un (inBlk (Value.pointer (some ⟨p39, 0, none⟩))) (un (inBlk v) nb))) rfl rfl k_Candidate_pos ap28 h13 h54 (fun _ => un_swap) (fun _ _ => un_swap) hl c26.size (un_lt k47.ltp (un_lt (fun b hb => (h13.lt b hb).2) nbS)) rfl ?_
      intro v57 w58 h59 c60 hf61 ha62
      have d63 : ∀ b, inBlk v57 b → ¬ inBlk (Value.pointer (some ⟨p39, 0, none⟩)) b := disApp hf61 (disSym d43) k47.ltp
      have ah0 := slRep.st k_Candidate_pos ah0 c60 ha62
      have gp1n : (G F w.heap.size (un (inBlk (Value.pointer (some ⟨p39, 0, none⟩))) (un (inBlk v57) nb))) p1 := ⟨gp1.1, (ha62 _ k4.lt gp1.2).2⟩
      have k4 := k4.ch c60 (ha62 _ k4.lt gp1.2).1
      have gp1 := gp1n
      have h38 := slRep.st kStr_pos h38 c60 ha62
      have k47 := k47.ch c60 (d43 _ rfl)
      have h54 := slRep.st k_Candidate_pos h54 c60 ha62
      have c26 := c26.then c60 (fun i hi h => absurd ((fun b hb => (h13.lt b hb).1) i h) (Nat.not_le_of_lt hi))
      refine rl_assign rfl rfl ?_
      refine RL.nil ?_
      refine inB_n ?_
      refine thn_n ?_
      refine CW.region ?_
      refine rl_inc rfl hat17.lt ah0.big rfl ?_
      refine rl_move rfl rfl ?_
      refine RL.nil ?_
      refine thn_n ?_
      have crf : Ch nb w58 w58 := Ch.refl
      have ah0 := slRep.st k_Candidate_pos ah0 crf (show ∀ b, b < w58.heap.size → ¬ (un (inBlk (Value.pointer (some ⟨p39, 0, none⟩))) (un (inBlk v57) nb)) b → ¬ nb b ∧ ¬ (un (inBlk v57) nb) b from fun b _ hs => ⟨fun x => x, fun h => hs (un_el h (fun h => (.inr (.inl h))) (fun h => False.elim h))⟩)
      have gp1n : (G F w.heap.size (un (inBlk v57) nb)) p1 := ⟨gp1.1, ((show ∀ b, b < w58.heap.size → ¬ (un (inBlk (Value.pointer (some ⟨p39, 0, none⟩))) (un (inBlk v57) nb)) b → ¬ nb b ∧ ¬ (un (inBlk v57) nb) b from fun b _ hs => ⟨fun x => x, fun h => hs (un_el h (fun h => (.inr (.inl h))) (fun h => False.elim h))⟩) _ k4.lt gp1.2).2⟩
      have k4 := k4.ch0 crf
      have gp1 := gp1n
      have h38 := slRep.st kStr_pos h38 crf (show ∀ b, b < w58.heap.size → ¬ (un (inBlk (Value.pointer (some ⟨p39, 0, none⟩))) (un (inBlk v57) nb)) b → ¬ nb b ∧ ¬ (un (inBlk v57) nb) b from fun b _ hs => ⟨fun x => x, fun h => hs (un_el h (fun h => (.inr (.inl h))) (fun h => False.elim h))⟩)
      have h54 := slRep.st k_Candidate_pos h54 crf (show ∀ b, b < w58.heap.size → ¬ (un (inBlk (Value.pointer (some ⟨p39, 0, none⟩))) (un (inBlk v57) nb)) b → ¬ nb b ∧ ¬ (un (inBlk v57) nb) b from fun b _ hs => ⟨fun x => x, fun h => hs (un_el h (fun h => (.inr (.inl h))) (fun h => False.elim h))⟩)
      have h59 := h59.st crf (fun _ _ x => x) (show ∀ b, b < w58.heap.size → ¬ (un (inBlk (Value.pointer (some ⟨p39, 0, none⟩))) (un (inBlk v57) nb)) b → ¬ nb b ∧ ¬ (un (inBlk v57) nb) b from fun b _ hs => ⟨fun x => x, fun h => hs (un_el h (fun h => (.inr (.inl h))) (fun h => False.elim h))⟩) (fun b h => (.inl h))
      have c26 := c26.then0 crf
      have hLn := runAO_next hL16 hq19 hb20
      exact ⟨rest30.length, Nat.lt_succ_self _, [(12, av0), (13, (Value.int .i64 ((a0.length : Nat) : Int))), (5, v57), (14, (Value.int .i64 ((i15 + 1 : Nat) : Int)))], ⟨rfl, rfl, rfl, rfl, trivial⟩, ⟨rest30, i15 + 1, x11 ++ [x23], v57, rfl, rfl, c26, hat17.next, hLn, ah0, k4, h59, gp1⟩⟩
     ·
      have hb20 := ifF q49 hb20
      refine CW.skip ?_
      refine inB_n ?_
      refine thn_n ?_
      refine CW.region ?_
      refine rl_inc rfl hat17.lt ah0.big rfl ?_
      refine rl_move rfl rfl ?_
      refine RL.nil ?_
      refine thn_n ?_
      have crf : Ch nb w44 w44 := Ch.refl
      have ah0 := slRep.st k_Candidate_pos ah0 crf (show ∀ b, b < w44.heap.size → ¬ (un (inBlk (Value.pointer (some ⟨p39, 0, none⟩))) (un (inBlk v12) nb)) b → ¬ nb b ∧ ¬ (un (inBlk v12) nb) b from fun b _ hs => ⟨fun x => x, fun h => hs (un_el h (fun h => (.inr (.inl h))) (fun h => False.elim h))⟩)
      have gp1n : (G F w.heap.size (un (inBlk v12) nb)) p1 := ⟨gp1.1, ((show ∀ b, b < w44.heap.size → ¬ (un (inBlk (Value.pointer (some ⟨p39, 0, none⟩))) (un (inBlk v12) nb)) b → ¬ nb b ∧ ¬ (un (inBlk v12) nb) b from fun b _ hs => ⟨fun x => x, fun h => hs (un_el h (fun h => (.inr (.inl h))) (fun h => False.elim h))⟩) _ k4.lt gp1.2).2⟩
      have k4 := k4.ch0 crf
      have gp1 := gp1n
      have h13 := h13.st crf (fun _ _ x => x) (show ∀ b, b < w44.heap.size → ¬ (un (inBlk (Value.pointer (some ⟨p39, 0, none⟩))) (un (inBlk v12) nb)) b → ¬ nb b ∧ ¬ (un (inBlk v12) nb) b from fun b _ hs => ⟨fun x => x, fun h => hs (un_el h (fun h => (.inr (.inl h))) (fun h => False.elim h))⟩) (fun b h => (.inl h))
      have h38 := slRep.st kStr_pos h38 crf (show ∀ b, b < w44.heap.size → ¬ (un (inBlk (Value.pointer (some ⟨p39, 0, none⟩))) (un (inBlk v12) nb)) b → ¬ nb b ∧ ¬ (un (inBlk v12) nb) b from fun b _ hs => ⟨fun x => x, fun h => hs (un_el h (fun h => (.inr (.inl h))) (fun h => False.elim h))⟩)
      have c26 := c26.then0 crf
      have hLn := runAO_next hL16 hq19 hb20
      exact ⟨rest30.length, Nat.lt_succ_self _, [(12, av0), (13, (Value.int .i64 ((a0.length : Nat) : Int))), (5, v12), (14, (Value.int .i64 ((i15 + 1 : Nat) : Int)))], ⟨rfl, rfl, rfl, rfl, trivial⟩, ⟨rest30, i15 + 1, x11, v12, rfl, rfl, c26, hat17.next, hLn, ah0, k4, h13, gp1⟩⟩
    ·
     obtain rfl := hat17.nil q29
     have hLf : x11 = o21 := runAO_done hL16
     refine CW.exit (thn_exit (thn_exit (inB_hit ?_)))
     exact ⟨x11, v12, ⟨rfl, trivial⟩, c26, hLf, ah0, k4, h13, gp1⟩
   ·
    rintro _ w65 ⟨x11, v12, hE66, c64, f67, ah0, k4, h13, gp1⟩
    subst f67
    refine thn_n (CW.sub [(5, v12)] hE66 ?_)
    refine CW.seq (CW.region ?_)
    refine rl_move rfl rfl ?_
    have h13 := SlO.read (S' := nb) k_Candidate_pos h13 (fun b hs h => hs (False.elim h)) (fun b hb => fun h => h)
    have crf : Ch nb w65 w65 := Ch.refl
    have ah0 := slRep.st k_Candidate_pos ah0 crf (show ∀ b, b < w65.heap.size → ¬ (un (inBlk v12) nb) b → ¬ nb b ∧ ¬ nb b from fun b _ hs => ⟨fun x => x, fun h => hs (False.elim h)⟩)
    have gp1n : (G F w.heap.size nb) p1 := ⟨gp1.1, ((show ∀ b, b < w65.heap.size → ¬ (un (inBlk v12) nb) b → ¬ nb b ∧ ¬ nb b from fun b _ hs => ⟨fun x => x, fun h => hs (False.elim h)⟩) _ k4.lt gp1.2).2⟩
    have k4 := k4.ch0 crf
    have gp1 := gp1n
    have c64 := c64.then0 crf
    obtain ⟨y71, hy72, hS⟩ := bindS hS
    refine rl_callF rfl en12 rfl (ctr12 (G F w.heap.size nb) w65 x11 v12 h13 y71 hy72) ?_
    rintro v73 w69 ⟨_, rfl, h74, c70⟩
    have hf75 : ∀ b, inBlk v73 b → w65.heap.size ≤ b := fun b hb => (h74.lt b hb).1
    have h74 := SlO.back (S' := un (inBlk v73) nb) h74 nbS c64.size (fun _ => Or.comm)
    have ah0 := slRep.st k_Candidate_pos ah0 c70 (admNew hf75 (fun _ x => x))
    have gp1n : (G F w.heap.size (un (inBlk v73) nb)) p1 := ⟨gp1.1, ((admNew hf75 (fun _ x => x)) _ k4.lt gp1.2).2⟩
    have k4 := k4.ch0 c70
    have gp1 := gp1n
    have h13 := slRep.st k_Candidate_pos h13 c70 (admNew hf75 (fun _ x => x))
    have c64 := c64.then0 c70
    refine rl_assign rfl rfl ?_
    refine RL.nil ?_
    refine thn_n ?_
    refine CW.ret ?_
    refine thn_ret ?_
    obtain rfl := Option.some.inj hS
    exact ret1 rfl ⟨v73, rfl, h74.out, c64⟩
  ·
   have hS := ifF q5 hS
   refine CW.skip ?_
   refine thn_n ?_
   refine CW.seq ?_
   refine CW.seq (CW.region ?_)
   refine rl_move rfl rfl ?_
   refine rl_fieldAddr rfl fa35_6 rfl ?_
   refine rl_loadS (v := (Value.string a1.zone)) rfl Try.isAgg9 (k4.cell rfl) rfl ?_
   obtain ⟨y78, hy79, hS⟩ := bindS hS
   refine rl_callF rfl en31 rfl (ctr31 (G F w.heap.size nb) w2 a0 av0 ah0 a1.zone y78 hy79) ?_
   rintro v80 w76 ⟨_, rfl, h81, c77⟩
   have hf82 : ∀ b, inBlk v80 b → w2.heap.size ≤ b := fun b hb => (h81.lt b hb).1
   have h81 := SlO.back (S' := un (inBlk v80) nb) h81 nbS c0.size (fun _ => Or.comm)
   have ah0 := slRep.st k_Candidate_pos ah0 c77 (admNew hf82 (fun _ x => x))
   have gp1n : (G F w.heap.size (un (inBlk v80) nb)) p1 := ⟨gp1.1, ((admNew hf82 (fun _ x => x)) _ k4.lt gp1.2).2⟩
   have k4 := k4.ch0 c77
   have gp1 := gp1n
   have c0 := c0.then0 c77
   refine rl_assign rfl rfl ?_
   refine RL.nil ?_
   refine thn_n ?_
   refine CW.seq (CW.region ?_)
   refine rl_fieldAddr rfl fa35_4 rfl ?_
   refine rl_loadS (v := (Value.bool a1.hinted)) rfl Try.isAgg4 (k4.cell rfl) rfl ?_
   refine rl_move rfl rfl ?_
   obtain ⟨b85, hb86⟩ : ∃ v, (a1.hinted && (decide (((y78.length : Nat) : Int) > 0))) = v := ⟨_, rfl⟩
   have hS := ltS hb86 hS
   refine RL.join 4 37 (.bool b85) (fun w' => Ch nb w76 w') ?_ ?_
   · rcases Bool.eq_false_or_eq_true a1.hinted with hg84 | hg84
     ·
      have hs83 := and_t hg84 hb86
      have cs : Ch nb w76 w76 := Ch.refl
      refine RL.yes rfl rfl rfl hg84 ?_
      refine rl_move rfl rfl ?_
      refine RL.yes rfl rfl rfl hg84 ?_
      refine rl_lenR rfl (SlO.read (S' := nb) k_Candidate_pos h81 (fun b hs h => hs (False.elim h)) (fun b hb => fun h => h)) Try.underlying28 rfl ?_
      refine RL.yes rfl rfl rfl hg84 ?_
      refine rl_bin rfl rfl B.gtr rfl ?_
      refine rl_pickT rfl hg84 rfl rfl ?_
      exact RL.nil ⟨Ext.bothEq (congrArg Value.bool hs83) (Ext.skip rfl (Ext.skip rfl (Ext.skip rfl (Ext.rfl')))), cs⟩
     ·
      have hs83 := and_f hg84 hb86
      have cs : Ch nb w76 w76 := Ch.refl
      refine RL.no rfl rfl rfl hg84 rfl rfl ?_
      refine RL.no rfl rfl rfl hg84 rfl rfl ?_
      refine RL.no rfl rfl rfl hg84 rfl rfl ?_
      refine rl_pickF rfl hg84 rfl rfl ?_
      exact RL.nil ⟨Ext.bothEq (congrArg Value.bool hs83) (Ext.skip rfl (Ext.skip rfl (Ext.skip rfl (Ext.rfl')))), cs⟩
   intro w87 c88
   have ah0 := slRep.ch k_Candidate_pos ah0 c88
   have k4 := k4.ch0 c88
   have h81 := h81.ch0 c88
   have c0 := c0.then0 c88
   refine RL.nil ?_
   refine thn_n ?_
   refine CW.cond (t := b85) rfl (fun q89 => ?_) (fun q89 => ?_)
   ·
    have hS := ifT q89 hS
    refine CW.seq (CW.region ?_)
    refine rl_move rfl rfl ?_
    refine rl_assign rfl rfl ?_
    refine RL.nil ?_
    refine thn_n ?_
    refine CW.ret ?_
    refine thn_ret ?_
    obtain rfl := Option.some.inj hS
    exact ret1 rfl ⟨v80, rfl, h81.out, c0⟩
   ·
    have hS := ifF q89 hS
    refine CW.skip ?_
    refine thn_n ?_
    refine CW.seq (CW.region ?_)
    refine rl_move rfl rfl ?_
    obtain ⟨y92, hy93, hS⟩ := bindS hS
    refine rl_callF rfl en12 rfl (ctr12 (G F w.heap.size (un (inBlk v80) nb)) w87 a0 av0 ah0 y92 hy93) ?_
    rintro v94 w90 ⟨_, rfl, h95, c91⟩
    have hf96 : ∀ b, inBlk v94 b → w87.heap.size ≤ b := fun b hb => (h95.lt b hb).1
    have h95 := SlO.back (S' := un (inBlk v94) (un (inBlk v80) nb)) h95 (un_lt (fun b hb => (h81.lt b hb).2) nbS) c0.size (fun _ => Or.comm)
    have d97 : ∀ b, inBlk v94 b → ¬ inBlk v80 b := disNew hf96 (fun b hb => (h81.lt b hb).2)
    have ah0 := slRep.st k_Candidate_pos ah0 c91 (admNew hf96 (fun _ x => x))
    have gp1n : (G F w.heap.size (un (inBlk v94) (un (inBlk v80) nb))) p1 := ⟨gp1.1, ((admNew hf96 (fun _ x => x)) _ k4.lt gp1.2).2⟩
    have k4 := k4.ch0 c91
    have gp1 := gp1n
    have h81 := h81.st c91 (fun _ _ x => x) (admNew hf96 (fun _ x => x)) (fun b h => (.inr (.inl h)))
    have c0 := c0.then0 c91
    refine rl_assign rfl rfl ?_
    refine RL.nil ?_
    refine thn_n ?_
    refine CW.ret ?_
    obtain rfl := Option.some.inj hS
    exact ret1 rfl ⟨v94, rfl, h95.out, c0⟩
/-- lb/lblaw19.PickChooses -/
theorem ctr3 (F : Nat → Prop) (w : World) (a0 : (List Candidate)) (av0 : Value) (ah0 : slRep k_Candidate F w a0 av0) (a1 : Want) (r : Bool) (hs : F3_linkboylaw19_PickChooses a0 a1 = some r) :
    Ret Try.prog 3 #[av0, (Value.agg (Want.enc a1).toArray)] w fun v w' => v = (Value.bool r) ∧ Ch nb w w' := by
  have hS := hs
  have c0 : Ch nb w w := Ch.refl
  have ah0 := slRep.enter k_Candidate_pos ah0
  refine Ret.of (n := 38) (args := [_, _]) (rs := [.tmp 4]) Try.func3 rfl rfl rfl rfl ?_
  refine CW.seq (CW.region ?_)
  refine rl_boxA (cs := (Want.enc a1)) rfl rfl ?_
  intro p1 w2 n3 k4
  have gp1 : (G F w.heap.size nb) p1 := ⟨.inr (by rw [n3.eq]; exact c0.size), fun h => absurd (nbS _ h) (by rw [n3.eq]; exact Nat.lt_irrefl _)⟩
  have ah0 := slRep.ch k_Candidate_pos ah0 n3.ch
  have c0 := c0.then0 n3.ch
  refine rl_assign rfl rfl ?_
  refine RL.nil ?_
  refine thn_n ?_
  refine CW.seq ?_
  refine CW.seq (CW.region ?_)
  obtain ⟨y7, hy8, hS⟩ := bindS hS
  refine rl_callF rfl en6 rfl (ctr6 (G F w.heap.size nb) w2  y7 hy8) ?_
  rintro _ w5 ⟨rfl, c6⟩
  have ah0 := slRep.ch k_Candidate_pos ah0 c6
  have k4 := k4.ch0 c6
  have c0 := c0.then0 c6
  refine rl_not rfl rfl ?_
  refine RL.nil ?_
  refine thn_n ?_
  refine CW.cond (t := !y7) rfl (fun q9 => ?_) (fun q9 => ?_)
  ·
   have hS := ifT q9 hS
   refine CW.seq (CW.region ?_)
   refine rl_assign rfl rfl ?_
   refine RL.nil ?_
   refine thn_n ?_
   refine CW.ret ?_
   refine thn_ret ?_
   obtain rfl := Option.some.inj hS
   exact ret1 rfl ⟨rfl, c0⟩
  ·
   have hS := ifF q9 hS
   refine CW.skip ?_
   refine thn_n ?_
   refine CW.seq ?_
   refine CW.seq (CW.region ?_)
   refine rl_move rfl rfl ?_
   obtain ⟨y12, hy13⟩ : ∃ y, F7_linkboylaw18_Long a0 = y := ⟨_, rfl⟩
   have hS := ltS hy13 hS
   refine rl_callF rfl en7 rfl (ctr7 (G F w.heap.size nb) w5 a0 av0 ah0 y12 hy13) ?_
   rintro _ w10 ⟨rfl, c11⟩
   have ah0 := slRep.ch k_Candidate_pos ah0 c11
   have k4 := k4.ch0 c11
   have c0 := c0.then0 c11
   refine rl_move rfl rfl ?_
   obtain ⟨b16, hb17⟩ : ∃ v, (y12 || (lt (F8_linkboylaw19_long a1) fun y18 => y18)) = v := ⟨_, rfl⟩
   have hS := ltS hb17 hS
   refine RL.join 3 13 (.bool b16) (fun w' => Ch nb w10 w') ?_ ?_
   · rcases Bool.eq_false_or_eq_true y12 with hg15 | hg15
     ·
      have hs14 := or_t hg15 hb17
      have cs : Ch nb w10 w10 := Ch.refl
      refine RL.no rfl rfl rfl hg15 rfl rfl ?_
      refine RL.no rfl rfl rfl hg15 rfl rfl ?_
      refine rl_pickT rfl hg15 rfl rfl ?_
      exact RL.nil ⟨Ext.bothEq (congrArg Value.bool hs14) (Ext.skip rfl (Ext.skip rfl (Ext.rfl'))), cs⟩
     ·
      have hs14 := or_f hg15 hb17
      have cs : Ch nb w10 w10 := Ch.refl
      refine RL.yes rfl rfl rfl hg15 ?_
      refine rl_loadA (cs := (Want.enc a1)) rfl Try.isAgg24 Try.sizeOf24 (k4.segAt 0 7) rfl rfl ?_
      refine RL.yes rfl rfl rfl hg15 ?_
      obtain ⟨y21, hy22⟩ : ∃ y, F8_linkboylaw19_long a1 = y := ⟨_, rfl⟩
      have hs14 := ltS hy22 hs14
      refine rl_callF rfl en8 rfl (ctr8 (G F w.heap.size nb) w10 a1 y21 hy22) ?_
      rintro _ w19 ⟨rfl, c20⟩
      have ah0 := slRep.ch k_Candidate_pos ah0 c20
      have k4 := k4.ch0 c20
      have c0 := c0.then0 c20
      refine rl_pickF rfl hg15 rfl rfl ?_
      have cs := cs.then0 c20
      exact RL.nil ⟨Ext.bothEq (congrArg Value.bool hs14) (Ext.skip rfl (Ext.skip rfl (Ext.rfl'))), cs⟩
   intro w18 c23
   have ah0 := slRep.ch k_Candidate_pos ah0 c23
   have k4 := k4.ch0 c23
   have c0 := c0.then0 c23
   refine RL.nil ?_
   refine thn_n ?_
   refine CW.cond (t := b16) rfl (fun q24 => ?_) (fun q24 => ?_)
   ·
    have hS := ifT q24 hS
    refine CW.seq (CW.region ?_)
    refine rl_assign rfl rfl ?_
    refine RL.nil ?_
    refine thn_n ?_
    refine CW.ret ?_
    refine thn_ret ?_
    obtain rfl := Option.some.inj hS
    exact ret1 rfl ⟨rfl, c0⟩
   ·
    have hS := ifF q24 hS
    refine CW.skip ?_
    refine thn_n ?_
    refine CW.seq (CW.region ?_)
    refine rl_move rfl rfl ?_
    obtain ⟨y27, hy28, hS⟩ := bindS hS
    refine rl_callF rfl en9 rfl (ctr9 (G F w.heap.size nb) w18 a0 av0 ah0 y27 hy28) ?_
    rintro v29 w25 ⟨_, rfl, h30, c26⟩
    have h30 := SlO.backR k_Candidate_pos h30 nbS c0.size
    have ah0 := slRep.ch k_Candidate_pos ah0 c26
    have k4 := k4.ch0 c26
    have c0 := c0.then0 c26
    refine rl_assign rfl rfl ?_
    refine RL.nil ?_
    refine thn_n ?_
    refine CW.seq ?_
    obtain ⟨y33, hy34, hS⟩ := bindS hS
    obtain ⟨y39, hy40, hS⟩ := bindS hS
    obtain ⟨y45, hy46, hS⟩ := bindS hS
    obtain ⟨y51, hy52, hS⟩ := bindS hS
    obtain ⟨b75, hb76, hS⟩ := bindS hS
    obtain ⟨b87, hb88, hS⟩ := bindS hS
    refine CW.cutN (fun E' w' => Sub [(4, (Value.bool b87))] E' ∧ Ch nb w25 w') ?_ ?_
    ·
     rcases Bool.eq_false_or_eq_true y51 with hg89 | hg89
     ·
      have hs90 := andO_t hg89 hb76
      obtain ⟨y55, hy56, hs90⟩ := bindS hs90
      obtain ⟨y61, hy62, hs90⟩ := bindS hs90
      obtain ⟨y67, hy68, hs90⟩ := bindS hs90
      obtain ⟨y73, hy74, hs90⟩ := bindS hs90
      rcases Bool.eq_false_or_eq_true b75 with hg91 | hg91
      ·
       have hs92 := andO_t hg91 hb88
       obtain ⟨y79, hy80, hs92⟩ := bindS hs92
       obtain ⟨y85, hy86, hs92⟩ := bindS hs92
       refine CW.draw 22 [(false, fun O uu wx => uu = av0), (false, fun O uu wx => ∃ (v35 : Value), uu = v35 ∧ slRep k_Candidate (G F w.heap.size nb) wx y33 v35), (false, fun O uu wx => ∃ (v41 : Value), uu = v41 ∧ slRep k_Candidate (G F w.heap.size nb) wx y39 v41), (false, fun O uu wx => uu = v29), (false, fun O uu wx => ∃ (v47 : Value), uu = v47 ∧ slRep k_Candidate (G F w.heap.size nb) wx y45 v47), (false, fun O uu wx => uu = (Value.bool y51)), (false, fun O uu wx => uu = (Value.bool y51)), (false, fun O uu wx => uu = av0), (false, fun O uu wx => uu = (Value.agg (Want.enc a1).toArray)), (false, fun O uu wx => ∃ (v57 : Value), uu = v57 ∧ slRep k_Candidate (G F w.heap.size nb) wx y55 v57), (false, fun O uu wx => ∃ (v63 : Value), uu = v63 ∧ slRep k_Candidate (G F w.heap.size nb) wx y61 v63), (false, fun O uu wx => uu = v29), (false, fun O uu wx => uu = (Value.agg (Want.enc a1).toArray)), (false, fun O uu wx => ∃ (v69 : Value), uu = v69 ∧ slRep k_Candidate (G F w.heap.size nb) wx y67 v69), (false, fun O uu wx => uu = (Value.bool y73)), (false, fun O uu wx => uu = (Value.bool b75)), (false, fun O uu wx => uu = (Value.bool b75)), (false, fun O uu wx => uu = av0), (false, fun O uu wx => ∃ (v81 : Value), uu = v81 ∧ slRep k_Candidate (G F w.heap.size nb) wx y79 v81), (false, fun O uu wx => uu = v29), (false, fun O uu wx => uu = (Value.bool y85)), (false, fun O uu wx => uu = (Value.bool b87))] [[], [0], [1], [], [3], [2, 4], [5], [6], [6], [6, 7, 8], [6, 9], [6], [6], [6, 11, 12], [6, 10, 13], [6, 14], [15], [16], [16, 17], [16], [16, 18, 19], [16, 20]] [21] mixed rfl rfl rfl rfl ?_ ?_
       ·
        refine Each.consA ⟨fun _ _ _ _ _ h => h, fun h => absurd rfl h, fun O wk hO ck => ?_⟩ ?_
        ·
         have ah0 := slRep.ch k_Candidate_pos ah0 ck
         have k4 := k4.ch0 ck
         have h30 := slRep.ch k_Candidate_pos h30 ck
         have c0 := c0.then0 ck
         refine rl_move rfl rfl ?_
         exact RL.nil ⟨_, rfl, Ch.refl, rfl⟩
        refine Each.consA ⟨fun _ _ _ _ cc hh => by obtain ⟨v35, e, h36⟩ := hh; exact ⟨v35, e, slRep.ch k_Candidate_pos h36 cc⟩, fun h => absurd rfl h, fun O wk hO ck => ?_⟩ ?_
        ·
         have ah0 := slRep.ch k_Candidate_pos ah0 ck
         have k4 := k4.ch0 ck
         have h30 := slRep.ch k_Candidate_pos h30 ck
         have c0 := c0.then0 ck
         refine Need.one rfl rfl ?_
         rintro _ e93
         obtain rfl := e93.symm
         refine rl_callF rfl en11 rfl (ctr11 (G F w.heap.size nb) wk a0 av0 ah0 y33 hy34) ?_
         rintro v96 w94 ⟨_, rfl, h97, c95⟩
         have h97 := SlO.backR k_Candidate_pos h97 nbS c0.size
         have ah0 := slRep.ch k_Candidate_pos ah0 c95
         have k4 := k4.ch0 c95
         have h30 := slRep.ch k_Candidate_pos h30 c95
         have c0 := c0.then0 c95
         exact RL.nil ⟨_, rfl, c95, ⟨v96, rfl, h97⟩⟩
        refine Each.consA ⟨fun _ _ _ _ cc hh => by obtain ⟨v41, e, h42⟩ := hh; exact ⟨v41, e, slRep.ch k_Candidate_pos h42 cc⟩, fun h => absurd rfl h, fun O wk hO ck => ?_⟩ ?_
        ·
         have ah0 := slRep.ch k_Candidate_pos ah0 ck
         have k4 := k4.ch0 ck
         have h30 := slRep.ch k_Candidate_pos h30 ck
         have c0 := c0.then0 ck
         refine Need.one rfl rfl ?_
         rintro _ ⟨v35, e98, h36⟩
         obtain rfl := e98.symm
         refine rl_callF rfl en9 rfl (ctr9 (G F w.heap.size nb) wk y33 v35 h36 y39 hy40) ?_
         rintro v101 w99 ⟨_, rfl, h102, c100⟩
         have h102 := SlO.backR k_Candidate_pos h102 nbS c0.size
         have ah0 := slRep.ch k_Candidate_pos ah0 c100
         have k4 := k4.ch0 c100
         have h30 := slRep.ch k_Candidate_pos h30 c100
         have h36 := slRep.ch k_Candidate_pos h36 c100
         have c0 := c0.then0 c100
         exact RL.nil ⟨_, rfl, c100, ⟨v101, rfl, h102⟩⟩
        refine Each.consA ⟨fun _ _ _ _ _ h => h, fun h => absurd rfl h, fun O wk hO ck => ?_⟩ ?_
        ·
         have ah0 := slRep.ch k_Candidate_pos ah0 ck
         have k4 := k4.ch0 ck
         have h30 := slRep.ch k_Candidate_pos h30 ck
         have c0 := c0.then0 ck
         refine rl_move rfl rfl ?_
         exact RL.nil ⟨_, rfl, Ch.refl, rfl⟩
        refine Each.consA ⟨fun _ _ _ _ cc hh => by obtain ⟨v47, e, h48⟩ := hh; exact ⟨v47, e, slRep.ch k_Candidate_pos h48 cc⟩, fun h => absurd rfl h, fun O wk hO ck => ?_⟩ ?_
        ·
         have ah0 := slRep.ch k_Candidate_pos ah0 ck
         have k4 := k4.ch0 ck
         have h30 := slRep.ch k_Candidate_pos h30 ck
         have c0 := c0.then0 ck
         refine Need.one rfl rfl ?_
         rintro _ e103
         obtain rfl := e103.symm
         refine rl_callF rfl en12 rfl (ctr12 (G F w.heap.size nb) wk y27 v29 h30 y45 hy46) ?_
         rintro v106 w104 ⟨_, rfl, h107, c105⟩
         have h107 := SlO.backR k_Candidate_pos h107 nbS c0.size
         have ah0 := slRep.ch k_Candidate_pos ah0 c105
         have k4 := k4.ch0 c105
         have h30 := slRep.ch k_Candidate_pos h30 c105
         have c0 := c0.then0 c105
         exact RL.nil ⟨_, rfl, c105, ⟨v106, rfl, h107⟩⟩
        refine Each.consA ⟨fun _ _ _ _ _ h => h, fun h => absurd rfl h, fun O wk hO ck => ?_⟩ ?_
        ·
         have ah0 := slRep.ch k_Candidate_pos ah0 ck
         have k4 := k4.ch0 ck
         have h30 := slRep.ch k_Candidate_pos h30 ck
         have c0 := c0.then0 ck
         refine Need.one rfl rfl ?_
         rintro _ ⟨v41, e108, h42⟩
         obtain rfl := e108.symm
         refine Need.one rfl rfl ?_
         rintro _ ⟨v47, e109, h48⟩
         obtain rfl := e109.symm
         refine rl_callF rfl en10 rfl (ctr10 (G F w.heap.size nb) wk y39 v41 h42 y45 v47 h48 y51 hy52) ?_
         rintro _ w110 ⟨rfl, c111⟩
         have ah0 := slRep.ch k_Candidate_pos ah0 c111
         have k4 := k4.ch0 c111
         have h30 := slRep.ch k_Candidate_pos h30 c111
         have h42 := slRep.ch k_Candidate_pos h42 c111
         have h48 := slRep.ch k_Candidate_pos h48 c111
         have c0 := c0.then0 c111
         exact RL.nil ⟨_, rfl, c111, rfl⟩
        refine Each.consA ⟨fun _ _ _ _ _ h => h, fun h => absurd rfl h, fun O wk hO ck => ?_⟩ ?_
        ·
         have ah0 := slRep.ch k_Candidate_pos ah0 ck
         have k4 := k4.ch0 ck
         have h30 := slRep.ch k_Candidate_pos h30 ck
         have c0 := c0.then0 ck
         refine Need.one rfl rfl ?_
         rintro _ e112
         obtain rfl := e112.symm
         refine rl_move rfl rfl ?_
         exact RL.nil ⟨_, rfl, Ch.refl, rfl⟩
        refine Each.consA ⟨fun _ _ _ _ _ h => h, fun h => absurd rfl h, fun O wk hO ck => ?_⟩ ?_
        ·
         have ah0 := slRep.ch k_Candidate_pos ah0 ck
         have k4 := k4.ch0 ck
         have h30 := slRep.ch k_Candidate_pos h30 ck
         have c0 := c0.then0 ck
         refine Need.one rfl rfl ?_
         rintro _ e113
         obtain rfl := e113.symm
         refine RL.yes rfl rfl rfl hg89 ?_
         refine rl_move rfl rfl ?_
         exact RL.nil ⟨_, rfl, Ch.refl, rfl⟩
        refine Each.consA ⟨fun _ _ _ _ _ h => h, fun h => absurd rfl h, fun O wk hO ck => ?_⟩ ?_
        ·
         have ah0 := slRep.ch k_Candidate_pos ah0 ck
         have k4 := k4.ch0 ck
         have h30 := slRep.ch k_Candidate_pos h30 ck
         have c0 := c0.then0 ck
         refine Need.one rfl rfl ?_
         rintro _ e114
         obtain rfl := e114.symm
         refine RL.yes rfl rfl rfl hg89 ?_
         refine rl_loadA (cs := (Want.enc a1)) rfl Try.isAgg24 Try.sizeOf24 (k4.segAt 0 7) rfl rfl ?_
         exact RL.nil ⟨_, rfl, Ch.refl, rfl⟩
        refine Each.consA ⟨fun _ _ _ _ cc hh => by obtain ⟨v57, e, h58⟩ := hh; exact ⟨v57, e, slRep.ch k_Candidate_pos h58 cc⟩, fun h => absurd rfl h, fun O wk hO ck => ?_⟩ ?_
        ·
         have ah0 := slRep.ch k_Candidate_pos ah0 ck
         have k4 := k4.ch0 ck
         have h30 := slRep.ch k_Candidate_pos h30 ck
         have c0 := c0.then0 ck
         refine Need.one rfl rfl ?_
         rintro _ e115
         obtain rfl := e115.symm
         refine Need.one rfl rfl ?_
         rintro _ e116
         obtain rfl := e116.symm
         refine Need.one rfl rfl ?_
         rintro _ e117
         obtain rfl := e117.symm
         refine RL.yes rfl rfl rfl hg89 ?_
         refine rl_callF rfl en13 rfl (ctr13 (G F w.heap.size nb) wk a0 av0 ah0 a1 y55 hy56) ?_
         rintro v120 w118 ⟨_, rfl, h121, c119⟩
         have h121 := SlO.backR k_Candidate_pos h121 nbS c0.size
         have ah0 := slRep.ch k_Candidate_pos ah0 c119
         have k4 := k4.ch0 c119
         have h30 := slRep.ch k_Candidate_pos h30 c119
         have c0 := c0.then0 c119
         exact RL.nil ⟨_, rfl, c119, ⟨v120, rfl, h121⟩⟩
        refine Each.consA ⟨fun _ _ _ _ cc hh => by obtain ⟨v63, e, h64⟩ := hh; exact ⟨v63, e, slRep.ch k_Candidate_pos h64 cc⟩, fun h => absurd rfl h, fun O wk hO ck => ?_⟩ ?_
        ·
         have ah0 := slRep.ch k_Candidate_pos ah0 ck
         have k4 := k4.ch0 ck
         have h30 := slRep.ch k_Candidate_pos h30 ck
         have c0 := c0.then0 ck
         refine Need.one rfl rfl ?_
         rintro _ e122
         obtain rfl := e122.symm
         refine Need.one rfl rfl ?_
         rintro _ ⟨v57, e123, h58⟩
         obtain rfl := e123.symm
         refine RL.yes rfl rfl rfl hg89 ?_
         refine rl_callF rfl en9 rfl (ctr9 (G F w.heap.size nb) wk y55 v57 h58 y61 hy62) ?_
         rintro v126 w124 ⟨_, rfl, h127, c125⟩
         have h127 := SlO.backR k_Candidate_pos h127 nbS c0.size
         have ah0 := slRep.ch k_Candidate_pos ah0 c125
         have k4 := k4.ch0 c125
         have h30 := slRep.ch k_Candidate_pos h30 c125
         have h58 := slRep.ch k_Candidate_pos h58 c125
         have c0 := c0.then0 c125
         exact RL.nil ⟨_, rfl, c125, ⟨v126, rfl, h127⟩⟩
        refine Each.consA ⟨fun _ _ _ _ _ h => h, fun h => absurd rfl h, fun O wk hO ck => ?_⟩ ?_
        ·
         have ah0 := slRep.ch k_Candidate_pos ah0 ck
         have k4 := k4.ch0 ck
         have h30 := slRep.ch k_Candidate_pos h30 ck
         have c0 := c0.then0 ck
         refine Need.one rfl rfl ?_
         rintro _ e128
         obtain rfl := e128.symm
         refine RL.yes rfl rfl rfl hg89 ?_
         refine rl_move rfl rfl ?_
         exact RL.nil ⟨_, rfl, Ch.refl, rfl⟩
        refine Each.consA ⟨fun _ _ _ _ _ h => h, fun h => absurd rfl h, fun O wk hO ck => ?_⟩ ?_
        ·
         have ah0 := slRep.ch k_Candidate_pos ah0 ck
         have k4 := k4.ch0 ck
         have h30 := slRep.ch k_Candidate_pos h30 ck
         have c0 := c0.then0 ck
         refine Need.one rfl rfl ?_
         rintro _ e129
         obtain rfl := e129.symm
         refine RL.yes rfl rfl rfl hg89 ?_
         refine rl_loadA (cs := (Want.enc a1)) rfl Try.isAgg24 Try.sizeOf24 (k4.segAt 0 7) rfl rfl ?_
         exact RL.nil ⟨_, rfl, Ch.refl, rfl⟩
        refine Each.consA ⟨fun _ _ _ _ cc hh => by obtain ⟨v69, e, h70⟩ := hh; exact ⟨v69, e, slRep.ch k_Candidate_pos h70 cc⟩, fun h => absurd rfl h, fun O wk hO ck => ?_⟩ ?_
        ·
         have ah0 := slRep.ch k_Candidate_pos ah0 ck
         have k4 := k4.ch0 ck
         have h30 := slRep.ch k_Candidate_pos h30 ck
         have c0 := c0.then0 ck
         refine Need.one rfl rfl ?_
         rintro _ e130
         obtain rfl := e130.symm
         refine Need.one rfl rfl ?_
         rintro _ e131
         obtain rfl := e131.symm
         refine Need.one rfl rfl ?_
         rintro _ e132
         obtain rfl := e132.symm
         refine RL.yes rfl rfl rfl hg89 ?_
         refine rl_callF rfl en14 rfl (ctr14 (G F w.heap.size nb) wk y27 v29 h30 a1 y67 hy68) ?_
         rintro v135 w133 ⟨_, rfl, h136, c134⟩
         have h136 := SlO.backR k_Candidate_pos h136 nbS c0.size
         have ah0 := slRep.ch k_Candidate_pos ah0 c134
         have k4 := k4.ch0 c134
         have h30 := slRep.ch k_Candidate_pos h30 c134
         have c0 := c0.then0 c134
         exact RL.nil ⟨_, rfl, c134, ⟨v135, rfl, h136⟩⟩
        refine Each.consA ⟨fun _ _ _ _ _ h => h, fun h => absurd rfl h, fun O wk hO ck => ?_⟩ ?_
        ·
         have ah0 := slRep.ch k_Candidate_pos ah0 ck
         have k4 := k4.ch0 ck
         have h30 := slRep.ch k_Candidate_pos h30 ck
         have c0 := c0.then0 ck
         refine Need.one rfl rfl ?_
         rintro _ e137
         obtain rfl := e137.symm
         refine Need.one rfl rfl ?_
         rintro _ ⟨v63, e138, h64⟩
         obtain rfl := e138.symm
         refine Need.one rfl rfl ?_
         rintro _ ⟨v69, e139, h70⟩
         obtain rfl := e139.symm
         refine RL.yes rfl rfl rfl hg89 ?_
         refine rl_callF rfl en10 rfl (ctr10 (G F w.heap.size nb) wk y61 v63 h64 y67 v69 h70 y73 hy74) ?_
         rintro _ w140 ⟨rfl, c141⟩
         have ah0 := slRep.ch k_Candidate_pos ah0 c141
         have k4 := k4.ch0 c141
         have h30 := slRep.ch k_Candidate_pos h30 c141
         have h64 := slRep.ch k_Candidate_pos h64 c141
         have h70 := slRep.ch k_Candidate_pos h70 c141
         have c0 := c0.then0 c141
         exact RL.nil ⟨_, rfl, c141, rfl⟩
        refine Each.consA ⟨fun _ _ _ _ _ h => h, fun h => absurd rfl h, fun O wk hO ck => ?_⟩ ?_
        ·
         refine Need.one rfl rfl ?_
         rintro _ e142
         obtain rfl := e142.symm
         refine Need.one rfl rfl ?_
         rintro _ e143
         obtain rfl := e143.symm
         refine rl_pickT rfl hg89 rfl rfl ?_
         exact RL.nil ⟨_, rfl, Ch.refl, congrArg Value.bool (Option.some.inj hs90)⟩
        refine Each.consA ⟨fun _ _ _ _ _ h => h, fun h => absurd rfl h, fun O wk hO ck => ?_⟩ ?_
        ·
         have ah0 := slRep.ch k_Candidate_pos ah0 ck
         have k4 := k4.ch0 ck
         have h30 := slRep.ch k_Candidate_pos h30 ck
         have c0 := c0.then0 ck
         refine Need.one rfl rfl ?_
         rintro _ e144
         obtain rfl := e144.symm
         refine rl_move rfl rfl ?_
         exact RL.nil ⟨_, rfl, Ch.refl, rfl⟩
        refine Each.consA ⟨fun _ _ _ _ _ h => h, fun h => absurd rfl h, fun O wk hO ck => ?_⟩ ?_
        ·
         have ah0 := slRep.ch k_Candidate_pos ah0 ck
         have k4 := k4.ch0 ck
         have h30 := slRep.ch k_Candidate_pos h30 ck
         have c0 := c0.then0 ck
         refine Need.one rfl rfl ?_
         rintro _ e145
         obtain rfl := e145.symm
         refine RL.yes rfl rfl rfl hg91 ?_
         refine rl_move rfl rfl ?_
         exact RL.nil ⟨_, rfl, Ch.refl, rfl⟩
        refine Each.consA ⟨fun _ _ _ _ cc hh => by obtain ⟨v81, e, h82⟩ := hh; exact ⟨v81, e, slRep.ch k_Candidate_pos h82 cc⟩, fun h => absurd rfl h, fun O wk hO ck => ?_⟩ ?_
        ·
         have ah0 := slRep.ch k_Candidate_pos ah0 ck
         have k4 := k4.ch0 ck
         have h30 := slRep.ch k_Candidate_pos h30 ck
         have c0 := c0.then0 ck
         refine Need.one rfl rfl ?_
         rintro _ e146
         obtain rfl := e146.symm
         refine Need.one rfl rfl ?_
         rintro _ e147
         obtain rfl := e147.symm
         refine RL.yes rfl rfl rfl hg91 ?_
         refine rl_callF rfl en9 rfl (ctr9 (G F w.heap.size nb) wk a0 av0 ah0 y79 hy80) ?_
         rintro v150 w148 ⟨_, rfl, h151, c149⟩
         have h151 := SlO.backR k_Candidate_pos h151 nbS c0.size
         have ah0 := slRep.ch k_Candidate_pos ah0 c149
         have k4 := k4.ch0 c149
         have h30 := slRep.ch k_Candidate_pos h30 c149
         have c0 := c0.then0 c149
         exact RL.nil ⟨_, rfl, c149, ⟨v150, rfl, h151⟩⟩
        refine Each.consA ⟨fun _ _ _ _ _ h => h, fun h => absurd rfl h, fun O wk hO ck => ?_⟩ ?_
        ·
         have ah0 := slRep.ch k_Candidate_pos ah0 ck
         have k4 := k4.ch0 ck
         have h30 := slRep.ch k_Candidate_pos h30 ck
         have c0 := c0.then0 ck
         refine Need.one rfl rfl ?_
         rintro _ e152
         obtain rfl := e152.symm
         refine RL.yes rfl rfl rfl hg91 ?_
         refine rl_move rfl rfl ?_
         exact RL.nil ⟨_, rfl, Ch.refl, rfl⟩
        refine Each.consA ⟨fun _ _ _ _ _ h => h, fun h => absurd rfl h, fun O wk hO ck => ?_⟩ ?_
        ·
         have ah0 := slRep.ch k_Candidate_pos ah0 ck
         have k4 := k4.ch0 ck
         have h30 := slRep.ch k_Candidate_pos h30 ck
         have c0 := c0.then0 ck
         refine Need.one rfl rfl ?_
         rintro _ e153
         obtain rfl := e153.symm
         refine Need.one rfl rfl ?_
         rintro _ ⟨v81, e154, h82⟩
         obtain rfl := e154.symm
         refine Need.one rfl rfl ?_
         rintro _ e155
         obtain rfl := e155.symm
         refine RL.yes rfl rfl rfl hg91 ?_
         refine rl_callF rfl en10 rfl (ctr10 (G F w.heap.size nb) wk y79 v81 h82 y27 v29 h30 y85 hy86) ?_
         rintro _ w156 ⟨rfl, c157⟩
         have ah0 := slRep.ch k_Candidate_pos ah0 c157
         have k4 := k4.ch0 c157
         have h30 := slRep.ch k_Candidate_pos h30 c157
         have h82 := slRep.ch k_Candidate_pos h82 c157
         have c0 := c0.then0 c157
         exact RL.nil ⟨_, rfl, c157, rfl⟩
        refine Each.consA ⟨fun _ _ _ _ _ h => h, fun h => absurd rfl h, fun O wk hO ck => ?_⟩ ?_
        ·
         refine Need.one rfl rfl ?_
         rintro _ e158
         obtain rfl := e158.symm
         refine Need.one rfl rfl ?_
         rintro _ e159
         obtain rfl := e159.symm
         refine rl_pickT rfl hg91 rfl rfl ?_
         exact RL.nil ⟨_, rfl, Ch.refl, congrArg Value.bool (Option.some.inj hs92)⟩
        trivial
       ·
        intro O162 w160 hO163 c161
        have ah0 := slRep.ch k_Candidate_pos ah0 c161
        have k4 := k4.ch0 c161
        have h30 := slRep.ch k_Candidate_pos h30 c161
        have c0 := c0.then0 c161
        refine Need.one rfl rfl ?_
        rintro _ e164
        obtain rfl := e164.symm
        refine rl_assign rfl rfl ?_
        exact RL.nil ⟨rfl, ⟨rfl, trivial⟩, c161⟩
      ·
       have hs165 := andO_f hg91 hb88
       refine CW.draw 22 [(false, fun O uu wx => uu = av0), (false, fun O uu wx => ∃ (v35 : Value), uu = v35 ∧ slRep k_Candidate (G F w.heap.size nb) wx y33 v35), (false, fun O uu wx => ∃ (v41 : Value), uu = v41 ∧ slRep k_Candidate (G F w.heap.size nb) wx y39 v41), (false, fun O uu wx => uu = v29), (false, fun O uu wx => ∃ (v47 : Value), uu = v47 ∧ slRep k_Candidate (G F w.heap.size nb) wx y45 v47), (false, fun O uu wx => uu = (Value.bool y51)), (false, fun O uu wx => uu = (Value.bool y51)), (false, fun O uu wx => uu = av0), (false, fun O uu wx => uu = (Value.agg (Want.enc a1).toArray)), (false, fun O uu wx => ∃ (v57 : Value), uu = v57 ∧ slRep k_Candidate (G F w.heap.size nb) wx y55 v57), (false, fun O uu wx => ∃ (v63 : Value), uu = v63 ∧ slRep k_Candidate (G F w.heap.size nb) wx y61 v63), (false, fun O uu wx => uu = v29), (false, fun O uu wx => uu = (Value.agg (Want.enc a1).toArray)), (false, fun O uu wx => ∃ (v69 : Value), uu = v69 ∧ slRep k_Candidate (G F w.heap.size nb) wx y67 v69), (false, fun O uu wx => uu = (Value.bool y73)), (false, fun O uu wx => uu = (Value.bool b75)), (false, fun O uu wx => uu = (Value.bool b75)), (false, fun O uu wx => uu = undef), (false, fun O uu wx => uu = undef), (false, fun O uu wx => uu = undef), (false, fun O uu wx => uu = undef), (false, fun O uu wx => uu = (Value.bool b87))] [[], [0], [1], [], [3], [2, 4], [5], [6], [6], [6, 7, 8], [6, 9], [6], [6], [6, 11, 12], [6, 10, 13], [6, 14], [15], [16], [16], [16], [16], [16]] [21] mixed rfl rfl rfl rfl ?_ ?_
       ·
        refine Each.consA ⟨fun _ _ _ _ _ h => h, fun h => absurd rfl h, fun O wk hO ck => ?_⟩ ?_
        ·
         have ah0 := slRep.ch k_Candidate_pos ah0 ck
         have k4 := k4.ch0 ck
         have h30 := slRep.ch k_Candidate_pos h30 ck
         have c0 := c0.then0 ck
         refine rl_move rfl rfl ?_
         exact RL.nil ⟨_, rfl, Ch.refl, rfl⟩
        refine Each.consA ⟨fun _ _ _ _ cc hh => by obtain ⟨v35, e, h36⟩ := hh; exact ⟨v35, e, slRep.ch k_Candidate_pos h36 cc⟩, fun h => absurd rfl h, fun O wk hO ck => ?_⟩ ?_
        ·
         have ah0 := slRep.ch k_Candidate_pos ah0 ck
         have k4 := k4.ch0 ck
         have h30 := slRep.ch k_Candidate_pos h30 ck
         have c0 := c0.then0 ck
         refine Need.one rfl rfl ?_
         rintro _ e166
         obtain rfl := e166.symm
         refine rl_callF rfl en11 rfl (ctr11 (G F w.heap.size nb) wk a0 av0 ah0 y33 hy34) ?_
         rintro v169 w167 ⟨_, rfl, h170, c168⟩
         have h170 := SlO.backR k_Candidate_pos h170 nbS c0.size
         have ah0 := slRep.ch k_Candidate_pos ah0 c168
         have k4 := k4.ch0 c168
         have h30 := slRep.ch k_Candidate_pos h30 c168
         have c0 := c0.then0 c168
         exact RL.nil ⟨_, rfl, c168, ⟨v169, rfl, h170⟩⟩
        refine Each.consA ⟨fun _ _ _ _ cc hh => by obtain ⟨v41, e, h42⟩ := hh; exact ⟨v41, e, slRep.ch k_Candidate_pos h42 cc⟩, fun h => absurd rfl h, fun O wk hO ck => ?_⟩ ?_
        ·
         have ah0 := slRep.ch k_Candidate_pos ah0 ck
         have k4 := k4.ch0 ck
         have h30 := slRep.ch k_Candidate_pos h30 ck
         have c0 := c0.then0 ck
         refine Need.one rfl rfl ?_
         rintro _ ⟨v35, e171, h36⟩
         obtain rfl := e171.symm
         refine rl_callF rfl en9 rfl (ctr9 (G F w.heap.size nb) wk y33 v35 h36 y39 hy40) ?_
         rintro v174 w172 ⟨_, rfl, h175, c173⟩
         have h175 := SlO.backR k_Candidate_pos h175 nbS c0.size
         have ah0 := slRep.ch k_Candidate_pos ah0 c173
         have k4 := k4.ch0 c173
         have h30 := slRep.ch k_Candidate_pos h30 c173
         have h36 := slRep.ch k_Candidate_pos h36 c173
         have c0 := c0.then0 c173
         exact RL.nil ⟨_, rfl, c173, ⟨v174, rfl, h175⟩⟩
        refine Each.consA ⟨fun _ _ _ _ _ h => h, fun h => absurd rfl h, fun O wk hO ck => ?_⟩ ?_
        ·
         have ah0 := slRep.ch k_Candidate_pos ah0 ck
         have k4 := k4.ch0 ck
         have h30 := slRep.ch k_Candidate_pos h30 ck
         have c0 := c0.then0 ck
         refine rl_move rfl rfl ?_
         exact RL.nil ⟨_, rfl, Ch.refl, rfl⟩
        refine Each.consA ⟨fun _ _ _ _ cc hh => by obtain ⟨v47, e, h48⟩ := hh; exact ⟨v47, e, slRep.ch k_Candidate_pos h48 cc⟩, fun h => absurd rfl h, fun O wk hO ck => ?_⟩ ?_
        ·
         have ah0 := slRep.ch k_Candidate_pos ah0 ck
         have k4 := k4.ch0 ck
         have h30 := slRep.ch k_Candidate_pos h30 ck
         have c0 := c0.then0 ck
         refine Need.one rfl rfl ?_
         rintro _ e176
         obtain rfl := e176.symm
         refine rl_callF rfl en12 rfl (ctr12 (G F w.heap.size nb) wk y27 v29 h30 y45 hy46) ?_
         rintro v179 w177 ⟨_, rfl, h180, c178⟩
         have h180 := SlO.backR k_Candidate_pos h180 nbS c0.size
         have ah0 := slRep.ch k_Candidate_pos ah0 c178
         have k4 := k4.ch0 c178
         have h30 := slRep.ch k_Candidate_pos h30 c178
         have c0 := c0.then0 c178
         exact RL.nil ⟨_, rfl, c178, ⟨v179, rfl, h180⟩⟩
        refine Each.consA ⟨fun _ _ _ _ _ h => h, fun h => absurd rfl h, fun O wk hO ck => ?_⟩ ?_
        ·
         have ah0 := slRep.ch k_Candidate_pos ah0 ck
         have k4 := k4.ch0 ck
         have h30 := slRep.ch k_Candidate_pos h30 ck
         have c0 := c0.then0 ck
         refine Need.one rfl rfl ?_
         rintro _ ⟨v41, e181, h42⟩
         obtain rfl := e181.symm
         refine Need.one rfl rfl ?_
         rintro _ ⟨v47, e182, h48⟩
         obtain rfl := e182.symm
         refine rl_callF rfl en10 rfl (ctr10 (G F w.heap.size nb) wk y39 v41 h42 y45 v47 h48 y51 hy52) ?_
         rintro _ w183 ⟨rfl, c184⟩
         have ah0 := slRep.ch k_Candidate_pos ah0 c184
         have k4 := k4.ch0 c184
         have h30 := slRep.ch k_Candidate_pos h30 c184
         have h42 := slRep.ch k_Candidate_pos h42 c184
         have h48 := slRep.ch k_Candidate_pos h48 c184
         have c0 := c0.then0 c184
         exact RL.nil ⟨_, rfl, c184, rfl⟩
        refine Each.consA ⟨fun _ _ _ _ _ h => h, fun h => absurd rfl h, fun O wk hO ck => ?_⟩ ?_
        ·
         have ah0 := slRep.ch k_Candidate_pos ah0 ck
         have k4 := k4.ch0 ck
         have h30 := slRep.ch k_Candidate_pos h30 ck
         have c0 := c0.then0 ck
         refine Need.one rfl rfl ?_
         rintro _ e185
         obtain rfl := e185.symm
         refine rl_move rfl rfl ?_
         exact RL.nil ⟨_, rfl, Ch.refl, rfl⟩
        refine Each.consA ⟨fun _ _ _ _ _ h => h, fun h => absurd rfl h, fun O wk hO ck => ?_⟩ ?_
        ·
         have ah0 := slRep.ch k_Candidate_pos ah0 ck
         have k4 := k4.ch0 ck
         have h30 := slRep.ch k_Candidate_pos h30 ck
         have c0 := c0.then0 ck
         refine Need.one rfl rfl ?_
         rintro _ e186
         obtain rfl := e186.symm
         refine RL.yes rfl rfl rfl hg89 ?_
         refine rl_move rfl rfl ?_
         exact RL.nil ⟨_, rfl, Ch.refl, rfl⟩
        refine Each.consA ⟨fun _ _ _ _ _ h => h, fun h => absurd rfl h, fun O wk hO ck => ?_⟩ ?_
        ·
         have ah0 := slRep.ch k_Candidate_pos ah0 ck
         have k4 := k4.ch0 ck
         have h30 := slRep.ch k_Candidate_pos h30 ck
         have c0 := c0.then0 ck
         refine Need.one rfl rfl ?_
         rintro _ e187
         obtain rfl := e187.symm
         refine RL.yes rfl rfl rfl hg89 ?_
         refine rl_loadA (cs := (Want.enc a1)) rfl Try.isAgg24 Try.sizeOf24 (k4.segAt 0 7) rfl rfl ?_
         exact RL.nil ⟨_, rfl, Ch.refl, rfl⟩
        refine Each.consA ⟨fun _ _ _ _ cc hh => by obtain ⟨v57, e, h58⟩ := hh; exact ⟨v57, e, slRep.ch k_Candidate_pos h58 cc⟩, fun h => absurd rfl h, fun O wk hO ck => ?_⟩ ?_
        ·
         have ah0 := slRep.ch k_Candidate_pos ah0 ck
         have k4 := k4.ch0 ck
         have h30 := slRep.ch k_Candidate_pos h30 ck
         have c0 := c0.then0 ck
         refine Need.one rfl rfl ?_
         rintro _ e188
         obtain rfl := e188.symm
         refine Need.one rfl rfl ?_
         rintro _ e189
         obtain rfl := e189.symm
         refine Need.one rfl rfl ?_
         rintro _ e190
         obtain rfl := e190.symm
         refine RL.yes rfl rfl rfl hg89 ?_
         refine rl_callF rfl en13 rfl (ctr13 (G F w.heap.size nb) wk a0 av0 ah0 a1 y55 hy56) ?_
         rintro v193 w191 ⟨_, rfl, h194, c192⟩
         have h194 := SlO.backR k_Candidate_pos h194 nbS c0.size
         have ah0 := slRep.ch k_Candidate_pos ah0 c192
         have k4 := k4.ch0 c192
         have h30 := slRep.ch k_Candidate_pos h30 c192
         have c0 := c0.then0 c192
         exact RL.nil ⟨_, rfl, c192, ⟨v193, rfl, h194⟩⟩
        refine Each.consA ⟨fun _ _ _ _ cc hh => by obtain ⟨v63, e, h64⟩ := hh; exact ⟨v63, e, slRep.ch k_Candidate_pos h64 cc⟩, fun h => absurd rfl h, fun O wk hO ck => ?_⟩ ?_
        ·
         have ah0 := slRep.ch k_Candidate_pos ah0 ck
         have k4 := k4.ch0 ck
         have h30 := slRep.ch k_Candidate_pos h30 ck
         have c0 := c0.then0 ck
         refine Need.one rfl rfl ?_
         rintro _ e195
         obtain rfl := e195.symm
         refine Need.one rfl rfl ?_
         rintro _ ⟨v57, e196, h58⟩
         obtain rfl := e196.symm
         refine RL.yes rfl rfl rfl hg89 ?_
         refine rl_callF rfl en9 rfl (ctr9 (G F w.heap.size nb) wk y55 v57 h58 y61 hy62) ?_
         rintro v199 w197 ⟨_, rfl, h200, c198⟩
         have h200 := SlO.backR k_Candidate_pos h200 nbS c0.size
         have ah0 := slRep.ch k_Candidate_pos ah0 c198
         have k4 := k4.ch0 c198
         have h30 := slRep.ch k_Candidate_pos h30 c198
         have h58 := slRep.ch k_Candidate_pos h58 c198
         have c0 := c0.then0 c198
         exact RL.nil ⟨_, rfl, c198, ⟨v199, rfl, h200⟩⟩
        refine Each.consA ⟨fun _ _ _ _ _ h => h, fun h => absurd rfl h, fun O wk hO ck => ?_⟩ ?_
        ·
         have ah0 := slRep.ch k_Candidate_pos ah0 ck
         have k4 := k4.ch0 ck
         have h30 := slRep.ch k_Candidate_pos h30 ck
         have c0 := c0.then0 ck
         refine Need.one rfl rfl ?_
         rintro _ e201
         obtain rfl := e201.symm
         refine RL.yes rfl rfl rfl hg89 ?_
         refine rl_move rfl rfl ?_
         exact RL.nil ⟨_, rfl, Ch.refl, rfl⟩
        refine Each.consA ⟨fun _ _ _ _ _ h => h, fun h => absurd rfl h, fun O wk hO ck => ?_⟩ ?_
        ·
         have ah0 := slRep.ch k_Candidate_pos ah0 ck
         have k4 := k4.ch0 ck
         have h30 := slRep.ch k_Candidate_pos h30 ck
         have c0 := c0.then0 ck
         refine Need.one rfl rfl ?_
         rintro _ e202
         obtain rfl := e202.symm
         refine RL.yes rfl rfl rfl hg89 ?_
         refine rl_loadA (cs := (Want.enc a1)) rfl Try.isAgg24 Try.sizeOf24 (k4.segAt 0 7) rfl rfl ?_
         exact RL.nil ⟨_, rfl, Ch.refl, rfl⟩
        refine Each.consA ⟨fun _ _ _ _ cc hh => by obtain ⟨v69, e, h70⟩ := hh; exact ⟨v69, e, slRep.ch k_Candidate_pos h70 cc⟩, fun h => absurd rfl h, fun O wk hO ck => ?_⟩ ?_
        ·
         have ah0 := slRep.ch k_Candidate_pos ah0 ck
         have k4 := k4.ch0 ck
         have h30 := slRep.ch k_Candidate_pos h30 ck
         have c0 := c0.then0 ck
         refine Need.one rfl rfl ?_
         rintro _ e203
         obtain rfl := e203.symm
         refine Need.one rfl rfl ?_
         rintro _ e204
         obtain rfl := e204.symm
         refine Need.one rfl rfl ?_
         rintro _ e205
         obtain rfl := e205.symm
         refine RL.yes rfl rfl rfl hg89 ?_
         refine rl_callF rfl en14 rfl (ctr14 (G F w.heap.size nb) wk y27 v29 h30 a1 y67 hy68) ?_
         rintro v208 w206 ⟨_, rfl, h209, c207⟩
         have h209 := SlO.backR k_Candidate_pos h209 nbS c0.size
         have ah0 := slRep.ch k_Candidate_pos ah0 c207
         have k4 := k4.ch0 c207
         have h30 := slRep.ch k_Candidate_pos h30 c207
         have c0 := c0.then0 c207
         exact RL.nil ⟨_, rfl, c207, ⟨v208, rfl, h209⟩⟩
        refine Each.consA ⟨fun _ _ _ _ _ h => h, fun h => absurd rfl h, fun O wk hO ck => ?_⟩ ?_
        ·
         have ah0 := slRep.ch k_Candidate_pos ah0 ck
         have k4 := k4.ch0 ck
         have h30 := slRep.ch k_Candidate_pos h30 ck
         have c0 := c0.then0 ck
         refine Need.one rfl rfl ?_
         rintro _ e210
         obtain rfl := e210.symm
         refine Need.one rfl rfl ?_
         rintro _ ⟨v63, e211, h64⟩
         obtain rfl := e211.symm
         refine Need.one rfl rfl ?_
         rintro _ ⟨v69, e212, h70⟩
         obtain rfl := e212.symm
         refine RL.yes rfl rfl rfl hg89 ?_
         refine rl_callF rfl en10 rfl (ctr10 (G F w.heap.size nb) wk y61 v63 h64 y67 v69 h70 y73 hy74) ?_
         rintro _ w213 ⟨rfl, c214⟩
         have ah0 := slRep.ch k_Candidate_pos ah0 c214
         have k4 := k4.ch0 c214
         have h30 := slRep.ch k_Candidate_pos h30 c214
         have h64 := slRep.ch k_Candidate_pos h64 c214
         have h70 := slRep.ch k_Candidate_pos h70 c214
         have c0 := c0.then0 c214
         exact RL.nil ⟨_, rfl, c214, rfl⟩
        refine Each.consA ⟨fun _ _ _ _ _ h => h, fun h => absurd rfl h, fun O wk hO ck => ?_⟩ ?_
        ·
         refine Need.one rfl rfl ?_
         rintro _ e215
         obtain rfl := e215.symm
         refine Need.one rfl rfl ?_
         rintro _ e216
         obtain rfl := e216.symm
         refine rl_pickT rfl hg89 rfl rfl ?_
         exact RL.nil ⟨_, rfl, Ch.refl, congrArg Value.bool (Option.some.inj hs90)⟩
        refine Each.consA ⟨fun _ _ _ _ _ h => h, fun h => absurd rfl h, fun O wk hO ck => ?_⟩ ?_
        ·
         have ah0 := slRep.ch k_Candidate_pos ah0 ck
         have k4 := k4.ch0 ck
         have h30 := slRep.ch k_Candidate_pos h30 ck
         have c0 := c0.then0 ck
         refine Need.one rfl rfl ?_
         rintro _ e217
         obtain rfl := e217.symm
         refine rl_move rfl rfl ?_
         exact RL.nil ⟨_, rfl, Ch.refl, rfl⟩
        refine Each.consA ⟨fun _ _ _ _ _ h => h, fun h => absurd rfl h, fun O wk hO ck => ?_⟩ ?_
        ·
         refine Need.one rfl rfl ?_
         rintro _ e218
         obtain rfl := e218.symm
         refine RL.no rfl rfl rfl hg91 rfl rfl ?_
         exact RL.nil ⟨_, rfl, Ch.refl, rfl⟩
        refine Each.consA ⟨fun _ _ _ _ _ h => h, fun h => absurd rfl h, fun O wk hO ck => ?_⟩ ?_
        ·
         refine Need.one rfl rfl ?_
         rintro _ e219
         obtain rfl := e219.symm
         refine RL.no rfl rfl rfl hg91 rfl rfl ?_
         exact RL.nil ⟨_, rfl, Ch.refl, rfl⟩
        refine Each.consA ⟨fun _ _ _ _ _ h => h, fun h => absurd rfl h, fun O wk hO ck => ?_⟩ ?_
        ·
         refine Need.one rfl rfl ?_
         rintro _ e220
         obtain rfl := e220.symm
         refine RL.no rfl rfl rfl hg91 rfl rfl ?_
         exact RL.nil ⟨_, rfl, Ch.refl, rfl⟩
        refine Each.consA ⟨fun _ _ _ _ _ h => h, fun h => absurd rfl h, fun O wk hO ck => ?_⟩ ?_
        ·
         refine Need.one rfl rfl ?_
         rintro _ e221
         obtain rfl := e221.symm
         refine RL.no rfl rfl rfl hg91 rfl rfl ?_
         exact RL.nil ⟨_, rfl, Ch.refl, rfl⟩
        refine Each.consA ⟨fun _ _ _ _ _ h => h, fun h => absurd rfl h, fun O wk hO ck => ?_⟩ ?_
        ·
         refine Need.one rfl rfl ?_
         rintro _ e222
         obtain rfl := e222.symm
         refine rl_pickF rfl hg91 rfl rfl ?_
         exact RL.nil ⟨_, rfl, Ch.refl, congrArg Value.bool (Option.some.inj hs165)⟩
        trivial
       ·
        intro O225 w223 hO226 c224
        have ah0 := slRep.ch k_Candidate_pos ah0 c224
        have k4 := k4.ch0 c224
        have h30 := slRep.ch k_Candidate_pos h30 c224
        have c0 := c0.then0 c224
        refine Need.one rfl rfl ?_
        rintro _ e227
        obtain rfl := e227.symm
        refine rl_assign rfl rfl ?_
        exact RL.nil ⟨rfl, ⟨rfl, trivial⟩, c224⟩
     ·
      have hs228 := andO_f hg89 hb76
      have hs229 := andO_f (Option.some.inj hs228).symm hb88
      refine CW.draw 22 [(false, fun O uu wx => uu = av0), (false, fun O uu wx => ∃ (v35 : Value), uu = v35 ∧ slRep k_Candidate (G F w.heap.size nb) wx y33 v35), (false, fun O uu wx => ∃ (v41 : Value), uu = v41 ∧ slRep k_Candidate (G F w.heap.size nb) wx y39 v41), (false, fun O uu wx => uu = v29), (false, fun O uu wx => ∃ (v47 : Value), uu = v47 ∧ slRep k_Candidate (G F w.heap.size nb) wx y45 v47), (false, fun O uu wx => uu = (Value.bool y51)), (false, fun O uu wx => uu = (Value.bool y51)), (false, fun O uu wx => uu = undef), (false, fun O uu wx => uu = undef), (false, fun O uu wx => uu = undef), (false, fun O uu wx => uu = undef), (false, fun O uu wx => uu = undef), (false, fun O uu wx => uu = undef), (false, fun O uu wx => uu = undef), (false, fun O uu wx => uu = undef), (false, fun O uu wx => uu = (Value.bool b75)), (false, fun O uu wx => uu = (Value.bool b75)), (false, fun O uu wx => uu = undef), (false, fun O uu wx => uu = undef), (false, fun O uu wx => uu = undef), (false, fun O uu wx => uu = undef), (false, fun O uu wx => uu = (Value.bool b87))] [[], [0], [1], [], [3], [2, 4], [5], [6], [6], [6], [6], [6], [6], [6], [6], [6], [15], [16], [16], [16], [16], [16]] [21] mixed rfl rfl rfl rfl ?_ ?_
      ·
       refine Each.consA ⟨fun _ _ _ _ _ h => h, fun h => absurd rfl h, fun O wk hO ck => ?_⟩ ?_
       ·
        have ah0 := slRep.ch k_Candidate_pos ah0 ck
        have k4 := k4.ch0 ck
        have h30 := slRep.ch k_Candidate_pos h30 ck
        have c0 := c0.then0 ck
        refine rl_move rfl rfl ?_
        exact RL.nil ⟨_, rfl, Ch.refl, rfl⟩
       refine Each.consA ⟨fun _ _ _ _ cc hh => by obtain ⟨v35, e, h36⟩ := hh; exact ⟨v35, e, slRep.ch k_Candidate_pos h36 cc⟩, fun h => absurd rfl h, fun O wk hO ck => ?_⟩ ?_
       ·
        have ah0 := slRep.ch k_Candidate_pos ah0 ck
        have k4 := k4.ch0 ck
        have h30 := slRep.ch k_Candidate_pos h30 ck
        have c0 := c0.then0 ck
        refine Need.one rfl rfl ?_
        rintro _ e230
        obtain rfl := e230.symm
        refine rl_callF rfl en11 rfl (ctr11 (G F w.heap.size nb) wk a0 av0 ah0 y33 hy34) ?_
        rintro v233 w231 ⟨_, rfl, h234, c232⟩
        have h234 := SlO.backR k_Candidate_pos h234 nbS c0.size
        have ah0 := slRep.ch k_Candidate_pos ah0 c232
        have k4 := k4.ch0 c232
        have h30 := slRep.ch k_Candidate_pos h30 c232
        have c0 := c0.then0 c232
        exact RL.nil ⟨_, rfl, c232, ⟨v233, rfl, h234⟩⟩
       refine Each.consA ⟨fun _ _ _ _ cc hh => by obtain ⟨v41, e, h42⟩ := hh; exact ⟨v41, e, slRep.ch k_Candidate_pos h42 cc⟩, fun h => absurd rfl h, fun O wk hO ck => ?_⟩ ?_
       ·
        have ah0 := slRep.ch k_Candidate_pos ah0 ck
        have k4 := k4.ch0 ck
        have h30 := slRep.ch k_Candidate_pos h30 ck
        have c0 := c0.then0 ck
        refine Need.one rfl rfl ?_
        rintro _ ⟨v35, e235, h36⟩
        obtain rfl := e235.symm
        refine rl_callF rfl en9 rfl (ctr9 (G F w.heap.size nb) wk y33 v35 h36 y39 hy40) ?_
        rintro v238 w236 ⟨_, rfl, h239, c237⟩
        have h239 := SlO.backR k_Candidate_pos h239 nbS c0.size
        have ah0 := slRep.ch k_Candidate_pos ah0 c237
        have k4 := k4.ch0 c237
        have h30 := slRep.ch k_Candidate_pos h30 c237
        have h36 := slRep.ch k_Candidate_pos h36 c237
        have c0 := c0.then0 c237
        exact RL.nil ⟨_, rfl, c237, ⟨v238, rfl, h239⟩⟩
       refine Each.consA ⟨fun _ _ _ _ _ h => h, fun h => absurd rfl h, fun O wk hO ck => ?_⟩ ?_
       ·
        have ah0 := slRep.ch k_Candidate_pos ah0 ck
        have k4 := k4.ch0 ck
        have h30 := slRep.ch k_Candidate_pos h30 ck
        have c0 := c0.then0 ck
        refine rl_move rfl rfl ?_
        exact RL.nil ⟨_, rfl, Ch.refl, rfl⟩
       refine Each.consA ⟨fun _ _ _ _ cc hh => by obtain ⟨v47, e, h48⟩ := hh; exact ⟨v47, e, slRep.ch k_Candidate_pos h48 cc⟩, fun h => absurd rfl h, fun O wk hO ck => ?_⟩ ?_
       ·
        have ah0 := slRep.ch k_Candidate_pos ah0 ck
        have k4 := k4.ch0 ck
        have h30 := slRep.ch k_Candidate_pos h30 ck
        have c0 := c0.then0 ck
        refine Need.one rfl rfl ?_
        rintro _ e240
        obtain rfl := e240.symm
        refine rl_callF rfl en12 rfl (ctr12 (G F w.heap.size nb) wk y27 v29 h30 y45 hy46) ?_
        rintro v243 w241 ⟨_, rfl, h244, c242⟩
        have h244 := SlO.backR k_Candidate_pos h244 nbS c0.size
        have ah0 := slRep.ch k_Candidate_pos ah0 c242
        have k4 := k4.ch0 c242
        have h30 := slRep.ch k_Candidate_pos h30 c242
        have c0 := c0.then0 c242
        exact RL.nil ⟨_, rfl, c242, ⟨v243, rfl, h244⟩⟩
       refine Each.consA ⟨fun _ _ _ _ _ h => h, fun h => absurd rfl h, fun O wk hO ck => ?_⟩ ?_
       ·
        have ah0 := slRep.ch k_Candidate_pos ah0 ck
        have k4 := k4.ch0 ck
        have h30 := slRep.ch k_Candidate_pos h30 ck
        have c0 := c0.then0 ck
        refine Need.one rfl rfl ?_
        rintro _ ⟨v41, e245, h42⟩
        obtain rfl := e245.symm
        refine Need.one rfl rfl ?_
        rintro _ ⟨v47, e246, h48⟩
        obtain rfl := e246.symm
        refine rl_callF rfl en10 rfl (ctr10 (G F w.heap.size nb) wk y39 v41 h42 y45 v47 h48 y51 hy52) ?_
        rintro _ w247 ⟨rfl, c248⟩
        have ah0 := slRep.ch k_Candidate_pos ah0 c248
        have k4 := k4.ch0 c248
        have h30 := slRep.ch k_Candidate_pos h30 c248
        have h42 := slRep.ch k_Candidate_pos h42 c248
        have h48 := slRep.ch k_Candidate_pos h48 c248
        have c0 := c0.then0 c248
        exact RL.nil ⟨_, rfl, c248, rfl⟩
       refine Each.consA ⟨fun _ _ _ _ _ h => h, fun h => absurd rfl h, fun O wk hO ck => ?_⟩ ?_
       ·
        have ah0 := slRep.ch k_Candidate_pos ah0 ck
        have k4 := k4.ch0 ck
        have h30 := slRep.ch k_Candidate_pos h30 ck
        have c0 := c0.then0 ck
        refine Need.one rfl rfl ?_
        rintro _ e249
        obtain rfl := e249.symm
        refine rl_move rfl rfl ?_
        exact RL.nil ⟨_, rfl, Ch.refl, rfl⟩
       refine Each.consA ⟨fun _ _ _ _ _ h => h, fun h => absurd rfl h, fun O wk hO ck => ?_⟩ ?_
       ·
        refine Need.one rfl rfl ?_
        rintro _ e250
        obtain rfl := e250.symm
        refine RL.no rfl rfl rfl hg89 rfl rfl ?_
        exact RL.nil ⟨_, rfl, Ch.refl, rfl⟩
       refine Each.consA ⟨fun _ _ _ _ _ h => h, fun h => absurd rfl h, fun O wk hO ck => ?_⟩ ?_
       ·
        refine Need.one rfl rfl ?_
        rintro _ e251
        obtain rfl := e251.symm
        refine RL.no rfl rfl rfl hg89 rfl rfl ?_
        exact RL.nil ⟨_, rfl, Ch.refl, rfl⟩
       refine Each.consA ⟨fun _ _ _ _ _ h => h, fun h => absurd rfl h, fun O wk hO ck => ?_⟩ ?_
       ·
        refine Need.one rfl rfl ?_
        rintro _ e252
        obtain rfl := e252.symm
        refine RL.no rfl rfl rfl hg89 rfl rfl ?_
        exact RL.nil ⟨_, rfl, Ch.refl, rfl⟩
       refine Each.consA ⟨fun _ _ _ _ _ h => h, fun h => absurd rfl h, fun O wk hO ck => ?_⟩ ?_
       ·
        refine Need.one rfl rfl ?_
        rintro _ e253
        obtain rfl := e253.symm
        refine RL.no rfl rfl rfl hg89 rfl rfl ?_
        exact RL.nil ⟨_, rfl, Ch.refl, rfl⟩
       refine Each.consA ⟨fun _ _ _ _ _ h => h, fun h => absurd rfl h, fun O wk hO ck => ?_⟩ ?_
       ·
        refine Need.one rfl rfl ?_
        rintro _ e254
        obtain rfl := e254.symm
        refine RL.no rfl rfl rfl hg89 rfl rfl ?_
        exact RL.nil ⟨_, rfl, Ch.refl, rfl⟩
       refine Each.consA ⟨fun _ _ _ _ _ h => h, fun h => absurd rfl h, fun O wk hO ck => ?_⟩ ?_
       ·
        refine Need.one rfl rfl ?_
        rintro _ e255
        obtain rfl := e255.symm
        refine RL.no rfl rfl rfl hg89 rfl rfl ?_
        exact RL.nil ⟨_, rfl, Ch.refl, rfl⟩
       refine Each.consA ⟨fun _ _ _ _ _ h => h, fun h => absurd rfl h, fun O wk hO ck => ?_⟩ ?_
       ·
        refine Need.one rfl rfl ?_
        rintro _ e256
        obtain rfl := e256.symm
        refine RL.no rfl rfl rfl hg89 rfl rfl ?_
        exact RL.nil ⟨_, rfl, Ch.refl, rfl⟩
       refine Each.consA ⟨fun _ _ _ _ _ h => h, fun h => absurd rfl h, fun O wk hO ck => ?_⟩ ?_
       ·
        refine Need.one rfl rfl ?_
        rintro _ e257
        obtain rfl := e257.symm
        refine RL.no rfl rfl rfl hg89 rfl rfl ?_
        exact RL.nil ⟨_, rfl, Ch.refl, rfl⟩
       refine Each.consA ⟨fun _ _ _ _ _ h => h, fun h => absurd rfl h, fun O wk hO ck => ?_⟩ ?_
       ·
        refine Need.one rfl rfl ?_
        rintro _ e258
        obtain rfl := e258.symm
        refine rl_pickF rfl hg89 rfl rfl ?_
        exact RL.nil ⟨_, rfl, Ch.refl, congrArg Value.bool (Option.some.inj hs228)⟩
       refine Each.consA ⟨fun _ _ _ _ _ h => h, fun h => absurd rfl h, fun O wk hO ck => ?_⟩ ?_
       ·
        have ah0 := slRep.ch k_Candidate_pos ah0 ck
        have k4 := k4.ch0 ck
        have h30 := slRep.ch k_Candidate_pos h30 ck
        have c0 := c0.then0 ck
        refine Need.one rfl rfl ?_
        rintro _ e259
        obtain rfl := e259.symm
        refine rl_move rfl rfl ?_
        exact RL.nil ⟨_, rfl, Ch.refl, rfl⟩
       refine Each.consA ⟨fun _ _ _ _ _ h => h, fun h => absurd rfl h, fun O wk hO ck => ?_⟩ ?_
       ·
        refine Need.one rfl rfl ?_
        rintro _ e260
        obtain rfl := e260.symm
        refine RL.no rfl rfl rfl (Option.some.inj hs228).symm rfl rfl ?_
        exact RL.nil ⟨_, rfl, Ch.refl, rfl⟩
       refine Each.consA ⟨fun _ _ _ _ _ h => h, fun h => absurd rfl h, fun O wk hO ck => ?_⟩ ?_
       ·
        refine Need.one rfl rfl ?_
        rintro _ e261
        obtain rfl := e261.symm
        refine RL.no rfl rfl rfl (Option.some.inj hs228).symm rfl rfl ?_
        exact RL.nil ⟨_, rfl, Ch.refl, rfl⟩
       refine Each.consA ⟨fun _ _ _ _ _ h => h, fun h => absurd rfl h, fun O wk hO ck => ?_⟩ ?_
       ·
        refine Need.one rfl rfl ?_
        rintro _ e262
        obtain rfl := e262.symm
        refine RL.no rfl rfl rfl (Option.some.inj hs228).symm rfl rfl ?_
        exact RL.nil ⟨_, rfl, Ch.refl, rfl⟩
       refine Each.consA ⟨fun _ _ _ _ _ h => h, fun h => absurd rfl h, fun O wk hO ck => ?_⟩ ?_
       ·
        refine Need.one rfl rfl ?_
        rintro _ e263
        obtain rfl := e263.symm
        refine RL.no rfl rfl rfl (Option.some.inj hs228).symm rfl rfl ?_
        exact RL.nil ⟨_, rfl, Ch.refl, rfl⟩
       refine Each.consA ⟨fun _ _ _ _ _ h => h, fun h => absurd rfl h, fun O wk hO ck => ?_⟩ ?_
       ·
        refine Need.one rfl rfl ?_
        rintro _ e264
        obtain rfl := e264.symm
        refine rl_pickF rfl (Option.some.inj hs228).symm rfl rfl ?_
        exact RL.nil ⟨_, rfl, Ch.refl, congrArg Value.bool (Option.some.inj hs229)⟩
       trivial
      ·
       intro O267 w265 hO268 c266
       have ah0 := slRep.ch k_Candidate_pos ah0 c266
       have k4 := k4.ch0 c266
       have h30 := slRep.ch k_Candidate_pos h30 c266
       have c0 := c0.then0 c266
       refine Need.one rfl rfl ?_
       rintro _ e269
       obtain rfl := e269.symm
       refine rl_assign rfl rfl ?_
       exact RL.nil ⟨rfl, ⟨rfl, trivial⟩, c266⟩
    ·
     rintro _ w271 ⟨hE270, c272⟩
     have ah0 := slRep.ch k_Candidate_pos ah0 c272
     have k4 := k4.ch0 c272
     have h30 := slRep.ch k_Candidate_pos h30 c272
     have c0 := c0.then0 c272
     refine thn_n (CW.sub [(4, (Value.bool b87))] hE270 ?_)
     refine CW.ret ?_
     obtain rfl := Option.some.inj hS
     exact ret1 rfl ⟨rfl, c0⟩
/-- slices.Equal[[]string,string] -/
theorem ctr32 (F : Nat → Prop) (w : World) (a0 : (List ByteArray)) (av0 : Value) (ah0 : slRep kStr F w a0 av0) (a1 : (List ByteArray)) (av1 : Value) (ah1 : slRep kStr F w a1 av1) (r : Bool) (hs : F32_slices_Equal_string_string a0 a1 = some r) :
    Ret Try.prog 32 #[av0, av1] w fun v w' => v = (Value.bool r) ∧ Ch nb w w' := by
  have hS := hs
  have c0 : Ch nb w w := Ch.refl
  have ah0 := slRep.enter kStr_pos ah0
  have ah1 := slRep.enter kStr_pos ah1
  refine Ret.of (n := 26) (args := [_, _]) (rs := [.tmp 4]) Try.func32 rfl rfl rfl rfl ?_
  refine CW.seq (CW.region ?_)
  refine rl_assign rfl rfl ?_
  refine RL.nil ?_
  refine thn_n ?_
  refine CW.seq ?_
  refine CW.seq (CW.region ?_)
  refine rl_move rfl rfl ?_
  refine rl_lenR rfl ah0 Try.underlying42 rfl ?_
  refine rl_move rfl rfl ?_
  refine rl_lenR rfl ah1 Try.underlying42 rfl ?_
  refine rl_bin rfl rfl B.neq rfl ?_
  refine RL.nil ?_
  refine thn_n ?_
  refine CW.cond (t := !decide (((a0.length : Nat) : Int) = ((a1.length : Nat) : Int))) rfl (fun q1 => ?_) (fun q1 => ?_)
  ·
   have hS := ifT q1 hS
   refine CW.seq (CW.region ?_)
   refine rl_assign rfl rfl ?_
   refine RL.nil ?_
   refine thn_n ?_
   refine CW.ret ?_
   refine thn_ret ?_
   obtain rfl := Option.some.inj hS
   exact ret1 rfl ⟨rfl, c0⟩
  ·
   have hS := ifF q1 hS
   refine CW.skip ?_
   refine thn_n ?_
   refine CW.seq ?_
   refine CW.seq (CW.region ?_)
   refine rl_move rfl rfl ?_
   refine rl_lenR rfl ah0 Try.underlying42 rfl ?_
   refine rl_move rfl rfl ?_
   refine RL.nil ?_
   refine thn_n ?_
   obtain ⟨o9, ho10, hS⟩ := bindS hS
   refine CW.cutB (fun E' w' => ∃ (ix16 : Nat), Sub [] E' ∧ Ch nb w w' ∧ Lp.fin ix16 = o9 ∧ slRep kStr (G F w.heap.size nb) w' a0 av0 ∧ slRep kStr (G F w.heap.size nb) w' a1 av1) ?_ ?_
   ·
    refine CW.loopS [(0, av0), (1, av1), (12, (Value.int .i64 ((a0.length : Nat) : Int))), (13, (Value.int .i64 ((0 : Nat) : Int)))] ⟨rfl, rfl, rfl, rfl, trivial⟩ a0.length (fun m E w' => ∃ (rest2 : List ByteArray) (i3 : Nat) , m = rest2.length ∧ E = [(0, av0), (1, av1), (12, (Value.int .i64 ((a0.length : Nat) : Int))), (13, (Value.int .i64 ((i3 : Nat) : Int)))] ∧ Ch nb w w' ∧ At a0 i3 rest2 ∧ runBO (F32_slices_Equal_string_string_b1 a1) rest2 i3 = some o9 ∧ slRep kStr (G F w.heap.size nb) w' a0 av0 ∧ slRep kStr (G F w.heap.size nb) w' a1 av1)
        ⟨a0, 0, rfl, rfl, c0, At.start, ho10, ah0, ah1⟩ ?_
    rintro _ _ w15 ⟨rest2, i3, rfl, rfl, c14, hat5, hL4, ah0, ah1⟩
    refine CW.seq (CW.region ?_)
    refine rl_bin rfl rfl B.lss rfl ?_
    refine RL.nil (thn_n ?_)
    refine CW.seq ?_
    refine CW.cond (t := decide (((i3 : Nat) : Int) < ((a0.length : Nat) : Int))) rfl (fun q17 => ?_) (fun q17 => ?_)
    ·
     obtain ⟨x11, rest18, rfl⟩ := hat5.cons q17
     obtain ⟨q6, hq7⟩ := runBO_some hL4
     have hb8 := hq7
     refine CW.skip (thn_n ?_)
     refine CW.seq ?_
     refine CW.block ?_
     refine CW.seq (CW.region ?_)
     refine rl_move rfl rfl ?_
     refine rl_assign rfl rfl ?_
     refine RL.nil ?_
     refine thn_n ?_
     refine CW.seq ?_
     obtain ⟨y31, hy32, hb8⟩ := bindS hb8
     refine CW.draw 8 [(false, fun O uu wx => uu = av0), (false, fun O uu wx => uu = (Value.int .i64 ((i3 : Nat) : Int))), (false, fun O uu wx => ∃ (p19 : Nat) (o20 : Nat), uu = (Value.pointer (some ⟨p19, o20, none⟩)) ∧ (G F w.heap.size nb) p19 ∧ Seg wx p19 o20 [(Value.string x11)]), (false, fun O uu wx => uu = (Value.string x11)), (false, fun O uu wx => uu = av1), (false, fun O uu wx => uu = (Value.int .i64 ((i3 : Nat) : Int))), (false, fun O uu wx => ∃ (p25 : Nat) (o26 : Nat), uu = (Value.pointer (some ⟨p25, o26, none⟩)) ∧ (G F w.heap.size nb) p25 ∧ Seg wx p25 o26 [(Value.string y31)]), (false, fun O uu wx => uu = (Value.string y31))] [[], [], [0, 1], [2], [], [], [4, 5], [6]] [3, 7] mixed rfl rfl rfl rfl ?_ ?_
     ·
      refine Each.consA ⟨fun _ _ _ _ _ h => h, fun h => absurd rfl h, fun O wk hO ck => ?_⟩ ?_
      ·
       have ah0 := slRep.ch kStr_pos ah0 ck
       have ah1 := slRep.ch kStr_pos ah1 ck
       have c14 := c14.then0 ck
       refine rl_move rfl rfl ?_
       exact RL.nil ⟨_, rfl, Ch.refl, rfl⟩
      refine Each.consA ⟨fun _ _ _ _ _ h => h, fun h => absurd rfl h, fun O wk hO ck => ?_⟩ ?_
      ·
       have ah0 := slRep.ch kStr_pos ah0 ck
       have ah1 := slRep.ch kStr_pos ah1 ck
       have c14 := c14.then0 ck
       refine rl_move rfl rfl ?_
       exact RL.nil ⟨_, rfl, Ch.refl, rfl⟩
      refine Each.consA ⟨fun _ _ _ _ cc hh => by obtain ⟨p19, o20, e, hg24, hs23⟩ := hh; exact ⟨p19, o20, e, hg24, hs23.ch0 cc⟩, fun h => absurd rfl h, fun O wk hO ck => ?_⟩ ?_
      ·
       have ah0 := slRep.ch kStr_pos ah0 ck
       have ah1 := slRep.ch kStr_pos ah1 ck
       have c14 := c14.then0 ck
       refine Need.one rfl rfl ?_
       rintro _ e33
       obtain rfl := e33.symm
       refine Need.one rfl rfl ?_
       rintro _ e34
       obtain rfl := e34.symm
       refine rl_ixR rfl ah0 rfl hat5.get Try.underlying42 Try.sizeOf9 rfl ?_
       intro p35 o36 cs37 hr38 hs39 hg40
       obtain rfl := hr38
       exact RL.nil ⟨_, rfl, Ch.refl, ⟨p35, o36, rfl, hg40, hs39⟩⟩
      refine Each.consA ⟨fun _ _ _ _ _ h => h, fun h => absurd rfl h, fun O wk hO ck => ?_⟩ ?_
      ·
       have ah0 := slRep.ch kStr_pos ah0 ck
       have ah1 := slRep.ch kStr_pos ah1 ck
       have c14 := c14.then0 ck
       refine Need.one rfl rfl ?_
       rintro _ ⟨p19, o20, e41, hg24, hs23⟩
       obtain rfl := e41.symm
       refine rl_loadS (v := (Value.string x11)) rfl Try.isAgg9 (hs23 0 _ rfl) rfl ?_
       exact RL.nil ⟨_, rfl, Ch.refl, rfl⟩
      refine Each.consA ⟨fun _ _ _ _ _ h => h, fun h => absurd rfl h, fun O wk hO ck => ?_⟩ ?_
      ·
       have ah0 := slRep.ch kStr_pos ah0 ck
       have ah1 := slRep.ch kStr_pos ah1 ck
       have c14 := c14.then0 ck
       refine rl_move rfl rfl ?_
       exact RL.nil ⟨_, rfl, Ch.refl, rfl⟩
      refine Each.consA ⟨fun _ _ _ _ _ h => h, fun h => absurd rfl h, fun O wk hO ck => ?_⟩ ?_
      ·
       have ah0 := slRep.ch kStr_pos ah0 ck
       have ah1 := slRep.ch kStr_pos ah1 ck
       have c14 := c14.then0 ck
       refine rl_move rfl rfl ?_
       exact RL.nil ⟨_, rfl, Ch.refl, rfl⟩
      refine Each.consA ⟨fun _ _ _ _ cc hh => by obtain ⟨p25, o26, e, hg30, hs29⟩ := hh; exact ⟨p25, o26, e, hg30, hs29.ch0 cc⟩, fun h => absurd rfl h, fun O wk hO ck => ?_⟩ ?_
      ·
       have ah0 := slRep.ch kStr_pos ah0 ck
       have ah1 := slRep.ch kStr_pos ah1 ck
       have c14 := c14.then0 ck
       refine Need.one rfl rfl ?_
       rintro _ e42
       obtain rfl := e42.symm
       refine Need.one rfl rfl ?_
       rintro _ e43
       obtain rfl := e43.symm
       refine rl_ixR rfl ah1 rfl (ixO_nat hy32) Try.underlying42 Try.sizeOf9 rfl ?_
       intro p44 o45 cs46 hr47 hs48 hg49
       obtain rfl := hr47
       exact RL.nil ⟨_, rfl, Ch.refl, ⟨p44, o45, rfl, hg49, hs48⟩⟩
      refine Each.consA ⟨fun _ _ _ _ _ h => h, fun h => absurd rfl h, fun O wk hO ck => ?_⟩ ?_
      ·
       have ah0 := slRep.ch kStr_pos ah0 ck
       have ah1 := slRep.ch kStr_pos ah1 ck
       have c14 := c14.then0 ck
       refine Need.one rfl rfl ?_
       rintro _ ⟨p25, o26, e50, hg30, hs29⟩
       obtain rfl := e50.symm
       refine rl_loadS (v := (Value.string y31)) rfl Try.isAgg9 (hs29 0 _ rfl) rfl ?_
       exact RL.nil ⟨_, rfl, Ch.refl, rfl⟩
      trivial
     ·
      intro O53 w51 hO54 c52
      have ah0 := slRep.ch kStr_pos ah0 c52
      have ah1 := slRep.ch kStr_pos ah1 c52
      have c14 := c14.then0 c52
      refine Need.one rfl rfl ?_
      rintro _ e55
      obtain rfl := e55.symm
      refine Need.one rfl rfl ?_
      rintro _ e56
      obtain rfl := e56.symm
      refine rl_bin rfl rfl B.neqS rfl ?_
      refine RL.nil ?_
      refine thn_n ?_
      refine CW.cond (t := !decide (x11 = y31)) rfl (fun q57 => ?_) (fun q57 => ?_)
      ·
       have hb8 := ifT q57 hb8
       refine CW.seq (CW.region ?_)
       refine rl_assign rfl rfl ?_
       refine RL.nil ?_
       refine thn_n ?_
       refine CW.ret ?_
       refine inB_ret ?_
       refine thn_ret ?_
       refine thn_ret (inB_ret (thn_ret ?_))
       refine thn_ret ?_
       have f58 := runBO_ret hL4 hq7 hb8
       have hS := retS f58 hS
       obtain rfl := Option.some.inj hS
       exact ret1 rfl ⟨rfl, c14⟩
      ·
       have hb8 := ifF q57 hb8
       refine CW.skip ?_
       refine inB_n ?_
       refine thn_n ?_
       refine CW.region ?_
       refine rl_inc rfl hat5.lt ah0.big rfl ?_
       refine rl_move rfl rfl ?_
       refine RL.nil ?_
       refine thn_n ?_
       have hLn := runBO_next hL4 hq7 hb8
       exact ⟨rest18.length, Nat.lt_succ_self _, [(0, av0), (1, av1), (12, (Value.int .i64 ((a0.length : Nat) : Int))), (13, (Value.int .i64 ((i3 + 1 : Nat) : Int)))], ⟨rfl, rfl, rfl, rfl, trivial⟩, ⟨rest18, i3 + 1, rfl, rfl, c14, hat5.next, hLn, ah0, ah1⟩⟩
    ·
     obtain rfl := hat5.nil q17
     have hLf : Lp.fin i3 = o9 := runBO_done hL4
     refine CW.exit (thn_exit (thn_exit (inB_hit ?_)))
     exact ⟨i3, trivial, c14, hLf, ah0, ah1⟩
   ·
    rintro _ w60 ⟨ix16, hE61, c59, f62, ah0, ah1⟩
    have hS := finS f62 hS
    refine thn_n (CW.sub [] hE61 ?_)
    refine CW.seq (CW.region ?_)
    refine rl_assign rfl rfl ?_
    refine RL.nil ?_
    refine thn_n ?_
    refine CW.ret ?_
    obtain rfl := Option.some.inj hS
    exact ret1 rfl ⟨rfl, c59⟩
/-- lb/hints.Same -/
theorem ctr15 (F : Nat → Prop) (w : World) (a0 : Candidate) (az0_0 : Value) (ah0_0 : slRep kStr F w a0.zones az0_0) (a1 : Candidate) (az1_0 : Value) (ah1_0 : slRep kStr F w a1.zones az1_0) (r : Bool) (hs : F15_hints_Same a0 a1 = some r) :
    Ret Try.prog 15 #[(Value.agg (Candidate.c a0 az0_0).toArray), (Value.agg (Candidate.c a1 az1_0).toArray)] w fun v w' => v = (Value.bool r) ∧ Ch nb w w' := by
  have hS := hs
  have c0 : Ch nb w w := Ch.refl
  have ah0_0 := slRep.enter kStr_pos ah0_0
  have ah1_0 := slRep.enter kStr_pos ah1_0
  refine Ret.of (n := 47) (args := [_, _]) (rs := [.tmp 4]) Try.func15 rfl rfl rfl rfl ?_
  refine CW.seq (CW.region ?_)
  refine rl_boxA (cs := (Candidate.c a0 az0_0)) rfl rfl ?_
  intro p1 w2 n3 k4
  have gp1 : (G F w.heap.size nb) p1 := ⟨.inr (by rw [n3.eq]; exact c0.size), fun h => absurd (nbS _ h) (by rw [n3.eq]; exact Nat.lt_irrefl _)⟩
  have ah0_0 := slRep.ch kStr_pos ah0_0 n3.ch
  have ah1_0 := slRep.ch kStr_pos ah1_0 n3.ch
  have c0 := c0.then0 n3.ch
  refine rl_boxA (cs := (Candidate.c a1 az1_0)) rfl rfl ?_
  intro p5 w6 n7 k8
  have gp5 : (G F w.heap.size nb) p5 := ⟨.inr (by rw [n7.eq]; exact c0.size), fun h => absurd (nbS _ h) (by rw [n7.eq]; exact Nat.lt_irrefl _)⟩
  have ah0_0 := slRep.ch kStr_pos ah0_0 n7.ch
  have ah1_0 := slRep.ch kStr_pos ah1_0 n7.ch
  have k4 := k4.ch0 n7.ch
  have c0 := c0.then0 n7.ch
  refine rl_assign rfl rfl ?_
  refine RL.nil ?_
  refine thn_n ?_
  refine CW.seq (CW.region ?_)
  refine rl_fieldAddr rfl fa44_1 rfl ?_
  refine rl_loadS (v := (Value.bool a0.localF)) rfl Try.isAgg4 (k4.cell rfl) rfl ?_
  refine rl_fieldAddr rfl fa44_1 rfl ?_
  refine rl_loadS (v := (Value.bool a1.localF)) rfl Try.isAgg4 (k8.cell rfl) rfl ?_
  refine rl_bin rfl rfl (B.eqlB Try.underlying4) rfl ?_
  refine rl_move rfl rfl ?_
  obtain ⟨b11, hb12⟩ : ∃ v, ((a0.localF == a1.localF) && (a0.ready == a1.ready)) = v := ⟨_, rfl⟩
  have hS := ltS hb12 hS
  refine RL.join 6 17 (.bool b11) (fun w' => Ch nb w6 w') ?_ ?_
  · rcases Bool.eq_false_or_eq_true (a0.localF == a1.localF) with hg10 | hg10
    ·
     have hs9 := and_t hg10 hb12
     have cs : Ch nb w6 w6 := Ch.refl
     refine RL.yes rfl rfl rfl hg10 ?_
     refine rl_fieldAddr rfl fa44_2 rfl ?_
     refine RL.yes rfl rfl rfl hg10 ?_
     refine rl_loadS (v := (Value.bool a0.ready)) rfl Try.isAgg4 (k4.cell rfl) rfl ?_
     refine RL.yes rfl rfl rfl hg10 ?_
     refine rl_fieldAddr rfl fa44_2 rfl ?_
     refine RL.yes rfl rfl rfl hg10 ?_
     refine rl_loadS (v := (Value.bool a1.ready)) rfl Try.isAgg4 (k8.cell rfl) rfl ?_
     refine RL.yes rfl rfl rfl hg10 ?_
     refine rl_bin rfl rfl (B.eqlB Try.underlying4) rfl ?_
     refine rl_pickT rfl hg10 rfl rfl ?_
     exact RL.nil ⟨Ext.bothEq (congrArg Value.bool hs9) (Ext.skip rfl (Ext.skip rfl (Ext.skip rfl (Ext.skip rfl (Ext.skip rfl (Ext.rfl')))))), cs⟩
    ·
     have hs9 := and_f hg10 hb12
     have cs : Ch nb w6 w6 := Ch.refl
     refine RL.no rfl rfl rfl hg10 rfl rfl ?_
     refine RL.no rfl rfl rfl hg10 rfl rfl ?_
     refine RL.no rfl rfl rfl hg10 rfl rfl ?_
     refine RL.no rfl rfl rfl hg10 rfl rfl ?_
     refine RL.no rfl rfl rfl hg10 rfl rfl ?_
     refine rl_pickF rfl hg10 rfl rfl ?_
     exact RL.nil ⟨Ext.bothEq (congrArg Value.bool hs9) (Ext.skip rfl (Ext.skip rfl (Ext.skip rfl (Ext.skip rfl (Ext.skip rfl (Ext.rfl')))))), cs⟩
  intro w13 c14
  have ah0_0 := slRep.ch kStr_pos ah0_0 c14
  have ah1_0 := slRep.ch kStr_pos ah1_0 c14
  have k4 := k4.ch0 c14
  have k8 := k8.ch0 c14
  have c0 := c0.then0 c14
  refine rl_move rfl rfl ?_
  obtain ⟨b17, hb18⟩ : ∃ v, (b11 && (a0.serving == a1.serving)) = v := ⟨_, rfl⟩
  have hS := ltS hb18 hS
  refine RL.join 6 24 (.bool b17) (fun w' => Ch nb w13 w') ?_ ?_
  · rcases Bool.eq_false_or_eq_true b11 with hg16 | hg16
    ·
     have hs15 := and_t hg16 hb18
     have cs : Ch nb w13 w13 := Ch.refl
     refine RL.yes rfl rfl rfl hg16 ?_
     refine rl_fieldAddr rfl fa44_3 rfl ?_
     refine RL.yes rfl rfl rfl hg16 ?_
     refine rl_loadS (v := (Value.bool a0.serving)) rfl Try.isAgg4 (k4.cell rfl) rfl ?_
     refine RL.yes rfl rfl rfl hg16 ?_
     refine rl_fieldAddr rfl fa44_3 rfl ?_
     refine RL.yes rfl rfl rfl hg16 ?_
     refine rl_loadS (v := (Value.bool a1.serving)) rfl Try.isAgg4 (k8.cell rfl) rfl ?_
     refine RL.yes rfl rfl rfl hg16 ?_
     refine rl_bin rfl rfl (B.eqlB Try.underlying4) rfl ?_
     refine rl_pickT rfl hg16 rfl rfl ?_
     exact RL.nil ⟨Ext.bothEq (congrArg Value.bool hs15) (Ext.skip rfl (Ext.skip rfl (Ext.skip rfl (Ext.skip rfl (Ext.skip rfl (Ext.rfl')))))), cs⟩
    ·
     have hs15 := and_f hg16 hb18
     have cs : Ch nb w13 w13 := Ch.refl
     refine RL.no rfl rfl rfl hg16 rfl rfl ?_
     refine RL.no rfl rfl rfl hg16 rfl rfl ?_
     refine RL.no rfl rfl rfl hg16 rfl rfl ?_
     refine RL.no rfl rfl rfl hg16 rfl rfl ?_
     refine RL.no rfl rfl rfl hg16 rfl rfl ?_
     refine rl_pickF rfl hg16 rfl rfl ?_
     exact RL.nil ⟨Ext.bothEq (congrArg Value.bool hs15) (Ext.skip rfl (Ext.skip rfl (Ext.skip rfl (Ext.skip rfl (Ext.skip rfl (Ext.rfl')))))), cs⟩
  intro w19 c20
  have ah0_0 := slRep.ch kStr_pos ah0_0 c20
  have ah1_0 := slRep.ch kStr_pos ah1_0 c20
  have k4 := k4.ch0 c20
  have k8 := k8.ch0 c20
  have c0 := c0.then0 c20
  refine rl_move rfl rfl ?_
  obtain ⟨b23, hb24⟩ : ∃ v, (b17 && (a0.terminating == a1.terminating)) = v := ⟨_, rfl⟩
  have hS := ltS hb24 hS
  refine RL.join 6 31 (.bool b23) (fun w' => Ch nb w19 w') ?_ ?_
  · rcases Bool.eq_false_or_eq_true b17 with hg22 | hg22
    ·
     have hs21 := and_t hg22 hb24
     have cs : Ch nb w19 w19 := Ch.refl
     refine RL.yes rfl rfl rfl hg22 ?_
     refine rl_fieldAddr rfl fa44_4 rfl ?_
     refine RL.yes rfl rfl rfl hg22 ?_
     refine rl_loadS (v := (Value.bool a0.terminating)) rfl Try.isAgg4 (k4.cell rfl) rfl ?_
     refine RL.yes rfl rfl rfl hg22 ?_
     refine rl_fieldAddr rfl fa44_4 rfl ?_
     refine RL.yes rfl rfl rfl hg22 ?_
     refine rl_loadS (v := (Value.bool a1.terminating)) rfl Try.isAgg4 (k8.cell rfl) rfl ?_
     refine RL.yes rfl rfl rfl hg22 ?_
     refine rl_bin rfl rfl (B.eqlB Try.underlying4) rfl ?_
     refine rl_pickT rfl hg22 rfl rfl ?_
     exact RL.nil ⟨Ext.bothEq (congrArg Value.bool hs21) (Ext.skip rfl (Ext.skip rfl (Ext.skip rfl (Ext.skip rfl (Ext.skip rfl (Ext.rfl')))))), cs⟩
    ·
     have hs21 := and_f hg22 hb24
     have cs : Ch nb w19 w19 := Ch.refl
     refine RL.no rfl rfl rfl hg22 rfl rfl ?_
     refine RL.no rfl rfl rfl hg22 rfl rfl ?_
     refine RL.no rfl rfl rfl hg22 rfl rfl ?_
     refine RL.no rfl rfl rfl hg22 rfl rfl ?_
     refine RL.no rfl rfl rfl hg22 rfl rfl ?_
     refine rl_pickF rfl hg22 rfl rfl ?_
     exact RL.nil ⟨Ext.bothEq (congrArg Value.bool hs21) (Ext.skip rfl (Ext.skip rfl (Ext.skip rfl (Ext.skip rfl (Ext.skip rfl (Ext.rfl')))))), cs⟩
  intro w25 c26
  have ah0_0 := slRep.ch kStr_pos ah0_0 c26
  have ah1_0 := slRep.ch kStr_pos ah1_0 c26
  have k4 := k4.ch0 c26
  have k8 := k8.ch0 c26
  have c0 := c0.then0 c26
  refine rl_assign rfl rfl ?_
  refine RL.nil ?_
  refine thn_n ?_
  refine CW.seq (CW.region ?_)
  refine rl_fieldAddr rfl fa44_0 rfl ?_
  refine rl_loadA (cs := (Point.enc a0.point)) rfl Try.isAgg41 Try.sizeOf41 (k4.segAt 0 18) rfl rfl ?_
  refine rl_fieldAddr rfl fa44_0 rfl ?_
  refine rl_loadA (cs := (Point.enc a1.point)) rfl Try.isAgg41 Try.sizeOf41 (k8.segAt 0 18) rfl rfl ?_
  refine rl_bin rfl rfl (eql41 a0.point a1.point) rfl ?_
  refine rl_move rfl rfl ?_
  obtain ⟨b29, hb30⟩ : ∃ v, ((decide (a0.point = a1.point)) && b23) = v := ⟨_, rfl⟩
  have hS := ltS hb30 hS
  refine RL.join 2 39 (.bool b29) (fun w' => Ch nb w25 w') ?_ ?_
  · rcases Bool.eq_false_or_eq_true (decide (a0.point = a1.point)) with hg28 | hg28
    ·
     have hs27 := and_t hg28 hb30
     have cs : Ch nb w25 w25 := Ch.refl
     refine RL.yes rfl rfl rfl hg28 ?_
     refine rl_move rfl rfl ?_
     refine rl_pickT rfl hg28 rfl rfl ?_
     exact RL.nil ⟨Ext.bothEq (congrArg Value.bool hs27) (Ext.skip rfl (Ext.rfl')), cs⟩
    ·
     have hs27 := and_f hg28 hb30
     have cs : Ch nb w25 w25 := Ch.refl
     refine RL.no rfl rfl rfl hg28 rfl rfl ?_
     refine rl_pickF rfl hg28 rfl rfl ?_
     exact RL.nil ⟨Ext.bothEq (congrArg Value.bool hs27) (Ext.skip rfl (Ext.rfl')), cs⟩
  intro w31 c32
  have ah0_0 := slRep.ch kStr_pos ah0_0 c32
  have ah1_0 := slRep.ch kStr_pos ah1_0 c32
  have k4 := k4.ch0 c32
  have k8 := k8.ch0 c32
  have c0 := c0.then0 c32
  refine rl_move rfl rfl ?_
  obtain ⟨b35, hb36, hS⟩ := bindS hS
  refine RL.join 6 46 (.bool b35) (fun w' => Ch nb w31 w') ?_ ?_
  · rcases Bool.eq_false_or_eq_true b29 with hg34 | hg34
    ·
     have hs33 := andO_t hg34 hb36
     have cs : Ch nb w31 w31 := Ch.refl
     refine RL.yes rfl rfl rfl hg34 ?_
     refine rl_fieldAddr rfl fa44_5 rfl ?_
     refine RL.yes rfl rfl rfl hg34 ?_
     refine rl_loadS (v := az0_0) rfl Try.isAgg42 (k4.cell rfl) rfl ?_
     refine RL.yes rfl rfl rfl hg34 ?_
     refine rl_fieldAddr rfl fa44_5 rfl ?_
     refine RL.yes rfl rfl rfl hg34 ?_
     refine rl_loadS (v := az1_0) rfl Try.isAgg42 (k8.cell rfl) rfl ?_
     refine RL.yes rfl rfl rfl hg34 ?_
     obtain ⟨y40, hy41, hs33⟩ := bindS hs33
     refine rl_callF rfl en32 rfl (ctr32 (G F w.heap.size nb) w31 a0.zones az0_0 ah0_0 a1.zones az1_0 ah1_0 y40 hy41) ?_
     rintro _ w38 ⟨rfl, c39⟩
     have ah0_0 := slRep.ch kStr_pos ah0_0 c39
     have ah1_0 := slRep.ch kStr_pos ah1_0 c39
     have k4 := k4.ch0 c39
     have k8 := k8.ch0 c39
     have c0 := c0.then0 c39
     refine rl_pickT rfl hg34 rfl rfl ?_
     have cs := cs.then0 c39
     exact RL.nil ⟨Ext.bothEq (congrArg Value.bool (Option.some.inj hs33)) (Ext.skip rfl (Ext.skip rfl (Ext.skip rfl (Ext.skip rfl (Ext.skip rfl (Ext.rfl')))))), cs⟩
    ·
     have hs33 := andO_f hg34 hb36
     have cs : Ch nb w31 w31 := Ch.refl
     refine RL.no rfl rfl rfl hg34 rfl rfl ?_
     refine RL.no rfl rfl rfl hg34 rfl rfl ?_
     refine RL.no rfl rfl rfl hg34 rfl rfl ?_
     refine RL.no rfl rfl rfl hg34 rfl rfl ?_
     refine RL.no rfl rfl rfl hg34 rfl rfl ?_
     refine rl_pickF rfl hg34 rfl rfl ?_
     exact RL.nil ⟨Ext.bothEq (congrArg Value.bool (Option.some.inj hs33)) (Ext.skip rfl (Ext.skip rfl (Ext.skip rfl (Ext.skip rfl (Ext.skip rfl (Ext.rfl')))))), cs⟩
  intro w37 c42
  have ah0_0 := slRep.ch kStr_pos ah0_0 c42
  have ah1_0 := slRep.ch kStr_pos ah1_0 c42
  have k4 := k4.ch0 c42
  have k8 := k8.ch0 c42
  have c0 := c0.then0 c42
  refine rl_assign rfl rfl ?_
  refine RL.nil ?_
  refine thn_n ?_
  refine CW.ret ?_
  obtain rfl := Option.some.inj hS
  exact ret1 rfl ⟨rfl, c0⟩
/-- lb/lblaw19.PickRight -/
theorem ctr4 (F : Nat → Prop) (w : World) (a0 : (List Candidate)) (av0 : Value) (ah0 : slRep k_Candidate F w a0 av0) (a1 : Want) (r : Bool) (hs : F4_linkboylaw19_PickRight a0 a1 = some r) :
    Ret Try.prog 4 #[av0, (Value.agg (Want.enc a1).toArray)] w fun v w' => v = (Value.bool r) ∧ Ch nb w w' := by
  have hS := hs
  have c0 : Ch nb w w := Ch.refl
  have ah0 := slRep.enter k_Candidate_pos ah0
  refine Ret.of (n := 104) (args := [_, _]) (rs := [.tmp 4]) Try.func4 rfl rfl rfl rfl ?_
  refine CW.seq (CW.region ?_)
  refine rl_boxA (cs := (Want.enc a1)) rfl rfl ?_
  intro p1 w2 n3 k4
  have gp1 : (G F w.heap.size nb) p1 := ⟨.inr (by rw [n3.eq]; exact c0.size), fun h => absurd (nbS _ h) (by rw [n3.eq]; exact Nat.lt_irrefl _)⟩
  have ah0 := slRep.ch k_Candidate_pos ah0 n3.ch
  have c0 := c0.then0 n3.ch
  refine rl_assign rfl rfl ?_
  refine RL.nil ?_
  refine thn_n ?_
  refine CW.seq ?_
  refine CW.seq (CW.region ?_)
  obtain ⟨y7, hy8, hS⟩ := bindS hS
  refine rl_callF rfl en6 rfl (ctr6 (G F w.heap.size nb) w2  y7 hy8) ?_
  rintro _ w5 ⟨rfl, c6⟩
  have ah0 := slRep.ch k_Candidate_pos ah0 c6
  have k4 := k4.ch0 c6
  have c0 := c0.then0 c6
  refine rl_not rfl rfl ?_
  refine RL.nil ?_
  refine thn_n ?_
  refine CW.cond (t := !y7) rfl (fun q9 => ?_) (fun q9 => ?_)
  ·
   have hS := ifT q9 hS
   refine CW.seq (CW.region ?_)
   refine rl_assign rfl rfl ?_
   refine RL.nil ?_
   refine thn_n ?_
   refine CW.ret ?_
   refine thn_ret ?_
   obtain rfl := Option.some.inj hS
   exact ret1 rfl ⟨rfl, c0⟩
  ·
   have hS := ifF q9 hS
   refine CW.skip ?_
   refine thn_n ?_
   refine CW.seq ?_
   refine CW.seq (CW.region ?_)
   refine rl_move rfl rfl ?_
   obtain ⟨y12, hy13⟩ : ∃ y, F7_linkboylaw18_Long a0 = y := ⟨_, rfl⟩
   have hS := ltS hy13 hS
   refine rl_callF rfl en7 rfl (ctr7 (G F w.heap.size nb) w5 a0 av0 ah0 y12 hy13) ?_
   rintro _ w10 ⟨rfl, c11⟩
   have ah0 := slRep.ch k_Candidate_pos ah0 c11
   have k4 := k4.ch0 c11
   have c0 := c0.then0 c11
   refine rl_move rfl rfl ?_
   obtain ⟨b16, hb17⟩ : ∃ v, (y12 || (lt (F8_linkboylaw19_long a1) fun y18 => y18)) = v := ⟨_, rfl⟩
   have hS := ltS hb17 hS
   refine RL.join 3 21 (.bool b16) (fun w' => Ch nb w10 w') ?_ ?_
   · rcases Bool.eq_false_or_eq_true y12 with hg15 | hg15
     ·
      have hs14 := or_t hg15 hb17
      have cs : Ch nb w10 w10 := Ch.refl
      refine RL.no rfl rfl rfl hg15 rfl rfl ?_
      refine RL.no rfl rfl rfl hg15 rfl rfl ?_
      refine rl_pickT rfl hg15 rfl rfl ?_
      exact RL.nil ⟨Ext.bothEq (congrArg Value.bool hs14) (Ext.skip rfl (Ext.skip rfl (Ext.rfl'))), cs⟩
     ·
      have hs14 := or_f hg15 hb17
      have cs : Ch nb w10 w10 := Ch.refl
      refine RL.yes rfl rfl rfl hg15 ?_
      refine rl_loadA (cs := (Want.enc a1)) rfl Try.isAgg24 Try.sizeOf24 (k4.segAt 0 7) rfl rfl ?_
      refine RL.yes rfl rfl rfl hg15 ?_
      obtain ⟨y21, hy22⟩ : ∃ y, F8_linkboylaw19_long a1 = y := ⟨_, rfl⟩
      have hs14 := ltS hy22 hs14
      refine rl_callF rfl en8 rfl (ctr8 (G F w.heap.size nb) w10 a1 y21 hy22) ?_
      rintro _ w19 ⟨rfl, c20⟩
      have ah0 := slRep.ch k_Candidate_pos ah0 c20
      have k4 := k4.ch0 c20
      have c0 := c0.then0 c20
      refine rl_pickF rfl hg15 rfl rfl ?_
      have cs := cs.then0 c20
      exact RL.nil ⟨Ext.bothEq (congrArg Value.bool hs14) (Ext.skip rfl (Ext.skip rfl (Ext.rfl'))), cs⟩
   intro w18 c23
   have ah0 := slRep.ch k_Candidate_pos ah0 c23
   have k4 := k4.ch0 c23
   have c0 := c0.then0 c23
   refine RL.nil ?_
   refine thn_n ?_
   refine CW.cond (t := b16) rfl (fun q24 => ?_) (fun q24 => ?_)
   ·
    have hS := ifT q24 hS
    refine CW.seq (CW.region ?_)
    refine rl_assign rfl rfl ?_
    refine RL.nil ?_
    refine thn_n ?_
    refine CW.ret ?_
    refine thn_ret ?_
    obtain rfl := Option.some.inj hS
    exact ret1 rfl ⟨rfl, c0⟩
   ·
    have hS := ifF q24 hS
    refine CW.skip ?_
    refine thn_n ?_
    refine CW.seq (CW.region ?_)
    refine rl_assign rfl rfl ?_
    refine RL.nil ?_
    refine thn_n ?_
    refine CW.seq ?_
    refine CW.seq (CW.region ?_)
    refine rl_move rfl rfl ?_
    refine rl_lenR rfl ah0 Try.underlying22 rfl ?_
    refine rl_move rfl rfl ?_
    refine RL.nil ?_
    refine thn_n ?_
    obtain ⟨o33, ho34⟩ : ∃ o, runA (F4_linkboylaw19_PickRight_b1 a1) a0 false = o := ⟨_, rfl⟩
    have hS := ltS ho34 hS
    refine CW.cutB (fun E' w' => ∃ (x25 : Bool), Sub [(0, av0), (3, (Value.pointer (some ⟨p1, 0, none⟩))), (5, (Value.bool x25))] E' ∧ Ch nb w w' ∧ x25 = o33 ∧ slRep k_Candidate (G F w.heap.size nb) w' a0 av0 ∧ Blk w' p1 24 (Want.enc a1) ∧ (G F w.heap.size nb) p1) ?_ ?_
    ·
     refine CW.loopS [(0, av0), (3, (Value.pointer (some ⟨p1, 0, none⟩))), (22, av0), (23, (Value.int .i64 ((a0.length : Nat) : Int))), (5, (Value.bool false)), (24, (Value.int .i64 ((0 : Nat) : Int)))] ⟨rfl, rfl, rfl, rfl, rfl, rfl, trivial⟩ a0.length (fun m E w' => ∃ (rest26 : List Candidate) (i27 : Nat) (x25 : Bool), m = rest26.length ∧ E = [(0, av0), (3, (Value.pointer (some ⟨p1, 0, none⟩))), (22, av0), (23, (Value.int .i64 ((a0.length : Nat) : Int))), (5, (Value.bool x25)), (24, (Value.int .i64 ((i27 : Nat) : Int)))] ∧ Ch nb w w' ∧ At a0 i27 rest26 ∧ runA (F4_linkboylaw19_PickRight_b1 a1) rest26 x25 = o33 ∧ slRep k_Candidate (G F w.heap.size nb) w' a0 av0 ∧ Blk w' p1 24 (Want.enc a1) ∧ (G F w.heap.size nb) p1)
         ⟨a0, 0, false, rfl, rfl, c0, At.start, ho34, ah0, k4, gp1⟩ ?_
     rintro _ _ w39 ⟨rest26, i27, x25, rfl, rfl, c38, hat29, hL28, ah0, k4, gp1⟩
     refine CW.seq (CW.region ?_)
     refine rl_bin rfl rfl B.lss rfl ?_
     refine RL.nil (thn_n ?_)
     refine CW.seq ?_
     refine CW.cond (t := decide (((i27 : Nat) : Int) < ((a0.length : Nat) : Int))) rfl (fun q41 => ?_) (fun q41 => ?_)
     ·
      obtain ⟨x35, rest42, rfl⟩ := hat29.cons q41
      obtain ⟨q30, hq31⟩ : ∃ q, (F4_linkboylaw19_PickRight_b1 a1) x35 x25 = q := ⟨_, rfl⟩
      have hb32 := hq31
      refine CW.skip (thn_n ?_)
      refine CW.seq ?_
      refine CW.block ?_
      refine CW.seq (CW.region ?_)
      refine rl_ixR rfl ah0 rfl hat29.get Try.underlying22 Try.sizeOf44 rfl ?_
      intro p43 o44 cs45 hr46 hs47 hg48
      obtain ⟨z49, rfl, h50⟩ := hr46
      refine rl_loadA (cs := (Candidate.c x35 z49)) rfl Try.isAgg44 Try.sizeOf44 (hs47) rfl rfl ?_
      refine rl_alloc (Candidate.c Candidate.z (Value.slice none 0 0)) Try.zeroValue44 rfl rfl ?_
      intro p51 w52 n53 k54
      have lop51 := n53.lo c38.size
      have ah0 := slRep.st k_Candidate_pos ah0 n53.ch (admNew n53.fresh (fun _ x => x))
      have gp1n : (G F w.heap.size (un (inBlk (Value.pointer (some ⟨p51, 0, none⟩))) nb)) p1 := ⟨gp1.1, ((admNew n53.fresh (fun _ x => x)) _ k4.lt gp1.2).2⟩
      have k4 := k4.ch0 n53.ch
      have gp1 := gp1n
      have h50 := slRep.st kStr_pos h50 n53.ch (admNew n53.fresh (fun _ x => x))
      have c38 := c38.then0 n53.ch
      refine rl_storeA (vs := (Candidate.c x35 z49)) rfl rfl (Kd.one _ (show k_Candidate.rep (G F w.heap.size (un (inBlk (Value.pointer (some ⟨p51, 0, none⟩))) nb)) w52 x35 (Candidate.c x35 z49) from ⟨z49, rfl, h50⟩)) Try.sizeOf44 rfl k54 rfl ?_
      intro w55 s57 c56 k58
      have ad59 : ∀ b, b < w52.heap.size → ¬ (un (inBlk (Value.pointer (some ⟨p51, 0, none⟩))) nb) b → ¬ inBlk (Value.pointer (some ⟨p51, 0, none⟩)) b ∧ ¬ (un (inBlk (Value.pointer (some ⟨p51, 0, none⟩))) nb) b := fun b _ hs => ⟨fun h => hs (.inl h), hs⟩
      have ah0 := slRep.st k_Candidate_pos ah0 c56 ad59
      have k4 := k4.ch c56 (ad59 _ k4.lt gp1.2).1
      have h50 := slRep.st kStr_pos h50 c56 ad59
      have c38 := c38.then c56 (fun i hi h => absurd (lop51 i h) (Nat.not_le_of_lt hi))
      refine RL.nil ?_
      refine thn_n ?_
      refine CW.region ?_
      refine rl_move rfl rfl ?_
      refine rl_move rfl rfl ?_
      obtain ⟨b62, hb63⟩ : ∃ v, (x25 || (lt (x35.ready && (lt (x35.localF || (!a1.localF)) fun b66 => b66)) fun b64 => b64)) = v := ⟨_, rfl⟩
      have hb32 := ltS hb63 hb32
      refine RL.join 12 41 (.bool b62) (fun w' => Ch nb w55 w') ?_ ?_
      · rcases Bool.eq_false_or_eq_true x25 with hg61 | hg61
        ·
         have hs60 := or_t hg61 hb63
         have cs : Ch nb w55 w55 := Ch.refl
         refine RL.no rfl rfl rfl hg61 rfl rfl ?_
         refine RL.no rfl rfl rfl hg61 rfl rfl ?_
         refine RL.no rfl rfl rfl hg61 rfl rfl ?_
         refine RL.noU rfl rfl rfl rfl rfl ?_
         refine RL.noU rfl rfl rfl rfl rfl ?_
         refine RL.noU rfl rfl rfl rfl rfl ?_
         refine RL.noU rfl rfl rfl rfl rfl ?_
         refine RL.noU rfl rfl rfl rfl rfl ?_
         refine RL.noU rfl rfl rfl rfl rfl ?_
         refine RL.noU rfl rfl rfl rfl rfl ?_
         refine RL.no rfl rfl rfl hg61 rfl rfl ?_
         refine rl_pickT rfl hg61 rfl rfl ?_
         exact RL.nil ⟨Ext.bothEq (congrArg Value.bool hs60) (Ext.skip rfl (Ext.skip rfl (Ext.skip rfl (Ext.skip rfl (Ext.skip rfl (Ext.skip rfl (Ext.skip rfl (Ext.skip rfl (Ext.skip rfl (Ext.skip rfl (Ext.skip rfl (Ext.rfl')))))))))))), cs⟩
        ·
         have hs60 := or_f hg61 hb63
         have cs : Ch nb w55 w55 := Ch.refl
         refine RL.yes rfl rfl rfl hg61 ?_
         refine rl_fieldAddr rfl fa44_2 rfl ?_
         refine RL.yes rfl rfl rfl hg61 ?_
         refine rl_loadS (v := (Value.bool x35.ready)) rfl Try.isAgg4 (k58.cell rfl) rfl ?_
         refine RL.yes rfl rfl rfl hg61 ?_
         refine rl_move rfl rfl ?_
         obtain ⟨b67, hb68⟩ : ∃ v, (x35.ready && (lt (x35.localF || (!a1.localF)) fun b69 => b69)) = v := ⟨_, rfl⟩
         have hs60 := ltS hb68 hs60
         refine RL.join 8 40 (.bool b67) (fun w' => Ch nb w55 w') ?_ ?_
         · rcases Bool.eq_false_or_eq_true x35.ready with hg66 | hg66
           ·
            have hs65 := and_t hg66 hb68
            have cs : Ch nb w55 w55 := Ch.refl
            refine RL.yes rfl rfl rfl hg66 ?_
            refine rl_fieldAddr rfl fa44_1 rfl ?_
            refine RL.yes rfl rfl rfl hg66 ?_
            refine rl_loadS (v := (Value.bool x35.localF)) rfl Try.isAgg4 (k58.cell rfl) rfl ?_
            refine RL.yes rfl rfl rfl hg66 ?_
            refine rl_move rfl rfl ?_
            obtain ⟨b72, hb73⟩ : ∃ v, (x35.localF || (!a1.localF)) = v := ⟨_, rfl⟩
            have hs65 := ltS hb73 hs65
            refine RL.join 4 39 (.bool b72) (fun w' => Ch nb w55 w') ?_ ?_
            · rcases Bool.eq_false_or_eq_true x35.localF with hg71 | hg71
              ·
               have hs70 := or_t hg71 hb73
               have cs : Ch nb w55 w55 := Ch.refl
               refine RL.no rfl rfl rfl hg71 rfl rfl ?_
               refine RL.no rfl rfl rfl hg71 rfl rfl ?_
               refine RL.no rfl rfl rfl hg71 rfl rfl ?_
               refine RL.yes rfl rfl rfl hg66 ?_
               refine rl_pickT rfl hg71 rfl rfl ?_
               exact RL.nil ⟨Ext.bothEq (congrArg Value.bool hs70) (Ext.skip rfl (Ext.skip rfl (Ext.skip rfl (Ext.rfl')))), cs⟩
              ·
               have hs70 := or_f hg71 hb73
               have cs : Ch nb w55 w55 := Ch.refl
               refine RL.yes rfl rfl rfl hg71 ?_
               refine rl_fieldAddr rfl fa24_3 rfl ?_
               refine RL.yes rfl rfl rfl hg71 ?_
               refine rl_loadS (v := (Value.bool a1.localF)) rfl Try.isAgg4 (k4.cell rfl) rfl ?_
               refine RL.yes rfl rfl rfl hg71 ?_
               refine rl_not rfl rfl ?_
               refine RL.yes rfl rfl rfl hg66 ?_
               refine rl_pickF rfl hg71 rfl rfl ?_
               exact RL.nil ⟨Ext.bothEq (congrArg Value.bool hs70) (Ext.skip rfl (Ext.skip rfl (Ext.skip rfl (Ext.rfl')))), cs⟩
            intro w74 c75
            have ah0 := slRep.ch k_Candidate_pos ah0 c75
            have k4 := k4.ch0 c75
            have h50 := slRep.ch kStr_pos h50 c75
            have k58 := k58.ch0 c75
            have c38 := c38.then0 c75
            refine RL.yes rfl rfl rfl hg61 ?_
            refine rl_pickT rfl hg66 rfl rfl ?_
            have cs := cs.then0 c75
            exact RL.nil ⟨Ext.bothEq (congrArg Value.bool hs65) (Ext.skip rfl (Ext.skip rfl (Ext.skip rfl (Ext.skip rfl (Ext.rfl'))))), cs⟩
           ·
            have hs65 := and_f hg66 hb68
            have cs : Ch nb w55 w55 := Ch.refl
            refine RL.no rfl rfl rfl hg66 rfl rfl ?_
            refine RL.no rfl rfl rfl hg66 rfl rfl ?_
            refine RL.no rfl rfl rfl hg66 rfl rfl ?_
            refine RL.noU rfl rfl rfl rfl rfl ?_
            refine RL.noU rfl rfl rfl rfl rfl ?_
            refine RL.noU rfl rfl rfl rfl rfl ?_
            refine RL.no rfl rfl rfl hg66 rfl rfl ?_
            refine RL.yes rfl rfl rfl hg61 ?_
            refine rl_pickF rfl hg66 rfl rfl ?_
            exact RL.nil ⟨Ext.bothEq (congrArg Value.bool hs65) (Ext.skip rfl (Ext.skip rfl (Ext.skip rfl (Ext.skip rfl (Ext.skip rfl (Ext.skip rfl (Ext.skip rfl (Ext.rfl')))))))), cs⟩
         intro w69 c76
         have ah0 := slRep.ch k_Candidate_pos ah0 c76
         have k4 := k4.ch0 c76
         have h50 := slRep.ch kStr_pos h50 c76
         have k58 := k58.ch0 c76
         have c38 := c38.then0 c76
         refine rl_pickF rfl hg61 rfl rfl ?_
         have cs := cs.then0 c76
         exact RL.nil ⟨Ext.bothEq (congrArg Value.bool hs60) (Ext.skip rfl (Ext.skip rfl (Ext.skip rfl (Ext.skip rfl (Ext.rfl'))))), cs⟩
      intro w64 c77
      have ah0 := slRep.ch k_Candidate_pos ah0 c77
      have k4 := k4.ch0 c77
      have h50 := slRep.ch kStr_pos h50 c77
      have k58 := k58.ch0 c77
      have c38 := c38.then0 c77
      refine rl_assign rfl rfl ?_
      refine RL.nil ?_
      refine inB_n ?_
      refine thn_n ?_
      refine CW.region ?_
      refine rl_inc rfl hat29.lt ah0.big rfl ?_
      refine rl_move rfl rfl ?_
      refine RL.nil ?_
      refine thn_n ?_
      have crf : Ch nb w64 w64 := Ch.refl
      have ah0 := slRep.st k_Candidate_pos ah0 crf (show ∀ b, b < w64.heap.size → ¬ (un (inBlk (Value.pointer (some ⟨p51, 0, none⟩))) nb) b → ¬ nb b ∧ ¬ nb b from fun b _ hs => ⟨fun x => x, fun h => hs (False.elim h)⟩)
      have gp1n : (G F w.heap.size nb) p1 := ⟨gp1.1, ((show ∀ b, b < w64.heap.size → ¬ (un (inBlk (Value.pointer (some ⟨p51, 0, none⟩))) nb) b → ¬ nb b ∧ ¬ nb b from fun b _ hs => ⟨fun x => x, fun h => hs (False.elim h)⟩) _ k4.lt gp1.2).2⟩
      have k4 := k4.ch0 crf
      have gp1 := gp1n
      have h50 := slRep.st kStr_pos h50 crf (show ∀ b, b < w64.heap.size → ¬ (un (inBlk (Value.pointer (some ⟨p51, 0, none⟩))) nb) b → ¬ nb b ∧ ¬ nb b from fun b _ hs => ⟨fun x => x, fun h => hs (False.elim h)⟩)
      have c38 := c38.then0 crf
      have hLn := runA_next hL28 (hb32.trans hq31.symm)
      exact ⟨rest42.length, Nat.lt_succ_self _, [(0, av0), (3, (Value.pointer (some ⟨p1, 0, none⟩))), (22, av0), (23, (Value.int .i64 ((a0.length : Nat) : Int))), (5, (Value.bool b62)), (24, (Value.int .i64 ((i27 + 1 : Nat) : Int)))], ⟨rfl, rfl, rfl, rfl, rfl, rfl, trivial⟩, ⟨rest42, i27 + 1, b62, rfl, rfl, c38, hat29.next, hLn, ah0, k4, gp1⟩⟩
     ·
      obtain rfl := hat29.nil q41
      have hLf : x25 = o33 := hL28
      refine CW.exit (thn_exit (thn_exit (inB_hit ?_)))
      exact ⟨x25, ⟨rfl, rfl, rfl, trivial⟩, c38, hLf, ah0, k4, gp1⟩
    ·
     rintro _ w79 ⟨x25, hE80, c78, f81, ah0, k4, gp1⟩
     subst f81
     refine thn_n (CW.sub [(0, av0), (3, (Value.pointer (some ⟨p1, 0, none⟩))), (5, (Value.bool x25))] hE80 ?_)
     refine CW.seq (CW.region ?_)
     refine rl_move rfl rfl ?_
     refine rl_loadA (cs := (Want.enc a1)) rfl Try.isAgg24 Try.sizeOf24 (k4.segAt 0 7) rfl rfl ?_
     obtain ⟨y85, hy86, hS⟩ := bindS hS
     refine rl_callF rfl en13 rfl (ctr13 (G F w.heap.size nb) w79 a0 av0 ah0 a1 y85 hy86) ?_
     rintro v87 w83 ⟨_, rfl, h88, c84⟩
     have h88 := SlO.backR k_Candidate_pos h88 nbS c78.size
     have ah0 := slRep.ch k_Candidate_pos ah0 c84
     have k4 := k4.ch0 c84
     have c78 := c78.then0 c84
     refine rl_assign rfl rfl ?_
     refine RL.nil ?_
     refine thn_n ?_
     refine CW.seq ?_
     refine CW.seq (CW.region ?_)
     refine rl_move rfl rfl ?_
     refine rl_lenR rfl h88 Try.underlying22 rfl ?_
     refine rl_move rfl rfl ?_
     refine RL.nil ?_
     refine thn_n ?_
     obtain ⟨o96, ho97, hS⟩ := bindS hS
     refine CW.cutB (fun E' w' => ∃ (_ : Unit), Sub [(5, (Value.bool x25)), (8, v87)] E' ∧ Ch nb w w' ∧ Lp.fin () = o96 ∧ slRep k_Candidate (G F w.heap.size nb) w' a0 av0 ∧ Blk w' p1 24 (Want.enc a1) ∧ slRep k_Candidate (G F w.heap.size nb) w' y85 v87 ∧ (G F w.heap.size nb) p1) ?_ ?_
     ·
      refine CW.loopS [(0, av0), (3, (Value.pointer (some ⟨p1, 0, none⟩))), (5, (Value.bool x25)), (8, v87), (46, v87), (47, (Value.int .i64 ((y85.length : Nat) : Int))), (48, (Value.int .i64 ((0 : Nat) : Int)))] ⟨rfl, rfl, rfl, rfl, rfl, rfl, rfl, trivial⟩ y85.length (fun m E w' => ∃ (rest89 : List Candidate) (i90 : Nat) , m = rest89.length ∧ E = [(0, av0), (3, (Value.pointer (some ⟨p1, 0, none⟩))), (5, (Value.bool x25)), (8, v87), (46, v87), (47, (Value.int .i64 ((y85.length : Nat) : Int))), (48, (Value.int .i64 ((i90 : Nat) : Int)))] ∧ Ch nb w w' ∧ At y85 i90 rest89 ∧ runBO (F4_linkboylaw19_PickRight_b2 a0 a1 x25) rest89 () = some o96 ∧ slRep k_Candidate (G F w.heap.size nb) w' a0 av0 ∧ Blk w' p1 24 (Want.enc a1) ∧ slRep k_Candidate (G F w.heap.size nb) w' y85 v87 ∧ (G F w.heap.size nb) p1)
          ⟨y85, 0, rfl, rfl, c78, At.start, ho97, ah0, k4, h88, gp1⟩ ?_
      rintro _ _ w102 ⟨rest89, i90, rfl, rfl, c101, hat92, hL91, ah0, k4, h88, gp1⟩
      refine CW.seq (CW.region ?_)
      refine rl_bin rfl rfl B.lss rfl ?_
      refine RL.nil (thn_n ?_)
      refine CW.seq ?_
      refine CW.cond (t := decide (((i90 : Nat) : Int) < ((y85.length : Nat) : Int))) rfl (fun q104 => ?_) (fun q104 => ?_)
      ·
       obtain ⟨x98, rest105, rfl⟩ := hat92.cons q104
       obtain ⟨q93, hq94⟩ := runBO_some hL91
       have hb95 := hq94
       refine CW.skip (thn_n ?_)
       refine CW.seq ?_
       refine CW.block ?_
       refine CW.seq (CW.region ?_)
       refine rl_ixR rfl h88 rfl hat92.get Try.underlying22 Try.sizeOf44 rfl ?_
       intro p106 o107 cs108 hr109 hs110 hg111
       obtain ⟨z112, rfl, h113⟩ := hr109
       refine rl_loadA (cs := (Candidate.c x98 z112)) rfl Try.isAgg44 Try.sizeOf44 (hs110) rfl rfl ?_
       refine rl_alloc (Candidate.c Candidate.z (Value.slice none 0 0)) Try.zeroValue44 rfl rfl ?_
       intro p114 w115 n116 k117
       have lop114 := n116.lo c101.size
       have ah0 := slRep.st k_Candidate_pos ah0 n116.ch (admNew n116.fresh (fun _ x => x))
       have gp1n : (G F w.heap.size (un (inBlk (Value.pointer (some ⟨p114, 0, none⟩))) nb)) p1 := ⟨gp1.1, ((admNew n116.fresh (fun _ x => x)) _ k4.lt gp1.2).2⟩
       have k4 := k4.ch0 n116.ch
       have gp1 := gp1n
       have h88 := slRep.st k_Candidate_pos h88 n116.ch (admNew n116.fresh (fun _ x => x))
       have h113 := slRep.st kStr_pos h113 n116.ch (admNew n116.fresh (fun _ x => x))
       have c101 := c101.then0 n116.ch
       refine rl_storeA (vs := (Candidate.c x98 z112)) rfl rfl (Kd.one _ (show k_Candidate.rep (G F w.heap.size (un (inBlk (Value.pointer (some ⟨p114, 0, none⟩))) nb)) w115 x98 (Candidate.c x98 z112) from ⟨z112, rfl, h113⟩)) Try.sizeOf44 rfl k117 rfl ?_
       intro w118 s120 c119 k121
       have ad122 : ∀ b, b < w115.heap.size → ¬ (un (inBlk (Value.pointer (some ⟨p114, 0, none⟩))) nb) b → ¬ inBlk (Value.pointer (some ⟨p114, 0, none⟩)) b ∧ ¬ (un (inBlk (Value.pointer (some ⟨p114, 0, none⟩))) nb) b := fun b _ hs => ⟨fun h => hs (.inl h), hs⟩
       have ah0 := slRep.st k_Candidate_pos ah0 c119 ad122
       have k4 := k4.ch c119 (ad122 _ k4.lt gp1.2).1
       have h88 := slRep.st k_Candidate_pos h88 c119 ad122
       have h113 := slRep.st kStr_pos h113 c119 ad122
       have c101 := c101.then c119 (fun i hi h => absurd (lop114 i h) (Nat.not_le_of_lt hi))
       refine RL.nil ?_
       refine thn_n ?_
       refine CW.seq ?_
       refine CW.seq (CW.region ?_)
       refine rl_fieldAddr rfl fa24_3 rfl ?_
       refine rl_loadS (v := (Value.bool a1.localF)) rfl Try.isAgg4 (k4.cell rfl) rfl ?_
       refine rl_move rfl rfl ?_
       obtain ⟨b125, hb126⟩ : ∃ v, (a1.localF && (!x98.localF)) = v := ⟨_, rfl⟩
       have hb95 := ltS hb126 hb95
       refine RL.join 4 58 (.bool b125) (fun w' => Ch nb w118 w') ?_ ?_
       · rcases Bool.eq_false_or_eq_true a1.localF with hg124 | hg124
         ·
          have hs123 := and_t hg124 hb126
          have cs : Ch nb w118 w118 := Ch.refl
          refine RL.yes rfl rfl rfl hg124 ?_
          refine rl_fieldAddr rfl fa44_1 rfl ?_
          refine RL.yes rfl rfl rfl hg124 ?_
          refine rl_loadS (v := (Value.bool x98.localF)) rfl Try.isAgg4 (k121.cell rfl) rfl ?_
          refine RL.yes rfl rfl rfl hg124 ?_
          refine rl_not rfl rfl ?_
          refine rl_pickT rfl hg124 rfl rfl ?_
          exact RL.nil ⟨Ext.bothEq (congrArg Value.bool hs123) (Ext.skip rfl (Ext.skip rfl (Ext.skip rfl (Ext.rfl')))), cs⟩
         ·
          have hs123 := and_f hg124 hb126
          have cs : Ch nb w118 w118 := Ch.refl
          refine RL.no rfl rfl rfl hg124 rfl rfl ?_
          refine RL.no rfl rfl rfl hg124 rfl rfl ?_
          refine RL.no rfl rfl rfl hg124 rfl rfl ?_
          refine rl_pickF rfl hg124 rfl rfl ?_
          exact RL.nil ⟨Ext.bothEq (congrArg Value.bool hs123) (Ext.skip rfl (Ext.skip rfl (Ext.skip rfl (Ext.rfl')))), cs⟩
       intro w127 c128
       have ah0 := slRep.ch k_Candidate_pos ah0 c128
       have k4 := k4.ch0 c128
       have h88 := slRep.ch k_Candidate_pos h88 c128
       have h113 := slRep.ch kStr_pos h113 c128
       have k121 := k121.ch0 c128
       have c101 := c101.then0 c128
       refine rl_move rfl rfl ?_
       obtain ⟨b131, hb132⟩ : ∃ v, (b125 || (lt (x25 && (!x98.ready)) fun b133 => b133)) = v := ⟨_, rfl⟩
       have hb95 := ltS hb132 hb95
       refine RL.join 7 66 (.bool b131) (fun w' => Ch nb w127 w') ?_ ?_
       · rcases Bool.eq_false_or_eq_true b125 with hg130 | hg130
         ·
          have hs129 := or_t hg130 hb132
          have cs : Ch nb w127 w127 := Ch.refl
          refine RL.no rfl rfl rfl hg130 rfl rfl ?_
          refine RL.no rfl rfl rfl hg130 rfl rfl ?_
          refine RL.noU rfl rfl rfl rfl rfl ?_
          refine RL.noU rfl rfl rfl rfl rfl ?_
          refine RL.noU rfl rfl rfl rfl rfl ?_
          refine RL.no rfl rfl rfl hg130 rfl rfl ?_
          refine rl_pickT rfl hg130 rfl rfl ?_
          exact RL.nil ⟨Ext.bothEq (congrArg Value.bool hs129) (Ext.skip rfl (Ext.skip rfl (Ext.skip rfl (Ext.skip rfl (Ext.skip rfl (Ext.skip rfl (Ext.rfl'))))))), cs⟩
         ·
          have hs129 := or_f hg130 hb132
          have cs : Ch nb w127 w127 := Ch.refl
          refine RL.yes rfl rfl rfl hg130 ?_
          refine rl_move rfl rfl ?_
          refine RL.yes rfl rfl rfl hg130 ?_
          refine rl_move rfl rfl ?_
          obtain ⟨b136, hb137⟩ : ∃ v, (x25 && (!x98.ready)) = v := ⟨_, rfl⟩
          have hs129 := ltS hb137 hs129
          refine RL.join 4 65 (.bool b136) (fun w' => Ch nb w127 w') ?_ ?_
          · rcases Bool.eq_false_or_eq_true x25 with hg135 | hg135
            ·
             have hs134 := and_t hg135 hb137
             have cs : Ch nb w127 w127 := Ch.refl
             refine RL.yes rfl rfl rfl hg135 ?_
             refine rl_fieldAddr rfl fa44_2 rfl ?_
             refine RL.yes rfl rfl rfl hg135 ?_
             refine rl_loadS (v := (Value.bool x98.ready)) rfl Try.isAgg4 (k121.cell rfl) rfl ?_
             refine RL.yes rfl rfl rfl hg135 ?_
             refine rl_not rfl rfl ?_
             refine RL.yes rfl rfl rfl hg130 ?_
             refine rl_pickT rfl hg135 rfl rfl ?_
             exact RL.nil ⟨Ext.bothEq (congrArg Value.bool hs134) (Ext.skip rfl (Ext.skip rfl (Ext.skip rfl (Ext.rfl')))), cs⟩
            ·
             have hs134 := and_f hg135 hb137
             have cs : Ch nb w127 w127 := Ch.refl
             refine RL.no rfl rfl rfl hg135 rfl rfl ?_
             refine RL.no rfl rfl rfl hg135 rfl rfl ?_
             refine RL.no rfl rfl rfl hg135 rfl rfl ?_
             refine RL.yes rfl rfl rfl hg130 ?_
             refine rl_pickF rfl hg135 rfl rfl ?_
             exact RL.nil ⟨Ext.bothEq (congrArg Value.bool hs134) (Ext.skip rfl (Ext.skip rfl (Ext.skip rfl (Ext.rfl')))), cs⟩
          intro w138 c139
          have ah0 := slRep.ch k_Candidate_pos ah0 c139
          have k4 := k4.ch0 c139
          have h88 := slRep.ch k_Candidate_pos h88 c139
          have h113 := slRep.ch kStr_pos h113 c139
          have k121 := k121.ch0 c139
          have c101 := c101.then0 c139
          refine rl_pickF rfl hg130 rfl rfl ?_
          have cs := cs.then0 c139
          exact RL.nil ⟨Ext.bothEq (congrArg Value.bool hs129) (Ext.skip rfl (Ext.skip rfl (Ext.skip rfl (Ext.rfl')))), cs⟩
       intro w133 c140
       have ah0 := slRep.ch k_Candidate_pos ah0 c140
       have k4 := k4.ch0 c140
       have h88 := slRep.ch k_Candidate_pos h88 c140
       have h113 := slRep.ch kStr_pos h113 c140
       have k121 := k121.ch0 c140
       have c101 := c101.then0 c140
       refine rl_move rfl rfl ?_
       obtain ⟨b143, hb144⟩ : ∃ v, (b131 || (lt ((!x98.ready) && (lt (x98.serving && x98.terminating) fun b147 => !b147)) fun b145 => b145)) = v := ⟨_, rfl⟩
       have hb95 := ltS hb144 hb95
       refine RL.join 13 80 (.bool b143) (fun w' => Ch nb w133 w') ?_ ?_
       · rcases Bool.eq_false_or_eq_true b131 with hg142 | hg142
         ·
          have hs141 := or_t hg142 hb144
          have cs : Ch nb w133 w133 := Ch.refl
          refine RL.no rfl rfl rfl hg142 rfl rfl ?_
          refine RL.no rfl rfl rfl hg142 rfl rfl ?_
          refine RL.no rfl rfl rfl hg142 rfl rfl ?_
          refine RL.no rfl rfl rfl hg142 rfl rfl ?_
          refine RL.noU rfl rfl rfl rfl rfl ?_
          refine RL.noU rfl rfl rfl rfl rfl ?_
          refine RL.noU rfl rfl rfl rfl rfl ?_
          refine RL.noU rfl rfl rfl rfl rfl ?_
          refine RL.noU rfl rfl rfl rfl rfl ?_
          refine RL.noU rfl rfl rfl rfl rfl ?_
          refine RL.noU rfl rfl rfl rfl rfl ?_
          refine RL.no rfl rfl rfl hg142 rfl rfl ?_
          refine rl_pickT rfl hg142 rfl rfl ?_
          exact RL.nil ⟨Ext.bothEq (congrArg Value.bool hs141) (Ext.skip rfl (Ext.skip rfl (Ext.skip rfl (Ext.skip rfl (Ext.skip rfl (Ext.skip rfl (Ext.skip rfl (Ext.skip rfl (Ext.skip rfl (Ext.skip rfl (Ext.skip rfl (Ext.skip rfl (Ext.rfl'))))))))))))), cs⟩
         ·
          have hs141 := or_f hg142 hb144
          have cs : Ch nb w133 w133 := Ch.refl
          refine RL.yes rfl rfl rfl hg142 ?_
          refine rl_fieldAddr rfl fa44_2 rfl ?_
          refine RL.yes rfl rfl rfl hg142 ?_
          refine rl_loadS (v := (Value.bool x98.ready)) rfl Try.isAgg4 (k121.cell rfl) rfl ?_
          refine RL.yes rfl rfl rfl hg142 ?_
          refine rl_not rfl rfl ?_
          refine RL.yes rfl rfl rfl hg142 ?_
          refine rl_move rfl rfl ?_
          obtain ⟨b148, hb149⟩ : ∃ v, ((!x98.ready) && (lt (x98.serving && x98.terminating) fun b150 => !b150)) = v := ⟨_, rfl⟩
          have hs141 := ltS hb149 hs141
          refine RL.join 8 79 (.bool b148) (fun w' => Ch nb w133 w') ?_ ?_
          · rcases Bool.eq_false_or_eq_true (!x98.ready) with hg147 | hg147
            ·
             have hs146 := and_t hg147 hb149
             have cs : Ch nb w133 w133 := Ch.refl
             refine RL.yes rfl rfl rfl hg147 ?_
             refine rl_fieldAddr rfl fa44_3 rfl ?_
             refine RL.yes rfl rfl rfl hg147 ?_
             refine rl_loadS (v := (Value.bool x98.serving)) rfl Try.isAgg4 (k121.cell rfl) rfl ?_
             refine RL.yes rfl rfl rfl hg147 ?_
             refine rl_move rfl rfl ?_
             obtain ⟨b153, hb154⟩ : ∃ v, (x98.serving && x98.terminating) = v := ⟨_, rfl⟩
             have hs146 := ltS hb154 hs146
             refine RL.join 3 77 (.bool b153) (fun w' => Ch nb w133 w') ?_ ?_
             · rcases Bool.eq_false_or_eq_true x98.serving with hg152 | hg152
               ·
                have hs151 := and_t hg152 hb154
                have cs : Ch nb w133 w133 := Ch.refl
                refine RL.yes rfl rfl rfl hg152 ?_
                refine rl_fieldAddr rfl fa44_4 rfl ?_
                refine RL.yes rfl rfl rfl hg152 ?_
                refine rl_loadS (v := (Value.bool x98.terminating)) rfl Try.isAgg4 (k121.cell rfl) rfl ?_
                refine RL.yes rfl rfl rfl hg147 ?_
                refine rl_pickT rfl hg152 rfl rfl ?_
                exact RL.nil ⟨Ext.bothEq (congrArg Value.bool hs151) (Ext.skip rfl (Ext.skip rfl (Ext.rfl'))), cs⟩
               ·
                have hs151 := and_f hg152 hb154
                have cs : Ch nb w133 w133 := Ch.refl
                refine RL.no rfl rfl rfl hg152 rfl rfl ?_
                refine RL.no rfl rfl rfl hg152 rfl rfl ?_
                refine RL.yes rfl rfl rfl hg147 ?_
                refine rl_pickF rfl hg152 rfl rfl ?_
                exact RL.nil ⟨Ext.bothEq (congrArg Value.bool hs151) (Ext.skip rfl (Ext.skip rfl (Ext.rfl'))), cs⟩
             intro w155 c156
             have ah0 := slRep.ch k_Candidate_pos ah0 c156
             have k4 := k4.ch0 c156
             have h88 := slRep.ch k_Candidate_pos h88 c156
             have h113 := slRep.ch kStr_pos h113 c156
             have k121 := k121.ch0 c156
             have c101 := c101.then0 c156
             refine RL.yes rfl rfl rfl hg147 ?_
             refine rl_not rfl rfl ?_
             refine RL.yes rfl rfl rfl hg142 ?_
             refine rl_pickT rfl hg147 rfl rfl ?_
             have cs := cs.then0 c156
             exact RL.nil ⟨Ext.bothEq (congrArg Value.bool hs146) (Ext.skip rfl (Ext.skip rfl (Ext.skip rfl (Ext.skip rfl (Ext.skip rfl (Ext.rfl')))))), cs⟩
            ·
             have hs146 := and_f hg147 hb149
             have cs : Ch nb w133 w133 := Ch.refl
             refine RL.no rfl rfl rfl hg147 rfl rfl ?_
             refine RL.no rfl rfl rfl hg147 rfl rfl ?_
             refine RL.no rfl rfl rfl hg147 rfl rfl ?_
             refine RL.noU rfl rfl rfl rfl rfl ?_
             refine RL.noU rfl rfl rfl rfl rfl ?_
             refine RL.no rfl rfl rfl hg147 rfl rfl ?_
             refine RL.no rfl rfl rfl hg147 rfl rfl ?_
             refine RL.yes rfl rfl rfl hg142 ?_
             refine rl_pickF rfl hg147 rfl rfl ?_
             exact RL.nil ⟨Ext.bothEq (congrArg Value.bool hs146) (Ext.skip rfl (Ext.skip rfl (Ext.skip rfl (Ext.skip rfl (Ext.skip rfl (Ext.skip rfl (Ext.skip rfl (Ext.rfl')))))))), cs⟩
          intro w150 c157
          have ah0 := slRep.ch k_Candidate_pos ah0 c157
          have k4 := k4.ch0 c157
          have h88 := slRep.ch k_Candidate_pos h88 c157
          have h113 := slRep.ch kStr_pos h113 c157
          have k121 := k121.ch0 c157
          have c101 := c101.then0 c157
          refine rl_pickF rfl hg142 rfl rfl ?_
          have cs := cs.then0 c157
          exact RL.nil ⟨Ext.bothEq (congrArg Value.bool hs141) (Ext.skip rfl (Ext.skip rfl (Ext.skip rfl (Ext.skip rfl (Ext.skip rfl (Ext.rfl')))))), cs⟩
       intro w145 c158
       have ah0 := slRep.ch k_Candidate_pos ah0 c158
       have k4 := k4.ch0 c158
       have h88 := slRep.ch k_Candidate_pos h88 c158
       have h113 := slRep.ch kStr_pos h113 c158
       have k121 := k121.ch0 c158
       have c101 := c101.then0 c158
       refine RL.nil ?_
       refine thn_n ?_
       refine CW.cond (t := b143) rfl (fun q159 => ?_) (fun q159 => ?_)
       ·
        have hb95 := ifT q159 hb95
        refine CW.seq (CW.region ?_)
        refine rl_assign rfl rfl ?_
        refine RL.nil ?_
        refine thn_n ?_
        refine CW.ret ?_
        refine thn_ret ?_
        refine inB_ret ?_
        refine thn_ret ?_
        refine thn_ret (inB_ret (thn_ret ?_))
        refine thn_ret ?_
        have f160 := runBO_ret hL91 hq94 hb95
        have hS := retS f160 hS
        obtain rfl := Option.some.inj hS
        exact ret1 rfl ⟨rfl, c101⟩
       ·
        have hb95 := ifF q159 hb95
        refine CW.skip ?_
        refine thn_n ?_
        refine CW.seq (CW.region ?_)
        refine rl_assign rfl rfl ?_
        refine RL.nil ?_
        refine thn_n ?_
        refine CW.seq ?_
        refine CW.seq (CW.region ?_)
        refine rl_move rfl rfl ?_
        refine rl_lenR rfl ah0 Try.underlying22 rfl ?_
        refine rl_move rfl rfl ?_
        refine RL.nil ?_
        refine thn_n ?_
        obtain ⟨o169, ho170, hb95⟩ := bindS hb95
        refine CW.cutB (fun E' w' => ∃ (x161 : Bool), Sub [(0, av0), (3, (Value.pointer (some ⟨p1, 0, none⟩))), (5, (Value.bool x25)), (8, v87), (46, v87), (47, (Value.int .i64 ((y85.length : Nat) : Int))), (48, (Value.int .i64 ((i90 : Nat) : Int))), (11, (Value.bool x161))] E' ∧ Ch nb w w' ∧ x161 = o169 ∧ slRep k_Candidate (G F w.heap.size (un (inBlk (Value.pointer (some ⟨p114, 0, none⟩))) nb)) w' a0 av0 ∧ Blk w' p1 24 (Want.enc a1) ∧ slRep k_Candidate (G F w.heap.size (un (inBlk (Value.pointer (some ⟨p114, 0, none⟩))) nb)) w' y85 v87 ∧ slRep kStr (G F w.heap.size (un (inBlk (Value.pointer (some ⟨p114, 0, none⟩))) nb)) w' x98.zones z112 ∧ Blk w' p114 44 (Candidate.c x98 z112) ∧ (G F w.heap.size (un (inBlk (Value.pointer (some ⟨p114, 0, none⟩))) nb)) p1) ?_ ?_
        ·
         refine CW.loopS [(0, av0), (3, (Value.pointer (some ⟨p1, 0, none⟩))), (5, (Value.bool x25)), (8, v87), (10, (Value.pointer (some ⟨p114, 0, none⟩))), (46, v87), (47, (Value.int .i64 ((y85.length : Nat) : Int))), (48, (Value.int .i64 ((i90 : Nat) : Int))), (81, av0), (82, (Value.int .i64 ((a0.length : Nat) : Int))), (11, (Value.bool false)), (83, (Value.int .i64 ((0 : Nat) : Int)))] ⟨rfl, rfl, rfl, rfl, rfl, rfl, rfl, rfl, rfl, rfl, rfl, rfl, trivial⟩ a0.length (fun m E w' => ∃ (rest162 : List Candidate) (i163 : Nat) (x161 : Bool), m = rest162.length ∧ E = [(0, av0), (3, (Value.pointer (some ⟨p1, 0, none⟩))), (5, (Value.bool x25)), (8, v87), (10, (Value.pointer (some ⟨p114, 0, none⟩))), (46, v87), (47, (Value.int .i64 ((y85.length : Nat) : Int))), (48, (Value.int .i64 ((i90 : Nat) : Int))), (81, av0), (82, (Value.int .i64 ((a0.length : Nat) : Int))), (11, (Value.bool x161)), (83, (Value.int .i64 ((i163 : Nat) : Int)))] ∧ Ch nb w w' ∧ At a0 i163 rest162 ∧ runAO (F4_linkboylaw19_PickRight_b3 x98) rest162 x161 = some o169 ∧ slRep k_Candidate (G F w.heap.size (un (inBlk (Value.pointer (some ⟨p114, 0, none⟩))) nb)) w' a0 av0 ∧ Blk w' p1 24 (Want.enc a1) ∧ slRep k_Candidate (G F w.heap.size (un (inBlk (Value.pointer (some ⟨p114, 0, none⟩))) nb)) w' y85 v87 ∧ slRep kStr (G F w.heap.size (un (inBlk (Value.pointer (some ⟨p114, 0, none⟩))) nb)) w' x98.zones z112 ∧ Blk w' p114 44 (Candidate.c x98 z112) ∧ (G F w.heap.size (un (inBlk (Value.pointer (some ⟨p114, 0, none⟩))) nb)) p1)
             ⟨a0, 0, false, rfl, rfl, c101, At.start, ho170, ah0, k4, h88, h113, k121, gp1⟩ ?_
         rintro _ _ w175 ⟨rest162, i163, x161, rfl, rfl, c174, hat165, hL164, ah0, k4, h88, h113, k121, gp1⟩
         refine CW.seq (CW.region ?_)
         refine rl_bin rfl rfl B.lss rfl ?_
         refine RL.nil (thn_n ?_)
         refine CW.seq ?_
         refine CW.cond (t := decide (((i163 : Nat) : Int) < ((a0.length : Nat) : Int))) rfl (fun q177 => ?_) (fun q177 => ?_)
         ·
          obtain ⟨x171, rest178, rfl⟩ := hat165.cons q177
          obtain ⟨q166, hq167⟩ := runAO_some hL164
          have hb168 := hq167
          refine CW.skip (thn_n ?_)
          refine CW.seq ?_
          refine CW.block ?_
          refine CW.seq (CW.region ?_)
          refine rl_ixR rfl ah0 rfl hat165.get Try.underlying22 Try.sizeOf44 rfl ?_
          intro p179 o180 cs181 hr182 hs183 hg184
          obtain ⟨z185, rfl, h186⟩ := hr182
          refine rl_loadA (cs := (Candidate.c x171 z185)) rfl Try.isAgg44 Try.sizeOf44 (hs183) rfl rfl ?_
          refine rl_alloc (Candidate.c Candidate.z (Value.slice none 0 0)) Try.zeroValue44 rfl rfl ?_
          intro p187 w188 n189 k190
          have lop187 := n189.lo c174.size
          have d191 : ∀ b, inBlk (Value.pointer (some ⟨p187, 0, none⟩)) b → ¬ inBlk (Value.pointer (some ⟨p114, 0, none⟩)) b := disNew n189.fresh k121.ltp
          have ah0 := slRep.st k_Candidate_pos ah0 n189.ch (admNew n189.fresh (fun _ x => x))
          have gp1n : (G F w.heap.size (un (inBlk (Value.pointer (some ⟨p187, 0, none⟩))) (un (inBlk (Value.pointer (some ⟨p114, 0, none⟩))) nb))) p1 := ⟨gp1.1, ((admNew n189.fresh (fun _ x => x)) _ k4.lt gp1.2).2⟩
          have k4 := k4.ch0 n189.ch
          have gp1 := gp1n
          have h88 := slRep.st k_Candidate_pos h88 n189.ch (admNew n189.fresh (fun _ x => x))
          have h113 := slRep.st kStr_pos h113 n189.ch (admNew n189.fresh (fun _ x => x))
          have k121 := k121.ch0 n189.ch
          have h186 := slRep.st kStr_pos h186 n189.ch (admNew n189.fresh (fun _ x => x))
          have c174 := c174.then0 n189.ch
          refine rl_storeA (vs := (Candidate.c x171 z185)) rfl rfl (Kd.one _ (show k_Candidate.rep (G F w.heap.size (un (inBlk (Value.pointer (some ⟨p187, 0, none⟩))) (un (inBlk (Value.pointer (some ⟨p114, 0, none⟩))) nb))) w188 x171 (Candidate.c x171 z185) from ⟨z185, rfl, h186⟩)) Try.sizeOf44 rfl k190 rfl ?_
          intro w192 s194 c193 k195
          have ad196 : ∀ b, b < w188.heap.size → ¬ (un (inBlk (Value.pointer (some ⟨p187, 0, none⟩))) (un (inBlk (Value.pointer (some ⟨p114, 0, none⟩))) nb)) b → ¬ inBlk (Value.pointer (some ⟨p187, 0, none⟩)) b ∧ ¬ (un (inBlk (Value.pointer (some ⟨p187, 0, none⟩))) (un (inBlk (Value.pointer (some ⟨p114, 0, none⟩))) nb)) b := fun b _ hs => ⟨fun h => hs (.inl h), hs⟩
          have ah0 := slRep.st k_Candidate_pos ah0 c193 ad196
          have k4 := k4.ch c193 (ad196 _ k4.lt gp1.2).1
          have h88 := slRep.st k_Candidate_pos h88 c193 ad196
          have h113 := slRep.st kStr_pos h113 c193 ad196
          have k121 := k121.ch c193 ((disSym d191) _ rfl)
          have h186 := slRep.st kStr_pos h186 c193 ad196
          have c174 := c174.then c193 (fun i hi h => absurd (lop187 i h) (Nat.not_le_of_lt hi))
          refine RL.nil ?_
          refine thn_n ?_
          refine CW.region ?_
          refine rl_move rfl rfl ?_
          refine rl_move rfl rfl ?_
          obtain ⟨b199, hb200, hb168⟩ := bindS hb168
          refine RL.join 4 92 (.bool b199) (fun w' => Ch nb w192 w') ?_ ?_
          · rcases Bool.eq_false_or_eq_true x161 with hg198 | hg198
            ·
             have hs197 := orO_t hg198 hb200
             have cs : Ch nb w192 w192 := Ch.refl
             refine RL.no rfl rfl rfl hg198 rfl rfl ?_
             refine RL.no rfl rfl rfl hg198 rfl rfl ?_
             refine RL.no rfl rfl rfl hg198 rfl rfl ?_
             refine rl_pickT rfl hg198 rfl rfl ?_
             exact RL.nil ⟨Ext.bothEq (congrArg Value.bool (Option.some.inj hs197)) (Ext.skip rfl (Ext.skip rfl (Ext.skip rfl (Ext.rfl')))), cs⟩
            ·
             have hs197 := orO_f hg198 hb200
             have cs : Ch nb w192 w192 := Ch.refl
             refine RL.yes rfl rfl rfl hg198 ?_
             refine rl_loadA (cs := (Candidate.c x171 z185)) rfl Try.isAgg44 Try.sizeOf44 (k195.segAt 0 23) rfl rfl ?_
             refine RL.yes rfl rfl rfl hg198 ?_
             refine rl_loadA (cs := (Candidate.c x98 z112)) rfl Try.isAgg44 Try.sizeOf44 (k121.segAt 0 23) rfl rfl ?_
             refine RL.yes rfl rfl rfl hg198 ?_
             obtain ⟨y204, hy205, hs197⟩ := bindS hs197
             refine rl_callF rfl en15 rfl (ctr15 (G F w.heap.size (un (inBlk (Value.pointer (some ⟨p187, 0, none⟩))) (un (inBlk (Value.pointer (some ⟨p114, 0, none⟩))) nb))) w192 x171 z185 h186 x98 z112 h113 y204 hy205) ?_
             rintro _ w202 ⟨rfl, c203⟩
             have ah0 := slRep.ch k_Candidate_pos ah0 c203
             have k4 := k4.ch0 c203
             have h88 := slRep.ch k_Candidate_pos h88 c203
             have h113 := slRep.ch kStr_pos h113 c203
             have k121 := k121.ch0 c203
             have h186 := slRep.ch kStr_pos h186 c203
             have k195 := k195.ch0 c203
             have c174 := c174.then0 c203
             refine rl_pickF rfl hg198 rfl rfl ?_
             have cs := cs.then0 c203
             exact RL.nil ⟨Ext.bothEq (congrArg Value.bool (Option.some.inj hs197)) (Ext.skip rfl (Ext.skip rfl (Ext.skip rfl (Ext.rfl')))), cs⟩
          intro w201 c206
          have ah0 := slRep.ch k_Candidate_pos ah0 c206
          have k4 := k4.ch0 c206
          have h88 := slRep.ch k_Candidate_pos h88 c206
          have h113 := slRep.ch kStr_pos h113 c206
          have k121 := k121.ch0 c206
          have h186 := slRep.ch kStr_pos h186 c206
          have k195 := k195.ch0 c206
          have c174 := c174.then0 c206
          refine rl_assign rfl rfl ?_
          refine RL.nil ?_
          refine inB_n ?_
          refine thn_n ?_
          refine CW.region ?_
          refine rl_inc rfl hat165.lt ah0.big rfl ?_
          refine rl_move rfl rfl ?_
          refine RL.nil ?_
          refine thn_n ?_
          have crf : Ch nb w201 w201 := Ch.refl
          have ah0 := slRep.st k_Candidate_pos ah0 crf (show ∀ b, b < w201.heap.size → ¬ (un (inBlk (Value.pointer (some ⟨p187, 0, none⟩))) (un (inBlk (Value.pointer (some ⟨p114, 0, none⟩))) nb)) b → ¬ nb b ∧ ¬ (un (inBlk (Value.pointer (some ⟨p114, 0, none⟩))) nb) b from fun b _ hs => ⟨fun x => x, fun h => hs (un_el h (fun h => (.inr (.inl h))) (fun h => False.elim h))⟩)
          have gp1n : (G F w.heap.size (un (inBlk (Value.pointer (some ⟨p114, 0, none⟩))) nb)) p1 := ⟨gp1.1, ((show ∀ b, b < w201.heap.size → ¬ (un (inBlk (Value.pointer (some ⟨p187, 0, none⟩))) (un (inBlk (Value.pointer (some ⟨p114, 0, none⟩))) nb)) b → ¬ nb b ∧ ¬ (un (inBlk (Value.pointer (some ⟨p114, 0, none⟩))) nb) b from fun b _ hs => ⟨fun x => x, fun h => hs (un_el h (fun h => (.inr (.inl h))) (fun h => False.elim h))⟩) _ k4.lt gp1.2).2⟩
          have k4 := k4.ch0 crf
          have gp1 := gp1n
          have h88 := slRep.st k_Candidate_pos h88 crf (show ∀ b, b < w201.heap.size → ¬ (un (inBlk (Value.pointer (some ⟨p187, 0, none⟩))) (un (inBlk (Value.pointer (some ⟨p114, 0, none⟩))) nb)) b → ¬ nb b ∧ ¬ (un (inBlk (Value.pointer (some ⟨p114, 0, none⟩))) nb) b from fun b _ hs => ⟨fun x => x, fun h => hs (un_el h (fun h => (.inr (.inl h))) (fun h => False.elim h))⟩)
          have h113 := slRep.st kStr_pos h113 crf (show ∀ b, b < w201.heap.size → ¬ (un (inBlk (Value.pointer (some ⟨p187, 0, none⟩))) (un (inBlk (Value.pointer (some ⟨p114, 0, none⟩))) nb)) b → ¬ nb b ∧ ¬ (un (inBlk (Value.pointer (some ⟨p114, 0, none⟩))) nb) b from fun b _ hs => ⟨fun x => x, fun h => hs (un_el h (fun h => (.inr (.inl h))) (fun h => False.elim h))⟩)
          have k121 := k121.ch0 crf
          have h186 := slRep.st kStr_pos h186 crf (show ∀ b, b < w201.heap.size → ¬ (un (inBlk (Value.pointer (some ⟨p187, 0, none⟩))) (un (inBlk (Value.pointer (some ⟨p114, 0, none⟩))) nb)) b → ¬ nb b ∧ ¬ (un (inBlk (Value.pointer (some ⟨p114, 0, none⟩))) nb) b from fun b _ hs => ⟨fun x => x, fun h => hs (un_el h (fun h => (.inr (.inl h))) (fun h => False.elim h))⟩)
          have c174 := c174.then0 crf
          have hLn := runAO_next hL164 hq167 hb168
          exact ⟨rest178.length, Nat.lt_succ_self _, [(0, av0), (3, (Value.pointer (some ⟨p1, 0, none⟩))), (5, (Value.bool x25)), (8, v87), (10, (Value.pointer (some ⟨p114, 0, none⟩))), (46, v87), (47, (Value.int .i64 ((y85.length : Nat) : Int))), (48, (Value.int .i64 ((i90 : Nat) : Int))), (81, av0), (82, (Value.int .i64 ((a0.length : Nat) : Int))), (11, (Value.bool b199)), (83, (Value.int .i64 ((i163 + 1 : Nat) : Int)))], ⟨rfl, rfl, rfl, rfl, rfl, rfl, rfl, rfl, rfl, rfl, rfl, rfl, trivial⟩, ⟨rest178, i163 + 1, b199, rfl, rfl, c174, hat165.next, hLn, ah0, k4, h88, h113, k121, gp1⟩⟩
         ·
          obtain rfl := hat165.nil q177
          have hLf : x161 = o169 := runAO_done hL164
          refine CW.exit (thn_exit (thn_exit (inB_hit ?_)))
          exact ⟨x161, ⟨rfl, rfl, rfl, rfl, rfl, rfl, rfl, rfl, trivial⟩, c174, hLf, ah0, k4, h88, h113, k121, gp1⟩
        ·
         rintro _ w208 ⟨x161, hE209, c207, f210, ah0, k4, h88, h113, k121, gp1⟩
         subst f210
         refine thn_n (CW.sub [(0, av0), (3, (Value.pointer (some ⟨p1, 0, none⟩))), (5, (Value.bool x25)), (8, v87), (46, v87), (47, (Value.int .i64 ((y85.length : Nat) : Int))), (48, (Value.int .i64 ((i90 : Nat) : Int))), (11, (Value.bool x161))] hE209 ?_)
         refine CW.seq (CW.region ?_)
         refine rl_move rfl rfl ?_
         refine rl_not rfl rfl ?_
         refine RL.nil ?_
         refine thn_n ?_
         refine CW.cond (t := !x161) rfl (fun q212 => ?_) (fun q212 => ?_)
         ·
          have hb95 := ifT q212 hb95
          refine CW.seq (CW.region ?_)
          refine rl_assign rfl rfl ?_
          refine RL.nil ?_
          refine thn_n ?_
          refine CW.ret ?_
          refine inB_ret ?_
          refine thn_ret ?_
          refine thn_ret (inB_ret (thn_ret ?_))
          refine thn_ret ?_
          have f213 := runBO_ret hL91 hq94 hb95
          have hS := retS f213 hS
          obtain rfl := Option.some.inj hS
          exact ret1 rfl ⟨rfl, c207⟩
         ·
          have hb95 := ifF q212 hb95
          refine CW.skip ?_
          refine inB_n ?_
          refine thn_n ?_
          refine CW.region ?_
          refine rl_inc rfl hat92.lt h88.big rfl ?_
          refine rl_move rfl rfl ?_
          refine RL.nil ?_
          refine thn_n ?_
          have crf : Ch nb w208 w208 := Ch.refl
          have ah0 := slRep.st k_Candidate_pos ah0 crf (show ∀ b, b < w208.heap.size → ¬ (un (inBlk (Value.pointer (some ⟨p114, 0, none⟩))) nb) b → ¬ nb b ∧ ¬ nb b from fun b _ hs => ⟨fun x => x, fun h => hs (False.elim h)⟩)
          have gp1n : (G F w.heap.size nb) p1 := ⟨gp1.1, ((show ∀ b, b < w208.heap.size → ¬ (un (inBlk (Value.pointer (some ⟨p114, 0, none⟩))) nb) b → ¬ nb b ∧ ¬ nb b from fun b _ hs => ⟨fun x => x, fun h => hs (False.elim h)⟩) _ k4.lt gp1.2).2⟩
          have k4 := k4.ch0 crf
          have gp1 := gp1n
          have h88 := slRep.st k_Candidate_pos h88 crf (show ∀ b, b < w208.heap.size → ¬ (un (inBlk (Value.pointer (some ⟨p114, 0, none⟩))) nb) b → ¬ nb b ∧ ¬ nb b from fun b _ hs => ⟨fun x => x, fun h => hs (False.elim h)⟩)
          have h113 := slRep.st kStr_pos h113 crf (show ∀ b, b < w208.heap.size → ¬ (un (inBlk (Value.pointer (some ⟨p114, 0, none⟩))) nb) b → ¬ nb b ∧ ¬ nb b from fun b _ hs => ⟨fun x => x, fun h => hs (False.elim h)⟩)
          have c207 := c207.then0 crf
          have hLn := runBO_next hL91 hq94 hb95
          exact ⟨rest105.length, Nat.lt_succ_self _, [(0, av0), (3, (Value.pointer (some ⟨p1, 0, none⟩))), (5, (Value.bool x25)), (8, v87), (46, v87), (47, (Value.int .i64 ((y85.length : Nat) : Int))), (48, (Value.int .i64 ((i90 + 1 : Nat) : Int)))], ⟨rfl, rfl, rfl, rfl, rfl, rfl, rfl, trivial⟩, ⟨rest105, i90 + 1, rfl, rfl, c207, hat92.next, hLn, ah0, k4, h88, gp1⟩⟩
      ·
       obtain rfl := hat92.nil q104
       have hLf : Lp.fin () = o96 := runBO_done hL91
       refine CW.exit (thn_exit (thn_exit (inB_hit ?_)))
       exact ⟨(), ⟨rfl, rfl, trivial⟩, c101, hLf, ah0, k4, h88, gp1⟩
     ·
      rintro _ w215 ⟨_, hE216, c214, f217, ah0, k4, h88, gp1⟩
      have hS := finS f217 hS
      refine thn_n (CW.sub [(5, (Value.bool x25)), (8, v87)] hE216 ?_)
      refine CW.seq (CW.region ?_)
      refine rl_move rfl rfl ?_
      refine rl_not rfl rfl ?_
      refine rl_move rfl rfl ?_
      obtain ⟨b221, hb222⟩ : ∃ v, ((!x25) || (decide (((y85.length : Nat) : Int) > 0))) = v := ⟨_, rfl⟩
      have hS := ltS hb222 hS
      refine RL.join 4 103 (.bool b221) (fun w' => Ch nb w215 w') ?_ ?_
      · rcases Bool.eq_false_or_eq_true (!x25) with hg220 | hg220
        ·
         have hs219 := or_t hg220 hb222
         have cs : Ch nb w215 w215 := Ch.refl
         refine RL.no rfl rfl rfl hg220 rfl rfl ?_
         refine RL.no rfl rfl rfl hg220 rfl rfl ?_
         refine RL.no rfl rfl rfl hg220 rfl rfl ?_
         refine rl_pickT rfl hg220 rfl rfl ?_
         exact RL.nil ⟨Ext.bothEq (congrArg Value.bool hs219) (Ext.skip rfl (Ext.skip rfl (Ext.skip rfl (Ext.rfl')))), cs⟩
        ·
         have hs219 := or_f hg220 hb222
         have cs : Ch nb w215 w215 := Ch.refl
         refine RL.yes rfl rfl rfl hg220 ?_
         refine rl_move rfl rfl ?_
         refine RL.yes rfl rfl rfl hg220 ?_
         refine rl_lenR rfl h88 Try.underlying22 rfl ?_
         refine RL.yes rfl rfl rfl hg220 ?_
         refine rl_bin rfl rfl B.gtr rfl ?_
         refine rl_pickF rfl hg220 rfl rfl ?_
         exact RL.nil ⟨Ext.bothEq (congrArg Value.bool hs219) (Ext.skip rfl (Ext.skip rfl (Ext.skip rfl (Ext.rfl')))), cs⟩
      intro w223 c224
      have ah0 := slRep.ch k_Candidate_pos ah0 c224
      have k4 := k4.ch0 c224
      have h88 := slRep.ch k_Candidate_pos h88 c224
      have c214 := c214.then0 c224
      refine rl_assign rfl rfl ?_
      refine RL.nil ?_
      refine thn_n ?_
      refine CW.ret ?_
      obtain rfl := Option.some.inj hS
      exact ret1 rfl ⟨rfl, c214⟩
end Go.Proofs.Yteoaobiglodblaa
