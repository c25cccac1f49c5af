/- The walks through the code: each call comes to its printed function. Written by a program of this session. -/
import Derived.Test.YteoaobiglodblaaM
import Derived.Test.YteoaobiglodblaaL
namespace Go.Proofs.Yteoaobiglodblaa
open Go K
set_option linter.unusedVariables false
/-- slices.Clone[[]lb/hints.Candidate,lb/hints.Candidate] -/
theorem ctr42 (F : Nat → Prop) (w : World) (a0 : (List Candidate)) (av0 : Value) (ah0 : slRep k_Candidate F w a0 av0) (r : (List Candidate)) (hs : F42_slices_Clone_hints_Candidate_hints_Candi a0 = some r) :
    Ret Try.prog 42 #[av0] w fun v w' => ∃ (y0 : Value), v = y0 ∧ SlO k_Candidate 44 F w.heap.size (inBlk y0) w' r y0 ∧ Ch nb w w' := by
  have hS := hs
  have c0 : Ch nb w w := Ch.refl
  have ah0 := slRep.enter k_Candidate_pos ah0
  refine Ret.of (n := 8) (args := [_]) (rs := [.tmp 2]) Try.func42 rfl rfl rfl rfl ?_
  refine CW.seq (CW.region ?_)
  refine rl_assign rfl rfl ?_
  refine RL.nil ?_
  refine thn_n ?_
  refine CW.seq ?_
  refine CW.seq (CW.region ?_)
  refine rl_move rfl rfl ?_
  refine rl_slNil rfl ah0 Try.underlying22 rfl ?_
  intro b1 n2
  refine RL.nil ?_
  refine thn_n ?_
  refine CW.cond (t := b1) rfl (fun q3 => ?_) (fun q3 => ?_)
  ·
   obtain ⟨rfl, rfl⟩ := n2 q3
   refine CW.seq (CW.region ?_)
   refine rl_assign rfl rfl ?_
   refine RL.nil ?_
   refine thn_n ?_
   refine CW.ret ?_
   refine thn_ret ?_
   obtain rfl := Option.some.inj hS
   exact ret1 rfl ⟨(Value.slice none 0 0), rfl, SlO.nil, c0⟩
  ·
   refine CW.skip ?_
   refine thn_n ?_
   refine CW.seq (CW.region ?_)
   refine rl_bslice (k := k_Candidate) (F := F) (B := w.heap.size) (S := nb) ([] : List Candidate) rfl k_Candidate_pos Try.underlying22 Try.sizeOf44 Try.zeroValue44 rfl rfl trivial c0.size nbS rfl ?_
   intro v4 w5 c6 hf7 h8
   have ah0 := slRep.st k_Candidate_pos ah0 c6 (admNew hf7 (fun _ x => x))
   have c0 := c0.then0 c6
   refine rl_move rfl rfl ?_
   obtain ⟨z17, hz18, hS⟩ := bindS hS
   have hl := (apO_get hz18).1
   refine rl_append (k := k_Candidate) (T := 44) (F := F) (B := w.heap.size) (S := (un (inBlk v4) nb)) (S2 := nb) (fun v => (un (inBlk v) nb)) rfl rfl k_Candidate_pos ap22 h8 ah0 (fun _ => Iff.rfl) (fun _ _ => Iff.rfl) hl c0.size (un_lt (fun b hb => (h8.lt b hb).2) nbS) rfl ?_
   intro v11 w12 h13 c14 hf15 ha16
   have ah0 := slRep.st k_Candidate_pos ah0 c14 ha16
   have c0 := c0.then c14 (fun i hi h => absurd ((fun b hb => (h8.lt b hb).1) i h) (Nat.not_le_of_lt hi))
   refine rl_assign rfl rfl ?_
   refine RL.nil ?_
   refine thn_n ?_
   refine CW.ret ?_
   obtain rfl := Option.some.inj hS
   exact ret1 rfl ⟨v11, rfl, h13.out, c0⟩
/-- lb/pick.those$1 -/
theorem ctr43 (F : Nat → Prop) (w : World) (a0 : Candidate) (az0_0 : Value) (ah0_0 : slRep kStr F w a0.zones az0_0) (a1 : (Candidate → Bool)) (av1 : Value) (ah1 : ((Kd.fn1 Try.prog true k_Candidate Value.bool).box 61).rep F w a1 [av1]) (r : Bool) (hs : F43_pick_those_1 a0 a1 = r) :
    Ret Try.prog 43 #[(Value.agg (Candidate.c a0 az0_0).toArray), av1] w fun v w' => v = (Value.bool r) ∧ Ch nb w w' := by
  have hS := hs
  have c0 : Ch nb w w := Ch.refl
  have ah0_0 := slRep.enter kStr_pos ah0_0
  have ah1 := Kd.enter ah1
  refine Ret.of (n := 8) (args := [_, _]) (rs := [.tmp 3]) Try.func43 rfl rfl rfl rfl ?_
  refine CW.seq (CW.region ?_)
  refine rl_boxA (cs := (Candidate.c a0 az0_0)) rfl rfl ?_
  intro p1 w2 n3 k4
  have gp1 : (G F w.heap.size nb) p1 := ⟨.inr (by rw [n3.eq]; exact c0.size), fun h => absurd (nbS _ h) (by rw [n3.eq]; exact Nat.lt_irrefl _)⟩
  have ah0_0 := slRep.ch kStr_pos ah0_0 n3.ch
  have ah1 := Kd.ch ah1 n3.ch
  have c0 := c0.then0 n3.ch
  refine rl_assign rfl rfl ?_
  refine RL.nil ?_
  refine thn_n ?_
  refine CW.seq (CW.region ?_)
  obtain ⟨p5, cc6, e7, gf8, k9, h10⟩ := ah1
  obtain rfl := (List.cons.inj e7).1
  obtain ⟨u11, rfl⟩ : ∃ u, cc6 = [u] := List.length_eq_one_iff.1 (Kd.len _ h10)
  refine rl_loadS (v := u11) rfl Try.isAgg61 (k9.cell rfl) rfl ?_
  refine rl_loadA (cs := (Candidate.c a0 az0_0)) rfl Try.isAgg44 Try.sizeOf44 (k4.segAt 0 23) rfl rfl ?_
  refine rl_fn1 (c := (Candidate.c a0 az0_0)) rfl rfl rfl h10 (F' := (G F w.heap.size nb)) (xx := a0) (show k_Candidate.rep (G F w.heap.size nb) w2 a0 (Candidate.c a0 az0_0) from ⟨az0_0, rfl, ah0_0⟩) rfl ?_
  intro w12 c13
  have ah0_0 := slRep.ch kStr_pos ah0_0 c13
  have k4 := k4.ch0 c13
  have h10 := Kd.ch h10 c13
  have k9 := k9.ch0 c13
  have c0 := c0.then0 c13
  refine rl_not rfl rfl ?_
  refine rl_assign rfl rfl ?_
  refine RL.nil ?_
  refine thn_n ?_
  refine CW.ret ?_
  obtain rfl := hS
  exact ret1 rfl ⟨rfl, c0⟩
/-- slices.IndexFunc[[]lb/hints.Candidate,lb/hints.Candidate] -/
theorem ctr44 (F : Nat → Prop) (w : World) (a0 : (List Candidate)) (av0 : Value) (ah0 : slRep k_Candidate F w a0 av0) (a1 : (Candidate → Bool)) (av1 : Value) (ah1 : (Kd.fn1 Try.prog true k_Candidate Value.bool).rep F w a1 [av1]) (r : Int) (hs : F44_slices_IndexFunc_hints_Candidate_hints_C a0 a1 = r) :
    Ret Try.prog 44 #[av0, av1] w fun v w' => v = (Value.int .i64 r) ∧ Ch nb w w' := by
  have hS := hs
  have c0 : Ch nb w w := Ch.refl
  have ah0 := slRep.enter k_Candidate_pos ah0
  have ah1 := Kd.enter ah1
  refine Ret.of (n := 19) (args := [_, _]) (rs := [.tmp 4]) Try.func44 rfl rfl rfl rfl ?_
  refine CW.seq (CW.region ?_)
  refine rl_assign rfl rfl ?_
  refine RL.nil ?_
  refine thn_n ?_
  refine CW.seq ?_
  refine CW.seq (CW.region ?_)
  refine rl_move rfl rfl ?_
  refine rl_lenR rfl ah0 Try.underlying22 rfl ?_
  refine rl_move rfl rfl ?_
  refine RL.nil ?_
  refine thn_n ?_
  obtain ⟨o8, ho9⟩ : ∃ o, runB (F44_slices_IndexFunc_hints_Candidate_hints_C_b1 a1) a0 0 = o := ⟨_, rfl⟩
  have hS := ltS ho9 hS
  refine CW.cutB (fun E' w' => ∃ (ix15 : Nat), Sub [] E' ∧ Ch nb w w' ∧ Lp.fin ix15 = o8 ∧ slRep k_Candidate (G F w.heap.size nb) w' a0 av0 ∧ (Kd.fn1 Try.prog true k_Candidate Value.bool).rep (G F w.heap.size nb) w' a1 [av1]) ?_ ?_
  ·
   refine CW.loopS [(0, av0), (1, av1), (7, (Value.int .i64 ((a0.length : Nat) : Int))), (8, (Value.int .i64 ((0 : Nat) : Int)))] ⟨rfl, rfl, rfl, rfl, trivial⟩ a0.length (fun m E w' => ∃ (rest1 : List Candidate) (i2 : Nat) , m = rest1.length ∧ E = [(0, av0), (1, av1), (7, (Value.int .i64 ((a0.length : Nat) : Int))), (8, (Value.int .i64 ((i2 : Nat) : Int)))] ∧ Ch nb w w' ∧ At a0 i2 rest1 ∧ runB (F44_slices_IndexFunc_hints_Candidate_hints_C_b1 a1) rest1 i2 = o8 ∧ slRep k_Candidate (G F w.heap.size nb) w' a0 av0 ∧ (Kd.fn1 Try.prog true k_Candidate Value.bool).rep (G F w.heap.size nb) w' a1 [av1])
       ⟨a0, 0, rfl, rfl, c0, At.start, ho9, ah0, ah1⟩ ?_
   rintro _ _ w14 ⟨rest1, i2, rfl, rfl, c13, hat4, hL3, ah0, ah1⟩
   refine CW.seq (CW.region ?_)
   refine rl_bin rfl rfl B.lss rfl ?_
   refine RL.nil (thn_n ?_)
   refine CW.seq ?_
   refine CW.cond (t := decide (((i2 : Nat) : Int) < ((a0.length : Nat) : Int))) rfl (fun q16 => ?_) (fun q16 => ?_)
   ·
    obtain ⟨x10, rest17, rfl⟩ := hat4.cons q16
    obtain ⟨q5, hq6⟩ : ∃ q, (F44_slices_IndexFunc_hints_Candidate_hints_C_b1 a1) x10 i2 = q := ⟨_, rfl⟩
    have hb7 := hq6
    refine CW.skip (thn_n ?_)
    refine CW.seq ?_
    refine CW.block ?_
    refine CW.seq (CW.region ?_)
    refine rl_move rfl rfl ?_
    refine rl_assign rfl rfl ?_
    refine RL.nil ?_
    refine thn_n ?_
    refine CW.seq (CW.region ?_)
    refine rl_move rfl rfl ?_
    refine rl_move rfl rfl ?_
    refine rl_move rfl rfl ?_
    refine rl_ixR rfl ah0 rfl hat4.get Try.underlying22 Try.sizeOf44 rfl ?_
    intro p18 o19 cs20 hr21 hs22 hg23
    obtain ⟨z24, rfl, h25⟩ := hr21
    refine rl_loadA (cs := (Candidate.c x10 z24)) rfl Try.isAgg44 Try.sizeOf44 (hs22) rfl rfl ?_
    refine rl_fn1 (c := (Candidate.c x10 z24)) rfl rfl rfl ah1 (F' := (G F w.heap.size nb)) (xx := x10) (show k_Candidate.rep (G F w.heap.size nb) w14 x10 (Candidate.c x10 z24) from ⟨z24, rfl, h25⟩) rfl ?_
    intro w26 c27
    have ah0 := slRep.ch k_Candidate_pos ah0 c27
    have ah1 := Kd.ch ah1 c27
    have h25 := slRep.ch kStr_pos h25 c27
    have hs22 := hs22.ch0 c27
    have c13 := c13.then0 c27
    refine RL.nil ?_
    refine thn_n ?_
    refine CW.cond (t := a1 x10) rfl (fun q28 => ?_) (fun q28 => ?_)
    ·
     have hb7 := ifT q28 hb7
     refine CW.seq (CW.region ?_)
     refine rl_move rfl rfl ?_
     refine rl_assign rfl rfl ?_
     refine RL.nil ?_
     refine thn_n ?_
     refine CW.ret ?_
     refine inB_ret ?_
     refine thn_ret ?_
     refine thn_ret (inB_ret (thn_ret ?_))
     refine thn_ret ?_
     have f29 := runB_ret hL3 (hb7.trans hq6.symm)
     have hS := retS f29 hS
     obtain rfl := hS
     exact ret1 rfl ⟨rfl, c13⟩
    ·
     have hb7 := ifF q28 hb7
     refine CW.skip ?_
     refine inB_n ?_
     refine thn_n ?_
     refine CW.region ?_
     refine rl_inc rfl hat4.lt ah0.big rfl ?_
     refine rl_move rfl rfl ?_
     refine RL.nil ?_
     refine thn_n ?_
     have hLn := runB_next hL3 (hb7.trans hq6.symm)
     exact ⟨rest17.length, Nat.lt_succ_self _, [(0, av0), (1, av1), (7, (Value.int .i64 ((a0.length : Nat) : Int))), (8, (Value.int .i64 ((i2 + 1 : Nat) : Int)))], ⟨rfl, rfl, rfl, rfl, trivial⟩, ⟨rest17, i2 + 1, rfl, rfl, c13, hat4.next, hLn, ah0, ah1⟩⟩
   ·
    obtain rfl := hat4.nil q16
    have hLf : Lp.fin i2 = o8 := hL3
    refine CW.exit (thn_exit (thn_exit (inB_hit ?_)))
    exact ⟨i2, trivial, c13, hLf, ah0, ah1⟩
  ·
   rintro _ w31 ⟨ix15, hE32, c30, f33, ah0, ah1⟩
   have hS := finS f33 hS
   refine thn_n (CW.sub [] hE32 ?_)
   refine CW.seq (CW.region ?_)
   refine rl_assign rfl rfl ?_
   refine RL.nil ?_
   refine thn_n ?_
   refine CW.ret ?_
   obtain rfl := hS
   exact ret1 rfl ⟨rfl, c30⟩
/-- slices.DeleteFunc[[]lb/hints.Candidate,lb/hints.Candidate] -/
theorem ctr41 (F : Nat → Prop) (w : World) (Bb : Nat) (S2 : Nat → Prop) (hB : Bb ≤ w.heap.size) (h2 : ∀ b, S2 b → b < w.heap.size) (av0 : Value) (hd2 : ∀ b, (inBlk av0) b → ¬ S2 b) (a0 : (List Candidate)) (ah0 : SlO k_Candidate 44 F Bb (un (inBlk av0) S2) w a0 av0) (a1 : (Candidate → Bool)) (av1 : Value) (ah1 : (Kd.fn1 Try.prog true k_Candidate Value.bool).rep (G F Bb (un (inBlk av0) S2)) w a1 [av1]) (r : (List Candidate)) (hs : F41_slices_DeleteFunc_hints_Candidate_hints_ a0 a1 = some r) :
    Ret Try.prog 41 #[av0, av1] w fun v w' => ∃ (y0 : Value), v = y0 ∧ SlO k_Candidate 44 F Bb (un (inBlk y0) S2) w' r y0 ∧ (∀ b, inBlk y0 b → inBlk av0 b ∨ w.heap.size ≤ b) ∧ Ch (inBlk av0) w w' := by
  have hS := hs
  have c0 : Ch (inBlk av0) w w := Ch.refl
  have lin0_0 : ∀ b, inBlk av0 b → (inBlk av0) b ∨ w.heap.size ≤ b := fun b h => .inl h
  refine Ret.of (n := 42) (args := [_, _]) (rs := [.tmp 4]) Try.func41 rfl rfl rfl rfl ?_
  refine CW.seq (CW.region ?_)
  refine rl_assign rfl rfl ?_
  refine RL.nil ?_
  refine thn_n ?_
  refine CW.seq (CW.region ?_)
  refine rl_move rfl rfl ?_
  refine rl_move rfl rfl ?_
  obtain ⟨y3, hy4⟩ : ∃ y, F44_slices_IndexFunc_hints_Candidate_hints_C a0 a1 = y := ⟨_, rfl⟩
  have hS := ltS hy4 hS
  refine rl_callF rfl en44 rfl (ctr44 (G F Bb S2) w a0 av0 (SlO.read (S' := S2) k_Candidate_pos ah0 (fun b hs h => hs ((.inr h))) (fun b hb => linNot lin0_0 hd2 h2 b hb)) a1 av1 (Kd.wk ah1 (fun b _ hf => ⟨hf.1, fun h => hf.2 ((.inr h))⟩)) y3 hy4) ?_
  rintro _ w1 ⟨rfl, c2⟩
  have ah0 := ah0.ch0 c2
  have ah1 := Kd.ch ah1 c2
  have c0 := c0.then0 c2
  refine rl_assign rfl rfl ?_
  refine RL.nil ?_
  refine thn_n ?_
  refine CW.seq ?_
  refine CW.seq (CW.region ?_)
  refine rl_move rfl rfl ?_
  refine rl_bin rfl rfl B.eql rfl ?_
  refine RL.nil ?_
  refine thn_n ?_
  refine CW.cond (t := decide (y3 = (-1))) rfl (fun q5 => ?_) (fun q5 => ?_)
  ·
   have hS := ifT q5 hS
   refine CW.seq (CW.region ?_)
   refine rl_move rfl rfl ?_
   refine rl_assign rfl rfl ?_
   refine RL.nil ?_
   refine thn_n ?_
   refine CW.ret ?_
   refine thn_ret ?_
   obtain rfl := Option.some.inj hS
   exact ret1 rfl ⟨av0, rfl, ah0, lin0_0, c0⟩
  ·
   have hS := ifF q5 hS
   refine CW.skip ?_
   refine thn_n ?_
   refine CW.seq ?_
   refine CW.seq (CW.region ?_)
   refine rl_move rfl rfl ?_
   refine rl_bin rfl rfl B.add rfl ?_
   refine rl_assign rfl rfl ?_
   refine RL.nil ?_
   refine thn_n ?_
   obtain ⟨o17, ho18, hS⟩ := bindS hS
   refine CW.cutB (fun E' w' => ∃ (x6 : Int) (x7 : Int) (x8 : (List Candidate)), Sub [(0, av0), (5, (Value.int .i64 x6))] E' ∧ Ch (inBlk av0) w w' ∧ Lp.fin (x6, x7, x8) = o17 ∧ (Kd.fn1 Try.prog true k_Candidate Value.bool).rep (G F Bb (un (inBlk av0) S2)) w' a1 [av1] ∧ SlO k_Candidate 44 F Bb (un (inBlk av0) S2) w' x8 av0) ?_ ?_
   ·
    refine CW.loopS [(0, av0), (1, av1), (5, (Value.int .i64 y3)), (6, (Value.int .i64 (IntKind.i64.wrap (y3 + 1))))] ⟨rfl, rfl, rfl, rfl, trivial⟩ FUEL (fun m E w' => ∃ (x6 : Int) (x7 : Int) (x8 : (List Candidate)), E = [(0, av0), (1, av1), (5, (Value.int .i64 x6)), (6, (Value.int .i64 x7))] ∧ Ch (inBlk av0) w w' ∧ runW (F41_slices_DeleteFunc_hints_Candidate_hints__b1 a1) m (x6, x7, x8) = some o17 ∧ (Kd.fn1 Try.prog true k_Candidate Value.bool).rep (G F Bb (un (inBlk av0) S2)) w' a1 [av1] ∧ SlO k_Candidate 44 F Bb (un (inBlk av0) S2) w' x8 av0)
        ⟨y3, IntKind.i64.wrap (y3 + 1), a0, rfl, c0, ho18, ah1, ah0⟩ ?_
    rintro _ _ w23 ⟨x6, x7, x8, rfl, c22, hL12, ah1, h9⟩
    obtain ⟨k21, q14, rfl, hq15⟩ := runW_some hL12
    have hb16 := hq15
    refine CW.seq ?_
    refine CW.seq (CW.region ?_)
    refine rl_move rfl rfl ?_
    refine rl_move rfl rfl ?_
    refine rl_lenR rfl (SlO.read (S' := S2) k_Candidate_pos h9 (fun b hs h => hs ((.inr h))) (fun b hb => linNot lin0_0 hd2 h2 b hb)) Try.underlying22 rfl ?_
    refine rl_bin rfl rfl B.lss rfl ?_
    refine RL.nil ?_
    refine thn_n ?_
    refine CW.cond (t := decide (x7 < ((x8.length : Nat) : Int))) rfl (fun q25 => ?_) (fun q25 => ?_)
    ·
     have hb16 := ifT q25 hb16
     refine CW.skip ?_
     refine thn_n ?_
     refine CW.seq ?_
     refine CW.block ?_
     refine CW.seq (CW.region ?_)
     refine rl_move rfl rfl ?_
     refine rl_move rfl rfl ?_
     obtain ⟨y32, hy33, hb16⟩ := bindS hb16
     refine rl_ixOR rfl h9 rfl (ixO_get hy33) k_Candidate_pos Try.underlying22 Try.sizeOf44 rfl ?_
     intro p26 o27 cs28 hr29 hs30 hg31
     obtain ⟨z34, rfl, h35⟩ := hr29
     refine rl_loadA (cs := (Candidate.c y32 z34)) rfl Try.isAgg44 Try.sizeOf44 (hs30) rfl rfl ?_
     refine rl_alloc (Candidate.c Candidate.z (Value.slice none 0 0)) Try.zeroValue44 rfl rfl ?_
     intro p36 w37 n38 k39
     have lo40 : ∀ b, inBlk (Value.pointer (some ⟨p36, 0, none⟩)) b → w.heap.size ≤ b := fun b h => Nat.le_trans c22.size (n38.fresh b h)
     have d41 : ∀ b, inBlk (Value.pointer (some ⟨p36, 0, none⟩)) b → ¬ inBlk av0 b := disNew n38.fresh (fun b hb => (h9.lt b hb).2)
     have ah1 := Kd.st ah1 n38.ch (admNew n38.fresh (fun _ x => x))
     have h9 := h9.st n38.ch (fun _ _ x => x) (admNew n38.fresh (fun _ x => x)) (fun b h => (.inr (.inl h)))
     have h35 := slRep.st kStr_pos h35 n38.ch (admNew n38.fresh (fun _ x => x))
     have c22 := c22.then0 n38.ch
     refine rl_storeA (vs := (Candidate.c y32 z34)) rfl rfl (Kd.one _ (show k_Candidate.rep (G F Bb (un (inBlk (Value.pointer (some ⟨p36, 0, none⟩))) (un (inBlk av0) S2))) w37 y32 (Candidate.c y32 z34) from ⟨z34, rfl, h35⟩)) Try.sizeOf44 rfl k39 rfl ?_
     intro w42 s44 c43 k45
     have ad46 : ∀ b, b < w37.heap.size → ¬ (un (inBlk (Value.pointer (some ⟨p36, 0, none⟩))) (un (inBlk av0) S2)) b → ¬ (inBlk (Value.pointer (some ⟨p36, 0, none⟩))) b ∧ ¬ (un (inBlk (Value.pointer (some ⟨p36, 0, none⟩))) (un (inBlk av0) S2)) b := fun b _ hs => ⟨fun h => hs (.inl h), hs⟩
     have ah1 := Kd.st ah1 c43 ad46
     have h9 := h9.st c43 (fun b hb h => (disSym d41) b hb h) ad46 (fun b h => (.inr (.inl h)))
     have h35 := slRep.st kStr_pos h35 c43 ad46
     have c22 := c22.then c43 (fun i hi h => absurd (lo40 i h) (Nat.not_le_of_lt hi))
     refine RL.nil ?_
     refine thn_n ?_
     refine CW.seq (CW.region ?_)
     refine rl_move rfl rfl ?_
     refine rl_loadA (cs := (Candidate.c y32 z34)) rfl Try.isAgg44 Try.sizeOf44 (k45.segAt 0 23) rfl rfl ?_
     refine rl_fn1 (c := (Candidate.c y32 z34)) rfl rfl rfl ah1 (F' := (G F Bb (un (inBlk (Value.pointer (some ⟨p36, 0, none⟩))) (un (inBlk av0) S2)))) (xx := y32) (show k_Candidate.rep (G F Bb (un (inBlk (Value.pointer (some ⟨p36, 0, none⟩))) (un (inBlk av0) S2))) w42 y32 (Candidate.c y32 z34) from ⟨z34, rfl, h35⟩) rfl ?_
     intro w47 c48
     have ah1 := Kd.ch ah1 c48
     have h9 := h9.ch0 c48
     have h35 := slRep.ch kStr_pos h35 c48
     have k45 := k45.ch0 c48
     have c22 := c22.then0 c48
     refine rl_not rfl rfl ?_
     refine RL.nil ?_
     refine thn_n ?_
     refine CW.cond (t := !(a1 y32)) rfl (fun q49 => ?_) (fun q49 => ?_)
     ·
      have hb16 := ifT q49 hb16
      refine CW.seq (CW.region ?_)
      refine rl_move rfl rfl ?_
      refine rl_move rfl rfl ?_
      refine rl_loadA (cs := (Candidate.c y32 z34)) rfl Try.isAgg44 Try.sizeOf44 (k45.segAt 0 23) rfl rfl ?_
      obtain ⟨y56, hy57, hb16⟩ := bindS hb16
      refine rl_ixO rfl h9 rfl (ixO_get hy57) Try.underlying22 Try.sizeOf44 rfl ?_
      intro p50 hg55
      refine rl_storeOA rfl rfl Try.sizeOf44 h9 hg55 (ixO_lt hy57) (show k_Candidate.rep (G F Bb (un (inBlk (Value.pointer (some ⟨p36, 0, none⟩))) (un (inBlk av0) S2))) w47 y32 (Candidate.c y32 z34) from ⟨z34, rfl, h35⟩) ?_
      intro w58 c59 h60
      have ad61 : ∀ b, b < w47.heap.size → ¬ (un (inBlk (Value.pointer (some ⟨p36, 0, none⟩))) (un (inBlk av0) S2)) b → ¬ (inBlk av0) b ∧ ¬ (un (inBlk (Value.pointer (some ⟨p36, 0, none⟩))) (un (inBlk av0) S2)) b := fun b _ hs => ⟨fun h => hs (.inr (.inl h)), hs⟩
      have ah1 := Kd.st ah1 c59 ad61
      have h35 := slRep.st kStr_pos h35 c59 ad61
      have k45 := k45.ch c59 ((fun b hb h => d41 b hb h) _ rfl)
      have c22 := c22.then c59 (fun i hi h => (lin0_0 i h).elim (fun x => x) (fun x => absurd x (Nat.not_le_of_lt hi)))
      refine RL.nil ?_
      refine thn_n ?_
      refine CW.region ?_
      refine rl_move rfl rfl ?_
      refine rl_bin rfl rfl B.add rfl ?_
      refine rl_assign rfl rfl ?_
      refine RL.nil ?_
      refine inB_n ?_
      refine thn_n ?_
      refine CW.region ?_
      refine rl_move rfl rfl ?_
      refine rl_bin rfl rfl B.add rfl ?_
      refine rl_assign rfl rfl ?_
      refine RL.nil ?_
      refine thn_n ?_
      have crf : Ch nb w58 w58 := Ch.refl
      have ah1 := Kd.st ah1 crf (show ∀ b, b < w58.heap.size → ¬ (un (inBlk (Value.pointer (some ⟨p36, 0, none⟩))) (un (inBlk av0) S2)) b → ¬ nb b ∧ ¬ (un (inBlk av0) S2) b from fun b _ hs => ⟨fun x => x, fun h => hs (un_el h (fun h => (.inr (.inl h))) (fun h => (.inr (.inr h))))⟩)
      have h35 := slRep.st kStr_pos h35 crf (show ∀ b, b < w58.heap.size → ¬ (un (inBlk (Value.pointer (some ⟨p36, 0, none⟩))) (un (inBlk av0) S2)) b → ¬ nb b ∧ ¬ (un (inBlk av0) S2) b from fun b _ hs => ⟨fun x => x, fun h => hs (un_el h (fun h => (.inr (.inl h))) (fun h => (.inr (.inr h))))⟩)
      have h60 := h60.st crf (fun _ _ x => x) (show ∀ b, b < w58.heap.size → ¬ (un (inBlk (Value.pointer (some ⟨p36, 0, none⟩))) (un (inBlk av0) S2)) b → ¬ nb b ∧ ¬ (un (inBlk av0) S2) b from fun b _ hs => ⟨fun x => x, fun h => hs (un_el h (fun h => (.inr (.inl h))) (fun h => (.inr (.inr h))))⟩) (fun b h => (.inl h))
      have c22 := c22.then0 crf
      have hLn := runW_next hL12 hq15 hb16
      exact ⟨k21, Nat.lt_succ_self _, [(0, av0), (1, av1), (5, (Value.int .i64 (IntKind.i64.wrap (x6 + 1)))), (6, (Value.int .i64 (IntKind.i64.wrap (x7 + 1))))], ⟨rfl, rfl, rfl, rfl, trivial⟩, ⟨IntKind.i64.wrap (x6 + 1), IntKind.i64.wrap (x7 + 1), x8.set x6.toNat y32, rfl, c22, hLn, ah1, h60⟩⟩
     ·
      have hb16 := ifF q49 hb16
      refine CW.skip ?_
      refine inB_n ?_
      refine thn_n ?_
      refine CW.region ?_
      refine rl_move rfl rfl ?_
      refine rl_bin rfl rfl B.add rfl ?_
      refine rl_assign rfl rfl ?_
      refine RL.nil ?_
      refine thn_n ?_
      have crf : Ch nb w47 w47 := Ch.refl
      have ah1 := Kd.st ah1 crf (show ∀ b, b < w47.heap.size → ¬ (un (inBlk (Value.pointer (some ⟨p36, 0, none⟩))) (un (inBlk av0) S2)) b → ¬ nb b ∧ ¬ (un (inBlk av0) S2) b from fun b _ hs => ⟨fun x => x, fun h => hs (un_el h (fun h => (.inr (.inl h))) (fun h => (.inr (.inr h))))⟩)
      have h9 := h9.st crf (fun _ _ x => x) (show ∀ b, b < w47.heap.size → ¬ (un (inBlk (Value.pointer (some ⟨p36, 0, none⟩))) (un (inBlk av0) S2)) b → ¬ nb b ∧ ¬ (un (inBlk av0) S2) b from fun b _ hs => ⟨fun x => x, fun h => hs (un_el h (fun h => (.inr (.inl h))) (fun h => (.inr (.inr h))))⟩) (fun b h => (.inl h))
      have h35 := slRep.st kStr_pos h35 crf (show ∀ b, b < w47.heap.size → ¬ (un (inBlk (Value.pointer (some ⟨p36, 0, none⟩))) (un (inBlk av0) S2)) b → ¬ nb b ∧ ¬ (un (inBlk av0) S2) b from fun b _ hs => ⟨fun x => x, fun h => hs (un_el h (fun h => (.inr (.inl h))) (fun h => (.inr (.inr h))))⟩)
      have c22 := c22.then0 crf
      have hLn := runW_next hL12 hq15 hb16
      exact ⟨k21, Nat.lt_succ_self _, [(0, av0), (1, av1), (5, (Value.int .i64 x6)), (6, (Value.int .i64 (IntKind.i64.wrap (x7 + 1))))], ⟨rfl, rfl, rfl, rfl, trivial⟩, ⟨x6, IntKind.i64.wrap (x7 + 1), x8, rfl, c22, hLn, ah1, h9⟩⟩
    ·
     have hb16 := ifF q25 hb16
     refine CW.exit ?_
     refine thn_exit ?_
     refine thn_exit ?_
     refine inB_hit ?_
     have hLf := runW_fin hL12 hq15 hb16
     exact ⟨x6, x7, x8, ⟨rfl, rfl, trivial⟩, c22, hLf, ah1, h9⟩
   ·
    rintro _ w63 ⟨x6, x7, x8, hE64, c62, f65, ah1, h9⟩
    have hS := finS f65 hS
    refine thn_n (CW.sub [(0, av0), (5, (Value.int .i64 x6))] hE64 ?_)
    refine CW.seq (CW.region ?_)
    refine rl_move rfl rfl ?_
    refine rl_move rfl rfl ?_
    obtain ⟨y67, hy68, hS⟩ := bindS hS
    refine rl_cutS rfl h9 rfl hy68 Try.underlying22 Try.sizeOf44 rfl ?_
    intro v69 h70
    refine rl_clearO (z0 := Candidate.z) rfl h70 (slO_le hy68) Try.underlying22 Try.zeroValue44 h9 (show k_Candidate.rep (G F Bb (un (inBlk av0) S2)) w63 Candidate.z (Candidate.c Candidate.z (Value.slice none 0 0)) from ⟨(Value.slice none 0 0), rfl, (.inl ⟨rfl, rfl⟩)⟩) ?_
    intro w71 c72 h73
    have ad74 : ∀ b, b < w63.heap.size → ¬ (un (inBlk av0) S2) b → ¬ (inBlk av0) b ∧ ¬ (un (inBlk av0) S2) b := fun b _ hs => ⟨fun h => hs (.inl h), hs⟩
    have ah1 := Kd.st ah1 c72 ad74
    have c62 := c62.then c72 (fun i hi h => (lin0_0 i h).elim (fun x => x) (fun x => absurd x (Nat.not_le_of_lt hi)))
    refine RL.nil ?_
    refine thn_n ?_
    refine CW.seq (CW.region ?_)
    refine rl_move rfl rfl ?_
    refine rl_move rfl rfl ?_
    obtain ⟨y75, hy76, hS⟩ := bindS hS
    refine rl_cutO (kl := .i64) (kh := .i64) none (some x6) rfl h73 trivial rfl rfl hy76 Try.underlying22 Try.sizeOf44 rfl ?_
    intro v77 hb79 h78
    have lin80 : ∀ b, inBlk v77 b → (inBlk av0) b ∨ w.heap.size ≤ b := linApp lin0_0 (fun b h => .inl ((hb79 b).1 h)) c62.size
    have hS81 : (un (inBlk av0) S2) = (un (inBlk v77) S2) := by rw [show inBlk v77 = inBlk av0 from funext fun b => propext (hb79 b)]
    rw [hS81] at h78 ah1
    refine rl_assign rfl rfl ?_
    refine RL.nil ?_
    refine thn_n ?_
    refine CW.ret ?_
    obtain rfl := Option.some.inj hS
    exact ret1 rfl ⟨v77, rfl, h78, lin80, c62⟩
/-- lb/pick.those -/
theorem ctr25 (F : Nat → Prop) (w : World) (a0 : (List Candidate)) (av0 : Value) (ah0 : slRep k_Candidate F w a0 av0) (a1 : (Candidate → Bool)) (av1 : Value) (ah1 : (Kd.fn1 Try.prog true k_Candidate Value.bool).rep F w a1 [av1]) (r : (List Candidate)) (hs : F25_pick_those a0 a1 = some r) :
    Ret Try.prog 25 #[av0, av1] w fun v w' => ∃ (y0 : Value), v = y0 ∧ SlO k_Candidate 44 F w.heap.size (inBlk y0) w' r y0 ∧ Ch nb w w' := by
  have hS := hs
  have c0 : Ch nb w w := Ch.refl
  have ah0 := slRep.enter k_Candidate_pos ah0
  have ah1 := Kd.enter ah1
  refine Ret.of (n := 9) (args := [_, _]) (rs := [.tmp 4]) Try.func25 rfl rfl rfl rfl ?_
  refine CW.seq (CW.region ?_)
  refine rl_box [av1] rfl (fn_cells1 ah1) rfl ?_
  intro p1 w2 n3 k4
  have gp1 : (G F w.heap.size nb) p1 := ⟨.inr (by rw [n3.eq]; exact c0.size), fun h => absurd (nbS _ h) (by rw [n3.eq]; exact Nat.lt_irrefl _)⟩
  have ah0 := slRep.ch k_Candidate_pos ah0 n3.ch
  have ah1 := Kd.ch ah1 n3.ch
  have c0 := c0.then0 n3.ch
  refine rl_assign rfl rfl ?_
  refine RL.nil ?_
  refine thn_n ?_
  refine CW.seq (CW.region ?_)
  refine rl_move rfl rfl ?_
  obtain ⟨y7, hy8, hS⟩ := bindS hS
  refine rl_callF rfl en42 rfl (ctr42 (G F w.heap.size nb) w2 a0 av0 ah0 y7 hy8) ?_
  rintro v9 w5 ⟨_, rfl, h10, c6⟩
  have hf11 : ∀ b, inBlk v9 b → w2.heap.size ≤ b := fun b hb => (h10.lt b hb).1
  have h10 := SlO.back (S' := un (inBlk v9) nb) h10 nbS c0.size (fun _ => Or.comm)
  have ah0 := slRep.st k_Candidate_pos ah0 c6 (admNew hf11 (fun _ x => x))
  have ah1 := Kd.st ah1 c6 (admNew hf11 (fun _ x => x))
  have gp1n : (G F w.heap.size (un (inBlk v9) nb)) p1 := ⟨gp1.1, ((admNew hf11 (fun _ x => x)) _ k4.lt gp1.2).2⟩
  have k4 := k4.ch0 c6
  have gp1 := gp1n
  have c0 := c0.then0 c6
  refine rl_makeFunc rfl rfl ?_
  have hd12 : ∀ b, (inBlk v9) b → ¬ nb b := fun b h => (fun b hb => fun h => h) b h
  have hS13 : (un (inBlk v9) nb) = (un (inBlk v9) nb) := rfl
  have ha14 := (show (Kd.fn1 Try.prog true k_Candidate Value.bool).rep (G F w.heap.size (un (inBlk v9) nb)) w5 (fun x0 => F43_pick_those_1 x0 a1) [(Value.func (.func 43) #[] [(Value.pointer (some ⟨p1, 0, none⟩))].toArray)] from ⟨43, [(Value.pointer (some ⟨p1, 0, none⟩))], rfl, en43, fun w' hw F' x0 c0 hx0 => by
      obtain ⟨u0_0, rfl, e0_0⟩ := hx0
      exact (ctr43 (fun b => (G F w.heap.size (un (inBlk v9) nb)) b ∨ F' b) w' x0 u0_0 (slRep.wk kStr_pos e0_0 fun _ _ h => .inr h) a1 (Value.pointer (some ⟨p1, 0, none⟩)) (Kd.mono _ (show ((Kd.fn1 Try.prog true k_Candidate Value.bool).box 61).rep (G F w.heap.size (un (inBlk v9) nb)) w5 a1 [(Value.pointer (some ⟨p1, 0, none⟩))] from ⟨p1, _, rfl, gp1, k4, ah1⟩) fun b hb hf => ⟨.inl hf, (hw b hb hf).2⟩) _ rfl).mono (by rintro v w'' ⟨rfl, c⟩; exact ⟨rfl, c⟩)⟩)
  rw [hS13] at ha14
  obtain ⟨y17, hy18, hS⟩ := bindS hS
  refine rl_callF rfl en41 rfl (ctr41 F w5 w.heap.size nb c0.size nbS v9 hd12  y7 (hS13 ▸ h10) (fun x0 => F43_pick_those_1 x0 a1) (Value.func (.func 43) #[] [(Value.pointer (some ⟨p1, 0, none⟩))].toArray) ha14 y17 hy18) ?_
  rintro v19 w15 ⟨_, rfl, h20, hf21, c16⟩
  have ha22 : ∀ b, b < w5.heap.size → ¬ (un (inBlk v9) nb) b → ¬ inBlk v9 b ∧ ¬ (un (inBlk v19) nb) b := by rw [hS13]; exact admApp hf21
  have ah0 := slRep.st k_Candidate_pos ah0 c16 ha22
  have ah1 := Kd.st ah1 c16 ha22
  have gp1n : (G F w.heap.size (un (inBlk v19) nb)) p1 := ⟨gp1.1, (ha22 _ k4.lt gp1.2).2⟩
  have k4 := k4.ch c16 (ha22 _ k4.lt gp1.2).1
  have gp1 := gp1n
  have c0 := c0.then c16 (fun i hi h => absurd ((fun b hb => (h10.lt b hb).1) i h) (Nat.not_le_of_lt hi))
  refine rl_assign rfl rfl ?_
  refine RL.nil ?_
  refine thn_n ?_
  refine CW.ret ?_
  obtain rfl := Option.some.inj hS
  exact ret1 rfl ⟨v19, rfl, h20.out, c0⟩
/-- lb/pick.ready -/
theorem ctr26 (F : Nat → Prop) (w : World) (a0 : Candidate) (az0_0 : Value) (ah0_0 : slRep kStr F w a0.zones az0_0) (r : Bool) (hs : F26_pick_ready a0 = r) :
    Ret Try.prog 26 #[(Value.agg (Candidate.c a0 az0_0).toArray)] w fun v w' => v = (Value.bool r) ∧ Ch nb w w' := by
  have hS := hs
  have c0 : Ch nb w w := Ch.refl
  have ah0_0 := slRep.enter kStr_pos ah0_0
  refine Ret.of (n := 5) (args := [_]) (rs := [.tmp 2]) Try.func26 rfl rfl rfl rfl ?_
  refine CW.seq (CW.region ?_)
  refine rl_boxA (cs := (Candidate.c a0 az0_0)) rfl rfl ?_
  intro p1 w2 n3 k4
  have gp1 : (G F w.heap.size nb) p1 := ⟨.inr (by rw [n3.eq]; exact c0.size), fun h => absurd (nbS _ h) (by rw [n3.eq]; exact Nat.lt_irrefl _)⟩
  have ah0_0 := slRep.ch kStr_pos ah0_0 n3.ch
  have c0 := c0.then0 n3.ch
  refine rl_assign rfl rfl ?_
  refine RL.nil ?_
  refine thn_n ?_
  refine CW.seq (CW.region ?_)
  refine rl_fieldAddr rfl fa44_2 rfl ?_
  refine rl_loadS (v := (Value.bool a0.ready)) rfl Try.isAgg4 (k4.cell rfl) rfl ?_
  refine rl_assign rfl rfl ?_
  refine RL.nil ?_
  refine thn_n ?_
  refine CW.ret ?_
  obtain rfl := hS
  exact ret1 rfl ⟨rfl, c0⟩
/-- lb/pick.leaving -/
theorem ctr27 (F : Nat → Prop) (w : World) (a0 : Candidate) (az0_0 : Value) (ah0_0 : slRep kStr F w a0.zones az0_0) (r : Bool) (hs : F27_pick_leaving a0 = r) :
    Ret Try.prog 27 #[(Value.agg (Candidate.c a0 az0_0).toArray)] w fun v w' => v = (Value.bool r) ∧ Ch nb w w' := by
  have hS := hs
  have c0 : Ch nb w w := Ch.refl
  have ah0_0 := slRep.enter kStr_pos ah0_0
  refine Ret.of (n := 9) (args := [_]) (rs := [.tmp 2]) Try.func27 rfl rfl rfl rfl ?_
  refine CW.seq (CW.region ?_)
  refine rl_boxA (cs := (Candidate.c a0 az0_0)) rfl rfl ?_
  intro p1 w2 n3 k4
  have gp1 : (G F w.heap.size nb) p1 := ⟨.inr (by rw [n3.eq]; exact c0.size), fun h => absurd (nbS _ h) (by rw [n3.eq]; exact Nat.lt_irrefl _)⟩
  have ah0_0 := slRep.ch kStr_pos ah0_0 n3.ch
  have c0 := c0.then0 n3.ch
  refine rl_assign rfl rfl ?_
  refine RL.nil ?_
  refine thn_n ?_
  refine CW.seq (CW.region ?_)
  refine rl_fieldAddr rfl fa44_3 rfl ?_
  refine rl_loadS (v := (Value.bool a0.serving)) rfl Try.isAgg4 (k4.cell rfl) rfl ?_
  refine rl_move rfl rfl ?_
  obtain ⟨b7, hb8⟩ : ∃ v, (a0.serving && a0.terminating) = v := ⟨_, rfl⟩
  have hS := ltS hb8 hS
  refine RL.join 3 8 (.bool b7) (fun w' => Ch nb w2 w') ?_ ?_
  · rcases Bool.eq_false_or_eq_true a0.serving with hg6 | hg6
    ·
     have hs5 := and_t hg6 hb8
     have cs : Ch nb w2 w2 := Ch.refl
     refine RL.yes rfl rfl rfl hg6 ?_
     refine rl_fieldAddr rfl fa44_4 rfl ?_
     refine RL.yes rfl rfl rfl hg6 ?_
     refine rl_loadS (v := (Value.bool a0.terminating)) rfl Try.isAgg4 (k4.cell rfl) rfl ?_
     refine rl_pickT rfl hg6 rfl rfl ?_
     exact RL.nil ⟨Ext.bothEq (congrArg Value.bool hs5) (Ext.skip rfl (Ext.skip rfl (Ext.rfl'))), cs⟩
    ·
     have hs5 := and_f hg6 hb8
     have cs : Ch nb w2 w2 := Ch.refl
     refine RL.no rfl rfl rfl hg6 rfl rfl ?_
     refine RL.no rfl rfl rfl hg6 rfl rfl ?_
     refine rl_pickF rfl hg6 rfl rfl ?_
     exact RL.nil ⟨Ext.bothEq (congrArg Value.bool hs5) (Ext.skip rfl (Ext.skip rfl (Ext.rfl'))), cs⟩
  intro w9 c10
  have ah0_0 := slRep.ch kStr_pos ah0_0 c10
  have k4 := k4.ch0 c10
  have c0 := c0.then0 c10
  refine rl_assign rfl rfl ?_
  refine RL.nil ?_
  refine thn_n ?_
  refine CW.ret ?_
  obtain rfl := hS
  exact ret1 rfl ⟨rfl, c0⟩
/-- lb/pick.Usable -/
theorem ctr11 (F : Nat → Prop) (w : World) (a0 : (List Candidate)) (av0 : Value) (ah0 : slRep k_Candidate F w a0 av0) (r : (List Candidate)) (hs : F11_pick_Usable a0 = some r) :
    Ret Try.prog 11 #[av0] w fun v w' => ∃ (y0 : Value), v = y0 ∧ SlO k_Candidate 44 F w.heap.size (inBlk y0) w' r y0 ∧ Ch nb w w' := by
  have hS := hs
  have c0 : Ch nb w w := Ch.refl
  have ah0 := slRep.enter k_Candidate_pos ah0
  refine Ret.of (n := 12) (args := [_]) (rs := [.tmp 2]) Try.func11 rfl rfl rfl rfl ?_
  refine CW.seq (CW.region ?_)
  refine rl_assign rfl rfl ?_
  refine RL.nil ?_
  refine thn_n ?_
  refine CW.seq ?_
  refine CW.seq (CW.region ?_)
  refine rl_move rfl rfl ?_
  obtain ⟨y3, hy4, hS⟩ := bindS hS
  refine rl_callF rfl en25 rfl (ctr25 (G F w.heap.size nb) w a0 av0 ah0 (fun x0 => F26_pick_ready x0) (Value.func (.func 26) #[] [].toArray) (show (Kd.fn1 Try.prog true k_Candidate Value.bool).rep (G F w.heap.size nb) w (fun x0 => F26_pick_ready x0) [(Value.func (.func 26) #[] [].toArray)] from ⟨26, [], rfl, en26, fun w' hw F' x0 c0 hx0 => by
      obtain ⟨u0_0, rfl, e0_0⟩ := hx0
      exact (ctr26 (fun b => (G F w.heap.size nb) b ∨ F' b) w' x0 u0_0 (slRep.wk kStr_pos e0_0 fun _ _ h => .inr h) _ rfl).mono (by rintro v w'' ⟨rfl, c⟩; exact ⟨rfl, c⟩)⟩) y3 hy4) ?_
  rintro v5 w1 ⟨_, rfl, h6, c2⟩
  have hf7 : ∀ b, inBlk v5 b → w.heap.size ≤ b := fun b hb => (h6.lt b hb).1
  have h6 := SlO.back (S' := un (inBlk v5) nb) h6 nbS c0.size (fun _ => Or.comm)
  have ah0 := slRep.st k_Candidate_pos ah0 c2 (admNew hf7 (fun _ x => x))
  have c0 := c0.then0 c2
  refine rl_assign rfl rfl ?_
  refine RL.nil ?_
  refine thn_n ?_
  refine CW.seq (CW.region ?_)
  refine rl_move rfl rfl ?_
  refine rl_lenR rfl (SlO.read (S' := nb) k_Candidate_pos h6 (fun b hs h => hs (False.elim h)) (fun b hb => fun h => h)) Try.underlying22 rfl ?_
  refine rl_bin rfl rfl B.gtr rfl ?_
  refine RL.nil ?_
  refine thn_n ?_
  refine CW.cond (t := decide (((y3.length : Nat) : Int) > 0)) rfl (fun q8 => ?_) (fun q8 => ?_)
  ·
   have hS := ifT q8 hS
   refine CW.seq (CW.region ?_)
   refine rl_move rfl rfl ?_
   refine rl_assign rfl rfl ?_
   refine RL.nil ?_
   refine thn_n ?_
   refine CW.ret ?_
   refine thn_ret ?_
   obtain rfl := Option.some.inj hS
   exact ret1 rfl ⟨v5, rfl, h6.out, c0⟩
  ·
   have hS := ifF q8 hS
   refine CW.skip ?_
   refine thn_n ?_
   refine CW.seq (CW.region ?_)
   refine rl_move rfl rfl ?_
   obtain ⟨y11, hy12, hS⟩ := bindS hS
   refine rl_callF rfl en25 rfl (ctr25 (G F w.heap.size (un (inBlk v5) nb)) w1 a0 av0 ah0 (fun x0 => F27_pick_leaving x0) (Value.func (.func 27) #[] [].toArray) (show (Kd.fn1 Try.prog true k_Candidate Value.bool).rep (G F w.heap.size (un (inBlk v5) nb)) w1 (fun x0 => F27_pick_leaving x0) [(Value.func (.func 27) #[] [].toArray)] from ⟨27, [], rfl, en27, fun w' hw F' x0 c0 hx0 => by
       obtain ⟨u0_0, rfl, e0_0⟩ := hx0
       exact (ctr27 (fun b => (G F w.heap.size (un (inBlk v5) nb)) b ∨ F' b) w' x0 u0_0 (slRep.wk kStr_pos e0_0 fun _ _ h => .inr h) _ rfl).mono (by rintro v w'' ⟨rfl, c⟩; exact ⟨rfl, c⟩)⟩) y11 hy12) ?_
   rintro v13 w9 ⟨_, rfl, h14, c10⟩
   have hf15 : ∀ b, inBlk v13 b → w1.heap.size ≤ b := fun b hb => (h14.lt b hb).1
   have h14 := SlO.back (S' := un (inBlk v13) (un (inBlk v5) nb)) h14 (un_lt (fun b hb => (h6.lt b hb).2) nbS) c0.size (fun _ => Or.comm)
   have d16 : ∀ b, inBlk v13 b → ¬ inBlk v5 b := disNew hf15 (fun b hb => (h6.lt b hb).2)
   have ah0 := slRep.st k_Candidate_pos ah0 c10 (admNew hf15 (fun _ x => x))
   have h6 := h6.st c10 (fun _ _ x => x) (admNew hf15 (fun _ x => x)) (fun b h => (.inr (.inl h)))
   have c0 := c0.then0 c10
   refine rl_assign rfl rfl ?_
   refine RL.nil ?_
   refine thn_n ?_
   refine CW.ret ?_
   obtain rfl := Option.some.inj hS
   exact ret1 rfl ⟨v13, rfl, h14.out, c0⟩
/-- lb/lblaw19.alive -/
theorem ctr6 (F : Nat → Prop) (w : World)  (r : Bool) (hs : F6_linkboylaw19_alive  = some r) :
    Ret Try.prog 6 #[] w fun v w' => v = (Value.bool r) ∧ Ch nb w w' := by
  have hS := hs
  have c0 : Ch nb w w := Ch.refl
  refine Ret.of (n := 15) (args := []) (rs := [.tmp 0]) Try.func6 rfl rfl rfl rfl ?_
  refine CW.seq (CW.region ?_)
  refine rl_assign rfl rfl ?_
  refine RL.nil ?_
  refine thn_n ?_
  refine CW.seq (CW.region ?_)
  refine rl_build (out := (Candidate.c ({ point := Point.z, localF := false, ready := false, serving := true, terminating := false, zones := [] } : Candidate) (Value.slice none 0 0))) rfl pl44 Try.zeroValue44 rfl rfl rfl ?_
  refine rl_build (out := (Candidate.c ({ point := Point.z, localF := false, ready := false, serving := true, terminating := true, zones := [] } : Candidate) (Value.slice none 0 0))) rfl pl44 Try.zeroValue44 rfl rfl rfl ?_
  refine rl_bslice (k := k_Candidate) (F := F) (B := w.heap.size) (S := nb) ([({ point := Point.z, localF := false, ready := false, serving := true, terminating := false, zones := [] } : Candidate), ({ point := Point.z, localF := false, ready := false, serving := true, terminating := true, zones := [] } : Candidate)] : List Candidate) rfl k_Candidate_pos Try.underlying22 Try.sizeOf44 Try.zeroValue44 rfl rfl ⟨rfl, ⟨(Value.slice none 0 0), rfl, (.inl ⟨rfl, rfl⟩)⟩, ⟨rfl, ⟨(Value.slice none 0 0), rfl, (.inl ⟨rfl, rfl⟩)⟩, trivial⟩⟩ c0.size nbS rfl ?_
  intro v1 w2 c3 hf4 h5
  have h5 := h5.readNew k_Candidate_pos hf4 nbS
  have c0 := c0.then0 c3
  obtain ⟨y8, hy9, hS⟩ := bindS hS
  refine rl_callF rfl en11 rfl (ctr11 (G F w.heap.size nb) w2 [({ point := Point.z, localF := false, ready := false, serving := true, terminating := false, zones := [] } : Candidate), ({ point := Point.z, localF := false, ready := false, serving := true, terminating := true, zones := [] } : Candidate)] v1 h5 y8 hy9) ?_
  rintro v10 w6 ⟨_, rfl, h11, c7⟩
  have h11 := SlO.backR k_Candidate_pos h11 nbS c0.size
  have h5 := slRep.ch k_Candidate_pos h5 c7
  have c0 := c0.then0 c7
  refine rl_assign rfl rfl ?_
  refine RL.nil ?_
  refine thn_n ?_
  refine CW.seq (CW.region ?_)
  refine rl_move rfl rfl ?_
  refine rl_lenR rfl h11 Try.underlying22 rfl ?_
  refine rl_bin rfl rfl B.eql rfl ?_
  refine rl_move rfl rfl ?_
  obtain ⟨b14, hb15, hS⟩ := bindS hS
  refine RL.join 5 14 (.bool b14) (fun w' => Ch nb w6 w') ?_ ?_
  · rcases Bool.eq_false_or_eq_true (decide (((y8.length : Nat) : Int) = 1)) with hg13 | hg13
    ·
     have hs12 := andO_t hg13 hb15
     have cs : Ch nb w6 w6 := Ch.refl
     refine RL.yes rfl rfl rfl hg13 ?_
     refine rl_move rfl rfl ?_
     refine RL.yes rfl rfl rfl hg13 ?_
     obtain ⟨y23, hy24, hs12⟩ := bindS hs12
     refine rl_ixI rfl h11 rfl (ixO_get hy24) Try.underlying22 Try.sizeOf44 rfl ?_
     intro p17 o18 cs19 hr20 hs21 hg22
     obtain ⟨z25, rfl, h26⟩ := hr20
     refine RL.yes rfl rfl rfl hg13 ?_
     refine rl_fieldAddr rfl fa44_4 rfl ?_
     refine RL.yes rfl rfl rfl hg13 ?_
     refine rl_loadS (v := (Value.bool y23.terminating)) rfl Try.isAgg4 (hs21 21 _ rfl) rfl ?_
     refine rl_pickT rfl hg13 rfl rfl ?_
     exact RL.nil ⟨Ext.bothEq (congrArg Value.bool (Option.some.inj hs12)) (Ext.skip rfl (Ext.skip rfl (Ext.skip rfl (Ext.skip rfl (Ext.rfl'))))), cs⟩
    ·
     have hs12 := andO_f hg13 hb15
     have cs : Ch nb w6 w6 := Ch.refl
     refine RL.no rfl rfl rfl hg13 rfl rfl ?_
     refine RL.no rfl rfl rfl hg13 rfl rfl ?_
     refine RL.no rfl rfl rfl hg13 rfl rfl ?_
     refine RL.no rfl rfl rfl hg13 rfl rfl ?_
     refine rl_pickF rfl hg13 rfl rfl ?_
     exact RL.nil ⟨Ext.bothEq (congrArg Value.bool (Option.some.inj hs12)) (Ext.skip rfl (Ext.skip rfl (Ext.skip rfl (Ext.skip rfl (Ext.rfl'))))), cs⟩
  intro w16 c27
  have h5 := slRep.ch k_Candidate_pos h5 c27
  have h11 := slRep.ch k_Candidate_pos h11 c27
  have c0 := c0.then0 c27
  refine rl_assign rfl rfl ?_
  refine RL.nil ?_
  refine thn_n ?_
  refine CW.ret ?_
  obtain rfl := Option.some.inj hS
  exact ret1 rfl ⟨rfl, c0⟩
/-- lb/lbnum.Long -/
theorem ctr23 (F : Nat → Prop) (w : World) (a0 : (List ByteArray)) (av0 : Value) (ah0 : slRep kStr F w a0 av0) (a1 : Int) (r : Bool) (hs : F23_linkboynum_Long a0 a1 = r) :
    Ret Try.prog 23 #[av0, (Value.int .i64 a1)] w fun v w' => v = (Value.bool r) ∧ Ch nb w w' := by
  have hS := hs
  have c0 : Ch nb w w := Ch.refl
  have ah0 := slRep.enter kStr_pos ah0
  refine Ret.of (n := 27) (args := [_, _]) (rs := [.tmp 4]) Try.func23 rfl rfl rfl rfl ?_
  refine CW.seq (CW.region ?_)
  refine rl_assign rfl rfl ?_
  refine RL.nil ?_
  refine thn_n ?_
  refine CW.seq (CW.region ?_)
  refine rl_assign rfl rfl ?_
  refine RL.nil ?_
  refine thn_n ?_
  refine CW.seq ?_
  refine CW.seq (CW.region ?_)
  refine rl_move rfl rfl ?_
  refine rl_lenR rfl ah0 Try.underlying42 rfl ?_
  refine rl_move rfl rfl ?_
  refine RL.nil ?_
  refine thn_n ?_
  obtain ⟨o9, ho10⟩ : ∃ o, runB (F23_linkboynum_Long_b1 a1) a0 0 = o := ⟨_, rfl⟩
  have hS := ltS ho10 hS
  refine CW.cutB (fun E' w' => ∃ (x1 : Int), Sub [] E' ∧ Ch nb w w' ∧ Lp.fin x1 = o9 ∧ slRep kStr (G F w.heap.size nb) w' a0 av0) ?_ ?_
  ·
   refine CW.loopS [(1, (Value.int .i64 a1)), (8, av0), (9, (Value.int .i64 ((a0.length : Nat) : Int))), (5, (Value.int .i64 0)), (10, (Value.int .i64 ((0 : Nat) : Int)))] ⟨rfl, rfl, rfl, rfl, rfl, trivial⟩ a0.length (fun m E w' => ∃ (rest2 : List ByteArray) (i3 : Nat) (x1 : Int), m = rest2.length ∧ E = [(1, (Value.int .i64 a1)), (8, av0), (9, (Value.int .i64 ((a0.length : Nat) : Int))), (5, (Value.int .i64 x1)), (10, (Value.int .i64 ((i3 : Nat) : Int)))] ∧ Ch nb w w' ∧ At a0 i3 rest2 ∧ runB (F23_linkboynum_Long_b1 a1) rest2 x1 = o9 ∧ slRep kStr (G F w.heap.size nb) w' a0 av0)
       ⟨a0, 0, 0, rfl, rfl, c0, At.start, ho10, ah0⟩ ?_
   rintro _ _ w15 ⟨rest2, i3, x1, rfl, rfl, c14, hat5, hL4, ah0⟩
   refine CW.seq (CW.region ?_)
   refine rl_bin rfl rfl B.lss rfl ?_
   refine RL.nil (thn_n ?_)
   refine CW.seq ?_
   refine CW.cond (t := decide (((i3 : Nat) : Int) < ((a0.length : Nat) : Int))) rfl (fun q17 => ?_) (fun q17 => ?_)
   ·
    obtain ⟨x11, rest18, rfl⟩ := hat5.cons q17
    obtain ⟨q6, hq7⟩ : ∃ q, (F23_linkboynum_Long_b1 a1) x11 x1 = q := ⟨_, rfl⟩
    have hb8 := hq7
    refine CW.skip (thn_n ?_)
    refine CW.seq ?_
    refine CW.block ?_
    refine CW.seq (CW.region ?_)
    refine rl_ixR rfl ah0 rfl hat5.get Try.underlying42 Try.sizeOf9 rfl ?_
    intro p19 o20 cs21 hr22 hs23 hg24
    obtain rfl := hr22
    refine rl_loadS (v := (Value.string x11)) rfl Try.isAgg9 (hs23 0 _ rfl) rfl ?_
    refine rl_assign rfl rfl ?_
    refine RL.nil ?_
    refine thn_n ?_
    refine CW.seq ?_
    refine CW.seq (CW.region ?_)
    refine rl_move rfl rfl ?_
    refine rl_lenStr rfl Try.underlying9 rfl ?_
    refine rl_move rfl rfl ?_
    refine rl_bin rfl rfl B.gtr rfl ?_
    refine RL.nil ?_
    refine thn_n ?_
    refine CW.cond (t := decide (((x11.size : Nat) : Int) > a1)) rfl (fun q25 => ?_) (fun q25 => ?_)
    ·
     have hb8 := ifT q25 hb8
     refine CW.seq (CW.region ?_)
     refine rl_assign rfl rfl ?_
     refine RL.nil ?_
     refine thn_n ?_
     refine CW.ret ?_
     refine thn_ret ?_
     refine inB_ret ?_
     refine thn_ret ?_
     refine thn_ret (inB_ret (thn_ret ?_))
     refine thn_ret ?_
     have f26 := runB_ret hL4 (hb8.trans hq7.symm)
     have hS := retS f26 hS
     obtain rfl := hS
     exact ret1 rfl ⟨rfl, c14⟩
    ·
     have hb8 := ifF q25 hb8
     refine CW.skip ?_
     refine thn_n ?_
     refine CW.seq (CW.region ?_)
     refine rl_move rfl rfl ?_
     refine rl_move rfl rfl ?_
     refine rl_lenStr rfl Try.underlying9 rfl ?_
     refine rl_bin rfl rfl B.add rfl ?_
     refine rl_bin rfl rfl B.add rfl ?_
     refine rl_assign rfl rfl ?_
     refine RL.nil ?_
     refine thn_n ?_
     refine CW.seq (CW.region ?_)
     refine rl_move rfl rfl ?_
     refine rl_move rfl rfl ?_
     refine rl_bin rfl rfl B.gtr rfl ?_
     refine RL.nil ?_
     refine thn_n ?_
     refine CW.cond (t := decide ((IntKind.i64.wrap (x1 + (IntKind.i64.wrap (1 + ((x11.size : Nat) : Int))))) > a1)) rfl (fun q27 => ?_) (fun q27 => ?_)
     ·
      have hb8 := ifT q27 hb8
      refine CW.seq (CW.region ?_)
      refine rl_assign rfl rfl ?_
      refine RL.nil ?_
      refine thn_n ?_
      refine CW.ret ?_
      refine inB_ret ?_
      refine thn_ret ?_
      refine thn_ret (inB_ret (thn_ret ?_))
      refine thn_ret ?_
      have f28 := runB_ret hL4 (hb8.trans hq7.symm)
      have hS := retS f28 hS
      obtain rfl := hS
      exact ret1 rfl ⟨rfl, c14⟩
     ·
      have hb8 := ifF q27 hb8
      refine CW.skip ?_
      refine inB_n ?_
      refine thn_n ?_
      refine CW.region ?_
      refine rl_inc rfl hat5.lt ah0.big rfl ?_
      refine rl_move rfl rfl ?_
      refine RL.nil ?_
      refine thn_n ?_
      have hLn := runB_next hL4 (hb8.trans hq7.symm)
      exact ⟨rest18.length, Nat.lt_succ_self _, [(1, (Value.int .i64 a1)), (8, av0), (9, (Value.int .i64 ((a0.length : Nat) : Int))), (5, (Value.int .i64 (IntKind.i64.wrap (x1 + (IntKind.i64.wrap (1 + ((x11.size : Nat) : Int))))))), (10, (Value.int .i64 ((i3 + 1 : Nat) : Int)))], ⟨rfl, rfl, rfl, rfl, rfl, trivial⟩, ⟨rest18, i3 + 1, IntKind.i64.wrap (x1 + (IntKind.i64.wrap (1 + ((x11.size : Nat) : Int)))), rfl, rfl, c14, hat5.next, hLn, ah0⟩⟩
   ·
    obtain rfl := hat5.nil q17
    have hLf : Lp.fin x1 = o9 := hL4
    refine CW.exit (thn_exit (thn_exit (inB_hit ?_)))
    exact ⟨x1, trivial, c14, hLf, ah0⟩
  ·
   rintro _ w30 ⟨x1, hE31, c29, f32, ah0⟩
   have hS := finS f32 hS
   refine thn_n (CW.sub [] hE31 ?_)
   refine CW.seq (CW.region ?_)
   refine rl_assign rfl rfl ?_
   refine RL.nil ?_
   refine thn_n ?_
   refine CW.ret ?_
   obtain rfl := hS
   exact ret1 rfl ⟨rfl, c29⟩
/-- lb/lblaw13.LongSlice -/
theorem ctr33 (F : Nat → Prop) (w : World) (a0 : Slice) (az0_0 az0_1 : Value) (ah0_0 : slRep k_Port F w a0.ports az0_0) (ah0_1 : slRep k_Endpoint F w a0.endpoints az0_1) (r : Bool) (hs : F33_linkboylaw13_LongSlice a0 = r) :
    Ret Try.prog 33 #[(Value.agg (Slice.c a0 az0_0 az0_1).toArray)] w fun v w' => v = (Value.bool r) ∧ Ch nb w w' := by
  have hS := hs
  have c0 : Ch nb w w := Ch.refl
  have ah0_0 := slRep.enter k_Port_pos ah0_0
  have ah0_1 := slRep.enter k_Endpoint_pos ah0_1
  refine Ret.of (n := 66) (args := [_]) (rs := [.tmp 2]) Try.func33 rfl rfl rfl rfl ?_
  refine CW.seq (CW.region ?_)
  refine rl_boxA (cs := (Slice.c a0 az0_0 az0_1)) rfl rfl ?_
  intro p1 w2 n3 k4
  have gp1 : (G F w.heap.size nb) p1 := ⟨.inr (by rw [n3.eq]; exact c0.size), fun h => absurd (nbS _ h) (by rw [n3.eq]; exact Nat.lt_irrefl _)⟩
  have ah0_0 := slRep.ch k_Port_pos ah0_0 n3.ch
  have ah0_1 := slRep.ch k_Endpoint_pos ah0_1 n3.ch
  have c0 := c0.then0 n3.ch
  refine rl_assign rfl rfl ?_
  refine RL.nil ?_
  refine thn_n ?_
  refine CW.seq ?_
  refine CW.seq (CW.region ?_)
  refine rl_fieldAddr rfl fa71_3 rfl ?_
  refine rl_loadS (v := az0_0) rfl Try.isAgg68 (k4.cell rfl) rfl ?_
  refine rl_lenR rfl ah0_0 Try.underlying68 rfl ?_
  refine rl_move rfl rfl ?_
  refine RL.nil ?_
  refine thn_n ?_
  obtain ⟨o12, ho13⟩ : ∃ o, runB F33_linkboylaw13_LongSlice_b1 a0.ports () = o := ⟨_, rfl⟩
  have hS := ltS ho13 hS
  refine CW.cutB (fun E' w' => ∃ (_ : Unit), Sub [(1, (Value.pointer (some ⟨p1, 0, none⟩)))] E' ∧ Ch nb w w' ∧ Lp.fin () = o12 ∧ slRep k_Port (G F w.heap.size nb) w' a0.ports az0_0 ∧ slRep k_Endpoint (G F w.heap.size nb) w' a0.endpoints az0_1 ∧ Blk w' p1 71 (Slice.c a0 az0_0 az0_1) ∧ (G F w.heap.size nb) p1) ?_ ?_
  ·
   refine CW.loopS [(1, (Value.pointer (some ⟨p1, 0, none⟩))), (8, az0_0), (9, (Value.int .i64 ((a0.ports.length : Nat) : Int))), (10, (Value.int .i64 ((0 : Nat) : Int)))] ⟨rfl, rfl, rfl, rfl, trivial⟩ a0.ports.length (fun m E w' => ∃ (rest5 : List Port) (i6 : Nat) , m = rest5.length ∧ E = [(1, (Value.pointer (some ⟨p1, 0, none⟩))), (8, az0_0), (9, (Value.int .i64 ((a0.ports.length : Nat) : Int))), (10, (Value.int .i64 ((i6 : Nat) : Int)))] ∧ Ch nb w w' ∧ At a0.ports i6 rest5 ∧ runB F33_linkboylaw13_LongSlice_b1 rest5 () = o12 ∧ slRep k_Port (G F w.heap.size nb) w' a0.ports az0_0 ∧ slRep k_Endpoint (G F w.heap.size nb) w' a0.endpoints az0_1 ∧ Blk w' p1 71 (Slice.c a0 az0_0 az0_1) ∧ (G F w.heap.size nb) p1)
       ⟨a0.ports, 0, rfl, rfl, c0, At.start, ho13, ah0_0, ah0_1, k4, gp1⟩ ?_
   rintro _ _ w18 ⟨rest5, i6, rfl, rfl, c17, hat8, hL7, ah0_0, ah0_1, k4, gp1⟩
   refine CW.seq (CW.region ?_)
   refine rl_bin rfl rfl B.lss rfl ?_
   refine RL.nil (thn_n ?_)
   refine CW.seq ?_
   refine CW.cond (t := decide (((i6 : Nat) : Int) < ((a0.ports.length : Nat) : Int))) rfl (fun q20 => ?_) (fun q20 => ?_)
   ·
    obtain ⟨x14, rest21, rfl⟩ := hat8.cons q20
    obtain ⟨q9, hq10⟩ : ∃ q, F33_linkboylaw13_LongSlice_b1 x14 () = q := ⟨_, rfl⟩
    have hb11 := hq10
    refine CW.skip (thn_n ?_)
    refine CW.seq ?_
    refine CW.block ?_
    refine CW.seq (CW.region ?_)
    refine rl_ixR rfl ah0_0 rfl hat8.get Try.underlying68 Try.sizeOf83 rfl ?_
    intro p22 o23 cs24 hr25 hs26 hg27
    obtain rfl := hr25
    refine rl_loadA (cs := (Port.enc x14)) rfl Try.isAgg83 Try.sizeOf83 (hs26) rfl rfl ?_
    refine rl_alloc (Port.enc Port.z) Try.zeroValue83 rfl rfl ?_
    intro p28 w29 n30 k31
    have lo32 : ∀ b, inBlk (Value.pointer (some ⟨p28, 0, none⟩)) b → w.heap.size ≤ b := fun b h => Nat.le_trans c17.size (n30.fresh b h)
    have ah0_0 := slRep.st k_Port_pos ah0_0 n30.ch (admNew n30.fresh (fun _ x => x))
    have ah0_1 := slRep.st k_Endpoint_pos ah0_1 n30.ch (admNew n30.fresh (fun _ x => x))
    have gp1n : (G F w.heap.size (un (inBlk (Value.pointer (some ⟨p28, 0, none⟩))) nb)) p1 := ⟨gp1.1, ((admNew n30.fresh (fun _ x => x)) _ k4.lt gp1.2).2⟩
    have k4 := k4.ch0 n30.ch
    have gp1 := gp1n
    have c17 := c17.then0 n30.ch
    refine rl_storeA (vs := (Port.enc x14)) rfl rfl (all_one rfl) Try.sizeOf83 rfl k31 rfl ?_
    intro w33 s35 c34 k36
    have ad37 : ∀ b, b < w29.heap.size → ¬ (un (inBlk (Value.pointer (some ⟨p28, 0, none⟩))) nb) b → ¬ (inBlk (Value.pointer (some ⟨p28, 0, none⟩))) b ∧ ¬ (un (inBlk (Value.pointer (some ⟨p28, 0, none⟩))) nb) b := fun b _ hs => ⟨fun h => hs (.inl h), hs⟩
    have ah0_0 := slRep.st k_Port_pos ah0_0 c34 ad37
    have ah0_1 := slRep.st k_Endpoint_pos ah0_1 c34 ad37
    have k4 := k4.ch c34 (ad37 _ k4.lt gp1.2).1
    have c17 := c17.then c34 (fun i hi h => absurd (lo32 i h) (Nat.not_le_of_lt hi))
    refine RL.nil ?_
    refine thn_n ?_
    refine CW.seq (CW.region ?_)
    refine rl_fieldAddr rfl fa83_0 rfl ?_
    refine rl_loadS (v := (Value.string x14.name)) rfl Try.isAgg9 (k36.cell rfl) rfl ?_
    refine rl_lenStr rfl Try.underlying9 rfl ?_
    refine rl_bin rfl rfl B.gtr rfl ?_
    refine RL.nil ?_
    refine thn_n ?_
    refine CW.cond (t := decide (((x14.name.size : Nat) : Int) > 400)) rfl (fun q38 => ?_) (fun q38 => ?_)
    ·
     have hb11 := ifT q38 hb11
     refine CW.seq (CW.region ?_)
     refine rl_assign rfl rfl ?_
     refine RL.nil ?_
     refine thn_n ?_
     refine CW.ret ?_
     refine inB_ret ?_
     refine thn_ret ?_
     refine thn_ret (inB_ret (thn_ret ?_))
     refine thn_ret ?_
     have f39 := runB_ret hL7 (hb11.trans hq10.symm)
     have hS := retS f39 hS
     obtain rfl := hS
     exact ret1 rfl ⟨rfl, c17⟩
    ·
     have hb11 := ifF q38 hb11
     refine CW.skip ?_
     refine inB_n ?_
     refine thn_n ?_
     refine CW.region ?_
     refine rl_inc rfl hat8.lt ah0_0.big rfl ?_
     refine rl_move rfl rfl ?_
     refine RL.nil ?_
     refine thn_n ?_
     have crf : Ch nb w33 w33 := Ch.refl
     have ah0_0 := slRep.st k_Port_pos ah0_0 crf (show ∀ b, b < w33.heap.size → ¬ (un (inBlk (Value.pointer (some ⟨p28, 0, none⟩))) nb) b → ¬ nb b ∧ ¬ nb b from fun b _ hs => ⟨fun x => x, fun h => hs (False.elim h)⟩)
     have ah0_1 := slRep.st k_Endpoint_pos ah0_1 crf (show ∀ b, b < w33.heap.size → ¬ (un (inBlk (Value.pointer (some ⟨p28, 0, none⟩))) nb) b → ¬ nb b ∧ ¬ nb b from fun b _ hs => ⟨fun x => x, fun h => hs (False.elim h)⟩)
     have gp1n : (G F w.heap.size nb) p1 := ⟨gp1.1, ((show ∀ b, b < w33.heap.size → ¬ (un (inBlk (Value.pointer (some ⟨p28, 0, none⟩))) nb) b → ¬ nb b ∧ ¬ nb b from fun b _ hs => ⟨fun x => x, fun h => hs (False.elim h)⟩) _ k4.lt gp1.2).2⟩
     have k4 := k4.ch0 crf
     have gp1 := gp1n
     have c17 := c17.then0 crf
     have hLn := runB_next hL7 (hb11.trans hq10.symm)
     exact ⟨rest21.length, Nat.lt_succ_self _, [(1, (Value.pointer (some ⟨p1, 0, none⟩))), (8, az0_0), (9, (Value.int .i64 ((a0.ports.length : Nat) : Int))), (10, (Value.int .i64 ((i6 + 1 : Nat) : Int)))], ⟨rfl, rfl, rfl, rfl, trivial⟩, ⟨rest21, i6 + 1, rfl, rfl, c17, hat8.next, hLn, ah0_0, ah0_1, k4, gp1⟩⟩
   ·
    obtain rfl := hat8.nil q20
    have hLf : Lp.fin () = o12 := hL7
    refine CW.exit (thn_exit (thn_exit (inB_hit ?_)))
    exact ⟨(), ⟨rfl, trivial⟩, c17, hLf, ah0_0, ah0_1, k4, gp1⟩
  ·
   rintro _ w41 ⟨_, hE42, c40, f43, ah0_0, ah0_1, k4, gp1⟩
   have hS := finS f43 hS
   refine thn_n (CW.sub [(1, (Value.pointer (some ⟨p1, 0, none⟩)))] hE42 ?_)
   refine CW.seq ?_
   refine CW.seq (CW.region ?_)
   refine rl_fieldAddr rfl fa71_4 rfl ?_
   refine rl_loadS (v := az0_1) rfl Try.isAgg69 (k4.cell rfl) rfl ?_
   refine rl_lenR rfl ah0_1 Try.underlying69 rfl ?_
   refine rl_move rfl rfl ?_
   refine RL.nil ?_
   refine thn_n ?_
   obtain ⟨o52, ho53⟩ : ∃ o, runB F33_linkboylaw13_LongSlice_b2 a0.endpoints () = o := ⟨_, rfl⟩
   have hS := ltS ho53 hS
   refine CW.cutB (fun E' w' => ∃ (_ : Unit), Sub [(1, (Value.pointer (some ⟨p1, 0, none⟩)))] E' ∧ Ch nb w w' ∧ Lp.fin () = o52 ∧ slRep k_Port (G F w.heap.size nb) w' a0.ports az0_0 ∧ slRep k_Endpoint (G F w.heap.size nb) w' a0.endpoints az0_1 ∧ Blk w' p1 71 (Slice.c a0 az0_0 az0_1) ∧ (G F w.heap.size nb) p1) ?_ ?_
   ·
    refine CW.loopS [(1, (Value.pointer (some ⟨p1, 0, none⟩))), (20, az0_1), (21, (Value.int .i64 ((a0.endpoints.length : Nat) : Int))), (22, (Value.int .i64 ((0 : Nat) : Int)))] ⟨rfl, rfl, rfl, rfl, trivial⟩ a0.endpoints.length (fun m E w' => ∃ (rest45 : List Endpoint) (i46 : Nat) , m = rest45.length ∧ E = [(1, (Value.pointer (some ⟨p1, 0, none⟩))), (20, az0_1), (21, (Value.int .i64 ((a0.endpoints.length : Nat) : Int))), (22, (Value.int .i64 ((i46 : Nat) : Int)))] ∧ Ch nb w w' ∧ At a0.endpoints i46 rest45 ∧ runB F33_linkboylaw13_LongSlice_b2 rest45 () = o52 ∧ slRep k_Port (G F w.heap.size nb) w' a0.ports az0_0 ∧ slRep k_Endpoint (G F w.heap.size nb) w' a0.endpoints az0_1 ∧ Blk w' p1 71 (Slice.c a0 az0_0 az0_1) ∧ (G F w.heap.size nb) p1)
        ⟨a0.endpoints, 0, rfl, rfl, c40, At.start, ho53, ah0_0, ah0_1, k4, gp1⟩ ?_
    rintro _ _ w58 ⟨rest45, i46, rfl, rfl, c57, hat48, hL47, ah0_0, ah0_1, k4, gp1⟩
    refine CW.seq (CW.region ?_)
    refine rl_bin rfl rfl B.lss rfl ?_
    refine RL.nil (thn_n ?_)
    refine CW.seq ?_
    refine CW.cond (t := decide (((i46 : Nat) : Int) < ((a0.endpoints.length : Nat) : Int))) rfl (fun q60 => ?_) (fun q60 => ?_)
    ·
     obtain ⟨x54, rest61, rfl⟩ := hat48.cons q60
     obtain ⟨q49, hq50⟩ : ∃ q, F33_linkboylaw13_LongSlice_b2 x54 () = q := ⟨_, rfl⟩
     have hb51 := hq50
     refine CW.skip (thn_n ?_)
     refine CW.seq ?_
     refine CW.block ?_
     refine CW.seq (CW.region ?_)
     refine rl_ixR rfl ah0_1 rfl hat48.get Try.underlying69 Try.sizeOf86 rfl ?_
     intro p62 o63 cs64 hr65 hs66 hg67
     obtain ⟨z68, rfl, h69⟩ := hr65
     refine rl_loadA (cs := (Endpoint.c x54 z68)) rfl Try.isAgg86 Try.sizeOf86 (hs66) rfl rfl ?_
     refine rl_alloc (Endpoint.c Endpoint.z (Value.slice none 0 0)) Try.zeroValue86 rfl rfl ?_
     intro p70 w71 n72 k73
     have lo74 : ∀ b, inBlk (Value.pointer (some ⟨p70, 0, none⟩)) b → w.heap.size ≤ b := fun b h => Nat.le_trans c57.size (n72.fresh b h)
     have ah0_0 := slRep.st k_Port_pos ah0_0 n72.ch (admNew n72.fresh (fun _ x => x))
     have ah0_1 := slRep.st k_Endpoint_pos ah0_1 n72.ch (admNew n72.fresh (fun _ x => x))
     have gp1n : (G F w.heap.size (un (inBlk (Value.pointer (some ⟨p70, 0, none⟩))) nb)) p1 := ⟨gp1.1, ((admNew n72.fresh (fun _ x => x)) _ k4.lt gp1.2).2⟩
     have k4 := k4.ch0 n72.ch
     have gp1 := gp1n
     have h69 := slRep.st kStr_pos h69 n72.ch (admNew n72.fresh (fun _ x => x))
     have c57 := c57.then0 n72.ch
     refine rl_storeA (vs := (Endpoint.c x54 z68)) rfl rfl (Kd.one _ (show k_Endpoint.rep (G F w.heap.size (un (inBlk (Value.pointer (some ⟨p70, 0, none⟩))) nb)) w71 x54 (Endpoint.c x54 z68) from ⟨z68, rfl, h69⟩)) Try.sizeOf86 rfl k73 rfl ?_
     intro w75 s77 c76 k78
     have ad79 : ∀ b, b < w71.heap.size → ¬ (un (inBlk (Value.pointer (some ⟨p70, 0, none⟩))) nb) b → ¬ (inBlk (Value.pointer (some ⟨p70, 0, none⟩))) b ∧ ¬ (un (inBlk (Value.pointer (some ⟨p70, 0, none⟩))) nb) b := fun b _ hs => ⟨fun h => hs (.inl h), hs⟩
     have ah0_0 := slRep.st k_Port_pos ah0_0 c76 ad79
     have ah0_1 := slRep.st k_Endpoint_pos ah0_1 c76 ad79
     have k4 := k4.ch c76 (ad79 _ k4.lt gp1.2).1
     have h69 := slRep.st kStr_pos h69 c76 ad79
     have c57 := c57.then c76 (fun i hi h => absurd (lo74 i h) (Nat.not_le_of_lt hi))
     refine RL.nil ?_
     refine thn_n ?_
     refine CW.seq (CW.region ?_)
     refine rl_fieldAddr rfl fa86_1 rfl ?_
     refine rl_loadS (v := (Value.string x54.node)) rfl Try.isAgg9 (k78.cell rfl) rfl ?_
     refine rl_lenStr rfl Try.underlying9 rfl ?_
     refine rl_bin rfl rfl B.gtr rfl ?_
     refine rl_move rfl rfl ?_
     obtain ⟨b82, hb83⟩ : ∃ v, ((decide (((x54.node.size : Nat) : Int) > 400)) || (lt (F23_linkboynum_Long x54.zones 400) fun y84 => y84)) = v := ⟨_, rfl⟩
     have hb51 := ltS hb83 hb51
     refine RL.join 4 34 (.bool b82) (fun w' => Ch nb w75 w') ?_ ?_
     · rcases Bool.eq_false_or_eq_true (decide (((x54.node.size : Nat) : Int) > 400)) with hg81 | hg81
       ·
        have hs80 := or_t hg81 hb83
        have cs : Ch nb w75 w75 := Ch.refl
        refine RL.no rfl rfl rfl hg81 rfl rfl ?_
        refine RL.no rfl rfl rfl hg81 rfl rfl ?_
        refine RL.no rfl rfl rfl hg81 rfl rfl ?_
        refine rl_pickT rfl hg81 rfl rfl ?_
        exact RL.nil ⟨Ext.bothEq (congrArg Value.bool hs80) (Ext.skip rfl (Ext.skip rfl (Ext.skip rfl (Ext.rfl')))), cs⟩
       ·
        have hs80 := or_f hg81 hb83
        have cs : Ch nb w75 w75 := Ch.refl
        refine RL.yes rfl rfl rfl hg81 ?_
        refine rl_fieldAddr rfl fa86_5 rfl ?_
        refine RL.yes rfl rfl rfl hg81 ?_
        refine rl_loadS (v := z68) rfl Try.isAgg42 (k78.cell rfl) rfl ?_
        refine RL.yes rfl rfl rfl hg81 ?_
        obtain ⟨y87, hy88⟩ : ∃ y, F23_linkboynum_Long x54.zones 400 = y := ⟨_, rfl⟩
        have hs80 := ltS hy88 hs80
        refine rl_callF rfl en23 rfl (ctr23 (G F w.heap.size (un (inBlk (Value.pointer (some ⟨p70, 0, none⟩))) nb)) w75 x54.zones z68 h69 400 y87 hy88) ?_
        rintro _ w85 ⟨rfl, c86⟩
        have ah0_0 := slRep.ch k_Port_pos ah0_0 c86
        have ah0_1 := slRep.ch k_Endpoint_pos ah0_1 c86
        have k4 := k4.ch0 c86
        have h69 := slRep.ch kStr_pos h69 c86
        have k78 := k78.ch0 c86
        have c57 := c57.then0 c86
        refine rl_pickF rfl hg81 rfl rfl ?_
        have cs := cs.then0 c86
        exact RL.nil ⟨Ext.bothEq (congrArg Value.bool hs80) (Ext.skip rfl (Ext.skip rfl (Ext.skip rfl (Ext.rfl')))), cs⟩
     intro w84 c89
     have ah0_0 := slRep.ch k_Port_pos ah0_0 c89
     have ah0_1 := slRep.ch k_Endpoint_pos ah0_1 c89
     have k4 := k4.ch0 c89
     have h69 := slRep.ch kStr_pos h69 c89
     have k78 := k78.ch0 c89
     have c57 := c57.then0 c89
     refine RL.nil ?_
     refine thn_n ?_
     refine CW.cond (t := b82) rfl (fun q90 => ?_) (fun q90 => ?_)
     ·
      have hb51 := ifT q90 hb51
      refine CW.seq (CW.region ?_)
      refine rl_assign rfl rfl ?_
      refine RL.nil ?_
      refine thn_n ?_
      refine CW.ret ?_
      refine inB_ret ?_
      refine thn_ret ?_
      refine thn_ret (inB_ret (thn_ret ?_))
      refine thn_ret ?_
      have f91 := runB_ret hL47 (hb51.trans hq50.symm)
      have hS := retS f91 hS
      obtain rfl := hS
      exact ret1 rfl ⟨rfl, c57⟩
     ·
      have hb51 := ifF q90 hb51
      refine CW.skip ?_
      refine inB_n ?_
      refine thn_n ?_
      refine CW.region ?_
      refine rl_inc rfl hat48.lt ah0_1.big rfl ?_
      refine rl_move rfl rfl ?_
      refine RL.nil ?_
      refine thn_n ?_
      have crf : Ch nb w84 w84 := Ch.refl
      have ah0_0 := slRep.st k_Port_pos ah0_0 crf (show ∀ b, b < w84.heap.size → ¬ (un (inBlk (Value.pointer (some ⟨p70, 0, none⟩))) nb) b → ¬ nb b ∧ ¬ nb b from fun b _ hs => ⟨fun x => x, fun h => hs (False.elim h)⟩)
      have ah0_1 := slRep.st k_Endpoint_pos ah0_1 crf (show ∀ b, b < w84.heap.size → ¬ (un (inBlk (Value.pointer (some ⟨p70, 0, none⟩))) nb) b → ¬ nb b ∧ ¬ nb b from fun b _ hs => ⟨fun x => x, fun h => hs (False.elim h)⟩)
      have gp1n : (G F w.heap.size nb) p1 := ⟨gp1.1, ((show ∀ b, b < w84.heap.size → ¬ (un (inBlk (Value.pointer (some ⟨p70, 0, none⟩))) nb) b → ¬ nb b ∧ ¬ nb b from fun b _ hs => ⟨fun x => x, fun h => hs (False.elim h)⟩) _ k4.lt gp1.2).2⟩
      have k4 := k4.ch0 crf
      have gp1 := gp1n
      have h69 := slRep.st kStr_pos h69 crf (show ∀ b, b < w84.heap.size → ¬ (un (inBlk (Value.pointer (some ⟨p70, 0, none⟩))) nb) b → ¬ nb b ∧ ¬ nb b from fun b _ hs => ⟨fun x => x, fun h => hs (False.elim h)⟩)
      have c57 := c57.then0 crf
      have hLn := runB_next hL47 (hb51.trans hq50.symm)
      exact ⟨rest61.length, Nat.lt_succ_self _, [(1, (Value.pointer (some ⟨p1, 0, none⟩))), (20, az0_1), (21, (Value.int .i64 ((a0.endpoints.length : Nat) : Int))), (22, (Value.int .i64 ((i46 + 1 : Nat) : Int)))], ⟨rfl, rfl, rfl, rfl, trivial⟩, ⟨rest61, i46 + 1, rfl, rfl, c57, hat48.next, hLn, ah0_0, ah0_1, k4, gp1⟩⟩
    ·
     obtain rfl := hat48.nil q60
     have hLf : Lp.fin () = o52 := hL47
     refine CW.exit (thn_exit (thn_exit (inB_hit ?_)))
     exact ⟨(), ⟨rfl, trivial⟩, c57, hLf, ah0_0, ah0_1, k4, gp1⟩
   ·
    rintro _ w93 ⟨_, hE94, c92, f95, ah0_0, ah0_1, k4, gp1⟩
    have hS := finS f95 hS
    refine thn_n (CW.sub [(1, (Value.pointer (some ⟨p1, 0, none⟩)))] hE94 ?_)
    refine CW.seq (CW.region ?_)
    refine rl_fieldAddr rfl fa71_0 rfl ?_
    refine rl_fieldAddr rfl fa67_0 rfl ?_
    refine rl_loadS (v := (Value.string a0.key.space)) rfl Try.isAgg9 (k4.cell rfl) rfl ?_
    refine rl_lenStr rfl Try.underlying9 rfl ?_
    refine rl_bin rfl rfl B.gtr rfl ?_
    refine rl_move rfl rfl ?_
    obtain ⟨b99, hb100⟩ : ∃ v, ((decide (((a0.key.space.size : Nat) : Int) > 400)) || (decide (((a0.key.name.size : Nat) : Int) > 400))) = v := ⟨_, rfl⟩
    have hS := ltS hb100 hS
    refine RL.join 6 47 (.bool b99) (fun w' => Ch nb w93 w') ?_ ?_
    · rcases Bool.eq_false_or_eq_true (decide (((a0.key.space.size : Nat) : Int) > 400)) with hg98 | hg98
      ·
       have hs97 := or_t hg98 hb100
       have cs : Ch nb w93 w93 := Ch.refl
       refine RL.no rfl rfl rfl hg98 rfl rfl ?_
       refine RL.no rfl rfl rfl hg98 rfl rfl ?_
       refine RL.no rfl rfl rfl hg98 rfl rfl ?_
       refine RL.no rfl rfl rfl hg98 rfl rfl ?_
       refine RL.no rfl rfl rfl hg98 rfl rfl ?_
       refine rl_pickT rfl hg98 rfl rfl ?_
       exact RL.nil ⟨Ext.bothEq (congrArg Value.bool hs97) (Ext.skip rfl (Ext.skip rfl (Ext.skip rfl (Ext.skip rfl (Ext.skip rfl (Ext.rfl')))))), cs⟩
      ·
       have hs97 := or_f hg98 hb100
       have cs : Ch nb w93 w93 := Ch.refl
       refine RL.yes rfl rfl rfl hg98 ?_
       refine rl_fieldAddr rfl fa71_0 rfl ?_
       refine RL.yes rfl rfl rfl hg98 ?_
       refine rl_fieldAddr rfl fa67_1 rfl ?_
       refine RL.yes rfl rfl rfl hg98 ?_
       refine rl_loadS (v := (Value.string a0.key.name)) rfl Try.isAgg9 (k4.cell rfl) rfl ?_
       refine RL.yes rfl rfl rfl hg98 ?_
       refine rl_lenStr rfl Try.underlying9 rfl ?_
       refine RL.yes rfl rfl rfl hg98 ?_
       refine rl_bin rfl rfl B.gtr rfl ?_
       refine rl_pickF rfl hg98 rfl rfl ?_
       exact RL.nil ⟨Ext.bothEq (congrArg Value.bool hs97) (Ext.skip rfl (Ext.skip rfl (Ext.skip rfl (Ext.skip rfl (Ext.skip rfl (Ext.rfl')))))), cs⟩
    intro w101 c102
    have ah0_0 := slRep.ch k_Port_pos ah0_0 c102
    have ah0_1 := slRep.ch k_Endpoint_pos ah0_1 c102
    have k4 := k4.ch0 c102
    have c92 := c92.then0 c102
    refine rl_move rfl rfl ?_
    obtain ⟨b105, hb106⟩ : ∃ v, (b99 || (decide (((a0.service.size : Nat) : Int) > 400))) = v := ⟨_, rfl⟩
    have hS := ltS hb106 hS
    refine RL.join 5 53 (.bool b105) (fun w' => Ch nb w101 w') ?_ ?_
    · rcases Bool.eq_false_or_eq_true b99 with hg104 | hg104
      ·
       have hs103 := or_t hg104 hb106
       have cs : Ch nb w101 w101 := Ch.refl
       refine RL.no rfl rfl rfl hg104 rfl rfl ?_
       refine RL.no rfl rfl rfl hg104 rfl rfl ?_
       refine RL.no rfl rfl rfl hg104 rfl rfl ?_
       refine RL.no rfl rfl rfl hg104 rfl rfl ?_
       refine rl_pickT rfl hg104 rfl rfl ?_
       exact RL.nil ⟨Ext.bothEq (congrArg Value.bool hs103) (Ext.skip rfl (Ext.skip rfl (Ext.skip rfl (Ext.skip rfl (Ext.rfl'))))), cs⟩
      ·
       have hs103 := or_f hg104 hb106
       have cs : Ch nb w101 w101 := Ch.refl
       refine RL.yes rfl rfl rfl hg104 ?_
       refine rl_fieldAddr rfl fa71_1 rfl ?_
       refine RL.yes rfl rfl rfl hg104 ?_
       refine rl_loadS (v := (Value.string a0.service)) rfl Try.isAgg9 (k4.cell rfl) rfl ?_
       refine RL.yes rfl rfl rfl hg104 ?_
       refine rl_lenStr rfl Try.underlying9 rfl ?_
       refine RL.yes rfl rfl rfl hg104 ?_
       refine rl_bin rfl rfl B.gtr rfl ?_
       refine rl_pickF rfl hg104 rfl rfl ?_
       exact RL.nil ⟨Ext.bothEq (congrArg Value.bool hs103) (Ext.skip rfl (Ext.skip rfl (Ext.skip rfl (Ext.skip rfl (Ext.rfl'))))), cs⟩
    intro w107 c108
    have ah0_0 := slRep.ch k_Port_pos ah0_0 c108
    have ah0_1 := slRep.ch k_Endpoint_pos ah0_1 c108
    have k4 := k4.ch0 c108
    have c92 := c92.then0 c108
    refine rl_move rfl rfl ?_
    obtain ⟨b111, hb112⟩ : ∃ v, (b105 || (decide (((a0.ports.length : Nat) : Int) > 20))) = v := ⟨_, rfl⟩
    have hS := ltS hb112 hS
    refine RL.join 5 59 (.bool b111) (fun w' => Ch nb w107 w') ?_ ?_
    · rcases Bool.eq_false_or_eq_true b105 with hg110 | hg110
      ·
       have hs109 := or_t hg110 hb112
       have cs : Ch nb w107 w107 := Ch.refl
       refine RL.no rfl rfl rfl hg110 rfl rfl ?_
       refine RL.no rfl rfl rfl hg110 rfl rfl ?_
       refine RL.no rfl rfl rfl hg110 rfl rfl ?_
       refine RL.no rfl rfl rfl hg110 rfl rfl ?_
       refine rl_pickT rfl hg110 rfl rfl ?_
       exact RL.nil ⟨Ext.bothEq (congrArg Value.bool hs109) (Ext.skip rfl (Ext.skip rfl (Ext.skip rfl (Ext.skip rfl (Ext.rfl'))))), cs⟩
      ·
       have hs109 := or_f hg110 hb112
       have cs : Ch nb w107 w107 := Ch.refl
       refine RL.yes rfl rfl rfl hg110 ?_
       refine rl_fieldAddr rfl fa71_3 rfl ?_
       refine RL.yes rfl rfl rfl hg110 ?_
       refine rl_loadS (v := az0_0) rfl Try.isAgg68 (k4.cell rfl) rfl ?_
       refine RL.yes rfl rfl rfl hg110 ?_
       refine rl_lenR rfl ah0_0 Try.underlying68 rfl ?_
       refine RL.yes rfl rfl rfl hg110 ?_
       refine rl_bin rfl rfl B.gtr rfl ?_
       refine rl_pickF rfl hg110 rfl rfl ?_
       exact RL.nil ⟨Ext.bothEq (congrArg Value.bool hs109) (Ext.skip rfl (Ext.skip rfl (Ext.skip rfl (Ext.skip rfl (Ext.rfl'))))), cs⟩
    intro w113 c114
    have ah0_0 := slRep.ch k_Port_pos ah0_0 c114
    have ah0_1 := slRep.ch k_Endpoint_pos ah0_1 c114
    have k4 := k4.ch0 c114
    have c92 := c92.then0 c114
    refine rl_move rfl rfl ?_
    obtain ⟨b117, hb118⟩ : ∃ v, (b111 || (decide (((a0.endpoints.length : Nat) : Int) > 30))) = v := ⟨_, rfl⟩
    have hS := ltS hb118 hS
    refine RL.join 5 65 (.bool b117) (fun w' => Ch nb w113 w') ?_ ?_
    · rcases Bool.eq_false_or_eq_true b111 with hg116 | hg116
      ·
       have hs115 := or_t hg116 hb118
       have cs : Ch nb w113 w113 := Ch.refl
       refine RL.no rfl rfl rfl hg116 rfl rfl ?_
       refine RL.no rfl rfl rfl hg116 rfl rfl ?_
       refine RL.no rfl rfl rfl hg116 rfl rfl ?_
       refine RL.no rfl rfl rfl hg116 rfl rfl ?_
       refine rl_pickT rfl hg116 rfl rfl ?_
       exact RL.nil ⟨Ext.bothEq (congrArg Value.bool hs115) (Ext.skip rfl (Ext.skip rfl (Ext.skip rfl (Ext.skip rfl (Ext.rfl'))))), cs⟩
      ·
       have hs115 := or_f hg116 hb118
       have cs : Ch nb w113 w113 := Ch.refl
       refine RL.yes rfl rfl rfl hg116 ?_
       refine rl_fieldAddr rfl fa71_4 rfl ?_
       refine RL.yes rfl rfl rfl hg116 ?_
       refine rl_loadS (v := az0_1) rfl Try.isAgg69 (k4.cell rfl) rfl ?_
       refine RL.yes rfl rfl rfl hg116 ?_
       refine rl_lenR rfl ah0_1 Try.underlying69 rfl ?_
       refine RL.yes rfl rfl rfl hg116 ?_
       refine rl_bin rfl rfl B.gtr rfl ?_
       refine rl_pickF rfl hg116 rfl rfl ?_
       exact RL.nil ⟨Ext.bothEq (congrArg Value.bool hs115) (Ext.skip rfl (Ext.skip rfl (Ext.skip rfl (Ext.skip rfl (Ext.rfl'))))), cs⟩
    intro w119 c120
    have ah0_0 := slRep.ch k_Port_pos ah0_0 c120
    have ah0_1 := slRep.ch k_Endpoint_pos ah0_1 c120
    have k4 := k4.ch0 c120
    have c92 := c92.then0 c120
    refine rl_assign rfl rfl ?_
    refine RL.nil ?_
    refine thn_n ?_
    refine CW.ret ?_
    obtain rfl := hS
    exact ret1 rfl ⟨rfl, c92⟩
/-- lb/lblaw19.Long -/
theorem ctr16 (F : Nat → Prop) (w : World) (a0 : (List Slice)) (av0 : Value) (ah0 : slRep k_Slice F w a0 av0) (r : Bool) (hs : F16_linkboylaw19_Long a0 = r) :
    Ret Try.prog 16 #[av0] w fun v w' => v = (Value.bool r) ∧ Ch nb w w' := by
  have hS := hs
  have c0 : Ch nb w w := Ch.refl
  have ah0 := slRep.enter k_Slice_pos ah0
  refine Ret.of (n := 17) (args := [_]) (rs := [.tmp 2]) Try.func16 rfl rfl rfl rfl ?_
  refine CW.seq (CW.region ?_)
  refine rl_assign rfl rfl ?_
  refine RL.nil ?_
  refine thn_n ?_
  refine CW.seq ?_
  refine CW.seq (CW.region ?_)
  refine rl_move rfl rfl ?_
  refine rl_lenR rfl ah0 Try.underlying46 rfl ?_
  refine rl_bin rfl rfl B.gtr rfl ?_
  refine RL.nil ?_
  refine thn_n ?_
  refine CW.cond (t := decide (((a0.length : Nat) : Int) > 20)) rfl (fun q1 => ?_) (fun q1 => ?_)
  ·
   have hS := ifT q1 hS
   refine CW.seq (CW.region ?_)
   refine rl_assign rfl rfl ?_
   refine RL.nil ?_
   refine thn_n ?_
   refine CW.ret ?_
   refine thn_ret ?_
   obtain rfl := hS
   exact ret1 rfl ⟨rfl, c0⟩
  ·
   have hS := ifF q1 hS
   refine CW.skip ?_
   refine thn_n ?_
   refine CW.seq ?_
   refine CW.seq (CW.region ?_)
   refine rl_move rfl rfl ?_
   refine rl_lenR rfl ah0 Try.underlying46 rfl ?_
   refine rl_move rfl rfl ?_
   refine RL.nil ?_
   refine thn_n ?_
   obtain ⟨o9, ho10⟩ : ∃ o, runB F16_linkboylaw19_Long_b1 a0 () = o := ⟨_, rfl⟩
   have hS := ltS ho10 hS
   refine CW.cutB (fun E' w' => ∃ (_ : Unit), Sub [] E' ∧ Ch nb w w' ∧ Lp.fin () = o9 ∧ slRep k_Slice (G F w.heap.size nb) w' a0 av0) ?_ ?_
   ·
    refine CW.loopS [(8, av0), (9, (Value.int .i64 ((a0.length : Nat) : Int))), (10, (Value.int .i64 ((0 : Nat) : Int)))] ⟨rfl, rfl, rfl, trivial⟩ a0.length (fun m E w' => ∃ (rest2 : List Slice) (i3 : Nat) , m = rest2.length ∧ E = [(8, av0), (9, (Value.int .i64 ((a0.length : Nat) : Int))), (10, (Value.int .i64 ((i3 : Nat) : Int)))] ∧ Ch nb w w' ∧ At a0 i3 rest2 ∧ runB F16_linkboylaw19_Long_b1 rest2 () = o9 ∧ slRep k_Slice (G F w.heap.size nb) w' a0 av0)
        ⟨a0, 0, rfl, rfl, c0, At.start, ho10, ah0⟩ ?_
    rintro _ _ w15 ⟨rest2, i3, rfl, rfl, c14, hat5, hL4, ah0⟩
    refine CW.seq (CW.region ?_)
    refine rl_bin rfl rfl B.lss rfl ?_
    refine RL.nil (thn_n ?_)
    refine CW.seq ?_
    refine CW.cond (t := decide (((i3 : Nat) : Int) < ((a0.length : Nat) : Int))) rfl (fun q17 => ?_) (fun q17 => ?_)
    ·
     obtain ⟨x11, rest18, rfl⟩ := hat5.cons q17
     obtain ⟨q6, hq7⟩ : ∃ q, F16_linkboylaw19_Long_b1 x11 () = q := ⟨_, rfl⟩
     have hb8 := hq7
     refine CW.skip (thn_n ?_)
     refine CW.seq ?_
     refine CW.block ?_
     refine CW.seq (CW.region ?_)
     refine rl_ixR rfl ah0 rfl hat5.get Try.underlying46 Try.sizeOf71 rfl ?_
     intro p19 o20 cs21 hr22 hs23 hg24
     obtain ⟨z25, z26, rfl, h27, h28⟩ := hr22
     refine rl_loadA (cs := (Slice.c x11 z25 z26)) rfl Try.isAgg71 Try.sizeOf71 (hs23) rfl rfl ?_
     refine rl_alloc (Slice.c Slice.z (Value.slice none 0 0) (Value.slice none 0 0)) Try.zeroValue71 rfl rfl ?_
     intro p29 w30 n31 k32
     have lo33 : ∀ b, inBlk (Value.pointer (some ⟨p29, 0, none⟩)) b → w.heap.size ≤ b := fun b h => Nat.le_trans c14.size (n31.fresh b h)
     have ah0 := slRep.st k_Slice_pos ah0 n31.ch (admNew n31.fresh (fun _ x => x))
     have h27 := slRep.st k_Port_pos h27 n31.ch (admNew n31.fresh (fun _ x => x))
     have h28 := slRep.st k_Endpoint_pos h28 n31.ch (admNew n31.fresh (fun _ x => x))
     have c14 := c14.then0 n31.ch
     refine rl_storeA (vs := (Slice.c x11 z25 z26)) rfl rfl (Kd.one _ (show k_Slice.rep (G F w.heap.size (un (inBlk (Value.pointer (some ⟨p29, 0, none⟩))) nb)) w30 x11 (Slice.c x11 z25 z26) from ⟨z25, z26, rfl, h27, h28⟩)) Try.sizeOf71 rfl k32 rfl ?_
     intro w34 s36 c35 k37
     have ad38 : ∀ b, b < w30.heap.size → ¬ (un (inBlk (Value.pointer (some ⟨p29, 0, none⟩))) nb) b → ¬ (inBlk (Value.pointer (some ⟨p29, 0, none⟩))) b ∧ ¬ (un (inBlk (Value.pointer (some ⟨p29, 0, none⟩))) nb) b := fun b _ hs => ⟨fun h => hs (.inl h), hs⟩
     have ah0 := slRep.st k_Slice_pos ah0 c35 ad38
     have h27 := slRep.st k_Port_pos h27 c35 ad38
     have h28 := slRep.st k_Endpoint_pos h28 c35 ad38
     have c14 := c14.then c35 (fun i hi h => absurd (lo33 i h) (Nat.not_le_of_lt hi))
     refine RL.nil ?_
     refine thn_n ?_
     refine CW.seq (CW.region ?_)
     refine rl_loadA (cs := (Slice.c x11 z25 z26)) rfl Try.isAgg71 Try.sizeOf71 (k37.segAt 0 6) rfl rfl ?_
     obtain ⟨y41, hy42⟩ : ∃ y, F33_linkboylaw13_LongSlice x11 = y := ⟨_, rfl⟩
     have hb8 := ltS hy42 hb8
     refine rl_callF rfl en33 rfl (ctr33 (G F w.heap.size (un (inBlk (Value.pointer (some ⟨p29, 0, none⟩))) nb)) w34 x11 z25 z26 h27 h28 y41 hy42) ?_
     rintro _ w39 ⟨rfl, c40⟩
     have ah0 := slRep.ch k_Slice_pos ah0 c40
     have h27 := slRep.ch k_Port_pos h27 c40
     have h28 := slRep.ch k_Endpoint_pos h28 c40
     have k37 := k37.ch0 c40
     have c14 := c14.then0 c40
     refine RL.nil ?_
     refine thn_n ?_
     refine CW.cond (t := y41) rfl (fun q43 => ?_) (fun q43 => ?_)
     ·
      have hb8 := ifT q43 hb8
      refine CW.seq (CW.region ?_)
      refine rl_assign rfl rfl ?_
      refine RL.nil ?_
      refine thn_n ?_
      refine CW.ret ?_
      refine inB_ret ?_
      refine thn_ret ?_
      refine thn_ret (inB_ret (thn_ret ?_))
      refine thn_ret ?_
      have f44 := runB_ret hL4 (hb8.trans hq7.symm)
      have hS := retS f44 hS
      obtain rfl := hS
      exact ret1 rfl ⟨rfl, c14⟩
     ·
      have hb8 := ifF q43 hb8
      refine CW.skip ?_
      refine inB_n ?_
      refine thn_n ?_
      refine CW.region ?_
      refine rl_inc rfl hat5.lt ah0.big rfl ?_
      refine rl_move rfl rfl ?_
      refine RL.nil ?_
      refine thn_n ?_
      have crf : Ch nb w39 w39 := Ch.refl
      have ah0 := slRep.st k_Slice_pos ah0 crf (show ∀ b, b < w39.heap.size → ¬ (un (inBlk (Value.pointer (some ⟨p29, 0, none⟩))) nb) b → ¬ nb b ∧ ¬ nb b from fun b _ hs => ⟨fun x => x, fun h => hs (False.elim h)⟩)
      have h27 := slRep.st k_Port_pos h27 crf (show ∀ b, b < w39.heap.size → ¬ (un (inBlk (Value.pointer (some ⟨p29, 0, none⟩))) nb) b → ¬ nb b ∧ ¬ nb b from fun b _ hs => ⟨fun x => x, fun h => hs (False.elim h)⟩)
      have h28 := slRep.st k_Endpoint_pos h28 crf (show ∀ b, b < w39.heap.size → ¬ (un (inBlk (Value.pointer (some ⟨p29, 0, none⟩))) nb) b → ¬ nb b ∧ ¬ nb b from fun b _ hs => ⟨fun x => x, fun h => hs (False.elim h)⟩)
      have c14 := c14.then0 crf
      have hLn := runB_next hL4 (hb8.trans hq7.symm)
      exact ⟨rest18.length, Nat.lt_succ_self _, [(8, av0), (9, (Value.int .i64 ((a0.length : Nat) : Int))), (10, (Value.int .i64 ((i3 + 1 : Nat) : Int)))], ⟨rfl, rfl, rfl, trivial⟩, ⟨rest18, i3 + 1, rfl, rfl, c14, hat5.next, hLn, ah0⟩⟩
    ·
     obtain rfl := hat5.nil q17
     have hLf : Lp.fin () = o9 := hL4
     refine CW.exit (thn_exit (thn_exit (inB_hit ?_)))
     exact ⟨(), trivial, c14, hLf, ah0⟩
   ·
    rintro _ w46 ⟨_, hE47, c45, f48, ah0⟩
    have hS := finS f48 hS
    refine thn_n (CW.sub [] hE47 ?_)
    refine CW.seq (CW.region ?_)
    refine rl_assign rfl rfl ?_
    refine RL.nil ?_
    refine thn_n ?_
    refine CW.ret ?_
    obtain rfl := hS
    exact ret1 rfl ⟨rfl, c45⟩
/-- lb/lblaw19.long -/
theorem ctr8 (F : Nat → Prop) (w : World) (a0 : Want) (r : Bool) (hs : F8_linkboylaw19_long a0 = r) :
    Ret Try.prog 8 #[(Value.agg (Want.enc a0).toArray)] w fun v w' => v = (Value.bool r) ∧ Ch nb w w' := by
  have hS := hs
  have c0 : Ch nb w w := Ch.refl
  refine Ret.of (n := 19) (args := [_]) (rs := [.tmp 2]) Try.func8 rfl rfl rfl rfl ?_
  refine CW.seq (CW.region ?_)
  refine rl_boxA (cs := (Want.enc a0)) rfl rfl ?_
  intro p1 w2 n3 k4
  have gp1 : (G F w.heap.size nb) p1 := ⟨.inr (by rw [n3.eq]; exact c0.size), fun h => absurd (nbS _ h) (by rw [n3.eq]; exact Nat.lt_irrefl _)⟩
  have c0 := c0.then0 n3.ch
  refine rl_assign rfl rfl ?_
  refine RL.nil ?_
  refine thn_n ?_
  refine CW.seq (CW.region ?_)
  refine rl_fieldAddr rfl fa24_0 rfl ?_
  refine rl_loadS (v := (Value.string a0.name)) rfl Try.isAgg9 (k4.cell rfl) rfl ?_
  refine rl_lenStr rfl Try.underlying9 rfl ?_
  refine rl_bin rfl rfl B.gtr rfl ?_
  refine rl_move rfl rfl ?_
  obtain ⟨b7, hb8⟩ : ∃ v, ((decide (((a0.name.size : Nat) : Int) > 100)) || (decide (((a0.node.size : Nat) : Int) > 100))) = v := ⟨_, rfl⟩
  have hS := ltS hb8 hS
  refine RL.join 5 12 (.bool b7) (fun w' => Ch nb w2 w') ?_ ?_
  · rcases Bool.eq_false_or_eq_true (decide (((a0.name.size : Nat) : Int) > 100)) with hg6 | hg6
    ·
     have hs5 := or_t hg6 hb8
     have cs : Ch nb w2 w2 := Ch.refl
     refine RL.no rfl rfl rfl hg6 rfl rfl ?_
     refine RL.no rfl rfl rfl hg6 rfl rfl ?_
     refine RL.no rfl rfl rfl hg6 rfl rfl ?_
     refine RL.no rfl rfl rfl hg6 rfl rfl ?_
     refine rl_pickT rfl hg6 rfl rfl ?_
     exact RL.nil ⟨Ext.bothEq (congrArg Value.bool hs5) (Ext.skip rfl (Ext.skip rfl (Ext.skip rfl (Ext.skip rfl (Ext.rfl'))))), cs⟩
    ·
     have hs5 := or_f hg6 hb8
     have cs : Ch nb w2 w2 := Ch.refl
     refine RL.yes rfl rfl rfl hg6 ?_
     refine rl_fieldAddr rfl fa24_5 rfl ?_
     refine RL.yes rfl rfl rfl hg6 ?_
     refine rl_loadS (v := (Value.string a0.node)) rfl Try.isAgg9 (k4.cell rfl) rfl ?_
     refine RL.yes rfl rfl rfl hg6 ?_
     refine rl_lenStr rfl Try.underlying9 rfl ?_
     refine RL.yes rfl rfl rfl hg6 ?_
     refine rl_bin rfl rfl B.gtr rfl ?_
     refine rl_pickF rfl hg6 rfl rfl ?_
     exact RL.nil ⟨Ext.bothEq (congrArg Value.bool hs5) (Ext.skip rfl (Ext.skip rfl (Ext.skip rfl (Ext.skip rfl (Ext.rfl'))))), cs⟩
  intro w9 c10
  have k4 := k4.ch0 c10
  have c0 := c0.then0 c10
  refine rl_move rfl rfl ?_
  obtain ⟨b13, hb14⟩ : ∃ v, (b7 || (decide (((a0.zone.size : Nat) : Int) > 100))) = v := ⟨_, rfl⟩
  have hS := ltS hb14 hS
  refine RL.join 5 18 (.bool b13) (fun w' => Ch nb w9 w') ?_ ?_
  · rcases Bool.eq_false_or_eq_true b7 with hg12 | hg12
    ·
     have hs11 := or_t hg12 hb14
     have cs : Ch nb w9 w9 := Ch.refl
     refine RL.no rfl rfl rfl hg12 rfl rfl ?_
     refine RL.no rfl rfl rfl hg12 rfl rfl ?_
     refine RL.no rfl rfl rfl hg12 rfl rfl ?_
     refine RL.no rfl rfl rfl hg12 rfl rfl ?_
     refine rl_pickT rfl hg12 rfl rfl ?_
     exact RL.nil ⟨Ext.bothEq (congrArg Value.bool hs11) (Ext.skip rfl (Ext.skip rfl (Ext.skip rfl (Ext.skip rfl (Ext.rfl'))))), cs⟩
    ·
     have hs11 := or_f hg12 hb14
     have cs : Ch nb w9 w9 := Ch.refl
     refine RL.yes rfl rfl rfl hg12 ?_
     refine rl_fieldAddr rfl fa24_6 rfl ?_
     refine RL.yes rfl rfl rfl hg12 ?_
     refine rl_loadS (v := (Value.string a0.zone)) rfl Try.isAgg9 (k4.cell rfl) rfl ?_
     refine RL.yes rfl rfl rfl hg12 ?_
     refine rl_lenStr rfl Try.underlying9 rfl ?_
     refine RL.yes rfl rfl rfl hg12 ?_
     refine rl_bin rfl rfl B.gtr rfl ?_
     refine rl_pickF rfl hg12 rfl rfl ?_
     exact RL.nil ⟨Ext.bothEq (congrArg Value.bool hs11) (Ext.skip rfl (Ext.skip rfl (Ext.skip rfl (Ext.skip rfl (Ext.rfl'))))), cs⟩
  intro w15 c16
  have k4 := k4.ch0 c16
  have c0 := c0.then0 c16
  refine rl_assign rfl rfl ?_
  refine RL.nil ?_
  refine thn_n ?_
  refine CW.ret ?_
  obtain rfl := hS
  exact ret1 rfl ⟨rfl, c0⟩
/-- lb/lblaw13.ports -/
theorem ctr52 (F : Nat → Prop) (w : World) (a0 : (List Port)) (av0 : Value) (ah0 : slRep k_Port F w a0 av0) (r : (List Port)) (hs : F52_linkboylaw13_ports a0 = some r) :
    Ret Try.prog 52 #[av0] w fun v w' => ∃ (y0 : Value), v = y0 ∧ SlO k_Port 88 F w.heap.size (inBlk y0) w' r y0 ∧ Ch nb w w' := by
  have hS := hs
  have c0 : Ch nb w w := Ch.refl
  have ah0 := slRep.enter k_Port_pos ah0
  refine Ret.of (n := 19) (args := [_]) (rs := [.tmp 2]) Try.func52 rfl rfl rfl rfl ?_
  refine CW.seq (CW.region ?_)
  refine rl_assign rfl rfl ?_
  refine RL.nil ?_
  refine thn_n ?_
  refine CW.seq (CW.region ?_)
  refine rl_bslice (k := k_Port) (F := F) (B := w.heap.size) (S := nb) ([] : List Port) rfl k_Port_pos Try.underlying73 Try.sizeOf88 Try.zeroValue88 rfl rfl trivial c0.size nbS rfl ?_
  intro v1 w2 c3 hf4 h5
  have ah0 := slRep.st k_Port_pos ah0 c3 (admNew hf4 (fun _ x => x))
  have c0 := c0.then0 c3
  refine rl_assign rfl rfl ?_
  refine RL.nil ?_
  refine thn_n ?_
  refine CW.seq ?_
  refine CW.seq (CW.region ?_)
  refine rl_move rfl rfl ?_
  refine rl_lenR rfl ah0 Try.underlying68 rfl ?_
  refine rl_move rfl rfl ?_
  refine RL.nil ?_
  refine thn_n ?_
  obtain ⟨o16, ho17, hS⟩ := bindS hS
  refine CW.cutB (fun E' w' => ∃ (x6 : (List Port)) (v7 : Value), Sub [(3, v7)] E' ∧ Ch nb w w' ∧ x6 = o16 ∧ slRep k_Port (G F w.heap.size (un (inBlk v7) nb)) w' a0 av0 ∧ SlO k_Port 88 F w.heap.size (un (inBlk v7) nb) w' x6 v7) ?_ ?_
  ·
   refine CW.loopS [(7, av0), (8, (Value.int .i64 ((a0.length : Nat) : Int))), (3, v1), (9, (Value.int .i64 ((0 : Nat) : Int)))] ⟨rfl, rfl, rfl, rfl, trivial⟩ a0.length (fun m E w' => ∃ (rest9 : List Port) (i10 : Nat) (x6 : (List Port)) (v7 : Value), m = rest9.length ∧ E = [(7, av0), (8, (Value.int .i64 ((a0.length : Nat) : Int))), (3, v7), (9, (Value.int .i64 ((i10 : Nat) : Int)))] ∧ Ch nb w w' ∧ At a0 i10 rest9 ∧ runAO F52_linkboylaw13_ports_b1 rest9 x6 = some o16 ∧ slRep k_Port (G F w.heap.size (un (inBlk v7) nb)) w' a0 av0 ∧ SlO k_Port 88 F w.heap.size (un (inBlk v7) nb) w' x6 v7)
       ⟨a0, 0, [], v1, rfl, rfl, c0, At.start, ho17, ah0, h5⟩ ?_
   rintro _ _ w22 ⟨rest9, i10, x6, v7, rfl, rfl, c21, hat12, hL11, ah0, h8⟩
   refine CW.seq (CW.region ?_)
   refine rl_bin rfl rfl B.lss rfl ?_
   refine RL.nil (thn_n ?_)
   refine CW.seq ?_
   refine CW.cond (t := decide (((i10 : Nat) : Int) < ((a0.length : Nat) : Int))) rfl (fun q24 => ?_) (fun q24 => ?_)
   ·
    obtain ⟨x18, rest25, rfl⟩ := hat12.cons q24
    obtain ⟨q13, hq14⟩ := runAO_some hL11
    have hb15 := hq14
    refine CW.skip (thn_n ?_)
    refine CW.seq ?_
    refine CW.block ?_
    refine CW.seq (CW.region ?_)
    refine rl_ixR rfl ah0 rfl hat12.get Try.underlying68 Try.sizeOf83 rfl ?_
    intro p26 o27 cs28 hr29 hs30 hg31
    obtain rfl := hr29
    refine rl_loadA (cs := (Port.enc x18)) rfl Try.isAgg83 Try.sizeOf83 (hs30) rfl rfl ?_
    refine rl_alloc (Port.enc Port.z) Try.zeroValue83 rfl rfl ?_
    intro p32 w33 n34 k35
    have lo36 : ∀ b, inBlk (Value.pointer (some ⟨p32, 0, none⟩)) b → w.heap.size ≤ b := fun b h => Nat.le_trans c21.size (n34.fresh b h)
    have d37 : ∀ b, inBlk (Value.pointer (some ⟨p32, 0, none⟩)) b → ¬ inBlk v7 b := disNew n34.fresh (fun b hb => (h8.lt b hb).2)
    have ah0 := slRep.st k_Port_pos ah0 n34.ch (admNew n34.fresh (fun _ x => x))
    have h8 := h8.st n34.ch (fun _ _ x => x) (admNew n34.fresh (fun _ x => x)) (fun b h => (.inr (.inl h)))
    have c21 := c21.then0 n34.ch
    refine rl_storeA (vs := (Port.enc x18)) rfl rfl (all_one rfl) Try.sizeOf83 rfl k35 rfl ?_
    intro w38 s40 c39 k41
    have ad42 : ∀ b, b < w33.heap.size → ¬ (un (inBlk (Value.pointer (some ⟨p32, 0, none⟩))) (un (inBlk v7) nb)) b → ¬ (inBlk (Value.pointer (some ⟨p32, 0, none⟩))) b ∧ ¬ (un (inBlk (Value.pointer (some ⟨p32, 0, none⟩))) (un (inBlk v7) nb)) b := fun b _ hs => ⟨fun h => hs (.inl h), hs⟩
    have ah0 := slRep.st k_Port_pos ah0 c39 ad42
    have h8 := h8.st c39 (fun b hb h => (disSym d37) b hb h) ad42 (fun b h => (.inr (.inl h)))
    have c21 := c21.then c39 (fun i hi h => absurd (lo36 i h) (Nat.not_le_of_lt hi))
    refine RL.nil ?_
    refine thn_n ?_
    refine CW.region ?_
    refine rl_move rfl rfl ?_
    refine rl_loadA (cs := (Port.enc x18)) rfl Try.isAgg83 Try.sizeOf83 (k41.segAt 0 4) rfl rfl ?_
    refine rl_bslice (k := k_Port) (F := F) (B := w.heap.size) (S := (un (inBlk (Value.pointer (some ⟨p32, 0, none⟩))) (un (inBlk v7) nb))) ([x18] : List Port) rfl k_Port_pos Try.underlying73 Try.sizeOf88 Try.zeroValue88 rfl rfl ⟨rfl, rfl, trivial⟩ c21.size (un_lt k41.ltp (un_lt (fun b hb => (h8.lt b hb).2) nbS)) rfl ?_
    intro v43 w44 c45 hf46 h47
    have h47 := h47.readNew k_Port_pos hf46 (un_lt k41.ltp (un_lt (fun b hb => (h8.lt b hb).2) nbS))
    have ah0 := slRep.ch k_Port_pos ah0 c45
    have h8 := h8.ch0 c45
    have k41 := k41.ch0 c45
    have c21 := c21.then0 c45
    obtain ⟨z56, hz57, hb15⟩ := bindS hb15
    have hl := (apO_get hz57).1
    refine rl_append (k := k_Port) (T := 88) (F := F) (B := w.heap.size) (S := (un (inBlk (Value.pointer (some ⟨p32, 0, none⟩))) (un (inBlk v7) nb))) (S2 := (un (inBlk (Value.pointer (some ⟨p32, 0, none⟩))) nb)) (fun v => (un (inBlk (Value.pointer (some ⟨p32, 0, none⟩))) (un (inBlk v) nb))) rfl rfl k_Port_pos ap73 h8 h47 (fun _ => un_swap) (fun _ _ => un_swap) hl c21.size (un_lt k41.ltp (un_lt (fun b hb => (h8.lt b hb).2) nbS)) rfl ?_
    intro v50 w51 h52 c53 hf54 ha55
    have d58 : ∀ b, inBlk v50 b → ¬ inBlk (Value.pointer (some ⟨p32, 0, none⟩)) b := disApp hf54 (disSym d37) k41.ltp
    have ah0 := slRep.st k_Port_pos ah0 c53 ha55
    have k41 := k41.ch c53 ((fun b hb h => d37 b hb h) _ rfl)
    have h47 := slRep.st k_Port_pos h47 c53 ha55
    have c21 := c21.then c53 (fun i hi h => absurd ((fun b hb => (h8.lt b hb).1) i h) (Nat.not_le_of_lt hi))
    refine rl_assign rfl rfl ?_
    refine RL.nil ?_
    refine inB_n ?_
    refine thn_n ?_
    refine CW.region ?_
    refine rl_inc rfl hat12.lt ah0.big rfl ?_
    refine rl_move rfl rfl ?_
    refine RL.nil ?_
    refine thn_n ?_
    have crf : Ch nb w51 w51 := Ch.refl
    have ah0 := slRep.st k_Port_pos ah0 crf (show ∀ b, b < w51.heap.size → ¬ (un (inBlk (Value.pointer (some ⟨p32, 0, none⟩))) (un (inBlk v50) nb)) b → ¬ nb b ∧ ¬ (un (inBlk v50) nb) b from fun b _ hs => ⟨fun x => x, fun h => hs (un_el h (fun h => (.inr (.inl h))) (fun h => False.elim h))⟩)
    have h47 := slRep.st k_Port_pos h47 crf (show ∀ b, b < w51.heap.size → ¬ (un (inBlk (Value.pointer (some ⟨p32, 0, none⟩))) (un (inBlk v50) nb)) b → ¬ nb b ∧ ¬ (un (inBlk v50) nb) b from fun b _ hs => ⟨fun x => x, fun h => hs (un_el h (fun h => (.inr (.inl h))) (fun h => False.elim h))⟩)
    have h52 := h52.st crf (fun _ _ x => x) (show ∀ b, b < w51.heap.size → ¬ (un (inBlk (Value.pointer (some ⟨p32, 0, none⟩))) (un (inBlk v50) nb)) b → ¬ nb b ∧ ¬ (un (inBlk v50) nb) b from fun b _ hs => ⟨fun x => x, fun h => hs (un_el h (fun h => (.inr (.inl h))) (fun h => False.elim h))⟩) (fun b h => (.inl h))
    have c21 := c21.then0 crf
    have hLn := runAO_next hL11 hq14 hb15
    exact ⟨rest25.length, Nat.lt_succ_self _, [(7, av0), (8, (Value.int .i64 ((a0.length : Nat) : Int))), (3, v50), (9, (Value.int .i64 ((i10 + 1 : Nat) : Int)))], ⟨rfl, rfl, rfl, rfl, trivial⟩, ⟨rest25, i10 + 1, x6 ++ [x18], v50, rfl, rfl, c21, hat12.next, hLn, ah0, h52⟩⟩
   ·
    obtain rfl := hat12.nil q24
    have hLf : x6 = o16 := runAO_done hL11
    refine CW.exit (thn_exit (thn_exit (inB_hit ?_)))
    exact ⟨x6, v7, ⟨rfl, trivial⟩, c21, hLf, ah0, h8⟩
  ·
   rintro _ w60 ⟨x6, v7, hE61, c59, f62, ah0, h8⟩
   subst f62
   refine thn_n (CW.sub [(3, v7)] hE61 ?_)
   refine CW.seq (CW.region ?_)
   refine rl_move rfl rfl ?_
   refine rl_assign rfl rfl ?_
   refine RL.nil ?_
   refine thn_n ?_
   refine CW.ret ?_
   obtain rfl := Option.some.inj hS
   exact ret1 rfl ⟨v7, rfl, h8.out, c59⟩
/-- lb/lblaw13.Slice -/
theorem ctr34 (F : Nat → Prop) (w : World) (a0 : Slice) (az0_0 az0_1 : Value) (ah0_0 : slRep k_Port F w a0.ports az0_0) (ah0_1 : slRep k_Endpoint F w a0.endpoints az0_1) (r : Slice) (hs : F34_linkboylaw13_Slice a0 = some r) :
    Ret Try.prog 34 #[(Value.agg (Slice.c a0 az0_0 az0_1).toArray)] w fun v w' => ∃ (y0_0 : Value) (y0_1 : Value), v = (Value.agg (Slice.c r y0_0 y0_1).toArray) ∧ slRep k_Port (fun b => F b ∨ w.heap.size ≤ b) w' r.ports y0_0 ∧ slRep k_Endpoint (fun b => F b ∨ w.heap.size ≤ b) w' r.endpoints y0_1 ∧ Ch nb w w' := by
  have hS := hs
  have c0 : Ch nb w w := Ch.refl
  have ah0_0 := slRep.enter k_Port_pos ah0_0
  have ah0_1 := slRep.enter k_Endpoint_pos ah0_1
  refine Ret.of (n := 31) (args := [_]) (rs := [.cell 2 76]) Try.func34 rfl rfl rfl rfl ?_
  refine CW.seq (CW.region ?_)
  refine rl_boxA (cs := (Slice.c a0 az0_0 az0_1)) rfl rfl ?_
  intro p1 w2 n3 k4
  have gp1 : (G F w.heap.size nb) p1 := ⟨.inr (by rw [n3.eq]; exact c0.size), fun h => absurd (nbS _ h) (by rw [n3.eq]; exact Nat.lt_irrefl _)⟩
  have ah0_0 := slRep.ch k_Port_pos ah0_0 n3.ch
  have ah0_1 := slRep.ch k_Endpoint_pos ah0_1 n3.ch
  have c0 := c0.then0 n3.ch
  refine rl_alloc (Slice.c Slice.z (Value.slice none 0 0) (Value.slice none 0 0)) Try.zeroValue76 rfl rfl ?_
  intro p5 w6 n7 k8
  have lo9 : ∀ b, inBlk (Value.pointer (some ⟨p5, 0, none⟩)) b → w.heap.size ≤ b := fun b h => Nat.le_trans c0.size (n7.fresh b h)
  have ah0_0 := slRep.st k_Port_pos ah0_0 n7.ch (admNew n7.fresh (fun _ x => x))
  have ah0_1 := slRep.st k_Endpoint_pos ah0_1 n7.ch (admNew n7.fresh (fun _ x => x))
  have gp1n : (G F w.heap.size (un (inBlk (Value.pointer (some ⟨p5, 0, none⟩))) nb)) p1 := ⟨gp1.1, ((admNew n7.fresh (fun _ x => x)) _ k4.lt gp1.2).2⟩
  have k4 := k4.ch0 n7.ch
  have gp1 := gp1n
  have c0 := c0.then0 n7.ch
  refine RL.nil ?_
  refine thn_n ?_
  refine CW.seq ?_
  obtain ⟨y12, hy13, hS⟩ := bindS hS
  refine CW.draw 11 [(none, fun _ O uu wx => uu = (Value.pointer (some ⟨p1, 0, none⟩))), (none, fun _ O uu wx => uu = (Value.agg (Key.enc a0.key).toArray)), (none, fun _ O uu wx => uu = (Value.pointer (some ⟨p1, 2, none⟩))), (none, fun _ O uu wx => uu = (Value.string a0.service)), (none, fun _ O uu wx => uu = (Value.pointer (some ⟨p1, 3, none⟩))), (none, fun _ O uu wx => uu = (Value.bool a0.six)), (none, fun _ O uu wx => uu = (Value.pointer (some ⟨p1, 4, none⟩))), (none, fun _ O uu wx => uu = az0_0), (none, fun _ O uu wx => ∃ (v14 : Value), uu = v14 ∧ slRep k_Port (G F w.heap.size (un O (un (inBlk (Value.pointer (some ⟨p5, 0, none⟩))) nb))) wx y12 v14), (none, fun _ O uu wx => ∃ (v14_9 : Value), uu = (Value.agg (Slice.c ({ key := a0.key, service := a0.service, six := a0.six, ports := y12, endpoints := [] } : Slice) v14_9 (Value.slice none 0 0)).toArray) ∧ slRep k_Port (G F w.heap.size (un O (un (inBlk (Value.pointer (some ⟨p5, 0, none⟩))) nb))) wx y12 v14_9), (some false, fun _ O uu wx => ∃ (p16 : Nat), uu = (Value.pointer (some ⟨p16, 0, none⟩)) ∧ O = (inBlk (Value.pointer (some ⟨p16, 0, none⟩))) ∧ Blk wx p16 76 (Slice.c Slice.z (Value.slice none 0 0) (Value.slice none 0 0)))] [[], [0], [], [2], [], [4], [], [6], [7], [1, 3, 5, 8], []] [10, 9] nb (fun _ h => h.elim) mixed rfl rfl rfl rfl ?_ ?_
  ·
   refine Each.consA ⟨fun _ _ _ _ _ _ h => h, fun _ _ _ _ _ _ _ _ _ _ _ h => h, fun O wk hO ck => ?_⟩ ?_
   ·
    have d27 : ∀ b, inBlk (Value.pointer (some ⟨p5, 0, none⟩)) b → ¬ O b := fun b hu ho => (hO b ho).1.elim (fun h => h.elim) (fun h => Nat.not_le_of_lt (k8.ltp b hu) h)
    have ha28 : ∀ b, b < w6.heap.size → ¬ (un (inBlk (Value.pointer (some ⟨p5, 0, none⟩))) nb) b → ¬ nb b ∧ ¬ (un O (un (inBlk (Value.pointer (some ⟨p5, 0, none⟩))) nb)) b := fun b hb hs => ⟨fun h => h.elim, fun h => un_el h (fun ho => (hO b ho).1.elim (fun h => h.elim) (fun h => Nat.not_le_of_lt hb h)) (fun h => un_el h (fun h => hs (.inl h)) (fun h => False.elim h))⟩
    have ah0_0 := slRep.st k_Port_pos ah0_0 ck ha28
    have ah0_1 := slRep.st k_Endpoint_pos ah0_1 ck ha28
    have gp1n : (G F w.heap.size (un O (un (inBlk (Value.pointer (some ⟨p5, 0, none⟩))) nb))) p1 := ⟨gp1.1, (ha28 _ k4.lt gp1.2).2⟩
    have k4 := k4.ch0 ck
    have gp1 := gp1n
    have k8 := k8.ch0 ck
    have c0 := c0.then0 ck
    refine rl_fieldAddr rfl fa71_0 rfl ?_
    exact RL.nil ⟨_, rfl, Ch.refl, rfl⟩
   refine Each.consA ⟨fun _ _ _ _ _ _ h => h, fun _ _ _ _ _ _ _ _ _ _ _ h => h, fun O wk hO ck => ?_⟩ ?_
   ·
    have d29 : ∀ b, inBlk (Value.pointer (some ⟨p5, 0, none⟩)) b → ¬ O b := fun b hu ho => (hO b ho).1.elim (fun h => h.elim) (fun h => Nat.not_le_of_lt (k8.ltp b hu) h)
    have ha30 : ∀ b, b < w6.heap.size → ¬ (un (inBlk (Value.pointer (some ⟨p5, 0, none⟩))) nb) b → ¬ nb b ∧ ¬ (un O (un (inBlk (Value.pointer (some ⟨p5, 0, none⟩))) nb)) b := fun b hb hs => ⟨fun h => h.elim, fun h => un_el h (fun ho => (hO b ho).1.elim (fun h => h.elim) (fun h => Nat.not_le_of_lt hb h)) (fun h => un_el h (fun h => hs (.inl h)) (fun h => False.elim h))⟩
    have ah0_0 := slRep.st k_Port_pos ah0_0 ck ha30
    have ah0_1 := slRep.st k_Endpoint_pos ah0_1 ck ha30
    have gp1n : (G F w.heap.size (un O (un (inBlk (Value.pointer (some ⟨p5, 0, none⟩))) nb))) p1 := ⟨gp1.1, (ha30 _ k4.lt gp1.2).2⟩
    have k4 := k4.ch0 ck
    have gp1 := gp1n
    have k8 := k8.ch0 ck
    have c0 := c0.then0 ck
    refine Need.one rfl rfl rfl ?_
    rintro _ e31
    obtain rfl := e31.symm
    refine rl_loadA (cs := (Key.enc a0.key)) rfl Try.isAgg67 Try.sizeOf67 (k4.segAt 0 2) rfl rfl ?_
    exact RL.nil ⟨_, rfl, Ch.refl, rfl⟩
   refine Each.consA ⟨fun _ _ _ _ _ _ h => h, fun _ _ _ _ _ _ _ _ _ _ _ h => h, fun O wk hO ck => ?_⟩ ?_
   ·
    have d32 : ∀ b, inBlk (Value.pointer (some ⟨p5, 0, none⟩)) b → ¬ O b := fun b hu ho => (hO b ho).1.elim (fun h => h.elim) (fun h => Nat.not_le_of_lt (k8.ltp b hu) h)
    have ha33 : ∀ b, b < w6.heap.size → ¬ (un (inBlk (Value.pointer (some ⟨p5, 0, none⟩))) nb) b → ¬ nb b ∧ ¬ (un O (un (inBlk (Value.pointer (some ⟨p5, 0, none⟩))) nb)) b := fun b hb hs => ⟨fun h => h.elim, fun h => un_el h (fun ho => (hO b ho).1.elim (fun h => h.elim) (fun h => Nat.not_le_of_lt hb h)) (fun h => un_el h (fun h => hs (.inl h)) (fun h => False.elim h))⟩
    have ah0_0 := slRep.st k_Port_pos ah0_0 ck ha33
    have ah0_1 := slRep.st k_Endpoint_pos ah0_1 ck ha33
    have gp1n : (G F w.heap.size (un O (un (inBlk (Value.pointer (some ⟨p5, 0, none⟩))) nb))) p1 := ⟨gp1.1, (ha33 _ k4.lt gp1.2).2⟩
    have k4 := k4.ch0 ck
    have gp1 := gp1n
    have k8 := k8.ch0 ck
    have c0 := c0.then0 ck
    refine rl_fieldAddr rfl fa71_1 rfl ?_
    exact RL.nil ⟨_, rfl, Ch.refl, rfl⟩
   refine Each.consA ⟨fun _ _ _ _ _ _ h => h, fun _ _ _ _ _ _ _ _ _ _ _ h => h, fun O wk hO ck => ?_⟩ ?_
   ·
    have d34 : ∀ b, inBlk (Value.pointer (some ⟨p5, 0, none⟩)) b → ¬ O b := fun b hu ho => (hO b ho).1.elim (fun h => h.elim) (fun h => Nat.not_le_of_lt (k8.ltp b hu) h)
    have ha35 : ∀ b, b < w6.heap.size → ¬ (un (inBlk (Value.pointer (some ⟨p5, 0, none⟩))) nb) b → ¬ nb b ∧ ¬ (un O (un (inBlk (Value.pointer (some ⟨p5, 0, none⟩))) nb)) b := fun b hb hs => ⟨fun h => h.elim, fun h => un_el h (fun ho => (hO b ho).1.elim (fun h => h.elim) (fun h => Nat.not_le_of_lt hb h)) (fun h => un_el h (fun h => hs (.inl h)) (fun h => False.elim h))⟩
    have ah0_0 := slRep.st k_Port_pos ah0_0 ck ha35
    have ah0_1 := slRep.st k_Endpoint_pos ah0_1 ck ha35
    have gp1n : (G F w.heap.size (un O (un (inBlk (Value.pointer (some ⟨p5, 0, none⟩))) nb))) p1 := ⟨gp1.1, (ha35 _ k4.lt gp1.2).2⟩
    have k4 := k4.ch0 ck
    have gp1 := gp1n
    have k8 := k8.ch0 ck
    have c0 := c0.then0 ck
    refine Need.one rfl rfl rfl ?_
    rintro _ e36
    obtain rfl := e36.symm
    refine rl_loadS (v := (Value.string a0.service)) rfl Try.isAgg9 (k4.cell rfl) rfl ?_
    exact RL.nil ⟨_, rfl, Ch.refl, rfl⟩
   refine Each.consA ⟨fun _ _ _ _ _ _ h => h, fun _ _ _ _ _ _ _ _ _ _ _ h => h, fun O wk hO ck => ?_⟩ ?_
   ·
    have d37 : ∀ b, inBlk (Value.pointer (some ⟨p5, 0, none⟩)) b → ¬ O b := fun b hu ho => (hO b ho).1.elim (fun h => h.elim) (fun h => Nat.not_le_of_lt (k8.ltp b hu) h)
    have ha38 : ∀ b, b < w6.heap.size → ¬ (un (inBlk (Value.pointer (some ⟨p5, 0, none⟩))) nb) b → ¬ nb b ∧ ¬ (un O (un (inBlk (Value.pointer (some ⟨p5, 0, none⟩))) nb)) b := fun b hb hs => ⟨fun h => h.elim, fun h => un_el h (fun ho => (hO b ho).1.elim (fun h => h.elim) (fun h => Nat.not_le_of_lt hb h)) (fun h => un_el h (fun h => hs (.inl h)) (fun h => False.elim h))⟩
    have ah0_0 := slRep.st k_Port_pos ah0_0 ck ha38
    have ah0_1 := slRep.st k_Endpoint_pos ah0_1 ck ha38
    have gp1n : (G F w.heap.size (un O (un (inBlk (Value.pointer (some ⟨p5, 0, none⟩))) nb))) p1 := ⟨gp1.1, (ha38 _ k4.lt gp1.2).2⟩
    have k4 := k4.ch0 ck
    have gp1 := gp1n
    have k8 := k8.ch0 ck
    have c0 := c0.then0 ck
    refine rl_fieldAddr rfl fa71_2 rfl ?_
    exact RL.nil ⟨_, rfl, Ch.refl, rfl⟩
   refine Each.consA ⟨fun _ _ _ _ _ _ h => h, fun _ _ _ _ _ _ _ _ _ _ _ h => h, fun O wk hO ck => ?_⟩ ?_
   ·
    have d39 : ∀ b, inBlk (Value.pointer (some ⟨p5, 0, none⟩)) b → ¬ O b := fun b hu ho => (hO b ho).1.elim (fun h => h.elim) (fun h => Nat.not_le_of_lt (k8.ltp b hu) h)
    have ha40 : ∀ b, b < w6.heap.size → ¬ (un (inBlk (Value.pointer (some ⟨p5, 0, none⟩))) nb) b → ¬ nb b ∧ ¬ (un O (un (inBlk (Value.pointer (some ⟨p5, 0, none⟩))) nb)) b := fun b hb hs => ⟨fun h => h.elim, fun h => un_el h (fun ho => (hO b ho).1.elim (fun h => h.elim) (fun h => Nat.not_le_of_lt hb h)) (fun h => un_el h (fun h => hs (.inl h)) (fun h => False.elim h))⟩
    have ah0_0 := slRep.st k_Port_pos ah0_0 ck ha40
    have ah0_1 := slRep.st k_Endpoint_pos ah0_1 ck ha40
    have gp1n : (G F w.heap.size (un O (un (inBlk (Value.pointer (some ⟨p5, 0, none⟩))) nb))) p1 := ⟨gp1.1, (ha40 _ k4.lt gp1.2).2⟩
    have k4 := k4.ch0 ck
    have gp1 := gp1n
    have k8 := k8.ch0 ck
    have c0 := c0.then0 ck
    refine Need.one rfl rfl rfl ?_
    rintro _ e41
    obtain rfl := e41.symm
    refine rl_loadS (v := (Value.bool a0.six)) rfl Try.isAgg4 (k4.cell rfl) rfl ?_
    exact RL.nil ⟨_, rfl, Ch.refl, rfl⟩
   refine Each.consA ⟨fun _ _ _ _ _ _ h => h, fun _ _ _ _ _ _ _ _ _ _ _ h => h, fun O wk hO ck => ?_⟩ ?_
   ·
    have d42 : ∀ b, inBlk (Value.pointer (some ⟨p5, 0, none⟩)) b → ¬ O b := fun b hu ho => (hO b ho).1.elim (fun h => h.elim) (fun h => Nat.not_le_of_lt (k8.ltp b hu) h)
    have ha43 : ∀ b, b < w6.heap.size → ¬ (un (inBlk (Value.pointer (some ⟨p5, 0, none⟩))) nb) b → ¬ nb b ∧ ¬ (un O (un (inBlk (Value.pointer (some ⟨p5, 0, none⟩))) nb)) b := fun b hb hs => ⟨fun h => h.elim, fun h => un_el h (fun ho => (hO b ho).1.elim (fun h => h.elim) (fun h => Nat.not_le_of_lt hb h)) (fun h => un_el h (fun h => hs (.inl h)) (fun h => False.elim h))⟩
    have ah0_0 := slRep.st k_Port_pos ah0_0 ck ha43
    have ah0_1 := slRep.st k_Endpoint_pos ah0_1 ck ha43
    have gp1n : (G F w.heap.size (un O (un (inBlk (Value.pointer (some ⟨p5, 0, none⟩))) nb))) p1 := ⟨gp1.1, (ha43 _ k4.lt gp1.2).2⟩
    have k4 := k4.ch0 ck
    have gp1 := gp1n
    have k8 := k8.ch0 ck
    have c0 := c0.then0 ck
    refine rl_fieldAddr rfl fa71_3 rfl ?_
    exact RL.nil ⟨_, rfl, Ch.refl, rfl⟩
   refine Each.consA ⟨fun _ _ _ _ _ _ h => h, fun _ _ _ _ _ _ _ _ _ _ _ h => h, fun O wk hO ck => ?_⟩ ?_
   ·
    have d44 : ∀ b, inBlk (Value.pointer (some ⟨p5, 0, none⟩)) b → ¬ O b := fun b hu ho => (hO b ho).1.elim (fun h => h.elim) (fun h => Nat.not_le_of_lt (k8.ltp b hu) h)
    have ha45 : ∀ b, b < w6.heap.size → ¬ (un (inBlk (Value.pointer (some ⟨p5, 0, none⟩))) nb) b → ¬ nb b ∧ ¬ (un O (un (inBlk (Value.pointer (some ⟨p5, 0, none⟩))) nb)) b := fun b hb hs => ⟨fun h => h.elim, fun h => un_el h (fun ho => (hO b ho).1.elim (fun h => h.elim) (fun h => Nat.not_le_of_lt hb h)) (fun h => un_el h (fun h => hs (.inl h)) (fun h => False.elim h))⟩
    have ah0_0 := slRep.st k_Port_pos ah0_0 ck ha45
    have ah0_1 := slRep.st k_Endpoint_pos ah0_1 ck ha45
    have gp1n : (G F w.heap.size (un O (un (inBlk (Value.pointer (some ⟨p5, 0, none⟩))) nb))) p1 := ⟨gp1.1, (ha45 _ k4.lt gp1.2).2⟩
    have k4 := k4.ch0 ck
    have gp1 := gp1n
    have k8 := k8.ch0 ck
    have c0 := c0.then0 ck
    refine Need.one rfl rfl rfl ?_
    rintro _ e46
    obtain rfl := e46.symm
    refine rl_loadS (v := az0_0) rfl Try.isAgg68 (k4.cell rfl) rfl ?_
    exact RL.nil ⟨_, rfl, Ch.refl, rfl⟩
   refine Each.consA ⟨fun _ _ _ _ _ cc hh => by obtain ⟨v14, e, h15⟩ := hh; exact ⟨v14, e, slRep.ch k_Port_pos h15 cc⟩, fun _ _ O O' D _ wx wy hD hO' cc hh => by obtain ⟨v14, e, h15⟩ := hh; have ad := admGh (S := (un (inBlk (Value.pointer (some ⟨p5, 0, none⟩))) nb)) hD hO'; exact ⟨v14, e, slRep.st k_Port_pos h15 cc ad⟩, fun O wk hO ck => ?_⟩ ?_
   ·
    have d47 : ∀ b, inBlk (Value.pointer (some ⟨p5, 0, none⟩)) b → ¬ O b := fun b hu ho => (hO b ho).1.elim (fun h => h.elim) (fun h => Nat.not_le_of_lt (k8.ltp b hu) h)
    have ha48 : ∀ b, b < w6.heap.size → ¬ (un (inBlk (Value.pointer (some ⟨p5, 0, none⟩))) nb) b → ¬ nb b ∧ ¬ (un O (un (inBlk (Value.pointer (some ⟨p5, 0, none⟩))) nb)) b := fun b hb hs => ⟨fun h => h.elim, fun h => un_el h (fun ho => (hO b ho).1.elim (fun h => h.elim) (fun h => Nat.not_le_of_lt hb h)) (fun h => un_el h (fun h => hs (.inl h)) (fun h => False.elim h))⟩
    have ah0_0 := slRep.st k_Port_pos ah0_0 ck ha48
    have ah0_1 := slRep.st k_Endpoint_pos ah0_1 ck ha48
    have gp1n : (G F w.heap.size (un O (un (inBlk (Value.pointer (some ⟨p5, 0, none⟩))) nb))) p1 := ⟨gp1.1, (ha48 _ k4.lt gp1.2).2⟩
    have k4 := k4.ch0 ck
    have gp1 := gp1n
    have k8 := k8.ch0 ck
    have c0 := c0.then0 ck
    refine Need.one rfl rfl rfl ?_
    rintro _ e49
    obtain rfl := e49.symm
    refine rl_callF rfl en52 rfl (ctr52 (G F w.heap.size (un O (un (inBlk (Value.pointer (some ⟨p5, 0, none⟩))) nb))) wk a0.ports az0_0 ah0_0 y12 hy13) ?_
    rintro v52 w50 ⟨_, rfl, h53, c51⟩
    have h53 := SlO.backR k_Port_pos h53 (un_lt (fun b h => (hO b h).2) (un_lt k8.ltp nbS)) c0.size
    have ah0_0 := slRep.ch k_Port_pos ah0_0 c51
    have ah0_1 := slRep.ch k_Endpoint_pos ah0_1 c51
    have k4 := k4.ch0 c51
    have k8 := k8.ch0 c51
    have c0 := c0.then0 c51
    exact RL.nil ⟨_, rfl, c51, ⟨v52, rfl, h53⟩⟩
   refine Each.consA ⟨fun _ _ _ _ _ cc hh => by obtain ⟨v14_9, e, h15_9⟩ := hh; exact ⟨v14_9, e, slRep.ch k_Port_pos h15_9 cc⟩, fun _ _ O O' D _ wx wy hD hO' cc hh => by obtain ⟨v14_9, e, h15_9⟩ := hh; have ad := admGh (S := (un (inBlk (Value.pointer (some ⟨p5, 0, none⟩))) nb)) hD hO'; exact ⟨v14_9, e, slRep.st k_Port_pos h15_9 cc ad⟩, fun O wk hO ck => ?_⟩ ?_
   ·
    have d54 : ∀ b, inBlk (Value.pointer (some ⟨p5, 0, none⟩)) b → ¬ O b := fun b hu ho => (hO b ho).1.elim (fun h => h.elim) (fun h => Nat.not_le_of_lt (k8.ltp b hu) h)
    have ha55 : ∀ b, b < w6.heap.size → ¬ (un (inBlk (Value.pointer (some ⟨p5, 0, none⟩))) nb) b → ¬ nb b ∧ ¬ (un O (un (inBlk (Value.pointer (some ⟨p5, 0, none⟩))) nb)) b := fun b hb hs => ⟨fun h => h.elim, fun h => un_el h (fun ho => (hO b ho).1.elim (fun h => h.elim) (fun h => Nat.not_le_of_lt hb h)) (fun h => un_el h (fun h => hs (.inl h)) (fun h => False.elim h))⟩
    have ah0_0 := slRep.st k_Port_pos ah0_0 ck ha55
    have ah0_1 := slRep.st k_Endpoint_pos ah0_1 ck ha55
    have gp1n : (G F w.heap.size (un O (un (inBlk (Value.pointer (some ⟨p5, 0, none⟩))) nb))) p1 := ⟨gp1.1, (ha55 _ k4.lt gp1.2).2⟩
    have k4 := k4.ch0 ck
    have gp1 := gp1n
    have k8 := k8.ch0 ck
    have c0 := c0.then0 ck
    refine Need.one rfl rfl rfl ?_
    rintro _ e56
    obtain rfl := e56.symm
    refine Need.one rfl rfl rfl ?_
    rintro _ e57
    obtain rfl := e57.symm
    refine Need.one rfl rfl rfl ?_
    rintro _ e58
    obtain rfl := e58.symm
    refine Need.one rfl rfl rfl ?_
    rintro _ ⟨v14, e59, h15⟩
    obtain rfl := e59.symm
    refine rl_buildC (out := (Slice.c ({ key := a0.key, service := a0.service, six := a0.six, ports := y12, endpoints := [] } : Slice) v14 (Value.slice none 0 0))) [(0, (Key.enc a0.key)), (1, [(Value.string a0.service)]), (2, [(Value.bool a0.six)]), (3, [v14])] rfl (co_cons rfl (co_cons rfl (co_cons rfl (co_cons (one_toL h15.one.1) co_nil)))) pl76 Try.zeroValue76 rfl rfl rfl ?_
    exact RL.nil ⟨_, rfl, Ch.refl, ⟨v14, rfl, h15⟩⟩
   refine Each.consP ⟨fun _ O _ wx wy cc hh => by obtain ⟨p16, e, rfl, ck10_0⟩ := hh; exact ⟨p16, e, rfl, ck10_0.ch0 cc⟩, fun O wk hO ck => ?_⟩ ?_
   ·
    have d60 : ∀ b, inBlk (Value.pointer (some ⟨p5, 0, none⟩)) b → ¬ O b := fun b hu ho => (hO b ho).1.elim (fun h => h.elim) (fun h => Nat.not_le_of_lt (k8.ltp b hu) h)
    have ha61 : ∀ b, b < w6.heap.size → ¬ (un (inBlk (Value.pointer (some ⟨p5, 0, none⟩))) nb) b → ¬ nb b ∧ ¬ (un O (un (inBlk (Value.pointer (some ⟨p5, 0, none⟩))) nb)) b := fun b hb hs => ⟨fun h => h, fun h => un_el h (fun ho => (hO b ho).1.elim (fun h => h.elim) (fun h => Nat.not_le_of_lt hb h)) (fun h => un_el h (fun h => hs (.inl h)) (fun h => False.elim h))⟩
    have ah0_0 := slRep.st k_Port_pos ah0_0 ck ha61
    have ah0_1 := slRep.st k_Endpoint_pos ah0_1 ck ha61
    have gp1n : (G F w.heap.size (un O (un (inBlk (Value.pointer (some ⟨p5, 0, none⟩))) nb))) p1 := ⟨gp1.1, (ha61 _ k4.lt gp1.2).2⟩
    have k4 := k4.ch0 ck
    have gp1 := gp1n
    have k8 := k8.ch0 ck
    have c0 := c0.then0 ck
    refine rl_alloc (Slice.c Slice.z (Value.slice none 0 0) (Value.slice none 0 0)) Try.zeroValue76 rfl rfl ?_
    intro p62 w63 n64 k65
    have lo66 : ∀ b, inBlk (Value.pointer (some ⟨p62, 0, none⟩)) b → w.heap.size ≤ b := fun b h => Nat.le_trans c0.size (n64.fresh b h)
    have d67 : ∀ b, inBlk (Value.pointer (some ⟨p62, 0, none⟩)) b → ¬ O b := disNew n64.fresh (fun b h => (hO b h).2)
    have d68 : ∀ b, inBlk (Value.pointer (some ⟨p62, 0, none⟩)) b → ¬ inBlk (Value.pointer (some ⟨p5, 0, none⟩)) b := disNew n64.fresh k8.ltp
    have ah0_0 := slRep.st k_Port_pos ah0_0 n64.ch (admNew n64.fresh (fun _ x => x))
    have ah0_1 := slRep.st k_Endpoint_pos ah0_1 n64.ch (admNew n64.fresh (fun _ x => x))
    have gp1n : (G F w.heap.size (un (inBlk (Value.pointer (some ⟨p62, 0, none⟩))) (un O (un (inBlk (Value.pointer (some ⟨p5, 0, none⟩))) nb)))) p1 := ⟨gp1.1, ((admNew n64.fresh (fun _ x => x)) _ k4.lt gp1.2).2⟩
    have k4 := k4.ch0 n64.ch
    have gp1 := gp1n
    have k8 := k8.ch0 n64.ch
    have c0 := c0.then0 n64.ch
    have hb69 : ∀ b, (inBlk (Value.pointer (some ⟨p62, 0, none⟩))) b → wk.heap.size ≤ b ∧ b < w63.heap.size := fun b h => ⟨n64.fresh b h, k65.ltp b h⟩
    exact RL.nil ⟨_, (inBlk (Value.pointer (some ⟨p62, 0, none⟩))), rfl, hb69, n64.ch, ⟨p62, rfl, rfl, k65⟩⟩
   trivial
  ·
   intro hvO72 OpO72 O72 w70 hO73 c71 hN74
   obtain ⟨hlO72, hBO72⟩ := hN74 rfl
   refine Need.made rfl rfl rfl rfl ?_
   rintro _ ⟨p16, e75, eO76, ck10_0⟩ hh77
   obtain rfl := e75.symm
   have io78 : ∀ b, inBlk (Value.pointer (some ⟨p16, 0, none⟩)) b → _ := fun b h => (Eq.mpr (congrFun eO76 b) h)
   have hf79 : ∀ b, inBlk (Value.pointer (some ⟨p16, 0, none⟩)) b → w6.heap.size ≤ b := fun b h => (hBO72.2.2.1 _ b (io78 b h)).1
   obtain rfl := hist_eq [(Value.pointer (some ⟨p16, 0, none⟩))] hvO72 hlO72 ⟨hh77, trivial⟩
   have lo80 : ∀ b, inBlk (Value.pointer (some ⟨p16, 0, none⟩)) b → w.heap.size ≤ b := fun b h => Nat.le_trans c0.size (hf79 b h)
   have d81 : ∀ b, inBlk (Value.pointer (some ⟨p16, 0, none⟩)) b → ¬ inBlk (Value.pointer (some ⟨p5, 0, none⟩)) b := disNew hf79 k8.ltp
   have ah0_0 := slRep.st k_Port_pos ah0_0 hBO72.2.1 (show ∀ b, b < w6.heap.size → ¬ (un (inBlk (Value.pointer (some ⟨p5, 0, none⟩))) nb) b → ¬ nb b ∧ ¬ (un (inBlk (Value.pointer (some ⟨p16, 0, none⟩))) (un (inBlk (Value.pointer (some ⟨p5, 0, none⟩))) nb)) b from fun b hb hs => ⟨fun x => x, fun h => un_el h (fun h => Nat.not_le_of_lt hb (hf79 b h)) (fun h => hs h)⟩)
   have ah0_1 := slRep.st k_Endpoint_pos ah0_1 hBO72.2.1 (show ∀ b, b < w6.heap.size → ¬ (un (inBlk (Value.pointer (some ⟨p5, 0, none⟩))) nb) b → ¬ nb b ∧ ¬ (un (inBlk (Value.pointer (some ⟨p16, 0, none⟩))) (un (inBlk (Value.pointer (some ⟨p5, 0, none⟩))) nb)) b from fun b hb hs => ⟨fun x => x, fun h => un_el h (fun h => Nat.not_le_of_lt hb (hf79 b h)) (fun h => hs h)⟩)
   have gp1n : (G F w.heap.size (un (inBlk (Value.pointer (some ⟨p16, 0, none⟩))) (un (inBlk (Value.pointer (some ⟨p5, 0, none⟩))) nb))) p1 := ⟨gp1.1, ((show ∀ b, b < w6.heap.size → ¬ (un (inBlk (Value.pointer (some ⟨p5, 0, none⟩))) nb) b → ¬ nb b ∧ ¬ (un (inBlk (Value.pointer (some ⟨p16, 0, none⟩))) (un (inBlk (Value.pointer (some ⟨p5, 0, none⟩))) nb)) b from fun b hb hs => ⟨fun x => x, fun h => un_el h (fun h => Nat.not_le_of_lt hb (hf79 b h)) (fun h => hs h)⟩) _ k4.lt gp1.2).2⟩
   have k4 := k4.ch0 hBO72.2.1
   have gp1 := gp1n
   have k8 := k8.ch0 hBO72.2.1
   have c0 := c0.then0 hBO72.2.1
   refine Need.one rfl rfl rfl ?_
   rintro _ ⟨v14_9, e82, h15_9⟩
   obtain rfl := e82.symm
   have h15_9 := slRep.wk (F' := (G F w.heap.size (un (inBlk (Value.pointer (some ⟨p16, 0, none⟩))) (un (inBlk (Value.pointer (some ⟨p5, 0, none⟩))) nb)))) k_Port_pos h15_9 (fun b _ hf => ⟨hf.1, fun h => hf.2 (un_el h (fun h => (.inl ((hBO72.1 b).2 (.inr ⟨_, inPre rfl, io78 b h⟩)))) (fun h => un_el h (fun h => (.inr (.inl h))) (fun h => False.elim h)))⟩)
   refine rl_storeA (vs := (Slice.c ({ key := a0.key, service := a0.service, six := a0.six, ports := y12, endpoints := [] } : Slice) v14_9 (Value.slice none 0 0))) rfl rfl (Kd.one _ (show k_Slice.rep (G F w.heap.size (un (inBlk (Value.pointer (some ⟨p16, 0, none⟩))) (un (inBlk (Value.pointer (some ⟨p5, 0, none⟩))) nb))) w70 ({ key := a0.key, service := a0.service, six := a0.six, ports := y12, endpoints := [] } : Slice) (Slice.c ({ key := a0.key, service := a0.service, six := a0.six, ports := y12, endpoints := [] } : Slice) v14_9 (Value.slice none 0 0)) from ⟨v14_9, (Value.slice none 0 0), rfl, h15_9, (.inl ⟨rfl, rfl⟩)⟩)) Try.sizeOf76 rfl ck10_0 rfl ?_
   intro w83 s85 c84 k86
   have ad87 : ∀ b, b < w70.heap.size → ¬ (un (inBlk (Value.pointer (some ⟨p16, 0, none⟩))) (un (inBlk (Value.pointer (some ⟨p5, 0, none⟩))) nb)) b → ¬ (inBlk (Value.pointer (some ⟨p16, 0, none⟩))) b ∧ ¬ (un (inBlk (Value.pointer (some ⟨p16, 0, none⟩))) (un (inBlk (Value.pointer (some ⟨p5, 0, none⟩))) nb)) b := fun b _ hs => ⟨fun h => hs (.inl h), hs⟩
   have ah0_0 := slRep.st k_Port_pos ah0_0 c84 ad87
   have ah0_1 := slRep.st k_Endpoint_pos ah0_1 c84 ad87
   have k4 := k4.ch c84 (ad87 _ k4.lt gp1.2).1
   have k8 := k8.ch c84 ((fun b hb h => (disSym d81) b hb h) _ rfl)
   have h15_9 := slRep.st k_Port_pos h15_9 c84 ad87
   have c0 := c0.then c84 (fun i hi h => absurd (lo80 i h) (Nat.not_le_of_lt hi))
   refine RL.nil ?_
   refine thn_n ?_
   refine CW.seq ?_
   refine CW.seq (CW.region ?_)
   refine rl_fieldAddr rfl fa71_4 rfl ?_
   refine rl_loadS (v := az0_1) rfl Try.isAgg69 (k4.cell rfl) rfl ?_
   refine rl_lenR rfl ah0_1 Try.underlying69 rfl ?_
   refine rl_move rfl rfl ?_
   refine RL.nil ?_
   refine thn_n ?_
   have d89 : ∀ b, inBlk (Value.slice none 0 0) b → ¬ inBlk (Value.pointer (some ⟨p16, 0, none⟩)) b := fun _ h => h.elim
   have d90 : ∀ b, inBlk (Value.slice none 0 0) b → ¬ inBlk (Value.pointer (some ⟨p5, 0, none⟩)) b := fun _ h => h.elim
   have crf : Ch nb w83 w83 := Ch.refl
   have ah0_0 := slRep.st k_Port_pos ah0_0 crf admNil
   have ah0_1 := slRep.st k_Endpoint_pos ah0_1 crf admNil
   have gp1n : (G F w.heap.size (un (inBlk (Value.slice none 0 0)) (un (inBlk (Value.pointer (some ⟨p16, 0, none⟩))) (un (inBlk (Value.pointer (some ⟨p5, 0, none⟩))) nb)))) p1 := ⟨gp1.1, (admNil _ k4.lt gp1.2).2⟩
   have k4 := k4.ch0 crf
   have gp1 := gp1n
   have k8 := k8.ch0 crf
   have h15_9 := slRep.st k_Port_pos h15_9 crf admNil
   have k86 := k86.ch0 crf
   have c0 := c0.then0 crf
   have h88 : SlO k_Endpoint 89 F w.heap.size (un (inBlk (Value.slice none 0 0)) (un (inBlk (Value.pointer (some ⟨p16, 0, none⟩))) (un (inBlk (Value.pointer (some ⟨p5, 0, none⟩))) nb))) w83 ([] : List Endpoint) (.slice none 0 0) := SlO.nil
   obtain ⟨o107, ho108, hS⟩ := bindS hS
   refine CW.cutB (fun E' w' => ∃ (x91 : Slice) (v92 : Value) (v94 : Value), Sub [(2, (Value.pointer (some ⟨p5, 0, none⟩))), (3, (Value.pointer (some ⟨p16, 0, none⟩)))] E' ∧ Ch nb w w' ∧ x91 = o107 ∧ slRep k_Port (G F w.heap.size (un (inBlk v94) (un (inBlk (Value.pointer (some ⟨p16, 0, none⟩))) (un (inBlk (Value.pointer (some ⟨p5, 0, none⟩))) nb)))) w' a0.ports az0_0 ∧ slRep k_Endpoint (G F w.heap.size (un (inBlk v94) (un (inBlk (Value.pointer (some ⟨p16, 0, none⟩))) (un (inBlk (Value.pointer (some ⟨p5, 0, none⟩))) nb)))) w' a0.endpoints az0_1 ∧ Blk w' p1 71 (Slice.c a0 az0_0 az0_1) ∧ Blk w' p5 76 (Slice.c Slice.z (Value.slice none 0 0) (Value.slice none 0 0)) ∧ slRep k_Port (G F w.heap.size (un (inBlk v94) (un (inBlk (Value.pointer (some ⟨p16, 0, none⟩))) (un (inBlk (Value.pointer (some ⟨p5, 0, none⟩))) nb)))) w' x91.ports v92 ∧ SlO k_Endpoint 89 F w.heap.size (un (inBlk v94) (un (inBlk (Value.pointer (some ⟨p16, 0, none⟩))) (un (inBlk (Value.pointer (some ⟨p5, 0, none⟩))) nb))) w' x91.endpoints v94 ∧ Blk w' p16 76 (Slice.c x91 v92 v94) ∧ (G F w.heap.size (un (inBlk v94) (un (inBlk (Value.pointer (some ⟨p16, 0, none⟩))) (un (inBlk (Value.pointer (some ⟨p5, 0, none⟩))) nb)))) p1 ∧ (∀ b, inBlk v94 b → ¬ inBlk (Value.pointer (some ⟨p16, 0, none⟩)) b) ∧ (∀ b, inBlk v94 b → ¬ inBlk (Value.pointer (some ⟨p5, 0, none⟩)) b) ∧ (∀ b, inBlk (Value.pointer (some ⟨p16, 0, none⟩)) b → ¬ inBlk (Value.pointer (some ⟨p5, 0, none⟩)) b)) ?_ ?_
   ·
    refine CW.loopS [(2, (Value.pointer (some ⟨p5, 0, none⟩))), (3, (Value.pointer (some ⟨p16, 0, none⟩))), (17, az0_1), (18, (Value.int .i64 ((a0.endpoints.length : Nat) : Int))), (19, (Value.int .i64 ((0 : Nat) : Int)))] ⟨rfl, rfl, rfl, rfl, rfl, trivial⟩ a0.endpoints.length (fun m E w' => ∃ (rest100 : List Endpoint) (i101 : Nat) (x91 : Slice) (v92 : Value) (v94 : Value), m = rest100.length ∧ E = [(2, (Value.pointer (some ⟨p5, 0, none⟩))), (3, (Value.pointer (some ⟨p16, 0, none⟩))), (17, az0_1), (18, (Value.int .i64 ((a0.endpoints.length : Nat) : Int))), (19, (Value.int .i64 ((i101 : Nat) : Int)))] ∧ Ch nb w w' ∧ At a0.endpoints i101 rest100 ∧ runAO F34_linkboylaw13_Slice_b1 rest100 x91 = some o107 ∧ slRep k_Port (G F w.heap.size (un (inBlk v94) (un (inBlk (Value.pointer (some ⟨p16, 0, none⟩))) (un (inBlk (Value.pointer (some ⟨p5, 0, none⟩))) nb)))) w' a0.ports az0_0 ∧ slRep k_Endpoint (G F w.heap.size (un (inBlk v94) (un (inBlk (Value.pointer (some ⟨p16, 0, none⟩))) (un (inBlk (Value.pointer (some ⟨p5, 0, none⟩))) nb)))) w' a0.endpoints az0_1 ∧ Blk w' p1 71 (Slice.c a0 az0_0 az0_1) ∧ Blk w' p5 76 (Slice.c Slice.z (Value.slice none 0 0) (Value.slice none 0 0)) ∧ slRep k_Port (G F w.heap.size (un (inBlk v94) (un (inBlk (Value.pointer (some ⟨p16, 0, none⟩))) (un (inBlk (Value.pointer (some ⟨p5, 0, none⟩))) nb)))) w' x91.ports v92 ∧ SlO k_Endpoint 89 F w.heap.size (un (inBlk v94) (un (inBlk (Value.pointer (some ⟨p16, 0, none⟩))) (un (inBlk (Value.pointer (some ⟨p5, 0, none⟩))) nb))) w' x91.endpoints v94 ∧ Blk w' p16 76 (Slice.c x91 v92 v94) ∧ (G F w.heap.size (un (inBlk v94) (un (inBlk (Value.pointer (some ⟨p16, 0, none⟩))) (un (inBlk (Value.pointer (some ⟨p5, 0, none⟩))) nb)))) p1 ∧ (∀ b, inBlk v94 b → ¬ inBlk (Value.pointer (some ⟨p16, 0, none⟩)) b) ∧ (∀ b, inBlk v94 b → ¬ inBlk (Value.pointer (some ⟨p5, 0, none⟩)) b) ∧ (∀ b, inBlk (Value.pointer (some ⟨p16, 0, none⟩)) b → ¬ inBlk (Value.pointer (some ⟨p5, 0, none⟩)) b))
        ⟨a0.endpoints, 0, ({ key := a0.key, service := a0.service, six := a0.six, ports := y12, endpoints := [] } : Slice), v14_9, (Value.slice none 0 0), rfl, rfl, c0, At.start, ho108, ah0_0, ah0_1, k4, k8, h15_9, h88, k86, gp1, d89, d90, d81⟩ ?_
    rintro _ _ w113 ⟨rest100, i101, x91, v92, v94, rfl, rfl, c112, hat103, hL102, ah0_0, ah0_1, k4, k8, h93, h95, k96, gp1, d97, d98, d99⟩
    refine CW.seq (CW.region ?_)
    refine rl_bin rfl rfl B.lss rfl ?_
    refine RL.nil (thn_n ?_)
    refine CW.seq ?_
    refine CW.cond (t := decide (((i101 : Nat) : Int) < ((a0.endpoints.length : Nat) : Int))) rfl (fun q115 => ?_) (fun q115 => ?_)
    ·
     obtain ⟨x109, rest116, rfl⟩ := hat103.cons q115
     obtain ⟨q104, hq105⟩ := runAO_some hL102
     have hb106 := hq105
     refine CW.skip (thn_n ?_)
     refine CW.seq ?_
     refine CW.block ?_
     refine CW.seq (CW.region ?_)
     refine rl_ixR rfl ah0_1 rfl hat103.get Try.underlying69 Try.sizeOf86 rfl ?_
     intro p117 o118 cs119 hr120 hs121 hg122
     obtain ⟨z123, rfl, h124⟩ := hr120
     refine rl_loadA (cs := (Endpoint.c x109 z123)) rfl Try.isAgg86 Try.sizeOf86 (hs121) rfl rfl ?_
     refine rl_alloc (Endpoint.c Endpoint.z (Value.slice none 0 0)) Try.zeroValue86 rfl rfl ?_
     intro p125 w126 n127 k128
     have lo129 : ∀ b, inBlk (Value.pointer (some ⟨p125, 0, none⟩)) b → w.heap.size ≤ b := fun b h => Nat.le_trans c112.size (n127.fresh b h)
     have d130 : ∀ b, inBlk (Value.pointer (some ⟨p125, 0, none⟩)) b → ¬ inBlk v94 b := disNew n127.fresh (fun b hb => (h95.lt b hb).2)
     have d131 : ∀ b, inBlk (Value.pointer (some ⟨p125, 0, none⟩)) b → ¬ inBlk (Value.pointer (some ⟨p16, 0, none⟩)) b := disNew n127.fresh k96.ltp
     have d132 : ∀ b, inBlk (Value.pointer (some ⟨p125, 0, none⟩)) b → ¬ inBlk (Value.pointer (some ⟨p5, 0, none⟩)) b := disNew n127.fresh k8.ltp
     have ah0_0 := slRep.st k_Port_pos ah0_0 n127.ch (admNew n127.fresh (fun _ x => x))
     have ah0_1 := slRep.st k_Endpoint_pos ah0_1 n127.ch (admNew n127.fresh (fun _ x => x))
     have gp1n : (G F w.heap.size (un (inBlk (Value.pointer (some ⟨p125, 0, none⟩))) (un (inBlk v94) (un (inBlk (Value.pointer (some ⟨p16, 0, none⟩))) (un (inBlk (Value.pointer (some ⟨p5, 0, none⟩))) nb))))) p1 := ⟨gp1.1, ((admNew n127.fresh (fun _ x => x)) _ k4.lt gp1.2).2⟩
     have k4 := k4.ch0 n127.ch
     have gp1 := gp1n
     have k8 := k8.ch0 n127.ch
     have h93 := slRep.st k_Port_pos h93 n127.ch (admNew n127.fresh (fun _ x => x))
     have h95 := h95.st n127.ch (fun _ _ x => x) (admNew n127.fresh (fun _ x => x)) (fun b h => (.inr (.inl h)))
     have k96 := k96.ch0 n127.ch
     have h124 := slRep.st kStr_pos h124 n127.ch (admNew n127.fresh (fun _ x => x))
     have c112 := c112.then0 n127.ch
     refine rl_storeA (vs := (Endpoint.c x109 z123)) rfl rfl (Kd.one _ (show k_Endpoint.rep (G F w.heap.size (un (inBlk (Value.pointer (some ⟨p125, 0, none⟩))) (un (inBlk v94) (un (inBlk (Value.pointer (some ⟨p16, 0, none⟩))) (un (inBlk (Value.pointer (some ⟨p5, 0, none⟩))) nb))))) w126 x109 (Endpoint.c x109 z123) from ⟨z123, rfl, h124⟩)) Try.sizeOf86 rfl k128 rfl ?_
     intro w133 s135 c134 k136
     have ad137 : ∀ b, b < w126.heap.size → ¬ (un (inBlk (Value.pointer (some ⟨p125, 0, none⟩))) (un (inBlk v94) (un (inBlk (Value.pointer (some ⟨p16, 0, none⟩))) (un (inBlk (Value.pointer (some ⟨p5, 0, none⟩))) nb)))) b → ¬ (inBlk (Value.pointer (some ⟨p125, 0, none⟩))) b ∧ ¬ (un (inBlk (Value.pointer (some ⟨p125, 0, none⟩))) (un (inBlk v94) (un (inBlk (Value.pointer (some ⟨p16, 0, none⟩))) (un (inBlk (Value.pointer (some ⟨p5, 0, none⟩))) nb)))) b := fun b _ hs => ⟨fun h => hs (.inl h), hs⟩
     have ah0_0 := slRep.st k_Port_pos ah0_0 c134 ad137
     have ah0_1 := slRep.st k_Endpoint_pos ah0_1 c134 ad137
     have k4 := k4.ch c134 (ad137 _ k4.lt gp1.2).1
     have k8 := k8.ch c134 ((fun b hb h => (disSym d132) b hb h) _ rfl)
     have h93 := slRep.st k_Port_pos h93 c134 ad137
     have h95 := h95.st c134 (fun b hb h => (disSym d130) b hb h) ad137 (fun b h => (.inr (.inl h)))
     have k96 := k96.ch c134 ((fun b hb h => (disSym d131) b hb h) _ rfl)
     have h124 := slRep.st kStr_pos h124 c134 ad137
     have c112 := c112.then c134 (fun i hi h => absurd (lo129 i h) (Nat.not_le_of_lt hi))
     refine RL.nil ?_
     refine thn_n ?_
     refine CW.region ?_
     refine rl_fieldAddr rfl fa76_4 rfl ?_
     refine rl_loadS (v := v94) rfl Try.isAgg74 (k96.cell rfl) rfl ?_
     refine rl_loadA (cs := (Endpoint.c x109 z123)) rfl Try.isAgg86 Try.sizeOf86 (k136.segAt 0 22) rfl rfl ?_
     refine rl_bslice (k := k_Endpoint) (F := F) (B := w.heap.size) (S := (un (inBlk (Value.pointer (some ⟨p125, 0, none⟩))) (un (inBlk v94) (un (inBlk (Value.pointer (some ⟨p16, 0, none⟩))) (un (inBlk (Value.pointer (some ⟨p5, 0, none⟩))) nb))))) ([x109] : List Endpoint) rfl k_Endpoint_pos Try.underlying74 Try.sizeOf89 Try.zeroValue89 rfl rfl ⟨rfl, ⟨z123, rfl, h124⟩, trivial⟩ c112.size (un_lt k136.ltp (un_lt (fun b hb => (h95.lt b hb).2) (un_lt k96.ltp (un_lt k8.ltp nbS)))) rfl ?_
     intro v138 w139 c140 hf141 h142
     have h142 := h142.readNew k_Endpoint_pos hf141 (un_lt k136.ltp (un_lt (fun b hb => (h95.lt b hb).2) (un_lt k96.ltp (un_lt k8.ltp nbS))))
     have ah0_0 := slRep.ch k_Port_pos ah0_0 c140
     have ah0_1 := slRep.ch k_Endpoint_pos ah0_1 c140
     have k4 := k4.ch0 c140
     have k8 := k8.ch0 c140
     have h93 := slRep.ch k_Port_pos h93 c140
     have h95 := h95.ch0 c140
     have k96 := k96.ch0 c140
     have h124 := slRep.ch kStr_pos h124 c140
     have k136 := k136.ch0 c140
     have c112 := c112.then0 c140
     obtain ⟨z151, hz152, hb106⟩ := bindS hb106
     have hl := (apO_get hz152).1
     refine rl_append (k := k_Endpoint) (T := 89) (F := F) (B := w.heap.size) (S := (un (inBlk (Value.pointer (some ⟨p125, 0, none⟩))) (un (inBlk v94) (un (inBlk (Value.pointer (some ⟨p16, 0, none⟩))) (un (inBlk (Value.pointer (some ⟨p5, 0, none⟩))) nb))))) (S2 := (un (inBlk (Value.pointer (some ⟨p125, 0, none⟩))) (un (inBlk (Value.pointer (some ⟨p16, 0, none⟩))) (un (inBlk (Value.pointer (some ⟨p5, 0, none⟩))) nb)))) (fun v => (un (inBlk (Value.pointer (some ⟨p125, 0, none⟩))) (un (inBlk v) (un (inBlk (Value.pointer (some ⟨p16, 0, none⟩))) (un (inBlk (Value.pointer (some ⟨p5, 0, none⟩))) nb))))) rfl rfl k_Endpoint_pos ap74 h95 h142 (fun _ => un_swap) (fun _ _ => un_swap) hl c112.size (un_lt k136.ltp (un_lt (fun b hb => (h95.lt b hb).2) (un_lt k96.ltp (un_lt k8.ltp nbS)))) rfl ?_
     intro v145 w146 h147 c148 hf149 ha150
     have d153 : ∀ b, inBlk v145 b → ¬ inBlk (Value.pointer (some ⟨p125, 0, none⟩)) b := disApp hf149 (disSym d130) k136.ltp
     have d154 : ∀ b, inBlk v145 b → ¬ inBlk (Value.pointer (some ⟨p16, 0, none⟩)) b := disApp hf149 d97 k96.ltp
     have d155 : ∀ b, inBlk v145 b → ¬ inBlk (Value.pointer (some ⟨p5, 0, none⟩)) b := disApp hf149 d98 k8.ltp
     have ah0_0 := slRep.st k_Port_pos ah0_0 c148 ha150
     have ah0_1 := slRep.st k_Endpoint_pos ah0_1 c148 ha150
     have gp1n : (G F w.heap.size (un (inBlk (Value.pointer (some ⟨p125, 0, none⟩))) (un (inBlk v145) (un (inBlk (Value.pointer (some ⟨p16, 0, none⟩))) (un (inBlk (Value.pointer (some ⟨p5, 0, none⟩))) nb))))) p1 := ⟨gp1.1, (ha150 _ k4.lt gp1.2).2⟩
     have k4 := k4.ch c148 (ha150 _ k4.lt gp1.2).1
     have gp1 := gp1n
     have k8 := k8.ch c148 ((fun b hb h => (disSym d98) b hb h) _ rfl)
     have h93 := slRep.st k_Port_pos h93 c148 ha150
     have k96 := k96.ch c148 ((fun b hb h => (disSym d97) b hb h) _ rfl)
     have h124 := slRep.st kStr_pos h124 c148 ha150
     have k136 := k136.ch c148 ((fun b hb h => d130 b hb h) _ rfl)
     have h142 := slRep.st k_Endpoint_pos h142 c148 ha150
     have c112 := c112.then c148 (fun i hi h => absurd ((fun b hb => (h95.lt b hb).1) i h) (Nat.not_le_of_lt hi))
     refine rl_fieldAddr rfl fa76_4 rfl ?_
     refine rl_storeS (u := v145) rfl rfl h147.one Try.sizeOf74 k96 rfl ?_
     intro w156 s158 c157 k159
     have ad160 : ∀ b, b < w146.heap.size → ¬ (un (inBlk (Value.pointer (some ⟨p125, 0, none⟩))) (un (inBlk v145) (un (inBlk (Value.pointer (some ⟨p16, 0, none⟩))) (un (inBlk (Value.pointer (some ⟨p5, 0, none⟩))) nb)))) b → ¬ (inBlk (Value.pointer (some ⟨p16, 0, none⟩))) b ∧ ¬ (un (inBlk (Value.pointer (some ⟨p125, 0, none⟩))) (un (inBlk v145) (un (inBlk (Value.pointer (some ⟨p16, 0, none⟩))) (un (inBlk (Value.pointer (some ⟨p5, 0, none⟩))) nb)))) b := fun b _ hs => ⟨fun h => hs (.inr (.inr (.inl h))), hs⟩
     have ah0_0 := slRep.st k_Port_pos ah0_0 c157 ad160
     have ah0_1 := slRep.st k_Endpoint_pos ah0_1 c157 ad160
     have k4 := k4.ch c157 (ad160 _ k4.lt gp1.2).1
     have k8 := k8.ch c157 ((fun b hb h => (disSym d99) b hb h) _ rfl)
     have h93 := slRep.st k_Port_pos h93 c157 ad160
     have h124 := slRep.st kStr_pos h124 c157 ad160
     have k136 := k136.ch c157 ((fun b hb h => d131 b hb h) _ rfl)
     have h142 := slRep.st k_Endpoint_pos h142 c157 ad160
     have h147 := h147.st c157 (fun b hb h => d154 b hb h) ad160 (fun b h => (.inr (.inl h)))
     have c112 := c112.then c157 (fun i hi h => absurd (lo80 i h) (Nat.not_le_of_lt hi))
     refine RL.nil ?_
     refine inB_n ?_
     refine thn_n ?_
     refine CW.region ?_
     refine rl_inc rfl hat103.lt ah0_1.big rfl ?_
     refine rl_move rfl rfl ?_
     refine RL.nil ?_
     refine thn_n ?_
     have crf : Ch nb w156 w156 := Ch.refl
     have ah0_0 := slRep.st k_Port_pos ah0_0 crf (show ∀ b, b < w156.heap.size → ¬ (un (inBlk (Value.pointer (some ⟨p125, 0, none⟩))) (un (inBlk v145) (un (inBlk (Value.pointer (some ⟨p16, 0, none⟩))) (un (inBlk (Value.pointer (some ⟨p5, 0, none⟩))) nb)))) b → ¬ nb b ∧ ¬ (un (inBlk v145) (un (inBlk (Value.pointer (some ⟨p16, 0, none⟩))) (un (inBlk (Value.pointer (some ⟨p5, 0, none⟩))) nb))) b from fun b _ hs => ⟨fun x => x, fun h => hs (un_el h (fun h => (.inr (.inl h))) (fun h => un_el h (fun h => (.inr (.inr (.inl h)))) (fun h => un_el h (fun h => (.inr (.inr (.inr (.inl h))))) (fun h => False.elim h))))⟩)
     have ah0_1 := slRep.st k_Endpoint_pos ah0_1 crf (show ∀ b, b < w156.heap.size → ¬ (un (inBlk (Value.pointer (some ⟨p125, 0, none⟩))) (un (inBlk v145) (un (inBlk (Value.pointer (some ⟨p16, 0, none⟩))) (un (inBlk (Value.pointer (some ⟨p5, 0, none⟩))) nb)))) b → ¬ nb b ∧ ¬ (un (inBlk v145) (un (inBlk (Value.pointer (some ⟨p16, 0, none⟩))) (un (inBlk (Value.pointer (some ⟨p5, 0, none⟩))) nb))) b from fun b _ hs => ⟨fun x => x, fun h => hs (un_el h (fun h => (.inr (.inl h))) (fun h => un_el h (fun h => (.inr (.inr (.inl h)))) (fun h => un_el h (fun h => (.inr (.inr (.inr (.inl h))))) (fun h => False.elim h))))⟩)
     have gp1n : (G F w.heap.size (un (inBlk v145) (un (inBlk (Value.pointer (some ⟨p16, 0, none⟩))) (un (inBlk (Value.pointer (some ⟨p5, 0, none⟩))) nb)))) p1 := ⟨gp1.1, ((show ∀ b, b < w156.heap.size → ¬ (un (inBlk (Value.pointer (some ⟨p125, 0, none⟩))) (un (inBlk v145) (un (inBlk (Value.pointer (some ⟨p16, 0, none⟩))) (un (inBlk (Value.pointer (some ⟨p5, 0, none⟩))) nb)))) b → ¬ nb b ∧ ¬ (un (inBlk v145) (un (inBlk (Value.pointer (some ⟨p16, 0, none⟩))) (un (inBlk (Value.pointer (some ⟨p5, 0, none⟩))) nb))) b from fun b _ hs => ⟨fun x => x, fun h => hs (un_el h (fun h => (.inr (.inl h))) (fun h => un_el h (fun h => (.inr (.inr (.inl h)))) (fun h => un_el h (fun h => (.inr (.inr (.inr (.inl h))))) (fun h => False.elim h))))⟩) _ k4.lt gp1.2).2⟩
     have k4 := k4.ch0 crf
     have gp1 := gp1n
     have k8 := k8.ch0 crf
     have h93 := slRep.st k_Port_pos h93 crf (show ∀ b, b < w156.heap.size → ¬ (un (inBlk (Value.pointer (some ⟨p125, 0, none⟩))) (un (inBlk v145) (un (inBlk (Value.pointer (some ⟨p16, 0, none⟩))) (un (inBlk (Value.pointer (some ⟨p5, 0, none⟩))) nb)))) b → ¬ nb b ∧ ¬ (un (inBlk v145) (un (inBlk (Value.pointer (some ⟨p16, 0, none⟩))) (un (inBlk (Value.pointer (some ⟨p5, 0, none⟩))) nb))) b from fun b _ hs => ⟨fun x => x, fun h => hs (un_el h (fun h => (.inr (.inl h))) (fun h => un_el h (fun h => (.inr (.inr (.inl h)))) (fun h => un_el h (fun h => (.inr (.inr (.inr (.inl h))))) (fun h => False.elim h))))⟩)
     have h124 := slRep.st kStr_pos h124 crf (show ∀ b, b < w156.heap.size → ¬ (un (inBlk (Value.pointer (some ⟨p125, 0, none⟩))) (un (inBlk v145) (un (inBlk (Value.pointer (some ⟨p16, 0, none⟩))) (un (inBlk (Value.pointer (some ⟨p5, 0, none⟩))) nb)))) b → ¬ nb b ∧ ¬ (un (inBlk v145) (un (inBlk (Value.pointer (some ⟨p16, 0, none⟩))) (un (inBlk (Value.pointer (some ⟨p5, 0, none⟩))) nb))) b from fun b _ hs => ⟨fun x => x, fun h => hs (un_el h (fun h => (.inr (.inl h))) (fun h => un_el h (fun h => (.inr (.inr (.inl h)))) (fun h => un_el h (fun h => (.inr (.inr (.inr (.inl h))))) (fun h => False.elim h))))⟩)
     have h142 := slRep.st k_Endpoint_pos h142 crf (show ∀ b, b < w156.heap.size → ¬ (un (inBlk (Value.pointer (some ⟨p125, 0, none⟩))) (un (inBlk v145) (un (inBlk (Value.pointer (some ⟨p16, 0, none⟩))) (un (inBlk (Value.pointer (some ⟨p5, 0, none⟩))) nb)))) b → ¬ nb b ∧ ¬ (un (inBlk v145) (un (inBlk (Value.pointer (some ⟨p16, 0, none⟩))) (un (inBlk (Value.pointer (some ⟨p5, 0, none⟩))) nb))) b from fun b _ hs => ⟨fun x => x, fun h => hs (un_el h (fun h => (.inr (.inl h))) (fun h => un_el h (fun h => (.inr (.inr (.inl h)))) (fun h => un_el h (fun h => (.inr (.inr (.inr (.inl h))))) (fun h => False.elim h))))⟩)
     have h147 := h147.st crf (fun _ _ x => x) (show ∀ b, b < w156.heap.size → ¬ (un (inBlk (Value.pointer (some ⟨p125, 0, none⟩))) (un (inBlk v145) (un (inBlk (Value.pointer (some ⟨p16, 0, none⟩))) (un (inBlk (Value.pointer (some ⟨p5, 0, none⟩))) nb)))) b → ¬ nb b ∧ ¬ (un (inBlk v145) (un (inBlk (Value.pointer (some ⟨p16, 0, none⟩))) (un (inBlk (Value.pointer (some ⟨p5, 0, none⟩))) nb))) b from fun b _ hs => ⟨fun x => x, fun h => hs (un_el h (fun h => (.inr (.inl h))) (fun h => un_el h (fun h => (.inr (.inr (.inl h)))) (fun h => un_el h (fun h => (.inr (.inr (.inr (.inl h))))) (fun h => False.elim h))))⟩) (fun b h => (.inl h))
     have k159 := k159.ch0 crf
     have c112 := c112.then0 crf
     have hLn := runAO_next hL102 hq105 hb106
     exact ⟨rest116.length, Nat.lt_succ_self _, [(2, (Value.pointer (some ⟨p5, 0, none⟩))), (3, (Value.pointer (some ⟨p16, 0, none⟩))), (17, az0_1), (18, (Value.int .i64 ((a0.endpoints.length : Nat) : Int))), (19, (Value.int .i64 ((i101 + 1 : Nat) : Int)))], ⟨rfl, rfl, rfl, rfl, rfl, trivial⟩, ⟨rest116, i101 + 1, ({ key := x91.key, service := x91.service, six := x91.six, ports := x91.ports, endpoints := x91.endpoints ++ [x109] } : Slice), v92, v145, rfl, rfl, c112, hat103.next, hLn, ah0_0, ah0_1, k4, k8, h93, h147, k159, gp1, d154, d155, d99⟩⟩
    ·
     obtain rfl := hat103.nil q115
     have hLf : x91 = o107 := runAO_done hL102
     refine CW.exit (thn_exit (thn_exit (inB_hit ?_)))
     exact ⟨x91, v92, v94, ⟨rfl, rfl, trivial⟩, c112, hLf, ah0_0, ah0_1, k4, k8, h93, h95, k96, gp1, d97, d98, d99⟩
   ·
    rintro _ w162 ⟨x91, v92, v94, hE163, c161, f164, ah0_0, ah0_1, k4, k8, h93, h95, k96, gp1, d97, d98, d99⟩
    subst f164
    refine thn_n (CW.sub [(2, (Value.pointer (some ⟨p5, 0, none⟩))), (3, (Value.pointer (some ⟨p16, 0, none⟩)))] hE163 ?_)
    refine CW.seq (CW.region ?_)
    refine rl_loadA (cs := (Slice.c x91 v92 v94)) rfl Try.isAgg76 Try.sizeOf76 (k96.segAt 0 6) rfl rfl ?_
    have h95 := SlO.read (S' := (un (inBlk (Value.pointer (some ⟨p16, 0, none⟩))) (un (inBlk (Value.pointer (some ⟨p5, 0, none⟩))) nb))) k_Endpoint_pos h95 (fun b hs h => hs (un_el h (fun h => (.inr (.inl h))) (fun h => un_el h (fun h => (.inr (.inr (.inl h)))) (fun h => False.elim h)))) (fun b hb => fun h => un_el h (fun h => d97 b hb h) (fun h => un_el h (fun h => d98 b hb h) (fun h => h)))
    have crf : Ch nb w162 w162 := Ch.refl
    have ah0_0 := slRep.st k_Port_pos ah0_0 crf (show ∀ b, b < w162.heap.size → ¬ (un (inBlk v94) (un (inBlk (Value.pointer (some ⟨p16, 0, none⟩))) (un (inBlk (Value.pointer (some ⟨p5, 0, none⟩))) nb))) b → ¬ nb b ∧ ¬ (un (inBlk (Value.pointer (some ⟨p16, 0, none⟩))) (un (inBlk (Value.pointer (some ⟨p5, 0, none⟩))) nb)) b from fun b _ hs => ⟨fun x => x, fun h => hs (un_el h (fun h => (.inr (.inl h))) (fun h => un_el h (fun h => (.inr (.inr (.inl h)))) (fun h => False.elim h)))⟩)
    have ah0_1 := slRep.st k_Endpoint_pos ah0_1 crf (show ∀ b, b < w162.heap.size → ¬ (un (inBlk v94) (un (inBlk (Value.pointer (some ⟨p16, 0, none⟩))) (un (inBlk (Value.pointer (some ⟨p5, 0, none⟩))) nb))) b → ¬ nb b ∧ ¬ (un (inBlk (Value.pointer (some ⟨p16, 0, none⟩))) (un (inBlk (Value.pointer (some ⟨p5, 0, none⟩))) nb)) b from fun b _ hs => ⟨fun x => x, fun h => hs (un_el h (fun h => (.inr (.inl h))) (fun h => un_el h (fun h => (.inr (.inr (.inl h)))) (fun h => False.elim h)))⟩)
    have gp1n : (G F w.heap.size (un (inBlk (Value.pointer (some ⟨p16, 0, none⟩))) (un (inBlk (Value.pointer (some ⟨p5, 0, none⟩))) nb))) p1 := ⟨gp1.1, ((show ∀ b, b < w162.heap.size → ¬ (un (inBlk v94) (un (inBlk (Value.pointer (some ⟨p16, 0, none⟩))) (un (inBlk (Value.pointer (some ⟨p5, 0, none⟩))) nb))) b → ¬ nb b ∧ ¬ (un (inBlk (Value.pointer (some ⟨p16, 0, none⟩))) (un (inBlk (Value.pointer (some ⟨p5, 0, none⟩))) nb)) b from fun b _ hs => ⟨fun x => x, fun h => hs (un_el h (fun h => (.inr (.inl h))) (fun h => un_el h (fun h => (.inr (.inr (.inl h)))) (fun h => False.elim h)))⟩) _ k4.lt gp1.2).2⟩
    have k4 := k4.ch0 crf
    have gp1 := gp1n
    have k8 := k8.ch0 crf
    have h93 := slRep.st k_Port_pos h93 crf (show ∀ b, b < w162.heap.size → ¬ (un (inBlk v94) (un (inBlk (Value.pointer (some ⟨p16, 0, none⟩))) (un (inBlk (Value.pointer (some ⟨p5, 0, none⟩))) nb))) b → ¬ nb b ∧ ¬ (un (inBlk (Value.pointer (some ⟨p16, 0, none⟩))) (un (inBlk (Value.pointer (some ⟨p5, 0, none⟩))) nb)) b from fun b _ hs => ⟨fun x => x, fun h => hs (un_el h (fun h => (.inr (.inl h))) (fun h => un_el h (fun h => (.inr (.inr (.inl h)))) (fun h => False.elim h)))⟩)
    have k96 := k96.ch0 crf
    have c161 := c161.then0 crf
    refine rl_storeA (vs := (Slice.c x91 v92 v94)) rfl rfl (Kd.one _ (show k_Slice.rep (G F w.heap.size (un (inBlk (Value.pointer (some ⟨p16, 0, none⟩))) (un (inBlk (Value.pointer (some ⟨p5, 0, none⟩))) nb))) w162 x91 (Slice.c x91 v92 v94) from ⟨v92, v94, rfl, h93, h95⟩)) Try.sizeOf76 rfl k8 rfl ?_
    intro w166 s168 c167 k169
    have ad170 : ∀ b, b < w162.heap.size → ¬ (un (inBlk (Value.pointer (some ⟨p16, 0, none⟩))) (un (inBlk (Value.pointer (some ⟨p5, 0, none⟩))) nb)) b → ¬ (inBlk (Value.pointer (some ⟨p5, 0, none⟩))) b ∧ ¬ (un (inBlk (Value.pointer (some ⟨p16, 0, none⟩))) (un (inBlk (Value.pointer (some ⟨p5, 0, none⟩))) nb)) b := fun b _ hs => ⟨fun h => hs (.inr (.inl h)), hs⟩
    have ah0_0 := slRep.st k_Port_pos ah0_0 c167 ad170
    have ah0_1 := slRep.st k_Endpoint_pos ah0_1 c167 ad170
    have k4 := k4.ch c167 (ad170 _ k4.lt gp1.2).1
    have h93 := slRep.st k_Port_pos h93 c167 ad170
    have k96 := k96.ch c167 ((fun b hb h => d99 b hb h) _ rfl)
    have h95 := slRep.st k_Endpoint_pos h95 c167 ad170
    have c161 := c161.then c167 (fun i hi h => absurd (lo9 i h) (Nat.not_le_of_lt hi))
    refine RL.nil ?_
    refine thn_n ?_
    refine CW.ret ?_
    obtain rfl := Option.some.inj hS
    exact ⟨[_], ⟨Res1.agg (cs := (Slice.c x91 v92 v94)) rfl Try.isAgg76 Try.sizeOf76 (k169.segAt 0 6) rfl, trivial⟩, ⟨v92, v94, rfl, slRep.out k_Port_pos h93, slRep.out k_Endpoint_pos h95, c161⟩⟩
/-- lb/lblaw17.Slices -/
theorem ctr17 (F : Nat → Prop) (w : World) (a0 : (List Slice)) (av0 : Value) (ah0 : slRep k_Slice F w a0 av0) (r : (List Slice)) (hs : F17_linkboylaw17_Slices a0 = some r) :
    Ret Try.prog 17 #[av0] w fun v w' => ∃ (y0 : Value), v = y0 ∧ SlO k_Slice 76 F w.heap.size (inBlk y0) w' r y0 ∧ Ch nb w w' := by
  have hS := hs
  have c0 : Ch nb w w := Ch.refl
  have ah0 := slRep.enter k_Slice_pos ah0
  refine Ret.of (n := 20) (args := [_]) (rs := [.tmp 2]) Try.func17 rfl rfl rfl rfl ?_
  refine CW.seq (CW.region ?_)
  refine rl_assign rfl rfl ?_
  refine RL.nil ?_
  refine thn_n ?_
  refine CW.seq (CW.region ?_)
  refine rl_bslice (k := k_Slice) (F := F) (B := w.heap.size) (S := nb) ([] : List Slice) rfl k_Slice_pos Try.underlying48 Try.sizeOf76 Try.zeroValue76 rfl rfl trivial c0.size nbS rfl ?_
  intro v1 w2 c3 hf4 h5
  have ah0 := slRep.st k_Slice_pos ah0 c3 (admNew hf4 (fun _ x => x))
  have c0 := c0.then0 c3
  refine rl_assign rfl rfl ?_
  refine RL.nil ?_
  refine thn_n ?_
  refine CW.seq ?_
  refine CW.seq (CW.region ?_)
  refine rl_move rfl rfl ?_
  refine rl_lenR rfl ah0 Try.underlying46 rfl ?_
  refine rl_move rfl rfl ?_
  refine RL.nil ?_
  refine thn_n ?_
  obtain ⟨o16, ho17, hS⟩ := bindS hS
  refine CW.cutB (fun E' w' => ∃ (x6 : (List Slice)) (v7 : Value), Sub [(3, v7)] E' ∧ Ch nb w w' ∧ x6 = o16 ∧ slRep k_Slice (G F w.heap.size (un (inBlk v7) nb)) w' a0 av0 ∧ SlO k_Slice 76 F w.heap.size (un (inBlk v7) nb) w' x6 v7) ?_ ?_
  ·
   refine CW.loopS [(7, av0), (8, (Value.int .i64 ((a0.length : Nat) : Int))), (3, v1), (9, (Value.int .i64 ((0 : Nat) : Int)))] ⟨rfl, rfl, rfl, rfl, trivial⟩ a0.length (fun m E w' => ∃ (rest9 : List Slice) (i10 : Nat) (x6 : (List Slice)) (v7 : Value), m = rest9.length ∧ E = [(7, av0), (8, (Value.int .i64 ((a0.length : Nat) : Int))), (3, v7), (9, (Value.int .i64 ((i10 : Nat) : Int)))] ∧ Ch nb w w' ∧ At a0 i10 rest9 ∧ runAO F17_linkboylaw17_Slices_b1 rest9 x6 = some o16 ∧ slRep k_Slice (G F w.heap.size (un (inBlk v7) nb)) w' a0 av0 ∧ SlO k_Slice 76 F w.heap.size (un (inBlk v7) nb) w' x6 v7)
       ⟨a0, 0, [], v1, rfl, rfl, c0, At.start, ho17, ah0, h5⟩ ?_
   rintro _ _ w22 ⟨rest9, i10, x6, v7, rfl, rfl, c21, hat12, hL11, ah0, h8⟩
   refine CW.seq (CW.region ?_)
   refine rl_bin rfl rfl B.lss rfl ?_
   refine RL.nil (thn_n ?_)
   refine CW.seq ?_
   refine CW.cond (t := decide (((i10 : Nat) : Int) < ((a0.length : Nat) : Int))) rfl (fun q24 => ?_) (fun q24 => ?_)
   ·
    obtain ⟨x18, rest25, rfl⟩ := hat12.cons q24
    obtain ⟨q13, hq14⟩ := runAO_some hL11
    have hb15 := hq14
    refine CW.skip (thn_n ?_)
    refine CW.seq ?_
    refine CW.block ?_
    refine CW.seq (CW.region ?_)
    refine rl_ixR rfl ah0 rfl hat12.get Try.underlying46 Try.sizeOf71 rfl ?_
    intro p26 o27 cs28 hr29 hs30 hg31
    obtain ⟨z32, z33, rfl, h34, h35⟩ := hr29
    refine rl_loadA (cs := (Slice.c x18 z32 z33)) rfl Try.isAgg71 Try.sizeOf71 (hs30) rfl rfl ?_
    refine rl_alloc (Slice.c Slice.z (Value.slice none 0 0) (Value.slice none 0 0)) Try.zeroValue71 rfl rfl ?_
    intro p36 w37 n38 k39
    have lo40 : ∀ b, inBlk (Value.pointer (some ⟨p36, 0, none⟩)) b → w.heap.size ≤ b := fun b h => Nat.le_trans c21.size (n38.fresh b h)
    have d41 : ∀ b, inBlk (Value.pointer (some ⟨p36, 0, none⟩)) b → ¬ inBlk v7 b := disNew n38.fresh (fun b hb => (h8.lt b hb).2)
    have ah0 := slRep.st k_Slice_pos ah0 n38.ch (admNew n38.fresh (fun _ x => x))
    have h8 := h8.st n38.ch (fun _ _ x => x) (admNew n38.fresh (fun _ x => x)) (fun b h => (.inr (.inl h)))
    have h34 := slRep.st k_Port_pos h34 n38.ch (admNew n38.fresh (fun _ x => x))
    have h35 := slRep.st k_Endpoint_pos h35 n38.ch (admNew n38.fresh (fun _ x => x))
    have c21 := c21.then0 n38.ch
    refine rl_storeA (vs := (Slice.c x18 z32 z33)) rfl rfl (Kd.one _ (show k_Slice.rep (G F w.heap.size (un (inBlk (Value.pointer (some ⟨p36, 0, none⟩))) (un (inBlk v7) nb))) w37 x18 (Slice.c x18 z32 z33) from ⟨z32, z33, rfl, h34, h35⟩)) Try.sizeOf71 rfl k39 rfl ?_
    intro w42 s44 c43 k45
    have ad46 : ∀ b, b < w37.heap.size → ¬ (un (inBlk (Value.pointer (some ⟨p36, 0, none⟩))) (un (inBlk v7) nb)) b → ¬ (inBlk (Value.pointer (some ⟨p36, 0, none⟩))) b ∧ ¬ (un (inBlk (Value.pointer (some ⟨p36, 0, none⟩))) (un (inBlk v7) nb)) b := fun b _ hs => ⟨fun h => hs (.inl h), hs⟩
    have ah0 := slRep.st k_Slice_pos ah0 c43 ad46
    have h8 := h8.st c43 (fun b hb h => (disSym d41) b hb h) ad46 (fun b h => (.inr (.inl h)))
    have h34 := slRep.st k_Port_pos h34 c43 ad46
    have h35 := slRep.st k_Endpoint_pos h35 c43 ad46
    have c21 := c21.then c43 (fun i hi h => absurd (lo40 i h) (Nat.not_le_of_lt hi))
    refine RL.nil ?_
    refine thn_n ?_
    refine CW.region ?_
    refine rl_move rfl rfl ?_
    refine rl_loadA (cs := (Slice.c x18 z32 z33)) rfl Try.isAgg71 Try.sizeOf71 (k45.segAt 0 6) rfl rfl ?_
    obtain ⟨y49, hy50, hb15⟩ := bindS hb15
    refine rl_callF rfl en34 rfl (ctr34 (G F w.heap.size (un (inBlk (Value.pointer (some ⟨p36, 0, none⟩))) (un (inBlk v7) nb))) w42 x18 z32 z33 h34 h35 y49 hy50) ?_
    rintro _ w47 ⟨z51, z52, rfl, h53, h54, c48⟩
    have h53 := slRep.back k_Port_pos h53 (un_lt k45.ltp (un_lt (fun b hb => (h8.lt b hb).2) nbS)) c21.size
    have h54 := slRep.back k_Endpoint_pos h54 (un_lt k45.ltp (un_lt (fun b hb => (h8.lt b hb).2) nbS)) c21.size
    have ah0 := slRep.ch k_Slice_pos ah0 c48
    have h8 := h8.ch0 c48
    have h34 := slRep.ch k_Port_pos h34 c48
    have h35 := slRep.ch k_Endpoint_pos h35 c48
    have k45 := k45.ch0 c48
    have c21 := c21.then0 c48
    refine rl_bslice (k := k_Slice) (F := F) (B := w.heap.size) (S := (un (inBlk (Value.pointer (some ⟨p36, 0, none⟩))) (un (inBlk v7) nb))) ([y49] : List Slice) rfl k_Slice_pos Try.underlying48 Try.sizeOf76 Try.zeroValue76 rfl rfl ⟨rfl, ⟨z51, z52, rfl, h53, h54⟩, trivial⟩ c21.size (un_lt k45.ltp (un_lt (fun b hb => (h8.lt b hb).2) nbS)) rfl ?_
    intro v55 w56 c57 hf58 h59
    have h59 := h59.readNew k_Slice_pos hf58 (un_lt k45.ltp (un_lt (fun b hb => (h8.lt b hb).2) nbS))
    have ah0 := slRep.ch k_Slice_pos ah0 c57
    have h8 := h8.ch0 c57
    have h34 := slRep.ch k_Port_pos h34 c57
    have h35 := slRep.ch k_Endpoint_pos h35 c57
    have k45 := k45.ch0 c57
    have h53 := slRep.ch k_Port_pos h53 c57
    have h54 := slRep.ch k_Endpoint_pos h54 c57
    have c21 := c21.then0 c57
    obtain ⟨z68, hz69, hb15⟩ := bindS hb15
    have hl := (apO_get hz69).1
    refine rl_append (k := k_Slice) (T := 76) (F := F) (B := w.heap.size) (S := (un (inBlk (Value.pointer (some ⟨p36, 0, none⟩))) (un (inBlk v7) nb))) (S2 := (un (inBlk (Value.pointer (some ⟨p36, 0, none⟩))) nb)) (fun v => (un (inBlk (Value.pointer (some ⟨p36, 0, none⟩))) (un (inBlk v) nb))) rfl rfl k_Slice_pos ap48 h8 h59 (fun _ => un_swap) (fun _ _ => un_swap) hl c21.size (un_lt k45.ltp (un_lt (fun b hb => (h8.lt b hb).2) nbS)) rfl ?_
    intro v62 w63 h64 c65 hf66 ha67
    have d70 : ∀ b, inBlk v62 b → ¬ inBlk (Value.pointer (some ⟨p36, 0, none⟩)) b := disApp hf66 (disSym d41) k45.ltp
    have ah0 := slRep.st k_Slice_pos ah0 c65 ha67
    have h34 := slRep.st k_Port_pos h34 c65 ha67
    have h35 := slRep.st k_Endpoint_pos h35 c65 ha67
    have k45 := k45.ch c65 ((fun b hb h => d41 b hb h) _ rfl)
    have h53 := slRep.st k_Port_pos h53 c65 ha67
    have h54 := slRep.st k_Endpoint_pos h54 c65 ha67
    have h59 := slRep.st k_Slice_pos h59 c65 ha67
    have c21 := c21.then c65 (fun i hi h => absurd ((fun b hb => (h8.lt b hb).1) i h) (Nat.not_le_of_lt hi))
    refine rl_assign rfl rfl ?_
    refine RL.nil ?_
    refine inB_n ?_
    refine thn_n ?_
    refine CW.region ?_
    refine rl_inc rfl hat12.lt ah0.big rfl ?_
    refine rl_move rfl rfl ?_
    refine RL.nil ?_
    refine thn_n ?_
    have crf : Ch nb w63 w63 := Ch.refl
    have ah0 := slRep.st k_Slice_pos ah0 crf (show ∀ b, b < w63.heap.size → ¬ (un (inBlk (Value.pointer (some ⟨p36, 0, none⟩))) (un (inBlk v62) nb)) b → ¬ nb b ∧ ¬ (un (inBlk v62) nb) b from fun b _ hs => ⟨fun x => x, fun h => hs (un_el h (fun h => (.inr (.inl h))) (fun h => False.elim h))⟩)
    have h34 := slRep.st k_Port_pos h34 crf (show ∀ b, b < w63.heap.size → ¬ (un (inBlk (Value.pointer (some ⟨p36, 0, none⟩))) (un (inBlk v62) nb)) b → ¬ nb b ∧ ¬ (un (inBlk v62) nb) b from fun b _ hs => ⟨fun x => x, fun h => hs (un_el h (fun h => (.inr (.inl h))) (fun h => False.elim h))⟩)
    have h35 := slRep.st k_Endpoint_pos h35 crf (show ∀ b, b < w63.heap.size → ¬ (un (inBlk (Value.pointer (some ⟨p36, 0, none⟩))) (un (inBlk v62) nb)) b → ¬ nb b ∧ ¬ (un (inBlk v62) nb) b from fun b _ hs => ⟨fun x => x, fun h => hs (un_el h (fun h => (.inr (.inl h))) (fun h => False.elim h))⟩)
    have h53 := slRep.st k_Port_pos h53 crf (show ∀ b, b < w63.heap.size → ¬ (un (inBlk (Value.pointer (some ⟨p36, 0, none⟩))) (un (inBlk v62) nb)) b → ¬ nb b ∧ ¬ (un (inBlk v62) nb) b from fun b _ hs => ⟨fun x => x, fun h => hs (un_el h (fun h => (.inr (.inl h))) (fun h => False.elim h))⟩)
    have h54 := slRep.st k_Endpoint_pos h54 crf (show ∀ b, b < w63.heap.size → ¬ (un (inBlk (Value.pointer (some ⟨p36, 0, none⟩))) (un (inBlk v62) nb)) b → ¬ nb b ∧ ¬ (un (inBlk v62) nb) b from fun b _ hs => ⟨fun x => x, fun h => hs (un_el h (fun h => (.inr (.inl h))) (fun h => False.elim h))⟩)
    have h59 := slRep.st k_Slice_pos h59 crf (show ∀ b, b < w63.heap.size → ¬ (un (inBlk (Value.pointer (some ⟨p36, 0, none⟩))) (un (inBlk v62) nb)) b → ¬ nb b ∧ ¬ (un (inBlk v62) nb) b from fun b _ hs => ⟨fun x => x, fun h => hs (un_el h (fun h => (.inr (.inl h))) (fun h => False.elim h))⟩)
    have h64 := h64.st crf (fun _ _ x => x) (show ∀ b, b < w63.heap.size → ¬ (un (inBlk (Value.pointer (some ⟨p36, 0, none⟩))) (un (inBlk v62) nb)) b → ¬ nb b ∧ ¬ (un (inBlk v62) nb) b from fun b _ hs => ⟨fun x => x, fun h => hs (un_el h (fun h => (.inr (.inl h))) (fun h => False.elim h))⟩) (fun b h => (.inl h))
    have c21 := c21.then0 crf
    have hLn := runAO_next hL11 hq14 hb15
    exact ⟨rest25.length, Nat.lt_succ_self _, [(7, av0), (8, (Value.int .i64 ((a0.length : Nat) : Int))), (3, v62), (9, (Value.int .i64 ((i10 + 1 : Nat) : Int)))], ⟨rfl, rfl, rfl, rfl, trivial⟩, ⟨rest25, i10 + 1, x6 ++ [y49], v62, rfl, rfl, c21, hat12.next, hLn, ah0, h64⟩⟩
   ·
    obtain rfl := hat12.nil q24
    have hLf : x6 = o16 := runAO_done hL11
    refine CW.exit (thn_exit (thn_exit (inB_hit ?_)))
    exact ⟨x6, v7, ⟨rfl, trivial⟩, c21, hLf, ah0, h8⟩
  ·
   rintro _ w72 ⟨x6, v7, hE73, c71, f74, ah0, h8⟩
   subst f74
   refine thn_n (CW.sub [(3, v7)] hE73 ?_)
   refine CW.seq (CW.region ?_)
   refine rl_move rfl rfl ?_
   refine rl_assign rfl rfl ?_
   refine RL.nil ?_
   refine thn_n ?_
   refine CW.ret ?_
   obtain rfl := Option.some.inj hS
   exact ret1 rfl ⟨v7, rfl, h8.out, c71⟩
/-- lb/pick.Candidates$1 -/
theorem ctr35 (F : Nat → Prop) (w : World) (Bb : Nat) (S2 : Nat → Prop) (hB : Bb ≤ w.heap.size) (h2 : ∀ b, S2 b → b < w.heap.size) (po1 : Nat) (az1_0 : Value) (po2 : Nat) (az2_0 : Value) (hd2 : ∀ b, (un (inBlk (Value.pointer (some ⟨po1, 0, none⟩))) (un (inBlk az1_0) (un (inBlk (Value.pointer (some ⟨po2, 0, none⟩))) (inBlk az2_0)))) b → ¬ S2 b) (hx0_1 : ∀ b, inBlk (Value.pointer (some ⟨po1, 0, none⟩)) b → ¬ inBlk az1_0 b) (hx0_2 : ∀ b, inBlk (Value.pointer (some ⟨po1, 0, none⟩)) b → ¬ inBlk (Value.pointer (some ⟨po2, 0, none⟩)) b) (hx0_3 : ∀ b, inBlk (Value.pointer (some ⟨po1, 0, none⟩)) b → ¬ inBlk az2_0 b) (hx1_2 : ∀ b, inBlk az1_0 b → ¬ inBlk (Value.pointer (some ⟨po2, 0, none⟩)) b) (hx1_3 : ∀ b, inBlk az1_0 b → ¬ inBlk az2_0 b) (hx2_3 : ∀ b, inBlk (Value.pointer (some ⟨po2, 0, none⟩)) b → ¬ inBlk az2_0 b) (a0 : Candidate) (az0_0 : Value) (ah0_0 : slRep kStr (G F Bb (un (inBlk (Value.pointer (some ⟨po1, 0, none⟩))) (un (inBlk az1_0) (un (inBlk (Value.pointer (some ⟨po2, 0, none⟩))) (un (inBlk az2_0) S2))))) w a0.zones az0_0) (a1 : (List (Point × St79))) (ah1 : Blk w po1 78 [az1_0]) (ah1_0 : Mp (fun x => Value.agg (Point.enc x).toArray) (fun x => Value.agg (St79.enc x).toArray) w a1 az1_0) (a2 : (List Candidate)) (ah2 : Blk w po2 22 [az2_0]) (ah2_0 : SlO k_Candidate 44 F Bb (un (inBlk (Value.pointer (some ⟨po1, 0, none⟩))) (un (inBlk az1_0) (un (inBlk (Value.pointer (some ⟨po2, 0, none⟩))) (un (inBlk az2_0) S2)))) w a2 az2_0) (r : ((List (Point × St79)) × (List Candidate))) (hs : F35_pick_Candidates_1 a0 a1 a2 = some r) :
    Ret Try.prog 35 #[(Value.agg (Candidate.c a0 az0_0).toArray), (Value.pointer (some ⟨po1, 0, none⟩)), (Value.pointer (some ⟨po2, 0, none⟩))] w fun v w' => ∃ (nz1_0 : Value) (nz2_0 : Value), v = Value.tuple #[] ∧ Blk w' po1 78 [nz1_0] ∧ Mp (fun x => Value.agg (Point.enc x).toArray) (fun x => Value.agg (St79.enc x).toArray) w' r.1 nz1_0 ∧ Blk w' po2 22 [nz2_0] ∧ SlO k_Candidate 44 F Bb (un (inBlk (Value.pointer (some ⟨po1, 0, none⟩))) (un (inBlk nz1_0) (un (inBlk (Value.pointer (some ⟨po2, 0, none⟩))) (un (inBlk nz2_0) S2)))) w' r.2 nz2_0 ∧ (∀ b, inBlk nz1_0 b → (un (inBlk (Value.pointer (some ⟨po1, 0, none⟩))) (un (inBlk az1_0) (un (inBlk (Value.pointer (some ⟨po2, 0, none⟩))) (inBlk az2_0)))) b ∨ w.heap.size ≤ b) ∧ (∀ b, inBlk nz2_0 b → (un (inBlk (Value.pointer (some ⟨po1, 0, none⟩))) (un (inBlk az1_0) (un (inBlk (Value.pointer (some ⟨po2, 0, none⟩))) (inBlk az2_0)))) b ∨ w.heap.size ≤ b) ∧ (∀ b, inBlk (Value.pointer (some ⟨po1, 0, none⟩)) b → ¬ inBlk nz1_0 b) ∧ (∀ b, inBlk (Value.pointer (some ⟨po1, 0, none⟩)) b → ¬ inBlk nz2_0 b) ∧ (∀ b, inBlk nz1_0 b → ¬ inBlk (Value.pointer (some ⟨po2, 0, none⟩)) b) ∧ (∀ b, inBlk nz1_0 b → ¬ inBlk nz2_0 b) ∧ (∀ b, inBlk (Value.pointer (some ⟨po2, 0, none⟩)) b → ¬ inBlk nz2_0 b) ∧ Ch (un (inBlk (Value.pointer (some ⟨po1, 0, none⟩))) (un (inBlk az1_0) (un (inBlk (Value.pointer (some ⟨po2, 0, none⟩))) (inBlk az2_0)))) w w' := by
  have hS := hs
  have c0 : Ch (un (inBlk (Value.pointer (some ⟨po1, 0, none⟩))) (un (inBlk az1_0) (un (inBlk (Value.pointer (some ⟨po2, 0, none⟩))) (inBlk az2_0)))) w w := Ch.refl
  have lin0_0 : ∀ b, inBlk (Value.pointer (some ⟨po1, 0, none⟩)) b → (un (inBlk (Value.pointer (some ⟨po1, 0, none⟩))) (un (inBlk az1_0) (un (inBlk (Value.pointer (some ⟨po2, 0, none⟩))) (inBlk az2_0)))) b ∨ w.heap.size ≤ b := fun b h => .inl (.inl h)
  have lin1_0 : ∀ b, inBlk az1_0 b → (un (inBlk (Value.pointer (some ⟨po1, 0, none⟩))) (un (inBlk az1_0) (un (inBlk (Value.pointer (some ⟨po2, 0, none⟩))) (inBlk az2_0)))) b ∨ w.heap.size ≤ b := fun b h => .inl (.inr (.inl h))
  have lin2_0 : ∀ b, inBlk (Value.pointer (some ⟨po2, 0, none⟩)) b → (un (inBlk (Value.pointer (some ⟨po1, 0, none⟩))) (un (inBlk az1_0) (un (inBlk (Value.pointer (some ⟨po2, 0, none⟩))) (inBlk az2_0)))) b ∨ w.heap.size ≤ b := fun b h => .inl (.inr (.inr (.inl h)))
  have lin3_0 : ∀ b, inBlk az2_0 b → (un (inBlk (Value.pointer (some ⟨po1, 0, none⟩))) (un (inBlk az1_0) (un (inBlk (Value.pointer (some ⟨po2, 0, none⟩))) (inBlk az2_0)))) b ∨ w.heap.size ≤ b := fun b h => .inl (.inr (.inr (.inr h)))
  refine Ret.of (n := 23) (args := [_, _, _]) (rs := []) Try.func35 rfl rfl rfl rfl ?_
  refine CW.seq (CW.region ?_)
  refine rl_boxA (cs := (Candidate.c a0 az0_0)) rfl rfl ?_
  intro p1 w2 n3 k4
  have gp1 : (G F Bb (un (inBlk (Value.pointer (some ⟨po1, 0, none⟩))) (un (inBlk az1_0) (un (inBlk (Value.pointer (some ⟨po2, 0, none⟩))) (un (inBlk az2_0) S2))))) p1 := ⟨.inr (by rw [n3.eq]; exact (Nat.le_trans hB c0.size)), fun h => absurd ((un_lt ah1.ltp (un_lt ah1_0.ltp (un_lt ah2.ltp (un_lt (fun b hb => (ah2_0.lt b hb).2) (fun b h => Nat.lt_of_lt_of_le (h2 b h) c0.size))))) _ h) (by rw [n3.eq]; exact Nat.lt_irrefl _)⟩
  have ah1 := ah1.ch0 n3.ch
  have ah1_0 := ah1_0.ch0 n3.ch
  have ah2 := ah2.ch0 n3.ch
  have ah2_0 := ah2_0.ch0 n3.ch
  have ah0_0 := slRep.ch kStr_pos ah0_0 n3.ch
  have c0 := c0.then0 n3.ch
  refine RL.nil ?_
  refine thn_n ?_
  refine CW.seq (CW.region ?_)
  refine rl_loadS (v := az1_0) rfl Try.isAgg78 (ah1.cell rfl) rfl ?_
  refine rl_fieldAddr rfl fa44_0 rfl ?_
  refine rl_loadA (cs := (Point.enc a0.point)) rfl Try.isAgg41 Try.sizeOf41 (k4.segAt 0 18) rfl rfl ?_
  refine rl_lookup2 a0.point St79.z rfl rfl ah1_0 rfl kt41 Try.underlying78 Try.zeroValue79 rfl ?_
  refine rl_move rfl rfl ?_
  refine rl_extract rfl rfl rfl ?_
  refine rl_extract rfl rfl rfl ?_
  refine rl_alloc (St79.enc St79.z) Try.zeroValue79 rfl rfl ?_
  intro p5 w6 n7 k8
  have lo9 : ∀ b, inBlk (Value.pointer (some ⟨p5, 0, none⟩)) b → w.heap.size ≤ b := fun b h => Nat.le_trans c0.size (n7.fresh b h)
  have d10 : ∀ b, inBlk (Value.pointer (some ⟨p5, 0, none⟩)) b → ¬ inBlk (Value.pointer (some ⟨po1, 0, none⟩)) b := disNew n7.fresh ah1.ltp
  have d11 : ∀ b, inBlk (Value.pointer (some ⟨p5, 0, none⟩)) b → ¬ inBlk az1_0 b := disNew n7.fresh ah1_0.ltp
  have d12 : ∀ b, inBlk (Value.pointer (some ⟨p5, 0, none⟩)) b → ¬ inBlk (Value.pointer (some ⟨po2, 0, none⟩)) b := disNew n7.fresh ah2.ltp
  have d13 : ∀ b, inBlk (Value.pointer (some ⟨p5, 0, none⟩)) b → ¬ inBlk az2_0 b := disNew n7.fresh (fun b hb => (ah2_0.lt b hb).2)
  have ah1 := ah1.ch0 n7.ch
  have ah1_0 := ah1_0.ch0 n7.ch
  have ah2 := ah2.ch0 n7.ch
  have ah2_0 := ah2_0.st n7.ch (fun _ _ x => x) (admNew n7.fresh (fun _ x => x)) (fun b h => (.inr (.inr (.inr (.inr (.inl h))))))
  have ah0_0 := slRep.st kStr_pos ah0_0 n7.ch (admNew n7.fresh (fun _ x => x))
  have gp1n : (G F Bb (un (inBlk (Value.pointer (some ⟨p5, 0, none⟩))) (un (inBlk (Value.pointer (some ⟨po1, 0, none⟩))) (un (inBlk az1_0) (un (inBlk (Value.pointer (some ⟨po2, 0, none⟩))) (un (inBlk az2_0) S2)))))) p1 := ⟨gp1.1, ((admNew n7.fresh (fun _ x => x)) _ k4.lt gp1.2).2⟩
  have k4 := k4.ch0 n7.ch
  have gp1 := gp1n
  have c0 := c0.then0 n7.ch
  refine rl_storeA (vs := (St79.enc ((mget a1 a0.point).getD St79.z))) rfl rfl (all_one rfl) Try.sizeOf79 rfl k8 rfl ?_
  intro w14 s16 c15 k17
  have ad18 : ∀ b, b < w6.heap.size → ¬ (un (inBlk (Value.pointer (some ⟨p5, 0, none⟩))) (un (inBlk (Value.pointer (some ⟨po1, 0, none⟩))) (un (inBlk az1_0) (un (inBlk (Value.pointer (some ⟨po2, 0, none⟩))) (un (inBlk az2_0) S2))))) b → ¬ (inBlk (Value.pointer (some ⟨p5, 0, none⟩))) b ∧ ¬ (un (inBlk (Value.pointer (some ⟨p5, 0, none⟩))) (un (inBlk (Value.pointer (some ⟨po1, 0, none⟩))) (un (inBlk az1_0) (un (inBlk (Value.pointer (some ⟨po2, 0, none⟩))) (un (inBlk az2_0) S2))))) b := fun b _ hs => ⟨fun h => hs (.inl h), hs⟩
  have ah1 := ah1.ch c15 ((fun b hb h => (disSym d10) b hb h) _ rfl)
  have ah1_0 := ah1_0.ch c15 ((fun b hb h => (disSym d11) b hb h))
  have ah2 := ah2.ch c15 ((fun b hb h => (disSym d12) b hb h) _ rfl)
  have ah2_0 := ah2_0.st c15 (fun b hb h => (disSym d13) b hb h) ad18 (fun b h => (.inr (.inr (.inr (.inr (.inl h))))))
  have ah0_0 := slRep.st kStr_pos ah0_0 c15 ad18
  have k4 := k4.ch c15 (ad18 _ k4.lt gp1.2).1
  have c0 := c0.then c15 (fun i hi h => absurd (lo9 i h) (Nat.not_le_of_lt hi))
  refine rl_assign rfl rfl ?_
  refine RL.nil ?_
  refine thn_n ?_
  refine CW.seq (CW.region ?_)
  refine rl_move rfl rfl ?_
  refine rl_not rfl rfl ?_
  refine RL.nil ?_
  refine thn_n ?_
  refine CW.cond (t := !((mget a1 a0.point).isSome)) rfl (fun q19 => ?_) (fun q19 => ?_)
  ·
   have hS := ifT q19 hS
   refine CW.seq (CW.region ?_)
   refine rl_loadS (v := az1_0) rfl Try.isAgg78 (ah1.cell rfl) rfl ?_
   refine rl_fieldAddr rfl fa44_0 rfl ?_
   refine rl_loadA (cs := (Point.enc a0.point)) rfl Try.isAgg41 Try.sizeOf41 (k4.segAt 0 18) rfl rfl ?_
   refine rl_build (out := (St79.enc ({  } : St79))) rfl pl79 Try.zeroValue79 rfl rfl rfl ?_
   refine rl_mapUpdate a0.point ({  } : St79) rfl rfl rfl ah1_0 rfl rfl kt41 Try.underlying78 ?_
   intro w20 c21 h22
   have ad23 : ∀ b, b < w14.heap.size → ¬ (un (inBlk (Value.pointer (some ⟨p5, 0, none⟩))) (un (inBlk (Value.pointer (some ⟨po1, 0, none⟩))) (un (inBlk az1_0) (un (inBlk (Value.pointer (some ⟨po2, 0, none⟩))) (un (inBlk az2_0) S2))))) b → ¬ (inBlk az1_0) b ∧ ¬ (un (inBlk (Value.pointer (some ⟨p5, 0, none⟩))) (un (inBlk (Value.pointer (some ⟨po1, 0, none⟩))) (un (inBlk az1_0) (un (inBlk (Value.pointer (some ⟨po2, 0, none⟩))) (un (inBlk az2_0) S2))))) b := fun b _ hs => ⟨fun h => hs (.inr (.inr (.inl h))), hs⟩
   have ah1 := ah1.ch c21 ((fun b hb h => hx0_1 b hb h) _ rfl)
   have ah2 := ah2.ch c21 ((fun b hb h => (disSym hx1_2) b hb h) _ rfl)
   have ah2_0 := ah2_0.st c21 (fun b hb h => (disSym hx1_3) b hb h) ad23 (fun b h => (.inr (.inr (.inr (.inr (.inl h))))))
   have ah0_0 := slRep.st kStr_pos ah0_0 c21 ad23
   have k4 := k4.ch c21 (ad23 _ k4.lt gp1.2).1
   have k17 := k17.ch c21 ((fun b hb h => d11 b hb h) _ rfl)
   have c0 := c0.then c21 (fun i hi h => (lin1_0 i h).elim (fun x => x) (fun x => absurd x (Nat.not_le_of_lt hi)))
   refine RL.nil ?_
   refine thn_n ?_
   refine CW.region ?_
   refine rl_loadS (v := az2_0) rfl Try.isAgg22 (ah2.cell rfl) rfl ?_
   refine rl_loadA (cs := (Candidate.c a0 az0_0)) rfl Try.isAgg44 Try.sizeOf44 (k4.segAt 0 23) rfl rfl ?_
   refine rl_bslice (k := k_Candidate) (F := F) (B := Bb) (S := (un (inBlk (Value.pointer (some ⟨p5, 0, none⟩))) (un (inBlk (Value.pointer (some ⟨po1, 0, none⟩))) (un (inBlk az1_0) (un (inBlk (Value.pointer (some ⟨po2, 0, none⟩))) (un (inBlk az2_0) S2)))))) ([a0] : List Candidate) rfl k_Candidate_pos Try.underlying22 Try.sizeOf44 Try.zeroValue44 rfl rfl ⟨rfl, ⟨az0_0, rfl, ah0_0⟩, trivial⟩ (Nat.le_trans hB c0.size) (un_lt k17.ltp (un_lt ah1.ltp (un_lt h22.ltp (un_lt ah2.ltp (un_lt (fun b hb => (ah2_0.lt b hb).2) (fun b h => Nat.lt_of_lt_of_le (h2 b h) c0.size)))))) rfl ?_
   intro v24 w25 c26 hf27 h28
   have h28 := h28.readNew k_Candidate_pos hf27 (un_lt k17.ltp (un_lt ah1.ltp (un_lt h22.ltp (un_lt ah2.ltp (un_lt (fun b hb => (ah2_0.lt b hb).2) (fun b h => Nat.lt_of_lt_of_le (h2 b h) c0.size))))))
   have ah1 := ah1.ch0 c26
   have ah2 := ah2.ch0 c26
   have ah2_0 := ah2_0.ch0 c26
   have ah0_0 := slRep.ch kStr_pos ah0_0 c26
   have k4 := k4.ch0 c26
   have k17 := k17.ch0 c26
   have h22 := h22.ch0 c26
   have c0 := c0.then0 c26
   obtain ⟨z37, hz38, hS⟩ := bindS hS
   have hl := (apO_get hz38).1
   refine rl_append (k := k_Candidate) (T := 44) (F := F) (B := Bb) (S := (un (inBlk (Value.pointer (some ⟨p5, 0, none⟩))) (un (inBlk (Value.pointer (some ⟨po1, 0, none⟩))) (un (inBlk az1_0) (un (inBlk (Value.pointer (some ⟨po2, 0, none⟩))) (un (inBlk az2_0) S2)))))) (S2 := (un (inBlk (Value.pointer (some ⟨p5, 0, none⟩))) (un (inBlk (Value.pointer (some ⟨po1, 0, none⟩))) (un (inBlk az1_0) (un (inBlk (Value.pointer (some ⟨po2, 0, none⟩))) S2))))) (fun v => (un (inBlk (Value.pointer (some ⟨p5, 0, none⟩))) (un (inBlk (Value.pointer (some ⟨po1, 0, none⟩))) (un (inBlk az1_0) (un (inBlk (Value.pointer (some ⟨po2, 0, none⟩))) (un (inBlk v) S2)))))) rfl rfl k_Candidate_pos ap22 ah2_0 h28 (fun _ => ⟨fun h => un_el h (fun h => (.inr (.inl h))) (fun h => un_el h (fun h => (.inr (.inr (.inl h)))) (fun h => un_el h (fun h => (.inr (.inr (.inr (.inl h))))) (fun h => un_el h (fun h => (.inr (.inr (.inr (.inr (.inl h)))))) (fun h => un_el h (fun h => (.inl h)) (fun h => (.inr (.inr (.inr (.inr (.inr h)))))))))), fun h => un_el h (fun h => (.inr (.inr (.inr (.inr (.inl h)))))) (fun h => un_el h (fun h => (.inl h)) (fun h => un_el h (fun h => (.inr (.inl h))) (fun h => un_el h (fun h => (.inr (.inr (.inl h)))) (fun h => un_el h (fun h => (.inr (.inr (.inr (.inl h))))) (fun h => (.inr (.inr (.inr (.inr (.inr h))))))))))⟩) (fun _ _ => ⟨fun h => un_el h (fun h => (.inr (.inl h))) (fun h => un_el h (fun h => (.inr (.inr (.inl h)))) (fun h => un_el h (fun h => (.inr (.inr (.inr (.inl h))))) (fun h => un_el h (fun h => (.inr (.inr (.inr (.inr (.inl h)))))) (fun h => un_el h (fun h => (.inl h)) (fun h => (.inr (.inr (.inr (.inr (.inr h)))))))))), fun h => un_el h (fun h => (.inr (.inr (.inr (.inr (.inl h)))))) (fun h => un_el h (fun h => (.inl h)) (fun h => un_el h (fun h => (.inr (.inl h))) (fun h => un_el h (fun h => (.inr (.inr (.inl h)))) (fun h => un_el h (fun h => (.inr (.inr (.inr (.inl h))))) (fun h => (.inr (.inr (.inr (.inr (.inr h))))))))))⟩) hl (Nat.le_trans hB c0.size) (un_lt k17.ltp (un_lt ah1.ltp (un_lt h22.ltp (un_lt ah2.ltp (un_lt (fun b hb => (ah2_0.lt b hb).2) (fun b h => Nat.lt_of_lt_of_le (h2 b h) c0.size)))))) rfl ?_
   intro v31 w32 h33 c34 hf35 ha36
   have lin39 : ∀ b, inBlk v31 b → (un (inBlk (Value.pointer (some ⟨po1, 0, none⟩))) (un (inBlk az1_0) (un (inBlk (Value.pointer (some ⟨po2, 0, none⟩))) (inBlk az2_0)))) b ∨ w.heap.size ≤ b := linApp lin3_0 hf35 c0.size
   have d40 : ∀ b, inBlk v31 b → ¬ inBlk (Value.pointer (some ⟨p5, 0, none⟩)) b := disApp hf35 (disSym d13) k17.ltp
   have d41 : ∀ b, inBlk v31 b → ¬ inBlk (Value.pointer (some ⟨po1, 0, none⟩)) b := disApp hf35 (disSym hx0_3) ah1.ltp
   have d42 : ∀ b, inBlk v31 b → ¬ inBlk az1_0 b := disApp hf35 (disSym hx1_3) h22.ltp
   have d43 : ∀ b, inBlk v31 b → ¬ inBlk (Value.pointer (some ⟨po2, 0, none⟩)) b := disApp hf35 (disSym hx2_3) ah2.ltp
   have ah1 := ah1.ch c34 ((fun b hb h => hx0_3 b hb h) _ rfl)
   have ah2 := ah2.ch c34 ((fun b hb h => hx2_3 b hb h) _ rfl)
   have ah0_0 := slRep.st kStr_pos ah0_0 c34 ha36
   have gp1n : (G F Bb (un (inBlk (Value.pointer (some ⟨p5, 0, none⟩))) (un (inBlk (Value.pointer (some ⟨po1, 0, none⟩))) (un (inBlk az1_0) (un (inBlk (Value.pointer (some ⟨po2, 0, none⟩))) (un (inBlk v31) S2)))))) p1 := ⟨gp1.1, (ha36 _ k4.lt gp1.2).2⟩
   have k4 := k4.ch c34 (ha36 _ k4.lt gp1.2).1
   have gp1 := gp1n
   have k17 := k17.ch c34 ((fun b hb h => d13 b hb h) _ rfl)
   have h22 := h22.ch c34 ((fun b hb h => hx1_3 b hb h))
   have h28 := slRep.st k_Candidate_pos h28 c34 ha36
   have c0 := c0.then c34 (fun i hi h => (lin3_0 i h).elim (fun x => x) (fun x => absurd x (Nat.not_le_of_lt hi)))
   refine rl_storeS (u := v31) rfl rfl h33.one Try.sizeOf22 ah2 rfl ?_
   intro w44 s46 c45 k47
   have ad48 : ∀ b, b < w32.heap.size → ¬ (un (inBlk (Value.pointer (some ⟨p5, 0, none⟩))) (un (inBlk (Value.pointer (some ⟨po1, 0, none⟩))) (un (inBlk az1_0) (un (inBlk (Value.pointer (some ⟨po2, 0, none⟩))) (un (inBlk v31) S2))))) b → ¬ (inBlk (Value.pointer (some ⟨po2, 0, none⟩))) b ∧ ¬ (un (inBlk (Value.pointer (some ⟨p5, 0, none⟩))) (un (inBlk (Value.pointer (some ⟨po1, 0, none⟩))) (un (inBlk az1_0) (un (inBlk (Value.pointer (some ⟨po2, 0, none⟩))) (un (inBlk v31) S2))))) b := fun b _ hs => ⟨fun h => hs (.inr (.inr (.inr (.inl h)))), hs⟩
   have ah1 := ah1.ch c45 ((fun b hb h => hx0_2 b hb h) _ rfl)
   have ah0_0 := slRep.st kStr_pos ah0_0 c45 ad48
   have k4 := k4.ch c45 (ad48 _ k4.lt gp1.2).1
   have k17 := k17.ch c45 ((fun b hb h => d12 b hb h) _ rfl)
   have h22 := h22.ch c45 ((fun b hb h => hx1_2 b hb h))
   have h28 := slRep.st k_Candidate_pos h28 c45 ad48
   have h33 := h33.st c45 (fun b hb h => d43 b hb h) ad48 (fun b h => (.inr (.inr (.inr (.inr (.inl h))))))
   have c0 := c0.then c45 (fun i hi h => (lin2_0 i h).elim (fun x => x) (fun x => absurd x (Nat.not_le_of_lt hi)))
   refine RL.nil ?_
   obtain rfl := Option.some.inj hS
   have crf : Ch nb w44 w44 := Ch.refl
   have ah1 := ah1.ch0 crf
   have ah0_0 := slRep.st kStr_pos ah0_0 crf (show ∀ b, b < w44.heap.size → ¬ (un (inBlk (Value.pointer (some ⟨p5, 0, none⟩))) (un (inBlk (Value.pointer (some ⟨po1, 0, none⟩))) (un (inBlk az1_0) (un (inBlk (Value.pointer (some ⟨po2, 0, none⟩))) (un (inBlk v31) S2))))) b → ¬ nb b ∧ ¬ (un (inBlk (Value.pointer (some ⟨po1, 0, none⟩))) (un (inBlk az1_0) (un (inBlk (Value.pointer (some ⟨po2, 0, none⟩))) (un (inBlk v31) S2)))) b from fun b _ hs => ⟨fun x => x, fun h => hs (un_el h (fun h => (.inr (.inl h))) (fun h => un_el h (fun h => (.inr (.inr (.inl h)))) (fun h => un_el h (fun h => (.inr (.inr (.inr (.inl h))))) (fun h => un_el h (fun h => (.inr (.inr (.inr (.inr (.inl h)))))) (fun h => (.inr (.inr (.inr (.inr (.inr h))))))))))⟩)
   have gp1n : (G F Bb (un (inBlk (Value.pointer (some ⟨po1, 0, none⟩))) (un (inBlk az1_0) (un (inBlk (Value.pointer (some ⟨po2, 0, none⟩))) (un (inBlk v31) S2))))) p1 := ⟨gp1.1, ((show ∀ b, b < w44.heap.size → ¬ (un (inBlk (Value.pointer (some ⟨p5, 0, none⟩))) (un (inBlk (Value.pointer (some ⟨po1, 0, none⟩))) (un (inBlk az1_0) (un (inBlk (Value.pointer (some ⟨po2, 0, none⟩))) (un (inBlk v31) S2))))) b → ¬ nb b ∧ ¬ (un (inBlk (Value.pointer (some ⟨po1, 0, none⟩))) (un (inBlk az1_0) (un (inBlk (Value.pointer (some ⟨po2, 0, none⟩))) (un (inBlk v31) S2)))) b from fun b _ hs => ⟨fun x => x, fun h => hs (un_el h (fun h => (.inr (.inl h))) (fun h => un_el h (fun h => (.inr (.inr (.inl h)))) (fun h => un_el h (fun h => (.inr (.inr (.inr (.inl h))))) (fun h => un_el h (fun h => (.inr (.inr (.inr (.inr (.inl h)))))) (fun h => (.inr (.inr (.inr (.inr (.inr h))))))))))⟩) _ k4.lt gp1.2).2⟩
   have k4 := k4.ch0 crf
   have gp1 := gp1n
   have h22 := h22.ch0 crf
   have h28 := slRep.st k_Candidate_pos h28 crf (show ∀ b, b < w44.heap.size → ¬ (un (inBlk (Value.pointer (some ⟨p5, 0, none⟩))) (un (inBlk (Value.pointer (some ⟨po1, 0, none⟩))) (un (inBlk az1_0) (un (inBlk (Value.pointer (some ⟨po2, 0, none⟩))) (un (inBlk v31) S2))))) b → ¬ nb b ∧ ¬ (un (inBlk (Value.pointer (some ⟨po1, 0, none⟩))) (un (inBlk az1_0) (un (inBlk (Value.pointer (some ⟨po2, 0, none⟩))) (un (inBlk v31) S2)))) b from fun b _ hs => ⟨fun x => x, fun h => hs (un_el h (fun h => (.inr (.inl h))) (fun h => un_el h (fun h => (.inr (.inr (.inl h)))) (fun h => un_el h (fun h => (.inr (.inr (.inr (.inl h))))) (fun h => un_el h (fun h => (.inr (.inr (.inr (.inr (.inl h)))))) (fun h => (.inr (.inr (.inr (.inr (.inr h))))))))))⟩)
   have h33 := h33.st crf (fun _ _ x => x) (show ∀ b, b < w44.heap.size → ¬ (un (inBlk (Value.pointer (some ⟨p5, 0, none⟩))) (un (inBlk (Value.pointer (some ⟨po1, 0, none⟩))) (un (inBlk az1_0) (un (inBlk (Value.pointer (some ⟨po2, 0, none⟩))) (un (inBlk v31) S2))))) b → ¬ nb b ∧ ¬ (un (inBlk (Value.pointer (some ⟨po1, 0, none⟩))) (un (inBlk az1_0) (un (inBlk (Value.pointer (some ⟨po2, 0, none⟩))) (un (inBlk v31) S2)))) b from fun b _ hs => ⟨fun x => x, fun h => hs (un_el h (fun h => (.inr (.inl h))) (fun h => un_el h (fun h => (.inr (.inr (.inl h)))) (fun h => un_el h (fun h => (.inr (.inr (.inr (.inl h))))) (fun h => un_el h (fun h => (.inr (.inr (.inr (.inr (.inl h)))))) (fun h => (.inr (.inr (.inr (.inr (.inr h))))))))))⟩) (fun b h => (.inr (.inr (.inr (.inl h)))))
   have k47 := k47.ch0 crf
   have c0 := c0.then0 crf
   exact ⟨[], trivial, ⟨az1_0, v31, rfl, ah1, h22, k47, h33, lin1_0, lin39, hx0_1, (disSym d41), hx1_2, (disSym d42), (disSym d43), c0⟩⟩
  ·
   have hS := ifF q19 hS
   refine CW.skip ?_
   obtain rfl := Option.some.inj hS
   have crf : Ch nb w14 w14 := Ch.refl
   have ah1 := ah1.ch0 crf
   have ah1_0 := ah1_0.ch0 crf
   have ah2 := ah2.ch0 crf
   have ah2_0 := ah2_0.st crf (fun _ _ x => x) (show ∀ b, b < w14.heap.size → ¬ (un (inBlk (Value.pointer (some ⟨p5, 0, none⟩))) (un (inBlk (Value.pointer (some ⟨po1, 0, none⟩))) (un (inBlk az1_0) (un (inBlk (Value.pointer (some ⟨po2, 0, none⟩))) (un (inBlk az2_0) S2))))) b → ¬ nb b ∧ ¬ (un (inBlk (Value.pointer (some ⟨po1, 0, none⟩))) (un (inBlk az1_0) (un (inBlk (Value.pointer (some ⟨po2, 0, none⟩))) (un (inBlk az2_0) S2)))) b from fun b _ hs => ⟨fun x => x, fun h => hs (un_el h (fun h => (.inr (.inl h))) (fun h => un_el h (fun h => (.inr (.inr (.inl h)))) (fun h => un_el h (fun h => (.inr (.inr (.inr (.inl h))))) (fun h => un_el h (fun h => (.inr (.inr (.inr (.inr (.inl h)))))) (fun h => (.inr (.inr (.inr (.inr (.inr h))))))))))⟩) (fun b h => (.inr (.inr (.inr (.inl h)))))
   have ah0_0 := slRep.st kStr_pos ah0_0 crf (show ∀ b, b < w14.heap.size → ¬ (un (inBlk (Value.pointer (some ⟨p5, 0, none⟩))) (un (inBlk (Value.pointer (some ⟨po1, 0, none⟩))) (un (inBlk az1_0) (un (inBlk (Value.pointer (some ⟨po2, 0, none⟩))) (un (inBlk az2_0) S2))))) b → ¬ nb b ∧ ¬ (un (inBlk (Value.pointer (some ⟨po1, 0, none⟩))) (un (inBlk az1_0) (un (inBlk (Value.pointer (some ⟨po2, 0, none⟩))) (un (inBlk az2_0) S2)))) b from fun b _ hs => ⟨fun x => x, fun h => hs (un_el h (fun h => (.inr (.inl h))) (fun h => un_el h (fun h => (.inr (.inr (.inl h)))) (fun h => un_el h (fun h => (.inr (.inr (.inr (.inl h))))) (fun h => un_el h (fun h => (.inr (.inr (.inr (.inr (.inl h)))))) (fun h => (.inr (.inr (.inr (.inr (.inr h))))))))))⟩)
   have gp1n : (G F Bb (un (inBlk (Value.pointer (some ⟨po1, 0, none⟩))) (un (inBlk az1_0) (un (inBlk (Value.pointer (some ⟨po2, 0, none⟩))) (un (inBlk az2_0) S2))))) p1 := ⟨gp1.1, ((show ∀ b, b < w14.heap.size → ¬ (un (inBlk (Value.pointer (some ⟨p5, 0, none⟩))) (un (inBlk (Value.pointer (some ⟨po1, 0, none⟩))) (un (inBlk az1_0) (un (inBlk (Value.pointer (some ⟨po2, 0, none⟩))) (un (inBlk az2_0) S2))))) b → ¬ nb b ∧ ¬ (un (inBlk (Value.pointer (some ⟨po1, 0, none⟩))) (un (inBlk az1_0) (un (inBlk (Value.pointer (some ⟨po2, 0, none⟩))) (un (inBlk az2_0) S2)))) b from fun b _ hs => ⟨fun x => x, fun h => hs (un_el h (fun h => (.inr (.inl h))) (fun h => un_el h (fun h => (.inr (.inr (.inl h)))) (fun h => un_el h (fun h => (.inr (.inr (.inr (.inl h))))) (fun h => un_el h (fun h => (.inr (.inr (.inr (.inr (.inl h)))))) (fun h => (.inr (.inr (.inr (.inr (.inr h))))))))))⟩) _ k4.lt gp1.2).2⟩
   have k4 := k4.ch0 crf
   have gp1 := gp1n
   have c0 := c0.then0 crf
   exact ⟨[], trivial, ⟨az1_0, az2_0, rfl, ah1, ah1_0, ah2, ah2_0, lin1_0, lin3_0, hx0_1, hx0_3, hx1_2, hx1_3, hx2_3, c0⟩⟩
/-- (lb/pick.Want).matches -/
theorem ctr36 (F : Nat → Prop) (w : World) (a0 : Want) (a1 : Port) (r : Bool) (hs : F36_pick_Want_matches a0 a1 = r) :
    Ret Try.prog 36 #[(Value.agg (Want.enc a0).toArray), (Value.agg (Port.enc a1).toArray)] w fun v w' => v = (Value.bool r) ∧ Ch nb w w' := by
  have hS := hs
  have c0 : Ch nb w w := Ch.refl
  refine Ret.of (n := 17) (args := [_, _]) (rs := [.tmp 4]) Try.func36 rfl rfl rfl rfl ?_
  refine CW.seq (CW.region ?_)
  refine rl_boxA (cs := (Want.enc a0)) rfl rfl ?_
  intro p1 w2 n3 k4
  have gp1 : (G F w.heap.size nb) p1 := ⟨.inr (by rw [n3.eq]; exact c0.size), fun h => absurd (nbS _ h) (by rw [n3.eq]; exact Nat.lt_irrefl _)⟩
  have c0 := c0.then0 n3.ch
  refine rl_boxA (cs := (Port.enc a1)) rfl rfl ?_
  intro p5 w6 n7 k8
  have gp5 : (G F w.heap.size nb) p5 := ⟨.inr (by rw [n7.eq]; exact c0.size), fun h => absurd (nbS _ h) (by rw [n7.eq]; exact Nat.lt_irrefl _)⟩
  have k4 := k4.ch0 n7.ch
  have c0 := c0.then0 n7.ch
  refine rl_assign rfl rfl ?_
  refine RL.nil ?_
  refine thn_n ?_
  refine CW.seq (CW.region ?_)
  refine rl_fieldAddr rfl fa83_0 rfl ?_
  refine rl_loadS (v := (Value.string a1.name)) rfl Try.isAgg9 (k8.cell rfl) rfl ?_
  refine rl_fieldAddr rfl fa24_0 rfl ?_
  refine rl_loadS (v := (Value.string a0.name)) rfl Try.isAgg9 (k4.cell rfl) rfl ?_
  refine rl_bin rfl rfl B.eqlS rfl ?_
  refine rl_move rfl rfl ?_
  obtain ⟨b11, hb12⟩ : ∃ v, ((decide (a1.name = a0.name)) && (decide (a1.proto = a0.proto))) = v := ⟨_, rfl⟩
  have hS := ltS hb12 hS
  refine RL.join 6 16 (.bool b11) (fun w' => Ch nb w6 w') ?_ ?_
  · rcases Bool.eq_false_or_eq_true (decide (a1.name = a0.name)) with hg10 | hg10
    ·
     have hs9 := and_t hg10 hb12
     have cs : Ch nb w6 w6 := Ch.refl
     refine RL.yes rfl rfl rfl hg10 ?_
     refine rl_fieldAddr rfl fa83_1 rfl ?_
     refine RL.yes rfl rfl rfl hg10 ?_
     refine rl_loadS (v := (Value.int .i64 a1.proto)) rfl Try.isAgg3 (k8.cell rfl) rfl ?_
     refine RL.yes rfl rfl rfl hg10 ?_
     refine rl_fieldAddr rfl fa24_1 rfl ?_
     refine RL.yes rfl rfl rfl hg10 ?_
     refine rl_loadS (v := (Value.int .i64 a0.proto)) rfl Try.isAgg3 (k4.cell rfl) rfl ?_
     refine RL.yes rfl rfl rfl hg10 ?_
     refine rl_bin rfl rfl B.eql rfl ?_
     refine rl_pickT rfl hg10 rfl rfl ?_
     exact RL.nil ⟨Ext.bothEq (congrArg Value.bool hs9) (Ext.skip rfl (Ext.skip rfl (Ext.skip rfl (Ext.skip rfl (Ext.skip rfl (Ext.rfl')))))), cs⟩
    ·
     have hs9 := and_f hg10 hb12
     have cs : Ch nb w6 w6 := Ch.refl
     refine RL.no rfl rfl rfl hg10 rfl rfl ?_
     refine RL.no rfl rfl rfl hg10 rfl rfl ?_
     refine RL.no rfl rfl rfl hg10 rfl rfl ?_
     refine RL.no rfl rfl rfl hg10 rfl rfl ?_
     refine RL.no rfl rfl rfl hg10 rfl rfl ?_
     refine rl_pickF rfl hg10 rfl rfl ?_
     exact RL.nil ⟨Ext.bothEq (congrArg Value.bool hs9) (Ext.skip rfl (Ext.skip rfl (Ext.skip rfl (Ext.skip rfl (Ext.skip rfl (Ext.rfl')))))), cs⟩
  intro w13 c14
  have k4 := k4.ch0 c14
  have k8 := k8.ch0 c14
  have c0 := c0.then0 c14
  refine rl_assign rfl rfl ?_
  refine RL.nil ?_
  refine thn_n ?_
  refine CW.ret ?_
  obtain rfl := hS
  exact ret1 rfl ⟨rfl, c0⟩
/-- slices.Clone[[]string,string] -/
theorem ctr53 (F : Nat → Prop) (w : World) (a0 : (List ByteArray)) (av0 : Value) (ah0 : slRep kStr F w a0 av0) (r : (List ByteArray)) (hs : F53_slices_Clone_string_string a0 = some r) :
    Ret Try.prog 53 #[av0] w fun v w' => ∃ (y0 : Value), v = y0 ∧ SlO kStr 9 F w.heap.size (inBlk y0) w' r y0 ∧ Ch nb w w' := by
  have hS := hs
  have c0 : Ch nb w w := Ch.refl
  have ah0 := slRep.enter kStr_pos ah0
  refine Ret.of (n := 8) (args := [_]) (rs := [.tmp 2]) Try.func53 rfl rfl rfl rfl ?_
  refine CW.seq (CW.region ?_)
  refine rl_assign rfl rfl ?_
  refine RL.nil ?_
  refine thn_n ?_
  refine CW.seq ?_
  refine CW.seq (CW.region ?_)
  refine rl_move rfl rfl ?_
  refine rl_slNil rfl ah0 Try.underlying42 rfl ?_
  intro b1 n2
  refine RL.nil ?_
  refine thn_n ?_
  refine CW.cond (t := b1) rfl (fun q3 => ?_) (fun q3 => ?_)
  ·
   obtain ⟨rfl, rfl⟩ := n2 q3
   refine CW.seq (CW.region ?_)
   refine rl_assign rfl rfl ?_
   refine RL.nil ?_
   refine thn_n ?_
   refine CW.ret ?_
   refine thn_ret ?_
   obtain rfl := Option.some.inj hS
   exact ret1 rfl ⟨(Value.slice none 0 0), rfl, SlO.nil, c0⟩
  ·
   refine CW.skip ?_
   refine thn_n ?_
   refine CW.seq (CW.region ?_)
   refine rl_bslice (k := kStr) (F := F) (B := w.heap.size) (S := nb) ([] : List ByteArray) rfl kStr_pos Try.underlying42 Try.sizeOf9 Try.zeroValue9 rfl rfl trivial c0.size nbS rfl ?_
   intro v4 w5 c6 hf7 h8
   have ah0 := slRep.st kStr_pos ah0 c6 (admNew hf7 (fun _ x => x))
   have c0 := c0.then0 c6
   refine rl_move rfl rfl ?_
   obtain ⟨z17, hz18, hS⟩ := bindS hS
   have hl := (apO_get hz18).1
   refine rl_append (k := kStr) (T := 9) (F := F) (B := w.heap.size) (S := (un (inBlk v4) nb)) (S2 := nb) (fun v => (un (inBlk v) nb)) rfl rfl kStr_pos ap42 h8 ah0 (fun _ => Iff.rfl) (fun _ _ => Iff.rfl) hl c0.size (un_lt (fun b hb => (h8.lt b hb).2) nbS) rfl ?_
   intro v11 w12 h13 c14 hf15 ha16
   have ah0 := slRep.st kStr_pos ah0 c14 ha16
   have c0 := c0.then c14 (fun i hi h => absurd ((fun b hb => (h8.lt b hb).1) i h) (Nat.not_le_of_lt hi))
   refine rl_assign rfl rfl ?_
   refine RL.nil ?_
   refine thn_n ?_
   refine CW.ret ?_
   obtain rfl := Option.some.inj hS
   exact ret1 rfl ⟨v11, rfl, h13.out, c0⟩
end Go.Proofs.Yteoaobiglodblaa
