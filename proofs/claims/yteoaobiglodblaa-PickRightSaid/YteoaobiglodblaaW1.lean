/- The walks through the code: each call comes to its printed function. Written by a program of this session. -/
import Derived.Test.YteoaobiglodblaaM
namespace Go.Proofs.Yteoaobiglodblaa
open Go K
set_option linter.unusedVariables false
/-- slices.Clone[[]lb/hints.Candidate,lb/hints.Candidate] -/
theorem ctr42 (F : Nat → Prop) (w : World) (a0 : (List Candidate)) (av0 : Value) (ah0 : slRep k_Candidate F w a0 av0) (r : (List Candidate)) (hs : F42_slices_Clone_hints_Candidate_hints_Candi a0 = some r) :
    Ret Try.prog 42 #[av0] w fun v w' => ∃ y0 : Value, v = y0 ∧ SlO k_Candidate 44 F w.heap.size (inBlk y0) w' r y0 ∧ Ch nb w w' := by
  have hS := hs
  have c0 : Ch nb w w := Ch.refl
  have ah0 := slRep.enter k_Candidate_pos ah0
  refine Ret.of (n := 8) (args := [_]) (rs := [.tmp 2]) Try.func42 rfl rfl rfl rfl ?_
  refine CW.seq (CW.region ?_)
  refine rl_assign rfl rfl ?_
  refine RL.nil ?_
  refine thn_n ?_
  refine CW.seq ?_
  refine CW.seq (CW.region ?_)
  refine rl_move rfl rfl ?_
  refine rl_slNil rfl ah0 Try.underlying22 rfl ?_
  intro b1 n2
  refine RL.nil ?_
  refine thn_n ?_
  refine CW.cond (t := b1) rfl (fun q3 => ?_) (fun q3 => ?_)
  ·
   obtain ⟨rfl, rfl⟩ := n2 q3
   refine CW.seq (CW.region ?_)
   refine rl_assign rfl rfl ?_
   refine RL.nil ?_
   refine thn_n ?_
   refine CW.ret ?_
   refine thn_ret ?_
   obtain rfl := Option.some.inj hS
   exact ret1 rfl ⟨(Value.slice none 0 0), rfl, SlO.nil, c0⟩
  ·
   refine CW.skip ?_
   refine thn_n ?_
   refine CW.seq (CW.region ?_)
   refine rl_bslice (k := k_Candidate) (F := F) (B := w.heap.size) (S := nb) ([] : List Candidate) rfl k_Candidate_pos Try.underlying22 Try.sizeOf44 Try.zeroValue44 rfl rfl trivial c0.size nbS rfl ?_
   intro v4 w5 c6 hf7 h8
   have ah0 := slRep.st k_Candidate_pos ah0 c6 (admNew hf7 (fun _ x => x))
   have c0 := c0.then0 c6
   refine rl_move rfl rfl ?_
   obtain ⟨z9, hz10, hS⟩ := bindS hS
   obtain ⟨hl, rfl⟩ := apO_get hz10
   refine rl_append (k := k_Candidate) (T := 44) (F := F) (B := w.heap.size) (S := (un (inBlk v4) nb)) (S2 := nb) (fun v => (un (inBlk v) nb)) rfl rfl k_Candidate_pos ap22 h8 ah0 (fun _ => Iff.rfl) (fun _ _ => Iff.rfl) hl c0.size (un_lt (fun b hb => (h8.lt b hb).2) nbS) rfl ?_
   intro v11 w12 h13 c14 hf15 ha16
   have ah0 := slRep.st k_Candidate_pos ah0 c14 ha16
   have c0 := c0.then c14 (fun i hi h => absurd ((fun b hb => (h8.lt b hb).1) i h) (Nat.not_le_of_lt hi))
   refine rl_assign rfl rfl ?_
   refine RL.nil ?_
   refine thn_n ?_
   refine CW.ret ?_
   obtain rfl := Option.some.inj hS
   exact ret1 rfl ⟨v11, rfl, h13.out, c0⟩
/-- lb/pick.those$1 -/
theorem ctr43 (F : Nat → Prop) (w : World) (a0 : Candidate) (az0_0 : Value) (ah0_0 : slRep kStr F w a0.zones az0_0) (a1 : (Candidate → Bool)) (av1 : Value) (ah1 : ((Kd.fn1 Try.prog true k_Candidate Value.bool).box 61).rep F w a1 [av1]) (r : Bool) (hs : F43_pick_those_1 a0 a1 = r) :
    Ret Try.prog 43 #[(Value.agg (Candidate.c a0 az0_0).toArray), av1] w fun v w' => v = (Value.bool r) ∧ Ch nb w w' := by
  have hS := hs
  have c0 : Ch nb w w := Ch.refl
  have ah0_0 := slRep.enter kStr_pos ah0_0
  have ah1 := Kd.enter ah1
  refine Ret.of (n := 8) (args := [_, _]) (rs := [.tmp 3]) Try.func43 rfl rfl rfl rfl ?_
  refine CW.seq (CW.region ?_)
  refine rl_boxA (cs := (Candidate.c a0 az0_0)) rfl rfl ?_
  intro p1 w2 n3 k4
  have gp1 : (G F w.heap.size nb) p1 := ⟨.inr (by rw [n3.eq]; exact c0.size), fun h => absurd (nbS _ h) (by rw [n3.eq]; exact Nat.lt_irrefl _)⟩
  have ah0_0 := slRep.ch kStr_pos ah0_0 n3.ch
  have ah1 := Kd.ch ah1 n3.ch
  have c0 := c0.then0 n3.ch
  refine rl_assign rfl rfl ?_
  refine RL.nil ?_
  refine thn_n ?_
  refine CW.seq (CW.region ?_)
  obtain ⟨p5, cc6, e7, gf8, k9, h10⟩ := ah1
  obtain rfl := (List.cons.inj e7).1
  obtain ⟨u11, rfl⟩ : ∃ u, cc6 = [u] := List.length_eq_one_iff.1 (Kd.len _ h10)
  refine rl_loadS (v := u11) rfl Try.isAgg61 (k9.cell rfl) rfl ?_
  refine rl_loadA (cs := (Candidate.c a0 az0_0)) rfl Try.isAgg44 Try.sizeOf44 (k4.segAt 0 23) rfl rfl ?_
  refine rl_fn1 (c := (Candidate.c a0 az0_0)) rfl rfl rfl h10 (F' := (G F w.heap.size nb)) (xx := a0) (show k_Candidate.rep (G F w.heap.size nb) w2 a0 (Candidate.c a0 az0_0) from ⟨az0_0, rfl, ah0_0⟩) rfl ?_
  intro w12 c13
  have ah0_0 := slRep.ch kStr_pos ah0_0 c13
  have k4 := k4.ch0 c13
  have h10 := Kd.ch h10 c13
  have k9 := k9.ch0 c13
  have c0 := c0.then0 c13
  refine rl_not rfl rfl ?_
  refine rl_assign rfl rfl ?_
  refine RL.nil ?_
  refine thn_n ?_
  refine CW.ret ?_
  obtain rfl := hS
  exact ret1 rfl ⟨rfl, c0⟩
/-- slices.IndexFunc[[]lb/hints.Candidate,lb/hints.Candidate] -/
theorem ctr44 (F : Nat → Prop) (w : World) (a0 : (List Candidate)) (av0 : Value) (ah0 : slRep k_Candidate F w a0 av0) (a1 : (Candidate → Bool)) (av1 : Value) (ah1 : (Kd.fn1 Try.prog true k_Candidate Value.bool).rep F w a1 [av1]) (r : Int) (hs : F44_slices_IndexFunc_hints_Candidate_hints_C a0 a1 = r) :
    Ret Try.prog 44 #[av0, av1] w fun v w' => v = (Value.int .i64 r) ∧ Ch nb w w' := by
  have hS := hs
  have c0 : Ch nb w w := Ch.refl
  have ah0 := slRep.enter k_Candidate_pos ah0
  have ah1 := Kd.enter ah1
  refine Ret.of (n := 19) (args := [_, _]) (rs := [.tmp 4]) Try.func44 rfl rfl rfl rfl ?_
  refine CW.seq (CW.region ?_)
  refine rl_assign rfl rfl ?_
  refine RL.nil ?_
  refine thn_n ?_
  refine CW.seq ?_
  refine CW.seq (CW.region ?_)
  refine rl_move rfl rfl ?_
  refine rl_lenR rfl ah0 Try.underlying22 rfl ?_
  refine rl_move rfl rfl ?_
  refine RL.nil ?_
  refine thn_n ?_
  obtain ⟨o8, ho9⟩ : ∃ o, runB (F44_slices_IndexFunc_hints_Candidate_hints_C_b1 a1) a0 0 = o := ⟨_, rfl⟩
  have hS := ltS ho9 hS
  refine CW.cutB (fun E' w' => ∃ (ix15 : Nat), Sub [] E' ∧ Ch nb w w' ∧ Lp.fin ix15 = o8 ∧ slRep k_Candidate (G F w.heap.size nb) w' a0 av0 ∧ (Kd.fn1 Try.prog true k_Candidate Value.bool).rep (G F w.heap.size nb) w' a1 [av1]) ?_ ?_
  ·
   refine CW.loopS [(0, av0), (1, av1), (7, (Value.int .i64 ((a0.length : Nat) : Int))), (8, (Value.int .i64 ((0 : Nat) : Int)))] ⟨rfl, rfl, rfl, rfl, trivial⟩ a0.length (fun m E w' => ∃ (rest1 : List Candidate) (i2 : Nat) , m = rest1.length ∧ E = [(0, av0), (1, av1), (7, (Value.int .i64 ((a0.length : Nat) : Int))), (8, (Value.int .i64 ((i2 : Nat) : Int)))] ∧ Ch nb w w' ∧ At a0 i2 rest1 ∧ runB (F44_slices_IndexFunc_hints_Candidate_hints_C_b1 a1) rest1 i2 = o8 ∧ slRep k_Candidate (G F w.heap.size nb) w' a0 av0 ∧ (Kd.fn1 Try.prog true k_Candidate Value.bool).rep (G F w.heap.size nb) w' a1 [av1])
       ⟨a0, 0, rfl, rfl, c0, At.start, ho9, ah0, ah1⟩ ?_
   rintro _ _ w14 ⟨rest1, i2, rfl, rfl, c13, hat4, hL3, ah0, ah1⟩
   refine CW.seq (CW.region ?_)
   refine rl_bin rfl rfl B.lss rfl ?_
   refine RL.nil (thn_n ?_)
   refine CW.seq ?_
   refine CW.cond (t := decide (((i2 : Nat) : Int) < ((a0.length : Nat) : Int))) rfl (fun q16 => ?_) (fun q16 => ?_)
   ·
    obtain ⟨x10, rest17, rfl⟩ := hat4.cons q16
    obtain ⟨q5, hq6⟩ : ∃ q, (F44_slices_IndexFunc_hints_Candidate_hints_C_b1 a1) x10 i2 = q := ⟨_, rfl⟩
    have hb7 := hq6
    refine CW.skip (thn_n ?_)
    refine CW.seq ?_
    refine CW.block ?_
    refine CW.seq (CW.region ?_)
    refine rl_move rfl rfl ?_
    refine rl_assign rfl rfl ?_
    refine RL.nil ?_
    refine thn_n ?_
    refine CW.seq (CW.region ?_)
    refine rl_move rfl rfl ?_
    refine rl_move rfl rfl ?_
    refine rl_move rfl rfl ?_
    refine rl_ixR rfl ah0 rfl hat4.get Try.underlying22 Try.sizeOf44 rfl ?_
    intro p18 o19 cs20 hr21 hs22 hg23
    obtain ⟨z24, rfl, h25⟩ := hr21
    refine rl_loadA (cs := (Candidate.c x10 z24)) rfl Try.isAgg44 Try.sizeOf44 (hs22) rfl rfl ?_
    refine rl_fn1 (c := (Candidate.c x10 z24)) rfl rfl rfl ah1 (F' := (G F w.heap.size nb)) (xx := x10) (show k_Candidate.rep (G F w.heap.size nb) w14 x10 (Candidate.c x10 z24) from ⟨z24, rfl, h25⟩) rfl ?_
    intro w26 c27
    have ah0 := slRep.ch k_Candidate_pos ah0 c27
    have ah1 := Kd.ch ah1 c27
    have h25 := slRep.ch kStr_pos h25 c27
    have hs22 := hs22.ch0 c27
    have c13 := c13.then0 c27
    refine RL.nil ?_
    refine thn_n ?_
    refine CW.cond (t := a1 x10) rfl (fun q28 => ?_) (fun q28 => ?_)
    ·
     have hb7 := ifT q28 hb7
     refine CW.seq (CW.region ?_)
     refine rl_move rfl rfl ?_
     refine rl_assign rfl rfl ?_
     refine RL.nil ?_
     refine thn_n ?_
     refine CW.ret ?_
     refine inB_ret ?_
     refine thn_ret ?_
     refine thn_ret (inB_ret (thn_ret ?_))
     refine thn_ret ?_
     have f29 := runB_ret hL3 (hb7.trans hq6.symm)
     have hS := retS f29 hS
     obtain rfl := hS
     exact ret1 rfl ⟨rfl, c13⟩
    ·
     have hb7 := ifF q28 hb7
     refine CW.skip ?_
     refine inB_n ?_
     refine thn_n ?_
     refine CW.region ?_
     refine rl_inc rfl hat4.lt ah0.big rfl ?_
     refine rl_move rfl rfl ?_
     refine RL.nil ?_
     refine thn_n ?_
     have hLn := runB_next hL3 (hb7.trans hq6.symm)
     exact ⟨rest17.length, Nat.lt_succ_self _, [(0, av0), (1, av1), (7, (Value.int .i64 ((a0.length : Nat) : Int))), (8, (Value.int .i64 ((i2 + 1 : Nat) : Int)))], ⟨rfl, rfl, rfl, rfl, trivial⟩, ⟨rest17, i2 + 1, rfl, rfl, c13, hat4.next, hLn, ah0, ah1⟩⟩
   ·
    obtain rfl := hat4.nil q16
    have hLf : Lp.fin i2 = o8 := hL3
    refine CW.exit (thn_exit (thn_exit (inB_hit ?_)))
    exact ⟨i2, trivial, c13, hLf, ah0, ah1⟩
  ·
   rintro _ w31 ⟨ix15, hE32, c30, f33, ah0, ah1⟩
   have hS := finS f33 hS
   refine thn_n (CW.sub [] hE32 ?_)
   refine CW.seq (CW.region ?_)
   refine rl_assign rfl rfl ?_
   refine RL.nil ?_
   refine thn_n ?_
   refine CW.ret ?_
   obtain rfl := hS
   exact ret1 rfl ⟨rfl, c30⟩
/-- slices.DeleteFunc[[]lb/hints.Candidate,lb/hints.Candidate] -/
theorem ctr41 (F : Nat → Prop) (w : World) (Bb : Nat) (S2 : Nat → Prop) (hB : Bb ≤ w.heap.size) (h2 : ∀ b, S2 b → b < w.heap.size) (av0 : Value) (hd2 : ∀ b, inBlk av0 b → ¬ S2 b) (a0 : (List Candidate)) (ah0 : SlO k_Candidate 44 F Bb (un (inBlk av0) S2) w a0 av0) (a1 : (Candidate → Bool)) (av1 : Value) (ah1 : (Kd.fn1 Try.prog true k_Candidate Value.bool).rep (G F Bb (un (inBlk av0) S2)) w a1 [av1]) (r : (List Candidate)) (hs : F41_slices_DeleteFunc_hints_Candidate_hints_ a0 a1 = some r) :
    Ret Try.prog 41 #[av0, av1] w fun v w' => ∃ y0 : Value, v = y0 ∧ SlO k_Candidate 44 F Bb (un (inBlk y0) S2) w' r y0 ∧ (∀ b, inBlk y0 b → inBlk av0 b ∨ w.heap.size ≤ b) ∧ Ch (inBlk av0) w w' := by
  have hS := hs
  have c0 : Ch (inBlk av0) w w := Ch.refl
  have lin0 : ∀ b, inBlk av0 b → inBlk av0 b ∨ w.heap.size ≤ b := fun _ h => .inl h
  refine Ret.of (n := 42) (args := [_, _]) (rs := [.tmp 4]) Try.func41 rfl rfl rfl rfl ?_
  refine CW.seq (CW.region ?_)
  refine rl_assign rfl rfl ?_
  refine RL.nil ?_
  refine thn_n ?_
  refine CW.seq (CW.region ?_)
  refine rl_move rfl rfl ?_
  refine rl_move rfl rfl ?_
  obtain ⟨y3, hy4⟩ : ∃ y, F44_slices_IndexFunc_hints_Candidate_hints_C a0 a1 = y := ⟨_, rfl⟩
  have hS := ltS hy4 hS
  refine rl_callF rfl en44 rfl (ctr44 (G F Bb S2) w a0 av0 (SlO.read (S' := S2) k_Candidate_pos ah0 (fun b hs h => hs ((.inr h))) (fun b hb => hd2 b hb)) a1 av1 (Kd.wk ah1 (fun b _ hf => ⟨hf.1, fun h => hf.2 ((.inr h))⟩)) y3 hy4) ?_
  rintro _ w1 ⟨rfl, c2⟩
  have ah0 := ah0.ch0 c2
  have ah1 := Kd.ch ah1 c2
  have c0 := c0.then0 c2
  refine rl_assign rfl rfl ?_
  refine RL.nil ?_
  refine thn_n ?_
  refine CW.seq ?_
  refine CW.seq (CW.region ?_)
  refine rl_move rfl rfl ?_
  refine rl_bin rfl rfl B.eql rfl ?_
  refine RL.nil ?_
  refine thn_n ?_
  refine CW.cond (t := decide (y3 = (-1))) rfl (fun q5 => ?_) (fun q5 => ?_)
  ·
   have hS := ifT q5 hS
   refine CW.seq (CW.region ?_)
   refine rl_move rfl rfl ?_
   refine rl_assign rfl rfl ?_
   refine RL.nil ?_
   refine thn_n ?_
   refine CW.ret ?_
   refine thn_ret ?_
   obtain rfl := Option.some.inj hS
   exact ret1 rfl ⟨av0, rfl, ah0, lin0, c0⟩
  ·
   have hS := ifF q5 hS
   refine CW.skip ?_
   refine thn_n ?_
   refine CW.seq ?_
   refine CW.seq (CW.region ?_)
   refine rl_move rfl rfl ?_
   refine rl_bin rfl rfl B.add rfl ?_
   refine rl_assign rfl rfl ?_
   refine RL.nil ?_
   refine thn_n ?_
   obtain ⟨o17, ho18, hS⟩ := bindS hS
   refine CW.cutB (fun E' w' => ∃ (x6 : Int) (x7 : Int) (x8 : (List Candidate)), Sub [(0, av0), (5, (Value.int .i64 x6))] E' ∧ Ch (inBlk av0) w w' ∧ Lp.fin (x6, x7, x8) = o17 ∧ (Kd.fn1 Try.prog true k_Candidate Value.bool).rep (G F Bb (un (inBlk av0) S2)) w' a1 [av1] ∧ SlO k_Candidate 44 F Bb (un (inBlk av0) S2) w' x8 av0) ?_ ?_
   ·
    refine CW.loopS [(0, av0), (1, av1), (5, (Value.int .i64 y3)), (6, (Value.int .i64 (IntKind.i64.wrap (y3 + 1))))] ⟨rfl, rfl, rfl, rfl, trivial⟩ FUEL (fun m E w' => ∃ (x6 : Int) (x7 : Int) (x8 : (List Candidate)), E = [(0, av0), (1, av1), (5, (Value.int .i64 x6)), (6, (Value.int .i64 x7))] ∧ Ch (inBlk av0) w w' ∧ runW (F41_slices_DeleteFunc_hints_Candidate_hints__b1 a1) m (x6, x7, x8) = some o17 ∧ (Kd.fn1 Try.prog true k_Candidate Value.bool).rep (G F Bb (un (inBlk av0) S2)) w' a1 [av1] ∧ SlO k_Candidate 44 F Bb (un (inBlk av0) S2) w' x8 av0)
        ⟨y3, IntKind.i64.wrap (y3 + 1), a0, rfl, c0, ho18, ah1, ah0⟩ ?_
    rintro _ _ w23 ⟨x6, x7, x8, rfl, c22, hL12, ah1, h9⟩
    obtain ⟨k21, q14, rfl, hq15⟩ := runW_some hL12
    have hb16 := hq15
    refine CW.seq ?_
    refine CW.seq (CW.region ?_)
    refine rl_move rfl rfl ?_
    refine rl_move rfl rfl ?_
    refine rl_lenR rfl (SlO.read (S' := S2) k_Candidate_pos h9 (fun b hs h => hs ((.inr h))) (fun b hb => hd2 b hb)) Try.underlying22 rfl ?_
    refine rl_bin rfl rfl B.lss rfl ?_
    refine RL.nil ?_
    refine thn_n ?_
    refine CW.cond (t := decide (x7 < ((x8.length : Nat) : Int))) rfl (fun q25 => ?_) (fun q25 => ?_)
    ·
     have hb16 := ifT q25 hb16
     refine CW.skip ?_
     refine thn_n ?_
     refine CW.seq ?_
     refine CW.block ?_
     refine CW.seq (CW.region ?_)
     refine rl_move rfl rfl ?_
     refine rl_move rfl rfl ?_
     obtain ⟨y32, hy33, hb16⟩ := bindS hb16
     refine rl_ixOR rfl h9 rfl (ixO_get hy33) k_Candidate_pos Try.underlying22 Try.sizeOf44 rfl ?_
     intro p26 o27 cs28 hr29 hs30 hg31
     obtain ⟨z34, rfl, h35⟩ := hr29
     refine rl_loadA (cs := (Candidate.c y32 z34)) rfl Try.isAgg44 Try.sizeOf44 (hs30) rfl rfl ?_
     refine rl_alloc (Candidate.c Candidate.z (Value.slice none 0 0)) Try.zeroValue44 rfl rfl ?_
     intro p36 w37 n38 k39
     have lop36 := n38.lo c22.size
     have d40 : ∀ b, inBlk (Value.pointer (some ⟨p36, 0, none⟩)) b → ¬ inBlk av0 b := disNew n38.fresh (fun b hb => (h9.lt b hb).2)
     have ah1 := Kd.st ah1 n38.ch (admNew n38.fresh (fun _ x => x))
     have h9 := h9.st n38.ch (fun _ _ x => x) (admNew n38.fresh (fun _ x => x)) (fun b h => (.inr (.inl h)))
     have h35 := slRep.st kStr_pos h35 n38.ch (admNew n38.fresh (fun _ x => x))
     have c22 := c22.then0 n38.ch
     refine rl_storeA (vs := (Candidate.c y32 z34)) rfl rfl (Kd.one _ (show k_Candidate.rep (G F Bb (un (inBlk (Value.pointer (some ⟨p36, 0, none⟩))) (un (inBlk av0) S2))) w37 y32 (Candidate.c y32 z34) from ⟨z34, rfl, h35⟩)) Try.sizeOf44 rfl k39 rfl ?_
     intro w41 s43 c42 k44
     have ad45 : ∀ b, b < w37.heap.size → ¬ (un (inBlk (Value.pointer (some ⟨p36, 0, none⟩))) (un (inBlk av0) S2)) b → ¬ inBlk (Value.pointer (some ⟨p36, 0, none⟩)) b ∧ ¬ (un (inBlk (Value.pointer (some ⟨p36, 0, none⟩))) (un (inBlk av0) S2)) b := fun b _ hs => ⟨fun h => hs (.inl h), hs⟩
     have ah1 := Kd.st ah1 c42 ad45
     have h9 := h9.st c42 (disSym d40) ad45 (fun b h => (.inr (.inl h)))
     have h35 := slRep.st kStr_pos h35 c42 ad45
     have c22 := c22.then c42 (fun i hi h => absurd (lop36 i h) (Nat.not_le_of_lt hi))
     refine RL.nil ?_
     refine thn_n ?_
     refine CW.seq (CW.region ?_)
     refine rl_move rfl rfl ?_
     refine rl_loadA (cs := (Candidate.c y32 z34)) rfl Try.isAgg44 Try.sizeOf44 (k44.segAt 0 23) rfl rfl ?_
     refine rl_fn1 (c := (Candidate.c y32 z34)) rfl rfl rfl ah1 (F' := (G F Bb (un (inBlk (Value.pointer (some ⟨p36, 0, none⟩))) (un (inBlk av0) S2)))) (xx := y32) (show k_Candidate.rep (G F Bb (un (inBlk (Value.pointer (some ⟨p36, 0, none⟩))) (un (inBlk av0) S2))) w41 y32 (Candidate.c y32 z34) from ⟨z34, rfl, h35⟩) rfl ?_
     intro w46 c47
     have ah1 := Kd.ch ah1 c47
     have h9 := h9.ch0 c47
     have h35 := slRep.ch kStr_pos h35 c47
     have k44 := k44.ch0 c47
     have c22 := c22.then0 c47
     refine rl_not rfl rfl ?_
     refine RL.nil ?_
     refine thn_n ?_
     refine CW.cond (t := !(a1 y32)) rfl (fun q48 => ?_) (fun q48 => ?_)
     ·
      have hb16 := ifT q48 hb16
      refine CW.seq (CW.region ?_)
      refine rl_move rfl rfl ?_
      refine rl_move rfl rfl ?_
      refine rl_loadA (cs := (Candidate.c y32 z34)) rfl Try.isAgg44 Try.sizeOf44 (k44.segAt 0 23) rfl rfl ?_
      obtain ⟨y55, hy56, hb16⟩ := bindS hb16
      refine rl_ixO rfl h9 rfl (ixO_get hy56) Try.underlying22 Try.sizeOf44 rfl ?_
      intro p49 hg54
      refine rl_storeOA rfl rfl Try.sizeOf44 h9 hg54 (ixO_lt hy56) (show k_Candidate.rep (G F Bb (un (inBlk (Value.pointer (some ⟨p36, 0, none⟩))) (un (inBlk av0) S2))) w46 y32 (Candidate.c y32 z34) from ⟨z34, rfl, h35⟩) ?_
      intro w57 c58 h59
      have ad60 : ∀ b, b < w46.heap.size → ¬ (un (inBlk (Value.pointer (some ⟨p36, 0, none⟩))) (un (inBlk av0) S2)) b → ¬ inBlk av0 b ∧ ¬ (un (inBlk (Value.pointer (some ⟨p36, 0, none⟩))) (un (inBlk av0) S2)) b := fun b _ hs => ⟨fun h => hs (.inr (.inl h)), hs⟩
      have ah1 := Kd.st ah1 c58 ad60
      have h35 := slRep.st kStr_pos h35 c58 ad60
      have k44 := k44.ch c58 (d40 _ rfl)
      have c22 := c22.then c58 (fun i hi h => (lin0 i h).elim (fun x => x) (fun x => absurd x (Nat.not_le_of_lt hi)))
      refine RL.nil ?_
      refine thn_n ?_
      refine CW.region ?_
      refine rl_move rfl rfl ?_
      refine rl_bin rfl rfl B.add rfl ?_
      refine rl_assign rfl rfl ?_
      refine RL.nil ?_
      refine inB_n ?_
      refine thn_n ?_
      refine CW.region ?_
      refine rl_move rfl rfl ?_
      refine rl_bin rfl rfl B.add rfl ?_
      refine rl_assign rfl rfl ?_
      refine RL.nil ?_
      refine thn_n ?_
      have crf : Ch nb w57 w57 := Ch.refl
      have ah1 := Kd.st ah1 crf (show ∀ b, b < w57.heap.size → ¬ (un (inBlk (Value.pointer (some ⟨p36, 0, none⟩))) (un (inBlk av0) S2)) b → ¬ nb b ∧ ¬ (un (inBlk av0) S2) b from fun b _ hs => ⟨fun x => x, fun h => hs (un_el h (fun h => (.inr (.inl h))) (fun h => (.inr (.inr h))))⟩)
      have h35 := slRep.st kStr_pos h35 crf (show ∀ b, b < w57.heap.size → ¬ (un (inBlk (Value.pointer (some ⟨p36, 0, none⟩))) (un (inBlk av0) S2)) b → ¬ nb b ∧ ¬ (un (inBlk av0) S2) b from fun b _ hs => ⟨fun x => x, fun h => hs (un_el h (fun h => (.inr (.inl h))) (fun h => (.inr (.inr h))))⟩)
      have h59 := h59.st crf (fun _ _ x => x) (show ∀ b, b < w57.heap.size → ¬ (un (inBlk (Value.pointer (some ⟨p36, 0, none⟩))) (un (inBlk av0) S2)) b → ¬ nb b ∧ ¬ (un (inBlk av0) S2) b from fun b _ hs => ⟨fun x => x, fun h => hs (un_el h (fun h => (.inr (.inl h))) (fun h => (.inr (.inr h))))⟩) (fun b h => (.inl h))
      have c22 := c22.then0 crf
      have hLn := runW_next hL12 hq15 hb16
      exact ⟨k21, Nat.lt_succ_self _, [(0, av0), (1, av1), (5, (Value.int .i64 (IntKind.i64.wrap (x6 + 1)))), (6, (Value.int .i64 (IntKind.i64.wrap (x7 + 1))))], ⟨rfl, rfl, rfl, rfl, trivial⟩, ⟨IntKind.i64.wrap (x6 + 1), IntKind.i64.wrap (x7 + 1), x8.set x6.toNat y32, rfl, c22, hLn, ah1, h59⟩⟩
     ·
      have hb16 := ifF q48 hb16
      refine CW.skip ?_
      refine inB_n ?_
      refine thn_n ?_
      refine CW.region ?_
      refine rl_move rfl rfl ?_
      refine rl_bin rfl rfl B.add rfl ?_
      refine rl_assign rfl rfl ?_
      refine RL.nil ?_
      refine thn_n ?_
      have crf : Ch nb w46 w46 := Ch.refl
      have ah1 := Kd.st ah1 crf (show ∀ b, b < w46.heap.size → ¬ (un (inBlk (Value.pointer (some ⟨p36, 0, none⟩))) (un (inBlk av0) S2)) b → ¬ nb b ∧ ¬ (un (inBlk av0) S2) b from fun b _ hs => ⟨fun x => x, fun h => hs (un_el h (fun h => (.inr (.inl h))) (fun h => (.inr (.inr h))))⟩)
      have h9 := h9.st crf (fun _ _ x => x) (show ∀ b, b < w46.heap.size → ¬ (un (inBlk (Value.pointer (some ⟨p36, 0, none⟩))) (un (inBlk av0) S2)) b → ¬ nb b ∧ ¬ (un (inBlk av0) S2) b from fun b _ hs => ⟨fun x => x, fun h => hs (un_el h (fun h => (.inr (.inl h))) (fun h => (.inr (.inr h))))⟩) (fun b h => (.inl h))
      have h35 := slRep.st kStr_pos h35 crf (show ∀ b, b < w46.heap.size → ¬ (un (inBlk (Value.pointer (some ⟨p36, 0, none⟩))) (un (inBlk av0) S2)) b → ¬ nb b ∧ ¬ (un (inBlk av0) S2) b from fun b _ hs => ⟨fun x => x, fun h => hs (un_el h (fun h => (.inr (.inl h))) (fun h => (.inr (.inr h))))⟩)
      have c22 := c22.then0 crf
      have hLn := runW_next hL12 hq15 hb16
      exact ⟨k21, Nat.lt_succ_self _, [(0, av0), (1, av1), (5, (Value.int .i64 x6)), (6, (Value.int .i64 (IntKind.i64.wrap (x7 + 1))))], ⟨rfl, rfl, rfl, rfl, trivial⟩, ⟨x6, IntKind.i64.wrap (x7 + 1), x8, rfl, c22, hLn, ah1, h9⟩⟩
    ·
     have hb16 := ifF q25 hb16
     refine CW.exit ?_
     refine thn_exit ?_
     refine thn_exit ?_
     refine inB_hit ?_
     have hLf := runW_fin hL12 hq15 hb16
     exact ⟨x6, x7, x8, ⟨rfl, rfl, trivial⟩, c22, hLf, ah1, h9⟩
   ·
    rintro _ w62 ⟨x6, x7, x8, hE63, c61, f64, ah1, h9⟩
    have hS := finS f64 hS
    refine thn_n (CW.sub [(0, av0), (5, (Value.int .i64 x6))] hE63 ?_)
    refine CW.seq (CW.region ?_)
    refine rl_move rfl rfl ?_
    refine rl_move rfl rfl ?_
    obtain ⟨y66, hy67, hS⟩ := bindS hS
    refine rl_cutS rfl h9 rfl hy67 Try.underlying22 Try.sizeOf44 rfl ?_
    intro v68 h69
    refine rl_clearO (z0 := Candidate.z) rfl h69 (slO_le hy67) Try.underlying22 Try.zeroValue44 h9 (show k_Candidate.rep (G F Bb (un (inBlk av0) S2)) w62 Candidate.z (Candidate.c Candidate.z (Value.slice none 0 0)) from ⟨(Value.slice none 0 0), rfl, (.inl ⟨rfl, rfl⟩)⟩) ?_
    intro w70 c71 h72
    have ad73 : ∀ b, b < w62.heap.size → ¬ (un (inBlk av0) S2) b → ¬ inBlk av0 b ∧ ¬ (un (inBlk av0) S2) b := fun b _ hs => ⟨fun h => hs (.inl h), hs⟩
    have ah1 := Kd.st ah1 c71 ad73
    have c61 := c61.then c71 (fun i hi h => (lin0 i h).elim (fun x => x) (fun x => absurd x (Nat.not_le_of_lt hi)))
    refine RL.nil ?_
    refine thn_n ?_
    refine CW.seq (CW.region ?_)
    refine rl_move rfl rfl ?_
    refine rl_move rfl rfl ?_
    obtain ⟨y74, hy75, hS⟩ := bindS hS
    refine rl_cutO (kl := .i64) (kh := .i64) none (some x6) rfl h72 trivial rfl rfl hy75 Try.underlying22 Try.sizeOf44 rfl ?_
    intro v76 hb78 h77
    have lin79 : ∀ b, inBlk v76 b → inBlk av0 b ∨ w.heap.size ≤ b := fun b h => lin0 b ((hb78 b).1 h)
    have hS80 : (un (inBlk av0) S2) = (un (inBlk v76) S2) := by rw [show inBlk v76 = inBlk av0 from funext fun b => propext (hb78 b)]
    rw [hS80] at h77 ah1
    refine rl_assign rfl rfl ?_
    refine RL.nil ?_
    refine thn_n ?_
    refine CW.ret ?_
    obtain rfl := Option.some.inj hS
    exact ret1 rfl ⟨v76, rfl, h77, lin79, c61⟩
/-- lb/pick.those -/
theorem ctr25 (F : Nat → Prop) (w : World) (a0 : (List Candidate)) (av0 : Value) (ah0 : slRep k_Candidate F w a0 av0) (a1 : (Candidate → Bool)) (av1 : Value) (ah1 : (Kd.fn1 Try.prog true k_Candidate Value.bool).rep F w a1 [av1]) (r : (List Candidate)) (hs : F25_pick_those a0 a1 = some r) :
    Ret Try.prog 25 #[av0, av1] w fun v w' => ∃ y0 : Value, v = y0 ∧ SlO k_Candidate 44 F w.heap.size (inBlk y0) w' r y0 ∧ Ch nb w w' := by
  have hS := hs
  have c0 : Ch nb w w := Ch.refl
  have ah0 := slRep.enter k_Candidate_pos ah0
  have ah1 := Kd.enter ah1
  refine Ret.of (n := 9) (args := [_, _]) (rs := [.tmp 4]) Try.func25 rfl rfl rfl rfl ?_
  refine CW.seq (CW.region ?_)
  refine rl_box [av1] rfl (fn_cells1 ah1) rfl ?_
  intro p1 w2 n3 k4
  have gp1 : (G F w.heap.size nb) p1 := ⟨.inr (by rw [n3.eq]; exact c0.size), fun h => absurd (nbS _ h) (by rw [n3.eq]; exact Nat.lt_irrefl _)⟩
  have ah0 := slRep.ch k_Candidate_pos ah0 n3.ch
  have ah1 := Kd.ch ah1 n3.ch
  have c0 := c0.then0 n3.ch
  refine rl_assign rfl rfl ?_
  refine RL.nil ?_
  refine thn_n ?_
  refine CW.seq (CW.region ?_)
  refine rl_move rfl rfl ?_
  obtain ⟨y7, hy8, hS⟩ := bindS hS
  refine rl_callF rfl en42 rfl (ctr42 (G F w.heap.size nb) w2 a0 av0 ah0 y7 hy8) ?_
  rintro v9 w5 ⟨_, rfl, h10, c6⟩
  have hf11 : ∀ b, inBlk v9 b → w2.heap.size ≤ b := fun b hb => (h10.lt b hb).1
  have h10 := SlO.back (S' := un (inBlk v9) nb) h10 nbS c0.size (fun _ => Or.comm)
  have ah0 := slRep.st k_Candidate_pos ah0 c6 (admNew hf11 (fun _ x => x))
  have ah1 := Kd.st ah1 c6 (admNew hf11 (fun _ x => x))
  have gp1n : (G F w.heap.size (un (inBlk v9) nb)) p1 := ⟨gp1.1, ((admNew hf11 (fun _ x => x)) _ k4.lt gp1.2).2⟩
  have k4 := k4.ch0 c6
  have gp1 := gp1n
  have c0 := c0.then0 c6
  refine rl_makeFunc rfl rfl ?_
  have hd12 : ∀ b, inBlk v9 b → ¬ nb b := (fun b hb => fun h => h)
  have hS13 : (un (inBlk v9) nb) = un (inBlk v9) nb := funext fun _ => propext Iff.rfl
  have ha14 := (show (Kd.fn1 Try.prog true k_Candidate Value.bool).rep (G F w.heap.size (un (inBlk v9) nb)) w5 (fun x0 => F43_pick_those_1 x0 a1) [(Value.func (.func 43) #[] [(Value.pointer (some ⟨p1, 0, none⟩))].toArray)] from ⟨43, [(Value.pointer (some ⟨p1, 0, none⟩))], rfl, en43, fun w' hw F' x0 c0 hx0 => by
      obtain ⟨u0_0, rfl, e0_0⟩ := hx0
      exact (ctr43 (fun b => (G F w.heap.size (un (inBlk v9) nb)) b ∨ F' b) w' x0 u0_0 (slRep.wk kStr_pos e0_0 fun _ _ h => .inr h) a1 (Value.pointer (some ⟨p1, 0, none⟩)) (Kd.mono _ (show ((Kd.fn1 Try.prog true k_Candidate Value.bool).box 61).rep (G F w.heap.size (un (inBlk v9) nb)) w5 a1 [(Value.pointer (some ⟨p1, 0, none⟩))] from ⟨p1, _, rfl, gp1, k4, ah1⟩) fun b hb hf => ⟨.inl hf, (hw b hb hf).2⟩) _ rfl).mono (by rintro v w'' ⟨rfl, c⟩; exact ⟨rfl, c⟩)⟩)
  rw [hS13] at ha14
  obtain ⟨y17, hy18, hS⟩ := bindS hS
  refine rl_callF rfl en41 rfl (ctr41 F w5 w.heap.size nb c0.size nbS v9 hd12 y7 (hS13 ▸ h10) (fun x0 => F43_pick_those_1 x0 a1) (Value.func (.func 43) #[] [(Value.pointer (some ⟨p1, 0, none⟩))].toArray) ha14 y17 hy18) ?_
  rintro v19 w15 ⟨_, rfl, h20, hf21, c16⟩
  have ha22 : ∀ b, b < w5.heap.size → ¬ (un (inBlk v9) nb) b → ¬ inBlk v9 b ∧ ¬ (un (inBlk v19) nb) b := by rw [hS13]; exact admApp hf21
  have ah0 := slRep.st k_Candidate_pos ah0 c16 ha22
  have ah1 := Kd.st ah1 c16 ha22
  have gp1n : (G F w.heap.size (un (inBlk v19) nb)) p1 := ⟨gp1.1, (ha22 _ k4.lt gp1.2).2⟩
  have k4 := k4.ch c16 (ha22 _ k4.lt gp1.2).1
  have gp1 := gp1n
  have c0 := c0.then c16 (fun i hi h => absurd ((fun b hb => (h10.lt b hb).1) i h) (Nat.not_le_of_lt hi))
  refine rl_assign rfl rfl ?_
  refine RL.nil ?_
  refine thn_n ?_
  refine CW.ret ?_
  obtain rfl := Option.some.inj hS
  exact ret1 rfl ⟨v19, rfl, h20.out, c0⟩
/-- lb/pick.ready -/
theorem ctr26 (F : Nat → Prop) (w : World) (a0 : Candidate) (az0_0 : Value) (ah0_0 : slRep kStr F w a0.zones az0_0) (r : Bool) (hs : F26_pick_ready a0 = r) :
    Ret Try.prog 26 #[(Value.agg (Candidate.c a0 az0_0).toArray)] w fun v w' => v = (Value.bool r) ∧ Ch nb w w' := by
  have hS := hs
  have c0 : Ch nb w w := Ch.refl
  have ah0_0 := slRep.enter kStr_pos ah0_0
  refine Ret.of (n := 5) (args := [_]) (rs := [.tmp 2]) Try.func26 rfl rfl rfl rfl ?_
  refine CW.seq (CW.region ?_)
  refine rl_boxA (cs := (Candidate.c a0 az0_0)) rfl rfl ?_
  intro p1 w2 n3 k4
  have gp1 : (G F w.heap.size nb) p1 := ⟨.inr (by rw [n3.eq]; exact c0.size), fun h => absurd (nbS _ h) (by rw [n3.eq]; exact Nat.lt_irrefl _)⟩
  have ah0_0 := slRep.ch kStr_pos ah0_0 n3.ch
  have c0 := c0.then0 n3.ch
  refine rl_assign rfl rfl ?_
  refine RL.nil ?_
  refine thn_n ?_
  refine CW.seq (CW.region ?_)
  refine rl_fieldAddr rfl fa44_2 rfl ?_
  refine rl_loadS (v := (Value.bool a0.ready)) rfl Try.isAgg4 (k4.cell rfl) rfl ?_
  refine rl_assign rfl rfl ?_
  refine RL.nil ?_
  refine thn_n ?_
  refine CW.ret ?_
  obtain rfl := hS
  exact ret1 rfl ⟨rfl, c0⟩
/-- lb/pick.leaving -/
theorem ctr27 (F : Nat → Prop) (w : World) (a0 : Candidate) (az0_0 : Value) (ah0_0 : slRep kStr F w a0.zones az0_0) (r : Bool) (hs : F27_pick_leaving a0 = r) :
    Ret Try.prog 27 #[(Value.agg (Candidate.c a0 az0_0).toArray)] w fun v w' => v = (Value.bool r) ∧ Ch nb w w' := by
  have hS := hs
  have c0 : Ch nb w w := Ch.refl
  have ah0_0 := slRep.enter kStr_pos ah0_0
  refine Ret.of (n := 9) (args := [_]) (rs := [.tmp 2]) Try.func27 rfl rfl rfl rfl ?_
  refine CW.seq (CW.region ?_)
  refine rl_boxA (cs := (Candidate.c a0 az0_0)) rfl rfl ?_
  intro p1 w2 n3 k4
  have gp1 : (G F w.heap.size nb) p1 := ⟨.inr (by rw [n3.eq]; exact c0.size), fun h => absurd (nbS _ h) (by rw [n3.eq]; exact Nat.lt_irrefl _)⟩
  have ah0_0 := slRep.ch kStr_pos ah0_0 n3.ch
  have c0 := c0.then0 n3.ch
  refine rl_assign rfl rfl ?_
  refine RL.nil ?_
  refine thn_n ?_
  refine CW.seq (CW.region ?_)
  refine rl_fieldAddr rfl fa44_3 rfl ?_
  refine rl_loadS (v := (Value.bool a0.serving)) rfl Try.isAgg4 (k4.cell rfl) rfl ?_
  refine rl_move rfl rfl ?_
  obtain ⟨b7, hb8⟩ : ∃ v, (a0.serving && a0.terminating) = v := ⟨_, rfl⟩
  have hS := ltS hb8 hS
  refine RL.join 3 8 (.bool b7) (fun w' => Ch nb w2 w') ?_ ?_
  · rcases Bool.eq_false_or_eq_true a0.serving with hg6 | hg6
    ·
     have hs5 := and_t hg6 hb8
     have cs : Ch nb w2 w2 := Ch.refl
     refine RL.yes rfl rfl rfl hg6 ?_
     refine rl_fieldAddr rfl fa44_4 rfl ?_
     refine RL.yes rfl rfl rfl hg6 ?_
     refine rl_loadS (v := (Value.bool a0.terminating)) rfl Try.isAgg4 (k4.cell rfl) rfl ?_
     refine rl_pickT rfl hg6 rfl rfl ?_
     exact RL.nil ⟨Ext.bothEq (congrArg Value.bool hs5) (Ext.skip rfl (Ext.skip rfl (Ext.rfl'))), cs⟩
    ·
     have hs5 := and_f hg6 hb8
     have cs : Ch nb w2 w2 := Ch.refl
     refine RL.no rfl rfl rfl hg6 rfl rfl ?_
     refine RL.no rfl rfl rfl hg6 rfl rfl ?_
     refine rl_pickF rfl hg6 rfl rfl ?_
     exact RL.nil ⟨Ext.bothEq (congrArg Value.bool hs5) (Ext.skip rfl (Ext.skip rfl (Ext.rfl'))), cs⟩
  intro w9 c10
  have ah0_0 := slRep.ch kStr_pos ah0_0 c10
  have k4 := k4.ch0 c10
  have c0 := c0.then0 c10
  refine rl_assign rfl rfl ?_
  refine RL.nil ?_
  refine thn_n ?_
  refine CW.ret ?_
  obtain rfl := hS
  exact ret1 rfl ⟨rfl, c0⟩
/-- lb/pick.Usable -/
theorem ctr11 (F : Nat → Prop) (w : World) (a0 : (List Candidate)) (av0 : Value) (ah0 : slRep k_Candidate F w a0 av0) (r : (List Candidate)) (hs : F11_pick_Usable a0 = some r) :
    Ret Try.prog 11 #[av0] w fun v w' => ∃ y0 : Value, v = y0 ∧ SlO k_Candidate 44 F w.heap.size (inBlk y0) w' r y0 ∧ Ch nb w w' := by
  have hS := hs
  have c0 : Ch nb w w := Ch.refl
  have ah0 := slRep.enter k_Candidate_pos ah0
  refine Ret.of (n := 12) (args := [_]) (rs := [.tmp 2]) Try.func11 rfl rfl rfl rfl ?_
  refine CW.seq (CW.region ?_)
  refine rl_assign rfl rfl ?_
  refine RL.nil ?_
  refine thn_n ?_
  refine CW.seq ?_
  refine CW.seq (CW.region ?_)
  refine rl_move rfl rfl ?_
  obtain ⟨y3, hy4, hS⟩ := bindS hS
  refine rl_callF rfl en25 rfl (ctr25 (G F w.heap.size nb) w a0 av0 ah0 (fun x0 => F26_pick_ready x0) (Value.func (.func 26) #[] [].toArray) (show (Kd.fn1 Try.prog true k_Candidate Value.bool).rep (G F w.heap.size nb) w (fun x0 => F26_pick_ready x0) [(Value.func (.func 26) #[] [].toArray)] from ⟨26, [], rfl, en26, fun w' hw F' x0 c0 hx0 => by
      obtain ⟨u0_0, rfl, e0_0⟩ := hx0
      exact (ctr26 (fun b => (G F w.heap.size nb) b ∨ F' b) w' x0 u0_0 (slRep.wk kStr_pos e0_0 fun _ _ h => .inr h) _ rfl).mono (by rintro v w'' ⟨rfl, c⟩; exact ⟨rfl, c⟩)⟩) y3 hy4) ?_
  rintro v5 w1 ⟨_, rfl, h6, c2⟩
  have hf7 : ∀ b, inBlk v5 b → w.heap.size ≤ b := fun b hb => (h6.lt b hb).1
  have h6 := SlO.back (S' := un (inBlk v5) nb) h6 nbS c0.size (fun _ => Or.comm)
  have ah0 := slRep.st k_Candidate_pos ah0 c2 (admNew hf7 (fun _ x => x))
  have c0 := c0.then0 c2
  refine rl_assign rfl rfl ?_
  refine RL.nil ?_
  refine thn_n ?_
  refine CW.seq (CW.region ?_)
  refine rl_move rfl rfl ?_
  refine rl_lenR rfl (SlO.read (S' := nb) k_Candidate_pos h6 (fun b hs h => hs (False.elim h)) (fun b hb => fun h => h)) Try.underlying22 rfl ?_
  refine rl_bin rfl rfl B.gtr rfl ?_
  refine RL.nil ?_
  refine thn_n ?_
  refine CW.cond (t := decide (((y3.length : Nat) : Int) > 0)) rfl (fun q8 => ?_) (fun q8 => ?_)
  ·
   have hS := ifT q8 hS
   refine CW.seq (CW.region ?_)
   refine rl_move rfl rfl ?_
   refine rl_assign rfl rfl ?_
   refine RL.nil ?_
   refine thn_n ?_
   refine CW.ret ?_
   refine thn_ret ?_
   obtain rfl := Option.some.inj hS
   exact ret1 rfl ⟨v5, rfl, h6.out, c0⟩
  ·
   have hS := ifF q8 hS
   refine CW.skip ?_
   refine thn_n ?_
   refine CW.seq (CW.region ?_)
   refine rl_move rfl rfl ?_
   obtain ⟨y11, hy12, hS⟩ := bindS hS
   refine rl_callF rfl en25 rfl (ctr25 (G F w.heap.size (un (inBlk v5) nb)) w1 a0 av0 ah0 (fun x0 => F27_pick_leaving x0) (Value.func (.func 27) #[] [].toArray) (show (Kd.fn1 Try.prog true k_Candidate Value.bool).rep (G F w.heap.size (un (inBlk v5) nb)) w1 (fun x0 => F27_pick_leaving x0) [(Value.func (.func 27) #[] [].toArray)] from ⟨27, [], rfl, en27, fun w' hw F' x0 c0 hx0 => by
       obtain ⟨u0_0, rfl, e0_0⟩ := hx0
       exact (ctr27 (fun b => (G F w.heap.size (un (inBlk v5) nb)) b ∨ F' b) w' x0 u0_0 (slRep.wk kStr_pos e0_0 fun _ _ h => .inr h) _ rfl).mono (by rintro v w'' ⟨rfl, c⟩; exact ⟨rfl, c⟩)⟩) y11 hy12) ?_
   rintro v13 w9 ⟨_, rfl, h14, c10⟩
   have hf15 : ∀ b, inBlk v13 b → w1.heap.size ≤ b := fun b hb => (h14.lt b hb).1
   have h14 := SlO.back (S' := un (inBlk v13) (un (inBlk v5) nb)) h14 (un_lt (fun b hb => (h6.lt b hb).2) nbS) c0.size (fun _ => Or.comm)
   have d16 : ∀ b, inBlk v13 b → ¬ inBlk v5 b := disNew hf15 (fun b hb => (h6.lt b hb).2)
   have ah0 := slRep.st k_Candidate_pos ah0 c10 (admNew hf15 (fun _ x => x))
   have h6 := h6.st c10 (fun _ _ x => x) (admNew hf15 (fun _ x => x)) (fun b h => (.inr (.inl h)))
   have c0 := c0.then0 c10
   refine rl_assign rfl rfl ?_
   refine RL.nil ?_
   refine thn_n ?_
   refine CW.ret ?_
   obtain rfl := Option.some.inj hS
   exact ret1 rfl ⟨v13, rfl, h14.out, c0⟩
/-- lb/lblaw19.alive -/
theorem ctr6 (F : Nat → Prop) (w : World)  (r : Bool) (hs : F6_linkboylaw19_alive  = some r) :
    Ret Try.prog 6 #[] w fun v w' => v = (Value.bool r) ∧ Ch nb w w' := by
  have hS := hs
  have c0 : Ch nb w w := Ch.refl
  refine Ret.of (n := 15) (args := []) (rs := [.tmp 0]) Try.func6 rfl rfl rfl rfl ?_
  refine CW.seq (CW.region ?_)
  refine rl_assign rfl rfl ?_
  refine RL.nil ?_
  refine thn_n ?_
  refine CW.seq (CW.region ?_)
  refine rl_build (out := (Candidate.c ({ point := Point.z, localF := false, ready := false, serving := true, terminating := false, zones := [] } : Candidate) (Value.slice none 0 0))) rfl pl44 Try.zeroValue44 rfl rfl rfl ?_
  refine rl_build (out := (Candidate.c ({ point := Point.z, localF := false, ready := false, serving := true, terminating := true, zones := [] } : Candidate) (Value.slice none 0 0))) rfl pl44 Try.zeroValue44 rfl rfl rfl ?_
  refine rl_bslice (k := k_Candidate) (F := F) (B := w.heap.size) (S := nb) ([({ point := Point.z, localF := false, ready := false, serving := true, terminating := false, zones := [] } : Candidate), ({ point := Point.z, localF := false, ready := false, serving := true, terminating := true, zones := [] } : Candidate)] : List Candidate) rfl k_Candidate_pos Try.underlying22 Try.sizeOf44 Try.zeroValue44 rfl rfl ⟨rfl, ⟨(Value.slice none 0 0), rfl, (.inl ⟨rfl, rfl⟩)⟩, ⟨rfl, ⟨(Value.slice none 0 0), rfl, (.inl ⟨rfl, rfl⟩)⟩, trivial⟩⟩ c0.size nbS rfl ?_
  intro v1 w2 c3 hf4 h5
  have h5 := h5.readNew k_Candidate_pos hf4 nbS
  have c0 := c0.then0 c3
  obtain ⟨y8, hy9, hS⟩ := bindS hS
  refine rl_callF rfl en11 rfl (ctr11 (G F w.heap.size nb) w2 [({ point := Point.z, localF := false, ready := false, serving := true, terminating := false, zones := [] } : Candidate), ({ point := Point.z, localF := false, ready := false, serving := true, terminating := true, zones := [] } : Candidate)] v1 h5 y8 hy9) ?_
  rintro v10 w6 ⟨_, rfl, h11, c7⟩
  have h11 := SlO.backR k_Candidate_pos h11 nbS c0.size
  have h5 := slRep.ch k_Candidate_pos h5 c7
  have c0 := c0.then0 c7
  refine rl_assign rfl rfl ?_
  refine RL.nil ?_
  refine thn_n ?_
  refine CW.seq (CW.region ?_)
  refine rl_move rfl rfl ?_
  refine rl_lenR rfl h11 Try.underlying22 rfl ?_
  refine rl_bin rfl rfl B.eql rfl ?_
  refine rl_move rfl rfl ?_
  obtain ⟨b14, hb15, hS⟩ := bindS hS
  refine RL.join 5 14 (.bool b14) (fun w' => Ch nb w6 w') ?_ ?_
  · rcases Bool.eq_false_or_eq_true (decide (((y8.length : Nat) : Int) = 1)) with hg13 | hg13
    ·
     have hs12 := andO_t hg13 hb15
     have cs : Ch nb w6 w6 := Ch.refl
     refine RL.yes rfl rfl rfl hg13 ?_
     refine rl_move rfl rfl ?_
     refine RL.yes rfl rfl rfl hg13 ?_
     obtain ⟨y23, hy24, hs12⟩ := bindS hs12
     refine rl_ixI rfl h11 rfl (ixO_get hy24) Try.underlying22 Try.sizeOf44 rfl ?_
     intro p17 o18 cs19 hr20 hs21 hg22
     obtain ⟨z25, rfl, h26⟩ := hr20
     refine RL.yes rfl rfl rfl hg13 ?_
     refine rl_fieldAddr rfl fa44_4 rfl ?_
     refine RL.yes rfl rfl rfl hg13 ?_
     refine rl_loadS (v := (Value.bool y23.terminating)) rfl Try.isAgg4 (hs21 21 _ rfl) rfl ?_
     refine rl_pickT rfl hg13 rfl rfl ?_
     exact RL.nil ⟨Ext.bothEq (congrArg Value.bool (Option.some.inj hs12)) (Ext.skip rfl (Ext.skip rfl (Ext.skip rfl (Ext.skip rfl (Ext.rfl'))))), cs⟩
    ·
     have hs12 := andO_f hg13 hb15
     have cs : Ch nb w6 w6 := Ch.refl
     refine RL.no rfl rfl rfl hg13 rfl rfl ?_
     refine RL.no rfl rfl rfl hg13 rfl rfl ?_
     refine RL.no rfl rfl rfl hg13 rfl rfl ?_
     refine RL.no rfl rfl rfl hg13 rfl rfl ?_
     refine rl_pickF rfl hg13 rfl rfl ?_
     exact RL.nil ⟨Ext.bothEq (congrArg Value.bool (Option.some.inj hs12)) (Ext.skip rfl (Ext.skip rfl (Ext.skip rfl (Ext.skip rfl (Ext.rfl'))))), cs⟩
  intro w16 c27
  have h5 := slRep.ch k_Candidate_pos h5 c27
  have h11 := slRep.ch k_Candidate_pos h11 c27
  have c0 := c0.then0 c27
  refine rl_assign rfl rfl ?_
  refine RL.nil ?_
  refine thn_n ?_
  refine CW.ret ?_
  obtain rfl := Option.some.inj hS
  exact ret1 rfl ⟨rfl, c0⟩
/-- lb/lbnum.Long -/
theorem ctr23 (F : Nat → Prop) (w : World) (a0 : (List ByteArray)) (av0 : Value) (ah0 : slRep kStr F w a0 av0) (a1 : Int) (r : Bool) (hs : F23_linkboynum_Long a0 a1 = r) :
    Ret Try.prog 23 #[av0, (Value.int .i64 a1)] w fun v w' => v = (Value.bool r) ∧ Ch nb w w' := by
  have hS := hs
  have c0 : Ch nb w w := Ch.refl
  have ah0 := slRep.enter kStr_pos ah0
  refine Ret.of (n := 27) (args := [_, _]) (rs := [.tmp 4]) Try.func23 rfl rfl rfl rfl ?_
  refine CW.seq (CW.region ?_)
  refine rl_assign rfl rfl ?_
  refine RL.nil ?_
  refine thn_n ?_
  refine CW.seq (CW.region ?_)
  refine rl_assign rfl rfl ?_
  refine RL.nil ?_
  refine thn_n ?_
  refine CW.seq ?_
  refine CW.seq (CW.region ?_)
  refine rl_move rfl rfl ?_
  refine rl_lenR rfl ah0 Try.underlying42 rfl ?_
  refine rl_move rfl rfl ?_
  refine RL.nil ?_
  refine thn_n ?_
  obtain ⟨o9, ho10⟩ : ∃ o, runB (F23_linkboynum_Long_b1 a1) a0 0 = o := ⟨_, rfl⟩
  have hS := ltS ho10 hS
  refine CW.cutB (fun E' w' => ∃ (x1 : Int), Sub [] E' ∧ Ch nb w w' ∧ Lp.fin x1 = o9 ∧ slRep kStr (G F w.heap.size nb) w' a0 av0) ?_ ?_
  ·
   refine CW.loopS [(1, (Value.int .i64 a1)), (8, av0), (9, (Value.int .i64 ((a0.length : Nat) : Int))), (5, (Value.int .i64 0)), (10, (Value.int .i64 ((0 : Nat) : Int)))] ⟨rfl, rfl, rfl, rfl, rfl, trivial⟩ a0.length (fun m E w' => ∃ (rest2 : List ByteArray) (i3 : Nat) (x1 : Int), m = rest2.length ∧ E = [(1, (Value.int .i64 a1)), (8, av0), (9, (Value.int .i64 ((a0.length : Nat) : Int))), (5, (Value.int .i64 x1)), (10, (Value.int .i64 ((i3 : Nat) : Int)))] ∧ Ch nb w w' ∧ At a0 i3 rest2 ∧ runB (F23_linkboynum_Long_b1 a1) rest2 x1 = o9 ∧ slRep kStr (G F w.heap.size nb) w' a0 av0)
       ⟨a0, 0, 0, rfl, rfl, c0, At.start, ho10, ah0⟩ ?_
   rintro _ _ w15 ⟨rest2, i3, x1, rfl, rfl, c14, hat5, hL4, ah0⟩
   refine CW.seq (CW.region ?_)
   refine rl_bin rfl rfl B.lss rfl ?_
   refine RL.nil (thn_n ?_)
   refine CW.seq ?_
   refine CW.cond (t := decide (((i3 : Nat) : Int) < ((a0.length : Nat) : Int))) rfl (fun q17 => ?_) (fun q17 => ?_)
   ·
    obtain ⟨x11, rest18, rfl⟩ := hat5.cons q17
    obtain ⟨q6, hq7⟩ : ∃ q, (F23_linkboynum_Long_b1 a1) x11 x1 = q := ⟨_, rfl⟩
    have hb8 := hq7
    refine CW.skip (thn_n ?_)
    refine CW.seq ?_
    refine CW.block ?_
    refine CW.seq (CW.region ?_)
    refine rl_ixR rfl ah0 rfl hat5.get Try.underlying42 Try.sizeOf9 rfl ?_
    intro p19 o20 cs21 hr22 hs23 hg24
    obtain rfl := hr22
    refine rl_loadS (v := (Value.string x11)) rfl Try.isAgg9 (hs23 0 _ rfl) rfl ?_
    refine rl_assign rfl rfl ?_
    refine RL.nil ?_
    refine thn_n ?_
    refine CW.seq ?_
    refine CW.seq (CW.region ?_)
    refine rl_move rfl rfl ?_
    refine rl_lenStr rfl Try.underlying9 rfl ?_
    refine rl_move rfl rfl ?_
    refine rl_bin rfl rfl B.gtr rfl ?_
    refine RL.nil ?_
    refine thn_n ?_
    refine CW.cond (t := decide (((x11.size : Nat) : Int) > a1)) rfl (fun q25 => ?_) (fun q25 => ?_)
    ·
     have hb8 := ifT q25 hb8
     refine CW.seq (CW.region ?_)
     refine rl_assign rfl rfl ?_
     refine RL.nil ?_
     refine thn_n ?_
     refine CW.ret ?_
     refine thn_ret ?_
     refine inB_ret ?_
     refine thn_ret ?_
     refine thn_ret (inB_ret (thn_ret ?_))
     refine thn_ret ?_
     have f26 := runB_ret hL4 (hb8.trans hq7.symm)
     have hS := retS f26 hS
     obtain rfl := hS
     exact ret1 rfl ⟨rfl, c14⟩
    ·
     have hb8 := ifF q25 hb8
     refine CW.skip ?_
     refine thn_n ?_
     refine CW.seq (CW.region ?_)
     refine rl_move rfl rfl ?_
     refine rl_move rfl rfl ?_
     refine rl_lenStr rfl Try.underlying9 rfl ?_
     refine rl_bin rfl rfl B.add rfl ?_
     refine rl_bin rfl rfl B.add rfl ?_
     refine rl_assign rfl rfl ?_
     refine RL.nil ?_
     refine thn_n ?_
     refine CW.seq (CW.region ?_)
     refine rl_move rfl rfl ?_
     refine rl_move rfl rfl ?_
     refine rl_bin rfl rfl B.gtr rfl ?_
     refine RL.nil ?_
     refine thn_n ?_
     refine CW.cond (t := decide ((IntKind.i64.wrap (x1 + (IntKind.i64.wrap (1 + ((x11.size : Nat) : Int))))) > a1)) rfl (fun q27 => ?_) (fun q27 => ?_)
     ·
      have hb8 := ifT q27 hb8
      refine CW.seq (CW.region ?_)
      refine rl_assign rfl rfl ?_
      refine RL.nil ?_
      refine thn_n ?_
      refine CW.ret ?_
      refine inB_ret ?_
      refine thn_ret ?_
      refine thn_ret (inB_ret (thn_ret ?_))
      refine thn_ret ?_
      have f28 := runB_ret hL4 (hb8.trans hq7.symm)
      have hS := retS f28 hS
      obtain rfl := hS
      exact ret1 rfl ⟨rfl, c14⟩
     ·
      have hb8 := ifF q27 hb8
      refine CW.skip ?_
      refine inB_n ?_
      refine thn_n ?_
      refine CW.region ?_
      refine rl_inc rfl hat5.lt ah0.big rfl ?_
      refine rl_move rfl rfl ?_
      refine RL.nil ?_
      refine thn_n ?_
      have hLn := runB_next hL4 (hb8.trans hq7.symm)
      exact ⟨rest18.length, Nat.lt_succ_self _, [(1, (Value.int .i64 a1)), (8, av0), (9, (Value.int .i64 ((a0.length : Nat) : Int))), (5, (Value.int .i64 (IntKind.i64.wrap (x1 + (IntKind.i64.wrap (1 + ((x11.size : Nat) : Int))))))), (10, (Value.int .i64 ((i3 + 1 : Nat) : Int)))], ⟨rfl, rfl, rfl, rfl, rfl, trivial⟩, ⟨rest18, i3 + 1, IntKind.i64.wrap (x1 + (IntKind.i64.wrap (1 + ((x11.size : Nat) : Int)))), rfl, rfl, c14, hat5.next, hLn, ah0⟩⟩
   ·
    obtain rfl := hat5.nil q17
    have hLf : Lp.fin x1 = o9 := hL4
    refine CW.exit (thn_exit (thn_exit (inB_hit ?_)))
    exact ⟨x1, trivial, c14, hLf, ah0⟩
  ·
   rintro _ w30 ⟨x1, hE31, c29, f32, ah0⟩
   have hS := finS f32 hS
   refine thn_n (CW.sub [] hE31 ?_)
   refine CW.seq (CW.region ?_)
   refine rl_assign rfl rfl ?_
   refine RL.nil ?_
   refine thn_n ?_
   refine CW.ret ?_
   obtain rfl := hS
   exact ret1 rfl ⟨rfl, c29⟩
/-- lb/lblaw18.Long -/
theorem ctr7 (F : Nat → Prop) (w : World) (a0 : (List Candidate)) (av0 : Value) (ah0 : slRep k_Candidate F w a0 av0) (r : Bool) (hs : F7_linkboylaw18_Long a0 = r) :
    Ret Try.prog 7 #[av0] w fun v w' => v = (Value.bool r) ∧ Ch nb w w' := by
  have hS := hs
  have c0 : Ch nb w w := Ch.refl
  have ah0 := slRep.enter k_Candidate_pos ah0
  refine Ret.of (n := 18) (args := [_]) (rs := [.tmp 2]) Try.func7 rfl rfl rfl rfl ?_
  refine CW.seq (CW.region ?_)
  refine rl_assign rfl rfl ?_
  refine RL.nil ?_
  refine thn_n ?_
  refine CW.seq ?_
  refine CW.seq (CW.region ?_)
  refine rl_move rfl rfl ?_
  refine rl_lenR rfl ah0 Try.underlying22 rfl ?_
  refine rl_bin rfl rfl B.gtr rfl ?_
  refine RL.nil ?_
  refine thn_n ?_
  refine CW.cond (t := decide (((a0.length : Nat) : Int) > 60)) rfl (fun q1 => ?_) (fun q1 => ?_)
  ·
   have hS := ifT q1 hS
   refine CW.seq (CW.region ?_)
   refine rl_assign rfl rfl ?_
   refine RL.nil ?_
   refine thn_n ?_
   refine CW.ret ?_
   refine thn_ret ?_
   obtain rfl := hS
   exact ret1 rfl ⟨rfl, c0⟩
  ·
   have hS := ifF q1 hS
   refine CW.skip ?_
   refine thn_n ?_
   refine CW.seq ?_
   refine CW.seq (CW.region ?_)
   refine rl_move rfl rfl ?_
   refine rl_lenR rfl ah0 Try.underlying22 rfl ?_
   refine rl_move rfl rfl ?_
   refine RL.nil ?_
   refine thn_n ?_
   obtain ⟨o9, ho10⟩ : ∃ o, runB F7_linkboylaw18_Long_b1 a0 () = o := ⟨_, rfl⟩
   have hS := ltS ho10 hS
   refine CW.cutB (fun E' w' => ∃ (_ : Unit), Sub [] E' ∧ Ch nb w w' ∧ Lp.fin () = o9 ∧ slRep k_Candidate (G F w.heap.size nb) w' a0 av0) ?_ ?_
   ·
    refine CW.loopS [(8, av0), (9, (Value.int .i64 ((a0.length : Nat) : Int))), (10, (Value.int .i64 ((0 : Nat) : Int)))] ⟨rfl, rfl, rfl, trivial⟩ a0.length (fun m E w' => ∃ (rest2 : List Candidate) (i3 : Nat) , m = rest2.length ∧ E = [(8, av0), (9, (Value.int .i64 ((a0.length : Nat) : Int))), (10, (Value.int .i64 ((i3 : Nat) : Int)))] ∧ Ch nb w w' ∧ At a0 i3 rest2 ∧ runB F7_linkboylaw18_Long_b1 rest2 () = o9 ∧ slRep k_Candidate (G F w.heap.size nb) w' a0 av0)
        ⟨a0, 0, rfl, rfl, c0, At.start, ho10, ah0⟩ ?_
    rintro _ _ w15 ⟨rest2, i3, rfl, rfl, c14, hat5, hL4, ah0⟩
    refine CW.seq (CW.region ?_)
    refine rl_bin rfl rfl B.lss rfl ?_
    refine RL.nil (thn_n ?_)
    refine CW.seq ?_
    refine CW.cond (t := decide (((i3 : Nat) : Int) < ((a0.length : Nat) : Int))) rfl (fun q17 => ?_) (fun q17 => ?_)
    ·
     obtain ⟨x11, rest18, rfl⟩ := hat5.cons q17
     obtain ⟨q6, hq7⟩ : ∃ q, F7_linkboylaw18_Long_b1 x11 () = q := ⟨_, rfl⟩
     have hb8 := hq7
     refine CW.skip (thn_n ?_)
     refine CW.seq ?_
     refine CW.block ?_
     refine CW.seq (CW.region ?_)
     refine rl_ixR rfl ah0 rfl hat5.get Try.underlying22 Try.sizeOf44 rfl ?_
     intro p19 o20 cs21 hr22 hs23 hg24
     obtain ⟨z25, rfl, h26⟩ := hr22
     refine rl_loadA (cs := (Candidate.c x11 z25)) rfl Try.isAgg44 Try.sizeOf44 (hs23) rfl rfl ?_
     refine rl_alloc (Candidate.c Candidate.z (Value.slice none 0 0)) Try.zeroValue44 rfl rfl ?_
     intro p27 w28 n29 k30
     have lop27 := n29.lo c14.size
     have ah0 := slRep.st k_Candidate_pos ah0 n29.ch (admNew n29.fresh (fun _ x => x))
     have h26 := slRep.st kStr_pos h26 n29.ch (admNew n29.fresh (fun _ x => x))
     have c14 := c14.then0 n29.ch
     refine rl_storeA (vs := (Candidate.c x11 z25)) rfl rfl (Kd.one _ (show k_Candidate.rep (G F w.heap.size (un (inBlk (Value.pointer (some ⟨p27, 0, none⟩))) nb)) w28 x11 (Candidate.c x11 z25) from ⟨z25, rfl, h26⟩)) Try.sizeOf44 rfl k30 rfl ?_
     intro w31 s33 c32 k34
     have ad35 : ∀ b, b < w28.heap.size → ¬ (un (inBlk (Value.pointer (some ⟨p27, 0, none⟩))) nb) b → ¬ inBlk (Value.pointer (some ⟨p27, 0, none⟩)) b ∧ ¬ (un (inBlk (Value.pointer (some ⟨p27, 0, none⟩))) nb) b := fun b _ hs => ⟨fun h => hs (.inl h), hs⟩
     have ah0 := slRep.st k_Candidate_pos ah0 c32 ad35
     have h26 := slRep.st kStr_pos h26 c32 ad35
     have c14 := c14.then c32 (fun i hi h => absurd (lop27 i h) (Nat.not_le_of_lt hi))
     refine RL.nil ?_
     refine thn_n ?_
     refine CW.seq (CW.region ?_)
     refine rl_fieldAddr rfl fa44_5 rfl ?_
     refine rl_loadS (v := z25) rfl Try.isAgg42 (k34.cell rfl) rfl ?_
     obtain ⟨y38, hy39⟩ : ∃ y, F23_linkboynum_Long x11.zones 400 = y := ⟨_, rfl⟩
     have hb8 := ltS hy39 hb8
     refine rl_callF rfl en23 rfl (ctr23 (G F w.heap.size (un (inBlk (Value.pointer (some ⟨p27, 0, none⟩))) nb)) w31 x11.zones z25 h26 400 y38 hy39) ?_
     rintro _ w36 ⟨rfl, c37⟩
     have ah0 := slRep.ch k_Candidate_pos ah0 c37
     have h26 := slRep.ch kStr_pos h26 c37
     have k34 := k34.ch0 c37
     have c14 := c14.then0 c37
     refine RL.nil ?_
     refine thn_n ?_
     refine CW.cond (t := y38) rfl (fun q40 => ?_) (fun q40 => ?_)
     ·
      have hb8 := ifT q40 hb8
      refine CW.seq (CW.region ?_)
      refine rl_assign rfl rfl ?_
      refine RL.nil ?_
      refine thn_n ?_
      refine CW.ret ?_
      refine inB_ret ?_
      refine thn_ret ?_
      refine thn_ret (inB_ret (thn_ret ?_))
      refine thn_ret ?_
      have f41 := runB_ret hL4 (hb8.trans hq7.symm)
      have hS := retS f41 hS
      obtain rfl := hS
      exact ret1 rfl ⟨rfl, c14⟩
     ·
      have hb8 := ifF q40 hb8
      refine CW.skip ?_
      refine inB_n ?_
      refine thn_n ?_
      refine CW.region ?_
      refine rl_inc rfl hat5.lt ah0.big rfl ?_
      refine rl_move rfl rfl ?_
      refine RL.nil ?_
      refine thn_n ?_
      have crf : Ch nb w36 w36 := Ch.refl
      have ah0 := slRep.st k_Candidate_pos ah0 crf (show ∀ b, b < w36.heap.size → ¬ (un (inBlk (Value.pointer (some ⟨p27, 0, none⟩))) nb) b → ¬ nb b ∧ ¬ nb b from fun b _ hs => ⟨fun x => x, fun h => hs (False.elim h)⟩)
      have h26 := slRep.st kStr_pos h26 crf (show ∀ b, b < w36.heap.size → ¬ (un (inBlk (Value.pointer (some ⟨p27, 0, none⟩))) nb) b → ¬ nb b ∧ ¬ nb b from fun b _ hs => ⟨fun x => x, fun h => hs (False.elim h)⟩)
      have c14 := c14.then0 crf
      have hLn := runB_next hL4 (hb8.trans hq7.symm)
      exact ⟨rest18.length, Nat.lt_succ_self _, [(8, av0), (9, (Value.int .i64 ((a0.length : Nat) : Int))), (10, (Value.int .i64 ((i3 + 1 : Nat) : Int)))], ⟨rfl, rfl, rfl, trivial⟩, ⟨rest18, i3 + 1, rfl, rfl, c14, hat5.next, hLn, ah0⟩⟩
    ·
     obtain rfl := hat5.nil q17
     have hLf : Lp.fin () = o9 := hL4
     refine CW.exit (thn_exit (thn_exit (inB_hit ?_)))
     exact ⟨(), trivial, c14, hLf, ah0⟩
   ·
    rintro _ w43 ⟨_, hE44, c42, f45, ah0⟩
    have hS := finS f45 hS
    refine thn_n (CW.sub [] hE44 ?_)
    refine CW.seq (CW.region ?_)
    refine rl_assign rfl rfl ?_
    refine RL.nil ?_
    refine thn_n ?_
    refine CW.ret ?_
    obtain rfl := hS
    exact ret1 rfl ⟨rfl, c42⟩
/-- lb/lblaw19.long -/
theorem ctr8 (F : Nat → Prop) (w : World) (a0 : Want) (r : Bool) (hs : F8_linkboylaw19_long a0 = r) :
    Ret Try.prog 8 #[(Value.agg (Want.enc a0).toArray)] w fun v w' => v = (Value.bool r) ∧ Ch nb w w' := by
  have hS := hs
  have c0 : Ch nb w w := Ch.refl
  refine Ret.of (n := 19) (args := [_]) (rs := [.tmp 2]) Try.func8 rfl rfl rfl rfl ?_
  refine CW.seq (CW.region ?_)
  refine rl_boxA (cs := (Want.enc a0)) rfl rfl ?_
  intro p1 w2 n3 k4
  have gp1 : (G F w.heap.size nb) p1 := ⟨.inr (by rw [n3.eq]; exact c0.size), fun h => absurd (nbS _ h) (by rw [n3.eq]; exact Nat.lt_irrefl _)⟩
  have c0 := c0.then0 n3.ch
  refine rl_assign rfl rfl ?_
  refine RL.nil ?_
  refine thn_n ?_
  refine CW.seq (CW.region ?_)
  refine rl_fieldAddr rfl fa24_0 rfl ?_
  refine rl_loadS (v := (Value.string a0.name)) rfl Try.isAgg9 (k4.cell rfl) rfl ?_
  refine rl_lenStr rfl Try.underlying9 rfl ?_
  refine rl_bin rfl rfl B.gtr rfl ?_
  refine rl_move rfl rfl ?_
  obtain ⟨b7, hb8⟩ : ∃ v, ((decide (((a0.name.size : Nat) : Int) > 100)) || (decide (((a0.node.size : Nat) : Int) > 100))) = v := ⟨_, rfl⟩
  have hS := ltS hb8 hS
  refine RL.join 5 12 (.bool b7) (fun w' => Ch nb w2 w') ?_ ?_
  · rcases Bool.eq_false_or_eq_true (decide (((a0.name.size : Nat) : Int) > 100)) with hg6 | hg6
    ·
     have hs5 := or_t hg6 hb8
     have cs : Ch nb w2 w2 := Ch.refl
     refine RL.no rfl rfl rfl hg6 rfl rfl ?_
     refine RL.no rfl rfl rfl hg6 rfl rfl ?_
     refine RL.no rfl rfl rfl hg6 rfl rfl ?_
     refine RL.no rfl rfl rfl hg6 rfl rfl ?_
     refine rl_pickT rfl hg6 rfl rfl ?_
     exact RL.nil ⟨Ext.bothEq (congrArg Value.bool hs5) (Ext.skip rfl (Ext.skip rfl (Ext.skip rfl (Ext.skip rfl (Ext.rfl'))))), cs⟩
    ·
     have hs5 := or_f hg6 hb8
     have cs : Ch nb w2 w2 := Ch.refl
     refine RL.yes rfl rfl rfl hg6 ?_
     refine rl_fieldAddr rfl fa24_5 rfl ?_
     refine RL.yes rfl rfl rfl hg6 ?_
     refine rl_loadS (v := (Value.string a0.node)) rfl Try.isAgg9 (k4.cell rfl) rfl ?_
     refine RL.yes rfl rfl rfl hg6 ?_
     refine rl_lenStr rfl Try.underlying9 rfl ?_
     refine RL.yes rfl rfl rfl hg6 ?_
     refine rl_bin rfl rfl B.gtr rfl ?_
     refine rl_pickF rfl hg6 rfl rfl ?_
     exact RL.nil ⟨Ext.bothEq (congrArg Value.bool hs5) (Ext.skip rfl (Ext.skip rfl (Ext.skip rfl (Ext.skip rfl (Ext.rfl'))))), cs⟩
  intro w9 c10
  have k4 := k4.ch0 c10
  have c0 := c0.then0 c10
  refine rl_move rfl rfl ?_
  obtain ⟨b13, hb14⟩ : ∃ v, (b7 || (decide (((a0.zone.size : Nat) : Int) > 100))) = v := ⟨_, rfl⟩
  have hS := ltS hb14 hS
  refine RL.join 5 18 (.bool b13) (fun w' => Ch nb w9 w') ?_ ?_
  · rcases Bool.eq_false_or_eq_true b7 with hg12 | hg12
    ·
     have hs11 := or_t hg12 hb14
     have cs : Ch nb w9 w9 := Ch.refl
     refine RL.no rfl rfl rfl hg12 rfl rfl ?_
     refine RL.no rfl rfl rfl hg12 rfl rfl ?_
     refine RL.no rfl rfl rfl hg12 rfl rfl ?_
     refine RL.no rfl rfl rfl hg12 rfl rfl ?_
     refine rl_pickT rfl hg12 rfl rfl ?_
     exact RL.nil ⟨Ext.bothEq (congrArg Value.bool hs11) (Ext.skip rfl (Ext.skip rfl (Ext.skip rfl (Ext.skip rfl (Ext.rfl'))))), cs⟩
    ·
     have hs11 := or_f hg12 hb14
     have cs : Ch nb w9 w9 := Ch.refl
     refine RL.yes rfl rfl rfl hg12 ?_
     refine rl_fieldAddr rfl fa24_6 rfl ?_
     refine RL.yes rfl rfl rfl hg12 ?_
     refine rl_loadS (v := (Value.string a0.zone)) rfl Try.isAgg9 (k4.cell rfl) rfl ?_
     refine RL.yes rfl rfl rfl hg12 ?_
     refine rl_lenStr rfl Try.underlying9 rfl ?_
     refine RL.yes rfl rfl rfl hg12 ?_
     refine rl_bin rfl rfl B.gtr rfl ?_
     refine rl_pickF rfl hg12 rfl rfl ?_
     exact RL.nil ⟨Ext.bothEq (congrArg Value.bool hs11) (Ext.skip rfl (Ext.skip rfl (Ext.skip rfl (Ext.skip rfl (Ext.rfl'))))), cs⟩
  intro w15 c16
  have k4 := k4.ch0 c16
  have c0 := c0.then0 c16
  refine rl_assign rfl rfl ?_
  refine RL.nil ?_
  refine thn_n ?_
  refine CW.ret ?_
  obtain rfl := hS
  exact ret1 rfl ⟨rfl, c0⟩
/-- lb/lblaw18.Of -/
theorem ctr9 (F : Nat → Prop) (w : World) (a0 : (List Candidate)) (av0 : Value) (ah0 : slRep k_Candidate F w a0 av0) (r : (List Candidate)) (hs : F9_linkboylaw18_Of a0 = some r) :
    Ret Try.prog 9 #[av0] w fun v w' => ∃ y0 : Value, v = y0 ∧ SlO k_Candidate 58 F w.heap.size (inBlk y0) w' r y0 ∧ Ch nb w w' := by
  have hS := hs
  have c0 : Ch nb w w := Ch.refl
  have ah0 := slRep.enter k_Candidate_pos ah0
  refine Ret.of (n := 19) (args := [_]) (rs := [.tmp 2]) Try.func9 rfl rfl rfl rfl ?_
  refine CW.seq (CW.region ?_)
  refine rl_assign rfl rfl ?_
  refine RL.nil ?_
  refine thn_n ?_
  refine CW.seq (CW.region ?_)
  refine rl_bslice (k := k_Candidate) (F := F) (B := w.heap.size) (S := nb) ([] : List Candidate) rfl k_Candidate_pos Try.underlying28 Try.sizeOf58 Try.zeroValue58 rfl rfl trivial c0.size nbS rfl ?_
  intro v1 w2 c3 hf4 h5
  have ah0 := slRep.st k_Candidate_pos ah0 c3 (admNew hf4 (fun _ x => x))
  have c0 := c0.then0 c3
  refine rl_assign rfl rfl ?_
  refine RL.nil ?_
  refine thn_n ?_
  refine CW.seq ?_
  refine CW.seq (CW.region ?_)
  refine rl_move rfl rfl ?_
  refine rl_lenR rfl ah0 Try.underlying22 rfl ?_
  refine rl_move rfl rfl ?_
  refine RL.nil ?_
  refine thn_n ?_
  obtain ⟨o16, ho17, hS⟩ := bindS hS
  refine CW.cutB (fun E' w' => ∃ (x6 : (List Candidate)) (v7 : Value), Sub [(3, v7)] E' ∧ Ch nb w w' ∧ x6 = o16 ∧ slRep k_Candidate (G F w.heap.size (un (inBlk v7) nb)) w' a0 av0 ∧ SlO k_Candidate 58 F w.heap.size (un (inBlk v7) nb) w' x6 v7) ?_ ?_
  ·
   refine CW.loopS [(7, av0), (8, (Value.int .i64 ((a0.length : Nat) : Int))), (3, v1), (9, (Value.int .i64 ((0 : Nat) : Int)))] ⟨rfl, rfl, rfl, rfl, trivial⟩ a0.length (fun m E w' => ∃ (rest9 : List Candidate) (i10 : Nat) (x6 : (List Candidate)) (v7 : Value), m = rest9.length ∧ E = [(7, av0), (8, (Value.int .i64 ((a0.length : Nat) : Int))), (3, v7), (9, (Value.int .i64 ((i10 : Nat) : Int)))] ∧ Ch nb w w' ∧ At a0 i10 rest9 ∧ runAO F9_linkboylaw18_Of_b1 rest9 x6 = some o16 ∧ slRep k_Candidate (G F w.heap.size (un (inBlk v7) nb)) w' a0 av0 ∧ SlO k_Candidate 58 F w.heap.size (un (inBlk v7) nb) w' x6 v7)
       ⟨a0, 0, [], v1, rfl, rfl, c0, At.start, ho17, ah0, h5⟩ ?_
   rintro _ _ w22 ⟨rest9, i10, x6, v7, rfl, rfl, c21, hat12, hL11, ah0, h8⟩
   refine CW.seq (CW.region ?_)
   refine rl_bin rfl rfl B.lss rfl ?_
   refine RL.nil (thn_n ?_)
   refine CW.seq ?_
   refine CW.cond (t := decide (((i10 : Nat) : Int) < ((a0.length : Nat) : Int))) rfl (fun q24 => ?_) (fun q24 => ?_)
   ·
    obtain ⟨x18, rest25, rfl⟩ := hat12.cons q24
    obtain ⟨q13, hq14⟩ := runAO_some hL11
    have hb15 := hq14
    refine CW.skip (thn_n ?_)
    refine CW.seq ?_
    refine CW.block ?_
    refine CW.seq (CW.region ?_)
    refine rl_ixR rfl ah0 rfl hat12.get Try.underlying22 Try.sizeOf44 rfl ?_
    intro p26 o27 cs28 hr29 hs30 hg31
    obtain ⟨z32, rfl, h33⟩ := hr29
    refine rl_loadA (cs := (Candidate.c x18 z32)) rfl Try.isAgg44 Try.sizeOf44 (hs30) rfl rfl ?_
    refine rl_alloc (Candidate.c Candidate.z (Value.slice none 0 0)) Try.zeroValue44 rfl rfl ?_
    intro p34 w35 n36 k37
    have lop34 := n36.lo c21.size
    have d38 : ∀ b, inBlk (Value.pointer (some ⟨p34, 0, none⟩)) b → ¬ inBlk v7 b := disNew n36.fresh (fun b hb => (h8.lt b hb).2)
    have ah0 := slRep.st k_Candidate_pos ah0 n36.ch (admNew n36.fresh (fun _ x => x))
    have h8 := h8.st n36.ch (fun _ _ x => x) (admNew n36.fresh (fun _ x => x)) (fun b h => (.inr (.inl h)))
    have h33 := slRep.st kStr_pos h33 n36.ch (admNew n36.fresh (fun _ x => x))
    have c21 := c21.then0 n36.ch
    refine rl_storeA (vs := (Candidate.c x18 z32)) rfl rfl (Kd.one _ (show k_Candidate.rep (G F w.heap.size (un (inBlk (Value.pointer (some ⟨p34, 0, none⟩))) (un (inBlk v7) nb))) w35 x18 (Candidate.c x18 z32) from ⟨z32, rfl, h33⟩)) Try.sizeOf44 rfl k37 rfl ?_
    intro w39 s41 c40 k42
    have ad43 : ∀ b, b < w35.heap.size → ¬ (un (inBlk (Value.pointer (some ⟨p34, 0, none⟩))) (un (inBlk v7) nb)) b → ¬ inBlk (Value.pointer (some ⟨p34, 0, none⟩)) b ∧ ¬ (un (inBlk (Value.pointer (some ⟨p34, 0, none⟩))) (un (inBlk v7) nb)) b := fun b _ hs => ⟨fun h => hs (.inl h), hs⟩
    have ah0 := slRep.st k_Candidate_pos ah0 c40 ad43
    have h8 := h8.st c40 (disSym d38) ad43 (fun b h => (.inr (.inl h)))
    have h33 := slRep.st kStr_pos h33 c40 ad43
    have c21 := c21.then c40 (fun i hi h => absurd (lop34 i h) (Nat.not_le_of_lt hi))
    refine RL.nil ?_
    refine thn_n ?_
    refine CW.region ?_
    refine rl_move rfl rfl ?_
    refine rl_loadA (cs := (Candidate.c x18 z32)) rfl Try.isAgg44 Try.sizeOf44 (k42.segAt 0 23) rfl rfl ?_
    refine rl_bslice (k := k_Candidate) (F := F) (B := w.heap.size) (S := (un (inBlk (Value.pointer (some ⟨p34, 0, none⟩))) (un (inBlk v7) nb))) ([x18] : List Candidate) rfl k_Candidate_pos Try.underlying28 Try.sizeOf58 Try.zeroValue58 rfl rfl ⟨rfl, ⟨z32, rfl, h33⟩, trivial⟩ c21.size (un_lt k42.ltp (un_lt (fun b hb => (h8.lt b hb).2) nbS)) rfl ?_
    intro v44 w45 c46 hf47 h48
    have h48 := h48.readNew k_Candidate_pos hf47 (un_lt k42.ltp (un_lt (fun b hb => (h8.lt b hb).2) nbS))
    have ah0 := slRep.ch k_Candidate_pos ah0 c46
    have h8 := h8.ch0 c46
    have h33 := slRep.ch kStr_pos h33 c46
    have k42 := k42.ch0 c46
    have c21 := c21.then0 c46
    obtain ⟨z49, hz50, hb15⟩ := bindS hb15
    obtain ⟨hl, rfl⟩ := apO_get hz50
    refine rl_append (k := k_Candidate) (T := 58) (F := F) (B := w.heap.size) (S := (un (inBlk (Value.pointer (some ⟨p34, 0, none⟩))) (un (inBlk v7) nb))) (S2 := (un (inBlk (Value.pointer (some ⟨p34, 0, none⟩))) nb)) (fun v => (un (inBlk (Value.pointer (some ⟨p34, 0, none⟩))) (un (inBlk v) nb))) rfl rfl k_Candidate_pos ap28 h8 h48 (fun _ => un_swap) (fun _ _ => un_swap) hl c21.size (un_lt k42.ltp (un_lt (fun b hb => (h8.lt b hb).2) nbS)) rfl ?_
    intro v51 w52 h53 c54 hf55 ha56
    have d57 : ∀ b, inBlk v51 b → ¬ inBlk (Value.pointer (some ⟨p34, 0, none⟩)) b := disApp hf55 (disSym d38) k42.ltp
    have ah0 := slRep.st k_Candidate_pos ah0 c54 ha56
    have h33 := slRep.st kStr_pos h33 c54 ha56
    have k42 := k42.ch c54 (d38 _ rfl)
    have h48 := slRep.st k_Candidate_pos h48 c54 ha56
    have c21 := c21.then c54 (fun i hi h => absurd ((fun b hb => (h8.lt b hb).1) i h) (Nat.not_le_of_lt hi))
    refine rl_assign rfl rfl ?_
    refine RL.nil ?_
    refine inB_n ?_
    refine thn_n ?_
    refine CW.region ?_
    refine rl_inc rfl hat12.lt ah0.big rfl ?_
    refine rl_move rfl rfl ?_
    refine RL.nil ?_
    refine thn_n ?_
    have crf : Ch nb w52 w52 := Ch.refl
    have ah0 := slRep.st k_Candidate_pos ah0 crf (show ∀ b, b < w52.heap.size → ¬ (un (inBlk (Value.pointer (some ⟨p34, 0, none⟩))) (un (inBlk v51) nb)) b → ¬ nb b ∧ ¬ (un (inBlk v51) nb) b from fun b _ hs => ⟨fun x => x, fun h => hs (un_el h (fun h => (.inr (.inl h))) (fun h => False.elim h))⟩)
    have h33 := slRep.st kStr_pos h33 crf (show ∀ b, b < w52.heap.size → ¬ (un (inBlk (Value.pointer (some ⟨p34, 0, none⟩))) (un (inBlk v51) nb)) b → ¬ nb b ∧ ¬ (un (inBlk v51) nb) b from fun b _ hs => ⟨fun x => x, fun h => hs (un_el h (fun h => (.inr (.inl h))) (fun h => False.elim h))⟩)
    have h48 := slRep.st k_Candidate_pos h48 crf (show ∀ b, b < w52.heap.size → ¬ (un (inBlk (Value.pointer (some ⟨p34, 0, none⟩))) (un (inBlk v51) nb)) b → ¬ nb b ∧ ¬ (un (inBlk v51) nb) b from fun b _ hs => ⟨fun x => x, fun h => hs (un_el h (fun h => (.inr (.inl h))) (fun h => False.elim h))⟩)
    have h53 := h53.st crf (fun _ _ x => x) (show ∀ b, b < w52.heap.size → ¬ (un (inBlk (Value.pointer (some ⟨p34, 0, none⟩))) (un (inBlk v51) nb)) b → ¬ nb b ∧ ¬ (un (inBlk v51) nb) b from fun b _ hs => ⟨fun x => x, fun h => hs (un_el h (fun h => (.inr (.inl h))) (fun h => False.elim h))⟩) (fun b h => (.inl h))
    have c21 := c21.then0 crf
    have hLn := runAO_next hL11 hq14 hb15
    exact ⟨rest25.length, Nat.lt_succ_self _, [(7, av0), (8, (Value.int .i64 ((a0.length : Nat) : Int))), (3, v51), (9, (Value.int .i64 ((i10 + 1 : Nat) : Int)))], ⟨rfl, rfl, rfl, rfl, trivial⟩, ⟨rest25, i10 + 1, x6 ++ [x18], v51, rfl, rfl, c21, hat12.next, hLn, ah0, h53⟩⟩
   ·
    obtain rfl := hat12.nil q24
    have hLf : x6 = o16 := runAO_done hL11
    refine CW.exit (thn_exit (thn_exit (inB_hit ?_)))
    exact ⟨x6, v7, ⟨rfl, trivial⟩, c21, hLf, ah0, h8⟩
  ·
   rintro _ w59 ⟨x6, v7, hE60, c58, f61, ah0, h8⟩
   subst f61
   refine thn_n (CW.sub [(3, v7)] hE60 ?_)
   refine CW.seq (CW.region ?_)
   refine rl_move rfl rfl ?_
   refine rl_assign rfl rfl ?_
   refine RL.nil ?_
   refine thn_n ?_
   refine CW.ret ?_
   obtain rfl := Option.some.inj hS
   exact ret1 rfl ⟨v7, rfl, h8.out, c58⟩
/-- lb/lbref19.Usable -/
theorem ctr12 (F : Nat → Prop) (w : World) (a0 : (List Candidate)) (av0 : Value) (ah0 : slRep k_Candidate F w a0 av0) (r : (List Candidate)) (hs : F12_linkboyref19_Usable a0 = some r) :
    Ret Try.prog 12 #[av0] w fun v w' => ∃ y0 : Value, v = y0 ∧ SlO k_Candidate 58 F w.heap.size (inBlk y0) w' r y0 ∧ Ch nb w w' := by
  have hS := hs
  have c0 : Ch nb w w := Ch.refl
  have ah0 := slRep.enter k_Candidate_pos ah0
  refine Ret.of (n := 37) (args := [_]) (rs := [.tmp 2]) Try.func12 rfl rfl rfl rfl ?_
  refine CW.seq (CW.region ?_)
  refine rl_assign rfl rfl ?_
  refine RL.nil ?_
  refine thn_n ?_
  refine CW.seq (CW.region ?_)
  refine rl_bslice (k := k_Candidate) (F := F) (B := w.heap.size) (S := nb) ([] : List Candidate) rfl k_Candidate_pos Try.underlying28 Try.sizeOf58 Try.zeroValue58 rfl rfl trivial c0.size nbS rfl ?_
  intro v1 w2 c3 hf4 h5
  have ah0 := slRep.st k_Candidate_pos ah0 c3 (admNew hf4 (fun _ x => x))
  have c0 := c0.then0 c3
  refine rl_bslice (k := k_Candidate) (F := F) (B := w.heap.size) (S := (un (inBlk v1) nb)) ([] : List Candidate) rfl k_Candidate_pos Try.underlying28 Try.sizeOf58 Try.zeroValue58 rfl rfl trivial c0.size (un_lt (fun b hb => (h5.lt b hb).2) nbS) rfl ?_
  intro v6 w7 c8 hf9 h10
  have d11 : ∀ b, inBlk v6 b → ¬ inBlk v1 b := disNew hf9 (fun b hb => (h5.lt b hb).2)
  have ah0 := slRep.st k_Candidate_pos ah0 c8 (admNew hf9 (fun _ x => x))
  have h5 := h5.st c8 (fun _ _ x => x) (admNew hf9 (fun _ x => x)) (fun b h => (.inr (.inl h)))
  have c0 := c0.then0 c8
  refine rl_assign rfl rfl ?_
  refine rl_assign rfl rfl ?_
  refine RL.nil ?_
  refine thn_n ?_
  refine CW.seq ?_
  refine CW.seq (CW.region ?_)
  refine rl_move rfl rfl ?_
  refine rl_lenR rfl ah0 Try.underlying28 rfl ?_
  refine rl_move rfl rfl ?_
  refine RL.nil ?_
  refine thn_n ?_
  obtain ⟨o26, ho27, hS⟩ := bindS hS
  refine CW.cutB (fun E' w' => ∃ (x12 : (List Candidate)) (v13 : Value) (x15 : (List Candidate)) (v16 : Value), Sub [(3, v13), (4, v16)] E' ∧ Ch nb w w' ∧ (x12, x15) = o26 ∧ slRep k_Candidate (G F w.heap.size (un (inBlk v16) (un (inBlk v13) nb))) w' a0 av0 ∧ SlO k_Candidate 58 F w.heap.size (un (inBlk v16) (un (inBlk v13) nb)) w' x12 v13 ∧ SlO k_Candidate 58 F w.heap.size (un (inBlk v16) (un (inBlk v13) nb)) w' x15 v16 ∧ ∀ b, inBlk v16 b → ¬ inBlk v13 b) ?_ ?_
  ·
   refine CW.loopS [(9, av0), (10, (Value.int .i64 ((a0.length : Nat) : Int))), (3, v1), (4, v6), (11, (Value.int .i64 ((0 : Nat) : Int)))] ⟨rfl, rfl, rfl, rfl, rfl, trivial⟩ a0.length (fun m E w' => ∃ (rest19 : List Candidate) (i20 : Nat) (x12 : (List Candidate)) (v13 : Value) (x15 : (List Candidate)) (v16 : Value), m = rest19.length ∧ E = [(9, av0), (10, (Value.int .i64 ((a0.length : Nat) : Int))), (3, v13), (4, v16), (11, (Value.int .i64 ((i20 : Nat) : Int)))] ∧ Ch nb w w' ∧ At a0 i20 rest19 ∧ runAO F12_linkboyref19_Usable_b1 rest19 (x12, x15) = some o26 ∧ slRep k_Candidate (G F w.heap.size (un (inBlk v16) (un (inBlk v13) nb))) w' a0 av0 ∧ SlO k_Candidate 58 F w.heap.size (un (inBlk v16) (un (inBlk v13) nb)) w' x12 v13 ∧ SlO k_Candidate 58 F w.heap.size (un (inBlk v16) (un (inBlk v13) nb)) w' x15 v16 ∧ ∀ b, inBlk v16 b → ¬ inBlk v13 b)
       ⟨a0, 0, [], v1, [], v6, rfl, rfl, c0, At.start, ho27, ah0, h5, h10, d11⟩ ?_
   rintro _ _ w32 ⟨rest19, i20, x12, v13, x15, v16, rfl, rfl, c31, hat22, hL21, ah0, h14, h17, d18⟩
   refine CW.seq (CW.region ?_)
   refine rl_bin rfl rfl B.lss rfl ?_
   refine RL.nil (thn_n ?_)
   refine CW.seq ?_
   refine CW.cond (t := decide (((i20 : Nat) : Int) < ((a0.length : Nat) : Int))) rfl (fun q34 => ?_) (fun q34 => ?_)
   ·
    obtain ⟨x28, rest35, rfl⟩ := hat22.cons q34
    obtain ⟨q23, hq24⟩ := runAO_some hL21
    have hb25 := hq24
    refine CW.skip (thn_n ?_)
    refine CW.seq ?_
    refine CW.block ?_
    refine CW.seq (CW.region ?_)
    refine rl_ixR rfl ah0 rfl hat22.get Try.underlying28 Try.sizeOf58 rfl ?_
    intro p36 o37 cs38 hr39 hs40 hg41
    obtain ⟨z42, rfl, h43⟩ := hr39
    refine rl_loadA (cs := (Candidate.c x28 z42)) rfl Try.isAgg58 Try.sizeOf58 (hs40) rfl rfl ?_
    refine rl_alloc (Candidate.c Candidate.z (Value.slice none 0 0)) Try.zeroValue58 rfl rfl ?_
    intro p44 w45 n46 k47
    have lop44 := n46.lo c31.size
    have d48 : ∀ b, inBlk (Value.pointer (some ⟨p44, 0, none⟩)) b → ¬ inBlk v16 b := disNew n46.fresh (fun b hb => (h17.lt b hb).2)
    have d49 : ∀ b, inBlk (Value.pointer (some ⟨p44, 0, none⟩)) b → ¬ inBlk v13 b := disNew n46.fresh (fun b hb => (h14.lt b hb).2)
    have ah0 := slRep.st k_Candidate_pos ah0 n46.ch (admNew n46.fresh (fun _ x => x))
    have h14 := h14.st n46.ch (fun _ _ x => x) (admNew n46.fresh (fun _ x => x)) (fun b h => (.inr (.inr (.inl h))))
    have h17 := h17.st n46.ch (fun _ _ x => x) (admNew n46.fresh (fun _ x => x)) (fun b h => (.inr (.inl h)))
    have h43 := slRep.st kStr_pos h43 n46.ch (admNew n46.fresh (fun _ x => x))
    have c31 := c31.then0 n46.ch
    refine rl_storeA (vs := (Candidate.c x28 z42)) rfl rfl (Kd.one _ (show k_Candidate.rep (G F w.heap.size (un (inBlk (Value.pointer (some ⟨p44, 0, none⟩))) (un (inBlk v16) (un (inBlk v13) nb)))) w45 x28 (Candidate.c x28 z42) from ⟨z42, rfl, h43⟩)) Try.sizeOf58 rfl k47 rfl ?_
    intro w50 s52 c51 k53
    have ad54 : ∀ b, b < w45.heap.size → ¬ (un (inBlk (Value.pointer (some ⟨p44, 0, none⟩))) (un (inBlk v16) (un (inBlk v13) nb))) b → ¬ inBlk (Value.pointer (some ⟨p44, 0, none⟩)) b ∧ ¬ (un (inBlk (Value.pointer (some ⟨p44, 0, none⟩))) (un (inBlk v16) (un (inBlk v13) nb))) b := fun b _ hs => ⟨fun h => hs (.inl h), hs⟩
    have ah0 := slRep.st k_Candidate_pos ah0 c51 ad54
    have h14 := h14.st c51 (disSym d49) ad54 (fun b h => (.inr (.inr (.inl h))))
    have h17 := h17.st c51 (disSym d48) ad54 (fun b h => (.inr (.inl h)))
    have h43 := slRep.st kStr_pos h43 c51 ad54
    have c31 := c31.then c51 (fun i hi h => absurd (lop44 i h) (Nat.not_le_of_lt hi))
    refine RL.nil ?_
    refine thn_n ?_
    refine CW.seq ?_
    refine CW.seq (CW.region ?_)
    refine rl_fieldAddr rfl fa58_2 rfl ?_
    refine rl_loadS (v := (Value.bool x28.ready)) rfl Try.isAgg4 (k53.cell rfl) rfl ?_
    refine RL.nil ?_
    refine thn_n ?_
    refine CW.cond (t := x28.ready) rfl (fun q55 => ?_) (fun q55 => ?_)
    ·
     have hb25 := ifT q55 hb25
     refine CW.region ?_
     refine rl_move rfl rfl ?_
     refine rl_loadA (cs := (Candidate.c x28 z42)) rfl Try.isAgg58 Try.sizeOf58 (k53.segAt 0 23) rfl rfl ?_
     refine rl_bslice (k := k_Candidate) (F := F) (B := w.heap.size) (S := (un (inBlk (Value.pointer (some ⟨p44, 0, none⟩))) (un (inBlk v16) (un (inBlk v13) nb)))) ([x28] : List Candidate) rfl k_Candidate_pos Try.underlying28 Try.sizeOf58 Try.zeroValue58 rfl rfl ⟨rfl, ⟨z42, rfl, h43⟩, trivial⟩ c31.size (un_lt k53.ltp (un_lt (fun b hb => (h17.lt b hb).2) (un_lt (fun b hb => (h14.lt b hb).2) nbS))) rfl ?_
     intro v56 w57 c58 hf59 h60
     have h60 := h60.readNew k_Candidate_pos hf59 (un_lt k53.ltp (un_lt (fun b hb => (h17.lt b hb).2) (un_lt (fun b hb => (h14.lt b hb).2) nbS)))
     have ah0 := slRep.ch k_Candidate_pos ah0 c58
     have h14 := h14.ch0 c58
     have h17 := h17.ch0 c58
     have h43 := slRep.ch kStr_pos h43 c58
     have k53 := k53.ch0 c58
     have c31 := c31.then0 c58
     obtain ⟨z61, hz62, hb25⟩ := bindS hb25
     obtain ⟨hl, rfl⟩ := apO_get hz62
     refine rl_append (k := k_Candidate) (T := 58) (F := F) (B := w.heap.size) (S := (un (inBlk (Value.pointer (some ⟨p44, 0, none⟩))) (un (inBlk v16) (un (inBlk v13) nb)))) (S2 := (un (inBlk (Value.pointer (some ⟨p44, 0, none⟩))) (un (inBlk v16) nb))) (fun v => (un (inBlk (Value.pointer (some ⟨p44, 0, none⟩))) (un (inBlk v16) (un (inBlk v) nb)))) rfl rfl k_Candidate_pos ap28 h14 h60 (fun _ => un_swap3) (fun _ _ => un_swap3) hl c31.size (un_lt k53.ltp (un_lt (fun b hb => (h17.lt b hb).2) (un_lt (fun b hb => (h14.lt b hb).2) nbS))) rfl ?_
     intro v63 w64 h65 c66 hf67 ha68
     have d69 : ∀ b, inBlk v63 b → ¬ inBlk (Value.pointer (some ⟨p44, 0, none⟩)) b := disApp hf67 (disSym d49) k53.ltp
     have d70 : ∀ b, inBlk v63 b → ¬ inBlk v16 b := disApp hf67 (disSym d18) (fun b hb => (h17.lt b hb).2)
     have ah0 := slRep.st k_Candidate_pos ah0 c66 ha68
     have h17 := h17.st c66 d18 ha68 (fun b h => (.inr (.inl h)))
     have h43 := slRep.st kStr_pos h43 c66 ha68
     have k53 := k53.ch c66 (d49 _ rfl)
     have h60 := slRep.st k_Candidate_pos h60 c66 ha68
     have c31 := c31.then c66 (fun i hi h => absurd ((fun b hb => (h14.lt b hb).1) i h) (Nat.not_le_of_lt hi))
     refine rl_assign rfl rfl ?_
     refine RL.nil ?_
     refine thn_n ?_
     refine CW.seq (CW.region ?_)
     refine rl_fieldAddr rfl fa58_3 rfl ?_
     refine rl_loadS (v := (Value.bool x28.serving)) rfl Try.isAgg4 (k53.cell rfl) rfl ?_
     refine rl_move rfl rfl ?_
     obtain ⟨b73, hb74⟩ : ∃ v, (x28.serving && x28.terminating) = v := ⟨_, rfl⟩
     have hb25 := ltS hb74 hb25
     refine RL.join 3 26 (.bool b73) (fun w' => Ch nb w64 w') ?_ ?_
     · rcases Bool.eq_false_or_eq_true x28.serving with hg72 | hg72
       ·
        have hs71 := and_t hg72 hb74
        have cs : Ch nb w64 w64 := Ch.refl
        refine RL.yes rfl rfl rfl hg72 ?_
        refine rl_fieldAddr rfl fa58_4 rfl ?_
        refine RL.yes rfl rfl rfl hg72 ?_
        refine rl_loadS (v := (Value.bool x28.terminating)) rfl Try.isAgg4 (k53.cell rfl) rfl ?_
        refine rl_pickT rfl hg72 rfl rfl ?_
        exact RL.nil ⟨Ext.bothEq (congrArg Value.bool hs71) (Ext.skip rfl (Ext.skip rfl (Ext.rfl'))), cs⟩
       ·
        have hs71 := and_f hg72 hb74
        have cs : Ch nb w64 w64 := Ch.refl
        refine RL.no rfl rfl rfl hg72 rfl rfl ?_
        refine RL.no rfl rfl rfl hg72 rfl rfl ?_
        refine rl_pickF rfl hg72 rfl rfl ?_
        exact RL.nil ⟨Ext.bothEq (congrArg Value.bool hs71) (Ext.skip rfl (Ext.skip rfl (Ext.rfl'))), cs⟩
     intro w75 c76
     have ah0 := slRep.ch k_Candidate_pos ah0 c76
     have h17 := h17.ch0 c76
     have h43 := slRep.ch kStr_pos h43 c76
     have k53 := k53.ch0 c76
     have h60 := slRep.ch k_Candidate_pos h60 c76
     have h65 := h65.ch0 c76
     have c31 := c31.then0 c76
     refine RL.nil ?_
     refine thn_n ?_
     refine CW.cond (t := b73) rfl (fun q77 => ?_) (fun q77 => ?_)
     ·
      have hb25 := ifT q77 hb25
      refine CW.region ?_
      refine rl_move rfl rfl ?_
      refine rl_loadA (cs := (Candidate.c x28 z42)) rfl Try.isAgg58 Try.sizeOf58 (k53.segAt 0 23) rfl rfl ?_
      refine rl_bslice (k := k_Candidate) (F := F) (B := w.heap.size) (S := (un (inBlk (Value.pointer (some ⟨p44, 0, none⟩))) (un (inBlk v16) (un (inBlk v63) nb)))) ([x28] : List Candidate) rfl k_Candidate_pos Try.underlying28 Try.sizeOf58 Try.zeroValue58 rfl rfl ⟨rfl, ⟨z42, rfl, h43⟩, trivial⟩ c31.size (un_lt k53.ltp (un_lt (fun b hb => (h17.lt b hb).2) (un_lt (fun b hb => (h65.lt b hb).2) nbS))) rfl ?_
      intro v78 w79 c80 hf81 h82
      have h82 := h82.readNew k_Candidate_pos hf81 (un_lt k53.ltp (un_lt (fun b hb => (h17.lt b hb).2) (un_lt (fun b hb => (h65.lt b hb).2) nbS)))
      have ah0 := slRep.ch k_Candidate_pos ah0 c80
      have h17 := h17.ch0 c80
      have h43 := slRep.ch kStr_pos h43 c80
      have k53 := k53.ch0 c80
      have h60 := slRep.ch k_Candidate_pos h60 c80
      have h65 := h65.ch0 c80
      have c31 := c31.then0 c80
      obtain ⟨z83, hz84, hb25⟩ := bindS hb25
      obtain ⟨hl, rfl⟩ := apO_get hz84
      refine rl_append (k := k_Candidate) (T := 58) (F := F) (B := w.heap.size) (S := (un (inBlk (Value.pointer (some ⟨p44, 0, none⟩))) (un (inBlk v16) (un (inBlk v63) nb)))) (S2 := (un (inBlk (Value.pointer (some ⟨p44, 0, none⟩))) (un (inBlk v63) nb))) (fun v => (un (inBlk (Value.pointer (some ⟨p44, 0, none⟩))) (un (inBlk v) (un (inBlk v63) nb)))) rfl rfl k_Candidate_pos ap28 h17 h82 (fun _ => un_swap) (fun _ _ => un_swap) hl c31.size (un_lt k53.ltp (un_lt (fun b hb => (h17.lt b hb).2) (un_lt (fun b hb => (h65.lt b hb).2) nbS))) rfl ?_
      intro v85 w86 h87 c88 hf89 ha90
      have d91 : ∀ b, inBlk v85 b → ¬ inBlk (Value.pointer (some ⟨p44, 0, none⟩)) b := disApp hf89 (disSym d48) k53.ltp
      have d92 : ∀ b, inBlk v85 b → ¬ inBlk v63 b := disApp hf89 (disSym d70) (fun b hb => (h65.lt b hb).2)
      have ah0 := slRep.st k_Candidate_pos ah0 c88 ha90
      have h43 := slRep.st kStr_pos h43 c88 ha90
      have k53 := k53.ch c88 (d48 _ rfl)
      have h60 := slRep.st k_Candidate_pos h60 c88 ha90
      have h65 := h65.st c88 d70 ha90 (fun b h => (.inr (.inr (.inl h))))
      have h82 := slRep.st k_Candidate_pos h82 c88 ha90
      have c31 := c31.then c88 (fun i hi h => absurd ((fun b hb => (h17.lt b hb).1) i h) (Nat.not_le_of_lt hi))
      refine rl_assign rfl rfl ?_
      refine RL.nil ?_
      refine inB_n ?_
      refine thn_n ?_
      refine CW.region ?_
      refine rl_inc rfl hat22.lt ah0.big rfl ?_
      refine rl_move rfl rfl ?_
      refine RL.nil ?_
      refine thn_n ?_
      have crf : Ch nb w86 w86 := Ch.refl
      have ah0 := slRep.st k_Candidate_pos ah0 crf (show ∀ b, b < w86.heap.size → ¬ (un (inBlk (Value.pointer (some ⟨p44, 0, none⟩))) (un (inBlk v85) (un (inBlk v63) nb))) b → ¬ nb b ∧ ¬ (un (inBlk v85) (un (inBlk v63) nb)) b from fun b _ hs => ⟨fun x => x, fun h => hs (un_el h (fun h => (.inr (.inl h))) (fun h => un_el h (fun h => (.inr (.inr (.inl h)))) (fun h => False.elim h)))⟩)
      have h43 := slRep.st kStr_pos h43 crf (show ∀ b, b < w86.heap.size → ¬ (un (inBlk (Value.pointer (some ⟨p44, 0, none⟩))) (un (inBlk v85) (un (inBlk v63) nb))) b → ¬ nb b ∧ ¬ (un (inBlk v85) (un (inBlk v63) nb)) b from fun b _ hs => ⟨fun x => x, fun h => hs (un_el h (fun h => (.inr (.inl h))) (fun h => un_el h (fun h => (.inr (.inr (.inl h)))) (fun h => False.elim h)))⟩)
      have h60 := slRep.st k_Candidate_pos h60 crf (show ∀ b, b < w86.heap.size → ¬ (un (inBlk (Value.pointer (some ⟨p44, 0, none⟩))) (un (inBlk v85) (un (inBlk v63) nb))) b → ¬ nb b ∧ ¬ (un (inBlk v85) (un (inBlk v63) nb)) b from fun b _ hs => ⟨fun x => x, fun h => hs (un_el h (fun h => (.inr (.inl h))) (fun h => un_el h (fun h => (.inr (.inr (.inl h)))) (fun h => False.elim h)))⟩)
      have h65 := h65.st crf (fun _ _ x => x) (show ∀ b, b < w86.heap.size → ¬ (un (inBlk (Value.pointer (some ⟨p44, 0, none⟩))) (un (inBlk v85) (un (inBlk v63) nb))) b → ¬ nb b ∧ ¬ (un (inBlk v85) (un (inBlk v63) nb)) b from fun b _ hs => ⟨fun x => x, fun h => hs (un_el h (fun h => (.inr (.inl h))) (fun h => un_el h (fun h => (.inr (.inr (.inl h)))) (fun h => False.elim h)))⟩) (fun b h => (.inr (.inl h)))
      have h82 := slRep.st k_Candidate_pos h82 crf (show ∀ b, b < w86.heap.size → ¬ (un (inBlk (Value.pointer (some ⟨p44, 0, none⟩))) (un (inBlk v85) (un (inBlk v63) nb))) b → ¬ nb b ∧ ¬ (un (inBlk v85) (un (inBlk v63) nb)) b from fun b _ hs => ⟨fun x => x, fun h => hs (un_el h (fun h => (.inr (.inl h))) (fun h => un_el h (fun h => (.inr (.inr (.inl h)))) (fun h => False.elim h)))⟩)
      have h87 := h87.st crf (fun _ _ x => x) (show ∀ b, b < w86.heap.size → ¬ (un (inBlk (Value.pointer (some ⟨p44, 0, none⟩))) (un (inBlk v85) (un (inBlk v63) nb))) b → ¬ nb b ∧ ¬ (un (inBlk v85) (un (inBlk v63) nb)) b from fun b _ hs => ⟨fun x => x, fun h => hs (un_el h (fun h => (.inr (.inl h))) (fun h => un_el h (fun h => (.inr (.inr (.inl h)))) (fun h => False.elim h)))⟩) (fun b h => (.inl h))
      have c31 := c31.then0 crf
      have hLn := runAO_next hL21 hq24 hb25
      exact ⟨rest35.length, Nat.lt_succ_self _, [(9, av0), (10, (Value.int .i64 ((a0.length : Nat) : Int))), (3, v63), (4, v85), (11, (Value.int .i64 ((i20 + 1 : Nat) : Int)))], ⟨rfl, rfl, rfl, rfl, rfl, trivial⟩, ⟨rest35, i20 + 1, x12 ++ [x28], v63, x15 ++ [x28], v85, rfl, rfl, c31, hat22.next, hLn, ah0, h65, h87, d92⟩⟩
     ·
      have hb25 := ifF q77 hb25
      refine CW.skip ?_
      refine inB_n ?_
      refine thn_n ?_
      refine CW.region ?_
      refine rl_inc rfl hat22.lt ah0.big rfl ?_
      refine rl_move rfl rfl ?_
      refine RL.nil ?_
      refine thn_n ?_
      have crf : Ch nb w75 w75 := Ch.refl
      have ah0 := slRep.st k_Candidate_pos ah0 crf (show ∀ b, b < w75.heap.size → ¬ (un (inBlk (Value.pointer (some ⟨p44, 0, none⟩))) (un (inBlk v16) (un (inBlk v63) nb))) b → ¬ nb b ∧ ¬ (un (inBlk v16) (un (inBlk v63) nb)) b from fun b _ hs => ⟨fun x => x, fun h => hs (un_el h (fun h => (.inr (.inl h))) (fun h => un_el h (fun h => (.inr (.inr (.inl h)))) (fun h => False.elim h)))⟩)
      have h17 := h17.st crf (fun _ _ x => x) (show ∀ b, b < w75.heap.size → ¬ (un (inBlk (Value.pointer (some ⟨p44, 0, none⟩))) (un (inBlk v16) (un (inBlk v63) nb))) b → ¬ nb b ∧ ¬ (un (inBlk v16) (un (inBlk v63) nb)) b from fun b _ hs => ⟨fun x => x, fun h => hs (un_el h (fun h => (.inr (.inl h))) (fun h => un_el h (fun h => (.inr (.inr (.inl h)))) (fun h => False.elim h)))⟩) (fun b h => (.inl h))
      have h43 := slRep.st kStr_pos h43 crf (show ∀ b, b < w75.heap.size → ¬ (un (inBlk (Value.pointer (some ⟨p44, 0, none⟩))) (un (inBlk v16) (un (inBlk v63) nb))) b → ¬ nb b ∧ ¬ (un (inBlk v16) (un (inBlk v63) nb)) b from fun b _ hs => ⟨fun x => x, fun h => hs (un_el h (fun h => (.inr (.inl h))) (fun h => un_el h (fun h => (.inr (.inr (.inl h)))) (fun h => False.elim h)))⟩)
      have h60 := slRep.st k_Candidate_pos h60 crf (show ∀ b, b < w75.heap.size → ¬ (un (inBlk (Value.pointer (some ⟨p44, 0, none⟩))) (un (inBlk v16) (un (inBlk v63) nb))) b → ¬ nb b ∧ ¬ (un (inBlk v16) (un (inBlk v63) nb)) b from fun b _ hs => ⟨fun x => x, fun h => hs (un_el h (fun h => (.inr (.inl h))) (fun h => un_el h (fun h => (.inr (.inr (.inl h)))) (fun h => False.elim h)))⟩)
      have h65 := h65.st crf (fun _ _ x => x) (show ∀ b, b < w75.heap.size → ¬ (un (inBlk (Value.pointer (some ⟨p44, 0, none⟩))) (un (inBlk v16) (un (inBlk v63) nb))) b → ¬ nb b ∧ ¬ (un (inBlk v16) (un (inBlk v63) nb)) b from fun b _ hs => ⟨fun x => x, fun h => hs (un_el h (fun h => (.inr (.inl h))) (fun h => un_el h (fun h => (.inr (.inr (.inl h)))) (fun h => False.elim h)))⟩) (fun b h => (.inr (.inl h)))
      have c31 := c31.then0 crf
      have hLn := runAO_next hL21 hq24 hb25
      exact ⟨rest35.length, Nat.lt_succ_self _, [(9, av0), (10, (Value.int .i64 ((a0.length : Nat) : Int))), (3, v63), (4, v16), (11, (Value.int .i64 ((i20 + 1 : Nat) : Int)))], ⟨rfl, rfl, rfl, rfl, rfl, trivial⟩, ⟨rest35, i20 + 1, x12 ++ [x28], v63, x15, v16, rfl, rfl, c31, hat22.next, hLn, ah0, h65, h17, (disSym d70)⟩⟩
    ·
     have hb25 := ifF q55 hb25
     refine CW.skip ?_
     refine thn_n ?_
     refine CW.seq (CW.region ?_)
     refine rl_fieldAddr rfl fa58_3 rfl ?_
     refine rl_loadS (v := (Value.bool x28.serving)) rfl Try.isAgg4 (k53.cell rfl) rfl ?_
     refine rl_move rfl rfl ?_
     obtain ⟨b95, hb96⟩ : ∃ v, (x28.serving && x28.terminating) = v := ⟨_, rfl⟩
     have hb25 := ltS hb96 hb25
     refine RL.join 3 26 (.bool b95) (fun w' => Ch nb w50 w') ?_ ?_
     · rcases Bool.eq_false_or_eq_true x28.serving with hg94 | hg94
       ·
        have hs93 := and_t hg94 hb96
        have cs : Ch nb w50 w50 := Ch.refl
        refine RL.yes rfl rfl rfl hg94 ?_
        refine rl_fieldAddr rfl fa58_4 rfl ?_
        refine RL.yes rfl rfl rfl hg94 ?_
        refine rl_loadS (v := (Value.bool x28.terminating)) rfl Try.isAgg4 (k53.cell rfl) rfl ?_
        refine rl_pickT rfl hg94 rfl rfl ?_
        exact RL.nil ⟨Ext.bothEq (congrArg Value.bool hs93) (Ext.skip rfl (Ext.skip rfl (Ext.rfl'))), cs⟩
       ·
        have hs93 := and_f hg94 hb96
        have cs : Ch nb w50 w50 := Ch.refl
        refine RL.no rfl rfl rfl hg94 rfl rfl ?_
        refine RL.no rfl rfl rfl hg94 rfl rfl ?_
        refine rl_pickF rfl hg94 rfl rfl ?_
        exact RL.nil ⟨Ext.bothEq (congrArg Value.bool hs93) (Ext.skip rfl (Ext.skip rfl (Ext.rfl'))), cs⟩
     intro w97 c98
     have ah0 := slRep.ch k_Candidate_pos ah0 c98
     have h14 := h14.ch0 c98
     have h17 := h17.ch0 c98
     have h43 := slRep.ch kStr_pos h43 c98
     have k53 := k53.ch0 c98
     have c31 := c31.then0 c98
     refine RL.nil ?_
     refine thn_n ?_
     refine CW.cond (t := b95) rfl (fun q99 => ?_) (fun q99 => ?_)
     ·
      have hb25 := ifT q99 hb25
      refine CW.region ?_
      refine rl_move rfl rfl ?_
      refine rl_loadA (cs := (Candidate.c x28 z42)) rfl Try.isAgg58 Try.sizeOf58 (k53.segAt 0 23) rfl rfl ?_
      refine rl_bslice (k := k_Candidate) (F := F) (B := w.heap.size) (S := (un (inBlk (Value.pointer (some ⟨p44, 0, none⟩))) (un (inBlk v16) (un (inBlk v13) nb)))) ([x28] : List Candidate) rfl k_Candidate_pos Try.underlying28 Try.sizeOf58 Try.zeroValue58 rfl rfl ⟨rfl, ⟨z42, rfl, h43⟩, trivial⟩ c31.size (un_lt k53.ltp (un_lt (fun b hb => (h17.lt b hb).2) (un_lt (fun b hb => (h14.lt b hb).2) nbS))) rfl ?_
      intro v100 w101 c102 hf103 h104
      have h104 := h104.readNew k_Candidate_pos hf103 (un_lt k53.ltp (un_lt (fun b hb => (h17.lt b hb).2) (un_lt (fun b hb => (h14.lt b hb).2) nbS)))
      have ah0 := slRep.ch k_Candidate_pos ah0 c102
      have h14 := h14.ch0 c102
      have h17 := h17.ch0 c102
      have h43 := slRep.ch kStr_pos h43 c102
      have k53 := k53.ch0 c102
      have c31 := c31.then0 c102
      obtain ⟨z105, hz106, hb25⟩ := bindS hb25
      obtain ⟨hl, rfl⟩ := apO_get hz106
      refine rl_append (k := k_Candidate) (T := 58) (F := F) (B := w.heap.size) (S := (un (inBlk (Value.pointer (some ⟨p44, 0, none⟩))) (un (inBlk v16) (un (inBlk v13) nb)))) (S2 := (un (inBlk (Value.pointer (some ⟨p44, 0, none⟩))) (un (inBlk v13) nb))) (fun v => (un (inBlk (Value.pointer (some ⟨p44, 0, none⟩))) (un (inBlk v) (un (inBlk v13) nb)))) rfl rfl k_Candidate_pos ap28 h17 h104 (fun _ => un_swap) (fun _ _ => un_swap) hl c31.size (un_lt k53.ltp (un_lt (fun b hb => (h17.lt b hb).2) (un_lt (fun b hb => (h14.lt b hb).2) nbS))) rfl ?_
      intro v107 w108 h109 c110 hf111 ha112
      have d113 : ∀ b, inBlk v107 b → ¬ inBlk (Value.pointer (some ⟨p44, 0, none⟩)) b := disApp hf111 (disSym d48) k53.ltp
      have d114 : ∀ b, inBlk v107 b → ¬ inBlk v13 b := disApp hf111 d18 (fun b hb => (h14.lt b hb).2)
      have ah0 := slRep.st k_Candidate_pos ah0 c110 ha112
      have h14 := h14.st c110 (disSym d18) ha112 (fun b h => (.inr (.inr (.inl h))))
      have h43 := slRep.st kStr_pos h43 c110 ha112
      have k53 := k53.ch c110 (d48 _ rfl)
      have h104 := slRep.st k_Candidate_pos h104 c110 ha112
      have c31 := c31.then c110 (fun i hi h => absurd ((fun b hb => (h17.lt b hb).1) i h) (Nat.not_le_of_lt hi))
      refine rl_assign rfl rfl ?_
      refine RL.nil ?_
      refine inB_n ?_
      refine thn_n ?_
      refine CW.region ?_
      refine rl_inc rfl hat22.lt ah0.big rfl ?_
      refine rl_move rfl rfl ?_
      refine RL.nil ?_
      refine thn_n ?_
      have crf : Ch nb w108 w108 := Ch.refl
      have ah0 := slRep.st k_Candidate_pos ah0 crf (show ∀ b, b < w108.heap.size → ¬ (un (inBlk (Value.pointer (some ⟨p44, 0, none⟩))) (un (inBlk v107) (un (inBlk v13) nb))) b → ¬ nb b ∧ ¬ (un (inBlk v107) (un (inBlk v13) nb)) b from fun b _ hs => ⟨fun x => x, fun h => hs (un_el h (fun h => (.inr (.inl h))) (fun h => un_el h (fun h => (.inr (.inr (.inl h)))) (fun h => False.elim h)))⟩)
      have h14 := h14.st crf (fun _ _ x => x) (show ∀ b, b < w108.heap.size → ¬ (un (inBlk (Value.pointer (some ⟨p44, 0, none⟩))) (un (inBlk v107) (un (inBlk v13) nb))) b → ¬ nb b ∧ ¬ (un (inBlk v107) (un (inBlk v13) nb)) b from fun b _ hs => ⟨fun x => x, fun h => hs (un_el h (fun h => (.inr (.inl h))) (fun h => un_el h (fun h => (.inr (.inr (.inl h)))) (fun h => False.elim h)))⟩) (fun b h => (.inr (.inl h)))
      have h43 := slRep.st kStr_pos h43 crf (show ∀ b, b < w108.heap.size → ¬ (un (inBlk (Value.pointer (some ⟨p44, 0, none⟩))) (un (inBlk v107) (un (inBlk v13) nb))) b → ¬ nb b ∧ ¬ (un (inBlk v107) (un (inBlk v13) nb)) b from fun b _ hs => ⟨fun x => x, fun h => hs (un_el h (fun h => (.inr (.inl h))) (fun h => un_el h (fun h => (.inr (.inr (.inl h)))) (fun h => False.elim h)))⟩)
      have h104 := slRep.st k_Candidate_pos h104 crf (show ∀ b, b < w108.heap.size → ¬ (un (inBlk (Value.pointer (some ⟨p44, 0, none⟩))) (un (inBlk v107) (un (inBlk v13) nb))) b → ¬ nb b ∧ ¬ (un (inBlk v107) (un (inBlk v13) nb)) b from fun b _ hs => ⟨fun x => x, fun h => hs (un_el h (fun h => (.inr (.inl h))) (fun h => un_el h (fun h => (.inr (.inr (.inl h)))) (fun h => False.elim h)))⟩)
      have h109 := h109.st crf (fun _ _ x => x) (show ∀ b, b < w108.heap.size → ¬ (un (inBlk (Value.pointer (some ⟨p44, 0, none⟩))) (un (inBlk v107) (un (inBlk v13) nb))) b → ¬ nb b ∧ ¬ (un (inBlk v107) (un (inBlk v13) nb)) b from fun b _ hs => ⟨fun x => x, fun h => hs (un_el h (fun h => (.inr (.inl h))) (fun h => un_el h (fun h => (.inr (.inr (.inl h)))) (fun h => False.elim h)))⟩) (fun b h => (.inl h))
      have c31 := c31.then0 crf
      have hLn := runAO_next hL21 hq24 hb25
      exact ⟨rest35.length, Nat.lt_succ_self _, [(9, av0), (10, (Value.int .i64 ((a0.length : Nat) : Int))), (3, v13), (4, v107), (11, (Value.int .i64 ((i20 + 1 : Nat) : Int)))], ⟨rfl, rfl, rfl, rfl, rfl, trivial⟩, ⟨rest35, i20 + 1, x12, v13, x15 ++ [x28], v107, rfl, rfl, c31, hat22.next, hLn, ah0, h14, h109, d114⟩⟩
     ·
      have hb25 := ifF q99 hb25
      refine CW.skip ?_
      refine inB_n ?_
      refine thn_n ?_
      refine CW.region ?_
      refine rl_inc rfl hat22.lt ah0.big rfl ?_
      refine rl_move rfl rfl ?_
      refine RL.nil ?_
      refine thn_n ?_
      have crf : Ch nb w97 w97 := Ch.refl
      have ah0 := slRep.st k_Candidate_pos ah0 crf (show ∀ b, b < w97.heap.size → ¬ (un (inBlk (Value.pointer (some ⟨p44, 0, none⟩))) (un (inBlk v16) (un (inBlk v13) nb))) b → ¬ nb b ∧ ¬ (un (inBlk v16) (un (inBlk v13) nb)) b from fun b _ hs => ⟨fun x => x, fun h => hs (un_el h (fun h => (.inr (.inl h))) (fun h => un_el h (fun h => (.inr (.inr (.inl h)))) (fun h => False.elim h)))⟩)
      have h14 := h14.st crf (fun _ _ x => x) (show ∀ b, b < w97.heap.size → ¬ (un (inBlk (Value.pointer (some ⟨p44, 0, none⟩))) (un (inBlk v16) (un (inBlk v13) nb))) b → ¬ nb b ∧ ¬ (un (inBlk v16) (un (inBlk v13) nb)) b from fun b _ hs => ⟨fun x => x, fun h => hs (un_el h (fun h => (.inr (.inl h))) (fun h => un_el h (fun h => (.inr (.inr (.inl h)))) (fun h => False.elim h)))⟩) (fun b h => (.inr (.inl h)))
      have h17 := h17.st crf (fun _ _ x => x) (show ∀ b, b < w97.heap.size → ¬ (un (inBlk (Value.pointer (some ⟨p44, 0, none⟩))) (un (inBlk v16) (un (inBlk v13) nb))) b → ¬ nb b ∧ ¬ (un (inBlk v16) (un (inBlk v13) nb)) b from fun b _ hs => ⟨fun x => x, fun h => hs (un_el h (fun h => (.inr (.inl h))) (fun h => un_el h (fun h => (.inr (.inr (.inl h)))) (fun h => False.elim h)))⟩) (fun b h => (.inl h))
      have h43 := slRep.st kStr_pos h43 crf (show ∀ b, b < w97.heap.size → ¬ (un (inBlk (Value.pointer (some ⟨p44, 0, none⟩))) (un (inBlk v16) (un (inBlk v13) nb))) b → ¬ nb b ∧ ¬ (un (inBlk v16) (un (inBlk v13) nb)) b from fun b _ hs => ⟨fun x => x, fun h => hs (un_el h (fun h => (.inr (.inl h))) (fun h => un_el h (fun h => (.inr (.inr (.inl h)))) (fun h => False.elim h)))⟩)
      have c31 := c31.then0 crf
      have hLn := runAO_next hL21 hq24 hb25
      exact ⟨rest35.length, Nat.lt_succ_self _, [(9, av0), (10, (Value.int .i64 ((a0.length : Nat) : Int))), (3, v13), (4, v16), (11, (Value.int .i64 ((i20 + 1 : Nat) : Int)))], ⟨rfl, rfl, rfl, rfl, rfl, trivial⟩, ⟨rest35, i20 + 1, x12, v13, x15, v16, rfl, rfl, c31, hat22.next, hLn, ah0, h14, h17, d18⟩⟩
   ·
    obtain rfl := hat22.nil q34
    have hLf : (x12, x15) = o26 := runAO_done hL21
    refine CW.exit (thn_exit (thn_exit (inB_hit ?_)))
    exact ⟨x12, v13, x15, v16, ⟨rfl, rfl, trivial⟩, c31, hLf, ah0, h14, h17, d18⟩
  ·
   rintro _ w116 ⟨x12, v13, x15, v16, hE117, c115, f118, ah0, h14, h17, d18⟩
   subst f118
   refine thn_n (CW.sub [(3, v13), (4, v16)] hE117 ?_)
   refine CW.seq ?_
   refine CW.seq (CW.region ?_)
   refine rl_move rfl rfl ?_
   refine rl_lenR rfl (SlO.read (S' := (un (inBlk v16) nb)) k_Candidate_pos h14 (fun b hs h => hs (un_el h (fun h => (.inl h)) (fun h => False.elim h))) (fun b hb => fun h => un_el h (fun h => (disSym d18) b hb h) (fun h => h))) Try.underlying28 rfl ?_
   refine rl_bin rfl rfl B.gtr rfl ?_
   refine RL.nil ?_
   refine thn_n ?_
   refine CW.cond (t := decide (((x12.length : Nat) : Int) > 0)) rfl (fun q120 => ?_) (fun q120 => ?_)
   ·
    have hS := ifT q120 hS
    refine CW.seq (CW.region ?_)
    refine rl_move rfl rfl ?_
    refine rl_assign rfl rfl ?_
    refine RL.nil ?_
    refine thn_n ?_
    refine CW.ret ?_
    refine thn_ret ?_
    obtain rfl := Option.some.inj hS
    exact ret1 rfl ⟨v13, rfl, h14.out, c115⟩
   ·
    have hS := ifF q120 hS
    refine CW.skip ?_
    refine thn_n ?_
    refine CW.seq (CW.region ?_)
    refine rl_move rfl rfl ?_
    refine rl_assign rfl rfl ?_
    refine RL.nil ?_
    refine thn_n ?_
    refine CW.ret ?_
    obtain rfl := Option.some.inj hS
    exact ret1 rfl ⟨v16, rfl, h17.out, c115⟩
/-- lb/lbnum.SameTexts -/
theorem ctr40 (F : Nat → Prop) (w : World) (a0 : (List ByteArray)) (av0 : Value) (ah0 : slRep kStr F w a0 av0) (a1 : (List ByteArray)) (av1 : Value) (ah1 : slRep kStr F w a1 av1) (r : Bool) (hs : F40_linkboynum_SameTexts a0 a1 = some r) :
    Ret Try.prog 40 #[av0, av1] w fun v w' => v = (Value.bool r) ∧ Ch nb w w' := by
  have hS := hs
  have c0 : Ch nb w w := Ch.refl
  have ah0 := slRep.enter kStr_pos ah0
  have ah1 := slRep.enter kStr_pos ah1
  refine Ret.of (n := 26) (args := [_, _]) (rs := [.tmp 4]) Try.func40 rfl rfl rfl rfl ?_
  refine CW.seq (CW.region ?_)
  refine rl_assign rfl rfl ?_
  refine RL.nil ?_
  refine thn_n ?_
  refine CW.seq ?_
  refine CW.seq (CW.region ?_)
  refine rl_move rfl rfl ?_
  refine rl_lenR rfl ah0 Try.underlying42 rfl ?_
  refine rl_move rfl rfl ?_
  refine rl_lenR rfl ah1 Try.underlying42 rfl ?_
  refine rl_bin rfl rfl B.neq rfl ?_
  refine RL.nil ?_
  refine thn_n ?_
  refine CW.cond (t := !decide (((a0.length : Nat) : Int) = ((a1.length : Nat) : Int))) rfl (fun q1 => ?_) (fun q1 => ?_)
  ·
   have hS := ifT q1 hS
   refine CW.seq (CW.region ?_)
   refine rl_assign rfl rfl ?_
   refine RL.nil ?_
   refine thn_n ?_
   refine CW.ret ?_
   refine thn_ret ?_
   obtain rfl := Option.some.inj hS
   exact ret1 rfl ⟨rfl, c0⟩
  ·
   have hS := ifF q1 hS
   refine CW.skip ?_
   refine thn_n ?_
   refine CW.seq ?_
   refine CW.seq (CW.region ?_)
   refine rl_move rfl rfl ?_
   refine rl_lenR rfl ah0 Try.underlying42 rfl ?_
   refine rl_move rfl rfl ?_
   refine RL.nil ?_
   refine thn_n ?_
   obtain ⟨o9, ho10, hS⟩ := bindS hS
   refine CW.cutB (fun E' w' => ∃ (ix16 : Nat), Sub [] E' ∧ Ch nb w w' ∧ Lp.fin ix16 = o9 ∧ slRep kStr (G F w.heap.size nb) w' a0 av0 ∧ slRep kStr (G F w.heap.size nb) w' a1 av1) ?_ ?_
   ·
    refine CW.loopS [(0, av0), (1, av1), (12, (Value.int .i64 ((a0.length : Nat) : Int))), (13, (Value.int .i64 ((0 : Nat) : Int)))] ⟨rfl, rfl, rfl, rfl, trivial⟩ a0.length (fun m E w' => ∃ (rest2 : List ByteArray) (i3 : Nat) , m = rest2.length ∧ E = [(0, av0), (1, av1), (12, (Value.int .i64 ((a0.length : Nat) : Int))), (13, (Value.int .i64 ((i3 : Nat) : Int)))] ∧ Ch nb w w' ∧ At a0 i3 rest2 ∧ runBO (F40_linkboynum_SameTexts_b1 a1) rest2 i3 = some o9 ∧ slRep kStr (G F w.heap.size nb) w' a0 av0 ∧ slRep kStr (G F w.heap.size nb) w' a1 av1)
        ⟨a0, 0, rfl, rfl, c0, At.start, ho10, ah0, ah1⟩ ?_
    rintro _ _ w15 ⟨rest2, i3, rfl, rfl, c14, hat5, hL4, ah0, ah1⟩
    refine CW.seq (CW.region ?_)
    refine rl_bin rfl rfl B.lss rfl ?_
    refine RL.nil (thn_n ?_)
    refine CW.seq ?_
    refine CW.cond (t := decide (((i3 : Nat) : Int) < ((a0.length : Nat) : Int))) rfl (fun q17 => ?_) (fun q17 => ?_)
    ·
     obtain ⟨x11, rest18, rfl⟩ := hat5.cons q17
     obtain ⟨q6, hq7⟩ := runBO_some hL4
     have hb8 := hq7
     refine CW.skip (thn_n ?_)
     refine CW.seq ?_
     refine CW.block ?_
     refine CW.seq (CW.region ?_)
     refine rl_move rfl rfl ?_
     refine rl_assign rfl rfl ?_
     refine RL.nil ?_
     refine thn_n ?_
     refine CW.seq ?_
     obtain ⟨y31, hy32, hb8⟩ := bindS hb8
     refine CW.draw 8 [(false, fun O uu wx => uu = av0), (false, fun O uu wx => uu = (Value.int .i64 ((i3 : Nat) : Int))), (false, fun O uu wx => ∃ (p19 : Nat) (o20 : Nat), uu = (Value.pointer (some ⟨p19, o20, none⟩)) ∧ (G F w.heap.size nb) p19 ∧ Seg wx p19 o20 [(Value.string x11)]), (false, fun O uu wx => uu = (Value.string x11)), (false, fun O uu wx => uu = av1), (false, fun O uu wx => uu = (Value.int .i64 ((i3 : Nat) : Int))), (false, fun O uu wx => ∃ (p25 : Nat) (o26 : Nat), uu = (Value.pointer (some ⟨p25, o26, none⟩)) ∧ (G F w.heap.size nb) p25 ∧ Seg wx p25 o26 [(Value.string y31)]), (false, fun O uu wx => uu = (Value.string y31))] [[], [], [0, 1], [2], [], [], [4, 5], [6]] [3, 7] mixed rfl rfl rfl rfl ?_ ?_
     ·
      refine Each.consA ⟨fun _ _ _ _ _ h => h, fun h => absurd rfl h, fun O wk hO ck => ?_⟩ ?_
      ·
       have ah0 := slRep.ch kStr_pos ah0 ck
       have ah1 := slRep.ch kStr_pos ah1 ck
       have c14 := c14.then0 ck
       refine rl_move rfl rfl ?_
       exact RL.nil ⟨_, rfl, Ch.refl, rfl⟩
      refine Each.consA ⟨fun _ _ _ _ _ h => h, fun h => absurd rfl h, fun O wk hO ck => ?_⟩ ?_
      ·
       have ah0 := slRep.ch kStr_pos ah0 ck
       have ah1 := slRep.ch kStr_pos ah1 ck
       have c14 := c14.then0 ck
       refine rl_move rfl rfl ?_
       exact RL.nil ⟨_, rfl, Ch.refl, rfl⟩
      refine Each.consA ⟨fun _ _ _ _ cc hh => by obtain ⟨p19, o20, e, hg24, hs23⟩ := hh; exact ⟨p19, o20, e, hg24, hs23.ch0 cc⟩, fun h => absurd rfl h, fun O wk hO ck => ?_⟩ ?_
      ·
       have ah0 := slRep.ch kStr_pos ah0 ck
       have ah1 := slRep.ch kStr_pos ah1 ck
       have c14 := c14.then0 ck
       refine Need.one rfl rfl ?_
       rintro _ e33
       obtain rfl := e33.symm
       refine Need.one rfl rfl ?_
       rintro _ e34
       obtain rfl := e34.symm
       refine rl_ixR rfl ah0 rfl hat5.get Try.underlying42 Try.sizeOf9 rfl ?_
       intro p35 o36 cs37 hr38 hs39 hg40
       obtain rfl := hr38
       exact RL.nil ⟨_, rfl, Ch.refl, ⟨p35, o36, rfl, hg40, hs39⟩⟩
      refine Each.consA ⟨fun _ _ _ _ _ h => h, fun h => absurd rfl h, fun O wk hO ck => ?_⟩ ?_
      ·
       have ah0 := slRep.ch kStr_pos ah0 ck
       have ah1 := slRep.ch kStr_pos ah1 ck
       have c14 := c14.then0 ck
       refine Need.one rfl rfl ?_
       rintro _ ⟨p19, o20, e41, hg24, hs23⟩
       obtain rfl := e41.symm
       refine rl_loadS (v := (Value.string x11)) rfl Try.isAgg9 (hs23 0 _ rfl) rfl ?_
       exact RL.nil ⟨_, rfl, Ch.refl, rfl⟩
      refine Each.consA ⟨fun _ _ _ _ _ h => h, fun h => absurd rfl h, fun O wk hO ck => ?_⟩ ?_
      ·
       have ah0 := slRep.ch kStr_pos ah0 ck
       have ah1 := slRep.ch kStr_pos ah1 ck
       have c14 := c14.then0 ck
       refine rl_move rfl rfl ?_
       exact RL.nil ⟨_, rfl, Ch.refl, rfl⟩
      refine Each.consA ⟨fun _ _ _ _ _ h => h, fun h => absurd rfl h, fun O wk hO ck => ?_⟩ ?_
      ·
       have ah0 := slRep.ch kStr_pos ah0 ck
       have ah1 := slRep.ch kStr_pos ah1 ck
       have c14 := c14.then0 ck
       refine rl_move rfl rfl ?_
       exact RL.nil ⟨_, rfl, Ch.refl, rfl⟩
      refine Each.consA ⟨fun _ _ _ _ cc hh => by obtain ⟨p25, o26, e, hg30, hs29⟩ := hh; exact ⟨p25, o26, e, hg30, hs29.ch0 cc⟩, fun h => absurd rfl h, fun O wk hO ck => ?_⟩ ?_
      ·
       have ah0 := slRep.ch kStr_pos ah0 ck
       have ah1 := slRep.ch kStr_pos ah1 ck
       have c14 := c14.then0 ck
       refine Need.one rfl rfl ?_
       rintro _ e42
       obtain rfl := e42.symm
       refine Need.one rfl rfl ?_
       rintro _ e43
       obtain rfl := e43.symm
       refine rl_ixR rfl ah1 rfl (ixO_nat hy32) Try.underlying42 Try.sizeOf9 rfl ?_
       intro p44 o45 cs46 hr47 hs48 hg49
       obtain rfl := hr47
       exact RL.nil ⟨_, rfl, Ch.refl, ⟨p44, o45, rfl, hg49, hs48⟩⟩
      refine Each.consA ⟨fun _ _ _ _ _ h => h, fun h => absurd rfl h, fun O wk hO ck => ?_⟩ ?_
      ·
       have ah0 := slRep.ch kStr_pos ah0 ck
       have ah1 := slRep.ch kStr_pos ah1 ck
       have c14 := c14.then0 ck
       refine Need.one rfl rfl ?_
       rintro _ ⟨p25, o26, e50, hg30, hs29⟩
       obtain rfl := e50.symm
       refine rl_loadS (v := (Value.string y31)) rfl Try.isAgg9 (hs29 0 _ rfl) rfl ?_
       exact RL.nil ⟨_, rfl, Ch.refl, rfl⟩
      trivial
     ·
      intro O53 w51 hO54 c52
      have ah0 := slRep.ch kStr_pos ah0 c52
      have ah1 := slRep.ch kStr_pos ah1 c52
      have c14 := c14.then0 c52
      refine Need.one rfl rfl ?_
      rintro _ e55
      obtain rfl := e55.symm
      refine Need.one rfl rfl ?_
      rintro _ e56
      obtain rfl := e56.symm
      refine rl_bin rfl rfl B.neqS rfl ?_
      refine RL.nil ?_
      refine thn_n ?_
      refine CW.cond (t := !decide (x11 = y31)) rfl (fun q57 => ?_) (fun q57 => ?_)
      ·
       have hb8 := ifT q57 hb8
       refine CW.seq (CW.region ?_)
       refine rl_assign rfl rfl ?_
       refine RL.nil ?_
       refine thn_n ?_
       refine CW.ret ?_
       refine inB_ret ?_
       refine thn_ret ?_
       refine thn_ret (inB_ret (thn_ret ?_))
       refine thn_ret ?_
       have f58 := runBO_ret hL4 hq7 hb8
       have hS := retS f58 hS
       obtain rfl := Option.some.inj hS
       exact ret1 rfl ⟨rfl, c14⟩
      ·
       have hb8 := ifF q57 hb8
       refine CW.skip ?_
       refine inB_n ?_
       refine thn_n ?_
       refine CW.region ?_
       refine rl_inc rfl hat5.lt ah0.big rfl ?_
       refine rl_move rfl rfl ?_
       refine RL.nil ?_
       refine thn_n ?_
       have hLn := runBO_next hL4 hq7 hb8
       exact ⟨rest18.length, Nat.lt_succ_self _, [(0, av0), (1, av1), (12, (Value.int .i64 ((a0.length : Nat) : Int))), (13, (Value.int .i64 ((i3 + 1 : Nat) : Int)))], ⟨rfl, rfl, rfl, rfl, trivial⟩, ⟨rest18, i3 + 1, rfl, rfl, c14, hat5.next, hLn, ah0, ah1⟩⟩
    ·
     obtain rfl := hat5.nil q17
     have hLf : Lp.fin i3 = o9 := runBO_done hL4
     refine CW.exit (thn_exit (thn_exit (inB_hit ?_)))
     exact ⟨i3, trivial, c14, hLf, ah0, ah1⟩
   ·
    rintro _ w60 ⟨ix16, hE61, c59, f62, ah0, ah1⟩
    have hS := finS f62 hS
    refine thn_n (CW.sub [] hE61 ?_)
    refine CW.seq (CW.region ?_)
    refine rl_assign rfl rfl ?_
    refine RL.nil ?_
    refine thn_n ?_
    refine CW.ret ?_
    obtain rfl := Option.some.inj hS
    exact ret1 rfl ⟨rfl, c59⟩
/-- lb/lbref18.Same -/
theorem ctr24 (F : Nat → Prop) (w : World) (a0 : Candidate) (az0_0 : Value) (ah0_0 : slRep kStr F w a0.zones az0_0) (a1 : Candidate) (az1_0 : Value) (ah1_0 : slRep kStr F w a1.zones az1_0) (r : Bool) (hs : F24_linkboyref18_Same a0 a1 = some r) :
    Ret Try.prog 24 #[(Value.agg (Candidate.c a0 az0_0).toArray), (Value.agg (Candidate.c a1 az1_0).toArray)] w fun v w' => v = (Value.bool r) ∧ Ch nb w w' := by
  have hS := hs
  have c0 : Ch nb w w := Ch.refl
  have ah0_0 := slRep.enter kStr_pos ah0_0
  have ah1_0 := slRep.enter kStr_pos ah1_0
  refine Ret.of (n := 45) (args := [_, _]) (rs := [.tmp 4]) Try.func24 rfl rfl rfl rfl ?_
  refine CW.seq (CW.region ?_)
  refine rl_boxA (cs := (Candidate.c a0 az0_0)) rfl rfl ?_
  intro p1 w2 n3 k4
  have gp1 : (G F w.heap.size nb) p1 := ⟨.inr (by rw [n3.eq]; exact c0.size), fun h => absurd (nbS _ h) (by rw [n3.eq]; exact Nat.lt_irrefl _)⟩
  have ah0_0 := slRep.ch kStr_pos ah0_0 n3.ch
  have ah1_0 := slRep.ch kStr_pos ah1_0 n3.ch
  have c0 := c0.then0 n3.ch
  refine rl_boxA (cs := (Candidate.c a1 az1_0)) rfl rfl ?_
  intro p5 w6 n7 k8
  have gp5 : (G F w.heap.size nb) p5 := ⟨.inr (by rw [n7.eq]; exact c0.size), fun h => absurd (nbS _ h) (by rw [n7.eq]; exact Nat.lt_irrefl _)⟩
  have ah0_0 := slRep.ch kStr_pos ah0_0 n7.ch
  have ah1_0 := slRep.ch kStr_pos ah1_0 n7.ch
  have k4 := k4.ch0 n7.ch
  have c0 := c0.then0 n7.ch
  refine rl_assign rfl rfl ?_
  refine RL.nil ?_
  refine thn_n ?_
  refine CW.seq (CW.region ?_)
  refine rl_fieldAddr rfl fa58_0 rfl ?_
  refine rl_loadA (cs := (Point.enc a0.point)) rfl Try.isAgg41 Try.sizeOf41 (k4.segAt 0 18) rfl rfl ?_
  refine rl_fieldAddr rfl fa58_0 rfl ?_
  refine rl_loadA (cs := (Point.enc a1.point)) rfl Try.isAgg41 Try.sizeOf41 (k8.segAt 0 18) rfl rfl ?_
  refine rl_bin rfl rfl (eql41 a0.point a1.point) rfl ?_
  refine rl_move rfl rfl ?_
  obtain ⟨b11, hb12⟩ : ∃ v, ((decide (a0.point = a1.point)) && (a0.localF == a1.localF)) = v := ⟨_, rfl⟩
  have hS := ltS hb12 hS
  refine RL.join 6 16 (.bool b11) (fun w' => Ch nb w6 w') ?_ ?_
  · rcases Bool.eq_false_or_eq_true (decide (a0.point = a1.point)) with hg10 | hg10
    ·
     have hs9 := and_t hg10 hb12
     have cs : Ch nb w6 w6 := Ch.refl
     refine RL.yes rfl rfl rfl hg10 ?_
     refine rl_fieldAddr rfl fa58_1 rfl ?_
     refine RL.yes rfl rfl rfl hg10 ?_
     refine rl_loadS (v := (Value.bool a0.localF)) rfl Try.isAgg4 (k4.cell rfl) rfl ?_
     refine RL.yes rfl rfl rfl hg10 ?_
     refine rl_fieldAddr rfl fa58_1 rfl ?_
     refine RL.yes rfl rfl rfl hg10 ?_
     refine rl_loadS (v := (Value.bool a1.localF)) rfl Try.isAgg4 (k8.cell rfl) rfl ?_
     refine RL.yes rfl rfl rfl hg10 ?_
     refine rl_bin rfl rfl (B.eqlB Try.underlying4) rfl ?_
     refine rl_pickT rfl hg10 rfl rfl ?_
     exact RL.nil ⟨Ext.bothEq (congrArg Value.bool hs9) (Ext.skip rfl (Ext.skip rfl (Ext.skip rfl (Ext.skip rfl (Ext.skip rfl (Ext.rfl')))))), cs⟩
    ·
     have hs9 := and_f hg10 hb12
     have cs : Ch nb w6 w6 := Ch.refl
     refine RL.no rfl rfl rfl hg10 rfl rfl ?_
     refine RL.no rfl rfl rfl hg10 rfl rfl ?_
     refine RL.no rfl rfl rfl hg10 rfl rfl ?_
     refine RL.no rfl rfl rfl hg10 rfl rfl ?_
     refine RL.no rfl rfl rfl hg10 rfl rfl ?_
     refine rl_pickF rfl hg10 rfl rfl ?_
     exact RL.nil ⟨Ext.bothEq (congrArg Value.bool hs9) (Ext.skip rfl (Ext.skip rfl (Ext.skip rfl (Ext.skip rfl (Ext.skip rfl (Ext.rfl')))))), cs⟩
  intro w13 c14
  have ah0_0 := slRep.ch kStr_pos ah0_0 c14
  have ah1_0 := slRep.ch kStr_pos ah1_0 c14
  have k4 := k4.ch0 c14
  have k8 := k8.ch0 c14
  have c0 := c0.then0 c14
  refine rl_move rfl rfl ?_
  obtain ⟨b17, hb18⟩ : ∃ v, (b11 && (a0.ready == a1.ready)) = v := ⟨_, rfl⟩
  have hS := ltS hb18 hS
  refine RL.join 6 23 (.bool b17) (fun w' => Ch nb w13 w') ?_ ?_
  · rcases Bool.eq_false_or_eq_true b11 with hg16 | hg16
    ·
     have hs15 := and_t hg16 hb18
     have cs : Ch nb w13 w13 := Ch.refl
     refine RL.yes rfl rfl rfl hg16 ?_
     refine rl_fieldAddr rfl fa58_2 rfl ?_
     refine RL.yes rfl rfl rfl hg16 ?_
     refine rl_loadS (v := (Value.bool a0.ready)) rfl Try.isAgg4 (k4.cell rfl) rfl ?_
     refine RL.yes rfl rfl rfl hg16 ?_
     refine rl_fieldAddr rfl fa58_2 rfl ?_
     refine RL.yes rfl rfl rfl hg16 ?_
     refine rl_loadS (v := (Value.bool a1.ready)) rfl Try.isAgg4 (k8.cell rfl) rfl ?_
     refine RL.yes rfl rfl rfl hg16 ?_
     refine rl_bin rfl rfl (B.eqlB Try.underlying4) rfl ?_
     refine rl_pickT rfl hg16 rfl rfl ?_
     exact RL.nil ⟨Ext.bothEq (congrArg Value.bool hs15) (Ext.skip rfl (Ext.skip rfl (Ext.skip rfl (Ext.skip rfl (Ext.skip rfl (Ext.rfl')))))), cs⟩
    ·
     have hs15 := and_f hg16 hb18
     have cs : Ch nb w13 w13 := Ch.refl
     refine RL.no rfl rfl rfl hg16 rfl rfl ?_
     refine RL.no rfl rfl rfl hg16 rfl rfl ?_
     refine RL.no rfl rfl rfl hg16 rfl rfl ?_
     refine RL.no rfl rfl rfl hg16 rfl rfl ?_
     refine RL.no rfl rfl rfl hg16 rfl rfl ?_
     refine rl_pickF rfl hg16 rfl rfl ?_
     exact RL.nil ⟨Ext.bothEq (congrArg Value.bool hs15) (Ext.skip rfl (Ext.skip rfl (Ext.skip rfl (Ext.skip rfl (Ext.skip rfl (Ext.rfl')))))), cs⟩
  intro w19 c20
  have ah0_0 := slRep.ch kStr_pos ah0_0 c20
  have ah1_0 := slRep.ch kStr_pos ah1_0 c20
  have k4 := k4.ch0 c20
  have k8 := k8.ch0 c20
  have c0 := c0.then0 c20
  refine rl_move rfl rfl ?_
  obtain ⟨b23, hb24⟩ : ∃ v, (b17 && (a0.serving == a1.serving)) = v := ⟨_, rfl⟩
  have hS := ltS hb24 hS
  refine RL.join 6 30 (.bool b23) (fun w' => Ch nb w19 w') ?_ ?_
  · rcases Bool.eq_false_or_eq_true b17 with hg22 | hg22
    ·
     have hs21 := and_t hg22 hb24
     have cs : Ch nb w19 w19 := Ch.refl
     refine RL.yes rfl rfl rfl hg22 ?_
     refine rl_fieldAddr rfl fa58_3 rfl ?_
     refine RL.yes rfl rfl rfl hg22 ?_
     refine rl_loadS (v := (Value.bool a0.serving)) rfl Try.isAgg4 (k4.cell rfl) rfl ?_
     refine RL.yes rfl rfl rfl hg22 ?_
     refine rl_fieldAddr rfl fa58_3 rfl ?_
     refine RL.yes rfl rfl rfl hg22 ?_
     refine rl_loadS (v := (Value.bool a1.serving)) rfl Try.isAgg4 (k8.cell rfl) rfl ?_
     refine RL.yes rfl rfl rfl hg22 ?_
     refine rl_bin rfl rfl (B.eqlB Try.underlying4) rfl ?_
     refine rl_pickT rfl hg22 rfl rfl ?_
     exact RL.nil ⟨Ext.bothEq (congrArg Value.bool hs21) (Ext.skip rfl (Ext.skip rfl (Ext.skip rfl (Ext.skip rfl (Ext.skip rfl (Ext.rfl')))))), cs⟩
    ·
     have hs21 := and_f hg22 hb24
     have cs : Ch nb w19 w19 := Ch.refl
     refine RL.no rfl rfl rfl hg22 rfl rfl ?_
     refine RL.no rfl rfl rfl hg22 rfl rfl ?_
     refine RL.no rfl rfl rfl hg22 rfl rfl ?_
     refine RL.no rfl rfl rfl hg22 rfl rfl ?_
     refine RL.no rfl rfl rfl hg22 rfl rfl ?_
     refine rl_pickF rfl hg22 rfl rfl ?_
     exact RL.nil ⟨Ext.bothEq (congrArg Value.bool hs21) (Ext.skip rfl (Ext.skip rfl (Ext.skip rfl (Ext.skip rfl (Ext.skip rfl (Ext.rfl')))))), cs⟩
  intro w25 c26
  have ah0_0 := slRep.ch kStr_pos ah0_0 c26
  have ah1_0 := slRep.ch kStr_pos ah1_0 c26
  have k4 := k4.ch0 c26
  have k8 := k8.ch0 c26
  have c0 := c0.then0 c26
  refine rl_move rfl rfl ?_
  obtain ⟨b29, hb30⟩ : ∃ v, (b23 && (a0.terminating == a1.terminating)) = v := ⟨_, rfl⟩
  have hS := ltS hb30 hS
  refine RL.join 6 37 (.bool b29) (fun w' => Ch nb w25 w') ?_ ?_
  · rcases Bool.eq_false_or_eq_true b23 with hg28 | hg28
    ·
     have hs27 := and_t hg28 hb30
     have cs : Ch nb w25 w25 := Ch.refl
     refine RL.yes rfl rfl rfl hg28 ?_
     refine rl_fieldAddr rfl fa58_4 rfl ?_
     refine RL.yes rfl rfl rfl hg28 ?_
     refine rl_loadS (v := (Value.bool a0.terminating)) rfl Try.isAgg4 (k4.cell rfl) rfl ?_
     refine RL.yes rfl rfl rfl hg28 ?_
     refine rl_fieldAddr rfl fa58_4 rfl ?_
     refine RL.yes rfl rfl rfl hg28 ?_
     refine rl_loadS (v := (Value.bool a1.terminating)) rfl Try.isAgg4 (k8.cell rfl) rfl ?_
     refine RL.yes rfl rfl rfl hg28 ?_
     refine rl_bin rfl rfl (B.eqlB Try.underlying4) rfl ?_
     refine rl_pickT rfl hg28 rfl rfl ?_
     exact RL.nil ⟨Ext.bothEq (congrArg Value.bool hs27) (Ext.skip rfl (Ext.skip rfl (Ext.skip rfl (Ext.skip rfl (Ext.skip rfl (Ext.rfl')))))), cs⟩
    ·
     have hs27 := and_f hg28 hb30
     have cs : Ch nb w25 w25 := Ch.refl
     refine RL.no rfl rfl rfl hg28 rfl rfl ?_
     refine RL.no rfl rfl rfl hg28 rfl rfl ?_
     refine RL.no rfl rfl rfl hg28 rfl rfl ?_
     refine RL.no rfl rfl rfl hg28 rfl rfl ?_
     refine RL.no rfl rfl rfl hg28 rfl rfl ?_
     refine rl_pickF rfl hg28 rfl rfl ?_
     exact RL.nil ⟨Ext.bothEq (congrArg Value.bool hs27) (Ext.skip rfl (Ext.skip rfl (Ext.skip rfl (Ext.skip rfl (Ext.skip rfl (Ext.rfl')))))), cs⟩
  intro w31 c32
  have ah0_0 := slRep.ch kStr_pos ah0_0 c32
  have ah1_0 := slRep.ch kStr_pos ah1_0 c32
  have k4 := k4.ch0 c32
  have k8 := k8.ch0 c32
  have c0 := c0.then0 c32
  refine rl_move rfl rfl ?_
  obtain ⟨b35, hb36, hS⟩ := bindS hS
  refine RL.join 6 44 (.bool b35) (fun w' => Ch nb w31 w') ?_ ?_
  · rcases Bool.eq_false_or_eq_true b29 with hg34 | hg34
    ·
     have hs33 := andO_t hg34 hb36
     have cs : Ch nb w31 w31 := Ch.refl
     refine RL.yes rfl rfl rfl hg34 ?_
     refine rl_fieldAddr rfl fa58_5 rfl ?_
     refine RL.yes rfl rfl rfl hg34 ?_
     refine rl_loadS (v := az0_0) rfl Try.isAgg42 (k4.cell rfl) rfl ?_
     refine RL.yes rfl rfl rfl hg34 ?_
     refine rl_fieldAddr rfl fa58_5 rfl ?_
     refine RL.yes rfl rfl rfl hg34 ?_
     refine rl_loadS (v := az1_0) rfl Try.isAgg42 (k8.cell rfl) rfl ?_
     refine RL.yes rfl rfl rfl hg34 ?_
     obtain ⟨y40, hy41, hs33⟩ := bindS hs33
     refine rl_callF rfl en40 rfl (ctr40 (G F w.heap.size nb) w31 a0.zones az0_0 ah0_0 a1.zones az1_0 ah1_0 y40 hy41) ?_
     rintro _ w38 ⟨rfl, c39⟩
     have ah0_0 := slRep.ch kStr_pos ah0_0 c39
     have ah1_0 := slRep.ch kStr_pos ah1_0 c39
     have k4 := k4.ch0 c39
     have k8 := k8.ch0 c39
     have c0 := c0.then0 c39
     refine rl_pickT rfl hg34 rfl rfl ?_
     have cs := cs.then0 c39
     exact RL.nil ⟨Ext.bothEq (congrArg Value.bool (Option.some.inj hs33)) (Ext.skip rfl (Ext.skip rfl (Ext.skip rfl (Ext.skip rfl (Ext.skip rfl (Ext.rfl')))))), cs⟩
    ·
     have hs33 := andO_f hg34 hb36
     have cs : Ch nb w31 w31 := Ch.refl
     refine RL.no rfl rfl rfl hg34 rfl rfl ?_
     refine RL.no rfl rfl rfl hg34 rfl rfl ?_
     refine RL.no rfl rfl rfl hg34 rfl rfl ?_
     refine RL.no rfl rfl rfl hg34 rfl rfl ?_
     refine RL.no rfl rfl rfl hg34 rfl rfl ?_
     refine rl_pickF rfl hg34 rfl rfl ?_
     exact RL.nil ⟨Ext.bothEq (congrArg Value.bool (Option.some.inj hs33)) (Ext.skip rfl (Ext.skip rfl (Ext.skip rfl (Ext.skip rfl (Ext.skip rfl (Ext.rfl')))))), cs⟩
  intro w37 c42
  have ah0_0 := slRep.ch kStr_pos ah0_0 c42
  have ah1_0 := slRep.ch kStr_pos ah1_0 c42
  have k4 := k4.ch0 c42
  have k8 := k8.ch0 c42
  have c0 := c0.then0 c42
  refine rl_assign rfl rfl ?_
  refine RL.nil ?_
  refine thn_n ?_
  refine CW.ret ?_
  obtain rfl := Option.some.inj hS
  exact ret1 rfl ⟨rfl, c0⟩
/-- lb/lbref18.All -/
theorem ctr10 (F : Nat → Prop) (w : World) (a0 : (List Candidate)) (av0 : Value) (ah0 : slRep k_Candidate F w a0 av0) (a1 : (List Candidate)) (av1 : Value) (ah1 : slRep k_Candidate F w a1 av1) (r : Bool) (hs : F10_linkboyref18_All a0 a1 = some r) :
    Ret Try.prog 10 #[av0, av1] w fun v w' => v = (Value.bool r) ∧ Ch nb w w' := by
  have hS := hs
  have c0 : Ch nb w w := Ch.refl
  have ah0 := slRep.enter k_Candidate_pos ah0
  have ah1 := slRep.enter k_Candidate_pos ah1
  refine Ret.of (n := 27) (args := [_, _]) (rs := [.tmp 4]) Try.func10 rfl rfl rfl rfl ?_
  refine CW.seq (CW.region ?_)
  refine rl_assign rfl rfl ?_
  refine RL.nil ?_
  refine thn_n ?_
  refine CW.seq ?_
  refine CW.seq (CW.region ?_)
  refine rl_move rfl rfl ?_
  refine rl_lenR rfl ah0 Try.underlying28 rfl ?_
  refine rl_move rfl rfl ?_
  refine rl_lenR rfl ah1 Try.underlying28 rfl ?_
  refine rl_bin rfl rfl B.neq rfl ?_
  refine RL.nil ?_
  refine thn_n ?_
  refine CW.cond (t := !decide (((a0.length : Nat) : Int) = ((a1.length : Nat) : Int))) rfl (fun q1 => ?_) (fun q1 => ?_)
  ·
   have hS := ifT q1 hS
   refine CW.seq (CW.region ?_)
   refine rl_assign rfl rfl ?_
   refine RL.nil ?_
   refine thn_n ?_
   refine CW.ret ?_
   refine thn_ret ?_
   obtain rfl := Option.some.inj hS
   exact ret1 rfl ⟨rfl, c0⟩
  ·
   have hS := ifF q1 hS
   refine CW.skip ?_
   refine thn_n ?_
   refine CW.seq ?_
   refine CW.seq (CW.region ?_)
   refine rl_move rfl rfl ?_
   refine rl_lenR rfl ah0 Try.underlying28 rfl ?_
   refine rl_move rfl rfl ?_
   refine RL.nil ?_
   refine thn_n ?_
   obtain ⟨o9, ho10, hS⟩ := bindS hS
   refine CW.cutB (fun E' w' => ∃ (ix16 : Nat), Sub [] E' ∧ Ch nb w w' ∧ Lp.fin ix16 = o9 ∧ slRep k_Candidate (G F w.heap.size nb) w' a0 av0 ∧ slRep k_Candidate (G F w.heap.size nb) w' a1 av1) ?_ ?_
   ·
    refine CW.loopS [(0, av0), (1, av1), (12, (Value.int .i64 ((a0.length : Nat) : Int))), (13, (Value.int .i64 ((0 : Nat) : Int)))] ⟨rfl, rfl, rfl, rfl, trivial⟩ a0.length (fun m E w' => ∃ (rest2 : List Candidate) (i3 : Nat) , m = rest2.length ∧ E = [(0, av0), (1, av1), (12, (Value.int .i64 ((a0.length : Nat) : Int))), (13, (Value.int .i64 ((i3 : Nat) : Int)))] ∧ Ch nb w w' ∧ At a0 i3 rest2 ∧ runBO (F10_linkboyref18_All_b1 a1) rest2 i3 = some o9 ∧ slRep k_Candidate (G F w.heap.size nb) w' a0 av0 ∧ slRep k_Candidate (G F w.heap.size nb) w' a1 av1)
        ⟨a0, 0, rfl, rfl, c0, At.start, ho10, ah0, ah1⟩ ?_
    rintro _ _ w15 ⟨rest2, i3, rfl, rfl, c14, hat5, hL4, ah0, ah1⟩
    refine CW.seq (CW.region ?_)
    refine rl_bin rfl rfl B.lss rfl ?_
    refine RL.nil (thn_n ?_)
    refine CW.seq ?_
    refine CW.cond (t := decide (((i3 : Nat) : Int) < ((a0.length : Nat) : Int))) rfl (fun q17 => ?_) (fun q17 => ?_)
    ·
     obtain ⟨x11, rest18, rfl⟩ := hat5.cons q17
     obtain ⟨q6, hq7⟩ := runBO_some hL4
     have hb8 := hq7
     refine CW.skip (thn_n ?_)
     refine CW.seq ?_
     refine CW.block ?_
     refine CW.seq (CW.region ?_)
     refine rl_move rfl rfl ?_
     refine rl_assign rfl rfl ?_
     refine RL.nil ?_
     refine thn_n ?_
     refine CW.seq ?_
     obtain ⟨y33, hy34, hb8⟩ := bindS hb8
     obtain ⟨y39, hy40, hb8⟩ := bindS hb8
     refine CW.draw 8 [(false, fun O uu wx => uu = av0), (false, fun O uu wx => uu = (Value.int .i64 ((i3 : Nat) : Int))), (false, fun O uu wx => ∃ (p19 : Nat) (o20 : Nat) (z25 : Value), uu = (Value.pointer (some ⟨p19, o20, none⟩)) ∧ slRep kStr (G F w.heap.size nb) wx x11.zones z25 ∧ (G F w.heap.size nb) p19 ∧ Seg wx p19 o20 (Candidate.c x11 z25)), (false, fun O uu wx => ∃ (z25_3 : Value), uu = (Value.agg (Candidate.c x11 z25_3).toArray) ∧ slRep kStr (G F w.heap.size nb) wx x11.zones z25_3), (false, fun O uu wx => uu = av1), (false, fun O uu wx => uu = (Value.int .i64 ((i3 : Nat) : Int))), (false, fun O uu wx => ∃ (p27 : Nat) (o28 : Nat) (z35 : Value), uu = (Value.pointer (some ⟨p27, o28, none⟩)) ∧ slRep kStr (G F w.heap.size nb) wx y33.zones z35 ∧ (G F w.heap.size nb) p27 ∧ Seg wx p27 o28 (Candidate.c y33 z35)), (false, fun O uu wx => ∃ (z35_7 : Value), uu = (Value.agg (Candidate.c y33 z35_7).toArray) ∧ slRep kStr (G F w.heap.size nb) wx y33.zones z35_7)] [[], [], [0, 1], [2], [], [], [4, 5], [6]] [3, 7] mixed rfl rfl rfl rfl ?_ ?_
     ·
      refine Each.consA ⟨fun _ _ _ _ _ h => h, fun h => absurd rfl h, fun O wk hO ck => ?_⟩ ?_
      ·
       have ah0 := slRep.ch k_Candidate_pos ah0 ck
       have ah1 := slRep.ch k_Candidate_pos ah1 ck
       have c14 := c14.then0 ck
       refine rl_move rfl rfl ?_
       exact RL.nil ⟨_, rfl, Ch.refl, rfl⟩
      refine Each.consA ⟨fun _ _ _ _ _ h => h, fun h => absurd rfl h, fun O wk hO ck => ?_⟩ ?_
      ·
       have ah0 := slRep.ch k_Candidate_pos ah0 ck
       have ah1 := slRep.ch k_Candidate_pos ah1 ck
       have c14 := c14.then0 ck
       refine rl_move rfl rfl ?_
       exact RL.nil ⟨_, rfl, Ch.refl, rfl⟩
      refine Each.consA ⟨fun _ _ _ _ cc hh => by obtain ⟨p19, o20, z25, e, h26, hg24, hs23⟩ := hh; exact ⟨p19, o20, z25, e, slRep.ch kStr_pos h26 cc, hg24, hs23.ch0 cc⟩, fun h => absurd rfl h, fun O wk hO ck => ?_⟩ ?_
      ·
       have ah0 := slRep.ch k_Candidate_pos ah0 ck
       have ah1 := slRep.ch k_Candidate_pos ah1 ck
       have c14 := c14.then0 ck
       refine Need.one rfl rfl ?_
       rintro _ e41
       obtain rfl := e41.symm
       refine Need.one rfl rfl ?_
       rintro _ e42
       obtain rfl := e42.symm
       refine rl_ixR rfl ah0 rfl hat5.get Try.underlying28 Try.sizeOf58 rfl ?_
       intro p43 o44 cs45 hr46 hs47 hg48
       obtain ⟨z49, rfl, h50⟩ := hr46
       exact RL.nil ⟨_, rfl, Ch.refl, ⟨p43, o44, z49, rfl, h50, hg48, hs47⟩⟩
      refine Each.consA ⟨fun _ _ _ _ cc hh => by obtain ⟨z25_3, e, h26_3⟩ := hh; exact ⟨z25_3, e, slRep.ch kStr_pos h26_3 cc⟩, fun h => absurd rfl h, fun O wk hO ck => ?_⟩ ?_
      ·
       have ah0 := slRep.ch k_Candidate_pos ah0 ck
       have ah1 := slRep.ch k_Candidate_pos ah1 ck
       have c14 := c14.then0 ck
       refine Need.one rfl rfl ?_
       rintro _ ⟨p19, o20, z25, e51, h26, hg24, hs23⟩
       obtain rfl := e51.symm
       refine rl_loadA (cs := (Candidate.c x11 z25)) rfl Try.isAgg58 Try.sizeOf58 (hs23) rfl rfl ?_
       exact RL.nil ⟨_, rfl, Ch.refl, ⟨z25, rfl, h26⟩⟩
      refine Each.consA ⟨fun _ _ _ _ _ h => h, fun h => absurd rfl h, fun O wk hO ck => ?_⟩ ?_
      ·
       have ah0 := slRep.ch k_Candidate_pos ah0 ck
       have ah1 := slRep.ch k_Candidate_pos ah1 ck
       have c14 := c14.then0 ck
       refine rl_move rfl rfl ?_
       exact RL.nil ⟨_, rfl, Ch.refl, rfl⟩
      refine Each.consA ⟨fun _ _ _ _ _ h => h, fun h => absurd rfl h, fun O wk hO ck => ?_⟩ ?_
      ·
       have ah0 := slRep.ch k_Candidate_pos ah0 ck
       have ah1 := slRep.ch k_Candidate_pos ah1 ck
       have c14 := c14.then0 ck
       refine rl_move rfl rfl ?_
       exact RL.nil ⟨_, rfl, Ch.refl, rfl⟩
      refine Each.consA ⟨fun _ _ _ _ cc hh => by obtain ⟨p27, o28, z35, e, h36, hg32, hs31⟩ := hh; exact ⟨p27, o28, z35, e, slRep.ch kStr_pos h36 cc, hg32, hs31.ch0 cc⟩, fun h => absurd rfl h, fun O wk hO ck => ?_⟩ ?_
      ·
       have ah0 := slRep.ch k_Candidate_pos ah0 ck
       have ah1 := slRep.ch k_Candidate_pos ah1 ck
       have c14 := c14.then0 ck
       refine Need.one rfl rfl ?_
       rintro _ e52
       obtain rfl := e52.symm
       refine Need.one rfl rfl ?_
       rintro _ e53
       obtain rfl := e53.symm
       refine rl_ixR rfl ah1 rfl (ixO_nat hy34) Try.underlying28 Try.sizeOf58 rfl ?_
       intro p54 o55 cs56 hr57 hs58 hg59
       obtain ⟨z60, rfl, h61⟩ := hr57
       exact RL.nil ⟨_, rfl, Ch.refl, ⟨p54, o55, z60, rfl, h61, hg59, hs58⟩⟩
      refine Each.consA ⟨fun _ _ _ _ cc hh => by obtain ⟨z35_7, e, h36_7⟩ := hh; exact ⟨z35_7, e, slRep.ch kStr_pos h36_7 cc⟩, fun h => absurd rfl h, fun O wk hO ck => ?_⟩ ?_
      ·
       have ah0 := slRep.ch k_Candidate_pos ah0 ck
       have ah1 := slRep.ch k_Candidate_pos ah1 ck
       have c14 := c14.then0 ck
       refine Need.one rfl rfl ?_
       rintro _ ⟨p27, o28, z35, e62, h36, hg32, hs31⟩
       obtain rfl := e62.symm
       refine rl_loadA (cs := (Candidate.c y33 z35)) rfl Try.isAgg58 Try.sizeOf58 (hs31) rfl rfl ?_
       exact RL.nil ⟨_, rfl, Ch.refl, ⟨z35, rfl, h36⟩⟩
      trivial
     ·
      intro O65 w63 hO66 c64
      have ah0 := slRep.ch k_Candidate_pos ah0 c64
      have ah1 := slRep.ch k_Candidate_pos ah1 c64
      have c14 := c14.then0 c64
      refine Need.one rfl rfl ?_
      rintro _ ⟨z25_3, e67, h26_3⟩
      obtain rfl := e67.symm
      refine Need.one rfl rfl ?_
      rintro _ ⟨z35_7, e68, h36_7⟩
      obtain rfl := e68.symm
      refine rl_callF rfl en24 rfl (ctr24 (G F w.heap.size nb) w63 x11 z25_3 h26_3 y33 z35_7 h36_7 y39 hy40) ?_
      rintro _ w69 ⟨rfl, c70⟩
      have ah0 := slRep.ch k_Candidate_pos ah0 c70
      have ah1 := slRep.ch k_Candidate_pos ah1 c70
      have h26_3 := slRep.ch kStr_pos h26_3 c70
      have h36_7 := slRep.ch kStr_pos h36_7 c70
      have c14 := c14.then0 c70
      refine rl_not rfl rfl ?_
      refine RL.nil ?_
      refine thn_n ?_
      refine CW.cond (t := !y39) rfl (fun q71 => ?_) (fun q71 => ?_)
      ·
       have hb8 := ifT q71 hb8
       refine CW.seq (CW.region ?_)
       refine rl_assign rfl rfl ?_
       refine RL.nil ?_
       refine thn_n ?_
       refine CW.ret ?_
       refine inB_ret ?_
       refine thn_ret ?_
       refine thn_ret (inB_ret (thn_ret ?_))
       refine thn_ret ?_
       have f72 := runBO_ret hL4 hq7 hb8
       have hS := retS f72 hS
       obtain rfl := Option.some.inj hS
       exact ret1 rfl ⟨rfl, c14⟩
      ·
       have hb8 := ifF q71 hb8
       refine CW.skip ?_
       refine inB_n ?_
       refine thn_n ?_
       refine CW.region ?_
       refine rl_inc rfl hat5.lt ah0.big rfl ?_
       refine rl_move rfl rfl ?_
       refine RL.nil ?_
       refine thn_n ?_
       have hLn := runBO_next hL4 hq7 hb8
       exact ⟨rest18.length, Nat.lt_succ_self _, [(0, av0), (1, av1), (12, (Value.int .i64 ((a0.length : Nat) : Int))), (13, (Value.int .i64 ((i3 + 1 : Nat) : Int)))], ⟨rfl, rfl, rfl, rfl, trivial⟩, ⟨rest18, i3 + 1, rfl, rfl, c14, hat5.next, hLn, ah0, ah1⟩⟩
    ·
     obtain rfl := hat5.nil q17
     have hLf : Lp.fin i3 = o9 := runBO_done hL4
     refine CW.exit (thn_exit (thn_exit (inB_hit ?_)))
     exact ⟨i3, trivial, c14, hLf, ah0, ah1⟩
   ·
    rintro _ w74 ⟨ix16, hE75, c73, f76, ah0, ah1⟩
    have hS := finS f76 hS
    refine thn_n (CW.sub [] hE75 ?_)
    refine CW.seq (CW.region ?_)
    refine rl_assign rfl rfl ?_
    refine RL.nil ?_
    refine thn_n ?_
    refine CW.ret ?_
    obtain rfl := Option.some.inj hS
    exact ret1 rfl ⟨rfl, c73⟩
/-- lb/pick.local -/
theorem ctr28 (F : Nat → Prop) (w : World) (a0 : Candidate) (az0_0 : Value) (ah0_0 : slRep kStr F w a0.zones az0_0) (r : Bool) (hs : F28_pick_local a0 = r) :
    Ret Try.prog 28 #[(Value.agg (Candidate.c a0 az0_0).toArray)] w fun v w' => v = (Value.bool r) ∧ Ch nb w w' := by
  have hS := hs
  have c0 : Ch nb w w := Ch.refl
  have ah0_0 := slRep.enter kStr_pos ah0_0
  refine Ret.of (n := 5) (args := [_]) (rs := [.tmp 2]) Try.func28 rfl rfl rfl rfl ?_
  refine CW.seq (CW.region ?_)
  refine rl_boxA (cs := (Candidate.c a0 az0_0)) rfl rfl ?_
  intro p1 w2 n3 k4
  have gp1 : (G F w.heap.size nb) p1 := ⟨.inr (by rw [n3.eq]; exact c0.size), fun h => absurd (nbS _ h) (by rw [n3.eq]; exact Nat.lt_irrefl _)⟩
  have ah0_0 := slRep.ch kStr_pos ah0_0 n3.ch
  have c0 := c0.then0 n3.ch
  refine rl_assign rfl rfl ?_
  refine RL.nil ?_
  refine thn_n ?_
  refine CW.seq (CW.region ?_)
  refine rl_fieldAddr rfl fa44_1 rfl ?_
  refine rl_loadS (v := (Value.bool a0.localF)) rfl Try.isAgg4 (k4.cell rfl) rfl ?_
  refine rl_assign rfl rfl ?_
  refine RL.nil ?_
  refine thn_n ?_
  refine CW.ret ?_
  obtain rfl := hS
  exact ret1 rfl ⟨rfl, c0⟩
/-- slices.ContainsFunc[[]lb/hints.Candidate,lb/hints.Candidate] -/
theorem ctr29 (F : Nat → Prop) (w : World) (a0 : (List Candidate)) (av0 : Value) (ah0 : slRep k_Candidate F w a0 av0) (a1 : (Candidate → Bool)) (av1 : Value) (ah1 : (Kd.fn1 Try.prog true k_Candidate Value.bool).rep F w a1 [av1]) (r : Bool) (hs : F29_slices_ContainsFunc_hints_Candidate_hint a0 a1 = r) :
    Ret Try.prog 29 #[av0, av1] w fun v w' => v = (Value.bool r) ∧ Ch nb w w' := by
  have hS := hs
  have c0 : Ch nb w w := Ch.refl
  have ah0 := slRep.enter k_Candidate_pos ah0
  have ah1 := Kd.enter ah1
  refine Ret.of (n := 9) (args := [_, _]) (rs := [.tmp 4]) Try.func29 rfl rfl rfl rfl ?_
  refine CW.seq (CW.region ?_)
  refine rl_assign rfl rfl ?_
  refine RL.nil ?_
  refine thn_n ?_
  refine CW.seq (CW.region ?_)
  refine rl_move rfl rfl ?_
  refine rl_move rfl rfl ?_
  obtain ⟨y3, hy4⟩ : ∃ y, F44_slices_IndexFunc_hints_Candidate_hints_C a0 a1 = y := ⟨_, rfl⟩
  have hS := ltS hy4 hS
  refine rl_callF rfl en44 rfl (ctr44 (G F w.heap.size nb) w a0 av0 ah0 a1 av1 ah1 y3 hy4) ?_
  rintro _ w1 ⟨rfl, c2⟩
  have ah0 := slRep.ch k_Candidate_pos ah0 c2
  have ah1 := Kd.ch ah1 c2
  have c0 := c0.then0 c2
  refine rl_bin rfl rfl B.geq rfl ?_
  refine rl_assign rfl rfl ?_
  refine RL.nil ?_
  refine thn_n ?_
  refine CW.ret ?_
  obtain rfl := hS
  exact ret1 rfl ⟨rfl, c0⟩
/-- lb/hints.kept$1 -/
theorem ctr62 (F : Nat → Prop) (w : World) (a0 : Candidate) (az0_0 : Value) (ah0_0 : slRep kStr F w a0.zones az0_0) (a1 : (Candidate → Bool)) (av1 : Value) (ah1 : ((Kd.fn1 Try.prog true k_Candidate Value.bool).box 61).rep F w a1 [av1]) (r : Bool) (hs : F62_hints_kept_1 a0 a1 = r) :
    Ret Try.prog 62 #[(Value.agg (Candidate.c a0 az0_0).toArray), av1] w fun v w' => v = (Value.bool r) ∧ Ch nb w w' := by
  have hS := hs
  have c0 : Ch nb w w := Ch.refl
  have ah0_0 := slRep.enter kStr_pos ah0_0
  have ah1 := Kd.enter ah1
  refine Ret.of (n := 8) (args := [_, _]) (rs := [.tmp 3]) Try.func62 rfl rfl rfl rfl ?_
  refine CW.seq (CW.region ?_)
  refine rl_boxA (cs := (Candidate.c a0 az0_0)) rfl rfl ?_
  intro p1 w2 n3 k4
  have gp1 : (G F w.heap.size nb) p1 := ⟨.inr (by rw [n3.eq]; exact c0.size), fun h => absurd (nbS _ h) (by rw [n3.eq]; exact Nat.lt_irrefl _)⟩
  have ah0_0 := slRep.ch kStr_pos ah0_0 n3.ch
  have ah1 := Kd.ch ah1 n3.ch
  have c0 := c0.then0 n3.ch
  refine rl_assign rfl rfl ?_
  refine RL.nil ?_
  refine thn_n ?_
  refine CW.seq (CW.region ?_)
  obtain ⟨p5, cc6, e7, gf8, k9, h10⟩ := ah1
  obtain rfl := (List.cons.inj e7).1
  obtain ⟨u11, rfl⟩ : ∃ u, cc6 = [u] := List.length_eq_one_iff.1 (Kd.len _ h10)
  refine rl_loadS (v := u11) rfl Try.isAgg61 (k9.cell rfl) rfl ?_
  refine rl_loadA (cs := (Candidate.c a0 az0_0)) rfl Try.isAgg44 Try.sizeOf44 (k4.segAt 0 23) rfl rfl ?_
  refine rl_fn1 (c := (Candidate.c a0 az0_0)) rfl rfl rfl h10 (F' := (G F w.heap.size nb)) (xx := a0) (show k_Candidate.rep (G F w.heap.size nb) w2 a0 (Candidate.c a0 az0_0) from ⟨az0_0, rfl, ah0_0⟩) rfl ?_
  intro w12 c13
  have ah0_0 := slRep.ch kStr_pos ah0_0 c13
  have k4 := k4.ch0 c13
  have h10 := Kd.ch h10 c13
  have k9 := k9.ch0 c13
  have c0 := c0.then0 c13
  refine rl_not rfl rfl ?_
  refine rl_assign rfl rfl ?_
  refine RL.nil ?_
  refine thn_n ?_
  refine CW.ret ?_
  obtain rfl := hS
  exact ret1 rfl ⟨rfl, c0⟩
/-- lb/hints.kept -/
theorem ctr47 (F : Nat → Prop) (w : World) (a0 : (List Candidate)) (av0 : Value) (ah0 : slRep k_Candidate F w a0 av0) (a1 : (Candidate → Bool)) (av1 : Value) (ah1 : (Kd.fn1 Try.prog true k_Candidate Value.bool).rep F w a1 [av1]) (r : (List Candidate)) (hs : F47_hints_kept a0 a1 = some r) :
    Ret Try.prog 47 #[av0, av1] w fun v w' => ∃ y0 : Value, v = y0 ∧ SlO k_Candidate 44 F w.heap.size (inBlk y0) w' r y0 ∧ Ch nb w w' := by
  have hS := hs
  have c0 : Ch nb w w := Ch.refl
  have ah0 := slRep.enter k_Candidate_pos ah0
  have ah1 := Kd.enter ah1
  refine Ret.of (n := 9) (args := [_, _]) (rs := [.tmp 4]) Try.func47 rfl rfl rfl rfl ?_
  refine CW.seq (CW.region ?_)
  refine rl_box [av1] rfl (fn_cells1 ah1) rfl ?_
  intro p1 w2 n3 k4
  have gp1 : (G F w.heap.size nb) p1 := ⟨.inr (by rw [n3.eq]; exact c0.size), fun h => absurd (nbS _ h) (by rw [n3.eq]; exact Nat.lt_irrefl _)⟩
  have ah0 := slRep.ch k_Candidate_pos ah0 n3.ch
  have ah1 := Kd.ch ah1 n3.ch
  have c0 := c0.then0 n3.ch
  refine rl_assign rfl rfl ?_
  refine RL.nil ?_
  refine thn_n ?_
  refine CW.seq (CW.region ?_)
  refine rl_move rfl rfl ?_
  obtain ⟨y7, hy8, hS⟩ := bindS hS
  refine rl_callF rfl en42 rfl (ctr42 (G F w.heap.size nb) w2 a0 av0 ah0 y7 hy8) ?_
  rintro v9 w5 ⟨_, rfl, h10, c6⟩
  have hf11 : ∀ b, inBlk v9 b → w2.heap.size ≤ b := fun b hb => (h10.lt b hb).1
  have h10 := SlO.back (S' := un (inBlk v9) nb) h10 nbS c0.size (fun _ => Or.comm)
  have ah0 := slRep.st k_Candidate_pos ah0 c6 (admNew hf11 (fun _ x => x))
  have ah1 := Kd.st ah1 c6 (admNew hf11 (fun _ x => x))
  have gp1n : (G F w.heap.size (un (inBlk v9) nb)) p1 := ⟨gp1.1, ((admNew hf11 (fun _ x => x)) _ k4.lt gp1.2).2⟩
  have k4 := k4.ch0 c6
  have gp1 := gp1n
  have c0 := c0.then0 c6
  refine rl_makeFunc rfl rfl ?_
  have hd12 : ∀ b, inBlk v9 b → ¬ nb b := (fun b hb => fun h => h)
  have hS13 : (un (inBlk v9) nb) = un (inBlk v9) nb := funext fun _ => propext Iff.rfl
  have ha14 := (show (Kd.fn1 Try.prog true k_Candidate Value.bool).rep (G F w.heap.size (un (inBlk v9) nb)) w5 (fun x0 => F62_hints_kept_1 x0 a1) [(Value.func (.func 62) #[] [(Value.pointer (some ⟨p1, 0, none⟩))].toArray)] from ⟨62, [(Value.pointer (some ⟨p1, 0, none⟩))], rfl, en62, fun w' hw F' x0 c0 hx0 => by
      obtain ⟨u0_0, rfl, e0_0⟩ := hx0
      exact (ctr62 (fun b => (G F w.heap.size (un (inBlk v9) nb)) b ∨ F' b) w' x0 u0_0 (slRep.wk kStr_pos e0_0 fun _ _ h => .inr h) a1 (Value.pointer (some ⟨p1, 0, none⟩)) (Kd.mono _ (show ((Kd.fn1 Try.prog true k_Candidate Value.bool).box 61).rep (G F w.heap.size (un (inBlk v9) nb)) w5 a1 [(Value.pointer (some ⟨p1, 0, none⟩))] from ⟨p1, _, rfl, gp1, k4, ah1⟩) fun b hb hf => ⟨.inl hf, (hw b hb hf).2⟩) _ rfl).mono (by rintro v w'' ⟨rfl, c⟩; exact ⟨rfl, c⟩)⟩)
  rw [hS13] at ha14
  obtain ⟨y17, hy18, hS⟩ := bindS hS
  refine rl_callF rfl en41 rfl (ctr41 F w5 w.heap.size nb c0.size nbS v9 hd12 y7 (hS13 ▸ h10) (fun x0 => F62_hints_kept_1 x0 a1) (Value.func (.func 62) #[] [(Value.pointer (some ⟨p1, 0, none⟩))].toArray) ha14 y17 hy18) ?_
  rintro v19 w15 ⟨_, rfl, h20, hf21, c16⟩
  have ha22 : ∀ b, b < w5.heap.size → ¬ (un (inBlk v9) nb) b → ¬ inBlk v9 b ∧ ¬ (un (inBlk v19) nb) b := by rw [hS13]; exact admApp hf21
  have ah0 := slRep.st k_Candidate_pos ah0 c16 ha22
  have ah1 := Kd.st ah1 c16 ha22
  have gp1n : (G F w.heap.size (un (inBlk v19) nb)) p1 := ⟨gp1.1, (ha22 _ k4.lt gp1.2).2⟩
  have k4 := k4.ch c16 (ha22 _ k4.lt gp1.2).1
  have gp1 := gp1n
  have c0 := c0.then c16 (fun i hi h => absurd ((fun b hb => (h10.lt b hb).1) i h) (Nat.not_le_of_lt hi))
  refine rl_assign rfl rfl ?_
  refine RL.nil ?_
  refine thn_n ?_
  refine CW.ret ?_
  obtain rfl := Option.some.inj hS
  exact ret1 rfl ⟨v19, rfl, h20.out, c0⟩
/-- lb/hints.ready$1 -/
theorem ctr59 (F : Nat → Prop) (w : World) (a0 : Candidate) (az0_0 : Value) (ah0_0 : slRep kStr F w a0.zones az0_0) (r : Bool) (hs : F59_hints_ready_1 a0 = r) :
    Ret Try.prog 59 #[(Value.agg (Candidate.c a0 az0_0).toArray)] w fun v w' => v = (Value.bool r) ∧ Ch nb w w' := by
  have hS := hs
  have c0 : Ch nb w w := Ch.refl
  have ah0_0 := slRep.enter kStr_pos ah0_0
  refine Ret.of (n := 5) (args := [_]) (rs := [.tmp 2]) Try.func59 rfl rfl rfl rfl ?_
  refine CW.seq (CW.region ?_)
  refine rl_boxA (cs := (Candidate.c a0 az0_0)) rfl rfl ?_
  intro p1 w2 n3 k4
  have gp1 : (G F w.heap.size nb) p1 := ⟨.inr (by rw [n3.eq]; exact c0.size), fun h => absurd (nbS _ h) (by rw [n3.eq]; exact Nat.lt_irrefl _)⟩
  have ah0_0 := slRep.ch kStr_pos ah0_0 n3.ch
  have c0 := c0.then0 n3.ch
  refine rl_assign rfl rfl ?_
  refine RL.nil ?_
  refine thn_n ?_
  refine CW.seq (CW.region ?_)
  refine rl_fieldAddr rfl fa44_2 rfl ?_
  refine rl_loadS (v := (Value.bool a0.ready)) rfl Try.isAgg4 (k4.cell rfl) rfl ?_
  refine rl_assign rfl rfl ?_
  refine RL.nil ?_
  refine thn_n ?_
  refine CW.ret ?_
  obtain rfl := hS
  exact ret1 rfl ⟨rfl, c0⟩
/-- lb/hints.ready -/
theorem ctr45 (F : Nat → Prop) (w : World) (a0 : (List Candidate)) (av0 : Value) (ah0 : slRep k_Candidate F w a0 av0) (r : (List Candidate)) (hs : F45_hints_ready a0 = some r) :
    Ret Try.prog 45 #[av0] w fun v w' => ∃ y0 : Value, v = y0 ∧ SlO k_Candidate 44 F w.heap.size (inBlk y0) w' r y0 ∧ Ch nb w w' := by
  have hS := hs
  have c0 : Ch nb w w := Ch.refl
  have ah0 := slRep.enter k_Candidate_pos ah0
  refine Ret.of (n := 5) (args := [_]) (rs := [.tmp 2]) Try.func45 rfl rfl rfl rfl ?_
  refine CW.seq (CW.region ?_)
  refine rl_assign rfl rfl ?_
  refine RL.nil ?_
  refine thn_n ?_
  refine CW.seq (CW.region ?_)
  refine rl_move rfl rfl ?_
  obtain ⟨y3, hy4, hS⟩ := bindS hS
  refine rl_callF rfl en47 rfl (ctr47 (G F w.heap.size nb) w a0 av0 ah0 (fun x0 => F59_hints_ready_1 x0) (Value.func (.func 59) #[] [].toArray) (show (Kd.fn1 Try.prog true k_Candidate Value.bool).rep (G F w.heap.size nb) w (fun x0 => F59_hints_ready_1 x0) [(Value.func (.func 59) #[] [].toArray)] from ⟨59, [], rfl, en59, fun w' hw F' x0 c0 hx0 => by
      obtain ⟨u0_0, rfl, e0_0⟩ := hx0
      exact (ctr59 (fun b => (G F w.heap.size nb) b ∨ F' b) w' x0 u0_0 (slRep.wk kStr_pos e0_0 fun _ _ h => .inr h) _ rfl).mono (by rintro v w'' ⟨rfl, c⟩; exact ⟨rfl, c⟩)⟩) y3 hy4) ?_
  rintro v5 w1 ⟨_, rfl, h6, c2⟩
  have hf7 : ∀ b, inBlk v5 b → w.heap.size ≤ b := fun b hb => (h6.lt b hb).1
  have h6 := SlO.back (S' := un (inBlk v5) nb) h6 nbS c0.size (fun _ => Or.comm)
  have ah0 := slRep.st k_Candidate_pos ah0 c2 (admNew hf7 (fun _ x => x))
  have c0 := c0.then0 c2
  refine rl_assign rfl rfl ?_
  refine RL.nil ?_
  refine thn_n ?_
  refine CW.ret ?_
  obtain rfl := Option.some.inj hS
  exact ret1 rfl ⟨v5, rfl, h6.out, c0⟩
/-- lb/hints.Count$1 -/
theorem ctr60 (F : Nat → Prop) (w : World) (a0 : Candidate) (az0_0 : Value) (ah0_0 : slRep kStr F w a0.zones az0_0) (r : Bool) (hs : F60_hints_Count_1 a0 = r) :
    Ret Try.prog 60 #[(Value.agg (Candidate.c a0 az0_0).toArray)] w fun v w' => v = (Value.bool r) ∧ Ch nb w w' := by
  have hS := hs
  have c0 : Ch nb w w := Ch.refl
  have ah0_0 := slRep.enter kStr_pos ah0_0
  refine Ret.of (n := 7) (args := [_]) (rs := [.tmp 2]) Try.func60 rfl rfl rfl rfl ?_
  refine CW.seq (CW.region ?_)
  refine rl_boxA (cs := (Candidate.c a0 az0_0)) rfl rfl ?_
  intro p1 w2 n3 k4
  have gp1 : (G F w.heap.size nb) p1 := ⟨.inr (by rw [n3.eq]; exact c0.size), fun h => absurd (nbS _ h) (by rw [n3.eq]; exact Nat.lt_irrefl _)⟩
  have ah0_0 := slRep.ch kStr_pos ah0_0 n3.ch
  have c0 := c0.then0 n3.ch
  refine rl_assign rfl rfl ?_
  refine RL.nil ?_
  refine thn_n ?_
  refine CW.seq (CW.region ?_)
  refine rl_fieldAddr rfl fa44_5 rfl ?_
  refine rl_loadS (v := az0_0) rfl Try.isAgg42 (k4.cell rfl) rfl ?_
  refine rl_lenR rfl ah0_0 Try.underlying42 rfl ?_
  refine rl_bin rfl rfl B.eql rfl ?_
  refine rl_assign rfl rfl ?_
  refine RL.nil ?_
  refine thn_n ?_
  refine CW.ret ?_
  obtain rfl := hS
  exact ret1 rfl ⟨rfl, c0⟩
/-- slices.Index[[]string,string] -/
theorem ctr70 (F : Nat → Prop) (w : World) (a0 : (List ByteArray)) (av0 : Value) (ah0 : slRep kStr F w a0 av0) (a1 : ByteArray) (r : Int) (hs : F70_slices_Index_string_string a0 a1 = r) :
    Ret Try.prog 70 #[av0, (Value.string a1)] w fun v w' => v = (Value.int .i64 r) ∧ Ch nb w w' := by
  have hS := hs
  have c0 : Ch nb w w := Ch.refl
  have ah0 := slRep.enter kStr_pos ah0
  refine Ret.of (n := 19) (args := [_, _]) (rs := [.tmp 4]) Try.func70 rfl rfl rfl rfl ?_
  refine CW.seq (CW.region ?_)
  refine rl_assign rfl rfl ?_
  refine RL.nil ?_
  refine thn_n ?_
  refine CW.seq ?_
  refine CW.seq (CW.region ?_)
  refine rl_move rfl rfl ?_
  refine rl_lenR rfl ah0 Try.underlying42 rfl ?_
  refine rl_move rfl rfl ?_
  refine RL.nil ?_
  refine thn_n ?_
  obtain ⟨o8, ho9⟩ : ∃ o, runB (F70_slices_Index_string_string_b1 a1) a0 0 = o := ⟨_, rfl⟩
  have hS := ltS ho9 hS
  refine CW.cutB (fun E' w' => ∃ (ix15 : Nat), Sub [] E' ∧ Ch nb w w' ∧ Lp.fin ix15 = o8 ∧ slRep kStr (G F w.heap.size nb) w' a0 av0) ?_ ?_
  ·
   refine CW.loopS [(0, av0), (1, (Value.string a1)), (7, (Value.int .i64 ((a0.length : Nat) : Int))), (8, (Value.int .i64 ((0 : Nat) : Int)))] ⟨rfl, rfl, rfl, rfl, trivial⟩ a0.length (fun m E w' => ∃ (rest1 : List ByteArray) (i2 : Nat) , m = rest1.length ∧ E = [(0, av0), (1, (Value.string a1)), (7, (Value.int .i64 ((a0.length : Nat) : Int))), (8, (Value.int .i64 ((i2 : Nat) : Int)))] ∧ Ch nb w w' ∧ At a0 i2 rest1 ∧ runB (F70_slices_Index_string_string_b1 a1) rest1 i2 = o8 ∧ slRep kStr (G F w.heap.size nb) w' a0 av0)
       ⟨a0, 0, rfl, rfl, c0, At.start, ho9, ah0⟩ ?_
   rintro _ _ w14 ⟨rest1, i2, rfl, rfl, c13, hat4, hL3, ah0⟩
   refine CW.seq (CW.region ?_)
   refine rl_bin rfl rfl B.lss rfl ?_
   refine RL.nil (thn_n ?_)
   refine CW.seq ?_
   refine CW.cond (t := decide (((i2 : Nat) : Int) < ((a0.length : Nat) : Int))) rfl (fun q16 => ?_) (fun q16 => ?_)
   ·
    obtain ⟨x10, rest17, rfl⟩ := hat4.cons q16
    obtain ⟨q5, hq6⟩ : ∃ q, (F70_slices_Index_string_string_b1 a1) x10 i2 = q := ⟨_, rfl⟩
    have hb7 := hq6
    refine CW.skip (thn_n ?_)
    refine CW.seq ?_
    refine CW.block ?_
    refine CW.seq (CW.region ?_)
    refine rl_move rfl rfl ?_
    refine rl_assign rfl rfl ?_
    refine RL.nil ?_
    refine thn_n ?_
    refine CW.seq (CW.region ?_)
    refine rl_move rfl rfl ?_
    refine rl_move rfl rfl ?_
    refine rl_move rfl rfl ?_
    refine rl_ixR rfl ah0 rfl hat4.get Try.underlying42 Try.sizeOf9 rfl ?_
    intro p18 o19 cs20 hr21 hs22 hg23
    obtain rfl := hr21
    refine rl_loadS (v := (Value.string x10)) rfl Try.isAgg9 (hs22 0 _ rfl) rfl ?_
    refine rl_bin rfl rfl B.eqlS rfl ?_
    refine RL.nil ?_
    refine thn_n ?_
    refine CW.cond (t := decide (a1 = x10)) rfl (fun q24 => ?_) (fun q24 => ?_)
    ·
     have hb7 := ifT q24 hb7
     refine CW.seq (CW.region ?_)
     refine rl_move rfl rfl ?_
     refine rl_assign rfl rfl ?_
     refine RL.nil ?_
     refine thn_n ?_
     refine CW.ret ?_
     refine inB_ret ?_
     refine thn_ret ?_
     refine thn_ret (inB_ret (thn_ret ?_))
     refine thn_ret ?_
     have f25 := runB_ret hL3 (hb7.trans hq6.symm)
     have hS := retS f25 hS
     obtain rfl := hS
     exact ret1 rfl ⟨rfl, c13⟩
    ·
     have hb7 := ifF q24 hb7
     refine CW.skip ?_
     refine inB_n ?_
     refine thn_n ?_
     refine CW.region ?_
     refine rl_inc rfl hat4.lt ah0.big rfl ?_
     refine rl_move rfl rfl ?_
     refine RL.nil ?_
     refine thn_n ?_
     have hLn := runB_next hL3 (hb7.trans hq6.symm)
     exact ⟨rest17.length, Nat.lt_succ_self _, [(0, av0), (1, (Value.string a1)), (7, (Value.int .i64 ((a0.length : Nat) : Int))), (8, (Value.int .i64 ((i2 + 1 : Nat) : Int)))], ⟨rfl, rfl, rfl, rfl, trivial⟩, ⟨rest17, i2 + 1, rfl, rfl, c13, hat4.next, hLn, ah0⟩⟩
   ·
    obtain rfl := hat4.nil q16
    have hLf : Lp.fin i2 = o8 := hL3
    refine CW.exit (thn_exit (thn_exit (inB_hit ?_)))
    exact ⟨i2, trivial, c13, hLf, ah0⟩
  ·
   rintro _ w27 ⟨ix15, hE28, c26, f29, ah0⟩
   have hS := finS f29 hS
   refine thn_n (CW.sub [] hE28 ?_)
   refine CW.seq (CW.region ?_)
   refine rl_assign rfl rfl ?_
   refine RL.nil ?_
   refine thn_n ?_
   refine CW.ret ?_
   obtain rfl := hS
   exact ret1 rfl ⟨rfl, c26⟩
/-- slices.Contains[[]string,string] -/
theorem ctr63 (F : Nat → Prop) (w : World) (a0 : (List ByteArray)) (av0 : Value) (ah0 : slRep kStr F w a0 av0) (a1 : ByteArray) (r : Bool) (hs : F63_slices_Contains_string_string a0 a1 = r) :
    Ret Try.prog 63 #[av0, (Value.string a1)] w fun v w' => v = (Value.bool r) ∧ Ch nb w w' := by
  have hS := hs
  have c0 : Ch nb w w := Ch.refl
  have ah0 := slRep.enter kStr_pos ah0
  refine Ret.of (n := 9) (args := [_, _]) (rs := [.tmp 4]) Try.func63 rfl rfl rfl rfl ?_
  refine CW.seq (CW.region ?_)
  refine rl_assign rfl rfl ?_
  refine RL.nil ?_
  refine thn_n ?_
  refine CW.seq (CW.region ?_)
  refine rl_move rfl rfl ?_
  refine rl_move rfl rfl ?_
  obtain ⟨y3, hy4⟩ : ∃ y, F70_slices_Index_string_string a0 a1 = y := ⟨_, rfl⟩
  have hS := ltS hy4 hS
  refine rl_callF rfl en70 rfl (ctr70 (G F w.heap.size nb) w a0 av0 ah0 a1 y3 hy4) ?_
  rintro _ w1 ⟨rfl, c2⟩
  have ah0 := slRep.ch kStr_pos ah0 c2
  have c0 := c0.then0 c2
  refine rl_bin rfl rfl B.geq rfl ?_
  refine rl_assign rfl rfl ?_
  refine RL.nil ?_
  refine thn_n ?_
  refine CW.ret ?_
  obtain rfl := hS
  exact ret1 rfl ⟨rfl, c0⟩
/-- lb/hints.Meant -/
theorem ctr49 (F : Nat → Prop) (w : World) (a0 : Candidate) (az0_0 : Value) (ah0_0 : slRep kStr F w a0.zones az0_0) (a1 : ByteArray) (r : Bool) (hs : F49_hints_Meant a0 a1 = r) :
    Ret Try.prog 49 #[(Value.agg (Candidate.c a0 az0_0).toArray), (Value.string a1)] w fun v w' => v = (Value.bool r) ∧ Ch nb w w' := by
  have hS := hs
  have c0 : Ch nb w w := Ch.refl
  have ah0_0 := slRep.enter kStr_pos ah0_0
  refine Ret.of (n := 9) (args := [_, _]) (rs := [.tmp 4]) Try.func49 rfl rfl rfl rfl ?_
  refine CW.seq (CW.region ?_)
  refine rl_boxA (cs := (Candidate.c a0 az0_0)) rfl rfl ?_
  intro p1 w2 n3 k4
  have gp1 : (G F w.heap.size nb) p1 := ⟨.inr (by rw [n3.eq]; exact c0.size), fun h => absurd (nbS _ h) (by rw [n3.eq]; exact Nat.lt_irrefl _)⟩
  have ah0_0 := slRep.ch kStr_pos ah0_0 n3.ch
  have c0 := c0.then0 n3.ch
  refine rl_assign rfl rfl ?_
  refine RL.nil ?_
  refine thn_n ?_
  refine CW.seq (CW.region ?_)
  refine rl_fieldAddr rfl fa44_5 rfl ?_
  refine rl_loadS (v := az0_0) rfl Try.isAgg42 (k4.cell rfl) rfl ?_
  refine rl_move rfl rfl ?_
  obtain ⟨y7, hy8⟩ : ∃ y, F63_slices_Contains_string_string a0.zones a1 = y := ⟨_, rfl⟩
  have hS := ltS hy8 hS
  refine rl_callF rfl en63 rfl (ctr63 (G F w.heap.size nb) w2 a0.zones az0_0 ah0_0 a1 y7 hy8) ?_
  rintro _ w5 ⟨rfl, c6⟩
  have ah0_0 := slRep.ch kStr_pos ah0_0 c6
  have k4 := k4.ch0 c6
  have c0 := c0.then0 c6
  refine rl_assign rfl rfl ?_
  refine RL.nil ?_
  refine thn_n ?_
  refine CW.ret ?_
  obtain rfl := hS
  exact ret1 rfl ⟨rfl, c0⟩
/-- lb/hints.Count$2 -/
theorem ctr61 (F : Nat → Prop) (w : World) (a0 : Candidate) (az0_0 : Value) (ah0_0 : slRep kStr F w a0.zones az0_0) (a1 : ByteArray) (av1 : Value) (ah1 : (kStr.box 9).rep F w a1 [av1]) (r : Bool) (hs : F61_hints_Count_2 a0 a1 = r) :
    Ret Try.prog 61 #[(Value.agg (Candidate.c a0 az0_0).toArray), av1] w fun v w' => v = (Value.bool r) ∧ Ch nb w w' := by
  have hS := hs
  have c0 : Ch nb w w := Ch.refl
  have ah0_0 := slRep.enter kStr_pos ah0_0
  have ah1 := Kd.enter ah1
  refine Ret.of (n := 7) (args := [_, _]) (rs := [.tmp 3]) Try.func61 rfl rfl rfl rfl ?_
  refine CW.seq (CW.region ?_)
  refine rl_boxA (cs := (Candidate.c a0 az0_0)) rfl rfl ?_
  intro p1 w2 n3 k4
  have gp1 : (G F w.heap.size nb) p1 := ⟨.inr (by rw [n3.eq]; exact c0.size), fun h => absurd (nbS _ h) (by rw [n3.eq]; exact Nat.lt_irrefl _)⟩
  have ah0_0 := slRep.ch kStr_pos ah0_0 n3.ch
  have ah1 := Kd.ch ah1 n3.ch
  have c0 := c0.then0 n3.ch
  refine rl_assign rfl rfl ?_
  refine RL.nil ?_
  refine thn_n ?_
  refine CW.seq (CW.region ?_)
  refine rl_loadA (cs := (Candidate.c a0 az0_0)) rfl Try.isAgg44 Try.sizeOf44 (k4.segAt 0 23) rfl rfl ?_
  obtain ⟨p5, cc6, e7, gf8, k9, h10⟩ := ah1
  obtain rfl := (List.cons.inj e7).1
  obtain rfl := h10
  refine rl_loadS (v := (Value.string a1)) rfl Try.isAgg9 (k9.cell rfl) rfl ?_
  obtain ⟨y13, hy14⟩ : ∃ y, F49_hints_Meant a0 a1 = y := ⟨_, rfl⟩
  have hS := ltS hy14 hS
  refine rl_callF rfl en49 rfl (ctr49 (G F w.heap.size nb) w2 a0 az0_0 ah0_0 a1 y13 hy14) ?_
  rintro _ w11 ⟨rfl, c12⟩
  have ah0_0 := slRep.ch kStr_pos ah0_0 c12
  have k4 := k4.ch0 c12
  have k9 := k9.ch0 c12
  have c0 := c0.then0 c12
  refine rl_assign rfl rfl ?_
  refine RL.nil ?_
  refine thn_n ?_
  refine CW.ret ?_
  obtain rfl := hS
  exact ret1 rfl ⟨rfl, c0⟩
/-- lb/hints.Count -/
theorem ctr46 (F : Nat → Prop) (w : World) (a0 : (List Candidate)) (av0 : Value) (ah0 : slRep k_Candidate F w a0 av0) (a1 : ByteArray) (r : Bool) (hs : F46_hints_Count a0 a1 = some r) :
    Ret Try.prog 46 #[av0, (Value.string a1)] w fun v w' => v = (Value.bool r) ∧ Ch nb w w' := by
  have hS := hs
  have c0 : Ch nb w w := Ch.refl
  have ah0 := slRep.enter k_Candidate_pos ah0
  refine Ret.of (n := 22) (args := [_, _]) (rs := [.tmp 4]) Try.func46 rfl rfl rfl rfl ?_
  refine CW.seq (CW.region ?_)
  refine rl_box [(Value.string a1)] rfl rfl rfl ?_
  intro p1 w2 n3 k4
  have gp1 : (G F w.heap.size nb) p1 := ⟨.inr (by rw [n3.eq]; exact c0.size), fun h => absurd (nbS _ h) (by rw [n3.eq]; exact Nat.lt_irrefl _)⟩
  have ah0 := slRep.ch k_Candidate_pos ah0 n3.ch
  have c0 := c0.then0 n3.ch
  refine rl_assign rfl rfl ?_
  refine RL.nil ?_
  refine thn_n ?_
  refine CW.seq (CW.region ?_)
  refine rl_move rfl rfl ?_
  obtain ⟨y7, hy8, hS⟩ := bindS hS
  refine rl_callF rfl en45 rfl (ctr45 (G F w.heap.size nb) w2 a0 av0 ah0 y7 hy8) ?_
  rintro v9 w5 ⟨_, rfl, h10, c6⟩
  have h10 := SlO.backR k_Candidate_pos h10 nbS c0.size
  have ah0 := slRep.ch k_Candidate_pos ah0 c6
  have k4 := k4.ch0 c6
  have c0 := c0.then0 c6
  refine rl_assign rfl rfl ?_
  refine RL.nil ?_
  refine thn_n ?_
  refine CW.seq (CW.region ?_)
  refine rl_move rfl rfl ?_
  obtain ⟨y13, hy14⟩ : ∃ y, F29_slices_ContainsFunc_hints_Candidate_hint y7 (fun x0 => F60_hints_Count_1 x0) = y := ⟨_, rfl⟩
  have hS := ltS hy14 hS
  refine rl_callF rfl en29 rfl (ctr29 (G F w.heap.size nb) w5 y7 v9 h10 (fun x0 => F60_hints_Count_1 x0) (Value.func (.func 60) #[] [].toArray) (show (Kd.fn1 Try.prog true k_Candidate Value.bool).rep (G F w.heap.size nb) w5 (fun x0 => F60_hints_Count_1 x0) [(Value.func (.func 60) #[] [].toArray)] from ⟨60, [], rfl, en60, fun w' hw F' x0 c0 hx0 => by
      obtain ⟨u0_0, rfl, e0_0⟩ := hx0
      exact (ctr60 (fun b => (G F w.heap.size nb) b ∨ F' b) w' x0 u0_0 (slRep.wk kStr_pos e0_0 fun _ _ h => .inr h) _ rfl).mono (by rintro v w'' ⟨rfl, c⟩; exact ⟨rfl, c⟩)⟩) y13 hy14) ?_
  rintro _ w11 ⟨rfl, c12⟩
  have ah0 := slRep.ch k_Candidate_pos ah0 c12
  have k4 := k4.ch0 c12
  have h10 := slRep.ch k_Candidate_pos h10 c12
  have c0 := c0.then0 c12
  refine rl_assign rfl rfl ?_
  refine RL.nil ?_
  refine thn_n ?_
  refine CW.seq (CW.region ?_)
  refine rl_loadS (v := (Value.string a1)) rfl Try.isAgg9 (k4.cell rfl) rfl ?_
  refine rl_bin rfl rfl B.neqS rfl ?_
  refine rl_move rfl rfl ?_
  obtain ⟨b17, hb18⟩ : ∃ v, ((!decide (a1 = (⟨#[]⟩ : ByteArray))) && (!y13)) = v := ⟨_, rfl⟩
  have hS := ltS hb18 hS
  refine RL.join 3 16 (.bool b17) (fun w' => Ch nb w11 w') ?_ ?_
  · rcases Bool.eq_false_or_eq_true (!decide (a1 = (⟨#[]⟩ : ByteArray))) with hg16 | hg16
    ·
     have hs15 := and_t hg16 hb18
     have cs : Ch nb w11 w11 := Ch.refl
     refine RL.yes rfl rfl rfl hg16 ?_
     refine rl_move rfl rfl ?_
     refine RL.yes rfl rfl rfl hg16 ?_
     refine rl_not rfl rfl ?_
     refine rl_pickT rfl hg16 rfl rfl ?_
     exact RL.nil ⟨Ext.bothEq (congrArg Value.bool hs15) (Ext.skip rfl (Ext.skip rfl (Ext.rfl'))), cs⟩
    ·
     have hs15 := and_f hg16 hb18
     have cs : Ch nb w11 w11 := Ch.refl
     refine RL.no rfl rfl rfl hg16 rfl rfl ?_
     refine RL.no rfl rfl rfl hg16 rfl rfl ?_
     refine rl_pickF rfl hg16 rfl rfl ?_
     exact RL.nil ⟨Ext.bothEq (congrArg Value.bool hs15) (Ext.skip rfl (Ext.skip rfl (Ext.rfl'))), cs⟩
  intro w19 c20
  have ah0 := slRep.ch k_Candidate_pos ah0 c20
  have k4 := k4.ch0 c20
  have h10 := slRep.ch k_Candidate_pos h10 c20
  have c0 := c0.then0 c20
  refine rl_move rfl rfl ?_
  obtain ⟨b23, hb24⟩ : ∃ v, (b17 && (lt (F29_slices_ContainsFunc_hints_Candidate_hint y7 (fun x0 => F61_hints_Count_2 x0 a1)) fun y25 => y25)) = v := ⟨_, rfl⟩
  have hS := ltS hb24 hS
  refine RL.join 4 21 (.bool b23) (fun w' => Ch nb w19 w') ?_ ?_
  · rcases Bool.eq_false_or_eq_true b17 with hg22 | hg22
    ·
     have hs21 := and_t hg22 hb24
     have cs : Ch nb w19 w19 := Ch.refl
     refine RL.yes rfl rfl rfl hg22 ?_
     refine rl_move rfl rfl ?_
     refine RL.yes rfl rfl rfl hg22 ?_
     refine rl_makeFunc rfl rfl ?_
     refine RL.yes rfl rfl rfl hg22 ?_
     obtain ⟨y28, hy29⟩ : ∃ y, F29_slices_ContainsFunc_hints_Candidate_hint y7 (fun x0 => F61_hints_Count_2 x0 a1) = y := ⟨_, rfl⟩
     have hs21 := ltS hy29 hs21
     refine rl_callF rfl en29 rfl (ctr29 (G F w.heap.size nb) w19 y7 v9 h10 (fun x0 => F61_hints_Count_2 x0 a1) (Value.func (.func 61) #[] [(Value.pointer (some ⟨p1, 0, none⟩))].toArray) (show (Kd.fn1 Try.prog true k_Candidate Value.bool).rep (G F w.heap.size nb) w19 (fun x0 => F61_hints_Count_2 x0 a1) [(Value.func (.func 61) #[] [(Value.pointer (some ⟨p1, 0, none⟩))].toArray)] from ⟨61, [(Value.pointer (some ⟨p1, 0, none⟩))], rfl, en61, fun w' hw F' x0 c0 hx0 => by
         obtain ⟨u0_0, rfl, e0_0⟩ := hx0
         exact (ctr61 (fun b => (G F w.heap.size nb) b ∨ F' b) w' x0 u0_0 (slRep.wk kStr_pos e0_0 fun _ _ h => .inr h) a1 (Value.pointer (some ⟨p1, 0, none⟩)) (Kd.mono _ (show (kStr.box 9).rep (G F w.heap.size nb) w19 a1 [(Value.pointer (some ⟨p1, 0, none⟩))] from ⟨p1, _, rfl, gp1, k4, rfl⟩) fun b hb hf => ⟨.inl hf, (hw b hb hf).2⟩) _ rfl).mono (by rintro v w'' ⟨rfl, c⟩; exact ⟨rfl, c⟩)⟩) y28 hy29) ?_
     rintro _ w26 ⟨rfl, c27⟩
     have ah0 := slRep.ch k_Candidate_pos ah0 c27
     have k4 := k4.ch0 c27
     have h10 := slRep.ch k_Candidate_pos h10 c27
     have c0 := c0.then0 c27
     refine rl_pickT rfl hg22 rfl rfl ?_
     have cs := cs.then0 c27
     exact RL.nil ⟨Ext.bothEq (congrArg Value.bool hs21) (Ext.skip rfl (Ext.skip rfl (Ext.skip rfl (Ext.rfl')))), cs⟩
    ·
     have hs21 := and_f hg22 hb24
     have cs : Ch nb w19 w19 := Ch.refl
     refine RL.no rfl rfl rfl hg22 rfl rfl ?_
     refine RL.no rfl rfl rfl hg22 rfl rfl ?_
     refine RL.no rfl rfl rfl hg22 rfl rfl ?_
     refine rl_pickF rfl hg22 rfl rfl ?_
     exact RL.nil ⟨Ext.bothEq (congrArg Value.bool hs21) (Ext.skip rfl (Ext.skip rfl (Ext.skip rfl (Ext.rfl')))), cs⟩
  intro w25 c30
  have ah0 := slRep.ch k_Candidate_pos ah0 c30
  have k4 := k4.ch0 c30
  have h10 := slRep.ch k_Candidate_pos h10 c30
  have c0 := c0.then0 c30
  refine rl_assign rfl rfl ?_
  refine RL.nil ?_
  refine thn_n ?_
  refine CW.ret ?_
  obtain rfl := Option.some.inj hS
  exact ret1 rfl ⟨rfl, c0⟩
/-- lb/hints.Filter$1 -/
theorem ctr48 (F : Nat → Prop) (w : World) (a0 : Candidate) (az0_0 : Value) (ah0_0 : slRep kStr F w a0.zones az0_0) (a1 : ByteArray) (av1 : Value) (ah1 : (kStr.box 9).rep F w a1 [av1]) (r : Bool) (hs : F48_hints_Filter_1 a0 a1 = r) :
    Ret Try.prog 48 #[(Value.agg (Candidate.c a0 az0_0).toArray), av1] w fun v w' => v = (Value.bool r) ∧ Ch nb w w' := by
  have hS := hs
  have c0 : Ch nb w w := Ch.refl
  have ah0_0 := slRep.enter kStr_pos ah0_0
  have ah1 := Kd.enter ah1
  refine Ret.of (n := 7) (args := [_, _]) (rs := [.tmp 3]) Try.func48 rfl rfl rfl rfl ?_
  refine CW.seq (CW.region ?_)
  refine rl_boxA (cs := (Candidate.c a0 az0_0)) rfl rfl ?_
  intro p1 w2 n3 k4
  have gp1 : (G F w.heap.size nb) p1 := ⟨.inr (by rw [n3.eq]; exact c0.size), fun h => absurd (nbS _ h) (by rw [n3.eq]; exact Nat.lt_irrefl _)⟩
  have ah0_0 := slRep.ch kStr_pos ah0_0 n3.ch
  have ah1 := Kd.ch ah1 n3.ch
  have c0 := c0.then0 n3.ch
  refine rl_assign rfl rfl ?_
  refine RL.nil ?_
  refine thn_n ?_
  refine CW.seq (CW.region ?_)
  refine rl_loadA (cs := (Candidate.c a0 az0_0)) rfl Try.isAgg44 Try.sizeOf44 (k4.segAt 0 23) rfl rfl ?_
  obtain ⟨p5, cc6, e7, gf8, k9, h10⟩ := ah1
  obtain rfl := (List.cons.inj e7).1
  obtain rfl := h10
  refine rl_loadS (v := (Value.string a1)) rfl Try.isAgg9 (k9.cell rfl) rfl ?_
  obtain ⟨y13, hy14⟩ : ∃ y, F49_hints_Meant a0 a1 = y := ⟨_, rfl⟩
  have hS := ltS hy14 hS
  refine rl_callF rfl en49 rfl (ctr49 (G F w.heap.size nb) w2 a0 az0_0 ah0_0 a1 y13 hy14) ?_
  rintro _ w11 ⟨rfl, c12⟩
  have ah0_0 := slRep.ch kStr_pos ah0_0 c12
  have k4 := k4.ch0 c12
  have k9 := k9.ch0 c12
  have c0 := c0.then0 c12
  refine rl_assign rfl rfl ?_
  refine RL.nil ?_
  refine thn_n ?_
  refine CW.ret ?_
  obtain rfl := hS
  exact ret1 rfl ⟨rfl, c0⟩
/-- lb/hints.Filter -/
theorem ctr30 (F : Nat → Prop) (w : World) (a0 : (List Candidate)) (av0 : Value) (ah0 : slRep k_Candidate F w a0 av0) (a1 : ByteArray) (r : (List Candidate)) (hs : F30_hints_Filter a0 a1 = some r) :
    Ret Try.prog 30 #[av0, (Value.string a1)] w fun v w' => ∃ y0 : Value, v = y0 ∧ SlO k_Candidate 44 F w.heap.size (inBlk y0) w' r y0 ∧ Ch nb w w' := by
  have hS := hs
  have c0 : Ch nb w w := Ch.refl
  have ah0 := slRep.enter k_Candidate_pos ah0
  refine Ret.of (n := 16) (args := [_, _]) (rs := [.tmp 4]) Try.func30 rfl rfl rfl rfl ?_
  refine CW.seq (CW.region ?_)
  refine rl_box [(Value.string a1)] rfl rfl rfl ?_
  intro p1 w2 n3 k4
  have gp1 : (G F w.heap.size nb) p1 := ⟨.inr (by rw [n3.eq]; exact c0.size), fun h => absurd (nbS _ h) (by rw [n3.eq]; exact Nat.lt_irrefl _)⟩
  have ah0 := slRep.ch k_Candidate_pos ah0 n3.ch
  have c0 := c0.then0 n3.ch
  refine rl_assign rfl rfl ?_
  refine RL.nil ?_
  refine thn_n ?_
  refine CW.seq (CW.region ?_)
  refine rl_move rfl rfl ?_
  obtain ⟨y7, hy8, hS⟩ := bindS hS
  refine rl_callF rfl en45 rfl (ctr45 (G F w.heap.size nb) w2 a0 av0 ah0 y7 hy8) ?_
  rintro v9 w5 ⟨_, rfl, h10, c6⟩
  have hf11 : ∀ b, inBlk v9 b → w2.heap.size ≤ b := fun b hb => (h10.lt b hb).1
  have h10 := SlO.back (S' := un (inBlk v9) nb) h10 nbS c0.size (fun _ => Or.comm)
  have ah0 := slRep.st k_Candidate_pos ah0 c6 (admNew hf11 (fun _ x => x))
  have gp1n : (G F w.heap.size (un (inBlk v9) nb)) p1 := ⟨gp1.1, ((admNew hf11 (fun _ x => x)) _ k4.lt gp1.2).2⟩
  have k4 := k4.ch0 c6
  have gp1 := gp1n
  have c0 := c0.then0 c6
  refine rl_assign rfl rfl ?_
  refine RL.nil ?_
  refine thn_n ?_
  refine CW.seq ?_
  refine CW.seq (CW.region ?_)
  refine rl_move rfl rfl ?_
  refine rl_loadS (v := (Value.string a1)) rfl Try.isAgg9 (k4.cell rfl) rfl ?_
  obtain ⟨y14, hy15, hS⟩ := bindS hS
  refine rl_callF rfl en46 rfl (ctr46 (G F w.heap.size (un (inBlk v9) nb)) w5 a0 av0 ah0 a1 y14 hy15) ?_
  rintro _ w12 ⟨rfl, c13⟩
  have ah0 := slRep.ch k_Candidate_pos ah0 c13
  have k4 := k4.ch0 c13
  have h10 := h10.ch0 c13
  have c0 := c0.then0 c13
  refine rl_not rfl rfl ?_
  refine RL.nil ?_
  refine thn_n ?_
  refine CW.cond (t := !y14) rfl (fun q16 => ?_) (fun q16 => ?_)
  ·
   have hS := ifT q16 hS
   refine CW.seq (CW.region ?_)
   refine rl_move rfl rfl ?_
   refine rl_assign rfl rfl ?_
   refine RL.nil ?_
   refine thn_n ?_
   refine CW.ret ?_
   refine thn_ret ?_
   obtain rfl := Option.some.inj hS
   exact ret1 rfl ⟨v9, rfl, h10.out, c0⟩
  ·
   have hS := ifF q16 hS
   refine CW.skip ?_
   refine thn_n ?_
   refine CW.seq (CW.region ?_)
   refine rl_move rfl rfl ?_
   refine rl_makeFunc rfl rfl ?_
   have h10 := SlO.read (S' := nb) k_Candidate_pos h10 (fun b hs h => hs (False.elim h)) (fun b hb => fun h => h)
   have crf : Ch nb w12 w12 := Ch.refl
   have ah0 := slRep.st k_Candidate_pos ah0 crf (show ∀ b, b < w12.heap.size → ¬ (un (inBlk v9) nb) b → ¬ nb b ∧ ¬ nb b from fun b _ hs => ⟨fun x => x, fun h => hs (False.elim h)⟩)
   have gp1n : (G F w.heap.size nb) p1 := ⟨gp1.1, ((show ∀ b, b < w12.heap.size → ¬ (un (inBlk v9) nb) b → ¬ nb b ∧ ¬ nb b from fun b _ hs => ⟨fun x => x, fun h => hs (False.elim h)⟩) _ k4.lt gp1.2).2⟩
   have k4 := k4.ch0 crf
   have gp1 := gp1n
   have c0 := c0.then0 crf
   obtain ⟨y19, hy20, hS⟩ := bindS hS
   refine rl_callF rfl en47 rfl (ctr47 (G F w.heap.size nb) w12 y7 v9 h10 (fun x0 => F48_hints_Filter_1 x0 a1) (Value.func (.func 48) #[] [(Value.pointer (some ⟨p1, 0, none⟩))].toArray) (show (Kd.fn1 Try.prog true k_Candidate Value.bool).rep (G F w.heap.size nb) w12 (fun x0 => F48_hints_Filter_1 x0 a1) [(Value.func (.func 48) #[] [(Value.pointer (some ⟨p1, 0, none⟩))].toArray)] from ⟨48, [(Value.pointer (some ⟨p1, 0, none⟩))], rfl, en48, fun w' hw F' x0 c0 hx0 => by
       obtain ⟨u0_0, rfl, e0_0⟩ := hx0
       exact (ctr48 (fun b => (G F w.heap.size nb) b ∨ F' b) w' x0 u0_0 (slRep.wk kStr_pos e0_0 fun _ _ h => .inr h) a1 (Value.pointer (some ⟨p1, 0, none⟩)) (Kd.mono _ (show (kStr.box 9).rep (G F w.heap.size nb) w12 a1 [(Value.pointer (some ⟨p1, 0, none⟩))] from ⟨p1, _, rfl, gp1, k4, rfl⟩) fun b hb hf => ⟨.inl hf, (hw b hb hf).2⟩) _ rfl).mono (by rintro v w'' ⟨rfl, c⟩; exact ⟨rfl, c⟩)⟩) y19 hy20) ?_
   rintro v21 w17 ⟨_, rfl, h22, c18⟩
   have hf23 : ∀ b, inBlk v21 b → w12.heap.size ≤ b := fun b hb => (h22.lt b hb).1
   have h22 := SlO.back (S' := un (inBlk v21) nb) h22 nbS c0.size (fun _ => Or.comm)
   have ah0 := slRep.st k_Candidate_pos ah0 c18 (admNew hf23 (fun _ x => x))
   have gp1n : (G F w.heap.size (un (inBlk v21) nb)) p1 := ⟨gp1.1, ((admNew hf23 (fun _ x => x)) _ k4.lt gp1.2).2⟩
   have k4 := k4.ch0 c18
   have gp1 := gp1n
   have h10 := slRep.st k_Candidate_pos h10 c18 (admNew hf23 (fun _ x => x))
   have c0 := c0.then0 c18
   refine rl_assign rfl rfl ?_
   refine RL.nil ?_
   refine thn_n ?_
   refine CW.ret ?_
   obtain rfl := Option.some.inj hS
   exact ret1 rfl ⟨v21, rfl, h22.out, c0⟩
/-- lb/pick.Choose -/
theorem ctr13 (F : Nat → Prop) (w : World) (a0 : (List Candidate)) (av0 : Value) (ah0 : slRep k_Candidate F w a0 av0) (a1 : Want) (r : (List Candidate)) (hs : F13_pick_Choose a0 a1 = some r) :
    Ret Try.prog 13 #[av0, (Value.agg (Want.enc a1).toArray)] w fun v w' => ∃ y0 : Value, v = y0 ∧ SlO k_Candidate 44 F w.heap.size (inBlk y0) w' r y0 ∧ Ch nb w w' := by
  have hS := hs
  have c0 : Ch nb w w := Ch.refl
  have ah0 := slRep.enter k_Candidate_pos ah0
  refine Ret.of (n := 24) (args := [_, _]) (rs := [.tmp 4]) Try.func13 rfl rfl rfl rfl ?_
  refine CW.seq (CW.region ?_)
  refine rl_boxA (cs := (Want.enc a1)) rfl rfl ?_
  intro p1 w2 n3 k4
  have gp1 : (G F w.heap.size nb) p1 := ⟨.inr (by rw [n3.eq]; exact c0.size), fun h => absurd (nbS _ h) (by rw [n3.eq]; exact Nat.lt_irrefl _)⟩
  have ah0 := slRep.ch k_Candidate_pos ah0 n3.ch
  have c0 := c0.then0 n3.ch
  refine rl_assign rfl rfl ?_
  refine RL.nil ?_
  refine thn_n ?_
  refine CW.seq ?_
  refine CW.block ?_
  refine CW.seq (CW.region ?_)
  refine rl_fieldAddr rfl fa24_3 rfl ?_
  refine rl_loadS (v := (Value.bool a1.localF)) rfl Try.isAgg4 (k4.cell rfl) rfl ?_
  refine rl_assign rfl rfl ?_
  refine RL.nil ?_
  refine thn_n ?_
  refine CW.cond (t := a1.localF) rfl (fun q5 => ?_) (fun q5 => ?_)
  ·
   have hS := ifT q5 hS
   refine CW.seq (CW.region ?_)
   refine rl_move rfl rfl ?_
   obtain ⟨y8, hy9, hS⟩ := bindS hS
   refine rl_callF rfl en25 rfl (ctr25 (G F w.heap.size nb) w2 a0 av0 ah0 (fun x0 => F28_pick_local x0) (Value.func (.func 28) #[] [].toArray) (show (Kd.fn1 Try.prog true k_Candidate Value.bool).rep (G F w.heap.size nb) w2 (fun x0 => F28_pick_local x0) [(Value.func (.func 28) #[] [].toArray)] from ⟨28, [], rfl, en28, fun w' hw F' x0 c0 hx0 => by
       obtain ⟨u0_0, rfl, e0_0⟩ := hx0
       exact (ctr28 (fun b => (G F w.heap.size nb) b ∨ F' b) w' x0 u0_0 (slRep.wk kStr_pos e0_0 fun _ _ h => .inr h) _ rfl).mono (by rintro v w'' ⟨rfl, c⟩; exact ⟨rfl, c⟩)⟩) y8 hy9) ?_
   rintro v10 w6 ⟨_, rfl, h11, c7⟩
   have h11 := SlO.backR k_Candidate_pos h11 nbS c0.size
   have ah0 := slRep.ch k_Candidate_pos ah0 c7
   have k4 := k4.ch0 c7
   have c0 := c0.then0 c7
   obtain ⟨y14, hy15, hS⟩ := bindS hS
   refine rl_callF rfl en11 rfl (ctr11 (G F w.heap.size nb) w6 y8 v10 h11 y14 hy15) ?_
   rintro v16 w12 ⟨_, rfl, h17, c13⟩
   have hf18 : ∀ b, inBlk v16 b → w6.heap.size ≤ b := fun b hb => (h17.lt b hb).1
   have h17 := SlO.back (S' := un (inBlk v16) nb) h17 nbS c0.size (fun _ => Or.comm)
   have ah0 := slRep.st k_Candidate_pos ah0 c13 (admNew hf18 (fun _ x => x))
   have gp1n : (G F w.heap.size (un (inBlk v16) nb)) p1 := ⟨gp1.1, ((admNew hf18 (fun _ x => x)) _ k4.lt gp1.2).2⟩
   have k4 := k4.ch0 c13
   have gp1 := gp1n
   have h11 := slRep.st k_Candidate_pos h11 c13 (admNew hf18 (fun _ x => x))
   have c0 := c0.then0 c13
   refine rl_assign rfl rfl ?_
   refine RL.nil ?_
   refine thn_n ?_
   refine CW.ret ?_
   refine inB_ret ?_
   refine thn_ret ?_
   obtain rfl := Option.some.inj hS
   exact ret1 rfl ⟨v16, rfl, h17.out, c0⟩
  ·
   have hS := ifF q5 hS
   refine CW.seq (CW.region ?_)
   refine rl_fieldAddr rfl fa24_4 rfl ?_
   refine rl_loadS (v := (Value.bool a1.hinted)) rfl Try.isAgg4 (k4.cell rfl) rfl ?_
   refine rl_move rfl rfl ?_
   obtain ⟨b21, hb22⟩ : ∃ v, (a1.hinted && (lt (F29_slices_ContainsFunc_hints_Candidate_hint a0 (fun x0 => F26_pick_ready x0)) fun y23 => y23)) = v := ⟨_, rfl⟩
   have hS := ltS hb22 hS
   refine RL.join 3 17 (.bool b21) (fun w' => Ch nb w2 w') ?_ ?_
   · rcases Bool.eq_false_or_eq_true a1.hinted with hg20 | hg20
     ·
      have hs19 := and_t hg20 hb22
      have cs : Ch nb w2 w2 := Ch.refl
      refine RL.yes rfl rfl rfl hg20 ?_
      refine rl_move rfl rfl ?_
      refine RL.yes rfl rfl rfl hg20 ?_
      obtain ⟨y26, hy27⟩ : ∃ y, F29_slices_ContainsFunc_hints_Candidate_hint a0 (fun x0 => F26_pick_ready x0) = y := ⟨_, rfl⟩
      have hs19 := ltS hy27 hs19
      refine rl_callF rfl en29 rfl (ctr29 (G F w.heap.size nb) w2 a0 av0 ah0 (fun x0 => F26_pick_ready x0) (Value.func (.func 26) #[] [].toArray) (show (Kd.fn1 Try.prog true k_Candidate Value.bool).rep (G F w.heap.size nb) w2 (fun x0 => F26_pick_ready x0) [(Value.func (.func 26) #[] [].toArray)] from ⟨26, [], rfl, en26, fun w' hw F' x0 c0 hx0 => by
          obtain ⟨u0_0, rfl, e0_0⟩ := hx0
          exact (ctr26 (fun b => (G F w.heap.size nb) b ∨ F' b) w' x0 u0_0 (slRep.wk kStr_pos e0_0 fun _ _ h => .inr h) _ rfl).mono (by rintro v w'' ⟨rfl, c⟩; exact ⟨rfl, c⟩)⟩) y26 hy27) ?_
      rintro _ w24 ⟨rfl, c25⟩
      have ah0 := slRep.ch k_Candidate_pos ah0 c25
      have k4 := k4.ch0 c25
      have c0 := c0.then0 c25
      refine rl_pickT rfl hg20 rfl rfl ?_
      have cs := cs.then0 c25
      exact RL.nil ⟨Ext.bothEq (congrArg Value.bool hs19) (Ext.skip rfl (Ext.skip rfl (Ext.rfl'))), cs⟩
     ·
      have hs19 := and_f hg20 hb22
      have cs : Ch nb w2 w2 := Ch.refl
      refine RL.no rfl rfl rfl hg20 rfl rfl ?_
      refine RL.no rfl rfl rfl hg20 rfl rfl ?_
      refine rl_pickF rfl hg20 rfl rfl ?_
      exact RL.nil ⟨Ext.bothEq (congrArg Value.bool hs19) (Ext.skip rfl (Ext.skip rfl (Ext.rfl'))), cs⟩
   intro w23 c28
   have ah0 := slRep.ch k_Candidate_pos ah0 c28
   have k4 := k4.ch0 c28
   have c0 := c0.then0 c28
   refine rl_assign rfl rfl ?_
   refine RL.nil ?_
   refine thn_n ?_
   refine CW.cond (t := b21) rfl (fun q29 => ?_) (fun q29 => ?_)
   ·
    have hS := ifT q29 hS
    refine CW.seq (CW.region ?_)
    refine rl_move rfl rfl ?_
    refine rl_fieldAddr rfl fa24_6 rfl ?_
    refine rl_loadS (v := (Value.string a1.zone)) rfl Try.isAgg9 (k4.cell rfl) rfl ?_
    obtain ⟨y32, hy33, hS⟩ := bindS hS
    refine rl_callF rfl en30 rfl (ctr30 (G F w.heap.size nb) w23 a0 av0 ah0 a1.zone y32 hy33) ?_
    rintro v34 w30 ⟨_, rfl, h35, c31⟩
    have hf36 : ∀ b, inBlk v34 b → w23.heap.size ≤ b := fun b hb => (h35.lt b hb).1
    have h35 := SlO.back (S' := un (inBlk v34) nb) h35 nbS c0.size (fun _ => Or.comm)
    have ah0 := slRep.st k_Candidate_pos ah0 c31 (admNew hf36 (fun _ x => x))
    have gp1n : (G F w.heap.size (un (inBlk v34) nb)) p1 := ⟨gp1.1, ((admNew hf36 (fun _ x => x)) _ k4.lt gp1.2).2⟩
    have k4 := k4.ch0 c31
    have gp1 := gp1n
    have c0 := c0.then0 c31
    refine rl_assign rfl rfl ?_
    refine RL.nil ?_
    refine thn_n ?_
    refine CW.ret ?_
    refine inB_ret ?_
    refine thn_ret ?_
    obtain rfl := Option.some.inj hS
    exact ret1 rfl ⟨v34, rfl, h35.out, c0⟩
   ·
    have hS := ifF q29 hS
    refine CW.skip ?_
    refine inB_n ?_
    refine thn_n ?_
    refine CW.seq (CW.region ?_)
    refine rl_move rfl rfl ?_
    obtain ⟨y39, hy40, hS⟩ := bindS hS
    refine rl_callF rfl en11 rfl (ctr11 (G F w.heap.size nb) w23 a0 av0 ah0 y39 hy40) ?_
    rintro v41 w37 ⟨_, rfl, h42, c38⟩
    have hf43 : ∀ b, inBlk v41 b → w23.heap.size ≤ b := fun b hb => (h42.lt b hb).1
    have h42 := SlO.back (S' := un (inBlk v41) nb) h42 nbS c0.size (fun _ => Or.comm)
    have ah0 := slRep.st k_Candidate_pos ah0 c38 (admNew hf43 (fun _ x => x))
    have gp1n : (G F w.heap.size (un (inBlk v41) nb)) p1 := ⟨gp1.1, ((admNew hf43 (fun _ x => x)) _ k4.lt gp1.2).2⟩
    have k4 := k4.ch0 c38
    have gp1 := gp1n
    have c0 := c0.then0 c38
    refine rl_assign rfl rfl ?_
    refine RL.nil ?_
    refine thn_n ?_
    refine CW.ret ?_
    obtain rfl := Option.some.inj hS
    exact ret1 rfl ⟨v41, rfl, h42.out, c0⟩
/-- lb/lbref18.Meant -/
theorem ctr51 (F : Nat → Prop) (w : World) (a0 : Candidate) (az0_0 : Value) (ah0_0 : slRep kStr F w a0.zones az0_0) (a1 : ByteArray) (r : Bool) (hs : F51_linkboyref18_Meant a0 a1 = r) :
    Ret Try.prog 51 #[(Value.agg (Candidate.c a0 az0_0).toArray), (Value.string a1)] w fun v w' => v = (Value.bool r) ∧ Ch nb w w' := by
  have hS := hs
  have c0 : Ch nb w w := Ch.refl
  have ah0_0 := slRep.enter kStr_pos ah0_0
  refine Ret.of (n := 18) (args := [_, _]) (rs := [.tmp 4]) Try.func51 rfl rfl rfl rfl ?_
  refine CW.seq (CW.region ?_)
  refine rl_boxA (cs := (Candidate.c a0 az0_0)) rfl rfl ?_
  intro p1 w2 n3 k4
  have gp1 : (G F w.heap.size nb) p1 := ⟨.inr (by rw [n3.eq]; exact c0.size), fun h => absurd (nbS _ h) (by rw [n3.eq]; exact Nat.lt_irrefl _)⟩
  have ah0_0 := slRep.ch kStr_pos ah0_0 n3.ch
  have c0 := c0.then0 n3.ch
  refine rl_assign rfl rfl ?_
  refine RL.nil ?_
  refine thn_n ?_
  refine CW.seq ?_
  refine CW.seq (CW.region ?_)
  refine rl_fieldAddr rfl fa58_5 rfl ?_
  refine rl_loadS (v := az0_0) rfl Try.isAgg42 (k4.cell rfl) rfl ?_
  refine rl_lenR rfl ah0_0 Try.underlying42 rfl ?_
  refine rl_move rfl rfl ?_
  refine RL.nil ?_
  refine thn_n ?_
  obtain ⟨o12, ho13⟩ : ∃ o, runB (F51_linkboyref18_Meant_b1 a1) a0.zones () = o := ⟨_, rfl⟩
  have hS := ltS ho13 hS
  refine CW.cutB (fun E' w' => ∃ (_ : Unit), Sub [] E' ∧ Ch nb w w' ∧ Lp.fin () = o12 ∧ slRep kStr (G F w.heap.size nb) w' a0.zones az0_0 ∧ Blk w' p1 58 (Candidate.c a0 az0_0) ∧ (G F w.heap.size nb) p1) ?_ ?_
  ·
   refine CW.loopS [(1, (Value.string a1)), (8, az0_0), (9, (Value.int .i64 ((a0.zones.length : Nat) : Int))), (10, (Value.int .i64 ((0 : Nat) : Int)))] ⟨rfl, rfl, rfl, rfl, trivial⟩ a0.zones.length (fun m E w' => ∃ (rest5 : List ByteArray) (i6 : Nat) , m = rest5.length ∧ E = [(1, (Value.string a1)), (8, az0_0), (9, (Value.int .i64 ((a0.zones.length : Nat) : Int))), (10, (Value.int .i64 ((i6 : Nat) : Int)))] ∧ Ch nb w w' ∧ At a0.zones i6 rest5 ∧ runB (F51_linkboyref18_Meant_b1 a1) rest5 () = o12 ∧ slRep kStr (G F w.heap.size nb) w' a0.zones az0_0 ∧ Blk w' p1 58 (Candidate.c a0 az0_0) ∧ (G F w.heap.size nb) p1)
       ⟨a0.zones, 0, rfl, rfl, c0, At.start, ho13, ah0_0, k4, gp1⟩ ?_
   rintro _ _ w18 ⟨rest5, i6, rfl, rfl, c17, hat8, hL7, ah0_0, k4, gp1⟩
   refine CW.seq (CW.region ?_)
   refine rl_bin rfl rfl B.lss rfl ?_
   refine RL.nil (thn_n ?_)
   refine CW.seq ?_
   refine CW.cond (t := decide (((i6 : Nat) : Int) < ((a0.zones.length : Nat) : Int))) rfl (fun q20 => ?_) (fun q20 => ?_)
   ·
    obtain ⟨x14, rest21, rfl⟩ := hat8.cons q20
    obtain ⟨q9, hq10⟩ : ∃ q, (F51_linkboyref18_Meant_b1 a1) x14 () = q := ⟨_, rfl⟩
    have hb11 := hq10
    refine CW.skip (thn_n ?_)
    refine CW.seq ?_
    refine CW.block ?_
    refine CW.seq (CW.region ?_)
    refine rl_ixR rfl ah0_0 rfl hat8.get Try.underlying42 Try.sizeOf9 rfl ?_
    intro p22 o23 cs24 hr25 hs26 hg27
    obtain rfl := hr25
    refine rl_loadS (v := (Value.string x14)) rfl Try.isAgg9 (hs26 0 _ rfl) rfl ?_
    refine rl_assign rfl rfl ?_
    refine RL.nil ?_
    refine thn_n ?_
    refine CW.seq (CW.region ?_)
    refine rl_move rfl rfl ?_
    refine rl_move rfl rfl ?_
    refine rl_bin rfl rfl B.eqlS rfl ?_
    refine RL.nil ?_
    refine thn_n ?_
    refine CW.cond (t := decide (x14 = a1)) rfl (fun q28 => ?_) (fun q28 => ?_)
    ·
     have hb11 := ifT q28 hb11
     refine CW.seq (CW.region ?_)
     refine rl_assign rfl rfl ?_
     refine RL.nil ?_
     refine thn_n ?_
     refine CW.ret ?_
     refine inB_ret ?_
     refine thn_ret ?_
     refine thn_ret (inB_ret (thn_ret ?_))
     refine thn_ret ?_
     have f29 := runB_ret hL7 (hb11.trans hq10.symm)
     have hS := retS f29 hS
     obtain rfl := hS
     exact ret1 rfl ⟨rfl, c17⟩
    ·
     have hb11 := ifF q28 hb11
     refine CW.skip ?_
     refine inB_n ?_
     refine thn_n ?_
     refine CW.region ?_
     refine rl_inc rfl hat8.lt ah0_0.big rfl ?_
     refine rl_move rfl rfl ?_
     refine RL.nil ?_
     refine thn_n ?_
     have hLn := runB_next hL7 (hb11.trans hq10.symm)
     exact ⟨rest21.length, Nat.lt_succ_self _, [(1, (Value.string a1)), (8, az0_0), (9, (Value.int .i64 ((a0.zones.length : Nat) : Int))), (10, (Value.int .i64 ((i6 + 1 : Nat) : Int)))], ⟨rfl, rfl, rfl, rfl, trivial⟩, ⟨rest21, i6 + 1, rfl, rfl, c17, hat8.next, hLn, ah0_0, k4, gp1⟩⟩
   ·
    obtain rfl := hat8.nil q20
    have hLf : Lp.fin () = o12 := hL7
    refine CW.exit (thn_exit (thn_exit (inB_hit ?_)))
    exact ⟨(), trivial, c17, hLf, ah0_0, k4, gp1⟩
  ·
   rintro _ w31 ⟨_, hE32, c30, f33, ah0_0, k4, gp1⟩
   have hS := finS f33 hS
   refine thn_n (CW.sub [] hE32 ?_)
   refine CW.seq (CW.region ?_)
   refine rl_assign rfl rfl ?_
   refine RL.nil ?_
   refine thn_n ?_
   refine CW.ret ?_
   obtain rfl := hS
   exact ret1 rfl ⟨rfl, c30⟩
end Go.Proofs.Yteoaobiglodblaa
