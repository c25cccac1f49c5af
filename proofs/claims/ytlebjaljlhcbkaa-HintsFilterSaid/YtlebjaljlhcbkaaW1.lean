/- The walks through the code: each call comes to its printed function. Written by a program of this session. -/
import Derived.Test.YtlebjaljlhcbkaaM
import Derived.Test.YtlebjaljlhcbkaaL
namespace Go.Proofs.Ytlebjaljlhcbkaa
open Go K
set_option linter.unusedVariables false
/-- slices.Clone[[]lb/hints.Candidate,lb/hints.Candidate] -/
theorem ctr33 (F : Nat → Prop) (w : World) (a0 : (List Candidate)) (av0 : Value) (ah0 : slRep k_Candidate F w a0 av0) (r : (List Candidate)) (hs : F33_slices_Clone_hints_Candidate_hints_Candi a0 = some r) :
    Ret Try.prog 33 #[av0] w fun v w' => ∃ y0 : Value, v = y0 ∧ SlO k_Candidate 32 F w.heap.size (inBlk y0) w' r y0 ∧ Ch nb w w' := by
  have hS := hs
  have c0 : Ch nb w w := Ch.refl
  have ah0 := slRep.enter k_Candidate_pos ah0
  refine Ret.of (n := 8) (args := [_]) (rs := [.tmp 2]) Try.func33 rfl rfl rfl rfl ?_
  refine CW.seq (CW.region ?_)
  refine rl_assign rfl rfl ?_
  refine RL.nil ?_
  refine thn_n ?_
  refine CW.seq ?_
  refine CW.seq (CW.region ?_)
  refine rl_move rfl rfl ?_
  refine rl_slNil rfl ah0 Try.underlying22 rfl ?_
  intro b1 n2
  refine RL.nil ?_
  refine thn_n ?_
  refine CW.cond (t := b1) rfl (fun q3 => ?_) (fun q3 => ?_)
  ·
   obtain ⟨rfl, rfl⟩ := n2 q3
   refine CW.seq (CW.region ?_)
   refine rl_assign rfl rfl ?_
   refine RL.nil ?_
   refine thn_n ?_
   refine CW.ret ?_
   refine thn_ret ?_
   obtain rfl := Option.some.inj hS
   exact ret1 rfl ⟨(Value.slice none 0 0), rfl, SlO.nil, c0⟩
  ·
   refine CW.skip ?_
   refine thn_n ?_
   refine CW.seq (CW.region ?_)
   refine rl_bslice (k := k_Candidate) (F := F) (B := w.heap.size) (S := nb) ([] : List Candidate) rfl k_Candidate_pos Try.underlying22 Try.sizeOf32 Try.zeroValue32 rfl rfl trivial c0.size nbS rfl ?_
   intro v4 w5 c6 hf7 h8
   have ah0 := slRep.st k_Candidate_pos ah0 c6 (admNew hf7 (fun _ x => x))
   have c0 := c0.then0 c6
   refine rl_move rfl rfl ?_
   obtain ⟨z17, hz18, hS⟩ := bindS hS
   have hl := (apO_get hz18).1
   refine rl_append (k := k_Candidate) (T := 32) (F := F) (B := w.heap.size) (S := (un (inBlk v4) nb)) (S2 := nb) (fun v => (un (inBlk v) nb)) rfl rfl k_Candidate_pos ap22 h8 ah0 (fun _ => Iff.rfl) (fun _ _ => Iff.rfl) hl c0.size (un_lt (fun b hb => (h8.lt b hb).2) nbS) rfl ?_
   intro v11 w12 h13 c14 hf15 ha16
   have ah0 := slRep.st k_Candidate_pos ah0 c14 ha16
   have c0 := c0.then c14 (fun i hi h => absurd ((fun b hb => (h8.lt b hb).1) i h) (Nat.not_le_of_lt hi))
   refine rl_assign rfl rfl ?_
   refine RL.nil ?_
   refine thn_n ?_
   refine CW.ret ?_
   obtain rfl := Option.some.inj hS
   exact ret1 rfl ⟨v11, rfl, h13.out, c0⟩
/-- lb/hints.kept$1 -/
theorem ctr34 (F : Nat → Prop) (w : World) (a0 : Candidate) (az0_0 : Value) (ah0_0 : slRep kStr F w a0.zones az0_0) (a1 : (Candidate → Bool)) (av1 : Value) (ah1 : ((Kd.fn1 Try.prog true k_Candidate Value.bool).box 51).rep F w a1 [av1]) (r : Bool) (hs : F34_hints_kept_1 a0 a1 = r) :
    Ret Try.prog 34 #[(Value.agg (Candidate.c a0 az0_0).toArray), av1] w fun v w' => v = (Value.bool r) ∧ Ch nb w w' := by
  have hS := hs
  have c0 : Ch nb w w := Ch.refl
  have ah0_0 := slRep.enter kStr_pos ah0_0
  have ah1 := Kd.enter ah1
  refine Ret.of (n := 8) (args := [_, _]) (rs := [.tmp 3]) Try.func34 rfl rfl rfl rfl ?_
  refine CW.seq (CW.region ?_)
  refine rl_boxA (cs := (Candidate.c a0 az0_0)) rfl rfl ?_
  intro p1 w2 n3 k4
  have gp1 : (G F w.heap.size nb) p1 := ⟨.inr (by rw [n3.eq]; exact c0.size), fun h => absurd (nbS _ h) (by rw [n3.eq]; exact Nat.lt_irrefl _)⟩
  have ah0_0 := slRep.ch kStr_pos ah0_0 n3.ch
  have ah1 := Kd.ch ah1 n3.ch
  have c0 := c0.then0 n3.ch
  refine rl_assign rfl rfl ?_
  refine RL.nil ?_
  refine thn_n ?_
  refine CW.seq (CW.region ?_)
  obtain ⟨p5, cc6, e7, gf8, k9, h10⟩ := ah1
  obtain rfl := (List.cons.inj e7).1
  obtain ⟨u11, rfl⟩ : ∃ u, cc6 = [u] := List.length_eq_one_iff.1 (Kd.len _ h10)
  refine rl_loadS (v := u11) rfl Try.isAgg51 (k9.cell rfl) rfl ?_
  refine rl_loadA (cs := (Candidate.c a0 az0_0)) rfl Try.isAgg32 Try.sizeOf32 (k4.segAt 0 23) rfl rfl ?_
  refine rl_fn1 (c := (Candidate.c a0 az0_0)) rfl rfl rfl h10 (F' := (G F w.heap.size nb)) (xx := a0) (show k_Candidate.rep (G F w.heap.size nb) w2 a0 (Candidate.c a0 az0_0) from ⟨az0_0, rfl, ah0_0⟩) rfl ?_
  intro w12 c13
  have ah0_0 := slRep.ch kStr_pos ah0_0 c13
  have k4 := k4.ch0 c13
  have h10 := Kd.ch h10 c13
  have k9 := k9.ch0 c13
  have c0 := c0.then0 c13
  refine rl_not rfl rfl ?_
  refine rl_assign rfl rfl ?_
  refine RL.nil ?_
  refine thn_n ?_
  refine CW.ret ?_
  obtain rfl := hS
  exact ret1 rfl ⟨rfl, c0⟩
/-- slices.IndexFunc[[]lb/hints.Candidate,lb/hints.Candidate] -/
theorem ctr38 (F : Nat → Prop) (w : World) (a0 : (List Candidate)) (av0 : Value) (ah0 : slRep k_Candidate F w a0 av0) (a1 : (Candidate → Bool)) (av1 : Value) (ah1 : (Kd.fn1 Try.prog true k_Candidate Value.bool).rep F w a1 [av1]) (r : Int) (hs : F38_slices_IndexFunc_hints_Candidate_hints_C a0 a1 = r) :
    Ret Try.prog 38 #[av0, av1] w fun v w' => v = (Value.int .i64 r) ∧ Ch nb w w' := by
  have hS := hs
  have c0 : Ch nb w w := Ch.refl
  have ah0 := slRep.enter k_Candidate_pos ah0
  have ah1 := Kd.enter ah1
  refine Ret.of (n := 19) (args := [_, _]) (rs := [.tmp 4]) Try.func38 rfl rfl rfl rfl ?_
  refine CW.seq (CW.region ?_)
  refine rl_assign rfl rfl ?_
  refine RL.nil ?_
  refine thn_n ?_
  refine CW.seq ?_
  refine CW.seq (CW.region ?_)
  refine rl_move rfl rfl ?_
  refine rl_lenR rfl ah0 Try.underlying22 rfl ?_
  refine rl_move rfl rfl ?_
  refine RL.nil ?_
  refine thn_n ?_
  obtain ⟨o8, ho9⟩ : ∃ o, runB (F38_slices_IndexFunc_hints_Candidate_hints_C_b1 a1) a0 0 = o := ⟨_, rfl⟩
  have hS := ltS ho9 hS
  refine CW.cutB (fun E' w' => ∃ (ix15 : Nat), Sub [] E' ∧ Ch nb w w' ∧ Lp.fin ix15 = o8 ∧ slRep k_Candidate (G F w.heap.size nb) w' a0 av0 ∧ (Kd.fn1 Try.prog true k_Candidate Value.bool).rep (G F w.heap.size nb) w' a1 [av1]) ?_ ?_
  ·
   refine CW.loopS [(0, av0), (1, av1), (7, (Value.int .i64 ((a0.length : Nat) : Int))), (8, (Value.int .i64 ((0 : Nat) : Int)))] ⟨rfl, rfl, rfl, rfl, trivial⟩ a0.length (fun m E w' => ∃ (rest1 : List Candidate) (i2 : Nat) , m = rest1.length ∧ E = [(0, av0), (1, av1), (7, (Value.int .i64 ((a0.length : Nat) : Int))), (8, (Value.int .i64 ((i2 : Nat) : Int)))] ∧ Ch nb w w' ∧ At a0 i2 rest1 ∧ runB (F38_slices_IndexFunc_hints_Candidate_hints_C_b1 a1) rest1 i2 = o8 ∧ slRep k_Candidate (G F w.heap.size nb) w' a0 av0 ∧ (Kd.fn1 Try.prog true k_Candidate Value.bool).rep (G F w.heap.size nb) w' a1 [av1])
       ⟨a0, 0, rfl, rfl, c0, At.start, ho9, ah0, ah1⟩ ?_
   rintro _ _ w14 ⟨rest1, i2, rfl, rfl, c13, hat4, hL3, ah0, ah1⟩
   refine CW.seq (CW.region ?_)
   refine rl_bin rfl rfl B.lss rfl ?_
   refine RL.nil (thn_n ?_)
   refine CW.seq ?_
   refine CW.cond (t := decide (((i2 : Nat) : Int) < ((a0.length : Nat) : Int))) rfl (fun q16 => ?_) (fun q16 => ?_)
   ·
    obtain ⟨x10, rest17, rfl⟩ := hat4.cons q16
    obtain ⟨q5, hq6⟩ : ∃ q, (F38_slices_IndexFunc_hints_Candidate_hints_C_b1 a1) x10 i2 = q := ⟨_, rfl⟩
    have hb7 := hq6
    refine CW.skip (thn_n ?_)
    refine CW.seq ?_
    refine CW.block ?_
    refine CW.seq (CW.region ?_)
    refine rl_move rfl rfl ?_
    refine rl_assign rfl rfl ?_
    refine RL.nil ?_
    refine thn_n ?_
    refine CW.seq (CW.region ?_)
    refine rl_move rfl rfl ?_
    refine rl_move rfl rfl ?_
    refine rl_move rfl rfl ?_
    refine rl_ixR rfl ah0 rfl hat4.get Try.underlying22 Try.sizeOf32 rfl ?_
    intro p18 o19 cs20 hr21 hs22 hg23
    obtain ⟨z24, rfl, h25⟩ := hr21
    refine rl_loadA (cs := (Candidate.c x10 z24)) rfl Try.isAgg32 Try.sizeOf32 (hs22) rfl rfl ?_
    refine rl_fn1 (c := (Candidate.c x10 z24)) rfl rfl rfl ah1 (F' := (G F w.heap.size nb)) (xx := x10) (show k_Candidate.rep (G F w.heap.size nb) w14 x10 (Candidate.c x10 z24) from ⟨z24, rfl, h25⟩) rfl ?_
    intro w26 c27
    have ah0 := slRep.ch k_Candidate_pos ah0 c27
    have ah1 := Kd.ch ah1 c27
    have h25 := slRep.ch kStr_pos h25 c27
    have hs22 := hs22.ch0 c27
    have c13 := c13.then0 c27
    refine RL.nil ?_
    refine thn_n ?_
    refine CW.cond (t := a1 x10) rfl (fun q28 => ?_) (fun q28 => ?_)
    ·
     have hb7 := ifT q28 hb7
     refine CW.seq (CW.region ?_)
     refine rl_move rfl rfl ?_
     refine rl_assign rfl rfl ?_
     refine RL.nil ?_
     refine thn_n ?_
     refine CW.ret ?_
     refine inB_ret ?_
     refine thn_ret ?_
     refine thn_ret (inB_ret (thn_ret ?_))
     refine thn_ret ?_
     have f29 := runB_ret hL3 (hb7.trans hq6.symm)
     have hS := retS f29 hS
     obtain rfl := hS
     exact ret1 rfl ⟨rfl, c13⟩
    ·
     have hb7 := ifF q28 hb7
     refine CW.skip ?_
     refine inB_n ?_
     refine thn_n ?_
     refine CW.region ?_
     refine rl_inc rfl hat4.lt ah0.big rfl ?_
     refine rl_move rfl rfl ?_
     refine RL.nil ?_
     refine thn_n ?_
     have hLn := runB_next hL3 (hb7.trans hq6.symm)
     exact ⟨rest17.length, Nat.lt_succ_self _, [(0, av0), (1, av1), (7, (Value.int .i64 ((a0.length : Nat) : Int))), (8, (Value.int .i64 ((i2 + 1 : Nat) : Int)))], ⟨rfl, rfl, rfl, rfl, trivial⟩, ⟨rest17, i2 + 1, rfl, rfl, c13, hat4.next, hLn, ah0, ah1⟩⟩
   ·
    obtain rfl := hat4.nil q16
    have hLf : Lp.fin i2 = o8 := hL3
    refine CW.exit (thn_exit (thn_exit (inB_hit ?_)))
    exact ⟨i2, trivial, c13, hLf, ah0, ah1⟩
  ·
   rintro _ w31 ⟨ix15, hE32, c30, f33, ah0, ah1⟩
   have hS := finS f33 hS
   refine thn_n (CW.sub [] hE32 ?_)
   refine CW.seq (CW.region ?_)
   refine rl_assign rfl rfl ?_
   refine RL.nil ?_
   refine thn_n ?_
   refine CW.ret ?_
   obtain rfl := hS
   exact ret1 rfl ⟨rfl, c30⟩
/-- slices.DeleteFunc[[]lb/hints.Candidate,lb/hints.Candidate] -/
theorem ctr32 (F : Nat → Prop) (w : World) (Bb : Nat) (S2 : Nat → Prop) (hB : Bb ≤ w.heap.size) (h2 : ∀ b, S2 b → b < w.heap.size) (av0 : Value) (hd2 : ∀ b, inBlk av0 b → ¬ S2 b) (a0 : (List Candidate)) (ah0 : SlO k_Candidate 32 F Bb (un (inBlk av0) S2) w a0 av0) (a1 : (Candidate → Bool)) (av1 : Value) (ah1 : (Kd.fn1 Try.prog true k_Candidate Value.bool).rep (G F Bb (un (inBlk av0) S2)) w a1 [av1]) (r : (List Candidate)) (hs : F32_slices_DeleteFunc_hints_Candidate_hints_ a0 a1 = some r) :
    Ret Try.prog 32 #[av0, av1] w fun v w' => ∃ y0 : Value, v = y0 ∧ SlO k_Candidate 32 F Bb (un (inBlk y0) S2) w' r y0 ∧ (∀ b, inBlk y0 b → inBlk av0 b ∨ w.heap.size ≤ b) ∧ Ch (inBlk av0) w w' := by
  have hS := hs
  have c0 : Ch (inBlk av0) w w := Ch.refl
  have lin0 : ∀ b, inBlk av0 b → inBlk av0 b ∨ w.heap.size ≤ b := fun _ h => .inl h
  refine Ret.of (n := 42) (args := [_, _]) (rs := [.tmp 4]) Try.func32 rfl rfl rfl rfl ?_
  refine CW.seq (CW.region ?_)
  refine rl_assign rfl rfl ?_
  refine RL.nil ?_
  refine thn_n ?_
  refine CW.seq (CW.region ?_)
  refine rl_move rfl rfl ?_
  refine rl_move rfl rfl ?_
  obtain ⟨y3, hy4⟩ : ∃ y, F38_slices_IndexFunc_hints_Candidate_hints_C a0 a1 = y := ⟨_, rfl⟩
  have hS := ltS hy4 hS
  refine rl_callF rfl en38 rfl (ctr38 (G F Bb S2) w a0 av0 (SlO.read (S' := S2) k_Candidate_pos ah0 (fun b hs h => hs ((.inr h))) (fun b hb => hd2 b hb)) a1 av1 (Kd.wk ah1 (fun b _ hf => ⟨hf.1, fun h => hf.2 ((.inr h))⟩)) y3 hy4) ?_
  rintro _ w1 ⟨rfl, c2⟩
  have ah0 := ah0.ch0 c2
  have ah1 := Kd.ch ah1 c2
  have c0 := c0.then0 c2
  refine rl_assign rfl rfl ?_
  refine RL.nil ?_
  refine thn_n ?_
  refine CW.seq ?_
  refine CW.seq (CW.region ?_)
  refine rl_move rfl rfl ?_
  refine rl_bin rfl rfl B.eql rfl ?_
  refine RL.nil ?_
  refine thn_n ?_
  refine CW.cond (t := decide (y3 = (-1))) rfl (fun q5 => ?_) (fun q5 => ?_)
  ·
   have hS := ifT q5 hS
   refine CW.seq (CW.region ?_)
   refine rl_move rfl rfl ?_
   refine rl_assign rfl rfl ?_
   refine RL.nil ?_
   refine thn_n ?_
   refine CW.ret ?_
   refine thn_ret ?_
   obtain rfl := Option.some.inj hS
   exact ret1 rfl ⟨av0, rfl, ah0, lin0, c0⟩
  ·
   have hS := ifF q5 hS
   refine CW.skip ?_
   refine thn_n ?_
   refine CW.seq ?_
   refine CW.seq (CW.region ?_)
   refine rl_move rfl rfl ?_
   refine rl_bin rfl rfl B.add rfl ?_
   refine rl_assign rfl rfl ?_
   refine RL.nil ?_
   refine thn_n ?_
   obtain ⟨o17, ho18, hS⟩ := bindS hS
   refine CW.cutB (fun E' w' => ∃ (x6 : Int) (x7 : Int) (x8 : (List Candidate)), Sub [(0, av0), (5, (Value.int .i64 x6))] E' ∧ Ch (inBlk av0) w w' ∧ Lp.fin (x6, x7, x8) = o17 ∧ (Kd.fn1 Try.prog true k_Candidate Value.bool).rep (G F Bb (un (inBlk av0) S2)) w' a1 [av1] ∧ SlO k_Candidate 32 F Bb (un (inBlk av0) S2) w' x8 av0) ?_ ?_
   ·
    refine CW.loopS [(0, av0), (1, av1), (5, (Value.int .i64 y3)), (6, (Value.int .i64 (IntKind.i64.wrap (y3 + 1))))] ⟨rfl, rfl, rfl, rfl, trivial⟩ FUEL (fun m E w' => ∃ (x6 : Int) (x7 : Int) (x8 : (List Candidate)), E = [(0, av0), (1, av1), (5, (Value.int .i64 x6)), (6, (Value.int .i64 x7))] ∧ Ch (inBlk av0) w w' ∧ runW (F32_slices_DeleteFunc_hints_Candidate_hints__b1 a1) m (x6, x7, x8) = some o17 ∧ (Kd.fn1 Try.prog true k_Candidate Value.bool).rep (G F Bb (un (inBlk av0) S2)) w' a1 [av1] ∧ SlO k_Candidate 32 F Bb (un (inBlk av0) S2) w' x8 av0)
        ⟨y3, IntKind.i64.wrap (y3 + 1), a0, rfl, c0, ho18, ah1, ah0⟩ ?_
    rintro _ _ w23 ⟨x6, x7, x8, rfl, c22, hL12, ah1, h9⟩
    obtain ⟨k21, q14, rfl, hq15⟩ := runW_some hL12
    have hb16 := hq15
    refine CW.seq ?_
    refine CW.seq (CW.region ?_)
    refine rl_move rfl rfl ?_
    refine rl_move rfl rfl ?_
    refine rl_lenR rfl (SlO.read (S' := S2) k_Candidate_pos h9 (fun b hs h => hs ((.inr h))) (fun b hb => hd2 b hb)) Try.underlying22 rfl ?_
    refine rl_bin rfl rfl B.lss rfl ?_
    refine RL.nil ?_
    refine thn_n ?_
    refine CW.cond (t := decide (x7 < ((x8.length : Nat) : Int))) rfl (fun q25 => ?_) (fun q25 => ?_)
    ·
     have hb16 := ifT q25 hb16
     refine CW.skip ?_
     refine thn_n ?_
     refine CW.seq ?_
     refine CW.block ?_
     refine CW.seq (CW.region ?_)
     refine rl_move rfl rfl ?_
     refine rl_move rfl rfl ?_
     obtain ⟨y32, hy33, hb16⟩ := bindS hb16
     refine rl_ixOR rfl h9 rfl (ixO_get hy33) k_Candidate_pos Try.underlying22 Try.sizeOf32 rfl ?_
     intro p26 o27 cs28 hr29 hs30 hg31
     obtain ⟨z34, rfl, h35⟩ := hr29
     refine rl_loadA (cs := (Candidate.c y32 z34)) rfl Try.isAgg32 Try.sizeOf32 (hs30) rfl rfl ?_
     refine rl_alloc (Candidate.c Candidate.z (Value.slice none 0 0)) Try.zeroValue32 rfl rfl ?_
     intro p36 w37 n38 k39
     have lop36 := n38.lo c22.size
     have d40 : ∀ b, inBlk (Value.pointer (some ⟨p36, 0, none⟩)) b → ¬ inBlk av0 b := disNew n38.fresh (fun b hb => (h9.lt b hb).2)
     have ah1 := Kd.st ah1 n38.ch (admNew n38.fresh (fun _ x => x))
     have h9 := h9.st n38.ch (fun _ _ x => x) (admNew n38.fresh (fun _ x => x)) (fun b h => (.inr (.inl h)))
     have h35 := slRep.st kStr_pos h35 n38.ch (admNew n38.fresh (fun _ x => x))
     have c22 := c22.then0 n38.ch
     refine rl_storeA (vs := (Candidate.c y32 z34)) rfl rfl (Kd.one _ (show k_Candidate.rep (G F Bb (un (inBlk (Value.pointer (some ⟨p36, 0, none⟩))) (un (inBlk av0) S2))) w37 y32 (Candidate.c y32 z34) from ⟨z34, rfl, h35⟩)) Try.sizeOf32 rfl k39 rfl ?_
     intro w41 s43 c42 k44
     have ad45 : ∀ b, b < w37.heap.size → ¬ (un (inBlk (Value.pointer (some ⟨p36, 0, none⟩))) (un (inBlk av0) S2)) b → ¬ inBlk (Value.pointer (some ⟨p36, 0, none⟩)) b ∧ ¬ (un (inBlk (Value.pointer (some ⟨p36, 0, none⟩))) (un (inBlk av0) S2)) b := fun b _ hs => ⟨fun h => hs (.inl h), hs⟩
     have ah1 := Kd.st ah1 c42 ad45
     have h9 := h9.st c42 (disSym d40) ad45 (fun b h => (.inr (.inl h)))
     have h35 := slRep.st kStr_pos h35 c42 ad45
     have c22 := c22.then c42 (fun i hi h => absurd (lop36 i h) (Nat.not_le_of_lt hi))
     refine RL.nil ?_
     refine thn_n ?_
     refine CW.seq (CW.region ?_)
     refine rl_move rfl rfl ?_
     refine rl_loadA (cs := (Candidate.c y32 z34)) rfl Try.isAgg32 Try.sizeOf32 (k44.segAt 0 23) rfl rfl ?_
     refine rl_fn1 (c := (Candidate.c y32 z34)) rfl rfl rfl ah1 (F' := (G F Bb (un (inBlk (Value.pointer (some ⟨p36, 0, none⟩))) (un (inBlk av0) S2)))) (xx := y32) (show k_Candidate.rep (G F Bb (un (inBlk (Value.pointer (some ⟨p36, 0, none⟩))) (un (inBlk av0) S2))) w41 y32 (Candidate.c y32 z34) from ⟨z34, rfl, h35⟩) rfl ?_
     intro w46 c47
     have ah1 := Kd.ch ah1 c47
     have h9 := h9.ch0 c47
     have h35 := slRep.ch kStr_pos h35 c47
     have k44 := k44.ch0 c47
     have c22 := c22.then0 c47
     refine rl_not rfl rfl ?_
     refine RL.nil ?_
     refine thn_n ?_
     refine CW.cond (t := !(a1 y32)) rfl (fun q48 => ?_) (fun q48 => ?_)
     ·
      have hb16 := ifT q48 hb16
      refine CW.seq (CW.region ?_)
      refine rl_move rfl rfl ?_
      refine rl_move rfl rfl ?_
      refine rl_loadA (cs := (Candidate.c y32 z34)) rfl Try.isAgg32 Try.sizeOf32 (k44.segAt 0 23) rfl rfl ?_
      obtain ⟨y55, hy56, hb16⟩ := bindS hb16
      refine rl_ixO rfl h9 rfl (ixO_get hy56) Try.underlying22 Try.sizeOf32 rfl ?_
      intro p49 hg54
      refine rl_storeOA rfl rfl Try.sizeOf32 h9 hg54 (ixO_lt hy56) (show k_Candidate.rep (G F Bb (un (inBlk (Value.pointer (some ⟨p36, 0, none⟩))) (un (inBlk av0) S2))) w46 y32 (Candidate.c y32 z34) from ⟨z34, rfl, h35⟩) ?_
      intro w57 c58 h59
      have ad60 : ∀ b, b < w46.heap.size → ¬ (un (inBlk (Value.pointer (some ⟨p36, 0, none⟩))) (un (inBlk av0) S2)) b → ¬ inBlk av0 b ∧ ¬ (un (inBlk (Value.pointer (some ⟨p36, 0, none⟩))) (un (inBlk av0) S2)) b := fun b _ hs => ⟨fun h => hs (.inr (.inl h)), hs⟩
      have ah1 := Kd.st ah1 c58 ad60
      have h35 := slRep.st kStr_pos h35 c58 ad60
      have k44 := k44.ch c58 (d40 _ rfl)
      have c22 := c22.then c58 (fun i hi h => (lin0 i h).elim (fun x => x) (fun x => absurd x (Nat.not_le_of_lt hi)))
      refine RL.nil ?_
      refine thn_n ?_
      refine CW.region ?_
      refine rl_move rfl rfl ?_
      refine rl_bin rfl rfl B.add rfl ?_
      refine rl_assign rfl rfl ?_
      refine RL.nil ?_
      refine inB_n ?_
      refine thn_n ?_
      refine CW.region ?_
      refine rl_move rfl rfl ?_
      refine rl_bin rfl rfl B.add rfl ?_
      refine rl_assign rfl rfl ?_
      refine RL.nil ?_
      refine thn_n ?_
      have crf : Ch nb w57 w57 := Ch.refl
      have ah1 := Kd.st ah1 crf (show ∀ b, b < w57.heap.size → ¬ (un (inBlk (Value.pointer (some ⟨p36, 0, none⟩))) (un (inBlk av0) S2)) b → ¬ nb b ∧ ¬ (un (inBlk av0) S2) b from fun b _ hs => ⟨fun x => x, fun h => hs (un_el h (fun h => (.inr (.inl h))) (fun h => (.inr (.inr h))))⟩)
      have h35 := slRep.st kStr_pos h35 crf (show ∀ b, b < w57.heap.size → ¬ (un (inBlk (Value.pointer (some ⟨p36, 0, none⟩))) (un (inBlk av0) S2)) b → ¬ nb b ∧ ¬ (un (inBlk av0) S2) b from fun b _ hs => ⟨fun x => x, fun h => hs (un_el h (fun h => (.inr (.inl h))) (fun h => (.inr (.inr h))))⟩)
      have h59 := h59.st crf (fun _ _ x => x) (show ∀ b, b < w57.heap.size → ¬ (un (inBlk (Value.pointer (some ⟨p36, 0, none⟩))) (un (inBlk av0) S2)) b → ¬ nb b ∧ ¬ (un (inBlk av0) S2) b from fun b _ hs => ⟨fun x => x, fun h => hs (un_el h (fun h => (.inr (.inl h))) (fun h => (.inr (.inr h))))⟩) (fun b h => (.inl h))
      have c22 := c22.then0 crf
      have hLn := runW_next hL12 hq15 hb16
      exact ⟨k21, Nat.lt_succ_self _, [(0, av0), (1, av1), (5, (Value.int .i64 (IntKind.i64.wrap (x6 + 1)))), (6, (Value.int .i64 (IntKind.i64.wrap (x7 + 1))))], ⟨rfl, rfl, rfl, rfl, trivial⟩, ⟨IntKind.i64.wrap (x6 + 1), IntKind.i64.wrap (x7 + 1), x8.set x6.toNat y32, rfl, c22, hLn, ah1, h59⟩⟩
     ·
      have hb16 := ifF q48 hb16
      refine CW.skip ?_
      refine inB_n ?_
      refine thn_n ?_
      refine CW.region ?_
      refine rl_move rfl rfl ?_
      refine rl_bin rfl rfl B.add rfl ?_
      refine rl_assign rfl rfl ?_
      refine RL.nil ?_
      refine thn_n ?_
      have crf : Ch nb w46 w46 := Ch.refl
      have ah1 := Kd.st ah1 crf (show ∀ b, b < w46.heap.size → ¬ (un (inBlk (Value.pointer (some ⟨p36, 0, none⟩))) (un (inBlk av0) S2)) b → ¬ nb b ∧ ¬ (un (inBlk av0) S2) b from fun b _ hs => ⟨fun x => x, fun h => hs (un_el h (fun h => (.inr (.inl h))) (fun h => (.inr (.inr h))))⟩)
      have h9 := h9.st crf (fun _ _ x => x) (show ∀ b, b < w46.heap.size → ¬ (un (inBlk (Value.pointer (some ⟨p36, 0, none⟩))) (un (inBlk av0) S2)) b → ¬ nb b ∧ ¬ (un (inBlk av0) S2) b from fun b _ hs => ⟨fun x => x, fun h => hs (un_el h (fun h => (.inr (.inl h))) (fun h => (.inr (.inr h))))⟩) (fun b h => (.inl h))
      have h35 := slRep.st kStr_pos h35 crf (show ∀ b, b < w46.heap.size → ¬ (un (inBlk (Value.pointer (some ⟨p36, 0, none⟩))) (un (inBlk av0) S2)) b → ¬ nb b ∧ ¬ (un (inBlk av0) S2) b from fun b _ hs => ⟨fun x => x, fun h => hs (un_el h (fun h => (.inr (.inl h))) (fun h => (.inr (.inr h))))⟩)
      have c22 := c22.then0 crf
      have hLn := runW_next hL12 hq15 hb16
      exact ⟨k21, Nat.lt_succ_self _, [(0, av0), (1, av1), (5, (Value.int .i64 x6)), (6, (Value.int .i64 (IntKind.i64.wrap (x7 + 1))))], ⟨rfl, rfl, rfl, rfl, trivial⟩, ⟨x6, IntKind.i64.wrap (x7 + 1), x8, rfl, c22, hLn, ah1, h9⟩⟩
    ·
     have hb16 := ifF q25 hb16
     refine CW.exit ?_
     refine thn_exit ?_
     refine thn_exit ?_
     refine inB_hit ?_
     have hLf := runW_fin hL12 hq15 hb16
     exact ⟨x6, x7, x8, ⟨rfl, rfl, trivial⟩, c22, hLf, ah1, h9⟩
   ·
    rintro _ w62 ⟨x6, x7, x8, hE63, c61, f64, ah1, h9⟩
    have hS := finS f64 hS
    refine thn_n (CW.sub [(0, av0), (5, (Value.int .i64 x6))] hE63 ?_)
    refine CW.seq (CW.region ?_)
    refine rl_move rfl rfl ?_
    refine rl_move rfl rfl ?_
    obtain ⟨y66, hy67, hS⟩ := bindS hS
    refine rl_cutS rfl h9 rfl hy67 Try.underlying22 Try.sizeOf32 rfl ?_
    intro v68 h69
    refine rl_clearO (z0 := Candidate.z) rfl h69 (slO_le hy67) Try.underlying22 Try.zeroValue32 h9 (show k_Candidate.rep (G F Bb (un (inBlk av0) S2)) w62 Candidate.z (Candidate.c Candidate.z (Value.slice none 0 0)) from ⟨(Value.slice none 0 0), rfl, (.inl ⟨rfl, rfl⟩)⟩) ?_
    intro w70 c71 h72
    have ad73 : ∀ b, b < w62.heap.size → ¬ (un (inBlk av0) S2) b → ¬ inBlk av0 b ∧ ¬ (un (inBlk av0) S2) b := fun b _ hs => ⟨fun h => hs (.inl h), hs⟩
    have ah1 := Kd.st ah1 c71 ad73
    have c61 := c61.then c71 (fun i hi h => (lin0 i h).elim (fun x => x) (fun x => absurd x (Nat.not_le_of_lt hi)))
    refine RL.nil ?_
    refine thn_n ?_
    refine CW.seq (CW.region ?_)
    refine rl_move rfl rfl ?_
    refine rl_move rfl rfl ?_
    obtain ⟨y74, hy75, hS⟩ := bindS hS
    refine rl_cutO (kl := .i64) (kh := .i64) none (some x6) rfl h72 trivial rfl rfl hy75 Try.underlying22 Try.sizeOf32 rfl ?_
    intro v76 hb78 h77
    have lin79 : ∀ b, inBlk v76 b → inBlk av0 b ∨ w.heap.size ≤ b := fun b h => lin0 b ((hb78 b).1 h)
    have hS80 : (un (inBlk av0) S2) = (un (inBlk v76) S2) := by rw [show inBlk v76 = inBlk av0 from funext fun b => propext (hb78 b)]
    rw [hS80] at h77 ah1
    refine rl_assign rfl rfl ?_
    refine RL.nil ?_
    refine thn_n ?_
    refine CW.ret ?_
    obtain rfl := Option.some.inj hS
    exact ret1 rfl ⟨v76, rfl, h77, lin79, c61⟩
/-- lb/hints.kept -/
theorem ctr22 (F : Nat → Prop) (w : World) (a0 : (List Candidate)) (av0 : Value) (ah0 : slRep k_Candidate F w a0 av0) (a1 : (Candidate → Bool)) (av1 : Value) (ah1 : (Kd.fn1 Try.prog true k_Candidate Value.bool).rep F w a1 [av1]) (r : (List Candidate)) (hs : F22_hints_kept a0 a1 = some r) :
    Ret Try.prog 22 #[av0, av1] w fun v w' => ∃ y0 : Value, v = y0 ∧ SlO k_Candidate 32 F w.heap.size (inBlk y0) w' r y0 ∧ Ch nb w w' := by
  have hS := hs
  have c0 : Ch nb w w := Ch.refl
  have ah0 := slRep.enter k_Candidate_pos ah0
  have ah1 := Kd.enter ah1
  refine Ret.of (n := 9) (args := [_, _]) (rs := [.tmp 4]) Try.func22 rfl rfl rfl rfl ?_
  refine CW.seq (CW.region ?_)
  refine rl_box [av1] rfl (fn_cells1 ah1) rfl ?_
  intro p1 w2 n3 k4
  have gp1 : (G F w.heap.size nb) p1 := ⟨.inr (by rw [n3.eq]; exact c0.size), fun h => absurd (nbS _ h) (by rw [n3.eq]; exact Nat.lt_irrefl _)⟩
  have ah0 := slRep.ch k_Candidate_pos ah0 n3.ch
  have ah1 := Kd.ch ah1 n3.ch
  have c0 := c0.then0 n3.ch
  refine rl_assign rfl rfl ?_
  refine RL.nil ?_
  refine thn_n ?_
  refine CW.seq (CW.region ?_)
  refine rl_move rfl rfl ?_
  obtain ⟨y7, hy8, hS⟩ := bindS hS
  refine rl_callF rfl en33 rfl (ctr33 (G F w.heap.size nb) w2 a0 av0 ah0 y7 hy8) ?_
  rintro v9 w5 ⟨_, rfl, h10, c6⟩
  have hf11 : ∀ b, inBlk v9 b → w2.heap.size ≤ b := fun b hb => (h10.lt b hb).1
  have h10 := SlO.back (S' := un (inBlk v9) nb) h10 nbS c0.size (fun _ => Or.comm)
  have ah0 := slRep.st k_Candidate_pos ah0 c6 (admNew hf11 (fun _ x => x))
  have ah1 := Kd.st ah1 c6 (admNew hf11 (fun _ x => x))
  have gp1n : (G F w.heap.size (un (inBlk v9) nb)) p1 := ⟨gp1.1, ((admNew hf11 (fun _ x => x)) _ k4.lt gp1.2).2⟩
  have k4 := k4.ch0 c6
  have gp1 := gp1n
  have c0 := c0.then0 c6
  refine rl_makeFunc rfl rfl ?_
  have hd12 : ∀ b, inBlk v9 b → ¬ nb b := (fun b hb => fun h => h)
  have hS13 : (un (inBlk v9) nb) = un (inBlk v9) nb := funext fun _ => propext Iff.rfl
  have ha14 := (show (Kd.fn1 Try.prog true k_Candidate Value.bool).rep (G F w.heap.size (un (inBlk v9) nb)) w5 (fun x0 => F34_hints_kept_1 x0 a1) [(Value.func (.func 34) #[] [(Value.pointer (some ⟨p1, 0, none⟩))].toArray)] from ⟨34, [(Value.pointer (some ⟨p1, 0, none⟩))], rfl, en34, fun w' hw F' x0 c0 hx0 => by
      obtain ⟨u0_0, rfl, e0_0⟩ := hx0
      exact (ctr34 (fun b => (G F w.heap.size (un (inBlk v9) nb)) b ∨ F' b) w' x0 u0_0 (slRep.wk kStr_pos e0_0 fun _ _ h => .inr h) a1 (Value.pointer (some ⟨p1, 0, none⟩)) (Kd.mono _ (show ((Kd.fn1 Try.prog true k_Candidate Value.bool).box 51).rep (G F w.heap.size (un (inBlk v9) nb)) w5 a1 [(Value.pointer (some ⟨p1, 0, none⟩))] from ⟨p1, _, rfl, gp1, k4, ah1⟩) fun b hb hf => ⟨.inl hf, (hw b hb hf).2⟩) _ rfl).mono (by rintro v w'' ⟨rfl, c⟩; exact ⟨rfl, c⟩)⟩)
  rw [hS13] at ha14
  obtain ⟨y17, hy18, hS⟩ := bindS hS
  refine rl_callF rfl en32 rfl (ctr32 F w5 w.heap.size nb c0.size nbS v9 hd12 y7 (hS13 ▸ h10) (fun x0 => F34_hints_kept_1 x0 a1) (Value.func (.func 34) #[] [(Value.pointer (some ⟨p1, 0, none⟩))].toArray) ha14 y17 hy18) ?_
  rintro v19 w15 ⟨_, rfl, h20, hf21, c16⟩
  have ha22 : ∀ b, b < w5.heap.size → ¬ (un (inBlk v9) nb) b → ¬ inBlk v9 b ∧ ¬ (un (inBlk v19) nb) b := by rw [hS13]; exact admApp hf21
  have ah0 := slRep.st k_Candidate_pos ah0 c16 ha22
  have ah1 := Kd.st ah1 c16 ha22
  have gp1n : (G F w.heap.size (un (inBlk v19) nb)) p1 := ⟨gp1.1, (ha22 _ k4.lt gp1.2).2⟩
  have k4 := k4.ch c16 (ha22 _ k4.lt gp1.2).1
  have gp1 := gp1n
  have c0 := c0.then c16 (fun i hi h => absurd ((fun b hb => (h10.lt b hb).1) i h) (Nat.not_le_of_lt hi))
  refine rl_assign rfl rfl ?_
  refine RL.nil ?_
  refine thn_n ?_
  refine CW.ret ?_
  obtain rfl := Option.some.inj hS
  exact ret1 rfl ⟨v19, rfl, h20.out, c0⟩
/-- lb/hints.ready$1 -/
theorem ctr31 (F : Nat → Prop) (w : World) (a0 : Candidate) (az0_0 : Value) (ah0_0 : slRep kStr F w a0.zones az0_0) (r : Bool) (hs : F31_hints_ready_1 a0 = r) :
    Ret Try.prog 31 #[(Value.agg (Candidate.c a0 az0_0).toArray)] w fun v w' => v = (Value.bool r) ∧ Ch nb w w' := by
  have hS := hs
  have c0 : Ch nb w w := Ch.refl
  have ah0_0 := slRep.enter kStr_pos ah0_0
  refine Ret.of (n := 5) (args := [_]) (rs := [.tmp 2]) Try.func31 rfl rfl rfl rfl ?_
  refine CW.seq (CW.region ?_)
  refine rl_boxA (cs := (Candidate.c a0 az0_0)) rfl rfl ?_
  intro p1 w2 n3 k4
  have gp1 : (G F w.heap.size nb) p1 := ⟨.inr (by rw [n3.eq]; exact c0.size), fun h => absurd (nbS _ h) (by rw [n3.eq]; exact Nat.lt_irrefl _)⟩
  have ah0_0 := slRep.ch kStr_pos ah0_0 n3.ch
  have c0 := c0.then0 n3.ch
  refine rl_assign rfl rfl ?_
  refine RL.nil ?_
  refine thn_n ?_
  refine CW.seq (CW.region ?_)
  refine rl_fieldAddr rfl fa32_2 rfl ?_
  refine rl_loadS (v := (Value.bool a0.ready)) rfl Try.isAgg4 (k4.cell rfl) rfl ?_
  refine rl_assign rfl rfl ?_
  refine RL.nil ?_
  refine thn_n ?_
  refine CW.ret ?_
  obtain rfl := hS
  exact ret1 rfl ⟨rfl, c0⟩
/-- lb/hints.ready -/
theorem ctr21 (F : Nat → Prop) (w : World) (a0 : (List Candidate)) (av0 : Value) (ah0 : slRep k_Candidate F w a0 av0) (r : (List Candidate)) (hs : F21_hints_ready a0 = some r) :
    Ret Try.prog 21 #[av0] w fun v w' => ∃ y0 : Value, v = y0 ∧ SlO k_Candidate 32 F w.heap.size (inBlk y0) w' r y0 ∧ Ch nb w w' := by
  have hS := hs
  have c0 : Ch nb w w := Ch.refl
  have ah0 := slRep.enter k_Candidate_pos ah0
  refine Ret.of (n := 5) (args := [_]) (rs := [.tmp 2]) Try.func21 rfl rfl rfl rfl ?_
  refine CW.seq (CW.region ?_)
  refine rl_assign rfl rfl ?_
  refine RL.nil ?_
  refine thn_n ?_
  refine CW.seq (CW.region ?_)
  refine rl_move rfl rfl ?_
  obtain ⟨y3, hy4, hS⟩ := bindS hS
  refine rl_callF rfl en22 rfl (ctr22 (G F w.heap.size nb) w a0 av0 ah0 (fun x0 => F31_hints_ready_1 x0) (Value.func (.func 31) #[] [].toArray) (show (Kd.fn1 Try.prog true k_Candidate Value.bool).rep (G F w.heap.size nb) w (fun x0 => F31_hints_ready_1 x0) [(Value.func (.func 31) #[] [].toArray)] from ⟨31, [], rfl, en31, fun w' hw F' x0 c0 hx0 => by
      obtain ⟨u0_0, rfl, e0_0⟩ := hx0
      exact (ctr31 (fun b => (G F w.heap.size nb) b ∨ F' b) w' x0 u0_0 (slRep.wk kStr_pos e0_0 fun _ _ h => .inr h) _ rfl).mono (by rintro v w'' ⟨rfl, c⟩; exact ⟨rfl, c⟩)⟩) y3 hy4) ?_
  rintro v5 w1 ⟨_, rfl, h6, c2⟩
  have hf7 : ∀ b, inBlk v5 b → w.heap.size ≤ b := fun b hb => (h6.lt b hb).1
  have h6 := SlO.back (S' := un (inBlk v5) nb) h6 nbS c0.size (fun _ => Or.comm)
  have ah0 := slRep.st k_Candidate_pos ah0 c2 (admNew hf7 (fun _ x => x))
  have c0 := c0.then0 c2
  refine rl_assign rfl rfl ?_
  refine RL.nil ?_
  refine thn_n ?_
  refine CW.ret ?_
  obtain rfl := Option.some.inj hS
  exact ret1 rfl ⟨v5, rfl, h6.out, c0⟩
/-- slices.ContainsFunc[[]lb/hints.Candidate,lb/hints.Candidate] -/
theorem ctr28 (F : Nat → Prop) (w : World) (a0 : (List Candidate)) (av0 : Value) (ah0 : slRep k_Candidate F w a0 av0) (a1 : (Candidate → Bool)) (av1 : Value) (ah1 : (Kd.fn1 Try.prog true k_Candidate Value.bool).rep F w a1 [av1]) (r : Bool) (hs : F28_slices_ContainsFunc_hints_Candidate_hint a0 a1 = r) :
    Ret Try.prog 28 #[av0, av1] w fun v w' => v = (Value.bool r) ∧ Ch nb w w' := by
  have hS := hs
  have c0 : Ch nb w w := Ch.refl
  have ah0 := slRep.enter k_Candidate_pos ah0
  have ah1 := Kd.enter ah1
  refine Ret.of (n := 9) (args := [_, _]) (rs := [.tmp 4]) Try.func28 rfl rfl rfl rfl ?_
  refine CW.seq (CW.region ?_)
  refine rl_assign rfl rfl ?_
  refine RL.nil ?_
  refine thn_n ?_
  refine CW.seq (CW.region ?_)
  refine rl_move rfl rfl ?_
  refine rl_move rfl rfl ?_
  obtain ⟨y3, hy4⟩ : ∃ y, F38_slices_IndexFunc_hints_Candidate_hints_C a0 a1 = y := ⟨_, rfl⟩
  have hS := ltS hy4 hS
  refine rl_callF rfl en38 rfl (ctr38 (G F w.heap.size nb) w a0 av0 ah0 a1 av1 ah1 y3 hy4) ?_
  rintro _ w1 ⟨rfl, c2⟩
  have ah0 := slRep.ch k_Candidate_pos ah0 c2
  have ah1 := Kd.ch ah1 c2
  have c0 := c0.then0 c2
  refine rl_bin rfl rfl B.geq rfl ?_
  refine rl_assign rfl rfl ?_
  refine RL.nil ?_
  refine thn_n ?_
  refine CW.ret ?_
  obtain rfl := hS
  exact ret1 rfl ⟨rfl, c0⟩
/-- lb/hints.Count$1 -/
theorem ctr29 (F : Nat → Prop) (w : World) (a0 : Candidate) (az0_0 : Value) (ah0_0 : slRep kStr F w a0.zones az0_0) (r : Bool) (hs : F29_hints_Count_1 a0 = r) :
    Ret Try.prog 29 #[(Value.agg (Candidate.c a0 az0_0).toArray)] w fun v w' => v = (Value.bool r) ∧ Ch nb w w' := by
  have hS := hs
  have c0 : Ch nb w w := Ch.refl
  have ah0_0 := slRep.enter kStr_pos ah0_0
  refine Ret.of (n := 7) (args := [_]) (rs := [.tmp 2]) Try.func29 rfl rfl rfl rfl ?_
  refine CW.seq (CW.region ?_)
  refine rl_boxA (cs := (Candidate.c a0 az0_0)) rfl rfl ?_
  intro p1 w2 n3 k4
  have gp1 : (G F w.heap.size nb) p1 := ⟨.inr (by rw [n3.eq]; exact c0.size), fun h => absurd (nbS _ h) (by rw [n3.eq]; exact Nat.lt_irrefl _)⟩
  have ah0_0 := slRep.ch kStr_pos ah0_0 n3.ch
  have c0 := c0.then0 n3.ch
  refine rl_assign rfl rfl ?_
  refine RL.nil ?_
  refine thn_n ?_
  refine CW.seq (CW.region ?_)
  refine rl_fieldAddr rfl fa32_5 rfl ?_
  refine rl_loadS (v := az0_0) rfl Try.isAgg30 (k4.cell rfl) rfl ?_
  refine rl_lenR rfl ah0_0 Try.underlying30 rfl ?_
  refine rl_bin rfl rfl B.eql rfl ?_
  refine rl_assign rfl rfl ?_
  refine RL.nil ?_
  refine thn_n ?_
  refine CW.ret ?_
  obtain rfl := hS
  exact ret1 rfl ⟨rfl, c0⟩
/-- slices.Index[[]string,string] -/
theorem ctr37 (F : Nat → Prop) (w : World) (a0 : (List ByteArray)) (av0 : Value) (ah0 : slRep kStr F w a0 av0) (a1 : ByteArray) (r : Int) (hs : F37_slices_Index_string_string a0 a1 = r) :
    Ret Try.prog 37 #[av0, (Value.string a1)] w fun v w' => v = (Value.int .i64 r) ∧ Ch nb w w' := by
  have hS := hs
  have c0 : Ch nb w w := Ch.refl
  have ah0 := slRep.enter kStr_pos ah0
  refine Ret.of (n := 19) (args := [_, _]) (rs := [.tmp 4]) Try.func37 rfl rfl rfl rfl ?_
  refine CW.seq (CW.region ?_)
  refine rl_assign rfl rfl ?_
  refine RL.nil ?_
  refine thn_n ?_
  refine CW.seq ?_
  refine CW.seq (CW.region ?_)
  refine rl_move rfl rfl ?_
  refine rl_lenR rfl ah0 Try.underlying30 rfl ?_
  refine rl_move rfl rfl ?_
  refine RL.nil ?_
  refine thn_n ?_
  obtain ⟨o8, ho9⟩ : ∃ o, runB (F37_slices_Index_string_string_b1 a1) a0 0 = o := ⟨_, rfl⟩
  have hS := ltS ho9 hS
  refine CW.cutB (fun E' w' => ∃ (ix15 : Nat), Sub [] E' ∧ Ch nb w w' ∧ Lp.fin ix15 = o8 ∧ slRep kStr (G F w.heap.size nb) w' a0 av0) ?_ ?_
  ·
   refine CW.loopS [(0, av0), (1, (Value.string a1)), (7, (Value.int .i64 ((a0.length : Nat) : Int))), (8, (Value.int .i64 ((0 : Nat) : Int)))] ⟨rfl, rfl, rfl, rfl, trivial⟩ a0.length (fun m E w' => ∃ (rest1 : List ByteArray) (i2 : Nat) , m = rest1.length ∧ E = [(0, av0), (1, (Value.string a1)), (7, (Value.int .i64 ((a0.length : Nat) : Int))), (8, (Value.int .i64 ((i2 : Nat) : Int)))] ∧ Ch nb w w' ∧ At a0 i2 rest1 ∧ runB (F37_slices_Index_string_string_b1 a1) rest1 i2 = o8 ∧ slRep kStr (G F w.heap.size nb) w' a0 av0)
       ⟨a0, 0, rfl, rfl, c0, At.start, ho9, ah0⟩ ?_
   rintro _ _ w14 ⟨rest1, i2, rfl, rfl, c13, hat4, hL3, ah0⟩
   refine CW.seq (CW.region ?_)
   refine rl_bin rfl rfl B.lss rfl ?_
   refine RL.nil (thn_n ?_)
   refine CW.seq ?_
   refine CW.cond (t := decide (((i2 : Nat) : Int) < ((a0.length : Nat) : Int))) rfl (fun q16 => ?_) (fun q16 => ?_)
   ·
    obtain ⟨x10, rest17, rfl⟩ := hat4.cons q16
    obtain ⟨q5, hq6⟩ : ∃ q, (F37_slices_Index_string_string_b1 a1) x10 i2 = q := ⟨_, rfl⟩
    have hb7 := hq6
    refine CW.skip (thn_n ?_)
    refine CW.seq ?_
    refine CW.block ?_
    refine CW.seq (CW.region ?_)
    refine rl_move rfl rfl ?_
    refine rl_assign rfl rfl ?_
    refine RL.nil ?_
    refine thn_n ?_
    refine CW.seq (CW.region ?_)
    refine rl_move rfl rfl ?_
    refine rl_move rfl rfl ?_
    refine rl_move rfl rfl ?_
    refine rl_ixR rfl ah0 rfl hat4.get Try.underlying30 Try.sizeOf9 rfl ?_
    intro p18 o19 cs20 hr21 hs22 hg23
    obtain rfl := hr21
    refine rl_loadS (v := (Value.string x10)) rfl Try.isAgg9 (hs22 0 _ rfl) rfl ?_
    refine rl_bin rfl rfl B.eqlS rfl ?_
    refine RL.nil ?_
    refine thn_n ?_
    refine CW.cond (t := decide (a1 = x10)) rfl (fun q24 => ?_) (fun q24 => ?_)
    ·
     have hb7 := ifT q24 hb7
     refine CW.seq (CW.region ?_)
     refine rl_move rfl rfl ?_
     refine rl_assign rfl rfl ?_
     refine RL.nil ?_
     refine thn_n ?_
     refine CW.ret ?_
     refine inB_ret ?_
     refine thn_ret ?_
     refine thn_ret (inB_ret (thn_ret ?_))
     refine thn_ret ?_
     have f25 := runB_ret hL3 (hb7.trans hq6.symm)
     have hS := retS f25 hS
     obtain rfl := hS
     exact ret1 rfl ⟨rfl, c13⟩
    ·
     have hb7 := ifF q24 hb7
     refine CW.skip ?_
     refine inB_n ?_
     refine thn_n ?_
     refine CW.region ?_
     refine rl_inc rfl hat4.lt ah0.big rfl ?_
     refine rl_move rfl rfl ?_
     refine RL.nil ?_
     refine thn_n ?_
     have hLn := runB_next hL3 (hb7.trans hq6.symm)
     exact ⟨rest17.length, Nat.lt_succ_self _, [(0, av0), (1, (Value.string a1)), (7, (Value.int .i64 ((a0.length : Nat) : Int))), (8, (Value.int .i64 ((i2 + 1 : Nat) : Int)))], ⟨rfl, rfl, rfl, rfl, trivial⟩, ⟨rest17, i2 + 1, rfl, rfl, c13, hat4.next, hLn, ah0⟩⟩
   ·
    obtain rfl := hat4.nil q16
    have hLf : Lp.fin i2 = o8 := hL3
    refine CW.exit (thn_exit (thn_exit (inB_hit ?_)))
    exact ⟨i2, trivial, c13, hLf, ah0⟩
  ·
   rintro _ w27 ⟨ix15, hE28, c26, f29, ah0⟩
   have hS := finS f29 hS
   refine thn_n (CW.sub [] hE28 ?_)
   refine CW.seq (CW.region ?_)
   refine rl_assign rfl rfl ?_
   refine RL.nil ?_
   refine thn_n ?_
   refine CW.ret ?_
   obtain rfl := hS
   exact ret1 rfl ⟨rfl, c26⟩
/-- slices.Contains[[]string,string] -/
theorem ctr26 (F : Nat → Prop) (w : World) (a0 : (List ByteArray)) (av0 : Value) (ah0 : slRep kStr F w a0 av0) (a1 : ByteArray) (r : Bool) (hs : F26_slices_Contains_string_string a0 a1 = r) :
    Ret Try.prog 26 #[av0, (Value.string a1)] w fun v w' => v = (Value.bool r) ∧ Ch nb w w' := by
  have hS := hs
  have c0 : Ch nb w w := Ch.refl
  have ah0 := slRep.enter kStr_pos ah0
  refine Ret.of (n := 9) (args := [_, _]) (rs := [.tmp 4]) Try.func26 rfl rfl rfl rfl ?_
  refine CW.seq (CW.region ?_)
  refine rl_assign rfl rfl ?_
  refine RL.nil ?_
  refine thn_n ?_
  refine CW.seq (CW.region ?_)
  refine rl_move rfl rfl ?_
  refine rl_move rfl rfl ?_
  obtain ⟨y3, hy4⟩ : ∃ y, F37_slices_Index_string_string a0 a1 = y := ⟨_, rfl⟩
  have hS := ltS hy4 hS
  refine rl_callF rfl en37 rfl (ctr37 (G F w.heap.size nb) w a0 av0 ah0 a1 y3 hy4) ?_
  rintro _ w1 ⟨rfl, c2⟩
  have ah0 := slRep.ch kStr_pos ah0 c2
  have c0 := c0.then0 c2
  refine rl_bin rfl rfl B.geq rfl ?_
  refine rl_assign rfl rfl ?_
  refine RL.nil ?_
  refine thn_n ?_
  refine CW.ret ?_
  obtain rfl := hS
  exact ret1 rfl ⟨rfl, c0⟩
/-- lb/hints.Meant -/
theorem ctr10 (F : Nat → Prop) (w : World) (a0 : Candidate) (az0_0 : Value) (ah0_0 : slRep kStr F w a0.zones az0_0) (a1 : ByteArray) (r : Bool) (hs : F10_hints_Meant a0 a1 = r) :
    Ret Try.prog 10 #[(Value.agg (Candidate.c a0 az0_0).toArray), (Value.string a1)] w fun v w' => v = (Value.bool r) ∧ Ch nb w w' := by
  have hS := hs
  have c0 : Ch nb w w := Ch.refl
  have ah0_0 := slRep.enter kStr_pos ah0_0
  refine Ret.of (n := 9) (args := [_, _]) (rs := [.tmp 4]) Try.func10 rfl rfl rfl rfl ?_
  refine CW.seq (CW.region ?_)
  refine rl_boxA (cs := (Candidate.c a0 az0_0)) rfl rfl ?_
  intro p1 w2 n3 k4
  have gp1 : (G F w.heap.size nb) p1 := ⟨.inr (by rw [n3.eq]; exact c0.size), fun h => absurd (nbS _ h) (by rw [n3.eq]; exact Nat.lt_irrefl _)⟩
  have ah0_0 := slRep.ch kStr_pos ah0_0 n3.ch
  have c0 := c0.then0 n3.ch
  refine rl_assign rfl rfl ?_
  refine RL.nil ?_
  refine thn_n ?_
  refine CW.seq (CW.region ?_)
  refine rl_fieldAddr rfl fa32_5 rfl ?_
  refine rl_loadS (v := az0_0) rfl Try.isAgg30 (k4.cell rfl) rfl ?_
  refine rl_move rfl rfl ?_
  obtain ⟨y7, hy8⟩ : ∃ y, F26_slices_Contains_string_string a0.zones a1 = y := ⟨_, rfl⟩
  have hS := ltS hy8 hS
  refine rl_callF rfl en26 rfl (ctr26 (G F w.heap.size nb) w2 a0.zones az0_0 ah0_0 a1 y7 hy8) ?_
  rintro _ w5 ⟨rfl, c6⟩
  have ah0_0 := slRep.ch kStr_pos ah0_0 c6
  have k4 := k4.ch0 c6
  have c0 := c0.then0 c6
  refine rl_assign rfl rfl ?_
  refine RL.nil ?_
  refine thn_n ?_
  refine CW.ret ?_
  obtain rfl := hS
  exact ret1 rfl ⟨rfl, c0⟩
/-- lb/hints.Count$2 -/
theorem ctr30 (F : Nat → Prop) (w : World) (a0 : Candidate) (az0_0 : Value) (ah0_0 : slRep kStr F w a0.zones az0_0) (a1 : ByteArray) (av1 : Value) (ah1 : (kStr.box 9).rep F w a1 [av1]) (r : Bool) (hs : F30_hints_Count_2 a0 a1 = r) :
    Ret Try.prog 30 #[(Value.agg (Candidate.c a0 az0_0).toArray), av1] w fun v w' => v = (Value.bool r) ∧ Ch nb w w' := by
  have hS := hs
  have c0 : Ch nb w w := Ch.refl
  have ah0_0 := slRep.enter kStr_pos ah0_0
  have ah1 := Kd.enter ah1
  refine Ret.of (n := 7) (args := [_, _]) (rs := [.tmp 3]) Try.func30 rfl rfl rfl rfl ?_
  refine CW.seq (CW.region ?_)
  refine rl_boxA (cs := (Candidate.c a0 az0_0)) rfl rfl ?_
  intro p1 w2 n3 k4
  have gp1 : (G F w.heap.size nb) p1 := ⟨.inr (by rw [n3.eq]; exact c0.size), fun h => absurd (nbS _ h) (by rw [n3.eq]; exact Nat.lt_irrefl _)⟩
  have ah0_0 := slRep.ch kStr_pos ah0_0 n3.ch
  have ah1 := Kd.ch ah1 n3.ch
  have c0 := c0.then0 n3.ch
  refine rl_assign rfl rfl ?_
  refine RL.nil ?_
  refine thn_n ?_
  refine CW.seq (CW.region ?_)
  refine rl_loadA (cs := (Candidate.c a0 az0_0)) rfl Try.isAgg32 Try.sizeOf32 (k4.segAt 0 23) rfl rfl ?_
  obtain ⟨p5, cc6, e7, gf8, k9, h10⟩ := ah1
  obtain rfl := (List.cons.inj e7).1
  obtain rfl := h10
  refine rl_loadS (v := (Value.string a1)) rfl Try.isAgg9 (k9.cell rfl) rfl ?_
  obtain ⟨y13, hy14⟩ : ∃ y, F10_hints_Meant a0 a1 = y := ⟨_, rfl⟩
  have hS := ltS hy14 hS
  refine rl_callF rfl en10 rfl (ctr10 (G F w.heap.size nb) w2 a0 az0_0 ah0_0 a1 y13 hy14) ?_
  rintro _ w11 ⟨rfl, c12⟩
  have ah0_0 := slRep.ch kStr_pos ah0_0 c12
  have k4 := k4.ch0 c12
  have k9 := k9.ch0 c12
  have c0 := c0.then0 c12
  refine rl_assign rfl rfl ?_
  refine RL.nil ?_
  refine thn_n ?_
  refine CW.ret ?_
  obtain rfl := hS
  exact ret1 rfl ⟨rfl, c0⟩
/-- lb/hints.Count -/
theorem ctr14 (F : Nat → Prop) (w : World) (a0 : (List Candidate)) (av0 : Value) (ah0 : slRep k_Candidate F w a0 av0) (a1 : ByteArray) (r : Bool) (hs : F14_hints_Count a0 a1 = some r) :
    Ret Try.prog 14 #[av0, (Value.string a1)] w fun v w' => v = (Value.bool r) ∧ Ch nb w w' := by
  have hS := hs
  have c0 : Ch nb w w := Ch.refl
  have ah0 := slRep.enter k_Candidate_pos ah0
  refine Ret.of (n := 22) (args := [_, _]) (rs := [.tmp 4]) Try.func14 rfl rfl rfl rfl ?_
  refine CW.seq (CW.region ?_)
  refine rl_box [(Value.string a1)] rfl rfl rfl ?_
  intro p1 w2 n3 k4
  have gp1 : (G F w.heap.size nb) p1 := ⟨.inr (by rw [n3.eq]; exact c0.size), fun h => absurd (nbS _ h) (by rw [n3.eq]; exact Nat.lt_irrefl _)⟩
  have ah0 := slRep.ch k_Candidate_pos ah0 n3.ch
  have c0 := c0.then0 n3.ch
  refine rl_assign rfl rfl ?_
  refine RL.nil ?_
  refine thn_n ?_
  refine CW.seq (CW.region ?_)
  refine rl_move rfl rfl ?_
  obtain ⟨y7, hy8, hS⟩ := bindS hS
  refine rl_callF rfl en21 rfl (ctr21 (G F w.heap.size nb) w2 a0 av0 ah0 y7 hy8) ?_
  rintro v9 w5 ⟨_, rfl, h10, c6⟩
  have h10 := SlO.backR k_Candidate_pos h10 nbS c0.size
  have ah0 := slRep.ch k_Candidate_pos ah0 c6
  have k4 := k4.ch0 c6
  have c0 := c0.then0 c6
  refine rl_assign rfl rfl ?_
  refine RL.nil ?_
  refine thn_n ?_
  refine CW.seq (CW.region ?_)
  refine rl_move rfl rfl ?_
  obtain ⟨y13, hy14⟩ : ∃ y, F28_slices_ContainsFunc_hints_Candidate_hint y7 (fun x0 => F29_hints_Count_1 x0) = y := ⟨_, rfl⟩
  have hS := ltS hy14 hS
  refine rl_callF rfl en28 rfl (ctr28 (G F w.heap.size nb) w5 y7 v9 h10 (fun x0 => F29_hints_Count_1 x0) (Value.func (.func 29) #[] [].toArray) (show (Kd.fn1 Try.prog true k_Candidate Value.bool).rep (G F w.heap.size nb) w5 (fun x0 => F29_hints_Count_1 x0) [(Value.func (.func 29) #[] [].toArray)] from ⟨29, [], rfl, en29, fun w' hw F' x0 c0 hx0 => by
      obtain ⟨u0_0, rfl, e0_0⟩ := hx0
      exact (ctr29 (fun b => (G F w.heap.size nb) b ∨ F' b) w' x0 u0_0 (slRep.wk kStr_pos e0_0 fun _ _ h => .inr h) _ rfl).mono (by rintro v w'' ⟨rfl, c⟩; exact ⟨rfl, c⟩)⟩) y13 hy14) ?_
  rintro _ w11 ⟨rfl, c12⟩
  have ah0 := slRep.ch k_Candidate_pos ah0 c12
  have k4 := k4.ch0 c12
  have h10 := slRep.ch k_Candidate_pos h10 c12
  have c0 := c0.then0 c12
  refine rl_assign rfl rfl ?_
  refine RL.nil ?_
  refine thn_n ?_
  refine CW.seq (CW.region ?_)
  refine rl_loadS (v := (Value.string a1)) rfl Try.isAgg9 (k4.cell rfl) rfl ?_
  refine rl_bin rfl rfl B.neqS rfl ?_
  refine rl_move rfl rfl ?_
  obtain ⟨b17, hb18⟩ : ∃ v, ((!decide (a1 = (⟨#[]⟩ : ByteArray))) && (!y13)) = v := ⟨_, rfl⟩
  have hS := ltS hb18 hS
  refine RL.join 3 16 (.bool b17) (fun w' => Ch nb w11 w') ?_ ?_
  · rcases Bool.eq_false_or_eq_true (!decide (a1 = (⟨#[]⟩ : ByteArray))) with hg16 | hg16
    ·
     have hs15 := and_t hg16 hb18
     have cs : Ch nb w11 w11 := Ch.refl
     refine RL.yes rfl rfl rfl hg16 ?_
     refine rl_move rfl rfl ?_
     refine RL.yes rfl rfl rfl hg16 ?_
     refine rl_not rfl rfl ?_
     refine rl_pickT rfl hg16 rfl rfl ?_
     exact RL.nil ⟨Ext.bothEq (congrArg Value.bool hs15) (Ext.skip rfl (Ext.skip rfl (Ext.rfl'))), cs⟩
    ·
     have hs15 := and_f hg16 hb18
     have cs : Ch nb w11 w11 := Ch.refl
     refine RL.no rfl rfl rfl hg16 rfl rfl ?_
     refine RL.no rfl rfl rfl hg16 rfl rfl ?_
     refine rl_pickF rfl hg16 rfl rfl ?_
     exact RL.nil ⟨Ext.bothEq (congrArg Value.bool hs15) (Ext.skip rfl (Ext.skip rfl (Ext.rfl'))), cs⟩
  intro w19 c20
  have ah0 := slRep.ch k_Candidate_pos ah0 c20
  have k4 := k4.ch0 c20
  have h10 := slRep.ch k_Candidate_pos h10 c20
  have c0 := c0.then0 c20
  refine rl_move rfl rfl ?_
  obtain ⟨b23, hb24⟩ : ∃ v, (b17 && (lt (F28_slices_ContainsFunc_hints_Candidate_hint y7 (fun x0 => F30_hints_Count_2 x0 a1)) fun y25 => y25)) = v := ⟨_, rfl⟩
  have hS := ltS hb24 hS
  refine RL.join 4 21 (.bool b23) (fun w' => Ch nb w19 w') ?_ ?_
  · rcases Bool.eq_false_or_eq_true b17 with hg22 | hg22
    ·
     have hs21 := and_t hg22 hb24
     have cs : Ch nb w19 w19 := Ch.refl
     refine RL.yes rfl rfl rfl hg22 ?_
     refine rl_move rfl rfl ?_
     refine RL.yes rfl rfl rfl hg22 ?_
     refine rl_makeFunc rfl rfl ?_
     refine RL.yes rfl rfl rfl hg22 ?_
     obtain ⟨y28, hy29⟩ : ∃ y, F28_slices_ContainsFunc_hints_Candidate_hint y7 (fun x0 => F30_hints_Count_2 x0 a1) = y := ⟨_, rfl⟩
     have hs21 := ltS hy29 hs21
     refine rl_callF rfl en28 rfl (ctr28 (G F w.heap.size nb) w19 y7 v9 h10 (fun x0 => F30_hints_Count_2 x0 a1) (Value.func (.func 30) #[] [(Value.pointer (some ⟨p1, 0, none⟩))].toArray) (show (Kd.fn1 Try.prog true k_Candidate Value.bool).rep (G F w.heap.size nb) w19 (fun x0 => F30_hints_Count_2 x0 a1) [(Value.func (.func 30) #[] [(Value.pointer (some ⟨p1, 0, none⟩))].toArray)] from ⟨30, [(Value.pointer (some ⟨p1, 0, none⟩))], rfl, en30, fun w' hw F' x0 c0 hx0 => by
         obtain ⟨u0_0, rfl, e0_0⟩ := hx0
         exact (ctr30 (fun b => (G F w.heap.size nb) b ∨ F' b) w' x0 u0_0 (slRep.wk kStr_pos e0_0 fun _ _ h => .inr h) a1 (Value.pointer (some ⟨p1, 0, none⟩)) (Kd.mono _ (show (kStr.box 9).rep (G F w.heap.size nb) w19 a1 [(Value.pointer (some ⟨p1, 0, none⟩))] from ⟨p1, _, rfl, gp1, k4, rfl⟩) fun b hb hf => ⟨.inl hf, (hw b hb hf).2⟩) _ rfl).mono (by rintro v w'' ⟨rfl, c⟩; exact ⟨rfl, c⟩)⟩) y28 hy29) ?_
     rintro _ w26 ⟨rfl, c27⟩
     have ah0 := slRep.ch k_Candidate_pos ah0 c27
     have k4 := k4.ch0 c27
     have h10 := slRep.ch k_Candidate_pos h10 c27
     have c0 := c0.then0 c27
     refine rl_pickT rfl hg22 rfl rfl ?_
     have cs := cs.then0 c27
     exact RL.nil ⟨Ext.bothEq (congrArg Value.bool hs21) (Ext.skip rfl (Ext.skip rfl (Ext.skip rfl (Ext.rfl')))), cs⟩
    ·
     have hs21 := and_f hg22 hb24
     have cs : Ch nb w19 w19 := Ch.refl
     refine RL.no rfl rfl rfl hg22 rfl rfl ?_
     refine RL.no rfl rfl rfl hg22 rfl rfl ?_
     refine RL.no rfl rfl rfl hg22 rfl rfl ?_
     refine rl_pickF rfl hg22 rfl rfl ?_
     exact RL.nil ⟨Ext.bothEq (congrArg Value.bool hs21) (Ext.skip rfl (Ext.skip rfl (Ext.skip rfl (Ext.rfl')))), cs⟩
  intro w25 c30
  have ah0 := slRep.ch k_Candidate_pos ah0 c30
  have k4 := k4.ch0 c30
  have h10 := slRep.ch k_Candidate_pos h10 c30
  have c0 := c0.then0 c30
  refine rl_assign rfl rfl ?_
  refine RL.nil ?_
  refine thn_n ?_
  refine CW.ret ?_
  obtain rfl := Option.some.inj hS
  exact ret1 rfl ⟨rfl, c0⟩
/-- lb/lblaw18.alive -/
theorem ctr5 (F : Nat → Prop) (w : World)  (r : Bool) (hs : F5_linkboylaw18_alive  = some r) :
    Ret Try.prog 5 #[] w fun v w' => v = (Value.bool r) ∧ Ch nb w w' := by
  have hS := hs
  have c0 : Ch nb w w := Ch.refl
  refine Ret.of (n := 17) (args := []) (rs := [.tmp 0]) Try.func5 rfl rfl rfl rfl ?_
  refine CW.seq (CW.region ?_)
  refine rl_assign rfl rfl ?_
  refine RL.nil ?_
  refine thn_n ?_
  refine CW.seq (CW.region ?_)
  refine rl_bslice (k := kStr) (F := F) (B := w.heap.size) (S := nb) ([(⟨#[122, 49]⟩ : ByteArray)] : List ByteArray) rfl kStr_pos Try.underlying30 Try.sizeOf9 Try.zeroValue9 rfl rfl ⟨rfl, rfl, trivial⟩ c0.size nbS rfl ?_
  intro v1 w2 c3 hf4 h5
  have h5 := h5.readNew kStr_pos hf4 nbS
  have c0 := c0.then0 c3
  refine rl_buildC (out := (Candidate.c ({ point := Point.z, localF := false, ready := true, serving := false, terminating := false, zones := [(⟨#[122, 49]⟩ : ByteArray)] } : Candidate) v1)) [(2, [(Value.bool true)]), (5, [v1])] rfl ⟨⟨rfl, rfl⟩, ⟨⟨rfl, by rw [h5.one.1]⟩, trivial⟩⟩ pl32 Try.zeroValue32 rfl rfl rfl ?_
  refine rl_build (out := (Candidate.c ({ point := Point.z, localF := false, ready := true, serving := false, terminating := false, zones := [] } : Candidate) (Value.slice none 0 0))) rfl pl32 Try.zeroValue32 rfl rfl rfl ?_
  refine rl_alloc (Candidate.c Candidate.z (Value.slice none 0 0)) Try.zeroValue32 rfl rfl ?_
  intro p6 w7 n8 k9
  have lop6 := n8.lo c0.size
  have h5 := slRep.st kStr_pos h5 n8.ch (admNew n8.fresh (fun _ x => x))
  have c0 := c0.then0 n8.ch
  refine rl_alloc (Candidate.c Candidate.z (Value.slice none 0 0)) Try.zeroValue32 rfl rfl ?_
  intro p10 w11 n12 k13
  have lop10 := n12.lo c0.size
  have d14 : ∀ b, inBlk (Value.pointer (some ⟨p10, 0, none⟩)) b → ¬ inBlk (Value.pointer (some ⟨p6, 0, none⟩)) b := disNew n12.fresh k9.ltp
  have h5 := slRep.st kStr_pos h5 n12.ch (admNew n12.fresh (fun _ x => x))
  have k9 := k9.ch0 n12.ch
  have c0 := c0.then0 n12.ch
  refine rl_storeA (vs := (Candidate.c ({ point := Point.z, localF := false, ready := true, serving := false, terminating := false, zones := [(⟨#[122, 49]⟩ : ByteArray)] } : Candidate) v1)) rfl rfl (Kd.one _ (show k_Candidate.rep (G F w.heap.size (un (inBlk (Value.pointer (some ⟨p10, 0, none⟩))) (un (inBlk (Value.pointer (some ⟨p6, 0, none⟩))) nb))) w11 ({ point := Point.z, localF := false, ready := true, serving := false, terminating := false, zones := [(⟨#[122, 49]⟩ : ByteArray)] } : Candidate) (Candidate.c ({ point := Point.z, localF := false, ready := true, serving := false, terminating := false, zones := [(⟨#[122, 49]⟩ : ByteArray)] } : Candidate) v1) from ⟨v1, rfl, h5⟩)) Try.sizeOf32 rfl k9 rfl ?_
  intro w15 s17 c16 k18
  have ad19 : ∀ b, b < w11.heap.size → ¬ (un (inBlk (Value.pointer (some ⟨p10, 0, none⟩))) (un (inBlk (Value.pointer (some ⟨p6, 0, none⟩))) nb)) b → ¬ inBlk (Value.pointer (some ⟨p6, 0, none⟩)) b ∧ ¬ (un (inBlk (Value.pointer (some ⟨p10, 0, none⟩))) (un (inBlk (Value.pointer (some ⟨p6, 0, none⟩))) nb)) b := fun b _ hs => ⟨fun h => hs (.inr (.inl h)), hs⟩
  have h5 := slRep.st kStr_pos h5 c16 ad19
  have k13 := k13.ch c16 (d14 _ rfl)
  have c0 := c0.then c16 (fun i hi h => absurd (lop6 i h) (Nat.not_le_of_lt hi))
  refine rl_storeA (vs := (Candidate.c ({ point := Point.z, localF := false, ready := true, serving := false, terminating := false, zones := [] } : Candidate) (Value.slice none 0 0))) rfl rfl (all_one rfl) Try.sizeOf32 rfl k13 rfl ?_
  intro w20 s22 c21 k23
  have ad24 : ∀ b, b < w15.heap.size → ¬ (un (inBlk (Value.pointer (some ⟨p10, 0, none⟩))) (un (inBlk (Value.pointer (some ⟨p6, 0, none⟩))) nb)) b → ¬ inBlk (Value.pointer (some ⟨p10, 0, none⟩)) b ∧ ¬ (un (inBlk (Value.pointer (some ⟨p10, 0, none⟩))) (un (inBlk (Value.pointer (some ⟨p6, 0, none⟩))) nb)) b := fun b _ hs => ⟨fun h => hs (.inl h), hs⟩
  have h5 := slRep.st kStr_pos h5 c21 ad24
  have k18 := k18.ch c21 ((disSym d14) _ rfl)
  have c0 := c0.then c21 (fun i hi h => absurd (lop10 i h) (Nat.not_le_of_lt hi))
  refine RL.nil ?_
  refine thn_n ?_
  refine CW.seq (CW.region ?_)
  refine rl_loadA (cs := (Candidate.c ({ point := Point.z, localF := false, ready := true, serving := false, terminating := false, zones := [(⟨#[122, 49]⟩ : ByteArray)] } : Candidate) v1)) rfl Try.isAgg32 Try.sizeOf32 (k18.segAt 0 23) rfl rfl ?_
  refine rl_loadA (cs := (Candidate.c ({ point := Point.z, localF := false, ready := true, serving := false, terminating := false, zones := [] } : Candidate) (Value.slice none 0 0))) rfl Try.isAgg32 Try.sizeOf32 (k23.segAt 0 23) rfl rfl ?_
  refine rl_bslice (k := k_Candidate) (F := F) (B := w.heap.size) (S := (un (inBlk (Value.pointer (some ⟨p10, 0, none⟩))) (un (inBlk (Value.pointer (some ⟨p6, 0, none⟩))) nb))) ([({ point := Point.z, localF := false, ready := true, serving := false, terminating := false, zones := [(⟨#[122, 49]⟩ : ByteArray)] } : Candidate), ({ point := Point.z, localF := false, ready := true, serving := false, terminating := false, zones := [] } : Candidate)] : List Candidate) rfl k_Candidate_pos Try.underlying22 Try.sizeOf32 Try.zeroValue32 rfl rfl ⟨rfl, ⟨v1, rfl, h5⟩, ⟨rfl, ⟨(Value.slice none 0 0), rfl, (.inl ⟨rfl, rfl⟩)⟩, trivial⟩⟩ c0.size (un_lt k23.ltp (un_lt k18.ltp nbS)) rfl ?_
  intro v25 w26 c27 hf28 h29
  have h29 := h29.readNew k_Candidate_pos hf28 (un_lt k23.ltp (un_lt k18.ltp nbS))
  have h5 := slRep.ch kStr_pos h5 c27
  have k18 := k18.ch0 c27
  have k23 := k23.ch0 c27
  have c0 := c0.then0 c27
  obtain ⟨y32, hy33, hS⟩ := bindS hS
  refine rl_callF rfl en14 rfl (ctr14 (G F w.heap.size (un (inBlk (Value.pointer (some ⟨p10, 0, none⟩))) (un (inBlk (Value.pointer (some ⟨p6, 0, none⟩))) nb))) w26 [({ point := Point.z, localF := false, ready := true, serving := false, terminating := false, zones := [(⟨#[122, 49]⟩ : ByteArray)] } : Candidate), ({ point := Point.z, localF := false, ready := true, serving := false, terminating := false, zones := [] } : Candidate)] v25 h29 (⟨#[122, 49]⟩ : ByteArray) y32 hy33) ?_
  rintro _ w30 ⟨rfl, c31⟩
  have h5 := slRep.ch kStr_pos h5 c31
  have k18 := k18.ch0 c31
  have k23 := k23.ch0 c31
  have h29 := slRep.ch k_Candidate_pos h29 c31
  have c0 := c0.then0 c31
  refine rl_not rfl rfl ?_
  refine rl_move rfl rfl ?_
  obtain ⟨b36, hb37, hS⟩ := bindS hS
  refine RL.join 5 16 (.bool b36) (fun w' => Ch nb w30 w') ?_ ?_
  · rcases Bool.eq_false_or_eq_true (!y32) with hg35 | hg35
    ·
     have hs34 := andO_t hg35 hb37
     have cs : Ch nb w30 w30 := Ch.refl
     refine RL.yes rfl rfl rfl hg35 ?_
     refine rl_loadA (cs := (Candidate.c ({ point := Point.z, localF := false, ready := true, serving := false, terminating := false, zones := [(⟨#[122, 49]⟩ : ByteArray)] } : Candidate) v1)) rfl Try.isAgg32 Try.sizeOf32 (k18.segAt 0 23) rfl rfl ?_
     refine RL.yes rfl rfl rfl hg35 ?_
     refine rl_loadA (cs := (Candidate.c ({ point := Point.z, localF := false, ready := true, serving := false, terminating := false, zones := [(⟨#[122, 49]⟩ : ByteArray)] } : Candidate) v1)) rfl Try.isAgg32 Try.sizeOf32 (k18.segAt 0 23) rfl rfl ?_
     refine RL.yes rfl rfl rfl hg35 ?_
     refine rl_bslice (k := k_Candidate) (F := F) (B := w.heap.size) (S := (un (inBlk (Value.pointer (some ⟨p10, 0, none⟩))) (un (inBlk (Value.pointer (some ⟨p6, 0, none⟩))) nb))) ([({ point := Point.z, localF := false, ready := true, serving := false, terminating := false, zones := [(⟨#[122, 49]⟩ : ByteArray)] } : Candidate), ({ point := Point.z, localF := false, ready := true, serving := false, terminating := false, zones := [(⟨#[122, 49]⟩ : ByteArray)] } : Candidate)] : List Candidate) rfl k_Candidate_pos Try.underlying22 Try.sizeOf32 Try.zeroValue32 rfl rfl ⟨rfl, ⟨v1, rfl, h5⟩, ⟨rfl, ⟨v1, rfl, h5⟩, trivial⟩⟩ c0.size (un_lt k23.ltp (un_lt k18.ltp nbS)) rfl ?_
     intro v39 w40 c41 hf42 h43
     have h43 := h43.readNew k_Candidate_pos hf42 (un_lt k23.ltp (un_lt k18.ltp nbS))
     have h5 := slRep.ch kStr_pos h5 c41
     have k18 := k18.ch0 c41
     have k23 := k23.ch0 c41
     have h29 := slRep.ch k_Candidate_pos h29 c41
     have c0 := c0.then0 c41
     refine RL.yes rfl rfl rfl hg35 ?_
     obtain ⟨y46, hy47, hs34⟩ := bindS hs34
     refine rl_callF rfl en14 rfl (ctr14 (G F w.heap.size (un (inBlk (Value.pointer (some ⟨p10, 0, none⟩))) (un (inBlk (Value.pointer (some ⟨p6, 0, none⟩))) nb))) w40 [({ point := Point.z, localF := false, ready := true, serving := false, terminating := false, zones := [(⟨#[122, 49]⟩ : ByteArray)] } : Candidate), ({ point := Point.z, localF := false, ready := true, serving := false, terminating := false, zones := [(⟨#[122, 49]⟩ : ByteArray)] } : Candidate)] v39 h43 (⟨#[122, 49]⟩ : ByteArray) y46 hy47) ?_
     rintro _ w44 ⟨rfl, c45⟩
     have h5 := slRep.ch kStr_pos h5 c45
     have k18 := k18.ch0 c45
     have k23 := k23.ch0 c45
     have h29 := slRep.ch k_Candidate_pos h29 c45
     have h43 := slRep.ch k_Candidate_pos h43 c45
     have c0 := c0.then0 c45
     refine rl_pickT rfl hg35 rfl rfl ?_
     have cs := cs.then0 c41
     have cs := cs.then0 c45
     exact RL.nil ⟨Ext.bothEq (congrArg Value.bool (Option.some.inj hs34)) (Ext.skip rfl (Ext.skip rfl (Ext.skip rfl (Ext.skip rfl (Ext.rfl'))))), cs⟩
    ·
     have hs34 := andO_f hg35 hb37
     have cs : Ch nb w30 w30 := Ch.refl
     refine RL.no rfl rfl rfl hg35 rfl rfl ?_
     refine RL.no rfl rfl rfl hg35 rfl rfl ?_
     refine RL.no rfl rfl rfl hg35 rfl rfl ?_
     refine RL.no rfl rfl rfl hg35 rfl rfl ?_
     refine rl_pickF rfl hg35 rfl rfl ?_
     exact RL.nil ⟨Ext.bothEq (congrArg Value.bool (Option.some.inj hs34)) (Ext.skip rfl (Ext.skip rfl (Ext.skip rfl (Ext.skip rfl (Ext.rfl'))))), cs⟩
  intro w38 c48
  have h5 := slRep.ch kStr_pos h5 c48
  have k18 := k18.ch0 c48
  have k23 := k23.ch0 c48
  have h29 := slRep.ch k_Candidate_pos h29 c48
  have c0 := c0.then0 c48
  refine rl_assign rfl rfl ?_
  refine RL.nil ?_
  refine thn_n ?_
  refine CW.ret ?_
  obtain rfl := Option.some.inj hS
  exact ret1 rfl ⟨rfl, c0⟩
/-- lb/lbnum.Long -/
theorem ctr20 (F : Nat → Prop) (w : World) (a0 : (List ByteArray)) (av0 : Value) (ah0 : slRep kStr F w a0 av0) (a1 : Int) (r : Bool) (hs : F20_linkboynum_Long a0 a1 = r) :
    Ret Try.prog 20 #[av0, (Value.int .i64 a1)] w fun v w' => v = (Value.bool r) ∧ Ch nb w w' := by
  have hS := hs
  have c0 : Ch nb w w := Ch.refl
  have ah0 := slRep.enter kStr_pos ah0
  refine Ret.of (n := 27) (args := [_, _]) (rs := [.tmp 4]) Try.func20 rfl rfl rfl rfl ?_
  refine CW.seq (CW.region ?_)
  refine rl_assign rfl rfl ?_
  refine RL.nil ?_
  refine thn_n ?_
  refine CW.seq (CW.region ?_)
  refine rl_assign rfl rfl ?_
  refine RL.nil ?_
  refine thn_n ?_
  refine CW.seq ?_
  refine CW.seq (CW.region ?_)
  refine rl_move rfl rfl ?_
  refine rl_lenR rfl ah0 Try.underlying30 rfl ?_
  refine rl_move rfl rfl ?_
  refine RL.nil ?_
  refine thn_n ?_
  obtain ⟨o9, ho10⟩ : ∃ o, runB (F20_linkboynum_Long_b1 a1) a0 0 = o := ⟨_, rfl⟩
  have hS := ltS ho10 hS
  refine CW.cutB (fun E' w' => ∃ (x1 : Int), Sub [] E' ∧ Ch nb w w' ∧ Lp.fin x1 = o9 ∧ slRep kStr (G F w.heap.size nb) w' a0 av0) ?_ ?_
  ·
   refine CW.loopS [(1, (Value.int .i64 a1)), (8, av0), (9, (Value.int .i64 ((a0.length : Nat) : Int))), (5, (Value.int .i64 0)), (10, (Value.int .i64 ((0 : Nat) : Int)))] ⟨rfl, rfl, rfl, rfl, rfl, trivial⟩ a0.length (fun m E w' => ∃ (rest2 : List ByteArray) (i3 : Nat) (x1 : Int), m = rest2.length ∧ E = [(1, (Value.int .i64 a1)), (8, av0), (9, (Value.int .i64 ((a0.length : Nat) : Int))), (5, (Value.int .i64 x1)), (10, (Value.int .i64 ((i3 : Nat) : Int)))] ∧ Ch nb w w' ∧ At a0 i3 rest2 ∧ runB (F20_linkboynum_Long_b1 a1) rest2 x1 = o9 ∧ slRep kStr (G F w.heap.size nb) w' a0 av0)
       ⟨a0, 0, 0, rfl, rfl, c0, At.start, ho10, ah0⟩ ?_
   rintro _ _ w15 ⟨rest2, i3, x1, rfl, rfl, c14, hat5, hL4, ah0⟩
   refine CW.seq (CW.region ?_)
   refine rl_bin rfl rfl B.lss rfl ?_
   refine RL.nil (thn_n ?_)
   refine CW.seq ?_
   refine CW.cond (t := decide (((i3 : Nat) : Int) < ((a0.length : Nat) : Int))) rfl (fun q17 => ?_) (fun q17 => ?_)
   ·
    obtain ⟨x11, rest18, rfl⟩ := hat5.cons q17
    obtain ⟨q6, hq7⟩ : ∃ q, (F20_linkboynum_Long_b1 a1) x11 x1 = q := ⟨_, rfl⟩
    have hb8 := hq7
    refine CW.skip (thn_n ?_)
    refine CW.seq ?_
    refine CW.block ?_
    refine CW.seq (CW.region ?_)
    refine rl_ixR rfl ah0 rfl hat5.get Try.underlying30 Try.sizeOf9 rfl ?_
    intro p19 o20 cs21 hr22 hs23 hg24
    obtain rfl := hr22
    refine rl_loadS (v := (Value.string x11)) rfl Try.isAgg9 (hs23 0 _ rfl) rfl ?_
    refine rl_assign rfl rfl ?_
    refine RL.nil ?_
    refine thn_n ?_
    refine CW.seq ?_
    refine CW.seq (CW.region ?_)
    refine rl_move rfl rfl ?_
    refine rl_lenStr rfl Try.underlying9 rfl ?_
    refine rl_move rfl rfl ?_
    refine rl_bin rfl rfl B.gtr rfl ?_
    refine RL.nil ?_
    refine thn_n ?_
    refine CW.cond (t := decide (((x11.size : Nat) : Int) > a1)) rfl (fun q25 => ?_) (fun q25 => ?_)
    ·
     have hb8 := ifT q25 hb8
     refine CW.seq (CW.region ?_)
     refine rl_assign rfl rfl ?_
     refine RL.nil ?_
     refine thn_n ?_
     refine CW.ret ?_
     refine thn_ret ?_
     refine inB_ret ?_
     refine thn_ret ?_
     refine thn_ret (inB_ret (thn_ret ?_))
     refine thn_ret ?_
     have f26 := runB_ret hL4 (hb8.trans hq7.symm)
     have hS := retS f26 hS
     obtain rfl := hS
     exact ret1 rfl ⟨rfl, c14⟩
    ·
     have hb8 := ifF q25 hb8
     refine CW.skip ?_
     refine thn_n ?_
     refine CW.seq (CW.region ?_)
     refine rl_move rfl rfl ?_
     refine rl_move rfl rfl ?_
     refine rl_lenStr rfl Try.underlying9 rfl ?_
     refine rl_bin rfl rfl B.add rfl ?_
     refine rl_bin rfl rfl B.add rfl ?_
     refine rl_assign rfl rfl ?_
     refine RL.nil ?_
     refine thn_n ?_
     refine CW.seq (CW.region ?_)
     refine rl_move rfl rfl ?_
     refine rl_move rfl rfl ?_
     refine rl_bin rfl rfl B.gtr rfl ?_
     refine RL.nil ?_
     refine thn_n ?_
     refine CW.cond (t := decide ((IntKind.i64.wrap (x1 + (IntKind.i64.wrap (1 + ((x11.size : Nat) : Int))))) > a1)) rfl (fun q27 => ?_) (fun q27 => ?_)
     ·
      have hb8 := ifT q27 hb8
      refine CW.seq (CW.region ?_)
      refine rl_assign rfl rfl ?_
      refine RL.nil ?_
      refine thn_n ?_
      refine CW.ret ?_
      refine inB_ret ?_
      refine thn_ret ?_
      refine thn_ret (inB_ret (thn_ret ?_))
      refine thn_ret ?_
      have f28 := runB_ret hL4 (hb8.trans hq7.symm)
      have hS := retS f28 hS
      obtain rfl := hS
      exact ret1 rfl ⟨rfl, c14⟩
     ·
      have hb8 := ifF q27 hb8
      refine CW.skip ?_
      refine inB_n ?_
      refine thn_n ?_
      refine CW.region ?_
      refine rl_inc rfl hat5.lt ah0.big rfl ?_
      refine rl_move rfl rfl ?_
      refine RL.nil ?_
      refine thn_n ?_
      have hLn := runB_next hL4 (hb8.trans hq7.symm)
      exact ⟨rest18.length, Nat.lt_succ_self _, [(1, (Value.int .i64 a1)), (8, av0), (9, (Value.int .i64 ((a0.length : Nat) : Int))), (5, (Value.int .i64 (IntKind.i64.wrap (x1 + (IntKind.i64.wrap (1 + ((x11.size : Nat) : Int))))))), (10, (Value.int .i64 ((i3 + 1 : Nat) : Int)))], ⟨rfl, rfl, rfl, rfl, rfl, trivial⟩, ⟨rest18, i3 + 1, IntKind.i64.wrap (x1 + (IntKind.i64.wrap (1 + ((x11.size : Nat) : Int)))), rfl, rfl, c14, hat5.next, hLn, ah0⟩⟩
   ·
    obtain rfl := hat5.nil q17
    have hLf : Lp.fin x1 = o9 := hL4
    refine CW.exit (thn_exit (thn_exit (inB_hit ?_)))
    exact ⟨x1, trivial, c14, hLf, ah0⟩
  ·
   rintro _ w30 ⟨x1, hE31, c29, f32, ah0⟩
   have hS := finS f32 hS
   refine thn_n (CW.sub [] hE31 ?_)
   refine CW.seq (CW.region ?_)
   refine rl_assign rfl rfl ?_
   refine RL.nil ?_
   refine thn_n ?_
   refine CW.ret ?_
   obtain rfl := hS
   exact ret1 rfl ⟨rfl, c29⟩
/-- lb/lblaw18.Long -/
theorem ctr6 (F : Nat → Prop) (w : World) (a0 : (List Candidate)) (av0 : Value) (ah0 : slRep k_Candidate F w a0 av0) (r : Bool) (hs : F6_linkboylaw18_Long a0 = r) :
    Ret Try.prog 6 #[av0] w fun v w' => v = (Value.bool r) ∧ Ch nb w w' := by
  have hS := hs
  have c0 : Ch nb w w := Ch.refl
  have ah0 := slRep.enter k_Candidate_pos ah0
  refine Ret.of (n := 18) (args := [_]) (rs := [.tmp 2]) Try.func6 rfl rfl rfl rfl ?_
  refine CW.seq (CW.region ?_)
  refine rl_assign rfl rfl ?_
  refine RL.nil ?_
  refine thn_n ?_
  refine CW.seq ?_
  refine CW.seq (CW.region ?_)
  refine rl_move rfl rfl ?_
  refine rl_lenR rfl ah0 Try.underlying22 rfl ?_
  refine rl_bin rfl rfl B.gtr rfl ?_
  refine RL.nil ?_
  refine thn_n ?_
  refine CW.cond (t := decide (((a0.length : Nat) : Int) > 60)) rfl (fun q1 => ?_) (fun q1 => ?_)
  ·
   have hS := ifT q1 hS
   refine CW.seq (CW.region ?_)
   refine rl_assign rfl rfl ?_
   refine RL.nil ?_
   refine thn_n ?_
   refine CW.ret ?_
   refine thn_ret ?_
   obtain rfl := hS
   exact ret1 rfl ⟨rfl, c0⟩
  ·
   have hS := ifF q1 hS
   refine CW.skip ?_
   refine thn_n ?_
   refine CW.seq ?_
   refine CW.seq (CW.region ?_)
   refine rl_move rfl rfl ?_
   refine rl_lenR rfl ah0 Try.underlying22 rfl ?_
   refine rl_move rfl rfl ?_
   refine RL.nil ?_
   refine thn_n ?_
   obtain ⟨o9, ho10⟩ : ∃ o, runB F6_linkboylaw18_Long_b1 a0 () = o := ⟨_, rfl⟩
   have hS := ltS ho10 hS
   refine CW.cutB (fun E' w' => ∃ (_ : Unit), Sub [] E' ∧ Ch nb w w' ∧ Lp.fin () = o9 ∧ slRep k_Candidate (G F w.heap.size nb) w' a0 av0) ?_ ?_
   ·
    refine CW.loopS [(8, av0), (9, (Value.int .i64 ((a0.length : Nat) : Int))), (10, (Value.int .i64 ((0 : Nat) : Int)))] ⟨rfl, rfl, rfl, trivial⟩ a0.length (fun m E w' => ∃ (rest2 : List Candidate) (i3 : Nat) , m = rest2.length ∧ E = [(8, av0), (9, (Value.int .i64 ((a0.length : Nat) : Int))), (10, (Value.int .i64 ((i3 : Nat) : Int)))] ∧ Ch nb w w' ∧ At a0 i3 rest2 ∧ runB F6_linkboylaw18_Long_b1 rest2 () = o9 ∧ slRep k_Candidate (G F w.heap.size nb) w' a0 av0)
        ⟨a0, 0, rfl, rfl, c0, At.start, ho10, ah0⟩ ?_
    rintro _ _ w15 ⟨rest2, i3, rfl, rfl, c14, hat5, hL4, ah0⟩
    refine CW.seq (CW.region ?_)
    refine rl_bin rfl rfl B.lss rfl ?_
    refine RL.nil (thn_n ?_)
    refine CW.seq ?_
    refine CW.cond (t := decide (((i3 : Nat) : Int) < ((a0.length : Nat) : Int))) rfl (fun q17 => ?_) (fun q17 => ?_)
    ·
     obtain ⟨x11, rest18, rfl⟩ := hat5.cons q17
     obtain ⟨q6, hq7⟩ : ∃ q, F6_linkboylaw18_Long_b1 x11 () = q := ⟨_, rfl⟩
     have hb8 := hq7
     refine CW.skip (thn_n ?_)
     refine CW.seq ?_
     refine CW.block ?_
     refine CW.seq (CW.region ?_)
     refine rl_ixR rfl ah0 rfl hat5.get Try.underlying22 Try.sizeOf32 rfl ?_
     intro p19 o20 cs21 hr22 hs23 hg24
     obtain ⟨z25, rfl, h26⟩ := hr22
     refine rl_loadA (cs := (Candidate.c x11 z25)) rfl Try.isAgg32 Try.sizeOf32 (hs23) rfl rfl ?_
     refine rl_alloc (Candidate.c Candidate.z (Value.slice none 0 0)) Try.zeroValue32 rfl rfl ?_
     intro p27 w28 n29 k30
     have lop27 := n29.lo c14.size
     have ah0 := slRep.st k_Candidate_pos ah0 n29.ch (admNew n29.fresh (fun _ x => x))
     have h26 := slRep.st kStr_pos h26 n29.ch (admNew n29.fresh (fun _ x => x))
     have c14 := c14.then0 n29.ch
     refine rl_storeA (vs := (Candidate.c x11 z25)) rfl rfl (Kd.one _ (show k_Candidate.rep (G F w.heap.size (un (inBlk (Value.pointer (some ⟨p27, 0, none⟩))) nb)) w28 x11 (Candidate.c x11 z25) from ⟨z25, rfl, h26⟩)) Try.sizeOf32 rfl k30 rfl ?_
     intro w31 s33 c32 k34
     have ad35 : ∀ b, b < w28.heap.size → ¬ (un (inBlk (Value.pointer (some ⟨p27, 0, none⟩))) nb) b → ¬ inBlk (Value.pointer (some ⟨p27, 0, none⟩)) b ∧ ¬ (un (inBlk (Value.pointer (some ⟨p27, 0, none⟩))) nb) b := fun b _ hs => ⟨fun h => hs (.inl h), hs⟩
     have ah0 := slRep.st k_Candidate_pos ah0 c32 ad35
     have h26 := slRep.st kStr_pos h26 c32 ad35
     have c14 := c14.then c32 (fun i hi h => absurd (lop27 i h) (Nat.not_le_of_lt hi))
     refine RL.nil ?_
     refine thn_n ?_
     refine CW.seq (CW.region ?_)
     refine rl_fieldAddr rfl fa32_5 rfl ?_
     refine rl_loadS (v := z25) rfl Try.isAgg30 (k34.cell rfl) rfl ?_
     obtain ⟨y38, hy39⟩ : ∃ y, F20_linkboynum_Long x11.zones 400 = y := ⟨_, rfl⟩
     have hb8 := ltS hy39 hb8
     refine rl_callF rfl en20 rfl (ctr20 (G F w.heap.size (un (inBlk (Value.pointer (some ⟨p27, 0, none⟩))) nb)) w31 x11.zones z25 h26 400 y38 hy39) ?_
     rintro _ w36 ⟨rfl, c37⟩
     have ah0 := slRep.ch k_Candidate_pos ah0 c37
     have h26 := slRep.ch kStr_pos h26 c37
     have k34 := k34.ch0 c37
     have c14 := c14.then0 c37
     refine RL.nil ?_
     refine thn_n ?_
     refine CW.cond (t := y38) rfl (fun q40 => ?_) (fun q40 => ?_)
     ·
      have hb8 := ifT q40 hb8
      refine CW.seq (CW.region ?_)
      refine rl_assign rfl rfl ?_
      refine RL.nil ?_
      refine thn_n ?_
      refine CW.ret ?_
      refine inB_ret ?_
      refine thn_ret ?_
      refine thn_ret (inB_ret (thn_ret ?_))
      refine thn_ret ?_
      have f41 := runB_ret hL4 (hb8.trans hq7.symm)
      have hS := retS f41 hS
      obtain rfl := hS
      exact ret1 rfl ⟨rfl, c14⟩
     ·
      have hb8 := ifF q40 hb8
      refine CW.skip ?_
      refine inB_n ?_
      refine thn_n ?_
      refine CW.region ?_
      refine rl_inc rfl hat5.lt ah0.big rfl ?_
      refine rl_move rfl rfl ?_
      refine RL.nil ?_
      refine thn_n ?_
      have crf : Ch nb w36 w36 := Ch.refl
      have ah0 := slRep.st k_Candidate_pos ah0 crf (show ∀ b, b < w36.heap.size → ¬ (un (inBlk (Value.pointer (some ⟨p27, 0, none⟩))) nb) b → ¬ nb b ∧ ¬ nb b from fun b _ hs => ⟨fun x => x, fun h => hs (False.elim h)⟩)
      have h26 := slRep.st kStr_pos h26 crf (show ∀ b, b < w36.heap.size → ¬ (un (inBlk (Value.pointer (some ⟨p27, 0, none⟩))) nb) b → ¬ nb b ∧ ¬ nb b from fun b _ hs => ⟨fun x => x, fun h => hs (False.elim h)⟩)
      have c14 := c14.then0 crf
      have hLn := runB_next hL4 (hb8.trans hq7.symm)
      exact ⟨rest18.length, Nat.lt_succ_self _, [(8, av0), (9, (Value.int .i64 ((a0.length : Nat) : Int))), (10, (Value.int .i64 ((i3 + 1 : Nat) : Int)))], ⟨rfl, rfl, rfl, trivial⟩, ⟨rest18, i3 + 1, rfl, rfl, c14, hat5.next, hLn, ah0⟩⟩
    ·
     obtain rfl := hat5.nil q17
     have hLf : Lp.fin () = o9 := hL4
     refine CW.exit (thn_exit (thn_exit (inB_hit ?_)))
     exact ⟨(), trivial, c14, hLf, ah0⟩
   ·
    rintro _ w43 ⟨_, hE44, c42, f45, ah0⟩
    have hS := finS f45 hS
    refine thn_n (CW.sub [] hE44 ?_)
    refine CW.seq (CW.region ?_)
    refine rl_assign rfl rfl ?_
    refine RL.nil ?_
    refine thn_n ?_
    refine CW.ret ?_
    obtain rfl := hS
    exact ret1 rfl ⟨rfl, c42⟩
/-- lb/hints.Filter$1 -/
theorem ctr23 (F : Nat → Prop) (w : World) (a0 : Candidate) (az0_0 : Value) (ah0_0 : slRep kStr F w a0.zones az0_0) (a1 : ByteArray) (av1 : Value) (ah1 : (kStr.box 9).rep F w a1 [av1]) (r : Bool) (hs : F23_hints_Filter_1 a0 a1 = r) :
    Ret Try.prog 23 #[(Value.agg (Candidate.c a0 az0_0).toArray), av1] w fun v w' => v = (Value.bool r) ∧ Ch nb w w' := by
  have hS := hs
  have c0 : Ch nb w w := Ch.refl
  have ah0_0 := slRep.enter kStr_pos ah0_0
  have ah1 := Kd.enter ah1
  refine Ret.of (n := 7) (args := [_, _]) (rs := [.tmp 3]) Try.func23 rfl rfl rfl rfl ?_
  refine CW.seq (CW.region ?_)
  refine rl_boxA (cs := (Candidate.c a0 az0_0)) rfl rfl ?_
  intro p1 w2 n3 k4
  have gp1 : (G F w.heap.size nb) p1 := ⟨.inr (by rw [n3.eq]; exact c0.size), fun h => absurd (nbS _ h) (by rw [n3.eq]; exact Nat.lt_irrefl _)⟩
  have ah0_0 := slRep.ch kStr_pos ah0_0 n3.ch
  have ah1 := Kd.ch ah1 n3.ch
  have c0 := c0.then0 n3.ch
  refine rl_assign rfl rfl ?_
  refine RL.nil ?_
  refine thn_n ?_
  refine CW.seq (CW.region ?_)
  refine rl_loadA (cs := (Candidate.c a0 az0_0)) rfl Try.isAgg32 Try.sizeOf32 (k4.segAt 0 23) rfl rfl ?_
  obtain ⟨p5, cc6, e7, gf8, k9, h10⟩ := ah1
  obtain rfl := (List.cons.inj e7).1
  obtain rfl := h10
  refine rl_loadS (v := (Value.string a1)) rfl Try.isAgg9 (k9.cell rfl) rfl ?_
  obtain ⟨y13, hy14⟩ : ∃ y, F10_hints_Meant a0 a1 = y := ⟨_, rfl⟩
  have hS := ltS hy14 hS
  refine rl_callF rfl en10 rfl (ctr10 (G F w.heap.size nb) w2 a0 az0_0 ah0_0 a1 y13 hy14) ?_
  rintro _ w11 ⟨rfl, c12⟩
  have ah0_0 := slRep.ch kStr_pos ah0_0 c12
  have k4 := k4.ch0 c12
  have k9 := k9.ch0 c12
  have c0 := c0.then0 c12
  refine rl_assign rfl rfl ?_
  refine RL.nil ?_
  refine thn_n ?_
  refine CW.ret ?_
  obtain rfl := hS
  exact ret1 rfl ⟨rfl, c0⟩
/-- lb/hints.Filter -/
theorem ctr7 (F : Nat → Prop) (w : World) (a0 : (List Candidate)) (av0 : Value) (ah0 : slRep k_Candidate F w a0 av0) (a1 : ByteArray) (r : (List Candidate)) (hs : F7_hints_Filter a0 a1 = some r) :
    Ret Try.prog 7 #[av0, (Value.string a1)] w fun v w' => ∃ y0 : Value, v = y0 ∧ SlO k_Candidate 32 F w.heap.size (inBlk y0) w' r y0 ∧ Ch nb w w' := by
  have hS := hs
  have c0 : Ch nb w w := Ch.refl
  have ah0 := slRep.enter k_Candidate_pos ah0
  refine Ret.of (n := 16) (args := [_, _]) (rs := [.tmp 4]) Try.func7 rfl rfl rfl rfl ?_
  refine CW.seq (CW.region ?_)
  refine rl_box [(Value.string a1)] rfl rfl rfl ?_
  intro p1 w2 n3 k4
  have gp1 : (G F w.heap.size nb) p1 := ⟨.inr (by rw [n3.eq]; exact c0.size), fun h => absurd (nbS _ h) (by rw [n3.eq]; exact Nat.lt_irrefl _)⟩
  have ah0 := slRep.ch k_Candidate_pos ah0 n3.ch
  have c0 := c0.then0 n3.ch
  refine rl_assign rfl rfl ?_
  refine RL.nil ?_
  refine thn_n ?_
  refine CW.seq (CW.region ?_)
  refine rl_move rfl rfl ?_
  obtain ⟨y7, hy8, hS⟩ := bindS hS
  refine rl_callF rfl en21 rfl (ctr21 (G F w.heap.size nb) w2 a0 av0 ah0 y7 hy8) ?_
  rintro v9 w5 ⟨_, rfl, h10, c6⟩
  have hf11 : ∀ b, inBlk v9 b → w2.heap.size ≤ b := fun b hb => (h10.lt b hb).1
  have h10 := SlO.back (S' := un (inBlk v9) nb) h10 nbS c0.size (fun _ => Or.comm)
  have ah0 := slRep.st k_Candidate_pos ah0 c6 (admNew hf11 (fun _ x => x))
  have gp1n : (G F w.heap.size (un (inBlk v9) nb)) p1 := ⟨gp1.1, ((admNew hf11 (fun _ x => x)) _ k4.lt gp1.2).2⟩
  have k4 := k4.ch0 c6
  have gp1 := gp1n
  have c0 := c0.then0 c6
  refine rl_assign rfl rfl ?_
  refine RL.nil ?_
  refine thn_n ?_
  refine CW.seq ?_
  refine CW.seq (CW.region ?_)
  refine rl_move rfl rfl ?_
  refine rl_loadS (v := (Value.string a1)) rfl Try.isAgg9 (k4.cell rfl) rfl ?_
  obtain ⟨y14, hy15, hS⟩ := bindS hS
  refine rl_callF rfl en14 rfl (ctr14 (G F w.heap.size (un (inBlk v9) nb)) w5 a0 av0 ah0 a1 y14 hy15) ?_
  rintro _ w12 ⟨rfl, c13⟩
  have ah0 := slRep.ch k_Candidate_pos ah0 c13
  have k4 := k4.ch0 c13
  have h10 := h10.ch0 c13
  have c0 := c0.then0 c13
  refine rl_not rfl rfl ?_
  refine RL.nil ?_
  refine thn_n ?_
  refine CW.cond (t := !y14) rfl (fun q16 => ?_) (fun q16 => ?_)
  ·
   have hS := ifT q16 hS
   refine CW.seq (CW.region ?_)
   refine rl_move rfl rfl ?_
   refine rl_assign rfl rfl ?_
   refine RL.nil ?_
   refine thn_n ?_
   refine CW.ret ?_
   refine thn_ret ?_
   obtain rfl := Option.some.inj hS
   exact ret1 rfl ⟨v9, rfl, h10.out, c0⟩
  ·
   have hS := ifF q16 hS
   refine CW.skip ?_
   refine thn_n ?_
   refine CW.seq (CW.region ?_)
   refine rl_move rfl rfl ?_
   refine rl_makeFunc rfl rfl ?_
   have h10 := SlO.read (S' := nb) k_Candidate_pos h10 (fun b hs h => hs (False.elim h)) (fun b hb => fun h => h)
   have crf : Ch nb w12 w12 := Ch.refl
   have ah0 := slRep.st k_Candidate_pos ah0 crf (show ∀ b, b < w12.heap.size → ¬ (un (inBlk v9) nb) b → ¬ nb b ∧ ¬ nb b from fun b _ hs => ⟨fun x => x, fun h => hs (False.elim h)⟩)
   have gp1n : (G F w.heap.size nb) p1 := ⟨gp1.1, ((show ∀ b, b < w12.heap.size → ¬ (un (inBlk v9) nb) b → ¬ nb b ∧ ¬ nb b from fun b _ hs => ⟨fun x => x, fun h => hs (False.elim h)⟩) _ k4.lt gp1.2).2⟩
   have k4 := k4.ch0 crf
   have gp1 := gp1n
   have c0 := c0.then0 crf
   obtain ⟨y19, hy20, hS⟩ := bindS hS
   refine rl_callF rfl en22 rfl (ctr22 (G F w.heap.size nb) w12 y7 v9 h10 (fun x0 => F23_hints_Filter_1 x0 a1) (Value.func (.func 23) #[] [(Value.pointer (some ⟨p1, 0, none⟩))].toArray) (show (Kd.fn1 Try.prog true k_Candidate Value.bool).rep (G F w.heap.size nb) w12 (fun x0 => F23_hints_Filter_1 x0 a1) [(Value.func (.func 23) #[] [(Value.pointer (some ⟨p1, 0, none⟩))].toArray)] from ⟨23, [(Value.pointer (some ⟨p1, 0, none⟩))], rfl, en23, fun w' hw F' x0 c0 hx0 => by
       obtain ⟨u0_0, rfl, e0_0⟩ := hx0
       exact (ctr23 (fun b => (G F w.heap.size nb) b ∨ F' b) w' x0 u0_0 (slRep.wk kStr_pos e0_0 fun _ _ h => .inr h) a1 (Value.pointer (some ⟨p1, 0, none⟩)) (Kd.mono _ (show (kStr.box 9).rep (G F w.heap.size nb) w12 a1 [(Value.pointer (some ⟨p1, 0, none⟩))] from ⟨p1, _, rfl, gp1, k4, rfl⟩) fun b hb hf => ⟨.inl hf, (hw b hb hf).2⟩) _ rfl).mono (by rintro v w'' ⟨rfl, c⟩; exact ⟨rfl, c⟩)⟩) y19 hy20) ?_
   rintro v21 w17 ⟨_, rfl, h22, c18⟩
   have hf23 : ∀ b, inBlk v21 b → w12.heap.size ≤ b := fun b hb => (h22.lt b hb).1
   have h22 := SlO.back (S' := un (inBlk v21) nb) h22 nbS c0.size (fun _ => Or.comm)
   have ah0 := slRep.st k_Candidate_pos ah0 c18 (admNew hf23 (fun _ x => x))
   have gp1n : (G F w.heap.size (un (inBlk v21) nb)) p1 := ⟨gp1.1, ((admNew hf23 (fun _ x => x)) _ k4.lt gp1.2).2⟩
   have k4 := k4.ch0 c18
   have gp1 := gp1n
   have h10 := slRep.st k_Candidate_pos h10 c18 (admNew hf23 (fun _ x => x))
   have c0 := c0.then0 c18
   refine rl_assign rfl rfl ?_
   refine RL.nil ?_
   refine thn_n ?_
   refine CW.ret ?_
   obtain rfl := Option.some.inj hS
   exact ret1 rfl ⟨v21, rfl, h22.out, c0⟩
/-- slices.Sort[[]string,string] -/
theorem ctr24 (F : Nat → Prop) (w : World) (Bb : Nat) (S2 : Nat → Prop) (hB : Bb ≤ w.heap.size) (h2 : ∀ b, S2 b → b < w.heap.size) (av0 : Value) (hd2 : ∀ b, inBlk av0 b → ¬ S2 b) (a0 : List ByteArray) (ah0 : SlO kStr 9 F Bb (un (inBlk av0) S2) w a0 av0) (r : List ByteArray) (hs : F24_slices_Sort_string a0 = r) :
    Ret Try.prog 24 #[av0] w fun v w' => v = Value.tuple #[] ∧ SlO kStr 9 F Bb (un (inBlk av0) S2) w' r av0 ∧ Ch (inBlk av0) w w' := by
  subst hs
  exact sortStr_ret lays24 ah0 (un_lt (fun b hb => (ah0.lt b hb).2) h2)
/-- slices.Compact[[]string,string] -/
theorem ctr25 (F : Nat → Prop) (w : World) (Bb : Nat) (S2 : Nat → Prop) (hB : Bb ≤ w.heap.size) (h2 : ∀ b, S2 b → b < w.heap.size) (av0 : Value) (hd2 : ∀ b, inBlk av0 b → ¬ S2 b) (a0 : (List ByteArray)) (ah0 : SlO kStr 9 F Bb (un (inBlk av0) S2) w a0 av0) (r : (List ByteArray)) (hs : F25_slices_Compact_string_string a0 = some r) :
    Ret Try.prog 25 #[av0] w fun v w' => ∃ y0 : Value, v = y0 ∧ SlO kStr 9 F Bb (un (inBlk y0) S2) w' r y0 ∧ (∀ b, inBlk y0 b → inBlk av0 b ∨ w.heap.size ≤ b) ∧ Ch (inBlk av0) w w' := by
  have hS := hs
  have c0 : Ch (inBlk av0) w w := Ch.refl
  have lin0 : ∀ b, inBlk av0 b → inBlk av0 b ∨ w.heap.size ≤ b := fun _ h => .inl h
  refine Ret.of (n := 61) (args := [_]) (rs := [.tmp 2]) Try.func25 rfl rfl rfl rfl ?_
  refine CW.seq (CW.region ?_)
  refine rl_assign rfl rfl ?_
  refine RL.nil ?_
  refine thn_n ?_
  refine CW.seq ?_
  refine CW.seq (CW.region ?_)
  refine rl_move rfl rfl ?_
  refine rl_lenR rfl (SlO.read (S' := S2) kStr_pos ah0 (fun b hs h => hs ((.inr h))) (fun b hb => hd2 b hb)) Try.underlying30 rfl ?_
  refine rl_bin rfl rfl B.lss rfl ?_
  refine RL.nil ?_
  refine thn_n ?_
  refine CW.cond (t := decide (((a0.length : Nat) : Int) < 2)) rfl (fun q1 => ?_) (fun q1 => ?_)
  ·
   have hS := ifT q1 hS
   refine CW.seq (CW.region ?_)
   refine rl_move rfl rfl ?_
   refine rl_assign rfl rfl ?_
   refine RL.nil ?_
   refine thn_n ?_
   refine CW.ret ?_
   refine thn_ret ?_
   obtain rfl := Option.some.inj hS
   exact ret1 rfl ⟨av0, rfl, ah0, lin0, c0⟩
  ·
   have hS := ifF q1 hS
   refine CW.skip ?_
   refine thn_n ?_
   refine CW.seq ?_
   refine CW.seq (CW.region ?_)
   refine rl_assign rfl rfl ?_
   refine RL.nil ?_
   refine thn_n ?_
   obtain ⟨o12, ho13, hS⟩ := bindS hS
   refine CW.cutB (fun E' w' => ∃ (x2 : Int) (x3 : (List ByteArray)), Sub [(0, av0)] E' ∧ Ch (inBlk av0) w w' ∧ Lp.fin (x2, x3) = o12 ∧ SlO kStr 9 F Bb (un (inBlk av0) S2) w' x3 av0) ?_ ?_
   ·
    refine CW.loopS [(0, av0), (3, (Value.int .i64 1))] ⟨rfl, rfl, trivial⟩ FUEL (fun m E w' => ∃ (x2 : Int) (x3 : (List ByteArray)), E = [(0, av0), (3, (Value.int .i64 x2))] ∧ Ch (inBlk av0) w w' ∧ runW F25_slices_Compact_string_string_b1 m (x2, x3) = some o12 ∧ SlO kStr 9 F Bb (un (inBlk av0) S2) w' x3 av0)
        ⟨1, a0, rfl, c0, ho13, ah0⟩ ?_
    rintro _ _ w18 ⟨x2, x3, rfl, c17, hL7, h4⟩
    obtain ⟨k16, q9, rfl, hq10⟩ := runW_some hL7
    have hb11 := hq10
    refine CW.seq ?_
    refine CW.seq (CW.region ?_)
    refine rl_move rfl rfl ?_
    refine rl_move rfl rfl ?_
    refine rl_lenR rfl (SlO.read (S' := S2) kStr_pos h4 (fun b hs h => hs ((.inr h))) (fun b hb => hd2 b hb)) Try.underlying30 rfl ?_
    refine rl_bin rfl rfl B.lss rfl ?_
    refine RL.nil ?_
    refine thn_n ?_
    refine CW.cond (t := decide (x2 < ((x3.length : Nat) : Int))) rfl (fun q20 => ?_) (fun q20 => ?_)
    ·
     have hb11 := ifT q20 hb11
     refine CW.skip ?_
     refine thn_n ?_
     refine CW.seq ?_
     refine CW.block ?_
     refine CW.seq ?_
     obtain ⟨y27, hy28, hb11⟩ := bindS hb11
     obtain ⟨y35, hy36, hb11⟩ := bindS hb11
     refine CW.draw 9 [(false, fun O uu wx => uu = av0), (false, fun O uu wx => uu = (Value.int .i64 x2)), (false, fun O uu wx => ∃ (p21 : Nat) (o22 : Nat), uu = (Value.pointer (some ⟨p21, o22, none⟩)) ∧ Seg wx p21 o22 [(Value.string y27)]), (false, fun O uu wx => uu = (Value.string y27)), (false, fun O uu wx => uu = av0), (false, fun O uu wx => uu = (Value.int .i64 x2)), (false, fun O uu wx => uu = (Value.int .i64 (IntKind.i64.wrap (x2 - 1)))), (false, fun O uu wx => ∃ (p29 : Nat) (o30 : Nat), uu = (Value.pointer (some ⟨p29, o30, none⟩)) ∧ Seg wx p29 o30 [(Value.string y35)]), (false, fun O uu wx => uu = (Value.string y35))] [[], [], [0, 1], [2], [], [], [5], [4, 6], [7]] [3, 8] mixed rfl rfl rfl rfl ?_ ?_
     ·
      refine Each.consA ⟨fun _ _ _ _ _ h => h, fun h => absurd rfl h, fun O wk hO ck => ?_⟩ ?_
      ·
       have h4 := h4.ch0 ck
       have c17 := c17.then0 ck
       refine rl_move rfl rfl ?_
       exact RL.nil ⟨_, rfl, Ch.refl, rfl⟩
      refine Each.consA ⟨fun _ _ _ _ _ h => h, fun h => absurd rfl h, fun O wk hO ck => ?_⟩ ?_
      ·
       have h4 := h4.ch0 ck
       have c17 := c17.then0 ck
       refine rl_move rfl rfl ?_
       exact RL.nil ⟨_, rfl, Ch.refl, rfl⟩
      refine Each.consA ⟨fun _ _ _ _ cc hh => by obtain ⟨p21, o22, e, hs25⟩ := hh; exact ⟨p21, o22, e, hs25.ch0 cc⟩, fun h => absurd rfl h, fun O wk hO ck => ?_⟩ ?_
      ·
       have h4 := h4.ch0 ck
       have c17 := c17.then0 ck
       refine Need.one rfl rfl ?_
       rintro _ e37
       obtain rfl := e37.symm
       refine Need.one rfl rfl ?_
       rintro _ e38
       obtain rfl := e38.symm
       refine rl_ixOR rfl h4 rfl (ixO_get hy28) kStr_pos Try.underlying30 Try.sizeOf9 rfl ?_
       intro p39 o40 cs41 hr42 hs43 hg44
       obtain rfl := hr42
       exact RL.nil ⟨_, rfl, Ch.refl, ⟨p39, o40, rfl, hs43⟩⟩
      refine Each.consA ⟨fun _ _ _ _ _ h => h, fun h => absurd rfl h, fun O wk hO ck => ?_⟩ ?_
      ·
       have h4 := h4.ch0 ck
       have c17 := c17.then0 ck
       refine Need.one rfl rfl ?_
       rintro _ ⟨p21, o22, e45, hs25⟩
       obtain rfl := e45.symm
       refine rl_loadS (v := (Value.string y27)) rfl Try.isAgg9 (hs25 0 _ rfl) rfl ?_
       exact RL.nil ⟨_, rfl, Ch.refl, rfl⟩
      refine Each.consA ⟨fun _ _ _ _ _ h => h, fun h => absurd rfl h, fun O wk hO ck => ?_⟩ ?_
      ·
       have h4 := h4.ch0 ck
       have c17 := c17.then0 ck
       refine rl_move rfl rfl ?_
       exact RL.nil ⟨_, rfl, Ch.refl, rfl⟩
      refine Each.consA ⟨fun _ _ _ _ _ h => h, fun h => absurd rfl h, fun O wk hO ck => ?_⟩ ?_
      ·
       have h4 := h4.ch0 ck
       have c17 := c17.then0 ck
       refine rl_move rfl rfl ?_
       exact RL.nil ⟨_, rfl, Ch.refl, rfl⟩
      refine Each.consA ⟨fun _ _ _ _ _ h => h, fun h => absurd rfl h, fun O wk hO ck => ?_⟩ ?_
      ·
       have h4 := h4.ch0 ck
       have c17 := c17.then0 ck
       refine Need.one rfl rfl ?_
       rintro _ e46
       obtain rfl := e46.symm
       refine rl_bin rfl rfl B.sub rfl ?_
       exact RL.nil ⟨_, rfl, Ch.refl, rfl⟩
      refine Each.consA ⟨fun _ _ _ _ cc hh => by obtain ⟨p29, o30, e, hs33⟩ := hh; exact ⟨p29, o30, e, hs33.ch0 cc⟩, fun h => absurd rfl h, fun O wk hO ck => ?_⟩ ?_
      ·
       have h4 := h4.ch0 ck
       have c17 := c17.then0 ck
       refine Need.one rfl rfl ?_
       rintro _ e47
       obtain rfl := e47.symm
       refine Need.one rfl rfl ?_
       rintro _ e48
       obtain rfl := e48.symm
       refine rl_ixOR rfl h4 rfl (ixO_get hy36) kStr_pos Try.underlying30 Try.sizeOf9 rfl ?_
       intro p49 o50 cs51 hr52 hs53 hg54
       obtain rfl := hr52
       exact RL.nil ⟨_, rfl, Ch.refl, ⟨p49, o50, rfl, hs53⟩⟩
      refine Each.consA ⟨fun _ _ _ _ _ h => h, fun h => absurd rfl h, fun O wk hO ck => ?_⟩ ?_
      ·
       have h4 := h4.ch0 ck
       have c17 := c17.then0 ck
       refine Need.one rfl rfl ?_
       rintro _ ⟨p29, o30, e55, hs33⟩
       obtain rfl := e55.symm
       refine rl_loadS (v := (Value.string y35)) rfl Try.isAgg9 (hs33 0 _ rfl) rfl ?_
       exact RL.nil ⟨_, rfl, Ch.refl, rfl⟩
      trivial
     ·
      intro O58 w56 hO59 c57
      have h4 := h4.ch0 c57
      have c17 := c17.then0 c57
      refine Need.one rfl rfl ?_
      rintro _ e60
      obtain rfl := e60.symm
      refine Need.one rfl rfl ?_
      rintro _ e61
      obtain rfl := e61.symm
      refine rl_bin rfl rfl B.eqlS rfl ?_
      refine RL.nil ?_
      refine thn_n ?_
      refine CW.cond (t := decide (y27 = y35)) rfl (fun q62 => ?_) (fun q62 => ?_)
      ·
       have hb11 := ifT q62 hb11
       refine CW.seq (CW.region ?_)
       refine rl_move rfl rfl ?_
       refine rl_move rfl rfl ?_
       obtain ⟨y63, hy64, hb11⟩ := bindS hb11
       refine rl_cutS rfl h4 rfl hy64 Try.underlying30 Try.sizeOf9 rfl ?_
       intro v65 h66
       refine rl_assign rfl rfl ?_
       refine RL.nil ?_
       refine thn_n ?_
       refine CW.seq ?_
       refine CW.seq (CW.region ?_)
       refine rl_assign rfl rfl ?_
       refine RL.nil ?_
       refine thn_n ?_
       obtain ⟨o78, ho79, hb11⟩ := bindS hb11
       refine CW.cutB (fun E' w' => ∃ (x67 : Int) (x68 : Int) (x69 : (List ByteArray)), Sub [(0, av0), (3, (Value.int .i64 x67))] E' ∧ Ch (inBlk av0) w w' ∧ Lp.fin (x67, x68, x69) = o78 ∧ SlO kStr 9 F Bb (un (inBlk av0) S2) w' x69 av0) ?_ ?_
       ·
        refine CW.loopS [(0, av0), (4, v65), (3, (Value.int .i64 x2)), (5, (Value.int .i64 1))] ⟨rfl, rfl, rfl, rfl, trivial⟩ FUEL (fun m E w' => ∃ (x67 : Int) (x68 : Int) (x69 : (List ByteArray)), E = [(0, av0), (4, v65), (3, (Value.int .i64 x67)), (5, (Value.int .i64 x68))] ∧ Ch (inBlk av0) w w' ∧ runW (F25_slices_Compact_string_string_b2 x2 y63) m (x67, x68, x69) = some o78 ∧ SlO kStr 9 F Bb (un (inBlk av0) S2) w' x69 av0)
            ⟨x2, 1, x3, rfl, c17, ho79, h4⟩ ?_
        rintro _ _ w84 ⟨x67, x68, x69, rfl, c83, hL73, h70⟩
        obtain ⟨k82, q75, rfl, hq76⟩ := runW_some hL73
        have hb77 := hq76
        refine CW.seq ?_
        refine CW.seq (CW.region ?_)
        refine rl_move rfl rfl ?_
        refine rl_move rfl rfl ?_
        refine rl_lenSuf rfl h66 hy64 Try.underlying30 rfl ?_
        refine rl_bin rfl rfl B.lss rfl ?_
        refine RL.nil ?_
        refine thn_n ?_
        refine CW.cond (t := decide (x68 < ((y63.length : Nat) : Int))) rfl (fun q86 => ?_) (fun q86 => ?_)
        ·
         have hb77 := ifT q86 hb77
         refine CW.skip ?_
         refine thn_n ?_
         refine CW.seq ?_
         refine CW.block ?_
         refine CW.seq ?_
         obtain ⟨y93, hy94, hb77⟩ := bindS hb77
         obtain ⟨y101, hy102, hb77⟩ := bindS hb77
         refine CW.draw 9 [(false, fun O uu wx => uu = v65), (false, fun O uu wx => uu = (Value.int .i64 x68)), (false, fun O uu wx => ∃ (p87 : Nat) (o88 : Nat), uu = (Value.pointer (some ⟨p87, o88, none⟩)) ∧ Seg wx p87 o88 [(Value.string y93)]), (false, fun O uu wx => uu = (Value.string y93)), (false, fun O uu wx => uu = v65), (false, fun O uu wx => uu = (Value.int .i64 x68)), (false, fun O uu wx => uu = (Value.int .i64 (IntKind.i64.wrap (x68 - 1)))), (false, fun O uu wx => ∃ (p95 : Nat) (o96 : Nat), uu = (Value.pointer (some ⟨p95, o96, none⟩)) ∧ Seg wx p95 o96 [(Value.string y101)]), (false, fun O uu wx => uu = (Value.string y101))] [[], [], [0, 1], [2], [], [], [5], [4, 6], [7]] [3, 8] mixed rfl rfl rfl rfl ?_ ?_
         ·
          refine Each.consA ⟨fun _ _ _ _ _ h => h, fun h => absurd rfl h, fun O wk hO ck => ?_⟩ ?_
          ·
           have h70 := h70.ch0 ck
           have c83 := c83.then0 ck
           refine rl_move rfl rfl ?_
           exact RL.nil ⟨_, rfl, Ch.refl, rfl⟩
          refine Each.consA ⟨fun _ _ _ _ _ h => h, fun h => absurd rfl h, fun O wk hO ck => ?_⟩ ?_
          ·
           have h70 := h70.ch0 ck
           have c83 := c83.then0 ck
           refine rl_move rfl rfl ?_
           exact RL.nil ⟨_, rfl, Ch.refl, rfl⟩
          refine Each.consA ⟨fun _ _ _ _ cc hh => by obtain ⟨p87, o88, e, hs91⟩ := hh; exact ⟨p87, o88, e, hs91.ch0 cc⟩, fun h => absurd rfl h, fun O wk hO ck => ?_⟩ ?_
          ·
           have h70 := h70.ch0 ck
           have c83 := c83.then0 ck
           refine Need.one rfl rfl ?_
           rintro _ e103
           obtain rfl := e103.symm
           refine Need.one rfl rfl ?_
           rintro _ e104
           obtain rfl := e104.symm
           refine rl_ixSuf rfl h66 h70 rfl (ixO_get hy94) kStr_pos Try.underlying30 Try.sizeOf9 rfl ?_
           intro p105 o106 cs107 hr108 hs109 hg110
           obtain rfl := hr108
           exact RL.nil ⟨_, rfl, Ch.refl, ⟨p105, o106, rfl, hs109⟩⟩
          refine Each.consA ⟨fun _ _ _ _ _ h => h, fun h => absurd rfl h, fun O wk hO ck => ?_⟩ ?_
          ·
           have h70 := h70.ch0 ck
           have c83 := c83.then0 ck
           refine Need.one rfl rfl ?_
           rintro _ ⟨p87, o88, e111, hs91⟩
           obtain rfl := e111.symm
           refine rl_loadS (v := (Value.string y93)) rfl Try.isAgg9 (hs91 0 _ rfl) rfl ?_
           exact RL.nil ⟨_, rfl, Ch.refl, rfl⟩
          refine Each.consA ⟨fun _ _ _ _ _ h => h, fun h => absurd rfl h, fun O wk hO ck => ?_⟩ ?_
          ·
           have h70 := h70.ch0 ck
           have c83 := c83.then0 ck
           refine rl_move rfl rfl ?_
           exact RL.nil ⟨_, rfl, Ch.refl, rfl⟩
          refine Each.consA ⟨fun _ _ _ _ _ h => h, fun h => absurd rfl h, fun O wk hO ck => ?_⟩ ?_
          ·
           have h70 := h70.ch0 ck
           have c83 := c83.then0 ck
           refine rl_move rfl rfl ?_
           exact RL.nil ⟨_, rfl, Ch.refl, rfl⟩
          refine Each.consA ⟨fun _ _ _ _ _ h => h, fun h => absurd rfl h, fun O wk hO ck => ?_⟩ ?_
          ·
           have h70 := h70.ch0 ck
           have c83 := c83.then0 ck
           refine Need.one rfl rfl ?_
           rintro _ e112
           obtain rfl := e112.symm
           refine rl_bin rfl rfl B.sub rfl ?_
           exact RL.nil ⟨_, rfl, Ch.refl, rfl⟩
          refine Each.consA ⟨fun _ _ _ _ cc hh => by obtain ⟨p95, o96, e, hs99⟩ := hh; exact ⟨p95, o96, e, hs99.ch0 cc⟩, fun h => absurd rfl h, fun O wk hO ck => ?_⟩ ?_
          ·
           have h70 := h70.ch0 ck
           have c83 := c83.then0 ck
           refine Need.one rfl rfl ?_
           rintro _ e113
           obtain rfl := e113.symm
           refine Need.one rfl rfl ?_
           rintro _ e114
           obtain rfl := e114.symm
           refine rl_ixSuf rfl h66 h70 rfl (ixO_get hy102) kStr_pos Try.underlying30 Try.sizeOf9 rfl ?_
           intro p115 o116 cs117 hr118 hs119 hg120
           obtain rfl := hr118
           exact RL.nil ⟨_, rfl, Ch.refl, ⟨p115, o116, rfl, hs119⟩⟩
          refine Each.consA ⟨fun _ _ _ _ _ h => h, fun h => absurd rfl h, fun O wk hO ck => ?_⟩ ?_
          ·
           have h70 := h70.ch0 ck
           have c83 := c83.then0 ck
           refine Need.one rfl rfl ?_
           rintro _ ⟨p95, o96, e121, hs99⟩
           obtain rfl := e121.symm
           refine rl_loadS (v := (Value.string y101)) rfl Try.isAgg9 (hs99 0 _ rfl) rfl ?_
           exact RL.nil ⟨_, rfl, Ch.refl, rfl⟩
          trivial
         ·
          intro O124 w122 hO125 c123
          have h70 := h70.ch0 c123
          have c83 := c83.then0 c123
          refine Need.one rfl rfl ?_
          rintro _ e126
          obtain rfl := e126.symm
          refine Need.one rfl rfl ?_
          rintro _ e127
          obtain rfl := e127.symm
          refine rl_bin rfl rfl B.neqS rfl ?_
          refine RL.nil ?_
          refine thn_n ?_
          refine CW.cond (t := !decide (y93 = y101)) rfl (fun q128 => ?_) (fun q128 => ?_)
          ·
           have hb77 := ifT q128 hb77
           refine CW.seq (CW.region ?_)
           refine rl_move rfl rfl ?_
           refine rl_move rfl rfl ?_
           refine rl_move rfl rfl ?_
           refine rl_move rfl rfl ?_
           obtain ⟨y135, hy136, hb77⟩ := bindS hb77
           refine rl_ixSuf rfl h66 h70 rfl (ixO_get hy136) kStr_pos Try.underlying30 Try.sizeOf9 rfl ?_
           intro p129 o130 cs131 hr132 hs133 hg134
           obtain rfl := hr132
           refine rl_loadS (v := (Value.string y135)) rfl Try.isAgg9 (hs133 0 _ rfl) rfl ?_
           obtain ⟨y143, hy144, hb77⟩ := bindS hb77
           refine rl_ixO rfl h70 rfl (ixO_get hy144) Try.underlying30 Try.sizeOf9 rfl ?_
           intro p137 hg142
           refine rl_storeOS rfl rfl ⟨rfl, rfl⟩ Try.sizeOf9 h70 hg142 (ixO_lt hy144) (show kStr.rep (G F Bb (un (inBlk av0) S2)) w122 y135 [(Value.string y135)] from rfl) ?_
           intro w145 c146 h147
           have ad148 : ∀ b, b < w122.heap.size → ¬ (un (inBlk av0) S2) b → ¬ inBlk av0 b ∧ ¬ (un (inBlk av0) S2) b := fun b _ hs => ⟨fun h => hs (.inl h), hs⟩
           have c83 := c83.then c146 (fun i hi h => (lin0 i h).elim (fun x => x) (fun x => absurd x (Nat.not_le_of_lt hi)))
           refine RL.nil ?_
           refine thn_n ?_
           refine CW.region ?_
           refine rl_move rfl rfl ?_
           refine rl_bin rfl rfl B.add rfl ?_
           refine rl_assign rfl rfl ?_
           refine RL.nil ?_
           refine inB_n ?_
           refine thn_n ?_
           refine CW.region ?_
           refine rl_move rfl rfl ?_
           refine rl_bin rfl rfl B.add rfl ?_
           refine rl_assign rfl rfl ?_
           refine RL.nil ?_
           refine thn_n ?_
           have hLn := runW_next hL73 hq76 hb77
           exact ⟨k82, Nat.lt_succ_self _, [(0, av0), (4, v65), (3, (Value.int .i64 (IntKind.i64.wrap (x67 + 1)))), (5, (Value.int .i64 (IntKind.i64.wrap (x68 + 1))))], ⟨rfl, rfl, rfl, rfl, trivial⟩, ⟨IntKind.i64.wrap (x67 + 1), IntKind.i64.wrap (x68 + 1), x69.set x67.toNat y135, rfl, c83, hLn, h147⟩⟩
          ·
           have hb77 := ifF q128 hb77
           refine CW.skip ?_
           refine inB_n ?_
           refine thn_n ?_
           refine CW.region ?_
           refine rl_move rfl rfl ?_
           refine rl_bin rfl rfl B.add rfl ?_
           refine rl_assign rfl rfl ?_
           refine RL.nil ?_
           refine thn_n ?_
           have hLn := runW_next hL73 hq76 hb77
           exact ⟨k82, Nat.lt_succ_self _, [(0, av0), (4, v65), (3, (Value.int .i64 x67)), (5, (Value.int .i64 (IntKind.i64.wrap (x68 + 1))))], ⟨rfl, rfl, rfl, rfl, trivial⟩, ⟨x67, IntKind.i64.wrap (x68 + 1), x69, rfl, c83, hLn, h70⟩⟩
        ·
         have hb77 := ifF q86 hb77
         refine CW.exit ?_
         refine thn_exit ?_
         refine thn_exit ?_
         refine inB_hit ?_
         have hLf := runW_fin hL73 hq76 hb77
         exact ⟨x67, x68, x69, ⟨rfl, rfl, trivial⟩, c83, hLf, h70⟩
       ·
        rintro _ w150 ⟨x67, x68, x69, hE151, c149, f152, h70⟩
        have hb11 := finS f152 hb11
        refine thn_n (CW.sub [(0, av0), (3, (Value.int .i64 x67))] hE151 ?_)
        refine CW.seq (CW.region ?_)
        refine rl_move rfl rfl ?_
        refine rl_move rfl rfl ?_
        obtain ⟨y154, hy155, hb11⟩ := bindS hb11
        refine rl_cutS rfl h70 rfl hy155 Try.underlying30 Try.sizeOf9 rfl ?_
        intro v156 h157
        refine rl_clearO (z0 := ⟨#[]⟩) rfl h157 (slO_le hy155) Try.underlying30 Try.zeroValue9 h70 (show kStr.rep (G F Bb (un (inBlk av0) S2)) w150 ⟨#[]⟩ [(Value.string ⟨#[]⟩)] from rfl) ?_
        intro w158 c159 h160
        have ad161 : ∀ b, b < w150.heap.size → ¬ (un (inBlk av0) S2) b → ¬ inBlk av0 b ∧ ¬ (un (inBlk av0) S2) b := fun b _ hs => ⟨fun h => hs (.inl h), hs⟩
        have c149 := c149.then c159 (fun i hi h => (lin0 i h).elim (fun x => x) (fun x => absurd x (Nat.not_le_of_lt hi)))
        refine RL.nil ?_
        refine thn_n ?_
        refine CW.seq (CW.region ?_)
        refine rl_move rfl rfl ?_
        refine rl_move rfl rfl ?_
        obtain ⟨y162, hy163, hb11⟩ := bindS hb11
        refine rl_cutO (kl := .i64) (kh := .i64) none (some x67) rfl h160 trivial rfl rfl hy163 Try.underlying30 Try.sizeOf9 rfl ?_
        intro v164 hb166 h165
        have lin167 : ∀ b, inBlk v164 b → inBlk av0 b ∨ w.heap.size ≤ b := fun b h => lin0 b ((hb166 b).1 h)
        have hS168 : (un (inBlk av0) S2) = (un (inBlk v164) S2) := by rw [show inBlk v164 = inBlk av0 from funext fun b => propext (hb166 b)]
        rw [hS168] at h165
        refine rl_assign rfl rfl ?_
        refine RL.nil ?_
        refine thn_n ?_
        refine CW.ret ?_
        refine inB_ret ?_
        refine thn_ret ?_
        refine thn_ret (inB_ret (thn_ret ?_))
        refine thn_ret ?_
        have f169 := runW_ret hL7 hq10 hb11
        have hS := retS f169 hS
        obtain rfl := Option.some.inj hS
        exact ret1 rfl ⟨v164, rfl, h165, lin167, c149⟩
      ·
       have hb11 := ifF q62 hb11
       refine CW.skip ?_
       refine inB_n ?_
       refine thn_n ?_
       refine CW.region ?_
       refine rl_move rfl rfl ?_
       refine rl_bin rfl rfl B.add rfl ?_
       refine rl_assign rfl rfl ?_
       refine RL.nil ?_
       refine thn_n ?_
       have hLn := runW_next hL7 hq10 hb11
       exact ⟨k16, Nat.lt_succ_self _, [(0, av0), (3, (Value.int .i64 (IntKind.i64.wrap (x2 + 1))))], ⟨rfl, rfl, trivial⟩, ⟨IntKind.i64.wrap (x2 + 1), x3, rfl, c17, hLn, h4⟩⟩
    ·
     have hb11 := ifF q20 hb11
     refine CW.exit ?_
     refine thn_exit ?_
     refine thn_exit ?_
     refine inB_hit ?_
     have hLf := runW_fin hL7 hq10 hb11
     exact ⟨x2, x3, ⟨rfl, trivial⟩, c17, hLf, h4⟩
   ·
    rintro _ w171 ⟨x2, x3, hE172, c170, f173, h4⟩
    have hS := finS f173 hS
    refine thn_n (CW.sub [(0, av0)] hE172 ?_)
    refine CW.seq (CW.region ?_)
    refine rl_move rfl rfl ?_
    refine rl_assign rfl rfl ?_
    refine RL.nil ?_
    refine thn_n ?_
    refine CW.ret ?_
    obtain rfl := Option.some.inj hS
    exact ret1 rfl ⟨av0, rfl, h4, lin0, c170⟩
/-- lb/hints.Zones -/
theorem ctr8 (F : Nat → Prop) (w : World) (a0 : (List Candidate)) (av0 : Value) (ah0 : slRep k_Candidate F w a0 av0) (r : (List ByteArray)) (hs : F8_hints_Zones a0 = some r) :
    Ret Try.prog 8 #[av0] w fun v w' => ∃ y0 : Value, v = y0 ∧ SlO kStr 9 F w.heap.size (inBlk y0) w' r y0 ∧ Ch nb w w' := by
  have hS := hs
  have c0 : Ch nb w w := Ch.refl
  have ah0 := slRep.enter k_Candidate_pos ah0
  refine Ret.of (n := 22) (args := [_]) (rs := [.tmp 2]) Try.func8 rfl rfl rfl rfl ?_
  refine CW.seq (CW.region ?_)
  refine rl_assign rfl rfl ?_
  refine RL.nil ?_
  refine thn_n ?_
  refine CW.seq (CW.region ?_)
  refine rl_assign rfl rfl ?_
  refine RL.nil ?_
  refine thn_n ?_
  refine CW.seq ?_
  refine CW.seq (CW.region ?_)
  refine rl_move rfl rfl ?_
  obtain ⟨y3, hy4, hS⟩ := bindS hS
  refine rl_callF rfl en21 rfl (ctr21 (G F w.heap.size nb) w a0 av0 ah0 y3 hy4) ?_
  rintro v5 w1 ⟨_, rfl, h6, c2⟩
  have h6 := SlO.backR k_Candidate_pos h6 nbS c0.size
  have ah0 := slRep.ch k_Candidate_pos ah0 c2
  have c0 := c0.then0 c2
  refine rl_lenR rfl h6 Try.underlying22 rfl ?_
  refine rl_move rfl rfl ?_
  refine RL.nil ?_
  refine thn_n ?_
  have crf : Ch nb w1 w1 := Ch.refl
  have ah0 := slRep.st k_Candidate_pos ah0 crf admNil
  have h6 := slRep.st k_Candidate_pos h6 crf admNil
  have c0 := c0.then0 crf
  have h7 : SlO kStr 9 F w.heap.size (un (inBlk (Value.slice none 0 0)) nb) w1 ([] : List ByteArray) (.slice none 0 0) := SlO.nil
  obtain ⟨o18, ho19, hS⟩ := bindS hS
  refine CW.cutB (fun E' w' => ∃ (x8 : (List ByteArray)) (v9 : Value), Sub [(3, v9)] E' ∧ Ch nb w w' ∧ x8 = o18 ∧ slRep k_Candidate (G F w.heap.size (un (inBlk v9) nb)) w' a0 av0 ∧ slRep k_Candidate (G F w.heap.size (un (inBlk v9) nb)) w' y3 v5 ∧ SlO kStr 9 F w.heap.size (un (inBlk v9) nb) w' x8 v9) ?_ ?_
  ·
   refine CW.loopS [(7, v5), (8, (Value.int .i64 ((y3.length : Nat) : Int))), (3, (Value.slice none 0 0)), (9, (Value.int .i64 ((0 : Nat) : Int)))] ⟨rfl, rfl, rfl, rfl, trivial⟩ y3.length (fun m E w' => ∃ (rest11 : List Candidate) (i12 : Nat) (x8 : (List ByteArray)) (v9 : Value), m = rest11.length ∧ E = [(7, v5), (8, (Value.int .i64 ((y3.length : Nat) : Int))), (3, v9), (9, (Value.int .i64 ((i12 : Nat) : Int)))] ∧ Ch nb w w' ∧ At y3 i12 rest11 ∧ runAO F8_hints_Zones_b1 rest11 x8 = some o18 ∧ slRep k_Candidate (G F w.heap.size (un (inBlk v9) nb)) w' a0 av0 ∧ slRep k_Candidate (G F w.heap.size (un (inBlk v9) nb)) w' y3 v5 ∧ SlO kStr 9 F w.heap.size (un (inBlk v9) nb) w' x8 v9)
       ⟨y3, 0, ([] : List ByteArray), (Value.slice none 0 0), rfl, rfl, c0, At.start, ho19, ah0, h6, h7⟩ ?_
   rintro _ _ w24 ⟨rest11, i12, x8, v9, rfl, rfl, c23, hat14, hL13, ah0, h6, h10⟩
   refine CW.seq (CW.region ?_)
   refine rl_bin rfl rfl B.lss rfl ?_
   refine RL.nil (thn_n ?_)
   refine CW.seq ?_
   refine CW.cond (t := decide (((i12 : Nat) : Int) < ((y3.length : Nat) : Int))) rfl (fun q26 => ?_) (fun q26 => ?_)
   ·
    obtain ⟨x20, rest27, rfl⟩ := hat14.cons q26
    obtain ⟨q15, hq16⟩ := runAO_some hL13
    have hb17 := hq16
    refine CW.skip (thn_n ?_)
    refine CW.seq ?_
    refine CW.block ?_
    refine CW.seq (CW.region ?_)
    refine rl_ixR rfl h6 rfl hat14.get Try.underlying22 Try.sizeOf32 rfl ?_
    intro p28 o29 cs30 hr31 hs32 hg33
    obtain ⟨z34, rfl, h35⟩ := hr31
    refine rl_loadA (cs := (Candidate.c x20 z34)) rfl Try.isAgg32 Try.sizeOf32 (hs32) rfl rfl ?_
    refine rl_alloc (Candidate.c Candidate.z (Value.slice none 0 0)) Try.zeroValue32 rfl rfl ?_
    intro p36 w37 n38 k39
    have lop36 := n38.lo c23.size
    have d40 : ∀ b, inBlk (Value.pointer (some ⟨p36, 0, none⟩)) b → ¬ inBlk v9 b := disNew n38.fresh (fun b hb => (h10.lt b hb).2)
    have ah0 := slRep.st k_Candidate_pos ah0 n38.ch (admNew n38.fresh (fun _ x => x))
    have h6 := slRep.st k_Candidate_pos h6 n38.ch (admNew n38.fresh (fun _ x => x))
    have h10 := h10.st n38.ch (fun _ _ x => x) (admNew n38.fresh (fun _ x => x)) (fun b h => (.inr (.inl h)))
    have h35 := slRep.st kStr_pos h35 n38.ch (admNew n38.fresh (fun _ x => x))
    have c23 := c23.then0 n38.ch
    refine rl_storeA (vs := (Candidate.c x20 z34)) rfl rfl (Kd.one _ (show k_Candidate.rep (G F w.heap.size (un (inBlk (Value.pointer (some ⟨p36, 0, none⟩))) (un (inBlk v9) nb))) w37 x20 (Candidate.c x20 z34) from ⟨z34, rfl, h35⟩)) Try.sizeOf32 rfl k39 rfl ?_
    intro w41 s43 c42 k44
    have ad45 : ∀ b, b < w37.heap.size → ¬ (un (inBlk (Value.pointer (some ⟨p36, 0, none⟩))) (un (inBlk v9) nb)) b → ¬ inBlk (Value.pointer (some ⟨p36, 0, none⟩)) b ∧ ¬ (un (inBlk (Value.pointer (some ⟨p36, 0, none⟩))) (un (inBlk v9) nb)) b := fun b _ hs => ⟨fun h => hs (.inl h), hs⟩
    have ah0 := slRep.st k_Candidate_pos ah0 c42 ad45
    have h6 := slRep.st k_Candidate_pos h6 c42 ad45
    have h10 := h10.st c42 (disSym d40) ad45 (fun b h => (.inr (.inl h)))
    have h35 := slRep.st kStr_pos h35 c42 ad45
    have c23 := c23.then c42 (fun i hi h => absurd (lop36 i h) (Nat.not_le_of_lt hi))
    refine RL.nil ?_
    refine thn_n ?_
    refine CW.region ?_
    refine rl_move rfl rfl ?_
    refine rl_fieldAddr rfl fa32_5 rfl ?_
    refine rl_loadS (v := z34) rfl Try.isAgg30 (k44.cell rfl) rfl ?_
    obtain ⟨z54, hz55, hb17⟩ := bindS hb17
    have hl := (apO_get hz55).1
    refine rl_append (k := kStr) (T := 9) (F := F) (B := w.heap.size) (S := (un (inBlk (Value.pointer (some ⟨p36, 0, none⟩))) (un (inBlk v9) nb))) (S2 := (un (inBlk (Value.pointer (some ⟨p36, 0, none⟩))) nb)) (fun v => (un (inBlk (Value.pointer (some ⟨p36, 0, none⟩))) (un (inBlk v) nb))) rfl rfl kStr_pos ap30 h10 h35 (fun _ => un_swap) (fun _ _ => un_swap) hl c23.size (un_lt k44.ltp (un_lt (fun b hb => (h10.lt b hb).2) nbS)) rfl ?_
    intro v48 w49 h50 c51 hf52 ha53
    have d56 : ∀ b, inBlk v48 b → ¬ inBlk (Value.pointer (some ⟨p36, 0, none⟩)) b := disApp hf52 (disSym d40) k44.ltp
    have ah0 := slRep.st k_Candidate_pos ah0 c51 ha53
    have h6 := slRep.st k_Candidate_pos h6 c51 ha53
    have h35 := slRep.st kStr_pos h35 c51 ha53
    have k44 := k44.ch c51 (d40 _ rfl)
    have c23 := c23.then c51 (fun i hi h => absurd ((fun b hb => (h10.lt b hb).1) i h) (Nat.not_le_of_lt hi))
    refine rl_assign rfl rfl ?_
    refine RL.nil ?_
    refine inB_n ?_
    refine thn_n ?_
    refine CW.region ?_
    refine rl_inc rfl hat14.lt h6.big rfl ?_
    refine rl_move rfl rfl ?_
    refine RL.nil ?_
    refine thn_n ?_
    have crf : Ch nb w49 w49 := Ch.refl
    have ah0 := slRep.st k_Candidate_pos ah0 crf (show ∀ b, b < w49.heap.size → ¬ (un (inBlk (Value.pointer (some ⟨p36, 0, none⟩))) (un (inBlk v48) nb)) b → ¬ nb b ∧ ¬ (un (inBlk v48) nb) b from fun b _ hs => ⟨fun x => x, fun h => hs (un_el h (fun h => (.inr (.inl h))) (fun h => False.elim h))⟩)
    have h6 := slRep.st k_Candidate_pos h6 crf (show ∀ b, b < w49.heap.size → ¬ (un (inBlk (Value.pointer (some ⟨p36, 0, none⟩))) (un (inBlk v48) nb)) b → ¬ nb b ∧ ¬ (un (inBlk v48) nb) b from fun b _ hs => ⟨fun x => x, fun h => hs (un_el h (fun h => (.inr (.inl h))) (fun h => False.elim h))⟩)
    have h35 := slRep.st kStr_pos h35 crf (show ∀ b, b < w49.heap.size → ¬ (un (inBlk (Value.pointer (some ⟨p36, 0, none⟩))) (un (inBlk v48) nb)) b → ¬ nb b ∧ ¬ (un (inBlk v48) nb) b from fun b _ hs => ⟨fun x => x, fun h => hs (un_el h (fun h => (.inr (.inl h))) (fun h => False.elim h))⟩)
    have h50 := h50.st crf (fun _ _ x => x) (show ∀ b, b < w49.heap.size → ¬ (un (inBlk (Value.pointer (some ⟨p36, 0, none⟩))) (un (inBlk v48) nb)) b → ¬ nb b ∧ ¬ (un (inBlk v48) nb) b from fun b _ hs => ⟨fun x => x, fun h => hs (un_el h (fun h => (.inr (.inl h))) (fun h => False.elim h))⟩) (fun b h => (.inl h))
    have c23 := c23.then0 crf
    have hLn := runAO_next hL13 hq16 hb17
    exact ⟨rest27.length, Nat.lt_succ_self _, [(7, v5), (8, (Value.int .i64 ((y3.length : Nat) : Int))), (3, v48), (9, (Value.int .i64 ((i12 + 1 : Nat) : Int)))], ⟨rfl, rfl, rfl, rfl, trivial⟩, ⟨rest27, i12 + 1, x8 ++ x20.zones, v48, rfl, rfl, c23, hat14.next, hLn, ah0, h6, h50⟩⟩
   ·
    obtain rfl := hat14.nil q26
    have hLf : x8 = o18 := runAO_done hL13
    refine CW.exit (thn_exit (thn_exit (inB_hit ?_)))
    exact ⟨x8, v9, ⟨rfl, trivial⟩, c23, hLf, ah0, h6, h10⟩
  ·
   rintro _ w58 ⟨x8, v9, hE59, c57, f60, ah0, h6, h10⟩
   subst f60
   refine thn_n (CW.sub [(3, v9)] hE59 ?_)
   refine CW.seq (CW.region ?_)
   refine rl_move rfl rfl ?_
   have hd62 : ∀ b, inBlk v9 b → ¬ nb b := (fun b hb => fun h => h)
   have hS63 : (un (inBlk v9) nb) = un (inBlk v9) nb := funext fun _ => propext Iff.rfl
   obtain ⟨y66, hy67⟩ : ∃ y, F24_slices_Sort_string x8 = y := ⟨_, rfl⟩
   have hS := ltS hy67 hS
   refine rl_callF rfl en24 rfl (ctr24 F w58 w.heap.size nb c57.size nbS v9 hd62 x8 (hS63 ▸ h10) y66 hy67) ?_
   rintro _ w64 ⟨rfl, h69, c65⟩
   have ad70 : ∀ b, b < w58.heap.size → ¬ (un (inBlk v9) nb) b → ¬ inBlk v9 b ∧ ¬ (un (inBlk v9) nb) b := fun b _ hs => ⟨fun h => hs (.inl h), hs⟩
   have ah0 := slRep.st k_Candidate_pos ah0 c65 ad70
   have h6 := slRep.st k_Candidate_pos h6 c65 ad70
   have c57 := c57.then c65 (fun i hi h => absurd ((fun b hb => (h10.lt b hb).1) i h) (Nat.not_le_of_lt hi))
   refine RL.nil ?_
   refine thn_n ?_
   refine CW.seq (CW.region ?_)
   refine rl_move rfl rfl ?_
   have hd71 : ∀ b, inBlk v9 b → ¬ nb b := (fun b hb => fun h => h)
   have hS72 : (un (inBlk v9) nb) = un (inBlk v9) nb := funext fun _ => propext Iff.rfl
   obtain ⟨y75, hy76, hS⟩ := bindS hS
   refine rl_callF rfl en25 rfl (ctr25 F w64 w.heap.size nb c57.size nbS v9 hd71 y66 (hS72 ▸ h69) y75 hy76) ?_
   rintro v77 w73 ⟨_, rfl, h78, hf79, c74⟩
   have ha80 : ∀ b, b < w64.heap.size → ¬ (un (inBlk v9) nb) b → ¬ inBlk v9 b ∧ ¬ (un (inBlk v77) nb) b := by rw [hS72]; exact admApp hf79
   have ah0 := slRep.st k_Candidate_pos ah0 c74 ha80
   have h6 := slRep.st k_Candidate_pos h6 c74 ha80
   have c57 := c57.then c74 (fun i hi h => absurd ((fun b hb => (h69.lt b hb).1) i h) (Nat.not_le_of_lt hi))
   refine rl_assign rfl rfl ?_
   refine RL.nil ?_
   refine thn_n ?_
   refine CW.ret ?_
   obtain rfl := Option.some.inj hS
   exact ret1 rfl ⟨v77, rfl, h78.out, c57⟩
/-- lb/lblaw18.HintsLeave -/
theorem ctr3 (F : Nat → Prop) (w : World) (a0 : (List Candidate)) (av0 : Value) (ah0 : slRep k_Candidate F w a0 av0) (a1 : ByteArray) (r : Bool) (hs : F3_linkboylaw18_HintsLeave a0 a1 = some r) :
    Ret Try.prog 3 #[av0, (Value.string a1)] w fun v w' => v = (Value.bool r) ∧ Ch nb w w' := by
  have hS := hs
  have c0 : Ch nb w w := Ch.refl
  have ah0 := slRep.enter k_Candidate_pos ah0
  refine Ret.of (n := 82) (args := [_, _]) (rs := [.tmp 4]) Try.func3 rfl rfl rfl rfl ?_
  refine CW.seq (CW.region ?_)
  refine rl_assign rfl rfl ?_
  refine RL.nil ?_
  refine thn_n ?_
  refine CW.seq ?_
  refine CW.seq (CW.region ?_)
  obtain ⟨y3, hy4, hS⟩ := bindS hS
  refine rl_callF rfl en5 rfl (ctr5 (G F w.heap.size nb) w  y3 hy4) ?_
  rintro _ w1 ⟨rfl, c2⟩
  have ah0 := slRep.ch k_Candidate_pos ah0 c2
  have c0 := c0.then0 c2
  refine rl_not rfl rfl ?_
  refine RL.nil ?_
  refine thn_n ?_
  refine CW.cond (t := !y3) rfl (fun q5 => ?_) (fun q5 => ?_)
  ·
   have hS := ifT q5 hS
   refine CW.seq (CW.region ?_)
   refine rl_assign rfl rfl ?_
   refine RL.nil ?_
   refine thn_n ?_
   refine CW.ret ?_
   refine thn_ret ?_
   obtain rfl := Option.some.inj hS
   exact ret1 rfl ⟨rfl, c0⟩
  ·
   have hS := ifF q5 hS
   refine CW.skip ?_
   refine thn_n ?_
   refine CW.seq ?_
   refine CW.seq (CW.region ?_)
   refine rl_move rfl rfl ?_
   obtain ⟨y8, hy9⟩ : ∃ y, F6_linkboylaw18_Long a0 = y := ⟨_, rfl⟩
   have hS := ltS hy9 hS
   refine rl_callF rfl en6 rfl (ctr6 (G F w.heap.size nb) w1 a0 av0 ah0 y8 hy9) ?_
   rintro _ w6 ⟨rfl, c7⟩
   have ah0 := slRep.ch k_Candidate_pos ah0 c7
   have c0 := c0.then0 c7
   refine rl_move rfl rfl ?_
   obtain ⟨b12, hb13⟩ : ∃ v, (y8 || (decide (((a1.size : Nat) : Int) > 100))) = v := ⟨_, rfl⟩
   have hS := ltS hb13 hS
   refine RL.join 4 22 (.bool b12) (fun w' => Ch nb w6 w') ?_ ?_
   · rcases Bool.eq_false_or_eq_true y8 with hg11 | hg11
     ·
      have hs10 := or_t hg11 hb13
      have cs : Ch nb w6 w6 := Ch.refl
      refine RL.no rfl rfl rfl hg11 rfl rfl ?_
      refine RL.no rfl rfl rfl hg11 rfl rfl ?_
      refine RL.no rfl rfl rfl hg11 rfl rfl ?_
      refine rl_pickT rfl hg11 rfl rfl ?_
      exact RL.nil ⟨Ext.bothEq (congrArg Value.bool hs10) (Ext.skip rfl (Ext.skip rfl (Ext.skip rfl (Ext.rfl')))), cs⟩
     ·
      have hs10 := or_f hg11 hb13
      have cs : Ch nb w6 w6 := Ch.refl
      refine RL.yes rfl rfl rfl hg11 ?_
      refine rl_move rfl rfl ?_
      refine RL.yes rfl rfl rfl hg11 ?_
      refine rl_lenStr rfl Try.underlying9 rfl ?_
      refine RL.yes rfl rfl rfl hg11 ?_
      refine rl_bin rfl rfl B.gtr rfl ?_
      refine rl_pickF rfl hg11 rfl rfl ?_
      exact RL.nil ⟨Ext.bothEq (congrArg Value.bool hs10) (Ext.skip rfl (Ext.skip rfl (Ext.skip rfl (Ext.rfl')))), cs⟩
   intro w14 c15
   have ah0 := slRep.ch k_Candidate_pos ah0 c15
   have c0 := c0.then0 c15
   refine RL.nil ?_
   refine thn_n ?_
   refine CW.cond (t := b12) rfl (fun q16 => ?_) (fun q16 => ?_)
   ·
    have hS := ifT q16 hS
    refine CW.seq (CW.region ?_)
    refine rl_assign rfl rfl ?_
    refine RL.nil ?_
    refine thn_n ?_
    refine CW.ret ?_
    refine thn_ret ?_
    obtain rfl := Option.some.inj hS
    exact ret1 rfl ⟨rfl, c0⟩
   ·
    have hS := ifF q16 hS
    refine CW.skip ?_
    refine thn_n ?_
    refine CW.seq (CW.region ?_)
    refine rl_assign rfl rfl ?_
    refine RL.nil ?_
    refine thn_n ?_
    refine CW.seq ?_
    refine CW.seq (CW.region ?_)
    refine rl_move rfl rfl ?_
    refine rl_lenR rfl ah0 Try.underlying22 rfl ?_
    refine rl_move rfl rfl ?_
    refine RL.nil ?_
    refine thn_n ?_
    obtain ⟨o25, ho26⟩ : ∃ o, runA F3_linkboylaw18_HintsLeave_b1 a0 0 = o := ⟨_, rfl⟩
    have hS := ltS ho26 hS
    refine CW.cutB (fun E' w' => ∃ (x17 : Int), Sub [(0, av0), (1, (Value.string a1)), (5, (Value.int .i64 x17))] E' ∧ Ch nb w w' ∧ x17 = o25 ∧ slRep k_Candidate (G F w.heap.size nb) w' a0 av0) ?_ ?_
    ·
     refine CW.loopS [(0, av0), (1, (Value.string a1)), (23, av0), (24, (Value.int .i64 ((a0.length : Nat) : Int))), (5, (Value.int .i64 0)), (25, (Value.int .i64 ((0 : Nat) : Int)))] ⟨rfl, rfl, rfl, rfl, rfl, rfl, trivial⟩ a0.length (fun m E w' => ∃ (rest18 : List Candidate) (i19 : Nat) (x17 : Int), m = rest18.length ∧ E = [(0, av0), (1, (Value.string a1)), (23, av0), (24, (Value.int .i64 ((a0.length : Nat) : Int))), (5, (Value.int .i64 x17)), (25, (Value.int .i64 ((i19 : Nat) : Int)))] ∧ Ch nb w w' ∧ At a0 i19 rest18 ∧ runA F3_linkboylaw18_HintsLeave_b1 rest18 x17 = o25 ∧ slRep k_Candidate (G F w.heap.size nb) w' a0 av0)
         ⟨a0, 0, 0, rfl, rfl, c0, At.start, ho26, ah0⟩ ?_
     rintro _ _ w31 ⟨rest18, i19, x17, rfl, rfl, c30, hat21, hL20, ah0⟩
     refine CW.seq (CW.region ?_)
     refine rl_bin rfl rfl B.lss rfl ?_
     refine RL.nil (thn_n ?_)
     refine CW.seq ?_
     refine CW.cond (t := decide (((i19 : Nat) : Int) < ((a0.length : Nat) : Int))) rfl (fun q33 => ?_) (fun q33 => ?_)
     ·
      obtain ⟨x27, rest34, rfl⟩ := hat21.cons q33
      obtain ⟨q22, hq23⟩ : ∃ q, F3_linkboylaw18_HintsLeave_b1 x27 x17 = q := ⟨_, rfl⟩
      have hb24 := hq23
      refine CW.skip (thn_n ?_)
      refine CW.seq ?_
      refine CW.block ?_
      refine CW.seq (CW.region ?_)
      refine rl_ixR rfl ah0 rfl hat21.get Try.underlying22 Try.sizeOf32 rfl ?_
      intro p35 o36 cs37 hr38 hs39 hg40
      obtain ⟨z41, rfl, h42⟩ := hr38
      refine rl_loadA (cs := (Candidate.c x27 z41)) rfl Try.isAgg32 Try.sizeOf32 (hs39) rfl rfl ?_
      refine rl_alloc (Candidate.c Candidate.z (Value.slice none 0 0)) Try.zeroValue32 rfl rfl ?_
      intro p43 w44 n45 k46
      have lop43 := n45.lo c30.size
      have ah0 := slRep.st k_Candidate_pos ah0 n45.ch (admNew n45.fresh (fun _ x => x))
      have h42 := slRep.st kStr_pos h42 n45.ch (admNew n45.fresh (fun _ x => x))
      have c30 := c30.then0 n45.ch
      refine rl_storeA (vs := (Candidate.c x27 z41)) rfl rfl (Kd.one _ (show k_Candidate.rep (G F w.heap.size (un (inBlk (Value.pointer (some ⟨p43, 0, none⟩))) nb)) w44 x27 (Candidate.c x27 z41) from ⟨z41, rfl, h42⟩)) Try.sizeOf32 rfl k46 rfl ?_
      intro w47 s49 c48 k50
      have ad51 : ∀ b, b < w44.heap.size → ¬ (un (inBlk (Value.pointer (some ⟨p43, 0, none⟩))) nb) b → ¬ inBlk (Value.pointer (some ⟨p43, 0, none⟩)) b ∧ ¬ (un (inBlk (Value.pointer (some ⟨p43, 0, none⟩))) nb) b := fun b _ hs => ⟨fun h => hs (.inl h), hs⟩
      have ah0 := slRep.st k_Candidate_pos ah0 c48 ad51
      have h42 := slRep.st kStr_pos h42 c48 ad51
      have c30 := c30.then c48 (fun i hi h => absurd (lop43 i h) (Nat.not_le_of_lt hi))
      refine RL.nil ?_
      refine thn_n ?_
      refine CW.seq (CW.region ?_)
      refine rl_fieldAddr rfl fa32_2 rfl ?_
      refine rl_loadS (v := (Value.bool x27.ready)) rfl Try.isAgg4 (k50.cell rfl) rfl ?_
      refine RL.nil ?_
      refine thn_n ?_
      refine CW.cond (t := x27.ready) rfl (fun q52 => ?_) (fun q52 => ?_)
      ·
       have hb24 := ifT q52 hb24
       refine CW.region ?_
       refine rl_move rfl rfl ?_
       refine rl_bin rfl rfl B.add rfl ?_
       refine rl_assign rfl rfl ?_
       refine RL.nil ?_
       refine inB_n ?_
       refine thn_n ?_
       refine CW.region ?_
       refine rl_inc rfl hat21.lt ah0.big rfl ?_
       refine rl_move rfl rfl ?_
       refine RL.nil ?_
       refine thn_n ?_
       have crf : Ch nb w47 w47 := Ch.refl
       have ah0 := slRep.st k_Candidate_pos ah0 crf (show ∀ b, b < w47.heap.size → ¬ (un (inBlk (Value.pointer (some ⟨p43, 0, none⟩))) nb) b → ¬ nb b ∧ ¬ nb b from fun b _ hs => ⟨fun x => x, fun h => hs (False.elim h)⟩)
       have h42 := slRep.st kStr_pos h42 crf (show ∀ b, b < w47.heap.size → ¬ (un (inBlk (Value.pointer (some ⟨p43, 0, none⟩))) nb) b → ¬ nb b ∧ ¬ nb b from fun b _ hs => ⟨fun x => x, fun h => hs (False.elim h)⟩)
       have c30 := c30.then0 crf
       have hLn := runA_next hL20 (hb24.trans hq23.symm)
       exact ⟨rest34.length, Nat.lt_succ_self _, [(0, av0), (1, (Value.string a1)), (23, av0), (24, (Value.int .i64 ((a0.length : Nat) : Int))), (5, (Value.int .i64 (IntKind.i64.wrap (x17 + 1)))), (25, (Value.int .i64 ((i19 + 1 : Nat) : Int)))], ⟨rfl, rfl, rfl, rfl, rfl, rfl, trivial⟩, ⟨rest34, i19 + 1, IntKind.i64.wrap (x17 + 1), rfl, rfl, c30, hat21.next, hLn, ah0⟩⟩
      ·
       have hb24 := ifF q52 hb24
       refine CW.skip ?_
       refine inB_n ?_
       refine thn_n ?_
       refine CW.region ?_
       refine rl_inc rfl hat21.lt ah0.big rfl ?_
       refine rl_move rfl rfl ?_
       refine RL.nil ?_
       refine thn_n ?_
       have crf : Ch nb w47 w47 := Ch.refl
       have ah0 := slRep.st k_Candidate_pos ah0 crf (show ∀ b, b < w47.heap.size → ¬ (un (inBlk (Value.pointer (some ⟨p43, 0, none⟩))) nb) b → ¬ nb b ∧ ¬ nb b from fun b _ hs => ⟨fun x => x, fun h => hs (False.elim h)⟩)
       have h42 := slRep.st kStr_pos h42 crf (show ∀ b, b < w47.heap.size → ¬ (un (inBlk (Value.pointer (some ⟨p43, 0, none⟩))) nb) b → ¬ nb b ∧ ¬ nb b from fun b _ hs => ⟨fun x => x, fun h => hs (False.elim h)⟩)
       have c30 := c30.then0 crf
       have hLn := runA_next hL20 (hb24.trans hq23.symm)
       exact ⟨rest34.length, Nat.lt_succ_self _, [(0, av0), (1, (Value.string a1)), (23, av0), (24, (Value.int .i64 ((a0.length : Nat) : Int))), (5, (Value.int .i64 x17)), (25, (Value.int .i64 ((i19 + 1 : Nat) : Int)))], ⟨rfl, rfl, rfl, rfl, rfl, rfl, trivial⟩, ⟨rest34, i19 + 1, x17, rfl, rfl, c30, hat21.next, hLn, ah0⟩⟩
     ·
      obtain rfl := hat21.nil q33
      have hLf : x17 = o25 := hL20
      refine CW.exit (thn_exit (thn_exit (inB_hit ?_)))
      exact ⟨x17, ⟨rfl, rfl, rfl, trivial⟩, c30, hLf, ah0⟩
    ·
     rintro _ w54 ⟨x17, hE55, c53, f56, ah0⟩
     subst f56
     refine thn_n (CW.sub [(0, av0), (1, (Value.string a1)), (5, (Value.int .i64 x17))] hE55 ?_)
     refine CW.seq (CW.region ?_)
     refine rl_move rfl rfl ?_
     refine rl_move rfl rfl ?_
     obtain ⟨y60, hy61, hS⟩ := bindS hS
     refine rl_callF rfl en7 rfl (ctr7 (G F w.heap.size nb) w54 a0 av0 ah0 a1 y60 hy61) ?_
     rintro v62 w58 ⟨_, rfl, h63, c59⟩
     have h63 := SlO.backR k_Candidate_pos h63 nbS c53.size
     have ah0 := slRep.ch k_Candidate_pos ah0 c59
     have c53 := c53.then0 c59
     refine rl_assign rfl rfl ?_
     refine RL.nil ?_
     refine thn_n ?_
     refine CW.seq ?_
     refine CW.seq (CW.region ?_)
     refine rl_move rfl rfl ?_
     refine rl_lenR rfl h63 Try.underlying22 rfl ?_
     refine rl_move rfl rfl ?_
     refine RL.nil ?_
     refine thn_n ?_
     obtain ⟨o71, ho72⟩ : ∃ o, runB F3_linkboylaw18_HintsLeave_b2 y60 () = o := ⟨_, rfl⟩
     have hS := ltS ho72 hS
     refine CW.cutB (fun E' w' => ∃ (_ : Unit), Sub [(0, av0), (1, (Value.string a1)), (5, (Value.int .i64 x17)), (8, v62)] E' ∧ Ch nb w w' ∧ Lp.fin () = o71 ∧ slRep k_Candidate (G F w.heap.size nb) w' a0 av0 ∧ slRep k_Candidate (G F w.heap.size nb) w' y60 v62) ?_ ?_
     ·
      refine CW.loopS [(0, av0), (1, (Value.string a1)), (5, (Value.int .i64 x17)), (8, v62), (37, v62), (38, (Value.int .i64 ((y60.length : Nat) : Int))), (39, (Value.int .i64 ((0 : Nat) : Int)))] ⟨rfl, rfl, rfl, rfl, rfl, rfl, rfl, trivial⟩ y60.length (fun m E w' => ∃ (rest64 : List Candidate) (i65 : Nat) , m = rest64.length ∧ E = [(0, av0), (1, (Value.string a1)), (5, (Value.int .i64 x17)), (8, v62), (37, v62), (38, (Value.int .i64 ((y60.length : Nat) : Int))), (39, (Value.int .i64 ((i65 : Nat) : Int)))] ∧ Ch nb w w' ∧ At y60 i65 rest64 ∧ runB F3_linkboylaw18_HintsLeave_b2 rest64 () = o71 ∧ slRep k_Candidate (G F w.heap.size nb) w' a0 av0 ∧ slRep k_Candidate (G F w.heap.size nb) w' y60 v62)
          ⟨y60, 0, rfl, rfl, c53, At.start, ho72, ah0, h63⟩ ?_
      rintro _ _ w77 ⟨rest64, i65, rfl, rfl, c76, hat67, hL66, ah0, h63⟩
      refine CW.seq (CW.region ?_)
      refine rl_bin rfl rfl B.lss rfl ?_
      refine RL.nil (thn_n ?_)
      refine CW.seq ?_
      refine CW.cond (t := decide (((i65 : Nat) : Int) < ((y60.length : Nat) : Int))) rfl (fun q79 => ?_) (fun q79 => ?_)
      ·
       obtain ⟨x73, rest80, rfl⟩ := hat67.cons q79
       obtain ⟨q68, hq69⟩ : ∃ q, F3_linkboylaw18_HintsLeave_b2 x73 () = q := ⟨_, rfl⟩
       have hb70 := hq69
       refine CW.skip (thn_n ?_)
       refine CW.seq ?_
       refine CW.block ?_
       refine CW.seq (CW.region ?_)
       refine rl_ixR rfl h63 rfl hat67.get Try.underlying22 Try.sizeOf32 rfl ?_
       intro p81 o82 cs83 hr84 hs85 hg86
       obtain ⟨z87, rfl, h88⟩ := hr84
       refine rl_loadA (cs := (Candidate.c x73 z87)) rfl Try.isAgg32 Try.sizeOf32 (hs85) rfl rfl ?_
       refine rl_alloc (Candidate.c Candidate.z (Value.slice none 0 0)) Try.zeroValue32 rfl rfl ?_
       intro p89 w90 n91 k92
       have lop89 := n91.lo c76.size
       have ah0 := slRep.st k_Candidate_pos ah0 n91.ch (admNew n91.fresh (fun _ x => x))
       have h63 := slRep.st k_Candidate_pos h63 n91.ch (admNew n91.fresh (fun _ x => x))
       have h88 := slRep.st kStr_pos h88 n91.ch (admNew n91.fresh (fun _ x => x))
       have c76 := c76.then0 n91.ch
       refine rl_storeA (vs := (Candidate.c x73 z87)) rfl rfl (Kd.one _ (show k_Candidate.rep (G F w.heap.size (un (inBlk (Value.pointer (some ⟨p89, 0, none⟩))) nb)) w90 x73 (Candidate.c x73 z87) from ⟨z87, rfl, h88⟩)) Try.sizeOf32 rfl k92 rfl ?_
       intro w93 s95 c94 k96
       have ad97 : ∀ b, b < w90.heap.size → ¬ (un (inBlk (Value.pointer (some ⟨p89, 0, none⟩))) nb) b → ¬ inBlk (Value.pointer (some ⟨p89, 0, none⟩)) b ∧ ¬ (un (inBlk (Value.pointer (some ⟨p89, 0, none⟩))) nb) b := fun b _ hs => ⟨fun h => hs (.inl h), hs⟩
       have ah0 := slRep.st k_Candidate_pos ah0 c94 ad97
       have h63 := slRep.st k_Candidate_pos h63 c94 ad97
       have h88 := slRep.st kStr_pos h88 c94 ad97
       have c76 := c76.then c94 (fun i hi h => absurd (lop89 i h) (Nat.not_le_of_lt hi))
       refine RL.nil ?_
       refine thn_n ?_
       refine CW.seq (CW.region ?_)
       refine rl_fieldAddr rfl fa32_2 rfl ?_
       refine rl_loadS (v := (Value.bool x73.ready)) rfl Try.isAgg4 (k96.cell rfl) rfl ?_
       refine rl_not rfl rfl ?_
       refine RL.nil ?_
       refine thn_n ?_
       refine CW.cond (t := !x73.ready) rfl (fun q98 => ?_) (fun q98 => ?_)
       ·
        have hb70 := ifT q98 hb70
        refine CW.seq (CW.region ?_)
        refine rl_assign rfl rfl ?_
        refine RL.nil ?_
        refine thn_n ?_
        refine CW.ret ?_
        refine inB_ret ?_
        refine thn_ret ?_
        refine thn_ret (inB_ret (thn_ret ?_))
        refine thn_ret ?_
        have f99 := runB_ret hL66 (hb70.trans hq69.symm)
        have hS := retS f99 hS
        obtain rfl := Option.some.inj hS
        exact ret1 rfl ⟨rfl, c76⟩
       ·
        have hb70 := ifF q98 hb70
        refine CW.skip ?_
        refine inB_n ?_
        refine thn_n ?_
        refine CW.region ?_
        refine rl_inc rfl hat67.lt h63.big rfl ?_
        refine rl_move rfl rfl ?_
        refine RL.nil ?_
        refine thn_n ?_
        have crf : Ch nb w93 w93 := Ch.refl
        have ah0 := slRep.st k_Candidate_pos ah0 crf (show ∀ b, b < w93.heap.size → ¬ (un (inBlk (Value.pointer (some ⟨p89, 0, none⟩))) nb) b → ¬ nb b ∧ ¬ nb b from fun b _ hs => ⟨fun x => x, fun h => hs (False.elim h)⟩)
        have h63 := slRep.st k_Candidate_pos h63 crf (show ∀ b, b < w93.heap.size → ¬ (un (inBlk (Value.pointer (some ⟨p89, 0, none⟩))) nb) b → ¬ nb b ∧ ¬ nb b from fun b _ hs => ⟨fun x => x, fun h => hs (False.elim h)⟩)
        have h88 := slRep.st kStr_pos h88 crf (show ∀ b, b < w93.heap.size → ¬ (un (inBlk (Value.pointer (some ⟨p89, 0, none⟩))) nb) b → ¬ nb b ∧ ¬ nb b from fun b _ hs => ⟨fun x => x, fun h => hs (False.elim h)⟩)
        have c76 := c76.then0 crf
        have hLn := runB_next hL66 (hb70.trans hq69.symm)
        exact ⟨rest80.length, Nat.lt_succ_self _, [(0, av0), (1, (Value.string a1)), (5, (Value.int .i64 x17)), (8, v62), (37, v62), (38, (Value.int .i64 ((y60.length : Nat) : Int))), (39, (Value.int .i64 ((i65 + 1 : Nat) : Int)))], ⟨rfl, rfl, rfl, rfl, rfl, rfl, rfl, trivial⟩, ⟨rest80, i65 + 1, rfl, rfl, c76, hat67.next, hLn, ah0, h63⟩⟩
      ·
       obtain rfl := hat67.nil q79
       have hLf : Lp.fin () = o71 := hL66
       refine CW.exit (thn_exit (thn_exit (inB_hit ?_)))
       exact ⟨(), ⟨rfl, rfl, rfl, rfl, trivial⟩, c76, hLf, ah0, h63⟩
     ·
      rintro _ w101 ⟨_, hE102, c100, f103, ah0, h63⟩
      have hS := finS f103 hS
      refine thn_n (CW.sub [(0, av0), (1, (Value.string a1)), (5, (Value.int .i64 x17)), (8, v62)] hE102 ?_)
      refine CW.seq (CW.region ?_)
      refine rl_assign rfl rfl ?_
      refine RL.nil ?_
      refine thn_n ?_
      refine CW.seq ?_
      refine CW.seq (CW.region ?_)
      refine rl_move rfl rfl ?_
      obtain ⟨y107, hy108, hS⟩ := bindS hS
      refine rl_callF rfl en8 rfl (ctr8 (G F w.heap.size nb) w101 a0 av0 ah0 y107 hy108) ?_
      rintro v109 w105 ⟨_, rfl, h110, c106⟩
      have h110 := SlO.backR kStr_pos h110 nbS c100.size
      have ah0 := slRep.ch k_Candidate_pos ah0 c106
      have h63 := slRep.ch k_Candidate_pos h63 c106
      have c100 := c100.then0 c106
      refine rl_lenR rfl h110 Try.underlying30 rfl ?_
      refine rl_move rfl rfl ?_
      refine RL.nil ?_
      refine thn_n ?_
      obtain ⟨o119, ho120⟩ : ∃ o, runA (F3_linkboylaw18_HintsLeave_b3 a1) y107 false = o := ⟨_, rfl⟩
      have hS := ltS ho120 hS
      refine CW.cutB (fun E' w' => ∃ (x111 : Bool), Sub [(5, (Value.int .i64 x17)), (8, v62), (11, (Value.bool x111))] E' ∧ Ch nb w w' ∧ x111 = o119 ∧ slRep k_Candidate (G F w.heap.size nb) w' a0 av0 ∧ slRep k_Candidate (G F w.heap.size nb) w' y60 v62 ∧ slRep kStr (G F w.heap.size nb) w' y107 v109) ?_ ?_
      ·
       refine CW.loopS [(1, (Value.string a1)), (5, (Value.int .i64 x17)), (8, v62), (48, v109), (49, (Value.int .i64 ((y107.length : Nat) : Int))), (11, (Value.bool false)), (50, (Value.int .i64 ((0 : Nat) : Int)))] ⟨rfl, rfl, rfl, rfl, rfl, rfl, rfl, trivial⟩ y107.length (fun m E w' => ∃ (rest112 : List ByteArray) (i113 : Nat) (x111 : Bool), m = rest112.length ∧ E = [(1, (Value.string a1)), (5, (Value.int .i64 x17)), (8, v62), (48, v109), (49, (Value.int .i64 ((y107.length : Nat) : Int))), (11, (Value.bool x111)), (50, (Value.int .i64 ((i113 : Nat) : Int)))] ∧ Ch nb w w' ∧ At y107 i113 rest112 ∧ runA (F3_linkboylaw18_HintsLeave_b3 a1) rest112 x111 = o119 ∧ slRep k_Candidate (G F w.heap.size nb) w' a0 av0 ∧ slRep k_Candidate (G F w.heap.size nb) w' y60 v62 ∧ slRep kStr (G F w.heap.size nb) w' y107 v109)
           ⟨y107, 0, false, rfl, rfl, c100, At.start, ho120, ah0, h63, h110⟩ ?_
       rintro _ _ w125 ⟨rest112, i113, x111, rfl, rfl, c124, hat115, hL114, ah0, h63, h110⟩
       refine CW.seq (CW.region ?_)
       refine rl_bin rfl rfl B.lss rfl ?_
       refine RL.nil (thn_n ?_)
       refine CW.seq ?_
       refine CW.cond (t := decide (((i113 : Nat) : Int) < ((y107.length : Nat) : Int))) rfl (fun q127 => ?_) (fun q127 => ?_)
       ·
        obtain ⟨x121, rest128, rfl⟩ := hat115.cons q127
        obtain ⟨q116, hq117⟩ : ∃ q, (F3_linkboylaw18_HintsLeave_b3 a1) x121 x111 = q := ⟨_, rfl⟩
        have hb118 := hq117
        refine CW.skip (thn_n ?_)
        refine CW.seq ?_
        refine CW.block ?_
        refine CW.seq (CW.region ?_)
        refine rl_ixR rfl h110 rfl hat115.get Try.underlying30 Try.sizeOf9 rfl ?_
        intro p129 o130 cs131 hr132 hs133 hg134
        obtain rfl := hr132
        refine rl_loadS (v := (Value.string x121)) rfl Try.isAgg9 (hs133 0 _ rfl) rfl ?_
        refine rl_assign rfl rfl ?_
        refine RL.nil ?_
        refine thn_n ?_
        refine CW.region ?_
        refine rl_move rfl rfl ?_
        refine rl_move rfl rfl ?_
        obtain ⟨b137, hb138⟩ : ∃ v, (x111 || (decide (x121 = a1))) = v := ⟨_, rfl⟩
        have hb118 := ltS hb138 hb118
        refine RL.join 4 59 (.bool b137) (fun w' => Ch nb w125 w') ?_ ?_
        · rcases Bool.eq_false_or_eq_true x111 with hg136 | hg136
          ·
           have hs135 := or_t hg136 hb138
           have cs : Ch nb w125 w125 := Ch.refl
           refine RL.no rfl rfl rfl hg136 rfl rfl ?_
           refine RL.no rfl rfl rfl hg136 rfl rfl ?_
           refine RL.no rfl rfl rfl hg136 rfl rfl ?_
           refine rl_pickT rfl hg136 rfl rfl ?_
           exact RL.nil ⟨Ext.bothEq (congrArg Value.bool hs135) (Ext.skip rfl (Ext.skip rfl (Ext.skip rfl (Ext.rfl')))), cs⟩
          ·
           have hs135 := or_f hg136 hb138
           have cs : Ch nb w125 w125 := Ch.refl
           refine RL.yes rfl rfl rfl hg136 ?_
           refine rl_move rfl rfl ?_
           refine RL.yes rfl rfl rfl hg136 ?_
           refine rl_move rfl rfl ?_
           refine RL.yes rfl rfl rfl hg136 ?_
           refine rl_bin rfl rfl B.eqlS rfl ?_
           refine rl_pickF rfl hg136 rfl rfl ?_
           exact RL.nil ⟨Ext.bothEq (congrArg Value.bool hs135) (Ext.skip rfl (Ext.skip rfl (Ext.skip rfl (Ext.rfl')))), cs⟩
        intro w139 c140
        have ah0 := slRep.ch k_Candidate_pos ah0 c140
        have h63 := slRep.ch k_Candidate_pos h63 c140
        have h110 := slRep.ch kStr_pos h110 c140
        have hs133 := hs133.ch0 c140
        have c124 := c124.then0 c140
        refine rl_assign rfl rfl ?_
        refine RL.nil ?_
        refine inB_n ?_
        refine thn_n ?_
        refine CW.region ?_
        refine rl_inc rfl hat115.lt h110.big rfl ?_
        refine rl_move rfl rfl ?_
        refine RL.nil ?_
        refine thn_n ?_
        have hLn := runA_next hL114 (hb118.trans hq117.symm)
        exact ⟨rest128.length, Nat.lt_succ_self _, [(1, (Value.string a1)), (5, (Value.int .i64 x17)), (8, v62), (48, v109), (49, (Value.int .i64 ((y107.length : Nat) : Int))), (11, (Value.bool b137)), (50, (Value.int .i64 ((i113 + 1 : Nat) : Int)))], ⟨rfl, rfl, rfl, rfl, rfl, rfl, rfl, trivial⟩, ⟨rest128, i113 + 1, b137, rfl, rfl, c124, hat115.next, hLn, ah0, h63, h110⟩⟩
       ·
        obtain rfl := hat115.nil q127
        have hLf : x111 = o119 := hL114
        refine CW.exit (thn_exit (thn_exit (inB_hit ?_)))
        exact ⟨x111, ⟨rfl, rfl, rfl, trivial⟩, c124, hLf, ah0, h63, h110⟩
      ·
       rintro _ w142 ⟨x111, hE143, c141, f144, ah0, h63, h110⟩
       subst f144
       refine thn_n (CW.sub [(5, (Value.int .i64 x17)), (8, v62), (11, (Value.bool x111))] hE143 ?_)
       refine CW.seq (CW.region ?_)
       refine rl_move rfl rfl ?_
       refine rl_lenR rfl h63 Try.underlying22 rfl ?_
       refine rl_move rfl rfl ?_
       refine rl_bin rfl rfl B.leq rfl ?_
       refine rl_move rfl rfl ?_
       obtain ⟨b148, hb149⟩ : ∃ v, ((decide (((y60.length : Nat) : Int) ≤ x17)) && ((decide (((y60.length : Nat) : Int) > 0)) == (decide (x17 > 0)))) = v := ⟨_, rfl⟩
       have hS := ltS hb149 hS
       refine RL.join 7 72 (.bool b148) (fun w' => Ch nb w142 w') ?_ ?_
       · rcases Bool.eq_false_or_eq_true (decide (((y60.length : Nat) : Int) ≤ x17)) with hg147 | hg147
         ·
          have hs146 := and_t hg147 hb149
          have cs : Ch nb w142 w142 := Ch.refl
          refine RL.yes rfl rfl rfl hg147 ?_
          refine rl_move rfl rfl ?_
          refine RL.yes rfl rfl rfl hg147 ?_
          refine rl_lenR rfl h63 Try.underlying22 rfl ?_
          refine RL.yes rfl rfl rfl hg147 ?_
          refine rl_bin rfl rfl B.gtr rfl ?_
          refine RL.yes rfl rfl rfl hg147 ?_
          refine rl_move rfl rfl ?_
          refine RL.yes rfl rfl rfl hg147 ?_
          refine rl_bin rfl rfl B.gtr rfl ?_
          refine RL.yes rfl rfl rfl hg147 ?_
          refine rl_bin rfl rfl (B.eqlB Try.underlying4) rfl ?_
          refine rl_pickT rfl hg147 rfl rfl ?_
          exact RL.nil ⟨Ext.bothEq (congrArg Value.bool hs146) (Ext.skip rfl (Ext.skip rfl (Ext.skip rfl (Ext.skip rfl (Ext.skip rfl (Ext.skip rfl (Ext.rfl'))))))), cs⟩
         ·
          have hs146 := and_f hg147 hb149
          have cs : Ch nb w142 w142 := Ch.refl
          refine RL.no rfl rfl rfl hg147 rfl rfl ?_
          refine RL.no rfl rfl rfl hg147 rfl rfl ?_
          refine RL.no rfl rfl rfl hg147 rfl rfl ?_
          refine RL.no rfl rfl rfl hg147 rfl rfl ?_
          refine RL.no rfl rfl rfl hg147 rfl rfl ?_
          refine RL.no rfl rfl rfl hg147 rfl rfl ?_
          refine rl_pickF rfl hg147 rfl rfl ?_
          exact RL.nil ⟨Ext.bothEq (congrArg Value.bool hs146) (Ext.skip rfl (Ext.skip rfl (Ext.skip rfl (Ext.skip rfl (Ext.skip rfl (Ext.skip rfl (Ext.rfl'))))))), cs⟩
       intro w150 c151
       have ah0 := slRep.ch k_Candidate_pos ah0 c151
       have h63 := slRep.ch k_Candidate_pos h63 c151
       have h110 := slRep.ch kStr_pos h110 c151
       have c141 := c141.then0 c151
       refine rl_move rfl rfl ?_
       obtain ⟨b154, hb155⟩ : ∃ v, (b148 && (lt (x111 || (decide (((y60.length : Nat) : Int) = x17))) fun b156 => b156)) = v := ⟨_, rfl⟩
       have hS := ltS hb155 hS
       refine RL.join 8 81 (.bool b154) (fun w' => Ch nb w150 w') ?_ ?_
       · rcases Bool.eq_false_or_eq_true b148 with hg153 | hg153
         ·
          have hs152 := and_t hg153 hb155
          have cs : Ch nb w150 w150 := Ch.refl
          refine RL.yes rfl rfl rfl hg153 ?_
          refine rl_move rfl rfl ?_
          refine RL.yes rfl rfl rfl hg153 ?_
          refine rl_move rfl rfl ?_
          obtain ⟨b159, hb160⟩ : ∃ v, (x111 || (decide (((y60.length : Nat) : Int) = x17))) = v := ⟨_, rfl⟩
          have hs152 := ltS hb160 hs152
          refine RL.join 5 80 (.bool b159) (fun w' => Ch nb w150 w') ?_ ?_
          · rcases Bool.eq_false_or_eq_true x111 with hg158 | hg158
            ·
             have hs157 := or_t hg158 hb160
             have cs : Ch nb w150 w150 := Ch.refl
             refine RL.no rfl rfl rfl hg158 rfl rfl ?_
             refine RL.no rfl rfl rfl hg158 rfl rfl ?_
             refine RL.no rfl rfl rfl hg158 rfl rfl ?_
             refine RL.no rfl rfl rfl hg158 rfl rfl ?_
             refine RL.yes rfl rfl rfl hg153 ?_
             refine rl_pickT rfl hg158 rfl rfl ?_
             exact RL.nil ⟨Ext.bothEq (congrArg Value.bool hs157) (Ext.skip rfl (Ext.skip rfl (Ext.skip rfl (Ext.skip rfl (Ext.rfl'))))), cs⟩
            ·
             have hs157 := or_f hg158 hb160
             have cs : Ch nb w150 w150 := Ch.refl
             refine RL.yes rfl rfl rfl hg158 ?_
             refine rl_move rfl rfl ?_
             refine RL.yes rfl rfl rfl hg158 ?_
             refine rl_lenR rfl h63 Try.underlying22 rfl ?_
             refine RL.yes rfl rfl rfl hg158 ?_
             refine rl_move rfl rfl ?_
             refine RL.yes rfl rfl rfl hg158 ?_
             refine rl_bin rfl rfl B.eql rfl ?_
             refine RL.yes rfl rfl rfl hg153 ?_
             refine rl_pickF rfl hg158 rfl rfl ?_
             exact RL.nil ⟨Ext.bothEq (congrArg Value.bool hs157) (Ext.skip rfl (Ext.skip rfl (Ext.skip rfl (Ext.skip rfl (Ext.rfl'))))), cs⟩
          intro w161 c162
          have ah0 := slRep.ch k_Candidate_pos ah0 c162
          have h63 := slRep.ch k_Candidate_pos h63 c162
          have h110 := slRep.ch kStr_pos h110 c162
          have c141 := c141.then0 c162
          refine rl_pickT rfl hg153 rfl rfl ?_
          have cs := cs.then0 c162
          exact RL.nil ⟨Ext.bothEq (congrArg Value.bool hs152) (Ext.skip rfl (Ext.skip rfl (Ext.skip rfl (Ext.rfl')))), cs⟩
         ·
          have hs152 := and_f hg153 hb155
          have cs : Ch nb w150 w150 := Ch.refl
          refine RL.no rfl rfl rfl hg153 rfl rfl ?_
          refine RL.no rfl rfl rfl hg153 rfl rfl ?_
          refine RL.noU rfl rfl rfl rfl rfl ?_
          refine RL.noU rfl rfl rfl rfl rfl ?_
          refine RL.noU rfl rfl rfl rfl rfl ?_
          refine RL.noU rfl rfl rfl rfl rfl ?_
          refine RL.no rfl rfl rfl hg153 rfl rfl ?_
          refine rl_pickF rfl hg153 rfl rfl ?_
          exact RL.nil ⟨Ext.bothEq (congrArg Value.bool hs152) (Ext.skip rfl (Ext.skip rfl (Ext.skip rfl (Ext.skip rfl (Ext.skip rfl (Ext.skip rfl (Ext.skip rfl (Ext.rfl')))))))), cs⟩
       intro w156 c163
       have ah0 := slRep.ch k_Candidate_pos ah0 c163
       have h63 := slRep.ch k_Candidate_pos h63 c163
       have h110 := slRep.ch kStr_pos h110 c163
       have c141 := c141.then0 c163
       refine rl_assign rfl rfl ?_
       refine RL.nil ?_
       refine thn_n ?_
       refine CW.ret ?_
       obtain rfl := Option.some.inj hS
       exact ret1 rfl ⟨rfl, c141⟩
/-- lb/lblaw18.Of -/
theorem ctr9 (F : Nat → Prop) (w : World) (a0 : (List Candidate)) (av0 : Value) (ah0 : slRep k_Candidate F w a0 av0) (r : (List Candidate)) (hs : F9_linkboylaw18_Of a0 = some r) :
    Ret Try.prog 9 #[av0] w fun v w' => ∃ y0 : Value, v = y0 ∧ SlO k_Candidate 40 F w.heap.size (inBlk y0) w' r y0 ∧ Ch nb w w' := by
  have hS := hs
  have c0 : Ch nb w w := Ch.refl
  have ah0 := slRep.enter k_Candidate_pos ah0
  refine Ret.of (n := 19) (args := [_]) (rs := [.tmp 2]) Try.func9 rfl rfl rfl rfl ?_
  refine CW.seq (CW.region ?_)
  refine rl_assign rfl rfl ?_
  refine RL.nil ?_
  refine thn_n ?_
  refine CW.seq (CW.region ?_)
  refine rl_bslice (k := k_Candidate) (F := F) (B := w.heap.size) (S := nb) ([] : List Candidate) rfl k_Candidate_pos Try.underlying36 Try.sizeOf40 Try.zeroValue40 rfl rfl trivial c0.size nbS rfl ?_
  intro v1 w2 c3 hf4 h5
  have ah0 := slRep.st k_Candidate_pos ah0 c3 (admNew hf4 (fun _ x => x))
  have c0 := c0.then0 c3
  refine rl_assign rfl rfl ?_
  refine RL.nil ?_
  refine thn_n ?_
  refine CW.seq ?_
  refine CW.seq (CW.region ?_)
  refine rl_move rfl rfl ?_
  refine rl_lenR rfl ah0 Try.underlying22 rfl ?_
  refine rl_move rfl rfl ?_
  refine RL.nil ?_
  refine thn_n ?_
  obtain ⟨o16, ho17, hS⟩ := bindS hS
  refine CW.cutB (fun E' w' => ∃ (x6 : (List Candidate)) (v7 : Value), Sub [(3, v7)] E' ∧ Ch nb w w' ∧ x6 = o16 ∧ slRep k_Candidate (G F w.heap.size (un (inBlk v7) nb)) w' a0 av0 ∧ SlO k_Candidate 40 F w.heap.size (un (inBlk v7) nb) w' x6 v7) ?_ ?_
  ·
   refine CW.loopS [(7, av0), (8, (Value.int .i64 ((a0.length : Nat) : Int))), (3, v1), (9, (Value.int .i64 ((0 : Nat) : Int)))] ⟨rfl, rfl, rfl, rfl, trivial⟩ a0.length (fun m E w' => ∃ (rest9 : List Candidate) (i10 : Nat) (x6 : (List Candidate)) (v7 : Value), m = rest9.length ∧ E = [(7, av0), (8, (Value.int .i64 ((a0.length : Nat) : Int))), (3, v7), (9, (Value.int .i64 ((i10 : Nat) : Int)))] ∧ Ch nb w w' ∧ At a0 i10 rest9 ∧ runAO F9_linkboylaw18_Of_b1 rest9 x6 = some o16 ∧ slRep k_Candidate (G F w.heap.size (un (inBlk v7) nb)) w' a0 av0 ∧ SlO k_Candidate 40 F w.heap.size (un (inBlk v7) nb) w' x6 v7)
       ⟨a0, 0, [], v1, rfl, rfl, c0, At.start, ho17, ah0, h5⟩ ?_
   rintro _ _ w22 ⟨rest9, i10, x6, v7, rfl, rfl, c21, hat12, hL11, ah0, h8⟩
   refine CW.seq (CW.region ?_)
   refine rl_bin rfl rfl B.lss rfl ?_
   refine RL.nil (thn_n ?_)
   refine CW.seq ?_
   refine CW.cond (t := decide (((i10 : Nat) : Int) < ((a0.length : Nat) : Int))) rfl (fun q24 => ?_) (fun q24 => ?_)
   ·
    obtain ⟨x18, rest25, rfl⟩ := hat12.cons q24
    obtain ⟨q13, hq14⟩ := runAO_some hL11
    have hb15 := hq14
    refine CW.skip (thn_n ?_)
    refine CW.seq ?_
    refine CW.block ?_
    refine CW.seq (CW.region ?_)
    refine rl_ixR rfl ah0 rfl hat12.get Try.underlying22 Try.sizeOf32 rfl ?_
    intro p26 o27 cs28 hr29 hs30 hg31
    obtain ⟨z32, rfl, h33⟩ := hr29
    refine rl_loadA (cs := (Candidate.c x18 z32)) rfl Try.isAgg32 Try.sizeOf32 (hs30) rfl rfl ?_
    refine rl_alloc (Candidate.c Candidate.z (Value.slice none 0 0)) Try.zeroValue32 rfl rfl ?_
    intro p34 w35 n36 k37
    have lop34 := n36.lo c21.size
    have d38 : ∀ b, inBlk (Value.pointer (some ⟨p34, 0, none⟩)) b → ¬ inBlk v7 b := disNew n36.fresh (fun b hb => (h8.lt b hb).2)
    have ah0 := slRep.st k_Candidate_pos ah0 n36.ch (admNew n36.fresh (fun _ x => x))
    have h8 := h8.st n36.ch (fun _ _ x => x) (admNew n36.fresh (fun _ x => x)) (fun b h => (.inr (.inl h)))
    have h33 := slRep.st kStr_pos h33 n36.ch (admNew n36.fresh (fun _ x => x))
    have c21 := c21.then0 n36.ch
    refine rl_storeA (vs := (Candidate.c x18 z32)) rfl rfl (Kd.one _ (show k_Candidate.rep (G F w.heap.size (un (inBlk (Value.pointer (some ⟨p34, 0, none⟩))) (un (inBlk v7) nb))) w35 x18 (Candidate.c x18 z32) from ⟨z32, rfl, h33⟩)) Try.sizeOf32 rfl k37 rfl ?_
    intro w39 s41 c40 k42
    have ad43 : ∀ b, b < w35.heap.size → ¬ (un (inBlk (Value.pointer (some ⟨p34, 0, none⟩))) (un (inBlk v7) nb)) b → ¬ inBlk (Value.pointer (some ⟨p34, 0, none⟩)) b ∧ ¬ (un (inBlk (Value.pointer (some ⟨p34, 0, none⟩))) (un (inBlk v7) nb)) b := fun b _ hs => ⟨fun h => hs (.inl h), hs⟩
    have ah0 := slRep.st k_Candidate_pos ah0 c40 ad43
    have h8 := h8.st c40 (disSym d38) ad43 (fun b h => (.inr (.inl h)))
    have h33 := slRep.st kStr_pos h33 c40 ad43
    have c21 := c21.then c40 (fun i hi h => absurd (lop34 i h) (Nat.not_le_of_lt hi))
    refine RL.nil ?_
    refine thn_n ?_
    refine CW.region ?_
    refine rl_move rfl rfl ?_
    refine rl_loadA (cs := (Candidate.c x18 z32)) rfl Try.isAgg32 Try.sizeOf32 (k42.segAt 0 23) rfl rfl ?_
    refine rl_bslice (k := k_Candidate) (F := F) (B := w.heap.size) (S := (un (inBlk (Value.pointer (some ⟨p34, 0, none⟩))) (un (inBlk v7) nb))) ([x18] : List Candidate) rfl k_Candidate_pos Try.underlying36 Try.sizeOf40 Try.zeroValue40 rfl rfl ⟨rfl, ⟨z32, rfl, h33⟩, trivial⟩ c21.size (un_lt k42.ltp (un_lt (fun b hb => (h8.lt b hb).2) nbS)) rfl ?_
    intro v44 w45 c46 hf47 h48
    have h48 := h48.readNew k_Candidate_pos hf47 (un_lt k42.ltp (un_lt (fun b hb => (h8.lt b hb).2) nbS))
    have ah0 := slRep.ch k_Candidate_pos ah0 c46
    have h8 := h8.ch0 c46
    have h33 := slRep.ch kStr_pos h33 c46
    have k42 := k42.ch0 c46
    have c21 := c21.then0 c46
    obtain ⟨z57, hz58, hb15⟩ := bindS hb15
    have hl := (apO_get hz58).1
    refine rl_append (k := k_Candidate) (T := 40) (F := F) (B := w.heap.size) (S := (un (inBlk (Value.pointer (some ⟨p34, 0, none⟩))) (un (inBlk v7) nb))) (S2 := (un (inBlk (Value.pointer (some ⟨p34, 0, none⟩))) nb)) (fun v => (un (inBlk (Value.pointer (some ⟨p34, 0, none⟩))) (un (inBlk v) nb))) rfl rfl k_Candidate_pos ap36 h8 h48 (fun _ => un_swap) (fun _ _ => un_swap) hl c21.size (un_lt k42.ltp (un_lt (fun b hb => (h8.lt b hb).2) nbS)) rfl ?_
    intro v51 w52 h53 c54 hf55 ha56
    have d59 : ∀ b, inBlk v51 b → ¬ inBlk (Value.pointer (some ⟨p34, 0, none⟩)) b := disApp hf55 (disSym d38) k42.ltp
    have ah0 := slRep.st k_Candidate_pos ah0 c54 ha56
    have h33 := slRep.st kStr_pos h33 c54 ha56
    have k42 := k42.ch c54 (d38 _ rfl)
    have h48 := slRep.st k_Candidate_pos h48 c54 ha56
    have c21 := c21.then c54 (fun i hi h => absurd ((fun b hb => (h8.lt b hb).1) i h) (Nat.not_le_of_lt hi))
    refine rl_assign rfl rfl ?_
    refine RL.nil ?_
    refine inB_n ?_
    refine thn_n ?_
    refine CW.region ?_
    refine rl_inc rfl hat12.lt ah0.big rfl ?_
    refine rl_move rfl rfl ?_
    refine RL.nil ?_
    refine thn_n ?_
    have crf : Ch nb w52 w52 := Ch.refl
    have ah0 := slRep.st k_Candidate_pos ah0 crf (show ∀ b, b < w52.heap.size → ¬ (un (inBlk (Value.pointer (some ⟨p34, 0, none⟩))) (un (inBlk v51) nb)) b → ¬ nb b ∧ ¬ (un (inBlk v51) nb) b from fun b _ hs => ⟨fun x => x, fun h => hs (un_el h (fun h => (.inr (.inl h))) (fun h => False.elim h))⟩)
    have h33 := slRep.st kStr_pos h33 crf (show ∀ b, b < w52.heap.size → ¬ (un (inBlk (Value.pointer (some ⟨p34, 0, none⟩))) (un (inBlk v51) nb)) b → ¬ nb b ∧ ¬ (un (inBlk v51) nb) b from fun b _ hs => ⟨fun x => x, fun h => hs (un_el h (fun h => (.inr (.inl h))) (fun h => False.elim h))⟩)
    have h48 := slRep.st k_Candidate_pos h48 crf (show ∀ b, b < w52.heap.size → ¬ (un (inBlk (Value.pointer (some ⟨p34, 0, none⟩))) (un (inBlk v51) nb)) b → ¬ nb b ∧ ¬ (un (inBlk v51) nb) b from fun b _ hs => ⟨fun x => x, fun h => hs (un_el h (fun h => (.inr (.inl h))) (fun h => False.elim h))⟩)
    have h53 := h53.st crf (fun _ _ x => x) (show ∀ b, b < w52.heap.size → ¬ (un (inBlk (Value.pointer (some ⟨p34, 0, none⟩))) (un (inBlk v51) nb)) b → ¬ nb b ∧ ¬ (un (inBlk v51) nb) b from fun b _ hs => ⟨fun x => x, fun h => hs (un_el h (fun h => (.inr (.inl h))) (fun h => False.elim h))⟩) (fun b h => (.inl h))
    have c21 := c21.then0 crf
    have hLn := runAO_next hL11 hq14 hb15
    exact ⟨rest25.length, Nat.lt_succ_self _, [(7, av0), (8, (Value.int .i64 ((a0.length : Nat) : Int))), (3, v51), (9, (Value.int .i64 ((i10 + 1 : Nat) : Int)))], ⟨rfl, rfl, rfl, rfl, trivial⟩, ⟨rest25, i10 + 1, x6 ++ [x18], v51, rfl, rfl, c21, hat12.next, hLn, ah0, h53⟩⟩
   ·
    obtain rfl := hat12.nil q24
    have hLf : x6 = o16 := runAO_done hL11
    refine CW.exit (thn_exit (thn_exit (inB_hit ?_)))
    exact ⟨x6, v7, ⟨rfl, trivial⟩, c21, hLf, ah0, h8⟩
  ·
   rintro _ w61 ⟨x6, v7, hE62, c60, f63, ah0, h8⟩
   subst f63
   refine thn_n (CW.sub [(3, v7)] hE62 ?_)
   refine CW.seq (CW.region ?_)
   refine rl_move rfl rfl ?_
   refine rl_assign rfl rfl ?_
   refine RL.nil ?_
   refine thn_n ?_
   refine CW.ret ?_
   obtain rfl := Option.some.inj hS
   exact ret1 rfl ⟨v7, rfl, h8.out, c60⟩
/-- lb/lbref18.Meant -/
theorem ctr11 (F : Nat → Prop) (w : World) (a0 : Candidate) (az0_0 : Value) (ah0_0 : slRep kStr F w a0.zones az0_0) (a1 : ByteArray) (r : Bool) (hs : F11_linkboyref18_Meant a0 a1 = r) :
    Ret Try.prog 11 #[(Value.agg (Candidate.c a0 az0_0).toArray), (Value.string a1)] w fun v w' => v = (Value.bool r) ∧ Ch nb w w' := by
  have hS := hs
  have c0 : Ch nb w w := Ch.refl
  have ah0_0 := slRep.enter kStr_pos ah0_0
  refine Ret.of (n := 18) (args := [_, _]) (rs := [.tmp 4]) Try.func11 rfl rfl rfl rfl ?_
  refine CW.seq (CW.region ?_)
  refine rl_boxA (cs := (Candidate.c a0 az0_0)) rfl rfl ?_
  intro p1 w2 n3 k4
  have gp1 : (G F w.heap.size nb) p1 := ⟨.inr (by rw [n3.eq]; exact c0.size), fun h => absurd (nbS _ h) (by rw [n3.eq]; exact Nat.lt_irrefl _)⟩
  have ah0_0 := slRep.ch kStr_pos ah0_0 n3.ch
  have c0 := c0.then0 n3.ch
  refine rl_assign rfl rfl ?_
  refine RL.nil ?_
  refine thn_n ?_
  refine CW.seq ?_
  refine CW.seq (CW.region ?_)
  refine rl_fieldAddr rfl fa40_5 rfl ?_
  refine rl_loadS (v := az0_0) rfl Try.isAgg30 (k4.cell rfl) rfl ?_
  refine rl_lenR rfl ah0_0 Try.underlying30 rfl ?_
  refine rl_move rfl rfl ?_
  refine RL.nil ?_
  refine thn_n ?_
  obtain ⟨o12, ho13⟩ : ∃ o, runB (F11_linkboyref18_Meant_b1 a1) a0.zones () = o := ⟨_, rfl⟩
  have hS := ltS ho13 hS
  refine CW.cutB (fun E' w' => ∃ (_ : Unit), Sub [] E' ∧ Ch nb w w' ∧ Lp.fin () = o12 ∧ slRep kStr (G F w.heap.size nb) w' a0.zones az0_0 ∧ Blk w' p1 40 (Candidate.c a0 az0_0) ∧ (G F w.heap.size nb) p1) ?_ ?_
  ·
   refine CW.loopS [(1, (Value.string a1)), (8, az0_0), (9, (Value.int .i64 ((a0.zones.length : Nat) : Int))), (10, (Value.int .i64 ((0 : Nat) : Int)))] ⟨rfl, rfl, rfl, rfl, trivial⟩ a0.zones.length (fun m E w' => ∃ (rest5 : List ByteArray) (i6 : Nat) , m = rest5.length ∧ E = [(1, (Value.string a1)), (8, az0_0), (9, (Value.int .i64 ((a0.zones.length : Nat) : Int))), (10, (Value.int .i64 ((i6 : Nat) : Int)))] ∧ Ch nb w w' ∧ At a0.zones i6 rest5 ∧ runB (F11_linkboyref18_Meant_b1 a1) rest5 () = o12 ∧ slRep kStr (G F w.heap.size nb) w' a0.zones az0_0 ∧ Blk w' p1 40 (Candidate.c a0 az0_0) ∧ (G F w.heap.size nb) p1)
       ⟨a0.zones, 0, rfl, rfl, c0, At.start, ho13, ah0_0, k4, gp1⟩ ?_
   rintro _ _ w18 ⟨rest5, i6, rfl, rfl, c17, hat8, hL7, ah0_0, k4, gp1⟩
   refine CW.seq (CW.region ?_)
   refine rl_bin rfl rfl B.lss rfl ?_
   refine RL.nil (thn_n ?_)
   refine CW.seq ?_
   refine CW.cond (t := decide (((i6 : Nat) : Int) < ((a0.zones.length : Nat) : Int))) rfl (fun q20 => ?_) (fun q20 => ?_)
   ·
    obtain ⟨x14, rest21, rfl⟩ := hat8.cons q20
    obtain ⟨q9, hq10⟩ : ∃ q, (F11_linkboyref18_Meant_b1 a1) x14 () = q := ⟨_, rfl⟩
    have hb11 := hq10
    refine CW.skip (thn_n ?_)
    refine CW.seq ?_
    refine CW.block ?_
    refine CW.seq (CW.region ?_)
    refine rl_ixR rfl ah0_0 rfl hat8.get Try.underlying30 Try.sizeOf9 rfl ?_
    intro p22 o23 cs24 hr25 hs26 hg27
    obtain rfl := hr25
    refine rl_loadS (v := (Value.string x14)) rfl Try.isAgg9 (hs26 0 _ rfl) rfl ?_
    refine rl_assign rfl rfl ?_
    refine RL.nil ?_
    refine thn_n ?_
    refine CW.seq (CW.region ?_)
    refine rl_move rfl rfl ?_
    refine rl_move rfl rfl ?_
    refine rl_bin rfl rfl B.eqlS rfl ?_
    refine RL.nil ?_
    refine thn_n ?_
    refine CW.cond (t := decide (x14 = a1)) rfl (fun q28 => ?_) (fun q28 => ?_)
    ·
     have hb11 := ifT q28 hb11
     refine CW.seq (CW.region ?_)
     refine rl_assign rfl rfl ?_
     refine RL.nil ?_
     refine thn_n ?_
     refine CW.ret ?_
     refine inB_ret ?_
     refine thn_ret ?_
     refine thn_ret (inB_ret (thn_ret ?_))
     refine thn_ret ?_
     have f29 := runB_ret hL7 (hb11.trans hq10.symm)
     have hS := retS f29 hS
     obtain rfl := hS
     exact ret1 rfl ⟨rfl, c17⟩
    ·
     have hb11 := ifF q28 hb11
     refine CW.skip ?_
     refine inB_n ?_
     refine thn_n ?_
     refine CW.region ?_
     refine rl_inc rfl hat8.lt ah0_0.big rfl ?_
     refine rl_move rfl rfl ?_
     refine RL.nil ?_
     refine thn_n ?_
     have hLn := runB_next hL7 (hb11.trans hq10.symm)
     exact ⟨rest21.length, Nat.lt_succ_self _, [(1, (Value.string a1)), (8, az0_0), (9, (Value.int .i64 ((a0.zones.length : Nat) : Int))), (10, (Value.int .i64 ((i6 + 1 : Nat) : Int)))], ⟨rfl, rfl, rfl, rfl, trivial⟩, ⟨rest21, i6 + 1, rfl, rfl, c17, hat8.next, hLn, ah0_0, k4, gp1⟩⟩
   ·
    obtain rfl := hat8.nil q20
    have hLf : Lp.fin () = o12 := hL7
    refine CW.exit (thn_exit (thn_exit (inB_hit ?_)))
    exact ⟨(), trivial, c17, hLf, ah0_0, k4, gp1⟩
  ·
   rintro _ w31 ⟨_, hE32, c30, f33, ah0_0, k4, gp1⟩
   have hS := finS f33 hS
   refine thn_n (CW.sub [] hE32 ?_)
   refine CW.seq (CW.region ?_)
   refine rl_assign rfl rfl ?_
   refine RL.nil ?_
   refine thn_n ?_
   refine CW.ret ?_
   obtain rfl := hS
   exact ret1 rfl ⟨rfl, c30⟩
/-- slices.Equal[[]string,string] -/
theorem ctr27 (F : Nat → Prop) (w : World) (a0 : (List ByteArray)) (av0 : Value) (ah0 : slRep kStr F w a0 av0) (a1 : (List ByteArray)) (av1 : Value) (ah1 : slRep kStr F w a1 av1) (r : Bool) (hs : F27_slices_Equal_string_string a0 a1 = some r) :
    Ret Try.prog 27 #[av0, av1] w fun v w' => v = (Value.bool r) ∧ Ch nb w w' := by
  have hS := hs
  have c0 : Ch nb w w := Ch.refl
  have ah0 := slRep.enter kStr_pos ah0
  have ah1 := slRep.enter kStr_pos ah1
  refine Ret.of (n := 26) (args := [_, _]) (rs := [.tmp 4]) Try.func27 rfl rfl rfl rfl ?_
  refine CW.seq (CW.region ?_)
  refine rl_assign rfl rfl ?_
  refine RL.nil ?_
  refine thn_n ?_
  refine CW.seq ?_
  refine CW.seq (CW.region ?_)
  refine rl_move rfl rfl ?_
  refine rl_lenR rfl ah0 Try.underlying30 rfl ?_
  refine rl_move rfl rfl ?_
  refine rl_lenR rfl ah1 Try.underlying30 rfl ?_
  refine rl_bin rfl rfl B.neq rfl ?_
  refine RL.nil ?_
  refine thn_n ?_
  refine CW.cond (t := !decide (((a0.length : Nat) : Int) = ((a1.length : Nat) : Int))) rfl (fun q1 => ?_) (fun q1 => ?_)
  ·
   have hS := ifT q1 hS
   refine CW.seq (CW.region ?_)
   refine rl_assign rfl rfl ?_
   refine RL.nil ?_
   refine thn_n ?_
   refine CW.ret ?_
   refine thn_ret ?_
   obtain rfl := Option.some.inj hS
   exact ret1 rfl ⟨rfl, c0⟩
  ·
   have hS := ifF q1 hS
   refine CW.skip ?_
   refine thn_n ?_
   refine CW.seq ?_
   refine CW.seq (CW.region ?_)
   refine rl_move rfl rfl ?_
   refine rl_lenR rfl ah0 Try.underlying30 rfl ?_
   refine rl_move rfl rfl ?_
   refine RL.nil ?_
   refine thn_n ?_
   obtain ⟨o9, ho10, hS⟩ := bindS hS
   refine CW.cutB (fun E' w' => ∃ (ix16 : Nat), Sub [] E' ∧ Ch nb w w' ∧ Lp.fin ix16 = o9 ∧ slRep kStr (G F w.heap.size nb) w' a0 av0 ∧ slRep kStr (G F w.heap.size nb) w' a1 av1) ?_ ?_
   ·
    refine CW.loopS [(0, av0), (1, av1), (12, (Value.int .i64 ((a0.length : Nat) : Int))), (13, (Value.int .i64 ((0 : Nat) : Int)))] ⟨rfl, rfl, rfl, rfl, trivial⟩ a0.length (fun m E w' => ∃ (rest2 : List ByteArray) (i3 : Nat) , m = rest2.length ∧ E = [(0, av0), (1, av1), (12, (Value.int .i64 ((a0.length : Nat) : Int))), (13, (Value.int .i64 ((i3 : Nat) : Int)))] ∧ Ch nb w w' ∧ At a0 i3 rest2 ∧ runBO (F27_slices_Equal_string_string_b1 a1) rest2 i3 = some o9 ∧ slRep kStr (G F w.heap.size nb) w' a0 av0 ∧ slRep kStr (G F w.heap.size nb) w' a1 av1)
        ⟨a0, 0, rfl, rfl, c0, At.start, ho10, ah0, ah1⟩ ?_
    rintro _ _ w15 ⟨rest2, i3, rfl, rfl, c14, hat5, hL4, ah0, ah1⟩
    refine CW.seq (CW.region ?_)
    refine rl_bin rfl rfl B.lss rfl ?_
    refine RL.nil (thn_n ?_)
    refine CW.seq ?_
    refine CW.cond (t := decide (((i3 : Nat) : Int) < ((a0.length : Nat) : Int))) rfl (fun q17 => ?_) (fun q17 => ?_)
    ·
     obtain ⟨x11, rest18, rfl⟩ := hat5.cons q17
     obtain ⟨q6, hq7⟩ := runBO_some hL4
     have hb8 := hq7
     refine CW.skip (thn_n ?_)
     refine CW.seq ?_
     refine CW.block ?_
     refine CW.seq (CW.region ?_)
     refine rl_move rfl rfl ?_
     refine rl_assign rfl rfl ?_
     refine RL.nil ?_
     refine thn_n ?_
     refine CW.seq ?_
     obtain ⟨y31, hy32, hb8⟩ := bindS hb8
     refine CW.draw 8 [(false, fun O uu wx => uu = av0), (false, fun O uu wx => uu = (Value.int .i64 ((i3 : Nat) : Int))), (false, fun O uu wx => ∃ (p19 : Nat) (o20 : Nat), uu = (Value.pointer (some ⟨p19, o20, none⟩)) ∧ (G F w.heap.size nb) p19 ∧ Seg wx p19 o20 [(Value.string x11)]), (false, fun O uu wx => uu = (Value.string x11)), (false, fun O uu wx => uu = av1), (false, fun O uu wx => uu = (Value.int .i64 ((i3 : Nat) : Int))), (false, fun O uu wx => ∃ (p25 : Nat) (o26 : Nat), uu = (Value.pointer (some ⟨p25, o26, none⟩)) ∧ (G F w.heap.size nb) p25 ∧ Seg wx p25 o26 [(Value.string y31)]), (false, fun O uu wx => uu = (Value.string y31))] [[], [], [0, 1], [2], [], [], [4, 5], [6]] [3, 7] mixed rfl rfl rfl rfl ?_ ?_
     ·
      refine Each.consA ⟨fun _ _ _ _ _ h => h, fun h => absurd rfl h, fun O wk hO ck => ?_⟩ ?_
      ·
       have ah0 := slRep.ch kStr_pos ah0 ck
       have ah1 := slRep.ch kStr_pos ah1 ck
       have c14 := c14.then0 ck
       refine rl_move rfl rfl ?_
       exact RL.nil ⟨_, rfl, Ch.refl, rfl⟩
      refine Each.consA ⟨fun _ _ _ _ _ h => h, fun h => absurd rfl h, fun O wk hO ck => ?_⟩ ?_
      ·
       have ah0 := slRep.ch kStr_pos ah0 ck
       have ah1 := slRep.ch kStr_pos ah1 ck
       have c14 := c14.then0 ck
       refine rl_move rfl rfl ?_
       exact RL.nil ⟨_, rfl, Ch.refl, rfl⟩
      refine Each.consA ⟨fun _ _ _ _ cc hh => by obtain ⟨p19, o20, e, hg24, hs23⟩ := hh; exact ⟨p19, o20, e, hg24, hs23.ch0 cc⟩, fun h => absurd rfl h, fun O wk hO ck => ?_⟩ ?_
      ·
       have ah0 := slRep.ch kStr_pos ah0 ck
       have ah1 := slRep.ch kStr_pos ah1 ck
       have c14 := c14.then0 ck
       refine Need.one rfl rfl ?_
       rintro _ e33
       obtain rfl := e33.symm
       refine Need.one rfl rfl ?_
       rintro _ e34
       obtain rfl := e34.symm
       refine rl_ixR rfl ah0 rfl hat5.get Try.underlying30 Try.sizeOf9 rfl ?_
       intro p35 o36 cs37 hr38 hs39 hg40
       obtain rfl := hr38
       exact RL.nil ⟨_, rfl, Ch.refl, ⟨p35, o36, rfl, hg40, hs39⟩⟩
      refine Each.consA ⟨fun _ _ _ _ _ h => h, fun h => absurd rfl h, fun O wk hO ck => ?_⟩ ?_
      ·
       have ah0 := slRep.ch kStr_pos ah0 ck
       have ah1 := slRep.ch kStr_pos ah1 ck
       have c14 := c14.then0 ck
       refine Need.one rfl rfl ?_
       rintro _ ⟨p19, o20, e41, hg24, hs23⟩
       obtain rfl := e41.symm
       refine rl_loadS (v := (Value.string x11)) rfl Try.isAgg9 (hs23 0 _ rfl) rfl ?_
       exact RL.nil ⟨_, rfl, Ch.refl, rfl⟩
      refine Each.consA ⟨fun _ _ _ _ _ h => h, fun h => absurd rfl h, fun O wk hO ck => ?_⟩ ?_
      ·
       have ah0 := slRep.ch kStr_pos ah0 ck
       have ah1 := slRep.ch kStr_pos ah1 ck
       have c14 := c14.then0 ck
       refine rl_move rfl rfl ?_
       exact RL.nil ⟨_, rfl, Ch.refl, rfl⟩
      refine Each.consA ⟨fun _ _ _ _ _ h => h, fun h => absurd rfl h, fun O wk hO ck => ?_⟩ ?_
      ·
       have ah0 := slRep.ch kStr_pos ah0 ck
       have ah1 := slRep.ch kStr_pos ah1 ck
       have c14 := c14.then0 ck
       refine rl_move rfl rfl ?_
       exact RL.nil ⟨_, rfl, Ch.refl, rfl⟩
      refine Each.consA ⟨fun _ _ _ _ cc hh => by obtain ⟨p25, o26, e, hg30, hs29⟩ := hh; exact ⟨p25, o26, e, hg30, hs29.ch0 cc⟩, fun h => absurd rfl h, fun O wk hO ck => ?_⟩ ?_
      ·
       have ah0 := slRep.ch kStr_pos ah0 ck
       have ah1 := slRep.ch kStr_pos ah1 ck
       have c14 := c14.then0 ck
       refine Need.one rfl rfl ?_
       rintro _ e42
       obtain rfl := e42.symm
       refine Need.one rfl rfl ?_
       rintro _ e43
       obtain rfl := e43.symm
       refine rl_ixR rfl ah1 rfl (ixO_nat hy32) Try.underlying30 Try.sizeOf9 rfl ?_
       intro p44 o45 cs46 hr47 hs48 hg49
       obtain rfl := hr47
       exact RL.nil ⟨_, rfl, Ch.refl, ⟨p44, o45, rfl, hg49, hs48⟩⟩
      refine Each.consA ⟨fun _ _ _ _ _ h => h, fun h => absurd rfl h, fun O wk hO ck => ?_⟩ ?_
      ·
       have ah0 := slRep.ch kStr_pos ah0 ck
       have ah1 := slRep.ch kStr_pos ah1 ck
       have c14 := c14.then0 ck
       refine Need.one rfl rfl ?_
       rintro _ ⟨p25, o26, e50, hg30, hs29⟩
       obtain rfl := e50.symm
       refine rl_loadS (v := (Value.string y31)) rfl Try.isAgg9 (hs29 0 _ rfl) rfl ?_
       exact RL.nil ⟨_, rfl, Ch.refl, rfl⟩
      trivial
     ·
      intro O53 w51 hO54 c52
      have ah0 := slRep.ch kStr_pos ah0 c52
      have ah1 := slRep.ch kStr_pos ah1 c52
      have c14 := c14.then0 c52
      refine Need.one rfl rfl ?_
      rintro _ e55
      obtain rfl := e55.symm
      refine Need.one rfl rfl ?_
      rintro _ e56
      obtain rfl := e56.symm
      refine rl_bin rfl rfl B.neqS rfl ?_
      refine RL.nil ?_
      refine thn_n ?_
      refine CW.cond (t := !decide (x11 = y31)) rfl (fun q57 => ?_) (fun q57 => ?_)
      ·
       have hb8 := ifT q57 hb8
       refine CW.seq (CW.region ?_)
       refine rl_assign rfl rfl ?_
       refine RL.nil ?_
       refine thn_n ?_
       refine CW.ret ?_
       refine inB_ret ?_
       refine thn_ret ?_
       refine thn_ret (inB_ret (thn_ret ?_))
       refine thn_ret ?_
       have f58 := runBO_ret hL4 hq7 hb8
       have hS := retS f58 hS
       obtain rfl := Option.some.inj hS
       exact ret1 rfl ⟨rfl, c14⟩
      ·
       have hb8 := ifF q57 hb8
       refine CW.skip ?_
       refine inB_n ?_
       refine thn_n ?_
       refine CW.region ?_
       refine rl_inc rfl hat5.lt ah0.big rfl ?_
       refine rl_move rfl rfl ?_
       refine RL.nil ?_
       refine thn_n ?_
       have hLn := runBO_next hL4 hq7 hb8
       exact ⟨rest18.length, Nat.lt_succ_self _, [(0, av0), (1, av1), (12, (Value.int .i64 ((a0.length : Nat) : Int))), (13, (Value.int .i64 ((i3 + 1 : Nat) : Int)))], ⟨rfl, rfl, rfl, rfl, trivial⟩, ⟨rest18, i3 + 1, rfl, rfl, c14, hat5.next, hLn, ah0, ah1⟩⟩
    ·
     obtain rfl := hat5.nil q17
     have hLf : Lp.fin i3 = o9 := runBO_done hL4
     refine CW.exit (thn_exit (thn_exit (inB_hit ?_)))
     exact ⟨i3, trivial, c14, hLf, ah0, ah1⟩
   ·
    rintro _ w60 ⟨ix16, hE61, c59, f62, ah0, ah1⟩
    have hS := finS f62 hS
    refine thn_n (CW.sub [] hE61 ?_)
    refine CW.seq (CW.region ?_)
    refine rl_assign rfl rfl ?_
    refine RL.nil ?_
    refine thn_n ?_
    refine CW.ret ?_
    obtain rfl := Option.some.inj hS
    exact ret1 rfl ⟨rfl, c59⟩
/-- lb/hints.Same -/
theorem ctr12 (F : Nat → Prop) (w : World) (a0 : Candidate) (az0_0 : Value) (ah0_0 : slRep kStr F w a0.zones az0_0) (a1 : Candidate) (az1_0 : Value) (ah1_0 : slRep kStr F w a1.zones az1_0) (r : Bool) (hs : F12_hints_Same a0 a1 = some r) :
    Ret Try.prog 12 #[(Value.agg (Candidate.c a0 az0_0).toArray), (Value.agg (Candidate.c a1 az1_0).toArray)] w fun v w' => v = (Value.bool r) ∧ Ch nb w w' := by
  have hS := hs
  have c0 : Ch nb w w := Ch.refl
  have ah0_0 := slRep.enter kStr_pos ah0_0
  have ah1_0 := slRep.enter kStr_pos ah1_0
  refine Ret.of (n := 47) (args := [_, _]) (rs := [.tmp 4]) Try.func12 rfl rfl rfl rfl ?_
  refine CW.seq (CW.region ?_)
  refine rl_boxA (cs := (Candidate.c a0 az0_0)) rfl rfl ?_
  intro p1 w2 n3 k4
  have gp1 : (G F w.heap.size nb) p1 := ⟨.inr (by rw [n3.eq]; exact c0.size), fun h => absurd (nbS _ h) (by rw [n3.eq]; exact Nat.lt_irrefl _)⟩
  have ah0_0 := slRep.ch kStr_pos ah0_0 n3.ch
  have ah1_0 := slRep.ch kStr_pos ah1_0 n3.ch
  have c0 := c0.then0 n3.ch
  refine rl_boxA (cs := (Candidate.c a1 az1_0)) rfl rfl ?_
  intro p5 w6 n7 k8
  have gp5 : (G F w.heap.size nb) p5 := ⟨.inr (by rw [n7.eq]; exact c0.size), fun h => absurd (nbS _ h) (by rw [n7.eq]; exact Nat.lt_irrefl _)⟩
  have ah0_0 := slRep.ch kStr_pos ah0_0 n7.ch
  have ah1_0 := slRep.ch kStr_pos ah1_0 n7.ch
  have k4 := k4.ch0 n7.ch
  have c0 := c0.then0 n7.ch
  refine rl_assign rfl rfl ?_
  refine RL.nil ?_
  refine thn_n ?_
  refine CW.seq (CW.region ?_)
  refine rl_fieldAddr rfl fa32_1 rfl ?_
  refine rl_loadS (v := (Value.bool a0.localF)) rfl Try.isAgg4 (k4.cell rfl) rfl ?_
  refine rl_fieldAddr rfl fa32_1 rfl ?_
  refine rl_loadS (v := (Value.bool a1.localF)) rfl Try.isAgg4 (k8.cell rfl) rfl ?_
  refine rl_bin rfl rfl (B.eqlB Try.underlying4) rfl ?_
  refine rl_move rfl rfl ?_
  obtain ⟨b11, hb12⟩ : ∃ v, ((a0.localF == a1.localF) && (a0.ready == a1.ready)) = v := ⟨_, rfl⟩
  have hS := ltS hb12 hS
  refine RL.join 6 17 (.bool b11) (fun w' => Ch nb w6 w') ?_ ?_
  · rcases Bool.eq_false_or_eq_true (a0.localF == a1.localF) with hg10 | hg10
    ·
     have hs9 := and_t hg10 hb12
     have cs : Ch nb w6 w6 := Ch.refl
     refine RL.yes rfl rfl rfl hg10 ?_
     refine rl_fieldAddr rfl fa32_2 rfl ?_
     refine RL.yes rfl rfl rfl hg10 ?_
     refine rl_loadS (v := (Value.bool a0.ready)) rfl Try.isAgg4 (k4.cell rfl) rfl ?_
     refine RL.yes rfl rfl rfl hg10 ?_
     refine rl_fieldAddr rfl fa32_2 rfl ?_
     refine RL.yes rfl rfl rfl hg10 ?_
     refine rl_loadS (v := (Value.bool a1.ready)) rfl Try.isAgg4 (k8.cell rfl) rfl ?_
     refine RL.yes rfl rfl rfl hg10 ?_
     refine rl_bin rfl rfl (B.eqlB Try.underlying4) rfl ?_
     refine rl_pickT rfl hg10 rfl rfl ?_
     exact RL.nil ⟨Ext.bothEq (congrArg Value.bool hs9) (Ext.skip rfl (Ext.skip rfl (Ext.skip rfl (Ext.skip rfl (Ext.skip rfl (Ext.rfl')))))), cs⟩
    ·
     have hs9 := and_f hg10 hb12
     have cs : Ch nb w6 w6 := Ch.refl
     refine RL.no rfl rfl rfl hg10 rfl rfl ?_
     refine RL.no rfl rfl rfl hg10 rfl rfl ?_
     refine RL.no rfl rfl rfl hg10 rfl rfl ?_
     refine RL.no rfl rfl rfl hg10 rfl rfl ?_
     refine RL.no rfl rfl rfl hg10 rfl rfl ?_
     refine rl_pickF rfl hg10 rfl rfl ?_
     exact RL.nil ⟨Ext.bothEq (congrArg Value.bool hs9) (Ext.skip rfl (Ext.skip rfl (Ext.skip rfl (Ext.skip rfl (Ext.skip rfl (Ext.rfl')))))), cs⟩
  intro w13 c14
  have ah0_0 := slRep.ch kStr_pos ah0_0 c14
  have ah1_0 := slRep.ch kStr_pos ah1_0 c14
  have k4 := k4.ch0 c14
  have k8 := k8.ch0 c14
  have c0 := c0.then0 c14
  refine rl_move rfl rfl ?_
  obtain ⟨b17, hb18⟩ : ∃ v, (b11 && (a0.serving == a1.serving)) = v := ⟨_, rfl⟩
  have hS := ltS hb18 hS
  refine RL.join 6 24 (.bool b17) (fun w' => Ch nb w13 w') ?_ ?_
  · rcases Bool.eq_false_or_eq_true b11 with hg16 | hg16
    ·
     have hs15 := and_t hg16 hb18
     have cs : Ch nb w13 w13 := Ch.refl
     refine RL.yes rfl rfl rfl hg16 ?_
     refine rl_fieldAddr rfl fa32_3 rfl ?_
     refine RL.yes rfl rfl rfl hg16 ?_
     refine rl_loadS (v := (Value.bool a0.serving)) rfl Try.isAgg4 (k4.cell rfl) rfl ?_
     refine RL.yes rfl rfl rfl hg16 ?_
     refine rl_fieldAddr rfl fa32_3 rfl ?_
     refine RL.yes rfl rfl rfl hg16 ?_
     refine rl_loadS (v := (Value.bool a1.serving)) rfl Try.isAgg4 (k8.cell rfl) rfl ?_
     refine RL.yes rfl rfl rfl hg16 ?_
     refine rl_bin rfl rfl (B.eqlB Try.underlying4) rfl ?_
     refine rl_pickT rfl hg16 rfl rfl ?_
     exact RL.nil ⟨Ext.bothEq (congrArg Value.bool hs15) (Ext.skip rfl (Ext.skip rfl (Ext.skip rfl (Ext.skip rfl (Ext.skip rfl (Ext.rfl')))))), cs⟩
    ·
     have hs15 := and_f hg16 hb18
     have cs : Ch nb w13 w13 := Ch.refl
     refine RL.no rfl rfl rfl hg16 rfl rfl ?_
     refine RL.no rfl rfl rfl hg16 rfl rfl ?_
     refine RL.no rfl rfl rfl hg16 rfl rfl ?_
     refine RL.no rfl rfl rfl hg16 rfl rfl ?_
     refine RL.no rfl rfl rfl hg16 rfl rfl ?_
     refine rl_pickF rfl hg16 rfl rfl ?_
     exact RL.nil ⟨Ext.bothEq (congrArg Value.bool hs15) (Ext.skip rfl (Ext.skip rfl (Ext.skip rfl (Ext.skip rfl (Ext.skip rfl (Ext.rfl')))))), cs⟩
  intro w19 c20
  have ah0_0 := slRep.ch kStr_pos ah0_0 c20
  have ah1_0 := slRep.ch kStr_pos ah1_0 c20
  have k4 := k4.ch0 c20
  have k8 := k8.ch0 c20
  have c0 := c0.then0 c20
  refine rl_move rfl rfl ?_
  obtain ⟨b23, hb24⟩ : ∃ v, (b17 && (a0.terminating == a1.terminating)) = v := ⟨_, rfl⟩
  have hS := ltS hb24 hS
  refine RL.join 6 31 (.bool b23) (fun w' => Ch nb w19 w') ?_ ?_
  · rcases Bool.eq_false_or_eq_true b17 with hg22 | hg22
    ·
     have hs21 := and_t hg22 hb24
     have cs : Ch nb w19 w19 := Ch.refl
     refine RL.yes rfl rfl rfl hg22 ?_
     refine rl_fieldAddr rfl fa32_4 rfl ?_
     refine RL.yes rfl rfl rfl hg22 ?_
     refine rl_loadS (v := (Value.bool a0.terminating)) rfl Try.isAgg4 (k4.cell rfl) rfl ?_
     refine RL.yes rfl rfl rfl hg22 ?_
     refine rl_fieldAddr rfl fa32_4 rfl ?_
     refine RL.yes rfl rfl rfl hg22 ?_
     refine rl_loadS (v := (Value.bool a1.terminating)) rfl Try.isAgg4 (k8.cell rfl) rfl ?_
     refine RL.yes rfl rfl rfl hg22 ?_
     refine rl_bin rfl rfl (B.eqlB Try.underlying4) rfl ?_
     refine rl_pickT rfl hg22 rfl rfl ?_
     exact RL.nil ⟨Ext.bothEq (congrArg Value.bool hs21) (Ext.skip rfl (Ext.skip rfl (Ext.skip rfl (Ext.skip rfl (Ext.skip rfl (Ext.rfl')))))), cs⟩
    ·
     have hs21 := and_f hg22 hb24
     have cs : Ch nb w19 w19 := Ch.refl
     refine RL.no rfl rfl rfl hg22 rfl rfl ?_
     refine RL.no rfl rfl rfl hg22 rfl rfl ?_
     refine RL.no rfl rfl rfl hg22 rfl rfl ?_
     refine RL.no rfl rfl rfl hg22 rfl rfl ?_
     refine RL.no rfl rfl rfl hg22 rfl rfl ?_
     refine rl_pickF rfl hg22 rfl rfl ?_
     exact RL.nil ⟨Ext.bothEq (congrArg Value.bool hs21) (Ext.skip rfl (Ext.skip rfl (Ext.skip rfl (Ext.skip rfl (Ext.skip rfl (Ext.rfl')))))), cs⟩
  intro w25 c26
  have ah0_0 := slRep.ch kStr_pos ah0_0 c26
  have ah1_0 := slRep.ch kStr_pos ah1_0 c26
  have k4 := k4.ch0 c26
  have k8 := k8.ch0 c26
  have c0 := c0.then0 c26
  refine rl_assign rfl rfl ?_
  refine RL.nil ?_
  refine thn_n ?_
  refine CW.seq (CW.region ?_)
  refine rl_fieldAddr rfl fa32_0 rfl ?_
  refine rl_loadA (cs := (Point.enc a0.point)) rfl Try.isAgg29 Try.sizeOf29 (k4.segAt 0 18) rfl rfl ?_
  refine rl_fieldAddr rfl fa32_0 rfl ?_
  refine rl_loadA (cs := (Point.enc a1.point)) rfl Try.isAgg29 Try.sizeOf29 (k8.segAt 0 18) rfl rfl ?_
  refine rl_bin rfl rfl (eql29 a0.point a1.point) rfl ?_
  refine rl_move rfl rfl ?_
  obtain ⟨b29, hb30⟩ : ∃ v, ((decide (a0.point = a1.point)) && b23) = v := ⟨_, rfl⟩
  have hS := ltS hb30 hS
  refine RL.join 2 39 (.bool b29) (fun w' => Ch nb w25 w') ?_ ?_
  · rcases Bool.eq_false_or_eq_true (decide (a0.point = a1.point)) with hg28 | hg28
    ·
     have hs27 := and_t hg28 hb30
     have cs : Ch nb w25 w25 := Ch.refl
     refine RL.yes rfl rfl rfl hg28 ?_
     refine rl_move rfl rfl ?_
     refine rl_pickT rfl hg28 rfl rfl ?_
     exact RL.nil ⟨Ext.bothEq (congrArg Value.bool hs27) (Ext.skip rfl (Ext.rfl')), cs⟩
    ·
     have hs27 := and_f hg28 hb30
     have cs : Ch nb w25 w25 := Ch.refl
     refine RL.no rfl rfl rfl hg28 rfl rfl ?_
     refine rl_pickF rfl hg28 rfl rfl ?_
     exact RL.nil ⟨Ext.bothEq (congrArg Value.bool hs27) (Ext.skip rfl (Ext.rfl')), cs⟩
  intro w31 c32
  have ah0_0 := slRep.ch kStr_pos ah0_0 c32
  have ah1_0 := slRep.ch kStr_pos ah1_0 c32
  have k4 := k4.ch0 c32
  have k8 := k8.ch0 c32
  have c0 := c0.then0 c32
  refine rl_move rfl rfl ?_
  obtain ⟨b35, hb36, hS⟩ := bindS hS
  refine RL.join 6 46 (.bool b35) (fun w' => Ch nb w31 w') ?_ ?_
  · rcases Bool.eq_false_or_eq_true b29 with hg34 | hg34
    ·
     have hs33 := andO_t hg34 hb36
     have cs : Ch nb w31 w31 := Ch.refl
     refine RL.yes rfl rfl rfl hg34 ?_
     refine rl_fieldAddr rfl fa32_5 rfl ?_
     refine RL.yes rfl rfl rfl hg34 ?_
     refine rl_loadS (v := az0_0) rfl Try.isAgg30 (k4.cell rfl) rfl ?_
     refine RL.yes rfl rfl rfl hg34 ?_
     refine rl_fieldAddr rfl fa32_5 rfl ?_
     refine RL.yes rfl rfl rfl hg34 ?_
     refine rl_loadS (v := az1_0) rfl Try.isAgg30 (k8.cell rfl) rfl ?_
     refine RL.yes rfl rfl rfl hg34 ?_
     obtain ⟨y40, hy41, hs33⟩ := bindS hs33
     refine rl_callF rfl en27 rfl (ctr27 (G F w.heap.size nb) w31 a0.zones az0_0 ah0_0 a1.zones az1_0 ah1_0 y40 hy41) ?_
     rintro _ w38 ⟨rfl, c39⟩
     have ah0_0 := slRep.ch kStr_pos ah0_0 c39
     have ah1_0 := slRep.ch kStr_pos ah1_0 c39
     have k4 := k4.ch0 c39
     have k8 := k8.ch0 c39
     have c0 := c0.then0 c39
     refine rl_pickT rfl hg34 rfl rfl ?_
     have cs := cs.then0 c39
     exact RL.nil ⟨Ext.bothEq (congrArg Value.bool (Option.some.inj hs33)) (Ext.skip rfl (Ext.skip rfl (Ext.skip rfl (Ext.skip rfl (Ext.skip rfl (Ext.rfl')))))), cs⟩
    ·
     have hs33 := andO_f hg34 hb36
     have cs : Ch nb w31 w31 := Ch.refl
     refine RL.no rfl rfl rfl hg34 rfl rfl ?_
     refine RL.no rfl rfl rfl hg34 rfl rfl ?_
     refine RL.no rfl rfl rfl hg34 rfl rfl ?_
     refine RL.no rfl rfl rfl hg34 rfl rfl ?_
     refine RL.no rfl rfl rfl hg34 rfl rfl ?_
     refine rl_pickF rfl hg34 rfl rfl ?_
     exact RL.nil ⟨Ext.bothEq (congrArg Value.bool (Option.some.inj hs33)) (Ext.skip rfl (Ext.skip rfl (Ext.skip rfl (Ext.skip rfl (Ext.skip rfl (Ext.rfl')))))), cs⟩
  intro w37 c42
  have ah0_0 := slRep.ch kStr_pos ah0_0 c42
  have ah1_0 := slRep.ch kStr_pos ah1_0 c42
  have k4 := k4.ch0 c42
  have k8 := k8.ch0 c42
  have c0 := c0.then0 c42
  refine rl_assign rfl rfl ?_
  refine RL.nil ?_
  refine thn_n ?_
  refine CW.ret ?_
  obtain rfl := Option.some.inj hS
  exact ret1 rfl ⟨rfl, c0⟩
end Go.Proofs.Ytlebjaljlhcbkaa
