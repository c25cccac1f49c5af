/- The walks through the code: each call comes to its printed function. Written by a program of this session. -/
import Derived.Test.YtejkknmedebgnaaM
import Derived.Test.YtejkknmedebgnaaL
import Derived.Test.YtejkknmedebgnaaW3
namespace Go.Proofs.Ytejkknmedebgnaa
open Go K
set_option linter.unusedVariables false
/-- lb/lbref20.Sort -/
theorem ctr15 (F : Nat → Prop) (w : World) (a0 : (List Face)) (av0 : Value) (ah0 : slRep k_Face F w a0 av0) (r : (List Face)) (hs : F15_linkboyref20_Sort a0 = some r) :
    Ret Try.prog 15 #[av0] w fun v w' => ∃ (y0 : Value), v = y0 ∧ SlO k_Face 62 F w.heap.size (inBlk y0) w' r y0 ∧ Ch nb w w' := by
  have hS := hs
  have c0 : Ch nb w w := Ch.refl
  have ah0 := slRep.enter k_Face_pos ah0
  refine Ret.of (n := 55) (args := [_]) (rs := [.tmp 2]) Try.func15 rfl rfl rfl rfl ?_
  refine CW.seq (CW.region ?_)
  refine rl_assign rfl rfl ?_
  refine RL.nil ?_
  refine thn_n ?_
  refine CW.seq (CW.region ?_)
  refine rl_bslice (k := k_Face) (F := F) (B := w.heap.size) (S := nb) ([] : List Face) rfl k_Face_pos Try.underlying44 Try.sizeOf62 Try.zeroValue62 rfl rfl trivial c0.size nbS rfl ?_
  intro v1 w2 c3 hf4 h5
  have ah0 := slRep.st k_Face_pos ah0 c3 (admNew hf4 (fun _ x => x))
  have c0 := c0.then0 c3
  refine rl_assign rfl rfl ?_
  refine RL.nil ?_
  refine thn_n ?_
  refine CW.seq ?_
  refine CW.seq (CW.region ?_)
  refine rl_move rfl rfl ?_
  refine rl_lenR rfl ah0 Try.underlying44 rfl ?_
  refine rl_move rfl rfl ?_
  refine RL.nil ?_
  refine thn_n ?_
  obtain ⟨o16, ho17, hS⟩ := bindS hS
  refine CW.cutB (fun E' w' => ∃ (x6 : (List Face)) (v7 : Value), Sub [(3, v7)] E' ∧ Ch nb w w' ∧ x6 = o16 ∧ slRep k_Face (G F w.heap.size (un (inBlk v7) nb)) w' a0 av0 ∧ SlO k_Face 62 F w.heap.size (un (inBlk v7) nb) w' x6 v7) ?_ ?_
  ·
   refine CW.loopS [(8, av0), (9, (Value.int .i64 ((a0.length : Nat) : Int))), (3, v1), (10, (Value.int .i64 ((0 : Nat) : Int)))] ⟨rfl, rfl, rfl, rfl, trivial⟩ a0.length (fun m E w' => ∃ (rest9 : List Face) (i10 : Nat) (x6 : (List Face)) (v7 : Value), m = rest9.length ∧ E = [(8, av0), (9, (Value.int .i64 ((a0.length : Nat) : Int))), (3, v7), (10, (Value.int .i64 ((i10 : Nat) : Int)))] ∧ Ch nb w w' ∧ At a0 i10 rest9 ∧ runAO F15_linkboyref20_Sort_b1 rest9 x6 = some o16 ∧ slRep k_Face (G F w.heap.size (un (inBlk v7) nb)) w' a0 av0 ∧ SlO k_Face 62 F w.heap.size (un (inBlk v7) nb) w' x6 v7)
       ⟨a0, 0, [], v1, rfl, rfl, c0, At.start, ho17, ah0, h5⟩ ?_
   rintro _ _ w22 ⟨rest9, i10, x6, v7, rfl, rfl, c21, hat12, hL11, ah0, h8⟩
   refine CW.seq (CW.region ?_)
   refine rl_bin rfl rfl B.lss rfl ?_
   refine RL.nil (thn_n ?_)
   refine CW.seq ?_
   refine CW.cond (t := decide (((i10 : Nat) : Int) < ((a0.length : Nat) : Int))) rfl (fun q24 => ?_) (fun q24 => ?_)
   ·
    obtain ⟨x18, rest25, rfl⟩ := hat12.cons q24
    obtain ⟨q13, hq14⟩ := runAO_some hL11
    have hb15 := hq14
    refine CW.skip (thn_n ?_)
    refine CW.seq ?_
    refine CW.block ?_
    refine CW.seq (CW.region ?_)
    refine rl_ixR rfl ah0 rfl hat12.get Try.underlying44 Try.sizeOf62 rfl ?_
    intro p26 o27 cs28 hr29 hs30 hg31
    obtain rfl := hr29
    refine rl_loadA (cs := (Face.enc x18)) rfl Try.isAgg62 Try.sizeOf62 (hs30) rfl rfl ?_
    refine rl_alloc (Face.enc Face.z) Try.zeroValue62 rfl rfl ?_
    intro p32 w33 n34 k35
    have lo36 : ∀ b, inBlk (Value.pointer (some ⟨p32, 0, none⟩)) b → w.heap.size ≤ b := fun b h => Nat.le_trans c21.size (n34.fresh b h)
    have d37 : ∀ b, inBlk (Value.pointer (some ⟨p32, 0, none⟩)) b → ¬ inBlk v7 b := disNew n34.fresh (fun b hb => (h8.lt b hb).2)
    have ah0 := slRep.st k_Face_pos ah0 n34.ch (admNew n34.fresh (fun _ x => x))
    have h8 := h8.st n34.ch (fun _ _ x => x) (admNew n34.fresh (fun _ x => x)) (fun b h => (.inr (.inl h)))
    have c21 := c21.then0 n34.ch
    refine rl_storeA (vs := (Face.enc x18)) rfl rfl (all_one rfl) Try.sizeOf62 rfl k35 rfl ?_
    intro w38 s40 c39 k41
    have ad42 : ∀ b, b < w33.heap.size → ¬ (un (inBlk (Value.pointer (some ⟨p32, 0, none⟩))) (un (inBlk v7) nb)) b → ¬ (inBlk (Value.pointer (some ⟨p32, 0, none⟩))) b ∧ ¬ (un (inBlk (Value.pointer (some ⟨p32, 0, none⟩))) (un (inBlk v7) nb)) b := fun b _ hs => ⟨fun h => hs (.inl h), hs⟩
    have ah0 := slRep.st k_Face_pos ah0 c39 ad42
    have h8 := h8.st c39 (fun b hb h => (disSym d37) b hb h) ad42 (fun b h => (.inr (.inl h)))
    have c21 := c21.then c39 (fun i hi h => absurd (lo36 i h) (Nat.not_le_of_lt hi))
    refine RL.nil ?_
    refine thn_n ?_
    refine CW.seq (CW.region ?_)
    refine rl_move rfl rfl ?_
    refine rl_lenR rfl (SlO.read (S' := (un (inBlk (Value.pointer (some ⟨p32, 0, none⟩))) nb)) k_Face_pos h8 (fun b hs h => hs (un_el h (fun h => (.inl h)) (fun h => False.elim h))) (fun b hb => fun h => un_el h (fun h => (disSym d37) b hb h) (fun h => h))) Try.underlying44 rfl ?_
    refine rl_assign rfl rfl ?_
    refine RL.nil ?_
    refine thn_n ?_
    refine CW.seq ?_
    obtain ⟨o52, ho53, hb15⟩ := bindS hb15
    refine CW.cutB (fun E' w' => ∃ (x43 : Int), Sub [(3, v7), (5, (Value.pointer (some ⟨p32, 0, none⟩))), (8, av0), (9, (Value.int .i64 ((a0.length : Nat) : Int))), (10, (Value.int .i64 ((i10 : Nat) : Int))), (6, (Value.int .i64 x43))] E' ∧ Ch nb w w' ∧ Lp.fin x43 = o52 ∧ slRep k_Face (G F w.heap.size (un (inBlk (Value.pointer (some ⟨p32, 0, none⟩))) (un (inBlk v7) nb))) w' a0 av0 ∧ SlO k_Face 62 F w.heap.size (un (inBlk (Value.pointer (some ⟨p32, 0, none⟩))) (un (inBlk v7) nb)) w' x6 v7 ∧ Blk w' p32 62 (Face.enc x18) ∧ (∀ b, inBlk (Value.pointer (some ⟨p32, 0, none⟩)) b → ¬ inBlk v7 b)) ?_ ?_
    ·
     refine CW.loopS [(3, v7), (5, (Value.pointer (some ⟨p32, 0, none⟩))), (8, av0), (9, (Value.int .i64 ((a0.length : Nat) : Int))), (10, (Value.int .i64 ((i10 : Nat) : Int))), (6, (Value.int .i64 ((x6.length : Nat) : Int)))] ⟨rfl, rfl, rfl, rfl, rfl, rfl, trivial⟩ FUEL (fun m E w' => ∃ (x43 : Int), E = [(3, v7), (5, (Value.pointer (some ⟨p32, 0, none⟩))), (8, av0), (9, (Value.int .i64 ((a0.length : Nat) : Int))), (10, (Value.int .i64 ((i10 : Nat) : Int))), (6, (Value.int .i64 x43))] ∧ Ch nb w w' ∧ runW (F15_linkboyref20_Sort_b2 x6 x18) m x43 = some o52 ∧ slRep k_Face (G F w.heap.size (un (inBlk (Value.pointer (some ⟨p32, 0, none⟩))) (un (inBlk v7) nb))) w' a0 av0 ∧ SlO k_Face 62 F w.heap.size (un (inBlk (Value.pointer (some ⟨p32, 0, none⟩))) (un (inBlk v7) nb)) w' x6 v7 ∧ Blk w' p32 62 (Face.enc x18) ∧ (∀ b, inBlk (Value.pointer (some ⟨p32, 0, none⟩)) b → ¬ inBlk v7 b))
         ⟨((x6.length : Nat) : Int), rfl, c21, ho53, ah0, h8, k41, d37⟩ ?_
     rintro _ _ w58 ⟨x43, rfl, c57, hL47, ah0, h8, k41, d44⟩
     obtain ⟨k56, q49, rfl, hq50⟩ := runW_some hL47
     have hb51 := hq50
     refine CW.seq ?_
     refine CW.seq ?_
     obtain ⟨b72, hb73, hb51⟩ := bindS hb51
     refine CW.cutN (fun E' w' => Sub [(3, v7), (5, (Value.pointer (some ⟨p32, 0, none⟩))), (6, (Value.int .i64 x43)), (8, av0), (9, (Value.int .i64 ((a0.length : Nat) : Int))), (10, (Value.int .i64 ((i10 : Nat) : Int))), (27, (Value.bool b72))] E' ∧ Ch nb w58 w') ?_ ?_
     ·
      rcases Bool.eq_false_or_eq_true (decide (x43 > 0)) with hg74 | hg74
      ·
       have hs75 := andO_t hg74 hb73
       obtain ⟨y66, hy67, hs75⟩ := bindS hs75
       obtain ⟨y70, hy71, hs75⟩ := bindS hs75
       refine CW.draw 12 [(none, fun _ O uu wx => uu = (Value.int .i64 x43)), (none, fun _ O uu wx => uu = (Value.bool (decide (x43 > 0)))), (none, fun _ O uu wx => uu = (Value.bool (decide (x43 > 0)))), (none, fun _ O uu wx => uu = (Value.agg (Face.enc x18).toArray)), (none, fun _ O uu wx => uu = v7), (none, fun _ O uu wx => uu = (Value.int .i64 x43)), (none, fun _ O uu wx => uu = (Value.int .i64 (IntKind.i64.wrap (x43 - 1)))), (none, fun _ O uu wx => ∃ (p60 : Nat) (o61 : Nat), uu = (Value.pointer (some ⟨p60, o61, none⟩)) ∧ Seg wx p60 o61 (Face.enc y66)), (none, fun _ O uu wx => uu = (Value.agg (Face.enc y66).toArray)), (none, fun _ O uu wx => uu = (Value.int .i64 y70)), (none, fun _ O uu wx => uu = (Value.bool (decide (y70 < 0)))), (none, fun _ O uu wx => uu = (Value.bool b72))] [[], [0], [1], [2], [2], [2], [2, 5], [2, 4, 6], [2, 7], [2, 3, 8], [2, 9], [2, 10]] [11] nb (fun _ h => h.elim) mixed rfl rfl rfl rfl ?_ ?_
       ·
        refine Each.consA ⟨fun _ _ _ _ _ _ h => h, fun h => absurd rfl h, fun O wk hO ck => ?_⟩ ?_
        ·
         have ah0 := slRep.ch k_Face_pos ah0 ck
         have h8 := h8.ch0 ck
         have k41 := k41.ch0 ck
         have c57 := c57.then0 ck
         refine rl_move rfl rfl ?_
         exact RL.nil ⟨_, rfl, Ch.refl, rfl⟩
        refine Each.consA ⟨fun _ _ _ _ _ _ h => h, fun h => absurd rfl h, fun O wk hO ck => ?_⟩ ?_
        ·
         have ah0 := slRep.ch k_Face_pos ah0 ck
         have h8 := h8.ch0 ck
         have k41 := k41.ch0 ck
         have c57 := c57.then0 ck
         refine Need.one rfl rfl rfl ?_
         rintro _ e76
         obtain rfl := e76.symm
         refine rl_bin rfl rfl B.gtr rfl ?_
         exact RL.nil ⟨_, rfl, Ch.refl, rfl⟩
        refine Each.consA ⟨fun _ _ _ _ _ _ h => h, fun h => absurd rfl h, fun O wk hO ck => ?_⟩ ?_
        ·
         have ah0 := slRep.ch k_Face_pos ah0 ck
         have h8 := h8.ch0 ck
         have k41 := k41.ch0 ck
         have c57 := c57.then0 ck
         refine Need.one rfl rfl rfl ?_
         rintro _ e77
         obtain rfl := e77.symm
         refine rl_move rfl rfl ?_
         exact RL.nil ⟨_, rfl, Ch.refl, rfl⟩
        refine Each.consA ⟨fun _ _ _ _ _ _ h => h, fun h => absurd rfl h, fun O wk hO ck => ?_⟩ ?_
        ·
         have ah0 := slRep.ch k_Face_pos ah0 ck
         have h8 := h8.ch0 ck
         have k41 := k41.ch0 ck
         have c57 := c57.then0 ck
         refine Need.one rfl rfl rfl ?_
         rintro _ e78
         obtain rfl := e78.symm
         refine RL.yes rfl rfl rfl hg74 ?_
         refine rl_loadA (cs := (Face.enc x18)) rfl Try.isAgg62 Try.sizeOf62 (k41.segAt 0 23) rfl rfl ?_
         exact RL.nil ⟨_, rfl, Ch.refl, rfl⟩
        refine Each.consA ⟨fun _ _ _ _ _ _ h => h, fun h => absurd rfl h, fun O wk hO ck => ?_⟩ ?_
        ·
         have ah0 := slRep.ch k_Face_pos ah0 ck
         have h8 := h8.ch0 ck
         have k41 := k41.ch0 ck
         have c57 := c57.then0 ck
         refine Need.one rfl rfl rfl ?_
         rintro _ e79
         obtain rfl := e79.symm
         refine RL.yes rfl rfl rfl hg74 ?_
         refine rl_move rfl rfl ?_
         exact RL.nil ⟨_, rfl, Ch.refl, rfl⟩
        refine Each.consA ⟨fun _ _ _ _ _ _ h => h, fun h => absurd rfl h, fun O wk hO ck => ?_⟩ ?_
        ·
         have ah0 := slRep.ch k_Face_pos ah0 ck
         have h8 := h8.ch0 ck
         have k41 := k41.ch0 ck
         have c57 := c57.then0 ck
         refine Need.one rfl rfl rfl ?_
         rintro _ e80
         obtain rfl := e80.symm
         refine RL.yes rfl rfl rfl hg74 ?_
         refine rl_move rfl rfl ?_
         exact RL.nil ⟨_, rfl, Ch.refl, rfl⟩
        refine Each.consA ⟨fun _ _ _ _ _ _ h => h, fun h => absurd rfl h, fun O wk hO ck => ?_⟩ ?_
        ·
         have ah0 := slRep.ch k_Face_pos ah0 ck
         have h8 := h8.ch0 ck
         have k41 := k41.ch0 ck
         have c57 := c57.then0 ck
         refine Need.one rfl rfl rfl ?_
         rintro _ e81
         obtain rfl := e81.symm
         refine Need.one rfl rfl rfl ?_
         rintro _ e82
         obtain rfl := e82.symm
         refine RL.yes rfl rfl rfl hg74 ?_
         refine rl_bin rfl rfl B.sub rfl ?_
         exact RL.nil ⟨_, rfl, Ch.refl, rfl⟩
        refine Each.consA ⟨fun _ _ _ _ _ cc hh => by obtain ⟨p60, o61, e, hs64⟩ := hh; exact ⟨p60, o61, e, hs64.ch0 cc⟩, fun h => absurd rfl h, fun O wk hO ck => ?_⟩ ?_
        ·
         have ah0 := slRep.ch k_Face_pos ah0 ck
         have h8 := h8.ch0 ck
         have k41 := k41.ch0 ck
         have c57 := c57.then0 ck
         refine Need.one rfl rfl rfl ?_
         rintro _ e83
         obtain rfl := e83.symm
         refine Need.one rfl rfl rfl ?_
         rintro _ e84
         obtain rfl := e84.symm
         refine Need.one rfl rfl rfl ?_
         rintro _ e85
         obtain rfl := e85.symm
         refine RL.yes rfl rfl rfl hg74 ?_
         refine rl_ixOR rfl h8 rfl (ixO_get hy67) k_Face_pos Try.underlying44 Try.sizeOf62 rfl ?_
         intro p86 o87 cs88 hr89 hs90 hg91
         obtain rfl := hr89
         exact RL.nil ⟨_, rfl, Ch.refl, ⟨p86, o87, rfl, hs90⟩⟩
        refine Each.consA ⟨fun _ _ _ _ _ _ h => h, fun h => absurd rfl h, fun O wk hO ck => ?_⟩ ?_
        ·
         have ah0 := slRep.ch k_Face_pos ah0 ck
         have h8 := h8.ch0 ck
         have k41 := k41.ch0 ck
         have c57 := c57.then0 ck
         refine Need.one rfl rfl rfl ?_
         rintro _ e92
         obtain rfl := e92.symm
         refine Need.one rfl rfl rfl ?_
         rintro _ ⟨p60, o61, e93, hs64⟩
         obtain rfl := e93.symm
         refine RL.yes rfl rfl rfl hg74 ?_
         refine rl_loadA (cs := (Face.enc y66)) rfl Try.isAgg62 Try.sizeOf62 (hs64) rfl rfl ?_
         exact RL.nil ⟨_, rfl, Ch.refl, rfl⟩
        refine Each.consA ⟨fun _ _ _ _ _ _ h => h, fun h => absurd rfl h, fun O wk hO ck => ?_⟩ ?_
        ·
         have ah0 := slRep.ch k_Face_pos ah0 ck
         have h8 := h8.ch0 ck
         have k41 := k41.ch0 ck
         have c57 := c57.then0 ck
         refine Need.one rfl rfl rfl ?_
         rintro _ e94
         obtain rfl := e94.symm
         refine Need.one rfl rfl rfl ?_
         rintro _ e95
         obtain rfl := e95.symm
         refine Need.one rfl rfl rfl ?_
         rintro _ e96
         obtain rfl := e96.symm
         refine RL.yes rfl rfl rfl hg74 ?_
         refine rl_callF rfl en22 rfl (ctr22 (G F w.heap.size (un (inBlk (Value.pointer (some ⟨p32, 0, none⟩))) (un (inBlk v7) nb))) wk x18 y66 y70 hy71) ?_
         rintro _ w97 ⟨rfl, c98⟩
         have ah0 := slRep.ch k_Face_pos ah0 c98
         have h8 := h8.ch0 c98
         have k41 := k41.ch0 c98
         have c57 := c57.then0 c98
         exact RL.nil ⟨_, rfl, c98, rfl⟩
        refine Each.consA ⟨fun _ _ _ _ _ _ h => h, fun h => absurd rfl h, fun O wk hO ck => ?_⟩ ?_
        ·
         have ah0 := slRep.ch k_Face_pos ah0 ck
         have h8 := h8.ch0 ck
         have k41 := k41.ch0 ck
         have c57 := c57.then0 ck
         refine Need.one rfl rfl rfl ?_
         rintro _ e99
         obtain rfl := e99.symm
         refine Need.one rfl rfl rfl ?_
         rintro _ e100
         obtain rfl := e100.symm
         refine RL.yes rfl rfl rfl hg74 ?_
         refine rl_bin rfl rfl B.lss rfl ?_
         exact RL.nil ⟨_, rfl, Ch.refl, rfl⟩
        refine Each.consA ⟨fun _ _ _ _ _ _ h => h, fun h => absurd rfl h, fun O wk hO ck => ?_⟩ ?_
        ·
         refine Need.one rfl rfl rfl ?_
         rintro _ e101
         obtain rfl := e101.symm
         refine Need.one rfl rfl rfl ?_
         rintro _ e102
         obtain rfl := e102.symm
         refine rl_pickT rfl hg74 rfl rfl ?_
         exact RL.nil ⟨_, rfl, Ch.refl, congrArg Value.bool (Option.some.inj hs75)⟩
        trivial
       ·
        intro hvO105 OpO105 O105 w103 hO106 c104 hN107
        have ah0 := slRep.ch k_Face_pos ah0 c104
        have h8 := h8.ch0 c104
        have k41 := k41.ch0 c104
        have c57 := c57.then0 c104
        refine Need.one rfl rfl rfl ?_
        rintro _ e108
        obtain rfl := e108.symm
        exact RL.nil ⟨rfl, ⟨rfl, rfl, rfl, rfl, rfl, rfl, rfl, trivial⟩, c104⟩
      ·
       have hs109 := andO_f hg74 hb73
       refine CW.draw 12 [(none, fun _ O uu wx => uu = (Value.int .i64 x43)), (none, fun _ O uu wx => uu = (Value.bool (decide (x43 > 0)))), (none, fun _ O uu wx => uu = (Value.bool (decide (x43 > 0)))), (none, fun _ O uu wx => uu = undef), (none, fun _ O uu wx => uu = undef), (none, fun _ O uu wx => uu = undef), (none, fun _ O uu wx => uu = undef), (none, fun _ O uu wx => uu = undef), (none, fun _ O uu wx => uu = undef), (none, fun _ O uu wx => uu = undef), (none, fun _ O uu wx => uu = undef), (none, fun _ O uu wx => uu = (Value.bool b72))] [[], [0], [1], [2], [2], [2], [2], [2], [2], [2], [2], [2]] [11] nb (fun _ h => h.elim) mixed rfl rfl rfl rfl ?_ ?_
       ·
        refine Each.consA ⟨fun _ _ _ _ _ _ h => h, fun h => absurd rfl h, fun O wk hO ck => ?_⟩ ?_
        ·
         have ah0 := slRep.ch k_Face_pos ah0 ck
         have h8 := h8.ch0 ck
         have k41 := k41.ch0 ck
         have c57 := c57.then0 ck
         refine rl_move rfl rfl ?_
         exact RL.nil ⟨_, rfl, Ch.refl, rfl⟩
        refine Each.consA ⟨fun _ _ _ _ _ _ h => h, fun h => absurd rfl h, fun O wk hO ck => ?_⟩ ?_
        ·
         have ah0 := slRep.ch k_Face_pos ah0 ck
         have h8 := h8.ch0 ck
         have k41 := k41.ch0 ck
         have c57 := c57.then0 ck
         refine Need.one rfl rfl rfl ?_
         rintro _ e110
         obtain rfl := e110.symm
         refine rl_bin rfl rfl B.gtr rfl ?_
         exact RL.nil ⟨_, rfl, Ch.refl, rfl⟩
        refine Each.consA ⟨fun _ _ _ _ _ _ h => h, fun h => absurd rfl h, fun O wk hO ck => ?_⟩ ?_
        ·
         have ah0 := slRep.ch k_Face_pos ah0 ck
         have h8 := h8.ch0 ck
         have k41 := k41.ch0 ck
         have c57 := c57.then0 ck
         refine Need.one rfl rfl rfl ?_
         rintro _ e111
         obtain rfl := e111.symm
         refine rl_move rfl rfl ?_
         exact RL.nil ⟨_, rfl, Ch.refl, rfl⟩
        refine Each.consA ⟨fun _ _ _ _ _ _ h => h, fun h => absurd rfl h, fun O wk hO ck => ?_⟩ ?_
        ·
         refine Need.one rfl rfl rfl ?_
         rintro _ e112
         obtain rfl := e112.symm
         refine RL.no rfl rfl rfl hg74 rfl rfl ?_
         exact RL.nil ⟨_, rfl, Ch.refl, rfl⟩
        refine Each.consA ⟨fun _ _ _ _ _ _ h => h, fun h => absurd rfl h, fun O wk hO ck => ?_⟩ ?_
        ·
         refine Need.one rfl rfl rfl ?_
         rintro _ e113
         obtain rfl := e113.symm
         refine RL.no rfl rfl rfl hg74 rfl rfl ?_
         exact RL.nil ⟨_, rfl, Ch.refl, rfl⟩
        refine Each.consA ⟨fun _ _ _ _ _ _ h => h, fun h => absurd rfl h, fun O wk hO ck => ?_⟩ ?_
        ·
         refine Need.one rfl rfl rfl ?_
         rintro _ e114
         obtain rfl := e114.symm
         refine RL.no rfl rfl rfl hg74 rfl rfl ?_
         exact RL.nil ⟨_, rfl, Ch.refl, rfl⟩
        refine Each.consA ⟨fun _ _ _ _ _ _ h => h, fun h => absurd rfl h, fun O wk hO ck => ?_⟩ ?_
        ·
         refine Need.one rfl rfl rfl ?_
         rintro _ e115
         obtain rfl := e115.symm
         refine RL.no rfl rfl rfl hg74 rfl rfl ?_
         exact RL.nil ⟨_, rfl, Ch.refl, rfl⟩
        refine Each.consA ⟨fun _ _ _ _ _ _ h => h, fun h => absurd rfl h, fun O wk hO ck => ?_⟩ ?_
        ·
         refine Need.one rfl rfl rfl ?_
         rintro _ e116
         obtain rfl := e116.symm
         refine RL.no rfl rfl rfl hg74 rfl rfl ?_
         exact RL.nil ⟨_, rfl, Ch.refl, rfl⟩
        refine Each.consA ⟨fun _ _ _ _ _ _ h => h, fun h => absurd rfl h, fun O wk hO ck => ?_⟩ ?_
        ·
         refine Need.one rfl rfl rfl ?_
         rintro _ e117
         obtain rfl := e117.symm
         refine RL.no rfl rfl rfl hg74 rfl rfl ?_
         exact RL.nil ⟨_, rfl, Ch.refl, rfl⟩
        refine Each.consA ⟨fun _ _ _ _ _ _ h => h, fun h => absurd rfl h, fun O wk hO ck => ?_⟩ ?_
        ·
         refine Need.one rfl rfl rfl ?_
         rintro _ e118
         obtain rfl := e118.symm
         refine RL.no rfl rfl rfl hg74 rfl rfl ?_
         exact RL.nil ⟨_, rfl, Ch.refl, rfl⟩
        refine Each.consA ⟨fun _ _ _ _ _ _ h => h, fun h => absurd rfl h, fun O wk hO ck => ?_⟩ ?_
        ·
         refine Need.one rfl rfl rfl ?_
         rintro _ e119
         obtain rfl := e119.symm
         refine RL.no rfl rfl rfl hg74 rfl rfl ?_
         exact RL.nil ⟨_, rfl, Ch.refl, rfl⟩
        refine Each.consA ⟨fun _ _ _ _ _ _ h => h, fun h => absurd rfl h, fun O wk hO ck => ?_⟩ ?_
        ·
         refine Need.one rfl rfl rfl ?_
         rintro _ e120
         obtain rfl := e120.symm
         refine rl_pickF rfl hg74 rfl rfl ?_
         exact RL.nil ⟨_, rfl, Ch.refl, congrArg Value.bool (Option.some.inj hs109)⟩
        trivial
       ·
        intro hvO123 OpO123 O123 w121 hO124 c122 hN125
        have ah0 := slRep.ch k_Face_pos ah0 c122
        have h8 := h8.ch0 c122
        have k41 := k41.ch0 c122
        have c57 := c57.then0 c122
        refine Need.one rfl rfl rfl ?_
        rintro _ e126
        obtain rfl := e126.symm
        exact RL.nil ⟨rfl, ⟨rfl, rfl, rfl, rfl, rfl, rfl, rfl, trivial⟩, c122⟩
     ·
      rintro _ w128 ⟨hE127, c129⟩
      have ah0 := slRep.ch k_Face_pos ah0 c129
      have h8 := h8.ch0 c129
      have k41 := k41.ch0 c129
      have c57 := c57.then0 c129
      refine thn_n (CW.sub [(3, v7), (5, (Value.pointer (some ⟨p32, 0, none⟩))), (6, (Value.int .i64 x43)), (8, av0), (9, (Value.int .i64 ((a0.length : Nat) : Int))), (10, (Value.int .i64 ((i10 : Nat) : Int))), (27, (Value.bool b72))] hE127 ?_)
      refine CW.cond (t := b72) rfl (fun q130 => ?_) (fun q130 => ?_)
      ·
       have hb51 := ifT q130 hb51
       refine CW.skip ?_
       refine thn_n ?_
       refine CW.block ?_
       refine CW.region ?_
       refine rl_move rfl rfl ?_
       refine rl_bin rfl rfl B.sub rfl ?_
       refine rl_assign rfl rfl ?_
       refine RL.nil ?_
       refine inB_n ?_
       refine thn_n ?_
       have hLn := runW_next hL47 hq50 hb51
       exact ⟨k56, Nat.lt_succ_self _, [(3, v7), (5, (Value.pointer (some ⟨p32, 0, none⟩))), (8, av0), (9, (Value.int .i64 ((a0.length : Nat) : Int))), (10, (Value.int .i64 ((i10 : Nat) : Int))), (6, (Value.int .i64 (IntKind.i64.wrap (x43 - 1))))], ⟨rfl, rfl, rfl, rfl, rfl, rfl, trivial⟩, ⟨IntKind.i64.wrap (x43 - 1), rfl, c57, hLn, ah0, h8, k41, d44⟩⟩
      ·
       have hb51 := ifF q130 hb51
       refine CW.exit ?_
       refine thn_exit ?_
       refine thn_exit ?_
       refine inB_hit ?_
       have hLf := runW_fin hL47 hq50 hb51
       exact ⟨x43, ⟨rfl, rfl, rfl, rfl, rfl, rfl, trivial⟩, c57, hLf, ah0, h8, k41, d44⟩
    ·
     rintro _ w132 ⟨x43, hE133, c131, f134, ah0, h8, k41, d44⟩
     have hb15 := finS f134 hb15
     refine thn_n (CW.sub [(3, v7), (5, (Value.pointer (some ⟨p32, 0, none⟩))), (8, av0), (9, (Value.int .i64 ((a0.length : Nat) : Int))), (10, (Value.int .i64 ((i10 : Nat) : Int))), (6, (Value.int .i64 x43))] hE133 ?_)
     refine CW.seq ?_
     refine CW.seq ?_
     obtain ⟨b144, hb145, hb15⟩ := bindS hb15
     refine CW.cutN (fun E' w' => Sub [(3, v7), (5, (Value.pointer (some ⟨p32, 0, none⟩))), (6, (Value.int .i64 x43)), (8, av0), (9, (Value.int .i64 ((a0.length : Nat) : Int))), (10, (Value.int .i64 ((i10 : Nat) : Int))), (40, (Value.bool b144))] E' ∧ Ch nb w132 w') ?_ ?_
     ·
      rcases Bool.eq_false_or_eq_true (decide (x43 > 0)) with hg146 | hg146
      ·
       have hs147 := andO_t hg146 hb145
       obtain ⟨y142, hy143, hs147⟩ := bindS hs147
       refine CW.draw 11 [(none, fun _ O uu wx => uu = (Value.int .i64 x43)), (none, fun _ O uu wx => uu = (Value.bool (decide (x43 > 0)))), (none, fun _ O uu wx => uu = (Value.bool (decide (x43 > 0)))), (none, fun _ O uu wx => uu = v7), (none, fun _ O uu wx => uu = (Value.int .i64 x43)), (none, fun _ O uu wx => uu = (Value.int .i64 (IntKind.i64.wrap (x43 - 1)))), (none, fun _ O uu wx => ∃ (p136 : Nat) (o137 : Nat), uu = (Value.pointer (some ⟨p136, o137, none⟩)) ∧ Seg wx p136 o137 (Face.enc y142)), (none, fun _ O uu wx => uu = (Value.agg (Face.enc y142).toArray)), (none, fun _ O uu wx => uu = (Value.agg (Face.enc x18).toArray)), (none, fun _ O uu wx => uu = (Value.bool (decide (y142 = x18)))), (none, fun _ O uu wx => uu = (Value.bool b144))] [[], [0], [1], [2], [2], [2, 4], [2, 3, 5], [2, 6], [2], [2, 7, 8], [2, 9]] [10] nb (fun _ h => h.elim) mixed rfl rfl rfl rfl ?_ ?_
       ·
        refine Each.consA ⟨fun _ _ _ _ _ _ h => h, fun h => absurd rfl h, fun O wk hO ck => ?_⟩ ?_
        ·
         have ah0 := slRep.ch k_Face_pos ah0 ck
         have h8 := h8.ch0 ck
         have k41 := k41.ch0 ck
         have c131 := c131.then0 ck
         refine rl_move rfl rfl ?_
         exact RL.nil ⟨_, rfl, Ch.refl, rfl⟩
        refine Each.consA ⟨fun _ _ _ _ _ _ h => h, fun h => absurd rfl h, fun O wk hO ck => ?_⟩ ?_
        ·
         have ah0 := slRep.ch k_Face_pos ah0 ck
         have h8 := h8.ch0 ck
         have k41 := k41.ch0 ck
         have c131 := c131.then0 ck
         refine Need.one rfl rfl rfl ?_
         rintro _ e148
         obtain rfl := e148.symm
         refine rl_bin rfl rfl B.gtr rfl ?_
         exact RL.nil ⟨_, rfl, Ch.refl, rfl⟩
        refine Each.consA ⟨fun _ _ _ _ _ _ h => h, fun h => absurd rfl h, fun O wk hO ck => ?_⟩ ?_
        ·
         have ah0 := slRep.ch k_Face_pos ah0 ck
         have h8 := h8.ch0 ck
         have k41 := k41.ch0 ck
         have c131 := c131.then0 ck
         refine Need.one rfl rfl rfl ?_
         rintro _ e149
         obtain rfl := e149.symm
         refine rl_move rfl rfl ?_
         exact RL.nil ⟨_, rfl, Ch.refl, rfl⟩
        refine Each.consA ⟨fun _ _ _ _ _ _ h => h, fun h => absurd rfl h, fun O wk hO ck => ?_⟩ ?_
        ·
         have ah0 := slRep.ch k_Face_pos ah0 ck
         have h8 := h8.ch0 ck
         have k41 := k41.ch0 ck
         have c131 := c131.then0 ck
         refine Need.one rfl rfl rfl ?_
         rintro _ e150
         obtain rfl := e150.symm
         refine RL.yes rfl rfl rfl hg146 ?_
         refine rl_move rfl rfl ?_
         exact RL.nil ⟨_, rfl, Ch.refl, rfl⟩
        refine Each.consA ⟨fun _ _ _ _ _ _ h => h, fun h => absurd rfl h, fun O wk hO ck => ?_⟩ ?_
        ·
         have ah0 := slRep.ch k_Face_pos ah0 ck
         have h8 := h8.ch0 ck
         have k41 := k41.ch0 ck
         have c131 := c131.then0 ck
         refine Need.one rfl rfl rfl ?_
         rintro _ e151
         obtain rfl := e151.symm
         refine RL.yes rfl rfl rfl hg146 ?_
         refine rl_move rfl rfl ?_
         exact RL.nil ⟨_, rfl, Ch.refl, rfl⟩
        refine Each.consA ⟨fun _ _ _ _ _ _ h => h, fun h => absurd rfl h, fun O wk hO ck => ?_⟩ ?_
        ·
         have ah0 := slRep.ch k_Face_pos ah0 ck
         have h8 := h8.ch0 ck
         have k41 := k41.ch0 ck
         have c131 := c131.then0 ck
         refine Need.one rfl rfl rfl ?_
         rintro _ e152
         obtain rfl := e152.symm
         refine Need.one rfl rfl rfl ?_
         rintro _ e153
         obtain rfl := e153.symm
         refine RL.yes rfl rfl rfl hg146 ?_
         refine rl_bin rfl rfl B.sub rfl ?_
         exact RL.nil ⟨_, rfl, Ch.refl, rfl⟩
        refine Each.consA ⟨fun _ _ _ _ _ cc hh => by obtain ⟨p136, o137, e, hs140⟩ := hh; exact ⟨p136, o137, e, hs140.ch0 cc⟩, fun h => absurd rfl h, fun O wk hO ck => ?_⟩ ?_
        ·
         have ah0 := slRep.ch k_Face_pos ah0 ck
         have h8 := h8.ch0 ck
         have k41 := k41.ch0 ck
         have c131 := c131.then0 ck
         refine Need.one rfl rfl rfl ?_
         rintro _ e154
         obtain rfl := e154.symm
         refine Need.one rfl rfl rfl ?_
         rintro _ e155
         obtain rfl := e155.symm
         refine Need.one rfl rfl rfl ?_
         rintro _ e156
         obtain rfl := e156.symm
         refine RL.yes rfl rfl rfl hg146 ?_
         refine rl_ixOR rfl h8 rfl (ixO_get hy143) k_Face_pos Try.underlying44 Try.sizeOf62 rfl ?_
         intro p157 o158 cs159 hr160 hs161 hg162
         obtain rfl := hr160
         exact RL.nil ⟨_, rfl, Ch.refl, ⟨p157, o158, rfl, hs161⟩⟩
        refine Each.consA ⟨fun _ _ _ _ _ _ h => h, fun h => absurd rfl h, fun O wk hO ck => ?_⟩ ?_
        ·
         have ah0 := slRep.ch k_Face_pos ah0 ck
         have h8 := h8.ch0 ck
         have k41 := k41.ch0 ck
         have c131 := c131.then0 ck
         refine Need.one rfl rfl rfl ?_
         rintro _ e163
         obtain rfl := e163.symm
         refine Need.one rfl rfl rfl ?_
         rintro _ ⟨p136, o137, e164, hs140⟩
         obtain rfl := e164.symm
         refine RL.yes rfl rfl rfl hg146 ?_
         refine rl_loadA (cs := (Face.enc y142)) rfl Try.isAgg62 Try.sizeOf62 (hs140) rfl rfl ?_
         exact RL.nil ⟨_, rfl, Ch.refl, rfl⟩
        refine Each.consA ⟨fun _ _ _ _ _ _ h => h, fun h => absurd rfl h, fun O wk hO ck => ?_⟩ ?_
        ·
         have ah0 := slRep.ch k_Face_pos ah0 ck
         have h8 := h8.ch0 ck
         have k41 := k41.ch0 ck
         have c131 := c131.then0 ck
         refine Need.one rfl rfl rfl ?_
         rintro _ e165
         obtain rfl := e165.symm
         refine RL.yes rfl rfl rfl hg146 ?_
         refine rl_loadA (cs := (Face.enc x18)) rfl Try.isAgg62 Try.sizeOf62 (k41.segAt 0 23) rfl rfl ?_
         exact RL.nil ⟨_, rfl, Ch.refl, rfl⟩
        refine Each.consA ⟨fun _ _ _ _ _ _ h => h, fun h => absurd rfl h, fun O wk hO ck => ?_⟩ ?_
        ·
         have ah0 := slRep.ch k_Face_pos ah0 ck
         have h8 := h8.ch0 ck
         have k41 := k41.ch0 ck
         have c131 := c131.then0 ck
         refine Need.one rfl rfl rfl ?_
         rintro _ e166
         obtain rfl := e166.symm
         refine Need.one rfl rfl rfl ?_
         rintro _ e167
         obtain rfl := e167.symm
         refine Need.one rfl rfl rfl ?_
         rintro _ e168
         obtain rfl := e168.symm
         refine RL.yes rfl rfl rfl hg146 ?_
         refine rl_bin rfl rfl (eql62 y142 x18) rfl ?_
         exact RL.nil ⟨_, rfl, Ch.refl, rfl⟩
        refine Each.consA ⟨fun _ _ _ _ _ _ h => h, fun h => absurd rfl h, fun O wk hO ck => ?_⟩ ?_
        ·
         refine Need.one rfl rfl rfl ?_
         rintro _ e169
         obtain rfl := e169.symm
         refine Need.one rfl rfl rfl ?_
         rintro _ e170
         obtain rfl := e170.symm
         refine rl_pickT rfl hg146 rfl rfl ?_
         exact RL.nil ⟨_, rfl, Ch.refl, congrArg Value.bool (Option.some.inj hs147)⟩
        trivial
       ·
        intro hvO173 OpO173 O173 w171 hO174 c172 hN175
        have ah0 := slRep.ch k_Face_pos ah0 c172
        have h8 := h8.ch0 c172
        have k41 := k41.ch0 c172
        have c131 := c131.then0 c172
        refine Need.one rfl rfl rfl ?_
        rintro _ e176
        obtain rfl := e176.symm
        exact RL.nil ⟨rfl, ⟨rfl, rfl, rfl, rfl, rfl, rfl, rfl, trivial⟩, c172⟩
      ·
       have hs177 := andO_f hg146 hb145
       refine CW.draw 11 [(none, fun _ O uu wx => uu = (Value.int .i64 x43)), (none, fun _ O uu wx => uu = (Value.bool (decide (x43 > 0)))), (none, fun _ O uu wx => uu = (Value.bool (decide (x43 > 0)))), (none, fun _ O uu wx => uu = undef), (none, fun _ O uu wx => uu = undef), (none, fun _ O uu wx => uu = undef), (none, fun _ O uu wx => uu = undef), (none, fun _ O uu wx => uu = undef), (none, fun _ O uu wx => uu = undef), (none, fun _ O uu wx => uu = undef), (none, fun _ O uu wx => uu = (Value.bool b144))] [[], [0], [1], [2], [2], [2], [2], [2], [2], [2], [2]] [10] nb (fun _ h => h.elim) mixed rfl rfl rfl rfl ?_ ?_
       ·
        refine Each.consA ⟨fun _ _ _ _ _ _ h => h, fun h => absurd rfl h, fun O wk hO ck => ?_⟩ ?_
        ·
         have ah0 := slRep.ch k_Face_pos ah0 ck
         have h8 := h8.ch0 ck
         have k41 := k41.ch0 ck
         have c131 := c131.then0 ck
         refine rl_move rfl rfl ?_
         exact RL.nil ⟨_, rfl, Ch.refl, rfl⟩
        refine Each.consA ⟨fun _ _ _ _ _ _ h => h, fun h => absurd rfl h, fun O wk hO ck => ?_⟩ ?_
        ·
         have ah0 := slRep.ch k_Face_pos ah0 ck
         have h8 := h8.ch0 ck
         have k41 := k41.ch0 ck
         have c131 := c131.then0 ck
         refine Need.one rfl rfl rfl ?_
         rintro _ e178
         obtain rfl := e178.symm
         refine rl_bin rfl rfl B.gtr rfl ?_
         exact RL.nil ⟨_, rfl, Ch.refl, rfl⟩
        refine Each.consA ⟨fun _ _ _ _ _ _ h => h, fun h => absurd rfl h, fun O wk hO ck => ?_⟩ ?_
        ·
         have ah0 := slRep.ch k_Face_pos ah0 ck
         have h8 := h8.ch0 ck
         have k41 := k41.ch0 ck
         have c131 := c131.then0 ck
         refine Need.one rfl rfl rfl ?_
         rintro _ e179
         obtain rfl := e179.symm
         refine rl_move rfl rfl ?_
         exact RL.nil ⟨_, rfl, Ch.refl, rfl⟩
        refine Each.consA ⟨fun _ _ _ _ _ _ h => h, fun h => absurd rfl h, fun O wk hO ck => ?_⟩ ?_
        ·
         refine Need.one rfl rfl rfl ?_
         rintro _ e180
         obtain rfl := e180.symm
         refine RL.no rfl rfl rfl hg146 rfl rfl ?_
         exact RL.nil ⟨_, rfl, Ch.refl, rfl⟩
        refine Each.consA ⟨fun _ _ _ _ _ _ h => h, fun h => absurd rfl h, fun O wk hO ck => ?_⟩ ?_
        ·
         refine Need.one rfl rfl rfl ?_
         rintro _ e181
         obtain rfl := e181.symm
         refine RL.no rfl rfl rfl hg146 rfl rfl ?_
         exact RL.nil ⟨_, rfl, Ch.refl, rfl⟩
        refine Each.consA ⟨fun _ _ _ _ _ _ h => h, fun h => absurd rfl h, fun O wk hO ck => ?_⟩ ?_
        ·
         refine Need.one rfl rfl rfl ?_
         rintro _ e182
         obtain rfl := e182.symm
         refine RL.no rfl rfl rfl hg146 rfl rfl ?_
         exact RL.nil ⟨_, rfl, Ch.refl, rfl⟩
        refine Each.consA ⟨fun _ _ _ _ _ _ h => h, fun h => absurd rfl h, fun O wk hO ck => ?_⟩ ?_
        ·
         refine Need.one rfl rfl rfl ?_
         rintro _ e183
         obtain rfl := e183.symm
         refine RL.no rfl rfl rfl hg146 rfl rfl ?_
         exact RL.nil ⟨_, rfl, Ch.refl, rfl⟩
        refine Each.consA ⟨fun _ _ _ _ _ _ h => h, fun h => absurd rfl h, fun O wk hO ck => ?_⟩ ?_
        ·
         refine Need.one rfl rfl rfl ?_
         rintro _ e184
         obtain rfl := e184.symm
         refine RL.no rfl rfl rfl hg146 rfl rfl ?_
         exact RL.nil ⟨_, rfl, Ch.refl, rfl⟩
        refine Each.consA ⟨fun _ _ _ _ _ _ h => h, fun h => absurd rfl h, fun O wk hO ck => ?_⟩ ?_
        ·
         refine Need.one rfl rfl rfl ?_
         rintro _ e185
         obtain rfl := e185.symm
         refine RL.no rfl rfl rfl hg146 rfl rfl ?_
         exact RL.nil ⟨_, rfl, Ch.refl, rfl⟩
        refine Each.consA ⟨fun _ _ _ _ _ _ h => h, fun h => absurd rfl h, fun O wk hO ck => ?_⟩ ?_
        ·
         refine Need.one rfl rfl rfl ?_
         rintro _ e186
         obtain rfl := e186.symm
         refine RL.no rfl rfl rfl hg146 rfl rfl ?_
         exact RL.nil ⟨_, rfl, Ch.refl, rfl⟩
        refine Each.consA ⟨fun _ _ _ _ _ _ h => h, fun h => absurd rfl h, fun O wk hO ck => ?_⟩ ?_
        ·
         refine Need.one rfl rfl rfl ?_
         rintro _ e187
         obtain rfl := e187.symm
         refine rl_pickF rfl hg146 rfl rfl ?_
         exact RL.nil ⟨_, rfl, Ch.refl, congrArg Value.bool (Option.some.inj hs177)⟩
        trivial
       ·
        intro hvO190 OpO190 O190 w188 hO191 c189 hN192
        have ah0 := slRep.ch k_Face_pos ah0 c189
        have h8 := h8.ch0 c189
        have k41 := k41.ch0 c189
        have c131 := c131.then0 c189
        refine Need.one rfl rfl rfl ?_
        rintro _ e193
        obtain rfl := e193.symm
        exact RL.nil ⟨rfl, ⟨rfl, rfl, rfl, rfl, rfl, rfl, rfl, trivial⟩, c189⟩
     ·
      rintro _ w195 ⟨hE194, c196⟩
      have ah0 := slRep.ch k_Face_pos ah0 c196
      have h8 := h8.ch0 c196
      have k41 := k41.ch0 c196
      have c131 := c131.then0 c196
      refine thn_n (CW.sub [(3, v7), (5, (Value.pointer (some ⟨p32, 0, none⟩))), (6, (Value.int .i64 x43)), (8, av0), (9, (Value.int .i64 ((a0.length : Nat) : Int))), (10, (Value.int .i64 ((i10 : Nat) : Int))), (40, (Value.bool b144))] hE194 ?_)
      refine CW.cond (t := b144) rfl (fun q197 => ?_) (fun q197 => ?_)
      ·
       have hb15 := ifT q197 hb15
       refine CW.exit ?_
       refine thn_exit ?_
       refine inB_hit ?_
       refine thn_n ?_
       refine CW.region ?_
       refine rl_inc rfl hat12.lt ah0.big rfl ?_
       refine rl_move rfl rfl ?_
       refine RL.nil ?_
       refine thn_n ?_
       have crf : Ch nb w195 w195 := Ch.refl
       have ah0 := slRep.st k_Face_pos ah0 crf (show ∀ b, b < w195.heap.size → ¬ (un (inBlk (Value.pointer (some ⟨p32, 0, none⟩))) (un (inBlk v7) nb)) b → ¬ nb b ∧ ¬ (un (inBlk v7) nb) b from fun b _ hs => ⟨fun x => x, fun h => hs (un_el h (fun h => (.inr (.inl h))) (fun h => False.elim h))⟩)
       have h8 := h8.st crf (fun _ _ x => x) (show ∀ b, b < w195.heap.size → ¬ (un (inBlk (Value.pointer (some ⟨p32, 0, none⟩))) (un (inBlk v7) nb)) b → ¬ nb b ∧ ¬ (un (inBlk v7) nb) b from fun b _ hs => ⟨fun x => x, fun h => hs (un_el h (fun h => (.inr (.inl h))) (fun h => False.elim h))⟩) (fun b h => (.inl h))
       have c131 := c131.then0 crf
       have hLn := runAO_next hL11 hq14 hb15
       exact ⟨rest25.length, Nat.lt_succ_self _, [(8, av0), (9, (Value.int .i64 ((a0.length : Nat) : Int))), (3, v7), (10, (Value.int .i64 ((i10 + 1 : Nat) : Int)))], ⟨rfl, rfl, rfl, rfl, trivial⟩, ⟨rest25, i10 + 1, x6, v7, rfl, rfl, c131, hat12.next, hLn, ah0, h8⟩⟩
      ·
       have hb15 := ifF q197 hb15
       refine CW.skip ?_
       refine thn_n ?_
       have h8 := SlO.read (S' := (un (inBlk (Value.pointer (some ⟨p32, 0, none⟩))) nb)) k_Face_pos h8 (fun b hs h => hs (un_el h (fun h => (.inl h)) (fun h => False.elim h))) (fun b hb => fun h => un_el h (fun h => (disSym d44) b hb h) (fun h => h))
       have crf : Ch nb w195 w195 := Ch.refl
       have ah0 := slRep.st k_Face_pos ah0 crf (show ∀ b, b < w195.heap.size → ¬ (un (inBlk (Value.pointer (some ⟨p32, 0, none⟩))) (un (inBlk v7) nb)) b → ¬ nb b ∧ ¬ (un (inBlk (Value.pointer (some ⟨p32, 0, none⟩))) nb) b from fun b _ hs => ⟨fun x => x, fun h => hs (un_el h (fun h => (.inl h)) (fun h => False.elim h))⟩)
       have k41 := k41.ch0 crf
       have c131 := c131.then0 crf
       obtain ⟨y204, hy205, hb15⟩ := bindS hb15
       obtain ⟨z216, hz217, hb15⟩ := bindS hb15
       obtain ⟨z232, hz233, hb15⟩ := bindS hb15
       obtain ⟨y235, hy236, hb15⟩ := bindS hb15
       obtain ⟨z247, hz248, hb15⟩ := bindS hb15
       refine CW.draw 11 [(some false, fun _ O uu wx => ∃ (v198 : Value), uu = v198 ∧ O = (inBlk v198) ∧ SlO k_Face 62 F w.heap.size (un (inBlk v198) (un (inBlk (Value.pointer (some ⟨p32, 0, none⟩))) nb)) wx [] v198), (none, fun _ O uu wx => uu = v7), (none, fun _ O uu wx => uu = (Value.int .i64 x43)), (none, fun _ O uu wx => ∃ (v206 : Value), uu = v206 ∧ slRep k_Face (G F w.heap.size (un O (un (inBlk (Value.pointer (some ⟨p32, 0, none⟩))) nb))) wx y204 v206), (some true, fun hv O uu wx => ∃ (v210 : Value) (v198 : Value), hv = [v198, v210] ∧ uu = v210 ∧ O = (inBlk v210) ∧ SlO k_Face 62 F w.heap.size (un (inBlk v210) (un (inBlk (Value.pointer (some ⟨p32, 0, none⟩))) nb)) wx ([] ++ y204) v210), (none, fun _ O uu wx => uu = (Value.agg (Face.enc x18).toArray)), (none, fun _ O uu wx => ∃ (v219 : Value), uu = v219 ∧ slRep k_Face (G F w.heap.size (un O (un (inBlk (Value.pointer (some ⟨p32, 0, none⟩))) nb))) wx [x18] v219), (some true, fun hv O uu wx => ∃ (v226 : Value) (v198 : Value) (v210 : Value), hv = [v198, v210, v226] ∧ uu = v226 ∧ O = (inBlk v226) ∧ SlO k_Face 62 F w.heap.size (un (inBlk v226) (un (inBlk (Value.pointer (some ⟨p32, 0, none⟩))) nb)) wx (([] ++ y204) ++ [x18]) v226), (none, fun _ O uu wx => uu = v7), (none, fun _ O uu wx => uu = (Value.int .i64 x43)), (none, fun _ O uu wx => ∃ (v237 : Value), uu = v237 ∧ slRep k_Face (G F w.heap.size (un O (un (inBlk (Value.pointer (some ⟨p32, 0, none⟩))) nb))) wx y235 v237)] [[], [], [], [1, 2], [0, 3], [], [5], [4, 6], [], [], [8, 9]] [7, 10] nb (fun _ h => h.elim) mixed rfl rfl rfl rfl ?_ ?_
       ·
        refine Each.consP ⟨fun _ O _ wx wy cc hh => by obtain ⟨v198, e, rfl, ck0_0⟩ := hh; exact ⟨v198, e, rfl, ck0_0.ch0 cc⟩, fun O wk hO ck => ?_⟩ ?_
        ·
         have d250 : ∀ b, inBlk (Value.pointer (some ⟨p32, 0, none⟩)) b → ¬ O b := fun b hu ho => (hO b ho).1.elim (fun h => h.elim) (fun h => Nat.not_le_of_lt (k41.ltp b hu) h)
         have ha251 : ∀ b, b < w195.heap.size → ¬ (un (inBlk (Value.pointer (some ⟨p32, 0, none⟩))) nb) b → ¬ nb b ∧ ¬ (un O (un (inBlk (Value.pointer (some ⟨p32, 0, none⟩))) nb)) b := fun b hb hs => ⟨fun h => h, fun h => un_el h (fun ho => (hO b ho).1.elim (fun h => h.elim) (fun h => Nat.not_le_of_lt hb h)) (fun h => un_el h (fun h => hs (.inl h)) (fun h => False.elim h))⟩
         have ah0 := slRep.st k_Face_pos ah0 ck ha251
         have k41 := k41.ch0 ck
         have h8 := slRep.st k_Face_pos h8 ck ha251
         have c131 := c131.then0 ck
         refine rl_bslice (k := k_Face) (F := F) (B := w.heap.size) (S := (un O (un (inBlk (Value.pointer (some ⟨p32, 0, none⟩))) nb))) ([] : List Face) rfl k_Face_pos Try.underlying44 Try.sizeOf62 Try.zeroValue62 rfl rfl trivial c131.size (un_lt (fun b h => (hO b h).2) (un_lt k41.ltp nbS)) rfl ?_
         intro v252 w253 c254 hf255 h256
         have d257 : ∀ b, inBlk v252 b → ¬ O b := disNew hf255 (fun b h => (hO b h).2)
         have d258 : ∀ b, inBlk v252 b → ¬ inBlk (Value.pointer (some ⟨p32, 0, none⟩)) b := disNew hf255 k41.ltp
         have ah0 := slRep.st k_Face_pos ah0 c254 (admNew hf255 (fun _ x => x))
         have k41 := k41.ch0 c254
         have h8 := slRep.st k_Face_pos h8 c254 (admNew hf255 (fun _ x => x))
         have c131 := c131.then0 c254
         have hb259 : ∀ b, (inBlk v252) b → wk.heap.size ≤ b ∧ b < w253.heap.size := fun b h => ⟨hf255 b h, (fun b hb => (h256.lt b hb).2) b h⟩
         have h260 := SlO.reS (S' := (un (inBlk v252) (un (inBlk (Value.pointer (some ⟨p32, 0, none⟩))) nb))) (fun h => h) h256 (fun b h => .inl h)
         exact RL.nil ⟨_, (inBlk v252), rfl, hb259, c254, ⟨v252, rfl, rfl, h260⟩⟩
        refine Each.consA ⟨fun _ _ _ _ _ _ h => h, fun _ _ _ _ _ _ _ _ _ _ _ h => h, fun O wk hO ck => ?_⟩ ?_
        ·
         have d261 : ∀ b, inBlk (Value.pointer (some ⟨p32, 0, none⟩)) b → ¬ O b := fun b hu ho => (hO b ho).1.elim (fun h => h.elim) (fun h => Nat.not_le_of_lt (k41.ltp b hu) h)
         have ha262 : ∀ b, b < w195.heap.size → ¬ (un (inBlk (Value.pointer (some ⟨p32, 0, none⟩))) nb) b → ¬ nb b ∧ ¬ (un O (un (inBlk (Value.pointer (some ⟨p32, 0, none⟩))) nb)) b := fun b hb hs => ⟨fun h => h.elim, fun h => un_el h (fun ho => (hO b ho).1.elim (fun h => h.elim) (fun h => Nat.not_le_of_lt hb h)) (fun h => un_el h (fun h => hs (.inl h)) (fun h => False.elim h))⟩
         have ah0 := slRep.st k_Face_pos ah0 ck ha262
         have k41 := k41.ch0 ck
         have h8 := slRep.st k_Face_pos h8 ck ha262
         have c131 := c131.then0 ck
         refine rl_move rfl rfl ?_
         exact RL.nil ⟨_, rfl, Ch.refl, rfl⟩
        refine Each.consA ⟨fun _ _ _ _ _ _ h => h, fun _ _ _ _ _ _ _ _ _ _ _ h => h, fun O wk hO ck => ?_⟩ ?_
        ·
         have d263 : ∀ b, inBlk (Value.pointer (some ⟨p32, 0, none⟩)) b → ¬ O b := fun b hu ho => (hO b ho).1.elim (fun h => h.elim) (fun h => Nat.not_le_of_lt (k41.ltp b hu) h)
         have ha264 : ∀ b, b < w195.heap.size → ¬ (un (inBlk (Value.pointer (some ⟨p32, 0, none⟩))) nb) b → ¬ nb b ∧ ¬ (un O (un (inBlk (Value.pointer (some ⟨p32, 0, none⟩))) nb)) b := fun b hb hs => ⟨fun h => h.elim, fun h => un_el h (fun ho => (hO b ho).1.elim (fun h => h.elim) (fun h => Nat.not_le_of_lt hb h)) (fun h => un_el h (fun h => hs (.inl h)) (fun h => False.elim h))⟩
         have ah0 := slRep.st k_Face_pos ah0 ck ha264
         have k41 := k41.ch0 ck
         have h8 := slRep.st k_Face_pos h8 ck ha264
         have c131 := c131.then0 ck
         refine rl_move rfl rfl ?_
         exact RL.nil ⟨_, rfl, Ch.refl, rfl⟩
        refine Each.consA ⟨fun _ _ _ _ _ cc hh => by obtain ⟨v206, e, h207⟩ := hh; exact ⟨v206, e, slRep.ch k_Face_pos h207 cc⟩, fun _ _ O O' D _ wx wy hD hO' cc hh => by obtain ⟨v206, e, h207⟩ := hh; have ad := admGh (S := (un (inBlk (Value.pointer (some ⟨p32, 0, none⟩))) nb)) hD hO'; exact ⟨v206, e, slRep.st k_Face_pos h207 cc ad⟩, fun O wk hO ck => ?_⟩ ?_
        ·
         have d265 : ∀ b, inBlk (Value.pointer (some ⟨p32, 0, none⟩)) b → ¬ O b := fun b hu ho => (hO b ho).1.elim (fun h => h.elim) (fun h => Nat.not_le_of_lt (k41.ltp b hu) h)
         have ha266 : ∀ b, b < w195.heap.size → ¬ (un (inBlk (Value.pointer (some ⟨p32, 0, none⟩))) nb) b → ¬ nb b ∧ ¬ (un O (un (inBlk (Value.pointer (some ⟨p32, 0, none⟩))) nb)) b := fun b hb hs => ⟨fun h => h.elim, fun h => un_el h (fun ho => (hO b ho).1.elim (fun h => h.elim) (fun h => Nat.not_le_of_lt hb h)) (fun h => un_el h (fun h => hs (.inl h)) (fun h => False.elim h))⟩
         have ah0 := slRep.st k_Face_pos ah0 ck ha266
         have k41 := k41.ch0 ck
         have h8 := slRep.st k_Face_pos h8 ck ha266
         have c131 := c131.then0 ck
         refine Need.one rfl rfl rfl ?_
         rintro _ e267
         obtain rfl := e267.symm
         refine Need.one rfl rfl rfl ?_
         rintro _ e268
         obtain rfl := e268.symm
         refine rl_cutR (kl := .i64) (kh := .i64) none (some x43) rfl h8 k_Face_pos trivial rfl hy205 Try.underlying44 Try.sizeOf62 rfl ?_
         intro v269 h270
         exact RL.nil ⟨_, rfl, Ch.refl, ⟨v269, rfl, h270⟩⟩
        refine Each.consO ⟨fun _ O _ wx wy cc hh => by obtain ⟨v210, v198, eh, e, rfl, ck4_0⟩ := hh; exact ⟨v210, v198, eh, e, rfl, ck4_0.ch0 cc⟩, fun hv Op O wk hO ck hO0 => ?_⟩ ?_
        ·
         obtain ⟨hl, hBg⟩ := hO0 rfl
         refine Need.made rfl rfl rfl rfl ?_
         rintro _ ⟨v198, e271, eO272, ck0_0⟩ hh273
         obtain rfl := e271.symm
         have io274 : ∀ b, inBlk v198 b → _ := fun b h => (Eq.mpr (congrFun eO272 b) h)
         have hf275 : ∀ b, inBlk v198 b → w195.heap.size ≤ b := fun b h => (hBg.2.2.1 _ b (io274 b h)).1
         obtain rfl := hist_eq [v198] hv hl ⟨hh273, trivial⟩
         have d276 : ∀ b, inBlk v198 b → ¬ inBlk (Value.pointer (some ⟨p32, 0, none⟩)) b := disNew hf275 k41.ltp
         have ah0 := slRep.st k_Face_pos ah0 hBg.2.1 (show ∀ b, b < w195.heap.size → ¬ (un (inBlk (Value.pointer (some ⟨p32, 0, none⟩))) nb) b → ¬ nb b ∧ ¬ (un (inBlk v198) (un (inBlk (Value.pointer (some ⟨p32, 0, none⟩))) nb)) b from fun b hb hs => ⟨fun x => x, fun h => un_el h (fun h => Nat.not_le_of_lt hb (hf275 b h)) (fun h => hs h)⟩)
         have k41 := k41.ch0 hBg.2.1
         have h8 := slRep.st k_Face_pos h8 hBg.2.1 (show ∀ b, b < w195.heap.size → ¬ (un (inBlk (Value.pointer (some ⟨p32, 0, none⟩))) nb) b → ¬ nb b ∧ ¬ (un (inBlk v198) (un (inBlk (Value.pointer (some ⟨p32, 0, none⟩))) nb)) b from fun b hb hs => ⟨fun x => x, fun h => un_el h (fun h => Nat.not_le_of_lt hb (hf275 b h)) (fun h => hs h)⟩)
         have c131 := c131.then0 hBg.2.1
         have ck0_0 := SlO.reS (S' := (un (inBlk v198) (un (inBlk (Value.pointer (some ⟨p32, 0, none⟩))) nb))) (fun h => h) ck0_0 (fun b h => (.inl h))
         refine Need.one rfl rfl rfl ?_
         rintro _ ⟨v206, e277, h207⟩
         obtain rfl := e277.symm
         have h207 := slRep.wk (F' := (G F w.heap.size (un (inBlk v198) (un (inBlk (Value.pointer (some ⟨p32, 0, none⟩))) nb)))) k_Face_pos h207 (fun b _ hf => ⟨hf.1, fun h => hf.2 (un_el h (fun h => (.inl ((hBg.1 b).2 (.inr ⟨_, inPre rfl, io274 b h⟩)))) (fun h => un_el h (fun h => (.inr (.inl h))) (fun h => False.elim h)))⟩)
         have hl := (apO_get hz217).1
         refine rl_append (k := k_Face) (T := 62) (F := F) (B := w.heap.size) (S := (un (inBlk v198) (un (inBlk (Value.pointer (some ⟨p32, 0, none⟩))) nb))) (S2 := (un (inBlk (Value.pointer (some ⟨p32, 0, none⟩))) nb)) (fun v => (un (inBlk v) (un (inBlk (Value.pointer (some ⟨p32, 0, none⟩))) nb))) rfl rfl k_Face_pos ap44 ck0_0 h207 (fun _ => Iff.rfl) (fun _ _ => Iff.rfl) hl c131.size (un_lt (fun b hb => (ck0_0.lt b hb).2) (un_lt k41.ltp nbS)) rfl ?_
         intro v280 w281 h282 c283 hf284 ha285
         have d286 : ∀ b, inBlk v280 b → ¬ inBlk (Value.pointer (some ⟨p32, 0, none⟩)) b := disApp hf284 d276 k41.ltp
         have ah0 := slRep.st k_Face_pos ah0 c283 ha285
         have k41 := k41.ch c283 ((fun b hb h => (disSym d276) b hb h) _ rfl)
         have h8 := slRep.st k_Face_pos h8 c283 ha285
         have h207 := slRep.st k_Face_pos h207 c283 ha285
         have c131 := c131.then c283 (fun i hi h => absurd ((fun b hb => (ck0_0.lt b hb).1) i h) (Nat.not_le_of_lt hi))
         have hb287 : ∀ b, (inBlk v280) b → (O b ∨ wk.heap.size ≤ b) ∧ b < w281.heap.size := fun b h => ⟨(hf284 b h).elim (fun h => .inl (((hBg.1 b).2 (.inr ⟨_, inPre rfl, io274 b h⟩)))) (fun h => .inr (Nat.le_trans (Nat.le_refl _) h)), (fun b hb => (h282.lt b hb).2) b h⟩
         exact RL.nil ⟨_, (inBlk v280), rfl, hb287, (c283.mono (fun b _ h => ((hBg.1 b).2 (.inr ⟨_, inPre rfl, io274 b h⟩)))), ⟨v280, v198, rfl, rfl, rfl, h282⟩⟩
        refine Each.consA ⟨fun _ _ _ _ _ _ h => h, fun _ _ _ _ _ _ _ _ _ _ _ h => h, fun O wk hO ck => ?_⟩ ?_
        ·
         have d288 : ∀ b, inBlk (Value.pointer (some ⟨p32, 0, none⟩)) b → ¬ O b := fun b hu ho => (hO b ho).1.elim (fun h => h.elim) (fun h => Nat.not_le_of_lt (k41.ltp b hu) h)
         have ha289 : ∀ b, b < w195.heap.size → ¬ (un (inBlk (Value.pointer (some ⟨p32, 0, none⟩))) nb) b → ¬ nb b ∧ ¬ (un O (un (inBlk (Value.pointer (some ⟨p32, 0, none⟩))) nb)) b := fun b hb hs => ⟨fun h => h.elim, fun h => un_el h (fun ho => (hO b ho).1.elim (fun h => h.elim) (fun h => Nat.not_le_of_lt hb h)) (fun h => un_el h (fun h => hs (.inl h)) (fun h => False.elim h))⟩
         have ah0 := slRep.st k_Face_pos ah0 ck ha289
         have k41 := k41.ch0 ck
         have h8 := slRep.st k_Face_pos h8 ck ha289
         have c131 := c131.then0 ck
         refine rl_loadA (cs := (Face.enc x18)) rfl Try.isAgg62 Try.sizeOf62 (k41.segAt 0 23) rfl rfl ?_
         exact RL.nil ⟨_, rfl, Ch.refl, rfl⟩
        refine Each.consA ⟨fun _ _ _ _ _ cc hh => by obtain ⟨v219, e, h223⟩ := hh; exact ⟨v219, e, slRep.ch k_Face_pos h223 cc⟩, fun _ _ O O' D _ wx wy hD hO' cc hh => by obtain ⟨v219, e, h223⟩ := hh; have ad := admGh (S := (un (inBlk (Value.pointer (some ⟨p32, 0, none⟩))) nb)) hD hO'; exact ⟨v219, e, slRep.st k_Face_pos h223 cc ad⟩, fun O wk hO ck => ?_⟩ ?_
        ·
         have d290 : ∀ b, inBlk (Value.pointer (some ⟨p32, 0, none⟩)) b → ¬ O b := fun b hu ho => (hO b ho).1.elim (fun h => h.elim) (fun h => Nat.not_le_of_lt (k41.ltp b hu) h)
         have ha291 : ∀ b, b < w195.heap.size → ¬ (un (inBlk (Value.pointer (some ⟨p32, 0, none⟩))) nb) b → ¬ nb b ∧ ¬ (un O (un (inBlk (Value.pointer (some ⟨p32, 0, none⟩))) nb)) b := fun b hb hs => ⟨fun h => h.elim, fun h => un_el h (fun ho => (hO b ho).1.elim (fun h => h.elim) (fun h => Nat.not_le_of_lt hb h)) (fun h => un_el h (fun h => hs (.inl h)) (fun h => False.elim h))⟩
         have ah0 := slRep.st k_Face_pos ah0 ck ha291
         have k41 := k41.ch0 ck
         have h8 := slRep.st k_Face_pos h8 ck ha291
         have c131 := c131.then0 ck
         refine Need.one rfl rfl rfl ?_
         rintro _ e292
         obtain rfl := e292.symm
         refine rl_bslice (k := k_Face) (F := F) (B := w.heap.size) (S := (un O (un (inBlk (Value.pointer (some ⟨p32, 0, none⟩))) nb))) ([x18] : List Face) rfl k_Face_pos Try.underlying44 Try.sizeOf62 Try.zeroValue62 rfl rfl ⟨rfl, rfl, trivial⟩ c131.size (un_lt (fun b h => (hO b h).2) (un_lt k41.ltp nbS)) rfl ?_
         intro v293 w294 c295 hf296 h297
         have h297 := h297.readNew k_Face_pos hf296 (un_lt (fun b h => (hO b h).2) (un_lt k41.ltp nbS))
         have ah0 := slRep.ch k_Face_pos ah0 c295
         have k41 := k41.ch0 c295
         have h8 := slRep.ch k_Face_pos h8 c295
         have c131 := c131.then0 c295
         exact RL.nil ⟨_, rfl, c295, ⟨v293, rfl, h297⟩⟩
        refine Each.consO ⟨fun _ O _ wx wy cc hh => by obtain ⟨v226, v198, v210, eh, e, rfl, ck7_0⟩ := hh; exact ⟨v226, v198, v210, eh, e, rfl, ck7_0.ch0 cc⟩, fun hv Op O wk hO ck hO0 => ?_⟩ ?_
        ·
         have ol298 : ∀ b, inBlk (Value.pointer (some ⟨p32, 0, none⟩)) b → b < w195.heap.size := k41.ltp
         refine Need.here rfl rfl rfl rfl ?_
         rintro _ ⟨v210, v198, rfl, e299, rfl, ck4_0⟩
         obtain rfl := e299.symm
         have d300 : ∀ b, inBlk v210 b → ¬ inBlk (Value.pointer (some ⟨p32, 0, none⟩)) b := fun b h hu => (hO b h).1.elim (fun h => h.elim) (fun h => Nat.not_le_of_lt (ol298 b hu) h)
         have ha301 : ∀ b, b < w195.heap.size → ¬ (un (inBlk (Value.pointer (some ⟨p32, 0, none⟩))) nb) b → ¬ nb b ∧ ¬ (un (inBlk v210) (un (inBlk (Value.pointer (some ⟨p32, 0, none⟩))) nb)) b := fun b hb hs => ⟨fun h => h.elim, fun h => un_el h (fun h => (hO b h).1.elim (fun h => h.elim) (fun h => Nat.not_le_of_lt hb h)) (fun h => un_el h (fun h => hs (.inl h)) (fun h => False.elim h))⟩
         have ah0 := slRep.st k_Face_pos ah0 ck ha301
         have k41 := k41.ch0 ck
         have h8 := slRep.st k_Face_pos h8 ck ha301
         have c131 := c131.then0 ck
         refine Need.one rfl rfl rfl ?_
         rintro _ ⟨v219, e302, h223⟩
         obtain rfl := e302.symm
         have h223 := slRep.wk (F' := (G F w.heap.size (un (inBlk v210) (un (inBlk (Value.pointer (some ⟨p32, 0, none⟩))) nb)))) k_Face_pos h223 (fun b _ hf => ⟨hf.1, fun h => hf.2 (un_el h (fun h => (.inl h)) (fun h => un_el h (fun h => (.inr (.inl h))) (fun h => False.elim h)))⟩)
         have hl := (apO_get hz233).1
         refine rl_append (k := k_Face) (T := 62) (F := F) (B := w.heap.size) (S := (un (inBlk v210) (un (inBlk (Value.pointer (some ⟨p32, 0, none⟩))) nb))) (S2 := (un (inBlk (Value.pointer (some ⟨p32, 0, none⟩))) nb)) (fun v => (un (inBlk v) (un (inBlk (Value.pointer (some ⟨p32, 0, none⟩))) nb))) rfl rfl k_Face_pos ap44 ck4_0 h223 (fun _ => Iff.rfl) (fun _ _ => Iff.rfl) hl c131.size (un_lt (fun b hb => (ck4_0.lt b hb).2) (un_lt k41.ltp nbS)) rfl ?_
         intro v305 w306 h307 c308 hf309 ha310
         have d311 : ∀ b, inBlk v305 b → ¬ inBlk (Value.pointer (some ⟨p32, 0, none⟩)) b := disApp hf309 d300 k41.ltp
         have ah0 := slRep.st k_Face_pos ah0 c308 ha310
         have k41 := k41.ch c308 ((fun b hb h => (disSym d300) b hb h) _ rfl)
         have h8 := slRep.st k_Face_pos h8 c308 ha310
         have h223 := slRep.st k_Face_pos h223 c308 ha310
         have c131 := c131.then c308 (fun i hi h => absurd ((fun b hb => (ck4_0.lt b hb).1) i h) (Nat.not_le_of_lt hi))
         have hb312 : ∀ b, (inBlk v305) b → ((inBlk v210) b ∨ wk.heap.size ≤ b) ∧ b < w306.heap.size := fun b h => ⟨(hf309 b h).elim (fun h => .inl (h)) (fun h => .inr (Nat.le_trans (Nat.le_refl _) h)), (fun b hb => (h307.lt b hb).2) b h⟩
         exact RL.nil ⟨_, (inBlk v305), rfl, hb312, (c308.mono (fun b _ h => h)), ⟨v305, v198, v210, rfl, rfl, rfl, h307⟩⟩
        refine Each.consA ⟨fun _ _ _ _ _ _ h => h, fun _ _ _ _ _ _ _ _ _ _ _ h => h, fun O wk hO ck => ?_⟩ ?_
        ·
         have d313 : ∀ b, inBlk (Value.pointer (some ⟨p32, 0, none⟩)) b → ¬ O b := fun b hu ho => (hO b ho).1.elim (fun h => h.elim) (fun h => Nat.not_le_of_lt (k41.ltp b hu) h)
         have ha314 : ∀ b, b < w195.heap.size → ¬ (un (inBlk (Value.pointer (some ⟨p32, 0, none⟩))) nb) b → ¬ nb b ∧ ¬ (un O (un (inBlk (Value.pointer (some ⟨p32, 0, none⟩))) nb)) b := fun b hb hs => ⟨fun h => h.elim, fun h => un_el h (fun ho => (hO b ho).1.elim (fun h => h.elim) (fun h => Nat.not_le_of_lt hb h)) (fun h => un_el h (fun h => hs (.inl h)) (fun h => False.elim h))⟩
         have ah0 := slRep.st k_Face_pos ah0 ck ha314
         have k41 := k41.ch0 ck
         have h8 := slRep.st k_Face_pos h8 ck ha314
         have c131 := c131.then0 ck
         refine rl_move rfl rfl ?_
         exact RL.nil ⟨_, rfl, Ch.refl, rfl⟩
        refine Each.consA ⟨fun _ _ _ _ _ _ h => h, fun _ _ _ _ _ _ _ _ _ _ _ h => h, fun O wk hO ck => ?_⟩ ?_
        ·
         have d315 : ∀ b, inBlk (Value.pointer (some ⟨p32, 0, none⟩)) b → ¬ O b := fun b hu ho => (hO b ho).1.elim (fun h => h.elim) (fun h => Nat.not_le_of_lt (k41.ltp b hu) h)
         have ha316 : ∀ b, b < w195.heap.size → ¬ (un (inBlk (Value.pointer (some ⟨p32, 0, none⟩))) nb) b → ¬ nb b ∧ ¬ (un O (un (inBlk (Value.pointer (some ⟨p32, 0, none⟩))) nb)) b := fun b hb hs => ⟨fun h => h.elim, fun h => un_el h (fun ho => (hO b ho).1.elim (fun h => h.elim) (fun h => Nat.not_le_of_lt hb h)) (fun h => un_el h (fun h => hs (.inl h)) (fun h => False.elim h))⟩
         have ah0 := slRep.st k_Face_pos ah0 ck ha316
         have k41 := k41.ch0 ck
         have h8 := slRep.st k_Face_pos h8 ck ha316
         have c131 := c131.then0 ck
         refine rl_move rfl rfl ?_
         exact RL.nil ⟨_, rfl, Ch.refl, rfl⟩
        refine Each.consA ⟨fun _ _ _ _ _ cc hh => by obtain ⟨v237, e, h238⟩ := hh; exact ⟨v237, e, slRep.ch k_Face_pos h238 cc⟩, fun _ _ O O' D _ wx wy hD hO' cc hh => by obtain ⟨v237, e, h238⟩ := hh; have ad := admGh (S := (un (inBlk (Value.pointer (some ⟨p32, 0, none⟩))) nb)) hD hO'; exact ⟨v237, e, slRep.st k_Face_pos h238 cc ad⟩, fun O wk hO ck => ?_⟩ ?_
        ·
         have d317 : ∀ b, inBlk (Value.pointer (some ⟨p32, 0, none⟩)) b → ¬ O b := fun b hu ho => (hO b ho).1.elim (fun h => h.elim) (fun h => Nat.not_le_of_lt (k41.ltp b hu) h)
         have ha318 : ∀ b, b < w195.heap.size → ¬ (un (inBlk (Value.pointer (some ⟨p32, 0, none⟩))) nb) b → ¬ nb b ∧ ¬ (un O (un (inBlk (Value.pointer (some ⟨p32, 0, none⟩))) nb)) b := fun b hb hs => ⟨fun h => h.elim, fun h => un_el h (fun ho => (hO b ho).1.elim (fun h => h.elim) (fun h => Nat.not_le_of_lt hb h)) (fun h => un_el h (fun h => hs (.inl h)) (fun h => False.elim h))⟩
         have ah0 := slRep.st k_Face_pos ah0 ck ha318
         have k41 := k41.ch0 ck
         have h8 := slRep.st k_Face_pos h8 ck ha318
         have c131 := c131.then0 ck
         refine Need.one rfl rfl rfl ?_
         rintro _ e319
         obtain rfl := e319.symm
         refine Need.one rfl rfl rfl ?_
         rintro _ e320
         obtain rfl := e320.symm
         refine rl_cutR (kl := .i64) (kh := .i64) (some x43) none rfl h8 k_Face_pos rfl trivial hy236 Try.underlying44 Try.sizeOf62 rfl ?_
         intro v321 h322
         exact RL.nil ⟨_, rfl, Ch.refl, ⟨v321, rfl, h322⟩⟩
        trivial
       ·
        intro hvO325 OpO325 O325 w323 hO326 c324 hN327
        have ol328 : ∀ b, inBlk (Value.pointer (some ⟨p32, 0, none⟩)) b → b < w195.heap.size := k41.ltp
        refine Need.here rfl rfl rfl rfl ?_
        rintro _ ⟨v226, v198, v210, rfl, e329, rfl, ck7_0⟩
        obtain rfl := e329.symm
        have d330 : ∀ b, inBlk v226 b → ¬ inBlk (Value.pointer (some ⟨p32, 0, none⟩)) b := fun b h hu => (hO326 b h).1.elim (fun h => h.elim) (fun h => Nat.not_le_of_lt (ol328 b hu) h)
        have ha331 : ∀ b, b < w195.heap.size → ¬ (un (inBlk (Value.pointer (some ⟨p32, 0, none⟩))) nb) b → ¬ nb b ∧ ¬ (un (inBlk v226) (un (inBlk (Value.pointer (some ⟨p32, 0, none⟩))) nb)) b := fun b hb hs => ⟨fun h => h.elim, fun h => un_el h (fun h => (hO326 b h).1.elim (fun h => h.elim) (fun h => Nat.not_le_of_lt hb h)) (fun h => un_el h (fun h => hs (.inl h)) (fun h => False.elim h))⟩
        have ah0 := slRep.st k_Face_pos ah0 c324 ha331
        have k41 := k41.ch0 c324
        have h8 := slRep.st k_Face_pos h8 c324 ha331
        have c131 := c131.then0 c324
        refine Need.one rfl rfl rfl ?_
        rintro _ ⟨v237, e332, h238⟩
        obtain rfl := e332.symm
        have h238 := slRep.wk (F' := (G F w.heap.size (un (inBlk v226) (un (inBlk (Value.pointer (some ⟨p32, 0, none⟩))) nb)))) k_Face_pos h238 (fun b _ hf => ⟨hf.1, fun h => hf.2 (un_el h (fun h => (.inl h)) (fun h => un_el h (fun h => (.inr (.inl h))) (fun h => False.elim h)))⟩)
        have hl := (apO_get hz248).1
        refine rl_append (k := k_Face) (T := 62) (F := F) (B := w.heap.size) (S := (un (inBlk v226) (un (inBlk (Value.pointer (some ⟨p32, 0, none⟩))) nb))) (S2 := (un (inBlk (Value.pointer (some ⟨p32, 0, none⟩))) nb)) (fun v => (un (inBlk v) (un (inBlk (Value.pointer (some ⟨p32, 0, none⟩))) nb))) rfl rfl k_Face_pos ap44 ck7_0 h238 (fun _ => Iff.rfl) (fun _ _ => Iff.rfl) hl c131.size (un_lt (fun b hb => (ck7_0.lt b hb).2) (un_lt k41.ltp nbS)) rfl ?_
        intro v335 w336 h337 c338 hf339 ha340
        have d341 : ∀ b, inBlk v335 b → ¬ inBlk (Value.pointer (some ⟨p32, 0, none⟩)) b := disApp hf339 d330 k41.ltp
        have ah0 := slRep.st k_Face_pos ah0 c338 ha340
        have k41 := k41.ch c338 ((fun b hb h => (disSym d330) b hb h) _ rfl)
        have h8 := slRep.st k_Face_pos h8 c338 ha340
        have h238 := slRep.st k_Face_pos h238 c338 ha340
        have c131 := c131.then c338 (fun i hi h => absurd ((fun b hb => (ck7_0.lt b hb).1) i h) (Nat.not_le_of_lt hi))
        refine rl_assign rfl rfl ?_
        refine RL.nil ?_
        refine inB_n ?_
        refine thn_n ?_
        refine CW.region ?_
        refine rl_inc rfl hat12.lt ah0.big rfl ?_
        refine rl_move rfl rfl ?_
        refine RL.nil ?_
        refine thn_n ?_
        have crf : Ch nb w336 w336 := Ch.refl
        have ah0 := slRep.st k_Face_pos ah0 crf (show ∀ b, b < w336.heap.size → ¬ (un (inBlk v335) (un (inBlk (Value.pointer (some ⟨p32, 0, none⟩))) nb)) b → ¬ nb b ∧ ¬ (un (inBlk v335) nb) b from fun b _ hs => ⟨fun x => x, fun h => hs (un_el h (fun h => (.inl h)) (fun h => False.elim h))⟩)
        have h8 := slRep.st k_Face_pos h8 crf (show ∀ b, b < w336.heap.size → ¬ (un (inBlk v335) (un (inBlk (Value.pointer (some ⟨p32, 0, none⟩))) nb)) b → ¬ nb b ∧ ¬ (un (inBlk v335) nb) b from fun b _ hs => ⟨fun x => x, fun h => hs (un_el h (fun h => (.inl h)) (fun h => False.elim h))⟩)
        have h238 := slRep.st k_Face_pos h238 crf (show ∀ b, b < w336.heap.size → ¬ (un (inBlk v335) (un (inBlk (Value.pointer (some ⟨p32, 0, none⟩))) nb)) b → ¬ nb b ∧ ¬ (un (inBlk v335) nb) b from fun b _ hs => ⟨fun x => x, fun h => hs (un_el h (fun h => (.inl h)) (fun h => False.elim h))⟩)
        have h337 := h337.st crf (fun _ _ x => x) (show ∀ b, b < w336.heap.size → ¬ (un (inBlk v335) (un (inBlk (Value.pointer (some ⟨p32, 0, none⟩))) nb)) b → ¬ nb b ∧ ¬ (un (inBlk v335) nb) b from fun b _ hs => ⟨fun x => x, fun h => hs (un_el h (fun h => (.inl h)) (fun h => False.elim h))⟩) (fun b h => (.inl h))
        have c131 := c131.then0 crf
        have hLn := runAO_next hL11 hq14 hb15
        exact ⟨rest25.length, Nat.lt_succ_self _, [(8, av0), (9, (Value.int .i64 ((a0.length : Nat) : Int))), (3, v335), (10, (Value.int .i64 ((i10 + 1 : Nat) : Int)))], ⟨rfl, rfl, rfl, rfl, trivial⟩, ⟨rest25, i10 + 1, (([] ++ y204) ++ [x18]) ++ y235, v335, rfl, rfl, c131, hat12.next, hLn, ah0, h337⟩⟩
   ·
    obtain rfl := hat12.nil q24
    have hLf : x6 = o16 := runAO_done hL11
    refine CW.exit (thn_exit (thn_exit (inB_hit ?_)))
    exact ⟨x6, v7, ⟨rfl, trivial⟩, c21, hLf, ah0, h8⟩
  ·
   rintro _ w343 ⟨x6, v7, hE344, c342, f345, ah0, h8⟩
   subst f345
   refine thn_n (CW.sub [(3, v7)] hE344 ?_)
   refine CW.seq (CW.region ?_)
   refine rl_move rfl rfl ?_
   refine rl_assign rfl rfl ?_
   refine RL.nil ?_
   refine thn_n ?_
   refine CW.ret ?_
   obtain rfl := Option.some.inj hS
   exact ret1 rfl ⟨v7, rfl, h8.out, c342⟩
end Go.Proofs.Ytejkknmedebgnaa
