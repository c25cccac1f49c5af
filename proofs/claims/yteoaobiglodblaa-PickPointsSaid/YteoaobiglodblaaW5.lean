/- The walks through the code: each call comes to its printed function. Written by a program of this session. -/
import Derived.Test.YteoaobiglodblaaM
import Derived.Test.YteoaobiglodblaaL
import Derived.Test.YteoaobiglodblaaW4
namespace Go.Proofs.Yteoaobiglodblaa
open Go K
set_option linter.unusedVariables false
/-- lb/lbref04.Sort -/
theorem ctr39 (F : Nat → Prop) (w : World) (a0 : (List Point)) (av0 : Value) (ah0 : slRep k_Point F w a0 av0) (r : (List Point)) (hs : F39_linkboyref04_Sort a0 = some r) :
    Ret Try.prog 39 #[av0] w fun v w' => ∃ (y0 : Value), v = y0 ∧ SlO k_Point 41 F w.heap.size (inBlk y0) w' r y0 ∧ Ch nb w w' := by
  have hS := hs
  have c0 : Ch nb w w := Ch.refl
  have ah0 := slRep.enter k_Point_pos ah0
  refine Ret.of (n := 55) (args := [_]) (rs := [.tmp 2]) Try.func39 rfl rfl rfl rfl ?_
  refine CW.seq (CW.region ?_)
  refine rl_assign rfl rfl ?_
  refine RL.nil ?_
  refine thn_n ?_
  refine CW.seq (CW.region ?_)
  refine rl_bslice (k := k_Point) (F := F) (B := w.heap.size) (S := nb) ([] : List Point) rfl k_Point_pos Try.underlying53 Try.sizeOf41 Try.zeroValue41 rfl rfl trivial c0.size nbS rfl ?_
  intro v1 w2 c3 hf4 h5
  have ah0 := slRep.st k_Point_pos ah0 c3 (admNew hf4 (fun _ x => x))
  have c0 := c0.then0 c3
  refine rl_assign rfl rfl ?_
  refine RL.nil ?_
  refine thn_n ?_
  refine CW.seq ?_
  refine CW.seq (CW.region ?_)
  refine rl_move rfl rfl ?_
  refine rl_lenR rfl ah0 Try.underlying53 rfl ?_
  refine rl_move rfl rfl ?_
  refine RL.nil ?_
  refine thn_n ?_
  obtain ⟨o16, ho17, hS⟩ := bindS hS
  refine CW.cutB (fun E' w' => ∃ (x6 : (List Point)) (v7 : Value), Sub [(3, v7)] E' ∧ Ch nb w w' ∧ x6 = o16 ∧ slRep k_Point (G F w.heap.size (un (inBlk v7) nb)) w' a0 av0 ∧ SlO k_Point 41 F w.heap.size (un (inBlk v7) nb) w' x6 v7) ?_ ?_
  ·
   refine CW.loopS [(8, av0), (9, (Value.int .i64 ((a0.length : Nat) : Int))), (3, v1), (10, (Value.int .i64 ((0 : Nat) : Int)))] ⟨rfl, rfl, rfl, rfl, trivial⟩ a0.length (fun m E w' => ∃ (rest9 : List Point) (i10 : Nat) (x6 : (List Point)) (v7 : Value), m = rest9.length ∧ E = [(8, av0), (9, (Value.int .i64 ((a0.length : Nat) : Int))), (3, v7), (10, (Value.int .i64 ((i10 : Nat) : Int)))] ∧ Ch nb w w' ∧ At a0 i10 rest9 ∧ runAO F39_linkboyref04_Sort_b1 rest9 x6 = some o16 ∧ slRep k_Point (G F w.heap.size (un (inBlk v7) nb)) w' a0 av0 ∧ SlO k_Point 41 F w.heap.size (un (inBlk v7) nb) w' x6 v7)
       ⟨a0, 0, [], v1, rfl, rfl, c0, At.start, ho17, ah0, h5⟩ ?_
   rintro _ _ w22 ⟨rest9, i10, x6, v7, rfl, rfl, c21, hat12, hL11, ah0, h8⟩
   refine CW.seq (CW.region ?_)
   refine rl_bin rfl rfl B.lss rfl ?_
   refine RL.nil (thn_n ?_)
   refine CW.seq ?_
   refine CW.cond (t := decide (((i10 : Nat) : Int) < ((a0.length : Nat) : Int))) rfl (fun q24 => ?_) (fun q24 => ?_)
   ·
    obtain ⟨x18, rest25, rfl⟩ := hat12.cons q24
    obtain ⟨q13, hq14⟩ := runAO_some hL11
    have hb15 := hq14
    refine CW.skip (thn_n ?_)
    refine CW.seq ?_
    refine CW.block ?_
    refine CW.seq (CW.region ?_)
    refine rl_ixR rfl ah0 rfl hat12.get Try.underlying53 Try.sizeOf41 rfl ?_
    intro p26 o27 cs28 hr29 hs30 hg31
    obtain rfl := hr29
    refine rl_loadA (cs := (Point.enc x18)) rfl Try.isAgg41 Try.sizeOf41 (hs30) rfl rfl ?_
    refine rl_alloc (Point.enc Point.z) Try.zeroValue41 rfl rfl ?_
    intro p32 w33 n34 k35
    have lo36 : ∀ b, inBlk (Value.pointer (some ⟨p32, 0, none⟩)) b → w.heap.size ≤ b := fun b h => Nat.le_trans c21.size (n34.fresh b h)
    have d37 : ∀ b, inBlk (Value.pointer (some ⟨p32, 0, none⟩)) b → ¬ inBlk v7 b := disNew n34.fresh (fun b hb => (h8.lt b hb).2)
    have ah0 := slRep.st k_Point_pos ah0 n34.ch (admNew n34.fresh (fun _ x => x))
    have h8 := h8.st n34.ch (fun _ _ x => x) (admNew n34.fresh (fun _ x => x)) (fun b h => (.inr (.inl h)))
    have c21 := c21.then0 n34.ch
    refine rl_storeA (vs := (Point.enc x18)) rfl rfl (all_one rfl) Try.sizeOf41 rfl k35 rfl ?_
    intro w38 s40 c39 k41
    have ad42 : ∀ b, b < w33.heap.size → ¬ (un (inBlk (Value.pointer (some ⟨p32, 0, none⟩))) (un (inBlk v7) nb)) b → ¬ (inBlk (Value.pointer (some ⟨p32, 0, none⟩))) b ∧ ¬ (un (inBlk (Value.pointer (some ⟨p32, 0, none⟩))) (un (inBlk v7) nb)) b := fun b _ hs => ⟨fun h => hs (.inl h), hs⟩
    have ah0 := slRep.st k_Point_pos ah0 c39 ad42
    have h8 := h8.st c39 (fun b hb h => (disSym d37) b hb h) ad42 (fun b h => (.inr (.inl h)))
    have c21 := c21.then c39 (fun i hi h => absurd (lo36 i h) (Nat.not_le_of_lt hi))
    refine RL.nil ?_
    refine thn_n ?_
    refine CW.seq (CW.region ?_)
    refine rl_move rfl rfl ?_
    refine rl_lenR rfl (SlO.read (S' := (un (inBlk (Value.pointer (some ⟨p32, 0, none⟩))) nb)) k_Point_pos h8 (fun b hs h => hs (un_el h (fun h => (.inl h)) (fun h => False.elim h))) (fun b hb => fun h => un_el h (fun h => (disSym d37) b hb h) (fun h => h))) Try.underlying53 rfl ?_
    refine rl_assign rfl rfl ?_
    refine RL.nil ?_
    refine thn_n ?_
    refine CW.seq ?_
    obtain ⟨o52, ho53, hb15⟩ := bindS hb15
    refine CW.cutB (fun E' w' => ∃ (x43 : Int), Sub [(3, v7), (5, (Value.pointer (some ⟨p32, 0, none⟩))), (8, av0), (9, (Value.int .i64 ((a0.length : Nat) : Int))), (10, (Value.int .i64 ((i10 : Nat) : Int))), (6, (Value.int .i64 x43))] E' ∧ Ch nb w w' ∧ Lp.fin x43 = o52 ∧ slRep k_Point (G F w.heap.size (un (inBlk (Value.pointer (some ⟨p32, 0, none⟩))) (un (inBlk v7) nb))) w' a0 av0 ∧ SlO k_Point 41 F w.heap.size (un (inBlk (Value.pointer (some ⟨p32, 0, none⟩))) (un (inBlk v7) nb)) w' x6 v7 ∧ Blk w' p32 41 (Point.enc x18) ∧ (∀ b, inBlk (Value.pointer (some ⟨p32, 0, none⟩)) b → ¬ inBlk v7 b)) ?_ ?_
    ·
     refine CW.loopS [(3, v7), (5, (Value.pointer (some ⟨p32, 0, none⟩))), (8, av0), (9, (Value.int .i64 ((a0.length : Nat) : Int))), (10, (Value.int .i64 ((i10 : Nat) : Int))), (6, (Value.int .i64 ((x6.length : Nat) : Int)))] ⟨rfl, rfl, rfl, rfl, rfl, rfl, trivial⟩ FUEL (fun m E w' => ∃ (x43 : Int), E = [(3, v7), (5, (Value.pointer (some ⟨p32, 0, none⟩))), (8, av0), (9, (Value.int .i64 ((a0.length : Nat) : Int))), (10, (Value.int .i64 ((i10 : Nat) : Int))), (6, (Value.int .i64 x43))] ∧ Ch nb w w' ∧ runW (F39_linkboyref04_Sort_b2 x6 x18) m x43 = some o52 ∧ slRep k_Point (G F w.heap.size (un (inBlk (Value.pointer (some ⟨p32, 0, none⟩))) (un (inBlk v7) nb))) w' a0 av0 ∧ SlO k_Point 41 F w.heap.size (un (inBlk (Value.pointer (some ⟨p32, 0, none⟩))) (un (inBlk v7) nb)) w' x6 v7 ∧ Blk w' p32 41 (Point.enc x18) ∧ (∀ b, inBlk (Value.pointer (some ⟨p32, 0, none⟩)) b → ¬ inBlk v7 b))
         ⟨((x6.length : Nat) : Int), rfl, c21, ho53, ah0, h8, k41, d37⟩ ?_
     rintro _ _ w58 ⟨x43, rfl, c57, hL47, ah0, h8, k41, d44⟩
     obtain ⟨k56, q49, rfl, hq50⟩ := runW_some hL47
     have hb51 := hq50
     refine CW.seq ?_
     refine CW.seq ?_
     obtain ⟨b72, hb73, hb51⟩ := bindS hb51
     refine CW.cutN (fun E' w' => Sub [(3, v7), (5, (Value.pointer (some ⟨p32, 0, none⟩))), (6, (Value.int .i64 x43)), (8, av0), (9, (Value.int .i64 ((a0.length : Nat) : Int))), (10, (Value.int .i64 ((i10 : Nat) : Int))), (27, (Value.bool b72))] E' ∧ Ch nb w58 w') ?_ ?_
     ·
      rcases Bool.eq_false_or_eq_true (decide (x43 > 0)) with hg74 | hg74
      ·
       have hs75 := andO_t hg74 hb73
       obtain ⟨y66, hy67, hs75⟩ := bindS hs75
       obtain ⟨y70, hy71, hs75⟩ := bindS hs75
       refine CW.draw 12 [(none, fun _ O uu wx => uu = (Value.int .i64 x43)), (none, fun _ O uu wx => uu = (Value.bool (decide (x43 > 0)))), (none, fun _ O uu wx => uu = (Value.bool (decide (x43 > 0)))), (none, fun _ O uu wx => uu = (Value.agg (Point.enc x18).toArray)), (none, fun _ O uu wx => uu = v7), (none, fun _ O uu wx => uu = (Value.int .i64 x43)), (none, fun _ O uu wx => uu = (Value.int .i64 (IntKind.i64.wrap (x43 - 1)))), (none, fun _ O uu wx => ∃ (p60 : Nat) (o61 : Nat), uu = (Value.pointer (some ⟨p60, o61, none⟩)) ∧ Seg wx p60 o61 (Point.enc y66)), (none, fun _ O uu wx => uu = (Value.agg (Point.enc y66).toArray)), (none, fun _ O uu wx => uu = (Value.int .i64 y70)), (none, fun _ O uu wx => uu = (Value.bool (decide (y70 < 0)))), (none, fun _ O uu wx => uu = (Value.bool b72))] [[], [0], [1], [2], [2], [2], [2, 5], [2, 4, 6], [2, 7], [2, 3, 8], [2, 9], [2, 10]] [11] nb (fun _ h => h.elim) mixed rfl rfl rfl rfl ?_ ?_
       ·
        refine Each.consA ⟨fun _ _ _ _ _ _ h => h, fun h => absurd rfl h, fun O wk hO ck => ?_⟩ ?_
        ·
         have ah0 := slRep.ch k_Point_pos ah0 ck
         have h8 := h8.ch0 ck
         have k41 := k41.ch0 ck
         have c57 := c57.then0 ck
         refine rl_move rfl rfl ?_
         exact RL.nil ⟨_, rfl, Ch.refl, rfl⟩
        refine Each.consA ⟨fun _ _ _ _ _ _ h => h, fun h => absurd rfl h, fun O wk hO ck => ?_⟩ ?_
        ·
         have ah0 := slRep.ch k_Point_pos ah0 ck
         have h8 := h8.ch0 ck
         have k41 := k41.ch0 ck
         have c57 := c57.then0 ck
         refine Need.one rfl rfl rfl ?_
         rintro _ e76
         obtain rfl := e76.symm
         refine rl_bin rfl rfl B.gtr rfl ?_
         exact RL.nil ⟨_, rfl, Ch.refl, rfl⟩
        refine Each.consA ⟨fun _ _ _ _ _ _ h => h, fun h => absurd rfl h, fun O wk hO ck => ?_⟩ ?_
        ·
         have ah0 := slRep.ch k_Point_pos ah0 ck
         have h8 := h8.ch0 ck
         have k41 := k41.ch0 ck
         have c57 := c57.then0 ck
         refine Need.one rfl rfl rfl ?_
         rintro _ e77
         obtain rfl := e77.symm
         refine rl_move rfl rfl ?_
         exact RL.nil ⟨_, rfl, Ch.refl, rfl⟩
        refine Each.consA ⟨fun _ _ _ _ _ _ h => h, fun h => absurd rfl h, fun O wk hO ck => ?_⟩ ?_
        ·
         have ah0 := slRep.ch k_Point_pos ah0 ck
         have h8 := h8.ch0 ck
         have k41 := k41.ch0 ck
         have c57 := c57.then0 ck
         refine Need.one rfl rfl rfl ?_
         rintro _ e78
         obtain rfl := e78.symm
         refine RL.yes rfl rfl rfl hg74 ?_
         refine rl_loadA (cs := (Point.enc x18)) rfl Try.isAgg41 Try.sizeOf41 (k41.segAt 0 18) rfl rfl ?_
         exact RL.nil ⟨_, rfl, Ch.refl, rfl⟩
        refine Each.consA ⟨fun _ _ _ _ _ _ h => h, fun h => absurd rfl h, fun O wk hO ck => ?_⟩ ?_
        ·
         have ah0 := slRep.ch k_Point_pos ah0 ck
         have h8 := h8.ch0 ck
         have k41 := k41.ch0 ck
         have c57 := c57.then0 ck
         refine Need.one rfl rfl rfl ?_
         rintro _ e79
         obtain rfl := e79.symm
         refine RL.yes rfl rfl rfl hg74 ?_
         refine rl_move rfl rfl ?_
         exact RL.nil ⟨_, rfl, Ch.refl, rfl⟩
        refine Each.consA ⟨fun _ _ _ _ _ _ h => h, fun h => absurd rfl h, fun O wk hO ck => ?_⟩ ?_
        ·
         have ah0 := slRep.ch k_Point_pos ah0 ck
         have h8 := h8.ch0 ck
         have k41 := k41.ch0 ck
         have c57 := c57.then0 ck
         refine Need.one rfl rfl rfl ?_
         rintro _ e80
         obtain rfl := e80.symm
         refine RL.yes rfl rfl rfl hg74 ?_
         refine rl_move rfl rfl ?_
         exact RL.nil ⟨_, rfl, Ch.refl, rfl⟩
        refine Each.consA ⟨fun _ _ _ _ _ _ h => h, fun h => absurd rfl h, fun O wk hO ck => ?_⟩ ?_
        ·
         have ah0 := slRep.ch k_Point_pos ah0 ck
         have h8 := h8.ch0 ck
         have k41 := k41.ch0 ck
         have c57 := c57.then0 ck
         refine Need.one rfl rfl rfl ?_
         rintro _ e81
         obtain rfl := e81.symm
         refine Need.one rfl rfl rfl ?_
         rintro _ e82
         obtain rfl := e82.symm
         refine RL.yes rfl rfl rfl hg74 ?_
         refine rl_bin rfl rfl B.sub rfl ?_
         exact RL.nil ⟨_, rfl, Ch.refl, rfl⟩
        refine Each.consA ⟨fun _ _ _ _ _ cc hh => by obtain ⟨p60, o61, e, hs64⟩ := hh; exact ⟨p60, o61, e, hs64.ch0 cc⟩, fun h => absurd rfl h, fun O wk hO ck => ?_⟩ ?_
        ·
         have ah0 := slRep.ch k_Point_pos ah0 ck
         have h8 := h8.ch0 ck
         have k41 := k41.ch0 ck
         have c57 := c57.then0 ck
         refine Need.one rfl rfl rfl ?_
         rintro _ e83
         obtain rfl := e83.symm
         refine Need.one rfl rfl rfl ?_
         rintro _ e84
         obtain rfl := e84.symm
         refine Need.one rfl rfl rfl ?_
         rintro _ e85
         obtain rfl := e85.symm
         refine RL.yes rfl rfl rfl hg74 ?_
         refine rl_ixOR rfl h8 rfl (ixO_get hy67) k_Point_pos Try.underlying53 Try.sizeOf41 rfl ?_
         intro p86 o87 cs88 hr89 hs90 hg91
         obtain rfl := hr89
         exact RL.nil ⟨_, rfl, Ch.refl, ⟨p86, o87, rfl, hs90⟩⟩
        refine Each.consA ⟨fun _ _ _ _ _ _ h => h, fun h => absurd rfl h, fun O wk hO ck => ?_⟩ ?_
        ·
         have ah0 := slRep.ch k_Point_pos ah0 ck
         have h8 := h8.ch0 ck
         have k41 := k41.ch0 ck
         have c57 := c57.then0 ck
         refine Need.one rfl rfl rfl ?_
         rintro _ e92
         obtain rfl := e92.symm
         refine Need.one rfl rfl rfl ?_
         rintro _ ⟨p60, o61, e93, hs64⟩
         obtain rfl := e93.symm
         refine RL.yes rfl rfl rfl hg74 ?_
         refine rl_loadA (cs := (Point.enc y66)) rfl Try.isAgg41 Try.sizeOf41 (hs64) rfl rfl ?_
         exact RL.nil ⟨_, rfl, Ch.refl, rfl⟩
        refine Each.consA ⟨fun _ _ _ _ _ _ h => h, fun h => absurd rfl h, fun O wk hO ck => ?_⟩ ?_
        ·
         have ah0 := slRep.ch k_Point_pos ah0 ck
         have h8 := h8.ch0 ck
         have k41 := k41.ch0 ck
         have c57 := c57.then0 ck
         refine Need.one rfl rfl rfl ?_
         rintro _ e94
         obtain rfl := e94.symm
         refine Need.one rfl rfl rfl ?_
         rintro _ e95
         obtain rfl := e95.symm
         refine Need.one rfl rfl rfl ?_
         rintro _ e96
         obtain rfl := e96.symm
         refine RL.yes rfl rfl rfl hg74 ?_
         refine rl_callF rfl en58 rfl (ctr58 (G F w.heap.size (un (inBlk (Value.pointer (some ⟨p32, 0, none⟩))) (un (inBlk v7) nb))) wk x18 y66 y70 hy71) ?_
         rintro _ w97 ⟨rfl, c98⟩
         have ah0 := slRep.ch k_Point_pos ah0 c98
         have h8 := h8.ch0 c98
         have k41 := k41.ch0 c98
         have c57 := c57.then0 c98
         exact RL.nil ⟨_, rfl, c98, rfl⟩
        refine Each.consA ⟨fun _ _ _ _ _ _ h => h, fun h => absurd rfl h, fun O wk hO ck => ?_⟩ ?_
        ·
         have ah0 := slRep.ch k_Point_pos ah0 ck
         have h8 := h8.ch0 ck
         have k41 := k41.ch0 ck
         have c57 := c57.then0 ck
         refine Need.one rfl rfl rfl ?_
         rintro _ e99
         obtain rfl := e99.symm
         refine Need.one rfl rfl rfl ?_
         rintro _ e100
         obtain rfl := e100.symm
         refine RL.yes rfl rfl rfl hg74 ?_
         refine rl_bin rfl rfl B.lss rfl ?_
         exact RL.nil ⟨_, rfl, Ch.refl, rfl⟩
        refine Each.consA ⟨fun _ _ _ _ _ _ h => h, fun h => absurd rfl h, fun O wk hO ck => ?_⟩ ?_
        ·
         refine Need.one rfl rfl rfl ?_
         rintro _ e101
         obtain rfl := e101.symm
         refine Need.one rfl rfl rfl ?_
         rintro _ e102
         obtain rfl := e102.symm
         refine rl_pickT rfl hg74 rfl rfl ?_
         exact RL.nil ⟨_, rfl, Ch.refl, congrArg Value.bool (Option.some.inj hs75)⟩
        trivial
       ·
        intro hvO105 OpO105 O105 w103 hO106 c104 hN107
        have ah0 := slRep.ch k_Point_pos ah0 c104
        have h8 := h8.ch0 c104
        have k41 := k41.ch0 c104
        have c57 := c57.then0 c104
        refine Need.one rfl rfl rfl ?_
        rintro _ e108
        obtain rfl := e108.symm
        exact RL.nil ⟨rfl, ⟨rfl, rfl, rfl, rfl, rfl, rfl, rfl, trivial⟩, c104⟩
      ·
       have hs109 := andO_f hg74 hb73
       refine CW.draw 12 [(none, fun _ O uu wx => uu = (Value.int .i64 x43)), (none, fun _ O uu wx => uu = (Value.bool (decide (x43 > 0)))), (none, fun _ O uu wx => uu = (Value.bool (decide (x43 > 0)))), (none, fun _ O uu wx => uu = undef), (none, fun _ O uu wx => uu = undef), (none, fun _ O uu wx => uu = undef), (none, fun _ O uu wx => uu = undef), (none, fun _ O uu wx => uu = undef), (none, fun _ O uu wx => uu = undef), (none, fun _ O uu wx => uu = undef), (none, fun _ O uu wx => uu = undef), (none, fun _ O uu wx => uu = (Value.bool b72))] [[], [0], [1], [2], [2], [2], [2], [2], [2], [2], [2], [2]] [11] nb (fun _ h => h.elim) mixed rfl rfl rfl rfl ?_ ?_
       ·
        refine Each.consA ⟨fun _ _ _ _ _ _ h => h, fun h => absurd rfl h, fun O wk hO ck => ?_⟩ ?_
        ·
         have ah0 := slRep.ch k_Point_pos ah0 ck
         have h8 := h8.ch0 ck
         have k41 := k41.ch0 ck
         have c57 := c57.then0 ck
         refine rl_move rfl rfl ?_
         exact RL.nil ⟨_, rfl, Ch.refl, rfl⟩
        refine Each.consA ⟨fun _ _ _ _ _ _ h => h, fun h => absurd rfl h, fun O wk hO ck => ?_⟩ ?_
        ·
         have ah0 := slRep.ch k_Point_pos ah0 ck
         have h8 := h8.ch0 ck
         have k41 := k41.ch0 ck
         have c57 := c57.then0 ck
         refine Need.one rfl rfl rfl ?_
         rintro _ e110
         obtain rfl := e110.symm
         refine rl_bin rfl rfl B.gtr rfl ?_
         exact RL.nil ⟨_, rfl, Ch.refl, rfl⟩
        refine Each.consA ⟨fun _ _ _ _ _ _ h => h, fun h => absurd rfl h, fun O wk hO ck => ?_⟩ ?_
        ·
         have ah0 := slRep.ch k_Point_pos ah0 ck
         have h8 := h8.ch0 ck
         have k41 := k41.ch0 ck
         have c57 := c57.then0 ck
         refine Need.one rfl rfl rfl ?_
         rintro _ e111
         obtain rfl := e111.symm
         refine rl_move rfl rfl ?_
         exact RL.nil ⟨_, rfl, Ch.refl, rfl⟩
        refine Each.consA ⟨fun _ _ _ _ _ _ h => h, fun h => absurd rfl h, fun O wk hO ck => ?_⟩ ?_
        ·
         refine Need.one rfl rfl rfl ?_
         rintro _ e112
         obtain rfl := e112.symm
         refine RL.no rfl rfl rfl hg74 rfl rfl ?_
         exact RL.nil ⟨_, rfl, Ch.refl, rfl⟩
        refine Each.consA ⟨fun _ _ _ _ _ _ h => h, fun h => absurd rfl h, fun O wk hO ck => ?_⟩ ?_
        ·
         refine Need.one rfl rfl rfl ?_
         rintro _ e113
         obtain rfl := e113.symm
         refine RL.no rfl rfl rfl hg74 rfl rfl ?_
         exact RL.nil ⟨_, rfl, Ch.refl, rfl⟩
        refine Each.consA ⟨fun _ _ _ _ _ _ h => h, fun h => absurd rfl h, fun O wk hO ck => ?_⟩ ?_
        ·
         refine Need.one rfl rfl rfl ?_
         rintro _ e114
         obtain rfl := e114.symm
         refine RL.no rfl rfl rfl hg74 rfl rfl ?_
         exact RL.nil ⟨_, rfl, Ch.refl, rfl⟩
        refine Each.consA ⟨fun _ _ _ _ _ _ h => h, fun h => absurd rfl h, fun O wk hO ck => ?_⟩ ?_
        ·
         refine Need.one rfl rfl rfl ?_
         rintro _ e115
         obtain rfl := e115.symm
         refine RL.no rfl rfl rfl hg74 rfl rfl ?_
         exact RL.nil ⟨_, rfl, Ch.refl, rfl⟩
        refine Each.consA ⟨fun _ _ _ _ _ _ h => h, fun h => absurd rfl h, fun O wk hO ck => ?_⟩ ?_
        ·
         refine Need.one rfl rfl rfl ?_
         rintro _ e116
         obtain rfl := e116.symm
         refine RL.no rfl rfl rfl hg74 rfl rfl ?_
         exact RL.nil ⟨_, rfl, Ch.refl, rfl⟩
        refine Each.consA ⟨fun _ _ _ _ _ _ h => h, fun h => absurd rfl h, fun O wk hO ck => ?_⟩ ?_
        ·
         refine Need.one rfl rfl rfl ?_
         rintro _ e117
         obtain rfl := e117.symm
         refine RL.no rfl rfl rfl hg74 rfl rfl ?_
         exact RL.nil ⟨_, rfl, Ch.refl, rfl⟩
        refine Each.consA ⟨fun _ _ _ _ _ _ h => h, fun h => absurd rfl h, fun O wk hO ck => ?_⟩ ?_
        ·
         refine Need.one rfl rfl rfl ?_
         rintro _ e118
         obtain rfl := e118.symm
         refine RL.no rfl rfl rfl hg74 rfl rfl ?_
         exact RL.nil ⟨_, rfl, Ch.refl, rfl⟩
        refine Each.consA ⟨fun _ _ _ _ _ _ h => h, fun h => absurd rfl h, fun O wk hO ck => ?_⟩ ?_
        ·
         refine Need.one rfl rfl rfl ?_
         rintro _ e119
         obtain rfl := e119.symm
         refine RL.no rfl rfl rfl hg74 rfl rfl ?_
         exact RL.nil ⟨_, rfl, Ch.refl, rfl⟩
        refine Each.consA ⟨fun _ _ _ _ _ _ h => h, fun h => absurd rfl h, fun O wk hO ck => ?_⟩ ?_
        ·
         refine Need.one rfl rfl rfl ?_
         rintro _ e120
         obtain rfl := e120.symm
         refine rl_pickF rfl hg74 rfl rfl ?_
         exact RL.nil ⟨_, rfl, Ch.refl, congrArg Value.bool (Option.some.inj hs109)⟩
        trivial
       ·
        intro hvO123 OpO123 O123 w121 hO124 c122 hN125
        have ah0 := slRep.ch k_Point_pos ah0 c122
        have h8 := h8.ch0 c122
        have k41 := k41.ch0 c122
        have c57 := c57.then0 c122
        refine Need.one rfl rfl rfl ?_
        rintro _ e126
        obtain rfl := e126.symm
        exact RL.nil ⟨rfl, ⟨rfl, rfl, rfl, rfl, rfl, rfl, rfl, trivial⟩, c122⟩
     ·
      rintro _ w128 ⟨hE127, c129⟩
      have ah0 := slRep.ch k_Point_pos ah0 c129
      have h8 := h8.ch0 c129
      have k41 := k41.ch0 c129
      have c57 := c57.then0 c129
      refine thn_n (CW.sub [(3, v7), (5, (Value.pointer (some ⟨p32, 0, none⟩))), (6, (Value.int .i64 x43)), (8, av0), (9, (Value.int .i64 ((a0.length : Nat) : Int))), (10, (Value.int .i64 ((i10 : Nat) : Int))), (27, (Value.bool b72))] hE127 ?_)
      refine CW.cond (t := b72) rfl (fun q130 => ?_) (fun q130 => ?_)
      ·
       have hb51 := ifT q130 hb51
       refine CW.skip ?_
       refine thn_n ?_
       refine CW.block ?_
       refine CW.region ?_
       refine rl_move rfl rfl ?_
       refine rl_bin rfl rfl B.sub rfl ?_
       refine rl_assign rfl rfl ?_
       refine RL.nil ?_
       refine inB_n ?_
       refine thn_n ?_
       have hLn := runW_next hL47 hq50 hb51
       exact ⟨k56, Nat.lt_succ_self _, [(3, v7), (5, (Value.pointer (some ⟨p32, 0, none⟩))), (8, av0), (9, (Value.int .i64 ((a0.length : Nat) : Int))), (10, (Value.int .i64 ((i10 : Nat) : Int))), (6, (Value.int .i64 (IntKind.i64.wrap (x43 - 1))))], ⟨rfl, rfl, rfl, rfl, rfl, rfl, trivial⟩, ⟨IntKind.i64.wrap (x43 - 1), rfl, c57, hLn, ah0, h8, k41, d44⟩⟩
      ·
       have hb51 := ifF q130 hb51
       refine CW.exit ?_
       refine thn_exit ?_
       refine thn_exit ?_
       refine inB_hit ?_
       have hLf := runW_fin hL47 hq50 hb51
       exact ⟨x43, ⟨rfl, rfl, rfl, rfl, rfl, rfl, trivial⟩, c57, hLf, ah0, h8, k41, d44⟩
    ·
     rintro _ w132 ⟨x43, hE133, c131, f134, ah0, h8, k41, d44⟩
     have hb15 := finS f134 hb15
     refine thn_n (CW.sub [(3, v7), (5, (Value.pointer (some ⟨p32, 0, none⟩))), (8, av0), (9, (Value.int .i64 ((a0.length : Nat) : Int))), (10, (Value.int .i64 ((i10 : Nat) : Int))), (6, (Value.int .i64 x43))] hE133 ?_)
     refine CW.seq ?_
     refine CW.seq ?_
     obtain ⟨b144, hb145, hb15⟩ := bindS hb15
     refine CW.cutN (fun E' w' => Sub [(3, v7), (5, (Value.pointer (some ⟨p32, 0, none⟩))), (6, (Value.int .i64 x43)), (8, av0), (9, (Value.int .i64 ((a0.length : Nat) : Int))), (10, (Value.int .i64 ((i10 : Nat) : Int))), (40, (Value.bool b144))] E' ∧ Ch nb w132 w') ?_ ?_
     ·
      rcases Bool.eq_false_or_eq_true (decide (x43 > 0)) with hg146 | hg146
      ·
       have hs147 := andO_t hg146 hb145
       obtain ⟨y142, hy143, hs147⟩ := bindS hs147
       refine CW.draw 11 [(none, fun _ O uu wx => uu = (Value.int .i64 x43)), (none, fun _ O uu wx => uu = (Value.bool (decide (x43 > 0)))), (none, fun _ O uu wx => uu = (Value.bool (decide (x43 > 0)))), (none, fun _ O uu wx => uu = v7), (none, fun _ O uu wx => uu = (Value.int .i64 x43)), (none, fun _ O uu wx => uu = (Value.int .i64 (IntKind.i64.wrap (x43 - 1)))), (none, fun _ O uu wx => ∃ (p136 : Nat) (o137 : Nat), uu = (Value.pointer (some ⟨p136, o137, none⟩)) ∧ Seg wx p136 o137 (Point.enc y142)), (none, fun _ O uu wx => uu = (Value.agg (Point.enc y142).toArray)), (none, fun _ O uu wx => uu = (Value.agg (Point.enc x18).toArray)), (none, fun _ O uu wx => uu = (Value.bool (decide (y142 = x18)))), (none, fun _ O uu wx => uu = (Value.bool b144))] [[], [0], [1], [2], [2], [2, 4], [2, 3, 5], [2, 6], [2], [2, 7, 8], [2, 9]] [10] nb (fun _ h => h.elim) mixed rfl rfl rfl rfl ?_ ?_
       ·
        refine Each.consA ⟨fun _ _ _ _ _ _ h => h, fun h => absurd rfl h, fun O wk hO ck => ?_⟩ ?_
        ·
         have ah0 := slRep.ch k_Point_pos ah0 ck
         have h8 := h8.ch0 ck
         have k41 := k41.ch0 ck
         have c131 := c131.then0 ck
         refine rl_move rfl rfl ?_
         exact RL.nil ⟨_, rfl, Ch.refl, rfl⟩
        refine Each.consA ⟨fun _ _ _ _ _ _ h => h, fun h => absurd rfl h, fun O wk hO ck => ?_⟩ ?_
        ·
         have ah0 := slRep.ch k_Point_pos ah0 ck
         have h8 := h8.ch0 ck
         have k41 := k41.ch0 ck
         have c131 := c131.then0 ck
         refine Need.one rfl rfl rfl ?_
         rintro _ e148
         obtain rfl := e148.symm
         refine rl_bin rfl rfl B.gtr rfl ?_
         exact RL.nil ⟨_, rfl, Ch.refl, rfl⟩
        refine Each.consA ⟨fun _ _ _ _ _ _ h => h, fun h => absurd rfl h, fun O wk hO ck => ?_⟩ ?_
        ·
         have ah0 := slRep.ch k_Point_pos ah0 ck
         have h8 := h8.ch0 ck
         have k41 := k41.ch0 ck
         have c131 := c131.then0 ck
         refine Need.one rfl rfl rfl ?_
         rintro _ e149
         obtain rfl := e149.symm
         refine rl_move rfl rfl ?_
         exact RL.nil ⟨_, rfl, Ch.refl, rfl⟩
        refine Each.consA ⟨fun _ _ _ _ _ _ h => h, fun h => absurd rfl h, fun O wk hO ck => ?_⟩ ?_
        ·
         have ah0 := slRep.ch k_Point_pos ah0 ck
         have h8 := h8.ch0 ck
         have k41 := k41.ch0 ck
         have c131 := c131.then0 ck
         refine Need.one rfl rfl rfl ?_
         rintro _ e150
         obtain rfl := e150.symm
         refine RL.yes rfl rfl rfl hg146 ?_
         refine rl_move rfl rfl ?_
         exact RL.nil ⟨_, rfl, Ch.refl, rfl⟩
        refine Each.consA ⟨fun _ _ _ _ _ _ h => h, fun h => absurd rfl h, fun O wk hO ck => ?_⟩ ?_
        ·
         have ah0 := slRep.ch k_Point_pos ah0 ck
         have h8 := h8.ch0 ck
         have k41 := k41.ch0 ck
         have c131 := c131.then0 ck
         refine Need.one rfl rfl rfl ?_
         rintro _ e151
         obtain rfl := e151.symm
         refine RL.yes rfl rfl rfl hg146 ?_
         refine rl_move rfl rfl ?_
         exact RL.nil ⟨_, rfl, Ch.refl, rfl⟩
        refine Each.consA ⟨fun _ _ _ _ _ _ h => h, fun h => absurd rfl h, fun O wk hO ck => ?_⟩ ?_
        ·
         have ah0 := slRep.ch k_Point_pos ah0 ck
         have h8 := h8.ch0 ck
         have k41 := k41.ch0 ck
         have c131 := c131.then0 ck
         refine Need.one rfl rfl rfl ?_
         rintro _ e152
         obtain rfl := e152.symm
         refine Need.one rfl rfl rfl ?_
         rintro _ e153
         obtain rfl := e153.symm
         refine RL.yes rfl rfl rfl hg146 ?_
         refine rl_bin rfl rfl B.sub rfl ?_
         exact RL.nil ⟨_, rfl, Ch.refl, rfl⟩
        refine Each.consA ⟨fun _ _ _ _ _ cc hh => by obtain ⟨p136, o137, e, hs140⟩ := hh; exact ⟨p136, o137, e, hs140.ch0 cc⟩, fun h => absurd rfl h, fun O wk hO ck => ?_⟩ ?_
        ·
         have ah0 := slRep.ch k_Point_pos ah0 ck
         have h8 := h8.ch0 ck
         have k41 := k41.ch0 ck
         have c131 := c131.then0 ck
         refine Need.one rfl rfl rfl ?_
         rintro _ e154
         obtain rfl := e154.symm
         refine Need.one rfl rfl rfl ?_
         rintro _ e155
         obtain rfl := e155.symm
         refine Need.one rfl rfl rfl ?_
         rintro _ e156
         obtain rfl := e156.symm
         refine RL.yes rfl rfl rfl hg146 ?_
         refine rl_ixOR rfl h8 rfl (ixO_get hy143) k_Point_pos Try.underlying53 Try.sizeOf41 rfl ?_
         intro p157 o158 cs159 hr160 hs161 hg162
         obtain rfl := hr160
         exact RL.nil ⟨_, rfl, Ch.refl, ⟨p157, o158, rfl, hs161⟩⟩
        refine Each.consA ⟨fun _ _ _ _ _ _ h => h, fun h => absurd rfl h, fun O wk hO ck => ?_⟩ ?_
        ·
         have ah0 := slRep.ch k_Point_pos ah0 ck
         have h8 := h8.ch0 ck
         have k41 := k41.ch0 ck
         have c131 := c131.then0 ck
         refine Need.one rfl rfl rfl ?_
         rintro _ e163
         obtain rfl := e163.symm
         refine Need.one rfl rfl rfl ?_
         rintro _ ⟨p136, o137, e164, hs140⟩
         obtain rfl := e164.symm
         refine RL.yes rfl rfl rfl hg146 ?_
         refine rl_loadA (cs := (Point.enc y142)) rfl Try.isAgg41 Try.sizeOf41 (hs140) rfl rfl ?_
         exact RL.nil ⟨_, rfl, Ch.refl, rfl⟩
        refine Each.consA ⟨fun _ _ _ _ _ _ h => h, fun h => absurd rfl h, fun O wk hO ck => ?_⟩ ?_
        ·
         have ah0 := slRep.ch k_Point_pos ah0 ck
         have h8 := h8.ch0 ck
         have k41 := k41.ch0 ck
         have c131 := c131.then0 ck
         refine Need.one rfl rfl rfl ?_
         rintro _ e165
         obtain rfl := e165.symm
         refine RL.yes rfl rfl rfl hg146 ?_
         refine rl_loadA (cs := (Point.enc x18)) rfl Try.isAgg41 Try.sizeOf41 (k41.segAt 0 18) rfl rfl ?_
         exact RL.nil ⟨_, rfl, Ch.refl, rfl⟩
        refine Each.consA ⟨fun _ _ _ _ _ _ h => h, fun h => absurd rfl h, fun O wk hO ck => ?_⟩ ?_
        ·
         have ah0 := slRep.ch k_Point_pos ah0 ck
         have h8 := h8.ch0 ck
         have k41 := k41.ch0 ck
         have c131 := c131.then0 ck
         refine Need.one rfl rfl rfl ?_
         rintro _ e166
         obtain rfl := e166.symm
         refine Need.one rfl rfl rfl ?_
         rintro _ e167
         obtain rfl := e167.symm
         refine Need.one rfl rfl rfl ?_
         rintro _ e168
         obtain rfl := e168.symm
         refine RL.yes rfl rfl rfl hg146 ?_
         refine rl_bin rfl rfl (eql41 y142 x18) rfl ?_
         exact RL.nil ⟨_, rfl, Ch.refl, rfl⟩
        refine Each.consA ⟨fun _ _ _ _ _ _ h => h, fun h => absurd rfl h, fun O wk hO ck => ?_⟩ ?_
        ·
         refine Need.one rfl rfl rfl ?_
         rintro _ e169
         obtain rfl := e169.symm
         refine Need.one rfl rfl rfl ?_
         rintro _ e170
         obtain rfl := e170.symm
         refine rl_pickT rfl hg146 rfl rfl ?_
         exact RL.nil ⟨_, rfl, Ch.refl, congrArg Value.bool (Option.some.inj hs147)⟩
        trivial
       ·
        intro hvO173 OpO173 O173 w171 hO174 c172 hN175
        have ah0 := slRep.ch k_Point_pos ah0 c172
        have h8 := h8.ch0 c172
        have k41 := k41.ch0 c172
        have c131 := c131.then0 c172
        refine Need.one rfl rfl rfl ?_
        rintro _ e176
        obtain rfl := e176.symm
        exact RL.nil ⟨rfl, ⟨rfl, rfl, rfl, rfl, rfl, rfl, rfl, trivial⟩, c172⟩
      ·
       have hs177 := andO_f hg146 hb145
       refine CW.draw 11 [(none, fun _ O uu wx => uu = (Value.int .i64 x43)), (none, fun _ O uu wx => uu = (Value.bool (decide (x43 > 0)))), (none, fun _ O uu wx => uu = (Value.bool (decide (x43 > 0)))), (none, fun _ O uu wx => uu = undef), (none, fun _ O uu wx => uu = undef), (none, fun _ O uu wx => uu = undef), (none, fun _ O uu wx => uu = undef), (none, fun _ O uu wx => uu = undef), (none, fun _ O uu wx => uu = undef), (none, fun _ O uu wx => uu = undef), (none, fun _ O uu wx => uu = (Value.bool b144))] [[], [0], [1], [2], [2], [2], [2], [2], [2], [2], [2]] [10] nb (fun _ h => h.elim) mixed rfl rfl rfl rfl ?_ ?_
       ·
        refine Each.consA ⟨fun _ _ _ _ _ _ h => h, fun h => absurd rfl h, fun O wk hO ck => ?_⟩ ?_
        ·
         have ah0 := slRep.ch k_Point_pos ah0 ck
         have h8 := h8.ch0 ck
         have k41 := k41.ch0 ck
         have c131 := c131.then0 ck
         refine rl_move rfl rfl ?_
         exact RL.nil ⟨_, rfl, Ch.refl, rfl⟩
        refine Each.consA ⟨fun _ _ _ _ _ _ h => h, fun h => absurd rfl h, fun O wk hO ck => ?_⟩ ?_
        ·
         have ah0 := slRep.ch k_Point_pos ah0 ck
         have h8 := h8.ch0 ck
         have k41 := k41.ch0 ck
         have c131 := c131.then0 ck
         refine Need.one rfl rfl rfl ?_
         rintro _ e178
         obtain rfl := e178.symm
         refine rl_bin rfl rfl B.gtr rfl ?_
         exact RL.nil ⟨_, rfl, Ch.refl, rfl⟩
        refine Each.consA ⟨fun _ _ _ _ _ _ h => h, fun h => absurd rfl h, fun O wk hO ck => ?_⟩ ?_
        ·
         have ah0 := slRep.ch k_Point_pos ah0 ck
         have h8 := h8.ch0 ck
         have k41 := k41.ch0 ck
         have c131 := c131.then0 ck
         refine Need.one rfl rfl rfl ?_
         rintro _ e179
         obtain rfl := e179.symm
         refine rl_move rfl rfl ?_
         exact RL.nil ⟨_, rfl, Ch.refl, rfl⟩
        refine Each.consA ⟨fun _ _ _ _ _ _ h => h, fun h => absurd rfl h, fun O wk hO ck => ?_⟩ ?_
        ·
         refine Need.one rfl rfl rfl ?_
         rintro _ e180
         obtain rfl := e180.symm
         refine RL.no rfl rfl rfl hg146 rfl rfl ?_
         exact RL.nil ⟨_, rfl, Ch.refl, rfl⟩
        refine Each.consA ⟨fun _ _ _ _ _ _ h => h, fun h => absurd rfl h, fun O wk hO ck => ?_⟩ ?_
        ·
         refine Need.one rfl rfl rfl ?_
         rintro _ e181
         obtain rfl := e181.symm
         refine RL.no rfl rfl rfl hg146 rfl rfl ?_
         exact RL.nil ⟨_, rfl, Ch.refl, rfl⟩
        refine Each.consA ⟨fun _ _ _ _ _ _ h => h, fun h => absurd rfl h, fun O wk hO ck => ?_⟩ ?_
        ·
         refine Need.one rfl rfl rfl ?_
         rintro _ e182
         obtain rfl := e182.symm
         refine RL.no rfl rfl rfl hg146 rfl rfl ?_
         exact RL.nil ⟨_, rfl, Ch.refl, rfl⟩
        refine Each.consA ⟨fun _ _ _ _ _ _ h => h, fun h => absurd rfl h, fun O wk hO ck => ?_⟩ ?_
        ·
         refine Need.one rfl rfl rfl ?_
         rintro _ e183
         obtain rfl := e183.symm
         refine RL.no rfl rfl rfl hg146 rfl rfl ?_
         exact RL.nil ⟨_, rfl, Ch.refl, rfl⟩
        refine Each.consA ⟨fun _ _ _ _ _ _ h => h, fun h => absurd rfl h, fun O wk hO ck => ?_⟩ ?_
        ·
         refine Need.one rfl rfl rfl ?_
         rintro _ e184
         obtain rfl := e184.symm
         refine RL.no rfl rfl rfl hg146 rfl rfl ?_
         exact RL.nil ⟨_, rfl, Ch.refl, rfl⟩
        refine Each.consA ⟨fun _ _ _ _ _ _ h => h, fun h => absurd rfl h, fun O wk hO ck => ?_⟩ ?_
        ·
         refine Need.one rfl rfl rfl ?_
         rintro _ e185
         obtain rfl := e185.symm
         refine RL.no rfl rfl rfl hg146 rfl rfl ?_
         exact RL.nil ⟨_, rfl, Ch.refl, rfl⟩
        refine Each.consA ⟨fun _ _ _ _ _ _ h => h, fun h => absurd rfl h, fun O wk hO ck => ?_⟩ ?_
        ·
         refine Need.one rfl rfl rfl ?_
         rintro _ e186
         obtain rfl := e186.symm
         refine RL.no rfl rfl rfl hg146 rfl rfl ?_
         exact RL.nil ⟨_, rfl, Ch.refl, rfl⟩
        refine Each.consA ⟨fun _ _ _ _ _ _ h => h, fun h => absurd rfl h, fun O wk hO ck => ?_⟩ ?_
        ·
         refine Need.one rfl rfl rfl ?_
         rintro _ e187
         obtain rfl := e187.symm
         refine rl_pickF rfl hg146 rfl rfl ?_
         exact RL.nil ⟨_, rfl, Ch.refl, congrArg Value.bool (Option.some.inj hs177)⟩
        trivial
       ·
        intro hvO190 OpO190 O190 w188 hO191 c189 hN192
        have ah0 := slRep.ch k_Point_pos ah0 c189
        have h8 := h8.ch0 c189
        have k41 := k41.ch0 c189
        have c131 := c131.then0 c189
        refine Need.one rfl rfl rfl ?_
        rintro _ e193
        obtain rfl := e193.symm
        exact RL.nil ⟨rfl, ⟨rfl, rfl, rfl, rfl, rfl, rfl, rfl, trivial⟩, c189⟩
     ·
      rintro _ w195 ⟨hE194, c196⟩
      have ah0 := slRep.ch k_Point_pos ah0 c196
      have h8 := h8.ch0 c196
      have k41 := k41.ch0 c196
      have c131 := c131.then0 c196
      refine thn_n (CW.sub [(3, v7), (5, (Value.pointer (some ⟨p32, 0, none⟩))), (6, (Value.int .i64 x43)), (8, av0), (9, (Value.int .i64 ((a0.length : Nat) : Int))), (10, (Value.int .i64 ((i10 : Nat) : Int))), (40, (Value.bool b144))] hE194 ?_)
      refine CW.cond (t := b144) rfl (fun q197 => ?_) (fun q197 => ?_)
      ·
       have hb15 := ifT q197 hb15
       refine CW.exit ?_
       refine thn_exit ?_
       refine inB_hit ?_
       refine thn_n ?_
       refine CW.region ?_
       refine rl_inc rfl hat12.lt ah0.big rfl ?_
       refine rl_move rfl rfl ?_
       refine RL.nil ?_
       refine thn_n ?_
       have crf : Ch nb w195 w195 := Ch.refl
       have ah0 := slRep.st k_Point_pos ah0 crf (show ∀ b, b < w195.heap.size → ¬ (un (inBlk (Value.pointer (some ⟨p32, 0, none⟩))) (un (inBlk v7) nb)) b → ¬ nb b ∧ ¬ (un (inBlk v7) nb) b from fun b _ hs => ⟨fun x => x, fun h => hs (un_el h (fun h => (.inr (.inl h))) (fun h => False.elim h))⟩)
       have h8 := h8.st crf (fun _ _ x => x) (show ∀ b, b < w195.heap.size → ¬ (un (inBlk (Value.pointer (some ⟨p32, 0, none⟩))) (un (inBlk v7) nb)) b → ¬ nb b ∧ ¬ (un (inBlk v7) nb) b from fun b _ hs => ⟨fun x => x, fun h => hs (un_el h (fun h => (.inr (.inl h))) (fun h => False.elim h))⟩) (fun b h => (.inl h))
       have c131 := c131.then0 crf
       have hLn := runAO_next hL11 hq14 hb15
       exact ⟨rest25.length, Nat.lt_succ_self _, [(8, av0), (9, (Value.int .i64 ((a0.length : Nat) : Int))), (3, v7), (10, (Value.int .i64 ((i10 + 1 : Nat) : Int)))], ⟨rfl, rfl, rfl, rfl, trivial⟩, ⟨rest25, i10 + 1, x6, v7, rfl, rfl, c131, hat12.next, hLn, ah0, h8⟩⟩
      ·
       have hb15 := ifF q197 hb15
       refine CW.skip ?_
       refine thn_n ?_
       have h8 := SlO.read (S' := (un (inBlk (Value.pointer (some ⟨p32, 0, none⟩))) nb)) k_Point_pos h8 (fun b hs h => hs (un_el h (fun h => (.inl h)) (fun h => False.elim h))) (fun b hb => fun h => un_el h (fun h => (disSym d44) b hb h) (fun h => h))
       have crf : Ch nb w195 w195 := Ch.refl
       have ah0 := slRep.st k_Point_pos ah0 crf (show ∀ b, b < w195.heap.size → ¬ (un (inBlk (Value.pointer (some ⟨p32, 0, none⟩))) (un (inBlk v7) nb)) b → ¬ nb b ∧ ¬ (un (inBlk (Value.pointer (some ⟨p32, 0, none⟩))) nb) b from fun b _ hs => ⟨fun x => x, fun h => hs (un_el h (fun h => (.inl h)) (fun h => False.elim h))⟩)
       have k41 := k41.ch0 crf
       have c131 := c131.then0 crf
       obtain ⟨y204, hy205, hb15⟩ := bindS hb15
       obtain ⟨z216, hz217, hb15⟩ := bindS hb15
       obtain ⟨z232, hz233, hb15⟩ := bindS hb15
       obtain ⟨y235, hy236, hb15⟩ := bindS hb15
       obtain ⟨z247, hz248, hb15⟩ := bindS hb15
       refine CW.draw 11 [(some false, fun _ O uu wx => ∃ (v198 : Value), uu = v198 ∧ O = (inBlk v198) ∧ SlO k_Point 41 F w.heap.size (un (inBlk v198) (un (inBlk (Value.pointer (some ⟨p32, 0, none⟩))) nb)) wx [] v198), (none, fun _ O uu wx => uu = v7), (none, fun _ O uu wx => uu = (Value.int .i64 x43)), (none, fun _ O uu wx => ∃ (v206 : Value), uu = v206 ∧ slRep k_Point (G F w.heap.size (un O (un (inBlk (Value.pointer (some ⟨p32, 0, none⟩))) nb))) wx y204 v206), (some true, fun hv O uu wx => ∃ (v210 : Value) (v198 : Value), hv = [v198, v210] ∧ uu = v210 ∧ O = (inBlk v210) ∧ SlO k_Point 41 F w.heap.size (un (inBlk v210) (un (inBlk (Value.pointer (some ⟨p32, 0, none⟩))) nb)) wx ([] ++ y204) v210), (none, fun _ O uu wx => uu = (Value.agg (Point.enc x18).toArray)), (none, fun _ O uu wx => ∃ (v219 : Value), uu = v219 ∧ slRep k_Point (G F w.heap.size (un O (un (inBlk (Value.pointer (some ⟨p32, 0, none⟩))) nb))) wx [x18] v219), (some true, fun hv O uu wx => ∃ (v226 : Value) (v198 : Value) (v210 : Value), hv = [v198, v210, v226] ∧ uu = v226 ∧ O = (inBlk v226) ∧ SlO k_Point 41 F w.heap.size (un (inBlk v226) (un (inBlk (Value.pointer (some ⟨p32, 0, none⟩))) nb)) wx (([] ++ y204) ++ [x18]) v226), (none, fun _ O uu wx => uu = v7), (none, fun _ O uu wx => uu = (Value.int .i64 x43)), (none, fun _ O uu wx => ∃ (v237 : Value), uu = v237 ∧ slRep k_Point (G F w.heap.size (un O (un (inBlk (Value.pointer (some ⟨p32, 0, none⟩))) nb))) wx y235 v237)] [[], [], [], [1, 2], [0, 3], [], [5], [4, 6], [], [], [8, 9]] [7, 10] nb (fun _ h => h.elim) mixed rfl rfl rfl rfl ?_ ?_
       ·
        refine Each.consP ⟨fun _ O _ wx wy cc hh => by obtain ⟨v198, e, rfl, ck0_0⟩ := hh; exact ⟨v198, e, rfl, ck0_0.ch0 cc⟩, fun O wk hO ck => ?_⟩ ?_
        ·
         have d250 : ∀ b, inBlk (Value.pointer (some ⟨p32, 0, none⟩)) b → ¬ O b := fun b hu ho => (hO b ho).1.elim (fun h => h.elim) (fun h => Nat.not_le_of_lt (k41.ltp b hu) h)
         have ha251 : ∀ b, b < w195.heap.size → ¬ (un (inBlk (Value.pointer (some ⟨p32, 0, none⟩))) nb) b → ¬ nb b ∧ ¬ (un O (un (inBlk (Value.pointer (some ⟨p32, 0, none⟩))) nb)) b := fun b hb hs => ⟨fun h => h, fun h => un_el h (fun ho => (hO b ho).1.elim (fun h => h.elim) (fun h => Nat.not_le_of_lt hb h)) (fun h => un_el h (fun h => hs (.inl h)) (fun h => False.elim h))⟩
         have ah0 := slRep.st k_Point_pos ah0 ck ha251
         have k41 := k41.ch0 ck
         have h8 := slRep.st k_Point_pos h8 ck ha251
         have c131 := c131.then0 ck
         refine rl_bslice (k := k_Point) (F := F) (B := w.heap.size) (S := (un O (un (inBlk (Value.pointer (some ⟨p32, 0, none⟩))) nb))) ([] : List Point) rfl k_Point_pos Try.underlying53 Try.sizeOf41 Try.zeroValue41 rfl rfl trivial c131.size (un_lt (fun b h => (hO b h).2) (un_lt k41.ltp nbS)) rfl ?_
         intro v252 w253 c254 hf255 h256
         have d257 : ∀ b, inBlk v252 b → ¬ O b := disNew hf255 (fun b h => (hO b h).2)
         have d258 : ∀ b, inBlk v252 b → ¬ inBlk (Value.pointer (some ⟨p32, 0, none⟩)) b := disNew hf255 k41.ltp
         have ah0 := slRep.st k_Point_pos ah0 c254 (admNew hf255 (fun _ x => x))
         have k41 := k41.ch0 c254
         have h8 := slRep.st k_Point_pos h8 c254 (admNew hf255 (fun _ x => x))
         have c131 := c131.then0 c254
         have hb259 : ∀ b, (inBlk v252) b → wk.heap.size ≤ b ∧ b < w253.heap.size := fun b h => ⟨hf255 b h, (fun b hb => (h256.lt b hb).2) b h⟩
         have h260 := SlO.reS (S' := (un (inBlk v252) (un (inBlk (Value.pointer (some ⟨p32, 0, none⟩))) nb))) (fun h => h) h256 (fun b h => .inl h)
         exact RL.nil ⟨_, (inBlk v252), rfl, hb259, c254, ⟨v252, rfl, rfl, h260⟩⟩
        refine Each.consA ⟨fun _ _ _ _ _ _ h => h, fun _ _ _ _ _ _ _ _ _ _ _ h => h, fun O wk hO ck => ?_⟩ ?_
        ·
         have d261 : ∀ b, inBlk (Value.pointer (some ⟨p32, 0, none⟩)) b → ¬ O b := fun b hu ho => (hO b ho).1.elim (fun h => h.elim) (fun h => Nat.not_le_of_lt (k41.ltp b hu) h)
         have ha262 : ∀ b, b < w195.heap.size → ¬ (un (inBlk (Value.pointer (some ⟨p32, 0, none⟩))) nb) b → ¬ nb b ∧ ¬ (un O (un (inBlk (Value.pointer (some ⟨p32, 0, none⟩))) nb)) b := fun b hb hs => ⟨fun h => h.elim, fun h => un_el h (fun ho => (hO b ho).1.elim (fun h => h.elim) (fun h => Nat.not_le_of_lt hb h)) (fun h => un_el h (fun h => hs (.inl h)) (fun h => False.elim h))⟩
         have ah0 := slRep.st k_Point_pos ah0 ck ha262
         have k41 := k41.ch0 ck
         have h8 := slRep.st k_Point_pos h8 ck ha262
         have c131 := c131.then0 ck
         refine rl_move rfl rfl ?_
         exact RL.nil ⟨_, rfl, Ch.refl, rfl⟩
        refine Each.consA ⟨fun _ _ _ _ _ _ h => h, fun _ _ _ _ _ _ _ _ _ _ _ h => h, fun O wk hO ck => ?_⟩ ?_
        ·
         have d263 : ∀ b, inBlk (Value.pointer (some ⟨p32, 0, none⟩)) b → ¬ O b := fun b hu ho => (hO b ho).1.elim (fun h => h.elim) (fun h => Nat.not_le_of_lt (k41.ltp b hu) h)
         have ha264 : ∀ b, b < w195.heap.size → ¬ (un (inBlk (Value.pointer (some ⟨p32, 0, none⟩))) nb) b → ¬ nb b ∧ ¬ (un O (un (inBlk (Value.pointer (some ⟨p32, 0, none⟩))) nb)) b := fun b hb hs => ⟨fun h => h.elim, fun h => un_el h (fun ho => (hO b ho).1.elim (fun h => h.elim) (fun h => Nat.not_le_of_lt hb h)) (fun h => un_el h (fun h => hs (.inl h)) (fun h => False.elim h))⟩
         have ah0 := slRep.st k_Point_pos ah0 ck ha264
         have k41 := k41.ch0 ck
         have h8 := slRep.st k_Point_pos h8 ck ha264
         have c131 := c131.then0 ck
         refine rl_move rfl rfl ?_
         exact RL.nil ⟨_, rfl, Ch.refl, rfl⟩
        refine Each.consA ⟨fun _ _ _ _ _ cc hh => by obtain ⟨v206, e, h207⟩ := hh; exact ⟨v206, e, slRep.ch k_Point_pos h207 cc⟩, fun _ _ O O' D _ wx wy hD hO' cc hh => by obtain ⟨v206, e, h207⟩ := hh; have ad := admGh (S := (un (inBlk (Value.pointer (some ⟨p32, 0, none⟩))) nb)) hD hO'; exact ⟨v206, e, slRep.st k_Point_pos h207 cc ad⟩, fun O wk hO ck => ?_⟩ ?_
        ·
         have d265 : ∀ b, inBlk (Value.pointer (some ⟨p32, 0, none⟩)) b → ¬ O b := fun b hu ho => (hO b ho).1.elim (fun h => h.elim) (fun h => Nat.not_le_of_lt (k41.ltp b hu) h)
         have ha266 : ∀ b, b < w195.heap.size → ¬ (un (inBlk (Value.pointer (some ⟨p32, 0, none⟩))) nb) b → ¬ nb b ∧ ¬ (un O (un (inBlk (Value.pointer (some ⟨p32, 0, none⟩))) nb)) b := fun b hb hs => ⟨fun h => h.elim, fun h => un_el h (fun ho => (hO b ho).1.elim (fun h => h.elim) (fun h => Nat.not_le_of_lt hb h)) (fun h => un_el h (fun h => hs (.inl h)) (fun h => False.elim h))⟩
         have ah0 := slRep.st k_Point_pos ah0 ck ha266
         have k41 := k41.ch0 ck
         have h8 := slRep.st k_Point_pos h8 ck ha266
         have c131 := c131.then0 ck
         refine Need.one rfl rfl rfl ?_
         rintro _ e267
         obtain rfl := e267.symm
         refine Need.one rfl rfl rfl ?_
         rintro _ e268
         obtain rfl := e268.symm
         refine rl_cutR (kl := .i64) (kh := .i64) none (some x43) rfl h8 k_Point_pos trivial rfl hy205 Try.underlying53 Try.sizeOf41 rfl ?_
         intro v269 h270
         exact RL.nil ⟨_, rfl, Ch.refl, ⟨v269, rfl, h270⟩⟩
        refine Each.consO ⟨fun _ O _ wx wy cc hh => by obtain ⟨v210, v198, eh, e, rfl, ck4_0⟩ := hh; exact ⟨v210, v198, eh, e, rfl, ck4_0.ch0 cc⟩, fun hv Op O wk hO ck hO0 => ?_⟩ ?_
        ·
         obtain ⟨hl, hBg⟩ := hO0 rfl
         refine Need.made rfl rfl rfl rfl ?_
         rintro _ ⟨v198, e271, eO272, ck0_0⟩ hh273
         obtain rfl := e271.symm
         have io274 : ∀ b, inBlk v198 b → _ := fun b h => (Eq.mpr (congrFun eO272 b) h)
         have hf275 : ∀ b, inBlk v198 b → w195.heap.size ≤ b := fun b h => (hBg.2.2.1 _ b (io274 b h)).1
         obtain rfl := hist_eq [v198] hv hl ⟨hh273, trivial⟩
         have d276 : ∀ b, inBlk v198 b → ¬ inBlk (Value.pointer (some ⟨p32, 0, none⟩)) b := disNew hf275 k41.ltp
         have ah0 := slRep.st k_Point_pos ah0 hBg.2.1 (show ∀ b, b < w195.heap.size → ¬ (un (inBlk (Value.pointer (some ⟨p32, 0, none⟩))) nb) b → ¬ nb b ∧ ¬ (un (inBlk v198) (un (inBlk (Value.pointer (some ⟨p32, 0, none⟩))) nb)) b from fun b hb hs => ⟨fun x => x, fun h => un_el h (fun h => Nat.not_le_of_lt hb (hf275 b h)) (fun h => hs h)⟩)
         have k41 := k41.ch0 hBg.2.1
         have h8 := slRep.st k_Point_pos h8 hBg.2.1 (show ∀ b, b < w195.heap.size → ¬ (un (inBlk (Value.pointer (some ⟨p32, 0, none⟩))) nb) b → ¬ nb b ∧ ¬ (un (inBlk v198) (un (inBlk (Value.pointer (some ⟨p32, 0, none⟩))) nb)) b from fun b hb hs => ⟨fun x => x, fun h => un_el h (fun h => Nat.not_le_of_lt hb (hf275 b h)) (fun h => hs h)⟩)
         have c131 := c131.then0 hBg.2.1
         have ck0_0 := SlO.reS (S' := (un (inBlk v198) (un (inBlk (Value.pointer (some ⟨p32, 0, none⟩))) nb))) (fun h => h) ck0_0 (fun b h => (.inl h))
         refine Need.one rfl rfl rfl ?_
         rintro _ ⟨v206, e277, h207⟩
         obtain rfl := e277.symm
         have h207 := slRep.wk (F' := (G F w.heap.size (un (inBlk v198) (un (inBlk (Value.pointer (some ⟨p32, 0, none⟩))) nb)))) k_Point_pos h207 (fun b _ hf => ⟨hf.1, fun h => hf.2 (un_el h (fun h => (.inl ((hBg.1 b).2 (.inr ⟨_, inPre rfl, io274 b h⟩)))) (fun h => un_el h (fun h => (.inr (.inl h))) (fun h => False.elim h)))⟩)
         have hl := (apO_get hz217).1
         refine rl_append (k := k_Point) (T := 41) (F := F) (B := w.heap.size) (S := (un (inBlk v198) (un (inBlk (Value.pointer (some ⟨p32, 0, none⟩))) nb))) (S2 := (un (inBlk (Value.pointer (some ⟨p32, 0, none⟩))) nb)) (fun v => (un (inBlk v) (un (inBlk (Value.pointer (some ⟨p32, 0, none⟩))) nb))) rfl rfl k_Point_pos ap53 ck0_0 h207 (fun _ => Iff.rfl) (fun _ _ => Iff.rfl) hl c131.size (un_lt (fun b hb => (ck0_0.lt b hb).2) (un_lt k41.ltp nbS)) rfl ?_
         intro v280 w281 h282 c283 hf284 ha285
         have d286 : ∀ b, inBlk v280 b → ¬ inBlk (Value.pointer (some ⟨p32, 0, none⟩)) b := disApp hf284 d276 k41.ltp
         have ah0 := slRep.st k_Point_pos ah0 c283 ha285
         have k41 := k41.ch c283 ((fun b hb h => (disSym d276) b hb h) _ rfl)
         have h8 := slRep.st k_Point_pos h8 c283 ha285
         have h207 := slRep.st k_Point_pos h207 c283 ha285
         have c131 := c131.then c283 (fun i hi h => absurd ((fun b hb => (ck0_0.lt b hb).1) i h) (Nat.not_le_of_lt hi))
         have hb287 : ∀ b, (inBlk v280) b → (O b ∨ wk.heap.size ≤ b) ∧ b < w281.heap.size := fun b h => ⟨(hf284 b h).elim (fun h => .inl (((hBg.1 b).2 (.inr ⟨_, inPre rfl, io274 b h⟩)))) (fun h => .inr (Nat.le_trans (Nat.le_refl _) h)), (fun b hb => (h282.lt b hb).2) b h⟩
         exact RL.nil ⟨_, (inBlk v280), rfl, hb287, (c283.mono (fun b _ h => ((hBg.1 b).2 (.inr ⟨_, inPre rfl, io274 b h⟩)))), ⟨v280, v198, rfl, rfl, rfl, h282⟩⟩
        refine Each.consA ⟨fun _ _ _ _ _ _ h => h, fun _ _ _ _ _ _ _ _ _ _ _ h => h, fun O wk hO ck => ?_⟩ ?_
        ·
         have d288 : ∀ b, inBlk (Value.pointer (some ⟨p32, 0, none⟩)) b → ¬ O b := fun b hu ho => (hO b ho).1.elim (fun h => h.elim) (fun h => Nat.not_le_of_lt (k41.ltp b hu) h)
         have ha289 : ∀ b, b < w195.heap.size → ¬ (un (inBlk (Value.pointer (some ⟨p32, 0, none⟩))) nb) b → ¬ nb b ∧ ¬ (un O (un (inBlk (Value.pointer (some ⟨p32, 0, none⟩))) nb)) b := fun b hb hs => ⟨fun h => h.elim, fun h => un_el h (fun ho => (hO b ho).1.elim (fun h => h.elim) (fun h => Nat.not_le_of_lt hb h)) (fun h => un_el h (fun h => hs (.inl h)) (fun h => False.elim h))⟩
         have ah0 := slRep.st k_Point_pos ah0 ck ha289
         have k41 := k41.ch0 ck
         have h8 := slRep.st k_Point_pos h8 ck ha289
         have c131 := c131.then0 ck
         refine rl_loadA (cs := (Point.enc x18)) rfl Try.isAgg41 Try.sizeOf41 (k41.segAt 0 18) rfl rfl ?_
         exact RL.nil ⟨_, rfl, Ch.refl, rfl⟩
        refine Each.consA ⟨fun _ _ _ _ _ cc hh => by obtain ⟨v219, e, h223⟩ := hh; exact ⟨v219, e, slRep.ch k_Point_pos h223 cc⟩, fun _ _ O O' D _ wx wy hD hO' cc hh => by obtain ⟨v219, e, h223⟩ := hh; have ad := admGh (S := (un (inBlk (Value.pointer (some ⟨p32, 0, none⟩))) nb)) hD hO'; exact ⟨v219, e, slRep.st k_Point_pos h223 cc ad⟩, fun O wk hO ck => ?_⟩ ?_
        ·
         have d290 : ∀ b, inBlk (Value.pointer (some ⟨p32, 0, none⟩)) b → ¬ O b := fun b hu ho => (hO b ho).1.elim (fun h => h.elim) (fun h => Nat.not_le_of_lt (k41.ltp b hu) h)
         have ha291 : ∀ b, b < w195.heap.size → ¬ (un (inBlk (Value.pointer (some ⟨p32, 0, none⟩))) nb) b → ¬ nb b ∧ ¬ (un O (un (inBlk (Value.pointer (some ⟨p32, 0, none⟩))) nb)) b := fun b hb hs => ⟨fun h => h.elim, fun h => un_el h (fun ho => (hO b ho).1.elim (fun h => h.elim) (fun h => Nat.not_le_of_lt hb h)) (fun h => un_el h (fun h => hs (.inl h)) (fun h => False.elim h))⟩
         have ah0 := slRep.st k_Point_pos ah0 ck ha291
         have k41 := k41.ch0 ck
         have h8 := slRep.st k_Point_pos h8 ck ha291
         have c131 := c131.then0 ck
         refine Need.one rfl rfl rfl ?_
         rintro _ e292
         obtain rfl := e292.symm
         refine rl_bslice (k := k_Point) (F := F) (B := w.heap.size) (S := (un O (un (inBlk (Value.pointer (some ⟨p32, 0, none⟩))) nb))) ([x18] : List Point) rfl k_Point_pos Try.underlying53 Try.sizeOf41 Try.zeroValue41 rfl rfl ⟨rfl, rfl, trivial⟩ c131.size (un_lt (fun b h => (hO b h).2) (un_lt k41.ltp nbS)) rfl ?_
         intro v293 w294 c295 hf296 h297
         have h297 := h297.readNew k_Point_pos hf296 (un_lt (fun b h => (hO b h).2) (un_lt k41.ltp nbS))
         have ah0 := slRep.ch k_Point_pos ah0 c295
         have k41 := k41.ch0 c295
         have h8 := slRep.ch k_Point_pos h8 c295
         have c131 := c131.then0 c295
         exact RL.nil ⟨_, rfl, c295, ⟨v293, rfl, h297⟩⟩
        refine Each.consO ⟨fun _ O _ wx wy cc hh => by obtain ⟨v226, v198, v210, eh, e, rfl, ck7_0⟩ := hh; exact ⟨v226, v198, v210, eh, e, rfl, ck7_0.ch0 cc⟩, fun hv Op O wk hO ck hO0 => ?_⟩ ?_
        ·
         have ol298 : ∀ b, inBlk (Value.pointer (some ⟨p32, 0, none⟩)) b → b < w195.heap.size := k41.ltp
         refine Need.here rfl rfl rfl rfl ?_
         rintro _ ⟨v210, v198, rfl, e299, rfl, ck4_0⟩
         obtain rfl := e299.symm
         have d300 : ∀ b, inBlk v210 b → ¬ inBlk (Value.pointer (some ⟨p32, 0, none⟩)) b := fun b h hu => (hO b h).1.elim (fun h => h.elim) (fun h => Nat.not_le_of_lt (ol298 b hu) h)
         have ha301 : ∀ b, b < w195.heap.size → ¬ (un (inBlk (Value.pointer (some ⟨p32, 0, none⟩))) nb) b → ¬ nb b ∧ ¬ (un (inBlk v210) (un (inBlk (Value.pointer (some ⟨p32, 0, none⟩))) nb)) b := fun b hb hs => ⟨fun h => h.elim, fun h => un_el h (fun h => (hO b h).1.elim (fun h => h.elim) (fun h => Nat.not_le_of_lt hb h)) (fun h => un_el h (fun h => hs (.inl h)) (fun h => False.elim h))⟩
         have ah0 := slRep.st k_Point_pos ah0 ck ha301
         have k41 := k41.ch0 ck
         have h8 := slRep.st k_Point_pos h8 ck ha301
         have c131 := c131.then0 ck
         refine Need.one rfl rfl rfl ?_
         rintro _ ⟨v219, e302, h223⟩
         obtain rfl := e302.symm
         have h223 := slRep.wk (F' := (G F w.heap.size (un (inBlk v210) (un (inBlk (Value.pointer (some ⟨p32, 0, none⟩))) nb)))) k_Point_pos h223 (fun b _ hf => ⟨hf.1, fun h => hf.2 (un_el h (fun h => (.inl h)) (fun h => un_el h (fun h => (.inr (.inl h))) (fun h => False.elim h)))⟩)
         have hl := (apO_get hz233).1
         refine rl_append (k := k_Point) (T := 41) (F := F) (B := w.heap.size) (S := (un (inBlk v210) (un (inBlk (Value.pointer (some ⟨p32, 0, none⟩))) nb))) (S2 := (un (inBlk (Value.pointer (some ⟨p32, 0, none⟩))) nb)) (fun v => (un (inBlk v) (un (inBlk (Value.pointer (some ⟨p32, 0, none⟩))) nb))) rfl rfl k_Point_pos ap53 ck4_0 h223 (fun _ => Iff.rfl) (fun _ _ => Iff.rfl) hl c131.size (un_lt (fun b hb => (ck4_0.lt b hb).2) (un_lt k41.ltp nbS)) rfl ?_
         intro v305 w306 h307 c308 hf309 ha310
         have d311 : ∀ b, inBlk v305 b → ¬ inBlk (Value.pointer (some ⟨p32, 0, none⟩)) b := disApp hf309 d300 k41.ltp
         have ah0 := slRep.st k_Point_pos ah0 c308 ha310
         have k41 := k41.ch c308 ((fun b hb h => (disSym d300) b hb h) _ rfl)
         have h8 := slRep.st k_Point_pos h8 c308 ha310
         have h223 := slRep.st k_Point_pos h223 c308 ha310
         have c131 := c131.then c308 (fun i hi h => absurd ((fun b hb => (ck4_0.lt b hb).1) i h) (Nat.not_le_of_lt hi))
         have hb312 : ∀ b, (inBlk v305) b → ((inBlk v210) b ∨ wk.heap.size ≤ b) ∧ b < w306.heap.size := fun b h => ⟨(hf309 b h).elim (fun h => .inl (h)) (fun h => .inr (Nat.le_trans (Nat.le_refl _) h)), (fun b hb => (h307.lt b hb).2) b h⟩
         exact RL.nil ⟨_, (inBlk v305), rfl, hb312, (c308.mono (fun b _ h => h)), ⟨v305, v198, v210, rfl, rfl, rfl, h307⟩⟩
        refine Each.consA ⟨fun _ _ _ _ _ _ h => h, fun _ _ _ _ _ _ _ _ _ _ _ h => h, fun O wk hO ck => ?_⟩ ?_
        ·
         have d313 : ∀ b, inBlk (Value.pointer (some ⟨p32, 0, none⟩)) b → ¬ O b := fun b hu ho => (hO b ho).1.elim (fun h => h.elim) (fun h => Nat.not_le_of_lt (k41.ltp b hu) h)
         have ha314 : ∀ b, b < w195.heap.size → ¬ (un (inBlk (Value.pointer (some ⟨p32, 0, none⟩))) nb) b → ¬ nb b ∧ ¬ (un O (un (inBlk (Value.pointer (some ⟨p32, 0, none⟩))) nb)) b := fun b hb hs => ⟨fun h => h.elim, fun h => un_el h (fun ho => (hO b ho).1.elim (fun h => h.elim) (fun h => Nat.not_le_of_lt hb h)) (fun h => un_el h (fun h => hs (.inl h)) (fun h => False.elim h))⟩
         have ah0 := slRep.st k_Point_pos ah0 ck ha314
         have k41 := k41.ch0 ck
         have h8 := slRep.st k_Point_pos h8 ck ha314
         have c131 := c131.then0 ck
         refine rl_move rfl rfl ?_
         exact RL.nil ⟨_, rfl, Ch.refl, rfl⟩
        refine Each.consA ⟨fun _ _ _ _ _ _ h => h, fun _ _ _ _ _ _ _ _ _ _ _ h => h, fun O wk hO ck => ?_⟩ ?_
        ·
         have d315 : ∀ b, inBlk (Value.pointer (some ⟨p32, 0, none⟩)) b → ¬ O b := fun b hu ho => (hO b ho).1.elim (fun h => h.elim) (fun h => Nat.not_le_of_lt (k41.ltp b hu) h)
         have ha316 : ∀ b, b < w195.heap.size → ¬ (un (inBlk (Value.pointer (some ⟨p32, 0, none⟩))) nb) b → ¬ nb b ∧ ¬ (un O (un (inBlk (Value.pointer (some ⟨p32, 0, none⟩))) nb)) b := fun b hb hs => ⟨fun h => h.elim, fun h => un_el h (fun ho => (hO b ho).1.elim (fun h => h.elim) (fun h => Nat.not_le_of_lt hb h)) (fun h => un_el h (fun h => hs (.inl h)) (fun h => False.elim h))⟩
         have ah0 := slRep.st k_Point_pos ah0 ck ha316
         have k41 := k41.ch0 ck
         have h8 := slRep.st k_Point_pos h8 ck ha316
         have c131 := c131.then0 ck
         refine rl_move rfl rfl ?_
         exact RL.nil ⟨_, rfl, Ch.refl, rfl⟩
        refine Each.consA ⟨fun _ _ _ _ _ cc hh => by obtain ⟨v237, e, h238⟩ := hh; exact ⟨v237, e, slRep.ch k_Point_pos h238 cc⟩, fun _ _ O O' D _ wx wy hD hO' cc hh => by obtain ⟨v237, e, h238⟩ := hh; have ad := admGh (S := (un (inBlk (Value.pointer (some ⟨p32, 0, none⟩))) nb)) hD hO'; exact ⟨v237, e, slRep.st k_Point_pos h238 cc ad⟩, fun O wk hO ck => ?_⟩ ?_
        ·
         have d317 : ∀ b, inBlk (Value.pointer (some ⟨p32, 0, none⟩)) b → ¬ O b := fun b hu ho => (hO b ho).1.elim (fun h => h.elim) (fun h => Nat.not_le_of_lt (k41.ltp b hu) h)
         have ha318 : ∀ b, b < w195.heap.size → ¬ (un (inBlk (Value.pointer (some ⟨p32, 0, none⟩))) nb) b → ¬ nb b ∧ ¬ (un O (un (inBlk (Value.pointer (some ⟨p32, 0, none⟩))) nb)) b := fun b hb hs => ⟨fun h => h.elim, fun h => un_el h (fun ho => (hO b ho).1.elim (fun h => h.elim) (fun h => Nat.not_le_of_lt hb h)) (fun h => un_el h (fun h => hs (.inl h)) (fun h => False.elim h))⟩
         have ah0 := slRep.st k_Point_pos ah0 ck ha318
         have k41 := k41.ch0 ck
         have h8 := slRep.st k_Point_pos h8 ck ha318
         have c131 := c131.then0 ck
         refine Need.one rfl rfl rfl ?_
         rintro _ e319
         obtain rfl := e319.symm
         refine Need.one rfl rfl rfl ?_
         rintro _ e320
         obtain rfl := e320.symm
         refine rl_cutR (kl := .i64) (kh := .i64) (some x43) none rfl h8 k_Point_pos rfl trivial hy236 Try.underlying53 Try.sizeOf41 rfl ?_
         intro v321 h322
         exact RL.nil ⟨_, rfl, Ch.refl, ⟨v321, rfl, h322⟩⟩
        trivial
       ·
        intro hvO325 OpO325 O325 w323 hO326 c324 hN327
        have ol328 : ∀ b, inBlk (Value.pointer (some ⟨p32, 0, none⟩)) b → b < w195.heap.size := k41.ltp
        refine Need.here rfl rfl rfl rfl ?_
        rintro _ ⟨v226, v198, v210, rfl, e329, rfl, ck7_0⟩
        obtain rfl := e329.symm
        have d330 : ∀ b, inBlk v226 b → ¬ inBlk (Value.pointer (some ⟨p32, 0, none⟩)) b := fun b h hu => (hO326 b h).1.elim (fun h => h.elim) (fun h => Nat.not_le_of_lt (ol328 b hu) h)
        have ha331 : ∀ b, b < w195.heap.size → ¬ (un (inBlk (Value.pointer (some ⟨p32, 0, none⟩))) nb) b → ¬ nb b ∧ ¬ (un (inBlk v226) (un (inBlk (Value.pointer (some ⟨p32, 0, none⟩))) nb)) b := fun b hb hs => ⟨fun h => h.elim, fun h => un_el h (fun h => (hO326 b h).1.elim (fun h => h.elim) (fun h => Nat.not_le_of_lt hb h)) (fun h => un_el h (fun h => hs (.inl h)) (fun h => False.elim h))⟩
        have ah0 := slRep.st k_Point_pos ah0 c324 ha331
        have k41 := k41.ch0 c324
        have h8 := slRep.st k_Point_pos h8 c324 ha331
        have c131 := c131.then0 c324
        refine Need.one rfl rfl rfl ?_
        rintro _ ⟨v237, e332, h238⟩
        obtain rfl := e332.symm
        have h238 := slRep.wk (F' := (G F w.heap.size (un (inBlk v226) (un (inBlk (Value.pointer (some ⟨p32, 0, none⟩))) nb)))) k_Point_pos h238 (fun b _ hf => ⟨hf.1, fun h => hf.2 (un_el h (fun h => (.inl h)) (fun h => un_el h (fun h => (.inr (.inl h))) (fun h => False.elim h)))⟩)
        have hl := (apO_get hz248).1
        refine rl_append (k := k_Point) (T := 41) (F := F) (B := w.heap.size) (S := (un (inBlk v226) (un (inBlk (Value.pointer (some ⟨p32, 0, none⟩))) nb))) (S2 := (un (inBlk (Value.pointer (some ⟨p32, 0, none⟩))) nb)) (fun v => (un (inBlk v) (un (inBlk (Value.pointer (some ⟨p32, 0, none⟩))) nb))) rfl rfl k_Point_pos ap53 ck7_0 h238 (fun _ => Iff.rfl) (fun _ _ => Iff.rfl) hl c131.size (un_lt (fun b hb => (ck7_0.lt b hb).2) (un_lt k41.ltp nbS)) rfl ?_
        intro v335 w336 h337 c338 hf339 ha340
        have d341 : ∀ b, inBlk v335 b → ¬ inBlk (Value.pointer (some ⟨p32, 0, none⟩)) b := disApp hf339 d330 k41.ltp
        have ah0 := slRep.st k_Point_pos ah0 c338 ha340
        have k41 := k41.ch c338 ((fun b hb h => (disSym d330) b hb h) _ rfl)
        have h8 := slRep.st k_Point_pos h8 c338 ha340
        have h238 := slRep.st k_Point_pos h238 c338 ha340
        have c131 := c131.then c338 (fun i hi h => absurd ((fun b hb => (ck7_0.lt b hb).1) i h) (Nat.not_le_of_lt hi))
        refine rl_assign rfl rfl ?_
        refine RL.nil ?_
        refine inB_n ?_
        refine thn_n ?_
        refine CW.region ?_
        refine rl_inc rfl hat12.lt ah0.big rfl ?_
        refine rl_move rfl rfl ?_
        refine RL.nil ?_
        refine thn_n ?_
        have crf : Ch nb w336 w336 := Ch.refl
        have ah0 := slRep.st k_Point_pos ah0 crf (show ∀ b, b < w336.heap.size → ¬ (un (inBlk v335) (un (inBlk (Value.pointer (some ⟨p32, 0, none⟩))) nb)) b → ¬ nb b ∧ ¬ (un (inBlk v335) nb) b from fun b _ hs => ⟨fun x => x, fun h => hs (un_el h (fun h => (.inl h)) (fun h => False.elim h))⟩)
        have h8 := slRep.st k_Point_pos h8 crf (show ∀ b, b < w336.heap.size → ¬ (un (inBlk v335) (un (inBlk (Value.pointer (some ⟨p32, 0, none⟩))) nb)) b → ¬ nb b ∧ ¬ (un (inBlk v335) nb) b from fun b _ hs => ⟨fun x => x, fun h => hs (un_el h (fun h => (.inl h)) (fun h => False.elim h))⟩)
        have h238 := slRep.st k_Point_pos h238 crf (show ∀ b, b < w336.heap.size → ¬ (un (inBlk v335) (un (inBlk (Value.pointer (some ⟨p32, 0, none⟩))) nb)) b → ¬ nb b ∧ ¬ (un (inBlk v335) nb) b from fun b _ hs => ⟨fun x => x, fun h => hs (un_el h (fun h => (.inl h)) (fun h => False.elim h))⟩)
        have h337 := h337.st crf (fun _ _ x => x) (show ∀ b, b < w336.heap.size → ¬ (un (inBlk v335) (un (inBlk (Value.pointer (some ⟨p32, 0, none⟩))) nb)) b → ¬ nb b ∧ ¬ (un (inBlk v335) nb) b from fun b _ hs => ⟨fun x => x, fun h => hs (un_el h (fun h => (.inl h)) (fun h => False.elim h))⟩) (fun b h => (.inl h))
        have c131 := c131.then0 crf
        have hLn := runAO_next hL11 hq14 hb15
        exact ⟨rest25.length, Nat.lt_succ_self _, [(8, av0), (9, (Value.int .i64 ((a0.length : Nat) : Int))), (3, v335), (10, (Value.int .i64 ((i10 + 1 : Nat) : Int)))], ⟨rfl, rfl, rfl, rfl, trivial⟩, ⟨rest25, i10 + 1, (([] ++ y204) ++ [x18]) ++ y235, v335, rfl, rfl, c131, hat12.next, hLn, ah0, h337⟩⟩
   ·
    obtain rfl := hat12.nil q24
    have hLf : x6 = o16 := runAO_done hL11
    refine CW.exit (thn_exit (thn_exit (inB_hit ?_)))
    exact ⟨x6, v7, ⟨rfl, trivial⟩, c21, hLf, ah0, h8⟩
  ·
   rintro _ w343 ⟨x6, v7, hE344, c342, f345, ah0, h8⟩
   subst f345
   refine thn_n (CW.sub [(3, v7)] hE344 ?_)
   refine CW.seq (CW.region ?_)
   refine rl_move rfl rfl ?_
   refine rl_assign rfl rfl ?_
   refine RL.nil ?_
   refine thn_n ?_
   refine CW.ret ?_
   obtain rfl := Option.some.inj hS
   exact ret1 rfl ⟨v7, rfl, h8.out, c342⟩
/-- lb/lbref19.Points -/
theorem ctr22 (F : Nat → Prop) (w : World) (a0 : (List Slice)) (av0 : Value) (ah0 : slRep k_Slice F w a0 av0) (a1 : Want) (r : (List Point)) (hs : F22_linkboyref19_Points a0 a1 = some r) :
    Ret Try.prog 22 #[av0, (Value.agg (Want.enc a1).toArray)] w fun v w' => ∃ (y0 : Value), v = y0 ∧ SlO k_Point 41 F w.heap.size (inBlk y0) w' r y0 ∧ Ch nb w w' := by
  have hS := hs
  have c0 : Ch nb w w := Ch.refl
  have ah0 := slRep.enter k_Slice_pos ah0
  refine Ret.of (n := 27) (args := [_, _]) (rs := [.tmp 4]) Try.func22 rfl rfl rfl rfl ?_
  refine CW.seq (CW.region ?_)
  refine rl_boxA (cs := (Want.enc a1)) rfl rfl ?_
  intro p1 w2 n3 k4
  have gp1 : (G F w.heap.size nb) p1 := ⟨.inr (by rw [n3.eq]; exact c0.size), fun h => absurd (nbS _ h) (by rw [n3.eq]; exact Nat.lt_irrefl _)⟩
  have ah0 := slRep.ch k_Slice_pos ah0 n3.ch
  have c0 := c0.then0 n3.ch
  refine rl_assign rfl rfl ?_
  refine RL.nil ?_
  refine thn_n ?_
  refine CW.seq (CW.region ?_)
  refine rl_bslice (k := k_Point) (F := F) (B := w.heap.size) (S := nb) ([] : List Point) rfl k_Point_pos Try.underlying53 Try.sizeOf41 Try.zeroValue41 rfl rfl trivial c0.size nbS rfl ?_
  intro v5 w6 c7 hf8 h9
  have ah0 := slRep.st k_Slice_pos ah0 c7 (admNew hf8 (fun _ x => x))
  have gp1n : (G F w.heap.size (un (inBlk v5) nb)) p1 := ⟨gp1.1, ((admNew hf8 (fun _ x => x)) _ k4.lt gp1.2).2⟩
  have k4 := k4.ch0 c7
  have gp1 := gp1n
  have c0 := c0.then0 c7
  refine rl_assign rfl rfl ?_
  refine RL.nil ?_
  refine thn_n ?_
  refine CW.seq ?_
  refine CW.seq ?_
  obtain ⟨y12, hy13, hS⟩ := bindS hS
  obtain ⟨y18, hy19, hS⟩ := bindS hS
  refine CW.draw 7 [(none, fun _ O uu wx => uu = av0), (none, fun _ O uu wx => uu = (Value.agg (Want.enc a1).toArray)), (none, fun _ O uu wx => ∃ (v14 : Value), uu = v14 ∧ slRep k_Candidate (G F w.heap.size (un (inBlk v5) nb)) wx y12 v14), (none, fun _ O uu wx => uu = (Value.agg (Want.enc a1).toArray)), (none, fun _ O uu wx => ∃ (v20 : Value), uu = v20 ∧ slRep k_Candidate (G F w.heap.size (un (inBlk v5) nb)) wx y18 v20), (none, fun _ O uu wx => uu = (Value.int .i64 ((y18.length : Nat) : Int))), (none, fun _ O uu wx => uu = (Value.int .i64 0))] [[], [], [0, 1], [], [2, 3], [4], []] [4, 5, 6] nb (fun _ h => h.elim) mixed rfl rfl rfl rfl ?_ ?_
  ·
   refine Each.consA ⟨fun _ _ _ _ _ _ h => h, fun h => absurd rfl h, fun O wk hO ck => ?_⟩ ?_
   ·
    have ah0 := slRep.ch k_Slice_pos ah0 ck
    have k4 := k4.ch0 ck
    have h9 := h9.ch0 ck
    have c0 := c0.then0 ck
    refine rl_move rfl rfl ?_
    exact RL.nil ⟨_, rfl, Ch.refl, rfl⟩
   refine Each.consA ⟨fun _ _ _ _ _ _ h => h, fun h => absurd rfl h, fun O wk hO ck => ?_⟩ ?_
   ·
    have ah0 := slRep.ch k_Slice_pos ah0 ck
    have k4 := k4.ch0 ck
    have h9 := h9.ch0 ck
    have c0 := c0.then0 ck
    refine rl_loadA (cs := (Want.enc a1)) rfl Try.isAgg35 Try.sizeOf35 (k4.segAt 0 7) rfl rfl ?_
    exact RL.nil ⟨_, rfl, Ch.refl, rfl⟩
   refine Each.consA ⟨fun _ _ _ _ _ cc hh => by obtain ⟨v14, e, h15⟩ := hh; exact ⟨v14, e, slRep.ch k_Candidate_pos h15 cc⟩, fun h => absurd rfl h, fun O wk hO ck => ?_⟩ ?_
   ·
    have ah0 := slRep.ch k_Slice_pos ah0 ck
    have k4 := k4.ch0 ck
    have h9 := h9.ch0 ck
    have c0 := c0.then0 ck
    refine Need.one rfl rfl rfl ?_
    rintro _ e22
    obtain rfl := e22.symm
    refine Need.one rfl rfl rfl ?_
    rintro _ e23
    obtain rfl := e23.symm
    refine rl_callF rfl en19 rfl (ctr19 (G F w.heap.size (un (inBlk v5) nb)) wk a0 av0 ah0 a1 y12 hy13) ?_
    rintro v26 w24 ⟨_, rfl, h27, c25⟩
    have h27 := SlO.backR k_Candidate_pos h27 (un_lt (fun b hb => (h9.lt b hb).2) nbS) c0.size
    have ah0 := slRep.ch k_Slice_pos ah0 c25
    have k4 := k4.ch0 c25
    have h9 := h9.ch0 c25
    have c0 := c0.then0 c25
    exact RL.nil ⟨_, rfl, c25, ⟨v26, rfl, h27⟩⟩
   refine Each.consA ⟨fun _ _ _ _ _ _ h => h, fun h => absurd rfl h, fun O wk hO ck => ?_⟩ ?_
   ·
    have ah0 := slRep.ch k_Slice_pos ah0 ck
    have k4 := k4.ch0 ck
    have h9 := h9.ch0 ck
    have c0 := c0.then0 ck
    refine rl_loadA (cs := (Want.enc a1)) rfl Try.isAgg35 Try.sizeOf35 (k4.segAt 0 7) rfl rfl ?_
    exact RL.nil ⟨_, rfl, Ch.refl, rfl⟩
   refine Each.consA ⟨fun _ _ _ _ _ cc hh => by obtain ⟨v20, e, h21⟩ := hh; exact ⟨v20, e, slRep.ch k_Candidate_pos h21 cc⟩, fun h => absurd rfl h, fun O wk hO ck => ?_⟩ ?_
   ·
    have ah0 := slRep.ch k_Slice_pos ah0 ck
    have k4 := k4.ch0 ck
    have h9 := h9.ch0 ck
    have c0 := c0.then0 ck
    refine Need.one rfl rfl rfl ?_
    rintro _ ⟨v14, e28, h15⟩
    obtain rfl := e28.symm
    refine Need.one rfl rfl rfl ?_
    rintro _ e29
    obtain rfl := e29.symm
    refine rl_callF rfl en14 rfl (ctr14 (G F w.heap.size (un (inBlk v5) nb)) wk y12 v14 h15 a1 y18 hy19) ?_
    rintro v32 w30 ⟨_, rfl, h33, c31⟩
    have h33 := SlO.backR k_Candidate_pos h33 (un_lt (fun b hb => (h9.lt b hb).2) nbS) c0.size
    have ah0 := slRep.ch k_Slice_pos ah0 c31
    have k4 := k4.ch0 c31
    have h9 := h9.ch0 c31
    have h15 := slRep.ch k_Candidate_pos h15 c31
    have c0 := c0.then0 c31
    exact RL.nil ⟨_, rfl, c31, ⟨v32, rfl, h33⟩⟩
   refine Each.consA ⟨fun _ _ _ _ _ _ h => h, fun h => absurd rfl h, fun O wk hO ck => ?_⟩ ?_
   ·
    have ah0 := slRep.ch k_Slice_pos ah0 ck
    have k4 := k4.ch0 ck
    have h9 := h9.ch0 ck
    have c0 := c0.then0 ck
    refine Need.one rfl rfl rfl ?_
    rintro _ ⟨v20, e34, h21⟩
    obtain rfl := e34.symm
    refine rl_lenR rfl h21 Try.underlying28 rfl ?_
    exact RL.nil ⟨_, rfl, Ch.refl, rfl⟩
   refine Each.consA ⟨fun _ _ _ _ _ _ h => h, fun h => absurd rfl h, fun O wk hO ck => ?_⟩ ?_
   ·
    have ah0 := slRep.ch k_Slice_pos ah0 ck
    have k4 := k4.ch0 ck
    have h9 := h9.ch0 ck
    have c0 := c0.then0 ck
    refine rl_move rfl rfl ?_
    exact RL.nil ⟨_, rfl, Ch.refl, rfl⟩
   trivial
  ·
   intro hvO37 OpO37 O37 w35 hO38 c36 hN39
   have ah0 := slRep.ch k_Slice_pos ah0 c36
   have k4 := k4.ch0 c36
   have h9 := h9.ch0 c36
   have c0 := c0.then0 c36
   refine Need.one rfl rfl rfl ?_
   rintro _ ⟨v20, e40, h21⟩
   obtain rfl := e40.symm
   refine Need.one rfl rfl rfl ?_
   rintro _ e41
   obtain rfl := e41.symm
   refine Need.one rfl rfl rfl ?_
   rintro _ e42
   obtain rfl := e42.symm
   refine RL.nil ?_
   refine thn_n ?_
   obtain ⟨o53, ho54, hS⟩ := bindS hS
   refine CW.cutB (fun E' w' => ∃ (x43 : (List Point)) (v44 : Value), Sub [(5, v44)] E' ∧ Ch nb w w' ∧ x43 = o53 ∧ slRep k_Slice (G F w.heap.size (un (inBlk v44) nb)) w' a0 av0 ∧ Blk w' p1 35 (Want.enc a1) ∧ slRep k_Candidate (G F w.heap.size (un (inBlk v44) nb)) w' y18 v20 ∧ SlO k_Point 41 F w.heap.size (un (inBlk v44) nb) w' x43 v44 ∧ (G F w.heap.size (un (inBlk v44) nb)) p1) ?_ ?_
   ·
    refine CW.loopS [(13, v20), (14, (Value.int .i64 ((y18.length : Nat) : Int))), (5, v5), (15, (Value.int .i64 ((0 : Nat) : Int)))] ⟨rfl, rfl, rfl, rfl, trivial⟩ y18.length (fun m E w' => ∃ (rest46 : List Candidate) (i47 : Nat) (x43 : (List Point)) (v44 : Value), m = rest46.length ∧ E = [(13, v20), (14, (Value.int .i64 ((y18.length : Nat) : Int))), (5, v44), (15, (Value.int .i64 ((i47 : Nat) : Int)))] ∧ Ch nb w w' ∧ At y18 i47 rest46 ∧ runAO F22_linkboyref19_Points_b1 rest46 x43 = some o53 ∧ slRep k_Slice (G F w.heap.size (un (inBlk v44) nb)) w' a0 av0 ∧ Blk w' p1 35 (Want.enc a1) ∧ slRep k_Candidate (G F w.heap.size (un (inBlk v44) nb)) w' y18 v20 ∧ SlO k_Point 41 F w.heap.size (un (inBlk v44) nb) w' x43 v44 ∧ (G F w.heap.size (un (inBlk v44) nb)) p1)
        ⟨y18, 0, [], v5, rfl, rfl, c0, At.start, ho54, ah0, k4, h21, h9, gp1⟩ ?_
    rintro _ _ w59 ⟨rest46, i47, x43, v44, rfl, rfl, c58, hat49, hL48, ah0, k4, h21, h45, gp1⟩
    refine CW.seq (CW.region ?_)
    refine rl_bin rfl rfl B.lss rfl ?_
    refine RL.nil (thn_n ?_)
    refine CW.seq ?_
    refine CW.cond (t := decide (((i47 : Nat) : Int) < ((y18.length : Nat) : Int))) rfl (fun q61 => ?_) (fun q61 => ?_)
    ·
     obtain ⟨x55, rest62, rfl⟩ := hat49.cons q61
     obtain ⟨q50, hq51⟩ := runAO_some hL48
     have hb52 := hq51
     refine CW.skip (thn_n ?_)
     refine CW.seq ?_
     refine CW.block ?_
     refine CW.seq (CW.region ?_)
     refine rl_ixR rfl h21 rfl hat49.get Try.underlying28 Try.sizeOf58 rfl ?_
     intro p63 o64 cs65 hr66 hs67 hg68
     obtain ⟨z69, rfl, h70⟩ := hr66
     refine rl_loadA (cs := (Candidate.c x55 z69)) rfl Try.isAgg58 Try.sizeOf58 (hs67) rfl rfl ?_
     refine rl_alloc (Candidate.c Candidate.z (Value.slice none 0 0)) Try.zeroValue58 rfl rfl ?_
     intro p71 w72 n73 k74
     have lo75 : ∀ b, inBlk (Value.pointer (some ⟨p71, 0, none⟩)) b → w.heap.size ≤ b := fun b h => Nat.le_trans c58.size (n73.fresh b h)
     have d76 : ∀ b, inBlk (Value.pointer (some ⟨p71, 0, none⟩)) b → ¬ inBlk v44 b := disNew n73.fresh (fun b hb => (h45.lt b hb).2)
     have ah0 := slRep.st k_Slice_pos ah0 n73.ch (admNew n73.fresh (fun _ x => x))
     have gp1n : (G F w.heap.size (un (inBlk (Value.pointer (some ⟨p71, 0, none⟩))) (un (inBlk v44) nb))) p1 := ⟨gp1.1, ((admNew n73.fresh (fun _ x => x)) _ k4.lt gp1.2).2⟩
     have k4 := k4.ch0 n73.ch
     have gp1 := gp1n
     have h21 := slRep.st k_Candidate_pos h21 n73.ch (admNew n73.fresh (fun _ x => x))
     have h45 := h45.st n73.ch (fun _ _ x => x) (admNew n73.fresh (fun _ x => x)) (fun b h => (.inr (.inl h)))
     have h70 := slRep.st kStr_pos h70 n73.ch (admNew n73.fresh (fun _ x => x))
     have c58 := c58.then0 n73.ch
     refine rl_storeA (vs := (Candidate.c x55 z69)) rfl rfl (Kd.one _ (show k_Candidate.rep (G F w.heap.size (un (inBlk (Value.pointer (some ⟨p71, 0, none⟩))) (un (inBlk v44) nb))) w72 x55 (Candidate.c x55 z69) from ⟨z69, rfl, h70⟩)) Try.sizeOf58 rfl k74 rfl ?_
     intro w77 s79 c78 k80
     have ad81 : ∀ b, b < w72.heap.size → ¬ (un (inBlk (Value.pointer (some ⟨p71, 0, none⟩))) (un (inBlk v44) nb)) b → ¬ (inBlk (Value.pointer (some ⟨p71, 0, none⟩))) b ∧ ¬ (un (inBlk (Value.pointer (some ⟨p71, 0, none⟩))) (un (inBlk v44) nb)) b := fun b _ hs => ⟨fun h => hs (.inl h), hs⟩
     have ah0 := slRep.st k_Slice_pos ah0 c78 ad81
     have k4 := k4.ch c78 (ad81 _ k4.lt gp1.2).1
     have h21 := slRep.st k_Candidate_pos h21 c78 ad81
     have h45 := h45.st c78 (fun b hb h => (disSym d76) b hb h) ad81 (fun b h => (.inr (.inl h)))
     have h70 := slRep.st kStr_pos h70 c78 ad81
     have c58 := c58.then c78 (fun i hi h => absurd (lo75 i h) (Nat.not_le_of_lt hi))
     refine RL.nil ?_
     refine thn_n ?_
     refine CW.region ?_
     refine rl_move rfl rfl ?_
     refine rl_fieldAddr rfl fa58_0 rfl ?_
     refine rl_loadA (cs := (Point.enc x55.point)) rfl Try.isAgg41 Try.sizeOf41 (k80.segAt 0 18) rfl rfl ?_
     refine rl_bslice (k := k_Point) (F := F) (B := w.heap.size) (S := (un (inBlk (Value.pointer (some ⟨p71, 0, none⟩))) (un (inBlk v44) nb))) ([x55.point] : List Point) rfl k_Point_pos Try.underlying53 Try.sizeOf41 Try.zeroValue41 rfl rfl ⟨rfl, rfl, trivial⟩ c58.size (un_lt k80.ltp (un_lt (fun b hb => (h45.lt b hb).2) nbS)) rfl ?_
     intro v82 w83 c84 hf85 h86
     have h86 := h86.readNew k_Point_pos hf85 (un_lt k80.ltp (un_lt (fun b hb => (h45.lt b hb).2) nbS))
     have ah0 := slRep.ch k_Slice_pos ah0 c84
     have k4 := k4.ch0 c84
     have h21 := slRep.ch k_Candidate_pos h21 c84
     have h45 := h45.ch0 c84
     have h70 := slRep.ch kStr_pos h70 c84
     have k80 := k80.ch0 c84
     have c58 := c58.then0 c84
     obtain ⟨z95, hz96, hb52⟩ := bindS hb52
     have hl := (apO_get hz96).1
     refine rl_append (k := k_Point) (T := 41) (F := F) (B := w.heap.size) (S := (un (inBlk (Value.pointer (some ⟨p71, 0, none⟩))) (un (inBlk v44) nb))) (S2 := (un (inBlk (Value.pointer (some ⟨p71, 0, none⟩))) nb)) (fun v => (un (inBlk (Value.pointer (some ⟨p71, 0, none⟩))) (un (inBlk v) nb))) rfl rfl k_Point_pos ap53 h45 h86 (fun _ => un_swap) (fun _ _ => un_swap) hl c58.size (un_lt k80.ltp (un_lt (fun b hb => (h45.lt b hb).2) nbS)) rfl ?_
     intro v89 w90 h91 c92 hf93 ha94
     have d97 : ∀ b, inBlk v89 b → ¬ inBlk (Value.pointer (some ⟨p71, 0, none⟩)) b := disApp hf93 (disSym d76) k80.ltp
     have ah0 := slRep.st k_Slice_pos ah0 c92 ha94
     have gp1n : (G F w.heap.size (un (inBlk (Value.pointer (some ⟨p71, 0, none⟩))) (un (inBlk v89) nb))) p1 := ⟨gp1.1, (ha94 _ k4.lt gp1.2).2⟩
     have k4 := k4.ch c92 (ha94 _ k4.lt gp1.2).1
     have gp1 := gp1n
     have h21 := slRep.st k_Candidate_pos h21 c92 ha94
     have h70 := slRep.st kStr_pos h70 c92 ha94
     have k80 := k80.ch c92 ((fun b hb h => d76 b hb h) _ rfl)
     have h86 := slRep.st k_Point_pos h86 c92 ha94
     have c58 := c58.then c92 (fun i hi h => absurd ((fun b hb => (h45.lt b hb).1) i h) (Nat.not_le_of_lt hi))
     refine rl_assign rfl rfl ?_
     refine RL.nil ?_
     refine inB_n ?_
     refine thn_n ?_
     refine CW.region ?_
     refine rl_inc rfl hat49.lt h21.big rfl ?_
     refine rl_move rfl rfl ?_
     refine RL.nil ?_
     refine thn_n ?_
     have crf : Ch nb w90 w90 := Ch.refl
     have ah0 := slRep.st k_Slice_pos ah0 crf (show ∀ b, b < w90.heap.size → ¬ (un (inBlk (Value.pointer (some ⟨p71, 0, none⟩))) (un (inBlk v89) nb)) b → ¬ nb b ∧ ¬ (un (inBlk v89) nb) b from fun b _ hs => ⟨fun x => x, fun h => hs (un_el h (fun h => (.inr (.inl h))) (fun h => False.elim h))⟩)
     have gp1n : (G F w.heap.size (un (inBlk v89) nb)) p1 := ⟨gp1.1, ((show ∀ b, b < w90.heap.size → ¬ (un (inBlk (Value.pointer (some ⟨p71, 0, none⟩))) (un (inBlk v89) nb)) b → ¬ nb b ∧ ¬ (un (inBlk v89) nb) b from fun b _ hs => ⟨fun x => x, fun h => hs (un_el h (fun h => (.inr (.inl h))) (fun h => False.elim h))⟩) _ k4.lt gp1.2).2⟩
     have k4 := k4.ch0 crf
     have gp1 := gp1n
     have h21 := slRep.st k_Candidate_pos h21 crf (show ∀ b, b < w90.heap.size → ¬ (un (inBlk (Value.pointer (some ⟨p71, 0, none⟩))) (un (inBlk v89) nb)) b → ¬ nb b ∧ ¬ (un (inBlk v89) nb) b from fun b _ hs => ⟨fun x => x, fun h => hs (un_el h (fun h => (.inr (.inl h))) (fun h => False.elim h))⟩)
     have h70 := slRep.st kStr_pos h70 crf (show ∀ b, b < w90.heap.size → ¬ (un (inBlk (Value.pointer (some ⟨p71, 0, none⟩))) (un (inBlk v89) nb)) b → ¬ nb b ∧ ¬ (un (inBlk v89) nb) b from fun b _ hs => ⟨fun x => x, fun h => hs (un_el h (fun h => (.inr (.inl h))) (fun h => False.elim h))⟩)
     have h86 := slRep.st k_Point_pos h86 crf (show ∀ b, b < w90.heap.size → ¬ (un (inBlk (Value.pointer (some ⟨p71, 0, none⟩))) (un (inBlk v89) nb)) b → ¬ nb b ∧ ¬ (un (inBlk v89) nb) b from fun b _ hs => ⟨fun x => x, fun h => hs (un_el h (fun h => (.inr (.inl h))) (fun h => False.elim h))⟩)
     have h91 := h91.st crf (fun _ _ x => x) (show ∀ b, b < w90.heap.size → ¬ (un (inBlk (Value.pointer (some ⟨p71, 0, none⟩))) (un (inBlk v89) nb)) b → ¬ nb b ∧ ¬ (un (inBlk v89) nb) b from fun b _ hs => ⟨fun x => x, fun h => hs (un_el h (fun h => (.inr (.inl h))) (fun h => False.elim h))⟩) (fun b h => (.inl h))
     have c58 := c58.then0 crf
     have hLn := runAO_next hL48 hq51 hb52
     exact ⟨rest62.length, Nat.lt_succ_self _, [(13, v20), (14, (Value.int .i64 ((y18.length : Nat) : Int))), (5, v89), (15, (Value.int .i64 ((i47 + 1 : Nat) : Int)))], ⟨rfl, rfl, rfl, rfl, trivial⟩, ⟨rest62, i47 + 1, x43 ++ [x55.point], v89, rfl, rfl, c58, hat49.next, hLn, ah0, k4, h21, h91, gp1⟩⟩
    ·
     obtain rfl := hat49.nil q61
     have hLf : x43 = o53 := runAO_done hL48
     refine CW.exit (thn_exit (thn_exit (inB_hit ?_)))
     exact ⟨x43, v44, ⟨rfl, trivial⟩, c58, hLf, ah0, k4, h21, h45, gp1⟩
   ·
    rintro _ w99 ⟨x43, v44, hE100, c98, f101, ah0, k4, h21, h45, gp1⟩
    subst f101
    refine thn_n (CW.sub [(5, v44)] hE100 ?_)
    refine CW.seq (CW.region ?_)
    refine rl_move rfl rfl ?_
    have h45 := SlO.read (S' := nb) k_Point_pos h45 (fun b hs h => hs (False.elim h)) (fun b hb => fun h => h)
    have crf : Ch nb w99 w99 := Ch.refl
    have ah0 := slRep.st k_Slice_pos ah0 crf (show ∀ b, b < w99.heap.size → ¬ (un (inBlk v44) nb) b → ¬ nb b ∧ ¬ nb b from fun b _ hs => ⟨fun x => x, fun h => hs (False.elim h)⟩)
    have gp1n : (G F w.heap.size nb) p1 := ⟨gp1.1, ((show ∀ b, b < w99.heap.size → ¬ (un (inBlk v44) nb) b → ¬ nb b ∧ ¬ nb b from fun b _ hs => ⟨fun x => x, fun h => hs (False.elim h)⟩) _ k4.lt gp1.2).2⟩
    have k4 := k4.ch0 crf
    have gp1 := gp1n
    have h21 := slRep.st k_Candidate_pos h21 crf (show ∀ b, b < w99.heap.size → ¬ (un (inBlk v44) nb) b → ¬ nb b ∧ ¬ nb b from fun b _ hs => ⟨fun x => x, fun h => hs (False.elim h)⟩)
    have c98 := c98.then0 crf
    obtain ⟨y105, hy106, hS⟩ := bindS hS
    refine rl_callF rfl en39 rfl (ctr39 (G F w.heap.size nb) w99 x43 v44 h45 y105 hy106) ?_
    rintro v107 w103 ⟨_, rfl, h108, c104⟩
    have hf109 : ∀ b, inBlk v107 b → w99.heap.size ≤ b := fun b hb => (h108.lt b hb).1
    have h108 := SlO.back (S' := un (inBlk v107) nb) h108 nbS c98.size (fun _ => Or.comm)
    have ah0 := slRep.st k_Slice_pos ah0 c104 (admNew hf109 (fun _ x => x))
    have gp1n : (G F w.heap.size (un (inBlk v107) nb)) p1 := ⟨gp1.1, ((admNew hf109 (fun _ x => x)) _ k4.lt gp1.2).2⟩
    have k4 := k4.ch0 c104
    have gp1 := gp1n
    have h21 := slRep.st k_Candidate_pos h21 c104 (admNew hf109 (fun _ x => x))
    have h45 := slRep.st k_Point_pos h45 c104 (admNew hf109 (fun _ x => x))
    have c98 := c98.then0 c104
    refine rl_assign rfl rfl ?_
    refine RL.nil ?_
    refine thn_n ?_
    refine CW.ret ?_
    obtain rfl := Option.some.inj hS
    exact ret1 rfl ⟨v107, rfl, h108.out, c98⟩
/-- lb/lblaw19.points -/
theorem ctr20 (F : Nat → Prop) (w : World) (a0 : (List Point)) (av0 : Value) (ah0 : slRep k_Point F w a0 av0) (a1 : (List Point)) (av1 : Value) (ah1 : slRep k_Point F w a1 av1) (r : Bool) (hs : F20_linkboylaw19_points a0 a1 = some r) :
    Ret Try.prog 20 #[av0, av1] w fun v w' => v = (Value.bool r) ∧ Ch nb w w' := by
  have hS := hs
  have c0 : Ch nb w w := Ch.refl
  have ah0 := slRep.enter k_Point_pos ah0
  have ah1 := slRep.enter k_Point_pos ah1
  refine Ret.of (n := 26) (args := [_, _]) (rs := [.tmp 4]) Try.func20 rfl rfl rfl rfl ?_
  refine CW.seq (CW.region ?_)
  refine rl_assign rfl rfl ?_
  refine RL.nil ?_
  refine thn_n ?_
  refine CW.seq ?_
  refine CW.seq (CW.region ?_)
  refine rl_move rfl rfl ?_
  refine rl_lenR rfl ah0 Try.underlying53 rfl ?_
  refine rl_move rfl rfl ?_
  refine rl_lenR rfl ah1 Try.underlying53 rfl ?_
  refine rl_bin rfl rfl B.neq rfl ?_
  refine RL.nil ?_
  refine thn_n ?_
  refine CW.cond (t := !decide (((a0.length : Nat) : Int) = ((a1.length : Nat) : Int))) rfl (fun q1 => ?_) (fun q1 => ?_)
  ·
   have hS := ifT q1 hS
   refine CW.seq (CW.region ?_)
   refine rl_assign rfl rfl ?_
   refine RL.nil ?_
   refine thn_n ?_
   refine CW.ret ?_
   refine thn_ret ?_
   obtain rfl := Option.some.inj hS
   exact ret1 rfl ⟨rfl, c0⟩
  ·
   have hS := ifF q1 hS
   refine CW.skip ?_
   refine thn_n ?_
   refine CW.seq ?_
   refine CW.seq (CW.region ?_)
   refine rl_move rfl rfl ?_
   refine rl_lenR rfl ah0 Try.underlying53 rfl ?_
   refine rl_move rfl rfl ?_
   refine RL.nil ?_
   refine thn_n ?_
   obtain ⟨o9, ho10, hS⟩ := bindS hS
   refine CW.cutB (fun E' w' => ∃ (ix16 : Nat), Sub [] E' ∧ Ch nb w w' ∧ Lp.fin ix16 = o9 ∧ slRep k_Point (G F w.heap.size nb) w' a0 av0 ∧ slRep k_Point (G F w.heap.size nb) w' a1 av1) ?_ ?_
   ·
    refine CW.loopS [(0, av0), (1, av1), (12, (Value.int .i64 ((a0.length : Nat) : Int))), (13, (Value.int .i64 ((0 : Nat) : Int)))] ⟨rfl, rfl, rfl, rfl, trivial⟩ a0.length (fun m E w' => ∃ (rest2 : List Point) (i3 : Nat) , m = rest2.length ∧ E = [(0, av0), (1, av1), (12, (Value.int .i64 ((a0.length : Nat) : Int))), (13, (Value.int .i64 ((i3 : Nat) : Int)))] ∧ Ch nb w w' ∧ At a0 i3 rest2 ∧ runBO (F20_linkboylaw19_points_b1 a1) rest2 i3 = some o9 ∧ slRep k_Point (G F w.heap.size nb) w' a0 av0 ∧ slRep k_Point (G F w.heap.size nb) w' a1 av1)
        ⟨a0, 0, rfl, rfl, c0, At.start, ho10, ah0, ah1⟩ ?_
    rintro _ _ w15 ⟨rest2, i3, rfl, rfl, c14, hat5, hL4, ah0, ah1⟩
    refine CW.seq (CW.region ?_)
    refine rl_bin rfl rfl B.lss rfl ?_
    refine RL.nil (thn_n ?_)
    refine CW.seq ?_
    refine CW.cond (t := decide (((i3 : Nat) : Int) < ((a0.length : Nat) : Int))) rfl (fun q17 => ?_) (fun q17 => ?_)
    ·
     obtain ⟨x11, rest18, rfl⟩ := hat5.cons q17
     obtain ⟨q6, hq7⟩ := runBO_some hL4
     have hb8 := hq7
     refine CW.skip (thn_n ?_)
     refine CW.seq ?_
     refine CW.block ?_
     refine CW.seq (CW.region ?_)
     refine rl_move rfl rfl ?_
     refine rl_assign rfl rfl ?_
     refine RL.nil ?_
     refine thn_n ?_
     refine CW.seq ?_
     obtain ⟨y31, hy32, hb8⟩ := bindS hb8
     refine CW.draw 8 [(none, fun _ O uu wx => uu = av0), (none, fun _ O uu wx => uu = (Value.int .i64 ((i3 : Nat) : Int))), (none, fun _ O uu wx => ∃ (p19 : Nat) (o20 : Nat), uu = (Value.pointer (some ⟨p19, o20, none⟩)) ∧ (G F w.heap.size nb) p19 ∧ Seg wx p19 o20 (Point.enc x11)), (none, fun _ O uu wx => uu = (Value.agg (Point.enc x11).toArray)), (none, fun _ O uu wx => uu = av1), (none, fun _ O uu wx => uu = (Value.int .i64 ((i3 : Nat) : Int))), (none, fun _ O uu wx => ∃ (p25 : Nat) (o26 : Nat), uu = (Value.pointer (some ⟨p25, o26, none⟩)) ∧ (G F w.heap.size nb) p25 ∧ Seg wx p25 o26 (Point.enc y31)), (none, fun _ O uu wx => uu = (Value.agg (Point.enc y31).toArray))] [[], [], [0, 1], [2], [], [], [4, 5], [6]] [3, 7] nb (fun _ h => h.elim) mixed rfl rfl rfl rfl ?_ ?_
     ·
      refine Each.consA ⟨fun _ _ _ _ _ _ h => h, fun h => absurd rfl h, fun O wk hO ck => ?_⟩ ?_
      ·
       have ah0 := slRep.ch k_Point_pos ah0 ck
       have ah1 := slRep.ch k_Point_pos ah1 ck
       have c14 := c14.then0 ck
       refine rl_move rfl rfl ?_
       exact RL.nil ⟨_, rfl, Ch.refl, rfl⟩
      refine Each.consA ⟨fun _ _ _ _ _ _ h => h, fun h => absurd rfl h, fun O wk hO ck => ?_⟩ ?_
      ·
       have ah0 := slRep.ch k_Point_pos ah0 ck
       have ah1 := slRep.ch k_Point_pos ah1 ck
       have c14 := c14.then0 ck
       refine rl_move rfl rfl ?_
       exact RL.nil ⟨_, rfl, Ch.refl, rfl⟩
      refine Each.consA ⟨fun _ _ _ _ _ cc hh => by obtain ⟨p19, o20, e, hg24, hs23⟩ := hh; exact ⟨p19, o20, e, hg24, hs23.ch0 cc⟩, fun h => absurd rfl h, fun O wk hO ck => ?_⟩ ?_
      ·
       have ah0 := slRep.ch k_Point_pos ah0 ck
       have ah1 := slRep.ch k_Point_pos ah1 ck
       have c14 := c14.then0 ck
       refine Need.one rfl rfl rfl ?_
       rintro _ e33
       obtain rfl := e33.symm
       refine Need.one rfl rfl rfl ?_
       rintro _ e34
       obtain rfl := e34.symm
       refine rl_ixR rfl ah0 rfl hat5.get Try.underlying53 Try.sizeOf41 rfl ?_
       intro p35 o36 cs37 hr38 hs39 hg40
       obtain rfl := hr38
       exact RL.nil ⟨_, rfl, Ch.refl, ⟨p35, o36, rfl, hg40, hs39⟩⟩
      refine Each.consA ⟨fun _ _ _ _ _ _ h => h, fun h => absurd rfl h, fun O wk hO ck => ?_⟩ ?_
      ·
       have ah0 := slRep.ch k_Point_pos ah0 ck
       have ah1 := slRep.ch k_Point_pos ah1 ck
       have c14 := c14.then0 ck
       refine Need.one rfl rfl rfl ?_
       rintro _ ⟨p19, o20, e41, hg24, hs23⟩
       obtain rfl := e41.symm
       refine rl_loadA (cs := (Point.enc x11)) rfl Try.isAgg41 Try.sizeOf41 (hs23) rfl rfl ?_
       exact RL.nil ⟨_, rfl, Ch.refl, rfl⟩
      refine Each.consA ⟨fun _ _ _ _ _ _ h => h, fun h => absurd rfl h, fun O wk hO ck => ?_⟩ ?_
      ·
       have ah0 := slRep.ch k_Point_pos ah0 ck
       have ah1 := slRep.ch k_Point_pos ah1 ck
       have c14 := c14.then0 ck
       refine rl_move rfl rfl ?_
       exact RL.nil ⟨_, rfl, Ch.refl, rfl⟩
      refine Each.consA ⟨fun _ _ _ _ _ _ h => h, fun h => absurd rfl h, fun O wk hO ck => ?_⟩ ?_
      ·
       have ah0 := slRep.ch k_Point_pos ah0 ck
       have ah1 := slRep.ch k_Point_pos ah1 ck
       have c14 := c14.then0 ck
       refine rl_move rfl rfl ?_
       exact RL.nil ⟨_, rfl, Ch.refl, rfl⟩
      refine Each.consA ⟨fun _ _ _ _ _ cc hh => by obtain ⟨p25, o26, e, hg30, hs29⟩ := hh; exact ⟨p25, o26, e, hg30, hs29.ch0 cc⟩, fun h => absurd rfl h, fun O wk hO ck => ?_⟩ ?_
      ·
       have ah0 := slRep.ch k_Point_pos ah0 ck
       have ah1 := slRep.ch k_Point_pos ah1 ck
       have c14 := c14.then0 ck
       refine Need.one rfl rfl rfl ?_
       rintro _ e42
       obtain rfl := e42.symm
       refine Need.one rfl rfl rfl ?_
       rintro _ e43
       obtain rfl := e43.symm
       refine rl_ixR rfl ah1 rfl (ixO_nat hy32) Try.underlying53 Try.sizeOf41 rfl ?_
       intro p44 o45 cs46 hr47 hs48 hg49
       obtain rfl := hr47
       exact RL.nil ⟨_, rfl, Ch.refl, ⟨p44, o45, rfl, hg49, hs48⟩⟩
      refine Each.consA ⟨fun _ _ _ _ _ _ h => h, fun h => absurd rfl h, fun O wk hO ck => ?_⟩ ?_
      ·
       have ah0 := slRep.ch k_Point_pos ah0 ck
       have ah1 := slRep.ch k_Point_pos ah1 ck
       have c14 := c14.then0 ck
       refine Need.one rfl rfl rfl ?_
       rintro _ ⟨p25, o26, e50, hg30, hs29⟩
       obtain rfl := e50.symm
       refine rl_loadA (cs := (Point.enc y31)) rfl Try.isAgg41 Try.sizeOf41 (hs29) rfl rfl ?_
       exact RL.nil ⟨_, rfl, Ch.refl, rfl⟩
      trivial
     ·
      intro hvO53 OpO53 O53 w51 hO54 c52 hN55
      have ah0 := slRep.ch k_Point_pos ah0 c52
      have ah1 := slRep.ch k_Point_pos ah1 c52
      have c14 := c14.then0 c52
      refine Need.one rfl rfl rfl ?_
      rintro _ e56
      obtain rfl := e56.symm
      refine Need.one rfl rfl rfl ?_
      rintro _ e57
      obtain rfl := e57.symm
      refine rl_bin rfl rfl (neq41 x11 y31) rfl ?_
      refine RL.nil ?_
      refine thn_n ?_
      refine CW.cond (t := !decide (x11 = y31)) rfl (fun q58 => ?_) (fun q58 => ?_)
      ·
       have hb8 := ifT q58 hb8
       refine CW.seq (CW.region ?_)
       refine rl_assign rfl rfl ?_
       refine RL.nil ?_
       refine thn_n ?_
       refine CW.ret ?_
       refine inB_ret ?_
       refine thn_ret ?_
       refine thn_ret (inB_ret (thn_ret ?_))
       refine thn_ret ?_
       have f59 := runBO_ret hL4 hq7 hb8
       have hS := retS f59 hS
       obtain rfl := Option.some.inj hS
       exact ret1 rfl ⟨rfl, c14⟩
      ·
       have hb8 := ifF q58 hb8
       refine CW.skip ?_
       refine inB_n ?_
       refine thn_n ?_
       refine CW.region ?_
       refine rl_inc rfl hat5.lt ah0.big rfl ?_
       refine rl_move rfl rfl ?_
       refine RL.nil ?_
       refine thn_n ?_
       have hLn := runBO_next hL4 hq7 hb8
       exact ⟨rest18.length, Nat.lt_succ_self _, [(0, av0), (1, av1), (12, (Value.int .i64 ((a0.length : Nat) : Int))), (13, (Value.int .i64 ((i3 + 1 : Nat) : Int)))], ⟨rfl, rfl, rfl, rfl, trivial⟩, ⟨rest18, i3 + 1, rfl, rfl, c14, hat5.next, hLn, ah0, ah1⟩⟩
    ·
     obtain rfl := hat5.nil q17
     have hLf : Lp.fin i3 = o9 := runBO_done hL4
     refine CW.exit (thn_exit (thn_exit (inB_hit ?_)))
     exact ⟨i3, trivial, c14, hLf, ah0, ah1⟩
   ·
    rintro _ w61 ⟨ix16, hE62, c60, f63, ah0, ah1⟩
    have hS := finS f63 hS
    refine thn_n (CW.sub [] hE62 ?_)
    refine CW.seq (CW.region ?_)
    refine rl_assign rfl rfl ?_
    refine RL.nil ?_
    refine thn_n ?_
    refine CW.ret ?_
    obtain rfl := Option.some.inj hS
    exact ret1 rfl ⟨rfl, c60⟩
/-- lb/lblaw19.PickPoints -/
theorem ctr5 (F : Nat → Prop) (w : World) (a0 : (List Slice)) (av0 : Value) (ah0 : slRep k_Slice F w a0 av0) (a1 : Want) (r : Bool) (hs : F5_linkboylaw19_PickPoints a0 a1 = some r) :
    Ret Try.prog 5 #[av0, (Value.agg (Want.enc a1).toArray)] w fun v w' => v = (Value.bool r) ∧ Ch nb w w' := by
  have hS := hs
  have c0 : Ch nb w w := Ch.refl
  have ah0 := slRep.enter k_Slice_pos ah0
  refine Ret.of (n := 35) (args := [_, _]) (rs := [.tmp 4]) Try.func5 rfl rfl rfl rfl ?_
  refine CW.seq (CW.region ?_)
  refine rl_boxA (cs := (Want.enc a1)) rfl rfl ?_
  intro p1 w2 n3 k4
  have gp1 : (G F w.heap.size nb) p1 := ⟨.inr (by rw [n3.eq]; exact c0.size), fun h => absurd (nbS _ h) (by rw [n3.eq]; exact Nat.lt_irrefl _)⟩
  have ah0 := slRep.ch k_Slice_pos ah0 n3.ch
  have c0 := c0.then0 n3.ch
  refine rl_assign rfl rfl ?_
  refine RL.nil ?_
  refine thn_n ?_
  refine CW.seq ?_
  refine CW.seq (CW.region ?_)
  obtain ⟨y7, hy8, hS⟩ := bindS hS
  refine rl_callF rfl en6 rfl (ctr6 (G F w.heap.size nb) w2  y7 hy8) ?_
  rintro _ w5 ⟨rfl, c6⟩
  have ah0 := slRep.ch k_Slice_pos ah0 c6
  have k4 := k4.ch0 c6
  have c0 := c0.then0 c6
  refine rl_not rfl rfl ?_
  refine RL.nil ?_
  refine thn_n ?_
  refine CW.cond (t := !y7) rfl (fun q9 => ?_) (fun q9 => ?_)
  ·
   have hS := ifT q9 hS
   refine CW.seq (CW.region ?_)
   refine rl_assign rfl rfl ?_
   refine RL.nil ?_
   refine thn_n ?_
   refine CW.ret ?_
   refine thn_ret ?_
   obtain rfl := Option.some.inj hS
   exact ret1 rfl ⟨rfl, c0⟩
  ·
   have hS := ifF q9 hS
   refine CW.skip ?_
   refine thn_n ?_
   refine CW.seq ?_
   refine CW.seq (CW.region ?_)
   refine rl_move rfl rfl ?_
   obtain ⟨y12, hy13⟩ : ∃ y, F16_linkboylaw19_Long a0 = y := ⟨_, rfl⟩
   have hS := ltS hy13 hS
   refine rl_callF rfl en16 rfl (ctr16 (G F w.heap.size nb) w5 a0 av0 ah0 y12 hy13) ?_
   rintro _ w10 ⟨rfl, c11⟩
   have ah0 := slRep.ch k_Slice_pos ah0 c11
   have k4 := k4.ch0 c11
   have c0 := c0.then0 c11
   refine rl_move rfl rfl ?_
   obtain ⟨b16, hb17⟩ : ∃ v, (y12 || (lt (F8_linkboylaw19_long a1) fun y18 => y18)) = v := ⟨_, rfl⟩
   have hS := ltS hb17 hS
   refine RL.join 3 14 (.bool b16) (fun w' => Ch nb w10 w') ?_ ?_
   · rcases Bool.eq_false_or_eq_true y12 with hg15 | hg15
     ·
      have hs14 := or_t hg15 hb17
      have cs : Ch nb w10 w10 := Ch.refl
      refine RL.no rfl rfl rfl hg15 rfl rfl ?_
      refine RL.no rfl rfl rfl hg15 rfl rfl ?_
      refine rl_pickT rfl hg15 rfl rfl ?_
      exact RL.nil ⟨Ext.bothEq (congrArg Value.bool hs14) (Ext.skip rfl (Ext.skip rfl (Ext.rfl'))), cs⟩
     ·
      have hs14 := or_f hg15 hb17
      have cs : Ch nb w10 w10 := Ch.refl
      refine RL.yes rfl rfl rfl hg15 ?_
      refine rl_loadA (cs := (Want.enc a1)) rfl Try.isAgg24 Try.sizeOf24 (k4.segAt 0 7) rfl rfl ?_
      refine RL.yes rfl rfl rfl hg15 ?_
      obtain ⟨y21, hy22⟩ : ∃ y, F8_linkboylaw19_long a1 = y := ⟨_, rfl⟩
      have hs14 := ltS hy22 hs14
      refine rl_callF rfl en8 rfl (ctr8 (G F w.heap.size nb) w10 a1 y21 hy22) ?_
      rintro _ w19 ⟨rfl, c20⟩
      have ah0 := slRep.ch k_Slice_pos ah0 c20
      have k4 := k4.ch0 c20
      have c0 := c0.then0 c20
      refine rl_pickF rfl hg15 rfl rfl ?_
      have cs := cs.then0 c20
      exact RL.nil ⟨Ext.bothEq (congrArg Value.bool hs14) (Ext.skip rfl (Ext.skip rfl (Ext.rfl'))), cs⟩
   intro w18 c23
   have ah0 := slRep.ch k_Slice_pos ah0 c23
   have k4 := k4.ch0 c23
   have c0 := c0.then0 c23
   refine RL.nil ?_
   refine thn_n ?_
   refine CW.cond (t := b16) rfl (fun q24 => ?_) (fun q24 => ?_)
   ·
    have hS := ifT q24 hS
    refine CW.seq (CW.region ?_)
    refine rl_assign rfl rfl ?_
    refine RL.nil ?_
    refine thn_n ?_
    refine CW.ret ?_
    refine thn_ret ?_
    obtain rfl := Option.some.inj hS
    exact ret1 rfl ⟨rfl, c0⟩
   ·
    have hS := ifF q24 hS
    refine CW.skip ?_
    refine thn_n ?_
    refine CW.seq ?_
    obtain ⟨y27, hy28, hS⟩ := bindS hS
    refine CW.draw 5 [(none, fun _ O uu wx => uu = av0), (none, fun _ O uu wx => ∃ (v29 : Value), uu = v29 ∧ slRep k_Slice (G F w.heap.size (un O nb)) wx y27 v29), (none, fun _ O uu wx => uu = (Value.agg (Want.enc a1).toArray)), (some false, fun _ O uu wx => ∃ (p31 : Nat), uu = (Value.pointer (some ⟨p31, 0, none⟩)) ∧ O = (inBlk (Value.pointer (some ⟨p31, 0, none⟩))) ∧ Blk wx p31 35 (Want.enc Want.z)), (none, fun _ O uu wx => ∃ (v29_4 : Value), uu = v29_4 ∧ slRep k_Slice (G F w.heap.size (un O nb)) wx y27 v29_4)] [[], [0], [], [], [1]] [3, 2, 4] nb (fun _ h => h.elim) mixed rfl rfl rfl rfl ?_ ?_
    ·
     refine Each.consA ⟨fun _ _ _ _ _ _ h => h, fun _ _ _ _ _ _ _ _ _ _ _ h => h, fun O wk hO ck => ?_⟩ ?_
     ·
      have ha41 : ∀ b, b < w18.heap.size → ¬ nb b → ¬ nb b ∧ ¬ (un O nb) b := fun b hb hs => ⟨fun h => h.elim, fun h => un_el h (fun ho => (hO b ho).1.elim (fun h => h.elim) (fun h => Nat.not_le_of_lt hb h)) (fun h => False.elim h)⟩
      have ah0 := slRep.st k_Slice_pos ah0 ck ha41
      have gp1n : (G F w.heap.size (un O nb)) p1 := ⟨gp1.1, (ha41 _ k4.lt gp1.2).2⟩
      have k4 := k4.ch0 ck
      have gp1 := gp1n
      have c0 := c0.then0 ck
      refine rl_move rfl rfl ?_
      exact RL.nil ⟨_, rfl, Ch.refl, rfl⟩
     refine Each.consA ⟨fun _ _ _ _ _ cc hh => by obtain ⟨v29, e, h30⟩ := hh; exact ⟨v29, e, slRep.ch k_Slice_pos h30 cc⟩, fun _ _ O O' D _ wx wy hD hO' cc hh => by obtain ⟨v29, e, h30⟩ := hh; have ad := admGh (S := nb) hD hO'; exact ⟨v29, e, slRep.st k_Slice_pos h30 cc ad⟩, fun O wk hO ck => ?_⟩ ?_
     ·
      have ha42 : ∀ b, b < w18.heap.size → ¬ nb b → ¬ nb b ∧ ¬ (un O nb) b := fun b hb hs => ⟨fun h => h.elim, fun h => un_el h (fun ho => (hO b ho).1.elim (fun h => h.elim) (fun h => Nat.not_le_of_lt hb h)) (fun h => False.elim h)⟩
      have ah0 := slRep.st k_Slice_pos ah0 ck ha42
      have gp1n : (G F w.heap.size (un O nb)) p1 := ⟨gp1.1, (ha42 _ k4.lt gp1.2).2⟩
      have k4 := k4.ch0 ck
      have gp1 := gp1n
      have c0 := c0.then0 ck
      refine Need.one rfl rfl rfl ?_
      rintro _ e43
      obtain rfl := e43.symm
      refine rl_callF rfl en17 rfl (ctr17 (G F w.heap.size (un O nb)) wk a0 av0 ah0 y27 hy28) ?_
      rintro v46 w44 ⟨_, rfl, h47, c45⟩
      have h47 := SlO.backR k_Slice_pos h47 (un_lt (fun b h => (hO b h).2) nbS) c0.size
      have ah0 := slRep.ch k_Slice_pos ah0 c45
      have k4 := k4.ch0 c45
      have c0 := c0.then0 c45
      exact RL.nil ⟨_, rfl, c45, ⟨v46, rfl, h47⟩⟩
     refine Each.consA ⟨fun _ _ _ _ _ _ h => h, fun _ _ _ _ _ _ _ _ _ _ _ h => h, fun O wk hO ck => ?_⟩ ?_
     ·
      have ha48 : ∀ b, b < w18.heap.size → ¬ nb b → ¬ nb b ∧ ¬ (un O nb) b := fun b hb hs => ⟨fun h => h.elim, fun h => un_el h (fun ho => (hO b ho).1.elim (fun h => h.elim) (fun h => Nat.not_le_of_lt hb h)) (fun h => False.elim h)⟩
      have ah0 := slRep.st k_Slice_pos ah0 ck ha48
      have gp1n : (G F w.heap.size (un O nb)) p1 := ⟨gp1.1, (ha48 _ k4.lt gp1.2).2⟩
      have k4 := k4.ch0 ck
      have gp1 := gp1n
      have c0 := c0.then0 ck
      refine rl_loadA (cs := (Want.enc a1)) rfl Try.isAgg24 Try.sizeOf24 (k4.segAt 0 7) rfl rfl ?_
      exact RL.nil ⟨_, rfl, Ch.refl, rfl⟩
     refine Each.consP ⟨fun _ O _ wx wy cc hh => by obtain ⟨p31, e, rfl, ck3_0⟩ := hh; exact ⟨p31, e, rfl, ck3_0.ch0 cc⟩, fun O wk hO ck => ?_⟩ ?_
     ·
      have ha49 : ∀ b, b < w18.heap.size → ¬ nb b → ¬ nb b ∧ ¬ (un O nb) b := fun b hb hs => ⟨fun h => h, fun h => un_el h (fun ho => (hO b ho).1.elim (fun h => h.elim) (fun h => Nat.not_le_of_lt hb h)) (fun h => False.elim h)⟩
      have ah0 := slRep.st k_Slice_pos ah0 ck ha49
      have gp1n : (G F w.heap.size (un O nb)) p1 := ⟨gp1.1, (ha49 _ k4.lt gp1.2).2⟩
      have k4 := k4.ch0 ck
      have gp1 := gp1n
      have c0 := c0.then0 ck
      refine rl_alloc (Want.enc Want.z) Try.zeroValue35 rfl rfl ?_
      intro p50 w51 n52 k53
      have lo54 : ∀ b, inBlk (Value.pointer (some ⟨p50, 0, none⟩)) b → w.heap.size ≤ b := fun b h => Nat.le_trans c0.size (n52.fresh b h)
      have d55 : ∀ b, inBlk (Value.pointer (some ⟨p50, 0, none⟩)) b → ¬ O b := disNew n52.fresh (fun b h => (hO b h).2)
      have ah0 := slRep.st k_Slice_pos ah0 n52.ch (admNew n52.fresh (fun _ x => x))
      have gp1n : (G F w.heap.size (un (inBlk (Value.pointer (some ⟨p50, 0, none⟩))) (un O nb))) p1 := ⟨gp1.1, ((admNew n52.fresh (fun _ x => x)) _ k4.lt gp1.2).2⟩
      have k4 := k4.ch0 n52.ch
      have gp1 := gp1n
      have c0 := c0.then0 n52.ch
      have hb56 : ∀ b, (inBlk (Value.pointer (some ⟨p50, 0, none⟩))) b → wk.heap.size ≤ b ∧ b < w51.heap.size := fun b h => ⟨n52.fresh b h, k53.ltp b h⟩
      exact RL.nil ⟨_, (inBlk (Value.pointer (some ⟨p50, 0, none⟩))), rfl, hb56, n52.ch, ⟨p50, rfl, rfl, k53⟩⟩
     refine Each.consA ⟨fun _ _ _ _ _ cc hh => by obtain ⟨v29_4, e, h30_4⟩ := hh; exact ⟨v29_4, e, slRep.ch k_Slice_pos h30_4 cc⟩, fun _ _ O O' D _ wx wy hD hO' cc hh => by obtain ⟨v29_4, e, h30_4⟩ := hh; have ad := admGh (S := nb) hD hO'; exact ⟨v29_4, e, slRep.st k_Slice_pos h30_4 cc ad⟩, fun O wk hO ck => ?_⟩ ?_
     ·
      have ha57 : ∀ b, b < w18.heap.size → ¬ nb b → ¬ nb b ∧ ¬ (un O nb) b := fun b hb hs => ⟨fun h => h.elim, fun h => un_el h (fun ho => (hO b ho).1.elim (fun h => h.elim) (fun h => Nat.not_le_of_lt hb h)) (fun h => False.elim h)⟩
      have ah0 := slRep.st k_Slice_pos ah0 ck ha57
      have gp1n : (G F w.heap.size (un O nb)) p1 := ⟨gp1.1, (ha57 _ k4.lt gp1.2).2⟩
      have k4 := k4.ch0 ck
      have gp1 := gp1n
      have c0 := c0.then0 ck
      refine Need.one rfl rfl rfl ?_
      rintro _ ⟨v29, e58, h30⟩
      obtain rfl := e58.symm
      refine rl_assign rfl rfl ?_
      exact RL.nil ⟨_, rfl, Ch.refl, ⟨v29, rfl, h30⟩⟩
     trivial
    ·
     intro hvO61 OpO61 O61 w59 hO62 c60 hN63
     obtain ⟨hlO61, hBO61⟩ := hN63 rfl
     refine Need.made rfl rfl rfl rfl ?_
     rintro _ ⟨p31, e64, eO65, ck3_0⟩ hh66
     obtain rfl := e64.symm
     have io67 : ∀ b, inBlk (Value.pointer (some ⟨p31, 0, none⟩)) b → _ := fun b h => (Eq.mpr (congrFun eO65 b) h)
     have hf68 : ∀ b, inBlk (Value.pointer (some ⟨p31, 0, none⟩)) b → w18.heap.size ≤ b := fun b h => (hBO61.2.2.1 _ b (io67 b h)).1
     obtain rfl := hist_eq [(Value.pointer (some ⟨p31, 0, none⟩))] hvO61 hlO61 ⟨hh66, trivial⟩
     have lo69 : ∀ b, inBlk (Value.pointer (some ⟨p31, 0, none⟩)) b → w.heap.size ≤ b := fun b h => Nat.le_trans c0.size (hf68 b h)
     have ah0 := slRep.st k_Slice_pos ah0 hBO61.2.1 (show ∀ b, b < w18.heap.size → ¬ nb b → ¬ nb b ∧ ¬ (un (inBlk (Value.pointer (some ⟨p31, 0, none⟩))) nb) b from fun b hb hs => ⟨fun x => x, fun h => un_el h (fun h => Nat.not_le_of_lt hb (hf68 b h)) (fun h => hs h)⟩)
     have gp1n : (G F w.heap.size (un (inBlk (Value.pointer (some ⟨p31, 0, none⟩))) nb)) p1 := ⟨gp1.1, ((show ∀ b, b < w18.heap.size → ¬ nb b → ¬ nb b ∧ ¬ (un (inBlk (Value.pointer (some ⟨p31, 0, none⟩))) nb) b from fun b hb hs => ⟨fun x => x, fun h => un_el h (fun h => Nat.not_le_of_lt hb (hf68 b h)) (fun h => hs h)⟩) _ k4.lt gp1.2).2⟩
     have k4 := k4.ch0 hBO61.2.1
     have gp1 := gp1n
     have c0 := c0.then0 hBO61.2.1
     refine Need.one rfl rfl rfl ?_
     rintro _ e70
     obtain rfl := e70.symm
     refine Need.one rfl rfl rfl ?_
     rintro _ ⟨v29_4, e71, h30_4⟩
     obtain rfl := e71.symm
     have h30_4 := slRep.wk (F' := (G F w.heap.size (un (inBlk (Value.pointer (some ⟨p31, 0, none⟩))) nb))) k_Slice_pos h30_4 (fun b _ hf => ⟨hf.1, fun h => hf.2 (un_el h (fun h => (.inl ((hBO61.1 b).2 (.inr ⟨_, inPre rfl, io67 b h⟩)))) (fun h => False.elim h))⟩)
     refine rl_storeA (vs := (Want.enc a1)) rfl rfl (all_one rfl) Try.sizeOf35 rfl ck3_0 rfl ?_
     intro w72 s74 c73 k75
     have ad76 : ∀ b, b < w59.heap.size → ¬ (un (inBlk (Value.pointer (some ⟨p31, 0, none⟩))) nb) b → ¬ (inBlk (Value.pointer (some ⟨p31, 0, none⟩))) b ∧ ¬ (un (inBlk (Value.pointer (some ⟨p31, 0, none⟩))) nb) b := fun b _ hs => ⟨fun h => hs (.inl h), hs⟩
     have ah0 := slRep.st k_Slice_pos ah0 c73 ad76
     have k4 := k4.ch c73 (ad76 _ k4.lt gp1.2).1
     have h30_4 := slRep.st k_Slice_pos h30_4 c73 ad76
     have c0 := c0.then c73 (fun i hi h => absurd (lo69 i h) (Nat.not_le_of_lt hi))
     refine RL.nil ?_
     refine thn_n ?_
     refine CW.seq ?_
     obtain ⟨y79, hy80, hS⟩ := bindS hS
     obtain ⟨y85, hy86, hS⟩ := bindS hS
     obtain ⟨y91, hy92, hS⟩ := bindS hS
     obtain ⟨y97, hy98, hS⟩ := bindS hS
     obtain ⟨b115, hb116, hS⟩ := bindS hS
     refine CW.cutN (fun E' w' => Sub [(4, (Value.bool b115))] E' ∧ Ch nb w72 w') ?_ ?_
     ·
      rcases Bool.eq_false_or_eq_true y97 with hg117 | hg117
      ·
       have hs118 := andO_t hg117 hb116
       obtain ⟨y101, hy102, hs118⟩ := bindS hs118
       obtain ⟨y107, hy108, hs118⟩ := bindS hs118
       obtain ⟨y113, hy114, hs118⟩ := bindS hs118
       refine CW.draw 17 [(none, fun _ O uu wx => uu = av0), (none, fun _ O uu wx => uu = (Value.agg (Want.enc a1).toArray)), (none, fun _ O uu wx => ∃ (v81 : Value), uu = v81 ∧ slRep k_Candidate (G F w.heap.size (un (inBlk (Value.pointer (some ⟨p31, 0, none⟩))) nb)) wx y79 v81), (none, fun _ O uu wx => ∃ (v87 : Value), uu = v87 ∧ slRep k_Candidate (G F w.heap.size (un (inBlk (Value.pointer (some ⟨p31, 0, none⟩))) nb)) wx y85 v87), (none, fun _ O uu wx => uu = v29_4), (none, fun _ O uu wx => uu = (Value.agg (Want.enc a1).toArray)), (none, fun _ O uu wx => ∃ (v93 : Value), uu = v93 ∧ slRep k_Candidate (G F w.heap.size (un (inBlk (Value.pointer (some ⟨p31, 0, none⟩))) nb)) wx y91 v93), (none, fun _ O uu wx => uu = (Value.bool y97)), (none, fun _ O uu wx => uu = (Value.bool y97)), (none, fun _ O uu wx => uu = av0), (none, fun _ O uu wx => uu = (Value.agg (Want.enc a1).toArray)), (none, fun _ O uu wx => ∃ (v103 : Value), uu = v103 ∧ slRep k_Point (G F w.heap.size (un (inBlk (Value.pointer (some ⟨p31, 0, none⟩))) nb)) wx y101 v103), (none, fun _ O uu wx => uu = v29_4), (none, fun _ O uu wx => uu = (Value.agg (Want.enc a1).toArray)), (none, fun _ O uu wx => ∃ (v109 : Value), uu = v109 ∧ slRep k_Point (G F w.heap.size (un (inBlk (Value.pointer (some ⟨p31, 0, none⟩))) nb)) wx y107 v109), (none, fun _ O uu wx => uu = (Value.bool y113)), (none, fun _ O uu wx => uu = (Value.bool b115))] [[], [], [0, 1], [2], [], [], [4, 5], [3, 6], [7], [8], [8], [8, 9, 10], [8], [8], [8, 12, 13], [8, 11, 14], [8, 15]] [16] nb (fun _ h => h.elim) mixed rfl rfl rfl rfl ?_ ?_
       ·
        refine Each.consA ⟨fun _ _ _ _ _ _ h => h, fun h => absurd rfl h, fun O wk hO ck => ?_⟩ ?_
        ·
         have ah0 := slRep.ch k_Slice_pos ah0 ck
         have k4 := k4.ch0 ck
         have h30_4 := slRep.ch k_Slice_pos h30_4 ck
         have k75 := k75.ch0 ck
         have c0 := c0.then0 ck
         refine rl_move rfl rfl ?_
         exact RL.nil ⟨_, rfl, Ch.refl, rfl⟩
        refine Each.consA ⟨fun _ _ _ _ _ _ h => h, fun h => absurd rfl h, fun O wk hO ck => ?_⟩ ?_
        ·
         have ah0 := slRep.ch k_Slice_pos ah0 ck
         have k4 := k4.ch0 ck
         have h30_4 := slRep.ch k_Slice_pos h30_4 ck
         have k75 := k75.ch0 ck
         have c0 := c0.then0 ck
         refine rl_loadA (cs := (Want.enc a1)) rfl Try.isAgg24 Try.sizeOf24 (k4.segAt 0 7) rfl rfl ?_
         exact RL.nil ⟨_, rfl, Ch.refl, rfl⟩
        refine Each.consA ⟨fun _ _ _ _ _ cc hh => by obtain ⟨v81, e, h82⟩ := hh; exact ⟨v81, e, slRep.ch k_Candidate_pos h82 cc⟩, fun h => absurd rfl h, fun O wk hO ck => ?_⟩ ?_
        ·
         have ah0 := slRep.ch k_Slice_pos ah0 ck
         have k4 := k4.ch0 ck
         have h30_4 := slRep.ch k_Slice_pos h30_4 ck
         have k75 := k75.ch0 ck
         have c0 := c0.then0 ck
         refine Need.one rfl rfl rfl ?_
         rintro _ e119
         obtain rfl := e119.symm
         refine Need.one rfl rfl rfl ?_
         rintro _ e120
         obtain rfl := e120.symm
         refine rl_callF rfl en18 rfl (ctr18 (G F w.heap.size (un (inBlk (Value.pointer (some ⟨p31, 0, none⟩))) nb)) wk a0 av0 ah0 a1 y79 hy80) ?_
         rintro v123 w121 ⟨_, rfl, h124, c122⟩
         have h124 := SlO.backR k_Candidate_pos h124 (un_lt k75.ltp nbS) c0.size
         have ah0 := slRep.ch k_Slice_pos ah0 c122
         have k4 := k4.ch0 c122
         have h30_4 := slRep.ch k_Slice_pos h30_4 c122
         have k75 := k75.ch0 c122
         have c0 := c0.then0 c122
         exact RL.nil ⟨_, rfl, c122, ⟨v123, rfl, h124⟩⟩
        refine Each.consA ⟨fun _ _ _ _ _ cc hh => by obtain ⟨v87, e, h88⟩ := hh; exact ⟨v87, e, slRep.ch k_Candidate_pos h88 cc⟩, fun h => absurd rfl h, fun O wk hO ck => ?_⟩ ?_
        ·
         have ah0 := slRep.ch k_Slice_pos ah0 ck
         have k4 := k4.ch0 ck
         have h30_4 := slRep.ch k_Slice_pos h30_4 ck
         have k75 := k75.ch0 ck
         have c0 := c0.then0 ck
         refine Need.one rfl rfl rfl ?_
         rintro _ ⟨v81, e125, h82⟩
         obtain rfl := e125.symm
         refine rl_callF rfl en9 rfl (ctr9 (G F w.heap.size (un (inBlk (Value.pointer (some ⟨p31, 0, none⟩))) nb)) wk y79 v81 h82 y85 hy86) ?_
         rintro v128 w126 ⟨_, rfl, h129, c127⟩
         have h129 := SlO.backR k_Candidate_pos h129 (un_lt k75.ltp nbS) c0.size
         have ah0 := slRep.ch k_Slice_pos ah0 c127
         have k4 := k4.ch0 c127
         have h30_4 := slRep.ch k_Slice_pos h30_4 c127
         have k75 := k75.ch0 c127
         have h82 := slRep.ch k_Candidate_pos h82 c127
         have c0 := c0.then0 c127
         exact RL.nil ⟨_, rfl, c127, ⟨v128, rfl, h129⟩⟩
        refine Each.consA ⟨fun _ _ _ _ _ _ h => h, fun h => absurd rfl h, fun O wk hO ck => ?_⟩ ?_
        ·
         have ah0 := slRep.ch k_Slice_pos ah0 ck
         have k4 := k4.ch0 ck
         have h30_4 := slRep.ch k_Slice_pos h30_4 ck
         have k75 := k75.ch0 ck
         have c0 := c0.then0 ck
         refine rl_move rfl rfl ?_
         exact RL.nil ⟨_, rfl, Ch.refl, rfl⟩
        refine Each.consA ⟨fun _ _ _ _ _ _ h => h, fun h => absurd rfl h, fun O wk hO ck => ?_⟩ ?_
        ·
         have ah0 := slRep.ch k_Slice_pos ah0 ck
         have k4 := k4.ch0 ck
         have h30_4 := slRep.ch k_Slice_pos h30_4 ck
         have k75 := k75.ch0 ck
         have c0 := c0.then0 ck
         refine rl_loadA (cs := (Want.enc a1)) rfl Try.isAgg35 Try.sizeOf35 (k75.segAt 0 7) rfl rfl ?_
         exact RL.nil ⟨_, rfl, Ch.refl, rfl⟩
        refine Each.consA ⟨fun _ _ _ _ _ cc hh => by obtain ⟨v93, e, h94⟩ := hh; exact ⟨v93, e, slRep.ch k_Candidate_pos h94 cc⟩, fun h => absurd rfl h, fun O wk hO ck => ?_⟩ ?_
        ·
         have ah0 := slRep.ch k_Slice_pos ah0 ck
         have k4 := k4.ch0 ck
         have h30_4 := slRep.ch k_Slice_pos h30_4 ck
         have k75 := k75.ch0 ck
         have c0 := c0.then0 ck
         refine Need.one rfl rfl rfl ?_
         rintro _ e130
         obtain rfl := e130.symm
         refine Need.one rfl rfl rfl ?_
         rintro _ e131
         obtain rfl := e131.symm
         refine rl_callF rfl en19 rfl (ctr19 (G F w.heap.size (un (inBlk (Value.pointer (some ⟨p31, 0, none⟩))) nb)) wk y27 v29_4 h30_4 a1 y91 hy92) ?_
         rintro v134 w132 ⟨_, rfl, h135, c133⟩
         have h135 := SlO.backR k_Candidate_pos h135 (un_lt k75.ltp nbS) c0.size
         have ah0 := slRep.ch k_Slice_pos ah0 c133
         have k4 := k4.ch0 c133
         have h30_4 := slRep.ch k_Slice_pos h30_4 c133
         have k75 := k75.ch0 c133
         have c0 := c0.then0 c133
         exact RL.nil ⟨_, rfl, c133, ⟨v134, rfl, h135⟩⟩
        refine Each.consA ⟨fun _ _ _ _ _ _ h => h, fun h => absurd rfl h, fun O wk hO ck => ?_⟩ ?_
        ·
         have ah0 := slRep.ch k_Slice_pos ah0 ck
         have k4 := k4.ch0 ck
         have h30_4 := slRep.ch k_Slice_pos h30_4 ck
         have k75 := k75.ch0 ck
         have c0 := c0.then0 ck
         refine Need.one rfl rfl rfl ?_
         rintro _ ⟨v87, e136, h88⟩
         obtain rfl := e136.symm
         refine Need.one rfl rfl rfl ?_
         rintro _ ⟨v93, e137, h94⟩
         obtain rfl := e137.symm
         refine rl_callF rfl en10 rfl (ctr10 (G F w.heap.size (un (inBlk (Value.pointer (some ⟨p31, 0, none⟩))) nb)) wk y85 v87 h88 y91 v93 h94 y97 hy98) ?_
         rintro _ w138 ⟨rfl, c139⟩
         have ah0 := slRep.ch k_Slice_pos ah0 c139
         have k4 := k4.ch0 c139
         have h30_4 := slRep.ch k_Slice_pos h30_4 c139
         have k75 := k75.ch0 c139
         have h88 := slRep.ch k_Candidate_pos h88 c139
         have h94 := slRep.ch k_Candidate_pos h94 c139
         have c0 := c0.then0 c139
         exact RL.nil ⟨_, rfl, c139, rfl⟩
        refine Each.consA ⟨fun _ _ _ _ _ _ h => h, fun h => absurd rfl h, fun O wk hO ck => ?_⟩ ?_
        ·
         have ah0 := slRep.ch k_Slice_pos ah0 ck
         have k4 := k4.ch0 ck
         have h30_4 := slRep.ch k_Slice_pos h30_4 ck
         have k75 := k75.ch0 ck
         have c0 := c0.then0 ck
         refine Need.one rfl rfl rfl ?_
         rintro _ e140
         obtain rfl := e140.symm
         refine rl_move rfl rfl ?_
         exact RL.nil ⟨_, rfl, Ch.refl, rfl⟩
        refine Each.consA ⟨fun _ _ _ _ _ _ h => h, fun h => absurd rfl h, fun O wk hO ck => ?_⟩ ?_
        ·
         have ah0 := slRep.ch k_Slice_pos ah0 ck
         have k4 := k4.ch0 ck
         have h30_4 := slRep.ch k_Slice_pos h30_4 ck
         have k75 := k75.ch0 ck
         have c0 := c0.then0 ck
         refine Need.one rfl rfl rfl ?_
         rintro _ e141
         obtain rfl := e141.symm
         refine RL.yes rfl rfl rfl hg117 ?_
         refine rl_move rfl rfl ?_
         exact RL.nil ⟨_, rfl, Ch.refl, rfl⟩
        refine Each.consA ⟨fun _ _ _ _ _ _ h => h, fun h => absurd rfl h, fun O wk hO ck => ?_⟩ ?_
        ·
         have ah0 := slRep.ch k_Slice_pos ah0 ck
         have k4 := k4.ch0 ck
         have h30_4 := slRep.ch k_Slice_pos h30_4 ck
         have k75 := k75.ch0 ck
         have c0 := c0.then0 ck
         refine Need.one rfl rfl rfl ?_
         rintro _ e142
         obtain rfl := e142.symm
         refine RL.yes rfl rfl rfl hg117 ?_
         refine rl_loadA (cs := (Want.enc a1)) rfl Try.isAgg24 Try.sizeOf24 (k4.segAt 0 7) rfl rfl ?_
         exact RL.nil ⟨_, rfl, Ch.refl, rfl⟩
        refine Each.consA ⟨fun _ _ _ _ _ cc hh => by obtain ⟨v103, e, h104⟩ := hh; exact ⟨v103, e, slRep.ch k_Point_pos h104 cc⟩, fun h => absurd rfl h, fun O wk hO ck => ?_⟩ ?_
        ·
         have ah0 := slRep.ch k_Slice_pos ah0 ck
         have k4 := k4.ch0 ck
         have h30_4 := slRep.ch k_Slice_pos h30_4 ck
         have k75 := k75.ch0 ck
         have c0 := c0.then0 ck
         refine Need.one rfl rfl rfl ?_
         rintro _ e143
         obtain rfl := e143.symm
         refine Need.one rfl rfl rfl ?_
         rintro _ e144
         obtain rfl := e144.symm
         refine Need.one rfl rfl rfl ?_
         rintro _ e145
         obtain rfl := e145.symm
         refine RL.yes rfl rfl rfl hg117 ?_
         refine rl_callF rfl en21 rfl (ctr21 (G F w.heap.size (un (inBlk (Value.pointer (some ⟨p31, 0, none⟩))) nb)) wk a0 av0 ah0 a1 y101 hy102) ?_
         rintro v148 w146 ⟨_, rfl, h149, c147⟩
         have h149 := SlO.backR k_Point_pos h149 (un_lt k75.ltp nbS) c0.size
         have ah0 := slRep.ch k_Slice_pos ah0 c147
         have k4 := k4.ch0 c147
         have h30_4 := slRep.ch k_Slice_pos h30_4 c147
         have k75 := k75.ch0 c147
         have c0 := c0.then0 c147
         exact RL.nil ⟨_, rfl, c147, ⟨v148, rfl, h149⟩⟩
        refine Each.consA ⟨fun _ _ _ _ _ _ h => h, fun h => absurd rfl h, fun O wk hO ck => ?_⟩ ?_
        ·
         have ah0 := slRep.ch k_Slice_pos ah0 ck
         have k4 := k4.ch0 ck
         have h30_4 := slRep.ch k_Slice_pos h30_4 ck
         have k75 := k75.ch0 ck
         have c0 := c0.then0 ck
         refine Need.one rfl rfl rfl ?_
         rintro _ e150
         obtain rfl := e150.symm
         refine RL.yes rfl rfl rfl hg117 ?_
         refine rl_move rfl rfl ?_
         exact RL.nil ⟨_, rfl, Ch.refl, rfl⟩
        refine Each.consA ⟨fun _ _ _ _ _ _ h => h, fun h => absurd rfl h, fun O wk hO ck => ?_⟩ ?_
        ·
         have ah0 := slRep.ch k_Slice_pos ah0 ck
         have k4 := k4.ch0 ck
         have h30_4 := slRep.ch k_Slice_pos h30_4 ck
         have k75 := k75.ch0 ck
         have c0 := c0.then0 ck
         refine Need.one rfl rfl rfl ?_
         rintro _ e151
         obtain rfl := e151.symm
         refine RL.yes rfl rfl rfl hg117 ?_
         refine rl_loadA (cs := (Want.enc a1)) rfl Try.isAgg35 Try.sizeOf35 (k75.segAt 0 7) rfl rfl ?_
         exact RL.nil ⟨_, rfl, Ch.refl, rfl⟩
        refine Each.consA ⟨fun _ _ _ _ _ cc hh => by obtain ⟨v109, e, h110⟩ := hh; exact ⟨v109, e, slRep.ch k_Point_pos h110 cc⟩, fun h => absurd rfl h, fun O wk hO ck => ?_⟩ ?_
        ·
         have ah0 := slRep.ch k_Slice_pos ah0 ck
         have k4 := k4.ch0 ck
         have h30_4 := slRep.ch k_Slice_pos h30_4 ck
         have k75 := k75.ch0 ck
         have c0 := c0.then0 ck
         refine Need.one rfl rfl rfl ?_
         rintro _ e152
         obtain rfl := e152.symm
         refine Need.one rfl rfl rfl ?_
         rintro _ e153
         obtain rfl := e153.symm
         refine Need.one rfl rfl rfl ?_
         rintro _ e154
         obtain rfl := e154.symm
         refine RL.yes rfl rfl rfl hg117 ?_
         refine rl_callF rfl en22 rfl (ctr22 (G F w.heap.size (un (inBlk (Value.pointer (some ⟨p31, 0, none⟩))) nb)) wk y27 v29_4 h30_4 a1 y107 hy108) ?_
         rintro v157 w155 ⟨_, rfl, h158, c156⟩
         have h158 := SlO.backR k_Point_pos h158 (un_lt k75.ltp nbS) c0.size
         have ah0 := slRep.ch k_Slice_pos ah0 c156
         have k4 := k4.ch0 c156
         have h30_4 := slRep.ch k_Slice_pos h30_4 c156
         have k75 := k75.ch0 c156
         have c0 := c0.then0 c156
         exact RL.nil ⟨_, rfl, c156, ⟨v157, rfl, h158⟩⟩
        refine Each.consA ⟨fun _ _ _ _ _ _ h => h, fun h => absurd rfl h, fun O wk hO ck => ?_⟩ ?_
        ·
         have ah0 := slRep.ch k_Slice_pos ah0 ck
         have k4 := k4.ch0 ck
         have h30_4 := slRep.ch k_Slice_pos h30_4 ck
         have k75 := k75.ch0 ck
         have c0 := c0.then0 ck
         refine Need.one rfl rfl rfl ?_
         rintro _ e159
         obtain rfl := e159.symm
         refine Need.one rfl rfl rfl ?_
         rintro _ ⟨v103, e160, h104⟩
         obtain rfl := e160.symm
         refine Need.one rfl rfl rfl ?_
         rintro _ ⟨v109, e161, h110⟩
         obtain rfl := e161.symm
         refine RL.yes rfl rfl rfl hg117 ?_
         refine rl_callF rfl en20 rfl (ctr20 (G F w.heap.size (un (inBlk (Value.pointer (some ⟨p31, 0, none⟩))) nb)) wk y101 v103 h104 y107 v109 h110 y113 hy114) ?_
         rintro _ w162 ⟨rfl, c163⟩
         have ah0 := slRep.ch k_Slice_pos ah0 c163
         have k4 := k4.ch0 c163
         have h30_4 := slRep.ch k_Slice_pos h30_4 c163
         have k75 := k75.ch0 c163
         have h104 := slRep.ch k_Point_pos h104 c163
         have h110 := slRep.ch k_Point_pos h110 c163
         have c0 := c0.then0 c163
         exact RL.nil ⟨_, rfl, c163, rfl⟩
        refine Each.consA ⟨fun _ _ _ _ _ _ h => h, fun h => absurd rfl h, fun O wk hO ck => ?_⟩ ?_
        ·
         refine Need.one rfl rfl rfl ?_
         rintro _ e164
         obtain rfl := e164.symm
         refine Need.one rfl rfl rfl ?_
         rintro _ e165
         obtain rfl := e165.symm
         refine rl_pickT rfl hg117 rfl rfl ?_
         exact RL.nil ⟨_, rfl, Ch.refl, congrArg Value.bool (Option.some.inj hs118)⟩
        trivial
       ·
        intro hvO168 OpO168 O168 w166 hO169 c167 hN170
        have ah0 := slRep.ch k_Slice_pos ah0 c167
        have k4 := k4.ch0 c167
        have h30_4 := slRep.ch k_Slice_pos h30_4 c167
        have k75 := k75.ch0 c167
        have c0 := c0.then0 c167
        refine Need.one rfl rfl rfl ?_
        rintro _ e171
        obtain rfl := e171.symm
        refine rl_assign rfl rfl ?_
        exact RL.nil ⟨rfl, ⟨rfl, trivial⟩, c167⟩
      ·
       have hs172 := andO_f hg117 hb116
       refine CW.draw 17 [(none, fun _ O uu wx => uu = av0), (none, fun _ O uu wx => uu = (Value.agg (Want.enc a1).toArray)), (none, fun _ O uu wx => ∃ (v81 : Value), uu = v81 ∧ slRep k_Candidate (G F w.heap.size (un (inBlk (Value.pointer (some ⟨p31, 0, none⟩))) nb)) wx y79 v81), (none, fun _ O uu wx => ∃ (v87 : Value), uu = v87 ∧ slRep k_Candidate (G F w.heap.size (un (inBlk (Value.pointer (some ⟨p31, 0, none⟩))) nb)) wx y85 v87), (none, fun _ O uu wx => uu = v29_4), (none, fun _ O uu wx => uu = (Value.agg (Want.enc a1).toArray)), (none, fun _ O uu wx => ∃ (v93 : Value), uu = v93 ∧ slRep k_Candidate (G F w.heap.size (un (inBlk (Value.pointer (some ⟨p31, 0, none⟩))) nb)) wx y91 v93), (none, fun _ O uu wx => uu = (Value.bool y97)), (none, fun _ O uu wx => uu = (Value.bool y97)), (none, fun _ O uu wx => uu = undef), (none, fun _ O uu wx => uu = undef), (none, fun _ O uu wx => uu = undef), (none, fun _ O uu wx => uu = undef), (none, fun _ O uu wx => uu = undef), (none, fun _ O uu wx => uu = undef), (none, fun _ O uu wx => uu = undef), (none, fun _ O uu wx => uu = (Value.bool b115))] [[], [], [0, 1], [2], [], [], [4, 5], [3, 6], [7], [8], [8], [8], [8], [8], [8], [8], [8]] [16] nb (fun _ h => h.elim) mixed rfl rfl rfl rfl ?_ ?_
       ·
        refine Each.consA ⟨fun _ _ _ _ _ _ h => h, fun h => absurd rfl h, fun O wk hO ck => ?_⟩ ?_
        ·
         have ah0 := slRep.ch k_Slice_pos ah0 ck
         have k4 := k4.ch0 ck
         have h30_4 := slRep.ch k_Slice_pos h30_4 ck
         have k75 := k75.ch0 ck
         have c0 := c0.then0 ck
         refine rl_move rfl rfl ?_
         exact RL.nil ⟨_, rfl, Ch.refl, rfl⟩
        refine Each.consA ⟨fun _ _ _ _ _ _ h => h, fun h => absurd rfl h, fun O wk hO ck => ?_⟩ ?_
        ·
         have ah0 := slRep.ch k_Slice_pos ah0 ck
         have k4 := k4.ch0 ck
         have h30_4 := slRep.ch k_Slice_pos h30_4 ck
         have k75 := k75.ch0 ck
         have c0 := c0.then0 ck
         refine rl_loadA (cs := (Want.enc a1)) rfl Try.isAgg24 Try.sizeOf24 (k4.segAt 0 7) rfl rfl ?_
         exact RL.nil ⟨_, rfl, Ch.refl, rfl⟩
        refine Each.consA ⟨fun _ _ _ _ _ cc hh => by obtain ⟨v81, e, h82⟩ := hh; exact ⟨v81, e, slRep.ch k_Candidate_pos h82 cc⟩, fun h => absurd rfl h, fun O wk hO ck => ?_⟩ ?_
        ·
         have ah0 := slRep.ch k_Slice_pos ah0 ck
         have k4 := k4.ch0 ck
         have h30_4 := slRep.ch k_Slice_pos h30_4 ck
         have k75 := k75.ch0 ck
         have c0 := c0.then0 ck
         refine Need.one rfl rfl rfl ?_
         rintro _ e173
         obtain rfl := e173.symm
         refine Need.one rfl rfl rfl ?_
         rintro _ e174
         obtain rfl := e174.symm
         refine rl_callF rfl en18 rfl (ctr18 (G F w.heap.size (un (inBlk (Value.pointer (some ⟨p31, 0, none⟩))) nb)) wk a0 av0 ah0 a1 y79 hy80) ?_
         rintro v177 w175 ⟨_, rfl, h178, c176⟩
         have h178 := SlO.backR k_Candidate_pos h178 (un_lt k75.ltp nbS) c0.size
         have ah0 := slRep.ch k_Slice_pos ah0 c176
         have k4 := k4.ch0 c176
         have h30_4 := slRep.ch k_Slice_pos h30_4 c176
         have k75 := k75.ch0 c176
         have c0 := c0.then0 c176
         exact RL.nil ⟨_, rfl, c176, ⟨v177, rfl, h178⟩⟩
        refine Each.consA ⟨fun _ _ _ _ _ cc hh => by obtain ⟨v87, e, h88⟩ := hh; exact ⟨v87, e, slRep.ch k_Candidate_pos h88 cc⟩, fun h => absurd rfl h, fun O wk hO ck => ?_⟩ ?_
        ·
         have ah0 := slRep.ch k_Slice_pos ah0 ck
         have k4 := k4.ch0 ck
         have h30_4 := slRep.ch k_Slice_pos h30_4 ck
         have k75 := k75.ch0 ck
         have c0 := c0.then0 ck
         refine Need.one rfl rfl rfl ?_
         rintro _ ⟨v81, e179, h82⟩
         obtain rfl := e179.symm
         refine rl_callF rfl en9 rfl (ctr9 (G F w.heap.size (un (inBlk (Value.pointer (some ⟨p31, 0, none⟩))) nb)) wk y79 v81 h82 y85 hy86) ?_
         rintro v182 w180 ⟨_, rfl, h183, c181⟩
         have h183 := SlO.backR k_Candidate_pos h183 (un_lt k75.ltp nbS) c0.size
         have ah0 := slRep.ch k_Slice_pos ah0 c181
         have k4 := k4.ch0 c181
         have h30_4 := slRep.ch k_Slice_pos h30_4 c181
         have k75 := k75.ch0 c181
         have h82 := slRep.ch k_Candidate_pos h82 c181
         have c0 := c0.then0 c181
         exact RL.nil ⟨_, rfl, c181, ⟨v182, rfl, h183⟩⟩
        refine Each.consA ⟨fun _ _ _ _ _ _ h => h, fun h => absurd rfl h, fun O wk hO ck => ?_⟩ ?_
        ·
         have ah0 := slRep.ch k_Slice_pos ah0 ck
         have k4 := k4.ch0 ck
         have h30_4 := slRep.ch k_Slice_pos h30_4 ck
         have k75 := k75.ch0 ck
         have c0 := c0.then0 ck
         refine rl_move rfl rfl ?_
         exact RL.nil ⟨_, rfl, Ch.refl, rfl⟩
        refine Each.consA ⟨fun _ _ _ _ _ _ h => h, fun h => absurd rfl h, fun O wk hO ck => ?_⟩ ?_
        ·
         have ah0 := slRep.ch k_Slice_pos ah0 ck
         have k4 := k4.ch0 ck
         have h30_4 := slRep.ch k_Slice_pos h30_4 ck
         have k75 := k75.ch0 ck
         have c0 := c0.then0 ck
         refine rl_loadA (cs := (Want.enc a1)) rfl Try.isAgg35 Try.sizeOf35 (k75.segAt 0 7) rfl rfl ?_
         exact RL.nil ⟨_, rfl, Ch.refl, rfl⟩
        refine Each.consA ⟨fun _ _ _ _ _ cc hh => by obtain ⟨v93, e, h94⟩ := hh; exact ⟨v93, e, slRep.ch k_Candidate_pos h94 cc⟩, fun h => absurd rfl h, fun O wk hO ck => ?_⟩ ?_
        ·
         have ah0 := slRep.ch k_Slice_pos ah0 ck
         have k4 := k4.ch0 ck
         have h30_4 := slRep.ch k_Slice_pos h30_4 ck
         have k75 := k75.ch0 ck
         have c0 := c0.then0 ck
         refine Need.one rfl rfl rfl ?_
         rintro _ e184
         obtain rfl := e184.symm
         refine Need.one rfl rfl rfl ?_
         rintro _ e185
         obtain rfl := e185.symm
         refine rl_callF rfl en19 rfl (ctr19 (G F w.heap.size (un (inBlk (Value.pointer (some ⟨p31, 0, none⟩))) nb)) wk y27 v29_4 h30_4 a1 y91 hy92) ?_
         rintro v188 w186 ⟨_, rfl, h189, c187⟩
         have h189 := SlO.backR k_Candidate_pos h189 (un_lt k75.ltp nbS) c0.size
         have ah0 := slRep.ch k_Slice_pos ah0 c187
         have k4 := k4.ch0 c187
         have h30_4 := slRep.ch k_Slice_pos h30_4 c187
         have k75 := k75.ch0 c187
         have c0 := c0.then0 c187
         exact RL.nil ⟨_, rfl, c187, ⟨v188, rfl, h189⟩⟩
        refine Each.consA ⟨fun _ _ _ _ _ _ h => h, fun h => absurd rfl h, fun O wk hO ck => ?_⟩ ?_
        ·
         have ah0 := slRep.ch k_Slice_pos ah0 ck
         have k4 := k4.ch0 ck
         have h30_4 := slRep.ch k_Slice_pos h30_4 ck
         have k75 := k75.ch0 ck
         have c0 := c0.then0 ck
         refine Need.one rfl rfl rfl ?_
         rintro _ ⟨v87, e190, h88⟩
         obtain rfl := e190.symm
         refine Need.one rfl rfl rfl ?_
         rintro _ ⟨v93, e191, h94⟩
         obtain rfl := e191.symm
         refine rl_callF rfl en10 rfl (ctr10 (G F w.heap.size (un (inBlk (Value.pointer (some ⟨p31, 0, none⟩))) nb)) wk y85 v87 h88 y91 v93 h94 y97 hy98) ?_
         rintro _ w192 ⟨rfl, c193⟩
         have ah0 := slRep.ch k_Slice_pos ah0 c193
         have k4 := k4.ch0 c193
         have h30_4 := slRep.ch k_Slice_pos h30_4 c193
         have k75 := k75.ch0 c193
         have h88 := slRep.ch k_Candidate_pos h88 c193
         have h94 := slRep.ch k_Candidate_pos h94 c193
         have c0 := c0.then0 c193
         exact RL.nil ⟨_, rfl, c193, rfl⟩
        refine Each.consA ⟨fun _ _ _ _ _ _ h => h, fun h => absurd rfl h, fun O wk hO ck => ?_⟩ ?_
        ·
         have ah0 := slRep.ch k_Slice_pos ah0 ck
         have k4 := k4.ch0 ck
         have h30_4 := slRep.ch k_Slice_pos h30_4 ck
         have k75 := k75.ch0 ck
         have c0 := c0.then0 ck
         refine Need.one rfl rfl rfl ?_
         rintro _ e194
         obtain rfl := e194.symm
         refine rl_move rfl rfl ?_
         exact RL.nil ⟨_, rfl, Ch.refl, rfl⟩
        refine Each.consA ⟨fun _ _ _ _ _ _ h => h, fun h => absurd rfl h, fun O wk hO ck => ?_⟩ ?_
        ·
         refine Need.one rfl rfl rfl ?_
         rintro _ e195
         obtain rfl := e195.symm
         refine RL.no rfl rfl rfl hg117 rfl rfl ?_
         exact RL.nil ⟨_, rfl, Ch.refl, rfl⟩
        refine Each.consA ⟨fun _ _ _ _ _ _ h => h, fun h => absurd rfl h, fun O wk hO ck => ?_⟩ ?_
        ·
         refine Need.one rfl rfl rfl ?_
         rintro _ e196
         obtain rfl := e196.symm
         refine RL.no rfl rfl rfl hg117 rfl rfl ?_
         exact RL.nil ⟨_, rfl, Ch.refl, rfl⟩
        refine Each.consA ⟨fun _ _ _ _ _ _ h => h, fun h => absurd rfl h, fun O wk hO ck => ?_⟩ ?_
        ·
         refine Need.one rfl rfl rfl ?_
         rintro _ e197
         obtain rfl := e197.symm
         refine RL.no rfl rfl rfl hg117 rfl rfl ?_
         exact RL.nil ⟨_, rfl, Ch.refl, rfl⟩
        refine Each.consA ⟨fun _ _ _ _ _ _ h => h, fun h => absurd rfl h, fun O wk hO ck => ?_⟩ ?_
        ·
         refine Need.one rfl rfl rfl ?_
         rintro _ e198
         obtain rfl := e198.symm
         refine RL.no rfl rfl rfl hg117 rfl rfl ?_
         exact RL.nil ⟨_, rfl, Ch.refl, rfl⟩
        refine Each.consA ⟨fun _ _ _ _ _ _ h => h, fun h => absurd rfl h, fun O wk hO ck => ?_⟩ ?_
        ·
         refine Need.one rfl rfl rfl ?_
         rintro _ e199
         obtain rfl := e199.symm
         refine RL.no rfl rfl rfl hg117 rfl rfl ?_
         exact RL.nil ⟨_, rfl, Ch.refl, rfl⟩
        refine Each.consA ⟨fun _ _ _ _ _ _ h => h, fun h => absurd rfl h, fun O wk hO ck => ?_⟩ ?_
        ·
         refine Need.one rfl rfl rfl ?_
         rintro _ e200
         obtain rfl := e200.symm
         refine RL.no rfl rfl rfl hg117 rfl rfl ?_
         exact RL.nil ⟨_, rfl, Ch.refl, rfl⟩
        refine Each.consA ⟨fun _ _ _ _ _ _ h => h, fun h => absurd rfl h, fun O wk hO ck => ?_⟩ ?_
        ·
         refine Need.one rfl rfl rfl ?_
         rintro _ e201
         obtain rfl := e201.symm
         refine RL.no rfl rfl rfl hg117 rfl rfl ?_
         exact RL.nil ⟨_, rfl, Ch.refl, rfl⟩
        refine Each.consA ⟨fun _ _ _ _ _ _ h => h, fun h => absurd rfl h, fun O wk hO ck => ?_⟩ ?_
        ·
         refine Need.one rfl rfl rfl ?_
         rintro _ e202
         obtain rfl := e202.symm
         refine rl_pickF rfl hg117 rfl rfl ?_
         exact RL.nil ⟨_, rfl, Ch.refl, congrArg Value.bool (Option.some.inj hs172)⟩
        trivial
       ·
        intro hvO205 OpO205 O205 w203 hO206 c204 hN207
        have ah0 := slRep.ch k_Slice_pos ah0 c204
        have k4 := k4.ch0 c204
        have h30_4 := slRep.ch k_Slice_pos h30_4 c204
        have k75 := k75.ch0 c204
        have c0 := c0.then0 c204
        refine Need.one rfl rfl rfl ?_
        rintro _ e208
        obtain rfl := e208.symm
        refine rl_assign rfl rfl ?_
        exact RL.nil ⟨rfl, ⟨rfl, trivial⟩, c204⟩
     ·
      rintro _ w210 ⟨hE209, c211⟩
      have ah0 := slRep.ch k_Slice_pos ah0 c211
      have k4 := k4.ch0 c211
      have h30_4 := slRep.ch k_Slice_pos h30_4 c211
      have k75 := k75.ch0 c211
      have c0 := c0.then0 c211
      refine thn_n (CW.sub [(4, (Value.bool b115))] hE209 ?_)
      refine CW.ret ?_
      obtain rfl := Option.some.inj hS
      exact ret1 rfl ⟨rfl, c0⟩
/-- lb/lblaw18.Long -/
theorem ctr7 (F : Nat → Prop) (w : World) (a0 : (List Candidate)) (av0 : Value) (ah0 : slRep k_Candidate F w a0 av0) (r : Bool) (hs : F7_linkboylaw18_Long a0 = r) :
    Ret Try.prog 7 #[av0] w fun v w' => v = (Value.bool r) ∧ Ch nb w w' := by
  have hS := hs
  have c0 : Ch nb w w := Ch.refl
  have ah0 := slRep.enter k_Candidate_pos ah0
  refine Ret.of (n := 18) (args := [_]) (rs := [.tmp 2]) Try.func7 rfl rfl rfl rfl ?_
  refine CW.seq (CW.region ?_)
  refine rl_assign rfl rfl ?_
  refine RL.nil ?_
  refine thn_n ?_
  refine CW.seq ?_
  refine CW.seq (CW.region ?_)
  refine rl_move rfl rfl ?_
  refine rl_lenR rfl ah0 Try.underlying22 rfl ?_
  refine rl_bin rfl rfl B.gtr rfl ?_
  refine RL.nil ?_
  refine thn_n ?_
  refine CW.cond (t := decide (((a0.length : Nat) : Int) > 60)) rfl (fun q1 => ?_) (fun q1 => ?_)
  ·
   have hS := ifT q1 hS
   refine CW.seq (CW.region ?_)
   refine rl_assign rfl rfl ?_
   refine RL.nil ?_
   refine thn_n ?_
   refine CW.ret ?_
   refine thn_ret ?_
   obtain rfl := hS
   exact ret1 rfl ⟨rfl, c0⟩
  ·
   have hS := ifF q1 hS
   refine CW.skip ?_
   refine thn_n ?_
   refine CW.seq ?_
   refine CW.seq (CW.region ?_)
   refine rl_move rfl rfl ?_
   refine rl_lenR rfl ah0 Try.underlying22 rfl ?_
   refine rl_move rfl rfl ?_
   refine RL.nil ?_
   refine thn_n ?_
   obtain ⟨o9, ho10⟩ : ∃ o, runB F7_linkboylaw18_Long_b1 a0 () = o := ⟨_, rfl⟩
   have hS := ltS ho10 hS
   refine CW.cutB (fun E' w' => ∃ (_ : Unit), Sub [] E' ∧ Ch nb w w' ∧ Lp.fin () = o9 ∧ slRep k_Candidate (G F w.heap.size nb) w' a0 av0) ?_ ?_
   ·
    refine CW.loopS [(8, av0), (9, (Value.int .i64 ((a0.length : Nat) : Int))), (10, (Value.int .i64 ((0 : Nat) : Int)))] ⟨rfl, rfl, rfl, trivial⟩ a0.length (fun m E w' => ∃ (rest2 : List Candidate) (i3 : Nat) , m = rest2.length ∧ E = [(8, av0), (9, (Value.int .i64 ((a0.length : Nat) : Int))), (10, (Value.int .i64 ((i3 : Nat) : Int)))] ∧ Ch nb w w' ∧ At a0 i3 rest2 ∧ runB F7_linkboylaw18_Long_b1 rest2 () = o9 ∧ slRep k_Candidate (G F w.heap.size nb) w' a0 av0)
        ⟨a0, 0, rfl, rfl, c0, At.start, ho10, ah0⟩ ?_
    rintro _ _ w15 ⟨rest2, i3, rfl, rfl, c14, hat5, hL4, ah0⟩
    refine CW.seq (CW.region ?_)
    refine rl_bin rfl rfl B.lss rfl ?_
    refine RL.nil (thn_n ?_)
    refine CW.seq ?_
    refine CW.cond (t := decide (((i3 : Nat) : Int) < ((a0.length : Nat) : Int))) rfl (fun q17 => ?_) (fun q17 => ?_)
    ·
     obtain ⟨x11, rest18, rfl⟩ := hat5.cons q17
     obtain ⟨q6, hq7⟩ : ∃ q, F7_linkboylaw18_Long_b1 x11 () = q := ⟨_, rfl⟩
     have hb8 := hq7
     refine CW.skip (thn_n ?_)
     refine CW.seq ?_
     refine CW.block ?_
     refine CW.seq (CW.region ?_)
     refine rl_ixR rfl ah0 rfl hat5.get Try.underlying22 Try.sizeOf44 rfl ?_
     intro p19 o20 cs21 hr22 hs23 hg24
     obtain ⟨z25, rfl, h26⟩ := hr22
     refine rl_loadA (cs := (Candidate.c x11 z25)) rfl Try.isAgg44 Try.sizeOf44 (hs23) rfl rfl ?_
     refine rl_alloc (Candidate.c Candidate.z (Value.slice none 0 0)) Try.zeroValue44 rfl rfl ?_
     intro p27 w28 n29 k30
     have lo31 : ∀ b, inBlk (Value.pointer (some ⟨p27, 0, none⟩)) b → w.heap.size ≤ b := fun b h => Nat.le_trans c14.size (n29.fresh b h)
     have ah0 := slRep.st k_Candidate_pos ah0 n29.ch (admNew n29.fresh (fun _ x => x))
     have h26 := slRep.st kStr_pos h26 n29.ch (admNew n29.fresh (fun _ x => x))
     have c14 := c14.then0 n29.ch
     refine rl_storeA (vs := (Candidate.c x11 z25)) rfl rfl (Kd.one _ (show k_Candidate.rep (G F w.heap.size (un (inBlk (Value.pointer (some ⟨p27, 0, none⟩))) nb)) w28 x11 (Candidate.c x11 z25) from ⟨z25, rfl, h26⟩)) Try.sizeOf44 rfl k30 rfl ?_
     intro w32 s34 c33 k35
     have ad36 : ∀ b, b < w28.heap.size → ¬ (un (inBlk (Value.pointer (some ⟨p27, 0, none⟩))) nb) b → ¬ (inBlk (Value.pointer (some ⟨p27, 0, none⟩))) b ∧ ¬ (un (inBlk (Value.pointer (some ⟨p27, 0, none⟩))) nb) b := fun b _ hs => ⟨fun h => hs (.inl h), hs⟩
     have ah0 := slRep.st k_Candidate_pos ah0 c33 ad36
     have h26 := slRep.st kStr_pos h26 c33 ad36
     have c14 := c14.then c33 (fun i hi h => absurd (lo31 i h) (Nat.not_le_of_lt hi))
     refine RL.nil ?_
     refine thn_n ?_
     refine CW.seq (CW.region ?_)
     refine rl_fieldAddr rfl fa44_5 rfl ?_
     refine rl_loadS (v := z25) rfl Try.isAgg42 (k35.cell rfl) rfl ?_
     obtain ⟨y39, hy40⟩ : ∃ y, F23_linkboynum_Long x11.zones 400 = y := ⟨_, rfl⟩
     have hb8 := ltS hy40 hb8
     refine rl_callF rfl en23 rfl (ctr23 (G F w.heap.size (un (inBlk (Value.pointer (some ⟨p27, 0, none⟩))) nb)) w32 x11.zones z25 h26 400 y39 hy40) ?_
     rintro _ w37 ⟨rfl, c38⟩
     have ah0 := slRep.ch k_Candidate_pos ah0 c38
     have h26 := slRep.ch kStr_pos h26 c38
     have k35 := k35.ch0 c38
     have c14 := c14.then0 c38
     refine RL.nil ?_
     refine thn_n ?_
     refine CW.cond (t := y39) rfl (fun q41 => ?_) (fun q41 => ?_)
     ·
      have hb8 := ifT q41 hb8
      refine CW.seq (CW.region ?_)
      refine rl_assign rfl rfl ?_
      refine RL.nil ?_
      refine thn_n ?_
      refine CW.ret ?_
      refine inB_ret ?_
      refine thn_ret ?_
      refine thn_ret (inB_ret (thn_ret ?_))
      refine thn_ret ?_
      have f42 := runB_ret hL4 (hb8.trans hq7.symm)
      have hS := retS f42 hS
      obtain rfl := hS
      exact ret1 rfl ⟨rfl, c14⟩
     ·
      have hb8 := ifF q41 hb8
      refine CW.skip ?_
      refine inB_n ?_
      refine thn_n ?_
      refine CW.region ?_
      refine rl_inc rfl hat5.lt ah0.big rfl ?_
      refine rl_move rfl rfl ?_
      refine RL.nil ?_
      refine thn_n ?_
      have crf : Ch nb w37 w37 := Ch.refl
      have ah0 := slRep.st k_Candidate_pos ah0 crf (show ∀ b, b < w37.heap.size → ¬ (un (inBlk (Value.pointer (some ⟨p27, 0, none⟩))) nb) b → ¬ nb b ∧ ¬ nb b from fun b _ hs => ⟨fun x => x, fun h => hs (False.elim h)⟩)
      have h26 := slRep.st kStr_pos h26 crf (show ∀ b, b < w37.heap.size → ¬ (un (inBlk (Value.pointer (some ⟨p27, 0, none⟩))) nb) b → ¬ nb b ∧ ¬ nb b from fun b _ hs => ⟨fun x => x, fun h => hs (False.elim h)⟩)
      have c14 := c14.then0 crf
      have hLn := runB_next hL4 (hb8.trans hq7.symm)
      exact ⟨rest18.length, Nat.lt_succ_self _, [(8, av0), (9, (Value.int .i64 ((a0.length : Nat) : Int))), (10, (Value.int .i64 ((i3 + 1 : Nat) : Int)))], ⟨rfl, rfl, rfl, trivial⟩, ⟨rest18, i3 + 1, rfl, rfl, c14, hat5.next, hLn, ah0⟩⟩
    ·
     obtain rfl := hat5.nil q17
     have hLf : Lp.fin () = o9 := hL4
     refine CW.exit (thn_exit (thn_exit (inB_hit ?_)))
     exact ⟨(), trivial, c14, hLf, ah0⟩
   ·
    rintro _ w44 ⟨_, hE45, c43, f46, ah0⟩
    have hS := finS f46 hS
    refine thn_n (CW.sub [] hE45 ?_)
    refine CW.seq (CW.region ?_)
    refine rl_assign rfl rfl ?_
    refine RL.nil ?_
    refine thn_n ?_
    refine CW.ret ?_
    obtain rfl := hS
    exact ret1 rfl ⟨rfl, c43⟩
end Go.Proofs.Yteoaobiglodblaa
