/- The walks through the code: each call comes to its printed function. Written by a program of this session. -/
import Derived.Test.YtgcneihmkkldeaaGreatM
import Derived.Test.YtgcneihmkkldeaaGreatL
import Derived.Test.YtgcneihmkkldeaaGreatW4
namespace Go.Proofs.YtgcneihmkkldeaaGreat
open Go K
set_option linter.unusedVariables false
/-- slices.symMergeCmpFunc[lb/resolve.Group] -/
theorem ctr78_step (rec : (List Group) → Int → Int → Int → (Group → Group → Int) → Option (List Group)) (ih : ∀ (F : Nat → Prop) (w : World) (Bb : Nat) (S2 : Nat → Prop) (hB : Bb ≤ w.heap.size) (h2 : ∀ b, S2 b → b < w.heap.size) (av0 : Value) (hd2 : ∀ b, (inBlk av0) b → ¬ S2 b) (a0 : (List Group)) (ah0 : SlO k_Group 50 F Bb (un (inBlk av0) S2) w a0 av0) (a1 : Int) (a2 : Int) (a3 : Int) (a4 : (Group → Group → Int)) (av4 : Value) (ah4 : (Kd.fn2 Tryz.prog true true k_Group k_Group (Value.int .i64)).rep (G F Bb (un (inBlk av0) S2)) w a4 [av4]) (r : (List Group)) (hs : rec a0 a1 a2 a3 a4 = some r), Ret Tryz.prog 78 #[av0, (Value.int .i64 a1), (Value.int .i64 a2), (Value.int .i64 a3), av4] w fun v w' => v = Value.tuple #[] ∧ SlO k_Group 50 F Bb (un (inBlk av0) S2) w' r av0 ∧ Ch (inBlk av0) w w') (F : Nat → Prop) (w : World) (Bb : Nat) (S2 : Nat → Prop) (hB : Bb ≤ w.heap.size) (h2 : ∀ b, S2 b → b < w.heap.size) (av0 : Value) (hd2 : ∀ b, (inBlk av0) b → ¬ S2 b) (a0 : (List Group)) (ah0 : SlO k_Group 50 F Bb (un (inBlk av0) S2) w a0 av0) (a1 : Int) (a2 : Int) (a3 : Int) (a4 : (Group → Group → Int)) (av4 : Value) (ah4 : (Kd.fn2 Tryz.prog true true k_Group k_Group (Value.int .i64)).rep (G F Bb (un (inBlk av0) S2)) w a4 [av4]) (r : (List Group)) (hs : F78_slices_symMergeCmpFunc_resolve_Group_body rec a0 a1 a2 a3 a4 = some r) :
    Ret Tryz.prog 78 #[av0, (Value.int .i64 a1), (Value.int .i64 a2), (Value.int .i64 a3), av4] w fun v w' => v = Value.tuple #[] ∧ SlO k_Group 50 F Bb (un (inBlk av0) S2) w' r av0 ∧ Ch (inBlk av0) w w' := by
  have hS := hs
  have c0 : Ch (inBlk av0) w w := Ch.refl
  have lin0_0 : ∀ b, inBlk av0 b → (inBlk av0) b ∨ w.heap.size ≤ b := fun b h => .inl h
  refine Ret.of (n := 220) (args := [_, _, _, _, _]) (rs := []) Tryz.func78 rfl rfl rfl rfl ?_
  refine CW.seq ?_
  refine CW.seq (CW.region ?_)
  refine rl_move rfl rfl ?_
  refine rl_move rfl rfl ?_
  refine rl_bin rfl rfl B.sub rfl ?_
  refine rl_bin rfl rfl B.eql rfl ?_
  refine RL.nil ?_
  refine thn_n ?_
  refine CW.cond (t := decide ((IntKind.i64.wrap (a2 - a1)) = 1)) rfl (fun q1 => ?_) (fun q1 => ?_)
  ·
   have hS := ifT q1 hS
   refine CW.seq (CW.region ?_)
   refine rl_move rfl rfl ?_
   refine rl_assign rfl rfl ?_
   refine RL.nil ?_
   refine thn_n ?_
   refine CW.seq (CW.region ?_)
   refine rl_move rfl rfl ?_
   refine rl_assign rfl rfl ?_
   refine RL.nil ?_
   refine thn_n ?_
   refine CW.seq ?_
   obtain ⟨o11, ho12, hS⟩ := bindS hS
   refine CW.cutB (fun E' w' => ∃ (x2 : Int) (x3 : Int), Sub [(0, av0), (1, (Value.int .i64 a1)), (10, (Value.int .i64 x2))] E' ∧ Ch (inBlk av0) w w' ∧ Lp.fin (x2, x3) = o11 ∧ SlO k_Group 50 F Bb (un (inBlk av0) S2) w' a0 av0 ∧ (Kd.fn2 Tryz.prog true true k_Group k_Group (Value.int .i64)).rep (G F Bb (un (inBlk av0) S2)) w' a4 [av4]) ?_ ?_
   ·
    refine CW.loopS [(0, av0), (1, (Value.int .i64 a1)), (4, av4), (10, (Value.int .i64 a2)), (11, (Value.int .i64 a3))] ⟨rfl, rfl, rfl, rfl, rfl, trivial⟩ FUEL (fun m E w' => ∃ (x2 : Int) (x3 : Int), E = [(0, av0), (1, (Value.int .i64 a1)), (4, av4), (10, (Value.int .i64 x2)), (11, (Value.int .i64 x3))] ∧ Ch (inBlk av0) w w' ∧ runW (F78_slices_symMergeCmpFunc_resolve_Group_body_b1 a0 a1 a4) m (x2, x3) = some o11 ∧ SlO k_Group 50 F Bb (un (inBlk av0) S2) w' a0 av0 ∧ (Kd.fn2 Tryz.prog true true k_Group k_Group (Value.int .i64)).rep (G F Bb (un (inBlk av0) S2)) w' a4 [av4])
        ⟨a2, a3, rfl, c0, ho12, ah0, ah4⟩ ?_
    rintro _ _ w17 ⟨x2, x3, rfl, c16, hL6, ah0, ah4⟩
    obtain ⟨k15, q8, rfl, hq9⟩ := runW_some hL6
    have hb10 := hq9
    refine CW.seq ?_
    refine CW.seq (CW.region ?_)
    refine rl_move rfl rfl ?_
    refine rl_move rfl rfl ?_
    refine rl_bin rfl rfl B.lss rfl ?_
    refine RL.nil ?_
    refine thn_n ?_
    refine CW.cond (t := decide (x2 < x3)) rfl (fun q19 => ?_) (fun q19 => ?_)
    ·
     have hb10 := ifT q19 hb10
     refine CW.skip ?_
     refine thn_n ?_
     refine CW.block ?_
     refine CW.seq (CW.region ?_)
     refine rl_move rfl rfl ?_
     refine rl_move rfl rfl ?_
     refine rl_bin rfl rfl B.add rfl ?_
     refine rl_convInt rfl ⟨_, Tryz.underlying3⟩ Tryz.underlying168 rfl ?_
     refine rl_bin rfl rfl (B.shr rfl) rfl ?_
     refine rl_convInt rfl ⟨_, Tryz.underlying168⟩ Tryz.underlying3 rfl ?_
     refine rl_assign rfl rfl ?_
     refine RL.nil ?_
     refine thn_n ?_
     refine CW.seq ?_
     obtain ⟨y26, hy27, hb10⟩ := bindS hb10
     obtain ⟨y36, hy37, hb10⟩ := bindS hb10
     refine CW.draw 9 [(none, fun fx O uu wx => uu = av4), (none, fun fx O uu wx => uu = av0), (none, fun fx O uu wx => uu = (Value.int .i64 (IntKind.i64.wrap ((IntKind.u64.wrap (IntKind.i64.wrap (x2 + x3))).fdiv (2 ^ (min (Int.toNat 1) IntKind.u64.bits)))))), (none, fun fx O uu wx => ∃ (p20 : Nat) (o21 : Nat) (z28 : Value), uu = (Value.pointer (some ⟨p20, o21, none⟩)) ∧ slRep k_Point (G F Bb (un (inBlk av0) S2)) wx y26.points z28 ∧ Seg wx p20 o21 (Group.c y26 z28)), (none, fun fx O uu wx => ∃ (z28_4 : Value), uu = (Value.agg (Group.c y26 z28_4).toArray) ∧ slRep k_Point (G F Bb (un (inBlk av0) S2)) wx y26.points z28_4), (none, fun fx O uu wx => uu = av0), (none, fun fx O uu wx => uu = (Value.int .i64 a1)), (none, fun fx O uu wx => ∃ (p30 : Nat) (o31 : Nat) (z38 : Value), uu = (Value.pointer (some ⟨p30, o31, none⟩)) ∧ slRep k_Point (G F Bb (un (inBlk av0) S2)) wx y36.points z38 ∧ Seg wx p30 o31 (Group.c y36 z38)), (none, fun fx O uu wx => ∃ (z38_8 : Value), uu = (Value.agg (Group.c y36 z38_8).toArray) ∧ slRep k_Point (G F Bb (un (inBlk av0) S2)) wx y36.points z38_8)] [[], [], [], [1, 2], [3], [], [], [5, 6], [7]] [0, 4, 8] nb (fun _ h => h.elim) mixed rfl rfl rfl rfl ?_ ?_
     ·
      refine Each.consA ⟨fun _ _ _ _ _ _ h => h, fun h => absurd rfl h, fun fl O wk hE hN hO ck => ?_⟩ ?_
      ·
       refine rl_move rfl rfl ?_
       exact RL.nil ⟨_, rfl, Ch.refl, rfl⟩
      refine Each.consA ⟨fun _ _ _ _ _ _ h => h, fun h => absurd rfl h, fun fl O wk hE hN hO ck => ?_⟩ ?_
      ·
       refine rl_move rfl rfl ?_
       exact RL.nil ⟨_, rfl, Ch.refl, rfl⟩
      refine Each.consA ⟨fun _ _ _ _ _ _ h => h, fun h => absurd rfl h, fun fl O wk hE hN hO ck => ?_⟩ ?_
      ·
       refine rl_move rfl rfl ?_
       exact RL.nil ⟨_, rfl, Ch.refl, rfl⟩
      refine Each.consA ⟨fun _ _ _ _ _ cc hh => by obtain ⟨p20, o21, z28, e, h29, hs24⟩ := hh; exact ⟨p20, o21, z28, e, slRep.ch k_Point_pos h29 cc, hs24.ch0 cc⟩, fun h => absurd rfl h, fun fl O wk hE hN hO ck => ?_⟩ ?_
      ·
       have ah0 := ah0.ch0 ck
       refine Need.one rfl rfl rfl ?_
       rintro _ e42
       obtain rfl := e42.symm
       refine Need.one rfl rfl rfl ?_
       rintro _ e43
       obtain rfl := e43.symm
       refine rl_ixOR rfl ah0 rfl (ixO_get hy27) k_Group_pos Tryz.underlying37 Tryz.sizeOf50 rfl ?_
       intro p44 o45 cs46 hr47 hs48 hg49
       obtain ⟨z50, rfl, h51⟩ := hr47
       exact RL.nil ⟨_, rfl, Ch.refl, ⟨p44, o45, z50, rfl, h51, hs48⟩⟩
      refine Each.consA ⟨fun _ _ _ _ _ cc hh => by obtain ⟨z28_4, e, h29_4⟩ := hh; exact ⟨z28_4, e, slRep.ch k_Point_pos h29_4 cc⟩, fun h => absurd rfl h, fun fl O wk hE hN hO ck => ?_⟩ ?_
      ·
       refine Need.one rfl rfl rfl ?_
       rintro _ ⟨p20, o21, z28, e52, h29, hs24⟩
       obtain rfl := e52.symm
       refine rl_loadA (cs := (Group.c y26 z28)) rfl Tryz.isAgg50 Tryz.sizeOf50 (hs24) rfl rfl ?_
       exact RL.nil ⟨_, rfl, Ch.refl, ⟨z28, rfl, h29⟩⟩
      refine Each.consA ⟨fun _ _ _ _ _ _ h => h, fun h => absurd rfl h, fun fl O wk hE hN hO ck => ?_⟩ ?_
      ·
       refine rl_move rfl rfl ?_
       exact RL.nil ⟨_, rfl, Ch.refl, rfl⟩
      refine Each.consA ⟨fun _ _ _ _ _ _ h => h, fun h => absurd rfl h, fun fl O wk hE hN hO ck => ?_⟩ ?_
      ·
       refine rl_move rfl rfl ?_
       exact RL.nil ⟨_, rfl, Ch.refl, rfl⟩
      refine Each.consA ⟨fun _ _ _ _ _ cc hh => by obtain ⟨p30, o31, z38, e, h39, hs34⟩ := hh; exact ⟨p30, o31, z38, e, slRep.ch k_Point_pos h39 cc, hs34.ch0 cc⟩, fun h => absurd rfl h, fun fl O wk hE hN hO ck => ?_⟩ ?_
      ·
       have ah0 := ah0.ch0 ck
       refine Need.one rfl rfl rfl ?_
       rintro _ e53
       obtain rfl := e53.symm
       refine Need.one rfl rfl rfl ?_
       rintro _ e54
       obtain rfl := e54.symm
       refine rl_ixOR rfl ah0 rfl (ixO_get hy37) k_Group_pos Tryz.underlying37 Tryz.sizeOf50 rfl ?_
       intro p55 o56 cs57 hr58 hs59 hg60
       obtain ⟨z61, rfl, h62⟩ := hr58
       exact RL.nil ⟨_, rfl, Ch.refl, ⟨p55, o56, z61, rfl, h62, hs59⟩⟩
      refine Each.consA ⟨fun _ _ _ _ _ cc hh => by obtain ⟨z38_8, e, h39_8⟩ := hh; exact ⟨z38_8, e, slRep.ch k_Point_pos h39_8 cc⟩, fun h => absurd rfl h, fun fl O wk hE hN hO ck => ?_⟩ ?_
      ·
       refine Need.one rfl rfl rfl ?_
       rintro _ ⟨p30, o31, z38, e63, h39, hs34⟩
       obtain rfl := e63.symm
       refine rl_loadA (cs := (Group.c y36 z38)) rfl Tryz.isAgg50 Tryz.sizeOf50 (hs34) rfl rfl ?_
       exact RL.nil ⟨_, rfl, Ch.refl, ⟨z38, rfl, h39⟩⟩
      trivial
     ·
      intro hvO66 OpO66 O66 w64 hO67 c65 hN68
      have ah0 := ah0.ch0 c65
      have ah4 := Kd.ch ah4 c65
      have c16 := c16.then0 c65
      refine Need.one rfl rfl rfl ?_
      rintro _ e69
      obtain rfl := e69.symm
      refine Need.one rfl rfl rfl ?_
      rintro _ ⟨z28_4, e70, h29_4⟩
      obtain rfl := e70.symm
      refine Need.one rfl rfl rfl ?_
      rintro _ ⟨z38_8, e71, h39_8⟩
      obtain rfl := e71.symm
      refine rl_fn2 (c := (Group.c y26 z28_4)) (c' := (Group.c y36 z38_8)) rfl rfl rfl rfl rfl ah4 (F' := (G F Bb (un (inBlk av0) S2))) (xx := y26) (yy := y36) (show k_Group.rep (G F Bb (un (inBlk av0) S2)) w64 y26 (Group.c y26 z28_4) from ⟨z28_4, rfl, h29_4⟩) (show k_Group.rep (G F Bb (un (inBlk av0) S2)) w64 y36 (Group.c y36 z38_8) from ⟨z38_8, rfl, h39_8⟩) rfl ?_
      intro w72 c73
      have ah0 := ah0.ch0 c73
      have ah4 := Kd.ch ah4 c73
      have c16 := c16.then0 c73
      refine rl_bin rfl rfl B.lss rfl ?_
      refine RL.nil ?_
      refine thn_n ?_
      refine CW.cond (t := decide ((a4 y26 y36) < 0)) rfl (fun q74 => ?_) (fun q74 => ?_)
      ·
       have hb10 := ifT q74 hb10
       refine CW.region ?_
       refine rl_move rfl rfl ?_
       refine rl_bin rfl rfl B.add rfl ?_
       refine rl_assign rfl rfl ?_
       refine RL.nil ?_
       refine inB_n ?_
       refine thn_n ?_
       have hLn := runW_next hL6 hq9 hb10
       exact ⟨k15, Nat.lt_succ_self _, [(0, av0), (1, (Value.int .i64 a1)), (4, av4), (10, (Value.int .i64 (IntKind.i64.wrap ((IntKind.i64.wrap ((IntKind.u64.wrap (IntKind.i64.wrap (x2 + x3))).fdiv (2 ^ (min (Int.toNat 1) IntKind.u64.bits)))) + 1)))), (11, (Value.int .i64 x3))], ⟨rfl, rfl, rfl, rfl, rfl, trivial⟩, ⟨IntKind.i64.wrap ((IntKind.i64.wrap ((IntKind.u64.wrap (IntKind.i64.wrap (x2 + x3))).fdiv (2 ^ (min (Int.toNat 1) IntKind.u64.bits)))) + 1), x3, rfl, c16, hLn, ah0, ah4⟩⟩
      ·
       have hb10 := ifF q74 hb10
       refine CW.region ?_
       refine rl_move rfl rfl ?_
       refine rl_assign rfl rfl ?_
       refine RL.nil ?_
       refine inB_n ?_
       refine thn_n ?_
       have hLn := runW_next hL6 hq9 hb10
       exact ⟨k15, Nat.lt_succ_self _, [(0, av0), (1, (Value.int .i64 a1)), (4, av4), (10, (Value.int .i64 x2)), (11, (Value.int .i64 (IntKind.i64.wrap ((IntKind.u64.wrap (IntKind.i64.wrap (x2 + x3))).fdiv (2 ^ (min (Int.toNat 1) IntKind.u64.bits))))))], ⟨rfl, rfl, rfl, rfl, rfl, trivial⟩, ⟨x2, IntKind.i64.wrap ((IntKind.u64.wrap (IntKind.i64.wrap (x2 + x3))).fdiv (2 ^ (min (Int.toNat 1) IntKind.u64.bits))), rfl, c16, hLn, ah0, ah4⟩⟩
    ·
     have hb10 := ifF q19 hb10
     refine CW.exit ?_
     refine thn_exit ?_
     refine thn_exit ?_
     refine inB_hit ?_
     have hLf := runW_fin hL6 hq9 hb10
     exact ⟨x2, x3, ⟨rfl, rfl, rfl, trivial⟩, c16, hLf, ah0, ah4⟩
   ·
    rintro _ w76 ⟨x2, x3, hE77, c75, f78, ah0, ah4⟩
    have hS := finS f78 hS
    refine thn_n (CW.sub [(0, av0), (1, (Value.int .i64 a1)), (10, (Value.int .i64 x2))] hE77 ?_)
    refine CW.seq ?_
    refine CW.seq (CW.region ?_)
    refine rl_move rfl rfl ?_
    refine rl_assign rfl rfl ?_
    refine RL.nil ?_
    refine thn_n ?_
    obtain ⟨o90, ho91, hS⟩ := bindS hS
    refine CW.cutB (fun E' w' => ∃ (x80 : Int) (x81 : (List Group)), Sub [] E' ∧ Ch (inBlk av0) w w' ∧ Lp.fin (x80, x81) = o90 ∧ (Kd.fn2 Tryz.prog true true k_Group k_Group (Value.int .i64)).rep (G F Bb (un (inBlk av0) S2)) w' a4 [av4] ∧ SlO k_Group 50 F Bb (un (inBlk av0) S2) w' x81 av0) ?_ ?_
    ·
     refine CW.loopS [(0, av0), (10, (Value.int .i64 x2)), (13, (Value.int .i64 a1))] ⟨rfl, rfl, rfl, trivial⟩ FUEL (fun m E w' => ∃ (x80 : Int) (x81 : (List Group)), E = [(0, av0), (10, (Value.int .i64 x2)), (13, (Value.int .i64 x80))] ∧ Ch (inBlk av0) w w' ∧ runW (F78_slices_symMergeCmpFunc_resolve_Group_body_b2 x2 x2) m (x80, x81) = some o90 ∧ (Kd.fn2 Tryz.prog true true k_Group k_Group (Value.int .i64)).rep (G F Bb (un (inBlk av0) S2)) w' a4 [av4] ∧ SlO k_Group 50 F Bb (un (inBlk av0) S2) w' x81 av0)
         ⟨a1, a0, rfl, c75, ho91, ah4, ah0⟩ ?_
     rintro _ _ w96 ⟨x80, x81, rfl, c95, hL85, ah4, h82⟩
     obtain ⟨k94, q87, rfl, hq88⟩ := runW_some hL85
     have hb89 := hq88
     refine CW.seq ?_
     refine CW.seq (CW.region ?_)
     refine rl_move rfl rfl ?_
     refine rl_move rfl rfl ?_
     refine rl_bin rfl rfl B.sub rfl ?_
     refine rl_bin rfl rfl B.lss rfl ?_
     refine RL.nil ?_
     refine thn_n ?_
     refine CW.cond (t := decide (x80 < (IntKind.i64.wrap (x2 - 1)))) rfl (fun q98 => ?_) (fun q98 => ?_)
     ·
      have hb89 := ifT q98 hb89
      refine CW.skip ?_
      refine thn_n ?_
      refine CW.seq ?_
      refine CW.block ?_
      obtain ⟨y105, hy106, hb89⟩ := bindS hb89
      obtain ⟨y115, hy116, hb89⟩ := bindS hb89
      obtain ⟨y125, hy126, hb89⟩ := bindS hb89
      obtain ⟨y137, hy138, hb89⟩ := bindS hb89
      refine CW.draw 16 [(none, fun fx O uu wx => uu = av0), (none, fun fx O uu wx => uu = (Value.int .i64 x80)), (none, fun fx O uu wx => uu = av0), (none, fun fx O uu wx => uu = (Value.int .i64 x80)), (none, fun fx O uu wx => uu = (Value.int .i64 (IntKind.i64.wrap (x80 + 1)))), (none, fun fx O uu wx => uu = av0), (none, fun fx O uu wx => uu = (Value.int .i64 x80)), (none, fun fx O uu wx => uu = (Value.int .i64 (IntKind.i64.wrap (x80 + 1)))), (none, fun fx O uu wx => ∃ (p99 : Nat) (o100 : Nat) (z107 : Value), uu = (Value.pointer (some ⟨p99, o100, none⟩)) ∧ slRep k_Point (G F Bb (un O S2)) wx y105.points z107 ∧ (fx = [] → Seg wx p99 o100 (Group.c y105 z107))), (none, fun fx O uu wx => ∃ (z107_9 : Value), uu = (Value.agg (Group.c y105 z107_9).toArray) ∧ slRep k_Point (G F Bb (un O S2)) wx y105.points z107_9), (none, fun fx O uu wx => uu = av0), (none, fun fx O uu wx => uu = (Value.int .i64 x80)), (none, fun fx O uu wx => ∃ (p109 : Nat) (o110 : Nat) (z117 : Value), uu = (Value.pointer (some ⟨p109, o110, none⟩)) ∧ slRep k_Point (G F Bb (un O S2)) wx y115.points z117 ∧ (fx = [] → Seg wx p109 o110 (Group.c y115 z117))), (none, fun fx O uu wx => ∃ (z117_13 : Value), uu = (Value.agg (Group.c y115 z117_13).toArray) ∧ slRep k_Point (G F Bb (un O S2)) wx y115.points z117_13), (none, fun fx O uu wx => ∃ (p119 : Nat), uu = (Value.pointer (some ⟨p119, x80.toNat * k_Group.n, none⟩)) ∧ inBlk av0 p119), (some true, fun hv O uu wx => hv = [undef] ∧ uu = undef ∧ O = (inBlk av0) ∧ SlO k_Group 50 F Bb (un (inBlk av0) S2) wx (x81.set x80.toNat y105) av0)] [[], [], [], [], [3], [], [], [6], [5, 7], [8], [], [], [10, 11], [12], [0, 1], [9, 14]] [15, 2, 4, 13] (inBlk av0) (fun b h => (fun b hb => (h82.lt b hb).2) b h) mixed rfl rfl rfl rfl ?_ ?_
      ·
       refine Each.consA ⟨fun _ _ _ _ _ _ h => h, fun _ _ _ _ _ _ _ _ _ _ _ _ _ h => h, fun fl O wk hE hN hO ck => ?_⟩ ?_
       ·
        refine rl_move rfl rfl ?_
        exact RL.nil ⟨_, rfl, Ch.refl, rfl⟩
       refine Each.consA ⟨fun _ _ _ _ _ _ h => h, fun _ _ _ _ _ _ _ _ _ _ _ _ _ h => h, fun fl O wk hE hN hO ck => ?_⟩ ?_
       ·
        refine rl_move rfl rfl ?_
        exact RL.nil ⟨_, rfl, Ch.refl, rfl⟩
       refine Each.consA ⟨fun _ _ _ _ _ _ h => h, fun _ _ _ _ _ _ _ _ _ _ _ _ _ h => h, fun fl O wk hE hN hO ck => ?_⟩ ?_
       ·
        refine rl_move rfl rfl ?_
        exact RL.nil ⟨_, rfl, Ch.refl, rfl⟩
       refine Each.consA ⟨fun _ _ _ _ _ _ h => h, fun _ _ _ _ _ _ _ _ _ _ _ _ _ h => h, fun fl O wk hE hN hO ck => ?_⟩ ?_
       ·
        refine rl_move rfl rfl ?_
        exact RL.nil ⟨_, rfl, Ch.refl, rfl⟩
       refine Each.consA ⟨fun _ _ _ _ _ _ h => h, fun _ _ _ _ _ _ _ _ _ _ _ _ _ h => h, fun fl O wk hE hN hO ck => ?_⟩ ?_
       ·
        refine Need.one rfl rfl rfl ?_
        rintro _ e148
        obtain rfl := e148.symm
        refine rl_bin rfl rfl B.add rfl ?_
        exact RL.nil ⟨_, rfl, Ch.refl, rfl⟩
       refine Each.consA ⟨fun _ _ _ _ _ _ h => h, fun _ _ _ _ _ _ _ _ _ _ _ _ _ h => h, fun fl O wk hE hN hO ck => ?_⟩ ?_
       ·
        refine rl_move rfl rfl ?_
        exact RL.nil ⟨_, rfl, Ch.refl, rfl⟩
       refine Each.consA ⟨fun _ _ _ _ _ _ h => h, fun _ _ _ _ _ _ _ _ _ _ _ _ _ h => h, fun fl O wk hE hN hO ck => ?_⟩ ?_
       ·
        refine rl_move rfl rfl ?_
        exact RL.nil ⟨_, rfl, Ch.refl, rfl⟩
       refine Each.consA ⟨fun _ _ _ _ _ _ h => h, fun _ _ _ _ _ _ _ _ _ _ _ _ _ h => h, fun fl O wk hE hN hO ck => ?_⟩ ?_
       ·
        refine Need.one rfl rfl rfl ?_
        rintro _ e152
        obtain rfl := e152.symm
        refine rl_bin rfl rfl B.add rfl ?_
        exact RL.nil ⟨_, rfl, Ch.refl, rfl⟩
       refine Each.consA ⟨fun _ _ _ _ _ cc hh => by obtain ⟨p99, o100, z107, e, h108, hs103⟩ := hh; exact ⟨p99, o100, z107, e, slRep.ch k_Point_pos h108 cc, (fun hfx => (hs103 hfx).ch0 cc)⟩, fun _ _ h' O O' D _ wx wy hfl hD hO' cc hh => by obtain ⟨p99, o100, z107, e, h108, hs103⟩ := hh; have ad := admGh (S := S2) hD hO'; exact ⟨p99, o100, z107, e, slRep.st k_Point_pos h108 cc ad, (fun hfx => hfl.elim (fun e => by rw [e] at hfx; cases hfx) (fun e => Seg.ch0 (hs103 (e.1.symm.trans hfx)) (cc.mono (fun b _ hd => (e.2 b hd).elim))))⟩, fun fl O wk hE hN hO ck => ?_⟩ ?_
       ·
        obtain ⟨_, hB153⟩ := hN (hE rfl)
        have h82 := h82.ch0 hB153.2.1
        refine Need.one rfl rfl rfl ?_
        rintro _ e154
        obtain rfl := e154.symm
        refine Need.one rfl rfl rfl ?_
        rintro _ e155
        obtain rfl := e155.symm
        refine rl_ixOR rfl h82 rfl (ixO_get hy106) k_Group_pos Tryz.underlying37 Tryz.sizeOf50 rfl ?_
        intro p156 o157 cs158 hr159 hs160 hg161
        obtain ⟨z162, rfl, h163⟩ := hr159
        have h163 := slRep.wk (F' := (G F Bb (un O S2))) k_Point_pos h163 (fun b _ hf => ⟨hf.1, fun h => hf.2 (un_el h (fun ho => ((hB153.1 b).1 ho).elim (fun h => (.inl h)) (fun hk => by obtain ⟨_, hk, _⟩ := hk; cases hk)) (fun h => (.inr h)))⟩)
        exact RL.nil ⟨_, rfl, Ch.refl, ⟨p156, o157, z162, rfl, h163, (fun _ => hs160)⟩⟩
       refine Each.consA ⟨fun _ _ _ _ _ cc hh => by obtain ⟨z107_9, e, h108_9⟩ := hh; exact ⟨z107_9, e, slRep.ch k_Point_pos h108_9 cc⟩, fun _ _ h' O O' D _ wx wy hfl hD hO' cc hh => by obtain ⟨z107_9, e, h108_9⟩ := hh; have ad := admGh (S := S2) hD hO'; exact ⟨z107_9, e, slRep.st k_Point_pos h108_9 cc ad⟩, fun fl O wk hE hN hO ck => ?_⟩ ?_
       ·
        refine Need.one rfl rfl rfl ?_
        rintro _ ⟨p99, o100, z107, e165, h108, hs103⟩
        obtain rfl := e165.symm
        have hs103 := hs103 (hE rfl)
        refine rl_loadA (cs := (Group.c y105 z107)) rfl Tryz.isAgg50 Tryz.sizeOf50 (hs103) rfl rfl ?_
        exact RL.nil ⟨_, rfl, Ch.refl, ⟨z107, rfl, h108⟩⟩
       refine Each.consA ⟨fun _ _ _ _ _ _ h => h, fun _ _ _ _ _ _ _ _ _ _ _ _ _ h => h, fun fl O wk hE hN hO ck => ?_⟩ ?_
       ·
        refine rl_move rfl rfl ?_
        exact RL.nil ⟨_, rfl, Ch.refl, rfl⟩
       refine Each.consA ⟨fun _ _ _ _ _ _ h => h, fun _ _ _ _ _ _ _ _ _ _ _ _ _ h => h, fun fl O wk hE hN hO ck => ?_⟩ ?_
       ·
        refine rl_move rfl rfl ?_
        exact RL.nil ⟨_, rfl, Ch.refl, rfl⟩
       refine Each.consA ⟨fun _ _ _ _ _ cc hh => by obtain ⟨p109, o110, z117, e, h118, hs113⟩ := hh; exact ⟨p109, o110, z117, e, slRep.ch k_Point_pos h118 cc, (fun hfx => (hs113 hfx).ch0 cc)⟩, fun _ _ h' O O' D _ wx wy hfl hD hO' cc hh => by obtain ⟨p109, o110, z117, e, h118, hs113⟩ := hh; have ad := admGh (S := S2) hD hO'; exact ⟨p109, o110, z117, e, slRep.st k_Point_pos h118 cc ad, (fun hfx => hfl.elim (fun e => by rw [e] at hfx; cases hfx) (fun e => Seg.ch0 (hs113 (e.1.symm.trans hfx)) (cc.mono (fun b _ hd => (e.2 b hd).elim))))⟩, fun fl O wk hE hN hO ck => ?_⟩ ?_
       ·
        obtain ⟨_, hB168⟩ := hN (hE rfl)
        have h82 := h82.ch0 hB168.2.1
        refine Need.one rfl rfl rfl ?_
        rintro _ e169
        obtain rfl := e169.symm
        refine Need.one rfl rfl rfl ?_
        rintro _ e170
        obtain rfl := e170.symm
        refine rl_ixOR rfl h82 rfl (ixO_get hy116) k_Group_pos Tryz.underlying37 Tryz.sizeOf50 rfl ?_
        intro p171 o172 cs173 hr174 hs175 hg176
        obtain ⟨z177, rfl, h178⟩ := hr174
        have h178 := slRep.wk (F' := (G F Bb (un O S2))) k_Point_pos h178 (fun b _ hf => ⟨hf.1, fun h => hf.2 (un_el h (fun ho => ((hB168.1 b).1 ho).elim (fun h => (.inl h)) (fun hk => by obtain ⟨_, hk, _⟩ := hk; cases hk)) (fun h => (.inr h)))⟩)
        exact RL.nil ⟨_, rfl, Ch.refl, ⟨p171, o172, z177, rfl, h178, (fun _ => hs175)⟩⟩
       refine Each.consA ⟨fun _ _ _ _ _ cc hh => by obtain ⟨z117_13, e, h118_13⟩ := hh; exact ⟨z117_13, e, slRep.ch k_Point_pos h118_13 cc⟩, fun _ _ h' O O' D _ wx wy hfl hD hO' cc hh => by obtain ⟨z117_13, e, h118_13⟩ := hh; have ad := admGh (S := S2) hD hO'; exact ⟨z117_13, e, slRep.st k_Point_pos h118_13 cc ad⟩, fun fl O wk hE hN hO ck => ?_⟩ ?_
       ·
        refine Need.one rfl rfl rfl ?_
        rintro _ ⟨p109, o110, z117, e180, h118, hs113⟩
        obtain rfl := e180.symm
        have hs113 := hs113 (hE rfl)
        refine rl_loadA (cs := (Group.c y115 z117)) rfl Tryz.isAgg50 Tryz.sizeOf50 (hs113) rfl rfl ?_
        exact RL.nil ⟨_, rfl, Ch.refl, ⟨z117, rfl, h118⟩⟩
       refine Each.consA ⟨fun _ _ _ _ _ cc hh => by obtain ⟨p119, e, hg124⟩ := hh; exact ⟨p119, e, hg124⟩, fun _ _ h' O O' D _ wx wy hfl hD hO' cc hh => by obtain ⟨p119, e, hg124⟩ := hh; have ad := admGh (S := S2) hD hO'; exact ⟨p119, e, hg124⟩, fun fl O wk hE hN hO ck => ?_⟩ ?_
       ·
        obtain ⟨_, hB181⟩ := hN (hE rfl)
        have h82 := h82.ch0 hB181.2.1
        refine Need.one rfl rfl rfl ?_
        rintro _ e182
        obtain rfl := e182.symm
        refine Need.one rfl rfl rfl ?_
        rintro _ e183
        obtain rfl := e183.symm
        refine rl_ixO rfl h82 rfl (ixO_get hy126) Tryz.underlying37 Tryz.sizeOf50 rfl ?_
        intro p184 hg189
        exact RL.nil ⟨_, rfl, Ch.refl, ⟨p184, rfl, hg189⟩⟩
       refine Each.consO ⟨fun _ O _ wx wy cc hh => by obtain ⟨eh, e, rfl, ck15_0⟩ := hh; exact ⟨eh, e, rfl, ck15_0.ch0 cc⟩, fun hv Op O wk hO ck hO0 => ?_⟩ ?_
       ·
        obtain ⟨hl, hBg⟩ := hO0 rfl
        obtain rfl := List.eq_nil_of_length_eq_zero hl
        have h82 := h82.ch0 hBg.2.1
        refine Need.one rfl rfl rfl ?_
        rintro _ ⟨z107_9, e190, h108_9⟩
        obtain rfl := e190.symm
        have h108_9 := slRep.wk (F' := (G F Bb (un (inBlk av0) S2))) k_Point_pos h108_9 (fun b _ hf => ⟨hf.1, fun h => hf.2 (un_el h (fun h => (.inl ((hBg.1 b).2 (.inl h)))) (fun h => (.inr h)))⟩)
        refine Need.one rfl rfl rfl ?_
        rintro _ ⟨p119, e191, hg124⟩
        obtain rfl := e191.symm
        refine rl_storeOA rfl rfl Tryz.sizeOf50 h82 hg124 (ixO_lt hy126) (show k_Group.rep (G F Bb (un (inBlk av0) S2)) wk y105 (Group.c y105 z107_9) from ⟨z107_9, rfl, h108_9⟩) ?_
        intro w192 c193 h194
        have hb196 : ∀ b, (inBlk av0) b → (O b ∨ wk.heap.size ≤ b) ∧ b < w192.heap.size := fun b h => ⟨.inl ((hBg.1 b).2 (.inl h)), (fun b hb => (h194.lt b hb).2) b h⟩
        exact RL.nil ⟨_, (inBlk av0), rfl, hb196, (c193.mono (fun b _ h => ((hBg.1 b).2 (.inl h)))), ⟨rfl, rfl, rfl, h194⟩⟩
       trivial
      ·
       intro hvO199 OpO199 O199 w197 hO200 c198 hN201
       refine Need.hereN rfl rfl rfl rfl ?_
       rintro ⟨rfl, _, rfl, ck15_0⟩
       have ha203 : ∀ b, b < w96.heap.size → ¬ (un (inBlk av0) S2) b → ¬ (inBlk av0) b ∧ ¬ (un (inBlk av0) S2) b := fun b hb hs => ⟨fun h => hs (.inl h), fun h => un_el h (fun h => (hO200 b h).1.elim (fun h => hs (.inl h)) (fun h => Nat.not_le_of_lt hb h)) (fun h => hs (.inr h))⟩
       have ah4 := Kd.st ah4 c198 ha203
       have c95 := c95.then c198 (fun i hi h => (lin0_0 i h).elim (fun x => x) (fun x => absurd x (Nat.not_le_of_lt hi)))
       refine Need.one rfl rfl rfl ?_
       rintro _ e204
       obtain rfl := e204.symm
       refine Need.one rfl rfl rfl ?_
       rintro _ e205
       obtain rfl := e205.symm
       refine Need.one rfl rfl rfl ?_
       rintro _ ⟨z117_13, e206, h118_13⟩
       obtain rfl := e206.symm
       have h118_13 := slRep.wk (F' := (G F Bb (un (inBlk av0) S2))) k_Point_pos h118_13 (fun b _ hf => ⟨hf.1, fun h => hf.2 (un_el h (fun h => (.inl h)) (fun h => (.inr h)))⟩)
       refine rl_ixO rfl ck15_0 rfl (ixO_get hy138) Tryz.underlying37 Tryz.sizeOf50 rfl ?_
       intro p207 hg212
       refine rl_storeOA rfl rfl Tryz.sizeOf50 ck15_0 hg212 (ixO_lt hy138) (show k_Group.rep (G F Bb (un (inBlk av0) S2)) w197 y115 (Group.c y115 z117_13) from ⟨z117_13, rfl, h118_13⟩) ?_
       intro w213 c214 h215
       have ad216 : ∀ b, b < w197.heap.size → ¬ (un (inBlk av0) S2) b → ¬ (inBlk av0) b ∧ ¬ (un (inBlk av0) S2) b := fun b _ hs => ⟨fun h => hs (.inl h), hs⟩
       have ah4 := Kd.st ah4 c214 ad216
       have c95 := c95.then c214 (fun i hi h => (lin0_0 i h).elim (fun x => x) (fun x => absurd x (Nat.not_le_of_lt hi)))
       refine RL.nil ?_
       refine inB_n ?_
       refine thn_n ?_
       refine CW.region ?_
       refine rl_move rfl rfl ?_
       refine rl_bin rfl rfl B.add rfl ?_
       refine rl_assign rfl rfl ?_
       refine RL.nil ?_
       refine thn_n ?_
       have hLn := runW_next hL85 hq88 hb89
       exact ⟨k94, Nat.lt_succ_self _, [(0, av0), (10, (Value.int .i64 x2)), (13, (Value.int .i64 (IntKind.i64.wrap (x80 + 1))))], ⟨rfl, rfl, rfl, trivial⟩, ⟨IntKind.i64.wrap (x80 + 1), (x81.set x80.toNat y105).set (IntKind.i64.wrap (x80 + 1)).toNat y115, rfl, c95, hLn, ah4, h215⟩⟩
     ·
      have hb89 := ifF q98 hb89
      refine CW.exit ?_
      refine thn_exit ?_
      refine thn_exit ?_
      refine inB_hit ?_
      have hLf := runW_fin hL85 hq88 hb89
      exact ⟨x80, x81, trivial, c95, hLf, ah4, h82⟩
    ·
     rintro _ w218 ⟨x80, x81, hE219, c217, f220, ah4, h82⟩
     have hS := finS f220 hS
     refine thn_n (CW.sub [] hE219 ?_)
     refine CW.ret ?_
     refine thn_ret ?_
     obtain rfl := Option.some.inj hS
     exact ⟨[], trivial, ⟨rfl, h82, c217⟩⟩
  ·
   have hS := ifF q1 hS
   refine CW.skip ?_
   refine thn_n ?_
   refine CW.seq ?_
   refine CW.seq (CW.region ?_)
   refine rl_move rfl rfl ?_
   refine rl_move rfl rfl ?_
   refine rl_bin rfl rfl B.sub rfl ?_
   refine rl_bin rfl rfl B.eql rfl ?_
   refine RL.nil ?_
   refine thn_n ?_
   refine CW.cond (t := decide ((IntKind.i64.wrap (a3 - a2)) = 1)) rfl (fun q222 => ?_) (fun q222 => ?_)
   ·
    have hS := ifT q222 hS
    refine CW.seq (CW.region ?_)
    refine rl_move rfl rfl ?_
    refine rl_assign rfl rfl ?_
    refine RL.nil ?_
    refine thn_n ?_
    refine CW.seq (CW.region ?_)
    refine rl_move rfl rfl ?_
    refine rl_assign rfl rfl ?_
    refine RL.nil ?_
    refine thn_n ?_
    refine CW.seq ?_
    obtain ⟨o232, ho233, hS⟩ := bindS hS
    refine CW.cutB (fun E' w' => ∃ (x223 : Int) (x224 : Int), Sub [(0, av0), (2, (Value.int .i64 a2)), (14, (Value.int .i64 x223))] E' ∧ Ch (inBlk av0) w w' ∧ Lp.fin (x223, x224) = o232 ∧ SlO k_Group 50 F Bb (un (inBlk av0) S2) w' a0 av0 ∧ (Kd.fn2 Tryz.prog true true k_Group k_Group (Value.int .i64)).rep (G F Bb (un (inBlk av0) S2)) w' a4 [av4]) ?_ ?_
    ·
     refine CW.loopS [(0, av0), (2, (Value.int .i64 a2)), (4, av4), (14, (Value.int .i64 a1)), (15, (Value.int .i64 a2))] ⟨rfl, rfl, rfl, rfl, rfl, trivial⟩ FUEL (fun m E w' => ∃ (x223 : Int) (x224 : Int), E = [(0, av0), (2, (Value.int .i64 a2)), (4, av4), (14, (Value.int .i64 x223)), (15, (Value.int .i64 x224))] ∧ Ch (inBlk av0) w w' ∧ runW (F78_slices_symMergeCmpFunc_resolve_Group_body_b3 a0 a2 a4) m (x223, x224) = some o232 ∧ SlO k_Group 50 F Bb (un (inBlk av0) S2) w' a0 av0 ∧ (Kd.fn2 Tryz.prog true true k_Group k_Group (Value.int .i64)).rep (G F Bb (un (inBlk av0) S2)) w' a4 [av4])
         ⟨a1, a2, rfl, c0, ho233, ah0, ah4⟩ ?_
     rintro _ _ w238 ⟨x223, x224, rfl, c237, hL227, ah0, ah4⟩
     obtain ⟨k236, q229, rfl, hq230⟩ := runW_some hL227
     have hb231 := hq230
     refine CW.seq ?_
     refine CW.seq (CW.region ?_)
     refine rl_move rfl rfl ?_
     refine rl_move rfl rfl ?_
     refine rl_bin rfl rfl B.lss rfl ?_
     refine RL.nil ?_
     refine thn_n ?_
     refine CW.cond (t := decide (x223 < x224)) rfl (fun q240 => ?_) (fun q240 => ?_)
     ·
      have hb231 := ifT q240 hb231
      refine CW.skip ?_
      refine thn_n ?_
      refine CW.block ?_
      refine CW.seq (CW.region ?_)
      refine rl_move rfl rfl ?_
      refine rl_move rfl rfl ?_
      refine rl_bin rfl rfl B.add rfl ?_
      refine rl_convInt rfl ⟨_, Tryz.underlying3⟩ Tryz.underlying168 rfl ?_
      refine rl_bin rfl rfl (B.shr rfl) rfl ?_
      refine rl_convInt rfl ⟨_, Tryz.underlying168⟩ Tryz.underlying3 rfl ?_
      refine rl_assign rfl rfl ?_
      refine RL.nil ?_
      refine thn_n ?_
      refine CW.seq ?_
      obtain ⟨y247, hy248, hb231⟩ := bindS hb231
      obtain ⟨y257, hy258, hb231⟩ := bindS hb231
      refine CW.draw 9 [(none, fun fx O uu wx => uu = av4), (none, fun fx O uu wx => uu = av0), (none, fun fx O uu wx => uu = (Value.int .i64 a2)), (none, fun fx O uu wx => ∃ (p241 : Nat) (o242 : Nat) (z249 : Value), uu = (Value.pointer (some ⟨p241, o242, none⟩)) ∧ slRep k_Point (G F Bb (un (inBlk av0) S2)) wx y247.points z249 ∧ Seg wx p241 o242 (Group.c y247 z249)), (none, fun fx O uu wx => ∃ (z249_4 : Value), uu = (Value.agg (Group.c y247 z249_4).toArray) ∧ slRep k_Point (G F Bb (un (inBlk av0) S2)) wx y247.points z249_4), (none, fun fx O uu wx => uu = av0), (none, fun fx O uu wx => uu = (Value.int .i64 (IntKind.i64.wrap ((IntKind.u64.wrap (IntKind.i64.wrap (x223 + x224))).fdiv (2 ^ (min (Int.toNat 1) IntKind.u64.bits)))))), (none, fun fx O uu wx => ∃ (p251 : Nat) (o252 : Nat) (z259 : Value), uu = (Value.pointer (some ⟨p251, o252, none⟩)) ∧ slRep k_Point (G F Bb (un (inBlk av0) S2)) wx y257.points z259 ∧ Seg wx p251 o252 (Group.c y257 z259)), (none, fun fx O uu wx => ∃ (z259_8 : Value), uu = (Value.agg (Group.c y257 z259_8).toArray) ∧ slRep k_Point (G F Bb (un (inBlk av0) S2)) wx y257.points z259_8)] [[], [], [], [1, 2], [3], [], [], [5, 6], [7]] [0, 4, 8] nb (fun _ h => h.elim) mixed rfl rfl rfl rfl ?_ ?_
      ·
       refine Each.consA ⟨fun _ _ _ _ _ _ h => h, fun h => absurd rfl h, fun fl O wk hE hN hO ck => ?_⟩ ?_
       ·
        refine rl_move rfl rfl ?_
        exact RL.nil ⟨_, rfl, Ch.refl, rfl⟩
       refine Each.consA ⟨fun _ _ _ _ _ _ h => h, fun h => absurd rfl h, fun fl O wk hE hN hO ck => ?_⟩ ?_
       ·
        refine rl_move rfl rfl ?_
        exact RL.nil ⟨_, rfl, Ch.refl, rfl⟩
       refine Each.consA ⟨fun _ _ _ _ _ _ h => h, fun h => absurd rfl h, fun fl O wk hE hN hO ck => ?_⟩ ?_
       ·
        refine rl_move rfl rfl ?_
        exact RL.nil ⟨_, rfl, Ch.refl, rfl⟩
       refine Each.consA ⟨fun _ _ _ _ _ cc hh => by obtain ⟨p241, o242, z249, e, h250, hs245⟩ := hh; exact ⟨p241, o242, z249, e, slRep.ch k_Point_pos h250 cc, hs245.ch0 cc⟩, fun h => absurd rfl h, fun fl O wk hE hN hO ck => ?_⟩ ?_
       ·
        have ah0 := ah0.ch0 ck
        refine Need.one rfl rfl rfl ?_
        rintro _ e263
        obtain rfl := e263.symm
        refine Need.one rfl rfl rfl ?_
        rintro _ e264
        obtain rfl := e264.symm
        refine rl_ixOR rfl ah0 rfl (ixO_get hy248) k_Group_pos Tryz.underlying37 Tryz.sizeOf50 rfl ?_
        intro p265 o266 cs267 hr268 hs269 hg270
        obtain ⟨z271, rfl, h272⟩ := hr268
        exact RL.nil ⟨_, rfl, Ch.refl, ⟨p265, o266, z271, rfl, h272, hs269⟩⟩
       refine Each.consA ⟨fun _ _ _ _ _ cc hh => by obtain ⟨z249_4, e, h250_4⟩ := hh; exact ⟨z249_4, e, slRep.ch k_Point_pos h250_4 cc⟩, fun h => absurd rfl h, fun fl O wk hE hN hO ck => ?_⟩ ?_
       ·
        refine Need.one rfl rfl rfl ?_
        rintro _ ⟨p241, o242, z249, e273, h250, hs245⟩
        obtain rfl := e273.symm
        refine rl_loadA (cs := (Group.c y247 z249)) rfl Tryz.isAgg50 Tryz.sizeOf50 (hs245) rfl rfl ?_
        exact RL.nil ⟨_, rfl, Ch.refl, ⟨z249, rfl, h250⟩⟩
       refine Each.consA ⟨fun _ _ _ _ _ _ h => h, fun h => absurd rfl h, fun fl O wk hE hN hO ck => ?_⟩ ?_
       ·
        refine rl_move rfl rfl ?_
        exact RL.nil ⟨_, rfl, Ch.refl, rfl⟩
       refine Each.consA ⟨fun _ _ _ _ _ _ h => h, fun h => absurd rfl h, fun fl O wk hE hN hO ck => ?_⟩ ?_
       ·
        refine rl_move rfl rfl ?_
        exact RL.nil ⟨_, rfl, Ch.refl, rfl⟩
       refine Each.consA ⟨fun _ _ _ _ _ cc hh => by obtain ⟨p251, o252, z259, e, h260, hs255⟩ := hh; exact ⟨p251, o252, z259, e, slRep.ch k_Point_pos h260 cc, hs255.ch0 cc⟩, fun h => absurd rfl h, fun fl O wk hE hN hO ck => ?_⟩ ?_
       ·
        have ah0 := ah0.ch0 ck
        refine Need.one rfl rfl rfl ?_
        rintro _ e274
        obtain rfl := e274.symm
        refine Need.one rfl rfl rfl ?_
        rintro _ e275
        obtain rfl := e275.symm
        refine rl_ixOR rfl ah0 rfl (ixO_get hy258) k_Group_pos Tryz.underlying37 Tryz.sizeOf50 rfl ?_
        intro p276 o277 cs278 hr279 hs280 hg281
        obtain ⟨z282, rfl, h283⟩ := hr279
        exact RL.nil ⟨_, rfl, Ch.refl, ⟨p276, o277, z282, rfl, h283, hs280⟩⟩
       refine Each.consA ⟨fun _ _ _ _ _ cc hh => by obtain ⟨z259_8, e, h260_8⟩ := hh; exact ⟨z259_8, e, slRep.ch k_Point_pos h260_8 cc⟩, fun h => absurd rfl h, fun fl O wk hE hN hO ck => ?_⟩ ?_
       ·
        refine Need.one rfl rfl rfl ?_
        rintro _ ⟨p251, o252, z259, e284, h260, hs255⟩
        obtain rfl := e284.symm
        refine rl_loadA (cs := (Group.c y257 z259)) rfl Tryz.isAgg50 Tryz.sizeOf50 (hs255) rfl rfl ?_
        exact RL.nil ⟨_, rfl, Ch.refl, ⟨z259, rfl, h260⟩⟩
       trivial
      ·
       intro hvO287 OpO287 O287 w285 hO288 c286 hN289
       have ah0 := ah0.ch0 c286
       have ah4 := Kd.ch ah4 c286
       have c237 := c237.then0 c286
       refine Need.one rfl rfl rfl ?_
       rintro _ e290
       obtain rfl := e290.symm
       refine Need.one rfl rfl rfl ?_
       rintro _ ⟨z249_4, e291, h250_4⟩
       obtain rfl := e291.symm
       refine Need.one rfl rfl rfl ?_
       rintro _ ⟨z259_8, e292, h260_8⟩
       obtain rfl := e292.symm
       refine rl_fn2 (c := (Group.c y247 z249_4)) (c' := (Group.c y257 z259_8)) rfl rfl rfl rfl rfl ah4 (F' := (G F Bb (un (inBlk av0) S2))) (xx := y247) (yy := y257) (show k_Group.rep (G F Bb (un (inBlk av0) S2)) w285 y247 (Group.c y247 z249_4) from ⟨z249_4, rfl, h250_4⟩) (show k_Group.rep (G F Bb (un (inBlk av0) S2)) w285 y257 (Group.c y257 z259_8) from ⟨z259_8, rfl, h260_8⟩) rfl ?_
       intro w293 c294
       have ah0 := ah0.ch0 c294
       have ah4 := Kd.ch ah4 c294
       have c237 := c237.then0 c294
       refine rl_bin rfl rfl B.lss rfl ?_
       refine rl_not rfl rfl ?_
       refine RL.nil ?_
       refine thn_n ?_
       refine CW.cond (t := !(decide ((a4 y247 y257) < 0))) rfl (fun q295 => ?_) (fun q295 => ?_)
       ·
        have hb231 := ifT q295 hb231
        refine CW.region ?_
        refine rl_move rfl rfl ?_
        refine rl_bin rfl rfl B.add rfl ?_
        refine rl_assign rfl rfl ?_
        refine RL.nil ?_
        refine inB_n ?_
        refine thn_n ?_
        have hLn := runW_next hL227 hq230 hb231
        exact ⟨k236, Nat.lt_succ_self _, [(0, av0), (2, (Value.int .i64 a2)), (4, av4), (14, (Value.int .i64 (IntKind.i64.wrap ((IntKind.i64.wrap ((IntKind.u64.wrap (IntKind.i64.wrap (x223 + x224))).fdiv (2 ^ (min (Int.toNat 1) IntKind.u64.bits)))) + 1)))), (15, (Value.int .i64 x224))], ⟨rfl, rfl, rfl, rfl, rfl, trivial⟩, ⟨IntKind.i64.wrap ((IntKind.i64.wrap ((IntKind.u64.wrap (IntKind.i64.wrap (x223 + x224))).fdiv (2 ^ (min (Int.toNat 1) IntKind.u64.bits)))) + 1), x224, rfl, c237, hLn, ah0, ah4⟩⟩
       ·
        have hb231 := ifF q295 hb231
        refine CW.region ?_
        refine rl_move rfl rfl ?_
        refine rl_assign rfl rfl ?_
        refine RL.nil ?_
        refine inB_n ?_
        refine thn_n ?_
        have hLn := runW_next hL227 hq230 hb231
        exact ⟨k236, Nat.lt_succ_self _, [(0, av0), (2, (Value.int .i64 a2)), (4, av4), (14, (Value.int .i64 x223)), (15, (Value.int .i64 (IntKind.i64.wrap ((IntKind.u64.wrap (IntKind.i64.wrap (x223 + x224))).fdiv (2 ^ (min (Int.toNat 1) IntKind.u64.bits))))))], ⟨rfl, rfl, rfl, rfl, rfl, trivial⟩, ⟨x223, IntKind.i64.wrap ((IntKind.u64.wrap (IntKind.i64.wrap (x223 + x224))).fdiv (2 ^ (min (Int.toNat 1) IntKind.u64.bits))), rfl, c237, hLn, ah0, ah4⟩⟩
     ·
      have hb231 := ifF q240 hb231
      refine CW.exit ?_
      refine thn_exit ?_
      refine thn_exit ?_
      refine inB_hit ?_
      have hLf := runW_fin hL227 hq230 hb231
      exact ⟨x223, x224, ⟨rfl, rfl, rfl, trivial⟩, c237, hLf, ah0, ah4⟩
    ·
     rintro _ w297 ⟨x223, x224, hE298, c296, f299, ah0, ah4⟩
     have hS := finS f299 hS
     refine thn_n (CW.sub [(0, av0), (2, (Value.int .i64 a2)), (14, (Value.int .i64 x223))] hE298 ?_)
     refine CW.seq ?_
     refine CW.seq (CW.region ?_)
     refine rl_move rfl rfl ?_
     refine rl_assign rfl rfl ?_
     refine RL.nil ?_
     refine thn_n ?_
     obtain ⟨o311, ho312, hS⟩ := bindS hS
     refine CW.cutB (fun E' w' => ∃ (x301 : Int) (x302 : (List Group)), Sub [] E' ∧ Ch (inBlk av0) w w' ∧ Lp.fin (x301, x302) = o311 ∧ (Kd.fn2 Tryz.prog true true k_Group k_Group (Value.int .i64)).rep (G F Bb (un (inBlk av0) S2)) w' a4 [av4] ∧ SlO k_Group 50 F Bb (un (inBlk av0) S2) w' x302 av0) ?_ ?_
     ·
      refine CW.loopS [(0, av0), (14, (Value.int .i64 x223)), (17, (Value.int .i64 a2))] ⟨rfl, rfl, rfl, trivial⟩ FUEL (fun m E w' => ∃ (x301 : Int) (x302 : (List Group)), E = [(0, av0), (14, (Value.int .i64 x223)), (17, (Value.int .i64 x301))] ∧ Ch (inBlk av0) w w' ∧ runW (F78_slices_symMergeCmpFunc_resolve_Group_body_b4 x223 x223) m (x301, x302) = some o311 ∧ (Kd.fn2 Tryz.prog true true k_Group k_Group (Value.int .i64)).rep (G F Bb (un (inBlk av0) S2)) w' a4 [av4] ∧ SlO k_Group 50 F Bb (un (inBlk av0) S2) w' x302 av0)
          ⟨a2, a0, rfl, c296, ho312, ah4, ah0⟩ ?_
      rintro _ _ w317 ⟨x301, x302, rfl, c316, hL306, ah4, h303⟩
      obtain ⟨k315, q308, rfl, hq309⟩ := runW_some hL306
      have hb310 := hq309
      refine CW.seq ?_
      refine CW.seq (CW.region ?_)
      refine rl_move rfl rfl ?_
      refine rl_move rfl rfl ?_
      refine rl_bin rfl rfl B.gtr rfl ?_
      refine RL.nil ?_
      refine thn_n ?_
      refine CW.cond (t := decide (x301 > x223)) rfl (fun q319 => ?_) (fun q319 => ?_)
      ·
       have hb310 := ifT q319 hb310
       refine CW.skip ?_
       refine thn_n ?_
       refine CW.seq ?_
       refine CW.block ?_
       obtain ⟨y326, hy327, hb310⟩ := bindS hb310
       obtain ⟨y336, hy337, hb310⟩ := bindS hb310
       obtain ⟨y346, hy347, hb310⟩ := bindS hb310
       obtain ⟨y358, hy359, hb310⟩ := bindS hb310
       refine CW.draw 16 [(none, fun fx O uu wx => uu = av0), (none, fun fx O uu wx => uu = (Value.int .i64 x301)), (none, fun fx O uu wx => uu = av0), (none, fun fx O uu wx => uu = (Value.int .i64 x301)), (none, fun fx O uu wx => uu = (Value.int .i64 (IntKind.i64.wrap (x301 - 1)))), (none, fun fx O uu wx => uu = av0), (none, fun fx O uu wx => uu = (Value.int .i64 x301)), (none, fun fx O uu wx => uu = (Value.int .i64 (IntKind.i64.wrap (x301 - 1)))), (none, fun fx O uu wx => ∃ (p320 : Nat) (o321 : Nat) (z328 : Value), uu = (Value.pointer (some ⟨p320, o321, none⟩)) ∧ slRep k_Point (G F Bb (un O S2)) wx y326.points z328 ∧ (fx = [] → Seg wx p320 o321 (Group.c y326 z328))), (none, fun fx O uu wx => ∃ (z328_9 : Value), uu = (Value.agg (Group.c y326 z328_9).toArray) ∧ slRep k_Point (G F Bb (un O S2)) wx y326.points z328_9), (none, fun fx O uu wx => uu = av0), (none, fun fx O uu wx => uu = (Value.int .i64 x301)), (none, fun fx O uu wx => ∃ (p330 : Nat) (o331 : Nat) (z338 : Value), uu = (Value.pointer (some ⟨p330, o331, none⟩)) ∧ slRep k_Point (G F Bb (un O S2)) wx y336.points z338 ∧ (fx = [] → Seg wx p330 o331 (Group.c y336 z338))), (none, fun fx O uu wx => ∃ (z338_13 : Value), uu = (Value.agg (Group.c y336 z338_13).toArray) ∧ slRep k_Point (G F Bb (un O S2)) wx y336.points z338_13), (none, fun fx O uu wx => ∃ (p340 : Nat), uu = (Value.pointer (some ⟨p340, x301.toNat * k_Group.n, none⟩)) ∧ inBlk av0 p340), (some true, fun hv O uu wx => hv = [undef] ∧ uu = undef ∧ O = (inBlk av0) ∧ SlO k_Group 50 F Bb (un (inBlk av0) S2) wx (x302.set x301.toNat y326) av0)] [[], [], [], [], [3], [], [], [6], [5, 7], [8], [], [], [10, 11], [12], [0, 1], [9, 14]] [15, 2, 4, 13] (inBlk av0) (fun b h => (fun b hb => (h303.lt b hb).2) b h) mixed rfl rfl rfl rfl ?_ ?_
       ·
        refine Each.consA ⟨fun _ _ _ _ _ _ h => h, fun _ _ _ _ _ _ _ _ _ _ _ _ _ h => h, fun fl O wk hE hN hO ck => ?_⟩ ?_
        ·
         refine rl_move rfl rfl ?_
         exact RL.nil ⟨_, rfl, Ch.refl, rfl⟩
        refine Each.consA ⟨fun _ _ _ _ _ _ h => h, fun _ _ _ _ _ _ _ _ _ _ _ _ _ h => h, fun fl O wk hE hN hO ck => ?_⟩ ?_
        ·
         refine rl_move rfl rfl ?_
         exact RL.nil ⟨_, rfl, Ch.refl, rfl⟩
        refine Each.consA ⟨fun _ _ _ _ _ _ h => h, fun _ _ _ _ _ _ _ _ _ _ _ _ _ h => h, fun fl O wk hE hN hO ck => ?_⟩ ?_
        ·
         refine rl_move rfl rfl ?_
         exact RL.nil ⟨_, rfl, Ch.refl, rfl⟩
        refine Each.consA ⟨fun _ _ _ _ _ _ h => h, fun _ _ _ _ _ _ _ _ _ _ _ _ _ h => h, fun fl O wk hE hN hO ck => ?_⟩ ?_
        ·
         refine rl_move rfl rfl ?_
         exact RL.nil ⟨_, rfl, Ch.refl, rfl⟩
        refine Each.consA ⟨fun _ _ _ _ _ _ h => h, fun _ _ _ _ _ _ _ _ _ _ _ _ _ h => h, fun fl O wk hE hN hO ck => ?_⟩ ?_
        ·
         refine Need.one rfl rfl rfl ?_
         rintro _ e369
         obtain rfl := e369.symm
         refine rl_bin rfl rfl B.sub rfl ?_
         exact RL.nil ⟨_, rfl, Ch.refl, rfl⟩
        refine Each.consA ⟨fun _ _ _ _ _ _ h => h, fun _ _ _ _ _ _ _ _ _ _ _ _ _ h => h, fun fl O wk hE hN hO ck => ?_⟩ ?_
        ·
         refine rl_move rfl rfl ?_
         exact RL.nil ⟨_, rfl, Ch.refl, rfl⟩
        refine Each.consA ⟨fun _ _ _ _ _ _ h => h, fun _ _ _ _ _ _ _ _ _ _ _ _ _ h => h, fun fl O wk hE hN hO ck => ?_⟩ ?_
        ·
         refine rl_move rfl rfl ?_
         exact RL.nil ⟨_, rfl, Ch.refl, rfl⟩
        refine Each.consA ⟨fun _ _ _ _ _ _ h => h, fun _ _ _ _ _ _ _ _ _ _ _ _ _ h => h, fun fl O wk hE hN hO ck => ?_⟩ ?_
        ·
         refine Need.one rfl rfl rfl ?_
         rintro _ e373
         obtain rfl := e373.symm
         refine rl_bin rfl rfl B.sub rfl ?_
         exact RL.nil ⟨_, rfl, Ch.refl, rfl⟩
        refine Each.consA ⟨fun _ _ _ _ _ cc hh => by obtain ⟨p320, o321, z328, e, h329, hs324⟩ := hh; exact ⟨p320, o321, z328, e, slRep.ch k_Point_pos h329 cc, (fun hfx => (hs324 hfx).ch0 cc)⟩, fun _ _ h' O O' D _ wx wy hfl hD hO' cc hh => by obtain ⟨p320, o321, z328, e, h329, hs324⟩ := hh; have ad := admGh (S := S2) hD hO'; exact ⟨p320, o321, z328, e, slRep.st k_Point_pos h329 cc ad, (fun hfx => hfl.elim (fun e => by rw [e] at hfx; cases hfx) (fun e => Seg.ch0 (hs324 (e.1.symm.trans hfx)) (cc.mono (fun b _ hd => (e.2 b hd).elim))))⟩, fun fl O wk hE hN hO ck => ?_⟩ ?_
        ·
         obtain ⟨_, hB374⟩ := hN (hE rfl)
         have h303 := h303.ch0 hB374.2.1
         refine Need.one rfl rfl rfl ?_
         rintro _ e375
         obtain rfl := e375.symm
         refine Need.one rfl rfl rfl ?_
         rintro _ e376
         obtain rfl := e376.symm
         refine rl_ixOR rfl h303 rfl (ixO_get hy327) k_Group_pos Tryz.underlying37 Tryz.sizeOf50 rfl ?_
         intro p377 o378 cs379 hr380 hs381 hg382
         obtain ⟨z383, rfl, h384⟩ := hr380
         have h384 := slRep.wk (F' := (G F Bb (un O S2))) k_Point_pos h384 (fun b _ hf => ⟨hf.1, fun h => hf.2 (un_el h (fun ho => ((hB374.1 b).1 ho).elim (fun h => (.inl h)) (fun hk => by obtain ⟨_, hk, _⟩ := hk; cases hk)) (fun h => (.inr h)))⟩)
         exact RL.nil ⟨_, rfl, Ch.refl, ⟨p377, o378, z383, rfl, h384, (fun _ => hs381)⟩⟩
        refine Each.consA ⟨fun _ _ _ _ _ cc hh => by obtain ⟨z328_9, e, h329_9⟩ := hh; exact ⟨z328_9, e, slRep.ch k_Point_pos h329_9 cc⟩, fun _ _ h' O O' D _ wx wy hfl hD hO' cc hh => by obtain ⟨z328_9, e, h329_9⟩ := hh; have ad := admGh (S := S2) hD hO'; exact ⟨z328_9, e, slRep.st k_Point_pos h329_9 cc ad⟩, fun fl O wk hE hN hO ck => ?_⟩ ?_
        ·
         refine Need.one rfl rfl rfl ?_
         rintro _ ⟨p320, o321, z328, e386, h329, hs324⟩
         obtain rfl := e386.symm
         have hs324 := hs324 (hE rfl)
         refine rl_loadA (cs := (Group.c y326 z328)) rfl Tryz.isAgg50 Tryz.sizeOf50 (hs324) rfl rfl ?_
         exact RL.nil ⟨_, rfl, Ch.refl, ⟨z328, rfl, h329⟩⟩
        refine Each.consA ⟨fun _ _ _ _ _ _ h => h, fun _ _ _ _ _ _ _ _ _ _ _ _ _ h => h, fun fl O wk hE hN hO ck => ?_⟩ ?_
        ·
         refine rl_move rfl rfl ?_
         exact RL.nil ⟨_, rfl, Ch.refl, rfl⟩
        refine Each.consA ⟨fun _ _ _ _ _ _ h => h, fun _ _ _ _ _ _ _ _ _ _ _ _ _ h => h, fun fl O wk hE hN hO ck => ?_⟩ ?_
        ·
         refine rl_move rfl rfl ?_
         exact RL.nil ⟨_, rfl, Ch.refl, rfl⟩
        refine Each.consA ⟨fun _ _ _ _ _ cc hh => by obtain ⟨p330, o331, z338, e, h339, hs334⟩ := hh; exact ⟨p330, o331, z338, e, slRep.ch k_Point_pos h339 cc, (fun hfx => (hs334 hfx).ch0 cc)⟩, fun _ _ h' O O' D _ wx wy hfl hD hO' cc hh => by obtain ⟨p330, o331, z338, e, h339, hs334⟩ := hh; have ad := admGh (S := S2) hD hO'; exact ⟨p330, o331, z338, e, slRep.st k_Point_pos h339 cc ad, (fun hfx => hfl.elim (fun e => by rw [e] at hfx; cases hfx) (fun e => Seg.ch0 (hs334 (e.1.symm.trans hfx)) (cc.mono (fun b _ hd => (e.2 b hd).elim))))⟩, fun fl O wk hE hN hO ck => ?_⟩ ?_
        ·
         obtain ⟨_, hB389⟩ := hN (hE rfl)
         have h303 := h303.ch0 hB389.2.1
         refine Need.one rfl rfl rfl ?_
         rintro _ e390
         obtain rfl := e390.symm
         refine Need.one rfl rfl rfl ?_
         rintro _ e391
         obtain rfl := e391.symm
         refine rl_ixOR rfl h303 rfl (ixO_get hy337) k_Group_pos Tryz.underlying37 Tryz.sizeOf50 rfl ?_
         intro p392 o393 cs394 hr395 hs396 hg397
         obtain ⟨z398, rfl, h399⟩ := hr395
         have h399 := slRep.wk (F' := (G F Bb (un O S2))) k_Point_pos h399 (fun b _ hf => ⟨hf.1, fun h => hf.2 (un_el h (fun ho => ((hB389.1 b).1 ho).elim (fun h => (.inl h)) (fun hk => by obtain ⟨_, hk, _⟩ := hk; cases hk)) (fun h => (.inr h)))⟩)
         exact RL.nil ⟨_, rfl, Ch.refl, ⟨p392, o393, z398, rfl, h399, (fun _ => hs396)⟩⟩
        refine Each.consA ⟨fun _ _ _ _ _ cc hh => by obtain ⟨z338_13, e, h339_13⟩ := hh; exact ⟨z338_13, e, slRep.ch k_Point_pos h339_13 cc⟩, fun _ _ h' O O' D _ wx wy hfl hD hO' cc hh => by obtain ⟨z338_13, e, h339_13⟩ := hh; have ad := admGh (S := S2) hD hO'; exact ⟨z338_13, e, slRep.st k_Point_pos h339_13 cc ad⟩, fun fl O wk hE hN hO ck => ?_⟩ ?_
        ·
         refine Need.one rfl rfl rfl ?_
         rintro _ ⟨p330, o331, z338, e401, h339, hs334⟩
         obtain rfl := e401.symm
         have hs334 := hs334 (hE rfl)
         refine rl_loadA (cs := (Group.c y336 z338)) rfl Tryz.isAgg50 Tryz.sizeOf50 (hs334) rfl rfl ?_
         exact RL.nil ⟨_, rfl, Ch.refl, ⟨z338, rfl, h339⟩⟩
        refine Each.consA ⟨fun _ _ _ _ _ cc hh => by obtain ⟨p340, e, hg345⟩ := hh; exact ⟨p340, e, hg345⟩, fun _ _ h' O O' D _ wx wy hfl hD hO' cc hh => by obtain ⟨p340, e, hg345⟩ := hh; have ad := admGh (S := S2) hD hO'; exact ⟨p340, e, hg345⟩, fun fl O wk hE hN hO ck => ?_⟩ ?_
        ·
         obtain ⟨_, hB402⟩ := hN (hE rfl)
         have h303 := h303.ch0 hB402.2.1
         refine Need.one rfl rfl rfl ?_
         rintro _ e403
         obtain rfl := e403.symm
         refine Need.one rfl rfl rfl ?_
         rintro _ e404
         obtain rfl := e404.symm
         refine rl_ixO rfl h303 rfl (ixO_get hy347) Tryz.underlying37 Tryz.sizeOf50 rfl ?_
         intro p405 hg410
         exact RL.nil ⟨_, rfl, Ch.refl, ⟨p405, rfl, hg410⟩⟩
        refine Each.consO ⟨fun _ O _ wx wy cc hh => by obtain ⟨eh, e, rfl, ck15_0⟩ := hh; exact ⟨eh, e, rfl, ck15_0.ch0 cc⟩, fun hv Op O wk hO ck hO0 => ?_⟩ ?_
        ·
         obtain ⟨hl, hBg⟩ := hO0 rfl
         obtain rfl := List.eq_nil_of_length_eq_zero hl
         have h303 := h303.ch0 hBg.2.1
         refine Need.one rfl rfl rfl ?_
         rintro _ ⟨z328_9, e411, h329_9⟩
         obtain rfl := e411.symm
         have h329_9 := slRep.wk (F' := (G F Bb (un (inBlk av0) S2))) k_Point_pos h329_9 (fun b _ hf => ⟨hf.1, fun h => hf.2 (un_el h (fun h => (.inl ((hBg.1 b).2 (.inl h)))) (fun h => (.inr h)))⟩)
         refine Need.one rfl rfl rfl ?_
         rintro _ ⟨p340, e412, hg345⟩
         obtain rfl := e412.symm
         refine rl_storeOA rfl rfl Tryz.sizeOf50 h303 hg345 (ixO_lt hy347) (show k_Group.rep (G F Bb (un (inBlk av0) S2)) wk y326 (Group.c y326 z328_9) from ⟨z328_9, rfl, h329_9⟩) ?_
         intro w413 c414 h415
         have hb417 : ∀ b, (inBlk av0) b → (O b ∨ wk.heap.size ≤ b) ∧ b < w413.heap.size := fun b h => ⟨.inl ((hBg.1 b).2 (.inl h)), (fun b hb => (h415.lt b hb).2) b h⟩
         exact RL.nil ⟨_, (inBlk av0), rfl, hb417, (c414.mono (fun b _ h => ((hBg.1 b).2 (.inl h)))), ⟨rfl, rfl, rfl, h415⟩⟩
        trivial
       ·
        intro hvO420 OpO420 O420 w418 hO421 c419 hN422
        refine Need.hereN rfl rfl rfl rfl ?_
        rintro ⟨rfl, _, rfl, ck15_0⟩
        have ha424 : ∀ b, b < w317.heap.size → ¬ (un (inBlk av0) S2) b → ¬ (inBlk av0) b ∧ ¬ (un (inBlk av0) S2) b := fun b hb hs => ⟨fun h => hs (.inl h), fun h => un_el h (fun h => (hO421 b h).1.elim (fun h => hs (.inl h)) (fun h => Nat.not_le_of_lt hb h)) (fun h => hs (.inr h))⟩
        have ah4 := Kd.st ah4 c419 ha424
        have c316 := c316.then c419 (fun i hi h => (lin0_0 i h).elim (fun x => x) (fun x => absurd x (Nat.not_le_of_lt hi)))
        refine Need.one rfl rfl rfl ?_
        rintro _ e425
        obtain rfl := e425.symm
        refine Need.one rfl rfl rfl ?_
        rintro _ e426
        obtain rfl := e426.symm
        refine Need.one rfl rfl rfl ?_
        rintro _ ⟨z338_13, e427, h339_13⟩
        obtain rfl := e427.symm
        have h339_13 := slRep.wk (F' := (G F Bb (un (inBlk av0) S2))) k_Point_pos h339_13 (fun b _ hf => ⟨hf.1, fun h => hf.2 (un_el h (fun h => (.inl h)) (fun h => (.inr h)))⟩)
        refine rl_ixO rfl ck15_0 rfl (ixO_get hy359) Tryz.underlying37 Tryz.sizeOf50 rfl ?_
        intro p428 hg433
        refine rl_storeOA rfl rfl Tryz.sizeOf50 ck15_0 hg433 (ixO_lt hy359) (show k_Group.rep (G F Bb (un (inBlk av0) S2)) w418 y336 (Group.c y336 z338_13) from ⟨z338_13, rfl, h339_13⟩) ?_
        intro w434 c435 h436
        have ad437 : ∀ b, b < w418.heap.size → ¬ (un (inBlk av0) S2) b → ¬ (inBlk av0) b ∧ ¬ (un (inBlk av0) S2) b := fun b _ hs => ⟨fun h => hs (.inl h), hs⟩
        have ah4 := Kd.st ah4 c435 ad437
        have c316 := c316.then c435 (fun i hi h => (lin0_0 i h).elim (fun x => x) (fun x => absurd x (Nat.not_le_of_lt hi)))
        refine RL.nil ?_
        refine inB_n ?_
        refine thn_n ?_
        refine CW.region ?_
        refine rl_move rfl rfl ?_
        refine rl_bin rfl rfl B.sub rfl ?_
        refine rl_assign rfl rfl ?_
        refine RL.nil ?_
        refine thn_n ?_
        have hLn := runW_next hL306 hq309 hb310
        exact ⟨k315, Nat.lt_succ_self _, [(0, av0), (14, (Value.int .i64 x223)), (17, (Value.int .i64 (IntKind.i64.wrap (x301 - 1))))], ⟨rfl, rfl, rfl, trivial⟩, ⟨IntKind.i64.wrap (x301 - 1), (x302.set x301.toNat y326).set (IntKind.i64.wrap (x301 - 1)).toNat y336, rfl, c316, hLn, ah4, h436⟩⟩
      ·
       have hb310 := ifF q319 hb310
       refine CW.exit ?_
       refine thn_exit ?_
       refine thn_exit ?_
       refine inB_hit ?_
       have hLf := runW_fin hL306 hq309 hb310
       exact ⟨x301, x302, trivial, c316, hLf, ah4, h303⟩
     ·
      rintro _ w439 ⟨x301, x302, hE440, c438, f441, ah4, h303⟩
      have hS := finS f441 hS
      refine thn_n (CW.sub [] hE440 ?_)
      refine CW.ret ?_
      refine thn_ret ?_
      obtain rfl := Option.some.inj hS
      exact ⟨[], trivial, ⟨rfl, h303, c438⟩⟩
   ·
    have hS := ifF q222 hS
    refine CW.skip ?_
    refine thn_n ?_
    refine CW.seq (CW.region ?_)
    refine rl_move rfl rfl ?_
    refine rl_move rfl rfl ?_
    refine rl_bin rfl rfl B.add rfl ?_
    refine rl_convInt rfl ⟨_, Tryz.underlying3⟩ Tryz.underlying168 rfl ?_
    refine rl_bin rfl rfl (B.shr rfl) rfl ?_
    refine rl_convInt rfl ⟨_, Tryz.underlying168⟩ Tryz.underlying3 rfl ?_
    refine rl_assign rfl rfl ?_
    refine RL.nil ?_
    refine thn_n ?_
    refine CW.seq (CW.region ?_)
    refine rl_move rfl rfl ?_
    refine rl_move rfl rfl ?_
    refine rl_bin rfl rfl B.add rfl ?_
    refine rl_assign rfl rfl ?_
    refine RL.nil ?_
    refine thn_n ?_
    refine CW.seq (CW.region ?_)
    refine rl_assign rfl rfl ?_
    refine rl_assign rfl rfl ?_
    refine RL.nil ?_
    refine thn_n ?_
    refine CW.seq ?_
    refine CW.seq (CW.region ?_)
    refine rl_move rfl rfl ?_
    refine rl_move rfl rfl ?_
    refine rl_bin rfl rfl B.gtr rfl ?_
    refine RL.nil ?_
    refine thn_n ?_
    refine CW.cond (t := decide (a2 > (IntKind.i64.wrap ((IntKind.u64.wrap (IntKind.i64.wrap (a1 + a3))).fdiv (2 ^ (min (Int.toNat 1) IntKind.u64.bits)))))) rfl (fun q443 => ?_) (fun q443 => ?_)
    ·
     have hS := ifT q443 hS
     refine CW.seq (CW.region ?_)
     refine rl_move rfl rfl ?_
     refine rl_move rfl rfl ?_
     refine rl_bin rfl rfl B.sub rfl ?_
     refine rl_assign rfl rfl ?_
     refine RL.nil ?_
     refine thn_n ?_
     refine CW.region ?_
     refine rl_move rfl rfl ?_
     refine rl_assign rfl rfl ?_
     refine RL.nil ?_
     refine thn_n ?_
     refine CW.seq (CW.region ?_)
     refine rl_move rfl rfl ?_
     refine rl_bin rfl rfl B.sub rfl ?_
     refine rl_assign rfl rfl ?_
     refine RL.nil ?_
     refine thn_n ?_
     refine CW.seq ?_
     obtain ⟨o453, ho454, hS⟩ := bindS hS
     refine CW.cutB (fun E' w' => ∃ (x444 : Int) (x445 : Int), Sub [(0, av0), (1, (Value.int .i64 a1)), (2, (Value.int .i64 a2)), (3, (Value.int .i64 a3)), (4, av4), (18, (Value.int .i64 (IntKind.i64.wrap ((IntKind.u64.wrap (IntKind.i64.wrap (a1 + a3))).fdiv (2 ^ (min (Int.toNat 1) IntKind.u64.bits)))))), (19, (Value.int .i64 (IntKind.i64.wrap ((IntKind.i64.wrap ((IntKind.u64.wrap (IntKind.i64.wrap (a1 + a3))).fdiv (2 ^ (min (Int.toNat 1) IntKind.u64.bits)))) + a2)))), (20, (Value.int .i64 x444))] E' ∧ Ch (inBlk av0) w w' ∧ Lp.fin (x444, x445) = o453 ∧ SlO k_Group 50 F Bb (un (inBlk av0) S2) w' a0 av0 ∧ (Kd.fn2 Tryz.prog true true k_Group k_Group (Value.int .i64)).rep (G F Bb (un (inBlk av0) S2)) w' a4 [av4]) ?_ ?_
     ·
      refine CW.loopS [(0, av0), (1, (Value.int .i64 a1)), (2, (Value.int .i64 a2)), (3, (Value.int .i64 a3)), (4, av4), (18, (Value.int .i64 (IntKind.i64.wrap ((IntKind.u64.wrap (IntKind.i64.wrap (a1 + a3))).fdiv (2 ^ (min (Int.toNat 1) IntKind.u64.bits)))))), (19, (Value.int .i64 (IntKind.i64.wrap ((IntKind.i64.wrap ((IntKind.u64.wrap (IntKind.i64.wrap (a1 + a3))).fdiv (2 ^ (min (Int.toNat 1) IntKind.u64.bits)))) + a2)))), (22, (Value.int .i64 (IntKind.i64.wrap ((IntKind.i64.wrap ((IntKind.i64.wrap ((IntKind.u64.wrap (IntKind.i64.wrap (a1 + a3))).fdiv (2 ^ (min (Int.toNat 1) IntKind.u64.bits)))) + a2)) - 1)))), (20, (Value.int .i64 (IntKind.i64.wrap ((IntKind.i64.wrap ((IntKind.i64.wrap ((IntKind.u64.wrap (IntKind.i64.wrap (a1 + a3))).fdiv (2 ^ (min (Int.toNat 1) IntKind.u64.bits)))) + a2)) - a3)))), (21, (Value.int .i64 (IntKind.i64.wrap ((IntKind.u64.wrap (IntKind.i64.wrap (a1 + a3))).fdiv (2 ^ (min (Int.toNat 1) IntKind.u64.bits))))))] ⟨rfl, rfl, rfl, rfl, rfl, rfl, rfl, rfl, rfl, rfl, trivial⟩ FUEL (fun m E w' => ∃ (x444 : Int) (x445 : Int), E = [(0, av0), (1, (Value.int .i64 a1)), (2, (Value.int .i64 a2)), (3, (Value.int .i64 a3)), (4, av4), (18, (Value.int .i64 (IntKind.i64.wrap ((IntKind.u64.wrap (IntKind.i64.wrap (a1 + a3))).fdiv (2 ^ (min (Int.toNat 1) IntKind.u64.bits)))))), (19, (Value.int .i64 (IntKind.i64.wrap ((IntKind.i64.wrap ((IntKind.u64.wrap (IntKind.i64.wrap (a1 + a3))).fdiv (2 ^ (min (Int.toNat 1) IntKind.u64.bits)))) + a2)))), (22, (Value.int .i64 (IntKind.i64.wrap ((IntKind.i64.wrap ((IntKind.i64.wrap ((IntKind.u64.wrap (IntKind.i64.wrap (a1 + a3))).fdiv (2 ^ (min (Int.toNat 1) IntKind.u64.bits)))) + a2)) - 1)))), (20, (Value.int .i64 x444)), (21, (Value.int .i64 x445))] ∧ Ch (inBlk av0) w w' ∧ runW (F78_slices_symMergeCmpFunc_resolve_Group_body_b5 a0 a1 a2 a3 a4) m (x444, x445) = some o453 ∧ SlO k_Group 50 F Bb (un (inBlk av0) S2) w' a0 av0 ∧ (Kd.fn2 Tryz.prog true true k_Group k_Group (Value.int .i64)).rep (G F Bb (un (inBlk av0) S2)) w' a4 [av4])
          ⟨IntKind.i64.wrap ((IntKind.i64.wrap ((IntKind.i64.wrap ((IntKind.u64.wrap (IntKind.i64.wrap (a1 + a3))).fdiv (2 ^ (min (Int.toNat 1) IntKind.u64.bits)))) + a2)) - a3), IntKind.i64.wrap ((IntKind.u64.wrap (IntKind.i64.wrap (a1 + a3))).fdiv (2 ^ (min (Int.toNat 1) IntKind.u64.bits))), rfl, c0, ho454, ah0, ah4⟩ ?_
      rintro _ _ w459 ⟨x444, x445, rfl, c458, hL448, ah0, ah4⟩
      obtain ⟨k457, q450, rfl, hq451⟩ := runW_some hL448
      have hb452 := hq451
      refine CW.seq ?_
      refine CW.seq (CW.region ?_)
      refine rl_move rfl rfl ?_
      refine rl_move rfl rfl ?_
      refine rl_bin rfl rfl B.lss rfl ?_
      refine RL.nil ?_
      refine thn_n ?_
      refine CW.cond (t := decide (x444 < x445)) rfl (fun q461 => ?_) (fun q461 => ?_)
      ·
       have hb452 := ifT q461 hb452
       refine CW.skip ?_
       refine thn_n ?_
       refine CW.block ?_
       refine CW.seq (CW.region ?_)
       refine rl_move rfl rfl ?_
       refine rl_move rfl rfl ?_
       refine rl_bin rfl rfl B.add rfl ?_
       refine rl_convInt rfl ⟨_, Tryz.underlying3⟩ Tryz.underlying168 rfl ?_
       refine rl_bin rfl rfl (B.shr rfl) rfl ?_
       refine rl_convInt rfl ⟨_, Tryz.underlying168⟩ Tryz.underlying3 rfl ?_
       refine rl_assign rfl rfl ?_
       refine RL.nil ?_
       refine thn_n ?_
       refine CW.seq ?_
       obtain ⟨y468, hy469, hb452⟩ := bindS hb452
       obtain ⟨y478, hy479, hb452⟩ := bindS hb452
       refine CW.draw 11 [(none, fun fx O uu wx => uu = av4), (none, fun fx O uu wx => uu = av0), (none, fun fx O uu wx => uu = (Value.int .i64 (IntKind.i64.wrap ((IntKind.i64.wrap ((IntKind.i64.wrap ((IntKind.u64.wrap (IntKind.i64.wrap (a1 + a3))).fdiv (2 ^ (min (Int.toNat 1) IntKind.u64.bits)))) + a2)) - 1)))), (none, fun fx O uu wx => uu = (Value.int .i64 (IntKind.i64.wrap ((IntKind.u64.wrap (IntKind.i64.wrap (x444 + x445))).fdiv (2 ^ (min (Int.toNat 1) IntKind.u64.bits)))))), (none, fun fx O uu wx => uu = (Value.int .i64 (IntKind.i64.wrap ((IntKind.i64.wrap ((IntKind.i64.wrap ((IntKind.i64.wrap ((IntKind.u64.wrap (IntKind.i64.wrap (a1 + a3))).fdiv (2 ^ (min (Int.toNat 1) IntKind.u64.bits)))) + a2)) - 1)) - (IntKind.i64.wrap ((IntKind.u64.wrap (IntKind.i64.wrap (x444 + x445))).fdiv (2 ^ (min (Int.toNat 1) IntKind.u64.bits)))))))), (none, fun fx O uu wx => ∃ (p462 : Nat) (o463 : Nat) (z470 : Value), uu = (Value.pointer (some ⟨p462, o463, none⟩)) ∧ slRep k_Point (G F Bb (un (inBlk av0) S2)) wx y468.points z470 ∧ Seg wx p462 o463 (Group.c y468 z470)), (none, fun fx O uu wx => ∃ (z470_6 : Value), uu = (Value.agg (Group.c y468 z470_6).toArray) ∧ slRep k_Point (G F Bb (un (inBlk av0) S2)) wx y468.points z470_6), (none, fun fx O uu wx => uu = av0), (none, fun fx O uu wx => uu = (Value.int .i64 (IntKind.i64.wrap ((IntKind.u64.wrap (IntKind.i64.wrap (x444 + x445))).fdiv (2 ^ (min (Int.toNat 1) IntKind.u64.bits)))))), (none, fun fx O uu wx => ∃ (p472 : Nat) (o473 : Nat) (z480 : Value), uu = (Value.pointer (some ⟨p472, o473, none⟩)) ∧ slRep k_Point (G F Bb (un (inBlk av0) S2)) wx y478.points z480 ∧ Seg wx p472 o473 (Group.c y478 z480)), (none, fun fx O uu wx => ∃ (z480_10 : Value), uu = (Value.agg (Group.c y478 z480_10).toArray) ∧ slRep k_Point (G F Bb (un (inBlk av0) S2)) wx y478.points z480_10)] [[], [], [], [], [2, 3], [1, 4], [5], [], [], [7, 8], [9]] [0, 6, 10] nb (fun _ h => h.elim) mixed rfl rfl rfl rfl ?_ ?_
       ·
        refine Each.consA ⟨fun _ _ _ _ _ _ h => h, fun h => absurd rfl h, fun fl O wk hE hN hO ck => ?_⟩ ?_
        ·
         refine rl_move rfl rfl ?_
         exact RL.nil ⟨_, rfl, Ch.refl, rfl⟩
        refine Each.consA ⟨fun _ _ _ _ _ _ h => h, fun h => absurd rfl h, fun fl O wk hE hN hO ck => ?_⟩ ?_
        ·
         refine rl_move rfl rfl ?_
         exact RL.nil ⟨_, rfl, Ch.refl, rfl⟩
        refine Each.consA ⟨fun _ _ _ _ _ _ h => h, fun h => absurd rfl h, fun fl O wk hE hN hO ck => ?_⟩ ?_
        ·
         refine rl_move rfl rfl ?_
         exact RL.nil ⟨_, rfl, Ch.refl, rfl⟩
        refine Each.consA ⟨fun _ _ _ _ _ _ h => h, fun h => absurd rfl h, fun fl O wk hE hN hO ck => ?_⟩ ?_
        ·
         refine rl_move rfl rfl ?_
         exact RL.nil ⟨_, rfl, Ch.refl, rfl⟩
        refine Each.consA ⟨fun _ _ _ _ _ _ h => h, fun h => absurd rfl h, fun fl O wk hE hN hO ck => ?_⟩ ?_
        ·
         refine Need.one rfl rfl rfl ?_
         rintro _ e484
         obtain rfl := e484.symm
         refine Need.one rfl rfl rfl ?_
         rintro _ e485
         obtain rfl := e485.symm
         refine rl_bin rfl rfl B.sub rfl ?_
         exact RL.nil ⟨_, rfl, Ch.refl, rfl⟩
        refine Each.consA ⟨fun _ _ _ _ _ cc hh => by obtain ⟨p462, o463, z470, e, h471, hs466⟩ := hh; exact ⟨p462, o463, z470, e, slRep.ch k_Point_pos h471 cc, hs466.ch0 cc⟩, fun h => absurd rfl h, fun fl O wk hE hN hO ck => ?_⟩ ?_
        ·
         have ah0 := ah0.ch0 ck
         refine Need.one rfl rfl rfl ?_
         rintro _ e486
         obtain rfl := e486.symm
         refine Need.one rfl rfl rfl ?_
         rintro _ e487
         obtain rfl := e487.symm
         refine rl_ixOR rfl ah0 rfl (ixO_get hy469) k_Group_pos Tryz.underlying37 Tryz.sizeOf50 rfl ?_
         intro p488 o489 cs490 hr491 hs492 hg493
         obtain ⟨z494, rfl, h495⟩ := hr491
         exact RL.nil ⟨_, rfl, Ch.refl, ⟨p488, o489, z494, rfl, h495, hs492⟩⟩
        refine Each.consA ⟨fun _ _ _ _ _ cc hh => by obtain ⟨z470_6, e, h471_6⟩ := hh; exact ⟨z470_6, e, slRep.ch k_Point_pos h471_6 cc⟩, fun h => absurd rfl h, fun fl O wk hE hN hO ck => ?_⟩ ?_
        ·
         refine Need.one rfl rfl rfl ?_
         rintro _ ⟨p462, o463, z470, e496, h471, hs466⟩
         obtain rfl := e496.symm
         refine rl_loadA (cs := (Group.c y468 z470)) rfl Tryz.isAgg50 Tryz.sizeOf50 (hs466) rfl rfl ?_
         exact RL.nil ⟨_, rfl, Ch.refl, ⟨z470, rfl, h471⟩⟩
        refine Each.consA ⟨fun _ _ _ _ _ _ h => h, fun h => absurd rfl h, fun fl O wk hE hN hO ck => ?_⟩ ?_
        ·
         refine rl_move rfl rfl ?_
         exact RL.nil ⟨_, rfl, Ch.refl, rfl⟩
        refine Each.consA ⟨fun _ _ _ _ _ _ h => h, fun h => absurd rfl h, fun fl O wk hE hN hO ck => ?_⟩ ?_
        ·
         refine rl_move rfl rfl ?_
         exact RL.nil ⟨_, rfl, Ch.refl, rfl⟩
        refine Each.consA ⟨fun _ _ _ _ _ cc hh => by obtain ⟨p472, o473, z480, e, h481, hs476⟩ := hh; exact ⟨p472, o473, z480, e, slRep.ch k_Point_pos h481 cc, hs476.ch0 cc⟩, fun h => absurd rfl h, fun fl O wk hE hN hO ck => ?_⟩ ?_
        ·
         have ah0 := ah0.ch0 ck
         refine Need.one rfl rfl rfl ?_
         rintro _ e497
         obtain rfl := e497.symm
         refine Need.one rfl rfl rfl ?_
         rintro _ e498
         obtain rfl := e498.symm
         refine rl_ixOR rfl ah0 rfl (ixO_get hy479) k_Group_pos Tryz.underlying37 Tryz.sizeOf50 rfl ?_
         intro p499 o500 cs501 hr502 hs503 hg504
         obtain ⟨z505, rfl, h506⟩ := hr502
         exact RL.nil ⟨_, rfl, Ch.refl, ⟨p499, o500, z505, rfl, h506, hs503⟩⟩
        refine Each.consA ⟨fun _ _ _ _ _ cc hh => by obtain ⟨z480_10, e, h481_10⟩ := hh; exact ⟨z480_10, e, slRep.ch k_Point_pos h481_10 cc⟩, fun h => absurd rfl h, fun fl O wk hE hN hO ck => ?_⟩ ?_
        ·
         refine Need.one rfl rfl rfl ?_
         rintro _ ⟨p472, o473, z480, e507, h481, hs476⟩
         obtain rfl := e507.symm
         refine rl_loadA (cs := (Group.c y478 z480)) rfl Tryz.isAgg50 Tryz.sizeOf50 (hs476) rfl rfl ?_
         exact RL.nil ⟨_, rfl, Ch.refl, ⟨z480, rfl, h481⟩⟩
        trivial
       ·
        intro hvO510 OpO510 O510 w508 hO511 c509 hN512
        have ah0 := ah0.ch0 c509
        have ah4 := Kd.ch ah4 c509
        have c458 := c458.then0 c509
        refine Need.one rfl rfl rfl ?_
        rintro _ e513
        obtain rfl := e513.symm
        refine Need.one rfl rfl rfl ?_
        rintro _ ⟨z470_6, e514, h471_6⟩
        obtain rfl := e514.symm
        refine Need.one rfl rfl rfl ?_
        rintro _ ⟨z480_10, e515, h481_10⟩
        obtain rfl := e515.symm
        refine rl_fn2 (c := (Group.c y468 z470_6)) (c' := (Group.c y478 z480_10)) rfl rfl rfl rfl rfl ah4 (F' := (G F Bb (un (inBlk av0) S2))) (xx := y468) (yy := y478) (show k_Group.rep (G F Bb (un (inBlk av0) S2)) w508 y468 (Group.c y468 z470_6) from ⟨z470_6, rfl, h471_6⟩) (show k_Group.rep (G F Bb (un (inBlk av0) S2)) w508 y478 (Group.c y478 z480_10) from ⟨z480_10, rfl, h481_10⟩) rfl ?_
        intro w516 c517
        have ah0 := ah0.ch0 c517
        have ah4 := Kd.ch ah4 c517
        have c458 := c458.then0 c517
        refine rl_bin rfl rfl B.lss rfl ?_
        refine rl_not rfl rfl ?_
        refine RL.nil ?_
        refine thn_n ?_
        refine CW.cond (t := !(decide ((a4 y468 y478) < 0))) rfl (fun q518 => ?_) (fun q518 => ?_)
        ·
         have hb452 := ifT q518 hb452
         refine CW.region ?_
         refine rl_move rfl rfl ?_
         refine rl_bin rfl rfl B.add rfl ?_
         refine rl_assign rfl rfl ?_
         refine RL.nil ?_
         refine inB_n ?_
         refine thn_n ?_
         have hLn := runW_next hL448 hq451 hb452
         exact ⟨k457, Nat.lt_succ_self _, [(0, av0), (1, (Value.int .i64 a1)), (2, (Value.int .i64 a2)), (3, (Value.int .i64 a3)), (4, av4), (18, (Value.int .i64 (IntKind.i64.wrap ((IntKind.u64.wrap (IntKind.i64.wrap (a1 + a3))).fdiv (2 ^ (min (Int.toNat 1) IntKind.u64.bits)))))), (19, (Value.int .i64 (IntKind.i64.wrap ((IntKind.i64.wrap ((IntKind.u64.wrap (IntKind.i64.wrap (a1 + a3))).fdiv (2 ^ (min (Int.toNat 1) IntKind.u64.bits)))) + a2)))), (22, (Value.int .i64 (IntKind.i64.wrap ((IntKind.i64.wrap ((IntKind.i64.wrap ((IntKind.u64.wrap (IntKind.i64.wrap (a1 + a3))).fdiv (2 ^ (min (Int.toNat 1) IntKind.u64.bits)))) + a2)) - 1)))), (20, (Value.int .i64 (IntKind.i64.wrap ((IntKind.i64.wrap ((IntKind.u64.wrap (IntKind.i64.wrap (x444 + x445))).fdiv (2 ^ (min (Int.toNat 1) IntKind.u64.bits)))) + 1)))), (21, (Value.int .i64 x445))], ⟨rfl, rfl, rfl, rfl, rfl, rfl, rfl, rfl, rfl, rfl, trivial⟩, ⟨IntKind.i64.wrap ((IntKind.i64.wrap ((IntKind.u64.wrap (IntKind.i64.wrap (x444 + x445))).fdiv (2 ^ (min (Int.toNat 1) IntKind.u64.bits)))) + 1), x445, rfl, c458, hLn, ah0, ah4⟩⟩
        ·
         have hb452 := ifF q518 hb452
         refine CW.region ?_
         refine rl_move rfl rfl ?_
         refine rl_assign rfl rfl ?_
         refine RL.nil ?_
         refine inB_n ?_
         refine thn_n ?_
         have hLn := runW_next hL448 hq451 hb452
         exact ⟨k457, Nat.lt_succ_self _, [(0, av0), (1, (Value.int .i64 a1)), (2, (Value.int .i64 a2)), (3, (Value.int .i64 a3)), (4, av4), (18, (Value.int .i64 (IntKind.i64.wrap ((IntKind.u64.wrap (IntKind.i64.wrap (a1 + a3))).fdiv (2 ^ (min (Int.toNat 1) IntKind.u64.bits)))))), (19, (Value.int .i64 (IntKind.i64.wrap ((IntKind.i64.wrap ((IntKind.u64.wrap (IntKind.i64.wrap (a1 + a3))).fdiv (2 ^ (min (Int.toNat 1) IntKind.u64.bits)))) + a2)))), (22, (Value.int .i64 (IntKind.i64.wrap ((IntKind.i64.wrap ((IntKind.i64.wrap ((IntKind.u64.wrap (IntKind.i64.wrap (a1 + a3))).fdiv (2 ^ (min (Int.toNat 1) IntKind.u64.bits)))) + a2)) - 1)))), (20, (Value.int .i64 x444)), (21, (Value.int .i64 (IntKind.i64.wrap ((IntKind.u64.wrap (IntKind.i64.wrap (x444 + x445))).fdiv (2 ^ (min (Int.toNat 1) IntKind.u64.bits))))))], ⟨rfl, rfl, rfl, rfl, rfl, rfl, rfl, rfl, rfl, rfl, trivial⟩, ⟨x444, IntKind.i64.wrap ((IntKind.u64.wrap (IntKind.i64.wrap (x444 + x445))).fdiv (2 ^ (min (Int.toNat 1) IntKind.u64.bits))), rfl, c458, hLn, ah0, ah4⟩⟩
      ·
       have hb452 := ifF q461 hb452
       refine CW.exit ?_
       refine thn_exit ?_
       refine thn_exit ?_
       refine inB_hit ?_
       have hLf := runW_fin hL448 hq451 hb452
       exact ⟨x444, x445, ⟨rfl, rfl, rfl, rfl, rfl, rfl, rfl, rfl, trivial⟩, c458, hLf, ah0, ah4⟩
     ·
      rintro _ w520 ⟨x444, x445, hE521, c519, f522, ah0, ah4⟩
      have hS := finS f522 hS
      refine thn_n (CW.sub [(0, av0), (1, (Value.int .i64 a1)), (2, (Value.int .i64 a2)), (3, (Value.int .i64 a3)), (4, av4), (18, (Value.int .i64 (IntKind.i64.wrap ((IntKind.u64.wrap (IntKind.i64.wrap (a1 + a3))).fdiv (2 ^ (min (Int.toNat 1) IntKind.u64.bits)))))), (19, (Value.int .i64 (IntKind.i64.wrap ((IntKind.i64.wrap ((IntKind.u64.wrap (IntKind.i64.wrap (a1 + a3))).fdiv (2 ^ (min (Int.toNat 1) IntKind.u64.bits)))) + a2)))), (20, (Value.int .i64 x444))] hE521 ?_)
      refine CW.seq (CW.region ?_)
      refine rl_move rfl rfl ?_
      refine rl_move rfl rfl ?_
      refine rl_bin rfl rfl B.sub rfl ?_
      refine rl_assign rfl rfl ?_
      refine RL.nil ?_
      refine thn_n ?_
      refine CW.seq ?_
      refine CW.seq (CW.region ?_)
      refine rl_move rfl rfl ?_
      refine rl_move rfl rfl ?_
      refine rl_bin rfl rfl B.lss rfl ?_
      refine rl_move rfl rfl ?_
      obtain ⟨b526, hb527⟩ : ∃ v, ((decide (x444 < a2)) && (decide (a2 < (IntKind.i64.wrap ((IntKind.i64.wrap ((IntKind.i64.wrap ((IntKind.u64.wrap (IntKind.i64.wrap (a1 + a3))).fdiv (2 ^ (min (Int.toNat 1) IntKind.u64.bits)))) + a2)) - x444))))) = v := ⟨_, rfl⟩
      have hS := ltS hb527 hS
      refine RL.join 4 185 (.bool b526) (fun w' => Ch nb w520 w') ?_ ?_
      · rcases Bool.eq_false_or_eq_true (decide (x444 < a2)) with hg525 | hg525
        ·
         have hs524 := and_t hg525 hb527
         have cs : Ch nb w520 w520 := Ch.refl
         refine RL.yes rfl rfl rfl hg525 ?_
         refine rl_move rfl rfl ?_
         refine RL.yes rfl rfl rfl hg525 ?_
         refine rl_move rfl rfl ?_
         refine RL.yes rfl rfl rfl hg525 ?_
         refine rl_bin rfl rfl B.lss rfl ?_
         refine rl_pickT rfl hg525 rfl rfl ?_
         exact RL.nil ⟨Ext.bothEq (congrArg Value.bool hs524) (Ext.skip rfl (Ext.skip rfl (Ext.skip rfl (Ext.rfl')))), cs⟩
        ·
         have hs524 := and_f hg525 hb527
         have cs : Ch nb w520 w520 := Ch.refl
         refine RL.no rfl rfl rfl hg525 rfl rfl ?_
         refine RL.no rfl rfl rfl hg525 rfl rfl ?_
         refine RL.no rfl rfl rfl hg525 rfl rfl ?_
         refine rl_pickF rfl hg525 rfl rfl ?_
         exact RL.nil ⟨Ext.bothEq (congrArg Value.bool hs524) (Ext.skip rfl (Ext.skip rfl (Ext.skip rfl (Ext.rfl')))), cs⟩
      intro w528 c529
      have ah0 := ah0.ch0 c529
      have ah4 := Kd.ch ah4 c529
      have c519 := c519.then0 c529
      refine RL.nil ?_
      refine thn_n ?_
      refine CW.cond (t := b526) rfl (fun q530 => ?_) (fun q530 => ?_)
      ·
       have hS := ifT q530 hS
       refine CW.region ?_
       refine rl_move rfl rfl ?_
       refine rl_move rfl rfl ?_
       refine rl_move rfl rfl ?_
       refine rl_move rfl rfl ?_
       refine rl_move rfl rfl ?_
       have hd531 : ∀ b, (inBlk av0) b → ¬ S2 b := fun b h => (fun b hb => linNot lin0_0 hd2 h2 b hb) b h
       have hS532 : (un (inBlk av0) S2) = (un (inBlk av0) S2) := rfl
       have ha533 := ah4
       rw [hS532] at ha533
       obtain ⟨y536, hy537, hS⟩ := bindS hS
       refine rl_callF rfl en101 rfl (ctr101 F w528 Bb S2 (Nat.le_trans hB c519.size) (fun b h => Nat.lt_of_lt_of_le (h2 b h) c519.size) av0 hd531  a0 (hS532 ▸ ah0) x444 a2 (IntKind.i64.wrap ((IntKind.i64.wrap ((IntKind.i64.wrap ((IntKind.u64.wrap (IntKind.i64.wrap (a1 + a3))).fdiv (2 ^ (min (Int.toNat 1) IntKind.u64.bits)))) + a2)) - x444)) a4 av4 ha533 y536 hy537) ?_
       rintro _ w534 ⟨rfl, h538, c535⟩
       rw [← hS532] at h538
       have ad539 : ∀ b, b < w528.heap.size → ¬ (un (inBlk av0) S2) b → ¬ (inBlk av0) b ∧ ¬ (un (inBlk av0) S2) b := fun b _ hs => ⟨fun h => hs (.inl h), hs⟩
       have ah4 := Kd.st ah4 c535 ad539
       have c519 := c519.then c535 (fun i hi h => (lin0_0 i h).elim (fun x => x) (fun x => absurd x (Nat.not_le_of_lt hi)))
       refine RL.nil ?_
       refine thn_n ?_
       refine CW.seq ?_
       refine CW.seq (CW.region ?_)
       refine rl_move rfl rfl ?_
       refine rl_move rfl rfl ?_
       refine rl_bin rfl rfl B.lss rfl ?_
       refine rl_move rfl rfl ?_
       obtain ⟨b542, hb543⟩ : ∃ v, ((decide (a1 < x444)) && (decide (x444 < (IntKind.i64.wrap ((IntKind.u64.wrap (IntKind.i64.wrap (a1 + a3))).fdiv (2 ^ (min (Int.toNat 1) IntKind.u64.bits))))))) = v := ⟨_, rfl⟩
       have hS := ltS hb543 hS
       refine RL.join 4 199 (.bool b542) (fun w' => Ch nb w534 w') ?_ ?_
       · rcases Bool.eq_false_or_eq_true (decide (a1 < x444)) with hg541 | hg541
         ·
          have hs540 := and_t hg541 hb543
          have cs : Ch nb w534 w534 := Ch.refl
          refine RL.yes rfl rfl rfl hg541 ?_
          refine rl_move rfl rfl ?_
          refine RL.yes rfl rfl rfl hg541 ?_
          refine rl_move rfl rfl ?_
          refine RL.yes rfl rfl rfl hg541 ?_
          refine rl_bin rfl rfl B.lss rfl ?_
          refine rl_pickT rfl hg541 rfl rfl ?_
          exact RL.nil ⟨Ext.bothEq (congrArg Value.bool hs540) (Ext.skip rfl (Ext.skip rfl (Ext.skip rfl (Ext.rfl')))), cs⟩
         ·
          have hs540 := and_f hg541 hb543
          have cs : Ch nb w534 w534 := Ch.refl
          refine RL.no rfl rfl rfl hg541 rfl rfl ?_
          refine RL.no rfl rfl rfl hg541 rfl rfl ?_
          refine RL.no rfl rfl rfl hg541 rfl rfl ?_
          refine rl_pickF rfl hg541 rfl rfl ?_
          exact RL.nil ⟨Ext.bothEq (congrArg Value.bool hs540) (Ext.skip rfl (Ext.skip rfl (Ext.skip rfl (Ext.rfl')))), cs⟩
       intro w544 c545
       have ah4 := Kd.ch ah4 c545
       have h538 := h538.ch0 c545
       have c519 := c519.then0 c545
       refine RL.nil ?_
       refine thn_n ?_
       refine CW.cond (t := b542) rfl (fun q546 => ?_) (fun q546 => ?_)
       ·
        have hS := ifT q546 hS
        refine CW.region ?_
        refine rl_move rfl rfl ?_
        refine rl_move rfl rfl ?_
        refine rl_move rfl rfl ?_
        refine rl_move rfl rfl ?_
        refine rl_move rfl rfl ?_
        have hd547 : ∀ b, (inBlk av0) b → ¬ S2 b := fun b h => (fun b hb => linNot lin0_0 hd2 h2 b hb) b h
        have hS548 : (un (inBlk av0) S2) = (un (inBlk av0) S2) := rfl
        have ha549 := ah4
        rw [hS548] at ha549
        obtain ⟨y552, hy553, hS⟩ := bindS hS
        refine rl_callF rfl en78 rfl (ih F w544 Bb S2 (Nat.le_trans hB c519.size) (fun b h => Nat.lt_of_lt_of_le (h2 b h) c519.size) av0 hd547  y536 (hS548 ▸ h538) a1 x444 (IntKind.i64.wrap ((IntKind.u64.wrap (IntKind.i64.wrap (a1 + a3))).fdiv (2 ^ (min (Int.toNat 1) IntKind.u64.bits)))) a4 av4 ha549 y552 hy553) ?_
        rintro _ w550 ⟨rfl, h554, c551⟩
        rw [← hS548] at h554
        have ad555 : ∀ b, b < w544.heap.size → ¬ (un (inBlk av0) S2) b → ¬ (inBlk av0) b ∧ ¬ (un (inBlk av0) S2) b := fun b _ hs => ⟨fun h => hs (.inl h), hs⟩
        have ah4 := Kd.st ah4 c551 ad555
        have c519 := c519.then c551 (fun i hi h => (lin0_0 i h).elim (fun x => x) (fun x => absurd x (Nat.not_le_of_lt hi)))
        refine RL.nil ?_
        refine thn_n ?_
        refine CW.seq (CW.region ?_)
        refine rl_move rfl rfl ?_
        refine rl_move rfl rfl ?_
        refine rl_bin rfl rfl B.lss rfl ?_
        refine rl_move rfl rfl ?_
        obtain ⟨b558, hb559⟩ : ∃ v, ((decide ((IntKind.i64.wrap ((IntKind.u64.wrap (IntKind.i64.wrap (a1 + a3))).fdiv (2 ^ (min (Int.toNat 1) IntKind.u64.bits)))) < (IntKind.i64.wrap ((IntKind.i64.wrap ((IntKind.i64.wrap ((IntKind.u64.wrap (IntKind.i64.wrap (a1 + a3))).fdiv (2 ^ (min (Int.toNat 1) IntKind.u64.bits)))) + a2)) - x444)))) && (decide ((IntKind.i64.wrap ((IntKind.i64.wrap ((IntKind.i64.wrap ((IntKind.u64.wrap (IntKind.i64.wrap (a1 + a3))).fdiv (2 ^ (min (Int.toNat 1) IntKind.u64.bits)))) + a2)) - x444)) < a3))) = v := ⟨_, rfl⟩
        have hS := ltS hb559 hS
        refine RL.join 4 213 (.bool b558) (fun w' => Ch nb w550 w') ?_ ?_
        · rcases Bool.eq_false_or_eq_true (decide ((IntKind.i64.wrap ((IntKind.u64.wrap (IntKind.i64.wrap (a1 + a3))).fdiv (2 ^ (min (Int.toNat 1) IntKind.u64.bits)))) < (IntKind.i64.wrap ((IntKind.i64.wrap ((IntKind.i64.wrap ((IntKind.u64.wrap (IntKind.i64.wrap (a1 + a3))).fdiv (2 ^ (min (Int.toNat 1) IntKind.u64.bits)))) + a2)) - x444)))) with hg557 | hg557
          ·
           have hs556 := and_t hg557 hb559
           have cs : Ch nb w550 w550 := Ch.refl
           refine RL.yes rfl rfl rfl hg557 ?_
           refine rl_move rfl rfl ?_
           refine RL.yes rfl rfl rfl hg557 ?_
           refine rl_move rfl rfl ?_
           refine RL.yes rfl rfl rfl hg557 ?_
           refine rl_bin rfl rfl B.lss rfl ?_
           refine rl_pickT rfl hg557 rfl rfl ?_
           exact RL.nil ⟨Ext.bothEq (congrArg Value.bool hs556) (Ext.skip rfl (Ext.skip rfl (Ext.skip rfl (Ext.rfl')))), cs⟩
          ·
           have hs556 := and_f hg557 hb559
           have cs : Ch nb w550 w550 := Ch.refl
           refine RL.no rfl rfl rfl hg557 rfl rfl ?_
           refine RL.no rfl rfl rfl hg557 rfl rfl ?_
           refine RL.no rfl rfl rfl hg557 rfl rfl ?_
           refine rl_pickF rfl hg557 rfl rfl ?_
           exact RL.nil ⟨Ext.bothEq (congrArg Value.bool hs556) (Ext.skip rfl (Ext.skip rfl (Ext.skip rfl (Ext.rfl')))), cs⟩
        intro w560 c561
        have ah4 := Kd.ch ah4 c561
        have h554 := h554.ch0 c561
        have c519 := c519.then0 c561
        refine RL.nil ?_
        refine thn_n ?_
        refine CW.cond (t := b558) rfl (fun q562 => ?_) (fun q562 => ?_)
        ·
         have hS := ifT q562 hS
         refine CW.region ?_
         refine rl_move rfl rfl ?_
         refine rl_move rfl rfl ?_
         refine rl_move rfl rfl ?_
         refine rl_move rfl rfl ?_
         refine rl_move rfl rfl ?_
         have hd563 : ∀ b, (inBlk av0) b → ¬ S2 b := fun b h => (fun b hb => linNot lin0_0 hd2 h2 b hb) b h
         have hS564 : (un (inBlk av0) S2) = (un (inBlk av0) S2) := rfl
         have ha565 := ah4
         rw [hS564] at ha565
         obtain ⟨y568, hy569, hS⟩ := bindS hS
         refine rl_callF rfl en78 rfl (ih F w560 Bb S2 (Nat.le_trans hB c519.size) (fun b h => Nat.lt_of_lt_of_le (h2 b h) c519.size) av0 hd563  y552 (hS564 ▸ h554) (IntKind.i64.wrap ((IntKind.u64.wrap (IntKind.i64.wrap (a1 + a3))).fdiv (2 ^ (min (Int.toNat 1) IntKind.u64.bits)))) (IntKind.i64.wrap ((IntKind.i64.wrap ((IntKind.i64.wrap ((IntKind.u64.wrap (IntKind.i64.wrap (a1 + a3))).fdiv (2 ^ (min (Int.toNat 1) IntKind.u64.bits)))) + a2)) - x444)) a3 a4 av4 ha565 y568 hy569) ?_
         rintro _ w566 ⟨rfl, h570, c567⟩
         rw [← hS564] at h570
         have c519 := c519.then c567 (fun i hi h => (lin0_0 i h).elim (fun x => x) (fun x => absurd x (Nat.not_le_of_lt hi)))
         refine RL.nil ?_
         obtain rfl := Option.some.inj hS
         exact ⟨[], trivial, ⟨rfl, h570, c519⟩⟩
        ·
         have hS := ifF q562 hS
         refine CW.skip ?_
         obtain rfl := Option.some.inj hS
         exact ⟨[], trivial, ⟨rfl, h554, c519⟩⟩
       ·
        have hS := ifF q546 hS
        refine CW.skip ?_
        refine thn_n ?_
        refine CW.seq (CW.region ?_)
        refine rl_move rfl rfl ?_
        refine rl_move rfl rfl ?_
        refine rl_bin rfl rfl B.lss rfl ?_
        refine rl_move rfl rfl ?_
        obtain ⟨b574, hb575⟩ : ∃ v, ((decide ((IntKind.i64.wrap ((IntKind.u64.wrap (IntKind.i64.wrap (a1 + a3))).fdiv (2 ^ (min (Int.toNat 1) IntKind.u64.bits)))) < (IntKind.i64.wrap ((IntKind.i64.wrap ((IntKind.i64.wrap ((IntKind.u64.wrap (IntKind.i64.wrap (a1 + a3))).fdiv (2 ^ (min (Int.toNat 1) IntKind.u64.bits)))) + a2)) - x444)))) && (decide ((IntKind.i64.wrap ((IntKind.i64.wrap ((IntKind.i64.wrap ((IntKind.u64.wrap (IntKind.i64.wrap (a1 + a3))).fdiv (2 ^ (min (Int.toNat 1) IntKind.u64.bits)))) + a2)) - x444)) < a3))) = v := ⟨_, rfl⟩
        have hS := ltS hb575 hS
        refine RL.join 4 213 (.bool b574) (fun w' => Ch nb w544 w') ?_ ?_
        · rcases Bool.eq_false_or_eq_true (decide ((IntKind.i64.wrap ((IntKind.u64.wrap (IntKind.i64.wrap (a1 + a3))).fdiv (2 ^ (min (Int.toNat 1) IntKind.u64.bits)))) < (IntKind.i64.wrap ((IntKind.i64.wrap ((IntKind.i64.wrap ((IntKind.u64.wrap (IntKind.i64.wrap (a1 + a3))).fdiv (2 ^ (min (Int.toNat 1) IntKind.u64.bits)))) + a2)) - x444)))) with hg573 | hg573
          ·
           have hs572 := and_t hg573 hb575
           have cs : Ch nb w544 w544 := Ch.refl
           refine RL.yes rfl rfl rfl hg573 ?_
           refine rl_move rfl rfl ?_
           refine RL.yes rfl rfl rfl hg573 ?_
           refine rl_move rfl rfl ?_
           refine RL.yes rfl rfl rfl hg573 ?_
           refine rl_bin rfl rfl B.lss rfl ?_
           refine rl_pickT rfl hg573 rfl rfl ?_
           exact RL.nil ⟨Ext.bothEq (congrArg Value.bool hs572) (Ext.skip rfl (Ext.skip rfl (Ext.skip rfl (Ext.rfl')))), cs⟩
          ·
           have hs572 := and_f hg573 hb575
           have cs : Ch nb w544 w544 := Ch.refl
           refine RL.no rfl rfl rfl hg573 rfl rfl ?_
           refine RL.no rfl rfl rfl hg573 rfl rfl ?_
           refine RL.no rfl rfl rfl hg573 rfl rfl ?_
           refine rl_pickF rfl hg573 rfl rfl ?_
           exact RL.nil ⟨Ext.bothEq (congrArg Value.bool hs572) (Ext.skip rfl (Ext.skip rfl (Ext.skip rfl (Ext.rfl')))), cs⟩
        intro w576 c577
        have ah4 := Kd.ch ah4 c577
        have h538 := h538.ch0 c577
        have c519 := c519.then0 c577
        refine RL.nil ?_
        refine thn_n ?_
        refine CW.cond (t := b574) rfl (fun q578 => ?_) (fun q578 => ?_)
        ·
         have hS := ifT q578 hS
         refine CW.region ?_
         refine rl_move rfl rfl ?_
         refine rl_move rfl rfl ?_
         refine rl_move rfl rfl ?_
         refine rl_move rfl rfl ?_
         refine rl_move rfl rfl ?_
         have hd579 : ∀ b, (inBlk av0) b → ¬ S2 b := fun b h => (fun b hb => linNot lin0_0 hd2 h2 b hb) b h
         have hS580 : (un (inBlk av0) S2) = (un (inBlk av0) S2) := rfl
         have ha581 := ah4
         rw [hS580] at ha581
         obtain ⟨y584, hy585, hS⟩ := bindS hS
         refine rl_callF rfl en78 rfl (ih F w576 Bb S2 (Nat.le_trans hB c519.size) (fun b h => Nat.lt_of_lt_of_le (h2 b h) c519.size) av0 hd579  y536 (hS580 ▸ h538) (IntKind.i64.wrap ((IntKind.u64.wrap (IntKind.i64.wrap (a1 + a3))).fdiv (2 ^ (min (Int.toNat 1) IntKind.u64.bits)))) (IntKind.i64.wrap ((IntKind.i64.wrap ((IntKind.i64.wrap ((IntKind.u64.wrap (IntKind.i64.wrap (a1 + a3))).fdiv (2 ^ (min (Int.toNat 1) IntKind.u64.bits)))) + a2)) - x444)) a3 a4 av4 ha581 y584 hy585) ?_
         rintro _ w582 ⟨rfl, h586, c583⟩
         rw [← hS580] at h586
         have c519 := c519.then c583 (fun i hi h => (lin0_0 i h).elim (fun x => x) (fun x => absurd x (Nat.not_le_of_lt hi)))
         refine RL.nil ?_
         obtain rfl := Option.some.inj hS
         exact ⟨[], trivial, ⟨rfl, h586, c519⟩⟩
        ·
         have hS := ifF q578 hS
         refine CW.skip ?_
         obtain rfl := Option.some.inj hS
         exact ⟨[], trivial, ⟨rfl, h538, c519⟩⟩
      ·
       have hS := ifF q530 hS
       refine CW.skip ?_
       refine thn_n ?_
       refine CW.seq ?_
       refine CW.seq (CW.region ?_)
       refine rl_move rfl rfl ?_
       refine rl_move rfl rfl ?_
       refine rl_bin rfl rfl B.lss rfl ?_
       refine rl_move rfl rfl ?_
       obtain ⟨b590, hb591⟩ : ∃ v, ((decide (a1 < x444)) && (decide (x444 < (IntKind.i64.wrap ((IntKind.u64.wrap (IntKind.i64.wrap (a1 + a3))).fdiv (2 ^ (min (Int.toNat 1) IntKind.u64.bits))))))) = v := ⟨_, rfl⟩
       have hS := ltS hb591 hS
       refine RL.join 4 199 (.bool b590) (fun w' => Ch nb w528 w') ?_ ?_
       · rcases Bool.eq_false_or_eq_true (decide (a1 < x444)) with hg589 | hg589
         ·
          have hs588 := and_t hg589 hb591
          have cs : Ch nb w528 w528 := Ch.refl
          refine RL.yes rfl rfl rfl hg589 ?_
          refine rl_move rfl rfl ?_
          refine RL.yes rfl rfl rfl hg589 ?_
          refine rl_move rfl rfl ?_
          refine RL.yes rfl rfl rfl hg589 ?_
          refine rl_bin rfl rfl B.lss rfl ?_
          refine rl_pickT rfl hg589 rfl rfl ?_
          exact RL.nil ⟨Ext.bothEq (congrArg Value.bool hs588) (Ext.skip rfl (Ext.skip rfl (Ext.skip rfl (Ext.rfl')))), cs⟩
         ·
          have hs588 := and_f hg589 hb591
          have cs : Ch nb w528 w528 := Ch.refl
          refine RL.no rfl rfl rfl hg589 rfl rfl ?_
          refine RL.no rfl rfl rfl hg589 rfl rfl ?_
          refine RL.no rfl rfl rfl hg589 rfl rfl ?_
          refine rl_pickF rfl hg589 rfl rfl ?_
          exact RL.nil ⟨Ext.bothEq (congrArg Value.bool hs588) (Ext.skip rfl (Ext.skip rfl (Ext.skip rfl (Ext.rfl')))), cs⟩
       intro w592 c593
       have ah0 := ah0.ch0 c593
       have ah4 := Kd.ch ah4 c593
       have c519 := c519.then0 c593
       refine RL.nil ?_
       refine thn_n ?_
       refine CW.cond (t := b590) rfl (fun q594 => ?_) (fun q594 => ?_)
       ·
        have hS := ifT q594 hS
        refine CW.region ?_
        refine rl_move rfl rfl ?_
        refine rl_move rfl rfl ?_
        refine rl_move rfl rfl ?_
        refine rl_move rfl rfl ?_
        refine rl_move rfl rfl ?_
        have hd595 : ∀ b, (inBlk av0) b → ¬ S2 b := fun b h => (fun b hb => linNot lin0_0 hd2 h2 b hb) b h
        have hS596 : (un (inBlk av0) S2) = (un (inBlk av0) S2) := rfl
        have ha597 := ah4
        rw [hS596] at ha597
        obtain ⟨y600, hy601, hS⟩ := bindS hS
        refine rl_callF rfl en78 rfl (ih F w592 Bb S2 (Nat.le_trans hB c519.size) (fun b h => Nat.lt_of_lt_of_le (h2 b h) c519.size) av0 hd595  a0 (hS596 ▸ ah0) a1 x444 (IntKind.i64.wrap ((IntKind.u64.wrap (IntKind.i64.wrap (a1 + a3))).fdiv (2 ^ (min (Int.toNat 1) IntKind.u64.bits)))) a4 av4 ha597 y600 hy601) ?_
        rintro _ w598 ⟨rfl, h602, c599⟩
        rw [← hS596] at h602
        have ad603 : ∀ b, b < w592.heap.size → ¬ (un (inBlk av0) S2) b → ¬ (inBlk av0) b ∧ ¬ (un (inBlk av0) S2) b := fun b _ hs => ⟨fun h => hs (.inl h), hs⟩
        have ah4 := Kd.st ah4 c599 ad603
        have c519 := c519.then c599 (fun i hi h => (lin0_0 i h).elim (fun x => x) (fun x => absurd x (Nat.not_le_of_lt hi)))
        refine RL.nil ?_
        refine thn_n ?_
        refine CW.seq (CW.region ?_)
        refine rl_move rfl rfl ?_
        refine rl_move rfl rfl ?_
        refine rl_bin rfl rfl B.lss rfl ?_
        refine rl_move rfl rfl ?_
        obtain ⟨b606, hb607⟩ : ∃ v, ((decide ((IntKind.i64.wrap ((IntKind.u64.wrap (IntKind.i64.wrap (a1 + a3))).fdiv (2 ^ (min (Int.toNat 1) IntKind.u64.bits)))) < (IntKind.i64.wrap ((IntKind.i64.wrap ((IntKind.i64.wrap ((IntKind.u64.wrap (IntKind.i64.wrap (a1 + a3))).fdiv (2 ^ (min (Int.toNat 1) IntKind.u64.bits)))) + a2)) - x444)))) && (decide ((IntKind.i64.wrap ((IntKind.i64.wrap ((IntKind.i64.wrap ((IntKind.u64.wrap (IntKind.i64.wrap (a1 + a3))).fdiv (2 ^ (min (Int.toNat 1) IntKind.u64.bits)))) + a2)) - x444)) < a3))) = v := ⟨_, rfl⟩
        have hS := ltS hb607 hS
        refine RL.join 4 213 (.bool b606) (fun w' => Ch nb w598 w') ?_ ?_
        · rcases Bool.eq_false_or_eq_true (decide ((IntKind.i64.wrap ((IntKind.u64.wrap (IntKind.i64.wrap (a1 + a3))).fdiv (2 ^ (min (Int.toNat 1) IntKind.u64.bits)))) < (IntKind.i64.wrap ((IntKind.i64.wrap ((IntKind.i64.wrap ((IntKind.u64.wrap (IntKind.i64.wrap (a1 + a3))).fdiv (2 ^ (min (Int.toNat 1) IntKind.u64.bits)))) + a2)) - x444)))) with hg605 | hg605
          ·
           have hs604 := and_t hg605 hb607
           have cs : Ch nb w598 w598 := Ch.refl
           refine RL.yes rfl rfl rfl hg605 ?_
           refine rl_move rfl rfl ?_
           refine RL.yes rfl rfl rfl hg605 ?_
           refine rl_move rfl rfl ?_
           refine RL.yes rfl rfl rfl hg605 ?_
           refine rl_bin rfl rfl B.lss rfl ?_
           refine rl_pickT rfl hg605 rfl rfl ?_
           exact RL.nil ⟨Ext.bothEq (congrArg Value.bool hs604) (Ext.skip rfl (Ext.skip rfl (Ext.skip rfl (Ext.rfl')))), cs⟩
          ·
           have hs604 := and_f hg605 hb607
           have cs : Ch nb w598 w598 := Ch.refl
           refine RL.no rfl rfl rfl hg605 rfl rfl ?_
           refine RL.no rfl rfl rfl hg605 rfl rfl ?_
           refine RL.no rfl rfl rfl hg605 rfl rfl ?_
           refine rl_pickF rfl hg605 rfl rfl ?_
           exact RL.nil ⟨Ext.bothEq (congrArg Value.bool hs604) (Ext.skip rfl (Ext.skip rfl (Ext.skip rfl (Ext.rfl')))), cs⟩
        intro w608 c609
        have ah4 := Kd.ch ah4 c609
        have h602 := h602.ch0 c609
        have c519 := c519.then0 c609
        refine RL.nil ?_
        refine thn_n ?_
        refine CW.cond (t := b606) rfl (fun q610 => ?_) (fun q610 => ?_)
        ·
         have hS := ifT q610 hS
         refine CW.region ?_
         refine rl_move rfl rfl ?_
         refine rl_move rfl rfl ?_
         refine rl_move rfl rfl ?_
         refine rl_move rfl rfl ?_
         refine rl_move rfl rfl ?_
         have hd611 : ∀ b, (inBlk av0) b → ¬ S2 b := fun b h => (fun b hb => linNot lin0_0 hd2 h2 b hb) b h
         have hS612 : (un (inBlk av0) S2) = (un (inBlk av0) S2) := rfl
         have ha613 := ah4
         rw [hS612] at ha613
         obtain ⟨y616, hy617, hS⟩ := bindS hS
         refine rl_callF rfl en78 rfl (ih F w608 Bb S2 (Nat.le_trans hB c519.size) (fun b h => Nat.lt_of_lt_of_le (h2 b h) c519.size) av0 hd611  y600 (hS612 ▸ h602) (IntKind.i64.wrap ((IntKind.u64.wrap (IntKind.i64.wrap (a1 + a3))).fdiv (2 ^ (min (Int.toNat 1) IntKind.u64.bits)))) (IntKind.i64.wrap ((IntKind.i64.wrap ((IntKind.i64.wrap ((IntKind.u64.wrap (IntKind.i64.wrap (a1 + a3))).fdiv (2 ^ (min (Int.toNat 1) IntKind.u64.bits)))) + a2)) - x444)) a3 a4 av4 ha613 y616 hy617) ?_
         rintro _ w614 ⟨rfl, h618, c615⟩
         rw [← hS612] at h618
         have c519 := c519.then c615 (fun i hi h => (lin0_0 i h).elim (fun x => x) (fun x => absurd x (Nat.not_le_of_lt hi)))
         refine RL.nil ?_
         obtain rfl := Option.some.inj hS
         exact ⟨[], trivial, ⟨rfl, h618, c519⟩⟩
        ·
         have hS := ifF q610 hS
         refine CW.skip ?_
         obtain rfl := Option.some.inj hS
         exact ⟨[], trivial, ⟨rfl, h602, c519⟩⟩
       ·
        have hS := ifF q594 hS
        refine CW.skip ?_
        refine thn_n ?_
        refine CW.seq (CW.region ?_)
        refine rl_move rfl rfl ?_
        refine rl_move rfl rfl ?_
        refine rl_bin rfl rfl B.lss rfl ?_
        refine rl_move rfl rfl ?_
        obtain ⟨b622, hb623⟩ : ∃ v, ((decide ((IntKind.i64.wrap ((IntKind.u64.wrap (IntKind.i64.wrap (a1 + a3))).fdiv (2 ^ (min (Int.toNat 1) IntKind.u64.bits)))) < (IntKind.i64.wrap ((IntKind.i64.wrap ((IntKind.i64.wrap ((IntKind.u64.wrap (IntKind.i64.wrap (a1 + a3))).fdiv (2 ^ (min (Int.toNat 1) IntKind.u64.bits)))) + a2)) - x444)))) && (decide ((IntKind.i64.wrap ((IntKind.i64.wrap ((IntKind.i64.wrap ((IntKind.u64.wrap (IntKind.i64.wrap (a1 + a3))).fdiv (2 ^ (min (Int.toNat 1) IntKind.u64.bits)))) + a2)) - x444)) < a3))) = v := ⟨_, rfl⟩
        have hS := ltS hb623 hS
        refine RL.join 4 213 (.bool b622) (fun w' => Ch nb w592 w') ?_ ?_
        · rcases Bool.eq_false_or_eq_true (decide ((IntKind.i64.wrap ((IntKind.u64.wrap (IntKind.i64.wrap (a1 + a3))).fdiv (2 ^ (min (Int.toNat 1) IntKind.u64.bits)))) < (IntKind.i64.wrap ((IntKind.i64.wrap ((IntKind.i64.wrap ((IntKind.u64.wrap (IntKind.i64.wrap (a1 + a3))).fdiv (2 ^ (min (Int.toNat 1) IntKind.u64.bits)))) + a2)) - x444)))) with hg621 | hg621
          ·
           have hs620 := and_t hg621 hb623
           have cs : Ch nb w592 w592 := Ch.refl
           refine RL.yes rfl rfl rfl hg621 ?_
           refine rl_move rfl rfl ?_
           refine RL.yes rfl rfl rfl hg621 ?_
           refine rl_move rfl rfl ?_
           refine RL.yes rfl rfl rfl hg621 ?_
           refine rl_bin rfl rfl B.lss rfl ?_
           refine rl_pickT rfl hg621 rfl rfl ?_
           exact RL.nil ⟨Ext.bothEq (congrArg Value.bool hs620) (Ext.skip rfl (Ext.skip rfl (Ext.skip rfl (Ext.rfl')))), cs⟩
          ·
           have hs620 := and_f hg621 hb623
           have cs : Ch nb w592 w592 := Ch.refl
           refine RL.no rfl rfl rfl hg621 rfl rfl ?_
           refine RL.no rfl rfl rfl hg621 rfl rfl ?_
           refine RL.no rfl rfl rfl hg621 rfl rfl ?_
           refine rl_pickF rfl hg621 rfl rfl ?_
           exact RL.nil ⟨Ext.bothEq (congrArg Value.bool hs620) (Ext.skip rfl (Ext.skip rfl (Ext.skip rfl (Ext.rfl')))), cs⟩
        intro w624 c625
        have ah0 := ah0.ch0 c625
        have ah4 := Kd.ch ah4 c625
        have c519 := c519.then0 c625
        refine RL.nil ?_
        refine thn_n ?_
        refine CW.cond (t := b622) rfl (fun q626 => ?_) (fun q626 => ?_)
        ·
         have hS := ifT q626 hS
         refine CW.region ?_
         refine rl_move rfl rfl ?_
         refine rl_move rfl rfl ?_
         refine rl_move rfl rfl ?_
         refine rl_move rfl rfl ?_
         refine rl_move rfl rfl ?_
         have hd627 : ∀ b, (inBlk av0) b → ¬ S2 b := fun b h => (fun b hb => linNot lin0_0 hd2 h2 b hb) b h
         have hS628 : (un (inBlk av0) S2) = (un (inBlk av0) S2) := rfl
         have ha629 := ah4
         rw [hS628] at ha629
         obtain ⟨y632, hy633, hS⟩ := bindS hS
         refine rl_callF rfl en78 rfl (ih F w624 Bb S2 (Nat.le_trans hB c519.size) (fun b h => Nat.lt_of_lt_of_le (h2 b h) c519.size) av0 hd627  a0 (hS628 ▸ ah0) (IntKind.i64.wrap ((IntKind.u64.wrap (IntKind.i64.wrap (a1 + a3))).fdiv (2 ^ (min (Int.toNat 1) IntKind.u64.bits)))) (IntKind.i64.wrap ((IntKind.i64.wrap ((IntKind.i64.wrap ((IntKind.u64.wrap (IntKind.i64.wrap (a1 + a3))).fdiv (2 ^ (min (Int.toNat 1) IntKind.u64.bits)))) + a2)) - x444)) a3 a4 av4 ha629 y632 hy633) ?_
         rintro _ w630 ⟨rfl, h634, c631⟩
         rw [← hS628] at h634
         have c519 := c519.then c631 (fun i hi h => (lin0_0 i h).elim (fun x => x) (fun x => absurd x (Nat.not_le_of_lt hi)))
         refine RL.nil ?_
         obtain rfl := Option.some.inj hS
         exact ⟨[], trivial, ⟨rfl, h634, c519⟩⟩
        ·
         have hS := ifF q626 hS
         refine CW.skip ?_
         obtain rfl := Option.some.inj hS
         exact ⟨[], trivial, ⟨rfl, ah0, c519⟩⟩
    ·
     have hS := ifF q443 hS
     refine CW.seq (CW.region ?_)
     refine rl_move rfl rfl ?_
     refine rl_assign rfl rfl ?_
     refine RL.nil ?_
     refine thn_n ?_
     refine CW.region ?_
     refine rl_move rfl rfl ?_
     refine rl_assign rfl rfl ?_
     refine RL.nil ?_
     refine thn_n ?_
     refine CW.seq (CW.region ?_)
     refine rl_move rfl rfl ?_
     refine rl_bin rfl rfl B.sub rfl ?_
     refine rl_assign rfl rfl ?_
     refine RL.nil ?_
     refine thn_n ?_
     refine CW.seq ?_
     obtain ⟨o645, ho646, hS⟩ := bindS hS
     refine CW.cutB (fun E' w' => ∃ (x636 : Int) (x637 : Int), Sub [(0, av0), (1, (Value.int .i64 a1)), (2, (Value.int .i64 a2)), (3, (Value.int .i64 a3)), (4, av4), (18, (Value.int .i64 (IntKind.i64.wrap ((IntKind.u64.wrap (IntKind.i64.wrap (a1 + a3))).fdiv (2 ^ (min (Int.toNat 1) IntKind.u64.bits)))))), (19, (Value.int .i64 (IntKind.i64.wrap ((IntKind.i64.wrap ((IntKind.u64.wrap (IntKind.i64.wrap (a1 + a3))).fdiv (2 ^ (min (Int.toNat 1) IntKind.u64.bits)))) + a2)))), (20, (Value.int .i64 x636))] E' ∧ Ch (inBlk av0) w w' ∧ Lp.fin (x636, x637) = o645 ∧ SlO k_Group 50 F Bb (un (inBlk av0) S2) w' a0 av0 ∧ (Kd.fn2 Tryz.prog true true k_Group k_Group (Value.int .i64)).rep (G F Bb (un (inBlk av0) S2)) w' a4 [av4]) ?_ ?_
     ·
      refine CW.loopS [(0, av0), (1, (Value.int .i64 a1)), (2, (Value.int .i64 a2)), (3, (Value.int .i64 a3)), (4, av4), (18, (Value.int .i64 (IntKind.i64.wrap ((IntKind.u64.wrap (IntKind.i64.wrap (a1 + a3))).fdiv (2 ^ (min (Int.toNat 1) IntKind.u64.bits)))))), (19, (Value.int .i64 (IntKind.i64.wrap ((IntKind.i64.wrap ((IntKind.u64.wrap (IntKind.i64.wrap (a1 + a3))).fdiv (2 ^ (min (Int.toNat 1) IntKind.u64.bits)))) + a2)))), (22, (Value.int .i64 (IntKind.i64.wrap ((IntKind.i64.wrap ((IntKind.i64.wrap ((IntKind.u64.wrap (IntKind.i64.wrap (a1 + a3))).fdiv (2 ^ (min (Int.toNat 1) IntKind.u64.bits)))) + a2)) - 1)))), (20, (Value.int .i64 a1)), (21, (Value.int .i64 a2))] ⟨rfl, rfl, rfl, rfl, rfl, rfl, rfl, rfl, rfl, rfl, trivial⟩ FUEL (fun m E w' => ∃ (x636 : Int) (x637 : Int), E = [(0, av0), (1, (Value.int .i64 a1)), (2, (Value.int .i64 a2)), (3, (Value.int .i64 a3)), (4, av4), (18, (Value.int .i64 (IntKind.i64.wrap ((IntKind.u64.wrap (IntKind.i64.wrap (a1 + a3))).fdiv (2 ^ (min (Int.toNat 1) IntKind.u64.bits)))))), (19, (Value.int .i64 (IntKind.i64.wrap ((IntKind.i64.wrap ((IntKind.u64.wrap (IntKind.i64.wrap (a1 + a3))).fdiv (2 ^ (min (Int.toNat 1) IntKind.u64.bits)))) + a2)))), (22, (Value.int .i64 (IntKind.i64.wrap ((IntKind.i64.wrap ((IntKind.i64.wrap ((IntKind.u64.wrap (IntKind.i64.wrap (a1 + a3))).fdiv (2 ^ (min (Int.toNat 1) IntKind.u64.bits)))) + a2)) - 1)))), (20, (Value.int .i64 x636)), (21, (Value.int .i64 x637))] ∧ Ch (inBlk av0) w w' ∧ runW (F78_slices_symMergeCmpFunc_resolve_Group_body_b6 a0 a1 a2 a3 a4) m (x636, x637) = some o645 ∧ SlO k_Group 50 F Bb (un (inBlk av0) S2) w' a0 av0 ∧ (Kd.fn2 Tryz.prog true true k_Group k_Group (Value.int .i64)).rep (G F Bb (un (inBlk av0) S2)) w' a4 [av4])
          ⟨a1, a2, rfl, c0, ho646, ah0, ah4⟩ ?_
      rintro _ _ w651 ⟨x636, x637, rfl, c650, hL640, ah0, ah4⟩
      obtain ⟨k649, q642, rfl, hq643⟩ := runW_some hL640
      have hb644 := hq643
      refine CW.seq ?_
      refine CW.seq (CW.region ?_)
      refine rl_move rfl rfl ?_
      refine rl_move rfl rfl ?_
      refine rl_bin rfl rfl B.lss rfl ?_
      refine RL.nil ?_
      refine thn_n ?_
      refine CW.cond (t := decide (x636 < x637)) rfl (fun q653 => ?_) (fun q653 => ?_)
      ·
       have hb644 := ifT q653 hb644
       refine CW.skip ?_
       refine thn_n ?_
       refine CW.block ?_
       refine CW.seq (CW.region ?_)
       refine rl_move rfl rfl ?_
       refine rl_move rfl rfl ?_
       refine rl_bin rfl rfl B.add rfl ?_
       refine rl_convInt rfl ⟨_, Tryz.underlying3⟩ Tryz.underlying168 rfl ?_
       refine rl_bin rfl rfl (B.shr rfl) rfl ?_
       refine rl_convInt rfl ⟨_, Tryz.underlying168⟩ Tryz.underlying3 rfl ?_
       refine rl_assign rfl rfl ?_
       refine RL.nil ?_
       refine thn_n ?_
       refine CW.seq ?_
       obtain ⟨y660, hy661, hb644⟩ := bindS hb644
       obtain ⟨y670, hy671, hb644⟩ := bindS hb644
       refine CW.draw 11 [(none, fun fx O uu wx => uu = av4), (none, fun fx O uu wx => uu = av0), (none, fun fx O uu wx => uu = (Value.int .i64 (IntKind.i64.wrap ((IntKind.i64.wrap ((IntKind.i64.wrap ((IntKind.u64.wrap (IntKind.i64.wrap (a1 + a3))).fdiv (2 ^ (min (Int.toNat 1) IntKind.u64.bits)))) + a2)) - 1)))), (none, fun fx O uu wx => uu = (Value.int .i64 (IntKind.i64.wrap ((IntKind.u64.wrap (IntKind.i64.wrap (x636 + x637))).fdiv (2 ^ (min (Int.toNat 1) IntKind.u64.bits)))))), (none, fun fx O uu wx => uu = (Value.int .i64 (IntKind.i64.wrap ((IntKind.i64.wrap ((IntKind.i64.wrap ((IntKind.i64.wrap ((IntKind.u64.wrap (IntKind.i64.wrap (a1 + a3))).fdiv (2 ^ (min (Int.toNat 1) IntKind.u64.bits)))) + a2)) - 1)) - (IntKind.i64.wrap ((IntKind.u64.wrap (IntKind.i64.wrap (x636 + x637))).fdiv (2 ^ (min (Int.toNat 1) IntKind.u64.bits)))))))), (none, fun fx O uu wx => ∃ (p654 : Nat) (o655 : Nat) (z662 : Value), uu = (Value.pointer (some ⟨p654, o655, none⟩)) ∧ slRep k_Point (G F Bb (un (inBlk av0) S2)) wx y660.points z662 ∧ Seg wx p654 o655 (Group.c y660 z662)), (none, fun fx O uu wx => ∃ (z662_6 : Value), uu = (Value.agg (Group.c y660 z662_6).toArray) ∧ slRep k_Point (G F Bb (un (inBlk av0) S2)) wx y660.points z662_6), (none, fun fx O uu wx => uu = av0), (none, fun fx O uu wx => uu = (Value.int .i64 (IntKind.i64.wrap ((IntKind.u64.wrap (IntKind.i64.wrap (x636 + x637))).fdiv (2 ^ (min (Int.toNat 1) IntKind.u64.bits)))))), (none, fun fx O uu wx => ∃ (p664 : Nat) (o665 : Nat) (z672 : Value), uu = (Value.pointer (some ⟨p664, o665, none⟩)) ∧ slRep k_Point (G F Bb (un (inBlk av0) S2)) wx y670.points z672 ∧ Seg wx p664 o665 (Group.c y670 z672)), (none, fun fx O uu wx => ∃ (z672_10 : Value), uu = (Value.agg (Group.c y670 z672_10).toArray) ∧ slRep k_Point (G F Bb (un (inBlk av0) S2)) wx y670.points z672_10)] [[], [], [], [], [2, 3], [1, 4], [5], [], [], [7, 8], [9]] [0, 6, 10] nb (fun _ h => h.elim) mixed rfl rfl rfl rfl ?_ ?_
       ·
        refine Each.consA ⟨fun _ _ _ _ _ _ h => h, fun h => absurd rfl h, fun fl O wk hE hN hO ck => ?_⟩ ?_
        ·
         refine rl_move rfl rfl ?_
         exact RL.nil ⟨_, rfl, Ch.refl, rfl⟩
        refine Each.consA ⟨fun _ _ _ _ _ _ h => h, fun h => absurd rfl h, fun fl O wk hE hN hO ck => ?_⟩ ?_
        ·
         refine rl_move rfl rfl ?_
         exact RL.nil ⟨_, rfl, Ch.refl, rfl⟩
        refine Each.consA ⟨fun _ _ _ _ _ _ h => h, fun h => absurd rfl h, fun fl O wk hE hN hO ck => ?_⟩ ?_
        ·
         refine rl_move rfl rfl ?_
         exact RL.nil ⟨_, rfl, Ch.refl, rfl⟩
        refine Each.consA ⟨fun _ _ _ _ _ _ h => h, fun h => absurd rfl h, fun fl O wk hE hN hO ck => ?_⟩ ?_
        ·
         refine rl_move rfl rfl ?_
         exact RL.nil ⟨_, rfl, Ch.refl, rfl⟩
        refine Each.consA ⟨fun _ _ _ _ _ _ h => h, fun h => absurd rfl h, fun fl O wk hE hN hO ck => ?_⟩ ?_
        ·
         refine Need.one rfl rfl rfl ?_
         rintro _ e676
         obtain rfl := e676.symm
         refine Need.one rfl rfl rfl ?_
         rintro _ e677
         obtain rfl := e677.symm
         refine rl_bin rfl rfl B.sub rfl ?_
         exact RL.nil ⟨_, rfl, Ch.refl, rfl⟩
        refine Each.consA ⟨fun _ _ _ _ _ cc hh => by obtain ⟨p654, o655, z662, e, h663, hs658⟩ := hh; exact ⟨p654, o655, z662, e, slRep.ch k_Point_pos h663 cc, hs658.ch0 cc⟩, fun h => absurd rfl h, fun fl O wk hE hN hO ck => ?_⟩ ?_
        ·
         have ah0 := ah0.ch0 ck
         refine Need.one rfl rfl rfl ?_
         rintro _ e678
         obtain rfl := e678.symm
         refine Need.one rfl rfl rfl ?_
         rintro _ e679
         obtain rfl := e679.symm
         refine rl_ixOR rfl ah0 rfl (ixO_get hy661) k_Group_pos Tryz.underlying37 Tryz.sizeOf50 rfl ?_
         intro p680 o681 cs682 hr683 hs684 hg685
         obtain ⟨z686, rfl, h687⟩ := hr683
         exact RL.nil ⟨_, rfl, Ch.refl, ⟨p680, o681, z686, rfl, h687, hs684⟩⟩
        refine Each.consA ⟨fun _ _ _ _ _ cc hh => by obtain ⟨z662_6, e, h663_6⟩ := hh; exact ⟨z662_6, e, slRep.ch k_Point_pos h663_6 cc⟩, fun h => absurd rfl h, fun fl O wk hE hN hO ck => ?_⟩ ?_
        ·
         refine Need.one rfl rfl rfl ?_
         rintro _ ⟨p654, o655, z662, e688, h663, hs658⟩
         obtain rfl := e688.symm
         refine rl_loadA (cs := (Group.c y660 z662)) rfl Tryz.isAgg50 Tryz.sizeOf50 (hs658) rfl rfl ?_
         exact RL.nil ⟨_, rfl, Ch.refl, ⟨z662, rfl, h663⟩⟩
        refine Each.consA ⟨fun _ _ _ _ _ _ h => h, fun h => absurd rfl h, fun fl O wk hE hN hO ck => ?_⟩ ?_
        ·
         refine rl_move rfl rfl ?_
         exact RL.nil ⟨_, rfl, Ch.refl, rfl⟩
        refine Each.consA ⟨fun _ _ _ _ _ _ h => h, fun h => absurd rfl h, fun fl O wk hE hN hO ck => ?_⟩ ?_
        ·
         refine rl_move rfl rfl ?_
         exact RL.nil ⟨_, rfl, Ch.refl, rfl⟩
        refine Each.consA ⟨fun _ _ _ _ _ cc hh => by obtain ⟨p664, o665, z672, e, h673, hs668⟩ := hh; exact ⟨p664, o665, z672, e, slRep.ch k_Point_pos h673 cc, hs668.ch0 cc⟩, fun h => absurd rfl h, fun fl O wk hE hN hO ck => ?_⟩ ?_
        ·
         have ah0 := ah0.ch0 ck
         refine Need.one rfl rfl rfl ?_
         rintro _ e689
         obtain rfl := e689.symm
         refine Need.one rfl rfl rfl ?_
         rintro _ e690
         obtain rfl := e690.symm
         refine rl_ixOR rfl ah0 rfl (ixO_get hy671) k_Group_pos Tryz.underlying37 Tryz.sizeOf50 rfl ?_
         intro p691 o692 cs693 hr694 hs695 hg696
         obtain ⟨z697, rfl, h698⟩ := hr694
         exact RL.nil ⟨_, rfl, Ch.refl, ⟨p691, o692, z697, rfl, h698, hs695⟩⟩
        refine Each.consA ⟨fun _ _ _ _ _ cc hh => by obtain ⟨z672_10, e, h673_10⟩ := hh; exact ⟨z672_10, e, slRep.ch k_Point_pos h673_10 cc⟩, fun h => absurd rfl h, fun fl O wk hE hN hO ck => ?_⟩ ?_
        ·
         refine Need.one rfl rfl rfl ?_
         rintro _ ⟨p664, o665, z672, e699, h673, hs668⟩
         obtain rfl := e699.symm
         refine rl_loadA (cs := (Group.c y670 z672)) rfl Tryz.isAgg50 Tryz.sizeOf50 (hs668) rfl rfl ?_
         exact RL.nil ⟨_, rfl, Ch.refl, ⟨z672, rfl, h673⟩⟩
        trivial
       ·
        intro hvO702 OpO702 O702 w700 hO703 c701 hN704
        have ah0 := ah0.ch0 c701
        have ah4 := Kd.ch ah4 c701
        have c650 := c650.then0 c701
        refine Need.one rfl rfl rfl ?_
        rintro _ e705
        obtain rfl := e705.symm
        refine Need.one rfl rfl rfl ?_
        rintro _ ⟨z662_6, e706, h663_6⟩
        obtain rfl := e706.symm
        refine Need.one rfl rfl rfl ?_
        rintro _ ⟨z672_10, e707, h673_10⟩
        obtain rfl := e707.symm
        refine rl_fn2 (c := (Group.c y660 z662_6)) (c' := (Group.c y670 z672_10)) rfl rfl rfl rfl rfl ah4 (F' := (G F Bb (un (inBlk av0) S2))) (xx := y660) (yy := y670) (show k_Group.rep (G F Bb (un (inBlk av0) S2)) w700 y660 (Group.c y660 z662_6) from ⟨z662_6, rfl, h663_6⟩) (show k_Group.rep (G F Bb (un (inBlk av0) S2)) w700 y670 (Group.c y670 z672_10) from ⟨z672_10, rfl, h673_10⟩) rfl ?_
        intro w708 c709
        have ah0 := ah0.ch0 c709
        have ah4 := Kd.ch ah4 c709
        have c650 := c650.then0 c709
        refine rl_bin rfl rfl B.lss rfl ?_
        refine rl_not rfl rfl ?_
        refine RL.nil ?_
        refine thn_n ?_
        refine CW.cond (t := !(decide ((a4 y660 y670) < 0))) rfl (fun q710 => ?_) (fun q710 => ?_)
        ·
         have hb644 := ifT q710 hb644
         refine CW.region ?_
         refine rl_move rfl rfl ?_
         refine rl_bin rfl rfl B.add rfl ?_
         refine rl_assign rfl rfl ?_
         refine RL.nil ?_
         refine inB_n ?_
         refine thn_n ?_
         have hLn := runW_next hL640 hq643 hb644
         exact ⟨k649, Nat.lt_succ_self _, [(0, av0), (1, (Value.int .i64 a1)), (2, (Value.int .i64 a2)), (3, (Value.int .i64 a3)), (4, av4), (18, (Value.int .i64 (IntKind.i64.wrap ((IntKind.u64.wrap (IntKind.i64.wrap (a1 + a3))).fdiv (2 ^ (min (Int.toNat 1) IntKind.u64.bits)))))), (19, (Value.int .i64 (IntKind.i64.wrap ((IntKind.i64.wrap ((IntKind.u64.wrap (IntKind.i64.wrap (a1 + a3))).fdiv (2 ^ (min (Int.toNat 1) IntKind.u64.bits)))) + a2)))), (22, (Value.int .i64 (IntKind.i64.wrap ((IntKind.i64.wrap ((IntKind.i64.wrap ((IntKind.u64.wrap (IntKind.i64.wrap (a1 + a3))).fdiv (2 ^ (min (Int.toNat 1) IntKind.u64.bits)))) + a2)) - 1)))), (20, (Value.int .i64 (IntKind.i64.wrap ((IntKind.i64.wrap ((IntKind.u64.wrap (IntKind.i64.wrap (x636 + x637))).fdiv (2 ^ (min (Int.toNat 1) IntKind.u64.bits)))) + 1)))), (21, (Value.int .i64 x637))], ⟨rfl, rfl, rfl, rfl, rfl, rfl, rfl, rfl, rfl, rfl, trivial⟩, ⟨IntKind.i64.wrap ((IntKind.i64.wrap ((IntKind.u64.wrap (IntKind.i64.wrap (x636 + x637))).fdiv (2 ^ (min (Int.toNat 1) IntKind.u64.bits)))) + 1), x637, rfl, c650, hLn, ah0, ah4⟩⟩
        ·
         have hb644 := ifF q710 hb644
         refine CW.region ?_
         refine rl_move rfl rfl ?_
         refine rl_assign rfl rfl ?_
         refine RL.nil ?_
         refine inB_n ?_
         refine thn_n ?_
         have hLn := runW_next hL640 hq643 hb644
         exact ⟨k649, Nat.lt_succ_self _, [(0, av0), (1, (Value.int .i64 a1)), (2, (Value.int .i64 a2)), (3, (Value.int .i64 a3)), (4, av4), (18, (Value.int .i64 (IntKind.i64.wrap ((IntKind.u64.wrap (IntKind.i64.wrap (a1 + a3))).fdiv (2 ^ (min (Int.toNat 1) IntKind.u64.bits)))))), (19, (Value.int .i64 (IntKind.i64.wrap ((IntKind.i64.wrap ((IntKind.u64.wrap (IntKind.i64.wrap (a1 + a3))).fdiv (2 ^ (min (Int.toNat 1) IntKind.u64.bits)))) + a2)))), (22, (Value.int .i64 (IntKind.i64.wrap ((IntKind.i64.wrap ((IntKind.i64.wrap ((IntKind.u64.wrap (IntKind.i64.wrap (a1 + a3))).fdiv (2 ^ (min (Int.toNat 1) IntKind.u64.bits)))) + a2)) - 1)))), (20, (Value.int .i64 x636)), (21, (Value.int .i64 (IntKind.i64.wrap ((IntKind.u64.wrap (IntKind.i64.wrap (x636 + x637))).fdiv (2 ^ (min (Int.toNat 1) IntKind.u64.bits))))))], ⟨rfl, rfl, rfl, rfl, rfl, rfl, rfl, rfl, rfl, rfl, trivial⟩, ⟨x636, IntKind.i64.wrap ((IntKind.u64.wrap (IntKind.i64.wrap (x636 + x637))).fdiv (2 ^ (min (Int.toNat 1) IntKind.u64.bits))), rfl, c650, hLn, ah0, ah4⟩⟩
      ·
       have hb644 := ifF q653 hb644
       refine CW.exit ?_
       refine thn_exit ?_
       refine thn_exit ?_
       refine inB_hit ?_
       have hLf := runW_fin hL640 hq643 hb644
       exact ⟨x636, x637, ⟨rfl, rfl, rfl, rfl, rfl, rfl, rfl, rfl, trivial⟩, c650, hLf, ah0, ah4⟩
     ·
      rintro _ w712 ⟨x636, x637, hE713, c711, f714, ah0, ah4⟩
      have hS := finS f714 hS
      refine thn_n (CW.sub [(0, av0), (1, (Value.int .i64 a1)), (2, (Value.int .i64 a2)), (3, (Value.int .i64 a3)), (4, av4), (18, (Value.int .i64 (IntKind.i64.wrap ((IntKind.u64.wrap (IntKind.i64.wrap (a1 + a3))).fdiv (2 ^ (min (Int.toNat 1) IntKind.u64.bits)))))), (19, (Value.int .i64 (IntKind.i64.wrap ((IntKind.i64.wrap ((IntKind.u64.wrap (IntKind.i64.wrap (a1 + a3))).fdiv (2 ^ (min (Int.toNat 1) IntKind.u64.bits)))) + a2)))), (20, (Value.int .i64 x636))] hE713 ?_)
      refine CW.seq (CW.region ?_)
      refine rl_move rfl rfl ?_
      refine rl_move rfl rfl ?_
      refine rl_bin rfl rfl B.sub rfl ?_
      refine rl_assign rfl rfl ?_
      refine RL.nil ?_
      refine thn_n ?_
      refine CW.seq ?_
      refine CW.seq (CW.region ?_)
      refine rl_move rfl rfl ?_
      refine rl_move rfl rfl ?_
      refine rl_bin rfl rfl B.lss rfl ?_
      refine rl_move rfl rfl ?_
      obtain ⟨b718, hb719⟩ : ∃ v, ((decide (x636 < a2)) && (decide (a2 < (IntKind.i64.wrap ((IntKind.i64.wrap ((IntKind.i64.wrap ((IntKind.u64.wrap (IntKind.i64.wrap (a1 + a3))).fdiv (2 ^ (min (Int.toNat 1) IntKind.u64.bits)))) + a2)) - x636))))) = v := ⟨_, rfl⟩
      have hS := ltS hb719 hS
      refine RL.join 4 185 (.bool b718) (fun w' => Ch nb w712 w') ?_ ?_
      · rcases Bool.eq_false_or_eq_true (decide (x636 < a2)) with hg717 | hg717
        ·
         have hs716 := and_t hg717 hb719
         have cs : Ch nb w712 w712 := Ch.refl
         refine RL.yes rfl rfl rfl hg717 ?_
         refine rl_move rfl rfl ?_
         refine RL.yes rfl rfl rfl hg717 ?_
         refine rl_move rfl rfl ?_
         refine RL.yes rfl rfl rfl hg717 ?_
         refine rl_bin rfl rfl B.lss rfl ?_
         refine rl_pickT rfl hg717 rfl rfl ?_
         exact RL.nil ⟨Ext.bothEq (congrArg Value.bool hs716) (Ext.skip rfl (Ext.skip rfl (Ext.skip rfl (Ext.rfl')))), cs⟩
        ·
         have hs716 := and_f hg717 hb719
         have cs : Ch nb w712 w712 := Ch.refl
         refine RL.no rfl rfl rfl hg717 rfl rfl ?_
         refine RL.no rfl rfl rfl hg717 rfl rfl ?_
         refine RL.no rfl rfl rfl hg717 rfl rfl ?_
         refine rl_pickF rfl hg717 rfl rfl ?_
         exact RL.nil ⟨Ext.bothEq (congrArg Value.bool hs716) (Ext.skip rfl (Ext.skip rfl (Ext.skip rfl (Ext.rfl')))), cs⟩
      intro w720 c721
      have ah0 := ah0.ch0 c721
      have ah4 := Kd.ch ah4 c721
      have c711 := c711.then0 c721
      refine RL.nil ?_
      refine thn_n ?_
      refine CW.cond (t := b718) rfl (fun q722 => ?_) (fun q722 => ?_)
      ·
       have hS := ifT q722 hS
       refine CW.region ?_
       refine rl_move rfl rfl ?_
       refine rl_move rfl rfl ?_
       refine rl_move rfl rfl ?_
       refine rl_move rfl rfl ?_
       refine rl_move rfl rfl ?_
       have hd723 : ∀ b, (inBlk av0) b → ¬ S2 b := fun b h => (fun b hb => linNot lin0_0 hd2 h2 b hb) b h
       have hS724 : (un (inBlk av0) S2) = (un (inBlk av0) S2) := rfl
       have ha725 := ah4
       rw [hS724] at ha725
       obtain ⟨y728, hy729, hS⟩ := bindS hS
       refine rl_callF rfl en101 rfl (ctr101 F w720 Bb S2 (Nat.le_trans hB c711.size) (fun b h => Nat.lt_of_lt_of_le (h2 b h) c711.size) av0 hd723  a0 (hS724 ▸ ah0) x636 a2 (IntKind.i64.wrap ((IntKind.i64.wrap ((IntKind.i64.wrap ((IntKind.u64.wrap (IntKind.i64.wrap (a1 + a3))).fdiv (2 ^ (min (Int.toNat 1) IntKind.u64.bits)))) + a2)) - x636)) a4 av4 ha725 y728 hy729) ?_
       rintro _ w726 ⟨rfl, h730, c727⟩
       rw [← hS724] at h730
       have ad731 : ∀ b, b < w720.heap.size → ¬ (un (inBlk av0) S2) b → ¬ (inBlk av0) b ∧ ¬ (un (inBlk av0) S2) b := fun b _ hs => ⟨fun h => hs (.inl h), hs⟩
       have ah4 := Kd.st ah4 c727 ad731
       have c711 := c711.then c727 (fun i hi h => (lin0_0 i h).elim (fun x => x) (fun x => absurd x (Nat.not_le_of_lt hi)))
       refine RL.nil ?_
       refine thn_n ?_
       refine CW.seq ?_
       refine CW.seq (CW.region ?_)
       refine rl_move rfl rfl ?_
       refine rl_move rfl rfl ?_
       refine rl_bin rfl rfl B.lss rfl ?_
       refine rl_move rfl rfl ?_
       obtain ⟨b734, hb735⟩ : ∃ v, ((decide (a1 < x636)) && (decide (x636 < (IntKind.i64.wrap ((IntKind.u64.wrap (IntKind.i64.wrap (a1 + a3))).fdiv (2 ^ (min (Int.toNat 1) IntKind.u64.bits))))))) = v := ⟨_, rfl⟩
       have hS := ltS hb735 hS
       refine RL.join 4 199 (.bool b734) (fun w' => Ch nb w726 w') ?_ ?_
       · rcases Bool.eq_false_or_eq_true (decide (a1 < x636)) with hg733 | hg733
         ·
          have hs732 := and_t hg733 hb735
          have cs : Ch nb w726 w726 := Ch.refl
          refine RL.yes rfl rfl rfl hg733 ?_
          refine rl_move rfl rfl ?_
          refine RL.yes rfl rfl rfl hg733 ?_
          refine rl_move rfl rfl ?_
          refine RL.yes rfl rfl rfl hg733 ?_
          refine rl_bin rfl rfl B.lss rfl ?_
          refine rl_pickT rfl hg733 rfl rfl ?_
          exact RL.nil ⟨Ext.bothEq (congrArg Value.bool hs732) (Ext.skip rfl (Ext.skip rfl (Ext.skip rfl (Ext.rfl')))), cs⟩
         ·
          have hs732 := and_f hg733 hb735
          have cs : Ch nb w726 w726 := Ch.refl
          refine RL.no rfl rfl rfl hg733 rfl rfl ?_
          refine RL.no rfl rfl rfl hg733 rfl rfl ?_
          refine RL.no rfl rfl rfl hg733 rfl rfl ?_
          refine rl_pickF rfl hg733 rfl rfl ?_
          exact RL.nil ⟨Ext.bothEq (congrArg Value.bool hs732) (Ext.skip rfl (Ext.skip rfl (Ext.skip rfl (Ext.rfl')))), cs⟩
       intro w736 c737
       have ah4 := Kd.ch ah4 c737
       have h730 := h730.ch0 c737
       have c711 := c711.then0 c737
       refine RL.nil ?_
       refine thn_n ?_
       refine CW.cond (t := b734) rfl (fun q738 => ?_) (fun q738 => ?_)
       ·
        have hS := ifT q738 hS
        refine CW.region ?_
        refine rl_move rfl rfl ?_
        refine rl_move rfl rfl ?_
        refine rl_move rfl rfl ?_
        refine rl_move rfl rfl ?_
        refine rl_move rfl rfl ?_
        have hd739 : ∀ b, (inBlk av0) b → ¬ S2 b := fun b h => (fun b hb => linNot lin0_0 hd2 h2 b hb) b h
        have hS740 : (un (inBlk av0) S2) = (un (inBlk av0) S2) := rfl
        have ha741 := ah4
        rw [hS740] at ha741
        obtain ⟨y744, hy745, hS⟩ := bindS hS
        refine rl_callF rfl en78 rfl (ih F w736 Bb S2 (Nat.le_trans hB c711.size) (fun b h => Nat.lt_of_lt_of_le (h2 b h) c711.size) av0 hd739  y728 (hS740 ▸ h730) a1 x636 (IntKind.i64.wrap ((IntKind.u64.wrap (IntKind.i64.wrap (a1 + a3))).fdiv (2 ^ (min (Int.toNat 1) IntKind.u64.bits)))) a4 av4 ha741 y744 hy745) ?_
        rintro _ w742 ⟨rfl, h746, c743⟩
        rw [← hS740] at h746
        have ad747 : ∀ b, b < w736.heap.size → ¬ (un (inBlk av0) S2) b → ¬ (inBlk av0) b ∧ ¬ (un (inBlk av0) S2) b := fun b _ hs => ⟨fun h => hs (.inl h), hs⟩
        have ah4 := Kd.st ah4 c743 ad747
        have c711 := c711.then c743 (fun i hi h => (lin0_0 i h).elim (fun x => x) (fun x => absurd x (Nat.not_le_of_lt hi)))
        refine RL.nil ?_
        refine thn_n ?_
        refine CW.seq (CW.region ?_)
        refine rl_move rfl rfl ?_
        refine rl_move rfl rfl ?_
        refine rl_bin rfl rfl B.lss rfl ?_
        refine rl_move rfl rfl ?_
        obtain ⟨b750, hb751⟩ : ∃ v, ((decide ((IntKind.i64.wrap ((IntKind.u64.wrap (IntKind.i64.wrap (a1 + a3))).fdiv (2 ^ (min (Int.toNat 1) IntKind.u64.bits)))) < (IntKind.i64.wrap ((IntKind.i64.wrap ((IntKind.i64.wrap ((IntKind.u64.wrap (IntKind.i64.wrap (a1 + a3))).fdiv (2 ^ (min (Int.toNat 1) IntKind.u64.bits)))) + a2)) - x636)))) && (decide ((IntKind.i64.wrap ((IntKind.i64.wrap ((IntKind.i64.wrap ((IntKind.u64.wrap (IntKind.i64.wrap (a1 + a3))).fdiv (2 ^ (min (Int.toNat 1) IntKind.u64.bits)))) + a2)) - x636)) < a3))) = v := ⟨_, rfl⟩
        have hS := ltS hb751 hS
        refine RL.join 4 213 (.bool b750) (fun w' => Ch nb w742 w') ?_ ?_
        · rcases Bool.eq_false_or_eq_true (decide ((IntKind.i64.wrap ((IntKind.u64.wrap (IntKind.i64.wrap (a1 + a3))).fdiv (2 ^ (min (Int.toNat 1) IntKind.u64.bits)))) < (IntKind.i64.wrap ((IntKind.i64.wrap ((IntKind.i64.wrap ((IntKind.u64.wrap (IntKind.i64.wrap (a1 + a3))).fdiv (2 ^ (min (Int.toNat 1) IntKind.u64.bits)))) + a2)) - x636)))) with hg749 | hg749
          ·
           have hs748 := and_t hg749 hb751
           have cs : Ch nb w742 w742 := Ch.refl
           refine RL.yes rfl rfl rfl hg749 ?_
           refine rl_move rfl rfl ?_
           refine RL.yes rfl rfl rfl hg749 ?_
           refine rl_move rfl rfl ?_
           refine RL.yes rfl rfl rfl hg749 ?_
           refine rl_bin rfl rfl B.lss rfl ?_
           refine rl_pickT rfl hg749 rfl rfl ?_
           exact RL.nil ⟨Ext.bothEq (congrArg Value.bool hs748) (Ext.skip rfl (Ext.skip rfl (Ext.skip rfl (Ext.rfl')))), cs⟩
          ·
           have hs748 := and_f hg749 hb751
           have cs : Ch nb w742 w742 := Ch.refl
           refine RL.no rfl rfl rfl hg749 rfl rfl ?_
           refine RL.no rfl rfl rfl hg749 rfl rfl ?_
           refine RL.no rfl rfl rfl hg749 rfl rfl ?_
           refine rl_pickF rfl hg749 rfl rfl ?_
           exact RL.nil ⟨Ext.bothEq (congrArg Value.bool hs748) (Ext.skip rfl (Ext.skip rfl (Ext.skip rfl (Ext.rfl')))), cs⟩
        intro w752 c753
        have ah4 := Kd.ch ah4 c753
        have h746 := h746.ch0 c753
        have c711 := c711.then0 c753
        refine RL.nil ?_
        refine thn_n ?_
        refine CW.cond (t := b750) rfl (fun q754 => ?_) (fun q754 => ?_)
        ·
         have hS := ifT q754 hS
         refine CW.region ?_
         refine rl_move rfl rfl ?_
         refine rl_move rfl rfl ?_
         refine rl_move rfl rfl ?_
         refine rl_move rfl rfl ?_
         refine rl_move rfl rfl ?_
         have hd755 : ∀ b, (inBlk av0) b → ¬ S2 b := fun b h => (fun b hb => linNot lin0_0 hd2 h2 b hb) b h
         have hS756 : (un (inBlk av0) S2) = (un (inBlk av0) S2) := rfl
         have ha757 := ah4
         rw [hS756] at ha757
         obtain ⟨y760, hy761, hS⟩ := bindS hS
         refine rl_callF rfl en78 rfl (ih F w752 Bb S2 (Nat.le_trans hB c711.size) (fun b h => Nat.lt_of_lt_of_le (h2 b h) c711.size) av0 hd755  y744 (hS756 ▸ h746) (IntKind.i64.wrap ((IntKind.u64.wrap (IntKind.i64.wrap (a1 + a3))).fdiv (2 ^ (min (Int.toNat 1) IntKind.u64.bits)))) (IntKind.i64.wrap ((IntKind.i64.wrap ((IntKind.i64.wrap ((IntKind.u64.wrap (IntKind.i64.wrap (a1 + a3))).fdiv (2 ^ (min (Int.toNat 1) IntKind.u64.bits)))) + a2)) - x636)) a3 a4 av4 ha757 y760 hy761) ?_
         rintro _ w758 ⟨rfl, h762, c759⟩
         rw [← hS756] at h762
         have c711 := c711.then c759 (fun i hi h => (lin0_0 i h).elim (fun x => x) (fun x => absurd x (Nat.not_le_of_lt hi)))
         refine RL.nil ?_
         obtain rfl := Option.some.inj hS
         exact ⟨[], trivial, ⟨rfl, h762, c711⟩⟩
        ·
         have hS := ifF q754 hS
         refine CW.skip ?_
         obtain rfl := Option.some.inj hS
         exact ⟨[], trivial, ⟨rfl, h746, c711⟩⟩
       ·
        have hS := ifF q738 hS
        refine CW.skip ?_
        refine thn_n ?_
        refine CW.seq (CW.region ?_)
        refine rl_move rfl rfl ?_
        refine rl_move rfl rfl ?_
        refine rl_bin rfl rfl B.lss rfl ?_
        refine rl_move rfl rfl ?_
        obtain ⟨b766, hb767⟩ : ∃ v, ((decide ((IntKind.i64.wrap ((IntKind.u64.wrap (IntKind.i64.wrap (a1 + a3))).fdiv (2 ^ (min (Int.toNat 1) IntKind.u64.bits)))) < (IntKind.i64.wrap ((IntKind.i64.wrap ((IntKind.i64.wrap ((IntKind.u64.wrap (IntKind.i64.wrap (a1 + a3))).fdiv (2 ^ (min (Int.toNat 1) IntKind.u64.bits)))) + a2)) - x636)))) && (decide ((IntKind.i64.wrap ((IntKind.i64.wrap ((IntKind.i64.wrap ((IntKind.u64.wrap (IntKind.i64.wrap (a1 + a3))).fdiv (2 ^ (min (Int.toNat 1) IntKind.u64.bits)))) + a2)) - x636)) < a3))) = v := ⟨_, rfl⟩
        have hS := ltS hb767 hS
        refine RL.join 4 213 (.bool b766) (fun w' => Ch nb w736 w') ?_ ?_
        · rcases Bool.eq_false_or_eq_true (decide ((IntKind.i64.wrap ((IntKind.u64.wrap (IntKind.i64.wrap (a1 + a3))).fdiv (2 ^ (min (Int.toNat 1) IntKind.u64.bits)))) < (IntKind.i64.wrap ((IntKind.i64.wrap ((IntKind.i64.wrap ((IntKind.u64.wrap (IntKind.i64.wrap (a1 + a3))).fdiv (2 ^ (min (Int.toNat 1) IntKind.u64.bits)))) + a2)) - x636)))) with hg765 | hg765
          ·
           have hs764 := and_t hg765 hb767
           have cs : Ch nb w736 w736 := Ch.refl
           refine RL.yes rfl rfl rfl hg765 ?_
           refine rl_move rfl rfl ?_
           refine RL.yes rfl rfl rfl hg765 ?_
           refine rl_move rfl rfl ?_
           refine RL.yes rfl rfl rfl hg765 ?_
           refine rl_bin rfl rfl B.lss rfl ?_
           refine rl_pickT rfl hg765 rfl rfl ?_
           exact RL.nil ⟨Ext.bothEq (congrArg Value.bool hs764) (Ext.skip rfl (Ext.skip rfl (Ext.skip rfl (Ext.rfl')))), cs⟩
          ·
           have hs764 := and_f hg765 hb767
           have cs : Ch nb w736 w736 := Ch.refl
           refine RL.no rfl rfl rfl hg765 rfl rfl ?_
           refine RL.no rfl rfl rfl hg765 rfl rfl ?_
           refine RL.no rfl rfl rfl hg765 rfl rfl ?_
           refine rl_pickF rfl hg765 rfl rfl ?_
           exact RL.nil ⟨Ext.bothEq (congrArg Value.bool hs764) (Ext.skip rfl (Ext.skip rfl (Ext.skip rfl (Ext.rfl')))), cs⟩
        intro w768 c769
        have ah4 := Kd.ch ah4 c769
        have h730 := h730.ch0 c769
        have c711 := c711.then0 c769
        refine RL.nil ?_
        refine thn_n ?_
        refine CW.cond (t := b766) rfl (fun q770 => ?_) (fun q770 => ?_)
        ·
         have hS := ifT q770 hS
         refine CW.region ?_
         refine rl_move rfl rfl ?_
         refine rl_move rfl rfl ?_
         refine rl_move rfl rfl ?_
         refine rl_move rfl rfl ?_
         refine rl_move rfl rfl ?_
         have hd771 : ∀ b, (inBlk av0) b → ¬ S2 b := fun b h => (fun b hb => linNot lin0_0 hd2 h2 b hb) b h
         have hS772 : (un (inBlk av0) S2) = (un (inBlk av0) S2) := rfl
         have ha773 := ah4
         rw [hS772] at ha773
         obtain ⟨y776, hy777, hS⟩ := bindS hS
         refine rl_callF rfl en78 rfl (ih F w768 Bb S2 (Nat.le_trans hB c711.size) (fun b h => Nat.lt_of_lt_of_le (h2 b h) c711.size) av0 hd771  y728 (hS772 ▸ h730) (IntKind.i64.wrap ((IntKind.u64.wrap (IntKind.i64.wrap (a1 + a3))).fdiv (2 ^ (min (Int.toNat 1) IntKind.u64.bits)))) (IntKind.i64.wrap ((IntKind.i64.wrap ((IntKind.i64.wrap ((IntKind.u64.wrap (IntKind.i64.wrap (a1 + a3))).fdiv (2 ^ (min (Int.toNat 1) IntKind.u64.bits)))) + a2)) - x636)) a3 a4 av4 ha773 y776 hy777) ?_
         rintro _ w774 ⟨rfl, h778, c775⟩
         rw [← hS772] at h778
         have c711 := c711.then c775 (fun i hi h => (lin0_0 i h).elim (fun x => x) (fun x => absurd x (Nat.not_le_of_lt hi)))
         refine RL.nil ?_
         obtain rfl := Option.some.inj hS
         exact ⟨[], trivial, ⟨rfl, h778, c711⟩⟩
        ·
         have hS := ifF q770 hS
         refine CW.skip ?_
         obtain rfl := Option.some.inj hS
         exact ⟨[], trivial, ⟨rfl, h730, c711⟩⟩
      ·
       have hS := ifF q722 hS
       refine CW.skip ?_
       refine thn_n ?_
       refine CW.seq ?_
       refine CW.seq (CW.region ?_)
       refine rl_move rfl rfl ?_
       refine rl_move rfl rfl ?_
       refine rl_bin rfl rfl B.lss rfl ?_
       refine rl_move rfl rfl ?_
       obtain ⟨b782, hb783⟩ : ∃ v, ((decide (a1 < x636)) && (decide (x636 < (IntKind.i64.wrap ((IntKind.u64.wrap (IntKind.i64.wrap (a1 + a3))).fdiv (2 ^ (min (Int.toNat 1) IntKind.u64.bits))))))) = v := ⟨_, rfl⟩
       have hS := ltS hb783 hS
       refine RL.join 4 199 (.bool b782) (fun w' => Ch nb w720 w') ?_ ?_
       · rcases Bool.eq_false_or_eq_true (decide (a1 < x636)) with hg781 | hg781
         ·
          have hs780 := and_t hg781 hb783
          have cs : Ch nb w720 w720 := Ch.refl
          refine RL.yes rfl rfl rfl hg781 ?_
          refine rl_move rfl rfl ?_
          refine RL.yes rfl rfl rfl hg781 ?_
          refine rl_move rfl rfl ?_
          refine RL.yes rfl rfl rfl hg781 ?_
          refine rl_bin rfl rfl B.lss rfl ?_
          refine rl_pickT rfl hg781 rfl rfl ?_
          exact RL.nil ⟨Ext.bothEq (congrArg Value.bool hs780) (Ext.skip rfl (Ext.skip rfl (Ext.skip rfl (Ext.rfl')))), cs⟩
         ·
          have hs780 := and_f hg781 hb783
          have cs : Ch nb w720 w720 := Ch.refl
          refine RL.no rfl rfl rfl hg781 rfl rfl ?_
          refine RL.no rfl rfl rfl hg781 rfl rfl ?_
          refine RL.no rfl rfl rfl hg781 rfl rfl ?_
          refine rl_pickF rfl hg781 rfl rfl ?_
          exact RL.nil ⟨Ext.bothEq (congrArg Value.bool hs780) (Ext.skip rfl (Ext.skip rfl (Ext.skip rfl (Ext.rfl')))), cs⟩
       intro w784 c785
       have ah0 := ah0.ch0 c785
       have ah4 := Kd.ch ah4 c785
       have c711 := c711.then0 c785
       refine RL.nil ?_
       refine thn_n ?_
       refine CW.cond (t := b782) rfl (fun q786 => ?_) (fun q786 => ?_)
       ·
        have hS := ifT q786 hS
        refine CW.region ?_
        refine rl_move rfl rfl ?_
        refine rl_move rfl rfl ?_
        refine rl_move rfl rfl ?_
        refine rl_move rfl rfl ?_
        refine rl_move rfl rfl ?_
        have hd787 : ∀ b, (inBlk av0) b → ¬ S2 b := fun b h => (fun b hb => linNot lin0_0 hd2 h2 b hb) b h
        have hS788 : (un (inBlk av0) S2) = (un (inBlk av0) S2) := rfl
        have ha789 := ah4
        rw [hS788] at ha789
        obtain ⟨y792, hy793, hS⟩ := bindS hS
        refine rl_callF rfl en78 rfl (ih F w784 Bb S2 (Nat.le_trans hB c711.size) (fun b h => Nat.lt_of_lt_of_le (h2 b h) c711.size) av0 hd787  a0 (hS788 ▸ ah0) a1 x636 (IntKind.i64.wrap ((IntKind.u64.wrap (IntKind.i64.wrap (a1 + a3))).fdiv (2 ^ (min (Int.toNat 1) IntKind.u64.bits)))) a4 av4 ha789 y792 hy793) ?_
        rintro _ w790 ⟨rfl, h794, c791⟩
        rw [← hS788] at h794
        have ad795 : ∀ b, b < w784.heap.size → ¬ (un (inBlk av0) S2) b → ¬ (inBlk av0) b ∧ ¬ (un (inBlk av0) S2) b := fun b _ hs => ⟨fun h => hs (.inl h), hs⟩
        have ah4 := Kd.st ah4 c791 ad795
        have c711 := c711.then c791 (fun i hi h => (lin0_0 i h).elim (fun x => x) (fun x => absurd x (Nat.not_le_of_lt hi)))
        refine RL.nil ?_
        refine thn_n ?_
        refine CW.seq (CW.region ?_)
        refine rl_move rfl rfl ?_
        refine rl_move rfl rfl ?_
        refine rl_bin rfl rfl B.lss rfl ?_
        refine rl_move rfl rfl ?_
        obtain ⟨b798, hb799⟩ : ∃ v, ((decide ((IntKind.i64.wrap ((IntKind.u64.wrap (IntKind.i64.wrap (a1 + a3))).fdiv (2 ^ (min (Int.toNat 1) IntKind.u64.bits)))) < (IntKind.i64.wrap ((IntKind.i64.wrap ((IntKind.i64.wrap ((IntKind.u64.wrap (IntKind.i64.wrap (a1 + a3))).fdiv (2 ^ (min (Int.toNat 1) IntKind.u64.bits)))) + a2)) - x636)))) && (decide ((IntKind.i64.wrap ((IntKind.i64.wrap ((IntKind.i64.wrap ((IntKind.u64.wrap (IntKind.i64.wrap (a1 + a3))).fdiv (2 ^ (min (Int.toNat 1) IntKind.u64.bits)))) + a2)) - x636)) < a3))) = v := ⟨_, rfl⟩
        have hS := ltS hb799 hS
        refine RL.join 4 213 (.bool b798) (fun w' => Ch nb w790 w') ?_ ?_
        · rcases Bool.eq_false_or_eq_true (decide ((IntKind.i64.wrap ((IntKind.u64.wrap (IntKind.i64.wrap (a1 + a3))).fdiv (2 ^ (min (Int.toNat 1) IntKind.u64.bits)))) < (IntKind.i64.wrap ((IntKind.i64.wrap ((IntKind.i64.wrap ((IntKind.u64.wrap (IntKind.i64.wrap (a1 + a3))).fdiv (2 ^ (min (Int.toNat 1) IntKind.u64.bits)))) + a2)) - x636)))) with hg797 | hg797
          ·
           have hs796 := and_t hg797 hb799
           have cs : Ch nb w790 w790 := Ch.refl
           refine RL.yes rfl rfl rfl hg797 ?_
           refine rl_move rfl rfl ?_
           refine RL.yes rfl rfl rfl hg797 ?_
           refine rl_move rfl rfl ?_
           refine RL.yes rfl rfl rfl hg797 ?_
           refine rl_bin rfl rfl B.lss rfl ?_
           refine rl_pickT rfl hg797 rfl rfl ?_
           exact RL.nil ⟨Ext.bothEq (congrArg Value.bool hs796) (Ext.skip rfl (Ext.skip rfl (Ext.skip rfl (Ext.rfl')))), cs⟩
          ·
           have hs796 := and_f hg797 hb799
           have cs : Ch nb w790 w790 := Ch.refl
           refine RL.no rfl rfl rfl hg797 rfl rfl ?_
           refine RL.no rfl rfl rfl hg797 rfl rfl ?_
           refine RL.no rfl rfl rfl hg797 rfl rfl ?_
           refine rl_pickF rfl hg797 rfl rfl ?_
           exact RL.nil ⟨Ext.bothEq (congrArg Value.bool hs796) (Ext.skip rfl (Ext.skip rfl (Ext.skip rfl (Ext.rfl')))), cs⟩
        intro w800 c801
        have ah4 := Kd.ch ah4 c801
        have h794 := h794.ch0 c801
        have c711 := c711.then0 c801
        refine RL.nil ?_
        refine thn_n ?_
        refine CW.cond (t := b798) rfl (fun q802 => ?_) (fun q802 => ?_)
        ·
         have hS := ifT q802 hS
         refine CW.region ?_
         refine rl_move rfl rfl ?_
         refine rl_move rfl rfl ?_
         refine rl_move rfl rfl ?_
         refine rl_move rfl rfl ?_
         refine rl_move rfl rfl ?_
         have hd803 : ∀ b, (inBlk av0) b → ¬ S2 b := fun b h => (fun b hb => linNot lin0_0 hd2 h2 b hb) b h
         have hS804 : (un (inBlk av0) S2) = (un (inBlk av0) S2) := rfl
         have ha805 := ah4
         rw [hS804] at ha805
         obtain ⟨y808, hy809, hS⟩ := bindS hS
         refine rl_callF rfl en78 rfl (ih F w800 Bb S2 (Nat.le_trans hB c711.size) (fun b h => Nat.lt_of_lt_of_le (h2 b h) c711.size) av0 hd803  y792 (hS804 ▸ h794) (IntKind.i64.wrap ((IntKind.u64.wrap (IntKind.i64.wrap (a1 + a3))).fdiv (2 ^ (min (Int.toNat 1) IntKind.u64.bits)))) (IntKind.i64.wrap ((IntKind.i64.wrap ((IntKind.i64.wrap ((IntKind.u64.wrap (IntKind.i64.wrap (a1 + a3))).fdiv (2 ^ (min (Int.toNat 1) IntKind.u64.bits)))) + a2)) - x636)) a3 a4 av4 ha805 y808 hy809) ?_
         rintro _ w806 ⟨rfl, h810, c807⟩
         rw [← hS804] at h810
         have c711 := c711.then c807 (fun i hi h => (lin0_0 i h).elim (fun x => x) (fun x => absurd x (Nat.not_le_of_lt hi)))
         refine RL.nil ?_
         obtain rfl := Option.some.inj hS
         exact ⟨[], trivial, ⟨rfl, h810, c711⟩⟩
        ·
         have hS := ifF q802 hS
         refine CW.skip ?_
         obtain rfl := Option.some.inj hS
         exact ⟨[], trivial, ⟨rfl, h794, c711⟩⟩
       ·
        have hS := ifF q786 hS
        refine CW.skip ?_
        refine thn_n ?_
        refine CW.seq (CW.region ?_)
        refine rl_move rfl rfl ?_
        refine rl_move rfl rfl ?_
        refine rl_bin rfl rfl B.lss rfl ?_
        refine rl_move rfl rfl ?_
        obtain ⟨b814, hb815⟩ : ∃ v, ((decide ((IntKind.i64.wrap ((IntKind.u64.wrap (IntKind.i64.wrap (a1 + a3))).fdiv (2 ^ (min (Int.toNat 1) IntKind.u64.bits)))) < (IntKind.i64.wrap ((IntKind.i64.wrap ((IntKind.i64.wrap ((IntKind.u64.wrap (IntKind.i64.wrap (a1 + a3))).fdiv (2 ^ (min (Int.toNat 1) IntKind.u64.bits)))) + a2)) - x636)))) && (decide ((IntKind.i64.wrap ((IntKind.i64.wrap ((IntKind.i64.wrap ((IntKind.u64.wrap (IntKind.i64.wrap (a1 + a3))).fdiv (2 ^ (min (Int.toNat 1) IntKind.u64.bits)))) + a2)) - x636)) < a3))) = v := ⟨_, rfl⟩
        have hS := ltS hb815 hS
        refine RL.join 4 213 (.bool b814) (fun w' => Ch nb w784 w') ?_ ?_
        · rcases Bool.eq_false_or_eq_true (decide ((IntKind.i64.wrap ((IntKind.u64.wrap (IntKind.i64.wrap (a1 + a3))).fdiv (2 ^ (min (Int.toNat 1) IntKind.u64.bits)))) < (IntKind.i64.wrap ((IntKind.i64.wrap ((IntKind.i64.wrap ((IntKind.u64.wrap (IntKind.i64.wrap (a1 + a3))).fdiv (2 ^ (min (Int.toNat 1) IntKind.u64.bits)))) + a2)) - x636)))) with hg813 | hg813
          ·
           have hs812 := and_t hg813 hb815
           have cs : Ch nb w784 w784 := Ch.refl
           refine RL.yes rfl rfl rfl hg813 ?_
           refine rl_move rfl rfl ?_
           refine RL.yes rfl rfl rfl hg813 ?_
           refine rl_move rfl rfl ?_
           refine RL.yes rfl rfl rfl hg813 ?_
           refine rl_bin rfl rfl B.lss rfl ?_
           refine rl_pickT rfl hg813 rfl rfl ?_
           exact RL.nil ⟨Ext.bothEq (congrArg Value.bool hs812) (Ext.skip rfl (Ext.skip rfl (Ext.skip rfl (Ext.rfl')))), cs⟩
          ·
           have hs812 := and_f hg813 hb815
           have cs : Ch nb w784 w784 := Ch.refl
           refine RL.no rfl rfl rfl hg813 rfl rfl ?_
           refine RL.no rfl rfl rfl hg813 rfl rfl ?_
           refine RL.no rfl rfl rfl hg813 rfl rfl ?_
           refine rl_pickF rfl hg813 rfl rfl ?_
           exact RL.nil ⟨Ext.bothEq (congrArg Value.bool hs812) (Ext.skip rfl (Ext.skip rfl (Ext.skip rfl (Ext.rfl')))), cs⟩
        intro w816 c817
        have ah0 := ah0.ch0 c817
        have ah4 := Kd.ch ah4 c817
        have c711 := c711.then0 c817
        refine RL.nil ?_
        refine thn_n ?_
        refine CW.cond (t := b814) rfl (fun q818 => ?_) (fun q818 => ?_)
        ·
         have hS := ifT q818 hS
         refine CW.region ?_
         refine rl_move rfl rfl ?_
         refine rl_move rfl rfl ?_
         refine rl_move rfl rfl ?_
         refine rl_move rfl rfl ?_
         refine rl_move rfl rfl ?_
         have hd819 : ∀ b, (inBlk av0) b → ¬ S2 b := fun b h => (fun b hb => linNot lin0_0 hd2 h2 b hb) b h
         have hS820 : (un (inBlk av0) S2) = (un (inBlk av0) S2) := rfl
         have ha821 := ah4
         rw [hS820] at ha821
         obtain ⟨y824, hy825, hS⟩ := bindS hS
         refine rl_callF rfl en78 rfl (ih F w816 Bb S2 (Nat.le_trans hB c711.size) (fun b h => Nat.lt_of_lt_of_le (h2 b h) c711.size) av0 hd819  a0 (hS820 ▸ ah0) (IntKind.i64.wrap ((IntKind.u64.wrap (IntKind.i64.wrap (a1 + a3))).fdiv (2 ^ (min (Int.toNat 1) IntKind.u64.bits)))) (IntKind.i64.wrap ((IntKind.i64.wrap ((IntKind.i64.wrap ((IntKind.u64.wrap (IntKind.i64.wrap (a1 + a3))).fdiv (2 ^ (min (Int.toNat 1) IntKind.u64.bits)))) + a2)) - x636)) a3 a4 av4 ha821 y824 hy825) ?_
         rintro _ w822 ⟨rfl, h826, c823⟩
         rw [← hS820] at h826
         have c711 := c711.then c823 (fun i hi h => (lin0_0 i h).elim (fun x => x) (fun x => absurd x (Nat.not_le_of_lt hi)))
         refine RL.nil ?_
         obtain rfl := Option.some.inj hS
         exact ⟨[], trivial, ⟨rfl, h826, c711⟩⟩
        ·
         have hS := ifF q818 hS
         refine CW.skip ?_
         obtain rfl := Option.some.inj hS
         exact ⟨[], trivial, ⟨rfl, ah0, c711⟩⟩
theorem ctr78_at : ∀ (f : Nat), ∀ (F : Nat → Prop) (w : World) (Bb : Nat) (S2 : Nat → Prop) (hB : Bb ≤ w.heap.size) (h2 : ∀ b, S2 b → b < w.heap.size) (av0 : Value) (hd2 : ∀ b, (inBlk av0) b → ¬ S2 b) (a0 : (List Group)) (ah0 : SlO k_Group 50 F Bb (un (inBlk av0) S2) w a0 av0) (a1 : Int) (a2 : Int) (a3 : Int) (a4 : (Group → Group → Int)) (av4 : Value) (ah4 : (Kd.fn2 Tryz.prog true true k_Group k_Group (Value.int .i64)).rep (G F Bb (un (inBlk av0) S2)) w a4 [av4]) (r : (List Group)) (hs : F78_slices_symMergeCmpFunc_resolve_Group_at f a0 a1 a2 a3 a4 = some r), Ret Tryz.prog 78 #[av0, (Value.int .i64 a1), (Value.int .i64 a2), (Value.int .i64 a3), av4] w fun v w' => v = Value.tuple #[] ∧ SlO k_Group 50 F Bb (un (inBlk av0) S2) w' r av0 ∧ Ch (inBlk av0) w w'
  | 0 => fun F w Bb S2 hB h2 av0 hd2 a0 ah0 a1 a2 a3 a4 av4 ah4 r hs => by simp [F78_slices_symMergeCmpFunc_resolve_Group_at] at hs
  | f + 1 => fun F w Bb S2 hB h2 av0 hd2 a0 ah0 a1 a2 a3 a4 av4 ah4 r hs => ctr78_step (F78_slices_symMergeCmpFunc_resolve_Group_at f) (ctr78_at f) F w Bb S2 hB h2 av0 hd2 a0 ah0 a1 a2 a3 a4 av4 ah4 r hs
theorem ctr78 (F : Nat → Prop) (w : World) (Bb : Nat) (S2 : Nat → Prop) (hB : Bb ≤ w.heap.size) (h2 : ∀ b, S2 b → b < w.heap.size) (av0 : Value) (hd2 : ∀ b, (inBlk av0) b → ¬ S2 b) (a0 : (List Group)) (ah0 : SlO k_Group 50 F Bb (un (inBlk av0) S2) w a0 av0) (a1 : Int) (a2 : Int) (a3 : Int) (a4 : (Group → Group → Int)) (av4 : Value) (ah4 : (Kd.fn2 Tryz.prog true true k_Group k_Group (Value.int .i64)).rep (G F Bb (un (inBlk av0) S2)) w a4 [av4]) (r : (List Group)) (hs : F78_slices_symMergeCmpFunc_resolve_Group a0 a1 a2 a3 a4 = some r) : Ret Tryz.prog 78 #[av0, (Value.int .i64 a1), (Value.int .i64 a2), (Value.int .i64 a3), av4] w fun v w' => v = Value.tuple #[] ∧ SlO k_Group 50 F Bb (un (inBlk av0) S2) w' r av0 ∧ Ch (inBlk av0) w w' := ctr78_at 64 F w Bb S2 hB h2 av0 hd2 a0 ah0 a1 a2 a3 a4 av4 ah4 r hs
/-- slices.stableCmpFunc[lb/resolve.Group] -/
theorem ctr50 (F : Nat → Prop) (w : World) (Bb : Nat) (S2 : Nat → Prop) (hB : Bb ≤ w.heap.size) (h2 : ∀ b, S2 b → b < w.heap.size) (av0 : Value) (hd2 : ∀ b, (inBlk av0) b → ¬ S2 b) (a0 : (List Group)) (ah0 : SlO k_Group 50 F Bb (un (inBlk av0) S2) w a0 av0) (a1 : Int) (a2 : (Group → Group → Int)) (av2 : Value) (ah2 : (Kd.fn2 Tryz.prog true true k_Group k_Group (Value.int .i64)).rep (G F Bb (un (inBlk av0) S2)) w a2 [av2]) (r : (List Group)) (hs : F50_slices_stableCmpFunc_resolve_Group a0 a1 a2 = some r) :
    Ret Tryz.prog 50 #[av0, (Value.int .i64 a1), av2] w fun v w' => v = Value.tuple #[] ∧ SlO k_Group 50 F Bb (un (inBlk av0) S2) w' r av0 ∧ Ch (inBlk av0) w w' := by
  have hS := hs
  have c0 : Ch (inBlk av0) w w := Ch.refl
  have lin0_0 : ∀ b, inBlk av0 b → (inBlk av0) b ∨ w.heap.size ≤ b := fun b h => .inl h
  refine Ret.of (n := 63) (args := [_, _, _]) (rs := []) Tryz.func50 rfl rfl rfl rfl ?_
  refine CW.seq (CW.region ?_)
  refine rl_assign rfl rfl ?_
  refine RL.nil ?_
  refine thn_n ?_
  refine CW.seq (CW.region ?_)
  refine rl_move rfl rfl ?_
  refine rl_assign rfl rfl ?_
  refine rl_assign rfl rfl ?_
  refine RL.nil ?_
  refine thn_n ?_
  refine CW.seq ?_
  obtain ⟨o12, ho13, hS⟩ := bindS hS
  refine CW.cutB (fun E' w' => ∃ (x1 : Int) (x2 : Int) (x3 : (List Group)), Sub [(0, av0), (1, (Value.int .i64 a1)), (2, av2), (6, (Value.int .i64 20)), (7, (Value.int .i64 x1))] E' ∧ Ch (inBlk av0) w w' ∧ Lp.fin (x1, x2, x3) = o12 ∧ (Kd.fn2 Tryz.prog true true k_Group k_Group (Value.int .i64)).rep (G F Bb (un (inBlk av0) S2)) w' a2 [av2] ∧ SlO k_Group 50 F Bb (un (inBlk av0) S2) w' x3 av0) ?_ ?_
  ·
   refine CW.loopS [(0, av0), (1, (Value.int .i64 a1)), (2, av2), (6, (Value.int .i64 20)), (7, (Value.int .i64 0)), (8, (Value.int .i64 20))] ⟨rfl, rfl, rfl, rfl, rfl, rfl, trivial⟩ FUEL (fun m E w' => ∃ (x1 : Int) (x2 : Int) (x3 : (List Group)), E = [(0, av0), (1, (Value.int .i64 a1)), (2, av2), (6, (Value.int .i64 20)), (7, (Value.int .i64 x1)), (8, (Value.int .i64 x2))] ∧ Ch (inBlk av0) w w' ∧ runW (F50_slices_stableCmpFunc_resolve_Group_b1 a1 a2) m (x1, x2, x3) = some o12 ∧ (Kd.fn2 Tryz.prog true true k_Group k_Group (Value.int .i64)).rep (G F Bb (un (inBlk av0) S2)) w' a2 [av2] ∧ SlO k_Group 50 F Bb (un (inBlk av0) S2) w' x3 av0)
       ⟨0, 20, a0, rfl, c0, ho13, ah2, ah0⟩ ?_
   rintro _ _ w18 ⟨x1, x2, x3, rfl, c17, hL7, ah2, h4⟩
   obtain ⟨k16, q9, rfl, hq10⟩ := runW_some hL7
   have hb11 := hq10
   refine CW.seq ?_
   refine CW.seq (CW.region ?_)
   refine rl_move rfl rfl ?_
   refine rl_move rfl rfl ?_
   refine rl_bin rfl rfl B.leq rfl ?_
   refine RL.nil ?_
   refine thn_n ?_
   refine CW.cond (t := decide (x2 ≤ a1)) rfl (fun q20 => ?_) (fun q20 => ?_)
   ·
    have hb11 := ifT q20 hb11
    refine CW.skip ?_
    refine thn_n ?_
    refine CW.block ?_
    refine CW.seq (CW.region ?_)
    refine rl_move rfl rfl ?_
    refine rl_move rfl rfl ?_
    refine rl_move rfl rfl ?_
    refine rl_move rfl rfl ?_
    have hd21 : ∀ b, (inBlk av0) b → ¬ S2 b := fun b h => (fun b hb => linNot lin0_0 hd2 h2 b hb) b h
    have hS22 : (un (inBlk av0) S2) = (un (inBlk av0) S2) := rfl
    have ha23 := ah2
    rw [hS22] at ha23
    obtain ⟨y26, hy27, hb11⟩ := bindS hb11
    refine rl_callF rfl en77 rfl (ctr77 F w18 Bb S2 (Nat.le_trans hB c17.size) (fun b h => Nat.lt_of_lt_of_le (h2 b h) c17.size) av0 hd21  x3 (hS22 ▸ h4) x1 x2 a2 av2 ha23 y26 hy27) ?_
    rintro _ w24 ⟨rfl, h28, c25⟩
    rw [← hS22] at h28
    have ad29 : ∀ b, b < w18.heap.size → ¬ (un (inBlk av0) S2) b → ¬ (inBlk av0) b ∧ ¬ (un (inBlk av0) S2) b := fun b _ hs => ⟨fun h => hs (.inl h), hs⟩
    have ah2 := Kd.st ah2 c25 ad29
    have c17 := c17.then c25 (fun i hi h => (lin0_0 i h).elim (fun x => x) (fun x => absurd x (Nat.not_le_of_lt hi)))
    refine RL.nil ?_
    refine thn_n ?_
    refine CW.seq (CW.region ?_)
    refine rl_move rfl rfl ?_
    refine rl_assign rfl rfl ?_
    refine RL.nil ?_
    refine thn_n ?_
    refine CW.region ?_
    refine rl_move rfl rfl ?_
    refine rl_move rfl rfl ?_
    refine rl_bin rfl rfl B.add rfl ?_
    refine rl_assign rfl rfl ?_
    refine RL.nil ?_
    refine inB_n ?_
    refine thn_n ?_
    have hLn := runW_next hL7 hq10 hb11
    exact ⟨k16, Nat.lt_succ_self _, [(0, av0), (1, (Value.int .i64 a1)), (2, av2), (6, (Value.int .i64 20)), (7, (Value.int .i64 x2)), (8, (Value.int .i64 (IntKind.i64.wrap (x2 + 20))))], ⟨rfl, rfl, rfl, rfl, rfl, rfl, trivial⟩, ⟨x2, IntKind.i64.wrap (x2 + 20), y26, rfl, c17, hLn, ah2, h28⟩⟩
   ·
    have hb11 := ifF q20 hb11
    refine CW.exit ?_
    refine thn_exit ?_
    refine thn_exit ?_
    refine inB_hit ?_
    have hLf := runW_fin hL7 hq10 hb11
    exact ⟨x1, x2, x3, ⟨rfl, rfl, rfl, rfl, rfl, trivial⟩, c17, hLf, ah2, h4⟩
  ·
   rintro _ w31 ⟨x1, x2, x3, hE32, c30, f33, ah2, h4⟩
   have hS := finS f33 hS
   refine thn_n (CW.sub [(0, av0), (1, (Value.int .i64 a1)), (2, av2), (6, (Value.int .i64 20)), (7, (Value.int .i64 x1))] hE32 ?_)
   refine CW.seq (CW.region ?_)
   refine rl_move rfl rfl ?_
   refine rl_move rfl rfl ?_
   refine rl_move rfl rfl ?_
   refine rl_move rfl rfl ?_
   have hd35 : ∀ b, (inBlk av0) b → ¬ S2 b := fun b h => (fun b hb => linNot lin0_0 hd2 h2 b hb) b h
   have hS36 : (un (inBlk av0) S2) = (un (inBlk av0) S2) := rfl
   have ha37 := ah2
   rw [hS36] at ha37
   obtain ⟨y40, hy41, hS⟩ := bindS hS
   refine rl_callF rfl en77 rfl (ctr77 F w31 Bb S2 (Nat.le_trans hB c30.size) (fun b h => Nat.lt_of_lt_of_le (h2 b h) c30.size) av0 hd35  x3 (hS36 ▸ h4) x1 a1 a2 av2 ha37 y40 hy41) ?_
   rintro _ w38 ⟨rfl, h42, c39⟩
   rw [← hS36] at h42
   have ad43 : ∀ b, b < w31.heap.size → ¬ (un (inBlk av0) S2) b → ¬ (inBlk av0) b ∧ ¬ (un (inBlk av0) S2) b := fun b _ hs => ⟨fun h => hs (.inl h), hs⟩
   have ah2 := Kd.st ah2 c39 ad43
   have c30 := c30.then c39 (fun i hi h => (lin0_0 i h).elim (fun x => x) (fun x => absurd x (Nat.not_le_of_lt hi)))
   refine RL.nil ?_
   refine thn_n ?_
   obtain ⟨o54, ho55, hS⟩ := bindS hS
   refine CW.cutB (fun E' w' => ∃ (x44 : Int) (x45 : (List Group)), Sub [] E' ∧ Ch (inBlk av0) w w' ∧ Lp.fin (x44, x45) = o54 ∧ (Kd.fn2 Tryz.prog true true k_Group k_Group (Value.int .i64)).rep (G F Bb (un (inBlk av0) S2)) w' a2 [av2] ∧ SlO k_Group 50 F Bb (un (inBlk av0) S2) w' x45 av0) ?_ ?_
   ·
    refine CW.loopS [(0, av0), (1, (Value.int .i64 a1)), (2, av2), (6, (Value.int .i64 20))] ⟨rfl, rfl, rfl, rfl, trivial⟩ FUEL (fun m E w' => ∃ (x44 : Int) (x45 : (List Group)), E = [(0, av0), (1, (Value.int .i64 a1)), (2, av2), (6, (Value.int .i64 x44))] ∧ Ch (inBlk av0) w w' ∧ runW (F50_slices_stableCmpFunc_resolve_Group_b2 a1 a2) m (x44, x45) = some o54 ∧ (Kd.fn2 Tryz.prog true true k_Group k_Group (Value.int .i64)).rep (G F Bb (un (inBlk av0) S2)) w' a2 [av2] ∧ SlO k_Group 50 F Bb (un (inBlk av0) S2) w' x45 av0)
        ⟨20, y40, rfl, c30, ho55, ah2, h42⟩ ?_
    rintro _ _ w60 ⟨x44, x45, rfl, c59, hL49, ah2, h46⟩
    obtain ⟨k58, q51, rfl, hq52⟩ := runW_some hL49
    have hb53 := hq52
    refine CW.seq ?_
    refine CW.seq (CW.region ?_)
    refine rl_move rfl rfl ?_
    refine rl_move rfl rfl ?_
    refine rl_bin rfl rfl B.lss rfl ?_
    refine RL.nil ?_
    refine thn_n ?_
    refine CW.cond (t := decide (x44 < a1)) rfl (fun q62 => ?_) (fun q62 => ?_)
    ·
     have hb53 := ifT q62 hb53
     refine CW.skip ?_
     refine thn_n ?_
     refine CW.block ?_
     refine CW.seq (CW.region ?_)
     refine rl_move rfl rfl ?_
     refine rl_bin rfl rfl B.mul rfl ?_
     refine rl_assign rfl rfl ?_
     refine rl_assign rfl rfl ?_
     refine RL.nil ?_
     refine thn_n ?_
     refine CW.seq ?_
     obtain ⟨o74, ho75, hb53⟩ := bindS hb53
     refine CW.cutB (fun E' w' => ∃ (x63 : Int) (x64 : Int) (x65 : (List Group)), Sub [(0, av0), (1, (Value.int .i64 a1)), (2, av2), (6, (Value.int .i64 x44)), (7, (Value.int .i64 x63))] E' ∧ Ch (inBlk av0) w w' ∧ Lp.fin (x63, x64, x65) = o74 ∧ (Kd.fn2 Tryz.prog true true k_Group k_Group (Value.int .i64)).rep (G F Bb (un (inBlk av0) S2)) w' a2 [av2] ∧ SlO k_Group 50 F Bb (un (inBlk av0) S2) w' x65 av0) ?_ ?_
     ·
      refine CW.loopS [(0, av0), (1, (Value.int .i64 a1)), (2, av2), (6, (Value.int .i64 x44)), (7, (Value.int .i64 0)), (8, (Value.int .i64 (IntKind.i64.wrap (2 * x44))))] ⟨rfl, rfl, rfl, rfl, rfl, rfl, trivial⟩ FUEL (fun m E w' => ∃ (x63 : Int) (x64 : Int) (x65 : (List Group)), E = [(0, av0), (1, (Value.int .i64 a1)), (2, av2), (6, (Value.int .i64 x44)), (7, (Value.int .i64 x63)), (8, (Value.int .i64 x64))] ∧ Ch (inBlk av0) w w' ∧ runW (F50_slices_stableCmpFunc_resolve_Group_b3 a1 a2 x44) m (x63, x64, x65) = some o74 ∧ (Kd.fn2 Tryz.prog true true k_Group k_Group (Value.int .i64)).rep (G F Bb (un (inBlk av0) S2)) w' a2 [av2] ∧ SlO k_Group 50 F Bb (un (inBlk av0) S2) w' x65 av0)
          ⟨0, IntKind.i64.wrap (2 * x44), x45, rfl, c59, ho75, ah2, h46⟩ ?_
      rintro _ _ w80 ⟨x63, x64, x65, rfl, c79, hL69, ah2, h66⟩
      obtain ⟨k78, q71, rfl, hq72⟩ := runW_some hL69
      have hb73 := hq72
      refine CW.seq ?_
      refine CW.seq (CW.region ?_)
      refine rl_move rfl rfl ?_
      refine rl_move rfl rfl ?_
      refine rl_bin rfl rfl B.leq rfl ?_
      refine RL.nil ?_
      refine thn_n ?_
      refine CW.cond (t := decide (x64 ≤ a1)) rfl (fun q82 => ?_) (fun q82 => ?_)
      ·
       have hb73 := ifT q82 hb73
       refine CW.skip ?_
       refine thn_n ?_
       refine CW.block ?_
       refine CW.seq (CW.region ?_)
       refine rl_move rfl rfl ?_
       refine rl_move rfl rfl ?_
       refine rl_move rfl rfl ?_
       refine rl_move rfl rfl ?_
       refine rl_bin rfl rfl B.add rfl ?_
       refine rl_move rfl rfl ?_
       refine rl_move rfl rfl ?_
       have hd83 : ∀ b, (inBlk av0) b → ¬ S2 b := fun b h => (fun b hb => linNot lin0_0 hd2 h2 b hb) b h
       have hS84 : (un (inBlk av0) S2) = (un (inBlk av0) S2) := rfl
       have ha85 := ah2
       rw [hS84] at ha85
       obtain ⟨y88, hy89, hb73⟩ := bindS hb73
       refine rl_callF rfl en78 rfl (ctr78 F w80 Bb S2 (Nat.le_trans hB c79.size) (fun b h => Nat.lt_of_lt_of_le (h2 b h) c79.size) av0 hd83  x65 (hS84 ▸ h66) x63 (IntKind.i64.wrap (x63 + x44)) x64 a2 av2 ha85 y88 hy89) ?_
       rintro _ w86 ⟨rfl, h90, c87⟩
       rw [← hS84] at h90
       have ad91 : ∀ b, b < w80.heap.size → ¬ (un (inBlk av0) S2) b → ¬ (inBlk av0) b ∧ ¬ (un (inBlk av0) S2) b := fun b _ hs => ⟨fun h => hs (.inl h), hs⟩
       have ah2 := Kd.st ah2 c87 ad91
       have c79 := c79.then c87 (fun i hi h => (lin0_0 i h).elim (fun x => x) (fun x => absurd x (Nat.not_le_of_lt hi)))
       refine RL.nil ?_
       refine thn_n ?_
       refine CW.seq (CW.region ?_)
       refine rl_move rfl rfl ?_
       refine rl_assign rfl rfl ?_
       refine RL.nil ?_
       refine thn_n ?_
       refine CW.region ?_
       refine rl_move rfl rfl ?_
       refine rl_move rfl rfl ?_
       refine rl_bin rfl rfl B.mul rfl ?_
       refine rl_bin rfl rfl B.add rfl ?_
       refine rl_assign rfl rfl ?_
       refine RL.nil ?_
       refine inB_n ?_
       refine thn_n ?_
       have hLn := runW_next hL69 hq72 hb73
       exact ⟨k78, Nat.lt_succ_self _, [(0, av0), (1, (Value.int .i64 a1)), (2, av2), (6, (Value.int .i64 x44)), (7, (Value.int .i64 x64)), (8, (Value.int .i64 (IntKind.i64.wrap (x64 + (IntKind.i64.wrap (2 * x44))))))], ⟨rfl, rfl, rfl, rfl, rfl, rfl, trivial⟩, ⟨x64, IntKind.i64.wrap (x64 + (IntKind.i64.wrap (2 * x44))), y88, rfl, c79, hLn, ah2, h90⟩⟩
      ·
       have hb73 := ifF q82 hb73
       refine CW.exit ?_
       refine thn_exit ?_
       refine thn_exit ?_
       refine inB_hit ?_
       have hLf := runW_fin hL69 hq72 hb73
       exact ⟨x63, x64, x65, ⟨rfl, rfl, rfl, rfl, rfl, trivial⟩, c79, hLf, ah2, h66⟩
     ·
      rintro _ w93 ⟨x63, x64, x65, hE94, c92, f95, ah2, h66⟩
      have hb53 := finS f95 hb53
      refine thn_n (CW.sub [(0, av0), (1, (Value.int .i64 a1)), (2, av2), (6, (Value.int .i64 x44)), (7, (Value.int .i64 x63))] hE94 ?_)
      refine CW.seq ?_
      refine CW.seq (CW.region ?_)
      refine rl_move rfl rfl ?_
      refine rl_move rfl rfl ?_
      refine rl_bin rfl rfl B.add rfl ?_
      refine rl_assign rfl rfl ?_
      refine RL.nil ?_
      refine thn_n ?_
      refine CW.seq (CW.region ?_)
      refine rl_move rfl rfl ?_
      refine rl_move rfl rfl ?_
      refine rl_bin rfl rfl B.lss rfl ?_
      refine RL.nil ?_
      refine thn_n ?_
      refine CW.cond (t := decide ((IntKind.i64.wrap (x63 + x44)) < a1)) rfl (fun q97 => ?_) (fun q97 => ?_)
      ·
       have hb53 := ifT q97 hb53
       refine CW.region ?_
       refine rl_move rfl rfl ?_
       refine rl_move rfl rfl ?_
       refine rl_move rfl rfl ?_
       refine rl_move rfl rfl ?_
       refine rl_move rfl rfl ?_
       have hd98 : ∀ b, (inBlk av0) b → ¬ S2 b := fun b h => (fun b hb => linNot lin0_0 hd2 h2 b hb) b h
       have hS99 : (un (inBlk av0) S2) = (un (inBlk av0) S2) := rfl
       have ha100 := ah2
       rw [hS99] at ha100
       obtain ⟨y103, hy104, hb53⟩ := bindS hb53
       refine rl_callF rfl en78 rfl (ctr78 F w93 Bb S2 (Nat.le_trans hB c92.size) (fun b h => Nat.lt_of_lt_of_le (h2 b h) c92.size) av0 hd98  x65 (hS99 ▸ h66) x63 (IntKind.i64.wrap (x63 + x44)) a1 a2 av2 ha100 y103 hy104) ?_
       rintro _ w101 ⟨rfl, h105, c102⟩
       rw [← hS99] at h105
       have ad106 : ∀ b, b < w93.heap.size → ¬ (un (inBlk av0) S2) b → ¬ (inBlk av0) b ∧ ¬ (un (inBlk av0) S2) b := fun b _ hs => ⟨fun h => hs (.inl h), hs⟩
       have ah2 := Kd.st ah2 c102 ad106
       have c92 := c92.then c102 (fun i hi h => (lin0_0 i h).elim (fun x => x) (fun x => absurd x (Nat.not_le_of_lt hi)))
       refine RL.nil ?_
       refine thn_n ?_
       refine CW.region ?_
       refine rl_move rfl rfl ?_
       refine rl_bin rfl rfl B.mul rfl ?_
       refine rl_assign rfl rfl ?_
       refine RL.nil ?_
       refine inB_n ?_
       refine thn_n ?_
       have hLn := runW_next hL49 hq52 hb53
       exact ⟨k58, Nat.lt_succ_self _, [(0, av0), (1, (Value.int .i64 a1)), (2, av2), (6, (Value.int .i64 (IntKind.i64.wrap (x44 * 2))))], ⟨rfl, rfl, rfl, rfl, trivial⟩, ⟨IntKind.i64.wrap (x44 * 2), y103, rfl, c92, hLn, ah2, h105⟩⟩
      ·
       have hb53 := ifF q97 hb53
       refine CW.skip ?_
       refine thn_n ?_
       refine CW.region ?_
       refine rl_move rfl rfl ?_
       refine rl_bin rfl rfl B.mul rfl ?_
       refine rl_assign rfl rfl ?_
       refine RL.nil ?_
       refine inB_n ?_
       refine thn_n ?_
       have hLn := runW_next hL49 hq52 hb53
       exact ⟨k58, Nat.lt_succ_self _, [(0, av0), (1, (Value.int .i64 a1)), (2, av2), (6, (Value.int .i64 (IntKind.i64.wrap (x44 * 2))))], ⟨rfl, rfl, rfl, rfl, trivial⟩, ⟨IntKind.i64.wrap (x44 * 2), x65, rfl, c92, hLn, ah2, h66⟩⟩
    ·
     have hb53 := ifF q62 hb53
     refine CW.exit ?_
     refine thn_exit ?_
     refine thn_exit ?_
     refine inB_hit ?_
     have hLf := runW_fin hL49 hq52 hb53
     exact ⟨x44, x45, trivial, c59, hLf, ah2, h46⟩
   ·
    rintro _ w108 ⟨x44, x45, hE109, c107, f110, ah2, h46⟩
    have hS := finS f110 hS
    obtain rfl := Option.some.inj hS
    exact ⟨[], trivial, ⟨rfl, h46, c107⟩⟩
/-- slices.SortStableFunc[[]lb/resolve.Group,lb/resolve.Group] -/
theorem ctr28 (F : Nat → Prop) (w : World) (Bb : Nat) (S2 : Nat → Prop) (hB : Bb ≤ w.heap.size) (h2 : ∀ b, S2 b → b < w.heap.size) (av0 : Value) (hd2 : ∀ b, (inBlk av0) b → ¬ S2 b) (a0 : (List Group)) (ah0 : SlO k_Group 50 F Bb (un (inBlk av0) S2) w a0 av0) (a1 : (Group → Group → Int)) (av1 : Value) (ah1 : (Kd.fn2 Tryz.prog true true k_Group k_Group (Value.int .i64)).rep (G F Bb (un (inBlk av0) S2)) w a1 [av1]) (r : (List Group)) (hs : F28_slices_SortStableFunc_resolve_Group_reso a0 a1 = some r) :
    Ret Tryz.prog 28 #[av0, av1] w fun v w' => v = Value.tuple #[] ∧ SlO k_Group 50 F Bb (un (inBlk av0) S2) w' r av0 ∧ Ch (inBlk av0) w w' := by
  have hS := hs
  have c0 : Ch (inBlk av0) w w := Ch.refl
  have lin0_0 : ∀ b, inBlk av0 b → (inBlk av0) b ∨ w.heap.size ≤ b := fun b h => .inl h
  refine Ret.of (n := 9) (args := [_, _]) (rs := []) Tryz.func28 rfl rfl rfl rfl ?_
  refine CW.region ?_
  refine rl_move rfl rfl ?_
  refine rl_move rfl rfl ?_
  refine rl_lenR rfl (SlO.read (S' := S2) k_Group_pos ah0 (fun b hs h => hs ((.inr h))) (fun b hb => linNot lin0_0 hd2 h2 b hb)) Tryz.underlying37 rfl ?_
  refine rl_move rfl rfl ?_
  have hd1 : ∀ b, (inBlk av0) b → ¬ S2 b := fun b h => (fun b hb => linNot lin0_0 hd2 h2 b hb) b h
  have hS2 : (un (inBlk av0) S2) = (un (inBlk av0) S2) := rfl
  have ha3 := ah1
  rw [hS2] at ha3
  obtain ⟨y6, hy7, hS⟩ := bindS hS
  refine rl_callF rfl en50 rfl (ctr50 F w Bb S2 (Nat.le_trans hB c0.size) (fun b h => Nat.lt_of_lt_of_le (h2 b h) c0.size) av0 hd1  a0 (hS2 ▸ ah0) ((a0.length : Nat) : Int) a1 av1 ha3 y6 hy7) ?_
  rintro _ w4 ⟨rfl, h8, c5⟩
  rw [← hS2] at h8
  have c0 := c0.then c5 (fun i hi h => (lin0_0 i h).elim (fun x => x) (fun x => absurd x (Nat.not_le_of_lt hi)))
  refine RL.nil ?_
  obtain rfl := Option.some.inj hS
  exact ⟨[], trivial, ⟨rfl, h8, c0⟩⟩
/-- (lb/resolve.Group).rank -/
theorem ctr54 (F : Nat → Prop) (w : World) (a0 : Group) (az0_0 : Value) (ah0_0 : slRep k_Point F w a0.points az0_0) (r : Int) (hs : F54_resolve_Group_rank a0 = r) :
    Ret Tryz.prog 54 #[(Value.agg (Group.c a0 az0_0).toArray)] w fun v w' => v = (Value.int .i64 r) ∧ Ch nb w w' := by
  have hS := hs
  have c0 : Ch nb w w := Ch.refl
  refine Ret.of (n := 13) (args := [_]) (rs := [.tmp 2]) Tryz.func54 rfl rfl rfl rfl ?_
  refine CW.seq (CW.region ?_)
  refine rl_boxA (cs := (Group.c a0 az0_0)) rfl rfl ?_
  intro p1 w2 n3 k4
  have c0 := c0.then0 n3.ch
  refine rl_assign rfl rfl ?_
  refine RL.nil ?_
  refine thn_n ?_
  refine CW.seq (CW.region ?_)
  refine rl_assign rfl rfl ?_
  refine RL.nil ?_
  refine thn_n ?_
  refine CW.seq ?_
  refine CW.seq (CW.region ?_)
  refine rl_fieldAddr rfl fa50_2 rfl ?_
  refine rl_loadS (v := (Value.bool a0.six)) rfl Tryz.isAgg4 (k4.cell rfl) rfl ?_
  refine RL.nil ?_
  refine thn_n ?_
  refine CW.cond (t := a0.six) rfl (fun q5 => ?_) (fun q5 => ?_)
  ·
   have hS := ifT q5 hS
   refine CW.region ?_
   refine rl_move rfl rfl ?_
   refine rl_bin rfl rfl B.add rfl ?_
   refine rl_assign rfl rfl ?_
   refine RL.nil ?_
   refine thn_n ?_
   refine CW.seq ?_
   refine CW.seq (CW.region ?_)
   refine rl_fieldAddr rfl fa50_3 rfl ?_
   refine rl_loadS (v := (Value.bool a0.localF)) rfl Tryz.isAgg4 (k4.cell rfl) rfl ?_
   refine RL.nil ?_
   refine thn_n ?_
   refine CW.cond (t := a0.localF) rfl (fun q6 => ?_) (fun q6 => ?_)
   ·
    have hS := ifT q6 hS
    refine CW.region ?_
    refine rl_move rfl rfl ?_
    refine rl_bin rfl rfl B.add rfl ?_
    refine rl_assign rfl rfl ?_
    refine RL.nil ?_
    refine thn_n ?_
    refine CW.seq (CW.region ?_)
    refine rl_move rfl rfl ?_
    refine rl_assign rfl rfl ?_
    refine RL.nil ?_
    refine thn_n ?_
    refine CW.ret ?_
    obtain rfl := hS
    exact ret1 rfl ⟨rfl, c0⟩
   ·
    have hS := ifF q6 hS
    refine CW.skip ?_
    refine thn_n ?_
    refine CW.seq (CW.region ?_)
    refine rl_move rfl rfl ?_
    refine rl_assign rfl rfl ?_
    refine RL.nil ?_
    refine thn_n ?_
    refine CW.ret ?_
    obtain rfl := hS
    exact ret1 rfl ⟨rfl, c0⟩
  ·
   have hS := ifF q5 hS
   refine CW.skip ?_
   refine thn_n ?_
   refine CW.seq ?_
   refine CW.seq (CW.region ?_)
   refine rl_fieldAddr rfl fa50_3 rfl ?_
   refine rl_loadS (v := (Value.bool a0.localF)) rfl Tryz.isAgg4 (k4.cell rfl) rfl ?_
   refine RL.nil ?_
   refine thn_n ?_
   refine CW.cond (t := a0.localF) rfl (fun q7 => ?_) (fun q7 => ?_)
   ·
    have hS := ifT q7 hS
    refine CW.region ?_
    refine rl_move rfl rfl ?_
    refine rl_bin rfl rfl B.add rfl ?_
    refine rl_assign rfl rfl ?_
    refine RL.nil ?_
    refine thn_n ?_
    refine CW.seq (CW.region ?_)
    refine rl_move rfl rfl ?_
    refine rl_assign rfl rfl ?_
    refine RL.nil ?_
    refine thn_n ?_
    refine CW.ret ?_
    obtain rfl := hS
    exact ret1 rfl ⟨rfl, c0⟩
   ·
    have hS := ifF q7 hS
    refine CW.skip ?_
    refine thn_n ?_
    refine CW.seq (CW.region ?_)
    refine rl_move rfl rfl ?_
    refine rl_assign rfl rfl ?_
    refine RL.nil ?_
    refine thn_n ?_
    refine CW.ret ?_
    obtain rfl := hS
    exact ret1 rfl ⟨rfl, c0⟩
/-- lb/resolve.order -/
theorem ctr29 (F : Nat → Prop) (w : World) (a0 : Group) (az0_0 : Value) (ah0_0 : slRep k_Point F w a0.points az0_0) (a1 : Group) (az1_0 : Value) (ah1_0 : slRep k_Point F w a1.points az1_0) (r : Int) (hs : F29_resolve_order a0 a1 = r) :
    Ret Tryz.prog 29 #[(Value.agg (Group.c a0 az0_0).toArray), (Value.agg (Group.c a1 az1_0).toArray)] w fun v w' => v = (Value.int .i64 r) ∧ Ch nb w w' := by
  have hS := hs
  have c0 : Ch nb w w := Ch.refl
  have ah0_0 := slRep.enter k_Point_pos ah0_0
  have ah1_0 := slRep.enter k_Point_pos ah1_0
  refine Ret.of (n := 17) (args := [_, _]) (rs := [.tmp 4]) Tryz.func29 rfl rfl rfl rfl ?_
  refine CW.seq (CW.region ?_)
  refine rl_boxA (cs := (Group.c a0 az0_0)) rfl rfl ?_
  intro p1 w2 n3 k4
  have ah0_0 := slRep.ch k_Point_pos ah0_0 n3.ch
  have ah1_0 := slRep.ch k_Point_pos ah1_0 n3.ch
  have c0 := c0.then0 n3.ch
  refine rl_boxA (cs := (Group.c a1 az1_0)) rfl rfl ?_
  intro p5 w6 n7 k8
  have ah0_0 := slRep.ch k_Point_pos ah0_0 n7.ch
  have ah1_0 := slRep.ch k_Point_pos ah1_0 n7.ch
  have k4 := k4.ch0 n7.ch
  have c0 := c0.then0 n7.ch
  refine rl_assign rfl rfl ?_
  refine RL.nil ?_
  refine thn_n ?_
  refine CW.seq ?_
  obtain ⟨y11, hy12⟩ : ∃ y, F52_cmp_Compare_string a0.name a1.name = y := ⟨_, rfl⟩
  have hS := ltS hy12 hS
  obtain ⟨y15, hy16⟩ : ∃ y, F54_resolve_Group_rank a0 = y := ⟨_, rfl⟩
  have hS := ltS hy16 hS
  obtain ⟨y19, hy20⟩ : ∃ y, F54_resolve_Group_rank a1 = y := ⟨_, rfl⟩
  have hS := ltS hy20 hS
  obtain ⟨y23, hy24⟩ : ∃ y, F53_cmp_Compare_int y15 y19 = y := ⟨_, rfl⟩
  have hS := ltS hy24 hS
  obtain ⟨y32, hy33⟩ : ∃ y, F51_cmp_Or_int [y11, y23] = y := ⟨_, rfl⟩
  have hS := ltS hy33 hS
  refine CW.draw 8 [(none, fun fx O uu wx => uu = (PV p1)), (none, fun fx O uu wx => uu = (Value.string a0.name)), (none, fun fx O uu wx => uu = (PV p5)), (none, fun fx O uu wx => uu = (Value.string a1.name)), (none, fun fx O uu wx => uu = (Value.int .i64 y11)), (none, fun fx O uu wx => uu = (Value.agg (Group.c a0 az0_0).toArray)), (none, fun fx O uu wx => uu = (Value.int .i64 y15)), (none, fun fx O uu wx => uu = (Value.agg (Group.c a1 az1_0).toArray))] [[], [0], [], [2], [1, 3], [], [5], []] [4, 6, 7] nb (fun _ h => h.elim) mixed rfl rfl rfl rfl ?_ ?_
  ·
   refine Each.consA ⟨fun _ _ _ _ _ _ h => h, fun h => absurd rfl h, fun fl O wk hE hN hO ck => ?_⟩ ?_
   ·
    refine rl_fieldAddr rfl fa50_0 rfl ?_
    exact RL.nil ⟨_, rfl, Ch.refl, rfl⟩
   refine Each.consA ⟨fun _ _ _ _ _ _ h => h, fun h => absurd rfl h, fun fl O wk hE hN hO ck => ?_⟩ ?_
   ·
    have k4 := k4.ch0 ck
    refine Need.one rfl rfl rfl ?_
    rintro _ e34
    obtain rfl := e34.symm
    refine rl_loadS (v := (Value.string a0.name)) rfl Tryz.isAgg9 (k4.cell rfl) rfl ?_
    exact RL.nil ⟨_, rfl, Ch.refl, rfl⟩
   refine Each.consA ⟨fun _ _ _ _ _ _ h => h, fun h => absurd rfl h, fun fl O wk hE hN hO ck => ?_⟩ ?_
   ·
    refine rl_fieldAddr rfl fa50_0 rfl ?_
    exact RL.nil ⟨_, rfl, Ch.refl, rfl⟩
   refine Each.consA ⟨fun _ _ _ _ _ _ h => h, fun h => absurd rfl h, fun fl O wk hE hN hO ck => ?_⟩ ?_
   ·
    have k8 := k8.ch0 ck
    refine Need.one rfl rfl rfl ?_
    rintro _ e35
    obtain rfl := e35.symm
    refine rl_loadS (v := (Value.string a1.name)) rfl Tryz.isAgg9 (k8.cell rfl) rfl ?_
    exact RL.nil ⟨_, rfl, Ch.refl, rfl⟩
   refine Each.consA ⟨fun _ _ _ _ _ _ h => h, fun h => absurd rfl h, fun fl O wk hE hN hO ck => ?_⟩ ?_
   ·
    refine Need.one rfl rfl rfl ?_
    rintro _ e36
    obtain rfl := e36.symm
    refine Need.one rfl rfl rfl ?_
    rintro _ e37
    obtain rfl := e37.symm
    refine rl_callF rfl en52 rfl (ctr52 (G F w.heap.size nb) wk a0.name a1.name y11 hy12) ?_
    rintro _ w38 ⟨rfl, c39⟩
    exact RL.nil ⟨_, rfl, c39, rfl⟩
   refine Each.consA ⟨fun _ _ _ _ _ _ h => h, fun h => absurd rfl h, fun fl O wk hE hN hO ck => ?_⟩ ?_
   ·
    have k4 := k4.ch0 ck
    refine rl_loadA (cs := (Group.c a0 az0_0)) rfl Tryz.isAgg50 Tryz.sizeOf50 (k4.segAt 0 5) rfl rfl ?_
    exact RL.nil ⟨_, rfl, Ch.refl, rfl⟩
   refine Each.consA ⟨fun _ _ _ _ _ _ h => h, fun h => absurd rfl h, fun fl O wk hE hN hO ck => ?_⟩ ?_
   ·
    have ah0_0 := slRep.ch k_Point_pos ah0_0 ck
    refine Need.one rfl rfl rfl ?_
    rintro _ e40
    obtain rfl := e40.symm
    refine rl_callF rfl en54 rfl (ctr54 (G F w.heap.size nb) wk a0 az0_0 ah0_0 y15 hy16) ?_
    rintro _ w41 ⟨rfl, c42⟩
    exact RL.nil ⟨_, rfl, c42, rfl⟩
   refine Each.consA ⟨fun _ _ _ _ _ _ h => h, fun h => absurd rfl h, fun fl O wk hE hN hO ck => ?_⟩ ?_
   ·
    have k8 := k8.ch0 ck
    refine rl_loadA (cs := (Group.c a1 az1_0)) rfl Tryz.isAgg50 Tryz.sizeOf50 (k8.segAt 0 5) rfl rfl ?_
    exact RL.nil ⟨_, rfl, Ch.refl, rfl⟩
   trivial
  ·
   intro hvO45 OpO45 O45 w43 hO46 c44 hN47
   have ah1_0 := slRep.ch k_Point_pos ah1_0 c44
   have c0 := c0.then0 c44
   refine Need.one rfl rfl rfl ?_
   rintro _ e48
   obtain rfl := e48.symm
   refine Need.one rfl rfl rfl ?_
   rintro _ e49
   obtain rfl := e49.symm
   refine Need.one rfl rfl rfl ?_
   rintro _ e50
   obtain rfl := e50.symm
   refine rl_callF rfl en54 rfl (ctr54 (G F w.heap.size nb) w43 a1 az1_0 ah1_0 y19 hy20) ?_
   rintro _ w51 ⟨rfl, c52⟩
   have c0 := c0.then0 c52
   refine rl_callF rfl en53 rfl (ctr53 (G F w.heap.size nb) w51 y15 y19 y23 hy24) ?_
   rintro _ w53 ⟨rfl, c54⟩
   have c0 := c0.then0 c54
   refine rl_bslice (k := (kInt .i64)) (F := F) (B := w.heap.size) (S := nb) ([y11, y23] : List Int) rfl kInt_pos Tryz.underlying158 Tryz.sizeOf3 Tryz.zeroValue3 rfl rfl ⟨rfl, rfl, ⟨rfl, rfl, trivial⟩⟩ c0.size nbS rfl ?_
   intro v55 w56 c57 hf58 h59
   have h59 := h59.readNew kInt_pos hf58 nbS
   have c0 := c0.then0 c57
   refine rl_callF rfl en51 rfl (ctr51 (G F w.heap.size nb) w56 [y11, y23] v55 h59 y32 hy33) ?_
   rintro _ w60 ⟨rfl, c61⟩
   have c0 := c0.then0 c61
   refine rl_assign rfl rfl ?_
   refine RL.nil ?_
   refine thn_n ?_
   refine CW.ret ?_
   obtain rfl := hS
   exact ret1 rfl ⟨rfl, c0⟩
end Go.Proofs.YtgcneihmkkldeaaGreat
