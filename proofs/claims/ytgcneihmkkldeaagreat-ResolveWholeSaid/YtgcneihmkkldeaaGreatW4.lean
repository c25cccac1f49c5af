/- The walks through the code: each call comes to its printed function. Written by a program of this session. -/
import Derived.Test.YtgcneihmkkldeaaGreatM
import Derived.Test.YtgcneihmkkldeaaGreatL
import Derived.Test.YtgcneihmkkldeaaGreatW3
namespace Go.Proofs.YtgcneihmkkldeaaGreat
open Go K
set_option linter.unusedVariables false
/-- slices.insertionSortCmpFunc[lb/resolve.Group] -/
theorem ctr77 (F : Nat → Prop) (w : World) (Bb : Nat) (S2 : Nat → Prop) (hB : Bb ≤ w.heap.size) (h2 : ∀ b, S2 b → b < w.heap.size) (av0 : Value) (hd2 : ∀ b, (inBlk av0) b → ¬ S2 b) (a0 : (List Group)) (ah0 : SlO k_Group 50 F Bb (un (inBlk av0) S2) w a0 av0) (a1 : Int) (a2 : Int) (a3 : (Group → Group → Int)) (av3 : Value) (ah3 : (Kd.fn2 Tryz.prog true true k_Group k_Group (Value.int .i64)).rep (G F Bb (un (inBlk av0) S2)) w a3 [av3]) (r : (List Group)) (hs : F77_slices_insertionSortCmpFunc_resolve_Grou a0 a1 a2 a3 = some r) :
    Ret Tryz.prog 77 #[av0, (Value.int .i64 a1), (Value.int .i64 a2), av3] w fun v w' => v = Value.tuple #[] ∧ SlO k_Group 50 F Bb (un (inBlk av0) S2) w' r av0 ∧ Ch (inBlk av0) w w' := by
  have hS := hs
  have c0 : Ch (inBlk av0) w w := Ch.refl
  have lin0_0 : ∀ b, inBlk av0 b → (inBlk av0) b ∨ w.heap.size ≤ b := fun b h => .inl h
  refine Ret.of (n := 53) (args := [_, _, _, _]) (rs := []) Tryz.func77 rfl rfl rfl rfl ?_
  refine CW.seq (CW.region ?_)
  refine rl_move rfl rfl ?_
  refine rl_bin rfl rfl B.add rfl ?_
  refine rl_assign rfl rfl ?_
  refine RL.nil ?_
  refine thn_n ?_
  obtain ⟨o11, ho12, hS⟩ := bindS hS
  refine CW.cutB (fun E' w' => ∃ (x1 : Int) (x2 : (List Group)), Sub [] E' ∧ Ch (inBlk av0) w w' ∧ Lp.fin (x1, x2) = o11 ∧ (Kd.fn2 Tryz.prog true true k_Group k_Group (Value.int .i64)).rep (G F Bb (un (inBlk av0) S2)) w' a3 [av3] ∧ SlO k_Group 50 F Bb (un (inBlk av0) S2) w' x2 av0) ?_ ?_
  ·
   refine CW.loopS [(0, av0), (1, (Value.int .i64 a1)), (2, (Value.int .i64 a2)), (3, av3), (8, (Value.int .i64 (IntKind.i64.wrap (a1 + 1))))] ⟨rfl, rfl, rfl, rfl, rfl, trivial⟩ FUEL (fun m E w' => ∃ (x1 : Int) (x2 : (List Group)), E = [(0, av0), (1, (Value.int .i64 a1)), (2, (Value.int .i64 a2)), (3, av3), (8, (Value.int .i64 x1))] ∧ Ch (inBlk av0) w w' ∧ runW (F77_slices_insertionSortCmpFunc_resolve_Grou_b1 a1 a2 a3) m (x1, x2) = some o11 ∧ (Kd.fn2 Tryz.prog true true k_Group k_Group (Value.int .i64)).rep (G F Bb (un (inBlk av0) S2)) w' a3 [av3] ∧ SlO k_Group 50 F Bb (un (inBlk av0) S2) w' x2 av0)
       ⟨IntKind.i64.wrap (a1 + 1), a0, rfl, c0, ho12, ah3, ah0⟩ ?_
   rintro _ _ w17 ⟨x1, x2, rfl, c16, hL6, ah3, h3⟩
   obtain ⟨k15, q8, rfl, hq9⟩ := runW_some hL6
   have hb10 := hq9
   refine CW.seq ?_
   refine CW.seq (CW.region ?_)
   refine rl_move rfl rfl ?_
   refine rl_move rfl rfl ?_
   refine rl_bin rfl rfl B.lss rfl ?_
   refine RL.nil ?_
   refine thn_n ?_
   refine CW.cond (t := decide (x1 < a2)) rfl (fun q19 => ?_) (fun q19 => ?_)
   ·
    have hb10 := ifT q19 hb10
    refine CW.skip ?_
    refine thn_n ?_
    refine CW.seq ?_
    refine CW.block ?_
    refine CW.seq (CW.region ?_)
    refine rl_move rfl rfl ?_
    refine rl_assign rfl rfl ?_
    refine RL.nil ?_
    refine thn_n ?_
    obtain ⟨o30, ho31, hb10⟩ := bindS hb10
    refine CW.cutB (fun E' w' => ∃ (x20 : Int) (x21 : (List Group)), Sub [(0, av0), (1, (Value.int .i64 a1)), (2, (Value.int .i64 a2)), (3, av3), (8, (Value.int .i64 x1))] E' ∧ Ch (inBlk av0) w w' ∧ Lp.fin (x20, x21) = o30 ∧ (Kd.fn2 Tryz.prog true true k_Group k_Group (Value.int .i64)).rep (G F Bb (un (inBlk av0) S2)) w' a3 [av3] ∧ SlO k_Group 50 F Bb (un (inBlk av0) S2) w' x21 av0) ?_ ?_
    ·
     refine CW.loopS [(0, av0), (1, (Value.int .i64 a1)), (2, (Value.int .i64 a2)), (3, av3), (8, (Value.int .i64 x1)), (9, (Value.int .i64 x1))] ⟨rfl, rfl, rfl, rfl, rfl, rfl, trivial⟩ FUEL (fun m E w' => ∃ (x20 : Int) (x21 : (List Group)), E = [(0, av0), (1, (Value.int .i64 a1)), (2, (Value.int .i64 a2)), (3, av3), (8, (Value.int .i64 x1)), (9, (Value.int .i64 x20))] ∧ Ch (inBlk av0) w w' ∧ runW (F77_slices_insertionSortCmpFunc_resolve_Grou_b2 a1 a3) m (x20, x21) = some o30 ∧ (Kd.fn2 Tryz.prog true true k_Group k_Group (Value.int .i64)).rep (G F Bb (un (inBlk av0) S2)) w' a3 [av3] ∧ SlO k_Group 50 F Bb (un (inBlk av0) S2) w' x21 av0)
         ⟨x1, x2, rfl, c16, ho31, ah3, h3⟩ ?_
     rintro _ _ w36 ⟨x20, x21, rfl, c35, hL25, ah3, h22⟩
     obtain ⟨k34, q27, rfl, hq28⟩ := runW_some hL25
     have hb29 := hq28
     refine CW.seq ?_
     refine CW.seq ?_
     obtain ⟨b60, hb61, hb29⟩ := bindS hb29
     refine CW.cutN (fun E' w' => Sub [(0, av0), (1, (Value.int .i64 a1)), (2, (Value.int .i64 a2)), (3, av3), (8, (Value.int .i64 x1)), (9, (Value.int .i64 x20)), (34, (Value.bool b60))] E' ∧ Ch nb w36 w') ?_ ?_
     ·
      rcases Bool.eq_false_or_eq_true (decide (x20 > a1)) with hg62 | hg62
      ·
       have hs63 := andO_t hg62 hb61
       obtain ⟨y44, hy45, hs63⟩ := bindS hs63
       obtain ⟨y54, hy55, hs63⟩ := bindS hs63
       refine CW.draw 17 [(none, fun fx O uu wx => uu = (Value.int .i64 x20)), (none, fun fx O uu wx => uu = (Value.int .i64 a1)), (none, fun fx O uu wx => uu = (Value.bool (decide (x20 > a1)))), (none, fun fx O uu wx => uu = (Value.bool (decide (x20 > a1)))), (none, fun fx O uu wx => uu = av3), (none, fun fx O uu wx => uu = av0), (none, fun fx O uu wx => uu = (Value.int .i64 x20)), (none, fun fx O uu wx => ∃ (p38 : Nat) (o39 : Nat) (z46 : Value), uu = (Value.pointer (some ⟨p38, o39, none⟩)) ∧ slRep k_Point (G F Bb (un (inBlk av0) S2)) wx y44.points z46 ∧ Seg wx p38 o39 (Group.c y44 z46)), (none, fun fx O uu wx => ∃ (z46_8 : Value), uu = (Value.agg (Group.c y44 z46_8).toArray) ∧ slRep k_Point (G F Bb (un (inBlk av0) S2)) wx y44.points z46_8), (none, fun fx O uu wx => uu = av0), (none, fun fx O uu wx => uu = (Value.int .i64 x20)), (none, fun fx O uu wx => uu = (Value.int .i64 (IntKind.i64.wrap (x20 - 1)))), (none, fun fx O uu wx => ∃ (p48 : Nat) (o49 : Nat) (z56 : Value), uu = (Value.pointer (some ⟨p48, o49, none⟩)) ∧ slRep k_Point (G F Bb (un (inBlk av0) S2)) wx y54.points z56 ∧ Seg wx p48 o49 (Group.c y54 z56)), (none, fun fx O uu wx => ∃ (z56_13 : Value), uu = (Value.agg (Group.c y54 z56_13).toArray) ∧ slRep k_Point (G F Bb (un (inBlk av0) S2)) wx y54.points z56_13), (none, fun fx O uu wx => uu = (Value.int .i64 (a3 y44 y54))), (none, fun fx O uu wx => uu = (Value.bool (decide ((a3 y44 y54) < 0)))), (none, fun fx O uu wx => uu = (Value.bool b60))] [[], [], [0, 1], [2], [3], [3], [3], [3, 5, 6], [3, 7], [3], [3], [3, 10], [3, 9, 11], [3, 12], [3, 4, 8, 13], [3, 14], [3, 15]] [16] nb (fun _ h => h.elim) mixed rfl rfl rfl rfl ?_ ?_
       ·
        refine Each.consA ⟨fun _ _ _ _ _ _ h => h, fun h => absurd rfl h, fun fl O wk hE hN hO ck => ?_⟩ ?_
        ·
         refine rl_move rfl rfl ?_
         exact RL.nil ⟨_, rfl, Ch.refl, rfl⟩
        refine Each.consA ⟨fun _ _ _ _ _ _ h => h, fun h => absurd rfl h, fun fl O wk hE hN hO ck => ?_⟩ ?_
        ·
         refine rl_move rfl rfl ?_
         exact RL.nil ⟨_, rfl, Ch.refl, rfl⟩
        refine Each.consA ⟨fun _ _ _ _ _ _ h => h, fun h => absurd rfl h, fun fl O wk hE hN hO ck => ?_⟩ ?_
        ·
         refine Need.one rfl rfl rfl ?_
         rintro _ e64
         obtain rfl := e64.symm
         refine Need.one rfl rfl rfl ?_
         rintro _ e65
         obtain rfl := e65.symm
         refine rl_bin rfl rfl B.gtr rfl ?_
         exact RL.nil ⟨_, rfl, Ch.refl, rfl⟩
        refine Each.consA ⟨fun _ _ _ _ _ _ h => h, fun h => absurd rfl h, fun fl O wk hE hN hO ck => ?_⟩ ?_
        ·
         refine Need.one rfl rfl rfl ?_
         rintro _ e66
         obtain rfl := e66.symm
         refine rl_move rfl rfl ?_
         exact RL.nil ⟨_, rfl, Ch.refl, rfl⟩
        refine Each.consA ⟨fun _ _ _ _ _ _ h => h, fun h => absurd rfl h, fun fl O wk hE hN hO ck => ?_⟩ ?_
        ·
         refine Need.one rfl rfl rfl ?_
         rintro _ e67
         obtain rfl := e67.symm
         refine RL.yes rfl rfl rfl hg62 ?_
         refine rl_move rfl rfl ?_
         exact RL.nil ⟨_, rfl, Ch.refl, rfl⟩
        refine Each.consA ⟨fun _ _ _ _ _ _ h => h, fun h => absurd rfl h, fun fl O wk hE hN hO ck => ?_⟩ ?_
        ·
         refine Need.one rfl rfl rfl ?_
         rintro _ e68
         obtain rfl := e68.symm
         refine RL.yes rfl rfl rfl hg62 ?_
         refine rl_move rfl rfl ?_
         exact RL.nil ⟨_, rfl, Ch.refl, rfl⟩
        refine Each.consA ⟨fun _ _ _ _ _ _ h => h, fun h => absurd rfl h, fun fl O wk hE hN hO ck => ?_⟩ ?_
        ·
         refine Need.one rfl rfl rfl ?_
         rintro _ e69
         obtain rfl := e69.symm
         refine RL.yes rfl rfl rfl hg62 ?_
         refine rl_move rfl rfl ?_
         exact RL.nil ⟨_, rfl, Ch.refl, rfl⟩
        refine Each.consA ⟨fun _ _ _ _ _ cc hh => by obtain ⟨p38, o39, z46, e, h47, hs42⟩ := hh; exact ⟨p38, o39, z46, e, slRep.ch k_Point_pos h47 cc, hs42.ch0 cc⟩, fun h => absurd rfl h, fun fl O wk hE hN hO ck => ?_⟩ ?_
        ·
         have h22 := h22.ch0 ck
         refine Need.one rfl rfl rfl ?_
         rintro _ e70
         obtain rfl := e70.symm
         refine Need.one rfl rfl rfl ?_
         rintro _ e71
         obtain rfl := e71.symm
         refine Need.one rfl rfl rfl ?_
         rintro _ e72
         obtain rfl := e72.symm
         refine RL.yes rfl rfl rfl hg62 ?_
         refine rl_ixOR rfl h22 rfl (ixO_get hy45) k_Group_pos Tryz.underlying37 Tryz.sizeOf50 rfl ?_
         intro p73 o74 cs75 hr76 hs77 hg78
         obtain ⟨z79, rfl, h80⟩ := hr76
         exact RL.nil ⟨_, rfl, Ch.refl, ⟨p73, o74, z79, rfl, h80, hs77⟩⟩
        refine Each.consA ⟨fun _ _ _ _ _ cc hh => by obtain ⟨z46_8, e, h47_8⟩ := hh; exact ⟨z46_8, e, slRep.ch k_Point_pos h47_8 cc⟩, fun h => absurd rfl h, fun fl O wk hE hN hO ck => ?_⟩ ?_
        ·
         refine Need.one rfl rfl rfl ?_
         rintro _ e81
         obtain rfl := e81.symm
         refine Need.one rfl rfl rfl ?_
         rintro _ ⟨p38, o39, z46, e82, h47, hs42⟩
         obtain rfl := e82.symm
         refine RL.yes rfl rfl rfl hg62 ?_
         refine rl_loadA (cs := (Group.c y44 z46)) rfl Tryz.isAgg50 Tryz.sizeOf50 (hs42) rfl rfl ?_
         exact RL.nil ⟨_, rfl, Ch.refl, ⟨z46, rfl, h47⟩⟩
        refine Each.consA ⟨fun _ _ _ _ _ _ h => h, fun h => absurd rfl h, fun fl O wk hE hN hO ck => ?_⟩ ?_
        ·
         refine Need.one rfl rfl rfl ?_
         rintro _ e83
         obtain rfl := e83.symm
         refine RL.yes rfl rfl rfl hg62 ?_
         refine rl_move rfl rfl ?_
         exact RL.nil ⟨_, rfl, Ch.refl, rfl⟩
        refine Each.consA ⟨fun _ _ _ _ _ _ h => h, fun h => absurd rfl h, fun fl O wk hE hN hO ck => ?_⟩ ?_
        ·
         refine Need.one rfl rfl rfl ?_
         rintro _ e84
         obtain rfl := e84.symm
         refine RL.yes rfl rfl rfl hg62 ?_
         refine rl_move rfl rfl ?_
         exact RL.nil ⟨_, rfl, Ch.refl, rfl⟩
        refine Each.consA ⟨fun _ _ _ _ _ _ h => h, fun h => absurd rfl h, fun fl O wk hE hN hO ck => ?_⟩ ?_
        ·
         refine Need.one rfl rfl rfl ?_
         rintro _ e85
         obtain rfl := e85.symm
         refine Need.one rfl rfl rfl ?_
         rintro _ e86
         obtain rfl := e86.symm
         refine RL.yes rfl rfl rfl hg62 ?_
         refine rl_bin rfl rfl B.sub rfl ?_
         exact RL.nil ⟨_, rfl, Ch.refl, rfl⟩
        refine Each.consA ⟨fun _ _ _ _ _ cc hh => by obtain ⟨p48, o49, z56, e, h57, hs52⟩ := hh; exact ⟨p48, o49, z56, e, slRep.ch k_Point_pos h57 cc, hs52.ch0 cc⟩, fun h => absurd rfl h, fun fl O wk hE hN hO ck => ?_⟩ ?_
        ·
         have h22 := h22.ch0 ck
         refine Need.one rfl rfl rfl ?_
         rintro _ e87
         obtain rfl := e87.symm
         refine Need.one rfl rfl rfl ?_
         rintro _ e88
         obtain rfl := e88.symm
         refine Need.one rfl rfl rfl ?_
         rintro _ e89
         obtain rfl := e89.symm
         refine RL.yes rfl rfl rfl hg62 ?_
         refine rl_ixOR rfl h22 rfl (ixO_get hy55) k_Group_pos Tryz.underlying37 Tryz.sizeOf50 rfl ?_
         intro p90 o91 cs92 hr93 hs94 hg95
         obtain ⟨z96, rfl, h97⟩ := hr93
         exact RL.nil ⟨_, rfl, Ch.refl, ⟨p90, o91, z96, rfl, h97, hs94⟩⟩
        refine Each.consA ⟨fun _ _ _ _ _ cc hh => by obtain ⟨z56_13, e, h57_13⟩ := hh; exact ⟨z56_13, e, slRep.ch k_Point_pos h57_13 cc⟩, fun h => absurd rfl h, fun fl O wk hE hN hO ck => ?_⟩ ?_
        ·
         refine Need.one rfl rfl rfl ?_
         rintro _ e98
         obtain rfl := e98.symm
         refine Need.one rfl rfl rfl ?_
         rintro _ ⟨p48, o49, z56, e99, h57, hs52⟩
         obtain rfl := e99.symm
         refine RL.yes rfl rfl rfl hg62 ?_
         refine rl_loadA (cs := (Group.c y54 z56)) rfl Tryz.isAgg50 Tryz.sizeOf50 (hs52) rfl rfl ?_
         exact RL.nil ⟨_, rfl, Ch.refl, ⟨z56, rfl, h57⟩⟩
        refine Each.consA ⟨fun _ _ _ _ _ _ h => h, fun h => absurd rfl h, fun fl O wk hE hN hO ck => ?_⟩ ?_
        ·
         have ah3 := Kd.ch ah3 ck
         refine Need.one rfl rfl rfl ?_
         rintro _ e100
         obtain rfl := e100.symm
         refine Need.one rfl rfl rfl ?_
         rintro _ e101
         obtain rfl := e101.symm
         refine Need.one rfl rfl rfl ?_
         rintro _ ⟨z46_8, e102, h47_8⟩
         obtain rfl := e102.symm
         refine Need.one rfl rfl rfl ?_
         rintro _ ⟨z56_13, e103, h57_13⟩
         obtain rfl := e103.symm
         refine RL.yes rfl rfl rfl hg62 ?_
         refine rl_fn2 (c := (Group.c y44 z46_8)) (c' := (Group.c y54 z56_13)) rfl rfl rfl rfl rfl ah3 (F' := (G F Bb (un (inBlk av0) S2))) (xx := y44) (yy := y54) (show k_Group.rep (G F Bb (un (inBlk av0) S2)) wk y44 (Group.c y44 z46_8) from ⟨z46_8, rfl, h47_8⟩) (show k_Group.rep (G F Bb (un (inBlk av0) S2)) wk y54 (Group.c y54 z56_13) from ⟨z56_13, rfl, h57_13⟩) rfl ?_
         intro w104 c105
         exact RL.nil ⟨_, rfl, c105, rfl⟩
        refine Each.consA ⟨fun _ _ _ _ _ _ h => h, fun h => absurd rfl h, fun fl O wk hE hN hO ck => ?_⟩ ?_
        ·
         refine Need.one rfl rfl rfl ?_
         rintro _ e106
         obtain rfl := e106.symm
         refine Need.one rfl rfl rfl ?_
         rintro _ e107
         obtain rfl := e107.symm
         refine RL.yes rfl rfl rfl hg62 ?_
         refine rl_bin rfl rfl B.lss rfl ?_
         exact RL.nil ⟨_, rfl, Ch.refl, rfl⟩
        refine Each.consA ⟨fun _ _ _ _ _ _ h => h, fun h => absurd rfl h, fun fl O wk hE hN hO ck => ?_⟩ ?_
        ·
         refine Need.one rfl rfl rfl ?_
         rintro _ e108
         obtain rfl := e108.symm
         refine Need.one rfl rfl rfl ?_
         rintro _ e109
         obtain rfl := e109.symm
         refine rl_pickT rfl hg62 rfl rfl ?_
         exact RL.nil ⟨_, rfl, Ch.refl, congrArg Value.bool (Option.some.inj hs63)⟩
        trivial
       ·
        intro hvO112 OpO112 O112 w110 hO113 c111 hN114
        refine Need.one rfl rfl rfl ?_
        rintro _ e115
        obtain rfl := e115.symm
        exact RL.nil ⟨rfl, ⟨rfl, rfl, rfl, rfl, rfl, rfl, rfl, trivial⟩, c111⟩
      ·
       have hs116 := andO_f hg62 hb61
       refine CW.draw 17 [(none, fun fx O uu wx => uu = (Value.int .i64 x20)), (none, fun fx O uu wx => uu = (Value.int .i64 a1)), (none, fun fx O uu wx => uu = (Value.bool (decide (x20 > a1)))), (none, fun fx O uu wx => uu = (Value.bool (decide (x20 > a1)))), (none, fun _ O uu wx => uu = undef), (none, fun _ O uu wx => uu = undef), (none, fun _ O uu wx => uu = undef), (none, fun _ O uu wx => uu = undef), (none, fun _ O uu wx => uu = undef), (none, fun _ O uu wx => uu = undef), (none, fun _ O uu wx => uu = undef), (none, fun _ O uu wx => uu = undef), (none, fun _ O uu wx => uu = undef), (none, fun _ O uu wx => uu = undef), (none, fun _ O uu wx => uu = undef), (none, fun _ O uu wx => uu = undef), (none, fun fx O uu wx => uu = (Value.bool b60))] [[], [], [0, 1], [2], [3], [3], [3], [3], [3], [3], [3], [3], [3], [3], [3], [3], [3]] [16] nb (fun _ h => h.elim) mixed rfl rfl rfl rfl ?_ ?_
       ·
        refine Each.consA ⟨fun _ _ _ _ _ _ h => h, fun h => absurd rfl h, fun fl O wk hE hN hO ck => ?_⟩ ?_
        ·
         refine rl_move rfl rfl ?_
         exact RL.nil ⟨_, rfl, Ch.refl, rfl⟩
        refine Each.consA ⟨fun _ _ _ _ _ _ h => h, fun h => absurd rfl h, fun fl O wk hE hN hO ck => ?_⟩ ?_
        ·
         refine rl_move rfl rfl ?_
         exact RL.nil ⟨_, rfl, Ch.refl, rfl⟩
        refine Each.consA ⟨fun _ _ _ _ _ _ h => h, fun h => absurd rfl h, fun fl O wk hE hN hO ck => ?_⟩ ?_
        ·
         refine Need.one rfl rfl rfl ?_
         rintro _ e117
         obtain rfl := e117.symm
         refine Need.one rfl rfl rfl ?_
         rintro _ e118
         obtain rfl := e118.symm
         refine rl_bin rfl rfl B.gtr rfl ?_
         exact RL.nil ⟨_, rfl, Ch.refl, rfl⟩
        refine Each.consA ⟨fun _ _ _ _ _ _ h => h, fun h => absurd rfl h, fun fl O wk hE hN hO ck => ?_⟩ ?_
        ·
         refine Need.one rfl rfl rfl ?_
         rintro _ e119
         obtain rfl := e119.symm
         refine rl_move rfl rfl ?_
         exact RL.nil ⟨_, rfl, Ch.refl, rfl⟩
        refine Each.consA ⟨fun _ _ _ _ _ _ h => h, fun h => absurd rfl h, fun fl O wk hE hN hO ck => ?_⟩ ?_
        ·
         refine Need.one rfl rfl rfl ?_
         rintro _ e120
         obtain rfl := e120.symm
         refine RL.no rfl rfl rfl hg62 rfl rfl ?_
         exact RL.nil ⟨_, rfl, Ch.refl, rfl⟩
        refine Each.consA ⟨fun _ _ _ _ _ _ h => h, fun h => absurd rfl h, fun fl O wk hE hN hO ck => ?_⟩ ?_
        ·
         refine Need.one rfl rfl rfl ?_
         rintro _ e121
         obtain rfl := e121.symm
         refine RL.no rfl rfl rfl hg62 rfl rfl ?_
         exact RL.nil ⟨_, rfl, Ch.refl, rfl⟩
        refine Each.consA ⟨fun _ _ _ _ _ _ h => h, fun h => absurd rfl h, fun fl O wk hE hN hO ck => ?_⟩ ?_
        ·
         refine Need.one rfl rfl rfl ?_
         rintro _ e122
         obtain rfl := e122.symm
         refine RL.no rfl rfl rfl hg62 rfl rfl ?_
         exact RL.nil ⟨_, rfl, Ch.refl, rfl⟩
        refine Each.consA ⟨fun _ _ _ _ _ _ h => h, fun h => absurd rfl h, fun fl O wk hE hN hO ck => ?_⟩ ?_
        ·
         refine Need.one rfl rfl rfl ?_
         rintro _ e123
         obtain rfl := e123.symm
         refine RL.no rfl rfl rfl hg62 rfl rfl ?_
         exact RL.nil ⟨_, rfl, Ch.refl, rfl⟩
        refine Each.consA ⟨fun _ _ _ _ _ _ h => h, fun h => absurd rfl h, fun fl O wk hE hN hO ck => ?_⟩ ?_
        ·
         refine Need.one rfl rfl rfl ?_
         rintro _ e124
         obtain rfl := e124.symm
         refine RL.no rfl rfl rfl hg62 rfl rfl ?_
         exact RL.nil ⟨_, rfl, Ch.refl, rfl⟩
        refine Each.consA ⟨fun _ _ _ _ _ _ h => h, fun h => absurd rfl h, fun fl O wk hE hN hO ck => ?_⟩ ?_
        ·
         refine Need.one rfl rfl rfl ?_
         rintro _ e125
         obtain rfl := e125.symm
         refine RL.no rfl rfl rfl hg62 rfl rfl ?_
         exact RL.nil ⟨_, rfl, Ch.refl, rfl⟩
        refine Each.consA ⟨fun _ _ _ _ _ _ h => h, fun h => absurd rfl h, fun fl O wk hE hN hO ck => ?_⟩ ?_
        ·
         refine Need.one rfl rfl rfl ?_
         rintro _ e126
         obtain rfl := e126.symm
         refine RL.no rfl rfl rfl hg62 rfl rfl ?_
         exact RL.nil ⟨_, rfl, Ch.refl, rfl⟩
        refine Each.consA ⟨fun _ _ _ _ _ _ h => h, fun h => absurd rfl h, fun fl O wk hE hN hO ck => ?_⟩ ?_
        ·
         refine Need.one rfl rfl rfl ?_
         rintro _ e127
         obtain rfl := e127.symm
         refine RL.no rfl rfl rfl hg62 rfl rfl ?_
         exact RL.nil ⟨_, rfl, Ch.refl, rfl⟩
        refine Each.consA ⟨fun _ _ _ _ _ _ h => h, fun h => absurd rfl h, fun fl O wk hE hN hO ck => ?_⟩ ?_
        ·
         refine Need.one rfl rfl rfl ?_
         rintro _ e128
         obtain rfl := e128.symm
         refine RL.no rfl rfl rfl hg62 rfl rfl ?_
         exact RL.nil ⟨_, rfl, Ch.refl, rfl⟩
        refine Each.consA ⟨fun _ _ _ _ _ _ h => h, fun h => absurd rfl h, fun fl O wk hE hN hO ck => ?_⟩ ?_
        ·
         refine Need.one rfl rfl rfl ?_
         rintro _ e129
         obtain rfl := e129.symm
         refine RL.no rfl rfl rfl hg62 rfl rfl ?_
         exact RL.nil ⟨_, rfl, Ch.refl, rfl⟩
        refine Each.consA ⟨fun _ _ _ _ _ _ h => h, fun h => absurd rfl h, fun fl O wk hE hN hO ck => ?_⟩ ?_
        ·
         refine Need.one rfl rfl rfl ?_
         rintro _ e130
         obtain rfl := e130.symm
         refine RL.no rfl rfl rfl hg62 rfl rfl ?_
         exact RL.nil ⟨_, rfl, Ch.refl, rfl⟩
        refine Each.consA ⟨fun _ _ _ _ _ _ h => h, fun h => absurd rfl h, fun fl O wk hE hN hO ck => ?_⟩ ?_
        ·
         refine Need.one rfl rfl rfl ?_
         rintro _ e131
         obtain rfl := e131.symm
         refine RL.no rfl rfl rfl hg62 rfl rfl ?_
         exact RL.nil ⟨_, rfl, Ch.refl, rfl⟩
        refine Each.consA ⟨fun _ _ _ _ _ _ h => h, fun h => absurd rfl h, fun fl O wk hE hN hO ck => ?_⟩ ?_
        ·
         refine Need.one rfl rfl rfl ?_
         rintro _ e132
         obtain rfl := e132.symm
         refine rl_pickF rfl hg62 rfl rfl ?_
         exact RL.nil ⟨_, rfl, Ch.refl, congrArg Value.bool (Option.some.inj hs116)⟩
        trivial
       ·
        intro hvO135 OpO135 O135 w133 hO136 c134 hN137
        refine Need.one rfl rfl rfl ?_
        rintro _ e138
        obtain rfl := e138.symm
        exact RL.nil ⟨rfl, ⟨rfl, rfl, rfl, rfl, rfl, rfl, rfl, trivial⟩, c134⟩
     ·
      rintro _ w140 ⟨hE139, c141⟩
      have ah3 := Kd.ch ah3 c141
      have h22 := h22.ch0 c141
      have c35 := c35.then0 c141
      refine thn_n (CW.sub [(0, av0), (1, (Value.int .i64 a1)), (2, (Value.int .i64 a2)), (3, av3), (8, (Value.int .i64 x1)), (9, (Value.int .i64 x20)), (34, (Value.bool b60))] hE139 ?_)
      refine CW.cond (t := b60) rfl (fun q142 => ?_) (fun q142 => ?_)
      ·
       have hb29 := ifT q142 hb29
       refine CW.skip ?_
       refine thn_n ?_
       refine CW.seq ?_
       refine CW.block ?_
       obtain ⟨y149, hy150, hb29⟩ := bindS hb29
       obtain ⟨y159, hy160, hb29⟩ := bindS hb29
       obtain ⟨y169, hy170, hb29⟩ := bindS hb29
       obtain ⟨y181, hy182, hb29⟩ := bindS hb29
       refine CW.draw 16 [(none, fun fx O uu wx => uu = av0), (none, fun fx O uu wx => uu = (Value.int .i64 x20)), (none, fun fx O uu wx => uu = av0), (none, fun fx O uu wx => uu = (Value.int .i64 x20)), (none, fun fx O uu wx => uu = (Value.int .i64 (IntKind.i64.wrap (x20 - 1)))), (none, fun fx O uu wx => uu = av0), (none, fun fx O uu wx => uu = (Value.int .i64 x20)), (none, fun fx O uu wx => uu = (Value.int .i64 (IntKind.i64.wrap (x20 - 1)))), (none, fun fx O uu wx => ∃ (p143 : Nat) (o144 : Nat) (z151 : Value), uu = (Value.pointer (some ⟨p143, o144, none⟩)) ∧ slRep k_Point (G F Bb (un O S2)) wx y149.points z151 ∧ (fx = [] → Seg wx p143 o144 (Group.c y149 z151))), (none, fun fx O uu wx => ∃ (z151_9 : Value), uu = (Value.agg (Group.c y149 z151_9).toArray) ∧ slRep k_Point (G F Bb (un O S2)) wx y149.points z151_9), (none, fun fx O uu wx => uu = av0), (none, fun fx O uu wx => uu = (Value.int .i64 x20)), (none, fun fx O uu wx => ∃ (p153 : Nat) (o154 : Nat) (z161 : Value), uu = (Value.pointer (some ⟨p153, o154, none⟩)) ∧ slRep k_Point (G F Bb (un O S2)) wx y159.points z161 ∧ (fx = [] → Seg wx p153 o154 (Group.c y159 z161))), (none, fun fx O uu wx => ∃ (z161_13 : Value), uu = (Value.agg (Group.c y159 z161_13).toArray) ∧ slRep k_Point (G F Bb (un O S2)) wx y159.points z161_13), (none, fun fx O uu wx => ∃ (p163 : Nat), uu = (Value.pointer (some ⟨p163, x20.toNat * k_Group.n, none⟩)) ∧ inBlk av0 p163), (some true, fun hv O uu wx => hv = [undef] ∧ uu = undef ∧ O = (inBlk av0) ∧ SlO k_Group 50 F Bb (un (inBlk av0) S2) wx (x21.set x20.toNat y149) av0)] [[], [], [], [], [3], [], [], [6], [5, 7], [8], [], [], [10, 11], [12], [0, 1], [9, 14]] [15, 2, 4, 13] (inBlk av0) (fun b h => (fun b hb => (h22.lt b hb).2) b h) mixed rfl rfl rfl rfl ?_ ?_
       ·
        refine Each.consA ⟨fun _ _ _ _ _ _ h => h, fun _ _ _ _ _ _ _ _ _ _ _ _ _ h => h, fun fl O wk hE hN hO ck => ?_⟩ ?_
        ·
         refine rl_move rfl rfl ?_
         exact RL.nil ⟨_, rfl, Ch.refl, rfl⟩
        refine Each.consA ⟨fun _ _ _ _ _ _ h => h, fun _ _ _ _ _ _ _ _ _ _ _ _ _ h => h, fun fl O wk hE hN hO ck => ?_⟩ ?_
        ·
         refine rl_move rfl rfl ?_
         exact RL.nil ⟨_, rfl, Ch.refl, rfl⟩
        refine Each.consA ⟨fun _ _ _ _ _ _ h => h, fun _ _ _ _ _ _ _ _ _ _ _ _ _ h => h, fun fl O wk hE hN hO ck => ?_⟩ ?_
        ·
         refine rl_move rfl rfl ?_
         exact RL.nil ⟨_, rfl, Ch.refl, rfl⟩
        refine Each.consA ⟨fun _ _ _ _ _ _ h => h, fun _ _ _ _ _ _ _ _ _ _ _ _ _ h => h, fun fl O wk hE hN hO ck => ?_⟩ ?_
        ·
         refine rl_move rfl rfl ?_
         exact RL.nil ⟨_, rfl, Ch.refl, rfl⟩
        refine Each.consA ⟨fun _ _ _ _ _ _ h => h, fun _ _ _ _ _ _ _ _ _ _ _ _ _ h => h, fun fl O wk hE hN hO ck => ?_⟩ ?_
        ·
         refine Need.one rfl rfl rfl ?_
         rintro _ e192
         obtain rfl := e192.symm
         refine rl_bin rfl rfl B.sub rfl ?_
         exact RL.nil ⟨_, rfl, Ch.refl, rfl⟩
        refine Each.consA ⟨fun _ _ _ _ _ _ h => h, fun _ _ _ _ _ _ _ _ _ _ _ _ _ h => h, fun fl O wk hE hN hO ck => ?_⟩ ?_
        ·
         refine rl_move rfl rfl ?_
         exact RL.nil ⟨_, rfl, Ch.refl, rfl⟩
        refine Each.consA ⟨fun _ _ _ _ _ _ h => h, fun _ _ _ _ _ _ _ _ _ _ _ _ _ h => h, fun fl O wk hE hN hO ck => ?_⟩ ?_
        ·
         refine rl_move rfl rfl ?_
         exact RL.nil ⟨_, rfl, Ch.refl, rfl⟩
        refine Each.consA ⟨fun _ _ _ _ _ _ h => h, fun _ _ _ _ _ _ _ _ _ _ _ _ _ h => h, fun fl O wk hE hN hO ck => ?_⟩ ?_
        ·
         refine Need.one rfl rfl rfl ?_
         rintro _ e196
         obtain rfl := e196.symm
         refine rl_bin rfl rfl B.sub rfl ?_
         exact RL.nil ⟨_, rfl, Ch.refl, rfl⟩
        refine Each.consA ⟨fun _ _ _ _ _ cc hh => by obtain ⟨p143, o144, z151, e, h152, hs147⟩ := hh; exact ⟨p143, o144, z151, e, slRep.ch k_Point_pos h152 cc, (fun hfx => (hs147 hfx).ch0 cc)⟩, fun _ _ h' O O' D _ wx wy hfl hD hO' cc hh => by obtain ⟨p143, o144, z151, e, h152, hs147⟩ := hh; have ad := admGh (S := S2) hD hO'; exact ⟨p143, o144, z151, e, slRep.st k_Point_pos h152 cc ad, (fun hfx => hfl.elim (fun e => by rw [e] at hfx; cases hfx) (fun e => Seg.ch0 (hs147 (e.1.symm.trans hfx)) (cc.mono (fun b _ hd => (e.2 b hd).elim))))⟩, fun fl O wk hE hN hO ck => ?_⟩ ?_
        ·
         obtain ⟨_, hB197⟩ := hN (hE rfl)
         have h22 := h22.ch0 hB197.2.1
         refine Need.one rfl rfl rfl ?_
         rintro _ e198
         obtain rfl := e198.symm
         refine Need.one rfl rfl rfl ?_
         rintro _ e199
         obtain rfl := e199.symm
         refine rl_ixOR rfl h22 rfl (ixO_get hy150) k_Group_pos Tryz.underlying37 Tryz.sizeOf50 rfl ?_
         intro p200 o201 cs202 hr203 hs204 hg205
         obtain ⟨z206, rfl, h207⟩ := hr203
         have h207 := slRep.wk (F' := (G F Bb (un O S2))) k_Point_pos h207 (fun b _ hf => ⟨hf.1, fun h => hf.2 (un_el h (fun ho => ((hB197.1 b).1 ho).elim (fun h => (.inl h)) (fun hk => by obtain ⟨_, hk, _⟩ := hk; cases hk)) (fun h => (.inr h)))⟩)
         exact RL.nil ⟨_, rfl, Ch.refl, ⟨p200, o201, z206, rfl, h207, (fun _ => hs204)⟩⟩
        refine Each.consA ⟨fun _ _ _ _ _ cc hh => by obtain ⟨z151_9, e, h152_9⟩ := hh; exact ⟨z151_9, e, slRep.ch k_Point_pos h152_9 cc⟩, fun _ _ h' O O' D _ wx wy hfl hD hO' cc hh => by obtain ⟨z151_9, e, h152_9⟩ := hh; have ad := admGh (S := S2) hD hO'; exact ⟨z151_9, e, slRep.st k_Point_pos h152_9 cc ad⟩, fun fl O wk hE hN hO ck => ?_⟩ ?_
        ·
         refine Need.one rfl rfl rfl ?_
         rintro _ ⟨p143, o144, z151, e209, h152, hs147⟩
         obtain rfl := e209.symm
         have hs147 := hs147 (hE rfl)
         refine rl_loadA (cs := (Group.c y149 z151)) rfl Tryz.isAgg50 Tryz.sizeOf50 (hs147) rfl rfl ?_
         exact RL.nil ⟨_, rfl, Ch.refl, ⟨z151, rfl, h152⟩⟩
        refine Each.consA ⟨fun _ _ _ _ _ _ h => h, fun _ _ _ _ _ _ _ _ _ _ _ _ _ h => h, fun fl O wk hE hN hO ck => ?_⟩ ?_
        ·
         refine rl_move rfl rfl ?_
         exact RL.nil ⟨_, rfl, Ch.refl, rfl⟩
        refine Each.consA ⟨fun _ _ _ _ _ _ h => h, fun _ _ _ _ _ _ _ _ _ _ _ _ _ h => h, fun fl O wk hE hN hO ck => ?_⟩ ?_
        ·
         refine rl_move rfl rfl ?_
         exact RL.nil ⟨_, rfl, Ch.refl, rfl⟩
        refine Each.consA ⟨fun _ _ _ _ _ cc hh => by obtain ⟨p153, o154, z161, e, h162, hs157⟩ := hh; exact ⟨p153, o154, z161, e, slRep.ch k_Point_pos h162 cc, (fun hfx => (hs157 hfx).ch0 cc)⟩, fun _ _ h' O O' D _ wx wy hfl hD hO' cc hh => by obtain ⟨p153, o154, z161, e, h162, hs157⟩ := hh; have ad := admGh (S := S2) hD hO'; exact ⟨p153, o154, z161, e, slRep.st k_Point_pos h162 cc ad, (fun hfx => hfl.elim (fun e => by rw [e] at hfx; cases hfx) (fun e => Seg.ch0 (hs157 (e.1.symm.trans hfx)) (cc.mono (fun b _ hd => (e.2 b hd).elim))))⟩, fun fl O wk hE hN hO ck => ?_⟩ ?_
        ·
         obtain ⟨_, hB212⟩ := hN (hE rfl)
         have h22 := h22.ch0 hB212.2.1
         refine Need.one rfl rfl rfl ?_
         rintro _ e213
         obtain rfl := e213.symm
         refine Need.one rfl rfl rfl ?_
         rintro _ e214
         obtain rfl := e214.symm
         refine rl_ixOR rfl h22 rfl (ixO_get hy160) k_Group_pos Tryz.underlying37 Tryz.sizeOf50 rfl ?_
         intro p215 o216 cs217 hr218 hs219 hg220
         obtain ⟨z221, rfl, h222⟩ := hr218
         have h222 := slRep.wk (F' := (G F Bb (un O S2))) k_Point_pos h222 (fun b _ hf => ⟨hf.1, fun h => hf.2 (un_el h (fun ho => ((hB212.1 b).1 ho).elim (fun h => (.inl h)) (fun hk => by obtain ⟨_, hk, _⟩ := hk; cases hk)) (fun h => (.inr h)))⟩)
         exact RL.nil ⟨_, rfl, Ch.refl, ⟨p215, o216, z221, rfl, h222, (fun _ => hs219)⟩⟩
        refine Each.consA ⟨fun _ _ _ _ _ cc hh => by obtain ⟨z161_13, e, h162_13⟩ := hh; exact ⟨z161_13, e, slRep.ch k_Point_pos h162_13 cc⟩, fun _ _ h' O O' D _ wx wy hfl hD hO' cc hh => by obtain ⟨z161_13, e, h162_13⟩ := hh; have ad := admGh (S := S2) hD hO'; exact ⟨z161_13, e, slRep.st k_Point_pos h162_13 cc ad⟩, fun fl O wk hE hN hO ck => ?_⟩ ?_
        ·
         refine Need.one rfl rfl rfl ?_
         rintro _ ⟨p153, o154, z161, e224, h162, hs157⟩
         obtain rfl := e224.symm
         have hs157 := hs157 (hE rfl)
         refine rl_loadA (cs := (Group.c y159 z161)) rfl Tryz.isAgg50 Tryz.sizeOf50 (hs157) rfl rfl ?_
         exact RL.nil ⟨_, rfl, Ch.refl, ⟨z161, rfl, h162⟩⟩
        refine Each.consA ⟨fun _ _ _ _ _ cc hh => by obtain ⟨p163, e, hg168⟩ := hh; exact ⟨p163, e, hg168⟩, fun _ _ h' O O' D _ wx wy hfl hD hO' cc hh => by obtain ⟨p163, e, hg168⟩ := hh; have ad := admGh (S := S2) hD hO'; exact ⟨p163, e, hg168⟩, fun fl O wk hE hN hO ck => ?_⟩ ?_
        ·
         obtain ⟨_, hB225⟩ := hN (hE rfl)
         have h22 := h22.ch0 hB225.2.1
         refine Need.one rfl rfl rfl ?_
         rintro _ e226
         obtain rfl := e226.symm
         refine Need.one rfl rfl rfl ?_
         rintro _ e227
         obtain rfl := e227.symm
         refine rl_ixO rfl h22 rfl (ixO_get hy170) Tryz.underlying37 Tryz.sizeOf50 rfl ?_
         intro p228 hg233
         exact RL.nil ⟨_, rfl, Ch.refl, ⟨p228, rfl, hg233⟩⟩
        refine Each.consO ⟨fun _ O _ wx wy cc hh => by obtain ⟨eh, e, rfl, ck15_0⟩ := hh; exact ⟨eh, e, rfl, ck15_0.ch0 cc⟩, fun hv Op O wk hO ck hO0 => ?_⟩ ?_
        ·
         obtain ⟨hl, hBg⟩ := hO0 rfl
         obtain rfl := List.eq_nil_of_length_eq_zero hl
         have h22 := h22.ch0 hBg.2.1
         refine Need.one rfl rfl rfl ?_
         rintro _ ⟨z151_9, e234, h152_9⟩
         obtain rfl := e234.symm
         have h152_9 := slRep.wk (F' := (G F Bb (un (inBlk av0) S2))) k_Point_pos h152_9 (fun b _ hf => ⟨hf.1, fun h => hf.2 (un_el h (fun h => (.inl ((hBg.1 b).2 (.inl h)))) (fun h => (.inr h)))⟩)
         refine Need.one rfl rfl rfl ?_
         rintro _ ⟨p163, e235, hg168⟩
         obtain rfl := e235.symm
         refine rl_storeOA rfl rfl Tryz.sizeOf50 h22 hg168 (ixO_lt hy170) (show k_Group.rep (G F Bb (un (inBlk av0) S2)) wk y149 (Group.c y149 z151_9) from ⟨z151_9, rfl, h152_9⟩) ?_
         intro w236 c237 h238
         have hb240 : ∀ b, (inBlk av0) b → (O b ∨ wk.heap.size ≤ b) ∧ b < w236.heap.size := fun b h => ⟨.inl ((hBg.1 b).2 (.inl h)), (fun b hb => (h238.lt b hb).2) b h⟩
         exact RL.nil ⟨_, (inBlk av0), rfl, hb240, (c237.mono (fun b _ h => ((hBg.1 b).2 (.inl h)))), ⟨rfl, rfl, rfl, h238⟩⟩
        trivial
       ·
        intro hvO243 OpO243 O243 w241 hO244 c242 hN245
        refine Need.hereN rfl rfl rfl rfl ?_
        rintro ⟨rfl, _, rfl, ck15_0⟩
        have ha247 : ∀ b, b < w140.heap.size → ¬ (un (inBlk av0) S2) b → ¬ (inBlk av0) b ∧ ¬ (un (inBlk av0) S2) b := fun b hb hs => ⟨fun h => hs (.inl h), fun h => un_el h (fun h => (hO244 b h).1.elim (fun h => hs (.inl h)) (fun h => Nat.not_le_of_lt hb h)) (fun h => hs (.inr h))⟩
        have ah3 := Kd.st ah3 c242 ha247
        have c35 := c35.then c242 (fun i hi h => (lin0_0 i h).elim (fun x => x) (fun x => absurd x (Nat.not_le_of_lt hi)))
        refine Need.one rfl rfl rfl ?_
        rintro _ e248
        obtain rfl := e248.symm
        refine Need.one rfl rfl rfl ?_
        rintro _ e249
        obtain rfl := e249.symm
        refine Need.one rfl rfl rfl ?_
        rintro _ ⟨z161_13, e250, h162_13⟩
        obtain rfl := e250.symm
        have h162_13 := slRep.wk (F' := (G F Bb (un (inBlk av0) S2))) k_Point_pos h162_13 (fun b _ hf => ⟨hf.1, fun h => hf.2 (un_el h (fun h => (.inl h)) (fun h => (.inr h)))⟩)
        refine rl_ixO rfl ck15_0 rfl (ixO_get hy182) Tryz.underlying37 Tryz.sizeOf50 rfl ?_
        intro p251 hg256
        refine rl_storeOA rfl rfl Tryz.sizeOf50 ck15_0 hg256 (ixO_lt hy182) (show k_Group.rep (G F Bb (un (inBlk av0) S2)) w241 y159 (Group.c y159 z161_13) from ⟨z161_13, rfl, h162_13⟩) ?_
        intro w257 c258 h259
        have ad260 : ∀ b, b < w241.heap.size → ¬ (un (inBlk av0) S2) b → ¬ (inBlk av0) b ∧ ¬ (un (inBlk av0) S2) b := fun b _ hs => ⟨fun h => hs (.inl h), hs⟩
        have ah3 := Kd.st ah3 c258 ad260
        have c35 := c35.then c258 (fun i hi h => (lin0_0 i h).elim (fun x => x) (fun x => absurd x (Nat.not_le_of_lt hi)))
        refine RL.nil ?_
        refine inB_n ?_
        refine thn_n ?_
        refine CW.region ?_
        refine rl_move rfl rfl ?_
        refine rl_bin rfl rfl B.sub rfl ?_
        refine rl_assign rfl rfl ?_
        refine RL.nil ?_
        refine thn_n ?_
        have hLn := runW_next hL25 hq28 hb29
        exact ⟨k34, Nat.lt_succ_self _, [(0, av0), (1, (Value.int .i64 a1)), (2, (Value.int .i64 a2)), (3, av3), (8, (Value.int .i64 x1)), (9, (Value.int .i64 (IntKind.i64.wrap (x20 - 1))))], ⟨rfl, rfl, rfl, rfl, rfl, rfl, trivial⟩, ⟨IntKind.i64.wrap (x20 - 1), (x21.set x20.toNat y149).set (IntKind.i64.wrap (x20 - 1)).toNat y159, rfl, c35, hLn, ah3, h259⟩⟩
      ·
       have hb29 := ifF q142 hb29
       refine CW.exit ?_
       refine thn_exit ?_
       refine thn_exit ?_
       refine inB_hit ?_
       have hLf := runW_fin hL25 hq28 hb29
       exact ⟨x20, x21, ⟨rfl, rfl, rfl, rfl, rfl, trivial⟩, c35, hLf, ah3, h22⟩
    ·
     rintro _ w262 ⟨x20, x21, hE263, c261, f264, ah3, h22⟩
     have hb10 := finS f264 hb10
     refine inB_n ?_
     refine thn_n (CW.sub [(0, av0), (1, (Value.int .i64 a1)), (2, (Value.int .i64 a2)), (3, av3), (8, (Value.int .i64 x1))] hE263 ?_)
     refine CW.region ?_
     refine rl_move rfl rfl ?_
     refine rl_bin rfl rfl B.add rfl ?_
     refine rl_assign rfl rfl ?_
     refine RL.nil ?_
     refine thn_n ?_
     have hLn := runW_next hL6 hq9 hb10
     exact ⟨k15, Nat.lt_succ_self _, [(0, av0), (1, (Value.int .i64 a1)), (2, (Value.int .i64 a2)), (3, av3), (8, (Value.int .i64 (IntKind.i64.wrap (x1 + 1))))], ⟨rfl, rfl, rfl, rfl, rfl, trivial⟩, ⟨IntKind.i64.wrap (x1 + 1), x21, rfl, c261, hLn, ah3, h22⟩⟩
   ·
    have hb10 := ifF q19 hb10
    refine CW.exit ?_
    refine thn_exit ?_
    refine thn_exit ?_
    refine inB_hit ?_
    have hLf := runW_fin hL6 hq9 hb10
    exact ⟨x1, x2, trivial, c16, hLf, ah3, h3⟩
  ·
   rintro _ w267 ⟨x1, x2, hE268, c266, f269, ah3, h3⟩
   have hS := finS f269 hS
   obtain rfl := Option.some.inj hS
   exact ⟨[], trivial, ⟨rfl, h3, c266⟩⟩
/-- slices.swapRangeCmpFunc[lb/resolve.Group] -/
theorem ctr131 (F : Nat → Prop) (w : World) (Bb : Nat) (S2 : Nat → Prop) (hB : Bb ≤ w.heap.size) (h2 : ∀ b, S2 b → b < w.heap.size) (av0 : Value) (hd2 : ∀ b, (inBlk av0) b → ¬ S2 b) (a0 : (List Group)) (ah0 : SlO k_Group 50 F Bb (un (inBlk av0) S2) w a0 av0) (a1 : Int) (a2 : Int) (a3 : Int) (a4 : (Group → Group → Int)) (av4 : Value) (ah4 : (Kd.fn2 Tryz.prog true true k_Group k_Group (Value.int .i64)).rep (G F Bb (un (inBlk av0) S2)) w a4 [av4]) (r : (List Group)) (hs : F131_slices_swapRangeCmpFunc_resolve_Group a0 a1 a2 a3 a4 = some r) :
    Ret Tryz.prog 131 #[av0, (Value.int .i64 a1), (Value.int .i64 a2), (Value.int .i64 a3), av4] w fun v w' => v = Value.tuple #[] ∧ SlO k_Group 50 F Bb (un (inBlk av0) S2) w' r av0 ∧ Ch (inBlk av0) w w' := by
  have hS := hs
  have c0 : Ch (inBlk av0) w w := Ch.refl
  have lin0_0 : ∀ b, inBlk av0 b → (inBlk av0) b ∨ w.heap.size ≤ b := fun b h => .inl h
  refine Ret.of (n := 38) (args := [_, _, _, _, _]) (rs := []) Tryz.func131 rfl rfl rfl rfl ?_
  refine CW.seq (CW.region ?_)
  refine rl_assign rfl rfl ?_
  refine RL.nil ?_
  refine thn_n ?_
  obtain ⟨o11, ho12, hS⟩ := bindS hS
  refine CW.cutB (fun E' w' => ∃ (x1 : Int) (x2 : (List Group)), Sub [] E' ∧ Ch (inBlk av0) w w' ∧ Lp.fin (x1, x2) = o11 ∧ (Kd.fn2 Tryz.prog true true k_Group k_Group (Value.int .i64)).rep (G F Bb (un (inBlk av0) S2)) w' a4 [av4] ∧ SlO k_Group 50 F Bb (un (inBlk av0) S2) w' x2 av0) ?_ ?_
  ·
   refine CW.loopS [(0, av0), (1, (Value.int .i64 a1)), (2, (Value.int .i64 a2)), (3, (Value.int .i64 a3)), (10, (Value.int .i64 0))] ⟨rfl, rfl, rfl, rfl, rfl, trivial⟩ FUEL (fun m E w' => ∃ (x1 : Int) (x2 : (List Group)), E = [(0, av0), (1, (Value.int .i64 a1)), (2, (Value.int .i64 a2)), (3, (Value.int .i64 a3)), (10, (Value.int .i64 x1))] ∧ Ch (inBlk av0) w w' ∧ runW (F131_slices_swapRangeCmpFunc_resolve_Group_b1 a1 a2 a3) m (x1, x2) = some o11 ∧ (Kd.fn2 Tryz.prog true true k_Group k_Group (Value.int .i64)).rep (G F Bb (un (inBlk av0) S2)) w' a4 [av4] ∧ SlO k_Group 50 F Bb (un (inBlk av0) S2) w' x2 av0)
       ⟨0, a0, rfl, c0, ho12, ah4, ah0⟩ ?_
   rintro _ _ w17 ⟨x1, x2, rfl, c16, hL6, ah4, h3⟩
   obtain ⟨k15, q8, rfl, hq9⟩ := runW_some hL6
   have hb10 := hq9
   refine CW.seq ?_
   refine CW.seq (CW.region ?_)
   refine rl_move rfl rfl ?_
   refine rl_move rfl rfl ?_
   refine rl_bin rfl rfl B.lss rfl ?_
   refine RL.nil ?_
   refine thn_n ?_
   refine CW.cond (t := decide (x1 < a3)) rfl (fun q19 => ?_) (fun q19 => ?_)
   ·
    have hb10 := ifT q19 hb10
    refine CW.skip ?_
    refine thn_n ?_
    refine CW.seq ?_
    refine CW.block ?_
    obtain ⟨y26, hy27, hb10⟩ := bindS hb10
    obtain ⟨y36, hy37, hb10⟩ := bindS hb10
    obtain ⟨y46, hy47, hb10⟩ := bindS hb10
    obtain ⟨y58, hy59, hb10⟩ := bindS hb10
    refine CW.draw 22 [(none, fun fx O uu wx => uu = av0), (none, fun fx O uu wx => uu = (Value.int .i64 a1)), (none, fun fx O uu wx => uu = (Value.int .i64 x1)), (none, fun fx O uu wx => uu = (Value.int .i64 (IntKind.i64.wrap (a1 + x1)))), (none, fun fx O uu wx => uu = av0), (none, fun fx O uu wx => uu = (Value.int .i64 a2)), (none, fun fx O uu wx => uu = (Value.int .i64 x1)), (none, fun fx O uu wx => uu = (Value.int .i64 (IntKind.i64.wrap (a2 + x1)))), (none, fun fx O uu wx => uu = av0), (none, fun fx O uu wx => uu = (Value.int .i64 a2)), (none, fun fx O uu wx => uu = (Value.int .i64 x1)), (none, fun fx O uu wx => uu = (Value.int .i64 (IntKind.i64.wrap (a2 + x1)))), (none, fun fx O uu wx => ∃ (p20 : Nat) (o21 : Nat) (z28 : Value), uu = (Value.pointer (some ⟨p20, o21, none⟩)) ∧ slRep k_Point (G F Bb (un O S2)) wx y26.points z28 ∧ (fx = [] → Seg wx p20 o21 (Group.c y26 z28))), (none, fun fx O uu wx => ∃ (z28_13 : Value), uu = (Value.agg (Group.c y26 z28_13).toArray) ∧ slRep k_Point (G F Bb (un O S2)) wx y26.points z28_13), (none, fun fx O uu wx => uu = av0), (none, fun fx O uu wx => uu = (Value.int .i64 a1)), (none, fun fx O uu wx => uu = (Value.int .i64 x1)), (none, fun fx O uu wx => uu = (Value.int .i64 (IntKind.i64.wrap (a1 + x1)))), (none, fun fx O uu wx => ∃ (p30 : Nat) (o31 : Nat) (z38 : Value), uu = (Value.pointer (some ⟨p30, o31, none⟩)) ∧ slRep k_Point (G F Bb (un O S2)) wx y36.points z38 ∧ (fx = [] → Seg wx p30 o31 (Group.c y36 z38))), (none, fun fx O uu wx => ∃ (z38_19 : Value), uu = (Value.agg (Group.c y36 z38_19).toArray) ∧ slRep k_Point (G F Bb (un O S2)) wx y36.points z38_19), (none, fun fx O uu wx => ∃ (p40 : Nat), uu = (Value.pointer (some ⟨p40, (IntKind.i64.wrap (a1 + x1)).toNat * k_Group.n, none⟩)) ∧ inBlk av0 p40), (some true, fun hv O uu wx => hv = [undef] ∧ uu = undef ∧ O = (inBlk av0) ∧ SlO k_Group 50 F Bb (un (inBlk av0) S2) wx (x2.set (IntKind.i64.wrap (a1 + x1)).toNat y26) av0)] [[], [], [], [1, 2], [], [], [], [5, 6], [], [], [], [9, 10], [8, 11], [12], [], [], [], [15, 16], [14, 17], [18], [0, 3], [13, 20]] [21, 4, 7, 19] (inBlk av0) (fun b h => (fun b hb => (h3.lt b hb).2) b h) mixed rfl rfl rfl rfl ?_ ?_
    ·
     refine Each.consA ⟨fun _ _ _ _ _ _ h => h, fun _ _ _ _ _ _ _ _ _ _ _ _ _ h => h, fun fl O wk hE hN hO ck => ?_⟩ ?_
     ·
      refine rl_move rfl rfl ?_
      exact RL.nil ⟨_, rfl, Ch.refl, rfl⟩
     refine Each.consA ⟨fun _ _ _ _ _ _ h => h, fun _ _ _ _ _ _ _ _ _ _ _ _ _ h => h, fun fl O wk hE hN hO ck => ?_⟩ ?_
     ·
      refine rl_move rfl rfl ?_
      exact RL.nil ⟨_, rfl, Ch.refl, rfl⟩
     refine Each.consA ⟨fun _ _ _ _ _ _ h => h, fun _ _ _ _ _ _ _ _ _ _ _ _ _ h => h, fun fl O wk hE hN hO ck => ?_⟩ ?_
     ·
      refine rl_move rfl rfl ?_
      exact RL.nil ⟨_, rfl, Ch.refl, rfl⟩
     refine Each.consA ⟨fun _ _ _ _ _ _ h => h, fun _ _ _ _ _ _ _ _ _ _ _ _ _ h => h, fun fl O wk hE hN hO ck => ?_⟩ ?_
     ·
      refine Need.one rfl rfl rfl ?_
      rintro _ e68
      obtain rfl := e68.symm
      refine Need.one rfl rfl rfl ?_
      rintro _ e69
      obtain rfl := e69.symm
      refine rl_bin rfl rfl B.add rfl ?_
      exact RL.nil ⟨_, rfl, Ch.refl, rfl⟩
     refine Each.consA ⟨fun _ _ _ _ _ _ h => h, fun _ _ _ _ _ _ _ _ _ _ _ _ _ h => h, fun fl O wk hE hN hO ck => ?_⟩ ?_
     ·
      refine rl_move rfl rfl ?_
      exact RL.nil ⟨_, rfl, Ch.refl, rfl⟩
     refine Each.consA ⟨fun _ _ _ _ _ _ h => h, fun _ _ _ _ _ _ _ _ _ _ _ _ _ h => h, fun fl O wk hE hN hO ck => ?_⟩ ?_
     ·
      refine rl_move rfl rfl ?_
      exact RL.nil ⟨_, rfl, Ch.refl, rfl⟩
     refine Each.consA ⟨fun _ _ _ _ _ _ h => h, fun _ _ _ _ _ _ _ _ _ _ _ _ _ h => h, fun fl O wk hE hN hO ck => ?_⟩ ?_
     ·
      refine rl_move rfl rfl ?_
      exact RL.nil ⟨_, rfl, Ch.refl, rfl⟩
     refine Each.consA ⟨fun _ _ _ _ _ _ h => h, fun _ _ _ _ _ _ _ _ _ _ _ _ _ h => h, fun fl O wk hE hN hO ck => ?_⟩ ?_
     ·
      refine Need.one rfl rfl rfl ?_
      rintro _ e74
      obtain rfl := e74.symm
      refine Need.one rfl rfl rfl ?_
      rintro _ e75
      obtain rfl := e75.symm
      refine rl_bin rfl rfl B.add rfl ?_
      exact RL.nil ⟨_, rfl, Ch.refl, rfl⟩
     refine Each.consA ⟨fun _ _ _ _ _ _ h => h, fun _ _ _ _ _ _ _ _ _ _ _ _ _ h => h, fun fl O wk hE hN hO ck => ?_⟩ ?_
     ·
      refine rl_move rfl rfl ?_
      exact RL.nil ⟨_, rfl, Ch.refl, rfl⟩
     refine Each.consA ⟨fun _ _ _ _ _ _ h => h, fun _ _ _ _ _ _ _ _ _ _ _ _ _ h => h, fun fl O wk hE hN hO ck => ?_⟩ ?_
     ·
      refine rl_move rfl rfl ?_
      exact RL.nil ⟨_, rfl, Ch.refl, rfl⟩
     refine Each.consA ⟨fun _ _ _ _ _ _ h => h, fun _ _ _ _ _ _ _ _ _ _ _ _ _ h => h, fun fl O wk hE hN hO ck => ?_⟩ ?_
     ·
      refine rl_move rfl rfl ?_
      exact RL.nil ⟨_, rfl, Ch.refl, rfl⟩
     refine Each.consA ⟨fun _ _ _ _ _ _ h => h, fun _ _ _ _ _ _ _ _ _ _ _ _ _ h => h, fun fl O wk hE hN hO ck => ?_⟩ ?_
     ·
      refine Need.one rfl rfl rfl ?_
      rintro _ e80
      obtain rfl := e80.symm
      refine Need.one rfl rfl rfl ?_
      rintro _ e81
      obtain rfl := e81.symm
      refine rl_bin rfl rfl B.add rfl ?_
      exact RL.nil ⟨_, rfl, Ch.refl, rfl⟩
     refine Each.consA ⟨fun _ _ _ _ _ cc hh => by obtain ⟨p20, o21, z28, e, h29, hs24⟩ := hh; exact ⟨p20, o21, z28, e, slRep.ch k_Point_pos h29 cc, (fun hfx => (hs24 hfx).ch0 cc)⟩, fun _ _ h' O O' D _ wx wy hfl hD hO' cc hh => by obtain ⟨p20, o21, z28, e, h29, hs24⟩ := hh; have ad := admGh (S := S2) hD hO'; exact ⟨p20, o21, z28, e, slRep.st k_Point_pos h29 cc ad, (fun hfx => hfl.elim (fun e => by rw [e] at hfx; cases hfx) (fun e => Seg.ch0 (hs24 (e.1.symm.trans hfx)) (cc.mono (fun b _ hd => (e.2 b hd).elim))))⟩, fun fl O wk hE hN hO ck => ?_⟩ ?_
     ·
      obtain ⟨_, hB82⟩ := hN (hE rfl)
      have h3 := h3.ch0 hB82.2.1
      refine Need.one rfl rfl rfl ?_
      rintro _ e83
      obtain rfl := e83.symm
      refine Need.one rfl rfl rfl ?_
      rintro _ e84
      obtain rfl := e84.symm
      refine rl_ixOR rfl h3 rfl (ixO_get hy27) k_Group_pos Tryz.underlying37 Tryz.sizeOf50 rfl ?_
      intro p85 o86 cs87 hr88 hs89 hg90
      obtain ⟨z91, rfl, h92⟩ := hr88
      have h92 := slRep.wk (F' := (G F Bb (un O S2))) k_Point_pos h92 (fun b _ hf => ⟨hf.1, fun h => hf.2 (un_el h (fun ho => ((hB82.1 b).1 ho).elim (fun h => (.inl h)) (fun hk => by obtain ⟨_, hk, _⟩ := hk; cases hk)) (fun h => (.inr h)))⟩)
      exact RL.nil ⟨_, rfl, Ch.refl, ⟨p85, o86, z91, rfl, h92, (fun _ => hs89)⟩⟩
     refine Each.consA ⟨fun _ _ _ _ _ cc hh => by obtain ⟨z28_13, e, h29_13⟩ := hh; exact ⟨z28_13, e, slRep.ch k_Point_pos h29_13 cc⟩, fun _ _ h' O O' D _ wx wy hfl hD hO' cc hh => by obtain ⟨z28_13, e, h29_13⟩ := hh; have ad := admGh (S := S2) hD hO'; exact ⟨z28_13, e, slRep.st k_Point_pos h29_13 cc ad⟩, fun fl O wk hE hN hO ck => ?_⟩ ?_
     ·
      refine Need.one rfl rfl rfl ?_
      rintro _ ⟨p20, o21, z28, e94, h29, hs24⟩
      obtain rfl := e94.symm
      have hs24 := hs24 (hE rfl)
      refine rl_loadA (cs := (Group.c y26 z28)) rfl Tryz.isAgg50 Tryz.sizeOf50 (hs24) rfl rfl ?_
      exact RL.nil ⟨_, rfl, Ch.refl, ⟨z28, rfl, h29⟩⟩
     refine Each.consA ⟨fun _ _ _ _ _ _ h => h, fun _ _ _ _ _ _ _ _ _ _ _ _ _ h => h, fun fl O wk hE hN hO ck => ?_⟩ ?_
     ·
      refine rl_move rfl rfl ?_
      exact RL.nil ⟨_, rfl, Ch.refl, rfl⟩
     refine Each.consA ⟨fun _ _ _ _ _ _ h => h, fun _ _ _ _ _ _ _ _ _ _ _ _ _ h => h, fun fl O wk hE hN hO ck => ?_⟩ ?_
     ·
      refine rl_move rfl rfl ?_
      exact RL.nil ⟨_, rfl, Ch.refl, rfl⟩
     refine Each.consA ⟨fun _ _ _ _ _ _ h => h, fun _ _ _ _ _ _ _ _ _ _ _ _ _ h => h, fun fl O wk hE hN hO ck => ?_⟩ ?_
     ·
      refine rl_move rfl rfl ?_
      exact RL.nil ⟨_, rfl, Ch.refl, rfl⟩
     refine Each.consA ⟨fun _ _ _ _ _ _ h => h, fun _ _ _ _ _ _ _ _ _ _ _ _ _ h => h, fun fl O wk hE hN hO ck => ?_⟩ ?_
     ·
      refine Need.one rfl rfl rfl ?_
      rintro _ e99
      obtain rfl := e99.symm
      refine Need.one rfl rfl rfl ?_
      rintro _ e100
      obtain rfl := e100.symm
      refine rl_bin rfl rfl B.add rfl ?_
      exact RL.nil ⟨_, rfl, Ch.refl, rfl⟩
     refine Each.consA ⟨fun _ _ _ _ _ cc hh => by obtain ⟨p30, o31, z38, e, h39, hs34⟩ := hh; exact ⟨p30, o31, z38, e, slRep.ch k_Point_pos h39 cc, (fun hfx => (hs34 hfx).ch0 cc)⟩, fun _ _ h' O O' D _ wx wy hfl hD hO' cc hh => by obtain ⟨p30, o31, z38, e, h39, hs34⟩ := hh; have ad := admGh (S := S2) hD hO'; exact ⟨p30, o31, z38, e, slRep.st k_Point_pos h39 cc ad, (fun hfx => hfl.elim (fun e => by rw [e] at hfx; cases hfx) (fun e => Seg.ch0 (hs34 (e.1.symm.trans hfx)) (cc.mono (fun b _ hd => (e.2 b hd).elim))))⟩, fun fl O wk hE hN hO ck => ?_⟩ ?_
     ·
      obtain ⟨_, hB101⟩ := hN (hE rfl)
      have h3 := h3.ch0 hB101.2.1
      refine Need.one rfl rfl rfl ?_
      rintro _ e102
      obtain rfl := e102.symm
      refine Need.one rfl rfl rfl ?_
      rintro _ e103
      obtain rfl := e103.symm
      refine rl_ixOR rfl h3 rfl (ixO_get hy37) k_Group_pos Tryz.underlying37 Tryz.sizeOf50 rfl ?_
      intro p104 o105 cs106 hr107 hs108 hg109
      obtain ⟨z110, rfl, h111⟩ := hr107
      have h111 := slRep.wk (F' := (G F Bb (un O S2))) k_Point_pos h111 (fun b _ hf => ⟨hf.1, fun h => hf.2 (un_el h (fun ho => ((hB101.1 b).1 ho).elim (fun h => (.inl h)) (fun hk => by obtain ⟨_, hk, _⟩ := hk; cases hk)) (fun h => (.inr h)))⟩)
      exact RL.nil ⟨_, rfl, Ch.refl, ⟨p104, o105, z110, rfl, h111, (fun _ => hs108)⟩⟩
     refine Each.consA ⟨fun _ _ _ _ _ cc hh => by obtain ⟨z38_19, e, h39_19⟩ := hh; exact ⟨z38_19, e, slRep.ch k_Point_pos h39_19 cc⟩, fun _ _ h' O O' D _ wx wy hfl hD hO' cc hh => by obtain ⟨z38_19, e, h39_19⟩ := hh; have ad := admGh (S := S2) hD hO'; exact ⟨z38_19, e, slRep.st k_Point_pos h39_19 cc ad⟩, fun fl O wk hE hN hO ck => ?_⟩ ?_
     ·
      refine Need.one rfl rfl rfl ?_
      rintro _ ⟨p30, o31, z38, e113, h39, hs34⟩
      obtain rfl := e113.symm
      have hs34 := hs34 (hE rfl)
      refine rl_loadA (cs := (Group.c y36 z38)) rfl Tryz.isAgg50 Tryz.sizeOf50 (hs34) rfl rfl ?_
      exact RL.nil ⟨_, rfl, Ch.refl, ⟨z38, rfl, h39⟩⟩
     refine Each.consA ⟨fun _ _ _ _ _ cc hh => by obtain ⟨p40, e, hg45⟩ := hh; exact ⟨p40, e, hg45⟩, fun _ _ h' O O' D _ wx wy hfl hD hO' cc hh => by obtain ⟨p40, e, hg45⟩ := hh; have ad := admGh (S := S2) hD hO'; exact ⟨p40, e, hg45⟩, fun fl O wk hE hN hO ck => ?_⟩ ?_
     ·
      obtain ⟨_, hB114⟩ := hN (hE rfl)
      have h3 := h3.ch0 hB114.2.1
      refine Need.one rfl rfl rfl ?_
      rintro _ e115
      obtain rfl := e115.symm
      refine Need.one rfl rfl rfl ?_
      rintro _ e116
      obtain rfl := e116.symm
      refine rl_ixO rfl h3 rfl (ixO_get hy47) Tryz.underlying37 Tryz.sizeOf50 rfl ?_
      intro p117 hg122
      exact RL.nil ⟨_, rfl, Ch.refl, ⟨p117, rfl, hg122⟩⟩
     refine Each.consO ⟨fun _ O _ wx wy cc hh => by obtain ⟨eh, e, rfl, ck21_0⟩ := hh; exact ⟨eh, e, rfl, ck21_0.ch0 cc⟩, fun hv Op O wk hO ck hO0 => ?_⟩ ?_
     ·
      obtain ⟨hl, hBg⟩ := hO0 rfl
      obtain rfl := List.eq_nil_of_length_eq_zero hl
      have h3 := h3.ch0 hBg.2.1
      refine Need.one rfl rfl rfl ?_
      rintro _ ⟨z28_13, e123, h29_13⟩
      obtain rfl := e123.symm
      have h29_13 := slRep.wk (F' := (G F Bb (un (inBlk av0) S2))) k_Point_pos h29_13 (fun b _ hf => ⟨hf.1, fun h => hf.2 (un_el h (fun h => (.inl ((hBg.1 b).2 (.inl h)))) (fun h => (.inr h)))⟩)
      refine Need.one rfl rfl rfl ?_
      rintro _ ⟨p40, e124, hg45⟩
      obtain rfl := e124.symm
      refine rl_storeOA rfl rfl Tryz.sizeOf50 h3 hg45 (ixO_lt hy47) (show k_Group.rep (G F Bb (un (inBlk av0) S2)) wk y26 (Group.c y26 z28_13) from ⟨z28_13, rfl, h29_13⟩) ?_
      intro w125 c126 h127
      have hb129 : ∀ b, (inBlk av0) b → (O b ∨ wk.heap.size ≤ b) ∧ b < w125.heap.size := fun b h => ⟨.inl ((hBg.1 b).2 (.inl h)), (fun b hb => (h127.lt b hb).2) b h⟩
      exact RL.nil ⟨_, (inBlk av0), rfl, hb129, (c126.mono (fun b _ h => ((hBg.1 b).2 (.inl h)))), ⟨rfl, rfl, rfl, h127⟩⟩
     trivial
    ·
     intro hvO132 OpO132 O132 w130 hO133 c131 hN134
     refine Need.hereN rfl rfl rfl rfl ?_
     rintro ⟨rfl, _, rfl, ck21_0⟩
     have ha136 : ∀ b, b < w17.heap.size → ¬ (un (inBlk av0) S2) b → ¬ (inBlk av0) b ∧ ¬ (un (inBlk av0) S2) b := fun b hb hs => ⟨fun h => hs (.inl h), fun h => un_el h (fun h => (hO133 b h).1.elim (fun h => hs (.inl h)) (fun h => Nat.not_le_of_lt hb h)) (fun h => hs (.inr h))⟩
     have ah4 := Kd.st ah4 c131 ha136
     have c16 := c16.then c131 (fun i hi h => (lin0_0 i h).elim (fun x => x) (fun x => absurd x (Nat.not_le_of_lt hi)))
     refine Need.one rfl rfl rfl ?_
     rintro _ e137
     obtain rfl := e137.symm
     refine Need.one rfl rfl rfl ?_
     rintro _ e138
     obtain rfl := e138.symm
     refine Need.one rfl rfl rfl ?_
     rintro _ ⟨z38_19, e139, h39_19⟩
     obtain rfl := e139.symm
     have h39_19 := slRep.wk (F' := (G F Bb (un (inBlk av0) S2))) k_Point_pos h39_19 (fun b _ hf => ⟨hf.1, fun h => hf.2 (un_el h (fun h => (.inl h)) (fun h => (.inr h)))⟩)
     refine rl_ixO rfl ck21_0 rfl (ixO_get hy59) Tryz.underlying37 Tryz.sizeOf50 rfl ?_
     intro p140 hg145
     refine rl_storeOA rfl rfl Tryz.sizeOf50 ck21_0 hg145 (ixO_lt hy59) (show k_Group.rep (G F Bb (un (inBlk av0) S2)) w130 y36 (Group.c y36 z38_19) from ⟨z38_19, rfl, h39_19⟩) ?_
     intro w146 c147 h148
     have ad149 : ∀ b, b < w130.heap.size → ¬ (un (inBlk av0) S2) b → ¬ (inBlk av0) b ∧ ¬ (un (inBlk av0) S2) b := fun b _ hs => ⟨fun h => hs (.inl h), hs⟩
     have ah4 := Kd.st ah4 c147 ad149
     have c16 := c16.then c147 (fun i hi h => (lin0_0 i h).elim (fun x => x) (fun x => absurd x (Nat.not_le_of_lt hi)))
     refine RL.nil ?_
     refine inB_n ?_
     refine thn_n ?_
     refine CW.region ?_
     refine rl_move rfl rfl ?_
     refine rl_bin rfl rfl B.add rfl ?_
     refine rl_assign rfl rfl ?_
     refine RL.nil ?_
     refine thn_n ?_
     have hLn := runW_next hL6 hq9 hb10
     exact ⟨k15, Nat.lt_succ_self _, [(0, av0), (1, (Value.int .i64 a1)), (2, (Value.int .i64 a2)), (3, (Value.int .i64 a3)), (10, (Value.int .i64 (IntKind.i64.wrap (x1 + 1))))], ⟨rfl, rfl, rfl, rfl, rfl, trivial⟩, ⟨IntKind.i64.wrap (x1 + 1), (x2.set (IntKind.i64.wrap (a1 + x1)).toNat y26).set (IntKind.i64.wrap (a2 + x1)).toNat y36, rfl, c16, hLn, ah4, h148⟩⟩
   ·
    have hb10 := ifF q19 hb10
    refine CW.exit ?_
    refine thn_exit ?_
    refine thn_exit ?_
    refine inB_hit ?_
    have hLf := runW_fin hL6 hq9 hb10
    exact ⟨x1, x2, trivial, c16, hLf, ah4, h3⟩
  ·
   rintro _ w151 ⟨x1, x2, hE152, c150, f153, ah4, h3⟩
   have hS := finS f153 hS
   obtain rfl := Option.some.inj hS
   exact ⟨[], trivial, ⟨rfl, h3, c150⟩⟩
/-- slices.rotateCmpFunc[lb/resolve.Group] -/
theorem ctr101 (F : Nat → Prop) (w : World) (Bb : Nat) (S2 : Nat → Prop) (hB : Bb ≤ w.heap.size) (h2 : ∀ b, S2 b → b < w.heap.size) (av0 : Value) (hd2 : ∀ b, (inBlk av0) b → ¬ S2 b) (a0 : (List Group)) (ah0 : SlO k_Group 50 F Bb (un (inBlk av0) S2) w a0 av0) (a1 : Int) (a2 : Int) (a3 : Int) (a4 : (Group → Group → Int)) (av4 : Value) (ah4 : (Kd.fn2 Tryz.prog true true k_Group k_Group (Value.int .i64)).rep (G F Bb (un (inBlk av0) S2)) w a4 [av4]) (r : (List Group)) (hs : F101_slices_rotateCmpFunc_resolve_Group a0 a1 a2 a3 a4 = some r) :
    Ret Tryz.prog 101 #[av0, (Value.int .i64 a1), (Value.int .i64 a2), (Value.int .i64 a3), av4] w fun v w' => v = Value.tuple #[] ∧ SlO k_Group 50 F Bb (un (inBlk av0) S2) w' r av0 ∧ Ch (inBlk av0) w w' := by
  have hS := hs
  have c0 : Ch (inBlk av0) w w := Ch.refl
  have lin0_0 : ∀ b, inBlk av0 b → (inBlk av0) b ∨ w.heap.size ≤ b := fun b h => .inl h
  refine Ret.of (n := 58) (args := [_, _, _, _, _]) (rs := []) Tryz.func101 rfl rfl rfl rfl ?_
  refine CW.seq (CW.region ?_)
  refine rl_move rfl rfl ?_
  refine rl_move rfl rfl ?_
  refine rl_bin rfl rfl B.sub rfl ?_
  refine rl_assign rfl rfl ?_
  refine RL.nil ?_
  refine thn_n ?_
  refine CW.seq (CW.region ?_)
  refine rl_move rfl rfl ?_
  refine rl_move rfl rfl ?_
  refine rl_bin rfl rfl B.sub rfl ?_
  refine rl_assign rfl rfl ?_
  refine RL.nil ?_
  refine thn_n ?_
  refine CW.seq ?_
  obtain ⟨o12, ho13, hS⟩ := bindS hS
  refine CW.cutB (fun E' w' => ∃ (x1 : Int) (x2 : Int) (x3 : (List Group)), Sub [(0, av0), (2, (Value.int .i64 a2)), (4, av4), (10, (Value.int .i64 x1))] E' ∧ Ch (inBlk av0) w w' ∧ Lp.fin (x1, x2, x3) = o12 ∧ (Kd.fn2 Tryz.prog true true k_Group k_Group (Value.int .i64)).rep (G F Bb (un (inBlk av0) S2)) w' a4 [av4] ∧ SlO k_Group 50 F Bb (un (inBlk av0) S2) w' x3 av0) ?_ ?_
  ·
   refine CW.loopS [(0, av0), (2, (Value.int .i64 a2)), (4, av4), (10, (Value.int .i64 (IntKind.i64.wrap (a2 - a1)))), (11, (Value.int .i64 (IntKind.i64.wrap (a3 - a2))))] ⟨rfl, rfl, rfl, rfl, rfl, trivial⟩ FUEL (fun m E w' => ∃ (x1 : Int) (x2 : Int) (x3 : (List Group)), E = [(0, av0), (2, (Value.int .i64 a2)), (4, av4), (10, (Value.int .i64 x1)), (11, (Value.int .i64 x2))] ∧ Ch (inBlk av0) w w' ∧ runW (F101_slices_rotateCmpFunc_resolve_Group_b1 a2 a4) m (x1, x2, x3) = some o12 ∧ (Kd.fn2 Tryz.prog true true k_Group k_Group (Value.int .i64)).rep (G F Bb (un (inBlk av0) S2)) w' a4 [av4] ∧ SlO k_Group 50 F Bb (un (inBlk av0) S2) w' x3 av0)
       ⟨IntKind.i64.wrap (a2 - a1), IntKind.i64.wrap (a3 - a2), a0, rfl, c0, ho13, ah4, ah0⟩ ?_
   rintro _ _ w18 ⟨x1, x2, x3, rfl, c17, hL7, ah4, h4⟩
   obtain ⟨k16, q9, rfl, hq10⟩ := runW_some hL7
   have hb11 := hq10
   refine CW.seq ?_
   refine CW.seq (CW.region ?_)
   refine rl_move rfl rfl ?_
   refine rl_move rfl rfl ?_
   refine rl_bin rfl rfl B.neq rfl ?_
   refine RL.nil ?_
   refine thn_n ?_
   refine CW.cond (t := !decide (x1 = x2)) rfl (fun q20 => ?_) (fun q20 => ?_)
   ·
    have hb11 := ifT q20 hb11
    refine CW.skip ?_
    refine thn_n ?_
    refine CW.block ?_
    refine CW.seq (CW.region ?_)
    refine rl_move rfl rfl ?_
    refine rl_move rfl rfl ?_
    refine rl_bin rfl rfl B.gtr rfl ?_
    refine RL.nil ?_
    refine thn_n ?_
    refine CW.cond (t := decide (x1 > x2)) rfl (fun q21 => ?_) (fun q21 => ?_)
    ·
     have hb11 := ifT q21 hb11
     refine CW.seq (CW.region ?_)
     refine rl_move rfl rfl ?_
     refine rl_move rfl rfl ?_
     refine rl_move rfl rfl ?_
     refine rl_bin rfl rfl B.sub rfl ?_
     refine rl_move rfl rfl ?_
     refine rl_move rfl rfl ?_
     refine rl_move rfl rfl ?_
     have hd22 : ∀ b, (inBlk av0) b → ¬ S2 b := fun b h => (fun b hb => linNot lin0_0 hd2 h2 b hb) b h
     have hS23 : (un (inBlk av0) S2) = (un (inBlk av0) S2) := rfl
     have ha24 := ah4
     rw [hS23] at ha24
     obtain ⟨y27, hy28, hb11⟩ := bindS hb11
     refine rl_callF rfl en131 rfl (ctr131 F w18 Bb S2 (Nat.le_trans hB c17.size) (fun b h => Nat.lt_of_lt_of_le (h2 b h) c17.size) av0 hd22  x3 (hS23 ▸ h4) (IntKind.i64.wrap (a2 - x1)) a2 x2 a4 av4 ha24 y27 hy28) ?_
     rintro _ w25 ⟨rfl, h29, c26⟩
     rw [← hS23] at h29
     have ad30 : ∀ b, b < w18.heap.size → ¬ (un (inBlk av0) S2) b → ¬ (inBlk av0) b ∧ ¬ (un (inBlk av0) S2) b := fun b _ hs => ⟨fun h => hs (.inl h), hs⟩
     have ah4 := Kd.st ah4 c26 ad30
     have c17 := c17.then c26 (fun i hi h => (lin0_0 i h).elim (fun x => x) (fun x => absurd x (Nat.not_le_of_lt hi)))
     refine RL.nil ?_
     refine thn_n ?_
     refine CW.region ?_
     refine rl_move rfl rfl ?_
     refine rl_move rfl rfl ?_
     refine rl_bin rfl rfl B.sub rfl ?_
     refine rl_assign rfl rfl ?_
     refine RL.nil ?_
     refine inB_n ?_
     refine thn_n ?_
     have hLn := runW_next hL7 hq10 hb11
     exact ⟨k16, Nat.lt_succ_self _, [(0, av0), (2, (Value.int .i64 a2)), (4, av4), (10, (Value.int .i64 (IntKind.i64.wrap (x1 - x2)))), (11, (Value.int .i64 x2))], ⟨rfl, rfl, rfl, rfl, rfl, trivial⟩, ⟨IntKind.i64.wrap (x1 - x2), x2, y27, rfl, c17, hLn, ah4, h29⟩⟩
    ·
     have hb11 := ifF q21 hb11
     refine CW.seq (CW.region ?_)
     refine rl_move rfl rfl ?_
     refine rl_move rfl rfl ?_
     refine rl_move rfl rfl ?_
     refine rl_bin rfl rfl B.sub rfl ?_
     refine rl_move rfl rfl ?_
     refine rl_move rfl rfl ?_
     refine rl_bin rfl rfl B.add rfl ?_
     refine rl_move rfl rfl ?_
     refine rl_bin rfl rfl B.sub rfl ?_
     refine rl_move rfl rfl ?_
     refine rl_move rfl rfl ?_
     have hd31 : ∀ b, (inBlk av0) b → ¬ S2 b := fun b h => (fun b hb => linNot lin0_0 hd2 h2 b hb) b h
     have hS32 : (un (inBlk av0) S2) = (un (inBlk av0) S2) := rfl
     have ha33 := ah4
     rw [hS32] at ha33
     obtain ⟨y36, hy37, hb11⟩ := bindS hb11
     refine rl_callF rfl en131 rfl (ctr131 F w18 Bb S2 (Nat.le_trans hB c17.size) (fun b h => Nat.lt_of_lt_of_le (h2 b h) c17.size) av0 hd31  x3 (hS32 ▸ h4) (IntKind.i64.wrap (a2 - x1)) (IntKind.i64.wrap ((IntKind.i64.wrap (a2 + x2)) - x1)) x1 a4 av4 ha33 y36 hy37) ?_
     rintro _ w34 ⟨rfl, h38, c35⟩
     rw [← hS32] at h38
     have ad39 : ∀ b, b < w18.heap.size → ¬ (un (inBlk av0) S2) b → ¬ (inBlk av0) b ∧ ¬ (un (inBlk av0) S2) b := fun b _ hs => ⟨fun h => hs (.inl h), hs⟩
     have ah4 := Kd.st ah4 c35 ad39
     have c17 := c17.then c35 (fun i hi h => (lin0_0 i h).elim (fun x => x) (fun x => absurd x (Nat.not_le_of_lt hi)))
     refine RL.nil ?_
     refine thn_n ?_
     refine CW.region ?_
     refine rl_move rfl rfl ?_
     refine rl_move rfl rfl ?_
     refine rl_bin rfl rfl B.sub rfl ?_
     refine rl_assign rfl rfl ?_
     refine RL.nil ?_
     refine inB_n ?_
     refine thn_n ?_
     have hLn := runW_next hL7 hq10 hb11
     exact ⟨k16, Nat.lt_succ_self _, [(0, av0), (2, (Value.int .i64 a2)), (4, av4), (10, (Value.int .i64 x1)), (11, (Value.int .i64 (IntKind.i64.wrap (x2 - x1))))], ⟨rfl, rfl, rfl, rfl, rfl, trivial⟩, ⟨x1, IntKind.i64.wrap (x2 - x1), y36, rfl, c17, hLn, ah4, h38⟩⟩
   ·
    have hb11 := ifF q20 hb11
    refine CW.exit ?_
    refine thn_exit ?_
    refine thn_exit ?_
    refine inB_hit ?_
    have hLf := runW_fin hL7 hq10 hb11
    exact ⟨x1, x2, x3, ⟨rfl, rfl, rfl, rfl, trivial⟩, c17, hLf, ah4, h4⟩
  ·
   rintro _ w41 ⟨x1, x2, x3, hE42, c40, f43, ah4, h4⟩
   have hS := finS f43 hS
   refine thn_n (CW.sub [(0, av0), (2, (Value.int .i64 a2)), (4, av4), (10, (Value.int .i64 x1))] hE42 ?_)
   refine CW.region ?_
   refine rl_move rfl rfl ?_
   refine rl_move rfl rfl ?_
   refine rl_move rfl rfl ?_
   refine rl_bin rfl rfl B.sub rfl ?_
   refine rl_move rfl rfl ?_
   refine rl_move rfl rfl ?_
   refine rl_move rfl rfl ?_
   have hd45 : ∀ b, (inBlk av0) b → ¬ S2 b := fun b h => (fun b hb => linNot lin0_0 hd2 h2 b hb) b h
   have hS46 : (un (inBlk av0) S2) = (un (inBlk av0) S2) := rfl
   have ha47 := ah4
   rw [hS46] at ha47
   obtain ⟨y50, hy51, hS⟩ := bindS hS
   refine rl_callF rfl en131 rfl (ctr131 F w41 Bb S2 (Nat.le_trans hB c40.size) (fun b h => Nat.lt_of_lt_of_le (h2 b h) c40.size) av0 hd45  x3 (hS46 ▸ h4) (IntKind.i64.wrap (a2 - x1)) a2 x1 a4 av4 ha47 y50 hy51) ?_
   rintro _ w48 ⟨rfl, h52, c49⟩
   rw [← hS46] at h52
   have c40 := c40.then c49 (fun i hi h => (lin0_0 i h).elim (fun x => x) (fun x => absurd x (Nat.not_le_of_lt hi)))
   refine RL.nil ?_
   obtain rfl := Option.some.inj hS
   exact ⟨[], trivial, ⟨rfl, h52, c40⟩⟩
end Go.Proofs.YtgcneihmkkldeaaGreat
