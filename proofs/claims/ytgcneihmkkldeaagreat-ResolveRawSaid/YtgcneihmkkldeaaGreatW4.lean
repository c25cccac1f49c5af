/- The walks through the code: each call comes to its printed function. Written by a program of this session. -/
import Derived.Test.YtgcneihmkkldeaaGreatM
import Derived.Test.YtgcneihmkkldeaaGreatL
import Derived.Test.YtgcneihmkkldeaaGreatW3
namespace Go.Proofs.YtgcneihmkkldeaaGreat
open Go K
set_option linter.unusedVariables false
/-- slices.insertionSortCmpFunc[lb/resolve.Group] -/
theorem ctr77 (F : Nat → Prop) (w : World) (Bb : Nat) (S2 : Nat → Prop) (hB : Bb ≤ w.heap.size) (h2 : ∀ b, S2 b → b < w.heap.size) (av0 : Value) (hd2 : ∀ b, (inBlk av0) b → ¬ S2 b) (a0 : (List Group)) (ah0 : SlO k_Group 50 F Bb (un (inBlk av0) S2) w a0 av0) (a1 : Int) (a2 : Int) (a3 : (Group → Group → Int)) (av3 : Value) (ah3 : (Kd.fn2 Tryz.prog true true k_Group k_Group (Value.int .i64)).rep (G F Bb (un (inBlk av0) S2)) w a3 [av3]) (r : (List Group)) (hs : F77_Group a0 a1 a2 a3 = some r) :
    Ret Tryz.prog 77 #[av0, (Value.int .i64 a1), (Value.int .i64 a2), av3] w fun v w' => v = Value.tuple #[] ∧ SlO k_Group 50 F Bb (un (inBlk av0) S2) w' r av0 ∧ Ch (inBlk av0) w w' := by
 have hS := hs
 have c0 : Ch (inBlk av0) w w := Ch.refl
 have lin0_0 : ∀ b, inBlk av0 b → (inBlk av0) b ∨ w.heap.size ≤ b := fun b h => .inl h
 refine Ret.of (n := 53) (args := [_, _, _, _]) (rs := []) Tryz.func77 rfl rfl rfl rfl ?_
 refine CW.seq (CW.region ?_)
 refine rl_move rfl rfl ?_
 refine rl_bin rfl rfl B.add rfl ?_
 refine rl_assign rfl rfl ?_
 refine RL.nil (thn_n ?_)
 obtain ⟨o11, ho12, hS⟩ := bindS hS
 refine CW.cutB (fun E' w' => ∃ (x1 : Int) (x2 : (List Group)), Sub [] E' ∧ Ch (inBlk av0) w w' ∧ Lp.fin (x1, x2) = o11 ∧ (Kd.fn2 Tryz.prog true true k_Group k_Group (Value.int .i64)).rep (G F Bb (un (inBlk av0) S2)) w' a3 [av3] ∧ SlO k_Group 50 F Bb (un (inBlk av0) S2) w' x2 av0) ?_ ?_
 ·
  refine CW.loopS [(0, av0), (1, (Value.int .i64 a1)), (2, (Value.int .i64 a2)), (3, av3), (8, (Value.int .i64 (IntKind.i64.wrap (a1 + 1))))] ⟨rfl, rfl, rfl, rfl, rfl, trivial⟩ FUEL (fun m E w' => ∃ (x1 : Int) (x2 : (List Group)), E = [(0, av0), (1, (Value.int .i64 a1)), (2, (Value.int .i64 a2)), (3, av3), (8, (Value.int .i64 x1))] ∧ Ch (inBlk av0) w w' ∧ runW (F77_Group_b1 a1 a2 a3) m (x1, x2) = some o11 ∧ (Kd.fn2 Tryz.prog true true k_Group k_Group (Value.int .i64)).rep (G F Bb (un (inBlk av0) S2)) w' a3 [av3] ∧ SlO k_Group 50 F Bb (un (inBlk av0) S2) w' x2 av0)
      ⟨IntKind.i64.wrap (a1 + 1), a0, rfl, c0, ho12, ah3, ah0⟩ ?_
  rintro _ _ w17 ⟨x1, x2, rfl, c16, hL6, ah3, h3⟩
  obtain ⟨k15, q8, rfl, hq9⟩ := runW_some hL6
  have hb10 := hq9
  refine CW.seq ?_
  refine CW.seq (CW.region ?_)
  refine rl_move rfl rfl ?_
  refine rl_move rfl rfl ?_
  refine rl_bin rfl rfl B.lss rfl ?_
  refine RL.nil (thn_n ?_)
  refine CW.cond (t := decide (x1 < a2)) rfl (fun q19 => ?_) (fun q19 => ?_)
  ·
   have hb10 := ifT q19 hb10
   refine CW.skip ?_
   refine thn_n (CW.seq ?_)
   refine CW.block ?_
   refine CW.seq (CW.region ?_)
   refine rl_move rfl rfl ?_
   refine rl_assign rfl rfl ?_
   refine RL.nil (thn_n ?_)
   obtain ⟨o30, ho31, hb10⟩ := bindS hb10
   refine CW.cutB (fun E' w' => ∃ (x20 : Int) (x21 : (List Group)), Sub [(0, av0), (1, (Value.int .i64 a1)), (2, (Value.int .i64 a2)), (3, av3), (8, (Value.int .i64 x1))] E' ∧ Ch (inBlk av0) w w' ∧ Lp.fin (x20, x21) = o30 ∧ (Kd.fn2 Tryz.prog true true k_Group k_Group (Value.int .i64)).rep (G F Bb (un (inBlk av0) S2)) w' a3 [av3] ∧ SlO k_Group 50 F Bb (un (inBlk av0) S2) w' x21 av0) ?_ ?_
   ·
    refine CW.loopS [(0, av0), (1, (Value.int .i64 a1)), (2, (Value.int .i64 a2)), (3, av3), (8, (Value.int .i64 x1)), (9, (Value.int .i64 x1))] ⟨rfl, rfl, rfl, rfl, rfl, rfl, trivial⟩ FUEL (fun m E w' => ∃ (x20 : Int) (x21 : (List Group)), E = [(0, av0), (1, (Value.int .i64 a1)), (2, (Value.int .i64 a2)), (3, av3), (8, (Value.int .i64 x1)), (9, (Value.int .i64 x20))] ∧ Ch (inBlk av0) w w' ∧ runW (F77_Group_b2 a1 a3) m (x20, x21) = some o30 ∧ (Kd.fn2 Tryz.prog true true k_Group k_Group (Value.int .i64)).rep (G F Bb (un (inBlk av0) S2)) w' a3 [av3] ∧ SlO k_Group 50 F Bb (un (inBlk av0) S2) w' x21 av0)
        ⟨x1, x2, rfl, c16, ho31, ah3, h3⟩ ?_
    rintro _ _ w36 ⟨x20, x21, rfl, c35, hL25, ah3, h22⟩
    obtain ⟨k34, q27, rfl, hq28⟩ := runW_some hL25
    have hb29 := hq28
    refine CW.seq ?_
    refine CW.seq ?_
    obtain ⟨b60, hb61, hb29⟩ := bindS hb29
    refine CW.cutN (fun E' w' => Sub [(0, av0), (1, (Value.int .i64 a1)), (2, (Value.int .i64 a2)), (3, av3), (8, (Value.int .i64 x1)), (9, (Value.int .i64 x20)), (34, (Value.bool b60))] E' ∧ Ch nb w36 w') ?_ ?_
    ·
     rcases Bool.eq_false_or_eq_true (decide (x20 > a1)) with hg62 | hg62
     ·
      have hs63 := andO_t hg62 hb61
      obtain ⟨y44, hy45, hs63⟩ := bindS hs63
      obtain ⟨y54, hy55, hs63⟩ := bindS hs63
      refine CW.draw 17 [(none, fun fx O uu wx => uu = (Value.int .i64 x20)), (none, fun fx O uu wx => uu = (Value.int .i64 a1)), (none, fun fx O uu wx => uu = (Value.bool (decide (x20 > a1)))), (none, fun fx O uu wx => uu = (Value.bool (decide (x20 > a1)))), (none, fun fx O uu wx => uu = av3), (none, fun fx O uu wx => uu = av0), (none, fun fx O uu wx => uu = (Value.int .i64 x20)), (none, fun fx O uu wx => ∃ (p38 : Nat) (o39 : Nat) (z46 : Value), uu = (Value.pointer (some ⟨p38, o39, none⟩)) ∧ slRep k_Point (G F Bb (un (inBlk av0) S2)) wx y44.points z46 ∧ Seg wx p38 o39 (Group.c y44 z46)), (none, fun fx O uu wx => ∃ (z46_8 : Value), uu = (Value.agg (Group.c y44 z46_8).toArray) ∧ slRep k_Point (G F Bb (un (inBlk av0) S2)) wx y44.points z46_8), (none, fun fx O uu wx => uu = av0), (none, fun fx O uu wx => uu = (Value.int .i64 x20)), (none, fun fx O uu wx => uu = (Value.int .i64 (IntKind.i64.wrap (x20 - 1)))), (none, fun fx O uu wx => ∃ (p48 : Nat) (o49 : Nat) (z56 : Value), uu = (Value.pointer (some ⟨p48, o49, none⟩)) ∧ slRep k_Point (G F Bb (un (inBlk av0) S2)) wx y54.points z56 ∧ Seg wx p48 o49 (Group.c y54 z56)), (none, fun fx O uu wx => ∃ (z56_13 : Value), uu = (Value.agg (Group.c y54 z56_13).toArray) ∧ slRep k_Point (G F Bb (un (inBlk av0) S2)) wx y54.points z56_13), (none, fun fx O uu wx => uu = (Value.int .i64 (a3 y44 y54))), (none, fun fx O uu wx => uu = (Value.bool (decide ((a3 y44 y54) < 0)))), (none, fun fx O uu wx => uu = (Value.bool b60))] [[], [], [0, 1], [2], [3], [3], [3], [3, 5, 6], [3, 7], [3], [3], [3, 10], [3, 9, 11], [3, 12], [3, 4, 8, 13], [3, 14], [3, 15]] [16] nb (fun _ h => h.elim) mixed rfl rfl rfl rfl ?_ ?_
      ·
       refine Each.consS (fun fl O wk hE hN hO ck => ?_) ?_
       ·
        refine rl_move rfl rfl ?_
        exact RL.nil ⟨_, rfl, Ch.refl, rfl⟩
       refine Each.consS (fun fl O wk hE hN hO ck => ?_) ?_
       ·
        refine rl_move rfl rfl ?_
        exact RL.nil ⟨_, rfl, Ch.refl, rfl⟩
       refine Each.consS (fun fl O wk hE hN hO ck => ?_) ?_
       ·
        refine Need.o1 rfl rfl rfl (fun _ h => h) ?_
        refine Need.o1 rfl rfl rfl (fun _ h => h) ?_
        refine rl_bin rfl rfl B.gtr rfl ?_
        exact RL.nil ⟨_, rfl, Ch.refl, rfl⟩
       refine Each.consS (fun fl O wk hE hN hO ck => ?_) ?_
       ·
        refine Need.o1 rfl rfl rfl (fun _ h => h) ?_
        refine rl_move rfl rfl ?_
        exact RL.nil ⟨_, rfl, Ch.refl, rfl⟩
       refine Each.consS (fun fl O wk hE hN hO ck => ?_) ?_
       ·
        refine Need.o1 rfl rfl rfl (fun _ h => h) ?_
        refine RL.yes rfl rfl rfl hg62 ?_
        refine rl_move rfl rfl ?_
        exact RL.nil ⟨_, rfl, Ch.refl, rfl⟩
       refine Each.consS (fun fl O wk hE hN hO ck => ?_) ?_
       ·
        refine Need.o1 rfl rfl rfl (fun _ h => h) ?_
        refine RL.yes rfl rfl rfl hg62 ?_
        refine rl_move rfl rfl ?_
        exact RL.nil ⟨_, rfl, Ch.refl, rfl⟩
       refine Each.consS (fun fl O wk hE hN hO ck => ?_) ?_
       ·
        refine Need.o1 rfl rfl rfl (fun _ h => h) ?_
        refine RL.yes rfl rfl rfl hg62 ?_
        refine rl_move rfl rfl ?_
        exact RL.nil ⟨_, rfl, Ch.refl, rfl⟩
       refine Each.consA ⟨fun _ _ _ _ _ cc hh => by obtain ⟨p38, o39, z46, e, h47, hs42⟩ := hh; exact ⟨p38, o39, z46, e, slRep.ch k_Point_pos h47 cc, hs42.ch0 cc⟩, fun h => absurd rfl h, fun fl O wk hE hN hO ck => ?_⟩ ?_
       ·
        have h22 := h22.ch0 ck
        refine Need.o1 rfl rfl rfl (fun _ h => h) ?_
        refine Need.o1 rfl rfl rfl (fun _ h => h) ?_
        refine Need.o1 rfl rfl rfl (fun _ h => h) ?_
        refine RL.yes rfl rfl rfl hg62 ?_
        refine rl_ixOR rfl h22 rfl (ixO_get hy45) k_Group_pos Tryz.underlying37 Tryz.sizeOf50 rfl ?_
        intro p73 o74 cs75 hr76 hs77 hg78
        obtain ⟨z79, rfl, h80⟩ := hr76
        exact RL.nil ⟨_, rfl, Ch.refl, ⟨p73, o74, z79, rfl, h80, hs77⟩⟩
       refine Each.consA ⟨fun _ _ _ _ _ cc hh => by obtain ⟨z46_8, e, h47_8⟩ := hh; exact ⟨z46_8, e, slRep.ch k_Point_pos h47_8 cc⟩, fun h => absurd rfl h, fun fl O wk hE hN hO ck => ?_⟩ ?_
       ·
        refine Need.o1 rfl rfl rfl (fun _ h => h) ?_
        refine Need.one rfl rfl rfl ?_
        rintro _ ⟨p38, o39, z46, e82, h47, hs42⟩
        obtain rfl := e82.symm
        refine RL.yes rfl rfl rfl hg62 ?_
        refine rl_loadA (cs := (Group.c y44 z46)) rfl Tryz.isAgg50 Tryz.sizeOf50 (hs42) rfl rfl ?_
        exact RL.nil ⟨_, rfl, Ch.refl, ⟨z46, rfl, h47⟩⟩
       refine Each.consS (fun fl O wk hE hN hO ck => ?_) ?_
       ·
        refine Need.o1 rfl rfl rfl (fun _ h => h) ?_
        refine RL.yes rfl rfl rfl hg62 ?_
        refine rl_move rfl rfl ?_
        exact RL.nil ⟨_, rfl, Ch.refl, rfl⟩
       refine Each.consS (fun fl O wk hE hN hO ck => ?_) ?_
       ·
        refine Need.o1 rfl rfl rfl (fun _ h => h) ?_
        refine RL.yes rfl rfl rfl hg62 ?_
        refine rl_move rfl rfl ?_
        exact RL.nil ⟨_, rfl, Ch.refl, rfl⟩
       refine Each.consS (fun fl O wk hE hN hO ck => ?_) ?_
       ·
        refine Need.o1 rfl rfl rfl (fun _ h => h) ?_
        refine Need.o1 rfl rfl rfl (fun _ h => h) ?_
        refine RL.yes rfl rfl rfl hg62 ?_
        refine rl_bin rfl rfl B.sub rfl ?_
        exact RL.nil ⟨_, rfl, Ch.refl, rfl⟩
       refine Each.consA ⟨fun _ _ _ _ _ cc hh => by obtain ⟨p48, o49, z56, e, h57, hs52⟩ := hh; exact ⟨p48, o49, z56, e, slRep.ch k_Point_pos h57 cc, hs52.ch0 cc⟩, fun h => absurd rfl h, fun fl O wk hE hN hO ck => ?_⟩ ?_
       ·
        have h22 := h22.ch0 ck
        refine Need.o1 rfl rfl rfl (fun _ h => h) ?_
        refine Need.o1 rfl rfl rfl (fun _ h => h) ?_
        refine Need.o1 rfl rfl rfl (fun _ h => h) ?_
        refine RL.yes rfl rfl rfl hg62 ?_
        refine rl_ixOR rfl h22 rfl (ixO_get hy55) k_Group_pos Tryz.underlying37 Tryz.sizeOf50 rfl ?_
        intro p90 o91 cs92 hr93 hs94 hg95
        obtain ⟨z96, rfl, h97⟩ := hr93
        exact RL.nil ⟨_, rfl, Ch.refl, ⟨p90, o91, z96, rfl, h97, hs94⟩⟩
       refine Each.consA ⟨fun _ _ _ _ _ cc hh => by obtain ⟨z56_13, e, h57_13⟩ := hh; exact ⟨z56_13, e, slRep.ch k_Point_pos h57_13 cc⟩, fun h => absurd rfl h, fun fl O wk hE hN hO ck => ?_⟩ ?_
       ·
        refine Need.o1 rfl rfl rfl (fun _ h => h) ?_
        refine Need.one rfl rfl rfl ?_
        rintro _ ⟨p48, o49, z56, e99, h57, hs52⟩
        obtain rfl := e99.symm
        refine RL.yes rfl rfl rfl hg62 ?_
        refine rl_loadA (cs := (Group.c y54 z56)) rfl Tryz.isAgg50 Tryz.sizeOf50 (hs52) rfl rfl ?_
        exact RL.nil ⟨_, rfl, Ch.refl, ⟨z56, rfl, h57⟩⟩
       refine Each.consS (fun fl O wk hE hN hO ck => ?_) ?_
       ·
        have ah3 := Kd.ch ah3 ck
        refine Need.o1 rfl rfl rfl (fun _ h => h) ?_
        refine Need.o1 rfl rfl rfl (fun _ h => h) ?_
        refine Need.one rfl rfl rfl ?_
        rintro _ ⟨z46_8, e102, h47_8⟩
        obtain rfl := e102.symm
        refine Need.one rfl rfl rfl ?_
        rintro _ ⟨z56_13, e103, h57_13⟩
        obtain rfl := e103.symm
        refine RL.yes rfl rfl rfl hg62 ?_
        refine rl_fn2 (c := (Group.c y44 z46_8)) (c' := (Group.c y54 z56_13)) rfl rfl rfl rfl rfl ah3 (F' := (G F Bb (un (inBlk av0) S2))) (xx := y44) (yy := y54) (show k_Group.rep (G F Bb (un (inBlk av0) S2)) wk y44 (Group.c y44 z46_8) from ⟨z46_8, rfl, h47_8⟩) (show k_Group.rep (G F Bb (un (inBlk av0) S2)) wk y54 (Group.c y54 z56_13) from ⟨z56_13, rfl, h57_13⟩) rfl ?_
        intro w104 c105
        exact RL.nil ⟨_, rfl, c105, rfl⟩
       refine Each.consS (fun fl O wk hE hN hO ck => ?_) ?_
       ·
        refine Need.o1 rfl rfl rfl (fun _ h => h) ?_
        refine Need.o1 rfl rfl rfl (fun _ h => h) ?_
        refine RL.yes rfl rfl rfl hg62 ?_
        refine rl_bin rfl rfl B.lss rfl ?_
        exact RL.nil ⟨_, rfl, Ch.refl, rfl⟩
       refine Each.consS (fun fl O wk hE hN hO ck => ?_) ?_
       ·
        refine Need.o1 rfl rfl rfl (fun _ h => h) ?_
        refine Need.o1 rfl rfl rfl (fun _ h => h) ?_
        refine rl_pickT rfl hg62 rfl rfl ?_
        exact RL.nil ⟨_, rfl, Ch.refl, congrArg Value.bool (Option.some.inj hs63)⟩
       trivial
      intro hvO112 OpO112 O112 w110 hO113 c111 hN114
      refine Need.o1 rfl rfl rfl (fun _ h => h) ?_
      exact RL.nil ⟨rfl, ⟨rfl, rfl, rfl, rfl, rfl, rfl, rfl, trivial⟩, c111⟩
     have hs116 := andO_f hg62 hb61
     refine CW.draw 17 [(none, fun fx O uu wx => uu = (Value.int .i64 x20)), (none, fun fx O uu wx => uu = (Value.int .i64 a1)), (none, fun fx O uu wx => uu = (Value.bool (decide (x20 > a1)))), (none, fun fx O uu wx => uu = (Value.bool (decide (x20 > a1)))), (none, fun _ O uu wx => uu = undef), (none, fun _ O uu wx => uu = undef), (none, fun _ O uu wx => uu = undef), (none, fun _ O uu wx => uu = undef), (none, fun _ O uu wx => uu = undef), (none, fun _ O uu wx => uu = undef), (none, fun _ O uu wx => uu = undef), (none, fun _ O uu wx => uu = undef), (none, fun _ O uu wx => uu = undef), (none, fun _ O uu wx => uu = undef), (none, fun _ O uu wx => uu = undef), (none, fun _ O uu wx => uu = undef), (none, fun fx O uu wx => uu = (Value.bool b60))] [[], [], [0, 1], [2], [3], [3], [3], [3], [3], [3], [3], [3], [3], [3], [3], [3], [3]] [16] nb (fun _ h => h.elim) mixed rfl rfl rfl rfl ?_ ?_
     ·
      refine Each.consS (fun fl O wk hE hN hO ck => ?_) ?_
      ·
       refine rl_move rfl rfl ?_
       exact RL.nil ⟨_, rfl, Ch.refl, rfl⟩
      refine Each.consS (fun fl O wk hE hN hO ck => ?_) ?_
      ·
       refine rl_move rfl rfl ?_
       exact RL.nil ⟨_, rfl, Ch.refl, rfl⟩
      refine Each.consS (fun fl O wk hE hN hO ck => ?_) ?_
      ·
       refine Need.o1 rfl rfl rfl (fun _ h => h) ?_
       refine Need.o1 rfl rfl rfl (fun _ h => h) ?_
       refine rl_bin rfl rfl B.gtr rfl ?_
       exact RL.nil ⟨_, rfl, Ch.refl, rfl⟩
      refine Each.consS (fun fl O wk hE hN hO ck => ?_) ?_
      ·
       refine Need.o1 rfl rfl rfl (fun _ h => h) ?_
       refine rl_move rfl rfl ?_
       exact RL.nil ⟨_, rfl, Ch.refl, rfl⟩
      refine Each.consS (fun fl O wk hE hN hO ck => ?_) ?_
      ·
       refine Need.o1 rfl rfl rfl (fun _ h => h) ?_
       refine RL.no rfl rfl rfl hg62 rfl rfl ?_
       exact RL.nil ⟨_, rfl, Ch.refl, rfl⟩
      refine Each.consS (fun fl O wk hE hN hO ck => ?_) ?_
      ·
       refine Need.o1 rfl rfl rfl (fun _ h => h) ?_
       refine RL.no rfl rfl rfl hg62 rfl rfl ?_
       exact RL.nil ⟨_, rfl, Ch.refl, rfl⟩
      refine Each.consS (fun fl O wk hE hN hO ck => ?_) ?_
      ·
       refine Need.o1 rfl rfl rfl (fun _ h => h) ?_
       refine RL.no rfl rfl rfl hg62 rfl rfl ?_
       exact RL.nil ⟨_, rfl, Ch.refl, rfl⟩
      refine Each.consS (fun fl O wk hE hN hO ck => ?_) ?_
      ·
       refine Need.o1 rfl rfl rfl (fun _ h => h) ?_
       refine RL.no rfl rfl rfl hg62 rfl rfl ?_
       exact RL.nil ⟨_, rfl, Ch.refl, rfl⟩
      refine Each.consS (fun fl O wk hE hN hO ck => ?_) ?_
      ·
       refine Need.o1 rfl rfl rfl (fun _ h => h) ?_
       refine RL.no rfl rfl rfl hg62 rfl rfl ?_
       exact RL.nil ⟨_, rfl, Ch.refl, rfl⟩
      refine Each.consS (fun fl O wk hE hN hO ck => ?_) ?_
      ·
       refine Need.o1 rfl rfl rfl (fun _ h => h) ?_
       refine RL.no rfl rfl rfl hg62 rfl rfl ?_
       exact RL.nil ⟨_, rfl, Ch.refl, rfl⟩
      refine Each.consS (fun fl O wk hE hN hO ck => ?_) ?_
      ·
       refine Need.o1 rfl rfl rfl (fun _ h => h) ?_
       refine RL.no rfl rfl rfl hg62 rfl rfl ?_
       exact RL.nil ⟨_, rfl, Ch.refl, rfl⟩
      refine Each.consS (fun fl O wk hE hN hO ck => ?_) ?_
      ·
       refine Need.o1 rfl rfl rfl (fun _ h => h) ?_
       refine RL.no rfl rfl rfl hg62 rfl rfl ?_
       exact RL.nil ⟨_, rfl, Ch.refl, rfl⟩
      refine Each.consS (fun fl O wk hE hN hO ck => ?_) ?_
      ·
       refine Need.o1 rfl rfl rfl (fun _ h => h) ?_
       refine RL.no rfl rfl rfl hg62 rfl rfl ?_
       exact RL.nil ⟨_, rfl, Ch.refl, rfl⟩
      refine Each.consS (fun fl O wk hE hN hO ck => ?_) ?_
      ·
       refine Need.o1 rfl rfl rfl (fun _ h => h) ?_
       refine RL.no rfl rfl rfl hg62 rfl rfl ?_
       exact RL.nil ⟨_, rfl, Ch.refl, rfl⟩
      refine Each.consS (fun fl O wk hE hN hO ck => ?_) ?_
      ·
       refine Need.o1 rfl rfl rfl (fun _ h => h) ?_
       refine RL.no rfl rfl rfl hg62 rfl rfl ?_
       exact RL.nil ⟨_, rfl, Ch.refl, rfl⟩
      refine Each.consS (fun fl O wk hE hN hO ck => ?_) ?_
      ·
       refine Need.o1 rfl rfl rfl (fun _ h => h) ?_
       refine RL.no rfl rfl rfl hg62 rfl rfl ?_
       exact RL.nil ⟨_, rfl, Ch.refl, rfl⟩
      refine Each.consS (fun fl O wk hE hN hO ck => ?_) ?_
      ·
       refine Need.o1 rfl rfl rfl (fun _ h => h) ?_
       refine rl_pickF rfl hg62 rfl rfl ?_
       exact RL.nil ⟨_, rfl, Ch.refl, congrArg Value.bool (Option.some.inj hs116)⟩
      trivial
     intro hvO135 OpO135 O135 w133 hO136 c134 hN137
     refine Need.o1 rfl rfl rfl (fun _ h => h) ?_
     exact RL.nil ⟨rfl, ⟨rfl, rfl, rfl, rfl, rfl, rfl, rfl, trivial⟩, c134⟩
    rintro _ w140 ⟨hE139, c141⟩
    have ah3 := Kd.ch ah3 c141
    have h22 := h22.ch0 c141
    have c35 := c35.then0 c141
    refine thn_n (CW.sub [(0, av0), (1, (Value.int .i64 a1)), (2, (Value.int .i64 a2)), (3, av3), (8, (Value.int .i64 x1)), (9, (Value.int .i64 x20)), (34, (Value.bool b60))] hE139 ?_)
    refine CW.cond (t := b60) rfl (fun q142 => ?_) (fun q142 => ?_)
    ·
     have hb29 := ifT q142 hb29
     refine CW.skip ?_
     refine thn_n (CW.seq ?_)
     refine CW.block ?_
     obtain ⟨y149, hy150, hb29⟩ := bindS hb29
     obtain ⟨y159, hy160, hb29⟩ := bindS hb29
     obtain ⟨y169, hy170, hb29⟩ := bindS hb29
     obtain ⟨y181, hy182, hb29⟩ := bindS hb29
     refine CW.draw 16 [(none, fun fx O uu wx => uu = av0), (none, fun fx O uu wx => uu = (Value.int .i64 x20)), (none, fun fx O uu wx => uu = av0), (none, fun fx O uu wx => uu = (Value.int .i64 x20)), (none, fun fx O uu wx => uu = (Value.int .i64 (IntKind.i64.wrap (x20 - 1)))), (none, fun fx O uu wx => uu = av0), (none, fun fx O uu wx => uu = (Value.int .i64 x20)), (none, fun fx O uu wx => uu = (Value.int .i64 (IntKind.i64.wrap (x20 - 1)))), (none, fun fx O uu wx => ∃ (p143 : Nat) (o144 : Nat) (z151 : Value), uu = (Value.pointer (some ⟨p143, o144, none⟩)) ∧ slRep k_Point (G F Bb (un O S2)) wx y149.points z151 ∧ (fx = [] → Seg wx p143 o144 (Group.c y149 z151))), (none, fun fx O uu wx => ∃ (z151_9 : Value), uu = (Value.agg (Group.c y149 z151_9).toArray) ∧ slRep k_Point (G F Bb (un O S2)) wx y149.points z151_9), (none, fun fx O uu wx => uu = av0), (none, fun fx O uu wx => uu = (Value.int .i64 x20)), (none, fun fx O uu wx => ∃ (p153 : Nat) (o154 : Nat) (z161 : Value), uu = (Value.pointer (some ⟨p153, o154, none⟩)) ∧ slRep k_Point (G F Bb (un O S2)) wx y159.points z161 ∧ (fx = [] → Seg wx p153 o154 (Group.c y159 z161))), (none, fun fx O uu wx => ∃ (z161_13 : Value), uu = (Value.agg (Group.c y159 z161_13).toArray) ∧ slRep k_Point (G F Bb (un O S2)) wx y159.points z161_13), (none, fun fx O uu wx => ∃ (p163 : Nat), uu = (Value.pointer (some ⟨p163, x20.toNat * k_Group.n, none⟩)) ∧ inBlk av0 p163), (some true, fun hv O uu wx => hv = [undef] ∧ uu = undef ∧ O = (inBlk av0) ∧ SlO k_Group 50 F Bb (un (inBlk av0) S2) wx (x21.set x20.toNat y149) av0)] [[], [], [], [], [3], [], [], [6], [5, 7], [8], [], [], [10, 11], [12], [0, 1], [9, 14]] [15, 2, 4, 13] (inBlk av0) (fun b h => (fun b hb => (h22.lt b hb).2) b h) mixed rfl rfl rfl rfl ?_ ?_
     ·
      refine Each.consS (fun fl O wk hE hN hO ck => ?_) ?_
      ·
       refine rl_move rfl rfl ?_
       exact RL.nil ⟨_, rfl, Ch.refl, rfl⟩
      refine Each.consS (fun fl O wk hE hN hO ck => ?_) ?_
      ·
       refine rl_move rfl rfl ?_
       exact RL.nil ⟨_, rfl, Ch.refl, rfl⟩
      refine Each.consS (fun fl O wk hE hN hO ck => ?_) ?_
      ·
       refine rl_move rfl rfl ?_
       exact RL.nil ⟨_, rfl, Ch.refl, rfl⟩
      refine Each.consS (fun fl O wk hE hN hO ck => ?_) ?_
      ·
       refine rl_move rfl rfl ?_
       exact RL.nil ⟨_, rfl, Ch.refl, rfl⟩
      refine Each.consS (fun fl O wk hE hN hO ck => ?_) ?_
      ·
       refine Need.o1 rfl rfl rfl (fun _ h => h) ?_
       refine rl_bin rfl rfl B.sub rfl ?_
       exact RL.nil ⟨_, rfl, Ch.refl, rfl⟩
      refine Each.consS (fun fl O wk hE hN hO ck => ?_) ?_
      ·
       refine rl_move rfl rfl ?_
       exact RL.nil ⟨_, rfl, Ch.refl, rfl⟩
      refine Each.consS (fun fl O wk hE hN hO ck => ?_) ?_
      ·
       refine rl_move rfl rfl ?_
       exact RL.nil ⟨_, rfl, Ch.refl, rfl⟩
      refine Each.consS (fun fl O wk hE hN hO ck => ?_) ?_
      ·
       refine Need.o1 rfl rfl rfl (fun _ h => h) ?_
       refine rl_bin rfl rfl B.sub rfl ?_
       exact RL.nil ⟨_, rfl, Ch.refl, rfl⟩
      refine Each.consA ⟨fun _ _ _ _ _ cc hh => by obtain ⟨p143, o144, z151, e, h152, hs147⟩ := hh; exact ⟨p143, o144, z151, e, slRep.ch k_Point_pos h152 cc, (fun hfx => (hs147 hfx).ch0 cc)⟩, fun _ _ h' O O' D _ wx wy hfl hD hO' cc hh => by obtain ⟨p143, o144, z151, e, h152, hs147⟩ := hh; have ad := admGh (S := S2) hD hO'; exact ⟨p143, o144, z151, e, slRep.st k_Point_pos h152 cc ad, (fun hfx => hfl.elim (fun e => by rw [e] at hfx; cases hfx) (fun e => Seg.ch0 (hs147 (e.1.symm.trans hfx)) (cc.mono (fun b _ hd => (e.2 b hd).elim))))⟩, fun fl O wk hE hN hO ck => ?_⟩ ?_
      ·
       obtain ⟨_, hB197⟩ := hN (hE rfl)
       have h22 := h22.ch0 hB197.2.1
       refine Need.o1 rfl rfl rfl (fun _ h => h) ?_
       refine Need.o1 rfl rfl rfl (fun _ h => h) ?_
       refine rl_ixOR rfl h22 rfl (ixO_get hy150) k_Group_pos Tryz.underlying37 Tryz.sizeOf50 rfl ?_
       intro p200 o201 cs202 hr203 hs204 hg205
       obtain ⟨z206, rfl, h207⟩ := hr203
       have h207 := slRep.wk (F' := (G F Bb (un O S2))) k_Point_pos h207 (fun b _ hf => ⟨hf.1, fun h => hf.2 (un_el h (fun ho => ((hB197.1 b).1 ho).elim (fun h => (.inl h)) (fun hk => by obtain ⟨_, hk, _⟩ := hk; cases hk)) (fun h => (.inr h)))⟩)
       exact RL.nil ⟨_, rfl, Ch.refl, ⟨p200, o201, z206, rfl, h207, (fun _ => hs204)⟩⟩
      refine Each.consA ⟨fun _ _ _ _ _ cc hh => by obtain ⟨z151_9, e, h152_9⟩ := hh; exact ⟨z151_9, e, slRep.ch k_Point_pos h152_9 cc⟩, fun _ _ h' O O' D _ wx wy hfl hD hO' cc hh => by obtain ⟨z151_9, e, h152_9⟩ := hh; have ad := admGh (S := S2) hD hO'; exact ⟨z151_9, e, slRep.st k_Point_pos h152_9 cc ad⟩, fun fl O wk hE hN hO ck => ?_⟩ ?_
      ·
       refine Need.one rfl rfl rfl ?_
       rintro _ ⟨p143, o144, z151, e209, h152, hs147⟩
       obtain rfl := e209.symm
       have hs147 := hs147 (hE rfl)
       refine rl_loadA (cs := (Group.c y149 z151)) rfl Tryz.isAgg50 Tryz.sizeOf50 (hs147) rfl rfl ?_
       exact RL.nil ⟨_, rfl, Ch.refl, ⟨z151, rfl, h152⟩⟩
      refine Each.consS (fun fl O wk hE hN hO ck => ?_) ?_
      ·
       refine rl_move rfl rfl ?_
       exact RL.nil ⟨_, rfl, Ch.refl, rfl⟩
      refine Each.consS (fun fl O wk hE hN hO ck => ?_) ?_
      ·
       refine rl_move rfl rfl ?_
       exact RL.nil ⟨_, rfl, Ch.refl, rfl⟩
      refine Each.consA ⟨fun _ _ _ _ _ cc hh => by obtain ⟨p153, o154, z161, e, h162, hs157⟩ := hh; exact ⟨p153, o154, z161, e, slRep.ch k_Point_pos h162 cc, (fun hfx => (hs157 hfx).ch0 cc)⟩, fun _ _ h' O O' D _ wx wy hfl hD hO' cc hh => by obtain ⟨p153, o154, z161, e, h162, hs157⟩ := hh; have ad := admGh (S := S2) hD hO'; exact ⟨p153, o154, z161, e, slRep.st k_Point_pos h162 cc ad, (fun hfx => hfl.elim (fun e => by rw [e] at hfx; cases hfx) (fun e => Seg.ch0 (hs157 (e.1.symm.trans hfx)) (cc.mono (fun b _ hd => (e.2 b hd).elim))))⟩, fun fl O wk hE hN hO ck => ?_⟩ ?_
      ·
       obtain ⟨_, hB212⟩ := hN (hE rfl)
       have h22 := h22.ch0 hB212.2.1
       refine Need.o1 rfl rfl rfl (fun _ h => h) ?_
       refine Need.o1 rfl rfl rfl (fun _ h => h) ?_
       refine rl_ixOR rfl h22 rfl (ixO_get hy160) k_Group_pos Tryz.underlying37 Tryz.sizeOf50 rfl ?_
       intro p215 o216 cs217 hr218 hs219 hg220
       obtain ⟨z221, rfl, h222⟩ := hr218
       have h222 := slRep.wk (F' := (G F Bb (un O S2))) k_Point_pos h222 (fun b _ hf => ⟨hf.1, fun h => hf.2 (un_el h (fun ho => ((hB212.1 b).1 ho).elim (fun h => (.inl h)) (fun hk => by obtain ⟨_, hk, _⟩ := hk; cases hk)) (fun h => (.inr h)))⟩)
       exact RL.nil ⟨_, rfl, Ch.refl, ⟨p215, o216, z221, rfl, h222, (fun _ => hs219)⟩⟩
      refine Each.consA ⟨fun _ _ _ _ _ cc hh => by obtain ⟨z161_13, e, h162_13⟩ := hh; exact ⟨z161_13, e, slRep.ch k_Point_pos h162_13 cc⟩, fun _ _ h' O O' D _ wx wy hfl hD hO' cc hh => by obtain ⟨z161_13, e, h162_13⟩ := hh; have ad := admGh (S := S2) hD hO'; exact ⟨z161_13, e, slRep.st k_Point_pos h162_13 cc ad⟩, fun fl O wk hE hN hO ck => ?_⟩ ?_
      ·
       refine Need.one rfl rfl rfl ?_
       rintro _ ⟨p153, o154, z161, e224, h162, hs157⟩
       obtain rfl := e224.symm
       have hs157 := hs157 (hE rfl)
       refine rl_loadA (cs := (Group.c y159 z161)) rfl Tryz.isAgg50 Tryz.sizeOf50 (hs157) rfl rfl ?_
       exact RL.nil ⟨_, rfl, Ch.refl, ⟨z161, rfl, h162⟩⟩
      refine Each.consA ⟨fun _ _ _ _ _ cc hh => by obtain ⟨p163, e, hg168⟩ := hh; exact ⟨p163, e, hg168⟩, fun _ _ h' O O' D _ wx wy hfl hD hO' cc hh => by obtain ⟨p163, e, hg168⟩ := hh; have ad := admGh (S := S2) hD hO'; exact ⟨p163, e, hg168⟩, fun fl O wk hE hN hO ck => ?_⟩ ?_
      ·
       obtain ⟨_, hB225⟩ := hN (hE rfl)
       have h22 := h22.ch0 hB225.2.1
       refine Need.o1 rfl rfl rfl (fun _ h => h) ?_
       refine Need.o1 rfl rfl rfl (fun _ h => h) ?_
       refine rl_ixO rfl h22 rfl (ixO_get hy170) Tryz.underlying37 Tryz.sizeOf50 rfl ?_
       intro p228 hg233
       exact RL.nil ⟨_, rfl, Ch.refl, ⟨p228, rfl, hg233⟩⟩
      refine Each.consO ⟨fun _ O _ wx wy cc hh => by obtain ⟨eh, e, rfl, ck15_0⟩ := hh; exact ⟨eh, e, rfl, ck15_0.ch0 cc⟩, fun hv Op O wk hO ck hO0 => ?_⟩ ?_
      ·
       obtain ⟨hl, hBg⟩ := hO0 rfl
       obtain rfl := List.eq_nil_of_length_eq_zero hl
       have h22 := h22.ch0 hBg.2.1
       refine Need.one rfl rfl rfl ?_
       rintro _ ⟨z151_9, e234, h152_9⟩
       obtain rfl := e234.symm
       have h152_9 := slRep.wk (F' := (G F Bb (un (inBlk av0) S2))) k_Point_pos h152_9 (fun b _ hf => ⟨hf.1, fun h => hf.2 (un_el h (fun h => (.inl ((hBg.1 b).2 (.inl h)))) (fun h => (.inr h)))⟩)
       refine Need.one rfl rfl rfl ?_
       rintro _ ⟨p163, e235, hg168⟩
       obtain rfl := e235.symm
       refine rl_storeOA rfl rfl Tryz.sizeOf50 h22 hg168 (ixO_lt hy170) (show k_Group.rep (G F Bb (un (inBlk av0) S2)) wk y149 (Group.c y149 z151_9) from ⟨z151_9, rfl, h152_9⟩) ?_
       intro w236 c237 h238
       have hb240 : ∀ b, (inBlk av0) b → (O b ∨ wk.heap.size ≤ b) ∧ b < w236.heap.size := fun b h => ⟨.inl ((hBg.1 b).2 (.inl h)), (fun b hb => (h238.lt b hb).2) b h⟩
       exact RL.nil ⟨_, (inBlk av0), rfl, hb240, (c237.mono (fun b _ h => ((hBg.1 b).2 (.inl h)))), ⟨rfl, rfl, rfl, h238⟩⟩
      trivial
     intro hvO243 OpO243 O243 w241 hO244 c242 hN245
     refine Need.hereN rfl rfl rfl rfl ?_
     rintro ⟨rfl, _, rfl, ck15_0⟩
     have ha247 : ∀ b, b < w140.heap.size → ¬ (un (inBlk av0) S2) b → ¬ (inBlk av0) b ∧ ¬ (un (inBlk av0) S2) b := fun b hb hs => ⟨fun h => hs (.inl h), fun h => un_el h (fun h => (hO244 b h).1.elim (fun h => hs (.inl h)) (fun h => Nat.not_le_of_lt hb h)) (fun h => hs (.inr h))⟩
     have ah3 := Kd.st ah3 c242 ha247
     have c35 := c35.then c242 (fun i hi h => (lin0_0 i h).elim (fun x => x) (fun x => absurd x (Nat.not_le_of_lt hi)))
     refine Need.o1 rfl rfl rfl (fun _ h => h) ?_
     refine Need.o1 rfl rfl rfl (fun _ h => h) ?_
     refine Need.one rfl rfl rfl ?_
     rintro _ ⟨z161_13, e250, h162_13⟩
     obtain rfl := e250.symm
     have h162_13 := slRep.wk (F' := (G F Bb (un (inBlk av0) S2))) k_Point_pos h162_13 (fun b _ hf => ⟨hf.1, fun h => hf.2 (un_el h (fun h => (.inl h)) (fun h => (.inr h)))⟩)
     refine rl_ixO rfl ck15_0 rfl (ixO_get hy182) Tryz.underlying37 Tryz.sizeOf50 rfl ?_
     intro p251 hg256
     refine rl_storeOA rfl rfl Tryz.sizeOf50 ck15_0 hg256 (ixO_lt hy182) (show k_Group.rep (G F Bb (un (inBlk av0) S2)) w241 y159 (Group.c y159 z161_13) from ⟨z161_13, rfl, h162_13⟩) ?_
     intro w257 c258 h259
     have ad260 : ∀ b, b < w241.heap.size → ¬ (un (inBlk av0) S2) b → ¬ (inBlk av0) b ∧ ¬ (un (inBlk av0) S2) b := fun b _ hs => ⟨fun h => hs (.inl h), hs⟩
     have ah3 := Kd.st ah3 c258 ad260
     have c35 := c35.then c258 (fun i hi h => (lin0_0 i h).elim (fun x => x) (fun x => absurd x (Nat.not_le_of_lt hi)))
     refine RL.nil ?_
     refine inB_n ?_
     refine thn_n (CW.region ?_)
     refine rl_move rfl rfl ?_
     refine rl_bin rfl rfl B.sub rfl ?_
     refine rl_assign rfl rfl ?_
     refine RL.nil (thn_n ?_)
     have hLn := runW_next hL25 hq28 hb29
     exact ⟨k34, Nat.lt_succ_self _, [(0, av0), (1, (Value.int .i64 a1)), (2, (Value.int .i64 a2)), (3, av3), (8, (Value.int .i64 x1)), (9, (Value.int .i64 (IntKind.i64.wrap (x20 - 1))))], ⟨rfl, rfl, rfl, rfl, rfl, rfl, trivial⟩, ⟨IntKind.i64.wrap (x20 - 1), (x21.set x20.toNat y149).set (IntKind.i64.wrap (x20 - 1)).toNat y159, rfl, c35, hLn, ah3, h259⟩⟩
    have hb29 := ifF q142 hb29
    refine CW.exit ?_
    refine thn_exit ?_
    refine thn_exit ?_
    refine inB_hit ?_
    have hLf := runW_fin hL25 hq28 hb29
    exact ⟨x20, x21, ⟨rfl, rfl, rfl, rfl, rfl, trivial⟩, c35, hLf, ah3, h22⟩
   rintro _ w262 ⟨x20, x21, hE263, c261, f264, ah3, h22⟩
   have hb10 := finS f264 hb10
   refine inB_n ?_
   refine thn_n (CW.sub [(0, av0), (1, (Value.int .i64 a1)), (2, (Value.int .i64 a2)), (3, av3), (8, (Value.int .i64 x1))] hE263 ?_)
   refine CW.region ?_
   refine rl_move rfl rfl ?_
   refine rl_bin rfl rfl B.add rfl ?_
   refine rl_assign rfl rfl ?_
   refine RL.nil (thn_n ?_)
   have hLn := runW_next hL6 hq9 hb10
   exact ⟨k15, Nat.lt_succ_self _, [(0, av0), (1, (Value.int .i64 a1)), (2, (Value.int .i64 a2)), (3, av3), (8, (Value.int .i64 (IntKind.i64.wrap (x1 + 1))))], ⟨rfl, rfl, rfl, rfl, rfl, trivial⟩, ⟨IntKind.i64.wrap (x1 + 1), x21, rfl, c261, hLn, ah3, h22⟩⟩
  have hb10 := ifF q19 hb10
  refine CW.exit ?_
  refine thn_exit ?_
  refine thn_exit ?_
  refine inB_hit ?_
  have hLf := runW_fin hL6 hq9 hb10
  exact ⟨x1, x2, trivial, c16, hLf, ah3, h3⟩
 rintro _ w267 ⟨x1, x2, hE268, c266, f269, ah3, h3⟩
 have hS := finS f269 hS
 obtain rfl := Option.some.inj hS
 exact ⟨[], trivial, ⟨rfl, h3, c266⟩⟩
/-- slices.swapRangeCmpFunc[lb/resolve.Group] -/
theorem ctr131 (F : Nat → Prop) (w : World) (Bb : Nat) (S2 : Nat → Prop) (hB : Bb ≤ w.heap.size) (h2 : ∀ b, S2 b → b < w.heap.size) (av0 : Value) (hd2 : ∀ b, (inBlk av0) b → ¬ S2 b) (a0 : (List Group)) (ah0 : SlO k_Group 50 F Bb (un (inBlk av0) S2) w a0 av0) (a1 : Int) (a2 : Int) (a3 : Int) (a4 : (Group → Group → Int)) (av4 : Value) (ah4 : (Kd.fn2 Tryz.prog true true k_Group k_Group (Value.int .i64)).rep (G F Bb (un (inBlk av0) S2)) w a4 [av4]) (r : (List Group)) (hs : F131_Group a0 a1 a2 a3 a4 = some r) :
    Ret Tryz.prog 131 #[av0, (Value.int .i64 a1), (Value.int .i64 a2), (Value.int .i64 a3), av4] w fun v w' => v = Value.tuple #[] ∧ SlO k_Group 50 F Bb (un (inBlk av0) S2) w' r av0 ∧ Ch (inBlk av0) w w' := by
 have hS := hs
 have c0 : Ch (inBlk av0) w w := Ch.refl
 have lin0_0 : ∀ b, inBlk av0 b → (inBlk av0) b ∨ w.heap.size ≤ b := fun b h => .inl h
 refine Ret.of (n := 38) (args := [_, _, _, _, _]) (rs := []) Tryz.func131 rfl rfl rfl rfl ?_
 refine CW.seq (CW.region ?_)
 refine rl_assign rfl rfl ?_
 refine RL.nil (thn_n ?_)
 obtain ⟨o11, ho12, hS⟩ := bindS hS
 refine CW.cutB (fun E' w' => ∃ (x1 : Int) (x2 : (List Group)), Sub [] E' ∧ Ch (inBlk av0) w w' ∧ Lp.fin (x1, x2) = o11 ∧ (Kd.fn2 Tryz.prog true true k_Group k_Group (Value.int .i64)).rep (G F Bb (un (inBlk av0) S2)) w' a4 [av4] ∧ SlO k_Group 50 F Bb (un (inBlk av0) S2) w' x2 av0) ?_ ?_
 ·
  refine CW.loopS [(0, av0), (1, (Value.int .i64 a1)), (2, (Value.int .i64 a2)), (3, (Value.int .i64 a3)), (10, (Value.int .i64 0))] ⟨rfl, rfl, rfl, rfl, rfl, trivial⟩ FUEL (fun m E w' => ∃ (x1 : Int) (x2 : (List Group)), E = [(0, av0), (1, (Value.int .i64 a1)), (2, (Value.int .i64 a2)), (3, (Value.int .i64 a3)), (10, (Value.int .i64 x1))] ∧ Ch (inBlk av0) w w' ∧ runW (F131_Group_b1 a1 a2 a3) m (x1, x2) = some o11 ∧ (Kd.fn2 Tryz.prog true true k_Group k_Group (Value.int .i64)).rep (G F Bb (un (inBlk av0) S2)) w' a4 [av4] ∧ SlO k_Group 50 F Bb (un (inBlk av0) S2) w' x2 av0)
      ⟨0, a0, rfl, c0, ho12, ah4, ah0⟩ ?_
  rintro _ _ w17 ⟨x1, x2, rfl, c16, hL6, ah4, h3⟩
  obtain ⟨k15, q8, rfl, hq9⟩ := runW_some hL6
  have hb10 := hq9
  refine CW.seq ?_
  refine CW.seq (CW.region ?_)
  refine rl_move rfl rfl ?_
  refine rl_move rfl rfl ?_
  refine rl_bin rfl rfl B.lss rfl ?_
  refine RL.nil (thn_n ?_)
  refine CW.cond (t := decide (x1 < a3)) rfl (fun q19 => ?_) (fun q19 => ?_)
  ·
   have hb10 := ifT q19 hb10
   refine CW.skip ?_
   refine thn_n (CW.seq ?_)
   refine CW.block ?_
   obtain ⟨y26, hy27, hb10⟩ := bindS hb10
   obtain ⟨y36, hy37, hb10⟩ := bindS hb10
   obtain ⟨y46, hy47, hb10⟩ := bindS hb10
   obtain ⟨y58, hy59, hb10⟩ := bindS hb10
   refine CW.draw 22 [(none, fun fx O uu wx => uu = av0), (none, fun fx O uu wx => uu = (Value.int .i64 a1)), (none, fun fx O uu wx => uu = (Value.int .i64 x1)), (none, fun fx O uu wx => uu = (Value.int .i64 (IntKind.i64.wrap (a1 + x1)))), (none, fun fx O uu wx => uu = av0), (none, fun fx O uu wx => uu = (Value.int .i64 a2)), (none, fun fx O uu wx => uu = (Value.int .i64 x1)), (none, fun fx O uu wx => uu = (Value.int .i64 (IntKind.i64.wrap (a2 + x1)))), (none, fun fx O uu wx => uu = av0), (none, fun fx O uu wx => uu = (Value.int .i64 a2)), (none, fun fx O uu wx => uu = (Value.int .i64 x1)), (none, fun fx O uu wx => uu = (Value.int .i64 (IntKind.i64.wrap (a2 + x1)))), (none, fun fx O uu wx => ∃ (p20 : Nat) (o21 : Nat) (z28 : Value), uu = (Value.pointer (some ⟨p20, o21, none⟩)) ∧ slRep k_Point (G F Bb (un O S2)) wx y26.points z28 ∧ (fx = [] → Seg wx p20 o21 (Group.c y26 z28))), (none, fun fx O uu wx => ∃ (z28_13 : Value), uu = (Value.agg (Group.c y26 z28_13).toArray) ∧ slRep k_Point (G F Bb (un O S2)) wx y26.points z28_13), (none, fun fx O uu wx => uu = av0), (none, fun fx O uu wx => uu = (Value.int .i64 a1)), (none, fun fx O uu wx => uu = (Value.int .i64 x1)), (none, fun fx O uu wx => uu = (Value.int .i64 (IntKind.i64.wrap (a1 + x1)))), (none, fun fx O uu wx => ∃ (p30 : Nat) (o31 : Nat) (z38 : Value), uu = (Value.pointer (some ⟨p30, o31, none⟩)) ∧ slRep k_Point (G F Bb (un O S2)) wx y36.points z38 ∧ (fx = [] → Seg wx p30 o31 (Group.c y36 z38))), (none, fun fx O uu wx => ∃ (z38_19 : Value), uu = (Value.agg (Group.c y36 z38_19).toArray) ∧ slRep k_Point (G F Bb (un O S2)) wx y36.points z38_19), (none, fun fx O uu wx => ∃ (p40 : Nat), uu = (Value.pointer (some ⟨p40, (IntKind.i64.wrap (a1 + x1)).toNat * k_Group.n, none⟩)) ∧ inBlk av0 p40), (some true, fun hv O uu wx => hv = [undef] ∧ uu = undef ∧ O = (inBlk av0) ∧ SlO k_Group 50 F Bb (un (inBlk av0) S2) wx (x2.set (IntKind.i64.wrap (a1 + x1)).toNat y26) av0)] [[], [], [], [1, 2], [], [], [], [5, 6], [], [], [], [9, 10], [8, 11], [12], [], [], [], [15, 16], [14, 17], [18], [0, 3], [13, 20]] [21, 4, 7, 19] (inBlk av0) (fun b h => (fun b hb => (h3.lt b hb).2) b h) mixed rfl rfl rfl rfl ?_ ?_
   ·
    refine Each.consS (fun fl O wk hE hN hO ck => ?_) ?_
    ·
     refine rl_move rfl rfl ?_
     exact RL.nil ⟨_, rfl, Ch.refl, rfl⟩
    refine Each.consS (fun fl O wk hE hN hO ck => ?_) ?_
    ·
     refine rl_move rfl rfl ?_
     exact RL.nil ⟨_, rfl, Ch.refl, rfl⟩
    refine Each.consS (fun fl O wk hE hN hO ck => ?_) ?_
    ·
     refine rl_move rfl rfl ?_
     exact RL.nil ⟨_, rfl, Ch.refl, rfl⟩
    refine Each.consS (fun fl O wk hE hN hO ck => ?_) ?_
    ·
     refine Need.o1 rfl rfl rfl (fun _ h => h) ?_
     refine Need.o1 rfl rfl rfl (fun _ h => h) ?_
     refine rl_bin rfl rfl B.add rfl ?_
     exact RL.nil ⟨_, rfl, Ch.refl, rfl⟩
    refine Each.consS (fun fl O wk hE hN hO ck => ?_) ?_
    ·
     refine rl_move rfl rfl ?_
     exact RL.nil ⟨_, rfl, Ch.refl, rfl⟩
    refine Each.consS (fun fl O wk hE hN hO ck => ?_) ?_
    ·
     refine rl_move rfl rfl ?_
     exact RL.nil ⟨_, rfl, Ch.refl, rfl⟩
    refine Each.consS (fun fl O wk hE hN hO ck => ?_) ?_
    ·
     refine rl_move rfl rfl ?_
     exact RL.nil ⟨_, rfl, Ch.refl, rfl⟩
    refine Each.consS (fun fl O wk hE hN hO ck => ?_) ?_
    ·
     refine Need.o1 rfl rfl rfl (fun _ h => h) ?_
     refine Need.o1 rfl rfl rfl (fun _ h => h) ?_
     refine rl_bin rfl rfl B.add rfl ?_
     exact RL.nil ⟨_, rfl, Ch.refl, rfl⟩
    refine Each.consS (fun fl O wk hE hN hO ck => ?_) ?_
    ·
     refine rl_move rfl rfl ?_
     exact RL.nil ⟨_, rfl, Ch.refl, rfl⟩
    refine Each.consS (fun fl O wk hE hN hO ck => ?_) ?_
    ·
     refine rl_move rfl rfl ?_
     exact RL.nil ⟨_, rfl, Ch.refl, rfl⟩
    refine Each.consS (fun fl O wk hE hN hO ck => ?_) ?_
    ·
     refine rl_move rfl rfl ?_
     exact RL.nil ⟨_, rfl, Ch.refl, rfl⟩
    refine Each.consS (fun fl O wk hE hN hO ck => ?_) ?_
    ·
     refine Need.o1 rfl rfl rfl (fun _ h => h) ?_
     refine Need.o1 rfl rfl rfl (fun _ h => h) ?_
     refine rl_bin rfl rfl B.add rfl ?_
     exact RL.nil ⟨_, rfl, Ch.refl, rfl⟩
    refine Each.consA ⟨fun _ _ _ _ _ cc hh => by obtain ⟨p20, o21, z28, e, h29, hs24⟩ := hh; exact ⟨p20, o21, z28, e, slRep.ch k_Point_pos h29 cc, (fun hfx => (hs24 hfx).ch0 cc)⟩, fun _ _ h' O O' D _ wx wy hfl hD hO' cc hh => by obtain ⟨p20, o21, z28, e, h29, hs24⟩ := hh; have ad := admGh (S := S2) hD hO'; exact ⟨p20, o21, z28, e, slRep.st k_Point_pos h29 cc ad, (fun hfx => hfl.elim (fun e => by rw [e] at hfx; cases hfx) (fun e => Seg.ch0 (hs24 (e.1.symm.trans hfx)) (cc.mono (fun b _ hd => (e.2 b hd).elim))))⟩, fun fl O wk hE hN hO ck => ?_⟩ ?_
    ·
     obtain ⟨_, hB82⟩ := hN (hE rfl)
     have h3 := h3.ch0 hB82.2.1
     refine Need.o1 rfl rfl rfl (fun _ h => h) ?_
     refine Need.o1 rfl rfl rfl (fun _ h => h) ?_
     refine rl_ixOR rfl h3 rfl (ixO_get hy27) k_Group_pos Tryz.underlying37 Tryz.sizeOf50 rfl ?_
     intro p85 o86 cs87 hr88 hs89 hg90
     obtain ⟨z91, rfl, h92⟩ := hr88
     have h92 := slRep.wk (F' := (G F Bb (un O S2))) k_Point_pos h92 (fun b _ hf => ⟨hf.1, fun h => hf.2 (un_el h (fun ho => ((hB82.1 b).1 ho).elim (fun h => (.inl h)) (fun hk => by obtain ⟨_, hk, _⟩ := hk; cases hk)) (fun h => (.inr h)))⟩)
     exact RL.nil ⟨_, rfl, Ch.refl, ⟨p85, o86, z91, rfl, h92, (fun _ => hs89)⟩⟩
    refine Each.consA ⟨fun _ _ _ _ _ cc hh => by obtain ⟨z28_13, e, h29_13⟩ := hh; exact ⟨z28_13, e, slRep.ch k_Point_pos h29_13 cc⟩, fun _ _ h' O O' D _ wx wy hfl hD hO' cc hh => by obtain ⟨z28_13, e, h29_13⟩ := hh; have ad := admGh (S := S2) hD hO'; exact ⟨z28_13, e, slRep.st k_Point_pos h29_13 cc ad⟩, fun fl O wk hE hN hO ck => ?_⟩ ?_
    ·
     refine Need.one rfl rfl rfl ?_
     rintro _ ⟨p20, o21, z28, e94, h29, hs24⟩
     obtain rfl := e94.symm
     have hs24 := hs24 (hE rfl)
     refine rl_loadA (cs := (Group.c y26 z28)) rfl Tryz.isAgg50 Tryz.sizeOf50 (hs24) rfl rfl ?_
     exact RL.nil ⟨_, rfl, Ch.refl, ⟨z28, rfl, h29⟩⟩
    refine Each.consS (fun fl O wk hE hN hO ck => ?_) ?_
    ·
     refine rl_move rfl rfl ?_
     exact RL.nil ⟨_, rfl, Ch.refl, rfl⟩
    refine Each.consS (fun fl O wk hE hN hO ck => ?_) ?_
    ·
     refine rl_move rfl rfl ?_
     exact RL.nil ⟨_, rfl, Ch.refl, rfl⟩
    refine Each.consS (fun fl O wk hE hN hO ck => ?_) ?_
    ·
     refine rl_move rfl rfl ?_
     exact RL.nil ⟨_, rfl, Ch.refl, rfl⟩
    refine Each.consS (fun fl O wk hE hN hO ck => ?_) ?_
    ·
     refine Need.o1 rfl rfl rfl (fun _ h => h) ?_
     refine Need.o1 rfl rfl rfl (fun _ h => h) ?_
     refine rl_bin rfl rfl B.add rfl ?_
     exact RL.nil ⟨_, rfl, Ch.refl, rfl⟩
    refine Each.consA ⟨fun _ _ _ _ _ cc hh => by obtain ⟨p30, o31, z38, e, h39, hs34⟩ := hh; exact ⟨p30, o31, z38, e, slRep.ch k_Point_pos h39 cc, (fun hfx => (hs34 hfx).ch0 cc)⟩, fun _ _ h' O O' D _ wx wy hfl hD hO' cc hh => by obtain ⟨p30, o31, z38, e, h39, hs34⟩ := hh; have ad := admGh (S := S2) hD hO'; exact ⟨p30, o31, z38, e, slRep.st k_Point_pos h39 cc ad, (fun hfx => hfl.elim (fun e => by rw [e] at hfx; cases hfx) (fun e => Seg.ch0 (hs34 (e.1.symm.trans hfx)) (cc.mono (fun b _ hd => (e.2 b hd).elim))))⟩, fun fl O wk hE hN hO ck => ?_⟩ ?_
    ·
     obtain ⟨_, hB101⟩ := hN (hE rfl)
     have h3 := h3.ch0 hB101.2.1
     refine Need.o1 rfl rfl rfl (fun _ h => h) ?_
     refine Need.o1 rfl rfl rfl (fun _ h => h) ?_
     refine rl_ixOR rfl h3 rfl (ixO_get hy37) k_Group_pos Tryz.underlying37 Tryz.sizeOf50 rfl ?_
     intro p104 o105 cs106 hr107 hs108 hg109
     obtain ⟨z110, rfl, h111⟩ := hr107
     have h111 := slRep.wk (F' := (G F Bb (un O S2))) k_Point_pos h111 (fun b _ hf => ⟨hf.1, fun h => hf.2 (un_el h (fun ho => ((hB101.1 b).1 ho).elim (fun h => (.inl h)) (fun hk => by obtain ⟨_, hk, _⟩ := hk; cases hk)) (fun h => (.inr h)))⟩)
     exact RL.nil ⟨_, rfl, Ch.refl, ⟨p104, o105, z110, rfl, h111, (fun _ => hs108)⟩⟩
    refine Each.consA ⟨fun _ _ _ _ _ cc hh => by obtain ⟨z38_19, e, h39_19⟩ := hh; exact ⟨z38_19, e, slRep.ch k_Point_pos h39_19 cc⟩, fun _ _ h' O O' D _ wx wy hfl hD hO' cc hh => by obtain ⟨z38_19, e, h39_19⟩ := hh; have ad := admGh (S := S2) hD hO'; exact ⟨z38_19, e, slRep.st k_Point_pos h39_19 cc ad⟩, fun fl O wk hE hN hO ck => ?_⟩ ?_
    ·
     refine Need.one rfl rfl rfl ?_
     rintro _ ⟨p30, o31, z38, e113, h39, hs34⟩
     obtain rfl := e113.symm
     have hs34 := hs34 (hE rfl)
     refine rl_loadA (cs := (Group.c y36 z38)) rfl Tryz.isAgg50 Tryz.sizeOf50 (hs34) rfl rfl ?_
     exact RL.nil ⟨_, rfl, Ch.refl, ⟨z38, rfl, h39⟩⟩
    refine Each.consA ⟨fun _ _ _ _ _ cc hh => by obtain ⟨p40, e, hg45⟩ := hh; exact ⟨p40, e, hg45⟩, fun _ _ h' O O' D _ wx wy hfl hD hO' cc hh => by obtain ⟨p40, e, hg45⟩ := hh; have ad := admGh (S := S2) hD hO'; exact ⟨p40, e, hg45⟩, fun fl O wk hE hN hO ck => ?_⟩ ?_
    ·
     obtain ⟨_, hB114⟩ := hN (hE rfl)
     have h3 := h3.ch0 hB114.2.1
     refine Need.o1 rfl rfl rfl (fun _ h => h) ?_
     refine Need.o1 rfl rfl rfl (fun _ h => h) ?_
     refine rl_ixO rfl h3 rfl (ixO_get hy47) Tryz.underlying37 Tryz.sizeOf50 rfl ?_
     intro p117 hg122
     exact RL.nil ⟨_, rfl, Ch.refl, ⟨p117, rfl, hg122⟩⟩
    refine Each.consO ⟨fun _ O _ wx wy cc hh => by obtain ⟨eh, e, rfl, ck21_0⟩ := hh; exact ⟨eh, e, rfl, ck21_0.ch0 cc⟩, fun hv Op O wk hO ck hO0 => ?_⟩ ?_
    ·
     obtain ⟨hl, hBg⟩ := hO0 rfl
     obtain rfl := List.eq_nil_of_length_eq_zero hl
     have h3 := h3.ch0 hBg.2.1
     refine Need.one rfl rfl rfl ?_
     rintro _ ⟨z28_13, e123, h29_13⟩
     obtain rfl := e123.symm
     have h29_13 := slRep.wk (F' := (G F Bb (un (inBlk av0) S2))) k_Point_pos h29_13 (fun b _ hf => ⟨hf.1, fun h => hf.2 (un_el h (fun h => (.inl ((hBg.1 b).2 (.inl h)))) (fun h => (.inr h)))⟩)
     refine Need.one rfl rfl rfl ?_
     rintro _ ⟨p40, e124, hg45⟩
     obtain rfl := e124.symm
     refine rl_storeOA rfl rfl Tryz.sizeOf50 h3 hg45 (ixO_lt hy47) (show k_Group.rep (G F Bb (un (inBlk av0) S2)) wk y26 (Group.c y26 z28_13) from ⟨z28_13, rfl, h29_13⟩) ?_
     intro w125 c126 h127
     have hb129 : ∀ b, (inBlk av0) b → (O b ∨ wk.heap.size ≤ b) ∧ b < w125.heap.size := fun b h => ⟨.inl ((hBg.1 b).2 (.inl h)), (fun b hb => (h127.lt b hb).2) b h⟩
     exact RL.nil ⟨_, (inBlk av0), rfl, hb129, (c126.mono (fun b _ h => ((hBg.1 b).2 (.inl h)))), ⟨rfl, rfl, rfl, h127⟩⟩
    trivial
   intro hvO132 OpO132 O132 w130 hO133 c131 hN134
   refine Need.hereN rfl rfl rfl rfl ?_
   rintro ⟨rfl, _, rfl, ck21_0⟩
   have ha136 : ∀ b, b < w17.heap.size → ¬ (un (inBlk av0) S2) b → ¬ (inBlk av0) b ∧ ¬ (un (inBlk av0) S2) b := fun b hb hs => ⟨fun h => hs (.inl h), fun h => un_el h (fun h => (hO133 b h).1.elim (fun h => hs (.inl h)) (fun h => Nat.not_le_of_lt hb h)) (fun h => hs (.inr h))⟩
   have ah4 := Kd.st ah4 c131 ha136
   have c16 := c16.then c131 (fun i hi h => (lin0_0 i h).elim (fun x => x) (fun x => absurd x (Nat.not_le_of_lt hi)))
   refine Need.o1 rfl rfl rfl (fun _ h => h) ?_
   refine Need.o1 rfl rfl rfl (fun _ h => h) ?_
   refine Need.one rfl rfl rfl ?_
   rintro _ ⟨z38_19, e139, h39_19⟩
   obtain rfl := e139.symm
   have h39_19 := slRep.wk (F' := (G F Bb (un (inBlk av0) S2))) k_Point_pos h39_19 (fun b _ hf => ⟨hf.1, fun h => hf.2 (un_el h (fun h => (.inl h)) (fun h => (.inr h)))⟩)
   refine rl_ixO rfl ck21_0 rfl (ixO_get hy59) Tryz.underlying37 Tryz.sizeOf50 rfl ?_
   intro p140 hg145
   refine rl_storeOA rfl rfl Tryz.sizeOf50 ck21_0 hg145 (ixO_lt hy59) (show k_Group.rep (G F Bb (un (inBlk av0) S2)) w130 y36 (Group.c y36 z38_19) from ⟨z38_19, rfl, h39_19⟩) ?_
   intro w146 c147 h148
   have ad149 : ∀ b, b < w130.heap.size → ¬ (un (inBlk av0) S2) b → ¬ (inBlk av0) b ∧ ¬ (un (inBlk av0) S2) b := fun b _ hs => ⟨fun h => hs (.inl h), hs⟩
   have ah4 := Kd.st ah4 c147 ad149
   have c16 := c16.then c147 (fun i hi h => (lin0_0 i h).elim (fun x => x) (fun x => absurd x (Nat.not_le_of_lt hi)))
   refine RL.nil ?_
   refine inB_n ?_
   refine thn_n (CW.region ?_)
   refine rl_move rfl rfl ?_
   refine rl_bin rfl rfl B.add rfl ?_
   refine rl_assign rfl rfl ?_
   refine RL.nil (thn_n ?_)
   have hLn := runW_next hL6 hq9 hb10
   exact ⟨k15, Nat.lt_succ_self _, [(0, av0), (1, (Value.int .i64 a1)), (2, (Value.int .i64 a2)), (3, (Value.int .i64 a3)), (10, (Value.int .i64 (IntKind.i64.wrap (x1 + 1))))], ⟨rfl, rfl, rfl, rfl, rfl, trivial⟩, ⟨IntKind.i64.wrap (x1 + 1), (x2.set (IntKind.i64.wrap (a1 + x1)).toNat y26).set (IntKind.i64.wrap (a2 + x1)).toNat y36, rfl, c16, hLn, ah4, h148⟩⟩
  have hb10 := ifF q19 hb10
  refine CW.exit ?_
  refine thn_exit ?_
  refine thn_exit ?_
  refine inB_hit ?_
  have hLf := runW_fin hL6 hq9 hb10
  exact ⟨x1, x2, trivial, c16, hLf, ah4, h3⟩
 rintro _ w151 ⟨x1, x2, hE152, c150, f153, ah4, h3⟩
 have hS := finS f153 hS
 obtain rfl := Option.some.inj hS
 exact ⟨[], trivial, ⟨rfl, h3, c150⟩⟩
/-- slices.rotateCmpFunc[lb/resolve.Group] -/
theorem ctr101 (F : Nat → Prop) (w : World) (Bb : Nat) (S2 : Nat → Prop) (hB : Bb ≤ w.heap.size) (h2 : ∀ b, S2 b → b < w.heap.size) (av0 : Value) (hd2 : ∀ b, (inBlk av0) b → ¬ S2 b) (a0 : (List Group)) (ah0 : SlO k_Group 50 F Bb (un (inBlk av0) S2) w a0 av0) (a1 : Int) (a2 : Int) (a3 : Int) (a4 : (Group → Group → Int)) (av4 : Value) (ah4 : (Kd.fn2 Tryz.prog true true k_Group k_Group (Value.int .i64)).rep (G F Bb (un (inBlk av0) S2)) w a4 [av4]) (r : (List Group)) (hs : F101_Group a0 a1 a2 a3 a4 = some r) :
    Ret Tryz.prog 101 #[av0, (Value.int .i64 a1), (Value.int .i64 a2), (Value.int .i64 a3), av4] w fun v w' => v = Value.tuple #[] ∧ SlO k_Group 50 F Bb (un (inBlk av0) S2) w' r av0 ∧ Ch (inBlk av0) w w' := by
 have hS := hs
 have c0 : Ch (inBlk av0) w w := Ch.refl
 have lin0_0 : ∀ b, inBlk av0 b → (inBlk av0) b ∨ w.heap.size ≤ b := fun b h => .inl h
 refine Ret.of (n := 58) (args := [_, _, _, _, _]) (rs := []) Tryz.func101 rfl rfl rfl rfl ?_
 refine CW.seq (CW.region ?_)
 refine rl_move rfl rfl ?_
 refine rl_move rfl rfl ?_
 refine rl_bin rfl rfl B.sub rfl ?_
 refine rl_assign rfl rfl ?_
 refine RL.nil (thn_n (CW.seq (CW.region ?_)))
 refine rl_move rfl rfl ?_
 refine rl_move rfl rfl ?_
 refine rl_bin rfl rfl B.sub rfl ?_
 refine rl_assign rfl rfl ?_
 refine RL.nil (thn_n (CW.seq ?_))
 obtain ⟨o12, ho13, hS⟩ := bindS hS
 refine CW.cutB (fun E' w' => ∃ (x1 : Int) (x2 : Int) (x3 : (List Group)), Sub [(0, av0), (2, (Value.int .i64 a2)), (4, av4), (10, (Value.int .i64 x1))] E' ∧ Ch (inBlk av0) w w' ∧ Lp.fin (x1, x2, x3) = o12 ∧ (Kd.fn2 Tryz.prog true true k_Group k_Group (Value.int .i64)).rep (G F Bb (un (inBlk av0) S2)) w' a4 [av4] ∧ SlO k_Group 50 F Bb (un (inBlk av0) S2) w' x3 av0) ?_ ?_
 ·
  refine CW.loopS [(0, av0), (2, (Value.int .i64 a2)), (4, av4), (10, (Value.int .i64 (IntKind.i64.wrap (a2 - a1)))), (11, (Value.int .i64 (IntKind.i64.wrap (a3 - a2))))] ⟨rfl, rfl, rfl, rfl, rfl, trivial⟩ FUEL (fun m E w' => ∃ (x1 : Int) (x2 : Int) (x3 : (List Group)), E = [(0, av0), (2, (Value.int .i64 a2)), (4, av4), (10, (Value.int .i64 x1)), (11, (Value.int .i64 x2))] ∧ Ch (inBlk av0) w w' ∧ runW (F101_Group_b1 a2 a4) m (x1, x2, x3) = some o12 ∧ (Kd.fn2 Tryz.prog true true k_Group k_Group (Value.int .i64)).rep (G F Bb (un (inBlk av0) S2)) w' a4 [av4] ∧ SlO k_Group 50 F Bb (un (inBlk av0) S2) w' x3 av0)
      ⟨IntKind.i64.wrap (a2 - a1), IntKind.i64.wrap (a3 - a2), a0, rfl, c0, ho13, ah4, ah0⟩ ?_
  rintro _ _ w18 ⟨x1, x2, x3, rfl, c17, hL7, ah4, h4⟩
  obtain ⟨k16, q9, rfl, hq10⟩ := runW_some hL7
  have hb11 := hq10
  refine CW.seq ?_
  refine CW.seq (CW.region ?_)
  refine rl_move rfl rfl ?_
  refine rl_move rfl rfl ?_
  refine rl_bin rfl rfl B.neq rfl ?_
  refine RL.nil (thn_n ?_)
  refine CW.cond (t := !decide (x1 = x2)) rfl (fun q20 => ?_) (fun q20 => ?_)
  ·
   have hb11 := ifT q20 hb11
   refine CW.skip ?_
   refine thn_n (CW.block ?_)
   refine CW.seq (CW.region ?_)
   refine rl_move rfl rfl ?_
   refine rl_move rfl rfl ?_
   refine rl_bin rfl rfl B.gtr rfl ?_
   refine RL.nil (thn_n ?_)
   refine CW.cond (t := decide (x1 > x2)) rfl (fun q21 => ?_) (fun q21 => ?_)
   ·
    have hb11 := ifT q21 hb11
    refine CW.seq (CW.region ?_)
    refine rl_move rfl rfl ?_
    refine rl_move rfl rfl ?_
    refine rl_move rfl rfl ?_
    refine rl_bin rfl rfl B.sub rfl ?_
    refine rl_move rfl rfl ?_
    refine rl_move rfl rfl ?_
    refine rl_move rfl rfl ?_
    have hd22 : ∀ b, (inBlk av0) b → ¬ S2 b := fun b h => (fun b hb => linNot lin0_0 hd2 h2 b hb) b h
    have hS23 : (un (inBlk av0) S2) = (un (inBlk av0) S2) := rfl
    have ha24 := ah4
    rw [hS23] at ha24
    obtain ⟨y27, hy28, hb11⟩ := bindS hb11
    refine rl_callF rfl en131 rfl (ctr131 F w18 Bb S2 (Nat.le_trans hB c17.size) (fun b h => Nat.lt_of_lt_of_le (h2 b h) c17.size) av0 hd22  x3 (hS23 ▸ h4) (IntKind.i64.wrap (a2 - x1)) a2 x2 a4 av4 ha24 y27 hy28) ?_
    rintro _ w25 ⟨rfl, h29, c26⟩
    rw [← hS23] at h29
    have ad30 : ∀ b, b < w18.heap.size → ¬ (un (inBlk av0) S2) b → ¬ (inBlk av0) b ∧ ¬ (un (inBlk av0) S2) b := fun b _ hs => ⟨fun h => hs (.inl h), hs⟩
    have ah4 := Kd.st ah4 c26 ad30
    have c17 := c17.then c26 (fun i hi h => (lin0_0 i h).elim (fun x => x) (fun x => absurd x (Nat.not_le_of_lt hi)))
    refine RL.nil (thn_n (CW.region ?_))
    refine rl_move rfl rfl ?_
    refine rl_move rfl rfl ?_
    refine rl_bin rfl rfl B.sub rfl ?_
    refine rl_assign rfl rfl ?_
    refine RL.nil ?_
    refine inB_n ?_
    refine thn_n ?_
    have hLn := runW_next hL7 hq10 hb11
    exact ⟨k16, Nat.lt_succ_self _, [(0, av0), (2, (Value.int .i64 a2)), (4, av4), (10, (Value.int .i64 (IntKind.i64.wrap (x1 - x2)))), (11, (Value.int .i64 x2))], ⟨rfl, rfl, rfl, rfl, rfl, trivial⟩, ⟨IntKind.i64.wrap (x1 - x2), x2, y27, rfl, c17, hLn, ah4, h29⟩⟩
   have hb11 := ifF q21 hb11
   refine CW.seq (CW.region ?_)
   refine rl_move rfl rfl ?_
   refine rl_move rfl rfl ?_
   refine rl_move rfl rfl ?_
   refine rl_bin rfl rfl B.sub rfl ?_
   refine rl_move rfl rfl ?_
   refine rl_move rfl rfl ?_
   refine rl_bin rfl rfl B.add rfl ?_
   refine rl_move rfl rfl ?_
   refine rl_bin rfl rfl B.sub rfl ?_
   refine rl_move rfl rfl ?_
   refine rl_move rfl rfl ?_
   have hd31 : ∀ b, (inBlk av0) b → ¬ S2 b := fun b h => (fun b hb => linNot lin0_0 hd2 h2 b hb) b h
   have hS32 : (un (inBlk av0) S2) = (un (inBlk av0) S2) := rfl
   have ha33 := ah4
   rw [hS32] at ha33
   obtain ⟨y36, hy37, hb11⟩ := bindS hb11
   refine rl_callF rfl en131 rfl (ctr131 F w18 Bb S2 (Nat.le_trans hB c17.size) (fun b h => Nat.lt_of_lt_of_le (h2 b h) c17.size) av0 hd31  x3 (hS32 ▸ h4) (IntKind.i64.wrap (a2 - x1)) (IntKind.i64.wrap ((IntKind.i64.wrap (a2 + x2)) - x1)) x1 a4 av4 ha33 y36 hy37) ?_
   rintro _ w34 ⟨rfl, h38, c35⟩
   rw [← hS32] at h38
   have ad39 : ∀ b, b < w18.heap.size → ¬ (un (inBlk av0) S2) b → ¬ (inBlk av0) b ∧ ¬ (un (inBlk av0) S2) b := fun b _ hs => ⟨fun h => hs (.inl h), hs⟩
   have ah4 := Kd.st ah4 c35 ad39
   have c17 := c17.then c35 (fun i hi h => (lin0_0 i h).elim (fun x => x) (fun x => absurd x (Nat.not_le_of_lt hi)))
   refine RL.nil (thn_n (CW.region ?_))
   refine rl_move rfl rfl ?_
   refine rl_move rfl rfl ?_
   refine rl_bin rfl rfl B.sub rfl ?_
   refine rl_assign rfl rfl ?_
   refine RL.nil ?_
   refine inB_n ?_
   refine thn_n ?_
   have hLn := runW_next hL7 hq10 hb11
   exact ⟨k16, Nat.lt_succ_self _, [(0, av0), (2, (Value.int .i64 a2)), (4, av4), (10, (Value.int .i64 x1)), (11, (Value.int .i64 (IntKind.i64.wrap (x2 - x1))))], ⟨rfl, rfl, rfl, rfl, rfl, trivial⟩, ⟨x1, IntKind.i64.wrap (x2 - x1), y36, rfl, c17, hLn, ah4, h38⟩⟩
  have hb11 := ifF q20 hb11
  refine CW.exit ?_
  refine thn_exit ?_
  refine thn_exit ?_
  refine inB_hit ?_
  have hLf := runW_fin hL7 hq10 hb11
  exact ⟨x1, x2, x3, ⟨rfl, rfl, rfl, rfl, trivial⟩, c17, hLf, ah4, h4⟩
 rintro _ w41 ⟨x1, x2, x3, hE42, c40, f43, ah4, h4⟩
 have hS := finS f43 hS
 refine thn_n (CW.sub [(0, av0), (2, (Value.int .i64 a2)), (4, av4), (10, (Value.int .i64 x1))] hE42 ?_)
 refine CW.region ?_
 refine rl_move rfl rfl ?_
 refine rl_move rfl rfl ?_
 refine rl_move rfl rfl ?_
 refine rl_bin rfl rfl B.sub rfl ?_
 refine rl_move rfl rfl ?_
 refine rl_move rfl rfl ?_
 refine rl_move rfl rfl ?_
 have hd45 : ∀ b, (inBlk av0) b → ¬ S2 b := fun b h => (fun b hb => linNot lin0_0 hd2 h2 b hb) b h
 have hS46 : (un (inBlk av0) S2) = (un (inBlk av0) S2) := rfl
 have ha47 := ah4
 rw [hS46] at ha47
 obtain ⟨y50, hy51, hS⟩ := bindS hS
 refine rl_callF rfl en131 rfl (ctr131 F w41 Bb S2 (Nat.le_trans hB c40.size) (fun b h => Nat.lt_of_lt_of_le (h2 b h) c40.size) av0 hd45  x3 (hS46 ▸ h4) (IntKind.i64.wrap (a2 - x1)) a2 x1 a4 av4 ha47 y50 hy51) ?_
 rintro _ w48 ⟨rfl, h52, c49⟩
 rw [← hS46] at h52
 have c40 := c40.then c49 (fun i hi h => (lin0_0 i h).elim (fun x => x) (fun x => absurd x (Nat.not_le_of_lt hi)))
 refine RL.nil ?_
 obtain rfl := Option.some.inj hS
 exact ⟨[], trivial, ⟨rfl, h52, c40⟩⟩
/-- slices.symMergeCmpFunc[lb/resolve.Group] -/
theorem ctr78_step (rec : (List Group) → Int → Int → Int → (Group → Group → Int) → Option (List Group)) (ih : ∀ (F : Nat → Prop) (w : World) (Bb : Nat) (S2 : Nat → Prop) (hB : Bb ≤ w.heap.size) (h2 : ∀ b, S2 b → b < w.heap.size) (av0 : Value) (hd2 : ∀ b, (inBlk av0) b → ¬ S2 b) (a0 : (List Group)) (ah0 : SlO k_Group 50 F Bb (un (inBlk av0) S2) w a0 av0) (a1 : Int) (a2 : Int) (a3 : Int) (a4 : (Group → Group → Int)) (av4 : Value) (ah4 : (Kd.fn2 Tryz.prog true true k_Group k_Group (Value.int .i64)).rep (G F Bb (un (inBlk av0) S2)) w a4 [av4]) (r : (List Group)) (hs : rec a0 a1 a2 a3 a4 = some r), Ret Tryz.prog 78 #[av0, (Value.int .i64 a1), (Value.int .i64 a2), (Value.int .i64 a3), av4] w fun v w' => v = Value.tuple #[] ∧ SlO k_Group 50 F Bb (un (inBlk av0) S2) w' r av0 ∧ Ch (inBlk av0) w w') (F : Nat → Prop) (w : World) (Bb : Nat) (S2 : Nat → Prop) (hB : Bb ≤ w.heap.size) (h2 : ∀ b, S2 b → b < w.heap.size) (av0 : Value) (hd2 : ∀ b, (inBlk av0) b → ¬ S2 b) (a0 : (List Group)) (ah0 : SlO k_Group 50 F Bb (un (inBlk av0) S2) w a0 av0) (a1 : Int) (a2 : Int) (a3 : Int) (a4 : (Group → Group → Int)) (av4 : Value) (ah4 : (Kd.fn2 Tryz.prog true true k_Group k_Group (Value.int .i64)).rep (G F Bb (un (inBlk av0) S2)) w a4 [av4]) (r : (List Group)) (hs : F78_Group_body rec a0 a1 a2 a3 a4 = some r) :
    Ret Tryz.prog 78 #[av0, (Value.int .i64 a1), (Value.int .i64 a2), (Value.int .i64 a3), av4] w fun v w' => v = Value.tuple #[] ∧ SlO k_Group 50 F Bb (un (inBlk av0) S2) w' r av0 ∧ Ch (inBlk av0) w w' := by
 have hS := hs
 have c0 : Ch (inBlk av0) w w := Ch.refl
 have lin0_0 : ∀ b, inBlk av0 b → (inBlk av0) b ∨ w.heap.size ≤ b := fun b h => .inl h
 refine Ret.of (n := 220) (args := [_, _, _, _, _]) (rs := []) Tryz.func78 rfl rfl rfl rfl ?_
 refine CW.seq ?_
 refine CW.seq (CW.region ?_)
 refine rl_move rfl rfl ?_
 refine rl_move rfl rfl ?_
 refine rl_bin rfl rfl B.sub rfl ?_
 refine rl_bin rfl rfl B.eql rfl ?_
 refine RL.nil (thn_n ?_)
 refine CW.cond (t := decide ((IntKind.i64.wrap (a2 - a1)) = 1)) rfl (fun q1 => ?_) (fun q1 => ?_)
 ·
  have hS := ifT q1 hS
  refine CW.seq (CW.region ?_)
  refine rl_move rfl rfl ?_
  refine rl_assign rfl rfl ?_
  refine RL.nil (thn_n (CW.seq (CW.region ?_)))
  refine rl_move rfl rfl ?_
  refine rl_assign rfl rfl ?_
  refine RL.nil (thn_n (CW.seq ?_))
  obtain ⟨o11, ho12, hS⟩ := bindS hS
  refine CW.cutB (fun E' w' => ∃ (x2 : Int) (x3 : Int), Sub [(0, av0), (1, (Value.int .i64 a1)), (10, (Value.int .i64 x2))] E' ∧ Ch (inBlk av0) w w' ∧ Lp.fin (x2, x3) = o11 ∧ SlO k_Group 50 F Bb (un (inBlk av0) S2) w' a0 av0 ∧ (Kd.fn2 Tryz.prog true true k_Group k_Group (Value.int .i64)).rep (G F Bb (un (inBlk av0) S2)) w' a4 [av4]) ?_ ?_
  ·
   refine CW.loopS [(0, av0), (1, (Value.int .i64 a1)), (4, av4), (10, (Value.int .i64 a2)), (11, (Value.int .i64 a3))] ⟨rfl, rfl, rfl, rfl, rfl, trivial⟩ FUEL (fun m E w' => ∃ (x2 : Int) (x3 : Int), E = [(0, av0), (1, (Value.int .i64 a1)), (4, av4), (10, (Value.int .i64 x2)), (11, (Value.int .i64 x3))] ∧ Ch (inBlk av0) w w' ∧ runW (F78_Group_body_b1 a0 a1 a4) m (x2, x3) = some o11 ∧ SlO k_Group 50 F Bb (un (inBlk av0) S2) w' a0 av0 ∧ (Kd.fn2 Tryz.prog true true k_Group k_Group (Value.int .i64)).rep (G F Bb (un (inBlk av0) S2)) w' a4 [av4])
       ⟨a2, a3, rfl, c0, ho12, ah0, ah4⟩ ?_
   rintro _ _ w17 ⟨x2, x3, rfl, c16, hL6, ah0, ah4⟩
   obtain ⟨k15, q8, rfl, hq9⟩ := runW_some hL6
   have hb10 := hq9
   refine CW.seq ?_
   refine CW.seq (CW.region ?_)
   refine rl_move rfl rfl ?_
   refine rl_move rfl rfl ?_
   refine rl_bin rfl rfl B.lss rfl ?_
   refine RL.nil (thn_n ?_)
   refine CW.cond (t := decide (x2 < x3)) rfl (fun q19 => ?_) (fun q19 => ?_)
   ·
    have hb10 := ifT q19 hb10
    refine CW.skip ?_
    refine thn_n (CW.block ?_)
    refine CW.seq (CW.region ?_)
    refine rl_move rfl rfl ?_
    refine rl_move rfl rfl ?_
    refine rl_bin rfl rfl B.add rfl ?_
    refine rl_convInt rfl ⟨_, Tryz.underlying3⟩ Tryz.underlying168 rfl ?_
    refine rl_bin rfl rfl (B.shr rfl) rfl ?_
    refine rl_convInt rfl ⟨_, Tryz.underlying168⟩ Tryz.underlying3 rfl ?_
    refine rl_assign rfl rfl ?_
    refine RL.nil (thn_n (CW.seq ?_))
    obtain ⟨y26, hy27, hb10⟩ := bindS hb10
    obtain ⟨y36, hy37, hb10⟩ := bindS hb10
    refine CW.draw 9 [(none, fun fx O uu wx => uu = av4), (none, fun fx O uu wx => uu = av0), (none, fun fx O uu wx => uu = (Value.int .i64 (IntKind.i64.wrap ((IntKind.u64.wrap (IntKind.i64.wrap (x2 + x3))).fdiv (2 ^ (min (Int.toNat 1) IntKind.u64.bits)))))), (none, fun fx O uu wx => ∃ (p20 : Nat) (o21 : Nat) (z28 : Value), uu = (Value.pointer (some ⟨p20, o21, none⟩)) ∧ slRep k_Point (G F Bb (un (inBlk av0) S2)) wx y26.points z28 ∧ Seg wx p20 o21 (Group.c y26 z28)), (none, fun fx O uu wx => ∃ (z28_4 : Value), uu = (Value.agg (Group.c y26 z28_4).toArray) ∧ slRep k_Point (G F Bb (un (inBlk av0) S2)) wx y26.points z28_4), (none, fun fx O uu wx => uu = av0), (none, fun fx O uu wx => uu = (Value.int .i64 a1)), (none, fun fx O uu wx => ∃ (p30 : Nat) (o31 : Nat) (z38 : Value), uu = (Value.pointer (some ⟨p30, o31, none⟩)) ∧ slRep k_Point (G F Bb (un (inBlk av0) S2)) wx y36.points z38 ∧ Seg wx p30 o31 (Group.c y36 z38)), (none, fun fx O uu wx => ∃ (z38_8 : Value), uu = (Value.agg (Group.c y36 z38_8).toArray) ∧ slRep k_Point (G F Bb (un (inBlk av0) S2)) wx y36.points z38_8)] [[], [], [], [1, 2], [3], [], [], [5, 6], [7]] [0, 4, 8] nb (fun _ h => h.elim) mixed rfl rfl rfl rfl ?_ ?_
    ·
     refine Each.consS (fun fl O wk hE hN hO ck => ?_) ?_
     ·
      refine rl_move rfl rfl ?_
      exact RL.nil ⟨_, rfl, Ch.refl, rfl⟩
     refine Each.consS (fun fl O wk hE hN hO ck => ?_) ?_
     ·
      refine rl_move rfl rfl ?_
      exact RL.nil ⟨_, rfl, Ch.refl, rfl⟩
     refine Each.consS (fun fl O wk hE hN hO ck => ?_) ?_
     ·
      refine rl_move rfl rfl ?_
      exact RL.nil ⟨_, rfl, Ch.refl, rfl⟩
     refine Each.consA ⟨fun _ _ _ _ _ cc hh => by obtain ⟨p20, o21, z28, e, h29, hs24⟩ := hh; exact ⟨p20, o21, z28, e, slRep.ch k_Point_pos h29 cc, hs24.ch0 cc⟩, fun h => absurd rfl h, fun fl O wk hE hN hO ck => ?_⟩ ?_
     ·
      have ah0 := ah0.ch0 ck
      refine Need.o1 rfl rfl rfl (fun _ h => h) ?_
      refine Need.o1 rfl rfl rfl (fun _ h => h) ?_
      refine rl_ixOR rfl ah0 rfl (ixO_get hy27) k_Group_pos Tryz.underlying37 Tryz.sizeOf50 rfl ?_
      intro p44 o45 cs46 hr47 hs48 hg49
      obtain ⟨z50, rfl, h51⟩ := hr47
      exact RL.nil ⟨_, rfl, Ch.refl, ⟨p44, o45, z50, rfl, h51, hs48⟩⟩
     refine Each.consA ⟨fun _ _ _ _ _ cc hh => by obtain ⟨z28_4, e, h29_4⟩ := hh; exact ⟨z28_4, e, slRep.ch k_Point_pos h29_4 cc⟩, fun h => absurd rfl h, fun fl O wk hE hN hO ck => ?_⟩ ?_
     ·
      refine Need.one rfl rfl rfl ?_
      rintro _ ⟨p20, o21, z28, e52, h29, hs24⟩
      obtain rfl := e52.symm
      refine rl_loadA (cs := (Group.c y26 z28)) rfl Tryz.isAgg50 Tryz.sizeOf50 (hs24) rfl rfl ?_
      exact RL.nil ⟨_, rfl, Ch.refl, ⟨z28, rfl, h29⟩⟩
     refine Each.consS (fun fl O wk hE hN hO ck => ?_) ?_
     ·
      refine rl_move rfl rfl ?_
      exact RL.nil ⟨_, rfl, Ch.refl, rfl⟩
     refine Each.consS (fun fl O wk hE hN hO ck => ?_) ?_
     ·
      refine rl_move rfl rfl ?_
      exact RL.nil ⟨_, rfl, Ch.refl, rfl⟩
     refine Each.consA ⟨fun _ _ _ _ _ cc hh => by obtain ⟨p30, o31, z38, e, h39, hs34⟩ := hh; exact ⟨p30, o31, z38, e, slRep.ch k_Point_pos h39 cc, hs34.ch0 cc⟩, fun h => absurd rfl h, fun fl O wk hE hN hO ck => ?_⟩ ?_
     ·
      have ah0 := ah0.ch0 ck
      refine Need.o1 rfl rfl rfl (fun _ h => h) ?_
      refine Need.o1 rfl rfl rfl (fun _ h => h) ?_
      refine rl_ixOR rfl ah0 rfl (ixO_get hy37) k_Group_pos Tryz.underlying37 Tryz.sizeOf50 rfl ?_
      intro p55 o56 cs57 hr58 hs59 hg60
      obtain ⟨z61, rfl, h62⟩ := hr58
      exact RL.nil ⟨_, rfl, Ch.refl, ⟨p55, o56, z61, rfl, h62, hs59⟩⟩
     refine Each.consA ⟨fun _ _ _ _ _ cc hh => by obtain ⟨z38_8, e, h39_8⟩ := hh; exact ⟨z38_8, e, slRep.ch k_Point_pos h39_8 cc⟩, fun h => absurd rfl h, fun fl O wk hE hN hO ck => ?_⟩ ?_
     ·
      refine Need.one rfl rfl rfl ?_
      rintro _ ⟨p30, o31, z38, e63, h39, hs34⟩
      obtain rfl := e63.symm
      refine rl_loadA (cs := (Group.c y36 z38)) rfl Tryz.isAgg50 Tryz.sizeOf50 (hs34) rfl rfl ?_
      exact RL.nil ⟨_, rfl, Ch.refl, ⟨z38, rfl, h39⟩⟩
     trivial
    intro hvO66 OpO66 O66 w64 hO67 c65 hN68
    have ah0 := ah0.ch0 c65
    have ah4 := Kd.ch ah4 c65
    have c16 := c16.then0 c65
    refine Need.o1 rfl rfl rfl (fun _ h => h) ?_
    refine Need.one rfl rfl rfl ?_
    rintro _ ⟨z28_4, e70, h29_4⟩
    obtain rfl := e70.symm
    refine Need.one rfl rfl rfl ?_
    rintro _ ⟨z38_8, e71, h39_8⟩
    obtain rfl := e71.symm
    refine rl_fn2 (c := (Group.c y26 z28_4)) (c' := (Group.c y36 z38_8)) rfl rfl rfl rfl rfl ah4 (F' := (G F Bb (un (inBlk av0) S2))) (xx := y26) (yy := y36) (show k_Group.rep (G F Bb (un (inBlk av0) S2)) w64 y26 (Group.c y26 z28_4) from ⟨z28_4, rfl, h29_4⟩) (show k_Group.rep (G F Bb (un (inBlk av0) S2)) w64 y36 (Group.c y36 z38_8) from ⟨z38_8, rfl, h39_8⟩) rfl ?_
    intro w72 c73
    have ah0 := ah0.ch0 c73
    have ah4 := Kd.ch ah4 c73
    have c16 := c16.then0 c73
    refine rl_bin rfl rfl B.lss rfl ?_
    refine RL.nil (thn_n ?_)
    refine CW.cond (t := decide ((a4 y26 y36) < 0)) rfl (fun q74 => ?_) (fun q74 => ?_)
    ·
     have hb10 := ifT q74 hb10
     refine CW.region ?_
     refine rl_move rfl rfl ?_
     refine rl_bin rfl rfl B.add rfl ?_
     refine rl_assign rfl rfl ?_
     refine RL.nil ?_
     refine inB_n ?_
     refine thn_n ?_
     have hLn := runW_next hL6 hq9 hb10
     exact ⟨k15, Nat.lt_succ_self _, [(0, av0), (1, (Value.int .i64 a1)), (4, av4), (10, (Value.int .i64 (IntKind.i64.wrap ((IntKind.i64.wrap ((IntKind.u64.wrap (IntKind.i64.wrap (x2 + x3))).fdiv (2 ^ (min (Int.toNat 1) IntKind.u64.bits)))) + 1)))), (11, (Value.int .i64 x3))], ⟨rfl, rfl, rfl, rfl, rfl, trivial⟩, ⟨IntKind.i64.wrap ((IntKind.i64.wrap ((IntKind.u64.wrap (IntKind.i64.wrap (x2 + x3))).fdiv (2 ^ (min (Int.toNat 1) IntKind.u64.bits)))) + 1), x3, rfl, c16, hLn, ah0, ah4⟩⟩
    have hb10 := ifF q74 hb10
    refine CW.region ?_
    refine rl_move rfl rfl ?_
    refine rl_assign rfl rfl ?_
    refine RL.nil ?_
    refine inB_n ?_
    refine thn_n ?_
    have hLn := runW_next hL6 hq9 hb10
    exact ⟨k15, Nat.lt_succ_self _, [(0, av0), (1, (Value.int .i64 a1)), (4, av4), (10, (Value.int .i64 x2)), (11, (Value.int .i64 (IntKind.i64.wrap ((IntKind.u64.wrap (IntKind.i64.wrap (x2 + x3))).fdiv (2 ^ (min (Int.toNat 1) IntKind.u64.bits))))))], ⟨rfl, rfl, rfl, rfl, rfl, trivial⟩, ⟨x2, IntKind.i64.wrap ((IntKind.u64.wrap (IntKind.i64.wrap (x2 + x3))).fdiv (2 ^ (min (Int.toNat 1) IntKind.u64.bits))), rfl, c16, hLn, ah0, ah4⟩⟩
   have hb10 := ifF q19 hb10
   refine CW.exit ?_
   refine thn_exit ?_
   refine thn_exit ?_
   refine inB_hit ?_
   have hLf := runW_fin hL6 hq9 hb10
   exact ⟨x2, x3, ⟨rfl, rfl, rfl, trivial⟩, c16, hLf, ah0, ah4⟩
  rintro _ w76 ⟨x2, x3, hE77, c75, f78, ah0, ah4⟩
  have hS := finS f78 hS
  refine thn_n (CW.sub [(0, av0), (1, (Value.int .i64 a1)), (10, (Value.int .i64 x2))] hE77 ?_)
  refine CW.seq ?_
  refine CW.seq (CW.region ?_)
  refine rl_move rfl rfl ?_
  refine rl_assign rfl rfl ?_
  refine RL.nil (thn_n ?_)
  obtain ⟨o90, ho91, hS⟩ := bindS hS
  refine CW.cutB (fun E' w' => ∃ (x80 : Int) (x81 : (List Group)), Sub [] E' ∧ Ch (inBlk av0) w w' ∧ Lp.fin (x80, x81) = o90 ∧ (Kd.fn2 Tryz.prog true true k_Group k_Group (Value.int .i64)).rep (G F Bb (un (inBlk av0) S2)) w' a4 [av4] ∧ SlO k_Group 50 F Bb (un (inBlk av0) S2) w' x81 av0) ?_ ?_
  ·
   refine CW.loopS [(0, av0), (10, (Value.int .i64 x2)), (13, (Value.int .i64 a1))] ⟨rfl, rfl, rfl, trivial⟩ FUEL (fun m E w' => ∃ (x80 : Int) (x81 : (List Group)), E = [(0, av0), (10, (Value.int .i64 x2)), (13, (Value.int .i64 x80))] ∧ Ch (inBlk av0) w w' ∧ runW (F78_Group_body_b2 x2 x2) m (x80, x81) = some o90 ∧ (Kd.fn2 Tryz.prog true true k_Group k_Group (Value.int .i64)).rep (G F Bb (un (inBlk av0) S2)) w' a4 [av4] ∧ SlO k_Group 50 F Bb (un (inBlk av0) S2) w' x81 av0)
       ⟨a1, a0, rfl, c75, ho91, ah4, ah0⟩ ?_
   rintro _ _ w96 ⟨x80, x81, rfl, c95, hL85, ah4, h82⟩
   obtain ⟨k94, q87, rfl, hq88⟩ := runW_some hL85
   have hb89 := hq88
   refine CW.seq ?_
   refine CW.seq (CW.region ?_)
   refine rl_move rfl rfl ?_
   refine rl_move rfl rfl ?_
   refine rl_bin rfl rfl B.sub rfl ?_
   refine rl_bin rfl rfl B.lss rfl ?_
   refine RL.nil (thn_n ?_)
   refine CW.cond (t := decide (x80 < (IntKind.i64.wrap (x2 - 1)))) rfl (fun q98 => ?_) (fun q98 => ?_)
   ·
    have hb89 := ifT q98 hb89
    refine CW.skip ?_
    refine thn_n (CW.seq ?_)
    refine CW.block ?_
    obtain ⟨y105, hy106, hb89⟩ := bindS hb89
    obtain ⟨y115, hy116, hb89⟩ := bindS hb89
    obtain ⟨y125, hy126, hb89⟩ := bindS hb89
    obtain ⟨y137, hy138, hb89⟩ := bindS hb89
    refine CW.draw 16 [(none, fun fx O uu wx => uu = av0), (none, fun fx O uu wx => uu = (Value.int .i64 x80)), (none, fun fx O uu wx => uu = av0), (none, fun fx O uu wx => uu = (Value.int .i64 x80)), (none, fun fx O uu wx => uu = (Value.int .i64 (IntKind.i64.wrap (x80 + 1)))), (none, fun fx O uu wx => uu = av0), (none, fun fx O uu wx => uu = (Value.int .i64 x80)), (none, fun fx O uu wx => uu = (Value.int .i64 (IntKind.i64.wrap (x80 + 1)))), (none, fun fx O uu wx => ∃ (p99 : Nat) (o100 : Nat) (z107 : Value), uu = (Value.pointer (some ⟨p99, o100, none⟩)) ∧ slRep k_Point (G F Bb (un O S2)) wx y105.points z107 ∧ (fx = [] → Seg wx p99 o100 (Group.c y105 z107))), (none, fun fx O uu wx => ∃ (z107_9 : Value), uu = (Value.agg (Group.c y105 z107_9).toArray) ∧ slRep k_Point (G F Bb (un O S2)) wx y105.points z107_9), (none, fun fx O uu wx => uu = av0), (none, fun fx O uu wx => uu = (Value.int .i64 x80)), (none, fun fx O uu wx => ∃ (p109 : Nat) (o110 : Nat) (z117 : Value), uu = (Value.pointer (some ⟨p109, o110, none⟩)) ∧ slRep k_Point (G F Bb (un O S2)) wx y115.points z117 ∧ (fx = [] → Seg wx p109 o110 (Group.c y115 z117))), (none, fun fx O uu wx => ∃ (z117_13 : Value), uu = (Value.agg (Group.c y115 z117_13).toArray) ∧ slRep k_Point (G F Bb (un O S2)) wx y115.points z117_13), (none, fun fx O uu wx => ∃ (p119 : Nat), uu = (Value.pointer (some ⟨p119, x80.toNat * k_Group.n, none⟩)) ∧ inBlk av0 p119), (some true, fun hv O uu wx => hv = [undef] ∧ uu = undef ∧ O = (inBlk av0) ∧ SlO k_Group 50 F Bb (un (inBlk av0) S2) wx (x81.set x80.toNat y105) av0)] [[], [], [], [], [3], [], [], [6], [5, 7], [8], [], [], [10, 11], [12], [0, 1], [9, 14]] [15, 2, 4, 13] (inBlk av0) (fun b h => (fun b hb => (h82.lt b hb).2) b h) mixed rfl rfl rfl rfl ?_ ?_
    ·
     refine Each.consS (fun fl O wk hE hN hO ck => ?_) ?_
     ·
      refine rl_move rfl rfl ?_
      exact RL.nil ⟨_, rfl, Ch.refl, rfl⟩
     refine Each.consS (fun fl O wk hE hN hO ck => ?_) ?_
     ·
      refine rl_move rfl rfl ?_
      exact RL.nil ⟨_, rfl, Ch.refl, rfl⟩
     refine Each.consS (fun fl O wk hE hN hO ck => ?_) ?_
     ·
      refine rl_move rfl rfl ?_
      exact RL.nil ⟨_, rfl, Ch.refl, rfl⟩
     refine Each.consS (fun fl O wk hE hN hO ck => ?_) ?_
     ·
      refine rl_move rfl rfl ?_
      exact RL.nil ⟨_, rfl, Ch.refl, rfl⟩
     refine Each.consS (fun fl O wk hE hN hO ck => ?_) ?_
     ·
      refine Need.o1 rfl rfl rfl (fun _ h => h) ?_
      refine rl_bin rfl rfl B.add rfl ?_
      exact RL.nil ⟨_, rfl, Ch.refl, rfl⟩
     refine Each.consS (fun fl O wk hE hN hO ck => ?_) ?_
     ·
      refine rl_move rfl rfl ?_
      exact RL.nil ⟨_, rfl, Ch.refl, rfl⟩
     refine Each.consS (fun fl O wk hE hN hO ck => ?_) ?_
     ·
      refine rl_move rfl rfl ?_
      exact RL.nil ⟨_, rfl, Ch.refl, rfl⟩
     refine Each.consS (fun fl O wk hE hN hO ck => ?_) ?_
     ·
      refine Need.o1 rfl rfl rfl (fun _ h => h) ?_
      refine rl_bin rfl rfl B.add rfl ?_
      exact RL.nil ⟨_, rfl, Ch.refl, rfl⟩
     refine Each.consA ⟨fun _ _ _ _ _ cc hh => by obtain ⟨p99, o100, z107, e, h108, hs103⟩ := hh; exact ⟨p99, o100, z107, e, slRep.ch k_Point_pos h108 cc, (fun hfx => (hs103 hfx).ch0 cc)⟩, fun _ _ h' O O' D _ wx wy hfl hD hO' cc hh => by obtain ⟨p99, o100, z107, e, h108, hs103⟩ := hh; have ad := admGh (S := S2) hD hO'; exact ⟨p99, o100, z107, e, slRep.st k_Point_pos h108 cc ad, (fun hfx => hfl.elim (fun e => by rw [e] at hfx; cases hfx) (fun e => Seg.ch0 (hs103 (e.1.symm.trans hfx)) (cc.mono (fun b _ hd => (e.2 b hd).elim))))⟩, fun fl O wk hE hN hO ck => ?_⟩ ?_
     ·
      obtain ⟨_, hB153⟩ := hN (hE rfl)
      have h82 := h82.ch0 hB153.2.1
      refine Need.o1 rfl rfl rfl (fun _ h => h) ?_
      refine Need.o1 rfl rfl rfl (fun _ h => h) ?_
      refine rl_ixOR rfl h82 rfl (ixO_get hy106) k_Group_pos Tryz.underlying37 Tryz.sizeOf50 rfl ?_
      intro p156 o157 cs158 hr159 hs160 hg161
      obtain ⟨z162, rfl, h163⟩ := hr159
      have h163 := slRep.wk (F' := (G F Bb (un O S2))) k_Point_pos h163 (fun b _ hf => ⟨hf.1, fun h => hf.2 (un_el h (fun ho => ((hB153.1 b).1 ho).elim (fun h => (.inl h)) (fun hk => by obtain ⟨_, hk, _⟩ := hk; cases hk)) (fun h => (.inr h)))⟩)
      exact RL.nil ⟨_, rfl, Ch.refl, ⟨p156, o157, z162, rfl, h163, (fun _ => hs160)⟩⟩
     refine Each.consA ⟨fun _ _ _ _ _ cc hh => by obtain ⟨z107_9, e, h108_9⟩ := hh; exact ⟨z107_9, e, slRep.ch k_Point_pos h108_9 cc⟩, fun _ _ h' O O' D _ wx wy hfl hD hO' cc hh => by obtain ⟨z107_9, e, h108_9⟩ := hh; have ad := admGh (S := S2) hD hO'; exact ⟨z107_9, e, slRep.st k_Point_pos h108_9 cc ad⟩, fun fl O wk hE hN hO ck => ?_⟩ ?_
     ·
      refine Need.one rfl rfl rfl ?_
      rintro _ ⟨p99, o100, z107, e165, h108, hs103⟩
      obtain rfl := e165.symm
      have hs103 := hs103 (hE rfl)
      refine rl_loadA (cs := (Group.c y105 z107)) rfl Tryz.isAgg50 Tryz.sizeOf50 (hs103) rfl rfl ?_
      exact RL.nil ⟨_, rfl, Ch.refl, ⟨z107, rfl, h108⟩⟩
     refine Each.consS (fun fl O wk hE hN hO ck => ?_) ?_
     ·
      refine rl_move rfl rfl ?_
      exact RL.nil ⟨_, rfl, Ch.refl, rfl⟩
     refine Each.consS (fun fl O wk hE hN hO ck => ?_) ?_
     ·
      refine rl_move rfl rfl ?_
      exact RL.nil ⟨_, rfl, Ch.refl, rfl⟩
     refine Each.consA ⟨fun _ _ _ _ _ cc hh => by obtain ⟨p109, o110, z117, e, h118, hs113⟩ := hh; exact ⟨p109, o110, z117, e, slRep.ch k_Point_pos h118 cc, (fun hfx => (hs113 hfx).ch0 cc)⟩, fun _ _ h' O O' D _ wx wy hfl hD hO' cc hh => by obtain ⟨p109, o110, z117, e, h118, hs113⟩ := hh; have ad := admGh (S := S2) hD hO'; exact ⟨p109, o110, z117, e, slRep.st k_Point_pos h118 cc ad, (fun hfx => hfl.elim (fun e => by rw [e] at hfx; cases hfx) (fun e => Seg.ch0 (hs113 (e.1.symm.trans hfx)) (cc.mono (fun b _ hd => (e.2 b hd).elim))))⟩, fun fl O wk hE hN hO ck => ?_⟩ ?_
     ·
      obtain ⟨_, hB168⟩ := hN (hE rfl)
      have h82 := h82.ch0 hB168.2.1
      refine Need.o1 rfl rfl rfl (fun _ h => h) ?_
      refine Need.o1 rfl rfl rfl (fun _ h => h) ?_
      refine rl_ixOR rfl h82 rfl (ixO_get hy116) k_Group_pos Tryz.underlying37 Tryz.sizeOf50 rfl ?_
      intro p171 o172 cs173 hr174 hs175 hg176
      obtain ⟨z177, rfl, h178⟩ := hr174
      have h178 := slRep.wk (F' := (G F Bb (un O S2))) k_Point_pos h178 (fun b _ hf => ⟨hf.1, fun h => hf.2 (un_el h (fun ho => ((hB168.1 b).1 ho).elim (fun h => (.inl h)) (fun hk => by obtain ⟨_, hk, _⟩ := hk; cases hk)) (fun h => (.inr h)))⟩)
      exact RL.nil ⟨_, rfl, Ch.refl, ⟨p171, o172, z177, rfl, h178, (fun _ => hs175)⟩⟩
     refine Each.consA ⟨fun _ _ _ _ _ cc hh => by obtain ⟨z117_13, e, h118_13⟩ := hh; exact ⟨z117_13, e, slRep.ch k_Point_pos h118_13 cc⟩, fun _ _ h' O O' D _ wx wy hfl hD hO' cc hh => by obtain ⟨z117_13, e, h118_13⟩ := hh; have ad := admGh (S := S2) hD hO'; exact ⟨z117_13, e, slRep.st k_Point_pos h118_13 cc ad⟩, fun fl O wk hE hN hO ck => ?_⟩ ?_
     ·
      refine Need.one rfl rfl rfl ?_
      rintro _ ⟨p109, o110, z117, e180, h118, hs113⟩
      obtain rfl := e180.symm
      have hs113 := hs113 (hE rfl)
      refine rl_loadA (cs := (Group.c y115 z117)) rfl Tryz.isAgg50 Tryz.sizeOf50 (hs113) rfl rfl ?_
      exact RL.nil ⟨_, rfl, Ch.refl, ⟨z117, rfl, h118⟩⟩
     refine Each.consA ⟨fun _ _ _ _ _ cc hh => by obtain ⟨p119, e, hg124⟩ := hh; exact ⟨p119, e, hg124⟩, fun _ _ h' O O' D _ wx wy hfl hD hO' cc hh => by obtain ⟨p119, e, hg124⟩ := hh; have ad := admGh (S := S2) hD hO'; exact ⟨p119, e, hg124⟩, fun fl O wk hE hN hO ck => ?_⟩ ?_
     ·
      obtain ⟨_, hB181⟩ := hN (hE rfl)
      have h82 := h82.ch0 hB181.2.1
      refine Need.o1 rfl rfl rfl (fun _ h => h) ?_
      refine Need.o1 rfl rfl rfl (fun _ h => h) ?_
      refine rl_ixO rfl h82 rfl (ixO_get hy126) Tryz.underlying37 Tryz.sizeOf50 rfl ?_
      intro p184 hg189
      exact RL.nil ⟨_, rfl, Ch.refl, ⟨p184, rfl, hg189⟩⟩
     refine Each.consO ⟨fun _ O _ wx wy cc hh => by obtain ⟨eh, e, rfl, ck15_0⟩ := hh; exact ⟨eh, e, rfl, ck15_0.ch0 cc⟩, fun hv Op O wk hO ck hO0 => ?_⟩ ?_
     ·
      obtain ⟨hl, hBg⟩ := hO0 rfl
      obtain rfl := List.eq_nil_of_length_eq_zero hl
      have h82 := h82.ch0 hBg.2.1
      refine Need.one rfl rfl rfl ?_
      rintro _ ⟨z107_9, e190, h108_9⟩
      obtain rfl := e190.symm
      have h108_9 := slRep.wk (F' := (G F Bb (un (inBlk av0) S2))) k_Point_pos h108_9 (fun b _ hf => ⟨hf.1, fun h => hf.2 (un_el h (fun h => (.inl ((hBg.1 b).2 (.inl h)))) (fun h => (.inr h)))⟩)
      refine Need.one rfl rfl rfl ?_
      rintro _ ⟨p119, e191, hg124⟩
      obtain rfl := e191.symm
      refine rl_storeOA rfl rfl Tryz.sizeOf50 h82 hg124 (ixO_lt hy126) (show k_Group.rep (G F Bb (un (inBlk av0) S2)) wk y105 (Group.c y105 z107_9) from ⟨z107_9, rfl, h108_9⟩) ?_
      intro w192 c193 h194
      have hb196 : ∀ b, (inBlk av0) b → (O b ∨ wk.heap.size ≤ b) ∧ b < w192.heap.size := fun b h => ⟨.inl ((hBg.1 b).2 (.inl h)), (fun b hb => (h194.lt b hb).2) b h⟩
      exact RL.nil ⟨_, (inBlk av0), rfl, hb196, (c193.mono (fun b _ h => ((hBg.1 b).2 (.inl h)))), ⟨rfl, rfl, rfl, h194⟩⟩
     trivial
    intro hvO199 OpO199 O199 w197 hO200 c198 hN201
    refine Need.hereN rfl rfl rfl rfl ?_
    rintro ⟨rfl, _, rfl, ck15_0⟩
    have ha203 : ∀ b, b < w96.heap.size → ¬ (un (inBlk av0) S2) b → ¬ (inBlk av0) b ∧ ¬ (un (inBlk av0) S2) b := fun b hb hs => ⟨fun h => hs (.inl h), fun h => un_el h (fun h => (hO200 b h).1.elim (fun h => hs (.inl h)) (fun h => Nat.not_le_of_lt hb h)) (fun h => hs (.inr h))⟩
    have ah4 := Kd.st ah4 c198 ha203
    have c95 := c95.then c198 (fun i hi h => (lin0_0 i h).elim (fun x => x) (fun x => absurd x (Nat.not_le_of_lt hi)))
    refine Need.o1 rfl rfl rfl (fun _ h => h) ?_
    refine Need.o1 rfl rfl rfl (fun _ h => h) ?_
    refine Need.one rfl rfl rfl ?_
    rintro _ ⟨z117_13, e206, h118_13⟩
    obtain rfl := e206.symm
    have h118_13 := slRep.wk (F' := (G F Bb (un (inBlk av0) S2))) k_Point_pos h118_13 (fun b _ hf => ⟨hf.1, fun h => hf.2 (un_el h (fun h => (.inl h)) (fun h => (.inr h)))⟩)
    refine rl_ixO rfl ck15_0 rfl (ixO_get hy138) Tryz.underlying37 Tryz.sizeOf50 rfl ?_
    intro p207 hg212
    refine rl_storeOA rfl rfl Tryz.sizeOf50 ck15_0 hg212 (ixO_lt hy138) (show k_Group.rep (G F Bb (un (inBlk av0) S2)) w197 y115 (Group.c y115 z117_13) from ⟨z117_13, rfl, h118_13⟩) ?_
    intro w213 c214 h215
    have ad216 : ∀ b, b < w197.heap.size → ¬ (un (inBlk av0) S2) b → ¬ (inBlk av0) b ∧ ¬ (un (inBlk av0) S2) b := fun b _ hs => ⟨fun h => hs (.inl h), hs⟩
    have ah4 := Kd.st ah4 c214 ad216
    have c95 := c95.then c214 (fun i hi h => (lin0_0 i h).elim (fun x => x) (fun x => absurd x (Nat.not_le_of_lt hi)))
    refine RL.nil ?_
    refine inB_n ?_
    refine thn_n (CW.region ?_)
    refine rl_move rfl rfl ?_
    refine rl_bin rfl rfl B.add rfl ?_
    refine rl_assign rfl rfl ?_
    refine RL.nil (thn_n ?_)
    have hLn := runW_next hL85 hq88 hb89
    exact ⟨k94, Nat.lt_succ_self _, [(0, av0), (10, (Value.int .i64 x2)), (13, (Value.int .i64 (IntKind.i64.wrap (x80 + 1))))], ⟨rfl, rfl, rfl, trivial⟩, ⟨IntKind.i64.wrap (x80 + 1), (x81.set x80.toNat y105).set (IntKind.i64.wrap (x80 + 1)).toNat y115, rfl, c95, hLn, ah4, h215⟩⟩
   have hb89 := ifF q98 hb89
   refine CW.exit ?_
   refine thn_exit ?_
   refine thn_exit ?_
   refine inB_hit ?_
   have hLf := runW_fin hL85 hq88 hb89
   exact ⟨x80, x81, trivial, c95, hLf, ah4, h82⟩
  rintro _ w218 ⟨x80, x81, hE219, c217, f220, ah4, h82⟩
  have hS := finS f220 hS
  refine thn_n (CW.sub [] hE219 ?_)
  refine CW.ret ?_
  refine thn_ret ?_
  obtain rfl := Option.some.inj hS
  exact ⟨[], trivial, ⟨rfl, h82, c217⟩⟩
 have hS := ifF q1 hS
 refine CW.skip ?_
 refine thn_n (CW.seq ?_)
 refine CW.seq (CW.region ?_)
 refine rl_move rfl rfl ?_
 refine rl_move rfl rfl ?_
 refine rl_bin rfl rfl B.sub rfl ?_
 refine rl_bin rfl rfl B.eql rfl ?_
 refine RL.nil (thn_n ?_)
 refine CW.cond (t := decide ((IntKind.i64.wrap (a3 - a2)) = 1)) rfl (fun q222 => ?_) (fun q222 => ?_)
 ·
  have hS := ifT q222 hS
  refine CW.seq (CW.region ?_)
  refine rl_move rfl rfl ?_
  refine rl_assign rfl rfl ?_
  refine RL.nil (thn_n (CW.seq (CW.region ?_)))
  refine rl_move rfl rfl ?_
  refine rl_assign rfl rfl ?_
  refine RL.nil (thn_n (CW.seq ?_))
  obtain ⟨o232, ho233, hS⟩ := bindS hS
  refine CW.cutB (fun E' w' => ∃ (x223 : Int) (x224 : Int), Sub [(0, av0), (2, (Value.int .i64 a2)), (14, (Value.int .i64 x223))] E' ∧ Ch (inBlk av0) w w' ∧ Lp.fin (x223, x224) = o232 ∧ SlO k_Group 50 F Bb (un (inBlk av0) S2) w' a0 av0 ∧ (Kd.fn2 Tryz.prog true true k_Group k_Group (Value.int .i64)).rep (G F Bb (un (inBlk av0) S2)) w' a4 [av4]) ?_ ?_
  ·
   refine CW.loopS [(0, av0), (2, (Value.int .i64 a2)), (4, av4), (14, (Value.int .i64 a1)), (15, (Value.int .i64 a2))] ⟨rfl, rfl, rfl, rfl, rfl, trivial⟩ FUEL (fun m E w' => ∃ (x223 : Int) (x224 : Int), E = [(0, av0), (2, (Value.int .i64 a2)), (4, av4), (14, (Value.int .i64 x223)), (15, (Value.int .i64 x224))] ∧ Ch (inBlk av0) w w' ∧ runW (F78_Group_body_b3 a0 a2 a4) m (x223, x224) = some o232 ∧ SlO k_Group 50 F Bb (un (inBlk av0) S2) w' a0 av0 ∧ (Kd.fn2 Tryz.prog true true k_Group k_Group (Value.int .i64)).rep (G F Bb (un (inBlk av0) S2)) w' a4 [av4])
       ⟨a1, a2, rfl, c0, ho233, ah0, ah4⟩ ?_
   rintro _ _ w238 ⟨x223, x224, rfl, c237, hL227, ah0, ah4⟩
   obtain ⟨k236, q229, rfl, hq230⟩ := runW_some hL227
   have hb231 := hq230
   refine CW.seq ?_
   refine CW.seq (CW.region ?_)
   refine rl_move rfl rfl ?_
   refine rl_move rfl rfl ?_
   refine rl_bin rfl rfl B.lss rfl ?_
   refine RL.nil (thn_n ?_)
   refine CW.cond (t := decide (x223 < x224)) rfl (fun q240 => ?_) (fun q240 => ?_)
   ·
    have hb231 := ifT q240 hb231
    refine CW.skip ?_
    refine thn_n (CW.block ?_)
    refine CW.seq (CW.region ?_)
    refine rl_move rfl rfl ?_
    refine rl_move rfl rfl ?_
    refine rl_bin rfl rfl B.add rfl ?_
    refine rl_convInt rfl ⟨_, Tryz.underlying3⟩ Tryz.underlying168 rfl ?_
    refine rl_bin rfl rfl (B.shr rfl) rfl ?_
    refine rl_convInt rfl ⟨_, Tryz.underlying168⟩ Tryz.underlying3 rfl ?_
    refine rl_assign rfl rfl ?_
    refine RL.nil (thn_n (CW.seq ?_))
    obtain ⟨y247, hy248, hb231⟩ := bindS hb231
    obtain ⟨y257, hy258, hb231⟩ := bindS hb231
    refine CW.draw 9 [(none, fun fx O uu wx => uu = av4), (none, fun fx O uu wx => uu = av0), (none, fun fx O uu wx => uu = (Value.int .i64 a2)), (none, fun fx O uu wx => ∃ (p241 : Nat) (o242 : Nat) (z249 : Value), uu = (Value.pointer (some ⟨p241, o242, none⟩)) ∧ slRep k_Point (G F Bb (un (inBlk av0) S2)) wx y247.points z249 ∧ Seg wx p241 o242 (Group.c y247 z249)), (none, fun fx O uu wx => ∃ (z249_4 : Value), uu = (Value.agg (Group.c y247 z249_4).toArray) ∧ slRep k_Point (G F Bb (un (inBlk av0) S2)) wx y247.points z249_4), (none, fun fx O uu wx => uu = av0), (none, fun fx O uu wx => uu = (Value.int .i64 (IntKind.i64.wrap ((IntKind.u64.wrap (IntKind.i64.wrap (x223 + x224))).fdiv (2 ^ (min (Int.toNat 1) IntKind.u64.bits)))))), (none, fun fx O uu wx => ∃ (p251 : Nat) (o252 : Nat) (z259 : Value), uu = (Value.pointer (some ⟨p251, o252, none⟩)) ∧ slRep k_Point (G F Bb (un (inBlk av0) S2)) wx y257.points z259 ∧ Seg wx p251 o252 (Group.c y257 z259)), (none, fun fx O uu wx => ∃ (z259_8 : Value), uu = (Value.agg (Group.c y257 z259_8).toArray) ∧ slRep k_Point (G F Bb (un (inBlk av0) S2)) wx y257.points z259_8)] [[], [], [], [1, 2], [3], [], [], [5, 6], [7]] [0, 4, 8] nb (fun _ h => h.elim) mixed rfl rfl rfl rfl ?_ ?_
    ·
     refine Each.consS (fun fl O wk hE hN hO ck => ?_) ?_
     ·
      refine rl_move rfl rfl ?_
      exact RL.nil ⟨_, rfl, Ch.refl, rfl⟩
     refine Each.consS (fun fl O wk hE hN hO ck => ?_) ?_
     ·
      refine rl_move rfl rfl ?_
      exact RL.nil ⟨_, rfl, Ch.refl, rfl⟩
     refine Each.consS (fun fl O wk hE hN hO ck => ?_) ?_
     ·
      refine rl_move rfl rfl ?_
      exact RL.nil ⟨_, rfl, Ch.refl, rfl⟩
     refine Each.consA ⟨fun _ _ _ _ _ cc hh => by obtain ⟨p241, o242, z249, e, h250, hs245⟩ := hh; exact ⟨p241, o242, z249, e, slRep.ch k_Point_pos h250 cc, hs245.ch0 cc⟩, fun h => absurd rfl h, fun fl O wk hE hN hO ck => ?_⟩ ?_
     ·
      have ah0 := ah0.ch0 ck
      refine Need.o1 rfl rfl rfl (fun _ h => h) ?_
      refine Need.o1 rfl rfl rfl (fun _ h => h) ?_
      refine rl_ixOR rfl ah0 rfl (ixO_get hy248) k_Group_pos Tryz.underlying37 Tryz.sizeOf50 rfl ?_
      intro p265 o266 cs267 hr268 hs269 hg270
      obtain ⟨z271, rfl, h272⟩ := hr268
      exact RL.nil ⟨_, rfl, Ch.refl, ⟨p265, o266, z271, rfl, h272, hs269⟩⟩
     refine Each.consA ⟨fun _ _ _ _ _ cc hh => by obtain ⟨z249_4, e, h250_4⟩ := hh; exact ⟨z249_4, e, slRep.ch k_Point_pos h250_4 cc⟩, fun h => absurd rfl h, fun fl O wk hE hN hO ck => ?_⟩ ?_
     ·
      refine Need.one rfl rfl rfl ?_
      rintro _ ⟨p241, o242, z249, e273, h250, hs245⟩
      obtain rfl := e273.symm
      refine rl_loadA (cs := (Group.c y247 z249)) rfl Tryz.isAgg50 Tryz.sizeOf50 (hs245) rfl rfl ?_
      exact RL.nil ⟨_, rfl, Ch.refl, ⟨z249, rfl, h250⟩⟩
     refine Each.consS (fun fl O wk hE hN hO ck => ?_) ?_
     ·
      refine rl_move rfl rfl ?_
      exact RL.nil ⟨_, rfl, Ch.refl, rfl⟩
     refine Each.consS (fun fl O wk hE hN hO ck => ?_) ?_
     ·
      refine rl_move rfl rfl ?_
      exact RL.nil ⟨_, rfl, Ch.refl, rfl⟩
     refine Each.consA ⟨fun _ _ _ _ _ cc hh => by obtain ⟨p251, o252, z259, e, h260, hs255⟩ := hh; exact ⟨p251, o252, z259, e, slRep.ch k_Point_pos h260 cc, hs255.ch0 cc⟩, fun h => absurd rfl h, fun fl O wk hE hN hO ck => ?_⟩ ?_
     ·
      have ah0 := ah0.ch0 ck
      refine Need.o1 rfl rfl rfl (fun _ h => h) ?_
      refine Need.o1 rfl rfl rfl (fun _ h => h) ?_
      refine rl_ixOR rfl ah0 rfl (ixO_get hy258) k_Group_pos Tryz.underlying37 Tryz.sizeOf50 rfl ?_
      intro p276 o277 cs278 hr279 hs280 hg281
      obtain ⟨z282, rfl, h283⟩ := hr279
      exact RL.nil ⟨_, rfl, Ch.refl, ⟨p276, o277, z282, rfl, h283, hs280⟩⟩
     refine Each.consA ⟨fun _ _ _ _ _ cc hh => by obtain ⟨z259_8, e, h260_8⟩ := hh; exact ⟨z259_8, e, slRep.ch k_Point_pos h260_8 cc⟩, fun h => absurd rfl h, fun fl O wk hE hN hO ck => ?_⟩ ?_
     ·
      refine Need.one rfl rfl rfl ?_
      rintro _ ⟨p251, o252, z259, e284, h260, hs255⟩
      obtain rfl := e284.symm
      refine rl_loadA (cs := (Group.c y257 z259)) rfl Tryz.isAgg50 Tryz.sizeOf50 (hs255) rfl rfl ?_
      exact RL.nil ⟨_, rfl, Ch.refl, ⟨z259, rfl, h260⟩⟩
     trivial
    intro hvO287 OpO287 O287 w285 hO288 c286 hN289
    have ah0 := ah0.ch0 c286
    have ah4 := Kd.ch ah4 c286
    have c237 := c237.then0 c286
    refine Need.o1 rfl rfl rfl (fun _ h => h) ?_
    refine Need.one rfl rfl rfl ?_
    rintro _ ⟨z249_4, e291, h250_4⟩
    obtain rfl := e291.symm
    refine Need.one rfl rfl rfl ?_
    rintro _ ⟨z259_8, e292, h260_8⟩
    obtain rfl := e292.symm
    refine rl_fn2 (c := (Group.c y247 z249_4)) (c' := (Group.c y257 z259_8)) rfl rfl rfl rfl rfl ah4 (F' := (G F Bb (un (inBlk av0) S2))) (xx := y247) (yy := y257) (show k_Group.rep (G F Bb (un (inBlk av0) S2)) w285 y247 (Group.c y247 z249_4) from ⟨z249_4, rfl, h250_4⟩) (show k_Group.rep (G F Bb (un (inBlk av0) S2)) w285 y257 (Group.c y257 z259_8) from ⟨z259_8, rfl, h260_8⟩) rfl ?_
    intro w293 c294
    have ah0 := ah0.ch0 c294
    have ah4 := Kd.ch ah4 c294
    have c237 := c237.then0 c294
    refine rl_bin rfl rfl B.lss rfl ?_
    refine rl_not rfl rfl ?_
    refine RL.nil (thn_n ?_)
    refine CW.cond (t := !(decide ((a4 y247 y257) < 0))) rfl (fun q295 => ?_) (fun q295 => ?_)
    ·
     have hb231 := ifT q295 hb231
     refine CW.region ?_
     refine rl_move rfl rfl ?_
     refine rl_bin rfl rfl B.add rfl ?_
     refine rl_assign rfl rfl ?_
     refine RL.nil ?_
     refine inB_n ?_
     refine thn_n ?_
     have hLn := runW_next hL227 hq230 hb231
     exact ⟨k236, Nat.lt_succ_self _, [(0, av0), (2, (Value.int .i64 a2)), (4, av4), (14, (Value.int .i64 (IntKind.i64.wrap ((IntKind.i64.wrap ((IntKind.u64.wrap (IntKind.i64.wrap (x223 + x224))).fdiv (2 ^ (min (Int.toNat 1) IntKind.u64.bits)))) + 1)))), (15, (Value.int .i64 x224))], ⟨rfl, rfl, rfl, rfl, rfl, trivial⟩, ⟨IntKind.i64.wrap ((IntKind.i64.wrap ((IntKind.u64.wrap (IntKind.i64.wrap (x223 + x224))).fdiv (2 ^ (min (Int.toNat 1) IntKind.u64.bits)))) + 1), x224, rfl, c237, hLn, ah0, ah4⟩⟩
    have hb231 := ifF q295 hb231
    refine CW.region ?_
    refine rl_move rfl rfl ?_
    refine rl_assign rfl rfl ?_
    refine RL.nil ?_
    refine inB_n ?_
    refine thn_n ?_
    have hLn := runW_next hL227 hq230 hb231
    exact ⟨k236, Nat.lt_succ_self _, [(0, av0), (2, (Value.int .i64 a2)), (4, av4), (14, (Value.int .i64 x223)), (15, (Value.int .i64 (IntKind.i64.wrap ((IntKind.u64.wrap (IntKind.i64.wrap (x223 + x224))).fdiv (2 ^ (min (Int.toNat 1) IntKind.u64.bits))))))], ⟨rfl, rfl, rfl, rfl, rfl, trivial⟩, ⟨x223, IntKind.i64.wrap ((IntKind.u64.wrap (IntKind.i64.wrap (x223 + x224))).fdiv (2 ^ (min (Int.toNat 1) IntKind.u64.bits))), rfl, c237, hLn, ah0, ah4⟩⟩
   have hb231 := ifF q240 hb231
   refine CW.exit ?_
   refine thn_exit ?_
   refine thn_exit ?_
   refine inB_hit ?_
   have hLf := runW_fin hL227 hq230 hb231
   exact ⟨x223, x224, ⟨rfl, rfl, rfl, trivial⟩, c237, hLf, ah0, ah4⟩
  rintro _ w297 ⟨x223, x224, hE298, c296, f299, ah0, ah4⟩
  have hS := finS f299 hS
  refine thn_n (CW.sub [(0, av0), (2, (Value.int .i64 a2)), (14, (Value.int .i64 x223))] hE298 ?_)
  refine CW.seq ?_
  refine CW.seq (CW.region ?_)
  refine rl_move rfl rfl ?_
  refine rl_assign rfl rfl ?_
  refine RL.nil (thn_n ?_)
  obtain ⟨o311, ho312, hS⟩ := bindS hS
  refine CW.cutB (fun E' w' => ∃ (x301 : Int) (x302 : (List Group)), Sub [] E' ∧ Ch (inBlk av0) w w' ∧ Lp.fin (x301, x302) = o311 ∧ (Kd.fn2 Tryz.prog true true k_Group k_Group (Value.int .i64)).rep (G F Bb (un (inBlk av0) S2)) w' a4 [av4] ∧ SlO k_Group 50 F Bb (un (inBlk av0) S2) w' x302 av0) ?_ ?_
  ·
   refine CW.loopS [(0, av0), (14, (Value.int .i64 x223)), (17, (Value.int .i64 a2))] ⟨rfl, rfl, rfl, trivial⟩ FUEL (fun m E w' => ∃ (x301 : Int) (x302 : (List Group)), E = [(0, av0), (14, (Value.int .i64 x223)), (17, (Value.int .i64 x301))] ∧ Ch (inBlk av0) w w' ∧ runW (F78_Group_body_b4 x223 x223) m (x301, x302) = some o311 ∧ (Kd.fn2 Tryz.prog true true k_Group k_Group (Value.int .i64)).rep (G F Bb (un (inBlk av0) S2)) w' a4 [av4] ∧ SlO k_Group 50 F Bb (un (inBlk av0) S2) w' x302 av0)
       ⟨a2, a0, rfl, c296, ho312, ah4, ah0⟩ ?_
   rintro _ _ w317 ⟨x301, x302, rfl, c316, hL306, ah4, h303⟩
   obtain ⟨k315, q308, rfl, hq309⟩ := runW_some hL306
   have hb310 := hq309
   refine CW.seq ?_
   refine CW.seq (CW.region ?_)
   refine rl_move rfl rfl ?_
   refine rl_move rfl rfl ?_
   refine rl_bin rfl rfl B.gtr rfl ?_
   refine RL.nil (thn_n ?_)
   refine CW.cond (t := decide (x301 > x223)) rfl (fun q319 => ?_) (fun q319 => ?_)
   ·
    have hb310 := ifT q319 hb310
    refine CW.skip ?_
    refine thn_n (CW.seq ?_)
    refine CW.block ?_
    obtain ⟨y326, hy327, hb310⟩ := bindS hb310
    obtain ⟨y336, hy337, hb310⟩ := bindS hb310
    obtain ⟨y346, hy347, hb310⟩ := bindS hb310
    obtain ⟨y358, hy359, hb310⟩ := bindS hb310
    refine CW.draw 16 [(none, fun fx O uu wx => uu = av0), (none, fun fx O uu wx => uu = (Value.int .i64 x301)), (none, fun fx O uu wx => uu = av0), (none, fun fx O uu wx => uu = (Value.int .i64 x301)), (none, fun fx O uu wx => uu = (Value.int .i64 (IntKind.i64.wrap (x301 - 1)))), (none, fun fx O uu wx => uu = av0), (none, fun fx O uu wx => uu = (Value.int .i64 x301)), (none, fun fx O uu wx => uu = (Value.int .i64 (IntKind.i64.wrap (x301 - 1)))), (none, fun fx O uu wx => ∃ (p320 : Nat) (o321 : Nat) (z328 : Value), uu = (Value.pointer (some ⟨p320, o321, none⟩)) ∧ slRep k_Point (G F Bb (un O S2)) wx y326.points z328 ∧ (fx = [] → Seg wx p320 o321 (Group.c y326 z328))), (none, fun fx O uu wx => ∃ (z328_9 : Value), uu = (Value.agg (Group.c y326 z328_9).toArray) ∧ slRep k_Point (G F Bb (un O S2)) wx y326.points z328_9), (none, fun fx O uu wx => uu = av0), (none, fun fx O uu wx => uu = (Value.int .i64 x301)), (none, fun fx O uu wx => ∃ (p330 : Nat) (o331 : Nat) (z338 : Value), uu = (Value.pointer (some ⟨p330, o331, none⟩)) ∧ slRep k_Point (G F Bb (un O S2)) wx y336.points z338 ∧ (fx = [] → Seg wx p330 o331 (Group.c y336 z338))), (none, fun fx O uu wx => ∃ (z338_13 : Value), uu = (Value.agg (Group.c y336 z338_13).toArray) ∧ slRep k_Point (G F Bb (un O S2)) wx y336.points z338_13), (none, fun fx O uu wx => ∃ (p340 : Nat), uu = (Value.pointer (some ⟨p340, x301.toNat * k_Group.n, none⟩)) ∧ inBlk av0 p340), (some true, fun hv O uu wx => hv = [undef] ∧ uu = undef ∧ O = (inBlk av0) ∧ SlO k_Group 50 F Bb (un (inBlk av0) S2) wx (x302.set x301.toNat y326) av0)] [[], [], [], [], [3], [], [], [6], [5, 7], [8], [], [], [10, 11], [12], [0, 1], [9, 14]] [15, 2, 4, 13] (inBlk av0) (fun b h => (fun b hb => (h303.lt b hb).2) b h) mixed rfl rfl rfl rfl ?_ ?_
    ·
     refine Each.consS (fun fl O wk hE hN hO ck => ?_) ?_
     ·
      refine rl_move rfl rfl ?_
      exact RL.nil ⟨_, rfl, Ch.refl, rfl⟩
     refine Each.consS (fun fl O wk hE hN hO ck => ?_) ?_
     ·
      refine rl_move rfl rfl ?_
      exact RL.nil ⟨_, rfl, Ch.refl, rfl⟩
     refine Each.consS (fun fl O wk hE hN hO ck => ?_) ?_
     ·
      refine rl_move rfl rfl ?_
      exact RL.nil ⟨_, rfl, Ch.refl, rfl⟩
     refine Each.consS (fun fl O wk hE hN hO ck => ?_) ?_
     ·
      refine rl_move rfl rfl ?_
      exact RL.nil ⟨_, rfl, Ch.refl, rfl⟩
     refine Each.consS (fun fl O wk hE hN hO ck => ?_) ?_
     ·
      refine Need.o1 rfl rfl rfl (fun _ h => h) ?_
      refine rl_bin rfl rfl B.sub rfl ?_
      exact RL.nil ⟨_, rfl, Ch.refl, rfl⟩
     refine Each.consS (fun fl O wk hE hN hO ck => ?_) ?_
     ·
      refine rl_move rfl rfl ?_
      exact RL.nil ⟨_, rfl, Ch.refl, rfl⟩
     refine Each.consS (fun fl O wk hE hN hO ck => ?_) ?_
     ·
      refine rl_move rfl rfl ?_
      exact RL.nil ⟨_, rfl, Ch.refl, rfl⟩
     refine Each.consS (fun fl O wk hE hN hO ck => ?_) ?_
     ·
      refine Need.o1 rfl rfl rfl (fun _ h => h) ?_
      refine rl_bin rfl rfl B.sub rfl ?_
      exact RL.nil ⟨_, rfl, Ch.refl, rfl⟩
     refine Each.consA ⟨fun _ _ _ _ _ cc hh => by obtain ⟨p320, o321, z328, e, h329, hs324⟩ := hh; exact ⟨p320, o321, z328, e, slRep.ch k_Point_pos h329 cc, (fun hfx => (hs324 hfx).ch0 cc)⟩, fun _ _ h' O O' D _ wx wy hfl hD hO' cc hh => by obtain ⟨p320, o321, z328, e, h329, hs324⟩ := hh; have ad := admGh (S := S2) hD hO'; exact ⟨p320, o321, z328, e, slRep.st k_Point_pos h329 cc ad, (fun hfx => hfl.elim (fun e => by rw [e] at hfx; cases hfx) (fun e => Seg.ch0 (hs324 (e.1.symm.trans hfx)) (cc.mono (fun b _ hd => (e.2 b hd).elim))))⟩, fun fl O wk hE hN hO ck => ?_⟩ ?_
     ·
      obtain ⟨_, hB374⟩ := hN (hE rfl)
      have h303 := h303.ch0 hB374.2.1
      refine Need.o1 rfl rfl rfl (fun _ h => h) ?_
      refine Need.o1 rfl rfl rfl (fun _ h => h) ?_
      refine rl_ixOR rfl h303 rfl (ixO_get hy327) k_Group_pos Tryz.underlying37 Tryz.sizeOf50 rfl ?_
      intro p377 o378 cs379 hr380 hs381 hg382
      obtain ⟨z383, rfl, h384⟩ := hr380
      have h384 := slRep.wk (F' := (G F Bb (un O S2))) k_Point_pos h384 (fun b _ hf => ⟨hf.1, fun h => hf.2 (un_el h (fun ho => ((hB374.1 b).1 ho).elim (fun h => (.inl h)) (fun hk => by obtain ⟨_, hk, _⟩ := hk; cases hk)) (fun h => (.inr h)))⟩)
      exact RL.nil ⟨_, rfl, Ch.refl, ⟨p377, o378, z383, rfl, h384, (fun _ => hs381)⟩⟩
     refine Each.consA ⟨fun _ _ _ _ _ cc hh => by obtain ⟨z328_9, e, h329_9⟩ := hh; exact ⟨z328_9, e, slRep.ch k_Point_pos h329_9 cc⟩, fun _ _ h' O O' D _ wx wy hfl hD hO' cc hh => by obtain ⟨z328_9, e, h329_9⟩ := hh; have ad := admGh (S := S2) hD hO'; exact ⟨z328_9, e, slRep.st k_Point_pos h329_9 cc ad⟩, fun fl O wk hE hN hO ck => ?_⟩ ?_
     ·
      refine Need.one rfl rfl rfl ?_
      rintro _ ⟨p320, o321, z328, e386, h329, hs324⟩
      obtain rfl := e386.symm
      have hs324 := hs324 (hE rfl)
      refine rl_loadA (cs := (Group.c y326 z328)) rfl Tryz.isAgg50 Tryz.sizeOf50 (hs324) rfl rfl ?_
      exact RL.nil ⟨_, rfl, Ch.refl, ⟨z328, rfl, h329⟩⟩
     refine Each.consS (fun fl O wk hE hN hO ck => ?_) ?_
     ·
      refine rl_move rfl rfl ?_
      exact RL.nil ⟨_, rfl, Ch.refl, rfl⟩
     refine Each.consS (fun fl O wk hE hN hO ck => ?_) ?_
     ·
      refine rl_move rfl rfl ?_
      exact RL.nil ⟨_, rfl, Ch.refl, rfl⟩
     refine Each.consA ⟨fun _ _ _ _ _ cc hh => by obtain ⟨p330, o331, z338, e, h339, hs334⟩ := hh; exact ⟨p330, o331, z338, e, slRep.ch k_Point_pos h339 cc, (fun hfx => (hs334 hfx).ch0 cc)⟩, fun _ _ h' O O' D _ wx wy hfl hD hO' cc hh => by obtain ⟨p330, o331, z338, e, h339, hs334⟩ := hh; have ad := admGh (S := S2) hD hO'; exact ⟨p330, o331, z338, e, slRep.st k_Point_pos h339 cc ad, (fun hfx => hfl.elim (fun e => by rw [e] at hfx; cases hfx) (fun e => Seg.ch0 (hs334 (e.1.symm.trans hfx)) (cc.mono (fun b _ hd => (e.2 b hd).elim))))⟩, fun fl O wk hE hN hO ck => ?_⟩ ?_
     ·
      obtain ⟨_, hB389⟩ := hN (hE rfl)
      have h303 := h303.ch0 hB389.2.1
      refine Need.o1 rfl rfl rfl (fun _ h => h) ?_
      refine Need.o1 rfl rfl rfl (fun _ h => h) ?_
      refine rl_ixOR rfl h303 rfl (ixO_get hy337) k_Group_pos Tryz.underlying37 Tryz.sizeOf50 rfl ?_
      intro p392 o393 cs394 hr395 hs396 hg397
      obtain ⟨z398, rfl, h399⟩ := hr395
      have h399 := slRep.wk (F' := (G F Bb (un O S2))) k_Point_pos h399 (fun b _ hf => ⟨hf.1, fun h => hf.2 (un_el h (fun ho => ((hB389.1 b).1 ho).elim (fun h => (.inl h)) (fun hk => by obtain ⟨_, hk, _⟩ := hk; cases hk)) (fun h => (.inr h)))⟩)
      exact RL.nil ⟨_, rfl, Ch.refl, ⟨p392, o393, z398, rfl, h399, (fun _ => hs396)⟩⟩
     refine Each.consA ⟨fun _ _ _ _ _ cc hh => by obtain ⟨z338_13, e, h339_13⟩ := hh; exact ⟨z338_13, e, slRep.ch k_Point_pos h339_13 cc⟩, fun _ _ h' O O' D _ wx wy hfl hD hO' cc hh => by obtain ⟨z338_13, e, h339_13⟩ := hh; have ad := admGh (S := S2) hD hO'; exact ⟨z338_13, e, slRep.st k_Point_pos h339_13 cc ad⟩, fun fl O wk hE hN hO ck => ?_⟩ ?_
     ·
      refine Need.one rfl rfl rfl ?_
      rintro _ ⟨p330, o331, z338, e401, h339, hs334⟩
      obtain rfl := e401.symm
      have hs334 := hs334 (hE rfl)
      refine rl_loadA (cs := (Group.c y336 z338)) rfl Tryz.isAgg50 Tryz.sizeOf50 (hs334) rfl rfl ?_
      exact RL.nil ⟨_, rfl, Ch.refl, ⟨z338, rfl, h339⟩⟩
     refine Each.consA ⟨fun _ _ _ _ _ cc hh => by obtain ⟨p340, e, hg345⟩ := hh; exact ⟨p340, e, hg345⟩, fun _ _ h' O O' D _ wx wy hfl hD hO' cc hh => by obtain ⟨p340, e, hg345⟩ := hh; have ad := admGh (S := S2) hD hO'; exact ⟨p340, e, hg345⟩, fun fl O wk hE hN hO ck => ?_⟩ ?_
     ·
      obtain ⟨_, hB402⟩ := hN (hE rfl)
      have h303 := h303.ch0 hB402.2.1
      refine Need.o1 rfl rfl rfl (fun _ h => h) ?_
      refine Need.o1 rfl rfl rfl (fun _ h => h) ?_
      refine rl_ixO rfl h303 rfl (ixO_get hy347) Tryz.underlying37 Tryz.sizeOf50 rfl ?_
      intro p405 hg410
      exact RL.nil ⟨_, rfl, Ch.refl, ⟨p405, rfl, hg410⟩⟩
     refine Each.consO ⟨fun _ O _ wx wy cc hh => by obtain ⟨eh, e, rfl, ck15_0⟩ := hh; exact ⟨eh, e, rfl, ck15_0.ch0 cc⟩, fun hv Op O wk hO ck hO0 => ?_⟩ ?_
     ·
      obtain ⟨hl, hBg⟩ := hO0 rfl
      obtain rfl := List.eq_nil_of_length_eq_zero hl
      have h303 := h303.ch0 hBg.2.1
      refine Need.one rfl rfl rfl ?_
      rintro _ ⟨z328_9, e411, h329_9⟩
      obtain rfl := e411.symm
      have h329_9 := slRep.wk (F' := (G F Bb (un (inBlk av0) S2))) k_Point_pos h329_9 (fun b _ hf => ⟨hf.1, fun h => hf.2 (un_el h (fun h => (.inl ((hBg.1 b).2 (.inl h)))) (fun h => (.inr h)))⟩)
      refine Need.one rfl rfl rfl ?_
      rintro _ ⟨p340, e412, hg345⟩
      obtain rfl := e412.symm
      refine rl_storeOA rfl rfl Tryz.sizeOf50 h303 hg345 (ixO_lt hy347) (show k_Group.rep (G F Bb (un (inBlk av0) S2)) wk y326 (Group.c y326 z328_9) from ⟨z328_9, rfl, h329_9⟩) ?_
      intro w413 c414 h415
      have hb417 : ∀ b, (inBlk av0) b → (O b ∨ wk.heap.size ≤ b) ∧ b < w413.heap.size := fun b h => ⟨.inl ((hBg.1 b).2 (.inl h)), (fun b hb => (h415.lt b hb).2) b h⟩
      exact RL.nil ⟨_, (inBlk av0), rfl, hb417, (c414.mono (fun b _ h => ((hBg.1 b).2 (.inl h)))), ⟨rfl, rfl, rfl, h415⟩⟩
     trivial
    intro hvO420 OpO420 O420 w418 hO421 c419 hN422
    refine Need.hereN rfl rfl rfl rfl ?_
    rintro ⟨rfl, _, rfl, ck15_0⟩
    have ha424 : ∀ b, b < w317.heap.size → ¬ (un (inBlk av0) S2) b → ¬ (inBlk av0) b ∧ ¬ (un (inBlk av0) S2) b := fun b hb hs => ⟨fun h => hs (.inl h), fun h => un_el h (fun h => (hO421 b h).1.elim (fun h => hs (.inl h)) (fun h => Nat.not_le_of_lt hb h)) (fun h => hs (.inr h))⟩
    have ah4 := Kd.st ah4 c419 ha424
    have c316 := c316.then c419 (fun i hi h => (lin0_0 i h).elim (fun x => x) (fun x => absurd x (Nat.not_le_of_lt hi)))
    refine Need.o1 rfl rfl rfl (fun _ h => h) ?_
    refine Need.o1 rfl rfl rfl (fun _ h => h) ?_
    refine Need.one rfl rfl rfl ?_
    rintro _ ⟨z338_13, e427, h339_13⟩
    obtain rfl := e427.symm
    have h339_13 := slRep.wk (F' := (G F Bb (un (inBlk av0) S2))) k_Point_pos h339_13 (fun b _ hf => ⟨hf.1, fun h => hf.2 (un_el h (fun h => (.inl h)) (fun h => (.inr h)))⟩)
    refine rl_ixO rfl ck15_0 rfl (ixO_get hy359) Tryz.underlying37 Tryz.sizeOf50 rfl ?_
    intro p428 hg433
    refine rl_storeOA rfl rfl Tryz.sizeOf50 ck15_0 hg433 (ixO_lt hy359) (show k_Group.rep (G F Bb (un (inBlk av0) S2)) w418 y336 (Group.c y336 z338_13) from ⟨z338_13, rfl, h339_13⟩) ?_
    intro w434 c435 h436
    have ad437 : ∀ b, b < w418.heap.size → ¬ (un (inBlk av0) S2) b → ¬ (inBlk av0) b ∧ ¬ (un (inBlk av0) S2) b := fun b _ hs => ⟨fun h => hs (.inl h), hs⟩
    have ah4 := Kd.st ah4 c435 ad437
    have c316 := c316.then c435 (fun i hi h => (lin0_0 i h).elim (fun x => x) (fun x => absurd x (Nat.not_le_of_lt hi)))
    refine RL.nil ?_
    refine inB_n ?_
    refine thn_n (CW.region ?_)
    refine rl_move rfl rfl ?_
    refine rl_bin rfl rfl B.sub rfl ?_
    refine rl_assign rfl rfl ?_
    refine RL.nil (thn_n ?_)
    have hLn := runW_next hL306 hq309 hb310
    exact ⟨k315, Nat.lt_succ_self _, [(0, av0), (14, (Value.int .i64 x223)), (17, (Value.int .i64 (IntKind.i64.wrap (x301 - 1))))], ⟨rfl, rfl, rfl, trivial⟩, ⟨IntKind.i64.wrap (x301 - 1), (x302.set x301.toNat y326).set (IntKind.i64.wrap (x301 - 1)).toNat y336, rfl, c316, hLn, ah4, h436⟩⟩
   have hb310 := ifF q319 hb310
   refine CW.exit ?_
   refine thn_exit ?_
   refine thn_exit ?_
   refine inB_hit ?_
   have hLf := runW_fin hL306 hq309 hb310
   exact ⟨x301, x302, trivial, c316, hLf, ah4, h303⟩
  rintro _ w439 ⟨x301, x302, hE440, c438, f441, ah4, h303⟩
  have hS := finS f441 hS
  refine thn_n (CW.sub [] hE440 ?_)
  refine CW.ret ?_
  refine thn_ret ?_
  obtain rfl := Option.some.inj hS
  exact ⟨[], trivial, ⟨rfl, h303, c438⟩⟩
 have hS := ifF q222 hS
 refine CW.skip ?_
 refine thn_n (CW.seq (CW.region ?_))
 refine rl_move rfl rfl ?_
 refine rl_move rfl rfl ?_
 refine rl_bin rfl rfl B.add rfl ?_
 refine rl_convInt rfl ⟨_, Tryz.underlying3⟩ Tryz.underlying168 rfl ?_
 refine rl_bin rfl rfl (B.shr rfl) rfl ?_
 refine rl_convInt rfl ⟨_, Tryz.underlying168⟩ Tryz.underlying3 rfl ?_
 refine rl_assign rfl rfl ?_
 refine RL.nil (thn_n (CW.seq (CW.region ?_)))
 refine rl_move rfl rfl ?_
 refine rl_move rfl rfl ?_
 refine rl_bin rfl rfl B.add rfl ?_
 refine rl_assign rfl rfl ?_
 refine RL.nil (thn_n (CW.seq (CW.region ?_)))
 refine rl_assign rfl rfl ?_
 refine rl_assign rfl rfl ?_
 refine RL.nil (thn_n (CW.seq ?_))
 refine CW.seq (CW.region ?_)
 refine rl_move rfl rfl ?_
 refine rl_move rfl rfl ?_
 refine rl_bin rfl rfl B.gtr rfl ?_
 refine RL.nil (thn_n ?_)
 obtain ⟨y443, hy444⟩ : ∃ y, (if (decide (a2 > (IntKind.i64.wrap ((IntKind.u64.wrap (IntKind.i64.wrap (a1 + a3))).fdiv (2 ^ (min (Int.toNat 1) IntKind.u64.bits)))))) = true then (IntKind.i64.wrap ((IntKind.i64.wrap ((IntKind.i64.wrap ((IntKind.u64.wrap (IntKind.i64.wrap (a1 + a3))).fdiv (2 ^ (min (Int.toNat 1) IntKind.u64.bits)))) + a2)) - a3), IntKind.i64.wrap ((IntKind.u64.wrap (IntKind.i64.wrap (a1 + a3))).fdiv (2 ^ (min (Int.toNat 1) IntKind.u64.bits)))) else (a1, a2)) = y := ⟨_, rfl⟩
 have hS := ltS hy444 hS
 refine CW.cutN (fun E' w' => w = w' ∧ Sub [(0, av0), (1, (Value.int .i64 a1)), (2, (Value.int .i64 a2)), (3, (Value.int .i64 a3)), (4, av4), (18, (Value.int .i64 (IntKind.i64.wrap ((IntKind.u64.wrap (IntKind.i64.wrap (a1 + a3))).fdiv (2 ^ (min (Int.toNat 1) IntKind.u64.bits)))))), (19, (Value.int .i64 (IntKind.i64.wrap ((IntKind.i64.wrap ((IntKind.u64.wrap (IntKind.i64.wrap (a1 + a3))).fdiv (2 ^ (min (Int.toNat 1) IntKind.u64.bits)))) + a2)))), (20, (Value.int .i64 y443.1)), (21, (Value.int .i64 y443.2))] E') ?_ ?_
 ·
  refine CW.cond (t := decide (a2 > (IntKind.i64.wrap ((IntKind.u64.wrap (IntKind.i64.wrap (a1 + a3))).fdiv (2 ^ (min (Int.toNat 1) IntKind.u64.bits)))))) rfl (fun q445 => ?_) (fun q445 => ?_)
  ·
   obtain rfl := ifT q445 hy444
   refine CW.seq (CW.region ?_)
   refine rl_move rfl rfl ?_
   refine rl_move rfl rfl ?_
   refine rl_bin rfl rfl B.sub rfl ?_
   refine rl_assign rfl rfl ?_
   refine RL.nil (thn_n (CW.region ?_))
   refine rl_move rfl rfl ?_
   refine rl_assign rfl rfl ?_
   refine RL.nil ?_
   exact ⟨rfl, rfl, ⟨rfl, rfl, rfl, rfl, rfl, rfl, rfl, rfl, rfl, trivial⟩⟩
  obtain rfl := ifF q445 hy444
  refine CW.seq (CW.region ?_)
  refine rl_move rfl rfl ?_
  refine rl_assign rfl rfl ?_
  refine RL.nil (thn_n (CW.region ?_))
  refine rl_move rfl rfl ?_
  refine rl_assign rfl rfl ?_
  refine RL.nil ?_
  exact ⟨rfl, rfl, ⟨rfl, rfl, rfl, rfl, rfl, rfl, rfl, rfl, rfl, trivial⟩⟩
 rintro _ _ ⟨rfl, hE446⟩
 refine thn_n (CW.sub [(0, av0), (1, (Value.int .i64 a1)), (2, (Value.int .i64 a2)), (3, (Value.int .i64 a3)), (4, av4), (18, (Value.int .i64 (IntKind.i64.wrap ((IntKind.u64.wrap (IntKind.i64.wrap (a1 + a3))).fdiv (2 ^ (min (Int.toNat 1) IntKind.u64.bits)))))), (19, (Value.int .i64 (IntKind.i64.wrap ((IntKind.i64.wrap ((IntKind.u64.wrap (IntKind.i64.wrap (a1 + a3))).fdiv (2 ^ (min (Int.toNat 1) IntKind.u64.bits)))) + a2)))), (20, (Value.int .i64 y443.1)), (21, (Value.int .i64 y443.2))] hE446 ?_)
 refine CW.seq (CW.region ?_)
 refine rl_move rfl rfl ?_
 refine rl_bin rfl rfl B.sub rfl ?_
 refine rl_assign rfl rfl ?_
 refine RL.nil (thn_n (CW.seq ?_))
 obtain ⟨o456, ho457, hS⟩ := bindS hS
 refine CW.cutB (fun E' w' => ∃ (x447 : Int) (x448 : Int), Sub [(0, av0), (1, (Value.int .i64 a1)), (2, (Value.int .i64 a2)), (3, (Value.int .i64 a3)), (4, av4), (18, (Value.int .i64 (IntKind.i64.wrap ((IntKind.u64.wrap (IntKind.i64.wrap (a1 + a3))).fdiv (2 ^ (min (Int.toNat 1) IntKind.u64.bits)))))), (19, (Value.int .i64 (IntKind.i64.wrap ((IntKind.i64.wrap ((IntKind.u64.wrap (IntKind.i64.wrap (a1 + a3))).fdiv (2 ^ (min (Int.toNat 1) IntKind.u64.bits)))) + a2)))), (20, (Value.int .i64 x447))] E' ∧ Ch (inBlk av0) w w' ∧ Lp.fin (x447, x448) = o456 ∧ SlO k_Group 50 F Bb (un (inBlk av0) S2) w' a0 av0 ∧ (Kd.fn2 Tryz.prog true true k_Group k_Group (Value.int .i64)).rep (G F Bb (un (inBlk av0) S2)) w' a4 [av4]) ?_ ?_
 ·
  refine CW.loopS [(0, av0), (1, (Value.int .i64 a1)), (2, (Value.int .i64 a2)), (3, (Value.int .i64 a3)), (4, av4), (18, (Value.int .i64 (IntKind.i64.wrap ((IntKind.u64.wrap (IntKind.i64.wrap (a1 + a3))).fdiv (2 ^ (min (Int.toNat 1) IntKind.u64.bits)))))), (19, (Value.int .i64 (IntKind.i64.wrap ((IntKind.i64.wrap ((IntKind.u64.wrap (IntKind.i64.wrap (a1 + a3))).fdiv (2 ^ (min (Int.toNat 1) IntKind.u64.bits)))) + a2)))), (22, (Value.int .i64 (IntKind.i64.wrap ((IntKind.i64.wrap ((IntKind.i64.wrap ((IntKind.u64.wrap (IntKind.i64.wrap (a1 + a3))).fdiv (2 ^ (min (Int.toNat 1) IntKind.u64.bits)))) + a2)) - 1)))), (20, (Value.int .i64 y443.1)), (21, (Value.int .i64 y443.2))] ⟨rfl, rfl, rfl, rfl, rfl, rfl, rfl, rfl, rfl, rfl, trivial⟩ FUEL (fun m E w' => ∃ (x447 : Int) (x448 : Int), E = [(0, av0), (1, (Value.int .i64 a1)), (2, (Value.int .i64 a2)), (3, (Value.int .i64 a3)), (4, av4), (18, (Value.int .i64 (IntKind.i64.wrap ((IntKind.u64.wrap (IntKind.i64.wrap (a1 + a3))).fdiv (2 ^ (min (Int.toNat 1) IntKind.u64.bits)))))), (19, (Value.int .i64 (IntKind.i64.wrap ((IntKind.i64.wrap ((IntKind.u64.wrap (IntKind.i64.wrap (a1 + a3))).fdiv (2 ^ (min (Int.toNat 1) IntKind.u64.bits)))) + a2)))), (22, (Value.int .i64 (IntKind.i64.wrap ((IntKind.i64.wrap ((IntKind.i64.wrap ((IntKind.u64.wrap (IntKind.i64.wrap (a1 + a3))).fdiv (2 ^ (min (Int.toNat 1) IntKind.u64.bits)))) + a2)) - 1)))), (20, (Value.int .i64 x447)), (21, (Value.int .i64 x448))] ∧ Ch (inBlk av0) w w' ∧ runW (F78_Group_body_b5 a0 a1 a2 a3 a4) m (x447, x448) = some o456 ∧ SlO k_Group 50 F Bb (un (inBlk av0) S2) w' a0 av0 ∧ (Kd.fn2 Tryz.prog true true k_Group k_Group (Value.int .i64)).rep (G F Bb (un (inBlk av0) S2)) w' a4 [av4])
      ⟨y443.1, y443.2, rfl, c0, ho457, ah0, ah4⟩ ?_
  rintro _ _ w462 ⟨x447, x448, rfl, c461, hL451, ah0, ah4⟩
  obtain ⟨k460, q453, rfl, hq454⟩ := runW_some hL451
  have hb455 := hq454
  refine CW.seq ?_
  refine CW.seq (CW.region ?_)
  refine rl_move rfl rfl ?_
  refine rl_move rfl rfl ?_
  refine rl_bin rfl rfl B.lss rfl ?_
  refine RL.nil (thn_n ?_)
  refine CW.cond (t := decide (x447 < x448)) rfl (fun q464 => ?_) (fun q464 => ?_)
  ·
   have hb455 := ifT q464 hb455
   refine CW.skip ?_
   refine thn_n (CW.block ?_)
   refine CW.seq (CW.region ?_)
   refine rl_move rfl rfl ?_
   refine rl_move rfl rfl ?_
   refine rl_bin rfl rfl B.add rfl ?_
   refine rl_convInt rfl ⟨_, Tryz.underlying3⟩ Tryz.underlying168 rfl ?_
   refine rl_bin rfl rfl (B.shr rfl) rfl ?_
   refine rl_convInt rfl ⟨_, Tryz.underlying168⟩ Tryz.underlying3 rfl ?_
   refine rl_assign rfl rfl ?_
   refine RL.nil (thn_n (CW.seq ?_))
   obtain ⟨y471, hy472, hb455⟩ := bindS hb455
   obtain ⟨y481, hy482, hb455⟩ := bindS hb455
   refine CW.draw 11 [(none, fun fx O uu wx => uu = av4), (none, fun fx O uu wx => uu = av0), (none, fun fx O uu wx => uu = (Value.int .i64 (IntKind.i64.wrap ((IntKind.i64.wrap ((IntKind.i64.wrap ((IntKind.u64.wrap (IntKind.i64.wrap (a1 + a3))).fdiv (2 ^ (min (Int.toNat 1) IntKind.u64.bits)))) + a2)) - 1)))), (none, fun fx O uu wx => uu = (Value.int .i64 (IntKind.i64.wrap ((IntKind.u64.wrap (IntKind.i64.wrap (x447 + x448))).fdiv (2 ^ (min (Int.toNat 1) IntKind.u64.bits)))))), (none, fun fx O uu wx => uu = (Value.int .i64 (IntKind.i64.wrap ((IntKind.i64.wrap ((IntKind.i64.wrap ((IntKind.i64.wrap ((IntKind.u64.wrap (IntKind.i64.wrap (a1 + a3))).fdiv (2 ^ (min (Int.toNat 1) IntKind.u64.bits)))) + a2)) - 1)) - (IntKind.i64.wrap ((IntKind.u64.wrap (IntKind.i64.wrap (x447 + x448))).fdiv (2 ^ (min (Int.toNat 1) IntKind.u64.bits)))))))), (none, fun fx O uu wx => ∃ (p465 : Nat) (o466 : Nat) (z473 : Value), uu = (Value.pointer (some ⟨p465, o466, none⟩)) ∧ slRep k_Point (G F Bb (un (inBlk av0) S2)) wx y471.points z473 ∧ Seg wx p465 o466 (Group.c y471 z473)), (none, fun fx O uu wx => ∃ (z473_6 : Value), uu = (Value.agg (Group.c y471 z473_6).toArray) ∧ slRep k_Point (G F Bb (un (inBlk av0) S2)) wx y471.points z473_6), (none, fun fx O uu wx => uu = av0), (none, fun fx O uu wx => uu = (Value.int .i64 (IntKind.i64.wrap ((IntKind.u64.wrap (IntKind.i64.wrap (x447 + x448))).fdiv (2 ^ (min (Int.toNat 1) IntKind.u64.bits)))))), (none, fun fx O uu wx => ∃ (p475 : Nat) (o476 : Nat) (z483 : Value), uu = (Value.pointer (some ⟨p475, o476, none⟩)) ∧ slRep k_Point (G F Bb (un (inBlk av0) S2)) wx y481.points z483 ∧ Seg wx p475 o476 (Group.c y481 z483)), (none, fun fx O uu wx => ∃ (z483_10 : Value), uu = (Value.agg (Group.c y481 z483_10).toArray) ∧ slRep k_Point (G F Bb (un (inBlk av0) S2)) wx y481.points z483_10)] [[], [], [], [], [2, 3], [1, 4], [5], [], [], [7, 8], [9]] [0, 6, 10] nb (fun _ h => h.elim) mixed rfl rfl rfl rfl ?_ ?_
   ·
    refine Each.consS (fun fl O wk hE hN hO ck => ?_) ?_
    ·
     refine rl_move rfl rfl ?_
     exact RL.nil ⟨_, rfl, Ch.refl, rfl⟩
    refine Each.consS (fun fl O wk hE hN hO ck => ?_) ?_
    ·
     refine rl_move rfl rfl ?_
     exact RL.nil ⟨_, rfl, Ch.refl, rfl⟩
    refine Each.consS (fun fl O wk hE hN hO ck => ?_) ?_
    ·
     refine rl_move rfl rfl ?_
     exact RL.nil ⟨_, rfl, Ch.refl, rfl⟩
    refine Each.consS (fun fl O wk hE hN hO ck => ?_) ?_
    ·
     refine rl_move rfl rfl ?_
     exact RL.nil ⟨_, rfl, Ch.refl, rfl⟩
    refine Each.consS (fun fl O wk hE hN hO ck => ?_) ?_
    ·
     refine Need.o1 rfl rfl rfl (fun _ h => h) ?_
     refine Need.o1 rfl rfl rfl (fun _ h => h) ?_
     refine rl_bin rfl rfl B.sub rfl ?_
     exact RL.nil ⟨_, rfl, Ch.refl, rfl⟩
    refine Each.consA ⟨fun _ _ _ _ _ cc hh => by obtain ⟨p465, o466, z473, e, h474, hs469⟩ := hh; exact ⟨p465, o466, z473, e, slRep.ch k_Point_pos h474 cc, hs469.ch0 cc⟩, fun h => absurd rfl h, fun fl O wk hE hN hO ck => ?_⟩ ?_
    ·
     have ah0 := ah0.ch0 ck
     refine Need.o1 rfl rfl rfl (fun _ h => h) ?_
     refine Need.o1 rfl rfl rfl (fun _ h => h) ?_
     refine rl_ixOR rfl ah0 rfl (ixO_get hy472) k_Group_pos Tryz.underlying37 Tryz.sizeOf50 rfl ?_
     intro p491 o492 cs493 hr494 hs495 hg496
     obtain ⟨z497, rfl, h498⟩ := hr494
     exact RL.nil ⟨_, rfl, Ch.refl, ⟨p491, o492, z497, rfl, h498, hs495⟩⟩
    refine Each.consA ⟨fun _ _ _ _ _ cc hh => by obtain ⟨z473_6, e, h474_6⟩ := hh; exact ⟨z473_6, e, slRep.ch k_Point_pos h474_6 cc⟩, fun h => absurd rfl h, fun fl O wk hE hN hO ck => ?_⟩ ?_
    ·
     refine Need.one rfl rfl rfl ?_
     rintro _ ⟨p465, o466, z473, e499, h474, hs469⟩
     obtain rfl := e499.symm
     refine rl_loadA (cs := (Group.c y471 z473)) rfl Tryz.isAgg50 Tryz.sizeOf50 (hs469) rfl rfl ?_
     exact RL.nil ⟨_, rfl, Ch.refl, ⟨z473, rfl, h474⟩⟩
    refine Each.consS (fun fl O wk hE hN hO ck => ?_) ?_
    ·
     refine rl_move rfl rfl ?_
     exact RL.nil ⟨_, rfl, Ch.refl, rfl⟩
    refine Each.consS (fun fl O wk hE hN hO ck => ?_) ?_
    ·
     refine rl_move rfl rfl ?_
     exact RL.nil ⟨_, rfl, Ch.refl, rfl⟩
    refine Each.consA ⟨fun _ _ _ _ _ cc hh => by obtain ⟨p475, o476, z483, e, h484, hs479⟩ := hh; exact ⟨p475, o476, z483, e, slRep.ch k_Point_pos h484 cc, hs479.ch0 cc⟩, fun h => absurd rfl h, fun fl O wk hE hN hO ck => ?_⟩ ?_
    ·
     have ah0 := ah0.ch0 ck
     refine Need.o1 rfl rfl rfl (fun _ h => h) ?_
     refine Need.o1 rfl rfl rfl (fun _ h => h) ?_
     refine rl_ixOR rfl ah0 rfl (ixO_get hy482) k_Group_pos Tryz.underlying37 Tryz.sizeOf50 rfl ?_
     intro p502 o503 cs504 hr505 hs506 hg507
     obtain ⟨z508, rfl, h509⟩ := hr505
     exact RL.nil ⟨_, rfl, Ch.refl, ⟨p502, o503, z508, rfl, h509, hs506⟩⟩
    refine Each.consA ⟨fun _ _ _ _ _ cc hh => by obtain ⟨z483_10, e, h484_10⟩ := hh; exact ⟨z483_10, e, slRep.ch k_Point_pos h484_10 cc⟩, fun h => absurd rfl h, fun fl O wk hE hN hO ck => ?_⟩ ?_
    ·
     refine Need.one rfl rfl rfl ?_
     rintro _ ⟨p475, o476, z483, e510, h484, hs479⟩
     obtain rfl := e510.symm
     refine rl_loadA (cs := (Group.c y481 z483)) rfl Tryz.isAgg50 Tryz.sizeOf50 (hs479) rfl rfl ?_
     exact RL.nil ⟨_, rfl, Ch.refl, ⟨z483, rfl, h484⟩⟩
    trivial
   intro hvO513 OpO513 O513 w511 hO514 c512 hN515
   have ah0 := ah0.ch0 c512
   have ah4 := Kd.ch ah4 c512
   have c461 := c461.then0 c512
   refine Need.o1 rfl rfl rfl (fun _ h => h) ?_
   refine Need.one rfl rfl rfl ?_
   rintro _ ⟨z473_6, e517, h474_6⟩
   obtain rfl := e517.symm
   refine Need.one rfl rfl rfl ?_
   rintro _ ⟨z483_10, e518, h484_10⟩
   obtain rfl := e518.symm
   refine rl_fn2 (c := (Group.c y471 z473_6)) (c' := (Group.c y481 z483_10)) rfl rfl rfl rfl rfl ah4 (F' := (G F Bb (un (inBlk av0) S2))) (xx := y471) (yy := y481) (show k_Group.rep (G F Bb (un (inBlk av0) S2)) w511 y471 (Group.c y471 z473_6) from ⟨z473_6, rfl, h474_6⟩) (show k_Group.rep (G F Bb (un (inBlk av0) S2)) w511 y481 (Group.c y481 z483_10) from ⟨z483_10, rfl, h484_10⟩) rfl ?_
   intro w519 c520
   have ah0 := ah0.ch0 c520
   have ah4 := Kd.ch ah4 c520
   have c461 := c461.then0 c520
   refine rl_bin rfl rfl B.lss rfl ?_
   refine rl_not rfl rfl ?_
   refine RL.nil (thn_n ?_)
   refine CW.cond (t := !(decide ((a4 y471 y481) < 0))) rfl (fun q521 => ?_) (fun q521 => ?_)
   ·
    have hb455 := ifT q521 hb455
    refine CW.region ?_
    refine rl_move rfl rfl ?_
    refine rl_bin rfl rfl B.add rfl ?_
    refine rl_assign rfl rfl ?_
    refine RL.nil ?_
    refine inB_n ?_
    refine thn_n ?_
    have hLn := runW_next hL451 hq454 hb455
    exact ⟨k460, Nat.lt_succ_self _, [(0, av0), (1, (Value.int .i64 a1)), (2, (Value.int .i64 a2)), (3, (Value.int .i64 a3)), (4, av4), (18, (Value.int .i64 (IntKind.i64.wrap ((IntKind.u64.wrap (IntKind.i64.wrap (a1 + a3))).fdiv (2 ^ (min (Int.toNat 1) IntKind.u64.bits)))))), (19, (Value.int .i64 (IntKind.i64.wrap ((IntKind.i64.wrap ((IntKind.u64.wrap (IntKind.i64.wrap (a1 + a3))).fdiv (2 ^ (min (Int.toNat 1) IntKind.u64.bits)))) + a2)))), (22, (Value.int .i64 (IntKind.i64.wrap ((IntKind.i64.wrap ((IntKind.i64.wrap ((IntKind.u64.wrap (IntKind.i64.wrap (a1 + a3))).fdiv (2 ^ (min (Int.toNat 1) IntKind.u64.bits)))) + a2)) - 1)))), (20, (Value.int .i64 (IntKind.i64.wrap ((IntKind.i64.wrap ((IntKind.u64.wrap (IntKind.i64.wrap (x447 + x448))).fdiv (2 ^ (min (Int.toNat 1) IntKind.u64.bits)))) + 1)))), (21, (Value.int .i64 x448))], ⟨rfl, rfl, rfl, rfl, rfl, rfl, rfl, rfl, rfl, rfl, trivial⟩, ⟨IntKind.i64.wrap ((IntKind.i64.wrap ((IntKind.u64.wrap (IntKind.i64.wrap (x447 + x448))).fdiv (2 ^ (min (Int.toNat 1) IntKind.u64.bits)))) + 1), x448, rfl, c461, hLn, ah0, ah4⟩⟩
   have hb455 := ifF q521 hb455
   refine CW.region ?_
   refine rl_move rfl rfl ?_
   refine rl_assign rfl rfl ?_
   refine RL.nil ?_
   refine inB_n ?_
   refine thn_n ?_
   have hLn := runW_next hL451 hq454 hb455
   exact ⟨k460, Nat.lt_succ_self _, [(0, av0), (1, (Value.int .i64 a1)), (2, (Value.int .i64 a2)), (3, (Value.int .i64 a3)), (4, av4), (18, (Value.int .i64 (IntKind.i64.wrap ((IntKind.u64.wrap (IntKind.i64.wrap (a1 + a3))).fdiv (2 ^ (min (Int.toNat 1) IntKind.u64.bits)))))), (19, (Value.int .i64 (IntKind.i64.wrap ((IntKind.i64.wrap ((IntKind.u64.wrap (IntKind.i64.wrap (a1 + a3))).fdiv (2 ^ (min (Int.toNat 1) IntKind.u64.bits)))) + a2)))), (22, (Value.int .i64 (IntKind.i64.wrap ((IntKind.i64.wrap ((IntKind.i64.wrap ((IntKind.u64.wrap (IntKind.i64.wrap (a1 + a3))).fdiv (2 ^ (min (Int.toNat 1) IntKind.u64.bits)))) + a2)) - 1)))), (20, (Value.int .i64 x447)), (21, (Value.int .i64 (IntKind.i64.wrap ((IntKind.u64.wrap (IntKind.i64.wrap (x447 + x448))).fdiv (2 ^ (min (Int.toNat 1) IntKind.u64.bits))))))], ⟨rfl, rfl, rfl, rfl, rfl, rfl, rfl, rfl, rfl, rfl, trivial⟩, ⟨x447, IntKind.i64.wrap ((IntKind.u64.wrap (IntKind.i64.wrap (x447 + x448))).fdiv (2 ^ (min (Int.toNat 1) IntKind.u64.bits))), rfl, c461, hLn, ah0, ah4⟩⟩
  have hb455 := ifF q464 hb455
  refine CW.exit ?_
  refine thn_exit ?_
  refine thn_exit ?_
  refine inB_hit ?_
  have hLf := runW_fin hL451 hq454 hb455
  exact ⟨x447, x448, ⟨rfl, rfl, rfl, rfl, rfl, rfl, rfl, rfl, trivial⟩, c461, hLf, ah0, ah4⟩
 rintro _ w523 ⟨x447, x448, hE524, c522, f525, ah0, ah4⟩
 have hS := finS f525 hS
 refine thn_n (CW.sub [(0, av0), (1, (Value.int .i64 a1)), (2, (Value.int .i64 a2)), (3, (Value.int .i64 a3)), (4, av4), (18, (Value.int .i64 (IntKind.i64.wrap ((IntKind.u64.wrap (IntKind.i64.wrap (a1 + a3))).fdiv (2 ^ (min (Int.toNat 1) IntKind.u64.bits)))))), (19, (Value.int .i64 (IntKind.i64.wrap ((IntKind.i64.wrap ((IntKind.u64.wrap (IntKind.i64.wrap (a1 + a3))).fdiv (2 ^ (min (Int.toNat 1) IntKind.u64.bits)))) + a2)))), (20, (Value.int .i64 x447))] hE524 ?_)
 refine CW.seq (CW.region ?_)
 refine rl_move rfl rfl ?_
 refine rl_move rfl rfl ?_
 refine rl_bin rfl rfl B.sub rfl ?_
 refine rl_assign rfl rfl ?_
 refine RL.nil (thn_n (CW.seq ?_))
 refine CW.seq (CW.region ?_)
 refine rl_move rfl rfl ?_
 refine rl_move rfl rfl ?_
 refine rl_bin rfl rfl B.lss rfl ?_
 refine rl_move rfl rfl ?_
 obtain ⟨b529, hb530⟩ : ∃ v, ((decide (x447 < a2)) && (decide (a2 < (IntKind.i64.wrap ((IntKind.i64.wrap ((IntKind.i64.wrap ((IntKind.u64.wrap (IntKind.i64.wrap (a1 + a3))).fdiv (2 ^ (min (Int.toNat 1) IntKind.u64.bits)))) + a2)) - x447))))) = v := ⟨_, rfl⟩
 have hS := ltS hb530 hS
 refine RL.join 4 185 (.bool b529) (fun w' => Ch nb w523 w') ?_ ?_
 · rcases Bool.eq_false_or_eq_true (decide (x447 < a2)) with hg528 | hg528
   ·
    have hs527 := and_t hg528 hb530
    have cs : Ch nb w523 w523 := Ch.refl
    refine RL.yes rfl rfl rfl hg528 ?_
    refine rl_move rfl rfl ?_
    refine RL.yes rfl rfl rfl hg528 ?_
    refine rl_move rfl rfl ?_
    refine RL.yes rfl rfl rfl hg528 ?_
    refine rl_bin rfl rfl B.lss rfl ?_
    refine rl_pickT rfl hg528 rfl rfl ?_
    exact RL.nil ⟨Ext.bothEq (congrArg Value.bool hs527) (Ext.skip rfl (Ext.skip rfl (Ext.skip rfl (Ext.rfl')))), cs⟩
   ·
    have hs527 := and_f hg528 hb530
    have cs : Ch nb w523 w523 := Ch.refl
    refine RL.no rfl rfl rfl hg528 rfl rfl ?_
    refine RL.no rfl rfl rfl hg528 rfl rfl ?_
    refine RL.no rfl rfl rfl hg528 rfl rfl ?_
    refine rl_pickF rfl hg528 rfl rfl ?_
    exact RL.nil ⟨Ext.bothEq (congrArg Value.bool hs527) (Ext.skip rfl (Ext.skip rfl (Ext.skip rfl (Ext.rfl')))), cs⟩
 intro w531 c532
 have ah0 := ah0.ch0 c532
 have ah4 := Kd.ch ah4 c532
 have c522 := c522.then0 c532
 refine RL.nil (thn_n ?_)
 refine CW.cond (t := b529) rfl (fun q533 => ?_) (fun q533 => ?_)
 ·
  have hS := ifT q533 hS
  refine CW.region ?_
  refine rl_move rfl rfl ?_
  refine rl_move rfl rfl ?_
  refine rl_move rfl rfl ?_
  refine rl_move rfl rfl ?_
  refine rl_move rfl rfl ?_
  have hd534 : ∀ b, (inBlk av0) b → ¬ S2 b := fun b h => (fun b hb => linNot lin0_0 hd2 h2 b hb) b h
  have hS535 : (un (inBlk av0) S2) = (un (inBlk av0) S2) := rfl
  have ha536 := ah4
  rw [hS535] at ha536
  obtain ⟨y539, hy540, hS⟩ := bindS hS
  refine rl_callF rfl en101 rfl (ctr101 F w531 Bb S2 (Nat.le_trans hB c522.size) (fun b h => Nat.lt_of_lt_of_le (h2 b h) c522.size) av0 hd534  a0 (hS535 ▸ ah0) x447 a2 (IntKind.i64.wrap ((IntKind.i64.wrap ((IntKind.i64.wrap ((IntKind.u64.wrap (IntKind.i64.wrap (a1 + a3))).fdiv (2 ^ (min (Int.toNat 1) IntKind.u64.bits)))) + a2)) - x447)) a4 av4 ha536 y539 hy540) ?_
  rintro _ w537 ⟨rfl, h541, c538⟩
  rw [← hS535] at h541
  have ad542 : ∀ b, b < w531.heap.size → ¬ (un (inBlk av0) S2) b → ¬ (inBlk av0) b ∧ ¬ (un (inBlk av0) S2) b := fun b _ hs => ⟨fun h => hs (.inl h), hs⟩
  have ah4 := Kd.st ah4 c538 ad542
  have c522 := c522.then c538 (fun i hi h => (lin0_0 i h).elim (fun x => x) (fun x => absurd x (Nat.not_le_of_lt hi)))
  refine RL.nil (thn_n (CW.seq ?_))
  refine CW.seq (CW.region ?_)
  refine rl_move rfl rfl ?_
  refine rl_move rfl rfl ?_
  refine rl_bin rfl rfl B.lss rfl ?_
  refine rl_move rfl rfl ?_
  obtain ⟨b545, hb546⟩ : ∃ v, ((decide (a1 < x447)) && (decide (x447 < (IntKind.i64.wrap ((IntKind.u64.wrap (IntKind.i64.wrap (a1 + a3))).fdiv (2 ^ (min (Int.toNat 1) IntKind.u64.bits))))))) = v := ⟨_, rfl⟩
  have hS := ltS hb546 hS
  refine RL.join 4 199 (.bool b545) (fun w' => Ch nb w537 w') ?_ ?_
  · rcases Bool.eq_false_or_eq_true (decide (a1 < x447)) with hg544 | hg544
    ·
     have hs543 := and_t hg544 hb546
     have cs : Ch nb w537 w537 := Ch.refl
     refine RL.yes rfl rfl rfl hg544 ?_
     refine rl_move rfl rfl ?_
     refine RL.yes rfl rfl rfl hg544 ?_
     refine rl_move rfl rfl ?_
     refine RL.yes rfl rfl rfl hg544 ?_
     refine rl_bin rfl rfl B.lss rfl ?_
     refine rl_pickT rfl hg544 rfl rfl ?_
     exact RL.nil ⟨Ext.bothEq (congrArg Value.bool hs543) (Ext.skip rfl (Ext.skip rfl (Ext.skip rfl (Ext.rfl')))), cs⟩
    ·
     have hs543 := and_f hg544 hb546
     have cs : Ch nb w537 w537 := Ch.refl
     refine RL.no rfl rfl rfl hg544 rfl rfl ?_
     refine RL.no rfl rfl rfl hg544 rfl rfl ?_
     refine RL.no rfl rfl rfl hg544 rfl rfl ?_
     refine rl_pickF rfl hg544 rfl rfl ?_
     exact RL.nil ⟨Ext.bothEq (congrArg Value.bool hs543) (Ext.skip rfl (Ext.skip rfl (Ext.skip rfl (Ext.rfl')))), cs⟩
  intro w547 c548
  have ah4 := Kd.ch ah4 c548
  have h541 := h541.ch0 c548
  have c522 := c522.then0 c548
  refine RL.nil (thn_n ?_)
  refine CW.cond (t := b545) rfl (fun q549 => ?_) (fun q549 => ?_)
  ·
   have hS := ifT q549 hS
   refine CW.region ?_
   refine rl_move rfl rfl ?_
   refine rl_move rfl rfl ?_
   refine rl_move rfl rfl ?_
   refine rl_move rfl rfl ?_
   refine rl_move rfl rfl ?_
   have hd550 : ∀ b, (inBlk av0) b → ¬ S2 b := fun b h => (fun b hb => linNot lin0_0 hd2 h2 b hb) b h
   have hS551 : (un (inBlk av0) S2) = (un (inBlk av0) S2) := rfl
   have ha552 := ah4
   rw [hS551] at ha552
   obtain ⟨y555, hy556, hS⟩ := bindS hS
   refine rl_callF rfl en78 rfl (ih F w547 Bb S2 (Nat.le_trans hB c522.size) (fun b h => Nat.lt_of_lt_of_le (h2 b h) c522.size) av0 hd550  y539 (hS551 ▸ h541) a1 x447 (IntKind.i64.wrap ((IntKind.u64.wrap (IntKind.i64.wrap (a1 + a3))).fdiv (2 ^ (min (Int.toNat 1) IntKind.u64.bits)))) a4 av4 ha552 y555 hy556) ?_
   rintro _ w553 ⟨rfl, h557, c554⟩
   rw [← hS551] at h557
   have ad558 : ∀ b, b < w547.heap.size → ¬ (un (inBlk av0) S2) b → ¬ (inBlk av0) b ∧ ¬ (un (inBlk av0) S2) b := fun b _ hs => ⟨fun h => hs (.inl h), hs⟩
   have ah4 := Kd.st ah4 c554 ad558
   have c522 := c522.then c554 (fun i hi h => (lin0_0 i h).elim (fun x => x) (fun x => absurd x (Nat.not_le_of_lt hi)))
   refine RL.nil (thn_n (CW.seq (CW.region ?_)))
   refine rl_move rfl rfl ?_
   refine rl_move rfl rfl ?_
   refine rl_bin rfl rfl B.lss rfl ?_
   refine rl_move rfl rfl ?_
   obtain ⟨b561, hb562⟩ : ∃ v, ((decide ((IntKind.i64.wrap ((IntKind.u64.wrap (IntKind.i64.wrap (a1 + a3))).fdiv (2 ^ (min (Int.toNat 1) IntKind.u64.bits)))) < (IntKind.i64.wrap ((IntKind.i64.wrap ((IntKind.i64.wrap ((IntKind.u64.wrap (IntKind.i64.wrap (a1 + a3))).fdiv (2 ^ (min (Int.toNat 1) IntKind.u64.bits)))) + a2)) - x447)))) && (decide ((IntKind.i64.wrap ((IntKind.i64.wrap ((IntKind.i64.wrap ((IntKind.u64.wrap (IntKind.i64.wrap (a1 + a3))).fdiv (2 ^ (min (Int.toNat 1) IntKind.u64.bits)))) + a2)) - x447)) < a3))) = v := ⟨_, rfl⟩
   have hS := ltS hb562 hS
   refine RL.join 4 213 (.bool b561) (fun w' => Ch nb w553 w') ?_ ?_
   · rcases Bool.eq_false_or_eq_true (decide ((IntKind.i64.wrap ((IntKind.u64.wrap (IntKind.i64.wrap (a1 + a3))).fdiv (2 ^ (min (Int.toNat 1) IntKind.u64.bits)))) < (IntKind.i64.wrap ((IntKind.i64.wrap ((IntKind.i64.wrap ((IntKind.u64.wrap (IntKind.i64.wrap (a1 + a3))).fdiv (2 ^ (min (Int.toNat 1) IntKind.u64.bits)))) + a2)) - x447)))) with hg560 | hg560
     ·
      have hs559 := and_t hg560 hb562
      have cs : Ch nb w553 w553 := Ch.refl
      refine RL.yes rfl rfl rfl hg560 ?_
      refine rl_move rfl rfl ?_
      refine RL.yes rfl rfl rfl hg560 ?_
      refine rl_move rfl rfl ?_
      refine RL.yes rfl rfl rfl hg560 ?_
      refine rl_bin rfl rfl B.lss rfl ?_
      refine rl_pickT rfl hg560 rfl rfl ?_
      exact RL.nil ⟨Ext.bothEq (congrArg Value.bool hs559) (Ext.skip rfl (Ext.skip rfl (Ext.skip rfl (Ext.rfl')))), cs⟩
     ·
      have hs559 := and_f hg560 hb562
      have cs : Ch nb w553 w553 := Ch.refl
      refine RL.no rfl rfl rfl hg560 rfl rfl ?_
      refine RL.no rfl rfl rfl hg560 rfl rfl ?_
      refine RL.no rfl rfl rfl hg560 rfl rfl ?_
      refine rl_pickF rfl hg560 rfl rfl ?_
      exact RL.nil ⟨Ext.bothEq (congrArg Value.bool hs559) (Ext.skip rfl (Ext.skip rfl (Ext.skip rfl (Ext.rfl')))), cs⟩
   intro w563 c564
   have ah4 := Kd.ch ah4 c564
   have h557 := h557.ch0 c564
   have c522 := c522.then0 c564
   refine RL.nil (thn_n ?_)
   refine CW.cond (t := b561) rfl (fun q565 => ?_) (fun q565 => ?_)
   ·
    have hS := ifT q565 hS
    refine CW.region ?_
    refine rl_move rfl rfl ?_
    refine rl_move rfl rfl ?_
    refine rl_move rfl rfl ?_
    refine rl_move rfl rfl ?_
    refine rl_move rfl rfl ?_
    have hd566 : ∀ b, (inBlk av0) b → ¬ S2 b := fun b h => (fun b hb => linNot lin0_0 hd2 h2 b hb) b h
    have hS567 : (un (inBlk av0) S2) = (un (inBlk av0) S2) := rfl
    have ha568 := ah4
    rw [hS567] at ha568
    obtain ⟨y571, hy572, hS⟩ := bindS hS
    refine rl_callF rfl en78 rfl (ih F w563 Bb S2 (Nat.le_trans hB c522.size) (fun b h => Nat.lt_of_lt_of_le (h2 b h) c522.size) av0 hd566  y555 (hS567 ▸ h557) (IntKind.i64.wrap ((IntKind.u64.wrap (IntKind.i64.wrap (a1 + a3))).fdiv (2 ^ (min (Int.toNat 1) IntKind.u64.bits)))) (IntKind.i64.wrap ((IntKind.i64.wrap ((IntKind.i64.wrap ((IntKind.u64.wrap (IntKind.i64.wrap (a1 + a3))).fdiv (2 ^ (min (Int.toNat 1) IntKind.u64.bits)))) + a2)) - x447)) a3 a4 av4 ha568 y571 hy572) ?_
    rintro _ w569 ⟨rfl, h573, c570⟩
    rw [← hS567] at h573
    have c522 := c522.then c570 (fun i hi h => (lin0_0 i h).elim (fun x => x) (fun x => absurd x (Nat.not_le_of_lt hi)))
    refine RL.nil ?_
    obtain rfl := Option.some.inj hS
    exact ⟨[], trivial, ⟨rfl, h573, c522⟩⟩
   have hS := ifF q565 hS
   refine CW.skip ?_
   obtain rfl := Option.some.inj hS
   exact ⟨[], trivial, ⟨rfl, h557, c522⟩⟩
  have hS := ifF q549 hS
  refine CW.skip ?_
  refine thn_n (CW.seq (CW.region ?_))
  refine rl_move rfl rfl ?_
  refine rl_move rfl rfl ?_
  refine rl_bin rfl rfl B.lss rfl ?_
  refine rl_move rfl rfl ?_
  obtain ⟨b577, hb578⟩ : ∃ v, ((decide ((IntKind.i64.wrap ((IntKind.u64.wrap (IntKind.i64.wrap (a1 + a3))).fdiv (2 ^ (min (Int.toNat 1) IntKind.u64.bits)))) < (IntKind.i64.wrap ((IntKind.i64.wrap ((IntKind.i64.wrap ((IntKind.u64.wrap (IntKind.i64.wrap (a1 + a3))).fdiv (2 ^ (min (Int.toNat 1) IntKind.u64.bits)))) + a2)) - x447)))) && (decide ((IntKind.i64.wrap ((IntKind.i64.wrap ((IntKind.i64.wrap ((IntKind.u64.wrap (IntKind.i64.wrap (a1 + a3))).fdiv (2 ^ (min (Int.toNat 1) IntKind.u64.bits)))) + a2)) - x447)) < a3))) = v := ⟨_, rfl⟩
  have hS := ltS hb578 hS
  refine RL.join 4 213 (.bool b577) (fun w' => Ch nb w547 w') ?_ ?_
  · rcases Bool.eq_false_or_eq_true (decide ((IntKind.i64.wrap ((IntKind.u64.wrap (IntKind.i64.wrap (a1 + a3))).fdiv (2 ^ (min (Int.toNat 1) IntKind.u64.bits)))) < (IntKind.i64.wrap ((IntKind.i64.wrap ((IntKind.i64.wrap ((IntKind.u64.wrap (IntKind.i64.wrap (a1 + a3))).fdiv (2 ^ (min (Int.toNat 1) IntKind.u64.bits)))) + a2)) - x447)))) with hg576 | hg576
    ·
     have hs575 := and_t hg576 hb578
     have cs : Ch nb w547 w547 := Ch.refl
     refine RL.yes rfl rfl rfl hg576 ?_
     refine rl_move rfl rfl ?_
     refine RL.yes rfl rfl rfl hg576 ?_
     refine rl_move rfl rfl ?_
     refine RL.yes rfl rfl rfl hg576 ?_
     refine rl_bin rfl rfl B.lss rfl ?_
     refine rl_pickT rfl hg576 rfl rfl ?_
     exact RL.nil ⟨Ext.bothEq (congrArg Value.bool hs575) (Ext.skip rfl (Ext.skip rfl (Ext.skip rfl (Ext.rfl')))), cs⟩
    ·
     have hs575 := and_f hg576 hb578
     have cs : Ch nb w547 w547 := Ch.refl
     refine RL.no rfl rfl rfl hg576 rfl rfl ?_
     refine RL.no rfl rfl rfl hg576 rfl rfl ?_
     refine RL.no rfl rfl rfl hg576 rfl rfl ?_
     refine rl_pickF rfl hg576 rfl rfl ?_
     exact RL.nil ⟨Ext.bothEq (congrArg Value.bool hs575) (Ext.skip rfl (Ext.skip rfl (Ext.skip rfl (Ext.rfl')))), cs⟩
  intro w579 c580
  have ah4 := Kd.ch ah4 c580
  have h541 := h541.ch0 c580
  have c522 := c522.then0 c580
  refine RL.nil (thn_n ?_)
  refine CW.cond (t := b577) rfl (fun q581 => ?_) (fun q581 => ?_)
  ·
   have hS := ifT q581 hS
   refine CW.region ?_
   refine rl_move rfl rfl ?_
   refine rl_move rfl rfl ?_
   refine rl_move rfl rfl ?_
   refine rl_move rfl rfl ?_
   refine rl_move rfl rfl ?_
   have hd582 : ∀ b, (inBlk av0) b → ¬ S2 b := fun b h => (fun b hb => linNot lin0_0 hd2 h2 b hb) b h
   have hS583 : (un (inBlk av0) S2) = (un (inBlk av0) S2) := rfl
   have ha584 := ah4
   rw [hS583] at ha584
   obtain ⟨y587, hy588, hS⟩ := bindS hS
   refine rl_callF rfl en78 rfl (ih F w579 Bb S2 (Nat.le_trans hB c522.size) (fun b h => Nat.lt_of_lt_of_le (h2 b h) c522.size) av0 hd582  y539 (hS583 ▸ h541) (IntKind.i64.wrap ((IntKind.u64.wrap (IntKind.i64.wrap (a1 + a3))).fdiv (2 ^ (min (Int.toNat 1) IntKind.u64.bits)))) (IntKind.i64.wrap ((IntKind.i64.wrap ((IntKind.i64.wrap ((IntKind.u64.wrap (IntKind.i64.wrap (a1 + a3))).fdiv (2 ^ (min (Int.toNat 1) IntKind.u64.bits)))) + a2)) - x447)) a3 a4 av4 ha584 y587 hy588) ?_
   rintro _ w585 ⟨rfl, h589, c586⟩
   rw [← hS583] at h589
   have c522 := c522.then c586 (fun i hi h => (lin0_0 i h).elim (fun x => x) (fun x => absurd x (Nat.not_le_of_lt hi)))
   refine RL.nil ?_
   obtain rfl := Option.some.inj hS
   exact ⟨[], trivial, ⟨rfl, h589, c522⟩⟩
  have hS := ifF q581 hS
  refine CW.skip ?_
  obtain rfl := Option.some.inj hS
  exact ⟨[], trivial, ⟨rfl, h541, c522⟩⟩
 have hS := ifF q533 hS
 refine CW.skip ?_
 refine thn_n (CW.seq ?_)
 refine CW.seq (CW.region ?_)
 refine rl_move rfl rfl ?_
 refine rl_move rfl rfl ?_
 refine rl_bin rfl rfl B.lss rfl ?_
 refine rl_move rfl rfl ?_
 obtain ⟨b593, hb594⟩ : ∃ v, ((decide (a1 < x447)) && (decide (x447 < (IntKind.i64.wrap ((IntKind.u64.wrap (IntKind.i64.wrap (a1 + a3))).fdiv (2 ^ (min (Int.toNat 1) IntKind.u64.bits))))))) = v := ⟨_, rfl⟩
 have hS := ltS hb594 hS
 refine RL.join 4 199 (.bool b593) (fun w' => Ch nb w531 w') ?_ ?_
 · rcases Bool.eq_false_or_eq_true (decide (a1 < x447)) with hg592 | hg592
   ·
    have hs591 := and_t hg592 hb594
    have cs : Ch nb w531 w531 := Ch.refl
    refine RL.yes rfl rfl rfl hg592 ?_
    refine rl_move rfl rfl ?_
    refine RL.yes rfl rfl rfl hg592 ?_
    refine rl_move rfl rfl ?_
    refine RL.yes rfl rfl rfl hg592 ?_
    refine rl_bin rfl rfl B.lss rfl ?_
    refine rl_pickT rfl hg592 rfl rfl ?_
    exact RL.nil ⟨Ext.bothEq (congrArg Value.bool hs591) (Ext.skip rfl (Ext.skip rfl (Ext.skip rfl (Ext.rfl')))), cs⟩
   ·
    have hs591 := and_f hg592 hb594
    have cs : Ch nb w531 w531 := Ch.refl
    refine RL.no rfl rfl rfl hg592 rfl rfl ?_
    refine RL.no rfl rfl rfl hg592 rfl rfl ?_
    refine RL.no rfl rfl rfl hg592 rfl rfl ?_
    refine rl_pickF rfl hg592 rfl rfl ?_
    exact RL.nil ⟨Ext.bothEq (congrArg Value.bool hs591) (Ext.skip rfl (Ext.skip rfl (Ext.skip rfl (Ext.rfl')))), cs⟩
 intro w595 c596
 have ah0 := ah0.ch0 c596
 have ah4 := Kd.ch ah4 c596
 have c522 := c522.then0 c596
 refine RL.nil (thn_n ?_)
 refine CW.cond (t := b593) rfl (fun q597 => ?_) (fun q597 => ?_)
 ·
  have hS := ifT q597 hS
  refine CW.region ?_
  refine rl_move rfl rfl ?_
  refine rl_move rfl rfl ?_
  refine rl_move rfl rfl ?_
  refine rl_move rfl rfl ?_
  refine rl_move rfl rfl ?_
  have hd598 : ∀ b, (inBlk av0) b → ¬ S2 b := fun b h => (fun b hb => linNot lin0_0 hd2 h2 b hb) b h
  have hS599 : (un (inBlk av0) S2) = (un (inBlk av0) S2) := rfl
  have ha600 := ah4
  rw [hS599] at ha600
  obtain ⟨y603, hy604, hS⟩ := bindS hS
  refine rl_callF rfl en78 rfl (ih F w595 Bb S2 (Nat.le_trans hB c522.size) (fun b h => Nat.lt_of_lt_of_le (h2 b h) c522.size) av0 hd598  a0 (hS599 ▸ ah0) a1 x447 (IntKind.i64.wrap ((IntKind.u64.wrap (IntKind.i64.wrap (a1 + a3))).fdiv (2 ^ (min (Int.toNat 1) IntKind.u64.bits)))) a4 av4 ha600 y603 hy604) ?_
  rintro _ w601 ⟨rfl, h605, c602⟩
  rw [← hS599] at h605
  have ad606 : ∀ b, b < w595.heap.size → ¬ (un (inBlk av0) S2) b → ¬ (inBlk av0) b ∧ ¬ (un (inBlk av0) S2) b := fun b _ hs => ⟨fun h => hs (.inl h), hs⟩
  have ah4 := Kd.st ah4 c602 ad606
  have c522 := c522.then c602 (fun i hi h => (lin0_0 i h).elim (fun x => x) (fun x => absurd x (Nat.not_le_of_lt hi)))
  refine RL.nil (thn_n (CW.seq (CW.region ?_)))
  refine rl_move rfl rfl ?_
  refine rl_move rfl rfl ?_
  refine rl_bin rfl rfl B.lss rfl ?_
  refine rl_move rfl rfl ?_
  obtain ⟨b609, hb610⟩ : ∃ v, ((decide ((IntKind.i64.wrap ((IntKind.u64.wrap (IntKind.i64.wrap (a1 + a3))).fdiv (2 ^ (min (Int.toNat 1) IntKind.u64.bits)))) < (IntKind.i64.wrap ((IntKind.i64.wrap ((IntKind.i64.wrap ((IntKind.u64.wrap (IntKind.i64.wrap (a1 + a3))).fdiv (2 ^ (min (Int.toNat 1) IntKind.u64.bits)))) + a2)) - x447)))) && (decide ((IntKind.i64.wrap ((IntKind.i64.wrap ((IntKind.i64.wrap ((IntKind.u64.wrap (IntKind.i64.wrap (a1 + a3))).fdiv (2 ^ (min (Int.toNat 1) IntKind.u64.bits)))) + a2)) - x447)) < a3))) = v := ⟨_, rfl⟩
  have hS := ltS hb610 hS
  refine RL.join 4 213 (.bool b609) (fun w' => Ch nb w601 w') ?_ ?_
  · rcases Bool.eq_false_or_eq_true (decide ((IntKind.i64.wrap ((IntKind.u64.wrap (IntKind.i64.wrap (a1 + a3))).fdiv (2 ^ (min (Int.toNat 1) IntKind.u64.bits)))) < (IntKind.i64.wrap ((IntKind.i64.wrap ((IntKind.i64.wrap ((IntKind.u64.wrap (IntKind.i64.wrap (a1 + a3))).fdiv (2 ^ (min (Int.toNat 1) IntKind.u64.bits)))) + a2)) - x447)))) with hg608 | hg608
    ·
     have hs607 := and_t hg608 hb610
     have cs : Ch nb w601 w601 := Ch.refl
     refine RL.yes rfl rfl rfl hg608 ?_
     refine rl_move rfl rfl ?_
     refine RL.yes rfl rfl rfl hg608 ?_
     refine rl_move rfl rfl ?_
     refine RL.yes rfl rfl rfl hg608 ?_
     refine rl_bin rfl rfl B.lss rfl ?_
     refine rl_pickT rfl hg608 rfl rfl ?_
     exact RL.nil ⟨Ext.bothEq (congrArg Value.bool hs607) (Ext.skip rfl (Ext.skip rfl (Ext.skip rfl (Ext.rfl')))), cs⟩
    ·
     have hs607 := and_f hg608 hb610
     have cs : Ch nb w601 w601 := Ch.refl
     refine RL.no rfl rfl rfl hg608 rfl rfl ?_
     refine RL.no rfl rfl rfl hg608 rfl rfl ?_
     refine RL.no rfl rfl rfl hg608 rfl rfl ?_
     refine rl_pickF rfl hg608 rfl rfl ?_
     exact RL.nil ⟨Ext.bothEq (congrArg Value.bool hs607) (Ext.skip rfl (Ext.skip rfl (Ext.skip rfl (Ext.rfl')))), cs⟩
  intro w611 c612
  have ah4 := Kd.ch ah4 c612
  have h605 := h605.ch0 c612
  have c522 := c522.then0 c612
  refine RL.nil (thn_n ?_)
  refine CW.cond (t := b609) rfl (fun q613 => ?_) (fun q613 => ?_)
  ·
   have hS := ifT q613 hS
   refine CW.region ?_
   refine rl_move rfl rfl ?_
   refine rl_move rfl rfl ?_
   refine rl_move rfl rfl ?_
   refine rl_move rfl rfl ?_
   refine rl_move rfl rfl ?_
   have hd614 : ∀ b, (inBlk av0) b → ¬ S2 b := fun b h => (fun b hb => linNot lin0_0 hd2 h2 b hb) b h
   have hS615 : (un (inBlk av0) S2) = (un (inBlk av0) S2) := rfl
   have ha616 := ah4
   rw [hS615] at ha616
   obtain ⟨y619, hy620, hS⟩ := bindS hS
   refine rl_callF rfl en78 rfl (ih F w611 Bb S2 (Nat.le_trans hB c522.size) (fun b h => Nat.lt_of_lt_of_le (h2 b h) c522.size) av0 hd614  y603 (hS615 ▸ h605) (IntKind.i64.wrap ((IntKind.u64.wrap (IntKind.i64.wrap (a1 + a3))).fdiv (2 ^ (min (Int.toNat 1) IntKind.u64.bits)))) (IntKind.i64.wrap ((IntKind.i64.wrap ((IntKind.i64.wrap ((IntKind.u64.wrap (IntKind.i64.wrap (a1 + a3))).fdiv (2 ^ (min (Int.toNat 1) IntKind.u64.bits)))) + a2)) - x447)) a3 a4 av4 ha616 y619 hy620) ?_
   rintro _ w617 ⟨rfl, h621, c618⟩
   rw [← hS615] at h621
   have c522 := c522.then c618 (fun i hi h => (lin0_0 i h).elim (fun x => x) (fun x => absurd x (Nat.not_le_of_lt hi)))
   refine RL.nil ?_
   obtain rfl := Option.some.inj hS
   exact ⟨[], trivial, ⟨rfl, h621, c522⟩⟩
  have hS := ifF q613 hS
  refine CW.skip ?_
  obtain rfl := Option.some.inj hS
  exact ⟨[], trivial, ⟨rfl, h605, c522⟩⟩
 have hS := ifF q597 hS
 refine CW.skip ?_
 refine thn_n (CW.seq (CW.region ?_))
 refine rl_move rfl rfl ?_
 refine rl_move rfl rfl ?_
 refine rl_bin rfl rfl B.lss rfl ?_
 refine rl_move rfl rfl ?_
 obtain ⟨b625, hb626⟩ : ∃ v, ((decide ((IntKind.i64.wrap ((IntKind.u64.wrap (IntKind.i64.wrap (a1 + a3))).fdiv (2 ^ (min (Int.toNat 1) IntKind.u64.bits)))) < (IntKind.i64.wrap ((IntKind.i64.wrap ((IntKind.i64.wrap ((IntKind.u64.wrap (IntKind.i64.wrap (a1 + a3))).fdiv (2 ^ (min (Int.toNat 1) IntKind.u64.bits)))) + a2)) - x447)))) && (decide ((IntKind.i64.wrap ((IntKind.i64.wrap ((IntKind.i64.wrap ((IntKind.u64.wrap (IntKind.i64.wrap (a1 + a3))).fdiv (2 ^ (min (Int.toNat 1) IntKind.u64.bits)))) + a2)) - x447)) < a3))) = v := ⟨_, rfl⟩
 have hS := ltS hb626 hS
 refine RL.join 4 213 (.bool b625) (fun w' => Ch nb w595 w') ?_ ?_
 · rcases Bool.eq_false_or_eq_true (decide ((IntKind.i64.wrap ((IntKind.u64.wrap (IntKind.i64.wrap (a1 + a3))).fdiv (2 ^ (min (Int.toNat 1) IntKind.u64.bits)))) < (IntKind.i64.wrap ((IntKind.i64.wrap ((IntKind.i64.wrap ((IntKind.u64.wrap (IntKind.i64.wrap (a1 + a3))).fdiv (2 ^ (min (Int.toNat 1) IntKind.u64.bits)))) + a2)) - x447)))) with hg624 | hg624
   ·
    have hs623 := and_t hg624 hb626
    have cs : Ch nb w595 w595 := Ch.refl
    refine RL.yes rfl rfl rfl hg624 ?_
    refine rl_move rfl rfl ?_
    refine RL.yes rfl rfl rfl hg624 ?_
    refine rl_move rfl rfl ?_
    refine RL.yes rfl rfl rfl hg624 ?_
    refine rl_bin rfl rfl B.lss rfl ?_
    refine rl_pickT rfl hg624 rfl rfl ?_
    exact RL.nil ⟨Ext.bothEq (congrArg Value.bool hs623) (Ext.skip rfl (Ext.skip rfl (Ext.skip rfl (Ext.rfl')))), cs⟩
   ·
    have hs623 := and_f hg624 hb626
    have cs : Ch nb w595 w595 := Ch.refl
    refine RL.no rfl rfl rfl hg624 rfl rfl ?_
    refine RL.no rfl rfl rfl hg624 rfl rfl ?_
    refine RL.no rfl rfl rfl hg624 rfl rfl ?_
    refine rl_pickF rfl hg624 rfl rfl ?_
    exact RL.nil ⟨Ext.bothEq (congrArg Value.bool hs623) (Ext.skip rfl (Ext.skip rfl (Ext.skip rfl (Ext.rfl')))), cs⟩
 intro w627 c628
 have ah0 := ah0.ch0 c628
 have ah4 := Kd.ch ah4 c628
 have c522 := c522.then0 c628
 refine RL.nil (thn_n ?_)
 refine CW.cond (t := b625) rfl (fun q629 => ?_) (fun q629 => ?_)
 ·
  have hS := ifT q629 hS
  refine CW.region ?_
  refine rl_move rfl rfl ?_
  refine rl_move rfl rfl ?_
  refine rl_move rfl rfl ?_
  refine rl_move rfl rfl ?_
  refine rl_move rfl rfl ?_
  have hd630 : ∀ b, (inBlk av0) b → ¬ S2 b := fun b h => (fun b hb => linNot lin0_0 hd2 h2 b hb) b h
  have hS631 : (un (inBlk av0) S2) = (un (inBlk av0) S2) := rfl
  have ha632 := ah4
  rw [hS631] at ha632
  obtain ⟨y635, hy636, hS⟩ := bindS hS
  refine rl_callF rfl en78 rfl (ih F w627 Bb S2 (Nat.le_trans hB c522.size) (fun b h => Nat.lt_of_lt_of_le (h2 b h) c522.size) av0 hd630  a0 (hS631 ▸ ah0) (IntKind.i64.wrap ((IntKind.u64.wrap (IntKind.i64.wrap (a1 + a3))).fdiv (2 ^ (min (Int.toNat 1) IntKind.u64.bits)))) (IntKind.i64.wrap ((IntKind.i64.wrap ((IntKind.i64.wrap ((IntKind.u64.wrap (IntKind.i64.wrap (a1 + a3))).fdiv (2 ^ (min (Int.toNat 1) IntKind.u64.bits)))) + a2)) - x447)) a3 a4 av4 ha632 y635 hy636) ?_
  rintro _ w633 ⟨rfl, h637, c634⟩
  rw [← hS631] at h637
  have c522 := c522.then c634 (fun i hi h => (lin0_0 i h).elim (fun x => x) (fun x => absurd x (Nat.not_le_of_lt hi)))
  refine RL.nil ?_
  obtain rfl := Option.some.inj hS
  exact ⟨[], trivial, ⟨rfl, h637, c522⟩⟩
 have hS := ifF q629 hS
 refine CW.skip ?_
 obtain rfl := Option.some.inj hS
 exact ⟨[], trivial, ⟨rfl, ah0, c522⟩⟩
theorem ctr78_at : ∀ (f : Nat), ∀ (F : Nat → Prop) (w : World) (Bb : Nat) (S2 : Nat → Prop) (hB : Bb ≤ w.heap.size) (h2 : ∀ b, S2 b → b < w.heap.size) (av0 : Value) (hd2 : ∀ b, (inBlk av0) b → ¬ S2 b) (a0 : (List Group)) (ah0 : SlO k_Group 50 F Bb (un (inBlk av0) S2) w a0 av0) (a1 : Int) (a2 : Int) (a3 : Int) (a4 : (Group → Group → Int)) (av4 : Value) (ah4 : (Kd.fn2 Tryz.prog true true k_Group k_Group (Value.int .i64)).rep (G F Bb (un (inBlk av0) S2)) w a4 [av4]) (r : (List Group)) (hs : F78_Group_at f a0 a1 a2 a3 a4 = some r), Ret Tryz.prog 78 #[av0, (Value.int .i64 a1), (Value.int .i64 a2), (Value.int .i64 a3), av4] w fun v w' => v = Value.tuple #[] ∧ SlO k_Group 50 F Bb (un (inBlk av0) S2) w' r av0 ∧ Ch (inBlk av0) w w'
  | 0 => fun F w Bb S2 hB h2 av0 hd2 a0 ah0 a1 a2 a3 a4 av4 ah4 r hs => by simp [F78_Group_at] at hs
  | f + 1 => fun F w Bb S2 hB h2 av0 hd2 a0 ah0 a1 a2 a3 a4 av4 ah4 r hs => ctr78_step (F78_Group_at f) (ctr78_at f) F w Bb S2 hB h2 av0 hd2 a0 ah0 a1 a2 a3 a4 av4 ah4 r hs
theorem ctr78 (F : Nat → Prop) (w : World) (Bb : Nat) (S2 : Nat → Prop) (hB : Bb ≤ w.heap.size) (h2 : ∀ b, S2 b → b < w.heap.size) (av0 : Value) (hd2 : ∀ b, (inBlk av0) b → ¬ S2 b) (a0 : (List Group)) (ah0 : SlO k_Group 50 F Bb (un (inBlk av0) S2) w a0 av0) (a1 : Int) (a2 : Int) (a3 : Int) (a4 : (Group → Group → Int)) (av4 : Value) (ah4 : (Kd.fn2 Tryz.prog true true k_Group k_Group (Value.int .i64)).rep (G F Bb (un (inBlk av0) S2)) w a4 [av4]) (r : (List Group)) (hs : F78_Group a0 a1 a2 a3 a4 = some r) : Ret Tryz.prog 78 #[av0, (Value.int .i64 a1), (Value.int .i64 a2), (Value.int .i64 a3), av4] w fun v w' => v = Value.tuple #[] ∧ SlO k_Group 50 F Bb (un (inBlk av0) S2) w' r av0 ∧ Ch (inBlk av0) w w' := ctr78_at 64 F w Bb S2 hB h2 av0 hd2 a0 ah0 a1 a2 a3 a4 av4 ah4 r hs
/-- slices.stableCmpFunc[lb/resolve.Group] -/
theorem ctr50 (F : Nat → Prop) (w : World) (Bb : Nat) (S2 : Nat → Prop) (hB : Bb ≤ w.heap.size) (h2 : ∀ b, S2 b → b < w.heap.size) (av0 : Value) (hd2 : ∀ b, (inBlk av0) b → ¬ S2 b) (a0 : (List Group)) (ah0 : SlO k_Group 50 F Bb (un (inBlk av0) S2) w a0 av0) (a1 : Int) (a2 : (Group → Group → Int)) (av2 : Value) (ah2 : (Kd.fn2 Tryz.prog true true k_Group k_Group (Value.int .i64)).rep (G F Bb (un (inBlk av0) S2)) w a2 [av2]) (r : (List Group)) (hs : F50_Group a0 a1 a2 = some r) :
    Ret Tryz.prog 50 #[av0, (Value.int .i64 a1), av2] w fun v w' => v = Value.tuple #[] ∧ SlO k_Group 50 F Bb (un (inBlk av0) S2) w' r av0 ∧ Ch (inBlk av0) w w' := by
 have hS := hs
 have c0 : Ch (inBlk av0) w w := Ch.refl
 have lin0_0 : ∀ b, inBlk av0 b → (inBlk av0) b ∨ w.heap.size ≤ b := fun b h => .inl h
 refine Ret.of (n := 63) (args := [_, _, _]) (rs := []) Tryz.func50 rfl rfl rfl rfl ?_
 refine CW.seq (CW.region ?_)
 refine rl_assign rfl rfl ?_
 refine RL.nil (thn_n (CW.seq (CW.region ?_)))
 refine rl_move rfl rfl ?_
 refine rl_assign rfl rfl ?_
 refine rl_assign rfl rfl ?_
 refine RL.nil (thn_n (CW.seq ?_))
 obtain ⟨o12, ho13, hS⟩ := bindS hS
 refine CW.cutB (fun E' w' => ∃ (x1 : Int) (x2 : Int) (x3 : (List Group)), Sub [(0, av0), (1, (Value.int .i64 a1)), (2, av2), (6, (Value.int .i64 20)), (7, (Value.int .i64 x1))] E' ∧ Ch (inBlk av0) w w' ∧ Lp.fin (x1, x2, x3) = o12 ∧ (Kd.fn2 Tryz.prog true true k_Group k_Group (Value.int .i64)).rep (G F Bb (un (inBlk av0) S2)) w' a2 [av2] ∧ SlO k_Group 50 F Bb (un (inBlk av0) S2) w' x3 av0) ?_ ?_
 ·
  refine CW.loopS [(0, av0), (1, (Value.int .i64 a1)), (2, av2), (6, (Value.int .i64 20)), (7, (Value.int .i64 0)), (8, (Value.int .i64 20))] ⟨rfl, rfl, rfl, rfl, rfl, rfl, trivial⟩ FUEL (fun m E w' => ∃ (x1 : Int) (x2 : Int) (x3 : (List Group)), E = [(0, av0), (1, (Value.int .i64 a1)), (2, av2), (6, (Value.int .i64 20)), (7, (Value.int .i64 x1)), (8, (Value.int .i64 x2))] ∧ Ch (inBlk av0) w w' ∧ runW (F50_Group_b1 a1 a2) m (x1, x2, x3) = some o12 ∧ (Kd.fn2 Tryz.prog true true k_Group k_Group (Value.int .i64)).rep (G F Bb (un (inBlk av0) S2)) w' a2 [av2] ∧ SlO k_Group 50 F Bb (un (inBlk av0) S2) w' x3 av0)
      ⟨0, 20, a0, rfl, c0, ho13, ah2, ah0⟩ ?_
  rintro _ _ w18 ⟨x1, x2, x3, rfl, c17, hL7, ah2, h4⟩
  obtain ⟨k16, q9, rfl, hq10⟩ := runW_some hL7
  have hb11 := hq10
  refine CW.seq ?_
  refine CW.seq (CW.region ?_)
  refine rl_move rfl rfl ?_
  refine rl_move rfl rfl ?_
  refine rl_bin rfl rfl B.leq rfl ?_
  refine RL.nil (thn_n ?_)
  refine CW.cond (t := decide (x2 ≤ a1)) rfl (fun q20 => ?_) (fun q20 => ?_)
  ·
   have hb11 := ifT q20 hb11
   refine CW.skip ?_
   refine thn_n (CW.block ?_)
   refine CW.seq (CW.region ?_)
   refine rl_move rfl rfl ?_
   refine rl_move rfl rfl ?_
   refine rl_move rfl rfl ?_
   refine rl_move rfl rfl ?_
   have hd21 : ∀ b, (inBlk av0) b → ¬ S2 b := fun b h => (fun b hb => linNot lin0_0 hd2 h2 b hb) b h
   have hS22 : (un (inBlk av0) S2) = (un (inBlk av0) S2) := rfl
   have ha23 := ah2
   rw [hS22] at ha23
   obtain ⟨y26, hy27, hb11⟩ := bindS hb11
   refine rl_callF rfl en77 rfl (ctr77 F w18 Bb S2 (Nat.le_trans hB c17.size) (fun b h => Nat.lt_of_lt_of_le (h2 b h) c17.size) av0 hd21  x3 (hS22 ▸ h4) x1 x2 a2 av2 ha23 y26 hy27) ?_
   rintro _ w24 ⟨rfl, h28, c25⟩
   rw [← hS22] at h28
   have ad29 : ∀ b, b < w18.heap.size → ¬ (un (inBlk av0) S2) b → ¬ (inBlk av0) b ∧ ¬ (un (inBlk av0) S2) b := fun b _ hs => ⟨fun h => hs (.inl h), hs⟩
   have ah2 := Kd.st ah2 c25 ad29
   have c17 := c17.then c25 (fun i hi h => (lin0_0 i h).elim (fun x => x) (fun x => absurd x (Nat.not_le_of_lt hi)))
   refine RL.nil (thn_n (CW.seq (CW.region ?_)))
   refine rl_move rfl rfl ?_
   refine rl_assign rfl rfl ?_
   refine RL.nil (thn_n (CW.region ?_))
   refine rl_move rfl rfl ?_
   refine rl_move rfl rfl ?_
   refine rl_bin rfl rfl B.add rfl ?_
   refine rl_assign rfl rfl ?_
   refine RL.nil ?_
   refine inB_n ?_
   refine thn_n ?_
   have hLn := runW_next hL7 hq10 hb11
   exact ⟨k16, Nat.lt_succ_self _, [(0, av0), (1, (Value.int .i64 a1)), (2, av2), (6, (Value.int .i64 20)), (7, (Value.int .i64 x2)), (8, (Value.int .i64 (IntKind.i64.wrap (x2 + 20))))], ⟨rfl, rfl, rfl, rfl, rfl, rfl, trivial⟩, ⟨x2, IntKind.i64.wrap (x2 + 20), y26, rfl, c17, hLn, ah2, h28⟩⟩
  have hb11 := ifF q20 hb11
  refine CW.exit ?_
  refine thn_exit ?_
  refine thn_exit ?_
  refine inB_hit ?_
  have hLf := runW_fin hL7 hq10 hb11
  exact ⟨x1, x2, x3, ⟨rfl, rfl, rfl, rfl, rfl, trivial⟩, c17, hLf, ah2, h4⟩
 rintro _ w31 ⟨x1, x2, x3, hE32, c30, f33, ah2, h4⟩
 have hS := finS f33 hS
 refine thn_n (CW.sub [(0, av0), (1, (Value.int .i64 a1)), (2, av2), (6, (Value.int .i64 20)), (7, (Value.int .i64 x1))] hE32 ?_)
 refine CW.seq (CW.region ?_)
 refine rl_move rfl rfl ?_
 refine rl_move rfl rfl ?_
 refine rl_move rfl rfl ?_
 refine rl_move rfl rfl ?_
 have hd35 : ∀ b, (inBlk av0) b → ¬ S2 b := fun b h => (fun b hb => linNot lin0_0 hd2 h2 b hb) b h
 have hS36 : (un (inBlk av0) S2) = (un (inBlk av0) S2) := rfl
 have ha37 := ah2
 rw [hS36] at ha37
 obtain ⟨y40, hy41, hS⟩ := bindS hS
 refine rl_callF rfl en77 rfl (ctr77 F w31 Bb S2 (Nat.le_trans hB c30.size) (fun b h => Nat.lt_of_lt_of_le (h2 b h) c30.size) av0 hd35  x3 (hS36 ▸ h4) x1 a1 a2 av2 ha37 y40 hy41) ?_
 rintro _ w38 ⟨rfl, h42, c39⟩
 rw [← hS36] at h42
 have ad43 : ∀ b, b < w31.heap.size → ¬ (un (inBlk av0) S2) b → ¬ (inBlk av0) b ∧ ¬ (un (inBlk av0) S2) b := fun b _ hs => ⟨fun h => hs (.inl h), hs⟩
 have ah2 := Kd.st ah2 c39 ad43
 have c30 := c30.then c39 (fun i hi h => (lin0_0 i h).elim (fun x => x) (fun x => absurd x (Nat.not_le_of_lt hi)))
 refine RL.nil (thn_n ?_)
 obtain ⟨o54, ho55, hS⟩ := bindS hS
 refine CW.cutB (fun E' w' => ∃ (x44 : Int) (x45 : (List Group)), Sub [] E' ∧ Ch (inBlk av0) w w' ∧ Lp.fin (x44, x45) = o54 ∧ (Kd.fn2 Tryz.prog true true k_Group k_Group (Value.int .i64)).rep (G F Bb (un (inBlk av0) S2)) w' a2 [av2] ∧ SlO k_Group 50 F Bb (un (inBlk av0) S2) w' x45 av0) ?_ ?_
 ·
  refine CW.loopS [(0, av0), (1, (Value.int .i64 a1)), (2, av2), (6, (Value.int .i64 20))] ⟨rfl, rfl, rfl, rfl, trivial⟩ FUEL (fun m E w' => ∃ (x44 : Int) (x45 : (List Group)), E = [(0, av0), (1, (Value.int .i64 a1)), (2, av2), (6, (Value.int .i64 x44))] ∧ Ch (inBlk av0) w w' ∧ runW (F50_Group_b2 a1 a2) m (x44, x45) = some o54 ∧ (Kd.fn2 Tryz.prog true true k_Group k_Group (Value.int .i64)).rep (G F Bb (un (inBlk av0) S2)) w' a2 [av2] ∧ SlO k_Group 50 F Bb (un (inBlk av0) S2) w' x45 av0)
      ⟨20, y40, rfl, c30, ho55, ah2, h42⟩ ?_
  rintro _ _ w60 ⟨x44, x45, rfl, c59, hL49, ah2, h46⟩
  obtain ⟨k58, q51, rfl, hq52⟩ := runW_some hL49
  have hb53 := hq52
  refine CW.seq ?_
  refine CW.seq (CW.region ?_)
  refine rl_move rfl rfl ?_
  refine rl_move rfl rfl ?_
  refine rl_bin rfl rfl B.lss rfl ?_
  refine RL.nil (thn_n ?_)
  refine CW.cond (t := decide (x44 < a1)) rfl (fun q62 => ?_) (fun q62 => ?_)
  ·
   have hb53 := ifT q62 hb53
   refine CW.skip ?_
   refine thn_n (CW.block ?_)
   refine CW.seq (CW.region ?_)
   refine rl_move rfl rfl ?_
   refine rl_bin rfl rfl B.mul rfl ?_
   refine rl_assign rfl rfl ?_
   refine rl_assign rfl rfl ?_
   refine RL.nil (thn_n (CW.seq ?_))
   obtain ⟨o74, ho75, hb53⟩ := bindS hb53
   refine CW.cutB (fun E' w' => ∃ (x63 : Int) (x64 : Int) (x65 : (List Group)), Sub [(0, av0), (1, (Value.int .i64 a1)), (2, av2), (6, (Value.int .i64 x44)), (7, (Value.int .i64 x63))] E' ∧ Ch (inBlk av0) w w' ∧ Lp.fin (x63, x64, x65) = o74 ∧ (Kd.fn2 Tryz.prog true true k_Group k_Group (Value.int .i64)).rep (G F Bb (un (inBlk av0) S2)) w' a2 [av2] ∧ SlO k_Group 50 F Bb (un (inBlk av0) S2) w' x65 av0) ?_ ?_
   ·
    refine CW.loopS [(0, av0), (1, (Value.int .i64 a1)), (2, av2), (6, (Value.int .i64 x44)), (7, (Value.int .i64 0)), (8, (Value.int .i64 (IntKind.i64.wrap (2 * x44))))] ⟨rfl, rfl, rfl, rfl, rfl, rfl, trivial⟩ FUEL (fun m E w' => ∃ (x63 : Int) (x64 : Int) (x65 : (List Group)), E = [(0, av0), (1, (Value.int .i64 a1)), (2, av2), (6, (Value.int .i64 x44)), (7, (Value.int .i64 x63)), (8, (Value.int .i64 x64))] ∧ Ch (inBlk av0) w w' ∧ runW (F50_Group_b3 a1 a2 x44) m (x63, x64, x65) = some o74 ∧ (Kd.fn2 Tryz.prog true true k_Group k_Group (Value.int .i64)).rep (G F Bb (un (inBlk av0) S2)) w' a2 [av2] ∧ SlO k_Group 50 F Bb (un (inBlk av0) S2) w' x65 av0)
        ⟨0, IntKind.i64.wrap (2 * x44), x45, rfl, c59, ho75, ah2, h46⟩ ?_
    rintro _ _ w80 ⟨x63, x64, x65, rfl, c79, hL69, ah2, h66⟩
    obtain ⟨k78, q71, rfl, hq72⟩ := runW_some hL69
    have hb73 := hq72
    refine CW.seq ?_
    refine CW.seq (CW.region ?_)
    refine rl_move rfl rfl ?_
    refine rl_move rfl rfl ?_
    refine rl_bin rfl rfl B.leq rfl ?_
    refine RL.nil (thn_n ?_)
    refine CW.cond (t := decide (x64 ≤ a1)) rfl (fun q82 => ?_) (fun q82 => ?_)
    ·
     have hb73 := ifT q82 hb73
     refine CW.skip ?_
     refine thn_n (CW.block ?_)
     refine CW.seq (CW.region ?_)
     refine rl_move rfl rfl ?_
     refine rl_move rfl rfl ?_
     refine rl_move rfl rfl ?_
     refine rl_move rfl rfl ?_
     refine rl_bin rfl rfl B.add rfl ?_
     refine rl_move rfl rfl ?_
     refine rl_move rfl rfl ?_
     have hd83 : ∀ b, (inBlk av0) b → ¬ S2 b := fun b h => (fun b hb => linNot lin0_0 hd2 h2 b hb) b h
     have hS84 : (un (inBlk av0) S2) = (un (inBlk av0) S2) := rfl
     have ha85 := ah2
     rw [hS84] at ha85
     obtain ⟨y88, hy89, hb73⟩ := bindS hb73
     refine rl_callF rfl en78 rfl (ctr78 F w80 Bb S2 (Nat.le_trans hB c79.size) (fun b h => Nat.lt_of_lt_of_le (h2 b h) c79.size) av0 hd83  x65 (hS84 ▸ h66) x63 (IntKind.i64.wrap (x63 + x44)) x64 a2 av2 ha85 y88 hy89) ?_
     rintro _ w86 ⟨rfl, h90, c87⟩
     rw [← hS84] at h90
     have ad91 : ∀ b, b < w80.heap.size → ¬ (un (inBlk av0) S2) b → ¬ (inBlk av0) b ∧ ¬ (un (inBlk av0) S2) b := fun b _ hs => ⟨fun h => hs (.inl h), hs⟩
     have ah2 := Kd.st ah2 c87 ad91
     have c79 := c79.then c87 (fun i hi h => (lin0_0 i h).elim (fun x => x) (fun x => absurd x (Nat.not_le_of_lt hi)))
     refine RL.nil (thn_n (CW.seq (CW.region ?_)))
     refine rl_move rfl rfl ?_
     refine rl_assign rfl rfl ?_
     refine RL.nil (thn_n (CW.region ?_))
     refine rl_move rfl rfl ?_
     refine rl_move rfl rfl ?_
     refine rl_bin rfl rfl B.mul rfl ?_
     refine rl_bin rfl rfl B.add rfl ?_
     refine rl_assign rfl rfl ?_
     refine RL.nil ?_
     refine inB_n ?_
     refine thn_n ?_
     have hLn := runW_next hL69 hq72 hb73
     exact ⟨k78, Nat.lt_succ_self _, [(0, av0), (1, (Value.int .i64 a1)), (2, av2), (6, (Value.int .i64 x44)), (7, (Value.int .i64 x64)), (8, (Value.int .i64 (IntKind.i64.wrap (x64 + (IntKind.i64.wrap (2 * x44))))))], ⟨rfl, rfl, rfl, rfl, rfl, rfl, trivial⟩, ⟨x64, IntKind.i64.wrap (x64 + (IntKind.i64.wrap (2 * x44))), y88, rfl, c79, hLn, ah2, h90⟩⟩
    have hb73 := ifF q82 hb73
    refine CW.exit ?_
    refine thn_exit ?_
    refine thn_exit ?_
    refine inB_hit ?_
    have hLf := runW_fin hL69 hq72 hb73
    exact ⟨x63, x64, x65, ⟨rfl, rfl, rfl, rfl, rfl, trivial⟩, c79, hLf, ah2, h66⟩
   rintro _ w93 ⟨x63, x64, x65, hE94, c92, f95, ah2, h66⟩
   have hb53 := finS f95 hb53
   refine thn_n (CW.sub [(0, av0), (1, (Value.int .i64 a1)), (2, av2), (6, (Value.int .i64 x44)), (7, (Value.int .i64 x63))] hE94 ?_)
   refine CW.seq ?_
   refine CW.seq (CW.region ?_)
   refine rl_move rfl rfl ?_
   refine rl_move rfl rfl ?_
   refine rl_bin rfl rfl B.add rfl ?_
   refine rl_assign rfl rfl ?_
   refine RL.nil (thn_n (CW.seq (CW.region ?_)))
   refine rl_move rfl rfl ?_
   refine rl_move rfl rfl ?_
   refine rl_bin rfl rfl B.lss rfl ?_
   refine RL.nil (thn_n ?_)
   refine CW.cond (t := decide ((IntKind.i64.wrap (x63 + x44)) < a1)) rfl (fun q97 => ?_) (fun q97 => ?_)
   ·
    have hb53 := ifT q97 hb53
    refine CW.region ?_
    refine rl_move rfl rfl ?_
    refine rl_move rfl rfl ?_
    refine rl_move rfl rfl ?_
    refine rl_move rfl rfl ?_
    refine rl_move rfl rfl ?_
    have hd98 : ∀ b, (inBlk av0) b → ¬ S2 b := fun b h => (fun b hb => linNot lin0_0 hd2 h2 b hb) b h
    have hS99 : (un (inBlk av0) S2) = (un (inBlk av0) S2) := rfl
    have ha100 := ah2
    rw [hS99] at ha100
    obtain ⟨y103, hy104, hb53⟩ := bindS hb53
    refine rl_callF rfl en78 rfl (ctr78 F w93 Bb S2 (Nat.le_trans hB c92.size) (fun b h => Nat.lt_of_lt_of_le (h2 b h) c92.size) av0 hd98  x65 (hS99 ▸ h66) x63 (IntKind.i64.wrap (x63 + x44)) a1 a2 av2 ha100 y103 hy104) ?_
    rintro _ w101 ⟨rfl, h105, c102⟩
    rw [← hS99] at h105
    have ad106 : ∀ b, b < w93.heap.size → ¬ (un (inBlk av0) S2) b → ¬ (inBlk av0) b ∧ ¬ (un (inBlk av0) S2) b := fun b _ hs => ⟨fun h => hs (.inl h), hs⟩
    have ah2 := Kd.st ah2 c102 ad106
    have c92 := c92.then c102 (fun i hi h => (lin0_0 i h).elim (fun x => x) (fun x => absurd x (Nat.not_le_of_lt hi)))
    refine RL.nil (thn_n (CW.region ?_))
    refine rl_move rfl rfl ?_
    refine rl_bin rfl rfl B.mul rfl ?_
    refine rl_assign rfl rfl ?_
    refine RL.nil ?_
    refine inB_n ?_
    refine thn_n ?_
    have hLn := runW_next hL49 hq52 hb53
    exact ⟨k58, Nat.lt_succ_self _, [(0, av0), (1, (Value.int .i64 a1)), (2, av2), (6, (Value.int .i64 (IntKind.i64.wrap (x44 * 2))))], ⟨rfl, rfl, rfl, rfl, trivial⟩, ⟨IntKind.i64.wrap (x44 * 2), y103, rfl, c92, hLn, ah2, h105⟩⟩
   have hb53 := ifF q97 hb53
   refine CW.skip ?_
   refine thn_n (CW.region ?_)
   refine rl_move rfl rfl ?_
   refine rl_bin rfl rfl B.mul rfl ?_
   refine rl_assign rfl rfl ?_
   refine RL.nil ?_
   refine inB_n ?_
   refine thn_n ?_
   have hLn := runW_next hL49 hq52 hb53
   exact ⟨k58, Nat.lt_succ_self _, [(0, av0), (1, (Value.int .i64 a1)), (2, av2), (6, (Value.int .i64 (IntKind.i64.wrap (x44 * 2))))], ⟨rfl, rfl, rfl, rfl, trivial⟩, ⟨IntKind.i64.wrap (x44 * 2), x65, rfl, c92, hLn, ah2, h66⟩⟩
  have hb53 := ifF q62 hb53
  refine CW.exit ?_
  refine thn_exit ?_
  refine thn_exit ?_
  refine inB_hit ?_
  have hLf := runW_fin hL49 hq52 hb53
  exact ⟨x44, x45, trivial, c59, hLf, ah2, h46⟩
 rintro _ w108 ⟨x44, x45, hE109, c107, f110, ah2, h46⟩
 have hS := finS f110 hS
 obtain rfl := Option.some.inj hS
 exact ⟨[], trivial, ⟨rfl, h46, c107⟩⟩
/-- slices.SortStableFunc[[]lb/resolve.Group,lb/resolve.Group] -/
theorem ctr28 (F : Nat → Prop) (w : World) (Bb : Nat) (S2 : Nat → Prop) (hB : Bb ≤ w.heap.size) (h2 : ∀ b, S2 b → b < w.heap.size) (av0 : Value) (hd2 : ∀ b, (inBlk av0) b → ¬ S2 b) (a0 : (List Group)) (ah0 : SlO k_Group 50 F Bb (un (inBlk av0) S2) w a0 av0) (a1 : (Group → Group → Int)) (av1 : Value) (ah1 : (Kd.fn2 Tryz.prog true true k_Group k_Group (Value.int .i64)).rep (G F Bb (un (inBlk av0) S2)) w a1 [av1]) (r : (List Group)) (hs : F28_Group a0 a1 = some r) :
    Ret Tryz.prog 28 #[av0, av1] w fun v w' => v = Value.tuple #[] ∧ SlO k_Group 50 F Bb (un (inBlk av0) S2) w' r av0 ∧ Ch (inBlk av0) w w' := by
 have hS := hs
 have c0 : Ch (inBlk av0) w w := Ch.refl
 have lin0_0 : ∀ b, inBlk av0 b → (inBlk av0) b ∨ w.heap.size ≤ b := fun b h => .inl h
 refine Ret.of (n := 9) (args := [_, _]) (rs := []) Tryz.func28 rfl rfl rfl rfl ?_
 refine CW.region ?_
 refine rl_move rfl rfl ?_
 refine rl_move rfl rfl ?_
 refine rl_lenR rfl (SlO.read (S' := S2) k_Group_pos ah0 (fun b hs h => hs ((.inr h))) (fun b hb => linNot lin0_0 hd2 h2 b hb)) Tryz.underlying37 rfl ?_
 refine rl_move rfl rfl ?_
 have hd1 : ∀ b, (inBlk av0) b → ¬ S2 b := fun b h => (fun b hb => linNot lin0_0 hd2 h2 b hb) b h
 have hS2 : (un (inBlk av0) S2) = (un (inBlk av0) S2) := rfl
 have ha3 := ah1
 rw [hS2] at ha3
 obtain ⟨y6, hy7, hS⟩ := bindS hS
 refine rl_callF rfl en50 rfl (ctr50 F w Bb S2 (Nat.le_trans hB c0.size) (fun b h => Nat.lt_of_lt_of_le (h2 b h) c0.size) av0 hd1  a0 (hS2 ▸ ah0) ((a0.length : Nat) : Int) a1 av1 ha3 y6 hy7) ?_
 rintro _ w4 ⟨rfl, h8, c5⟩
 rw [← hS2] at h8
 have c0 := c0.then c5 (fun i hi h => (lin0_0 i h).elim (fun x => x) (fun x => absurd x (Nat.not_le_of_lt hi)))
 refine RL.nil ?_
 obtain rfl := Option.some.inj hS
 exact ⟨[], trivial, ⟨rfl, h8, c0⟩⟩
/-- (lb/resolve.Group).rank -/
theorem ctr54 (F : Nat → Prop) (w : World) (a0 : Group) (az0_0 : Value) (ah0_0 : slRep k_Point F w a0.points az0_0) (r : Int) (hs : F54_rank a0 = r) :
    Ret Tryz.prog 54 #[(Value.agg (Group.c a0 az0_0).toArray)] w fun v w' => v = (Value.int .i64 r) ∧ Ch nb w w' := by
 have hS := hs
 have c0 : Ch nb w w := Ch.refl
 refine Ret.of (n := 13) (args := [_]) (rs := [.tmp 2]) Tryz.func54 rfl rfl rfl rfl ?_
 refine CW.seq (CW.region ?_)
 refine rl_boxA (cs := (Group.c a0 az0_0)) rfl rfl ?_
 intro p1 w2 n3 k4
 have c0 := c0.then0 n3.ch
 refine rl_assign rfl rfl ?_
 refine RL.nil (thn_n (CW.seq (CW.region ?_)))
 refine rl_assign rfl rfl ?_
 refine RL.nil (thn_n (CW.seq ?_))
 refine CW.seq (CW.region ?_)
 refine rl_fieldAddr rfl fa50_2 rfl ?_
 refine rl_loadS (v := (Value.bool a0.six)) rfl Tryz.isAgg4 (k4.cell rfl) rfl ?_
 refine RL.nil (thn_n ?_)
 refine CW.cond (t := a0.six) rfl (fun q5 => ?_) (fun q5 => ?_)
 ·
  have hS := ifT q5 hS
  refine CW.region ?_
  refine rl_move rfl rfl ?_
  refine rl_bin rfl rfl B.add rfl ?_
  refine rl_assign rfl rfl ?_
  refine RL.nil (thn_n (CW.seq ?_))
  refine CW.seq (CW.region ?_)
  refine rl_fieldAddr rfl fa50_3 rfl ?_
  refine rl_loadS (v := (Value.bool a0.localF)) rfl Tryz.isAgg4 (k4.cell rfl) rfl ?_
  refine RL.nil (thn_n ?_)
  refine CW.cond (t := a0.localF) rfl (fun q6 => ?_) (fun q6 => ?_)
  ·
   have hS := ifT q6 hS
   refine CW.region ?_
   refine rl_move rfl rfl ?_
   refine rl_bin rfl rfl B.add rfl ?_
   refine rl_assign rfl rfl ?_
   refine RL.nil (thn_n (CW.seq (CW.region ?_)))
   refine rl_move rfl rfl ?_
   refine rl_assign rfl rfl ?_
   refine RL.nil (thn_n (CW.ret ?_))
   obtain rfl := hS
   exact ret1 rfl ⟨rfl, c0⟩
  have hS := ifF q6 hS
  refine CW.skip ?_
  refine thn_n (CW.seq (CW.region ?_))
  refine rl_move rfl rfl ?_
  refine rl_assign rfl rfl ?_
  refine RL.nil (thn_n (CW.ret ?_))
  obtain rfl := hS
  exact ret1 rfl ⟨rfl, c0⟩
 have hS := ifF q5 hS
 refine CW.skip ?_
 refine thn_n (CW.seq ?_)
 refine CW.seq (CW.region ?_)
 refine rl_fieldAddr rfl fa50_3 rfl ?_
 refine rl_loadS (v := (Value.bool a0.localF)) rfl Tryz.isAgg4 (k4.cell rfl) rfl ?_
 refine RL.nil (thn_n ?_)
 refine CW.cond (t := a0.localF) rfl (fun q7 => ?_) (fun q7 => ?_)
 ·
  have hS := ifT q7 hS
  refine CW.region ?_
  refine rl_move rfl rfl ?_
  refine rl_bin rfl rfl B.add rfl ?_
  refine rl_assign rfl rfl ?_
  refine RL.nil (thn_n (CW.seq (CW.region ?_)))
  refine rl_move rfl rfl ?_
  refine rl_assign rfl rfl ?_
  refine RL.nil (thn_n (CW.ret ?_))
  obtain rfl := hS
  exact ret1 rfl ⟨rfl, c0⟩
 have hS := ifF q7 hS
 refine CW.skip ?_
 refine thn_n (CW.seq (CW.region ?_))
 refine rl_move rfl rfl ?_
 refine rl_assign rfl rfl ?_
 refine RL.nil (thn_n (CW.ret ?_))
 obtain rfl := hS
 exact ret1 rfl ⟨rfl, c0⟩
/-- lb/resolve.order -/
theorem ctr29 (F : Nat → Prop) (w : World) (a0 : Group) (az0_0 : Value) (ah0_0 : slRep k_Point F w a0.points az0_0) (a1 : Group) (az1_0 : Value) (ah1_0 : slRep k_Point F w a1.points az1_0) (r : Int) (hs : F29_order a0 a1 = r) :
    Ret Tryz.prog 29 #[(Value.agg (Group.c a0 az0_0).toArray), (Value.agg (Group.c a1 az1_0).toArray)] w fun v w' => v = (Value.int .i64 r) ∧ Ch nb w w' := by
 have hS := hs
 have c0 : Ch nb w w := Ch.refl
 have ah0_0 := slRep.enter k_Point_pos ah0_0
 have ah1_0 := slRep.enter k_Point_pos ah1_0
 refine Ret.of (n := 17) (args := [_, _]) (rs := [.tmp 4]) Tryz.func29 rfl rfl rfl rfl ?_
 refine CW.seq (CW.region ?_)
 refine rl_boxA (cs := (Group.c a0 az0_0)) rfl rfl ?_
 intro p1 w2 n3 k4
 have ah0_0 := slRep.ch k_Point_pos ah0_0 n3.ch
 have ah1_0 := slRep.ch k_Point_pos ah1_0 n3.ch
 have c0 := c0.then0 n3.ch
 refine rl_boxA (cs := (Group.c a1 az1_0)) rfl rfl ?_
 intro p5 w6 n7 k8
 have ah0_0 := slRep.ch k_Point_pos ah0_0 n7.ch
 have ah1_0 := slRep.ch k_Point_pos ah1_0 n7.ch
 have k4 := k4.ch0 n7.ch
 have c0 := c0.then0 n7.ch
 refine rl_assign rfl rfl ?_
 refine RL.nil (thn_n (CW.seq ?_))
 obtain ⟨y11, hy12⟩ : ∃ y, F52_string a0.name a1.name = y := ⟨_, rfl⟩
 have hS := ltS hy12 hS
 obtain ⟨y15, hy16⟩ : ∃ y, F54_rank a0 = y := ⟨_, rfl⟩
 have hS := ltS hy16 hS
 obtain ⟨y19, hy20⟩ : ∃ y, F54_rank a1 = y := ⟨_, rfl⟩
 have hS := ltS hy20 hS
 obtain ⟨y23, hy24⟩ : ∃ y, F53_int y15 y19 = y := ⟨_, rfl⟩
 have hS := ltS hy24 hS
 obtain ⟨y32, hy33⟩ : ∃ y, F51_int [y11, y23] = y := ⟨_, rfl⟩
 have hS := ltS hy33 hS
 refine CW.draw 8 [(none, fun fx O uu wx => uu = (PV p1)), (none, fun fx O uu wx => uu = (Value.string a0.name)), (none, fun fx O uu wx => uu = (PV p5)), (none, fun fx O uu wx => uu = (Value.string a1.name)), (none, fun fx O uu wx => uu = (Value.int .i64 y11)), (none, fun fx O uu wx => uu = (Value.agg (Group.c a0 az0_0).toArray)), (none, fun fx O uu wx => uu = (Value.int .i64 y15)), (none, fun fx O uu wx => uu = (Value.agg (Group.c a1 az1_0).toArray))] [[], [0], [], [2], [1, 3], [], [5], []] [4, 6, 7] nb (fun _ h => h.elim) mixed rfl rfl rfl rfl ?_ ?_
 ·
  refine Each.consS (fun fl O wk hE hN hO ck => ?_) ?_
  ·
   refine rl_fieldAddr rfl fa50_0 rfl ?_
   exact RL.nil ⟨_, rfl, Ch.refl, rfl⟩
  refine Each.consS (fun fl O wk hE hN hO ck => ?_) ?_
  ·
   have k4 := k4.ch0 ck
   refine Need.o1 rfl rfl rfl (fun _ h => h) ?_
   refine rl_loadS (v := (Value.string a0.name)) rfl Tryz.isAgg9 (k4.cell rfl) rfl ?_
   exact RL.nil ⟨_, rfl, Ch.refl, rfl⟩
  refine Each.consS (fun fl O wk hE hN hO ck => ?_) ?_
  ·
   refine rl_fieldAddr rfl fa50_0 rfl ?_
   exact RL.nil ⟨_, rfl, Ch.refl, rfl⟩
  refine Each.consS (fun fl O wk hE hN hO ck => ?_) ?_
  ·
   have k8 := k8.ch0 ck
   refine Need.o1 rfl rfl rfl (fun _ h => h) ?_
   refine rl_loadS (v := (Value.string a1.name)) rfl Tryz.isAgg9 (k8.cell rfl) rfl ?_
   exact RL.nil ⟨_, rfl, Ch.refl, rfl⟩
  refine Each.consS (fun fl O wk hE hN hO ck => ?_) ?_
  ·
   refine Need.o1 rfl rfl rfl (fun _ h => h) ?_
   refine Need.o1 rfl rfl rfl (fun _ h => h) ?_
   refine rl_callF rfl en52 rfl (ctr52 (G F w.heap.size nb) wk a0.name a1.name y11 hy12) ?_
   rintro _ w38 ⟨rfl, c39⟩
   exact RL.nil ⟨_, rfl, c39, rfl⟩
  refine Each.consS (fun fl O wk hE hN hO ck => ?_) ?_
  ·
   have k4 := k4.ch0 ck
   refine rl_loadA (cs := (Group.c a0 az0_0)) rfl Tryz.isAgg50 Tryz.sizeOf50 (k4.segAt 0 5) rfl rfl ?_
   exact RL.nil ⟨_, rfl, Ch.refl, rfl⟩
  refine Each.consS (fun fl O wk hE hN hO ck => ?_) ?_
  ·
   have ah0_0 := slRep.ch k_Point_pos ah0_0 ck
   refine Need.o1 rfl rfl rfl (fun _ h => h) ?_
   refine rl_callF rfl en54 rfl (ctr54 (G F w.heap.size nb) wk a0 az0_0 ah0_0 y15 hy16) ?_
   rintro _ w41 ⟨rfl, c42⟩
   exact RL.nil ⟨_, rfl, c42, rfl⟩
  refine Each.consS (fun fl O wk hE hN hO ck => ?_) ?_
  ·
   have k8 := k8.ch0 ck
   refine rl_loadA (cs := (Group.c a1 az1_0)) rfl Tryz.isAgg50 Tryz.sizeOf50 (k8.segAt 0 5) rfl rfl ?_
   exact RL.nil ⟨_, rfl, Ch.refl, rfl⟩
  trivial
 intro hvO45 OpO45 O45 w43 hO46 c44 hN47
 have ah1_0 := slRep.ch k_Point_pos ah1_0 c44
 have c0 := c0.then0 c44
 refine Need.o1 rfl rfl rfl (fun _ h => h) ?_
 refine Need.o1 rfl rfl rfl (fun _ h => h) ?_
 refine Need.o1 rfl rfl rfl (fun _ h => h) ?_
 refine rl_callF rfl en54 rfl (ctr54 (G F w.heap.size nb) w43 a1 az1_0 ah1_0 y19 hy20) ?_
 rintro _ w51 ⟨rfl, c52⟩
 have c0 := c0.then0 c52
 refine rl_callF rfl en53 rfl (ctr53 (G F w.heap.size nb) w51 y15 y19 y23 hy24) ?_
 rintro _ w53 ⟨rfl, c54⟩
 have c0 := c0.then0 c54
 refine rl_bslice (k := (kInt .i64)) (F := F) (B := w.heap.size) (S := nb) ([y11, y23] : List Int) rfl kInt_pos Tryz.underlying158 Tryz.sizeOf3 Tryz.zeroValue3 rfl rfl ⟨rfl, rfl, ⟨rfl, rfl, trivial⟩⟩ c0.size nbS rfl ?_
 intro v55 w56 c57 hf58 h59
 have h59 := h59.readNew kInt_pos hf58 nbS
 have c0 := c0.then0 c57
 refine rl_callF rfl en51 rfl (ctr51 (G F w.heap.size nb) w56 [y11, y23] v55 h59 y32 hy33) ?_
 rintro _ w60 ⟨rfl, c61⟩
 have c0 := c0.then0 c61
 refine rl_assign rfl rfl ?_
 refine RL.nil (thn_n (CW.ret ?_))
 obtain rfl := hS
 exact ret1 rfl ⟨rfl, c0⟩
end Go.Proofs.YtgcneihmkkldeaaGreat
