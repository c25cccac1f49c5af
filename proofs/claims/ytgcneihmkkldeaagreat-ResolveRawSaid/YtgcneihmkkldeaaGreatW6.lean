/- The walks through the code: each call comes to its printed function. Written by a program of this session. -/
import Derived.Test.YtgcneihmkkldeaaGreatM
import Derived.Test.YtgcneihmkkldeaaGreatL
import Derived.Test.YtgcneihmkkldeaaGreatW5
namespace Go.Proofs.YtgcneihmkkldeaaGreat
open Go K
set_option linter.unusedVariables false
/-- slices.Equal[[]lb/api.Point,lb/api.Point] -/
theorem ctr59 (F : Nat → Prop) (w : World) (a0 : (List Point)) (av0 : Value) (ah0 : slRep k_Point F w a0 av0) (a1 : (List Point)) (av1 : Value) (ah1 : slRep k_Point F w a1 av1) (r : Bool) (hs : F59_Point a0 a1 = some r) :
    Ret Tryz.prog 59 #[av0, av1] w fun v w' => v = (Value.bool r) ∧ Ch nb w w' := by
 have hS := hs
 have c0 : Ch nb w w := Ch.refl
 have ah0 := slRep.enter k_Point_pos ah0
 have ah1 := slRep.enter k_Point_pos ah1
 refine Ret.of (n := 26) (args := [_, _]) (rs := [.tmp 4]) Tryz.func59 rfl rfl rfl rfl ?_
 refine CW.seq (CW.region ?_)
 refine rl_assign rfl rfl ?_
 refine RL.nil (thn_n (CW.seq ?_))
 refine CW.seq (CW.region ?_)
 refine rl_move rfl rfl ?_
 refine rl_lenR rfl ah0 Tryz.underlying48 rfl ?_
 refine rl_move rfl rfl ?_
 refine rl_lenR rfl ah1 Tryz.underlying48 rfl ?_
 refine rl_bin rfl rfl B.neq rfl ?_
 refine RL.nil (thn_n ?_)
 refine CW.cond (t := !decide (((a0.length : Nat) : Int) = ((a1.length : Nat) : Int))) rfl (fun q1 => ?_) (fun q1 => ?_)
 ·
  have hS := ifT q1 hS
  refine CW.seq (CW.region ?_)
  refine rl_assign rfl rfl ?_
  refine RL.nil (thn_n (CW.ret ?_))
  refine thn_ret ?_
  obtain rfl := Option.some.inj hS
  exact ret1 rfl ⟨rfl, c0⟩
 have hS := ifF q1 hS
 refine CW.skip ?_
 refine thn_n (CW.seq ?_)
 refine CW.seq (CW.region ?_)
 refine rl_move rfl rfl ?_
 refine rl_lenR rfl ah0 Tryz.underlying48 rfl ?_
 refine rl_move rfl rfl ?_
 refine RL.nil (thn_n ?_)
 obtain ⟨o9, ho10, hS⟩ := bindS hS
 refine CW.cutB (fun E' w' => ∃ (ix16 : Nat), Sub [] E' ∧ Ch nb w w' ∧ Lp.fin ix16 = o9 ∧ slRep k_Point (G F w.heap.size nb) w' a0 av0 ∧ slRep k_Point (G F w.heap.size nb) w' a1 av1) ?_ ?_
 ·
  refine CW.loopS [(0, av0), (1, av1), (12, (Value.int .i64 ((a0.length : Nat) : Int))), (13, (Value.int .i64 ((0 : Nat) : Int)))] ⟨rfl, rfl, rfl, rfl, trivial⟩ a0.length (fun m E w' => ∃ (rest2 : List Point) (i3 : Nat) , m = rest2.length ∧ E = [(0, av0), (1, av1), (12, (Value.int .i64 ((a0.length : Nat) : Int))), (13, (Value.int .i64 ((i3 : Nat) : Int)))] ∧ Ch nb w w' ∧ At a0 i3 rest2 ∧ runBO (F59_Point_b1 a1) rest2 i3 = some o9 ∧ slRep k_Point (G F w.heap.size nb) w' a0 av0 ∧ slRep k_Point (G F w.heap.size nb) w' a1 av1)
      ⟨a0, 0, rfl, rfl, c0, At.start, ho10, ah0, ah1⟩ ?_
  rintro _ _ w15 ⟨rest2, i3, rfl, rfl, c14, hat5, hL4, ah0, ah1⟩
  refine CW.seq (CW.region ?_)
  refine rl_bin rfl rfl B.lss rfl ?_
  refine RL.nil (thn_n ?_)
  refine CW.seq ?_
  refine CW.cond (t := decide (((i3 : Nat) : Int) < ((a0.length : Nat) : Int))) rfl (fun q17 => ?_) (fun q17 => ?_)
  ·
   obtain ⟨x11, rest18, rfl⟩ := hat5.cons q17
   obtain ⟨q6, hq7⟩ := runBO_some hL4
   have hb8 := hq7
   refine CW.skip (thn_n ?_)
   refine CW.seq ?_
   refine CW.block ?_
   refine CW.seq (CW.region ?_)
   refine rl_move rfl rfl ?_
   refine rl_assign rfl rfl ?_
   refine RL.nil (thn_n (CW.seq ?_))
   obtain ⟨y31, hy32, hb8⟩ := bindS hb8
   refine CW.draw 8 [(none, fun fx O uu wx => uu = av0), (none, fun fx O uu wx => uu = (Value.int .i64 ((i3 : Nat) : Int))), (none, fun fx O uu wx => ∃ (p19 : Nat) (o20 : Nat), uu = (Value.pointer (some ⟨p19, o20, none⟩)) ∧ (G F w.heap.size nb) p19 ∧ Seg wx p19 o20 (Point.enc x11)), (none, fun fx O uu wx => uu = (Value.agg (Point.enc x11).toArray)), (none, fun fx O uu wx => uu = av1), (none, fun fx O uu wx => uu = (Value.int .i64 ((i3 : Nat) : Int))), (none, fun fx O uu wx => ∃ (p25 : Nat) (o26 : Nat), uu = (Value.pointer (some ⟨p25, o26, none⟩)) ∧ (G F w.heap.size nb) p25 ∧ Seg wx p25 o26 (Point.enc y31)), (none, fun fx O uu wx => uu = (Value.agg (Point.enc y31).toArray))] [[], [], [0, 1], [2], [], [], [4, 5], [6]] [3, 7] nb (fun _ h => h.elim) mixed rfl rfl rfl rfl ?_ ?_
   ·
    refine Each.consS (fun fl O wk hE hN hO ck => ?_) ?_
    ·
     refine rl_move rfl rfl ?_
     exact RL.nil ⟨_, rfl, Ch.refl, rfl⟩
    refine Each.consS (fun fl O wk hE hN hO ck => ?_) ?_
    ·
     refine rl_move rfl rfl ?_
     exact RL.nil ⟨_, rfl, Ch.refl, rfl⟩
    refine Each.consA ⟨fun _ _ _ _ _ cc hh => by obtain ⟨p19, o20, e, hg24, hs23⟩ := hh; exact ⟨p19, o20, e, hg24, hs23.ch0 cc⟩, fun h => absurd rfl h, fun fl O wk hE hN hO ck => ?_⟩ ?_
    ·
     have ah0 := slRep.ch k_Point_pos ah0 ck
     refine Need.o1 rfl rfl rfl (fun _ h => h) ?_
     refine Need.o1 rfl rfl rfl (fun _ h => h) ?_
     refine rl_ixR rfl ah0 rfl hat5.get Tryz.underlying48 Tryz.sizeOf45 rfl ?_
     intro p35 o36 cs37 hr38 hs39 hg40
     obtain rfl := hr38
     exact RL.nil ⟨_, rfl, Ch.refl, ⟨p35, o36, rfl, hg40, hs39⟩⟩
    refine Each.consS (fun fl O wk hE hN hO ck => ?_) ?_
    ·
     refine Need.one rfl rfl rfl ?_
     rintro _ ⟨p19, o20, e41, hg24, hs23⟩
     obtain rfl := e41.symm
     refine rl_loadA (cs := (Point.enc x11)) rfl Tryz.isAgg45 Tryz.sizeOf45 (hs23) rfl rfl ?_
     exact RL.nil ⟨_, rfl, Ch.refl, rfl⟩
    refine Each.consS (fun fl O wk hE hN hO ck => ?_) ?_
    ·
     refine rl_move rfl rfl ?_
     exact RL.nil ⟨_, rfl, Ch.refl, rfl⟩
    refine Each.consS (fun fl O wk hE hN hO ck => ?_) ?_
    ·
     refine rl_move rfl rfl ?_
     exact RL.nil ⟨_, rfl, Ch.refl, rfl⟩
    refine Each.consA ⟨fun _ _ _ _ _ cc hh => by obtain ⟨p25, o26, e, hg30, hs29⟩ := hh; exact ⟨p25, o26, e, hg30, hs29.ch0 cc⟩, fun h => absurd rfl h, fun fl O wk hE hN hO ck => ?_⟩ ?_
    ·
     have ah1 := slRep.ch k_Point_pos ah1 ck
     refine Need.o1 rfl rfl rfl (fun _ h => h) ?_
     refine Need.o1 rfl rfl rfl (fun _ h => h) ?_
     refine rl_ixR rfl ah1 rfl (ixO_nat hy32) Tryz.underlying48 Tryz.sizeOf45 rfl ?_
     intro p44 o45 cs46 hr47 hs48 hg49
     obtain rfl := hr47
     exact RL.nil ⟨_, rfl, Ch.refl, ⟨p44, o45, rfl, hg49, hs48⟩⟩
    refine Each.consS (fun fl O wk hE hN hO ck => ?_) ?_
    ·
     refine Need.one rfl rfl rfl ?_
     rintro _ ⟨p25, o26, e50, hg30, hs29⟩
     obtain rfl := e50.symm
     refine rl_loadA (cs := (Point.enc y31)) rfl Tryz.isAgg45 Tryz.sizeOf45 (hs29) rfl rfl ?_
     exact RL.nil ⟨_, rfl, Ch.refl, rfl⟩
    trivial
   intro hvO53 OpO53 O53 w51 hO54 c52 hN55
   have ah0 := slRep.ch k_Point_pos ah0 c52
   have ah1 := slRep.ch k_Point_pos ah1 c52
   have c14 := c14.then0 c52
   refine Need.o1 rfl rfl rfl (fun _ h => h) ?_
   refine Need.o1 rfl rfl rfl (fun _ h => h) ?_
   refine rl_bin rfl rfl (neq45 x11 y31) rfl ?_
   refine RL.nil (thn_n ?_)
   refine CW.cond (t := !decide (x11 = y31)) rfl (fun q58 => ?_) (fun q58 => ?_)
   ·
    have hb8 := ifT q58 hb8
    refine CW.seq (CW.region ?_)
    refine rl_assign rfl rfl ?_
    refine RL.nil (thn_n (CW.ret ?_))
    refine inB_ret ?_
    refine thn_ret ?_
    refine thn_ret (inB_ret (thn_ret ?_))
    refine thn_ret ?_
    have f59 := runBO_ret hL4 hq7 hb8
    have hS := retS f59 hS
    obtain rfl := Option.some.inj hS
    exact ret1 rfl ⟨rfl, c14⟩
   have hb8 := ifF q58 hb8
   refine CW.skip ?_
   refine inB_n ?_
   refine thn_n (CW.region ?_)
   refine rl_inc rfl hat5.lt ah0.big rfl ?_
   refine rl_move rfl rfl ?_
   refine RL.nil (thn_n ?_)
   have hLn := runBO_next hL4 hq7 hb8
   exact ⟨rest18.length, Nat.lt_succ_self _, [(0, av0), (1, av1), (12, (Value.int .i64 ((a0.length : Nat) : Int))), (13, (Value.int .i64 ((i3 + 1 : Nat) : Int)))], ⟨rfl, rfl, rfl, rfl, trivial⟩, ⟨rest18, i3 + 1, rfl, rfl, c14, hat5.next, hLn, ah0, ah1⟩⟩
  obtain rfl := hat5.nil q17
  have hLf : Lp.fin i3 = o9 := runBO_done hL4
  refine CW.exit (thn_exit (thn_exit (inB_hit ?_)))
  exact ⟨i3, trivial, c14, hLf, ah0, ah1⟩
 rintro _ w61 ⟨ix16, hE62, c60, f63, ah0, ah1⟩
 have hS := finS f63 hS
 refine thn_n (CW.sub [] hE62 ?_)
 refine CW.seq (CW.region ?_)
 refine rl_assign rfl rfl ?_
 refine RL.nil (thn_n (CW.ret ?_))
 obtain rfl := Option.some.inj hS
 exact ret1 rfl ⟨rfl, c60⟩
theorem ctr59t (F : Nat → Prop) (w : World) (a0 : (List Point)) (av0 : Value) (ah0 : slRep k_Point F w a0 av0) (a1 : (List Point)) (av1 : Value) (ah1 : slRep k_Point F w a1 av1) (r : Bool) (hs : F59_Point_t a0 a1 = r) :
    Ret Tryz.prog 59 #[av0, av1] w fun v w' => v = (Value.bool r) ∧ Ch nb w w' :=
  ctr59 F w a0 av0 ah0 a1 av1 ah1 r (show F59_Point a0 a1 = some r from (eqG_eq a0 a1).trans (congrArg some hs))
/-- lb/resolve.sameGroup -/
theorem ctr43 (F : Nat → Prop) (w : World) (a0 : Group) (az0_0 : Value) (ah0_0 : slRep k_Point F w a0.points az0_0) (a1 : Group) (az1_0 : Value) (ah1_0 : slRep k_Point F w a1.points az1_0) (r : Bool) (hs : F43_sameGrou a0 a1 = r) :
    Ret Tryz.prog 43 #[(Value.agg (Group.c a0 az0_0).toArray), (Value.agg (Group.c a1 az1_0).toArray)] w fun v w' => v = (Value.bool r) ∧ Ch nb w w' := by
 have hS := hs
 have c0 : Ch nb w w := Ch.refl
 have ah0_0 := slRep.enter k_Point_pos ah0_0
 have ah1_0 := slRep.enter k_Point_pos ah1_0
 refine Ret.of (n := 24) (args := [_, _]) (rs := [.tmp 4]) Tryz.func43 rfl rfl rfl rfl ?_
 refine CW.seq (CW.region ?_)
 refine rl_boxA (cs := (Group.c a0 az0_0)) rfl rfl ?_
 intro p1 w2 n3 k4
 have ah0_0 := slRep.ch k_Point_pos ah0_0 n3.ch
 have ah1_0 := slRep.ch k_Point_pos ah1_0 n3.ch
 have c0 := c0.then0 n3.ch
 refine rl_boxA (cs := (Group.c a1 az1_0)) rfl rfl ?_
 intro p5 w6 n7 k8
 have ah0_0 := slRep.ch k_Point_pos ah0_0 n7.ch
 have ah1_0 := slRep.ch k_Point_pos ah1_0 n7.ch
 have k4 := k4.ch0 n7.ch
 have c0 := c0.then0 n7.ch
 refine rl_assign rfl rfl ?_
 refine RL.nil (thn_n (CW.seq ?_))
 obtain ⟨y11, hy12⟩ : ∃ y, F32_id a0 = y := ⟨_, rfl⟩
 have hS := ltS hy12 hS
 obtain ⟨y15, hy16⟩ : ∃ y, F32_id a1 = y := ⟨_, rfl⟩
 have hS := ltS hy16 hS
 obtain ⟨b17, hb18⟩ : ∃ y, ((decide (y11 = y15)) && (decide (a0.proto = a1.proto))) = y := ⟨_, rfl⟩
 have hS := ltS hb18 hS
 obtain ⟨b23, hb24⟩ : ∃ y, (b17 && (lt (F59_Point_t a0.points a1.points) fun y21 => y21)) = y := ⟨_, rfl⟩
 have hS := ltS hb24 hS
 refine CW.cutN (fun E' w' => Sub [(4, (Value.bool b23))] E' ∧ Ch nb w6 w') ?_ ?_
 ·
  rcases Bool.eq_false_or_eq_true (decide (y11 = y15)) with hg25 | hg25
  ·
   have hs26 := and_t hg25 hb18
   rcases Bool.eq_false_or_eq_true b17 with hg27 | hg27
   ·
    have hs28 := and_t hg27 hb24
    obtain ⟨y21, hy22⟩ : ∃ y, F59_Point_t a0.points a1.points = y := ⟨_, rfl⟩
    have hs28 := ltS hy22 hs28
    refine CW.draw 19 [(none, fun fx O uu wx => uu = (Value.agg (Group.c a0 az0_0).toArray)), (none, fun fx O uu wx => uu = (Value.agg (Id.enc y11).toArray)), (none, fun fx O uu wx => uu = (Value.agg (Group.c a1 az1_0).toArray)), (none, fun fx O uu wx => uu = (Value.agg (Id.enc y15).toArray)), (none, fun fx O uu wx => uu = (Value.bool (decide (y11 = y15)))), (none, fun fx O uu wx => uu = (Value.bool (decide (y11 = y15)))), (none, fun fx O uu wx => uu = (Value.pointer (some ⟨p1, 1, none⟩))), (none, fun fx O uu wx => uu = (Value.int .i64 a0.proto)), (none, fun fx O uu wx => uu = (Value.pointer (some ⟨p5, 1, none⟩))), (none, fun fx O uu wx => uu = (Value.int .i64 a1.proto)), (none, fun fx O uu wx => uu = (Value.bool (decide (a0.proto = a1.proto)))), (none, fun fx O uu wx => uu = (Value.bool b17)), (none, fun fx O uu wx => uu = (Value.bool b17)), (none, fun fx O uu wx => uu = (Value.pointer (some ⟨p1, 4, none⟩))), (none, fun fx O uu wx => uu = az0_0), (none, fun fx O uu wx => uu = (Value.pointer (some ⟨p5, 4, none⟩))), (none, fun fx O uu wx => uu = az1_0), (none, fun fx O uu wx => uu = (Value.bool y21)), (none, fun fx O uu wx => uu = (Value.bool b23))] [[], [0], [], [2], [1, 3], [4], [5], [5, 6], [5], [5, 8], [5, 7, 9], [5, 10], [11], [12], [12, 13], [12], [12, 15], [12, 14, 16], [12, 17]] [18] nb (fun _ h => h.elim) mixed rfl rfl rfl rfl ?_ ?_
    ·
     refine Each.consS (fun fl O wk hE hN hO ck => ?_) ?_
     ·
      have k4 := k4.ch0 ck
      refine rl_loadA (cs := (Group.c a0 az0_0)) rfl Tryz.isAgg50 Tryz.sizeOf50 (k4.segAt 0 5) rfl rfl ?_
      exact RL.nil ⟨_, rfl, Ch.refl, rfl⟩
     refine Each.consS (fun fl O wk hE hN hO ck => ?_) ?_
     ·
      have ah0_0 := slRep.ch k_Point_pos ah0_0 ck
      refine Need.o1 rfl rfl rfl (fun _ h => h) ?_
      refine rl_callF rfl en32 rfl (ctr32 (G F w.heap.size nb) wk a0 az0_0 ah0_0 y11 hy12) ?_
      rintro _ w30 ⟨rfl, c31⟩
      exact RL.nil ⟨_, rfl, c31, rfl⟩
     refine Each.consS (fun fl O wk hE hN hO ck => ?_) ?_
     ·
      have k8 := k8.ch0 ck
      refine rl_loadA (cs := (Group.c a1 az1_0)) rfl Tryz.isAgg50 Tryz.sizeOf50 (k8.segAt 0 5) rfl rfl ?_
      exact RL.nil ⟨_, rfl, Ch.refl, rfl⟩
     refine Each.consS (fun fl O wk hE hN hO ck => ?_) ?_
     ·
      have ah1_0 := slRep.ch k_Point_pos ah1_0 ck
      refine Need.o1 rfl rfl rfl (fun _ h => h) ?_
      refine rl_callF rfl en32 rfl (ctr32 (G F w.heap.size nb) wk a1 az1_0 ah1_0 y15 hy16) ?_
      rintro _ w33 ⟨rfl, c34⟩
      exact RL.nil ⟨_, rfl, c34, rfl⟩
     refine Each.consS (fun fl O wk hE hN hO ck => ?_) ?_
     ·
      refine Need.o1 rfl rfl rfl (fun _ h => h) ?_
      refine Need.o1 rfl rfl rfl (fun _ h => h) ?_
      refine rl_bin rfl rfl (eql88 y11 y15) rfl ?_
      exact RL.nil ⟨_, rfl, Ch.refl, rfl⟩
     refine Each.consS (fun fl O wk hE hN hO ck => ?_) ?_
     ·
      refine Need.o1 rfl rfl rfl (fun _ h => h) ?_
      refine rl_move rfl rfl ?_
      exact RL.nil ⟨_, rfl, Ch.refl, rfl⟩
     refine Each.consS (fun fl O wk hE hN hO ck => ?_) ?_
     ·
      refine Need.o1 rfl rfl rfl (fun _ h => h) ?_
      refine RL.yes rfl rfl rfl hg25 ?_
      refine rl_fieldAddr rfl fa50_1 rfl ?_
      exact RL.nil ⟨_, rfl, Ch.refl, rfl⟩
     refine Each.consS (fun fl O wk hE hN hO ck => ?_) ?_
     ·
      have k4 := k4.ch0 ck
      refine Need.o1 rfl rfl rfl (fun _ h => h) ?_
      refine Need.o1 rfl rfl rfl (fun _ h => h) ?_
      refine RL.yes rfl rfl rfl hg25 ?_
      refine rl_loadS (v := (Value.int .i64 a0.proto)) rfl Tryz.isAgg3 (k4.cell rfl) rfl ?_
      exact RL.nil ⟨_, rfl, Ch.refl, rfl⟩
     refine Each.consS (fun fl O wk hE hN hO ck => ?_) ?_
     ·
      refine Need.o1 rfl rfl rfl (fun _ h => h) ?_
      refine RL.yes rfl rfl rfl hg25 ?_
      refine rl_fieldAddr rfl fa50_1 rfl ?_
      exact RL.nil ⟨_, rfl, Ch.refl, rfl⟩
     refine Each.consS (fun fl O wk hE hN hO ck => ?_) ?_
     ·
      have k8 := k8.ch0 ck
      refine Need.o1 rfl rfl rfl (fun _ h => h) ?_
      refine Need.o1 rfl rfl rfl (fun _ h => h) ?_
      refine RL.yes rfl rfl rfl hg25 ?_
      refine rl_loadS (v := (Value.int .i64 a1.proto)) rfl Tryz.isAgg3 (k8.cell rfl) rfl ?_
      exact RL.nil ⟨_, rfl, Ch.refl, rfl⟩
     refine Each.consS (fun fl O wk hE hN hO ck => ?_) ?_
     ·
      refine Need.o1 rfl rfl rfl (fun _ h => h) ?_
      refine Need.o1 rfl rfl rfl (fun _ h => h) ?_
      refine Need.o1 rfl rfl rfl (fun _ h => h) ?_
      refine RL.yes rfl rfl rfl hg25 ?_
      refine rl_bin rfl rfl B.eql rfl ?_
      exact RL.nil ⟨_, rfl, Ch.refl, rfl⟩
     refine Each.consS (fun fl O wk hE hN hO ck => ?_) ?_
     ·
      refine Need.o1 rfl rfl rfl (fun _ h => h) ?_
      refine Need.o1 rfl rfl rfl (fun _ h => h) ?_
      refine rl_pickT rfl hg25 rfl rfl ?_
      exact RL.nil ⟨_, rfl, Ch.refl, congrArg Value.bool hs26⟩
     refine Each.consS (fun fl O wk hE hN hO ck => ?_) ?_
     ·
      refine Need.o1 rfl rfl rfl (fun _ h => h) ?_
      refine rl_move rfl rfl ?_
      exact RL.nil ⟨_, rfl, Ch.refl, rfl⟩
     refine Each.consS (fun fl O wk hE hN hO ck => ?_) ?_
     ·
      refine Need.o1 rfl rfl rfl (fun _ h => h) ?_
      refine RL.yes rfl rfl rfl hg27 ?_
      refine rl_fieldAddr rfl fa50_4 rfl ?_
      exact RL.nil ⟨_, rfl, Ch.refl, rfl⟩
     refine Each.consS (fun fl O wk hE hN hO ck => ?_) ?_
     ·
      have k4 := k4.ch0 ck
      refine Need.o1 rfl rfl rfl (fun _ h => h) ?_
      refine Need.o1 rfl rfl rfl (fun _ h => h) ?_
      refine RL.yes rfl rfl rfl hg27 ?_
      refine rl_loadS (v := az0_0) rfl Tryz.isAgg48 (k4.cell rfl) rfl ?_
      exact RL.nil ⟨_, rfl, Ch.refl, rfl⟩
     refine Each.consS (fun fl O wk hE hN hO ck => ?_) ?_
     ·
      refine Need.o1 rfl rfl rfl (fun _ h => h) ?_
      refine RL.yes rfl rfl rfl hg27 ?_
      refine rl_fieldAddr rfl fa50_4 rfl ?_
      exact RL.nil ⟨_, rfl, Ch.refl, rfl⟩
     refine Each.consS (fun fl O wk hE hN hO ck => ?_) ?_
     ·
      have k8 := k8.ch0 ck
      refine Need.o1 rfl rfl rfl (fun _ h => h) ?_
      refine Need.o1 rfl rfl rfl (fun _ h => h) ?_
      refine RL.yes rfl rfl rfl hg27 ?_
      refine rl_loadS (v := az1_0) rfl Tryz.isAgg48 (k8.cell rfl) rfl ?_
      exact RL.nil ⟨_, rfl, Ch.refl, rfl⟩
     refine Each.consS (fun fl O wk hE hN hO ck => ?_) ?_
     ·
      have ah0_0 := slRep.ch k_Point_pos ah0_0 ck
      have ah1_0 := slRep.ch k_Point_pos ah1_0 ck
      refine Need.o1 rfl rfl rfl (fun _ h => h) ?_
      refine Need.o1 rfl rfl rfl (fun _ h => h) ?_
      refine Need.o1 rfl rfl rfl (fun _ h => h) ?_
      refine RL.yes rfl rfl rfl hg27 ?_
      refine rl_callF rfl en59 rfl (ctr59t (G F w.heap.size nb) wk a0.points az0_0 ah0_0 a1.points az1_0 ah1_0 y21 hy22) ?_
      rintro _ w59 ⟨rfl, c60⟩
      exact RL.nil ⟨_, rfl, c60, rfl⟩
     refine Each.consS (fun fl O wk hE hN hO ck => ?_) ?_
     ·
      refine Need.o1 rfl rfl rfl (fun _ h => h) ?_
      refine Need.o1 rfl rfl rfl (fun _ h => h) ?_
      refine rl_pickT rfl hg27 rfl rfl ?_
      exact RL.nil ⟨_, rfl, Ch.refl, congrArg Value.bool hs28⟩
     trivial
    intro hvO65 OpO65 O65 w63 hO66 c64 hN67
    refine Need.o1 rfl rfl rfl (fun _ h => h) ?_
    refine rl_assign rfl rfl ?_
    exact RL.nil ⟨rfl, ⟨rfl, trivial⟩, c64⟩
   have hs69 := and_f hg27 hb24
   refine CW.draw 19 [(none, fun fx O uu wx => uu = (Value.agg (Group.c a0 az0_0).toArray)), (none, fun fx O uu wx => uu = (Value.agg (Id.enc y11).toArray)), (none, fun fx O uu wx => uu = (Value.agg (Group.c a1 az1_0).toArray)), (none, fun fx O uu wx => uu = (Value.agg (Id.enc y15).toArray)), (none, fun fx O uu wx => uu = (Value.bool (decide (y11 = y15)))), (none, fun fx O uu wx => uu = (Value.bool (decide (y11 = y15)))), (none, fun fx O uu wx => uu = (Value.pointer (some ⟨p1, 1, none⟩))), (none, fun fx O uu wx => uu = (Value.int .i64 a0.proto)), (none, fun fx O uu wx => uu = (Value.pointer (some ⟨p5, 1, none⟩))), (none, fun fx O uu wx => uu = (Value.int .i64 a1.proto)), (none, fun fx O uu wx => uu = (Value.bool (decide (a0.proto = a1.proto)))), (none, fun fx O uu wx => uu = (Value.bool b17)), (none, fun fx O uu wx => uu = (Value.bool b17)), (none, fun _ O uu wx => uu = undef), (none, fun _ O uu wx => uu = undef), (none, fun _ O uu wx => uu = undef), (none, fun _ O uu wx => uu = undef), (none, fun _ O uu wx => uu = undef), (none, fun fx O uu wx => uu = (Value.bool b23))] [[], [0], [], [2], [1, 3], [4], [5], [5, 6], [5], [5, 8], [5, 7, 9], [5, 10], [11], [12], [12], [12], [12], [12], [12]] [18] nb (fun _ h => h.elim) mixed rfl rfl rfl rfl ?_ ?_
   ·
    refine Each.consS (fun fl O wk hE hN hO ck => ?_) ?_
    ·
     have k4 := k4.ch0 ck
     refine rl_loadA (cs := (Group.c a0 az0_0)) rfl Tryz.isAgg50 Tryz.sizeOf50 (k4.segAt 0 5) rfl rfl ?_
     exact RL.nil ⟨_, rfl, Ch.refl, rfl⟩
    refine Each.consS (fun fl O wk hE hN hO ck => ?_) ?_
    ·
     have ah0_0 := slRep.ch k_Point_pos ah0_0 ck
     refine Need.o1 rfl rfl rfl (fun _ h => h) ?_
     refine rl_callF rfl en32 rfl (ctr32 (G F w.heap.size nb) wk a0 az0_0 ah0_0 y11 hy12) ?_
     rintro _ w71 ⟨rfl, c72⟩
     exact RL.nil ⟨_, rfl, c72, rfl⟩
    refine Each.consS (fun fl O wk hE hN hO ck => ?_) ?_
    ·
     have k8 := k8.ch0 ck
     refine rl_loadA (cs := (Group.c a1 az1_0)) rfl Tryz.isAgg50 Tryz.sizeOf50 (k8.segAt 0 5) rfl rfl ?_
     exact RL.nil ⟨_, rfl, Ch.refl, rfl⟩
    refine Each.consS (fun fl O wk hE hN hO ck => ?_) ?_
    ·
     have ah1_0 := slRep.ch k_Point_pos ah1_0 ck
     refine Need.o1 rfl rfl rfl (fun _ h => h) ?_
     refine rl_callF rfl en32 rfl (ctr32 (G F w.heap.size nb) wk a1 az1_0 ah1_0 y15 hy16) ?_
     rintro _ w74 ⟨rfl, c75⟩
     exact RL.nil ⟨_, rfl, c75, rfl⟩
    refine Each.consS (fun fl O wk hE hN hO ck => ?_) ?_
    ·
     refine Need.o1 rfl rfl rfl (fun _ h => h) ?_
     refine Need.o1 rfl rfl rfl (fun _ h => h) ?_
     refine rl_bin rfl rfl (eql88 y11 y15) rfl ?_
     exact RL.nil ⟨_, rfl, Ch.refl, rfl⟩
    refine Each.consS (fun fl O wk hE hN hO ck => ?_) ?_
    ·
     refine Need.o1 rfl rfl rfl (fun _ h => h) ?_
     refine rl_move rfl rfl ?_
     exact RL.nil ⟨_, rfl, Ch.refl, rfl⟩
    refine Each.consS (fun fl O wk hE hN hO ck => ?_) ?_
    ·
     refine Need.o1 rfl rfl rfl (fun _ h => h) ?_
     refine RL.yes rfl rfl rfl hg25 ?_
     refine rl_fieldAddr rfl fa50_1 rfl ?_
     exact RL.nil ⟨_, rfl, Ch.refl, rfl⟩
    refine Each.consS (fun fl O wk hE hN hO ck => ?_) ?_
    ·
     have k4 := k4.ch0 ck
     refine Need.o1 rfl rfl rfl (fun _ h => h) ?_
     refine Need.o1 rfl rfl rfl (fun _ h => h) ?_
     refine RL.yes rfl rfl rfl hg25 ?_
     refine rl_loadS (v := (Value.int .i64 a0.proto)) rfl Tryz.isAgg3 (k4.cell rfl) rfl ?_
     exact RL.nil ⟨_, rfl, Ch.refl, rfl⟩
    refine Each.consS (fun fl O wk hE hN hO ck => ?_) ?_
    ·
     refine Need.o1 rfl rfl rfl (fun _ h => h) ?_
     refine RL.yes rfl rfl rfl hg25 ?_
     refine rl_fieldAddr rfl fa50_1 rfl ?_
     exact RL.nil ⟨_, rfl, Ch.refl, rfl⟩
    refine Each.consS (fun fl O wk hE hN hO ck => ?_) ?_
    ·
     have k8 := k8.ch0 ck
     refine Need.o1 rfl rfl rfl (fun _ h => h) ?_
     refine Need.o1 rfl rfl rfl (fun _ h => h) ?_
     refine RL.yes rfl rfl rfl hg25 ?_
     refine rl_loadS (v := (Value.int .i64 a1.proto)) rfl Tryz.isAgg3 (k8.cell rfl) rfl ?_
     exact RL.nil ⟨_, rfl, Ch.refl, rfl⟩
    refine Each.consS (fun fl O wk hE hN hO ck => ?_) ?_
    ·
     refine Need.o1 rfl rfl rfl (fun _ h => h) ?_
     refine Need.o1 rfl rfl rfl (fun _ h => h) ?_
     refine Need.o1 rfl rfl rfl (fun _ h => h) ?_
     refine RL.yes rfl rfl rfl hg25 ?_
     refine rl_bin rfl rfl B.eql rfl ?_
     exact RL.nil ⟨_, rfl, Ch.refl, rfl⟩
    refine Each.consS (fun fl O wk hE hN hO ck => ?_) ?_
    ·
     refine Need.o1 rfl rfl rfl (fun _ h => h) ?_
     refine Need.o1 rfl rfl rfl (fun _ h => h) ?_
     refine rl_pickT rfl hg25 rfl rfl ?_
     exact RL.nil ⟨_, rfl, Ch.refl, congrArg Value.bool hs26⟩
    refine Each.consS (fun fl O wk hE hN hO ck => ?_) ?_
    ·
     refine Need.o1 rfl rfl rfl (fun _ h => h) ?_
     refine rl_move rfl rfl ?_
     exact RL.nil ⟨_, rfl, Ch.refl, rfl⟩
    refine Each.consS (fun fl O wk hE hN hO ck => ?_) ?_
    ·
     refine Need.o1 rfl rfl rfl (fun _ h => h) ?_
     refine RL.no rfl rfl rfl hg27 rfl rfl ?_
     exact RL.nil ⟨_, rfl, Ch.refl, rfl⟩
    refine Each.consS (fun fl O wk hE hN hO ck => ?_) ?_
    ·
     refine Need.o1 rfl rfl rfl (fun _ h => h) ?_
     refine RL.no rfl rfl rfl hg27 rfl rfl ?_
     exact RL.nil ⟨_, rfl, Ch.refl, rfl⟩
    refine Each.consS (fun fl O wk hE hN hO ck => ?_) ?_
    ·
     refine Need.o1 rfl rfl rfl (fun _ h => h) ?_
     refine RL.no rfl rfl rfl hg27 rfl rfl ?_
     exact RL.nil ⟨_, rfl, Ch.refl, rfl⟩
    refine Each.consS (fun fl O wk hE hN hO ck => ?_) ?_
    ·
     refine Need.o1 rfl rfl rfl (fun _ h => h) ?_
     refine RL.no rfl rfl rfl hg27 rfl rfl ?_
     exact RL.nil ⟨_, rfl, Ch.refl, rfl⟩
    refine Each.consS (fun fl O wk hE hN hO ck => ?_) ?_
    ·
     refine Need.o1 rfl rfl rfl (fun _ h => h) ?_
     refine RL.no rfl rfl rfl hg27 rfl rfl ?_
     exact RL.nil ⟨_, rfl, Ch.refl, rfl⟩
    refine Each.consS (fun fl O wk hE hN hO ck => ?_) ?_
    ·
     refine Need.o1 rfl rfl rfl (fun _ h => h) ?_
     refine rl_pickF rfl hg27 rfl rfl ?_
     exact RL.nil ⟨_, rfl, Ch.refl, congrArg Value.bool hs69⟩
    trivial
   intro hvO99 OpO99 O99 w97 hO100 c98 hN101
   refine Need.o1 rfl rfl rfl (fun _ h => h) ?_
   refine rl_assign rfl rfl ?_
   exact RL.nil ⟨rfl, ⟨rfl, trivial⟩, c98⟩
  have hs103 := and_f hg25 hb18
  have hs104 := and_f hs103.symm hb24
  refine CW.draw 19 [(none, fun fx O uu wx => uu = (Value.agg (Group.c a0 az0_0).toArray)), (none, fun fx O uu wx => uu = (Value.agg (Id.enc y11).toArray)), (none, fun fx O uu wx => uu = (Value.agg (Group.c a1 az1_0).toArray)), (none, fun fx O uu wx => uu = (Value.agg (Id.enc y15).toArray)), (none, fun fx O uu wx => uu = (Value.bool (decide (y11 = y15)))), (none, fun fx O uu wx => uu = (Value.bool (decide (y11 = y15)))), (none, fun _ O uu wx => uu = undef), (none, fun _ O uu wx => uu = undef), (none, fun _ O uu wx => uu = undef), (none, fun _ O uu wx => uu = undef), (none, fun _ O uu wx => uu = undef), (none, fun fx O uu wx => uu = (Value.bool b17)), (none, fun fx O uu wx => uu = (Value.bool b17)), (none, fun _ O uu wx => uu = undef), (none, fun _ O uu wx => uu = undef), (none, fun _ O uu wx => uu = undef), (none, fun _ O uu wx => uu = undef), (none, fun _ O uu wx => uu = undef), (none, fun fx O uu wx => uu = (Value.bool b23))] [[], [0], [], [2], [1, 3], [4], [5], [5], [5], [5], [5], [5], [11], [12], [12], [12], [12], [12], [12]] [18] nb (fun _ h => h.elim) mixed rfl rfl rfl rfl ?_ ?_
  ·
   refine Each.consS (fun fl O wk hE hN hO ck => ?_) ?_
   ·
    have k4 := k4.ch0 ck
    refine rl_loadA (cs := (Group.c a0 az0_0)) rfl Tryz.isAgg50 Tryz.sizeOf50 (k4.segAt 0 5) rfl rfl ?_
    exact RL.nil ⟨_, rfl, Ch.refl, rfl⟩
   refine Each.consS (fun fl O wk hE hN hO ck => ?_) ?_
   ·
    have ah0_0 := slRep.ch k_Point_pos ah0_0 ck
    refine Need.o1 rfl rfl rfl (fun _ h => h) ?_
    refine rl_callF rfl en32 rfl (ctr32 (G F w.heap.size nb) wk a0 az0_0 ah0_0 y11 hy12) ?_
    rintro _ w106 ⟨rfl, c107⟩
    exact RL.nil ⟨_, rfl, c107, rfl⟩
   refine Each.consS (fun fl O wk hE hN hO ck => ?_) ?_
   ·
    have k8 := k8.ch0 ck
    refine rl_loadA (cs := (Group.c a1 az1_0)) rfl Tryz.isAgg50 Tryz.sizeOf50 (k8.segAt 0 5) rfl rfl ?_
    exact RL.nil ⟨_, rfl, Ch.refl, rfl⟩
   refine Each.consS (fun fl O wk hE hN hO ck => ?_) ?_
   ·
    have ah1_0 := slRep.ch k_Point_pos ah1_0 ck
    refine Need.o1 rfl rfl rfl (fun _ h => h) ?_
    refine rl_callF rfl en32 rfl (ctr32 (G F w.heap.size nb) wk a1 az1_0 ah1_0 y15 hy16) ?_
    rintro _ w109 ⟨rfl, c110⟩
    exact RL.nil ⟨_, rfl, c110, rfl⟩
   refine Each.consS (fun fl O wk hE hN hO ck => ?_) ?_
   ·
    refine Need.o1 rfl rfl rfl (fun _ h => h) ?_
    refine Need.o1 rfl rfl rfl (fun _ h => h) ?_
    refine rl_bin rfl rfl (eql88 y11 y15) rfl ?_
    exact RL.nil ⟨_, rfl, Ch.refl, rfl⟩
   refine Each.consS (fun fl O wk hE hN hO ck => ?_) ?_
   ·
    refine Need.o1 rfl rfl rfl (fun _ h => h) ?_
    refine rl_move rfl rfl ?_
    exact RL.nil ⟨_, rfl, Ch.refl, rfl⟩
   refine Each.consS (fun fl O wk hE hN hO ck => ?_) ?_
   ·
    refine Need.o1 rfl rfl rfl (fun _ h => h) ?_
    refine RL.no rfl rfl rfl hg25 rfl rfl ?_
    exact RL.nil ⟨_, rfl, Ch.refl, rfl⟩
   refine Each.consS (fun fl O wk hE hN hO ck => ?_) ?_
   ·
    refine Need.o1 rfl rfl rfl (fun _ h => h) ?_
    refine RL.no rfl rfl rfl hg25 rfl rfl ?_
    exact RL.nil ⟨_, rfl, Ch.refl, rfl⟩
   refine Each.consS (fun fl O wk hE hN hO ck => ?_) ?_
   ·
    refine Need.o1 rfl rfl rfl (fun _ h => h) ?_
    refine RL.no rfl rfl rfl hg25 rfl rfl ?_
    exact RL.nil ⟨_, rfl, Ch.refl, rfl⟩
   refine Each.consS (fun fl O wk hE hN hO ck => ?_) ?_
   ·
    refine Need.o1 rfl rfl rfl (fun _ h => h) ?_
    refine RL.no rfl rfl rfl hg25 rfl rfl ?_
    exact RL.nil ⟨_, rfl, Ch.refl, rfl⟩
   refine Each.consS (fun fl O wk hE hN hO ck => ?_) ?_
   ·
    refine Need.o1 rfl rfl rfl (fun _ h => h) ?_
    refine RL.no rfl rfl rfl hg25 rfl rfl ?_
    exact RL.nil ⟨_, rfl, Ch.refl, rfl⟩
   refine Each.consS (fun fl O wk hE hN hO ck => ?_) ?_
   ·
    refine Need.o1 rfl rfl rfl (fun _ h => h) ?_
    refine rl_pickF rfl hg25 rfl rfl ?_
    exact RL.nil ⟨_, rfl, Ch.refl, congrArg Value.bool hs103⟩
   refine Each.consS (fun fl O wk hE hN hO ck => ?_) ?_
   ·
    refine Need.o1 rfl rfl rfl (fun _ h => h) ?_
    refine rl_move rfl rfl ?_
    exact RL.nil ⟨_, rfl, Ch.refl, rfl⟩
   refine Each.consS (fun fl O wk hE hN hO ck => ?_) ?_
   ·
    refine Need.o1 rfl rfl rfl (fun _ h => h) ?_
    refine RL.no rfl rfl rfl hs103.symm rfl rfl ?_
    exact RL.nil ⟨_, rfl, Ch.refl, rfl⟩
   refine Each.consS (fun fl O wk hE hN hO ck => ?_) ?_
   ·
    refine Need.o1 rfl rfl rfl (fun _ h => h) ?_
    refine RL.no rfl rfl rfl hs103.symm rfl rfl ?_
    exact RL.nil ⟨_, rfl, Ch.refl, rfl⟩
   refine Each.consS (fun fl O wk hE hN hO ck => ?_) ?_
   ·
    refine Need.o1 rfl rfl rfl (fun _ h => h) ?_
    refine RL.no rfl rfl rfl hs103.symm rfl rfl ?_
    exact RL.nil ⟨_, rfl, Ch.refl, rfl⟩
   refine Each.consS (fun fl O wk hE hN hO ck => ?_) ?_
   ·
    refine Need.o1 rfl rfl rfl (fun _ h => h) ?_
    refine RL.no rfl rfl rfl hs103.symm rfl rfl ?_
    exact RL.nil ⟨_, rfl, Ch.refl, rfl⟩
   refine Each.consS (fun fl O wk hE hN hO ck => ?_) ?_
   ·
    refine Need.o1 rfl rfl rfl (fun _ h => h) ?_
    refine RL.no rfl rfl rfl hs103.symm rfl rfl ?_
    exact RL.nil ⟨_, rfl, Ch.refl, rfl⟩
   refine Each.consS (fun fl O wk hE hN hO ck => ?_) ?_
   ·
    refine Need.o1 rfl rfl rfl (fun _ h => h) ?_
    refine rl_pickF rfl hs103.symm rfl rfl ?_
    exact RL.nil ⟨_, rfl, Ch.refl, congrArg Value.bool hs104⟩
   trivial
  intro hvO129 OpO129 O129 w127 hO130 c128 hN131
  refine Need.o1 rfl rfl rfl (fun _ h => h) ?_
  refine rl_assign rfl rfl ?_
  exact RL.nil ⟨rfl, ⟨rfl, trivial⟩, c128⟩
 rintro _ w134 ⟨hE133, c135⟩
 have c0 := c0.then0 c135
 refine thn_n (CW.sub [(4, (Value.bool b23))] hE133 ?_)
 refine CW.ret ?_
 obtain rfl := hS
 exact ret1 rfl ⟨rfl, c0⟩
/-- lb/resolve.Same -/
theorem ctr18 (F : Nat → Prop) (w : World) (a0 : Resolved) (az0_0 az0_1 : Value) (ah0_0 : slRep k_Face F w a0.faces az0_0) (ah0_1 : slRep k_Group F w a0.groups az0_1) (a1 : Resolved) (az1_0 az1_1 : Value) (ah1_0 : slRep k_Face F w a1.faces az1_0) (ah1_1 : slRep k_Group F w a1.groups az1_1) (r : Bool) (hs : F18_Same a0 a1 = some r) :
    Ret Tryz.prog 18 #[(Value.agg (Resolved.c a0 az0_0 az0_1).toArray), (Value.agg (Resolved.c a1 az1_0 az1_1).toArray)] w fun v w' => v = (Value.bool r) ∧ Ch nb w w' := by
 have hS := hs
 have c0 : Ch nb w w := Ch.refl
 have ah0_0 := slRep.enter k_Face_pos ah0_0
 have ah0_1 := slRep.enter k_Group_pos ah0_1
 have ah1_0 := slRep.enter k_Face_pos ah1_0
 have ah1_1 := slRep.enter k_Group_pos ah1_1
 refine Ret.of (n := 24) (args := [_, _]) (rs := [.tmp 4]) Tryz.func18 rfl rfl rfl rfl ?_
 refine CW.seq (CW.region ?_)
 refine rl_boxA (cs := (Resolved.c a0 az0_0 az0_1)) rfl rfl ?_
 intro p1 w2 n3 k4
 have ah0_0 := slRep.ch k_Face_pos ah0_0 n3.ch
 have ah0_1 := slRep.ch k_Group_pos ah0_1 n3.ch
 have ah1_0 := slRep.ch k_Face_pos ah1_0 n3.ch
 have ah1_1 := slRep.ch k_Group_pos ah1_1 n3.ch
 have c0 := c0.then0 n3.ch
 refine rl_boxA (cs := (Resolved.c a1 az1_0 az1_1)) rfl rfl ?_
 intro p5 w6 n7 k8
 have ah0_0 := slRep.ch k_Face_pos ah0_0 n7.ch
 have ah0_1 := slRep.ch k_Group_pos ah0_1 n7.ch
 have ah1_0 := slRep.ch k_Face_pos ah1_0 n7.ch
 have ah1_1 := slRep.ch k_Group_pos ah1_1 n7.ch
 have k4 := k4.ch0 n7.ch
 have c0 := c0.then0 n7.ch
 refine rl_assign rfl rfl ?_
 refine RL.nil (thn_n (CW.seq (CW.region ?_)))
 refine rl_fieldAddr rfl fa39_0 rfl ?_
 refine rl_loadA (cs := (Key.enc a0.key)) rfl Tryz.isAgg23 Tryz.sizeOf23 (k4.segAt 0 2) rfl rfl ?_
 refine rl_fieldAddr rfl fa39_0 rfl ?_
 refine rl_loadA (cs := (Key.enc a1.key)) rfl Tryz.isAgg23 Tryz.sizeOf23 (k8.segAt 0 2) rfl rfl ?_
 refine rl_bin rfl rfl (eql23 a0.key a1.key) rfl ?_
 refine rl_move rfl rfl ?_
 obtain ⟨b11, hb12⟩ : ∃ v, ((decide (a0.key = a1.key)) && (lt (F41_Face_t a0.faces a1.faces) fun y13 => y13)) = v := ⟨_, rfl⟩
 have hS := ltS hb12 hS
 refine RL.join 6 16 (.bool b11) (fun w' => Ch nb w6 w') ?_ ?_
 · rcases Bool.eq_false_or_eq_true (decide (a0.key = a1.key)) with hg10 | hg10
   ·
    have hs9 := and_t hg10 hb12
    have cs : Ch nb w6 w6 := Ch.refl
    refine RL.yes rfl rfl rfl hg10 ?_
    refine rl_fieldAddr rfl fa39_1 rfl ?_
    refine RL.yes rfl rfl rfl hg10 ?_
    refine rl_loadS (v := az0_0) rfl Tryz.isAgg36 (k4.cell rfl) rfl ?_
    refine RL.yes rfl rfl rfl hg10 ?_
    refine rl_fieldAddr rfl fa39_1 rfl ?_
    refine RL.yes rfl rfl rfl hg10 ?_
    refine rl_loadS (v := az1_0) rfl Tryz.isAgg36 (k8.cell rfl) rfl ?_
    refine RL.yes rfl rfl rfl hg10 ?_
    obtain ⟨y16, hy17⟩ : ∃ y, F41_Face_t a0.faces a1.faces = y := ⟨_, rfl⟩
    have hs9 := ltS hy17 hs9
    refine rl_callF rfl en41 rfl (ctr41t (G F w.heap.size nb) w6 a0.faces az0_0 ah0_0 a1.faces az1_0 ah1_0 y16 hy17) ?_
    rintro _ w14 ⟨rfl, c15⟩
    refine rl_pickT rfl hg10 rfl rfl ?_
    have cs := cs.then0 c15
    exact RL.nil ⟨Ext.bothEq (congrArg Value.bool hs9) (Ext.skip rfl (Ext.skip rfl (Ext.skip rfl (Ext.skip rfl (Ext.skip rfl (Ext.rfl')))))), cs⟩
   ·
    have hs9 := and_f hg10 hb12
    have cs : Ch nb w6 w6 := Ch.refl
    refine RL.no rfl rfl rfl hg10 rfl rfl ?_
    refine RL.no rfl rfl rfl hg10 rfl rfl ?_
    refine RL.no rfl rfl rfl hg10 rfl rfl ?_
    refine RL.no rfl rfl rfl hg10 rfl rfl ?_
    refine RL.no rfl rfl rfl hg10 rfl rfl ?_
    refine rl_pickF rfl hg10 rfl rfl ?_
    exact RL.nil ⟨Ext.bothEq (congrArg Value.bool hs9) (Ext.skip rfl (Ext.skip rfl (Ext.skip rfl (Ext.skip rfl (Ext.skip rfl (Ext.rfl')))))), cs⟩
 intro w13 c18
 have ah0_1 := slRep.ch k_Group_pos ah0_1 c18
 have ah1_1 := slRep.ch k_Group_pos ah1_1 c18
 have k4 := k4.ch0 c18
 have k8 := k8.ch0 c18
 have c0 := c0.then0 c18
 refine rl_move rfl rfl ?_
 obtain ⟨b21, hb22, hS⟩ := bindS hS
 refine RL.join 6 23 (.bool b21) (fun w' => Ch nb w13 w') ?_ ?_
 · rcases Bool.eq_false_or_eq_true b11 with hg20 | hg20
   ·
    have hs19 := andO_t hg20 hb22
    have cs : Ch nb w13 w13 := Ch.refl
    refine RL.yes rfl rfl rfl hg20 ?_
    refine rl_fieldAddr rfl fa39_2 rfl ?_
    refine RL.yes rfl rfl rfl hg20 ?_
    refine rl_loadS (v := az0_1) rfl Tryz.isAgg37 (k4.cell rfl) rfl ?_
    refine RL.yes rfl rfl rfl hg20 ?_
    refine rl_fieldAddr rfl fa39_2 rfl ?_
    refine RL.yes rfl rfl rfl hg20 ?_
    refine rl_loadS (v := az1_1) rfl Tryz.isAgg37 (k8.cell rfl) rfl ?_
    refine RL.yes rfl rfl rfl hg20 ?_
    obtain ⟨y26, hy27, hs19⟩ := bindS hs19
    refine rl_callF rfl en42 rfl (ctr42 (G F w.heap.size nb) w13 a0.groups az0_1 ah0_1 a1.groups az1_1 ah1_1 (fun x0 x1 => F43_sameGrou x0 x1) (Value.func (.func 43) #[] [].toArray) (show (Kd.fn2 Tryz.prog true true k_Group k_Group Value.bool).rep (G F w.heap.size nb) w13 (fun x0 x1 => F43_sameGrou x0 x1) [(Value.func (.func 43) #[] [].toArray)] from ⟨43, [], rfl, en43, fun w' hw F' x0 x1 c0 c1 hx0 hx1 => by
        obtain ⟨u0_0, rfl, e0_0⟩ := hx0
        obtain ⟨u1_0, rfl, e1_0⟩ := hx1
        exact (ctr43 (fun b => (G F w.heap.size nb) b ∨ F' b) w' x0 u0_0 (slRep.wk k_Point_pos e0_0 fun _ _ h => .inr h) x1 u1_0 (slRep.wk k_Point_pos e1_0 fun _ _ h => .inr h) _ rfl).mono (by rintro v w'' ⟨rfl, c⟩; exact ⟨rfl, c⟩)⟩) y26 hy27) ?_
    rintro _ w24 ⟨rfl, c25⟩
    refine rl_pickT rfl hg20 rfl rfl ?_
    have cs := cs.then0 c25
    exact RL.nil ⟨Ext.bothEq (congrArg Value.bool (Option.some.inj hs19)) (Ext.skip rfl (Ext.skip rfl (Ext.skip rfl (Ext.skip rfl (Ext.skip rfl (Ext.rfl')))))), cs⟩
   ·
    have hs19 := andO_f hg20 hb22
    have cs : Ch nb w13 w13 := Ch.refl
    refine RL.no rfl rfl rfl hg20 rfl rfl ?_
    refine RL.no rfl rfl rfl hg20 rfl rfl ?_
    refine RL.no rfl rfl rfl hg20 rfl rfl ?_
    refine RL.no rfl rfl rfl hg20 rfl rfl ?_
    refine RL.no rfl rfl rfl hg20 rfl rfl ?_
    refine rl_pickF rfl hg20 rfl rfl ?_
    exact RL.nil ⟨Ext.bothEq (congrArg Value.bool (Option.some.inj hs19)) (Ext.skip rfl (Ext.skip rfl (Ext.skip rfl (Ext.skip rfl (Ext.skip rfl (Ext.rfl')))))), cs⟩
 intro w23 c28
 have c0 := c0.then0 c28
 refine rl_assign rfl rfl ?_
 refine RL.nil (thn_n (CW.ret ?_))
 obtain rfl := Option.some.inj hS
 exact ret1 rfl ⟨rfl, c0⟩
/-- lb/lbref20.Same -/
theorem ctr39 (F : Nat → Prop) (w : World) (a0 : (List Face)) (av0 : Value) (ah0 : slRep k_Face F w a0 av0) (a1 : (List Face)) (av1 : Value) (ah1 : slRep k_Face F w a1 av1) (r : Bool) (hs : F39_Same a0 a1 = some r) :
    Ret Tryz.prog 39 #[av0, av1] w fun v w' => v = (Value.bool r) ∧ Ch nb w w' := by
 have hS := hs
 have c0 : Ch nb w w := Ch.refl
 have ah0 := slRep.enter k_Face_pos ah0
 have ah1 := slRep.enter k_Face_pos ah1
 refine Ret.of (n := 26) (args := [_, _]) (rs := [.tmp 4]) Tryz.func39 rfl rfl rfl rfl ?_
 refine CW.seq (CW.region ?_)
 refine rl_assign rfl rfl ?_
 refine RL.nil (thn_n (CW.seq ?_))
 refine CW.seq (CW.region ?_)
 refine rl_move rfl rfl ?_
 refine rl_lenR rfl ah0 Tryz.underlying54 rfl ?_
 refine rl_move rfl rfl ?_
 refine rl_lenR rfl ah1 Tryz.underlying54 rfl ?_
 refine rl_bin rfl rfl B.neq rfl ?_
 refine RL.nil (thn_n ?_)
 refine CW.cond (t := !decide (((a0.length : Nat) : Int) = ((a1.length : Nat) : Int))) rfl (fun q1 => ?_) (fun q1 => ?_)
 ·
  have hS := ifT q1 hS
  refine CW.seq (CW.region ?_)
  refine rl_assign rfl rfl ?_
  refine RL.nil (thn_n (CW.ret ?_))
  refine thn_ret ?_
  obtain rfl := Option.some.inj hS
  exact ret1 rfl ⟨rfl, c0⟩
 have hS := ifF q1 hS
 refine CW.skip ?_
 refine thn_n (CW.seq ?_)
 refine CW.seq (CW.region ?_)
 refine rl_move rfl rfl ?_
 refine rl_lenR rfl ah0 Tryz.underlying54 rfl ?_
 refine rl_move rfl rfl ?_
 refine RL.nil (thn_n ?_)
 obtain ⟨o9, ho10, hS⟩ := bindS hS
 refine CW.cutB (fun E' w' => ∃ (ix16 : Nat), Sub [] E' ∧ Ch nb w w' ∧ Lp.fin ix16 = o9 ∧ slRep k_Face (G F w.heap.size nb) w' a0 av0 ∧ slRep k_Face (G F w.heap.size nb) w' a1 av1) ?_ ?_
 ·
  refine CW.loopS [(0, av0), (1, av1), (12, (Value.int .i64 ((a0.length : Nat) : Int))), (13, (Value.int .i64 ((0 : Nat) : Int)))] ⟨rfl, rfl, rfl, rfl, trivial⟩ a0.length (fun m E w' => ∃ (rest2 : List Face) (i3 : Nat) , m = rest2.length ∧ E = [(0, av0), (1, av1), (12, (Value.int .i64 ((a0.length : Nat) : Int))), (13, (Value.int .i64 ((i3 : Nat) : Int)))] ∧ Ch nb w w' ∧ At a0 i3 rest2 ∧ runBO (F39_Same_b1 a1) rest2 i3 = some o9 ∧ slRep k_Face (G F w.heap.size nb) w' a0 av0 ∧ slRep k_Face (G F w.heap.size nb) w' a1 av1)
      ⟨a0, 0, rfl, rfl, c0, At.start, ho10, ah0, ah1⟩ ?_
  rintro _ _ w15 ⟨rest2, i3, rfl, rfl, c14, hat5, hL4, ah0, ah1⟩
  refine CW.seq (CW.region ?_)
  refine rl_bin rfl rfl B.lss rfl ?_
  refine RL.nil (thn_n ?_)
  refine CW.seq ?_
  refine CW.cond (t := decide (((i3 : Nat) : Int) < ((a0.length : Nat) : Int))) rfl (fun q17 => ?_) (fun q17 => ?_)
  ·
   obtain ⟨x11, rest18, rfl⟩ := hat5.cons q17
   obtain ⟨q6, hq7⟩ := runBO_some hL4
   have hb8 := hq7
   refine CW.skip (thn_n ?_)
   refine CW.seq ?_
   refine CW.block ?_
   refine CW.seq (CW.region ?_)
   refine rl_move rfl rfl ?_
   refine rl_assign rfl rfl ?_
   refine RL.nil (thn_n (CW.seq ?_))
   obtain ⟨y31, hy32, hb8⟩ := bindS hb8
   refine CW.draw 8 [(none, fun fx O uu wx => uu = av0), (none, fun fx O uu wx => uu = (Value.int .i64 ((i3 : Nat) : Int))), (none, fun fx O uu wx => ∃ (p19 : Nat) (o20 : Nat), uu = (Value.pointer (some ⟨p19, o20, none⟩)) ∧ (G F w.heap.size nb) p19 ∧ Seg wx p19 o20 (Face.enc x11)), (none, fun fx O uu wx => uu = (Value.agg (Face.enc x11).toArray)), (none, fun fx O uu wx => uu = av1), (none, fun fx O uu wx => uu = (Value.int .i64 ((i3 : Nat) : Int))), (none, fun fx O uu wx => ∃ (p25 : Nat) (o26 : Nat), uu = (Value.pointer (some ⟨p25, o26, none⟩)) ∧ (G F w.heap.size nb) p25 ∧ Seg wx p25 o26 (Face.enc y31)), (none, fun fx O uu wx => uu = (Value.agg (Face.enc y31).toArray))] [[], [], [0, 1], [2], [], [], [4, 5], [6]] [3, 7] nb (fun _ h => h.elim) mixed rfl rfl rfl rfl ?_ ?_
   ·
    refine Each.consS (fun fl O wk hE hN hO ck => ?_) ?_
    ·
     refine rl_move rfl rfl ?_
     exact RL.nil ⟨_, rfl, Ch.refl, rfl⟩
    refine Each.consS (fun fl O wk hE hN hO ck => ?_) ?_
    ·
     refine rl_move rfl rfl ?_
     exact RL.nil ⟨_, rfl, Ch.refl, rfl⟩
    refine Each.consA ⟨fun _ _ _ _ _ cc hh => by obtain ⟨p19, o20, e, hg24, hs23⟩ := hh; exact ⟨p19, o20, e, hg24, hs23.ch0 cc⟩, fun h => absurd rfl h, fun fl O wk hE hN hO ck => ?_⟩ ?_
    ·
     have ah0 := slRep.ch k_Face_pos ah0 ck
     refine Need.o1 rfl rfl rfl (fun _ h => h) ?_
     refine Need.o1 rfl rfl rfl (fun _ h => h) ?_
     refine rl_ixR rfl ah0 rfl hat5.get Tryz.underlying54 Tryz.sizeOf101 rfl ?_
     intro p35 o36 cs37 hr38 hs39 hg40
     obtain rfl := hr38
     exact RL.nil ⟨_, rfl, Ch.refl, ⟨p35, o36, rfl, hg40, hs39⟩⟩
    refine Each.consS (fun fl O wk hE hN hO ck => ?_) ?_
    ·
     refine Need.one rfl rfl rfl ?_
     rintro _ ⟨p19, o20, e41, hg24, hs23⟩
     obtain rfl := e41.symm
     refine rl_loadA (cs := (Face.enc x11)) rfl Tryz.isAgg101 Tryz.sizeOf101 (hs23) rfl rfl ?_
     exact RL.nil ⟨_, rfl, Ch.refl, rfl⟩
    refine Each.consS (fun fl O wk hE hN hO ck => ?_) ?_
    ·
     refine rl_move rfl rfl ?_
     exact RL.nil ⟨_, rfl, Ch.refl, rfl⟩
    refine Each.consS (fun fl O wk hE hN hO ck => ?_) ?_
    ·
     refine rl_move rfl rfl ?_
     exact RL.nil ⟨_, rfl, Ch.refl, rfl⟩
    refine Each.consA ⟨fun _ _ _ _ _ cc hh => by obtain ⟨p25, o26, e, hg30, hs29⟩ := hh; exact ⟨p25, o26, e, hg30, hs29.ch0 cc⟩, fun h => absurd rfl h, fun fl O wk hE hN hO ck => ?_⟩ ?_
    ·
     have ah1 := slRep.ch k_Face_pos ah1 ck
     refine Need.o1 rfl rfl rfl (fun _ h => h) ?_
     refine Need.o1 rfl rfl rfl (fun _ h => h) ?_
     refine rl_ixR rfl ah1 rfl (ixO_nat hy32) Tryz.underlying54 Tryz.sizeOf101 rfl ?_
     intro p44 o45 cs46 hr47 hs48 hg49
     obtain rfl := hr47
     exact RL.nil ⟨_, rfl, Ch.refl, ⟨p44, o45, rfl, hg49, hs48⟩⟩
    refine Each.consS (fun fl O wk hE hN hO ck => ?_) ?_
    ·
     refine Need.one rfl rfl rfl ?_
     rintro _ ⟨p25, o26, e50, hg30, hs29⟩
     obtain rfl := e50.symm
     refine rl_loadA (cs := (Face.enc y31)) rfl Tryz.isAgg101 Tryz.sizeOf101 (hs29) rfl rfl ?_
     exact RL.nil ⟨_, rfl, Ch.refl, rfl⟩
    trivial
   intro hvO53 OpO53 O53 w51 hO54 c52 hN55
   have ah0 := slRep.ch k_Face_pos ah0 c52
   have ah1 := slRep.ch k_Face_pos ah1 c52
   have c14 := c14.then0 c52
   refine Need.o1 rfl rfl rfl (fun _ h => h) ?_
   refine Need.o1 rfl rfl rfl (fun _ h => h) ?_
   refine rl_bin rfl rfl (neq101 x11 y31) rfl ?_
   refine RL.nil (thn_n ?_)
   refine CW.cond (t := !decide (x11 = y31)) rfl (fun q58 => ?_) (fun q58 => ?_)
   ·
    have hb8 := ifT q58 hb8
    refine CW.seq (CW.region ?_)
    refine rl_assign rfl rfl ?_
    refine RL.nil (thn_n (CW.ret ?_))
    refine inB_ret ?_
    refine thn_ret ?_
    refine thn_ret (inB_ret (thn_ret ?_))
    refine thn_ret ?_
    have f59 := runBO_ret hL4 hq7 hb8
    have hS := retS f59 hS
    obtain rfl := Option.some.inj hS
    exact ret1 rfl ⟨rfl, c14⟩
   have hb8 := ifF q58 hb8
   refine CW.skip ?_
   refine inB_n ?_
   refine thn_n (CW.region ?_)
   refine rl_inc rfl hat5.lt ah0.big rfl ?_
   refine rl_move rfl rfl ?_
   refine RL.nil (thn_n ?_)
   have hLn := runBO_next hL4 hq7 hb8
   exact ⟨rest18.length, Nat.lt_succ_self _, [(0, av0), (1, av1), (12, (Value.int .i64 ((a0.length : Nat) : Int))), (13, (Value.int .i64 ((i3 + 1 : Nat) : Int)))], ⟨rfl, rfl, rfl, rfl, trivial⟩, ⟨rest18, i3 + 1, rfl, rfl, c14, hat5.next, hLn, ah0, ah1⟩⟩
  obtain rfl := hat5.nil q17
  have hLf : Lp.fin i3 = o9 := runBO_done hL4
  refine CW.exit (thn_exit (thn_exit (inB_hit ?_)))
  exact ⟨i3, trivial, c14, hLf, ah0, ah1⟩
 rintro _ w61 ⟨ix16, hE62, c60, f63, ah0, ah1⟩
 have hS := finS f63 hS
 refine thn_n (CW.sub [] hE62 ?_)
 refine CW.seq (CW.region ?_)
 refine rl_assign rfl rfl ?_
 refine RL.nil (thn_n (CW.ret ?_))
 obtain rfl := Option.some.inj hS
 exact ret1 rfl ⟨rfl, c60⟩
/-- lb/lbref21.Same -/
theorem ctr16 (F : Nat → Prop) (w : World) (a0 : Resolved) (az0_0 az0_1 : Value) (ah0_0 : slRep k_Face F w a0.faces az0_0) (ah0_1 : slRep k_Group F w a0.groups az0_1) (a1 : Resolved) (az1_0 az1_1 : Value) (ah1_0 : slRep k_Face F w a1.faces az1_0) (ah1_1 : slRep k_Group F w a1.groups az1_1) (r : Bool) (hs : F16_Same a0 a1 = some r) :
    Ret Tryz.prog 16 #[(Value.agg (Resolved.c a0 az0_0 az0_1).toArray), (Value.agg (Resolved.c a1 az1_0 az1_1).toArray)] w fun v w' => v = (Value.bool r) ∧ Ch nb w w' := by
 have hS := hs
 have c0 : Ch nb w w := Ch.refl
 have ah0_0 := slRep.enter k_Face_pos ah0_0
 have ah0_1 := slRep.enter k_Group_pos ah0_1
 have ah1_0 := slRep.enter k_Face_pos ah1_0
 have ah1_1 := slRep.enter k_Group_pos ah1_1
 refine Ret.of (n := 78) (args := [_, _]) (rs := [.tmp 4]) Tryz.func16 rfl rfl rfl rfl ?_
 refine CW.seq (CW.region ?_)
 refine rl_boxA (cs := (Resolved.c a0 az0_0 az0_1)) rfl rfl ?_
 intro p1 w2 n3 k4
 have gp1 : (G F w.heap.size nb) p1 := ⟨.inr (by rw [n3.eq]; exact c0.size), fun h => absurd (nbS _ h) (by rw [n3.eq]; exact Nat.lt_irrefl _)⟩
 have ah0_0 := slRep.ch k_Face_pos ah0_0 n3.ch
 have ah0_1 := slRep.ch k_Group_pos ah0_1 n3.ch
 have ah1_0 := slRep.ch k_Face_pos ah1_0 n3.ch
 have ah1_1 := slRep.ch k_Group_pos ah1_1 n3.ch
 have c0 := c0.then0 n3.ch
 refine rl_boxA (cs := (Resolved.c a1 az1_0 az1_1)) rfl rfl ?_
 intro p5 w6 n7 k8
 have gp5 : (G F w.heap.size nb) p5 := ⟨.inr (by rw [n7.eq]; exact c0.size), fun h => absurd (nbS _ h) (by rw [n7.eq]; exact Nat.lt_irrefl _)⟩
 have ah0_0 := slRep.ch k_Face_pos ah0_0 n7.ch
 have ah0_1 := slRep.ch k_Group_pos ah0_1 n7.ch
 have ah1_0 := slRep.ch k_Face_pos ah1_0 n7.ch
 have ah1_1 := slRep.ch k_Group_pos ah1_1 n7.ch
 have k4 := k4.ch0 n7.ch
 have c0 := c0.then0 n7.ch
 refine rl_assign rfl rfl ?_
 refine RL.nil (thn_n (CW.seq ?_))
 refine CW.seq (CW.region ?_)
 refine rl_fieldAddr rfl fa57_0 rfl ?_
 refine rl_loadA (cs := (Key.enc a0.key)) rfl Tryz.isAgg23 Tryz.sizeOf23 (k4.segAt 0 2) rfl rfl ?_
 refine rl_fieldAddr rfl fa57_0 rfl ?_
 refine rl_loadA (cs := (Key.enc a1.key)) rfl Tryz.isAgg23 Tryz.sizeOf23 (k8.segAt 0 2) rfl rfl ?_
 refine rl_bin rfl rfl (neq23 a0.key a1.key) rfl ?_
 refine rl_move rfl rfl ?_
 obtain ⟨b11, hb12, hS⟩ := bindS hS
 refine RL.join 7 20 (.bool b11) (fun w' => Ch nb w6 w') ?_ ?_
 · rcases Bool.eq_false_or_eq_true (!decide (a0.key = a1.key)) with hg10 | hg10
   ·
    have hs9 := orO_t hg10 hb12
    have cs : Ch nb w6 w6 := Ch.refl
    refine RL.no rfl rfl rfl hg10 rfl rfl ?_
    refine RL.no rfl rfl rfl hg10 rfl rfl ?_
    refine RL.no rfl rfl rfl hg10 rfl rfl ?_
    refine RL.no rfl rfl rfl hg10 rfl rfl ?_
    refine RL.no rfl rfl rfl hg10 rfl rfl ?_
    refine RL.no rfl rfl rfl hg10 rfl rfl ?_
    refine rl_pickT rfl hg10 rfl rfl ?_
    exact RL.nil ⟨Ext.bothEq (congrArg Value.bool (Option.some.inj hs9)) (Ext.skip rfl (Ext.skip rfl (Ext.skip rfl (Ext.skip rfl (Ext.skip rfl (Ext.skip rfl (Ext.rfl'))))))), cs⟩
   ·
    have hs9 := orO_f hg10 hb12
    have cs : Ch nb w6 w6 := Ch.refl
    refine RL.yes rfl rfl rfl hg10 ?_
    refine rl_fieldAddr rfl fa57_1 rfl ?_
    refine RL.yes rfl rfl rfl hg10 ?_
    refine rl_loadS (v := az0_0) rfl Tryz.isAgg54 (k4.cell rfl) rfl ?_
    refine RL.yes rfl rfl rfl hg10 ?_
    refine rl_fieldAddr rfl fa57_1 rfl ?_
    refine RL.yes rfl rfl rfl hg10 ?_
    refine rl_loadS (v := az1_0) rfl Tryz.isAgg54 (k8.cell rfl) rfl ?_
    refine RL.yes rfl rfl rfl hg10 ?_
    obtain ⟨y16, hy17, hs9⟩ := bindS hs9
    refine rl_callF rfl en39 rfl (ctr39 (G F w.heap.size nb) w6 a0.faces az0_0 ah0_0 a1.faces az1_0 ah1_0 y16 hy17) ?_
    rintro _ w14 ⟨rfl, c15⟩
    refine RL.yes rfl rfl rfl hg10 ?_
    refine rl_not rfl rfl ?_
    refine rl_pickF rfl hg10 rfl rfl ?_
    have cs := cs.then0 c15
    exact RL.nil ⟨Ext.bothEq (congrArg Value.bool (Option.some.inj hs9)) (Ext.skip rfl (Ext.skip rfl (Ext.skip rfl (Ext.skip rfl (Ext.skip rfl (Ext.skip rfl (Ext.rfl'))))))), cs⟩
 intro w13 c18
 have ah0_0 := slRep.ch k_Face_pos ah0_0 c18
 have ah0_1 := slRep.ch k_Group_pos ah0_1 c18
 have ah1_0 := slRep.ch k_Face_pos ah1_0 c18
 have ah1_1 := slRep.ch k_Group_pos ah1_1 c18
 have k4 := k4.ch0 c18
 have k8 := k8.ch0 c18
 have c0 := c0.then0 c18
 refine rl_move rfl rfl ?_
 obtain ⟨b21, hb22⟩ : ∃ v, (b11 || (!decide (((a0.groups.length : Nat) : Int) = ((a1.groups.length : Nat) : Int)))) = v := ⟨_, rfl⟩
 have hS := ltS hb22 hS
 refine RL.join 8 29 (.bool b21) (fun w' => Ch nb w13 w') ?_ ?_
 · rcases Bool.eq_false_or_eq_true b11 with hg20 | hg20
   ·
    have hs19 := or_t hg20 hb22
    have cs : Ch nb w13 w13 := Ch.refl
    refine RL.no rfl rfl rfl hg20 rfl rfl ?_
    refine RL.no rfl rfl rfl hg20 rfl rfl ?_
    refine RL.no rfl rfl rfl hg20 rfl rfl ?_
    refine RL.no rfl rfl rfl hg20 rfl rfl ?_
    refine RL.no rfl rfl rfl hg20 rfl rfl ?_
    refine RL.no rfl rfl rfl hg20 rfl rfl ?_
    refine RL.no rfl rfl rfl hg20 rfl rfl ?_
    refine rl_pickT rfl hg20 rfl rfl ?_
    exact RL.nil ⟨Ext.bothEq (congrArg Value.bool hs19) (Ext.skip rfl (Ext.skip rfl (Ext.skip rfl (Ext.skip rfl (Ext.skip rfl (Ext.skip rfl (Ext.skip rfl (Ext.rfl')))))))), cs⟩
   ·
    have hs19 := or_f hg20 hb22
    have cs : Ch nb w13 w13 := Ch.refl
    refine RL.yes rfl rfl rfl hg20 ?_
    refine rl_fieldAddr rfl fa57_2 rfl ?_
    refine RL.yes rfl rfl rfl hg20 ?_
    refine rl_loadS (v := az0_1) rfl Tryz.isAgg55 (k4.cell rfl) rfl ?_
    refine RL.yes rfl rfl rfl hg20 ?_
    refine rl_lenR rfl ah0_1 Tryz.underlying55 rfl ?_
    refine RL.yes rfl rfl rfl hg20 ?_
    refine rl_fieldAddr rfl fa57_2 rfl ?_
    refine RL.yes rfl rfl rfl hg20 ?_
    refine rl_loadS (v := az1_1) rfl Tryz.isAgg55 (k8.cell rfl) rfl ?_
    refine RL.yes rfl rfl rfl hg20 ?_
    refine rl_lenR rfl ah1_1 Tryz.underlying55 rfl ?_
    refine RL.yes rfl rfl rfl hg20 ?_
    refine rl_bin rfl rfl B.neq rfl ?_
    refine rl_pickF rfl hg20 rfl rfl ?_
    exact RL.nil ⟨Ext.bothEq (congrArg Value.bool hs19) (Ext.skip rfl (Ext.skip rfl (Ext.skip rfl (Ext.skip rfl (Ext.skip rfl (Ext.skip rfl (Ext.skip rfl (Ext.rfl')))))))), cs⟩
 intro w23 c24
 have ah0_0 := slRep.ch k_Face_pos ah0_0 c24
 have ah0_1 := slRep.ch k_Group_pos ah0_1 c24
 have ah1_0 := slRep.ch k_Face_pos ah1_0 c24
 have ah1_1 := slRep.ch k_Group_pos ah1_1 c24
 have k4 := k4.ch0 c24
 have k8 := k8.ch0 c24
 have c0 := c0.then0 c24
 refine RL.nil (thn_n ?_)
 refine CW.cond (t := b21) rfl (fun q25 => ?_) (fun q25 => ?_)
 ·
  have hS := ifT q25 hS
  refine CW.seq (CW.region ?_)
  refine rl_assign rfl rfl ?_
  refine RL.nil (thn_n (CW.ret ?_))
  refine thn_ret ?_
  obtain rfl := Option.some.inj hS
  exact ret1 rfl ⟨rfl, c0⟩
 have hS := ifF q25 hS
 refine CW.skip ?_
 refine thn_n (CW.seq ?_)
 refine CW.seq (CW.region ?_)
 refine rl_fieldAddr rfl fa57_2 rfl ?_
 refine rl_loadS (v := az0_1) rfl Tryz.isAgg55 (k4.cell rfl) rfl ?_
 refine rl_lenR rfl ah0_1 Tryz.underlying55 rfl ?_
 refine rl_move rfl rfl ?_
 refine RL.nil (thn_n ?_)
 obtain ⟨o33, ho34, hS⟩ := bindS hS
 refine CW.cutB (fun E' w' => ∃ (ix40 : Nat), Sub [] E' ∧ Ch nb w w' ∧ Lp.fin ix40 = o33 ∧ slRep k_Face (G F w.heap.size nb) w' a0.faces az0_0 ∧ slRep k_Group (G F w.heap.size nb) w' a0.groups az0_1 ∧ slRep k_Face (G F w.heap.size nb) w' a1.faces az1_0 ∧ slRep k_Group (G F w.heap.size nb) w' a1.groups az1_1 ∧ Blk w' p1 57 (Resolved.c a0 az0_0 az0_1) ∧ Blk w' p5 57 (Resolved.c a1 az1_0 az1_1) ∧ (G F w.heap.size nb) p1 ∧ (G F w.heap.size nb) p5) ?_ ?_
 ·
  refine CW.loopS [(3, (PV p5)), (31, az0_1), (32, (Value.int .i64 ((a0.groups.length : Nat) : Int))), (33, (Value.int .i64 ((0 : Nat) : Int)))] ⟨rfl, rfl, rfl, rfl, trivial⟩ a0.groups.length (fun m E w' => ∃ (rest26 : List Group) (i27 : Nat) , m = rest26.length ∧ E = [(3, (PV p5)), (31, az0_1), (32, (Value.int .i64 ((a0.groups.length : Nat) : Int))), (33, (Value.int .i64 ((i27 : Nat) : Int)))] ∧ Ch nb w w' ∧ At a0.groups i27 rest26 ∧ runBO (F16_Same_b1 a1) rest26 i27 = some o33 ∧ slRep k_Face (G F w.heap.size nb) w' a0.faces az0_0 ∧ slRep k_Group (G F w.heap.size nb) w' a0.groups az0_1 ∧ slRep k_Face (G F w.heap.size nb) w' a1.faces az1_0 ∧ slRep k_Group (G F w.heap.size nb) w' a1.groups az1_1 ∧ Blk w' p1 57 (Resolved.c a0 az0_0 az0_1) ∧ Blk w' p5 57 (Resolved.c a1 az1_0 az1_1) ∧ (G F w.heap.size nb) p1 ∧ (G F w.heap.size nb) p5)
      ⟨a0.groups, 0, rfl, rfl, c0, At.start, ho34, ah0_0, ah0_1, ah1_0, ah1_1, k4, k8, gp1, gp5⟩ ?_
  rintro _ _ w39 ⟨rest26, i27, rfl, rfl, c38, hat29, hL28, ah0_0, ah0_1, ah1_0, ah1_1, k4, k8, gp1, gp5⟩
  refine CW.seq (CW.region ?_)
  refine rl_bin rfl rfl B.lss rfl ?_
  refine RL.nil (thn_n ?_)
  refine CW.seq ?_
  refine CW.cond (t := decide (((i27 : Nat) : Int) < ((a0.groups.length : Nat) : Int))) rfl (fun q41 => ?_) (fun q41 => ?_)
  ·
   obtain ⟨x35, rest42, rfl⟩ := hat29.cons q41
   obtain ⟨q30, hq31⟩ := runBO_some hL28
   have hb32 := hq31
   refine CW.skip (thn_n ?_)
   refine CW.seq ?_
   refine CW.block ?_
   refine CW.seq (CW.region ?_)
   refine rl_move rfl rfl ?_
   refine rl_ixR rfl ah0_1 rfl hat29.get Tryz.underlying55 Tryz.sizeOf75 rfl ?_
   intro p43 o44 cs45 hr46 hs47 hg48
   obtain ⟨z49, rfl, h50⟩ := hr46
   refine rl_loadA (cs := (Group.c x35 z49)) rfl Tryz.isAgg75 Tryz.sizeOf75 (hs47) rfl rfl ?_
   refine rl_alloc (Group.c Group.z (Value.slice none 0 0)) Tryz.zeroValue75 rfl rfl ?_
   intro p51 w52 n53 k54
   have lo55 : ∀ b, inBlk (PV p51) b → w.heap.size ≤ b := fun b h => Nat.le_trans c38.size (n53.fresh b h)
   have ah0_0 := slRep.st k_Face_pos ah0_0 n53.ch (admNew n53.fresh (fun _ x => x))
   have ah0_1 := slRep.st k_Group_pos ah0_1 n53.ch (admNew n53.fresh (fun _ x => x))
   have ah1_0 := slRep.st k_Face_pos ah1_0 n53.ch (admNew n53.fresh (fun _ x => x))
   have ah1_1 := slRep.st k_Group_pos ah1_1 n53.ch (admNew n53.fresh (fun _ x => x))
   have gp1n : (G F w.heap.size (un (inBlk (PV p51)) nb)) p1 := ⟨gp1.1, ((admNew n53.fresh (fun _ x => x)) _ k4.lt gp1.2).2⟩
   have k4 := k4.ch0 n53.ch
   have gp1 := gp1n
   have gp5n : (G F w.heap.size (un (inBlk (PV p51)) nb)) p5 := ⟨gp5.1, ((admNew n53.fresh (fun _ x => x)) _ k8.lt gp5.2).2⟩
   have k8 := k8.ch0 n53.ch
   have gp5 := gp5n
   have h50 := slRep.st k_Point_pos h50 n53.ch (admNew n53.fresh (fun _ x => x))
   have c38 := c38.then0 n53.ch
   refine rl_assign rfl rfl ?_
   refine rl_storeA (vs := (Group.c x35 z49)) rfl rfl (Kd.one _ (show k_Group.rep (G F w.heap.size (un (inBlk (PV p51)) nb)) w52 x35 (Group.c x35 z49) from ⟨z49, rfl, h50⟩)) Tryz.sizeOf75 rfl k54 rfl ?_
   intro w56 s58 c57 k59
   have ad60 : ∀ b, b < w52.heap.size → ¬ (un (inBlk (PV p51)) nb) b → ¬ (inBlk (PV p51)) b ∧ ¬ (un (inBlk (PV p51)) nb) b := fun b _ hs => ⟨fun h => hs (.inl h), hs⟩
   have ah0_0 := slRep.st k_Face_pos ah0_0 c57 ad60
   have ah0_1 := slRep.st k_Group_pos ah0_1 c57 ad60
   have ah1_0 := slRep.st k_Face_pos ah1_0 c57 ad60
   have ah1_1 := slRep.st k_Group_pos ah1_1 c57 ad60
   have k4 := k4.ch c57 (ad60 _ k4.lt gp1.2).1
   have k8 := k8.ch c57 (ad60 _ k8.lt gp5.2).1
   have h50 := slRep.st k_Point_pos h50 c57 ad60
   have c38 := c38.then c57 (fun i hi h => absurd (lo55 i h) (Nat.not_le_of_lt hi))
   refine RL.nil (thn_n (CW.seq (CW.region ?_)))
   refine rl_fieldAddr rfl fa57_2 rfl ?_
   refine rl_loadS (v := az1_1) rfl Tryz.isAgg55 (k8.cell rfl) rfl ?_
   refine rl_move rfl rfl ?_
   obtain ⟨y67, hy68, hb32⟩ := bindS hb32
   refine rl_ixR rfl ah1_1 rfl (ixO_nat hy68) Tryz.underlying55 Tryz.sizeOf75 rfl ?_
   intro p61 o62 cs63 hr64 hs65 hg66
   obtain ⟨z69, rfl, h70⟩ := hr64
   refine rl_loadA (cs := (Group.c y67 z69)) rfl Tryz.isAgg75 Tryz.sizeOf75 (hs65) rfl rfl ?_
   refine rl_alloc (Group.c Group.z (Value.slice none 0 0)) Tryz.zeroValue75 rfl rfl ?_
   intro p71 w72 n73 k74
   have lo75 : ∀ b, inBlk (PV p71) b → w.heap.size ≤ b := fun b h => Nat.le_trans c38.size (n73.fresh b h)
   have d76 : ∀ b, inBlk (PV p71) b → ¬ inBlk (PV p51) b := disNew n73.fresh k59.ltp
   have ah0_0 := slRep.st k_Face_pos ah0_0 n73.ch (admNew n73.fresh (fun _ x => x))
   have ah0_1 := slRep.st k_Group_pos ah0_1 n73.ch (admNew n73.fresh (fun _ x => x))
   have ah1_0 := slRep.st k_Face_pos ah1_0 n73.ch (admNew n73.fresh (fun _ x => x))
   have ah1_1 := slRep.st k_Group_pos ah1_1 n73.ch (admNew n73.fresh (fun _ x => x))
   have gp1n : (G F w.heap.size (un (inBlk (PV p71)) (un (inBlk (PV p51)) nb))) p1 := ⟨gp1.1, ((admNew n73.fresh (fun _ x => x)) _ k4.lt gp1.2).2⟩
   have k4 := k4.ch0 n73.ch
   have gp1 := gp1n
   have gp5n : (G F w.heap.size (un (inBlk (PV p71)) (un (inBlk (PV p51)) nb))) p5 := ⟨gp5.1, ((admNew n73.fresh (fun _ x => x)) _ k8.lt gp5.2).2⟩
   have k8 := k8.ch0 n73.ch
   have gp5 := gp5n
   have h50 := slRep.st k_Point_pos h50 n73.ch (admNew n73.fresh (fun _ x => x))
   have k59 := k59.ch0 n73.ch
   have h70 := slRep.st k_Point_pos h70 n73.ch (admNew n73.fresh (fun _ x => x))
   have c38 := c38.then0 n73.ch
   refine rl_storeA (vs := (Group.c y67 z69)) rfl rfl (Kd.one _ (show k_Group.rep (G F w.heap.size (un (inBlk (PV p71)) (un (inBlk (PV p51)) nb))) w72 y67 (Group.c y67 z69) from ⟨z69, rfl, h70⟩)) Tryz.sizeOf75 rfl k74 rfl ?_
   intro w77 s79 c78 k80
   have ad81 : ∀ b, b < w72.heap.size → ¬ (un (inBlk (PV p71)) (un (inBlk (PV p51)) nb)) b → ¬ (inBlk (PV p71)) b ∧ ¬ (un (inBlk (PV p71)) (un (inBlk (PV p51)) nb)) b := fun b _ hs => ⟨fun h => hs (.inl h), hs⟩
   have ah0_0 := slRep.st k_Face_pos ah0_0 c78 ad81
   have ah0_1 := slRep.st k_Group_pos ah0_1 c78 ad81
   have ah1_0 := slRep.st k_Face_pos ah1_0 c78 ad81
   have ah1_1 := slRep.st k_Group_pos ah1_1 c78 ad81
   have k4 := k4.ch c78 (ad81 _ k4.lt gp1.2).1
   have k8 := k8.ch c78 (ad81 _ k8.lt gp5.2).1
   have h50 := slRep.st k_Point_pos h50 c78 ad81
   have k59 := k59.ch c78 ((fun b hb h => (disSym d76) b hb h) _ rfl)
   have h70 := slRep.st k_Point_pos h70 c78 ad81
   have c38 := c38.then c78 (fun i hi h => absurd (lo75 i h) (Nat.not_le_of_lt hi))
   refine RL.nil (thn_n (CW.seq (CW.region ?_)))
   refine rl_fieldAddr rfl fa75_0 rfl ?_
   refine rl_loadS (v := (Value.string x35.name)) rfl Tryz.isAgg9 (k59.cell rfl) rfl ?_
   refine rl_fieldAddr rfl fa75_0 rfl ?_
   refine rl_loadS (v := (Value.string y67.name)) rfl Tryz.isAgg9 (k80.cell rfl) rfl ?_
   refine rl_bin rfl rfl B.neqS rfl ?_
   refine rl_move rfl rfl ?_
   obtain ⟨b84, hb85⟩ : ∃ v, ((!decide (x35.name = y67.name)) || (!decide (x35.proto = y67.proto))) = v := ⟨_, rfl⟩
   have hb32 := ltS hb85 hb32
   refine RL.join 6 54 (.bool b84) (fun w' => Ch nb w77 w') ?_ ?_
   · rcases Bool.eq_false_or_eq_true (!decide (x35.name = y67.name)) with hg83 | hg83
     ·
      have hs82 := or_t hg83 hb85
      have cs : Ch nb w77 w77 := Ch.refl
      refine RL.no rfl rfl rfl hg83 rfl rfl ?_
      refine RL.no rfl rfl rfl hg83 rfl rfl ?_
      refine RL.no rfl rfl rfl hg83 rfl rfl ?_
      refine RL.no rfl rfl rfl hg83 rfl rfl ?_
      refine RL.no rfl rfl rfl hg83 rfl rfl ?_
      refine rl_pickT rfl hg83 rfl rfl ?_
      exact RL.nil ⟨Ext.bothEq (congrArg Value.bool hs82) (Ext.skip rfl (Ext.skip rfl (Ext.skip rfl (Ext.skip rfl (Ext.skip rfl (Ext.rfl')))))), cs⟩
     ·
      have hs82 := or_f hg83 hb85
      have cs : Ch nb w77 w77 := Ch.refl
      refine RL.yes rfl rfl rfl hg83 ?_
      refine rl_fieldAddr rfl fa75_1 rfl ?_
      refine RL.yes rfl rfl rfl hg83 ?_
      refine rl_loadS (v := (Value.int .i64 x35.proto)) rfl Tryz.isAgg3 (k59.cell rfl) rfl ?_
      refine RL.yes rfl rfl rfl hg83 ?_
      refine rl_fieldAddr rfl fa75_1 rfl ?_
      refine RL.yes rfl rfl rfl hg83 ?_
      refine rl_loadS (v := (Value.int .i64 y67.proto)) rfl Tryz.isAgg3 (k80.cell rfl) rfl ?_
      refine RL.yes rfl rfl rfl hg83 ?_
      refine rl_bin rfl rfl B.neq rfl ?_
      refine rl_pickF rfl hg83 rfl rfl ?_
      exact RL.nil ⟨Ext.bothEq (congrArg Value.bool hs82) (Ext.skip rfl (Ext.skip rfl (Ext.skip rfl (Ext.skip rfl (Ext.skip rfl (Ext.rfl')))))), cs⟩
   intro w86 c87
   have ah0_0 := slRep.ch k_Face_pos ah0_0 c87
   have ah0_1 := slRep.ch k_Group_pos ah0_1 c87
   have ah1_0 := slRep.ch k_Face_pos ah1_0 c87
   have ah1_1 := slRep.ch k_Group_pos ah1_1 c87
   have k4 := k4.ch0 c87
   have k8 := k8.ch0 c87
   have h50 := slRep.ch k_Point_pos h50 c87
   have k59 := k59.ch0 c87
   have h70 := slRep.ch k_Point_pos h70 c87
   have k80 := k80.ch0 c87
   have c38 := c38.then0 c87
   refine rl_move rfl rfl ?_
   obtain ⟨b90, hb91⟩ : ∃ v, (b84 || (!(x35.six == y67.six))) = v := ⟨_, rfl⟩
   have hb32 := ltS hb91 hb32
   refine RL.join 6 61 (.bool b90) (fun w' => Ch nb w86 w') ?_ ?_
   · rcases Bool.eq_false_or_eq_true b84 with hg89 | hg89
     ·
      have hs88 := or_t hg89 hb91
      have cs : Ch nb w86 w86 := Ch.refl
      refine RL.no rfl rfl rfl hg89 rfl rfl ?_
      refine RL.no rfl rfl rfl hg89 rfl rfl ?_
      refine RL.no rfl rfl rfl hg89 rfl rfl ?_
      refine RL.no rfl rfl rfl hg89 rfl rfl ?_
      refine RL.no rfl rfl rfl hg89 rfl rfl ?_
      refine rl_pickT rfl hg89 rfl rfl ?_
      exact RL.nil ⟨Ext.bothEq (congrArg Value.bool hs88) (Ext.skip rfl (Ext.skip rfl (Ext.skip rfl (Ext.skip rfl (Ext.skip rfl (Ext.rfl')))))), cs⟩
     ·
      have hs88 := or_f hg89 hb91
      have cs : Ch nb w86 w86 := Ch.refl
      refine RL.yes rfl rfl rfl hg89 ?_
      refine rl_fieldAddr rfl fa75_2 rfl ?_
      refine RL.yes rfl rfl rfl hg89 ?_
      refine rl_loadS (v := (Value.bool x35.six)) rfl Tryz.isAgg4 (k59.cell rfl) rfl ?_
      refine RL.yes rfl rfl rfl hg89 ?_
      refine rl_fieldAddr rfl fa75_2 rfl ?_
      refine RL.yes rfl rfl rfl hg89 ?_
      refine rl_loadS (v := (Value.bool y67.six)) rfl Tryz.isAgg4 (k80.cell rfl) rfl ?_
      refine RL.yes rfl rfl rfl hg89 ?_
      refine rl_bin rfl rfl (B.neqB Tryz.underlying4) rfl ?_
      refine rl_pickF rfl hg89 rfl rfl ?_
      exact RL.nil ⟨Ext.bothEq (congrArg Value.bool hs88) (Ext.skip rfl (Ext.skip rfl (Ext.skip rfl (Ext.skip rfl (Ext.skip rfl (Ext.rfl')))))), cs⟩
   intro w92 c93
   have ah0_0 := slRep.ch k_Face_pos ah0_0 c93
   have ah0_1 := slRep.ch k_Group_pos ah0_1 c93
   have ah1_0 := slRep.ch k_Face_pos ah1_0 c93
   have ah1_1 := slRep.ch k_Group_pos ah1_1 c93
   have k4 := k4.ch0 c93
   have k8 := k8.ch0 c93
   have h50 := slRep.ch k_Point_pos h50 c93
   have k59 := k59.ch0 c93
   have h70 := slRep.ch k_Point_pos h70 c93
   have k80 := k80.ch0 c93
   have c38 := c38.then0 c93
   refine rl_move rfl rfl ?_
   obtain ⟨b96, hb97⟩ : ∃ v, (b90 || (!(x35.localF == y67.localF))) = v := ⟨_, rfl⟩
   have hb32 := ltS hb97 hb32
   refine RL.join 6 68 (.bool b96) (fun w' => Ch nb w92 w') ?_ ?_
   · rcases Bool.eq_false_or_eq_true b90 with hg95 | hg95
     ·
      have hs94 := or_t hg95 hb97
      have cs : Ch nb w92 w92 := Ch.refl
      refine RL.no rfl rfl rfl hg95 rfl rfl ?_
      refine RL.no rfl rfl rfl hg95 rfl rfl ?_
      refine RL.no rfl rfl rfl hg95 rfl rfl ?_
      refine RL.no rfl rfl rfl hg95 rfl rfl ?_
      refine RL.no rfl rfl rfl hg95 rfl rfl ?_
      refine rl_pickT rfl hg95 rfl rfl ?_
      exact RL.nil ⟨Ext.bothEq (congrArg Value.bool hs94) (Ext.skip rfl (Ext.skip rfl (Ext.skip rfl (Ext.skip rfl (Ext.skip rfl (Ext.rfl')))))), cs⟩
     ·
      have hs94 := or_f hg95 hb97
      have cs : Ch nb w92 w92 := Ch.refl
      refine RL.yes rfl rfl rfl hg95 ?_
      refine rl_fieldAddr rfl fa75_3 rfl ?_
      refine RL.yes rfl rfl rfl hg95 ?_
      refine rl_loadS (v := (Value.bool x35.localF)) rfl Tryz.isAgg4 (k59.cell rfl) rfl ?_
      refine RL.yes rfl rfl rfl hg95 ?_
      refine rl_fieldAddr rfl fa75_3 rfl ?_
      refine RL.yes rfl rfl rfl hg95 ?_
      refine rl_loadS (v := (Value.bool y67.localF)) rfl Tryz.isAgg4 (k80.cell rfl) rfl ?_
      refine RL.yes rfl rfl rfl hg95 ?_
      refine rl_bin rfl rfl (B.neqB Tryz.underlying4) rfl ?_
      refine rl_pickF rfl hg95 rfl rfl ?_
      exact RL.nil ⟨Ext.bothEq (congrArg Value.bool hs94) (Ext.skip rfl (Ext.skip rfl (Ext.skip rfl (Ext.skip rfl (Ext.skip rfl (Ext.rfl')))))), cs⟩
   intro w98 c99
   have ah0_0 := slRep.ch k_Face_pos ah0_0 c99
   have ah0_1 := slRep.ch k_Group_pos ah0_1 c99
   have ah1_0 := slRep.ch k_Face_pos ah1_0 c99
   have ah1_1 := slRep.ch k_Group_pos ah1_1 c99
   have k4 := k4.ch0 c99
   have k8 := k8.ch0 c99
   have h50 := slRep.ch k_Point_pos h50 c99
   have k59 := k59.ch0 c99
   have h70 := slRep.ch k_Point_pos h70 c99
   have k80 := k80.ch0 c99
   have c38 := c38.then0 c99
   refine rl_move rfl rfl ?_
   obtain ⟨b102, hb103, hb32⟩ := bindS hb32
   refine RL.join 7 76 (.bool b102) (fun w' => Ch nb w98 w') ?_ ?_
   · rcases Bool.eq_false_or_eq_true b96 with hg101 | hg101
     ·
      have hs100 := orO_t hg101 hb103
      have cs : Ch nb w98 w98 := Ch.refl
      refine RL.no rfl rfl rfl hg101 rfl rfl ?_
      refine RL.no rfl rfl rfl hg101 rfl rfl ?_
      refine RL.no rfl rfl rfl hg101 rfl rfl ?_
      refine RL.no rfl rfl rfl hg101 rfl rfl ?_
      refine RL.no rfl rfl rfl hg101 rfl rfl ?_
      refine RL.no rfl rfl rfl hg101 rfl rfl ?_
      refine rl_pickT rfl hg101 rfl rfl ?_
      exact RL.nil ⟨Ext.bothEq (congrArg Value.bool (Option.some.inj hs100)) (Ext.skip rfl (Ext.skip rfl (Ext.skip rfl (Ext.skip rfl (Ext.skip rfl (Ext.skip rfl (Ext.rfl'))))))), cs⟩
     ·
      have hs100 := orO_f hg101 hb103
      have cs : Ch nb w98 w98 := Ch.refl
      refine RL.yes rfl rfl rfl hg101 ?_
      refine rl_fieldAddr rfl fa75_4 rfl ?_
      refine RL.yes rfl rfl rfl hg101 ?_
      refine rl_loadS (v := z49) rfl Tryz.isAgg48 (k59.cell rfl) rfl ?_
      refine RL.yes rfl rfl rfl hg101 ?_
      refine rl_fieldAddr rfl fa75_4 rfl ?_
      refine RL.yes rfl rfl rfl hg101 ?_
      refine rl_loadS (v := z69) rfl Tryz.isAgg48 (k80.cell rfl) rfl ?_
      refine RL.yes rfl rfl rfl hg101 ?_
      obtain ⟨y107, hy108, hs100⟩ := bindS hs100
      refine rl_callF rfl en21 rfl (ctr21 (G F w.heap.size (un (inBlk (PV p71)) (un (inBlk (PV p51)) nb))) w98 x35.points z49 h50 y67.points z69 h70 y107 hy108) ?_
      rintro _ w105 ⟨rfl, c106⟩
      refine RL.yes rfl rfl rfl hg101 ?_
      refine rl_not rfl rfl ?_
      refine rl_pickF rfl hg101 rfl rfl ?_
      have cs := cs.then0 c106
      exact RL.nil ⟨Ext.bothEq (congrArg Value.bool (Option.some.inj hs100)) (Ext.skip rfl (Ext.skip rfl (Ext.skip rfl (Ext.skip rfl (Ext.skip rfl (Ext.skip rfl (Ext.rfl'))))))), cs⟩
   intro w104 c109
   have ah0_0 := slRep.ch k_Face_pos ah0_0 c109
   have ah0_1 := slRep.ch k_Group_pos ah0_1 c109
   have ah1_0 := slRep.ch k_Face_pos ah1_0 c109
   have ah1_1 := slRep.ch k_Group_pos ah1_1 c109
   have k4 := k4.ch0 c109
   have k8 := k8.ch0 c109
   have c38 := c38.then0 c109
   refine RL.nil (thn_n ?_)
   refine CW.cond (t := b102) rfl (fun q110 => ?_) (fun q110 => ?_)
   ·
    have hb32 := ifT q110 hb32
    refine CW.seq (CW.region ?_)
    refine rl_assign rfl rfl ?_
    refine RL.nil (thn_n (CW.ret ?_))
    refine inB_ret ?_
    refine thn_ret ?_
    refine thn_ret (inB_ret (thn_ret ?_))
    refine thn_ret ?_
    have f111 := runBO_ret hL28 hq31 hb32
    have hS := retS f111 hS
    obtain rfl := Option.some.inj hS
    exact ret1 rfl ⟨rfl, c38⟩
   have hb32 := ifF q110 hb32
   refine CW.skip ?_
   refine inB_n ?_
   refine thn_n (CW.region ?_)
   refine rl_inc rfl hat29.lt ah0_1.big rfl ?_
   refine rl_move rfl rfl ?_
   refine RL.nil (thn_n ?_)
   have ad112 : ∀ b, b < w104.heap.size → ¬ (un (inBlk (PV p71)) (un (inBlk (PV p51)) nb)) b → ¬ nb b ∧ ¬ (un (inBlk (PV p51)) nb) b := fun b _ hs => ⟨fun x => x, fun h => hs (un_el h (fun h => (.inr (.inl h))) (fun h => False.elim h))⟩
   have crf : Ch nb w104 w104 := Ch.refl
   have ah0_0 := slRep.st k_Face_pos ah0_0 crf ad112
   have ah0_1 := slRep.st k_Group_pos ah0_1 crf ad112
   have ah1_0 := slRep.st k_Face_pos ah1_0 crf ad112
   have ah1_1 := slRep.st k_Group_pos ah1_1 crf ad112
   have gp1n : (G F w.heap.size (un (inBlk (PV p51)) nb)) p1 := ⟨gp1.1, (ad112 _ k4.lt gp1.2).2⟩
   have k4 := k4.ch0 crf
   have gp1 := gp1n
   have gp5n : (G F w.heap.size (un (inBlk (PV p51)) nb)) p5 := ⟨gp5.1, (ad112 _ k8.lt gp5.2).2⟩
   have k8 := k8.ch0 crf
   have gp5 := gp5n
   have c38 := c38.then0 crf
   have ad113 : ∀ b, b < w104.heap.size → ¬ (un (inBlk (PV p51)) nb) b → ¬ nb b ∧ ¬ nb b := fun b _ hs => ⟨fun x => x, fun h => hs (False.elim h)⟩
   have crf : Ch nb w104 w104 := Ch.refl
   have ah0_0 := slRep.st k_Face_pos ah0_0 crf ad113
   have ah0_1 := slRep.st k_Group_pos ah0_1 crf ad113
   have ah1_0 := slRep.st k_Face_pos ah1_0 crf ad113
   have ah1_1 := slRep.st k_Group_pos ah1_1 crf ad113
   have gp1n : (G F w.heap.size nb) p1 := ⟨gp1.1, (ad113 _ k4.lt gp1.2).2⟩
   have k4 := k4.ch0 crf
   have gp1 := gp1n
   have gp5n : (G F w.heap.size nb) p5 := ⟨gp5.1, (ad113 _ k8.lt gp5.2).2⟩
   have k8 := k8.ch0 crf
   have gp5 := gp5n
   have c38 := c38.then0 crf
   have hLn := runBO_next hL28 hq31 hb32
   exact ⟨rest42.length, Nat.lt_succ_self _, [(3, (PV p5)), (31, az0_1), (32, (Value.int .i64 ((a0.groups.length : Nat) : Int))), (33, (Value.int .i64 ((i27 + 1 : Nat) : Int)))], ⟨rfl, rfl, rfl, rfl, trivial⟩, ⟨rest42, i27 + 1, rfl, rfl, c38, hat29.next, hLn, ah0_0, ah0_1, ah1_0, ah1_1, k4, k8, gp1, gp5⟩⟩
  obtain rfl := hat29.nil q41
  have hLf : Lp.fin i27 = o33 := runBO_done hL28
  refine CW.exit (thn_exit (thn_exit (inB_hit ?_)))
  exact ⟨i27, trivial, c38, hLf, ah0_0, ah0_1, ah1_0, ah1_1, k4, k8, gp1, gp5⟩
 rintro _ w115 ⟨ix40, hE116, c114, f117, ah0_0, ah0_1, ah1_0, ah1_1, k4, k8, gp1, gp5⟩
 have hS := finS f117 hS
 refine thn_n (CW.sub [] hE116 ?_)
 refine CW.seq (CW.region ?_)
 refine rl_assign rfl rfl ?_
 refine RL.nil (thn_n (CW.ret ?_))
 obtain rfl := Option.some.inj hS
 exact ret1 rfl ⟨rfl, c114⟩
/-- lb/lblaw21.ResolveRaw -/
theorem ctr5 (F : Nat → Prop) (w : World) (a0 : Resolved) (az0_0 az0_1 : Value) (ah0_0 : slRep k_Face F w a0.faces az0_0) (ah0_1 : slRep k_Group F w a0.groups az0_1) (a1 : Resolved) (az1_0 az1_1 : Value) (ah1_0 : slRep k_Face F w a1.faces az1_0) (ah1_1 : slRep k_Group F w a1.groups az1_1) (a2 : Face) (r : Bool) (hs : F5_ResolveR a0 a1 a2 = some r) :
    Ret Tryz.prog 5 #[(Value.agg (Resolved.c a0 az0_0 az0_1).toArray), (Value.agg (Resolved.c a1 az1_0 az1_1).toArray), (Value.agg (Face.enc a2).toArray)] w fun v w' => v = (Value.bool r) ∧ Ch nb w w' := by
 have hS := hs
 have c0 : Ch nb w w := Ch.refl
 have ah0_0 := slRep.enter k_Face_pos ah0_0
 have ah0_1 := slRep.enter k_Group_pos ah0_1
 have ah1_0 := slRep.enter k_Face_pos ah1_0
 have ah1_1 := slRep.enter k_Group_pos ah1_1
 refine Ret.of (n := 146) (args := [_, _, _]) (rs := [.tmp 6]) Tryz.func5 rfl rfl rfl rfl ?_
 refine CW.seq (CW.region ?_)
 refine rl_boxA (cs := (Resolved.c a0 az0_0 az0_1)) rfl rfl ?_
 intro p1 w2 n3 k4
 have gp1 : (G F w.heap.size nb) p1 := ⟨.inr (by rw [n3.eq]; exact c0.size), fun h => absurd (nbS _ h) (by rw [n3.eq]; exact Nat.lt_irrefl _)⟩
 have ah0_0 := slRep.ch k_Face_pos ah0_0 n3.ch
 have ah0_1 := slRep.ch k_Group_pos ah0_1 n3.ch
 have ah1_0 := slRep.ch k_Face_pos ah1_0 n3.ch
 have ah1_1 := slRep.ch k_Group_pos ah1_1 n3.ch
 have c0 := c0.then0 n3.ch
 refine rl_boxA (cs := (Resolved.c a1 az1_0 az1_1)) rfl rfl ?_
 intro p5 w6 n7 k8
 have gp5 : (G F w.heap.size nb) p5 := ⟨.inr (by rw [n7.eq]; exact c0.size), fun h => absurd (nbS _ h) (by rw [n7.eq]; exact Nat.lt_irrefl _)⟩
 have ah0_0 := slRep.ch k_Face_pos ah0_0 n7.ch
 have ah0_1 := slRep.ch k_Group_pos ah0_1 n7.ch
 have ah1_0 := slRep.ch k_Face_pos ah1_0 n7.ch
 have ah1_1 := slRep.ch k_Group_pos ah1_1 n7.ch
 have k4 := k4.ch0 n7.ch
 have c0 := c0.then0 n7.ch
 refine rl_boxA (cs := (Face.enc a2)) rfl rfl ?_
 intro p9 w10 n11 k12
 have gp9 : (G F w.heap.size nb) p9 := ⟨.inr (by rw [n11.eq]; exact c0.size), fun h => absurd (nbS _ h) (by rw [n11.eq]; exact Nat.lt_irrefl _)⟩
 have ah0_0 := slRep.ch k_Face_pos ah0_0 n11.ch
 have ah0_1 := slRep.ch k_Group_pos ah0_1 n11.ch
 have ah1_0 := slRep.ch k_Face_pos ah1_0 n11.ch
 have ah1_1 := slRep.ch k_Group_pos ah1_1 n11.ch
 have k4 := k4.ch0 n11.ch
 have k8 := k8.ch0 n11.ch
 have c0 := c0.then0 n11.ch
 refine rl_assign rfl rfl ?_
 refine RL.nil (thn_n (CW.seq ?_))
 refine CW.seq (CW.region ?_)
 obtain ⟨y15, hy16, hS⟩ := bindS hS
 refine rl_callF rfl en6 rfl (ctr6 (G F w.heap.size nb) w10  y15 hy16) ?_
 rintro _ w13 ⟨rfl, c14⟩
 have ah0_0 := slRep.ch k_Face_pos ah0_0 c14
 have ah0_1 := slRep.ch k_Group_pos ah0_1 c14
 have ah1_0 := slRep.ch k_Face_pos ah1_0 c14
 have ah1_1 := slRep.ch k_Group_pos ah1_1 c14
 have k4 := k4.ch0 c14
 have k8 := k8.ch0 c14
 have k12 := k12.ch0 c14
 have c0 := c0.then0 c14
 refine rl_not rfl rfl ?_
 refine RL.nil (thn_n ?_)
 refine CW.cond (t := !y15) rfl (fun q17 => ?_) (fun q17 => ?_)
 ·
  have hS := ifT q17 hS
  refine CW.seq (CW.region ?_)
  refine rl_assign rfl rfl ?_
  refine RL.nil (thn_n (CW.ret ?_))
  refine thn_ret ?_
  obtain rfl := Option.some.inj hS
  exact ret1 rfl ⟨rfl, c0⟩
 have hS := ifF q17 hS
 refine CW.skip ?_
 refine thn_n (CW.seq ?_)
 refine CW.seq (CW.region ?_)
 refine rl_fieldAddr rfl fa39_1 rfl ?_
 refine rl_loadS (v := az0_0) rfl Tryz.isAgg36 (k4.cell rfl) rfl ?_
 refine rl_lenR rfl ah0_0 Tryz.underlying36 rfl ?_
 refine rl_bin rfl rfl B.gtr rfl ?_
 refine rl_move rfl rfl ?_
 obtain ⟨b20, hb21⟩ : ∃ v, ((decide (((a0.faces.length : Nat) : Int) > 30)) || (decide (((a1.faces.length : Nat) : Int) > 30))) = v := ⟨_, rfl⟩
 have hS := ltS hb21 hS
 refine RL.join 5 29 (.bool b20) (fun w' => Ch nb w13 w') ?_ ?_
 · rcases Bool.eq_false_or_eq_true (decide (((a0.faces.length : Nat) : Int) > 30)) with hg19 | hg19
   ·
    have hs18 := or_t hg19 hb21
    have cs : Ch nb w13 w13 := Ch.refl
    refine RL.no rfl rfl rfl hg19 rfl rfl ?_
    refine RL.no rfl rfl rfl hg19 rfl rfl ?_
    refine RL.no rfl rfl rfl hg19 rfl rfl ?_
    refine RL.no rfl rfl rfl hg19 rfl rfl ?_
    refine rl_pickT rfl hg19 rfl rfl ?_
    exact RL.nil ⟨Ext.bothEq (congrArg Value.bool hs18) (Ext.skip rfl (Ext.skip rfl (Ext.skip rfl (Ext.skip rfl (Ext.rfl'))))), cs⟩
   ·
    have hs18 := or_f hg19 hb21
    have cs : Ch nb w13 w13 := Ch.refl
    refine RL.yes rfl rfl rfl hg19 ?_
    refine rl_fieldAddr rfl fa39_1 rfl ?_
    refine RL.yes rfl rfl rfl hg19 ?_
    refine rl_loadS (v := az1_0) rfl Tryz.isAgg36 (k8.cell rfl) rfl ?_
    refine RL.yes rfl rfl rfl hg19 ?_
    refine rl_lenR rfl ah1_0 Tryz.underlying36 rfl ?_
    refine RL.yes rfl rfl rfl hg19 ?_
    refine rl_bin rfl rfl B.gtr rfl ?_
    refine rl_pickF rfl hg19 rfl rfl ?_
    exact RL.nil ⟨Ext.bothEq (congrArg Value.bool hs18) (Ext.skip rfl (Ext.skip rfl (Ext.skip rfl (Ext.skip rfl (Ext.rfl'))))), cs⟩
 intro w22 c23
 have ah0_0 := slRep.ch k_Face_pos ah0_0 c23
 have ah0_1 := slRep.ch k_Group_pos ah0_1 c23
 have ah1_0 := slRep.ch k_Face_pos ah1_0 c23
 have ah1_1 := slRep.ch k_Group_pos ah1_1 c23
 have k4 := k4.ch0 c23
 have k8 := k8.ch0 c23
 have k12 := k12.ch0 c23
 have c0 := c0.then0 c23
 refine rl_move rfl rfl ?_
 obtain ⟨b26, hb27⟩ : ∃ v, (b20 || (decide (((a0.groups.length : Nat) : Int) > 30))) = v := ⟨_, rfl⟩
 have hS := ltS hb27 hS
 refine RL.join 5 35 (.bool b26) (fun w' => Ch nb w22 w') ?_ ?_
 · rcases Bool.eq_false_or_eq_true b20 with hg25 | hg25
   ·
    have hs24 := or_t hg25 hb27
    have cs : Ch nb w22 w22 := Ch.refl
    refine RL.no rfl rfl rfl hg25 rfl rfl ?_
    refine RL.no rfl rfl rfl hg25 rfl rfl ?_
    refine RL.no rfl rfl rfl hg25 rfl rfl ?_
    refine RL.no rfl rfl rfl hg25 rfl rfl ?_
    refine rl_pickT rfl hg25 rfl rfl ?_
    exact RL.nil ⟨Ext.bothEq (congrArg Value.bool hs24) (Ext.skip rfl (Ext.skip rfl (Ext.skip rfl (Ext.skip rfl (Ext.rfl'))))), cs⟩
   ·
    have hs24 := or_f hg25 hb27
    have cs : Ch nb w22 w22 := Ch.refl
    refine RL.yes rfl rfl rfl hg25 ?_
    refine rl_fieldAddr rfl fa39_2 rfl ?_
    refine RL.yes rfl rfl rfl hg25 ?_
    refine rl_loadS (v := az0_1) rfl Tryz.isAgg37 (k4.cell rfl) rfl ?_
    refine RL.yes rfl rfl rfl hg25 ?_
    refine rl_lenR rfl ah0_1 Tryz.underlying37 rfl ?_
    refine RL.yes rfl rfl rfl hg25 ?_
    refine rl_bin rfl rfl B.gtr rfl ?_
    refine rl_pickF rfl hg25 rfl rfl ?_
    exact RL.nil ⟨Ext.bothEq (congrArg Value.bool hs24) (Ext.skip rfl (Ext.skip rfl (Ext.skip rfl (Ext.skip rfl (Ext.rfl'))))), cs⟩
 intro w28 c29
 have ah0_0 := slRep.ch k_Face_pos ah0_0 c29
 have ah0_1 := slRep.ch k_Group_pos ah0_1 c29
 have ah1_0 := slRep.ch k_Face_pos ah1_0 c29
 have ah1_1 := slRep.ch k_Group_pos ah1_1 c29
 have k4 := k4.ch0 c29
 have k8 := k8.ch0 c29
 have k12 := k12.ch0 c29
 have c0 := c0.then0 c29
 refine rl_move rfl rfl ?_
 obtain ⟨b32, hb33⟩ : ∃ v, (b26 || (decide (((a1.groups.length : Nat) : Int) > 30))) = v := ⟨_, rfl⟩
 have hS := ltS hb33 hS
 refine RL.join 5 41 (.bool b32) (fun w' => Ch nb w28 w') ?_ ?_
 · rcases Bool.eq_false_or_eq_true b26 with hg31 | hg31
   ·
    have hs30 := or_t hg31 hb33
    have cs : Ch nb w28 w28 := Ch.refl
    refine RL.no rfl rfl rfl hg31 rfl rfl ?_
    refine RL.no rfl rfl rfl hg31 rfl rfl ?_
    refine RL.no rfl rfl rfl hg31 rfl rfl ?_
    refine RL.no rfl rfl rfl hg31 rfl rfl ?_
    refine rl_pickT rfl hg31 rfl rfl ?_
    exact RL.nil ⟨Ext.bothEq (congrArg Value.bool hs30) (Ext.skip rfl (Ext.skip rfl (Ext.skip rfl (Ext.skip rfl (Ext.rfl'))))), cs⟩
   ·
    have hs30 := or_f hg31 hb33
    have cs : Ch nb w28 w28 := Ch.refl
    refine RL.yes rfl rfl rfl hg31 ?_
    refine rl_fieldAddr rfl fa39_2 rfl ?_
    refine RL.yes rfl rfl rfl hg31 ?_
    refine rl_loadS (v := az1_1) rfl Tryz.isAgg37 (k8.cell rfl) rfl ?_
    refine RL.yes rfl rfl rfl hg31 ?_
    refine rl_lenR rfl ah1_1 Tryz.underlying37 rfl ?_
    refine RL.yes rfl rfl rfl hg31 ?_
    refine rl_bin rfl rfl B.gtr rfl ?_
    refine rl_pickF rfl hg31 rfl rfl ?_
    exact RL.nil ⟨Ext.bothEq (congrArg Value.bool hs30) (Ext.skip rfl (Ext.skip rfl (Ext.skip rfl (Ext.skip rfl (Ext.rfl'))))), cs⟩
 intro w34 c35
 have ah0_0 := slRep.ch k_Face_pos ah0_0 c35
 have ah0_1 := slRep.ch k_Group_pos ah0_1 c35
 have ah1_0 := slRep.ch k_Face_pos ah1_0 c35
 have ah1_1 := slRep.ch k_Group_pos ah1_1 c35
 have k4 := k4.ch0 c35
 have k8 := k8.ch0 c35
 have k12 := k12.ch0 c35
 have c0 := c0.then0 c35
 refine rl_move rfl rfl ?_
 obtain ⟨b38, hb39⟩ : ∃ v, (b32 || (decide (((a2.name.size : Nat) : Int) > 100))) = v := ⟨_, rfl⟩
 have hS := ltS hb39 hS
 refine RL.join 5 47 (.bool b38) (fun w' => Ch nb w34 w') ?_ ?_
 · rcases Bool.eq_false_or_eq_true b32 with hg37 | hg37
   ·
    have hs36 := or_t hg37 hb39
    have cs : Ch nb w34 w34 := Ch.refl
    refine RL.no rfl rfl rfl hg37 rfl rfl ?_
    refine RL.no rfl rfl rfl hg37 rfl rfl ?_
    refine RL.no rfl rfl rfl hg37 rfl rfl ?_
    refine RL.no rfl rfl rfl hg37 rfl rfl ?_
    refine rl_pickT rfl hg37 rfl rfl ?_
    exact RL.nil ⟨Ext.bothEq (congrArg Value.bool hs36) (Ext.skip rfl (Ext.skip rfl (Ext.skip rfl (Ext.skip rfl (Ext.rfl'))))), cs⟩
   ·
    have hs36 := or_f hg37 hb39
    have cs : Ch nb w34 w34 := Ch.refl
    refine RL.yes rfl rfl rfl hg37 ?_
    refine rl_fieldAddr rfl fa47_2 rfl ?_
    refine RL.yes rfl rfl rfl hg37 ?_
    refine rl_loadS (v := (Value.string a2.name)) rfl Tryz.isAgg9 (k12.cell rfl) rfl ?_
    refine RL.yes rfl rfl rfl hg37 ?_
    refine rl_lenStr rfl Tryz.underlying9 rfl ?_
    refine RL.yes rfl rfl rfl hg37 ?_
    refine rl_bin rfl rfl B.gtr rfl ?_
    refine rl_pickF rfl hg37 rfl rfl ?_
    exact RL.nil ⟨Ext.bothEq (congrArg Value.bool hs36) (Ext.skip rfl (Ext.skip rfl (Ext.skip rfl (Ext.skip rfl (Ext.rfl'))))), cs⟩
 intro w40 c41
 have ah0_0 := slRep.ch k_Face_pos ah0_0 c41
 have ah0_1 := slRep.ch k_Group_pos ah0_1 c41
 have ah1_0 := slRep.ch k_Face_pos ah1_0 c41
 have ah1_1 := slRep.ch k_Group_pos ah1_1 c41
 have k4 := k4.ch0 c41
 have k8 := k8.ch0 c41
 have k12 := k12.ch0 c41
 have c0 := c0.then0 c41
 refine RL.nil (thn_n ?_)
 refine CW.cond (t := b38) rfl (fun q42 => ?_) (fun q42 => ?_)
 ·
  have hS := ifT q42 hS
  refine CW.seq (CW.region ?_)
  refine rl_assign rfl rfl ?_
  refine RL.nil (thn_n (CW.ret ?_))
  refine thn_ret ?_
  obtain rfl := Option.some.inj hS
  exact ret1 rfl ⟨rfl, c0⟩
 have hS := ifF q42 hS
 refine CW.skip ?_
 refine thn_n (CW.seq ?_)
 refine CW.seq ?_
 obtain ⟨z56, hz57, hS⟩ := bindS hS
 obtain ⟨z66, hz67, hS⟩ := bindS hS
 refine CW.draw 9 [(some true, fun hv O uu wx => ∃ (v43 : Value), hv = [v43] ∧ uu = v43 ∧ O = (inBlk v43) ∧ SlO k_Group 50 F w.heap.size (un (inBlk v43) nb) wx [] v43), (none, fun fx O uu wx => uu = (Value.pointer (some ⟨p1, 3, none⟩))), (none, fun fx O uu wx => uu = az0_1), (some true, fun hv O uu wx => ∃ (v50 : Value) (v43 : Value), hv = [v43, v50] ∧ uu = v50 ∧ O = (inBlk v50) ∧ SlO k_Group 50 F w.heap.size (un (inBlk v50) nb) wx ([] ++ a0.groups) v50), (none, fun fx O uu wx => uu = (Value.pointer (some ⟨p5, 3, none⟩))), (none, fun fx O uu wx => uu = az1_1), (some true, fun hv O uu wx => ∃ (v60 : Value) (v43 : Value) (v50 : Value), hv = [v43, v50, v60] ∧ uu = v60 ∧ O = (inBlk v60) ∧ SlO k_Group 50 F w.heap.size (un (inBlk v60) nb) wx (([] ++ a0.groups) ++ a1.groups) v60), (some true, fun hv O uu wx => ∃ (v60 : Value) (v43 : Value) (v50 : Value), hv = [v43, v50, v60, (Value.int .i64 (((([] ++ a0.groups) ++ a1.groups).length : Nat) : Int))] ∧ uu = (Value.int .i64 (((([] ++ a0.groups) ++ a1.groups).length : Nat) : Int)) ∧ O = (inBlk v60) ∧ SlO k_Group 50 F w.heap.size (un (inBlk v60) nb) wx (([] ++ a0.groups) ++ a1.groups) v60), (none, fun fx O uu wx => uu = (Value.int .i64 0))] [[], [], [1], [0, 2], [], [4], [3, 5], [6], []] [7, 6, 8] nb (fun _ h => h.elim) mixed rfl rfl rfl rfl ?_ ?_
 ·
  refine Each.consO ⟨fun _ O _ wx wy cc hh => by obtain ⟨v43, eh, e, rfl, ck0_0⟩ := hh; exact ⟨v43, eh, e, rfl, ck0_0.ch0 cc⟩, fun hv Op O wk hO ck hO0 => ?_⟩ ?_
  ·
   obtain ⟨hl, hBg⟩ := hO0 rfl
   obtain rfl := List.eq_nil_of_length_eq_zero hl
   have c0 := c0.then0 hBg.2.1
   refine rl_bslice (k := k_Group) (F := F) (B := w.heap.size) (S := nb) ([] : List Group) rfl k_Group_pos Tryz.underlying37 Tryz.sizeOf50 Tryz.zeroValue50 rfl rfl trivial c0.size nbS rfl ?_
   intro v68 w69 c70 hf71 h72
   have hb73 : ∀ b, (inBlk v68) b → (O b ∨ wk.heap.size ≤ b) ∧ b < w69.heap.size := fun b h => ⟨.inr (Nat.le_trans (Nat.le_refl _) (hf71 b h)), (fun b hb => (h72.lt b hb).2) b h⟩
   exact RL.nil ⟨_, (inBlk v68), rfl, hb73, (c70.mono (fun _ _ h => h.elim)), ⟨v68, rfl, rfl, rfl, h72⟩⟩
  refine Each.consS (fun fl O wk hE hN hO ck => ?_) ?_
  ·
   refine rl_fieldAddr rfl fa39_2 rfl ?_
   exact RL.nil ⟨_, rfl, Ch.refl, rfl⟩
  refine Each.consS (fun fl O wk hE hN hO ck => ?_) ?_
  ·
   have k4 := k4.ch0 ck
   refine Need.o1 rfl rfl rfl (fun _ h => h) ?_
   refine rl_loadS (v := az0_1) rfl Tryz.isAgg37 (k4.cell rfl) rfl ?_
   exact RL.nil ⟨_, rfl, Ch.refl, rfl⟩
  refine Each.consO ⟨fun _ O _ wx wy cc hh => by obtain ⟨v50, v43, eh, e, rfl, ck3_0⟩ := hh; exact ⟨v50, v43, eh, e, rfl, ck3_0.ch0 cc⟩, fun hv Op O wk hO ck hO0 => ?_⟩ ?_
  ·
   refine Need.here rfl rfl rfl rfl ?_
   rintro _ ⟨v43, rfl, e77, rfl, ck0_0⟩
   obtain rfl := e77.symm
   have ha78 : ∀ b, b < w40.heap.size → ¬ nb b → ¬ nb b ∧ ¬ (un (inBlk v43) nb) b := fun b hb hs => ⟨fun h => h.elim, fun h => un_el h (fun h => (hO b h).1.elim (fun h => h.elim) (fun h => Nat.not_le_of_lt hb h)) (fun h => False.elim h)⟩
   have ah0_1 := slRep.st k_Group_pos ah0_1 ck ha78
   have c0 := c0.then0 ck
   refine Need.o1 rfl rfl rfl (fun _ h => h) ?_
   have hl := (apO_get hz57).1
   refine rl_append (k := k_Group) (T := 50) (F := F) (B := w.heap.size) (S := (un (inBlk v43) nb)) (S2 := nb) (fun v => (un (inBlk v) nb)) rfl rfl k_Group_pos ap37 ck0_0 ah0_1 (fun _ => Iff.rfl) (fun _ _ => Iff.rfl) hl c0.size (un_lt (fun b hb => (ck0_0.lt b hb).2) nbS) rfl ?_
   intro v82 w83 h84 c85 hf86 ha87
   have hb88 : ∀ b, (inBlk v82) b → ((inBlk v43) b ∨ wk.heap.size ≤ b) ∧ b < w83.heap.size := fun b h => ⟨(hf86 b h).elim (fun h => .inl (h)) (fun h => .inr (Nat.le_trans (Nat.le_refl _) h)), (fun b hb => (h84.lt b hb).2) b h⟩
   exact RL.nil ⟨_, (inBlk v82), rfl, hb88, (c85.mono (fun b _ h => h)), ⟨v82, v43, rfl, rfl, rfl, h84⟩⟩
  refine Each.consS (fun fl O wk hE hN hO ck => ?_) ?_
  ·
   refine rl_fieldAddr rfl fa39_2 rfl ?_
   exact RL.nil ⟨_, rfl, Ch.refl, rfl⟩
  refine Each.consS (fun fl O wk hE hN hO ck => ?_) ?_
  ·
   have k8 := k8.ch0 ck
   refine Need.o1 rfl rfl rfl (fun _ h => h) ?_
   refine rl_loadS (v := az1_1) rfl Tryz.isAgg37 (k8.cell rfl) rfl ?_
   exact RL.nil ⟨_, rfl, Ch.refl, rfl⟩
  refine Each.consO ⟨fun _ O _ wx wy cc hh => by obtain ⟨v60, v43, v50, eh, e, rfl, ck6_0⟩ := hh; exact ⟨v60, v43, v50, eh, e, rfl, ck6_0.ch0 cc⟩, fun hv Op O wk hO ck hO0 => ?_⟩ ?_
  ·
   refine Need.here rfl rfl rfl rfl ?_
   rintro _ ⟨v50, v43, rfl, e92, rfl, ck3_0⟩
   obtain rfl := e92.symm
   have ha93 : ∀ b, b < w40.heap.size → ¬ nb b → ¬ nb b ∧ ¬ (un (inBlk v50) nb) b := fun b hb hs => ⟨fun h => h.elim, fun h => un_el h (fun h => (hO b h).1.elim (fun h => h.elim) (fun h => Nat.not_le_of_lt hb h)) (fun h => False.elim h)⟩
   have ah1_1 := slRep.st k_Group_pos ah1_1 ck ha93
   have c0 := c0.then0 ck
   refine Need.o1 rfl rfl rfl (fun _ h => h) ?_
   have hl := (apO_get hz67).1
   refine rl_append (k := k_Group) (T := 50) (F := F) (B := w.heap.size) (S := (un (inBlk v50) nb)) (S2 := nb) (fun v => (un (inBlk v) nb)) rfl rfl k_Group_pos ap37 ck3_0 ah1_1 (fun _ => Iff.rfl) (fun _ _ => Iff.rfl) hl c0.size (un_lt (fun b hb => (ck3_0.lt b hb).2) nbS) rfl ?_
   intro v97 w98 h99 c100 hf101 ha102
   have hb103 : ∀ b, (inBlk v97) b → ((inBlk v50) b ∨ wk.heap.size ≤ b) ∧ b < w98.heap.size := fun b h => ⟨(hf101 b h).elim (fun h => .inl (h)) (fun h => .inr (Nat.le_trans (Nat.le_refl _) h)), (fun b hb => (h99.lt b hb).2) b h⟩
   exact RL.nil ⟨_, (inBlk v97), rfl, hb103, (c100.mono (fun b _ h => h)), ⟨v97, v43, v50, rfl, rfl, rfl, h99⟩⟩
  refine Each.consO ⟨fun _ O _ wx wy cc hh => by obtain ⟨v60, v43, v50, eh, e, rfl, ck7_0⟩ := hh; exact ⟨v60, v43, v50, eh, e, rfl, ck7_0.ch0 cc⟩, fun hv Op O wk hO ck hO0 => ?_⟩ ?_
  ·
   refine Need.here rfl rfl rfl rfl ?_
   rintro _ ⟨v60, v43, v50, rfl, e104, rfl, ck6_0⟩
   obtain rfl := e104.symm
   refine rl_lenR rfl (SlO.read (S' := nb) k_Group_pos ck6_0 (fun b hs h => hs (False.elim h)) (fun b hb => fun h => h)) Tryz.underlying37 rfl ?_
   have hb106 : ∀ b, (inBlk v60) b → ((inBlk v60) b ∨ wk.heap.size ≤ b) ∧ b < wk.heap.size := fun b h => ⟨.inl h, (fun b hb => (ck6_0.lt b hb).2) b h⟩
   exact RL.nil ⟨_, (inBlk v60), rfl, hb106, Ch.refl, ⟨v60, v43, v50, rfl, rfl, rfl, ck6_0⟩⟩
  refine Each.consS (fun fl O wk hE hN hO ck => ?_) ?_
  ·
   refine rl_move rfl rfl ?_
   exact RL.nil ⟨_, rfl, Ch.refl, rfl⟩
  trivial
 intro hvO110 OpO110 O110 w108 hO111 c109 hN112
 refine Need.here rfl rfl rfl rfl ?_
 rintro _ ⟨v60, v43, v50, rfl, e113, rfl, ck7_0⟩
 obtain rfl := e113.symm
 have ha114 : ∀ b, b < w40.heap.size → ¬ nb b → ¬ nb b ∧ ¬ (un (inBlk v60) nb) b := fun b hb hs => ⟨fun h => h.elim, fun h => un_el h (fun h => (hO111 b h).1.elim (fun h => h.elim) (fun h => Nat.not_le_of_lt hb h)) (fun h => False.elim h)⟩
 have ah0_0 := slRep.st k_Face_pos ah0_0 c109 ha114
 have ah0_1 := slRep.st k_Group_pos ah0_1 c109 ha114
 have ah1_0 := slRep.st k_Face_pos ah1_0 c109 ha114
 have ah1_1 := slRep.st k_Group_pos ah1_1 c109 ha114
 have gp1n : (G F w.heap.size (un (inBlk v60) nb)) p1 := ⟨gp1.1, (ha114 _ k4.lt gp1.2).2⟩
 have k4 := k4.ch0 c109
 have gp1 := gp1n
 have gp5n : (G F w.heap.size (un (inBlk v60) nb)) p5 := ⟨gp5.1, (ha114 _ k8.lt gp5.2).2⟩
 have k8 := k8.ch0 c109
 have gp5 := gp5n
 have gp9n : (G F w.heap.size (un (inBlk v60) nb)) p9 := ⟨gp9.1, (ha114 _ k12.lt gp9.2).2⟩
 have k12 := k12.ch0 c109
 have gp9 := gp9n
 have c0 := c0.then0 c109
 refine Need.hist v60 rfl rfl rfl rfl rfl rfl ?_
 refine Need.o1 rfl rfl rfl (fun _ h => h) ?_
 refine RL.nil (thn_n ?_)
 have ad117 : ∀ b, b < w108.heap.size → ¬ (un (inBlk v60) nb) b → ¬ nb b ∧ ¬ nb b := fun b _ hs => ⟨fun x => x, fun h => hs (False.elim h)⟩
 have ck7_0 := SlO.read (S' := nb) k_Group_pos ck7_0 (fun b hs h => hs (False.elim h)) (fun b hb => fun h => h)
 have crf : Ch nb w108 w108 := Ch.refl
 have ah0_0 := slRep.st k_Face_pos ah0_0 crf ad117
 have ah0_1 := slRep.st k_Group_pos ah0_1 crf ad117
 have ah1_0 := slRep.st k_Face_pos ah1_0 crf ad117
 have ah1_1 := slRep.st k_Group_pos ah1_1 crf ad117
 have gp1n : (G F w.heap.size nb) p1 := ⟨gp1.1, (ad117 _ k4.lt gp1.2).2⟩
 have k4 := k4.ch0 crf
 have gp1 := gp1n
 have gp5n : (G F w.heap.size nb) p5 := ⟨gp5.1, (ad117 _ k8.lt gp5.2).2⟩
 have k8 := k8.ch0 crf
 have gp5 := gp5n
 have gp9n : (G F w.heap.size nb) p9 := ⟨gp9.1, (ad117 _ k12.lt gp9.2).2⟩
 have k12 := k12.ch0 crf
 have gp9 := gp9n
 have c0 := c0.then0 crf
 obtain ⟨o125, ho126⟩ : ∃ o, runB F5_ResolveR_b1 (([] ++ a0.groups) ++ a1.groups) () = o := ⟨_, rfl⟩
 have hS := ltS ho126 hS
 refine CW.cutB (fun E' w' => ∃ (_ : Unit), Sub [(3, (PV p1)), (4, (PV p5)), (5, (PV p9))] E' ∧ Ch nb w w' ∧ Lp.fin () = o125 ∧ slRep k_Face (G F w.heap.size nb) w' a0.faces az0_0 ∧ slRep k_Group (G F w.heap.size nb) w' a0.groups az0_1 ∧ slRep k_Face (G F w.heap.size nb) w' a1.faces az1_0 ∧ slRep k_Group (G F w.heap.size nb) w' a1.groups az1_1 ∧ Blk w' p1 39 (Resolved.c a0 az0_0 az0_1) ∧ Blk w' p5 39 (Resolved.c a1 az1_0 az1_1) ∧ Blk w' p9 47 (Face.enc a2) ∧ slRep k_Group (G F w.heap.size nb) w' (([] ++ a0.groups) ++ a1.groups) v60 ∧ (G F w.heap.size nb) p1 ∧ (G F w.heap.size nb) p5 ∧ (G F w.heap.size nb) p9) ?_ ?_
 ·
  refine CW.loopS [(3, (PV p1)), (4, (PV p5)), (5, (PV p9)), (54, v60), (55, (Value.int .i64 (((([] ++ a0.groups) ++ a1.groups).length : Nat) : Int))), (56, (Value.int .i64 ((0 : Nat) : Int)))] ⟨rfl, rfl, rfl, rfl, rfl, rfl, trivial⟩ (([] ++ a0.groups) ++ a1.groups).length (fun m E w' => ∃ (rest118 : List Group) (i119 : Nat) , m = rest118.length ∧ E = [(3, (PV p1)), (4, (PV p5)), (5, (PV p9)), (54, v60), (55, (Value.int .i64 (((([] ++ a0.groups) ++ a1.groups).length : Nat) : Int))), (56, (Value.int .i64 ((i119 : Nat) : Int)))] ∧ Ch nb w w' ∧ At (([] ++ a0.groups) ++ a1.groups) i119 rest118 ∧ runB F5_ResolveR_b1 rest118 () = o125 ∧ slRep k_Face (G F w.heap.size nb) w' a0.faces az0_0 ∧ slRep k_Group (G F w.heap.size nb) w' a0.groups az0_1 ∧ slRep k_Face (G F w.heap.size nb) w' a1.faces az1_0 ∧ slRep k_Group (G F w.heap.size nb) w' a1.groups az1_1 ∧ Blk w' p1 39 (Resolved.c a0 az0_0 az0_1) ∧ Blk w' p5 39 (Resolved.c a1 az1_0 az1_1) ∧ Blk w' p9 47 (Face.enc a2) ∧ slRep k_Group (G F w.heap.size nb) w' (([] ++ a0.groups) ++ a1.groups) v60 ∧ (G F w.heap.size nb) p1 ∧ (G F w.heap.size nb) p5 ∧ (G F w.heap.size nb) p9)
      ⟨([] ++ a0.groups) ++ a1.groups, 0, rfl, rfl, c0, At.start, ho126, ah0_0, ah0_1, ah1_0, ah1_1, k4, k8, k12, ck7_0, gp1, gp5, gp9⟩ ?_
  rintro _ _ w131 ⟨rest118, i119, rfl, rfl, c130, hat121, hL120, ah0_0, ah0_1, ah1_0, ah1_1, k4, k8, k12, ck7_0, gp1, gp5, gp9⟩
  refine CW.seq (CW.region ?_)
  refine rl_bin rfl rfl B.lss rfl ?_
  refine RL.nil (thn_n ?_)
  refine CW.seq ?_
  refine CW.cond (t := decide (((i119 : Nat) : Int) < (((([] ++ a0.groups) ++ a1.groups).length : Nat) : Int))) rfl (fun q133 => ?_) (fun q133 => ?_)
  ·
   obtain ⟨x127, rest134, rfl⟩ := hat121.cons q133
   obtain ⟨q122, hq123⟩ : ∃ q, F5_ResolveR_b1 x127 () = q := ⟨_, rfl⟩
   have hb124 := hq123
   refine CW.skip (thn_n ?_)
   refine CW.seq ?_
   refine CW.block ?_
   refine CW.seq (CW.region ?_)
   refine rl_ixR rfl ck7_0 rfl hat121.get Tryz.underlying37 Tryz.sizeOf50 rfl ?_
   intro p135 o136 cs137 hr138 hs139 hg140
   obtain ⟨z141, rfl, h142⟩ := hr138
   refine rl_loadA (cs := (Group.c x127 z141)) rfl Tryz.isAgg50 Tryz.sizeOf50 (hs139) rfl rfl ?_
   refine rl_alloc (Group.c Group.z (Value.slice none 0 0)) Tryz.zeroValue50 rfl rfl ?_
   intro p143 w144 n145 k146
   have lo147 : ∀ b, inBlk (PV p143) b → w.heap.size ≤ b := fun b h => Nat.le_trans c130.size (n145.fresh b h)
   have ah0_0 := slRep.st k_Face_pos ah0_0 n145.ch (admNew n145.fresh (fun _ x => x))
   have ah0_1 := slRep.st k_Group_pos ah0_1 n145.ch (admNew n145.fresh (fun _ x => x))
   have ah1_0 := slRep.st k_Face_pos ah1_0 n145.ch (admNew n145.fresh (fun _ x => x))
   have ah1_1 := slRep.st k_Group_pos ah1_1 n145.ch (admNew n145.fresh (fun _ x => x))
   have gp1n : (G F w.heap.size (un (inBlk (PV p143)) nb)) p1 := ⟨gp1.1, ((admNew n145.fresh (fun _ x => x)) _ k4.lt gp1.2).2⟩
   have k4 := k4.ch0 n145.ch
   have gp1 := gp1n
   have gp5n : (G F w.heap.size (un (inBlk (PV p143)) nb)) p5 := ⟨gp5.1, ((admNew n145.fresh (fun _ x => x)) _ k8.lt gp5.2).2⟩
   have k8 := k8.ch0 n145.ch
   have gp5 := gp5n
   have gp9n : (G F w.heap.size (un (inBlk (PV p143)) nb)) p9 := ⟨gp9.1, ((admNew n145.fresh (fun _ x => x)) _ k12.lt gp9.2).2⟩
   have k12 := k12.ch0 n145.ch
   have gp9 := gp9n
   have ck7_0 := slRep.st k_Group_pos ck7_0 n145.ch (admNew n145.fresh (fun _ x => x))
   have h142 := slRep.st k_Point_pos h142 n145.ch (admNew n145.fresh (fun _ x => x))
   have c130 := c130.then0 n145.ch
   refine rl_storeA (vs := (Group.c x127 z141)) rfl rfl (Kd.one _ (show k_Group.rep (G F w.heap.size (un (inBlk (PV p143)) nb)) w144 x127 (Group.c x127 z141) from ⟨z141, rfl, h142⟩)) Tryz.sizeOf50 rfl k146 rfl ?_
   intro w148 s150 c149 k151
   have ad152 : ∀ b, b < w144.heap.size → ¬ (un (inBlk (PV p143)) nb) b → ¬ (inBlk (PV p143)) b ∧ ¬ (un (inBlk (PV p143)) nb) b := fun b _ hs => ⟨fun h => hs (.inl h), hs⟩
   have ah0_0 := slRep.st k_Face_pos ah0_0 c149 ad152
   have ah0_1 := slRep.st k_Group_pos ah0_1 c149 ad152
   have ah1_0 := slRep.st k_Face_pos ah1_0 c149 ad152
   have ah1_1 := slRep.st k_Group_pos ah1_1 c149 ad152
   have k4 := k4.ch c149 (ad152 _ k4.lt gp1.2).1
   have k8 := k8.ch c149 (ad152 _ k8.lt gp5.2).1
   have k12 := k12.ch c149 (ad152 _ k12.lt gp9.2).1
   have ck7_0 := slRep.st k_Group_pos ck7_0 c149 ad152
   have h142 := slRep.st k_Point_pos h142 c149 ad152
   have c130 := c130.then c149 (fun i hi h => absurd (lo147 i h) (Nat.not_le_of_lt hi))
   refine RL.nil (thn_n (CW.seq (CW.region ?_)))
   refine rl_fieldAddr rfl fa50_4 rfl ?_
   refine rl_loadS (v := z141) rfl Tryz.isAgg48 (k151.cell rfl) rfl ?_
   refine rl_lenR rfl h142 Tryz.underlying48 rfl ?_
   refine rl_bin rfl rfl B.gtr rfl ?_
   refine rl_move rfl rfl ?_
   obtain ⟨b155, hb156⟩ : ∃ v, ((decide (((x127.points.length : Nat) : Int) > 60)) || (decide (((x127.name.size : Nat) : Int) > 100))) = v := ⟨_, rfl⟩
   have hb124 := ltS hb156 hb124
   refine RL.join 5 69 (.bool b155) (fun w' => Ch nb w148 w') ?_ ?_
   · rcases Bool.eq_false_or_eq_true (decide (((x127.points.length : Nat) : Int) > 60)) with hg154 | hg154
     ·
      have hs153 := or_t hg154 hb156
      have cs : Ch nb w148 w148 := Ch.refl
      refine RL.no rfl rfl rfl hg154 rfl rfl ?_
      refine RL.no rfl rfl rfl hg154 rfl rfl ?_
      refine RL.no rfl rfl rfl hg154 rfl rfl ?_
      refine RL.no rfl rfl rfl hg154 rfl rfl ?_
      refine rl_pickT rfl hg154 rfl rfl ?_
      exact RL.nil ⟨Ext.bothEq (congrArg Value.bool hs153) (Ext.skip rfl (Ext.skip rfl (Ext.skip rfl (Ext.skip rfl (Ext.rfl'))))), cs⟩
     ·
      have hs153 := or_f hg154 hb156
      have cs : Ch nb w148 w148 := Ch.refl
      refine RL.yes rfl rfl rfl hg154 ?_
      refine rl_fieldAddr rfl fa50_0 rfl ?_
      refine RL.yes rfl rfl rfl hg154 ?_
      refine rl_loadS (v := (Value.string x127.name)) rfl Tryz.isAgg9 (k151.cell rfl) rfl ?_
      refine RL.yes rfl rfl rfl hg154 ?_
      refine rl_lenStr rfl Tryz.underlying9 rfl ?_
      refine RL.yes rfl rfl rfl hg154 ?_
      refine rl_bin rfl rfl B.gtr rfl ?_
      refine rl_pickF rfl hg154 rfl rfl ?_
      exact RL.nil ⟨Ext.bothEq (congrArg Value.bool hs153) (Ext.skip rfl (Ext.skip rfl (Ext.skip rfl (Ext.skip rfl (Ext.rfl'))))), cs⟩
   intro w157 c158
   have ah0_0 := slRep.ch k_Face_pos ah0_0 c158
   have ah0_1 := slRep.ch k_Group_pos ah0_1 c158
   have ah1_0 := slRep.ch k_Face_pos ah1_0 c158
   have ah1_1 := slRep.ch k_Group_pos ah1_1 c158
   have k4 := k4.ch0 c158
   have k8 := k8.ch0 c158
   have k12 := k12.ch0 c158
   have ck7_0 := slRep.ch k_Group_pos ck7_0 c158
   have c130 := c130.then0 c158
   refine RL.nil (thn_n ?_)
   refine CW.cond (t := b155) rfl (fun q159 => ?_) (fun q159 => ?_)
   ·
    have hb124 := ifT q159 hb124
    refine CW.seq (CW.region ?_)
    refine rl_assign rfl rfl ?_
    refine RL.nil (thn_n (CW.ret ?_))
    refine inB_ret ?_
    refine thn_ret ?_
    refine thn_ret (inB_ret (thn_ret ?_))
    refine thn_ret ?_
    have f160 := runB_ret hL120 (hb124.trans hq123.symm)
    have hS := retS f160 hS
    obtain rfl := Option.some.inj hS
    exact ret1 rfl ⟨rfl, c130⟩
   have hb124 := ifF q159 hb124
   refine CW.skip ?_
   refine inB_n ?_
   refine thn_n (CW.region ?_)
   refine rl_inc rfl hat121.lt ck7_0.big rfl ?_
   refine rl_move rfl rfl ?_
   refine RL.nil (thn_n ?_)
   have ad161 : ∀ b, b < w157.heap.size → ¬ (un (inBlk (PV p143)) nb) b → ¬ nb b ∧ ¬ nb b := fun b _ hs => ⟨fun x => x, fun h => hs (False.elim h)⟩
   have crf : Ch nb w157 w157 := Ch.refl
   have ah0_0 := slRep.st k_Face_pos ah0_0 crf ad161
   have ah0_1 := slRep.st k_Group_pos ah0_1 crf ad161
   have ah1_0 := slRep.st k_Face_pos ah1_0 crf ad161
   have ah1_1 := slRep.st k_Group_pos ah1_1 crf ad161
   have gp1n : (G F w.heap.size nb) p1 := ⟨gp1.1, (ad161 _ k4.lt gp1.2).2⟩
   have k4 := k4.ch0 crf
   have gp1 := gp1n
   have gp5n : (G F w.heap.size nb) p5 := ⟨gp5.1, (ad161 _ k8.lt gp5.2).2⟩
   have k8 := k8.ch0 crf
   have gp5 := gp5n
   have gp9n : (G F w.heap.size nb) p9 := ⟨gp9.1, (ad161 _ k12.lt gp9.2).2⟩
   have k12 := k12.ch0 crf
   have gp9 := gp9n
   have ck7_0 := slRep.st k_Group_pos ck7_0 crf ad161
   have c130 := c130.then0 crf
   have hLn := runB_next hL120 (hb124.trans hq123.symm)
   exact ⟨rest134.length, Nat.lt_succ_self _, [(3, (PV p1)), (4, (PV p5)), (5, (PV p9)), (54, v60), (55, (Value.int .i64 (((([] ++ a0.groups) ++ a1.groups).length : Nat) : Int))), (56, (Value.int .i64 ((i119 + 1 : Nat) : Int)))], ⟨rfl, rfl, rfl, rfl, rfl, rfl, trivial⟩, ⟨rest134, i119 + 1, rfl, rfl, c130, hat121.next, hLn, ah0_0, ah0_1, ah1_0, ah1_1, k4, k8, k12, ck7_0, gp1, gp5, gp9⟩⟩
  obtain rfl := hat121.nil q133
  have hLf : Lp.fin () = o125 := hL120
  refine CW.exit (thn_exit (thn_exit (inB_hit ?_)))
  exact ⟨(), ⟨rfl, rfl, rfl, trivial⟩, c130, hLf, ah0_0, ah0_1, ah1_0, ah1_1, k4, k8, k12, ck7_0, gp1, gp5, gp9⟩
 rintro _ w163 ⟨_, hE164, c162, f165, ah0_0, ah0_1, ah1_0, ah1_1, k4, k8, k12, ck7_0, gp1, gp5, gp9⟩
 have hS := finS f165 hS
 refine thn_n (CW.sub [(3, (PV p1)), (4, (PV p5)), (5, (PV p9))] hE164 ?_)
 refine CW.seq ?_
 obtain ⟨y169, hy170, hS⟩ := bindS hS
 obtain ⟨y177, hy178, hS⟩ := bindS hS
 refine CW.draw 6 [(none, fun fx O uu wx => uu = (Value.agg (Resolved.c a0 az0_0 az0_1).toArray)), (none, fun fx O uu wx => ∃ (z171 : Value) (z172 : Value), uu = (Value.agg (Resolved.c y169 z171 z172).toArray) ∧ slRep k_Face (G F w.heap.size (un O nb)) wx y169.faces z171 ∧ slRep k_Group (G F w.heap.size (un O nb)) wx y169.groups z172), (none, fun fx O uu wx => uu = (Value.agg (Resolved.c a1 az1_0 az1_1).toArray)), (none, fun fx O uu wx => ∃ (z179 : Value) (z180 : Value), uu = (Value.agg (Resolved.c y177 z179 z180).toArray) ∧ slRep k_Face (G F w.heap.size (un O nb)) wx y177.faces z179 ∧ slRep k_Group (G F w.heap.size (un O nb)) wx y177.groups z180), (some false, fun _ O uu wx => ∃ (p183 : Nat), uu = (PV p183) ∧ O = (inBlk (PV p183)) ∧ Blk wx p183 57 (Resolved.c Resolved.z (Value.slice none 0 0) (Value.slice none 0 0))), (some false, fun _ O uu wx => ∃ (p188 : Nat), uu = (PV p188) ∧ O = (inBlk (PV p188)) ∧ Blk wx p188 57 (Resolved.c Resolved.z (Value.slice none 0 0) (Value.slice none 0 0)))] [[], [0], [], [2], [], []] [4, 5, 1, 3] nb (fun _ h => h.elim) mixed rfl rfl rfl rfl ?_ ?_
 ·
  refine Each.consS (fun fl O wk hE hN hO ck => ?_) ?_
  ·
   have k4 := k4.ch0 ck
   refine rl_loadA (cs := (Resolved.c a0 az0_0 az0_1)) rfl Tryz.isAgg39 Tryz.sizeOf39 (k4.segAt 0 4) rfl rfl ?_
   exact RL.nil ⟨_, rfl, Ch.refl, rfl⟩
  refine Each.consA ⟨fun _ _ _ _ _ cc hh => by obtain ⟨z171, z172, e, h173, h174⟩ := hh; exact ⟨z171, z172, e, slRep.ch k_Face_pos h173 cc, slRep.ch k_Group_pos h174 cc⟩, fun _ _ h' O O' D _ wx wy hfl hD hO' cc hh => by obtain ⟨z171, z172, e, h173, h174⟩ := hh; have ad := admGh (S := nb) hD hO'; exact ⟨z171, z172, e, slRep.st k_Face_pos h173 cc ad, slRep.st k_Group_pos h174 cc ad⟩, fun fl O wk hE hN hO ck => ?_⟩ ?_
  ·
   have ha205 : ∀ b, b < w163.heap.size → ¬ nb b → ¬ nb b ∧ ¬ (un O nb) b := fun b hb hs => ⟨fun h => h.elim, fun h => un_el h (fun ho => (hO b ho).1.elim (fun h => h.elim) (fun h => Nat.not_le_of_lt hb h)) (fun h => False.elim h)⟩
   have ah0_0 := slRep.st k_Face_pos ah0_0 ck ha205
   have ah0_1 := slRep.st k_Group_pos ah0_1 ck ha205
   have c162 := c162.then0 ck
   refine Need.o1 rfl rfl rfl (fun _ h => h) ?_
   refine rl_callF rfl en17 rfl (ctr17 (G F w.heap.size (un O nb)) wk a0 az0_0 az0_1 ah0_0 ah0_1 y169 hy170) ?_
   rintro _ w207 ⟨z209, z210, rfl, h211, h212, c208⟩
   have h211 := slRep.back k_Face_pos h211 (un_lt (fun b h => (hO b h).2) nbS) c162.size
   have h212 := slRep.back k_Group_pos h212 (un_lt (fun b h => (hO b h).2) nbS) c162.size
   exact RL.nil ⟨_, rfl, c208, ⟨z209, z210, rfl, h211, h212⟩⟩
  refine Each.consS (fun fl O wk hE hN hO ck => ?_) ?_
  ·
   have k8 := k8.ch0 ck
   refine rl_loadA (cs := (Resolved.c a1 az1_0 az1_1)) rfl Tryz.isAgg39 Tryz.sizeOf39 (k8.segAt 0 4) rfl rfl ?_
   exact RL.nil ⟨_, rfl, Ch.refl, rfl⟩
  refine Each.consA ⟨fun _ _ _ _ _ cc hh => by obtain ⟨z179, z180, e, h181, h182⟩ := hh; exact ⟨z179, z180, e, slRep.ch k_Face_pos h181 cc, slRep.ch k_Group_pos h182 cc⟩, fun _ _ h' O O' D _ wx wy hfl hD hO' cc hh => by obtain ⟨z179, z180, e, h181, h182⟩ := hh; have ad := admGh (S := nb) hD hO'; exact ⟨z179, z180, e, slRep.st k_Face_pos h181 cc ad, slRep.st k_Group_pos h182 cc ad⟩, fun fl O wk hE hN hO ck => ?_⟩ ?_
  ·
   have ha214 : ∀ b, b < w163.heap.size → ¬ nb b → ¬ nb b ∧ ¬ (un O nb) b := fun b hb hs => ⟨fun h => h.elim, fun h => un_el h (fun ho => (hO b ho).1.elim (fun h => h.elim) (fun h => Nat.not_le_of_lt hb h)) (fun h => False.elim h)⟩
   have ah1_0 := slRep.st k_Face_pos ah1_0 ck ha214
   have ah1_1 := slRep.st k_Group_pos ah1_1 ck ha214
   have c162 := c162.then0 ck
   refine Need.o1 rfl rfl rfl (fun _ h => h) ?_
   refine rl_callF rfl en17 rfl (ctr17 (G F w.heap.size (un O nb)) wk a1 az1_0 az1_1 ah1_0 ah1_1 y177 hy178) ?_
   rintro _ w216 ⟨z218, z219, rfl, h220, h221, c217⟩
   have h220 := slRep.back k_Face_pos h220 (un_lt (fun b h => (hO b h).2) nbS) c162.size
   have h221 := slRep.back k_Group_pos h221 (un_lt (fun b h => (hO b h).2) nbS) c162.size
   exact RL.nil ⟨_, rfl, c217, ⟨z218, z219, rfl, h220, h221⟩⟩
  refine Each.consP ⟨fun _ O _ wx wy cc hh => by obtain ⟨p183, e, rfl, ck4_0⟩ := hh; exact ⟨p183, e, rfl, ck4_0.ch0 cc⟩, fun O wk hO ck => ?_⟩ ?_
  ·
   refine rl_alloc (Resolved.c Resolved.z (Value.slice none 0 0) (Value.slice none 0 0)) Tryz.zeroValue57 rfl rfl ?_
   intro p223 w224 n225 k226
   have hb229 : ∀ b, (inBlk (PV p223)) b → wk.heap.size ≤ b ∧ b < w224.heap.size := fun b h => ⟨n225.fresh b h, k226.ltp b h⟩
   exact RL.nil ⟨_, (inBlk (PV p223)), rfl, hb229, n225.ch, ⟨p223, rfl, rfl, k226⟩⟩
  refine Each.consP ⟨fun _ O _ wx wy cc hh => by obtain ⟨p188, e, rfl, ck5_0⟩ := hh; exact ⟨p188, e, rfl, ck5_0.ch0 cc⟩, fun O wk hO ck => ?_⟩ ?_
  ·
   refine rl_alloc (Resolved.c Resolved.z (Value.slice none 0 0) (Value.slice none 0 0)) Tryz.zeroValue57 rfl rfl ?_
   intro p231 w232 n233 k234
   have hb237 : ∀ b, (inBlk (PV p231)) b → wk.heap.size ≤ b ∧ b < w232.heap.size := fun b h => ⟨n233.fresh b h, k234.ltp b h⟩
   exact RL.nil ⟨_, (inBlk (PV p231)), rfl, hb237, n233.ch, ⟨p231, rfl, rfl, k234⟩⟩
  trivial
 intro hvO240 OpO240 O240 w238 hO241 c239 hN242
 obtain ⟨hlO240, hBO240⟩ := hN242 rfl
 refine Need.made rfl rfl rfl rfl ?_
 rintro _ ⟨p183, e243, eO244, ck4_0⟩ hh245
 obtain rfl := e243.symm
 have io246 : ∀ b, inBlk (PV p183) b → _ := fun b h => (Eq.mpr (congrFun eO244 b) h)
 have hf247 : ∀ b, inBlk (PV p183) b → w163.heap.size ≤ b := fun b h => (hBO240.2.2.1 _ b (io246 b h)).1
 refine Need.made rfl rfl rfl rfl ?_
 rintro _ ⟨p188, e248, eO249, ck5_0⟩ hh250
 obtain rfl := e248.symm
 have io251 : ∀ b, inBlk (PV p188) b → _ := fun b h => (Eq.mpr (congrFun eO249 b) h)
 have hf252 : ∀ b, inBlk (PV p188) b → w163.heap.size ≤ b := fun b h => (hBO240.2.2.1 _ b (io251 b h)).1
 obtain rfl := hist_eq [(PV p183), (PV p188)] hvO240 hlO240 ⟨hh245, hh250, trivial⟩
 have d253 : ∀ b, inBlk (PV p183) b → ¬ inBlk (PV p188) b := fun b h h' => hBO240.2.2.2 _ _ b (by decide) (io246 b h) (io251 b h')
 have lo254 : ∀ b, inBlk (PV p188) b → w.heap.size ≤ b := fun b h => Nat.le_trans c162.size (hf252 b h)
 have lo255 : ∀ b, inBlk (PV p183) b → w.heap.size ≤ b := fun b h => Nat.le_trans c162.size (hf247 b h)
 have ad256 : ∀ b, b < w163.heap.size → ¬ nb b → ¬ nb b ∧ ¬ (un (inBlk (PV p188)) (un (inBlk (PV p183)) nb)) b := fun b hb hs => ⟨fun x => x, fun h => un_el h (fun h => Nat.not_le_of_lt hb (hf252 b h)) (fun h => un_el h (fun h => Nat.not_le_of_lt hb (hf247 b h)) (fun h => hs h))⟩
 have ah0_0 := slRep.st k_Face_pos ah0_0 hBO240.2.1 ad256
 have ah0_1 := slRep.st k_Group_pos ah0_1 hBO240.2.1 ad256
 have ah1_0 := slRep.st k_Face_pos ah1_0 hBO240.2.1 ad256
 have ah1_1 := slRep.st k_Group_pos ah1_1 hBO240.2.1 ad256
 have gp1n : (G F w.heap.size (un (inBlk (PV p188)) (un (inBlk (PV p183)) nb))) p1 := ⟨gp1.1, (ad256 _ k4.lt gp1.2).2⟩
 have k4 := k4.ch0 hBO240.2.1
 have gp1 := gp1n
 have gp5n : (G F w.heap.size (un (inBlk (PV p188)) (un (inBlk (PV p183)) nb))) p5 := ⟨gp5.1, (ad256 _ k8.lt gp5.2).2⟩
 have k8 := k8.ch0 hBO240.2.1
 have gp5 := gp5n
 have gp9n : (G F w.heap.size (un (inBlk (PV p188)) (un (inBlk (PV p183)) nb))) p9 := ⟨gp9.1, (ad256 _ k12.lt gp9.2).2⟩
 have k12 := k12.ch0 hBO240.2.1
 have gp9 := gp9n
 have c162 := c162.then0 hBO240.2.1
 refine Need.one rfl rfl rfl ?_
 rintro _ ⟨z171, z172, e257, h173, h174⟩
 obtain rfl := e257.symm
 have h173 := slRep.wk (F' := (G F w.heap.size (un (inBlk (PV p188)) (un (inBlk (PV p183)) nb)))) k_Face_pos h173 (fun b _ hf => ⟨hf.1, fun h => hf.2 (un_el h (fun h => (.inl ((hBO240.1 b).2 (.inr ⟨_, inPre rfl, io251 b h⟩)))) (fun h => un_el h (fun h => (.inl ((hBO240.1 b).2 (.inr ⟨_, inPre rfl, io246 b h⟩)))) (fun h => False.elim h)))⟩)
 have h174 := slRep.wk (F' := (G F w.heap.size (un (inBlk (PV p188)) (un (inBlk (PV p183)) nb)))) k_Group_pos h174 (fun b _ hf => ⟨hf.1, fun h => hf.2 (un_el h (fun h => (.inl ((hBO240.1 b).2 (.inr ⟨_, inPre rfl, io251 b h⟩)))) (fun h => un_el h (fun h => (.inl ((hBO240.1 b).2 (.inr ⟨_, inPre rfl, io246 b h⟩)))) (fun h => False.elim h)))⟩)
 refine Need.one rfl rfl rfl ?_
 rintro _ ⟨z179, z180, e258, h181, h182⟩
 obtain rfl := e258.symm
 have h181 := slRep.wk (F' := (G F w.heap.size (un (inBlk (PV p188)) (un (inBlk (PV p183)) nb)))) k_Face_pos h181 (fun b _ hf => ⟨hf.1, fun h => hf.2 (un_el h (fun h => (.inl ((hBO240.1 b).2 (.inr ⟨_, inPre rfl, io251 b h⟩)))) (fun h => un_el h (fun h => (.inl ((hBO240.1 b).2 (.inr ⟨_, inPre rfl, io246 b h⟩)))) (fun h => False.elim h)))⟩)
 have h182 := slRep.wk (F' := (G F w.heap.size (un (inBlk (PV p188)) (un (inBlk (PV p183)) nb)))) k_Group_pos h182 (fun b _ hf => ⟨hf.1, fun h => hf.2 (un_el h (fun h => (.inl ((hBO240.1 b).2 (.inr ⟨_, inPre rfl, io251 b h⟩)))) (fun h => un_el h (fun h => (.inl ((hBO240.1 b).2 (.inr ⟨_, inPre rfl, io246 b h⟩)))) (fun h => False.elim h)))⟩)
 refine rl_storeA (vs := (Resolved.c y169 z171 z172)) rfl rfl (Kd.one _ (show k_Resolved.rep (G F w.heap.size (un (inBlk (PV p188)) (un (inBlk (PV p183)) nb))) w238 y169 (Resolved.c y169 z171 z172) from ⟨z171, z172, rfl, h173, h174⟩)) Tryz.sizeOf57 rfl ck4_0 rfl ?_
 intro w259 s261 c260 k262
 have ad263 : ∀ b, b < w238.heap.size → ¬ (un (inBlk (PV p188)) (un (inBlk (PV p183)) nb)) b → ¬ (inBlk (PV p183)) b ∧ ¬ (un (inBlk (PV p188)) (un (inBlk (PV p183)) nb)) b := fun b _ hs => ⟨fun h => hs (.inr (.inl h)), hs⟩
 have ah0_0 := slRep.st k_Face_pos ah0_0 c260 ad263
 have ah0_1 := slRep.st k_Group_pos ah0_1 c260 ad263
 have ah1_0 := slRep.st k_Face_pos ah1_0 c260 ad263
 have ah1_1 := slRep.st k_Group_pos ah1_1 c260 ad263
 have k4 := k4.ch c260 (ad263 _ k4.lt gp1.2).1
 have k8 := k8.ch c260 (ad263 _ k8.lt gp5.2).1
 have k12 := k12.ch c260 (ad263 _ k12.lt gp9.2).1
 have ck5_0 := ck5_0.ch c260 ((fun b hb h => (disSym d253) b hb h) _ rfl)
 have h173 := slRep.st k_Face_pos h173 c260 ad263
 have h174 := slRep.st k_Group_pos h174 c260 ad263
 have h181 := slRep.st k_Face_pos h181 c260 ad263
 have h182 := slRep.st k_Group_pos h182 c260 ad263
 have c162 := c162.then c260 (fun i hi h => absurd (lo255 i h) (Nat.not_le_of_lt hi))
 refine rl_storeA (vs := (Resolved.c y177 z179 z180)) rfl rfl (Kd.one _ (show k_Resolved.rep (G F w.heap.size (un (inBlk (PV p188)) (un (inBlk (PV p183)) nb))) w259 y177 (Resolved.c y177 z179 z180) from ⟨z179, z180, rfl, h181, h182⟩)) Tryz.sizeOf57 rfl ck5_0 rfl ?_
 intro w264 s266 c265 k267
 have ad268 : ∀ b, b < w259.heap.size → ¬ (un (inBlk (PV p188)) (un (inBlk (PV p183)) nb)) b → ¬ (inBlk (PV p188)) b ∧ ¬ (un (inBlk (PV p188)) (un (inBlk (PV p183)) nb)) b := fun b _ hs => ⟨fun h => hs (.inl h), hs⟩
 have ah0_0 := slRep.st k_Face_pos ah0_0 c265 ad268
 have ah0_1 := slRep.st k_Group_pos ah0_1 c265 ad268
 have ah1_0 := slRep.st k_Face_pos ah1_0 c265 ad268
 have ah1_1 := slRep.st k_Group_pos ah1_1 c265 ad268
 have k4 := k4.ch c265 (ad268 _ k4.lt gp1.2).1
 have k8 := k8.ch c265 (ad268 _ k8.lt gp5.2).1
 have k12 := k12.ch c265 (ad268 _ k12.lt gp9.2).1
 have h173 := slRep.st k_Face_pos h173 c265 ad268
 have h174 := slRep.st k_Group_pos h174 c265 ad268
 have h181 := slRep.st k_Face_pos h181 c265 ad268
 have h182 := slRep.st k_Group_pos h182 c265 ad268
 have k262 := k262.ch c265 ((fun b hb h => d253 b hb h) _ rfl)
 have c162 := c162.then c265 (fun i hi h => absurd (lo254 i h) (Nat.not_le_of_lt hi))
 refine RL.nil (thn_n (CW.seq (CW.region ?_)))
 refine rl_loadA (cs := (Resolved.c a0 az0_0 az0_1)) rfl Tryz.isAgg39 Tryz.sizeOf39 (k4.segAt 0 4) rfl rfl ?_
 refine rl_loadA (cs := (Face.enc a2)) rfl Tryz.isAgg47 Tryz.sizeOf47 (k12.segAt 0 23) rfl rfl ?_
 obtain ⟨y271, hy272, hS⟩ := bindS hS
 refine rl_callF rfl en11 rfl (ctr11 (G F w.heap.size (un (inBlk (PV p188)) (un (inBlk (PV p183)) nb))) w264 a0 az0_0 az0_1 ah0_0 ah0_1 a2 y271 hy272) ?_
 rintro _ w269 ⟨z273, rfl, h274, c270⟩
 have h274 := slRep.back k_Point_pos h274 (un_lt k267.ltp (un_lt k262.ltp nbS)) c162.size
 have ah0_0 := slRep.ch k_Face_pos ah0_0 c270
 have ah0_1 := slRep.ch k_Group_pos ah0_1 c270
 have ah1_0 := slRep.ch k_Face_pos ah1_0 c270
 have ah1_1 := slRep.ch k_Group_pos ah1_1 c270
 have k4 := k4.ch0 c270
 have k8 := k8.ch0 c270
 have k12 := k12.ch0 c270
 have h173 := slRep.ch k_Face_pos h173 c270
 have h174 := slRep.ch k_Group_pos h174 c270
 have h181 := slRep.ch k_Face_pos h181 c270
 have h182 := slRep.ch k_Group_pos h182 c270
 have k262 := k262.ch0 c270
 have k267 := k267.ch0 c270
 have c162 := c162.then0 c270
 refine rl_move rfl rfl ?_
 refine rl_extract rfl rfl rfl ?_
 refine rl_extract rfl rfl rfl ?_
 refine rl_alloc (Group.c Group.z (Value.slice none 0 0)) Tryz.zeroValue50 rfl rfl ?_
 intro p275 w276 n277 k278
 have lo279 : ∀ b, inBlk (PV p275) b → w.heap.size ≤ b := fun b h => Nat.le_trans c162.size (n277.fresh b h)
 have d280 : ∀ b, inBlk (PV p275) b → ¬ inBlk (PV p188) b := disNew n277.fresh k267.ltp
 have d281 : ∀ b, inBlk (PV p275) b → ¬ inBlk (PV p183) b := disNew n277.fresh k262.ltp
 have ah0_0 := slRep.st k_Face_pos ah0_0 n277.ch (admNew n277.fresh (fun _ x => x))
 have ah0_1 := slRep.st k_Group_pos ah0_1 n277.ch (admNew n277.fresh (fun _ x => x))
 have ah1_0 := slRep.st k_Face_pos ah1_0 n277.ch (admNew n277.fresh (fun _ x => x))
 have ah1_1 := slRep.st k_Group_pos ah1_1 n277.ch (admNew n277.fresh (fun _ x => x))
 have gp1n : (G F w.heap.size (un (inBlk (PV p275)) (un (inBlk (PV p188)) (un (inBlk (PV p183)) nb)))) p1 := ⟨gp1.1, ((admNew n277.fresh (fun _ x => x)) _ k4.lt gp1.2).2⟩
 have k4 := k4.ch0 n277.ch
 have gp1 := gp1n
 have gp5n : (G F w.heap.size (un (inBlk (PV p275)) (un (inBlk (PV p188)) (un (inBlk (PV p183)) nb)))) p5 := ⟨gp5.1, ((admNew n277.fresh (fun _ x => x)) _ k8.lt gp5.2).2⟩
 have k8 := k8.ch0 n277.ch
 have gp5 := gp5n
 have gp9n : (G F w.heap.size (un (inBlk (PV p275)) (un (inBlk (PV p188)) (un (inBlk (PV p183)) nb)))) p9 := ⟨gp9.1, ((admNew n277.fresh (fun _ x => x)) _ k12.lt gp9.2).2⟩
 have k12 := k12.ch0 n277.ch
 have gp9 := gp9n
 have h173 := slRep.st k_Face_pos h173 n277.ch (admNew n277.fresh (fun _ x => x))
 have h174 := slRep.st k_Group_pos h174 n277.ch (admNew n277.fresh (fun _ x => x))
 have h181 := slRep.st k_Face_pos h181 n277.ch (admNew n277.fresh (fun _ x => x))
 have h182 := slRep.st k_Group_pos h182 n277.ch (admNew n277.fresh (fun _ x => x))
 have k262 := k262.ch0 n277.ch
 have k267 := k267.ch0 n277.ch
 have h274 := slRep.st k_Point_pos h274 n277.ch (admNew n277.fresh (fun _ x => x))
 have c162 := c162.then0 n277.ch
 refine rl_storeA (vs := (Group.c y271.1 z273)) rfl rfl (Kd.one _ (show k_Group.rep (G F w.heap.size (un (inBlk (PV p275)) (un (inBlk (PV p188)) (un (inBlk (PV p183)) nb)))) w276 y271.1 (Group.c y271.1 z273) from ⟨z273, rfl, h274⟩)) Tryz.sizeOf50 rfl k278 rfl ?_
 intro w282 s284 c283 k285
 have ad286 : ∀ b, b < w276.heap.size → ¬ (un (inBlk (PV p275)) (un (inBlk (PV p188)) (un (inBlk (PV p183)) nb))) b → ¬ (inBlk (PV p275)) b ∧ ¬ (un (inBlk (PV p275)) (un (inBlk (PV p188)) (un (inBlk (PV p183)) nb))) b := fun b _ hs => ⟨fun h => hs (.inl h), hs⟩
 have ah0_0 := slRep.st k_Face_pos ah0_0 c283 ad286
 have ah0_1 := slRep.st k_Group_pos ah0_1 c283 ad286
 have ah1_0 := slRep.st k_Face_pos ah1_0 c283 ad286
 have ah1_1 := slRep.st k_Group_pos ah1_1 c283 ad286
 have k4 := k4.ch c283 (ad286 _ k4.lt gp1.2).1
 have k8 := k8.ch c283 (ad286 _ k8.lt gp5.2).1
 have k12 := k12.ch c283 (ad286 _ k12.lt gp9.2).1
 have h173 := slRep.st k_Face_pos h173 c283 ad286
 have h174 := slRep.st k_Group_pos h174 c283 ad286
 have h181 := slRep.st k_Face_pos h181 c283 ad286
 have h182 := slRep.st k_Group_pos h182 c283 ad286
 have k262 := k262.ch c283 ((fun b hb h => (disSym d281) b hb h) _ rfl)
 have k267 := k267.ch c283 ((fun b hb h => (disSym d280) b hb h) _ rfl)
 have h274 := slRep.st k_Point_pos h274 c283 ad286
 have c162 := c162.then c283 (fun i hi h => absurd (lo279 i h) (Nat.not_le_of_lt hi))
 refine rl_assign rfl rfl ?_
 refine RL.nil (thn_n (CW.seq (CW.region ?_)))
 refine rl_fieldAddr rfl fa57_2 rfl ?_
 refine rl_loadS (v := z172) rfl Tryz.isAgg55 (k262.cell rfl) rfl ?_
 refine rl_fieldAddr rfl fa47_2 rfl ?_
 refine rl_loadS (v := (Value.string a2.name)) rfl Tryz.isAgg9 (k12.cell rfl) rfl ?_
 refine rl_fieldAddr rfl fa47_1 rfl ?_
 refine rl_fieldAddr rfl fa45_0 rfl ?_
 refine rl_fieldAddr rfl fa43_0 rfl ?_
 refine rl_loadS (v := (Value.bool a2.point.addr.six)) rfl Tryz.isAgg4 (k12.cell rfl) rfl ?_
 refine rl_fieldAddr rfl fa47_4 rfl ?_
 refine rl_loadS (v := (Value.bool a2.localF)) rfl Tryz.isAgg4 (k12.cell rfl) rfl ?_
 obtain ⟨y289, hy290⟩ : ∃ y, F22_Find y169.groups a2.name a2.point.addr.six a2.localF = y := ⟨_, rfl⟩
 have hS := ltS hy290 hS
 refine rl_callF rfl en22 rfl (ctr22 (G F w.heap.size (un (inBlk (PV p275)) (un (inBlk (PV p188)) (un (inBlk (PV p183)) nb)))) w282 y169.groups z172 h174 a2.name a2.point.addr.six a2.localF y289 hy290) ?_
 rintro _ w287 ⟨rfl, c288⟩
 have ah0_0 := slRep.ch k_Face_pos ah0_0 c288
 have ah0_1 := slRep.ch k_Group_pos ah0_1 c288
 have ah1_0 := slRep.ch k_Face_pos ah1_0 c288
 have ah1_1 := slRep.ch k_Group_pos ah1_1 c288
 have k4 := k4.ch0 c288
 have k8 := k8.ch0 c288
 have k12 := k12.ch0 c288
 have h173 := slRep.ch k_Face_pos h173 c288
 have h174 := slRep.ch k_Group_pos h174 c288
 have h181 := slRep.ch k_Face_pos h181 c288
 have h182 := slRep.ch k_Group_pos h182 c288
 have k262 := k262.ch0 c288
 have k267 := k267.ch0 c288
 have h274 := slRep.ch k_Point_pos h274 c288
 have k285 := k285.ch0 c288
 have c162 := c162.then0 c288
 refine rl_assign rfl rfl ?_
 refine RL.nil (thn_n (CW.seq ?_))
 refine CW.seq ?_
 obtain ⟨b307, hb308, hS⟩ := bindS hS
 refine CW.cutN (fun E' w' => Sub [(3, (PV p1)), (4, (PV p5)), (5, (PV p9)), (9, (PV p183)), (10, (PV p188)), (110, (Value.bool b307))] E' ∧ Ch nb w287 w') ?_ ?_
 ·
  rcases Bool.eq_false_or_eq_true (!(y271.2 == (decide (y289 ≥ 0)))) with hg309 | hg309
  ·
   have hs310 := orO_t hg309 hb308
   refine CW.draw 19 [(none, fun fx O uu wx => uu = (Value.bool y271.2)), (none, fun fx O uu wx => uu = (Value.int .i64 y289)), (none, fun fx O uu wx => uu = (Value.bool (decide (y289 ≥ 0)))), (none, fun fx O uu wx => uu = (Value.bool (!(y271.2 == (decide (y289 ≥ 0)))))), (none, fun fx O uu wx => uu = (Value.bool (!(y271.2 == (decide (y289 ≥ 0)))))), (none, fun _ O uu wx => uu = undef), (none, fun _ O uu wx => uu = undef), (none, fun _ O uu wx => uu = undef), (none, fun _ O uu wx => uu = undef), (none, fun _ O uu wx => uu = undef), (none, fun _ O uu wx => uu = undef), (none, fun _ O uu wx => uu = undef), (none, fun _ O uu wx => uu = undef), (none, fun _ O uu wx => uu = undef), (none, fun _ O uu wx => uu = undef), (none, fun _ O uu wx => uu = undef), (none, fun _ O uu wx => uu = undef), (none, fun _ O uu wx => uu = undef), (none, fun fx O uu wx => uu = (Value.bool b307))] [[], [], [1], [0, 2], [3], [4], [4], [6], [6], [6], [6], [6], [6], [6], [6], [6], [6], [4], [4]] [18] nb (fun _ h => h.elim) mixed rfl rfl rfl rfl ?_ ?_
   ·
    refine Each.consS (fun fl O wk hE hN hO ck => ?_) ?_
    ·
     refine rl_move rfl rfl ?_
     exact RL.nil ⟨_, rfl, Ch.refl, rfl⟩
    refine Each.consS (fun fl O wk hE hN hO ck => ?_) ?_
    ·
     refine rl_move rfl rfl ?_
     exact RL.nil ⟨_, rfl, Ch.refl, rfl⟩
    refine Each.consS (fun fl O wk hE hN hO ck => ?_) ?_
    ·
     refine Need.o1 rfl rfl rfl (fun _ h => h) ?_
     refine rl_bin rfl rfl B.geq rfl ?_
     exact RL.nil ⟨_, rfl, Ch.refl, rfl⟩
    refine Each.consS (fun fl O wk hE hN hO ck => ?_) ?_
    ·
     refine Need.o1 rfl rfl rfl (fun _ h => h) ?_
     refine Need.o1 rfl rfl rfl (fun _ h => h) ?_
     refine rl_bin rfl rfl (B.neqB Tryz.underlying4) rfl ?_
     exact RL.nil ⟨_, rfl, Ch.refl, rfl⟩
    refine Each.consS (fun fl O wk hE hN hO ck => ?_) ?_
    ·
     refine Need.o1 rfl rfl rfl (fun _ h => h) ?_
     refine rl_move rfl rfl ?_
     exact RL.nil ⟨_, rfl, Ch.refl, rfl⟩
    refine Each.consS (fun fl O wk hE hN hO ck => ?_) ?_
    ·
     refine Need.o1 rfl rfl rfl (fun _ h => h) ?_
     refine RL.no rfl rfl rfl hg309 rfl rfl ?_
     exact RL.nil ⟨_, rfl, Ch.refl, rfl⟩
    refine Each.consS (fun fl O wk hE hN hO ck => ?_) ?_
    ·
     refine Need.o1 rfl rfl rfl (fun _ h => h) ?_
     refine RL.no rfl rfl rfl hg309 rfl rfl ?_
     exact RL.nil ⟨_, rfl, Ch.refl, rfl⟩
    refine Each.consS (fun fl O wk hE hN hO ck => ?_) ?_
    ·
     refine Need.one rfl rfl rfl ?_
     rintro _ rfl
     refine RL.noU rfl rfl rfl rfl rfl ?_
     exact RL.nil ⟨_, rfl, Ch.refl, rfl⟩
    refine Each.consS (fun fl O wk hE hN hO ck => ?_) ?_
    ·
     refine Need.one rfl rfl rfl ?_
     rintro _ rfl
     refine RL.noU rfl rfl rfl rfl rfl ?_
     exact RL.nil ⟨_, rfl, Ch.refl, rfl⟩
    refine Each.consS (fun fl O wk hE hN hO ck => ?_) ?_
    ·
     refine Need.one rfl rfl rfl ?_
     rintro _ rfl
     refine RL.noU rfl rfl rfl rfl rfl ?_
     exact RL.nil ⟨_, rfl, Ch.refl, rfl⟩
    refine Each.consS (fun fl O wk hE hN hO ck => ?_) ?_
    ·
     refine Need.one rfl rfl rfl ?_
     rintro _ rfl
     refine RL.noU rfl rfl rfl rfl rfl ?_
     exact RL.nil ⟨_, rfl, Ch.refl, rfl⟩
    refine Each.consS (fun fl O wk hE hN hO ck => ?_) ?_
    ·
     refine Need.one rfl rfl rfl ?_
     rintro _ rfl
     refine RL.noU rfl rfl rfl rfl rfl ?_
     exact RL.nil ⟨_, rfl, Ch.refl, rfl⟩
    refine Each.consS (fun fl O wk hE hN hO ck => ?_) ?_
    ·
     refine Need.one rfl rfl rfl ?_
     rintro _ rfl
     refine RL.noU rfl rfl rfl rfl rfl ?_
     exact RL.nil ⟨_, rfl, Ch.refl, rfl⟩
    refine Each.consS (fun fl O wk hE hN hO ck => ?_) ?_
    ·
     refine Need.one rfl rfl rfl ?_
     rintro _ rfl
     refine RL.noU rfl rfl rfl rfl rfl ?_
     exact RL.nil ⟨_, rfl, Ch.refl, rfl⟩
    refine Each.consS (fun fl O wk hE hN hO ck => ?_) ?_
    ·
     refine Need.one rfl rfl rfl ?_
     rintro _ rfl
     refine RL.noU rfl rfl rfl rfl rfl ?_
     exact RL.nil ⟨_, rfl, Ch.refl, rfl⟩
    refine Each.consS (fun fl O wk hE hN hO ck => ?_) ?_
    ·
     refine Need.one rfl rfl rfl ?_
     rintro _ rfl
     refine RL.noU rfl rfl rfl rfl rfl ?_
     exact RL.nil ⟨_, rfl, Ch.refl, rfl⟩
    refine Each.consS (fun fl O wk hE hN hO ck => ?_) ?_
    ·
     refine Need.one rfl rfl rfl ?_
     rintro _ rfl
     refine RL.noU rfl rfl rfl rfl rfl ?_
     exact RL.nil ⟨_, rfl, Ch.refl, rfl⟩
    refine Each.consS (fun fl O wk hE hN hO ck => ?_) ?_
    ·
     refine Need.o1 rfl rfl rfl (fun _ h => h) ?_
     refine RL.no rfl rfl rfl hg309 rfl rfl ?_
     exact RL.nil ⟨_, rfl, Ch.refl, rfl⟩
    refine Each.consS (fun fl O wk hE hN hO ck => ?_) ?_
    ·
     refine Need.o1 rfl rfl rfl (fun _ h => h) ?_
     refine rl_pickT rfl hg309 rfl rfl ?_
     exact RL.nil ⟨_, rfl, Ch.refl, congrArg Value.bool (Option.some.inj hs310)⟩
    trivial
   intro hvO321 OpO321 O321 w319 hO322 c320 hN323
   refine Need.o1 rfl rfl rfl (fun _ h => h) ?_
   exact RL.nil ⟨rfl, ⟨rfl, rfl, rfl, rfl, rfl, rfl, trivial⟩, c320⟩
  have hs325 := orO_f hg309 hb308
  obtain ⟨b305, hb306, hs325⟩ := bindS hs325
  rcases Bool.eq_false_or_eq_true y271.2 with hg326 | hg326
  ·
   have hs327 := andO_t hg326 hb306
   obtain ⟨y297, hy298, hs327⟩ := bindS hs327
   obtain ⟨y303, hy304, hs327⟩ := bindS hs327
   refine CW.draw 19 [(none, fun fx O uu wx => uu = (Value.bool y271.2)), (none, fun fx O uu wx => uu = (Value.int .i64 y289)), (none, fun fx O uu wx => uu = (Value.bool (decide (y289 ≥ 0)))), (none, fun fx O uu wx => uu = (Value.bool (!(y271.2 == (decide (y289 ≥ 0)))))), (none, fun fx O uu wx => uu = (Value.bool (!(y271.2 == (decide (y289 ≥ 0)))))), (none, fun fx O uu wx => uu = (Value.bool y271.2)), (none, fun fx O uu wx => uu = (Value.bool y271.2)), (none, fun fx O uu wx => uu = (Value.pointer (some ⟨p275, 4, none⟩))), (none, fun fx O uu wx => uu = z273), (none, fun fx O uu wx => uu = (Value.pointer (some ⟨p183, 3, none⟩))), (none, fun fx O uu wx => uu = z172), (none, fun fx O uu wx => uu = (Value.int .i64 y289)), (none, fun fx O uu wx => ∃ (p291 : Nat) (o292 : Nat) (z299 : Value), uu = (Value.pointer (some ⟨p291, o292, none⟩)) ∧ slRep k_Point (G F w.heap.size (un (inBlk (PV p275)) (un (inBlk (PV p188)) (un (inBlk (PV p183)) nb)))) wx y297.points z299 ∧ (G F w.heap.size (un (inBlk (PV p275)) (un (inBlk (PV p188)) (un (inBlk (PV p183)) nb)))) p291 ∧ Seg wx p291 o292 (Group.c y297 z299)), (none, fun fx O uu wx => ∃ (p291_13 : Nat) (o292_13 : Nat) (z299_13 : Value), uu = (Value.pointer (some ⟨p291_13, o292_13 + 4, none⟩)) ∧ Seg wx p291_13 o292_13 (Group.c y297 z299_13) ∧ slRep k_Point (G F w.heap.size (un (inBlk (PV p275)) (un (inBlk (PV p188)) (un (inBlk (PV p183)) nb)))) wx y297.points z299_13 ∧ (G F w.heap.size (un (inBlk (PV p275)) (un (inBlk (PV p188)) (un (inBlk (PV p183)) nb)))) p291_13), (none, fun fx O uu wx => ∃ (z299_13_14 : Value), uu = z299_13_14 ∧ slRep k_Point (G F w.heap.size (un (inBlk (PV p275)) (un (inBlk (PV p188)) (un (inBlk (PV p183)) nb)))) wx y297.points z299_13_14), (none, fun fx O uu wx => uu = (Value.bool y303)), (none, fun fx O uu wx => uu = (Value.bool (!y303))), (none, fun fx O uu wx => uu = (Value.bool b305)), (none, fun fx O uu wx => uu = (Value.bool b307))] [[], [], [1], [0, 2], [3], [4], [4, 5], [6], [6, 7], [6], [6, 9], [6], [6, 10, 11], [6, 12], [6, 13], [6, 8, 14], [6, 15], [4, 6, 16], [4, 17]] [18] nb (fun _ h => h.elim) mixed rfl rfl rfl rfl ?_ ?_
   ·
    refine Each.consS (fun fl O wk hE hN hO ck => ?_) ?_
    ·
     refine rl_move rfl rfl ?_
     exact RL.nil ⟨_, rfl, Ch.refl, rfl⟩
    refine Each.consS (fun fl O wk hE hN hO ck => ?_) ?_
    ·
     refine rl_move rfl rfl ?_
     exact RL.nil ⟨_, rfl, Ch.refl, rfl⟩
    refine Each.consS (fun fl O wk hE hN hO ck => ?_) ?_
    ·
     refine Need.o1 rfl rfl rfl (fun _ h => h) ?_
     refine rl_bin rfl rfl B.geq rfl ?_
     exact RL.nil ⟨_, rfl, Ch.refl, rfl⟩
    refine Each.consS (fun fl O wk hE hN hO ck => ?_) ?_
    ·
     refine Need.o1 rfl rfl rfl (fun _ h => h) ?_
     refine Need.o1 rfl rfl rfl (fun _ h => h) ?_
     refine rl_bin rfl rfl (B.neqB Tryz.underlying4) rfl ?_
     exact RL.nil ⟨_, rfl, Ch.refl, rfl⟩
    refine Each.consS (fun fl O wk hE hN hO ck => ?_) ?_
    ·
     refine Need.o1 rfl rfl rfl (fun _ h => h) ?_
     refine rl_move rfl rfl ?_
     exact RL.nil ⟨_, rfl, Ch.refl, rfl⟩
    refine Each.consS (fun fl O wk hE hN hO ck => ?_) ?_
    ·
     refine Need.o1 rfl rfl rfl (fun _ h => h) ?_
     refine RL.yes rfl rfl rfl hg309 ?_
     refine rl_move rfl rfl ?_
     exact RL.nil ⟨_, rfl, Ch.refl, rfl⟩
    refine Each.consS (fun fl O wk hE hN hO ck => ?_) ?_
    ·
     refine Need.o1 rfl rfl rfl (fun _ h => h) ?_
     refine Need.o1 rfl rfl rfl (fun _ h => h) ?_
     refine RL.yes rfl rfl rfl hg309 ?_
     refine rl_move rfl rfl ?_
     exact RL.nil ⟨_, rfl, Ch.refl, rfl⟩
    refine Each.consS (fun fl O wk hE hN hO ck => ?_) ?_
    ·
     refine Need.o1 rfl rfl rfl (fun _ h => h) ?_
     refine RL.yes rfl rfl rfl hg326 ?_
     refine rl_fieldAddr rfl fa50_4 rfl ?_
     exact RL.nil ⟨_, rfl, Ch.refl, rfl⟩
    refine Each.consS (fun fl O wk hE hN hO ck => ?_) ?_
    ·
     have k285 := k285.ch0 ck
     refine Need.o1 rfl rfl rfl (fun _ h => h) ?_
     refine Need.o1 rfl rfl rfl (fun _ h => h) ?_
     refine RL.yes rfl rfl rfl hg326 ?_
     refine rl_loadS (v := z273) rfl Tryz.isAgg48 (k285.cell rfl) rfl ?_
     exact RL.nil ⟨_, rfl, Ch.refl, rfl⟩
    refine Each.consS (fun fl O wk hE hN hO ck => ?_) ?_
    ·
     refine Need.o1 rfl rfl rfl (fun _ h => h) ?_
     refine RL.yes rfl rfl rfl hg326 ?_
     refine rl_fieldAddr rfl fa57_2 rfl ?_
     exact RL.nil ⟨_, rfl, Ch.refl, rfl⟩
    refine Each.consS (fun fl O wk hE hN hO ck => ?_) ?_
    ·
     have k262 := k262.ch0 ck
     refine Need.o1 rfl rfl rfl (fun _ h => h) ?_
     refine Need.o1 rfl rfl rfl (fun _ h => h) ?_
     refine RL.yes rfl rfl rfl hg326 ?_
     refine rl_loadS (v := z172) rfl Tryz.isAgg55 (k262.cell rfl) rfl ?_
     exact RL.nil ⟨_, rfl, Ch.refl, rfl⟩
    refine Each.consS (fun fl O wk hE hN hO ck => ?_) ?_
    ·
     refine Need.o1 rfl rfl rfl (fun _ h => h) ?_
     refine RL.yes rfl rfl rfl hg326 ?_
     refine rl_move rfl rfl ?_
     exact RL.nil ⟨_, rfl, Ch.refl, rfl⟩
    refine Each.consA ⟨fun _ _ _ _ _ cc hh => by obtain ⟨p291, o292, z299, e, h300, hg296, hs295⟩ := hh; exact ⟨p291, o292, z299, e, slRep.ch k_Point_pos h300 cc, hg296, hs295.ch0 cc⟩, fun h => absurd rfl h, fun fl O wk hE hN hO ck => ?_⟩ ?_
    ·
     have h174 := slRep.ch k_Group_pos h174 ck
     refine Need.o1 rfl rfl rfl (fun _ h => h) ?_
     refine Need.o1 rfl rfl rfl (fun _ h => h) ?_
     refine Need.o1 rfl rfl rfl (fun _ h => h) ?_
     refine RL.yes rfl rfl rfl hg326 ?_
     refine rl_ixI rfl h174 rfl (ixO_get hy298) Tryz.underlying55 Tryz.sizeOf75 rfl ?_
     intro p345 o346 cs347 hr348 hs349 hg350
     obtain ⟨z351, rfl, h352⟩ := hr348
     exact RL.nil ⟨_, rfl, Ch.refl, ⟨p345, o346, z351, rfl, h352, hg350, hs349⟩⟩
    refine Each.consA ⟨fun _ _ _ _ _ cc hh => by obtain ⟨p291_13, o292_13, z299_13, e, hs295_13, h300_13, hg296_13⟩ := hh; exact ⟨p291_13, o292_13, z299_13, e, hs295_13.ch0 cc, slRep.ch k_Point_pos h300_13 cc, hg296_13⟩, fun h => absurd rfl h, fun fl O wk hE hN hO ck => ?_⟩ ?_
    ·
     refine Need.o1 rfl rfl rfl (fun _ h => h) ?_
     refine Need.one rfl rfl rfl ?_
     rintro _ ⟨p291, o292, z299, e354, h300, hg296, hs295⟩
     obtain rfl := e354.symm
     refine RL.yes rfl rfl rfl hg326 ?_
     refine rl_fieldAddr rfl fa75_4 rfl ?_
     exact RL.nil ⟨_, rfl, Ch.refl, ⟨p291, o292, z299, rfl, hs295, h300, hg296⟩⟩
    refine Each.consA ⟨fun _ _ _ _ _ cc hh => by obtain ⟨z299_13_14, e, h300_13_14⟩ := hh; exact ⟨z299_13_14, e, slRep.ch k_Point_pos h300_13_14 cc⟩, fun h => absurd rfl h, fun fl O wk hE hN hO ck => ?_⟩ ?_
    ·
     refine Need.o1 rfl rfl rfl (fun _ h => h) ?_
     refine Need.one rfl rfl rfl ?_
     rintro _ ⟨p291_13, o292_13, z299_13, e356, hs295_13, h300_13, hg296_13⟩
     obtain rfl := e356.symm
     refine RL.yes rfl rfl rfl hg326 ?_
     refine rl_loadS (v := z299_13) rfl Tryz.isAgg48 (hs295_13 4 _ rfl) rfl ?_
     exact RL.nil ⟨_, rfl, Ch.refl, ⟨z299_13, rfl, h300_13⟩⟩
    refine Each.consS (fun fl O wk hE hN hO ck => ?_) ?_
    ·
     have h274 := slRep.ch k_Point_pos h274 ck
     refine Need.o1 rfl rfl rfl (fun _ h => h) ?_
     refine Need.o1 rfl rfl rfl (fun _ h => h) ?_
     refine Need.one rfl rfl rfl ?_
     rintro _ ⟨z299_13_14, e359, h300_13_14⟩
     obtain rfl := e359.symm
     refine RL.yes rfl rfl rfl hg326 ?_
     refine rl_callF rfl en21 rfl (ctr21 (G F w.heap.size (un (inBlk (PV p275)) (un (inBlk (PV p188)) (un (inBlk (PV p183)) nb)))) wk y271.1.points z273 h274 y297.points z299_13_14 h300_13_14 y303 hy304) ?_
     rintro _ w360 ⟨rfl, c361⟩
     exact RL.nil ⟨_, rfl, c361, rfl⟩
    refine Each.consS (fun fl O wk hE hN hO ck => ?_) ?_
    ·
     refine Need.o1 rfl rfl rfl (fun _ h => h) ?_
     refine Need.o1 rfl rfl rfl (fun _ h => h) ?_
     refine RL.yes rfl rfl rfl hg326 ?_
     refine rl_not rfl rfl ?_
     exact RL.nil ⟨_, rfl, Ch.refl, rfl⟩
    refine Each.consS (fun fl O wk hE hN hO ck => ?_) ?_
    ·
     refine Need.o1 rfl rfl rfl (fun _ h => h) ?_
     refine Need.o1 rfl rfl rfl (fun _ h => h) ?_
     refine Need.o1 rfl rfl rfl (fun _ h => h) ?_
     refine RL.yes rfl rfl rfl hg309 ?_
     refine rl_pickT rfl hg326 rfl rfl ?_
     exact RL.nil ⟨_, rfl, Ch.refl, congrArg Value.bool (Option.some.inj hs327)⟩
    refine Each.consS (fun fl O wk hE hN hO ck => ?_) ?_
    ·
     refine Need.o1 rfl rfl rfl (fun _ h => h) ?_
     refine Need.o1 rfl rfl rfl (fun _ h => h) ?_
     refine rl_pickF rfl hg309 rfl rfl ?_
     exact RL.nil ⟨_, rfl, Ch.refl, congrArg Value.bool (Option.some.inj hs325)⟩
    trivial
   intro hvO371 OpO371 O371 w369 hO372 c370 hN373
   refine Need.o1 rfl rfl rfl (fun _ h => h) ?_
   exact RL.nil ⟨rfl, ⟨rfl, rfl, rfl, rfl, rfl, rfl, trivial⟩, c370⟩
  have hs375 := andO_f hg326 hb306
  refine CW.draw 19 [(none, fun fx O uu wx => uu = (Value.bool y271.2)), (none, fun fx O uu wx => uu = (Value.int .i64 y289)), (none, fun fx O uu wx => uu = (Value.bool (decide (y289 ≥ 0)))), (none, fun fx O uu wx => uu = (Value.bool (!(y271.2 == (decide (y289 ≥ 0)))))), (none, fun fx O uu wx => uu = (Value.bool (!(y271.2 == (decide (y289 ≥ 0)))))), (none, fun fx O uu wx => uu = (Value.bool y271.2)), (none, fun fx O uu wx => uu = (Value.bool y271.2)), (none, fun _ O uu wx => uu = undef), (none, fun _ O uu wx => uu = undef), (none, fun _ O uu wx => uu = undef), (none, fun _ O uu wx => uu = undef), (none, fun _ O uu wx => uu = undef), (none, fun _ O uu wx => uu = undef), (none, fun _ O uu wx => uu = undef), (none, fun _ O uu wx => uu = undef), (none, fun _ O uu wx => uu = undef), (none, fun _ O uu wx => uu = undef), (none, fun fx O uu wx => uu = (Value.bool b305)), (none, fun fx O uu wx => uu = (Value.bool b307))] [[], [], [1], [0, 2], [3], [4], [4, 5], [6], [6], [6], [6], [6], [6], [6], [6], [6], [6], [4, 6], [4, 17]] [18] nb (fun _ h => h.elim) mixed rfl rfl rfl rfl ?_ ?_
  ·
   refine Each.consS (fun fl O wk hE hN hO ck => ?_) ?_
   ·
    refine rl_move rfl rfl ?_
    exact RL.nil ⟨_, rfl, Ch.refl, rfl⟩
   refine Each.consS (fun fl O wk hE hN hO ck => ?_) ?_
   ·
    refine rl_move rfl rfl ?_
    exact RL.nil ⟨_, rfl, Ch.refl, rfl⟩
   refine Each.consS (fun fl O wk hE hN hO ck => ?_) ?_
   ·
    refine Need.o1 rfl rfl rfl (fun _ h => h) ?_
    refine rl_bin rfl rfl B.geq rfl ?_
    exact RL.nil ⟨_, rfl, Ch.refl, rfl⟩
   refine Each.consS (fun fl O wk hE hN hO ck => ?_) ?_
   ·
    refine Need.o1 rfl rfl rfl (fun _ h => h) ?_
    refine Need.o1 rfl rfl rfl (fun _ h => h) ?_
    refine rl_bin rfl rfl (B.neqB Tryz.underlying4) rfl ?_
    exact RL.nil ⟨_, rfl, Ch.refl, rfl⟩
   refine Each.consS (fun fl O wk hE hN hO ck => ?_) ?_
   ·
    refine Need.o1 rfl rfl rfl (fun _ h => h) ?_
    refine rl_move rfl rfl ?_
    exact RL.nil ⟨_, rfl, Ch.refl, rfl⟩
   refine Each.consS (fun fl O wk hE hN hO ck => ?_) ?_
   ·
    refine Need.o1 rfl rfl rfl (fun _ h => h) ?_
    refine RL.yes rfl rfl rfl hg309 ?_
    refine rl_move rfl rfl ?_
    exact RL.nil ⟨_, rfl, Ch.refl, rfl⟩
   refine Each.consS (fun fl O wk hE hN hO ck => ?_) ?_
   ·
    refine Need.o1 rfl rfl rfl (fun _ h => h) ?_
    refine Need.o1 rfl rfl rfl (fun _ h => h) ?_
    refine RL.yes rfl rfl rfl hg309 ?_
    refine rl_move rfl rfl ?_
    exact RL.nil ⟨_, rfl, Ch.refl, rfl⟩
   refine Each.consS (fun fl O wk hE hN hO ck => ?_) ?_
   ·
    refine Need.o1 rfl rfl rfl (fun _ h => h) ?_
    refine RL.no rfl rfl rfl hg326 rfl rfl ?_
    exact RL.nil ⟨_, rfl, Ch.refl, rfl⟩
   refine Each.consS (fun fl O wk hE hN hO ck => ?_) ?_
   ·
    refine Need.o1 rfl rfl rfl (fun _ h => h) ?_
    refine RL.no rfl rfl rfl hg326 rfl rfl ?_
    exact RL.nil ⟨_, rfl, Ch.refl, rfl⟩
   refine Each.consS (fun fl O wk hE hN hO ck => ?_) ?_
   ·
    refine Need.o1 rfl rfl rfl (fun _ h => h) ?_
    refine RL.no rfl rfl rfl hg326 rfl rfl ?_
    exact RL.nil ⟨_, rfl, Ch.refl, rfl⟩
   refine Each.consS (fun fl O wk hE hN hO ck => ?_) ?_
   ·
    refine Need.o1 rfl rfl rfl (fun _ h => h) ?_
    refine RL.no rfl rfl rfl hg326 rfl rfl ?_
    exact RL.nil ⟨_, rfl, Ch.refl, rfl⟩
   refine Each.consS (fun fl O wk hE hN hO ck => ?_) ?_
   ·
    refine Need.o1 rfl rfl rfl (fun _ h => h) ?_
    refine RL.no rfl rfl rfl hg326 rfl rfl ?_
    exact RL.nil ⟨_, rfl, Ch.refl, rfl⟩
   refine Each.consS (fun fl O wk hE hN hO ck => ?_) ?_
   ·
    refine Need.o1 rfl rfl rfl (fun _ h => h) ?_
    refine RL.no rfl rfl rfl hg326 rfl rfl ?_
    exact RL.nil ⟨_, rfl, Ch.refl, rfl⟩
   refine Each.consS (fun fl O wk hE hN hO ck => ?_) ?_
   ·
    refine Need.o1 rfl rfl rfl (fun _ h => h) ?_
    refine RL.no rfl rfl rfl hg326 rfl rfl ?_
    exact RL.nil ⟨_, rfl, Ch.refl, rfl⟩
   refine Each.consS (fun fl O wk hE hN hO ck => ?_) ?_
   ·
    refine Need.o1 rfl rfl rfl (fun _ h => h) ?_
    refine RL.no rfl rfl rfl hg326 rfl rfl ?_
    exact RL.nil ⟨_, rfl, Ch.refl, rfl⟩
   refine Each.consS (fun fl O wk hE hN hO ck => ?_) ?_
   ·
    refine Need.o1 rfl rfl rfl (fun _ h => h) ?_
    refine RL.no rfl rfl rfl hg326 rfl rfl ?_
    exact RL.nil ⟨_, rfl, Ch.refl, rfl⟩
   refine Each.consS (fun fl O wk hE hN hO ck => ?_) ?_
   ·
    refine Need.o1 rfl rfl rfl (fun _ h => h) ?_
    refine RL.no rfl rfl rfl hg326 rfl rfl ?_
    exact RL.nil ⟨_, rfl, Ch.refl, rfl⟩
   refine Each.consS (fun fl O wk hE hN hO ck => ?_) ?_
   ·
    refine Need.o1 rfl rfl rfl (fun _ h => h) ?_
    refine Need.o1 rfl rfl rfl (fun _ h => h) ?_
    refine RL.yes rfl rfl rfl hg309 ?_
    refine rl_pickF rfl hg326 rfl rfl ?_
    exact RL.nil ⟨_, rfl, Ch.refl, congrArg Value.bool (Option.some.inj hs375)⟩
   refine Each.consS (fun fl O wk hE hN hO ck => ?_) ?_
   ·
    refine Need.o1 rfl rfl rfl (fun _ h => h) ?_
    refine Need.o1 rfl rfl rfl (fun _ h => h) ?_
    refine rl_pickF rfl hg309 rfl rfl ?_
    exact RL.nil ⟨_, rfl, Ch.refl, congrArg Value.bool (Option.some.inj hs325)⟩
   trivial
  intro hvO399 OpO399 O399 w397 hO400 c398 hN401
  refine Need.o1 rfl rfl rfl (fun _ h => h) ?_
  exact RL.nil ⟨rfl, ⟨rfl, rfl, rfl, rfl, rfl, rfl, trivial⟩, c398⟩
 rintro _ w404 ⟨hE403, c405⟩
 have ah0_0 := slRep.ch k_Face_pos ah0_0 c405
 have ah0_1 := slRep.ch k_Group_pos ah0_1 c405
 have ah1_0 := slRep.ch k_Face_pos ah1_0 c405
 have ah1_1 := slRep.ch k_Group_pos ah1_1 c405
 have k4 := k4.ch0 c405
 have k8 := k8.ch0 c405
 have k12 := k12.ch0 c405
 have h173 := slRep.ch k_Face_pos h173 c405
 have h174 := slRep.ch k_Group_pos h174 c405
 have h181 := slRep.ch k_Face_pos h181 c405
 have h182 := slRep.ch k_Group_pos h182 c405
 have k262 := k262.ch0 c405
 have k267 := k267.ch0 c405
 have k285 := k285.ch0 c405
 have c162 := c162.then0 c405
 refine thn_n (CW.sub [(3, (PV p1)), (4, (PV p5)), (5, (PV p9)), (9, (PV p183)), (10, (PV p188)), (110, (Value.bool b307))] hE403 ?_)
 refine CW.cond (t := b307) rfl (fun q406 => ?_) (fun q406 => ?_)
 ·
  have hS := ifT q406 hS
  refine CW.seq (CW.region ?_)
  refine rl_assign rfl rfl ?_
  refine RL.nil (thn_n (CW.ret ?_))
  refine thn_ret ?_
  obtain rfl := Option.some.inj hS
  exact ret1 rfl ⟨rfl, c162⟩
 have hS := ifF q406 hS
 refine CW.skip ?_
 refine thn_n (CW.seq (CW.region ?_))
 refine rl_loadA (cs := (Resolved.c a0 az0_0 az0_1)) rfl Tryz.isAgg39 Tryz.sizeOf39 (k4.segAt 0 4) rfl rfl ?_
 refine rl_fieldAddr rfl fa47_0 rfl ?_
 refine rl_loadS (v := (Value.int .i64 a2.proto)) rfl Tryz.isAgg3 (k12.cell rfl) rfl ?_
 refine rl_fieldAddr rfl fa47_1 rfl ?_
 refine rl_loadA (cs := (Point.enc a2.point)) rfl Tryz.isAgg45 Tryz.sizeOf45 (k12.segAt 1 18) rfl rfl ?_
 obtain ⟨y409, hy410, hS⟩ := bindS hS
 refine rl_callF rfl en19 rfl (ctr19 (G F w.heap.size (un (inBlk (PV p275)) (un (inBlk (PV p188)) (un (inBlk (PV p183)) nb)))) w404 a0 az0_0 az0_1 ah0_0 ah0_1 a2.proto a2.point y409 hy410) ?_
 rintro _ w407 ⟨v411, rfl, h412, c408⟩
 have h412 := slRep.back k_Point_pos h412 (un_lt k285.ltp (un_lt k267.ltp (un_lt k262.ltp nbS))) c162.size
 have ah0_0 := slRep.ch k_Face_pos ah0_0 c408
 have ah0_1 := slRep.ch k_Group_pos ah0_1 c408
 have ah1_0 := slRep.ch k_Face_pos ah1_0 c408
 have ah1_1 := slRep.ch k_Group_pos ah1_1 c408
 have k4 := k4.ch0 c408
 have k8 := k8.ch0 c408
 have k12 := k12.ch0 c408
 have h173 := slRep.ch k_Face_pos h173 c408
 have h174 := slRep.ch k_Group_pos h174 c408
 have h181 := slRep.ch k_Face_pos h181 c408
 have h182 := slRep.ch k_Group_pos h182 c408
 have k262 := k262.ch0 c408
 have k267 := k267.ch0 c408
 have k285 := k285.ch0 c408
 have c162 := c162.then0 c408
 refine rl_move rfl rfl ?_
 refine rl_extract rfl rfl rfl ?_
 refine rl_extract rfl rfl rfl ?_
 refine rl_assign rfl rfl ?_
 refine rl_assign rfl rfl ?_
 refine RL.nil (thn_n (CW.seq (CW.region ?_)))
 refine rl_loadA (cs := (Resolved.c y169 z171 z172)) rfl Tryz.isAgg57 Tryz.sizeOf57 (k262.segAt 0 4) rfl rfl ?_
 refine rl_fieldAddr rfl fa47_0 rfl ?_
 refine rl_loadS (v := (Value.int .i64 a2.proto)) rfl Tryz.isAgg3 (k12.cell rfl) rfl ?_
 refine rl_fieldAddr rfl fa47_1 rfl ?_
 refine rl_loadA (cs := (Point.enc a2.point)) rfl Tryz.isAgg45 Tryz.sizeOf45 (k12.segAt 1 18) rfl rfl ?_
 obtain ⟨y415, hy416, hS⟩ := bindS hS
 refine rl_callF rfl en20 rfl (ctr20 (G F w.heap.size (un (inBlk (PV p275)) (un (inBlk (PV p188)) (un (inBlk (PV p183)) nb)))) w407 y169 z171 z172 h173 h174 a2.proto a2.point y415 hy416) ?_
 rintro _ w413 ⟨v417, rfl, h418, c414⟩
 have h418 := slRep.back k_Point_pos h418 (un_lt k285.ltp (un_lt k267.ltp (un_lt k262.ltp nbS))) c162.size
 have ah0_0 := slRep.ch k_Face_pos ah0_0 c414
 have ah0_1 := slRep.ch k_Group_pos ah0_1 c414
 have ah1_0 := slRep.ch k_Face_pos ah1_0 c414
 have ah1_1 := slRep.ch k_Group_pos ah1_1 c414
 have k4 := k4.ch0 c414
 have k8 := k8.ch0 c414
 have h173 := slRep.ch k_Face_pos h173 c414
 have h174 := slRep.ch k_Group_pos h174 c414
 have h181 := slRep.ch k_Face_pos h181 c414
 have h182 := slRep.ch k_Group_pos h182 c414
 have k262 := k262.ch0 c414
 have k267 := k267.ch0 c414
 have h412 := slRep.ch k_Point_pos h412 c414
 have c162 := c162.then0 c414
 refine rl_move rfl rfl ?_
 refine rl_extract rfl rfl rfl ?_
 refine rl_extract rfl rfl rfl ?_
 refine rl_assign rfl rfl ?_
 refine rl_assign rfl rfl ?_
 refine RL.nil (thn_n (CW.seq ?_))
 obtain ⟨b423, hb424, hS⟩ := bindS hS
 obtain ⟨b433, hb434, hS⟩ := bindS hS
 refine CW.cutN (fun E' w' => Sub [(6, (Value.bool b433))] E' ∧ Ch nb w413 w') ?_ ?_
 ·
  rcases Bool.eq_false_or_eq_true (y409.2 == y415.2) with hg435 | hg435
  ·
   have hs436 := andO_t hg435 hb424
   obtain ⟨y421, hy422, hs436⟩ := bindS hs436
   rcases Bool.eq_false_or_eq_true b423 with hg437 | hg437
   ·
    have hs438 := andO_t hg437 hb434
    obtain ⟨y427, hy428, hs438⟩ := bindS hs438
    obtain ⟨y431, hy432, hs438⟩ := bindS hs438
    refine CW.draw 17 [(none, fun fx O uu wx => uu = (Value.bool y409.2)), (none, fun fx O uu wx => uu = (Value.bool y415.2)), (none, fun fx O uu wx => uu = (Value.bool (y409.2 == y415.2))), (none, fun fx O uu wx => uu = (Value.bool (y409.2 == y415.2))), (none, fun fx O uu wx => uu = v411), (none, fun fx O uu wx => uu = v417), (none, fun fx O uu wx => uu = (Value.bool y421)), (none, fun fx O uu wx => uu = (Value.bool b423)), (none, fun fx O uu wx => uu = (Value.bool b423)), (none, fun fx O uu wx => uu = (Value.agg (Resolved.c a0 az0_0 az0_1).toArray)), (none, fun fx O uu wx => uu = (Value.agg (Resolved.c a1 az1_0 az1_1).toArray)), (none, fun fx O uu wx => uu = (Value.bool y427)), (none, fun fx O uu wx => uu = (Value.agg (Resolved.c y169 z171 z172).toArray)), (none, fun fx O uu wx => uu = (Value.agg (Resolved.c y177 z179 z180).toArray)), (none, fun fx O uu wx => uu = (Value.bool y431)), (none, fun fx O uu wx => uu = (Value.bool (y427 == y431))), (none, fun fx O uu wx => uu = (Value.bool b433))] [[], [], [0, 1], [2], [3], [3], [3, 4, 5], [3, 6], [7], [8], [8], [8, 9, 10], [8], [8], [8, 12, 13], [8, 11, 14], [8, 15]] [16] nb (fun _ h => h.elim) mixed rfl rfl rfl rfl ?_ ?_
    ·
     refine Each.consS (fun fl O wk hE hN hO ck => ?_) ?_
     ·
      refine rl_move rfl rfl ?_
      exact RL.nil ⟨_, rfl, Ch.refl, rfl⟩
     refine Each.consS (fun fl O wk hE hN hO ck => ?_) ?_
     ·
      refine rl_move rfl rfl ?_
      exact RL.nil ⟨_, rfl, Ch.refl, rfl⟩
     refine Each.consS (fun fl O wk hE hN hO ck => ?_) ?_
     ·
      refine Need.o1 rfl rfl rfl (fun _ h => h) ?_
      refine Need.o1 rfl rfl rfl (fun _ h => h) ?_
      refine rl_bin rfl rfl (B.eqlB Tryz.underlying4) rfl ?_
      exact RL.nil ⟨_, rfl, Ch.refl, rfl⟩
     refine Each.consS (fun fl O wk hE hN hO ck => ?_) ?_
     ·
      refine Need.o1 rfl rfl rfl (fun _ h => h) ?_
      refine rl_move rfl rfl ?_
      exact RL.nil ⟨_, rfl, Ch.refl, rfl⟩
     refine Each.consS (fun fl O wk hE hN hO ck => ?_) ?_
     ·
      refine Need.o1 rfl rfl rfl (fun _ h => h) ?_
      refine RL.yes rfl rfl rfl hg435 ?_
      refine rl_move rfl rfl ?_
      exact RL.nil ⟨_, rfl, Ch.refl, rfl⟩
     refine Each.consS (fun fl O wk hE hN hO ck => ?_) ?_
     ·
      refine Need.o1 rfl rfl rfl (fun _ h => h) ?_
      refine RL.yes rfl rfl rfl hg435 ?_
      refine rl_move rfl rfl ?_
      exact RL.nil ⟨_, rfl, Ch.refl, rfl⟩
     refine Each.consS (fun fl O wk hE hN hO ck => ?_) ?_
     ·
      have h412 := slRep.ch k_Point_pos h412 ck
      have h418 := slRep.ch k_Point_pos h418 ck
      refine Need.o1 rfl rfl rfl (fun _ h => h) ?_
      refine Need.o1 rfl rfl rfl (fun _ h => h) ?_
      refine Need.o1 rfl rfl rfl (fun _ h => h) ?_
      refine RL.yes rfl rfl rfl hg435 ?_
      refine rl_callF rfl en21 rfl (ctr21 (G F w.heap.size (un (inBlk (PV p275)) (un (inBlk (PV p188)) (un (inBlk (PV p183)) nb)))) wk y409.1 v411 h412 y415.1 v417 h418 y421 hy422) ?_
      rintro _ w447 ⟨rfl, c448⟩
      exact RL.nil ⟨_, rfl, c448, rfl⟩
     refine Each.consS (fun fl O wk hE hN hO ck => ?_) ?_
     ·
      refine Need.o1 rfl rfl rfl (fun _ h => h) ?_
      refine Need.o1 rfl rfl rfl (fun _ h => h) ?_
      refine rl_pickT rfl hg435 rfl rfl ?_
      exact RL.nil ⟨_, rfl, Ch.refl, congrArg Value.bool (Option.some.inj hs436)⟩
     refine Each.consS (fun fl O wk hE hN hO ck => ?_) ?_
     ·
      refine Need.o1 rfl rfl rfl (fun _ h => h) ?_
      refine rl_move rfl rfl ?_
      exact RL.nil ⟨_, rfl, Ch.refl, rfl⟩
     refine Each.consS (fun fl O wk hE hN hO ck => ?_) ?_
     ·
      have k4 := k4.ch0 ck
      refine Need.o1 rfl rfl rfl (fun _ h => h) ?_
      refine RL.yes rfl rfl rfl hg437 ?_
      refine rl_loadA (cs := (Resolved.c a0 az0_0 az0_1)) rfl Tryz.isAgg39 Tryz.sizeOf39 (k4.segAt 0 4) rfl rfl ?_
      exact RL.nil ⟨_, rfl, Ch.refl, rfl⟩
     refine Each.consS (fun fl O wk hE hN hO ck => ?_) ?_
     ·
      have k8 := k8.ch0 ck
      refine Need.o1 rfl rfl rfl (fun _ h => h) ?_
      refine RL.yes rfl rfl rfl hg437 ?_
      refine rl_loadA (cs := (Resolved.c a1 az1_0 az1_1)) rfl Tryz.isAgg39 Tryz.sizeOf39 (k8.segAt 0 4) rfl rfl ?_
      exact RL.nil ⟨_, rfl, Ch.refl, rfl⟩
     refine Each.consS (fun fl O wk hE hN hO ck => ?_) ?_
     ·
      have ah0_0 := slRep.ch k_Face_pos ah0_0 ck
      have ah0_1 := slRep.ch k_Group_pos ah0_1 ck
      have ah1_0 := slRep.ch k_Face_pos ah1_0 ck
      have ah1_1 := slRep.ch k_Group_pos ah1_1 ck
      refine Need.o1 rfl rfl rfl (fun _ h => h) ?_
      refine Need.o1 rfl rfl rfl (fun _ h => h) ?_
      refine Need.o1 rfl rfl rfl (fun _ h => h) ?_
      refine RL.yes rfl rfl rfl hg437 ?_
      refine rl_callF rfl en18 rfl (ctr18 (G F w.heap.size (un (inBlk (PV p275)) (un (inBlk (PV p188)) (un (inBlk (PV p183)) nb)))) wk a0 az0_0 az0_1 ah0_0 ah0_1 a1 az1_0 az1_1 ah1_0 ah1_1 y427 hy428) ?_
      rintro _ w457 ⟨rfl, c458⟩
      exact RL.nil ⟨_, rfl, c458, rfl⟩
     refine Each.consS (fun fl O wk hE hN hO ck => ?_) ?_
     ·
      have k262 := k262.ch0 ck
      refine Need.o1 rfl rfl rfl (fun _ h => h) ?_
      refine RL.yes rfl rfl rfl hg437 ?_
      refine rl_loadA (cs := (Resolved.c y169 z171 z172)) rfl Tryz.isAgg57 Tryz.sizeOf57 (k262.segAt 0 4) rfl rfl ?_
      exact RL.nil ⟨_, rfl, Ch.refl, rfl⟩
     refine Each.consS (fun fl O wk hE hN hO ck => ?_) ?_
     ·
      have k267 := k267.ch0 ck
      refine Need.o1 rfl rfl rfl (fun _ h => h) ?_
      refine RL.yes rfl rfl rfl hg437 ?_
      refine rl_loadA (cs := (Resolved.c y177 z179 z180)) rfl Tryz.isAgg57 Tryz.sizeOf57 (k267.segAt 0 4) rfl rfl ?_
      exact RL.nil ⟨_, rfl, Ch.refl, rfl⟩
     refine Each.consS (fun fl O wk hE hN hO ck => ?_) ?_
     ·
      have h173 := slRep.ch k_Face_pos h173 ck
      have h174 := slRep.ch k_Group_pos h174 ck
      have h181 := slRep.ch k_Face_pos h181 ck
      have h182 := slRep.ch k_Group_pos h182 ck
      refine Need.o1 rfl rfl rfl (fun _ h => h) ?_
      refine Need.o1 rfl rfl rfl (fun _ h => h) ?_
      refine Need.o1 rfl rfl rfl (fun _ h => h) ?_
      refine RL.yes rfl rfl rfl hg437 ?_
      refine rl_callF rfl en16 rfl (ctr16 (G F w.heap.size (un (inBlk (PV p275)) (un (inBlk (PV p188)) (un (inBlk (PV p183)) nb)))) wk y169 z171 z172 h173 h174 y177 z179 z180 h181 h182 y431 hy432) ?_
      rintro _ w464 ⟨rfl, c465⟩
      exact RL.nil ⟨_, rfl, c465, rfl⟩
     refine Each.consS (fun fl O wk hE hN hO ck => ?_) ?_
     ·
      refine Need.o1 rfl rfl rfl (fun _ h => h) ?_
      refine Need.o1 rfl rfl rfl (fun _ h => h) ?_
      refine Need.o1 rfl rfl rfl (fun _ h => h) ?_
      refine RL.yes rfl rfl rfl hg437 ?_
      refine rl_bin rfl rfl (B.eqlB Tryz.underlying4) rfl ?_
      exact RL.nil ⟨_, rfl, Ch.refl, rfl⟩
     refine Each.consS (fun fl O wk hE hN hO ck => ?_) ?_
     ·
      refine Need.o1 rfl rfl rfl (fun _ h => h) ?_
      refine Need.o1 rfl rfl rfl (fun _ h => h) ?_
      refine rl_pickT rfl hg437 rfl rfl ?_
      exact RL.nil ⟨_, rfl, Ch.refl, congrArg Value.bool (Option.some.inj hs438)⟩
     trivial
    intro hvO473 OpO473 O473 w471 hO474 c472 hN475
    refine Need.o1 rfl rfl rfl (fun _ h => h) ?_
    refine rl_assign rfl rfl ?_
    exact RL.nil ⟨rfl, ⟨rfl, trivial⟩, c472⟩
   have hs477 := andO_f hg437 hb434
   refine CW.draw 17 [(none, fun fx O uu wx => uu = (Value.bool y409.2)), (none, fun fx O uu wx => uu = (Value.bool y415.2)), (none, fun fx O uu wx => uu = (Value.bool (y409.2 == y415.2))), (none, fun fx O uu wx => uu = (Value.bool (y409.2 == y415.2))), (none, fun fx O uu wx => uu = v411), (none, fun fx O uu wx => uu = v417), (none, fun fx O uu wx => uu = (Value.bool y421)), (none, fun fx O uu wx => uu = (Value.bool b423)), (none, fun fx O uu wx => uu = (Value.bool b423)), (none, fun _ O uu wx => uu = undef), (none, fun _ O uu wx => uu = undef), (none, fun _ O uu wx => uu = undef), (none, fun _ O uu wx => uu = undef), (none, fun _ O uu wx => uu = undef), (none, fun _ O uu wx => uu = undef), (none, fun _ O uu wx => uu = undef), (none, fun fx O uu wx => uu = (Value.bool b433))] [[], [], [0, 1], [2], [3], [3], [3, 4, 5], [3, 6], [7], [8], [8], [8], [8], [8], [8], [8], [8]] [16] nb (fun _ h => h.elim) mixed rfl rfl rfl rfl ?_ ?_
   ·
    refine Each.consS (fun fl O wk hE hN hO ck => ?_) ?_
    ·
     refine rl_move rfl rfl ?_
     exact RL.nil ⟨_, rfl, Ch.refl, rfl⟩
    refine Each.consS (fun fl O wk hE hN hO ck => ?_) ?_
    ·
     refine rl_move rfl rfl ?_
     exact RL.nil ⟨_, rfl, Ch.refl, rfl⟩
    refine Each.consS (fun fl O wk hE hN hO ck => ?_) ?_
    ·
     refine Need.o1 rfl rfl rfl (fun _ h => h) ?_
     refine Need.o1 rfl rfl rfl (fun _ h => h) ?_
     refine rl_bin rfl rfl (B.eqlB Tryz.underlying4) rfl ?_
     exact RL.nil ⟨_, rfl, Ch.refl, rfl⟩
    refine Each.consS (fun fl O wk hE hN hO ck => ?_) ?_
    ·
     refine Need.o1 rfl rfl rfl (fun _ h => h) ?_
     refine rl_move rfl rfl ?_
     exact RL.nil ⟨_, rfl, Ch.refl, rfl⟩
    refine Each.consS (fun fl O wk hE hN hO ck => ?_) ?_
    ·
     refine Need.o1 rfl rfl rfl (fun _ h => h) ?_
     refine RL.yes rfl rfl rfl hg435 ?_
     refine rl_move rfl rfl ?_
     exact RL.nil ⟨_, rfl, Ch.refl, rfl⟩
    refine Each.consS (fun fl O wk hE hN hO ck => ?_) ?_
    ·
     refine Need.o1 rfl rfl rfl (fun _ h => h) ?_
     refine RL.yes rfl rfl rfl hg435 ?_
     refine rl_move rfl rfl ?_
     exact RL.nil ⟨_, rfl, Ch.refl, rfl⟩
    refine Each.consS (fun fl O wk hE hN hO ck => ?_) ?_
    ·
     have h412 := slRep.ch k_Point_pos h412 ck
     have h418 := slRep.ch k_Point_pos h418 ck
     refine Need.o1 rfl rfl rfl (fun _ h => h) ?_
     refine Need.o1 rfl rfl rfl (fun _ h => h) ?_
     refine Need.o1 rfl rfl rfl (fun _ h => h) ?_
     refine RL.yes rfl rfl rfl hg435 ?_
     refine rl_callF rfl en21 rfl (ctr21 (G F w.heap.size (un (inBlk (PV p275)) (un (inBlk (PV p188)) (un (inBlk (PV p183)) nb)))) wk y409.1 v411 h412 y415.1 v417 h418 y421 hy422) ?_
     rintro _ w486 ⟨rfl, c487⟩
     exact RL.nil ⟨_, rfl, c487, rfl⟩
    refine Each.consS (fun fl O wk hE hN hO ck => ?_) ?_
    ·
     refine Need.o1 rfl rfl rfl (fun _ h => h) ?_
     refine Need.o1 rfl rfl rfl (fun _ h => h) ?_
     refine rl_pickT rfl hg435 rfl rfl ?_
     exact RL.nil ⟨_, rfl, Ch.refl, congrArg Value.bool (Option.some.inj hs436)⟩
    refine Each.consS (fun fl O wk hE hN hO ck => ?_) ?_
    ·
     refine Need.o1 rfl rfl rfl (fun _ h => h) ?_
     refine rl_move rfl rfl ?_
     exact RL.nil ⟨_, rfl, Ch.refl, rfl⟩
    refine Each.consS (fun fl O wk hE hN hO ck => ?_) ?_
    ·
     refine Need.o1 rfl rfl rfl (fun _ h => h) ?_
     refine RL.no rfl rfl rfl hg437 rfl rfl ?_
     exact RL.nil ⟨_, rfl, Ch.refl, rfl⟩
    refine Each.consS (fun fl O wk hE hN hO ck => ?_) ?_
    ·
     refine Need.o1 rfl rfl rfl (fun _ h => h) ?_
     refine RL.no rfl rfl rfl hg437 rfl rfl ?_
     exact RL.nil ⟨_, rfl, Ch.refl, rfl⟩
    refine Each.consS (fun fl O wk hE hN hO ck => ?_) ?_
    ·
     refine Need.o1 rfl rfl rfl (fun _ h => h) ?_
     refine RL.no rfl rfl rfl hg437 rfl rfl ?_
     exact RL.nil ⟨_, rfl, Ch.refl, rfl⟩
    refine Each.consS (fun fl O wk hE hN hO ck => ?_) ?_
    ·
     refine Need.o1 rfl rfl rfl (fun _ h => h) ?_
     refine RL.no rfl rfl rfl hg437 rfl rfl ?_
     exact RL.nil ⟨_, rfl, Ch.refl, rfl⟩
    refine Each.consS (fun fl O wk hE hN hO ck => ?_) ?_
    ·
     refine Need.o1 rfl rfl rfl (fun _ h => h) ?_
     refine RL.no rfl rfl rfl hg437 rfl rfl ?_
     exact RL.nil ⟨_, rfl, Ch.refl, rfl⟩
    refine Each.consS (fun fl O wk hE hN hO ck => ?_) ?_
    ·
     refine Need.o1 rfl rfl rfl (fun _ h => h) ?_
     refine RL.no rfl rfl rfl hg437 rfl rfl ?_
     exact RL.nil ⟨_, rfl, Ch.refl, rfl⟩
    refine Each.consS (fun fl O wk hE hN hO ck => ?_) ?_
    ·
     refine Need.o1 rfl rfl rfl (fun _ h => h) ?_
     refine RL.no rfl rfl rfl hg437 rfl rfl ?_
     exact RL.nil ⟨_, rfl, Ch.refl, rfl⟩
    refine Each.consS (fun fl O wk hE hN hO ck => ?_) ?_
    ·
     refine Need.o1 rfl rfl rfl (fun _ h => h) ?_
     refine rl_pickF rfl hg437 rfl rfl ?_
     exact RL.nil ⟨_, rfl, Ch.refl, congrArg Value.bool (Option.some.inj hs477)⟩
    trivial
   intro hvO501 OpO501 O501 w499 hO502 c500 hN503
   refine Need.o1 rfl rfl rfl (fun _ h => h) ?_
   refine rl_assign rfl rfl ?_
   exact RL.nil ⟨rfl, ⟨rfl, trivial⟩, c500⟩
  have hs505 := andO_f hg435 hb424
  have hs506 := andO_f (Option.some.inj hs505).symm hb434
  refine CW.draw 17 [(none, fun fx O uu wx => uu = (Value.bool y409.2)), (none, fun fx O uu wx => uu = (Value.bool y415.2)), (none, fun fx O uu wx => uu = (Value.bool (y409.2 == y415.2))), (none, fun fx O uu wx => uu = (Value.bool (y409.2 == y415.2))), (none, fun _ O uu wx => uu = undef), (none, fun _ O uu wx => uu = undef), (none, fun _ O uu wx => uu = undef), (none, fun fx O uu wx => uu = (Value.bool b423)), (none, fun fx O uu wx => uu = (Value.bool b423)), (none, fun _ O uu wx => uu = undef), (none, fun _ O uu wx => uu = undef), (none, fun _ O uu wx => uu = undef), (none, fun _ O uu wx => uu = undef), (none, fun _ O uu wx => uu = undef), (none, fun _ O uu wx => uu = undef), (none, fun _ O uu wx => uu = undef), (none, fun fx O uu wx => uu = (Value.bool b433))] [[], [], [0, 1], [2], [3], [3], [3], [3], [7], [8], [8], [8], [8], [8], [8], [8], [8]] [16] nb (fun _ h => h.elim) mixed rfl rfl rfl rfl ?_ ?_
  ·
   refine Each.consS (fun fl O wk hE hN hO ck => ?_) ?_
   ·
    refine rl_move rfl rfl ?_
    exact RL.nil ⟨_, rfl, Ch.refl, rfl⟩
   refine Each.consS (fun fl O wk hE hN hO ck => ?_) ?_
   ·
    refine rl_move rfl rfl ?_
    exact RL.nil ⟨_, rfl, Ch.refl, rfl⟩
   refine Each.consS (fun fl O wk hE hN hO ck => ?_) ?_
   ·
    refine Need.o1 rfl rfl rfl (fun _ h => h) ?_
    refine Need.o1 rfl rfl rfl (fun _ h => h) ?_
    refine rl_bin rfl rfl (B.eqlB Tryz.underlying4) rfl ?_
    exact RL.nil ⟨_, rfl, Ch.refl, rfl⟩
   refine Each.consS (fun fl O wk hE hN hO ck => ?_) ?_
   ·
    refine Need.o1 rfl rfl rfl (fun _ h => h) ?_
    refine rl_move rfl rfl ?_
    exact RL.nil ⟨_, rfl, Ch.refl, rfl⟩
   refine Each.consS (fun fl O wk hE hN hO ck => ?_) ?_
   ·
    refine Need.o1 rfl rfl rfl (fun _ h => h) ?_
    refine RL.no rfl rfl rfl hg435 rfl rfl ?_
    exact RL.nil ⟨_, rfl, Ch.refl, rfl⟩
   refine Each.consS (fun fl O wk hE hN hO ck => ?_) ?_
   ·
    refine Need.o1 rfl rfl rfl (fun _ h => h) ?_
    refine RL.no rfl rfl rfl hg435 rfl rfl ?_
    exact RL.nil ⟨_, rfl, Ch.refl, rfl⟩
   refine Each.consS (fun fl O wk hE hN hO ck => ?_) ?_
   ·
    refine Need.o1 rfl rfl rfl (fun _ h => h) ?_
    refine RL.no rfl rfl rfl hg435 rfl rfl ?_
    exact RL.nil ⟨_, rfl, Ch.refl, rfl⟩
   refine Each.consS (fun fl O wk hE hN hO ck => ?_) ?_
   ·
    refine Need.o1 rfl rfl rfl (fun _ h => h) ?_
    refine rl_pickF rfl hg435 rfl rfl ?_
    exact RL.nil ⟨_, rfl, Ch.refl, congrArg Value.bool (Option.some.inj hs505)⟩
   refine Each.consS (fun fl O wk hE hN hO ck => ?_) ?_
   ·
    refine Need.o1 rfl rfl rfl (fun _ h => h) ?_
    refine rl_move rfl rfl ?_
    exact RL.nil ⟨_, rfl, Ch.refl, rfl⟩
   refine Each.consS (fun fl O wk hE hN hO ck => ?_) ?_
   ·
    refine Need.o1 rfl rfl rfl (fun _ h => h) ?_
    refine RL.no rfl rfl rfl (Option.some.inj hs505).symm rfl rfl ?_
    exact RL.nil ⟨_, rfl, Ch.refl, rfl⟩
   refine Each.consS (fun fl O wk hE hN hO ck => ?_) ?_
   ·
    refine Need.o1 rfl rfl rfl (fun _ h => h) ?_
    refine RL.no rfl rfl rfl (Option.some.inj hs505).symm rfl rfl ?_
    exact RL.nil ⟨_, rfl, Ch.refl, rfl⟩
   refine Each.consS (fun fl O wk hE hN hO ck => ?_) ?_
   ·
    refine Need.o1 rfl rfl rfl (fun _ h => h) ?_
    refine RL.no rfl rfl rfl (Option.some.inj hs505).symm rfl rfl ?_
    exact RL.nil ⟨_, rfl, Ch.refl, rfl⟩
   refine Each.consS (fun fl O wk hE hN hO ck => ?_) ?_
   ·
    refine Need.o1 rfl rfl rfl (fun _ h => h) ?_
    refine RL.no rfl rfl rfl (Option.some.inj hs505).symm rfl rfl ?_
    exact RL.nil ⟨_, rfl, Ch.refl, rfl⟩
   refine Each.consS (fun fl O wk hE hN hO ck => ?_) ?_
   ·
    refine Need.o1 rfl rfl rfl (fun _ h => h) ?_
    refine RL.no rfl rfl rfl (Option.some.inj hs505).symm rfl rfl ?_
    exact RL.nil ⟨_, rfl, Ch.refl, rfl⟩
   refine Each.consS (fun fl O wk hE hN hO ck => ?_) ?_
   ·
    refine Need.o1 rfl rfl rfl (fun _ h => h) ?_
    refine RL.no rfl rfl rfl (Option.some.inj hs505).symm rfl rfl ?_
    exact RL.nil ⟨_, rfl, Ch.refl, rfl⟩
   refine Each.consS (fun fl O wk hE hN hO ck => ?_) ?_
   ·
    refine Need.o1 rfl rfl rfl (fun _ h => h) ?_
    refine RL.no rfl rfl rfl (Option.some.inj hs505).symm rfl rfl ?_
    exact RL.nil ⟨_, rfl, Ch.refl, rfl⟩
   refine Each.consS (fun fl O wk hE hN hO ck => ?_) ?_
   ·
    refine Need.o1 rfl rfl rfl (fun _ h => h) ?_
    refine rl_pickF rfl (Option.some.inj hs505).symm rfl rfl ?_
    exact RL.nil ⟨_, rfl, Ch.refl, congrArg Value.bool (Option.some.inj hs506)⟩
   trivial
  intro hvO525 OpO525 O525 w523 hO526 c524 hN527
  refine Need.o1 rfl rfl rfl (fun _ h => h) ?_
  refine rl_assign rfl rfl ?_
  exact RL.nil ⟨rfl, ⟨rfl, trivial⟩, c524⟩
 rintro _ w530 ⟨hE529, c531⟩
 have c162 := c162.then0 c531
 refine thn_n (CW.sub [(6, (Value.bool b433))] hE529 ?_)
 refine CW.ret ?_
 obtain rfl := Option.some.inj hS
 exact ret1 rfl ⟨rfl, c162⟩
end Go.Proofs.YtgcneihmkkldeaaGreat
