/- The walks through the code: each call comes to its printed function. Written by a program of this session. -/
import Derived.Test.YtkfhcfkbaaekoaaDoorM
import Derived.Test.YtkfhcfkbaaekoaaDoorL
import Derived.Test.YtkfhcfkbaaekoaaDoorNI
import Derived.Test.YtkfhcfkbaaekoaaDoorW2
namespace Go.Proofs.YtkfhcfkbaaekoaaDoor
open Go K
set_option linter.unusedVariables false
theorem ctr18 (F : Nat → Prop) (w : World) (a0 : (List Service)) (av0 : Value) (ah0 : slRep k_Service F w a0 av0) (a1 : (List Service)) (av1 : Value) (ah1 : slRep k_Service F w a1 av1) (r : Bool) (hs : F18_same a0 a1 = some r) :
    Ret Tryd.prog 18 #[av0, av1] w fun v w' => v = (Value.bool r) ∧ Ch nb w w' := by
 have hS := hs
 have c0 : Ch nb w w := Ch.refl
 have ah0 := slRep.enter k_Service_pos ah0
 have ah1 := slRep.enter k_Service_pos ah1
 refine Ret.of (n := 26) (args := [_, _]) (rs := [.tmp 4]) Tryd.func18 rfl rfl rfl rfl ?_
 refine CW.seq (CW.region ?_)
 refine rl_assign rfl rfl ?_
 refine RL.nil (thn_n (CW.seq ?_))
 refine CW.seq (CW.region ?_)
 refine rl_move rfl rfl ?_
 refine rl_lenR rfl ah0 Tryd.underlying48 rfl ?_
 refine rl_move rfl rfl ?_
 refine rl_lenR rfl ah1 Tryd.underlying66 rfl ?_
 refine rl_bin rfl rfl B.neq rfl ?_
 refine RL.nil (thn_n ?_)
 refine CW.cond (t := !decide (((a0.length : Nat) : Int) = ((a1.length : Nat) : Int))) rfl (fun q1 => ?_) (fun q1 => ?_)
 ·
  have hS := ifT q1 hS
  refine CW.seq (CW.region ?_)
  refine rl_assign rfl rfl ?_
  refine RL.nil (thn_n (CW.ret ?_))
  refine thn_ret ?_
  obtain rfl := Option.some.inj hS
  exact ret1 rfl ⟨rfl, c0⟩
 have hS := ifF q1 hS
 refine CW.skip ?_
 refine thn_n (CW.seq ?_)
 refine CW.seq (CW.region ?_)
 refine rl_move rfl rfl ?_
 refine rl_lenR rfl ah0 Tryd.underlying48 rfl ?_
 refine rl_move rfl rfl ?_
 refine RL.nil (thn_n ?_)
 obtain ⟨o9, ho10, hS⟩ := bindS hS
 refine CW.cutB (fun E' w' => ∃ (ix16 : Nat), Sub [] E' ∧ Ch nb w w' ∧ Lp.fin ix16 = o9 ∧ slRep k_Service (G F w.heap.size nb) w' a0 av0 ∧ slRep k_Service (G F w.heap.size nb) w' a1 av1) ?_ ?_
 ·
  refine CW.loopS [(0, av0), (1, av1), (12, (Value.int .i64 ((a0.length : Nat) : Int))), (13, (Value.int .i64 ((0 : Nat) : Int)))] ⟨rfl, rfl, rfl, rfl, trivial⟩ a0.length (fun m E w' => ∃ (rest2 : List Service) (i3 : Nat) , m = rest2.length ∧ E = [(0, av0), (1, av1), (12, (Value.int .i64 ((a0.length : Nat) : Int))), (13, (Value.int .i64 ((i3 : Nat) : Int)))] ∧ Ch nb w w' ∧ At a0 i3 rest2 ∧ runBO (F18_same_b1 a1) rest2 i3 = some o9 ∧ slRep k_Service (G F w.heap.size nb) w' a0 av0 ∧ slRep k_Service (G F w.heap.size nb) w' a1 av1)
      ⟨a0, 0, rfl, rfl, c0, At.start, ho10, ah0, ah1⟩ ?_
  rintro _ _ w15 ⟨rest2, i3, rfl, rfl, c14, hat5, hL4, ah0, ah1⟩
  refine CW.seq (CW.region ?_)
  refine rl_bin rfl rfl B.lss rfl ?_
  refine RL.nil (thn_n ?_)
  refine CW.seq ?_
  refine CW.cond (t := decide (((i3 : Nat) : Int) < ((a0.length : Nat) : Int))) rfl (fun q17 => ?_) (fun q17 => ?_)
  ·
   obtain ⟨x11, rest18, rfl⟩ := hat5.cons q17
   obtain ⟨q6, hq7⟩ := runBO_some hL4
   have hb8 := hq7
   refine CW.skip (thn_n ?_)
   refine CW.seq ?_
   refine CW.block ?_
   refine CW.seq (CW.region ?_)
   refine rl_move rfl rfl ?_
   refine rl_assign rfl rfl ?_
   refine RL.nil (thn_n (CW.seq ?_))
   obtain ⟨y31, hy32, hb8⟩ := bindS hb8
   refine CW.draw 8 [(none, fun fx O uu wx => uu = av0), (none, fun fx O uu wx => uu = (Value.int .i64 ((i3 : Nat) : Int))), (none, fun fx O uu wx => ∃ (p19 : Nat) (o20 : Nat), uu = (Value.pointer (some ⟨p19, o20, none⟩)) ∧ (G F w.heap.size nb) p19 ∧ Seg wx p19 o20 (Service.enc x11)), (none, fun fx O uu wx => uu = (Value.agg (Service.enc x11).toArray)), (none, fun fx O uu wx => uu = av1), (none, fun fx O uu wx => uu = (Value.int .i64 ((i3 : Nat) : Int))), (none, fun fx O uu wx => ∃ (p25 : Nat) (o26 : Nat), uu = (Value.pointer (some ⟨p25, o26, none⟩)) ∧ (G F w.heap.size nb) p25 ∧ Seg wx p25 o26 (Service.enc y31)), (none, fun fx O uu wx => uu = (Value.agg (Service.enc y31).toArray))] [[], [], [0, 1], [2], [], [], [4, 5], [6]] [3, 7] nb (fun _ h => h.elim) mixed rfl rfl rfl rfl ?_ ?_
   ·
    refine Each.consS (fun fl O wk hE hN hO ck => ?_) ?_
    ·
     refine rl_move rfl rfl ?_
     exact RL.nil ⟨_, rfl, Ch.refl, rfl⟩
    refine Each.consS (fun fl O wk hE hN hO ck => ?_) ?_
    ·
     refine rl_move rfl rfl ?_
     exact RL.nil ⟨_, rfl, Ch.refl, rfl⟩
    refine Each.consA ⟨fun _ _ _ _ _ cc hh => by obtain ⟨p19, o20, e, hg24, hs23⟩ := hh; exact ⟨p19, o20, e, hg24, hs23.ch0 cc⟩, fun h => absurd rfl h, fun fl O wk hE hN hO ck => ?_⟩ ?_
    ·
     have ah0 := slRep.ch k_Service_pos ah0 ck
     refine Need.o1 rfl rfl rfl (fun _ h => h) ?_
     refine Need.o1 rfl rfl rfl (fun _ h => h) ?_
     refine rl_ixR rfl ah0 rfl hat5.get Tryd.underlying48 Tryd.sizeOf51 rfl ?_
     intro p35 o36 cs37 hr38 hs39 hg40
     obtain rfl := hr38
     exact RL.nil ⟨_, rfl, Ch.refl, ⟨p35, o36, rfl, hg40, hs39⟩⟩
    refine Each.consS (fun fl O wk hE hN hO ck => ?_) ?_
    ·
     refine Need.one rfl rfl rfl ?_
     rintro _ ⟨p19, o20, e41, hg24, hs23⟩
     obtain rfl := e41.symm
     refine rl_loadA (cs := (Service.enc x11)) rfl Tryd.isAgg51 Tryd.sizeOf51 (hs23) rfl rfl ?_
     exact RL.nil ⟨_, rfl, Ch.refl, rfl⟩
    refine Each.consS (fun fl O wk hE hN hO ck => ?_) ?_
    ·
     refine rl_move rfl rfl ?_
     exact RL.nil ⟨_, rfl, Ch.refl, rfl⟩
    refine Each.consS (fun fl O wk hE hN hO ck => ?_) ?_
    ·
     refine rl_move rfl rfl ?_
     exact RL.nil ⟨_, rfl, Ch.refl, rfl⟩
    refine Each.consA ⟨fun _ _ _ _ _ cc hh => by obtain ⟨p25, o26, e, hg30, hs29⟩ := hh; exact ⟨p25, o26, e, hg30, hs29.ch0 cc⟩, fun h => absurd rfl h, fun fl O wk hE hN hO ck => ?_⟩ ?_
    ·
     have ah1 := slRep.ch k_Service_pos ah1 ck
     refine Need.o1 rfl rfl rfl (fun _ h => h) ?_
     refine Need.o1 rfl rfl rfl (fun _ h => h) ?_
     refine rl_ixR rfl ah1 rfl (ixO_nat hy32) Tryd.underlying66 Tryd.sizeOf98 rfl ?_
     intro p44 o45 cs46 hr47 hs48 hg49
     obtain rfl := hr47
     exact RL.nil ⟨_, rfl, Ch.refl, ⟨p44, o45, rfl, hg49, hs48⟩⟩
    refine Each.consS (fun fl O wk hE hN hO ck => ?_) ?_
    ·
     refine Need.one rfl rfl rfl ?_
     rintro _ ⟨p25, o26, e50, hg30, hs29⟩
     obtain rfl := e50.symm
     refine rl_loadA (cs := (Service.enc y31)) rfl Tryd.isAgg98 Tryd.sizeOf98 (hs29) rfl rfl ?_
     exact RL.nil ⟨_, rfl, Ch.refl, rfl⟩
    trivial
   intro hvO53 OpO53 O53 w51 hO54 c52 hN55
   have ah0 := slRep.ch k_Service_pos ah0 c52
   have ah1 := slRep.ch k_Service_pos ah1 c52
   have c14 := c14.then0 c52
   refine Need.o1 rfl rfl rfl (fun _ h => h) ?_
   refine Need.o1 rfl rfl rfl (fun _ h => h) ?_
   refine rl_bin rfl rfl (neq98 x11 y31) rfl ?_
   refine RL.nil (thn_n ?_)
   refine CW.cond (t := !decide (x11 = y31)) rfl (fun q58 => ?_) (fun q58 => ?_)
   ·
    have hb8 := ifT q58 hb8
    refine CW.seq (CW.region ?_)
    refine rl_assign rfl rfl ?_
    refine RL.nil (thn_n (CW.ret ?_))
    refine inB_ret ?_
    refine thn_ret ?_
    refine thn_ret (inB_ret (thn_ret ?_))
    refine thn_ret ?_
    have f59 := runBO_ret hL4 hq7 hb8
    have hS := retS f59 hS
    obtain rfl := Option.some.inj hS
    exact ret1 rfl ⟨rfl, c14⟩
   have hb8 := ifF q58 hb8
   refine CW.skip ?_
   refine inB_n ?_
   refine thn_n (CW.region ?_)
   refine rl_inc rfl hat5.lt ah0.big rfl ?_
   refine rl_move rfl rfl ?_
   refine RL.nil (thn_n ?_)
   have hLn := runBO_next hL4 hq7 hb8
   exact ⟨rest18.length, Nat.lt_succ_self _, [(0, av0), (1, av1), (12, (Value.int .i64 ((a0.length : Nat) : Int))), (13, (Value.int .i64 ((i3 + 1 : Nat) : Int)))], ⟨rfl, rfl, rfl, rfl, trivial⟩, ⟨rest18, i3 + 1, rfl, rfl, c14, hat5.next, hLn, ah0, ah1⟩⟩
  obtain rfl := hat5.nil q17
  have hLf : Lp.fin i3 = o9 := runBO_done hL4
  refine CW.exit (thn_exit (thn_exit (inB_hit ?_)))
  exact ⟨i3, trivial, c14, hLf, ah0, ah1⟩
 rintro _ w61 ⟨ix16, hE62, c60, f63, ah0, ah1⟩
 have hS := finS f63 hS
 refine thn_n (CW.sub [] hE62 ?_)
 refine CW.seq (CW.region ?_)
 refine rl_assign rfl rfl ?_
 refine RL.nil (thn_n (CW.ret ?_))
 obtain rfl := Option.some.inj hS
 exact ret1 rfl ⟨rfl, c60⟩
theorem ctr50 (F : Nat → Prop) (w : World) (Bb : Nat) (S2 : Nat → Prop) (hB : Bb ≤ w.heap.size) (h2 : ∀ b, S2 b → b < w.heap.size) (av0 : Value) (hd2 : ∀ b, (inBlk av0) b → ¬ S2 b) (a0 : (List Service)) (ah0 : SlO k_Service 51 F Bb (un (inBlk av0) S2) w a0 av0) (a1 : Int) (a2 : Int) (a3 : (Service → Service → Int)) (av3 : Value) (ah3 : (Kd.fn2 Tryd.prog true true k_Service k_Service (Value.int .i64)).rep (G F Bb (un (inBlk av0) S2)) w a3 [av3]) (r : (List Service)) (hs : F50_Service a0 a1 a2 a3 = some r) :
    Ret Tryd.prog 50 #[av0, (Value.int .i64 a1), (Value.int .i64 a2), av3] w fun v w' => v = Value.tuple #[] ∧ SlO k_Service 51 F Bb (un (inBlk av0) S2) w' r av0 ∧ Ch (inBlk av0) w w' := by
 have hS := hs
 have c0 : Ch (inBlk av0) w w := Ch.refl
 have lin0_0 : ∀ b, inBlk av0 b → (inBlk av0) b ∨ w.heap.size ≤ b := fun b h => .inl h
 refine Ret.of (n := 53) (args := [_, _, _, _]) (rs := []) Tryd.func50 rfl rfl rfl rfl ?_
 refine CW.seq (CW.region ?_)
 refine rl_move rfl rfl ?_
 refine rl_bin rfl rfl B.add rfl ?_
 refine rl_assign rfl rfl ?_
 refine RL.nil (thn_n ?_)
 obtain ⟨o11, ho12, hS⟩ := bindS hS
 refine CW.cutB (fun E' w' => ∃ (x1 : Int) (x2 : (List Service)), Sub [] E' ∧ Ch (inBlk av0) w w' ∧ Lp.fin (x1, x2) = o11 ∧ (Kd.fn2 Tryd.prog true true k_Service k_Service (Value.int .i64)).rep (G F Bb (un (inBlk av0) S2)) w' a3 [av3] ∧ SlO k_Service 51 F Bb (un (inBlk av0) S2) w' x2 av0) ?_ ?_
 ·
  refine CW.loopS [(0, av0), (1, (Value.int .i64 a1)), (2, (Value.int .i64 a2)), (3, av3), (8, (Value.int .i64 (IntKind.i64.wrap (a1 + 1))))] ⟨rfl, rfl, rfl, rfl, rfl, trivial⟩ FUEL (fun m E w' => ∃ (x1 : Int) (x2 : (List Service)), E = [(0, av0), (1, (Value.int .i64 a1)), (2, (Value.int .i64 a2)), (3, av3), (8, (Value.int .i64 x1))] ∧ Ch (inBlk av0) w w' ∧ runW (F50_Service_b1 a1 a2 a3) m (x1, x2) = some o11 ∧ (Kd.fn2 Tryd.prog true true k_Service k_Service (Value.int .i64)).rep (G F Bb (un (inBlk av0) S2)) w' a3 [av3] ∧ SlO k_Service 51 F Bb (un (inBlk av0) S2) w' x2 av0)
      ⟨IntKind.i64.wrap (a1 + 1), a0, rfl, c0, ho12, ah3, ah0⟩ ?_
  rintro _ _ w17 ⟨x1, x2, rfl, c16, hL6, ah3, h3⟩
  obtain ⟨k15, q8, rfl, hq9⟩ := runW_some hL6
  have hb10 := hq9
  refine CW.seq ?_
  refine CW.seq (CW.region ?_)
  refine rl_move rfl rfl ?_
  refine rl_move rfl rfl ?_
  refine rl_bin rfl rfl B.lss rfl ?_
  refine RL.nil (thn_n ?_)
  refine CW.cond (t := decide (x1 < a2)) rfl (fun q19 => ?_) (fun q19 => ?_)
  ·
   have hb10 := ifT q19 hb10
   refine CW.skip ?_
   refine thn_n (CW.seq ?_)
   refine CW.block ?_
   refine CW.seq (CW.region ?_)
   refine rl_move rfl rfl ?_
   refine rl_assign rfl rfl ?_
   refine RL.nil (thn_n ?_)
   obtain ⟨o30, ho31, hb10⟩ := bindS hb10
   refine CW.cutB (fun E' w' => ∃ (x20 : Int) (x21 : (List Service)), Sub [(0, av0), (1, (Value.int .i64 a1)), (2, (Value.int .i64 a2)), (3, av3), (8, (Value.int .i64 x1))] E' ∧ Ch (inBlk av0) w w' ∧ Lp.fin (x20, x21) = o30 ∧ (Kd.fn2 Tryd.prog true true k_Service k_Service (Value.int .i64)).rep (G F Bb (un (inBlk av0) S2)) w' a3 [av3] ∧ SlO k_Service 51 F Bb (un (inBlk av0) S2) w' x21 av0) ?_ ?_
   ·
    refine CW.loopS [(0, av0), (1, (Value.int .i64 a1)), (2, (Value.int .i64 a2)), (3, av3), (8, (Value.int .i64 x1)), (9, (Value.int .i64 x1))] ⟨rfl, rfl, rfl, rfl, rfl, rfl, trivial⟩ FUEL (fun m E w' => ∃ (x20 : Int) (x21 : (List Service)), E = [(0, av0), (1, (Value.int .i64 a1)), (2, (Value.int .i64 a2)), (3, av3), (8, (Value.int .i64 x1)), (9, (Value.int .i64 x20))] ∧ Ch (inBlk av0) w w' ∧ runW (F50_Service_b2 a1 a3) m (x20, x21) = some o30 ∧ (Kd.fn2 Tryd.prog true true k_Service k_Service (Value.int .i64)).rep (G F Bb (un (inBlk av0) S2)) w' a3 [av3] ∧ SlO k_Service 51 F Bb (un (inBlk av0) S2) w' x21 av0)
        ⟨x1, x2, rfl, c16, ho31, ah3, h3⟩ ?_
    rintro _ _ w36 ⟨x20, x21, rfl, c35, hL25, ah3, h22⟩
    obtain ⟨k34, q27, rfl, hq28⟩ := runW_some hL25
    have hb29 := hq28
    refine CW.seq ?_
    refine CW.seq ?_
    obtain ⟨b56, hb57, hb29⟩ := bindS hb29
    refine CW.cutN (fun E' w' => Sub [(0, av0), (1, (Value.int .i64 a1)), (2, (Value.int .i64 a2)), (3, av3), (8, (Value.int .i64 x1)), (9, (Value.int .i64 x20)), (34, (Value.bool b56))] E' ∧ Ch nb w36 w') ?_ ?_
    ·
     rcases Bool.eq_false_or_eq_true (decide (x20 > a1)) with hg58 | hg58
     ·
      have hs59 := andO_t hg58 hb57
      obtain ⟨y44, hy45, hs59⟩ := bindS hs59
      obtain ⟨y52, hy53, hs59⟩ := bindS hs59
      refine CW.draw 17 [(none, fun fx O uu wx => uu = (Value.int .i64 x20)), (none, fun fx O uu wx => uu = (Value.int .i64 a1)), (none, fun fx O uu wx => uu = (Value.bool (decide (x20 > a1)))), (none, fun fx O uu wx => uu = (Value.bool (decide (x20 > a1)))), (none, fun fx O uu wx => uu = av3), (none, fun fx O uu wx => uu = av0), (none, fun fx O uu wx => uu = (Value.int .i64 x20)), (none, fun fx O uu wx => ∃ (p38 : Nat) (o39 : Nat), uu = (Value.pointer (some ⟨p38, o39, none⟩)) ∧ Seg wx p38 o39 (Service.enc y44)), (none, fun fx O uu wx => uu = (Value.agg (Service.enc y44).toArray)), (none, fun fx O uu wx => uu = av0), (none, fun fx O uu wx => uu = (Value.int .i64 x20)), (none, fun fx O uu wx => uu = (Value.int .i64 (IntKind.i64.wrap (x20 - 1)))), (none, fun fx O uu wx => ∃ (p46 : Nat) (o47 : Nat), uu = (Value.pointer (some ⟨p46, o47, none⟩)) ∧ Seg wx p46 o47 (Service.enc y52)), (none, fun fx O uu wx => uu = (Value.agg (Service.enc y52).toArray)), (none, fun fx O uu wx => uu = (Value.int .i64 (a3 y44 y52))), (none, fun fx O uu wx => uu = (Value.bool (decide ((a3 y44 y52) < 0)))), (none, fun fx O uu wx => uu = (Value.bool b56))] [[], [], [0, 1], [2], [3], [3], [3], [3, 5, 6], [3, 7], [3], [3], [3, 10], [3, 9, 11], [3, 12], [3, 4, 8, 13], [3, 14], [3, 15]] [16] nb (fun _ h => h.elim) mixed rfl rfl rfl rfl ?_ ?_
      ·
       refine Each.consS (fun fl O wk hE hN hO ck => ?_) ?_
       ·
        refine rl_move rfl rfl ?_
        exact RL.nil ⟨_, rfl, Ch.refl, rfl⟩
       refine Each.consS (fun fl O wk hE hN hO ck => ?_) ?_
       ·
        refine rl_move rfl rfl ?_
        exact RL.nil ⟨_, rfl, Ch.refl, rfl⟩
       refine Each.consS (fun fl O wk hE hN hO ck => ?_) ?_
       ·
        refine Need.o1 rfl rfl rfl (fun _ h => h) ?_
        refine Need.o1 rfl rfl rfl (fun _ h => h) ?_
        refine rl_bin rfl rfl B.gtr rfl ?_
        exact RL.nil ⟨_, rfl, Ch.refl, rfl⟩
       refine Each.consS (fun fl O wk hE hN hO ck => ?_) ?_
       ·
        refine Need.o1 rfl rfl rfl (fun _ h => h) ?_
        refine rl_move rfl rfl ?_
        exact RL.nil ⟨_, rfl, Ch.refl, rfl⟩
       refine Each.consS (fun fl O wk hE hN hO ck => ?_) ?_
       ·
        refine Need.o1 rfl rfl rfl (fun _ h => h) ?_
        refine RL.yes rfl rfl rfl hg58 ?_
        refine rl_move rfl rfl ?_
        exact RL.nil ⟨_, rfl, Ch.refl, rfl⟩
       refine Each.consS (fun fl O wk hE hN hO ck => ?_) ?_
       ·
        refine Need.o1 rfl rfl rfl (fun _ h => h) ?_
        refine RL.yes rfl rfl rfl hg58 ?_
        refine rl_move rfl rfl ?_
        exact RL.nil ⟨_, rfl, Ch.refl, rfl⟩
       refine Each.consS (fun fl O wk hE hN hO ck => ?_) ?_
       ·
        refine Need.o1 rfl rfl rfl (fun _ h => h) ?_
        refine RL.yes rfl rfl rfl hg58 ?_
        refine rl_move rfl rfl ?_
        exact RL.nil ⟨_, rfl, Ch.refl, rfl⟩
       refine Each.consA ⟨fun _ _ _ _ _ cc hh => by obtain ⟨p38, o39, e, hs42⟩ := hh; exact ⟨p38, o39, e, hs42.ch0 cc⟩, fun h => absurd rfl h, fun fl O wk hE hN hO ck => ?_⟩ ?_
       ·
        have h22 := h22.ch0 ck
        refine Need.o1 rfl rfl rfl (fun _ h => h) ?_
        refine Need.o1 rfl rfl rfl (fun _ h => h) ?_
        refine Need.o1 rfl rfl rfl (fun _ h => h) ?_
        refine RL.yes rfl rfl rfl hg58 ?_
        refine rl_ixOR rfl h22 rfl (ixO_get hy45) k_Service_pos Tryd.underlying48 Tryd.sizeOf51 rfl ?_
        intro p69 o70 cs71 hr72 hs73 hg74
        obtain rfl := hr72
        exact RL.nil ⟨_, rfl, Ch.refl, ⟨p69, o70, rfl, hs73⟩⟩
       refine Each.consS (fun fl O wk hE hN hO ck => ?_) ?_
       ·
        refine Need.o1 rfl rfl rfl (fun _ h => h) ?_
        refine Need.one rfl rfl rfl ?_
        rintro _ ⟨p38, o39, e76, hs42⟩
        obtain rfl := e76.symm
        refine RL.yes rfl rfl rfl hg58 ?_
        refine rl_loadA (cs := (Service.enc y44)) rfl Tryd.isAgg51 Tryd.sizeOf51 (hs42) rfl rfl ?_
        exact RL.nil ⟨_, rfl, Ch.refl, rfl⟩
       refine Each.consS (fun fl O wk hE hN hO ck => ?_) ?_
       ·
        refine Need.o1 rfl rfl rfl (fun _ h => h) ?_
        refine RL.yes rfl rfl rfl hg58 ?_
        refine rl_move rfl rfl ?_
        exact RL.nil ⟨_, rfl, Ch.refl, rfl⟩
       refine Each.consS (fun fl O wk hE hN hO ck => ?_) ?_
       ·
        refine Need.o1 rfl rfl rfl (fun _ h => h) ?_
        refine RL.yes rfl rfl rfl hg58 ?_
        refine rl_move rfl rfl ?_
        exact RL.nil ⟨_, rfl, Ch.refl, rfl⟩
       refine Each.consS (fun fl O wk hE hN hO ck => ?_) ?_
       ·
        refine Need.o1 rfl rfl rfl (fun _ h => h) ?_
        refine Need.o1 rfl rfl rfl (fun _ h => h) ?_
        refine RL.yes rfl rfl rfl hg58 ?_
        refine rl_bin rfl rfl B.sub rfl ?_
        exact RL.nil ⟨_, rfl, Ch.refl, rfl⟩
       refine Each.consA ⟨fun _ _ _ _ _ cc hh => by obtain ⟨p46, o47, e, hs50⟩ := hh; exact ⟨p46, o47, e, hs50.ch0 cc⟩, fun h => absurd rfl h, fun fl O wk hE hN hO ck => ?_⟩ ?_
       ·
        have h22 := h22.ch0 ck
        refine Need.o1 rfl rfl rfl (fun _ h => h) ?_
        refine Need.o1 rfl rfl rfl (fun _ h => h) ?_
        refine Need.o1 rfl rfl rfl (fun _ h => h) ?_
        refine RL.yes rfl rfl rfl hg58 ?_
        refine rl_ixOR rfl h22 rfl (ixO_get hy53) k_Service_pos Tryd.underlying48 Tryd.sizeOf51 rfl ?_
        intro p84 o85 cs86 hr87 hs88 hg89
        obtain rfl := hr87
        exact RL.nil ⟨_, rfl, Ch.refl, ⟨p84, o85, rfl, hs88⟩⟩
       refine Each.consS (fun fl O wk hE hN hO ck => ?_) ?_
       ·
        refine Need.o1 rfl rfl rfl (fun _ h => h) ?_
        refine Need.one rfl rfl rfl ?_
        rintro _ ⟨p46, o47, e91, hs50⟩
        obtain rfl := e91.symm
        refine RL.yes rfl rfl rfl hg58 ?_
        refine rl_loadA (cs := (Service.enc y52)) rfl Tryd.isAgg51 Tryd.sizeOf51 (hs50) rfl rfl ?_
        exact RL.nil ⟨_, rfl, Ch.refl, rfl⟩
       refine Each.consS (fun fl O wk hE hN hO ck => ?_) ?_
       ·
        have ah3 := Kd.ch ah3 ck
        refine Need.o1 rfl rfl rfl (fun _ h => h) ?_
        refine Need.o1 rfl rfl rfl (fun _ h => h) ?_
        refine Need.o1 rfl rfl rfl (fun _ h => h) ?_
        refine Need.o1 rfl rfl rfl (fun _ h => h) ?_
        refine RL.yes rfl rfl rfl hg58 ?_
        refine rl_fn2 (c := (Service.enc y44)) (c' := (Service.enc y52)) rfl rfl rfl rfl rfl ah3 (F' := (G F Bb (un (inBlk av0) S2))) (xx := y44) (yy := y52) (show k_Service.rep (G F Bb (un (inBlk av0) S2)) wk y44 (Service.enc y44) from rfl) (show k_Service.rep (G F Bb (un (inBlk av0) S2)) wk y52 (Service.enc y52) from rfl) rfl ?_
        intro w96 c97
        exact RL.nil ⟨_, rfl, c97, rfl⟩
       refine Each.consS (fun fl O wk hE hN hO ck => ?_) ?_
       ·
        refine Need.o1 rfl rfl rfl (fun _ h => h) ?_
        refine Need.o1 rfl rfl rfl (fun _ h => h) ?_
        refine RL.yes rfl rfl rfl hg58 ?_
        refine rl_bin rfl rfl B.lss rfl ?_
        exact RL.nil ⟨_, rfl, Ch.refl, rfl⟩
       refine Each.consS (fun fl O wk hE hN hO ck => ?_) ?_
       ·
        refine Need.o1 rfl rfl rfl (fun _ h => h) ?_
        refine Need.o1 rfl rfl rfl (fun _ h => h) ?_
        refine rl_pickT rfl hg58 rfl rfl ?_
        exact RL.nil ⟨_, rfl, Ch.refl, congrArg Value.bool (Option.some.inj hs59)⟩
       trivial
      intro hvO104 OpO104 O104 w102 hO105 c103 hN106
      refine Need.o1 rfl rfl rfl (fun _ h => h) ?_
      exact RL.nil ⟨rfl, ⟨rfl, rfl, rfl, rfl, rfl, rfl, rfl, trivial⟩, c103⟩
     have hs108 := andO_f hg58 hb57
     refine CW.draw 17 [(none, fun fx O uu wx => uu = (Value.int .i64 x20)), (none, fun fx O uu wx => uu = (Value.int .i64 a1)), (none, fun fx O uu wx => uu = (Value.bool (decide (x20 > a1)))), (none, fun fx O uu wx => uu = (Value.bool (decide (x20 > a1)))), (none, fun _ O uu wx => uu = undef), (none, fun _ O uu wx => uu = undef), (none, fun _ O uu wx => uu = undef), (none, fun _ O uu wx => uu = undef), (none, fun _ O uu wx => uu = undef), (none, fun _ O uu wx => uu = undef), (none, fun _ O uu wx => uu = undef), (none, fun _ O uu wx => uu = undef), (none, fun _ O uu wx => uu = undef), (none, fun _ O uu wx => uu = undef), (none, fun _ O uu wx => uu = undef), (none, fun _ O uu wx => uu = undef), (none, fun fx O uu wx => uu = (Value.bool b56))] [[], [], [0, 1], [2], [3], [3], [3], [3], [3], [3], [3], [3], [3], [3], [3], [3], [3]] [16] nb (fun _ h => h.elim) mixed rfl rfl rfl rfl ?_ ?_
     ·
      refine Each.consS (fun fl O wk hE hN hO ck => ?_) ?_
      ·
       refine rl_move rfl rfl ?_
       exact RL.nil ⟨_, rfl, Ch.refl, rfl⟩
      refine Each.consS (fun fl O wk hE hN hO ck => ?_) ?_
      ·
       refine rl_move rfl rfl ?_
       exact RL.nil ⟨_, rfl, Ch.refl, rfl⟩
      refine Each.consS (fun fl O wk hE hN hO ck => ?_) ?_
      ·
       refine Need.o1 rfl rfl rfl (fun _ h => h) ?_
       refine Need.o1 rfl rfl rfl (fun _ h => h) ?_
       refine rl_bin rfl rfl B.gtr rfl ?_
       exact RL.nil ⟨_, rfl, Ch.refl, rfl⟩
      refine Each.consS (fun fl O wk hE hN hO ck => ?_) ?_
      ·
       refine Need.o1 rfl rfl rfl (fun _ h => h) ?_
       refine rl_move rfl rfl ?_
       exact RL.nil ⟨_, rfl, Ch.refl, rfl⟩
      refine Each.consS (fun fl O wk hE hN hO ck => ?_) ?_
      ·
       refine Need.o1 rfl rfl rfl (fun _ h => h) ?_
       refine RL.no rfl rfl rfl hg58 rfl rfl ?_
       exact RL.nil ⟨_, rfl, Ch.refl, rfl⟩
      refine Each.consS (fun fl O wk hE hN hO ck => ?_) ?_
      ·
       refine Need.o1 rfl rfl rfl (fun _ h => h) ?_
       refine RL.no rfl rfl rfl hg58 rfl rfl ?_
       exact RL.nil ⟨_, rfl, Ch.refl, rfl⟩
      refine Each.consS (fun fl O wk hE hN hO ck => ?_) ?_
      ·
       refine Need.o1 rfl rfl rfl (fun _ h => h) ?_
       refine RL.no rfl rfl rfl hg58 rfl rfl ?_
       exact RL.nil ⟨_, rfl, Ch.refl, rfl⟩
      refine Each.consS (fun fl O wk hE hN hO ck => ?_) ?_
      ·
       refine Need.o1 rfl rfl rfl (fun _ h => h) ?_
       refine RL.no rfl rfl rfl hg58 rfl rfl ?_
       exact RL.nil ⟨_, rfl, Ch.refl, rfl⟩
      refine Each.consS (fun fl O wk hE hN hO ck => ?_) ?_
      ·
       refine Need.o1 rfl rfl rfl (fun _ h => h) ?_
       refine RL.no rfl rfl rfl hg58 rfl rfl ?_
       exact RL.nil ⟨_, rfl, Ch.refl, rfl⟩
      refine Each.consS (fun fl O wk hE hN hO ck => ?_) ?_
      ·
       refine Need.o1 rfl rfl rfl (fun _ h => h) ?_
       refine RL.no rfl rfl rfl hg58 rfl rfl ?_
       exact RL.nil ⟨_, rfl, Ch.refl, rfl⟩
      refine Each.consS (fun fl O wk hE hN hO ck => ?_) ?_
      ·
       refine Need.o1 rfl rfl rfl (fun _ h => h) ?_
       refine RL.no rfl rfl rfl hg58 rfl rfl ?_
       exact RL.nil ⟨_, rfl, Ch.refl, rfl⟩
      refine Each.consS (fun fl O wk hE hN hO ck => ?_) ?_
      ·
       refine Need.o1 rfl rfl rfl (fun _ h => h) ?_
       refine RL.no rfl rfl rfl hg58 rfl rfl ?_
       exact RL.nil ⟨_, rfl, Ch.refl, rfl⟩
      refine Each.consS (fun fl O wk hE hN hO ck => ?_) ?_
      ·
       refine Need.o1 rfl rfl rfl (fun _ h => h) ?_
       refine RL.no rfl rfl rfl hg58 rfl rfl ?_
       exact RL.nil ⟨_, rfl, Ch.refl, rfl⟩
      refine Each.consS (fun fl O wk hE hN hO ck => ?_) ?_
      ·
       refine Need.o1 rfl rfl rfl (fun _ h => h) ?_
       refine RL.no rfl rfl rfl hg58 rfl rfl ?_
       exact RL.nil ⟨_, rfl, Ch.refl, rfl⟩
      refine Each.consS (fun fl O wk hE hN hO ck => ?_) ?_
      ·
       refine Need.o1 rfl rfl rfl (fun _ h => h) ?_
       refine RL.no rfl rfl rfl hg58 rfl rfl ?_
       exact RL.nil ⟨_, rfl, Ch.refl, rfl⟩
      refine Each.consS (fun fl O wk hE hN hO ck => ?_) ?_
      ·
       refine Need.o1 rfl rfl rfl (fun _ h => h) ?_
       refine RL.no rfl rfl rfl hg58 rfl rfl ?_
       exact RL.nil ⟨_, rfl, Ch.refl, rfl⟩
      refine Each.consS (fun fl O wk hE hN hO ck => ?_) ?_
      ·
       refine Need.o1 rfl rfl rfl (fun _ h => h) ?_
       refine rl_pickF rfl hg58 rfl rfl ?_
       exact RL.nil ⟨_, rfl, Ch.refl, congrArg Value.bool (Option.some.inj hs108)⟩
      trivial
     intro hvO127 OpO127 O127 w125 hO128 c126 hN129
     refine Need.o1 rfl rfl rfl (fun _ h => h) ?_
     exact RL.nil ⟨rfl, ⟨rfl, rfl, rfl, rfl, rfl, rfl, rfl, trivial⟩, c126⟩
    rintro _ w132 ⟨hE131, c133⟩
    have ah3 := Kd.ch ah3 c133
    have h22 := h22.ch0 c133
    have c35 := c35.then0 c133
    refine thn_n (CW.sub [(0, av0), (1, (Value.int .i64 a1)), (2, (Value.int .i64 a2)), (3, av3), (8, (Value.int .i64 x1)), (9, (Value.int .i64 x20)), (34, (Value.bool b56))] hE131 ?_)
    refine CW.cond (t := b56) rfl (fun q134 => ?_) (fun q134 => ?_)
    ·
     have hb29 := ifT q134 hb29
     refine CW.skip ?_
     refine thn_n (CW.seq ?_)
     refine CW.block ?_
     obtain ⟨y141, hy142, hb29⟩ := bindS hb29
     obtain ⟨y149, hy150, hb29⟩ := bindS hb29
     obtain ⟨y157, hy158, hb29⟩ := bindS hb29
     obtain ⟨y169, hy170, hb29⟩ := bindS hb29
     refine CW.draw 16 [(none, fun fx O uu wx => uu = av0), (none, fun fx O uu wx => uu = (Value.int .i64 x20)), (none, fun fx O uu wx => uu = av0), (none, fun fx O uu wx => uu = (Value.int .i64 x20)), (none, fun fx O uu wx => uu = (Value.int .i64 (IntKind.i64.wrap (x20 - 1)))), (none, fun fx O uu wx => uu = av0), (none, fun fx O uu wx => uu = (Value.int .i64 x20)), (none, fun fx O uu wx => uu = (Value.int .i64 (IntKind.i64.wrap (x20 - 1)))), (none, fun fx O uu wx => ∃ (p135 : Nat) (o136 : Nat), uu = (Value.pointer (some ⟨p135, o136, none⟩)) ∧ (fx = [] → Seg wx p135 o136 (Service.enc y141))), (none, fun fx O uu wx => uu = (Value.agg (Service.enc y141).toArray)), (none, fun fx O uu wx => uu = av0), (none, fun fx O uu wx => uu = (Value.int .i64 x20)), (none, fun fx O uu wx => ∃ (p143 : Nat) (o144 : Nat), uu = (Value.pointer (some ⟨p143, o144, none⟩)) ∧ (fx = [] → Seg wx p143 o144 (Service.enc y149))), (none, fun fx O uu wx => uu = (Value.agg (Service.enc y149).toArray)), (none, fun fx O uu wx => ∃ (p151 : Nat), uu = (Value.pointer (some ⟨p151, x20.toNat * k_Service.n, none⟩)) ∧ inBlk av0 p151), (some true, fun hv O uu wx => hv = [undef] ∧ uu = undef ∧ O = (inBlk av0) ∧ SlO k_Service 51 F Bb (un (inBlk av0) S2) wx (x21.set x20.toNat y141) av0)] [[], [], [], [], [3], [], [], [6], [5, 7], [8], [], [], [10, 11], [12], [0, 1], [9, 14]] [15, 2, 4, 13] (inBlk av0) (fun b h => (fun b hb => (h22.lt b hb).2) b h) mixed rfl rfl rfl rfl ?_ ?_
     ·
      refine Each.consS (fun fl O wk hE hN hO ck => ?_) ?_
      ·
       refine rl_move rfl rfl ?_
       exact RL.nil ⟨_, rfl, Ch.refl, rfl⟩
      refine Each.consS (fun fl O wk hE hN hO ck => ?_) ?_
      ·
       refine rl_move rfl rfl ?_
       exact RL.nil ⟨_, rfl, Ch.refl, rfl⟩
      refine Each.consS (fun fl O wk hE hN hO ck => ?_) ?_
      ·
       refine rl_move rfl rfl ?_
       exact RL.nil ⟨_, rfl, Ch.refl, rfl⟩
      refine Each.consS (fun fl O wk hE hN hO ck => ?_) ?_
      ·
       refine rl_move rfl rfl ?_
       exact RL.nil ⟨_, rfl, Ch.refl, rfl⟩
      refine Each.consS (fun fl O wk hE hN hO ck => ?_) ?_
      ·
       refine Need.o1 rfl rfl rfl (fun _ h => h) ?_
       refine rl_bin rfl rfl B.sub rfl ?_
       exact RL.nil ⟨_, rfl, Ch.refl, rfl⟩
      refine Each.consS (fun fl O wk hE hN hO ck => ?_) ?_
      ·
       refine rl_move rfl rfl ?_
       exact RL.nil ⟨_, rfl, Ch.refl, rfl⟩
      refine Each.consS (fun fl O wk hE hN hO ck => ?_) ?_
      ·
       refine rl_move rfl rfl ?_
       exact RL.nil ⟨_, rfl, Ch.refl, rfl⟩
      refine Each.consS (fun fl O wk hE hN hO ck => ?_) ?_
      ·
       refine Need.o1 rfl rfl rfl (fun _ h => h) ?_
       refine rl_bin rfl rfl B.sub rfl ?_
       exact RL.nil ⟨_, rfl, Ch.refl, rfl⟩
      refine Each.consA ⟨fun _ _ _ _ _ cc hh => by obtain ⟨p135, o136, e, hs139⟩ := hh; exact ⟨p135, o136, e, (fun hfx => (hs139 hfx).ch0 cc)⟩, fun _ _ h' O O' D _ wx wy hfl hD hO' cc hh => by obtain ⟨p135, o136, e, hs139⟩ := hh; have ad := admGh (S := S2) hD hO'; exact ⟨p135, o136, e, (fun hfx => hfl.elim (fun e => by rw [e] at hfx; cases hfx) (fun e => Seg.ch0 (hs139 (e.1.symm.trans hfx)) (cc.mono (fun b _ hd => (e.2 b hd).elim))))⟩, fun fl O wk hE hN hO ck => ?_⟩ ?_
      ·
       obtain ⟨_, hB185⟩ := hN (hE rfl)
       have h22 := h22.ch0 hB185.2.1
       refine Need.o1 rfl rfl rfl (fun _ h => h) ?_
       refine Need.o1 rfl rfl rfl (fun _ h => h) ?_
       refine rl_ixOR rfl h22 rfl (ixO_get hy142) k_Service_pos Tryd.underlying48 Tryd.sizeOf51 rfl ?_
       intro p188 o189 cs190 hr191 hs192 hg193
       obtain rfl := hr191
       exact RL.nil ⟨_, rfl, Ch.refl, ⟨p188, o189, rfl, (fun _ => hs192)⟩⟩
      refine Each.consS (fun fl O wk hE hN hO ck => ?_) ?_
      ·
       refine Need.one rfl rfl rfl ?_
       rintro _ ⟨p135, o136, e195, hs139⟩
       obtain rfl := e195.symm
       have hs139 := hs139 (hE rfl)
       refine rl_loadA (cs := (Service.enc y141)) rfl Tryd.isAgg51 Tryd.sizeOf51 (hs139) rfl rfl ?_
       exact RL.nil ⟨_, rfl, Ch.refl, rfl⟩
      refine Each.consS (fun fl O wk hE hN hO ck => ?_) ?_
      ·
       refine rl_move rfl rfl ?_
       exact RL.nil ⟨_, rfl, Ch.refl, rfl⟩
      refine Each.consS (fun fl O wk hE hN hO ck => ?_) ?_
      ·
       refine rl_move rfl rfl ?_
       exact RL.nil ⟨_, rfl, Ch.refl, rfl⟩
      refine Each.consA ⟨fun _ _ _ _ _ cc hh => by obtain ⟨p143, o144, e, hs147⟩ := hh; exact ⟨p143, o144, e, (fun hfx => (hs147 hfx).ch0 cc)⟩, fun _ _ h' O O' D _ wx wy hfl hD hO' cc hh => by obtain ⟨p143, o144, e, hs147⟩ := hh; have ad := admGh (S := S2) hD hO'; exact ⟨p143, o144, e, (fun hfx => hfl.elim (fun e => by rw [e] at hfx; cases hfx) (fun e => Seg.ch0 (hs147 (e.1.symm.trans hfx)) (cc.mono (fun b _ hd => (e.2 b hd).elim))))⟩, fun fl O wk hE hN hO ck => ?_⟩ ?_
      ·
       obtain ⟨_, hB198⟩ := hN (hE rfl)
       have h22 := h22.ch0 hB198.2.1
       refine Need.o1 rfl rfl rfl (fun _ h => h) ?_
       refine Need.o1 rfl rfl rfl (fun _ h => h) ?_
       refine rl_ixOR rfl h22 rfl (ixO_get hy150) k_Service_pos Tryd.underlying48 Tryd.sizeOf51 rfl ?_
       intro p201 o202 cs203 hr204 hs205 hg206
       obtain rfl := hr204
       exact RL.nil ⟨_, rfl, Ch.refl, ⟨p201, o202, rfl, (fun _ => hs205)⟩⟩
      refine Each.consS (fun fl O wk hE hN hO ck => ?_) ?_
      ·
       refine Need.one rfl rfl rfl ?_
       rintro _ ⟨p143, o144, e208, hs147⟩
       obtain rfl := e208.symm
       have hs147 := hs147 (hE rfl)
       refine rl_loadA (cs := (Service.enc y149)) rfl Tryd.isAgg51 Tryd.sizeOf51 (hs147) rfl rfl ?_
       exact RL.nil ⟨_, rfl, Ch.refl, rfl⟩
      refine Each.consA ⟨fun _ _ _ _ _ cc hh => by obtain ⟨p151, e, hg156⟩ := hh; exact ⟨p151, e, hg156⟩, fun _ _ h' O O' D _ wx wy hfl hD hO' cc hh => by obtain ⟨p151, e, hg156⟩ := hh; have ad := admGh (S := S2) hD hO'; exact ⟨p151, e, hg156⟩, fun fl O wk hE hN hO ck => ?_⟩ ?_
      ·
       obtain ⟨_, hB209⟩ := hN (hE rfl)
       have h22 := h22.ch0 hB209.2.1
       refine Need.o1 rfl rfl rfl (fun _ h => h) ?_
       refine Need.o1 rfl rfl rfl (fun _ h => h) ?_
       refine rl_ixO rfl h22 rfl (ixO_get hy158) Tryd.underlying48 Tryd.sizeOf51 rfl ?_
       intro p212 hg217
       exact RL.nil ⟨_, rfl, Ch.refl, ⟨p212, rfl, hg217⟩⟩
      refine Each.consO ⟨fun _ O _ wx wy cc hh => by obtain ⟨eh, e, rfl, ck15_0⟩ := hh; exact ⟨eh, e, rfl, ck15_0.ch0 cc⟩, fun hv Op O wk hO ck hO0 => ?_⟩ ?_
      ·
       obtain ⟨hl, hBg⟩ := hO0 rfl
       obtain rfl := List.eq_nil_of_length_eq_zero hl
       have h22 := h22.ch0 hBg.2.1
       refine Need.o1 rfl rfl rfl (fun _ h => h) ?_
       refine Need.one rfl rfl rfl ?_
       rintro _ ⟨p151, e219, hg156⟩
       obtain rfl := e219.symm
       refine rl_storeOA rfl rfl Tryd.sizeOf51 h22 hg156 (ixO_lt hy158) (show k_Service.rep (G F Bb (un (inBlk av0) S2)) wk y141 (Service.enc y141) from rfl) ?_
       intro w220 c221 h222
       have hb224 : ∀ b, (inBlk av0) b → (O b ∨ wk.heap.size ≤ b) ∧ b < w220.heap.size := fun b h => ⟨.inl ((hBg.1 b).2 (.inl h)), (fun b hb => (h222.lt b hb).2) b h⟩
       exact RL.nil ⟨_, (inBlk av0), rfl, hb224, (c221.mono (fun b _ h => ((hBg.1 b).2 (.inl h)))), ⟨rfl, rfl, rfl, h222⟩⟩
      trivial
     intro hvO227 OpO227 O227 w225 hO228 c226 hN229
     refine Need.hereN rfl rfl rfl rfl ?_
     rintro ⟨rfl, _, rfl, ck15_0⟩
     have ha231 : ∀ b, b < w132.heap.size → ¬ (un (inBlk av0) S2) b → ¬ (inBlk av0) b ∧ ¬ (un (inBlk av0) S2) b := fun b hb hs => ⟨fun h => hs (.inl h), fun h => un_el h (fun h => (hO228 b h).1.elim (fun h => hs (.inl h)) (fun h => Nat.not_le_of_lt hb h)) (fun h => hs (.inr h))⟩
     have ah3 := Kd.st ah3 c226 ha231
     have c35 := c35.then c226 (fun i hi h => (lin0_0 i h).elim (fun x => x) (fun x => absurd x (Nat.not_le_of_lt hi)))
     refine Need.o1 rfl rfl rfl (fun _ h => h) ?_
     refine Need.o1 rfl rfl rfl (fun _ h => h) ?_
     refine Need.o1 rfl rfl rfl (fun _ h => h) ?_
     refine rl_ixO rfl ck15_0 rfl (ixO_get hy170) Tryd.underlying48 Tryd.sizeOf51 rfl ?_
     intro p235 hg240
     refine rl_storeOA rfl rfl Tryd.sizeOf51 ck15_0 hg240 (ixO_lt hy170) (show k_Service.rep (G F Bb (un (inBlk av0) S2)) w225 y149 (Service.enc y149) from rfl) ?_
     intro w241 c242 h243
     have ad244 : ∀ b, b < w225.heap.size → ¬ (un (inBlk av0) S2) b → ¬ (inBlk av0) b ∧ ¬ (un (inBlk av0) S2) b := fun b _ hs => ⟨fun h => hs (.inl h), hs⟩
     have ah3 := Kd.st ah3 c242 ad244
     have c35 := c35.then c242 (fun i hi h => (lin0_0 i h).elim (fun x => x) (fun x => absurd x (Nat.not_le_of_lt hi)))
     refine RL.nil ?_
     refine inB_n ?_
     refine thn_n (CW.region ?_)
     refine rl_move rfl rfl ?_
     refine rl_bin rfl rfl B.sub rfl ?_
     refine rl_assign rfl rfl ?_
     refine RL.nil (thn_n ?_)
     have hLn := runW_next hL25 hq28 hb29
     exact ⟨k34, Nat.lt_succ_self _, [(0, av0), (1, (Value.int .i64 a1)), (2, (Value.int .i64 a2)), (3, av3), (8, (Value.int .i64 x1)), (9, (Value.int .i64 (IntKind.i64.wrap (x20 - 1))))], ⟨rfl, rfl, rfl, rfl, rfl, rfl, trivial⟩, ⟨IntKind.i64.wrap (x20 - 1), (x21.set x20.toNat y141).set (IntKind.i64.wrap (x20 - 1)).toNat y149, rfl, c35, hLn, ah3, h243⟩⟩
    have hb29 := ifF q134 hb29
    refine CW.exit ?_
    refine thn_exit ?_
    refine thn_exit ?_
    refine inB_hit ?_
    have hLf := runW_fin hL25 hq28 hb29
    exact ⟨x20, x21, ⟨rfl, rfl, rfl, rfl, rfl, trivial⟩, c35, hLf, ah3, h22⟩
   rintro _ w246 ⟨x20, x21, hE247, c245, f248, ah3, h22⟩
   have hb10 := finS f248 hb10
   refine inB_n ?_
   refine thn_n (CW.sub [(0, av0), (1, (Value.int .i64 a1)), (2, (Value.int .i64 a2)), (3, av3), (8, (Value.int .i64 x1))] hE247 ?_)
   refine CW.region ?_
   refine rl_move rfl rfl ?_
   refine rl_bin rfl rfl B.add rfl ?_
   refine rl_assign rfl rfl ?_
   refine RL.nil (thn_n ?_)
   have hLn := runW_next hL6 hq9 hb10
   exact ⟨k15, Nat.lt_succ_self _, [(0, av0), (1, (Value.int .i64 a1)), (2, (Value.int .i64 a2)), (3, av3), (8, (Value.int .i64 (IntKind.i64.wrap (x1 + 1))))], ⟨rfl, rfl, rfl, rfl, rfl, trivial⟩, ⟨IntKind.i64.wrap (x1 + 1), x21, rfl, c245, hLn, ah3, h22⟩⟩
  have hb10 := ifF q19 hb10
  refine CW.exit ?_
  refine thn_exit ?_
  refine thn_exit ?_
  refine inB_hit ?_
  have hLf := runW_fin hL6 hq9 hb10
  exact ⟨x1, x2, trivial, c16, hLf, ah3, h3⟩
 rintro _ w251 ⟨x1, x2, hE252, c250, f253, ah3, h3⟩
 have hS := finS f253 hS
 obtain rfl := Option.some.inj hS
 exact ⟨[], trivial, ⟨rfl, h3, c250⟩⟩
theorem ctr67 (F : Nat → Prop) (w : World) (Bb : Nat) (S2 : Nat → Prop) (hB : Bb ≤ w.heap.size) (h2 : ∀ b, S2 b → b < w.heap.size) (av0 : Value) (hd2 : ∀ b, (inBlk av0) b → ¬ S2 b) (a0 : (List Service)) (ah0 : SlO k_Service 51 F Bb (un (inBlk av0) S2) w a0 av0) (a1 : Int) (a2 : Int) (a3 : Int) (a4 : (Service → Service → Int)) (av4 : Value) (ah4 : (Kd.fn2 Tryd.prog true true k_Service k_Service (Value.int .i64)).rep (G F Bb (un (inBlk av0) S2)) w a4 [av4]) (r : (List Service)) (hs : F67_Service a0 a1 a2 a3 a4 = some r) :
    Ret Tryd.prog 67 #[av0, (Value.int .i64 a1), (Value.int .i64 a2), (Value.int .i64 a3), av4] w fun v w' => v = Value.tuple #[] ∧ SlO k_Service 51 F Bb (un (inBlk av0) S2) w' r av0 ∧ Ch (inBlk av0) w w' := by
 have hS := hs
 have c0 : Ch (inBlk av0) w w := Ch.refl
 have lin0_0 : ∀ b, inBlk av0 b → (inBlk av0) b ∨ w.heap.size ≤ b := fun b h => .inl h
 refine Ret.of (n := 38) (args := [_, _, _, _, _]) (rs := []) Tryd.func67 rfl rfl rfl rfl ?_
 refine CW.seq (CW.region ?_)
 refine rl_assign rfl rfl ?_
 refine RL.nil (thn_n ?_)
 obtain ⟨o11, ho12, hS⟩ := bindS hS
 refine CW.cutB (fun E' w' => ∃ (x1 : Int) (x2 : (List Service)), Sub [] E' ∧ Ch (inBlk av0) w w' ∧ Lp.fin (x1, x2) = o11 ∧ (Kd.fn2 Tryd.prog true true k_Service k_Service (Value.int .i64)).rep (G F Bb (un (inBlk av0) S2)) w' a4 [av4] ∧ SlO k_Service 51 F Bb (un (inBlk av0) S2) w' x2 av0) ?_ ?_
 ·
  refine CW.loopS [(0, av0), (1, (Value.int .i64 a1)), (2, (Value.int .i64 a2)), (3, (Value.int .i64 a3)), (10, (Value.int .i64 0))] ⟨rfl, rfl, rfl, rfl, rfl, trivial⟩ FUEL (fun m E w' => ∃ (x1 : Int) (x2 : (List Service)), E = [(0, av0), (1, (Value.int .i64 a1)), (2, (Value.int .i64 a2)), (3, (Value.int .i64 a3)), (10, (Value.int .i64 x1))] ∧ Ch (inBlk av0) w w' ∧ runW (F67_Service_b1 a1 a2 a3) m (x1, x2) = some o11 ∧ (Kd.fn2 Tryd.prog true true k_Service k_Service (Value.int .i64)).rep (G F Bb (un (inBlk av0) S2)) w' a4 [av4] ∧ SlO k_Service 51 F Bb (un (inBlk av0) S2) w' x2 av0)
      ⟨0, a0, rfl, c0, ho12, ah4, ah0⟩ ?_
  rintro _ _ w17 ⟨x1, x2, rfl, c16, hL6, ah4, h3⟩
  obtain ⟨k15, q8, rfl, hq9⟩ := runW_some hL6
  have hb10 := hq9
  refine CW.seq ?_
  refine CW.seq (CW.region ?_)
  refine rl_move rfl rfl ?_
  refine rl_move rfl rfl ?_
  refine rl_bin rfl rfl B.lss rfl ?_
  refine RL.nil (thn_n ?_)
  refine CW.cond (t := decide (x1 < a3)) rfl (fun q19 => ?_) (fun q19 => ?_)
  ·
   have hb10 := ifT q19 hb10
   refine CW.skip ?_
   refine thn_n (CW.seq ?_)
   refine CW.block ?_
   obtain ⟨y26, hy27, hb10⟩ := bindS hb10
   obtain ⟨y34, hy35, hb10⟩ := bindS hb10
   obtain ⟨y42, hy43, hb10⟩ := bindS hb10
   obtain ⟨y54, hy55, hb10⟩ := bindS hb10
   refine CW.draw 22 [(none, fun fx O uu wx => uu = av0), (none, fun fx O uu wx => uu = (Value.int .i64 a1)), (none, fun fx O uu wx => uu = (Value.int .i64 x1)), (none, fun fx O uu wx => uu = (Value.int .i64 (IntKind.i64.wrap (a1 + x1)))), (none, fun fx O uu wx => uu = av0), (none, fun fx O uu wx => uu = (Value.int .i64 a2)), (none, fun fx O uu wx => uu = (Value.int .i64 x1)), (none, fun fx O uu wx => uu = (Value.int .i64 (IntKind.i64.wrap (a2 + x1)))), (none, fun fx O uu wx => uu = av0), (none, fun fx O uu wx => uu = (Value.int .i64 a2)), (none, fun fx O uu wx => uu = (Value.int .i64 x1)), (none, fun fx O uu wx => uu = (Value.int .i64 (IntKind.i64.wrap (a2 + x1)))), (none, fun fx O uu wx => ∃ (p20 : Nat) (o21 : Nat), uu = (Value.pointer (some ⟨p20, o21, none⟩)) ∧ (fx = [] → Seg wx p20 o21 (Service.enc y26))), (none, fun fx O uu wx => uu = (Value.agg (Service.enc y26).toArray)), (none, fun fx O uu wx => uu = av0), (none, fun fx O uu wx => uu = (Value.int .i64 a1)), (none, fun fx O uu wx => uu = (Value.int .i64 x1)), (none, fun fx O uu wx => uu = (Value.int .i64 (IntKind.i64.wrap (a1 + x1)))), (none, fun fx O uu wx => ∃ (p28 : Nat) (o29 : Nat), uu = (Value.pointer (some ⟨p28, o29, none⟩)) ∧ (fx = [] → Seg wx p28 o29 (Service.enc y34))), (none, fun fx O uu wx => uu = (Value.agg (Service.enc y34).toArray)), (none, fun fx O uu wx => ∃ (p36 : Nat), uu = (Value.pointer (some ⟨p36, (IntKind.i64.wrap (a1 + x1)).toNat * k_Service.n, none⟩)) ∧ inBlk av0 p36), (some true, fun hv O uu wx => hv = [undef] ∧ uu = undef ∧ O = (inBlk av0) ∧ SlO k_Service 51 F Bb (un (inBlk av0) S2) wx (x2.set (IntKind.i64.wrap (a1 + x1)).toNat y26) av0)] [[], [], [], [1, 2], [], [], [], [5, 6], [], [], [], [9, 10], [8, 11], [12], [], [], [], [15, 16], [14, 17], [18], [0, 3], [13, 20]] [21, 4, 7, 19] (inBlk av0) (fun b h => (fun b hb => (h3.lt b hb).2) b h) mixed rfl rfl rfl rfl ?_ ?_
   ·
    refine Each.consS (fun fl O wk hE hN hO ck => ?_) ?_
    ·
     refine rl_move rfl rfl ?_
     exact RL.nil ⟨_, rfl, Ch.refl, rfl⟩
    refine Each.consS (fun fl O wk hE hN hO ck => ?_) ?_
    ·
     refine rl_move rfl rfl ?_
     exact RL.nil ⟨_, rfl, Ch.refl, rfl⟩
    refine Each.consS (fun fl O wk hE hN hO ck => ?_) ?_
    ·
     refine rl_move rfl rfl ?_
     exact RL.nil ⟨_, rfl, Ch.refl, rfl⟩
    refine Each.consS (fun fl O wk hE hN hO ck => ?_) ?_
    ·
     refine Need.o1 rfl rfl rfl (fun _ h => h) ?_
     refine Need.o1 rfl rfl rfl (fun _ h => h) ?_
     refine rl_bin rfl rfl B.add rfl ?_
     exact RL.nil ⟨_, rfl, Ch.refl, rfl⟩
    refine Each.consS (fun fl O wk hE hN hO ck => ?_) ?_
    ·
     refine rl_move rfl rfl ?_
     exact RL.nil ⟨_, rfl, Ch.refl, rfl⟩
    refine Each.consS (fun fl O wk hE hN hO ck => ?_) ?_
    ·
     refine rl_move rfl rfl ?_
     exact RL.nil ⟨_, rfl, Ch.refl, rfl⟩
    refine Each.consS (fun fl O wk hE hN hO ck => ?_) ?_
    ·
     refine rl_move rfl rfl ?_
     exact RL.nil ⟨_, rfl, Ch.refl, rfl⟩
    refine Each.consS (fun fl O wk hE hN hO ck => ?_) ?_
    ·
     refine Need.o1 rfl rfl rfl (fun _ h => h) ?_
     refine Need.o1 rfl rfl rfl (fun _ h => h) ?_
     refine rl_bin rfl rfl B.add rfl ?_
     exact RL.nil ⟨_, rfl, Ch.refl, rfl⟩
    refine Each.consS (fun fl O wk hE hN hO ck => ?_) ?_
    ·
     refine rl_move rfl rfl ?_
     exact RL.nil ⟨_, rfl, Ch.refl, rfl⟩
    refine Each.consS (fun fl O wk hE hN hO ck => ?_) ?_
    ·
     refine rl_move rfl rfl ?_
     exact RL.nil ⟨_, rfl, Ch.refl, rfl⟩
    refine Each.consS (fun fl O wk hE hN hO ck => ?_) ?_
    ·
     refine rl_move rfl rfl ?_
     exact RL.nil ⟨_, rfl, Ch.refl, rfl⟩
    refine Each.consS (fun fl O wk hE hN hO ck => ?_) ?_
    ·
     refine Need.o1 rfl rfl rfl (fun _ h => h) ?_
     refine Need.o1 rfl rfl rfl (fun _ h => h) ?_
     refine rl_bin rfl rfl B.add rfl ?_
     exact RL.nil ⟨_, rfl, Ch.refl, rfl⟩
    refine Each.consA ⟨fun _ _ _ _ _ cc hh => by obtain ⟨p20, o21, e, hs24⟩ := hh; exact ⟨p20, o21, e, (fun hfx => (hs24 hfx).ch0 cc)⟩, fun _ _ h' O O' D _ wx wy hfl hD hO' cc hh => by obtain ⟨p20, o21, e, hs24⟩ := hh; have ad := admGh (S := S2) hD hO'; exact ⟨p20, o21, e, (fun hfx => hfl.elim (fun e => by rw [e] at hfx; cases hfx) (fun e => Seg.ch0 (hs24 (e.1.symm.trans hfx)) (cc.mono (fun b _ hd => (e.2 b hd).elim))))⟩, fun fl O wk hE hN hO ck => ?_⟩ ?_
    ·
     obtain ⟨_, hB78⟩ := hN (hE rfl)
     have h3 := h3.ch0 hB78.2.1
     refine Need.o1 rfl rfl rfl (fun _ h => h) ?_
     refine Need.o1 rfl rfl rfl (fun _ h => h) ?_
     refine rl_ixOR rfl h3 rfl (ixO_get hy27) k_Service_pos Tryd.underlying48 Tryd.sizeOf51 rfl ?_
     intro p81 o82 cs83 hr84 hs85 hg86
     obtain rfl := hr84
     exact RL.nil ⟨_, rfl, Ch.refl, ⟨p81, o82, rfl, (fun _ => hs85)⟩⟩
    refine Each.consS (fun fl O wk hE hN hO ck => ?_) ?_
    ·
     refine Need.one rfl rfl rfl ?_
     rintro _ ⟨p20, o21, e88, hs24⟩
     obtain rfl := e88.symm
     have hs24 := hs24 (hE rfl)
     refine rl_loadA (cs := (Service.enc y26)) rfl Tryd.isAgg51 Tryd.sizeOf51 (hs24) rfl rfl ?_
     exact RL.nil ⟨_, rfl, Ch.refl, rfl⟩
    refine Each.consS (fun fl O wk hE hN hO ck => ?_) ?_
    ·
     refine rl_move rfl rfl ?_
     exact RL.nil ⟨_, rfl, Ch.refl, rfl⟩
    refine Each.consS (fun fl O wk hE hN hO ck => ?_) ?_
    ·
     refine rl_move rfl rfl ?_
     exact RL.nil ⟨_, rfl, Ch.refl, rfl⟩
    refine Each.consS (fun fl O wk hE hN hO ck => ?_) ?_
    ·
     refine rl_move rfl rfl ?_
     exact RL.nil ⟨_, rfl, Ch.refl, rfl⟩
    refine Each.consS (fun fl O wk hE hN hO ck => ?_) ?_
    ·
     refine Need.o1 rfl rfl rfl (fun _ h => h) ?_
     refine Need.o1 rfl rfl rfl (fun _ h => h) ?_
     refine rl_bin rfl rfl B.add rfl ?_
     exact RL.nil ⟨_, rfl, Ch.refl, rfl⟩
    refine Each.consA ⟨fun _ _ _ _ _ cc hh => by obtain ⟨p28, o29, e, hs32⟩ := hh; exact ⟨p28, o29, e, (fun hfx => (hs32 hfx).ch0 cc)⟩, fun _ _ h' O O' D _ wx wy hfl hD hO' cc hh => by obtain ⟨p28, o29, e, hs32⟩ := hh; have ad := admGh (S := S2) hD hO'; exact ⟨p28, o29, e, (fun hfx => hfl.elim (fun e => by rw [e] at hfx; cases hfx) (fun e => Seg.ch0 (hs32 (e.1.symm.trans hfx)) (cc.mono (fun b _ hd => (e.2 b hd).elim))))⟩, fun fl O wk hE hN hO ck => ?_⟩ ?_
    ·
     obtain ⟨_, hB95⟩ := hN (hE rfl)
     have h3 := h3.ch0 hB95.2.1
     refine Need.o1 rfl rfl rfl (fun _ h => h) ?_
     refine Need.o1 rfl rfl rfl (fun _ h => h) ?_
     refine rl_ixOR rfl h3 rfl (ixO_get hy35) k_Service_pos Tryd.underlying48 Tryd.sizeOf51 rfl ?_
     intro p98 o99 cs100 hr101 hs102 hg103
     obtain rfl := hr101
     exact RL.nil ⟨_, rfl, Ch.refl, ⟨p98, o99, rfl, (fun _ => hs102)⟩⟩
    refine Each.consS (fun fl O wk hE hN hO ck => ?_) ?_
    ·
     refine Need.one rfl rfl rfl ?_
     rintro _ ⟨p28, o29, e105, hs32⟩
     obtain rfl := e105.symm
     have hs32 := hs32 (hE rfl)
     refine rl_loadA (cs := (Service.enc y34)) rfl Tryd.isAgg51 Tryd.sizeOf51 (hs32) rfl rfl ?_
     exact RL.nil ⟨_, rfl, Ch.refl, rfl⟩
    refine Each.consA ⟨fun _ _ _ _ _ cc hh => by obtain ⟨p36, e, hg41⟩ := hh; exact ⟨p36, e, hg41⟩, fun _ _ h' O O' D _ wx wy hfl hD hO' cc hh => by obtain ⟨p36, e, hg41⟩ := hh; have ad := admGh (S := S2) hD hO'; exact ⟨p36, e, hg41⟩, fun fl O wk hE hN hO ck => ?_⟩ ?_
    ·
     obtain ⟨_, hB106⟩ := hN (hE rfl)
     have h3 := h3.ch0 hB106.2.1
     refine Need.o1 rfl rfl rfl (fun _ h => h) ?_
     refine Need.o1 rfl rfl rfl (fun _ h => h) ?_
     refine rl_ixO rfl h3 rfl (ixO_get hy43) Tryd.underlying48 Tryd.sizeOf51 rfl ?_
     intro p109 hg114
     exact RL.nil ⟨_, rfl, Ch.refl, ⟨p109, rfl, hg114⟩⟩
    refine Each.consO ⟨fun _ O _ wx wy cc hh => by obtain ⟨eh, e, rfl, ck21_0⟩ := hh; exact ⟨eh, e, rfl, ck21_0.ch0 cc⟩, fun hv Op O wk hO ck hO0 => ?_⟩ ?_
    ·
     obtain ⟨hl, hBg⟩ := hO0 rfl
     obtain rfl := List.eq_nil_of_length_eq_zero hl
     have h3 := h3.ch0 hBg.2.1
     refine Need.o1 rfl rfl rfl (fun _ h => h) ?_
     refine Need.one rfl rfl rfl ?_
     rintro _ ⟨p36, e116, hg41⟩
     obtain rfl := e116.symm
     refine rl_storeOA rfl rfl Tryd.sizeOf51 h3 hg41 (ixO_lt hy43) (show k_Service.rep (G F Bb (un (inBlk av0) S2)) wk y26 (Service.enc y26) from rfl) ?_
     intro w117 c118 h119
     have hb121 : ∀ b, (inBlk av0) b → (O b ∨ wk.heap.size ≤ b) ∧ b < w117.heap.size := fun b h => ⟨.inl ((hBg.1 b).2 (.inl h)), (fun b hb => (h119.lt b hb).2) b h⟩
     exact RL.nil ⟨_, (inBlk av0), rfl, hb121, (c118.mono (fun b _ h => ((hBg.1 b).2 (.inl h)))), ⟨rfl, rfl, rfl, h119⟩⟩
    trivial
   intro hvO124 OpO124 O124 w122 hO125 c123 hN126
   refine Need.hereN rfl rfl rfl rfl ?_
   rintro ⟨rfl, _, rfl, ck21_0⟩
   have ha128 : ∀ b, b < w17.heap.size → ¬ (un (inBlk av0) S2) b → ¬ (inBlk av0) b ∧ ¬ (un (inBlk av0) S2) b := fun b hb hs => ⟨fun h => hs (.inl h), fun h => un_el h (fun h => (hO125 b h).1.elim (fun h => hs (.inl h)) (fun h => Nat.not_le_of_lt hb h)) (fun h => hs (.inr h))⟩
   have ah4 := Kd.st ah4 c123 ha128
   have c16 := c16.then c123 (fun i hi h => (lin0_0 i h).elim (fun x => x) (fun x => absurd x (Nat.not_le_of_lt hi)))
   refine Need.o1 rfl rfl rfl (fun _ h => h) ?_
   refine Need.o1 rfl rfl rfl (fun _ h => h) ?_
   refine Need.o1 rfl rfl rfl (fun _ h => h) ?_
   refine rl_ixO rfl ck21_0 rfl (ixO_get hy55) Tryd.underlying48 Tryd.sizeOf51 rfl ?_
   intro p132 hg137
   refine rl_storeOA rfl rfl Tryd.sizeOf51 ck21_0 hg137 (ixO_lt hy55) (show k_Service.rep (G F Bb (un (inBlk av0) S2)) w122 y34 (Service.enc y34) from rfl) ?_
   intro w138 c139 h140
   have ad141 : ∀ b, b < w122.heap.size → ¬ (un (inBlk av0) S2) b → ¬ (inBlk av0) b ∧ ¬ (un (inBlk av0) S2) b := fun b _ hs => ⟨fun h => hs (.inl h), hs⟩
   have ah4 := Kd.st ah4 c139 ad141
   have c16 := c16.then c139 (fun i hi h => (lin0_0 i h).elim (fun x => x) (fun x => absurd x (Nat.not_le_of_lt hi)))
   refine RL.nil ?_
   refine inB_n ?_
   refine thn_n (CW.region ?_)
   refine rl_move rfl rfl ?_
   refine rl_bin rfl rfl B.add rfl ?_
   refine rl_assign rfl rfl ?_
   refine RL.nil (thn_n ?_)
   have hLn := runW_next hL6 hq9 hb10
   exact ⟨k15, Nat.lt_succ_self _, [(0, av0), (1, (Value.int .i64 a1)), (2, (Value.int .i64 a2)), (3, (Value.int .i64 a3)), (10, (Value.int .i64 (IntKind.i64.wrap (x1 + 1))))], ⟨rfl, rfl, rfl, rfl, rfl, trivial⟩, ⟨IntKind.i64.wrap (x1 + 1), (x2.set (IntKind.i64.wrap (a1 + x1)).toNat y26).set (IntKind.i64.wrap (a2 + x1)).toNat y34, rfl, c16, hLn, ah4, h140⟩⟩
  have hb10 := ifF q19 hb10
  refine CW.exit ?_
  refine thn_exit ?_
  refine thn_exit ?_
  refine inB_hit ?_
  have hLf := runW_fin hL6 hq9 hb10
  exact ⟨x1, x2, trivial, c16, hLf, ah4, h3⟩
 rintro _ w143 ⟨x1, x2, hE144, c142, f145, ah4, h3⟩
 have hS := finS f145 hS
 obtain rfl := Option.some.inj hS
 exact ⟨[], trivial, ⟨rfl, h3, c142⟩⟩
theorem ctr61 (F : Nat → Prop) (w : World) (Bb : Nat) (S2 : Nat → Prop) (hB : Bb ≤ w.heap.size) (h2 : ∀ b, S2 b → b < w.heap.size) (av0 : Value) (hd2 : ∀ b, (inBlk av0) b → ¬ S2 b) (a0 : (List Service)) (ah0 : SlO k_Service 51 F Bb (un (inBlk av0) S2) w a0 av0) (a1 : Int) (a2 : Int) (a3 : Int) (a4 : (Service → Service → Int)) (av4 : Value) (ah4 : (Kd.fn2 Tryd.prog true true k_Service k_Service (Value.int .i64)).rep (G F Bb (un (inBlk av0) S2)) w a4 [av4]) (r : (List Service)) (hs : F61_Service a0 a1 a2 a3 a4 = some r) :
    Ret Tryd.prog 61 #[av0, (Value.int .i64 a1), (Value.int .i64 a2), (Value.int .i64 a3), av4] w fun v w' => v = Value.tuple #[] ∧ SlO k_Service 51 F Bb (un (inBlk av0) S2) w' r av0 ∧ Ch (inBlk av0) w w' := by
 have hS := hs
 have c0 : Ch (inBlk av0) w w := Ch.refl
 have lin0_0 : ∀ b, inBlk av0 b → (inBlk av0) b ∨ w.heap.size ≤ b := fun b h => .inl h
 refine Ret.of (n := 58) (args := [_, _, _, _, _]) (rs := []) Tryd.func61 rfl rfl rfl rfl ?_
 refine CW.seq (CW.region ?_)
 refine rl_move rfl rfl ?_
 refine rl_move rfl rfl ?_
 refine rl_bin rfl rfl B.sub rfl ?_
 refine rl_assign rfl rfl ?_
 refine RL.nil (thn_n (CW.seq (CW.region ?_)))
 refine rl_move rfl rfl ?_
 refine rl_move rfl rfl ?_
 refine rl_bin rfl rfl B.sub rfl ?_
 refine rl_assign rfl rfl ?_
 refine RL.nil (thn_n (CW.seq ?_))
 obtain ⟨o12, ho13, hS⟩ := bindS hS
 refine CW.cutB (fun E' w' => ∃ (x1 : Int) (x2 : Int) (x3 : (List Service)), Sub [(0, av0), (2, (Value.int .i64 a2)), (4, av4), (10, (Value.int .i64 x1))] E' ∧ Ch (inBlk av0) w w' ∧ Lp.fin (x1, x2, x3) = o12 ∧ (Kd.fn2 Tryd.prog true true k_Service k_Service (Value.int .i64)).rep (G F Bb (un (inBlk av0) S2)) w' a4 [av4] ∧ SlO k_Service 51 F Bb (un (inBlk av0) S2) w' x3 av0) ?_ ?_
 ·
  refine CW.loopS [(0, av0), (2, (Value.int .i64 a2)), (4, av4), (10, (Value.int .i64 (IntKind.i64.wrap (a2 - a1)))), (11, (Value.int .i64 (IntKind.i64.wrap (a3 - a2))))] ⟨rfl, rfl, rfl, rfl, rfl, trivial⟩ FUEL (fun m E w' => ∃ (x1 : Int) (x2 : Int) (x3 : (List Service)), E = [(0, av0), (2, (Value.int .i64 a2)), (4, av4), (10, (Value.int .i64 x1)), (11, (Value.int .i64 x2))] ∧ Ch (inBlk av0) w w' ∧ runW (F61_Service_b1 a2 a4) m (x1, x2, x3) = some o12 ∧ (Kd.fn2 Tryd.prog true true k_Service k_Service (Value.int .i64)).rep (G F Bb (un (inBlk av0) S2)) w' a4 [av4] ∧ SlO k_Service 51 F Bb (un (inBlk av0) S2) w' x3 av0)
      ⟨IntKind.i64.wrap (a2 - a1), IntKind.i64.wrap (a3 - a2), a0, rfl, c0, ho13, ah4, ah0⟩ ?_
  rintro _ _ w18 ⟨x1, x2, x3, rfl, c17, hL7, ah4, h4⟩
  obtain ⟨k16, q9, rfl, hq10⟩ := runW_some hL7
  have hb11 := hq10
  refine CW.seq ?_
  refine CW.seq (CW.region ?_)
  refine rl_move rfl rfl ?_
  refine rl_move rfl rfl ?_
  refine rl_bin rfl rfl B.neq rfl ?_
  refine RL.nil (thn_n ?_)
  refine CW.cond (t := !decide (x1 = x2)) rfl (fun q20 => ?_) (fun q20 => ?_)
  ·
   have hb11 := ifT q20 hb11
   refine CW.skip ?_
   refine thn_n (CW.block ?_)
   refine CW.seq (CW.region ?_)
   refine rl_move rfl rfl ?_
   refine rl_move rfl rfl ?_
   refine rl_bin rfl rfl B.gtr rfl ?_
   refine RL.nil (thn_n ?_)
   refine CW.cond (t := decide (x1 > x2)) rfl (fun q21 => ?_) (fun q21 => ?_)
   ·
    have hb11 := ifT q21 hb11
    refine CW.seq (CW.region ?_)
    refine rl_move rfl rfl ?_
    refine rl_move rfl rfl ?_
    refine rl_move rfl rfl ?_
    refine rl_bin rfl rfl B.sub rfl ?_
    refine rl_move rfl rfl ?_
    refine rl_move rfl rfl ?_
    refine rl_move rfl rfl ?_
    have hd22 : ∀ b, (inBlk av0) b → ¬ S2 b := fun b h => (fun b hb => linNot lin0_0 hd2 h2 b hb) b h
    have hS23 : (un (inBlk av0) S2) = (un (inBlk av0) S2) := rfl
    have ha24 := ah4
    rw [hS23] at ha24
    obtain ⟨y27, hy28, hb11⟩ := bindS hb11
    refine rl_callF rfl en67 rfl (ctr67 F w18 Bb S2 (Nat.le_trans hB c17.size) (fun b h => Nat.lt_of_lt_of_le (h2 b h) c17.size) av0 hd22  x3 (hS23 ▸ h4) (IntKind.i64.wrap (a2 - x1)) a2 x2 a4 av4 ha24 y27 hy28) ?_
    rintro _ w25 ⟨rfl, h29, c26⟩
    rw [← hS23] at h29
    have ad30 : ∀ b, b < w18.heap.size → ¬ (un (inBlk av0) S2) b → ¬ (inBlk av0) b ∧ ¬ (un (inBlk av0) S2) b := fun b _ hs => ⟨fun h => hs (.inl h), hs⟩
    have ah4 := Kd.st ah4 c26 ad30
    have c17 := c17.then c26 (fun i hi h => (lin0_0 i h).elim (fun x => x) (fun x => absurd x (Nat.not_le_of_lt hi)))
    refine RL.nil (thn_n (CW.region ?_))
    refine rl_move rfl rfl ?_
    refine rl_move rfl rfl ?_
    refine rl_bin rfl rfl B.sub rfl ?_
    refine rl_assign rfl rfl ?_
    refine RL.nil ?_
    refine inB_n ?_
    refine thn_n ?_
    have hLn := runW_next hL7 hq10 hb11
    exact ⟨k16, Nat.lt_succ_self _, [(0, av0), (2, (Value.int .i64 a2)), (4, av4), (10, (Value.int .i64 (IntKind.i64.wrap (x1 - x2)))), (11, (Value.int .i64 x2))], ⟨rfl, rfl, rfl, rfl, rfl, trivial⟩, ⟨IntKind.i64.wrap (x1 - x2), x2, y27, rfl, c17, hLn, ah4, h29⟩⟩
   have hb11 := ifF q21 hb11
   refine CW.seq (CW.region ?_)
   refine rl_move rfl rfl ?_
   refine rl_move rfl rfl ?_
   refine rl_move rfl rfl ?_
   refine rl_bin rfl rfl B.sub rfl ?_
   refine rl_move rfl rfl ?_
   refine rl_move rfl rfl ?_
   refine rl_bin rfl rfl B.add rfl ?_
   refine rl_move rfl rfl ?_
   refine rl_bin rfl rfl B.sub rfl ?_
   refine rl_move rfl rfl ?_
   refine rl_move rfl rfl ?_
   have hd31 : ∀ b, (inBlk av0) b → ¬ S2 b := fun b h => (fun b hb => linNot lin0_0 hd2 h2 b hb) b h
   have hS32 : (un (inBlk av0) S2) = (un (inBlk av0) S2) := rfl
   have ha33 := ah4
   rw [hS32] at ha33
   obtain ⟨y36, hy37, hb11⟩ := bindS hb11
   refine rl_callF rfl en67 rfl (ctr67 F w18 Bb S2 (Nat.le_trans hB c17.size) (fun b h => Nat.lt_of_lt_of_le (h2 b h) c17.size) av0 hd31  x3 (hS32 ▸ h4) (IntKind.i64.wrap (a2 - x1)) (IntKind.i64.wrap ((IntKind.i64.wrap (a2 + x2)) - x1)) x1 a4 av4 ha33 y36 hy37) ?_
   rintro _ w34 ⟨rfl, h38, c35⟩
   rw [← hS32] at h38
   have ad39 : ∀ b, b < w18.heap.size → ¬ (un (inBlk av0) S2) b → ¬ (inBlk av0) b ∧ ¬ (un (inBlk av0) S2) b := fun b _ hs => ⟨fun h => hs (.inl h), hs⟩
   have ah4 := Kd.st ah4 c35 ad39
   have c17 := c17.then c35 (fun i hi h => (lin0_0 i h).elim (fun x => x) (fun x => absurd x (Nat.not_le_of_lt hi)))
   refine RL.nil (thn_n (CW.region ?_))
   refine rl_move rfl rfl ?_
   refine rl_move rfl rfl ?_
   refine rl_bin rfl rfl B.sub rfl ?_
   refine rl_assign rfl rfl ?_
   refine RL.nil ?_
   refine inB_n ?_
   refine thn_n ?_
   have hLn := runW_next hL7 hq10 hb11
   exact ⟨k16, Nat.lt_succ_self _, [(0, av0), (2, (Value.int .i64 a2)), (4, av4), (10, (Value.int .i64 x1)), (11, (Value.int .i64 (IntKind.i64.wrap (x2 - x1))))], ⟨rfl, rfl, rfl, rfl, rfl, trivial⟩, ⟨x1, IntKind.i64.wrap (x2 - x1), y36, rfl, c17, hLn, ah4, h38⟩⟩
  have hb11 := ifF q20 hb11
  refine CW.exit ?_
  refine thn_exit ?_
  refine thn_exit ?_
  refine inB_hit ?_
  have hLf := runW_fin hL7 hq10 hb11
  exact ⟨x1, x2, x3, ⟨rfl, rfl, rfl, rfl, trivial⟩, c17, hLf, ah4, h4⟩
 rintro _ w41 ⟨x1, x2, x3, hE42, c40, f43, ah4, h4⟩
 have hS := finS f43 hS
 refine thn_n (CW.sub [(0, av0), (2, (Value.int .i64 a2)), (4, av4), (10, (Value.int .i64 x1))] hE42 ?_)
 refine CW.region ?_
 refine rl_move rfl rfl ?_
 refine rl_move rfl rfl ?_
 refine rl_move rfl rfl ?_
 refine rl_bin rfl rfl B.sub rfl ?_
 refine rl_move rfl rfl ?_
 refine rl_move rfl rfl ?_
 refine rl_move rfl rfl ?_
 have hd45 : ∀ b, (inBlk av0) b → ¬ S2 b := fun b h => (fun b hb => linNot lin0_0 hd2 h2 b hb) b h
 have hS46 : (un (inBlk av0) S2) = (un (inBlk av0) S2) := rfl
 have ha47 := ah4
 rw [hS46] at ha47
 obtain ⟨y50, hy51, hS⟩ := bindS hS
 refine rl_callF rfl en67 rfl (ctr67 F w41 Bb S2 (Nat.le_trans hB c40.size) (fun b h => Nat.lt_of_lt_of_le (h2 b h) c40.size) av0 hd45  x3 (hS46 ▸ h4) (IntKind.i64.wrap (a2 - x1)) a2 x1 a4 av4 ha47 y50 hy51) ?_
 rintro _ w48 ⟨rfl, h52, c49⟩
 rw [← hS46] at h52
 have c40 := c40.then c49 (fun i hi h => (lin0_0 i h).elim (fun x => x) (fun x => absurd x (Nat.not_le_of_lt hi)))
 refine RL.nil ?_
 obtain rfl := Option.some.inj hS
 exact ⟨[], trivial, ⟨rfl, h52, c40⟩⟩
theorem ctr51_step (rec : (List Service) → Int → Int → Int → (Service → Service → Int) → Option (List Service)) (ih : ∀ (F : Nat → Prop) (w : World) (Bb : Nat) (S2 : Nat → Prop) (hB : Bb ≤ w.heap.size) (h2 : ∀ b, S2 b → b < w.heap.size) (av0 : Value) (hd2 : ∀ b, (inBlk av0) b → ¬ S2 b) (a0 : (List Service)) (ah0 : SlO k_Service 51 F Bb (un (inBlk av0) S2) w a0 av0) (a1 : Int) (a2 : Int) (a3 : Int) (a4 : (Service → Service → Int)) (av4 : Value) (ah4 : (Kd.fn2 Tryd.prog true true k_Service k_Service (Value.int .i64)).rep (G F Bb (un (inBlk av0) S2)) w a4 [av4]) (r : (List Service)) (hs : rec a0 a1 a2 a3 a4 = some r), Ret Tryd.prog 51 #[av0, (Value.int .i64 a1), (Value.int .i64 a2), (Value.int .i64 a3), av4] w fun v w' => v = Value.tuple #[] ∧ SlO k_Service 51 F Bb (un (inBlk av0) S2) w' r av0 ∧ Ch (inBlk av0) w w') (F : Nat → Prop) (w : World) (Bb : Nat) (S2 : Nat → Prop) (hB : Bb ≤ w.heap.size) (h2 : ∀ b, S2 b → b < w.heap.size) (av0 : Value) (hd2 : ∀ b, (inBlk av0) b → ¬ S2 b) (a0 : (List Service)) (ah0 : SlO k_Service 51 F Bb (un (inBlk av0) S2) w a0 av0) (a1 : Int) (a2 : Int) (a3 : Int) (a4 : (Service → Service → Int)) (av4 : Value) (ah4 : (Kd.fn2 Tryd.prog true true k_Service k_Service (Value.int .i64)).rep (G F Bb (un (inBlk av0) S2)) w a4 [av4]) (r : (List Service)) (hs : F51_Service_body rec a0 a1 a2 a3 a4 = some r) :
    Ret Tryd.prog 51 #[av0, (Value.int .i64 a1), (Value.int .i64 a2), (Value.int .i64 a3), av4] w fun v w' => v = Value.tuple #[] ∧ SlO k_Service 51 F Bb (un (inBlk av0) S2) w' r av0 ∧ Ch (inBlk av0) w w' := by
 have hS := hs
 have c0 : Ch (inBlk av0) w w := Ch.refl
 have lin0_0 : ∀ b, inBlk av0 b → (inBlk av0) b ∨ w.heap.size ≤ b := fun b h => .inl h
 refine Ret.of (n := 220) (args := [_, _, _, _, _]) (rs := []) Tryd.func51 rfl rfl rfl rfl ?_
 refine CW.seq ?_
 refine CW.seq (CW.region ?_)
 refine rl_move rfl rfl ?_
 refine rl_move rfl rfl ?_
 refine rl_bin rfl rfl B.sub rfl ?_
 refine rl_bin rfl rfl B.eql rfl ?_
 refine RL.nil (thn_n ?_)
 refine CW.cond (t := decide ((IntKind.i64.wrap (a2 - a1)) = 1)) rfl (fun q1 => ?_) (fun q1 => ?_)
 ·
  have hS := ifT q1 hS
  refine CW.seq (CW.region ?_)
  refine rl_move rfl rfl ?_
  refine rl_assign rfl rfl ?_
  refine RL.nil (thn_n (CW.seq (CW.region ?_)))
  refine rl_move rfl rfl ?_
  refine rl_assign rfl rfl ?_
  refine RL.nil (thn_n (CW.seq ?_))
  obtain ⟨o11, ho12, hS⟩ := bindS hS
  refine CW.cutB (fun E' w' => ∃ (x2 : Int) (x3 : Int), Sub [(0, av0), (1, (Value.int .i64 a1)), (10, (Value.int .i64 x2))] E' ∧ Ch (inBlk av0) w w' ∧ Lp.fin (x2, x3) = o11 ∧ SlO k_Service 51 F Bb (un (inBlk av0) S2) w' a0 av0 ∧ (Kd.fn2 Tryd.prog true true k_Service k_Service (Value.int .i64)).rep (G F Bb (un (inBlk av0) S2)) w' a4 [av4]) ?_ ?_
  ·
   refine CW.loopS [(0, av0), (1, (Value.int .i64 a1)), (4, av4), (10, (Value.int .i64 a2)), (11, (Value.int .i64 a3))] ⟨rfl, rfl, rfl, rfl, rfl, trivial⟩ FUEL (fun m E w' => ∃ (x2 : Int) (x3 : Int), E = [(0, av0), (1, (Value.int .i64 a1)), (4, av4), (10, (Value.int .i64 x2)), (11, (Value.int .i64 x3))] ∧ Ch (inBlk av0) w w' ∧ runW (F51_Service_body_b1 a0 a1 a4) m (x2, x3) = some o11 ∧ SlO k_Service 51 F Bb (un (inBlk av0) S2) w' a0 av0 ∧ (Kd.fn2 Tryd.prog true true k_Service k_Service (Value.int .i64)).rep (G F Bb (un (inBlk av0) S2)) w' a4 [av4])
       ⟨a2, a3, rfl, c0, ho12, ah0, ah4⟩ ?_
   rintro _ _ w17 ⟨x2, x3, rfl, c16, hL6, ah0, ah4⟩
   obtain ⟨k15, q8, rfl, hq9⟩ := runW_some hL6
   have hb10 := hq9
   refine CW.seq ?_
   refine CW.seq (CW.region ?_)
   refine rl_move rfl rfl ?_
   refine rl_move rfl rfl ?_
   refine rl_bin rfl rfl B.lss rfl ?_
   refine RL.nil (thn_n ?_)
   refine CW.cond (t := decide (x2 < x3)) rfl (fun q19 => ?_) (fun q19 => ?_)
   ·
    have hb10 := ifT q19 hb10
    refine CW.skip ?_
    refine thn_n (CW.block ?_)
    refine CW.seq (CW.region ?_)
    refine rl_move rfl rfl ?_
    refine rl_move rfl rfl ?_
    refine rl_bin rfl rfl B.add rfl ?_
    refine rl_convInt rfl ⟨_, Tryd.underlying3⟩ Tryd.underlying124 rfl ?_
    refine rl_bin rfl rfl (B.shr rfl) rfl ?_
    refine rl_convInt rfl ⟨_, Tryd.underlying124⟩ Tryd.underlying3 rfl ?_
    refine rl_assign rfl rfl ?_
    refine RL.nil (thn_n (CW.seq ?_))
    obtain ⟨y26, hy27, hb10⟩ := bindS hb10
    obtain ⟨y34, hy35, hb10⟩ := bindS hb10
    refine CW.draw 9 [(none, fun fx O uu wx => uu = av4), (none, fun fx O uu wx => uu = av0), (none, fun fx O uu wx => uu = (Value.int .i64 (IntKind.i64.wrap ((IntKind.u64.wrap (IntKind.i64.wrap (x2 + x3))).fdiv (2 ^ (min (Int.toNat 1) IntKind.u64.bits)))))), (none, fun fx O uu wx => ∃ (p20 : Nat) (o21 : Nat), uu = (Value.pointer (some ⟨p20, o21, none⟩)) ∧ Seg wx p20 o21 (Service.enc y26)), (none, fun fx O uu wx => uu = (Value.agg (Service.enc y26).toArray)), (none, fun fx O uu wx => uu = av0), (none, fun fx O uu wx => uu = (Value.int .i64 a1)), (none, fun fx O uu wx => ∃ (p28 : Nat) (o29 : Nat), uu = (Value.pointer (some ⟨p28, o29, none⟩)) ∧ Seg wx p28 o29 (Service.enc y34)), (none, fun fx O uu wx => uu = (Value.agg (Service.enc y34).toArray))] [[], [], [], [1, 2], [3], [], [], [5, 6], [7]] [0, 4, 8] nb (fun _ h => h.elim) mixed rfl rfl rfl rfl ?_ ?_
    ·
     refine Each.consS (fun fl O wk hE hN hO ck => ?_) ?_
     ·
      refine rl_move rfl rfl ?_
      exact RL.nil ⟨_, rfl, Ch.refl, rfl⟩
     refine Each.consS (fun fl O wk hE hN hO ck => ?_) ?_
     ·
      refine rl_move rfl rfl ?_
      exact RL.nil ⟨_, rfl, Ch.refl, rfl⟩
     refine Each.consS (fun fl O wk hE hN hO ck => ?_) ?_
     ·
      refine rl_move rfl rfl ?_
      exact RL.nil ⟨_, rfl, Ch.refl, rfl⟩
     refine Each.consA ⟨fun _ _ _ _ _ cc hh => by obtain ⟨p20, o21, e, hs24⟩ := hh; exact ⟨p20, o21, e, hs24.ch0 cc⟩, fun h => absurd rfl h, fun fl O wk hE hN hO ck => ?_⟩ ?_
     ·
      have ah0 := ah0.ch0 ck
      refine Need.o1 rfl rfl rfl (fun _ h => h) ?_
      refine Need.o1 rfl rfl rfl (fun _ h => h) ?_
      refine rl_ixOR rfl ah0 rfl (ixO_get hy27) k_Service_pos Tryd.underlying48 Tryd.sizeOf51 rfl ?_
      intro p40 o41 cs42 hr43 hs44 hg45
      obtain rfl := hr43
      exact RL.nil ⟨_, rfl, Ch.refl, ⟨p40, o41, rfl, hs44⟩⟩
     refine Each.consS (fun fl O wk hE hN hO ck => ?_) ?_
     ·
      refine Need.one rfl rfl rfl ?_
      rintro _ ⟨p20, o21, e46, hs24⟩
      obtain rfl := e46.symm
      refine rl_loadA (cs := (Service.enc y26)) rfl Tryd.isAgg51 Tryd.sizeOf51 (hs24) rfl rfl ?_
      exact RL.nil ⟨_, rfl, Ch.refl, rfl⟩
     refine Each.consS (fun fl O wk hE hN hO ck => ?_) ?_
     ·
      refine rl_move rfl rfl ?_
      exact RL.nil ⟨_, rfl, Ch.refl, rfl⟩
     refine Each.consS (fun fl O wk hE hN hO ck => ?_) ?_
     ·
      refine rl_move rfl rfl ?_
      exact RL.nil ⟨_, rfl, Ch.refl, rfl⟩
     refine Each.consA ⟨fun _ _ _ _ _ cc hh => by obtain ⟨p28, o29, e, hs32⟩ := hh; exact ⟨p28, o29, e, hs32.ch0 cc⟩, fun h => absurd rfl h, fun fl O wk hE hN hO ck => ?_⟩ ?_
     ·
      have ah0 := ah0.ch0 ck
      refine Need.o1 rfl rfl rfl (fun _ h => h) ?_
      refine Need.o1 rfl rfl rfl (fun _ h => h) ?_
      refine rl_ixOR rfl ah0 rfl (ixO_get hy35) k_Service_pos Tryd.underlying48 Tryd.sizeOf51 rfl ?_
      intro p49 o50 cs51 hr52 hs53 hg54
      obtain rfl := hr52
      exact RL.nil ⟨_, rfl, Ch.refl, ⟨p49, o50, rfl, hs53⟩⟩
     refine Each.consS (fun fl O wk hE hN hO ck => ?_) ?_
     ·
      refine Need.one rfl rfl rfl ?_
      rintro _ ⟨p28, o29, e55, hs32⟩
      obtain rfl := e55.symm
      refine rl_loadA (cs := (Service.enc y34)) rfl Tryd.isAgg51 Tryd.sizeOf51 (hs32) rfl rfl ?_
      exact RL.nil ⟨_, rfl, Ch.refl, rfl⟩
     trivial
    intro hvO58 OpO58 O58 w56 hO59 c57 hN60
    have ah0 := ah0.ch0 c57
    have ah4 := Kd.ch ah4 c57
    have c16 := c16.then0 c57
    refine Need.o1 rfl rfl rfl (fun _ h => h) ?_
    refine Need.o1 rfl rfl rfl (fun _ h => h) ?_
    refine Need.o1 rfl rfl rfl (fun _ h => h) ?_
    refine rl_fn2 (c := (Service.enc y26)) (c' := (Service.enc y34)) rfl rfl rfl rfl rfl ah4 (F' := (G F Bb (un (inBlk av0) S2))) (xx := y26) (yy := y34) (show k_Service.rep (G F Bb (un (inBlk av0) S2)) w56 y26 (Service.enc y26) from rfl) (show k_Service.rep (G F Bb (un (inBlk av0) S2)) w56 y34 (Service.enc y34) from rfl) rfl ?_
    intro w64 c65
    have ah0 := ah0.ch0 c65
    have ah4 := Kd.ch ah4 c65
    have c16 := c16.then0 c65
    refine rl_bin rfl rfl B.lss rfl ?_
    refine RL.nil (thn_n ?_)
    refine CW.cond (t := decide ((a4 y26 y34) < 0)) rfl (fun q66 => ?_) (fun q66 => ?_)
    ·
     have hb10 := ifT q66 hb10
     refine CW.region ?_
     refine rl_move rfl rfl ?_
     refine rl_bin rfl rfl B.add rfl ?_
     refine rl_assign rfl rfl ?_
     refine RL.nil ?_
     refine inB_n ?_
     refine thn_n ?_
     have hLn := runW_next hL6 hq9 hb10
     exact ⟨k15, Nat.lt_succ_self _, [(0, av0), (1, (Value.int .i64 a1)), (4, av4), (10, (Value.int .i64 (IntKind.i64.wrap ((IntKind.i64.wrap ((IntKind.u64.wrap (IntKind.i64.wrap (x2 + x3))).fdiv (2 ^ (min (Int.toNat 1) IntKind.u64.bits)))) + 1)))), (11, (Value.int .i64 x3))], ⟨rfl, rfl, rfl, rfl, rfl, trivial⟩, ⟨IntKind.i64.wrap ((IntKind.i64.wrap ((IntKind.u64.wrap (IntKind.i64.wrap (x2 + x3))).fdiv (2 ^ (min (Int.toNat 1) IntKind.u64.bits)))) + 1), x3, rfl, c16, hLn, ah0, ah4⟩⟩
    have hb10 := ifF q66 hb10
    refine CW.region ?_
    refine rl_move rfl rfl ?_
    refine rl_assign rfl rfl ?_
    refine RL.nil ?_
    refine inB_n ?_
    refine thn_n ?_
    have hLn := runW_next hL6 hq9 hb10
    exact ⟨k15, Nat.lt_succ_self _, [(0, av0), (1, (Value.int .i64 a1)), (4, av4), (10, (Value.int .i64 x2)), (11, (Value.int .i64 (IntKind.i64.wrap ((IntKind.u64.wrap (IntKind.i64.wrap (x2 + x3))).fdiv (2 ^ (min (Int.toNat 1) IntKind.u64.bits))))))], ⟨rfl, rfl, rfl, rfl, rfl, trivial⟩, ⟨x2, IntKind.i64.wrap ((IntKind.u64.wrap (IntKind.i64.wrap (x2 + x3))).fdiv (2 ^ (min (Int.toNat 1) IntKind.u64.bits))), rfl, c16, hLn, ah0, ah4⟩⟩
   have hb10 := ifF q19 hb10
   refine CW.exit ?_
   refine thn_exit ?_
   refine thn_exit ?_
   refine inB_hit ?_
   have hLf := runW_fin hL6 hq9 hb10
   exact ⟨x2, x3, ⟨rfl, rfl, rfl, trivial⟩, c16, hLf, ah0, ah4⟩
  rintro _ w68 ⟨x2, x3, hE69, c67, f70, ah0, ah4⟩
  have hS := finS f70 hS
  refine thn_n (CW.sub [(0, av0), (1, (Value.int .i64 a1)), (10, (Value.int .i64 x2))] hE69 ?_)
  refine CW.seq ?_
  refine CW.seq (CW.region ?_)
  refine rl_move rfl rfl ?_
  refine rl_assign rfl rfl ?_
  refine RL.nil (thn_n ?_)
  obtain ⟨o82, ho83, hS⟩ := bindS hS
  refine CW.cutB (fun E' w' => ∃ (x72 : Int) (x73 : (List Service)), Sub [] E' ∧ Ch (inBlk av0) w w' ∧ Lp.fin (x72, x73) = o82 ∧ (Kd.fn2 Tryd.prog true true k_Service k_Service (Value.int .i64)).rep (G F Bb (un (inBlk av0) S2)) w' a4 [av4] ∧ SlO k_Service 51 F Bb (un (inBlk av0) S2) w' x73 av0) ?_ ?_
  ·
   refine CW.loopS [(0, av0), (10, (Value.int .i64 x2)), (13, (Value.int .i64 a1))] ⟨rfl, rfl, rfl, trivial⟩ FUEL (fun m E w' => ∃ (x72 : Int) (x73 : (List Service)), E = [(0, av0), (10, (Value.int .i64 x2)), (13, (Value.int .i64 x72))] ∧ Ch (inBlk av0) w w' ∧ runW (F51_Service_body_b2 x2 x2) m (x72, x73) = some o82 ∧ (Kd.fn2 Tryd.prog true true k_Service k_Service (Value.int .i64)).rep (G F Bb (un (inBlk av0) S2)) w' a4 [av4] ∧ SlO k_Service 51 F Bb (un (inBlk av0) S2) w' x73 av0)
       ⟨a1, a0, rfl, c67, ho83, ah4, ah0⟩ ?_
   rintro _ _ w88 ⟨x72, x73, rfl, c87, hL77, ah4, h74⟩
   obtain ⟨k86, q79, rfl, hq80⟩ := runW_some hL77
   have hb81 := hq80
   refine CW.seq ?_
   refine CW.seq (CW.region ?_)
   refine rl_move rfl rfl ?_
   refine rl_move rfl rfl ?_
   refine rl_bin rfl rfl B.sub rfl ?_
   refine rl_bin rfl rfl B.lss rfl ?_
   refine RL.nil (thn_n ?_)
   refine CW.cond (t := decide (x72 < (IntKind.i64.wrap (x2 - 1)))) rfl (fun q90 => ?_) (fun q90 => ?_)
   ·
    have hb81 := ifT q90 hb81
    refine CW.skip ?_
    refine thn_n (CW.seq ?_)
    refine CW.block ?_
    obtain ⟨y97, hy98, hb81⟩ := bindS hb81
    obtain ⟨y105, hy106, hb81⟩ := bindS hb81
    obtain ⟨y113, hy114, hb81⟩ := bindS hb81
    obtain ⟨y125, hy126, hb81⟩ := bindS hb81
    refine CW.draw 16 [(none, fun fx O uu wx => uu = av0), (none, fun fx O uu wx => uu = (Value.int .i64 x72)), (none, fun fx O uu wx => uu = av0), (none, fun fx O uu wx => uu = (Value.int .i64 x72)), (none, fun fx O uu wx => uu = (Value.int .i64 (IntKind.i64.wrap (x72 + 1)))), (none, fun fx O uu wx => uu = av0), (none, fun fx O uu wx => uu = (Value.int .i64 x72)), (none, fun fx O uu wx => uu = (Value.int .i64 (IntKind.i64.wrap (x72 + 1)))), (none, fun fx O uu wx => ∃ (p91 : Nat) (o92 : Nat), uu = (Value.pointer (some ⟨p91, o92, none⟩)) ∧ (fx = [] → Seg wx p91 o92 (Service.enc y97))), (none, fun fx O uu wx => uu = (Value.agg (Service.enc y97).toArray)), (none, fun fx O uu wx => uu = av0), (none, fun fx O uu wx => uu = (Value.int .i64 x72)), (none, fun fx O uu wx => ∃ (p99 : Nat) (o100 : Nat), uu = (Value.pointer (some ⟨p99, o100, none⟩)) ∧ (fx = [] → Seg wx p99 o100 (Service.enc y105))), (none, fun fx O uu wx => uu = (Value.agg (Service.enc y105).toArray)), (none, fun fx O uu wx => ∃ (p107 : Nat), uu = (Value.pointer (some ⟨p107, x72.toNat * k_Service.n, none⟩)) ∧ inBlk av0 p107), (some true, fun hv O uu wx => hv = [undef] ∧ uu = undef ∧ O = (inBlk av0) ∧ SlO k_Service 51 F Bb (un (inBlk av0) S2) wx (x73.set x72.toNat y97) av0)] [[], [], [], [], [3], [], [], [6], [5, 7], [8], [], [], [10, 11], [12], [0, 1], [9, 14]] [15, 2, 4, 13] (inBlk av0) (fun b h => (fun b hb => (h74.lt b hb).2) b h) mixed rfl rfl rfl rfl ?_ ?_
    ·
     refine Each.consS (fun fl O wk hE hN hO ck => ?_) ?_
     ·
      refine rl_move rfl rfl ?_
      exact RL.nil ⟨_, rfl, Ch.refl, rfl⟩
     refine Each.consS (fun fl O wk hE hN hO ck => ?_) ?_
     ·
      refine rl_move rfl rfl ?_
      exact RL.nil ⟨_, rfl, Ch.refl, rfl⟩
     refine Each.consS (fun fl O wk hE hN hO ck => ?_) ?_
     ·
      refine rl_move rfl rfl ?_
      exact RL.nil ⟨_, rfl, Ch.refl, rfl⟩
     refine Each.consS (fun fl O wk hE hN hO ck => ?_) ?_
     ·
      refine rl_move rfl rfl ?_
      exact RL.nil ⟨_, rfl, Ch.refl, rfl⟩
     refine Each.consS (fun fl O wk hE hN hO ck => ?_) ?_
     ·
      refine Need.o1 rfl rfl rfl (fun _ h => h) ?_
      refine rl_bin rfl rfl B.add rfl ?_
      exact RL.nil ⟨_, rfl, Ch.refl, rfl⟩
     refine Each.consS (fun fl O wk hE hN hO ck => ?_) ?_
     ·
      refine rl_move rfl rfl ?_
      exact RL.nil ⟨_, rfl, Ch.refl, rfl⟩
     refine Each.consS (fun fl O wk hE hN hO ck => ?_) ?_
     ·
      refine rl_move rfl rfl ?_
      exact RL.nil ⟨_, rfl, Ch.refl, rfl⟩
     refine Each.consS (fun fl O wk hE hN hO ck => ?_) ?_
     ·
      refine Need.o1 rfl rfl rfl (fun _ h => h) ?_
      refine rl_bin rfl rfl B.add rfl ?_
      exact RL.nil ⟨_, rfl, Ch.refl, rfl⟩
     refine Each.consA ⟨fun _ _ _ _ _ cc hh => by obtain ⟨p91, o92, e, hs95⟩ := hh; exact ⟨p91, o92, e, (fun hfx => (hs95 hfx).ch0 cc)⟩, fun _ _ h' O O' D _ wx wy hfl hD hO' cc hh => by obtain ⟨p91, o92, e, hs95⟩ := hh; have ad := admGh (S := S2) hD hO'; exact ⟨p91, o92, e, (fun hfx => hfl.elim (fun e => by rw [e] at hfx; cases hfx) (fun e => Seg.ch0 (hs95 (e.1.symm.trans hfx)) (cc.mono (fun b _ hd => (e.2 b hd).elim))))⟩, fun fl O wk hE hN hO ck => ?_⟩ ?_
     ·
      obtain ⟨_, hB141⟩ := hN (hE rfl)
      have h74 := h74.ch0 hB141.2.1
      refine Need.o1 rfl rfl rfl (fun _ h => h) ?_
      refine Need.o1 rfl rfl rfl (fun _ h => h) ?_
      refine rl_ixOR rfl h74 rfl (ixO_get hy98) k_Service_pos Tryd.underlying48 Tryd.sizeOf51 rfl ?_
      intro p144 o145 cs146 hr147 hs148 hg149
      obtain rfl := hr147
      exact RL.nil ⟨_, rfl, Ch.refl, ⟨p144, o145, rfl, (fun _ => hs148)⟩⟩
     refine Each.consS (fun fl O wk hE hN hO ck => ?_) ?_
     ·
      refine Need.one rfl rfl rfl ?_
      rintro _ ⟨p91, o92, e151, hs95⟩
      obtain rfl := e151.symm
      have hs95 := hs95 (hE rfl)
      refine rl_loadA (cs := (Service.enc y97)) rfl Tryd.isAgg51 Tryd.sizeOf51 (hs95) rfl rfl ?_
      exact RL.nil ⟨_, rfl, Ch.refl, rfl⟩
     refine Each.consS (fun fl O wk hE hN hO ck => ?_) ?_
     ·
      refine rl_move rfl rfl ?_
      exact RL.nil ⟨_, rfl, Ch.refl, rfl⟩
     refine Each.consS (fun fl O wk hE hN hO ck => ?_) ?_
     ·
      refine rl_move rfl rfl ?_
      exact RL.nil ⟨_, rfl, Ch.refl, rfl⟩
     refine Each.consA ⟨fun _ _ _ _ _ cc hh => by obtain ⟨p99, o100, e, hs103⟩ := hh; exact ⟨p99, o100, e, (fun hfx => (hs103 hfx).ch0 cc)⟩, fun _ _ h' O O' D _ wx wy hfl hD hO' cc hh => by obtain ⟨p99, o100, e, hs103⟩ := hh; have ad := admGh (S := S2) hD hO'; exact ⟨p99, o100, e, (fun hfx => hfl.elim (fun e => by rw [e] at hfx; cases hfx) (fun e => Seg.ch0 (hs103 (e.1.symm.trans hfx)) (cc.mono (fun b _ hd => (e.2 b hd).elim))))⟩, fun fl O wk hE hN hO ck => ?_⟩ ?_
     ·
      obtain ⟨_, hB154⟩ := hN (hE rfl)
      have h74 := h74.ch0 hB154.2.1
      refine Need.o1 rfl rfl rfl (fun _ h => h) ?_
      refine Need.o1 rfl rfl rfl (fun _ h => h) ?_
      refine rl_ixOR rfl h74 rfl (ixO_get hy106) k_Service_pos Tryd.underlying48 Tryd.sizeOf51 rfl ?_
      intro p157 o158 cs159 hr160 hs161 hg162
      obtain rfl := hr160
      exact RL.nil ⟨_, rfl, Ch.refl, ⟨p157, o158, rfl, (fun _ => hs161)⟩⟩
     refine Each.consS (fun fl O wk hE hN hO ck => ?_) ?_
     ·
      refine Need.one rfl rfl rfl ?_
      rintro _ ⟨p99, o100, e164, hs103⟩
      obtain rfl := e164.symm
      have hs103 := hs103 (hE rfl)
      refine rl_loadA (cs := (Service.enc y105)) rfl Tryd.isAgg51 Tryd.sizeOf51 (hs103) rfl rfl ?_
      exact RL.nil ⟨_, rfl, Ch.refl, rfl⟩
     refine Each.consA ⟨fun _ _ _ _ _ cc hh => by obtain ⟨p107, e, hg112⟩ := hh; exact ⟨p107, e, hg112⟩, fun _ _ h' O O' D _ wx wy hfl hD hO' cc hh => by obtain ⟨p107, e, hg112⟩ := hh; have ad := admGh (S := S2) hD hO'; exact ⟨p107, e, hg112⟩, fun fl O wk hE hN hO ck => ?_⟩ ?_
     ·
      obtain ⟨_, hB165⟩ := hN (hE rfl)
      have h74 := h74.ch0 hB165.2.1
      refine Need.o1 rfl rfl rfl (fun _ h => h) ?_
      refine Need.o1 rfl rfl rfl (fun _ h => h) ?_
      refine rl_ixO rfl h74 rfl (ixO_get hy114) Tryd.underlying48 Tryd.sizeOf51 rfl ?_
      intro p168 hg173
      exact RL.nil ⟨_, rfl, Ch.refl, ⟨p168, rfl, hg173⟩⟩
     refine Each.consO ⟨fun _ O _ wx wy cc hh => by obtain ⟨eh, e, rfl, ck15_0⟩ := hh; exact ⟨eh, e, rfl, ck15_0.ch0 cc⟩, fun hv Op O wk hO ck hO0 => ?_⟩ ?_
     ·
      obtain ⟨hl, hBg⟩ := hO0 rfl
      obtain rfl := List.eq_nil_of_length_eq_zero hl
      have h74 := h74.ch0 hBg.2.1
      refine Need.o1 rfl rfl rfl (fun _ h => h) ?_
      refine Need.one rfl rfl rfl ?_
      rintro _ ⟨p107, e175, hg112⟩
      obtain rfl := e175.symm
      refine rl_storeOA rfl rfl Tryd.sizeOf51 h74 hg112 (ixO_lt hy114) (show k_Service.rep (G F Bb (un (inBlk av0) S2)) wk y97 (Service.enc y97) from rfl) ?_
      intro w176 c177 h178
      have hb180 : ∀ b, (inBlk av0) b → (O b ∨ wk.heap.size ≤ b) ∧ b < w176.heap.size := fun b h => ⟨.inl ((hBg.1 b).2 (.inl h)), (fun b hb => (h178.lt b hb).2) b h⟩
      exact RL.nil ⟨_, (inBlk av0), rfl, hb180, (c177.mono (fun b _ h => ((hBg.1 b).2 (.inl h)))), ⟨rfl, rfl, rfl, h178⟩⟩
     trivial
    intro hvO183 OpO183 O183 w181 hO184 c182 hN185
    refine Need.hereN rfl rfl rfl rfl ?_
    rintro ⟨rfl, _, rfl, ck15_0⟩
    have ha187 : ∀ b, b < w88.heap.size → ¬ (un (inBlk av0) S2) b → ¬ (inBlk av0) b ∧ ¬ (un (inBlk av0) S2) b := fun b hb hs => ⟨fun h => hs (.inl h), fun h => un_el h (fun h => (hO184 b h).1.elim (fun h => hs (.inl h)) (fun h => Nat.not_le_of_lt hb h)) (fun h => hs (.inr h))⟩
    have ah4 := Kd.st ah4 c182 ha187
    have c87 := c87.then c182 (fun i hi h => (lin0_0 i h).elim (fun x => x) (fun x => absurd x (Nat.not_le_of_lt hi)))
    refine Need.o1 rfl rfl rfl (fun _ h => h) ?_
    refine Need.o1 rfl rfl rfl (fun _ h => h) ?_
    refine Need.o1 rfl rfl rfl (fun _ h => h) ?_
    refine rl_ixO rfl ck15_0 rfl (ixO_get hy126) Tryd.underlying48 Tryd.sizeOf51 rfl ?_
    intro p191 hg196
    refine rl_storeOA rfl rfl Tryd.sizeOf51 ck15_0 hg196 (ixO_lt hy126) (show k_Service.rep (G F Bb (un (inBlk av0) S2)) w181 y105 (Service.enc y105) from rfl) ?_
    intro w197 c198 h199
    have ad200 : ∀ b, b < w181.heap.size → ¬ (un (inBlk av0) S2) b → ¬ (inBlk av0) b ∧ ¬ (un (inBlk av0) S2) b := fun b _ hs => ⟨fun h => hs (.inl h), hs⟩
    have ah4 := Kd.st ah4 c198 ad200
    have c87 := c87.then c198 (fun i hi h => (lin0_0 i h).elim (fun x => x) (fun x => absurd x (Nat.not_le_of_lt hi)))
    refine RL.nil ?_
    refine inB_n ?_
    refine thn_n (CW.region ?_)
    refine rl_move rfl rfl ?_
    refine rl_bin rfl rfl B.add rfl ?_
    refine rl_assign rfl rfl ?_
    refine RL.nil (thn_n ?_)
    have hLn := runW_next hL77 hq80 hb81
    exact ⟨k86, Nat.lt_succ_self _, [(0, av0), (10, (Value.int .i64 x2)), (13, (Value.int .i64 (IntKind.i64.wrap (x72 + 1))))], ⟨rfl, rfl, rfl, trivial⟩, ⟨IntKind.i64.wrap (x72 + 1), (x73.set x72.toNat y97).set (IntKind.i64.wrap (x72 + 1)).toNat y105, rfl, c87, hLn, ah4, h199⟩⟩
   have hb81 := ifF q90 hb81
   refine CW.exit ?_
   refine thn_exit ?_
   refine thn_exit ?_
   refine inB_hit ?_
   have hLf := runW_fin hL77 hq80 hb81
   exact ⟨x72, x73, trivial, c87, hLf, ah4, h74⟩
  rintro _ w202 ⟨x72, x73, hE203, c201, f204, ah4, h74⟩
  have hS := finS f204 hS
  refine thn_n (CW.sub [] hE203 ?_)
  refine CW.ret ?_
  refine thn_ret ?_
  obtain rfl := Option.some.inj hS
  exact ⟨[], trivial, ⟨rfl, h74, c201⟩⟩
 have hS := ifF q1 hS
 refine CW.skip ?_
 refine thn_n (CW.seq ?_)
 refine CW.seq (CW.region ?_)
 refine rl_move rfl rfl ?_
 refine rl_move rfl rfl ?_
 refine rl_bin rfl rfl B.sub rfl ?_
 refine rl_bin rfl rfl B.eql rfl ?_
 refine RL.nil (thn_n ?_)
 refine CW.cond (t := decide ((IntKind.i64.wrap (a3 - a2)) = 1)) rfl (fun q206 => ?_) (fun q206 => ?_)
 ·
  have hS := ifT q206 hS
  refine CW.seq (CW.region ?_)
  refine rl_move rfl rfl ?_
  refine rl_assign rfl rfl ?_
  refine RL.nil (thn_n (CW.seq (CW.region ?_)))
  refine rl_move rfl rfl ?_
  refine rl_assign rfl rfl ?_
  refine RL.nil (thn_n (CW.seq ?_))
  obtain ⟨o216, ho217, hS⟩ := bindS hS
  refine CW.cutB (fun E' w' => ∃ (x207 : Int) (x208 : Int), Sub [(0, av0), (2, (Value.int .i64 a2)), (14, (Value.int .i64 x207))] E' ∧ Ch (inBlk av0) w w' ∧ Lp.fin (x207, x208) = o216 ∧ SlO k_Service 51 F Bb (un (inBlk av0) S2) w' a0 av0 ∧ (Kd.fn2 Tryd.prog true true k_Service k_Service (Value.int .i64)).rep (G F Bb (un (inBlk av0) S2)) w' a4 [av4]) ?_ ?_
  ·
   refine CW.loopS [(0, av0), (2, (Value.int .i64 a2)), (4, av4), (14, (Value.int .i64 a1)), (15, (Value.int .i64 a2))] ⟨rfl, rfl, rfl, rfl, rfl, trivial⟩ FUEL (fun m E w' => ∃ (x207 : Int) (x208 : Int), E = [(0, av0), (2, (Value.int .i64 a2)), (4, av4), (14, (Value.int .i64 x207)), (15, (Value.int .i64 x208))] ∧ Ch (inBlk av0) w w' ∧ runW (F51_Service_body_b3 a0 a2 a4) m (x207, x208) = some o216 ∧ SlO k_Service 51 F Bb (un (inBlk av0) S2) w' a0 av0 ∧ (Kd.fn2 Tryd.prog true true k_Service k_Service (Value.int .i64)).rep (G F Bb (un (inBlk av0) S2)) w' a4 [av4])
       ⟨a1, a2, rfl, c0, ho217, ah0, ah4⟩ ?_
   rintro _ _ w222 ⟨x207, x208, rfl, c221, hL211, ah0, ah4⟩
   obtain ⟨k220, q213, rfl, hq214⟩ := runW_some hL211
   have hb215 := hq214
   refine CW.seq ?_
   refine CW.seq (CW.region ?_)
   refine rl_move rfl rfl ?_
   refine rl_move rfl rfl ?_
   refine rl_bin rfl rfl B.lss rfl ?_
   refine RL.nil (thn_n ?_)
   refine CW.cond (t := decide (x207 < x208)) rfl (fun q224 => ?_) (fun q224 => ?_)
   ·
    have hb215 := ifT q224 hb215
    refine CW.skip ?_
    refine thn_n (CW.block ?_)
    refine CW.seq (CW.region ?_)
    refine rl_move rfl rfl ?_
    refine rl_move rfl rfl ?_
    refine rl_bin rfl rfl B.add rfl ?_
    refine rl_convInt rfl ⟨_, Tryd.underlying3⟩ Tryd.underlying124 rfl ?_
    refine rl_bin rfl rfl (B.shr rfl) rfl ?_
    refine rl_convInt rfl ⟨_, Tryd.underlying124⟩ Tryd.underlying3 rfl ?_
    refine rl_assign rfl rfl ?_
    refine RL.nil (thn_n (CW.seq ?_))
    obtain ⟨y231, hy232, hb215⟩ := bindS hb215
    obtain ⟨y239, hy240, hb215⟩ := bindS hb215
    refine CW.draw 9 [(none, fun fx O uu wx => uu = av4), (none, fun fx O uu wx => uu = av0), (none, fun fx O uu wx => uu = (Value.int .i64 a2)), (none, fun fx O uu wx => ∃ (p225 : Nat) (o226 : Nat), uu = (Value.pointer (some ⟨p225, o226, none⟩)) ∧ Seg wx p225 o226 (Service.enc y231)), (none, fun fx O uu wx => uu = (Value.agg (Service.enc y231).toArray)), (none, fun fx O uu wx => uu = av0), (none, fun fx O uu wx => uu = (Value.int .i64 (IntKind.i64.wrap ((IntKind.u64.wrap (IntKind.i64.wrap (x207 + x208))).fdiv (2 ^ (min (Int.toNat 1) IntKind.u64.bits)))))), (none, fun fx O uu wx => ∃ (p233 : Nat) (o234 : Nat), uu = (Value.pointer (some ⟨p233, o234, none⟩)) ∧ Seg wx p233 o234 (Service.enc y239)), (none, fun fx O uu wx => uu = (Value.agg (Service.enc y239).toArray))] [[], [], [], [1, 2], [3], [], [], [5, 6], [7]] [0, 4, 8] nb (fun _ h => h.elim) mixed rfl rfl rfl rfl ?_ ?_
    ·
     refine Each.consS (fun fl O wk hE hN hO ck => ?_) ?_
     ·
      refine rl_move rfl rfl ?_
      exact RL.nil ⟨_, rfl, Ch.refl, rfl⟩
     refine Each.consS (fun fl O wk hE hN hO ck => ?_) ?_
     ·
      refine rl_move rfl rfl ?_
      exact RL.nil ⟨_, rfl, Ch.refl, rfl⟩
     refine Each.consS (fun fl O wk hE hN hO ck => ?_) ?_
     ·
      refine rl_move rfl rfl ?_
      exact RL.nil ⟨_, rfl, Ch.refl, rfl⟩
     refine Each.consA ⟨fun _ _ _ _ _ cc hh => by obtain ⟨p225, o226, e, hs229⟩ := hh; exact ⟨p225, o226, e, hs229.ch0 cc⟩, fun h => absurd rfl h, fun fl O wk hE hN hO ck => ?_⟩ ?_
     ·
      have ah0 := ah0.ch0 ck
      refine Need.o1 rfl rfl rfl (fun _ h => h) ?_
      refine Need.o1 rfl rfl rfl (fun _ h => h) ?_
      refine rl_ixOR rfl ah0 rfl (ixO_get hy232) k_Service_pos Tryd.underlying48 Tryd.sizeOf51 rfl ?_
      intro p245 o246 cs247 hr248 hs249 hg250
      obtain rfl := hr248
      exact RL.nil ⟨_, rfl, Ch.refl, ⟨p245, o246, rfl, hs249⟩⟩
     refine Each.consS (fun fl O wk hE hN hO ck => ?_) ?_
     ·
      refine Need.one rfl rfl rfl ?_
      rintro _ ⟨p225, o226, e251, hs229⟩
      obtain rfl := e251.symm
      refine rl_loadA (cs := (Service.enc y231)) rfl Tryd.isAgg51 Tryd.sizeOf51 (hs229) rfl rfl ?_
      exact RL.nil ⟨_, rfl, Ch.refl, rfl⟩
     refine Each.consS (fun fl O wk hE hN hO ck => ?_) ?_
     ·
      refine rl_move rfl rfl ?_
      exact RL.nil ⟨_, rfl, Ch.refl, rfl⟩
     refine Each.consS (fun fl O wk hE hN hO ck => ?_) ?_
     ·
      refine rl_move rfl rfl ?_
      exact RL.nil ⟨_, rfl, Ch.refl, rfl⟩
     refine Each.consA ⟨fun _ _ _ _ _ cc hh => by obtain ⟨p233, o234, e, hs237⟩ := hh; exact ⟨p233, o234, e, hs237.ch0 cc⟩, fun h => absurd rfl h, fun fl O wk hE hN hO ck => ?_⟩ ?_
     ·
      have ah0 := ah0.ch0 ck
      refine Need.o1 rfl rfl rfl (fun _ h => h) ?_
      refine Need.o1 rfl rfl rfl (fun _ h => h) ?_
      refine rl_ixOR rfl ah0 rfl (ixO_get hy240) k_Service_pos Tryd.underlying48 Tryd.sizeOf51 rfl ?_
      intro p254 o255 cs256 hr257 hs258 hg259
      obtain rfl := hr257
      exact RL.nil ⟨_, rfl, Ch.refl, ⟨p254, o255, rfl, hs258⟩⟩
     refine Each.consS (fun fl O wk hE hN hO ck => ?_) ?_
     ·
      refine Need.one rfl rfl rfl ?_
      rintro _ ⟨p233, o234, e260, hs237⟩
      obtain rfl := e260.symm
      refine rl_loadA (cs := (Service.enc y239)) rfl Tryd.isAgg51 Tryd.sizeOf51 (hs237) rfl rfl ?_
      exact RL.nil ⟨_, rfl, Ch.refl, rfl⟩
     trivial
    intro hvO263 OpO263 O263 w261 hO264 c262 hN265
    have ah0 := ah0.ch0 c262
    have ah4 := Kd.ch ah4 c262
    have c221 := c221.then0 c262
    refine Need.o1 rfl rfl rfl (fun _ h => h) ?_
    refine Need.o1 rfl rfl rfl (fun _ h => h) ?_
    refine Need.o1 rfl rfl rfl (fun _ h => h) ?_
    refine rl_fn2 (c := (Service.enc y231)) (c' := (Service.enc y239)) rfl rfl rfl rfl rfl ah4 (F' := (G F Bb (un (inBlk av0) S2))) (xx := y231) (yy := y239) (show k_Service.rep (G F Bb (un (inBlk av0) S2)) w261 y231 (Service.enc y231) from rfl) (show k_Service.rep (G F Bb (un (inBlk av0) S2)) w261 y239 (Service.enc y239) from rfl) rfl ?_
    intro w269 c270
    have ah0 := ah0.ch0 c270
    have ah4 := Kd.ch ah4 c270
    have c221 := c221.then0 c270
    refine rl_bin rfl rfl B.lss rfl ?_
    refine rl_not rfl rfl ?_
    refine RL.nil (thn_n ?_)
    refine CW.cond (t := !(decide ((a4 y231 y239) < 0))) rfl (fun q271 => ?_) (fun q271 => ?_)
    ·
     have hb215 := ifT q271 hb215
     refine CW.region ?_
     refine rl_move rfl rfl ?_
     refine rl_bin rfl rfl B.add rfl ?_
     refine rl_assign rfl rfl ?_
     refine RL.nil ?_
     refine inB_n ?_
     refine thn_n ?_
     have hLn := runW_next hL211 hq214 hb215
     exact ⟨k220, Nat.lt_succ_self _, [(0, av0), (2, (Value.int .i64 a2)), (4, av4), (14, (Value.int .i64 (IntKind.i64.wrap ((IntKind.i64.wrap ((IntKind.u64.wrap (IntKind.i64.wrap (x207 + x208))).fdiv (2 ^ (min (Int.toNat 1) IntKind.u64.bits)))) + 1)))), (15, (Value.int .i64 x208))], ⟨rfl, rfl, rfl, rfl, rfl, trivial⟩, ⟨IntKind.i64.wrap ((IntKind.i64.wrap ((IntKind.u64.wrap (IntKind.i64.wrap (x207 + x208))).fdiv (2 ^ (min (Int.toNat 1) IntKind.u64.bits)))) + 1), x208, rfl, c221, hLn, ah0, ah4⟩⟩
    have hb215 := ifF q271 hb215
    refine CW.region ?_
    refine rl_move rfl rfl ?_
    refine rl_assign rfl rfl ?_
    refine RL.nil ?_
    refine inB_n ?_
    refine thn_n ?_
    have hLn := runW_next hL211 hq214 hb215
    exact ⟨k220, Nat.lt_succ_self _, [(0, av0), (2, (Value.int .i64 a2)), (4, av4), (14, (Value.int .i64 x207)), (15, (Value.int .i64 (IntKind.i64.wrap ((IntKind.u64.wrap (IntKind.i64.wrap (x207 + x208))).fdiv (2 ^ (min (Int.toNat 1) IntKind.u64.bits))))))], ⟨rfl, rfl, rfl, rfl, rfl, trivial⟩, ⟨x207, IntKind.i64.wrap ((IntKind.u64.wrap (IntKind.i64.wrap (x207 + x208))).fdiv (2 ^ (min (Int.toNat 1) IntKind.u64.bits))), rfl, c221, hLn, ah0, ah4⟩⟩
   have hb215 := ifF q224 hb215
   refine CW.exit ?_
   refine thn_exit ?_
   refine thn_exit ?_
   refine inB_hit ?_
   have hLf := runW_fin hL211 hq214 hb215
   exact ⟨x207, x208, ⟨rfl, rfl, rfl, trivial⟩, c221, hLf, ah0, ah4⟩
  rintro _ w273 ⟨x207, x208, hE274, c272, f275, ah0, ah4⟩
  have hS := finS f275 hS
  refine thn_n (CW.sub [(0, av0), (2, (Value.int .i64 a2)), (14, (Value.int .i64 x207))] hE274 ?_)
  refine CW.seq ?_
  refine CW.seq (CW.region ?_)
  refine rl_move rfl rfl ?_
  refine rl_assign rfl rfl ?_
  refine RL.nil (thn_n ?_)
  obtain ⟨o287, ho288, hS⟩ := bindS hS
  refine CW.cutB (fun E' w' => ∃ (x277 : Int) (x278 : (List Service)), Sub [] E' ∧ Ch (inBlk av0) w w' ∧ Lp.fin (x277, x278) = o287 ∧ (Kd.fn2 Tryd.prog true true k_Service k_Service (Value.int .i64)).rep (G F Bb (un (inBlk av0) S2)) w' a4 [av4] ∧ SlO k_Service 51 F Bb (un (inBlk av0) S2) w' x278 av0) ?_ ?_
  ·
   refine CW.loopS [(0, av0), (14, (Value.int .i64 x207)), (17, (Value.int .i64 a2))] ⟨rfl, rfl, rfl, trivial⟩ FUEL (fun m E w' => ∃ (x277 : Int) (x278 : (List Service)), E = [(0, av0), (14, (Value.int .i64 x207)), (17, (Value.int .i64 x277))] ∧ Ch (inBlk av0) w w' ∧ runW (F51_Service_body_b4 x207 x207) m (x277, x278) = some o287 ∧ (Kd.fn2 Tryd.prog true true k_Service k_Service (Value.int .i64)).rep (G F Bb (un (inBlk av0) S2)) w' a4 [av4] ∧ SlO k_Service 51 F Bb (un (inBlk av0) S2) w' x278 av0)
       ⟨a2, a0, rfl, c272, ho288, ah4, ah0⟩ ?_
   rintro _ _ w293 ⟨x277, x278, rfl, c292, hL282, ah4, h279⟩
   obtain ⟨k291, q284, rfl, hq285⟩ := runW_some hL282
   have hb286 := hq285
   refine CW.seq ?_
   refine CW.seq (CW.region ?_)
   refine rl_move rfl rfl ?_
   refine rl_move rfl rfl ?_
   refine rl_bin rfl rfl B.gtr rfl ?_
   refine RL.nil (thn_n ?_)
   refine CW.cond (t := decide (x277 > x207)) rfl (fun q295 => ?_) (fun q295 => ?_)
   ·
    have hb286 := ifT q295 hb286
    refine CW.skip ?_
    refine thn_n (CW.seq ?_)
    refine CW.block ?_
    obtain ⟨y302, hy303, hb286⟩ := bindS hb286
    obtain ⟨y310, hy311, hb286⟩ := bindS hb286
    obtain ⟨y318, hy319, hb286⟩ := bindS hb286
    obtain ⟨y330, hy331, hb286⟩ := bindS hb286
    refine CW.draw 16 [(none, fun fx O uu wx => uu = av0), (none, fun fx O uu wx => uu = (Value.int .i64 x277)), (none, fun fx O uu wx => uu = av0), (none, fun fx O uu wx => uu = (Value.int .i64 x277)), (none, fun fx O uu wx => uu = (Value.int .i64 (IntKind.i64.wrap (x277 - 1)))), (none, fun fx O uu wx => uu = av0), (none, fun fx O uu wx => uu = (Value.int .i64 x277)), (none, fun fx O uu wx => uu = (Value.int .i64 (IntKind.i64.wrap (x277 - 1)))), (none, fun fx O uu wx => ∃ (p296 : Nat) (o297 : Nat), uu = (Value.pointer (some ⟨p296, o297, none⟩)) ∧ (fx = [] → Seg wx p296 o297 (Service.enc y302))), (none, fun fx O uu wx => uu = (Value.agg (Service.enc y302).toArray)), (none, fun fx O uu wx => uu = av0), (none, fun fx O uu wx => uu = (Value.int .i64 x277)), (none, fun fx O uu wx => ∃ (p304 : Nat) (o305 : Nat), uu = (Value.pointer (some ⟨p304, o305, none⟩)) ∧ (fx = [] → Seg wx p304 o305 (Service.enc y310))), (none, fun fx O uu wx => uu = (Value.agg (Service.enc y310).toArray)), (none, fun fx O uu wx => ∃ (p312 : Nat), uu = (Value.pointer (some ⟨p312, x277.toNat * k_Service.n, none⟩)) ∧ inBlk av0 p312), (some true, fun hv O uu wx => hv = [undef] ∧ uu = undef ∧ O = (inBlk av0) ∧ SlO k_Service 51 F Bb (un (inBlk av0) S2) wx (x278.set x277.toNat y302) av0)] [[], [], [], [], [3], [], [], [6], [5, 7], [8], [], [], [10, 11], [12], [0, 1], [9, 14]] [15, 2, 4, 13] (inBlk av0) (fun b h => (fun b hb => (h279.lt b hb).2) b h) mixed rfl rfl rfl rfl ?_ ?_
    ·
     refine Each.consS (fun fl O wk hE hN hO ck => ?_) ?_
     ·
      refine rl_move rfl rfl ?_
      exact RL.nil ⟨_, rfl, Ch.refl, rfl⟩
     refine Each.consS (fun fl O wk hE hN hO ck => ?_) ?_
     ·
      refine rl_move rfl rfl ?_
      exact RL.nil ⟨_, rfl, Ch.refl, rfl⟩
     refine Each.consS (fun fl O wk hE hN hO ck => ?_) ?_
     ·
      refine rl_move rfl rfl ?_
      exact RL.nil ⟨_, rfl, Ch.refl, rfl⟩
     refine Each.consS (fun fl O wk hE hN hO ck => ?_) ?_
     ·
      refine rl_move rfl rfl ?_
      exact RL.nil ⟨_, rfl, Ch.refl, rfl⟩
     refine Each.consS (fun fl O wk hE hN hO ck => ?_) ?_
     ·
      refine Need.o1 rfl rfl rfl (fun _ h => h) ?_
      refine rl_bin rfl rfl B.sub rfl ?_
      exact RL.nil ⟨_, rfl, Ch.refl, rfl⟩
     refine Each.consS (fun fl O wk hE hN hO ck => ?_) ?_
     ·
      refine rl_move rfl rfl ?_
      exact RL.nil ⟨_, rfl, Ch.refl, rfl⟩
     refine Each.consS (fun fl O wk hE hN hO ck => ?_) ?_
     ·
      refine rl_move rfl rfl ?_
      exact RL.nil ⟨_, rfl, Ch.refl, rfl⟩
     refine Each.consS (fun fl O wk hE hN hO ck => ?_) ?_
     ·
      refine Need.o1 rfl rfl rfl (fun _ h => h) ?_
      refine rl_bin rfl rfl B.sub rfl ?_
      exact RL.nil ⟨_, rfl, Ch.refl, rfl⟩
     refine Each.consA ⟨fun _ _ _ _ _ cc hh => by obtain ⟨p296, o297, e, hs300⟩ := hh; exact ⟨p296, o297, e, (fun hfx => (hs300 hfx).ch0 cc)⟩, fun _ _ h' O O' D _ wx wy hfl hD hO' cc hh => by obtain ⟨p296, o297, e, hs300⟩ := hh; have ad := admGh (S := S2) hD hO'; exact ⟨p296, o297, e, (fun hfx => hfl.elim (fun e => by rw [e] at hfx; cases hfx) (fun e => Seg.ch0 (hs300 (e.1.symm.trans hfx)) (cc.mono (fun b _ hd => (e.2 b hd).elim))))⟩, fun fl O wk hE hN hO ck => ?_⟩ ?_
     ·
      obtain ⟨_, hB346⟩ := hN (hE rfl)
      have h279 := h279.ch0 hB346.2.1
      refine Need.o1 rfl rfl rfl (fun _ h => h) ?_
      refine Need.o1 rfl rfl rfl (fun _ h => h) ?_
      refine rl_ixOR rfl h279 rfl (ixO_get hy303) k_Service_pos Tryd.underlying48 Tryd.sizeOf51 rfl ?_
      intro p349 o350 cs351 hr352 hs353 hg354
      obtain rfl := hr352
      exact RL.nil ⟨_, rfl, Ch.refl, ⟨p349, o350, rfl, (fun _ => hs353)⟩⟩
     refine Each.consS (fun fl O wk hE hN hO ck => ?_) ?_
     ·
      refine Need.one rfl rfl rfl ?_
      rintro _ ⟨p296, o297, e356, hs300⟩
      obtain rfl := e356.symm
      have hs300 := hs300 (hE rfl)
      refine rl_loadA (cs := (Service.enc y302)) rfl Tryd.isAgg51 Tryd.sizeOf51 (hs300) rfl rfl ?_
      exact RL.nil ⟨_, rfl, Ch.refl, rfl⟩
     refine Each.consS (fun fl O wk hE hN hO ck => ?_) ?_
     ·
      refine rl_move rfl rfl ?_
      exact RL.nil ⟨_, rfl, Ch.refl, rfl⟩
     refine Each.consS (fun fl O wk hE hN hO ck => ?_) ?_
     ·
      refine rl_move rfl rfl ?_
      exact RL.nil ⟨_, rfl, Ch.refl, rfl⟩
     refine Each.consA ⟨fun _ _ _ _ _ cc hh => by obtain ⟨p304, o305, e, hs308⟩ := hh; exact ⟨p304, o305, e, (fun hfx => (hs308 hfx).ch0 cc)⟩, fun _ _ h' O O' D _ wx wy hfl hD hO' cc hh => by obtain ⟨p304, o305, e, hs308⟩ := hh; have ad := admGh (S := S2) hD hO'; exact ⟨p304, o305, e, (fun hfx => hfl.elim (fun e => by rw [e] at hfx; cases hfx) (fun e => Seg.ch0 (hs308 (e.1.symm.trans hfx)) (cc.mono (fun b _ hd => (e.2 b hd).elim))))⟩, fun fl O wk hE hN hO ck => ?_⟩ ?_
     ·
      obtain ⟨_, hB359⟩ := hN (hE rfl)
      have h279 := h279.ch0 hB359.2.1
      refine Need.o1 rfl rfl rfl (fun _ h => h) ?_
      refine Need.o1 rfl rfl rfl (fun _ h => h) ?_
      refine rl_ixOR rfl h279 rfl (ixO_get hy311) k_Service_pos Tryd.underlying48 Tryd.sizeOf51 rfl ?_
      intro p362 o363 cs364 hr365 hs366 hg367
      obtain rfl := hr365
      exact RL.nil ⟨_, rfl, Ch.refl, ⟨p362, o363, rfl, (fun _ => hs366)⟩⟩
     refine Each.consS (fun fl O wk hE hN hO ck => ?_) ?_
     ·
      refine Need.one rfl rfl rfl ?_
      rintro _ ⟨p304, o305, e369, hs308⟩
      obtain rfl := e369.symm
      have hs308 := hs308 (hE rfl)
      refine rl_loadA (cs := (Service.enc y310)) rfl Tryd.isAgg51 Tryd.sizeOf51 (hs308) rfl rfl ?_
      exact RL.nil ⟨_, rfl, Ch.refl, rfl⟩
     refine Each.consA ⟨fun _ _ _ _ _ cc hh => by obtain ⟨p312, e, hg317⟩ := hh; exact ⟨p312, e, hg317⟩, fun _ _ h' O O' D _ wx wy hfl hD hO' cc hh => by obtain ⟨p312, e, hg317⟩ := hh; have ad := admGh (S := S2) hD hO'; exact ⟨p312, e, hg317⟩, fun fl O wk hE hN hO ck => ?_⟩ ?_
     ·
      obtain ⟨_, hB370⟩ := hN (hE rfl)
      have h279 := h279.ch0 hB370.2.1
      refine Need.o1 rfl rfl rfl (fun _ h => h) ?_
      refine Need.o1 rfl rfl rfl (fun _ h => h) ?_
      refine rl_ixO rfl h279 rfl (ixO_get hy319) Tryd.underlying48 Tryd.sizeOf51 rfl ?_
      intro p373 hg378
      exact RL.nil ⟨_, rfl, Ch.refl, ⟨p373, rfl, hg378⟩⟩
     refine Each.consO ⟨fun _ O _ wx wy cc hh => by obtain ⟨eh, e, rfl, ck15_0⟩ := hh; exact ⟨eh, e, rfl, ck15_0.ch0 cc⟩, fun hv Op O wk hO ck hO0 => ?_⟩ ?_
     ·
      obtain ⟨hl, hBg⟩ := hO0 rfl
      obtain rfl := List.eq_nil_of_length_eq_zero hl
      have h279 := h279.ch0 hBg.2.1
      refine Need.o1 rfl rfl rfl (fun _ h => h) ?_
      refine Need.one rfl rfl rfl ?_
      rintro _ ⟨p312, e380, hg317⟩
      obtain rfl := e380.symm
      refine rl_storeOA rfl rfl Tryd.sizeOf51 h279 hg317 (ixO_lt hy319) (show k_Service.rep (G F Bb (un (inBlk av0) S2)) wk y302 (Service.enc y302) from rfl) ?_
      intro w381 c382 h383
      have hb385 : ∀ b, (inBlk av0) b → (O b ∨ wk.heap.size ≤ b) ∧ b < w381.heap.size := fun b h => ⟨.inl ((hBg.1 b).2 (.inl h)), (fun b hb => (h383.lt b hb).2) b h⟩
      exact RL.nil ⟨_, (inBlk av0), rfl, hb385, (c382.mono (fun b _ h => ((hBg.1 b).2 (.inl h)))), ⟨rfl, rfl, rfl, h383⟩⟩
     trivial
    intro hvO388 OpO388 O388 w386 hO389 c387 hN390
    refine Need.hereN rfl rfl rfl rfl ?_
    rintro ⟨rfl, _, rfl, ck15_0⟩
    have ha392 : ∀ b, b < w293.heap.size → ¬ (un (inBlk av0) S2) b → ¬ (inBlk av0) b ∧ ¬ (un (inBlk av0) S2) b := fun b hb hs => ⟨fun h => hs (.inl h), fun h => un_el h (fun h => (hO389 b h).1.elim (fun h => hs (.inl h)) (fun h => Nat.not_le_of_lt hb h)) (fun h => hs (.inr h))⟩
    have ah4 := Kd.st ah4 c387 ha392
    have c292 := c292.then c387 (fun i hi h => (lin0_0 i h).elim (fun x => x) (fun x => absurd x (Nat.not_le_of_lt hi)))
    refine Need.o1 rfl rfl rfl (fun _ h => h) ?_
    refine Need.o1 rfl rfl rfl (fun _ h => h) ?_
    refine Need.o1 rfl rfl rfl (fun _ h => h) ?_
    refine rl_ixO rfl ck15_0 rfl (ixO_get hy331) Tryd.underlying48 Tryd.sizeOf51 rfl ?_
    intro p396 hg401
    refine rl_storeOA rfl rfl Tryd.sizeOf51 ck15_0 hg401 (ixO_lt hy331) (show k_Service.rep (G F Bb (un (inBlk av0) S2)) w386 y310 (Service.enc y310) from rfl) ?_
    intro w402 c403 h404
    have ad405 : ∀ b, b < w386.heap.size → ¬ (un (inBlk av0) S2) b → ¬ (inBlk av0) b ∧ ¬ (un (inBlk av0) S2) b := fun b _ hs => ⟨fun h => hs (.inl h), hs⟩
    have ah4 := Kd.st ah4 c403 ad405
    have c292 := c292.then c403 (fun i hi h => (lin0_0 i h).elim (fun x => x) (fun x => absurd x (Nat.not_le_of_lt hi)))
    refine RL.nil ?_
    refine inB_n ?_
    refine thn_n (CW.region ?_)
    refine rl_move rfl rfl ?_
    refine rl_bin rfl rfl B.sub rfl ?_
    refine rl_assign rfl rfl ?_
    refine RL.nil (thn_n ?_)
    have hLn := runW_next hL282 hq285 hb286
    exact ⟨k291, Nat.lt_succ_self _, [(0, av0), (14, (Value.int .i64 x207)), (17, (Value.int .i64 (IntKind.i64.wrap (x277 - 1))))], ⟨rfl, rfl, rfl, trivial⟩, ⟨IntKind.i64.wrap (x277 - 1), (x278.set x277.toNat y302).set (IntKind.i64.wrap (x277 - 1)).toNat y310, rfl, c292, hLn, ah4, h404⟩⟩
   have hb286 := ifF q295 hb286
   refine CW.exit ?_
   refine thn_exit ?_
   refine thn_exit ?_
   refine inB_hit ?_
   have hLf := runW_fin hL282 hq285 hb286
   exact ⟨x277, x278, trivial, c292, hLf, ah4, h279⟩
  rintro _ w407 ⟨x277, x278, hE408, c406, f409, ah4, h279⟩
  have hS := finS f409 hS
  refine thn_n (CW.sub [] hE408 ?_)
  refine CW.ret ?_
  refine thn_ret ?_
  obtain rfl := Option.some.inj hS
  exact ⟨[], trivial, ⟨rfl, h279, c406⟩⟩
 have hS := ifF q206 hS
 refine CW.skip ?_
 refine thn_n (CW.seq (CW.region ?_))
 refine rl_move rfl rfl ?_
 refine rl_move rfl rfl ?_
 refine rl_bin rfl rfl B.add rfl ?_
 refine rl_convInt rfl ⟨_, Tryd.underlying3⟩ Tryd.underlying124 rfl ?_
 refine rl_bin rfl rfl (B.shr rfl) rfl ?_
 refine rl_convInt rfl ⟨_, Tryd.underlying124⟩ Tryd.underlying3 rfl ?_
 refine rl_assign rfl rfl ?_
 refine RL.nil (thn_n (CW.seq (CW.region ?_)))
 refine rl_move rfl rfl ?_
 refine rl_move rfl rfl ?_
 refine rl_bin rfl rfl B.add rfl ?_
 refine rl_assign rfl rfl ?_
 refine RL.nil (thn_n (CW.seq (CW.region ?_)))
 refine rl_assign rfl rfl ?_
 refine rl_assign rfl rfl ?_
 refine RL.nil (thn_n (CW.seq ?_))
 refine CW.seq (CW.region ?_)
 refine rl_move rfl rfl ?_
 refine rl_move rfl rfl ?_
 refine rl_bin rfl rfl B.gtr rfl ?_
 refine RL.nil (thn_n ?_)
 obtain ⟨y411, hy412⟩ : ∃ y, (if (decide (a2 > (IntKind.i64.wrap ((IntKind.u64.wrap (IntKind.i64.wrap (a1 + a3))).fdiv (2 ^ (min (Int.toNat 1) IntKind.u64.bits)))))) = true then (IntKind.i64.wrap ((IntKind.i64.wrap ((IntKind.i64.wrap ((IntKind.u64.wrap (IntKind.i64.wrap (a1 + a3))).fdiv (2 ^ (min (Int.toNat 1) IntKind.u64.bits)))) + a2)) - a3), IntKind.i64.wrap ((IntKind.u64.wrap (IntKind.i64.wrap (a1 + a3))).fdiv (2 ^ (min (Int.toNat 1) IntKind.u64.bits)))) else (a1, a2)) = y := ⟨_, rfl⟩
 have hS := ltS hy412 hS
 refine CW.cutN (fun E' w' => w = w' ∧ Sub [(0, av0), (1, (Value.int .i64 a1)), (2, (Value.int .i64 a2)), (3, (Value.int .i64 a3)), (4, av4), (18, (Value.int .i64 (IntKind.i64.wrap ((IntKind.u64.wrap (IntKind.i64.wrap (a1 + a3))).fdiv (2 ^ (min (Int.toNat 1) IntKind.u64.bits)))))), (19, (Value.int .i64 (IntKind.i64.wrap ((IntKind.i64.wrap ((IntKind.u64.wrap (IntKind.i64.wrap (a1 + a3))).fdiv (2 ^ (min (Int.toNat 1) IntKind.u64.bits)))) + a2)))), (20, (Value.int .i64 y411.1)), (21, (Value.int .i64 y411.2))] E') ?_ ?_
 ·
  refine CW.cond (t := decide (a2 > (IntKind.i64.wrap ((IntKind.u64.wrap (IntKind.i64.wrap (a1 + a3))).fdiv (2 ^ (min (Int.toNat 1) IntKind.u64.bits)))))) rfl (fun q413 => ?_) (fun q413 => ?_)
  ·
   obtain rfl := ifT q413 hy412
   refine CW.seq (CW.region ?_)
   refine rl_move rfl rfl ?_
   refine rl_move rfl rfl ?_
   refine rl_bin rfl rfl B.sub rfl ?_
   refine rl_assign rfl rfl ?_
   refine RL.nil (thn_n (CW.region ?_))
   refine rl_move rfl rfl ?_
   refine rl_assign rfl rfl ?_
   refine RL.nil ?_
   exact ⟨rfl, rfl, ⟨rfl, rfl, rfl, rfl, rfl, rfl, rfl, rfl, rfl, trivial⟩⟩
  obtain rfl := ifF q413 hy412
  refine CW.seq (CW.region ?_)
  refine rl_move rfl rfl ?_
  refine rl_assign rfl rfl ?_
  refine RL.nil (thn_n (CW.region ?_))
  refine rl_move rfl rfl ?_
  refine rl_assign rfl rfl ?_
  refine RL.nil ?_
  exact ⟨rfl, rfl, ⟨rfl, rfl, rfl, rfl, rfl, rfl, rfl, rfl, rfl, trivial⟩⟩
 rintro _ _ ⟨rfl, hE414⟩
 refine thn_n (CW.sub [(0, av0), (1, (Value.int .i64 a1)), (2, (Value.int .i64 a2)), (3, (Value.int .i64 a3)), (4, av4), (18, (Value.int .i64 (IntKind.i64.wrap ((IntKind.u64.wrap (IntKind.i64.wrap (a1 + a3))).fdiv (2 ^ (min (Int.toNat 1) IntKind.u64.bits)))))), (19, (Value.int .i64 (IntKind.i64.wrap ((IntKind.i64.wrap ((IntKind.u64.wrap (IntKind.i64.wrap (a1 + a3))).fdiv (2 ^ (min (Int.toNat 1) IntKind.u64.bits)))) + a2)))), (20, (Value.int .i64 y411.1)), (21, (Value.int .i64 y411.2))] hE414 ?_)
 refine CW.seq (CW.region ?_)
 refine rl_move rfl rfl ?_
 refine rl_bin rfl rfl B.sub rfl ?_
 refine rl_assign rfl rfl ?_
 refine RL.nil (thn_n (CW.seq ?_))
 obtain ⟨o424, ho425, hS⟩ := bindS hS
 refine CW.cutB (fun E' w' => ∃ (x415 : Int) (x416 : Int), Sub [(0, av0), (1, (Value.int .i64 a1)), (2, (Value.int .i64 a2)), (3, (Value.int .i64 a3)), (4, av4), (18, (Value.int .i64 (IntKind.i64.wrap ((IntKind.u64.wrap (IntKind.i64.wrap (a1 + a3))).fdiv (2 ^ (min (Int.toNat 1) IntKind.u64.bits)))))), (19, (Value.int .i64 (IntKind.i64.wrap ((IntKind.i64.wrap ((IntKind.u64.wrap (IntKind.i64.wrap (a1 + a3))).fdiv (2 ^ (min (Int.toNat 1) IntKind.u64.bits)))) + a2)))), (20, (Value.int .i64 x415))] E' ∧ Ch (inBlk av0) w w' ∧ Lp.fin (x415, x416) = o424 ∧ SlO k_Service 51 F Bb (un (inBlk av0) S2) w' a0 av0 ∧ (Kd.fn2 Tryd.prog true true k_Service k_Service (Value.int .i64)).rep (G F Bb (un (inBlk av0) S2)) w' a4 [av4]) ?_ ?_
 ·
  refine CW.loopS [(0, av0), (1, (Value.int .i64 a1)), (2, (Value.int .i64 a2)), (3, (Value.int .i64 a3)), (4, av4), (18, (Value.int .i64 (IntKind.i64.wrap ((IntKind.u64.wrap (IntKind.i64.wrap (a1 + a3))).fdiv (2 ^ (min (Int.toNat 1) IntKind.u64.bits)))))), (19, (Value.int .i64 (IntKind.i64.wrap ((IntKind.i64.wrap ((IntKind.u64.wrap (IntKind.i64.wrap (a1 + a3))).fdiv (2 ^ (min (Int.toNat 1) IntKind.u64.bits)))) + a2)))), (22, (Value.int .i64 (IntKind.i64.wrap ((IntKind.i64.wrap ((IntKind.i64.wrap ((IntKind.u64.wrap (IntKind.i64.wrap (a1 + a3))).fdiv (2 ^ (min (Int.toNat 1) IntKind.u64.bits)))) + a2)) - 1)))), (20, (Value.int .i64 y411.1)), (21, (Value.int .i64 y411.2))] ⟨rfl, rfl, rfl, rfl, rfl, rfl, rfl, rfl, rfl, rfl, trivial⟩ FUEL (fun m E w' => ∃ (x415 : Int) (x416 : Int), E = [(0, av0), (1, (Value.int .i64 a1)), (2, (Value.int .i64 a2)), (3, (Value.int .i64 a3)), (4, av4), (18, (Value.int .i64 (IntKind.i64.wrap ((IntKind.u64.wrap (IntKind.i64.wrap (a1 + a3))).fdiv (2 ^ (min (Int.toNat 1) IntKind.u64.bits)))))), (19, (Value.int .i64 (IntKind.i64.wrap ((IntKind.i64.wrap ((IntKind.u64.wrap (IntKind.i64.wrap (a1 + a3))).fdiv (2 ^ (min (Int.toNat 1) IntKind.u64.bits)))) + a2)))), (22, (Value.int .i64 (IntKind.i64.wrap ((IntKind.i64.wrap ((IntKind.i64.wrap ((IntKind.u64.wrap (IntKind.i64.wrap (a1 + a3))).fdiv (2 ^ (min (Int.toNat 1) IntKind.u64.bits)))) + a2)) - 1)))), (20, (Value.int .i64 x415)), (21, (Value.int .i64 x416))] ∧ Ch (inBlk av0) w w' ∧ runW (F51_Service_body_b5 a0 a1 a2 a3 a4) m (x415, x416) = some o424 ∧ SlO k_Service 51 F Bb (un (inBlk av0) S2) w' a0 av0 ∧ (Kd.fn2 Tryd.prog true true k_Service k_Service (Value.int .i64)).rep (G F Bb (un (inBlk av0) S2)) w' a4 [av4])
      ⟨y411.1, y411.2, rfl, c0, ho425, ah0, ah4⟩ ?_
  rintro _ _ w430 ⟨x415, x416, rfl, c429, hL419, ah0, ah4⟩
  obtain ⟨k428, q421, rfl, hq422⟩ := runW_some hL419
  have hb423 := hq422
  refine CW.seq ?_
  refine CW.seq (CW.region ?_)
  refine rl_move rfl rfl ?_
  refine rl_move rfl rfl ?_
  refine rl_bin rfl rfl B.lss rfl ?_
  refine RL.nil (thn_n ?_)
  refine CW.cond (t := decide (x415 < x416)) rfl (fun q432 => ?_) (fun q432 => ?_)
  ·
   have hb423 := ifT q432 hb423
   refine CW.skip ?_
   refine thn_n (CW.block ?_)
   refine CW.seq (CW.region ?_)
   refine rl_move rfl rfl ?_
   refine rl_move rfl rfl ?_
   refine rl_bin rfl rfl B.add rfl ?_
   refine rl_convInt rfl ⟨_, Tryd.underlying3⟩ Tryd.underlying124 rfl ?_
   refine rl_bin rfl rfl (B.shr rfl) rfl ?_
   refine rl_convInt rfl ⟨_, Tryd.underlying124⟩ Tryd.underlying3 rfl ?_
   refine rl_assign rfl rfl ?_
   refine RL.nil (thn_n (CW.seq ?_))
   obtain ⟨y439, hy440, hb423⟩ := bindS hb423
   obtain ⟨y447, hy448, hb423⟩ := bindS hb423
   refine CW.draw 11 [(none, fun fx O uu wx => uu = av4), (none, fun fx O uu wx => uu = av0), (none, fun fx O uu wx => uu = (Value.int .i64 (IntKind.i64.wrap ((IntKind.i64.wrap ((IntKind.i64.wrap ((IntKind.u64.wrap (IntKind.i64.wrap (a1 + a3))).fdiv (2 ^ (min (Int.toNat 1) IntKind.u64.bits)))) + a2)) - 1)))), (none, fun fx O uu wx => uu = (Value.int .i64 (IntKind.i64.wrap ((IntKind.u64.wrap (IntKind.i64.wrap (x415 + x416))).fdiv (2 ^ (min (Int.toNat 1) IntKind.u64.bits)))))), (none, fun fx O uu wx => uu = (Value.int .i64 (IntKind.i64.wrap ((IntKind.i64.wrap ((IntKind.i64.wrap ((IntKind.i64.wrap ((IntKind.u64.wrap (IntKind.i64.wrap (a1 + a3))).fdiv (2 ^ (min (Int.toNat 1) IntKind.u64.bits)))) + a2)) - 1)) - (IntKind.i64.wrap ((IntKind.u64.wrap (IntKind.i64.wrap (x415 + x416))).fdiv (2 ^ (min (Int.toNat 1) IntKind.u64.bits)))))))), (none, fun fx O uu wx => ∃ (p433 : Nat) (o434 : Nat), uu = (Value.pointer (some ⟨p433, o434, none⟩)) ∧ Seg wx p433 o434 (Service.enc y439)), (none, fun fx O uu wx => uu = (Value.agg (Service.enc y439).toArray)), (none, fun fx O uu wx => uu = av0), (none, fun fx O uu wx => uu = (Value.int .i64 (IntKind.i64.wrap ((IntKind.u64.wrap (IntKind.i64.wrap (x415 + x416))).fdiv (2 ^ (min (Int.toNat 1) IntKind.u64.bits)))))), (none, fun fx O uu wx => ∃ (p441 : Nat) (o442 : Nat), uu = (Value.pointer (some ⟨p441, o442, none⟩)) ∧ Seg wx p441 o442 (Service.enc y447)), (none, fun fx O uu wx => uu = (Value.agg (Service.enc y447).toArray))] [[], [], [], [], [2, 3], [1, 4], [5], [], [], [7, 8], [9]] [0, 6, 10] nb (fun _ h => h.elim) mixed rfl rfl rfl rfl ?_ ?_
   ·
    refine Each.consS (fun fl O wk hE hN hO ck => ?_) ?_
    ·
     refine rl_move rfl rfl ?_
     exact RL.nil ⟨_, rfl, Ch.refl, rfl⟩
    refine Each.consS (fun fl O wk hE hN hO ck => ?_) ?_
    ·
     refine rl_move rfl rfl ?_
     exact RL.nil ⟨_, rfl, Ch.refl, rfl⟩
    refine Each.consS (fun fl O wk hE hN hO ck => ?_) ?_
    ·
     refine rl_move rfl rfl ?_
     exact RL.nil ⟨_, rfl, Ch.refl, rfl⟩
    refine Each.consS (fun fl O wk hE hN hO ck => ?_) ?_
    ·
     refine rl_move rfl rfl ?_
     exact RL.nil ⟨_, rfl, Ch.refl, rfl⟩
    refine Each.consS (fun fl O wk hE hN hO ck => ?_) ?_
    ·
     refine Need.o1 rfl rfl rfl (fun _ h => h) ?_
     refine Need.o1 rfl rfl rfl (fun _ h => h) ?_
     refine rl_bin rfl rfl B.sub rfl ?_
     exact RL.nil ⟨_, rfl, Ch.refl, rfl⟩
    refine Each.consA ⟨fun _ _ _ _ _ cc hh => by obtain ⟨p433, o434, e, hs437⟩ := hh; exact ⟨p433, o434, e, hs437.ch0 cc⟩, fun h => absurd rfl h, fun fl O wk hE hN hO ck => ?_⟩ ?_
    ·
     have ah0 := ah0.ch0 ck
     refine Need.o1 rfl rfl rfl (fun _ h => h) ?_
     refine Need.o1 rfl rfl rfl (fun _ h => h) ?_
     refine rl_ixOR rfl ah0 rfl (ixO_get hy440) k_Service_pos Tryd.underlying48 Tryd.sizeOf51 rfl ?_
     intro p455 o456 cs457 hr458 hs459 hg460
     obtain rfl := hr458
     exact RL.nil ⟨_, rfl, Ch.refl, ⟨p455, o456, rfl, hs459⟩⟩
    refine Each.consS (fun fl O wk hE hN hO ck => ?_) ?_
    ·
     refine Need.one rfl rfl rfl ?_
     rintro _ ⟨p433, o434, e461, hs437⟩
     obtain rfl := e461.symm
     refine rl_loadA (cs := (Service.enc y439)) rfl Tryd.isAgg51 Tryd.sizeOf51 (hs437) rfl rfl ?_
     exact RL.nil ⟨_, rfl, Ch.refl, rfl⟩
    refine Each.consS (fun fl O wk hE hN hO ck => ?_) ?_
    ·
     refine rl_move rfl rfl ?_
     exact RL.nil ⟨_, rfl, Ch.refl, rfl⟩
    refine Each.consS (fun fl O wk hE hN hO ck => ?_) ?_
    ·
     refine rl_move rfl rfl ?_
     exact RL.nil ⟨_, rfl, Ch.refl, rfl⟩
    refine Each.consA ⟨fun _ _ _ _ _ cc hh => by obtain ⟨p441, o442, e, hs445⟩ := hh; exact ⟨p441, o442, e, hs445.ch0 cc⟩, fun h => absurd rfl h, fun fl O wk hE hN hO ck => ?_⟩ ?_
    ·
     have ah0 := ah0.ch0 ck
     refine Need.o1 rfl rfl rfl (fun _ h => h) ?_
     refine Need.o1 rfl rfl rfl (fun _ h => h) ?_
     refine rl_ixOR rfl ah0 rfl (ixO_get hy448) k_Service_pos Tryd.underlying48 Tryd.sizeOf51 rfl ?_
     intro p464 o465 cs466 hr467 hs468 hg469
     obtain rfl := hr467
     exact RL.nil ⟨_, rfl, Ch.refl, ⟨p464, o465, rfl, hs468⟩⟩
    refine Each.consS (fun fl O wk hE hN hO ck => ?_) ?_
    ·
     refine Need.one rfl rfl rfl ?_
     rintro _ ⟨p441, o442, e470, hs445⟩
     obtain rfl := e470.symm
     refine rl_loadA (cs := (Service.enc y447)) rfl Tryd.isAgg51 Tryd.sizeOf51 (hs445) rfl rfl ?_
     exact RL.nil ⟨_, rfl, Ch.refl, rfl⟩
    trivial
   intro hvO473 OpO473 O473 w471 hO474 c472 hN475
   have ah0 := ah0.ch0 c472
   have ah4 := Kd.ch ah4 c472
   have c429 := c429.then0 c472
   refine Need.o1 rfl rfl rfl (fun _ h => h) ?_
   refine Need.o1 rfl rfl rfl (fun _ h => h) ?_
   refine Need.o1 rfl rfl rfl (fun _ h => h) ?_
   refine rl_fn2 (c := (Service.enc y439)) (c' := (Service.enc y447)) rfl rfl rfl rfl rfl ah4 (F' := (G F Bb (un (inBlk av0) S2))) (xx := y439) (yy := y447) (show k_Service.rep (G F Bb (un (inBlk av0) S2)) w471 y439 (Service.enc y439) from rfl) (show k_Service.rep (G F Bb (un (inBlk av0) S2)) w471 y447 (Service.enc y447) from rfl) rfl ?_
   intro w479 c480
   have ah0 := ah0.ch0 c480
   have ah4 := Kd.ch ah4 c480
   have c429 := c429.then0 c480
   refine rl_bin rfl rfl B.lss rfl ?_
   refine rl_not rfl rfl ?_
   refine RL.nil (thn_n ?_)
   refine CW.cond (t := !(decide ((a4 y439 y447) < 0))) rfl (fun q481 => ?_) (fun q481 => ?_)
   ·
    have hb423 := ifT q481 hb423
    refine CW.region ?_
    refine rl_move rfl rfl ?_
    refine rl_bin rfl rfl B.add rfl ?_
    refine rl_assign rfl rfl ?_
    refine RL.nil ?_
    refine inB_n ?_
    refine thn_n ?_
    have hLn := runW_next hL419 hq422 hb423
    exact ⟨k428, Nat.lt_succ_self _, [(0, av0), (1, (Value.int .i64 a1)), (2, (Value.int .i64 a2)), (3, (Value.int .i64 a3)), (4, av4), (18, (Value.int .i64 (IntKind.i64.wrap ((IntKind.u64.wrap (IntKind.i64.wrap (a1 + a3))).fdiv (2 ^ (min (Int.toNat 1) IntKind.u64.bits)))))), (19, (Value.int .i64 (IntKind.i64.wrap ((IntKind.i64.wrap ((IntKind.u64.wrap (IntKind.i64.wrap (a1 + a3))).fdiv (2 ^ (min (Int.toNat 1) IntKind.u64.bits)))) + a2)))), (22, (Value.int .i64 (IntKind.i64.wrap ((IntKind.i64.wrap ((IntKind.i64.wrap ((IntKind.u64.wrap (IntKind.i64.wrap (a1 + a3))).fdiv (2 ^ (min (Int.toNat 1) IntKind.u64.bits)))) + a2)) - 1)))), (20, (Value.int .i64 (IntKind.i64.wrap ((IntKind.i64.wrap ((IntKind.u64.wrap (IntKind.i64.wrap (x415 + x416))).fdiv (2 ^ (min (Int.toNat 1) IntKind.u64.bits)))) + 1)))), (21, (Value.int .i64 x416))], ⟨rfl, rfl, rfl, rfl, rfl, rfl, rfl, rfl, rfl, rfl, trivial⟩, ⟨IntKind.i64.wrap ((IntKind.i64.wrap ((IntKind.u64.wrap (IntKind.i64.wrap (x415 + x416))).fdiv (2 ^ (min (Int.toNat 1) IntKind.u64.bits)))) + 1), x416, rfl, c429, hLn, ah0, ah4⟩⟩
   have hb423 := ifF q481 hb423
   refine CW.region ?_
   refine rl_move rfl rfl ?_
   refine rl_assign rfl rfl ?_
   refine RL.nil ?_
   refine inB_n ?_
   refine thn_n ?_
   have hLn := runW_next hL419 hq422 hb423
   exact ⟨k428, Nat.lt_succ_self _, [(0, av0), (1, (Value.int .i64 a1)), (2, (Value.int .i64 a2)), (3, (Value.int .i64 a3)), (4, av4), (18, (Value.int .i64 (IntKind.i64.wrap ((IntKind.u64.wrap (IntKind.i64.wrap (a1 + a3))).fdiv (2 ^ (min (Int.toNat 1) IntKind.u64.bits)))))), (19, (Value.int .i64 (IntKind.i64.wrap ((IntKind.i64.wrap ((IntKind.u64.wrap (IntKind.i64.wrap (a1 + a3))).fdiv (2 ^ (min (Int.toNat 1) IntKind.u64.bits)))) + a2)))), (22, (Value.int .i64 (IntKind.i64.wrap ((IntKind.i64.wrap ((IntKind.i64.wrap ((IntKind.u64.wrap (IntKind.i64.wrap (a1 + a3))).fdiv (2 ^ (min (Int.toNat 1) IntKind.u64.bits)))) + a2)) - 1)))), (20, (Value.int .i64 x415)), (21, (Value.int .i64 (IntKind.i64.wrap ((IntKind.u64.wrap (IntKind.i64.wrap (x415 + x416))).fdiv (2 ^ (min (Int.toNat 1) IntKind.u64.bits))))))], ⟨rfl, rfl, rfl, rfl, rfl, rfl, rfl, rfl, rfl, rfl, trivial⟩, ⟨x415, IntKind.i64.wrap ((IntKind.u64.wrap (IntKind.i64.wrap (x415 + x416))).fdiv (2 ^ (min (Int.toNat 1) IntKind.u64.bits))), rfl, c429, hLn, ah0, ah4⟩⟩
  have hb423 := ifF q432 hb423
  refine CW.exit ?_
  refine thn_exit ?_
  refine thn_exit ?_
  refine inB_hit ?_
  have hLf := runW_fin hL419 hq422 hb423
  exact ⟨x415, x416, ⟨rfl, rfl, rfl, rfl, rfl, rfl, rfl, rfl, trivial⟩, c429, hLf, ah0, ah4⟩
 rintro _ w483 ⟨x415, x416, hE484, c482, f485, ah0, ah4⟩
 have hS := finS f485 hS
 refine thn_n (CW.sub [(0, av0), (1, (Value.int .i64 a1)), (2, (Value.int .i64 a2)), (3, (Value.int .i64 a3)), (4, av4), (18, (Value.int .i64 (IntKind.i64.wrap ((IntKind.u64.wrap (IntKind.i64.wrap (a1 + a3))).fdiv (2 ^ (min (Int.toNat 1) IntKind.u64.bits)))))), (19, (Value.int .i64 (IntKind.i64.wrap ((IntKind.i64.wrap ((IntKind.u64.wrap (IntKind.i64.wrap (a1 + a3))).fdiv (2 ^ (min (Int.toNat 1) IntKind.u64.bits)))) + a2)))), (20, (Value.int .i64 x415))] hE484 ?_)
 refine CW.seq (CW.region ?_)
 refine rl_move rfl rfl ?_
 refine rl_move rfl rfl ?_
 refine rl_bin rfl rfl B.sub rfl ?_
 refine rl_assign rfl rfl ?_
 refine RL.nil (thn_n (CW.seq ?_))
 refine CW.seq (CW.region ?_)
 refine rl_move rfl rfl ?_
 refine rl_move rfl rfl ?_
 refine rl_bin rfl rfl B.lss rfl ?_
 refine rl_move rfl rfl ?_
 obtain ⟨b489, hb490⟩ : ∃ v, ((decide (x415 < a2)) && (decide (a2 < (IntKind.i64.wrap ((IntKind.i64.wrap ((IntKind.i64.wrap ((IntKind.u64.wrap (IntKind.i64.wrap (a1 + a3))).fdiv (2 ^ (min (Int.toNat 1) IntKind.u64.bits)))) + a2)) - x415))))) = v := ⟨_, rfl⟩
 have hS := ltS hb490 hS
 refine RL.join 4 185 (.bool b489) (fun w' => Ch nb w483 w') ?_ ?_
 · rcases Bool.eq_false_or_eq_true (decide (x415 < a2)) with hg488 | hg488
   ·
    have hs487 := and_t hg488 hb490
    have cs : Ch nb w483 w483 := Ch.refl
    refine RL.yes rfl rfl rfl hg488 ?_
    refine rl_move rfl rfl ?_
    refine RL.yes rfl rfl rfl hg488 ?_
    refine rl_move rfl rfl ?_
    refine RL.yes rfl rfl rfl hg488 ?_
    refine rl_bin rfl rfl B.lss rfl ?_
    refine rl_pickT rfl hg488 rfl rfl ?_
    exact RL.nil ⟨Ext.bothEq (congrArg Value.bool hs487) (Ext.skip rfl (Ext.skip rfl (Ext.skip rfl (Ext.rfl')))), cs⟩
   ·
    have hs487 := and_f hg488 hb490
    have cs : Ch nb w483 w483 := Ch.refl
    refine RL.no rfl rfl rfl hg488 rfl rfl ?_
    refine RL.no rfl rfl rfl hg488 rfl rfl ?_
    refine RL.no rfl rfl rfl hg488 rfl rfl ?_
    refine rl_pickF rfl hg488 rfl rfl ?_
    exact RL.nil ⟨Ext.bothEq (congrArg Value.bool hs487) (Ext.skip rfl (Ext.skip rfl (Ext.skip rfl (Ext.rfl')))), cs⟩
 intro w491 c492
 have ah0 := ah0.ch0 c492
 have ah4 := Kd.ch ah4 c492
 have c482 := c482.then0 c492
 refine RL.nil (thn_n ?_)
 refine CW.cond (t := b489) rfl (fun q493 => ?_) (fun q493 => ?_)
 ·
  have hS := ifT q493 hS
  refine CW.region ?_
  refine rl_move rfl rfl ?_
  refine rl_move rfl rfl ?_
  refine rl_move rfl rfl ?_
  refine rl_move rfl rfl ?_
  refine rl_move rfl rfl ?_
  have hd494 : ∀ b, (inBlk av0) b → ¬ S2 b := fun b h => (fun b hb => linNot lin0_0 hd2 h2 b hb) b h
  have hS495 : (un (inBlk av0) S2) = (un (inBlk av0) S2) := rfl
  have ha496 := ah4
  rw [hS495] at ha496
  obtain ⟨y499, hy500, hS⟩ := bindS hS
  refine rl_callF rfl en61 rfl (ctr61 F w491 Bb S2 (Nat.le_trans hB c482.size) (fun b h => Nat.lt_of_lt_of_le (h2 b h) c482.size) av0 hd494  a0 (hS495 ▸ ah0) x415 a2 (IntKind.i64.wrap ((IntKind.i64.wrap ((IntKind.i64.wrap ((IntKind.u64.wrap (IntKind.i64.wrap (a1 + a3))).fdiv (2 ^ (min (Int.toNat 1) IntKind.u64.bits)))) + a2)) - x415)) a4 av4 ha496 y499 hy500) ?_
  rintro _ w497 ⟨rfl, h501, c498⟩
  rw [← hS495] at h501
  have ad502 : ∀ b, b < w491.heap.size → ¬ (un (inBlk av0) S2) b → ¬ (inBlk av0) b ∧ ¬ (un (inBlk av0) S2) b := fun b _ hs => ⟨fun h => hs (.inl h), hs⟩
  have ah4 := Kd.st ah4 c498 ad502
  have c482 := c482.then c498 (fun i hi h => (lin0_0 i h).elim (fun x => x) (fun x => absurd x (Nat.not_le_of_lt hi)))
  refine RL.nil (thn_n (CW.seq ?_))
  refine CW.seq (CW.region ?_)
  refine rl_move rfl rfl ?_
  refine rl_move rfl rfl ?_
  refine rl_bin rfl rfl B.lss rfl ?_
  refine rl_move rfl rfl ?_
  obtain ⟨b505, hb506⟩ : ∃ v, ((decide (a1 < x415)) && (decide (x415 < (IntKind.i64.wrap ((IntKind.u64.wrap (IntKind.i64.wrap (a1 + a3))).fdiv (2 ^ (min (Int.toNat 1) IntKind.u64.bits))))))) = v := ⟨_, rfl⟩
  have hS := ltS hb506 hS
  refine RL.join 4 199 (.bool b505) (fun w' => Ch nb w497 w') ?_ ?_
  · rcases Bool.eq_false_or_eq_true (decide (a1 < x415)) with hg504 | hg504
    ·
     have hs503 := and_t hg504 hb506
     have cs : Ch nb w497 w497 := Ch.refl
     refine RL.yes rfl rfl rfl hg504 ?_
     refine rl_move rfl rfl ?_
     refine RL.yes rfl rfl rfl hg504 ?_
     refine rl_move rfl rfl ?_
     refine RL.yes rfl rfl rfl hg504 ?_
     refine rl_bin rfl rfl B.lss rfl ?_
     refine rl_pickT rfl hg504 rfl rfl ?_
     exact RL.nil ⟨Ext.bothEq (congrArg Value.bool hs503) (Ext.skip rfl (Ext.skip rfl (Ext.skip rfl (Ext.rfl')))), cs⟩
    ·
     have hs503 := and_f hg504 hb506
     have cs : Ch nb w497 w497 := Ch.refl
     refine RL.no rfl rfl rfl hg504 rfl rfl ?_
     refine RL.no rfl rfl rfl hg504 rfl rfl ?_
     refine RL.no rfl rfl rfl hg504 rfl rfl ?_
     refine rl_pickF rfl hg504 rfl rfl ?_
     exact RL.nil ⟨Ext.bothEq (congrArg Value.bool hs503) (Ext.skip rfl (Ext.skip rfl (Ext.skip rfl (Ext.rfl')))), cs⟩
  intro w507 c508
  have ah4 := Kd.ch ah4 c508
  have h501 := h501.ch0 c508
  have c482 := c482.then0 c508
  refine RL.nil (thn_n ?_)
  refine CW.cond (t := b505) rfl (fun q509 => ?_) (fun q509 => ?_)
  ·
   have hS := ifT q509 hS
   refine CW.region ?_
   refine rl_move rfl rfl ?_
   refine rl_move rfl rfl ?_
   refine rl_move rfl rfl ?_
   refine rl_move rfl rfl ?_
   refine rl_move rfl rfl ?_
   have hd510 : ∀ b, (inBlk av0) b → ¬ S2 b := fun b h => (fun b hb => linNot lin0_0 hd2 h2 b hb) b h
   have hS511 : (un (inBlk av0) S2) = (un (inBlk av0) S2) := rfl
   have ha512 := ah4
   rw [hS511] at ha512
   obtain ⟨y515, hy516, hS⟩ := bindS hS
   refine rl_callF rfl en51 rfl (ih F w507 Bb S2 (Nat.le_trans hB c482.size) (fun b h => Nat.lt_of_lt_of_le (h2 b h) c482.size) av0 hd510  y499 (hS511 ▸ h501) a1 x415 (IntKind.i64.wrap ((IntKind.u64.wrap (IntKind.i64.wrap (a1 + a3))).fdiv (2 ^ (min (Int.toNat 1) IntKind.u64.bits)))) a4 av4 ha512 y515 hy516) ?_
   rintro _ w513 ⟨rfl, h517, c514⟩
   rw [← hS511] at h517
   have ad518 : ∀ b, b < w507.heap.size → ¬ (un (inBlk av0) S2) b → ¬ (inBlk av0) b ∧ ¬ (un (inBlk av0) S2) b := fun b _ hs => ⟨fun h => hs (.inl h), hs⟩
   have ah4 := Kd.st ah4 c514 ad518
   have c482 := c482.then c514 (fun i hi h => (lin0_0 i h).elim (fun x => x) (fun x => absurd x (Nat.not_le_of_lt hi)))
   refine RL.nil (thn_n (CW.seq (CW.region ?_)))
   refine rl_move rfl rfl ?_
   refine rl_move rfl rfl ?_
   refine rl_bin rfl rfl B.lss rfl ?_
   refine rl_move rfl rfl ?_
   obtain ⟨b521, hb522⟩ : ∃ v, ((decide ((IntKind.i64.wrap ((IntKind.u64.wrap (IntKind.i64.wrap (a1 + a3))).fdiv (2 ^ (min (Int.toNat 1) IntKind.u64.bits)))) < (IntKind.i64.wrap ((IntKind.i64.wrap ((IntKind.i64.wrap ((IntKind.u64.wrap (IntKind.i64.wrap (a1 + a3))).fdiv (2 ^ (min (Int.toNat 1) IntKind.u64.bits)))) + a2)) - x415)))) && (decide ((IntKind.i64.wrap ((IntKind.i64.wrap ((IntKind.i64.wrap ((IntKind.u64.wrap (IntKind.i64.wrap (a1 + a3))).fdiv (2 ^ (min (Int.toNat 1) IntKind.u64.bits)))) + a2)) - x415)) < a3))) = v := ⟨_, rfl⟩
   have hS := ltS hb522 hS
   refine RL.join 4 213 (.bool b521) (fun w' => Ch nb w513 w') ?_ ?_
   · rcases Bool.eq_false_or_eq_true (decide ((IntKind.i64.wrap ((IntKind.u64.wrap (IntKind.i64.wrap (a1 + a3))).fdiv (2 ^ (min (Int.toNat 1) IntKind.u64.bits)))) < (IntKind.i64.wrap ((IntKind.i64.wrap ((IntKind.i64.wrap ((IntKind.u64.wrap (IntKind.i64.wrap (a1 + a3))).fdiv (2 ^ (min (Int.toNat 1) IntKind.u64.bits)))) + a2)) - x415)))) with hg520 | hg520
     ·
      have hs519 := and_t hg520 hb522
      have cs : Ch nb w513 w513 := Ch.refl
      refine RL.yes rfl rfl rfl hg520 ?_
      refine rl_move rfl rfl ?_
      refine RL.yes rfl rfl rfl hg520 ?_
      refine rl_move rfl rfl ?_
      refine RL.yes rfl rfl rfl hg520 ?_
      refine rl_bin rfl rfl B.lss rfl ?_
      refine rl_pickT rfl hg520 rfl rfl ?_
      exact RL.nil ⟨Ext.bothEq (congrArg Value.bool hs519) (Ext.skip rfl (Ext.skip rfl (Ext.skip rfl (Ext.rfl')))), cs⟩
     ·
      have hs519 := and_f hg520 hb522
      have cs : Ch nb w513 w513 := Ch.refl
      refine RL.no rfl rfl rfl hg520 rfl rfl ?_
      refine RL.no rfl rfl rfl hg520 rfl rfl ?_
      refine RL.no rfl rfl rfl hg520 rfl rfl ?_
      refine rl_pickF rfl hg520 rfl rfl ?_
      exact RL.nil ⟨Ext.bothEq (congrArg Value.bool hs519) (Ext.skip rfl (Ext.skip rfl (Ext.skip rfl (Ext.rfl')))), cs⟩
   intro w523 c524
   have ah4 := Kd.ch ah4 c524
   have h517 := h517.ch0 c524
   have c482 := c482.then0 c524
   refine RL.nil (thn_n ?_)
   refine CW.cond (t := b521) rfl (fun q525 => ?_) (fun q525 => ?_)
   ·
    have hS := ifT q525 hS
    refine CW.region ?_
    refine rl_move rfl rfl ?_
    refine rl_move rfl rfl ?_
    refine rl_move rfl rfl ?_
    refine rl_move rfl rfl ?_
    refine rl_move rfl rfl ?_
    have hd526 : ∀ b, (inBlk av0) b → ¬ S2 b := fun b h => (fun b hb => linNot lin0_0 hd2 h2 b hb) b h
    have hS527 : (un (inBlk av0) S2) = (un (inBlk av0) S2) := rfl
    have ha528 := ah4
    rw [hS527] at ha528
    obtain ⟨y531, hy532, hS⟩ := bindS hS
    refine rl_callF rfl en51 rfl (ih F w523 Bb S2 (Nat.le_trans hB c482.size) (fun b h => Nat.lt_of_lt_of_le (h2 b h) c482.size) av0 hd526  y515 (hS527 ▸ h517) (IntKind.i64.wrap ((IntKind.u64.wrap (IntKind.i64.wrap (a1 + a3))).fdiv (2 ^ (min (Int.toNat 1) IntKind.u64.bits)))) (IntKind.i64.wrap ((IntKind.i64.wrap ((IntKind.i64.wrap ((IntKind.u64.wrap (IntKind.i64.wrap (a1 + a3))).fdiv (2 ^ (min (Int.toNat 1) IntKind.u64.bits)))) + a2)) - x415)) a3 a4 av4 ha528 y531 hy532) ?_
    rintro _ w529 ⟨rfl, h533, c530⟩
    rw [← hS527] at h533
    have c482 := c482.then c530 (fun i hi h => (lin0_0 i h).elim (fun x => x) (fun x => absurd x (Nat.not_le_of_lt hi)))
    refine RL.nil ?_
    obtain rfl := Option.some.inj hS
    exact ⟨[], trivial, ⟨rfl, h533, c482⟩⟩
   have hS := ifF q525 hS
   refine CW.skip ?_
   obtain rfl := Option.some.inj hS
   exact ⟨[], trivial, ⟨rfl, h517, c482⟩⟩
  have hS := ifF q509 hS
  refine CW.skip ?_
  refine thn_n (CW.seq (CW.region ?_))
  refine rl_move rfl rfl ?_
  refine rl_move rfl rfl ?_
  refine rl_bin rfl rfl B.lss rfl ?_
  refine rl_move rfl rfl ?_
  obtain ⟨b537, hb538⟩ : ∃ v, ((decide ((IntKind.i64.wrap ((IntKind.u64.wrap (IntKind.i64.wrap (a1 + a3))).fdiv (2 ^ (min (Int.toNat 1) IntKind.u64.bits)))) < (IntKind.i64.wrap ((IntKind.i64.wrap ((IntKind.i64.wrap ((IntKind.u64.wrap (IntKind.i64.wrap (a1 + a3))).fdiv (2 ^ (min (Int.toNat 1) IntKind.u64.bits)))) + a2)) - x415)))) && (decide ((IntKind.i64.wrap ((IntKind.i64.wrap ((IntKind.i64.wrap ((IntKind.u64.wrap (IntKind.i64.wrap (a1 + a3))).fdiv (2 ^ (min (Int.toNat 1) IntKind.u64.bits)))) + a2)) - x415)) < a3))) = v := ⟨_, rfl⟩
  have hS := ltS hb538 hS
  refine RL.join 4 213 (.bool b537) (fun w' => Ch nb w507 w') ?_ ?_
  · rcases Bool.eq_false_or_eq_true (decide ((IntKind.i64.wrap ((IntKind.u64.wrap (IntKind.i64.wrap (a1 + a3))).fdiv (2 ^ (min (Int.toNat 1) IntKind.u64.bits)))) < (IntKind.i64.wrap ((IntKind.i64.wrap ((IntKind.i64.wrap ((IntKind.u64.wrap (IntKind.i64.wrap (a1 + a3))).fdiv (2 ^ (min (Int.toNat 1) IntKind.u64.bits)))) + a2)) - x415)))) with hg536 | hg536
    ·
     have hs535 := and_t hg536 hb538
     have cs : Ch nb w507 w507 := Ch.refl
     refine RL.yes rfl rfl rfl hg536 ?_
     refine rl_move rfl rfl ?_
     refine RL.yes rfl rfl rfl hg536 ?_
     refine rl_move rfl rfl ?_
     refine RL.yes rfl rfl rfl hg536 ?_
     refine rl_bin rfl rfl B.lss rfl ?_
     refine rl_pickT rfl hg536 rfl rfl ?_
     exact RL.nil ⟨Ext.bothEq (congrArg Value.bool hs535) (Ext.skip rfl (Ext.skip rfl (Ext.skip rfl (Ext.rfl')))), cs⟩
    ·
     have hs535 := and_f hg536 hb538
     have cs : Ch nb w507 w507 := Ch.refl
     refine RL.no rfl rfl rfl hg536 rfl rfl ?_
     refine RL.no rfl rfl rfl hg536 rfl rfl ?_
     refine RL.no rfl rfl rfl hg536 rfl rfl ?_
     refine rl_pickF rfl hg536 rfl rfl ?_
     exact RL.nil ⟨Ext.bothEq (congrArg Value.bool hs535) (Ext.skip rfl (Ext.skip rfl (Ext.skip rfl (Ext.rfl')))), cs⟩
  intro w539 c540
  have ah4 := Kd.ch ah4 c540
  have h501 := h501.ch0 c540
  have c482 := c482.then0 c540
  refine RL.nil (thn_n ?_)
  refine CW.cond (t := b537) rfl (fun q541 => ?_) (fun q541 => ?_)
  ·
   have hS := ifT q541 hS
   refine CW.region ?_
   refine rl_move rfl rfl ?_
   refine rl_move rfl rfl ?_
   refine rl_move rfl rfl ?_
   refine rl_move rfl rfl ?_
   refine rl_move rfl rfl ?_
   have hd542 : ∀ b, (inBlk av0) b → ¬ S2 b := fun b h => (fun b hb => linNot lin0_0 hd2 h2 b hb) b h
   have hS543 : (un (inBlk av0) S2) = (un (inBlk av0) S2) := rfl
   have ha544 := ah4
   rw [hS543] at ha544
   obtain ⟨y547, hy548, hS⟩ := bindS hS
   refine rl_callF rfl en51 rfl (ih F w539 Bb S2 (Nat.le_trans hB c482.size) (fun b h => Nat.lt_of_lt_of_le (h2 b h) c482.size) av0 hd542  y499 (hS543 ▸ h501) (IntKind.i64.wrap ((IntKind.u64.wrap (IntKind.i64.wrap (a1 + a3))).fdiv (2 ^ (min (Int.toNat 1) IntKind.u64.bits)))) (IntKind.i64.wrap ((IntKind.i64.wrap ((IntKind.i64.wrap ((IntKind.u64.wrap (IntKind.i64.wrap (a1 + a3))).fdiv (2 ^ (min (Int.toNat 1) IntKind.u64.bits)))) + a2)) - x415)) a3 a4 av4 ha544 y547 hy548) ?_
   rintro _ w545 ⟨rfl, h549, c546⟩
   rw [← hS543] at h549
   have c482 := c482.then c546 (fun i hi h => (lin0_0 i h).elim (fun x => x) (fun x => absurd x (Nat.not_le_of_lt hi)))
   refine RL.nil ?_
   obtain rfl := Option.some.inj hS
   exact ⟨[], trivial, ⟨rfl, h549, c482⟩⟩
  have hS := ifF q541 hS
  refine CW.skip ?_
  obtain rfl := Option.some.inj hS
  exact ⟨[], trivial, ⟨rfl, h501, c482⟩⟩
 have hS := ifF q493 hS
 refine CW.skip ?_
 refine thn_n (CW.seq ?_)
 refine CW.seq (CW.region ?_)
 refine rl_move rfl rfl ?_
 refine rl_move rfl rfl ?_
 refine rl_bin rfl rfl B.lss rfl ?_
 refine rl_move rfl rfl ?_
 obtain ⟨b553, hb554⟩ : ∃ v, ((decide (a1 < x415)) && (decide (x415 < (IntKind.i64.wrap ((IntKind.u64.wrap (IntKind.i64.wrap (a1 + a3))).fdiv (2 ^ (min (Int.toNat 1) IntKind.u64.bits))))))) = v := ⟨_, rfl⟩
 have hS := ltS hb554 hS
 refine RL.join 4 199 (.bool b553) (fun w' => Ch nb w491 w') ?_ ?_
 · rcases Bool.eq_false_or_eq_true (decide (a1 < x415)) with hg552 | hg552
   ·
    have hs551 := and_t hg552 hb554
    have cs : Ch nb w491 w491 := Ch.refl
    refine RL.yes rfl rfl rfl hg552 ?_
    refine rl_move rfl rfl ?_
    refine RL.yes rfl rfl rfl hg552 ?_
    refine rl_move rfl rfl ?_
    refine RL.yes rfl rfl rfl hg552 ?_
    refine rl_bin rfl rfl B.lss rfl ?_
    refine rl_pickT rfl hg552 rfl rfl ?_
    exact RL.nil ⟨Ext.bothEq (congrArg Value.bool hs551) (Ext.skip rfl (Ext.skip rfl (Ext.skip rfl (Ext.rfl')))), cs⟩
   ·
    have hs551 := and_f hg552 hb554
    have cs : Ch nb w491 w491 := Ch.refl
    refine RL.no rfl rfl rfl hg552 rfl rfl ?_
    refine RL.no rfl rfl rfl hg552 rfl rfl ?_
    refine RL.no rfl rfl rfl hg552 rfl rfl ?_
    refine rl_pickF rfl hg552 rfl rfl ?_
    exact RL.nil ⟨Ext.bothEq (congrArg Value.bool hs551) (Ext.skip rfl (Ext.skip rfl (Ext.skip rfl (Ext.rfl')))), cs⟩
 intro w555 c556
 have ah0 := ah0.ch0 c556
 have ah4 := Kd.ch ah4 c556
 have c482 := c482.then0 c556
 refine RL.nil (thn_n ?_)
 refine CW.cond (t := b553) rfl (fun q557 => ?_) (fun q557 => ?_)
 ·
  have hS := ifT q557 hS
  refine CW.region ?_
  refine rl_move rfl rfl ?_
  refine rl_move rfl rfl ?_
  refine rl_move rfl rfl ?_
  refine rl_move rfl rfl ?_
  refine rl_move rfl rfl ?_
  have hd558 : ∀ b, (inBlk av0) b → ¬ S2 b := fun b h => (fun b hb => linNot lin0_0 hd2 h2 b hb) b h
  have hS559 : (un (inBlk av0) S2) = (un (inBlk av0) S2) := rfl
  have ha560 := ah4
  rw [hS559] at ha560
  obtain ⟨y563, hy564, hS⟩ := bindS hS
  refine rl_callF rfl en51 rfl (ih F w555 Bb S2 (Nat.le_trans hB c482.size) (fun b h => Nat.lt_of_lt_of_le (h2 b h) c482.size) av0 hd558  a0 (hS559 ▸ ah0) a1 x415 (IntKind.i64.wrap ((IntKind.u64.wrap (IntKind.i64.wrap (a1 + a3))).fdiv (2 ^ (min (Int.toNat 1) IntKind.u64.bits)))) a4 av4 ha560 y563 hy564) ?_
  rintro _ w561 ⟨rfl, h565, c562⟩
  rw [← hS559] at h565
  have ad566 : ∀ b, b < w555.heap.size → ¬ (un (inBlk av0) S2) b → ¬ (inBlk av0) b ∧ ¬ (un (inBlk av0) S2) b := fun b _ hs => ⟨fun h => hs (.inl h), hs⟩
  have ah4 := Kd.st ah4 c562 ad566
  have c482 := c482.then c562 (fun i hi h => (lin0_0 i h).elim (fun x => x) (fun x => absurd x (Nat.not_le_of_lt hi)))
  refine RL.nil (thn_n (CW.seq (CW.region ?_)))
  refine rl_move rfl rfl ?_
  refine rl_move rfl rfl ?_
  refine rl_bin rfl rfl B.lss rfl ?_
  refine rl_move rfl rfl ?_
  obtain ⟨b569, hb570⟩ : ∃ v, ((decide ((IntKind.i64.wrap ((IntKind.u64.wrap (IntKind.i64.wrap (a1 + a3))).fdiv (2 ^ (min (Int.toNat 1) IntKind.u64.bits)))) < (IntKind.i64.wrap ((IntKind.i64.wrap ((IntKind.i64.wrap ((IntKind.u64.wrap (IntKind.i64.wrap (a1 + a3))).fdiv (2 ^ (min (Int.toNat 1) IntKind.u64.bits)))) + a2)) - x415)))) && (decide ((IntKind.i64.wrap ((IntKind.i64.wrap ((IntKind.i64.wrap ((IntKind.u64.wrap (IntKind.i64.wrap (a1 + a3))).fdiv (2 ^ (min (Int.toNat 1) IntKind.u64.bits)))) + a2)) - x415)) < a3))) = v := ⟨_, rfl⟩
  have hS := ltS hb570 hS
  refine RL.join 4 213 (.bool b569) (fun w' => Ch nb w561 w') ?_ ?_
  · rcases Bool.eq_false_or_eq_true (decide ((IntKind.i64.wrap ((IntKind.u64.wrap (IntKind.i64.wrap (a1 + a3))).fdiv (2 ^ (min (Int.toNat 1) IntKind.u64.bits)))) < (IntKind.i64.wrap ((IntKind.i64.wrap ((IntKind.i64.wrap ((IntKind.u64.wrap (IntKind.i64.wrap (a1 + a3))).fdiv (2 ^ (min (Int.toNat 1) IntKind.u64.bits)))) + a2)) - x415)))) with hg568 | hg568
    ·
     have hs567 := and_t hg568 hb570
     have cs : Ch nb w561 w561 := Ch.refl
     refine RL.yes rfl rfl rfl hg568 ?_
     refine rl_move rfl rfl ?_
     refine RL.yes rfl rfl rfl hg568 ?_
     refine rl_move rfl rfl ?_
     refine RL.yes rfl rfl rfl hg568 ?_
     refine rl_bin rfl rfl B.lss rfl ?_
     refine rl_pickT rfl hg568 rfl rfl ?_
     exact RL.nil ⟨Ext.bothEq (congrArg Value.bool hs567) (Ext.skip rfl (Ext.skip rfl (Ext.skip rfl (Ext.rfl')))), cs⟩
    ·
     have hs567 := and_f hg568 hb570
     have cs : Ch nb w561 w561 := Ch.refl
     refine RL.no rfl rfl rfl hg568 rfl rfl ?_
     refine RL.no rfl rfl rfl hg568 rfl rfl ?_
     refine RL.no rfl rfl rfl hg568 rfl rfl ?_
     refine rl_pickF rfl hg568 rfl rfl ?_
     exact RL.nil ⟨Ext.bothEq (congrArg Value.bool hs567) (Ext.skip rfl (Ext.skip rfl (Ext.skip rfl (Ext.rfl')))), cs⟩
  intro w571 c572
  have ah4 := Kd.ch ah4 c572
  have h565 := h565.ch0 c572
  have c482 := c482.then0 c572
  refine RL.nil (thn_n ?_)
  refine CW.cond (t := b569) rfl (fun q573 => ?_) (fun q573 => ?_)
  ·
   have hS := ifT q573 hS
   refine CW.region ?_
   refine rl_move rfl rfl ?_
   refine rl_move rfl rfl ?_
   refine rl_move rfl rfl ?_
   refine rl_move rfl rfl ?_
   refine rl_move rfl rfl ?_
   have hd574 : ∀ b, (inBlk av0) b → ¬ S2 b := fun b h => (fun b hb => linNot lin0_0 hd2 h2 b hb) b h
   have hS575 : (un (inBlk av0) S2) = (un (inBlk av0) S2) := rfl
   have ha576 := ah4
   rw [hS575] at ha576
   obtain ⟨y579, hy580, hS⟩ := bindS hS
   refine rl_callF rfl en51 rfl (ih F w571 Bb S2 (Nat.le_trans hB c482.size) (fun b h => Nat.lt_of_lt_of_le (h2 b h) c482.size) av0 hd574  y563 (hS575 ▸ h565) (IntKind.i64.wrap ((IntKind.u64.wrap (IntKind.i64.wrap (a1 + a3))).fdiv (2 ^ (min (Int.toNat 1) IntKind.u64.bits)))) (IntKind.i64.wrap ((IntKind.i64.wrap ((IntKind.i64.wrap ((IntKind.u64.wrap (IntKind.i64.wrap (a1 + a3))).fdiv (2 ^ (min (Int.toNat 1) IntKind.u64.bits)))) + a2)) - x415)) a3 a4 av4 ha576 y579 hy580) ?_
   rintro _ w577 ⟨rfl, h581, c578⟩
   rw [← hS575] at h581
   have c482 := c482.then c578 (fun i hi h => (lin0_0 i h).elim (fun x => x) (fun x => absurd x (Nat.not_le_of_lt hi)))
   refine RL.nil ?_
   obtain rfl := Option.some.inj hS
   exact ⟨[], trivial, ⟨rfl, h581, c482⟩⟩
  have hS := ifF q573 hS
  refine CW.skip ?_
  obtain rfl := Option.some.inj hS
  exact ⟨[], trivial, ⟨rfl, h565, c482⟩⟩
 have hS := ifF q557 hS
 refine CW.skip ?_
 refine thn_n (CW.seq (CW.region ?_))
 refine rl_move rfl rfl ?_
 refine rl_move rfl rfl ?_
 refine rl_bin rfl rfl B.lss rfl ?_
 refine rl_move rfl rfl ?_
 obtain ⟨b585, hb586⟩ : ∃ v, ((decide ((IntKind.i64.wrap ((IntKind.u64.wrap (IntKind.i64.wrap (a1 + a3))).fdiv (2 ^ (min (Int.toNat 1) IntKind.u64.bits)))) < (IntKind.i64.wrap ((IntKind.i64.wrap ((IntKind.i64.wrap ((IntKind.u64.wrap (IntKind.i64.wrap (a1 + a3))).fdiv (2 ^ (min (Int.toNat 1) IntKind.u64.bits)))) + a2)) - x415)))) && (decide ((IntKind.i64.wrap ((IntKind.i64.wrap ((IntKind.i64.wrap ((IntKind.u64.wrap (IntKind.i64.wrap (a1 + a3))).fdiv (2 ^ (min (Int.toNat 1) IntKind.u64.bits)))) + a2)) - x415)) < a3))) = v := ⟨_, rfl⟩
 have hS := ltS hb586 hS
 refine RL.join 4 213 (.bool b585) (fun w' => Ch nb w555 w') ?_ ?_
 · rcases Bool.eq_false_or_eq_true (decide ((IntKind.i64.wrap ((IntKind.u64.wrap (IntKind.i64.wrap (a1 + a3))).fdiv (2 ^ (min (Int.toNat 1) IntKind.u64.bits)))) < (IntKind.i64.wrap ((IntKind.i64.wrap ((IntKind.i64.wrap ((IntKind.u64.wrap (IntKind.i64.wrap (a1 + a3))).fdiv (2 ^ (min (Int.toNat 1) IntKind.u64.bits)))) + a2)) - x415)))) with hg584 | hg584
   ·
    have hs583 := and_t hg584 hb586
    have cs : Ch nb w555 w555 := Ch.refl
    refine RL.yes rfl rfl rfl hg584 ?_
    refine rl_move rfl rfl ?_
    refine RL.yes rfl rfl rfl hg584 ?_
    refine rl_move rfl rfl ?_
    refine RL.yes rfl rfl rfl hg584 ?_
    refine rl_bin rfl rfl B.lss rfl ?_
    refine rl_pickT rfl hg584 rfl rfl ?_
    exact RL.nil ⟨Ext.bothEq (congrArg Value.bool hs583) (Ext.skip rfl (Ext.skip rfl (Ext.skip rfl (Ext.rfl')))), cs⟩
   ·
    have hs583 := and_f hg584 hb586
    have cs : Ch nb w555 w555 := Ch.refl
    refine RL.no rfl rfl rfl hg584 rfl rfl ?_
    refine RL.no rfl rfl rfl hg584 rfl rfl ?_
    refine RL.no rfl rfl rfl hg584 rfl rfl ?_
    refine rl_pickF rfl hg584 rfl rfl ?_
    exact RL.nil ⟨Ext.bothEq (congrArg Value.bool hs583) (Ext.skip rfl (Ext.skip rfl (Ext.skip rfl (Ext.rfl')))), cs⟩
 intro w587 c588
 have ah0 := ah0.ch0 c588
 have ah4 := Kd.ch ah4 c588
 have c482 := c482.then0 c588
 refine RL.nil (thn_n ?_)
 refine CW.cond (t := b585) rfl (fun q589 => ?_) (fun q589 => ?_)
 ·
  have hS := ifT q589 hS
  refine CW.region ?_
  refine rl_move rfl rfl ?_
  refine rl_move rfl rfl ?_
  refine rl_move rfl rfl ?_
  refine rl_move rfl rfl ?_
  refine rl_move rfl rfl ?_
  have hd590 : ∀ b, (inBlk av0) b → ¬ S2 b := fun b h => (fun b hb => linNot lin0_0 hd2 h2 b hb) b h
  have hS591 : (un (inBlk av0) S2) = (un (inBlk av0) S2) := rfl
  have ha592 := ah4
  rw [hS591] at ha592
  obtain ⟨y595, hy596, hS⟩ := bindS hS
  refine rl_callF rfl en51 rfl (ih F w587 Bb S2 (Nat.le_trans hB c482.size) (fun b h => Nat.lt_of_lt_of_le (h2 b h) c482.size) av0 hd590  a0 (hS591 ▸ ah0) (IntKind.i64.wrap ((IntKind.u64.wrap (IntKind.i64.wrap (a1 + a3))).fdiv (2 ^ (min (Int.toNat 1) IntKind.u64.bits)))) (IntKind.i64.wrap ((IntKind.i64.wrap ((IntKind.i64.wrap ((IntKind.u64.wrap (IntKind.i64.wrap (a1 + a3))).fdiv (2 ^ (min (Int.toNat 1) IntKind.u64.bits)))) + a2)) - x415)) a3 a4 av4 ha592 y595 hy596) ?_
  rintro _ w593 ⟨rfl, h597, c594⟩
  rw [← hS591] at h597
  have c482 := c482.then c594 (fun i hi h => (lin0_0 i h).elim (fun x => x) (fun x => absurd x (Nat.not_le_of_lt hi)))
  refine RL.nil ?_
  obtain rfl := Option.some.inj hS
  exact ⟨[], trivial, ⟨rfl, h597, c482⟩⟩
 have hS := ifF q589 hS
 refine CW.skip ?_
 obtain rfl := Option.some.inj hS
 exact ⟨[], trivial, ⟨rfl, ah0, c482⟩⟩
theorem ctr51_at : ∀ (f : Nat), ∀ (F : Nat → Prop) (w : World) (Bb : Nat) (S2 : Nat → Prop) (hB : Bb ≤ w.heap.size) (h2 : ∀ b, S2 b → b < w.heap.size) (av0 : Value) (hd2 : ∀ b, (inBlk av0) b → ¬ S2 b) (a0 : (List Service)) (ah0 : SlO k_Service 51 F Bb (un (inBlk av0) S2) w a0 av0) (a1 : Int) (a2 : Int) (a3 : Int) (a4 : (Service → Service → Int)) (av4 : Value) (ah4 : (Kd.fn2 Tryd.prog true true k_Service k_Service (Value.int .i64)).rep (G F Bb (un (inBlk av0) S2)) w a4 [av4]) (r : (List Service)) (hs : F51_Service_at f a0 a1 a2 a3 a4 = some r), Ret Tryd.prog 51 #[av0, (Value.int .i64 a1), (Value.int .i64 a2), (Value.int .i64 a3), av4] w fun v w' => v = Value.tuple #[] ∧ SlO k_Service 51 F Bb (un (inBlk av0) S2) w' r av0 ∧ Ch (inBlk av0) w w'
  | 0 => fun F w Bb S2 hB h2 av0 hd2 a0 ah0 a1 a2 a3 a4 av4 ah4 r hs => by simp [F51_Service_at] at hs
  | f + 1 => fun F w Bb S2 hB h2 av0 hd2 a0 ah0 a1 a2 a3 a4 av4 ah4 r hs => ctr51_step (F51_Service_at f) (ctr51_at f) F w Bb S2 hB h2 av0 hd2 a0 ah0 a1 a2 a3 a4 av4 ah4 r hs
theorem ctr51 (F : Nat → Prop) (w : World) (Bb : Nat) (S2 : Nat → Prop) (hB : Bb ≤ w.heap.size) (h2 : ∀ b, S2 b → b < w.heap.size) (av0 : Value) (hd2 : ∀ b, (inBlk av0) b → ¬ S2 b) (a0 : (List Service)) (ah0 : SlO k_Service 51 F Bb (un (inBlk av0) S2) w a0 av0) (a1 : Int) (a2 : Int) (a3 : Int) (a4 : (Service → Service → Int)) (av4 : Value) (ah4 : (Kd.fn2 Tryd.prog true true k_Service k_Service (Value.int .i64)).rep (G F Bb (un (inBlk av0) S2)) w a4 [av4]) (r : (List Service)) (hs : F51_Service a0 a1 a2 a3 a4 = some r) : Ret Tryd.prog 51 #[av0, (Value.int .i64 a1), (Value.int .i64 a2), (Value.int .i64 a3), av4] w fun v w' => v = Value.tuple #[] ∧ SlO k_Service 51 F Bb (un (inBlk av0) S2) w' r av0 ∧ Ch (inBlk av0) w w' := ctr51_at 64 F w Bb S2 hB h2 av0 hd2 a0 ah0 a1 a2 a3 a4 av4 ah4 r hs
theorem ctr41 (F : Nat → Prop) (w : World) (Bb : Nat) (S2 : Nat → Prop) (hB : Bb ≤ w.heap.size) (h2 : ∀ b, S2 b → b < w.heap.size) (av0 : Value) (hd2 : ∀ b, (inBlk av0) b → ¬ S2 b) (a0 : (List Service)) (ah0 : SlO k_Service 51 F Bb (un (inBlk av0) S2) w a0 av0) (a1 : Int) (a2 : (Service → Service → Int)) (av2 : Value) (ah2 : (Kd.fn2 Tryd.prog true true k_Service k_Service (Value.int .i64)).rep (G F Bb (un (inBlk av0) S2)) w a2 [av2]) (r : (List Service)) (hs : F41_Service a0 a1 a2 = some r) :
    Ret Tryd.prog 41 #[av0, (Value.int .i64 a1), av2] w fun v w' => v = Value.tuple #[] ∧ SlO k_Service 51 F Bb (un (inBlk av0) S2) w' r av0 ∧ Ch (inBlk av0) w w' := by
 have hS := hs
 have c0 : Ch (inBlk av0) w w := Ch.refl
 have lin0_0 : ∀ b, inBlk av0 b → (inBlk av0) b ∨ w.heap.size ≤ b := fun b h => .inl h
 refine Ret.of (n := 63) (args := [_, _, _]) (rs := []) Tryd.func41 rfl rfl rfl rfl ?_
 refine CW.seq (CW.region ?_)
 refine rl_assign rfl rfl ?_
 refine RL.nil (thn_n (CW.seq (CW.region ?_)))
 refine rl_move rfl rfl ?_
 refine rl_assign rfl rfl ?_
 refine rl_assign rfl rfl ?_
 refine RL.nil (thn_n (CW.seq ?_))
 obtain ⟨o12, ho13, hS⟩ := bindS hS
 refine CW.cutB (fun E' w' => ∃ (x1 : Int) (x2 : Int) (x3 : (List Service)), Sub [(0, av0), (1, (Value.int .i64 a1)), (2, av2), (6, (Value.int .i64 20)), (7, (Value.int .i64 x1))] E' ∧ Ch (inBlk av0) w w' ∧ Lp.fin (x1, x2, x3) = o12 ∧ (Kd.fn2 Tryd.prog true true k_Service k_Service (Value.int .i64)).rep (G F Bb (un (inBlk av0) S2)) w' a2 [av2] ∧ SlO k_Service 51 F Bb (un (inBlk av0) S2) w' x3 av0) ?_ ?_
 ·
  refine CW.loopS [(0, av0), (1, (Value.int .i64 a1)), (2, av2), (6, (Value.int .i64 20)), (7, (Value.int .i64 0)), (8, (Value.int .i64 20))] ⟨rfl, rfl, rfl, rfl, rfl, rfl, trivial⟩ FUEL (fun m E w' => ∃ (x1 : Int) (x2 : Int) (x3 : (List Service)), E = [(0, av0), (1, (Value.int .i64 a1)), (2, av2), (6, (Value.int .i64 20)), (7, (Value.int .i64 x1)), (8, (Value.int .i64 x2))] ∧ Ch (inBlk av0) w w' ∧ runW (F41_Service_b1 a1 a2) m (x1, x2, x3) = some o12 ∧ (Kd.fn2 Tryd.prog true true k_Service k_Service (Value.int .i64)).rep (G F Bb (un (inBlk av0) S2)) w' a2 [av2] ∧ SlO k_Service 51 F Bb (un (inBlk av0) S2) w' x3 av0)
      ⟨0, 20, a0, rfl, c0, ho13, ah2, ah0⟩ ?_
  rintro _ _ w18 ⟨x1, x2, x3, rfl, c17, hL7, ah2, h4⟩
  obtain ⟨k16, q9, rfl, hq10⟩ := runW_some hL7
  have hb11 := hq10
  refine CW.seq ?_
  refine CW.seq (CW.region ?_)
  refine rl_move rfl rfl ?_
  refine rl_move rfl rfl ?_
  refine rl_bin rfl rfl B.leq rfl ?_
  refine RL.nil (thn_n ?_)
  refine CW.cond (t := decide (x2 ≤ a1)) rfl (fun q20 => ?_) (fun q20 => ?_)
  ·
   have hb11 := ifT q20 hb11
   refine CW.skip ?_
   refine thn_n (CW.block ?_)
   refine CW.seq (CW.region ?_)
   refine rl_move rfl rfl ?_
   refine rl_move rfl rfl ?_
   refine rl_move rfl rfl ?_
   refine rl_move rfl rfl ?_
   have hd21 : ∀ b, (inBlk av0) b → ¬ S2 b := fun b h => (fun b hb => linNot lin0_0 hd2 h2 b hb) b h
   have hS22 : (un (inBlk av0) S2) = (un (inBlk av0) S2) := rfl
   have ha23 := ah2
   rw [hS22] at ha23
   obtain ⟨y26, hy27, hb11⟩ := bindS hb11
   refine rl_callF rfl en50 rfl (ctr50 F w18 Bb S2 (Nat.le_trans hB c17.size) (fun b h => Nat.lt_of_lt_of_le (h2 b h) c17.size) av0 hd21  x3 (hS22 ▸ h4) x1 x2 a2 av2 ha23 y26 hy27) ?_
   rintro _ w24 ⟨rfl, h28, c25⟩
   rw [← hS22] at h28
   have ad29 : ∀ b, b < w18.heap.size → ¬ (un (inBlk av0) S2) b → ¬ (inBlk av0) b ∧ ¬ (un (inBlk av0) S2) b := fun b _ hs => ⟨fun h => hs (.inl h), hs⟩
   have ah2 := Kd.st ah2 c25 ad29
   have c17 := c17.then c25 (fun i hi h => (lin0_0 i h).elim (fun x => x) (fun x => absurd x (Nat.not_le_of_lt hi)))
   refine RL.nil (thn_n (CW.seq (CW.region ?_)))
   refine rl_move rfl rfl ?_
   refine rl_assign rfl rfl ?_
   refine RL.nil (thn_n (CW.region ?_))
   refine rl_move rfl rfl ?_
   refine rl_move rfl rfl ?_
   refine rl_bin rfl rfl B.add rfl ?_
   refine rl_assign rfl rfl ?_
   refine RL.nil ?_
   refine inB_n ?_
   refine thn_n ?_
   have hLn := runW_next hL7 hq10 hb11
   exact ⟨k16, Nat.lt_succ_self _, [(0, av0), (1, (Value.int .i64 a1)), (2, av2), (6, (Value.int .i64 20)), (7, (Value.int .i64 x2)), (8, (Value.int .i64 (IntKind.i64.wrap (x2 + 20))))], ⟨rfl, rfl, rfl, rfl, rfl, rfl, trivial⟩, ⟨x2, IntKind.i64.wrap (x2 + 20), y26, rfl, c17, hLn, ah2, h28⟩⟩
  have hb11 := ifF q20 hb11
  refine CW.exit ?_
  refine thn_exit ?_
  refine thn_exit ?_
  refine inB_hit ?_
  have hLf := runW_fin hL7 hq10 hb11
  exact ⟨x1, x2, x3, ⟨rfl, rfl, rfl, rfl, rfl, trivial⟩, c17, hLf, ah2, h4⟩
 rintro _ w31 ⟨x1, x2, x3, hE32, c30, f33, ah2, h4⟩
 have hS := finS f33 hS
 refine thn_n (CW.sub [(0, av0), (1, (Value.int .i64 a1)), (2, av2), (6, (Value.int .i64 20)), (7, (Value.int .i64 x1))] hE32 ?_)
 refine CW.seq (CW.region ?_)
 refine rl_move rfl rfl ?_
 refine rl_move rfl rfl ?_
 refine rl_move rfl rfl ?_
 refine rl_move rfl rfl ?_
 have hd35 : ∀ b, (inBlk av0) b → ¬ S2 b := fun b h => (fun b hb => linNot lin0_0 hd2 h2 b hb) b h
 have hS36 : (un (inBlk av0) S2) = (un (inBlk av0) S2) := rfl
 have ha37 := ah2
 rw [hS36] at ha37
 obtain ⟨y40, hy41, hS⟩ := bindS hS
 refine rl_callF rfl en50 rfl (ctr50 F w31 Bb S2 (Nat.le_trans hB c30.size) (fun b h => Nat.lt_of_lt_of_le (h2 b h) c30.size) av0 hd35  x3 (hS36 ▸ h4) x1 a1 a2 av2 ha37 y40 hy41) ?_
 rintro _ w38 ⟨rfl, h42, c39⟩
 rw [← hS36] at h42
 have ad43 : ∀ b, b < w31.heap.size → ¬ (un (inBlk av0) S2) b → ¬ (inBlk av0) b ∧ ¬ (un (inBlk av0) S2) b := fun b _ hs => ⟨fun h => hs (.inl h), hs⟩
 have ah2 := Kd.st ah2 c39 ad43
 have c30 := c30.then c39 (fun i hi h => (lin0_0 i h).elim (fun x => x) (fun x => absurd x (Nat.not_le_of_lt hi)))
 refine RL.nil (thn_n ?_)
 obtain ⟨o54, ho55, hS⟩ := bindS hS
 refine CW.cutB (fun E' w' => ∃ (x44 : Int) (x45 : (List Service)), Sub [] E' ∧ Ch (inBlk av0) w w' ∧ Lp.fin (x44, x45) = o54 ∧ (Kd.fn2 Tryd.prog true true k_Service k_Service (Value.int .i64)).rep (G F Bb (un (inBlk av0) S2)) w' a2 [av2] ∧ SlO k_Service 51 F Bb (un (inBlk av0) S2) w' x45 av0) ?_ ?_
 ·
  refine CW.loopS [(0, av0), (1, (Value.int .i64 a1)), (2, av2), (6, (Value.int .i64 20))] ⟨rfl, rfl, rfl, rfl, trivial⟩ FUEL (fun m E w' => ∃ (x44 : Int) (x45 : (List Service)), E = [(0, av0), (1, (Value.int .i64 a1)), (2, av2), (6, (Value.int .i64 x44))] ∧ Ch (inBlk av0) w w' ∧ runW (F41_Service_b2 a1 a2) m (x44, x45) = some o54 ∧ (Kd.fn2 Tryd.prog true true k_Service k_Service (Value.int .i64)).rep (G F Bb (un (inBlk av0) S2)) w' a2 [av2] ∧ SlO k_Service 51 F Bb (un (inBlk av0) S2) w' x45 av0)
      ⟨20, y40, rfl, c30, ho55, ah2, h42⟩ ?_
  rintro _ _ w60 ⟨x44, x45, rfl, c59, hL49, ah2, h46⟩
  obtain ⟨k58, q51, rfl, hq52⟩ := runW_some hL49
  have hb53 := hq52
  refine CW.seq ?_
  refine CW.seq (CW.region ?_)
  refine rl_move rfl rfl ?_
  refine rl_move rfl rfl ?_
  refine rl_bin rfl rfl B.lss rfl ?_
  refine RL.nil (thn_n ?_)
  refine CW.cond (t := decide (x44 < a1)) rfl (fun q62 => ?_) (fun q62 => ?_)
  ·
   have hb53 := ifT q62 hb53
   refine CW.skip ?_
   refine thn_n (CW.block ?_)
   refine CW.seq (CW.region ?_)
   refine rl_move rfl rfl ?_
   refine rl_bin rfl rfl B.mul rfl ?_
   refine rl_assign rfl rfl ?_
   refine rl_assign rfl rfl ?_
   refine RL.nil (thn_n (CW.seq ?_))
   obtain ⟨o74, ho75, hb53⟩ := bindS hb53
   refine CW.cutB (fun E' w' => ∃ (x63 : Int) (x64 : Int) (x65 : (List Service)), Sub [(0, av0), (1, (Value.int .i64 a1)), (2, av2), (6, (Value.int .i64 x44)), (7, (Value.int .i64 x63))] E' ∧ Ch (inBlk av0) w w' ∧ Lp.fin (x63, x64, x65) = o74 ∧ (Kd.fn2 Tryd.prog true true k_Service k_Service (Value.int .i64)).rep (G F Bb (un (inBlk av0) S2)) w' a2 [av2] ∧ SlO k_Service 51 F Bb (un (inBlk av0) S2) w' x65 av0) ?_ ?_
   ·
    refine CW.loopS [(0, av0), (1, (Value.int .i64 a1)), (2, av2), (6, (Value.int .i64 x44)), (7, (Value.int .i64 0)), (8, (Value.int .i64 (IntKind.i64.wrap (2 * x44))))] ⟨rfl, rfl, rfl, rfl, rfl, rfl, trivial⟩ FUEL (fun m E w' => ∃ (x63 : Int) (x64 : Int) (x65 : (List Service)), E = [(0, av0), (1, (Value.int .i64 a1)), (2, av2), (6, (Value.int .i64 x44)), (7, (Value.int .i64 x63)), (8, (Value.int .i64 x64))] ∧ Ch (inBlk av0) w w' ∧ runW (F41_Service_b3 a1 a2 x44) m (x63, x64, x65) = some o74 ∧ (Kd.fn2 Tryd.prog true true k_Service k_Service (Value.int .i64)).rep (G F Bb (un (inBlk av0) S2)) w' a2 [av2] ∧ SlO k_Service 51 F Bb (un (inBlk av0) S2) w' x65 av0)
        ⟨0, IntKind.i64.wrap (2 * x44), x45, rfl, c59, ho75, ah2, h46⟩ ?_
    rintro _ _ w80 ⟨x63, x64, x65, rfl, c79, hL69, ah2, h66⟩
    obtain ⟨k78, q71, rfl, hq72⟩ := runW_some hL69
    have hb73 := hq72
    refine CW.seq ?_
    refine CW.seq (CW.region ?_)
    refine rl_move rfl rfl ?_
    refine rl_move rfl rfl ?_
    refine rl_bin rfl rfl B.leq rfl ?_
    refine RL.nil (thn_n ?_)
    refine CW.cond (t := decide (x64 ≤ a1)) rfl (fun q82 => ?_) (fun q82 => ?_)
    ·
     have hb73 := ifT q82 hb73
     refine CW.skip ?_
     refine thn_n (CW.block ?_)
     refine CW.seq (CW.region ?_)
     refine rl_move rfl rfl ?_
     refine rl_move rfl rfl ?_
     refine rl_move rfl rfl ?_
     refine rl_move rfl rfl ?_
     refine rl_bin rfl rfl B.add rfl ?_
     refine rl_move rfl rfl ?_
     refine rl_move rfl rfl ?_
     have hd83 : ∀ b, (inBlk av0) b → ¬ S2 b := fun b h => (fun b hb => linNot lin0_0 hd2 h2 b hb) b h
     have hS84 : (un (inBlk av0) S2) = (un (inBlk av0) S2) := rfl
     have ha85 := ah2
     rw [hS84] at ha85
     obtain ⟨y88, hy89, hb73⟩ := bindS hb73
     refine rl_callF rfl en51 rfl (ctr51 F w80 Bb S2 (Nat.le_trans hB c79.size) (fun b h => Nat.lt_of_lt_of_le (h2 b h) c79.size) av0 hd83  x65 (hS84 ▸ h66) x63 (IntKind.i64.wrap (x63 + x44)) x64 a2 av2 ha85 y88 hy89) ?_
     rintro _ w86 ⟨rfl, h90, c87⟩
     rw [← hS84] at h90
     have ad91 : ∀ b, b < w80.heap.size → ¬ (un (inBlk av0) S2) b → ¬ (inBlk av0) b ∧ ¬ (un (inBlk av0) S2) b := fun b _ hs => ⟨fun h => hs (.inl h), hs⟩
     have ah2 := Kd.st ah2 c87 ad91
     have c79 := c79.then c87 (fun i hi h => (lin0_0 i h).elim (fun x => x) (fun x => absurd x (Nat.not_le_of_lt hi)))
     refine RL.nil (thn_n (CW.seq (CW.region ?_)))
     refine rl_move rfl rfl ?_
     refine rl_assign rfl rfl ?_
     refine RL.nil (thn_n (CW.region ?_))
     refine rl_move rfl rfl ?_
     refine rl_move rfl rfl ?_
     refine rl_bin rfl rfl B.mul rfl ?_
     refine rl_bin rfl rfl B.add rfl ?_
     refine rl_assign rfl rfl ?_
     refine RL.nil ?_
     refine inB_n ?_
     refine thn_n ?_
     have hLn := runW_next hL69 hq72 hb73
     exact ⟨k78, Nat.lt_succ_self _, [(0, av0), (1, (Value.int .i64 a1)), (2, av2), (6, (Value.int .i64 x44)), (7, (Value.int .i64 x64)), (8, (Value.int .i64 (IntKind.i64.wrap (x64 + (IntKind.i64.wrap (2 * x44))))))], ⟨rfl, rfl, rfl, rfl, rfl, rfl, trivial⟩, ⟨x64, IntKind.i64.wrap (x64 + (IntKind.i64.wrap (2 * x44))), y88, rfl, c79, hLn, ah2, h90⟩⟩
    have hb73 := ifF q82 hb73
    refine CW.exit ?_
    refine thn_exit ?_
    refine thn_exit ?_
    refine inB_hit ?_
    have hLf := runW_fin hL69 hq72 hb73
    exact ⟨x63, x64, x65, ⟨rfl, rfl, rfl, rfl, rfl, trivial⟩, c79, hLf, ah2, h66⟩
   rintro _ w93 ⟨x63, x64, x65, hE94, c92, f95, ah2, h66⟩
   have hb53 := finS f95 hb53
   refine thn_n (CW.sub [(0, av0), (1, (Value.int .i64 a1)), (2, av2), (6, (Value.int .i64 x44)), (7, (Value.int .i64 x63))] hE94 ?_)
   refine CW.seq ?_
   refine CW.seq (CW.region ?_)
   refine rl_move rfl rfl ?_
   refine rl_move rfl rfl ?_
   refine rl_bin rfl rfl B.add rfl ?_
   refine rl_assign rfl rfl ?_
   refine RL.nil (thn_n (CW.seq (CW.region ?_)))
   refine rl_move rfl rfl ?_
   refine rl_move rfl rfl ?_
   refine rl_bin rfl rfl B.lss rfl ?_
   refine RL.nil (thn_n ?_)
   refine CW.cond (t := decide ((IntKind.i64.wrap (x63 + x44)) < a1)) rfl (fun q97 => ?_) (fun q97 => ?_)
   ·
    have hb53 := ifT q97 hb53
    refine CW.region ?_
    refine rl_move rfl rfl ?_
    refine rl_move rfl rfl ?_
    refine rl_move rfl rfl ?_
    refine rl_move rfl rfl ?_
    refine rl_move rfl rfl ?_
    have hd98 : ∀ b, (inBlk av0) b → ¬ S2 b := fun b h => (fun b hb => linNot lin0_0 hd2 h2 b hb) b h
    have hS99 : (un (inBlk av0) S2) = (un (inBlk av0) S2) := rfl
    have ha100 := ah2
    rw [hS99] at ha100
    obtain ⟨y103, hy104, hb53⟩ := bindS hb53
    refine rl_callF rfl en51 rfl (ctr51 F w93 Bb S2 (Nat.le_trans hB c92.size) (fun b h => Nat.lt_of_lt_of_le (h2 b h) c92.size) av0 hd98  x65 (hS99 ▸ h66) x63 (IntKind.i64.wrap (x63 + x44)) a1 a2 av2 ha100 y103 hy104) ?_
    rintro _ w101 ⟨rfl, h105, c102⟩
    rw [← hS99] at h105
    have ad106 : ∀ b, b < w93.heap.size → ¬ (un (inBlk av0) S2) b → ¬ (inBlk av0) b ∧ ¬ (un (inBlk av0) S2) b := fun b _ hs => ⟨fun h => hs (.inl h), hs⟩
    have ah2 := Kd.st ah2 c102 ad106
    have c92 := c92.then c102 (fun i hi h => (lin0_0 i h).elim (fun x => x) (fun x => absurd x (Nat.not_le_of_lt hi)))
    refine RL.nil (thn_n (CW.region ?_))
    refine rl_move rfl rfl ?_
    refine rl_bin rfl rfl B.mul rfl ?_
    refine rl_assign rfl rfl ?_
    refine RL.nil ?_
    refine inB_n ?_
    refine thn_n ?_
    have hLn := runW_next hL49 hq52 hb53
    exact ⟨k58, Nat.lt_succ_self _, [(0, av0), (1, (Value.int .i64 a1)), (2, av2), (6, (Value.int .i64 (IntKind.i64.wrap (x44 * 2))))], ⟨rfl, rfl, rfl, rfl, trivial⟩, ⟨IntKind.i64.wrap (x44 * 2), y103, rfl, c92, hLn, ah2, h105⟩⟩
   have hb53 := ifF q97 hb53
   refine CW.skip ?_
   refine thn_n (CW.region ?_)
   refine rl_move rfl rfl ?_
   refine rl_bin rfl rfl B.mul rfl ?_
   refine rl_assign rfl rfl ?_
   refine RL.nil ?_
   refine inB_n ?_
   refine thn_n ?_
   have hLn := runW_next hL49 hq52 hb53
   exact ⟨k58, Nat.lt_succ_self _, [(0, av0), (1, (Value.int .i64 a1)), (2, av2), (6, (Value.int .i64 (IntKind.i64.wrap (x44 * 2))))], ⟨rfl, rfl, rfl, rfl, trivial⟩, ⟨IntKind.i64.wrap (x44 * 2), x65, rfl, c92, hLn, ah2, h66⟩⟩
  have hb53 := ifF q62 hb53
  refine CW.exit ?_
  refine thn_exit ?_
  refine thn_exit ?_
  refine inB_hit ?_
  have hLf := runW_fin hL49 hq52 hb53
  exact ⟨x44, x45, trivial, c59, hLf, ah2, h46⟩
 rintro _ w108 ⟨x44, x45, hE109, c107, f110, ah2, h46⟩
 have hS := finS f110 hS
 obtain rfl := Option.some.inj hS
 exact ⟨[], trivial, ⟨rfl, h46, c107⟩⟩
theorem ctr31 (F : Nat → Prop) (w : World) (Bb : Nat) (S2 : Nat → Prop) (hB : Bb ≤ w.heap.size) (h2 : ∀ b, S2 b → b < w.heap.size) (av0 : Value) (hd2 : ∀ b, (inBlk av0) b → ¬ S2 b) (a0 : (List Service)) (ah0 : SlO k_Service 51 F Bb (un (inBlk av0) S2) w a0 av0) (a1 : (Service → Service → Int)) (av1 : Value) (ah1 : (Kd.fn2 Tryd.prog true true k_Service k_Service (Value.int .i64)).rep (G F Bb (un (inBlk av0) S2)) w a1 [av1]) (r : (List Service)) (hs : F31_Service a0 a1 = some r) :
    Ret Tryd.prog 31 #[av0, av1] w fun v w' => v = Value.tuple #[] ∧ SlO k_Service 51 F Bb (un (inBlk av0) S2) w' r av0 ∧ Ch (inBlk av0) w w' := by
 have hS := hs
 have c0 : Ch (inBlk av0) w w := Ch.refl
 have lin0_0 : ∀ b, inBlk av0 b → (inBlk av0) b ∨ w.heap.size ≤ b := fun b h => .inl h
 refine Ret.of (n := 9) (args := [_, _]) (rs := []) Tryd.func31 rfl rfl rfl rfl ?_
 refine CW.region ?_
 refine rl_move rfl rfl ?_
 refine rl_move rfl rfl ?_
 refine rl_lenR rfl (SlO.read (S' := S2) k_Service_pos ah0 (fun b hs h => hs ((.inr h))) (fun b hb => linNot lin0_0 hd2 h2 b hb)) Tryd.underlying48 rfl ?_
 refine rl_move rfl rfl ?_
 have hd1 : ∀ b, (inBlk av0) b → ¬ S2 b := fun b h => (fun b hb => linNot lin0_0 hd2 h2 b hb) b h
 have hS2 : (un (inBlk av0) S2) = (un (inBlk av0) S2) := rfl
 have ha3 := ah1
 rw [hS2] at ha3
 obtain ⟨y6, hy7, hS⟩ := bindS hS
 refine rl_callF rfl en41 rfl (ctr41 F w Bb S2 (Nat.le_trans hB c0.size) (fun b h => Nat.lt_of_lt_of_le (h2 b h) c0.size) av0 hd1  a0 (hS2 ▸ ah0) ((a0.length : Nat) : Int) a1 av1 ha3 y6 hy7) ?_
 rintro _ w4 ⟨rfl, h8, c5⟩
 rw [← hS2] at h8
 have c0 := c0.then c5 (fun i hi h => (lin0_0 i h).elim (fun x => x) (fun x => absurd x (Nat.not_le_of_lt hi)))
 refine RL.nil ?_
 obtain rfl := Option.some.inj hS
 exact ⟨[], trivial, ⟨rfl, h8, c0⟩⟩
theorem ctr42 (F : Nat → Prop) (w : World) (a0 : Int) (r : Bool) (hs : F42_int a0 = r) :
    Ret Tryd.prog 42 #[(Value.int .i64 a0)] w fun v w' => v = (Value.bool r) ∧ Ch nb w w' := by
 have hS := hs
 have c0 : Ch nb w w := Ch.refl
 refine Ret.of (n := 6) (args := [_]) (rs := [.tmp 2]) Tryd.func42 rfl rfl rfl rfl ?_
 refine CW.seq (CW.region ?_)
 refine rl_assign rfl rfl ?_
 refine RL.nil (thn_n (CW.seq (CW.region ?_)))
 refine rl_move rfl rfl ?_
 refine rl_move rfl rfl ?_
 refine rl_bin rfl rfl B.neq rfl ?_
 refine rl_assign rfl rfl ?_
 refine RL.nil (thn_n (CW.ret ?_))
 obtain rfl := hS
 exact ret1 rfl ⟨rfl, c0⟩
theorem ctr33 (F : Nat → Prop) (w : World) (a0 : Int) (a1 : Int) (r : Int) (hs : F33_int a0 a1 = r) :
    Ret Tryd.prog 33 #[(Value.int .i64 a0), (Value.int .i64 a1)] w fun v w' => v = (Value.int .i64 r) ∧ Ch nb w w' := by
 have hS := hs
 have c0 : Ch nb w w := Ch.refl
 refine Ret.of (n := 20) (args := [_, _]) (rs := [.tmp 4]) Tryd.func33 rfl rfl rfl rfl ?_
 refine CW.seq (CW.region ?_)
 refine rl_assign rfl rfl ?_
 refine RL.nil (thn_n (CW.seq (CW.region ?_)))
 refine rl_move rfl rfl ?_
 obtain ⟨y3, hy4⟩ : ∃ y, F42_int a0 = y := ⟨_, rfl⟩
 have hS := ltS hy4 hS
 refine rl_callF rfl en42 rfl (ctr42 (G F w.heap.size nb) w a0 y3 hy4) ?_
 rintro _ w1 ⟨rfl, c2⟩
 have c0 := c0.then0 c2
 refine rl_assign rfl rfl ?_
 refine RL.nil (thn_n (CW.seq (CW.region ?_)))
 refine rl_move rfl rfl ?_
 obtain ⟨y7, hy8⟩ : ∃ y, F42_int a1 = y := ⟨_, rfl⟩
 have hS := ltS hy8 hS
 refine rl_callF rfl en42 rfl (ctr42 (G F w.heap.size nb) w1 a1 y7 hy8) ?_
 rintro _ w5 ⟨rfl, c6⟩
 have c0 := c0.then0 c6
 refine rl_assign rfl rfl ?_
 refine RL.nil (thn_n (CW.seq ?_))
 refine CW.seq (CW.region ?_)
 refine rl_move rfl rfl ?_
 refine RL.nil (thn_n ?_)
 refine CW.cond (t := y3) rfl (fun q9 => ?_) (fun q9 => ?_)
 ·
  have hS := ifT q9 hS
  refine CW.seq ?_
  refine CW.seq (CW.region ?_)
  refine rl_move rfl rfl ?_
  refine RL.nil (thn_n ?_)
  refine CW.cond (t := y7) rfl (fun q10 => ?_) (fun q10 => ?_)
  ·
   have hS := ifT q10 hS
   refine CW.seq (CW.region ?_)
   refine rl_assign rfl rfl ?_
   refine RL.nil (thn_n (CW.ret ?_))
   refine thn_ret ?_
   refine thn_ret ?_
   obtain rfl := hS
   exact ret1 rfl ⟨rfl, c0⟩
  have hS := ifF q10 hS
  refine CW.skip ?_
  refine thn_n (CW.seq (CW.region ?_))
  refine rl_assign rfl rfl ?_
  refine RL.nil (thn_n (CW.ret ?_))
  refine thn_ret ?_
  obtain rfl := hS
  exact ret1 rfl ⟨rfl, c0⟩
 have hS := ifF q9 hS
 refine CW.skip ?_
 refine thn_n (CW.seq ?_)
 refine CW.seq (CW.region ?_)
 refine rl_move rfl rfl ?_
 refine RL.nil (thn_n ?_)
 refine CW.cond (t := y7) rfl (fun q11 => ?_) (fun q11 => ?_)
 ·
  have hS := ifT q11 hS
  refine CW.seq (CW.region ?_)
  refine rl_assign rfl rfl ?_
  refine RL.nil (thn_n (CW.ret ?_))
  refine thn_ret ?_
  obtain rfl := hS
  exact ret1 rfl ⟨rfl, c0⟩
 have hS := ifF q11 hS
 refine CW.skip ?_
 refine thn_n (CW.seq ?_)
 refine CW.seq (CW.region ?_)
 refine rl_move rfl rfl ?_
 refine rl_move rfl rfl ?_
 refine rl_bin rfl rfl B.lss rfl ?_
 refine RL.nil (thn_n ?_)
 refine CW.cond (t := decide (a0 < a1)) rfl (fun q12 => ?_) (fun q12 => ?_)
 ·
  have hS := ifT q12 hS
  refine CW.seq (CW.region ?_)
  refine rl_assign rfl rfl ?_
  refine RL.nil (thn_n (CW.ret ?_))
  refine thn_ret ?_
  obtain rfl := hS
  exact ret1 rfl ⟨rfl, c0⟩
 have hS := ifF q12 hS
 refine CW.skip ?_
 refine thn_n (CW.seq ?_)
 refine CW.seq (CW.region ?_)
 refine rl_move rfl rfl ?_
 refine rl_move rfl rfl ?_
 refine rl_bin rfl rfl B.gtr rfl ?_
 refine RL.nil (thn_n ?_)
 refine CW.cond (t := decide (a0 > a1)) rfl (fun q13 => ?_) (fun q13 => ?_)
 ·
  have hS := ifT q13 hS
  refine CW.seq (CW.region ?_)
  refine rl_assign rfl rfl ?_
  refine RL.nil (thn_n (CW.ret ?_))
  refine thn_ret ?_
  obtain rfl := hS
  exact ret1 rfl ⟨rfl, c0⟩
 have hS := ifF q13 hS
 refine CW.skip ?_
 refine thn_n (CW.seq (CW.region ?_))
 refine rl_assign rfl rfl ?_
 refine RL.nil (thn_n (CW.ret ?_))
 obtain rfl := hS
 exact ret1 rfl ⟨rfl, c0⟩
theorem ctr32 (F : Nat → Prop) (w : World) (a0 : Service) (a1 : Service) (r : Int) (hs : F32_1 a0 a1 = r) :
    Ret Tryd.prog 32 #[(Value.agg (Service.enc a0).toArray), (Value.agg (Service.enc a1).toArray)] w fun v w' => v = (Value.int .i64 r) ∧ Ch nb w w' := by
 have hS := hs
 have c0 : Ch nb w w := Ch.refl
 refine Ret.of (n := 10) (args := [_, _]) (rs := [.tmp 4]) Tryd.func32 rfl rfl rfl rfl ?_
 refine CW.seq (CW.region ?_)
 refine rl_boxA (cs := (Service.enc a0)) rfl rfl ?_
 intro p1 w2 n3 k4
 have c0 := c0.then0 n3.ch
 refine rl_boxA (cs := (Service.enc a1)) rfl rfl ?_
 intro p5 w6 n7 k8
 have k4 := k4.ch0 n7.ch
 have c0 := c0.then0 n7.ch
 refine rl_assign rfl rfl ?_
 refine RL.nil (thn_n (CW.seq (CW.region ?_)))
 refine rl_fieldAddr rfl fa51_1 rfl ?_
 refine rl_loadS (v := (Value.int .i64 a1.begun)) rfl Tryd.isAgg3 (k8.cell rfl) rfl ?_
 refine rl_fieldAddr rfl fa51_1 rfl ?_
 refine rl_loadS (v := (Value.int .i64 a0.begun)) rfl Tryd.isAgg3 (k4.cell rfl) rfl ?_
 obtain ⟨y11, hy12⟩ : ∃ y, F33_int a1.begun a0.begun = y := ⟨_, rfl⟩
 have hS := ltS hy12 hS
 refine rl_callF rfl en33 rfl (ctr33 (G F w.heap.size nb) w6 a1.begun a0.begun y11 hy12) ?_
 rintro _ w9 ⟨rfl, c10⟩
 have c0 := c0.then0 c10
 refine rl_assign rfl rfl ?_
 refine RL.nil (thn_n (CW.ret ?_))
 obtain rfl := hS
 exact ret1 rfl ⟨rfl, c0⟩
theorem ctr12 (F : Nat → Prop) (w : World) (Bb : Nat) (S2 : Nat → Prop) (hB : Bb ≤ w.heap.size) (h2 : ∀ b, S2 b → b < w.heap.size) (po0 : Nat) (az0_0 : Value) (hd2 : ∀ b, (un (inBlk (PV po0)) (inBlk az0_0)) b → ¬ S2 b) (hx0_1 : ∀ b, inBlk (PV po0) b → ¬ inBlk az0_0 b) (a0 : Stats) (ah0 : Blk w po0 81 (Stats.c a0 az0_0)) (ah0_0 : Mp (fun x => Value.agg (Key.enc x).toArray) (fun x => Value.agg (Service.enc x).toArray) w a0.services az0_0) (a1 : Int) (r : (List Service)) (hs : F12_Top a0 a1 = some r) :
    Ret Tryd.prog 12 #[(PV po0), (Value.int .i64 a1)] w fun v w' => ∃ (y0 : Value), v = y0 ∧ SlO k_Service 51 (G F Bb (un (inBlk (PV po0)) (un (inBlk az0_0) S2))) w.heap.size (inBlk y0) w' r y0 ∧ Ch nb w w' := by
 have hS := hs
 have c0 : Ch nb w w := Ch.refl
 have lin0_0 : ∀ b, inBlk (PV po0) b → (un (inBlk (PV po0)) (inBlk az0_0)) b ∨ w.heap.size ≤ b := fun b h => .inl (.inl h)
 have lin1_0 : ∀ b, inBlk az0_0 b → (un (inBlk (PV po0)) (inBlk az0_0)) b ∨ w.heap.size ≤ b := fun b h => .inl (.inr h)
 refine Ret.of (n := 17) (args := [_, _]) (rs := [.tmp 4]) Tryd.func12 rfl rfl rfl rfl ?_
 refine CW.seq (CW.region ?_)
 refine rl_assign rfl rfl ?_
 refine RL.nil (thn_n (CW.seq (CW.region ?_)))
 refine rl_move rfl rfl ?_
 have hd1 : ∀ b, (un (inBlk (PV po0)) (inBlk az0_0)) b → ¬ S2 b := fun b h => un_el h (fun h => (fun b hb => linNot lin0_0 hd2 h2 b hb) b h) (fun h => (fun b hb => linNot lin1_0 hd2 h2 b hb) b h)
 have hS2 : (un (inBlk (PV po0)) (un (inBlk az0_0) S2)) = (un (inBlk (PV po0)) (un (inBlk az0_0) S2)) := rfl
 obtain ⟨y5, hy6, hS⟩ := bindS hS
 refine rl_callF rfl en11 rfl (ctr11 F w Bb S2 (Nat.le_trans hB c0.size) (fun b h => Nat.lt_of_lt_of_le (h2 b h) c0.size) po0 az0_0 hd1 hx0_1 a0 ah0 ah0_0 y5 hy6) ?_
 rintro v7 w3 ⟨_, rfl, h8, c4⟩
 rw [← hS2] at h8
 have hf9 : ∀ b, inBlk v7 b → w.heap.size ≤ b := fun b hb => (h8.lt b hb).1
 have h8 := SlO.back (S' := un (inBlk v7) (un (inBlk (PV po0)) (un (inBlk az0_0) S2))) h8 (un_lt ah0.ltp (un_lt ah0_0.ltp (fun b h => Nat.lt_of_lt_of_le (h2 b h) c0.size))) (Nat.le_trans hB c0.size) (fun _ => Or.comm)
 have lo10 : ∀ b, inBlk v7 b → w.heap.size ≤ b := fun b h => Nat.le_trans c0.size (hf9 b h)
 have d11 : ∀ b, inBlk v7 b → ¬ inBlk (PV po0) b := disNew hf9 ah0.ltp
 have d12 : ∀ b, inBlk v7 b → ¬ inBlk az0_0 b := disNew hf9 ah0_0.ltp
 have ah0 := ah0.ch0 c4
 have ah0_0 := ah0_0.ch0 c4
 have c0 := c0.then0 c4
 refine rl_assign rfl rfl ?_
 refine RL.nil (thn_n (CW.seq (CW.region ?_)))
 refine rl_move rfl rfl ?_
 have hd13 : ∀ b, (inBlk v7) b → ¬ (un (inBlk (PV po0)) (un (inBlk az0_0) S2)) b := fun b h => (fun b hb => fun h => un_el h (fun h => d11 b hb h) (fun h => un_el h (fun h => d12 b hb h) (linNot (fun b h => .inr (lo10 b h)) hd2 h2 b hb))) b h
 have hS14 : (un (inBlk v7) (un (inBlk (PV po0)) (un (inBlk az0_0) S2))) = (un (inBlk v7) (un (inBlk (PV po0)) (un (inBlk az0_0) S2))) := rfl
 have ha15 := (show (Kd.fn2 Tryd.prog true true k_Service k_Service (Value.int .i64)).rep (G F Bb (un (inBlk v7) (un (inBlk (PV po0)) (un (inBlk az0_0) S2)))) w3 (fun x0 x1 => F32_1 x0 x1) [(Value.func (.func 32) #[] [].toArray)] from ⟨32, [], rfl, en32, fun w' hw F' x0 x1 c0 c1 hx0 hx1 => by
     obtain rfl := hx0
     obtain rfl := hx1
     exact (ctr32 (fun b => (G F Bb (un (inBlk v7) (un (inBlk (PV po0)) (un (inBlk az0_0) S2)))) b ∨ F' b) w' x0 x1 _ rfl).mono (by rintro v w'' ⟨rfl, c⟩; exact ⟨rfl, c⟩)⟩)
 rw [hS14] at ha15
 obtain ⟨y18, hy19, hS⟩ := bindS hS
 refine rl_callF rfl en31 rfl (ctr31 F w3 Bb (un (inBlk (PV po0)) (un (inBlk az0_0) S2)) (Nat.le_trans hB c0.size) (un_lt ah0.ltp (un_lt ah0_0.ltp (fun b h => Nat.lt_of_lt_of_le (h2 b h) c0.size))) v7 hd13  y5 (hS14 ▸ h8) (fun x0 x1 => F32_1 x0 x1) (Value.func (.func 32) #[] [].toArray) ha15 y18 hy19) ?_
 rintro _ w16 ⟨rfl, h20, c17⟩
 rw [← hS14] at h20
 have c0 := c0.then c17 (fun i hi h => absurd (lo10 i h) (Nat.not_le_of_lt hi))
 refine RL.nil (thn_n (CW.seq (CW.region ?_)))
 refine rl_move rfl rfl ?_
 refine rl_move rfl rfl ?_
 refine rl_max rfl rfl rfl ?_
 refine rl_move rfl rfl ?_
 refine rl_lenR rfl (SlO.read (S' := (un (inBlk (PV po0)) (un (inBlk az0_0) S2))) k_Service_pos h20 (fun b hs h => hs (un_el h (fun h => (.inr (.inl h))) (fun h => un_el h (fun h => (.inr (.inr (.inl h)))) (fun h => (.inr (.inr (.inr h))))))) (fun b hb => fun h => un_el h (fun h => d11 b hb h) (fun h => un_el h (fun h => d12 b hb h) (linNot (fun b h => .inr (lo10 b h)) hd2 h2 b hb)))) Tryd.underlying48 rfl ?_
 refine rl_min rfl rfl rfl ?_
 obtain ⟨y22, hy23, hS⟩ := bindS hS
 refine rl_cutO (kl := .i64) (kh := .i64) none (some (if ((y18.length : Nat) : Int) < (if 0 > a1 then 0 else a1) then ((y18.length : Nat) : Int) else (if 0 > a1 then 0 else a1))) rfl h20 trivial rfl rfl hy23 Tryd.underlying48 Tryd.sizeOf51 rfl ?_
 intro v24 hb26 h25
 have hf27 : ∀ b, inBlk v24 b → inBlk v7 b ∨ w16.heap.size ≤ b := fun b h => .inl ((hb26 b).1 h)
 have lo28 : ∀ b, inBlk v24 b → w.heap.size ≤ b := fun b h => (hf27 b h).elim (lo10 b) (Nat.le_trans c0.size)
 have hS31 : (un (inBlk v7) (un (inBlk (PV po0)) (un (inBlk az0_0) S2))) = (un (inBlk v24) (un (inBlk (PV po0)) (un (inBlk az0_0) S2))) := by rw [show inBlk v24 = inBlk v7 from funext fun b => propext (hb26 b)]
 rw [hS31] at h25
 refine rl_assign rfl rfl ?_
 refine RL.nil (thn_n (CW.ret ?_))
 obtain rfl := Option.some.inj hS
 exact ret1 rfl ⟨v24, rfl, (SlO.outP (fun h => h) h25 lo28), c0⟩
end Go.Proofs.YtkfhcfkbaaekoaaDoor
