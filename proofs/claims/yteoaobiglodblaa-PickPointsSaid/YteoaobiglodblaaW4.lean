/- The walks through the code: each call comes to its printed function. Written by a program of this session. -/
import Derived.Test.YteoaobiglodblaaM
import Derived.Test.YteoaobiglodblaaL
import Derived.Test.YteoaobiglodblaaW3
namespace Go.Proofs.Yteoaobiglodblaa
open Go K
set_option linter.unusedVariables false
/-- lb/addr.Compare -/
theorem ctr67 (F : Nat → Prop) (w : World) (a0 : Addr) (a1 : Addr) (r : Int) (hs : F67_addr_Compare a0 a1 = r) :
    Ret Try.prog 67 #[(Value.agg (Addr.enc a0).toArray), (Value.agg (Addr.enc a1).toArray)] w fun v w' => v = (Value.int .i64 r) ∧ Ch nb w w' := by
  have hS := hs
  have c0 : Ch nb w w := Ch.refl
  refine Ret.of (n := 19) (args := [_, _]) (rs := [.tmp 4]) Try.func67 rfl rfl rfl rfl ?_
  refine CW.seq (CW.region ?_)
  refine rl_boxA (cs := (Addr.enc a0)) rfl rfl ?_
  intro p1 w2 n3 k4
  have gp1 : (G F w.heap.size nb) p1 := ⟨.inr (by rw [n3.eq]; exact c0.size), fun h => absurd (nbS _ h) (by rw [n3.eq]; exact Nat.lt_irrefl _)⟩
  have c0 := c0.then0 n3.ch
  refine rl_boxA (cs := (Addr.enc a1)) rfl rfl ?_
  intro p5 w6 n7 k8
  have gp5 : (G F w.heap.size nb) p5 := ⟨.inr (by rw [n7.eq]; exact c0.size), fun h => absurd (nbS _ h) (by rw [n7.eq]; exact Nat.lt_irrefl _)⟩
  have k4 := k4.ch0 n7.ch
  have c0 := c0.then0 n7.ch
  refine rl_assign rfl rfl ?_
  refine RL.nil ?_
  refine thn_n ?_
  refine CW.seq ?_
  refine CW.block ?_
  refine CW.seq (CW.region ?_)
  refine rl_fieldAddr rfl fa39_0 rfl ?_
  refine rl_loadS (v := (Value.bool a0.six)) rfl Try.isAgg4 (k4.cell rfl) rfl ?_
  refine rl_fieldAddr rfl fa39_0 rfl ?_
  refine rl_loadS (v := (Value.bool a1.six)) rfl Try.isAgg4 (k8.cell rfl) rfl ?_
  refine rl_bin rfl rfl (B.eqlB Try.underlying4) rfl ?_
  refine rl_assign rfl rfl ?_
  refine RL.nil ?_
  refine thn_n ?_
  refine CW.cond (t := (a0.six == a1.six)) rfl (fun q9 => ?_) (fun q9 => ?_)
  ·
   have hS := ifT q9 hS
   refine CW.seq ?_
   obtain ⟨y16, hy17⟩ : ∃ y, F81_bytes_Compare (A16u8.list a0.b) (A16u8.list a1.b) = y := ⟨_, rfl⟩
   have hS := ltS hy17 hS
   refine CW.draw 4 [(none, fun _ O uu wx => uu = (Value.pointer (some ⟨p1, 1, none⟩))), (none, fun _ O uu wx => ∃ (v10 : Value), uu = v10 ∧ slRep (kInt .u8) (G F w.heap.size nb) wx (A16u8.list a0.b) v10), (none, fun _ O uu wx => uu = (Value.pointer (some ⟨p5, 1, none⟩))), (none, fun _ O uu wx => ∃ (v12 : Value), uu = v12 ∧ slRep (kInt .u8) (G F w.heap.size nb) wx (A16u8.list a1.b) v12)] [[], [0], [], [2]] [1, 3] nb (fun _ h => h.elim) mixed rfl rfl rfl rfl ?_ ?_
   ·
    refine Each.consA ⟨fun _ _ _ _ _ _ h => h, fun h => absurd rfl h, fun O wk hO ck => ?_⟩ ?_
    ·
     have k4 := k4.ch0 ck
     have k8 := k8.ch0 ck
     have c0 := c0.then0 ck
     refine rl_fieldAddr rfl fa39_1 rfl ?_
     exact RL.nil ⟨_, rfl, Ch.refl, rfl⟩
    refine Each.consA ⟨fun _ _ _ _ _ cc hh => by obtain ⟨v10, e, h11⟩ := hh; exact ⟨v10, e, slRep.ch kInt_pos h11 cc⟩, fun h => absurd rfl h, fun O wk hO ck => ?_⟩ ?_
    ·
     have k4 := k4.ch0 ck
     have k8 := k8.ch0 ck
     have c0 := c0.then0 ck
     refine Need.one rfl rfl rfl ?_
     rintro _ e18
     obtain rfl := e18.symm
     refine rl_sliceArr (k := (kInt .u8)) (R := (G F w.heap.size nb)) (cs := A16u8.enc a0.b) (A16u8.list a0.b) (Value.int .u8) rfl Try.underlying37 rfl Try.sizeOf5 (k4.segAt 1 16) rfl rfl (fun _ => rfl) gp1 rfl rfl ?_
     intro v19 h20
     exact RL.nil ⟨_, rfl, Ch.refl, ⟨v19, rfl, h20⟩⟩
    refine Each.consA ⟨fun _ _ _ _ _ _ h => h, fun h => absurd rfl h, fun O wk hO ck => ?_⟩ ?_
    ·
     have k4 := k4.ch0 ck
     have k8 := k8.ch0 ck
     have c0 := c0.then0 ck
     refine rl_fieldAddr rfl fa39_1 rfl ?_
     exact RL.nil ⟨_, rfl, Ch.refl, rfl⟩
    refine Each.consA ⟨fun _ _ _ _ _ cc hh => by obtain ⟨v12, e, h13⟩ := hh; exact ⟨v12, e, slRep.ch kInt_pos h13 cc⟩, fun h => absurd rfl h, fun O wk hO ck => ?_⟩ ?_
    ·
     have k4 := k4.ch0 ck
     have k8 := k8.ch0 ck
     have c0 := c0.then0 ck
     refine Need.one rfl rfl rfl ?_
     rintro _ e21
     obtain rfl := e21.symm
     refine rl_sliceArr (k := (kInt .u8)) (R := (G F w.heap.size nb)) (cs := A16u8.enc a1.b) (A16u8.list a1.b) (Value.int .u8) rfl Try.underlying37 rfl Try.sizeOf5 (k8.segAt 1 16) rfl rfl (fun _ => rfl) gp5 rfl rfl ?_
     intro v22 h23
     exact RL.nil ⟨_, rfl, Ch.refl, ⟨v22, rfl, h23⟩⟩
    trivial
   ·
    intro hvO26 OpO26 O26 w24 hO27 c25 hN28
    have k4 := k4.ch0 c25
    have k8 := k8.ch0 c25
    have c0 := c0.then0 c25
    refine Need.one rfl rfl rfl ?_
    rintro _ ⟨v10, e29, h11⟩
    obtain rfl := e29.symm
    refine Need.one rfl rfl rfl ?_
    rintro _ ⟨v12, e30, h13⟩
    obtain rfl := e30.symm
    refine rl_callF rfl en81 rfl (ctr81 (G F w.heap.size nb) w24 (A16u8.list a0.b) v10 h11 (A16u8.list a1.b) v12 h13 y16 hy17) ?_
    rintro _ w31 ⟨rfl, c32⟩
    have k4 := k4.ch0 c32
    have k8 := k8.ch0 c32
    have h11 := slRep.ch kInt_pos h11 c32
    have h13 := slRep.ch kInt_pos h13 c32
    have c0 := c0.then0 c32
    refine rl_assign rfl rfl ?_
    refine RL.nil ?_
    refine thn_n ?_
    refine CW.ret ?_
    refine inB_ret ?_
    refine thn_ret ?_
    obtain rfl := hS
    exact ret1 rfl ⟨rfl, c0⟩
  ·
   have hS := ifF q9 hS
   refine CW.seq (CW.region ?_)
   refine rl_fieldAddr rfl fa39_0 rfl ?_
   refine rl_loadS (v := (Value.bool a0.six)) rfl Try.isAgg4 (k4.cell rfl) rfl ?_
   refine rl_assign rfl rfl ?_
   refine RL.nil ?_
   refine thn_n ?_
   refine CW.cond (t := a0.six) rfl (fun q33 => ?_) (fun q33 => ?_)
   ·
    have hS := ifT q33 hS
    refine CW.seq (CW.region ?_)
    refine rl_assign rfl rfl ?_
    refine RL.nil ?_
    refine thn_n ?_
    refine CW.ret ?_
    refine inB_ret ?_
    refine thn_ret ?_
    obtain rfl := hS
    exact ret1 rfl ⟨rfl, c0⟩
   ·
    have hS := ifF q33 hS
    refine CW.skip ?_
    refine inB_n ?_
    refine thn_n ?_
    refine CW.seq (CW.region ?_)
    refine rl_assign rfl rfl ?_
    refine RL.nil ?_
    refine thn_n ?_
    refine CW.ret ?_
    obtain rfl := hS
    exact ret1 rfl ⟨rfl, c0⟩
/-- cmp.isNaN[int] -/
theorem ctr82 (F : Nat → Prop) (w : World) (a0 : Int) (r : Bool) (hs : F82_cmp_isNaN_int a0 = r) :
    Ret Try.prog 82 #[(Value.int .i64 a0)] w fun v w' => v = (Value.bool r) ∧ Ch nb w w' := by
  have hS := hs
  have c0 : Ch nb w w := Ch.refl
  refine Ret.of (n := 6) (args := [_]) (rs := [.tmp 2]) Try.func82 rfl rfl rfl rfl ?_
  refine CW.seq (CW.region ?_)
  refine rl_assign rfl rfl ?_
  refine RL.nil ?_
  refine thn_n ?_
  refine CW.seq (CW.region ?_)
  refine rl_move rfl rfl ?_
  refine rl_move rfl rfl ?_
  refine rl_bin rfl rfl B.neq rfl ?_
  refine rl_assign rfl rfl ?_
  refine RL.nil ?_
  refine thn_n ?_
  refine CW.ret ?_
  obtain rfl := hS
  exact ret1 rfl ⟨rfl, c0⟩
/-- cmp.Compare[int] -/
theorem ctr68 (F : Nat → Prop) (w : World) (a0 : Int) (a1 : Int) (r : Int) (hs : F68_cmp_Compare_int a0 a1 = r) :
    Ret Try.prog 68 #[(Value.int .i64 a0), (Value.int .i64 a1)] w fun v w' => v = (Value.int .i64 r) ∧ Ch nb w w' := by
  have hS := hs
  have c0 : Ch nb w w := Ch.refl
  refine Ret.of (n := 20) (args := [_, _]) (rs := [.tmp 4]) Try.func68 rfl rfl rfl rfl ?_
  refine CW.seq (CW.region ?_)
  refine rl_assign rfl rfl ?_
  refine RL.nil ?_
  refine thn_n ?_
  refine CW.seq (CW.region ?_)
  refine rl_move rfl rfl ?_
  obtain ⟨y3, hy4⟩ : ∃ y, F82_cmp_isNaN_int a0 = y := ⟨_, rfl⟩
  have hS := ltS hy4 hS
  refine rl_callF rfl en82 rfl (ctr82 (G F w.heap.size nb) w a0 y3 hy4) ?_
  rintro _ w1 ⟨rfl, c2⟩
  have c0 := c0.then0 c2
  refine rl_assign rfl rfl ?_
  refine RL.nil ?_
  refine thn_n ?_
  refine CW.seq (CW.region ?_)
  refine rl_move rfl rfl ?_
  obtain ⟨y7, hy8⟩ : ∃ y, F82_cmp_isNaN_int a1 = y := ⟨_, rfl⟩
  have hS := ltS hy8 hS
  refine rl_callF rfl en82 rfl (ctr82 (G F w.heap.size nb) w1 a1 y7 hy8) ?_
  rintro _ w5 ⟨rfl, c6⟩
  have c0 := c0.then0 c6
  refine rl_assign rfl rfl ?_
  refine RL.nil ?_
  refine thn_n ?_
  refine CW.seq ?_
  refine CW.seq (CW.region ?_)
  refine rl_move rfl rfl ?_
  refine RL.nil ?_
  refine thn_n ?_
  refine CW.cond (t := y3) rfl (fun q9 => ?_) (fun q9 => ?_)
  ·
   have hS := ifT q9 hS
   refine CW.seq ?_
   refine CW.seq (CW.region ?_)
   refine rl_move rfl rfl ?_
   refine RL.nil ?_
   refine thn_n ?_
   refine CW.cond (t := y7) rfl (fun q10 => ?_) (fun q10 => ?_)
   ·
    have hS := ifT q10 hS
    refine CW.seq (CW.region ?_)
    refine rl_assign rfl rfl ?_
    refine RL.nil ?_
    refine thn_n ?_
    refine CW.ret ?_
    refine thn_ret ?_
    refine thn_ret ?_
    obtain rfl := hS
    exact ret1 rfl ⟨rfl, c0⟩
   ·
    have hS := ifF q10 hS
    refine CW.skip ?_
    refine thn_n ?_
    refine CW.seq (CW.region ?_)
    refine rl_assign rfl rfl ?_
    refine RL.nil ?_
    refine thn_n ?_
    refine CW.ret ?_
    refine thn_ret ?_
    obtain rfl := hS
    exact ret1 rfl ⟨rfl, c0⟩
  ·
   have hS := ifF q9 hS
   refine CW.skip ?_
   refine thn_n ?_
   refine CW.seq ?_
   refine CW.seq (CW.region ?_)
   refine rl_move rfl rfl ?_
   refine RL.nil ?_
   refine thn_n ?_
   refine CW.cond (t := y7) rfl (fun q11 => ?_) (fun q11 => ?_)
   ·
    have hS := ifT q11 hS
    refine CW.seq (CW.region ?_)
    refine rl_assign rfl rfl ?_
    refine RL.nil ?_
    refine thn_n ?_
    refine CW.ret ?_
    refine thn_ret ?_
    obtain rfl := hS
    exact ret1 rfl ⟨rfl, c0⟩
   ·
    have hS := ifF q11 hS
    refine CW.skip ?_
    refine thn_n ?_
    refine CW.seq ?_
    refine CW.seq (CW.region ?_)
    refine rl_move rfl rfl ?_
    refine rl_move rfl rfl ?_
    refine rl_bin rfl rfl B.lss rfl ?_
    refine RL.nil ?_
    refine thn_n ?_
    refine CW.cond (t := decide (a0 < a1)) rfl (fun q12 => ?_) (fun q12 => ?_)
    ·
     have hS := ifT q12 hS
     refine CW.seq (CW.region ?_)
     refine rl_assign rfl rfl ?_
     refine RL.nil ?_
     refine thn_n ?_
     refine CW.ret ?_
     refine thn_ret ?_
     obtain rfl := hS
     exact ret1 rfl ⟨rfl, c0⟩
    ·
     have hS := ifF q12 hS
     refine CW.skip ?_
     refine thn_n ?_
     refine CW.seq ?_
     refine CW.seq (CW.region ?_)
     refine rl_move rfl rfl ?_
     refine rl_move rfl rfl ?_
     refine rl_bin rfl rfl B.gtr rfl ?_
     refine RL.nil ?_
     refine thn_n ?_
     refine CW.cond (t := decide (a0 > a1)) rfl (fun q13 => ?_) (fun q13 => ?_)
     ·
      have hS := ifT q13 hS
      refine CW.seq (CW.region ?_)
      refine rl_assign rfl rfl ?_
      refine RL.nil ?_
      refine thn_n ?_
      refine CW.ret ?_
      refine thn_ret ?_
      obtain rfl := hS
      exact ret1 rfl ⟨rfl, c0⟩
     ·
      have hS := ifF q13 hS
      refine CW.skip ?_
      refine thn_n ?_
      refine CW.seq (CW.region ?_)
      refine rl_assign rfl rfl ?_
      refine RL.nil ?_
      refine thn_n ?_
      refine CW.ret ?_
      obtain rfl := hS
      exact ret1 rfl ⟨rfl, c0⟩
/-- cmp.Or[int] -/
theorem ctr66 (F : Nat → Prop) (w : World) (a0 : (List Int)) (av0 : Value) (ah0 : slRep (kInt .i64) F w a0 av0) (r : Int) (hs : F66_cmp_Or_int a0 = r) :
    Ret Try.prog 66 #[av0] w fun v w' => v = (Value.int .i64 r) ∧ Ch nb w w' := by
  have hS := hs
  have c0 : Ch nb w w := Ch.refl
  have ah0 := slRep.enter kInt_pos ah0
  refine Ret.of (n := 18) (args := [_]) (rs := [.tmp 2]) Try.func66 rfl rfl rfl rfl ?_
  refine CW.seq (CW.region ?_)
  refine rl_assign rfl rfl ?_
  refine RL.nil ?_
  refine thn_n ?_
  refine CW.seq (CW.region ?_)
  refine rl_assign rfl rfl ?_
  refine RL.nil ?_
  refine thn_n ?_
  refine CW.seq ?_
  refine CW.seq (CW.region ?_)
  refine rl_move rfl rfl ?_
  refine rl_lenR rfl ah0 Try.underlying120 rfl ?_
  refine rl_move rfl rfl ?_
  refine RL.nil ?_
  refine thn_n ?_
  obtain ⟨o8, ho9⟩ : ∃ o, runB F66_cmp_Or_int_b1 a0 () = o := ⟨_, rfl⟩
  have hS := ltS ho9 hS
  refine CW.cutB (fun E' w' => ∃ (_ : Unit), Sub [(3, (Value.int .i64 0))] E' ∧ Ch nb w w' ∧ Lp.fin () = o8 ∧ slRep (kInt .i64) (G F w.heap.size nb) w' a0 av0) ?_ ?_
  ·
   refine CW.loopS [(3, (Value.int .i64 0)), (6, av0), (7, (Value.int .i64 ((a0.length : Nat) : Int))), (8, (Value.int .i64 ((0 : Nat) : Int)))] ⟨rfl, rfl, rfl, rfl, trivial⟩ a0.length (fun m E w' => ∃ (rest1 : List Int) (i2 : Nat) , m = rest1.length ∧ E = [(3, (Value.int .i64 0)), (6, av0), (7, (Value.int .i64 ((a0.length : Nat) : Int))), (8, (Value.int .i64 ((i2 : Nat) : Int)))] ∧ Ch nb w w' ∧ At a0 i2 rest1 ∧ runB F66_cmp_Or_int_b1 rest1 () = o8 ∧ slRep (kInt .i64) (G F w.heap.size nb) w' a0 av0)
       ⟨a0, 0, rfl, rfl, c0, At.start, ho9, ah0⟩ ?_
   rintro _ _ w14 ⟨rest1, i2, rfl, rfl, c13, hat4, hL3, ah0⟩
   refine CW.seq (CW.region ?_)
   refine rl_bin rfl rfl B.lss rfl ?_
   refine RL.nil (thn_n ?_)
   refine CW.seq ?_
   refine CW.cond (t := decide (((i2 : Nat) : Int) < ((a0.length : Nat) : Int))) rfl (fun q16 => ?_) (fun q16 => ?_)
   ·
    obtain ⟨x10, rest17, rfl⟩ := hat4.cons q16
    obtain ⟨q5, hq6⟩ : ∃ q, F66_cmp_Or_int_b1 x10 () = q := ⟨_, rfl⟩
    have hb7 := hq6
    refine CW.skip (thn_n ?_)
    refine CW.seq ?_
    refine CW.block ?_
    refine CW.seq (CW.region ?_)
    refine rl_ixR rfl ah0 rfl hat4.get Try.underlying120 Try.sizeOf3 rfl ?_
    intro p18 o19 cs20 hr21 hs22 hg23
    obtain rfl := hr21
    refine rl_loadS (v := (Value.int .i64 x10)) rfl Try.isAgg3 (hs22 0 _ rfl) rfl ?_
    refine rl_assign rfl rfl ?_
    refine RL.nil ?_
    refine thn_n ?_
    refine CW.seq (CW.region ?_)
    refine rl_move rfl rfl ?_
    refine rl_move rfl rfl ?_
    refine rl_bin rfl rfl B.neq rfl ?_
    refine RL.nil ?_
    refine thn_n ?_
    refine CW.cond (t := !decide (x10 = 0)) rfl (fun q24 => ?_) (fun q24 => ?_)
    ·
     have hb7 := ifT q24 hb7
     refine CW.seq (CW.region ?_)
     refine rl_move rfl rfl ?_
     refine rl_assign rfl rfl ?_
     refine RL.nil ?_
     refine thn_n ?_
     refine CW.ret ?_
     refine inB_ret ?_
     refine thn_ret ?_
     refine thn_ret (inB_ret (thn_ret ?_))
     refine thn_ret ?_
     have f25 := runB_ret hL3 (hb7.trans hq6.symm)
     have hS := retS f25 hS
     obtain rfl := hS
     exact ret1 rfl ⟨rfl, c13⟩
    ·
     have hb7 := ifF q24 hb7
     refine CW.skip ?_
     refine inB_n ?_
     refine thn_n ?_
     refine CW.region ?_
     refine rl_inc rfl hat4.lt ah0.big rfl ?_
     refine rl_move rfl rfl ?_
     refine RL.nil ?_
     refine thn_n ?_
     have hLn := runB_next hL3 (hb7.trans hq6.symm)
     exact ⟨rest17.length, Nat.lt_succ_self _, [(3, (Value.int .i64 0)), (6, av0), (7, (Value.int .i64 ((a0.length : Nat) : Int))), (8, (Value.int .i64 ((i2 + 1 : Nat) : Int)))], ⟨rfl, rfl, rfl, rfl, trivial⟩, ⟨rest17, i2 + 1, rfl, rfl, c13, hat4.next, hLn, ah0⟩⟩
   ·
    obtain rfl := hat4.nil q16
    have hLf : Lp.fin () = o8 := hL3
    refine CW.exit (thn_exit (thn_exit (inB_hit ?_)))
    exact ⟨(), ⟨rfl, trivial⟩, c13, hLf, ah0⟩
  ·
   rintro _ w27 ⟨_, hE28, c26, f29, ah0⟩
   have hS := finS f29 hS
   refine thn_n (CW.sub [(3, (Value.int .i64 0))] hE28 ?_)
   refine CW.seq (CW.region ?_)
   refine rl_move rfl rfl ?_
   refine rl_assign rfl rfl ?_
   refine RL.nil ?_
   refine thn_n ?_
   refine CW.ret ?_
   obtain rfl := hS
   exact ret1 rfl ⟨rfl, c26⟩
/-- lb/ports.Compare -/
theorem ctr56 (F : Nat → Prop) (w : World) (a0 : Point) (a1 : Point) (r : Int) (hs : F56_ports_Compare a0 a1 = r) :
    Ret Try.prog 56 #[(Value.agg (Point.enc a0).toArray), (Value.agg (Point.enc a1).toArray)] w fun v w' => v = (Value.int .i64 r) ∧ Ch nb w w' := by
  have hS := hs
  have c0 : Ch nb w w := Ch.refl
  refine Ret.of (n := 17) (args := [_, _]) (rs := [.tmp 4]) Try.func56 rfl rfl rfl rfl ?_
  refine CW.seq (CW.region ?_)
  refine rl_boxA (cs := (Point.enc a0)) rfl rfl ?_
  intro p1 w2 n3 k4
  have gp1 : (G F w.heap.size nb) p1 := ⟨.inr (by rw [n3.eq]; exact c0.size), fun h => absurd (nbS _ h) (by rw [n3.eq]; exact Nat.lt_irrefl _)⟩
  have c0 := c0.then0 n3.ch
  refine rl_boxA (cs := (Point.enc a1)) rfl rfl ?_
  intro p5 w6 n7 k8
  have gp5 : (G F w.heap.size nb) p5 := ⟨.inr (by rw [n7.eq]; exact c0.size), fun h => absurd (nbS _ h) (by rw [n7.eq]; exact Nat.lt_irrefl _)⟩
  have k4 := k4.ch0 n7.ch
  have c0 := c0.then0 n7.ch
  refine rl_assign rfl rfl ?_
  refine RL.nil ?_
  refine thn_n ?_
  refine CW.seq ?_
  obtain ⟨y11, hy12⟩ : ∃ y, F67_addr_Compare a0.addr a1.addr = y := ⟨_, rfl⟩
  have hS := ltS hy12 hS
  obtain ⟨y15, hy16⟩ : ∃ y, F68_cmp_Compare_int a0.port a1.port = y := ⟨_, rfl⟩
  have hS := ltS hy16 hS
  obtain ⟨y24, hy25⟩ : ∃ y, F66_cmp_Or_int [y11, y15] = y := ⟨_, rfl⟩
  have hS := ltS hy25 hS
  refine CW.draw 9 [(none, fun _ O uu wx => uu = (Value.pointer (some ⟨p1, 0, none⟩))), (none, fun _ O uu wx => uu = (Value.agg (Addr.enc a0.addr).toArray)), (none, fun _ O uu wx => uu = (Value.pointer (some ⟨p5, 0, none⟩))), (none, fun _ O uu wx => uu = (Value.agg (Addr.enc a1.addr).toArray)), (none, fun _ O uu wx => uu = (Value.int .i64 y11)), (none, fun _ O uu wx => uu = (Value.pointer (some ⟨p1, 17, none⟩))), (none, fun _ O uu wx => uu = (Value.int .i64 a0.port)), (none, fun _ O uu wx => uu = (Value.pointer (some ⟨p5, 17, none⟩))), (none, fun _ O uu wx => uu = (Value.int .i64 a1.port))] [[], [0], [], [2], [1, 3], [], [5], [], [7]] [4, 6, 8] nb (fun _ h => h.elim) mixed rfl rfl rfl rfl ?_ ?_
  ·
   refine Each.consA ⟨fun _ _ _ _ _ _ h => h, fun h => absurd rfl h, fun O wk hO ck => ?_⟩ ?_
   ·
    have k4 := k4.ch0 ck
    have k8 := k8.ch0 ck
    have c0 := c0.then0 ck
    refine rl_fieldAddr rfl fa41_0 rfl ?_
    exact RL.nil ⟨_, rfl, Ch.refl, rfl⟩
   refine Each.consA ⟨fun _ _ _ _ _ _ h => h, fun h => absurd rfl h, fun O wk hO ck => ?_⟩ ?_
   ·
    have k4 := k4.ch0 ck
    have k8 := k8.ch0 ck
    have c0 := c0.then0 ck
    refine Need.one rfl rfl rfl ?_
    rintro _ e26
    obtain rfl := e26.symm
    refine rl_loadA (cs := (Addr.enc a0.addr)) rfl Try.isAgg39 Try.sizeOf39 (k4.segAt 0 17) rfl rfl ?_
    exact RL.nil ⟨_, rfl, Ch.refl, rfl⟩
   refine Each.consA ⟨fun _ _ _ _ _ _ h => h, fun h => absurd rfl h, fun O wk hO ck => ?_⟩ ?_
   ·
    have k4 := k4.ch0 ck
    have k8 := k8.ch0 ck
    have c0 := c0.then0 ck
    refine rl_fieldAddr rfl fa41_0 rfl ?_
    exact RL.nil ⟨_, rfl, Ch.refl, rfl⟩
   refine Each.consA ⟨fun _ _ _ _ _ _ h => h, fun h => absurd rfl h, fun O wk hO ck => ?_⟩ ?_
   ·
    have k4 := k4.ch0 ck
    have k8 := k8.ch0 ck
    have c0 := c0.then0 ck
    refine Need.one rfl rfl rfl ?_
    rintro _ e27
    obtain rfl := e27.symm
    refine rl_loadA (cs := (Addr.enc a1.addr)) rfl Try.isAgg39 Try.sizeOf39 (k8.segAt 0 17) rfl rfl ?_
    exact RL.nil ⟨_, rfl, Ch.refl, rfl⟩
   refine Each.consA ⟨fun _ _ _ _ _ _ h => h, fun h => absurd rfl h, fun O wk hO ck => ?_⟩ ?_
   ·
    have k4 := k4.ch0 ck
    have k8 := k8.ch0 ck
    have c0 := c0.then0 ck
    refine Need.one rfl rfl rfl ?_
    rintro _ e28
    obtain rfl := e28.symm
    refine Need.one rfl rfl rfl ?_
    rintro _ e29
    obtain rfl := e29.symm
    refine rl_callF rfl en67 rfl (ctr67 (G F w.heap.size nb) wk a0.addr a1.addr y11 hy12) ?_
    rintro _ w30 ⟨rfl, c31⟩
    have k4 := k4.ch0 c31
    have k8 := k8.ch0 c31
    have c0 := c0.then0 c31
    exact RL.nil ⟨_, rfl, c31, rfl⟩
   refine Each.consA ⟨fun _ _ _ _ _ _ h => h, fun h => absurd rfl h, fun O wk hO ck => ?_⟩ ?_
   ·
    have k4 := k4.ch0 ck
    have k8 := k8.ch0 ck
    have c0 := c0.then0 ck
    refine rl_fieldAddr rfl fa41_1 rfl ?_
    exact RL.nil ⟨_, rfl, Ch.refl, rfl⟩
   refine Each.consA ⟨fun _ _ _ _ _ _ h => h, fun h => absurd rfl h, fun O wk hO ck => ?_⟩ ?_
   ·
    have k4 := k4.ch0 ck
    have k8 := k8.ch0 ck
    have c0 := c0.then0 ck
    refine Need.one rfl rfl rfl ?_
    rintro _ e32
    obtain rfl := e32.symm
    refine rl_loadS (v := (Value.int .i64 a0.port)) rfl Try.isAgg3 (k4.cell rfl) rfl ?_
    exact RL.nil ⟨_, rfl, Ch.refl, rfl⟩
   refine Each.consA ⟨fun _ _ _ _ _ _ h => h, fun h => absurd rfl h, fun O wk hO ck => ?_⟩ ?_
   ·
    have k4 := k4.ch0 ck
    have k8 := k8.ch0 ck
    have c0 := c0.then0 ck
    refine rl_fieldAddr rfl fa41_1 rfl ?_
    exact RL.nil ⟨_, rfl, Ch.refl, rfl⟩
   refine Each.consA ⟨fun _ _ _ _ _ _ h => h, fun h => absurd rfl h, fun O wk hO ck => ?_⟩ ?_
   ·
    have k4 := k4.ch0 ck
    have k8 := k8.ch0 ck
    have c0 := c0.then0 ck
    refine Need.one rfl rfl rfl ?_
    rintro _ e33
    obtain rfl := e33.symm
    refine rl_loadS (v := (Value.int .i64 a1.port)) rfl Try.isAgg3 (k8.cell rfl) rfl ?_
    exact RL.nil ⟨_, rfl, Ch.refl, rfl⟩
   trivial
  ·
   intro hvO36 OpO36 O36 w34 hO37 c35 hN38
   have k4 := k4.ch0 c35
   have k8 := k8.ch0 c35
   have c0 := c0.then0 c35
   refine Need.one rfl rfl rfl ?_
   rintro _ e39
   obtain rfl := e39.symm
   refine Need.one rfl rfl rfl ?_
   rintro _ e40
   obtain rfl := e40.symm
   refine Need.one rfl rfl rfl ?_
   rintro _ e41
   obtain rfl := e41.symm
   refine rl_callF rfl en68 rfl (ctr68 (G F w.heap.size nb) w34 a0.port a1.port y15 hy16) ?_
   rintro _ w42 ⟨rfl, c43⟩
   have k4 := k4.ch0 c43
   have k8 := k8.ch0 c43
   have c0 := c0.then0 c43
   refine rl_bslice (k := (kInt .i64)) (F := F) (B := w.heap.size) (S := nb) ([y11, y15] : List Int) rfl kInt_pos Try.underlying120 Try.sizeOf3 Try.zeroValue3 rfl rfl ⟨rfl, rfl, ⟨rfl, rfl, trivial⟩⟩ c0.size nbS rfl ?_
   intro v44 w45 c46 hf47 h48
   have h48 := h48.readNew kInt_pos hf47 nbS
   have k4 := k4.ch0 c46
   have k8 := k8.ch0 c46
   have c0 := c0.then0 c46
   refine rl_callF rfl en66 rfl (ctr66 (G F w.heap.size nb) w45 [y11, y15] v44 h48 y24 hy25) ?_
   rintro _ w49 ⟨rfl, c50⟩
   have k4 := k4.ch0 c50
   have k8 := k8.ch0 c50
   have h48 := slRep.ch kInt_pos h48 c50
   have c0 := c0.then0 c50
   refine rl_assign rfl rfl ?_
   refine RL.nil ?_
   refine thn_n ?_
   refine CW.ret ?_
   obtain rfl := hS
   exact ret1 rfl ⟨rfl, c0⟩
/-- slices.Compact[[]lb/api.Point,lb/api.Point] -/
theorem ctr57 (F : Nat → Prop) (w : World) (Bb : Nat) (S2 : Nat → Prop) (hB : Bb ≤ w.heap.size) (h2 : ∀ b, S2 b → b < w.heap.size) (av0 : Value) (hd2 : ∀ b, (inBlk av0) b → ¬ S2 b) (a0 : (List Point)) (ah0 : SlO k_Point 41 F Bb (un (inBlk av0) S2) w a0 av0) (r : (List Point)) (hs : F57_slices_Compact_api_Point_api_Point a0 = some r) :
    Ret Try.prog 57 #[av0] w fun v w' => ∃ (y0 : Value), v = y0 ∧ SlO k_Point 41 F Bb (un (inBlk y0) S2) w' r y0 ∧ (∀ b, inBlk y0 b → inBlk av0 b ∨ w.heap.size ≤ b) ∧ Ch (inBlk av0) w w' := by
  have hS := hs
  have c0 : Ch (inBlk av0) w w := Ch.refl
  have lin0_0 : ∀ b, inBlk av0 b → (inBlk av0) b ∨ w.heap.size ≤ b := fun b h => .inl h
  refine Ret.of (n := 61) (args := [_]) (rs := [.tmp 2]) Try.func57 rfl rfl rfl rfl ?_
  refine CW.seq (CW.region ?_)
  refine rl_assign rfl rfl ?_
  refine RL.nil ?_
  refine thn_n ?_
  refine CW.seq ?_
  refine CW.seq (CW.region ?_)
  refine rl_move rfl rfl ?_
  refine rl_lenR rfl (SlO.read (S' := S2) k_Point_pos ah0 (fun b hs h => hs ((.inr h))) (fun b hb => linNot lin0_0 hd2 h2 b hb)) Try.underlying53 rfl ?_
  refine rl_bin rfl rfl B.lss rfl ?_
  refine RL.nil ?_
  refine thn_n ?_
  refine CW.cond (t := decide (((a0.length : Nat) : Int) < 2)) rfl (fun q1 => ?_) (fun q1 => ?_)
  ·
   have hS := ifT q1 hS
   refine CW.seq (CW.region ?_)
   refine rl_move rfl rfl ?_
   refine rl_assign rfl rfl ?_
   refine RL.nil ?_
   refine thn_n ?_
   refine CW.ret ?_
   refine thn_ret ?_
   obtain rfl := Option.some.inj hS
   exact ret1 rfl ⟨av0, rfl, ah0, lin0_0, c0⟩
  ·
   have hS := ifF q1 hS
   refine CW.skip ?_
   refine thn_n ?_
   refine CW.seq ?_
   refine CW.seq (CW.region ?_)
   refine rl_assign rfl rfl ?_
   refine RL.nil ?_
   refine thn_n ?_
   obtain ⟨o12, ho13, hS⟩ := bindS hS
   refine CW.cutB (fun E' w' => ∃ (x2 : Int) (x3 : (List Point)), Sub [(0, av0)] E' ∧ Ch (inBlk av0) w w' ∧ Lp.fin (x2, x3) = o12 ∧ SlO k_Point 41 F Bb (un (inBlk av0) S2) w' x3 av0) ?_ ?_
   ·
    refine CW.loopS [(0, av0), (3, (Value.int .i64 1))] ⟨rfl, rfl, trivial⟩ FUEL (fun m E w' => ∃ (x2 : Int) (x3 : (List Point)), E = [(0, av0), (3, (Value.int .i64 x2))] ∧ Ch (inBlk av0) w w' ∧ runW F57_slices_Compact_api_Point_api_Point_b1 m (x2, x3) = some o12 ∧ SlO k_Point 41 F Bb (un (inBlk av0) S2) w' x3 av0)
        ⟨1, a0, rfl, c0, ho13, ah0⟩ ?_
    rintro _ _ w18 ⟨x2, x3, rfl, c17, hL7, h4⟩
    obtain ⟨k16, q9, rfl, hq10⟩ := runW_some hL7
    have hb11 := hq10
    refine CW.seq ?_
    refine CW.seq (CW.region ?_)
    refine rl_move rfl rfl ?_
    refine rl_move rfl rfl ?_
    refine rl_lenR rfl (SlO.read (S' := S2) k_Point_pos h4 (fun b hs h => hs ((.inr h))) (fun b hb => linNot lin0_0 hd2 h2 b hb)) Try.underlying53 rfl ?_
    refine rl_bin rfl rfl B.lss rfl ?_
    refine RL.nil ?_
    refine thn_n ?_
    refine CW.cond (t := decide (x2 < ((x3.length : Nat) : Int))) rfl (fun q20 => ?_) (fun q20 => ?_)
    ·
     have hb11 := ifT q20 hb11
     refine CW.skip ?_
     refine thn_n ?_
     refine CW.seq ?_
     refine CW.block ?_
     refine CW.seq ?_
     obtain ⟨y27, hy28, hb11⟩ := bindS hb11
     obtain ⟨y35, hy36, hb11⟩ := bindS hb11
     refine CW.draw 9 [(none, fun _ O uu wx => uu = av0), (none, fun _ O uu wx => uu = (Value.int .i64 x2)), (none, fun _ O uu wx => ∃ (p21 : Nat) (o22 : Nat), uu = (Value.pointer (some ⟨p21, o22, none⟩)) ∧ Seg wx p21 o22 (Point.enc y27)), (none, fun _ O uu wx => uu = (Value.agg (Point.enc y27).toArray)), (none, fun _ O uu wx => uu = av0), (none, fun _ O uu wx => uu = (Value.int .i64 x2)), (none, fun _ O uu wx => uu = (Value.int .i64 (IntKind.i64.wrap (x2 - 1)))), (none, fun _ O uu wx => ∃ (p29 : Nat) (o30 : Nat), uu = (Value.pointer (some ⟨p29, o30, none⟩)) ∧ Seg wx p29 o30 (Point.enc y35)), (none, fun _ O uu wx => uu = (Value.agg (Point.enc y35).toArray))] [[], [], [0, 1], [2], [], [], [5], [4, 6], [7]] [3, 8] nb (fun _ h => h.elim) mixed rfl rfl rfl rfl ?_ ?_
     ·
      refine Each.consA ⟨fun _ _ _ _ _ _ h => h, fun h => absurd rfl h, fun O wk hO ck => ?_⟩ ?_
      ·
       have h4 := h4.ch0 ck
       have c17 := c17.then0 ck
       refine rl_move rfl rfl ?_
       exact RL.nil ⟨_, rfl, Ch.refl, rfl⟩
      refine Each.consA ⟨fun _ _ _ _ _ _ h => h, fun h => absurd rfl h, fun O wk hO ck => ?_⟩ ?_
      ·
       have h4 := h4.ch0 ck
       have c17 := c17.then0 ck
       refine rl_move rfl rfl ?_
       exact RL.nil ⟨_, rfl, Ch.refl, rfl⟩
      refine Each.consA ⟨fun _ _ _ _ _ cc hh => by obtain ⟨p21, o22, e, hs25⟩ := hh; exact ⟨p21, o22, e, hs25.ch0 cc⟩, fun h => absurd rfl h, fun O wk hO ck => ?_⟩ ?_
      ·
       have h4 := h4.ch0 ck
       have c17 := c17.then0 ck
       refine Need.one rfl rfl rfl ?_
       rintro _ e37
       obtain rfl := e37.symm
       refine Need.one rfl rfl rfl ?_
       rintro _ e38
       obtain rfl := e38.symm
       refine rl_ixOR rfl h4 rfl (ixO_get hy28) k_Point_pos Try.underlying53 Try.sizeOf41 rfl ?_
       intro p39 o40 cs41 hr42 hs43 hg44
       obtain rfl := hr42
       exact RL.nil ⟨_, rfl, Ch.refl, ⟨p39, o40, rfl, hs43⟩⟩
      refine Each.consA ⟨fun _ _ _ _ _ _ h => h, fun h => absurd rfl h, fun O wk hO ck => ?_⟩ ?_
      ·
       have h4 := h4.ch0 ck
       have c17 := c17.then0 ck
       refine Need.one rfl rfl rfl ?_
       rintro _ ⟨p21, o22, e45, hs25⟩
       obtain rfl := e45.symm
       refine rl_loadA (cs := (Point.enc y27)) rfl Try.isAgg41 Try.sizeOf41 (hs25) rfl rfl ?_
       exact RL.nil ⟨_, rfl, Ch.refl, rfl⟩
      refine Each.consA ⟨fun _ _ _ _ _ _ h => h, fun h => absurd rfl h, fun O wk hO ck => ?_⟩ ?_
      ·
       have h4 := h4.ch0 ck
       have c17 := c17.then0 ck
       refine rl_move rfl rfl ?_
       exact RL.nil ⟨_, rfl, Ch.refl, rfl⟩
      refine Each.consA ⟨fun _ _ _ _ _ _ h => h, fun h => absurd rfl h, fun O wk hO ck => ?_⟩ ?_
      ·
       have h4 := h4.ch0 ck
       have c17 := c17.then0 ck
       refine rl_move rfl rfl ?_
       exact RL.nil ⟨_, rfl, Ch.refl, rfl⟩
      refine Each.consA ⟨fun _ _ _ _ _ _ h => h, fun h => absurd rfl h, fun O wk hO ck => ?_⟩ ?_
      ·
       have h4 := h4.ch0 ck
       have c17 := c17.then0 ck
       refine Need.one rfl rfl rfl ?_
       rintro _ e46
       obtain rfl := e46.symm
       refine rl_bin rfl rfl B.sub rfl ?_
       exact RL.nil ⟨_, rfl, Ch.refl, rfl⟩
      refine Each.consA ⟨fun _ _ _ _ _ cc hh => by obtain ⟨p29, o30, e, hs33⟩ := hh; exact ⟨p29, o30, e, hs33.ch0 cc⟩, fun h => absurd rfl h, fun O wk hO ck => ?_⟩ ?_
      ·
       have h4 := h4.ch0 ck
       have c17 := c17.then0 ck
       refine Need.one rfl rfl rfl ?_
       rintro _ e47
       obtain rfl := e47.symm
       refine Need.one rfl rfl rfl ?_
       rintro _ e48
       obtain rfl := e48.symm
       refine rl_ixOR rfl h4 rfl (ixO_get hy36) k_Point_pos Try.underlying53 Try.sizeOf41 rfl ?_
       intro p49 o50 cs51 hr52 hs53 hg54
       obtain rfl := hr52
       exact RL.nil ⟨_, rfl, Ch.refl, ⟨p49, o50, rfl, hs53⟩⟩
      refine Each.consA ⟨fun _ _ _ _ _ _ h => h, fun h => absurd rfl h, fun O wk hO ck => ?_⟩ ?_
      ·
       have h4 := h4.ch0 ck
       have c17 := c17.then0 ck
       refine Need.one rfl rfl rfl ?_
       rintro _ ⟨p29, o30, e55, hs33⟩
       obtain rfl := e55.symm
       refine rl_loadA (cs := (Point.enc y35)) rfl Try.isAgg41 Try.sizeOf41 (hs33) rfl rfl ?_
       exact RL.nil ⟨_, rfl, Ch.refl, rfl⟩
      trivial
     ·
      intro hvO58 OpO58 O58 w56 hO59 c57 hN60
      have h4 := h4.ch0 c57
      have c17 := c17.then0 c57
      refine Need.one rfl rfl rfl ?_
      rintro _ e61
      obtain rfl := e61.symm
      refine Need.one rfl rfl rfl ?_
      rintro _ e62
      obtain rfl := e62.symm
      refine rl_bin rfl rfl (eql41 y27 y35) rfl ?_
      refine RL.nil ?_
      refine thn_n ?_
      refine CW.cond (t := decide (y27 = y35)) rfl (fun q63 => ?_) (fun q63 => ?_)
      ·
       have hb11 := ifT q63 hb11
       refine CW.seq (CW.region ?_)
       refine rl_move rfl rfl ?_
       refine rl_move rfl rfl ?_
       obtain ⟨y64, hy65, hb11⟩ := bindS hb11
       refine rl_cutS rfl h4 rfl hy65 Try.underlying53 Try.sizeOf41 rfl ?_
       intro v66 h67
       refine rl_assign rfl rfl ?_
       refine RL.nil ?_
       refine thn_n ?_
       refine CW.seq ?_
       refine CW.seq (CW.region ?_)
       refine rl_assign rfl rfl ?_
       refine RL.nil ?_
       refine thn_n ?_
       obtain ⟨o79, ho80, hb11⟩ := bindS hb11
       refine CW.cutB (fun E' w' => ∃ (x68 : Int) (x69 : Int) (x70 : (List Point)), Sub [(0, av0), (3, (Value.int .i64 x68))] E' ∧ Ch (inBlk av0) w w' ∧ Lp.fin (x68, x69, x70) = o79 ∧ SlO k_Point 41 F Bb (un (inBlk av0) S2) w' x70 av0) ?_ ?_
       ·
        refine CW.loopS [(0, av0), (4, v66), (3, (Value.int .i64 x2)), (5, (Value.int .i64 1))] ⟨rfl, rfl, rfl, rfl, trivial⟩ FUEL (fun m E w' => ∃ (x68 : Int) (x69 : Int) (x70 : (List Point)), E = [(0, av0), (4, v66), (3, (Value.int .i64 x68)), (5, (Value.int .i64 x69))] ∧ Ch (inBlk av0) w w' ∧ runW (F57_slices_Compact_api_Point_api_Point_b2 x2 y64) m (x68, x69, x70) = some o79 ∧ SlO k_Point 41 F Bb (un (inBlk av0) S2) w' x70 av0)
            ⟨x2, 1, x3, rfl, c17, ho80, h4⟩ ?_
        rintro _ _ w85 ⟨x68, x69, x70, rfl, c84, hL74, h71⟩
        obtain ⟨k83, q76, rfl, hq77⟩ := runW_some hL74
        have hb78 := hq77
        refine CW.seq ?_
        refine CW.seq (CW.region ?_)
        refine rl_move rfl rfl ?_
        refine rl_move rfl rfl ?_
        refine rl_lenSuf rfl h67 hy65 Try.underlying53 rfl ?_
        refine rl_bin rfl rfl B.lss rfl ?_
        refine RL.nil ?_
        refine thn_n ?_
        refine CW.cond (t := decide (x69 < ((y64.length : Nat) : Int))) rfl (fun q87 => ?_) (fun q87 => ?_)
        ·
         have hb78 := ifT q87 hb78
         refine CW.skip ?_
         refine thn_n ?_
         refine CW.seq ?_
         refine CW.block ?_
         refine CW.seq ?_
         obtain ⟨y94, hy95, hb78⟩ := bindS hb78
         obtain ⟨y102, hy103, hb78⟩ := bindS hb78
         refine CW.draw 9 [(none, fun _ O uu wx => uu = v66), (none, fun _ O uu wx => uu = (Value.int .i64 x69)), (none, fun _ O uu wx => ∃ (p88 : Nat) (o89 : Nat), uu = (Value.pointer (some ⟨p88, o89, none⟩)) ∧ Seg wx p88 o89 (Point.enc y94)), (none, fun _ O uu wx => uu = (Value.agg (Point.enc y94).toArray)), (none, fun _ O uu wx => uu = v66), (none, fun _ O uu wx => uu = (Value.int .i64 x69)), (none, fun _ O uu wx => uu = (Value.int .i64 (IntKind.i64.wrap (x69 - 1)))), (none, fun _ O uu wx => ∃ (p96 : Nat) (o97 : Nat), uu = (Value.pointer (some ⟨p96, o97, none⟩)) ∧ Seg wx p96 o97 (Point.enc y102)), (none, fun _ O uu wx => uu = (Value.agg (Point.enc y102).toArray))] [[], [], [0, 1], [2], [], [], [5], [4, 6], [7]] [3, 8] nb (fun _ h => h.elim) mixed rfl rfl rfl rfl ?_ ?_
         ·
          refine Each.consA ⟨fun _ _ _ _ _ _ h => h, fun h => absurd rfl h, fun O wk hO ck => ?_⟩ ?_
          ·
           have h71 := h71.ch0 ck
           have c84 := c84.then0 ck
           refine rl_move rfl rfl ?_
           exact RL.nil ⟨_, rfl, Ch.refl, rfl⟩
          refine Each.consA ⟨fun _ _ _ _ _ _ h => h, fun h => absurd rfl h, fun O wk hO ck => ?_⟩ ?_
          ·
           have h71 := h71.ch0 ck
           have c84 := c84.then0 ck
           refine rl_move rfl rfl ?_
           exact RL.nil ⟨_, rfl, Ch.refl, rfl⟩
          refine Each.consA ⟨fun _ _ _ _ _ cc hh => by obtain ⟨p88, o89, e, hs92⟩ := hh; exact ⟨p88, o89, e, hs92.ch0 cc⟩, fun h => absurd rfl h, fun O wk hO ck => ?_⟩ ?_
          ·
           have h71 := h71.ch0 ck
           have c84 := c84.then0 ck
           refine Need.one rfl rfl rfl ?_
           rintro _ e104
           obtain rfl := e104.symm
           refine Need.one rfl rfl rfl ?_
           rintro _ e105
           obtain rfl := e105.symm
           refine rl_ixSuf rfl h67 h71 rfl (ixO_get hy95) k_Point_pos Try.underlying53 Try.sizeOf41 rfl ?_
           intro p106 o107 cs108 hr109 hs110 hg111
           obtain rfl := hr109
           exact RL.nil ⟨_, rfl, Ch.refl, ⟨p106, o107, rfl, hs110⟩⟩
          refine Each.consA ⟨fun _ _ _ _ _ _ h => h, fun h => absurd rfl h, fun O wk hO ck => ?_⟩ ?_
          ·
           have h71 := h71.ch0 ck
           have c84 := c84.then0 ck
           refine Need.one rfl rfl rfl ?_
           rintro _ ⟨p88, o89, e112, hs92⟩
           obtain rfl := e112.symm
           refine rl_loadA (cs := (Point.enc y94)) rfl Try.isAgg41 Try.sizeOf41 (hs92) rfl rfl ?_
           exact RL.nil ⟨_, rfl, Ch.refl, rfl⟩
          refine Each.consA ⟨fun _ _ _ _ _ _ h => h, fun h => absurd rfl h, fun O wk hO ck => ?_⟩ ?_
          ·
           have h71 := h71.ch0 ck
           have c84 := c84.then0 ck
           refine rl_move rfl rfl ?_
           exact RL.nil ⟨_, rfl, Ch.refl, rfl⟩
          refine Each.consA ⟨fun _ _ _ _ _ _ h => h, fun h => absurd rfl h, fun O wk hO ck => ?_⟩ ?_
          ·
           have h71 := h71.ch0 ck
           have c84 := c84.then0 ck
           refine rl_move rfl rfl ?_
           exact RL.nil ⟨_, rfl, Ch.refl, rfl⟩
          refine Each.consA ⟨fun _ _ _ _ _ _ h => h, fun h => absurd rfl h, fun O wk hO ck => ?_⟩ ?_
          ·
           have h71 := h71.ch0 ck
           have c84 := c84.then0 ck
           refine Need.one rfl rfl rfl ?_
           rintro _ e113
           obtain rfl := e113.symm
           refine rl_bin rfl rfl B.sub rfl ?_
           exact RL.nil ⟨_, rfl, Ch.refl, rfl⟩
          refine Each.consA ⟨fun _ _ _ _ _ cc hh => by obtain ⟨p96, o97, e, hs100⟩ := hh; exact ⟨p96, o97, e, hs100.ch0 cc⟩, fun h => absurd rfl h, fun O wk hO ck => ?_⟩ ?_
          ·
           have h71 := h71.ch0 ck
           have c84 := c84.then0 ck
           refine Need.one rfl rfl rfl ?_
           rintro _ e114
           obtain rfl := e114.symm
           refine Need.one rfl rfl rfl ?_
           rintro _ e115
           obtain rfl := e115.symm
           refine rl_ixSuf rfl h67 h71 rfl (ixO_get hy103) k_Point_pos Try.underlying53 Try.sizeOf41 rfl ?_
           intro p116 o117 cs118 hr119 hs120 hg121
           obtain rfl := hr119
           exact RL.nil ⟨_, rfl, Ch.refl, ⟨p116, o117, rfl, hs120⟩⟩
          refine Each.consA ⟨fun _ _ _ _ _ _ h => h, fun h => absurd rfl h, fun O wk hO ck => ?_⟩ ?_
          ·
           have h71 := h71.ch0 ck
           have c84 := c84.then0 ck
           refine Need.one rfl rfl rfl ?_
           rintro _ ⟨p96, o97, e122, hs100⟩
           obtain rfl := e122.symm
           refine rl_loadA (cs := (Point.enc y102)) rfl Try.isAgg41 Try.sizeOf41 (hs100) rfl rfl ?_
           exact RL.nil ⟨_, rfl, Ch.refl, rfl⟩
          trivial
         ·
          intro hvO125 OpO125 O125 w123 hO126 c124 hN127
          have h71 := h71.ch0 c124
          have c84 := c84.then0 c124
          refine Need.one rfl rfl rfl ?_
          rintro _ e128
          obtain rfl := e128.symm
          refine Need.one rfl rfl rfl ?_
          rintro _ e129
          obtain rfl := e129.symm
          refine rl_bin rfl rfl (neq41 y94 y102) rfl ?_
          refine RL.nil ?_
          refine thn_n ?_
          refine CW.cond (t := !decide (y94 = y102)) rfl (fun q130 => ?_) (fun q130 => ?_)
          ·
           have hb78 := ifT q130 hb78
           refine CW.seq (CW.region ?_)
           refine rl_move rfl rfl ?_
           refine rl_move rfl rfl ?_
           refine rl_move rfl rfl ?_
           refine rl_move rfl rfl ?_
           obtain ⟨y137, hy138, hb78⟩ := bindS hb78
           refine rl_ixSuf rfl h67 h71 rfl (ixO_get hy138) k_Point_pos Try.underlying53 Try.sizeOf41 rfl ?_
           intro p131 o132 cs133 hr134 hs135 hg136
           obtain rfl := hr134
           refine rl_loadA (cs := (Point.enc y137)) rfl Try.isAgg41 Try.sizeOf41 (hs135) rfl rfl ?_
           obtain ⟨y145, hy146, hb78⟩ := bindS hb78
           refine rl_ixO rfl h71 rfl (ixO_get hy146) Try.underlying53 Try.sizeOf41 rfl ?_
           intro p139 hg144
           refine rl_storeOA rfl rfl Try.sizeOf41 h71 hg144 (ixO_lt hy146) (show k_Point.rep (G F Bb (un (inBlk av0) S2)) w123 y137 (Point.enc y137) from rfl) ?_
           intro w147 c148 h149
           have ad150 : ∀ b, b < w123.heap.size → ¬ (un (inBlk av0) S2) b → ¬ (inBlk av0) b ∧ ¬ (un (inBlk av0) S2) b := fun b _ hs => ⟨fun h => hs (.inl h), hs⟩
           have c84 := c84.then c148 (fun i hi h => (lin0_0 i h).elim (fun x => x) (fun x => absurd x (Nat.not_le_of_lt hi)))
           refine RL.nil ?_
           refine thn_n ?_
           refine CW.region ?_
           refine rl_move rfl rfl ?_
           refine rl_bin rfl rfl B.add rfl ?_
           refine rl_assign rfl rfl ?_
           refine RL.nil ?_
           refine inB_n ?_
           refine thn_n ?_
           refine CW.region ?_
           refine rl_move rfl rfl ?_
           refine rl_bin rfl rfl B.add rfl ?_
           refine rl_assign rfl rfl ?_
           refine RL.nil ?_
           refine thn_n ?_
           have hLn := runW_next hL74 hq77 hb78
           exact ⟨k83, Nat.lt_succ_self _, [(0, av0), (4, v66), (3, (Value.int .i64 (IntKind.i64.wrap (x68 + 1)))), (5, (Value.int .i64 (IntKind.i64.wrap (x69 + 1))))], ⟨rfl, rfl, rfl, rfl, trivial⟩, ⟨IntKind.i64.wrap (x68 + 1), IntKind.i64.wrap (x69 + 1), x70.set x68.toNat y137, rfl, c84, hLn, h149⟩⟩
          ·
           have hb78 := ifF q130 hb78
           refine CW.skip ?_
           refine inB_n ?_
           refine thn_n ?_
           refine CW.region ?_
           refine rl_move rfl rfl ?_
           refine rl_bin rfl rfl B.add rfl ?_
           refine rl_assign rfl rfl ?_
           refine RL.nil ?_
           refine thn_n ?_
           have hLn := runW_next hL74 hq77 hb78
           exact ⟨k83, Nat.lt_succ_self _, [(0, av0), (4, v66), (3, (Value.int .i64 x68)), (5, (Value.int .i64 (IntKind.i64.wrap (x69 + 1))))], ⟨rfl, rfl, rfl, rfl, trivial⟩, ⟨x68, IntKind.i64.wrap (x69 + 1), x70, rfl, c84, hLn, h71⟩⟩
        ·
         have hb78 := ifF q87 hb78
         refine CW.exit ?_
         refine thn_exit ?_
         refine thn_exit ?_
         refine inB_hit ?_
         have hLf := runW_fin hL74 hq77 hb78
         exact ⟨x68, x69, x70, ⟨rfl, rfl, trivial⟩, c84, hLf, h71⟩
       ·
        rintro _ w152 ⟨x68, x69, x70, hE153, c151, f154, h71⟩
        have hb11 := finS f154 hb11
        refine thn_n (CW.sub [(0, av0), (3, (Value.int .i64 x68))] hE153 ?_)
        refine CW.seq (CW.region ?_)
        refine rl_move rfl rfl ?_
        refine rl_move rfl rfl ?_
        obtain ⟨y156, hy157, hb11⟩ := bindS hb11
        refine rl_cutS rfl h71 rfl hy157 Try.underlying53 Try.sizeOf41 rfl ?_
        intro v158 h159
        refine rl_clearO (z0 := Point.z) rfl h159 (slO_le hy157) Try.underlying53 Try.zeroValue41 h71 (show k_Point.rep (G F Bb (un (inBlk av0) S2)) w152 Point.z (Point.enc Point.z) from rfl) ?_
        intro w160 c161 h162
        have ad163 : ∀ b, b < w152.heap.size → ¬ (un (inBlk av0) S2) b → ¬ (inBlk av0) b ∧ ¬ (un (inBlk av0) S2) b := fun b _ hs => ⟨fun h => hs (.inl h), hs⟩
        have c151 := c151.then c161 (fun i hi h => (lin0_0 i h).elim (fun x => x) (fun x => absurd x (Nat.not_le_of_lt hi)))
        refine RL.nil ?_
        refine thn_n ?_
        refine CW.seq (CW.region ?_)
        refine rl_move rfl rfl ?_
        refine rl_move rfl rfl ?_
        obtain ⟨y164, hy165, hb11⟩ := bindS hb11
        refine rl_cutO (kl := .i64) (kh := .i64) none (some x68) rfl h162 trivial rfl rfl hy165 Try.underlying53 Try.sizeOf41 rfl ?_
        intro v166 hb168 h167
        have lin169 : ∀ b, inBlk v166 b → (inBlk av0) b ∨ w.heap.size ≤ b := linApp lin0_0 (fun b h => .inl ((hb168 b).1 h)) c151.size
        have hS170 : (un (inBlk av0) S2) = (un (inBlk v166) S2) := by rw [show inBlk v166 = inBlk av0 from funext fun b => propext (hb168 b)]
        rw [hS170] at h167
        refine rl_assign rfl rfl ?_
        refine RL.nil ?_
        refine thn_n ?_
        refine CW.ret ?_
        refine inB_ret ?_
        refine thn_ret ?_
        refine thn_ret (inB_ret (thn_ret ?_))
        refine thn_ret ?_
        have f171 := runW_ret hL7 hq10 hb11
        have hS := retS f171 hS
        obtain rfl := Option.some.inj hS
        exact ret1 rfl ⟨v166, rfl, h167, lin169, c151⟩
      ·
       have hb11 := ifF q63 hb11
       refine CW.skip ?_
       refine inB_n ?_
       refine thn_n ?_
       refine CW.region ?_
       refine rl_move rfl rfl ?_
       refine rl_bin rfl rfl B.add rfl ?_
       refine rl_assign rfl rfl ?_
       refine RL.nil ?_
       refine thn_n ?_
       have hLn := runW_next hL7 hq10 hb11
       exact ⟨k16, Nat.lt_succ_self _, [(0, av0), (3, (Value.int .i64 (IntKind.i64.wrap (x2 + 1))))], ⟨rfl, rfl, trivial⟩, ⟨IntKind.i64.wrap (x2 + 1), x3, rfl, c17, hLn, h4⟩⟩
    ·
     have hb11 := ifF q20 hb11
     refine CW.exit ?_
     refine thn_exit ?_
     refine thn_exit ?_
     refine inB_hit ?_
     have hLf := runW_fin hL7 hq10 hb11
     exact ⟨x2, x3, ⟨rfl, trivial⟩, c17, hLf, h4⟩
   ·
    rintro _ w173 ⟨x2, x3, hE174, c172, f175, h4⟩
    have hS := finS f175 hS
    refine thn_n (CW.sub [(0, av0)] hE174 ?_)
    refine CW.seq (CW.region ?_)
    refine rl_move rfl rfl ?_
    refine rl_assign rfl rfl ?_
    refine RL.nil ?_
    refine thn_n ?_
    refine CW.ret ?_
    obtain rfl := Option.some.inj hS
    exact ret1 rfl ⟨av0, rfl, h4, lin0_0, c172⟩
/-- lb/ports.Sort -/
theorem ctr38 (F : Nat → Prop) (w : World) (a0 : (List Point)) (av0 : Value) (ah0 : slRep k_Point F w a0 av0) (r : (List Point)) (hs : F38_ports_Sort a0 = some r) :
    Ret Try.prog 38 #[av0] w fun v w' => ∃ (y0 : Value), v = y0 ∧ SlO k_Point 41 F w.heap.size (inBlk y0) w' r y0 ∧ Ch nb w w' := by
  have hS := hs
  have c0 : Ch nb w w := Ch.refl
  have ah0 := slRep.enter k_Point_pos ah0
  refine Ret.of (n := 10) (args := [_]) (rs := [.tmp 2]) Try.func38 rfl rfl rfl rfl ?_
  refine CW.seq (CW.region ?_)
  refine rl_assign rfl rfl ?_
  refine RL.nil ?_
  refine thn_n ?_
  refine CW.seq (CW.region ?_)
  refine rl_move rfl rfl ?_
  obtain ⟨y3, hy4, hS⟩ := bindS hS
  refine rl_callF rfl en54 rfl (ctr54 (G F w.heap.size nb) w a0 av0 ah0 y3 hy4) ?_
  rintro v5 w1 ⟨_, rfl, h6, c2⟩
  have hf7 : ∀ b, inBlk v5 b → w.heap.size ≤ b := fun b hb => (h6.lt b hb).1
  have h6 := SlO.back (S' := un (inBlk v5) nb) h6 nbS c0.size (fun _ => Or.comm)
  have ah0 := slRep.st k_Point_pos ah0 c2 (admNew hf7 (fun _ x => x))
  have c0 := c0.then0 c2
  refine rl_assign rfl rfl ?_
  refine RL.nil ?_
  refine thn_n ?_
  refine CW.seq (CW.region ?_)
  refine rl_move rfl rfl ?_
  have hd8 : ∀ b, (inBlk v5) b → ¬ nb b := fun b h => (fun b hb => fun h => h) b h
  have hS9 : (un (inBlk v5) nb) = (un (inBlk v5) nb) := rfl
  have ha10 := (show (Kd.fn2 Try.prog true true k_Point k_Point (Value.int .i64)).rep (G F w.heap.size (un (inBlk v5) nb)) w1 (fun x0 x1 => F56_ports_Compare x0 x1) [(Value.func (.func 56) #[] [].toArray)] from ⟨56, [], rfl, en56, fun w' hw F' x0 x1 c0 c1 hx0 hx1 => by
      obtain rfl := hx0
      obtain rfl := hx1
      exact (ctr56 (fun b => (G F w.heap.size (un (inBlk v5) nb)) b ∨ F' b) w' x0 x1 _ rfl).mono (by rintro v w'' ⟨rfl, c⟩; exact ⟨rfl, c⟩)⟩)
  rw [hS9] at ha10
  obtain ⟨y13, hy14, hS⟩ := bindS hS
  refine rl_callF rfl en55 rfl (ctr55 F w1 w.heap.size nb c0.size nbS v5 hd8  y3 (hS9 ▸ h6) (fun x0 x1 => F56_ports_Compare x0 x1) (Value.func (.func 56) #[] [].toArray) ha10 y13 hy14) ?_
  rintro _ w11 ⟨rfl, h15, c12⟩
  rw [← hS9] at h15
  have ad16 : ∀ b, b < w1.heap.size → ¬ (un (inBlk v5) nb) b → ¬ (inBlk v5) b ∧ ¬ (un (inBlk v5) nb) b := fun b _ hs => ⟨fun h => hs (.inl h), hs⟩
  have ah0 := slRep.st k_Point_pos ah0 c12 ad16
  have c0 := c0.then c12 (fun i hi h => absurd ((fun b hb => (h6.lt b hb).1) i h) (Nat.not_le_of_lt hi))
  refine RL.nil ?_
  refine thn_n ?_
  refine CW.seq (CW.region ?_)
  refine rl_move rfl rfl ?_
  have hd17 : ∀ b, (inBlk v5) b → ¬ nb b := fun b h => (fun b hb => fun h => h) b h
  have hS18 : (un (inBlk v5) nb) = (un (inBlk v5) nb) := rfl
  obtain ⟨y21, hy22, hS⟩ := bindS hS
  refine rl_callF rfl en57 rfl (ctr57 F w11 w.heap.size nb c0.size nbS v5 hd17  y13 (hS18 ▸ h15) y21 hy22) ?_
  rintro v23 w19 ⟨_, rfl, h24, hf25, c20⟩
  have ha26 : ∀ b, b < w11.heap.size → ¬ (un (inBlk v5) nb) b → ¬ inBlk v5 b ∧ ¬ (un (inBlk v23) nb) b := by rw [hS18]; exact admApp hf25
  have ah0 := slRep.st k_Point_pos ah0 c20 ha26
  have c0 := c0.then c20 (fun i hi h => absurd ((fun b hb => (h15.lt b hb).1) i h) (Nat.not_le_of_lt hi))
  refine rl_assign rfl rfl ?_
  refine RL.nil ?_
  refine thn_n ?_
  refine CW.ret ?_
  obtain rfl := Option.some.inj hS
  exact ret1 rfl ⟨v23, rfl, h24.out, c0⟩
/-- lb/pick.Points -/
theorem ctr21 (F : Nat → Prop) (w : World) (a0 : (List Slice)) (av0 : Value) (ah0 : slRep k_Slice F w a0 av0) (a1 : Want) (r : (List Point)) (hs : F21_pick_Points a0 a1 = some r) :
    Ret Try.prog 21 #[av0, (Value.agg (Want.enc a1).toArray)] w fun v w' => ∃ (y0 : Value), v = y0 ∧ SlO k_Point 41 F w.heap.size (inBlk y0) w' r y0 ∧ Ch nb w w' := by
  have hS := hs
  have c0 : Ch nb w w := Ch.refl
  have ah0 := slRep.enter k_Slice_pos ah0
  refine Ret.of (n := 26) (args := [_, _]) (rs := [.tmp 4]) Try.func21 rfl rfl rfl rfl ?_
  refine CW.seq (CW.region ?_)
  refine rl_boxA (cs := (Want.enc a1)) rfl rfl ?_
  intro p1 w2 n3 k4
  have gp1 : (G F w.heap.size nb) p1 := ⟨.inr (by rw [n3.eq]; exact c0.size), fun h => absurd (nbS _ h) (by rw [n3.eq]; exact Nat.lt_irrefl _)⟩
  have ah0 := slRep.ch k_Slice_pos ah0 n3.ch
  have c0 := c0.then0 n3.ch
  refine rl_assign rfl rfl ?_
  refine RL.nil ?_
  refine thn_n ?_
  refine CW.seq (CW.region ?_)
  refine rl_assign rfl rfl ?_
  refine RL.nil ?_
  refine thn_n ?_
  refine CW.seq ?_
  refine CW.seq ?_
  obtain ⟨y7, hy8, hS⟩ := bindS hS
  obtain ⟨y13, hy14, hS⟩ := bindS hS
  refine CW.draw 7 [(none, fun _ O uu wx => uu = av0), (none, fun _ O uu wx => uu = (Value.agg (Want.enc a1).toArray)), (none, fun _ O uu wx => ∃ (v9 : Value), uu = v9 ∧ slRep k_Candidate (G F w.heap.size nb) wx y7 v9), (none, fun _ O uu wx => uu = (Value.agg (Want.enc a1).toArray)), (none, fun _ O uu wx => ∃ (v15 : Value), uu = v15 ∧ slRep k_Candidate (G F w.heap.size nb) wx y13 v15), (none, fun _ O uu wx => uu = (Value.int .i64 ((y13.length : Nat) : Int))), (none, fun _ O uu wx => uu = (Value.int .i64 0))] [[], [], [0, 1], [], [2, 3], [4], []] [4, 5, 6] nb (fun _ h => h.elim) mixed rfl rfl rfl rfl ?_ ?_
  ·
   refine Each.consA ⟨fun _ _ _ _ _ _ h => h, fun h => absurd rfl h, fun O wk hO ck => ?_⟩ ?_
   ·
    have ah0 := slRep.ch k_Slice_pos ah0 ck
    have k4 := k4.ch0 ck
    have c0 := c0.then0 ck
    refine rl_move rfl rfl ?_
    exact RL.nil ⟨_, rfl, Ch.refl, rfl⟩
   refine Each.consA ⟨fun _ _ _ _ _ _ h => h, fun h => absurd rfl h, fun O wk hO ck => ?_⟩ ?_
   ·
    have ah0 := slRep.ch k_Slice_pos ah0 ck
    have k4 := k4.ch0 ck
    have c0 := c0.then0 ck
    refine rl_loadA (cs := (Want.enc a1)) rfl Try.isAgg24 Try.sizeOf24 (k4.segAt 0 7) rfl rfl ?_
    exact RL.nil ⟨_, rfl, Ch.refl, rfl⟩
   refine Each.consA ⟨fun _ _ _ _ _ cc hh => by obtain ⟨v9, e, h10⟩ := hh; exact ⟨v9, e, slRep.ch k_Candidate_pos h10 cc⟩, fun h => absurd rfl h, fun O wk hO ck => ?_⟩ ?_
   ·
    have ah0 := slRep.ch k_Slice_pos ah0 ck
    have k4 := k4.ch0 ck
    have c0 := c0.then0 ck
    refine Need.one rfl rfl rfl ?_
    rintro _ e17
    obtain rfl := e17.symm
    refine Need.one rfl rfl rfl ?_
    rintro _ e18
    obtain rfl := e18.symm
    refine rl_callF rfl en18 rfl (ctr18 (G F w.heap.size nb) wk a0 av0 ah0 a1 y7 hy8) ?_
    rintro v21 w19 ⟨_, rfl, h22, c20⟩
    have h22 := SlO.backR k_Candidate_pos h22 nbS c0.size
    have ah0 := slRep.ch k_Slice_pos ah0 c20
    have k4 := k4.ch0 c20
    have c0 := c0.then0 c20
    exact RL.nil ⟨_, rfl, c20, ⟨v21, rfl, h22⟩⟩
   refine Each.consA ⟨fun _ _ _ _ _ _ h => h, fun h => absurd rfl h, fun O wk hO ck => ?_⟩ ?_
   ·
    have ah0 := slRep.ch k_Slice_pos ah0 ck
    have k4 := k4.ch0 ck
    have c0 := c0.then0 ck
    refine rl_loadA (cs := (Want.enc a1)) rfl Try.isAgg24 Try.sizeOf24 (k4.segAt 0 7) rfl rfl ?_
    exact RL.nil ⟨_, rfl, Ch.refl, rfl⟩
   refine Each.consA ⟨fun _ _ _ _ _ cc hh => by obtain ⟨v15, e, h16⟩ := hh; exact ⟨v15, e, slRep.ch k_Candidate_pos h16 cc⟩, fun h => absurd rfl h, fun O wk hO ck => ?_⟩ ?_
   ·
    have ah0 := slRep.ch k_Slice_pos ah0 ck
    have k4 := k4.ch0 ck
    have c0 := c0.then0 ck
    refine Need.one rfl rfl rfl ?_
    rintro _ ⟨v9, e23, h10⟩
    obtain rfl := e23.symm
    refine Need.one rfl rfl rfl ?_
    rintro _ e24
    obtain rfl := e24.symm
    refine rl_callF rfl en13 rfl (ctr13 (G F w.heap.size nb) wk y7 v9 h10 a1 y13 hy14) ?_
    rintro v27 w25 ⟨_, rfl, h28, c26⟩
    have h28 := SlO.backR k_Candidate_pos h28 nbS c0.size
    have ah0 := slRep.ch k_Slice_pos ah0 c26
    have k4 := k4.ch0 c26
    have h10 := slRep.ch k_Candidate_pos h10 c26
    have c0 := c0.then0 c26
    exact RL.nil ⟨_, rfl, c26, ⟨v27, rfl, h28⟩⟩
   refine Each.consA ⟨fun _ _ _ _ _ _ h => h, fun h => absurd rfl h, fun O wk hO ck => ?_⟩ ?_
   ·
    have ah0 := slRep.ch k_Slice_pos ah0 ck
    have k4 := k4.ch0 ck
    have c0 := c0.then0 ck
    refine Need.one rfl rfl rfl ?_
    rintro _ ⟨v15, e29, h16⟩
    obtain rfl := e29.symm
    refine rl_lenR rfl h16 Try.underlying22 rfl ?_
    exact RL.nil ⟨_, rfl, Ch.refl, rfl⟩
   refine Each.consA ⟨fun _ _ _ _ _ _ h => h, fun h => absurd rfl h, fun O wk hO ck => ?_⟩ ?_
   ·
    have ah0 := slRep.ch k_Slice_pos ah0 ck
    have k4 := k4.ch0 ck
    have c0 := c0.then0 ck
    refine rl_move rfl rfl ?_
    exact RL.nil ⟨_, rfl, Ch.refl, rfl⟩
   trivial
  ·
   intro hvO32 OpO32 O32 w30 hO33 c31 hN34
   have ah0 := slRep.ch k_Slice_pos ah0 c31
   have k4 := k4.ch0 c31
   have c0 := c0.then0 c31
   refine Need.one rfl rfl rfl ?_
   rintro _ ⟨v15, e35, h16⟩
   obtain rfl := e35.symm
   refine Need.one rfl rfl rfl ?_
   rintro _ e36
   obtain rfl := e36.symm
   refine Need.one rfl rfl rfl ?_
   rintro _ e37
   obtain rfl := e37.symm
   refine RL.nil ?_
   refine thn_n ?_
   have crf : Ch nb w30 w30 := Ch.refl
   have ah0 := slRep.st k_Slice_pos ah0 crf admNil
   have gp1n : (G F w.heap.size (un (inBlk (Value.slice none 0 0)) nb)) p1 := ⟨gp1.1, (admNil _ k4.lt gp1.2).2⟩
   have k4 := k4.ch0 crf
   have gp1 := gp1n
   have h16 := slRep.st k_Candidate_pos h16 crf admNil
   have c0 := c0.then0 crf
   have h38 : SlO k_Point 41 F w.heap.size (un (inBlk (Value.slice none 0 0)) nb) w30 ([] : List Point) (.slice none 0 0) := SlO.nil
   obtain ⟨o49, ho50, hS⟩ := bindS hS
   refine CW.cutB (fun E' w' => ∃ (x39 : (List Point)) (v40 : Value), Sub [(5, v40)] E' ∧ Ch nb w w' ∧ x39 = o49 ∧ slRep k_Slice (G F w.heap.size (un (inBlk v40) nb)) w' a0 av0 ∧ Blk w' p1 24 (Want.enc a1) ∧ slRep k_Candidate (G F w.heap.size (un (inBlk v40) nb)) w' y13 v15 ∧ SlO k_Point 41 F w.heap.size (un (inBlk v40) nb) w' x39 v40 ∧ (G F w.heap.size (un (inBlk v40) nb)) p1) ?_ ?_
   ·
    refine CW.loopS [(12, v15), (13, (Value.int .i64 ((y13.length : Nat) : Int))), (5, (Value.slice none 0 0)), (14, (Value.int .i64 ((0 : Nat) : Int)))] ⟨rfl, rfl, rfl, rfl, trivial⟩ y13.length (fun m E w' => ∃ (rest42 : List Candidate) (i43 : Nat) (x39 : (List Point)) (v40 : Value), m = rest42.length ∧ E = [(12, v15), (13, (Value.int .i64 ((y13.length : Nat) : Int))), (5, v40), (14, (Value.int .i64 ((i43 : Nat) : Int)))] ∧ Ch nb w w' ∧ At y13 i43 rest42 ∧ runAO F21_pick_Points_b1 rest42 x39 = some o49 ∧ slRep k_Slice (G F w.heap.size (un (inBlk v40) nb)) w' a0 av0 ∧ Blk w' p1 24 (Want.enc a1) ∧ slRep k_Candidate (G F w.heap.size (un (inBlk v40) nb)) w' y13 v15 ∧ SlO k_Point 41 F w.heap.size (un (inBlk v40) nb) w' x39 v40 ∧ (G F w.heap.size (un (inBlk v40) nb)) p1)
        ⟨y13, 0, ([] : List Point), (Value.slice none 0 0), rfl, rfl, c0, At.start, ho50, ah0, k4, h16, h38, gp1⟩ ?_
    rintro _ _ w55 ⟨rest42, i43, x39, v40, rfl, rfl, c54, hat45, hL44, ah0, k4, h16, h41, gp1⟩
    refine CW.seq (CW.region ?_)
    refine rl_bin rfl rfl B.lss rfl ?_
    refine RL.nil (thn_n ?_)
    refine CW.seq ?_
    refine CW.cond (t := decide (((i43 : Nat) : Int) < ((y13.length : Nat) : Int))) rfl (fun q57 => ?_) (fun q57 => ?_)
    ·
     obtain ⟨x51, rest58, rfl⟩ := hat45.cons q57
     obtain ⟨q46, hq47⟩ := runAO_some hL44
     have hb48 := hq47
     refine CW.skip (thn_n ?_)
     refine CW.seq ?_
     refine CW.block ?_
     refine CW.seq (CW.region ?_)
     refine rl_ixR rfl h16 rfl hat45.get Try.underlying22 Try.sizeOf44 rfl ?_
     intro p59 o60 cs61 hr62 hs63 hg64
     obtain ⟨z65, rfl, h66⟩ := hr62
     refine rl_loadA (cs := (Candidate.c x51 z65)) rfl Try.isAgg44 Try.sizeOf44 (hs63) rfl rfl ?_
     refine rl_alloc (Candidate.c Candidate.z (Value.slice none 0 0)) Try.zeroValue44 rfl rfl ?_
     intro p67 w68 n69 k70
     have lo71 : ∀ b, inBlk (Value.pointer (some ⟨p67, 0, none⟩)) b → w.heap.size ≤ b := fun b h => Nat.le_trans c54.size (n69.fresh b h)
     have d72 : ∀ b, inBlk (Value.pointer (some ⟨p67, 0, none⟩)) b → ¬ inBlk v40 b := disNew n69.fresh (fun b hb => (h41.lt b hb).2)
     have ah0 := slRep.st k_Slice_pos ah0 n69.ch (admNew n69.fresh (fun _ x => x))
     have gp1n : (G F w.heap.size (un (inBlk (Value.pointer (some ⟨p67, 0, none⟩))) (un (inBlk v40) nb))) p1 := ⟨gp1.1, ((admNew n69.fresh (fun _ x => x)) _ k4.lt gp1.2).2⟩
     have k4 := k4.ch0 n69.ch
     have gp1 := gp1n
     have h16 := slRep.st k_Candidate_pos h16 n69.ch (admNew n69.fresh (fun _ x => x))
     have h41 := h41.st n69.ch (fun _ _ x => x) (admNew n69.fresh (fun _ x => x)) (fun b h => (.inr (.inl h)))
     have h66 := slRep.st kStr_pos h66 n69.ch (admNew n69.fresh (fun _ x => x))
     have c54 := c54.then0 n69.ch
     refine rl_storeA (vs := (Candidate.c x51 z65)) rfl rfl (Kd.one _ (show k_Candidate.rep (G F w.heap.size (un (inBlk (Value.pointer (some ⟨p67, 0, none⟩))) (un (inBlk v40) nb))) w68 x51 (Candidate.c x51 z65) from ⟨z65, rfl, h66⟩)) Try.sizeOf44 rfl k70 rfl ?_
     intro w73 s75 c74 k76
     have ad77 : ∀ b, b < w68.heap.size → ¬ (un (inBlk (Value.pointer (some ⟨p67, 0, none⟩))) (un (inBlk v40) nb)) b → ¬ (inBlk (Value.pointer (some ⟨p67, 0, none⟩))) b ∧ ¬ (un (inBlk (Value.pointer (some ⟨p67, 0, none⟩))) (un (inBlk v40) nb)) b := fun b _ hs => ⟨fun h => hs (.inl h), hs⟩
     have ah0 := slRep.st k_Slice_pos ah0 c74 ad77
     have k4 := k4.ch c74 (ad77 _ k4.lt gp1.2).1
     have h16 := slRep.st k_Candidate_pos h16 c74 ad77
     have h41 := h41.st c74 (fun b hb h => (disSym d72) b hb h) ad77 (fun b h => (.inr (.inl h)))
     have h66 := slRep.st kStr_pos h66 c74 ad77
     have c54 := c54.then c74 (fun i hi h => absurd (lo71 i h) (Nat.not_le_of_lt hi))
     refine RL.nil ?_
     refine thn_n ?_
     refine CW.region ?_
     refine rl_move rfl rfl ?_
     refine rl_fieldAddr rfl fa44_0 rfl ?_
     refine rl_loadA (cs := (Point.enc x51.point)) rfl Try.isAgg41 Try.sizeOf41 (k76.segAt 0 18) rfl rfl ?_
     refine rl_bslice (k := k_Point) (F := F) (B := w.heap.size) (S := (un (inBlk (Value.pointer (some ⟨p67, 0, none⟩))) (un (inBlk v40) nb))) ([x51.point] : List Point) rfl k_Point_pos Try.underlying53 Try.sizeOf41 Try.zeroValue41 rfl rfl ⟨rfl, rfl, trivial⟩ c54.size (un_lt k76.ltp (un_lt (fun b hb => (h41.lt b hb).2) nbS)) rfl ?_
     intro v78 w79 c80 hf81 h82
     have h82 := h82.readNew k_Point_pos hf81 (un_lt k76.ltp (un_lt (fun b hb => (h41.lt b hb).2) nbS))
     have ah0 := slRep.ch k_Slice_pos ah0 c80
     have k4 := k4.ch0 c80
     have h16 := slRep.ch k_Candidate_pos h16 c80
     have h41 := h41.ch0 c80
     have h66 := slRep.ch kStr_pos h66 c80
     have k76 := k76.ch0 c80
     have c54 := c54.then0 c80
     obtain ⟨z91, hz92, hb48⟩ := bindS hb48
     have hl := (apO_get hz92).1
     refine rl_append (k := k_Point) (T := 41) (F := F) (B := w.heap.size) (S := (un (inBlk (Value.pointer (some ⟨p67, 0, none⟩))) (un (inBlk v40) nb))) (S2 := (un (inBlk (Value.pointer (some ⟨p67, 0, none⟩))) nb)) (fun v => (un (inBlk (Value.pointer (some ⟨p67, 0, none⟩))) (un (inBlk v) nb))) rfl rfl k_Point_pos ap53 h41 h82 (fun _ => un_swap) (fun _ _ => un_swap) hl c54.size (un_lt k76.ltp (un_lt (fun b hb => (h41.lt b hb).2) nbS)) rfl ?_
     intro v85 w86 h87 c88 hf89 ha90
     have d93 : ∀ b, inBlk v85 b → ¬ inBlk (Value.pointer (some ⟨p67, 0, none⟩)) b := disApp hf89 (disSym d72) k76.ltp
     have ah0 := slRep.st k_Slice_pos ah0 c88 ha90
     have gp1n : (G F w.heap.size (un (inBlk (Value.pointer (some ⟨p67, 0, none⟩))) (un (inBlk v85) nb))) p1 := ⟨gp1.1, (ha90 _ k4.lt gp1.2).2⟩
     have k4 := k4.ch c88 (ha90 _ k4.lt gp1.2).1
     have gp1 := gp1n
     have h16 := slRep.st k_Candidate_pos h16 c88 ha90
     have h66 := slRep.st kStr_pos h66 c88 ha90
     have k76 := k76.ch c88 ((fun b hb h => d72 b hb h) _ rfl)
     have h82 := slRep.st k_Point_pos h82 c88 ha90
     have c54 := c54.then c88 (fun i hi h => absurd ((fun b hb => (h41.lt b hb).1) i h) (Nat.not_le_of_lt hi))
     refine rl_assign rfl rfl ?_
     refine RL.nil ?_
     refine inB_n ?_
     refine thn_n ?_
     refine CW.region ?_
     refine rl_inc rfl hat45.lt h16.big rfl ?_
     refine rl_move rfl rfl ?_
     refine RL.nil ?_
     refine thn_n ?_
     have crf : Ch nb w86 w86 := Ch.refl
     have ah0 := slRep.st k_Slice_pos ah0 crf (show ∀ b, b < w86.heap.size → ¬ (un (inBlk (Value.pointer (some ⟨p67, 0, none⟩))) (un (inBlk v85) nb)) b → ¬ nb b ∧ ¬ (un (inBlk v85) nb) b from fun b _ hs => ⟨fun x => x, fun h => hs (un_el h (fun h => (.inr (.inl h))) (fun h => False.elim h))⟩)
     have gp1n : (G F w.heap.size (un (inBlk v85) nb)) p1 := ⟨gp1.1, ((show ∀ b, b < w86.heap.size → ¬ (un (inBlk (Value.pointer (some ⟨p67, 0, none⟩))) (un (inBlk v85) nb)) b → ¬ nb b ∧ ¬ (un (inBlk v85) nb) b from fun b _ hs => ⟨fun x => x, fun h => hs (un_el h (fun h => (.inr (.inl h))) (fun h => False.elim h))⟩) _ k4.lt gp1.2).2⟩
     have k4 := k4.ch0 crf
     have gp1 := gp1n
     have h16 := slRep.st k_Candidate_pos h16 crf (show ∀ b, b < w86.heap.size → ¬ (un (inBlk (Value.pointer (some ⟨p67, 0, none⟩))) (un (inBlk v85) nb)) b → ¬ nb b ∧ ¬ (un (inBlk v85) nb) b from fun b _ hs => ⟨fun x => x, fun h => hs (un_el h (fun h => (.inr (.inl h))) (fun h => False.elim h))⟩)
     have h66 := slRep.st kStr_pos h66 crf (show ∀ b, b < w86.heap.size → ¬ (un (inBlk (Value.pointer (some ⟨p67, 0, none⟩))) (un (inBlk v85) nb)) b → ¬ nb b ∧ ¬ (un (inBlk v85) nb) b from fun b _ hs => ⟨fun x => x, fun h => hs (un_el h (fun h => (.inr (.inl h))) (fun h => False.elim h))⟩)
     have h82 := slRep.st k_Point_pos h82 crf (show ∀ b, b < w86.heap.size → ¬ (un (inBlk (Value.pointer (some ⟨p67, 0, none⟩))) (un (inBlk v85) nb)) b → ¬ nb b ∧ ¬ (un (inBlk v85) nb) b from fun b _ hs => ⟨fun x => x, fun h => hs (un_el h (fun h => (.inr (.inl h))) (fun h => False.elim h))⟩)
     have h87 := h87.st crf (fun _ _ x => x) (show ∀ b, b < w86.heap.size → ¬ (un (inBlk (Value.pointer (some ⟨p67, 0, none⟩))) (un (inBlk v85) nb)) b → ¬ nb b ∧ ¬ (un (inBlk v85) nb) b from fun b _ hs => ⟨fun x => x, fun h => hs (un_el h (fun h => (.inr (.inl h))) (fun h => False.elim h))⟩) (fun b h => (.inl h))
     have c54 := c54.then0 crf
     have hLn := runAO_next hL44 hq47 hb48
     exact ⟨rest58.length, Nat.lt_succ_self _, [(12, v15), (13, (Value.int .i64 ((y13.length : Nat) : Int))), (5, v85), (14, (Value.int .i64 ((i43 + 1 : Nat) : Int)))], ⟨rfl, rfl, rfl, rfl, trivial⟩, ⟨rest58, i43 + 1, x39 ++ [x51.point], v85, rfl, rfl, c54, hat45.next, hLn, ah0, k4, h16, h87, gp1⟩⟩
    ·
     obtain rfl := hat45.nil q57
     have hLf : x39 = o49 := runAO_done hL44
     refine CW.exit (thn_exit (thn_exit (inB_hit ?_)))
     exact ⟨x39, v40, ⟨rfl, trivial⟩, c54, hLf, ah0, k4, h16, h41, gp1⟩
   ·
    rintro _ w95 ⟨x39, v40, hE96, c94, f97, ah0, k4, h16, h41, gp1⟩
    subst f97
    refine thn_n (CW.sub [(5, v40)] hE96 ?_)
    refine CW.seq (CW.region ?_)
    refine rl_move rfl rfl ?_
    have h41 := SlO.read (S' := nb) k_Point_pos h41 (fun b hs h => hs (False.elim h)) (fun b hb => fun h => h)
    have crf : Ch nb w95 w95 := Ch.refl
    have ah0 := slRep.st k_Slice_pos ah0 crf (show ∀ b, b < w95.heap.size → ¬ (un (inBlk v40) nb) b → ¬ nb b ∧ ¬ nb b from fun b _ hs => ⟨fun x => x, fun h => hs (False.elim h)⟩)
    have gp1n : (G F w.heap.size nb) p1 := ⟨gp1.1, ((show ∀ b, b < w95.heap.size → ¬ (un (inBlk v40) nb) b → ¬ nb b ∧ ¬ nb b from fun b _ hs => ⟨fun x => x, fun h => hs (False.elim h)⟩) _ k4.lt gp1.2).2⟩
    have k4 := k4.ch0 crf
    have gp1 := gp1n
    have h16 := slRep.st k_Candidate_pos h16 crf (show ∀ b, b < w95.heap.size → ¬ (un (inBlk v40) nb) b → ¬ nb b ∧ ¬ nb b from fun b _ hs => ⟨fun x => x, fun h => hs (False.elim h)⟩)
    have c94 := c94.then0 crf
    obtain ⟨y101, hy102, hS⟩ := bindS hS
    refine rl_callF rfl en38 rfl (ctr38 (G F w.heap.size nb) w95 x39 v40 h41 y101 hy102) ?_
    rintro v103 w99 ⟨_, rfl, h104, c100⟩
    have hf105 : ∀ b, inBlk v103 b → w95.heap.size ≤ b := fun b hb => (h104.lt b hb).1
    have h104 := SlO.back (S' := un (inBlk v103) nb) h104 nbS c94.size (fun _ => Or.comm)
    have ah0 := slRep.st k_Slice_pos ah0 c100 (admNew hf105 (fun _ x => x))
    have gp1n : (G F w.heap.size (un (inBlk v103) nb)) p1 := ⟨gp1.1, ((admNew hf105 (fun _ x => x)) _ k4.lt gp1.2).2⟩
    have k4 := k4.ch0 c100
    have gp1 := gp1n
    have h16 := slRep.st k_Candidate_pos h16 c100 (admNew hf105 (fun _ x => x))
    have h41 := slRep.st k_Point_pos h41 c100 (admNew hf105 (fun _ x => x))
    have c94 := c94.then0 c100
    refine rl_assign rfl rfl ?_
    refine RL.nil ?_
    refine thn_n ?_
    refine CW.ret ?_
    obtain rfl := Option.some.inj hS
    exact ret1 rfl ⟨v103, rfl, h104.out, c94⟩
/-- lb/lbref19.Usable -/
theorem ctr12 (F : Nat → Prop) (w : World) (a0 : (List Candidate)) (av0 : Value) (ah0 : slRep k_Candidate F w a0 av0) (r : (List Candidate)) (hs : F12_linkboyref19_Usable a0 = some r) :
    Ret Try.prog 12 #[av0] w fun v w' => ∃ (y0 : Value), v = y0 ∧ SlO k_Candidate 58 F w.heap.size (inBlk y0) w' r y0 ∧ Ch nb w w' := by
  have hS := hs
  have c0 : Ch nb w w := Ch.refl
  have ah0 := slRep.enter k_Candidate_pos ah0
  refine Ret.of (n := 37) (args := [_]) (rs := [.tmp 2]) Try.func12 rfl rfl rfl rfl ?_
  refine CW.seq (CW.region ?_)
  refine rl_assign rfl rfl ?_
  refine RL.nil ?_
  refine thn_n ?_
  refine CW.seq (CW.region ?_)
  refine rl_bslice (k := k_Candidate) (F := F) (B := w.heap.size) (S := nb) ([] : List Candidate) rfl k_Candidate_pos Try.underlying28 Try.sizeOf58 Try.zeroValue58 rfl rfl trivial c0.size nbS rfl ?_
  intro v1 w2 c3 hf4 h5
  have ah0 := slRep.st k_Candidate_pos ah0 c3 (admNew hf4 (fun _ x => x))
  have c0 := c0.then0 c3
  refine rl_bslice (k := k_Candidate) (F := F) (B := w.heap.size) (S := (un (inBlk v1) nb)) ([] : List Candidate) rfl k_Candidate_pos Try.underlying28 Try.sizeOf58 Try.zeroValue58 rfl rfl trivial c0.size (un_lt (fun b hb => (h5.lt b hb).2) nbS) rfl ?_
  intro v6 w7 c8 hf9 h10
  have d11 : ∀ b, inBlk v6 b → ¬ inBlk v1 b := disNew hf9 (fun b hb => (h5.lt b hb).2)
  have ah0 := slRep.st k_Candidate_pos ah0 c8 (admNew hf9 (fun _ x => x))
  have h5 := h5.st c8 (fun _ _ x => x) (admNew hf9 (fun _ x => x)) (fun b h => (.inr (.inl h)))
  have c0 := c0.then0 c8
  refine rl_assign rfl rfl ?_
  refine rl_assign rfl rfl ?_
  refine RL.nil ?_
  refine thn_n ?_
  refine CW.seq ?_
  refine CW.seq (CW.region ?_)
  refine rl_move rfl rfl ?_
  refine rl_lenR rfl ah0 Try.underlying28 rfl ?_
  refine rl_move rfl rfl ?_
  refine RL.nil ?_
  refine thn_n ?_
  obtain ⟨o26, ho27, hS⟩ := bindS hS
  refine CW.cutB (fun E' w' => ∃ (x12 : (List Candidate)) (v13 : Value) (x15 : (List Candidate)) (v16 : Value), Sub [(3, v13), (4, v16)] E' ∧ Ch nb w w' ∧ (x12, x15) = o26 ∧ slRep k_Candidate (G F w.heap.size (un (inBlk v16) (un (inBlk v13) nb))) w' a0 av0 ∧ SlO k_Candidate 58 F w.heap.size (un (inBlk v16) (un (inBlk v13) nb)) w' x12 v13 ∧ SlO k_Candidate 58 F w.heap.size (un (inBlk v16) (un (inBlk v13) nb)) w' x15 v16 ∧ (∀ b, inBlk v16 b → ¬ inBlk v13 b)) ?_ ?_
  ·
   refine CW.loopS [(9, av0), (10, (Value.int .i64 ((a0.length : Nat) : Int))), (3, v1), (4, v6), (11, (Value.int .i64 ((0 : Nat) : Int)))] ⟨rfl, rfl, rfl, rfl, rfl, trivial⟩ a0.length (fun m E w' => ∃ (rest19 : List Candidate) (i20 : Nat) (x12 : (List Candidate)) (v13 : Value) (x15 : (List Candidate)) (v16 : Value), m = rest19.length ∧ E = [(9, av0), (10, (Value.int .i64 ((a0.length : Nat) : Int))), (3, v13), (4, v16), (11, (Value.int .i64 ((i20 : Nat) : Int)))] ∧ Ch nb w w' ∧ At a0 i20 rest19 ∧ runAO F12_linkboyref19_Usable_b1 rest19 (x12, x15) = some o26 ∧ slRep k_Candidate (G F w.heap.size (un (inBlk v16) (un (inBlk v13) nb))) w' a0 av0 ∧ SlO k_Candidate 58 F w.heap.size (un (inBlk v16) (un (inBlk v13) nb)) w' x12 v13 ∧ SlO k_Candidate 58 F w.heap.size (un (inBlk v16) (un (inBlk v13) nb)) w' x15 v16 ∧ (∀ b, inBlk v16 b → ¬ inBlk v13 b))
       ⟨a0, 0, [], v1, [], v6, rfl, rfl, c0, At.start, ho27, ah0, h5, h10, d11⟩ ?_
   rintro _ _ w32 ⟨rest19, i20, x12, v13, x15, v16, rfl, rfl, c31, hat22, hL21, ah0, h14, h17, d18⟩
   refine CW.seq (CW.region ?_)
   refine rl_bin rfl rfl B.lss rfl ?_
   refine RL.nil (thn_n ?_)
   refine CW.seq ?_
   refine CW.cond (t := decide (((i20 : Nat) : Int) < ((a0.length : Nat) : Int))) rfl (fun q34 => ?_) (fun q34 => ?_)
   ·
    obtain ⟨x28, rest35, rfl⟩ := hat22.cons q34
    obtain ⟨q23, hq24⟩ := runAO_some hL21
    have hb25 := hq24
    refine CW.skip (thn_n ?_)
    refine CW.seq ?_
    refine CW.block ?_
    refine CW.seq (CW.region ?_)
    refine rl_ixR rfl ah0 rfl hat22.get Try.underlying28 Try.sizeOf58 rfl ?_
    intro p36 o37 cs38 hr39 hs40 hg41
    obtain ⟨z42, rfl, h43⟩ := hr39
    refine rl_loadA (cs := (Candidate.c x28 z42)) rfl Try.isAgg58 Try.sizeOf58 (hs40) rfl rfl ?_
    refine rl_alloc (Candidate.c Candidate.z (Value.slice none 0 0)) Try.zeroValue58 rfl rfl ?_
    intro p44 w45 n46 k47
    have lo48 : ∀ b, inBlk (Value.pointer (some ⟨p44, 0, none⟩)) b → w.heap.size ≤ b := fun b h => Nat.le_trans c31.size (n46.fresh b h)
    have d49 : ∀ b, inBlk (Value.pointer (some ⟨p44, 0, none⟩)) b → ¬ inBlk v16 b := disNew n46.fresh (fun b hb => (h17.lt b hb).2)
    have d50 : ∀ b, inBlk (Value.pointer (some ⟨p44, 0, none⟩)) b → ¬ inBlk v13 b := disNew n46.fresh (fun b hb => (h14.lt b hb).2)
    have ah0 := slRep.st k_Candidate_pos ah0 n46.ch (admNew n46.fresh (fun _ x => x))
    have h14 := h14.st n46.ch (fun _ _ x => x) (admNew n46.fresh (fun _ x => x)) (fun b h => (.inr (.inr (.inl h))))
    have h17 := h17.st n46.ch (fun _ _ x => x) (admNew n46.fresh (fun _ x => x)) (fun b h => (.inr (.inl h)))
    have h43 := slRep.st kStr_pos h43 n46.ch (admNew n46.fresh (fun _ x => x))
    have c31 := c31.then0 n46.ch
    refine rl_storeA (vs := (Candidate.c x28 z42)) rfl rfl (Kd.one _ (show k_Candidate.rep (G F w.heap.size (un (inBlk (Value.pointer (some ⟨p44, 0, none⟩))) (un (inBlk v16) (un (inBlk v13) nb)))) w45 x28 (Candidate.c x28 z42) from ⟨z42, rfl, h43⟩)) Try.sizeOf58 rfl k47 rfl ?_
    intro w51 s53 c52 k54
    have ad55 : ∀ b, b < w45.heap.size → ¬ (un (inBlk (Value.pointer (some ⟨p44, 0, none⟩))) (un (inBlk v16) (un (inBlk v13) nb))) b → ¬ (inBlk (Value.pointer (some ⟨p44, 0, none⟩))) b ∧ ¬ (un (inBlk (Value.pointer (some ⟨p44, 0, none⟩))) (un (inBlk v16) (un (inBlk v13) nb))) b := fun b _ hs => ⟨fun h => hs (.inl h), hs⟩
    have ah0 := slRep.st k_Candidate_pos ah0 c52 ad55
    have h14 := h14.st c52 (fun b hb h => (disSym d50) b hb h) ad55 (fun b h => (.inr (.inr (.inl h))))
    have h17 := h17.st c52 (fun b hb h => (disSym d49) b hb h) ad55 (fun b h => (.inr (.inl h)))
    have h43 := slRep.st kStr_pos h43 c52 ad55
    have c31 := c31.then c52 (fun i hi h => absurd (lo48 i h) (Nat.not_le_of_lt hi))
    refine RL.nil ?_
    refine thn_n ?_
    refine CW.seq ?_
    refine CW.seq (CW.region ?_)
    refine rl_fieldAddr rfl fa58_2 rfl ?_
    refine rl_loadS (v := (Value.bool x28.ready)) rfl Try.isAgg4 (k54.cell rfl) rfl ?_
    refine RL.nil ?_
    refine thn_n ?_
    refine CW.cond (t := x28.ready) rfl (fun q56 => ?_) (fun q56 => ?_)
    ·
     have hb25 := ifT q56 hb25
     refine CW.region ?_
     refine rl_move rfl rfl ?_
     refine rl_loadA (cs := (Candidate.c x28 z42)) rfl Try.isAgg58 Try.sizeOf58 (k54.segAt 0 23) rfl rfl ?_
     refine rl_bslice (k := k_Candidate) (F := F) (B := w.heap.size) (S := (un (inBlk (Value.pointer (some ⟨p44, 0, none⟩))) (un (inBlk v16) (un (inBlk v13) nb)))) ([x28] : List Candidate) rfl k_Candidate_pos Try.underlying28 Try.sizeOf58 Try.zeroValue58 rfl rfl ⟨rfl, ⟨z42, rfl, h43⟩, trivial⟩ c31.size (un_lt k54.ltp (un_lt (fun b hb => (h17.lt b hb).2) (un_lt (fun b hb => (h14.lt b hb).2) nbS))) rfl ?_
     intro v57 w58 c59 hf60 h61
     have h61 := h61.readNew k_Candidate_pos hf60 (un_lt k54.ltp (un_lt (fun b hb => (h17.lt b hb).2) (un_lt (fun b hb => (h14.lt b hb).2) nbS)))
     have ah0 := slRep.ch k_Candidate_pos ah0 c59
     have h14 := h14.ch0 c59
     have h17 := h17.ch0 c59
     have h43 := slRep.ch kStr_pos h43 c59
     have k54 := k54.ch0 c59
     have c31 := c31.then0 c59
     obtain ⟨z70, hz71, hb25⟩ := bindS hb25
     have hl := (apO_get hz71).1
     refine rl_append (k := k_Candidate) (T := 58) (F := F) (B := w.heap.size) (S := (un (inBlk (Value.pointer (some ⟨p44, 0, none⟩))) (un (inBlk v16) (un (inBlk v13) nb)))) (S2 := (un (inBlk (Value.pointer (some ⟨p44, 0, none⟩))) (un (inBlk v16) nb))) (fun v => (un (inBlk (Value.pointer (some ⟨p44, 0, none⟩))) (un (inBlk v16) (un (inBlk v) nb)))) rfl rfl k_Candidate_pos ap28 h14 h61 (fun _ => un_swap3) (fun _ _ => un_swap3) hl c31.size (un_lt k54.ltp (un_lt (fun b hb => (h17.lt b hb).2) (un_lt (fun b hb => (h14.lt b hb).2) nbS))) rfl ?_
     intro v64 w65 h66 c67 hf68 ha69
     have d72 : ∀ b, inBlk v64 b → ¬ inBlk (Value.pointer (some ⟨p44, 0, none⟩)) b := disApp hf68 (disSym d50) k54.ltp
     have d73 : ∀ b, inBlk v64 b → ¬ inBlk v16 b := disApp hf68 (disSym d18) (fun b hb => (h17.lt b hb).2)
     have ah0 := slRep.st k_Candidate_pos ah0 c67 ha69
     have h17 := h17.st c67 (fun b hb h => d18 b hb h) ha69 (fun b h => (.inr (.inl h)))
     have h43 := slRep.st kStr_pos h43 c67 ha69
     have k54 := k54.ch c67 ((fun b hb h => d50 b hb h) _ rfl)
     have h61 := slRep.st k_Candidate_pos h61 c67 ha69
     have c31 := c31.then c67 (fun i hi h => absurd ((fun b hb => (h14.lt b hb).1) i h) (Nat.not_le_of_lt hi))
     refine rl_assign rfl rfl ?_
     refine RL.nil ?_
     refine thn_n ?_
     refine CW.seq (CW.region ?_)
     refine rl_fieldAddr rfl fa58_3 rfl ?_
     refine rl_loadS (v := (Value.bool x28.serving)) rfl Try.isAgg4 (k54.cell rfl) rfl ?_
     refine rl_move rfl rfl ?_
     obtain ⟨b76, hb77⟩ : ∃ v, (x28.serving && x28.terminating) = v := ⟨_, rfl⟩
     have hb25 := ltS hb77 hb25
     refine RL.join 3 26 (.bool b76) (fun w' => Ch nb w65 w') ?_ ?_
     · rcases Bool.eq_false_or_eq_true x28.serving with hg75 | hg75
       ·
        have hs74 := and_t hg75 hb77
        have cs : Ch nb w65 w65 := Ch.refl
        refine RL.yes rfl rfl rfl hg75 ?_
        refine rl_fieldAddr rfl fa58_4 rfl ?_
        refine RL.yes rfl rfl rfl hg75 ?_
        refine rl_loadS (v := (Value.bool x28.terminating)) rfl Try.isAgg4 (k54.cell rfl) rfl ?_
        refine rl_pickT rfl hg75 rfl rfl ?_
        exact RL.nil ⟨Ext.bothEq (congrArg Value.bool hs74) (Ext.skip rfl (Ext.skip rfl (Ext.rfl'))), cs⟩
       ·
        have hs74 := and_f hg75 hb77
        have cs : Ch nb w65 w65 := Ch.refl
        refine RL.no rfl rfl rfl hg75 rfl rfl ?_
        refine RL.no rfl rfl rfl hg75 rfl rfl ?_
        refine rl_pickF rfl hg75 rfl rfl ?_
        exact RL.nil ⟨Ext.bothEq (congrArg Value.bool hs74) (Ext.skip rfl (Ext.skip rfl (Ext.rfl'))), cs⟩
     intro w78 c79
     have ah0 := slRep.ch k_Candidate_pos ah0 c79
     have h17 := h17.ch0 c79
     have h43 := slRep.ch kStr_pos h43 c79
     have k54 := k54.ch0 c79
     have h61 := slRep.ch k_Candidate_pos h61 c79
     have h66 := h66.ch0 c79
     have c31 := c31.then0 c79
     refine RL.nil ?_
     refine thn_n ?_
     refine CW.cond (t := b76) rfl (fun q80 => ?_) (fun q80 => ?_)
     ·
      have hb25 := ifT q80 hb25
      refine CW.region ?_
      refine rl_move rfl rfl ?_
      refine rl_loadA (cs := (Candidate.c x28 z42)) rfl Try.isAgg58 Try.sizeOf58 (k54.segAt 0 23) rfl rfl ?_
      refine rl_bslice (k := k_Candidate) (F := F) (B := w.heap.size) (S := (un (inBlk (Value.pointer (some ⟨p44, 0, none⟩))) (un (inBlk v16) (un (inBlk v64) nb)))) ([x28] : List Candidate) rfl k_Candidate_pos Try.underlying28 Try.sizeOf58 Try.zeroValue58 rfl rfl ⟨rfl, ⟨z42, rfl, h43⟩, trivial⟩ c31.size (un_lt k54.ltp (un_lt (fun b hb => (h17.lt b hb).2) (un_lt (fun b hb => (h66.lt b hb).2) nbS))) rfl ?_
      intro v81 w82 c83 hf84 h85
      have h85 := h85.readNew k_Candidate_pos hf84 (un_lt k54.ltp (un_lt (fun b hb => (h17.lt b hb).2) (un_lt (fun b hb => (h66.lt b hb).2) nbS)))
      have ah0 := slRep.ch k_Candidate_pos ah0 c83
      have h17 := h17.ch0 c83
      have h43 := slRep.ch kStr_pos h43 c83
      have k54 := k54.ch0 c83
      have h61 := slRep.ch k_Candidate_pos h61 c83
      have h66 := h66.ch0 c83
      have c31 := c31.then0 c83
      obtain ⟨z94, hz95, hb25⟩ := bindS hb25
      have hl := (apO_get hz95).1
      refine rl_append (k := k_Candidate) (T := 58) (F := F) (B := w.heap.size) (S := (un (inBlk (Value.pointer (some ⟨p44, 0, none⟩))) (un (inBlk v16) (un (inBlk v64) nb)))) (S2 := (un (inBlk (Value.pointer (some ⟨p44, 0, none⟩))) (un (inBlk v64) nb))) (fun v => (un (inBlk (Value.pointer (some ⟨p44, 0, none⟩))) (un (inBlk v) (un (inBlk v64) nb)))) rfl rfl k_Candidate_pos ap28 h17 h85 (fun _ => un_swap) (fun _ _ => un_swap) hl c31.size (un_lt k54.ltp (un_lt (fun b hb => (h17.lt b hb).2) (un_lt (fun b hb => (h66.lt b hb).2) nbS))) rfl ?_
      intro v88 w89 h90 c91 hf92 ha93
      have d96 : ∀ b, inBlk v88 b → ¬ inBlk (Value.pointer (some ⟨p44, 0, none⟩)) b := disApp hf92 (disSym d49) k54.ltp
      have d97 : ∀ b, inBlk v88 b → ¬ inBlk v64 b := disApp hf92 (disSym d73) (fun b hb => (h66.lt b hb).2)
      have ah0 := slRep.st k_Candidate_pos ah0 c91 ha93
      have h43 := slRep.st kStr_pos h43 c91 ha93
      have k54 := k54.ch c91 ((fun b hb h => d49 b hb h) _ rfl)
      have h61 := slRep.st k_Candidate_pos h61 c91 ha93
      have h66 := h66.st c91 (fun b hb h => d73 b hb h) ha93 (fun b h => (.inr (.inr (.inl h))))
      have h85 := slRep.st k_Candidate_pos h85 c91 ha93
      have c31 := c31.then c91 (fun i hi h => absurd ((fun b hb => (h17.lt b hb).1) i h) (Nat.not_le_of_lt hi))
      refine rl_assign rfl rfl ?_
      refine RL.nil ?_
      refine inB_n ?_
      refine thn_n ?_
      refine CW.region ?_
      refine rl_inc rfl hat22.lt ah0.big rfl ?_
      refine rl_move rfl rfl ?_
      refine RL.nil ?_
      refine thn_n ?_
      have crf : Ch nb w89 w89 := Ch.refl
      have ah0 := slRep.st k_Candidate_pos ah0 crf (show ∀ b, b < w89.heap.size → ¬ (un (inBlk (Value.pointer (some ⟨p44, 0, none⟩))) (un (inBlk v88) (un (inBlk v64) nb))) b → ¬ nb b ∧ ¬ (un (inBlk v88) (un (inBlk v64) nb)) b from fun b _ hs => ⟨fun x => x, fun h => hs (un_el h (fun h => (.inr (.inl h))) (fun h => un_el h (fun h => (.inr (.inr (.inl h)))) (fun h => False.elim h)))⟩)
      have h43 := slRep.st kStr_pos h43 crf (show ∀ b, b < w89.heap.size → ¬ (un (inBlk (Value.pointer (some ⟨p44, 0, none⟩))) (un (inBlk v88) (un (inBlk v64) nb))) b → ¬ nb b ∧ ¬ (un (inBlk v88) (un (inBlk v64) nb)) b from fun b _ hs => ⟨fun x => x, fun h => hs (un_el h (fun h => (.inr (.inl h))) (fun h => un_el h (fun h => (.inr (.inr (.inl h)))) (fun h => False.elim h)))⟩)
      have h61 := slRep.st k_Candidate_pos h61 crf (show ∀ b, b < w89.heap.size → ¬ (un (inBlk (Value.pointer (some ⟨p44, 0, none⟩))) (un (inBlk v88) (un (inBlk v64) nb))) b → ¬ nb b ∧ ¬ (un (inBlk v88) (un (inBlk v64) nb)) b from fun b _ hs => ⟨fun x => x, fun h => hs (un_el h (fun h => (.inr (.inl h))) (fun h => un_el h (fun h => (.inr (.inr (.inl h)))) (fun h => False.elim h)))⟩)
      have h66 := h66.st crf (fun _ _ x => x) (show ∀ b, b < w89.heap.size → ¬ (un (inBlk (Value.pointer (some ⟨p44, 0, none⟩))) (un (inBlk v88) (un (inBlk v64) nb))) b → ¬ nb b ∧ ¬ (un (inBlk v88) (un (inBlk v64) nb)) b from fun b _ hs => ⟨fun x => x, fun h => hs (un_el h (fun h => (.inr (.inl h))) (fun h => un_el h (fun h => (.inr (.inr (.inl h)))) (fun h => False.elim h)))⟩) (fun b h => (.inr (.inl h)))
      have h85 := slRep.st k_Candidate_pos h85 crf (show ∀ b, b < w89.heap.size → ¬ (un (inBlk (Value.pointer (some ⟨p44, 0, none⟩))) (un (inBlk v88) (un (inBlk v64) nb))) b → ¬ nb b ∧ ¬ (un (inBlk v88) (un (inBlk v64) nb)) b from fun b _ hs => ⟨fun x => x, fun h => hs (un_el h (fun h => (.inr (.inl h))) (fun h => un_el h (fun h => (.inr (.inr (.inl h)))) (fun h => False.elim h)))⟩)
      have h90 := h90.st crf (fun _ _ x => x) (show ∀ b, b < w89.heap.size → ¬ (un (inBlk (Value.pointer (some ⟨p44, 0, none⟩))) (un (inBlk v88) (un (inBlk v64) nb))) b → ¬ nb b ∧ ¬ (un (inBlk v88) (un (inBlk v64) nb)) b from fun b _ hs => ⟨fun x => x, fun h => hs (un_el h (fun h => (.inr (.inl h))) (fun h => un_el h (fun h => (.inr (.inr (.inl h)))) (fun h => False.elim h)))⟩) (fun b h => (.inl h))
      have c31 := c31.then0 crf
      have hLn := runAO_next hL21 hq24 hb25
      exact ⟨rest35.length, Nat.lt_succ_self _, [(9, av0), (10, (Value.int .i64 ((a0.length : Nat) : Int))), (3, v64), (4, v88), (11, (Value.int .i64 ((i20 + 1 : Nat) : Int)))], ⟨rfl, rfl, rfl, rfl, rfl, trivial⟩, ⟨rest35, i20 + 1, x12 ++ [x28], v64, x15 ++ [x28], v88, rfl, rfl, c31, hat22.next, hLn, ah0, h66, h90, d97⟩⟩
     ·
      have hb25 := ifF q80 hb25
      refine CW.skip ?_
      refine inB_n ?_
      refine thn_n ?_
      refine CW.region ?_
      refine rl_inc rfl hat22.lt ah0.big rfl ?_
      refine rl_move rfl rfl ?_
      refine RL.nil ?_
      refine thn_n ?_
      have crf : Ch nb w78 w78 := Ch.refl
      have ah0 := slRep.st k_Candidate_pos ah0 crf (show ∀ b, b < w78.heap.size → ¬ (un (inBlk (Value.pointer (some ⟨p44, 0, none⟩))) (un (inBlk v16) (un (inBlk v64) nb))) b → ¬ nb b ∧ ¬ (un (inBlk v16) (un (inBlk v64) nb)) b from fun b _ hs => ⟨fun x => x, fun h => hs (un_el h (fun h => (.inr (.inl h))) (fun h => un_el h (fun h => (.inr (.inr (.inl h)))) (fun h => False.elim h)))⟩)
      have h17 := h17.st crf (fun _ _ x => x) (show ∀ b, b < w78.heap.size → ¬ (un (inBlk (Value.pointer (some ⟨p44, 0, none⟩))) (un (inBlk v16) (un (inBlk v64) nb))) b → ¬ nb b ∧ ¬ (un (inBlk v16) (un (inBlk v64) nb)) b from fun b _ hs => ⟨fun x => x, fun h => hs (un_el h (fun h => (.inr (.inl h))) (fun h => un_el h (fun h => (.inr (.inr (.inl h)))) (fun h => False.elim h)))⟩) (fun b h => (.inl h))
      have h43 := slRep.st kStr_pos h43 crf (show ∀ b, b < w78.heap.size → ¬ (un (inBlk (Value.pointer (some ⟨p44, 0, none⟩))) (un (inBlk v16) (un (inBlk v64) nb))) b → ¬ nb b ∧ ¬ (un (inBlk v16) (un (inBlk v64) nb)) b from fun b _ hs => ⟨fun x => x, fun h => hs (un_el h (fun h => (.inr (.inl h))) (fun h => un_el h (fun h => (.inr (.inr (.inl h)))) (fun h => False.elim h)))⟩)
      have h61 := slRep.st k_Candidate_pos h61 crf (show ∀ b, b < w78.heap.size → ¬ (un (inBlk (Value.pointer (some ⟨p44, 0, none⟩))) (un (inBlk v16) (un (inBlk v64) nb))) b → ¬ nb b ∧ ¬ (un (inBlk v16) (un (inBlk v64) nb)) b from fun b _ hs => ⟨fun x => x, fun h => hs (un_el h (fun h => (.inr (.inl h))) (fun h => un_el h (fun h => (.inr (.inr (.inl h)))) (fun h => False.elim h)))⟩)
      have h66 := h66.st crf (fun _ _ x => x) (show ∀ b, b < w78.heap.size → ¬ (un (inBlk (Value.pointer (some ⟨p44, 0, none⟩))) (un (inBlk v16) (un (inBlk v64) nb))) b → ¬ nb b ∧ ¬ (un (inBlk v16) (un (inBlk v64) nb)) b from fun b _ hs => ⟨fun x => x, fun h => hs (un_el h (fun h => (.inr (.inl h))) (fun h => un_el h (fun h => (.inr (.inr (.inl h)))) (fun h => False.elim h)))⟩) (fun b h => (.inr (.inl h)))
      have c31 := c31.then0 crf
      have hLn := runAO_next hL21 hq24 hb25
      exact ⟨rest35.length, Nat.lt_succ_self _, [(9, av0), (10, (Value.int .i64 ((a0.length : Nat) : Int))), (3, v64), (4, v16), (11, (Value.int .i64 ((i20 + 1 : Nat) : Int)))], ⟨rfl, rfl, rfl, rfl, rfl, trivial⟩, ⟨rest35, i20 + 1, x12 ++ [x28], v64, x15, v16, rfl, rfl, c31, hat22.next, hLn, ah0, h66, h17, (disSym d73)⟩⟩
    ·
     have hb25 := ifF q56 hb25
     refine CW.skip ?_
     refine thn_n ?_
     refine CW.seq (CW.region ?_)
     refine rl_fieldAddr rfl fa58_3 rfl ?_
     refine rl_loadS (v := (Value.bool x28.serving)) rfl Try.isAgg4 (k54.cell rfl) rfl ?_
     refine rl_move rfl rfl ?_
     obtain ⟨b100, hb101⟩ : ∃ v, (x28.serving && x28.terminating) = v := ⟨_, rfl⟩
     have hb25 := ltS hb101 hb25
     refine RL.join 3 26 (.bool b100) (fun w' => Ch nb w51 w') ?_ ?_
     · rcases Bool.eq_false_or_eq_true x28.serving with hg99 | hg99
       ·
        have hs98 := and_t hg99 hb101
        have cs : Ch nb w51 w51 := Ch.refl
        refine RL.yes rfl rfl rfl hg99 ?_
        refine rl_fieldAddr rfl fa58_4 rfl ?_
        refine RL.yes rfl rfl rfl hg99 ?_
        refine rl_loadS (v := (Value.bool x28.terminating)) rfl Try.isAgg4 (k54.cell rfl) rfl ?_
        refine rl_pickT rfl hg99 rfl rfl ?_
        exact RL.nil ⟨Ext.bothEq (congrArg Value.bool hs98) (Ext.skip rfl (Ext.skip rfl (Ext.rfl'))), cs⟩
       ·
        have hs98 := and_f hg99 hb101
        have cs : Ch nb w51 w51 := Ch.refl
        refine RL.no rfl rfl rfl hg99 rfl rfl ?_
        refine RL.no rfl rfl rfl hg99 rfl rfl ?_
        refine rl_pickF rfl hg99 rfl rfl ?_
        exact RL.nil ⟨Ext.bothEq (congrArg Value.bool hs98) (Ext.skip rfl (Ext.skip rfl (Ext.rfl'))), cs⟩
     intro w102 c103
     have ah0 := slRep.ch k_Candidate_pos ah0 c103
     have h14 := h14.ch0 c103
     have h17 := h17.ch0 c103
     have h43 := slRep.ch kStr_pos h43 c103
     have k54 := k54.ch0 c103
     have c31 := c31.then0 c103
     refine RL.nil ?_
     refine thn_n ?_
     refine CW.cond (t := b100) rfl (fun q104 => ?_) (fun q104 => ?_)
     ·
      have hb25 := ifT q104 hb25
      refine CW.region ?_
      refine rl_move rfl rfl ?_
      refine rl_loadA (cs := (Candidate.c x28 z42)) rfl Try.isAgg58 Try.sizeOf58 (k54.segAt 0 23) rfl rfl ?_
      refine rl_bslice (k := k_Candidate) (F := F) (B := w.heap.size) (S := (un (inBlk (Value.pointer (some ⟨p44, 0, none⟩))) (un (inBlk v16) (un (inBlk v13) nb)))) ([x28] : List Candidate) rfl k_Candidate_pos Try.underlying28 Try.sizeOf58 Try.zeroValue58 rfl rfl ⟨rfl, ⟨z42, rfl, h43⟩, trivial⟩ c31.size (un_lt k54.ltp (un_lt (fun b hb => (h17.lt b hb).2) (un_lt (fun b hb => (h14.lt b hb).2) nbS))) rfl ?_
      intro v105 w106 c107 hf108 h109
      have h109 := h109.readNew k_Candidate_pos hf108 (un_lt k54.ltp (un_lt (fun b hb => (h17.lt b hb).2) (un_lt (fun b hb => (h14.lt b hb).2) nbS)))
      have ah0 := slRep.ch k_Candidate_pos ah0 c107
      have h14 := h14.ch0 c107
      have h17 := h17.ch0 c107
      have h43 := slRep.ch kStr_pos h43 c107
      have k54 := k54.ch0 c107
      have c31 := c31.then0 c107
      obtain ⟨z118, hz119, hb25⟩ := bindS hb25
      have hl := (apO_get hz119).1
      refine rl_append (k := k_Candidate) (T := 58) (F := F) (B := w.heap.size) (S := (un (inBlk (Value.pointer (some ⟨p44, 0, none⟩))) (un (inBlk v16) (un (inBlk v13) nb)))) (S2 := (un (inBlk (Value.pointer (some ⟨p44, 0, none⟩))) (un (inBlk v13) nb))) (fun v => (un (inBlk (Value.pointer (some ⟨p44, 0, none⟩))) (un (inBlk v) (un (inBlk v13) nb)))) rfl rfl k_Candidate_pos ap28 h17 h109 (fun _ => un_swap) (fun _ _ => un_swap) hl c31.size (un_lt k54.ltp (un_lt (fun b hb => (h17.lt b hb).2) (un_lt (fun b hb => (h14.lt b hb).2) nbS))) rfl ?_
      intro v112 w113 h114 c115 hf116 ha117
      have d120 : ∀ b, inBlk v112 b → ¬ inBlk (Value.pointer (some ⟨p44, 0, none⟩)) b := disApp hf116 (disSym d49) k54.ltp
      have d121 : ∀ b, inBlk v112 b → ¬ inBlk v13 b := disApp hf116 d18 (fun b hb => (h14.lt b hb).2)
      have ah0 := slRep.st k_Candidate_pos ah0 c115 ha117
      have h14 := h14.st c115 (fun b hb h => (disSym d18) b hb h) ha117 (fun b h => (.inr (.inr (.inl h))))
      have h43 := slRep.st kStr_pos h43 c115 ha117
      have k54 := k54.ch c115 ((fun b hb h => d49 b hb h) _ rfl)
      have h109 := slRep.st k_Candidate_pos h109 c115 ha117
      have c31 := c31.then c115 (fun i hi h => absurd ((fun b hb => (h17.lt b hb).1) i h) (Nat.not_le_of_lt hi))
      refine rl_assign rfl rfl ?_
      refine RL.nil ?_
      refine inB_n ?_
      refine thn_n ?_
      refine CW.region ?_
      refine rl_inc rfl hat22.lt ah0.big rfl ?_
      refine rl_move rfl rfl ?_
      refine RL.nil ?_
      refine thn_n ?_
      have crf : Ch nb w113 w113 := Ch.refl
      have ah0 := slRep.st k_Candidate_pos ah0 crf (show ∀ b, b < w113.heap.size → ¬ (un (inBlk (Value.pointer (some ⟨p44, 0, none⟩))) (un (inBlk v112) (un (inBlk v13) nb))) b → ¬ nb b ∧ ¬ (un (inBlk v112) (un (inBlk v13) nb)) b from fun b _ hs => ⟨fun x => x, fun h => hs (un_el h (fun h => (.inr (.inl h))) (fun h => un_el h (fun h => (.inr (.inr (.inl h)))) (fun h => False.elim h)))⟩)
      have h14 := h14.st crf (fun _ _ x => x) (show ∀ b, b < w113.heap.size → ¬ (un (inBlk (Value.pointer (some ⟨p44, 0, none⟩))) (un (inBlk v112) (un (inBlk v13) nb))) b → ¬ nb b ∧ ¬ (un (inBlk v112) (un (inBlk v13) nb)) b from fun b _ hs => ⟨fun x => x, fun h => hs (un_el h (fun h => (.inr (.inl h))) (fun h => un_el h (fun h => (.inr (.inr (.inl h)))) (fun h => False.elim h)))⟩) (fun b h => (.inr (.inl h)))
      have h43 := slRep.st kStr_pos h43 crf (show ∀ b, b < w113.heap.size → ¬ (un (inBlk (Value.pointer (some ⟨p44, 0, none⟩))) (un (inBlk v112) (un (inBlk v13) nb))) b → ¬ nb b ∧ ¬ (un (inBlk v112) (un (inBlk v13) nb)) b from fun b _ hs => ⟨fun x => x, fun h => hs (un_el h (fun h => (.inr (.inl h))) (fun h => un_el h (fun h => (.inr (.inr (.inl h)))) (fun h => False.elim h)))⟩)
      have h109 := slRep.st k_Candidate_pos h109 crf (show ∀ b, b < w113.heap.size → ¬ (un (inBlk (Value.pointer (some ⟨p44, 0, none⟩))) (un (inBlk v112) (un (inBlk v13) nb))) b → ¬ nb b ∧ ¬ (un (inBlk v112) (un (inBlk v13) nb)) b from fun b _ hs => ⟨fun x => x, fun h => hs (un_el h (fun h => (.inr (.inl h))) (fun h => un_el h (fun h => (.inr (.inr (.inl h)))) (fun h => False.elim h)))⟩)
      have h114 := h114.st crf (fun _ _ x => x) (show ∀ b, b < w113.heap.size → ¬ (un (inBlk (Value.pointer (some ⟨p44, 0, none⟩))) (un (inBlk v112) (un (inBlk v13) nb))) b → ¬ nb b ∧ ¬ (un (inBlk v112) (un (inBlk v13) nb)) b from fun b _ hs => ⟨fun x => x, fun h => hs (un_el h (fun h => (.inr (.inl h))) (fun h => un_el h (fun h => (.inr (.inr (.inl h)))) (fun h => False.elim h)))⟩) (fun b h => (.inl h))
      have c31 := c31.then0 crf
      have hLn := runAO_next hL21 hq24 hb25
      exact ⟨rest35.length, Nat.lt_succ_self _, [(9, av0), (10, (Value.int .i64 ((a0.length : Nat) : Int))), (3, v13), (4, v112), (11, (Value.int .i64 ((i20 + 1 : Nat) : Int)))], ⟨rfl, rfl, rfl, rfl, rfl, trivial⟩, ⟨rest35, i20 + 1, x12, v13, x15 ++ [x28], v112, rfl, rfl, c31, hat22.next, hLn, ah0, h14, h114, d121⟩⟩
     ·
      have hb25 := ifF q104 hb25
      refine CW.skip ?_
      refine inB_n ?_
      refine thn_n ?_
      refine CW.region ?_
      refine rl_inc rfl hat22.lt ah0.big rfl ?_
      refine rl_move rfl rfl ?_
      refine RL.nil ?_
      refine thn_n ?_
      have crf : Ch nb w102 w102 := Ch.refl
      have ah0 := slRep.st k_Candidate_pos ah0 crf (show ∀ b, b < w102.heap.size → ¬ (un (inBlk (Value.pointer (some ⟨p44, 0, none⟩))) (un (inBlk v16) (un (inBlk v13) nb))) b → ¬ nb b ∧ ¬ (un (inBlk v16) (un (inBlk v13) nb)) b from fun b _ hs => ⟨fun x => x, fun h => hs (un_el h (fun h => (.inr (.inl h))) (fun h => un_el h (fun h => (.inr (.inr (.inl h)))) (fun h => False.elim h)))⟩)
      have h14 := h14.st crf (fun _ _ x => x) (show ∀ b, b < w102.heap.size → ¬ (un (inBlk (Value.pointer (some ⟨p44, 0, none⟩))) (un (inBlk v16) (un (inBlk v13) nb))) b → ¬ nb b ∧ ¬ (un (inBlk v16) (un (inBlk v13) nb)) b from fun b _ hs => ⟨fun x => x, fun h => hs (un_el h (fun h => (.inr (.inl h))) (fun h => un_el h (fun h => (.inr (.inr (.inl h)))) (fun h => False.elim h)))⟩) (fun b h => (.inr (.inl h)))
      have h17 := h17.st crf (fun _ _ x => x) (show ∀ b, b < w102.heap.size → ¬ (un (inBlk (Value.pointer (some ⟨p44, 0, none⟩))) (un (inBlk v16) (un (inBlk v13) nb))) b → ¬ nb b ∧ ¬ (un (inBlk v16) (un (inBlk v13) nb)) b from fun b _ hs => ⟨fun x => x, fun h => hs (un_el h (fun h => (.inr (.inl h))) (fun h => un_el h (fun h => (.inr (.inr (.inl h)))) (fun h => False.elim h)))⟩) (fun b h => (.inl h))
      have h43 := slRep.st kStr_pos h43 crf (show ∀ b, b < w102.heap.size → ¬ (un (inBlk (Value.pointer (some ⟨p44, 0, none⟩))) (un (inBlk v16) (un (inBlk v13) nb))) b → ¬ nb b ∧ ¬ (un (inBlk v16) (un (inBlk v13) nb)) b from fun b _ hs => ⟨fun x => x, fun h => hs (un_el h (fun h => (.inr (.inl h))) (fun h => un_el h (fun h => (.inr (.inr (.inl h)))) (fun h => False.elim h)))⟩)
      have c31 := c31.then0 crf
      have hLn := runAO_next hL21 hq24 hb25
      exact ⟨rest35.length, Nat.lt_succ_self _, [(9, av0), (10, (Value.int .i64 ((a0.length : Nat) : Int))), (3, v13), (4, v16), (11, (Value.int .i64 ((i20 + 1 : Nat) : Int)))], ⟨rfl, rfl, rfl, rfl, rfl, trivial⟩, ⟨rest35, i20 + 1, x12, v13, x15, v16, rfl, rfl, c31, hat22.next, hLn, ah0, h14, h17, d18⟩⟩
   ·
    obtain rfl := hat22.nil q34
    have hLf : (x12, x15) = o26 := runAO_done hL21
    refine CW.exit (thn_exit (thn_exit (inB_hit ?_)))
    exact ⟨x12, v13, x15, v16, ⟨rfl, rfl, trivial⟩, c31, hLf, ah0, h14, h17, d18⟩
  ·
   rintro _ w123 ⟨x12, v13, x15, v16, hE124, c122, f125, ah0, h14, h17, d18⟩
   subst f125
   refine thn_n (CW.sub [(3, v13), (4, v16)] hE124 ?_)
   refine CW.seq ?_
   refine CW.seq (CW.region ?_)
   refine rl_move rfl rfl ?_
   refine rl_lenR rfl (SlO.read (S' := (un (inBlk v16) nb)) k_Candidate_pos h14 (fun b hs h => hs (un_el h (fun h => (.inl h)) (fun h => False.elim h))) (fun b hb => fun h => un_el h (fun h => (disSym d18) b hb h) (fun h => h))) Try.underlying28 rfl ?_
   refine rl_bin rfl rfl B.gtr rfl ?_
   refine RL.nil ?_
   refine thn_n ?_
   refine CW.cond (t := decide (((x12.length : Nat) : Int) > 0)) rfl (fun q127 => ?_) (fun q127 => ?_)
   ·
    have hS := ifT q127 hS
    refine CW.seq (CW.region ?_)
    refine rl_move rfl rfl ?_
    refine rl_assign rfl rfl ?_
    refine RL.nil ?_
    refine thn_n ?_
    refine CW.ret ?_
    refine thn_ret ?_
    obtain rfl := Option.some.inj hS
    exact ret1 rfl ⟨v13, rfl, h14.out, c122⟩
   ·
    have hS := ifF q127 hS
    refine CW.skip ?_
    refine thn_n ?_
    refine CW.seq (CW.region ?_)
    refine rl_move rfl rfl ?_
    refine rl_assign rfl rfl ?_
    refine RL.nil ?_
    refine thn_n ?_
    refine CW.ret ?_
    obtain rfl := Option.some.inj hS
    exact ret1 rfl ⟨v16, rfl, h17.out, c122⟩
/-- lb/lbref18.Meant -/
theorem ctr51 (F : Nat → Prop) (w : World) (a0 : Candidate) (az0_0 : Value) (ah0_0 : slRep kStr F w a0.zones az0_0) (a1 : ByteArray) (r : Bool) (hs : F51_linkboyref18_Meant a0 a1 = r) :
    Ret Try.prog 51 #[(Value.agg (Candidate.c a0 az0_0).toArray), (Value.string a1)] w fun v w' => v = (Value.bool r) ∧ Ch nb w w' := by
  have hS := hs
  have c0 : Ch nb w w := Ch.refl
  have ah0_0 := slRep.enter kStr_pos ah0_0
  refine Ret.of (n := 18) (args := [_, _]) (rs := [.tmp 4]) Try.func51 rfl rfl rfl rfl ?_
  refine CW.seq (CW.region ?_)
  refine rl_boxA (cs := (Candidate.c a0 az0_0)) rfl rfl ?_
  intro p1 w2 n3 k4
  have gp1 : (G F w.heap.size nb) p1 := ⟨.inr (by rw [n3.eq]; exact c0.size), fun h => absurd (nbS _ h) (by rw [n3.eq]; exact Nat.lt_irrefl _)⟩
  have ah0_0 := slRep.ch kStr_pos ah0_0 n3.ch
  have c0 := c0.then0 n3.ch
  refine rl_assign rfl rfl ?_
  refine RL.nil ?_
  refine thn_n ?_
  refine CW.seq ?_
  refine CW.seq (CW.region ?_)
  refine rl_fieldAddr rfl fa58_5 rfl ?_
  refine rl_loadS (v := az0_0) rfl Try.isAgg42 (k4.cell rfl) rfl ?_
  refine rl_lenR rfl ah0_0 Try.underlying42 rfl ?_
  refine rl_move rfl rfl ?_
  refine RL.nil ?_
  refine thn_n ?_
  obtain ⟨o12, ho13⟩ : ∃ o, runB (F51_linkboyref18_Meant_b1 a1) a0.zones () = o := ⟨_, rfl⟩
  have hS := ltS ho13 hS
  refine CW.cutB (fun E' w' => ∃ (_ : Unit), Sub [] E' ∧ Ch nb w w' ∧ Lp.fin () = o12 ∧ slRep kStr (G F w.heap.size nb) w' a0.zones az0_0 ∧ Blk w' p1 58 (Candidate.c a0 az0_0) ∧ (G F w.heap.size nb) p1) ?_ ?_
  ·
   refine CW.loopS [(1, (Value.string a1)), (8, az0_0), (9, (Value.int .i64 ((a0.zones.length : Nat) : Int))), (10, (Value.int .i64 ((0 : Nat) : Int)))] ⟨rfl, rfl, rfl, rfl, trivial⟩ a0.zones.length (fun m E w' => ∃ (rest5 : List ByteArray) (i6 : Nat) , m = rest5.length ∧ E = [(1, (Value.string a1)), (8, az0_0), (9, (Value.int .i64 ((a0.zones.length : Nat) : Int))), (10, (Value.int .i64 ((i6 : Nat) : Int)))] ∧ Ch nb w w' ∧ At a0.zones i6 rest5 ∧ runB (F51_linkboyref18_Meant_b1 a1) rest5 () = o12 ∧ slRep kStr (G F w.heap.size nb) w' a0.zones az0_0 ∧ Blk w' p1 58 (Candidate.c a0 az0_0) ∧ (G F w.heap.size nb) p1)
       ⟨a0.zones, 0, rfl, rfl, c0, At.start, ho13, ah0_0, k4, gp1⟩ ?_
   rintro _ _ w18 ⟨rest5, i6, rfl, rfl, c17, hat8, hL7, ah0_0, k4, gp1⟩
   refine CW.seq (CW.region ?_)
   refine rl_bin rfl rfl B.lss rfl ?_
   refine RL.nil (thn_n ?_)
   refine CW.seq ?_
   refine CW.cond (t := decide (((i6 : Nat) : Int) < ((a0.zones.length : Nat) : Int))) rfl (fun q20 => ?_) (fun q20 => ?_)
   ·
    obtain ⟨x14, rest21, rfl⟩ := hat8.cons q20
    obtain ⟨q9, hq10⟩ : ∃ q, (F51_linkboyref18_Meant_b1 a1) x14 () = q := ⟨_, rfl⟩
    have hb11 := hq10
    refine CW.skip (thn_n ?_)
    refine CW.seq ?_
    refine CW.block ?_
    refine CW.seq (CW.region ?_)
    refine rl_ixR rfl ah0_0 rfl hat8.get Try.underlying42 Try.sizeOf9 rfl ?_
    intro p22 o23 cs24 hr25 hs26 hg27
    obtain rfl := hr25
    refine rl_loadS (v := (Value.string x14)) rfl Try.isAgg9 (hs26 0 _ rfl) rfl ?_
    refine rl_assign rfl rfl ?_
    refine RL.nil ?_
    refine thn_n ?_
    refine CW.seq (CW.region ?_)
    refine rl_move rfl rfl ?_
    refine rl_move rfl rfl ?_
    refine rl_bin rfl rfl B.eqlS rfl ?_
    refine RL.nil ?_
    refine thn_n ?_
    refine CW.cond (t := decide (x14 = a1)) rfl (fun q28 => ?_) (fun q28 => ?_)
    ·
     have hb11 := ifT q28 hb11
     refine CW.seq (CW.region ?_)
     refine rl_assign rfl rfl ?_
     refine RL.nil ?_
     refine thn_n ?_
     refine CW.ret ?_
     refine inB_ret ?_
     refine thn_ret ?_
     refine thn_ret (inB_ret (thn_ret ?_))
     refine thn_ret ?_
     have f29 := runB_ret hL7 (hb11.trans hq10.symm)
     have hS := retS f29 hS
     obtain rfl := hS
     exact ret1 rfl ⟨rfl, c17⟩
    ·
     have hb11 := ifF q28 hb11
     refine CW.skip ?_
     refine inB_n ?_
     refine thn_n ?_
     refine CW.region ?_
     refine rl_inc rfl hat8.lt ah0_0.big rfl ?_
     refine rl_move rfl rfl ?_
     refine RL.nil ?_
     refine thn_n ?_
     have hLn := runB_next hL7 (hb11.trans hq10.symm)
     exact ⟨rest21.length, Nat.lt_succ_self _, [(1, (Value.string a1)), (8, az0_0), (9, (Value.int .i64 ((a0.zones.length : Nat) : Int))), (10, (Value.int .i64 ((i6 + 1 : Nat) : Int)))], ⟨rfl, rfl, rfl, rfl, trivial⟩, ⟨rest21, i6 + 1, rfl, rfl, c17, hat8.next, hLn, ah0_0, k4, gp1⟩⟩
   ·
    obtain rfl := hat8.nil q20
    have hLf : Lp.fin () = o12 := hL7
    refine CW.exit (thn_exit (thn_exit (inB_hit ?_)))
    exact ⟨(), trivial, c17, hLf, ah0_0, k4, gp1⟩
  ·
   rintro _ w31 ⟨_, hE32, c30, f33, ah0_0, k4, gp1⟩
   have hS := finS f33 hS
   refine thn_n (CW.sub [] hE32 ?_)
   refine CW.seq (CW.region ?_)
   refine rl_assign rfl rfl ?_
   refine RL.nil ?_
   refine thn_n ?_
   refine CW.ret ?_
   obtain rfl := hS
   exact ret1 rfl ⟨rfl, c30⟩
/-- lb/lbref18.Count -/
theorem ctr50 (F : Nat → Prop) (w : World) (a0 : (List Candidate)) (av0 : Value) (ah0 : slRep k_Candidate F w a0 av0) (a1 : ByteArray) (r : Bool) (hs : F50_linkboyref18_Count a0 a1 = r) :
    Ret Try.prog 50 #[av0, (Value.string a1)] w fun v w' => v = (Value.bool r) ∧ Ch nb w w' := by
  have hS := hs
  have c0 : Ch nb w w := Ch.refl
  have ah0 := slRep.enter k_Candidate_pos ah0
  refine Ret.of (n := 40) (args := [_, _]) (rs := [.tmp 4]) Try.func50 rfl rfl rfl rfl ?_
  refine CW.seq (CW.region ?_)
  refine rl_assign rfl rfl ?_
  refine RL.nil ?_
  refine thn_n ?_
  refine CW.seq (CW.region ?_)
  refine rl_assign rfl rfl ?_
  refine rl_assign rfl rfl ?_
  refine RL.nil ?_
  refine thn_n ?_
  refine CW.seq ?_
  refine CW.seq (CW.region ?_)
  refine rl_move rfl rfl ?_
  refine rl_lenR rfl ah0 Try.underlying28 rfl ?_
  refine rl_move rfl rfl ?_
  refine RL.nil ?_
  refine thn_n ?_
  obtain ⟨o10, ho11⟩ : ∃ o, runA (F50_linkboyref18_Count_b1 a1) a0 (false, false) = o := ⟨_, rfl⟩
  have hS := ltS ho11 hS
  refine CW.cutB (fun E' w' => ∃ (x1 : Bool) (x2 : Bool), Sub [(1, (Value.string a1)), (5, (Value.bool x1)), (6, (Value.bool x2))] E' ∧ Ch nb w w' ∧ (x1, x2) = o10 ∧ slRep k_Candidate (G F w.heap.size nb) w' a0 av0) ?_ ?_
  ·
   refine CW.loopS [(1, (Value.string a1)), (9, av0), (10, (Value.int .i64 ((a0.length : Nat) : Int))), (5, (Value.bool false)), (6, (Value.bool false)), (11, (Value.int .i64 ((0 : Nat) : Int)))] ⟨rfl, rfl, rfl, rfl, rfl, rfl, trivial⟩ a0.length (fun m E w' => ∃ (rest3 : List Candidate) (i4 : Nat) (x1 : Bool) (x2 : Bool), m = rest3.length ∧ E = [(1, (Value.string a1)), (9, av0), (10, (Value.int .i64 ((a0.length : Nat) : Int))), (5, (Value.bool x1)), (6, (Value.bool x2)), (11, (Value.int .i64 ((i4 : Nat) : Int)))] ∧ Ch nb w w' ∧ At a0 i4 rest3 ∧ runA (F50_linkboyref18_Count_b1 a1) rest3 (x1, x2) = o10 ∧ slRep k_Candidate (G F w.heap.size nb) w' a0 av0)
       ⟨a0, 0, false, false, rfl, rfl, c0, At.start, ho11, ah0⟩ ?_
   rintro _ _ w16 ⟨rest3, i4, x1, x2, rfl, rfl, c15, hat6, hL5, ah0⟩
   refine CW.seq (CW.region ?_)
   refine rl_bin rfl rfl B.lss rfl ?_
   refine RL.nil (thn_n ?_)
   refine CW.seq ?_
   refine CW.cond (t := decide (((i4 : Nat) : Int) < ((a0.length : Nat) : Int))) rfl (fun q18 => ?_) (fun q18 => ?_)
   ·
    obtain ⟨x12, rest19, rfl⟩ := hat6.cons q18
    obtain ⟨q7, hq8⟩ : ∃ q, (F50_linkboyref18_Count_b1 a1) x12 (x1, x2) = q := ⟨_, rfl⟩
    have hb9 := hq8
    refine CW.skip (thn_n ?_)
    refine CW.seq ?_
    refine CW.block ?_
    refine CW.seq (CW.region ?_)
    refine rl_ixR rfl ah0 rfl hat6.get Try.underlying28 Try.sizeOf58 rfl ?_
    intro p20 o21 cs22 hr23 hs24 hg25
    obtain ⟨z26, rfl, h27⟩ := hr23
    refine rl_loadA (cs := (Candidate.c x12 z26)) rfl Try.isAgg58 Try.sizeOf58 (hs24) rfl rfl ?_
    refine rl_alloc (Candidate.c Candidate.z (Value.slice none 0 0)) Try.zeroValue58 rfl rfl ?_
    intro p28 w29 n30 k31
    have lo32 : ∀ b, inBlk (Value.pointer (some ⟨p28, 0, none⟩)) b → w.heap.size ≤ b := fun b h => Nat.le_trans c15.size (n30.fresh b h)
    have ah0 := slRep.st k_Candidate_pos ah0 n30.ch (admNew n30.fresh (fun _ x => x))
    have h27 := slRep.st kStr_pos h27 n30.ch (admNew n30.fresh (fun _ x => x))
    have c15 := c15.then0 n30.ch
    refine rl_storeA (vs := (Candidate.c x12 z26)) rfl rfl (Kd.one _ (show k_Candidate.rep (G F w.heap.size (un (inBlk (Value.pointer (some ⟨p28, 0, none⟩))) nb)) w29 x12 (Candidate.c x12 z26) from ⟨z26, rfl, h27⟩)) Try.sizeOf58 rfl k31 rfl ?_
    intro w33 s35 c34 k36
    have ad37 : ∀ b, b < w29.heap.size → ¬ (un (inBlk (Value.pointer (some ⟨p28, 0, none⟩))) nb) b → ¬ (inBlk (Value.pointer (some ⟨p28, 0, none⟩))) b ∧ ¬ (un (inBlk (Value.pointer (some ⟨p28, 0, none⟩))) nb) b := fun b _ hs => ⟨fun h => hs (.inl h), hs⟩
    have ah0 := slRep.st k_Candidate_pos ah0 c34 ad37
    have h27 := slRep.st kStr_pos h27 c34 ad37
    have c15 := c15.then c34 (fun i hi h => absurd (lo32 i h) (Nat.not_le_of_lt hi))
    refine RL.nil ?_
    refine thn_n ?_
    refine CW.seq (CW.region ?_)
    refine rl_fieldAddr rfl fa58_2 rfl ?_
    refine rl_loadS (v := (Value.bool x12.ready)) rfl Try.isAgg4 (k36.cell rfl) rfl ?_
    refine RL.nil ?_
    refine thn_n ?_
    refine CW.cond (t := x12.ready) rfl (fun q38 => ?_) (fun q38 => ?_)
    ·
     have hb9 := ifT q38 hb9
     refine CW.seq (CW.region ?_)
     refine rl_move rfl rfl ?_
     refine rl_move rfl rfl ?_
     obtain ⟨b41, hb42⟩ : ∃ v, (x1 || (lt (F51_linkboyref18_Meant x12 a1) fun y43 => y43)) = v := ⟨_, rfl⟩
     have hb9 := ltS hb42 hb9
     refine RL.join 4 22 (.bool b41) (fun w' => Ch nb w33 w') ?_ ?_
     · rcases Bool.eq_false_or_eq_true x1 with hg40 | hg40
       ·
        have hs39 := or_t hg40 hb42
        have cs : Ch nb w33 w33 := Ch.refl
        refine RL.no rfl rfl rfl hg40 rfl rfl ?_
        refine RL.no rfl rfl rfl hg40 rfl rfl ?_
        refine RL.no rfl rfl rfl hg40 rfl rfl ?_
        refine rl_pickT rfl hg40 rfl rfl ?_
        exact RL.nil ⟨Ext.bothEq (congrArg Value.bool hs39) (Ext.skip rfl (Ext.skip rfl (Ext.skip rfl (Ext.rfl')))), cs⟩
       ·
        have hs39 := or_f hg40 hb42
        have cs : Ch nb w33 w33 := Ch.refl
        refine RL.yes rfl rfl rfl hg40 ?_
        refine rl_loadA (cs := (Candidate.c x12 z26)) rfl Try.isAgg58 Try.sizeOf58 (k36.segAt 0 23) rfl rfl ?_
        refine RL.yes rfl rfl rfl hg40 ?_
        refine rl_move rfl rfl ?_
        refine RL.yes rfl rfl rfl hg40 ?_
        obtain ⟨y46, hy47⟩ : ∃ y, F51_linkboyref18_Meant x12 a1 = y := ⟨_, rfl⟩
        have hs39 := ltS hy47 hs39
        refine rl_callF rfl en51 rfl (ctr51 (G F w.heap.size (un (inBlk (Value.pointer (some ⟨p28, 0, none⟩))) nb)) w33 x12 z26 h27 a1 y46 hy47) ?_
        rintro _ w44 ⟨rfl, c45⟩
        have ah0 := slRep.ch k_Candidate_pos ah0 c45
        have h27 := slRep.ch kStr_pos h27 c45
        have k36 := k36.ch0 c45
        have c15 := c15.then0 c45
        refine rl_pickF rfl hg40 rfl rfl ?_
        have cs := cs.then0 c45
        exact RL.nil ⟨Ext.bothEq (congrArg Value.bool hs39) (Ext.skip rfl (Ext.skip rfl (Ext.skip rfl (Ext.rfl')))), cs⟩
     intro w43 c48
     have ah0 := slRep.ch k_Candidate_pos ah0 c48
     have h27 := slRep.ch kStr_pos h27 c48
     have k36 := k36.ch0 c48
     have c15 := c15.then0 c48
     refine rl_assign rfl rfl ?_
     refine RL.nil ?_
     refine thn_n ?_
     refine CW.region ?_
     refine rl_move rfl rfl ?_
     refine rl_move rfl rfl ?_
     obtain ⟨b51, hb52⟩ : ∃ v, (x2 || (decide (((x12.zones.length : Nat) : Int) = 0))) = v := ⟨_, rfl⟩
     have hb9 := ltS hb52 hb9
     refine RL.join 5 29 (.bool b51) (fun w' => Ch nb w43 w') ?_ ?_
     · rcases Bool.eq_false_or_eq_true x2 with hg50 | hg50
       ·
        have hs49 := or_t hg50 hb52
        have cs : Ch nb w43 w43 := Ch.refl
        refine RL.no rfl rfl rfl hg50 rfl rfl ?_
        refine RL.no rfl rfl rfl hg50 rfl rfl ?_
        refine RL.no rfl rfl rfl hg50 rfl rfl ?_
        refine RL.no rfl rfl rfl hg50 rfl rfl ?_
        refine rl_pickT rfl hg50 rfl rfl ?_
        exact RL.nil ⟨Ext.bothEq (congrArg Value.bool hs49) (Ext.skip rfl (Ext.skip rfl (Ext.skip rfl (Ext.skip rfl (Ext.rfl'))))), cs⟩
       ·
        have hs49 := or_f hg50 hb52
        have cs : Ch nb w43 w43 := Ch.refl
        refine RL.yes rfl rfl rfl hg50 ?_
        refine rl_fieldAddr rfl fa58_5 rfl ?_
        refine RL.yes rfl rfl rfl hg50 ?_
        refine rl_loadS (v := z26) rfl Try.isAgg42 (k36.cell rfl) rfl ?_
        refine RL.yes rfl rfl rfl hg50 ?_
        refine rl_lenR rfl h27 Try.underlying42 rfl ?_
        refine RL.yes rfl rfl rfl hg50 ?_
        refine rl_bin rfl rfl B.eql rfl ?_
        refine rl_pickF rfl hg50 rfl rfl ?_
        exact RL.nil ⟨Ext.bothEq (congrArg Value.bool hs49) (Ext.skip rfl (Ext.skip rfl (Ext.skip rfl (Ext.skip rfl (Ext.rfl'))))), cs⟩
     intro w53 c54
     have ah0 := slRep.ch k_Candidate_pos ah0 c54
     have h27 := slRep.ch kStr_pos h27 c54
     have k36 := k36.ch0 c54
     have c15 := c15.then0 c54
     refine rl_assign rfl rfl ?_
     refine RL.nil ?_
     refine inB_n ?_
     refine thn_n ?_
     refine CW.region ?_
     refine rl_inc rfl hat6.lt ah0.big rfl ?_
     refine rl_move rfl rfl ?_
     refine RL.nil ?_
     refine thn_n ?_
     have crf : Ch nb w53 w53 := Ch.refl
     have ah0 := slRep.st k_Candidate_pos ah0 crf (show ∀ b, b < w53.heap.size → ¬ (un (inBlk (Value.pointer (some ⟨p28, 0, none⟩))) nb) b → ¬ nb b ∧ ¬ nb b from fun b _ hs => ⟨fun x => x, fun h => hs (False.elim h)⟩)
     have h27 := slRep.st kStr_pos h27 crf (show ∀ b, b < w53.heap.size → ¬ (un (inBlk (Value.pointer (some ⟨p28, 0, none⟩))) nb) b → ¬ nb b ∧ ¬ nb b from fun b _ hs => ⟨fun x => x, fun h => hs (False.elim h)⟩)
     have c15 := c15.then0 crf
     have hLn := runA_next hL5 (hb9.trans hq8.symm)
     exact ⟨rest19.length, Nat.lt_succ_self _, [(1, (Value.string a1)), (9, av0), (10, (Value.int .i64 ((a0.length : Nat) : Int))), (5, (Value.bool b41)), (6, (Value.bool b51)), (11, (Value.int .i64 ((i4 + 1 : Nat) : Int)))], ⟨rfl, rfl, rfl, rfl, rfl, rfl, trivial⟩, ⟨rest19, i4 + 1, b41, b51, rfl, rfl, c15, hat6.next, hLn, ah0⟩⟩
    ·
     have hb9 := ifF q38 hb9
     refine CW.skip ?_
     refine inB_n ?_
     refine thn_n ?_
     refine CW.region ?_
     refine rl_inc rfl hat6.lt ah0.big rfl ?_
     refine rl_move rfl rfl ?_
     refine RL.nil ?_
     refine thn_n ?_
     have crf : Ch nb w33 w33 := Ch.refl
     have ah0 := slRep.st k_Candidate_pos ah0 crf (show ∀ b, b < w33.heap.size → ¬ (un (inBlk (Value.pointer (some ⟨p28, 0, none⟩))) nb) b → ¬ nb b ∧ ¬ nb b from fun b _ hs => ⟨fun x => x, fun h => hs (False.elim h)⟩)
     have h27 := slRep.st kStr_pos h27 crf (show ∀ b, b < w33.heap.size → ¬ (un (inBlk (Value.pointer (some ⟨p28, 0, none⟩))) nb) b → ¬ nb b ∧ ¬ nb b from fun b _ hs => ⟨fun x => x, fun h => hs (False.elim h)⟩)
     have c15 := c15.then0 crf
     have hLn := runA_next hL5 (hb9.trans hq8.symm)
     exact ⟨rest19.length, Nat.lt_succ_self _, [(1, (Value.string a1)), (9, av0), (10, (Value.int .i64 ((a0.length : Nat) : Int))), (5, (Value.bool x1)), (6, (Value.bool x2)), (11, (Value.int .i64 ((i4 + 1 : Nat) : Int)))], ⟨rfl, rfl, rfl, rfl, rfl, rfl, trivial⟩, ⟨rest19, i4 + 1, x1, x2, rfl, rfl, c15, hat6.next, hLn, ah0⟩⟩
   ·
    obtain rfl := hat6.nil q18
    have hLf : (x1, x2) = o10 := hL5
    refine CW.exit (thn_exit (thn_exit (inB_hit ?_)))
    exact ⟨x1, x2, ⟨rfl, rfl, rfl, trivial⟩, c15, hLf, ah0⟩
  ·
   rintro _ w56 ⟨x1, x2, hE57, c55, f58, ah0⟩
   subst f58
   refine thn_n (CW.sub [(1, (Value.string a1)), (5, (Value.bool x1)), (6, (Value.bool x2))] hE57 ?_)
   refine CW.seq (CW.region ?_)
   refine rl_move rfl rfl ?_
   refine rl_bin rfl rfl B.neqS rfl ?_
   refine rl_move rfl rfl ?_
   obtain ⟨b62, hb63⟩ : ∃ v, ((!decide (a1 = (⟨#[]⟩ : ByteArray))) && x1) = v := ⟨_, rfl⟩
   have hS := ltS hb63 hS
   refine RL.join 2 35 (.bool b62) (fun w' => Ch nb w56 w') ?_ ?_
   · rcases Bool.eq_false_or_eq_true (!decide (a1 = (⟨#[]⟩ : ByteArray))) with hg61 | hg61
     ·
      have hs60 := and_t hg61 hb63
      have cs : Ch nb w56 w56 := Ch.refl
      refine RL.yes rfl rfl rfl hg61 ?_
      refine rl_move rfl rfl ?_
      refine rl_pickT rfl hg61 rfl rfl ?_
      exact RL.nil ⟨Ext.bothEq (congrArg Value.bool hs60) (Ext.skip rfl (Ext.rfl')), cs⟩
     ·
      have hs60 := and_f hg61 hb63
      have cs : Ch nb w56 w56 := Ch.refl
      refine RL.no rfl rfl rfl hg61 rfl rfl ?_
      refine rl_pickF rfl hg61 rfl rfl ?_
      exact RL.nil ⟨Ext.bothEq (congrArg Value.bool hs60) (Ext.skip rfl (Ext.rfl')), cs⟩
   intro w64 c65
   have ah0 := slRep.ch k_Candidate_pos ah0 c65
   have c55 := c55.then0 c65
   refine rl_move rfl rfl ?_
   obtain ⟨b68, hb69⟩ : ∃ v, (b62 && (!x2)) = v := ⟨_, rfl⟩
   have hS := ltS hb69 hS
   refine RL.join 3 39 (.bool b68) (fun w' => Ch nb w64 w') ?_ ?_
   · rcases Bool.eq_false_or_eq_true b62 with hg67 | hg67
     ·
      have hs66 := and_t hg67 hb69
      have cs : Ch nb w64 w64 := Ch.refl
      refine RL.yes rfl rfl rfl hg67 ?_
      refine rl_move rfl rfl ?_
      refine RL.yes rfl rfl rfl hg67 ?_
      refine rl_not rfl rfl ?_
      refine rl_pickT rfl hg67 rfl rfl ?_
      exact RL.nil ⟨Ext.bothEq (congrArg Value.bool hs66) (Ext.skip rfl (Ext.skip rfl (Ext.rfl'))), cs⟩
     ·
      have hs66 := and_f hg67 hb69
      have cs : Ch nb w64 w64 := Ch.refl
      refine RL.no rfl rfl rfl hg67 rfl rfl ?_
      refine RL.no rfl rfl rfl hg67 rfl rfl ?_
      refine rl_pickF rfl hg67 rfl rfl ?_
      exact RL.nil ⟨Ext.bothEq (congrArg Value.bool hs66) (Ext.skip rfl (Ext.skip rfl (Ext.rfl'))), cs⟩
   intro w70 c71
   have ah0 := slRep.ch k_Candidate_pos ah0 c71
   have c55 := c55.then0 c71
   refine rl_assign rfl rfl ?_
   refine RL.nil ?_
   refine thn_n ?_
   refine CW.ret ?_
   obtain rfl := hS
   exact ret1 rfl ⟨rfl, c55⟩
/-- lb/lbref18.Filter -/
theorem ctr31 (F : Nat → Prop) (w : World) (a0 : (List Candidate)) (av0 : Value) (ah0 : slRep k_Candidate F w a0 av0) (a1 : ByteArray) (r : (List Candidate)) (hs : F31_linkboyref18_Filter a0 a1 = some r) :
    Ret Try.prog 31 #[av0, (Value.string a1)] w fun v w' => ∃ (y0 : Value), v = y0 ∧ SlO k_Candidate 58 F w.heap.size (inBlk y0) w' r y0 ∧ Ch nb w w' := by
  have hS := hs
  have c0 : Ch nb w w := Ch.refl
  have ah0 := slRep.enter k_Candidate_pos ah0
  refine Ret.of (n := 36) (args := [_, _]) (rs := [.tmp 4]) Try.func31 rfl rfl rfl rfl ?_
  refine CW.seq (CW.region ?_)
  refine rl_assign rfl rfl ?_
  refine RL.nil ?_
  refine thn_n ?_
  refine CW.seq (CW.region ?_)
  refine rl_bslice (k := k_Candidate) (F := F) (B := w.heap.size) (S := nb) ([] : List Candidate) rfl k_Candidate_pos Try.underlying28 Try.sizeOf58 Try.zeroValue58 rfl rfl trivial c0.size nbS rfl ?_
  intro v1 w2 c3 hf4 h5
  have ah0 := slRep.st k_Candidate_pos ah0 c3 (admNew hf4 (fun _ x => x))
  have c0 := c0.then0 c3
  refine rl_assign rfl rfl ?_
  refine RL.nil ?_
  refine thn_n ?_
  refine CW.seq (CW.region ?_)
  refine rl_move rfl rfl ?_
  refine rl_move rfl rfl ?_
  obtain ⟨y8, hy9⟩ : ∃ y, F50_linkboyref18_Count a0 a1 = y := ⟨_, rfl⟩
  have hS := ltS hy9 hS
  refine rl_callF rfl en50 rfl (ctr50 (G F w.heap.size (un (inBlk v1) nb)) w2 a0 av0 ah0 a1 y8 hy9) ?_
  rintro _ w6 ⟨rfl, c7⟩
  have ah0 := slRep.ch k_Candidate_pos ah0 c7
  have h5 := h5.ch0 c7
  have c0 := c0.then0 c7
  refine rl_assign rfl rfl ?_
  refine RL.nil ?_
  refine thn_n ?_
  refine CW.seq ?_
  refine CW.seq (CW.region ?_)
  refine rl_move rfl rfl ?_
  refine rl_lenR rfl ah0 Try.underlying28 rfl ?_
  refine rl_move rfl rfl ?_
  refine RL.nil ?_
  refine thn_n ?_
  obtain ⟨o20, ho21, hS⟩ := bindS hS
  refine CW.cutB (fun E' w' => ∃ (x10 : (List Candidate)) (v11 : Value), Sub [(5, v11)] E' ∧ Ch nb w w' ∧ x10 = o20 ∧ slRep k_Candidate (G F w.heap.size (un (inBlk v11) nb)) w' a0 av0 ∧ SlO k_Candidate 58 F w.heap.size (un (inBlk v11) nb) w' x10 v11) ?_ ?_
  ·
   refine CW.loopS [(1, (Value.string a1)), (6, (Value.bool y8)), (13, av0), (14, (Value.int .i64 ((a0.length : Nat) : Int))), (5, v1), (15, (Value.int .i64 ((0 : Nat) : Int)))] ⟨rfl, rfl, rfl, rfl, rfl, rfl, trivial⟩ a0.length (fun m E w' => ∃ (rest13 : List Candidate) (i14 : Nat) (x10 : (List Candidate)) (v11 : Value), m = rest13.length ∧ E = [(1, (Value.string a1)), (6, (Value.bool y8)), (13, av0), (14, (Value.int .i64 ((a0.length : Nat) : Int))), (5, v11), (15, (Value.int .i64 ((i14 : Nat) : Int)))] ∧ Ch nb w w' ∧ At a0 i14 rest13 ∧ runAO (F31_linkboyref18_Filter_b1 a1 y8) rest13 x10 = some o20 ∧ slRep k_Candidate (G F w.heap.size (un (inBlk v11) nb)) w' a0 av0 ∧ SlO k_Candidate 58 F w.heap.size (un (inBlk v11) nb) w' x10 v11)
       ⟨a0, 0, [], v1, rfl, rfl, c0, At.start, ho21, ah0, h5⟩ ?_
   rintro _ _ w26 ⟨rest13, i14, x10, v11, rfl, rfl, c25, hat16, hL15, ah0, h12⟩
   refine CW.seq (CW.region ?_)
   refine rl_bin rfl rfl B.lss rfl ?_
   refine RL.nil (thn_n ?_)
   refine CW.seq ?_
   refine CW.cond (t := decide (((i14 : Nat) : Int) < ((a0.length : Nat) : Int))) rfl (fun q28 => ?_) (fun q28 => ?_)
   ·
    obtain ⟨x22, rest29, rfl⟩ := hat16.cons q28
    obtain ⟨q17, hq18⟩ := runAO_some hL15
    have hb19 := hq18
    refine CW.skip (thn_n ?_)
    refine CW.seq ?_
    refine CW.block ?_
    refine CW.seq (CW.region ?_)
    refine rl_ixR rfl ah0 rfl hat16.get Try.underlying28 Try.sizeOf58 rfl ?_
    intro p30 o31 cs32 hr33 hs34 hg35
    obtain ⟨z36, rfl, h37⟩ := hr33
    refine rl_loadA (cs := (Candidate.c x22 z36)) rfl Try.isAgg58 Try.sizeOf58 (hs34) rfl rfl ?_
    refine rl_alloc (Candidate.c Candidate.z (Value.slice none 0 0)) Try.zeroValue58 rfl rfl ?_
    intro p38 w39 n40 k41
    have lo42 : ∀ b, inBlk (Value.pointer (some ⟨p38, 0, none⟩)) b → w.heap.size ≤ b := fun b h => Nat.le_trans c25.size (n40.fresh b h)
    have d43 : ∀ b, inBlk (Value.pointer (some ⟨p38, 0, none⟩)) b → ¬ inBlk v11 b := disNew n40.fresh (fun b hb => (h12.lt b hb).2)
    have ah0 := slRep.st k_Candidate_pos ah0 n40.ch (admNew n40.fresh (fun _ x => x))
    have h12 := h12.st n40.ch (fun _ _ x => x) (admNew n40.fresh (fun _ x => x)) (fun b h => (.inr (.inl h)))
    have h37 := slRep.st kStr_pos h37 n40.ch (admNew n40.fresh (fun _ x => x))
    have c25 := c25.then0 n40.ch
    refine rl_storeA (vs := (Candidate.c x22 z36)) rfl rfl (Kd.one _ (show k_Candidate.rep (G F w.heap.size (un (inBlk (Value.pointer (some ⟨p38, 0, none⟩))) (un (inBlk v11) nb))) w39 x22 (Candidate.c x22 z36) from ⟨z36, rfl, h37⟩)) Try.sizeOf58 rfl k41 rfl ?_
    intro w44 s46 c45 k47
    have ad48 : ∀ b, b < w39.heap.size → ¬ (un (inBlk (Value.pointer (some ⟨p38, 0, none⟩))) (un (inBlk v11) nb)) b → ¬ (inBlk (Value.pointer (some ⟨p38, 0, none⟩))) b ∧ ¬ (un (inBlk (Value.pointer (some ⟨p38, 0, none⟩))) (un (inBlk v11) nb)) b := fun b _ hs => ⟨fun h => hs (.inl h), hs⟩
    have ah0 := slRep.st k_Candidate_pos ah0 c45 ad48
    have h12 := h12.st c45 (fun b hb h => (disSym d43) b hb h) ad48 (fun b h => (.inr (.inl h)))
    have h37 := slRep.st kStr_pos h37 c45 ad48
    have c25 := c25.then c45 (fun i hi h => absurd (lo42 i h) (Nat.not_le_of_lt hi))
    refine RL.nil ?_
    refine thn_n ?_
    refine CW.seq (CW.region ?_)
    refine rl_fieldAddr rfl fa58_2 rfl ?_
    refine rl_loadS (v := (Value.bool x22.ready)) rfl Try.isAgg4 (k47.cell rfl) rfl ?_
    refine rl_move rfl rfl ?_
    obtain ⟨b51, hb52⟩ : ∃ v, (x22.ready && (lt ((!y8) || (lt (F51_linkboyref18_Meant x22 a1) fun y55 => y55)) fun b53 => b53)) = v := ⟨_, rfl⟩
    have hb19 := ltS hb52 hb19
    refine RL.join 8 29 (.bool b51) (fun w' => Ch nb w44 w') ?_ ?_
    · rcases Bool.eq_false_or_eq_true x22.ready with hg50 | hg50
      ·
       have hs49 := and_t hg50 hb52
       have cs : Ch nb w44 w44 := Ch.refl
       refine RL.yes rfl rfl rfl hg50 ?_
       refine rl_move rfl rfl ?_
       refine RL.yes rfl rfl rfl hg50 ?_
       refine rl_not rfl rfl ?_
       refine RL.yes rfl rfl rfl hg50 ?_
       refine rl_move rfl rfl ?_
       obtain ⟨b56, hb57⟩ : ∃ v, ((!y8) || (lt (F51_linkboyref18_Meant x22 a1) fun y58 => y58)) = v := ⟨_, rfl⟩
       have hs49 := ltS hb57 hs49
       refine RL.join 4 28 (.bool b56) (fun w' => Ch nb w44 w') ?_ ?_
       · rcases Bool.eq_false_or_eq_true (!y8) with hg55 | hg55
         ·
          have hs54 := or_t hg55 hb57
          have cs : Ch nb w44 w44 := Ch.refl
          refine RL.no rfl rfl rfl hg55 rfl rfl ?_
          refine RL.no rfl rfl rfl hg55 rfl rfl ?_
          refine RL.no rfl rfl rfl hg55 rfl rfl ?_
          refine RL.yes rfl rfl rfl hg50 ?_
          refine rl_pickT rfl hg55 rfl rfl ?_
          exact RL.nil ⟨Ext.bothEq (congrArg Value.bool hs54) (Ext.skip rfl (Ext.skip rfl (Ext.skip rfl (Ext.rfl')))), cs⟩
         ·
          have hs54 := or_f hg55 hb57
          have cs : Ch nb w44 w44 := Ch.refl
          refine RL.yes rfl rfl rfl hg55 ?_
          refine rl_loadA (cs := (Candidate.c x22 z36)) rfl Try.isAgg58 Try.sizeOf58 (k47.segAt 0 23) rfl rfl ?_
          refine RL.yes rfl rfl rfl hg55 ?_
          refine rl_move rfl rfl ?_
          refine RL.yes rfl rfl rfl hg55 ?_
          obtain ⟨y61, hy62⟩ : ∃ y, F51_linkboyref18_Meant x22 a1 = y := ⟨_, rfl⟩
          have hs54 := ltS hy62 hs54
          refine rl_callF rfl en51 rfl (ctr51 (G F w.heap.size (un (inBlk (Value.pointer (some ⟨p38, 0, none⟩))) (un (inBlk v11) nb))) w44 x22 z36 h37 a1 y61 hy62) ?_
          rintro _ w59 ⟨rfl, c60⟩
          have ah0 := slRep.ch k_Candidate_pos ah0 c60
          have h12 := h12.ch0 c60
          have h37 := slRep.ch kStr_pos h37 c60
          have k47 := k47.ch0 c60
          have c25 := c25.then0 c60
          refine RL.yes rfl rfl rfl hg50 ?_
          refine rl_pickF rfl hg55 rfl rfl ?_
          have cs := cs.then0 c60
          exact RL.nil ⟨Ext.bothEq (congrArg Value.bool hs54) (Ext.skip rfl (Ext.skip rfl (Ext.skip rfl (Ext.rfl')))), cs⟩
       intro w58 c63
       have ah0 := slRep.ch k_Candidate_pos ah0 c63
       have h12 := h12.ch0 c63
       have h37 := slRep.ch kStr_pos h37 c63
       have k47 := k47.ch0 c63
       have c25 := c25.then0 c63
       refine rl_pickT rfl hg50 rfl rfl ?_
       have cs := cs.then0 c63
       exact RL.nil ⟨Ext.bothEq (congrArg Value.bool hs49) (Ext.skip rfl (Ext.skip rfl (Ext.skip rfl (Ext.skip rfl (Ext.rfl'))))), cs⟩
      ·
       have hs49 := and_f hg50 hb52
       have cs : Ch nb w44 w44 := Ch.refl
       refine RL.no rfl rfl rfl hg50 rfl rfl ?_
       refine RL.no rfl rfl rfl hg50 rfl rfl ?_
       refine RL.no rfl rfl rfl hg50 rfl rfl ?_
       refine RL.noU rfl rfl rfl rfl rfl ?_
       refine RL.noU rfl rfl rfl rfl rfl ?_
       refine RL.noU rfl rfl rfl rfl rfl ?_
       refine RL.no rfl rfl rfl hg50 rfl rfl ?_
       refine rl_pickF rfl hg50 rfl rfl ?_
       exact RL.nil ⟨Ext.bothEq (congrArg Value.bool hs49) (Ext.skip rfl (Ext.skip rfl (Ext.skip rfl (Ext.skip rfl (Ext.skip rfl (Ext.skip rfl (Ext.skip rfl (Ext.rfl')))))))), cs⟩
    intro w53 c64
    have ah0 := slRep.ch k_Candidate_pos ah0 c64
    have h12 := h12.ch0 c64
    have h37 := slRep.ch kStr_pos h37 c64
    have k47 := k47.ch0 c64
    have c25 := c25.then0 c64
    refine RL.nil ?_
    refine thn_n ?_
    refine CW.cond (t := b51) rfl (fun q65 => ?_) (fun q65 => ?_)
    ·
     have hb19 := ifT q65 hb19
     refine CW.region ?_
     refine rl_move rfl rfl ?_
     refine rl_loadA (cs := (Candidate.c x22 z36)) rfl Try.isAgg58 Try.sizeOf58 (k47.segAt 0 23) rfl rfl ?_
     refine rl_bslice (k := k_Candidate) (F := F) (B := w.heap.size) (S := (un (inBlk (Value.pointer (some ⟨p38, 0, none⟩))) (un (inBlk v11) nb))) ([x22] : List Candidate) rfl k_Candidate_pos Try.underlying28 Try.sizeOf58 Try.zeroValue58 rfl rfl ⟨rfl, ⟨z36, rfl, h37⟩, trivial⟩ c25.size (un_lt k47.ltp (un_lt (fun b hb => (h12.lt b hb).2) nbS)) rfl ?_
     intro v66 w67 c68 hf69 h70
     have h70 := h70.readNew k_Candidate_pos hf69 (un_lt k47.ltp (un_lt (fun b hb => (h12.lt b hb).2) nbS))
     have ah0 := slRep.ch k_Candidate_pos ah0 c68
     have h12 := h12.ch0 c68
     have h37 := slRep.ch kStr_pos h37 c68
     have k47 := k47.ch0 c68
     have c25 := c25.then0 c68
     obtain ⟨z79, hz80, hb19⟩ := bindS hb19
     have hl := (apO_get hz80).1
     refine rl_append (k := k_Candidate) (T := 58) (F := F) (B := w.heap.size) (S := (un (inBlk (Value.pointer (some ⟨p38, 0, none⟩))) (un (inBlk v11) nb))) (S2 := (un (inBlk (Value.pointer (some ⟨p38, 0, none⟩))) nb)) (fun v => (un (inBlk (Value.pointer (some ⟨p38, 0, none⟩))) (un (inBlk v) nb))) rfl rfl k_Candidate_pos ap28 h12 h70 (fun _ => un_swap) (fun _ _ => un_swap) hl c25.size (un_lt k47.ltp (un_lt (fun b hb => (h12.lt b hb).2) nbS)) rfl ?_
     intro v73 w74 h75 c76 hf77 ha78
     have d81 : ∀ b, inBlk v73 b → ¬ inBlk (Value.pointer (some ⟨p38, 0, none⟩)) b := disApp hf77 (disSym d43) k47.ltp
     have ah0 := slRep.st k_Candidate_pos ah0 c76 ha78
     have h37 := slRep.st kStr_pos h37 c76 ha78
     have k47 := k47.ch c76 ((fun b hb h => d43 b hb h) _ rfl)
     have h70 := slRep.st k_Candidate_pos h70 c76 ha78
     have c25 := c25.then c76 (fun i hi h => absurd ((fun b hb => (h12.lt b hb).1) i h) (Nat.not_le_of_lt hi))
     refine rl_assign rfl rfl ?_
     refine RL.nil ?_
     refine inB_n ?_
     refine thn_n ?_
     refine CW.region ?_
     refine rl_inc rfl hat16.lt ah0.big rfl ?_
     refine rl_move rfl rfl ?_
     refine RL.nil ?_
     refine thn_n ?_
     have crf : Ch nb w74 w74 := Ch.refl
     have ah0 := slRep.st k_Candidate_pos ah0 crf (show ∀ b, b < w74.heap.size → ¬ (un (inBlk (Value.pointer (some ⟨p38, 0, none⟩))) (un (inBlk v73) nb)) b → ¬ nb b ∧ ¬ (un (inBlk v73) nb) b from fun b _ hs => ⟨fun x => x, fun h => hs (un_el h (fun h => (.inr (.inl h))) (fun h => False.elim h))⟩)
     have h37 := slRep.st kStr_pos h37 crf (show ∀ b, b < w74.heap.size → ¬ (un (inBlk (Value.pointer (some ⟨p38, 0, none⟩))) (un (inBlk v73) nb)) b → ¬ nb b ∧ ¬ (un (inBlk v73) nb) b from fun b _ hs => ⟨fun x => x, fun h => hs (un_el h (fun h => (.inr (.inl h))) (fun h => False.elim h))⟩)
     have h70 := slRep.st k_Candidate_pos h70 crf (show ∀ b, b < w74.heap.size → ¬ (un (inBlk (Value.pointer (some ⟨p38, 0, none⟩))) (un (inBlk v73) nb)) b → ¬ nb b ∧ ¬ (un (inBlk v73) nb) b from fun b _ hs => ⟨fun x => x, fun h => hs (un_el h (fun h => (.inr (.inl h))) (fun h => False.elim h))⟩)
     have h75 := h75.st crf (fun _ _ x => x) (show ∀ b, b < w74.heap.size → ¬ (un (inBlk (Value.pointer (some ⟨p38, 0, none⟩))) (un (inBlk v73) nb)) b → ¬ nb b ∧ ¬ (un (inBlk v73) nb) b from fun b _ hs => ⟨fun x => x, fun h => hs (un_el h (fun h => (.inr (.inl h))) (fun h => False.elim h))⟩) (fun b h => (.inl h))
     have c25 := c25.then0 crf
     have hLn := runAO_next hL15 hq18 hb19
     exact ⟨rest29.length, Nat.lt_succ_self _, [(1, (Value.string a1)), (6, (Value.bool y8)), (13, av0), (14, (Value.int .i64 ((a0.length : Nat) : Int))), (5, v73), (15, (Value.int .i64 ((i14 + 1 : Nat) : Int)))], ⟨rfl, rfl, rfl, rfl, rfl, rfl, trivial⟩, ⟨rest29, i14 + 1, x10 ++ [x22], v73, rfl, rfl, c25, hat16.next, hLn, ah0, h75⟩⟩
    ·
     have hb19 := ifF q65 hb19
     refine CW.skip ?_
     refine inB_n ?_
     refine thn_n ?_
     refine CW.region ?_
     refine rl_inc rfl hat16.lt ah0.big rfl ?_
     refine rl_move rfl rfl ?_
     refine RL.nil ?_
     refine thn_n ?_
     have crf : Ch nb w53 w53 := Ch.refl
     have ah0 := slRep.st k_Candidate_pos ah0 crf (show ∀ b, b < w53.heap.size → ¬ (un (inBlk (Value.pointer (some ⟨p38, 0, none⟩))) (un (inBlk v11) nb)) b → ¬ nb b ∧ ¬ (un (inBlk v11) nb) b from fun b _ hs => ⟨fun x => x, fun h => hs (un_el h (fun h => (.inr (.inl h))) (fun h => False.elim h))⟩)
     have h12 := h12.st crf (fun _ _ x => x) (show ∀ b, b < w53.heap.size → ¬ (un (inBlk (Value.pointer (some ⟨p38, 0, none⟩))) (un (inBlk v11) nb)) b → ¬ nb b ∧ ¬ (un (inBlk v11) nb) b from fun b _ hs => ⟨fun x => x, fun h => hs (un_el h (fun h => (.inr (.inl h))) (fun h => False.elim h))⟩) (fun b h => (.inl h))
     have h37 := slRep.st kStr_pos h37 crf (show ∀ b, b < w53.heap.size → ¬ (un (inBlk (Value.pointer (some ⟨p38, 0, none⟩))) (un (inBlk v11) nb)) b → ¬ nb b ∧ ¬ (un (inBlk v11) nb) b from fun b _ hs => ⟨fun x => x, fun h => hs (un_el h (fun h => (.inr (.inl h))) (fun h => False.elim h))⟩)
     have c25 := c25.then0 crf
     have hLn := runAO_next hL15 hq18 hb19
     exact ⟨rest29.length, Nat.lt_succ_self _, [(1, (Value.string a1)), (6, (Value.bool y8)), (13, av0), (14, (Value.int .i64 ((a0.length : Nat) : Int))), (5, v11), (15, (Value.int .i64 ((i14 + 1 : Nat) : Int)))], ⟨rfl, rfl, rfl, rfl, rfl, rfl, trivial⟩, ⟨rest29, i14 + 1, x10, v11, rfl, rfl, c25, hat16.next, hLn, ah0, h12⟩⟩
   ·
    obtain rfl := hat16.nil q28
    have hLf : x10 = o20 := runAO_done hL15
    refine CW.exit (thn_exit (thn_exit (inB_hit ?_)))
    exact ⟨x10, v11, ⟨rfl, trivial⟩, c25, hLf, ah0, h12⟩
  ·
   rintro _ w83 ⟨x10, v11, hE84, c82, f85, ah0, h12⟩
   subst f85
   refine thn_n (CW.sub [(5, v11)] hE84 ?_)
   refine CW.seq (CW.region ?_)
   refine rl_move rfl rfl ?_
   refine rl_assign rfl rfl ?_
   refine RL.nil ?_
   refine thn_n ?_
   refine CW.ret ?_
   obtain rfl := Option.some.inj hS
   exact ret1 rfl ⟨v11, rfl, h12.out, c82⟩
/-- lb/lbref19.Choose -/
theorem ctr14 (F : Nat → Prop) (w : World) (a0 : (List Candidate)) (av0 : Value) (ah0 : slRep k_Candidate F w a0 av0) (a1 : Want) (r : (List Candidate)) (hs : F14_linkboyref19_Choose a0 a1 = some r) :
    Ret Try.prog 14 #[av0, (Value.agg (Want.enc a1).toArray)] w fun v w' => ∃ (y0 : Value), v = y0 ∧ SlO k_Candidate 58 F w.heap.size (inBlk y0) w' r y0 ∧ Ch nb w w' := by
  have hS := hs
  have c0 : Ch nb w w := Ch.refl
  have ah0 := slRep.enter k_Candidate_pos ah0
  refine Ret.of (n := 41) (args := [_, _]) (rs := [.tmp 4]) Try.func14 rfl rfl rfl rfl ?_
  refine CW.seq (CW.region ?_)
  refine rl_boxA (cs := (Want.enc a1)) rfl rfl ?_
  intro p1 w2 n3 k4
  have gp1 : (G F w.heap.size nb) p1 := ⟨.inr (by rw [n3.eq]; exact c0.size), fun h => absurd (nbS _ h) (by rw [n3.eq]; exact Nat.lt_irrefl _)⟩
  have ah0 := slRep.ch k_Candidate_pos ah0 n3.ch
  have c0 := c0.then0 n3.ch
  refine rl_assign rfl rfl ?_
  refine RL.nil ?_
  refine thn_n ?_
  refine CW.seq ?_
  refine CW.seq (CW.region ?_)
  refine rl_fieldAddr rfl fa35_3 rfl ?_
  refine rl_loadS (v := (Value.bool a1.localF)) rfl Try.isAgg4 (k4.cell rfl) rfl ?_
  refine RL.nil ?_
  refine thn_n ?_
  refine CW.cond (t := a1.localF) rfl (fun q5 => ?_) (fun q5 => ?_)
  ·
   have hS := ifT q5 hS
   refine CW.seq (CW.region ?_)
   refine rl_bslice (k := k_Candidate) (F := F) (B := w.heap.size) (S := nb) ([] : List Candidate) rfl k_Candidate_pos Try.underlying28 Try.sizeOf58 Try.zeroValue58 rfl rfl trivial c0.size nbS rfl ?_
   intro v6 w7 c8 hf9 h10
   have ah0 := slRep.st k_Candidate_pos ah0 c8 (admNew hf9 (fun _ x => x))
   have gp1n : (G F w.heap.size (un (inBlk v6) nb)) p1 := ⟨gp1.1, ((admNew hf9 (fun _ x => x)) _ k4.lt gp1.2).2⟩
   have k4 := k4.ch0 c8
   have gp1 := gp1n
   have c0 := c0.then0 c8
   refine rl_assign rfl rfl ?_
   refine RL.nil ?_
   refine thn_n ?_
   refine CW.seq ?_
   refine CW.seq (CW.region ?_)
   refine rl_move rfl rfl ?_
   refine rl_lenR rfl ah0 Try.underlying28 rfl ?_
   refine rl_move rfl rfl ?_
   refine RL.nil ?_
   refine thn_n ?_
   obtain ⟨o21, ho22, hS⟩ := bindS hS
   refine CW.cutB (fun E' w' => ∃ (x11 : (List Candidate)) (v12 : Value), Sub [(5, v12)] E' ∧ Ch nb w w' ∧ x11 = o21 ∧ slRep k_Candidate (G F w.heap.size (un (inBlk v12) nb)) w' a0 av0 ∧ Blk w' p1 35 (Want.enc a1) ∧ SlO k_Candidate 58 F w.heap.size (un (inBlk v12) nb) w' x11 v12 ∧ (G F w.heap.size (un (inBlk v12) nb)) p1) ?_ ?_
   ·
    refine CW.loopS [(12, av0), (13, (Value.int .i64 ((a0.length : Nat) : Int))), (5, v6), (14, (Value.int .i64 ((0 : Nat) : Int)))] ⟨rfl, rfl, rfl, rfl, trivial⟩ a0.length (fun m E w' => ∃ (rest14 : List Candidate) (i15 : Nat) (x11 : (List Candidate)) (v12 : Value), m = rest14.length ∧ E = [(12, av0), (13, (Value.int .i64 ((a0.length : Nat) : Int))), (5, v12), (14, (Value.int .i64 ((i15 : Nat) : Int)))] ∧ Ch nb w w' ∧ At a0 i15 rest14 ∧ runAO F14_linkboyref19_Choose_b1 rest14 x11 = some o21 ∧ slRep k_Candidate (G F w.heap.size (un (inBlk v12) nb)) w' a0 av0 ∧ Blk w' p1 35 (Want.enc a1) ∧ SlO k_Candidate 58 F w.heap.size (un (inBlk v12) nb) w' x11 v12 ∧ (G F w.heap.size (un (inBlk v12) nb)) p1)
        ⟨a0, 0, [], v6, rfl, rfl, c0, At.start, ho22, ah0, k4, h10, gp1⟩ ?_
    rintro _ _ w27 ⟨rest14, i15, x11, v12, rfl, rfl, c26, hat17, hL16, ah0, k4, h13, gp1⟩
    refine CW.seq (CW.region ?_)
    refine rl_bin rfl rfl B.lss rfl ?_
    refine RL.nil (thn_n ?_)
    refine CW.seq ?_
    refine CW.cond (t := decide (((i15 : Nat) : Int) < ((a0.length : Nat) : Int))) rfl (fun q29 => ?_) (fun q29 => ?_)
    ·
     obtain ⟨x23, rest30, rfl⟩ := hat17.cons q29
     obtain ⟨q18, hq19⟩ := runAO_some hL16
     have hb20 := hq19
     refine CW.skip (thn_n ?_)
     refine CW.seq ?_
     refine CW.block ?_
     refine CW.seq (CW.region ?_)
     refine rl_ixR rfl ah0 rfl hat17.get Try.underlying28 Try.sizeOf58 rfl ?_
     intro p31 o32 cs33 hr34 hs35 hg36
     obtain ⟨z37, rfl, h38⟩ := hr34
     refine rl_loadA (cs := (Candidate.c x23 z37)) rfl Try.isAgg58 Try.sizeOf58 (hs35) rfl rfl ?_
     refine rl_alloc (Candidate.c Candidate.z (Value.slice none 0 0)) Try.zeroValue58 rfl rfl ?_
     intro p39 w40 n41 k42
     have lo43 : ∀ b, inBlk (Value.pointer (some ⟨p39, 0, none⟩)) b → w.heap.size ≤ b := fun b h => Nat.le_trans c26.size (n41.fresh b h)
     have d44 : ∀ b, inBlk (Value.pointer (some ⟨p39, 0, none⟩)) b → ¬ inBlk v12 b := disNew n41.fresh (fun b hb => (h13.lt b hb).2)
     have ah0 := slRep.st k_Candidate_pos ah0 n41.ch (admNew n41.fresh (fun _ x => x))
     have gp1n : (G F w.heap.size (un (inBlk (Value.pointer (some ⟨p39, 0, none⟩))) (un (inBlk v12) nb))) p1 := ⟨gp1.1, ((admNew n41.fresh (fun _ x => x)) _ k4.lt gp1.2).2⟩
     have k4 := k4.ch0 n41.ch
     have gp1 := gp1n
     have h13 := h13.st n41.ch (fun _ _ x => x) (admNew n41.fresh (fun _ x => x)) (fun b h => (.inr (.inl h)))
     have h38 := slRep.st kStr_pos h38 n41.ch (admNew n41.fresh (fun _ x => x))
     have c26 := c26.then0 n41.ch
     refine rl_storeA (vs := (Candidate.c x23 z37)) rfl rfl (Kd.one _ (show k_Candidate.rep (G F w.heap.size (un (inBlk (Value.pointer (some ⟨p39, 0, none⟩))) (un (inBlk v12) nb))) w40 x23 (Candidate.c x23 z37) from ⟨z37, rfl, h38⟩)) Try.sizeOf58 rfl k42 rfl ?_
     intro w45 s47 c46 k48
     have ad49 : ∀ b, b < w40.heap.size → ¬ (un (inBlk (Value.pointer (some ⟨p39, 0, none⟩))) (un (inBlk v12) nb)) b → ¬ (inBlk (Value.pointer (some ⟨p39, 0, none⟩))) b ∧ ¬ (un (inBlk (Value.pointer (some ⟨p39, 0, none⟩))) (un (inBlk v12) nb)) b := fun b _ hs => ⟨fun h => hs (.inl h), hs⟩
     have ah0 := slRep.st k_Candidate_pos ah0 c46 ad49
     have k4 := k4.ch c46 (ad49 _ k4.lt gp1.2).1
     have h13 := h13.st c46 (fun b hb h => (disSym d44) b hb h) ad49 (fun b h => (.inr (.inl h)))
     have h38 := slRep.st kStr_pos h38 c46 ad49
     have c26 := c26.then c46 (fun i hi h => absurd (lo43 i h) (Nat.not_le_of_lt hi))
     refine RL.nil ?_
     refine thn_n ?_
     refine CW.seq (CW.region ?_)
     refine rl_fieldAddr rfl fa58_1 rfl ?_
     refine rl_loadS (v := (Value.bool x23.localF)) rfl Try.isAgg4 (k48.cell rfl) rfl ?_
     refine RL.nil ?_
     refine thn_n ?_
     refine CW.cond (t := x23.localF) rfl (fun q50 => ?_) (fun q50 => ?_)
     ·
      have hb20 := ifT q50 hb20
      refine CW.region ?_
      refine rl_move rfl rfl ?_
      refine rl_loadA (cs := (Candidate.c x23 z37)) rfl Try.isAgg58 Try.sizeOf58 (k48.segAt 0 23) rfl rfl ?_
      refine rl_bslice (k := k_Candidate) (F := F) (B := w.heap.size) (S := (un (inBlk (Value.pointer (some ⟨p39, 0, none⟩))) (un (inBlk v12) nb))) ([x23] : List Candidate) rfl k_Candidate_pos Try.underlying28 Try.sizeOf58 Try.zeroValue58 rfl rfl ⟨rfl, ⟨z37, rfl, h38⟩, trivial⟩ c26.size (un_lt k48.ltp (un_lt (fun b hb => (h13.lt b hb).2) nbS)) rfl ?_
      intro v51 w52 c53 hf54 h55
      have h55 := h55.readNew k_Candidate_pos hf54 (un_lt k48.ltp (un_lt (fun b hb => (h13.lt b hb).2) nbS))
      have ah0 := slRep.ch k_Candidate_pos ah0 c53
      have k4 := k4.ch0 c53
      have h13 := h13.ch0 c53
      have h38 := slRep.ch kStr_pos h38 c53
      have k48 := k48.ch0 c53
      have c26 := c26.then0 c53
      obtain ⟨z64, hz65, hb20⟩ := bindS hb20
      have hl := (apO_get hz65).1
      refine rl_append (k := k_Candidate) (T := 58) (F := F) (B := w.heap.size) (S := (un (inBlk (Value.pointer (some ⟨p39, 0, none⟩))) (un (inBlk v12) nb))) (S2 := (un (inBlk (Value.pointer (some ⟨p39, 0, none⟩))) nb)) (fun v => (un (inBlk (Value.pointer (some ⟨p39, 0, none⟩))) (un (inBlk v) nb))) rfl rfl k_Candidate_pos ap28 h13 h55 (fun _ => un_swap) (fun _ _ => un_swap) hl c26.size (un_lt k48.ltp (un_lt (fun b hb => (h13.lt b hb).2) nbS)) rfl ?_
      intro v58 w59 h60 c61 hf62 ha63
      have d66 : ∀ b, inBlk v58 b → ¬ inBlk (Value.pointer (some ⟨p39, 0, none⟩)) b := disApp hf62 (disSym d44) k48.ltp
      have ah0 := slRep.st k_Candidate_pos ah0 c61 ha63
      have gp1n : (G F w.heap.size (un (inBlk (Value.pointer (some ⟨p39, 0, none⟩))) (un (inBlk v58) nb))) p1 := ⟨gp1.1, (ha63 _ k4.lt gp1.2).2⟩
      have k4 := k4.ch c61 (ha63 _ k4.lt gp1.2).1
      have gp1 := gp1n
      have h38 := slRep.st kStr_pos h38 c61 ha63
      have k48 := k48.ch c61 ((fun b hb h => d44 b hb h) _ rfl)
      have h55 := slRep.st k_Candidate_pos h55 c61 ha63
      have c26 := c26.then c61 (fun i hi h => absurd ((fun b hb => (h13.lt b hb).1) i h) (Nat.not_le_of_lt hi))
      refine rl_assign rfl rfl ?_
      refine RL.nil ?_
      refine inB_n ?_
      refine thn_n ?_
      refine CW.region ?_
      refine rl_inc rfl hat17.lt ah0.big rfl ?_
      refine rl_move rfl rfl ?_
      refine RL.nil ?_
      refine thn_n ?_
      have crf : Ch nb w59 w59 := Ch.refl
      have ah0 := slRep.st k_Candidate_pos ah0 crf (show ∀ b, b < w59.heap.size → ¬ (un (inBlk (Value.pointer (some ⟨p39, 0, none⟩))) (un (inBlk v58) nb)) b → ¬ nb b ∧ ¬ (un (inBlk v58) nb) b from fun b _ hs => ⟨fun x => x, fun h => hs (un_el h (fun h => (.inr (.inl h))) (fun h => False.elim h))⟩)
      have gp1n : (G F w.heap.size (un (inBlk v58) nb)) p1 := ⟨gp1.1, ((show ∀ b, b < w59.heap.size → ¬ (un (inBlk (Value.pointer (some ⟨p39, 0, none⟩))) (un (inBlk v58) nb)) b → ¬ nb b ∧ ¬ (un (inBlk v58) nb) b from fun b _ hs => ⟨fun x => x, fun h => hs (un_el h (fun h => (.inr (.inl h))) (fun h => False.elim h))⟩) _ k4.lt gp1.2).2⟩
      have k4 := k4.ch0 crf
      have gp1 := gp1n
      have h38 := slRep.st kStr_pos h38 crf (show ∀ b, b < w59.heap.size → ¬ (un (inBlk (Value.pointer (some ⟨p39, 0, none⟩))) (un (inBlk v58) nb)) b → ¬ nb b ∧ ¬ (un (inBlk v58) nb) b from fun b _ hs => ⟨fun x => x, fun h => hs (un_el h (fun h => (.inr (.inl h))) (fun h => False.elim h))⟩)
      have h55 := slRep.st k_Candidate_pos h55 crf (show ∀ b, b < w59.heap.size → ¬ (un (inBlk (Value.pointer (some ⟨p39, 0, none⟩))) (un (inBlk v58) nb)) b → ¬ nb b ∧ ¬ (un (inBlk v58) nb) b from fun b _ hs => ⟨fun x => x, fun h => hs (un_el h (fun h => (.inr (.inl h))) (fun h => False.elim h))⟩)
      have h60 := h60.st crf (fun _ _ x => x) (show ∀ b, b < w59.heap.size → ¬ (un (inBlk (Value.pointer (some ⟨p39, 0, none⟩))) (un (inBlk v58) nb)) b → ¬ nb b ∧ ¬ (un (inBlk v58) nb) b from fun b _ hs => ⟨fun x => x, fun h => hs (un_el h (fun h => (.inr (.inl h))) (fun h => False.elim h))⟩) (fun b h => (.inl h))
      have c26 := c26.then0 crf
      have hLn := runAO_next hL16 hq19 hb20
      exact ⟨rest30.length, Nat.lt_succ_self _, [(12, av0), (13, (Value.int .i64 ((a0.length : Nat) : Int))), (5, v58), (14, (Value.int .i64 ((i15 + 1 : Nat) : Int)))], ⟨rfl, rfl, rfl, rfl, trivial⟩, ⟨rest30, i15 + 1, x11 ++ [x23], v58, rfl, rfl, c26, hat17.next, hLn, ah0, k4, h60, gp1⟩⟩
     ·
      have hb20 := ifF q50 hb20
      refine CW.skip ?_
      refine inB_n ?_
      refine thn_n ?_
      refine CW.region ?_
      refine rl_inc rfl hat17.lt ah0.big rfl ?_
      refine rl_move rfl rfl ?_
      refine RL.nil ?_
      refine thn_n ?_
      have crf : Ch nb w45 w45 := Ch.refl
      have ah0 := slRep.st k_Candidate_pos ah0 crf (show ∀ b, b < w45.heap.size → ¬ (un (inBlk (Value.pointer (some ⟨p39, 0, none⟩))) (un (inBlk v12) nb)) b → ¬ nb b ∧ ¬ (un (inBlk v12) nb) b from fun b _ hs => ⟨fun x => x, fun h => hs (un_el h (fun h => (.inr (.inl h))) (fun h => False.elim h))⟩)
      have gp1n : (G F w.heap.size (un (inBlk v12) nb)) p1 := ⟨gp1.1, ((show ∀ b, b < w45.heap.size → ¬ (un (inBlk (Value.pointer (some ⟨p39, 0, none⟩))) (un (inBlk v12) nb)) b → ¬ nb b ∧ ¬ (un (inBlk v12) nb) b from fun b _ hs => ⟨fun x => x, fun h => hs (un_el h (fun h => (.inr (.inl h))) (fun h => False.elim h))⟩) _ k4.lt gp1.2).2⟩
      have k4 := k4.ch0 crf
      have gp1 := gp1n
      have h13 := h13.st crf (fun _ _ x => x) (show ∀ b, b < w45.heap.size → ¬ (un (inBlk (Value.pointer (some ⟨p39, 0, none⟩))) (un (inBlk v12) nb)) b → ¬ nb b ∧ ¬ (un (inBlk v12) nb) b from fun b _ hs => ⟨fun x => x, fun h => hs (un_el h (fun h => (.inr (.inl h))) (fun h => False.elim h))⟩) (fun b h => (.inl h))
      have h38 := slRep.st kStr_pos h38 crf (show ∀ b, b < w45.heap.size → ¬ (un (inBlk (Value.pointer (some ⟨p39, 0, none⟩))) (un (inBlk v12) nb)) b → ¬ nb b ∧ ¬ (un (inBlk v12) nb) b from fun b _ hs => ⟨fun x => x, fun h => hs (un_el h (fun h => (.inr (.inl h))) (fun h => False.elim h))⟩)
      have c26 := c26.then0 crf
      have hLn := runAO_next hL16 hq19 hb20
      exact ⟨rest30.length, Nat.lt_succ_self _, [(12, av0), (13, (Value.int .i64 ((a0.length : Nat) : Int))), (5, v12), (14, (Value.int .i64 ((i15 + 1 : Nat) : Int)))], ⟨rfl, rfl, rfl, rfl, trivial⟩, ⟨rest30, i15 + 1, x11, v12, rfl, rfl, c26, hat17.next, hLn, ah0, k4, h13, gp1⟩⟩
    ·
     obtain rfl := hat17.nil q29
     have hLf : x11 = o21 := runAO_done hL16
     refine CW.exit (thn_exit (thn_exit (inB_hit ?_)))
     exact ⟨x11, v12, ⟨rfl, trivial⟩, c26, hLf, ah0, k4, h13, gp1⟩
   ·
    rintro _ w68 ⟨x11, v12, hE69, c67, f70, ah0, k4, h13, gp1⟩
    subst f70
    refine thn_n (CW.sub [(5, v12)] hE69 ?_)
    refine CW.seq (CW.region ?_)
    refine rl_move rfl rfl ?_
    have h13 := SlO.read (S' := nb) k_Candidate_pos h13 (fun b hs h => hs (False.elim h)) (fun b hb => fun h => h)
    have crf : Ch nb w68 w68 := Ch.refl
    have ah0 := slRep.st k_Candidate_pos ah0 crf (show ∀ b, b < w68.heap.size → ¬ (un (inBlk v12) nb) b → ¬ nb b ∧ ¬ nb b from fun b _ hs => ⟨fun x => x, fun h => hs (False.elim h)⟩)
    have gp1n : (G F w.heap.size nb) p1 := ⟨gp1.1, ((show ∀ b, b < w68.heap.size → ¬ (un (inBlk v12) nb) b → ¬ nb b ∧ ¬ nb b from fun b _ hs => ⟨fun x => x, fun h => hs (False.elim h)⟩) _ k4.lt gp1.2).2⟩
    have k4 := k4.ch0 crf
    have gp1 := gp1n
    have c67 := c67.then0 crf
    obtain ⟨y74, hy75, hS⟩ := bindS hS
    refine rl_callF rfl en12 rfl (ctr12 (G F w.heap.size nb) w68 x11 v12 h13 y74 hy75) ?_
    rintro v76 w72 ⟨_, rfl, h77, c73⟩
    have hf78 : ∀ b, inBlk v76 b → w68.heap.size ≤ b := fun b hb => (h77.lt b hb).1
    have h77 := SlO.back (S' := un (inBlk v76) nb) h77 nbS c67.size (fun _ => Or.comm)
    have ah0 := slRep.st k_Candidate_pos ah0 c73 (admNew hf78 (fun _ x => x))
    have gp1n : (G F w.heap.size (un (inBlk v76) nb)) p1 := ⟨gp1.1, ((admNew hf78 (fun _ x => x)) _ k4.lt gp1.2).2⟩
    have k4 := k4.ch0 c73
    have gp1 := gp1n
    have h13 := slRep.st k_Candidate_pos h13 c73 (admNew hf78 (fun _ x => x))
    have c67 := c67.then0 c73
    refine rl_assign rfl rfl ?_
    refine RL.nil ?_
    refine thn_n ?_
    refine CW.ret ?_
    refine thn_ret ?_
    obtain rfl := Option.some.inj hS
    exact ret1 rfl ⟨v76, rfl, h77.out, c67⟩
  ·
   have hS := ifF q5 hS
   refine CW.skip ?_
   refine thn_n ?_
   refine CW.seq ?_
   refine CW.seq (CW.region ?_)
   refine rl_move rfl rfl ?_
   refine rl_fieldAddr rfl fa35_6 rfl ?_
   refine rl_loadS (v := (Value.string a1.zone)) rfl Try.isAgg9 (k4.cell rfl) rfl ?_
   obtain ⟨y81, hy82, hS⟩ := bindS hS
   refine rl_callF rfl en31 rfl (ctr31 (G F w.heap.size nb) w2 a0 av0 ah0 a1.zone y81 hy82) ?_
   rintro v83 w79 ⟨_, rfl, h84, c80⟩
   have hf85 : ∀ b, inBlk v83 b → w2.heap.size ≤ b := fun b hb => (h84.lt b hb).1
   have h84 := SlO.back (S' := un (inBlk v83) nb) h84 nbS c0.size (fun _ => Or.comm)
   have ah0 := slRep.st k_Candidate_pos ah0 c80 (admNew hf85 (fun _ x => x))
   have gp1n : (G F w.heap.size (un (inBlk v83) nb)) p1 := ⟨gp1.1, ((admNew hf85 (fun _ x => x)) _ k4.lt gp1.2).2⟩
   have k4 := k4.ch0 c80
   have gp1 := gp1n
   have c0 := c0.then0 c80
   refine rl_assign rfl rfl ?_
   refine RL.nil ?_
   refine thn_n ?_
   refine CW.seq (CW.region ?_)
   refine rl_fieldAddr rfl fa35_4 rfl ?_
   refine rl_loadS (v := (Value.bool a1.hinted)) rfl Try.isAgg4 (k4.cell rfl) rfl ?_
   refine rl_move rfl rfl ?_
   obtain ⟨b88, hb89⟩ : ∃ v, (a1.hinted && (decide (((y81.length : Nat) : Int) > 0))) = v := ⟨_, rfl⟩
   have hS := ltS hb89 hS
   refine RL.join 4 37 (.bool b88) (fun w' => Ch nb w79 w') ?_ ?_
   · rcases Bool.eq_false_or_eq_true a1.hinted with hg87 | hg87
     ·
      have hs86 := and_t hg87 hb89
      have cs : Ch nb w79 w79 := Ch.refl
      refine RL.yes rfl rfl rfl hg87 ?_
      refine rl_move rfl rfl ?_
      refine RL.yes rfl rfl rfl hg87 ?_
      refine rl_lenR rfl (SlO.read (S' := nb) k_Candidate_pos h84 (fun b hs h => hs (False.elim h)) (fun b hb => fun h => h)) Try.underlying28 rfl ?_
      refine RL.yes rfl rfl rfl hg87 ?_
      refine rl_bin rfl rfl B.gtr rfl ?_
      refine rl_pickT rfl hg87 rfl rfl ?_
      exact RL.nil ⟨Ext.bothEq (congrArg Value.bool hs86) (Ext.skip rfl (Ext.skip rfl (Ext.skip rfl (Ext.rfl')))), cs⟩
     ·
      have hs86 := and_f hg87 hb89
      have cs : Ch nb w79 w79 := Ch.refl
      refine RL.no rfl rfl rfl hg87 rfl rfl ?_
      refine RL.no rfl rfl rfl hg87 rfl rfl ?_
      refine RL.no rfl rfl rfl hg87 rfl rfl ?_
      refine rl_pickF rfl hg87 rfl rfl ?_
      exact RL.nil ⟨Ext.bothEq (congrArg Value.bool hs86) (Ext.skip rfl (Ext.skip rfl (Ext.skip rfl (Ext.rfl')))), cs⟩
   intro w90 c91
   have ah0 := slRep.ch k_Candidate_pos ah0 c91
   have k4 := k4.ch0 c91
   have h84 := h84.ch0 c91
   have c0 := c0.then0 c91
   refine RL.nil ?_
   refine thn_n ?_
   refine CW.cond (t := b88) rfl (fun q92 => ?_) (fun q92 => ?_)
   ·
    have hS := ifT q92 hS
    refine CW.seq (CW.region ?_)
    refine rl_move rfl rfl ?_
    refine rl_assign rfl rfl ?_
    refine RL.nil ?_
    refine thn_n ?_
    refine CW.ret ?_
    refine thn_ret ?_
    obtain rfl := Option.some.inj hS
    exact ret1 rfl ⟨v83, rfl, h84.out, c0⟩
   ·
    have hS := ifF q92 hS
    refine CW.skip ?_
    refine thn_n ?_
    refine CW.seq (CW.region ?_)
    refine rl_move rfl rfl ?_
    obtain ⟨y95, hy96, hS⟩ := bindS hS
    refine rl_callF rfl en12 rfl (ctr12 (G F w.heap.size (un (inBlk v83) nb)) w90 a0 av0 ah0 y95 hy96) ?_
    rintro v97 w93 ⟨_, rfl, h98, c94⟩
    have hf99 : ∀ b, inBlk v97 b → w90.heap.size ≤ b := fun b hb => (h98.lt b hb).1
    have h98 := SlO.back (S' := un (inBlk v97) (un (inBlk v83) nb)) h98 (un_lt (fun b hb => (h84.lt b hb).2) nbS) c0.size (fun _ => Or.comm)
    have d100 : ∀ b, inBlk v97 b → ¬ inBlk v83 b := disNew hf99 (fun b hb => (h84.lt b hb).2)
    have ah0 := slRep.st k_Candidate_pos ah0 c94 (admNew hf99 (fun _ x => x))
    have gp1n : (G F w.heap.size (un (inBlk v97) (un (inBlk v83) nb))) p1 := ⟨gp1.1, ((admNew hf99 (fun _ x => x)) _ k4.lt gp1.2).2⟩
    have k4 := k4.ch0 c94
    have gp1 := gp1n
    have h84 := h84.st c94 (fun _ _ x => x) (admNew hf99 (fun _ x => x)) (fun b h => (.inr (.inl h)))
    have c0 := c0.then0 c94
    refine rl_assign rfl rfl ?_
    refine RL.nil ?_
    refine thn_n ?_
    refine CW.ret ?_
    obtain rfl := Option.some.inj hS
    exact ret1 rfl ⟨v97, rfl, h98.out, c0⟩
/-- lb/lbref02.Compare -/
theorem ctr69 (F : Nat → Prop) (w : World) (a0 : Addr) (a1 : Addr) (r : Int) (hs : F69_linkboyref02_Compare a0 a1 = some r) :
    Ret Try.prog 69 #[(Value.agg (Addr.enc a0).toArray), (Value.agg (Addr.enc a1).toArray)] w fun v w' => v = (Value.int .i64 r) ∧ Ch nb w w' := by
  have hS := hs
  have c0 : Ch nb w w := Ch.refl
  refine Ret.of (n := 35) (args := [_, _]) (rs := [.tmp 4]) Try.func69 rfl rfl rfl rfl ?_
  refine CW.seq (CW.region ?_)
  refine rl_boxA (cs := (Addr.enc a0)) rfl rfl ?_
  intro p1 w2 n3 k4
  have gp1 : (G F w.heap.size nb) p1 := ⟨.inr (by rw [n3.eq]; exact c0.size), fun h => absurd (nbS _ h) (by rw [n3.eq]; exact Nat.lt_irrefl _)⟩
  have c0 := c0.then0 n3.ch
  refine rl_boxA (cs := (Addr.enc a1)) rfl rfl ?_
  intro p5 w6 n7 k8
  have gp5 : (G F w.heap.size nb) p5 := ⟨.inr (by rw [n7.eq]; exact c0.size), fun h => absurd (nbS _ h) (by rw [n7.eq]; exact Nat.lt_irrefl _)⟩
  have k4 := k4.ch0 n7.ch
  have c0 := c0.then0 n7.ch
  refine rl_assign rfl rfl ?_
  refine RL.nil ?_
  refine thn_n ?_
  refine CW.seq ?_
  refine CW.seq (CW.region ?_)
  refine rl_fieldAddr rfl fa39_0 rfl ?_
  refine rl_loadS (v := (Value.bool a0.six)) rfl Try.isAgg4 (k4.cell rfl) rfl ?_
  refine rl_fieldAddr rfl fa39_0 rfl ?_
  refine rl_loadS (v := (Value.bool a1.six)) rfl Try.isAgg4 (k8.cell rfl) rfl ?_
  refine rl_bin rfl rfl (B.neqB Try.underlying4) rfl ?_
  refine RL.nil ?_
  refine thn_n ?_
  refine CW.cond (t := !(a0.six == a1.six)) rfl (fun q9 => ?_) (fun q9 => ?_)
  ·
   have hS := ifT q9 hS
   refine CW.seq ?_
   refine CW.seq (CW.region ?_)
   refine rl_fieldAddr rfl fa39_0 rfl ?_
   refine rl_loadS (v := (Value.bool a0.six)) rfl Try.isAgg4 (k4.cell rfl) rfl ?_
   refine RL.nil ?_
   refine thn_n ?_
   refine CW.cond (t := a0.six) rfl (fun q10 => ?_) (fun q10 => ?_)
   ·
    have hS := ifT q10 hS
    refine CW.seq (CW.region ?_)
    refine rl_assign rfl rfl ?_
    refine RL.nil ?_
    refine thn_n ?_
    refine CW.ret ?_
    refine thn_ret ?_
    refine thn_ret ?_
    obtain rfl := Option.some.inj hS
    exact ret1 rfl ⟨rfl, c0⟩
   ·
    have hS := ifF q10 hS
    refine CW.skip ?_
    refine thn_n ?_
    refine CW.seq (CW.region ?_)
    refine rl_assign rfl rfl ?_
    refine RL.nil ?_
    refine thn_n ?_
    refine CW.ret ?_
    refine thn_ret ?_
    obtain rfl := Option.some.inj hS
    exact ret1 rfl ⟨rfl, c0⟩
  ·
   have hS := ifF q9 hS
   refine CW.skip ?_
   refine thn_n ?_
   refine CW.seq ?_
   refine CW.seq (CW.region ?_)
   refine rl_move rfl rfl ?_
   refine RL.nil ?_
   refine thn_n ?_
   obtain ⟨o19, ho20, hS⟩ := bindS hS
   refine CW.cutB (fun E' w' => ∃ (x11 : Int), Sub [] E' ∧ Ch nb w w' ∧ Lp.fin x11 = o19 ∧ Blk w' p1 39 (Addr.enc a0) ∧ Blk w' p5 39 (Addr.enc a1) ∧ (G F w.heap.size nb) p1 ∧ (G F w.heap.size nb) p5) ?_ ?_
   ·
    refine CW.loopS [(2, (Value.pointer (some ⟨p1, 0, none⟩))), (3, (Value.pointer (some ⟨p5, 0, none⟩))), (13, (Value.int .i64 0))] ⟨rfl, rfl, rfl, trivial⟩ FUEL (fun m E w' => ∃ (x11 : Int), E = [(2, (Value.pointer (some ⟨p1, 0, none⟩))), (3, (Value.pointer (some ⟨p5, 0, none⟩))), (13, (Value.int .i64 x11))] ∧ Ch nb w w' ∧ runW (F69_linkboyref02_Compare_b1 a0 a1) m x11 = some o19 ∧ Blk w' p1 39 (Addr.enc a0) ∧ Blk w' p5 39 (Addr.enc a1) ∧ (G F w.heap.size nb) p1 ∧ (G F w.heap.size nb) p5)
        ⟨0, rfl, c0, ho20, k4, k8, gp1, gp5⟩ ?_
    rintro _ _ w25 ⟨x11, rfl, c24, hL14, k4, k8, gp1, gp5⟩
    obtain ⟨k23, q16, rfl, hq17⟩ := runW_some hL14
    have hb18 := hq17
    refine CW.seq (CW.region ?_)
    refine rl_bin rfl rfl B.lss rfl ?_
    refine RL.nil ?_
    refine thn_n ?_
    refine CW.seq ?_
    refine CW.cond (t := decide (x11 < 16)) rfl (fun q27 => ?_) (fun q27 => ?_)
    ·
     have hb18 := ifT q27 hb18
     refine CW.skip ?_
     refine thn_n ?_
     refine CW.seq ?_
     refine CW.block ?_
     refine CW.seq (CW.region ?_)
     refine rl_move rfl rfl ?_
     refine rl_assign rfl rfl ?_
     refine RL.nil ?_
     refine thn_n ?_
     refine CW.seq ?_
     refine CW.seq ?_
     obtain ⟨y30, hy31, hb18⟩ := bindS hb18
     obtain ⟨y34, hy35, hb18⟩ := bindS hb18
     refine CW.draw 8 [(none, fun _ O uu wx => uu = (Value.int .i64 x11)), (none, fun _ O uu wx => uu = (Value.pointer (some ⟨p1, 1, none⟩))), (none, fun _ O uu wx => uu = (Value.pointer (some ⟨p1, (1 + x11.toNat), none⟩)) ∧ Seg wx p1 (1 + x11.toNat) [(Value.int .u8 y30)]), (none, fun _ O uu wx => uu = (Value.int .u8 y30)), (none, fun _ O uu wx => uu = (Value.int .i64 x11)), (none, fun _ O uu wx => uu = (Value.pointer (some ⟨p5, 1, none⟩))), (none, fun _ O uu wx => uu = (Value.pointer (some ⟨p5, (1 + x11.toNat), none⟩)) ∧ Seg wx p5 (1 + x11.toNat) [(Value.int .u8 y34)]), (none, fun _ O uu wx => uu = (Value.int .u8 y34))] [[], [], [0, 1], [2], [], [], [4, 5], [6]] [3, 7] nb (fun _ h => h.elim) mixed rfl rfl rfl rfl ?_ ?_
     ·
      refine Each.consA ⟨fun _ _ _ _ _ _ h => h, fun h => absurd rfl h, fun O wk hO ck => ?_⟩ ?_
      ·
       have k4 := k4.ch0 ck
       have k8 := k8.ch0 ck
       have c24 := c24.then0 ck
       refine rl_move rfl rfl ?_
       exact RL.nil ⟨_, rfl, Ch.refl, rfl⟩
      refine Each.consA ⟨fun _ _ _ _ _ _ h => h, fun h => absurd rfl h, fun O wk hO ck => ?_⟩ ?_
      ·
       have k4 := k4.ch0 ck
       have k8 := k8.ch0 ck
       have c24 := c24.then0 ck
       refine rl_fieldAddr rfl fa39_1 rfl ?_
       exact RL.nil ⟨_, rfl, Ch.refl, rfl⟩
      refine Each.consA ⟨fun _ _ _ _ _ cc hh => by obtain ⟨e, hs29⟩ := hh; exact ⟨e, hs29.ch0 cc⟩, fun h => absurd rfl h, fun O wk hO ck => ?_⟩ ?_
      ·
       have k4 := k4.ch0 ck
       have k8 := k8.ch0 ck
       have c24 := c24.then0 ck
       refine Need.one rfl rfl rfl ?_
       rintro _ e36
       obtain rfl := e36.symm
       refine Need.one rfl rfl rfl ?_
       rintro _ e37
       obtain rfl := e37.symm
       refine rl_ixArr (l := A16u8.list a0.b) (val := (Value.int .u8)) (cs := A16u8.enc a0.b) rfl rfl (ixO_get hy31) Try.underlying37 rfl Try.sizeOf5 (k4.segAt 1 16) rfl rfl ?_
       intro hc38
       have hs39 : Seg wk p1 (1 + x11.toNat) [(Value.int .u8 y30)] := Seg.one hc38
       exact RL.nil ⟨_, rfl, Ch.refl, ⟨rfl, hs39⟩⟩
      refine Each.consA ⟨fun _ _ _ _ _ _ h => h, fun h => absurd rfl h, fun O wk hO ck => ?_⟩ ?_
      ·
       have k4 := k4.ch0 ck
       have k8 := k8.ch0 ck
       have c24 := c24.then0 ck
       refine Need.one rfl rfl rfl ?_
       rintro _ ⟨e40, hs29⟩
       obtain rfl := e40.symm
       refine rl_loadS (v := (Value.int .u8 y30)) rfl Try.isAgg5 (hs29 0 _ rfl) rfl ?_
       exact RL.nil ⟨_, rfl, Ch.refl, rfl⟩
      refine Each.consA ⟨fun _ _ _ _ _ _ h => h, fun h => absurd rfl h, fun O wk hO ck => ?_⟩ ?_
      ·
       have k4 := k4.ch0 ck
       have k8 := k8.ch0 ck
       have c24 := c24.then0 ck
       refine rl_move rfl rfl ?_
       exact RL.nil ⟨_, rfl, Ch.refl, rfl⟩
      refine Each.consA ⟨fun _ _ _ _ _ _ h => h, fun h => absurd rfl h, fun O wk hO ck => ?_⟩ ?_
      ·
       have k4 := k4.ch0 ck
       have k8 := k8.ch0 ck
       have c24 := c24.then0 ck
       refine rl_fieldAddr rfl fa39_1 rfl ?_
       exact RL.nil ⟨_, rfl, Ch.refl, rfl⟩
      refine Each.consA ⟨fun _ _ _ _ _ cc hh => by obtain ⟨e, hs33⟩ := hh; exact ⟨e, hs33.ch0 cc⟩, fun h => absurd rfl h, fun O wk hO ck => ?_⟩ ?_
      ·
       have k4 := k4.ch0 ck
       have k8 := k8.ch0 ck
       have c24 := c24.then0 ck
       refine Need.one rfl rfl rfl ?_
       rintro _ e41
       obtain rfl := e41.symm
       refine Need.one rfl rfl rfl ?_
       rintro _ e42
       obtain rfl := e42.symm
       refine rl_ixArr (l := A16u8.list a1.b) (val := (Value.int .u8)) (cs := A16u8.enc a1.b) rfl rfl (ixO_get hy35) Try.underlying37 rfl Try.sizeOf5 (k8.segAt 1 16) rfl rfl ?_
       intro hc43
       have hs44 : Seg wk p5 (1 + x11.toNat) [(Value.int .u8 y34)] := Seg.one hc43
       exact RL.nil ⟨_, rfl, Ch.refl, ⟨rfl, hs44⟩⟩
      refine Each.consA ⟨fun _ _ _ _ _ _ h => h, fun h => absurd rfl h, fun O wk hO ck => ?_⟩ ?_
      ·
       have k4 := k4.ch0 ck
       have k8 := k8.ch0 ck
       have c24 := c24.then0 ck
       refine Need.one rfl rfl rfl ?_
       rintro _ ⟨e45, hs33⟩
       obtain rfl := e45.symm
       refine rl_loadS (v := (Value.int .u8 y34)) rfl Try.isAgg5 (hs33 0 _ rfl) rfl ?_
       exact RL.nil ⟨_, rfl, Ch.refl, rfl⟩
      trivial
     ·
      intro hvO48 OpO48 O48 w46 hO49 c47 hN50
      have k4 := k4.ch0 c47
      have k8 := k8.ch0 c47
      have c24 := c24.then0 c47
      refine Need.one rfl rfl rfl ?_
      rintro _ e51
      obtain rfl := e51.symm
      refine Need.one rfl rfl rfl ?_
      rintro _ e52
      obtain rfl := e52.symm
      refine rl_bin rfl rfl B.lss rfl ?_
      refine RL.nil ?_
      refine thn_n ?_
      refine CW.cond (t := decide (y30 < y34)) rfl (fun q53 => ?_) (fun q53 => ?_)
      ·
       have hb18 := ifT q53 hb18
       refine CW.seq (CW.region ?_)
       refine rl_assign rfl rfl ?_
       refine RL.nil ?_
       refine thn_n ?_
       refine CW.ret ?_
       refine thn_ret ?_
       refine inB_ret ?_
       refine thn_ret ?_
       refine thn_ret (inB_ret (thn_ret ?_))
       refine thn_ret ?_
       have f54 := runW_ret hL14 hq17 hb18
       have hS := retS f54 hS
       obtain rfl := Option.some.inj hS
       exact ret1 rfl ⟨rfl, c24⟩
      ·
       have hb18 := ifF q53 hb18
       refine CW.skip ?_
       refine thn_n ?_
       refine CW.seq ?_
       obtain ⟨y57, hy58, hb18⟩ := bindS hb18
       obtain ⟨y61, hy62, hb18⟩ := bindS hb18
       refine CW.draw 8 [(none, fun _ O uu wx => uu = (Value.int .i64 x11)), (none, fun _ O uu wx => uu = (Value.pointer (some ⟨p1, 1, none⟩))), (none, fun _ O uu wx => uu = (Value.pointer (some ⟨p1, (1 + x11.toNat), none⟩)) ∧ Seg wx p1 (1 + x11.toNat) [(Value.int .u8 y57)]), (none, fun _ O uu wx => uu = (Value.int .u8 y57)), (none, fun _ O uu wx => uu = (Value.int .i64 x11)), (none, fun _ O uu wx => uu = (Value.pointer (some ⟨p5, 1, none⟩))), (none, fun _ O uu wx => uu = (Value.pointer (some ⟨p5, (1 + x11.toNat), none⟩)) ∧ Seg wx p5 (1 + x11.toNat) [(Value.int .u8 y61)]), (none, fun _ O uu wx => uu = (Value.int .u8 y61))] [[], [], [0, 1], [2], [], [], [4, 5], [6]] [3, 7] nb (fun _ h => h.elim) mixed rfl rfl rfl rfl ?_ ?_
       ·
        refine Each.consA ⟨fun _ _ _ _ _ _ h => h, fun h => absurd rfl h, fun O wk hO ck => ?_⟩ ?_
        ·
         have k4 := k4.ch0 ck
         have k8 := k8.ch0 ck
         have c24 := c24.then0 ck
         refine rl_move rfl rfl ?_
         exact RL.nil ⟨_, rfl, Ch.refl, rfl⟩
        refine Each.consA ⟨fun _ _ _ _ _ _ h => h, fun h => absurd rfl h, fun O wk hO ck => ?_⟩ ?_
        ·
         have k4 := k4.ch0 ck
         have k8 := k8.ch0 ck
         have c24 := c24.then0 ck
         refine rl_fieldAddr rfl fa39_1 rfl ?_
         exact RL.nil ⟨_, rfl, Ch.refl, rfl⟩
        refine Each.consA ⟨fun _ _ _ _ _ cc hh => by obtain ⟨e, hs56⟩ := hh; exact ⟨e, hs56.ch0 cc⟩, fun h => absurd rfl h, fun O wk hO ck => ?_⟩ ?_
        ·
         have k4 := k4.ch0 ck
         have k8 := k8.ch0 ck
         have c24 := c24.then0 ck
         refine Need.one rfl rfl rfl ?_
         rintro _ e63
         obtain rfl := e63.symm
         refine Need.one rfl rfl rfl ?_
         rintro _ e64
         obtain rfl := e64.symm
         refine rl_ixArr (l := A16u8.list a0.b) (val := (Value.int .u8)) (cs := A16u8.enc a0.b) rfl rfl (ixO_get hy58) Try.underlying37 rfl Try.sizeOf5 (k4.segAt 1 16) rfl rfl ?_
         intro hc65
         have hs66 : Seg wk p1 (1 + x11.toNat) [(Value.int .u8 y57)] := Seg.one hc65
         exact RL.nil ⟨_, rfl, Ch.refl, ⟨rfl, hs66⟩⟩
        refine Each.consA ⟨fun _ _ _ _ _ _ h => h, fun h => absurd rfl h, fun O wk hO ck => ?_⟩ ?_
        ·
         have k4 := k4.ch0 ck
         have k8 := k8.ch0 ck
         have c24 := c24.then0 ck
         refine Need.one rfl rfl rfl ?_
         rintro _ ⟨e67, hs56⟩
         obtain rfl := e67.symm
         refine rl_loadS (v := (Value.int .u8 y57)) rfl Try.isAgg5 (hs56 0 _ rfl) rfl ?_
         exact RL.nil ⟨_, rfl, Ch.refl, rfl⟩
        refine Each.consA ⟨fun _ _ _ _ _ _ h => h, fun h => absurd rfl h, fun O wk hO ck => ?_⟩ ?_
        ·
         have k4 := k4.ch0 ck
         have k8 := k8.ch0 ck
         have c24 := c24.then0 ck
         refine rl_move rfl rfl ?_
         exact RL.nil ⟨_, rfl, Ch.refl, rfl⟩
        refine Each.consA ⟨fun _ _ _ _ _ _ h => h, fun h => absurd rfl h, fun O wk hO ck => ?_⟩ ?_
        ·
         have k4 := k4.ch0 ck
         have k8 := k8.ch0 ck
         have c24 := c24.then0 ck
         refine rl_fieldAddr rfl fa39_1 rfl ?_
         exact RL.nil ⟨_, rfl, Ch.refl, rfl⟩
        refine Each.consA ⟨fun _ _ _ _ _ cc hh => by obtain ⟨e, hs60⟩ := hh; exact ⟨e, hs60.ch0 cc⟩, fun h => absurd rfl h, fun O wk hO ck => ?_⟩ ?_
        ·
         have k4 := k4.ch0 ck
         have k8 := k8.ch0 ck
         have c24 := c24.then0 ck
         refine Need.one rfl rfl rfl ?_
         rintro _ e68
         obtain rfl := e68.symm
         refine Need.one rfl rfl rfl ?_
         rintro _ e69
         obtain rfl := e69.symm
         refine rl_ixArr (l := A16u8.list a1.b) (val := (Value.int .u8)) (cs := A16u8.enc a1.b) rfl rfl (ixO_get hy62) Try.underlying37 rfl Try.sizeOf5 (k8.segAt 1 16) rfl rfl ?_
         intro hc70
         have hs71 : Seg wk p5 (1 + x11.toNat) [(Value.int .u8 y61)] := Seg.one hc70
         exact RL.nil ⟨_, rfl, Ch.refl, ⟨rfl, hs71⟩⟩
        refine Each.consA ⟨fun _ _ _ _ _ _ h => h, fun h => absurd rfl h, fun O wk hO ck => ?_⟩ ?_
        ·
         have k4 := k4.ch0 ck
         have k8 := k8.ch0 ck
         have c24 := c24.then0 ck
         refine Need.one rfl rfl rfl ?_
         rintro _ ⟨e72, hs60⟩
         obtain rfl := e72.symm
         refine rl_loadS (v := (Value.int .u8 y61)) rfl Try.isAgg5 (hs60 0 _ rfl) rfl ?_
         exact RL.nil ⟨_, rfl, Ch.refl, rfl⟩
        trivial
       ·
        intro hvO75 OpO75 O75 w73 hO76 c74 hN77
        have k4 := k4.ch0 c74
        have k8 := k8.ch0 c74
        have c24 := c24.then0 c74
        refine Need.one rfl rfl rfl ?_
        rintro _ e78
        obtain rfl := e78.symm
        refine Need.one rfl rfl rfl ?_
        rintro _ e79
        obtain rfl := e79.symm
        refine rl_bin rfl rfl B.gtr rfl ?_
        refine RL.nil ?_
        refine thn_n ?_
        refine CW.cond (t := decide (y57 > y61)) rfl (fun q80 => ?_) (fun q80 => ?_)
        ·
         have hb18 := ifT q80 hb18
         refine CW.seq (CW.region ?_)
         refine rl_assign rfl rfl ?_
         refine RL.nil ?_
         refine thn_n ?_
         refine CW.ret ?_
         refine inB_ret ?_
         refine thn_ret ?_
         refine thn_ret (inB_ret (thn_ret ?_))
         refine thn_ret ?_
         have f81 := runW_ret hL14 hq17 hb18
         have hS := retS f81 hS
         obtain rfl := Option.some.inj hS
         exact ret1 rfl ⟨rfl, c24⟩
        ·
         have hb18 := ifF q80 hb18
         refine CW.skip ?_
         refine inB_n ?_
         refine thn_n ?_
         refine CW.region ?_
         refine rl_bin rfl rfl B.add rfl ?_
         refine rl_move rfl rfl ?_
         refine RL.nil ?_
         refine thn_n ?_
         have hLn := runW_next hL14 hq17 hb18
         exact ⟨k23, Nat.lt_succ_self _, [(2, (Value.pointer (some ⟨p1, 0, none⟩))), (3, (Value.pointer (some ⟨p5, 0, none⟩))), (13, (Value.int .i64 (IntKind.i64.wrap (x11 + 1))))], ⟨rfl, rfl, rfl, trivial⟩, ⟨IntKind.i64.wrap (x11 + 1), rfl, c24, hLn, k4, k8, gp1, gp5⟩⟩
    ·
     have hb18 := ifF q27 hb18
     refine CW.exit ?_
     refine thn_exit ?_
     refine thn_exit ?_
     refine inB_hit ?_
     have hLf := runW_fin hL14 hq17 hb18
     exact ⟨x11, trivial, c24, hLf, k4, k8, gp1, gp5⟩
   ·
    rintro _ w83 ⟨x11, hE84, c82, f85, k4, k8, gp1, gp5⟩
    have hS := finS f85 hS
    refine thn_n (CW.sub [] hE84 ?_)
    refine CW.seq (CW.region ?_)
    refine rl_assign rfl rfl ?_
    refine RL.nil ?_
    refine thn_n ?_
    refine CW.ret ?_
    obtain rfl := Option.some.inj hS
    exact ret1 rfl ⟨rfl, c82⟩
/-- lb/lbref04.Compare -/
theorem ctr58 (F : Nat → Prop) (w : World) (a0 : Point) (a1 : Point) (r : Int) (hs : F58_linkboyref04_Compare a0 a1 = some r) :
    Ret Try.prog 58 #[(Value.agg (Point.enc a0).toArray), (Value.agg (Point.enc a1).toArray)] w fun v w' => v = (Value.int .i64 r) ∧ Ch nb w w' := by
  have hS := hs
  have c0 : Ch nb w w := Ch.refl
  refine Ret.of (n := 24) (args := [_, _]) (rs := [.tmp 4]) Try.func58 rfl rfl rfl rfl ?_
  refine CW.seq (CW.region ?_)
  refine rl_boxA (cs := (Point.enc a0)) rfl rfl ?_
  intro p1 w2 n3 k4
  have gp1 : (G F w.heap.size nb) p1 := ⟨.inr (by rw [n3.eq]; exact c0.size), fun h => absurd (nbS _ h) (by rw [n3.eq]; exact Nat.lt_irrefl _)⟩
  have c0 := c0.then0 n3.ch
  refine rl_boxA (cs := (Point.enc a1)) rfl rfl ?_
  intro p5 w6 n7 k8
  have gp5 : (G F w.heap.size nb) p5 := ⟨.inr (by rw [n7.eq]; exact c0.size), fun h => absurd (nbS _ h) (by rw [n7.eq]; exact Nat.lt_irrefl _)⟩
  have k4 := k4.ch0 n7.ch
  have c0 := c0.then0 n7.ch
  refine rl_assign rfl rfl ?_
  refine RL.nil ?_
  refine thn_n ?_
  refine CW.seq ?_
  refine CW.seq (CW.region ?_)
  refine rl_fieldAddr rfl fa41_0 rfl ?_
  refine rl_loadA (cs := (Addr.enc a0.addr)) rfl Try.isAgg39 Try.sizeOf39 (k4.segAt 0 17) rfl rfl ?_
  refine rl_fieldAddr rfl fa41_0 rfl ?_
  refine rl_loadA (cs := (Addr.enc a1.addr)) rfl Try.isAgg39 Try.sizeOf39 (k8.segAt 0 17) rfl rfl ?_
  obtain ⟨y11, hy12, hS⟩ := bindS hS
  refine rl_callF rfl en69 rfl (ctr69 (G F w.heap.size nb) w6 a0.addr a1.addr y11 hy12) ?_
  rintro _ w9 ⟨rfl, c10⟩
  have k4 := k4.ch0 c10
  have k8 := k8.ch0 c10
  have c0 := c0.then0 c10
  refine rl_assign rfl rfl ?_
  refine RL.nil ?_
  refine thn_n ?_
  refine CW.seq (CW.region ?_)
  refine rl_move rfl rfl ?_
  refine rl_bin rfl rfl B.neq rfl ?_
  refine RL.nil ?_
  refine thn_n ?_
  refine CW.cond (t := !decide (y11 = 0)) rfl (fun q13 => ?_) (fun q13 => ?_)
  ·
   have hS := ifT q13 hS
   refine CW.seq (CW.region ?_)
   refine rl_move rfl rfl ?_
   refine rl_assign rfl rfl ?_
   refine RL.nil ?_
   refine thn_n ?_
   refine CW.ret ?_
   refine thn_ret ?_
   obtain rfl := Option.some.inj hS
   exact ret1 rfl ⟨rfl, c0⟩
  ·
   have hS := ifF q13 hS
   refine CW.skip ?_
   refine thn_n ?_
   refine CW.seq ?_
   refine CW.seq (CW.region ?_)
   refine rl_fieldAddr rfl fa41_1 rfl ?_
   refine rl_loadS (v := (Value.int .i64 a0.port)) rfl Try.isAgg3 (k4.cell rfl) rfl ?_
   refine rl_fieldAddr rfl fa41_1 rfl ?_
   refine rl_loadS (v := (Value.int .i64 a1.port)) rfl Try.isAgg3 (k8.cell rfl) rfl ?_
   refine rl_bin rfl rfl B.lss rfl ?_
   refine RL.nil ?_
   refine thn_n ?_
   refine CW.cond (t := decide (a0.port < a1.port)) rfl (fun q14 => ?_) (fun q14 => ?_)
   ·
    have hS := ifT q14 hS
    refine CW.seq (CW.region ?_)
    refine rl_assign rfl rfl ?_
    refine RL.nil ?_
    refine thn_n ?_
    refine CW.ret ?_
    refine thn_ret ?_
    obtain rfl := Option.some.inj hS
    exact ret1 rfl ⟨rfl, c0⟩
   ·
    have hS := ifF q14 hS
    refine CW.skip ?_
    refine thn_n ?_
    refine CW.seq ?_
    refine CW.seq (CW.region ?_)
    refine rl_fieldAddr rfl fa41_1 rfl ?_
    refine rl_loadS (v := (Value.int .i64 a0.port)) rfl Try.isAgg3 (k4.cell rfl) rfl ?_
    refine rl_fieldAddr rfl fa41_1 rfl ?_
    refine rl_loadS (v := (Value.int .i64 a1.port)) rfl Try.isAgg3 (k8.cell rfl) rfl ?_
    refine rl_bin rfl rfl B.gtr rfl ?_
    refine RL.nil ?_
    refine thn_n ?_
    refine CW.cond (t := decide (a0.port > a1.port)) rfl (fun q15 => ?_) (fun q15 => ?_)
    ·
     have hS := ifT q15 hS
     refine CW.seq (CW.region ?_)
     refine rl_assign rfl rfl ?_
     refine RL.nil ?_
     refine thn_n ?_
     refine CW.ret ?_
     refine thn_ret ?_
     obtain rfl := Option.some.inj hS
     exact ret1 rfl ⟨rfl, c0⟩
    ·
     have hS := ifF q15 hS
     refine CW.skip ?_
     refine thn_n ?_
     refine CW.seq (CW.region ?_)
     refine rl_assign rfl rfl ?_
     refine RL.nil ?_
     refine thn_n ?_
     refine CW.ret ?_
     obtain rfl := Option.some.inj hS
     exact ret1 rfl ⟨rfl, c0⟩
end Go.Proofs.Yteoaobiglodblaa
