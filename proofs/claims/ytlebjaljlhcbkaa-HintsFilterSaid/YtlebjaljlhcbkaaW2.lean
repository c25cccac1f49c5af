/- The walks through the code: each call comes to its printed function. Written by a program of this session. -/
import Derived.Test.YtlebjaljlhcbkaaM
import Derived.Test.YtlebjaljlhcbkaaL
import Derived.Test.YtlebjaljlhcbkaaW1
namespace Go.Proofs.Ytlebjaljlhcbkaa
open Go K
set_option linter.unusedVariables false
/-- lb/lbnum.SameTexts -/
theorem ctr18 (F : Nat → Prop) (w : World) (a0 : (List ByteArray)) (av0 : Value) (ah0 : slRep kStr F w a0 av0) (a1 : (List ByteArray)) (av1 : Value) (ah1 : slRep kStr F w a1 av1) (r : Bool) (hs : F18_linkboynum_SameTexts a0 a1 = some r) :
    Ret Try.prog 18 #[av0, av1] w fun v w' => v = (Value.bool r) ∧ Ch nb w w' := by
  have hS := hs
  have c0 : Ch nb w w := Ch.refl
  have ah0 := slRep.enter kStr_pos ah0
  have ah1 := slRep.enter kStr_pos ah1
  refine Ret.of (n := 26) (args := [_, _]) (rs := [.tmp 4]) Try.func18 rfl rfl rfl rfl ?_
  refine CW.seq (CW.region ?_)
  refine rl_assign rfl rfl ?_
  refine RL.nil ?_
  refine thn_n ?_
  refine CW.seq ?_
  refine CW.seq (CW.region ?_)
  refine rl_move rfl rfl ?_
  refine rl_lenR rfl ah0 Try.underlying30 rfl ?_
  refine rl_move rfl rfl ?_
  refine rl_lenR rfl ah1 Try.underlying30 rfl ?_
  refine rl_bin rfl rfl B.neq rfl ?_
  refine RL.nil ?_
  refine thn_n ?_
  refine CW.cond (t := !decide (((a0.length : Nat) : Int) = ((a1.length : Nat) : Int))) rfl (fun q1 => ?_) (fun q1 => ?_)
  ·
   have hS := ifT q1 hS
   refine CW.seq (CW.region ?_)
   refine rl_assign rfl rfl ?_
   refine RL.nil ?_
   refine thn_n ?_
   refine CW.ret ?_
   refine thn_ret ?_
   obtain rfl := Option.some.inj hS
   exact ret1 rfl ⟨rfl, c0⟩
  ·
   have hS := ifF q1 hS
   refine CW.skip ?_
   refine thn_n ?_
   refine CW.seq ?_
   refine CW.seq (CW.region ?_)
   refine rl_move rfl rfl ?_
   refine rl_lenR rfl ah0 Try.underlying30 rfl ?_
   refine rl_move rfl rfl ?_
   refine RL.nil ?_
   refine thn_n ?_
   obtain ⟨o9, ho10, hS⟩ := bindS hS
   refine CW.cutB (fun E' w' => ∃ (ix16 : Nat), Sub [] E' ∧ Ch nb w w' ∧ Lp.fin ix16 = o9 ∧ slRep kStr (G F w.heap.size nb) w' a0 av0 ∧ slRep kStr (G F w.heap.size nb) w' a1 av1) ?_ ?_
   ·
    refine CW.loopS [(0, av0), (1, av1), (12, (Value.int .i64 ((a0.length : Nat) : Int))), (13, (Value.int .i64 ((0 : Nat) : Int)))] ⟨rfl, rfl, rfl, rfl, trivial⟩ a0.length (fun m E w' => ∃ (rest2 : List ByteArray) (i3 : Nat) , m = rest2.length ∧ E = [(0, av0), (1, av1), (12, (Value.int .i64 ((a0.length : Nat) : Int))), (13, (Value.int .i64 ((i3 : Nat) : Int)))] ∧ Ch nb w w' ∧ At a0 i3 rest2 ∧ runBO (F18_linkboynum_SameTexts_b1 a1) rest2 i3 = some o9 ∧ slRep kStr (G F w.heap.size nb) w' a0 av0 ∧ slRep kStr (G F w.heap.size nb) w' a1 av1)
        ⟨a0, 0, rfl, rfl, c0, At.start, ho10, ah0, ah1⟩ ?_
    rintro _ _ w15 ⟨rest2, i3, rfl, rfl, c14, hat5, hL4, ah0, ah1⟩
    refine CW.seq (CW.region ?_)
    refine rl_bin rfl rfl B.lss rfl ?_
    refine RL.nil (thn_n ?_)
    refine CW.seq ?_
    refine CW.cond (t := decide (((i3 : Nat) : Int) < ((a0.length : Nat) : Int))) rfl (fun q17 => ?_) (fun q17 => ?_)
    ·
     obtain ⟨x11, rest18, rfl⟩ := hat5.cons q17
     obtain ⟨q6, hq7⟩ := runBO_some hL4
     have hb8 := hq7
     refine CW.skip (thn_n ?_)
     refine CW.seq ?_
     refine CW.block ?_
     refine CW.seq (CW.region ?_)
     refine rl_move rfl rfl ?_
     refine rl_assign rfl rfl ?_
     refine RL.nil ?_
     refine thn_n ?_
     refine CW.seq ?_
     obtain ⟨y31, hy32, hb8⟩ := bindS hb8
     refine CW.draw 8 [(false, fun O uu wx => uu = av0), (false, fun O uu wx => uu = (Value.int .i64 ((i3 : Nat) : Int))), (false, fun O uu wx => ∃ (p19 : Nat) (o20 : Nat), uu = (Value.pointer (some ⟨p19, o20, none⟩)) ∧ (G F w.heap.size nb) p19 ∧ Seg wx p19 o20 [(Value.string x11)]), (false, fun O uu wx => uu = (Value.string x11)), (false, fun O uu wx => uu = av1), (false, fun O uu wx => uu = (Value.int .i64 ((i3 : Nat) : Int))), (false, fun O uu wx => ∃ (p25 : Nat) (o26 : Nat), uu = (Value.pointer (some ⟨p25, o26, none⟩)) ∧ (G F w.heap.size nb) p25 ∧ Seg wx p25 o26 [(Value.string y31)]), (false, fun O uu wx => uu = (Value.string y31))] [[], [], [0, 1], [2], [], [], [4, 5], [6]] [3, 7] mixed rfl rfl rfl rfl ?_ ?_
     ·
      refine Each.consA ⟨fun _ _ _ _ _ h => h, fun h => absurd rfl h, fun O wk hO ck => ?_⟩ ?_
      ·
       have ah0 := slRep.ch kStr_pos ah0 ck
       have ah1 := slRep.ch kStr_pos ah1 ck
       have c14 := c14.then0 ck
       refine rl_move rfl rfl ?_
       exact RL.nil ⟨_, rfl, Ch.refl, rfl⟩
      refine Each.consA ⟨fun _ _ _ _ _ h => h, fun h => absurd rfl h, fun O wk hO ck => ?_⟩ ?_
      ·
       have ah0 := slRep.ch kStr_pos ah0 ck
       have ah1 := slRep.ch kStr_pos ah1 ck
       have c14 := c14.then0 ck
       refine rl_move rfl rfl ?_
       exact RL.nil ⟨_, rfl, Ch.refl, rfl⟩
      refine Each.consA ⟨fun _ _ _ _ cc hh => by obtain ⟨p19, o20, e, hg24, hs23⟩ := hh; exact ⟨p19, o20, e, hg24, hs23.ch0 cc⟩, fun h => absurd rfl h, fun O wk hO ck => ?_⟩ ?_
      ·
       have ah0 := slRep.ch kStr_pos ah0 ck
       have ah1 := slRep.ch kStr_pos ah1 ck
       have c14 := c14.then0 ck
       refine Need.one rfl rfl ?_
       rintro _ e33
       obtain rfl := e33.symm
       refine Need.one rfl rfl ?_
       rintro _ e34
       obtain rfl := e34.symm
       refine rl_ixR rfl ah0 rfl hat5.get Try.underlying30 Try.sizeOf9 rfl ?_
       intro p35 o36 cs37 hr38 hs39 hg40
       obtain rfl := hr38
       exact RL.nil ⟨_, rfl, Ch.refl, ⟨p35, o36, rfl, hg40, hs39⟩⟩
      refine Each.consA ⟨fun _ _ _ _ _ h => h, fun h => absurd rfl h, fun O wk hO ck => ?_⟩ ?_
      ·
       have ah0 := slRep.ch kStr_pos ah0 ck
       have ah1 := slRep.ch kStr_pos ah1 ck
       have c14 := c14.then0 ck
       refine Need.one rfl rfl ?_
       rintro _ ⟨p19, o20, e41, hg24, hs23⟩
       obtain rfl := e41.symm
       refine rl_loadS (v := (Value.string x11)) rfl Try.isAgg9 (hs23 0 _ rfl) rfl ?_
       exact RL.nil ⟨_, rfl, Ch.refl, rfl⟩
      refine Each.consA ⟨fun _ _ _ _ _ h => h, fun h => absurd rfl h, fun O wk hO ck => ?_⟩ ?_
      ·
       have ah0 := slRep.ch kStr_pos ah0 ck
       have ah1 := slRep.ch kStr_pos ah1 ck
       have c14 := c14.then0 ck
       refine rl_move rfl rfl ?_
       exact RL.nil ⟨_, rfl, Ch.refl, rfl⟩
      refine Each.consA ⟨fun _ _ _ _ _ h => h, fun h => absurd rfl h, fun O wk hO ck => ?_⟩ ?_
      ·
       have ah0 := slRep.ch kStr_pos ah0 ck
       have ah1 := slRep.ch kStr_pos ah1 ck
       have c14 := c14.then0 ck
       refine rl_move rfl rfl ?_
       exact RL.nil ⟨_, rfl, Ch.refl, rfl⟩
      refine Each.consA ⟨fun _ _ _ _ cc hh => by obtain ⟨p25, o26, e, hg30, hs29⟩ := hh; exact ⟨p25, o26, e, hg30, hs29.ch0 cc⟩, fun h => absurd rfl h, fun O wk hO ck => ?_⟩ ?_
      ·
       have ah0 := slRep.ch kStr_pos ah0 ck
       have ah1 := slRep.ch kStr_pos ah1 ck
       have c14 := c14.then0 ck
       refine Need.one rfl rfl ?_
       rintro _ e42
       obtain rfl := e42.symm
       refine Need.one rfl rfl ?_
       rintro _ e43
       obtain rfl := e43.symm
       refine rl_ixR rfl ah1 rfl (ixO_nat hy32) Try.underlying30 Try.sizeOf9 rfl ?_
       intro p44 o45 cs46 hr47 hs48 hg49
       obtain rfl := hr47
       exact RL.nil ⟨_, rfl, Ch.refl, ⟨p44, o45, rfl, hg49, hs48⟩⟩
      refine Each.consA ⟨fun _ _ _ _ _ h => h, fun h => absurd rfl h, fun O wk hO ck => ?_⟩ ?_
      ·
       have ah0 := slRep.ch kStr_pos ah0 ck
       have ah1 := slRep.ch kStr_pos ah1 ck
       have c14 := c14.then0 ck
       refine Need.one rfl rfl ?_
       rintro _ ⟨p25, o26, e50, hg30, hs29⟩
       obtain rfl := e50.symm
       refine rl_loadS (v := (Value.string y31)) rfl Try.isAgg9 (hs29 0 _ rfl) rfl ?_
       exact RL.nil ⟨_, rfl, Ch.refl, rfl⟩
      trivial
     ·
      intro O53 w51 hO54 c52
      have ah0 := slRep.ch kStr_pos ah0 c52
      have ah1 := slRep.ch kStr_pos ah1 c52
      have c14 := c14.then0 c52
      refine Need.one rfl rfl ?_
      rintro _ e55
      obtain rfl := e55.symm
      refine Need.one rfl rfl ?_
      rintro _ e56
      obtain rfl := e56.symm
      refine rl_bin rfl rfl B.neqS rfl ?_
      refine RL.nil ?_
      refine thn_n ?_
      refine CW.cond (t := !decide (x11 = y31)) rfl (fun q57 => ?_) (fun q57 => ?_)
      ·
       have hb8 := ifT q57 hb8
       refine CW.seq (CW.region ?_)
       refine rl_assign rfl rfl ?_
       refine RL.nil ?_
       refine thn_n ?_
       refine CW.ret ?_
       refine inB_ret ?_
       refine thn_ret ?_
       refine thn_ret (inB_ret (thn_ret ?_))
       refine thn_ret ?_
       have f58 := runBO_ret hL4 hq7 hb8
       have hS := retS f58 hS
       obtain rfl := Option.some.inj hS
       exact ret1 rfl ⟨rfl, c14⟩
      ·
       have hb8 := ifF q57 hb8
       refine CW.skip ?_
       refine inB_n ?_
       refine thn_n ?_
       refine CW.region ?_
       refine rl_inc rfl hat5.lt ah0.big rfl ?_
       refine rl_move rfl rfl ?_
       refine RL.nil ?_
       refine thn_n ?_
       have hLn := runBO_next hL4 hq7 hb8
       exact ⟨rest18.length, Nat.lt_succ_self _, [(0, av0), (1, av1), (12, (Value.int .i64 ((a0.length : Nat) : Int))), (13, (Value.int .i64 ((i3 + 1 : Nat) : Int)))], ⟨rfl, rfl, rfl, rfl, trivial⟩, ⟨rest18, i3 + 1, rfl, rfl, c14, hat5.next, hLn, ah0, ah1⟩⟩
    ·
     obtain rfl := hat5.nil q17
     have hLf : Lp.fin i3 = o9 := runBO_done hL4
     refine CW.exit (thn_exit (thn_exit (inB_hit ?_)))
     exact ⟨i3, trivial, c14, hLf, ah0, ah1⟩
   ·
    rintro _ w60 ⟨ix16, hE61, c59, f62, ah0, ah1⟩
    have hS := finS f62 hS
    refine thn_n (CW.sub [] hE61 ?_)
    refine CW.seq (CW.region ?_)
    refine rl_assign rfl rfl ?_
    refine RL.nil ?_
    refine thn_n ?_
    refine CW.ret ?_
    obtain rfl := Option.some.inj hS
    exact ret1 rfl ⟨rfl, c59⟩
/-- lb/lbref18.Same -/
theorem ctr13 (F : Nat → Prop) (w : World) (a0 : Candidate) (az0_0 : Value) (ah0_0 : slRep kStr F w a0.zones az0_0) (a1 : Candidate) (az1_0 : Value) (ah1_0 : slRep kStr F w a1.zones az1_0) (r : Bool) (hs : F13_linkboyref18_Same a0 a1 = some r) :
    Ret Try.prog 13 #[(Value.agg (Candidate.c a0 az0_0).toArray), (Value.agg (Candidate.c a1 az1_0).toArray)] w fun v w' => v = (Value.bool r) ∧ Ch nb w w' := by
  have hS := hs
  have c0 : Ch nb w w := Ch.refl
  have ah0_0 := slRep.enter kStr_pos ah0_0
  have ah1_0 := slRep.enter kStr_pos ah1_0
  refine Ret.of (n := 45) (args := [_, _]) (rs := [.tmp 4]) Try.func13 rfl rfl rfl rfl ?_
  refine CW.seq (CW.region ?_)
  refine rl_boxA (cs := (Candidate.c a0 az0_0)) rfl rfl ?_
  intro p1 w2 n3 k4
  have gp1 : (G F w.heap.size nb) p1 := ⟨.inr (by rw [n3.eq]; exact c0.size), fun h => absurd (nbS _ h) (by rw [n3.eq]; exact Nat.lt_irrefl _)⟩
  have ah0_0 := slRep.ch kStr_pos ah0_0 n3.ch
  have ah1_0 := slRep.ch kStr_pos ah1_0 n3.ch
  have c0 := c0.then0 n3.ch
  refine rl_boxA (cs := (Candidate.c a1 az1_0)) rfl rfl ?_
  intro p5 w6 n7 k8
  have gp5 : (G F w.heap.size nb) p5 := ⟨.inr (by rw [n7.eq]; exact c0.size), fun h => absurd (nbS _ h) (by rw [n7.eq]; exact Nat.lt_irrefl _)⟩
  have ah0_0 := slRep.ch kStr_pos ah0_0 n7.ch
  have ah1_0 := slRep.ch kStr_pos ah1_0 n7.ch
  have k4 := k4.ch0 n7.ch
  have c0 := c0.then0 n7.ch
  refine rl_assign rfl rfl ?_
  refine RL.nil ?_
  refine thn_n ?_
  refine CW.seq (CW.region ?_)
  refine rl_fieldAddr rfl fa40_0 rfl ?_
  refine rl_loadA (cs := (Point.enc a0.point)) rfl Try.isAgg29 Try.sizeOf29 (k4.segAt 0 18) rfl rfl ?_
  refine rl_fieldAddr rfl fa40_0 rfl ?_
  refine rl_loadA (cs := (Point.enc a1.point)) rfl Try.isAgg29 Try.sizeOf29 (k8.segAt 0 18) rfl rfl ?_
  refine rl_bin rfl rfl (eql29 a0.point a1.point) rfl ?_
  refine rl_move rfl rfl ?_
  obtain ⟨b11, hb12⟩ : ∃ v, ((decide (a0.point = a1.point)) && (a0.localF == a1.localF)) = v := ⟨_, rfl⟩
  have hS := ltS hb12 hS
  refine RL.join 6 16 (.bool b11) (fun w' => Ch nb w6 w') ?_ ?_
  · rcases Bool.eq_false_or_eq_true (decide (a0.point = a1.point)) with hg10 | hg10
    ·
     have hs9 := and_t hg10 hb12
     have cs : Ch nb w6 w6 := Ch.refl
     refine RL.yes rfl rfl rfl hg10 ?_
     refine rl_fieldAddr rfl fa40_1 rfl ?_
     refine RL.yes rfl rfl rfl hg10 ?_
     refine rl_loadS (v := (Value.bool a0.localF)) rfl Try.isAgg4 (k4.cell rfl) rfl ?_
     refine RL.yes rfl rfl rfl hg10 ?_
     refine rl_fieldAddr rfl fa40_1 rfl ?_
     refine RL.yes rfl rfl rfl hg10 ?_
     refine rl_loadS (v := (Value.bool a1.localF)) rfl Try.isAgg4 (k8.cell rfl) rfl ?_
     refine RL.yes rfl rfl rfl hg10 ?_
     refine rl_bin rfl rfl (B.eqlB Try.underlying4) rfl ?_
     refine rl_pickT rfl hg10 rfl rfl ?_
     exact RL.nil ⟨Ext.bothEq (congrArg Value.bool hs9) (Ext.skip rfl (Ext.skip rfl (Ext.skip rfl (Ext.skip rfl (Ext.skip rfl (Ext.rfl')))))), cs⟩
    ·
     have hs9 := and_f hg10 hb12
     have cs : Ch nb w6 w6 := Ch.refl
     refine RL.no rfl rfl rfl hg10 rfl rfl ?_
     refine RL.no rfl rfl rfl hg10 rfl rfl ?_
     refine RL.no rfl rfl rfl hg10 rfl rfl ?_
     refine RL.no rfl rfl rfl hg10 rfl rfl ?_
     refine RL.no rfl rfl rfl hg10 rfl rfl ?_
     refine rl_pickF rfl hg10 rfl rfl ?_
     exact RL.nil ⟨Ext.bothEq (congrArg Value.bool hs9) (Ext.skip rfl (Ext.skip rfl (Ext.skip rfl (Ext.skip rfl (Ext.skip rfl (Ext.rfl')))))), cs⟩
  intro w13 c14
  have ah0_0 := slRep.ch kStr_pos ah0_0 c14
  have ah1_0 := slRep.ch kStr_pos ah1_0 c14
  have k4 := k4.ch0 c14
  have k8 := k8.ch0 c14
  have c0 := c0.then0 c14
  refine rl_move rfl rfl ?_
  obtain ⟨b17, hb18⟩ : ∃ v, (b11 && (a0.ready == a1.ready)) = v := ⟨_, rfl⟩
  have hS := ltS hb18 hS
  refine RL.join 6 23 (.bool b17) (fun w' => Ch nb w13 w') ?_ ?_
  · rcases Bool.eq_false_or_eq_true b11 with hg16 | hg16
    ·
     have hs15 := and_t hg16 hb18
     have cs : Ch nb w13 w13 := Ch.refl
     refine RL.yes rfl rfl rfl hg16 ?_
     refine rl_fieldAddr rfl fa40_2 rfl ?_
     refine RL.yes rfl rfl rfl hg16 ?_
     refine rl_loadS (v := (Value.bool a0.ready)) rfl Try.isAgg4 (k4.cell rfl) rfl ?_
     refine RL.yes rfl rfl rfl hg16 ?_
     refine rl_fieldAddr rfl fa40_2 rfl ?_
     refine RL.yes rfl rfl rfl hg16 ?_
     refine rl_loadS (v := (Value.bool a1.ready)) rfl Try.isAgg4 (k8.cell rfl) rfl ?_
     refine RL.yes rfl rfl rfl hg16 ?_
     refine rl_bin rfl rfl (B.eqlB Try.underlying4) rfl ?_
     refine rl_pickT rfl hg16 rfl rfl ?_
     exact RL.nil ⟨Ext.bothEq (congrArg Value.bool hs15) (Ext.skip rfl (Ext.skip rfl (Ext.skip rfl (Ext.skip rfl (Ext.skip rfl (Ext.rfl')))))), cs⟩
    ·
     have hs15 := and_f hg16 hb18
     have cs : Ch nb w13 w13 := Ch.refl
     refine RL.no rfl rfl rfl hg16 rfl rfl ?_
     refine RL.no rfl rfl rfl hg16 rfl rfl ?_
     refine RL.no rfl rfl rfl hg16 rfl rfl ?_
     refine RL.no rfl rfl rfl hg16 rfl rfl ?_
     refine RL.no rfl rfl rfl hg16 rfl rfl ?_
     refine rl_pickF rfl hg16 rfl rfl ?_
     exact RL.nil ⟨Ext.bothEq (congrArg Value.bool hs15) (Ext.skip rfl (Ext.skip rfl (Ext.skip rfl (Ext.skip rfl (Ext.skip rfl (Ext.rfl')))))), cs⟩
  intro w19 c20
  have ah0_0 := slRep.ch kStr_pos ah0_0 c20
  have ah1_0 := slRep.ch kStr_pos ah1_0 c20
  have k4 := k4.ch0 c20
  have k8 := k8.ch0 c20
  have c0 := c0.then0 c20
  refine rl_move rfl rfl ?_
  obtain ⟨b23, hb24⟩ : ∃ v, (b17 && (a0.serving == a1.serving)) = v := ⟨_, rfl⟩
  have hS := ltS hb24 hS
  refine RL.join 6 30 (.bool b23) (fun w' => Ch nb w19 w') ?_ ?_
  · rcases Bool.eq_false_or_eq_true b17 with hg22 | hg22
    ·
     have hs21 := and_t hg22 hb24
     have cs : Ch nb w19 w19 := Ch.refl
     refine RL.yes rfl rfl rfl hg22 ?_
     refine rl_fieldAddr rfl fa40_3 rfl ?_
     refine RL.yes rfl rfl rfl hg22 ?_
     refine rl_loadS (v := (Value.bool a0.serving)) rfl Try.isAgg4 (k4.cell rfl) rfl ?_
     refine RL.yes rfl rfl rfl hg22 ?_
     refine rl_fieldAddr rfl fa40_3 rfl ?_
     refine RL.yes rfl rfl rfl hg22 ?_
     refine rl_loadS (v := (Value.bool a1.serving)) rfl Try.isAgg4 (k8.cell rfl) rfl ?_
     refine RL.yes rfl rfl rfl hg22 ?_
     refine rl_bin rfl rfl (B.eqlB Try.underlying4) rfl ?_
     refine rl_pickT rfl hg22 rfl rfl ?_
     exact RL.nil ⟨Ext.bothEq (congrArg Value.bool hs21) (Ext.skip rfl (Ext.skip rfl (Ext.skip rfl (Ext.skip rfl (Ext.skip rfl (Ext.rfl')))))), cs⟩
    ·
     have hs21 := and_f hg22 hb24
     have cs : Ch nb w19 w19 := Ch.refl
     refine RL.no rfl rfl rfl hg22 rfl rfl ?_
     refine RL.no rfl rfl rfl hg22 rfl rfl ?_
     refine RL.no rfl rfl rfl hg22 rfl rfl ?_
     refine RL.no rfl rfl rfl hg22 rfl rfl ?_
     refine RL.no rfl rfl rfl hg22 rfl rfl ?_
     refine rl_pickF rfl hg22 rfl rfl ?_
     exact RL.nil ⟨Ext.bothEq (congrArg Value.bool hs21) (Ext.skip rfl (Ext.skip rfl (Ext.skip rfl (Ext.skip rfl (Ext.skip rfl (Ext.rfl')))))), cs⟩
  intro w25 c26
  have ah0_0 := slRep.ch kStr_pos ah0_0 c26
  have ah1_0 := slRep.ch kStr_pos ah1_0 c26
  have k4 := k4.ch0 c26
  have k8 := k8.ch0 c26
  have c0 := c0.then0 c26
  refine rl_move rfl rfl ?_
  obtain ⟨b29, hb30⟩ : ∃ v, (b23 && (a0.terminating == a1.terminating)) = v := ⟨_, rfl⟩
  have hS := ltS hb30 hS
  refine RL.join 6 37 (.bool b29) (fun w' => Ch nb w25 w') ?_ ?_
  · rcases Bool.eq_false_or_eq_true b23 with hg28 | hg28
    ·
     have hs27 := and_t hg28 hb30
     have cs : Ch nb w25 w25 := Ch.refl
     refine RL.yes rfl rfl rfl hg28 ?_
     refine rl_fieldAddr rfl fa40_4 rfl ?_
     refine RL.yes rfl rfl rfl hg28 ?_
     refine rl_loadS (v := (Value.bool a0.terminating)) rfl Try.isAgg4 (k4.cell rfl) rfl ?_
     refine RL.yes rfl rfl rfl hg28 ?_
     refine rl_fieldAddr rfl fa40_4 rfl ?_
     refine RL.yes rfl rfl rfl hg28 ?_
     refine rl_loadS (v := (Value.bool a1.terminating)) rfl Try.isAgg4 (k8.cell rfl) rfl ?_
     refine RL.yes rfl rfl rfl hg28 ?_
     refine rl_bin rfl rfl (B.eqlB Try.underlying4) rfl ?_
     refine rl_pickT rfl hg28 rfl rfl ?_
     exact RL.nil ⟨Ext.bothEq (congrArg Value.bool hs27) (Ext.skip rfl (Ext.skip rfl (Ext.skip rfl (Ext.skip rfl (Ext.skip rfl (Ext.rfl')))))), cs⟩
    ·
     have hs27 := and_f hg28 hb30
     have cs : Ch nb w25 w25 := Ch.refl
     refine RL.no rfl rfl rfl hg28 rfl rfl ?_
     refine RL.no rfl rfl rfl hg28 rfl rfl ?_
     refine RL.no rfl rfl rfl hg28 rfl rfl ?_
     refine RL.no rfl rfl rfl hg28 rfl rfl ?_
     refine RL.no rfl rfl rfl hg28 rfl rfl ?_
     refine rl_pickF rfl hg28 rfl rfl ?_
     exact RL.nil ⟨Ext.bothEq (congrArg Value.bool hs27) (Ext.skip rfl (Ext.skip rfl (Ext.skip rfl (Ext.skip rfl (Ext.skip rfl (Ext.rfl')))))), cs⟩
  intro w31 c32
  have ah0_0 := slRep.ch kStr_pos ah0_0 c32
  have ah1_0 := slRep.ch kStr_pos ah1_0 c32
  have k4 := k4.ch0 c32
  have k8 := k8.ch0 c32
  have c0 := c0.then0 c32
  refine rl_move rfl rfl ?_
  obtain ⟨b35, hb36, hS⟩ := bindS hS
  refine RL.join 6 44 (.bool b35) (fun w' => Ch nb w31 w') ?_ ?_
  · rcases Bool.eq_false_or_eq_true b29 with hg34 | hg34
    ·
     have hs33 := andO_t hg34 hb36
     have cs : Ch nb w31 w31 := Ch.refl
     refine RL.yes rfl rfl rfl hg34 ?_
     refine rl_fieldAddr rfl fa40_5 rfl ?_
     refine RL.yes rfl rfl rfl hg34 ?_
     refine rl_loadS (v := az0_0) rfl Try.isAgg30 (k4.cell rfl) rfl ?_
     refine RL.yes rfl rfl rfl hg34 ?_
     refine rl_fieldAddr rfl fa40_5 rfl ?_
     refine RL.yes rfl rfl rfl hg34 ?_
     refine rl_loadS (v := az1_0) rfl Try.isAgg30 (k8.cell rfl) rfl ?_
     refine RL.yes rfl rfl rfl hg34 ?_
     obtain ⟨y40, hy41, hs33⟩ := bindS hs33
     refine rl_callF rfl en18 rfl (ctr18 (G F w.heap.size nb) w31 a0.zones az0_0 ah0_0 a1.zones az1_0 ah1_0 y40 hy41) ?_
     rintro _ w38 ⟨rfl, c39⟩
     have ah0_0 := slRep.ch kStr_pos ah0_0 c39
     have ah1_0 := slRep.ch kStr_pos ah1_0 c39
     have k4 := k4.ch0 c39
     have k8 := k8.ch0 c39
     have c0 := c0.then0 c39
     refine rl_pickT rfl hg34 rfl rfl ?_
     have cs := cs.then0 c39
     exact RL.nil ⟨Ext.bothEq (congrArg Value.bool (Option.some.inj hs33)) (Ext.skip rfl (Ext.skip rfl (Ext.skip rfl (Ext.skip rfl (Ext.skip rfl (Ext.rfl')))))), cs⟩
    ·
     have hs33 := andO_f hg34 hb36
     have cs : Ch nb w31 w31 := Ch.refl
     refine RL.no rfl rfl rfl hg34 rfl rfl ?_
     refine RL.no rfl rfl rfl hg34 rfl rfl ?_
     refine RL.no rfl rfl rfl hg34 rfl rfl ?_
     refine RL.no rfl rfl rfl hg34 rfl rfl ?_
     refine RL.no rfl rfl rfl hg34 rfl rfl ?_
     refine rl_pickF rfl hg34 rfl rfl ?_
     exact RL.nil ⟨Ext.bothEq (congrArg Value.bool (Option.some.inj hs33)) (Ext.skip rfl (Ext.skip rfl (Ext.skip rfl (Ext.skip rfl (Ext.skip rfl (Ext.rfl')))))), cs⟩
  intro w37 c42
  have ah0_0 := slRep.ch kStr_pos ah0_0 c42
  have ah1_0 := slRep.ch kStr_pos ah1_0 c42
  have k4 := k4.ch0 c42
  have k8 := k8.ch0 c42
  have c0 := c0.then0 c42
  refine rl_assign rfl rfl ?_
  refine RL.nil ?_
  refine thn_n ?_
  refine CW.ret ?_
  obtain rfl := Option.some.inj hS
  exact ret1 rfl ⟨rfl, c0⟩
/-- lb/lbref18.Count -/
theorem ctr15 (F : Nat → Prop) (w : World) (a0 : (List Candidate)) (av0 : Value) (ah0 : slRep k_Candidate F w a0 av0) (a1 : ByteArray) (r : Bool) (hs : F15_linkboyref18_Count a0 a1 = r) :
    Ret Try.prog 15 #[av0, (Value.string a1)] w fun v w' => v = (Value.bool r) ∧ Ch nb w w' := by
  have hS := hs
  have c0 : Ch nb w w := Ch.refl
  have ah0 := slRep.enter k_Candidate_pos ah0
  refine Ret.of (n := 40) (args := [_, _]) (rs := [.tmp 4]) Try.func15 rfl rfl rfl rfl ?_
  refine CW.seq (CW.region ?_)
  refine rl_assign rfl rfl ?_
  refine RL.nil ?_
  refine thn_n ?_
  refine CW.seq (CW.region ?_)
  refine rl_assign rfl rfl ?_
  refine rl_assign rfl rfl ?_
  refine RL.nil ?_
  refine thn_n ?_
  refine CW.seq ?_
  refine CW.seq (CW.region ?_)
  refine rl_move rfl rfl ?_
  refine rl_lenR rfl ah0 Try.underlying36 rfl ?_
  refine rl_move rfl rfl ?_
  refine RL.nil ?_
  refine thn_n ?_
  obtain ⟨o10, ho11⟩ : ∃ o, runA (F15_linkboyref18_Count_b1 a1) a0 (false, false) = o := ⟨_, rfl⟩
  have hS := ltS ho11 hS
  refine CW.cutB (fun E' w' => ∃ (x1 : Bool) (x2 : Bool), Sub [(1, (Value.string a1)), (5, (Value.bool x1)), (6, (Value.bool x2))] E' ∧ Ch nb w w' ∧ (x1, x2) = o10 ∧ slRep k_Candidate (G F w.heap.size nb) w' a0 av0) ?_ ?_
  ·
   refine CW.loopS [(1, (Value.string a1)), (9, av0), (10, (Value.int .i64 ((a0.length : Nat) : Int))), (5, (Value.bool false)), (6, (Value.bool false)), (11, (Value.int .i64 ((0 : Nat) : Int)))] ⟨rfl, rfl, rfl, rfl, rfl, rfl, trivial⟩ a0.length (fun m E w' => ∃ (rest3 : List Candidate) (i4 : Nat) (x1 : Bool) (x2 : Bool), m = rest3.length ∧ E = [(1, (Value.string a1)), (9, av0), (10, (Value.int .i64 ((a0.length : Nat) : Int))), (5, (Value.bool x1)), (6, (Value.bool x2)), (11, (Value.int .i64 ((i4 : Nat) : Int)))] ∧ Ch nb w w' ∧ At a0 i4 rest3 ∧ runA (F15_linkboyref18_Count_b1 a1) rest3 (x1, x2) = o10 ∧ slRep k_Candidate (G F w.heap.size nb) w' a0 av0)
       ⟨a0, 0, false, false, rfl, rfl, c0, At.start, ho11, ah0⟩ ?_
   rintro _ _ w16 ⟨rest3, i4, x1, x2, rfl, rfl, c15, hat6, hL5, ah0⟩
   refine CW.seq (CW.region ?_)
   refine rl_bin rfl rfl B.lss rfl ?_
   refine RL.nil (thn_n ?_)
   refine CW.seq ?_
   refine CW.cond (t := decide (((i4 : Nat) : Int) < ((a0.length : Nat) : Int))) rfl (fun q18 => ?_) (fun q18 => ?_)
   ·
    obtain ⟨x12, rest19, rfl⟩ := hat6.cons q18
    obtain ⟨q7, hq8⟩ : ∃ q, (F15_linkboyref18_Count_b1 a1) x12 (x1, x2) = q := ⟨_, rfl⟩
    have hb9 := hq8
    refine CW.skip (thn_n ?_)
    refine CW.seq ?_
    refine CW.block ?_
    refine CW.seq (CW.region ?_)
    refine rl_ixR rfl ah0 rfl hat6.get Try.underlying36 Try.sizeOf40 rfl ?_
    intro p20 o21 cs22 hr23 hs24 hg25
    obtain ⟨z26, rfl, h27⟩ := hr23
    refine rl_loadA (cs := (Candidate.c x12 z26)) rfl Try.isAgg40 Try.sizeOf40 (hs24) rfl rfl ?_
    refine rl_alloc (Candidate.c Candidate.z (Value.slice none 0 0)) Try.zeroValue40 rfl rfl ?_
    intro p28 w29 n30 k31
    have lop28 := n30.lo c15.size
    have ah0 := slRep.st k_Candidate_pos ah0 n30.ch (admNew n30.fresh (fun _ x => x))
    have h27 := slRep.st kStr_pos h27 n30.ch (admNew n30.fresh (fun _ x => x))
    have c15 := c15.then0 n30.ch
    refine rl_storeA (vs := (Candidate.c x12 z26)) rfl rfl (Kd.one _ (show k_Candidate.rep (G F w.heap.size (un (inBlk (Value.pointer (some ⟨p28, 0, none⟩))) nb)) w29 x12 (Candidate.c x12 z26) from ⟨z26, rfl, h27⟩)) Try.sizeOf40 rfl k31 rfl ?_
    intro w32 s34 c33 k35
    have ad36 : ∀ b, b < w29.heap.size → ¬ (un (inBlk (Value.pointer (some ⟨p28, 0, none⟩))) nb) b → ¬ inBlk (Value.pointer (some ⟨p28, 0, none⟩)) b ∧ ¬ (un (inBlk (Value.pointer (some ⟨p28, 0, none⟩))) nb) b := fun b _ hs => ⟨fun h => hs (.inl h), hs⟩
    have ah0 := slRep.st k_Candidate_pos ah0 c33 ad36
    have h27 := slRep.st kStr_pos h27 c33 ad36
    have c15 := c15.then c33 (fun i hi h => absurd (lop28 i h) (Nat.not_le_of_lt hi))
    refine RL.nil ?_
    refine thn_n ?_
    refine CW.seq (CW.region ?_)
    refine rl_fieldAddr rfl fa40_2 rfl ?_
    refine rl_loadS (v := (Value.bool x12.ready)) rfl Try.isAgg4 (k35.cell rfl) rfl ?_
    refine RL.nil ?_
    refine thn_n ?_
    refine CW.cond (t := x12.ready) rfl (fun q37 => ?_) (fun q37 => ?_)
    ·
     have hb9 := ifT q37 hb9
     refine CW.seq (CW.region ?_)
     refine rl_move rfl rfl ?_
     refine rl_move rfl rfl ?_
     obtain ⟨b40, hb41⟩ : ∃ v, (x1 || (lt (F11_linkboyref18_Meant x12 a1) fun y42 => y42)) = v := ⟨_, rfl⟩
     have hb9 := ltS hb41 hb9
     refine RL.join 4 22 (.bool b40) (fun w' => Ch nb w32 w') ?_ ?_
     · rcases Bool.eq_false_or_eq_true x1 with hg39 | hg39
       ·
        have hs38 := or_t hg39 hb41
        have cs : Ch nb w32 w32 := Ch.refl
        refine RL.no rfl rfl rfl hg39 rfl rfl ?_
        refine RL.no rfl rfl rfl hg39 rfl rfl ?_
        refine RL.no rfl rfl rfl hg39 rfl rfl ?_
        refine rl_pickT rfl hg39 rfl rfl ?_
        exact RL.nil ⟨Ext.bothEq (congrArg Value.bool hs38) (Ext.skip rfl (Ext.skip rfl (Ext.skip rfl (Ext.rfl')))), cs⟩
       ·
        have hs38 := or_f hg39 hb41
        have cs : Ch nb w32 w32 := Ch.refl
        refine RL.yes rfl rfl rfl hg39 ?_
        refine rl_loadA (cs := (Candidate.c x12 z26)) rfl Try.isAgg40 Try.sizeOf40 (k35.segAt 0 23) rfl rfl ?_
        refine RL.yes rfl rfl rfl hg39 ?_
        refine rl_move rfl rfl ?_
        refine RL.yes rfl rfl rfl hg39 ?_
        obtain ⟨y45, hy46⟩ : ∃ y, F11_linkboyref18_Meant x12 a1 = y := ⟨_, rfl⟩
        have hs38 := ltS hy46 hs38
        refine rl_callF rfl en11 rfl (ctr11 (G F w.heap.size (un (inBlk (Value.pointer (some ⟨p28, 0, none⟩))) nb)) w32 x12 z26 h27 a1 y45 hy46) ?_
        rintro _ w43 ⟨rfl, c44⟩
        have ah0 := slRep.ch k_Candidate_pos ah0 c44
        have h27 := slRep.ch kStr_pos h27 c44
        have k35 := k35.ch0 c44
        have c15 := c15.then0 c44
        refine rl_pickF rfl hg39 rfl rfl ?_
        have cs := cs.then0 c44
        exact RL.nil ⟨Ext.bothEq (congrArg Value.bool hs38) (Ext.skip rfl (Ext.skip rfl (Ext.skip rfl (Ext.rfl')))), cs⟩
     intro w42 c47
     have ah0 := slRep.ch k_Candidate_pos ah0 c47
     have h27 := slRep.ch kStr_pos h27 c47
     have k35 := k35.ch0 c47
     have c15 := c15.then0 c47
     refine rl_assign rfl rfl ?_
     refine RL.nil ?_
     refine thn_n ?_
     refine CW.region ?_
     refine rl_move rfl rfl ?_
     refine rl_move rfl rfl ?_
     obtain ⟨b50, hb51⟩ : ∃ v, (x2 || (decide (((x12.zones.length : Nat) : Int) = 0))) = v := ⟨_, rfl⟩
     have hb9 := ltS hb51 hb9
     refine RL.join 5 29 (.bool b50) (fun w' => Ch nb w42 w') ?_ ?_
     · rcases Bool.eq_false_or_eq_true x2 with hg49 | hg49
       ·
        have hs48 := or_t hg49 hb51
        have cs : Ch nb w42 w42 := Ch.refl
        refine RL.no rfl rfl rfl hg49 rfl rfl ?_
        refine RL.no rfl rfl rfl hg49 rfl rfl ?_
        refine RL.no rfl rfl rfl hg49 rfl rfl ?_
        refine RL.no rfl rfl rfl hg49 rfl rfl ?_
        refine rl_pickT rfl hg49 rfl rfl ?_
        exact RL.nil ⟨Ext.bothEq (congrArg Value.bool hs48) (Ext.skip rfl (Ext.skip rfl (Ext.skip rfl (Ext.skip rfl (Ext.rfl'))))), cs⟩
       ·
        have hs48 := or_f hg49 hb51
        have cs : Ch nb w42 w42 := Ch.refl
        refine RL.yes rfl rfl rfl hg49 ?_
        refine rl_fieldAddr rfl fa40_5 rfl ?_
        refine RL.yes rfl rfl rfl hg49 ?_
        refine rl_loadS (v := z26) rfl Try.isAgg30 (k35.cell rfl) rfl ?_
        refine RL.yes rfl rfl rfl hg49 ?_
        refine rl_lenR rfl h27 Try.underlying30 rfl ?_
        refine RL.yes rfl rfl rfl hg49 ?_
        refine rl_bin rfl rfl B.eql rfl ?_
        refine rl_pickF rfl hg49 rfl rfl ?_
        exact RL.nil ⟨Ext.bothEq (congrArg Value.bool hs48) (Ext.skip rfl (Ext.skip rfl (Ext.skip rfl (Ext.skip rfl (Ext.rfl'))))), cs⟩
     intro w52 c53
     have ah0 := slRep.ch k_Candidate_pos ah0 c53
     have h27 := slRep.ch kStr_pos h27 c53
     have k35 := k35.ch0 c53
     have c15 := c15.then0 c53
     refine rl_assign rfl rfl ?_
     refine RL.nil ?_
     refine inB_n ?_
     refine thn_n ?_
     refine CW.region ?_
     refine rl_inc rfl hat6.lt ah0.big rfl ?_
     refine rl_move rfl rfl ?_
     refine RL.nil ?_
     refine thn_n ?_
     have crf : Ch nb w52 w52 := Ch.refl
     have ah0 := slRep.st k_Candidate_pos ah0 crf (show ∀ b, b < w52.heap.size → ¬ (un (inBlk (Value.pointer (some ⟨p28, 0, none⟩))) nb) b → ¬ nb b ∧ ¬ nb b from fun b _ hs => ⟨fun x => x, fun h => hs (False.elim h)⟩)
     have h27 := slRep.st kStr_pos h27 crf (show ∀ b, b < w52.heap.size → ¬ (un (inBlk (Value.pointer (some ⟨p28, 0, none⟩))) nb) b → ¬ nb b ∧ ¬ nb b from fun b _ hs => ⟨fun x => x, fun h => hs (False.elim h)⟩)
     have c15 := c15.then0 crf
     have hLn := runA_next hL5 (hb9.trans hq8.symm)
     exact ⟨rest19.length, Nat.lt_succ_self _, [(1, (Value.string a1)), (9, av0), (10, (Value.int .i64 ((a0.length : Nat) : Int))), (5, (Value.bool b40)), (6, (Value.bool b50)), (11, (Value.int .i64 ((i4 + 1 : Nat) : Int)))], ⟨rfl, rfl, rfl, rfl, rfl, rfl, trivial⟩, ⟨rest19, i4 + 1, b40, b50, rfl, rfl, c15, hat6.next, hLn, ah0⟩⟩
    ·
     have hb9 := ifF q37 hb9
     refine CW.skip ?_
     refine inB_n ?_
     refine thn_n ?_
     refine CW.region ?_
     refine rl_inc rfl hat6.lt ah0.big rfl ?_
     refine rl_move rfl rfl ?_
     refine RL.nil ?_
     refine thn_n ?_
     have crf : Ch nb w32 w32 := Ch.refl
     have ah0 := slRep.st k_Candidate_pos ah0 crf (show ∀ b, b < w32.heap.size → ¬ (un (inBlk (Value.pointer (some ⟨p28, 0, none⟩))) nb) b → ¬ nb b ∧ ¬ nb b from fun b _ hs => ⟨fun x => x, fun h => hs (False.elim h)⟩)
     have h27 := slRep.st kStr_pos h27 crf (show ∀ b, b < w32.heap.size → ¬ (un (inBlk (Value.pointer (some ⟨p28, 0, none⟩))) nb) b → ¬ nb b ∧ ¬ nb b from fun b _ hs => ⟨fun x => x, fun h => hs (False.elim h)⟩)
     have c15 := c15.then0 crf
     have hLn := runA_next hL5 (hb9.trans hq8.symm)
     exact ⟨rest19.length, Nat.lt_succ_self _, [(1, (Value.string a1)), (9, av0), (10, (Value.int .i64 ((a0.length : Nat) : Int))), (5, (Value.bool x1)), (6, (Value.bool x2)), (11, (Value.int .i64 ((i4 + 1 : Nat) : Int)))], ⟨rfl, rfl, rfl, rfl, rfl, rfl, trivial⟩, ⟨rest19, i4 + 1, x1, x2, rfl, rfl, c15, hat6.next, hLn, ah0⟩⟩
   ·
    obtain rfl := hat6.nil q18
    have hLf : (x1, x2) = o10 := hL5
    refine CW.exit (thn_exit (thn_exit (inB_hit ?_)))
    exact ⟨x1, x2, ⟨rfl, rfl, rfl, trivial⟩, c15, hLf, ah0⟩
  ·
   rintro _ w55 ⟨x1, x2, hE56, c54, f57, ah0⟩
   subst f57
   refine thn_n (CW.sub [(1, (Value.string a1)), (5, (Value.bool x1)), (6, (Value.bool x2))] hE56 ?_)
   refine CW.seq (CW.region ?_)
   refine rl_move rfl rfl ?_
   refine rl_bin rfl rfl B.neqS rfl ?_
   refine rl_move rfl rfl ?_
   obtain ⟨b61, hb62⟩ : ∃ v, ((!decide (a1 = (⟨#[]⟩ : ByteArray))) && x1) = v := ⟨_, rfl⟩
   have hS := ltS hb62 hS
   refine RL.join 2 35 (.bool b61) (fun w' => Ch nb w55 w') ?_ ?_
   · rcases Bool.eq_false_or_eq_true (!decide (a1 = (⟨#[]⟩ : ByteArray))) with hg60 | hg60
     ·
      have hs59 := and_t hg60 hb62
      have cs : Ch nb w55 w55 := Ch.refl
      refine RL.yes rfl rfl rfl hg60 ?_
      refine rl_move rfl rfl ?_
      refine rl_pickT rfl hg60 rfl rfl ?_
      exact RL.nil ⟨Ext.bothEq (congrArg Value.bool hs59) (Ext.skip rfl (Ext.rfl')), cs⟩
     ·
      have hs59 := and_f hg60 hb62
      have cs : Ch nb w55 w55 := Ch.refl
      refine RL.no rfl rfl rfl hg60 rfl rfl ?_
      refine rl_pickF rfl hg60 rfl rfl ?_
      exact RL.nil ⟨Ext.bothEq (congrArg Value.bool hs59) (Ext.skip rfl (Ext.rfl')), cs⟩
   intro w63 c64
   have ah0 := slRep.ch k_Candidate_pos ah0 c64
   have c54 := c54.then0 c64
   refine rl_move rfl rfl ?_
   obtain ⟨b67, hb68⟩ : ∃ v, (b61 && (!x2)) = v := ⟨_, rfl⟩
   have hS := ltS hb68 hS
   refine RL.join 3 39 (.bool b67) (fun w' => Ch nb w63 w') ?_ ?_
   · rcases Bool.eq_false_or_eq_true b61 with hg66 | hg66
     ·
      have hs65 := and_t hg66 hb68
      have cs : Ch nb w63 w63 := Ch.refl
      refine RL.yes rfl rfl rfl hg66 ?_
      refine rl_move rfl rfl ?_
      refine RL.yes rfl rfl rfl hg66 ?_
      refine rl_not rfl rfl ?_
      refine rl_pickT rfl hg66 rfl rfl ?_
      exact RL.nil ⟨Ext.bothEq (congrArg Value.bool hs65) (Ext.skip rfl (Ext.skip rfl (Ext.rfl'))), cs⟩
     ·
      have hs65 := and_f hg66 hb68
      have cs : Ch nb w63 w63 := Ch.refl
      refine RL.no rfl rfl rfl hg66 rfl rfl ?_
      refine RL.no rfl rfl rfl hg66 rfl rfl ?_
      refine rl_pickF rfl hg66 rfl rfl ?_
      exact RL.nil ⟨Ext.bothEq (congrArg Value.bool hs65) (Ext.skip rfl (Ext.skip rfl (Ext.rfl'))), cs⟩
   intro w69 c70
   have ah0 := slRep.ch k_Candidate_pos ah0 c70
   have c54 := c54.then0 c70
   refine rl_assign rfl rfl ?_
   refine RL.nil ?_
   refine thn_n ?_
   refine CW.ret ?_
   obtain rfl := hS
   exact ret1 rfl ⟨rfl, c54⟩
/-- lb/lbref18.Filter -/
theorem ctr17 (F : Nat → Prop) (w : World) (a0 : (List Candidate)) (av0 : Value) (ah0 : slRep k_Candidate F w a0 av0) (a1 : ByteArray) (r : (List Candidate)) (hs : F17_linkboyref18_Filter a0 a1 = some r) :
    Ret Try.prog 17 #[av0, (Value.string a1)] w fun v w' => ∃ y0 : Value, v = y0 ∧ SlO k_Candidate 40 F w.heap.size (inBlk y0) w' r y0 ∧ Ch nb w w' := by
  have hS := hs
  have c0 : Ch nb w w := Ch.refl
  have ah0 := slRep.enter k_Candidate_pos ah0
  refine Ret.of (n := 36) (args := [_, _]) (rs := [.tmp 4]) Try.func17 rfl rfl rfl rfl ?_
  refine CW.seq (CW.region ?_)
  refine rl_assign rfl rfl ?_
  refine RL.nil ?_
  refine thn_n ?_
  refine CW.seq (CW.region ?_)
  refine rl_bslice (k := k_Candidate) (F := F) (B := w.heap.size) (S := nb) ([] : List Candidate) rfl k_Candidate_pos Try.underlying36 Try.sizeOf40 Try.zeroValue40 rfl rfl trivial c0.size nbS rfl ?_
  intro v1 w2 c3 hf4 h5
  have ah0 := slRep.st k_Candidate_pos ah0 c3 (admNew hf4 (fun _ x => x))
  have c0 := c0.then0 c3
  refine rl_assign rfl rfl ?_
  refine RL.nil ?_
  refine thn_n ?_
  refine CW.seq (CW.region ?_)
  refine rl_move rfl rfl ?_
  refine rl_move rfl rfl ?_
  obtain ⟨y8, hy9⟩ : ∃ y, F15_linkboyref18_Count a0 a1 = y := ⟨_, rfl⟩
  have hS := ltS hy9 hS
  refine rl_callF rfl en15 rfl (ctr15 (G F w.heap.size (un (inBlk v1) nb)) w2 a0 av0 ah0 a1 y8 hy9) ?_
  rintro _ w6 ⟨rfl, c7⟩
  have ah0 := slRep.ch k_Candidate_pos ah0 c7
  have h5 := h5.ch0 c7
  have c0 := c0.then0 c7
  refine rl_assign rfl rfl ?_
  refine RL.nil ?_
  refine thn_n ?_
  refine CW.seq ?_
  refine CW.seq (CW.region ?_)
  refine rl_move rfl rfl ?_
  refine rl_lenR rfl ah0 Try.underlying36 rfl ?_
  refine rl_move rfl rfl ?_
  refine RL.nil ?_
  refine thn_n ?_
  obtain ⟨o20, ho21, hS⟩ := bindS hS
  refine CW.cutB (fun E' w' => ∃ (x10 : (List Candidate)) (v11 : Value), Sub [(5, v11)] E' ∧ Ch nb w w' ∧ x10 = o20 ∧ slRep k_Candidate (G F w.heap.size (un (inBlk v11) nb)) w' a0 av0 ∧ SlO k_Candidate 40 F w.heap.size (un (inBlk v11) nb) w' x10 v11) ?_ ?_
  ·
   refine CW.loopS [(1, (Value.string a1)), (6, (Value.bool y8)), (13, av0), (14, (Value.int .i64 ((a0.length : Nat) : Int))), (5, v1), (15, (Value.int .i64 ((0 : Nat) : Int)))] ⟨rfl, rfl, rfl, rfl, rfl, rfl, trivial⟩ a0.length (fun m E w' => ∃ (rest13 : List Candidate) (i14 : Nat) (x10 : (List Candidate)) (v11 : Value), m = rest13.length ∧ E = [(1, (Value.string a1)), (6, (Value.bool y8)), (13, av0), (14, (Value.int .i64 ((a0.length : Nat) : Int))), (5, v11), (15, (Value.int .i64 ((i14 : Nat) : Int)))] ∧ Ch nb w w' ∧ At a0 i14 rest13 ∧ runAO (F17_linkboyref18_Filter_b1 a1 y8) rest13 x10 = some o20 ∧ slRep k_Candidate (G F w.heap.size (un (inBlk v11) nb)) w' a0 av0 ∧ SlO k_Candidate 40 F w.heap.size (un (inBlk v11) nb) w' x10 v11)
       ⟨a0, 0, [], v1, rfl, rfl, c0, At.start, ho21, ah0, h5⟩ ?_
   rintro _ _ w26 ⟨rest13, i14, x10, v11, rfl, rfl, c25, hat16, hL15, ah0, h12⟩
   refine CW.seq (CW.region ?_)
   refine rl_bin rfl rfl B.lss rfl ?_
   refine RL.nil (thn_n ?_)
   refine CW.seq ?_
   refine CW.cond (t := decide (((i14 : Nat) : Int) < ((a0.length : Nat) : Int))) rfl (fun q28 => ?_) (fun q28 => ?_)
   ·
    obtain ⟨x22, rest29, rfl⟩ := hat16.cons q28
    obtain ⟨q17, hq18⟩ := runAO_some hL15
    have hb19 := hq18
    refine CW.skip (thn_n ?_)
    refine CW.seq ?_
    refine CW.block ?_
    refine CW.seq (CW.region ?_)
    refine rl_ixR rfl ah0 rfl hat16.get Try.underlying36 Try.sizeOf40 rfl ?_
    intro p30 o31 cs32 hr33 hs34 hg35
    obtain ⟨z36, rfl, h37⟩ := hr33
    refine rl_loadA (cs := (Candidate.c x22 z36)) rfl Try.isAgg40 Try.sizeOf40 (hs34) rfl rfl ?_
    refine rl_alloc (Candidate.c Candidate.z (Value.slice none 0 0)) Try.zeroValue40 rfl rfl ?_
    intro p38 w39 n40 k41
    have lop38 := n40.lo c25.size
    have d42 : ∀ b, inBlk (Value.pointer (some ⟨p38, 0, none⟩)) b → ¬ inBlk v11 b := disNew n40.fresh (fun b hb => (h12.lt b hb).2)
    have ah0 := slRep.st k_Candidate_pos ah0 n40.ch (admNew n40.fresh (fun _ x => x))
    have h12 := h12.st n40.ch (fun _ _ x => x) (admNew n40.fresh (fun _ x => x)) (fun b h => (.inr (.inl h)))
    have h37 := slRep.st kStr_pos h37 n40.ch (admNew n40.fresh (fun _ x => x))
    have c25 := c25.then0 n40.ch
    refine rl_storeA (vs := (Candidate.c x22 z36)) rfl rfl (Kd.one _ (show k_Candidate.rep (G F w.heap.size (un (inBlk (Value.pointer (some ⟨p38, 0, none⟩))) (un (inBlk v11) nb))) w39 x22 (Candidate.c x22 z36) from ⟨z36, rfl, h37⟩)) Try.sizeOf40 rfl k41 rfl ?_
    intro w43 s45 c44 k46
    have ad47 : ∀ b, b < w39.heap.size → ¬ (un (inBlk (Value.pointer (some ⟨p38, 0, none⟩))) (un (inBlk v11) nb)) b → ¬ inBlk (Value.pointer (some ⟨p38, 0, none⟩)) b ∧ ¬ (un (inBlk (Value.pointer (some ⟨p38, 0, none⟩))) (un (inBlk v11) nb)) b := fun b _ hs => ⟨fun h => hs (.inl h), hs⟩
    have ah0 := slRep.st k_Candidate_pos ah0 c44 ad47
    have h12 := h12.st c44 (disSym d42) ad47 (fun b h => (.inr (.inl h)))
    have h37 := slRep.st kStr_pos h37 c44 ad47
    have c25 := c25.then c44 (fun i hi h => absurd (lop38 i h) (Nat.not_le_of_lt hi))
    refine RL.nil ?_
    refine thn_n ?_
    refine CW.seq (CW.region ?_)
    refine rl_fieldAddr rfl fa40_2 rfl ?_
    refine rl_loadS (v := (Value.bool x22.ready)) rfl Try.isAgg4 (k46.cell rfl) rfl ?_
    refine rl_move rfl rfl ?_
    obtain ⟨b50, hb51⟩ : ∃ v, (x22.ready && (lt ((!y8) || (lt (F11_linkboyref18_Meant x22 a1) fun y54 => y54)) fun b52 => b52)) = v := ⟨_, rfl⟩
    have hb19 := ltS hb51 hb19
    refine RL.join 8 29 (.bool b50) (fun w' => Ch nb w43 w') ?_ ?_
    · rcases Bool.eq_false_or_eq_true x22.ready with hg49 | hg49
      ·
       have hs48 := and_t hg49 hb51
       have cs : Ch nb w43 w43 := Ch.refl
       refine RL.yes rfl rfl rfl hg49 ?_
       refine rl_move rfl rfl ?_
       refine RL.yes rfl rfl rfl hg49 ?_
       refine rl_not rfl rfl ?_
       refine RL.yes rfl rfl rfl hg49 ?_
       refine rl_move rfl rfl ?_
       obtain ⟨b55, hb56⟩ : ∃ v, ((!y8) || (lt (F11_linkboyref18_Meant x22 a1) fun y57 => y57)) = v := ⟨_, rfl⟩
       have hs48 := ltS hb56 hs48
       refine RL.join 4 28 (.bool b55) (fun w' => Ch nb w43 w') ?_ ?_
       · rcases Bool.eq_false_or_eq_true (!y8) with hg54 | hg54
         ·
          have hs53 := or_t hg54 hb56
          have cs : Ch nb w43 w43 := Ch.refl
          refine RL.no rfl rfl rfl hg54 rfl rfl ?_
          refine RL.no rfl rfl rfl hg54 rfl rfl ?_
          refine RL.no rfl rfl rfl hg54 rfl rfl ?_
          refine RL.yes rfl rfl rfl hg49 ?_
          refine rl_pickT rfl hg54 rfl rfl ?_
          exact RL.nil ⟨Ext.bothEq (congrArg Value.bool hs53) (Ext.skip rfl (Ext.skip rfl (Ext.skip rfl (Ext.rfl')))), cs⟩
         ·
          have hs53 := or_f hg54 hb56
          have cs : Ch nb w43 w43 := Ch.refl
          refine RL.yes rfl rfl rfl hg54 ?_
          refine rl_loadA (cs := (Candidate.c x22 z36)) rfl Try.isAgg40 Try.sizeOf40 (k46.segAt 0 23) rfl rfl ?_
          refine RL.yes rfl rfl rfl hg54 ?_
          refine rl_move rfl rfl ?_
          refine RL.yes rfl rfl rfl hg54 ?_
          obtain ⟨y60, hy61⟩ : ∃ y, F11_linkboyref18_Meant x22 a1 = y := ⟨_, rfl⟩
          have hs53 := ltS hy61 hs53
          refine rl_callF rfl en11 rfl (ctr11 (G F w.heap.size (un (inBlk (Value.pointer (some ⟨p38, 0, none⟩))) (un (inBlk v11) nb))) w43 x22 z36 h37 a1 y60 hy61) ?_
          rintro _ w58 ⟨rfl, c59⟩
          have ah0 := slRep.ch k_Candidate_pos ah0 c59
          have h12 := h12.ch0 c59
          have h37 := slRep.ch kStr_pos h37 c59
          have k46 := k46.ch0 c59
          have c25 := c25.then0 c59
          refine RL.yes rfl rfl rfl hg49 ?_
          refine rl_pickF rfl hg54 rfl rfl ?_
          have cs := cs.then0 c59
          exact RL.nil ⟨Ext.bothEq (congrArg Value.bool hs53) (Ext.skip rfl (Ext.skip rfl (Ext.skip rfl (Ext.rfl')))), cs⟩
       intro w57 c62
       have ah0 := slRep.ch k_Candidate_pos ah0 c62
       have h12 := h12.ch0 c62
       have h37 := slRep.ch kStr_pos h37 c62
       have k46 := k46.ch0 c62
       have c25 := c25.then0 c62
       refine rl_pickT rfl hg49 rfl rfl ?_
       have cs := cs.then0 c62
       exact RL.nil ⟨Ext.bothEq (congrArg Value.bool hs48) (Ext.skip rfl (Ext.skip rfl (Ext.skip rfl (Ext.skip rfl (Ext.rfl'))))), cs⟩
      ·
       have hs48 := and_f hg49 hb51
       have cs : Ch nb w43 w43 := Ch.refl
       refine RL.no rfl rfl rfl hg49 rfl rfl ?_
       refine RL.no rfl rfl rfl hg49 rfl rfl ?_
       refine RL.no rfl rfl rfl hg49 rfl rfl ?_
       refine RL.noU rfl rfl rfl rfl rfl ?_
       refine RL.noU rfl rfl rfl rfl rfl ?_
       refine RL.noU rfl rfl rfl rfl rfl ?_
       refine RL.no rfl rfl rfl hg49 rfl rfl ?_
       refine rl_pickF rfl hg49 rfl rfl ?_
       exact RL.nil ⟨Ext.bothEq (congrArg Value.bool hs48) (Ext.skip rfl (Ext.skip rfl (Ext.skip rfl (Ext.skip rfl (Ext.skip rfl (Ext.skip rfl (Ext.skip rfl (Ext.rfl')))))))), cs⟩
    intro w52 c63
    have ah0 := slRep.ch k_Candidate_pos ah0 c63
    have h12 := h12.ch0 c63
    have h37 := slRep.ch kStr_pos h37 c63
    have k46 := k46.ch0 c63
    have c25 := c25.then0 c63
    refine RL.nil ?_
    refine thn_n ?_
    refine CW.cond (t := b50) rfl (fun q64 => ?_) (fun q64 => ?_)
    ·
     have hb19 := ifT q64 hb19
     refine CW.region ?_
     refine rl_move rfl rfl ?_
     refine rl_loadA (cs := (Candidate.c x22 z36)) rfl Try.isAgg40 Try.sizeOf40 (k46.segAt 0 23) rfl rfl ?_
     refine rl_bslice (k := k_Candidate) (F := F) (B := w.heap.size) (S := (un (inBlk (Value.pointer (some ⟨p38, 0, none⟩))) (un (inBlk v11) nb))) ([x22] : List Candidate) rfl k_Candidate_pos Try.underlying36 Try.sizeOf40 Try.zeroValue40 rfl rfl ⟨rfl, ⟨z36, rfl, h37⟩, trivial⟩ c25.size (un_lt k46.ltp (un_lt (fun b hb => (h12.lt b hb).2) nbS)) rfl ?_
     intro v65 w66 c67 hf68 h69
     have h69 := h69.readNew k_Candidate_pos hf68 (un_lt k46.ltp (un_lt (fun b hb => (h12.lt b hb).2) nbS))
     have ah0 := slRep.ch k_Candidate_pos ah0 c67
     have h12 := h12.ch0 c67
     have h37 := slRep.ch kStr_pos h37 c67
     have k46 := k46.ch0 c67
     have c25 := c25.then0 c67
     obtain ⟨z78, hz79, hb19⟩ := bindS hb19
     have hl := (apO_get hz79).1
     refine rl_append (k := k_Candidate) (T := 40) (F := F) (B := w.heap.size) (S := (un (inBlk (Value.pointer (some ⟨p38, 0, none⟩))) (un (inBlk v11) nb))) (S2 := (un (inBlk (Value.pointer (some ⟨p38, 0, none⟩))) nb)) (fun v => (un (inBlk (Value.pointer (some ⟨p38, 0, none⟩))) (un (inBlk v) nb))) rfl rfl k_Candidate_pos ap36 h12 h69 (fun _ => un_swap) (fun _ _ => un_swap) hl c25.size (un_lt k46.ltp (un_lt (fun b hb => (h12.lt b hb).2) nbS)) rfl ?_
     intro v72 w73 h74 c75 hf76 ha77
     have d80 : ∀ b, inBlk v72 b → ¬ inBlk (Value.pointer (some ⟨p38, 0, none⟩)) b := disApp hf76 (disSym d42) k46.ltp
     have ah0 := slRep.st k_Candidate_pos ah0 c75 ha77
     have h37 := slRep.st kStr_pos h37 c75 ha77
     have k46 := k46.ch c75 (d42 _ rfl)
     have h69 := slRep.st k_Candidate_pos h69 c75 ha77
     have c25 := c25.then c75 (fun i hi h => absurd ((fun b hb => (h12.lt b hb).1) i h) (Nat.not_le_of_lt hi))
     refine rl_assign rfl rfl ?_
     refine RL.nil ?_
     refine inB_n ?_
     refine thn_n ?_
     refine CW.region ?_
     refine rl_inc rfl hat16.lt ah0.big rfl ?_
     refine rl_move rfl rfl ?_
     refine RL.nil ?_
     refine thn_n ?_
     have crf : Ch nb w73 w73 := Ch.refl
     have ah0 := slRep.st k_Candidate_pos ah0 crf (show ∀ b, b < w73.heap.size → ¬ (un (inBlk (Value.pointer (some ⟨p38, 0, none⟩))) (un (inBlk v72) nb)) b → ¬ nb b ∧ ¬ (un (inBlk v72) nb) b from fun b _ hs => ⟨fun x => x, fun h => hs (un_el h (fun h => (.inr (.inl h))) (fun h => False.elim h))⟩)
     have h37 := slRep.st kStr_pos h37 crf (show ∀ b, b < w73.heap.size → ¬ (un (inBlk (Value.pointer (some ⟨p38, 0, none⟩))) (un (inBlk v72) nb)) b → ¬ nb b ∧ ¬ (un (inBlk v72) nb) b from fun b _ hs => ⟨fun x => x, fun h => hs (un_el h (fun h => (.inr (.inl h))) (fun h => False.elim h))⟩)
     have h69 := slRep.st k_Candidate_pos h69 crf (show ∀ b, b < w73.heap.size → ¬ (un (inBlk (Value.pointer (some ⟨p38, 0, none⟩))) (un (inBlk v72) nb)) b → ¬ nb b ∧ ¬ (un (inBlk v72) nb) b from fun b _ hs => ⟨fun x => x, fun h => hs (un_el h (fun h => (.inr (.inl h))) (fun h => False.elim h))⟩)
     have h74 := h74.st crf (fun _ _ x => x) (show ∀ b, b < w73.heap.size → ¬ (un (inBlk (Value.pointer (some ⟨p38, 0, none⟩))) (un (inBlk v72) nb)) b → ¬ nb b ∧ ¬ (un (inBlk v72) nb) b from fun b _ hs => ⟨fun x => x, fun h => hs (un_el h (fun h => (.inr (.inl h))) (fun h => False.elim h))⟩) (fun b h => (.inl h))
     have c25 := c25.then0 crf
     have hLn := runAO_next hL15 hq18 hb19
     exact ⟨rest29.length, Nat.lt_succ_self _, [(1, (Value.string a1)), (6, (Value.bool y8)), (13, av0), (14, (Value.int .i64 ((a0.length : Nat) : Int))), (5, v72), (15, (Value.int .i64 ((i14 + 1 : Nat) : Int)))], ⟨rfl, rfl, rfl, rfl, rfl, rfl, trivial⟩, ⟨rest29, i14 + 1, x10 ++ [x22], v72, rfl, rfl, c25, hat16.next, hLn, ah0, h74⟩⟩
    ·
     have hb19 := ifF q64 hb19
     refine CW.skip ?_
     refine inB_n ?_
     refine thn_n ?_
     refine CW.region ?_
     refine rl_inc rfl hat16.lt ah0.big rfl ?_
     refine rl_move rfl rfl ?_
     refine RL.nil ?_
     refine thn_n ?_
     have crf : Ch nb w52 w52 := Ch.refl
     have ah0 := slRep.st k_Candidate_pos ah0 crf (show ∀ b, b < w52.heap.size → ¬ (un (inBlk (Value.pointer (some ⟨p38, 0, none⟩))) (un (inBlk v11) nb)) b → ¬ nb b ∧ ¬ (un (inBlk v11) nb) b from fun b _ hs => ⟨fun x => x, fun h => hs (un_el h (fun h => (.inr (.inl h))) (fun h => False.elim h))⟩)
     have h12 := h12.st crf (fun _ _ x => x) (show ∀ b, b < w52.heap.size → ¬ (un (inBlk (Value.pointer (some ⟨p38, 0, none⟩))) (un (inBlk v11) nb)) b → ¬ nb b ∧ ¬ (un (inBlk v11) nb) b from fun b _ hs => ⟨fun x => x, fun h => hs (un_el h (fun h => (.inr (.inl h))) (fun h => False.elim h))⟩) (fun b h => (.inl h))
     have h37 := slRep.st kStr_pos h37 crf (show ∀ b, b < w52.heap.size → ¬ (un (inBlk (Value.pointer (some ⟨p38, 0, none⟩))) (un (inBlk v11) nb)) b → ¬ nb b ∧ ¬ (un (inBlk v11) nb) b from fun b _ hs => ⟨fun x => x, fun h => hs (un_el h (fun h => (.inr (.inl h))) (fun h => False.elim h))⟩)
     have c25 := c25.then0 crf
     have hLn := runAO_next hL15 hq18 hb19
     exact ⟨rest29.length, Nat.lt_succ_self _, [(1, (Value.string a1)), (6, (Value.bool y8)), (13, av0), (14, (Value.int .i64 ((a0.length : Nat) : Int))), (5, v11), (15, (Value.int .i64 ((i14 + 1 : Nat) : Int)))], ⟨rfl, rfl, rfl, rfl, rfl, rfl, trivial⟩, ⟨rest29, i14 + 1, x10, v11, rfl, rfl, c25, hat16.next, hLn, ah0, h12⟩⟩
   ·
    obtain rfl := hat16.nil q28
    have hLf : x10 = o20 := runAO_done hL15
    refine CW.exit (thn_exit (thn_exit (inB_hit ?_)))
    exact ⟨x10, v11, ⟨rfl, trivial⟩, c25, hLf, ah0, h12⟩
  ·
   rintro _ w82 ⟨x10, v11, hE83, c81, f84, ah0, h12⟩
   subst f84
   refine thn_n (CW.sub [(5, v11)] hE83 ?_)
   refine CW.seq (CW.region ?_)
   refine rl_move rfl rfl ?_
   refine rl_assign rfl rfl ?_
   refine RL.nil ?_
   refine thn_n ?_
   refine CW.ret ?_
   obtain rfl := Option.some.inj hS
   exact ret1 rfl ⟨v11, rfl, h12.out, c81⟩
/-- lb/lbref18.All -/
theorem ctr16 (F : Nat → Prop) (w : World) (a0 : (List Candidate)) (av0 : Value) (ah0 : slRep k_Candidate F w a0 av0) (a1 : (List Candidate)) (av1 : Value) (ah1 : slRep k_Candidate F w a1 av1) (r : Bool) (hs : F16_linkboyref18_All a0 a1 = some r) :
    Ret Try.prog 16 #[av0, av1] w fun v w' => v = (Value.bool r) ∧ Ch nb w w' := by
  have hS := hs
  have c0 : Ch nb w w := Ch.refl
  have ah0 := slRep.enter k_Candidate_pos ah0
  have ah1 := slRep.enter k_Candidate_pos ah1
  refine Ret.of (n := 27) (args := [_, _]) (rs := [.tmp 4]) Try.func16 rfl rfl rfl rfl ?_
  refine CW.seq (CW.region ?_)
  refine rl_assign rfl rfl ?_
  refine RL.nil ?_
  refine thn_n ?_
  refine CW.seq ?_
  refine CW.seq (CW.region ?_)
  refine rl_move rfl rfl ?_
  refine rl_lenR rfl ah0 Try.underlying36 rfl ?_
  refine rl_move rfl rfl ?_
  refine rl_lenR rfl ah1 Try.underlying36 rfl ?_
  refine rl_bin rfl rfl B.neq rfl ?_
  refine RL.nil ?_
  refine thn_n ?_
  refine CW.cond (t := !decide (((a0.length : Nat) : Int) = ((a1.length : Nat) : Int))) rfl (fun q1 => ?_) (fun q1 => ?_)
  ·
   have hS := ifT q1 hS
   refine CW.seq (CW.region ?_)
   refine rl_assign rfl rfl ?_
   refine RL.nil ?_
   refine thn_n ?_
   refine CW.ret ?_
   refine thn_ret ?_
   obtain rfl := Option.some.inj hS
   exact ret1 rfl ⟨rfl, c0⟩
  ·
   have hS := ifF q1 hS
   refine CW.skip ?_
   refine thn_n ?_
   refine CW.seq ?_
   refine CW.seq (CW.region ?_)
   refine rl_move rfl rfl ?_
   refine rl_lenR rfl ah0 Try.underlying36 rfl ?_
   refine rl_move rfl rfl ?_
   refine RL.nil ?_
   refine thn_n ?_
   obtain ⟨o9, ho10, hS⟩ := bindS hS
   refine CW.cutB (fun E' w' => ∃ (ix16 : Nat), Sub [] E' ∧ Ch nb w w' ∧ Lp.fin ix16 = o9 ∧ slRep k_Candidate (G F w.heap.size nb) w' a0 av0 ∧ slRep k_Candidate (G F w.heap.size nb) w' a1 av1) ?_ ?_
   ·
    refine CW.loopS [(0, av0), (1, av1), (12, (Value.int .i64 ((a0.length : Nat) : Int))), (13, (Value.int .i64 ((0 : Nat) : Int)))] ⟨rfl, rfl, rfl, rfl, trivial⟩ a0.length (fun m E w' => ∃ (rest2 : List Candidate) (i3 : Nat) , m = rest2.length ∧ E = [(0, av0), (1, av1), (12, (Value.int .i64 ((a0.length : Nat) : Int))), (13, (Value.int .i64 ((i3 : Nat) : Int)))] ∧ Ch nb w w' ∧ At a0 i3 rest2 ∧ runBO (F16_linkboyref18_All_b1 a1) rest2 i3 = some o9 ∧ slRep k_Candidate (G F w.heap.size nb) w' a0 av0 ∧ slRep k_Candidate (G F w.heap.size nb) w' a1 av1)
        ⟨a0, 0, rfl, rfl, c0, At.start, ho10, ah0, ah1⟩ ?_
    rintro _ _ w15 ⟨rest2, i3, rfl, rfl, c14, hat5, hL4, ah0, ah1⟩
    refine CW.seq (CW.region ?_)
    refine rl_bin rfl rfl B.lss rfl ?_
    refine RL.nil (thn_n ?_)
    refine CW.seq ?_
    refine CW.cond (t := decide (((i3 : Nat) : Int) < ((a0.length : Nat) : Int))) rfl (fun q17 => ?_) (fun q17 => ?_)
    ·
     obtain ⟨x11, rest18, rfl⟩ := hat5.cons q17
     obtain ⟨q6, hq7⟩ := runBO_some hL4
     have hb8 := hq7
     refine CW.skip (thn_n ?_)
     refine CW.seq ?_
     refine CW.block ?_
     refine CW.seq (CW.region ?_)
     refine rl_move rfl rfl ?_
     refine rl_assign rfl rfl ?_
     refine RL.nil ?_
     refine thn_n ?_
     refine CW.seq ?_
     obtain ⟨y33, hy34, hb8⟩ := bindS hb8
     obtain ⟨y39, hy40, hb8⟩ := bindS hb8
     refine CW.draw 8 [(false, fun O uu wx => uu = av0), (false, fun O uu wx => uu = (Value.int .i64 ((i3 : Nat) : Int))), (false, fun O uu wx => ∃ (p19 : Nat) (o20 : Nat) (z25 : Value), uu = (Value.pointer (some ⟨p19, o20, none⟩)) ∧ slRep kStr (G F w.heap.size nb) wx x11.zones z25 ∧ (G F w.heap.size nb) p19 ∧ Seg wx p19 o20 (Candidate.c x11 z25)), (false, fun O uu wx => ∃ (z25_3 : Value), uu = (Value.agg (Candidate.c x11 z25_3).toArray) ∧ slRep kStr (G F w.heap.size nb) wx x11.zones z25_3), (false, fun O uu wx => uu = av1), (false, fun O uu wx => uu = (Value.int .i64 ((i3 : Nat) : Int))), (false, fun O uu wx => ∃ (p27 : Nat) (o28 : Nat) (z35 : Value), uu = (Value.pointer (some ⟨p27, o28, none⟩)) ∧ slRep kStr (G F w.heap.size nb) wx y33.zones z35 ∧ (G F w.heap.size nb) p27 ∧ Seg wx p27 o28 (Candidate.c y33 z35)), (false, fun O uu wx => ∃ (z35_7 : Value), uu = (Value.agg (Candidate.c y33 z35_7).toArray) ∧ slRep kStr (G F w.heap.size nb) wx y33.zones z35_7)] [[], [], [0, 1], [2], [], [], [4, 5], [6]] [3, 7] mixed rfl rfl rfl rfl ?_ ?_
     ·
      refine Each.consA ⟨fun _ _ _ _ _ h => h, fun h => absurd rfl h, fun O wk hO ck => ?_⟩ ?_
      ·
       have ah0 := slRep.ch k_Candidate_pos ah0 ck
       have ah1 := slRep.ch k_Candidate_pos ah1 ck
       have c14 := c14.then0 ck
       refine rl_move rfl rfl ?_
       exact RL.nil ⟨_, rfl, Ch.refl, rfl⟩
      refine Each.consA ⟨fun _ _ _ _ _ h => h, fun h => absurd rfl h, fun O wk hO ck => ?_⟩ ?_
      ·
       have ah0 := slRep.ch k_Candidate_pos ah0 ck
       have ah1 := slRep.ch k_Candidate_pos ah1 ck
       have c14 := c14.then0 ck
       refine rl_move rfl rfl ?_
       exact RL.nil ⟨_, rfl, Ch.refl, rfl⟩
      refine Each.consA ⟨fun _ _ _ _ cc hh => by obtain ⟨p19, o20, z25, e, h26, hg24, hs23⟩ := hh; exact ⟨p19, o20, z25, e, slRep.ch kStr_pos h26 cc, hg24, hs23.ch0 cc⟩, fun h => absurd rfl h, fun O wk hO ck => ?_⟩ ?_
      ·
       have ah0 := slRep.ch k_Candidate_pos ah0 ck
       have ah1 := slRep.ch k_Candidate_pos ah1 ck
       have c14 := c14.then0 ck
       refine Need.one rfl rfl ?_
       rintro _ e41
       obtain rfl := e41.symm
       refine Need.one rfl rfl ?_
       rintro _ e42
       obtain rfl := e42.symm
       refine rl_ixR rfl ah0 rfl hat5.get Try.underlying36 Try.sizeOf40 rfl ?_
       intro p43 o44 cs45 hr46 hs47 hg48
       obtain ⟨z49, rfl, h50⟩ := hr46
       exact RL.nil ⟨_, rfl, Ch.refl, ⟨p43, o44, z49, rfl, h50, hg48, hs47⟩⟩
      refine Each.consA ⟨fun _ _ _ _ cc hh => by obtain ⟨z25_3, e, h26_3⟩ := hh; exact ⟨z25_3, e, slRep.ch kStr_pos h26_3 cc⟩, fun h => absurd rfl h, fun O wk hO ck => ?_⟩ ?_
      ·
       have ah0 := slRep.ch k_Candidate_pos ah0 ck
       have ah1 := slRep.ch k_Candidate_pos ah1 ck
       have c14 := c14.then0 ck
       refine Need.one rfl rfl ?_
       rintro _ ⟨p19, o20, z25, e51, h26, hg24, hs23⟩
       obtain rfl := e51.symm
       refine rl_loadA (cs := (Candidate.c x11 z25)) rfl Try.isAgg40 Try.sizeOf40 (hs23) rfl rfl ?_
       exact RL.nil ⟨_, rfl, Ch.refl, ⟨z25, rfl, h26⟩⟩
      refine Each.consA ⟨fun _ _ _ _ _ h => h, fun h => absurd rfl h, fun O wk hO ck => ?_⟩ ?_
      ·
       have ah0 := slRep.ch k_Candidate_pos ah0 ck
       have ah1 := slRep.ch k_Candidate_pos ah1 ck
       have c14 := c14.then0 ck
       refine rl_move rfl rfl ?_
       exact RL.nil ⟨_, rfl, Ch.refl, rfl⟩
      refine Each.consA ⟨fun _ _ _ _ _ h => h, fun h => absurd rfl h, fun O wk hO ck => ?_⟩ ?_
      ·
       have ah0 := slRep.ch k_Candidate_pos ah0 ck
       have ah1 := slRep.ch k_Candidate_pos ah1 ck
       have c14 := c14.then0 ck
       refine rl_move rfl rfl ?_
       exact RL.nil ⟨_, rfl, Ch.refl, rfl⟩
      refine Each.consA ⟨fun _ _ _ _ cc hh => by obtain ⟨p27, o28, z35, e, h36, hg32, hs31⟩ := hh; exact ⟨p27, o28, z35, e, slRep.ch kStr_pos h36 cc, hg32, hs31.ch0 cc⟩, fun h => absurd rfl h, fun O wk hO ck => ?_⟩ ?_
      ·
       have ah0 := slRep.ch k_Candidate_pos ah0 ck
       have ah1 := slRep.ch k_Candidate_pos ah1 ck
       have c14 := c14.then0 ck
       refine Need.one rfl rfl ?_
       rintro _ e52
       obtain rfl := e52.symm
       refine Need.one rfl rfl ?_
       rintro _ e53
       obtain rfl := e53.symm
       refine rl_ixR rfl ah1 rfl (ixO_nat hy34) Try.underlying36 Try.sizeOf40 rfl ?_
       intro p54 o55 cs56 hr57 hs58 hg59
       obtain ⟨z60, rfl, h61⟩ := hr57
       exact RL.nil ⟨_, rfl, Ch.refl, ⟨p54, o55, z60, rfl, h61, hg59, hs58⟩⟩
      refine Each.consA ⟨fun _ _ _ _ cc hh => by obtain ⟨z35_7, e, h36_7⟩ := hh; exact ⟨z35_7, e, slRep.ch kStr_pos h36_7 cc⟩, fun h => absurd rfl h, fun O wk hO ck => ?_⟩ ?_
      ·
       have ah0 := slRep.ch k_Candidate_pos ah0 ck
       have ah1 := slRep.ch k_Candidate_pos ah1 ck
       have c14 := c14.then0 ck
       refine Need.one rfl rfl ?_
       rintro _ ⟨p27, o28, z35, e62, h36, hg32, hs31⟩
       obtain rfl := e62.symm
       refine rl_loadA (cs := (Candidate.c y33 z35)) rfl Try.isAgg40 Try.sizeOf40 (hs31) rfl rfl ?_
       exact RL.nil ⟨_, rfl, Ch.refl, ⟨z35, rfl, h36⟩⟩
      trivial
     ·
      intro O65 w63 hO66 c64
      have ah0 := slRep.ch k_Candidate_pos ah0 c64
      have ah1 := slRep.ch k_Candidate_pos ah1 c64
      have c14 := c14.then0 c64
      refine Need.one rfl rfl ?_
      rintro _ ⟨z25_3, e67, h26_3⟩
      obtain rfl := e67.symm
      refine Need.one rfl rfl ?_
      rintro _ ⟨z35_7, e68, h36_7⟩
      obtain rfl := e68.symm
      refine rl_callF rfl en13 rfl (ctr13 (G F w.heap.size nb) w63 x11 z25_3 h26_3 y33 z35_7 h36_7 y39 hy40) ?_
      rintro _ w69 ⟨rfl, c70⟩
      have ah0 := slRep.ch k_Candidate_pos ah0 c70
      have ah1 := slRep.ch k_Candidate_pos ah1 c70
      have h26_3 := slRep.ch kStr_pos h26_3 c70
      have h36_7 := slRep.ch kStr_pos h36_7 c70
      have c14 := c14.then0 c70
      refine rl_not rfl rfl ?_
      refine RL.nil ?_
      refine thn_n ?_
      refine CW.cond (t := !y39) rfl (fun q71 => ?_) (fun q71 => ?_)
      ·
       have hb8 := ifT q71 hb8
       refine CW.seq (CW.region ?_)
       refine rl_assign rfl rfl ?_
       refine RL.nil ?_
       refine thn_n ?_
       refine CW.ret ?_
       refine inB_ret ?_
       refine thn_ret ?_
       refine thn_ret (inB_ret (thn_ret ?_))
       refine thn_ret ?_
       have f72 := runBO_ret hL4 hq7 hb8
       have hS := retS f72 hS
       obtain rfl := Option.some.inj hS
       exact ret1 rfl ⟨rfl, c14⟩
      ·
       have hb8 := ifF q71 hb8
       refine CW.skip ?_
       refine inB_n ?_
       refine thn_n ?_
       refine CW.region ?_
       refine rl_inc rfl hat5.lt ah0.big rfl ?_
       refine rl_move rfl rfl ?_
       refine RL.nil ?_
       refine thn_n ?_
       have hLn := runBO_next hL4 hq7 hb8
       exact ⟨rest18.length, Nat.lt_succ_self _, [(0, av0), (1, av1), (12, (Value.int .i64 ((a0.length : Nat) : Int))), (13, (Value.int .i64 ((i3 + 1 : Nat) : Int)))], ⟨rfl, rfl, rfl, rfl, trivial⟩, ⟨rest18, i3 + 1, rfl, rfl, c14, hat5.next, hLn, ah0, ah1⟩⟩
    ·
     obtain rfl := hat5.nil q17
     have hLf : Lp.fin i3 = o9 := runBO_done hL4
     refine CW.exit (thn_exit (thn_exit (inB_hit ?_)))
     exact ⟨i3, trivial, c14, hLf, ah0, ah1⟩
   ·
    rintro _ w74 ⟨ix16, hE75, c73, f76, ah0, ah1⟩
    have hS := finS f76 hS
    refine thn_n (CW.sub [] hE75 ?_)
    refine CW.seq (CW.region ?_)
    refine rl_assign rfl rfl ?_
    refine RL.nil ?_
    refine thn_n ?_
    refine CW.ret ?_
    obtain rfl := Option.some.inj hS
    exact ret1 rfl ⟨rfl, c73⟩
/-- lb/lbref18.Zones -/
theorem ctr19 (F : Nat → Prop) (w : World) (a0 : (List Candidate)) (av0 : Value) (ah0 : slRep k_Candidate F w a0 av0) (r : (List ByteArray)) (hs : F19_linkboyref18_Zones a0 = some r) :
    Ret Try.prog 19 #[av0] w fun v w' => ∃ y0 : Value, v = y0 ∧ SlO kStr 9 F w.heap.size (inBlk y0) w' r y0 ∧ Ch nb w w' := by
  have hS := hs
  have c0 : Ch nb w w := Ch.refl
  have ah0 := slRep.enter k_Candidate_pos ah0
  refine Ret.of (n := 67) (args := [_]) (rs := [.tmp 2]) Try.func19 rfl rfl rfl rfl ?_
  refine CW.seq (CW.region ?_)
  refine rl_assign rfl rfl ?_
  refine RL.nil ?_
  refine thn_n ?_
  refine CW.seq (CW.region ?_)
  refine rl_bslice (k := kStr) (F := F) (B := w.heap.size) (S := nb) ([] : List ByteArray) rfl kStr_pos Try.underlying30 Try.sizeOf9 Try.zeroValue9 rfl rfl trivial c0.size nbS rfl ?_
  intro v1 w2 c3 hf4 h5
  have ah0 := slRep.st k_Candidate_pos ah0 c3 (admNew hf4 (fun _ x => x))
  have c0 := c0.then0 c3
  refine rl_assign rfl rfl ?_
  refine RL.nil ?_
  refine thn_n ?_
  refine CW.seq ?_
  refine CW.seq (CW.region ?_)
  refine rl_move rfl rfl ?_
  refine rl_lenR rfl ah0 Try.underlying36 rfl ?_
  refine rl_move rfl rfl ?_
  refine RL.nil ?_
  refine thn_n ?_
  obtain ⟨o16, ho17, hS⟩ := bindS hS
  refine CW.cutB (fun E' w' => ∃ (x6 : (List ByteArray)) (v7 : Value), Sub [(3, v7)] E' ∧ Ch nb w w' ∧ x6 = o16 ∧ slRep k_Candidate (G F w.heap.size (un (inBlk v7) nb)) w' a0 av0 ∧ SlO kStr 9 F w.heap.size (un (inBlk v7) nb) w' x6 v7) ?_ ?_
  ·
   refine CW.loopS [(10, av0), (11, (Value.int .i64 ((a0.length : Nat) : Int))), (3, v1), (12, (Value.int .i64 ((0 : Nat) : Int)))] ⟨rfl, rfl, rfl, rfl, trivial⟩ a0.length (fun m E w' => ∃ (rest9 : List Candidate) (i10 : Nat) (x6 : (List ByteArray)) (v7 : Value), m = rest9.length ∧ E = [(10, av0), (11, (Value.int .i64 ((a0.length : Nat) : Int))), (3, v7), (12, (Value.int .i64 ((i10 : Nat) : Int)))] ∧ Ch nb w w' ∧ At a0 i10 rest9 ∧ runAO F19_linkboyref18_Zones_b1 rest9 x6 = some o16 ∧ slRep k_Candidate (G F w.heap.size (un (inBlk v7) nb)) w' a0 av0 ∧ SlO kStr 9 F w.heap.size (un (inBlk v7) nb) w' x6 v7)
       ⟨a0, 0, [], v1, rfl, rfl, c0, At.start, ho17, ah0, h5⟩ ?_
   rintro _ _ w22 ⟨rest9, i10, x6, v7, rfl, rfl, c21, hat12, hL11, ah0, h8⟩
   refine CW.seq (CW.region ?_)
   refine rl_bin rfl rfl B.lss rfl ?_
   refine RL.nil (thn_n ?_)
   refine CW.seq ?_
   refine CW.cond (t := decide (((i10 : Nat) : Int) < ((a0.length : Nat) : Int))) rfl (fun q24 => ?_) (fun q24 => ?_)
   ·
    obtain ⟨x18, rest25, rfl⟩ := hat12.cons q24
    obtain ⟨q13, hq14⟩ := runAO_some hL11
    have hb15 := hq14
    refine CW.skip (thn_n ?_)
    refine CW.seq ?_
    refine CW.block ?_
    refine CW.seq (CW.region ?_)
    refine rl_ixR rfl ah0 rfl hat12.get Try.underlying36 Try.sizeOf40 rfl ?_
    intro p26 o27 cs28 hr29 hs30 hg31
    obtain ⟨z32, rfl, h33⟩ := hr29
    refine rl_loadA (cs := (Candidate.c x18 z32)) rfl Try.isAgg40 Try.sizeOf40 (hs30) rfl rfl ?_
    refine rl_alloc (Candidate.c Candidate.z (Value.slice none 0 0)) Try.zeroValue40 rfl rfl ?_
    intro p34 w35 n36 k37
    have lop34 := n36.lo c21.size
    have d38 : ∀ b, inBlk (Value.pointer (some ⟨p34, 0, none⟩)) b → ¬ inBlk v7 b := disNew n36.fresh (fun b hb => (h8.lt b hb).2)
    have ah0 := slRep.st k_Candidate_pos ah0 n36.ch (admNew n36.fresh (fun _ x => x))
    have h8 := h8.st n36.ch (fun _ _ x => x) (admNew n36.fresh (fun _ x => x)) (fun b h => (.inr (.inl h)))
    have h33 := slRep.st kStr_pos h33 n36.ch (admNew n36.fresh (fun _ x => x))
    have c21 := c21.then0 n36.ch
    refine rl_storeA (vs := (Candidate.c x18 z32)) rfl rfl (Kd.one _ (show k_Candidate.rep (G F w.heap.size (un (inBlk (Value.pointer (some ⟨p34, 0, none⟩))) (un (inBlk v7) nb))) w35 x18 (Candidate.c x18 z32) from ⟨z32, rfl, h33⟩)) Try.sizeOf40 rfl k37 rfl ?_
    intro w39 s41 c40 k42
    have ad43 : ∀ b, b < w35.heap.size → ¬ (un (inBlk (Value.pointer (some ⟨p34, 0, none⟩))) (un (inBlk v7) nb)) b → ¬ inBlk (Value.pointer (some ⟨p34, 0, none⟩)) b ∧ ¬ (un (inBlk (Value.pointer (some ⟨p34, 0, none⟩))) (un (inBlk v7) nb)) b := fun b _ hs => ⟨fun h => hs (.inl h), hs⟩
    have ah0 := slRep.st k_Candidate_pos ah0 c40 ad43
    have h8 := h8.st c40 (disSym d38) ad43 (fun b h => (.inr (.inl h)))
    have h33 := slRep.st kStr_pos h33 c40 ad43
    have c21 := c21.then c40 (fun i hi h => absurd (lop34 i h) (Nat.not_le_of_lt hi))
    refine RL.nil ?_
    refine thn_n ?_
    refine CW.seq ?_
    refine CW.seq (CW.region ?_)
    refine rl_fieldAddr rfl fa40_2 rfl ?_
    refine rl_loadS (v := (Value.bool x18.ready)) rfl Try.isAgg4 (k42.cell rfl) rfl ?_
    refine rl_not rfl rfl ?_
    refine RL.nil ?_
    refine thn_n ?_
    refine CW.cond (t := !x18.ready) rfl (fun q44 => ?_) (fun q44 => ?_)
    ·
     have hb15 := ifT q44 hb15
     refine CW.exit ?_
     refine thn_exit ?_
     refine inB_hit ?_
     refine thn_n ?_
     refine CW.region ?_
     refine rl_inc rfl hat12.lt ah0.big rfl ?_
     refine rl_move rfl rfl ?_
     refine RL.nil ?_
     refine thn_n ?_
     have crf : Ch nb w39 w39 := Ch.refl
     have ah0 := slRep.st k_Candidate_pos ah0 crf (show ∀ b, b < w39.heap.size → ¬ (un (inBlk (Value.pointer (some ⟨p34, 0, none⟩))) (un (inBlk v7) nb)) b → ¬ nb b ∧ ¬ (un (inBlk v7) nb) b from fun b _ hs => ⟨fun x => x, fun h => hs (un_el h (fun h => (.inr (.inl h))) (fun h => False.elim h))⟩)
     have h8 := h8.st crf (fun _ _ x => x) (show ∀ b, b < w39.heap.size → ¬ (un (inBlk (Value.pointer (some ⟨p34, 0, none⟩))) (un (inBlk v7) nb)) b → ¬ nb b ∧ ¬ (un (inBlk v7) nb) b from fun b _ hs => ⟨fun x => x, fun h => hs (un_el h (fun h => (.inr (.inl h))) (fun h => False.elim h))⟩) (fun b h => (.inl h))
     have h33 := slRep.st kStr_pos h33 crf (show ∀ b, b < w39.heap.size → ¬ (un (inBlk (Value.pointer (some ⟨p34, 0, none⟩))) (un (inBlk v7) nb)) b → ¬ nb b ∧ ¬ (un (inBlk v7) nb) b from fun b _ hs => ⟨fun x => x, fun h => hs (un_el h (fun h => (.inr (.inl h))) (fun h => False.elim h))⟩)
     have c21 := c21.then0 crf
     have hLn := runAO_next hL11 hq14 hb15
     exact ⟨rest25.length, Nat.lt_succ_self _, [(10, av0), (11, (Value.int .i64 ((a0.length : Nat) : Int))), (3, v7), (12, (Value.int .i64 ((i10 + 1 : Nat) : Int)))], ⟨rfl, rfl, rfl, rfl, trivial⟩, ⟨rest25, i10 + 1, x6, v7, rfl, rfl, c21, hat12.next, hLn, ah0, h8⟩⟩
    ·
     have hb15 := ifF q44 hb15
     refine CW.skip ?_
     refine thn_n ?_
     refine CW.seq (CW.region ?_)
     refine rl_fieldAddr rfl fa40_5 rfl ?_
     refine rl_loadS (v := z32) rfl Try.isAgg30 (k42.cell rfl) rfl ?_
     refine rl_lenR rfl h33 Try.underlying30 rfl ?_
     refine rl_move rfl rfl ?_
     refine RL.nil ?_
     refine thn_n ?_
     obtain ⟨o56, ho57, hb15⟩ := bindS hb15
     refine CW.cutB (fun E' w' => ∃ (x45 : (List ByteArray)) (v46 : Value), Sub [(10, av0), (11, (Value.int .i64 ((a0.length : Nat) : Int))), (12, (Value.int .i64 ((i10 : Nat) : Int))), (3, v46)] E' ∧ Ch nb w w' ∧ x45 = o56 ∧ slRep k_Candidate (G F w.heap.size (un (inBlk (Value.pointer (some ⟨p34, 0, none⟩))) (un (inBlk v46) nb))) w' a0 av0 ∧ slRep kStr (G F w.heap.size (un (inBlk (Value.pointer (some ⟨p34, 0, none⟩))) (un (inBlk v46) nb))) w' x18.zones z32 ∧ Blk w' p34 40 (Candidate.c x18 z32) ∧ SlO kStr 9 F w.heap.size (un (inBlk (Value.pointer (some ⟨p34, 0, none⟩))) (un (inBlk v46) nb)) w' x45 v46 ∧ ∀ b, inBlk (Value.pointer (some ⟨p34, 0, none⟩)) b → ¬ inBlk v46 b) ?_ ?_
     ·
      refine CW.loopS [(10, av0), (11, (Value.int .i64 ((a0.length : Nat) : Int))), (12, (Value.int .i64 ((i10 : Nat) : Int))), (20, z32), (21, (Value.int .i64 ((x18.zones.length : Nat) : Int))), (3, v7), (22, (Value.int .i64 ((0 : Nat) : Int)))] ⟨rfl, rfl, rfl, rfl, rfl, rfl, rfl, trivial⟩ x18.zones.length (fun m E w' => ∃ (rest49 : List ByteArray) (i50 : Nat) (x45 : (List ByteArray)) (v46 : Value), m = rest49.length ∧ E = [(10, av0), (11, (Value.int .i64 ((a0.length : Nat) : Int))), (12, (Value.int .i64 ((i10 : Nat) : Int))), (20, z32), (21, (Value.int .i64 ((x18.zones.length : Nat) : Int))), (3, v46), (22, (Value.int .i64 ((i50 : Nat) : Int)))] ∧ Ch nb w w' ∧ At x18.zones i50 rest49 ∧ runAO F19_linkboyref18_Zones_b2 rest49 x45 = some o56 ∧ slRep k_Candidate (G F w.heap.size (un (inBlk (Value.pointer (some ⟨p34, 0, none⟩))) (un (inBlk v46) nb))) w' a0 av0 ∧ slRep kStr (G F w.heap.size (un (inBlk (Value.pointer (some ⟨p34, 0, none⟩))) (un (inBlk v46) nb))) w' x18.zones z32 ∧ Blk w' p34 40 (Candidate.c x18 z32) ∧ SlO kStr 9 F w.heap.size (un (inBlk (Value.pointer (some ⟨p34, 0, none⟩))) (un (inBlk v46) nb)) w' x45 v46 ∧ ∀ b, inBlk (Value.pointer (some ⟨p34, 0, none⟩)) b → ¬ inBlk v46 b)
          ⟨x18.zones, 0, x6, v7, rfl, rfl, c21, At.start, ho57, ah0, h33, k42, h8, d38⟩ ?_
      rintro _ _ w62 ⟨rest49, i50, x45, v46, rfl, rfl, c61, hat52, hL51, ah0, h33, k42, h47, d48⟩
      refine CW.seq (CW.region ?_)
      refine rl_bin rfl rfl B.lss rfl ?_
      refine RL.nil (thn_n ?_)
      refine CW.seq ?_
      refine CW.cond (t := decide (((i50 : Nat) : Int) < ((x18.zones.length : Nat) : Int))) rfl (fun q64 => ?_) (fun q64 => ?_)
      ·
       obtain ⟨x58, rest65, rfl⟩ := hat52.cons q64
       obtain ⟨q53, hq54⟩ := runAO_some hL51
       have hb55 := hq54
       refine CW.skip (thn_n ?_)
       refine CW.seq ?_
       refine CW.block ?_
       refine CW.seq (CW.region ?_)
       refine rl_ixR rfl h33 rfl hat52.get Try.underlying30 Try.sizeOf9 rfl ?_
       intro p66 o67 cs68 hr69 hs70 hg71
       obtain rfl := hr69
       refine rl_loadS (v := (Value.string x58)) rfl Try.isAgg9 (hs70 0 _ rfl) rfl ?_
       refine rl_assign rfl rfl ?_
       refine RL.nil ?_
       refine thn_n ?_
       refine CW.seq (CW.region ?_)
       refine rl_move rfl rfl ?_
       refine rl_lenR rfl (SlO.read (S' := (un (inBlk (Value.pointer (some ⟨p34, 0, none⟩))) nb)) kStr_pos h47 (fun b hs h => hs (un_el h (fun h => (.inl h)) (fun h => False.elim h))) (fun b hb => fun h => un_el h (fun h => (disSym d48) b hb h) (fun h => h))) Try.underlying30 rfl ?_
       refine rl_assign rfl rfl ?_
       refine RL.nil ?_
       refine thn_n ?_
       refine CW.seq ?_
       obtain ⟨o81, ho82, hb55⟩ := bindS hb55
       refine CW.cutB (fun E' w' => ∃ (x72 : Int), Sub [(3, v46), (7, (Value.string x58)), (10, av0), (11, (Value.int .i64 ((a0.length : Nat) : Int))), (12, (Value.int .i64 ((i10 : Nat) : Int))), (20, z32), (21, (Value.int .i64 ((x18.zones.length : Nat) : Int))), (22, (Value.int .i64 ((i50 : Nat) : Int))), (8, (Value.int .i64 x72))] E' ∧ Ch nb w w' ∧ Lp.fin x72 = o81 ∧ slRep k_Candidate (G F w.heap.size (un (inBlk (Value.pointer (some ⟨p34, 0, none⟩))) (un (inBlk v46) nb))) w' a0 av0 ∧ slRep kStr (G F w.heap.size (un (inBlk (Value.pointer (some ⟨p34, 0, none⟩))) (un (inBlk v46) nb))) w' x18.zones z32 ∧ Blk w' p34 40 (Candidate.c x18 z32) ∧ SlO kStr 9 F w.heap.size (un (inBlk (Value.pointer (some ⟨p34, 0, none⟩))) (un (inBlk v46) nb)) w' x45 v46 ∧ (G F w.heap.size (un (inBlk (Value.pointer (some ⟨p34, 0, none⟩))) (un (inBlk v46) nb))) p66 ∧ Seg w' p66 o67 [(Value.string x58)] ∧ ∀ b, inBlk (Value.pointer (some ⟨p34, 0, none⟩)) b → ¬ inBlk v46 b) ?_ ?_
       ·
        refine CW.loopS [(3, v46), (7, (Value.string x58)), (10, av0), (11, (Value.int .i64 ((a0.length : Nat) : Int))), (12, (Value.int .i64 ((i10 : Nat) : Int))), (20, z32), (21, (Value.int .i64 ((x18.zones.length : Nat) : Int))), (22, (Value.int .i64 ((i50 : Nat) : Int))), (8, (Value.int .i64 ((x45.length : Nat) : Int)))] ⟨rfl, rfl, rfl, rfl, rfl, rfl, rfl, rfl, rfl, trivial⟩ FUEL (fun m E w' => ∃ (x72 : Int), E = [(3, v46), (7, (Value.string x58)), (10, av0), (11, (Value.int .i64 ((a0.length : Nat) : Int))), (12, (Value.int .i64 ((i10 : Nat) : Int))), (20, z32), (21, (Value.int .i64 ((x18.zones.length : Nat) : Int))), (22, (Value.int .i64 ((i50 : Nat) : Int))), (8, (Value.int .i64 x72))] ∧ Ch nb w w' ∧ runW (F19_linkboyref18_Zones_b3 x45 x58) m x72 = some o81 ∧ slRep k_Candidate (G F w.heap.size (un (inBlk (Value.pointer (some ⟨p34, 0, none⟩))) (un (inBlk v46) nb))) w' a0 av0 ∧ slRep kStr (G F w.heap.size (un (inBlk (Value.pointer (some ⟨p34, 0, none⟩))) (un (inBlk v46) nb))) w' x18.zones z32 ∧ Blk w' p34 40 (Candidate.c x18 z32) ∧ SlO kStr 9 F w.heap.size (un (inBlk (Value.pointer (some ⟨p34, 0, none⟩))) (un (inBlk v46) nb)) w' x45 v46 ∧ (G F w.heap.size (un (inBlk (Value.pointer (some ⟨p34, 0, none⟩))) (un (inBlk v46) nb))) p66 ∧ Seg w' p66 o67 [(Value.string x58)] ∧ ∀ b, inBlk (Value.pointer (some ⟨p34, 0, none⟩)) b → ¬ inBlk v46 b)
            ⟨((x45.length : Nat) : Int), rfl, c61, ho82, ah0, h33, k42, h47, hg71, hs70, d48⟩ ?_
        rintro _ _ w87 ⟨x72, rfl, c86, hL76, ah0, h33, k42, h47, hg71, hs70, d73⟩
        obtain ⟨k85, q78, rfl, hq79⟩ := runW_some hL76
        have hb80 := hq79
        refine CW.seq ?_
        refine CW.seq (CW.region ?_)
        refine rl_move rfl rfl ?_
        refine rl_bin rfl rfl B.gtr rfl ?_
        refine rl_move rfl rfl ?_
        obtain ⟨b91, hb92, hb80⟩ := bindS hb80
        refine RL.join 8 38 (.bool b91) (fun w' => Ch nb w87 w') ?_ ?_
        · rcases Bool.eq_false_or_eq_true (decide (x72 > 0)) with hg90 | hg90
          ·
           have hs89 := andO_t hg90 hb92
           have cs : Ch nb w87 w87 := Ch.refl
           refine RL.yes rfl rfl rfl hg90 ?_
           refine rl_move rfl rfl ?_
           refine RL.yes rfl rfl rfl hg90 ?_
           refine rl_move rfl rfl ?_
           refine RL.yes rfl rfl rfl hg90 ?_
           refine rl_move rfl rfl ?_
           refine RL.yes rfl rfl rfl hg90 ?_
           refine rl_bin rfl rfl B.sub rfl ?_
           refine RL.yes rfl rfl rfl hg90 ?_
           obtain ⟨y100, hy101, hs89⟩ := bindS hs89
           refine rl_ixOR rfl h47 rfl (ixO_get hy101) kStr_pos Try.underlying30 Try.sizeOf9 rfl ?_
           intro p94 o95 cs96 hr97 hs98 hg99
           obtain rfl := hr97
           refine RL.yes rfl rfl rfl hg90 ?_
           refine rl_loadS (v := (Value.string y100)) rfl Try.isAgg9 (hs98 0 _ rfl) rfl ?_
           refine RL.yes rfl rfl rfl hg90 ?_
           refine rl_bin rfl rfl B.lssS rfl ?_
           refine rl_pickT rfl hg90 rfl rfl ?_
           exact RL.nil ⟨Ext.bothEq (congrArg Value.bool (Option.some.inj hs89)) (Ext.skip rfl (Ext.skip rfl (Ext.skip rfl (Ext.skip rfl (Ext.skip rfl (Ext.skip rfl (Ext.skip rfl (Ext.rfl')))))))), cs⟩
          ·
           have hs89 := andO_f hg90 hb92
           have cs : Ch nb w87 w87 := Ch.refl
           refine RL.no rfl rfl rfl hg90 rfl rfl ?_
           refine RL.no rfl rfl rfl hg90 rfl rfl ?_
           refine RL.no rfl rfl rfl hg90 rfl rfl ?_
           refine RL.no rfl rfl rfl hg90 rfl rfl ?_
           refine RL.no rfl rfl rfl hg90 rfl rfl ?_
           refine RL.no rfl rfl rfl hg90 rfl rfl ?_
           refine RL.no rfl rfl rfl hg90 rfl rfl ?_
           refine rl_pickF rfl hg90 rfl rfl ?_
           exact RL.nil ⟨Ext.bothEq (congrArg Value.bool (Option.some.inj hs89)) (Ext.skip rfl (Ext.skip rfl (Ext.skip rfl (Ext.skip rfl (Ext.skip rfl (Ext.skip rfl (Ext.skip rfl (Ext.rfl')))))))), cs⟩
        intro w93 c102
        have ah0 := slRep.ch k_Candidate_pos ah0 c102
        have h33 := slRep.ch kStr_pos h33 c102
        have k42 := k42.ch0 c102
        have h47 := h47.ch0 c102
        have hs70 := hs70.ch0 c102
        have c86 := c86.then0 c102
        refine RL.nil ?_
        refine thn_n ?_
        refine CW.cond (t := b91) rfl (fun q103 => ?_) (fun q103 => ?_)
        ·
         have hb80 := ifT q103 hb80
         refine CW.skip ?_
         refine thn_n ?_
         refine CW.block ?_
         refine CW.region ?_
         refine rl_move rfl rfl ?_
         refine rl_bin rfl rfl B.sub rfl ?_
         refine rl_assign rfl rfl ?_
         refine RL.nil ?_
         refine inB_n ?_
         refine thn_n ?_
         have hLn := runW_next hL76 hq79 hb80
         exact ⟨k85, Nat.lt_succ_self _, [(3, v46), (7, (Value.string x58)), (10, av0), (11, (Value.int .i64 ((a0.length : Nat) : Int))), (12, (Value.int .i64 ((i10 : Nat) : Int))), (20, z32), (21, (Value.int .i64 ((x18.zones.length : Nat) : Int))), (22, (Value.int .i64 ((i50 : Nat) : Int))), (8, (Value.int .i64 (IntKind.i64.wrap (x72 - 1))))], ⟨rfl, rfl, rfl, rfl, rfl, rfl, rfl, rfl, rfl, trivial⟩, ⟨IntKind.i64.wrap (x72 - 1), rfl, c86, hLn, ah0, h33, k42, h47, hg71, hs70, d73⟩⟩
        ·
         have hb80 := ifF q103 hb80
         refine CW.exit ?_
         refine thn_exit ?_
         refine thn_exit ?_
         refine inB_hit ?_
         have hLf := runW_fin hL76 hq79 hb80
         exact ⟨x72, ⟨rfl, rfl, rfl, rfl, rfl, rfl, rfl, rfl, rfl, trivial⟩, c86, hLf, ah0, h33, k42, h47, hg71, hs70, d73⟩
       ·
        rintro _ w105 ⟨x72, hE106, c104, f107, ah0, h33, k42, h47, hg71, hs70, d73⟩
        have hb55 := finS f107 hb55
        refine thn_n (CW.sub [(3, v46), (7, (Value.string x58)), (10, av0), (11, (Value.int .i64 ((a0.length : Nat) : Int))), (12, (Value.int .i64 ((i10 : Nat) : Int))), (20, z32), (21, (Value.int .i64 ((x18.zones.length : Nat) : Int))), (22, (Value.int .i64 ((i50 : Nat) : Int))), (8, (Value.int .i64 x72))] hE106 ?_)
        refine CW.seq ?_
        refine CW.seq (CW.region ?_)
        refine rl_move rfl rfl ?_
        refine rl_bin rfl rfl B.gtr rfl ?_
        refine rl_move rfl rfl ?_
        obtain ⟨b111, hb112, hb55⟩ := bindS hb55
        refine RL.join 8 51 (.bool b111) (fun w' => Ch nb w105 w') ?_ ?_
        · rcases Bool.eq_false_or_eq_true (decide (x72 > 0)) with hg110 | hg110
          ·
           have hs109 := andO_t hg110 hb112
           have cs : Ch nb w105 w105 := Ch.refl
           refine RL.yes rfl rfl rfl hg110 ?_
           refine rl_move rfl rfl ?_
           refine RL.yes rfl rfl rfl hg110 ?_
           refine rl_move rfl rfl ?_
           refine RL.yes rfl rfl rfl hg110 ?_
           refine rl_bin rfl rfl B.sub rfl ?_
           refine RL.yes rfl rfl rfl hg110 ?_
           obtain ⟨y120, hy121, hs109⟩ := bindS hs109
           refine rl_ixOR rfl h47 rfl (ixO_get hy121) kStr_pos Try.underlying30 Try.sizeOf9 rfl ?_
           intro p114 o115 cs116 hr117 hs118 hg119
           obtain rfl := hr117
           refine RL.yes rfl rfl rfl hg110 ?_
           refine rl_loadS (v := (Value.string y120)) rfl Try.isAgg9 (hs118 0 _ rfl) rfl ?_
           refine RL.yes rfl rfl rfl hg110 ?_
           refine rl_move rfl rfl ?_
           refine RL.yes rfl rfl rfl hg110 ?_
           refine rl_bin rfl rfl B.eqlS rfl ?_
           refine rl_pickT rfl hg110 rfl rfl ?_
           exact RL.nil ⟨Ext.bothEq (congrArg Value.bool (Option.some.inj hs109)) (Ext.skip rfl (Ext.skip rfl (Ext.skip rfl (Ext.skip rfl (Ext.skip rfl (Ext.skip rfl (Ext.skip rfl (Ext.rfl')))))))), cs⟩
          ·
           have hs109 := andO_f hg110 hb112
           have cs : Ch nb w105 w105 := Ch.refl
           refine RL.no rfl rfl rfl hg110 rfl rfl ?_
           refine RL.no rfl rfl rfl hg110 rfl rfl ?_
           refine RL.no rfl rfl rfl hg110 rfl rfl ?_
           refine RL.no rfl rfl rfl hg110 rfl rfl ?_
           refine RL.no rfl rfl rfl hg110 rfl rfl ?_
           refine RL.no rfl rfl rfl hg110 rfl rfl ?_
           refine RL.no rfl rfl rfl hg110 rfl rfl ?_
           refine rl_pickF rfl hg110 rfl rfl ?_
           exact RL.nil ⟨Ext.bothEq (congrArg Value.bool (Option.some.inj hs109)) (Ext.skip rfl (Ext.skip rfl (Ext.skip rfl (Ext.skip rfl (Ext.skip rfl (Ext.skip rfl (Ext.skip rfl (Ext.rfl')))))))), cs⟩
        intro w113 c122
        have ah0 := slRep.ch k_Candidate_pos ah0 c122
        have h33 := slRep.ch kStr_pos h33 c122
        have k42 := k42.ch0 c122
        have h47 := h47.ch0 c122
        have hs70 := hs70.ch0 c122
        have c104 := c104.then0 c122
        refine RL.nil ?_
        refine thn_n ?_
        refine CW.cond (t := b111) rfl (fun q123 => ?_) (fun q123 => ?_)
        ·
         have hb55 := ifT q123 hb55
         refine CW.exit ?_
         refine thn_exit ?_
         refine inB_hit ?_
         refine thn_n ?_
         refine CW.region ?_
         refine rl_inc rfl hat52.lt h33.big rfl ?_
         refine rl_move rfl rfl ?_
         refine RL.nil ?_
         refine thn_n ?_
         have hLn := runAO_next hL51 hq54 hb55
         exact ⟨rest65.length, Nat.lt_succ_self _, [(10, av0), (11, (Value.int .i64 ((a0.length : Nat) : Int))), (12, (Value.int .i64 ((i10 : Nat) : Int))), (20, z32), (21, (Value.int .i64 ((x18.zones.length : Nat) : Int))), (3, v46), (22, (Value.int .i64 ((i50 + 1 : Nat) : Int)))], ⟨rfl, rfl, rfl, rfl, rfl, rfl, rfl, trivial⟩, ⟨rest65, i50 + 1, x45, v46, rfl, rfl, c104, hat52.next, hLn, ah0, h33, k42, h47, d73⟩⟩
        ·
         have hb55 := ifF q123 hb55
         refine CW.skip ?_
         refine thn_n ?_
         have h47 := SlO.read (S' := (un (inBlk (Value.pointer (some ⟨p34, 0, none⟩))) nb)) kStr_pos h47 (fun b hs h => hs (un_el h (fun h => (.inl h)) (fun h => False.elim h))) (fun b hb => fun h => un_el h (fun h => (disSym d73) b hb h) (fun h => h))
         have crf : Ch nb w113 w113 := Ch.refl
         have ah0 := slRep.st k_Candidate_pos ah0 crf (show ∀ b, b < w113.heap.size → ¬ (un (inBlk (Value.pointer (some ⟨p34, 0, none⟩))) (un (inBlk v46) nb)) b → ¬ nb b ∧ ¬ (un (inBlk (Value.pointer (some ⟨p34, 0, none⟩))) nb) b from fun b _ hs => ⟨fun x => x, fun h => hs (un_el h (fun h => (.inl h)) (fun h => False.elim h))⟩)
         have h33 := slRep.st kStr_pos h33 crf (show ∀ b, b < w113.heap.size → ¬ (un (inBlk (Value.pointer (some ⟨p34, 0, none⟩))) (un (inBlk v46) nb)) b → ¬ nb b ∧ ¬ (un (inBlk (Value.pointer (some ⟨p34, 0, none⟩))) nb) b from fun b _ hs => ⟨fun x => x, fun h => hs (un_el h (fun h => (.inl h)) (fun h => False.elim h))⟩)
         have k42 := k42.ch0 crf
         have c104 := c104.then0 crf
         obtain ⟨y130, hy131, hb55⟩ := bindS hb55
         obtain ⟨z142, hz143, hb55⟩ := bindS hb55
         obtain ⟨z158, hz159, hb55⟩ := bindS hb55
         obtain ⟨y161, hy162, hb55⟩ := bindS hb55
         obtain ⟨z173, hz174, hb55⟩ := bindS hb55
         refine CW.draw 11 [(true, fun O uu wx => ∃ v124 : Value, uu = v124 ∧ O = inBlk v124 ∧ SlO kStr 9 F w.heap.size (un (inBlk v124) (un (inBlk (Value.pointer (some ⟨p34, 0, none⟩))) nb)) wx [] v124), (false, fun O uu wx => uu = v46), (false, fun O uu wx => uu = (Value.int .i64 x72)), (false, fun O uu wx => ∃ (v132 : Value), uu = v132 ∧ slRep kStr (G F w.heap.size (un O (un (inBlk (Value.pointer (some ⟨p34, 0, none⟩))) nb))) wx y130 v132), (true, fun O uu wx => ∃ v136 : Value, uu = v136 ∧ O = inBlk v136 ∧ SlO kStr 9 F w.heap.size (un (inBlk v136) (un (inBlk (Value.pointer (some ⟨p34, 0, none⟩))) nb)) wx ([] ++ y130) v136), (false, fun O uu wx => uu = (Value.string x58)), (false, fun O uu wx => ∃ (v145 : Value), uu = v145 ∧ slRep kStr (G F w.heap.size (un O (un (inBlk (Value.pointer (some ⟨p34, 0, none⟩))) nb))) wx [x58] v145), (true, fun O uu wx => ∃ v152 : Value, uu = v152 ∧ O = inBlk v152 ∧ SlO kStr 9 F w.heap.size (un (inBlk v152) (un (inBlk (Value.pointer (some ⟨p34, 0, none⟩))) nb)) wx (([] ++ y130) ++ [x58]) v152), (false, fun O uu wx => uu = v46), (false, fun O uu wx => uu = (Value.int .i64 x72)), (false, fun O uu wx => ∃ (v163 : Value), uu = v163 ∧ slRep kStr (G F w.heap.size (un O (un (inBlk (Value.pointer (some ⟨p34, 0, none⟩))) nb))) wx y161 v163)] [[], [], [], [1, 2], [0, 3], [], [5], [4, 6], [], [], [8, 9]] [7, 10] mixed rfl rfl rfl rfl ?_ ?_
         ·
          refine Each.consO ⟨fun O _ wx wy cc hh => by obtain ⟨v124, e, rfl, h⟩ := hh; exact ⟨v124, e, rfl, h.ch0 cc⟩, fun O wk hO ck hO0 => ?_⟩ ?_
          ·
           obtain rfl : O = nb := funext fun b => propext ⟨fun h => (hO0 rfl b h).elim, fun h => h.elim⟩
           have ah0 := slRep.ch k_Candidate_pos ah0 ck
           have h33 := slRep.ch kStr_pos h33 ck
           have k42 := k42.ch0 ck
           have h47 := slRep.ch kStr_pos h47 ck
           have c104 := c104.then0 ck
           refine rl_bslice (k := kStr) (F := F) (B := w.heap.size) (S := (un (inBlk (Value.pointer (some ⟨p34, 0, none⟩))) nb)) ([] : List ByteArray) rfl kStr_pos Try.underlying30 Try.sizeOf9 Try.zeroValue9 rfl rfl trivial c104.size (un_lt k42.ltp nbS) rfl ?_
           intro v176 w177 c178 hf179 h180
           have d181 : ∀ b, inBlk v176 b → ¬ inBlk (Value.pointer (some ⟨p34, 0, none⟩)) b := disNew hf179 k42.ltp
           have ah0 := slRep.st k_Candidate_pos ah0 c178 (admNew hf179 (fun _ x => x))
           have h33 := slRep.st kStr_pos h33 c178 (admNew hf179 (fun _ x => x))
           have k42 := k42.ch0 c178
           have h47 := slRep.st kStr_pos h47 c178 (admNew hf179 (fun _ x => x))
           have c104 := c104.then0 c178
           exact RL.nil ⟨_, inBlk v176, rfl, fun b hb => ⟨.inr (hf179 b hb), (h180.lt b hb).2⟩, c178, ⟨v176, rfl, rfl, h180⟩⟩
          refine Each.consA ⟨fun _ _ _ _ _ h => h, fun _ _ _ _ _ _ _ _ _ _ h => h, fun O wk hO ck => ?_⟩ ?_
          ·
           have ah0 := slRep.st k_Candidate_pos ah0 ck (admO (fun b h => (hO b h).1))
           have h33 := slRep.st kStr_pos h33 ck (admO (fun b h => (hO b h).1))
           have k42 := k42.ch0 ck
           have h47 := slRep.st kStr_pos h47 ck (admO (fun b h => (hO b h).1))
           have c104 := c104.then0 ck
           refine rl_move rfl rfl ?_
           exact RL.nil ⟨_, rfl, Ch.refl, rfl⟩
          refine Each.consA ⟨fun _ _ _ _ _ h => h, fun _ _ _ _ _ _ _ _ _ _ h => h, fun O wk hO ck => ?_⟩ ?_
          ·
           have ah0 := slRep.st k_Candidate_pos ah0 ck (admO (fun b h => (hO b h).1))
           have h33 := slRep.st kStr_pos h33 ck (admO (fun b h => (hO b h).1))
           have k42 := k42.ch0 ck
           have h47 := slRep.st kStr_pos h47 ck (admO (fun b h => (hO b h).1))
           have c104 := c104.then0 ck
           refine rl_move rfl rfl ?_
           exact RL.nil ⟨_, rfl, Ch.refl, rfl⟩
          refine Each.consA ⟨fun _ _ _ _ cc hh => by obtain ⟨v132, e, h133⟩ := hh; exact ⟨v132, e, slRep.ch kStr_pos h133 cc⟩, fun _ O O' D _ wx wy hD hO' cc hh => by obtain ⟨v132, e, h133⟩ := hh; have ad := admGh (S := (un (inBlk (Value.pointer (some ⟨p34, 0, none⟩))) nb)) hD hO'; exact ⟨v132, e, slRep.st kStr_pos h133 cc ad⟩, fun O wk hO ck => ?_⟩ ?_
          ·
           have ah0 := slRep.st k_Candidate_pos ah0 ck (admO (fun b h => (hO b h).1))
           have h33 := slRep.st kStr_pos h33 ck (admO (fun b h => (hO b h).1))
           have k42 := k42.ch0 ck
           have h47 := slRep.st kStr_pos h47 ck (admO (fun b h => (hO b h).1))
           have c104 := c104.then0 ck
           refine Need.one rfl rfl ?_
           rintro _ e182
           obtain rfl := e182.symm
           refine Need.one rfl rfl ?_
           rintro _ e183
           obtain rfl := e183.symm
           refine rl_cutR (kl := .i64) (kh := .i64) none (some x72) rfl h47 kStr_pos trivial rfl hy131 Try.underlying30 Try.sizeOf9 rfl ?_
           intro v184 h185
           exact RL.nil ⟨_, rfl, Ch.refl, ⟨v184, rfl, h185⟩⟩
          refine Each.consO ⟨fun O _ wx wy cc hh => by obtain ⟨v136, e, rfl, h⟩ := hh; exact ⟨v136, e, rfl, h.ch0 cc⟩, fun O wk hO ck hO0 => ?_⟩ ?_
          ·
           refine Need.one rfl rfl ?_
           rintro _ ⟨v124, e186, rfl, h187⟩
           obtain rfl := e186.symm
           have hf188 : ∀ b, inBlk v124 b → w113.heap.size ≤ b := fun b h => (hO b h).1
           have d189 : ∀ b, inBlk v124 b → ¬ inBlk (Value.pointer (some ⟨p34, 0, none⟩)) b := disNew hf188 k42.ltp
           have ah0 := slRep.st k_Candidate_pos ah0 ck (admNew hf188 (fun _ x => x))
           have h33 := slRep.st kStr_pos h33 ck (admNew hf188 (fun _ x => x))
           have k42 := k42.ch0 ck
           have h47 := slRep.st kStr_pos h47 ck (admNew hf188 (fun _ x => x))
           have c104 := c104.then0 ck
           refine Need.one rfl rfl ?_
           rintro _ ⟨v132, e190, h133⟩
           obtain rfl := e190.symm
           have hl := (apO_get hz143).1
           refine rl_append (k := kStr) (T := 9) (F := F) (B := w.heap.size) (S := (un (inBlk v124) (un (inBlk (Value.pointer (some ⟨p34, 0, none⟩))) nb))) (S2 := (un (inBlk (Value.pointer (some ⟨p34, 0, none⟩))) nb)) (fun v => (un (inBlk v) (un (inBlk (Value.pointer (some ⟨p34, 0, none⟩))) nb))) rfl rfl kStr_pos ap30 h187 h133 (fun _ => Iff.rfl) (fun _ _ => Iff.rfl) hl c104.size (un_lt (fun b hb => (h187.lt b hb).2) (un_lt k42.ltp nbS)) rfl ?_
           intro v193 w194 h195 c196 hf197 ha198
           have d199 : ∀ b, inBlk v193 b → ¬ inBlk (Value.pointer (some ⟨p34, 0, none⟩)) b := disApp hf197 d189 k42.ltp
           have ah0 := slRep.st k_Candidate_pos ah0 c196 ha198
           have h33 := slRep.st kStr_pos h33 c196 ha198
           have k42 := k42.ch c196 ((disSym d189) _ rfl)
           have h47 := slRep.st kStr_pos h47 c196 ha198
           have h133 := slRep.st kStr_pos h133 c196 ha198
           have c104 := c104.then c196 (fun i hi h => absurd ((fun b hb => (h187.lt b hb).1) i h) (Nat.not_le_of_lt hi))
           exact RL.nil ⟨_, inBlk v193, rfl, fun b hb => ⟨hf197 b hb, (h195.lt b hb).2⟩, c196, ⟨v193, rfl, rfl, h195⟩⟩
          refine Each.consA ⟨fun _ _ _ _ _ h => h, fun _ _ _ _ _ _ _ _ _ _ h => h, fun O wk hO ck => ?_⟩ ?_
          ·
           have ah0 := slRep.st k_Candidate_pos ah0 ck (admO (fun b h => (hO b h).1))
           have h33 := slRep.st kStr_pos h33 ck (admO (fun b h => (hO b h).1))
           have k42 := k42.ch0 ck
           have h47 := slRep.st kStr_pos h47 ck (admO (fun b h => (hO b h).1))
           have c104 := c104.then0 ck
           refine rl_move rfl rfl ?_
           exact RL.nil ⟨_, rfl, Ch.refl, rfl⟩
          refine Each.consA ⟨fun _ _ _ _ cc hh => by obtain ⟨v145, e, h149⟩ := hh; exact ⟨v145, e, slRep.ch kStr_pos h149 cc⟩, fun _ O O' D _ wx wy hD hO' cc hh => by obtain ⟨v145, e, h149⟩ := hh; have ad := admGh (S := (un (inBlk (Value.pointer (some ⟨p34, 0, none⟩))) nb)) hD hO'; exact ⟨v145, e, slRep.st kStr_pos h149 cc ad⟩, fun O wk hO ck => ?_⟩ ?_
          ·
           have ah0 := slRep.st k_Candidate_pos ah0 ck (admO (fun b h => (hO b h).1))
           have h33 := slRep.st kStr_pos h33 ck (admO (fun b h => (hO b h).1))
           have k42 := k42.ch0 ck
           have h47 := slRep.st kStr_pos h47 ck (admO (fun b h => (hO b h).1))
           have c104 := c104.then0 ck
           refine Need.one rfl rfl ?_
           rintro _ e200
           obtain rfl := e200.symm
           refine rl_bslice (k := kStr) (F := F) (B := w.heap.size) (S := (un O (un (inBlk (Value.pointer (some ⟨p34, 0, none⟩))) nb))) ([x58] : List ByteArray) rfl kStr_pos Try.underlying30 Try.sizeOf9 Try.zeroValue9 rfl rfl ⟨rfl, rfl, trivial⟩ c104.size (un_lt (fun b h => (hO b h).2) (un_lt k42.ltp nbS)) rfl ?_
           intro v201 w202 c203 hf204 h205
           have h205 := h205.readNew kStr_pos hf204 (un_lt (fun b h => (hO b h).2) (un_lt k42.ltp nbS))
           have ah0 := slRep.ch k_Candidate_pos ah0 c203
           have h33 := slRep.ch kStr_pos h33 c203
           have k42 := k42.ch0 c203
           have h47 := slRep.ch kStr_pos h47 c203
           have c104 := c104.then0 c203
           exact RL.nil ⟨_, rfl, c203, ⟨v201, rfl, h205⟩⟩
          refine Each.consO ⟨fun O _ wx wy cc hh => by obtain ⟨v152, e, rfl, h⟩ := hh; exact ⟨v152, e, rfl, h.ch0 cc⟩, fun O wk hO ck hO0 => ?_⟩ ?_
          ·
           refine Need.one rfl rfl ?_
           rintro _ ⟨v136, e206, rfl, h207⟩
           obtain rfl := e206.symm
           have hf208 : ∀ b, inBlk v136 b → w113.heap.size ≤ b := fun b h => (hO b h).1
           have d209 : ∀ b, inBlk v136 b → ¬ inBlk (Value.pointer (some ⟨p34, 0, none⟩)) b := disNew hf208 k42.ltp
           have ah0 := slRep.st k_Candidate_pos ah0 ck (admNew hf208 (fun _ x => x))
           have h33 := slRep.st kStr_pos h33 ck (admNew hf208 (fun _ x => x))
           have k42 := k42.ch0 ck
           have h47 := slRep.st kStr_pos h47 ck (admNew hf208 (fun _ x => x))
           have c104 := c104.then0 ck
           refine Need.one rfl rfl ?_
           rintro _ ⟨v145, e210, h149⟩
           obtain rfl := e210.symm
           have hl := (apO_get hz159).1
           refine rl_append (k := kStr) (T := 9) (F := F) (B := w.heap.size) (S := (un (inBlk v136) (un (inBlk (Value.pointer (some ⟨p34, 0, none⟩))) nb))) (S2 := (un (inBlk (Value.pointer (some ⟨p34, 0, none⟩))) nb)) (fun v => (un (inBlk v) (un (inBlk (Value.pointer (some ⟨p34, 0, none⟩))) nb))) rfl rfl kStr_pos ap30 h207 h149 (fun _ => Iff.rfl) (fun _ _ => Iff.rfl) hl c104.size (un_lt (fun b hb => (h207.lt b hb).2) (un_lt k42.ltp nbS)) rfl ?_
           intro v213 w214 h215 c216 hf217 ha218
           have d219 : ∀ b, inBlk v213 b → ¬ inBlk (Value.pointer (some ⟨p34, 0, none⟩)) b := disApp hf217 d209 k42.ltp
           have ah0 := slRep.st k_Candidate_pos ah0 c216 ha218
           have h33 := slRep.st kStr_pos h33 c216 ha218
           have k42 := k42.ch c216 ((disSym d209) _ rfl)
           have h47 := slRep.st kStr_pos h47 c216 ha218
           have h149 := slRep.st kStr_pos h149 c216 ha218
           have c104 := c104.then c216 (fun i hi h => absurd ((fun b hb => (h207.lt b hb).1) i h) (Nat.not_le_of_lt hi))
           exact RL.nil ⟨_, inBlk v213, rfl, fun b hb => ⟨hf217 b hb, (h215.lt b hb).2⟩, c216, ⟨v213, rfl, rfl, h215⟩⟩
          refine Each.consA ⟨fun _ _ _ _ _ h => h, fun _ _ _ _ _ _ _ _ _ _ h => h, fun O wk hO ck => ?_⟩ ?_
          ·
           have ah0 := slRep.st k_Candidate_pos ah0 ck (admO (fun b h => (hO b h).1))
           have h33 := slRep.st kStr_pos h33 ck (admO (fun b h => (hO b h).1))
           have k42 := k42.ch0 ck
           have h47 := slRep.st kStr_pos h47 ck (admO (fun b h => (hO b h).1))
           have c104 := c104.then0 ck
           refine rl_move rfl rfl ?_
           exact RL.nil ⟨_, rfl, Ch.refl, rfl⟩
          refine Each.consA ⟨fun _ _ _ _ _ h => h, fun _ _ _ _ _ _ _ _ _ _ h => h, fun O wk hO ck => ?_⟩ ?_
          ·
           have ah0 := slRep.st k_Candidate_pos ah0 ck (admO (fun b h => (hO b h).1))
           have h33 := slRep.st kStr_pos h33 ck (admO (fun b h => (hO b h).1))
           have k42 := k42.ch0 ck
           have h47 := slRep.st kStr_pos h47 ck (admO (fun b h => (hO b h).1))
           have c104 := c104.then0 ck
           refine rl_move rfl rfl ?_
           exact RL.nil ⟨_, rfl, Ch.refl, rfl⟩
          refine Each.consA ⟨fun _ _ _ _ cc hh => by obtain ⟨v163, e, h164⟩ := hh; exact ⟨v163, e, slRep.ch kStr_pos h164 cc⟩, fun _ O O' D _ wx wy hD hO' cc hh => by obtain ⟨v163, e, h164⟩ := hh; have ad := admGh (S := (un (inBlk (Value.pointer (some ⟨p34, 0, none⟩))) nb)) hD hO'; exact ⟨v163, e, slRep.st kStr_pos h164 cc ad⟩, fun O wk hO ck => ?_⟩ ?_
          ·
           have ah0 := slRep.st k_Candidate_pos ah0 ck (admO (fun b h => (hO b h).1))
           have h33 := slRep.st kStr_pos h33 ck (admO (fun b h => (hO b h).1))
           have k42 := k42.ch0 ck
           have h47 := slRep.st kStr_pos h47 ck (admO (fun b h => (hO b h).1))
           have c104 := c104.then0 ck
           refine Need.one rfl rfl ?_
           rintro _ e220
           obtain rfl := e220.symm
           refine Need.one rfl rfl ?_
           rintro _ e221
           obtain rfl := e221.symm
           refine rl_cutR (kl := .i64) (kh := .i64) (some x72) none rfl h47 kStr_pos rfl trivial hy162 Try.underlying30 Try.sizeOf9 rfl ?_
           intro v222 h223
           exact RL.nil ⟨_, rfl, Ch.refl, ⟨v222, rfl, h223⟩⟩
          trivial
         ·
          intro O226 w224 hO227 c225
          refine Need.one rfl rfl ?_
          rintro _ ⟨v152, e228, rfl, h229⟩
          obtain rfl := e228.symm
          have hf230 : ∀ b, inBlk v152 b → w113.heap.size ≤ b := fun b h => (hO227 b h).1
          have d231 : ∀ b, inBlk v152 b → ¬ inBlk (Value.pointer (some ⟨p34, 0, none⟩)) b := disNew hf230 k42.ltp
          have ah0 := slRep.st k_Candidate_pos ah0 c225 (admNew hf230 (fun _ x => x))
          have h33 := slRep.st kStr_pos h33 c225 (admNew hf230 (fun _ x => x))
          have k42 := k42.ch0 c225
          have h47 := slRep.st kStr_pos h47 c225 (admNew hf230 (fun _ x => x))
          have c104 := c104.then0 c225
          refine Need.one rfl rfl ?_
          rintro _ ⟨v163, e232, h164⟩
          obtain rfl := e232.symm
          have hl := (apO_get hz174).1
          refine rl_append (k := kStr) (T := 9) (F := F) (B := w.heap.size) (S := (un (inBlk v152) (un (inBlk (Value.pointer (some ⟨p34, 0, none⟩))) nb))) (S2 := (un (inBlk (Value.pointer (some ⟨p34, 0, none⟩))) nb)) (fun v => (un (inBlk v) (un (inBlk (Value.pointer (some ⟨p34, 0, none⟩))) nb))) rfl rfl kStr_pos ap30 h229 h164 (fun _ => Iff.rfl) (fun _ _ => Iff.rfl) hl c104.size (un_lt (fun b hb => (h229.lt b hb).2) (un_lt k42.ltp nbS)) rfl ?_
          intro v235 w236 h237 c238 hf239 ha240
          have d241 : ∀ b, inBlk v235 b → ¬ inBlk (Value.pointer (some ⟨p34, 0, none⟩)) b := disApp hf239 d231 k42.ltp
          have ah0 := slRep.st k_Candidate_pos ah0 c238 ha240
          have h33 := slRep.st kStr_pos h33 c238 ha240
          have k42 := k42.ch c238 ((disSym d231) _ rfl)
          have h47 := slRep.st kStr_pos h47 c238 ha240
          have h164 := slRep.st kStr_pos h164 c238 ha240
          have c104 := c104.then c238 (fun i hi h => absurd ((fun b hb => (h229.lt b hb).1) i h) (Nat.not_le_of_lt hi))
          refine rl_assign rfl rfl ?_
          refine RL.nil ?_
          refine inB_n ?_
          refine thn_n ?_
          refine CW.region ?_
          refine rl_inc rfl hat52.lt h33.big rfl ?_
          refine rl_move rfl rfl ?_
          refine RL.nil ?_
          refine thn_n ?_
          have hLn := runAO_next hL51 hq54 hb55
          have hS242 : (un (inBlk v235) (un (inBlk (Value.pointer (some ⟨p34, 0, none⟩))) nb)) = (un (inBlk (Value.pointer (some ⟨p34, 0, none⟩))) (un (inBlk v235) nb)) := funext fun b => propext ⟨fun h => un_el h (fun h => (.inr (.inl h))) (fun h => un_el h (fun h => (.inl h)) (fun h => False.elim h)), fun h => un_el h (fun h => (.inr (.inl h))) (fun h => un_el h (fun h => (.inl h)) (fun h => False.elim h))⟩
          rw [hS242] at ah0 h33 h47 h164 h237
          exact ⟨rest65.length, Nat.lt_succ_self _, [(10, av0), (11, (Value.int .i64 ((a0.length : Nat) : Int))), (12, (Value.int .i64 ((i10 : Nat) : Int))), (20, z32), (21, (Value.int .i64 ((x18.zones.length : Nat) : Int))), (3, v235), (22, (Value.int .i64 ((i50 + 1 : Nat) : Int)))], ⟨rfl, rfl, rfl, rfl, rfl, rfl, rfl, trivial⟩, ⟨rest65, i50 + 1, (([] ++ y130) ++ [x58]) ++ y161, v235, rfl, rfl, c104, hat52.next, hLn, ah0, h33, k42, h237, (disSym d241)⟩⟩
      ·
       obtain rfl := hat52.nil q64
       have hLf : x45 = o56 := runAO_done hL51
       refine CW.exit (thn_exit (thn_exit (inB_hit ?_)))
       exact ⟨x45, v46, ⟨rfl, rfl, rfl, rfl, trivial⟩, c61, hLf, ah0, h33, k42, h47, d48⟩
     ·
      rintro _ w244 ⟨x45, v46, hE245, c243, f246, ah0, h33, k42, h47, d48⟩
      subst f246
      refine inB_n ?_
      refine thn_n (CW.sub [(10, av0), (11, (Value.int .i64 ((a0.length : Nat) : Int))), (12, (Value.int .i64 ((i10 : Nat) : Int))), (3, v46)] hE245 ?_)
      refine CW.region ?_
      refine rl_inc rfl hat12.lt ah0.big rfl ?_
      refine rl_move rfl rfl ?_
      refine RL.nil ?_
      refine thn_n ?_
      have crf : Ch nb w244 w244 := Ch.refl
      have ah0 := slRep.st k_Candidate_pos ah0 crf (show ∀ b, b < w244.heap.size → ¬ (un (inBlk (Value.pointer (some ⟨p34, 0, none⟩))) (un (inBlk v46) nb)) b → ¬ nb b ∧ ¬ (un (inBlk v46) nb) b from fun b _ hs => ⟨fun x => x, fun h => hs (un_el h (fun h => (.inr (.inl h))) (fun h => False.elim h))⟩)
      have h33 := slRep.st kStr_pos h33 crf (show ∀ b, b < w244.heap.size → ¬ (un (inBlk (Value.pointer (some ⟨p34, 0, none⟩))) (un (inBlk v46) nb)) b → ¬ nb b ∧ ¬ (un (inBlk v46) nb) b from fun b _ hs => ⟨fun x => x, fun h => hs (un_el h (fun h => (.inr (.inl h))) (fun h => False.elim h))⟩)
      have h47 := h47.st crf (fun _ _ x => x) (show ∀ b, b < w244.heap.size → ¬ (un (inBlk (Value.pointer (some ⟨p34, 0, none⟩))) (un (inBlk v46) nb)) b → ¬ nb b ∧ ¬ (un (inBlk v46) nb) b from fun b _ hs => ⟨fun x => x, fun h => hs (un_el h (fun h => (.inr (.inl h))) (fun h => False.elim h))⟩) (fun b h => (.inl h))
      have c243 := c243.then0 crf
      have hLn := runAO_next hL11 hq14 hb15
      exact ⟨rest25.length, Nat.lt_succ_self _, [(10, av0), (11, (Value.int .i64 ((a0.length : Nat) : Int))), (3, v46), (12, (Value.int .i64 ((i10 + 1 : Nat) : Int)))], ⟨rfl, rfl, rfl, rfl, trivial⟩, ⟨rest25, i10 + 1, x45, v46, rfl, rfl, c243, hat12.next, hLn, ah0, h47⟩⟩
   ·
    obtain rfl := hat12.nil q24
    have hLf : x6 = o16 := runAO_done hL11
    refine CW.exit (thn_exit (thn_exit (inB_hit ?_)))
    exact ⟨x6, v7, ⟨rfl, trivial⟩, c21, hLf, ah0, h8⟩
  ·
   rintro _ w249 ⟨x6, v7, hE250, c248, f251, ah0, h8⟩
   subst f251
   refine thn_n (CW.sub [(3, v7)] hE250 ?_)
   refine CW.seq (CW.region ?_)
   refine rl_move rfl rfl ?_
   refine rl_assign rfl rfl ?_
   refine RL.nil ?_
   refine thn_n ?_
   refine CW.ret ?_
   obtain rfl := Option.some.inj hS
   exact ret1 rfl ⟨v7, rfl, h8.out, c248⟩
/-- lb/lblaw18.HintsFilter -/
theorem ctr4 (F : Nat → Prop) (w : World) (a0 : (List Candidate)) (av0 : Value) (ah0 : slRep k_Candidate F w a0 av0) (a1 : ByteArray) (r : Bool) (hs : F4_linkboylaw18_HintsFilter a0 a1 = some r) :
    Ret Try.prog 4 #[av0, (Value.string a1)] w fun v w' => v = (Value.bool r) ∧ Ch nb w w' := by
  have hS := hs
  have c0 : Ch nb w w := Ch.refl
  have ah0 := slRep.enter k_Candidate_pos ah0
  refine Ret.of (n := 83) (args := [_, _]) (rs := [.tmp 4]) Try.func4 rfl rfl rfl rfl ?_
  refine CW.seq (CW.region ?_)
  refine rl_assign rfl rfl ?_
  refine RL.nil ?_
  refine thn_n ?_
  refine CW.seq ?_
  refine CW.seq (CW.region ?_)
  obtain ⟨y3, hy4, hS⟩ := bindS hS
  refine rl_callF rfl en5 rfl (ctr5 (G F w.heap.size nb) w  y3 hy4) ?_
  rintro _ w1 ⟨rfl, c2⟩
  have ah0 := slRep.ch k_Candidate_pos ah0 c2
  have c0 := c0.then0 c2
  refine rl_not rfl rfl ?_
  refine RL.nil ?_
  refine thn_n ?_
  refine CW.cond (t := !y3) rfl (fun q5 => ?_) (fun q5 => ?_)
  ·
   have hS := ifT q5 hS
   refine CW.seq (CW.region ?_)
   refine rl_assign rfl rfl ?_
   refine RL.nil ?_
   refine thn_n ?_
   refine CW.ret ?_
   refine thn_ret ?_
   obtain rfl := Option.some.inj hS
   exact ret1 rfl ⟨rfl, c0⟩
  ·
   have hS := ifF q5 hS
   refine CW.skip ?_
   refine thn_n ?_
   refine CW.seq ?_
   refine CW.seq (CW.region ?_)
   refine rl_move rfl rfl ?_
   obtain ⟨y8, hy9⟩ : ∃ y, F6_linkboylaw18_Long a0 = y := ⟨_, rfl⟩
   have hS := ltS hy9 hS
   refine rl_callF rfl en6 rfl (ctr6 (G F w.heap.size nb) w1 a0 av0 ah0 y8 hy9) ?_
   rintro _ w6 ⟨rfl, c7⟩
   have ah0 := slRep.ch k_Candidate_pos ah0 c7
   have c0 := c0.then0 c7
   refine rl_move rfl rfl ?_
   obtain ⟨b12, hb13⟩ : ∃ v, (y8 || (decide (((a1.size : Nat) : Int) > 100))) = v := ⟨_, rfl⟩
   have hS := ltS hb13 hS
   refine RL.join 4 16 (.bool b12) (fun w' => Ch nb w6 w') ?_ ?_
   · rcases Bool.eq_false_or_eq_true y8 with hg11 | hg11
     ·
      have hs10 := or_t hg11 hb13
      have cs : Ch nb w6 w6 := Ch.refl
      refine RL.no rfl rfl rfl hg11 rfl rfl ?_
      refine RL.no rfl rfl rfl hg11 rfl rfl ?_
      refine RL.no rfl rfl rfl hg11 rfl rfl ?_
      refine rl_pickT rfl hg11 rfl rfl ?_
      exact RL.nil ⟨Ext.bothEq (congrArg Value.bool hs10) (Ext.skip rfl (Ext.skip rfl (Ext.skip rfl (Ext.rfl')))), cs⟩
     ·
      have hs10 := or_f hg11 hb13
      have cs : Ch nb w6 w6 := Ch.refl
      refine RL.yes rfl rfl rfl hg11 ?_
      refine rl_move rfl rfl ?_
      refine RL.yes rfl rfl rfl hg11 ?_
      refine rl_lenStr rfl Try.underlying9 rfl ?_
      refine RL.yes rfl rfl rfl hg11 ?_
      refine rl_bin rfl rfl B.gtr rfl ?_
      refine rl_pickF rfl hg11 rfl rfl ?_
      exact RL.nil ⟨Ext.bothEq (congrArg Value.bool hs10) (Ext.skip rfl (Ext.skip rfl (Ext.skip rfl (Ext.rfl')))), cs⟩
   intro w14 c15
   have ah0 := slRep.ch k_Candidate_pos ah0 c15
   have c0 := c0.then0 c15
   refine RL.nil ?_
   refine thn_n ?_
   refine CW.cond (t := b12) rfl (fun q16 => ?_) (fun q16 => ?_)
   ·
    have hS := ifT q16 hS
    refine CW.seq (CW.region ?_)
    refine rl_assign rfl rfl ?_
    refine RL.nil ?_
    refine thn_n ?_
    refine CW.ret ?_
    refine thn_ret ?_
    obtain rfl := Option.some.inj hS
    exact ret1 rfl ⟨rfl, c0⟩
   ·
    have hS := ifF q16 hS
    refine CW.skip ?_
    refine thn_n ?_
    refine CW.seq (CW.region ?_)
    refine rl_move rfl rfl ?_
    obtain ⟨y19, hy20, hS⟩ := bindS hS
    refine rl_callF rfl en9 rfl (ctr9 (G F w.heap.size nb) w14 a0 av0 ah0 y19 hy20) ?_
    rintro v21 w17 ⟨_, rfl, h22, c18⟩
    have h22 := SlO.backR k_Candidate_pos h22 nbS c0.size
    have ah0 := slRep.ch k_Candidate_pos ah0 c18
    have c0 := c0.then0 c18
    refine rl_assign rfl rfl ?_
    refine RL.nil ?_
    refine thn_n ?_
    refine CW.seq ?_
    refine CW.seq (CW.region ?_)
    refine rl_move rfl rfl ?_
    refine rl_lenR rfl ah0 Try.underlying22 rfl ?_
    refine rl_move rfl rfl ?_
    refine RL.nil ?_
    refine thn_n ?_
    obtain ⟨o30, ho31, hS⟩ := bindS hS
    refine CW.cutB (fun E' w' => ∃ (ix37 : Nat), Sub [(0, av0), (1, (Value.string a1)), (5, v21)] E' ∧ Ch nb w w' ∧ Lp.fin ix37 = o30 ∧ slRep k_Candidate (G F w.heap.size nb) w' a0 av0 ∧ slRep k_Candidate (G F w.heap.size nb) w' y19 v21) ?_ ?_
    ·
     refine CW.loopS [(0, av0), (1, (Value.string a1)), (5, v21), (19, av0), (20, (Value.int .i64 ((a0.length : Nat) : Int))), (21, (Value.int .i64 ((0 : Nat) : Int)))] ⟨rfl, rfl, rfl, rfl, rfl, rfl, trivial⟩ a0.length (fun m E w' => ∃ (rest23 : List Candidate) (i24 : Nat) , m = rest23.length ∧ E = [(0, av0), (1, (Value.string a1)), (5, v21), (19, av0), (20, (Value.int .i64 ((a0.length : Nat) : Int))), (21, (Value.int .i64 ((i24 : Nat) : Int)))] ∧ Ch nb w w' ∧ At a0 i24 rest23 ∧ runBO (F4_linkboylaw18_HintsFilter_b1 a0 a1 y19) rest23 i24 = some o30 ∧ slRep k_Candidate (G F w.heap.size nb) w' a0 av0 ∧ slRep k_Candidate (G F w.heap.size nb) w' y19 v21)
         ⟨a0, 0, rfl, rfl, c0, At.start, ho31, ah0, h22⟩ ?_
     rintro _ _ w36 ⟨rest23, i24, rfl, rfl, c35, hat26, hL25, ah0, h22⟩
     refine CW.seq (CW.region ?_)
     refine rl_bin rfl rfl B.lss rfl ?_
     refine RL.nil (thn_n ?_)
     refine CW.seq ?_
     refine CW.cond (t := decide (((i24 : Nat) : Int) < ((a0.length : Nat) : Int))) rfl (fun q38 => ?_) (fun q38 => ?_)
     ·
      obtain ⟨x32, rest39, rfl⟩ := hat26.cons q38
      obtain ⟨q27, hq28⟩ := runBO_some hL25
      have hb29 := hq28
      refine CW.skip (thn_n ?_)
      refine CW.seq ?_
      refine CW.block ?_
      refine CW.seq (CW.region ?_)
      refine rl_move rfl rfl ?_
      refine rl_ixR rfl ah0 rfl hat26.get Try.underlying22 Try.sizeOf32 rfl ?_
      intro p40 o41 cs42 hr43 hs44 hg45
      obtain ⟨z46, rfl, h47⟩ := hr43
      refine rl_loadA (cs := (Candidate.c x32 z46)) rfl Try.isAgg32 Try.sizeOf32 (hs44) rfl rfl ?_
      refine rl_alloc (Candidate.c Candidate.z (Value.slice none 0 0)) Try.zeroValue32 rfl rfl ?_
      intro p48 w49 n50 k51
      have lop48 := n50.lo c35.size
      have ah0 := slRep.st k_Candidate_pos ah0 n50.ch (admNew n50.fresh (fun _ x => x))
      have h22 := slRep.st k_Candidate_pos h22 n50.ch (admNew n50.fresh (fun _ x => x))
      have h47 := slRep.st kStr_pos h47 n50.ch (admNew n50.fresh (fun _ x => x))
      have c35 := c35.then0 n50.ch
      refine rl_assign rfl rfl ?_
      refine rl_storeA (vs := (Candidate.c x32 z46)) rfl rfl (Kd.one _ (show k_Candidate.rep (G F w.heap.size (un (inBlk (Value.pointer (some ⟨p48, 0, none⟩))) nb)) w49 x32 (Candidate.c x32 z46) from ⟨z46, rfl, h47⟩)) Try.sizeOf32 rfl k51 rfl ?_
      intro w52 s54 c53 k55
      have ad56 : ∀ b, b < w49.heap.size → ¬ (un (inBlk (Value.pointer (some ⟨p48, 0, none⟩))) nb) b → ¬ inBlk (Value.pointer (some ⟨p48, 0, none⟩)) b ∧ ¬ (un (inBlk (Value.pointer (some ⟨p48, 0, none⟩))) nb) b := fun b _ hs => ⟨fun h => hs (.inl h), hs⟩
      have ah0 := slRep.st k_Candidate_pos ah0 c53 ad56
      have h22 := slRep.st k_Candidate_pos h22 c53 ad56
      have h47 := slRep.st kStr_pos h47 c53 ad56
      have c35 := c35.then c53 (fun i hi h => absurd (lop48 i h) (Nat.not_le_of_lt hi))
      refine RL.nil ?_
      refine thn_n ?_
      refine CW.seq ?_
      obtain ⟨y59, hy60⟩ : ∃ y, F10_hints_Meant x32 a1 = y := ⟨_, rfl⟩
      have hb29 := ltS hy60 hb29
      obtain ⟨y67, hy68, hb29⟩ := bindS hb29
      obtain ⟨y73, hy74⟩ : ∃ y, F11_linkboyref18_Meant y67 a1 = y := ⟨_, rfl⟩
      have hb29 := ltS hy74 hb29
      obtain ⟨b113, hb114, hb29⟩ := bindS hb29
      refine CW.cutN (fun E' w' => Sub [(0, av0), (1, (Value.string a1)), (5, v21), (19, av0), (20, (Value.int .i64 ((a0.length : Nat) : Int))), (21, (Value.int .i64 ((i24 : Nat) : Int))), (51, (Value.bool b113))] E' ∧ Ch nb w52 w') ?_ ?_
      ·
       rcases Bool.eq_false_or_eq_true (!(y59 == y73)) with hg115 | hg115
       ·
        have hs116 := orO_t hg115 hb114
        refine CW.draw 26 [(false, fun O uu wx => uu = (Value.agg (Candidate.c x32 z46).toArray)), (false, fun O uu wx => uu = (Value.string a1)), (false, fun O uu wx => uu = (Value.bool y59)), (false, fun O uu wx => uu = v21), (false, fun O uu wx => uu = (Value.int .i64 ((i24 : Nat) : Int))), (false, fun O uu wx => ∃ (p61 : Nat) (o62 : Nat) (z69 : Value), uu = (Value.pointer (some ⟨p61, o62, none⟩)) ∧ slRep kStr (G F w.heap.size (un (inBlk (Value.pointer (some ⟨p48, 0, none⟩))) nb)) wx y67.zones z69 ∧ (G F w.heap.size (un (inBlk (Value.pointer (some ⟨p48, 0, none⟩))) nb)) p61 ∧ Seg wx p61 o62 (Candidate.c y67 z69)), (false, fun O uu wx => ∃ (z69_6 : Value), uu = (Value.agg (Candidate.c y67 z69_6).toArray) ∧ slRep kStr (G F w.heap.size (un (inBlk (Value.pointer (some ⟨p48, 0, none⟩))) nb)) wx y67.zones z69_6), (false, fun O uu wx => uu = (Value.string a1)), (false, fun O uu wx => uu = (Value.bool y73)), (false, fun O uu wx => uu = (Value.bool (!(y59 == y73)))), (false, fun O uu wx => uu = (Value.bool (!(y59 == y73)))), (false, fun O uu wx => uu = undef), (false, fun O uu wx => uu = undef), (false, fun O uu wx => uu = undef), (false, fun O uu wx => uu = undef), (false, fun O uu wx => uu = undef), (false, fun O uu wx => uu = undef), (false, fun O uu wx => uu = undef), (false, fun O uu wx => uu = undef), (false, fun O uu wx => uu = undef), (false, fun O uu wx => uu = undef), (false, fun O uu wx => uu = undef), (false, fun O uu wx => uu = undef), (false, fun O uu wx => uu = undef), (false, fun O uu wx => uu = undef), (false, fun O uu wx => uu = (Value.bool b113))] [[], [], [0, 1], [], [], [3, 4], [5], [], [6, 7], [2, 8], [9], [10], [10], [10], [10], [10], [10], [10], [10], [10], [10], [10], [10], [10], [10], [10]] [25] mixed rfl rfl rfl rfl ?_ ?_
        ·
         refine Each.consA ⟨fun _ _ _ _ _ h => h, fun h => absurd rfl h, fun O wk hO ck => ?_⟩ ?_
         ·
          have ah0 := slRep.ch k_Candidate_pos ah0 ck
          have h22 := slRep.ch k_Candidate_pos h22 ck
          have h47 := slRep.ch kStr_pos h47 ck
          have k55 := k55.ch0 ck
          have c35 := c35.then0 ck
          refine rl_loadA (cs := (Candidate.c x32 z46)) rfl Try.isAgg32 Try.sizeOf32 (k55.segAt 0 23) rfl rfl ?_
          exact RL.nil ⟨_, rfl, Ch.refl, rfl⟩
         refine Each.consA ⟨fun _ _ _ _ _ h => h, fun h => absurd rfl h, fun O wk hO ck => ?_⟩ ?_
         ·
          have ah0 := slRep.ch k_Candidate_pos ah0 ck
          have h22 := slRep.ch k_Candidate_pos h22 ck
          have h47 := slRep.ch kStr_pos h47 ck
          have k55 := k55.ch0 ck
          have c35 := c35.then0 ck
          refine rl_move rfl rfl ?_
          exact RL.nil ⟨_, rfl, Ch.refl, rfl⟩
         refine Each.consA ⟨fun _ _ _ _ _ h => h, fun h => absurd rfl h, fun O wk hO ck => ?_⟩ ?_
         ·
          have ah0 := slRep.ch k_Candidate_pos ah0 ck
          have h22 := slRep.ch k_Candidate_pos h22 ck
          have h47 := slRep.ch kStr_pos h47 ck
          have k55 := k55.ch0 ck
          have c35 := c35.then0 ck
          refine Need.one rfl rfl ?_
          rintro _ e117
          obtain rfl := e117.symm
          refine Need.one rfl rfl ?_
          rintro _ e118
          obtain rfl := e118.symm
          refine rl_callF rfl en10 rfl (ctr10 (G F w.heap.size (un (inBlk (Value.pointer (some ⟨p48, 0, none⟩))) nb)) wk x32 z46 h47 a1 y59 hy60) ?_
          rintro _ w119 ⟨rfl, c120⟩
          have ah0 := slRep.ch k_Candidate_pos ah0 c120
          have h22 := slRep.ch k_Candidate_pos h22 c120
          have h47 := slRep.ch kStr_pos h47 c120
          have k55 := k55.ch0 c120
          have c35 := c35.then0 c120
          exact RL.nil ⟨_, rfl, c120, rfl⟩
         refine Each.consA ⟨fun _ _ _ _ _ h => h, fun h => absurd rfl h, fun O wk hO ck => ?_⟩ ?_
         ·
          have ah0 := slRep.ch k_Candidate_pos ah0 ck
          have h22 := slRep.ch k_Candidate_pos h22 ck
          have h47 := slRep.ch kStr_pos h47 ck
          have k55 := k55.ch0 ck
          have c35 := c35.then0 ck
          refine rl_move rfl rfl ?_
          exact RL.nil ⟨_, rfl, Ch.refl, rfl⟩
         refine Each.consA ⟨fun _ _ _ _ _ h => h, fun h => absurd rfl h, fun O wk hO ck => ?_⟩ ?_
         ·
          have ah0 := slRep.ch k_Candidate_pos ah0 ck
          have h22 := slRep.ch k_Candidate_pos h22 ck
          have h47 := slRep.ch kStr_pos h47 ck
          have k55 := k55.ch0 ck
          have c35 := c35.then0 ck
          refine rl_move rfl rfl ?_
          exact RL.nil ⟨_, rfl, Ch.refl, rfl⟩
         refine Each.consA ⟨fun _ _ _ _ cc hh => by obtain ⟨p61, o62, z69, e, h70, hg66, hs65⟩ := hh; exact ⟨p61, o62, z69, e, slRep.ch kStr_pos h70 cc, hg66, hs65.ch0 cc⟩, fun h => absurd rfl h, fun O wk hO ck => ?_⟩ ?_
         ·
          have ah0 := slRep.ch k_Candidate_pos ah0 ck
          have h22 := slRep.ch k_Candidate_pos h22 ck
          have h47 := slRep.ch kStr_pos h47 ck
          have k55 := k55.ch0 ck
          have c35 := c35.then0 ck
          refine Need.one rfl rfl ?_
          rintro _ e121
          obtain rfl := e121.symm
          refine Need.one rfl rfl ?_
          rintro _ e122
          obtain rfl := e122.symm
          refine rl_ixR rfl h22 rfl (ixO_nat hy68) Try.underlying36 Try.sizeOf40 rfl ?_
          intro p123 o124 cs125 hr126 hs127 hg128
          obtain ⟨z129, rfl, h130⟩ := hr126
          exact RL.nil ⟨_, rfl, Ch.refl, ⟨p123, o124, z129, rfl, h130, hg128, hs127⟩⟩
         refine Each.consA ⟨fun _ _ _ _ cc hh => by obtain ⟨z69_6, e, h70_6⟩ := hh; exact ⟨z69_6, e, slRep.ch kStr_pos h70_6 cc⟩, fun h => absurd rfl h, fun O wk hO ck => ?_⟩ ?_
         ·
          have ah0 := slRep.ch k_Candidate_pos ah0 ck
          have h22 := slRep.ch k_Candidate_pos h22 ck
          have h47 := slRep.ch kStr_pos h47 ck
          have k55 := k55.ch0 ck
          have c35 := c35.then0 ck
          refine Need.one rfl rfl ?_
          rintro _ ⟨p61, o62, z69, e131, h70, hg66, hs65⟩
          obtain rfl := e131.symm
          refine rl_loadA (cs := (Candidate.c y67 z69)) rfl Try.isAgg40 Try.sizeOf40 (hs65) rfl rfl ?_
          exact RL.nil ⟨_, rfl, Ch.refl, ⟨z69, rfl, h70⟩⟩
         refine Each.consA ⟨fun _ _ _ _ _ h => h, fun h => absurd rfl h, fun O wk hO ck => ?_⟩ ?_
         ·
          have ah0 := slRep.ch k_Candidate_pos ah0 ck
          have h22 := slRep.ch k_Candidate_pos h22 ck
          have h47 := slRep.ch kStr_pos h47 ck
          have k55 := k55.ch0 ck
          have c35 := c35.then0 ck
          refine rl_move rfl rfl ?_
          exact RL.nil ⟨_, rfl, Ch.refl, rfl⟩
         refine Each.consA ⟨fun _ _ _ _ _ h => h, fun h => absurd rfl h, fun O wk hO ck => ?_⟩ ?_
         ·
          have ah0 := slRep.ch k_Candidate_pos ah0 ck
          have h22 := slRep.ch k_Candidate_pos h22 ck
          have h47 := slRep.ch kStr_pos h47 ck
          have k55 := k55.ch0 ck
          have c35 := c35.then0 ck
          refine Need.one rfl rfl ?_
          rintro _ ⟨z69_6, e132, h70_6⟩
          obtain rfl := e132.symm
          refine Need.one rfl rfl ?_
          rintro _ e133
          obtain rfl := e133.symm
          refine rl_callF rfl en11 rfl (ctr11 (G F w.heap.size (un (inBlk (Value.pointer (some ⟨p48, 0, none⟩))) nb)) wk y67 z69_6 h70_6 a1 y73 hy74) ?_
          rintro _ w134 ⟨rfl, c135⟩
          have ah0 := slRep.ch k_Candidate_pos ah0 c135
          have h22 := slRep.ch k_Candidate_pos h22 c135
          have h47 := slRep.ch kStr_pos h47 c135
          have k55 := k55.ch0 c135
          have h70_6 := slRep.ch kStr_pos h70_6 c135
          have c35 := c35.then0 c135
          exact RL.nil ⟨_, rfl, c135, rfl⟩
         refine Each.consA ⟨fun _ _ _ _ _ h => h, fun h => absurd rfl h, fun O wk hO ck => ?_⟩ ?_
         ·
          have ah0 := slRep.ch k_Candidate_pos ah0 ck
          have h22 := slRep.ch k_Candidate_pos h22 ck
          have h47 := slRep.ch kStr_pos h47 ck
          have k55 := k55.ch0 ck
          have c35 := c35.then0 ck
          refine Need.one rfl rfl ?_
          rintro _ e136
          obtain rfl := e136.symm
          refine Need.one rfl rfl ?_
          rintro _ e137
          obtain rfl := e137.symm
          refine rl_bin rfl rfl (B.neqB Try.underlying4) rfl ?_
          exact RL.nil ⟨_, rfl, Ch.refl, rfl⟩
         refine Each.consA ⟨fun _ _ _ _ _ h => h, fun h => absurd rfl h, fun O wk hO ck => ?_⟩ ?_
         ·
          have ah0 := slRep.ch k_Candidate_pos ah0 ck
          have h22 := slRep.ch k_Candidate_pos h22 ck
          have h47 := slRep.ch kStr_pos h47 ck
          have k55 := k55.ch0 ck
          have c35 := c35.then0 ck
          refine Need.one rfl rfl ?_
          rintro _ e138
          obtain rfl := e138.symm
          refine rl_move rfl rfl ?_
          exact RL.nil ⟨_, rfl, Ch.refl, rfl⟩
         refine Each.consA ⟨fun _ _ _ _ _ h => h, fun h => absurd rfl h, fun O wk hO ck => ?_⟩ ?_
         ·
          refine Need.one rfl rfl ?_
          rintro _ e139
          obtain rfl := e139.symm
          refine RL.no rfl rfl rfl hg115 rfl rfl ?_
          exact RL.nil ⟨_, rfl, Ch.refl, rfl⟩
         refine Each.consA ⟨fun _ _ _ _ _ h => h, fun h => absurd rfl h, fun O wk hO ck => ?_⟩ ?_
         ·
          refine Need.one rfl rfl ?_
          rintro _ e140
          obtain rfl := e140.symm
          refine RL.no rfl rfl rfl hg115 rfl rfl ?_
          exact RL.nil ⟨_, rfl, Ch.refl, rfl⟩
         refine Each.consA ⟨fun _ _ _ _ _ h => h, fun h => absurd rfl h, fun O wk hO ck => ?_⟩ ?_
         ·
          refine Need.one rfl rfl ?_
          rintro _ e141
          obtain rfl := e141.symm
          refine RL.no rfl rfl rfl hg115 rfl rfl ?_
          exact RL.nil ⟨_, rfl, Ch.refl, rfl⟩
         refine Each.consA ⟨fun _ _ _ _ _ h => h, fun h => absurd rfl h, fun O wk hO ck => ?_⟩ ?_
         ·
          refine Need.one rfl rfl ?_
          rintro _ e142
          obtain rfl := e142.symm
          refine RL.no rfl rfl rfl hg115 rfl rfl ?_
          exact RL.nil ⟨_, rfl, Ch.refl, rfl⟩
         refine Each.consA ⟨fun _ _ _ _ _ h => h, fun h => absurd rfl h, fun O wk hO ck => ?_⟩ ?_
         ·
          refine Need.one rfl rfl ?_
          rintro _ e143
          obtain rfl := e143.symm
          refine RL.no rfl rfl rfl hg115 rfl rfl ?_
          exact RL.nil ⟨_, rfl, Ch.refl, rfl⟩
         refine Each.consA ⟨fun _ _ _ _ _ h => h, fun h => absurd rfl h, fun O wk hO ck => ?_⟩ ?_
         ·
          refine Need.one rfl rfl ?_
          rintro _ e144
          obtain rfl := e144.symm
          refine RL.no rfl rfl rfl hg115 rfl rfl ?_
          exact RL.nil ⟨_, rfl, Ch.refl, rfl⟩
         refine Each.consA ⟨fun _ _ _ _ _ h => h, fun h => absurd rfl h, fun O wk hO ck => ?_⟩ ?_
         ·
          refine Need.one rfl rfl ?_
          rintro _ e145
          obtain rfl := e145.symm
          refine RL.no rfl rfl rfl hg115 rfl rfl ?_
          exact RL.nil ⟨_, rfl, Ch.refl, rfl⟩
         refine Each.consA ⟨fun _ _ _ _ _ h => h, fun h => absurd rfl h, fun O wk hO ck => ?_⟩ ?_
         ·
          refine Need.one rfl rfl ?_
          rintro _ e146
          obtain rfl := e146.symm
          refine RL.no rfl rfl rfl hg115 rfl rfl ?_
          exact RL.nil ⟨_, rfl, Ch.refl, rfl⟩
         refine Each.consA ⟨fun _ _ _ _ _ h => h, fun h => absurd rfl h, fun O wk hO ck => ?_⟩ ?_
         ·
          refine Need.one rfl rfl ?_
          rintro _ e147
          obtain rfl := e147.symm
          refine RL.no rfl rfl rfl hg115 rfl rfl ?_
          exact RL.nil ⟨_, rfl, Ch.refl, rfl⟩
         refine Each.consA ⟨fun _ _ _ _ _ h => h, fun h => absurd rfl h, fun O wk hO ck => ?_⟩ ?_
         ·
          refine Need.one rfl rfl ?_
          rintro _ e148
          obtain rfl := e148.symm
          refine RL.no rfl rfl rfl hg115 rfl rfl ?_
          exact RL.nil ⟨_, rfl, Ch.refl, rfl⟩
         refine Each.consA ⟨fun _ _ _ _ _ h => h, fun h => absurd rfl h, fun O wk hO ck => ?_⟩ ?_
         ·
          refine Need.one rfl rfl ?_
          rintro _ e149
          obtain rfl := e149.symm
          refine RL.no rfl rfl rfl hg115 rfl rfl ?_
          exact RL.nil ⟨_, rfl, Ch.refl, rfl⟩
         refine Each.consA ⟨fun _ _ _ _ _ h => h, fun h => absurd rfl h, fun O wk hO ck => ?_⟩ ?_
         ·
          refine Need.one rfl rfl ?_
          rintro _ e150
          obtain rfl := e150.symm
          refine RL.no rfl rfl rfl hg115 rfl rfl ?_
          exact RL.nil ⟨_, rfl, Ch.refl, rfl⟩
         refine Each.consA ⟨fun _ _ _ _ _ h => h, fun h => absurd rfl h, fun O wk hO ck => ?_⟩ ?_
         ·
          refine Need.one rfl rfl ?_
          rintro _ e151
          obtain rfl := e151.symm
          refine RL.no rfl rfl rfl hg115 rfl rfl ?_
          exact RL.nil ⟨_, rfl, Ch.refl, rfl⟩
         refine Each.consA ⟨fun _ _ _ _ _ h => h, fun h => absurd rfl h, fun O wk hO ck => ?_⟩ ?_
         ·
          refine Need.one rfl rfl ?_
          rintro _ e152
          obtain rfl := e152.symm
          refine RL.no rfl rfl rfl hg115 rfl rfl ?_
          exact RL.nil ⟨_, rfl, Ch.refl, rfl⟩
         refine Each.consA ⟨fun _ _ _ _ _ h => h, fun h => absurd rfl h, fun O wk hO ck => ?_⟩ ?_
         ·
          refine Need.one rfl rfl ?_
          rintro _ e153
          obtain rfl := e153.symm
          refine rl_pickT rfl hg115 rfl rfl ?_
          exact RL.nil ⟨_, rfl, Ch.refl, congrArg Value.bool (Option.some.inj hs116)⟩
         trivial
        ·
         intro O156 w154 hO157 c155
         have ah0 := slRep.ch k_Candidate_pos ah0 c155
         have h22 := slRep.ch k_Candidate_pos h22 c155
         have h47 := slRep.ch kStr_pos h47 c155
         have k55 := k55.ch0 c155
         have c35 := c35.then0 c155
         refine Need.one rfl rfl ?_
         rintro _ e158
         obtain rfl := e158.symm
         exact RL.nil ⟨rfl, ⟨rfl, rfl, rfl, rfl, rfl, rfl, rfl, trivial⟩, c155⟩
       ·
        have hs159 := orO_f hg115 hb114
        obtain ⟨y81, hy82, hs159⟩ := bindS hs159
        obtain ⟨y87, hy88, hs159⟩ := bindS hs159
        obtain ⟨y95, hy96, hs159⟩ := bindS hs159
        obtain ⟨y105, hy106, hs159⟩ := bindS hs159
        obtain ⟨y111, hy112, hs159⟩ := bindS hs159
        refine CW.draw 26 [(false, fun O uu wx => uu = (Value.agg (Candidate.c x32 z46).toArray)), (false, fun O uu wx => uu = (Value.string a1)), (false, fun O uu wx => uu = (Value.bool y59)), (false, fun O uu wx => uu = v21), (false, fun O uu wx => uu = (Value.int .i64 ((i24 : Nat) : Int))), (false, fun O uu wx => ∃ (p61 : Nat) (o62 : Nat) (z69 : Value), uu = (Value.pointer (some ⟨p61, o62, none⟩)) ∧ slRep kStr (G F w.heap.size (un (inBlk (Value.pointer (some ⟨p48, 0, none⟩))) nb)) wx y67.zones z69 ∧ (G F w.heap.size (un (inBlk (Value.pointer (some ⟨p48, 0, none⟩))) nb)) p61 ∧ Seg wx p61 o62 (Candidate.c y67 z69)), (false, fun O uu wx => ∃ (z69_6 : Value), uu = (Value.agg (Candidate.c y67 z69_6).toArray) ∧ slRep kStr (G F w.heap.size (un (inBlk (Value.pointer (some ⟨p48, 0, none⟩))) nb)) wx y67.zones z69_6), (false, fun O uu wx => uu = (Value.string a1)), (false, fun O uu wx => uu = (Value.bool y73)), (false, fun O uu wx => uu = (Value.bool (!(y59 == y73)))), (false, fun O uu wx => uu = (Value.bool (!(y59 == y73)))), (false, fun O uu wx => uu = (Value.agg (Candidate.c x32 z46).toArray)), (false, fun O uu wx => uu = av0), (false, fun O uu wx => ∃ (p75 : Nat) (o76 : Nat) (z83 : Value), uu = (Value.pointer (some ⟨p75, o76, none⟩)) ∧ slRep kStr (G F w.heap.size (un (inBlk (Value.pointer (some ⟨p48, 0, none⟩))) nb)) wx y81.zones z83 ∧ (G F w.heap.size (un (inBlk (Value.pointer (some ⟨p48, 0, none⟩))) nb)) p75 ∧ Seg wx p75 o76 (Candidate.c y81 z83)), (false, fun O uu wx => ∃ (z83_14 : Value), uu = (Value.agg (Candidate.c y81 z83_14).toArray) ∧ slRep kStr (G F w.heap.size (un (inBlk (Value.pointer (some ⟨p48, 0, none⟩))) nb)) wx y81.zones z83_14), (false, fun O uu wx => uu = (Value.bool y87)), (false, fun O uu wx => uu = v21), (false, fun O uu wx => uu = (Value.int .i64 ((i24 : Nat) : Int))), (false, fun O uu wx => ∃ (p89 : Nat) (o90 : Nat) (z97 : Value), uu = (Value.pointer (some ⟨p89, o90, none⟩)) ∧ slRep kStr (G F w.heap.size (un (inBlk (Value.pointer (some ⟨p48, 0, none⟩))) nb)) wx y95.zones z97 ∧ (G F w.heap.size (un (inBlk (Value.pointer (some ⟨p48, 0, none⟩))) nb)) p89 ∧ Seg wx p89 o90 (Candidate.c y95 z97)), (false, fun O uu wx => ∃ (z97_19 : Value), uu = (Value.agg (Candidate.c y95 z97_19).toArray) ∧ slRep kStr (G F w.heap.size (un (inBlk (Value.pointer (some ⟨p48, 0, none⟩))) nb)) wx y95.zones z97_19), (false, fun O uu wx => uu = v21), (false, fun O uu wx => ∃ (p99 : Nat) (o100 : Nat) (z107 : Value), uu = (Value.pointer (some ⟨p99, o100, none⟩)) ∧ slRep kStr (G F w.heap.size (un (inBlk (Value.pointer (some ⟨p48, 0, none⟩))) nb)) wx y105.zones z107 ∧ (G F w.heap.size (un (inBlk (Value.pointer (some ⟨p48, 0, none⟩))) nb)) p99 ∧ Seg wx p99 o100 (Candidate.c y105 z107)), (false, fun O uu wx => ∃ (z107_22 : Value), uu = (Value.agg (Candidate.c y105 z107_22).toArray) ∧ slRep kStr (G F w.heap.size (un (inBlk (Value.pointer (some ⟨p48, 0, none⟩))) nb)) wx y105.zones z107_22), (false, fun O uu wx => uu = (Value.bool y111)), (false, fun O uu wx => uu = (Value.bool (!(y87 == y111)))), (false, fun O uu wx => uu = (Value.bool b113))] [[], [], [0, 1], [], [], [3, 4], [5], [], [6, 7], [2, 8], [9], [10], [10], [10, 12], [10, 13], [10, 11, 14], [10], [10], [10, 16, 17], [10, 18], [10], [10, 20], [10, 21], [10, 19, 22], [10, 15, 23], [10, 24]] [25] mixed rfl rfl rfl rfl ?_ ?_
        ·
         refine Each.consA ⟨fun _ _ _ _ _ h => h, fun h => absurd rfl h, fun O wk hO ck => ?_⟩ ?_
         ·
          have ah0 := slRep.ch k_Candidate_pos ah0 ck
          have h22 := slRep.ch k_Candidate_pos h22 ck
          have h47 := slRep.ch kStr_pos h47 ck
          have k55 := k55.ch0 ck
          have c35 := c35.then0 ck
          refine rl_loadA (cs := (Candidate.c x32 z46)) rfl Try.isAgg32 Try.sizeOf32 (k55.segAt 0 23) rfl rfl ?_
          exact RL.nil ⟨_, rfl, Ch.refl, rfl⟩
         refine Each.consA ⟨fun _ _ _ _ _ h => h, fun h => absurd rfl h, fun O wk hO ck => ?_⟩ ?_
         ·
          have ah0 := slRep.ch k_Candidate_pos ah0 ck
          have h22 := slRep.ch k_Candidate_pos h22 ck
          have h47 := slRep.ch kStr_pos h47 ck
          have k55 := k55.ch0 ck
          have c35 := c35.then0 ck
          refine rl_move rfl rfl ?_
          exact RL.nil ⟨_, rfl, Ch.refl, rfl⟩
         refine Each.consA ⟨fun _ _ _ _ _ h => h, fun h => absurd rfl h, fun O wk hO ck => ?_⟩ ?_
         ·
          have ah0 := slRep.ch k_Candidate_pos ah0 ck
          have h22 := slRep.ch k_Candidate_pos h22 ck
          have h47 := slRep.ch kStr_pos h47 ck
          have k55 := k55.ch0 ck
          have c35 := c35.then0 ck
          refine Need.one rfl rfl ?_
          rintro _ e160
          obtain rfl := e160.symm
          refine Need.one rfl rfl ?_
          rintro _ e161
          obtain rfl := e161.symm
          refine rl_callF rfl en10 rfl (ctr10 (G F w.heap.size (un (inBlk (Value.pointer (some ⟨p48, 0, none⟩))) nb)) wk x32 z46 h47 a1 y59 hy60) ?_
          rintro _ w162 ⟨rfl, c163⟩
          have ah0 := slRep.ch k_Candidate_pos ah0 c163
          have h22 := slRep.ch k_Candidate_pos h22 c163
          have h47 := slRep.ch kStr_pos h47 c163
          have k55 := k55.ch0 c163
          have c35 := c35.then0 c163
          exact RL.nil ⟨_, rfl, c163, rfl⟩
         refine Each.consA ⟨fun _ _ _ _ _ h => h, fun h => absurd rfl h, fun O wk hO ck => ?_⟩ ?_
         ·
          have ah0 := slRep.ch k_Candidate_pos ah0 ck
          have h22 := slRep.ch k_Candidate_pos h22 ck
          have h47 := slRep.ch kStr_pos h47 ck
          have k55 := k55.ch0 ck
          have c35 := c35.then0 ck
          refine rl_move rfl rfl ?_
          exact RL.nil ⟨_, rfl, Ch.refl, rfl⟩
         refine Each.consA ⟨fun _ _ _ _ _ h => h, fun h => absurd rfl h, fun O wk hO ck => ?_⟩ ?_
         ·
          have ah0 := slRep.ch k_Candidate_pos ah0 ck
          have h22 := slRep.ch k_Candidate_pos h22 ck
          have h47 := slRep.ch kStr_pos h47 ck
          have k55 := k55.ch0 ck
          have c35 := c35.then0 ck
          refine rl_move rfl rfl ?_
          exact RL.nil ⟨_, rfl, Ch.refl, rfl⟩
         refine Each.consA ⟨fun _ _ _ _ cc hh => by obtain ⟨p61, o62, z69, e, h70, hg66, hs65⟩ := hh; exact ⟨p61, o62, z69, e, slRep.ch kStr_pos h70 cc, hg66, hs65.ch0 cc⟩, fun h => absurd rfl h, fun O wk hO ck => ?_⟩ ?_
         ·
          have ah0 := slRep.ch k_Candidate_pos ah0 ck
          have h22 := slRep.ch k_Candidate_pos h22 ck
          have h47 := slRep.ch kStr_pos h47 ck
          have k55 := k55.ch0 ck
          have c35 := c35.then0 ck
          refine Need.one rfl rfl ?_
          rintro _ e164
          obtain rfl := e164.symm
          refine Need.one rfl rfl ?_
          rintro _ e165
          obtain rfl := e165.symm
          refine rl_ixR rfl h22 rfl (ixO_nat hy68) Try.underlying36 Try.sizeOf40 rfl ?_
          intro p166 o167 cs168 hr169 hs170 hg171
          obtain ⟨z172, rfl, h173⟩ := hr169
          exact RL.nil ⟨_, rfl, Ch.refl, ⟨p166, o167, z172, rfl, h173, hg171, hs170⟩⟩
         refine Each.consA ⟨fun _ _ _ _ cc hh => by obtain ⟨z69_6, e, h70_6⟩ := hh; exact ⟨z69_6, e, slRep.ch kStr_pos h70_6 cc⟩, fun h => absurd rfl h, fun O wk hO ck => ?_⟩ ?_
         ·
          have ah0 := slRep.ch k_Candidate_pos ah0 ck
          have h22 := slRep.ch k_Candidate_pos h22 ck
          have h47 := slRep.ch kStr_pos h47 ck
          have k55 := k55.ch0 ck
          have c35 := c35.then0 ck
          refine Need.one rfl rfl ?_
          rintro _ ⟨p61, o62, z69, e174, h70, hg66, hs65⟩
          obtain rfl := e174.symm
          refine rl_loadA (cs := (Candidate.c y67 z69)) rfl Try.isAgg40 Try.sizeOf40 (hs65) rfl rfl ?_
          exact RL.nil ⟨_, rfl, Ch.refl, ⟨z69, rfl, h70⟩⟩
         refine Each.consA ⟨fun _ _ _ _ _ h => h, fun h => absurd rfl h, fun O wk hO ck => ?_⟩ ?_
         ·
          have ah0 := slRep.ch k_Candidate_pos ah0 ck
          have h22 := slRep.ch k_Candidate_pos h22 ck
          have h47 := slRep.ch kStr_pos h47 ck
          have k55 := k55.ch0 ck
          have c35 := c35.then0 ck
          refine rl_move rfl rfl ?_
          exact RL.nil ⟨_, rfl, Ch.refl, rfl⟩
         refine Each.consA ⟨fun _ _ _ _ _ h => h, fun h => absurd rfl h, fun O wk hO ck => ?_⟩ ?_
         ·
          have ah0 := slRep.ch k_Candidate_pos ah0 ck
          have h22 := slRep.ch k_Candidate_pos h22 ck
          have h47 := slRep.ch kStr_pos h47 ck
          have k55 := k55.ch0 ck
          have c35 := c35.then0 ck
          refine Need.one rfl rfl ?_
          rintro _ ⟨z69_6, e175, h70_6⟩
          obtain rfl := e175.symm
          refine Need.one rfl rfl ?_
          rintro _ e176
          obtain rfl := e176.symm
          refine rl_callF rfl en11 rfl (ctr11 (G F w.heap.size (un (inBlk (Value.pointer (some ⟨p48, 0, none⟩))) nb)) wk y67 z69_6 h70_6 a1 y73 hy74) ?_
          rintro _ w177 ⟨rfl, c178⟩
          have ah0 := slRep.ch k_Candidate_pos ah0 c178
          have h22 := slRep.ch k_Candidate_pos h22 c178
          have h47 := slRep.ch kStr_pos h47 c178
          have k55 := k55.ch0 c178
          have h70_6 := slRep.ch kStr_pos h70_6 c178
          have c35 := c35.then0 c178
          exact RL.nil ⟨_, rfl, c178, rfl⟩
         refine Each.consA ⟨fun _ _ _ _ _ h => h, fun h => absurd rfl h, fun O wk hO ck => ?_⟩ ?_
         ·
          have ah0 := slRep.ch k_Candidate_pos ah0 ck
          have h22 := slRep.ch k_Candidate_pos h22 ck
          have h47 := slRep.ch kStr_pos h47 ck
          have k55 := k55.ch0 ck
          have c35 := c35.then0 ck
          refine Need.one rfl rfl ?_
          rintro _ e179
          obtain rfl := e179.symm
          refine Need.one rfl rfl ?_
          rintro _ e180
          obtain rfl := e180.symm
          refine rl_bin rfl rfl (B.neqB Try.underlying4) rfl ?_
          exact RL.nil ⟨_, rfl, Ch.refl, rfl⟩
         refine Each.consA ⟨fun _ _ _ _ _ h => h, fun h => absurd rfl h, fun O wk hO ck => ?_⟩ ?_
         ·
          have ah0 := slRep.ch k_Candidate_pos ah0 ck
          have h22 := slRep.ch k_Candidate_pos h22 ck
          have h47 := slRep.ch kStr_pos h47 ck
          have k55 := k55.ch0 ck
          have c35 := c35.then0 ck
          refine Need.one rfl rfl ?_
          rintro _ e181
          obtain rfl := e181.symm
          refine rl_move rfl rfl ?_
          exact RL.nil ⟨_, rfl, Ch.refl, rfl⟩
         refine Each.consA ⟨fun _ _ _ _ _ h => h, fun h => absurd rfl h, fun O wk hO ck => ?_⟩ ?_
         ·
          have ah0 := slRep.ch k_Candidate_pos ah0 ck
          have h22 := slRep.ch k_Candidate_pos h22 ck
          have h47 := slRep.ch kStr_pos h47 ck
          have k55 := k55.ch0 ck
          have c35 := c35.then0 ck
          refine Need.one rfl rfl ?_
          rintro _ e182
          obtain rfl := e182.symm
          refine RL.yes rfl rfl rfl hg115 ?_
          refine rl_loadA (cs := (Candidate.c x32 z46)) rfl Try.isAgg32 Try.sizeOf32 (k55.segAt 0 23) rfl rfl ?_
          exact RL.nil ⟨_, rfl, Ch.refl, rfl⟩
         refine Each.consA ⟨fun _ _ _ _ _ h => h, fun h => absurd rfl h, fun O wk hO ck => ?_⟩ ?_
         ·
          have ah0 := slRep.ch k_Candidate_pos ah0 ck
          have h22 := slRep.ch k_Candidate_pos h22 ck
          have h47 := slRep.ch kStr_pos h47 ck
          have k55 := k55.ch0 ck
          have c35 := c35.then0 ck
          refine Need.one rfl rfl ?_
          rintro _ e183
          obtain rfl := e183.symm
          refine RL.yes rfl rfl rfl hg115 ?_
          refine rl_move rfl rfl ?_
          exact RL.nil ⟨_, rfl, Ch.refl, rfl⟩
         refine Each.consA ⟨fun _ _ _ _ cc hh => by obtain ⟨p75, o76, z83, e, h84, hg80, hs79⟩ := hh; exact ⟨p75, o76, z83, e, slRep.ch kStr_pos h84 cc, hg80, hs79.ch0 cc⟩, fun h => absurd rfl h, fun O wk hO ck => ?_⟩ ?_
         ·
          have ah0 := slRep.ch k_Candidate_pos ah0 ck
          have h22 := slRep.ch k_Candidate_pos h22 ck
          have h47 := slRep.ch kStr_pos h47 ck
          have k55 := k55.ch0 ck
          have c35 := c35.then0 ck
          refine Need.one rfl rfl ?_
          rintro _ e184
          obtain rfl := e184.symm
          refine Need.one rfl rfl ?_
          rintro _ e185
          obtain rfl := e185.symm
          refine RL.yes rfl rfl rfl hg115 ?_
          refine rl_ixI rfl ah0 rfl (ixO_get hy82) Try.underlying22 Try.sizeOf32 rfl ?_
          intro p186 o187 cs188 hr189 hs190 hg191
          obtain ⟨z192, rfl, h193⟩ := hr189
          exact RL.nil ⟨_, rfl, Ch.refl, ⟨p186, o187, z192, rfl, h193, hg191, hs190⟩⟩
         refine Each.consA ⟨fun _ _ _ _ cc hh => by obtain ⟨z83_14, e, h84_14⟩ := hh; exact ⟨z83_14, e, slRep.ch kStr_pos h84_14 cc⟩, fun h => absurd rfl h, fun O wk hO ck => ?_⟩ ?_
         ·
          have ah0 := slRep.ch k_Candidate_pos ah0 ck
          have h22 := slRep.ch k_Candidate_pos h22 ck
          have h47 := slRep.ch kStr_pos h47 ck
          have k55 := k55.ch0 ck
          have c35 := c35.then0 ck
          refine Need.one rfl rfl ?_
          rintro _ e194
          obtain rfl := e194.symm
          refine Need.one rfl rfl ?_
          rintro _ ⟨p75, o76, z83, e195, h84, hg80, hs79⟩
          obtain rfl := e195.symm
          refine RL.yes rfl rfl rfl hg115 ?_
          refine rl_loadA (cs := (Candidate.c y81 z83)) rfl Try.isAgg32 Try.sizeOf32 (hs79) rfl rfl ?_
          exact RL.nil ⟨_, rfl, Ch.refl, ⟨z83, rfl, h84⟩⟩
         refine Each.consA ⟨fun _ _ _ _ _ h => h, fun h => absurd rfl h, fun O wk hO ck => ?_⟩ ?_
         ·
          have ah0 := slRep.ch k_Candidate_pos ah0 ck
          have h22 := slRep.ch k_Candidate_pos h22 ck
          have h47 := slRep.ch kStr_pos h47 ck
          have k55 := k55.ch0 ck
          have c35 := c35.then0 ck
          refine Need.one rfl rfl ?_
          rintro _ e196
          obtain rfl := e196.symm
          refine Need.one rfl rfl ?_
          rintro _ e197
          obtain rfl := e197.symm
          refine Need.one rfl rfl ?_
          rintro _ ⟨z83_14, e198, h84_14⟩
          obtain rfl := e198.symm
          refine RL.yes rfl rfl rfl hg115 ?_
          refine rl_callF rfl en12 rfl (ctr12 (G F w.heap.size (un (inBlk (Value.pointer (some ⟨p48, 0, none⟩))) nb)) wk x32 z46 h47 y81 z83_14 h84_14 y87 hy88) ?_
          rintro _ w199 ⟨rfl, c200⟩
          have ah0 := slRep.ch k_Candidate_pos ah0 c200
          have h22 := slRep.ch k_Candidate_pos h22 c200
          have h47 := slRep.ch kStr_pos h47 c200
          have k55 := k55.ch0 c200
          have h84_14 := slRep.ch kStr_pos h84_14 c200
          have c35 := c35.then0 c200
          exact RL.nil ⟨_, rfl, c200, rfl⟩
         refine Each.consA ⟨fun _ _ _ _ _ h => h, fun h => absurd rfl h, fun O wk hO ck => ?_⟩ ?_
         ·
          have ah0 := slRep.ch k_Candidate_pos ah0 ck
          have h22 := slRep.ch k_Candidate_pos h22 ck
          have h47 := slRep.ch kStr_pos h47 ck
          have k55 := k55.ch0 ck
          have c35 := c35.then0 ck
          refine Need.one rfl rfl ?_
          rintro _ e201
          obtain rfl := e201.symm
          refine RL.yes rfl rfl rfl hg115 ?_
          refine rl_move rfl rfl ?_
          exact RL.nil ⟨_, rfl, Ch.refl, rfl⟩
         refine Each.consA ⟨fun _ _ _ _ _ h => h, fun h => absurd rfl h, fun O wk hO ck => ?_⟩ ?_
         ·
          have ah0 := slRep.ch k_Candidate_pos ah0 ck
          have h22 := slRep.ch k_Candidate_pos h22 ck
          have h47 := slRep.ch kStr_pos h47 ck
          have k55 := k55.ch0 ck
          have c35 := c35.then0 ck
          refine Need.one rfl rfl ?_
          rintro _ e202
          obtain rfl := e202.symm
          refine RL.yes rfl rfl rfl hg115 ?_
          refine rl_move rfl rfl ?_
          exact RL.nil ⟨_, rfl, Ch.refl, rfl⟩
         refine Each.consA ⟨fun _ _ _ _ cc hh => by obtain ⟨p89, o90, z97, e, h98, hg94, hs93⟩ := hh; exact ⟨p89, o90, z97, e, slRep.ch kStr_pos h98 cc, hg94, hs93.ch0 cc⟩, fun h => absurd rfl h, fun O wk hO ck => ?_⟩ ?_
         ·
          have ah0 := slRep.ch k_Candidate_pos ah0 ck
          have h22 := slRep.ch k_Candidate_pos h22 ck
          have h47 := slRep.ch kStr_pos h47 ck
          have k55 := k55.ch0 ck
          have c35 := c35.then0 ck
          refine Need.one rfl rfl ?_
          rintro _ e203
          obtain rfl := e203.symm
          refine Need.one rfl rfl ?_
          rintro _ e204
          obtain rfl := e204.symm
          refine Need.one rfl rfl ?_
          rintro _ e205
          obtain rfl := e205.symm
          refine RL.yes rfl rfl rfl hg115 ?_
          refine rl_ixR rfl h22 rfl (ixO_nat hy96) Try.underlying36 Try.sizeOf40 rfl ?_
          intro p206 o207 cs208 hr209 hs210 hg211
          obtain ⟨z212, rfl, h213⟩ := hr209
          exact RL.nil ⟨_, rfl, Ch.refl, ⟨p206, o207, z212, rfl, h213, hg211, hs210⟩⟩
         refine Each.consA ⟨fun _ _ _ _ cc hh => by obtain ⟨z97_19, e, h98_19⟩ := hh; exact ⟨z97_19, e, slRep.ch kStr_pos h98_19 cc⟩, fun h => absurd rfl h, fun O wk hO ck => ?_⟩ ?_
         ·
          have ah0 := slRep.ch k_Candidate_pos ah0 ck
          have h22 := slRep.ch k_Candidate_pos h22 ck
          have h47 := slRep.ch kStr_pos h47 ck
          have k55 := k55.ch0 ck
          have c35 := c35.then0 ck
          refine Need.one rfl rfl ?_
          rintro _ e214
          obtain rfl := e214.symm
          refine Need.one rfl rfl ?_
          rintro _ ⟨p89, o90, z97, e215, h98, hg94, hs93⟩
          obtain rfl := e215.symm
          refine RL.yes rfl rfl rfl hg115 ?_
          refine rl_loadA (cs := (Candidate.c y95 z97)) rfl Try.isAgg40 Try.sizeOf40 (hs93) rfl rfl ?_
          exact RL.nil ⟨_, rfl, Ch.refl, ⟨z97, rfl, h98⟩⟩
         refine Each.consA ⟨fun _ _ _ _ _ h => h, fun h => absurd rfl h, fun O wk hO ck => ?_⟩ ?_
         ·
          have ah0 := slRep.ch k_Candidate_pos ah0 ck
          have h22 := slRep.ch k_Candidate_pos h22 ck
          have h47 := slRep.ch kStr_pos h47 ck
          have k55 := k55.ch0 ck
          have c35 := c35.then0 ck
          refine Need.one rfl rfl ?_
          rintro _ e216
          obtain rfl := e216.symm
          refine RL.yes rfl rfl rfl hg115 ?_
          refine rl_move rfl rfl ?_
          exact RL.nil ⟨_, rfl, Ch.refl, rfl⟩
         refine Each.consA ⟨fun _ _ _ _ cc hh => by obtain ⟨p99, o100, z107, e, h108, hg104, hs103⟩ := hh; exact ⟨p99, o100, z107, e, slRep.ch kStr_pos h108 cc, hg104, hs103.ch0 cc⟩, fun h => absurd rfl h, fun O wk hO ck => ?_⟩ ?_
         ·
          have ah0 := slRep.ch k_Candidate_pos ah0 ck
          have h22 := slRep.ch k_Candidate_pos h22 ck
          have h47 := slRep.ch kStr_pos h47 ck
          have k55 := k55.ch0 ck
          have c35 := c35.then0 ck
          refine Need.one rfl rfl ?_
          rintro _ e217
          obtain rfl := e217.symm
          refine Need.one rfl rfl ?_
          rintro _ e218
          obtain rfl := e218.symm
          refine RL.yes rfl rfl rfl hg115 ?_
          refine rl_ixI rfl h22 rfl (ixO_get hy106) Try.underlying36 Try.sizeOf40 rfl ?_
          intro p219 o220 cs221 hr222 hs223 hg224
          obtain ⟨z225, rfl, h226⟩ := hr222
          exact RL.nil ⟨_, rfl, Ch.refl, ⟨p219, o220, z225, rfl, h226, hg224, hs223⟩⟩
         refine Each.consA ⟨fun _ _ _ _ cc hh => by obtain ⟨z107_22, e, h108_22⟩ := hh; exact ⟨z107_22, e, slRep.ch kStr_pos h108_22 cc⟩, fun h => absurd rfl h, fun O wk hO ck => ?_⟩ ?_
         ·
          have ah0 := slRep.ch k_Candidate_pos ah0 ck
          have h22 := slRep.ch k_Candidate_pos h22 ck
          have h47 := slRep.ch kStr_pos h47 ck
          have k55 := k55.ch0 ck
          have c35 := c35.then0 ck
          refine Need.one rfl rfl ?_
          rintro _ e227
          obtain rfl := e227.symm
          refine Need.one rfl rfl ?_
          rintro _ ⟨p99, o100, z107, e228, h108, hg104, hs103⟩
          obtain rfl := e228.symm
          refine RL.yes rfl rfl rfl hg115 ?_
          refine rl_loadA (cs := (Candidate.c y105 z107)) rfl Try.isAgg40 Try.sizeOf40 (hs103) rfl rfl ?_
          exact RL.nil ⟨_, rfl, Ch.refl, ⟨z107, rfl, h108⟩⟩
         refine Each.consA ⟨fun _ _ _ _ _ h => h, fun h => absurd rfl h, fun O wk hO ck => ?_⟩ ?_
         ·
          have ah0 := slRep.ch k_Candidate_pos ah0 ck
          have h22 := slRep.ch k_Candidate_pos h22 ck
          have h47 := slRep.ch kStr_pos h47 ck
          have k55 := k55.ch0 ck
          have c35 := c35.then0 ck
          refine Need.one rfl rfl ?_
          rintro _ e229
          obtain rfl := e229.symm
          refine Need.one rfl rfl ?_
          rintro _ ⟨z97_19, e230, h98_19⟩
          obtain rfl := e230.symm
          refine Need.one rfl rfl ?_
          rintro _ ⟨z107_22, e231, h108_22⟩
          obtain rfl := e231.symm
          refine RL.yes rfl rfl rfl hg115 ?_
          refine rl_callF rfl en13 rfl (ctr13 (G F w.heap.size (un (inBlk (Value.pointer (some ⟨p48, 0, none⟩))) nb)) wk y95 z97_19 h98_19 y105 z107_22 h108_22 y111 hy112) ?_
          rintro _ w232 ⟨rfl, c233⟩
          have ah0 := slRep.ch k_Candidate_pos ah0 c233
          have h22 := slRep.ch k_Candidate_pos h22 c233
          have h47 := slRep.ch kStr_pos h47 c233
          have k55 := k55.ch0 c233
          have h98_19 := slRep.ch kStr_pos h98_19 c233
          have h108_22 := slRep.ch kStr_pos h108_22 c233
          have c35 := c35.then0 c233
          exact RL.nil ⟨_, rfl, c233, rfl⟩
         refine Each.consA ⟨fun _ _ _ _ _ h => h, fun h => absurd rfl h, fun O wk hO ck => ?_⟩ ?_
         ·
          have ah0 := slRep.ch k_Candidate_pos ah0 ck
          have h22 := slRep.ch k_Candidate_pos h22 ck
          have h47 := slRep.ch kStr_pos h47 ck
          have k55 := k55.ch0 ck
          have c35 := c35.then0 ck
          refine Need.one rfl rfl ?_
          rintro _ e234
          obtain rfl := e234.symm
          refine Need.one rfl rfl ?_
          rintro _ e235
          obtain rfl := e235.symm
          refine Need.one rfl rfl ?_
          rintro _ e236
          obtain rfl := e236.symm
          refine RL.yes rfl rfl rfl hg115 ?_
          refine rl_bin rfl rfl (B.neqB Try.underlying4) rfl ?_
          exact RL.nil ⟨_, rfl, Ch.refl, rfl⟩
         refine Each.consA ⟨fun _ _ _ _ _ h => h, fun h => absurd rfl h, fun O wk hO ck => ?_⟩ ?_
         ·
          refine Need.one rfl rfl ?_
          rintro _ e237
          obtain rfl := e237.symm
          refine Need.one rfl rfl ?_
          rintro _ e238
          obtain rfl := e238.symm
          refine rl_pickF rfl hg115 rfl rfl ?_
          exact RL.nil ⟨_, rfl, Ch.refl, congrArg Value.bool (Option.some.inj hs159)⟩
         trivial
        ·
         intro O241 w239 hO242 c240
         have ah0 := slRep.ch k_Candidate_pos ah0 c240
         have h22 := slRep.ch k_Candidate_pos h22 c240
         have h47 := slRep.ch kStr_pos h47 c240
         have k55 := k55.ch0 c240
         have c35 := c35.then0 c240
         refine Need.one rfl rfl ?_
         rintro _ e243
         obtain rfl := e243.symm
         exact RL.nil ⟨rfl, ⟨rfl, rfl, rfl, rfl, rfl, rfl, rfl, trivial⟩, c240⟩
      ·
       rintro _ w245 ⟨hE244, c246⟩
       have ah0 := slRep.ch k_Candidate_pos ah0 c246
       have h22 := slRep.ch k_Candidate_pos h22 c246
       have h47 := slRep.ch kStr_pos h47 c246
       have k55 := k55.ch0 c246
       have c35 := c35.then0 c246
       refine thn_n (CW.sub [(0, av0), (1, (Value.string a1)), (5, v21), (19, av0), (20, (Value.int .i64 ((a0.length : Nat) : Int))), (21, (Value.int .i64 ((i24 : Nat) : Int))), (51, (Value.bool b113))] hE244 ?_)
       refine CW.cond (t := b113) rfl (fun q247 => ?_) (fun q247 => ?_)
       ·
        have hb29 := ifT q247 hb29
        refine CW.seq (CW.region ?_)
        refine rl_assign rfl rfl ?_
        refine RL.nil ?_
        refine thn_n ?_
        refine CW.ret ?_
        refine inB_ret ?_
        refine thn_ret ?_
        refine thn_ret (inB_ret (thn_ret ?_))
        refine thn_ret ?_
        have f248 := runBO_ret hL25 hq28 hb29
        have hS := retS f248 hS
        obtain rfl := Option.some.inj hS
        exact ret1 rfl ⟨rfl, c35⟩
       ·
        have hb29 := ifF q247 hb29
        refine CW.skip ?_
        refine inB_n ?_
        refine thn_n ?_
        refine CW.region ?_
        refine rl_inc rfl hat26.lt ah0.big rfl ?_
        refine rl_move rfl rfl ?_
        refine RL.nil ?_
        refine thn_n ?_
        have crf : Ch nb w245 w245 := Ch.refl
        have ah0 := slRep.st k_Candidate_pos ah0 crf (show ∀ b, b < w245.heap.size → ¬ (un (inBlk (Value.pointer (some ⟨p48, 0, none⟩))) nb) b → ¬ nb b ∧ ¬ nb b from fun b _ hs => ⟨fun x => x, fun h => hs (False.elim h)⟩)
        have h22 := slRep.st k_Candidate_pos h22 crf (show ∀ b, b < w245.heap.size → ¬ (un (inBlk (Value.pointer (some ⟨p48, 0, none⟩))) nb) b → ¬ nb b ∧ ¬ nb b from fun b _ hs => ⟨fun x => x, fun h => hs (False.elim h)⟩)
        have h47 := slRep.st kStr_pos h47 crf (show ∀ b, b < w245.heap.size → ¬ (un (inBlk (Value.pointer (some ⟨p48, 0, none⟩))) nb) b → ¬ nb b ∧ ¬ nb b from fun b _ hs => ⟨fun x => x, fun h => hs (False.elim h)⟩)
        have c35 := c35.then0 crf
        have hLn := runBO_next hL25 hq28 hb29
        exact ⟨rest39.length, Nat.lt_succ_self _, [(0, av0), (1, (Value.string a1)), (5, v21), (19, av0), (20, (Value.int .i64 ((a0.length : Nat) : Int))), (21, (Value.int .i64 ((i24 + 1 : Nat) : Int)))], ⟨rfl, rfl, rfl, rfl, rfl, rfl, trivial⟩, ⟨rest39, i24 + 1, rfl, rfl, c35, hat26.next, hLn, ah0, h22⟩⟩
     ·
      obtain rfl := hat26.nil q38
      have hLf : Lp.fin i24 = o30 := runBO_done hL25
      refine CW.exit (thn_exit (thn_exit (inB_hit ?_)))
      exact ⟨i24, ⟨rfl, rfl, rfl, trivial⟩, c35, hLf, ah0, h22⟩
    ·
     rintro _ w250 ⟨ix37, hE251, c249, f252, ah0, h22⟩
     have hS := finS f252 hS
     refine thn_n (CW.sub [(0, av0), (1, (Value.string a1)), (5, v21)] hE251 ?_)
     refine CW.seq (CW.region ?_)
     refine rl_move rfl rfl ?_
     refine rl_move rfl rfl ?_
     obtain ⟨y256, hy257, hS⟩ := bindS hS
     refine rl_callF rfl en14 rfl (ctr14 (G F w.heap.size nb) w250 a0 av0 ah0 a1 y256 hy257) ?_
     rintro _ w254 ⟨rfl, c255⟩
     have ah0 := slRep.ch k_Candidate_pos ah0 c255
     have h22 := slRep.ch k_Candidate_pos h22 c255
     have c249 := c249.then0 c255
     refine rl_move rfl rfl ?_
     refine rl_move rfl rfl ?_
     obtain ⟨y260, hy261⟩ : ∃ y, F15_linkboyref18_Count y19 a1 = y := ⟨_, rfl⟩
     have hS := ltS hy261 hS
     refine rl_callF rfl en15 rfl (ctr15 (G F w.heap.size nb) w254 y19 v21 h22 a1 y260 hy261) ?_
     rintro _ w258 ⟨rfl, c259⟩
     have ah0 := slRep.ch k_Candidate_pos ah0 c259
     have h22 := slRep.ch k_Candidate_pos h22 c259
     have c249 := c249.then0 c259
     refine rl_bin rfl rfl (B.eqlB Try.underlying4) rfl ?_
     refine rl_move rfl rfl ?_
     obtain ⟨b264, hb265, hS⟩ := bindS hS
     refine RL.join 9 69 (.bool b264) (fun w' => Ch nb w258 w') ?_ ?_
     · rcases Bool.eq_false_or_eq_true (y256 == y260) with hg263 | hg263
       ·
        have hs262 := andO_t hg263 hb265
        have cs : Ch nb w258 w258 := Ch.refl
        refine RL.yes rfl rfl rfl hg263 ?_
        refine rl_move rfl rfl ?_
        refine RL.yes rfl rfl rfl hg263 ?_
        refine rl_move rfl rfl ?_
        refine RL.yes rfl rfl rfl hg263 ?_
        obtain ⟨y269, hy270, hs262⟩ := bindS hs262
        refine rl_callF rfl en7 rfl (ctr7 (G F w.heap.size nb) w258 a0 av0 ah0 a1 y269 hy270) ?_
        rintro v271 w267 ⟨_, rfl, h272, c268⟩
        have h272 := SlO.backR k_Candidate_pos h272 nbS c249.size
        have ah0 := slRep.ch k_Candidate_pos ah0 c268
        have h22 := slRep.ch k_Candidate_pos h22 c268
        have c249 := c249.then0 c268
        refine RL.yes rfl rfl rfl hg263 ?_
        obtain ⟨y275, hy276, hs262⟩ := bindS hs262
        refine rl_callF rfl en9 rfl (ctr9 (G F w.heap.size nb) w267 y269 v271 h272 y275 hy276) ?_
        rintro v277 w273 ⟨_, rfl, h278, c274⟩
        have h278 := SlO.backR k_Candidate_pos h278 nbS c249.size
        have ah0 := slRep.ch k_Candidate_pos ah0 c274
        have h22 := slRep.ch k_Candidate_pos h22 c274
        have h272 := slRep.ch k_Candidate_pos h272 c274
        have c249 := c249.then0 c274
        refine RL.yes rfl rfl rfl hg263 ?_
        refine rl_move rfl rfl ?_
        refine RL.yes rfl rfl rfl hg263 ?_
        refine rl_move rfl rfl ?_
        refine RL.yes rfl rfl rfl hg263 ?_
        obtain ⟨y281, hy282, hs262⟩ := bindS hs262
        refine rl_callF rfl en17 rfl (ctr17 (G F w.heap.size nb) w273 y19 v21 h22 a1 y281 hy282) ?_
        rintro v283 w279 ⟨_, rfl, h284, c280⟩
        have h284 := SlO.backR k_Candidate_pos h284 nbS c249.size
        have ah0 := slRep.ch k_Candidate_pos ah0 c280
        have h22 := slRep.ch k_Candidate_pos h22 c280
        have h272 := slRep.ch k_Candidate_pos h272 c280
        have h278 := slRep.ch k_Candidate_pos h278 c280
        have c249 := c249.then0 c280
        refine RL.yes rfl rfl rfl hg263 ?_
        obtain ⟨y287, hy288, hs262⟩ := bindS hs262
        refine rl_callF rfl en16 rfl (ctr16 (G F w.heap.size nb) w279 y275 v277 h278 y281 v283 h284 y287 hy288) ?_
        rintro _ w285 ⟨rfl, c286⟩
        have ah0 := slRep.ch k_Candidate_pos ah0 c286
        have h22 := slRep.ch k_Candidate_pos h22 c286
        have h272 := slRep.ch k_Candidate_pos h272 c286
        have h278 := slRep.ch k_Candidate_pos h278 c286
        have h284 := slRep.ch k_Candidate_pos h284 c286
        have c249 := c249.then0 c286
        refine rl_pickT rfl hg263 rfl rfl ?_
        have cs := cs.then0 c268
        have cs := cs.then0 c274
        have cs := cs.then0 c280
        have cs := cs.then0 c286
        exact RL.nil ⟨Ext.bothEq (congrArg Value.bool (Option.some.inj hs262)) (Ext.skip rfl (Ext.skip rfl (Ext.skip rfl (Ext.skip rfl (Ext.skip rfl (Ext.skip rfl (Ext.skip rfl (Ext.skip rfl (Ext.rfl'))))))))), cs⟩
       ·
        have hs262 := andO_f hg263 hb265
        have cs : Ch nb w258 w258 := Ch.refl
        refine RL.no rfl rfl rfl hg263 rfl rfl ?_
        refine RL.no rfl rfl rfl hg263 rfl rfl ?_
        refine RL.no rfl rfl rfl hg263 rfl rfl ?_
        refine RL.no rfl rfl rfl hg263 rfl rfl ?_
        refine RL.no rfl rfl rfl hg263 rfl rfl ?_
        refine RL.no rfl rfl rfl hg263 rfl rfl ?_
        refine RL.no rfl rfl rfl hg263 rfl rfl ?_
        refine RL.no rfl rfl rfl hg263 rfl rfl ?_
        refine rl_pickF rfl hg263 rfl rfl ?_
        exact RL.nil ⟨Ext.bothEq (congrArg Value.bool (Option.some.inj hs262)) (Ext.skip rfl (Ext.skip rfl (Ext.skip rfl (Ext.skip rfl (Ext.skip rfl (Ext.skip rfl (Ext.skip rfl (Ext.skip rfl (Ext.rfl'))))))))), cs⟩
     intro w266 c289
     have ah0 := slRep.ch k_Candidate_pos ah0 c289
     have h22 := slRep.ch k_Candidate_pos h22 c289
     have c249 := c249.then0 c289
     refine rl_move rfl rfl ?_
     obtain ⟨b292, hb293, hS⟩ := bindS hS
     refine RL.join 6 76 (.bool b292) (fun w' => Ch nb w266 w') ?_ ?_
     · rcases Bool.eq_false_or_eq_true b264 with hg291 | hg291
       ·
        have hs290 := andO_t hg291 hb293
        have cs : Ch nb w266 w266 := Ch.refl
        refine RL.yes rfl rfl rfl hg291 ?_
        refine rl_move rfl rfl ?_
        refine RL.yes rfl rfl rfl hg291 ?_
        obtain ⟨y297, hy298, hs290⟩ := bindS hs290
        refine rl_callF rfl en8 rfl (ctr8 (G F w.heap.size nb) w266 a0 av0 ah0 y297 hy298) ?_
        rintro v299 w295 ⟨_, rfl, h300, c296⟩
        have h300 := SlO.backR kStr_pos h300 nbS c249.size
        have ah0 := slRep.ch k_Candidate_pos ah0 c296
        have h22 := slRep.ch k_Candidate_pos h22 c296
        have c249 := c249.then0 c296
        refine RL.yes rfl rfl rfl hg291 ?_
        refine rl_move rfl rfl ?_
        refine RL.yes rfl rfl rfl hg291 ?_
        obtain ⟨y303, hy304, hs290⟩ := bindS hs290
        refine rl_callF rfl en19 rfl (ctr19 (G F w.heap.size nb) w295 y19 v21 h22 y303 hy304) ?_
        rintro v305 w301 ⟨_, rfl, h306, c302⟩
        have h306 := SlO.backR kStr_pos h306 nbS c249.size
        have ah0 := slRep.ch k_Candidate_pos ah0 c302
        have h22 := slRep.ch k_Candidate_pos h22 c302
        have h300 := slRep.ch kStr_pos h300 c302
        have c249 := c249.then0 c302
        refine RL.yes rfl rfl rfl hg291 ?_
        obtain ⟨y309, hy310, hs290⟩ := bindS hs290
        refine rl_callF rfl en18 rfl (ctr18 (G F w.heap.size nb) w301 y297 v299 h300 y303 v305 h306 y309 hy310) ?_
        rintro _ w307 ⟨rfl, c308⟩
        have ah0 := slRep.ch k_Candidate_pos ah0 c308
        have h22 := slRep.ch k_Candidate_pos h22 c308
        have h300 := slRep.ch kStr_pos h300 c308
        have h306 := slRep.ch kStr_pos h306 c308
        have c249 := c249.then0 c308
        refine rl_pickT rfl hg291 rfl rfl ?_
        have cs := cs.then0 c296
        have cs := cs.then0 c302
        have cs := cs.then0 c308
        exact RL.nil ⟨Ext.bothEq (congrArg Value.bool (Option.some.inj hs290)) (Ext.skip rfl (Ext.skip rfl (Ext.skip rfl (Ext.skip rfl (Ext.skip rfl (Ext.rfl')))))), cs⟩
       ·
        have hs290 := andO_f hg291 hb293
        have cs : Ch nb w266 w266 := Ch.refl
        refine RL.no rfl rfl rfl hg291 rfl rfl ?_
        refine RL.no rfl rfl rfl hg291 rfl rfl ?_
        refine RL.no rfl rfl rfl hg291 rfl rfl ?_
        refine RL.no rfl rfl rfl hg291 rfl rfl ?_
        refine RL.no rfl rfl rfl hg291 rfl rfl ?_
        refine rl_pickF rfl hg291 rfl rfl ?_
        exact RL.nil ⟨Ext.bothEq (congrArg Value.bool (Option.some.inj hs290)) (Ext.skip rfl (Ext.skip rfl (Ext.skip rfl (Ext.skip rfl (Ext.skip rfl (Ext.rfl')))))), cs⟩
     intro w294 c311
     have ah0 := slRep.ch k_Candidate_pos ah0 c311
     have h22 := slRep.ch k_Candidate_pos h22 c311
     have c249 := c249.then0 c311
     refine rl_move rfl rfl ?_
     obtain ⟨b314, hb315, hS⟩ := bindS hS
     refine RL.join 5 82 (.bool b314) (fun w' => Ch nb w294 w') ?_ ?_
     · rcases Bool.eq_false_or_eq_true b292 with hg313 | hg313
       ·
        have hs312 := andO_t hg313 hb315
        have cs : Ch nb w294 w294 := Ch.refl
        refine RL.yes rfl rfl rfl hg313 ?_
        refine rl_move rfl rfl ?_
        refine RL.yes rfl rfl rfl hg313 ?_
        obtain ⟨y319, hy320, hs312⟩ := bindS hs312
        refine rl_callF rfl en9 rfl (ctr9 (G F w.heap.size nb) w294 a0 av0 ah0 y319 hy320) ?_
        rintro v321 w317 ⟨_, rfl, h322, c318⟩
        have h322 := SlO.backR k_Candidate_pos h322 nbS c249.size
        have ah0 := slRep.ch k_Candidate_pos ah0 c318
        have h22 := slRep.ch k_Candidate_pos h22 c318
        have c249 := c249.then0 c318
        refine RL.yes rfl rfl rfl hg313 ?_
        refine rl_move rfl rfl ?_
        refine RL.yes rfl rfl rfl hg313 ?_
        obtain ⟨y325, hy326, hs312⟩ := bindS hs312
        refine rl_callF rfl en16 rfl (ctr16 (G F w.heap.size nb) w317 y319 v321 h322 y19 v21 h22 y325 hy326) ?_
        rintro _ w323 ⟨rfl, c324⟩
        have ah0 := slRep.ch k_Candidate_pos ah0 c324
        have h22 := slRep.ch k_Candidate_pos h22 c324
        have h322 := slRep.ch k_Candidate_pos h322 c324
        have c249 := c249.then0 c324
        refine rl_pickT rfl hg313 rfl rfl ?_
        have cs := cs.then0 c318
        have cs := cs.then0 c324
        exact RL.nil ⟨Ext.bothEq (congrArg Value.bool (Option.some.inj hs312)) (Ext.skip rfl (Ext.skip rfl (Ext.skip rfl (Ext.skip rfl (Ext.rfl'))))), cs⟩
       ·
        have hs312 := andO_f hg313 hb315
        have cs : Ch nb w294 w294 := Ch.refl
        refine RL.no rfl rfl rfl hg313 rfl rfl ?_
        refine RL.no rfl rfl rfl hg313 rfl rfl ?_
        refine RL.no rfl rfl rfl hg313 rfl rfl ?_
        refine RL.no rfl rfl rfl hg313 rfl rfl ?_
        refine rl_pickF rfl hg313 rfl rfl ?_
        exact RL.nil ⟨Ext.bothEq (congrArg Value.bool (Option.some.inj hs312)) (Ext.skip rfl (Ext.skip rfl (Ext.skip rfl (Ext.skip rfl (Ext.rfl'))))), cs⟩
     intro w316 c327
     have ah0 := slRep.ch k_Candidate_pos ah0 c327
     have h22 := slRep.ch k_Candidate_pos h22 c327
     have c249 := c249.then0 c327
     refine rl_assign rfl rfl ?_
     refine RL.nil ?_
     refine thn_n ?_
     refine CW.ret ?_
     obtain rfl := Option.some.inj hS
     exact ret1 rfl ⟨rfl, c249⟩
end Go.Proofs.Ytlebjaljlhcbkaa
