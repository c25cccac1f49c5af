/- The walks through the code: each call comes to its printed function. Written by a program of this session. -/
import Derived.Test.YtokikdhilpebmaaM
import Derived.Test.YtokikdhilpebmaaL
import Derived.Test.YtokikdhilpebmaaW1
namespace Go.Proofs.Ytokikdhilpebmaa
open Go K
set_option linter.unusedVariables false
/-- lb/lbref02.Compare -/
theorem ctr26 (F : Nat → Prop) (w : World) (a0 : Addr) (a1 : Addr) (r : Int) (hs : F26_Compare a0 a1 = some r) :
    Ret Try.prog 26 #[(Value.agg (Addr.enc a0).toArray), (Value.agg (Addr.enc a1).toArray)] w fun v w' => v = (Value.int .i64 r) ∧ Ch nb w w' := by
 have hS := hs
 have c0 : Ch nb w w := Ch.refl
 refine Ret.of (n := 35) (args := [_, _]) (rs := [.tmp 4]) Try.func26 rfl rfl rfl rfl ?_
 refine CW.seq (CW.region ?_)
 refine rl_boxA (cs := (Addr.enc a0)) rfl rfl ?_
 intro p1 w2 n3 k4
 have gp1 : (G F w.heap.size nb) p1 := ⟨.inr (by rw [n3.eq]; exact c0.size), fun h => absurd (nbS _ h) (by rw [n3.eq]; exact Nat.lt_irrefl _)⟩
 have c0 := c0.then0 n3.ch
 refine rl_boxA (cs := (Addr.enc a1)) rfl rfl ?_
 intro p5 w6 n7 k8
 have gp5 : (G F w.heap.size nb) p5 := ⟨.inr (by rw [n7.eq]; exact c0.size), fun h => absurd (nbS _ h) (by rw [n7.eq]; exact Nat.lt_irrefl _)⟩
 have k4 := k4.ch0 n7.ch
 have c0 := c0.then0 n7.ch
 refine rl_assign rfl rfl ?_
 refine RL.nil (thn_n (CW.seq ?_))
 refine CW.seq (CW.region ?_)
 refine rl_fieldAddr rfl fa24_0 rfl ?_
 refine rl_loadS (v := (Value.bool a0.six)) rfl Try.isAgg4 (k4.cell rfl) rfl ?_
 refine rl_fieldAddr rfl fa24_0 rfl ?_
 refine rl_loadS (v := (Value.bool a1.six)) rfl Try.isAgg4 (k8.cell rfl) rfl ?_
 refine rl_bin rfl rfl (B.neqB Try.underlying4) rfl ?_
 refine RL.nil (thn_n ?_)
 refine CW.cond (t := !(a0.six == a1.six)) rfl (fun q9 => ?_) (fun q9 => ?_)
 ·
  have hS := ifT q9 hS
  refine CW.seq ?_
  refine CW.seq (CW.region ?_)
  refine rl_fieldAddr rfl fa24_0 rfl ?_
  refine rl_loadS (v := (Value.bool a0.six)) rfl Try.isAgg4 (k4.cell rfl) rfl ?_
  refine RL.nil (thn_n ?_)
  refine CW.cond (t := a0.six) rfl (fun q10 => ?_) (fun q10 => ?_)
  ·
   have hS := ifT q10 hS
   refine CW.seq (CW.region ?_)
   refine rl_assign rfl rfl ?_
   refine RL.nil (thn_n (CW.ret ?_))
   refine thn_ret ?_
   refine thn_ret ?_
   obtain rfl := Option.some.inj hS
   exact ret1 rfl ⟨rfl, c0⟩
  have hS := ifF q10 hS
  refine CW.skip ?_
  refine thn_n (CW.seq (CW.region ?_))
  refine rl_assign rfl rfl ?_
  refine RL.nil (thn_n (CW.ret ?_))
  refine thn_ret ?_
  obtain rfl := Option.some.inj hS
  exact ret1 rfl ⟨rfl, c0⟩
 have hS := ifF q9 hS
 refine CW.skip ?_
 refine thn_n (CW.seq ?_)
 refine CW.seq (CW.region ?_)
 refine rl_move rfl rfl ?_
 refine RL.nil (thn_n ?_)
 obtain ⟨o19, ho20, hS⟩ := bindS hS
 refine CW.cutB (fun E' w' => ∃ (x11 : Int), Sub [] E' ∧ Ch nb w w' ∧ Lp.fin x11 = o19 ∧ Blk w' p1 24 (Addr.enc a0) ∧ Blk w' p5 24 (Addr.enc a1) ∧ (G F w.heap.size nb) p1 ∧ (G F w.heap.size nb) p5) ?_ ?_
 ·
  refine CW.loopS [(2, (PV p1)), (3, (PV p5)), (13, (Value.int .i64 0))] ⟨rfl, rfl, rfl, trivial⟩ FUEL (fun m E w' => ∃ (x11 : Int), E = [(2, (PV p1)), (3, (PV p5)), (13, (Value.int .i64 x11))] ∧ Ch nb w w' ∧ runW (F26_Compare_b1 a0 a1) m x11 = some o19 ∧ Blk w' p1 24 (Addr.enc a0) ∧ Blk w' p5 24 (Addr.enc a1) ∧ (G F w.heap.size nb) p1 ∧ (G F w.heap.size nb) p5)
      ⟨0, rfl, c0, ho20, k4, k8, gp1, gp5⟩ ?_
  rintro _ _ w25 ⟨x11, rfl, c24, hL14, k4, k8, gp1, gp5⟩
  obtain ⟨k23, q16, rfl, hq17⟩ := runW_some hL14
  have hb18 := hq17
  refine CW.seq (CW.region ?_)
  refine rl_bin rfl rfl B.lss rfl ?_
  refine RL.nil (thn_n (CW.seq ?_))
  refine CW.cond (t := decide (x11 < 16)) rfl (fun q27 => ?_) (fun q27 => ?_)
  ·
   have hb18 := ifT q27 hb18
   refine CW.skip ?_
   refine thn_n (CW.seq ?_)
   refine CW.block ?_
   refine CW.seq (CW.region ?_)
   refine rl_move rfl rfl ?_
   refine rl_assign rfl rfl ?_
   refine RL.nil (thn_n (CW.seq ?_))
   refine CW.seq ?_
   obtain ⟨y30, hy31, hb18⟩ := bindS hb18
   obtain ⟨y34, hy35, hb18⟩ := bindS hb18
   refine CW.draw 8 [(none, fun fx O uu wx => uu = (Value.int .i64 x11)), (none, fun fx O uu wx => uu = (Value.pointer (some ⟨p1, 1, none⟩))), (none, fun fx O uu wx => uu = (Value.pointer (some ⟨p1, (1 + x11.toNat), none⟩)) ∧ Seg wx p1 (1 + x11.toNat) [(Value.int .u8 y30)]), (none, fun fx O uu wx => uu = (Value.int .u8 y30)), (none, fun fx O uu wx => uu = (Value.int .i64 x11)), (none, fun fx O uu wx => uu = (Value.pointer (some ⟨p5, 1, none⟩))), (none, fun fx O uu wx => uu = (Value.pointer (some ⟨p5, (1 + x11.toNat), none⟩)) ∧ Seg wx p5 (1 + x11.toNat) [(Value.int .u8 y34)]), (none, fun fx O uu wx => uu = (Value.int .u8 y34))] [[], [], [0, 1], [2], [], [], [4, 5], [6]] [3, 7] nb (fun _ h => h.elim) mixed rfl rfl rfl rfl ?_ ?_
   ·
    refine Each.consS (fun fl O wk hE hN hO ck => ?_) ?_
    ·
     refine rl_move rfl rfl ?_
     exact RL.nil ⟨_, rfl, Ch.refl, rfl⟩
    refine Each.consS (fun fl O wk hE hN hO ck => ?_) ?_
    ·
     refine rl_fieldAddr rfl fa24_1 rfl ?_
     exact RL.nil ⟨_, rfl, Ch.refl, rfl⟩
    refine Each.consA ⟨fun _ _ _ _ _ cc hh => by obtain ⟨e, hs29⟩ := hh; exact ⟨e, hs29.ch0 cc⟩, fun h => absurd rfl h, fun fl O wk hE hN hO ck => ?_⟩ ?_
    ·
     have k4 := k4.ch0 ck
     refine Need.o1 rfl rfl rfl (fun _ h => h) ?_
     refine Need.o1 rfl rfl rfl (fun _ h => h) ?_
     refine rl_ixArr (l := A16u8.list a0.b) (val := (Value.int .u8)) (cs := A16u8.enc a0.b) rfl rfl (ixO_get hy31) Try.underlying22 rfl Try.sizeOf5 (k4.segAt 1 16) rfl rfl ?_
     intro hc38
     have hs39 : Seg wk p1 (1 + x11.toNat) [(Value.int .u8 y30)] := Seg.one hc38
     exact RL.nil ⟨_, rfl, Ch.refl, ⟨rfl, hs39⟩⟩
    refine Each.consS (fun fl O wk hE hN hO ck => ?_) ?_
    ·
     refine Need.one rfl rfl rfl ?_
     rintro _ ⟨e40, hs29⟩
     obtain rfl := e40.symm
     refine rl_loadS (v := (Value.int .u8 y30)) rfl Try.isAgg5 (hs29 0 _ rfl) rfl ?_
     exact RL.nil ⟨_, rfl, Ch.refl, rfl⟩
    refine Each.consS (fun fl O wk hE hN hO ck => ?_) ?_
    ·
     refine rl_move rfl rfl ?_
     exact RL.nil ⟨_, rfl, Ch.refl, rfl⟩
    refine Each.consS (fun fl O wk hE hN hO ck => ?_) ?_
    ·
     refine rl_fieldAddr rfl fa24_1 rfl ?_
     exact RL.nil ⟨_, rfl, Ch.refl, rfl⟩
    refine Each.consA ⟨fun _ _ _ _ _ cc hh => by obtain ⟨e, hs33⟩ := hh; exact ⟨e, hs33.ch0 cc⟩, fun h => absurd rfl h, fun fl O wk hE hN hO ck => ?_⟩ ?_
    ·
     have k8 := k8.ch0 ck
     refine Need.o1 rfl rfl rfl (fun _ h => h) ?_
     refine Need.o1 rfl rfl rfl (fun _ h => h) ?_
     refine rl_ixArr (l := A16u8.list a1.b) (val := (Value.int .u8)) (cs := A16u8.enc a1.b) rfl rfl (ixO_get hy35) Try.underlying22 rfl Try.sizeOf5 (k8.segAt 1 16) rfl rfl ?_
     intro hc43
     have hs44 : Seg wk p5 (1 + x11.toNat) [(Value.int .u8 y34)] := Seg.one hc43
     exact RL.nil ⟨_, rfl, Ch.refl, ⟨rfl, hs44⟩⟩
    refine Each.consS (fun fl O wk hE hN hO ck => ?_) ?_
    ·
     refine Need.one rfl rfl rfl ?_
     rintro _ ⟨e45, hs33⟩
     obtain rfl := e45.symm
     refine rl_loadS (v := (Value.int .u8 y34)) rfl Try.isAgg5 (hs33 0 _ rfl) rfl ?_
     exact RL.nil ⟨_, rfl, Ch.refl, rfl⟩
    trivial
   intro hvO48 OpO48 O48 w46 hO49 c47 hN50
   have k4 := k4.ch0 c47
   have k8 := k8.ch0 c47
   have c24 := c24.then0 c47
   refine Need.o1 rfl rfl rfl (fun _ h => h) ?_
   refine Need.o1 rfl rfl rfl (fun _ h => h) ?_
   refine rl_bin rfl rfl B.lss rfl ?_
   refine RL.nil (thn_n ?_)
   refine CW.cond (t := decide (y30 < y34)) rfl (fun q53 => ?_) (fun q53 => ?_)
   ·
    have hb18 := ifT q53 hb18
    refine CW.seq (CW.region ?_)
    refine rl_assign rfl rfl ?_
    refine RL.nil (thn_n (CW.ret ?_))
    refine thn_ret ?_
    refine inB_ret ?_
    refine thn_ret ?_
    refine thn_ret (inB_ret (thn_ret ?_))
    refine thn_ret ?_
    have f54 := runW_ret hL14 hq17 hb18
    have hS := retS f54 hS
    obtain rfl := Option.some.inj hS
    exact ret1 rfl ⟨rfl, c24⟩
   have hb18 := ifF q53 hb18
   refine CW.skip ?_
   refine thn_n (CW.seq ?_)
   obtain ⟨y57, hy58, hb18⟩ := bindS hb18
   obtain ⟨y61, hy62, hb18⟩ := bindS hb18
   refine CW.draw 8 [(none, fun fx O uu wx => uu = (Value.int .i64 x11)), (none, fun fx O uu wx => uu = (Value.pointer (some ⟨p1, 1, none⟩))), (none, fun fx O uu wx => uu = (Value.pointer (some ⟨p1, (1 + x11.toNat), none⟩)) ∧ Seg wx p1 (1 + x11.toNat) [(Value.int .u8 y57)]), (none, fun fx O uu wx => uu = (Value.int .u8 y57)), (none, fun fx O uu wx => uu = (Value.int .i64 x11)), (none, fun fx O uu wx => uu = (Value.pointer (some ⟨p5, 1, none⟩))), (none, fun fx O uu wx => uu = (Value.pointer (some ⟨p5, (1 + x11.toNat), none⟩)) ∧ Seg wx p5 (1 + x11.toNat) [(Value.int .u8 y61)]), (none, fun fx O uu wx => uu = (Value.int .u8 y61))] [[], [], [0, 1], [2], [], [], [4, 5], [6]] [3, 7] nb (fun _ h => h.elim) mixed rfl rfl rfl rfl ?_ ?_
   ·
    refine Each.consS (fun fl O wk hE hN hO ck => ?_) ?_
    ·
     refine rl_move rfl rfl ?_
     exact RL.nil ⟨_, rfl, Ch.refl, rfl⟩
    refine Each.consS (fun fl O wk hE hN hO ck => ?_) ?_
    ·
     refine rl_fieldAddr rfl fa24_1 rfl ?_
     exact RL.nil ⟨_, rfl, Ch.refl, rfl⟩
    refine Each.consA ⟨fun _ _ _ _ _ cc hh => by obtain ⟨e, hs56⟩ := hh; exact ⟨e, hs56.ch0 cc⟩, fun h => absurd rfl h, fun fl O wk hE hN hO ck => ?_⟩ ?_
    ·
     have k4 := k4.ch0 ck
     refine Need.o1 rfl rfl rfl (fun _ h => h) ?_
     refine Need.o1 rfl rfl rfl (fun _ h => h) ?_
     refine rl_ixArr (l := A16u8.list a0.b) (val := (Value.int .u8)) (cs := A16u8.enc a0.b) rfl rfl (ixO_get hy58) Try.underlying22 rfl Try.sizeOf5 (k4.segAt 1 16) rfl rfl ?_
     intro hc65
     have hs66 : Seg wk p1 (1 + x11.toNat) [(Value.int .u8 y57)] := Seg.one hc65
     exact RL.nil ⟨_, rfl, Ch.refl, ⟨rfl, hs66⟩⟩
    refine Each.consS (fun fl O wk hE hN hO ck => ?_) ?_
    ·
     refine Need.one rfl rfl rfl ?_
     rintro _ ⟨e67, hs56⟩
     obtain rfl := e67.symm
     refine rl_loadS (v := (Value.int .u8 y57)) rfl Try.isAgg5 (hs56 0 _ rfl) rfl ?_
     exact RL.nil ⟨_, rfl, Ch.refl, rfl⟩
    refine Each.consS (fun fl O wk hE hN hO ck => ?_) ?_
    ·
     refine rl_move rfl rfl ?_
     exact RL.nil ⟨_, rfl, Ch.refl, rfl⟩
    refine Each.consS (fun fl O wk hE hN hO ck => ?_) ?_
    ·
     refine rl_fieldAddr rfl fa24_1 rfl ?_
     exact RL.nil ⟨_, rfl, Ch.refl, rfl⟩
    refine Each.consA ⟨fun _ _ _ _ _ cc hh => by obtain ⟨e, hs60⟩ := hh; exact ⟨e, hs60.ch0 cc⟩, fun h => absurd rfl h, fun fl O wk hE hN hO ck => ?_⟩ ?_
    ·
     have k8 := k8.ch0 ck
     refine Need.o1 rfl rfl rfl (fun _ h => h) ?_
     refine Need.o1 rfl rfl rfl (fun _ h => h) ?_
     refine rl_ixArr (l := A16u8.list a1.b) (val := (Value.int .u8)) (cs := A16u8.enc a1.b) rfl rfl (ixO_get hy62) Try.underlying22 rfl Try.sizeOf5 (k8.segAt 1 16) rfl rfl ?_
     intro hc70
     have hs71 : Seg wk p5 (1 + x11.toNat) [(Value.int .u8 y61)] := Seg.one hc70
     exact RL.nil ⟨_, rfl, Ch.refl, ⟨rfl, hs71⟩⟩
    refine Each.consS (fun fl O wk hE hN hO ck => ?_) ?_
    ·
     refine Need.one rfl rfl rfl ?_
     rintro _ ⟨e72, hs60⟩
     obtain rfl := e72.symm
     refine rl_loadS (v := (Value.int .u8 y61)) rfl Try.isAgg5 (hs60 0 _ rfl) rfl ?_
     exact RL.nil ⟨_, rfl, Ch.refl, rfl⟩
    trivial
   intro hvO75 OpO75 O75 w73 hO76 c74 hN77
   have k4 := k4.ch0 c74
   have k8 := k8.ch0 c74
   have c24 := c24.then0 c74
   refine Need.o1 rfl rfl rfl (fun _ h => h) ?_
   refine Need.o1 rfl rfl rfl (fun _ h => h) ?_
   refine rl_bin rfl rfl B.gtr rfl ?_
   refine RL.nil (thn_n ?_)
   refine CW.cond (t := decide (y57 > y61)) rfl (fun q80 => ?_) (fun q80 => ?_)
   ·
    have hb18 := ifT q80 hb18
    refine CW.seq (CW.region ?_)
    refine rl_assign rfl rfl ?_
    refine RL.nil (thn_n (CW.ret ?_))
    refine inB_ret ?_
    refine thn_ret ?_
    refine thn_ret (inB_ret (thn_ret ?_))
    refine thn_ret ?_
    have f81 := runW_ret hL14 hq17 hb18
    have hS := retS f81 hS
    obtain rfl := Option.some.inj hS
    exact ret1 rfl ⟨rfl, c24⟩
   have hb18 := ifF q80 hb18
   refine CW.skip ?_
   refine inB_n ?_
   refine thn_n (CW.region ?_)
   refine rl_bin rfl rfl B.add rfl ?_
   refine rl_move rfl rfl ?_
   refine RL.nil (thn_n ?_)
   have hLn := runW_next hL14 hq17 hb18
   exact ⟨k23, Nat.lt_succ_self _, [(2, (PV p1)), (3, (PV p5)), (13, (Value.int .i64 (IntKind.i64.wrap (x11 + 1))))], ⟨rfl, rfl, rfl, trivial⟩, ⟨IntKind.i64.wrap (x11 + 1), rfl, c24, hLn, k4, k8, gp1, gp5⟩⟩
  have hb18 := ifF q27 hb18
  refine CW.exit ?_
  refine thn_exit ?_
  refine thn_exit ?_
  refine inB_hit ?_
  have hLf := runW_fin hL14 hq17 hb18
  exact ⟨x11, trivial, c24, hLf, k4, k8, gp1, gp5⟩
 rintro _ w83 ⟨x11, hE84, c82, f85, k4, k8, gp1, gp5⟩
 have hS := finS f85 hS
 refine thn_n (CW.sub [] hE84 ?_)
 refine CW.seq (CW.region ?_)
 refine rl_assign rfl rfl ?_
 refine RL.nil (thn_n (CW.ret ?_))
 obtain rfl := Option.some.inj hS
 exact ret1 rfl ⟨rfl, c82⟩
/-- lb/lbref05.Compare -/
theorem ctr27 (F : Nat → Prop) (w : World) (a0 : Key) (a1 : Key) (r : Int) (hs : F27_Compare a0 a1 = r) :
    Ret Try.prog 27 #[(Value.agg (Key.enc a0).toArray), (Value.agg (Key.enc a1).toArray)] w fun v w' => v = (Value.int .i64 r) ∧ Ch nb w w' := by
 have hS := hs
 have c0 : Ch nb w w := Ch.refl
 refine Ret.of (n := 27) (args := [_, _]) (rs := [.tmp 4]) Try.func27 rfl rfl rfl rfl ?_
 refine CW.seq (CW.region ?_)
 refine rl_boxA (cs := (Key.enc a0)) rfl rfl ?_
 intro p1 w2 n3 k4
 have c0 := c0.then0 n3.ch
 refine rl_boxA (cs := (Key.enc a1)) rfl rfl ?_
 intro p5 w6 n7 k8
 have k4 := k4.ch0 n7.ch
 have c0 := c0.then0 n7.ch
 refine rl_assign rfl rfl ?_
 refine RL.nil (thn_n (CW.seq ?_))
 refine CW.seq (CW.region ?_)
 refine rl_fieldAddr rfl fa26_0 rfl ?_
 refine rl_loadS (v := (Value.string a0.space)) rfl Try.isAgg9 (k4.cell rfl) rfl ?_
 refine rl_fieldAddr rfl fa26_0 rfl ?_
 refine rl_loadS (v := (Value.string a1.space)) rfl Try.isAgg9 (k8.cell rfl) rfl ?_
 refine rl_bin rfl rfl B.lssS rfl ?_
 refine rl_move rfl rfl ?_
 obtain ⟨b11, hb12⟩ : ∃ v, ((Op.bytesLess a0.space.toList a1.space.toList) || (lt ((decide (a0.space = a1.space)) && (Op.bytesLess a0.name.toList a1.name.toList)) fun b13 => b13)) = v := ⟨_, rfl⟩
 have hS := ltS hb12 hS
 refine RL.join 13 23 (.bool b11) (fun w' => Ch nb w6 w') ?_ ?_
 · rcases Bool.eq_false_or_eq_true (Op.bytesLess a0.space.toList a1.space.toList) with hg10 | hg10
   ·
    have hs9 := or_t hg10 hb12
    have cs : Ch nb w6 w6 := Ch.refl
    refine RL.no rfl rfl rfl hg10 rfl rfl ?_
    refine RL.no rfl rfl rfl hg10 rfl rfl ?_
    refine RL.no rfl rfl rfl hg10 rfl rfl ?_
    refine RL.no rfl rfl rfl hg10 rfl rfl ?_
    refine RL.no rfl rfl rfl hg10 rfl rfl ?_
    refine RL.no rfl rfl rfl hg10 rfl rfl ?_
    refine RL.noU rfl rfl rfl rfl rfl ?_
    refine RL.noU rfl rfl rfl rfl rfl ?_
    refine RL.noU rfl rfl rfl rfl rfl ?_
    refine RL.noU rfl rfl rfl rfl rfl ?_
    refine RL.noU rfl rfl rfl rfl rfl ?_
    refine RL.no rfl rfl rfl hg10 rfl rfl ?_
    refine rl_pickT rfl hg10 rfl rfl ?_
    exact RL.nil ⟨Ext.bothEq (congrArg Value.bool hs9) (Ext.skip rfl (Ext.skip rfl (Ext.skip rfl (Ext.skip rfl (Ext.skip rfl (Ext.skip rfl (Ext.skip rfl (Ext.skip rfl (Ext.skip rfl (Ext.skip rfl (Ext.skip rfl (Ext.skip rfl (Ext.rfl'))))))))))))), cs⟩
   ·
    have hs9 := or_f hg10 hb12
    have cs : Ch nb w6 w6 := Ch.refl
    refine RL.yes rfl rfl rfl hg10 ?_
    refine rl_fieldAddr rfl fa26_0 rfl ?_
    refine RL.yes rfl rfl rfl hg10 ?_
    refine rl_loadS (v := (Value.string a0.space)) rfl Try.isAgg9 (k4.cell rfl) rfl ?_
    refine RL.yes rfl rfl rfl hg10 ?_
    refine rl_fieldAddr rfl fa26_0 rfl ?_
    refine RL.yes rfl rfl rfl hg10 ?_
    refine rl_loadS (v := (Value.string a1.space)) rfl Try.isAgg9 (k8.cell rfl) rfl ?_
    refine RL.yes rfl rfl rfl hg10 ?_
    refine rl_bin rfl rfl B.eqlS rfl ?_
    refine RL.yes rfl rfl rfl hg10 ?_
    refine rl_move rfl rfl ?_
    obtain ⟨b16, hb17⟩ : ∃ v, ((decide (a0.space = a1.space)) && (Op.bytesLess a0.name.toList a1.name.toList)) = v := ⟨_, rfl⟩
    have hs9 := ltS hb17 hs9
    refine RL.join 6 22 (.bool b16) (fun w' => Ch nb w6 w') ?_ ?_
    · rcases Bool.eq_false_or_eq_true (decide (a0.space = a1.space)) with hg15 | hg15
      ·
       have hs14 := and_t hg15 hb17
       have cs : Ch nb w6 w6 := Ch.refl
       refine RL.yes rfl rfl rfl hg15 ?_
       refine rl_fieldAddr rfl fa26_1 rfl ?_
       refine RL.yes rfl rfl rfl hg15 ?_
       refine rl_loadS (v := (Value.string a0.name)) rfl Try.isAgg9 (k4.cell rfl) rfl ?_
       refine RL.yes rfl rfl rfl hg15 ?_
       refine rl_fieldAddr rfl fa26_1 rfl ?_
       refine RL.yes rfl rfl rfl hg15 ?_
       refine rl_loadS (v := (Value.string a1.name)) rfl Try.isAgg9 (k8.cell rfl) rfl ?_
       refine RL.yes rfl rfl rfl hg15 ?_
       refine rl_bin rfl rfl B.lssS rfl ?_
       refine RL.yes rfl rfl rfl hg10 ?_
       refine rl_pickT rfl hg15 rfl rfl ?_
       exact RL.nil ⟨Ext.bothEq (congrArg Value.bool hs14) (Ext.skip rfl (Ext.skip rfl (Ext.skip rfl (Ext.skip rfl (Ext.skip rfl (Ext.rfl')))))), cs⟩
      ·
       have hs14 := and_f hg15 hb17
       have cs : Ch nb w6 w6 := Ch.refl
       refine RL.no rfl rfl rfl hg15 rfl rfl ?_
       refine RL.no rfl rfl rfl hg15 rfl rfl ?_
       refine RL.no rfl rfl rfl hg15 rfl rfl ?_
       refine RL.no rfl rfl rfl hg15 rfl rfl ?_
       refine RL.no rfl rfl rfl hg15 rfl rfl ?_
       refine RL.yes rfl rfl rfl hg10 ?_
       refine rl_pickF rfl hg15 rfl rfl ?_
       exact RL.nil ⟨Ext.bothEq (congrArg Value.bool hs14) (Ext.skip rfl (Ext.skip rfl (Ext.skip rfl (Ext.skip rfl (Ext.skip rfl (Ext.rfl')))))), cs⟩
    intro w18 c19
    refine rl_pickF rfl hg10 rfl rfl ?_
    have cs := cs.then0 c19
    exact RL.nil ⟨Ext.bothEq (congrArg Value.bool hs9) (Ext.skip rfl (Ext.skip rfl (Ext.skip rfl (Ext.skip rfl (Ext.skip rfl (Ext.skip rfl (Ext.skip rfl (Ext.rfl')))))))), cs⟩
 intro w13 c20
 have k4 := k4.ch0 c20
 have k8 := k8.ch0 c20
 have c0 := c0.then0 c20
 refine RL.nil (thn_n ?_)
 refine CW.cond (t := b11) rfl (fun q21 => ?_) (fun q21 => ?_)
 ·
  have hS := ifT q21 hS
  refine CW.seq (CW.region ?_)
  refine rl_assign rfl rfl ?_
  refine RL.nil (thn_n (CW.ret ?_))
  refine thn_ret ?_
  obtain rfl := hS
  exact ret1 rfl ⟨rfl, c0⟩
 have hS := ifF q21 hS
 refine CW.skip ?_
 refine thn_n (CW.seq ?_)
 refine CW.seq (CW.region ?_)
 refine rl_loadA (cs := (Key.enc a0)) rfl Try.isAgg26 Try.sizeOf26 (k4.segAt 0 2) rfl rfl ?_
 refine rl_loadA (cs := (Key.enc a1)) rfl Try.isAgg26 Try.sizeOf26 (k8.segAt 0 2) rfl rfl ?_
 refine rl_bin rfl rfl (eql26 a0 a1) rfl ?_
 refine RL.nil (thn_n ?_)
 refine CW.cond (t := decide (a0 = a1)) rfl (fun q22 => ?_) (fun q22 => ?_)
 ·
  have hS := ifT q22 hS
  refine CW.seq (CW.region ?_)
  refine rl_assign rfl rfl ?_
  refine RL.nil (thn_n (CW.ret ?_))
  refine thn_ret ?_
  obtain rfl := hS
  exact ret1 rfl ⟨rfl, c0⟩
 have hS := ifF q22 hS
 refine CW.skip ?_
 refine thn_n (CW.seq (CW.region ?_))
 refine rl_assign rfl rfl ?_
 refine RL.nil (thn_n (CW.ret ?_))
 obtain rfl := hS
 exact ret1 rfl ⟨rfl, c0⟩
/-- lb/lbref31.Compare -/
theorem ctr10 (F : Nat → Prop) (w : World) (a0 : Tie) (a1 : Tie) (r : Int) (hs : F10_Compare a0 a1 = some r) :
    Ret Try.prog 10 #[(Value.agg (Tie.enc a0).toArray), (Value.agg (Tie.enc a1).toArray)] w fun v w' => v = (Value.int .i64 r) ∧ Ch nb w w' := by
 have hS := hs
 have c0 : Ch nb w w := Ch.refl
 refine Ret.of (n := 40) (args := [_, _]) (rs := [.tmp 4]) Try.func10 rfl rfl rfl rfl ?_
 refine CW.seq (CW.region ?_)
 refine rl_boxA (cs := (Tie.enc a0)) rfl rfl ?_
 intro p1 w2 n3 k4
 have c0 := c0.then0 n3.ch
 refine rl_boxA (cs := (Tie.enc a1)) rfl rfl ?_
 intro p5 w6 n7 k8
 have k4 := k4.ch0 n7.ch
 have c0 := c0.then0 n7.ch
 refine rl_assign rfl rfl ?_
 refine RL.nil (thn_n (CW.seq ?_))
 refine CW.seq (CW.region ?_)
 refine rl_fieldAddr rfl fa37_0 rfl ?_
 refine rl_loadA (cs := (Addr.enc a0.client)) rfl Try.isAgg24 Try.sizeOf24 (k4.segAt 0 17) rfl rfl ?_
 refine rl_fieldAddr rfl fa37_0 rfl ?_
 refine rl_loadA (cs := (Addr.enc a1.client)) rfl Try.isAgg24 Try.sizeOf24 (k8.segAt 0 17) rfl rfl ?_
 obtain ⟨y11, hy12, hS⟩ := bindS hS
 refine rl_callF rfl en26 rfl (ctr26 (G F w.heap.size nb) w6 a0.client a1.client y11 hy12) ?_
 rintro _ w9 ⟨rfl, c10⟩
 have k4 := k4.ch0 c10
 have k8 := k8.ch0 c10
 have c0 := c0.then0 c10
 refine rl_assign rfl rfl ?_
 refine RL.nil (thn_n (CW.seq (CW.region ?_)))
 refine rl_move rfl rfl ?_
 refine rl_bin rfl rfl B.neq rfl ?_
 refine RL.nil (thn_n ?_)
 refine CW.cond (t := !decide (y11 = 0)) rfl (fun q13 => ?_) (fun q13 => ?_)
 ·
  have hS := ifT q13 hS
  refine CW.seq (CW.region ?_)
  refine rl_move rfl rfl ?_
  refine rl_assign rfl rfl ?_
  refine RL.nil (thn_n (CW.ret ?_))
  refine thn_ret ?_
  obtain rfl := Option.some.inj hS
  exact ret1 rfl ⟨rfl, c0⟩
 have hS := ifF q13 hS
 refine CW.skip ?_
 refine thn_n (CW.seq ?_)
 refine CW.seq (CW.region ?_)
 refine rl_fieldAddr rfl fa37_1 rfl ?_
 refine rl_loadA (cs := (Key.enc a0.service)) rfl Try.isAgg26 Try.sizeOf26 (k4.segAt 17 2) rfl rfl ?_
 refine rl_fieldAddr rfl fa37_1 rfl ?_
 refine rl_loadA (cs := (Key.enc a1.service)) rfl Try.isAgg26 Try.sizeOf26 (k8.segAt 17 2) rfl rfl ?_
 obtain ⟨y16, hy17⟩ : ∃ y, F27_Compare a0.service a1.service = y := ⟨_, rfl⟩
 have hS := ltS hy17 hS
 refine rl_callF rfl en27 rfl (ctr27 (G F w.heap.size nb) w9 a0.service a1.service y16 hy17) ?_
 rintro _ w14 ⟨rfl, c15⟩
 have k4 := k4.ch0 c15
 have k8 := k8.ch0 c15
 have c0 := c0.then0 c15
 refine rl_assign rfl rfl ?_
 refine RL.nil (thn_n (CW.seq (CW.region ?_)))
 refine rl_move rfl rfl ?_
 refine rl_bin rfl rfl B.neq rfl ?_
 refine RL.nil (thn_n ?_)
 refine CW.cond (t := !decide (y16 = 0)) rfl (fun q18 => ?_) (fun q18 => ?_)
 ·
  have hS := ifT q18 hS
  refine CW.seq (CW.region ?_)
  refine rl_move rfl rfl ?_
  refine rl_assign rfl rfl ?_
  refine RL.nil (thn_n (CW.ret ?_))
  refine thn_ret ?_
  obtain rfl := Option.some.inj hS
  exact ret1 rfl ⟨rfl, c0⟩
 have hS := ifF q18 hS
 refine CW.skip ?_
 refine thn_n (CW.seq ?_)
 refine CW.seq (CW.region ?_)
 refine rl_fieldAddr rfl fa37_2 rfl ?_
 refine rl_loadS (v := (Value.string a0.name)) rfl Try.isAgg9 (k4.cell rfl) rfl ?_
 refine rl_fieldAddr rfl fa37_2 rfl ?_
 refine rl_loadS (v := (Value.string a1.name)) rfl Try.isAgg9 (k8.cell rfl) rfl ?_
 refine rl_bin rfl rfl B.neqS rfl ?_
 refine RL.nil (thn_n ?_)
 refine CW.cond (t := !decide (a0.name = a1.name)) rfl (fun q19 => ?_) (fun q19 => ?_)
 ·
  have hS := ifT q19 hS
  refine CW.seq ?_
  refine CW.seq (CW.region ?_)
  refine rl_fieldAddr rfl fa37_2 rfl ?_
  refine rl_loadS (v := (Value.string a0.name)) rfl Try.isAgg9 (k4.cell rfl) rfl ?_
  refine rl_fieldAddr rfl fa37_2 rfl ?_
  refine rl_loadS (v := (Value.string a1.name)) rfl Try.isAgg9 (k8.cell rfl) rfl ?_
  refine rl_bin rfl rfl B.lssS rfl ?_
  refine RL.nil (thn_n ?_)
  refine CW.cond (t := Op.bytesLess a0.name.toList a1.name.toList) rfl (fun q20 => ?_) (fun q20 => ?_)
  ·
   have hS := ifT q20 hS
   refine CW.seq (CW.region ?_)
   refine rl_assign rfl rfl ?_
   refine RL.nil (thn_n (CW.ret ?_))
   refine thn_ret ?_
   refine thn_ret ?_
   obtain rfl := Option.some.inj hS
   exact ret1 rfl ⟨rfl, c0⟩
  have hS := ifF q20 hS
  refine CW.skip ?_
  refine thn_n (CW.seq (CW.region ?_))
  refine rl_assign rfl rfl ?_
  refine RL.nil (thn_n (CW.ret ?_))
  refine thn_ret ?_
  obtain rfl := Option.some.inj hS
  exact ret1 rfl ⟨rfl, c0⟩
 have hS := ifF q19 hS
 refine CW.skip ?_
 refine thn_n (CW.seq ?_)
 refine CW.seq (CW.region ?_)
 refine rl_fieldAddr rfl fa37_3 rfl ?_
 refine rl_loadS (v := (Value.bool a0.localF)) rfl Try.isAgg4 (k4.cell rfl) rfl ?_
 refine rl_fieldAddr rfl fa37_3 rfl ?_
 refine rl_loadS (v := (Value.bool a1.localF)) rfl Try.isAgg4 (k8.cell rfl) rfl ?_
 refine rl_bin rfl rfl (B.eqlB Try.underlying4) rfl ?_
 refine RL.nil (thn_n ?_)
 refine CW.cond (t := (a0.localF == a1.localF)) rfl (fun q21 => ?_) (fun q21 => ?_)
 ·
  have hS := ifT q21 hS
  refine CW.seq (CW.region ?_)
  refine rl_assign rfl rfl ?_
  refine RL.nil (thn_n (CW.ret ?_))
  refine thn_ret ?_
  obtain rfl := Option.some.inj hS
  exact ret1 rfl ⟨rfl, c0⟩
 have hS := ifF q21 hS
 refine CW.skip ?_
 refine thn_n (CW.seq ?_)
 refine CW.seq (CW.region ?_)
 refine rl_fieldAddr rfl fa37_3 rfl ?_
 refine rl_loadS (v := (Value.bool a0.localF)) rfl Try.isAgg4 (k4.cell rfl) rfl ?_
 refine RL.nil (thn_n ?_)
 refine CW.cond (t := a0.localF) rfl (fun q22 => ?_) (fun q22 => ?_)
 ·
  have hS := ifT q22 hS
  refine CW.seq (CW.region ?_)
  refine rl_assign rfl rfl ?_
  refine RL.nil (thn_n (CW.ret ?_))
  refine thn_ret ?_
  obtain rfl := Option.some.inj hS
  exact ret1 rfl ⟨rfl, c0⟩
 have hS := ifF q22 hS
 refine CW.skip ?_
 refine thn_n (CW.seq (CW.region ?_))
 refine rl_assign rfl rfl ?_
 refine RL.nil (thn_n (CW.ret ?_))
 obtain rfl := Option.some.inj hS
 exact ret1 rfl ⟨rfl, c0⟩
/-- (*lb/lbref31.Ties).Put -/
theorem ctr28 (F : Nat → Prop) (w : World) (Bb : Nat) (S2 : Nat → Prop) (hB : Bb ≤ w.heap.size) (h2 : ∀ b, S2 b → b < w.heap.size) (po0 : Nat) (az0_0 : Value) (hd2 : ∀ b, (un (inBlk (PV po0)) (inBlk az0_0)) b → ¬ S2 b) (hx0_1 : ∀ b, inBlk (PV po0) b → ¬ inBlk az0_0 b) (a0 : Ties_2) (ah0 : Blk w po0 48 (Ties_2.c a0 az0_0)) (ah0_0 : SlO k_Tie 37 F Bb (un (inBlk (PV po0)) (un (inBlk az0_0) S2)) w a0.all az0_0) (a1 : Tie) (a2 : Int) (r : (Tie × Bool × Ties_2)) (hs : F28_Put a0 a1 a2 = some r) :
    Ret Try.prog 28 #[(PV po0), (Value.agg (Tie.enc a1).toArray), (Value.int .i64 a2)] w fun v w' => ∃ (nz0_0 : Value), v = Value.tuple #[(Value.agg (Tie.enc r.1).toArray), (Value.bool r.2.1)] ∧ Blk w' po0 48 (Ties_2.c r.2.2 nz0_0) ∧ SlO k_Tie 37 F Bb (un (inBlk (PV po0)) (un (inBlk nz0_0) S2)) w' r.2.2.all nz0_0 ∧ (∀ b, inBlk nz0_0 b → (un (inBlk (PV po0)) (inBlk az0_0)) b ∨ w.heap.size ≤ b) ∧ (∀ b, inBlk (PV po0) b → ¬ inBlk nz0_0 b) ∧ Ch (un (inBlk (PV po0)) (inBlk az0_0)) w w' := by
 have hS := hs
 have c0 : Ch (un (inBlk (PV po0)) (inBlk az0_0)) w w := Ch.refl
 have lin0_0 : ∀ b, inBlk (PV po0) b → (un (inBlk (PV po0)) (inBlk az0_0)) b ∨ w.heap.size ≤ b := fun b h => .inl (.inl h)
 have lin1_0 : ∀ b, inBlk az0_0 b → (un (inBlk (PV po0)) (inBlk az0_0)) b ∨ w.heap.size ≤ b := fun b h => .inl (.inr h)
 refine Ret.of (n := 101) (args := [_, _, _]) (rs := [.cell 6 37, .tmp 7]) Try.func28 rfl rfl rfl rfl ?_
 refine CW.seq (CW.region ?_)
 refine rl_boxA (cs := (Tie.enc a1)) rfl rfl ?_
 intro p1 w2 n3 k4
 have lo5 : ∀ b, inBlk (PV p1) b → w.heap.size ≤ b := fun b h => Nat.le_trans c0.size (n3.fresh b h)
 have d6 : ∀ b, inBlk (PV p1) b → ¬ inBlk (PV po0) b := disNew n3.fresh ah0.ltp
 have d7 : ∀ b, inBlk (PV p1) b → ¬ inBlk az0_0 b := disNew n3.fresh (fun b hb => (ah0_0.lt b hb).2)
 have ah0 := ah0.ch0 n3.ch
 have ah0_0 := ah0_0.st n3.ch (fun _ _ x => x) (admNew n3.fresh (fun _ x => x)) (fun b h => (.inr (.inr (.inl h))))
 have c0 := c0.then0 n3.ch
 refine rl_alloc (Tie.enc Tie.z) Try.zeroValue37 rfl rfl ?_
 intro p8 w9 n10 k11
 have lo12 : ∀ b, inBlk (PV p8) b → w.heap.size ≤ b := fun b h => Nat.le_trans c0.size (n10.fresh b h)
 have d13 : ∀ b, inBlk (PV p8) b → ¬ inBlk (PV p1) b := disNew n10.fresh k4.ltp
 have d14 : ∀ b, inBlk (PV p8) b → ¬ inBlk (PV po0) b := disNew n10.fresh ah0.ltp
 have d15 : ∀ b, inBlk (PV p8) b → ¬ inBlk az0_0 b := disNew n10.fresh (fun b hb => (ah0_0.lt b hb).2)
 have ah0 := ah0.ch0 n10.ch
 have ah0_0 := ah0_0.st n10.ch (fun _ _ x => x) (admNew n10.fresh (fun _ x => x)) (fun b h => (.inr (.inr (.inr (.inl h)))))
 have k4 := k4.ch0 n10.ch
 have c0 := c0.then0 n10.ch
 refine rl_assign rfl rfl ?_
 refine RL.nil (thn_n (CW.seq (CW.region ?_)))
 refine rl_build (out := (Tie.enc ({ client := Addr.z, service := Key.z, name := ⟨#[]⟩, localF := false, backend := Point.z, last := 0 } : Tie))) rfl pl37 Try.zeroValue37 rfl rfl rfl ?_
 refine rl_alloc (Tie.enc Tie.z) Try.zeroValue37 rfl rfl ?_
 intro p16 w17 n18 k19
 have lo20 : ∀ b, inBlk (PV p16) b → w.heap.size ≤ b := fun b h => Nat.le_trans c0.size (n18.fresh b h)
 have d21 : ∀ b, inBlk (PV p16) b → ¬ inBlk (PV p8) b := disNew n18.fresh k11.ltp
 have d22 : ∀ b, inBlk (PV p16) b → ¬ inBlk (PV p1) b := disNew n18.fresh k4.ltp
 have d23 : ∀ b, inBlk (PV p16) b → ¬ inBlk (PV po0) b := disNew n18.fresh ah0.ltp
 have d24 : ∀ b, inBlk (PV p16) b → ¬ inBlk az0_0 b := disNew n18.fresh (fun b hb => (ah0_0.lt b hb).2)
 have ah0 := ah0.ch0 n18.ch
 have ah0_0 := ah0_0.st n18.ch (fun _ _ x => x) (admNew n18.fresh (fun _ x => x)) (fun b h => (.inr (.inr (.inr (.inr (.inl h))))))
 have k4 := k4.ch0 n18.ch
 have k11 := k11.ch0 n18.ch
 have c0 := c0.then0 n18.ch
 refine rl_storeA (vs := (Tie.enc ({ client := Addr.z, service := Key.z, name := ⟨#[]⟩, localF := false, backend := Point.z, last := 0 } : Tie))) rfl rfl (all_one rfl) Try.sizeOf37 rfl k19 rfl ?_
 intro w25 s27 c26 k28
 have ad29 : ∀ b, b < w17.heap.size → ¬ (un (inBlk (PV p16)) (un (inBlk (PV p8)) (un (inBlk (PV p1)) (un (inBlk (PV po0)) (un (inBlk az0_0) S2))))) b → ¬ (inBlk (PV p16)) b ∧ ¬ (un (inBlk (PV p16)) (un (inBlk (PV p8)) (un (inBlk (PV p1)) (un (inBlk (PV po0)) (un (inBlk az0_0) S2))))) b := fun b _ hs => ⟨fun h => hs (.inl h), hs⟩
 have ah0 := ah0.ch c26 ((fun b hb h => (disSym d23) b hb h) _ rfl)
 have ah0_0 := ah0_0.st c26 (fun b hb h => (disSym d24) b hb h) ad29 (fun b h => (.inr (.inr (.inr (.inr (.inl h))))))
 have k4 := k4.ch c26 ((fun b hb h => (disSym d22) b hb h) _ rfl)
 have k11 := k11.ch c26 ((fun b hb h => (disSym d21) b hb h) _ rfl)
 have c0 := c0.then c26 (fun i hi h => absurd (lo20 i h) (Nat.not_le_of_lt hi))
 refine rl_assign rfl rfl ?_
 refine RL.nil (thn_n (CW.seq ?_))
 refine CW.seq (CW.region ?_)
 refine rl_move rfl rfl ?_
 refine rl_loadA (cs := (Tie.enc a1)) rfl Try.isAgg37 Try.sizeOf37 (k4.segAt 0 40) rfl rfl ?_
 have hd30 : ∀ b, (un (inBlk (PV po0)) (inBlk az0_0)) b → ¬ (un (inBlk (PV p16)) (un (inBlk (PV p8)) (un (inBlk (PV p1)) S2))) b := fun b h => un_el h (fun h => (fun b hb => fun h => un_el h (fun h => (disSym d23) b hb h) (fun h => un_el h (fun h => (disSym d14) b hb h) (fun h => un_el h (fun h => (disSym d6) b hb h) (linNot lin0_0 hd2 h2 b hb)))) b h) (fun h => (fun b hb => fun h => un_el h (fun h => (disSym d24) b hb h) (fun h => un_el h (fun h => (disSym d15) b hb h) (fun h => un_el h (fun h => (disSym d7) b hb h) (linNot lin1_0 hd2 h2 b hb)))) b h)
 have hS31 : (un (inBlk (PV p16)) (un (inBlk (PV p8)) (un (inBlk (PV p1)) (un (inBlk (PV po0)) (un (inBlk az0_0) S2))))) = (un (inBlk (PV po0)) (un (inBlk az0_0) (un (inBlk (PV p16)) (un (inBlk (PV p8)) (un (inBlk (PV p1)) S2))))) := funext fun b => propext ⟨fun h => un_el h (fun h => (.inr (.inr (.inl h)))) (fun h => un_el h (fun h => (.inr (.inr (.inr (.inl h))))) (fun h => un_el h (fun h => (.inr (.inr (.inr (.inr (.inl h)))))) (fun h => un_el h (fun h => (.inl h)) (fun h => un_el h (fun h => (.inr (.inl h))) (fun h => (.inr (.inr (.inr (.inr (.inr h)))))))))), fun h => un_el h (fun h => (.inr (.inr (.inr (.inl h))))) (fun h => un_el h (fun h => (.inr (.inr (.inr (.inr (.inl h)))))) (fun h => un_el h (fun h => (.inl h)) (fun h => un_el h (fun h => (.inr (.inl h))) (fun h => un_el h (fun h => (.inr (.inr (.inl h)))) (fun h => (.inr (.inr (.inr (.inr (.inr h))))))))))⟩
 obtain ⟨y34, hy35⟩ : ∃ y, F36_find a0 a1 = y := ⟨_, rfl⟩
 have hS := ltS hy35 hS
 refine rl_callF rfl en36 rfl (ctr36 F w25 Bb (un (inBlk (PV p16)) (un (inBlk (PV p8)) (un (inBlk (PV p1)) S2))) (Nat.le_trans hB c0.size) (un_lt k28.ltp (un_lt k11.ltp (un_lt k4.ltp (fun b h => Nat.lt_of_lt_of_le (h2 b h) c0.size)))) po0 az0_0 hd30 hx0_1 a0 ah0 (hS31 ▸ ah0_0) a1 y34 hy35) ?_
 rintro _ w32 ⟨rfl, c33⟩
 have ah0 := ah0.ch0 c33
 have ah0_0 := ah0_0.ch0 c33
 have k4 := k4.ch0 c33
 have k11 := k11.ch0 c33
 have k28 := k28.ch0 c33
 have c0 := c0.then0 c33
 refine rl_bin rfl rfl B.lss rfl ?_
 refine rl_move rfl rfl ?_
 obtain ⟨b38, hb39⟩ : ∃ v, ((decide (y34 < 0)) && (decide (((a0.all.length : Nat) : Int) ≥ 16))) = v := ⟨_, rfl⟩
 have hS := ltS hb39 hS
 refine RL.join 7 25 (.bool b38) (fun w' => Ch nb w32 w') ?_ ?_
 · rcases Bool.eq_false_or_eq_true (decide (y34 < 0)) with hg37 | hg37
   ·
    have hs36 := and_t hg37 hb39
    have cs : Ch nb w32 w32 := Ch.refl
    refine RL.yes rfl rfl rfl hg37 ?_
    refine rl_move rfl rfl ?_
    refine RL.yes rfl rfl rfl hg37 ?_
    refine rl_nilCheck rfl rfl ?_
    refine RL.yes rfl rfl rfl hg37 ?_
    refine rl_fieldAddr rfl fa48_0 rfl ?_
    refine RL.yes rfl rfl rfl hg37 ?_
    refine rl_loadS (v := az0_0) rfl Try.isAgg46 (ah0.cell rfl) rfl ?_
    refine RL.yes rfl rfl rfl hg37 ?_
    refine rl_lenR rfl (SlO.read (S' := (un (inBlk (PV p16)) (un (inBlk (PV p8)) (un (inBlk (PV p1)) (un (inBlk (PV po0)) S2))))) k_Tie_pos ah0_0 (fun b hs h => hs (un_el h (fun h => (.inl h)) (fun h => un_el h (fun h => (.inr (.inl h))) (fun h => un_el h (fun h => (.inr (.inr (.inl h)))) (fun h => un_el h (fun h => (.inr (.inr (.inr (.inl h))))) (fun h => (.inr (.inr (.inr (.inr (.inr h))))))))))) (fun b hb => fun h => un_el h (fun h => (disSym d24) b hb h) (fun h => un_el h (fun h => (disSym d15) b hb h) (fun h => un_el h (fun h => (disSym d7) b hb h) (fun h => un_el h (fun h => (disSym hx0_1) b hb h) (linNot lin1_0 hd2 h2 b hb)))))) Try.underlying46 rfl ?_
    refine RL.yes rfl rfl rfl hg37 ?_
    refine rl_bin rfl rfl B.geq rfl ?_
    refine rl_pickT rfl hg37 rfl rfl ?_
    exact RL.nil ⟨Ext.bothEq (congrArg Value.bool hs36) (Ext.skip rfl (Ext.skip rfl (Ext.skip rfl (Ext.skip rfl (Ext.skip rfl (Ext.skip rfl (Ext.rfl'))))))), cs⟩
   ·
    have hs36 := and_f hg37 hb39
    have cs : Ch nb w32 w32 := Ch.refl
    refine RL.no rfl rfl rfl hg37 rfl rfl ?_
    refine RL.no rfl rfl rfl hg37 rfl rfl ?_
    refine RL.no rfl rfl rfl hg37 rfl rfl ?_
    refine RL.no rfl rfl rfl hg37 rfl rfl ?_
    refine RL.no rfl rfl rfl hg37 rfl rfl ?_
    refine RL.no rfl rfl rfl hg37 rfl rfl ?_
    refine rl_pickF rfl hg37 rfl rfl ?_
    exact RL.nil ⟨Ext.bothEq (congrArg Value.bool hs36) (Ext.skip rfl (Ext.skip rfl (Ext.skip rfl (Ext.skip rfl (Ext.skip rfl (Ext.skip rfl (Ext.rfl'))))))), cs⟩
 intro w40 c41
 have ah0 := ah0.ch0 c41
 have ah0_0 := ah0_0.ch0 c41
 have k4 := k4.ch0 c41
 have k11 := k11.ch0 c41
 have k28 := k28.ch0 c41
 have c0 := c0.then0 c41
 refine RL.nil (thn_n ?_)
 refine CW.cond (t := b38) rfl (fun q42 => ?_) (fun q42 => ?_)
 ·
  have hS := ifT q42 hS
  refine CW.seq (CW.region ?_)
  refine rl_move rfl rfl ?_
  refine rl_nilCheck rfl rfl ?_
  refine rl_fieldAddr rfl fa48_0 rfl ?_
  refine rl_loadS (v := az0_0) rfl Try.isAgg46 (ah0.cell rfl) rfl ?_
  obtain ⟨y49, hy50, hS⟩ := bindS hS
  refine rl_ixOR rfl ah0_0 rfl (ixO_get hy50) k_Tie_pos Try.underlying46 Try.sizeOf37 rfl ?_
  intro p43 o44 cs45 hr46 hs47 hg48
  obtain rfl := hr46
  refine rl_loadA (cs := (Tie.enc y49)) rfl Try.isAgg37 Try.sizeOf37 (hs47) rfl rfl ?_
  refine rl_storeA (vs := (Tie.enc y49)) rfl rfl (all_one rfl) Try.sizeOf37 rfl k28 rfl ?_
  intro w51 s53 c52 k54
  have ad55 : ∀ b, b < w40.heap.size → ¬ (un (inBlk (PV p16)) (un (inBlk (PV p8)) (un (inBlk (PV p1)) (un (inBlk (PV po0)) (un (inBlk az0_0) S2))))) b → ¬ (inBlk (PV p16)) b ∧ ¬ (un (inBlk (PV p16)) (un (inBlk (PV p8)) (un (inBlk (PV p1)) (un (inBlk (PV po0)) (un (inBlk az0_0) S2))))) b := fun b _ hs => ⟨fun h => hs (.inl h), hs⟩
  have ah0 := ah0.ch c52 ((fun b hb h => (disSym d23) b hb h) _ rfl)
  have ah0_0 := ah0_0.st c52 (fun b hb h => (disSym d24) b hb h) ad55 (fun b h => (.inr (.inr (.inr (.inr (.inl h))))))
  have k4 := k4.ch c52 ((fun b hb h => (disSym d22) b hb h) _ rfl)
  have k11 := k11.ch c52 ((fun b hb h => (disSym d21) b hb h) _ rfl)
  have c0 := c0.then c52 (fun i hi h => absurd (lo20 i h) (Nat.not_le_of_lt hi))
  refine rl_assign rfl rfl ?_
  refine RL.nil (thn_n (CW.seq ?_))
  refine CW.seq (CW.region ?_)
  refine rl_move rfl rfl ?_
  refine rl_nilCheck rfl rfl ?_
  refine rl_fieldAddr rfl fa48_0 rfl ?_
  refine rl_loadS (v := az0_0) rfl Try.isAgg46 (ah0.cell rfl) rfl ?_
  refine rl_lenR rfl (SlO.read (S' := (un (inBlk (PV p16)) (un (inBlk (PV p8)) (un (inBlk (PV p1)) (un (inBlk (PV po0)) S2))))) k_Tie_pos ah0_0 (fun b hs h => hs (un_el h (fun h => (.inl h)) (fun h => un_el h (fun h => (.inr (.inl h))) (fun h => un_el h (fun h => (.inr (.inr (.inl h)))) (fun h => un_el h (fun h => (.inr (.inr (.inr (.inl h))))) (fun h => (.inr (.inr (.inr (.inr (.inr h))))))))))) (fun b hb => fun h => un_el h (fun h => (disSym d24) b hb h) (fun h => un_el h (fun h => (disSym d15) b hb h) (fun h => un_el h (fun h => (disSym d7) b hb h) (fun h => un_el h (fun h => (disSym hx0_1) b hb h) (linNot lin1_0 hd2 h2 b hb)))))) Try.underlying46 rfl ?_
  refine rl_move rfl rfl ?_
  refine RL.nil (thn_n ?_)
  obtain ⟨o75, ho76⟩ : ∃ o, runA F28_Put_b1 a0.all y49 = o := ⟨_, rfl⟩
  have hS := ltS ho76 hS
  refine CW.cutB (fun E' w' => ∃ (x56 : Tie), Sub [(0, (PV po0)), (2, (Value.int .i64 a2)), (4, (PV p1)), (6, (PV p8)), (8, (PV p16)), (9, (Value.bool true))] E' ∧ Ch (un (inBlk (PV po0)) (inBlk az0_0)) w w' ∧ x56 = o75 ∧ Blk w' po0 48 (Ties_2.c a0 az0_0) ∧ SlO k_Tie 37 F Bb (un (inBlk (PV p16)) (un (inBlk (PV p8)) (un (inBlk (PV p1)) (un (inBlk (PV po0)) (un (inBlk az0_0) S2))))) w' a0.all az0_0 ∧ Blk w' p1 37 (Tie.enc a1) ∧ Blk w' p8 37 (Tie.enc Tie.z) ∧ Blk w' p16 37 (Tie.enc x56) ∧ (∀ b, inBlk (PV p16) b → ¬ inBlk (PV p8) b) ∧ (∀ b, inBlk (PV p16) b → ¬ inBlk (PV p1) b) ∧ (∀ b, inBlk (PV p16) b → ¬ inBlk (PV po0) b) ∧ (∀ b, inBlk (PV p16) b → ¬ inBlk az0_0 b) ∧ (∀ b, inBlk (PV p8) b → ¬ inBlk (PV p1) b) ∧ (∀ b, inBlk (PV p8) b → ¬ inBlk (PV po0) b) ∧ (∀ b, inBlk (PV p8) b → ¬ inBlk az0_0 b) ∧ (∀ b, inBlk (PV p1) b → ¬ inBlk (PV po0) b) ∧ (∀ b, inBlk (PV p1) b → ¬ inBlk az0_0 b) ∧ (∀ b, inBlk (PV po0) b → ¬ inBlk az0_0 b)) ?_ ?_
  ·
   refine CW.loopS [(0, (PV po0)), (2, (Value.int .i64 a2)), (4, (PV p1)), (6, (PV p8)), (8, (PV p16)), (9, (Value.bool true)), (35, az0_0), (36, (Value.int .i64 ((a0.all.length : Nat) : Int))), (37, (Value.int .i64 ((0 : Nat) : Int)))] ⟨rfl, rfl, rfl, rfl, rfl, rfl, rfl, rfl, rfl, trivial⟩ a0.all.length (fun m E w' => ∃ (rest68 : List Tie) (i69 : Nat) (x56 : Tie), m = rest68.length ∧ E = [(0, (PV po0)), (2, (Value.int .i64 a2)), (4, (PV p1)), (6, (PV p8)), (8, (PV p16)), (9, (Value.bool true)), (35, az0_0), (36, (Value.int .i64 ((a0.all.length : Nat) : Int))), (37, (Value.int .i64 ((i69 : Nat) : Int)))] ∧ Ch (un (inBlk (PV po0)) (inBlk az0_0)) w w' ∧ At a0.all i69 rest68 ∧ runA F28_Put_b1 rest68 x56 = o75 ∧ Blk w' po0 48 (Ties_2.c a0 az0_0) ∧ SlO k_Tie 37 F Bb (un (inBlk (PV p16)) (un (inBlk (PV p8)) (un (inBlk (PV p1)) (un (inBlk (PV po0)) (un (inBlk az0_0) S2))))) w' a0.all az0_0 ∧ Blk w' p1 37 (Tie.enc a1) ∧ Blk w' p8 37 (Tie.enc Tie.z) ∧ Blk w' p16 37 (Tie.enc x56) ∧ (∀ b, inBlk (PV p16) b → ¬ inBlk (PV p8) b) ∧ (∀ b, inBlk (PV p16) b → ¬ inBlk (PV p1) b) ∧ (∀ b, inBlk (PV p16) b → ¬ inBlk (PV po0) b) ∧ (∀ b, inBlk (PV p16) b → ¬ inBlk az0_0 b) ∧ (∀ b, inBlk (PV p8) b → ¬ inBlk (PV p1) b) ∧ (∀ b, inBlk (PV p8) b → ¬ inBlk (PV po0) b) ∧ (∀ b, inBlk (PV p8) b → ¬ inBlk az0_0 b) ∧ (∀ b, inBlk (PV p1) b → ¬ inBlk (PV po0) b) ∧ (∀ b, inBlk (PV p1) b → ¬ inBlk az0_0 b) ∧ (∀ b, inBlk (PV po0) b → ¬ inBlk az0_0 b))
       ⟨a0.all, 0, y49, rfl, rfl, c0, At.start, ho76, ah0, ah0_0, k4, k11, k54, d21, d22, d23, d24, d13, d14, d15, d6, d7, hx0_1⟩ ?_
   rintro _ _ w81 ⟨rest68, i69, x56, rfl, rfl, c80, hat71, hL70, ah0, ah0_0, k4, k11, k57, d58, d59, d60, d61, d62, d63, d64, d65, d66, d67⟩
   refine CW.seq (CW.region ?_)
   refine rl_bin rfl rfl B.lss rfl ?_
   refine RL.nil (thn_n ?_)
   refine CW.seq ?_
   refine CW.cond (t := decide (((i69 : Nat) : Int) < ((a0.all.length : Nat) : Int))) rfl (fun q83 => ?_) (fun q83 => ?_)
   ·
    obtain ⟨x77, rest84, rfl⟩ := hat71.cons q83
    obtain ⟨q72, hq73⟩ : ∃ q, F28_Put_b1 x77 x56 = q := ⟨_, rfl⟩
    have hb74 := hq73
    refine CW.skip (thn_n ?_)
    refine CW.seq ?_
    refine CW.block ?_
    refine CW.seq (CW.region ?_)
    refine rl_ixOR rfl ah0_0 rfl (ixN hat71.get) k_Tie_pos Try.underlying46 Try.sizeOf37 rfl ?_
    intro p85 o86 cs87 hr88 hs89 hg90
    obtain rfl := hr88
    refine rl_loadA (cs := (Tie.enc x77)) rfl Try.isAgg37 Try.sizeOf37 (hs89) rfl rfl ?_
    refine rl_alloc (Tie.enc Tie.z) Try.zeroValue37 rfl rfl ?_
    intro p91 w92 n93 k94
    have lo95 : ∀ b, inBlk (PV p91) b → w.heap.size ≤ b := fun b h => Nat.le_trans c80.size (n93.fresh b h)
    have d96 : ∀ b, inBlk (PV p91) b → ¬ inBlk (PV p16) b := disNew n93.fresh k57.ltp
    have d97 : ∀ b, inBlk (PV p91) b → ¬ inBlk (PV p8) b := disNew n93.fresh k11.ltp
    have d98 : ∀ b, inBlk (PV p91) b → ¬ inBlk (PV p1) b := disNew n93.fresh k4.ltp
    have d99 : ∀ b, inBlk (PV p91) b → ¬ inBlk (PV po0) b := disNew n93.fresh ah0.ltp
    have d100 : ∀ b, inBlk (PV p91) b → ¬ inBlk az0_0 b := disNew n93.fresh (fun b hb => (ah0_0.lt b hb).2)
    have ah0 := ah0.ch0 n93.ch
    have ah0_0 := ah0_0.st n93.ch (fun _ _ x => x) (admNew n93.fresh (fun _ x => x)) (fun b h => (.inr (.inr (.inr (.inr (.inr (.inl h)))))))
    have k4 := k4.ch0 n93.ch
    have k11 := k11.ch0 n93.ch
    have k57 := k57.ch0 n93.ch
    have c80 := c80.then0 n93.ch
    refine rl_storeA (vs := (Tie.enc x77)) rfl rfl (all_one rfl) Try.sizeOf37 rfl k94 rfl ?_
    intro w101 s103 c102 k104
    have ad105 : ∀ b, b < w92.heap.size → ¬ (un (inBlk (PV p91)) (un (inBlk (PV p16)) (un (inBlk (PV p8)) (un (inBlk (PV p1)) (un (inBlk (PV po0)) (un (inBlk az0_0) S2)))))) b → ¬ (inBlk (PV p91)) b ∧ ¬ (un (inBlk (PV p91)) (un (inBlk (PV p16)) (un (inBlk (PV p8)) (un (inBlk (PV p1)) (un (inBlk (PV po0)) (un (inBlk az0_0) S2)))))) b := fun b _ hs => ⟨fun h => hs (.inl h), hs⟩
    have ah0 := ah0.ch c102 ((fun b hb h => (disSym d99) b hb h) _ rfl)
    have ah0_0 := ah0_0.st c102 (fun b hb h => (disSym d100) b hb h) ad105 (fun b h => (.inr (.inr (.inr (.inr (.inr (.inl h)))))))
    have k4 := k4.ch c102 ((fun b hb h => (disSym d98) b hb h) _ rfl)
    have k11 := k11.ch c102 ((fun b hb h => (disSym d97) b hb h) _ rfl)
    have k57 := k57.ch c102 ((fun b hb h => (disSym d96) b hb h) _ rfl)
    have c80 := c80.then c102 (fun i hi h => absurd (lo95 i h) (Nat.not_le_of_lt hi))
    refine RL.nil (thn_n (CW.seq (CW.region ?_)))
    refine rl_fieldAddr rfl fa37_5 rfl ?_
    refine rl_loadS (v := (Value.int .i64 x77.last)) rfl Try.isAgg3 (k104.cell rfl) rfl ?_
    refine rl_fieldAddr rfl fa37_5 rfl ?_
    refine rl_loadS (v := (Value.int .i64 x56.last)) rfl Try.isAgg3 (k57.cell rfl) rfl ?_
    refine rl_bin rfl rfl B.lss rfl ?_
    refine RL.nil (thn_n ?_)
    refine CW.cond (t := decide (x77.last < x56.last)) rfl (fun q106 => ?_) (fun q106 => ?_)
    ·
     have hb74 := ifT q106 hb74
     refine CW.region ?_
     refine rl_loadA (cs := (Tie.enc x77)) rfl Try.isAgg37 Try.sizeOf37 (k104.segAt 0 40) rfl rfl ?_
     refine rl_storeA (vs := (Tie.enc x77)) rfl rfl (all_one rfl) Try.sizeOf37 rfl k57 rfl ?_
     intro w107 s109 c108 k110
     have ad111 : ∀ b, b < w101.heap.size → ¬ (un (inBlk (PV p91)) (un (inBlk (PV p16)) (un (inBlk (PV p8)) (un (inBlk (PV p1)) (un (inBlk (PV po0)) (un (inBlk az0_0) S2)))))) b → ¬ (inBlk (PV p16)) b ∧ ¬ (un (inBlk (PV p91)) (un (inBlk (PV p16)) (un (inBlk (PV p8)) (un (inBlk (PV p1)) (un (inBlk (PV po0)) (un (inBlk az0_0) S2)))))) b := fun b _ hs => ⟨fun h => hs (.inr (.inl h)), hs⟩
     have ah0 := ah0.ch c108 ((fun b hb h => (disSym d60) b hb h) _ rfl)
     have ah0_0 := ah0_0.st c108 (fun b hb h => (disSym d61) b hb h) ad111 (fun b h => (.inr (.inr (.inr (.inr (.inr (.inl h)))))))
     have k4 := k4.ch c108 ((fun b hb h => (disSym d59) b hb h) _ rfl)
     have k11 := k11.ch c108 ((fun b hb h => (disSym d58) b hb h) _ rfl)
     have c80 := c80.then c108 (fun i hi h => absurd (lo20 i h) (Nat.not_le_of_lt hi))
     refine RL.nil ?_
     refine inB_n ?_
     refine thn_n (CW.region ?_)
     refine rl_inc rfl hat71.lt (Nat.le_trans ah0_0.big (by decide)) rfl ?_
     refine rl_move rfl rfl ?_
     refine RL.nil (thn_n ?_)
     have ad112 : ∀ b, b < w107.heap.size → ¬ (un (inBlk (PV p91)) (un (inBlk (PV p16)) (un (inBlk (PV p8)) (un (inBlk (PV p1)) (un (inBlk (PV po0)) (un (inBlk az0_0) S2)))))) b → ¬ nb b ∧ ¬ (un (inBlk (PV p16)) (un (inBlk (PV p8)) (un (inBlk (PV p1)) (un (inBlk (PV po0)) (un (inBlk az0_0) S2))))) b := fun b _ hs => ⟨fun x => x, fun h => hs (un_el h (fun h => (.inr (.inl h))) (fun h => un_el h (fun h => (.inr (.inr (.inl h)))) (fun h => un_el h (fun h => (.inr (.inr (.inr (.inl h))))) (fun h => un_el h (fun h => (.inr (.inr (.inr (.inr (.inl h)))))) (fun h => un_el h (fun h => (.inr (.inr (.inr (.inr (.inr (.inl h))))))) (fun h => (.inr (.inr (.inr (.inr (.inr (.inr h))))))))))))⟩
     have crf : Ch nb w107 w107 := Ch.refl
     have ah0 := ah0.ch0 crf
     have ah0_0 := ah0_0.st crf (fun _ _ x => x) ad112 (fun b h => (.inr (.inr (.inr (.inr (.inl h))))))
     have k4 := k4.ch0 crf
     have k11 := k11.ch0 crf
     have k110 := k110.ch0 crf
     have c80 := c80.then0 crf
     have hLn := runA_next hL70 (hb74.trans hq73.symm)
     exact ⟨rest84.length, Nat.lt_succ_self _, [(0, (PV po0)), (2, (Value.int .i64 a2)), (4, (PV p1)), (6, (PV p8)), (8, (PV p16)), (9, (Value.bool true)), (35, az0_0), (36, (Value.int .i64 ((a0.all.length : Nat) : Int))), (37, (Value.int .i64 ((i69 + 1 : Nat) : Int)))], ⟨rfl, rfl, rfl, rfl, rfl, rfl, rfl, rfl, rfl, trivial⟩, ⟨rest84, i69 + 1, x77, rfl, rfl, c80, hat71.next, hLn, ah0, ah0_0, k4, k11, k110, d58, d59, d60, d61, d62, d63, d64, d65, d66, d67⟩⟩
    have hb74 := ifF q106 hb74
    refine CW.skip ?_
    refine inB_n ?_
    refine thn_n (CW.region ?_)
    refine rl_inc rfl hat71.lt (Nat.le_trans ah0_0.big (by decide)) rfl ?_
    refine rl_move rfl rfl ?_
    refine RL.nil (thn_n ?_)
    have ad113 : ∀ b, b < w101.heap.size → ¬ (un (inBlk (PV p91)) (un (inBlk (PV p16)) (un (inBlk (PV p8)) (un (inBlk (PV p1)) (un (inBlk (PV po0)) (un (inBlk az0_0) S2)))))) b → ¬ nb b ∧ ¬ (un (inBlk (PV p16)) (un (inBlk (PV p8)) (un (inBlk (PV p1)) (un (inBlk (PV po0)) (un (inBlk az0_0) S2))))) b := fun b _ hs => ⟨fun x => x, fun h => hs (un_el h (fun h => (.inr (.inl h))) (fun h => un_el h (fun h => (.inr (.inr (.inl h)))) (fun h => un_el h (fun h => (.inr (.inr (.inr (.inl h))))) (fun h => un_el h (fun h => (.inr (.inr (.inr (.inr (.inl h)))))) (fun h => un_el h (fun h => (.inr (.inr (.inr (.inr (.inr (.inl h))))))) (fun h => (.inr (.inr (.inr (.inr (.inr (.inr h))))))))))))⟩
    have crf : Ch nb w101 w101 := Ch.refl
    have ah0 := ah0.ch0 crf
    have ah0_0 := ah0_0.st crf (fun _ _ x => x) ad113 (fun b h => (.inr (.inr (.inr (.inr (.inl h))))))
    have k4 := k4.ch0 crf
    have k11 := k11.ch0 crf
    have k57 := k57.ch0 crf
    have c80 := c80.then0 crf
    have hLn := runA_next hL70 (hb74.trans hq73.symm)
    exact ⟨rest84.length, Nat.lt_succ_self _, [(0, (PV po0)), (2, (Value.int .i64 a2)), (4, (PV p1)), (6, (PV p8)), (8, (PV p16)), (9, (Value.bool true)), (35, az0_0), (36, (Value.int .i64 ((a0.all.length : Nat) : Int))), (37, (Value.int .i64 ((i69 + 1 : Nat) : Int)))], ⟨rfl, rfl, rfl, rfl, rfl, rfl, rfl, rfl, rfl, trivial⟩, ⟨rest84, i69 + 1, x56, rfl, rfl, c80, hat71.next, hLn, ah0, ah0_0, k4, k11, k57, d58, d59, d60, d61, d62, d63, d64, d65, d66, d67⟩⟩
   obtain rfl := hat71.nil q83
   have hLf : x56 = o75 := hL70
   refine CW.exit (thn_exit (thn_exit (inB_hit ?_)))
   exact ⟨x56, ⟨rfl, rfl, rfl, rfl, rfl, rfl, trivial⟩, c80, hLf, ah0, ah0_0, k4, k11, k57, d58, d59, d60, d61, d62, d63, d64, d65, d66, d67⟩
  rintro _ w115 ⟨x56, hE116, c114, f117, ah0, ah0_0, k4, k11, k57, d58, d59, d60, d61, d62, d63, d64, d65, d66, d67⟩
  subst f117
  refine thn_n (CW.sub [(0, (PV po0)), (2, (Value.int .i64 a2)), (4, (PV p1)), (6, (PV p8)), (8, (PV p16)), (9, (Value.bool true))] hE116 ?_)
  refine CW.region ?_
  refine rl_move rfl rfl ?_
  refine rl_loadA (cs := (Tie.enc x56)) rfl Try.isAgg37 Try.sizeOf37 (k57.segAt 0 40) rfl rfl ?_
  have hd119 : ∀ b, (un (inBlk (PV po0)) (inBlk az0_0)) b → ¬ (un (inBlk (PV p16)) (un (inBlk (PV p8)) (un (inBlk (PV p1)) S2))) b := fun b h => un_el h (fun h => (fun b hb => fun h => un_el h (fun h => (disSym d60) b hb h) (fun h => un_el h (fun h => (disSym d63) b hb h) (fun h => un_el h (fun h => (disSym d65) b hb h) (linNot lin0_0 hd2 h2 b hb)))) b h) (fun h => (fun b hb => fun h => un_el h (fun h => (disSym d61) b hb h) (fun h => un_el h (fun h => (disSym d64) b hb h) (fun h => un_el h (fun h => (disSym d66) b hb h) (linNot lin1_0 hd2 h2 b hb)))) b h)
  have hS120 : (un (inBlk (PV p16)) (un (inBlk (PV p8)) (un (inBlk (PV p1)) (un (inBlk (PV po0)) (un (inBlk az0_0) S2))))) = (un (inBlk (PV po0)) (un (inBlk az0_0) (un (inBlk (PV p16)) (un (inBlk (PV p8)) (un (inBlk (PV p1)) S2))))) := funext fun b => propext ⟨fun h => un_el h (fun h => (.inr (.inr (.inl h)))) (fun h => un_el h (fun h => (.inr (.inr (.inr (.inl h))))) (fun h => un_el h (fun h => (.inr (.inr (.inr (.inr (.inl h)))))) (fun h => un_el h (fun h => (.inl h)) (fun h => un_el h (fun h => (.inr (.inl h))) (fun h => (.inr (.inr (.inr (.inr (.inr h)))))))))), fun h => un_el h (fun h => (.inr (.inr (.inr (.inl h))))) (fun h => un_el h (fun h => (.inr (.inr (.inr (.inr (.inl h)))))) (fun h => un_el h (fun h => (.inl h)) (fun h => un_el h (fun h => (.inr (.inl h))) (fun h => un_el h (fun h => (.inr (.inr (.inl h)))) (fun h => (.inr (.inr (.inr (.inr (.inr h))))))))))⟩
  obtain ⟨y123, hy124, hS⟩ := bindS hS
  refine rl_callF rfl en30 rfl (ctr30 F w115 Bb (un (inBlk (PV p16)) (un (inBlk (PV p8)) (un (inBlk (PV p1)) S2))) (Nat.le_trans hB c114.size) (un_lt k57.ltp (un_lt k11.ltp (un_lt k4.ltp (fun b h => Nat.lt_of_lt_of_le (h2 b h) c114.size)))) po0 az0_0 hd119 d67 a0 ah0 (hS120 ▸ ah0_0) x56 y123 hy124) ?_
  rintro _ w121 ⟨z125, rfl, h126, h127, hf128, d129, c122⟩
  have lin130 : ∀ b, inBlk z125 b → (un (inBlk (PV po0)) (inBlk az0_0)) b ∨ w.heap.size ≤ b := fun b h => (hf128 b h).elim (fun h => un_el h (fun h => lin0_0 b h) (fun h => lin1_0 b h)) (fun h => .inr (Nat.le_trans c114.size h))
  have d131 : ∀ b, inBlk z125 b → ¬ inBlk (PV p16) b := fun b h hu => (hf128 b h).elim (fun h => un_el h (fun h => (disSym d60) b h hu) (fun h => (disSym d61) b h hu)) (fun h => Nat.not_le_of_lt (k57.ltp b hu) h)
  have d132 : ∀ b, inBlk z125 b → ¬ inBlk (PV p8) b := fun b h hu => (hf128 b h).elim (fun h => un_el h (fun h => (disSym d63) b h hu) (fun h => (disSym d64) b h hu)) (fun h => Nat.not_le_of_lt (k11.ltp b hu) h)
  have d133 : ∀ b, inBlk z125 b → ¬ inBlk (PV p1) b := fun b h hu => (hf128 b h).elim (fun h => un_el h (fun h => (disSym d65) b h hu) (fun h => (disSym d66) b h hu)) (fun h => Nat.not_le_of_lt (k4.ltp b hu) h)
  have hS134 : (un (inBlk (PV p16)) (un (inBlk (PV p8)) (un (inBlk (PV p1)) (un (inBlk (PV po0)) (un (inBlk z125) S2))))) = (un (inBlk (PV po0)) (un (inBlk z125) (un (inBlk (PV p16)) (un (inBlk (PV p8)) (un (inBlk (PV p1)) S2))))) := funext fun b => propext ⟨fun h => un_el h (fun h => (.inr (.inr (.inl h)))) (fun h => un_el h (fun h => (.inr (.inr (.inr (.inl h))))) (fun h => un_el h (fun h => (.inr (.inr (.inr (.inr (.inl h)))))) (fun h => un_el h (fun h => (.inl h)) (fun h => un_el h (fun h => (.inr (.inl h))) (fun h => (.inr (.inr (.inr (.inr (.inr h)))))))))), fun h => un_el h (fun h => (.inr (.inr (.inr (.inl h))))) (fun h => un_el h (fun h => (.inr (.inr (.inr (.inr (.inl h)))))) (fun h => un_el h (fun h => (.inl h)) (fun h => un_el h (fun h => (.inr (.inl h))) (fun h => un_el h (fun h => (.inr (.inr (.inl h)))) (fun h => (.inr (.inr (.inr (.inr (.inr h))))))))))⟩
  rw [← hS134] at h127
  have k4 := k4.ch c122 ((fun b hb h => un_el h (fun h => d65 b hb h) (fun h => d66 b hb h)) _ rfl)
  have k11 := k11.ch c122 ((fun b hb h => un_el h (fun h => d63 b hb h) (fun h => d64 b hb h)) _ rfl)
  have k57 := k57.ch c122 ((fun b hb h => un_el h (fun h => d60 b hb h) (fun h => d61 b hb h)) _ rfl)
  have c114 := c114.then c122 (fun i hi h => un_el h (fun h => (lin0_0 i h).elim (fun x => x) (fun x => absurd x (Nat.not_le_of_lt hi))) (fun h => (lin1_0 i h).elim (fun x => x) (fun x => absurd x (Nat.not_le_of_lt hi))))
  refine RL.nil (thn_n (CW.seq (CW.region ?_)))
  refine rl_move rfl rfl ?_
  refine rl_loadA (cs := (Tie.enc a1)) rfl Try.isAgg37 Try.sizeOf37 (k4.segAt 0 40) rfl rfl ?_
  have hd136 : ∀ b, (un (inBlk (PV po0)) (inBlk z125)) b → ¬ (un (inBlk (PV p16)) (un (inBlk (PV p8)) (un (inBlk (PV p1)) S2))) b := fun b h => un_el h (fun h => (fun b hb => fun h => un_el h (fun h => (disSym d60) b hb h) (fun h => un_el h (fun h => (disSym d63) b hb h) (fun h => un_el h (fun h => (disSym d65) b hb h) (linNot lin0_0 hd2 h2 b hb)))) b h) (fun h => (fun b hb => fun h => un_el h (fun h => d131 b hb h) (fun h => un_el h (fun h => d132 b hb h) (fun h => un_el h (fun h => d133 b hb h) (linNot lin130 hd2 h2 b hb)))) b h)
  have hS137 : (un (inBlk (PV p16)) (un (inBlk (PV p8)) (un (inBlk (PV p1)) (un (inBlk (PV po0)) (un (inBlk z125) S2))))) = (un (inBlk (PV po0)) (un (inBlk z125) (un (inBlk (PV p16)) (un (inBlk (PV p8)) (un (inBlk (PV p1)) S2))))) := funext fun b => propext ⟨fun h => un_el h (fun h => (.inr (.inr (.inl h)))) (fun h => un_el h (fun h => (.inr (.inr (.inr (.inl h))))) (fun h => un_el h (fun h => (.inr (.inr (.inr (.inr (.inl h)))))) (fun h => un_el h (fun h => (.inl h)) (fun h => un_el h (fun h => (.inr (.inl h))) (fun h => (.inr (.inr (.inr (.inr (.inr h)))))))))), fun h => un_el h (fun h => (.inr (.inr (.inr (.inl h))))) (fun h => un_el h (fun h => (.inr (.inr (.inr (.inr (.inl h)))))) (fun h => un_el h (fun h => (.inl h)) (fun h => un_el h (fun h => (.inr (.inl h))) (fun h => un_el h (fun h => (.inr (.inr (.inl h)))) (fun h => (.inr (.inr (.inr (.inr (.inr h))))))))))⟩
  obtain ⟨y140, hy141, hS⟩ := bindS hS
  refine rl_callF rfl en30 rfl (ctr30 F w121 Bb (un (inBlk (PV p16)) (un (inBlk (PV p8)) (un (inBlk (PV p1)) S2))) (Nat.le_trans hB c114.size) (un_lt k57.ltp (un_lt k11.ltp (un_lt k4.ltp (fun b h => Nat.lt_of_lt_of_le (h2 b h) c114.size)))) po0 z125 hd136 d129 y123.2 h126 (hS137 ▸ h127) a1 y140 hy141) ?_
  rintro _ w138 ⟨z142, rfl, h143, h144, hf145, d146, c139⟩
  have lin147 : ∀ b, inBlk z142 b → (un (inBlk (PV po0)) (inBlk az0_0)) b ∨ w.heap.size ≤ b := fun b h => (hf145 b h).elim (fun h => un_el h (fun h => lin0_0 b h) (fun h => lin130 b h)) (fun h => .inr (Nat.le_trans c114.size h))
  have d148 : ∀ b, inBlk z142 b → ¬ inBlk (PV p16) b := fun b h hu => (hf145 b h).elim (fun h => un_el h (fun h => (disSym d60) b h hu) (fun h => d131 b h hu)) (fun h => Nat.not_le_of_lt (k57.ltp b hu) h)
  have d149 : ∀ b, inBlk z142 b → ¬ inBlk (PV p8) b := fun b h hu => (hf145 b h).elim (fun h => un_el h (fun h => (disSym d63) b h hu) (fun h => d132 b h hu)) (fun h => Nat.not_le_of_lt (k11.ltp b hu) h)
  have d150 : ∀ b, inBlk z142 b → ¬ inBlk (PV p1) b := fun b h hu => (hf145 b h).elim (fun h => un_el h (fun h => (disSym d65) b h hu) (fun h => d133 b h hu)) (fun h => Nat.not_le_of_lt (k4.ltp b hu) h)
  have hS151 : (un (inBlk (PV p16)) (un (inBlk (PV p8)) (un (inBlk (PV p1)) (un (inBlk (PV po0)) (un (inBlk z142) S2))))) = (un (inBlk (PV po0)) (un (inBlk z142) (un (inBlk (PV p16)) (un (inBlk (PV p8)) (un (inBlk (PV p1)) S2))))) := funext fun b => propext ⟨fun h => un_el h (fun h => (.inr (.inr (.inl h)))) (fun h => un_el h (fun h => (.inr (.inr (.inr (.inl h))))) (fun h => un_el h (fun h => (.inr (.inr (.inr (.inr (.inl h)))))) (fun h => un_el h (fun h => (.inl h)) (fun h => un_el h (fun h => (.inr (.inl h))) (fun h => (.inr (.inr (.inr (.inr (.inr h)))))))))), fun h => un_el h (fun h => (.inr (.inr (.inr (.inl h))))) (fun h => un_el h (fun h => (.inr (.inr (.inr (.inr (.inl h)))))) (fun h => un_el h (fun h => (.inl h)) (fun h => un_el h (fun h => (.inr (.inl h))) (fun h => un_el h (fun h => (.inr (.inr (.inl h)))) (fun h => (.inr (.inr (.inr (.inr (.inr h))))))))))⟩
  rw [← hS151] at h144
  have k4 := k4.ch c139 ((fun b hb h => un_el h (fun h => d65 b hb h) (fun h => (disSym d133) b hb h)) _ rfl)
  have k11 := k11.ch c139 ((fun b hb h => un_el h (fun h => d63 b hb h) (fun h => (disSym d132) b hb h)) _ rfl)
  have k57 := k57.ch c139 ((fun b hb h => un_el h (fun h => d60 b hb h) (fun h => (disSym d131) b hb h)) _ rfl)
  have c114 := c114.then c139 (fun i hi h => un_el h (fun h => (lin0_0 i h).elim (fun x => x) (fun x => absurd x (Nat.not_le_of_lt hi))) (fun h => (lin130 i h).elim (fun x => x) (fun x => absurd x (Nat.not_le_of_lt hi))))
  refine RL.nil (thn_n (CW.seq (CW.region ?_)))
  refine rl_move rfl rfl ?_
  refine rl_fieldAddr rfl fa37_5 rfl ?_
  refine rl_storeS (u := (Value.int .i64 a2)) rfl rfl ⟨rfl, rfl⟩ Try.sizeOf3 k4 rfl ?_
  intro w153 s155 c154 k156
  have ad157 : ∀ b, b < w138.heap.size → ¬ (un (inBlk (PV p16)) (un (inBlk (PV p8)) (un (inBlk (PV p1)) (un (inBlk (PV po0)) (un (inBlk z142) S2))))) b → ¬ (inBlk (PV p1)) b ∧ ¬ (un (inBlk (PV p16)) (un (inBlk (PV p8)) (un (inBlk (PV p1)) (un (inBlk (PV po0)) (un (inBlk z142) S2))))) b := fun b _ hs => ⟨fun h => hs (.inr (.inr (.inl h))), hs⟩
  have k11 := k11.ch c154 ((fun b hb h => d62 b hb h) _ rfl)
  have k57 := k57.ch c154 ((fun b hb h => d59 b hb h) _ rfl)
  have h143 := h143.ch c154 ((fun b hb h => (disSym d65) b hb h) _ rfl)
  have h144 := h144.st c154 (fun b hb h => d150 b hb h) ad157 (fun b h => (.inr (.inr (.inr (.inr (.inl h))))))
  have c114 := c114.then c154 (fun i hi h => absurd (lo5 i h) (Nat.not_le_of_lt hi))
  refine RL.nil (thn_n (CW.seq (CW.region ?_)))
  refine rl_move rfl rfl ?_
  refine rl_nilCheck rfl rfl ?_
  refine rl_fieldAddr rfl fa48_0 rfl ?_
  refine rl_loadS (v := z142) rfl Try.isAgg46 (h143.cell rfl) rfl ?_
  refine rl_lenR rfl (SlO.read (S' := (un (inBlk (PV p16)) (un (inBlk (PV p8)) (un (inBlk (PV p1)) (un (inBlk (PV po0)) S2))))) k_Tie_pos h144 (fun b hs h => hs (un_el h (fun h => (.inl h)) (fun h => un_el h (fun h => (.inr (.inl h))) (fun h => un_el h (fun h => (.inr (.inr (.inl h)))) (fun h => un_el h (fun h => (.inr (.inr (.inr (.inl h))))) (fun h => (.inr (.inr (.inr (.inr (.inr h))))))))))) (fun b hb => fun h => un_el h (fun h => d148 b hb h) (fun h => un_el h (fun h => d149 b hb h) (fun h => un_el h (fun h => d150 b hb h) (fun h => un_el h (fun h => (disSym d146) b hb h) (linNot lin147 hd2 h2 b hb)))))) Try.underlying46 rfl ?_
  refine rl_assign rfl rfl ?_
  refine RL.nil (thn_n (CW.seq ?_))
  obtain ⟨o176, ho177, hS⟩ := bindS hS
  refine CW.cutB (fun E' w' => ∃ (x158 : Int), Sub [(0, (PV po0)), (4, (PV p1)), (6, (PV p8)), (8, (PV p16)), (9, (Value.bool true)), (12, (Value.int .i64 x158))] E' ∧ Ch (un (inBlk (PV po0)) (inBlk az0_0)) w w' ∧ Lp.fin x158 = o176 ∧ Blk w' p8 37 (Tie.enc Tie.z) ∧ Blk w' p16 37 (Tie.enc x56) ∧ Blk w' po0 48 (Ties_2.c y140.2 z142) ∧ SlO k_Tie 37 F Bb (un (inBlk (PV p16)) (un (inBlk (PV p8)) (un (inBlk (PV p1)) (un (inBlk (PV po0)) (un (inBlk z142) S2))))) w' y140.2.all z142 ∧ Blk w' p1 37 (Tie.enc ({ client := a1.client, service := a1.service, name := a1.name, localF := a1.localF, backend := a1.backend, last := a2 } : Tie)) ∧ (∀ b, inBlk (PV p16) b → ¬ inBlk (PV p8) b) ∧ (∀ b, inBlk (PV p16) b → ¬ inBlk (PV p1) b) ∧ (∀ b, inBlk (PV p16) b → ¬ inBlk (PV po0) b) ∧ (∀ b, inBlk (PV p16) b → ¬ inBlk z142 b) ∧ (∀ b, inBlk (PV p8) b → ¬ inBlk (PV p1) b) ∧ (∀ b, inBlk (PV p8) b → ¬ inBlk (PV po0) b) ∧ (∀ b, inBlk (PV p8) b → ¬ inBlk z142 b) ∧ (∀ b, inBlk (PV p1) b → ¬ inBlk (PV po0) b) ∧ (∀ b, inBlk (PV p1) b → ¬ inBlk z142 b) ∧ (∀ b, inBlk (PV po0) b → ¬ inBlk z142 b)) ?_ ?_
  ·
   refine CW.loopS [(0, (PV po0)), (4, (PV p1)), (6, (PV p8)), (8, (PV p16)), (9, (Value.bool true)), (12, (Value.int .i64 ((y140.2.all.length : Nat) : Int)))] ⟨rfl, rfl, rfl, rfl, rfl, rfl, trivial⟩ FUEL (fun m E w' => ∃ (x158 : Int), E = [(0, (PV po0)), (4, (PV p1)), (6, (PV p8)), (8, (PV p16)), (9, (Value.bool true)), (12, (Value.int .i64 x158))] ∧ Ch (un (inBlk (PV po0)) (inBlk az0_0)) w w' ∧ runW (F28_Put_b2 a1 a2 y140) m x158 = some o176 ∧ Blk w' p8 37 (Tie.enc Tie.z) ∧ Blk w' p16 37 (Tie.enc x56) ∧ Blk w' po0 48 (Ties_2.c y140.2 z142) ∧ SlO k_Tie 37 F Bb (un (inBlk (PV p16)) (un (inBlk (PV p8)) (un (inBlk (PV p1)) (un (inBlk (PV po0)) (un (inBlk z142) S2))))) w' y140.2.all z142 ∧ Blk w' p1 37 (Tie.enc ({ client := a1.client, service := a1.service, name := a1.name, localF := a1.localF, backend := a1.backend, last := a2 } : Tie)) ∧ (∀ b, inBlk (PV p16) b → ¬ inBlk (PV p8) b) ∧ (∀ b, inBlk (PV p16) b → ¬ inBlk (PV p1) b) ∧ (∀ b, inBlk (PV p16) b → ¬ inBlk (PV po0) b) ∧ (∀ b, inBlk (PV p16) b → ¬ inBlk z142 b) ∧ (∀ b, inBlk (PV p8) b → ¬ inBlk (PV p1) b) ∧ (∀ b, inBlk (PV p8) b → ¬ inBlk (PV po0) b) ∧ (∀ b, inBlk (PV p8) b → ¬ inBlk z142 b) ∧ (∀ b, inBlk (PV p1) b → ¬ inBlk (PV po0) b) ∧ (∀ b, inBlk (PV p1) b → ¬ inBlk z142 b) ∧ (∀ b, inBlk (PV po0) b → ¬ inBlk z142 b))
       ⟨((y140.2.all.length : Nat) : Int), rfl, c114, ho177, k11, k57, h143, h144, k156, d58, d59, d60, (disSym d148), d62, d63, (disSym d149), d65, (disSym d150), d146⟩ ?_
   rintro _ _ w182 ⟨x158, rfl, c181, hL171, k11, k57, h143, h144, k156, d159, d160, d161, d162, d163, d164, d165, d166, d167, d168⟩
   obtain ⟨k180, q173, rfl, hq174⟩ := runW_some hL171
   have hb175 := hq174
   refine CW.seq ?_
   refine CW.seq ?_
   obtain ⟨b196, hb197, hb175⟩ := bindS hb175
   refine CW.cutN (fun E' w' => Sub [(0, (PV po0)), (4, (PV p1)), (6, (PV p8)), (8, (PV p16)), (9, (Value.bool true)), (12, (Value.int .i64 x158)), (75, (Value.bool b196))] E' ∧ Ch nb w182 w') ?_ ?_
   ·
    rcases Bool.eq_false_or_eq_true (decide (x158 > 0)) with hg198 | hg198
    ·
     have hs199 := andO_t hg198 hb197
     obtain ⟨y190, hy191, hs199⟩ := bindS hs199
     obtain ⟨y194, hy195, hs199⟩ := bindS hs199
     refine CW.draw 15 [(none, fun fx O uu wx => uu = (Value.int .i64 x158)), (none, fun fx O uu wx => uu = (Value.bool (decide (x158 > 0)))), (none, fun fx O uu wx => uu = (Value.bool (decide (x158 > 0)))), (none, fun fx O uu wx => uu = (Value.agg (Tie.enc ({ client := a1.client, service := a1.service, name := a1.name, localF := a1.localF, backend := a1.backend, last := a2 } : Tie)).toArray)), (none, fun fx O uu wx => uu = (PV po0)), (none, fun fx O uu wx => uu = (PV po0)), (none, fun fx O uu wx => uu = (PV po0)), (none, fun fx O uu wx => uu = z142), (none, fun fx O uu wx => uu = (Value.int .i64 x158)), (none, fun fx O uu wx => uu = (Value.int .i64 (IntKind.i64.wrap (x158 - 1)))), (none, fun fx O uu wx => ∃ (p184 : Nat) (o185 : Nat), uu = (Value.pointer (some ⟨p184, o185, none⟩)) ∧ Seg wx p184 o185 (Tie.enc y190)), (none, fun fx O uu wx => uu = (Value.agg (Tie.enc y190).toArray)), (none, fun fx O uu wx => uu = (Value.int .i64 y194)), (none, fun fx O uu wx => uu = (Value.bool (decide (y194 < 0)))), (none, fun fx O uu wx => uu = (Value.bool b196))] [[], [0], [1], [2], [2], [2, 4], [2, 5], [2, 6], [2], [2, 8], [2, 7, 9], [2, 10], [2, 3, 11], [2, 12], [2, 13]] [14] nb (fun _ h => h.elim) mixed rfl rfl rfl rfl ?_ ?_
     ·
      refine Each.consS (fun fl O wk hE hN hO ck => ?_) ?_
      ·
       refine rl_move rfl rfl ?_
       exact RL.nil ⟨_, rfl, Ch.refl, rfl⟩
      refine Each.consS (fun fl O wk hE hN hO ck => ?_) ?_
      ·
       refine Need.o1 rfl rfl rfl (fun _ h => h) ?_
       refine rl_bin rfl rfl B.gtr rfl ?_
       exact RL.nil ⟨_, rfl, Ch.refl, rfl⟩
      refine Each.consS (fun fl O wk hE hN hO ck => ?_) ?_
      ·
       refine Need.o1 rfl rfl rfl (fun _ h => h) ?_
       refine rl_move rfl rfl ?_
       exact RL.nil ⟨_, rfl, Ch.refl, rfl⟩
      refine Each.consS (fun fl O wk hE hN hO ck => ?_) ?_
      ·
       have k156 := k156.ch0 ck
       refine Need.o1 rfl rfl rfl (fun _ h => h) ?_
       refine RL.yes rfl rfl rfl hg198 ?_
       refine rl_loadA (cs := (Tie.enc ({ client := a1.client, service := a1.service, name := a1.name, localF := a1.localF, backend := a1.backend, last := a2 } : Tie))) rfl Try.isAgg37 Try.sizeOf37 (k156.segAt 0 40) rfl rfl ?_
       exact RL.nil ⟨_, rfl, Ch.refl, rfl⟩
      refine Each.consS (fun fl O wk hE hN hO ck => ?_) ?_
      ·
       refine Need.o1 rfl rfl rfl (fun _ h => h) ?_
       refine RL.yes rfl rfl rfl hg198 ?_
       refine rl_move rfl rfl ?_
       exact RL.nil ⟨_, rfl, Ch.refl, rfl⟩
      refine Each.consS (fun fl O wk hE hN hO ck => ?_) ?_
      ·
       refine Need.o1 rfl rfl rfl (fun _ h => h) ?_
       refine Need.o1 rfl rfl rfl (fun _ h => h) ?_
       refine RL.yes rfl rfl rfl hg198 ?_
       refine rl_nilCheck rfl rfl ?_
       exact RL.nil ⟨_, rfl, Ch.refl, rfl⟩
      refine Each.consS (fun fl O wk hE hN hO ck => ?_) ?_
      ·
       refine Need.o1 rfl rfl rfl (fun _ h => h) ?_
       refine Need.o1 rfl rfl rfl (fun _ h => h) ?_
       refine RL.yes rfl rfl rfl hg198 ?_
       refine rl_fieldAddr rfl fa48_0 rfl ?_
       exact RL.nil ⟨_, rfl, Ch.refl, rfl⟩
      refine Each.consS (fun fl O wk hE hN hO ck => ?_) ?_
      ·
       have h143 := h143.ch0 ck
       refine Need.o1 rfl rfl rfl (fun _ h => h) ?_
       refine Need.o1 rfl rfl rfl (fun _ h => h) ?_
       refine RL.yes rfl rfl rfl hg198 ?_
       refine rl_loadS (v := z142) rfl Try.isAgg46 (h143.cell rfl) rfl ?_
       exact RL.nil ⟨_, rfl, Ch.refl, rfl⟩
      refine Each.consS (fun fl O wk hE hN hO ck => ?_) ?_
      ·
       refine Need.o1 rfl rfl rfl (fun _ h => h) ?_
       refine RL.yes rfl rfl rfl hg198 ?_
       refine rl_move rfl rfl ?_
       exact RL.nil ⟨_, rfl, Ch.refl, rfl⟩
      refine Each.consS (fun fl O wk hE hN hO ck => ?_) ?_
      ·
       refine Need.o1 rfl rfl rfl (fun _ h => h) ?_
       refine Need.o1 rfl rfl rfl (fun _ h => h) ?_
       refine RL.yes rfl rfl rfl hg198 ?_
       refine rl_bin rfl rfl B.sub rfl ?_
       exact RL.nil ⟨_, rfl, Ch.refl, rfl⟩
      refine Each.consA ⟨fun _ _ _ _ _ cc hh => by obtain ⟨p184, o185, e, hs188⟩ := hh; exact ⟨p184, o185, e, hs188.ch0 cc⟩, fun h => absurd rfl h, fun fl O wk hE hN hO ck => ?_⟩ ?_
      ·
       have h144 := h144.ch0 ck
       refine Need.o1 rfl rfl rfl (fun _ h => h) ?_
       refine Need.o1 rfl rfl rfl (fun _ h => h) ?_
       refine Need.o1 rfl rfl rfl (fun _ h => h) ?_
       refine RL.yes rfl rfl rfl hg198 ?_
       refine rl_ixOR rfl h144 rfl (ixO_get hy191) k_Tie_pos Try.underlying46 Try.sizeOf37 rfl ?_
       intro p216 o217 cs218 hr219 hs220 hg221
       obtain rfl := hr219
       exact RL.nil ⟨_, rfl, Ch.refl, ⟨p216, o217, rfl, hs220⟩⟩
      refine Each.consS (fun fl O wk hE hN hO ck => ?_) ?_
      ·
       refine Need.o1 rfl rfl rfl (fun _ h => h) ?_
       refine Need.one rfl rfl rfl ?_
       rintro _ ⟨p184, o185, e223, hs188⟩
       obtain rfl := e223.symm
       refine RL.yes rfl rfl rfl hg198 ?_
       refine rl_loadA (cs := (Tie.enc y190)) rfl Try.isAgg37 Try.sizeOf37 (hs188) rfl rfl ?_
       exact RL.nil ⟨_, rfl, Ch.refl, rfl⟩
      refine Each.consS (fun fl O wk hE hN hO ck => ?_) ?_
      ·
       refine Need.o1 rfl rfl rfl (fun _ h => h) ?_
       refine Need.o1 rfl rfl rfl (fun _ h => h) ?_
       refine Need.o1 rfl rfl rfl (fun _ h => h) ?_
       refine RL.yes rfl rfl rfl hg198 ?_
       refine rl_callF rfl en10 rfl (ctr10 (G F Bb (un (inBlk (PV p16)) (un (inBlk (PV p8)) (un (inBlk (PV p1)) (un (inBlk (PV po0)) (un (inBlk z142) S2)))))) wk ({ client := a1.client, service := a1.service, name := a1.name, localF := a1.localF, backend := a1.backend, last := a2 } : Tie) y190 y194 hy195) ?_
       rintro _ w227 ⟨rfl, c228⟩
       exact RL.nil ⟨_, rfl, c228, rfl⟩
      refine Each.consS (fun fl O wk hE hN hO ck => ?_) ?_
      ·
       refine Need.o1 rfl rfl rfl (fun _ h => h) ?_
       refine Need.o1 rfl rfl rfl (fun _ h => h) ?_
       refine RL.yes rfl rfl rfl hg198 ?_
       refine rl_bin rfl rfl B.lss rfl ?_
       exact RL.nil ⟨_, rfl, Ch.refl, rfl⟩
      refine Each.consS (fun fl O wk hE hN hO ck => ?_) ?_
      ·
       refine Need.o1 rfl rfl rfl (fun _ h => h) ?_
       refine Need.o1 rfl rfl rfl (fun _ h => h) ?_
       refine rl_pickT rfl hg198 rfl rfl ?_
       exact RL.nil ⟨_, rfl, Ch.refl, congrArg Value.bool (Option.some.inj hs199)⟩
      trivial
     intro hvO235 OpO235 O235 w233 hO236 c234 hN237
     refine Need.o1 rfl rfl rfl (fun _ h => h) ?_
     exact RL.nil ⟨rfl, ⟨rfl, rfl, rfl, rfl, rfl, rfl, rfl, trivial⟩, c234⟩
    have hs239 := andO_f hg198 hb197
    refine CW.draw 15 [(none, fun fx O uu wx => uu = (Value.int .i64 x158)), (none, fun fx O uu wx => uu = (Value.bool (decide (x158 > 0)))), (none, fun fx O uu wx => uu = (Value.bool (decide (x158 > 0)))), (none, fun _ O uu wx => uu = undef), (none, fun _ O uu wx => uu = undef), (none, fun _ O uu wx => uu = undef), (none, fun _ O uu wx => uu = undef), (none, fun _ O uu wx => uu = undef), (none, fun _ O uu wx => uu = undef), (none, fun _ O uu wx => uu = undef), (none, fun _ O uu wx => uu = undef), (none, fun _ O uu wx => uu = undef), (none, fun _ O uu wx => uu = undef), (none, fun _ O uu wx => uu = undef), (none, fun fx O uu wx => uu = (Value.bool b196))] [[], [0], [1], [2], [2], [2], [2], [2], [2], [2], [2], [2], [2], [2], [2]] [14] nb (fun _ h => h.elim) mixed rfl rfl rfl rfl ?_ ?_
    ·
     refine Each.consS (fun fl O wk hE hN hO ck => ?_) ?_
     ·
      refine rl_move rfl rfl ?_
      exact RL.nil ⟨_, rfl, Ch.refl, rfl⟩
     refine Each.consS (fun fl O wk hE hN hO ck => ?_) ?_
     ·
      refine Need.o1 rfl rfl rfl (fun _ h => h) ?_
      refine rl_bin rfl rfl B.gtr rfl ?_
      exact RL.nil ⟨_, rfl, Ch.refl, rfl⟩
     refine Each.consS (fun fl O wk hE hN hO ck => ?_) ?_
     ·
      refine Need.o1 rfl rfl rfl (fun _ h => h) ?_
      refine rl_move rfl rfl ?_
      exact RL.nil ⟨_, rfl, Ch.refl, rfl⟩
     refine Each.consS (fun fl O wk hE hN hO ck => ?_) ?_
     ·
      refine Need.o1 rfl rfl rfl (fun _ h => h) ?_
      refine RL.no rfl rfl rfl hg198 rfl rfl ?_
      exact RL.nil ⟨_, rfl, Ch.refl, rfl⟩
     refine Each.consS (fun fl O wk hE hN hO ck => ?_) ?_
     ·
      refine Need.o1 rfl rfl rfl (fun _ h => h) ?_
      refine RL.no rfl rfl rfl hg198 rfl rfl ?_
      exact RL.nil ⟨_, rfl, Ch.refl, rfl⟩
     refine Each.consS (fun fl O wk hE hN hO ck => ?_) ?_
     ·
      refine Need.o1 rfl rfl rfl (fun _ h => h) ?_
      refine RL.no rfl rfl rfl hg198 rfl rfl ?_
      exact RL.nil ⟨_, rfl, Ch.refl, rfl⟩
     refine Each.consS (fun fl O wk hE hN hO ck => ?_) ?_
     ·
      refine Need.o1 rfl rfl rfl (fun _ h => h) ?_
      refine RL.no rfl rfl rfl hg198 rfl rfl ?_
      exact RL.nil ⟨_, rfl, Ch.refl, rfl⟩
     refine Each.consS (fun fl O wk hE hN hO ck => ?_) ?_
     ·
      refine Need.o1 rfl rfl rfl (fun _ h => h) ?_
      refine RL.no rfl rfl rfl hg198 rfl rfl ?_
      exact RL.nil ⟨_, rfl, Ch.refl, rfl⟩
     refine Each.consS (fun fl O wk hE hN hO ck => ?_) ?_
     ·
      refine Need.o1 rfl rfl rfl (fun _ h => h) ?_
      refine RL.no rfl rfl rfl hg198 rfl rfl ?_
      exact RL.nil ⟨_, rfl, Ch.refl, rfl⟩
     refine Each.consS (fun fl O wk hE hN hO ck => ?_) ?_
     ·
      refine Need.o1 rfl rfl rfl (fun _ h => h) ?_
      refine RL.no rfl rfl rfl hg198 rfl rfl ?_
      exact RL.nil ⟨_, rfl, Ch.refl, rfl⟩
     refine Each.consS (fun fl O wk hE hN hO ck => ?_) ?_
     ·
      refine Need.o1 rfl rfl rfl (fun _ h => h) ?_
      refine RL.no rfl rfl rfl hg198 rfl rfl ?_
      exact RL.nil ⟨_, rfl, Ch.refl, rfl⟩
     refine Each.consS (fun fl O wk hE hN hO ck => ?_) ?_
     ·
      refine Need.o1 rfl rfl rfl (fun _ h => h) ?_
      refine RL.no rfl rfl rfl hg198 rfl rfl ?_
      exact RL.nil ⟨_, rfl, Ch.refl, rfl⟩
     refine Each.consS (fun fl O wk hE hN hO ck => ?_) ?_
     ·
      refine Need.o1 rfl rfl rfl (fun _ h => h) ?_
      refine RL.no rfl rfl rfl hg198 rfl rfl ?_
      exact RL.nil ⟨_, rfl, Ch.refl, rfl⟩
     refine Each.consS (fun fl O wk hE hN hO ck => ?_) ?_
     ·
      refine Need.o1 rfl rfl rfl (fun _ h => h) ?_
      refine RL.no rfl rfl rfl hg198 rfl rfl ?_
      exact RL.nil ⟨_, rfl, Ch.refl, rfl⟩
     refine Each.consS (fun fl O wk hE hN hO ck => ?_) ?_
     ·
      refine Need.o1 rfl rfl rfl (fun _ h => h) ?_
      refine rl_pickF rfl hg198 rfl rfl ?_
      exact RL.nil ⟨_, rfl, Ch.refl, congrArg Value.bool (Option.some.inj hs239)⟩
     trivial
    intro hvO256 OpO256 O256 w254 hO257 c255 hN258
    refine Need.o1 rfl rfl rfl (fun _ h => h) ?_
    exact RL.nil ⟨rfl, ⟨rfl, rfl, rfl, rfl, rfl, rfl, rfl, trivial⟩, c255⟩
   rintro _ w261 ⟨hE260, c262⟩
   have k11 := k11.ch0 c262
   have k57 := k57.ch0 c262
   have h143 := h143.ch0 c262
   have h144 := h144.ch0 c262
   have k156 := k156.ch0 c262
   have c181 := c181.then0 c262
   refine thn_n (CW.sub [(0, (PV po0)), (4, (PV p1)), (6, (PV p8)), (8, (PV p16)), (9, (Value.bool true)), (12, (Value.int .i64 x158)), (75, (Value.bool b196))] hE260 ?_)
   refine CW.cond (t := b196) rfl (fun q263 => ?_) (fun q263 => ?_)
   ·
    have hb175 := ifT q263 hb175
    refine CW.skip ?_
    refine thn_n (CW.block ?_)
    refine CW.region ?_
    refine rl_move rfl rfl ?_
    refine rl_bin rfl rfl B.sub rfl ?_
    refine rl_assign rfl rfl ?_
    refine RL.nil ?_
    refine inB_n ?_
    refine thn_n ?_
    have hLn := runW_next hL171 hq174 hb175
    exact ⟨k180, Nat.lt_succ_self _, [(0, (PV po0)), (4, (PV p1)), (6, (PV p8)), (8, (PV p16)), (9, (Value.bool true)), (12, (Value.int .i64 (IntKind.i64.wrap (x158 - 1))))], ⟨rfl, rfl, rfl, rfl, rfl, rfl, trivial⟩, ⟨IntKind.i64.wrap (x158 - 1), rfl, c181, hLn, k11, k57, h143, h144, k156, d159, d160, d161, d162, d163, d164, d165, d166, d167, d168⟩⟩
   have hb175 := ifF q263 hb175
   refine CW.exit ?_
   refine thn_exit ?_
   refine thn_exit ?_
   refine inB_hit ?_
   have hLf := runW_fin hL171 hq174 hb175
   exact ⟨x158, ⟨rfl, rfl, rfl, rfl, rfl, rfl, trivial⟩, c181, hLf, k11, k57, h143, h144, k156, d159, d160, d161, d162, d163, d164, d165, d166, d167, d168⟩
  rintro _ w265 ⟨x158, hE266, c264, f267, k11, k57, h143, h144, k156, d159, d160, d161, d162, d163, d164, d165, d166, d167, d168⟩
  have hS := finS f267 hS
  refine thn_n (CW.sub [(0, (PV po0)), (4, (PV p1)), (6, (PV p8)), (8, (PV p16)), (9, (Value.bool true)), (12, (Value.int .i64 x158))] hE266 ?_)
  refine CW.seq ?_
  have h144 := SlO.read (S' := (un (inBlk (PV p16)) (un (inBlk (PV p8)) (un (inBlk (PV p1)) (un (inBlk (PV po0)) S2))))) k_Tie_pos h144 (fun b hs h => hs (un_el h (fun h => (.inl h)) (fun h => un_el h (fun h => (.inr (.inl h))) (fun h => un_el h (fun h => (.inr (.inr (.inl h)))) (fun h => un_el h (fun h => (.inr (.inr (.inr (.inl h))))) (fun h => (.inr (.inr (.inr (.inr (.inr h))))))))))) (fun b hb => fun h => un_el h (fun h => d148 b hb h) (fun h => un_el h (fun h => d149 b hb h) (fun h => un_el h (fun h => d150 b hb h) (fun h => un_el h (fun h => (disSym d168) b hb h) (linNot lin147 hd2 h2 b hb)))))
  have crf : Ch nb w265 w265 := Ch.refl
  have k11 := k11.ch0 crf
  have k57 := k57.ch0 crf
  have h143 := h143.ch0 crf
  have k156 := k156.ch0 crf
  have c264 := c264.then0 crf
  obtain ⟨y295, hy296, hS⟩ := bindS hS
  obtain ⟨z307, hz308, hS⟩ := bindS hS
  obtain ⟨z327, hz328, hS⟩ := bindS hS
  obtain ⟨y334, hy335, hS⟩ := bindS hS
  obtain ⟨z346, hz347, hS⟩ := bindS hS
  refine CW.draw 19 [(none, fun fx O uu wx => uu = (PV po0)), (some false, fun _ O uu wx => ∃ (v285 : Value), uu = v285 ∧ O = (inBlk v285) ∧ SlO k_Tie 37 F Bb (un (inBlk v285) (un (inBlk (PV p16)) (un (inBlk (PV p8)) (un (inBlk (PV p1)) (un (inBlk (PV po0)) S2))))) wx [] v285), (none, fun fx O uu wx => uu = (PV po0)), (none, fun fx O uu wx => uu = (PV po0)), (none, fun fx O uu wx => uu = (PV po0)), (none, fun fx O uu wx => uu = z142), (none, fun fx O uu wx => uu = (Value.int .i64 x158)), (none, fun fx O uu wx => ∃ (v297 : Value), uu = v297 ∧ slRep k_Tie (G F Bb (un O (un (inBlk (PV p16)) (un (inBlk (PV p8)) (un (inBlk (PV p1)) (un (inBlk (PV po0)) S2)))))) wx y295 v297), (some true, fun hv O uu wx => ∃ (v301 : Value) (v285 : Value), hv = [v285, v301] ∧ uu = v301 ∧ O = (inBlk v301) ∧ SlO k_Tie 37 F Bb (un (inBlk v301) (un (inBlk (PV p16)) (un (inBlk (PV p8)) (un (inBlk (PV p1)) (un (inBlk (PV po0)) S2))))) wx ([] ++ y295) v301), (none, fun fx O uu wx => uu = (Value.agg (Tie.enc ({ client := a1.client, service := a1.service, name := a1.name, localF := a1.localF, backend := a1.backend, last := a2 } : Tie)).toArray)), (none, fun fx O uu wx => ∃ (v314 : Value), uu = v314 ∧ slRep k_Tie (G F Bb (un O (un (inBlk (PV p16)) (un (inBlk (PV p8)) (un (inBlk (PV p1)) (un (inBlk (PV po0)) S2)))))) wx [({ client := a1.client, service := a1.service, name := a1.name, localF := a1.localF, backend := a1.backend, last := a2 } : Tie)] v314), (some true, fun hv O uu wx => ∃ (v321 : Value) (v285 : Value) (v301 : Value), hv = [v285, v301, v321] ∧ uu = v321 ∧ O = (inBlk v321) ∧ SlO k_Tie 37 F Bb (un (inBlk v321) (un (inBlk (PV p16)) (un (inBlk (PV p8)) (un (inBlk (PV p1)) (un (inBlk (PV po0)) S2))))) wx (([] ++ y295) ++ [({ client := a1.client, service := a1.service, name := a1.name, localF := a1.localF, backend := a1.backend, last := a2 } : Tie)]) v321), (none, fun fx O uu wx => uu = (PV po0)), (none, fun fx O uu wx => uu = (PV po0)), (none, fun fx O uu wx => uu = (PV po0)), (none, fun fx O uu wx => uu = z142), (none, fun fx O uu wx => uu = (Value.int .i64 x158)), (none, fun fx O uu wx => ∃ (v336 : Value), uu = v336 ∧ slRep k_Tie (G F Bb (un O (un (inBlk (PV p16)) (un (inBlk (PV p8)) (un (inBlk (PV p1)) (un (inBlk (PV po0)) S2)))))) wx y334 v336), (some true, fun hv O uu wx => ∃ (v340 : Value) (v285 : Value) (v301 : Value) (v321 : Value), hv = [v285, v301, v321, v340] ∧ uu = v340 ∧ O = (inBlk v340) ∧ SlO k_Tie 37 F Bb (un (inBlk v340) (un (inBlk (PV p16)) (un (inBlk (PV p8)) (un (inBlk (PV p1)) (un (inBlk (PV po0)) S2))))) wx ((([] ++ y295) ++ [({ client := a1.client, service := a1.service, name := a1.name, localF := a1.localF, backend := a1.backend, last := a2 } : Tie)]) ++ y334) v340)] [[], [], [], [2], [3], [4], [], [5, 6], [1, 7], [], [9], [8, 10], [], [12], [13], [14], [], [15, 16], [11, 17]] [18, 0] nb (fun _ h => h.elim) mixed rfl rfl rfl rfl ?_ ?_
  ·
   refine Each.consS (fun fl O wk hE hN hO ck => ?_) ?_
   ·
    refine rl_move rfl rfl ?_
    exact RL.nil ⟨_, rfl, Ch.refl, rfl⟩
   refine Each.consP ⟨fun _ O _ wx wy cc hh => by obtain ⟨v285, e, rfl, ck1_0⟩ := hh; exact ⟨v285, e, rfl, ck1_0.ch0 cc⟩, fun O wk hO ck => ?_⟩ ?_
   ·
    have k11 := k11.ch0 ck
    have k57 := k57.ch0 ck
    have h143 := h143.ch0 ck
    have k156 := k156.ch0 ck
    have c264 := c264.then0 ck
    refine rl_bslice (k := k_Tie) (F := F) (B := Bb) (S := (un O (un (inBlk (PV p16)) (un (inBlk (PV p8)) (un (inBlk (PV p1)) (un (inBlk (PV po0)) S2)))))) ([] : List Tie) rfl k_Tie_pos Try.underlying46 Try.sizeOf37 Try.zeroValue37 rfl rfl trivial (Nat.le_trans hB c264.size) (un_lt (fun b h => (hO b h).2) (un_lt k57.ltp (un_lt k11.ltp (un_lt k156.ltp (un_lt h143.ltp (fun b h => Nat.lt_of_lt_of_le (h2 b h) c264.size)))))) rfl ?_
    intro v368 w369 c370 hf371 h372
    have hb379 : ∀ b, (inBlk v368) b → wk.heap.size ≤ b ∧ b < w369.heap.size := fun b h => ⟨hf371 b h, (fun b hb => (h372.lt b hb).2) b h⟩
    have h380 := SlO.reS (S' := (un (inBlk v368) (un (inBlk (PV p16)) (un (inBlk (PV p8)) (un (inBlk (PV p1)) (un (inBlk (PV po0)) S2)))))) (fun h => h) h372 (fun b h => .inl h)
    exact RL.nil ⟨_, (inBlk v368), rfl, hb379, c370, ⟨v368, rfl, rfl, h380⟩⟩
   refine Each.consS (fun fl O wk hE hN hO ck => ?_) ?_
   ·
    refine rl_move rfl rfl ?_
    exact RL.nil ⟨_, rfl, Ch.refl, rfl⟩
   refine Each.consS (fun fl O wk hE hN hO ck => ?_) ?_
   ·
    refine Need.o1 rfl rfl rfl (fun _ h => h) ?_
    refine rl_nilCheck rfl rfl ?_
    exact RL.nil ⟨_, rfl, Ch.refl, rfl⟩
   refine Each.consS (fun fl O wk hE hN hO ck => ?_) ?_
   ·
    refine Need.o1 rfl rfl rfl (fun _ h => h) ?_
    refine rl_fieldAddr rfl fa48_0 rfl ?_
    exact RL.nil ⟨_, rfl, Ch.refl, rfl⟩
   refine Each.consS (fun fl O wk hE hN hO ck => ?_) ?_
   ·
    have h143 := h143.ch0 ck
    refine Need.o1 rfl rfl rfl (fun _ h => h) ?_
    refine rl_loadS (v := z142) rfl Try.isAgg46 (h143.cell rfl) rfl ?_
    exact RL.nil ⟨_, rfl, Ch.refl, rfl⟩
   refine Each.consS (fun fl O wk hE hN hO ck => ?_) ?_
   ·
    refine rl_move rfl rfl ?_
    exact RL.nil ⟨_, rfl, Ch.refl, rfl⟩
   refine Each.consA ⟨fun _ _ _ _ _ cc hh => by obtain ⟨v297, e, h298⟩ := hh; exact ⟨v297, e, slRep.ch k_Tie_pos h298 cc⟩, fun _ _ h' O O' D _ wx wy hfl hD hO' cc hh => by obtain ⟨v297, e, h298⟩ := hh; have ad := admGh (S := (un (inBlk (PV p16)) (un (inBlk (PV p8)) (un (inBlk (PV p1)) (un (inBlk (PV po0)) S2))))) hD hO'; exact ⟨v297, e, slRep.st k_Tie_pos h298 cc ad⟩, fun fl O wk hE hN hO ck => ?_⟩ ?_
   ·
    have ha413 : ∀ b, b < w265.heap.size → ¬ (un (inBlk (PV p16)) (un (inBlk (PV p8)) (un (inBlk (PV p1)) (un (inBlk (PV po0)) S2)))) b → ¬ nb b ∧ ¬ (un O (un (inBlk (PV p16)) (un (inBlk (PV p8)) (un (inBlk (PV p1)) (un (inBlk (PV po0)) S2))))) b := fun b hb hs => ⟨fun h => h.elim, fun h => un_el h (fun ho => (hO b ho).1.elim (fun h => h.elim) (fun h => Nat.not_le_of_lt hb h)) (fun h => un_el h (fun h => hs (.inl h)) (fun h => un_el h (fun h => hs (.inr (.inl h))) (fun h => un_el h (fun h => hs (.inr (.inr (.inl h)))) (fun h => un_el h (fun h => hs (.inr (.inr (.inr (.inl h))))) (fun h => hs (.inr (.inr (.inr (.inr h)))))))))⟩
    have h144 := slRep.st k_Tie_pos h144 ck ha413
    refine Need.o1 rfl rfl rfl (fun _ h => h) ?_
    refine Need.o1 rfl rfl rfl (fun _ h => h) ?_
    refine rl_cutR (kl := .i64) (kh := .i64) none (some x158) rfl h144 k_Tie_pos trivial rfl hy296 Try.underlying46 Try.sizeOf37 rfl ?_
    intro v416 h417
    exact RL.nil ⟨_, rfl, Ch.refl, ⟨v416, rfl, h417⟩⟩
   refine Each.consO ⟨fun _ O _ wx wy cc hh => by obtain ⟨v301, v285, eh, e, rfl, ck8_0⟩ := hh; exact ⟨v301, v285, eh, e, rfl, ck8_0.ch0 cc⟩, fun hv Op O wk hO ck hO0 => ?_⟩ ?_
   ·
    obtain ⟨hl, hBg⟩ := hO0 rfl
    refine Need.made rfl rfl rfl rfl ?_
    rintro _ ⟨v285, e418, eO419, ck1_0⟩ hh420
    obtain rfl := e418.symm
    have io421 : ∀ b, inBlk v285 b → _ := fun b h => (Eq.mpr (congrFun eO419 b) h)
    obtain rfl := hist_eq [v285] hv hl ⟨hh420, trivial⟩
    have k11 := k11.ch0 hBg.2.1
    have k57 := k57.ch0 hBg.2.1
    have h143 := h143.ch0 hBg.2.1
    have k156 := k156.ch0 hBg.2.1
    have c264 := c264.then0 hBg.2.1
    have ck1_0 := SlO.reS (S' := (un (inBlk v285) (un (inBlk (PV p16)) (un (inBlk (PV p8)) (un (inBlk (PV p1)) (un (inBlk (PV po0)) S2)))))) (fun h => h) ck1_0 (fun b h => (.inl h))
    refine Need.one rfl rfl rfl ?_
    rintro _ ⟨v297, e429, h298⟩
    obtain rfl := e429.symm
    have h298 := slRep.wk (F' := (G F Bb (un (inBlk v285) (un (inBlk (PV p16)) (un (inBlk (PV p8)) (un (inBlk (PV p1)) (un (inBlk (PV po0)) S2))))))) k_Tie_pos h298 (fun b _ hf => ⟨hf.1, fun h => hf.2 (un_el h (fun h => (.inl ((hBg.1 b).2 (.inr ⟨_, inPre rfl, io421 b h⟩)))) (fun h => un_el h (fun h => (.inr (.inl h))) (fun h => un_el h (fun h => (.inr (.inr (.inl h)))) (fun h => un_el h (fun h => (.inr (.inr (.inr (.inl h))))) (fun h => un_el h (fun h => (.inr (.inr (.inr (.inr (.inl h)))))) (fun h => (.inr (.inr (.inr (.inr (.inr h)))))))))))⟩)
    have hl := (apO_get hz308).1
    refine rl_append (k := k_Tie) (T := 37) (F := F) (B := Bb) (S := (un (inBlk v285) (un (inBlk (PV p16)) (un (inBlk (PV p8)) (un (inBlk (PV p1)) (un (inBlk (PV po0)) S2)))))) (S2 := (un (inBlk (PV p16)) (un (inBlk (PV p8)) (un (inBlk (PV p1)) (un (inBlk (PV po0)) S2))))) (fun v => (un (inBlk v) (un (inBlk (PV p16)) (un (inBlk (PV p8)) (un (inBlk (PV p1)) (un (inBlk (PV po0)) S2)))))) rfl rfl k_Tie_pos ap46 ck1_0 h298 (fun _ => Iff.rfl) (fun _ _ => Iff.rfl) hl (Nat.le_trans hB c264.size) (un_lt (fun b hb => (ck1_0.lt b hb).2) (un_lt k57.ltp (un_lt k11.ltp (un_lt k156.ltp (un_lt h143.ltp (fun b h => Nat.lt_of_lt_of_le (h2 b h) c264.size)))))) rfl ?_
    intro v432 w433 h434 c435 hf436 ha437
    have hb443 : ∀ b, (inBlk v432) b → (O b ∨ wk.heap.size ≤ b) ∧ b < w433.heap.size := fun b h => ⟨(hf436 b h).elim (fun h => .inl (((hBg.1 b).2 (.inr ⟨_, inPre rfl, io421 b h⟩)))) (fun h => .inr (Nat.le_trans (Nat.le_refl _) h)), (fun b hb => (h434.lt b hb).2) b h⟩
    exact RL.nil ⟨_, (inBlk v432), rfl, hb443, (c435.mono (fun b _ h => ((hBg.1 b).2 (.inr ⟨_, inPre rfl, io421 b h⟩)))), ⟨v432, v285, rfl, rfl, rfl, h434⟩⟩
   refine Each.consS (fun fl O wk hE hN hO ck => ?_) ?_
   ·
    have k156 := k156.ch0 ck
    refine rl_loadA (cs := (Tie.enc ({ client := a1.client, service := a1.service, name := a1.name, localF := a1.localF, backend := a1.backend, last := a2 } : Tie))) rfl Try.isAgg37 Try.sizeOf37 (k156.segAt 0 40) rfl rfl ?_
    exact RL.nil ⟨_, rfl, Ch.refl, rfl⟩
   refine Each.consA ⟨fun _ _ _ _ _ cc hh => by obtain ⟨v314, e, h318⟩ := hh; exact ⟨v314, e, slRep.ch k_Tie_pos h318 cc⟩, fun _ _ h' O O' D _ wx wy hfl hD hO' cc hh => by obtain ⟨v314, e, h318⟩ := hh; have ad := admGh (S := (un (inBlk (PV p16)) (un (inBlk (PV p8)) (un (inBlk (PV p1)) (un (inBlk (PV po0)) S2))))) hD hO'; exact ⟨v314, e, slRep.st k_Tie_pos h318 cc ad⟩, fun fl O wk hE hN hO ck => ?_⟩ ?_
   ·
    have k11 := k11.ch0 ck
    have k57 := k57.ch0 ck
    have h143 := h143.ch0 ck
    have k156 := k156.ch0 ck
    have c264 := c264.then0 ck
    refine Need.o1 rfl rfl rfl (fun _ h => h) ?_
    refine rl_bslice (k := k_Tie) (F := F) (B := Bb) (S := (un O (un (inBlk (PV p16)) (un (inBlk (PV p8)) (un (inBlk (PV p1)) (un (inBlk (PV po0)) S2)))))) ([({ client := a1.client, service := a1.service, name := a1.name, localF := a1.localF, backend := a1.backend, last := a2 } : Tie)] : List Tie) rfl k_Tie_pos Try.underlying46 Try.sizeOf37 Try.zeroValue37 rfl rfl ⟨rfl, rfl, trivial⟩ (Nat.le_trans hB c264.size) (un_lt (fun b h => (hO b h).2) (un_lt k57.ltp (un_lt k11.ltp (un_lt k156.ltp (un_lt h143.ltp (fun b h => Nat.lt_of_lt_of_le (h2 b h) c264.size)))))) rfl ?_
    intro v455 w456 c457 hf458 h459
    have h459 := h459.readNew k_Tie_pos hf458 (un_lt (fun b h => (hO b h).2) (un_lt k57.ltp (un_lt k11.ltp (un_lt k156.ltp (un_lt h143.ltp (fun b h => Nat.lt_of_lt_of_le (h2 b h) c264.size))))))
    exact RL.nil ⟨_, rfl, c457, ⟨v455, rfl, h459⟩⟩
   refine Each.consO ⟨fun _ O _ wx wy cc hh => by obtain ⟨v321, v285, v301, eh, e, rfl, ck11_0⟩ := hh; exact ⟨v321, v285, v301, eh, e, rfl, ck11_0.ch0 cc⟩, fun hv Op O wk hO ck hO0 => ?_⟩ ?_
   ·
    refine Need.here rfl rfl rfl rfl ?_
    rintro _ ⟨v301, v285, rfl, e464, rfl, ck8_0⟩
    obtain rfl := e464.symm
    have k11 := k11.ch0 ck
    have k57 := k57.ch0 ck
    have h143 := h143.ch0 ck
    have k156 := k156.ch0 ck
    have c264 := c264.then0 ck
    refine Need.one rfl rfl rfl ?_
    rintro _ ⟨v314, e471, h318⟩
    obtain rfl := e471.symm
    have h318 := slRep.wk (F' := (G F Bb (un (inBlk v301) (un (inBlk (PV p16)) (un (inBlk (PV p8)) (un (inBlk (PV p1)) (un (inBlk (PV po0)) S2))))))) k_Tie_pos h318 (fun b _ hf => ⟨hf.1, fun h => hf.2 (un_el h (fun h => (.inl h)) (fun h => un_el h (fun h => (.inr (.inl h))) (fun h => un_el h (fun h => (.inr (.inr (.inl h)))) (fun h => un_el h (fun h => (.inr (.inr (.inr (.inl h))))) (fun h => un_el h (fun h => (.inr (.inr (.inr (.inr (.inl h)))))) (fun h => (.inr (.inr (.inr (.inr (.inr h)))))))))))⟩)
    have hl := (apO_get hz328).1
    refine rl_append (k := k_Tie) (T := 37) (F := F) (B := Bb) (S := (un (inBlk v301) (un (inBlk (PV p16)) (un (inBlk (PV p8)) (un (inBlk (PV p1)) (un (inBlk (PV po0)) S2)))))) (S2 := (un (inBlk (PV p16)) (un (inBlk (PV p8)) (un (inBlk (PV p1)) (un (inBlk (PV po0)) S2))))) (fun v => (un (inBlk v) (un (inBlk (PV p16)) (un (inBlk (PV p8)) (un (inBlk (PV p1)) (un (inBlk (PV po0)) S2)))))) rfl rfl k_Tie_pos ap46 ck8_0 h318 (fun _ => Iff.rfl) (fun _ _ => Iff.rfl) hl (Nat.le_trans hB c264.size) (un_lt (fun b hb => (ck8_0.lt b hb).2) (un_lt k57.ltp (un_lt k11.ltp (un_lt k156.ltp (un_lt h143.ltp (fun b h => Nat.lt_of_lt_of_le (h2 b h) c264.size)))))) rfl ?_
    intro v474 w475 h476 c477 hf478 ha479
    have hb485 : ∀ b, (inBlk v474) b → ((inBlk v301) b ∨ wk.heap.size ≤ b) ∧ b < w475.heap.size := fun b h => ⟨(hf478 b h).elim (fun h => .inl (h)) (fun h => .inr (Nat.le_trans (Nat.le_refl _) h)), (fun b hb => (h476.lt b hb).2) b h⟩
    exact RL.nil ⟨_, (inBlk v474), rfl, hb485, (c477.mono (fun b _ h => h)), ⟨v474, v285, v301, rfl, rfl, rfl, h476⟩⟩
   refine Each.consS (fun fl O wk hE hN hO ck => ?_) ?_
   ·
    refine rl_move rfl rfl ?_
    exact RL.nil ⟨_, rfl, Ch.refl, rfl⟩
   refine Each.consS (fun fl O wk hE hN hO ck => ?_) ?_
   ·
    refine Need.o1 rfl rfl rfl (fun _ h => h) ?_
    refine rl_nilCheck rfl rfl ?_
    exact RL.nil ⟨_, rfl, Ch.refl, rfl⟩
   refine Each.consS (fun fl O wk hE hN hO ck => ?_) ?_
   ·
    refine Need.o1 rfl rfl rfl (fun _ h => h) ?_
    refine rl_fieldAddr rfl fa48_0 rfl ?_
    exact RL.nil ⟨_, rfl, Ch.refl, rfl⟩
   refine Each.consS (fun fl O wk hE hN hO ck => ?_) ?_
   ·
    have h143 := h143.ch0 ck
    refine Need.o1 rfl rfl rfl (fun _ h => h) ?_
    refine rl_loadS (v := z142) rfl Try.isAgg46 (h143.cell rfl) rfl ?_
    exact RL.nil ⟨_, rfl, Ch.refl, rfl⟩
   refine Each.consS (fun fl O wk hE hN hO ck => ?_) ?_
   ·
    refine rl_move rfl rfl ?_
    exact RL.nil ⟨_, rfl, Ch.refl, rfl⟩
   refine Each.consA ⟨fun _ _ _ _ _ cc hh => by obtain ⟨v336, e, h337⟩ := hh; exact ⟨v336, e, slRep.ch k_Tie_pos h337 cc⟩, fun _ _ h' O O' D _ wx wy hfl hD hO' cc hh => by obtain ⟨v336, e, h337⟩ := hh; have ad := admGh (S := (un (inBlk (PV p16)) (un (inBlk (PV p8)) (un (inBlk (PV p1)) (un (inBlk (PV po0)) S2))))) hD hO'; exact ⟨v336, e, slRep.st k_Tie_pos h337 cc ad⟩, fun fl O wk hE hN hO ck => ?_⟩ ?_
   ·
    have ha518 : ∀ b, b < w265.heap.size → ¬ (un (inBlk (PV p16)) (un (inBlk (PV p8)) (un (inBlk (PV p1)) (un (inBlk (PV po0)) S2)))) b → ¬ nb b ∧ ¬ (un O (un (inBlk (PV p16)) (un (inBlk (PV p8)) (un (inBlk (PV p1)) (un (inBlk (PV po0)) S2))))) b := fun b hb hs => ⟨fun h => h.elim, fun h => un_el h (fun ho => (hO b ho).1.elim (fun h => h.elim) (fun h => Nat.not_le_of_lt hb h)) (fun h => un_el h (fun h => hs (.inl h)) (fun h => un_el h (fun h => hs (.inr (.inl h))) (fun h => un_el h (fun h => hs (.inr (.inr (.inl h)))) (fun h => un_el h (fun h => hs (.inr (.inr (.inr (.inl h))))) (fun h => hs (.inr (.inr (.inr (.inr h)))))))))⟩
    have h144 := slRep.st k_Tie_pos h144 ck ha518
    refine Need.o1 rfl rfl rfl (fun _ h => h) ?_
    refine Need.o1 rfl rfl rfl (fun _ h => h) ?_
    refine rl_cutR (kl := .i64) (kh := .i64) (some x158) none rfl h144 k_Tie_pos rfl trivial hy335 Try.underlying46 Try.sizeOf37 rfl ?_
    intro v521 h522
    exact RL.nil ⟨_, rfl, Ch.refl, ⟨v521, rfl, h522⟩⟩
   refine Each.consO ⟨fun _ O _ wx wy cc hh => by obtain ⟨v340, v285, v301, v321, eh, e, rfl, ck18_0⟩ := hh; exact ⟨v340, v285, v301, v321, eh, e, rfl, ck18_0.ch0 cc⟩, fun hv Op O wk hO ck hO0 => ?_⟩ ?_
   ·
    refine Need.here rfl rfl rfl rfl ?_
    rintro _ ⟨v321, v285, v301, rfl, e527, rfl, ck11_0⟩
    obtain rfl := e527.symm
    have k11 := k11.ch0 ck
    have k57 := k57.ch0 ck
    have h143 := h143.ch0 ck
    have k156 := k156.ch0 ck
    have c264 := c264.then0 ck
    refine Need.one rfl rfl rfl ?_
    rintro _ ⟨v336, e534, h337⟩
    obtain rfl := e534.symm
    have h337 := slRep.wk (F' := (G F Bb (un (inBlk v321) (un (inBlk (PV p16)) (un (inBlk (PV p8)) (un (inBlk (PV p1)) (un (inBlk (PV po0)) S2))))))) k_Tie_pos h337 (fun b _ hf => ⟨hf.1, fun h => hf.2 (un_el h (fun h => (.inl h)) (fun h => un_el h (fun h => (.inr (.inl h))) (fun h => un_el h (fun h => (.inr (.inr (.inl h)))) (fun h => un_el h (fun h => (.inr (.inr (.inr (.inl h))))) (fun h => un_el h (fun h => (.inr (.inr (.inr (.inr (.inl h)))))) (fun h => (.inr (.inr (.inr (.inr (.inr h)))))))))))⟩)
    have hl := (apO_get hz347).1
    refine rl_append (k := k_Tie) (T := 37) (F := F) (B := Bb) (S := (un (inBlk v321) (un (inBlk (PV p16)) (un (inBlk (PV p8)) (un (inBlk (PV p1)) (un (inBlk (PV po0)) S2)))))) (S2 := (un (inBlk (PV p16)) (un (inBlk (PV p8)) (un (inBlk (PV p1)) (un (inBlk (PV po0)) S2))))) (fun v => (un (inBlk v) (un (inBlk (PV p16)) (un (inBlk (PV p8)) (un (inBlk (PV p1)) (un (inBlk (PV po0)) S2)))))) rfl rfl k_Tie_pos ap46 ck11_0 h337 (fun _ => Iff.rfl) (fun _ _ => Iff.rfl) hl (Nat.le_trans hB c264.size) (un_lt (fun b hb => (ck11_0.lt b hb).2) (un_lt k57.ltp (un_lt k11.ltp (un_lt k156.ltp (un_lt h143.ltp (fun b h => Nat.lt_of_lt_of_le (h2 b h) c264.size)))))) rfl ?_
    intro v537 w538 h539 c540 hf541 ha542
    have hb548 : ∀ b, (inBlk v537) b → ((inBlk v321) b ∨ wk.heap.size ≤ b) ∧ b < w538.heap.size := fun b h => ⟨(hf541 b h).elim (fun h => .inl (h)) (fun h => .inr (Nat.le_trans (Nat.le_refl _) h)), (fun b hb => (h539.lt b hb).2) b h⟩
    exact RL.nil ⟨_, (inBlk v537), rfl, hb548, (c540.mono (fun b _ h => h)), ⟨v537, v285, v301, v321, rfl, rfl, rfl, h539⟩⟩
   trivial
  intro hvO551 OpO551 O551 w549 hO552 c550 hN553
  have ol555 : ∀ b, inBlk (PV p8) b → b < w265.heap.size := k11.ltp
  have ol557 : ∀ b, inBlk (PV po0) b → b < w265.heap.size := h143.ltp
  refine Need.here rfl rfl rfl rfl ?_
  rintro _ ⟨v340, v285, v301, v321, rfl, e558, rfl, ck18_0⟩
  obtain rfl := e558.symm
  have lo559 : ∀ b, inBlk v340 b → w.heap.size ≤ b := fun b h => (hO552 b h).1.elim (fun h => h.elim) (Nat.le_trans c264.size)
  have d561 : ∀ b, inBlk v340 b → ¬ inBlk (PV p8) b := fun b h hu => (hO552 b h).1.elim (fun h => h.elim) (fun h => Nat.not_le_of_lt (ol555 b hu) h)
  have d563 : ∀ b, inBlk v340 b → ¬ inBlk (PV po0) b := fun b h hu => (hO552 b h).1.elim (fun h => h.elim) (fun h => Nat.not_le_of_lt (ol557 b hu) h)
  have ha564 : ∀ b, b < w265.heap.size → ¬ (un (inBlk (PV p16)) (un (inBlk (PV p8)) (un (inBlk (PV p1)) (un (inBlk (PV po0)) S2)))) b → ¬ nb b ∧ ¬ (un (inBlk v340) (un (inBlk (PV p16)) (un (inBlk (PV p8)) (un (inBlk (PV p1)) (un (inBlk (PV po0)) S2))))) b := fun b hb hs => ⟨fun h => h.elim, fun h => un_el h (fun h => (hO552 b h).1.elim (fun h => h.elim) (fun h => Nat.not_le_of_lt hb h)) (fun h => un_el h (fun h => hs (.inl h)) (fun h => un_el h (fun h => hs (.inr (.inl h))) (fun h => un_el h (fun h => hs (.inr (.inr (.inl h)))) (fun h => un_el h (fun h => hs (.inr (.inr (.inr (.inl h))))) (fun h => hs (.inr (.inr (.inr (.inr h)))))))))⟩
  have k11 := k11.ch0 c550
  have k57 := k57.ch0 c550
  have h143 := h143.ch0 c550
  have h144 := slRep.st k_Tie_pos h144 c550 ha564
  have c264 := c264.then0 c550
  refine Need.o1 rfl rfl rfl (fun _ h => h) ?_
  refine rl_nilCheck rfl rfl ?_
  refine rl_fieldAddr rfl fa48_0 rfl ?_
  refine rl_storeS (u := v340) rfl rfl ck18_0.one Try.sizeOf46 h143 rfl ?_
  intro w566 s568 c567 k569
  have ad570 : ∀ b, b < w549.heap.size → ¬ (un (inBlk v340) (un (inBlk (PV p16)) (un (inBlk (PV p8)) (un (inBlk (PV p1)) (un (inBlk (PV po0)) S2))))) b → ¬ (inBlk (PV po0)) b ∧ ¬ (un (inBlk v340) (un (inBlk (PV p16)) (un (inBlk (PV p8)) (un (inBlk (PV p1)) (un (inBlk (PV po0)) S2))))) b := fun b _ hs => ⟨fun h => hs (.inr (.inr (.inr (.inr (.inl h))))), hs⟩
  have k11 := k11.ch c567 ((fun b hb h => d164 b hb h) _ rfl)
  have k57 := k57.ch c567 ((fun b hb h => d161 b hb h) _ rfl)
  have h144 := slRep.st k_Tie_pos h144 c567 ad570
  have ck18_0 := ck18_0.st c567 (fun b hb h => d563 b hb h) ad570 (fun b h => (.inl h))
  have c264 := c264.then c567 (fun i hi h => (lin0_0 i h).elim (fun x => x) (fun x => absurd x (Nat.not_le_of_lt hi)))
  refine RL.nil (thn_n (CW.seq (CW.region ?_)))
  refine rl_loadA (cs := (Tie.enc x56)) rfl Try.isAgg37 Try.sizeOf37 (k57.segAt 0 40) rfl rfl ?_
  refine rl_move rfl rfl ?_
  refine rl_storeA (vs := (Tie.enc x56)) rfl rfl (all_one rfl) Try.sizeOf37 rfl k11 rfl ?_
  intro w571 s573 c572 k574
  have ad575 : ∀ b, b < w566.heap.size → ¬ (un (inBlk v340) (un (inBlk (PV p16)) (un (inBlk (PV p8)) (un (inBlk (PV p1)) (un (inBlk (PV po0)) S2))))) b → ¬ (inBlk (PV p8)) b ∧ ¬ (un (inBlk v340) (un (inBlk (PV p16)) (un (inBlk (PV p8)) (un (inBlk (PV p1)) (un (inBlk (PV po0)) S2))))) b := fun b _ hs => ⟨fun h => hs (.inr (.inr (.inl h))), hs⟩
  have h144 := slRep.st k_Tie_pos h144 c572 ad575
  have ck18_0 := ck18_0.st c572 (fun b hb h => d561 b hb h) ad575 (fun b h => (.inl h))
  have k569 := k569.ch c572 ((fun b hb h => (disSym d164) b hb h) _ rfl)
  have c264 := c264.then c572 (fun i hi h => absurd (lo12 i h) (Nat.not_le_of_lt hi))
  refine rl_assign rfl rfl ?_
  refine RL.nil (thn_n (CW.ret ?_))
  obtain rfl := Option.some.inj hS
  have ad576 : ∀ b, b < w571.heap.size → ¬ (un (inBlk v340) (un (inBlk (PV p16)) (un (inBlk (PV p8)) (un (inBlk (PV p1)) (un (inBlk (PV po0)) S2))))) b → ¬ nb b ∧ ¬ (un (inBlk v340) (un (inBlk (PV p8)) (un (inBlk (PV p1)) (un (inBlk (PV po0)) S2)))) b := fun b _ hs => ⟨fun x => x, fun h => hs (un_el h (fun h => (.inl h)) (fun h => un_el h (fun h => (.inr (.inr (.inl h)))) (fun h => un_el h (fun h => (.inr (.inr (.inr (.inl h))))) (fun h => un_el h (fun h => (.inr (.inr (.inr (.inr (.inl h)))))) (fun h => (.inr (.inr (.inr (.inr (.inr h))))))))))⟩
  have crf : Ch nb w571 w571 := Ch.refl
  have h144 := slRep.st k_Tie_pos h144 crf ad576
  have ck18_0 := ck18_0.st crf (fun _ _ x => x) ad576 (fun b h => (.inl h))
  have k569 := k569.ch0 crf
  have k574 := k574.ch0 crf
  have c264 := c264.then0 crf
  have ad577 : ∀ b, b < w571.heap.size → ¬ (un (inBlk v340) (un (inBlk (PV p8)) (un (inBlk (PV p1)) (un (inBlk (PV po0)) S2)))) b → ¬ nb b ∧ ¬ (un (inBlk v340) (un (inBlk (PV p1)) (un (inBlk (PV po0)) S2))) b := fun b _ hs => ⟨fun x => x, fun h => hs (un_el h (fun h => (.inl h)) (fun h => un_el h (fun h => (.inr (.inr (.inl h)))) (fun h => un_el h (fun h => (.inr (.inr (.inr (.inl h))))) (fun h => (.inr (.inr (.inr (.inr h))))))))⟩
  have crf : Ch nb w571 w571 := Ch.refl
  have h144 := slRep.st k_Tie_pos h144 crf ad577
  have ck18_0 := ck18_0.st crf (fun _ _ x => x) ad577 (fun b h => (.inl h))
  have k569 := k569.ch0 crf
  have c264 := c264.then0 crf
  have ad578 : ∀ b, b < w571.heap.size → ¬ (un (inBlk v340) (un (inBlk (PV p1)) (un (inBlk (PV po0)) S2))) b → ¬ nb b ∧ ¬ (un (inBlk v340) (un (inBlk (PV po0)) S2)) b := fun b _ hs => ⟨fun x => x, fun h => hs (un_el h (fun h => (.inl h)) (fun h => un_el h (fun h => (.inr (.inr (.inl h)))) (fun h => (.inr (.inr (.inr h))))))⟩
  have crf : Ch nb w571 w571 := Ch.refl
  have h144 := slRep.st k_Tie_pos h144 crf ad578
  have ck18_0 := ck18_0.st crf (fun _ _ x => x) ad578 (fun b h => (.inl h))
  have k569 := k569.ch0 crf
  have c264 := c264.then0 crf
  have hS579 : (un (inBlk v340) (un (inBlk (PV po0)) S2)) = (un (inBlk (PV po0)) (un (inBlk v340) S2)) := funext fun b => propext ⟨fun h => un_el h (fun h => (.inr (.inl h))) (fun h => un_el h (fun h => (.inl h)) (fun h => (.inr (.inr h)))), fun h => un_el h (fun h => (.inr (.inl h))) (fun h => un_el h (fun h => (.inl h)) (fun h => (.inr (.inr h))))⟩
  rw [hS579] at h144 ck18_0
  exact ⟨[_, _], ⟨Res1.agg (cs := (Tie.enc x56)) rfl Try.isAgg37 Try.sizeOf37 (k574.segAt 0 40) rfl, rfl, trivial⟩, ⟨v340, rfl, k569, ck18_0, (fun b h => .inr (lo559 b h)), (disSym d563), c264⟩⟩
 have hS := ifF q42 hS
 refine CW.skip ?_
 refine thn_n (CW.seq (CW.region ?_))
 refine rl_move rfl rfl ?_
 refine rl_loadA (cs := (Tie.enc a1)) rfl Try.isAgg37 Try.sizeOf37 (k4.segAt 0 40) rfl rfl ?_
 have hd580 : ∀ b, (un (inBlk (PV po0)) (inBlk az0_0)) b → ¬ (un (inBlk (PV p16)) (un (inBlk (PV p8)) (un (inBlk (PV p1)) S2))) b := fun b h => un_el h (fun h => (fun b hb => fun h => un_el h (fun h => (disSym d23) b hb h) (fun h => un_el h (fun h => (disSym d14) b hb h) (fun h => un_el h (fun h => (disSym d6) b hb h) (linNot lin0_0 hd2 h2 b hb)))) b h) (fun h => (fun b hb => fun h => un_el h (fun h => (disSym d24) b hb h) (fun h => un_el h (fun h => (disSym d15) b hb h) (fun h => un_el h (fun h => (disSym d7) b hb h) (linNot lin1_0 hd2 h2 b hb)))) b h)
 have hS581 : (un (inBlk (PV p16)) (un (inBlk (PV p8)) (un (inBlk (PV p1)) (un (inBlk (PV po0)) (un (inBlk az0_0) S2))))) = (un (inBlk (PV po0)) (un (inBlk az0_0) (un (inBlk (PV p16)) (un (inBlk (PV p8)) (un (inBlk (PV p1)) S2))))) := funext fun b => propext ⟨fun h => un_el h (fun h => (.inr (.inr (.inl h)))) (fun h => un_el h (fun h => (.inr (.inr (.inr (.inl h))))) (fun h => un_el h (fun h => (.inr (.inr (.inr (.inr (.inl h)))))) (fun h => un_el h (fun h => (.inl h)) (fun h => un_el h (fun h => (.inr (.inl h))) (fun h => (.inr (.inr (.inr (.inr (.inr h)))))))))), fun h => un_el h (fun h => (.inr (.inr (.inr (.inl h))))) (fun h => un_el h (fun h => (.inr (.inr (.inr (.inr (.inl h)))))) (fun h => un_el h (fun h => (.inl h)) (fun h => un_el h (fun h => (.inr (.inl h))) (fun h => un_el h (fun h => (.inr (.inr (.inl h)))) (fun h => (.inr (.inr (.inr (.inr (.inr h))))))))))⟩
 obtain ⟨y584, hy585, hS⟩ := bindS hS
 refine rl_callF rfl en30 rfl (ctr30 F w40 Bb (un (inBlk (PV p16)) (un (inBlk (PV p8)) (un (inBlk (PV p1)) S2))) (Nat.le_trans hB c0.size) (un_lt k28.ltp (un_lt k11.ltp (un_lt k4.ltp (fun b h => Nat.lt_of_lt_of_le (h2 b h) c0.size)))) po0 az0_0 hd580 hx0_1 a0 ah0 (hS581 ▸ ah0_0) a1 y584 hy585) ?_
 rintro _ w582 ⟨z586, rfl, h587, h588, hf589, d590, c583⟩
 have lin591 : ∀ b, inBlk z586 b → (un (inBlk (PV po0)) (inBlk az0_0)) b ∨ w.heap.size ≤ b := fun b h => (hf589 b h).elim (fun h => un_el h (fun h => lin0_0 b h) (fun h => lin1_0 b h)) (fun h => .inr (Nat.le_trans c0.size h))
 have d592 : ∀ b, inBlk z586 b → ¬ inBlk (PV p16) b := fun b h hu => (hf589 b h).elim (fun h => un_el h (fun h => (disSym d23) b h hu) (fun h => (disSym d24) b h hu)) (fun h => Nat.not_le_of_lt (k28.ltp b hu) h)
 have d593 : ∀ b, inBlk z586 b → ¬ inBlk (PV p8) b := fun b h hu => (hf589 b h).elim (fun h => un_el h (fun h => (disSym d14) b h hu) (fun h => (disSym d15) b h hu)) (fun h => Nat.not_le_of_lt (k11.ltp b hu) h)
 have d594 : ∀ b, inBlk z586 b → ¬ inBlk (PV p1) b := fun b h hu => (hf589 b h).elim (fun h => un_el h (fun h => (disSym d6) b h hu) (fun h => (disSym d7) b h hu)) (fun h => Nat.not_le_of_lt (k4.ltp b hu) h)
 have hS595 : (un (inBlk (PV p16)) (un (inBlk (PV p8)) (un (inBlk (PV p1)) (un (inBlk (PV po0)) (un (inBlk z586) S2))))) = (un (inBlk (PV po0)) (un (inBlk z586) (un (inBlk (PV p16)) (un (inBlk (PV p8)) (un (inBlk (PV p1)) S2))))) := funext fun b => propext ⟨fun h => un_el h (fun h => (.inr (.inr (.inl h)))) (fun h => un_el h (fun h => (.inr (.inr (.inr (.inl h))))) (fun h => un_el h (fun h => (.inr (.inr (.inr (.inr (.inl h)))))) (fun h => un_el h (fun h => (.inl h)) (fun h => un_el h (fun h => (.inr (.inl h))) (fun h => (.inr (.inr (.inr (.inr (.inr h)))))))))), fun h => un_el h (fun h => (.inr (.inr (.inr (.inl h))))) (fun h => un_el h (fun h => (.inr (.inr (.inr (.inr (.inl h)))))) (fun h => un_el h (fun h => (.inl h)) (fun h => un_el h (fun h => (.inr (.inl h))) (fun h => un_el h (fun h => (.inr (.inr (.inl h)))) (fun h => (.inr (.inr (.inr (.inr (.inr h))))))))))⟩
 rw [← hS595] at h588
 have k4 := k4.ch c583 ((fun b hb h => un_el h (fun h => d6 b hb h) (fun h => d7 b hb h)) _ rfl)
 have k11 := k11.ch c583 ((fun b hb h => un_el h (fun h => d14 b hb h) (fun h => d15 b hb h)) _ rfl)
 have k28 := k28.ch c583 ((fun b hb h => un_el h (fun h => d23 b hb h) (fun h => d24 b hb h)) _ rfl)
 have c0 := c0.then c583 (fun i hi h => un_el h (fun h => (lin0_0 i h).elim (fun x => x) (fun x => absurd x (Nat.not_le_of_lt hi))) (fun h => (lin1_0 i h).elim (fun x => x) (fun x => absurd x (Nat.not_le_of_lt hi))))
 refine RL.nil (thn_n (CW.seq (CW.region ?_)))
 refine rl_move rfl rfl ?_
 refine rl_fieldAddr rfl fa37_5 rfl ?_
 refine rl_storeS (u := (Value.int .i64 a2)) rfl rfl ⟨rfl, rfl⟩ Try.sizeOf3 k4 rfl ?_
 intro w597 s599 c598 k600
 have ad601 : ∀ b, b < w582.heap.size → ¬ (un (inBlk (PV p16)) (un (inBlk (PV p8)) (un (inBlk (PV p1)) (un (inBlk (PV po0)) (un (inBlk z586) S2))))) b → ¬ (inBlk (PV p1)) b ∧ ¬ (un (inBlk (PV p16)) (un (inBlk (PV p8)) (un (inBlk (PV p1)) (un (inBlk (PV po0)) (un (inBlk z586) S2))))) b := fun b _ hs => ⟨fun h => hs (.inr (.inr (.inl h))), hs⟩
 have k11 := k11.ch c598 ((fun b hb h => d13 b hb h) _ rfl)
 have k28 := k28.ch c598 ((fun b hb h => d22 b hb h) _ rfl)
 have h587 := h587.ch c598 ((fun b hb h => (disSym d6) b hb h) _ rfl)
 have h588 := h588.st c598 (fun b hb h => d594 b hb h) ad601 (fun b h => (.inr (.inr (.inr (.inr (.inl h))))))
 have c0 := c0.then c598 (fun i hi h => absurd (lo5 i h) (Nat.not_le_of_lt hi))
 refine RL.nil (thn_n (CW.seq (CW.region ?_)))
 refine rl_move rfl rfl ?_
 refine rl_nilCheck rfl rfl ?_
 refine rl_fieldAddr rfl fa48_0 rfl ?_
 refine rl_loadS (v := z586) rfl Try.isAgg46 (h587.cell rfl) rfl ?_
 refine rl_lenR rfl (SlO.read (S' := (un (inBlk (PV p16)) (un (inBlk (PV p8)) (un (inBlk (PV p1)) (un (inBlk (PV po0)) S2))))) k_Tie_pos h588 (fun b hs h => hs (un_el h (fun h => (.inl h)) (fun h => un_el h (fun h => (.inr (.inl h))) (fun h => un_el h (fun h => (.inr (.inr (.inl h)))) (fun h => un_el h (fun h => (.inr (.inr (.inr (.inl h))))) (fun h => (.inr (.inr (.inr (.inr (.inr h))))))))))) (fun b hb => fun h => un_el h (fun h => d592 b hb h) (fun h => un_el h (fun h => d593 b hb h) (fun h => un_el h (fun h => d594 b hb h) (fun h => un_el h (fun h => (disSym d590) b hb h) (linNot lin591 hd2 h2 b hb)))))) Try.underlying46 rfl ?_
 refine rl_assign rfl rfl ?_
 refine RL.nil (thn_n (CW.seq ?_))
 obtain ⟨o620, ho621, hS⟩ := bindS hS
 refine CW.cutB (fun E' w' => ∃ (x602 : Int), Sub [(0, (PV po0)), (4, (PV p1)), (6, (PV p8)), (8, (PV p16)), (9, (Value.bool false)), (12, (Value.int .i64 x602))] E' ∧ Ch (un (inBlk (PV po0)) (inBlk az0_0)) w w' ∧ Lp.fin x602 = o620 ∧ Blk w' p8 37 (Tie.enc Tie.z) ∧ Blk w' p16 37 (Tie.enc ({ client := Addr.z, service := Key.z, name := ⟨#[]⟩, localF := false, backend := Point.z, last := 0 } : Tie)) ∧ Blk w' po0 48 (Ties_2.c y584.2 z586) ∧ SlO k_Tie 37 F Bb (un (inBlk (PV p16)) (un (inBlk (PV p8)) (un (inBlk (PV p1)) (un (inBlk (PV po0)) (un (inBlk z586) S2))))) w' y584.2.all z586 ∧ Blk w' p1 37 (Tie.enc ({ client := a1.client, service := a1.service, name := a1.name, localF := a1.localF, backend := a1.backend, last := a2 } : Tie)) ∧ (∀ b, inBlk (PV p16) b → ¬ inBlk (PV p8) b) ∧ (∀ b, inBlk (PV p16) b → ¬ inBlk (PV p1) b) ∧ (∀ b, inBlk (PV p16) b → ¬ inBlk (PV po0) b) ∧ (∀ b, inBlk (PV p16) b → ¬ inBlk z586 b) ∧ (∀ b, inBlk (PV p8) b → ¬ inBlk (PV p1) b) ∧ (∀ b, inBlk (PV p8) b → ¬ inBlk (PV po0) b) ∧ (∀ b, inBlk (PV p8) b → ¬ inBlk z586 b) ∧ (∀ b, inBlk (PV p1) b → ¬ inBlk (PV po0) b) ∧ (∀ b, inBlk (PV p1) b → ¬ inBlk z586 b) ∧ (∀ b, inBlk (PV po0) b → ¬ inBlk z586 b)) ?_ ?_
 ·
  refine CW.loopS [(0, (PV po0)), (4, (PV p1)), (6, (PV p8)), (8, (PV p16)), (9, (Value.bool false)), (12, (Value.int .i64 ((y584.2.all.length : Nat) : Int)))] ⟨rfl, rfl, rfl, rfl, rfl, rfl, trivial⟩ FUEL (fun m E w' => ∃ (x602 : Int), E = [(0, (PV po0)), (4, (PV p1)), (6, (PV p8)), (8, (PV p16)), (9, (Value.bool false)), (12, (Value.int .i64 x602))] ∧ Ch (un (inBlk (PV po0)) (inBlk az0_0)) w w' ∧ runW (F28_Put_b3 a1 a2 y584) m x602 = some o620 ∧ Blk w' p8 37 (Tie.enc Tie.z) ∧ Blk w' p16 37 (Tie.enc ({ client := Addr.z, service := Key.z, name := ⟨#[]⟩, localF := false, backend := Point.z, last := 0 } : Tie)) ∧ Blk w' po0 48 (Ties_2.c y584.2 z586) ∧ SlO k_Tie 37 F Bb (un (inBlk (PV p16)) (un (inBlk (PV p8)) (un (inBlk (PV p1)) (un (inBlk (PV po0)) (un (inBlk z586) S2))))) w' y584.2.all z586 ∧ Blk w' p1 37 (Tie.enc ({ client := a1.client, service := a1.service, name := a1.name, localF := a1.localF, backend := a1.backend, last := a2 } : Tie)) ∧ (∀ b, inBlk (PV p16) b → ¬ inBlk (PV p8) b) ∧ (∀ b, inBlk (PV p16) b → ¬ inBlk (PV p1) b) ∧ (∀ b, inBlk (PV p16) b → ¬ inBlk (PV po0) b) ∧ (∀ b, inBlk (PV p16) b → ¬ inBlk z586 b) ∧ (∀ b, inBlk (PV p8) b → ¬ inBlk (PV p1) b) ∧ (∀ b, inBlk (PV p8) b → ¬ inBlk (PV po0) b) ∧ (∀ b, inBlk (PV p8) b → ¬ inBlk z586 b) ∧ (∀ b, inBlk (PV p1) b → ¬ inBlk (PV po0) b) ∧ (∀ b, inBlk (PV p1) b → ¬ inBlk z586 b) ∧ (∀ b, inBlk (PV po0) b → ¬ inBlk z586 b))
      ⟨((y584.2.all.length : Nat) : Int), rfl, c0, ho621, k11, k28, h587, h588, k600, d21, d22, d23, (disSym d592), d13, d14, (disSym d593), d6, (disSym d594), d590⟩ ?_
  rintro _ _ w626 ⟨x602, rfl, c625, hL615, k11, k28, h587, h588, k600, d603, d604, d605, d606, d607, d608, d609, d610, d611, d612⟩
  obtain ⟨k624, q617, rfl, hq618⟩ := runW_some hL615
  have hb619 := hq618
  refine CW.seq ?_
  refine CW.seq ?_
  obtain ⟨b640, hb641, hb619⟩ := bindS hb619
  refine CW.cutN (fun E' w' => Sub [(0, (PV po0)), (4, (PV p1)), (6, (PV p8)), (8, (PV p16)), (9, (Value.bool false)), (12, (Value.int .i64 x602)), (75, (Value.bool b640))] E' ∧ Ch nb w626 w') ?_ ?_
  ·
   rcases Bool.eq_false_or_eq_true (decide (x602 > 0)) with hg642 | hg642
   ·
    have hs643 := andO_t hg642 hb641
    obtain ⟨y634, hy635, hs643⟩ := bindS hs643
    obtain ⟨y638, hy639, hs643⟩ := bindS hs643
    refine CW.draw 15 [(none, fun fx O uu wx => uu = (Value.int .i64 x602)), (none, fun fx O uu wx => uu = (Value.bool (decide (x602 > 0)))), (none, fun fx O uu wx => uu = (Value.bool (decide (x602 > 0)))), (none, fun fx O uu wx => uu = (Value.agg (Tie.enc ({ client := a1.client, service := a1.service, name := a1.name, localF := a1.localF, backend := a1.backend, last := a2 } : Tie)).toArray)), (none, fun fx O uu wx => uu = (PV po0)), (none, fun fx O uu wx => uu = (PV po0)), (none, fun fx O uu wx => uu = (PV po0)), (none, fun fx O uu wx => uu = z586), (none, fun fx O uu wx => uu = (Value.int .i64 x602)), (none, fun fx O uu wx => uu = (Value.int .i64 (IntKind.i64.wrap (x602 - 1)))), (none, fun fx O uu wx => ∃ (p628 : Nat) (o629 : Nat), uu = (Value.pointer (some ⟨p628, o629, none⟩)) ∧ Seg wx p628 o629 (Tie.enc y634)), (none, fun fx O uu wx => uu = (Value.agg (Tie.enc y634).toArray)), (none, fun fx O uu wx => uu = (Value.int .i64 y638)), (none, fun fx O uu wx => uu = (Value.bool (decide (y638 < 0)))), (none, fun fx O uu wx => uu = (Value.bool b640))] [[], [0], [1], [2], [2], [2, 4], [2, 5], [2, 6], [2], [2, 8], [2, 7, 9], [2, 10], [2, 3, 11], [2, 12], [2, 13]] [14] nb (fun _ h => h.elim) mixed rfl rfl rfl rfl ?_ ?_
    ·
     refine Each.consS (fun fl O wk hE hN hO ck => ?_) ?_
     ·
      refine rl_move rfl rfl ?_
      exact RL.nil ⟨_, rfl, Ch.refl, rfl⟩
     refine Each.consS (fun fl O wk hE hN hO ck => ?_) ?_
     ·
      refine Need.o1 rfl rfl rfl (fun _ h => h) ?_
      refine rl_bin rfl rfl B.gtr rfl ?_
      exact RL.nil ⟨_, rfl, Ch.refl, rfl⟩
     refine Each.consS (fun fl O wk hE hN hO ck => ?_) ?_
     ·
      refine Need.o1 rfl rfl rfl (fun _ h => h) ?_
      refine rl_move rfl rfl ?_
      exact RL.nil ⟨_, rfl, Ch.refl, rfl⟩
     refine Each.consS (fun fl O wk hE hN hO ck => ?_) ?_
     ·
      have k600 := k600.ch0 ck
      refine Need.o1 rfl rfl rfl (fun _ h => h) ?_
      refine RL.yes rfl rfl rfl hg642 ?_
      refine rl_loadA (cs := (Tie.enc ({ client := a1.client, service := a1.service, name := a1.name, localF := a1.localF, backend := a1.backend, last := a2 } : Tie))) rfl Try.isAgg37 Try.sizeOf37 (k600.segAt 0 40) rfl rfl ?_
      exact RL.nil ⟨_, rfl, Ch.refl, rfl⟩
     refine Each.consS (fun fl O wk hE hN hO ck => ?_) ?_
     ·
      refine Need.o1 rfl rfl rfl (fun _ h => h) ?_
      refine RL.yes rfl rfl rfl hg642 ?_
      refine rl_move rfl rfl ?_
      exact RL.nil ⟨_, rfl, Ch.refl, rfl⟩
     refine Each.consS (fun fl O wk hE hN hO ck => ?_) ?_
     ·
      refine Need.o1 rfl rfl rfl (fun _ h => h) ?_
      refine Need.o1 rfl rfl rfl (fun _ h => h) ?_
      refine RL.yes rfl rfl rfl hg642 ?_
      refine rl_nilCheck rfl rfl ?_
      exact RL.nil ⟨_, rfl, Ch.refl, rfl⟩
     refine Each.consS (fun fl O wk hE hN hO ck => ?_) ?_
     ·
      refine Need.o1 rfl rfl rfl (fun _ h => h) ?_
      refine Need.o1 rfl rfl rfl (fun _ h => h) ?_
      refine RL.yes rfl rfl rfl hg642 ?_
      refine rl_fieldAddr rfl fa48_0 rfl ?_
      exact RL.nil ⟨_, rfl, Ch.refl, rfl⟩
     refine Each.consS (fun fl O wk hE hN hO ck => ?_) ?_
     ·
      have h587 := h587.ch0 ck
      refine Need.o1 rfl rfl rfl (fun _ h => h) ?_
      refine Need.o1 rfl rfl rfl (fun _ h => h) ?_
      refine RL.yes rfl rfl rfl hg642 ?_
      refine rl_loadS (v := z586) rfl Try.isAgg46 (h587.cell rfl) rfl ?_
      exact RL.nil ⟨_, rfl, Ch.refl, rfl⟩
     refine Each.consS (fun fl O wk hE hN hO ck => ?_) ?_
     ·
      refine Need.o1 rfl rfl rfl (fun _ h => h) ?_
      refine RL.yes rfl rfl rfl hg642 ?_
      refine rl_move rfl rfl ?_
      exact RL.nil ⟨_, rfl, Ch.refl, rfl⟩
     refine Each.consS (fun fl O wk hE hN hO ck => ?_) ?_
     ·
      refine Need.o1 rfl rfl rfl (fun _ h => h) ?_
      refine Need.o1 rfl rfl rfl (fun _ h => h) ?_
      refine RL.yes rfl rfl rfl hg642 ?_
      refine rl_bin rfl rfl B.sub rfl ?_
      exact RL.nil ⟨_, rfl, Ch.refl, rfl⟩
     refine Each.consA ⟨fun _ _ _ _ _ cc hh => by obtain ⟨p628, o629, e, hs632⟩ := hh; exact ⟨p628, o629, e, hs632.ch0 cc⟩, fun h => absurd rfl h, fun fl O wk hE hN hO ck => ?_⟩ ?_
     ·
      have h588 := h588.ch0 ck
      refine Need.o1 rfl rfl rfl (fun _ h => h) ?_
      refine Need.o1 rfl rfl rfl (fun _ h => h) ?_
      refine Need.o1 rfl rfl rfl (fun _ h => h) ?_
      refine RL.yes rfl rfl rfl hg642 ?_
      refine rl_ixOR rfl h588 rfl (ixO_get hy635) k_Tie_pos Try.underlying46 Try.sizeOf37 rfl ?_
      intro p660 o661 cs662 hr663 hs664 hg665
      obtain rfl := hr663
      exact RL.nil ⟨_, rfl, Ch.refl, ⟨p660, o661, rfl, hs664⟩⟩
     refine Each.consS (fun fl O wk hE hN hO ck => ?_) ?_
     ·
      refine Need.o1 rfl rfl rfl (fun _ h => h) ?_
      refine Need.one rfl rfl rfl ?_
      rintro _ ⟨p628, o629, e667, hs632⟩
      obtain rfl := e667.symm
      refine RL.yes rfl rfl rfl hg642 ?_
      refine rl_loadA (cs := (Tie.enc y634)) rfl Try.isAgg37 Try.sizeOf37 (hs632) rfl rfl ?_
      exact RL.nil ⟨_, rfl, Ch.refl, rfl⟩
     refine Each.consS (fun fl O wk hE hN hO ck => ?_) ?_
     ·
      refine Need.o1 rfl rfl rfl (fun _ h => h) ?_
      refine Need.o1 rfl rfl rfl (fun _ h => h) ?_
      refine Need.o1 rfl rfl rfl (fun _ h => h) ?_
      refine RL.yes rfl rfl rfl hg642 ?_
      refine rl_callF rfl en10 rfl (ctr10 (G F Bb (un (inBlk (PV p16)) (un (inBlk (PV p8)) (un (inBlk (PV p1)) (un (inBlk (PV po0)) (un (inBlk z586) S2)))))) wk ({ client := a1.client, service := a1.service, name := a1.name, localF := a1.localF, backend := a1.backend, last := a2 } : Tie) y634 y638 hy639) ?_
      rintro _ w671 ⟨rfl, c672⟩
      exact RL.nil ⟨_, rfl, c672, rfl⟩
     refine Each.consS (fun fl O wk hE hN hO ck => ?_) ?_
     ·
      refine Need.o1 rfl rfl rfl (fun _ h => h) ?_
      refine Need.o1 rfl rfl rfl (fun _ h => h) ?_
      refine RL.yes rfl rfl rfl hg642 ?_
      refine rl_bin rfl rfl B.lss rfl ?_
      exact RL.nil ⟨_, rfl, Ch.refl, rfl⟩
     refine Each.consS (fun fl O wk hE hN hO ck => ?_) ?_
     ·
      refine Need.o1 rfl rfl rfl (fun _ h => h) ?_
      refine Need.o1 rfl rfl rfl (fun _ h => h) ?_
      refine rl_pickT rfl hg642 rfl rfl ?_
      exact RL.nil ⟨_, rfl, Ch.refl, congrArg Value.bool (Option.some.inj hs643)⟩
     trivial
    intro hvO679 OpO679 O679 w677 hO680 c678 hN681
    refine Need.o1 rfl rfl rfl (fun _ h => h) ?_
    exact RL.nil ⟨rfl, ⟨rfl, rfl, rfl, rfl, rfl, rfl, rfl, trivial⟩, c678⟩
   have hs683 := andO_f hg642 hb641
   refine CW.draw 15 [(none, fun fx O uu wx => uu = (Value.int .i64 x602)), (none, fun fx O uu wx => uu = (Value.bool (decide (x602 > 0)))), (none, fun fx O uu wx => uu = (Value.bool (decide (x602 > 0)))), (none, fun _ O uu wx => uu = undef), (none, fun _ O uu wx => uu = undef), (none, fun _ O uu wx => uu = undef), (none, fun _ O uu wx => uu = undef), (none, fun _ O uu wx => uu = undef), (none, fun _ O uu wx => uu = undef), (none, fun _ O uu wx => uu = undef), (none, fun _ O uu wx => uu = undef), (none, fun _ O uu wx => uu = undef), (none, fun _ O uu wx => uu = undef), (none, fun _ O uu wx => uu = undef), (none, fun fx O uu wx => uu = (Value.bool b640))] [[], [0], [1], [2], [2], [2], [2], [2], [2], [2], [2], [2], [2], [2], [2]] [14] nb (fun _ h => h.elim) mixed rfl rfl rfl rfl ?_ ?_
   ·
    refine Each.consS (fun fl O wk hE hN hO ck => ?_) ?_
    ·
     refine rl_move rfl rfl ?_
     exact RL.nil ⟨_, rfl, Ch.refl, rfl⟩
    refine Each.consS (fun fl O wk hE hN hO ck => ?_) ?_
    ·
     refine Need.o1 rfl rfl rfl (fun _ h => h) ?_
     refine rl_bin rfl rfl B.gtr rfl ?_
     exact RL.nil ⟨_, rfl, Ch.refl, rfl⟩
    refine Each.consS (fun fl O wk hE hN hO ck => ?_) ?_
    ·
     refine Need.o1 rfl rfl rfl (fun _ h => h) ?_
     refine rl_move rfl rfl ?_
     exact RL.nil ⟨_, rfl, Ch.refl, rfl⟩
    refine Each.consS (fun fl O wk hE hN hO ck => ?_) ?_
    ·
     refine Need.o1 rfl rfl rfl (fun _ h => h) ?_
     refine RL.no rfl rfl rfl hg642 rfl rfl ?_
     exact RL.nil ⟨_, rfl, Ch.refl, rfl⟩
    refine Each.consS (fun fl O wk hE hN hO ck => ?_) ?_
    ·
     refine Need.o1 rfl rfl rfl (fun _ h => h) ?_
     refine RL.no rfl rfl rfl hg642 rfl rfl ?_
     exact RL.nil ⟨_, rfl, Ch.refl, rfl⟩
    refine Each.consS (fun fl O wk hE hN hO ck => ?_) ?_
    ·
     refine Need.o1 rfl rfl rfl (fun _ h => h) ?_
     refine RL.no rfl rfl rfl hg642 rfl rfl ?_
     exact RL.nil ⟨_, rfl, Ch.refl, rfl⟩
    refine Each.consS (fun fl O wk hE hN hO ck => ?_) ?_
    ·
     refine Need.o1 rfl rfl rfl (fun _ h => h) ?_
     refine RL.no rfl rfl rfl hg642 rfl rfl ?_
     exact RL.nil ⟨_, rfl, Ch.refl, rfl⟩
    refine Each.consS (fun fl O wk hE hN hO ck => ?_) ?_
    ·
     refine Need.o1 rfl rfl rfl (fun _ h => h) ?_
     refine RL.no rfl rfl rfl hg642 rfl rfl ?_
     exact RL.nil ⟨_, rfl, Ch.refl, rfl⟩
    refine Each.consS (fun fl O wk hE hN hO ck => ?_) ?_
    ·
     refine Need.o1 rfl rfl rfl (fun _ h => h) ?_
     refine RL.no rfl rfl rfl hg642 rfl rfl ?_
     exact RL.nil ⟨_, rfl, Ch.refl, rfl⟩
    refine Each.consS (fun fl O wk hE hN hO ck => ?_) ?_
    ·
     refine Need.o1 rfl rfl rfl (fun _ h => h) ?_
     refine RL.no rfl rfl rfl hg642 rfl rfl ?_
     exact RL.nil ⟨_, rfl, Ch.refl, rfl⟩
    refine Each.consS (fun fl O wk hE hN hO ck => ?_) ?_
    ·
     refine Need.o1 rfl rfl rfl (fun _ h => h) ?_
     refine RL.no rfl rfl rfl hg642 rfl rfl ?_
     exact RL.nil ⟨_, rfl, Ch.refl, rfl⟩
    refine Each.consS (fun fl O wk hE hN hO ck => ?_) ?_
    ·
     refine Need.o1 rfl rfl rfl (fun _ h => h) ?_
     refine RL.no rfl rfl rfl hg642 rfl rfl ?_
     exact RL.nil ⟨_, rfl, Ch.refl, rfl⟩
    refine Each.consS (fun fl O wk hE hN hO ck => ?_) ?_
    ·
     refine Need.o1 rfl rfl rfl (fun _ h => h) ?_
     refine RL.no rfl rfl rfl hg642 rfl rfl ?_
     exact RL.nil ⟨_, rfl, Ch.refl, rfl⟩
    refine Each.consS (fun fl O wk hE hN hO ck => ?_) ?_
    ·
     refine Need.o1 rfl rfl rfl (fun _ h => h) ?_
     refine RL.no rfl rfl rfl hg642 rfl rfl ?_
     exact RL.nil ⟨_, rfl, Ch.refl, rfl⟩
    refine Each.consS (fun fl O wk hE hN hO ck => ?_) ?_
    ·
     refine Need.o1 rfl rfl rfl (fun _ h => h) ?_
     refine rl_pickF rfl hg642 rfl rfl ?_
     exact RL.nil ⟨_, rfl, Ch.refl, congrArg Value.bool (Option.some.inj hs683)⟩
    trivial
   intro hvO700 OpO700 O700 w698 hO701 c699 hN702
   refine Need.o1 rfl rfl rfl (fun _ h => h) ?_
   exact RL.nil ⟨rfl, ⟨rfl, rfl, rfl, rfl, rfl, rfl, rfl, trivial⟩, c699⟩
  rintro _ w705 ⟨hE704, c706⟩
  have k11 := k11.ch0 c706
  have k28 := k28.ch0 c706
  have h587 := h587.ch0 c706
  have h588 := h588.ch0 c706
  have k600 := k600.ch0 c706
  have c625 := c625.then0 c706
  refine thn_n (CW.sub [(0, (PV po0)), (4, (PV p1)), (6, (PV p8)), (8, (PV p16)), (9, (Value.bool false)), (12, (Value.int .i64 x602)), (75, (Value.bool b640))] hE704 ?_)
  refine CW.cond (t := b640) rfl (fun q707 => ?_) (fun q707 => ?_)
  ·
   have hb619 := ifT q707 hb619
   refine CW.skip ?_
   refine thn_n (CW.block ?_)
   refine CW.region ?_
   refine rl_move rfl rfl ?_
   refine rl_bin rfl rfl B.sub rfl ?_
   refine rl_assign rfl rfl ?_
   refine RL.nil ?_
   refine inB_n ?_
   refine thn_n ?_
   have hLn := runW_next hL615 hq618 hb619
   exact ⟨k624, Nat.lt_succ_self _, [(0, (PV po0)), (4, (PV p1)), (6, (PV p8)), (8, (PV p16)), (9, (Value.bool false)), (12, (Value.int .i64 (IntKind.i64.wrap (x602 - 1))))], ⟨rfl, rfl, rfl, rfl, rfl, rfl, trivial⟩, ⟨IntKind.i64.wrap (x602 - 1), rfl, c625, hLn, k11, k28, h587, h588, k600, d603, d604, d605, d606, d607, d608, d609, d610, d611, d612⟩⟩
  have hb619 := ifF q707 hb619
  refine CW.exit ?_
  refine thn_exit ?_
  refine thn_exit ?_
  refine inB_hit ?_
  have hLf := runW_fin hL615 hq618 hb619
  exact ⟨x602, ⟨rfl, rfl, rfl, rfl, rfl, rfl, trivial⟩, c625, hLf, k11, k28, h587, h588, k600, d603, d604, d605, d606, d607, d608, d609, d610, d611, d612⟩
 rintro _ w709 ⟨x602, hE710, c708, f711, k11, k28, h587, h588, k600, d603, d604, d605, d606, d607, d608, d609, d610, d611, d612⟩
 have hS := finS f711 hS
 refine thn_n (CW.sub [(0, (PV po0)), (4, (PV p1)), (6, (PV p8)), (8, (PV p16)), (9, (Value.bool false)), (12, (Value.int .i64 x602))] hE710 ?_)
 refine CW.seq ?_
 have h588 := SlO.read (S' := (un (inBlk (PV p16)) (un (inBlk (PV p8)) (un (inBlk (PV p1)) (un (inBlk (PV po0)) S2))))) k_Tie_pos h588 (fun b hs h => hs (un_el h (fun h => (.inl h)) (fun h => un_el h (fun h => (.inr (.inl h))) (fun h => un_el h (fun h => (.inr (.inr (.inl h)))) (fun h => un_el h (fun h => (.inr (.inr (.inr (.inl h))))) (fun h => (.inr (.inr (.inr (.inr (.inr h))))))))))) (fun b hb => fun h => un_el h (fun h => d592 b hb h) (fun h => un_el h (fun h => d593 b hb h) (fun h => un_el h (fun h => d594 b hb h) (fun h => un_el h (fun h => (disSym d612) b hb h) (linNot lin591 hd2 h2 b hb)))))
 have crf : Ch nb w709 w709 := Ch.refl
 have k11 := k11.ch0 crf
 have k28 := k28.ch0 crf
 have h587 := h587.ch0 crf
 have k600 := k600.ch0 crf
 have c708 := c708.then0 crf
 obtain ⟨y739, hy740, hS⟩ := bindS hS
 obtain ⟨z751, hz752, hS⟩ := bindS hS
 obtain ⟨z771, hz772, hS⟩ := bindS hS
 obtain ⟨y778, hy779, hS⟩ := bindS hS
 obtain ⟨z790, hz791, hS⟩ := bindS hS
 refine CW.draw 19 [(none, fun fx O uu wx => uu = (PV po0)), (some false, fun _ O uu wx => ∃ (v729 : Value), uu = v729 ∧ O = (inBlk v729) ∧ SlO k_Tie 37 F Bb (un (inBlk v729) (un (inBlk (PV p16)) (un (inBlk (PV p8)) (un (inBlk (PV p1)) (un (inBlk (PV po0)) S2))))) wx [] v729), (none, fun fx O uu wx => uu = (PV po0)), (none, fun fx O uu wx => uu = (PV po0)), (none, fun fx O uu wx => uu = (PV po0)), (none, fun fx O uu wx => uu = z586), (none, fun fx O uu wx => uu = (Value.int .i64 x602)), (none, fun fx O uu wx => ∃ (v741 : Value), uu = v741 ∧ slRep k_Tie (G F Bb (un O (un (inBlk (PV p16)) (un (inBlk (PV p8)) (un (inBlk (PV p1)) (un (inBlk (PV po0)) S2)))))) wx y739 v741), (some true, fun hv O uu wx => ∃ (v745 : Value) (v729 : Value), hv = [v729, v745] ∧ uu = v745 ∧ O = (inBlk v745) ∧ SlO k_Tie 37 F Bb (un (inBlk v745) (un (inBlk (PV p16)) (un (inBlk (PV p8)) (un (inBlk (PV p1)) (un (inBlk (PV po0)) S2))))) wx ([] ++ y739) v745), (none, fun fx O uu wx => uu = (Value.agg (Tie.enc ({ client := a1.client, service := a1.service, name := a1.name, localF := a1.localF, backend := a1.backend, last := a2 } : Tie)).toArray)), (none, fun fx O uu wx => ∃ (v758 : Value), uu = v758 ∧ slRep k_Tie (G F Bb (un O (un (inBlk (PV p16)) (un (inBlk (PV p8)) (un (inBlk (PV p1)) (un (inBlk (PV po0)) S2)))))) wx [({ client := a1.client, service := a1.service, name := a1.name, localF := a1.localF, backend := a1.backend, last := a2 } : Tie)] v758), (some true, fun hv O uu wx => ∃ (v765 : Value) (v729 : Value) (v745 : Value), hv = [v729, v745, v765] ∧ uu = v765 ∧ O = (inBlk v765) ∧ SlO k_Tie 37 F Bb (un (inBlk v765) (un (inBlk (PV p16)) (un (inBlk (PV p8)) (un (inBlk (PV p1)) (un (inBlk (PV po0)) S2))))) wx (([] ++ y739) ++ [({ client := a1.client, service := a1.service, name := a1.name, localF := a1.localF, backend := a1.backend, last := a2 } : Tie)]) v765), (none, fun fx O uu wx => uu = (PV po0)), (none, fun fx O uu wx => uu = (PV po0)), (none, fun fx O uu wx => uu = (PV po0)), (none, fun fx O uu wx => uu = z586), (none, fun fx O uu wx => uu = (Value.int .i64 x602)), (none, fun fx O uu wx => ∃ (v780 : Value), uu = v780 ∧ slRep k_Tie (G F Bb (un O (un (inBlk (PV p16)) (un (inBlk (PV p8)) (un (inBlk (PV p1)) (un (inBlk (PV po0)) S2)))))) wx y778 v780), (some true, fun hv O uu wx => ∃ (v784 : Value) (v729 : Value) (v745 : Value) (v765 : Value), hv = [v729, v745, v765, v784] ∧ uu = v784 ∧ O = (inBlk v784) ∧ SlO k_Tie 37 F Bb (un (inBlk v784) (un (inBlk (PV p16)) (un (inBlk (PV p8)) (un (inBlk (PV p1)) (un (inBlk (PV po0)) S2))))) wx ((([] ++ y739) ++ [({ client := a1.client, service := a1.service, name := a1.name, localF := a1.localF, backend := a1.backend, last := a2 } : Tie)]) ++ y778) v784)] [[], [], [], [2], [3], [4], [], [5, 6], [1, 7], [], [9], [8, 10], [], [12], [13], [14], [], [15, 16], [11, 17]] [18, 0] nb (fun _ h => h.elim) mixed rfl rfl rfl rfl ?_ ?_
 ·
  refine Each.consS (fun fl O wk hE hN hO ck => ?_) ?_
  ·
   refine rl_move rfl rfl ?_
   exact RL.nil ⟨_, rfl, Ch.refl, rfl⟩
  refine Each.consP ⟨fun _ O _ wx wy cc hh => by obtain ⟨v729, e, rfl, ck1_0⟩ := hh; exact ⟨v729, e, rfl, ck1_0.ch0 cc⟩, fun O wk hO ck => ?_⟩ ?_
  ·
   have k11 := k11.ch0 ck
   have k28 := k28.ch0 ck
   have h587 := h587.ch0 ck
   have k600 := k600.ch0 ck
   have c708 := c708.then0 ck
   refine rl_bslice (k := k_Tie) (F := F) (B := Bb) (S := (un O (un (inBlk (PV p16)) (un (inBlk (PV p8)) (un (inBlk (PV p1)) (un (inBlk (PV po0)) S2)))))) ([] : List Tie) rfl k_Tie_pos Try.underlying46 Try.sizeOf37 Try.zeroValue37 rfl rfl trivial (Nat.le_trans hB c708.size) (un_lt (fun b h => (hO b h).2) (un_lt k28.ltp (un_lt k11.ltp (un_lt k600.ltp (un_lt h587.ltp (fun b h => Nat.lt_of_lt_of_le (h2 b h) c708.size)))))) rfl ?_
   intro v812 w813 c814 hf815 h816
   have hb823 : ∀ b, (inBlk v812) b → wk.heap.size ≤ b ∧ b < w813.heap.size := fun b h => ⟨hf815 b h, (fun b hb => (h816.lt b hb).2) b h⟩
   have h824 := SlO.reS (S' := (un (inBlk v812) (un (inBlk (PV p16)) (un (inBlk (PV p8)) (un (inBlk (PV p1)) (un (inBlk (PV po0)) S2)))))) (fun h => h) h816 (fun b h => .inl h)
   exact RL.nil ⟨_, (inBlk v812), rfl, hb823, c814, ⟨v812, rfl, rfl, h824⟩⟩
  refine Each.consS (fun fl O wk hE hN hO ck => ?_) ?_
  ·
   refine rl_move rfl rfl ?_
   exact RL.nil ⟨_, rfl, Ch.refl, rfl⟩
  refine Each.consS (fun fl O wk hE hN hO ck => ?_) ?_
  ·
   refine Need.o1 rfl rfl rfl (fun _ h => h) ?_
   refine rl_nilCheck rfl rfl ?_
   exact RL.nil ⟨_, rfl, Ch.refl, rfl⟩
  refine Each.consS (fun fl O wk hE hN hO ck => ?_) ?_
  ·
   refine Need.o1 rfl rfl rfl (fun _ h => h) ?_
   refine rl_fieldAddr rfl fa48_0 rfl ?_
   exact RL.nil ⟨_, rfl, Ch.refl, rfl⟩
  refine Each.consS (fun fl O wk hE hN hO ck => ?_) ?_
  ·
   have h587 := h587.ch0 ck
   refine Need.o1 rfl rfl rfl (fun _ h => h) ?_
   refine rl_loadS (v := z586) rfl Try.isAgg46 (h587.cell rfl) rfl ?_
   exact RL.nil ⟨_, rfl, Ch.refl, rfl⟩
  refine Each.consS (fun fl O wk hE hN hO ck => ?_) ?_
  ·
   refine rl_move rfl rfl ?_
   exact RL.nil ⟨_, rfl, Ch.refl, rfl⟩
  refine Each.consA ⟨fun _ _ _ _ _ cc hh => by obtain ⟨v741, e, h742⟩ := hh; exact ⟨v741, e, slRep.ch k_Tie_pos h742 cc⟩, fun _ _ h' O O' D _ wx wy hfl hD hO' cc hh => by obtain ⟨v741, e, h742⟩ := hh; have ad := admGh (S := (un (inBlk (PV p16)) (un (inBlk (PV p8)) (un (inBlk (PV p1)) (un (inBlk (PV po0)) S2))))) hD hO'; exact ⟨v741, e, slRep.st k_Tie_pos h742 cc ad⟩, fun fl O wk hE hN hO ck => ?_⟩ ?_
  ·
   have ha857 : ∀ b, b < w709.heap.size → ¬ (un (inBlk (PV p16)) (un (inBlk (PV p8)) (un (inBlk (PV p1)) (un (inBlk (PV po0)) S2)))) b → ¬ nb b ∧ ¬ (un O (un (inBlk (PV p16)) (un (inBlk (PV p8)) (un (inBlk (PV p1)) (un (inBlk (PV po0)) S2))))) b := fun b hb hs => ⟨fun h => h.elim, fun h => un_el h (fun ho => (hO b ho).1.elim (fun h => h.elim) (fun h => Nat.not_le_of_lt hb h)) (fun h => un_el h (fun h => hs (.inl h)) (fun h => un_el h (fun h => hs (.inr (.inl h))) (fun h => un_el h (fun h => hs (.inr (.inr (.inl h)))) (fun h => un_el h (fun h => hs (.inr (.inr (.inr (.inl h))))) (fun h => hs (.inr (.inr (.inr (.inr h)))))))))⟩
   have h588 := slRep.st k_Tie_pos h588 ck ha857
   refine Need.o1 rfl rfl rfl (fun _ h => h) ?_
   refine Need.o1 rfl rfl rfl (fun _ h => h) ?_
   refine rl_cutR (kl := .i64) (kh := .i64) none (some x602) rfl h588 k_Tie_pos trivial rfl hy740 Try.underlying46 Try.sizeOf37 rfl ?_
   intro v860 h861
   exact RL.nil ⟨_, rfl, Ch.refl, ⟨v860, rfl, h861⟩⟩
  refine Each.consO ⟨fun _ O _ wx wy cc hh => by obtain ⟨v745, v729, eh, e, rfl, ck8_0⟩ := hh; exact ⟨v745, v729, eh, e, rfl, ck8_0.ch0 cc⟩, fun hv Op O wk hO ck hO0 => ?_⟩ ?_
  ·
   obtain ⟨hl, hBg⟩ := hO0 rfl
   refine Need.made rfl rfl rfl rfl ?_
   rintro _ ⟨v729, e862, eO863, ck1_0⟩ hh864
   obtain rfl := e862.symm
   have io865 : ∀ b, inBlk v729 b → _ := fun b h => (Eq.mpr (congrFun eO863 b) h)
   obtain rfl := hist_eq [v729] hv hl ⟨hh864, trivial⟩
   have k11 := k11.ch0 hBg.2.1
   have k28 := k28.ch0 hBg.2.1
   have h587 := h587.ch0 hBg.2.1
   have k600 := k600.ch0 hBg.2.1
   have c708 := c708.then0 hBg.2.1
   have ck1_0 := SlO.reS (S' := (un (inBlk v729) (un (inBlk (PV p16)) (un (inBlk (PV p8)) (un (inBlk (PV p1)) (un (inBlk (PV po0)) S2)))))) (fun h => h) ck1_0 (fun b h => (.inl h))
   refine Need.one rfl rfl rfl ?_
   rintro _ ⟨v741, e873, h742⟩
   obtain rfl := e873.symm
   have h742 := slRep.wk (F' := (G F Bb (un (inBlk v729) (un (inBlk (PV p16)) (un (inBlk (PV p8)) (un (inBlk (PV p1)) (un (inBlk (PV po0)) S2))))))) k_Tie_pos h742 (fun b _ hf => ⟨hf.1, fun h => hf.2 (un_el h (fun h => (.inl ((hBg.1 b).2 (.inr ⟨_, inPre rfl, io865 b h⟩)))) (fun h => un_el h (fun h => (.inr (.inl h))) (fun h => un_el h (fun h => (.inr (.inr (.inl h)))) (fun h => un_el h (fun h => (.inr (.inr (.inr (.inl h))))) (fun h => un_el h (fun h => (.inr (.inr (.inr (.inr (.inl h)))))) (fun h => (.inr (.inr (.inr (.inr (.inr h)))))))))))⟩)
   have hl := (apO_get hz752).1
   refine rl_append (k := k_Tie) (T := 37) (F := F) (B := Bb) (S := (un (inBlk v729) (un (inBlk (PV p16)) (un (inBlk (PV p8)) (un (inBlk (PV p1)) (un (inBlk (PV po0)) S2)))))) (S2 := (un (inBlk (PV p16)) (un (inBlk (PV p8)) (un (inBlk (PV p1)) (un (inBlk (PV po0)) S2))))) (fun v => (un (inBlk v) (un (inBlk (PV p16)) (un (inBlk (PV p8)) (un (inBlk (PV p1)) (un (inBlk (PV po0)) S2)))))) rfl rfl k_Tie_pos ap46 ck1_0 h742 (fun _ => Iff.rfl) (fun _ _ => Iff.rfl) hl (Nat.le_trans hB c708.size) (un_lt (fun b hb => (ck1_0.lt b hb).2) (un_lt k28.ltp (un_lt k11.ltp (un_lt k600.ltp (un_lt h587.ltp (fun b h => Nat.lt_of_lt_of_le (h2 b h) c708.size)))))) rfl ?_
   intro v876 w877 h878 c879 hf880 ha881
   have hb887 : ∀ b, (inBlk v876) b → (O b ∨ wk.heap.size ≤ b) ∧ b < w877.heap.size := fun b h => ⟨(hf880 b h).elim (fun h => .inl (((hBg.1 b).2 (.inr ⟨_, inPre rfl, io865 b h⟩)))) (fun h => .inr (Nat.le_trans (Nat.le_refl _) h)), (fun b hb => (h878.lt b hb).2) b h⟩
   exact RL.nil ⟨_, (inBlk v876), rfl, hb887, (c879.mono (fun b _ h => ((hBg.1 b).2 (.inr ⟨_, inPre rfl, io865 b h⟩)))), ⟨v876, v729, rfl, rfl, rfl, h878⟩⟩
  refine Each.consS (fun fl O wk hE hN hO ck => ?_) ?_
  ·
   have k600 := k600.ch0 ck
   refine rl_loadA (cs := (Tie.enc ({ client := a1.client, service := a1.service, name := a1.name, localF := a1.localF, backend := a1.backend, last := a2 } : Tie))) rfl Try.isAgg37 Try.sizeOf37 (k600.segAt 0 40) rfl rfl ?_
   exact RL.nil ⟨_, rfl, Ch.refl, rfl⟩
  refine Each.consA ⟨fun _ _ _ _ _ cc hh => by obtain ⟨v758, e, h762⟩ := hh; exact ⟨v758, e, slRep.ch k_Tie_pos h762 cc⟩, fun _ _ h' O O' D _ wx wy hfl hD hO' cc hh => by obtain ⟨v758, e, h762⟩ := hh; have ad := admGh (S := (un (inBlk (PV p16)) (un (inBlk (PV p8)) (un (inBlk (PV p1)) (un (inBlk (PV po0)) S2))))) hD hO'; exact ⟨v758, e, slRep.st k_Tie_pos h762 cc ad⟩, fun fl O wk hE hN hO ck => ?_⟩ ?_
  ·
   have k11 := k11.ch0 ck
   have k28 := k28.ch0 ck
   have h587 := h587.ch0 ck
   have k600 := k600.ch0 ck
   have c708 := c708.then0 ck
   refine Need.o1 rfl rfl rfl (fun _ h => h) ?_
   refine rl_bslice (k := k_Tie) (F := F) (B := Bb) (S := (un O (un (inBlk (PV p16)) (un (inBlk (PV p8)) (un (inBlk (PV p1)) (un (inBlk (PV po0)) S2)))))) ([({ client := a1.client, service := a1.service, name := a1.name, localF := a1.localF, backend := a1.backend, last := a2 } : Tie)] : List Tie) rfl k_Tie_pos Try.underlying46 Try.sizeOf37 Try.zeroValue37 rfl rfl ⟨rfl, rfl, trivial⟩ (Nat.le_trans hB c708.size) (un_lt (fun b h => (hO b h).2) (un_lt k28.ltp (un_lt k11.ltp (un_lt k600.ltp (un_lt h587.ltp (fun b h => Nat.lt_of_lt_of_le (h2 b h) c708.size)))))) rfl ?_
   intro v899 w900 c901 hf902 h903
   have h903 := h903.readNew k_Tie_pos hf902 (un_lt (fun b h => (hO b h).2) (un_lt k28.ltp (un_lt k11.ltp (un_lt k600.ltp (un_lt h587.ltp (fun b h => Nat.lt_of_lt_of_le (h2 b h) c708.size))))))
   exact RL.nil ⟨_, rfl, c901, ⟨v899, rfl, h903⟩⟩
  refine Each.consO ⟨fun _ O _ wx wy cc hh => by obtain ⟨v765, v729, v745, eh, e, rfl, ck11_0⟩ := hh; exact ⟨v765, v729, v745, eh, e, rfl, ck11_0.ch0 cc⟩, fun hv Op O wk hO ck hO0 => ?_⟩ ?_
  ·
   refine Need.here rfl rfl rfl rfl ?_
   rintro _ ⟨v745, v729, rfl, e908, rfl, ck8_0⟩
   obtain rfl := e908.symm
   have k11 := k11.ch0 ck
   have k28 := k28.ch0 ck
   have h587 := h587.ch0 ck
   have k600 := k600.ch0 ck
   have c708 := c708.then0 ck
   refine Need.one rfl rfl rfl ?_
   rintro _ ⟨v758, e915, h762⟩
   obtain rfl := e915.symm
   have h762 := slRep.wk (F' := (G F Bb (un (inBlk v745) (un (inBlk (PV p16)) (un (inBlk (PV p8)) (un (inBlk (PV p1)) (un (inBlk (PV po0)) S2))))))) k_Tie_pos h762 (fun b _ hf => ⟨hf.1, fun h => hf.2 (un_el h (fun h => (.inl h)) (fun h => un_el h (fun h => (.inr (.inl h))) (fun h => un_el h (fun h => (.inr (.inr (.inl h)))) (fun h => un_el h (fun h => (.inr (.inr (.inr (.inl h))))) (fun h => un_el h (fun h => (.inr (.inr (.inr (.inr (.inl h)))))) (fun h => (.inr (.inr (.inr (.inr (.inr h)))))))))))⟩)
   have hl := (apO_get hz772).1
   refine rl_append (k := k_Tie) (T := 37) (F := F) (B := Bb) (S := (un (inBlk v745) (un (inBlk (PV p16)) (un (inBlk (PV p8)) (un (inBlk (PV p1)) (un (inBlk (PV po0)) S2)))))) (S2 := (un (inBlk (PV p16)) (un (inBlk (PV p8)) (un (inBlk (PV p1)) (un (inBlk (PV po0)) S2))))) (fun v => (un (inBlk v) (un (inBlk (PV p16)) (un (inBlk (PV p8)) (un (inBlk (PV p1)) (un (inBlk (PV po0)) S2)))))) rfl rfl k_Tie_pos ap46 ck8_0 h762 (fun _ => Iff.rfl) (fun _ _ => Iff.rfl) hl (Nat.le_trans hB c708.size) (un_lt (fun b hb => (ck8_0.lt b hb).2) (un_lt k28.ltp (un_lt k11.ltp (un_lt k600.ltp (un_lt h587.ltp (fun b h => Nat.lt_of_lt_of_le (h2 b h) c708.size)))))) rfl ?_
   intro v918 w919 h920 c921 hf922 ha923
   have hb929 : ∀ b, (inBlk v918) b → ((inBlk v745) b ∨ wk.heap.size ≤ b) ∧ b < w919.heap.size := fun b h => ⟨(hf922 b h).elim (fun h => .inl (h)) (fun h => .inr (Nat.le_trans (Nat.le_refl _) h)), (fun b hb => (h920.lt b hb).2) b h⟩
   exact RL.nil ⟨_, (inBlk v918), rfl, hb929, (c921.mono (fun b _ h => h)), ⟨v918, v729, v745, rfl, rfl, rfl, h920⟩⟩
  refine Each.consS (fun fl O wk hE hN hO ck => ?_) ?_
  ·
   refine rl_move rfl rfl ?_
   exact RL.nil ⟨_, rfl, Ch.refl, rfl⟩
  refine Each.consS (fun fl O wk hE hN hO ck => ?_) ?_
  ·
   refine Need.o1 rfl rfl rfl (fun _ h => h) ?_
   refine rl_nilCheck rfl rfl ?_
   exact RL.nil ⟨_, rfl, Ch.refl, rfl⟩
  refine Each.consS (fun fl O wk hE hN hO ck => ?_) ?_
  ·
   refine Need.o1 rfl rfl rfl (fun _ h => h) ?_
   refine rl_fieldAddr rfl fa48_0 rfl ?_
   exact RL.nil ⟨_, rfl, Ch.refl, rfl⟩
  refine Each.consS (fun fl O wk hE hN hO ck => ?_) ?_
  ·
   have h587 := h587.ch0 ck
   refine Need.o1 rfl rfl rfl (fun _ h => h) ?_
   refine rl_loadS (v := z586) rfl Try.isAgg46 (h587.cell rfl) rfl ?_
   exact RL.nil ⟨_, rfl, Ch.refl, rfl⟩
  refine Each.consS (fun fl O wk hE hN hO ck => ?_) ?_
  ·
   refine rl_move rfl rfl ?_
   exact RL.nil ⟨_, rfl, Ch.refl, rfl⟩
  refine Each.consA ⟨fun _ _ _ _ _ cc hh => by obtain ⟨v780, e, h781⟩ := hh; exact ⟨v780, e, slRep.ch k_Tie_pos h781 cc⟩, fun _ _ h' O O' D _ wx wy hfl hD hO' cc hh => by obtain ⟨v780, e, h781⟩ := hh; have ad := admGh (S := (un (inBlk (PV p16)) (un (inBlk (PV p8)) (un (inBlk (PV p1)) (un (inBlk (PV po0)) S2))))) hD hO'; exact ⟨v780, e, slRep.st k_Tie_pos h781 cc ad⟩, fun fl O wk hE hN hO ck => ?_⟩ ?_
  ·
   have ha962 : ∀ b, b < w709.heap.size → ¬ (un (inBlk (PV p16)) (un (inBlk (PV p8)) (un (inBlk (PV p1)) (un (inBlk (PV po0)) S2)))) b → ¬ nb b ∧ ¬ (un O (un (inBlk (PV p16)) (un (inBlk (PV p8)) (un (inBlk (PV p1)) (un (inBlk (PV po0)) S2))))) b := fun b hb hs => ⟨fun h => h.elim, fun h => un_el h (fun ho => (hO b ho).1.elim (fun h => h.elim) (fun h => Nat.not_le_of_lt hb h)) (fun h => un_el h (fun h => hs (.inl h)) (fun h => un_el h (fun h => hs (.inr (.inl h))) (fun h => un_el h (fun h => hs (.inr (.inr (.inl h)))) (fun h => un_el h (fun h => hs (.inr (.inr (.inr (.inl h))))) (fun h => hs (.inr (.inr (.inr (.inr h)))))))))⟩
   have h588 := slRep.st k_Tie_pos h588 ck ha962
   refine Need.o1 rfl rfl rfl (fun _ h => h) ?_
   refine Need.o1 rfl rfl rfl (fun _ h => h) ?_
   refine rl_cutR (kl := .i64) (kh := .i64) (some x602) none rfl h588 k_Tie_pos rfl trivial hy779 Try.underlying46 Try.sizeOf37 rfl ?_
   intro v965 h966
   exact RL.nil ⟨_, rfl, Ch.refl, ⟨v965, rfl, h966⟩⟩
  refine Each.consO ⟨fun _ O _ wx wy cc hh => by obtain ⟨v784, v729, v745, v765, eh, e, rfl, ck18_0⟩ := hh; exact ⟨v784, v729, v745, v765, eh, e, rfl, ck18_0.ch0 cc⟩, fun hv Op O wk hO ck hO0 => ?_⟩ ?_
  ·
   refine Need.here rfl rfl rfl rfl ?_
   rintro _ ⟨v765, v729, v745, rfl, e971, rfl, ck11_0⟩
   obtain rfl := e971.symm
   have k11 := k11.ch0 ck
   have k28 := k28.ch0 ck
   have h587 := h587.ch0 ck
   have k600 := k600.ch0 ck
   have c708 := c708.then0 ck
   refine Need.one rfl rfl rfl ?_
   rintro _ ⟨v780, e978, h781⟩
   obtain rfl := e978.symm
   have h781 := slRep.wk (F' := (G F Bb (un (inBlk v765) (un (inBlk (PV p16)) (un (inBlk (PV p8)) (un (inBlk (PV p1)) (un (inBlk (PV po0)) S2))))))) k_Tie_pos h781 (fun b _ hf => ⟨hf.1, fun h => hf.2 (un_el h (fun h => (.inl h)) (fun h => un_el h (fun h => (.inr (.inl h))) (fun h => un_el h (fun h => (.inr (.inr (.inl h)))) (fun h => un_el h (fun h => (.inr (.inr (.inr (.inl h))))) (fun h => un_el h (fun h => (.inr (.inr (.inr (.inr (.inl h)))))) (fun h => (.inr (.inr (.inr (.inr (.inr h)))))))))))⟩)
   have hl := (apO_get hz791).1
   refine rl_append (k := k_Tie) (T := 37) (F := F) (B := Bb) (S := (un (inBlk v765) (un (inBlk (PV p16)) (un (inBlk (PV p8)) (un (inBlk (PV p1)) (un (inBlk (PV po0)) S2)))))) (S2 := (un (inBlk (PV p16)) (un (inBlk (PV p8)) (un (inBlk (PV p1)) (un (inBlk (PV po0)) S2))))) (fun v => (un (inBlk v) (un (inBlk (PV p16)) (un (inBlk (PV p8)) (un (inBlk (PV p1)) (un (inBlk (PV po0)) S2)))))) rfl rfl k_Tie_pos ap46 ck11_0 h781 (fun _ => Iff.rfl) (fun _ _ => Iff.rfl) hl (Nat.le_trans hB c708.size) (un_lt (fun b hb => (ck11_0.lt b hb).2) (un_lt k28.ltp (un_lt k11.ltp (un_lt k600.ltp (un_lt h587.ltp (fun b h => Nat.lt_of_lt_of_le (h2 b h) c708.size)))))) rfl ?_
   intro v981 w982 h983 c984 hf985 ha986
   have hb992 : ∀ b, (inBlk v981) b → ((inBlk v765) b ∨ wk.heap.size ≤ b) ∧ b < w982.heap.size := fun b h => ⟨(hf985 b h).elim (fun h => .inl (h)) (fun h => .inr (Nat.le_trans (Nat.le_refl _) h)), (fun b hb => (h983.lt b hb).2) b h⟩
   exact RL.nil ⟨_, (inBlk v981), rfl, hb992, (c984.mono (fun b _ h => h)), ⟨v981, v729, v745, v765, rfl, rfl, rfl, h983⟩⟩
  trivial
 intro hvO995 OpO995 O995 w993 hO996 c994 hN997
 have ol999 : ∀ b, inBlk (PV p8) b → b < w709.heap.size := k11.ltp
 have ol1001 : ∀ b, inBlk (PV po0) b → b < w709.heap.size := h587.ltp
 refine Need.here rfl rfl rfl rfl ?_
 rintro _ ⟨v784, v729, v745, v765, rfl, e1002, rfl, ck18_0⟩
 obtain rfl := e1002.symm
 have lo1003 : ∀ b, inBlk v784 b → w.heap.size ≤ b := fun b h => (hO996 b h).1.elim (fun h => h.elim) (Nat.le_trans c708.size)
 have d1005 : ∀ b, inBlk v784 b → ¬ inBlk (PV p8) b := fun b h hu => (hO996 b h).1.elim (fun h => h.elim) (fun h => Nat.not_le_of_lt (ol999 b hu) h)
 have d1007 : ∀ b, inBlk v784 b → ¬ inBlk (PV po0) b := fun b h hu => (hO996 b h).1.elim (fun h => h.elim) (fun h => Nat.not_le_of_lt (ol1001 b hu) h)
 have ha1008 : ∀ b, b < w709.heap.size → ¬ (un (inBlk (PV p16)) (un (inBlk (PV p8)) (un (inBlk (PV p1)) (un (inBlk (PV po0)) S2)))) b → ¬ nb b ∧ ¬ (un (inBlk v784) (un (inBlk (PV p16)) (un (inBlk (PV p8)) (un (inBlk (PV p1)) (un (inBlk (PV po0)) S2))))) b := fun b hb hs => ⟨fun h => h.elim, fun h => un_el h (fun h => (hO996 b h).1.elim (fun h => h.elim) (fun h => Nat.not_le_of_lt hb h)) (fun h => un_el h (fun h => hs (.inl h)) (fun h => un_el h (fun h => hs (.inr (.inl h))) (fun h => un_el h (fun h => hs (.inr (.inr (.inl h)))) (fun h => un_el h (fun h => hs (.inr (.inr (.inr (.inl h))))) (fun h => hs (.inr (.inr (.inr (.inr h)))))))))⟩
 have k11 := k11.ch0 c994
 have k28 := k28.ch0 c994
 have h587 := h587.ch0 c994
 have h588 := slRep.st k_Tie_pos h588 c994 ha1008
 have c708 := c708.then0 c994
 refine Need.o1 rfl rfl rfl (fun _ h => h) ?_
 refine rl_nilCheck rfl rfl ?_
 refine rl_fieldAddr rfl fa48_0 rfl ?_
 refine rl_storeS (u := v784) rfl rfl ck18_0.one Try.sizeOf46 h587 rfl ?_
 intro w1010 s1012 c1011 k1013
 have ad1014 : ∀ b, b < w993.heap.size → ¬ (un (inBlk v784) (un (inBlk (PV p16)) (un (inBlk (PV p8)) (un (inBlk (PV p1)) (un (inBlk (PV po0)) S2))))) b → ¬ (inBlk (PV po0)) b ∧ ¬ (un (inBlk v784) (un (inBlk (PV p16)) (un (inBlk (PV p8)) (un (inBlk (PV p1)) (un (inBlk (PV po0)) S2))))) b := fun b _ hs => ⟨fun h => hs (.inr (.inr (.inr (.inr (.inl h))))), hs⟩
 have k11 := k11.ch c1011 ((fun b hb h => d608 b hb h) _ rfl)
 have k28 := k28.ch c1011 ((fun b hb h => d605 b hb h) _ rfl)
 have h588 := slRep.st k_Tie_pos h588 c1011 ad1014
 have ck18_0 := ck18_0.st c1011 (fun b hb h => d1007 b hb h) ad1014 (fun b h => (.inl h))
 have c708 := c708.then c1011 (fun i hi h => (lin0_0 i h).elim (fun x => x) (fun x => absurd x (Nat.not_le_of_lt hi)))
 refine RL.nil (thn_n (CW.seq (CW.region ?_)))
 refine rl_loadA (cs := (Tie.enc ({ client := Addr.z, service := Key.z, name := ⟨#[]⟩, localF := false, backend := Point.z, last := 0 } : Tie))) rfl Try.isAgg37 Try.sizeOf37 (k28.segAt 0 40) rfl rfl ?_
 refine rl_move rfl rfl ?_
 refine rl_storeA (vs := (Tie.enc ({ client := Addr.z, service := Key.z, name := ⟨#[]⟩, localF := false, backend := Point.z, last := 0 } : Tie))) rfl rfl (all_one rfl) Try.sizeOf37 rfl k11 rfl ?_
 intro w1015 s1017 c1016 k1018
 have ad1019 : ∀ b, b < w1010.heap.size → ¬ (un (inBlk v784) (un (inBlk (PV p16)) (un (inBlk (PV p8)) (un (inBlk (PV p1)) (un (inBlk (PV po0)) S2))))) b → ¬ (inBlk (PV p8)) b ∧ ¬ (un (inBlk v784) (un (inBlk (PV p16)) (un (inBlk (PV p8)) (un (inBlk (PV p1)) (un (inBlk (PV po0)) S2))))) b := fun b _ hs => ⟨fun h => hs (.inr (.inr (.inl h))), hs⟩
 have h588 := slRep.st k_Tie_pos h588 c1016 ad1019
 have ck18_0 := ck18_0.st c1016 (fun b hb h => d1005 b hb h) ad1019 (fun b h => (.inl h))
 have k1013 := k1013.ch c1016 ((fun b hb h => (disSym d608) b hb h) _ rfl)
 have c708 := c708.then c1016 (fun i hi h => absurd (lo12 i h) (Nat.not_le_of_lt hi))
 refine rl_assign rfl rfl ?_
 refine RL.nil (thn_n (CW.ret ?_))
 obtain rfl := Option.some.inj hS
 have ad1020 : ∀ b, b < w1015.heap.size → ¬ (un (inBlk v784) (un (inBlk (PV p16)) (un (inBlk (PV p8)) (un (inBlk (PV p1)) (un (inBlk (PV po0)) S2))))) b → ¬ nb b ∧ ¬ (un (inBlk v784) (un (inBlk (PV p8)) (un (inBlk (PV p1)) (un (inBlk (PV po0)) S2)))) b := fun b _ hs => ⟨fun x => x, fun h => hs (un_el h (fun h => (.inl h)) (fun h => un_el h (fun h => (.inr (.inr (.inl h)))) (fun h => un_el h (fun h => (.inr (.inr (.inr (.inl h))))) (fun h => un_el h (fun h => (.inr (.inr (.inr (.inr (.inl h)))))) (fun h => (.inr (.inr (.inr (.inr (.inr h))))))))))⟩
 have crf : Ch nb w1015 w1015 := Ch.refl
 have h588 := slRep.st k_Tie_pos h588 crf ad1020
 have ck18_0 := ck18_0.st crf (fun _ _ x => x) ad1020 (fun b h => (.inl h))
 have k1013 := k1013.ch0 crf
 have k1018 := k1018.ch0 crf
 have c708 := c708.then0 crf
 have ad1021 : ∀ b, b < w1015.heap.size → ¬ (un (inBlk v784) (un (inBlk (PV p8)) (un (inBlk (PV p1)) (un (inBlk (PV po0)) S2)))) b → ¬ nb b ∧ ¬ (un (inBlk v784) (un (inBlk (PV p1)) (un (inBlk (PV po0)) S2))) b := fun b _ hs => ⟨fun x => x, fun h => hs (un_el h (fun h => (.inl h)) (fun h => un_el h (fun h => (.inr (.inr (.inl h)))) (fun h => un_el h (fun h => (.inr (.inr (.inr (.inl h))))) (fun h => (.inr (.inr (.inr (.inr h))))))))⟩
 have crf : Ch nb w1015 w1015 := Ch.refl
 have h588 := slRep.st k_Tie_pos h588 crf ad1021
 have ck18_0 := ck18_0.st crf (fun _ _ x => x) ad1021 (fun b h => (.inl h))
 have k1013 := k1013.ch0 crf
 have c708 := c708.then0 crf
 have ad1022 : ∀ b, b < w1015.heap.size → ¬ (un (inBlk v784) (un (inBlk (PV p1)) (un (inBlk (PV po0)) S2))) b → ¬ nb b ∧ ¬ (un (inBlk v784) (un (inBlk (PV po0)) S2)) b := fun b _ hs => ⟨fun x => x, fun h => hs (un_el h (fun h => (.inl h)) (fun h => un_el h (fun h => (.inr (.inr (.inl h)))) (fun h => (.inr (.inr (.inr h))))))⟩
 have crf : Ch nb w1015 w1015 := Ch.refl
 have h588 := slRep.st k_Tie_pos h588 crf ad1022
 have ck18_0 := ck18_0.st crf (fun _ _ x => x) ad1022 (fun b h => (.inl h))
 have k1013 := k1013.ch0 crf
 have c708 := c708.then0 crf
 have hS1023 : (un (inBlk v784) (un (inBlk (PV po0)) S2)) = (un (inBlk (PV po0)) (un (inBlk v784) S2)) := funext fun b => propext ⟨fun h => un_el h (fun h => (.inr (.inl h))) (fun h => un_el h (fun h => (.inl h)) (fun h => (.inr (.inr h)))), fun h => un_el h (fun h => (.inr (.inl h))) (fun h => un_el h (fun h => (.inl h)) (fun h => (.inr (.inr h))))⟩
 rw [hS1023] at h588 ck18_0
 exact ⟨[_, _], ⟨Res1.agg (cs := (Tie.enc ({ client := Addr.z, service := Key.z, name := ⟨#[]⟩, localF := false, backend := Point.z, last := 0 } : Tie))) rfl Try.isAgg37 Try.sizeOf37 (k1018.segAt 0 40) rfl, rfl, trivial⟩, ⟨v784, rfl, k1013, ck18_0, (fun b h => .inr (lo1003 b h)), (disSym d1007), c708⟩⟩
/-- (*lb/ties.Ties).Purge$1 -/
theorem ctr42 (F : Nat → Prop) (w : World) (a0 : Place) (a1 : Tie) (a2 : Int) (av2 : Value) (ah2 : ((kInt .i64).box 3).rep F w a2 [av2]) (a3 : Int) (av3 : Value) (ah3 : ((kInt .i64).box 3).rep F w a3 [av3]) (r : Bool) (hs : F42_1 a0 a1 a2 a3 = r) :
    Ret Try.prog 42 #[(Value.agg (Place.enc a0).toArray), (Value.agg (Tie.enc a1).toArray), av2, av3] w fun v w' => v = (Value.bool r) ∧ Ch nb w w' := by
 have hS := hs
 have c0 : Ch nb w w := Ch.refl
 have ah2 := Kd.enter ah2
 have ah3 := Kd.enter ah3
 refine Ret.of (n := 12) (args := [_, _, _, _]) (rs := [.tmp 6]) Try.func42 rfl rfl rfl rfl ?_
 refine CW.seq (CW.region ?_)
 refine rl_boxA (cs := (Place.enc a0)) rfl rfl ?_
 intro p1 w2 n3 k4
 have ah2 := Kd.ch ah2 n3.ch
 have ah3 := Kd.ch ah3 n3.ch
 have c0 := c0.then0 n3.ch
 refine rl_boxA (cs := (Tie.enc a1)) rfl rfl ?_
 intro p5 w6 n7 k8
 have ah2 := Kd.ch ah2 n7.ch
 have ah3 := Kd.ch ah3 n7.ch
 have c0 := c0.then0 n7.ch
 refine rl_assign rfl rfl ?_
 refine RL.nil (thn_n (CW.seq (CW.region ?_)))
 refine rl_loadA (cs := (Tie.enc a1)) rfl Try.isAgg30 Try.sizeOf30 (k8.segAt 0 40) rfl rfl ?_
 obtain ⟨p9, cc10, e11, gf12, k13, h14⟩ := ah2
 obtain rfl := (List.cons.inj e11).1
 obtain rfl := h14
 refine rl_loadS (v := (Value.int .i64 a2)) rfl Try.isAgg3 (k13.cell rfl) rfl ?_
 obtain ⟨p15, cc16, e17, gf18, k19, h20⟩ := ah3
 obtain rfl := (List.cons.inj e17).1
 obtain rfl := h20
 refine rl_loadS (v := (Value.int .i64 a3)) rfl Try.isAgg3 (k19.cell rfl) rfl ?_
 obtain ⟨y23, hy24⟩ : ∃ y, F7_Fresh a1 a2 a3 = y := ⟨_, rfl⟩
 have hS := ltS hy24 hS
 refine rl_callF rfl en7 rfl (ctr7 (G F w.heap.size nb) w6 a1 a2 a3 y23 hy24) ?_
 rintro _ w21 ⟨rfl, c22⟩
 have c0 := c0.then0 c22
 refine rl_not rfl rfl ?_
 refine rl_assign rfl rfl ?_
 refine RL.nil (thn_n (CW.ret ?_))
 obtain rfl := hS
 exact ret1 rfl ⟨rfl, c0⟩
/-- maps.DeleteFunc[map[lb/ties.place]lb/ties.Tie,lb/ties.place,lb/ties.Tie] -/
theorem ctr41 {R : Nat → Prop} {w : World} {m : List (Place × Tie)} {v fv : Value} {f : Place → Tie → Bool} (hm : Mp (fun x => Value.agg (Place.enc x).toArray) (fun x => Value.agg (Tie.enc x).toArray) w m v) (hf : (Kd.fn2 Try.prog true true k_Place k_Tie Value.bool).rep R w f [fv]) (hR : ∀ b, inBlk v b → ¬ R b) (hnd : (m.map (·.1)).Nodup) :
    Ret Try.prog 41 #[v, fv] w fun u w' => u = .tuple #[] ∧ Mp (fun x => Value.agg (Place.enc x).toArray) (fun x => Value.agg (Tie.enc x).toArray) w' (m.filter fun p => !f p.1 p.2) v ∧ Ch (inBlk v) w w' := by
  obtain ⟨mm, hv⟩ : ∃ mm, v = .map (some mm) := by obtain ⟨mm, _, _, h, _⟩ := hm; exact ⟨mm, h⟩
  refine Ret.of (n := 19) (args := [_, _]) (rs := []) Try.func41 rfl rfl rfl rfl ?_
  refine CW.seq (CW.region ?_)
  refine rl_move rfl rfl ?_
  refine rl_range rfl hm.n Try.underlying67 rfl ?_
  intro r W1 hn hw
  refine RL.nil (thn_n ?_)
  refine CW.block ?_
  refine CW.loopS [(0, v), (1, fv), (7, PV r)] ⟨rfl, rfl, rfl, trivial⟩ m.length (fun k E' W' => ∃ (todo : List (Place × Tie)), todo.length = k ∧ E' = [(0, v), (1, fv), (7, PV r)] ∧ (todo.map (·.1)).Nodup ∧ (∀ p ∈ todo, p ∈ m) ∧ Walk (fun x => Value.agg (Place.enc x).toArray) (fun x => Value.agg (Tie.enc x).toArray) W' (m.filter fun p => decide (p.1 ∈ todo.map (·.1)) || !f p.1 p.2) todo v r ∧ Ch (inBlk v) w W' ∧ w.heap.size ≤ r)
    ⟨m, rfl, rfl, hnd, fun _ h => h, ?_, hn.ch.mono fun _ _ h => h.elim, by rw [hn.eq]; exact Nat.le_refl _⟩ ?_
  · have : (m.filter fun p => decide (p.1 ∈ m.map (·.1)) || !f p.1 p.2) = m := List.filter_eq_self.2 fun p hp => by rw [decide_eq_true (List.mem_map.2 ⟨p, hp, rfl⟩)]; rfl
    rw [this]; exact hw
  rintro k _ W2 ⟨todo, rfl, rfl, htd, hsub, hw, cW, hr⟩
  refine CW.seq (CW.region ?_)
  refine rl_next rfl hw rfl ?_ ?_
  · rintro rfl
    refine rl_extract rfl rfl rfl ?_
    refine RL.nil (thn_n ?_)
    refine CW.seq ?_
    refine CW.no rfl ?_
    refine CW.exit (thn_exit (thn_exit (inB_hit ?_)))
    exact ⟨[], trivial, rfl, by have := hw.mp hv; simpa using this, cW⟩
  · intro k x todo' W3 hpt c3 hw3 hen
    obtain ⟨hT, hFl, htd', hsub', hnot⟩ := del_step (f := f) hnd htd hsub hpt
    have c3' : Ch (inBlk v) w W3 := cW.then c3 fun i hi h => by have e : r = i := h; omega
    have hlen := hpt.length_eq
    simp only [List.length_cons] at hlen
    refine rl_extract rfl rfl rfl ?_
    refine RL.nil (thn_n ?_)
    refine CW.seq ?_
    refine CW.yes rfl ?_
    refine CW.skip (thn_n ?_)
    refine CW.block ?_
    refine CW.seq (CW.region ?_)
    refine rl_entry rfl hen rfl ?_
    refine rl_extract rfl rfl rfl ?_
    refine rl_extract rfl rfl rfl ?_
    refine rl_alloc [.bool false, .int .u8 0, .int .u8 0, .int .u8 0, .int .u8 0, .int .u8 0, .int .u8 0, .int .u8 0, .int .u8 0, .int .u8 0, .int .u8 0, .int .u8 0, .int .u8 0, .int .u8 0, .int .u8 0, .int .u8 0, .int .u8 0, .string ⟨#[]⟩, .string ⟨#[]⟩, .string ⟨#[]⟩, .bool false] Try.zeroValue79 rfl rfl ?_
    intro p W4 hn4 hk4
    refine rl_alloc [.bool false, .int .u8 0, .int .u8 0, .int .u8 0, .int .u8 0, .int .u8 0, .int .u8 0, .int .u8 0, .int .u8 0, .int .u8 0, .int .u8 0, .int .u8 0, .int .u8 0, .int .u8 0, .int .u8 0, .int .u8 0, .int .u8 0, .string ⟨#[]⟩, .string ⟨#[]⟩, .string ⟨#[]⟩, .bool false, .bool false, .int .u8 0, .int .u8 0, .int .u8 0, .int .u8 0, .int .u8 0, .int .u8 0, .int .u8 0, .int .u8 0, .int .u8 0, .int .u8 0, .int .u8 0, .int .u8 0, .int .u8 0, .int .u8 0, .int .u8 0, .int .u8 0, .int .i64 0, .int .i64 0] Try.zeroValue30 rfl rfl ?_
    intro q W5 hn5 hq5
    have hk5 := hk4.ch0 hn5.ch
    have hpq : p ≠ q := fun e => by have := hn5.eq; have := hk4.lt; omega
    refine rl_storeA (vs := Place.enc k) rfl rfl (all_one rfl) Try.sizeOf79 rfl hk5 rfl ?_
    intro W6 hs6 c6 hk6
    have hq6 := hq5.ch c6 (fun h => hpq h)
    refine rl_storeA (vs := Tie.enc x) rfl rfl (all_one rfl) Try.sizeOf30 rfl hq6 rfl ?_
    intro W7 hs7 c7 hq7
    have hk7 := hk6.ch c7 (fun h => hpq h.symm)
    have c37 : Ch nb W3 W7 := ((hn4.ch.then0 hn5.ch).then c6 fun i hi h => by have e : p = i := h; have := hn4.eq; omega).then c7 fun i hi h => by have e : q = i := h; have := hn5.eq; have := hn4.ch.size; omega
    have hw7 := hw3.ch0 c37
    have c7' := c3'.then0 c37
    refine RL.nil (thn_n ?_)
    refine CW.seq (CW.region ?_)
    refine rl_move rfl rfl ?_
    refine rl_loadA (cs := Place.enc k) rfl Try.isAgg79 Try.sizeOf79 (hk7.segAt 0 21) rfl rfl ?_
    refine rl_loadA (cs := Tie.enc x) rfl Try.isAgg30 Try.sizeOf30 (hq7.segAt 0 40) rfl rfl ?_
    have hf7 := Kd.mono _ hf fun b hb hRb => ⟨hRb, c7'.blk b hb fun h => hR b h hRb⟩
    refine rl_fn2 (c := Place.enc k) (c' := Tie.enc x) rfl rfl rfl rfl rfl hf7 (F' := nb) (xx := k) (yy := x) rfl rfl rfl ?_
    intro W8 c8
    have hw8 := hw7.ch0 c8
    have hk8 := hk7.ch0 c8
    have c8' := c7'.then0 c8
    refine RL.nil (thn_n ?_)
    refine CW.cond (t := f k x) rfl (fun hc => ?_) (fun hc => ?_)
    · refine CW.region ?_
      refine rl_move rfl rfl ?_
      refine rl_loadA (cs := Place.enc k) rfl Try.isAgg79 Try.sizeOf79 (hk8.segAt 0 21) rfl rfl ?_
      refine rl_deleteW k rfl rfl hw8 hv rfl kt79 Try.underlying67 hnot ?_
      intro W9 c9 hw9
      rw [hT hc] at hw9
      refine RL.nil (inB_n (thn_n ?_))
      exact ⟨todo'.length, by omega, [(0, v), (1, fv), (7, PV r)], ⟨rfl, rfl, rfl, trivial⟩, todo', rfl, rfl, htd', hsub', hw9, c8'.trans c9, hr⟩
    · refine CW.skip (inB_n (thn_n ?_))
      rw [hFl hc] at hw8
      exact ⟨todo'.length, by omega, [(0, v), (1, fv), (7, PV r)], ⟨rfl, rfl, rfl, trivial⟩, todo', rfl, rfl, htd', hsub', hw8, c8', hr⟩
/-- (*lb/ties.Ties).Purge -/
theorem ctr31 (F : Nat → Prop) (w : World) (Bb : Nat) (S2 : Nat → Prop) (hB : Bb ≤ w.heap.size) (h2 : ∀ b, S2 b → b < w.heap.size) (po0 : Nat) (az0_0 : Value) (hd2 : ∀ b, (un (inBlk (PV po0)) (inBlk az0_0)) b → ¬ S2 b) (hx0_1 : ∀ b, inBlk (PV po0) b → ¬ inBlk az0_0 b) (a0 : Ties) (ah0 : Blk w po0 69 (Ties.c a0 az0_0)) (ah0_0 : Mp (fun x => Value.agg (Place.enc x).toArray) (fun x => Value.agg (Tie.enc x).toArray) w a0.all az0_0) (a1 : Int) (a2 : Int) (r : (Int × Ties)) (hs : F31_Purge a0 a1 a2 = some r) :
    Ret Try.prog 31 #[(PV po0), (Value.int .i64 a1), (Value.int .i64 a2)] w fun v w' => ∃ (nz0_0 : Value), v = (Value.int .i64 r.1) ∧ Blk w' po0 69 (Ties.c r.2 nz0_0) ∧ Mp (fun x => Value.agg (Place.enc x).toArray) (fun x => Value.agg (Tie.enc x).toArray) w' r.2.all nz0_0 ∧ (∀ b, inBlk nz0_0 b → (un (inBlk (PV po0)) (inBlk az0_0)) b ∨ w.heap.size ≤ b) ∧ (∀ b, inBlk (PV po0) b → ¬ inBlk nz0_0 b) ∧ Ch (un (inBlk (PV po0)) (inBlk az0_0)) w w' := by
 have hS := hs
 have c0 : Ch (un (inBlk (PV po0)) (inBlk az0_0)) w w := Ch.refl
 have lin1_0 : ∀ b, inBlk az0_0 b → (un (inBlk (PV po0)) (inBlk az0_0)) b ∨ w.heap.size ≤ b := fun b h => .inl (.inr h)
 refine Ret.of (n := 26) (args := [_, _, _]) (rs := [.tmp 6]) Try.func31 rfl rfl rfl rfl ?_
 refine CW.seq (CW.region ?_)
 refine rl_box [(Value.int .i64 a1)] rfl rfl rfl ?_
 intro p1 w2 n3 k4
 have gp1 : (G F Bb (un (inBlk (PV po0)) (un (inBlk az0_0) S2))) p1 := ⟨.inr (by rw [n3.eq]; exact (Nat.le_trans hB c0.size)), fun h => absurd ((un_lt ah0.ltp (un_lt ah0_0.ltp (fun b h => Nat.lt_of_lt_of_le (h2 b h) c0.size))) _ h) (by rw [n3.eq]; exact Nat.lt_irrefl _)⟩
 have ah0 := ah0.ch0 n3.ch
 have ah0_0 := ah0_0.ch0 n3.ch
 have c0 := c0.then0 n3.ch
 refine rl_box [(Value.int .i64 a2)] rfl rfl rfl ?_
 intro p5 w6 n7 k8
 have gp5 : (G F Bb (un (inBlk (PV po0)) (un (inBlk az0_0) S2))) p5 := ⟨.inr (by rw [n7.eq]; exact (Nat.le_trans hB c0.size)), fun h => absurd ((un_lt ah0.ltp (un_lt ah0_0.ltp (fun b h => Nat.lt_of_lt_of_le (h2 b h) c0.size))) _ h) (by rw [n7.eq]; exact Nat.lt_irrefl _)⟩
 have ah0 := ah0.ch0 n7.ch
 have ah0_0 := ah0_0.ch0 n7.ch
 have k4 := k4.ch0 n7.ch
 have c0 := c0.then0 n7.ch
 refine rl_assign rfl rfl ?_
 refine RL.nil (thn_n (CW.seq (CW.region ?_)))
 refine rl_move rfl rfl ?_
 refine rl_nilCheck rfl rfl ?_
 refine rl_fieldAddr rfl fa69_0 rfl ?_
 refine rl_loadS (v := az0_0) rfl Try.isAgg67 (ah0.cell rfl) rfl ?_
 refine rl_lenMap rfl ah0_0 Try.underlying67 rfl ?_
 refine rl_assign rfl rfl ?_
 refine RL.nil (thn_n (CW.seq (CW.region ?_)))
 refine rl_move rfl rfl ?_
 refine rl_nilCheck rfl rfl ?_
 refine rl_fieldAddr rfl fa69_0 rfl ?_
 refine rl_loadS (v := az0_0) rfl Try.isAgg67 (ah0.cell rfl) rfl ?_
 refine rl_makeFunc rfl rfl ?_
 obtain ⟨y9, hy10, hS⟩ := bindS hS
 refine rl_callF rfl en41 rfl (ctr41 (R := (G F Bb (un (inBlk (PV po0)) (un (inBlk az0_0) S2)))) ah0_0 (show (Kd.fn2 Try.prog true true k_Place k_Tie Value.bool).rep (G F Bb (un (inBlk (PV po0)) (un (inBlk az0_0) S2))) w6 (fun x0 x1 => F42_1 x0 x1 a1 a2) [(Value.func (.func 42) #[] [(PV p1), (PV p5)].toArray)] from ⟨42, [(PV p1), (PV p5)], rfl, en42, fun w' hw F' x0 x1 c0 c1 hx0 hx1 => by
     obtain rfl := hx0
     obtain rfl := hx1
     exact (ctr42 (fun b => (G F Bb (un (inBlk (PV po0)) (un (inBlk az0_0) S2))) b ∨ F' b) w' x0 x1 a1 (PV p1) (Kd.mono _ (show ((kInt .i64).box 3).rep (G F Bb (un (inBlk (PV po0)) (un (inBlk az0_0) S2))) w6 a1 [(PV p1)] from ⟨p1, _, rfl, gp1, k4, rfl⟩) fun b hb hf => ⟨.inl hf, (hw b hb hf).2⟩) a2 (PV p5) (Kd.mono _ (show ((kInt .i64).box 3).rep (G F Bb (un (inBlk (PV po0)) (un (inBlk az0_0) S2))) w6 a2 [(PV p5)] from ⟨p5, _, rfl, gp5, k8, rfl⟩) fun b hb hf => ⟨.inl hf, (hw b hb hf).2⟩) _ rfl).mono (by rintro v w'' ⟨rfl, c⟩; exact ⟨rfl, c⟩)⟩) (fun b hb h => h.2 (.inr (.inl hb))) (mfilter_nd hy10)) ?_
 rintro _ w11 ⟨rfl, h13, c12⟩
 rw [mfilter_eq hy10] at h13
 have ah0 := ah0.ch c12 ((fun b hb h => hx0_1 b hb h) _ rfl)
 have c0 := c0.then c12 (fun i hi h => (lin1_0 i h).elim (fun x => x) (fun x => absurd x (Nat.not_le_of_lt hi)))
 refine RL.nil (thn_n (CW.seq (CW.region ?_)))
 refine rl_move rfl rfl ?_
 refine rl_move rfl rfl ?_
 refine rl_nilCheck rfl rfl ?_
 refine rl_fieldAddr rfl fa69_0 rfl ?_
 refine rl_loadS (v := az0_0) rfl Try.isAgg67 (ah0.cell rfl) rfl ?_
 refine rl_lenMap rfl h13 Try.underlying67 rfl ?_
 refine rl_bin rfl rfl B.sub rfl ?_
 refine rl_assign rfl rfl ?_
 refine RL.nil (thn_n (CW.ret ?_))
 obtain rfl := Option.some.inj hS
 exact ret1 rfl ⟨az0_0, rfl, ah0, h13, lin1_0, hx0_1, c0⟩
/-- lb/lbref31.Fresh -/
theorem ctr8 (F : Nat → Prop) (w : World) (a0 : Tie) (a1 : Int) (a2 : Int) (r : Bool) (hs : F8_Fresh a0 a1 a2 = r) :
    Ret Try.prog 8 #[(Value.agg (Tie.enc a0).toArray), (Value.int .i64 a1), (Value.int .i64 a2)] w fun v w' => v = (Value.bool r) ∧ Ch nb w w' := by
 have hS := hs
 have c0 : Ch nb w w := Ch.refl
 refine Ret.of (n := 29) (args := [_, _, _]) (rs := [.tmp 6]) Try.func8 rfl rfl rfl rfl ?_
 refine CW.seq (CW.region ?_)
 refine rl_boxA (cs := (Tie.enc a0)) rfl rfl ?_
 intro p1 w2 n3 k4
 have c0 := c0.then0 n3.ch
 refine rl_assign rfl rfl ?_
 refine RL.nil (thn_n (CW.seq ?_))
 refine CW.seq (CW.region ?_)
 refine rl_move rfl rfl ?_
 refine rl_bin rfl rfl B.leq rfl ?_
 refine RL.nil (thn_n ?_)
 refine CW.cond (t := decide (a1 ≤ 0)) rfl (fun q5 => ?_) (fun q5 => ?_)
 ·
  have hS := ifT q5 hS
  refine CW.seq (CW.region ?_)
  refine rl_assign rfl rfl ?_
  refine RL.nil (thn_n (CW.ret ?_))
  refine thn_ret ?_
  obtain rfl := hS
  exact ret1 rfl ⟨rfl, c0⟩
 have hS := ifF q5 hS
 refine CW.skip ?_
 refine thn_n (CW.seq ?_)
 refine CW.seq (CW.region ?_)
 refine rl_move rfl rfl ?_
 refine rl_fieldAddr rfl fa37_5 rfl ?_
 refine rl_loadS (v := (Value.int .i64 a0.last)) rfl Try.isAgg3 (k4.cell rfl) rfl ?_
 refine rl_bin rfl rfl B.leq rfl ?_
 refine RL.nil (thn_n ?_)
 refine CW.cond (t := decide (a2 ≤ a0.last)) rfl (fun q6 => ?_) (fun q6 => ?_)
 ·
  have hS := ifT q6 hS
  refine CW.seq (CW.region ?_)
  refine rl_assign rfl rfl ?_
  refine RL.nil (thn_n (CW.ret ?_))
  refine thn_ret ?_
  obtain rfl := hS
  exact ret1 rfl ⟨rfl, c0⟩
 have hS := ifF q6 hS
 refine CW.skip ?_
 refine thn_n (CW.seq ?_)
 refine CW.seq (CW.region ?_)
 refine rl_fieldAddr rfl fa37_5 rfl ?_
 refine rl_loadS (v := (Value.int .i64 a0.last)) rfl Try.isAgg3 (k4.cell rfl) rfl ?_
 refine rl_bin rfl rfl B.gtr rfl ?_
 refine rl_move rfl rfl ?_
 obtain ⟨b9, hb10⟩ : ∃ v, ((decide (a0.last > 0)) && (decide (a1 > (IntKind.i64.wrap (9223372036854775807 - a0.last))))) = v := ⟨_, rfl⟩
 have hS := ltS hb10 hS
 refine RL.join 6 22 (.bool b9) (fun w' => Ch nb w2 w') ?_ ?_
 · rcases Bool.eq_false_or_eq_true (decide (a0.last > 0)) with hg8 | hg8
   ·
    have hs7 := and_t hg8 hb10
    have cs : Ch nb w2 w2 := Ch.refl
    refine RL.yes rfl rfl rfl hg8 ?_
    refine rl_move rfl rfl ?_
    refine RL.yes rfl rfl rfl hg8 ?_
    refine rl_fieldAddr rfl fa37_5 rfl ?_
    refine RL.yes rfl rfl rfl hg8 ?_
    refine rl_loadS (v := (Value.int .i64 a0.last)) rfl Try.isAgg3 (k4.cell rfl) rfl ?_
    refine RL.yes rfl rfl rfl hg8 ?_
    refine rl_bin rfl rfl B.sub rfl ?_
    refine RL.yes rfl rfl rfl hg8 ?_
    refine rl_bin rfl rfl B.gtr rfl ?_
    refine rl_pickT rfl hg8 rfl rfl ?_
    exact RL.nil ⟨Ext.bothEq (congrArg Value.bool hs7) (Ext.skip rfl (Ext.skip rfl (Ext.skip rfl (Ext.skip rfl (Ext.skip rfl (Ext.rfl')))))), cs⟩
   ·
    have hs7 := and_f hg8 hb10
    have cs : Ch nb w2 w2 := Ch.refl
    refine RL.no rfl rfl rfl hg8 rfl rfl ?_
    refine RL.no rfl rfl rfl hg8 rfl rfl ?_
    refine RL.no rfl rfl rfl hg8 rfl rfl ?_
    refine RL.no rfl rfl rfl hg8 rfl rfl ?_
    refine RL.no rfl rfl rfl hg8 rfl rfl ?_
    refine rl_pickF rfl hg8 rfl rfl ?_
    exact RL.nil ⟨Ext.bothEq (congrArg Value.bool hs7) (Ext.skip rfl (Ext.skip rfl (Ext.skip rfl (Ext.skip rfl (Ext.skip rfl (Ext.rfl')))))), cs⟩
 intro w11 c12
 have k4 := k4.ch0 c12
 have c0 := c0.then0 c12
 refine RL.nil (thn_n ?_)
 refine CW.cond (t := b9) rfl (fun q13 => ?_) (fun q13 => ?_)
 ·
  have hS := ifT q13 hS
  refine CW.seq (CW.region ?_)
  refine rl_assign rfl rfl ?_
  refine RL.nil (thn_n (CW.ret ?_))
  refine thn_ret ?_
  obtain rfl := hS
  exact ret1 rfl ⟨rfl, c0⟩
 have hS := ifF q13 hS
 refine CW.skip ?_
 refine thn_n (CW.seq (CW.region ?_))
 refine rl_move rfl rfl ?_
 refine rl_fieldAddr rfl fa37_5 rfl ?_
 refine rl_loadS (v := (Value.int .i64 a0.last)) rfl Try.isAgg3 (k4.cell rfl) rfl ?_
 refine rl_move rfl rfl ?_
 refine rl_bin rfl rfl B.add rfl ?_
 refine rl_bin rfl rfl B.lss rfl ?_
 refine rl_assign rfl rfl ?_
 refine RL.nil (thn_n (CW.ret ?_))
 obtain rfl := hS
 exact ret1 rfl ⟨rfl, c0⟩
end Go.Proofs.Ytokikdhilpebmaa
