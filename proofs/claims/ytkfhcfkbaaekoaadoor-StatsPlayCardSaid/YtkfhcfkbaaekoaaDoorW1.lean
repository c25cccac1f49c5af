/- The walks through the code: each call comes to its printed function. Written by a program of this session. -/
import Derived.Test.YtkfhcfkbaaekoaaDoorM
import Derived.Test.YtkfhcfkbaaekoaaDoorL
import Derived.Test.YtkfhcfkbaaekoaaDoorNI
namespace Go.Proofs.YtkfhcfkbaaekoaaDoor
open Go K
set_option linter.unusedVariables false
theorem ctr7 (F : Nat → Prop) (w : World)  (r : Stats) (hs : F7_New  = r) :
    Ret Tryd.prog 7 #[] w fun v w' => ∃ (y0_p : Nat) (y0_0 : Value), v = (PV y0_p) ∧ Blk w' y0_p 81 (Stats.c r y0_0) ∧ Mp (fun x => Value.agg (Key.enc x).toArray) (fun x => Value.agg (Service.enc x).toArray) w' r.services y0_0 ∧ (∀ b, inBlk (PV y0_p) b → w.heap.size ≤ b) ∧ (∀ b, inBlk y0_0 b → w.heap.size ≤ b) ∧ (∀ b, inBlk (PV y0_p) b → ¬ inBlk y0_0 b) ∧ Ch nb w w' := by
 have hS := hs
 have c0 : Ch nb w w := Ch.refl
 refine Ret.of (n := 4) (args := []) (rs := [.tmp 0]) Tryd.func7 rfl rfl rfl rfl ?_
 refine CW.seq (CW.region ?_)
 refine rl_assign rfl rfl ?_
 refine RL.nil (thn_n (CW.seq (CW.region ?_)))
 refine rl_makeMap (ek := (fun x => Value.agg (Key.enc x).toArray)) (ev := (fun x => Value.agg (Service.enc x).toArray)) rfl ?_
 intro p1 w2 n3 k4
 have lo5 : ∀ b, inBlk (Value.map (some p1)) b → w.heap.size ≤ b := fun b h => Nat.le_trans c0.size (n3.freshM b h)
 have c0 := c0.then0 n3.ch
 refine rl_buildC (out := (Stats.c ({ verdicts := A7Count.z, services := ([] : (List (Key × Service))), spans := A16i64.z, last := 0 } : Stats) (Value.map (some p1)))) [(1, [(Value.map (some p1))])] rfl (co_cons (one_toL k4.one.1) co_nil) pl81 Tryd.zeroValue81 rfl rfl rfl ?_
 refine rl_boxA (cs := (Stats.c ({ verdicts := A7Count.z, services := ([] : (List (Key × Service))), spans := A16i64.z, last := 0 } : Stats) (Value.map (some p1)))) rfl rfl ?_
 intro p6 w7 n8 k9
 have lo10 : ∀ b, inBlk (PV p6) b → w.heap.size ≤ b := fun b h => Nat.le_trans c0.size (n8.fresh b h)
 have d11 : ∀ b, inBlk (PV p6) b → ¬ inBlk (Value.map (some p1)) b := disNew n8.fresh k4.ltp
 have k4 := k4.ch0 n8.ch
 have c0 := c0.then0 n8.ch
 refine rl_assign rfl rfl ?_
 refine RL.nil (thn_n (CW.ret ?_))
 obtain rfl := hS
 exact ret1 rfl ⟨p6, (Value.map (some p1)), rfl, k9, k4, lo10, lo5, d11, c0⟩
theorem ctr24 (F : Nat → Prop) (w : World) (a0 : Int) (r : Bool) (hs : F24_ticked a0 = r) :
    Ret Tryd.prog 24 #[(Value.int .i64 a0)] w fun v w' => v = (Value.bool r) ∧ Ch nb w w' := by
 have hS := hs
 have c0 : Ch nb w w := Ch.refl
 refine Ret.of (n := 9) (args := [_]) (rs := [.tmp 2]) Tryd.func24 rfl rfl rfl rfl ?_
 refine CW.seq (CW.region ?_)
 refine rl_assign rfl rfl ?_
 refine RL.nil (thn_n (CW.seq (CW.region ?_)))
 refine rl_move rfl rfl ?_
 refine rl_bin rfl rfl B.geq rfl ?_
 refine rl_move rfl rfl ?_
 obtain ⟨b3, hb4⟩ : ∃ v, ((decide (a0 ≥ 0)) && (decide (a0 ≤ 1099511627776))) = v := ⟨_, rfl⟩
 have hS := ltS hb4 hS
 refine RL.join 3 8 (.bool b3) (fun w' => Ch nb w w') ?_ ?_
 · rcases Bool.eq_false_or_eq_true (decide (a0 ≥ 0)) with hg2 | hg2
   ·
    have hs1 := and_t hg2 hb4
    have cs : Ch nb w w := Ch.refl
    refine RL.yes rfl rfl rfl hg2 ?_
    refine rl_move rfl rfl ?_
    refine RL.yes rfl rfl rfl hg2 ?_
    refine rl_bin rfl rfl B.leq rfl ?_
    refine rl_pickT rfl hg2 rfl rfl ?_
    exact RL.nil ⟨Ext.bothEq (congrArg Value.bool hs1) (Ext.skip rfl (Ext.skip rfl (Ext.rfl'))), cs⟩
   ·
    have hs1 := and_f hg2 hb4
    have cs : Ch nb w w := Ch.refl
    refine RL.no rfl rfl rfl hg2 rfl rfl ?_
    refine RL.no rfl rfl rfl hg2 rfl rfl ?_
    refine rl_pickF rfl hg2 rfl rfl ?_
    exact RL.nil ⟨Ext.bothEq (congrArg Value.bool hs1) (Ext.skip rfl (Ext.skip rfl (Ext.rfl'))), cs⟩
 intro w5 c6
 have c0 := c0.then0 c6
 refine rl_assign rfl rfl ?_
 refine RL.nil (thn_n (CW.ret ?_))
 obtain rfl := hS
 exact ret1 rfl ⟨rfl, c0⟩
theorem ctr8 (F : Nat → Prop) (w : World) (Bb : Nat) (S2 : Nat → Prop) (hB : Bb ≤ w.heap.size) (h2 : ∀ b, S2 b → b < w.heap.size) (po0 : Nat) (az0_0 : Value) (hd2 : ∀ b, (un (inBlk (PV po0)) (inBlk az0_0)) b → ¬ S2 b) (hx0_1 : ∀ b, inBlk (PV po0) b → ¬ inBlk az0_0 b) (a0 : Stats) (ah0 : Blk w po0 81 (Stats.c a0 az0_0)) (ah0_0 : Mp (fun x => Value.agg (Key.enc x).toArray) (fun x => Value.agg (Service.enc x).toArray) w a0.services az0_0) (r : Count) (hs : F8_Total a0 = some r) :
    Ret Tryd.prog 8 #[(PV po0)] w fun v w' => v = (Value.agg (Count.enc r).toArray) ∧ Ch nb w w' := by
 have hS := hs
 have c0 : Ch nb w w := Ch.refl
 refine Ret.of (n := 27) (args := [_]) (rs := [.cell 2 42]) Tryd.func8 rfl rfl rfl rfl ?_
 refine CW.seq (CW.region ?_)
 refine rl_alloc (Count.enc Count.z) Tryd.zeroValue42 rfl rfl ?_
 intro p1 w2 n3 k4
 have lo5 : ∀ b, inBlk (PV p1) b → w.heap.size ≤ b := fun b h => Nat.le_trans c0.size (n3.fresh b h)
 have d6 : ∀ b, inBlk (PV p1) b → ¬ inBlk (PV po0) b := disNew n3.fresh ah0.ltp
 have d7 : ∀ b, inBlk (PV p1) b → ¬ inBlk az0_0 b := disNew n3.fresh ah0_0.ltp
 have ah0 := ah0.ch0 n3.ch
 have ah0_0 := ah0_0.ch0 n3.ch
 have c0 := c0.then0 n3.ch
 refine RL.nil (thn_n (CW.seq (CW.region ?_)))
 refine rl_alloc (Count.enc Count.z) Tryd.zeroValue42 rfl rfl ?_
 intro p8 w9 n10 k11
 have lo12 : ∀ b, inBlk (PV p8) b → w.heap.size ≤ b := fun b h => Nat.le_trans c0.size (n10.fresh b h)
 have d13 : ∀ b, inBlk (PV p8) b → ¬ inBlk (PV p1) b := disNew n10.fresh k4.ltp
 have d14 : ∀ b, inBlk (PV p8) b → ¬ inBlk (PV po0) b := disNew n10.fresh ah0.ltp
 have d15 : ∀ b, inBlk (PV p8) b → ¬ inBlk az0_0 b := disNew n10.fresh ah0_0.ltp
 have ah0 := ah0.ch0 n10.ch
 have ah0_0 := ah0_0.ch0 n10.ch
 have k4 := k4.ch0 n10.ch
 have c0 := c0.then0 n10.ch
 refine RL.nil (thn_n (CW.seq ?_))
 refine CW.seq (CW.region ?_)
 refine rl_move rfl rfl ?_
 refine rl_nilCheck rfl rfl ?_
 refine rl_fieldAddr rfl fa81_0 rfl ?_
 refine rl_loadA (cs := (A7Count.enc a0.verdicts)) rfl Tryd.isAgg78 Tryd.sizeOf78 (ah0.segAt 0 14) rfl rfl ?_
 refine rl_move rfl rfl ?_
 refine RL.nil (thn_n ?_)
 obtain ⟨o32, ho33, hS⟩ := bindS hS
 refine CW.cutB (fun E' w' => ∃ (x16 : Int) (x17 : Count), Sub [(2, (PV p1)), (3, (PV p8))] E' ∧ Ch nb w w' ∧ Lp.fin (x16, x17) = o32 ∧ Blk w' po0 81 (Stats.c a0 az0_0) ∧ Mp (fun x => Value.agg (Key.enc x).toArray) (fun x => Value.agg (Service.enc x).toArray) w' a0.services az0_0 ∧ Blk w' p1 42 (Count.enc Count.z) ∧ Blk w' p8 42 (Count.enc x17) ∧ (∀ b, inBlk (PV p8) b → ¬ inBlk (PV p1) b) ∧ (∀ b, inBlk (PV p8) b → ¬ inBlk (PV po0) b) ∧ (∀ b, inBlk (PV p8) b → ¬ inBlk az0_0 b) ∧ (∀ b, inBlk (PV p1) b → ¬ inBlk (PV po0) b) ∧ (∀ b, inBlk (PV p1) b → ¬ inBlk az0_0 b) ∧ (∀ b, inBlk (PV po0) b → ¬ inBlk az0_0 b)) ?_ ?_
 ·
  refine CW.loopS [(2, (PV p1)), (3, (PV p8)), (9, (Value.agg (A7Count.enc a0.verdicts).toArray)), (10, (Value.int .i64 0))] ⟨rfl, rfl, rfl, rfl, trivial⟩ FUEL (fun m E w' => ∃ (x16 : Int) (x17 : Count), E = [(2, (PV p1)), (3, (PV p8)), (9, (Value.agg (A7Count.enc a0.verdicts).toArray)), (10, (Value.int .i64 x16))] ∧ Ch nb w w' ∧ runW (F8_Total_b1 a0) m (x16, x17) = some o32 ∧ Blk w' po0 81 (Stats.c a0 az0_0) ∧ Mp (fun x => Value.agg (Key.enc x).toArray) (fun x => Value.agg (Service.enc x).toArray) w' a0.services az0_0 ∧ Blk w' p1 42 (Count.enc Count.z) ∧ Blk w' p8 42 (Count.enc x17) ∧ (∀ b, inBlk (PV p8) b → ¬ inBlk (PV p1) b) ∧ (∀ b, inBlk (PV p8) b → ¬ inBlk (PV po0) b) ∧ (∀ b, inBlk (PV p8) b → ¬ inBlk az0_0 b) ∧ (∀ b, inBlk (PV p1) b → ¬ inBlk (PV po0) b) ∧ (∀ b, inBlk (PV p1) b → ¬ inBlk az0_0 b) ∧ (∀ b, inBlk (PV po0) b → ¬ inBlk az0_0 b))
      ⟨0, Count.z, rfl, c0, ho33, ah0, ah0_0, k4, k11, d13, d14, d15, d6, d7, hx0_1⟩ ?_
  rintro _ _ w38 ⟨x16, x17, rfl, c37, hL27, ah0, ah0_0, k4, k18, d19, d20, d21, d22, d23, d24⟩
  obtain ⟨k36, q29, rfl, hq30⟩ := runW_some hL27
  have hb31 := hq30
  refine CW.seq (CW.region ?_)
  refine rl_bin rfl rfl B.lss rfl ?_
  refine RL.nil (thn_n (CW.seq ?_))
  refine CW.cond (t := decide (x16 < 7)) rfl (fun q40 => ?_) (fun q40 => ?_)
  ·
   have hb31 := ifT q40 hb31
   refine CW.skip ?_
   refine thn_n (CW.seq ?_)
   refine CW.block ?_
   refine CW.seq (CW.region ?_)
   obtain ⟨y41, hy42, hb31⟩ := bindS hb31
   refine rl_indexA (cs := A7Count.enc a0.verdicts) rfl rfl (ixO_in hy42) Tryd.underlying78 Tryd.isAgg42 Tryd.sizeOf42 (A7Count.part _ _ _ (ixO_get hy42).2.2) rfl ?_
   refine rl_alloc (Count.enc Count.z) Tryd.zeroValue42 rfl rfl ?_
   intro p43 w44 n45 k46
   have lo47 : ∀ b, inBlk (PV p43) b → w.heap.size ≤ b := fun b h => Nat.le_trans c37.size (n45.fresh b h)
   have d48 : ∀ b, inBlk (PV p43) b → ¬ inBlk (PV p8) b := disNew n45.fresh k18.ltp
   have d49 : ∀ b, inBlk (PV p43) b → ¬ inBlk (PV p1) b := disNew n45.fresh k4.ltp
   have d50 : ∀ b, inBlk (PV p43) b → ¬ inBlk (PV po0) b := disNew n45.fresh ah0.ltp
   have d51 : ∀ b, inBlk (PV p43) b → ¬ inBlk az0_0 b := disNew n45.fresh ah0_0.ltp
   have ah0 := ah0.ch0 n45.ch
   have ah0_0 := ah0_0.ch0 n45.ch
   have k4 := k4.ch0 n45.ch
   have k18 := k18.ch0 n45.ch
   have c37 := c37.then0 n45.ch
   refine rl_storeA (vs := (Count.enc y41)) rfl rfl (all_one rfl) Tryd.sizeOf42 rfl k46 rfl ?_
   intro w52 s54 c53 k55
   have ah0 := ah0.ch c53 ((fun b hb h => (disSym d50) b hb h) _ rfl)
   have ah0_0 := ah0_0.ch c53 ((fun b hb h => (disSym d51) b hb h))
   have k4 := k4.ch c53 ((fun b hb h => (disSym d49) b hb h) _ rfl)
   have k18 := k18.ch c53 ((fun b hb h => (disSym d48) b hb h) _ rfl)
   have c37 := c37.then c53 (fun i hi h => absurd (lo47 i h) (Nat.not_le_of_lt hi))
   refine RL.nil (thn_n (CW.seq (CW.region ?_)))
   refine rl_fieldAddr rfl fa42_0 rfl ?_
   refine rl_loadS (v := (Value.int .i64 x17.packets)) rfl Tryd.isAgg3 (k18.cell rfl) rfl ?_
   refine rl_fieldAddr rfl fa42_0 rfl ?_
   refine rl_loadS (v := (Value.int .i64 y41.packets)) rfl Tryd.isAgg3 (k55.cell rfl) rfl ?_
   refine rl_bin rfl rfl B.add rfl ?_
   refine rl_fieldAddr rfl fa42_0 rfl ?_
   refine rl_storeS (u := (Value.int .i64 (IntKind.i64.wrap (x17.packets + y41.packets)))) rfl rfl ⟨rfl, rfl⟩ Tryd.sizeOf3 k18 rfl ?_
   intro w57 s59 c58 k60
   have ah0 := ah0.ch c58 ((fun b hb h => (disSym d20) b hb h) _ rfl)
   have ah0_0 := ah0_0.ch c58 ((fun b hb h => (disSym d21) b hb h))
   have k4 := k4.ch c58 ((fun b hb h => (disSym d19) b hb h) _ rfl)
   have k55 := k55.ch c58 ((fun b hb h => d48 b hb h) _ rfl)
   have c37 := c37.then c58 (fun i hi h => absurd (lo12 i h) (Nat.not_le_of_lt hi))
   refine RL.nil (thn_n (CW.region ?_))
   refine rl_fieldAddr rfl fa42_1 rfl ?_
   refine rl_loadS (v := (Value.int .i64 x17.bytes)) rfl Tryd.isAgg3 (k60.cell rfl) rfl ?_
   refine rl_fieldAddr rfl fa42_1 rfl ?_
   refine rl_loadS (v := (Value.int .i64 y41.bytes)) rfl Tryd.isAgg3 (k55.cell rfl) rfl ?_
   refine rl_bin rfl rfl B.add rfl ?_
   refine rl_fieldAddr rfl fa42_1 rfl ?_
   refine rl_storeS (u := (Value.int .i64 (IntKind.i64.wrap (x17.bytes + y41.bytes)))) rfl rfl ⟨rfl, rfl⟩ Tryd.sizeOf3 k60 rfl ?_
   intro w62 s64 c63 k65
   have ah0 := ah0.ch c63 ((fun b hb h => (disSym d20) b hb h) _ rfl)
   have ah0_0 := ah0_0.ch c63 ((fun b hb h => (disSym d21) b hb h))
   have k4 := k4.ch c63 ((fun b hb h => (disSym d19) b hb h) _ rfl)
   have c37 := c37.then c63 (fun i hi h => absurd (lo12 i h) (Nat.not_le_of_lt hi))
   refine RL.nil ?_
   refine inB_n ?_
   refine thn_n (CW.region ?_)
   refine rl_bin rfl rfl B.add rfl ?_
   refine rl_move rfl rfl ?_
   refine RL.nil (thn_n ?_)
   have crf : Ch nb w62 w62 := Ch.refl
   have ah0 := ah0.ch0 crf
   have ah0_0 := ah0_0.ch0 crf
   have k4 := k4.ch0 crf
   have k65 := k65.ch0 crf
   have c37 := c37.then0 crf
   have hLn := runW_next hL27 hq30 hb31
   exact ⟨k36, Nat.lt_succ_self _, [(2, (PV p1)), (3, (PV p8)), (9, (Value.agg (A7Count.enc a0.verdicts).toArray)), (10, (Value.int .i64 (IntKind.i64.wrap (x16 + 1))))], ⟨rfl, rfl, rfl, rfl, trivial⟩, ⟨IntKind.i64.wrap (x16 + 1), ({ packets := IntKind.i64.wrap (x17.packets + y41.packets), bytes := IntKind.i64.wrap (x17.bytes + y41.bytes) } : Count), rfl, c37, hLn, ah0, ah0_0, k4, k65, d19, d20, d21, d22, d23, d24⟩⟩
  have hb31 := ifF q40 hb31
  refine CW.exit ?_
  refine thn_exit ?_
  refine thn_exit ?_
  refine inB_hit ?_
  have hLf := runW_fin hL27 hq30 hb31
  exact ⟨x16, x17, ⟨rfl, rfl, trivial⟩, c37, hLf, ah0, ah0_0, k4, k18, d19, d20, d21, d22, d23, d24⟩
 rintro _ w69 ⟨x16, x17, hE70, c68, f71, ah0, ah0_0, k4, k18, d19, d20, d21, d22, d23, d24⟩
 have hS := finS f71 hS
 refine thn_n (CW.sub [(2, (PV p1)), (3, (PV p8))] hE70 ?_)
 refine CW.seq (CW.region ?_)
 refine rl_loadA (cs := (Count.enc x17)) rfl Tryd.isAgg42 Tryd.sizeOf42 (k18.segAt 0 2) rfl rfl ?_
 refine rl_storeA (vs := (Count.enc x17)) rfl rfl (all_one rfl) Tryd.sizeOf42 rfl k4 rfl ?_
 intro w73 s75 c74 k76
 have c68 := c68.then c74 (fun i hi h => absurd (lo5 i h) (Nat.not_le_of_lt hi))
 refine RL.nil (thn_n (CW.ret ?_))
 obtain rfl := Option.some.inj hS
 exact ⟨[_], ⟨Res1.agg (cs := (Count.enc x17)) rfl Tryd.isAgg42 Tryd.sizeOf42 (k76.segAt 0 2) rfl, trivial⟩, ⟨rfl, c68⟩⟩
theorem ctr25 (F : Nat → Prop) (w : World) (Bb : Nat) (S2 : Nat → Prop) (hB : Bb ≤ w.heap.size) (h2 : ∀ b, S2 b → b < w.heap.size) (po0 : Nat) (az0_0 : Value) (hd2 : ∀ b, (un (inBlk (PV po0)) (inBlk az0_0)) b → ¬ S2 b) (hx0_1 : ∀ b, inBlk (PV po0) b → ¬ inBlk az0_0 b) (a0 : Stats) (ah0 : Blk w po0 81 (Stats.c a0 az0_0)) (ah0_0 : Mp (fun x => Value.agg (Key.enc x).toArray) (fun x => Value.agg (Service.enc x).toArray) w a0.services az0_0) (a1 : Int) (r : Stats) (hs : F25_forward a0 a1 = some r) :
    Ret Tryd.prog 25 #[(PV po0), (Value.int .i64 a1)] w fun v w' => ∃ (nz0_0 : Value), v = Value.tuple #[] ∧ Blk w' po0 81 (Stats.c r nz0_0) ∧ Mp (fun x => Value.agg (Key.enc x).toArray) (fun x => Value.agg (Service.enc x).toArray) w' r.services nz0_0 ∧ (∀ b, inBlk nz0_0 b → (un (inBlk (PV po0)) (inBlk az0_0)) b ∨ w.heap.size ≤ b) ∧ (∀ b, inBlk (PV po0) b → ¬ inBlk nz0_0 b) ∧ Ch (un (inBlk (PV po0)) (inBlk az0_0)) w w' := by
 have hS := hs
 have c0 : Ch (un (inBlk (PV po0)) (inBlk az0_0)) w w := Ch.refl
 have lin0_0 : ∀ b, inBlk (PV po0) b → (un (inBlk (PV po0)) (inBlk az0_0)) b ∨ w.heap.size ≤ b := fun b h => .inl (.inl h)
 have lin1_0 : ∀ b, inBlk az0_0 b → (un (inBlk (PV po0)) (inBlk az0_0)) b ∨ w.heap.size ≤ b := fun b h => .inl (.inr h)
 refine Ret.of (n := 29) (args := [_, _]) (rs := []) Tryd.func25 rfl rfl rfl rfl ?_
 refine CW.seq ?_
 refine CW.seq (CW.region ?_)
 refine rl_move rfl rfl ?_
 refine rl_nilCheck rfl rfl ?_
 refine rl_fieldAddr rfl fa81_3 rfl ?_
 refine rl_loadS (v := (Value.int .i64 a0.last)) rfl Tryd.isAgg3 (ah0.cell rfl) rfl ?_
 refine rl_bin rfl rfl B.add rfl ?_
 refine rl_move rfl rfl ?_
 refine rl_bin rfl rfl B.sub rfl ?_
 refine rl_bin rfl rfl B.add rfl ?_
 refine rl_max rfl rfl rfl ?_
 refine rl_assign rfl rfl ?_
 refine RL.nil (thn_n ?_)
 obtain ⟨o15, ho16, hS⟩ := bindS hS
 refine CW.cutB (fun E' w' => ∃ (x1 : Int) (x2 : Stats) (v3 : Value), Sub [(0, (PV po0)), (1, (Value.int .i64 a1))] E' ∧ Ch (un (inBlk (PV po0)) (inBlk az0_0)) w w' ∧ Lp.fin (x1, x2) = o15 ∧ Mp (fun x => Value.agg (Key.enc x).toArray) (fun x => Value.agg (Service.enc x).toArray) w' x2.services v3 ∧ Blk w' po0 81 (Stats.c x2 v3) ∧ (∀ b, inBlk (PV po0) b → ¬ inBlk v3 b) ∧ (∀ b, inBlk v3 b → (un (inBlk (PV po0)) (inBlk az0_0)) b ∨ w.heap.size ≤ b)) ?_ ?_
 ·
  refine CW.loopS [(0, (PV po0)), (1, (Value.int .i64 a1)), (4, (Value.int .i64 (if (IntKind.i64.wrap ((IntKind.i64.wrap (a1 - 16)) + 1)) > (IntKind.i64.wrap (a0.last + 1)) then (IntKind.i64.wrap ((IntKind.i64.wrap (a1 - 16)) + 1)) else (IntKind.i64.wrap (a0.last + 1)))))] ⟨rfl, rfl, rfl, trivial⟩ FUEL (fun m E w' => ∃ (x1 : Int) (x2 : Stats) (v3 : Value), E = [(0, (PV po0)), (1, (Value.int .i64 a1)), (4, (Value.int .i64 x1))] ∧ Ch (un (inBlk (PV po0)) (inBlk az0_0)) w w' ∧ runW (F25_forward_b1 a1) m (x1, x2) = some o15 ∧ Mp (fun x => Value.agg (Key.enc x).toArray) (fun x => Value.agg (Service.enc x).toArray) w' x2.services v3 ∧ Blk w' po0 81 (Stats.c x2 v3) ∧ (∀ b, inBlk (PV po0) b → ¬ inBlk v3 b) ∧ (∀ b, inBlk v3 b → (un (inBlk (PV po0)) (inBlk az0_0)) b ∨ w.heap.size ≤ b))
      ⟨if (IntKind.i64.wrap ((IntKind.i64.wrap (a1 - 16)) + 1)) > (IntKind.i64.wrap (a0.last + 1)) then (IntKind.i64.wrap ((IntKind.i64.wrap (a1 - 16)) + 1)) else (IntKind.i64.wrap (a0.last + 1)), a0, az0_0, rfl, c0, ho16, ah0_0, ah0, hx0_1, lin1_0⟩ ?_
  rintro _ _ w21 ⟨x1, x2, v3, rfl, c20, hL10, h4, k5, d7, lin6⟩
  obtain ⟨k19, q12, rfl, hq13⟩ := runW_some hL10
  have hb14 := hq13
  refine CW.seq ?_
  refine CW.seq (CW.region ?_)
  refine rl_move rfl rfl ?_
  refine rl_move rfl rfl ?_
  refine rl_bin rfl rfl B.leq rfl ?_
  refine RL.nil (thn_n ?_)
  refine CW.cond (t := decide (x1 ≤ a1)) rfl (fun q23 => ?_) (fun q23 => ?_)
  ·
   have hb14 := ifT q23 hb14
   refine CW.skip ?_
   refine thn_n (CW.seq ?_)
   refine CW.block ?_
   refine CW.region ?_
   refine rl_move rfl rfl ?_
   refine rl_move rfl rfl ?_
   refine rl_bin rfl rfl (B.rem rfl) rfl ?_
   refine rl_nilCheck rfl rfl ?_
   refine rl_fieldAddr rfl fa81_2 rfl ?_
   obtain ⟨y24, hy25, hb14⟩ := bindS hb14
   refine rl_ixArrV rfl rfl (ixO_in hy25) Tryd.underlying79 Tryd.sizeOf3 rfl ?_
   have lt30 : (x1.tmod 16).toNat < 16 := lt_of_get (ixO_get hy25).2.2
   refine rl_storeV (u := (Value.int .i64 0)) (cs' := (Stats.c ({ verdicts := x2.verdicts, services := x2.services, spans := A16i64.upd x2.spans (x1.tmod 16).toNat (fun _ => 0), last := x2.last } : Stats) v3)) rfl rfl ⟨rfl, rfl⟩ Tryd.sizeOf3 k5 (by show 15 + (x1.tmod 16).toNat * 1 < 32; omega) (Stats.set_spans x2 v3 0 _ lt30) ?_
   intro w26 s28 c27 k29
   have h4 := h4.ch c27 ((fun b hb h => (disSym d7) b hb h))
   have c20 := c20.then c27 (fun i hi h => (lin0_0 i h).elim (fun x => x) (fun x => absurd x (Nat.not_le_of_lt hi)))
   refine RL.nil ?_
   refine inB_n ?_
   refine thn_n (CW.region ?_)
   refine rl_move rfl rfl ?_
   refine rl_bin rfl rfl B.add rfl ?_
   refine rl_assign rfl rfl ?_
   refine RL.nil (thn_n ?_)
   have hLn := runW_next hL10 hq13 hb14
   exact ⟨k19, Nat.lt_succ_self _, [(0, (PV po0)), (1, (Value.int .i64 a1)), (4, (Value.int .i64 (IntKind.i64.wrap (x1 + 1))))], ⟨rfl, rfl, rfl, trivial⟩, ⟨IntKind.i64.wrap (x1 + 1), ({ verdicts := x2.verdicts, services := x2.services, spans := A16i64.upd x2.spans (x1.tmod 16).toNat (fun _ => 0), last := x2.last } : Stats), v3, rfl, c20, hLn, h4, k29, d7, lin6⟩⟩
  have hb14 := ifF q23 hb14
  refine CW.exit ?_
  refine thn_exit ?_
  refine thn_exit ?_
  refine inB_hit ?_
  have hLf := runW_fin hL10 hq13 hb14
  exact ⟨x1, x2, v3, ⟨rfl, rfl, trivial⟩, c20, hLf, h4, k5, d7, lin6⟩
 rintro _ w34 ⟨x1, x2, v3, hE35, c33, f36, h4, k5, d7, lin6⟩
 have hS := finS f36 hS
 refine thn_n (CW.sub [(0, (PV po0)), (1, (Value.int .i64 a1))] hE35 ?_)
 refine CW.region ?_
 refine rl_move rfl rfl ?_
 refine rl_move rfl rfl ?_
 refine rl_nilCheck rfl rfl ?_
 refine rl_fieldAddr rfl fa81_3 rfl ?_
 refine rl_storeS (u := (Value.int .i64 a1)) rfl rfl ⟨rfl, rfl⟩ Tryd.sizeOf3 k5 rfl ?_
 intro w38 s40 c39 k41
 have h4 := h4.ch c39 ((fun b hb h => (disSym d7) b hb h))
 have c33 := c33.then c39 (fun i hi h => (lin0_0 i h).elim (fun x => x) (fun x => absurd x (Nat.not_le_of_lt hi)))
 refine RL.nil ?_
 obtain rfl := Option.some.inj hS
 exact ⟨[], trivial, ⟨v3, rfl, k41, h4, lin6, d7, c33⟩⟩
theorem ctr26 (F : Nat → Prop) (w : World) (Bb : Nat) (S2 : Nat → Prop) (hB : Bb ≤ w.heap.size) (h2 : ∀ b, S2 b → b < w.heap.size) (po0 : Nat) (az0_0 : Value) (hd2 : ∀ b, (un (inBlk (PV po0)) (inBlk az0_0)) b → ¬ S2 b) (hx0_1 : ∀ b, inBlk (PV po0) b → ¬ inBlk az0_0 b) (a0 : Stats) (ah0 : Blk w po0 81 (Stats.c a0 az0_0)) (ah0_0 : Mp (fun x => Value.agg (Key.enc x).toArray) (fun x => Value.agg (Service.enc x).toArray) w a0.services az0_0) (a1 : Out) (az1_0 : Value) (ah1_0 : slRep (kInt .u8) (G F Bb (un (inBlk (PV po0)) (un (inBlk az0_0) S2))) w a1.packet az1_0) (r : Stats) (hs : F26_served a0 a1 = r) :
    Ret Tryd.prog 26 #[(PV po0), (Value.agg (Out.c a1 az1_0).toArray)] w fun v w' => ∃ (nz0_0 : Value), v = Value.tuple #[] ∧ Blk w' po0 81 (Stats.c r nz0_0) ∧ Mp (fun x => Value.agg (Key.enc x).toArray) (fun x => Value.agg (Service.enc x).toArray) w' r.services nz0_0 ∧ (∀ b, inBlk nz0_0 b → (un (inBlk (PV po0)) (inBlk az0_0)) b ∨ w.heap.size ≤ b) ∧ (∀ b, inBlk (PV po0) b → ¬ inBlk nz0_0 b) ∧ Ch (un (inBlk (PV po0)) (inBlk az0_0)) w w' := by
 have hS := hs
 have c0 : Ch (un (inBlk (PV po0)) (inBlk az0_0)) w w := Ch.refl
 have lin1_0 : ∀ b, inBlk az0_0 b → (un (inBlk (PV po0)) (inBlk az0_0)) b ∨ w.heap.size ≤ b := fun b h => .inl (.inr h)
 refine Ret.of (n := 50) (args := [_, _]) (rs := []) Tryd.func26 rfl rfl rfl rfl ?_
 refine CW.seq (CW.region ?_)
 refine rl_boxA (cs := (Out.c a1 az1_0)) rfl rfl ?_
 intro p1 w2 n3 k4
 have gp1 : (G F Bb (un (inBlk (PV po0)) (un (inBlk az0_0) S2))) p1 := ⟨.inr (by rw [n3.eq]; exact (Nat.le_trans hB c0.size)), fun h => absurd ((un_lt ah0.ltp (un_lt ah0_0.ltp (fun b h => Nat.lt_of_lt_of_le (h2 b h) c0.size))) _ h) (by rw [n3.eq]; exact Nat.lt_irrefl _)⟩
 have ah0 := ah0.ch0 n3.ch
 have ah0_0 := ah0_0.ch0 n3.ch
 have c0 := c0.then0 n3.ch
 refine RL.nil (thn_n (CW.seq ?_))
 refine CW.draw 9 [(none, fun fx O uu wx => uu = (PV po0)), (none, fun fx O uu wx => uu = (PV po0)), (none, fun fx O uu wx => uu = (Value.pointer (some ⟨po0, 14, none⟩))), (none, fun fx O uu wx => uu = az0_0), (none, fun fx O uu wx => uu = (Value.pointer (some ⟨p1, 2, none⟩))), (none, fun fx O uu wx => uu = (Value.pointer (some ⟨p1, 21, none⟩))), (none, fun fx O uu wx => uu = (Value.agg (Key.enc a1.front.service).toArray)), (none, fun fx O uu wx => uu = (Value.agg (Service.enc ((mget a0.services a1.front.service).getD Service.z)).toArray)), (some false, fun _ O uu wx => ∃ (p5 : Nat), uu = (PV p5) ∧ O = (inBlk (PV p5)) ∧ Blk wx p5 51 (Service.enc Service.z))] [[], [0], [1], [2], [], [4], [5], [3, 6], []] [8, 7] nb (fun _ h => h.elim) mixed rfl rfl rfl rfl ?_ ?_
 ·
  refine Each.consS (fun fl O wk hE hN hO ck => ?_) ?_
  ·
   refine rl_move rfl rfl ?_
   exact RL.nil ⟨_, rfl, Ch.refl, rfl⟩
  refine Each.consS (fun fl O wk hE hN hO ck => ?_) ?_
  ·
   refine Need.o1 rfl rfl rfl (fun _ h => h) ?_
   refine rl_nilCheck rfl rfl ?_
   exact RL.nil ⟨_, rfl, Ch.refl, rfl⟩
  refine Each.consS (fun fl O wk hE hN hO ck => ?_) ?_
  ·
   refine Need.o1 rfl rfl rfl (fun _ h => h) ?_
   refine rl_fieldAddr rfl fa81_1 rfl ?_
   exact RL.nil ⟨_, rfl, Ch.refl, rfl⟩
  refine Each.consS (fun fl O wk hE hN hO ck => ?_) ?_
  ·
   have ah0 := ah0.ch0 ck
   refine Need.o1 rfl rfl rfl (fun _ h => h) ?_
   refine rl_loadS (v := az0_0) rfl Tryd.isAgg77 (ah0.cell rfl) rfl ?_
   exact RL.nil ⟨_, rfl, Ch.refl, rfl⟩
  refine Each.consS (fun fl O wk hE hN hO ck => ?_) ?_
  ·
   refine rl_fieldAddr rfl fa38_2 rfl ?_
   exact RL.nil ⟨_, rfl, Ch.refl, rfl⟩
  refine Each.consS (fun fl O wk hE hN hO ck => ?_) ?_
  ·
   refine Need.o1 rfl rfl rfl (fun _ h => h) ?_
   refine rl_fieldAddr rfl fa36_2 rfl ?_
   exact RL.nil ⟨_, rfl, Ch.refl, rfl⟩
  refine Each.consS (fun fl O wk hE hN hO ck => ?_) ?_
  ·
   have k4 := k4.ch0 ck
   refine Need.o1 rfl rfl rfl (fun _ h => h) ?_
   refine rl_loadA (cs := (Key.enc a1.front.service)) rfl Tryd.isAgg34 Tryd.sizeOf34 (k4.segAt 21 2) rfl rfl ?_
   exact RL.nil ⟨_, rfl, Ch.refl, rfl⟩
  refine Each.consS (fun fl O wk hE hN hO ck => ?_) ?_
  ·
   have ah0_0 := ah0_0.ch0 ck
   refine Need.o1 rfl rfl rfl (fun _ h => h) ?_
   refine Need.o1 rfl rfl rfl (fun _ h => h) ?_
   refine rl_lookup1 a1.front.service Service.z rfl rfl ah0_0 rfl kt34 Tryd.underlying77 Tryd.zeroValue51 rfl ?_
   exact RL.nil ⟨_, rfl, Ch.refl, rfl⟩
  refine Each.consP ⟨fun _ O _ wx wy cc hh => by obtain ⟨p5, e, rfl, ck8_0⟩ := hh; exact ⟨p5, e, rfl, ck8_0.ch0 cc⟩, fun O wk hO ck => ?_⟩ ?_
  ·
   refine rl_alloc (Service.enc Service.z) Tryd.zeroValue51 rfl rfl ?_
   intro p51 w52 n53 k54
   have hb59 : ∀ b, (inBlk (PV p51)) b → wk.heap.size ≤ b ∧ b < w52.heap.size := fun b h => ⟨n53.fresh b h, k54.ltp b h⟩
   exact RL.nil ⟨_, (inBlk (PV p51)), rfl, hb59, n53.ch, ⟨p51, rfl, rfl, k54⟩⟩
  trivial
 intro hvO62 OpO62 O62 w60 hO63 c61 hN64
 obtain ⟨hlO62, hBO62⟩ := hN64 rfl
 refine Need.made rfl rfl rfl rfl ?_
 rintro _ ⟨p5, e65, eO66, ck8_0⟩ hh67
 obtain rfl := e65.symm
 have io68 : ∀ b, inBlk (PV p5) b → _ := fun b h => (Eq.mpr (congrFun eO66 b) h)
 have hf69 : ∀ b, inBlk (PV p5) b → w2.heap.size ≤ b := fun b h => (hBO62.2.2.1 _ b (io68 b h)).1
 obtain rfl := hist_eq [(PV p5)] hvO62 hlO62 ⟨hh67, trivial⟩
 have lo70 : ∀ b, inBlk (PV p5) b → w.heap.size ≤ b := fun b h => Nat.le_trans c0.size (hf69 b h)
 have d71 : ∀ b, inBlk (PV p5) b → ¬ inBlk (PV po0) b := disNew hf69 ah0.ltp
 have d72 : ∀ b, inBlk (PV p5) b → ¬ inBlk az0_0 b := disNew hf69 ah0_0.ltp
 have ad73 : ∀ b, b < w2.heap.size → ¬ (un (inBlk (PV po0)) (un (inBlk az0_0) S2)) b → ¬ nb b ∧ ¬ (un (inBlk (PV p5)) (un (inBlk (PV po0)) (un (inBlk az0_0) S2))) b := fun b hb hs => ⟨fun x => x, fun h => un_el h (fun h => Nat.not_le_of_lt hb (hf69 b h)) (fun h => hs h)⟩
 have ah0 := ah0.ch0 hBO62.2.1
 have ah0_0 := ah0_0.ch0 hBO62.2.1
 have gp1n : (G F Bb (un (inBlk (PV p5)) (un (inBlk (PV po0)) (un (inBlk az0_0) S2)))) p1 := ⟨gp1.1, (ad73 _ k4.lt gp1.2).2⟩
 have k4 := k4.ch0 hBO62.2.1
 have gp1 := gp1n
 have c0 := c0.then0 hBO62.2.1
 refine Need.o1 rfl rfl rfl (fun _ h => h) ?_
 refine rl_storeA (vs := (Service.enc ((mget a0.services a1.front.service).getD Service.z))) rfl rfl (all_one rfl) Tryd.sizeOf51 rfl ck8_0 rfl ?_
 intro w75 s77 c76 k78
 have ad79 : ∀ b, b < w60.heap.size → ¬ (un (inBlk (PV p5)) (un (inBlk (PV po0)) (un (inBlk az0_0) S2))) b → ¬ (inBlk (PV p5)) b ∧ ¬ (un (inBlk (PV p5)) (un (inBlk (PV po0)) (un (inBlk az0_0) S2))) b := fun b _ hs => ⟨fun h => hs (.inl h), hs⟩
 have ah0 := ah0.ch c76 ((fun b hb h => (disSym d71) b hb h) _ rfl)
 have ah0_0 := ah0_0.ch c76 ((fun b hb h => (disSym d72) b hb h))
 have k4 := k4.ch c76 (ad79 _ k4.lt gp1.2).1
 have c0 := c0.then c76 (fun i hi h => absurd (lo70 i h) (Nat.not_le_of_lt hi))
 refine RL.nil (thn_n (CW.seq (CW.region ?_)))
 refine rl_fieldAddr rfl fa38_2 rfl ?_
 refine rl_fieldAddr rfl fa36_2 rfl ?_
 refine rl_loadA (cs := (Key.enc a1.front.service)) rfl Tryd.isAgg34 Tryd.sizeOf34 (k4.segAt 21 2) rfl rfl ?_
 refine rl_fieldAddr rfl fa51_0 rfl ?_
 refine rl_storeA (vs := (Key.enc a1.front.service)) rfl rfl (all_one rfl) Tryd.sizeOf34 rfl k78 rfl ?_
 intro w80 s82 c81 k83
 have ad84 : ∀ b, b < w75.heap.size → ¬ (un (inBlk (PV p5)) (un (inBlk (PV po0)) (un (inBlk az0_0) S2))) b → ¬ (inBlk (PV p5)) b ∧ ¬ (un (inBlk (PV p5)) (un (inBlk (PV po0)) (un (inBlk az0_0) S2))) b := fun b _ hs => ⟨fun h => hs (.inl h), hs⟩
 have ah0 := ah0.ch c81 ((fun b hb h => (disSym d71) b hb h) _ rfl)
 have ah0_0 := ah0_0.ch c81 ((fun b hb h => (disSym d72) b hb h))
 have k4 := k4.ch c81 (ad84 _ k4.lt gp1.2).1
 have c0 := c0.then c81 (fun i hi h => absurd (lo70 i h) (Nat.not_le_of_lt hi))
 refine RL.nil (thn_n (CW.seq ?_))
 refine CW.seq (CW.region ?_)
 refine rl_fieldAddr rfl fa38_0 rfl ?_
 refine rl_loadS (v := (Value.int .i64 a1.verdict)) rfl Tryd.isAgg3 (k4.cell rfl) rfl ?_
 refine RL.nil (thn_n (CW.block ?_))
 refine CW.seq (CW.region ?_)
 refine rl_bin rfl rfl B.eql rfl ?_
 refine rl_assign rfl rfl ?_
 refine RL.nil (thn_n ?_)
 refine CW.cond (t := decide (a1.verdict = 2)) rfl (fun q85 => ?_) (fun q85 => ?_)
 ·
  have hS := ifT q85 hS
  refine CW.region ?_
  refine rl_fieldAddr rfl fa51_1 rfl ?_
  refine rl_loadS (v := (Value.int .i64 (((mget a0.services a1.front.service).getD Service.z).begun))) rfl Tryd.isAgg3 (k83.cell rfl) rfl ?_
  refine rl_bin rfl rfl B.add rfl ?_
  refine rl_fieldAddr rfl fa51_1 rfl ?_
  refine rl_storeS (u := (Value.int .i64 (IntKind.i64.wrap ((((mget a0.services a1.front.service).getD Service.z).begun) + 1)))) rfl rfl ⟨rfl, rfl⟩ Tryd.sizeOf3 k83 rfl ?_
  intro w86 s88 c87 k89
  have ah0 := ah0.ch c87 ((fun b hb h => (disSym d71) b hb h) _ rfl)
  have ah0_0 := ah0_0.ch c87 ((fun b hb h => (disSym d72) b hb h))
  have c0 := c0.then c87 (fun i hi h => absurd (lo70 i h) (Nat.not_le_of_lt hi))
  refine RL.nil ?_
  refine inB_n ?_
  refine thn_n ?_
  refine CW.draw 7 [(none, fun fx O uu wx => uu = (PV po0)), (none, fun fx O uu wx => uu = (PV po0)), (none, fun fx O uu wx => uu = (Value.pointer (some ⟨po0, 14, none⟩))), (none, fun fx O uu wx => uu = az0_0), (none, fun fx O uu wx => uu = (PV p5)), (none, fun fx O uu wx => uu = (Value.agg (Key.enc a1.front.service).toArray)), (none, fun fx O uu wx => uu = (Value.agg (Service.enc ({ key := a1.front.service, begun := IntKind.i64.wrap ((((mget a0.services a1.front.service).getD Service.z).begun) + 1), filtered := ((mget a0.services a1.front.service).getD Service.z).filtered, rejected := ((mget a0.services a1.front.service).getD Service.z).rejected, full := ((mget a0.services a1.front.service).getD Service.z).full } : Service)).toArray))] [[], [0], [1], [2], [], [4], []] [3, 5, 6] nb (fun _ h => h.elim) mixed rfl rfl rfl rfl ?_ ?_
  ·
   refine Each.consS (fun fl O wk hE hN hO ck => ?_) ?_
   ·
    refine rl_move rfl rfl ?_
    exact RL.nil ⟨_, rfl, Ch.refl, rfl⟩
   refine Each.consS (fun fl O wk hE hN hO ck => ?_) ?_
   ·
    refine Need.o1 rfl rfl rfl (fun _ h => h) ?_
    refine rl_nilCheck rfl rfl ?_
    exact RL.nil ⟨_, rfl, Ch.refl, rfl⟩
   refine Each.consS (fun fl O wk hE hN hO ck => ?_) ?_
   ·
    refine Need.o1 rfl rfl rfl (fun _ h => h) ?_
    refine rl_fieldAddr rfl fa81_1 rfl ?_
    exact RL.nil ⟨_, rfl, Ch.refl, rfl⟩
   refine Each.consS (fun fl O wk hE hN hO ck => ?_) ?_
   ·
    have ah0 := ah0.ch0 ck
    refine Need.o1 rfl rfl rfl (fun _ h => h) ?_
    refine rl_loadS (v := az0_0) rfl Tryd.isAgg77 (ah0.cell rfl) rfl ?_
    exact RL.nil ⟨_, rfl, Ch.refl, rfl⟩
   refine Each.consS (fun fl O wk hE hN hO ck => ?_) ?_
   ·
    refine rl_fieldAddr rfl fa51_0 rfl ?_
    exact RL.nil ⟨_, rfl, Ch.refl, rfl⟩
   refine Each.consS (fun fl O wk hE hN hO ck => ?_) ?_
   ·
    have k89 := k89.ch0 ck
    refine Need.o1 rfl rfl rfl (fun _ h => h) ?_
    refine rl_loadA (cs := (Key.enc a1.front.service)) rfl Tryd.isAgg34 Tryd.sizeOf34 (k89.segAt 0 2) rfl rfl ?_
    exact RL.nil ⟨_, rfl, Ch.refl, rfl⟩
   refine Each.consS (fun fl O wk hE hN hO ck => ?_) ?_
   ·
    have k89 := k89.ch0 ck
    refine rl_loadA (cs := (Service.enc ({ key := a1.front.service, begun := IntKind.i64.wrap ((((mget a0.services a1.front.service).getD Service.z).begun) + 1), filtered := ((mget a0.services a1.front.service).getD Service.z).filtered, rejected := ((mget a0.services a1.front.service).getD Service.z).rejected, full := ((mget a0.services a1.front.service).getD Service.z).full } : Service))) rfl Tryd.isAgg51 Tryd.sizeOf51 (k89.segAt 0 6) rfl rfl ?_
    exact RL.nil ⟨_, rfl, Ch.refl, rfl⟩
   trivial
  intro hvO101 OpO101 O101 w99 hO102 c100 hN103
  have ah0 := ah0.ch0 c100
  have ah0_0 := ah0_0.ch0 c100
  have c0 := c0.then0 c100
  refine Need.o1 rfl rfl rfl (fun _ h => h) ?_
  refine Need.o1 rfl rfl rfl (fun _ h => h) ?_
  refine Need.o1 rfl rfl rfl (fun _ h => h) ?_
  refine rl_mapUpdate a1.front.service ({ key := a1.front.service, begun := IntKind.i64.wrap ((((mget a0.services a1.front.service).getD Service.z).begun) + 1), filtered := ((mget a0.services a1.front.service).getD Service.z).filtered, rejected := ((mget a0.services a1.front.service).getD Service.z).rejected, full := ((mget a0.services a1.front.service).getD Service.z).full } : Service) rfl rfl rfl ah0_0 rfl rfl kt34 Tryd.underlying77 ?_
  intro w107 c108 h109
  have ah0 := ah0.ch c108 ((fun b hb h => hx0_1 b hb h) _ rfl)
  have c0 := c0.then c108 (fun i hi h => (lin1_0 i h).elim (fun x => x) (fun x => absurd x (Nat.not_le_of_lt hi)))
  refine RL.nil ?_
  obtain rfl := hS
  have crf : Ch nb w107 w107 := Ch.refl
  have ah0 := ah0.ch0 crf
  have h109 := h109.ch0 crf
  have c0 := c0.then0 crf
  exact ⟨[], trivial, ⟨az0_0, rfl, ah0, h109, lin1_0, hx0_1, c0⟩⟩
 have hS := ifF q85 hS
 refine CW.seq (CW.region ?_)
 refine rl_bin rfl rfl B.eql rfl ?_
 refine rl_assign rfl rfl ?_
 refine RL.nil (thn_n ?_)
 refine CW.cond (t := decide (a1.verdict = 4)) rfl (fun q112 => ?_) (fun q112 => ?_)
 ·
  have hS := ifT q112 hS
  refine CW.region ?_
  refine rl_fieldAddr rfl fa51_2 rfl ?_
  refine rl_loadS (v := (Value.int .i64 (((mget a0.services a1.front.service).getD Service.z).filtered))) rfl Tryd.isAgg3 (k83.cell rfl) rfl ?_
  refine rl_bin rfl rfl B.add rfl ?_
  refine rl_fieldAddr rfl fa51_2 rfl ?_
  refine rl_storeS (u := (Value.int .i64 (IntKind.i64.wrap ((((mget a0.services a1.front.service).getD Service.z).filtered) + 1)))) rfl rfl ⟨rfl, rfl⟩ Tryd.sizeOf3 k83 rfl ?_
  intro w113 s115 c114 k116
  have ah0 := ah0.ch c114 ((fun b hb h => (disSym d71) b hb h) _ rfl)
  have ah0_0 := ah0_0.ch c114 ((fun b hb h => (disSym d72) b hb h))
  have c0 := c0.then c114 (fun i hi h => absurd (lo70 i h) (Nat.not_le_of_lt hi))
  refine RL.nil ?_
  refine inB_n ?_
  refine thn_n ?_
  refine CW.draw 7 [(none, fun fx O uu wx => uu = (PV po0)), (none, fun fx O uu wx => uu = (PV po0)), (none, fun fx O uu wx => uu = (Value.pointer (some ⟨po0, 14, none⟩))), (none, fun fx O uu wx => uu = az0_0), (none, fun fx O uu wx => uu = (PV p5)), (none, fun fx O uu wx => uu = (Value.agg (Key.enc a1.front.service).toArray)), (none, fun fx O uu wx => uu = (Value.agg (Service.enc ({ key := a1.front.service, begun := ((mget a0.services a1.front.service).getD Service.z).begun, filtered := IntKind.i64.wrap ((((mget a0.services a1.front.service).getD Service.z).filtered) + 1), rejected := ((mget a0.services a1.front.service).getD Service.z).rejected, full := ((mget a0.services a1.front.service).getD Service.z).full } : Service)).toArray))] [[], [0], [1], [2], [], [4], []] [3, 5, 6] nb (fun _ h => h.elim) mixed rfl rfl rfl rfl ?_ ?_
  ·
   refine Each.consS (fun fl O wk hE hN hO ck => ?_) ?_
   ·
    refine rl_move rfl rfl ?_
    exact RL.nil ⟨_, rfl, Ch.refl, rfl⟩
   refine Each.consS (fun fl O wk hE hN hO ck => ?_) ?_
   ·
    refine Need.o1 rfl rfl rfl (fun _ h => h) ?_
    refine rl_nilCheck rfl rfl ?_
    exact RL.nil ⟨_, rfl, Ch.refl, rfl⟩
   refine Each.consS (fun fl O wk hE hN hO ck => ?_) ?_
   ·
    refine Need.o1 rfl rfl rfl (fun _ h => h) ?_
    refine rl_fieldAddr rfl fa81_1 rfl ?_
    exact RL.nil ⟨_, rfl, Ch.refl, rfl⟩
   refine Each.consS (fun fl O wk hE hN hO ck => ?_) ?_
   ·
    have ah0 := ah0.ch0 ck
    refine Need.o1 rfl rfl rfl (fun _ h => h) ?_
    refine rl_loadS (v := az0_0) rfl Tryd.isAgg77 (ah0.cell rfl) rfl ?_
    exact RL.nil ⟨_, rfl, Ch.refl, rfl⟩
   refine Each.consS (fun fl O wk hE hN hO ck => ?_) ?_
   ·
    refine rl_fieldAddr rfl fa51_0 rfl ?_
    exact RL.nil ⟨_, rfl, Ch.refl, rfl⟩
   refine Each.consS (fun fl O wk hE hN hO ck => ?_) ?_
   ·
    have k116 := k116.ch0 ck
    refine Need.o1 rfl rfl rfl (fun _ h => h) ?_
    refine rl_loadA (cs := (Key.enc a1.front.service)) rfl Tryd.isAgg34 Tryd.sizeOf34 (k116.segAt 0 2) rfl rfl ?_
    exact RL.nil ⟨_, rfl, Ch.refl, rfl⟩
   refine Each.consS (fun fl O wk hE hN hO ck => ?_) ?_
   ·
    have k116 := k116.ch0 ck
    refine rl_loadA (cs := (Service.enc ({ key := a1.front.service, begun := ((mget a0.services a1.front.service).getD Service.z).begun, filtered := IntKind.i64.wrap ((((mget a0.services a1.front.service).getD Service.z).filtered) + 1), rejected := ((mget a0.services a1.front.service).getD Service.z).rejected, full := ((mget a0.services a1.front.service).getD Service.z).full } : Service))) rfl Tryd.isAgg51 Tryd.sizeOf51 (k116.segAt 0 6) rfl rfl ?_
    exact RL.nil ⟨_, rfl, Ch.refl, rfl⟩
   trivial
  intro hvO128 OpO128 O128 w126 hO129 c127 hN130
  have ah0 := ah0.ch0 c127
  have ah0_0 := ah0_0.ch0 c127
  have c0 := c0.then0 c127
  refine Need.o1 rfl rfl rfl (fun _ h => h) ?_
  refine Need.o1 rfl rfl rfl (fun _ h => h) ?_
  refine Need.o1 rfl rfl rfl (fun _ h => h) ?_
  refine rl_mapUpdate a1.front.service ({ key := a1.front.service, begun := ((mget a0.services a1.front.service).getD Service.z).begun, filtered := IntKind.i64.wrap ((((mget a0.services a1.front.service).getD Service.z).filtered) + 1), rejected := ((mget a0.services a1.front.service).getD Service.z).rejected, full := ((mget a0.services a1.front.service).getD Service.z).full } : Service) rfl rfl rfl ah0_0 rfl rfl kt34 Tryd.underlying77 ?_
  intro w134 c135 h136
  have ah0 := ah0.ch c135 ((fun b hb h => hx0_1 b hb h) _ rfl)
  have c0 := c0.then c135 (fun i hi h => (lin1_0 i h).elim (fun x => x) (fun x => absurd x (Nat.not_le_of_lt hi)))
  refine RL.nil ?_
  obtain rfl := hS
  have crf : Ch nb w134 w134 := Ch.refl
  have ah0 := ah0.ch0 crf
  have h136 := h136.ch0 crf
  have c0 := c0.then0 crf
  exact ⟨[], trivial, ⟨az0_0, rfl, ah0, h136, lin1_0, hx0_1, c0⟩⟩
 have hS := ifF q112 hS
 refine CW.seq (CW.region ?_)
 refine rl_bin rfl rfl B.eql rfl ?_
 refine rl_assign rfl rfl ?_
 refine RL.nil (thn_n ?_)
 refine CW.cond (t := decide (a1.verdict = 5)) rfl (fun q139 => ?_) (fun q139 => ?_)
 ·
  have hS := ifT q139 hS
  refine CW.region ?_
  refine rl_fieldAddr rfl fa51_3 rfl ?_
  refine rl_loadS (v := (Value.int .i64 (((mget a0.services a1.front.service).getD Service.z).rejected))) rfl Tryd.isAgg3 (k83.cell rfl) rfl ?_
  refine rl_bin rfl rfl B.add rfl ?_
  refine rl_fieldAddr rfl fa51_3 rfl ?_
  refine rl_storeS (u := (Value.int .i64 (IntKind.i64.wrap ((((mget a0.services a1.front.service).getD Service.z).rejected) + 1)))) rfl rfl ⟨rfl, rfl⟩ Tryd.sizeOf3 k83 rfl ?_
  intro w140 s142 c141 k143
  have ah0 := ah0.ch c141 ((fun b hb h => (disSym d71) b hb h) _ rfl)
  have ah0_0 := ah0_0.ch c141 ((fun b hb h => (disSym d72) b hb h))
  have c0 := c0.then c141 (fun i hi h => absurd (lo70 i h) (Nat.not_le_of_lt hi))
  refine RL.nil ?_
  refine inB_n ?_
  refine thn_n ?_
  refine CW.draw 7 [(none, fun fx O uu wx => uu = (PV po0)), (none, fun fx O uu wx => uu = (PV po0)), (none, fun fx O uu wx => uu = (Value.pointer (some ⟨po0, 14, none⟩))), (none, fun fx O uu wx => uu = az0_0), (none, fun fx O uu wx => uu = (PV p5)), (none, fun fx O uu wx => uu = (Value.agg (Key.enc a1.front.service).toArray)), (none, fun fx O uu wx => uu = (Value.agg (Service.enc ({ key := a1.front.service, begun := ((mget a0.services a1.front.service).getD Service.z).begun, filtered := ((mget a0.services a1.front.service).getD Service.z).filtered, rejected := IntKind.i64.wrap ((((mget a0.services a1.front.service).getD Service.z).rejected) + 1), full := ((mget a0.services a1.front.service).getD Service.z).full } : Service)).toArray))] [[], [0], [1], [2], [], [4], []] [3, 5, 6] nb (fun _ h => h.elim) mixed rfl rfl rfl rfl ?_ ?_
  ·
   refine Each.consS (fun fl O wk hE hN hO ck => ?_) ?_
   ·
    refine rl_move rfl rfl ?_
    exact RL.nil ⟨_, rfl, Ch.refl, rfl⟩
   refine Each.consS (fun fl O wk hE hN hO ck => ?_) ?_
   ·
    refine Need.o1 rfl rfl rfl (fun _ h => h) ?_
    refine rl_nilCheck rfl rfl ?_
    exact RL.nil ⟨_, rfl, Ch.refl, rfl⟩
   refine Each.consS (fun fl O wk hE hN hO ck => ?_) ?_
   ·
    refine Need.o1 rfl rfl rfl (fun _ h => h) ?_
    refine rl_fieldAddr rfl fa81_1 rfl ?_
    exact RL.nil ⟨_, rfl, Ch.refl, rfl⟩
   refine Each.consS (fun fl O wk hE hN hO ck => ?_) ?_
   ·
    have ah0 := ah0.ch0 ck
    refine Need.o1 rfl rfl rfl (fun _ h => h) ?_
    refine rl_loadS (v := az0_0) rfl Tryd.isAgg77 (ah0.cell rfl) rfl ?_
    exact RL.nil ⟨_, rfl, Ch.refl, rfl⟩
   refine Each.consS (fun fl O wk hE hN hO ck => ?_) ?_
   ·
    refine rl_fieldAddr rfl fa51_0 rfl ?_
    exact RL.nil ⟨_, rfl, Ch.refl, rfl⟩
   refine Each.consS (fun fl O wk hE hN hO ck => ?_) ?_
   ·
    have k143 := k143.ch0 ck
    refine Need.o1 rfl rfl rfl (fun _ h => h) ?_
    refine rl_loadA (cs := (Key.enc a1.front.service)) rfl Tryd.isAgg34 Tryd.sizeOf34 (k143.segAt 0 2) rfl rfl ?_
    exact RL.nil ⟨_, rfl, Ch.refl, rfl⟩
   refine Each.consS (fun fl O wk hE hN hO ck => ?_) ?_
   ·
    have k143 := k143.ch0 ck
    refine rl_loadA (cs := (Service.enc ({ key := a1.front.service, begun := ((mget a0.services a1.front.service).getD Service.z).begun, filtered := ((mget a0.services a1.front.service).getD Service.z).filtered, rejected := IntKind.i64.wrap ((((mget a0.services a1.front.service).getD Service.z).rejected) + 1), full := ((mget a0.services a1.front.service).getD Service.z).full } : Service))) rfl Tryd.isAgg51 Tryd.sizeOf51 (k143.segAt 0 6) rfl rfl ?_
    exact RL.nil ⟨_, rfl, Ch.refl, rfl⟩
   trivial
  intro hvO155 OpO155 O155 w153 hO156 c154 hN157
  have ah0 := ah0.ch0 c154
  have ah0_0 := ah0_0.ch0 c154
  have c0 := c0.then0 c154
  refine Need.o1 rfl rfl rfl (fun _ h => h) ?_
  refine Need.o1 rfl rfl rfl (fun _ h => h) ?_
  refine Need.o1 rfl rfl rfl (fun _ h => h) ?_
  refine rl_mapUpdate a1.front.service ({ key := a1.front.service, begun := ((mget a0.services a1.front.service).getD Service.z).begun, filtered := ((mget a0.services a1.front.service).getD Service.z).filtered, rejected := IntKind.i64.wrap ((((mget a0.services a1.front.service).getD Service.z).rejected) + 1), full := ((mget a0.services a1.front.service).getD Service.z).full } : Service) rfl rfl rfl ah0_0 rfl rfl kt34 Tryd.underlying77 ?_
  intro w161 c162 h163
  have ah0 := ah0.ch c162 ((fun b hb h => hx0_1 b hb h) _ rfl)
  have c0 := c0.then c162 (fun i hi h => (lin1_0 i h).elim (fun x => x) (fun x => absurd x (Nat.not_le_of_lt hi)))
  refine RL.nil ?_
  obtain rfl := hS
  have crf : Ch nb w161 w161 := Ch.refl
  have ah0 := ah0.ch0 crf
  have h163 := h163.ch0 crf
  have c0 := c0.then0 crf
  exact ⟨[], trivial, ⟨az0_0, rfl, ah0, h163, lin1_0, hx0_1, c0⟩⟩
 have hS := ifF q139 hS
 refine CW.seq (CW.region ?_)
 refine rl_bin rfl rfl B.eql rfl ?_
 refine rl_assign rfl rfl ?_
 refine RL.nil (thn_n ?_)
 refine CW.cond (t := decide (a1.verdict = 6)) rfl (fun q166 => ?_) (fun q166 => ?_)
 ·
  have hS := ifT q166 hS
  refine CW.region ?_
  refine rl_fieldAddr rfl fa51_4 rfl ?_
  refine rl_loadS (v := (Value.int .i64 (((mget a0.services a1.front.service).getD Service.z).full))) rfl Tryd.isAgg3 (k83.cell rfl) rfl ?_
  refine rl_bin rfl rfl B.add rfl ?_
  refine rl_fieldAddr rfl fa51_4 rfl ?_
  refine rl_storeS (u := (Value.int .i64 (IntKind.i64.wrap ((((mget a0.services a1.front.service).getD Service.z).full) + 1)))) rfl rfl ⟨rfl, rfl⟩ Tryd.sizeOf3 k83 rfl ?_
  intro w167 s169 c168 k170
  have ah0 := ah0.ch c168 ((fun b hb h => (disSym d71) b hb h) _ rfl)
  have ah0_0 := ah0_0.ch c168 ((fun b hb h => (disSym d72) b hb h))
  have c0 := c0.then c168 (fun i hi h => absurd (lo70 i h) (Nat.not_le_of_lt hi))
  refine RL.nil ?_
  refine inB_n ?_
  refine thn_n ?_
  refine CW.draw 7 [(none, fun fx O uu wx => uu = (PV po0)), (none, fun fx O uu wx => uu = (PV po0)), (none, fun fx O uu wx => uu = (Value.pointer (some ⟨po0, 14, none⟩))), (none, fun fx O uu wx => uu = az0_0), (none, fun fx O uu wx => uu = (PV p5)), (none, fun fx O uu wx => uu = (Value.agg (Key.enc a1.front.service).toArray)), (none, fun fx O uu wx => uu = (Value.agg (Service.enc ({ key := a1.front.service, begun := ((mget a0.services a1.front.service).getD Service.z).begun, filtered := ((mget a0.services a1.front.service).getD Service.z).filtered, rejected := ((mget a0.services a1.front.service).getD Service.z).rejected, full := IntKind.i64.wrap ((((mget a0.services a1.front.service).getD Service.z).full) + 1) } : Service)).toArray))] [[], [0], [1], [2], [], [4], []] [3, 5, 6] nb (fun _ h => h.elim) mixed rfl rfl rfl rfl ?_ ?_
  ·
   refine Each.consS (fun fl O wk hE hN hO ck => ?_) ?_
   ·
    refine rl_move rfl rfl ?_
    exact RL.nil ⟨_, rfl, Ch.refl, rfl⟩
   refine Each.consS (fun fl O wk hE hN hO ck => ?_) ?_
   ·
    refine Need.o1 rfl rfl rfl (fun _ h => h) ?_
    refine rl_nilCheck rfl rfl ?_
    exact RL.nil ⟨_, rfl, Ch.refl, rfl⟩
   refine Each.consS (fun fl O wk hE hN hO ck => ?_) ?_
   ·
    refine Need.o1 rfl rfl rfl (fun _ h => h) ?_
    refine rl_fieldAddr rfl fa81_1 rfl ?_
    exact RL.nil ⟨_, rfl, Ch.refl, rfl⟩
   refine Each.consS (fun fl O wk hE hN hO ck => ?_) ?_
   ·
    have ah0 := ah0.ch0 ck
    refine Need.o1 rfl rfl rfl (fun _ h => h) ?_
    refine rl_loadS (v := az0_0) rfl Tryd.isAgg77 (ah0.cell rfl) rfl ?_
    exact RL.nil ⟨_, rfl, Ch.refl, rfl⟩
   refine Each.consS (fun fl O wk hE hN hO ck => ?_) ?_
   ·
    refine rl_fieldAddr rfl fa51_0 rfl ?_
    exact RL.nil ⟨_, rfl, Ch.refl, rfl⟩
   refine Each.consS (fun fl O wk hE hN hO ck => ?_) ?_
   ·
    have k170 := k170.ch0 ck
    refine Need.o1 rfl rfl rfl (fun _ h => h) ?_
    refine rl_loadA (cs := (Key.enc a1.front.service)) rfl Tryd.isAgg34 Tryd.sizeOf34 (k170.segAt 0 2) rfl rfl ?_
    exact RL.nil ⟨_, rfl, Ch.refl, rfl⟩
   refine Each.consS (fun fl O wk hE hN hO ck => ?_) ?_
   ·
    have k170 := k170.ch0 ck
    refine rl_loadA (cs := (Service.enc ({ key := a1.front.service, begun := ((mget a0.services a1.front.service).getD Service.z).begun, filtered := ((mget a0.services a1.front.service).getD Service.z).filtered, rejected := ((mget a0.services a1.front.service).getD Service.z).rejected, full := IntKind.i64.wrap ((((mget a0.services a1.front.service).getD Service.z).full) + 1) } : Service))) rfl Tryd.isAgg51 Tryd.sizeOf51 (k170.segAt 0 6) rfl rfl ?_
    exact RL.nil ⟨_, rfl, Ch.refl, rfl⟩
   trivial
  intro hvO182 OpO182 O182 w180 hO183 c181 hN184
  have ah0 := ah0.ch0 c181
  have ah0_0 := ah0_0.ch0 c181
  have c0 := c0.then0 c181
  refine Need.o1 rfl rfl rfl (fun _ h => h) ?_
  refine Need.o1 rfl rfl rfl (fun _ h => h) ?_
  refine Need.o1 rfl rfl rfl (fun _ h => h) ?_
  refine rl_mapUpdate a1.front.service ({ key := a1.front.service, begun := ((mget a0.services a1.front.service).getD Service.z).begun, filtered := ((mget a0.services a1.front.service).getD Service.z).filtered, rejected := ((mget a0.services a1.front.service).getD Service.z).rejected, full := IntKind.i64.wrap ((((mget a0.services a1.front.service).getD Service.z).full) + 1) } : Service) rfl rfl rfl ah0_0 rfl rfl kt34 Tryd.underlying77 ?_
  intro w188 c189 h190
  have ah0 := ah0.ch c189 ((fun b hb h => hx0_1 b hb h) _ rfl)
  have c0 := c0.then c189 (fun i hi h => (lin1_0 i h).elim (fun x => x) (fun x => absurd x (Nat.not_le_of_lt hi)))
  refine RL.nil ?_
  obtain rfl := hS
  have crf : Ch nb w188 w188 := Ch.refl
  have ah0 := ah0.ch0 crf
  have h190 := h190.ch0 crf
  have c0 := c0.then0 crf
  exact ⟨[], trivial, ⟨az0_0, rfl, ah0, h190, lin1_0, hx0_1, c0⟩⟩
 have hS := ifF q166 hS
 refine CW.ret ?_
 refine inB_ret ?_
 refine thn_ret ?_
 obtain rfl := hS
 have crf : Ch nb w80 w80 := Ch.refl
 have ah0 := ah0.ch0 crf
 have ah0_0 := ah0_0.ch0 crf
 have c0 := c0.then0 crf
 exact ⟨[], trivial, ⟨az0_0, rfl, ah0, ah0_0, lin1_0, hx0_1, c0⟩⟩
theorem ctr9 (F : Nat → Prop) (w : World) (Bb : Nat) (S2 : Nat → Prop) (hB : Bb ≤ w.heap.size) (h2 : ∀ b, S2 b → b < w.heap.size) (po0 : Nat) (az0_0 : Value) (hd2 : ∀ b, (un (inBlk (PV po0)) (inBlk az0_0)) b → ¬ S2 b) (hx0_1 : ∀ b, inBlk (PV po0) b → ¬ inBlk az0_0 b) (a0 : Stats) (ah0 : Blk w po0 81 (Stats.c a0 az0_0)) (ah0_0 : Mp (fun x => Value.agg (Key.enc x).toArray) (fun x => Value.agg (Service.enc x).toArray) w a0.services az0_0) (a1 : Out) (az1_0 : Value) (ah1_0 : slRep (kInt .u8) (G F Bb (un (inBlk (PV po0)) (un (inBlk az0_0) S2))) w a1.packet az1_0) (a2 : Int) (a3 : Int) (ge : Nat → Value) (gl : (kGL 156 18).rep (G F Bb (un (inBlk (PV po0)) (un (inBlk az0_0) S2))) w ge [Value.bool true]) (r : ((Option Nat) × Stats)) (hs : F9_Tell a0 a1 a2 a3 = some r) :
    Ret Tryd.prog 9 #[(PV po0), (Value.agg (Out.c a1 az1_0).toArray), (Value.int .i64 a2), (Value.int .i64 a3)] w fun v w' => ∃ (nz0_0 : Value), v = (errV ge r.1) ∧ Blk w' po0 81 (Stats.c r.2 nz0_0) ∧ Mp (fun x => Value.agg (Key.enc x).toArray) (fun x => Value.agg (Service.enc x).toArray) w' r.2.services nz0_0 ∧ (∀ b, inBlk nz0_0 b → (un (inBlk (PV po0)) (inBlk az0_0)) b ∨ w.heap.size ≤ b) ∧ (∀ b, inBlk (PV po0) b → ¬ inBlk nz0_0 b) ∧ Ch (un (inBlk (PV po0)) (inBlk az0_0)) w w' := by
 have hS := hs
 have c0 : Ch (un (inBlk (PV po0)) (inBlk az0_0)) w w := Ch.refl
 have lin0_0 : ∀ b, inBlk (PV po0) b → (un (inBlk (PV po0)) (inBlk az0_0)) b ∨ w.heap.size ≤ b := fun b h => .inl (.inl h)
 have lin1_0 : ∀ b, inBlk az0_0 b → (un (inBlk (PV po0)) (inBlk az0_0)) b ∨ w.heap.size ≤ b := fun b h => .inl (.inr h)
 refine Ret.of (n := 92) (args := [_, _, _, _]) (rs := [.tmp 8]) Tryd.func9 rfl rfl rfl rfl ?_
 refine CW.seq (CW.region ?_)
 refine rl_boxA (cs := (Out.c a1 az1_0)) rfl rfl ?_
 intro p1 w2 n3 k4
 have gp1 : (G F Bb (un (inBlk (PV po0)) (un (inBlk az0_0) S2))) p1 := ⟨.inr (by rw [n3.eq]; exact (Nat.le_trans hB c0.size)), fun h => absurd ((un_lt ah0.ltp (un_lt ah0_0.ltp (fun b h => Nat.lt_of_lt_of_le (h2 b h) c0.size))) _ h) (by rw [n3.eq]; exact Nat.lt_irrefl _)⟩
 have ah0 := ah0.ch0 n3.ch
 have ah0_0 := ah0_0.ch0 n3.ch
 have ah1_0 := slRep.ch kInt_pos ah1_0 n3.ch
 have gl := Kd.ch gl n3.ch
 have c0 := c0.then0 n3.ch
 refine rl_assign rfl rfl ?_
 refine RL.nil (thn_n (CW.seq ?_))
 refine CW.block ?_
 refine CW.seq (CW.region ?_)
 refine rl_fieldAddr rfl fa38_0 rfl ?_
 refine rl_loadS (v := (Value.int .i64 a1.verdict)) rfl Tryd.isAgg3 (k4.cell rfl) rfl ?_
 refine rl_bin rfl rfl B.lss rfl ?_
 refine rl_move rfl rfl ?_
 obtain ⟨b7, hb8⟩ : ∃ v, ((decide (a1.verdict < 0)) || (decide (a1.verdict ≥ 7))) = v := ⟨_, rfl⟩
 have hS := ltS hb8 hS
 refine RL.join 4 18 (.bool b7) (fun w' => Ch nb w2 w') ?_ ?_
 · rcases Bool.eq_false_or_eq_true (decide (a1.verdict < 0)) with hg6 | hg6
   ·
    have hs5 := or_t hg6 hb8
    have cs : Ch nb w2 w2 := Ch.refl
    refine RL.no rfl rfl rfl hg6 rfl rfl ?_
    refine RL.no rfl rfl rfl hg6 rfl rfl ?_
    refine RL.no rfl rfl rfl hg6 rfl rfl ?_
    refine rl_pickT rfl hg6 rfl rfl ?_
    exact RL.nil ⟨Ext.bothEq (congrArg Value.bool hs5) (Ext.skip rfl (Ext.skip rfl (Ext.skip rfl (Ext.rfl')))), cs⟩
   ·
    have hs5 := or_f hg6 hb8
    have cs : Ch nb w2 w2 := Ch.refl
    refine RL.yes rfl rfl rfl hg6 ?_
    refine rl_fieldAddr rfl fa38_0 rfl ?_
    refine RL.yes rfl rfl rfl hg6 ?_
    refine rl_loadS (v := (Value.int .i64 a1.verdict)) rfl Tryd.isAgg3 (k4.cell rfl) rfl ?_
    refine RL.yes rfl rfl rfl hg6 ?_
    refine rl_bin rfl rfl B.geq rfl ?_
    refine rl_pickF rfl hg6 rfl rfl ?_
    exact RL.nil ⟨Ext.bothEq (congrArg Value.bool hs5) (Ext.skip rfl (Ext.skip rfl (Ext.skip rfl (Ext.rfl')))), cs⟩
 intro w9 c10
 have ah0 := ah0.ch0 c10
 have ah0_0 := ah0_0.ch0 c10
 have ah1_0 := slRep.ch kInt_pos ah1_0 c10
 have gl := Kd.ch gl c10
 have k4 := k4.ch0 c10
 have c0 := c0.then0 c10
 refine rl_move rfl rfl ?_
 obtain ⟨b13, hb14⟩ : ∃ v, (b7 || (decide (a2 < 0))) = v := ⟨_, rfl⟩
 have hS := ltS hb14 hS
 refine RL.join 3 22 (.bool b13) (fun w' => Ch nb w9 w') ?_ ?_
 · rcases Bool.eq_false_or_eq_true b7 with hg12 | hg12
   ·
    have hs11 := or_t hg12 hb14
    have cs : Ch nb w9 w9 := Ch.refl
    refine RL.no rfl rfl rfl hg12 rfl rfl ?_
    refine RL.no rfl rfl rfl hg12 rfl rfl ?_
    refine rl_pickT rfl hg12 rfl rfl ?_
    exact RL.nil ⟨Ext.bothEq (congrArg Value.bool hs11) (Ext.skip rfl (Ext.skip rfl (Ext.rfl'))), cs⟩
   ·
    have hs11 := or_f hg12 hb14
    have cs : Ch nb w9 w9 := Ch.refl
    refine RL.yes rfl rfl rfl hg12 ?_
    refine rl_move rfl rfl ?_
    refine RL.yes rfl rfl rfl hg12 ?_
    refine rl_bin rfl rfl B.lss rfl ?_
    refine rl_pickF rfl hg12 rfl rfl ?_
    exact RL.nil ⟨Ext.bothEq (congrArg Value.bool hs11) (Ext.skip rfl (Ext.skip rfl (Ext.rfl'))), cs⟩
 intro w15 c16
 have ah0 := ah0.ch0 c16
 have ah0_0 := ah0_0.ch0 c16
 have ah1_0 := slRep.ch kInt_pos ah1_0 c16
 have gl := Kd.ch gl c16
 have k4 := k4.ch0 c16
 have c0 := c0.then0 c16
 refine rl_move rfl rfl ?_
 obtain ⟨b19, hb20⟩ : ∃ v, (b13 || (decide (a2 > 300))) = v := ⟨_, rfl⟩
 have hS := ltS hb20 hS
 refine RL.join 3 26 (.bool b19) (fun w' => Ch nb w15 w') ?_ ?_
 · rcases Bool.eq_false_or_eq_true b13 with hg18 | hg18
   ·
    have hs17 := or_t hg18 hb20
    have cs : Ch nb w15 w15 := Ch.refl
    refine RL.no rfl rfl rfl hg18 rfl rfl ?_
    refine RL.no rfl rfl rfl hg18 rfl rfl ?_
    refine rl_pickT rfl hg18 rfl rfl ?_
    exact RL.nil ⟨Ext.bothEq (congrArg Value.bool hs17) (Ext.skip rfl (Ext.skip rfl (Ext.rfl'))), cs⟩
   ·
    have hs17 := or_f hg18 hb20
    have cs : Ch nb w15 w15 := Ch.refl
    refine RL.yes rfl rfl rfl hg18 ?_
    refine rl_move rfl rfl ?_
    refine RL.yes rfl rfl rfl hg18 ?_
    refine rl_bin rfl rfl B.gtr rfl ?_
    refine rl_pickF rfl hg18 rfl rfl ?_
    exact RL.nil ⟨Ext.bothEq (congrArg Value.bool hs17) (Ext.skip rfl (Ext.skip rfl (Ext.rfl'))), cs⟩
 intro w21 c22
 have ah0 := ah0.ch0 c22
 have ah0_0 := ah0_0.ch0 c22
 have ah1_0 := slRep.ch kInt_pos ah1_0 c22
 have gl := Kd.ch gl c22
 have k4 := k4.ch0 c22
 have c0 := c0.then0 c22
 refine rl_move rfl rfl ?_
 obtain ⟨b25, hb26⟩ : ∃ v, (b19 || (lt (F24_ticked a3) fun y27 => !y27)) = v := ⟨_, rfl⟩
 have hS := ltS hb26 hS
 refine RL.join 4 31 (.bool b25) (fun w' => Ch nb w21 w') ?_ ?_
 · rcases Bool.eq_false_or_eq_true b19 with hg24 | hg24
   ·
    have hs23 := or_t hg24 hb26
    have cs : Ch nb w21 w21 := Ch.refl
    refine RL.no rfl rfl rfl hg24 rfl rfl ?_
    refine RL.no rfl rfl rfl hg24 rfl rfl ?_
    refine RL.no rfl rfl rfl hg24 rfl rfl ?_
    refine rl_pickT rfl hg24 rfl rfl ?_
    exact RL.nil ⟨Ext.bothEq (congrArg Value.bool hs23) (Ext.skip rfl (Ext.skip rfl (Ext.skip rfl (Ext.rfl')))), cs⟩
   ·
    have hs23 := or_f hg24 hb26
    have cs : Ch nb w21 w21 := Ch.refl
    refine RL.yes rfl rfl rfl hg24 ?_
    refine rl_move rfl rfl ?_
    refine RL.yes rfl rfl rfl hg24 ?_
    obtain ⟨y30, hy31⟩ : ∃ y, F24_ticked a3 = y := ⟨_, rfl⟩
    have hs23 := ltS hy31 hs23
    refine rl_callF rfl en24 rfl (ctr24 (G F Bb (un (inBlk (PV po0)) (un (inBlk az0_0) S2))) w21 a3 y30 hy31) ?_
    rintro _ w28 ⟨rfl, c29⟩
    refine RL.yes rfl rfl rfl hg24 ?_
    refine rl_not rfl rfl ?_
    refine rl_pickF rfl hg24 rfl rfl ?_
    have cs := cs.then0 c29
    exact RL.nil ⟨Ext.bothEq (congrArg Value.bool hs23) (Ext.skip rfl (Ext.skip rfl (Ext.skip rfl (Ext.rfl')))), cs⟩
 intro w27 c32
 have ah0 := ah0.ch0 c32
 have ah0_0 := ah0_0.ch0 c32
 have ah1_0 := slRep.ch kInt_pos ah1_0 c32
 have gl := Kd.ch gl c32
 have k4 := k4.ch0 c32
 have c0 := c0.then0 c32
 refine rl_assign rfl rfl ?_
 refine RL.nil (thn_n ?_)
 refine CW.cond (t := b25) rfl (fun q33 => ?_) (fun q33 => ?_)
 ·
  have hS := ifT q33 hS
  refine CW.seq (CW.region ?_)
  refine rl_loadS (v := errV ge (some 0)) rfl Tryd.isAgg45 (gl_cell gl 0 rfl) rfl ?_
  refine rl_assign rfl rfl ?_
  refine RL.nil (thn_n (CW.ret ?_))
  refine inB_ret ?_
  refine thn_ret ?_
  obtain rfl := Option.some.inj hS
  exact ret1 rfl ⟨az0_0, rfl, ah0, ah0_0, lin1_0, hx0_1, c0⟩
 have hS := ifF q33 hS
 refine CW.seq (CW.region ?_)
 refine rl_move rfl rfl ?_
 refine rl_bin rfl rfl (B.quo rfl) rfl ?_
 refine rl_move rfl rfl ?_
 refine rl_nilCheck rfl rfl ?_
 refine rl_fieldAddr rfl fa81_3 rfl ?_
 refine rl_loadS (v := (Value.int .i64 a0.last)) rfl Tryd.isAgg3 (ah0.cell rfl) rfl ?_
 refine rl_bin rfl rfl B.lss rfl ?_
 refine rl_assign rfl rfl ?_
 refine RL.nil (thn_n ?_)
 refine CW.cond (t := decide ((IntKind.i64.wrap (a3.tdiv 10)) < a0.last)) rfl (fun q34 => ?_) (fun q34 => ?_)
 ·
  have hS := ifT q34 hS
  refine CW.seq (CW.region ?_)
  refine rl_loadS (v := errV ge (some 1)) rfl Tryd.isAgg45 (gl_cell gl 1 rfl) rfl ?_
  refine rl_assign rfl rfl ?_
  refine RL.nil (thn_n (CW.ret ?_))
  refine inB_ret ?_
  refine thn_ret ?_
  obtain rfl := Option.some.inj hS
  exact ret1 rfl ⟨az0_0, rfl, ah0, ah0_0, lin1_0, hx0_1, c0⟩
 have hS := ifF q34 hS
 refine CW.seq (CW.region ?_)
 refine rl_move rfl rfl ?_
 have hd35 : ∀ b, (un (inBlk (PV po0)) (inBlk az0_0)) b → ¬ S2 b := fun b h => un_el h (fun h => (fun b hb => linNot lin0_0 hd2 h2 b hb) b h) (fun h => (fun b hb => linNot lin1_0 hd2 h2 b hb) b h)
 obtain ⟨y39, hy40, hS⟩ := bindS hS
 refine rl_callF rfl en8 rfl (ctr8 F w27 Bb S2 (Nat.le_trans hB c0.size) (fun b h => Nat.lt_of_lt_of_le (h2 b h) c0.size) po0 az0_0 hd35 hx0_1 a0 ah0 ah0_0 y39 hy40) ?_
 rintro _ w37 ⟨rfl, c38⟩
 have ah0 := ah0.ch0 c38
 have ah0_0 := ah0_0.ch0 c38
 have ah1_0 := slRep.ch kInt_pos ah1_0 c38
 have gl := Kd.ch gl c38
 have k4 := k4.ch0 c38
 have c0 := c0.then0 c38
 refine rl_fieldS (cs := (Count.enc y39)) (v := (Value.int .i64 y39.packets)) rfl Tryd.underlying42 rfl rfl rfl Tryd.isAgg3 rfl rfl ?_
 refine rl_bin rfl rfl B.geq rfl ?_
 refine rl_assign rfl rfl ?_
 refine RL.nil (thn_n ?_)
 refine CW.cond (t := decide (y39.packets ≥ 1099511627776)) rfl (fun q41 => ?_) (fun q41 => ?_)
 ·
  have hS := ifT q41 hS
  refine CW.seq (CW.region ?_)
  refine rl_loadS (v := errV ge (some 2)) rfl Tryd.isAgg45 (gl_cell gl 2 rfl) rfl ?_
  refine rl_assign rfl rfl ?_
  refine RL.nil (thn_n (CW.ret ?_))
  refine inB_ret ?_
  refine thn_ret ?_
  obtain rfl := Option.some.inj hS
  exact ret1 rfl ⟨az0_0, rfl, ah0, ah0_0, lin1_0, hx0_1, c0⟩
 have hS := ifF q41 hS
 refine CW.skip ?_
 refine inB_n ?_
 refine thn_n (CW.seq (CW.region ?_))
 refine rl_move rfl rfl ?_
 refine rl_move rfl rfl ?_
 refine rl_bin rfl rfl (B.quo rfl) rfl ?_
 have hd42 : ∀ b, (un (inBlk (PV po0)) (inBlk az0_0)) b → ¬ S2 b := fun b h => un_el h (fun h => (fun b hb => linNot lin0_0 hd2 h2 b hb) b h) (fun h => (fun b hb => linNot lin1_0 hd2 h2 b hb) b h)
 obtain ⟨y46, hy47, hS⟩ := bindS hS
 refine rl_callF rfl en25 rfl (ctr25 F w37 Bb S2 (Nat.le_trans hB c0.size) (fun b h => Nat.lt_of_lt_of_le (h2 b h) c0.size) po0 az0_0 hd42 hx0_1 a0 ah0 ah0_0 (IntKind.i64.wrap (a3.tdiv 10)) y46 hy47) ?_
 rintro _ w44 ⟨z48, rfl, h49, h50, hf51, d52, c45⟩
 have lin53 : ∀ b, inBlk z48 b → (un (inBlk (PV po0)) (inBlk az0_0)) b ∨ w.heap.size ≤ b := fun b h => (hf51 b h).elim (fun h => un_el h (fun h => lin0_0 b h) (fun h => lin1_0 b h)) (fun h => .inr (Nat.le_trans c0.size h))
 have ha55 : ∀ b, b < w37.heap.size → ¬ (un (inBlk (PV po0)) (un (inBlk az0_0) S2)) b → ¬ (un (inBlk (PV po0)) (inBlk az0_0)) b ∧ ¬ (un (inBlk (PV po0)) (un (inBlk z48) S2)) b := fun b hb hs => ⟨fun h => un_el h (fun h => hs (.inl h)) (fun h => hs (.inr (.inl h))), fun h => un_el h (fun h => hs (.inl h)) (fun h => un_el h (fun h => (hf51 b h).elim (fun h => un_el h (fun h => hs (.inl h)) (fun h => hs (.inr (.inl h)))) (fun h => Nat.not_le_of_lt hb h)) (fun h => hs (.inr (.inr h))))⟩
 have ah1_0 := slRep.st kInt_pos ah1_0 c45 ha55
 have gp1n : (G F Bb (un (inBlk (PV po0)) (un (inBlk z48) S2))) p1 := ⟨gp1.1, (ha55 _ k4.lt gp1.2).2⟩
 have k4 := k4.ch c45 (ha55 _ k4.lt gp1.2).1
 have gp1 := gp1n
 have c0 := c0.then c45 (fun i hi h => un_el h (fun h => (lin0_0 i h).elim (fun x => x) (fun x => absurd x (Nat.not_le_of_lt hi))) (fun h => (lin1_0 i h).elim (fun x => x) (fun x => absurd x (Nat.not_le_of_lt hi))))
 refine RL.nil (thn_n (CW.seq ?_))
 obtain ⟨y56, hy57, hS⟩ := bindS hS
 refine CW.draw 11 [(none, fun fx O uu wx => uu = (PV po0)), (none, fun fx O uu wx => uu = (Value.int .i64 a3)), (none, fun fx O uu wx => uu = (Value.int .i64 (IntKind.i64.wrap (a3.tdiv 10)))), (none, fun fx O uu wx => uu = (Value.int .i64 ((IntKind.i64.wrap (a3.tdiv 10)).tmod 16))), (none, fun fx O uu wx => uu = (PV po0)), (none, fun fx O uu wx => uu = (Value.pointer (some ⟨po0, 15, none⟩))), (none, fun fx O uu wx => uu = (Value.pointer (some ⟨po0, 15 + ((IntKind.i64.wrap (a3.tdiv 10)).tmod 16).toNat * 1, none⟩))), (none, fun fx O uu wx => uu = (Value.int .i64 y56)), (none, fun fx O uu wx => uu = (Value.int .i64 (IntKind.i64.wrap (y56 + 1)))), (none, fun fx O uu wx => uu = (PV po0)), (none, fun fx O uu wx => uu = (Value.pointer (some ⟨po0, 15, none⟩)))] [[], [], [1], [2], [0], [4], [3, 5], [6], [7], [0], [9]] [3, 8, 10] nb (fun _ h => h.elim) mixed rfl rfl rfl rfl ?_ ?_
 ·
  refine Each.consS (fun fl O wk hE hN hO ck => ?_) ?_
  ·
   refine rl_move rfl rfl ?_
   exact RL.nil ⟨_, rfl, Ch.refl, rfl⟩
  refine Each.consS (fun fl O wk hE hN hO ck => ?_) ?_
  ·
   refine rl_move rfl rfl ?_
   exact RL.nil ⟨_, rfl, Ch.refl, rfl⟩
  refine Each.consS (fun fl O wk hE hN hO ck => ?_) ?_
  ·
   refine Need.o1 rfl rfl rfl (fun _ h => h) ?_
   refine rl_bin rfl rfl (B.quo rfl) rfl ?_
   exact RL.nil ⟨_, rfl, Ch.refl, rfl⟩
  refine Each.consS (fun fl O wk hE hN hO ck => ?_) ?_
  ·
   refine Need.o1 rfl rfl rfl (fun _ h => h) ?_
   refine rl_bin rfl rfl (B.rem rfl) rfl ?_
   exact RL.nil ⟨_, rfl, Ch.refl, rfl⟩
  refine Each.consS (fun fl O wk hE hN hO ck => ?_) ?_
  ·
   refine Need.o1 rfl rfl rfl (fun _ h => h) ?_
   refine rl_nilCheck rfl rfl ?_
   exact RL.nil ⟨_, rfl, Ch.refl, rfl⟩
  refine Each.consS (fun fl O wk hE hN hO ck => ?_) ?_
  ·
   refine Need.o1 rfl rfl rfl (fun _ h => h) ?_
   refine rl_fieldAddr rfl fa81_2 rfl ?_
   exact RL.nil ⟨_, rfl, Ch.refl, rfl⟩
  refine Each.consS (fun fl O wk hE hN hO ck => ?_) ?_
  ·
   refine Need.o1 rfl rfl rfl (fun _ h => h) ?_
   refine Need.o1 rfl rfl rfl (fun _ h => h) ?_
   refine rl_ixArrV rfl rfl (ixO_in hy57) Tryd.underlying79 Tryd.sizeOf3 rfl ?_
   exact RL.nil ⟨_, rfl, Ch.refl, rfl⟩
  refine Each.consS (fun fl O wk hE hN hO ck => ?_) ?_
  ·
   have h49 := h49.ch0 ck
   refine Need.o1 rfl rfl rfl (fun _ h => h) ?_
   refine rl_loadS (v := (Value.int .i64 y56)) rfl Tryd.isAgg3 (h49.cell (Stats.at_spans y46 z48 _ _ (ixO_get hy57).2.2)) rfl ?_
   exact RL.nil ⟨_, rfl, Ch.refl, rfl⟩
  refine Each.consS (fun fl O wk hE hN hO ck => ?_) ?_
  ·
   refine Need.o1 rfl rfl rfl (fun _ h => h) ?_
   refine rl_bin rfl rfl B.add rfl ?_
   exact RL.nil ⟨_, rfl, Ch.refl, rfl⟩
  refine Each.consS (fun fl O wk hE hN hO ck => ?_) ?_
  ·
   refine Need.o1 rfl rfl rfl (fun _ h => h) ?_
   refine rl_nilCheck rfl rfl ?_
   exact RL.nil ⟨_, rfl, Ch.refl, rfl⟩
  refine Each.consS (fun fl O wk hE hN hO ck => ?_) ?_
  ·
   refine Need.o1 rfl rfl rfl (fun _ h => h) ?_
   refine rl_fieldAddr rfl fa81_2 rfl ?_
   exact RL.nil ⟨_, rfl, Ch.refl, rfl⟩
  trivial
 intro hvO77 OpO77 O77 w75 hO78 c76 hN79
 have ah1_0 := slRep.ch kInt_pos ah1_0 c76
 have k4 := k4.ch0 c76
 have h49 := h49.ch0 c76
 have h50 := h50.ch0 c76
 have c0 := c0.then0 c76
 refine Need.o1 rfl rfl rfl (fun _ h => h) ?_
 refine Need.o1 rfl rfl rfl (fun _ h => h) ?_
 refine Need.o1 rfl rfl rfl (fun _ h => h) ?_
 refine rl_ixArrV rfl rfl (ixO_in hy57) Tryd.underlying79 Tryd.sizeOf3 rfl ?_
 have lt87 : ((IntKind.i64.wrap (a3.tdiv 10)).tmod 16).toNat < 16 := lt_of_get (ixO_get hy57).2.2
 refine rl_storeV (u := (Value.int .i64 (IntKind.i64.wrap (y56 + 1)))) (cs' := (Stats.c ({ verdicts := y46.verdicts, services := y46.services, spans := A16i64.upd y46.spans ((IntKind.i64.wrap (a3.tdiv 10)).tmod 16).toNat (fun _ => IntKind.i64.wrap (y56 + 1)), last := y46.last } : Stats) z48)) rfl rfl ⟨rfl, rfl⟩ Tryd.sizeOf3 h49 (by show 15 + ((IntKind.i64.wrap (a3.tdiv 10)).tmod 16).toNat * 1 < 32; omega) (Stats.set_spans y46 z48 (IntKind.i64.wrap (y56 + 1)) _ lt87) ?_
 intro w83 s85 c84 k86
 have ad88 : ∀ b, b < w75.heap.size → ¬ (un (inBlk (PV po0)) (un (inBlk z48) S2)) b → ¬ (inBlk (PV po0)) b ∧ ¬ (un (inBlk (PV po0)) (un (inBlk z48) S2)) b := fun b _ hs => ⟨fun h => hs (.inl h), hs⟩
 have ah1_0 := slRep.st kInt_pos ah1_0 c84 ad88
 have k4 := k4.ch c84 (ad88 _ k4.lt gp1.2).1
 have h50 := h50.ch c84 ((fun b hb h => (disSym d52) b hb h))
 have c0 := c0.then c84 (fun i hi h => (lin0_0 i h).elim (fun x => x) (fun x => absurd x (Nat.not_le_of_lt hi)))
 refine RL.nil (thn_n (CW.seq ?_))
 obtain ⟨y90, hy91, hS⟩ := bindS hS
 refine CW.draw 5 [(none, fun fx O uu wx => uu = (PV po0)), (none, fun fx O uu wx => uu = (PV p1)), (none, fun fx O uu wx => uu = (Value.int .i64 a1.verdict)), (none, fun fx O uu wx => uu = (PV po0)), (none, fun fx O uu wx => uu = (PV po0))] [[], [], [1], [0], [3]] [2, 4] nb (fun _ h => h.elim) mixed rfl rfl rfl rfl ?_ ?_
 ·
  refine Each.consS (fun fl O wk hE hN hO ck => ?_) ?_
  ·
   refine rl_move rfl rfl ?_
   exact RL.nil ⟨_, rfl, Ch.refl, rfl⟩
  refine Each.consS (fun fl O wk hE hN hO ck => ?_) ?_
  ·
   refine rl_fieldAddr rfl fa38_0 rfl ?_
   exact RL.nil ⟨_, rfl, Ch.refl, rfl⟩
  refine Each.consS (fun fl O wk hE hN hO ck => ?_) ?_
  ·
   have k4 := k4.ch0 ck
   refine Need.o1 rfl rfl rfl (fun _ h => h) ?_
   refine rl_loadS (v := (Value.int .i64 a1.verdict)) rfl Tryd.isAgg3 (k4.cell rfl) rfl ?_
   exact RL.nil ⟨_, rfl, Ch.refl, rfl⟩
  refine Each.consS (fun fl O wk hE hN hO ck => ?_) ?_
  ·
   refine Need.o1 rfl rfl rfl (fun _ h => h) ?_
   refine rl_nilCheck rfl rfl ?_
   exact RL.nil ⟨_, rfl, Ch.refl, rfl⟩
  refine Each.consS (fun fl O wk hE hN hO ck => ?_) ?_
  ·
   refine Need.o1 rfl rfl rfl (fun _ h => h) ?_
   refine rl_fieldAddr rfl fa81_0 rfl ?_
   exact RL.nil ⟨_, rfl, Ch.refl, rfl⟩
  trivial
 intro hvO97 OpO97 O97 w95 hO98 c96 hN99
 have ah1_0 := slRep.ch kInt_pos ah1_0 c96
 have k4 := k4.ch0 c96
 have h50 := h50.ch0 c96
 have k86 := k86.ch0 c96
 have c0 := c0.then0 c96
 refine Need.o1 rfl rfl rfl (fun _ h => h) ?_
 refine Need.o1 rfl rfl rfl (fun _ h => h) ?_
 refine rl_ixArrV rfl rfl (ixO_in hy91) Tryd.underlying78 Tryd.sizeOf42 rfl ?_
 refine rl_assign rfl rfl ?_
 refine RL.nil (thn_n (CW.seq (CW.region ?_)))
 refine rl_move rfl rfl ?_
 refine rl_nilCheck rfl rfl ?_
 refine rl_fieldAddr rfl fa42_0 rfl ?_
 refine rl_loadS (v := (Value.int .i64 y90.packets)) rfl Tryd.isAgg3 (k86.cell (Stats.at_verdicts_packets ({ verdicts := y46.verdicts, services := y46.services, spans := A16i64.upd y46.spans ((IntKind.i64.wrap (a3.tdiv 10)).tmod 16).toNat (fun _ => IntKind.i64.wrap (y56 + 1)), last := y46.last } : Stats) z48 _ _ (ixO_get hy91).2.2)) rfl ?_
 refine rl_bin rfl rfl B.add rfl ?_
 refine rl_nilCheck rfl rfl ?_
 refine rl_fieldAddr rfl fa42_0 rfl ?_
 have lt106 : a1.verdict.toNat < 7 := lt_of_get (ixO_get hy91).2.2
 refine rl_storeV (u := (Value.int .i64 (IntKind.i64.wrap (y90.packets + 1)))) (cs' := (Stats.c ({ verdicts := A7Count.upd y46.verdicts a1.verdict.toNat (fun e => { e with packets := IntKind.i64.wrap (y90.packets + 1) }), services := y46.services, spans := A16i64.upd y46.spans ((IntKind.i64.wrap (a3.tdiv 10)).tmod 16).toNat (fun _ => IntKind.i64.wrap (y56 + 1)), last := y46.last } : Stats) z48)) rfl rfl ⟨rfl, rfl⟩ Tryd.sizeOf3 k86 (by show 0 + a1.verdict.toNat * 2 < 32; omega) (Stats.set_verdicts_packets ({ verdicts := y46.verdicts, services := y46.services, spans := A16i64.upd y46.spans ((IntKind.i64.wrap (a3.tdiv 10)).tmod 16).toNat (fun _ => IntKind.i64.wrap (y56 + 1)), last := y46.last } : Stats) z48 (IntKind.i64.wrap (y90.packets + 1)) _ lt106) ?_
 intro w102 s104 c103 k105
 have ad107 : ∀ b, b < w95.heap.size → ¬ (un (inBlk (PV po0)) (un (inBlk z48) S2)) b → ¬ (inBlk (PV po0)) b ∧ ¬ (un (inBlk (PV po0)) (un (inBlk z48) S2)) b := fun b _ hs => ⟨fun h => hs (.inl h), hs⟩
 have ah1_0 := slRep.st kInt_pos ah1_0 c103 ad107
 have k4 := k4.ch c103 (ad107 _ k4.lt gp1.2).1
 have h50 := h50.ch c103 ((fun b hb h => (disSym d52) b hb h))
 have c0 := c0.then c103 (fun i hi h => (lin0_0 i h).elim (fun x => x) (fun x => absurd x (Nat.not_le_of_lt hi)))
 have hy108 := A7Count.upd_at _ _ (fun e => { e with packets := IntKind.i64.wrap (y90.packets + 1) }) _ (ixO_get hy91).2.2
 refine RL.nil (thn_n (CW.seq (CW.region ?_)))
 refine rl_move rfl rfl ?_
 refine rl_nilCheck rfl rfl ?_
 refine rl_fieldAddr rfl fa42_1 rfl ?_
 refine rl_loadS (v := (Value.int .i64 (({ y90 with packets := IntKind.i64.wrap (y90.packets + 1) } : Count).bytes))) rfl Tryd.isAgg3 (k105.cell (Stats.at_verdicts_bytes ({ verdicts := A7Count.upd y46.verdicts a1.verdict.toNat (fun e => { e with packets := IntKind.i64.wrap (y90.packets + 1) }), services := y46.services, spans := A16i64.upd y46.spans ((IntKind.i64.wrap (a3.tdiv 10)).tmod 16).toNat (fun _ => IntKind.i64.wrap (y56 + 1)), last := y46.last } : Stats) z48 _ _ hy108)) rfl ?_
 refine rl_move rfl rfl ?_
 refine rl_bin rfl rfl B.add rfl ?_
 refine rl_nilCheck rfl rfl ?_
 refine rl_fieldAddr rfl fa42_1 rfl ?_
 have lt113 : a1.verdict.toNat < 7 := lt_of_get hy108
 refine rl_storeV (u := (Value.int .i64 (IntKind.i64.wrap ((({ y90 with packets := IntKind.i64.wrap (y90.packets + 1) } : Count).bytes) + a2)))) (cs' := (Stats.c ({ verdicts := A7Count.upd (A7Count.upd y46.verdicts a1.verdict.toNat (fun e => { e with packets := IntKind.i64.wrap (y90.packets + 1) })) a1.verdict.toNat (fun e => { e with bytes := IntKind.i64.wrap ((({ y90 with packets := IntKind.i64.wrap (y90.packets + 1) } : Count).bytes) + a2) }), services := y46.services, spans := A16i64.upd y46.spans ((IntKind.i64.wrap (a3.tdiv 10)).tmod 16).toNat (fun _ => IntKind.i64.wrap (y56 + 1)), last := y46.last } : Stats) z48)) rfl rfl ⟨rfl, rfl⟩ Tryd.sizeOf3 k105 (by show 0 + a1.verdict.toNat * 2 + 1 < 32; omega) (Stats.set_verdicts_bytes ({ verdicts := A7Count.upd y46.verdicts a1.verdict.toNat (fun e => { e with packets := IntKind.i64.wrap (y90.packets + 1) }), services := y46.services, spans := A16i64.upd y46.spans ((IntKind.i64.wrap (a3.tdiv 10)).tmod 16).toNat (fun _ => IntKind.i64.wrap (y56 + 1)), last := y46.last } : Stats) z48 (IntKind.i64.wrap ((({ y90 with packets := IntKind.i64.wrap (y90.packets + 1) } : Count).bytes) + a2)) _ lt113) ?_
 intro w109 s111 c110 k112
 have ad114 : ∀ b, b < w102.heap.size → ¬ (un (inBlk (PV po0)) (un (inBlk z48) S2)) b → ¬ (inBlk (PV po0)) b ∧ ¬ (un (inBlk (PV po0)) (un (inBlk z48) S2)) b := fun b _ hs => ⟨fun h => hs (.inl h), hs⟩
 have ah1_0 := slRep.st kInt_pos ah1_0 c110 ad114
 have k4 := k4.ch c110 (ad114 _ k4.lt gp1.2).1
 have h50 := h50.ch c110 ((fun b hb h => (disSym d52) b hb h))
 have c0 := c0.then c110 (fun i hi h => (lin0_0 i h).elim (fun x => x) (fun x => absurd x (Nat.not_le_of_lt hi)))
 refine RL.nil (thn_n (CW.seq ?_))
 refine CW.seq (CW.region ?_)
 refine rl_fieldAddr rfl fa38_2 rfl ?_
 refine rl_fieldAddr rfl fa36_0 rfl ?_
 refine rl_loadS (v := (Value.int .i64 a1.front.proto)) rfl Tryd.isAgg3 (k4.cell rfl) rfl ?_
 refine rl_bin rfl rfl B.neq rfl ?_
 refine RL.nil (thn_n ?_)
 refine CW.cond (t := !decide (a1.front.proto = 0)) rfl (fun q116 => ?_) (fun q116 => ?_)
 ·
  have hS := ifT q116 hS
  refine CW.region ?_
  refine rl_move rfl rfl ?_
  refine rl_loadA (cs := (Out.c a1 az1_0)) rfl Tryd.isAgg38 Tryd.sizeOf38 (k4.segAt 0 46) rfl rfl ?_
  have hd117 : ∀ b, (un (inBlk (PV po0)) (inBlk z48)) b → ¬ S2 b := fun b h => un_el h (fun h => (fun b hb => linNot lin0_0 hd2 h2 b hb) b h) (fun h => (fun b hb => linNot lin53 hd2 h2 b hb) b h)
  have hS118 : (un (inBlk (PV po0)) (un (inBlk z48) S2)) = (un (inBlk (PV po0)) (un (inBlk z48) S2)) := rfl
  have ha119 := ah1_0
  rw [hS118] at ha119
  obtain ⟨y122, hy123⟩ : ∃ y, F26_served ({ verdicts := A7Count.upd (A7Count.upd y46.verdicts a1.verdict.toNat (fun e => { e with packets := IntKind.i64.wrap (y90.packets + 1) })) a1.verdict.toNat (fun e => { e with bytes := IntKind.i64.wrap ((({ y90 with packets := IntKind.i64.wrap (y90.packets + 1) } : Count).bytes) + a2) }), services := y46.services, spans := A16i64.upd y46.spans ((IntKind.i64.wrap (a3.tdiv 10)).tmod 16).toNat (fun _ => IntKind.i64.wrap (y56 + 1)), last := y46.last } : Stats) a1 = y := ⟨_, rfl⟩
  have hS := ltS hy123 hS
  refine rl_callF rfl en26 rfl (ctr26 F w109 Bb S2 (Nat.le_trans hB c0.size) (fun b h => Nat.lt_of_lt_of_le (h2 b h) c0.size) po0 z48 hd117 d52 ({ verdicts := A7Count.upd (A7Count.upd y46.verdicts a1.verdict.toNat (fun e => { e with packets := IntKind.i64.wrap (y90.packets + 1) })) a1.verdict.toNat (fun e => { e with bytes := IntKind.i64.wrap ((({ y90 with packets := IntKind.i64.wrap (y90.packets + 1) } : Count).bytes) + a2) }), services := y46.services, spans := A16i64.upd y46.spans ((IntKind.i64.wrap (a3.tdiv 10)).tmod 16).toNat (fun _ => IntKind.i64.wrap (y56 + 1)), last := y46.last } : Stats) k112 h50 a1 az1_0 ha119 y122 hy123) ?_
  rintro _ w120 ⟨z124, rfl, h125, h126, hf127, d128, c121⟩
  have lin129 : ∀ b, inBlk z124 b → (un (inBlk (PV po0)) (inBlk az0_0)) b ∨ w.heap.size ≤ b := fun b h => (hf127 b h).elim (fun h => un_el h (fun h => lin0_0 b h) (fun h => lin53 b h)) (fun h => .inr (Nat.le_trans c0.size h))
  have c0 := c0.then c121 (fun i hi h => un_el h (fun h => (lin0_0 i h).elim (fun x => x) (fun x => absurd x (Nat.not_le_of_lt hi))) (fun h => (lin53 i h).elim (fun x => x) (fun x => absurd x (Nat.not_le_of_lt hi))))
  refine RL.nil (thn_n (CW.seq (CW.region ?_)))
  refine rl_assign rfl rfl ?_
  refine RL.nil (thn_n (CW.ret ?_))
  obtain rfl := Option.some.inj hS
  exact ret1 rfl ⟨z124, rfl, h125, h126, lin129, d128, c0⟩
 have hS := ifF q116 hS
 refine CW.skip ?_
 refine thn_n (CW.seq (CW.region ?_))
 refine rl_assign rfl rfl ?_
 refine RL.nil (thn_n (CW.ret ?_))
 obtain rfl := Option.some.inj hS
 exact ret1 rfl ⟨z48, rfl, k112, h50, lin53, d52, c0⟩
theorem ctr21 (F : Nat → Prop) (w : World) (Bb : Nat) (S2 : Nat → Prop) (hB : Bb ≤ w.heap.size) (h2 : ∀ b, S2 b → b < w.heap.size) (po0 : Nat) (az0_0 : Value) (hd2 : ∀ b, (un (inBlk (PV po0)) (inBlk az0_0)) b → ¬ S2 b) (hx0_1 : ∀ b, inBlk (PV po0) b → ¬ inBlk az0_0 b) (a0 : Stats) (ah0 : Blk w po0 81 (Stats.c a0 az0_0)) (ah0_0 : Mp (fun x => Value.agg (Key.enc x).toArray) (fun x => Value.agg (Service.enc x).toArray) w a0.services az0_0) (a1 : Int) (a2 : Int) (r : Nat) (hs : F21_Rate a0 a1 a2 = some r) :
    Ret Tryd.prog 21 #[(PV po0), (Value.int .i64 a1), (Value.int .i64 a2)] w fun v w' => v = (Value.float .f64 r) ∧ Ch nb w w' := by
 have hS := hs
 have c0 : Ch nb w w := Ch.refl
 refine Ret.of (n := 57) (args := [_, _, _]) (rs := [.tmp 6]) Tryd.func21 rfl rfl rfl rfl ?_
 refine CW.seq (CW.region ?_)
 refine rl_assign rfl rfl ?_
 refine RL.nil (thn_n (CW.seq ?_))
 refine CW.seq (CW.region ?_)
 refine rl_move rfl rfl ?_
 obtain ⟨y3, hy4⟩ : ∃ y, F24_ticked a1 = y := ⟨_, rfl⟩
 have hS := ltS hy4 hS
 refine rl_callF rfl en24 rfl (ctr24 (G F Bb (un (inBlk (PV po0)) (un (inBlk az0_0) S2))) w a1 y3 hy4) ?_
 rintro _ w1 ⟨rfl, c2⟩
 have ah0 := ah0.ch0 c2
 have ah0_0 := ah0_0.ch0 c2
 have c0 := c0.then0 c2
 refine rl_not rfl rfl ?_
 refine RL.nil (thn_n ?_)
 refine CW.cond (t := !y3) rfl (fun q5 => ?_) (fun q5 => ?_)
 ·
  have hS := ifT q5 hS
  refine CW.seq (CW.region ?_)
  refine rl_assign rfl rfl ?_
  refine RL.nil (thn_n (CW.ret ?_))
  refine thn_ret ?_
  obtain rfl := Option.some.inj hS
  exact ret1 rfl ⟨rfl, c0⟩
 have hS := ifF q5 hS
 refine CW.skip ?_
 refine thn_n (CW.seq (CW.region ?_))
 refine rl_move rfl rfl ?_
 refine rl_max rfl rfl rfl ?_
 refine rl_min rfl rfl rfl ?_
 refine rl_assign rfl rfl ?_
 refine RL.nil (thn_n (CW.seq (CW.region ?_)))
 refine rl_assign rfl rfl ?_
 refine RL.nil (thn_n (CW.seq ?_))
 refine CW.seq (CW.region ?_)
 refine rl_move rfl rfl ?_
 refine rl_bin rfl rfl (B.quo rfl) rfl ?_
 refine rl_move rfl rfl ?_
 refine rl_bin rfl rfl B.sub rfl ?_
 refine rl_bin rfl rfl B.add rfl ?_
 refine rl_max rfl rfl rfl ?_
 refine rl_assign rfl rfl ?_
 refine RL.nil (thn_n ?_)
 obtain ⟨o16, ho17, hS⟩ := bindS hS
 refine CW.cutB (fun E' w' => ∃ (x6 : Int) (x7 : Int), Sub [(2, (Value.int .i64 (if 16 < (if 1 > a2 then 1 else a2) then 16 else (if 1 > a2 then 1 else a2)))), (7, (Value.int .i64 x6))] E' ∧ Ch nb w w' ∧ Lp.fin (x6, x7) = o16 ∧ Blk w' po0 81 (Stats.c a0 az0_0) ∧ Mp (fun x => Value.agg (Key.enc x).toArray) (fun x => Value.agg (Service.enc x).toArray) w' a0.services az0_0 ∧ (∀ b, inBlk (PV po0) b → ¬ inBlk az0_0 b)) ?_ ?_
 ·
  refine CW.loopS [(0, (PV po0)), (1, (Value.int .i64 a1)), (2, (Value.int .i64 (if 16 < (if 1 > a2 then 1 else a2) then 16 else (if 1 > a2 then 1 else a2)))), (7, (Value.int .i64 0)), (8, (Value.int .i64 (if 0 > (IntKind.i64.wrap ((IntKind.i64.wrap ((IntKind.i64.wrap (a1.tdiv 10)) - (if 16 < (if 1 > a2 then 1 else a2) then 16 else (if 1 > a2 then 1 else a2)))) + 1)) then 0 else (IntKind.i64.wrap ((IntKind.i64.wrap ((IntKind.i64.wrap (a1.tdiv 10)) - (if 16 < (if 1 > a2 then 1 else a2) then 16 else (if 1 > a2 then 1 else a2)))) + 1)))))] ⟨rfl, rfl, rfl, rfl, rfl, trivial⟩ FUEL (fun m E w' => ∃ (x6 : Int) (x7 : Int), E = [(0, (PV po0)), (1, (Value.int .i64 a1)), (2, (Value.int .i64 (if 16 < (if 1 > a2 then 1 else a2) then 16 else (if 1 > a2 then 1 else a2)))), (7, (Value.int .i64 x6)), (8, (Value.int .i64 x7))] ∧ Ch nb w w' ∧ runW (F21_Rate_b1 a0 a1) m (x6, x7) = some o16 ∧ Blk w' po0 81 (Stats.c a0 az0_0) ∧ Mp (fun x => Value.agg (Key.enc x).toArray) (fun x => Value.agg (Service.enc x).toArray) w' a0.services az0_0 ∧ (∀ b, inBlk (PV po0) b → ¬ inBlk az0_0 b))
      ⟨0, if 0 > (IntKind.i64.wrap ((IntKind.i64.wrap ((IntKind.i64.wrap (a1.tdiv 10)) - (if 16 < (if 1 > a2 then 1 else a2) then 16 else (if 1 > a2 then 1 else a2)))) + 1)) then 0 else (IntKind.i64.wrap ((IntKind.i64.wrap ((IntKind.i64.wrap (a1.tdiv 10)) - (if 16 < (if 1 > a2 then 1 else a2) then 16 else (if 1 > a2 then 1 else a2)))) + 1)), rfl, c0, ho17, ah0, ah0_0, hx0_1⟩ ?_
  rintro _ _ w22 ⟨x6, x7, rfl, c21, hL11, ah0, ah0_0, d8⟩
  obtain ⟨k20, q13, rfl, hq14⟩ := runW_some hL11
  have hb15 := hq14
  refine CW.seq ?_
  refine CW.seq (CW.region ?_)
  refine rl_move rfl rfl ?_
  refine rl_move rfl rfl ?_
  refine rl_bin rfl rfl (B.quo rfl) rfl ?_
  refine rl_bin rfl rfl B.leq rfl ?_
  refine RL.nil (thn_n ?_)
  refine CW.cond (t := decide (x7 ≤ (IntKind.i64.wrap (a1.tdiv 10)))) rfl (fun q24 => ?_) (fun q24 => ?_)
  ·
   have hb15 := ifT q24 hb15
   refine CW.skip ?_
   refine thn_n (CW.seq ?_)
   refine CW.block ?_
   refine CW.seq (CW.region ?_)
   refine rl_move rfl rfl ?_
   refine rl_move rfl rfl ?_
   refine rl_nilCheck rfl rfl ?_
   refine rl_fieldAddr rfl fa81_3 rfl ?_
   refine rl_loadS (v := (Value.int .i64 a0.last)) rfl Tryd.isAgg3 (ah0.cell rfl) rfl ?_
   refine rl_bin rfl rfl B.leq rfl ?_
   refine rl_move rfl rfl ?_
   obtain ⟨b27, hb28⟩ : ∃ v, ((decide (x7 ≤ a0.last)) && (decide (x7 > (IntKind.i64.wrap (a0.last - 16))))) = v := ⟨_, rfl⟩
   have hb15 := ltS hb28 hb15
   refine RL.join 8 41 (.bool b27) (fun w' => Ch nb w22 w') ?_ ?_
   · rcases Bool.eq_false_or_eq_true (decide (x7 ≤ a0.last)) with hg26 | hg26
     ·
      have hs25 := and_t hg26 hb28
      have cs : Ch nb w22 w22 := Ch.refl
      refine RL.yes rfl rfl rfl hg26 ?_
      refine rl_move rfl rfl ?_
      refine RL.yes rfl rfl rfl hg26 ?_
      refine rl_move rfl rfl ?_
      refine RL.yes rfl rfl rfl hg26 ?_
      refine rl_nilCheck rfl rfl ?_
      refine RL.yes rfl rfl rfl hg26 ?_
      refine rl_fieldAddr rfl fa81_3 rfl ?_
      refine RL.yes rfl rfl rfl hg26 ?_
      refine rl_loadS (v := (Value.int .i64 a0.last)) rfl Tryd.isAgg3 (ah0.cell rfl) rfl ?_
      refine RL.yes rfl rfl rfl hg26 ?_
      refine rl_bin rfl rfl B.sub rfl ?_
      refine RL.yes rfl rfl rfl hg26 ?_
      refine rl_bin rfl rfl B.gtr rfl ?_
      refine rl_pickT rfl hg26 rfl rfl ?_
      exact RL.nil ⟨Ext.bothEq (congrArg Value.bool hs25) (Ext.skip rfl (Ext.skip rfl (Ext.skip rfl (Ext.skip rfl (Ext.skip rfl (Ext.skip rfl (Ext.skip rfl (Ext.rfl')))))))), cs⟩
     ·
      have hs25 := and_f hg26 hb28
      have cs : Ch nb w22 w22 := Ch.refl
      refine RL.no rfl rfl rfl hg26 rfl rfl ?_
      refine RL.no rfl rfl rfl hg26 rfl rfl ?_
      refine RL.no rfl rfl rfl hg26 rfl rfl ?_
      refine RL.no rfl rfl rfl hg26 rfl rfl ?_
      refine RL.no rfl rfl rfl hg26 rfl rfl ?_
      refine RL.no rfl rfl rfl hg26 rfl rfl ?_
      refine RL.no rfl rfl rfl hg26 rfl rfl ?_
      refine rl_pickF rfl hg26 rfl rfl ?_
      exact RL.nil ⟨Ext.bothEq (congrArg Value.bool hs25) (Ext.skip rfl (Ext.skip rfl (Ext.skip rfl (Ext.skip rfl (Ext.skip rfl (Ext.skip rfl (Ext.skip rfl (Ext.rfl')))))))), cs⟩
   intro w29 c30
   have ah0 := ah0.ch0 c30
   have ah0_0 := ah0_0.ch0 c30
   have c21 := c21.then0 c30
   refine RL.nil (thn_n ?_)
   refine CW.cond (t := b27) rfl (fun q31 => ?_) (fun q31 => ?_)
   ·
    have hb15 := ifT q31 hb15
    refine CW.region ?_
    refine rl_move rfl rfl ?_
    refine rl_move rfl rfl ?_
    refine rl_move rfl rfl ?_
    refine rl_bin rfl rfl (B.rem rfl) rfl ?_
    refine rl_nilCheck rfl rfl ?_
    refine rl_fieldAddr rfl fa81_2 rfl ?_
    obtain ⟨y32, hy33, hb15⟩ := bindS hb15
    refine rl_ixArrV rfl rfl (ixO_in hy33) Tryd.underlying79 Tryd.sizeOf3 rfl ?_
    refine rl_loadS (v := (Value.int .i64 y32)) rfl Tryd.isAgg3 (ah0.cell (Stats.at_spans a0 az0_0 _ _ (ixO_get hy33).2.2)) rfl ?_
    refine rl_bin rfl rfl B.add rfl ?_
    refine rl_assign rfl rfl ?_
    refine RL.nil ?_
    refine inB_n ?_
    refine thn_n (CW.region ?_)
    refine rl_move rfl rfl ?_
    refine rl_bin rfl rfl B.add rfl ?_
    refine rl_assign rfl rfl ?_
    refine RL.nil (thn_n ?_)
    have hLn := runW_next hL11 hq14 hb15
    exact ⟨k20, Nat.lt_succ_self _, [(0, (PV po0)), (1, (Value.int .i64 a1)), (2, (Value.int .i64 (if 16 < (if 1 > a2 then 1 else a2) then 16 else (if 1 > a2 then 1 else a2)))), (7, (Value.int .i64 (IntKind.i64.wrap (x6 + y32)))), (8, (Value.int .i64 (IntKind.i64.wrap (x7 + 1))))], ⟨rfl, rfl, rfl, rfl, rfl, trivial⟩, ⟨IntKind.i64.wrap (x6 + y32), IntKind.i64.wrap (x7 + 1), rfl, c21, hLn, ah0, ah0_0, d8⟩⟩
   have hb15 := ifF q31 hb15
   refine CW.skip ?_
   refine inB_n ?_
   refine thn_n (CW.region ?_)
   refine rl_move rfl rfl ?_
   refine rl_bin rfl rfl B.add rfl ?_
   refine rl_assign rfl rfl ?_
   refine RL.nil (thn_n ?_)
   have hLn := runW_next hL11 hq14 hb15
   exact ⟨k20, Nat.lt_succ_self _, [(0, (PV po0)), (1, (Value.int .i64 a1)), (2, (Value.int .i64 (if 16 < (if 1 > a2 then 1 else a2) then 16 else (if 1 > a2 then 1 else a2)))), (7, (Value.int .i64 x6)), (8, (Value.int .i64 (IntKind.i64.wrap (x7 + 1))))], ⟨rfl, rfl, rfl, rfl, rfl, trivial⟩, ⟨x6, IntKind.i64.wrap (x7 + 1), rfl, c21, hLn, ah0, ah0_0, d8⟩⟩
  have hb15 := ifF q24 hb15
  refine CW.exit ?_
  refine thn_exit ?_
  refine thn_exit ?_
  refine inB_hit ?_
  have hLf := runW_fin hL11 hq14 hb15
  exact ⟨x6, x7, ⟨rfl, rfl, trivial⟩, c21, hLf, ah0, ah0_0, d8⟩
 rintro _ w35 ⟨x6, x7, hE36, c34, f37, ah0, ah0_0, d8⟩
 have hS := finS f37 hS
 refine thn_n (CW.sub [(2, (Value.int .i64 (if 16 < (if 1 > a2 then 1 else a2) then 16 else (if 1 > a2 then 1 else a2)))), (7, (Value.int .i64 x6))] hE36 ?_)
 refine CW.seq (CW.region ?_)
 refine rl_move rfl rfl ?_
 refine rl_convFlt rfl Tryd.underlying3 Tryd.underlying69 rfl ?_
 refine rl_move rfl rfl ?_
 refine rl_bin rfl rfl B.mul rfl ?_
 refine rl_convFlt rfl Tryd.underlying3 Tryd.underlying69 rfl ?_
 obtain ⟨y39, hy40, hS⟩ := bindS hS
 refine rl_bin rfl rfl (B.quoF hy40) rfl ?_
 refine rl_assign rfl rfl ?_
 refine RL.nil (thn_n (CW.ret ?_))
 obtain rfl := Option.some.inj hS
 exact ret1 rfl ⟨rfl, c34⟩
theorem ctr5 (F : Nat → Prop) (w : World) (ge : Nat → Value) (gl : (kGL 156 18).rep F w ge [Value.bool true]) (r : Bool) (hs : F5_alive  = some r) :
    Ret Tryd.prog 5 #[] w fun v w' => v = (Value.bool r) ∧ Ch nb w w' := by
 have hS := hs
 have c0 : Ch nb w w := Ch.refl
 have gl := Kd.enter gl
 refine Ret.of (n := 22) (args := []) (rs := [.tmp 0]) Tryd.func5 rfl rfl rfl rfl ?_
 refine CW.seq (CW.region ?_)
 refine rl_assign rfl rfl ?_
 refine RL.nil (thn_n (CW.seq (CW.region ?_)))
 obtain ⟨y3, hy4⟩ : ∃ y, F7_New = y := ⟨_, rfl⟩
 have hS := ltS hy4 hS
 refine rl_callF rfl en7 rfl (ctr7 (G F w.heap.size nb) w  y3 hy4) ?_
 rintro _ w1 ⟨p5, z8, rfl, h6, h7, hf9, hf10, d11, c2⟩
 have lo12 : ∀ b, inBlk (PV p5) b → w.heap.size ≤ b := fun b h => Nat.le_trans c0.size (hf9 b h)
 have lo13 : ∀ b, inBlk z8 b → w.heap.size ≤ b := fun b h => Nat.le_trans c0.size (hf10 b h)
 have gl := Kd.st gl c2 (show ∀ b, b < w.heap.size → ¬ nb b → ¬ nb b ∧ ¬ (un (inBlk (PV p5)) (un (inBlk z8) nb)) b from fun b hb hs => ⟨fun x => x, fun h => un_el h (fun h => Nat.not_le_of_lt hb (hf9 b h)) (fun h => un_el h (fun h => Nat.not_le_of_lt hb (hf10 b h)) (fun h => hs h))⟩)
 have c0 := c0.then0 c2
 refine rl_assign rfl rfl ?_
 refine RL.nil (thn_n (CW.seq (CW.region ?_)))
 refine rl_move rfl rfl ?_
 refine rl_bin rfl rfl (B.neqPN Tryd.underlying25) rfl ?_
 refine rl_move rfl rfl ?_
 have hg14 : true = true := rfl
 refine RL.yes rfl rfl rfl hg14 ?_
 refine rl_move rfl rfl ?_
 refine RL.yes rfl rfl rfl hg14 ?_
 refine rl_build (out := (Out.c ({ verdict := 0, packet := [], front := Front.z, backend := Point.z } : Out) (Value.slice none 0 0))) rfl pl38 Tryd.zeroValue38 rfl rfl rfl ?_
 refine RL.yes rfl rfl rfl hg14 ?_
 have hd15 : ∀ b, (un (inBlk (PV p5)) (inBlk z8)) b → ¬ nb b := fun b h => un_el h (fun h => (fun b hb => fun h => h) b h) (fun h => (fun b hb => fun h => h) b h)
 have hS16 : (un (inBlk (PV p5)) (un (inBlk z8) nb)) = (un (inBlk (PV p5)) (un (inBlk z8) nb)) := rfl
 have ha17 := gl
 rw [hS16] at ha17
 obtain ⟨y20, hy21, hS⟩ := bindS hS
 refine rl_callF rfl en9 rfl (ctr9 F w1 w.heap.size nb c0.size nbS p5 z8 hd15 d11 y3 h6 h7 ({ verdict := 0, packet := [], front := Front.z, backend := Point.z } : Out) (Value.slice none 0 0) (.inl ⟨rfl, rfl⟩) 40 3 ge ha17 y20 hy21) ?_
 rintro _ w18 ⟨z22, rfl, h23, h24, hf25, d26, c19⟩
 have ha29 : ∀ b, b < w1.heap.size → ¬ (un (inBlk (PV p5)) (un (inBlk z8) nb)) b → ¬ (un (inBlk (PV p5)) (inBlk z8)) b ∧ ¬ (un (inBlk (PV p5)) (un (inBlk z22) nb)) b := fun b hb hs => ⟨fun h => un_el h (fun h => hs (.inl h)) (fun h => hs (.inr (.inl h))), fun h => un_el h (fun h => hs (.inl h)) (fun h => un_el h (fun h => (hf25 b h).elim (fun h => un_el h (fun h => hs (.inl h)) (fun h => hs (.inr (.inl h)))) (fun h => Nat.not_le_of_lt hb h)) (fun h => False.elim h))⟩
 have gl := Kd.st gl c19 ha29
 have c0 := c0.then c19 (fun i hi h => un_el h (fun h => absurd (lo12 i h) (Nat.not_le_of_lt hi)) (fun h => absurd (lo13 i h) (Nat.not_le_of_lt hi)))
 refine RL.yes rfl rfl rfl hg14 ?_
 refine rl_errEq (x := y20.1) rfl gl Tryd.underlying45 rfl ?_
 refine rl_pickT rfl hg14 rfl rfl ?_
 refine rl_move rfl rfl ?_
 obtain ⟨b32, hb33, hS⟩ := bindS hS
 refine RL.join 4 15 (.bool b32) (fun w' => Ch nb w18 w') ?_ ?_
 · rcases Bool.eq_false_or_eq_true ((y20.1).isNone) with hg31 | hg31
   ·
    have hs30 := andO_t hg31 hb33
    have cs : Ch nb w18 w18 := Ch.refl
    refine RL.yes rfl rfl rfl hg31 ?_
    refine rl_move rfl rfl ?_
    refine RL.yes rfl rfl rfl hg31 ?_
    have hd35 : ∀ b, (un (inBlk (PV p5)) (inBlk z22)) b → ¬ nb b := fun b h => un_el h (fun h => (fun b hb => fun h => h) b h) (fun h => (fun b hb => fun h => h) b h)
    obtain ⟨y39, hy40, hs30⟩ := bindS hs30
    refine rl_callF rfl en21 rfl (ctr21 F w18 w.heap.size nb c0.size nbS p5 z22 hd35 d26 y20.2 h23 h24 9 1 y39 hy40) ?_
    rintro _ w37 ⟨rfl, c38⟩
    refine RL.yes rfl rfl rfl hg31 ?_
    refine rl_bin rfl rfl B.eqlF rfl ?_
    refine rl_pickT rfl hg31 rfl rfl ?_
    have cs := cs.then0 c38
    exact RL.nil ⟨Ext.bothEq (congrArg Value.bool (Option.some.inj hs30)) (Ext.skip rfl (Ext.skip rfl (Ext.skip rfl (Ext.rfl')))), cs⟩
   ·
    have hs30 := andO_f hg31 hb33
    have cs : Ch nb w18 w18 := Ch.refl
    refine RL.no rfl rfl rfl hg31 rfl rfl ?_
    refine RL.no rfl rfl rfl hg31 rfl rfl ?_
    refine RL.no rfl rfl rfl hg31 rfl rfl ?_
    refine rl_pickF rfl hg31 rfl rfl ?_
    exact RL.nil ⟨Ext.bothEq (congrArg Value.bool (Option.some.inj hs30)) (Ext.skip rfl (Ext.skip rfl (Ext.skip rfl (Ext.rfl')))), cs⟩
 intro w34 c41
 have h23 := h23.ch0 c41
 have h24 := h24.ch0 c41
 have c0 := c0.then0 c41
 refine rl_move rfl rfl ?_
 obtain ⟨b44, hb45, hS⟩ := bindS hS
 refine RL.join 5 21 (.bool b44) (fun w' => Ch nb w34 w') ?_ ?_
 · rcases Bool.eq_false_or_eq_true b32 with hg43 | hg43
   ·
    have hs42 := andO_t hg43 hb45
    have cs : Ch nb w34 w34 := Ch.refl
    refine RL.yes rfl rfl rfl hg43 ?_
    refine rl_move rfl rfl ?_
    refine RL.yes rfl rfl rfl hg43 ?_
    have hd47 : ∀ b, (un (inBlk (PV p5)) (inBlk z22)) b → ¬ nb b := fun b h => un_el h (fun h => (fun b hb => fun h => h) b h) (fun h => (fun b hb => fun h => h) b h)
    obtain ⟨y51, hy52, hs42⟩ := bindS hs42
    refine rl_callF rfl en8 rfl (ctr8 F w34 w.heap.size nb c0.size nbS p5 z22 hd47 d26 y20.2 h23 h24 y51 hy52) ?_
    rintro _ w49 ⟨rfl, c50⟩
    refine RL.yes rfl rfl rfl hg43 ?_
    refine rl_fieldS (cs := (Count.enc y51)) (v := (Value.int .i64 y51.packets)) rfl Tryd.underlying42 rfl rfl rfl Tryd.isAgg3 rfl rfl ?_
    refine RL.yes rfl rfl rfl hg43 ?_
    refine rl_bin rfl rfl B.eql rfl ?_
    refine rl_pickT rfl hg43 rfl rfl ?_
    have cs := cs.then0 c50
    exact RL.nil ⟨Ext.bothEq (congrArg Value.bool (Option.some.inj hs42)) (Ext.skip rfl (Ext.skip rfl (Ext.skip rfl (Ext.skip rfl (Ext.rfl'))))), cs⟩
   ·
    have hs42 := andO_f hg43 hb45
    have cs : Ch nb w34 w34 := Ch.refl
    refine RL.no rfl rfl rfl hg43 rfl rfl ?_
    refine RL.no rfl rfl rfl hg43 rfl rfl ?_
    refine RL.no rfl rfl rfl hg43 rfl rfl ?_
    refine RL.no rfl rfl rfl hg43 rfl rfl ?_
    refine rl_pickF rfl hg43 rfl rfl ?_
    exact RL.nil ⟨Ext.bothEq (congrArg Value.bool (Option.some.inj hs42)) (Ext.skip rfl (Ext.skip rfl (Ext.skip rfl (Ext.skip rfl (Ext.rfl'))))), cs⟩
 intro w46 c53
 have c0 := c0.then0 c53
 refine rl_assign rfl rfl ?_
 refine RL.nil (thn_n (CW.ret ?_))
 obtain rfl := Option.some.inj hS
 exact ret1 rfl ⟨rfl, c0⟩
theorem ctr23 (F : Nat → Prop) (w : World) (a0 : Rows) (az0_0 az0_1 az0_2 : Value) (ah0_0 : slRep k_Front F w a0.fronts az0_0) (ah0_1 : slRep k_Group F w a0.groups az0_1) (ah0_2 : slRep k_Filter F w a0.filters az0_2) (a1 : Int) (r : Bool) (hs : F23_Long a0 a1 = r) :
    Ret Tryd.prog 23 #[(Value.agg (Rows.c a0 az0_0 az0_1 az0_2).toArray), (Value.int .i64 a1)] w fun v w' => v = (Value.bool r) ∧ Ch nb w w' := by
 have hS := hs
 have c0 : Ch nb w w := Ch.refl
 have ah0_0 := slRep.enter k_Front_pos ah0_0
 have ah0_1 := slRep.enter k_Group_pos ah0_1
 have ah0_2 := slRep.enter k_Filter_pos ah0_2
 refine Ret.of (n := 125) (args := [_, _]) (rs := [.tmp 4]) Tryd.func23 rfl rfl rfl rfl ?_
 refine CW.seq (CW.region ?_)
 refine rl_boxA (cs := (Rows.c a0 az0_0 az0_1 az0_2)) rfl rfl ?_
 intro p1 w2 n3 k4
 have gp1 : (G F w.heap.size nb) p1 := ⟨.inr (by rw [n3.eq]; exact c0.size), fun h => absurd (nbS _ h) (by rw [n3.eq]; exact Nat.lt_irrefl _)⟩
 have ah0_0 := slRep.ch k_Front_pos ah0_0 n3.ch
 have ah0_1 := slRep.ch k_Group_pos ah0_1 n3.ch
 have ah0_2 := slRep.ch k_Filter_pos ah0_2 n3.ch
 have c0 := c0.then0 n3.ch
 refine rl_assign rfl rfl ?_
 refine RL.nil (thn_n (CW.seq ?_))
 refine CW.seq (CW.region ?_)
 refine rl_fieldAddr rfl fa76_0 rfl ?_
 refine rl_loadS (v := az0_0) rfl Tryd.isAgg72 (k4.cell rfl) rfl ?_
 refine rl_lenR rfl ah0_0 Tryd.underlying72 rfl ?_
 refine rl_move rfl rfl ?_
 refine rl_bin rfl rfl B.gtr rfl ?_
 refine rl_move rfl rfl ?_
 obtain ⟨b7, hb8⟩ : ∃ v, ((decide (((a0.fronts.length : Nat) : Int) > a1)) || (decide (((a0.groups.length : Nat) : Int) > a1))) = v := ⟨_, rfl⟩
 have hS := ltS hb8 hS
 refine RL.join 6 22 (.bool b7) (fun w' => Ch nb w2 w') ?_ ?_
 · rcases Bool.eq_false_or_eq_true (decide (((a0.fronts.length : Nat) : Int) > a1)) with hg6 | hg6
   ·
    have hs5 := or_t hg6 hb8
    have cs : Ch nb w2 w2 := Ch.refl
    refine RL.no rfl rfl rfl hg6 rfl rfl ?_
    refine RL.no rfl rfl rfl hg6 rfl rfl ?_
    refine RL.no rfl rfl rfl hg6 rfl rfl ?_
    refine RL.no rfl rfl rfl hg6 rfl rfl ?_
    refine RL.no rfl rfl rfl hg6 rfl rfl ?_
    refine rl_pickT rfl hg6 rfl rfl ?_
    exact RL.nil ⟨Ext.bothEq (congrArg Value.bool hs5) (Ext.skip rfl (Ext.skip rfl (Ext.skip rfl (Ext.skip rfl (Ext.skip rfl (Ext.rfl')))))), cs⟩
   ·
    have hs5 := or_f hg6 hb8
    have cs : Ch nb w2 w2 := Ch.refl
    refine RL.yes rfl rfl rfl hg6 ?_
    refine rl_fieldAddr rfl fa76_1 rfl ?_
    refine RL.yes rfl rfl rfl hg6 ?_
    refine rl_loadS (v := az0_1) rfl Tryd.isAgg73 (k4.cell rfl) rfl ?_
    refine RL.yes rfl rfl rfl hg6 ?_
    refine rl_lenR rfl ah0_1 Tryd.underlying73 rfl ?_
    refine RL.yes rfl rfl rfl hg6 ?_
    refine rl_move rfl rfl ?_
    refine RL.yes rfl rfl rfl hg6 ?_
    refine rl_bin rfl rfl B.gtr rfl ?_
    refine rl_pickF rfl hg6 rfl rfl ?_
    exact RL.nil ⟨Ext.bothEq (congrArg Value.bool hs5) (Ext.skip rfl (Ext.skip rfl (Ext.skip rfl (Ext.skip rfl (Ext.skip rfl (Ext.rfl')))))), cs⟩
 intro w9 c10
 have ah0_0 := slRep.ch k_Front_pos ah0_0 c10
 have ah0_1 := slRep.ch k_Group_pos ah0_1 c10
 have ah0_2 := slRep.ch k_Filter_pos ah0_2 c10
 have k4 := k4.ch0 c10
 have c0 := c0.then0 c10
 refine rl_move rfl rfl ?_
 obtain ⟨b13, hb14⟩ : ∃ v, (b7 || (decide (((a0.filters.length : Nat) : Int) > a1))) = v := ⟨_, rfl⟩
 have hS := ltS hb14 hS
 refine RL.join 6 29 (.bool b13) (fun w' => Ch nb w9 w') ?_ ?_
 · rcases Bool.eq_false_or_eq_true b7 with hg12 | hg12
   ·
    have hs11 := or_t hg12 hb14
    have cs : Ch nb w9 w9 := Ch.refl
    refine RL.no rfl rfl rfl hg12 rfl rfl ?_
    refine RL.no rfl rfl rfl hg12 rfl rfl ?_
    refine RL.no rfl rfl rfl hg12 rfl rfl ?_
    refine RL.no rfl rfl rfl hg12 rfl rfl ?_
    refine RL.no rfl rfl rfl hg12 rfl rfl ?_
    refine rl_pickT rfl hg12 rfl rfl ?_
    exact RL.nil ⟨Ext.bothEq (congrArg Value.bool hs11) (Ext.skip rfl (Ext.skip rfl (Ext.skip rfl (Ext.skip rfl (Ext.skip rfl (Ext.rfl')))))), cs⟩
   ·
    have hs11 := or_f hg12 hb14
    have cs : Ch nb w9 w9 := Ch.refl
    refine RL.yes rfl rfl rfl hg12 ?_
    refine rl_fieldAddr rfl fa76_2 rfl ?_
    refine RL.yes rfl rfl rfl hg12 ?_
    refine rl_loadS (v := az0_2) rfl Tryd.isAgg74 (k4.cell rfl) rfl ?_
    refine RL.yes rfl rfl rfl hg12 ?_
    refine rl_lenR rfl ah0_2 Tryd.underlying74 rfl ?_
    refine RL.yes rfl rfl rfl hg12 ?_
    refine rl_move rfl rfl ?_
    refine RL.yes rfl rfl rfl hg12 ?_
    refine rl_bin rfl rfl B.gtr rfl ?_
    refine rl_pickF rfl hg12 rfl rfl ?_
    exact RL.nil ⟨Ext.bothEq (congrArg Value.bool hs11) (Ext.skip rfl (Ext.skip rfl (Ext.skip rfl (Ext.skip rfl (Ext.skip rfl (Ext.rfl')))))), cs⟩
 intro w15 c16
 have ah0_0 := slRep.ch k_Front_pos ah0_0 c16
 have ah0_1 := slRep.ch k_Group_pos ah0_1 c16
 have ah0_2 := slRep.ch k_Filter_pos ah0_2 c16
 have k4 := k4.ch0 c16
 have c0 := c0.then0 c16
 refine RL.nil (thn_n ?_)
 refine CW.cond (t := b13) rfl (fun q17 => ?_) (fun q17 => ?_)
 ·
  have hS := ifT q17 hS
  refine CW.seq (CW.region ?_)
  refine rl_assign rfl rfl ?_
  refine RL.nil (thn_n (CW.ret ?_))
  refine thn_ret ?_
  obtain rfl := hS
  exact ret1 rfl ⟨rfl, c0⟩
 have hS := ifF q17 hS
 refine CW.skip ?_
 refine thn_n (CW.seq ?_)
 refine CW.seq (CW.region ?_)
 refine rl_fieldAddr rfl fa76_0 rfl ?_
 refine rl_loadS (v := az0_0) rfl Tryd.isAgg72 (k4.cell rfl) rfl ?_
 refine rl_lenR rfl ah0_0 Tryd.underlying72 rfl ?_
 refine rl_move rfl rfl ?_
 refine RL.nil (thn_n ?_)
 obtain ⟨o25, ho26⟩ : ∃ o, runB F23_Long_b1 a0.fronts () = o := ⟨_, rfl⟩
 have hS := ltS ho26 hS
 refine CW.cutB (fun E' w' => ∃ (_ : Unit), Sub [(2, (PV p1))] E' ∧ Ch nb w w' ∧ Lp.fin () = o25 ∧ slRep k_Front (G F w.heap.size nb) w' a0.fronts az0_0 ∧ slRep k_Group (G F w.heap.size nb) w' a0.groups az0_1 ∧ slRep k_Filter (G F w.heap.size nb) w' a0.filters az0_2 ∧ Blk w' p1 76 (Rows.c a0 az0_0 az0_1 az0_2) ∧ (G F w.heap.size nb) p1) ?_ ?_
 ·
  refine CW.loopS [(2, (PV p1)), (31, az0_0), (32, (Value.int .i64 ((a0.fronts.length : Nat) : Int))), (33, (Value.int .i64 ((0 : Nat) : Int)))] ⟨rfl, rfl, rfl, rfl, trivial⟩ a0.fronts.length (fun m E w' => ∃ (rest18 : List Front) (i19 : Nat) , m = rest18.length ∧ E = [(2, (PV p1)), (31, az0_0), (32, (Value.int .i64 ((a0.fronts.length : Nat) : Int))), (33, (Value.int .i64 ((i19 : Nat) : Int)))] ∧ Ch nb w w' ∧ At a0.fronts i19 rest18 ∧ runB F23_Long_b1 rest18 () = o25 ∧ slRep k_Front (G F w.heap.size nb) w' a0.fronts az0_0 ∧ slRep k_Group (G F w.heap.size nb) w' a0.groups az0_1 ∧ slRep k_Filter (G F w.heap.size nb) w' a0.filters az0_2 ∧ Blk w' p1 76 (Rows.c a0 az0_0 az0_1 az0_2) ∧ (G F w.heap.size nb) p1)
      ⟨a0.fronts, 0, rfl, rfl, c0, At.start, ho26, ah0_0, ah0_1, ah0_2, k4, gp1⟩ ?_
  rintro _ _ w31 ⟨rest18, i19, rfl, rfl, c30, hat21, hL20, ah0_0, ah0_1, ah0_2, k4, gp1⟩
  refine CW.seq (CW.region ?_)
  refine rl_bin rfl rfl B.lss rfl ?_
  refine RL.nil (thn_n ?_)
  refine CW.seq ?_
  refine CW.cond (t := decide (((i19 : Nat) : Int) < ((a0.fronts.length : Nat) : Int))) rfl (fun q33 => ?_) (fun q33 => ?_)
  ·
   obtain ⟨x27, rest34, rfl⟩ := hat21.cons q33
   obtain ⟨q22, hq23⟩ : ∃ q, F23_Long_b1 x27 () = q := ⟨_, rfl⟩
   have hb24 := hq23
   refine CW.skip (thn_n ?_)
   refine CW.seq ?_
   refine CW.block ?_
   refine CW.seq (CW.region ?_)
   refine rl_ixR rfl ah0_0 rfl hat21.get Tryd.underlying72 Tryd.sizeOf36 rfl ?_
   intro p35 o36 cs37 hr38 hs39 hg40
   obtain rfl := hr38
   refine rl_loadA (cs := (Front.enc x27)) rfl Tryd.isAgg36 Tryd.sizeOf36 (hs39) rfl rfl ?_
   refine rl_alloc (Front.enc Front.z) Tryd.zeroValue36 rfl rfl ?_
   intro p41 w42 n43 k44
   have lo45 : ∀ b, inBlk (PV p41) b → w.heap.size ≤ b := fun b h => Nat.le_trans c30.size (n43.fresh b h)
   have ah0_0 := slRep.st k_Front_pos ah0_0 n43.ch (admNew n43.fresh (fun _ x => x))
   have ah0_1 := slRep.st k_Group_pos ah0_1 n43.ch (admNew n43.fresh (fun _ x => x))
   have ah0_2 := slRep.st k_Filter_pos ah0_2 n43.ch (admNew n43.fresh (fun _ x => x))
   have gp1n : (G F w.heap.size (un (inBlk (PV p41)) nb)) p1 := ⟨gp1.1, ((admNew n43.fresh (fun _ x => x)) _ k4.lt gp1.2).2⟩
   have k4 := k4.ch0 n43.ch
   have gp1 := gp1n
   have c30 := c30.then0 n43.ch
   refine rl_storeA (vs := (Front.enc x27)) rfl rfl (all_one rfl) Tryd.sizeOf36 rfl k44 rfl ?_
   intro w46 s48 c47 k49
   have ad50 : ∀ b, b < w42.heap.size → ¬ (un (inBlk (PV p41)) nb) b → ¬ (inBlk (PV p41)) b ∧ ¬ (un (inBlk (PV p41)) nb) b := fun b _ hs => ⟨fun h => hs (.inl h), hs⟩
   have ah0_0 := slRep.st k_Front_pos ah0_0 c47 ad50
   have ah0_1 := slRep.st k_Group_pos ah0_1 c47 ad50
   have ah0_2 := slRep.st k_Filter_pos ah0_2 c47 ad50
   have k4 := k4.ch c47 (ad50 _ k4.lt gp1.2).1
   have c30 := c30.then c47 (fun i hi h => absurd (lo45 i h) (Nat.not_le_of_lt hi))
   refine RL.nil (thn_n (CW.seq (CW.region ?_)))
   refine rl_fieldAddr rfl fa36_2 rfl ?_
   refine rl_fieldAddr rfl fa34_0 rfl ?_
   refine rl_loadS (v := (Value.string x27.service.space)) rfl Tryd.isAgg9 (k49.cell rfl) rfl ?_
   refine rl_lenStr rfl Tryd.underlying9 rfl ?_
   refine rl_bin rfl rfl B.gtr rfl ?_
   refine rl_move rfl rfl ?_
   obtain ⟨b53, hb54⟩ : ∃ v, ((decide (((x27.service.space.size : Nat) : Int) > 100)) || (decide (((x27.service.name.size : Nat) : Int) > 100))) = v := ⟨_, rfl⟩
   have hb24 := ltS hb54 hb24
   refine RL.join 6 48 (.bool b53) (fun w' => Ch nb w46 w') ?_ ?_
   · rcases Bool.eq_false_or_eq_true (decide (((x27.service.space.size : Nat) : Int) > 100)) with hg52 | hg52
     ·
      have hs51 := or_t hg52 hb54
      have cs : Ch nb w46 w46 := Ch.refl
      refine RL.no rfl rfl rfl hg52 rfl rfl ?_
      refine RL.no rfl rfl rfl hg52 rfl rfl ?_
      refine RL.no rfl rfl rfl hg52 rfl rfl ?_
      refine RL.no rfl rfl rfl hg52 rfl rfl ?_
      refine RL.no rfl rfl rfl hg52 rfl rfl ?_
      refine rl_pickT rfl hg52 rfl rfl ?_
      exact RL.nil ⟨Ext.bothEq (congrArg Value.bool hs51) (Ext.skip rfl (Ext.skip rfl (Ext.skip rfl (Ext.skip rfl (Ext.skip rfl (Ext.rfl')))))), cs⟩
     ·
      have hs51 := or_f hg52 hb54
      have cs : Ch nb w46 w46 := Ch.refl
      refine RL.yes rfl rfl rfl hg52 ?_
      refine rl_fieldAddr rfl fa36_2 rfl ?_
      refine RL.yes rfl rfl rfl hg52 ?_
      refine rl_fieldAddr rfl fa34_1 rfl ?_
      refine RL.yes rfl rfl rfl hg52 ?_
      refine rl_loadS (v := (Value.string x27.service.name)) rfl Tryd.isAgg9 (k49.cell rfl) rfl ?_
      refine RL.yes rfl rfl rfl hg52 ?_
      refine rl_lenStr rfl Tryd.underlying9 rfl ?_
      refine RL.yes rfl rfl rfl hg52 ?_
      refine rl_bin rfl rfl B.gtr rfl ?_
      refine rl_pickF rfl hg52 rfl rfl ?_
      exact RL.nil ⟨Ext.bothEq (congrArg Value.bool hs51) (Ext.skip rfl (Ext.skip rfl (Ext.skip rfl (Ext.skip rfl (Ext.skip rfl (Ext.rfl')))))), cs⟩
   intro w55 c56
   have ah0_0 := slRep.ch k_Front_pos ah0_0 c56
   have ah0_1 := slRep.ch k_Group_pos ah0_1 c56
   have ah0_2 := slRep.ch k_Filter_pos ah0_2 c56
   have k4 := k4.ch0 c56
   have k49 := k49.ch0 c56
   have c30 := c30.then0 c56
   refine rl_move rfl rfl ?_
   obtain ⟨b59, hb60⟩ : ∃ v, (b53 || (decide (((x27.name.size : Nat) : Int) > 100))) = v := ⟨_, rfl⟩
   have hb24 := ltS hb60 hb24
   refine RL.join 5 54 (.bool b59) (fun w' => Ch nb w55 w') ?_ ?_
   · rcases Bool.eq_false_or_eq_true b53 with hg58 | hg58
     ·
      have hs57 := or_t hg58 hb60
      have cs : Ch nb w55 w55 := Ch.refl
      refine RL.no rfl rfl rfl hg58 rfl rfl ?_
      refine RL.no rfl rfl rfl hg58 rfl rfl ?_
      refine RL.no rfl rfl rfl hg58 rfl rfl ?_
      refine RL.no rfl rfl rfl hg58 rfl rfl ?_
      refine rl_pickT rfl hg58 rfl rfl ?_
      exact RL.nil ⟨Ext.bothEq (congrArg Value.bool hs57) (Ext.skip rfl (Ext.skip rfl (Ext.skip rfl (Ext.skip rfl (Ext.rfl'))))), cs⟩
     ·
      have hs57 := or_f hg58 hb60
      have cs : Ch nb w55 w55 := Ch.refl
      refine RL.yes rfl rfl rfl hg58 ?_
      refine rl_fieldAddr rfl fa36_3 rfl ?_
      refine RL.yes rfl rfl rfl hg58 ?_
      refine rl_loadS (v := (Value.string x27.name)) rfl Tryd.isAgg9 (k49.cell rfl) rfl ?_
      refine RL.yes rfl rfl rfl hg58 ?_
      refine rl_lenStr rfl Tryd.underlying9 rfl ?_
      refine RL.yes rfl rfl rfl hg58 ?_
      refine rl_bin rfl rfl B.gtr rfl ?_
      refine rl_pickF rfl hg58 rfl rfl ?_
      exact RL.nil ⟨Ext.bothEq (congrArg Value.bool hs57) (Ext.skip rfl (Ext.skip rfl (Ext.skip rfl (Ext.skip rfl (Ext.rfl'))))), cs⟩
   intro w61 c62
   have ah0_0 := slRep.ch k_Front_pos ah0_0 c62
   have ah0_1 := slRep.ch k_Group_pos ah0_1 c62
   have ah0_2 := slRep.ch k_Filter_pos ah0_2 c62
   have k4 := k4.ch0 c62
   have c30 := c30.then0 c62
   refine RL.nil (thn_n ?_)
   refine CW.cond (t := b59) rfl (fun q63 => ?_) (fun q63 => ?_)
   ·
    have hb24 := ifT q63 hb24
    refine CW.seq (CW.region ?_)
    refine rl_assign rfl rfl ?_
    refine RL.nil (thn_n (CW.ret ?_))
    refine inB_ret ?_
    refine thn_ret ?_
    refine thn_ret (inB_ret (thn_ret ?_))
    refine thn_ret ?_
    have f64 := runB_ret hL20 (hb24.trans hq23.symm)
    have hS := retS f64 hS
    obtain rfl := hS
    exact ret1 rfl ⟨rfl, c30⟩
   have hb24 := ifF q63 hb24
   refine CW.skip ?_
   refine inB_n ?_
   refine thn_n (CW.region ?_)
   refine rl_inc rfl hat21.lt ah0_0.big rfl ?_
   refine rl_move rfl rfl ?_
   refine RL.nil (thn_n ?_)
   have ad65 : ∀ b, b < w61.heap.size → ¬ (un (inBlk (PV p41)) nb) b → ¬ nb b ∧ ¬ nb b := fun b _ hs => ⟨fun x => x, fun h => hs (False.elim h)⟩
   have crf : Ch nb w61 w61 := Ch.refl
   have ah0_0 := slRep.st k_Front_pos ah0_0 crf ad65
   have ah0_1 := slRep.st k_Group_pos ah0_1 crf ad65
   have ah0_2 := slRep.st k_Filter_pos ah0_2 crf ad65
   have gp1n : (G F w.heap.size nb) p1 := ⟨gp1.1, (ad65 _ k4.lt gp1.2).2⟩
   have k4 := k4.ch0 crf
   have gp1 := gp1n
   have c30 := c30.then0 crf
   have hLn := runB_next hL20 (hb24.trans hq23.symm)
   exact ⟨rest34.length, Nat.lt_succ_self _, [(2, (PV p1)), (31, az0_0), (32, (Value.int .i64 ((a0.fronts.length : Nat) : Int))), (33, (Value.int .i64 ((i19 + 1 : Nat) : Int)))], ⟨rfl, rfl, rfl, rfl, trivial⟩, ⟨rest34, i19 + 1, rfl, rfl, c30, hat21.next, hLn, ah0_0, ah0_1, ah0_2, k4, gp1⟩⟩
  obtain rfl := hat21.nil q33
  have hLf : Lp.fin () = o25 := hL20
  refine CW.exit (thn_exit (thn_exit (inB_hit ?_)))
  exact ⟨(), ⟨rfl, trivial⟩, c30, hLf, ah0_0, ah0_1, ah0_2, k4, gp1⟩
 rintro _ w67 ⟨_, hE68, c66, f69, ah0_0, ah0_1, ah0_2, k4, gp1⟩
 have hS := finS f69 hS
 refine thn_n (CW.sub [(2, (PV p1))] hE68 ?_)
 refine CW.seq ?_
 refine CW.seq (CW.region ?_)
 refine rl_fieldAddr rfl fa76_1 rfl ?_
 refine rl_loadS (v := az0_1) rfl Tryd.isAgg73 (k4.cell rfl) rfl ?_
 refine rl_lenR rfl ah0_1 Tryd.underlying73 rfl ?_
 refine rl_move rfl rfl ?_
 refine RL.nil (thn_n ?_)
 obtain ⟨o78, ho79⟩ : ∃ o, runB F23_Long_b2 a0.groups () = o := ⟨_, rfl⟩
 have hS := ltS ho79 hS
 refine CW.cutB (fun E' w' => ∃ (_ : Unit), Sub [(2, (PV p1))] E' ∧ Ch nb w w' ∧ Lp.fin () = o78 ∧ slRep k_Front (G F w.heap.size nb) w' a0.fronts az0_0 ∧ slRep k_Group (G F w.heap.size nb) w' a0.groups az0_1 ∧ slRep k_Filter (G F w.heap.size nb) w' a0.filters az0_2 ∧ Blk w' p1 76 (Rows.c a0 az0_0 az0_1 az0_2) ∧ (G F w.heap.size nb) p1) ?_ ?_
 ·
  refine CW.loopS [(2, (PV p1)), (57, az0_1), (58, (Value.int .i64 ((a0.groups.length : Nat) : Int))), (59, (Value.int .i64 ((0 : Nat) : Int)))] ⟨rfl, rfl, rfl, rfl, trivial⟩ a0.groups.length (fun m E w' => ∃ (rest71 : List Group) (i72 : Nat) , m = rest71.length ∧ E = [(2, (PV p1)), (57, az0_1), (58, (Value.int .i64 ((a0.groups.length : Nat) : Int))), (59, (Value.int .i64 ((i72 : Nat) : Int)))] ∧ Ch nb w w' ∧ At a0.groups i72 rest71 ∧ runB F23_Long_b2 rest71 () = o78 ∧ slRep k_Front (G F w.heap.size nb) w' a0.fronts az0_0 ∧ slRep k_Group (G F w.heap.size nb) w' a0.groups az0_1 ∧ slRep k_Filter (G F w.heap.size nb) w' a0.filters az0_2 ∧ Blk w' p1 76 (Rows.c a0 az0_0 az0_1 az0_2) ∧ (G F w.heap.size nb) p1)
      ⟨a0.groups, 0, rfl, rfl, c66, At.start, ho79, ah0_0, ah0_1, ah0_2, k4, gp1⟩ ?_
  rintro _ _ w84 ⟨rest71, i72, rfl, rfl, c83, hat74, hL73, ah0_0, ah0_1, ah0_2, k4, gp1⟩
  refine CW.seq (CW.region ?_)
  refine rl_bin rfl rfl B.lss rfl ?_
  refine RL.nil (thn_n ?_)
  refine CW.seq ?_
  refine CW.cond (t := decide (((i72 : Nat) : Int) < ((a0.groups.length : Nat) : Int))) rfl (fun q86 => ?_) (fun q86 => ?_)
  ·
   obtain ⟨x80, rest87, rfl⟩ := hat74.cons q86
   obtain ⟨q75, hq76⟩ : ∃ q, F23_Long_b2 x80 () = q := ⟨_, rfl⟩
   have hb77 := hq76
   refine CW.skip (thn_n ?_)
   refine CW.seq ?_
   refine CW.block ?_
   refine CW.seq (CW.region ?_)
   refine rl_ixR rfl ah0_1 rfl hat74.get Tryd.underlying73 Tryd.sizeOf108 rfl ?_
   intro p88 o89 cs90 hr91 hs92 hg93
   obtain ⟨z94, z95, rfl, h96, h97⟩ := hr91
   refine rl_loadA (cs := (Group.c x80 z94 z95)) rfl Tryd.isAgg108 Tryd.sizeOf108 (hs92) rfl rfl ?_
   refine rl_alloc (Group.c Group.z (Value.slice none 0 0) (Value.slice none 0 0)) Tryd.zeroValue108 rfl rfl ?_
   intro p98 w99 n100 k101
   have lo102 : ∀ b, inBlk (PV p98) b → w.heap.size ≤ b := fun b h => Nat.le_trans c83.size (n100.fresh b h)
   have ah0_0 := slRep.st k_Front_pos ah0_0 n100.ch (admNew n100.fresh (fun _ x => x))
   have ah0_1 := slRep.st k_Group_pos ah0_1 n100.ch (admNew n100.fresh (fun _ x => x))
   have ah0_2 := slRep.st k_Filter_pos ah0_2 n100.ch (admNew n100.fresh (fun _ x => x))
   have gp1n : (G F w.heap.size (un (inBlk (PV p98)) nb)) p1 := ⟨gp1.1, ((admNew n100.fresh (fun _ x => x)) _ k4.lt gp1.2).2⟩
   have k4 := k4.ch0 n100.ch
   have gp1 := gp1n
   have h96 := slRep.st k_Point_pos h96 n100.ch (admNew n100.fresh (fun _ x => x))
   have h97 := slRep.st kInt_pos h97 n100.ch (admNew n100.fresh (fun _ x => x))
   have c83 := c83.then0 n100.ch
   refine rl_storeA (vs := (Group.c x80 z94 z95)) rfl rfl (Kd.one _ (show k_Group.rep (G F w.heap.size (un (inBlk (PV p98)) nb)) w99 x80 (Group.c x80 z94 z95) from ⟨z94, z95, rfl, h96, h97⟩)) Tryd.sizeOf108 rfl k101 rfl ?_
   intro w103 s105 c104 k106
   have ad107 : ∀ b, b < w99.heap.size → ¬ (un (inBlk (PV p98)) nb) b → ¬ (inBlk (PV p98)) b ∧ ¬ (un (inBlk (PV p98)) nb) b := fun b _ hs => ⟨fun h => hs (.inl h), hs⟩
   have ah0_0 := slRep.st k_Front_pos ah0_0 c104 ad107
   have ah0_1 := slRep.st k_Group_pos ah0_1 c104 ad107
   have ah0_2 := slRep.st k_Filter_pos ah0_2 c104 ad107
   have k4 := k4.ch c104 (ad107 _ k4.lt gp1.2).1
   have h96 := slRep.st k_Point_pos h96 c104 ad107
   have h97 := slRep.st kInt_pos h97 c104 ad107
   have c83 := c83.then c104 (fun i hi h => absurd (lo102 i h) (Nat.not_le_of_lt hi))
   refine RL.nil (thn_n (CW.seq (CW.region ?_)))
   refine rl_fieldAddr rfl fa108_0 rfl ?_
   refine rl_fieldAddr rfl fa102_0 rfl ?_
   refine rl_fieldAddr rfl fa34_0 rfl ?_
   refine rl_loadS (v := (Value.string x80.id.service.space)) rfl Tryd.isAgg9 (k106.cell rfl) rfl ?_
   refine rl_lenStr rfl Tryd.underlying9 rfl ?_
   refine rl_bin rfl rfl B.gtr rfl ?_
   refine rl_move rfl rfl ?_
   obtain ⟨b110, hb111⟩ : ∃ v, ((decide (((x80.id.service.space.size : Nat) : Int) > 100)) || (decide (((x80.id.service.name.size : Nat) : Int) > 100))) = v := ⟨_, rfl⟩
   have hb77 := ltS hb111 hb77
   refine RL.join 7 76 (.bool b110) (fun w' => Ch nb w103 w') ?_ ?_
   · rcases Bool.eq_false_or_eq_true (decide (((x80.id.service.space.size : Nat) : Int) > 100)) with hg109 | hg109
     ·
      have hs108 := or_t hg109 hb111
      have cs : Ch nb w103 w103 := Ch.refl
      refine RL.no rfl rfl rfl hg109 rfl rfl ?_
      refine RL.no rfl rfl rfl hg109 rfl rfl ?_
      refine RL.no rfl rfl rfl hg109 rfl rfl ?_
      refine RL.no rfl rfl rfl hg109 rfl rfl ?_
      refine RL.no rfl rfl rfl hg109 rfl rfl ?_
      refine RL.no rfl rfl rfl hg109 rfl rfl ?_
      refine rl_pickT rfl hg109 rfl rfl ?_
      exact RL.nil ⟨Ext.bothEq (congrArg Value.bool hs108) (Ext.skip rfl (Ext.skip rfl (Ext.skip rfl (Ext.skip rfl (Ext.skip rfl (Ext.skip rfl (Ext.rfl'))))))), cs⟩
     ·
      have hs108 := or_f hg109 hb111
      have cs : Ch nb w103 w103 := Ch.refl
      refine RL.yes rfl rfl rfl hg109 ?_
      refine rl_fieldAddr rfl fa108_0 rfl ?_
      refine RL.yes rfl rfl rfl hg109 ?_
      refine rl_fieldAddr rfl fa102_0 rfl ?_
      refine RL.yes rfl rfl rfl hg109 ?_
      refine rl_fieldAddr rfl fa34_1 rfl ?_
      refine RL.yes rfl rfl rfl hg109 ?_
      refine rl_loadS (v := (Value.string x80.id.service.name)) rfl Tryd.isAgg9 (k106.cell rfl) rfl ?_
      refine RL.yes rfl rfl rfl hg109 ?_
      refine rl_lenStr rfl Tryd.underlying9 rfl ?_
      refine RL.yes rfl rfl rfl hg109 ?_
      refine rl_bin rfl rfl B.gtr rfl ?_
      refine rl_pickF rfl hg109 rfl rfl ?_
      exact RL.nil ⟨Ext.bothEq (congrArg Value.bool hs108) (Ext.skip rfl (Ext.skip rfl (Ext.skip rfl (Ext.skip rfl (Ext.skip rfl (Ext.skip rfl (Ext.rfl'))))))), cs⟩
   intro w112 c113
   have ah0_0 := slRep.ch k_Front_pos ah0_0 c113
   have ah0_1 := slRep.ch k_Group_pos ah0_1 c113
   have ah0_2 := slRep.ch k_Filter_pos ah0_2 c113
   have k4 := k4.ch0 c113
   have h96 := slRep.ch k_Point_pos h96 c113
   have h97 := slRep.ch kInt_pos h97 c113
   have k106 := k106.ch0 c113
   have c83 := c83.then0 c113
   refine rl_move rfl rfl ?_
   obtain ⟨b116, hb117⟩ : ∃ v, (b110 || (decide (((x80.id.name.size : Nat) : Int) > 100))) = v := ⟨_, rfl⟩
   have hb77 := ltS hb117 hb77
   refine RL.join 6 83 (.bool b116) (fun w' => Ch nb w112 w') ?_ ?_
   · rcases Bool.eq_false_or_eq_true b110 with hg115 | hg115
     ·
      have hs114 := or_t hg115 hb117
      have cs : Ch nb w112 w112 := Ch.refl
      refine RL.no rfl rfl rfl hg115 rfl rfl ?_
      refine RL.no rfl rfl rfl hg115 rfl rfl ?_
      refine RL.no rfl rfl rfl hg115 rfl rfl ?_
      refine RL.no rfl rfl rfl hg115 rfl rfl ?_
      refine RL.no rfl rfl rfl hg115 rfl rfl ?_
      refine rl_pickT rfl hg115 rfl rfl ?_
      exact RL.nil ⟨Ext.bothEq (congrArg Value.bool hs114) (Ext.skip rfl (Ext.skip rfl (Ext.skip rfl (Ext.skip rfl (Ext.skip rfl (Ext.rfl')))))), cs⟩
     ·
      have hs114 := or_f hg115 hb117
      have cs : Ch nb w112 w112 := Ch.refl
      refine RL.yes rfl rfl rfl hg115 ?_
      refine rl_fieldAddr rfl fa108_0 rfl ?_
      refine RL.yes rfl rfl rfl hg115 ?_
      refine rl_fieldAddr rfl fa102_1 rfl ?_
      refine RL.yes rfl rfl rfl hg115 ?_
      refine rl_loadS (v := (Value.string x80.id.name)) rfl Tryd.isAgg9 (k106.cell rfl) rfl ?_
      refine RL.yes rfl rfl rfl hg115 ?_
      refine rl_lenStr rfl Tryd.underlying9 rfl ?_
      refine RL.yes rfl rfl rfl hg115 ?_
      refine rl_bin rfl rfl B.gtr rfl ?_
      refine rl_pickF rfl hg115 rfl rfl ?_
      exact RL.nil ⟨Ext.bothEq (congrArg Value.bool hs114) (Ext.skip rfl (Ext.skip rfl (Ext.skip rfl (Ext.skip rfl (Ext.skip rfl (Ext.rfl')))))), cs⟩
   intro w118 c119
   have ah0_0 := slRep.ch k_Front_pos ah0_0 c119
   have ah0_1 := slRep.ch k_Group_pos ah0_1 c119
   have ah0_2 := slRep.ch k_Filter_pos ah0_2 c119
   have k4 := k4.ch0 c119
   have h96 := slRep.ch k_Point_pos h96 c119
   have h97 := slRep.ch kInt_pos h97 c119
   have k106 := k106.ch0 c119
   have c83 := c83.then0 c119
   refine rl_move rfl rfl ?_
   obtain ⟨b122, hb123⟩ : ∃ v, (b116 || (decide (((x80.table.backends.length : Nat) : Int) > 30))) = v := ⟨_, rfl⟩
   have hb77 := ltS hb123 hb77
   refine RL.join 6 90 (.bool b122) (fun w' => Ch nb w118 w') ?_ ?_
   · rcases Bool.eq_false_or_eq_true b116 with hg121 | hg121
     ·
      have hs120 := or_t hg121 hb123
      have cs : Ch nb w118 w118 := Ch.refl
      refine RL.no rfl rfl rfl hg121 rfl rfl ?_
      refine RL.no rfl rfl rfl hg121 rfl rfl ?_
      refine RL.no rfl rfl rfl hg121 rfl rfl ?_
      refine RL.no rfl rfl rfl hg121 rfl rfl ?_
      refine RL.no rfl rfl rfl hg121 rfl rfl ?_
      refine rl_pickT rfl hg121 rfl rfl ?_
      exact RL.nil ⟨Ext.bothEq (congrArg Value.bool hs120) (Ext.skip rfl (Ext.skip rfl (Ext.skip rfl (Ext.skip rfl (Ext.skip rfl (Ext.rfl')))))), cs⟩
     ·
      have hs120 := or_f hg121 hb123
      have cs : Ch nb w118 w118 := Ch.refl
      refine RL.yes rfl rfl rfl hg121 ?_
      refine rl_fieldAddr rfl fa108_1 rfl ?_
      refine RL.yes rfl rfl rfl hg121 ?_
      refine rl_fieldAddr rfl fa106_1 rfl ?_
      refine RL.yes rfl rfl rfl hg121 ?_
      refine rl_loadS (v := z94) rfl Tryd.isAgg103 (k106.cell rfl) rfl ?_
      refine RL.yes rfl rfl rfl hg121 ?_
      refine rl_lenR rfl h96 Tryd.underlying103 rfl ?_
      refine RL.yes rfl rfl rfl hg121 ?_
      refine rl_bin rfl rfl B.gtr rfl ?_
      refine rl_pickF rfl hg121 rfl rfl ?_
      exact RL.nil ⟨Ext.bothEq (congrArg Value.bool hs120) (Ext.skip rfl (Ext.skip rfl (Ext.skip rfl (Ext.skip rfl (Ext.skip rfl (Ext.rfl')))))), cs⟩
   intro w124 c125
   have ah0_0 := slRep.ch k_Front_pos ah0_0 c125
   have ah0_1 := slRep.ch k_Group_pos ah0_1 c125
   have ah0_2 := slRep.ch k_Filter_pos ah0_2 c125
   have k4 := k4.ch0 c125
   have h97 := slRep.ch kInt_pos h97 c125
   have k106 := k106.ch0 c125
   have c83 := c83.then0 c125
   refine rl_move rfl rfl ?_
   obtain ⟨b128, hb129⟩ : ∃ v, (b122 || (decide (((x80.table.slots.length : Nat) : Int) > 260))) = v := ⟨_, rfl⟩
   have hb77 := ltS hb129 hb77
   refine RL.join 6 97 (.bool b128) (fun w' => Ch nb w124 w') ?_ ?_
   · rcases Bool.eq_false_or_eq_true b122 with hg127 | hg127
     ·
      have hs126 := or_t hg127 hb129
      have cs : Ch nb w124 w124 := Ch.refl
      refine RL.no rfl rfl rfl hg127 rfl rfl ?_
      refine RL.no rfl rfl rfl hg127 rfl rfl ?_
      refine RL.no rfl rfl rfl hg127 rfl rfl ?_
      refine RL.no rfl rfl rfl hg127 rfl rfl ?_
      refine RL.no rfl rfl rfl hg127 rfl rfl ?_
      refine rl_pickT rfl hg127 rfl rfl ?_
      exact RL.nil ⟨Ext.bothEq (congrArg Value.bool hs126) (Ext.skip rfl (Ext.skip rfl (Ext.skip rfl (Ext.skip rfl (Ext.skip rfl (Ext.rfl')))))), cs⟩
     ·
      have hs126 := or_f hg127 hb129
      have cs : Ch nb w124 w124 := Ch.refl
      refine RL.yes rfl rfl rfl hg127 ?_
      refine rl_fieldAddr rfl fa108_1 rfl ?_
      refine RL.yes rfl rfl rfl hg127 ?_
      refine rl_fieldAddr rfl fa106_2 rfl ?_
      refine RL.yes rfl rfl rfl hg127 ?_
      refine rl_loadS (v := z95) rfl Tryd.isAgg104 (k106.cell rfl) rfl ?_
      refine RL.yes rfl rfl rfl hg127 ?_
      refine rl_lenR rfl h97 Tryd.underlying104 rfl ?_
      refine RL.yes rfl rfl rfl hg127 ?_
      refine rl_bin rfl rfl B.gtr rfl ?_
      refine rl_pickF rfl hg127 rfl rfl ?_
      exact RL.nil ⟨Ext.bothEq (congrArg Value.bool hs126) (Ext.skip rfl (Ext.skip rfl (Ext.skip rfl (Ext.skip rfl (Ext.skip rfl (Ext.rfl')))))), cs⟩
   intro w130 c131
   have ah0_0 := slRep.ch k_Front_pos ah0_0 c131
   have ah0_1 := slRep.ch k_Group_pos ah0_1 c131
   have ah0_2 := slRep.ch k_Filter_pos ah0_2 c131
   have k4 := k4.ch0 c131
   have c83 := c83.then0 c131
   refine RL.nil (thn_n ?_)
   refine CW.cond (t := b128) rfl (fun q132 => ?_) (fun q132 => ?_)
   ·
    have hb77 := ifT q132 hb77
    refine CW.seq (CW.region ?_)
    refine rl_assign rfl rfl ?_
    refine RL.nil (thn_n (CW.ret ?_))
    refine inB_ret ?_
    refine thn_ret ?_
    refine thn_ret (inB_ret (thn_ret ?_))
    refine thn_ret ?_
    have f133 := runB_ret hL73 (hb77.trans hq76.symm)
    have hS := retS f133 hS
    obtain rfl := hS
    exact ret1 rfl ⟨rfl, c83⟩
   have hb77 := ifF q132 hb77
   refine CW.skip ?_
   refine inB_n ?_
   refine thn_n (CW.region ?_)
   refine rl_inc rfl hat74.lt ah0_1.big rfl ?_
   refine rl_move rfl rfl ?_
   refine RL.nil (thn_n ?_)
   have ad134 : ∀ b, b < w130.heap.size → ¬ (un (inBlk (PV p98)) nb) b → ¬ nb b ∧ ¬ nb b := fun b _ hs => ⟨fun x => x, fun h => hs (False.elim h)⟩
   have crf : Ch nb w130 w130 := Ch.refl
   have ah0_0 := slRep.st k_Front_pos ah0_0 crf ad134
   have ah0_1 := slRep.st k_Group_pos ah0_1 crf ad134
   have ah0_2 := slRep.st k_Filter_pos ah0_2 crf ad134
   have gp1n : (G F w.heap.size nb) p1 := ⟨gp1.1, (ad134 _ k4.lt gp1.2).2⟩
   have k4 := k4.ch0 crf
   have gp1 := gp1n
   have c83 := c83.then0 crf
   have hLn := runB_next hL73 (hb77.trans hq76.symm)
   exact ⟨rest87.length, Nat.lt_succ_self _, [(2, (PV p1)), (57, az0_1), (58, (Value.int .i64 ((a0.groups.length : Nat) : Int))), (59, (Value.int .i64 ((i72 + 1 : Nat) : Int)))], ⟨rfl, rfl, rfl, rfl, trivial⟩, ⟨rest87, i72 + 1, rfl, rfl, c83, hat74.next, hLn, ah0_0, ah0_1, ah0_2, k4, gp1⟩⟩
  obtain rfl := hat74.nil q86
  have hLf : Lp.fin () = o78 := hL73
  refine CW.exit (thn_exit (thn_exit (inB_hit ?_)))
  exact ⟨(), ⟨rfl, trivial⟩, c83, hLf, ah0_0, ah0_1, ah0_2, k4, gp1⟩
 rintro _ w136 ⟨_, hE137, c135, f138, ah0_0, ah0_1, ah0_2, k4, gp1⟩
 have hS := finS f138 hS
 refine thn_n (CW.sub [(2, (PV p1))] hE137 ?_)
 refine CW.seq ?_
 refine CW.seq (CW.region ?_)
 refine rl_fieldAddr rfl fa76_2 rfl ?_
 refine rl_loadS (v := az0_2) rfl Tryd.isAgg74 (k4.cell rfl) rfl ?_
 refine rl_lenR rfl ah0_2 Tryd.underlying74 rfl ?_
 refine rl_move rfl rfl ?_
 refine RL.nil (thn_n ?_)
 obtain ⟨o147, ho148⟩ : ∃ o, runB F23_Long_b3 a0.filters () = o := ⟨_, rfl⟩
 have hS := ltS ho148 hS
 refine CW.cutB (fun E' w' => ∃ (_ : Unit), Sub [] E' ∧ Ch nb w w' ∧ Lp.fin () = o147 ∧ slRep k_Front (G F w.heap.size nb) w' a0.fronts az0_0 ∧ slRep k_Group (G F w.heap.size nb) w' a0.groups az0_1 ∧ slRep k_Filter (G F w.heap.size nb) w' a0.filters az0_2 ∧ Blk w' p1 76 (Rows.c a0 az0_0 az0_1 az0_2) ∧ (G F w.heap.size nb) p1) ?_ ?_
 ·
  refine CW.loopS [(100, az0_2), (101, (Value.int .i64 ((a0.filters.length : Nat) : Int))), (102, (Value.int .i64 ((0 : Nat) : Int)))] ⟨rfl, rfl, rfl, trivial⟩ a0.filters.length (fun m E w' => ∃ (rest140 : List Filter) (i141 : Nat) , m = rest140.length ∧ E = [(100, az0_2), (101, (Value.int .i64 ((a0.filters.length : Nat) : Int))), (102, (Value.int .i64 ((i141 : Nat) : Int)))] ∧ Ch nb w w' ∧ At a0.filters i141 rest140 ∧ runB F23_Long_b3 rest140 () = o147 ∧ slRep k_Front (G F w.heap.size nb) w' a0.fronts az0_0 ∧ slRep k_Group (G F w.heap.size nb) w' a0.groups az0_1 ∧ slRep k_Filter (G F w.heap.size nb) w' a0.filters az0_2 ∧ Blk w' p1 76 (Rows.c a0 az0_0 az0_1 az0_2) ∧ (G F w.heap.size nb) p1)
      ⟨a0.filters, 0, rfl, rfl, c135, At.start, ho148, ah0_0, ah0_1, ah0_2, k4, gp1⟩ ?_
  rintro _ _ w153 ⟨rest140, i141, rfl, rfl, c152, hat143, hL142, ah0_0, ah0_1, ah0_2, k4, gp1⟩
  refine CW.seq (CW.region ?_)
  refine rl_bin rfl rfl B.lss rfl ?_
  refine RL.nil (thn_n ?_)
  refine CW.seq ?_
  refine CW.cond (t := decide (((i141 : Nat) : Int) < ((a0.filters.length : Nat) : Int))) rfl (fun q155 => ?_) (fun q155 => ?_)
  ·
   obtain ⟨x149, rest156, rfl⟩ := hat143.cons q155
   obtain ⟨q144, hq145⟩ : ∃ q, F23_Long_b3 x149 () = q := ⟨_, rfl⟩
   have hb146 := hq145
   refine CW.skip (thn_n ?_)
   refine CW.seq ?_
   refine CW.block ?_
   refine CW.seq (CW.region ?_)
   refine rl_ixR rfl ah0_2 rfl hat143.get Tryd.underlying74 Tryd.sizeOf111 rfl ?_
   intro p157 o158 cs159 hr160 hs161 hg162
   obtain ⟨z163, rfl, h164⟩ := hr160
   refine rl_loadA (cs := (Filter.c x149 z163)) rfl Tryd.isAgg111 Tryd.sizeOf111 (hs161) rfl rfl ?_
   refine rl_alloc (Filter.c Filter.z (Value.slice none 0 0)) Tryd.zeroValue111 rfl rfl ?_
   intro p165 w166 n167 k168
   have lo169 : ∀ b, inBlk (PV p165) b → w.heap.size ≤ b := fun b h => Nat.le_trans c152.size (n167.fresh b h)
   have ah0_0 := slRep.st k_Front_pos ah0_0 n167.ch (admNew n167.fresh (fun _ x => x))
   have ah0_1 := slRep.st k_Group_pos ah0_1 n167.ch (admNew n167.fresh (fun _ x => x))
   have ah0_2 := slRep.st k_Filter_pos ah0_2 n167.ch (admNew n167.fresh (fun _ x => x))
   have gp1n : (G F w.heap.size (un (inBlk (PV p165)) nb)) p1 := ⟨gp1.1, ((admNew n167.fresh (fun _ x => x)) _ k4.lt gp1.2).2⟩
   have k4 := k4.ch0 n167.ch
   have gp1 := gp1n
   have h164 := slRep.st k_Cidr_pos h164 n167.ch (admNew n167.fresh (fun _ x => x))
   have c152 := c152.then0 n167.ch
   refine rl_storeA (vs := (Filter.c x149 z163)) rfl rfl (Kd.one _ (show k_Filter.rep (G F w.heap.size (un (inBlk (PV p165)) nb)) w166 x149 (Filter.c x149 z163) from ⟨z163, rfl, h164⟩)) Tryd.sizeOf111 rfl k168 rfl ?_
   intro w170 s172 c171 k173
   have ad174 : ∀ b, b < w166.heap.size → ¬ (un (inBlk (PV p165)) nb) b → ¬ (inBlk (PV p165)) b ∧ ¬ (un (inBlk (PV p165)) nb) b := fun b _ hs => ⟨fun h => hs (.inl h), hs⟩
   have ah0_0 := slRep.st k_Front_pos ah0_0 c171 ad174
   have ah0_1 := slRep.st k_Group_pos ah0_1 c171 ad174
   have ah0_2 := slRep.st k_Filter_pos ah0_2 c171 ad174
   have k4 := k4.ch c171 (ad174 _ k4.lt gp1.2).1
   have h164 := slRep.st k_Cidr_pos h164 c171 ad174
   have c152 := c152.then c171 (fun i hi h => absurd (lo169 i h) (Nat.not_le_of_lt hi))
   refine RL.nil (thn_n (CW.seq (CW.region ?_)))
   refine rl_fieldAddr rfl fa111_0 rfl ?_
   refine rl_fieldAddr rfl fa34_0 rfl ?_
   refine rl_loadS (v := (Value.string x149.service.space)) rfl Tryd.isAgg9 (k173.cell rfl) rfl ?_
   refine rl_lenStr rfl Tryd.underlying9 rfl ?_
   refine rl_bin rfl rfl B.gtr rfl ?_
   refine rl_move rfl rfl ?_
   obtain ⟨b177, hb178⟩ : ∃ v, ((decide (((x149.service.space.size : Nat) : Int) > 100)) || (decide (((x149.service.name.size : Nat) : Int) > 100))) = v := ⟨_, rfl⟩
   have hb146 := ltS hb178 hb146
   refine RL.join 6 117 (.bool b177) (fun w' => Ch nb w170 w') ?_ ?_
   · rcases Bool.eq_false_or_eq_true (decide (((x149.service.space.size : Nat) : Int) > 100)) with hg176 | hg176
     ·
      have hs175 := or_t hg176 hb178
      have cs : Ch nb w170 w170 := Ch.refl
      refine RL.no rfl rfl rfl hg176 rfl rfl ?_
      refine RL.no rfl rfl rfl hg176 rfl rfl ?_
      refine RL.no rfl rfl rfl hg176 rfl rfl ?_
      refine RL.no rfl rfl rfl hg176 rfl rfl ?_
      refine RL.no rfl rfl rfl hg176 rfl rfl ?_
      refine rl_pickT rfl hg176 rfl rfl ?_
      exact RL.nil ⟨Ext.bothEq (congrArg Value.bool hs175) (Ext.skip rfl (Ext.skip rfl (Ext.skip rfl (Ext.skip rfl (Ext.skip rfl (Ext.rfl')))))), cs⟩
     ·
      have hs175 := or_f hg176 hb178
      have cs : Ch nb w170 w170 := Ch.refl
      refine RL.yes rfl rfl rfl hg176 ?_
      refine rl_fieldAddr rfl fa111_0 rfl ?_
      refine RL.yes rfl rfl rfl hg176 ?_
      refine rl_fieldAddr rfl fa34_1 rfl ?_
      refine RL.yes rfl rfl rfl hg176 ?_
      refine rl_loadS (v := (Value.string x149.service.name)) rfl Tryd.isAgg9 (k173.cell rfl) rfl ?_
      refine RL.yes rfl rfl rfl hg176 ?_
      refine rl_lenStr rfl Tryd.underlying9 rfl ?_
      refine RL.yes rfl rfl rfl hg176 ?_
      refine rl_bin rfl rfl B.gtr rfl ?_
      refine rl_pickF rfl hg176 rfl rfl ?_
      exact RL.nil ⟨Ext.bothEq (congrArg Value.bool hs175) (Ext.skip rfl (Ext.skip rfl (Ext.skip rfl (Ext.skip rfl (Ext.skip rfl (Ext.rfl')))))), cs⟩
   intro w179 c180
   have ah0_0 := slRep.ch k_Front_pos ah0_0 c180
   have ah0_1 := slRep.ch k_Group_pos ah0_1 c180
   have ah0_2 := slRep.ch k_Filter_pos ah0_2 c180
   have k4 := k4.ch0 c180
   have h164 := slRep.ch k_Cidr_pos h164 c180
   have k173 := k173.ch0 c180
   have c152 := c152.then0 c180
   refine rl_move rfl rfl ?_
   obtain ⟨b183, hb184⟩ : ∃ v, (b177 || (decide (((x149.ranges.length : Nat) : Int) > 20))) = v := ⟨_, rfl⟩
   have hb146 := ltS hb184 hb146
   refine RL.join 5 123 (.bool b183) (fun w' => Ch nb w179 w') ?_ ?_
   · rcases Bool.eq_false_or_eq_true b177 with hg182 | hg182
     ·
      have hs181 := or_t hg182 hb184
      have cs : Ch nb w179 w179 := Ch.refl
      refine RL.no rfl rfl rfl hg182 rfl rfl ?_
      refine RL.no rfl rfl rfl hg182 rfl rfl ?_
      refine RL.no rfl rfl rfl hg182 rfl rfl ?_
      refine RL.no rfl rfl rfl hg182 rfl rfl ?_
      refine rl_pickT rfl hg182 rfl rfl ?_
      exact RL.nil ⟨Ext.bothEq (congrArg Value.bool hs181) (Ext.skip rfl (Ext.skip rfl (Ext.skip rfl (Ext.skip rfl (Ext.rfl'))))), cs⟩
     ·
      have hs181 := or_f hg182 hb184
      have cs : Ch nb w179 w179 := Ch.refl
      refine RL.yes rfl rfl rfl hg182 ?_
      refine rl_fieldAddr rfl fa111_1 rfl ?_
      refine RL.yes rfl rfl rfl hg182 ?_
      refine rl_loadS (v := z163) rfl Tryd.isAgg109 (k173.cell rfl) rfl ?_
      refine RL.yes rfl rfl rfl hg182 ?_
      refine rl_lenR rfl h164 Tryd.underlying109 rfl ?_
      refine RL.yes rfl rfl rfl hg182 ?_
      refine rl_bin rfl rfl B.gtr rfl ?_
      refine rl_pickF rfl hg182 rfl rfl ?_
      exact RL.nil ⟨Ext.bothEq (congrArg Value.bool hs181) (Ext.skip rfl (Ext.skip rfl (Ext.skip rfl (Ext.skip rfl (Ext.rfl'))))), cs⟩
   intro w185 c186
   have ah0_0 := slRep.ch k_Front_pos ah0_0 c186
   have ah0_1 := slRep.ch k_Group_pos ah0_1 c186
   have ah0_2 := slRep.ch k_Filter_pos ah0_2 c186
   have k4 := k4.ch0 c186
   have c152 := c152.then0 c186
   refine RL.nil (thn_n ?_)
   refine CW.cond (t := b183) rfl (fun q187 => ?_) (fun q187 => ?_)
   ·
    have hb146 := ifT q187 hb146
    refine CW.seq (CW.region ?_)
    refine rl_assign rfl rfl ?_
    refine RL.nil (thn_n (CW.ret ?_))
    refine inB_ret ?_
    refine thn_ret ?_
    refine thn_ret (inB_ret (thn_ret ?_))
    refine thn_ret ?_
    have f188 := runB_ret hL142 (hb146.trans hq145.symm)
    have hS := retS f188 hS
    obtain rfl := hS
    exact ret1 rfl ⟨rfl, c152⟩
   have hb146 := ifF q187 hb146
   refine CW.skip ?_
   refine inB_n ?_
   refine thn_n (CW.region ?_)
   refine rl_inc rfl hat143.lt ah0_2.big rfl ?_
   refine rl_move rfl rfl ?_
   refine RL.nil (thn_n ?_)
   have ad189 : ∀ b, b < w185.heap.size → ¬ (un (inBlk (PV p165)) nb) b → ¬ nb b ∧ ¬ nb b := fun b _ hs => ⟨fun x => x, fun h => hs (False.elim h)⟩
   have crf : Ch nb w185 w185 := Ch.refl
   have ah0_0 := slRep.st k_Front_pos ah0_0 crf ad189
   have ah0_1 := slRep.st k_Group_pos ah0_1 crf ad189
   have ah0_2 := slRep.st k_Filter_pos ah0_2 crf ad189
   have gp1n : (G F w.heap.size nb) p1 := ⟨gp1.1, (ad189 _ k4.lt gp1.2).2⟩
   have k4 := k4.ch0 crf
   have gp1 := gp1n
   have c152 := c152.then0 crf
   have hLn := runB_next hL142 (hb146.trans hq145.symm)
   exact ⟨rest156.length, Nat.lt_succ_self _, [(100, az0_2), (101, (Value.int .i64 ((a0.filters.length : Nat) : Int))), (102, (Value.int .i64 ((i141 + 1 : Nat) : Int)))], ⟨rfl, rfl, rfl, trivial⟩, ⟨rest156, i141 + 1, rfl, rfl, c152, hat143.next, hLn, ah0_0, ah0_1, ah0_2, k4, gp1⟩⟩
  obtain rfl := hat143.nil q155
  have hLf : Lp.fin () = o147 := hL142
  refine CW.exit (thn_exit (thn_exit (inB_hit ?_)))
  exact ⟨(), trivial, c152, hLf, ah0_0, ah0_1, ah0_2, k4, gp1⟩
 rintro _ w191 ⟨_, hE192, c190, f193, ah0_0, ah0_1, ah0_2, k4, gp1⟩
 have hS := finS f193 hS
 refine thn_n (CW.sub [] hE192 ?_)
 refine CW.seq (CW.region ?_)
 refine rl_assign rfl rfl ?_
 refine RL.nil (thn_n (CW.ret ?_))
 obtain rfl := hS
 exact ret1 rfl ⟨rfl, c190⟩
theorem ctr6 (F : Nat → Prop) (w : World) (a0 : (List Act)) (av0 : Value) (ah0 : slRep k_Act F w a0 av0) (r : Bool) (hs : F6_Long a0 = r) :
    Ret Tryd.prog 6 #[av0] w fun v w' => v = (Value.bool r) ∧ Ch nb w w' := by
 have hS := hs
 have c0 : Ch nb w w := Ch.refl
 have ah0 := slRep.enter k_Act_pos ah0
 refine Ret.of (n := 28) (args := [_]) (rs := [.tmp 2]) Tryd.func6 rfl rfl rfl rfl ?_
 refine CW.seq (CW.region ?_)
 refine rl_assign rfl rfl ?_
 refine RL.nil (thn_n (CW.seq ?_))
 refine CW.seq (CW.region ?_)
 refine rl_move rfl rfl ?_
 refine rl_lenR rfl ah0 Tryd.underlying22 rfl ?_
 refine rl_bin rfl rfl B.gtr rfl ?_
 refine RL.nil (thn_n ?_)
 refine CW.cond (t := decide (((a0.length : Nat) : Int) > 60)) rfl (fun q1 => ?_) (fun q1 => ?_)
 ·
  have hS := ifT q1 hS
  refine CW.seq (CW.region ?_)
  refine rl_assign rfl rfl ?_
  refine RL.nil (thn_n (CW.ret ?_))
  refine thn_ret ?_
  obtain rfl := hS
  exact ret1 rfl ⟨rfl, c0⟩
 have hS := ifF q1 hS
 refine CW.skip ?_
 refine thn_n (CW.seq ?_)
 refine CW.seq (CW.region ?_)
 refine rl_move rfl rfl ?_
 refine rl_lenR rfl ah0 Tryd.underlying22 rfl ?_
 refine rl_move rfl rfl ?_
 refine RL.nil (thn_n ?_)
 obtain ⟨o9, ho10⟩ : ∃ o, runB F6_Long_b1 a0 () = o := ⟨_, rfl⟩
 have hS := ltS ho10 hS
 refine CW.cutB (fun E' w' => ∃ (_ : Unit), Sub [] E' ∧ Ch nb w w' ∧ Lp.fin () = o9 ∧ slRep k_Act (G F w.heap.size nb) w' a0 av0) ?_ ?_
 ·
  refine CW.loopS [(8, av0), (9, (Value.int .i64 ((a0.length : Nat) : Int))), (10, (Value.int .i64 ((0 : Nat) : Int)))] ⟨rfl, rfl, rfl, trivial⟩ a0.length (fun m E w' => ∃ (rest2 : List Act) (i3 : Nat) , m = rest2.length ∧ E = [(8, av0), (9, (Value.int .i64 ((a0.length : Nat) : Int))), (10, (Value.int .i64 ((i3 : Nat) : Int)))] ∧ Ch nb w w' ∧ At a0 i3 rest2 ∧ runB F6_Long_b1 rest2 () = o9 ∧ slRep k_Act (G F w.heap.size nb) w' a0 av0)
      ⟨a0, 0, rfl, rfl, c0, At.start, ho10, ah0⟩ ?_
  rintro _ _ w15 ⟨rest2, i3, rfl, rfl, c14, hat5, hL4, ah0⟩
  refine CW.seq (CW.region ?_)
  refine rl_bin rfl rfl B.lss rfl ?_
  refine RL.nil (thn_n ?_)
  refine CW.seq ?_
  refine CW.cond (t := decide (((i3 : Nat) : Int) < ((a0.length : Nat) : Int))) rfl (fun q17 => ?_) (fun q17 => ?_)
  ·
   obtain ⟨x11, rest18, rfl⟩ := hat5.cons q17
   obtain ⟨q6, hq7⟩ : ∃ q, F6_Long_b1 x11 () = q := ⟨_, rfl⟩
   have hb8 := hq7
   refine CW.skip (thn_n ?_)
   refine CW.seq ?_
   refine CW.block ?_
   refine CW.seq (CW.region ?_)
   refine rl_ixR rfl ah0 rfl hat5.get Tryd.underlying22 Tryd.sizeOf40 rfl ?_
   intro p19 o20 cs21 hr22 hs23 hg24
   obtain ⟨z25, rfl, h26⟩ := hr22
   refine rl_loadA (cs := (Act.c x11 z25)) rfl Tryd.isAgg40 Tryd.sizeOf40 (hs23) rfl rfl ?_
   refine rl_alloc (Act.c Act.z (Value.slice none 0 0)) Tryd.zeroValue40 rfl rfl ?_
   intro p27 w28 n29 k30
   have lo31 : ∀ b, inBlk (PV p27) b → w.heap.size ≤ b := fun b h => Nat.le_trans c14.size (n29.fresh b h)
   have ah0 := slRep.st k_Act_pos ah0 n29.ch (admNew n29.fresh (fun _ x => x))
   have h26 := slRep.st kInt_pos h26 n29.ch (admNew n29.fresh (fun _ x => x))
   have c14 := c14.then0 n29.ch
   refine rl_storeA (vs := (Act.c x11 z25)) rfl rfl (Kd.one _ (show k_Act.rep (G F w.heap.size (un (inBlk (PV p27)) nb)) w28 x11 (Act.c x11 z25) from ⟨z25, rfl, h26⟩)) Tryd.sizeOf40 rfl k30 rfl ?_
   intro w32 s34 c33 k35
   have ad36 : ∀ b, b < w28.heap.size → ¬ (un (inBlk (PV p27)) nb) b → ¬ (inBlk (PV p27)) b ∧ ¬ (un (inBlk (PV p27)) nb) b := fun b _ hs => ⟨fun h => hs (.inl h), hs⟩
   have ah0 := slRep.st k_Act_pos ah0 c33 ad36
   have h26 := slRep.st kInt_pos h26 c33 ad36
   have c14 := c14.then c33 (fun i hi h => absurd (lo31 i h) (Nat.not_le_of_lt hi))
   refine RL.nil (thn_n (CW.seq (CW.region ?_)))
   refine rl_fieldAddr rfl fa40_3 rfl ?_
   refine rl_fieldAddr rfl fa38_2 rfl ?_
   refine rl_loadA (cs := (Front.enc x11.out.front)) rfl Tryd.isAgg36 Tryd.sizeOf36 (k35.segAt 5 26) rfl rfl ?_
   refine rl_bslice (k := k_Front) (F := F) (B := w.heap.size) (S := (un (inBlk (PV p27)) nb)) ([x11.out.front] : List Front) rfl k_Front_pos Tryd.underlying72 Tryd.sizeOf36 Tryd.zeroValue36 rfl rfl ⟨rfl, rfl, trivial⟩ c14.size (un_lt k35.ltp nbS) rfl ?_
   intro v37 w38 c39 hf40 h41
   have h41 := h41.readNew k_Front_pos hf40 (un_lt k35.ltp nbS)
   have ah0 := slRep.ch k_Act_pos ah0 c39
   have h26 := slRep.ch kInt_pos h26 c39
   have k35 := k35.ch0 c39
   have c14 := c14.then0 c39
   refine rl_buildC (out := (Rows.c ({ fronts := [x11.out.front], groups := [], filters := [] } : Rows) v37 (Value.slice none 0 0) (Value.slice none 0 0))) [(0, [v37])] rfl (co_cons (one_toL h41.one.1) co_nil) pl76 Tryd.zeroValue76 rfl rfl rfl ?_
   obtain ⟨y44, hy45⟩ : ∃ y, F23_Long ({ fronts := [x11.out.front], groups := [], filters := [] } : Rows) 1 = y := ⟨_, rfl⟩
   have hb8 := ltS hy45 hb8
   refine rl_callF rfl en23 rfl (ctr23 (G F w.heap.size (un (inBlk (PV p27)) nb)) w38 ({ fronts := [x11.out.front], groups := [], filters := [] } : Rows) v37 (Value.slice none 0 0) (Value.slice none 0 0) h41 (.inl ⟨rfl, rfl⟩) (.inl ⟨rfl, rfl⟩) 1 y44 hy45) ?_
   rintro _ w42 ⟨rfl, c43⟩
   have ah0 := slRep.ch k_Act_pos ah0 c43
   have h26 := slRep.ch kInt_pos h26 c43
   have k35 := k35.ch0 c43
   have c14 := c14.then0 c43
   refine rl_move rfl rfl ?_
   obtain ⟨b48, hb49⟩ : ∃ v, (y44 || (decide (((x11.out.packet.length : Nat) : Int) > 400))) = v := ⟨_, rfl⟩
   have hb8 := ltS hb49 hb8
   refine RL.join 6 26 (.bool b48) (fun w' => Ch nb w42 w') ?_ ?_
   · rcases Bool.eq_false_or_eq_true y44 with hg47 | hg47
     ·
      have hs46 := or_t hg47 hb49
      have cs : Ch nb w42 w42 := Ch.refl
      refine RL.no rfl rfl rfl hg47 rfl rfl ?_
      refine RL.no rfl rfl rfl hg47 rfl rfl ?_
      refine RL.no rfl rfl rfl hg47 rfl rfl ?_
      refine RL.no rfl rfl rfl hg47 rfl rfl ?_
      refine RL.no rfl rfl rfl hg47 rfl rfl ?_
      refine rl_pickT rfl hg47 rfl rfl ?_
      exact RL.nil ⟨Ext.bothEq (congrArg Value.bool hs46) (Ext.skip rfl (Ext.skip rfl (Ext.skip rfl (Ext.skip rfl (Ext.skip rfl (Ext.rfl')))))), cs⟩
     ·
      have hs46 := or_f hg47 hb49
      have cs : Ch nb w42 w42 := Ch.refl
      refine RL.yes rfl rfl rfl hg47 ?_
      refine rl_fieldAddr rfl fa40_3 rfl ?_
      refine RL.yes rfl rfl rfl hg47 ?_
      refine rl_fieldAddr rfl fa38_1 rfl ?_
      refine RL.yes rfl rfl rfl hg47 ?_
      refine rl_loadS (v := z25) rfl Tryd.isAgg27 (k35.cell rfl) rfl ?_
      refine RL.yes rfl rfl rfl hg47 ?_
      refine rl_lenR rfl h26 Tryd.underlying27 rfl ?_
      refine RL.yes rfl rfl rfl hg47 ?_
      refine rl_bin rfl rfl B.gtr rfl ?_
      refine rl_pickF rfl hg47 rfl rfl ?_
      exact RL.nil ⟨Ext.bothEq (congrArg Value.bool hs46) (Ext.skip rfl (Ext.skip rfl (Ext.skip rfl (Ext.skip rfl (Ext.skip rfl (Ext.rfl')))))), cs⟩
   intro w50 c51
   have ah0 := slRep.ch k_Act_pos ah0 c51
   have c14 := c14.then0 c51
   refine RL.nil (thn_n ?_)
   refine CW.cond (t := b48) rfl (fun q52 => ?_) (fun q52 => ?_)
   ·
    have hb8 := ifT q52 hb8
    refine CW.seq (CW.region ?_)
    refine rl_assign rfl rfl ?_
    refine RL.nil (thn_n (CW.ret ?_))
    refine inB_ret ?_
    refine thn_ret ?_
    refine thn_ret (inB_ret (thn_ret ?_))
    refine thn_ret ?_
    have f53 := runB_ret hL4 (hb8.trans hq7.symm)
    have hS := retS f53 hS
    obtain rfl := hS
    exact ret1 rfl ⟨rfl, c14⟩
   have hb8 := ifF q52 hb8
   refine CW.skip ?_
   refine inB_n ?_
   refine thn_n (CW.region ?_)
   refine rl_inc rfl hat5.lt ah0.big rfl ?_
   refine rl_move rfl rfl ?_
   refine RL.nil (thn_n ?_)
   have ad54 : ∀ b, b < w50.heap.size → ¬ (un (inBlk (PV p27)) nb) b → ¬ nb b ∧ ¬ nb b := fun b _ hs => ⟨fun x => x, fun h => hs (False.elim h)⟩
   have crf : Ch nb w50 w50 := Ch.refl
   have ah0 := slRep.st k_Act_pos ah0 crf ad54
   have c14 := c14.then0 crf
   have hLn := runB_next hL4 (hb8.trans hq7.symm)
   exact ⟨rest18.length, Nat.lt_succ_self _, [(8, av0), (9, (Value.int .i64 ((a0.length : Nat) : Int))), (10, (Value.int .i64 ((i3 + 1 : Nat) : Int)))], ⟨rfl, rfl, rfl, trivial⟩, ⟨rest18, i3 + 1, rfl, rfl, c14, hat5.next, hLn, ah0⟩⟩
  obtain rfl := hat5.nil q17
  have hLf : Lp.fin () = o9 := hL4
  refine CW.exit (thn_exit (thn_exit (inB_hit ?_)))
  exact ⟨(), trivial, c14, hLf, ah0⟩
 rintro _ w56 ⟨_, hE57, c55, f58, ah0⟩
 have hS := finS f58 hS
 refine thn_n (CW.sub [] hE57 ?_)
 refine CW.seq (CW.region ?_)
 refine rl_assign rfl rfl ?_
 refine RL.nil (thn_n (CW.ret ?_))
 obtain rfl := hS
 exact ret1 rfl ⟨rfl, c55⟩
theorem ctr13 (F : Nat → Prop) (w : World) (Bb : Nat) (S2 : Nat → Prop) (hB : Bb ≤ w.heap.size) (h2 : ∀ b, S2 b → b < w.heap.size) (po0 : Nat) (az0_0 : Value) (hd2 : ∀ b, (un (inBlk (PV po0)) (inBlk az0_0)) b → ¬ S2 b) (hx0_1 : ∀ b, inBlk (PV po0) b → ¬ inBlk az0_0 b) (a0 : Stats) (ah0 : Blk w po0 81 (Stats.c a0 az0_0)) (ah0_0 : Mp (fun x => Value.agg (Key.enc x).toArray) (fun x => Value.agg (Service.enc x).toArray) w a0.services az0_0) (r : Stats) (hs : F13_Reset a0 = r) :
    Ret Tryd.prog 13 #[(PV po0)] w fun v w' => ∃ (nz0_0 : Value), v = Value.tuple #[] ∧ Blk w' po0 81 (Stats.c r nz0_0) ∧ Mp (fun x => Value.agg (Key.enc x).toArray) (fun x => Value.agg (Service.enc x).toArray) w' r.services nz0_0 ∧ (∀ b, inBlk nz0_0 b → (un (inBlk (PV po0)) (inBlk az0_0)) b ∨ w.heap.size ≤ b) ∧ (∀ b, inBlk (PV po0) b → ¬ inBlk nz0_0 b) ∧ Ch (un (inBlk (PV po0)) (inBlk az0_0)) w w' := by
 have hS := hs
 have c0 : Ch (un (inBlk (PV po0)) (inBlk az0_0)) w w := Ch.refl
 have lin0_0 : ∀ b, inBlk (PV po0) b → (un (inBlk (PV po0)) (inBlk az0_0)) b ∨ w.heap.size ≤ b := fun b h => .inl (.inl h)
 refine Ret.of (n := 7) (args := [_]) (rs := []) Tryd.func13 rfl rfl rfl rfl ?_
 refine CW.region ?_
 refine rl_move rfl rfl ?_
 obtain ⟨y3, hy4⟩ : ∃ y, F7_New = y := ⟨_, rfl⟩
 have hS := ltS hy4 hS
 refine rl_callF rfl en7 rfl (ctr7 (G F Bb (un (inBlk (PV po0)) (un (inBlk az0_0) S2))) w  y3 hy4) ?_
 rintro _ w1 ⟨p5, z8, rfl, h6, h7, hf9, hf10, d11, c2⟩
 have lo15 : ∀ b, inBlk z8 b → w.heap.size ≤ b := fun b h => Nat.le_trans c0.size (hf10 b h)
 have d16 : ∀ b, inBlk z8 b → ¬ inBlk (PV po0) b := disNew hf10 ah0.ltp
 have ah0 := ah0.ch0 c2
 have c0 := c0.then0 c2
 refine rl_nilCheck rfl rfl ?_
 refine rl_loadA (cs := (Stats.c y3 z8)) rfl Tryd.isAgg81 Tryd.sizeOf81 (h6.segAt 0 32) rfl rfl ?_
 refine rl_nilCheck rfl rfl ?_
 refine rl_storeA (vs := (Stats.c y3 z8)) rfl rfl (one_cons rfl (one_cons rfl (one_cons rfl (one_cons rfl (one_cons rfl (one_cons rfl (one_cons rfl (one_cons rfl (one_cons rfl (one_cons rfl (one_cons rfl (one_cons rfl (one_cons rfl (one_cons rfl (one_cons h7.one.2 (one_cons rfl (one_cons rfl (one_cons rfl (one_cons rfl (one_cons rfl (one_cons rfl (one_cons rfl (one_cons rfl (one_cons rfl (one_cons rfl (one_cons rfl (one_cons rfl (one_cons rfl (one_cons rfl (one_cons rfl (one_cons rfl (one_cons rfl one_nil)))))))))))))))))))))))))))))))) Tryd.sizeOf81 rfl ah0 rfl ?_
 intro w18 s20 c19 k21
 have h7 := h7.ch c19 ((fun b hb h => d16 b hb h))
 have c0 := c0.then c19 (fun i hi h => (lin0_0 i h).elim (fun x => x) (fun x => absurd x (Nat.not_le_of_lt hi)))
 refine RL.nil ?_
 obtain rfl := hS
 have crf : Ch nb w18 w18 := Ch.refl
 have h7 := h7.ch0 crf
 have k21 := k21.ch0 crf
 have c0 := c0.then0 crf
 have crf : Ch nb w18 w18 := Ch.refl
 have h7 := h7.ch0 crf
 have k21 := k21.ch0 crf
 have c0 := c0.then0 crf
 exact ⟨[], trivial, ⟨z8, rfl, k21, h7, (fun b h => .inr (lo15 b h)), (disSym d16), c0⟩⟩
theorem ctr34 (F : Nat → Prop) (w : World) (a0 : (Option Nat)) (a1 : (Option Nat)) (ge : Nat → Value) (gl : (kGL 156 18).rep F w ge [Value.bool true]) (r : Bool) (hs : F34_Is a0 a1 = some r) :
    Ret Tryd.prog 34 #[(errV ge a0), (errV ge a1)] w fun v w' => v = (Value.bool r) ∧ Ch nb w w' := isS gl hs
theorem ctr14 (F : Nat → Prop) (w : World) (a0 : (Option Nat)) (ge : Nat → Value) (gl : (kGL 156 18).rep F w ge [Value.bool true]) (r : Int) (hs : F14_Num a0 = some r) :
    Ret Tryd.prog 14 #[(errV ge a0)] w fun v w' => v = (Value.int .i64 r) ∧ Ch nb w w' := by
 have hS := hs
 have c0 : Ch nb w w := Ch.refl
 have gl := Kd.enter gl
 refine Ret.of (n := 40) (args := [_]) (rs := [.tmp 2]) Tryd.func14 rfl rfl rfl rfl ?_
 refine CW.seq (CW.region ?_)
 refine rl_assign rfl rfl ?_
 refine RL.nil (thn_n (CW.seq ?_))
 refine CW.seq (CW.region ?_)
 refine rl_move rfl rfl ?_
 refine rl_errEq (x := a0) rfl gl Tryd.underlying45 rfl ?_
 refine RL.nil (thn_n ?_)
 refine CW.cond (t := (a0).isNone) rfl (fun q1 => ?_) (fun q1 => ?_)
 ·
  have hS := ifT q1 hS
  refine CW.seq (CW.region ?_)
  refine rl_assign rfl rfl ?_
  refine RL.nil (thn_n (CW.ret ?_))
  refine thn_ret ?_
  obtain rfl := Option.some.inj hS
  exact ret1 rfl ⟨rfl, c0⟩
 have hS := ifF q1 hS
 refine CW.skip ?_
 refine thn_n (CW.seq (CW.region ?_))
 refine rl_loadS (v := errV ge (some 0)) rfl Tryd.isAgg45 (gl_cell gl 0 rfl) rfl ?_
 refine rl_loadS (v := errV ge (some 3)) rfl Tryd.isAgg45 (gl_cell gl 3 rfl) rfl ?_
 refine rl_loadS (v := errV ge (some 4)) rfl Tryd.isAgg45 (gl_cell gl 4 rfl) rfl ?_
 refine rl_loadS (v := errV ge (some 5)) rfl Tryd.isAgg45 (gl_cell gl 5 rfl) rfl ?_
 refine rl_loadS (v := errV ge (some 6)) rfl Tryd.isAgg45 (gl_cell gl 6 rfl) rfl ?_
 refine rl_loadS (v := errV ge (some 7)) rfl Tryd.isAgg45 (gl_cell gl 7 rfl) rfl ?_
 refine rl_loadS (v := errV ge (some 8)) rfl Tryd.isAgg45 (gl_cell gl 8 rfl) rfl ?_
 refine rl_loadS (v := errV ge (some 9)) rfl Tryd.isAgg45 (gl_cell gl 9 rfl) rfl ?_
 refine rl_loadS (v := errV ge (some 10)) rfl Tryd.isAgg45 (gl_cell gl 10 rfl) rfl ?_
 refine rl_loadS (v := errV ge (some 1)) rfl Tryd.isAgg45 (gl_cell gl 1 rfl) rfl ?_
 refine rl_loadS (v := errV ge (some 11)) rfl Tryd.isAgg45 (gl_cell gl 11 rfl) rfl ?_
 refine rl_loadS (v := errV ge (some 12)) rfl Tryd.isAgg45 (gl_cell gl 12 rfl) rfl ?_
 refine rl_loadS (v := errV ge (some 2)) rfl Tryd.isAgg45 (gl_cell gl 2 rfl) rfl ?_
 refine rl_loadS (v := errV ge (some 13)) rfl Tryd.isAgg45 (gl_cell gl 13 rfl) rfl ?_
 refine rl_loadS (v := errV ge (some 14)) rfl Tryd.isAgg45 (gl_cell gl 14 rfl) rfl ?_
 refine rl_loadS (v := errV ge (some 15)) rfl Tryd.isAgg45 (gl_cell gl 15 rfl) rfl ?_
 refine rl_loadS (v := errV ge (some 16)) rfl Tryd.isAgg45 (gl_cell gl 16 rfl) rfl ?_
 refine rl_loadS (v := errV ge (some 17)) rfl Tryd.isAgg45 (gl_cell gl 17 rfl) rfl ?_
 refine rl_bslice (k := (kE ge)) (F := F) (B := w.heap.size) (S := nb) ([(some 0), (some 3), (some 4), (some 5), (some 6), (some 7), (some 8), (some 9), (some 10), (some 1), (some 11), (some 12), (some 2), (some 13), (some 14), (some 15), (some 16), (some 17)] : List (Option Nat)) rfl kE_pos Tryd.underlying94 Tryd.sizeOf45 Tryd.zeroValue45 rfl rfl ⟨rfl, ⟨errV_cells gl (some 0), errV_one gl (some 0)⟩, ⟨rfl, ⟨errV_cells gl (some 3), errV_one gl (some 3)⟩, ⟨rfl, ⟨errV_cells gl (some 4), errV_one gl (some 4)⟩, ⟨rfl, ⟨errV_cells gl (some 5), errV_one gl (some 5)⟩, ⟨rfl, ⟨errV_cells gl (some 6), errV_one gl (some 6)⟩, ⟨rfl, ⟨errV_cells gl (some 7), errV_one gl (some 7)⟩, ⟨rfl, ⟨errV_cells gl (some 8), errV_one gl (some 8)⟩, ⟨rfl, ⟨errV_cells gl (some 9), errV_one gl (some 9)⟩, ⟨rfl, ⟨errV_cells gl (some 10), errV_one gl (some 10)⟩, ⟨rfl, ⟨errV_cells gl (some 1), errV_one gl (some 1)⟩, ⟨rfl, ⟨errV_cells gl (some 11), errV_one gl (some 11)⟩, ⟨rfl, ⟨errV_cells gl (some 12), errV_one gl (some 12)⟩, ⟨rfl, ⟨errV_cells gl (some 2), errV_one gl (some 2)⟩, ⟨rfl, ⟨errV_cells gl (some 13), errV_one gl (some 13)⟩, ⟨rfl, ⟨errV_cells gl (some 14), errV_one gl (some 14)⟩, ⟨rfl, ⟨errV_cells gl (some 15), errV_one gl (some 15)⟩, ⟨rfl, ⟨errV_cells gl (some 16), errV_one gl (some 16)⟩, ⟨rfl, ⟨errV_cells gl (some 17), errV_one gl (some 17)⟩, trivial⟩⟩⟩⟩⟩⟩⟩⟩⟩⟩⟩⟩⟩⟩⟩⟩⟩⟩ c0.size nbS rfl ?_
 intro v2 w3 c4 hf5 h6
 have h6 := h6.readNew kE_pos hf5 nbS
 have gl := Kd.ch gl c4
 have c0 := c0.then0 c4
 refine rl_assign rfl rfl ?_
 refine RL.nil (thn_n (CW.seq ?_))
 refine CW.seq (CW.region ?_)
 refine rl_move rfl rfl ?_
 refine rl_lenR rfl h6 Tryd.underlying94 rfl ?_
 refine rl_move rfl rfl ?_
 refine RL.nil (thn_n ?_)
 obtain ⟨o14, ho15, hS⟩ := bindS hS
 refine CW.cutB (fun E' w' => ∃ (ix21 : Nat), Sub [] E' ∧ Ch nb w w' ∧ Lp.fin ix21 = o14 ∧ (kGL 156 18).rep (G F w.heap.size nb) w' ge [Value.bool true] ∧ slRep (kE ge) (G F w.heap.size nb) w' [(some 0), (some 3), (some 4), (some 5), (some 6), (some 7), (some 8), (some 9), (some 10), (some 1), (some 11), (some 12), (some 2), (some 13), (some 14), (some 15), (some 16), (some 17)] v2) ?_ ?_
 ·
  refine CW.loopS [(0, (errV ge a0)), (27, v2), (28, (Value.int .i64 (([(some 0), (some 3), (some 4), (some 5), (some 6), (some 7), (some 8), (some 9), (some 10), (some 1), (some 11), (some 12), (some 2), (some 13), (some 14), (some 15), (some 16), (some 17)].length : Nat) : Int))), (29, (Value.int .i64 ((0 : Nat) : Int)))] ⟨rfl, rfl, rfl, rfl, trivial⟩ [(some 0), (some 3), (some 4), (some 5), (some 6), (some 7), (some 8), (some 9), (some 10), (some 1), (some 11), (some 12), (some 2), (some 13), (some 14), (some 15), (some 16), (some 17)].length (fun m E w' => ∃ (rest7 : List (Option Nat)) (i8 : Nat) , m = rest7.length ∧ E = [(0, (errV ge a0)), (27, v2), (28, (Value.int .i64 (([(some 0), (some 3), (some 4), (some 5), (some 6), (some 7), (some 8), (some 9), (some 10), (some 1), (some 11), (some 12), (some 2), (some 13), (some 14), (some 15), (some 16), (some 17)].length : Nat) : Int))), (29, (Value.int .i64 ((i8 : Nat) : Int)))] ∧ Ch nb w w' ∧ At [(some 0), (some 3), (some 4), (some 5), (some 6), (some 7), (some 8), (some 9), (some 10), (some 1), (some 11), (some 12), (some 2), (some 13), (some 14), (some 15), (some 16), (some 17)] i8 rest7 ∧ runBO (F14_Num_b1 a0) rest7 i8 = some o14 ∧ (kGL 156 18).rep (G F w.heap.size nb) w' ge [Value.bool true] ∧ slRep (kE ge) (G F w.heap.size nb) w' [(some 0), (some 3), (some 4), (some 5), (some 6), (some 7), (some 8), (some 9), (some 10), (some 1), (some 11), (some 12), (some 2), (some 13), (some 14), (some 15), (some 16), (some 17)] v2)
      ⟨[(some 0), (some 3), (some 4), (some 5), (some 6), (some 7), (some 8), (some 9), (some 10), (some 1), (some 11), (some 12), (some 2), (some 13), (some 14), (some 15), (some 16), (some 17)], 0, rfl, rfl, c0, At.start, ho15, gl, h6⟩ ?_
  rintro _ _ w20 ⟨rest7, i8, rfl, rfl, c19, hat10, hL9, gl, h6⟩
  refine CW.seq (CW.region ?_)
  refine rl_bin rfl rfl B.lss rfl ?_
  refine RL.nil (thn_n ?_)
  refine CW.seq ?_
  refine CW.cond (t := decide (((i8 : Nat) : Int) < (([(some 0), (some 3), (some 4), (some 5), (some 6), (some 7), (some 8), (some 9), (some 10), (some 1), (some 11), (some 12), (some 2), (some 13), (some 14), (some 15), (some 16), (some 17)].length : Nat) : Int))) rfl (fun q22 => ?_) (fun q22 => ?_)
  ·
   obtain ⟨x16, rest23, rfl⟩ := hat10.cons q22
   obtain ⟨q11, hq12⟩ := runBO_some hL9
   have hb13 := hq12
   refine CW.skip (thn_n ?_)
   refine CW.seq ?_
   refine CW.block ?_
   refine CW.seq (CW.region ?_)
   refine rl_move rfl rfl ?_
   refine rl_ixR rfl h6 rfl hat10.get Tryd.underlying94 Tryd.sizeOf45 rfl ?_
   intro p24 o25 cs26 hr27 hs28 hg29
   obtain ⟨rfl, _⟩ := hr27
   refine rl_loadS (v := (errV ge x16)) rfl Tryd.isAgg45 (hs28 0 _ rfl) rfl ?_
   refine rl_assign rfl rfl ?_
   refine rl_assign rfl rfl ?_
   refine RL.nil (thn_n (CW.seq (CW.region ?_)))
   refine rl_move rfl rfl ?_
   refine rl_move rfl rfl ?_
   obtain ⟨y32, hy33, hb13⟩ := bindS hb13
   refine rl_callF rfl en34 rfl (ctr34 (G F w.heap.size nb) w20 a0 x16 ge gl y32 hy33) ?_
   rintro _ w30 ⟨rfl, c31⟩
   have gl := Kd.ch gl c31
   have h6 := slRep.ch kE_pos h6 c31
   have c19 := c19.then0 c31
   refine RL.nil (thn_n ?_)
   refine CW.cond (t := y32) rfl (fun q34 => ?_) (fun q34 => ?_)
   ·
    have hb13 := ifT q34 hb13
    refine CW.seq (CW.region ?_)
    refine rl_move rfl rfl ?_
    refine rl_inc rfl hat10.lt h6.big rfl ?_
    refine rl_assign rfl rfl ?_
    refine RL.nil (thn_n (CW.ret ?_))
    refine inB_ret ?_
    refine thn_ret ?_
    refine thn_ret (inB_ret (thn_ret ?_))
    refine thn_ret ?_
    have f35 := runBO_ret hL9 hq12 hb13
    have hS := retS f35 hS
    obtain rfl := Option.some.inj hS
    exact ret1 rfl ⟨rfl, c19⟩
   have hb13 := ifF q34 hb13
   refine CW.skip ?_
   refine inB_n ?_
   refine thn_n (CW.region ?_)
   refine rl_inc rfl hat10.lt h6.big rfl ?_
   refine rl_move rfl rfl ?_
   refine RL.nil (thn_n ?_)
   have hLn := runBO_next hL9 hq12 hb13
   exact ⟨rest23.length, Nat.lt_succ_self _, [(0, (errV ge a0)), (27, v2), (28, (Value.int .i64 (([(some 0), (some 3), (some 4), (some 5), (some 6), (some 7), (some 8), (some 9), (some 10), (some 1), (some 11), (some 12), (some 2), (some 13), (some 14), (some 15), (some 16), (some 17)].length : Nat) : Int))), (29, (Value.int .i64 ((i8 + 1 : Nat) : Int)))], ⟨rfl, rfl, rfl, rfl, trivial⟩, ⟨rest23, i8 + 1, rfl, rfl, c19, hat10.next, hLn, gl, h6⟩⟩
  obtain rfl := hat10.nil q22
  have hLf : Lp.fin i8 = o14 := runBO_done hL9
  refine CW.exit (thn_exit (thn_exit (inB_hit ?_)))
  exact ⟨i8, trivial, c19, hLf, gl, h6⟩
 rintro _ w37 ⟨ix21, hE38, c36, f39, gl, h6⟩
 have hS := finS f39 hS
 refine thn_n (CW.sub [] hE38 ?_)
 refine CW.seq (CW.region ?_)
 refine rl_assign rfl rfl ?_
 refine RL.nil (thn_n (CW.ret ?_))
 obtain rfl := Option.some.inj hS
 exact ret1 rfl ⟨rfl, c36⟩
theorem ctr16 (F : Nat → Prop) (w : World) (a0 : Out) (az0_0 : Value) (ah0_0 : slRep (kInt .u8) F w a0.packet az0_0) (r : Out) (hs : F16_Out a0 = r) :
    Ret Tryd.prog 16 #[(Value.agg (Out.c a0 az0_0).toArray)] w fun v w' => ∃ (y0_0 : Value), v = (Value.agg (Out.c r y0_0).toArray) ∧ slRep (kInt .u8) (fun b => F b ∨ w.heap.size ≤ b) w' r.packet y0_0 ∧ Ch nb w w' := by
 have hS := hs
 have c0 : Ch nb w w := Ch.refl
 have ah0_0 := slRep.enter kInt_pos ah0_0
 refine Ret.of (n := 12) (args := [_]) (rs := [.cell 2 61]) Tryd.func16 rfl rfl rfl rfl ?_
 refine CW.seq (CW.region ?_)
 refine rl_boxA (cs := (Out.c a0 az0_0)) rfl rfl ?_
 intro p1 w2 n3 k4
 have ah0_0 := slRep.ch kInt_pos ah0_0 n3.ch
 have c0 := c0.then0 n3.ch
 refine rl_alloc (Out.c Out.z (Value.slice none 0 0)) Tryd.zeroValue61 rfl rfl ?_
 intro p5 w6 n7 k8
 have lo9 : ∀ b, inBlk (PV p5) b → w.heap.size ≤ b := fun b h => Nat.le_trans c0.size (n7.fresh b h)
 have ah0_0 := slRep.st kInt_pos ah0_0 n7.ch (admNew n7.fresh (fun _ x => x))
 have k4 := k4.ch0 n7.ch
 have c0 := c0.then0 n7.ch
 refine RL.nil (thn_n (CW.seq (CW.region ?_)))
 refine rl_fieldAddr rfl fa38_0 rfl ?_
 refine rl_loadS (v := (Value.int .i64 a0.verdict)) rfl Tryd.isAgg3 (k4.cell rfl) rfl ?_
 refine rl_fieldAddr rfl fa38_1 rfl ?_
 refine rl_loadS (v := az0_0) rfl Tryd.isAgg27 (k4.cell rfl) rfl ?_
 refine rl_fieldAddr rfl fa38_2 rfl ?_
 refine rl_loadA (cs := (Front.enc a0.front)) rfl Tryd.isAgg36 Tryd.sizeOf36 (k4.segAt 2 26) rfl rfl ?_
 refine rl_fieldAddr rfl fa38_3 rfl ?_
 refine rl_loadA (cs := (Point.enc a0.backend)) rfl Tryd.isAgg32 Tryd.sizeOf32 (k4.segAt 28 18) rfl rfl ?_
 refine rl_buildC (out := (Out.c ({ verdict := a0.verdict, packet := a0.packet, front := a0.front, backend := a0.backend } : Out) az0_0)) [(0, [(Value.int .i64 a0.verdict)]), (1, [az0_0]), (2, (Front.enc a0.front)), (3, (Point.enc a0.backend))] rfl (co_cons rfl (co_cons (one_toL ah0_0.one.1) (co_cons rfl (co_cons rfl co_nil)))) pl61 Tryd.zeroValue61 rfl rfl rfl ?_
 refine rl_storeA (vs := (Out.c ({ verdict := a0.verdict, packet := a0.packet, front := a0.front, backend := a0.backend } : Out) az0_0)) rfl rfl (Kd.one _ (show k_Out.rep (G F w.heap.size (un (inBlk (PV p5)) nb)) w6 ({ verdict := a0.verdict, packet := a0.packet, front := a0.front, backend := a0.backend } : Out) (Out.c ({ verdict := a0.verdict, packet := a0.packet, front := a0.front, backend := a0.backend } : Out) az0_0) from ⟨az0_0, rfl, ah0_0⟩)) Tryd.sizeOf61 rfl k8 rfl ?_
 intro w10 s12 c11 k13
 have ad14 : ∀ b, b < w6.heap.size → ¬ (un (inBlk (PV p5)) nb) b → ¬ (inBlk (PV p5)) b ∧ ¬ (un (inBlk (PV p5)) nb) b := fun b _ hs => ⟨fun h => hs (.inl h), hs⟩
 have ah0_0 := slRep.st kInt_pos ah0_0 c11 ad14
 have c0 := c0.then c11 (fun i hi h => absurd (lo9 i h) (Nat.not_le_of_lt hi))
 refine RL.nil (thn_n (CW.ret ?_))
 obtain rfl := hS
 exact ⟨[_], ⟨Res1.agg (cs := (Out.c ({ verdict := a0.verdict, packet := a0.packet, front := a0.front, backend := a0.backend } : Out) az0_0)) rfl Tryd.isAgg61 Tryd.sizeOf61 (k13.segAt 0 46) rfl, trivial⟩, ⟨az0_0, rfl, slRep.out kInt_pos ah0_0, c0⟩⟩
end Go.Proofs.YtkfhcfkbaaekoaaDoor
