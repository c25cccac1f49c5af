/- The walks through the code: each call comes to its printed function. Written by a program of this session. -/
import Derived.Test.YtkfhcfkbaaekoaaDoorM
import Derived.Test.YtkfhcfkbaaekoaaDoorL
import Derived.Test.YtkfhcfkbaaekoaaDoorNI
import Derived.Test.YtkfhcfkbaaekoaaDoorW1
namespace Go.Proofs.YtkfhcfkbaaekoaaDoor
open Go K
set_option linter.unusedVariables false
theorem ctr15 (F : Nat → Prop) (w : World) (Bb : Nat) (S2 : Nat → Prop) (hB : Bb ≤ w.heap.size) (h2 : ∀ b, S2 b → b < w.heap.size) (po0 : Nat) (az0_0 : Value) (hd2 : ∀ b, (un (inBlk (PV po0)) (inBlk az0_0)) b → ¬ S2 b) (hx0_1 : ∀ b, inBlk (PV po0) b → ¬ inBlk az0_0 b) (a0 : Stats_2) (ah0 : Blk w po0 56 (Stats_2.c a0 az0_0)) (ah0_0 : SlO k_Told 97 F Bb (un (inBlk (PV po0)) (un (inBlk az0_0) S2)) w a0.all az0_0) (a1 : Out) (az1_0 : Value) (ah1_0 : slRep (kInt .u8) (G F Bb (un (inBlk (PV po0)) (un (inBlk az0_0) S2))) w a1.packet az1_0) (a2 : Int) (a3 : Int) (r : (Int × Stats_2)) (hs : F15_Tell a0 a1 a2 a3 = some r) :
    Ret Tryd.prog 15 #[(PV po0), (Value.agg (Out.c a1 az1_0).toArray), (Value.int .i64 a2), (Value.int .i64 a3)] w fun v w' => ∃ (nz0_0 : Value), v = (Value.int .i64 r.1) ∧ Blk w' po0 56 (Stats_2.c r.2 nz0_0) ∧ SlO k_Told 97 F Bb (un (inBlk (PV po0)) (un (inBlk nz0_0) S2)) w' r.2.all nz0_0 ∧ (∀ b, inBlk nz0_0 b → (un (inBlk (PV po0)) (inBlk az0_0)) b ∨ w.heap.size ≤ b) ∧ (∀ b, inBlk (PV po0) b → ¬ inBlk nz0_0 b) ∧ Ch (un (inBlk (PV po0)) (inBlk az0_0)) w w' := by
 have hS := hs
 have c0 : Ch (un (inBlk (PV po0)) (inBlk az0_0)) w w := Ch.refl
 have lin0_0 : ∀ b, inBlk (PV po0) b → (un (inBlk (PV po0)) (inBlk az0_0)) b ∨ w.heap.size ≤ b := fun b h => .inl (.inl h)
 have lin1_0 : ∀ b, inBlk az0_0 b → (un (inBlk (PV po0)) (inBlk az0_0)) b ∨ w.heap.size ≤ b := fun b h => .inl (.inr h)
 refine Ret.of (n := 79) (args := [_, _, _, _]) (rs := [.tmp 8]) Tryd.func15 rfl rfl rfl rfl ?_
 refine CW.seq (CW.region ?_)
 refine rl_boxA (cs := (Out.c a1 az1_0)) rfl rfl ?_
 intro p1 w2 n3 k4
 have gp1 : (G F Bb (un (inBlk (PV po0)) (un (inBlk az0_0) S2))) p1 := ⟨.inr (by rw [n3.eq]; exact (Nat.le_trans hB c0.size)), fun h => absurd ((un_lt ah0.ltp (un_lt (fun b hb => (ah0_0.lt b hb).2) (fun b h => Nat.lt_of_lt_of_le (h2 b h) c0.size))) _ h) (by rw [n3.eq]; exact Nat.lt_irrefl _)⟩
 have ah0 := ah0.ch0 n3.ch
 have ah0_0 := ah0_0.ch0 n3.ch
 have ah1_0 := slRep.ch kInt_pos ah1_0 n3.ch
 have c0 := c0.then0 n3.ch
 refine rl_assign rfl rfl ?_
 refine RL.nil (thn_n (CW.seq ?_))
 refine CW.seq (CW.region ?_)
 refine rl_fieldAddr rfl fa61_0 rfl ?_
 refine rl_loadS (v := (Value.int .i64 a1.verdict)) rfl Tryd.isAgg3 (k4.cell rfl) rfl ?_
 refine rl_bin rfl rfl B.lss rfl ?_
 refine rl_move rfl rfl ?_
 obtain ⟨b7, hb8⟩ : ∃ v, ((decide (a1.verdict < 0)) || (decide (a1.verdict > 6))) = v := ⟨_, rfl⟩
 have hS := ltS hb8 hS
 refine RL.join 4 17 (.bool b7) (fun w' => Ch nb w2 w') ?_ ?_
 · rcases Bool.eq_false_or_eq_true (decide (a1.verdict < 0)) with hg6 | hg6
   ·
    have hs5 := or_t hg6 hb8
    have cs : Ch nb w2 w2 := Ch.refl
    refine RL.no rfl rfl rfl hg6 rfl rfl ?_
    refine RL.no rfl rfl rfl hg6 rfl rfl ?_
    refine RL.no rfl rfl rfl hg6 rfl rfl ?_
    refine rl_pickT rfl hg6 rfl rfl ?_
    exact RL.nil ⟨Ext.bothEq (congrArg Value.bool hs5) (Ext.skip rfl (Ext.skip rfl (Ext.skip rfl (Ext.rfl')))), cs⟩
   ·
    have hs5 := or_f hg6 hb8
    have cs : Ch nb w2 w2 := Ch.refl
    refine RL.yes rfl rfl rfl hg6 ?_
    refine rl_fieldAddr rfl fa61_0 rfl ?_
    refine RL.yes rfl rfl rfl hg6 ?_
    refine rl_loadS (v := (Value.int .i64 a1.verdict)) rfl Tryd.isAgg3 (k4.cell rfl) rfl ?_
    refine RL.yes rfl rfl rfl hg6 ?_
    refine rl_bin rfl rfl B.gtr rfl ?_
    refine rl_pickF rfl hg6 rfl rfl ?_
    exact RL.nil ⟨Ext.bothEq (congrArg Value.bool hs5) (Ext.skip rfl (Ext.skip rfl (Ext.skip rfl (Ext.rfl')))), cs⟩
 intro w9 c10
 have ah0 := ah0.ch0 c10
 have ah0_0 := ah0_0.ch0 c10
 have ah1_0 := slRep.ch kInt_pos ah1_0 c10
 have k4 := k4.ch0 c10
 have c0 := c0.then0 c10
 refine rl_move rfl rfl ?_
 obtain ⟨b13, hb14⟩ : ∃ v, (b7 || (decide (a2 < 0))) = v := ⟨_, rfl⟩
 have hS := ltS hb14 hS
 refine RL.join 3 21 (.bool b13) (fun w' => Ch nb w9 w') ?_ ?_
 · rcases Bool.eq_false_or_eq_true b7 with hg12 | hg12
   ·
    have hs11 := or_t hg12 hb14
    have cs : Ch nb w9 w9 := Ch.refl
    refine RL.no rfl rfl rfl hg12 rfl rfl ?_
    refine RL.no rfl rfl rfl hg12 rfl rfl ?_
    refine rl_pickT rfl hg12 rfl rfl ?_
    exact RL.nil ⟨Ext.bothEq (congrArg Value.bool hs11) (Ext.skip rfl (Ext.skip rfl (Ext.rfl'))), cs⟩
   ·
    have hs11 := or_f hg12 hb14
    have cs : Ch nb w9 w9 := Ch.refl
    refine RL.yes rfl rfl rfl hg12 ?_
    refine rl_move rfl rfl ?_
    refine RL.yes rfl rfl rfl hg12 ?_
    refine rl_bin rfl rfl B.lss rfl ?_
    refine rl_pickF rfl hg12 rfl rfl ?_
    exact RL.nil ⟨Ext.bothEq (congrArg Value.bool hs11) (Ext.skip rfl (Ext.skip rfl (Ext.rfl'))), cs⟩
 intro w15 c16
 have ah0 := ah0.ch0 c16
 have ah0_0 := ah0_0.ch0 c16
 have ah1_0 := slRep.ch kInt_pos ah1_0 c16
 have k4 := k4.ch0 c16
 have c0 := c0.then0 c16
 refine rl_move rfl rfl ?_
 obtain ⟨b19, hb20⟩ : ∃ v, (b13 || (decide (a2 > 300))) = v := ⟨_, rfl⟩
 have hS := ltS hb20 hS
 refine RL.join 3 25 (.bool b19) (fun w' => Ch nb w15 w') ?_ ?_
 · rcases Bool.eq_false_or_eq_true b13 with hg18 | hg18
   ·
    have hs17 := or_t hg18 hb20
    have cs : Ch nb w15 w15 := Ch.refl
    refine RL.no rfl rfl rfl hg18 rfl rfl ?_
    refine RL.no rfl rfl rfl hg18 rfl rfl ?_
    refine rl_pickT rfl hg18 rfl rfl ?_
    exact RL.nil ⟨Ext.bothEq (congrArg Value.bool hs17) (Ext.skip rfl (Ext.skip rfl (Ext.rfl'))), cs⟩
   ·
    have hs17 := or_f hg18 hb20
    have cs : Ch nb w15 w15 := Ch.refl
    refine RL.yes rfl rfl rfl hg18 ?_
    refine rl_move rfl rfl ?_
    refine RL.yes rfl rfl rfl hg18 ?_
    refine rl_bin rfl rfl B.gtr rfl ?_
    refine rl_pickF rfl hg18 rfl rfl ?_
    exact RL.nil ⟨Ext.bothEq (congrArg Value.bool hs17) (Ext.skip rfl (Ext.skip rfl (Ext.rfl'))), cs⟩
 intro w21 c22
 have ah0 := ah0.ch0 c22
 have ah0_0 := ah0_0.ch0 c22
 have ah1_0 := slRep.ch kInt_pos ah1_0 c22
 have k4 := k4.ch0 c22
 have c0 := c0.then0 c22
 refine rl_move rfl rfl ?_
 obtain ⟨b25, hb26⟩ : ∃ v, (b19 || (decide (a3 < 0))) = v := ⟨_, rfl⟩
 have hS := ltS hb26 hS
 refine RL.join 3 29 (.bool b25) (fun w' => Ch nb w21 w') ?_ ?_
 · rcases Bool.eq_false_or_eq_true b19 with hg24 | hg24
   ·
    have hs23 := or_t hg24 hb26
    have cs : Ch nb w21 w21 := Ch.refl
    refine RL.no rfl rfl rfl hg24 rfl rfl ?_
    refine RL.no rfl rfl rfl hg24 rfl rfl ?_
    refine rl_pickT rfl hg24 rfl rfl ?_
    exact RL.nil ⟨Ext.bothEq (congrArg Value.bool hs23) (Ext.skip rfl (Ext.skip rfl (Ext.rfl'))), cs⟩
   ·
    have hs23 := or_f hg24 hb26
    have cs : Ch nb w21 w21 := Ch.refl
    refine RL.yes rfl rfl rfl hg24 ?_
    refine rl_move rfl rfl ?_
    refine RL.yes rfl rfl rfl hg24 ?_
    refine rl_bin rfl rfl B.lss rfl ?_
    refine rl_pickF rfl hg24 rfl rfl ?_
    exact RL.nil ⟨Ext.bothEq (congrArg Value.bool hs23) (Ext.skip rfl (Ext.skip rfl (Ext.rfl'))), cs⟩
 intro w27 c28
 have ah0 := ah0.ch0 c28
 have ah0_0 := ah0_0.ch0 c28
 have ah1_0 := slRep.ch kInt_pos ah1_0 c28
 have k4 := k4.ch0 c28
 have c0 := c0.then0 c28
 refine rl_move rfl rfl ?_
 obtain ⟨b31, hb32⟩ : ∃ v, (b25 || (decide (a3 > 1099511627776))) = v := ⟨_, rfl⟩
 have hS := ltS hb32 hS
 refine RL.join 3 33 (.bool b31) (fun w' => Ch nb w27 w') ?_ ?_
 · rcases Bool.eq_false_or_eq_true b25 with hg30 | hg30
   ·
    have hs29 := or_t hg30 hb32
    have cs : Ch nb w27 w27 := Ch.refl
    refine RL.no rfl rfl rfl hg30 rfl rfl ?_
    refine RL.no rfl rfl rfl hg30 rfl rfl ?_
    refine rl_pickT rfl hg30 rfl rfl ?_
    exact RL.nil ⟨Ext.bothEq (congrArg Value.bool hs29) (Ext.skip rfl (Ext.skip rfl (Ext.rfl'))), cs⟩
   ·
    have hs29 := or_f hg30 hb32
    have cs : Ch nb w27 w27 := Ch.refl
    refine RL.yes rfl rfl rfl hg30 ?_
    refine rl_move rfl rfl ?_
    refine RL.yes rfl rfl rfl hg30 ?_
    refine rl_bin rfl rfl B.gtr rfl ?_
    refine rl_pickF rfl hg30 rfl rfl ?_
    exact RL.nil ⟨Ext.bothEq (congrArg Value.bool hs29) (Ext.skip rfl (Ext.skip rfl (Ext.rfl'))), cs⟩
 intro w33 c34
 have ah0 := ah0.ch0 c34
 have ah0_0 := ah0_0.ch0 c34
 have ah1_0 := slRep.ch kInt_pos ah1_0 c34
 have k4 := k4.ch0 c34
 have c0 := c0.then0 c34
 refine RL.nil (thn_n ?_)
 refine CW.cond (t := b31) rfl (fun q35 => ?_) (fun q35 => ?_)
 ·
  have hS := ifT q35 hS
  refine CW.seq (CW.region ?_)
  refine rl_assign rfl rfl ?_
  refine RL.nil (thn_n (CW.ret ?_))
  refine thn_ret ?_
  obtain rfl := Option.some.inj hS
  exact ret1 rfl ⟨az0_0, rfl, ah0, ah0_0, lin1_0, hx0_1, c0⟩
 have hS := ifF q35 hS
 refine CW.skip ?_
 refine thn_n (CW.seq ?_)
 refine CW.seq (CW.region ?_)
 refine rl_move rfl rfl ?_
 refine rl_nilCheck rfl rfl ?_
 refine rl_fieldAddr rfl fa56_0 rfl ?_
 refine rl_loadS (v := az0_0) rfl Tryd.isAgg54 (ah0.cell rfl) rfl ?_
 refine rl_lenR rfl (SlO.read (S' := (un (inBlk (PV po0)) S2)) k_Told_pos ah0_0 (fun b hs h => hs (un_el h (fun h => (.inl h)) (fun h => (.inr (.inr h))))) (fun b hb => fun h => un_el h (fun h => (disSym hx0_1) b hb h) (linNot lin1_0 hd2 h2 b hb))) Tryd.underlying54 rfl ?_
 refine rl_assign rfl rfl ?_
 refine RL.nil (thn_n (CW.seq (CW.region ?_)))
 refine rl_move rfl rfl ?_
 refine rl_bin rfl rfl B.gtr rfl ?_
 refine rl_move rfl rfl ?_
 obtain ⟨b38, hb39, hS⟩ := bindS hS
 refine RL.join 13 54 (.bool b38) (fun w' => Ch nb w33 w') ?_ ?_
 · rcases Bool.eq_false_or_eq_true (decide (((a0.all.length : Nat) : Int) > 0)) with hg37 | hg37
   ·
    have hs36 := andO_t hg37 hb39
    have cs : Ch nb w33 w33 := Ch.refl
    refine RL.yes rfl rfl rfl hg37 ?_
    refine rl_move rfl rfl ?_
    refine RL.yes rfl rfl rfl hg37 ?_
    refine rl_bin rfl rfl (B.quo rfl) rfl ?_
    refine RL.yes rfl rfl rfl hg37 ?_
    refine rl_move rfl rfl ?_
    refine RL.yes rfl rfl rfl hg37 ?_
    refine rl_nilCheck rfl rfl ?_
    refine RL.yes rfl rfl rfl hg37 ?_
    refine rl_fieldAddr rfl fa56_0 rfl ?_
    refine RL.yes rfl rfl rfl hg37 ?_
    refine rl_loadS (v := az0_0) rfl Tryd.isAgg54 (ah0.cell rfl) rfl ?_
    refine RL.yes rfl rfl rfl hg37 ?_
    refine rl_move rfl rfl ?_
    refine RL.yes rfl rfl rfl hg37 ?_
    refine rl_bin rfl rfl B.sub rfl ?_
    refine RL.yes rfl rfl rfl hg37 ?_
    obtain ⟨y47, hy48, hs36⟩ := bindS hs36
    refine rl_ixOR rfl ah0_0 rfl (ixO_get hy48) k_Told_pos Tryd.underlying54 Tryd.sizeOf97 rfl ?_
    intro p41 o42 cs43 hr44 hs45 hg46
    obtain rfl := hr44
    refine RL.yes rfl rfl rfl hg37 ?_
    refine rl_fieldAddr rfl fa97_2 rfl ?_
    refine RL.yes rfl rfl rfl hg37 ?_
    refine rl_loadS (v := (Value.int .i64 y47.span)) rfl Tryd.isAgg3 (hs45 2 _ rfl) rfl ?_
    refine RL.yes rfl rfl rfl hg37 ?_
    refine rl_bin rfl rfl B.lss rfl ?_
    refine rl_pickT rfl hg37 rfl rfl ?_
    exact RL.nil ⟨Ext.bothEq (congrArg Value.bool (Option.some.inj hs36)) (Ext.skip rfl (Ext.skip rfl (Ext.skip rfl (Ext.skip rfl (Ext.skip rfl (Ext.skip rfl (Ext.skip rfl (Ext.skip rfl (Ext.skip rfl (Ext.skip rfl (Ext.skip rfl (Ext.skip rfl (Ext.rfl'))))))))))))), cs⟩
   ·
    have hs36 := andO_f hg37 hb39
    have cs : Ch nb w33 w33 := Ch.refl
    refine RL.no rfl rfl rfl hg37 rfl rfl ?_
    refine RL.no rfl rfl rfl hg37 rfl rfl ?_
    refine RL.no rfl rfl rfl hg37 rfl rfl ?_
    refine RL.no rfl rfl rfl hg37 rfl rfl ?_
    refine RL.no rfl rfl rfl hg37 rfl rfl ?_
    refine RL.no rfl rfl rfl hg37 rfl rfl ?_
    refine RL.no rfl rfl rfl hg37 rfl rfl ?_
    refine RL.no rfl rfl rfl hg37 rfl rfl ?_
    refine RL.no rfl rfl rfl hg37 rfl rfl ?_
    refine RL.no rfl rfl rfl hg37 rfl rfl ?_
    refine RL.no rfl rfl rfl hg37 rfl rfl ?_
    refine RL.no rfl rfl rfl hg37 rfl rfl ?_
    refine rl_pickF rfl hg37 rfl rfl ?_
    exact RL.nil ⟨Ext.bothEq (congrArg Value.bool (Option.some.inj hs36)) (Ext.skip rfl (Ext.skip rfl (Ext.skip rfl (Ext.skip rfl (Ext.skip rfl (Ext.skip rfl (Ext.skip rfl (Ext.skip rfl (Ext.skip rfl (Ext.skip rfl (Ext.skip rfl (Ext.skip rfl (Ext.rfl'))))))))))))), cs⟩
 intro w40 c49
 have ah0 := ah0.ch0 c49
 have ah0_0 := ah0_0.ch0 c49
 have ah1_0 := slRep.ch kInt_pos ah1_0 c49
 have k4 := k4.ch0 c49
 have c0 := c0.then0 c49
 refine RL.nil (thn_n ?_)
 refine CW.cond (t := b38) rfl (fun q50 => ?_) (fun q50 => ?_)
 ·
  have hS := ifT q50 hS
  refine CW.seq (CW.region ?_)
  refine rl_assign rfl rfl ?_
  refine RL.nil (thn_n (CW.ret ?_))
  refine thn_ret ?_
  obtain rfl := Option.some.inj hS
  exact ret1 rfl ⟨az0_0, rfl, ah0, ah0_0, lin1_0, hx0_1, c0⟩
 have hS := ifF q50 hS
 refine CW.skip ?_
 refine thn_n (CW.seq ?_)
 have ad59 : ∀ b, b < w40.heap.size → ¬ (un (inBlk (PV po0)) (un (inBlk az0_0) S2)) b → ¬ nb b ∧ ¬ (un (inBlk (PV po0)) S2) b := fun b _ hs => ⟨fun x => x, fun h => hs (un_el h (fun h => (.inl h)) (fun h => (.inr (.inr h))))⟩
 have ah0_0 := SlO.read (S' := (un (inBlk (PV po0)) S2)) k_Told_pos ah0_0 (fun b hs h => hs (un_el h (fun h => (.inl h)) (fun h => (.inr (.inr h))))) (fun b hb => fun h => un_el h (fun h => (disSym hx0_1) b hb h) (linNot lin1_0 hd2 h2 b hb))
 have crf : Ch nb w40 w40 := Ch.refl
 have ah0 := ah0.ch0 crf
 have ah1_0 := slRep.st kInt_pos ah1_0 crf ad59
 have gp1n : (G F Bb (un (inBlk (PV po0)) S2)) p1 := ⟨gp1.1, (ad59 _ k4.lt gp1.2).2⟩
 have k4 := k4.ch0 crf
 have gp1 := gp1n
 have c0 := c0.then0 crf
 obtain ⟨z75, hz76, hS⟩ := bindS hS
 obtain ⟨z92, hz93, hS⟩ := bindS hS
 refine CW.draw 22 [(none, fun fx O uu wx => uu = (PV po0)), (some false, fun _ O uu wx => ∃ (v60 : Value), uu = v60 ∧ O = (inBlk v60) ∧ SlO k_Told 97 F Bb (un (inBlk v60) (un (inBlk (PV po0)) S2)) wx [] v60), (none, fun fx O uu wx => uu = (PV po0)), (none, fun fx O uu wx => uu = (PV po0)), (none, fun fx O uu wx => uu = (PV po0)), (none, fun fx O uu wx => uu = az0_0), (some true, fun hv O uu wx => ∃ (v69 : Value) (v60 : Value), hv = [v60, v69] ∧ uu = v69 ∧ O = (inBlk v69) ∧ SlO k_Told 97 F Bb (un (inBlk v69) (un (inBlk (PV po0)) S2)) wx ([] ++ a0.all) v69), (none, fun fx O uu wx => uu = (PV p1)), (none, fun fx O uu wx => uu = (Value.int .i64 a1.verdict)), (none, fun fx O uu wx => uu = (Value.int .i64 a2)), (none, fun fx O uu wx => uu = (Value.int .i64 a3)), (none, fun fx O uu wx => uu = (Value.int .i64 (IntKind.i64.wrap (a3.tdiv 10)))), (none, fun fx O uu wx => uu = (Value.pointer (some ⟨p1, 2, none⟩))), (none, fun fx O uu wx => uu = (Value.pointer (some ⟨p1, 2, none⟩))), (none, fun fx O uu wx => uu = (Value.int .i64 a1.front.proto)), (none, fun fx O uu wx => uu = (Value.bool (!decide (a1.front.proto = 0)))), (none, fun fx O uu wx => uu = (Value.pointer (some ⟨p1, 2, none⟩))), (none, fun fx O uu wx => uu = (Value.pointer (some ⟨p1, 21, none⟩))), (none, fun fx O uu wx => uu = (Value.agg (Key.enc a1.front.service).toArray)), (none, fun fx O uu wx => uu = (Value.agg (Told.enc ({ verdict := a1.verdict, size := a2, span := IntKind.i64.wrap (a3.tdiv 10), fronted := !decide (a1.front.proto = 0), service := a1.front.service } : Told)).toArray)), (none, fun fx O uu wx => ∃ (v79 : Value), uu = v79 ∧ slRep k_Told (G F Bb (un O (un (inBlk (PV po0)) S2))) wx [({ verdict := a1.verdict, size := a2, span := IntKind.i64.wrap (a3.tdiv 10), fronted := !decide (a1.front.proto = 0), service := a1.front.service } : Told)] v79), (some true, fun hv O uu wx => ∃ (v86 : Value) (v60 : Value) (v69 : Value), hv = [v60, v69, v86] ∧ uu = v86 ∧ O = (inBlk v86) ∧ SlO k_Told 97 F Bb (un (inBlk v86) (un (inBlk (PV po0)) S2)) wx (([] ++ a0.all) ++ [({ verdict := a1.verdict, size := a2, span := IntKind.i64.wrap (a3.tdiv 10), fronted := !decide (a1.front.proto = 0), service := a1.front.service } : Told)]) v86)] [[], [], [], [2], [3], [4], [1, 5], [], [7], [], [], [10], [], [12], [13], [14], [], [16], [17], [8, 9, 11, 15, 18], [19], [6, 20]] [21, 0] nb (fun _ h => h.elim) mixed rfl rfl rfl rfl ?_ ?_
 ·
  refine Each.consS (fun fl O wk hE hN hO ck => ?_) ?_
  ·
   refine rl_move rfl rfl ?_
   exact RL.nil ⟨_, rfl, Ch.refl, rfl⟩
  refine Each.consP ⟨fun _ O _ wx wy cc hh => by obtain ⟨v60, e, rfl, ck1_0⟩ := hh; exact ⟨v60, e, rfl, ck1_0.ch0 cc⟩, fun O wk hO ck => ?_⟩ ?_
  ·
   have ah0 := ah0.ch0 ck
   have c0 := c0.then0 ck
   refine rl_bslice (k := k_Told) (F := F) (B := Bb) (S := (un O (un (inBlk (PV po0)) S2))) ([] : List Told) rfl k_Told_pos Tryd.underlying54 Tryd.sizeOf97 Tryd.zeroValue97 rfl rfl trivial (Nat.le_trans hB c0.size) (un_lt (fun b h => (hO b h).2) (un_lt ah0.ltp (fun b h => Nat.lt_of_lt_of_le (h2 b h) c0.size))) rfl ?_
   intro v105 w106 c107 hf108 h109
   have hb113 : ∀ b, (inBlk v105) b → wk.heap.size ≤ b ∧ b < w106.heap.size := fun b h => ⟨hf108 b h, (fun b hb => (h109.lt b hb).2) b h⟩
   have h114 := SlO.reS (S' := (un (inBlk v105) (un (inBlk (PV po0)) S2))) (fun h => h) h109 (fun b h => .inl h)
   exact RL.nil ⟨_, (inBlk v105), rfl, hb113, c107, ⟨v105, rfl, rfl, h114⟩⟩
  refine Each.consS (fun fl O wk hE hN hO ck => ?_) ?_
  ·
   refine rl_move rfl rfl ?_
   exact RL.nil ⟨_, rfl, Ch.refl, rfl⟩
  refine Each.consS (fun fl O wk hE hN hO ck => ?_) ?_
  ·
   refine Need.o1 rfl rfl rfl (fun _ h => h) ?_
   refine rl_nilCheck rfl rfl ?_
   exact RL.nil ⟨_, rfl, Ch.refl, rfl⟩
  refine Each.consS (fun fl O wk hE hN hO ck => ?_) ?_
  ·
   refine Need.o1 rfl rfl rfl (fun _ h => h) ?_
   refine rl_fieldAddr rfl fa56_0 rfl ?_
   exact RL.nil ⟨_, rfl, Ch.refl, rfl⟩
  refine Each.consS (fun fl O wk hE hN hO ck => ?_) ?_
  ·
   have ah0 := ah0.ch0 ck
   refine Need.o1 rfl rfl rfl (fun _ h => h) ?_
   refine rl_loadS (v := az0_0) rfl Tryd.isAgg54 (ah0.cell rfl) rfl ?_
   exact RL.nil ⟨_, rfl, Ch.refl, rfl⟩
  refine Each.consO ⟨fun _ O _ wx wy cc hh => by obtain ⟨v69, v60, eh, e, rfl, ck6_0⟩ := hh; exact ⟨v69, v60, eh, e, rfl, ck6_0.ch0 cc⟩, fun hv Op O wk hO ck hO0 => ?_⟩ ?_
  ·
   obtain ⟨hl, hBg⟩ := hO0 rfl
   refine Need.made rfl rfl rfl rfl ?_
   rintro _ ⟨v60, e126, eO127, ck1_0⟩ hh128
   obtain rfl := e126.symm
   have io129 : ∀ b, inBlk v60 b → _ := fun b h => (Eq.mpr (congrFun eO127 b) h)
   have hf130 : ∀ b, inBlk v60 b → w40.heap.size ≤ b := fun b h => (hBg.2.2.1 _ b (io129 b h)).1
   obtain rfl := hist_eq [v60] hv hl ⟨hh128, trivial⟩
   have ad133 : ∀ b, b < w40.heap.size → ¬ (un (inBlk (PV po0)) S2) b → ¬ nb b ∧ ¬ (un (inBlk v60) (un (inBlk (PV po0)) S2)) b := fun b hb hs => ⟨fun x => x, fun h => un_el h (fun h => Nat.not_le_of_lt hb (hf130 b h)) (fun h => hs h)⟩
   have ah0 := ah0.ch0 hBg.2.1
   have ah0_0 := slRep.st k_Told_pos ah0_0 hBg.2.1 ad133
   have c0 := c0.then0 hBg.2.1
   have ck1_0 := SlO.reS (S' := (un (inBlk v60) (un (inBlk (PV po0)) S2))) (fun h => h) ck1_0 (fun b h => (.inl h))
   refine Need.o1 rfl rfl rfl (fun _ h => h) ?_
   have hl := (apO_get hz76).1
   refine rl_append (k := k_Told) (T := 97) (F := F) (B := Bb) (S := (un (inBlk v60) (un (inBlk (PV po0)) S2))) (S2 := (un (inBlk (PV po0)) S2)) (fun v => (un (inBlk v) (un (inBlk (PV po0)) S2))) rfl rfl k_Told_pos ap54 ck1_0 ah0_0 (fun _ => Iff.rfl) (fun _ _ => Iff.rfl) hl (Nat.le_trans hB c0.size) (un_lt (fun b hb => (ck1_0.lt b hb).2) (un_lt ah0.ltp (fun b h => Nat.lt_of_lt_of_le (h2 b h) c0.size))) rfl ?_
   intro v137 w138 h139 c140 hf141 ha142
   have hb145 : ∀ b, (inBlk v137) b → (O b ∨ wk.heap.size ≤ b) ∧ b < w138.heap.size := fun b h => ⟨(hf141 b h).elim (fun h => .inl (((hBg.1 b).2 (.inr ⟨_, inPre rfl, io129 b h⟩)))) (fun h => .inr (Nat.le_trans (Nat.le_refl _) h)), (fun b hb => (h139.lt b hb).2) b h⟩
   exact RL.nil ⟨_, (inBlk v137), rfl, hb145, (c140.mono (fun b _ h => ((hBg.1 b).2 (.inr ⟨_, inPre rfl, io129 b h⟩)))), ⟨v137, v60, rfl, rfl, rfl, h139⟩⟩
  refine Each.consS (fun fl O wk hE hN hO ck => ?_) ?_
  ·
   refine rl_fieldAddr rfl fa61_0 rfl ?_
   exact RL.nil ⟨_, rfl, Ch.refl, rfl⟩
  refine Each.consS (fun fl O wk hE hN hO ck => ?_) ?_
  ·
   have k4 := k4.ch0 ck
   refine Need.o1 rfl rfl rfl (fun _ h => h) ?_
   refine rl_loadS (v := (Value.int .i64 a1.verdict)) rfl Tryd.isAgg3 (k4.cell rfl) rfl ?_
   exact RL.nil ⟨_, rfl, Ch.refl, rfl⟩
  refine Each.consS (fun fl O wk hE hN hO ck => ?_) ?_
  ·
   refine rl_move rfl rfl ?_
   exact RL.nil ⟨_, rfl, Ch.refl, rfl⟩
  refine Each.consS (fun fl O wk hE hN hO ck => ?_) ?_
  ·
   refine rl_move rfl rfl ?_
   exact RL.nil ⟨_, rfl, Ch.refl, rfl⟩
  refine Each.consS (fun fl O wk hE hN hO ck => ?_) ?_
  ·
   refine Need.o1 rfl rfl rfl (fun _ h => h) ?_
   refine rl_bin rfl rfl (B.quo rfl) rfl ?_
   exact RL.nil ⟨_, rfl, Ch.refl, rfl⟩
  refine Each.consS (fun fl O wk hE hN hO ck => ?_) ?_
  ·
   refine rl_fieldAddr rfl fa61_2 rfl ?_
   exact RL.nil ⟨_, rfl, Ch.refl, rfl⟩
  refine Each.consS (fun fl O wk hE hN hO ck => ?_) ?_
  ·
   refine Need.o1 rfl rfl rfl (fun _ h => h) ?_
   refine rl_fieldAddr rfl fa59_0 rfl ?_
   exact RL.nil ⟨_, rfl, Ch.refl, rfl⟩
  refine Each.consS (fun fl O wk hE hN hO ck => ?_) ?_
  ·
   have k4 := k4.ch0 ck
   refine Need.o1 rfl rfl rfl (fun _ h => h) ?_
   refine rl_loadS (v := (Value.int .i64 a1.front.proto)) rfl Tryd.isAgg3 (k4.cell rfl) rfl ?_
   exact RL.nil ⟨_, rfl, Ch.refl, rfl⟩
  refine Each.consS (fun fl O wk hE hN hO ck => ?_) ?_
  ·
   refine Need.o1 rfl rfl rfl (fun _ h => h) ?_
   refine rl_bin rfl rfl B.neq rfl ?_
   exact RL.nil ⟨_, rfl, Ch.refl, rfl⟩
  refine Each.consS (fun fl O wk hE hN hO ck => ?_) ?_
  ·
   refine rl_fieldAddr rfl fa61_2 rfl ?_
   exact RL.nil ⟨_, rfl, Ch.refl, rfl⟩
  refine Each.consS (fun fl O wk hE hN hO ck => ?_) ?_
  ·
   refine Need.o1 rfl rfl rfl (fun _ h => h) ?_
   refine rl_fieldAddr rfl fa59_2 rfl ?_
   exact RL.nil ⟨_, rfl, Ch.refl, rfl⟩
  refine Each.consS (fun fl O wk hE hN hO ck => ?_) ?_
  ·
   have k4 := k4.ch0 ck
   refine Need.o1 rfl rfl rfl (fun _ h => h) ?_
   refine rl_loadA (cs := (Key.enc a1.front.service)) rfl Tryd.isAgg34 Tryd.sizeOf34 (k4.segAt 21 2) rfl rfl ?_
   exact RL.nil ⟨_, rfl, Ch.refl, rfl⟩
  refine Each.consS (fun fl O wk hE hN hO ck => ?_) ?_
  ·
   refine Need.o1 rfl rfl rfl (fun _ h => h) ?_
   refine Need.o1 rfl rfl rfl (fun _ h => h) ?_
   refine Need.o1 rfl rfl rfl (fun _ h => h) ?_
   refine Need.o1 rfl rfl rfl (fun _ h => h) ?_
   refine Need.o1 rfl rfl rfl (fun _ h => h) ?_
   refine rl_build (out := (Told.enc ({ verdict := a1.verdict, size := a2, span := IntKind.i64.wrap (a3.tdiv 10), fronted := !decide (a1.front.proto = 0), service := a1.front.service } : Told))) rfl pl97 Tryd.zeroValue97 rfl rfl rfl ?_
   exact RL.nil ⟨_, rfl, Ch.refl, rfl⟩
  refine Each.consA ⟨fun _ _ _ _ _ cc hh => by obtain ⟨v79, e, h83⟩ := hh; exact ⟨v79, e, slRep.ch k_Told_pos h83 cc⟩, fun _ _ h' O O' D _ wx wy hfl hD hO' cc hh => by obtain ⟨v79, e, h83⟩ := hh; have ad := admGh (S := (un (inBlk (PV po0)) S2)) hD hO'; exact ⟨v79, e, slRep.st k_Told_pos h83 cc ad⟩, fun fl O wk hE hN hO ck => ?_⟩ ?_
  ·
   have ah0 := ah0.ch0 ck
   have c0 := c0.then0 ck
   refine Need.o1 rfl rfl rfl (fun _ h => h) ?_
   refine rl_bslice (k := k_Told) (F := F) (B := Bb) (S := (un O (un (inBlk (PV po0)) S2))) ([({ verdict := a1.verdict, size := a2, span := IntKind.i64.wrap (a3.tdiv 10), fronted := !decide (a1.front.proto = 0), service := a1.front.service } : Told)] : List Told) rfl k_Told_pos Tryd.underlying54 Tryd.sizeOf97 Tryd.zeroValue97 rfl rfl ⟨rfl, rfl, trivial⟩ (Nat.le_trans hB c0.size) (un_lt (fun b h => (hO b h).2) (un_lt ah0.ltp (fun b h => Nat.lt_of_lt_of_le (h2 b h) c0.size))) rfl ?_
   intro v187 w188 c189 hf190 h191
   have h191 := h191.readNew k_Told_pos hf190 (un_lt (fun b h => (hO b h).2) (un_lt ah0.ltp (fun b h => Nat.lt_of_lt_of_le (h2 b h) c0.size)))
   exact RL.nil ⟨_, rfl, c189, ⟨v187, rfl, h191⟩⟩
  refine Each.consO ⟨fun _ O _ wx wy cc hh => by obtain ⟨v86, v60, v69, eh, e, rfl, ck21_0⟩ := hh; exact ⟨v86, v60, v69, eh, e, rfl, ck21_0.ch0 cc⟩, fun hv Op O wk hO ck hO0 => ?_⟩ ?_
  ·
   refine Need.here rfl rfl rfl rfl ?_
   rintro _ ⟨v69, v60, rfl, e193, rfl, ck6_0⟩
   obtain rfl := e193.symm
   have ah0 := ah0.ch0 ck
   have c0 := c0.then0 ck
   refine Need.one rfl rfl rfl ?_
   rintro _ ⟨v79, e197, h83⟩
   obtain rfl := e197.symm
   have h83 := slRep.wk (F' := (G F Bb (un (inBlk v69) (un (inBlk (PV po0)) S2)))) k_Told_pos h83 (fun b _ hf => ⟨hf.1, fun h => hf.2 (un_el h (fun h => (.inl h)) (fun h => un_el h (fun h => (.inr (.inl h))) (fun h => (.inr (.inr h)))))⟩)
   have hl := (apO_get hz93).1
   refine rl_append (k := k_Told) (T := 97) (F := F) (B := Bb) (S := (un (inBlk v69) (un (inBlk (PV po0)) S2))) (S2 := (un (inBlk (PV po0)) S2)) (fun v => (un (inBlk v) (un (inBlk (PV po0)) S2))) rfl rfl k_Told_pos ap54 ck6_0 h83 (fun _ => Iff.rfl) (fun _ _ => Iff.rfl) hl (Nat.le_trans hB c0.size) (un_lt (fun b hb => (ck6_0.lt b hb).2) (un_lt ah0.ltp (fun b h => Nat.lt_of_lt_of_le (h2 b h) c0.size))) rfl ?_
   intro v200 w201 h202 c203 hf204 ha205
   have hb208 : ∀ b, (inBlk v200) b → ((inBlk v69) b ∨ wk.heap.size ≤ b) ∧ b < w201.heap.size := fun b h => ⟨(hf204 b h).elim (fun h => .inl (h)) (fun h => .inr (Nat.le_trans (Nat.le_refl _) h)), (fun b hb => (h202.lt b hb).2) b h⟩
   exact RL.nil ⟨_, (inBlk v200), rfl, hb208, (c203.mono (fun b _ h => h)), ⟨v200, v60, v69, rfl, rfl, rfl, h202⟩⟩
  trivial
 intro hvO211 OpO211 O211 w209 hO212 c210 hN213
 have ol214 : ∀ b, inBlk (PV po0) b → b < w40.heap.size := ah0.ltp
 refine Need.here rfl rfl rfl rfl ?_
 rintro _ ⟨v86, v60, v69, rfl, e215, rfl, ck21_0⟩
 obtain rfl := e215.symm
 have lo216 : ∀ b, inBlk v86 b → w.heap.size ≤ b := fun b h => (hO212 b h).1.elim (fun h => h.elim) (Nat.le_trans c0.size)
 have d217 : ∀ b, inBlk v86 b → ¬ inBlk (PV po0) b := fun b h hu => (hO212 b h).1.elim (fun h => h.elim) (fun h => Nat.not_le_of_lt (ol214 b hu) h)
 have ha218 : ∀ b, b < w40.heap.size → ¬ (un (inBlk (PV po0)) S2) b → ¬ nb b ∧ ¬ (un (inBlk v86) (un (inBlk (PV po0)) S2)) b := fun b hb hs => ⟨fun h => h.elim, fun h => un_el h (fun h => (hO212 b h).1.elim (fun h => h.elim) (fun h => Nat.not_le_of_lt hb h)) (fun h => un_el h (fun h => hs (.inl h)) (fun h => hs (.inr h)))⟩
 have ah0 := ah0.ch0 c210
 have ah1_0 := slRep.st kInt_pos ah1_0 c210 ha218
 have gp1n : (G F Bb (un (inBlk v86) (un (inBlk (PV po0)) S2))) p1 := ⟨gp1.1, (ha218 _ k4.lt gp1.2).2⟩
 have gp1 := gp1n
 have ah0_0 := slRep.st k_Told_pos ah0_0 c210 ha218
 have c0 := c0.then0 c210
 refine Need.o1 rfl rfl rfl (fun _ h => h) ?_
 refine rl_nilCheck rfl rfl ?_
 refine rl_fieldAddr rfl fa56_0 rfl ?_
 refine rl_storeS (u := v86) rfl rfl ck21_0.one Tryd.sizeOf54 ah0 rfl ?_
 intro w220 s222 c221 k223
 have ad224 : ∀ b, b < w209.heap.size → ¬ (un (inBlk v86) (un (inBlk (PV po0)) S2)) b → ¬ (inBlk (PV po0)) b ∧ ¬ (un (inBlk v86) (un (inBlk (PV po0)) S2)) b := fun b _ hs => ⟨fun h => hs (.inr (.inl h)), hs⟩
 have ah1_0 := slRep.st kInt_pos ah1_0 c221 ad224
 have ah0_0 := slRep.st k_Told_pos ah0_0 c221 ad224
 have ck21_0 := ck21_0.st c221 (fun b hb h => d217 b hb h) ad224 (fun b h => (.inl h))
 have c0 := c0.then c221 (fun i hi h => (lin0_0 i h).elim (fun x => x) (fun x => absurd x (Nat.not_le_of_lt hi)))
 refine RL.nil (thn_n (CW.seq (CW.region ?_)))
 refine rl_assign rfl rfl ?_
 refine RL.nil (thn_n (CW.ret ?_))
 obtain rfl := Option.some.inj hS
 have hS225 : (un (inBlk v86) (un (inBlk (PV po0)) S2)) = (un (inBlk (PV po0)) (un (inBlk v86) S2)) := funext fun b => propext ⟨fun h => un_el h (fun h => (.inr (.inl h))) (fun h => un_el h (fun h => (.inl h)) (fun h => (.inr (.inr h)))), fun h => un_el h (fun h => (.inr (.inl h))) (fun h => un_el h (fun h => (.inl h)) (fun h => (.inr (.inr h))))⟩
 rw [hS225] at ah1_0 ah0_0 ck21_0 gp1
 exact ret1 rfl ⟨v86, rfl, k223, ck21_0, (fun b h => .inr (lo216 b h)), (disSym d217), c0⟩
theorem ctr17 (F : Nat → Prop) (w : World) (Bb : Nat) (S2 : Nat → Prop) (hB : Bb ≤ w.heap.size) (h2 : ∀ b, S2 b → b < w.heap.size) (po0 : Nat) (az0_0 : Value) (hd2 : ∀ b, (un (inBlk (PV po0)) (inBlk az0_0)) b → ¬ S2 b) (hx0_1 : ∀ b, inBlk (PV po0) b → ¬ inBlk az0_0 b) (a0 : Stats_2) (ah0 : Blk w po0 56 (Stats_2.c a0 az0_0)) (ah0_0 : SlO k_Told 97 F Bb (un (inBlk (PV po0)) (un (inBlk az0_0) S2)) w a0.all az0_0) (a1 : Int) (r : (Int × Int)) (hs : F17_Verdict a0 a1 = r) :
    Ret Tryd.prog 17 #[(PV po0), (Value.int .i64 a1)] w fun v w' => v = Value.tuple #[(Value.int .i64 r.1), (Value.int .i64 r.2)] ∧ Ch nb w w' := by
 have hS := hs
 have c0 : Ch nb w w := Ch.refl
 have lin1_0 : ∀ b, inBlk az0_0 b → (un (inBlk (PV po0)) (inBlk az0_0)) b ∨ w.heap.size ≤ b := fun b h => .inl (.inr h)
 refine Ret.of (n := 32) (args := [_, _]) (rs := [.tmp 4, .tmp 5]) Tryd.func17 rfl rfl rfl rfl ?_
 refine CW.seq (CW.region ?_)
 refine rl_assign rfl rfl ?_
 refine rl_assign rfl rfl ?_
 refine RL.nil (thn_n (CW.seq (CW.region ?_)))
 refine rl_assign rfl rfl ?_
 refine rl_assign rfl rfl ?_
 refine RL.nil (thn_n (CW.seq ?_))
 refine CW.seq (CW.region ?_)
 refine rl_move rfl rfl ?_
 refine rl_nilCheck rfl rfl ?_
 refine rl_fieldAddr rfl fa56_0 rfl ?_
 refine rl_loadS (v := az0_0) rfl Tryd.isAgg54 (ah0.cell rfl) rfl ?_
 refine rl_lenR rfl (SlO.read (S' := (un (inBlk (PV po0)) S2)) k_Told_pos ah0_0 (fun b hs h => hs (un_el h (fun h => (.inl h)) (fun h => (.inr (.inr h))))) (fun b hb => fun h => un_el h (fun h => (disSym hx0_1) b hb h) (linNot lin1_0 hd2 h2 b hb))) Tryd.underlying54 rfl ?_
 refine rl_move rfl rfl ?_
 refine RL.nil (thn_n ?_)
 have ah0_0 := SlO.read (S' := (un (inBlk (PV po0)) S2)) k_Told_pos ah0_0 (fun b hs h => hs (un_el h (fun h => (.inl h)) (fun h => (.inr (.inr h))))) (fun b hb => fun h => un_el h (fun h => (disSym hx0_1) b hb h) (linNot lin1_0 hd2 h2 b hb))
 have crf : Ch nb w w := Ch.refl
 have ah0 := ah0.ch0 crf
 have c0 := c0.then0 crf
 obtain ⟨o11, ho12⟩ : ∃ o, runA (F17_Verdict_b1 a1) a0.all (0, 0) = o := ⟨_, rfl⟩
 have hS := ltS ho12 hS
 refine CW.cutB (fun E' w' => ∃ (x2 : Int) (x3 : Int), Sub [(6, (Value.int .i64 x2)), (7, (Value.int .i64 x3))] E' ∧ Ch nb w w' ∧ (x2, x3) = o11 ∧ Blk w' po0 56 (Stats_2.c a0 az0_0) ∧ slRep k_Told (G F Bb (un (inBlk (PV po0)) S2)) w' a0.all az0_0) ?_ ?_
 ·
  refine CW.loopS [(1, (Value.int .i64 a1)), (13, az0_0), (14, (Value.int .i64 ((a0.all.length : Nat) : Int))), (6, (Value.int .i64 0)), (7, (Value.int .i64 0)), (15, (Value.int .i64 ((0 : Nat) : Int)))] ⟨rfl, rfl, rfl, rfl, rfl, rfl, trivial⟩ a0.all.length (fun m E w' => ∃ (rest4 : List Told) (i5 : Nat) (x2 : Int) (x3 : Int), m = rest4.length ∧ E = [(1, (Value.int .i64 a1)), (13, az0_0), (14, (Value.int .i64 ((a0.all.length : Nat) : Int))), (6, (Value.int .i64 x2)), (7, (Value.int .i64 x3)), (15, (Value.int .i64 ((i5 : Nat) : Int)))] ∧ Ch nb w w' ∧ At a0.all i5 rest4 ∧ runA (F17_Verdict_b1 a1) rest4 (x2, x3) = o11 ∧ Blk w' po0 56 (Stats_2.c a0 az0_0) ∧ slRep k_Told (G F Bb (un (inBlk (PV po0)) S2)) w' a0.all az0_0)
      ⟨a0.all, 0, 0, 0, rfl, rfl, c0, At.start, ho12, ah0, ah0_0⟩ ?_
  rintro _ _ w17 ⟨rest4, i5, x2, x3, rfl, rfl, c16, hat7, hL6, ah0, ah0_0⟩
  refine CW.seq (CW.region ?_)
  refine rl_bin rfl rfl B.lss rfl ?_
  refine RL.nil (thn_n ?_)
  refine CW.seq ?_
  refine CW.cond (t := decide (((i5 : Nat) : Int) < ((a0.all.length : Nat) : Int))) rfl (fun q19 => ?_) (fun q19 => ?_)
  ·
   obtain ⟨x13, rest20, rfl⟩ := hat7.cons q19
   obtain ⟨q8, hq9⟩ : ∃ q, (F17_Verdict_b1 a1) x13 (x2, x3) = q := ⟨_, rfl⟩
   have hb10 := hq9
   refine CW.skip (thn_n ?_)
   refine CW.seq ?_
   refine CW.block ?_
   refine CW.seq (CW.region ?_)
   refine rl_ixR rfl ah0_0 rfl hat7.get Tryd.underlying54 Tryd.sizeOf97 rfl ?_
   intro p21 o22 cs23 hr24 hs25 hg26
   obtain rfl := hr24
   refine rl_loadA (cs := (Told.enc x13)) rfl Tryd.isAgg97 Tryd.sizeOf97 (hs25) rfl rfl ?_
   refine rl_alloc (Told.enc Told.z) Tryd.zeroValue97 rfl rfl ?_
   intro p27 w28 n29 k30
   have lo31 : ∀ b, inBlk (PV p27) b → w.heap.size ≤ b := fun b h => Nat.le_trans c16.size (n29.fresh b h)
   have d32 : ∀ b, inBlk (PV p27) b → ¬ inBlk (PV po0) b := disNew n29.fresh ah0.ltp
   have ah0 := ah0.ch0 n29.ch
   have ah0_0 := slRep.st k_Told_pos ah0_0 n29.ch (admNew n29.fresh (fun _ x => x))
   have c16 := c16.then0 n29.ch
   refine rl_storeA (vs := (Told.enc x13)) rfl rfl (all_one rfl) Tryd.sizeOf97 rfl k30 rfl ?_
   intro w33 s35 c34 k36
   have ad37 : ∀ b, b < w28.heap.size → ¬ (un (inBlk (PV p27)) (un (inBlk (PV po0)) S2)) b → ¬ (inBlk (PV p27)) b ∧ ¬ (un (inBlk (PV p27)) (un (inBlk (PV po0)) S2)) b := fun b _ hs => ⟨fun h => hs (.inl h), hs⟩
   have ah0 := ah0.ch c34 ((fun b hb h => (disSym d32) b hb h) _ rfl)
   have ah0_0 := slRep.st k_Told_pos ah0_0 c34 ad37
   have c16 := c16.then c34 (fun i hi h => absurd (lo31 i h) (Nat.not_le_of_lt hi))
   refine RL.nil (thn_n (CW.seq (CW.region ?_)))
   refine rl_fieldAddr rfl fa97_0 rfl ?_
   refine rl_loadS (v := (Value.int .i64 x13.verdict)) rfl Tryd.isAgg3 (k36.cell rfl) rfl ?_
   refine rl_move rfl rfl ?_
   refine rl_bin rfl rfl B.eql rfl ?_
   refine RL.nil (thn_n ?_)
   refine CW.cond (t := decide (x13.verdict = a1)) rfl (fun q38 => ?_) (fun q38 => ?_)
   ·
    have hb10 := ifT q38 hb10
    refine CW.seq (CW.region ?_)
    refine rl_move rfl rfl ?_
    refine rl_bin rfl rfl B.add rfl ?_
    refine rl_assign rfl rfl ?_
    refine RL.nil (thn_n (CW.region ?_))
    refine rl_move rfl rfl ?_
    refine rl_fieldAddr rfl fa97_1 rfl ?_
    refine rl_loadS (v := (Value.int .i64 x13.size)) rfl Tryd.isAgg3 (k36.cell rfl) rfl ?_
    refine rl_bin rfl rfl B.add rfl ?_
    refine rl_assign rfl rfl ?_
    refine RL.nil ?_
    refine inB_n ?_
    refine thn_n (CW.region ?_)
    refine rl_inc rfl hat7.lt ah0_0.big rfl ?_
    refine rl_move rfl rfl ?_
    refine RL.nil (thn_n ?_)
    have ad39 : ∀ b, b < w33.heap.size → ¬ (un (inBlk (PV p27)) (un (inBlk (PV po0)) S2)) b → ¬ nb b ∧ ¬ (un (inBlk (PV po0)) S2) b := fun b _ hs => ⟨fun x => x, fun h => hs (un_el h (fun h => (.inr (.inl h))) (fun h => (.inr (.inr h))))⟩
    have crf : Ch nb w33 w33 := Ch.refl
    have ah0 := ah0.ch0 crf
    have ah0_0 := slRep.st k_Told_pos ah0_0 crf ad39
    have c16 := c16.then0 crf
    have hLn := runA_next hL6 (hb10.trans hq9.symm)
    exact ⟨rest20.length, Nat.lt_succ_self _, [(1, (Value.int .i64 a1)), (13, az0_0), (14, (Value.int .i64 ((a0.all.length : Nat) : Int))), (6, (Value.int .i64 (IntKind.i64.wrap (x2 + 1)))), (7, (Value.int .i64 (IntKind.i64.wrap (x3 + x13.size)))), (15, (Value.int .i64 ((i5 + 1 : Nat) : Int)))], ⟨rfl, rfl, rfl, rfl, rfl, rfl, trivial⟩, ⟨rest20, i5 + 1, IntKind.i64.wrap (x2 + 1), IntKind.i64.wrap (x3 + x13.size), rfl, rfl, c16, hat7.next, hLn, ah0, ah0_0⟩⟩
   have hb10 := ifF q38 hb10
   refine CW.skip ?_
   refine inB_n ?_
   refine thn_n (CW.region ?_)
   refine rl_inc rfl hat7.lt ah0_0.big rfl ?_
   refine rl_move rfl rfl ?_
   refine RL.nil (thn_n ?_)
   have ad40 : ∀ b, b < w33.heap.size → ¬ (un (inBlk (PV p27)) (un (inBlk (PV po0)) S2)) b → ¬ nb b ∧ ¬ (un (inBlk (PV po0)) S2) b := fun b _ hs => ⟨fun x => x, fun h => hs (un_el h (fun h => (.inr (.inl h))) (fun h => (.inr (.inr h))))⟩
   have crf : Ch nb w33 w33 := Ch.refl
   have ah0 := ah0.ch0 crf
   have ah0_0 := slRep.st k_Told_pos ah0_0 crf ad40
   have c16 := c16.then0 crf
   have hLn := runA_next hL6 (hb10.trans hq9.symm)
   exact ⟨rest20.length, Nat.lt_succ_self _, [(1, (Value.int .i64 a1)), (13, az0_0), (14, (Value.int .i64 ((a0.all.length : Nat) : Int))), (6, (Value.int .i64 x2)), (7, (Value.int .i64 x3)), (15, (Value.int .i64 ((i5 + 1 : Nat) : Int)))], ⟨rfl, rfl, rfl, rfl, rfl, rfl, trivial⟩, ⟨rest20, i5 + 1, x2, x3, rfl, rfl, c16, hat7.next, hLn, ah0, ah0_0⟩⟩
  obtain rfl := hat7.nil q19
  have hLf : (x2, x3) = o11 := hL6
  refine CW.exit (thn_exit (thn_exit (inB_hit ?_)))
  exact ⟨x2, x3, ⟨rfl, rfl, trivial⟩, c16, hLf, ah0, ah0_0⟩
 rintro _ w42 ⟨x2, x3, hE43, c41, f44, ah0, ah0_0⟩
 subst f44
 refine thn_n (CW.sub [(6, (Value.int .i64 x2)), (7, (Value.int .i64 x3))] hE43 ?_)
 refine CW.seq (CW.region ?_)
 refine rl_move rfl rfl ?_
 refine rl_move rfl rfl ?_
 refine rl_assign rfl rfl ?_
 refine rl_assign rfl rfl ?_
 refine RL.nil (thn_n (CW.ret ?_))
 obtain rfl := hS
 exact ret2 rfl rfl ⟨rfl, c41⟩
theorem ctr10 (F : Nat → Prop) (w : World) (Bb : Nat) (S2 : Nat → Prop) (hB : Bb ≤ w.heap.size) (h2 : ∀ b, S2 b → b < w.heap.size) (po0 : Nat) (az0_0 : Value) (hd2 : ∀ b, (un (inBlk (PV po0)) (inBlk az0_0)) b → ¬ S2 b) (hx0_1 : ∀ b, inBlk (PV po0) b → ¬ inBlk az0_0 b) (a0 : Stats) (ah0 : Blk w po0 81 (Stats.c a0 az0_0)) (ah0_0 : Mp (fun x => Value.agg (Key.enc x).toArray) (fun x => Value.agg (Service.enc x).toArray) w a0.services az0_0) (a1 : Int) (r : Count) (hs : F10_Verdict a0 a1 = some r) :
    Ret Tryd.prog 10 #[(PV po0), (Value.int .i64 a1)] w fun v w' => v = (Value.agg (Count.enc r).toArray) ∧ Ch nb w w' := by
 have hS := hs
 have c0 : Ch nb w w := Ch.refl
 refine Ret.of (n := 18) (args := [_, _]) (rs := [.cell 4 42]) Tryd.func10 rfl rfl rfl rfl ?_
 refine CW.seq (CW.region ?_)
 refine rl_alloc (Count.enc Count.z) Tryd.zeroValue42 rfl rfl ?_
 intro p1 w2 n3 k4
 have lo5 : ∀ b, inBlk (PV p1) b → w.heap.size ≤ b := fun b h => Nat.le_trans c0.size (n3.fresh b h)
 have ah0 := ah0.ch0 n3.ch
 have c0 := c0.then0 n3.ch
 refine RL.nil (thn_n (CW.seq ?_))
 refine CW.seq (CW.region ?_)
 refine rl_move rfl rfl ?_
 refine rl_bin rfl rfl B.lss rfl ?_
 refine rl_move rfl rfl ?_
 obtain ⟨b10, hb11⟩ : ∃ v, ((decide (a1 < 0)) || (decide (a1 ≥ 7))) = v := ⟨_, rfl⟩
 have hS := ltS hb11 hS
 refine RL.join 3 10 (.bool b10) (fun w' => Ch nb w2 w') ?_ ?_
 · rcases Bool.eq_false_or_eq_true (decide (a1 < 0)) with hg9 | hg9
   ·
    have hs8 := or_t hg9 hb11
    have cs : Ch nb w2 w2 := Ch.refl
    refine RL.no rfl rfl rfl hg9 rfl rfl ?_
    refine RL.no rfl rfl rfl hg9 rfl rfl ?_
    refine rl_pickT rfl hg9 rfl rfl ?_
    exact RL.nil ⟨Ext.bothEq (congrArg Value.bool hs8) (Ext.skip rfl (Ext.skip rfl (Ext.rfl'))), cs⟩
   ·
    have hs8 := or_f hg9 hb11
    have cs : Ch nb w2 w2 := Ch.refl
    refine RL.yes rfl rfl rfl hg9 ?_
    refine rl_move rfl rfl ?_
    refine RL.yes rfl rfl rfl hg9 ?_
    refine rl_bin rfl rfl B.geq rfl ?_
    refine rl_pickF rfl hg9 rfl rfl ?_
    exact RL.nil ⟨Ext.bothEq (congrArg Value.bool hs8) (Ext.skip rfl (Ext.skip rfl (Ext.rfl'))), cs⟩
 intro w12 c13
 have ah0 := ah0.ch0 c13
 have k4 := k4.ch0 c13
 have c0 := c0.then0 c13
 refine RL.nil (thn_n ?_)
 refine CW.cond (t := b10) rfl (fun q14 => ?_) (fun q14 => ?_)
 ·
  have hS := ifT q14 hS
  refine CW.seq (CW.region ?_)
  refine rl_build (out := (Count.enc ({ packets := 0, bytes := 0 } : Count))) rfl pl42 Tryd.zeroValue42 rfl rfl rfl ?_
  refine rl_storeA (vs := (Count.enc ({ packets := 0, bytes := 0 } : Count))) rfl rfl (all_one rfl) Tryd.sizeOf42 rfl k4 rfl ?_
  intro w15 s17 c16 k18
  have c0 := c0.then c16 (fun i hi h => absurd (lo5 i h) (Nat.not_le_of_lt hi))
  refine RL.nil (thn_n (CW.ret ?_))
  refine thn_ret ?_
  obtain rfl := Option.some.inj hS
  exact ⟨[_], ⟨Res1.agg (cs := (Count.enc ({ packets := 0, bytes := 0 } : Count))) rfl Tryd.isAgg42 Tryd.sizeOf42 (k18.segAt 0 2) rfl, trivial⟩, ⟨rfl, c0⟩⟩
 have hS := ifF q14 hS
 refine CW.skip ?_
 refine thn_n (CW.seq (CW.region ?_))
 refine rl_move rfl rfl ?_
 refine rl_move rfl rfl ?_
 refine rl_nilCheck rfl rfl ?_
 refine rl_fieldAddr rfl fa81_0 rfl ?_
 obtain ⟨y20, hy21, hS⟩ := bindS hS
 refine rl_ixArrV rfl rfl (ixO_in hy21) Tryd.underlying78 Tryd.sizeOf42 rfl ?_
 refine rl_loadA (cs := (Count.enc y20)) rfl Tryd.isAgg42 Tryd.sizeOf42 (seg_eq (ah0.segAt (0 + a1.toNat * 2) 2) (Stats.part_verdicts a0 az0_0 _ _ (ixO_get hy21).2.2)) rfl rfl ?_
 refine rl_storeA (vs := (Count.enc y20)) rfl rfl (all_one rfl) Tryd.sizeOf42 rfl k4 rfl ?_
 intro w22 s24 c23 k25
 have c0 := c0.then c23 (fun i hi h => absurd (lo5 i h) (Nat.not_le_of_lt hi))
 refine RL.nil (thn_n (CW.ret ?_))
 obtain rfl := Option.some.inj hS
 exact ⟨[_], ⟨Res1.agg (cs := (Count.enc y20)) rfl Tryd.isAgg42 Tryd.sizeOf42 (k25.segAt 0 2) rfl, trivial⟩, ⟨rfl, c0⟩⟩
theorem it38 {w : World} {m : List (Key × Service)} {v : Value} {b : Nat} (hb : Blk w b 77 [v]) (hm : MpN (fun x => Value.agg (Key.enc x).toArray) (fun x => Value.agg (Service.enc x).toArray) w m v) : Seq Tryd.prog (fun x => Value.agg (Service.enc x).toArray) w (m.map (·.2)) (.func (.func 38) #[] [PV b].toArray) := by
  refine ⟨38, [PV b], rfl, en38, fun W c0 l J hJ hY h0 => ?_⟩
  have hb1 := hb.ch0 c0
  have hm1 := hm.ch0 c0
  refine Ret.of (n := 15) (args := [_, _]) (rs := []) Tryd.func38 rfl rfl rfl rfl ?_
  refine CW.seq (CW.region ?_)
  refine rl_loadS (v := v) rfl Tryd.isAgg77 (hb1.cell rfl) rfl ?_
  refine rl_range rfl hm1 Tryd.underlying77 rfl ?_
  intro r W1 hn hw
  refine RL.nil (thn_n ?_)
  refine CW.block ?_
  refine CW.loopS [(0, .func (.yield l) #[] #[]), (6, PV r)] ⟨rfl, rfl, trivial⟩ m.length (fun k E' W' => ∃ (todo : List (Key × Service)) (ys : List Service), todo.length = k ∧ E' = [(0, .func (.yield l) #[] #[]), (6, PV r)] ∧ (ys ++ todo.map (·.2)).Perm (m.map (·.2)) ∧ J ys W' ∧ Walk (fun x => Value.agg (Key.enc x).toArray) (fun x => Value.agg (Service.enc x).toArray) W' m todo v r ∧ W.heap.size ≤ r)
    ⟨m, [], rfl, rfl, .refl _, hJ _ _ _ h0 (hn.ch.mono fun _ _ h => h.elim), hw, by rw [hn.eq]; exact Nat.le_refl _⟩ ?_
  rintro k _ W2 ⟨todo, ys, rfl, rfl, hp, hj, hw, hr⟩
  refine CW.seq (CW.region ?_)
  refine rl_next rfl hw rfl ?_ ?_
  · rintro rfl
    refine rl_extract rfl rfl rfl ?_
    refine RL.nil (thn_n ?_)
    refine CW.seq ?_
    refine CW.no rfl ?_
    refine CW.exit (thn_exit (thn_exit (inB_hit ?_)))
    exact ⟨[], trivial, ys, by simpa using hp, hj⟩
  · intro k x todo' W3 hpt c3 hw3 hen
    have hj3 := hJ _ _ _ hj (c3.mono fun i _ h => ⟨by have e : r = i := h; omega, by have e : r = i := h; subst e; exact hw.iter⟩)
    have hlen : ys.length < (m.map (·.2)).length := by have h1 := hp.length_eq; have h2 := hpt.length_eq; simp only [List.length_append, List.length_map, List.length_cons] at h1 h2 ⊢; omega
    refine rl_extract rfl rfl rfl ?_
    refine RL.nil (thn_n ?_)
    refine CW.seq ?_
    refine CW.yes rfl ?_
    refine CW.skip (thn_n ?_)
    refine CW.block ?_
    refine CW.seq (CW.region ?_)
    refine rl_entry rfl hen rfl ?_
    refine rl_extract rfl rfl rfl ?_
    refine rl_alloc [.string ⟨#[]⟩, .string ⟨#[]⟩, .int .i64 0, .int .i64 0, .int .i64 0, .int .i64 0] Tryd.zeroValue51 rfl rfl ?_
    intro p W4 hn4 hk4
    refine rl_storeA (vs := Service.enc x) rfl rfl (all_one rfl) Tryd.sizeOf51 rfl hk4 rfl ?_
    intro W5 hs5 c5 hk5
    have c45 : Ch nb W3 W5 := hn4.ch.then c5 fun i hi h => by have e : p = i := h; have := hn4.eq; omega
    have hw5 := hw3.ch0 c45
    have hj5 := hJ _ _ _ hj3 (c45.mono fun _ _ h => h.elim)
    refine RL.nil (thn_n ?_)
    refine CW.seq (CW.regionI ?_)
    refine RLI.preK 2 rfl ?_
    refine rl_move rfl rfl ?_
    refine rl_loadA (cs := Service.enc x) rfl Tryd.isAgg51 Tryd.sizeOf51 (hk5.segAt 0 6) rfl rfl ?_
    refine RL.nil ?_
    refine RLI.yield rfl rfl rfl (hY ys x _ hj5 hlen) ?_
    rintro e W6 ⟨rfl, hj6, hk6⟩
    refine ⟨_, rfl, ?_⟩
    have hw6 := hw5.keep fun b o hb ho => hk6.same b o hb ho
    refine RLI.preK 1 rfl ?_
    refine rl_not rfl rfl ?_
    refine RL.nil ?_
    refine RLI.nil fun a ha => ⟨_, ha, thn_n ?_⟩
    refine CW.no rfl ?_
    refine CW.skip (inB_n (thn_n ?_))
    exact ⟨todo'.length, by have := hpt.length_eq; simp only [List.length_cons] at this; omega, [(0, .func (.yield l) #[] #[]), (6, PV r)], ⟨rfl, rfl, trivial⟩, todo', ys ++ [x], rfl, rfl, by
      rw [List.append_assoc]; exact (((hpt.map (·.2)).symm.append_left ys).trans hp), hj6, hw6, hr⟩
theorem ctr28 {w : World} {m : List (Key × Service)} {v : Value} (hm : MpN (fun x => Value.agg (Key.enc x).toArray) (fun x => Value.agg (Service.enc x).toArray) w m v) : Ret Tryd.prog 28 #[v] w fun u w' => Seq Tryd.prog (fun x => Value.agg (Service.enc x).toArray) w' (m.map (·.2)) u ∧ Ch nb w w' := by
  refine Ret.of (n := 4) (args := [_]) (rs := [.tmp 2]) Tryd.func28 rfl rfl rfl rfl ?_
  refine CW.seq (CW.region ?_)
  refine rl_box [v] rfl (by rw [hm.one.1]) rfl ?_
  intro b w1 hn hk
  refine rl_assign rfl rfl ?_
  refine RL.nil (thn_n ?_)
  refine CW.seq (CW.region ?_)
  refine rl_makeFunc rfl rfl ?_
  refine rl_assign rfl rfl ?_
  refine RL.nil (thn_n ?_)
  refine CW.ret ?_
  exact ret1 rfl ⟨it38 hk (hm.ch0 hn.ch), hn.ch⟩
theorem ctr46 {F : Nat → Prop} {w : World} {xs : List Service} {v : Value} (hs : Seq Tryd.prog (fun x => Value.agg (Service.enc x).toArray) w xs v) (hlen : xs.length < 4294967296) :
    Ret Tryd.prog 46 #[.slice none 0 0, v] w fun u w' => ∃ ys, ys.Perm xs ∧ SlO k_Service 51 F w.heap.size (inBlk u) w' ys u ∧ Ch nb w w' := by
  refine Ret.ofM (n := 13) (args := [_, _]) Tryd.func46 rfl rfl rfl ?_
  refine CM.region ?_
  refine rl_box [.slice none 0 0] rfl rfl rfl ?_
  intro b w1 hn hk
  refine rl_assign rfl rfl ?_
  refine RL.nil ?_
  refine CM.seq (CM.region ?_)
  refine rl_move rfl rfl ?_
  refine RL.nil ?_
  refine CM.ranges (B := b) rfl (hs.ch0 hn.ch) rfl (Coll 6 Service.enc (fun _ => rfl) (fun _ => rfl) 51 48 F w w1 b) (fun s A C h hz c => h.nc hn.ch.size c) ⟨_, hk, SlO.nil, fun h => h, hn.ch, Nat.le_refl _⟩ (fun s A ⟨_, _, _, _, _, h⟩ => h) rfl rfl rfl Tryd.isAgg48 rfl rfl rfl ?_ ?_
  · rintro W ys hp ⟨u, hb, hs, hne, hc, hz⟩
    exact ⟨u, hb.cell rfl, fun W' c => ⟨ys, hp, hs.pureCh c hs.notNC, hc.then c fun i hi h => by have := h.1; have := hn.ch.size; omega⟩⟩
  · rintro pre x A ⟨u, hb, hs, hne, hc, hz⟩ hlt
    have h01 := hn.ch.size
    have hbs := hn.eq
    refine rl_alloc [.string ⟨#[]⟩, .string ⟨#[]⟩, .int .i64 0, .int .i64 0, .int .i64 0, .int .i64 0] Tryd.zeroValue51 rfl rfl ?_
    intro p A1 hn1 hk1
    refine rl_storeA (vs := Service.enc x) rfl rfl (all_one rfl) Tryd.sizeOf51 rfl hk1 rfl ?_
    intro A2 hs2 c2 hk2
    have cA : Ch nb A A2 := hn1.ch.then c2 fun i hi h => by have e : p = i := h; have := hn1.eq; omega
    refine RL.nil ⟨(Kc.ch0 hn1.ch).trans (Kc.blk c2 hk1), fun A3 c3 => ?_⟩
    have hb3 := (hb.ch0 cA).nc c3
    have hs2' := hs.ch0 cA
    have hs3 := hs2'.pureCh c3 hs2'.notNC
    have hk3 := hk2.nc c3
    have hz3 : w1.heap.size ≤ A3.heap.size := Nat.le_trans hz (Nat.le_trans cA.size c3.size)
    have hc3 : Ch nb w A3 := (hc.then0 cA).then c3 fun i hi h => by have := h.1; omega
    refine rl_loadS (v := u) rfl Tryd.isAgg48 (hb3.cell rfl) rfl ?_
    refine rl_loadA (cs := Service.enc x) rfl Tryd.isAgg51 Tryd.sizeOf51 (hk3.segAt 0 6) rfl rfl ?_
    refine rl_bslice (k := k_Service) (F := F) (B := w.heap.size) (S := inBlk u) ([x] : List Service) rfl k_Service_pos Tryd.underlying48 Tryd.sizeOf51 Tryd.zeroValue51 rfl rfl ⟨rfl, rfl, trivial⟩ hc3.size (fun b h => (hs3.lt b h).2) rfl ?_
    intro q A4 c4 hf4 h4
    have hs4 : SlO k_Service 51 F w.heap.size (inBlk u) A4 pre u := hs3.ch0 c4
    have hy4 : slRep k_Service (G F w.heap.size (inBlk u)) A4 [x] q := h4.readNew k_Service_pos hf4 (fun b h => (hs3.lt b h).2)
    refine rl_append (k := k_Service) (T := 51) (F := F) (B := w.heap.size) (S := inBlk u) (S2 := nb) (fun v => inBlk v) rfl rfl k_Service_pos ap48 hs4 hy4 (fun b => ⟨.inl, fun h => h.elim id fun h => h.elim⟩) (fun v b => ⟨.inl, fun h => h.elim id fun h => h.elim⟩) (by simp only [List.length_cons, List.length_nil]; omega) (Nat.le_trans hc3.size c4.size) (fun b h => (hs4.lt b h).2) rfl ?_
    intro u' A5 h5 c5 hf5 _
    have hb4 := hb3.ch0 c4
    have hb5 := hb4.ch c5 hne
    have hne5 : ¬ inBlk u' b := fun h => (hf5 b h).elim hne fun h => by have := hb4.lt; omega
    have h4l : ∀ i, i < w.heap.size → ¬ inBlk u i := fun i hi h => by have := (hs4.lt i h).1; omega
    refine rl_storeS (u := u') rfl rfl h5.one Tryd.sizeOf48 hb5 rfl ?_
    intro A6 hs6 c6 hk6
    refine RL.nil ⟨((Kc.ch0 c4).trans (Kc.slo c5 hs4)).trans (Kc.blk c6 hb5), u', hk6, h5.pureCh c6 (fun i hi h => hne5 (by have e : b = i := h; subst e; exact hi)), hne5, ?_, ?_⟩
    · exact ((hc3.then0 c4).then c5 fun i hi h => h4l i hi h).then c6 fun i hi h => by have e : b = i := h; omega
    · exact Nat.le_trans hz3 (Nat.le_trans c4.size (Nat.le_trans c5.size c6.size))
theorem ctr36 {F : Nat → Prop} {w : World} {xs : List Service} {v : Value} (hs : Seq Tryd.prog (fun x => Value.agg (Service.enc x).toArray) w xs v) (hlen : xs.length < 4294967296) :
    Ret Tryd.prog 36 #[v] w fun u w' => ∃ ys, ys.Perm xs ∧ SlO k_Service 51 F w.heap.size (inBlk u) w' ys u ∧ Ch nb w w' := by
  refine Ret.of (n := 5) (args := [_]) (rs := [.tmp 2]) Tryd.func36 rfl rfl rfl rfl ?_
  refine CW.seq (CW.region ?_)
  refine rl_assign rfl rfl ?_
  refine RL.nil (thn_n ?_)
  refine CW.seq (CW.region ?_)
  refine rl_move rfl rfl ?_
  refine rl_callF rfl en46 rfl (ctr46 (F := F) hs hlen) ?_
  rintro u w1 ⟨ys, hp, h, c⟩
  refine rl_assign rfl rfl ?_
  refine RL.nil (thn_n ?_)
  refine CW.ret ?_
  exact ret1 rfl ⟨ys, hp, h, c⟩
theorem ctr37 (F : Nat → Prop) (w : World) (Bb : Nat) (S2 : Nat → Prop) (hB : Bb ≤ w.heap.size) (h2 : ∀ b, S2 b → b < w.heap.size) (av0 : Value) (hd2 : ∀ b, (inBlk av0) b → ¬ S2 b) (a0 : (List Service)) (ah0 : SlO k_Service 51 F Bb (un (inBlk av0) S2) w a0 av0) (a1 : (Service → Service → Int)) (av1 : Value) (ah1 : (Kd.fn2 Tryd.prog true true k_Service k_Service (Value.int .i64)).rep (G F Bb (un (inBlk av0) S2)) w a1 [av1]) (r : (List Service)) (hs : F37_slices_SortFunc a0 a1 = some r) :
    Ret Tryd.prog 37 #[av0, av1] w fun v w' => v = Value.tuple #[] ∧ SlO k_Service 51 F Bb (un (inBlk av0) S2) w' r av0 ∧ Ch (inBlk av0) w w' :=
  sortF_ret (n := 6) (enc := Service.enc) (fun _ => rfl) (fun _ => rfl) lays37 (by decide) Tryd.isAgg51 Tryd.sizeOf51 ah0 ah1 (fun b hb h => hb.2 (.inl h)) hs
theorem ctr27 (F : Nat → Prop) (w : World) (a0 : (List Service)) (av0 : Value) (ah0 : Seq Tryd.prog (fun x => Value.agg (Service.enc x).toArray) w a0 av0) (a1 : (Service → Service → Int)) (av1 : Value) (ah1 : (Kd.fn2 Tryd.prog true true k_Service k_Service (Value.int .i64)).rep F w a1 [av1]) (r : (List Service)) (hs : F27_Service a0 a1 = some r) :
    Ret Tryd.prog 27 #[av0, av1] w fun v w' => ∃ (y0 : Value), v = y0 ∧ SlO k_Service 51 F w.heap.size (inBlk y0) w' r y0 ∧ Ch nb w w' := by
 have hS := hs
 have c0 : Ch nb w w := Ch.refl
 have ah1 := Kd.enter ah1
 refine Ret.of (n := 12) (args := [_, _]) (rs := [.tmp 4]) Tryd.func27 rfl rfl rfl rfl ?_
 refine CW.seq (CW.region ?_)
 refine rl_assign rfl rfl ?_
 refine RL.nil (thn_n (CW.seq (CW.region ?_)))
 refine rl_move rfl rfl ?_
 refine rl_callF rfl en36 rfl (ctr36 (F := (G F w.heap.size nb)) ah0 (anyPerm_lt hS)) ?_
 rintro v3 w4 ⟨ys1, hp2, h5, c6⟩
 have hS := anyPerm_el hS hp2
 have hf7 : ∀ b, inBlk v3 b → w.heap.size ≤ b := fun b hb => (h5.lt b hb).1
 have h5 := SlO.back (S' := un (inBlk v3) nb) h5 nbS c0.size (fun _ => Or.comm)
 have ah1 := Kd.st ah1 c6 (admNew hf7 (fun _ x => x))
 have c0 := c0.then0 c6
 refine rl_assign rfl rfl ?_
 refine RL.nil (thn_n (CW.seq (CW.region ?_)))
 refine rl_move rfl rfl ?_
 refine rl_move rfl rfl ?_
 have hd8 : ∀ b, (inBlk v3) b → ¬ nb b := fun b h => (fun b hb => fun h => h) b h
 have hS9 : (un (inBlk v3) nb) = (un (inBlk v3) nb) := rfl
 have ha10 := ah1
 rw [hS9] at ha10
 obtain ⟨y13, hy14, hS⟩ := bindS hS
 refine rl_callF rfl en37 rfl (ctr37 F w4 w.heap.size nb c0.size nbS v3 hd8  ys1 (hS9 ▸ h5) a1 av1 ha10 y13 hy14) ?_
 rintro _ w11 ⟨rfl, h15, c12⟩
 rw [← hS9] at h15
 have c0 := c0.then c12 (fun i hi h => absurd ((fun b hb => (h5.lt b hb).1) i h) (Nat.not_le_of_lt hi))
 refine RL.nil (thn_n (CW.seq (CW.region ?_)))
 refine rl_move rfl rfl ?_
 refine rl_assign rfl rfl ?_
 refine RL.nil (thn_n (CW.ret ?_))
 obtain rfl := Option.some.inj hS
 exact ret1 rfl ⟨v3, rfl, h15.out, c0⟩
theorem ctr49 (F : Nat → Prop) (w : World) (a0 : ByteArray) (r : Bool) (hs : F49_string a0 = r) :
    Ret Tryd.prog 49 #[(Value.string a0)] w fun v w' => v = (Value.bool r) ∧ Ch nb w w' := by
 have hS := hs
 have c0 : Ch nb w w := Ch.refl
 refine Ret.of (n := 6) (args := [_]) (rs := [.tmp 2]) Tryd.func49 rfl rfl rfl rfl ?_
 refine CW.seq (CW.region ?_)
 refine rl_assign rfl rfl ?_
 refine RL.nil (thn_n (CW.seq (CW.region ?_)))
 refine rl_move rfl rfl ?_
 refine rl_move rfl rfl ?_
 refine rl_bin rfl rfl B.neqS rfl ?_
 refine rl_assign rfl rfl ?_
 refine RL.nil (thn_n (CW.ret ?_))
 obtain rfl := hS
 exact ret1 rfl ⟨rfl, c0⟩
theorem ctr40 (F : Nat → Prop) (w : World) (a0 : ByteArray) (a1 : ByteArray) (r : Int) (hs : F40_string a0 a1 = r) :
    Ret Tryd.prog 40 #[(Value.string a0), (Value.string a1)] w fun v w' => v = (Value.int .i64 r) ∧ Ch nb w w' := by
 have hS := hs
 have c0 : Ch nb w w := Ch.refl
 refine Ret.of (n := 20) (args := [_, _]) (rs := [.tmp 4]) Tryd.func40 rfl rfl rfl rfl ?_
 refine CW.seq (CW.region ?_)
 refine rl_assign rfl rfl ?_
 refine RL.nil (thn_n (CW.seq (CW.region ?_)))
 refine rl_move rfl rfl ?_
 obtain ⟨y3, hy4⟩ : ∃ y, F49_string a0 = y := ⟨_, rfl⟩
 have hS := ltS hy4 hS
 refine rl_callF rfl en49 rfl (ctr49 (G F w.heap.size nb) w a0 y3 hy4) ?_
 rintro _ w1 ⟨rfl, c2⟩
 have c0 := c0.then0 c2
 refine rl_assign rfl rfl ?_
 refine RL.nil (thn_n (CW.seq (CW.region ?_)))
 refine rl_move rfl rfl ?_
 obtain ⟨y7, hy8⟩ : ∃ y, F49_string a1 = y := ⟨_, rfl⟩
 have hS := ltS hy8 hS
 refine rl_callF rfl en49 rfl (ctr49 (G F w.heap.size nb) w1 a1 y7 hy8) ?_
 rintro _ w5 ⟨rfl, c6⟩
 have c0 := c0.then0 c6
 refine rl_assign rfl rfl ?_
 refine RL.nil (thn_n (CW.seq ?_))
 refine CW.seq (CW.region ?_)
 refine rl_move rfl rfl ?_
 refine RL.nil (thn_n ?_)
 refine CW.cond (t := y3) rfl (fun q9 => ?_) (fun q9 => ?_)
 ·
  have hS := ifT q9 hS
  refine CW.seq ?_
  refine CW.seq (CW.region ?_)
  refine rl_move rfl rfl ?_
  refine RL.nil (thn_n ?_)
  refine CW.cond (t := y7) rfl (fun q10 => ?_) (fun q10 => ?_)
  ·
   have hS := ifT q10 hS
   refine CW.seq (CW.region ?_)
   refine rl_assign rfl rfl ?_
   refine RL.nil (thn_n (CW.ret ?_))
   refine thn_ret ?_
   refine thn_ret ?_
   obtain rfl := hS
   exact ret1 rfl ⟨rfl, c0⟩
  have hS := ifF q10 hS
  refine CW.skip ?_
  refine thn_n (CW.seq (CW.region ?_))
  refine rl_assign rfl rfl ?_
  refine RL.nil (thn_n (CW.ret ?_))
  refine thn_ret ?_
  obtain rfl := hS
  exact ret1 rfl ⟨rfl, c0⟩
 have hS := ifF q9 hS
 refine CW.skip ?_
 refine thn_n (CW.seq ?_)
 refine CW.seq (CW.region ?_)
 refine rl_move rfl rfl ?_
 refine RL.nil (thn_n ?_)
 refine CW.cond (t := y7) rfl (fun q11 => ?_) (fun q11 => ?_)
 ·
  have hS := ifT q11 hS
  refine CW.seq (CW.region ?_)
  refine rl_assign rfl rfl ?_
  refine RL.nil (thn_n (CW.ret ?_))
  refine thn_ret ?_
  obtain rfl := hS
  exact ret1 rfl ⟨rfl, c0⟩
 have hS := ifF q11 hS
 refine CW.skip ?_
 refine thn_n (CW.seq ?_)
 refine CW.seq (CW.region ?_)
 refine rl_move rfl rfl ?_
 refine rl_move rfl rfl ?_
 refine rl_bin rfl rfl B.lssS rfl ?_
 refine RL.nil (thn_n ?_)
 refine CW.cond (t := Op.bytesLess a0.toList a1.toList) rfl (fun q12 => ?_) (fun q12 => ?_)
 ·
  have hS := ifT q12 hS
  refine CW.seq (CW.region ?_)
  refine rl_assign rfl rfl ?_
  refine RL.nil (thn_n (CW.ret ?_))
  refine thn_ret ?_
  obtain rfl := hS
  exact ret1 rfl ⟨rfl, c0⟩
 have hS := ifF q12 hS
 refine CW.skip ?_
 refine thn_n (CW.seq ?_)
 refine CW.seq (CW.region ?_)
 refine rl_move rfl rfl ?_
 refine rl_move rfl rfl ?_
 refine rl_bin rfl rfl B.gtrS rfl ?_
 refine RL.nil (thn_n ?_)
 refine CW.cond (t := !(Op.bytesLess a0.toList a1.toList || decide (a0 = a1))) rfl (fun q13 => ?_) (fun q13 => ?_)
 ·
  have hS := ifT q13 hS
  refine CW.seq (CW.region ?_)
  refine rl_assign rfl rfl ?_
  refine RL.nil (thn_n (CW.ret ?_))
  refine thn_ret ?_
  obtain rfl := hS
  exact ret1 rfl ⟨rfl, c0⟩
 have hS := ifF q13 hS
 refine CW.skip ?_
 refine thn_n (CW.seq (CW.region ?_))
 refine rl_assign rfl rfl ?_
 refine RL.nil (thn_n (CW.ret ?_))
 obtain rfl := hS
 exact ret1 rfl ⟨rfl, c0⟩
theorem ctr39 (F : Nat → Prop) (w : World) (a0 : (List Int)) (av0 : Value) (ah0 : slRep (kInt .i64) F w a0 av0) (r : Int) (hs : F39_int a0 = r) :
    Ret Tryd.prog 39 #[av0] w fun v w' => v = (Value.int .i64 r) ∧ Ch nb w w' := by
 have hS := hs
 have c0 : Ch nb w w := Ch.refl
 have ah0 := slRep.enter kInt_pos ah0
 refine Ret.of (n := 18) (args := [_]) (rs := [.tmp 2]) Tryd.func39 rfl rfl rfl rfl ?_
 refine CW.seq (CW.region ?_)
 refine rl_assign rfl rfl ?_
 refine RL.nil (thn_n (CW.seq (CW.region ?_)))
 refine rl_assign rfl rfl ?_
 refine RL.nil (thn_n (CW.seq ?_))
 refine CW.seq (CW.region ?_)
 refine rl_move rfl rfl ?_
 refine rl_lenR rfl ah0 Tryd.underlying104 rfl ?_
 refine rl_move rfl rfl ?_
 refine RL.nil (thn_n ?_)
 obtain ⟨o8, ho9⟩ : ∃ o, runB F39_int_b1 a0 () = o := ⟨_, rfl⟩
 have hS := ltS ho9 hS
 refine CW.cutB (fun E' w' => ∃ (_ : Unit), Sub [(3, (Value.int .i64 0))] E' ∧ Ch nb w w' ∧ Lp.fin () = o8 ∧ slRep (kInt .i64) (G F w.heap.size nb) w' a0 av0) ?_ ?_
 ·
  refine CW.loopS [(3, (Value.int .i64 0)), (6, av0), (7, (Value.int .i64 ((a0.length : Nat) : Int))), (8, (Value.int .i64 ((0 : Nat) : Int)))] ⟨rfl, rfl, rfl, rfl, trivial⟩ a0.length (fun m E w' => ∃ (rest1 : List Int) (i2 : Nat) , m = rest1.length ∧ E = [(3, (Value.int .i64 0)), (6, av0), (7, (Value.int .i64 ((a0.length : Nat) : Int))), (8, (Value.int .i64 ((i2 : Nat) : Int)))] ∧ Ch nb w w' ∧ At a0 i2 rest1 ∧ runB F39_int_b1 rest1 () = o8 ∧ slRep (kInt .i64) (G F w.heap.size nb) w' a0 av0)
      ⟨a0, 0, rfl, rfl, c0, At.start, ho9, ah0⟩ ?_
  rintro _ _ w14 ⟨rest1, i2, rfl, rfl, c13, hat4, hL3, ah0⟩
  refine CW.seq (CW.region ?_)
  refine rl_bin rfl rfl B.lss rfl ?_
  refine RL.nil (thn_n ?_)
  refine CW.seq ?_
  refine CW.cond (t := decide (((i2 : Nat) : Int) < ((a0.length : Nat) : Int))) rfl (fun q16 => ?_) (fun q16 => ?_)
  ·
   obtain ⟨x10, rest17, rfl⟩ := hat4.cons q16
   obtain ⟨q5, hq6⟩ : ∃ q, F39_int_b1 x10 () = q := ⟨_, rfl⟩
   have hb7 := hq6
   refine CW.skip (thn_n ?_)
   refine CW.seq ?_
   refine CW.block ?_
   refine CW.seq (CW.region ?_)
   refine rl_ixR rfl ah0 rfl hat4.get Tryd.underlying104 Tryd.sizeOf3 rfl ?_
   intro p18 o19 cs20 hr21 hs22 hg23
   obtain rfl := hr21
   refine rl_loadS (v := (Value.int .i64 x10)) rfl Tryd.isAgg3 (hs22 0 _ rfl) rfl ?_
   refine rl_assign rfl rfl ?_
   refine RL.nil (thn_n (CW.seq (CW.region ?_)))
   refine rl_move rfl rfl ?_
   refine rl_move rfl rfl ?_
   refine rl_bin rfl rfl B.neq rfl ?_
   refine RL.nil (thn_n ?_)
   refine CW.cond (t := !decide (x10 = 0)) rfl (fun q24 => ?_) (fun q24 => ?_)
   ·
    have hb7 := ifT q24 hb7
    refine CW.seq (CW.region ?_)
    refine rl_move rfl rfl ?_
    refine rl_assign rfl rfl ?_
    refine RL.nil (thn_n (CW.ret ?_))
    refine inB_ret ?_
    refine thn_ret ?_
    refine thn_ret (inB_ret (thn_ret ?_))
    refine thn_ret ?_
    have f25 := runB_ret hL3 (hb7.trans hq6.symm)
    have hS := retS f25 hS
    obtain rfl := hS
    exact ret1 rfl ⟨rfl, c13⟩
   have hb7 := ifF q24 hb7
   refine CW.skip ?_
   refine inB_n ?_
   refine thn_n (CW.region ?_)
   refine rl_inc rfl hat4.lt ah0.big rfl ?_
   refine rl_move rfl rfl ?_
   refine RL.nil (thn_n ?_)
   have hLn := runB_next hL3 (hb7.trans hq6.symm)
   exact ⟨rest17.length, Nat.lt_succ_self _, [(3, (Value.int .i64 0)), (6, av0), (7, (Value.int .i64 ((a0.length : Nat) : Int))), (8, (Value.int .i64 ((i2 + 1 : Nat) : Int)))], ⟨rfl, rfl, rfl, rfl, trivial⟩, ⟨rest17, i2 + 1, rfl, rfl, c13, hat4.next, hLn, ah0⟩⟩
  obtain rfl := hat4.nil q16
  have hLf : Lp.fin () = o8 := hL3
  refine CW.exit (thn_exit (thn_exit (inB_hit ?_)))
  exact ⟨(), ⟨rfl, trivial⟩, c13, hLf, ah0⟩
 rintro _ w27 ⟨_, hE28, c26, f29, ah0⟩
 have hS := finS f29 hS
 refine thn_n (CW.sub [(3, (Value.int .i64 0))] hE28 ?_)
 refine CW.seq (CW.region ?_)
 refine rl_move rfl rfl ?_
 refine rl_assign rfl rfl ?_
 refine RL.nil (thn_n (CW.ret ?_))
 obtain rfl := hS
 exact ret1 rfl ⟨rfl, c26⟩
theorem ctr30 (F : Nat → Prop) (w : World) (a0 : Key) (a1 : Key) (r : Int) (hs : F30_Compare a0 a1 = r) :
    Ret Tryd.prog 30 #[(Value.agg (Key.enc a0).toArray), (Value.agg (Key.enc a1).toArray)] w fun v w' => v = (Value.int .i64 r) ∧ Ch nb w w' := by
 have hS := hs
 have c0 : Ch nb w w := Ch.refl
 refine Ret.of (n := 17) (args := [_, _]) (rs := [.tmp 4]) Tryd.func30 rfl rfl rfl rfl ?_
 refine CW.seq (CW.region ?_)
 refine rl_boxA (cs := (Key.enc a0)) rfl rfl ?_
 intro p1 w2 n3 k4
 have c0 := c0.then0 n3.ch
 refine rl_boxA (cs := (Key.enc a1)) rfl rfl ?_
 intro p5 w6 n7 k8
 have k4 := k4.ch0 n7.ch
 have c0 := c0.then0 n7.ch
 refine rl_assign rfl rfl ?_
 refine RL.nil (thn_n (CW.seq ?_))
 obtain ⟨y11, hy12⟩ : ∃ y, F40_string a0.space a1.space = y := ⟨_, rfl⟩
 have hS := ltS hy12 hS
 obtain ⟨y15, hy16⟩ : ∃ y, F40_string a0.name a1.name = y := ⟨_, rfl⟩
 have hS := ltS hy16 hS
 obtain ⟨y24, hy25⟩ : ∃ y, F39_int [y11, y15] = y := ⟨_, rfl⟩
 have hS := ltS hy25 hS
 refine CW.draw 9 [(none, fun fx O uu wx => uu = (PV p1)), (none, fun fx O uu wx => uu = (Value.string a0.space)), (none, fun fx O uu wx => uu = (PV p5)), (none, fun fx O uu wx => uu = (Value.string a1.space)), (none, fun fx O uu wx => uu = (Value.int .i64 y11)), (none, fun fx O uu wx => uu = (Value.pointer (some ⟨p1, 1, none⟩))), (none, fun fx O uu wx => uu = (Value.string a0.name)), (none, fun fx O uu wx => uu = (Value.pointer (some ⟨p5, 1, none⟩))), (none, fun fx O uu wx => uu = (Value.string a1.name))] [[], [0], [], [2], [1, 3], [], [5], [], [7]] [4, 6, 8] nb (fun _ h => h.elim) mixed rfl rfl rfl rfl ?_ ?_
 ·
  refine Each.consS (fun fl O wk hE hN hO ck => ?_) ?_
  ·
   refine rl_fieldAddr rfl fa34_0 rfl ?_
   exact RL.nil ⟨_, rfl, Ch.refl, rfl⟩
  refine Each.consS (fun fl O wk hE hN hO ck => ?_) ?_
  ·
   have k4 := k4.ch0 ck
   refine Need.o1 rfl rfl rfl (fun _ h => h) ?_
   refine rl_loadS (v := (Value.string a0.space)) rfl Tryd.isAgg9 (k4.cell rfl) rfl ?_
   exact RL.nil ⟨_, rfl, Ch.refl, rfl⟩
  refine Each.consS (fun fl O wk hE hN hO ck => ?_) ?_
  ·
   refine rl_fieldAddr rfl fa34_0 rfl ?_
   exact RL.nil ⟨_, rfl, Ch.refl, rfl⟩
  refine Each.consS (fun fl O wk hE hN hO ck => ?_) ?_
  ·
   have k8 := k8.ch0 ck
   refine Need.o1 rfl rfl rfl (fun _ h => h) ?_
   refine rl_loadS (v := (Value.string a1.space)) rfl Tryd.isAgg9 (k8.cell rfl) rfl ?_
   exact RL.nil ⟨_, rfl, Ch.refl, rfl⟩
  refine Each.consS (fun fl O wk hE hN hO ck => ?_) ?_
  ·
   refine Need.o1 rfl rfl rfl (fun _ h => h) ?_
   refine Need.o1 rfl rfl rfl (fun _ h => h) ?_
   refine rl_callF rfl en40 rfl (ctr40 (G F w.heap.size nb) wk a0.space a1.space y11 hy12) ?_
   rintro _ w30 ⟨rfl, c31⟩
   exact RL.nil ⟨_, rfl, c31, rfl⟩
  refine Each.consS (fun fl O wk hE hN hO ck => ?_) ?_
  ·
   refine rl_fieldAddr rfl fa34_1 rfl ?_
   exact RL.nil ⟨_, rfl, Ch.refl, rfl⟩
  refine Each.consS (fun fl O wk hE hN hO ck => ?_) ?_
  ·
   have k4 := k4.ch0 ck
   refine Need.o1 rfl rfl rfl (fun _ h => h) ?_
   refine rl_loadS (v := (Value.string a0.name)) rfl Tryd.isAgg9 (k4.cell rfl) rfl ?_
   exact RL.nil ⟨_, rfl, Ch.refl, rfl⟩
  refine Each.consS (fun fl O wk hE hN hO ck => ?_) ?_
  ·
   refine rl_fieldAddr rfl fa34_1 rfl ?_
   exact RL.nil ⟨_, rfl, Ch.refl, rfl⟩
  refine Each.consS (fun fl O wk hE hN hO ck => ?_) ?_
  ·
   have k8 := k8.ch0 ck
   refine Need.o1 rfl rfl rfl (fun _ h => h) ?_
   refine rl_loadS (v := (Value.string a1.name)) rfl Tryd.isAgg9 (k8.cell rfl) rfl ?_
   exact RL.nil ⟨_, rfl, Ch.refl, rfl⟩
  trivial
 intro hvO36 OpO36 O36 w34 hO37 c35 hN38
 have c0 := c0.then0 c35
 refine Need.o1 rfl rfl rfl (fun _ h => h) ?_
 refine Need.o1 rfl rfl rfl (fun _ h => h) ?_
 refine Need.o1 rfl rfl rfl (fun _ h => h) ?_
 refine rl_callF rfl en40 rfl (ctr40 (G F w.heap.size nb) w34 a0.name a1.name y15 hy16) ?_
 rintro _ w42 ⟨rfl, c43⟩
 have c0 := c0.then0 c43
 refine rl_bslice (k := (kInt .i64)) (F := F) (B := w.heap.size) (S := nb) ([y11, y15] : List Int) rfl kInt_pos Tryd.underlying104 Tryd.sizeOf3 Tryd.zeroValue3 rfl rfl ⟨rfl, rfl, ⟨rfl, rfl, trivial⟩⟩ c0.size nbS rfl ?_
 intro v44 w45 c46 hf47 h48
 have h48 := h48.readNew kInt_pos hf47 nbS
 have c0 := c0.then0 c46
 refine rl_callF rfl en39 rfl (ctr39 (G F w.heap.size nb) w45 [y11, y15] v44 h48 y24 hy25) ?_
 rintro _ w49 ⟨rfl, c50⟩
 have c0 := c0.then0 c50
 refine rl_assign rfl rfl ?_
 refine RL.nil (thn_n (CW.ret ?_))
 obtain rfl := hS
 exact ret1 rfl ⟨rfl, c0⟩
theorem ctr29 (F : Nat → Prop) (w : World) (a0 : Service) (a1 : Service) (r : Int) (hs : F29_1 a0 a1 = r) :
    Ret Tryd.prog 29 #[(Value.agg (Service.enc a0).toArray), (Value.agg (Service.enc a1).toArray)] w fun v w' => v = (Value.int .i64 r) ∧ Ch nb w w' := by
 have hS := hs
 have c0 : Ch nb w w := Ch.refl
 refine Ret.of (n := 10) (args := [_, _]) (rs := [.tmp 4]) Tryd.func29 rfl rfl rfl rfl ?_
 refine CW.seq (CW.region ?_)
 refine rl_boxA (cs := (Service.enc a0)) rfl rfl ?_
 intro p1 w2 n3 k4
 have c0 := c0.then0 n3.ch
 refine rl_boxA (cs := (Service.enc a1)) rfl rfl ?_
 intro p5 w6 n7 k8
 have k4 := k4.ch0 n7.ch
 have c0 := c0.then0 n7.ch
 refine rl_assign rfl rfl ?_
 refine RL.nil (thn_n (CW.seq (CW.region ?_)))
 refine rl_fieldAddr rfl fa51_0 rfl ?_
 refine rl_loadA (cs := (Key.enc a0.key)) rfl Tryd.isAgg34 Tryd.sizeOf34 (k4.segAt 0 2) rfl rfl ?_
 refine rl_fieldAddr rfl fa51_0 rfl ?_
 refine rl_loadA (cs := (Key.enc a1.key)) rfl Tryd.isAgg34 Tryd.sizeOf34 (k8.segAt 0 2) rfl rfl ?_
 obtain ⟨y11, hy12⟩ : ∃ y, F30_Compare a0.key a1.key = y := ⟨_, rfl⟩
 have hS := ltS hy12 hS
 refine rl_callF rfl en30 rfl (ctr30 (G F w.heap.size nb) w6 a0.key a1.key y11 hy12) ?_
 rintro _ w9 ⟨rfl, c10⟩
 have c0 := c0.then0 c10
 refine rl_assign rfl rfl ?_
 refine RL.nil (thn_n (CW.ret ?_))
 obtain rfl := hS
 exact ret1 rfl ⟨rfl, c0⟩
theorem ctr11 (F : Nat → Prop) (w : World) (Bb : Nat) (S2 : Nat → Prop) (hB : Bb ≤ w.heap.size) (h2 : ∀ b, S2 b → b < w.heap.size) (po0 : Nat) (az0_0 : Value) (hd2 : ∀ b, (un (inBlk (PV po0)) (inBlk az0_0)) b → ¬ S2 b) (hx0_1 : ∀ b, inBlk (PV po0) b → ¬ inBlk az0_0 b) (a0 : Stats) (ah0 : Blk w po0 81 (Stats.c a0 az0_0)) (ah0_0 : Mp (fun x => Value.agg (Key.enc x).toArray) (fun x => Value.agg (Service.enc x).toArray) w a0.services az0_0) (r : (List Service)) (hs : F11_Services a0 = some r) :
    Ret Tryd.prog 11 #[(PV po0)] w fun v w' => ∃ (y0 : Value), v = y0 ∧ SlO k_Service 51 (G F Bb (un (inBlk (PV po0)) (un (inBlk az0_0) S2))) w.heap.size (inBlk y0) w' r y0 ∧ Ch nb w w' := by
 have hS := hs
 have c0 : Ch nb w w := Ch.refl
 refine Ret.of (n := 9) (args := [_]) (rs := [.tmp 2]) Tryd.func11 rfl rfl rfl rfl ?_
 refine CW.seq (CW.region ?_)
 refine rl_assign rfl rfl ?_
 refine RL.nil (thn_n (CW.seq (CW.region ?_)))
 refine rl_move rfl rfl ?_
 refine rl_nilCheck rfl rfl ?_
 refine rl_fieldAddr rfl fa81_1 rfl ?_
 refine rl_loadS (v := az0_0) rfl Tryd.isAgg77 (ah0.cell rfl) rfl ?_
 refine rl_callF rfl en28 rfl (ctr28 ah0_0.n) ?_
 rintro u1 w2 ⟨h3, c4⟩
 have ah0 := ah0.ch0 c4
 have ah0_0 := ah0_0.ch0 c4
 have c0 := c0.then0 c4
 obtain ⟨y7, hy8, hS⟩ := bindS hS
 refine rl_callF rfl en27 rfl (ctr27 (G F Bb (un (inBlk (PV po0)) (un (inBlk az0_0) S2))) w2 (a0.services.map (·.2)) u1 h3 (fun x0 x1 => F29_1 x0 x1) (Value.func (.func 29) #[] [].toArray) (show (Kd.fn2 Tryd.prog true true k_Service k_Service (Value.int .i64)).rep (G F Bb (un (inBlk (PV po0)) (un (inBlk az0_0) S2))) w2 (fun x0 x1 => F29_1 x0 x1) [(Value.func (.func 29) #[] [].toArray)] from ⟨29, [], rfl, en29, fun w' hw F' x0 x1 c0 c1 hx0 hx1 => by
     obtain rfl := hx0
     obtain rfl := hx1
     exact (ctr29 (fun b => (G F Bb (un (inBlk (PV po0)) (un (inBlk az0_0) S2))) b ∨ F' b) w' x0 x1 _ rfl).mono (by rintro v w'' ⟨rfl, c⟩; exact ⟨rfl, c⟩)⟩) y7 hy8) ?_
 rintro v9 w5 ⟨_, rfl, h10, c6⟩
 have hf11 : ∀ b, inBlk v9 b → w2.heap.size ≤ b := fun b hb => (h10.lt b hb).1
 have h10 := SlO.back (S' := un (inBlk v9) (un (inBlk (PV po0)) (un (inBlk az0_0) S2))) h10 (un_lt ah0.ltp (un_lt ah0_0.ltp (fun b h => Nat.lt_of_lt_of_le (h2 b h) c0.size))) (Nat.le_trans hB c0.size) (fun _ => Or.comm)
 have lo12 : ∀ b, inBlk v9 b → w.heap.size ≤ b := fun b h => Nat.le_trans c0.size (hf11 b h)
 have c0 := c0.then0 c6
 refine rl_assign rfl rfl ?_
 refine RL.nil (thn_n (CW.ret ?_))
 obtain rfl := Option.some.inj hS
 exact ret1 rfl ⟨v9, rfl, (SlO.outP (fun h => h) h10 lo12), c0⟩
theorem ctr45 (F : Nat → Prop) (w : World) (a0 : Key) (a1 : Key) (r : Int) (hs : F45_Compare a0 a1 = r) :
    Ret Tryd.prog 45 #[(Value.agg (Key.enc a0).toArray), (Value.agg (Key.enc a1).toArray)] w fun v w' => v = (Value.int .i64 r) ∧ Ch nb w w' := by
 have hS := hs
 have c0 : Ch nb w w := Ch.refl
 refine Ret.of (n := 27) (args := [_, _]) (rs := [.tmp 4]) Tryd.func45 rfl rfl rfl rfl ?_
 refine CW.seq (CW.region ?_)
 refine rl_boxA (cs := (Key.enc a0)) rfl rfl ?_
 intro p1 w2 n3 k4
 have c0 := c0.then0 n3.ch
 refine rl_boxA (cs := (Key.enc a1)) rfl rfl ?_
 intro p5 w6 n7 k8
 have k4 := k4.ch0 n7.ch
 have c0 := c0.then0 n7.ch
 refine rl_assign rfl rfl ?_
 refine RL.nil (thn_n (CW.seq ?_))
 refine CW.seq (CW.region ?_)
 refine rl_fieldAddr rfl fa34_0 rfl ?_
 refine rl_loadS (v := (Value.string a0.space)) rfl Tryd.isAgg9 (k4.cell rfl) rfl ?_
 refine rl_fieldAddr rfl fa34_0 rfl ?_
 refine rl_loadS (v := (Value.string a1.space)) rfl Tryd.isAgg9 (k8.cell rfl) rfl ?_
 refine rl_bin rfl rfl B.lssS rfl ?_
 refine rl_move rfl rfl ?_
 obtain ⟨b11, hb12⟩ : ∃ v, ((Op.bytesLess a0.space.toList a1.space.toList) || (lt ((decide (a0.space = a1.space)) && (Op.bytesLess a0.name.toList a1.name.toList)) fun b13 => b13)) = v := ⟨_, rfl⟩
 have hS := ltS hb12 hS
 refine RL.join 13 23 (.bool b11) (fun w' => Ch nb w6 w') ?_ ?_
 · rcases Bool.eq_false_or_eq_true (Op.bytesLess a0.space.toList a1.space.toList) with hg10 | hg10
   ·
    have hs9 := or_t hg10 hb12
    have cs : Ch nb w6 w6 := Ch.refl
    refine RL.no rfl rfl rfl hg10 rfl rfl ?_
    refine RL.no rfl rfl rfl hg10 rfl rfl ?_
    refine RL.no rfl rfl rfl hg10 rfl rfl ?_
    refine RL.no rfl rfl rfl hg10 rfl rfl ?_
    refine RL.no rfl rfl rfl hg10 rfl rfl ?_
    refine RL.no rfl rfl rfl hg10 rfl rfl ?_
    refine RL.noU rfl rfl rfl rfl rfl ?_
    refine RL.noU rfl rfl rfl rfl rfl ?_
    refine RL.noU rfl rfl rfl rfl rfl ?_
    refine RL.noU rfl rfl rfl rfl rfl ?_
    refine RL.noU rfl rfl rfl rfl rfl ?_
    refine RL.no rfl rfl rfl hg10 rfl rfl ?_
    refine rl_pickT rfl hg10 rfl rfl ?_
    exact RL.nil ⟨Ext.bothEq (congrArg Value.bool hs9) (Ext.skip rfl (Ext.skip rfl (Ext.skip rfl (Ext.skip rfl (Ext.skip rfl (Ext.skip rfl (Ext.skip rfl (Ext.skip rfl (Ext.skip rfl (Ext.skip rfl (Ext.skip rfl (Ext.skip rfl (Ext.rfl'))))))))))))), cs⟩
   ·
    have hs9 := or_f hg10 hb12
    have cs : Ch nb w6 w6 := Ch.refl
    refine RL.yes rfl rfl rfl hg10 ?_
    refine rl_fieldAddr rfl fa34_0 rfl ?_
    refine RL.yes rfl rfl rfl hg10 ?_
    refine rl_loadS (v := (Value.string a0.space)) rfl Tryd.isAgg9 (k4.cell rfl) rfl ?_
    refine RL.yes rfl rfl rfl hg10 ?_
    refine rl_fieldAddr rfl fa34_0 rfl ?_
    refine RL.yes rfl rfl rfl hg10 ?_
    refine rl_loadS (v := (Value.string a1.space)) rfl Tryd.isAgg9 (k8.cell rfl) rfl ?_
    refine RL.yes rfl rfl rfl hg10 ?_
    refine rl_bin rfl rfl B.eqlS rfl ?_
    refine RL.yes rfl rfl rfl hg10 ?_
    refine rl_move rfl rfl ?_
    obtain ⟨b16, hb17⟩ : ∃ v, ((decide (a0.space = a1.space)) && (Op.bytesLess a0.name.toList a1.name.toList)) = v := ⟨_, rfl⟩
    have hs9 := ltS hb17 hs9
    refine RL.join 6 22 (.bool b16) (fun w' => Ch nb w6 w') ?_ ?_
    · rcases Bool.eq_false_or_eq_true (decide (a0.space = a1.space)) with hg15 | hg15
      ·
       have hs14 := and_t hg15 hb17
       have cs : Ch nb w6 w6 := Ch.refl
       refine RL.yes rfl rfl rfl hg15 ?_
       refine rl_fieldAddr rfl fa34_1 rfl ?_
       refine RL.yes rfl rfl rfl hg15 ?_
       refine rl_loadS (v := (Value.string a0.name)) rfl Tryd.isAgg9 (k4.cell rfl) rfl ?_
       refine RL.yes rfl rfl rfl hg15 ?_
       refine rl_fieldAddr rfl fa34_1 rfl ?_
       refine RL.yes rfl rfl rfl hg15 ?_
       refine rl_loadS (v := (Value.string a1.name)) rfl Tryd.isAgg9 (k8.cell rfl) rfl ?_
       refine RL.yes rfl rfl rfl hg15 ?_
       refine rl_bin rfl rfl B.lssS rfl ?_
       refine RL.yes rfl rfl rfl hg10 ?_
       refine rl_pickT rfl hg15 rfl rfl ?_
       exact RL.nil ⟨Ext.bothEq (congrArg Value.bool hs14) (Ext.skip rfl (Ext.skip rfl (Ext.skip rfl (Ext.skip rfl (Ext.skip rfl (Ext.rfl')))))), cs⟩
      ·
       have hs14 := and_f hg15 hb17
       have cs : Ch nb w6 w6 := Ch.refl
       refine RL.no rfl rfl rfl hg15 rfl rfl ?_
       refine RL.no rfl rfl rfl hg15 rfl rfl ?_
       refine RL.no rfl rfl rfl hg15 rfl rfl ?_
       refine RL.no rfl rfl rfl hg15 rfl rfl ?_
       refine RL.no rfl rfl rfl hg15 rfl rfl ?_
       refine RL.yes rfl rfl rfl hg10 ?_
       refine rl_pickF rfl hg15 rfl rfl ?_
       exact RL.nil ⟨Ext.bothEq (congrArg Value.bool hs14) (Ext.skip rfl (Ext.skip rfl (Ext.skip rfl (Ext.skip rfl (Ext.skip rfl (Ext.rfl')))))), cs⟩
    intro w18 c19
    refine rl_pickF rfl hg10 rfl rfl ?_
    have cs := cs.then0 c19
    exact RL.nil ⟨Ext.bothEq (congrArg Value.bool hs9) (Ext.skip rfl (Ext.skip rfl (Ext.skip rfl (Ext.skip rfl (Ext.skip rfl (Ext.skip rfl (Ext.skip rfl (Ext.rfl')))))))), cs⟩
 intro w13 c20
 have k4 := k4.ch0 c20
 have k8 := k8.ch0 c20
 have c0 := c0.then0 c20
 refine RL.nil (thn_n ?_)
 refine CW.cond (t := b11) rfl (fun q21 => ?_) (fun q21 => ?_)
 ·
  have hS := ifT q21 hS
  refine CW.seq (CW.region ?_)
  refine rl_assign rfl rfl ?_
  refine RL.nil (thn_n (CW.ret ?_))
  refine thn_ret ?_
  obtain rfl := hS
  exact ret1 rfl ⟨rfl, c0⟩
 have hS := ifF q21 hS
 refine CW.skip ?_
 refine thn_n (CW.seq ?_)
 refine CW.seq (CW.region ?_)
 refine rl_loadA (cs := (Key.enc a0)) rfl Tryd.isAgg34 Tryd.sizeOf34 (k4.segAt 0 2) rfl rfl ?_
 refine rl_loadA (cs := (Key.enc a1)) rfl Tryd.isAgg34 Tryd.sizeOf34 (k8.segAt 0 2) rfl rfl ?_
 refine rl_bin rfl rfl (eql34 a0 a1) rfl ?_
 refine RL.nil (thn_n ?_)
 refine CW.cond (t := decide (a0 = a1)) rfl (fun q22 => ?_) (fun q22 => ?_)
 ·
  have hS := ifT q22 hS
  refine CW.seq (CW.region ?_)
  refine rl_assign rfl rfl ?_
  refine RL.nil (thn_n (CW.ret ?_))
  refine thn_ret ?_
  obtain rfl := hS
  exact ret1 rfl ⟨rfl, c0⟩
 have hS := ifF q22 hS
 refine CW.skip ?_
 refine thn_n (CW.seq (CW.region ?_))
 refine rl_assign rfl rfl ?_
 refine RL.nil (thn_n (CW.ret ?_))
 obtain rfl := hS
 exact ret1 rfl ⟨rfl, c0⟩
theorem ctr35 (F : Nat → Prop) (w : World) (a0 : (List Key)) (av0 : Value) (ah0 : slRep k_Key F w a0 av0) (r : (List Key)) (hs : F35_Sort a0 = some r) :
    Ret Tryd.prog 35 #[av0] w fun v w' => ∃ (y0 : Value), v = y0 ∧ SlO k_Key 34 F w.heap.size (inBlk y0) w' r y0 ∧ Ch nb w w' := by
 have hS := hs
 have c0 : Ch nb w w := Ch.refl
 have ah0 := slRep.enter k_Key_pos ah0
 refine Ret.of (n := 55) (args := [_]) (rs := [.tmp 2]) Tryd.func35 rfl rfl rfl rfl ?_
 refine CW.seq (CW.region ?_)
 refine rl_assign rfl rfl ?_
 refine RL.nil (thn_n (CW.seq (CW.region ?_)))
 refine rl_bslice (k := k_Key) (F := F) (B := w.heap.size) (S := nb) ([] : List Key) rfl k_Key_pos Tryd.underlying99 Tryd.sizeOf34 Tryd.zeroValue34 rfl rfl trivial c0.size nbS rfl ?_
 intro v1 w2 c3 hf4 h5
 have ah0 := slRep.st k_Key_pos ah0 c3 (admNew hf4 (fun _ x => x))
 have c0 := c0.then0 c3
 refine rl_assign rfl rfl ?_
 refine RL.nil (thn_n (CW.seq ?_))
 refine CW.seq (CW.region ?_)
 refine rl_move rfl rfl ?_
 refine rl_lenR rfl ah0 Tryd.underlying99 rfl ?_
 refine rl_move rfl rfl ?_
 refine RL.nil (thn_n ?_)
 obtain ⟨o16, ho17, hS⟩ := bindS hS
 refine CW.cutB (fun E' w' => ∃ (x6 : (List Key)) (v7 : Value), Sub [(3, v7)] E' ∧ Ch nb w w' ∧ x6 = o16 ∧ slRep k_Key (G F w.heap.size (un (inBlk v7) nb)) w' a0 av0 ∧ SlO k_Key 34 F w.heap.size (un (inBlk v7) nb) w' x6 v7) ?_ ?_
 ·
  refine CW.loopS [(8, av0), (9, (Value.int .i64 ((a0.length : Nat) : Int))), (3, v1), (10, (Value.int .i64 ((0 : Nat) : Int)))] ⟨rfl, rfl, rfl, rfl, trivial⟩ a0.length (fun m E w' => ∃ (rest9 : List Key) (i10 : Nat) (x6 : (List Key)) (v7 : Value), m = rest9.length ∧ E = [(8, av0), (9, (Value.int .i64 ((a0.length : Nat) : Int))), (3, v7), (10, (Value.int .i64 ((i10 : Nat) : Int)))] ∧ Ch nb w w' ∧ At a0 i10 rest9 ∧ runAO F35_Sort_b1 rest9 x6 = some o16 ∧ slRep k_Key (G F w.heap.size (un (inBlk v7) nb)) w' a0 av0 ∧ SlO k_Key 34 F w.heap.size (un (inBlk v7) nb) w' x6 v7)
      ⟨a0, 0, [], v1, rfl, rfl, c0, At.start, ho17, ah0, h5⟩ ?_
  rintro _ _ w22 ⟨rest9, i10, x6, v7, rfl, rfl, c21, hat12, hL11, ah0, h8⟩
  refine CW.seq (CW.region ?_)
  refine rl_bin rfl rfl B.lss rfl ?_
  refine RL.nil (thn_n ?_)
  refine CW.seq ?_
  refine CW.cond (t := decide (((i10 : Nat) : Int) < ((a0.length : Nat) : Int))) rfl (fun q24 => ?_) (fun q24 => ?_)
  ·
   obtain ⟨x18, rest25, rfl⟩ := hat12.cons q24
   obtain ⟨q13, hq14⟩ := runAO_some hL11
   have hb15 := hq14
   refine CW.skip (thn_n ?_)
   refine CW.seq ?_
   refine CW.block ?_
   refine CW.seq (CW.region ?_)
   refine rl_ixR rfl ah0 rfl hat12.get Tryd.underlying99 Tryd.sizeOf34 rfl ?_
   intro p26 o27 cs28 hr29 hs30 hg31
   obtain rfl := hr29
   refine rl_loadA (cs := (Key.enc x18)) rfl Tryd.isAgg34 Tryd.sizeOf34 (hs30) rfl rfl ?_
   refine rl_alloc (Key.enc Key.z) Tryd.zeroValue34 rfl rfl ?_
   intro p32 w33 n34 k35
   have lo36 : ∀ b, inBlk (PV p32) b → w.heap.size ≤ b := fun b h => Nat.le_trans c21.size (n34.fresh b h)
   have d37 : ∀ b, inBlk (PV p32) b → ¬ inBlk v7 b := disNew n34.fresh (fun b hb => (h8.lt b hb).2)
   have ah0 := slRep.st k_Key_pos ah0 n34.ch (admNew n34.fresh (fun _ x => x))
   have h8 := h8.st n34.ch (fun _ _ x => x) (admNew n34.fresh (fun _ x => x)) (fun b h => (.inr (.inl h)))
   have c21 := c21.then0 n34.ch
   refine rl_storeA (vs := (Key.enc x18)) rfl rfl (all_one rfl) Tryd.sizeOf34 rfl k35 rfl ?_
   intro w38 s40 c39 k41
   have ad42 : ∀ b, b < w33.heap.size → ¬ (un (inBlk (PV p32)) (un (inBlk v7) nb)) b → ¬ (inBlk (PV p32)) b ∧ ¬ (un (inBlk (PV p32)) (un (inBlk v7) nb)) b := fun b _ hs => ⟨fun h => hs (.inl h), hs⟩
   have ah0 := slRep.st k_Key_pos ah0 c39 ad42
   have h8 := h8.st c39 (fun b hb h => (disSym d37) b hb h) ad42 (fun b h => (.inr (.inl h)))
   have c21 := c21.then c39 (fun i hi h => absurd (lo36 i h) (Nat.not_le_of_lt hi))
   refine RL.nil (thn_n (CW.seq (CW.region ?_)))
   refine rl_move rfl rfl ?_
   refine rl_lenR rfl (SlO.read (S' := (un (inBlk (PV p32)) nb)) k_Key_pos h8 (fun b hs h => hs (un_el h (fun h => (.inl h)) (fun h => False.elim h))) (fun b hb => fun h => un_el h (fun h => (disSym d37) b hb h) (fun h => h))) Tryd.underlying99 rfl ?_
   refine rl_assign rfl rfl ?_
   refine RL.nil (thn_n (CW.seq ?_))
   obtain ⟨o52, ho53, hb15⟩ := bindS hb15
   refine CW.cutB (fun E' w' => ∃ (x43 : Int), Sub [(3, v7), (5, (PV p32)), (8, av0), (9, (Value.int .i64 ((a0.length : Nat) : Int))), (10, (Value.int .i64 ((i10 : Nat) : Int))), (6, (Value.int .i64 x43))] E' ∧ Ch nb w w' ∧ Lp.fin x43 = o52 ∧ slRep k_Key (G F w.heap.size (un (inBlk (PV p32)) (un (inBlk v7) nb))) w' a0 av0 ∧ SlO k_Key 34 F w.heap.size (un (inBlk (PV p32)) (un (inBlk v7) nb)) w' x6 v7 ∧ Blk w' p32 34 (Key.enc x18) ∧ (∀ b, inBlk (PV p32) b → ¬ inBlk v7 b)) ?_ ?_
   ·
    refine CW.loopS [(3, v7), (5, (PV p32)), (8, av0), (9, (Value.int .i64 ((a0.length : Nat) : Int))), (10, (Value.int .i64 ((i10 : Nat) : Int))), (6, (Value.int .i64 ((x6.length : Nat) : Int)))] ⟨rfl, rfl, rfl, rfl, rfl, rfl, trivial⟩ FUEL (fun m E w' => ∃ (x43 : Int), E = [(3, v7), (5, (PV p32)), (8, av0), (9, (Value.int .i64 ((a0.length : Nat) : Int))), (10, (Value.int .i64 ((i10 : Nat) : Int))), (6, (Value.int .i64 x43))] ∧ Ch nb w w' ∧ runW (F35_Sort_b2 x6 x18) m x43 = some o52 ∧ slRep k_Key (G F w.heap.size (un (inBlk (PV p32)) (un (inBlk v7) nb))) w' a0 av0 ∧ SlO k_Key 34 F w.heap.size (un (inBlk (PV p32)) (un (inBlk v7) nb)) w' x6 v7 ∧ Blk w' p32 34 (Key.enc x18) ∧ (∀ b, inBlk (PV p32) b → ¬ inBlk v7 b))
        ⟨((x6.length : Nat) : Int), rfl, c21, ho53, ah0, h8, k41, d37⟩ ?_
    rintro _ _ w58 ⟨x43, rfl, c57, hL47, ah0, h8, k41, d44⟩
    obtain ⟨k56, q49, rfl, hq50⟩ := runW_some hL47
    have hb51 := hq50
    refine CW.seq ?_
    refine CW.seq ?_
    obtain ⟨b72, hb73, hb51⟩ := bindS hb51
    refine CW.cutN (fun E' w' => Sub [(3, v7), (5, (PV p32)), (6, (Value.int .i64 x43)), (8, av0), (9, (Value.int .i64 ((a0.length : Nat) : Int))), (10, (Value.int .i64 ((i10 : Nat) : Int))), (27, (Value.bool b72))] E' ∧ Ch nb w58 w') ?_ ?_
    ·
     rcases Bool.eq_false_or_eq_true (decide (x43 > 0)) with hg74 | hg74
     ·
      have hs75 := andO_t hg74 hb73
      obtain ⟨y66, hy67, hs75⟩ := bindS hs75
      obtain ⟨y70, hy71⟩ : ∃ y, F45_Compare x18 y66 = y := ⟨_, rfl⟩
      have hs75 := ltS hy71 hs75
      refine CW.draw 12 [(none, fun fx O uu wx => uu = (Value.int .i64 x43)), (none, fun fx O uu wx => uu = (Value.bool (decide (x43 > 0)))), (none, fun fx O uu wx => uu = (Value.bool (decide (x43 > 0)))), (none, fun fx O uu wx => uu = (Value.agg (Key.enc x18).toArray)), (none, fun fx O uu wx => uu = v7), (none, fun fx O uu wx => uu = (Value.int .i64 x43)), (none, fun fx O uu wx => uu = (Value.int .i64 (IntKind.i64.wrap (x43 - 1)))), (none, fun fx O uu wx => ∃ (p60 : Nat) (o61 : Nat), uu = (Value.pointer (some ⟨p60, o61, none⟩)) ∧ Seg wx p60 o61 (Key.enc y66)), (none, fun fx O uu wx => uu = (Value.agg (Key.enc y66).toArray)), (none, fun fx O uu wx => uu = (Value.int .i64 y70)), (none, fun fx O uu wx => uu = (Value.bool (decide (y70 < 0)))), (none, fun fx O uu wx => uu = (Value.bool b72))] [[], [0], [1], [2], [2], [2], [2, 5], [2, 4, 6], [2, 7], [2, 3, 8], [2, 9], [2, 10]] [11] nb (fun _ h => h.elim) mixed rfl rfl rfl rfl ?_ ?_
      ·
       refine Each.consS (fun fl O wk hE hN hO ck => ?_) ?_
       ·
        refine rl_move rfl rfl ?_
        exact RL.nil ⟨_, rfl, Ch.refl, rfl⟩
       refine Each.consS (fun fl O wk hE hN hO ck => ?_) ?_
       ·
        refine Need.o1 rfl rfl rfl (fun _ h => h) ?_
        refine rl_bin rfl rfl B.gtr rfl ?_
        exact RL.nil ⟨_, rfl, Ch.refl, rfl⟩
       refine Each.consS (fun fl O wk hE hN hO ck => ?_) ?_
       ·
        refine Need.o1 rfl rfl rfl (fun _ h => h) ?_
        refine rl_move rfl rfl ?_
        exact RL.nil ⟨_, rfl, Ch.refl, rfl⟩
       refine Each.consS (fun fl O wk hE hN hO ck => ?_) ?_
       ·
        have k41 := k41.ch0 ck
        refine Need.o1 rfl rfl rfl (fun _ h => h) ?_
        refine RL.yes rfl rfl rfl hg74 ?_
        refine rl_loadA (cs := (Key.enc x18)) rfl Tryd.isAgg34 Tryd.sizeOf34 (k41.segAt 0 2) rfl rfl ?_
        exact RL.nil ⟨_, rfl, Ch.refl, rfl⟩
       refine Each.consS (fun fl O wk hE hN hO ck => ?_) ?_
       ·
        refine Need.o1 rfl rfl rfl (fun _ h => h) ?_
        refine RL.yes rfl rfl rfl hg74 ?_
        refine rl_move rfl rfl ?_
        exact RL.nil ⟨_, rfl, Ch.refl, rfl⟩
       refine Each.consS (fun fl O wk hE hN hO ck => ?_) ?_
       ·
        refine Need.o1 rfl rfl rfl (fun _ h => h) ?_
        refine RL.yes rfl rfl rfl hg74 ?_
        refine rl_move rfl rfl ?_
        exact RL.nil ⟨_, rfl, Ch.refl, rfl⟩
       refine Each.consS (fun fl O wk hE hN hO ck => ?_) ?_
       ·
        refine Need.o1 rfl rfl rfl (fun _ h => h) ?_
        refine Need.o1 rfl rfl rfl (fun _ h => h) ?_
        refine RL.yes rfl rfl rfl hg74 ?_
        refine rl_bin rfl rfl B.sub rfl ?_
        exact RL.nil ⟨_, rfl, Ch.refl, rfl⟩
       refine Each.consA ⟨fun _ _ _ _ _ cc hh => by obtain ⟨p60, o61, e, hs64⟩ := hh; exact ⟨p60, o61, e, hs64.ch0 cc⟩, fun h => absurd rfl h, fun fl O wk hE hN hO ck => ?_⟩ ?_
       ·
        have h8 := h8.ch0 ck
        refine Need.o1 rfl rfl rfl (fun _ h => h) ?_
        refine Need.o1 rfl rfl rfl (fun _ h => h) ?_
        refine Need.o1 rfl rfl rfl (fun _ h => h) ?_
        refine RL.yes rfl rfl rfl hg74 ?_
        refine rl_ixOR rfl h8 rfl (ixO_get hy67) k_Key_pos Tryd.underlying99 Tryd.sizeOf34 rfl ?_
        intro p86 o87 cs88 hr89 hs90 hg91
        obtain rfl := hr89
        exact RL.nil ⟨_, rfl, Ch.refl, ⟨p86, o87, rfl, hs90⟩⟩
       refine Each.consS (fun fl O wk hE hN hO ck => ?_) ?_
       ·
        refine Need.o1 rfl rfl rfl (fun _ h => h) ?_
        refine Need.one rfl rfl rfl ?_
        rintro _ ⟨p60, o61, e93, hs64⟩
        obtain rfl := e93.symm
        refine RL.yes rfl rfl rfl hg74 ?_
        refine rl_loadA (cs := (Key.enc y66)) rfl Tryd.isAgg34 Tryd.sizeOf34 (hs64) rfl rfl ?_
        exact RL.nil ⟨_, rfl, Ch.refl, rfl⟩
       refine Each.consS (fun fl O wk hE hN hO ck => ?_) ?_
       ·
        refine Need.o1 rfl rfl rfl (fun _ h => h) ?_
        refine Need.o1 rfl rfl rfl (fun _ h => h) ?_
        refine Need.o1 rfl rfl rfl (fun _ h => h) ?_
        refine RL.yes rfl rfl rfl hg74 ?_
        refine rl_callF rfl en45 rfl (ctr45 (G F w.heap.size (un (inBlk (PV p32)) (un (inBlk v7) nb))) wk x18 y66 y70 hy71) ?_
        rintro _ w97 ⟨rfl, c98⟩
        exact RL.nil ⟨_, rfl, c98, rfl⟩
       refine Each.consS (fun fl O wk hE hN hO ck => ?_) ?_
       ·
        refine Need.o1 rfl rfl rfl (fun _ h => h) ?_
        refine Need.o1 rfl rfl rfl (fun _ h => h) ?_
        refine RL.yes rfl rfl rfl hg74 ?_
        refine rl_bin rfl rfl B.lss rfl ?_
        exact RL.nil ⟨_, rfl, Ch.refl, rfl⟩
       refine Each.consS (fun fl O wk hE hN hO ck => ?_) ?_
       ·
        refine Need.o1 rfl rfl rfl (fun _ h => h) ?_
        refine Need.o1 rfl rfl rfl (fun _ h => h) ?_
        refine rl_pickT rfl hg74 rfl rfl ?_
        exact RL.nil ⟨_, rfl, Ch.refl, congrArg Value.bool (Option.some.inj hs75)⟩
       trivial
      intro hvO105 OpO105 O105 w103 hO106 c104 hN107
      refine Need.o1 rfl rfl rfl (fun _ h => h) ?_
      exact RL.nil ⟨rfl, ⟨rfl, rfl, rfl, rfl, rfl, rfl, rfl, trivial⟩, c104⟩
     have hs109 := andO_f hg74 hb73
     refine CW.draw 12 [(none, fun fx O uu wx => uu = (Value.int .i64 x43)), (none, fun fx O uu wx => uu = (Value.bool (decide (x43 > 0)))), (none, fun fx O uu wx => uu = (Value.bool (decide (x43 > 0)))), (none, fun _ O uu wx => uu = undef), (none, fun _ O uu wx => uu = undef), (none, fun _ O uu wx => uu = undef), (none, fun _ O uu wx => uu = undef), (none, fun _ O uu wx => uu = undef), (none, fun _ O uu wx => uu = undef), (none, fun _ O uu wx => uu = undef), (none, fun _ O uu wx => uu = undef), (none, fun fx O uu wx => uu = (Value.bool b72))] [[], [0], [1], [2], [2], [2], [2], [2], [2], [2], [2], [2]] [11] nb (fun _ h => h.elim) mixed rfl rfl rfl rfl ?_ ?_
     ·
      refine Each.consS (fun fl O wk hE hN hO ck => ?_) ?_
      ·
       refine rl_move rfl rfl ?_
       exact RL.nil ⟨_, rfl, Ch.refl, rfl⟩
      refine Each.consS (fun fl O wk hE hN hO ck => ?_) ?_
      ·
       refine Need.o1 rfl rfl rfl (fun _ h => h) ?_
       refine rl_bin rfl rfl B.gtr rfl ?_
       exact RL.nil ⟨_, rfl, Ch.refl, rfl⟩
      refine Each.consS (fun fl O wk hE hN hO ck => ?_) ?_
      ·
       refine Need.o1 rfl rfl rfl (fun _ h => h) ?_
       refine rl_move rfl rfl ?_
       exact RL.nil ⟨_, rfl, Ch.refl, rfl⟩
      refine Each.consS (fun fl O wk hE hN hO ck => ?_) ?_
      ·
       refine Need.o1 rfl rfl rfl (fun _ h => h) ?_
       refine RL.no rfl rfl rfl hg74 rfl rfl ?_
       exact RL.nil ⟨_, rfl, Ch.refl, rfl⟩
      refine Each.consS (fun fl O wk hE hN hO ck => ?_) ?_
      ·
       refine Need.o1 rfl rfl rfl (fun _ h => h) ?_
       refine RL.no rfl rfl rfl hg74 rfl rfl ?_
       exact RL.nil ⟨_, rfl, Ch.refl, rfl⟩
      refine Each.consS (fun fl O wk hE hN hO ck => ?_) ?_
      ·
       refine Need.o1 rfl rfl rfl (fun _ h => h) ?_
       refine RL.no rfl rfl rfl hg74 rfl rfl ?_
       exact RL.nil ⟨_, rfl, Ch.refl, rfl⟩
      refine Each.consS (fun fl O wk hE hN hO ck => ?_) ?_
      ·
       refine Need.o1 rfl rfl rfl (fun _ h => h) ?_
       refine RL.no rfl rfl rfl hg74 rfl rfl ?_
       exact RL.nil ⟨_, rfl, Ch.refl, rfl⟩
      refine Each.consS (fun fl O wk hE hN hO ck => ?_) ?_
      ·
       refine Need.o1 rfl rfl rfl (fun _ h => h) ?_
       refine RL.no rfl rfl rfl hg74 rfl rfl ?_
       exact RL.nil ⟨_, rfl, Ch.refl, rfl⟩
      refine Each.consS (fun fl O wk hE hN hO ck => ?_) ?_
      ·
       refine Need.o1 rfl rfl rfl (fun _ h => h) ?_
       refine RL.no rfl rfl rfl hg74 rfl rfl ?_
       exact RL.nil ⟨_, rfl, Ch.refl, rfl⟩
      refine Each.consS (fun fl O wk hE hN hO ck => ?_) ?_
      ·
       refine Need.o1 rfl rfl rfl (fun _ h => h) ?_
       refine RL.no rfl rfl rfl hg74 rfl rfl ?_
       exact RL.nil ⟨_, rfl, Ch.refl, rfl⟩
      refine Each.consS (fun fl O wk hE hN hO ck => ?_) ?_
      ·
       refine Need.o1 rfl rfl rfl (fun _ h => h) ?_
       refine RL.no rfl rfl rfl hg74 rfl rfl ?_
       exact RL.nil ⟨_, rfl, Ch.refl, rfl⟩
      refine Each.consS (fun fl O wk hE hN hO ck => ?_) ?_
      ·
       refine Need.o1 rfl rfl rfl (fun _ h => h) ?_
       refine rl_pickF rfl hg74 rfl rfl ?_
       exact RL.nil ⟨_, rfl, Ch.refl, congrArg Value.bool (Option.some.inj hs109)⟩
      trivial
     intro hvO123 OpO123 O123 w121 hO124 c122 hN125
     refine Need.o1 rfl rfl rfl (fun _ h => h) ?_
     exact RL.nil ⟨rfl, ⟨rfl, rfl, rfl, rfl, rfl, rfl, rfl, trivial⟩, c122⟩
    rintro _ w128 ⟨hE127, c129⟩
    have ah0 := slRep.ch k_Key_pos ah0 c129
    have h8 := h8.ch0 c129
    have k41 := k41.ch0 c129
    have c57 := c57.then0 c129
    refine thn_n (CW.sub [(3, v7), (5, (PV p32)), (6, (Value.int .i64 x43)), (8, av0), (9, (Value.int .i64 ((a0.length : Nat) : Int))), (10, (Value.int .i64 ((i10 : Nat) : Int))), (27, (Value.bool b72))] hE127 ?_)
    refine CW.cond (t := b72) rfl (fun q130 => ?_) (fun q130 => ?_)
    ·
     have hb51 := ifT q130 hb51
     refine CW.skip ?_
     refine thn_n (CW.block ?_)
     refine CW.region ?_
     refine rl_move rfl rfl ?_
     refine rl_bin rfl rfl B.sub rfl ?_
     refine rl_assign rfl rfl ?_
     refine RL.nil ?_
     refine inB_n ?_
     refine thn_n ?_
     have hLn := runW_next hL47 hq50 hb51
     exact ⟨k56, Nat.lt_succ_self _, [(3, v7), (5, (PV p32)), (8, av0), (9, (Value.int .i64 ((a0.length : Nat) : Int))), (10, (Value.int .i64 ((i10 : Nat) : Int))), (6, (Value.int .i64 (IntKind.i64.wrap (x43 - 1))))], ⟨rfl, rfl, rfl, rfl, rfl, rfl, trivial⟩, ⟨IntKind.i64.wrap (x43 - 1), rfl, c57, hLn, ah0, h8, k41, d44⟩⟩
    have hb51 := ifF q130 hb51
    refine CW.exit ?_
    refine thn_exit ?_
    refine thn_exit ?_
    refine inB_hit ?_
    have hLf := runW_fin hL47 hq50 hb51
    exact ⟨x43, ⟨rfl, rfl, rfl, rfl, rfl, rfl, trivial⟩, c57, hLf, ah0, h8, k41, d44⟩
   rintro _ w132 ⟨x43, hE133, c131, f134, ah0, h8, k41, d44⟩
   have hb15 := finS f134 hb15
   refine thn_n (CW.sub [(3, v7), (5, (PV p32)), (8, av0), (9, (Value.int .i64 ((a0.length : Nat) : Int))), (10, (Value.int .i64 ((i10 : Nat) : Int))), (6, (Value.int .i64 x43))] hE133 ?_)
   refine CW.seq ?_
   refine CW.seq ?_
   obtain ⟨b144, hb145, hb15⟩ := bindS hb15
   refine CW.cutN (fun E' w' => Sub [(3, v7), (5, (PV p32)), (6, (Value.int .i64 x43)), (8, av0), (9, (Value.int .i64 ((a0.length : Nat) : Int))), (10, (Value.int .i64 ((i10 : Nat) : Int))), (40, (Value.bool b144))] E' ∧ Ch nb w132 w') ?_ ?_
   ·
    rcases Bool.eq_false_or_eq_true (decide (x43 > 0)) with hg146 | hg146
    ·
     have hs147 := andO_t hg146 hb145
     obtain ⟨y142, hy143, hs147⟩ := bindS hs147
     refine CW.draw 11 [(none, fun fx O uu wx => uu = (Value.int .i64 x43)), (none, fun fx O uu wx => uu = (Value.bool (decide (x43 > 0)))), (none, fun fx O uu wx => uu = (Value.bool (decide (x43 > 0)))), (none, fun fx O uu wx => uu = v7), (none, fun fx O uu wx => uu = (Value.int .i64 x43)), (none, fun fx O uu wx => uu = (Value.int .i64 (IntKind.i64.wrap (x43 - 1)))), (none, fun fx O uu wx => ∃ (p136 : Nat) (o137 : Nat), uu = (Value.pointer (some ⟨p136, o137, none⟩)) ∧ Seg wx p136 o137 (Key.enc y142)), (none, fun fx O uu wx => uu = (Value.agg (Key.enc y142).toArray)), (none, fun fx O uu wx => uu = (Value.agg (Key.enc x18).toArray)), (none, fun fx O uu wx => uu = (Value.bool (decide (y142 = x18)))), (none, fun fx O uu wx => uu = (Value.bool b144))] [[], [0], [1], [2], [2], [2, 4], [2, 3, 5], [2, 6], [2], [2, 7, 8], [2, 9]] [10] nb (fun _ h => h.elim) mixed rfl rfl rfl rfl ?_ ?_
     ·
      refine Each.consS (fun fl O wk hE hN hO ck => ?_) ?_
      ·
       refine rl_move rfl rfl ?_
       exact RL.nil ⟨_, rfl, Ch.refl, rfl⟩
      refine Each.consS (fun fl O wk hE hN hO ck => ?_) ?_
      ·
       refine Need.o1 rfl rfl rfl (fun _ h => h) ?_
       refine rl_bin rfl rfl B.gtr rfl ?_
       exact RL.nil ⟨_, rfl, Ch.refl, rfl⟩
      refine Each.consS (fun fl O wk hE hN hO ck => ?_) ?_
      ·
       refine Need.o1 rfl rfl rfl (fun _ h => h) ?_
       refine rl_move rfl rfl ?_
       exact RL.nil ⟨_, rfl, Ch.refl, rfl⟩
      refine Each.consS (fun fl O wk hE hN hO ck => ?_) ?_
      ·
       refine Need.o1 rfl rfl rfl (fun _ h => h) ?_
       refine RL.yes rfl rfl rfl hg146 ?_
       refine rl_move rfl rfl ?_
       exact RL.nil ⟨_, rfl, Ch.refl, rfl⟩
      refine Each.consS (fun fl O wk hE hN hO ck => ?_) ?_
      ·
       refine Need.o1 rfl rfl rfl (fun _ h => h) ?_
       refine RL.yes rfl rfl rfl hg146 ?_
       refine rl_move rfl rfl ?_
       exact RL.nil ⟨_, rfl, Ch.refl, rfl⟩
      refine Each.consS (fun fl O wk hE hN hO ck => ?_) ?_
      ·
       refine Need.o1 rfl rfl rfl (fun _ h => h) ?_
       refine Need.o1 rfl rfl rfl (fun _ h => h) ?_
       refine RL.yes rfl rfl rfl hg146 ?_
       refine rl_bin rfl rfl B.sub rfl ?_
       exact RL.nil ⟨_, rfl, Ch.refl, rfl⟩
      refine Each.consA ⟨fun _ _ _ _ _ cc hh => by obtain ⟨p136, o137, e, hs140⟩ := hh; exact ⟨p136, o137, e, hs140.ch0 cc⟩, fun h => absurd rfl h, fun fl O wk hE hN hO ck => ?_⟩ ?_
      ·
       have h8 := h8.ch0 ck
       refine Need.o1 rfl rfl rfl (fun _ h => h) ?_
       refine Need.o1 rfl rfl rfl (fun _ h => h) ?_
       refine Need.o1 rfl rfl rfl (fun _ h => h) ?_
       refine RL.yes rfl rfl rfl hg146 ?_
       refine rl_ixOR rfl h8 rfl (ixO_get hy143) k_Key_pos Tryd.underlying99 Tryd.sizeOf34 rfl ?_
       intro p157 o158 cs159 hr160 hs161 hg162
       obtain rfl := hr160
       exact RL.nil ⟨_, rfl, Ch.refl, ⟨p157, o158, rfl, hs161⟩⟩
      refine Each.consS (fun fl O wk hE hN hO ck => ?_) ?_
      ·
       refine Need.o1 rfl rfl rfl (fun _ h => h) ?_
       refine Need.one rfl rfl rfl ?_
       rintro _ ⟨p136, o137, e164, hs140⟩
       obtain rfl := e164.symm
       refine RL.yes rfl rfl rfl hg146 ?_
       refine rl_loadA (cs := (Key.enc y142)) rfl Tryd.isAgg34 Tryd.sizeOf34 (hs140) rfl rfl ?_
       exact RL.nil ⟨_, rfl, Ch.refl, rfl⟩
      refine Each.consS (fun fl O wk hE hN hO ck => ?_) ?_
      ·
       have k41 := k41.ch0 ck
       refine Need.o1 rfl rfl rfl (fun _ h => h) ?_
       refine RL.yes rfl rfl rfl hg146 ?_
       refine rl_loadA (cs := (Key.enc x18)) rfl Tryd.isAgg34 Tryd.sizeOf34 (k41.segAt 0 2) rfl rfl ?_
       exact RL.nil ⟨_, rfl, Ch.refl, rfl⟩
      refine Each.consS (fun fl O wk hE hN hO ck => ?_) ?_
      ·
       refine Need.o1 rfl rfl rfl (fun _ h => h) ?_
       refine Need.o1 rfl rfl rfl (fun _ h => h) ?_
       refine Need.o1 rfl rfl rfl (fun _ h => h) ?_
       refine RL.yes rfl rfl rfl hg146 ?_
       refine rl_bin rfl rfl (eql34 y142 x18) rfl ?_
       exact RL.nil ⟨_, rfl, Ch.refl, rfl⟩
      refine Each.consS (fun fl O wk hE hN hO ck => ?_) ?_
      ·
       refine Need.o1 rfl rfl rfl (fun _ h => h) ?_
       refine Need.o1 rfl rfl rfl (fun _ h => h) ?_
       refine rl_pickT rfl hg146 rfl rfl ?_
       exact RL.nil ⟨_, rfl, Ch.refl, congrArg Value.bool (Option.some.inj hs147)⟩
      trivial
     intro hvO173 OpO173 O173 w171 hO174 c172 hN175
     refine Need.o1 rfl rfl rfl (fun _ h => h) ?_
     exact RL.nil ⟨rfl, ⟨rfl, rfl, rfl, rfl, rfl, rfl, rfl, trivial⟩, c172⟩
    have hs177 := andO_f hg146 hb145
    refine CW.draw 11 [(none, fun fx O uu wx => uu = (Value.int .i64 x43)), (none, fun fx O uu wx => uu = (Value.bool (decide (x43 > 0)))), (none, fun fx O uu wx => uu = (Value.bool (decide (x43 > 0)))), (none, fun _ O uu wx => uu = undef), (none, fun _ O uu wx => uu = undef), (none, fun _ O uu wx => uu = undef), (none, fun _ O uu wx => uu = undef), (none, fun _ O uu wx => uu = undef), (none, fun _ O uu wx => uu = undef), (none, fun _ O uu wx => uu = undef), (none, fun fx O uu wx => uu = (Value.bool b144))] [[], [0], [1], [2], [2], [2], [2], [2], [2], [2], [2]] [10] nb (fun _ h => h.elim) mixed rfl rfl rfl rfl ?_ ?_
    ·
     refine Each.consS (fun fl O wk hE hN hO ck => ?_) ?_
     ·
      refine rl_move rfl rfl ?_
      exact RL.nil ⟨_, rfl, Ch.refl, rfl⟩
     refine Each.consS (fun fl O wk hE hN hO ck => ?_) ?_
     ·
      refine Need.o1 rfl rfl rfl (fun _ h => h) ?_
      refine rl_bin rfl rfl B.gtr rfl ?_
      exact RL.nil ⟨_, rfl, Ch.refl, rfl⟩
     refine Each.consS (fun fl O wk hE hN hO ck => ?_) ?_
     ·
      refine Need.o1 rfl rfl rfl (fun _ h => h) ?_
      refine rl_move rfl rfl ?_
      exact RL.nil ⟨_, rfl, Ch.refl, rfl⟩
     refine Each.consS (fun fl O wk hE hN hO ck => ?_) ?_
     ·
      refine Need.o1 rfl rfl rfl (fun _ h => h) ?_
      refine RL.no rfl rfl rfl hg146 rfl rfl ?_
      exact RL.nil ⟨_, rfl, Ch.refl, rfl⟩
     refine Each.consS (fun fl O wk hE hN hO ck => ?_) ?_
     ·
      refine Need.o1 rfl rfl rfl (fun _ h => h) ?_
      refine RL.no rfl rfl rfl hg146 rfl rfl ?_
      exact RL.nil ⟨_, rfl, Ch.refl, rfl⟩
     refine Each.consS (fun fl O wk hE hN hO ck => ?_) ?_
     ·
      refine Need.o1 rfl rfl rfl (fun _ h => h) ?_
      refine RL.no rfl rfl rfl hg146 rfl rfl ?_
      exact RL.nil ⟨_, rfl, Ch.refl, rfl⟩
     refine Each.consS (fun fl O wk hE hN hO ck => ?_) ?_
     ·
      refine Need.o1 rfl rfl rfl (fun _ h => h) ?_
      refine RL.no rfl rfl rfl hg146 rfl rfl ?_
      exact RL.nil ⟨_, rfl, Ch.refl, rfl⟩
     refine Each.consS (fun fl O wk hE hN hO ck => ?_) ?_
     ·
      refine Need.o1 rfl rfl rfl (fun _ h => h) ?_
      refine RL.no rfl rfl rfl hg146 rfl rfl ?_
      exact RL.nil ⟨_, rfl, Ch.refl, rfl⟩
     refine Each.consS (fun fl O wk hE hN hO ck => ?_) ?_
     ·
      refine Need.o1 rfl rfl rfl (fun _ h => h) ?_
      refine RL.no rfl rfl rfl hg146 rfl rfl ?_
      exact RL.nil ⟨_, rfl, Ch.refl, rfl⟩
     refine Each.consS (fun fl O wk hE hN hO ck => ?_) ?_
     ·
      refine Need.o1 rfl rfl rfl (fun _ h => h) ?_
      refine RL.no rfl rfl rfl hg146 rfl rfl ?_
      exact RL.nil ⟨_, rfl, Ch.refl, rfl⟩
     refine Each.consS (fun fl O wk hE hN hO ck => ?_) ?_
     ·
      refine Need.o1 rfl rfl rfl (fun _ h => h) ?_
      refine rl_pickF rfl hg146 rfl rfl ?_
      exact RL.nil ⟨_, rfl, Ch.refl, congrArg Value.bool (Option.some.inj hs177)⟩
     trivial
    intro hvO190 OpO190 O190 w188 hO191 c189 hN192
    refine Need.o1 rfl rfl rfl (fun _ h => h) ?_
    exact RL.nil ⟨rfl, ⟨rfl, rfl, rfl, rfl, rfl, rfl, rfl, trivial⟩, c189⟩
   rintro _ w195 ⟨hE194, c196⟩
   have ah0 := slRep.ch k_Key_pos ah0 c196
   have h8 := h8.ch0 c196
   have k41 := k41.ch0 c196
   have c131 := c131.then0 c196
   refine thn_n (CW.sub [(3, v7), (5, (PV p32)), (6, (Value.int .i64 x43)), (8, av0), (9, (Value.int .i64 ((a0.length : Nat) : Int))), (10, (Value.int .i64 ((i10 : Nat) : Int))), (40, (Value.bool b144))] hE194 ?_)
   refine CW.cond (t := b144) rfl (fun q197 => ?_) (fun q197 => ?_)
   ·
    have hb15 := ifT q197 hb15
    refine CW.exit ?_
    refine thn_exit ?_
    refine inB_hit ?_
    refine thn_n (CW.region ?_)
    refine rl_inc rfl hat12.lt ah0.big rfl ?_
    refine rl_move rfl rfl ?_
    refine RL.nil (thn_n ?_)
    have ad198 : ∀ b, b < w195.heap.size → ¬ (un (inBlk (PV p32)) (un (inBlk v7) nb)) b → ¬ nb b ∧ ¬ (un (inBlk v7) nb) b := fun b _ hs => ⟨fun x => x, fun h => hs (un_el h (fun h => (.inr (.inl h))) (fun h => False.elim h))⟩
    have crf : Ch nb w195 w195 := Ch.refl
    have ah0 := slRep.st k_Key_pos ah0 crf ad198
    have h8 := h8.st crf (fun _ _ x => x) ad198 (fun b h => (.inl h))
    have c131 := c131.then0 crf
    have hLn := runAO_next hL11 hq14 hb15
    exact ⟨rest25.length, Nat.lt_succ_self _, [(8, av0), (9, (Value.int .i64 ((a0.length : Nat) : Int))), (3, v7), (10, (Value.int .i64 ((i10 + 1 : Nat) : Int)))], ⟨rfl, rfl, rfl, rfl, trivial⟩, ⟨rest25, i10 + 1, x6, v7, rfl, rfl, c131, hat12.next, hLn, ah0, h8⟩⟩
   have hb15 := ifF q197 hb15
   refine CW.skip ?_
   refine thn_n ?_
   have ad199 : ∀ b, b < w195.heap.size → ¬ (un (inBlk (PV p32)) (un (inBlk v7) nb)) b → ¬ nb b ∧ ¬ (un (inBlk (PV p32)) nb) b := fun b _ hs => ⟨fun x => x, fun h => hs (un_el h (fun h => (.inl h)) (fun h => False.elim h))⟩
   have h8 := SlO.read (S' := (un (inBlk (PV p32)) nb)) k_Key_pos h8 (fun b hs h => hs (un_el h (fun h => (.inl h)) (fun h => False.elim h))) (fun b hb => fun h => un_el h (fun h => (disSym d44) b hb h) (fun h => h))
   have crf : Ch nb w195 w195 := Ch.refl
   have ah0 := slRep.st k_Key_pos ah0 crf ad199
   have k41 := k41.ch0 crf
   have c131 := c131.then0 crf
   obtain ⟨y206, hy207, hb15⟩ := bindS hb15
   obtain ⟨z218, hz219, hb15⟩ := bindS hb15
   obtain ⟨z234, hz235, hb15⟩ := bindS hb15
   obtain ⟨y237, hy238, hb15⟩ := bindS hb15
   obtain ⟨z249, hz250, hb15⟩ := bindS hb15
   refine CW.draw 11 [(some false, fun _ O uu wx => ∃ (v200 : Value), uu = v200 ∧ O = (inBlk v200) ∧ SlO k_Key 34 F w.heap.size (un (inBlk v200) (un (inBlk (PV p32)) nb)) wx [] v200), (none, fun fx O uu wx => uu = v7), (none, fun fx O uu wx => uu = (Value.int .i64 x43)), (none, fun fx O uu wx => ∃ (v208 : Value), uu = v208 ∧ slRep k_Key (G F w.heap.size (un O (un (inBlk (PV p32)) nb))) wx y206 v208), (some true, fun hv O uu wx => ∃ (v212 : Value) (v200 : Value), hv = [v200, v212] ∧ uu = v212 ∧ O = (inBlk v212) ∧ SlO k_Key 34 F w.heap.size (un (inBlk v212) (un (inBlk (PV p32)) nb)) wx ([] ++ y206) v212), (none, fun fx O uu wx => uu = (Value.agg (Key.enc x18).toArray)), (none, fun fx O uu wx => ∃ (v221 : Value), uu = v221 ∧ slRep k_Key (G F w.heap.size (un O (un (inBlk (PV p32)) nb))) wx [x18] v221), (some true, fun hv O uu wx => ∃ (v228 : Value) (v200 : Value) (v212 : Value), hv = [v200, v212, v228] ∧ uu = v228 ∧ O = (inBlk v228) ∧ SlO k_Key 34 F w.heap.size (un (inBlk v228) (un (inBlk (PV p32)) nb)) wx (([] ++ y206) ++ [x18]) v228), (none, fun fx O uu wx => uu = v7), (none, fun fx O uu wx => uu = (Value.int .i64 x43)), (none, fun fx O uu wx => ∃ (v239 : Value), uu = v239 ∧ slRep k_Key (G F w.heap.size (un O (un (inBlk (PV p32)) nb))) wx y237 v239)] [[], [], [], [1, 2], [0, 3], [], [5], [4, 6], [], [], [8, 9]] [7, 10] nb (fun _ h => h.elim) mixed rfl rfl rfl rfl ?_ ?_
   ·
    refine Each.consP ⟨fun _ O _ wx wy cc hh => by obtain ⟨v200, e, rfl, ck0_0⟩ := hh; exact ⟨v200, e, rfl, ck0_0.ch0 cc⟩, fun O wk hO ck => ?_⟩ ?_
    ·
     have k41 := k41.ch0 ck
     have c131 := c131.then0 ck
     refine rl_bslice (k := k_Key) (F := F) (B := w.heap.size) (S := (un O (un (inBlk (PV p32)) nb))) ([] : List Key) rfl k_Key_pos Tryd.underlying99 Tryd.sizeOf34 Tryd.zeroValue34 rfl rfl trivial c131.size (un_lt (fun b h => (hO b h).2) (un_lt k41.ltp nbS)) rfl ?_
     intro v254 w255 c256 hf257 h258
     have hb261 : ∀ b, (inBlk v254) b → wk.heap.size ≤ b ∧ b < w255.heap.size := fun b h => ⟨hf257 b h, (fun b hb => (h258.lt b hb).2) b h⟩
     have h262 := SlO.reS (S' := (un (inBlk v254) (un (inBlk (PV p32)) nb))) (fun h => h) h258 (fun b h => .inl h)
     exact RL.nil ⟨_, (inBlk v254), rfl, hb261, c256, ⟨v254, rfl, rfl, h262⟩⟩
    refine Each.consS (fun fl O wk hE hN hO ck => ?_) ?_
    ·
     refine rl_move rfl rfl ?_
     exact RL.nil ⟨_, rfl, Ch.refl, rfl⟩
    refine Each.consS (fun fl O wk hE hN hO ck => ?_) ?_
    ·
     refine rl_move rfl rfl ?_
     exact RL.nil ⟨_, rfl, Ch.refl, rfl⟩
    refine Each.consA ⟨fun _ _ _ _ _ cc hh => by obtain ⟨v208, e, h209⟩ := hh; exact ⟨v208, e, slRep.ch k_Key_pos h209 cc⟩, fun _ _ h' O O' D _ wx wy hfl hD hO' cc hh => by obtain ⟨v208, e, h209⟩ := hh; have ad := admGh (S := (un (inBlk (PV p32)) nb)) hD hO'; exact ⟨v208, e, slRep.st k_Key_pos h209 cc ad⟩, fun fl O wk hE hN hO ck => ?_⟩ ?_
    ·
     have ha268 : ∀ b, b < w195.heap.size → ¬ (un (inBlk (PV p32)) nb) b → ¬ nb b ∧ ¬ (un O (un (inBlk (PV p32)) nb)) b := fun b hb hs => ⟨fun h => h.elim, fun h => un_el h (fun ho => (hO b ho).1.elim (fun h => h.elim) (fun h => Nat.not_le_of_lt hb h)) (fun h => un_el h (fun h => hs (.inl h)) (fun h => False.elim h))⟩
     have h8 := slRep.st k_Key_pos h8 ck ha268
     refine Need.o1 rfl rfl rfl (fun _ h => h) ?_
     refine Need.o1 rfl rfl rfl (fun _ h => h) ?_
     refine rl_cutR (kl := .i64) (kh := .i64) none (some x43) rfl h8 k_Key_pos trivial rfl hy207 Tryd.underlying99 Tryd.sizeOf34 rfl ?_
     intro v271 h272
     exact RL.nil ⟨_, rfl, Ch.refl, ⟨v271, rfl, h272⟩⟩
    refine Each.consO ⟨fun _ O _ wx wy cc hh => by obtain ⟨v212, v200, eh, e, rfl, ck4_0⟩ := hh; exact ⟨v212, v200, eh, e, rfl, ck4_0.ch0 cc⟩, fun hv Op O wk hO ck hO0 => ?_⟩ ?_
    ·
     obtain ⟨hl, hBg⟩ := hO0 rfl
     refine Need.made rfl rfl rfl rfl ?_
     rintro _ ⟨v200, e273, eO274, ck0_0⟩ hh275
     obtain rfl := e273.symm
     have io276 : ∀ b, inBlk v200 b → _ := fun b h => (Eq.mpr (congrFun eO274 b) h)
     obtain rfl := hist_eq [v200] hv hl ⟨hh275, trivial⟩
     have k41 := k41.ch0 hBg.2.1
     have c131 := c131.then0 hBg.2.1
     have ck0_0 := SlO.reS (S' := (un (inBlk v200) (un (inBlk (PV p32)) nb))) (fun h => h) ck0_0 (fun b h => (.inl h))
     refine Need.one rfl rfl rfl ?_
     rintro _ ⟨v208, e280, h209⟩
     obtain rfl := e280.symm
     have h209 := slRep.wk (F' := (G F w.heap.size (un (inBlk v200) (un (inBlk (PV p32)) nb)))) k_Key_pos h209 (fun b _ hf => ⟨hf.1, fun h => hf.2 (un_el h (fun h => (.inl ((hBg.1 b).2 (.inr ⟨_, inPre rfl, io276 b h⟩)))) (fun h => un_el h (fun h => (.inr (.inl h))) (fun h => False.elim h)))⟩)
     have hl := (apO_get hz219).1
     refine rl_append (k := k_Key) (T := 34) (F := F) (B := w.heap.size) (S := (un (inBlk v200) (un (inBlk (PV p32)) nb))) (S2 := (un (inBlk (PV p32)) nb)) (fun v => (un (inBlk v) (un (inBlk (PV p32)) nb))) rfl rfl k_Key_pos ap99 ck0_0 h209 (fun _ => Iff.rfl) (fun _ _ => Iff.rfl) hl c131.size (un_lt (fun b hb => (ck0_0.lt b hb).2) (un_lt k41.ltp nbS)) rfl ?_
     intro v283 w284 h285 c286 hf287 ha288
     have hb290 : ∀ b, (inBlk v283) b → (O b ∨ wk.heap.size ≤ b) ∧ b < w284.heap.size := fun b h => ⟨(hf287 b h).elim (fun h => .inl (((hBg.1 b).2 (.inr ⟨_, inPre rfl, io276 b h⟩)))) (fun h => .inr (Nat.le_trans (Nat.le_refl _) h)), (fun b hb => (h285.lt b hb).2) b h⟩
     exact RL.nil ⟨_, (inBlk v283), rfl, hb290, (c286.mono (fun b _ h => ((hBg.1 b).2 (.inr ⟨_, inPre rfl, io276 b h⟩)))), ⟨v283, v200, rfl, rfl, rfl, h285⟩⟩
    refine Each.consS (fun fl O wk hE hN hO ck => ?_) ?_
    ·
     have k41 := k41.ch0 ck
     refine rl_loadA (cs := (Key.enc x18)) rfl Tryd.isAgg34 Tryd.sizeOf34 (k41.segAt 0 2) rfl rfl ?_
     exact RL.nil ⟨_, rfl, Ch.refl, rfl⟩
    refine Each.consA ⟨fun _ _ _ _ _ cc hh => by obtain ⟨v221, e, h225⟩ := hh; exact ⟨v221, e, slRep.ch k_Key_pos h225 cc⟩, fun _ _ h' O O' D _ wx wy hfl hD hO' cc hh => by obtain ⟨v221, e, h225⟩ := hh; have ad := admGh (S := (un (inBlk (PV p32)) nb)) hD hO'; exact ⟨v221, e, slRep.st k_Key_pos h225 cc ad⟩, fun fl O wk hE hN hO ck => ?_⟩ ?_
    ·
     have k41 := k41.ch0 ck
     have c131 := c131.then0 ck
     refine Need.o1 rfl rfl rfl (fun _ h => h) ?_
     refine rl_bslice (k := k_Key) (F := F) (B := w.heap.size) (S := (un O (un (inBlk (PV p32)) nb))) ([x18] : List Key) rfl k_Key_pos Tryd.underlying99 Tryd.sizeOf34 Tryd.zeroValue34 rfl rfl ⟨rfl, rfl, trivial⟩ c131.size (un_lt (fun b h => (hO b h).2) (un_lt k41.ltp nbS)) rfl ?_
     intro v296 w297 c298 hf299 h300
     have h300 := h300.readNew k_Key_pos hf299 (un_lt (fun b h => (hO b h).2) (un_lt k41.ltp nbS))
     exact RL.nil ⟨_, rfl, c298, ⟨v296, rfl, h300⟩⟩
    refine Each.consO ⟨fun _ O _ wx wy cc hh => by obtain ⟨v228, v200, v212, eh, e, rfl, ck7_0⟩ := hh; exact ⟨v228, v200, v212, eh, e, rfl, ck7_0.ch0 cc⟩, fun hv Op O wk hO ck hO0 => ?_⟩ ?_
    ·
     refine Need.here rfl rfl rfl rfl ?_
     rintro _ ⟨v212, v200, rfl, e302, rfl, ck4_0⟩
     obtain rfl := e302.symm
     have k41 := k41.ch0 ck
     have c131 := c131.then0 ck
     refine Need.one rfl rfl rfl ?_
     rintro _ ⟨v221, e305, h225⟩
     obtain rfl := e305.symm
     have h225 := slRep.wk (F' := (G F w.heap.size (un (inBlk v212) (un (inBlk (PV p32)) nb)))) k_Key_pos h225 (fun b _ hf => ⟨hf.1, fun h => hf.2 (un_el h (fun h => (.inl h)) (fun h => un_el h (fun h => (.inr (.inl h))) (fun h => False.elim h)))⟩)
     have hl := (apO_get hz235).1
     refine rl_append (k := k_Key) (T := 34) (F := F) (B := w.heap.size) (S := (un (inBlk v212) (un (inBlk (PV p32)) nb))) (S2 := (un (inBlk (PV p32)) nb)) (fun v => (un (inBlk v) (un (inBlk (PV p32)) nb))) rfl rfl k_Key_pos ap99 ck4_0 h225 (fun _ => Iff.rfl) (fun _ _ => Iff.rfl) hl c131.size (un_lt (fun b hb => (ck4_0.lt b hb).2) (un_lt k41.ltp nbS)) rfl ?_
     intro v308 w309 h310 c311 hf312 ha313
     have hb315 : ∀ b, (inBlk v308) b → ((inBlk v212) b ∨ wk.heap.size ≤ b) ∧ b < w309.heap.size := fun b h => ⟨(hf312 b h).elim (fun h => .inl (h)) (fun h => .inr (Nat.le_trans (Nat.le_refl _) h)), (fun b hb => (h310.lt b hb).2) b h⟩
     exact RL.nil ⟨_, (inBlk v308), rfl, hb315, (c311.mono (fun b _ h => h)), ⟨v308, v200, v212, rfl, rfl, rfl, h310⟩⟩
    refine Each.consS (fun fl O wk hE hN hO ck => ?_) ?_
    ·
     refine rl_move rfl rfl ?_
     exact RL.nil ⟨_, rfl, Ch.refl, rfl⟩
    refine Each.consS (fun fl O wk hE hN hO ck => ?_) ?_
    ·
     refine rl_move rfl rfl ?_
     exact RL.nil ⟨_, rfl, Ch.refl, rfl⟩
    refine Each.consA ⟨fun _ _ _ _ _ cc hh => by obtain ⟨v239, e, h240⟩ := hh; exact ⟨v239, e, slRep.ch k_Key_pos h240 cc⟩, fun _ _ h' O O' D _ wx wy hfl hD hO' cc hh => by obtain ⟨v239, e, h240⟩ := hh; have ad := admGh (S := (un (inBlk (PV p32)) nb)) hD hO'; exact ⟨v239, e, slRep.st k_Key_pos h240 cc ad⟩, fun fl O wk hE hN hO ck => ?_⟩ ?_
    ·
     have ha321 : ∀ b, b < w195.heap.size → ¬ (un (inBlk (PV p32)) nb) b → ¬ nb b ∧ ¬ (un O (un (inBlk (PV p32)) nb)) b := fun b hb hs => ⟨fun h => h.elim, fun h => un_el h (fun ho => (hO b ho).1.elim (fun h => h.elim) (fun h => Nat.not_le_of_lt hb h)) (fun h => un_el h (fun h => hs (.inl h)) (fun h => False.elim h))⟩
     have h8 := slRep.st k_Key_pos h8 ck ha321
     refine Need.o1 rfl rfl rfl (fun _ h => h) ?_
     refine Need.o1 rfl rfl rfl (fun _ h => h) ?_
     refine rl_cutR (kl := .i64) (kh := .i64) (some x43) none rfl h8 k_Key_pos rfl trivial hy238 Tryd.underlying99 Tryd.sizeOf34 rfl ?_
     intro v324 h325
     exact RL.nil ⟨_, rfl, Ch.refl, ⟨v324, rfl, h325⟩⟩
    trivial
   intro hvO328 OpO328 O328 w326 hO329 c327 hN330
   refine Need.here rfl rfl rfl rfl ?_
   rintro _ ⟨v228, v200, v212, rfl, e332, rfl, ck7_0⟩
   obtain rfl := e332.symm
   have ha334 : ∀ b, b < w195.heap.size → ¬ (un (inBlk (PV p32)) nb) b → ¬ nb b ∧ ¬ (un (inBlk v228) (un (inBlk (PV p32)) nb)) b := fun b hb hs => ⟨fun h => h.elim, fun h => un_el h (fun h => (hO329 b h).1.elim (fun h => h.elim) (fun h => Nat.not_le_of_lt hb h)) (fun h => un_el h (fun h => hs (.inl h)) (fun h => False.elim h))⟩
   have ah0 := slRep.st k_Key_pos ah0 c327 ha334
   have k41 := k41.ch0 c327
   have c131 := c131.then0 c327
   refine Need.one rfl rfl rfl ?_
   rintro _ ⟨v239, e335, h240⟩
   obtain rfl := e335.symm
   have h240 := slRep.wk (F' := (G F w.heap.size (un (inBlk v228) (un (inBlk (PV p32)) nb)))) k_Key_pos h240 (fun b _ hf => ⟨hf.1, fun h => hf.2 (un_el h (fun h => (.inl h)) (fun h => un_el h (fun h => (.inr (.inl h))) (fun h => False.elim h)))⟩)
   have hl := (apO_get hz250).1
   refine rl_append (k := k_Key) (T := 34) (F := F) (B := w.heap.size) (S := (un (inBlk v228) (un (inBlk (PV p32)) nb))) (S2 := (un (inBlk (PV p32)) nb)) (fun v => (un (inBlk v) (un (inBlk (PV p32)) nb))) rfl rfl k_Key_pos ap99 ck7_0 h240 (fun _ => Iff.rfl) (fun _ _ => Iff.rfl) hl c131.size (un_lt (fun b hb => (ck7_0.lt b hb).2) (un_lt k41.ltp nbS)) rfl ?_
   intro v338 w339 h340 c341 hf342 ha343
   have ah0 := slRep.st k_Key_pos ah0 c341 ha343
   have c131 := c131.then c341 (fun i hi h => absurd ((fun b hb => (ck7_0.lt b hb).1) i h) (Nat.not_le_of_lt hi))
   refine rl_assign rfl rfl ?_
   refine RL.nil ?_
   refine inB_n ?_
   refine thn_n (CW.region ?_)
   refine rl_inc rfl hat12.lt ah0.big rfl ?_
   refine rl_move rfl rfl ?_
   refine RL.nil (thn_n ?_)
   have ad345 : ∀ b, b < w339.heap.size → ¬ (un (inBlk v338) (un (inBlk (PV p32)) nb)) b → ¬ nb b ∧ ¬ (un (inBlk v338) nb) b := fun b _ hs => ⟨fun x => x, fun h => hs (un_el h (fun h => (.inl h)) (fun h => False.elim h))⟩
   have crf : Ch nb w339 w339 := Ch.refl
   have ah0 := slRep.st k_Key_pos ah0 crf ad345
   have h340 := h340.st crf (fun _ _ x => x) ad345 (fun b h => (.inl h))
   have c131 := c131.then0 crf
   have hLn := runAO_next hL11 hq14 hb15
   exact ⟨rest25.length, Nat.lt_succ_self _, [(8, av0), (9, (Value.int .i64 ((a0.length : Nat) : Int))), (3, v338), (10, (Value.int .i64 ((i10 + 1 : Nat) : Int)))], ⟨rfl, rfl, rfl, rfl, trivial⟩, ⟨rest25, i10 + 1, (([] ++ y206) ++ [x18]) ++ y237, v338, rfl, rfl, c131, hat12.next, hLn, ah0, h340⟩⟩
  obtain rfl := hat12.nil q24
  have hLf : x6 = o16 := runAO_done hL11
  refine CW.exit (thn_exit (thn_exit (inB_hit ?_)))
  exact ⟨x6, v7, ⟨rfl, trivial⟩, c21, hLf, ah0, h8⟩
 rintro _ w347 ⟨x6, v7, hE348, c346, f349, ah0, h8⟩
 subst f349
 refine thn_n (CW.sub [(3, v7)] hE348 ?_)
 refine CW.seq (CW.region ?_)
 refine rl_move rfl rfl ?_
 refine rl_assign rfl rfl ?_
 refine RL.nil (thn_n (CW.ret ?_))
 obtain rfl := Option.some.inj hS
 exact ret1 rfl ⟨v7, rfl, h8.out, c346⟩
theorem ctr19 (F : Nat → Prop) (w : World) (Bb : Nat) (S2 : Nat → Prop) (hB : Bb ≤ w.heap.size) (h2 : ∀ b, S2 b → b < w.heap.size) (po0 : Nat) (az0_0 : Value) (hd2 : ∀ b, (un (inBlk (PV po0)) (inBlk az0_0)) b → ¬ S2 b) (hx0_1 : ∀ b, inBlk (PV po0) b → ¬ inBlk az0_0 b) (a0 : Stats_2) (ah0 : Blk w po0 56 (Stats_2.c a0 az0_0)) (ah0_0 : SlO k_Told 97 F Bb (un (inBlk (PV po0)) (un (inBlk az0_0) S2)) w a0.all az0_0) (r : (List Service)) (hs : F19_Services a0 = some r) :
    Ret Tryd.prog 19 #[(PV po0)] w fun v w' => ∃ (y0 : Value), v = y0 ∧ SlO k_Service 98 (G F Bb (un (inBlk (PV po0)) (un (inBlk az0_0) S2))) w.heap.size (inBlk y0) w' r y0 ∧ Ch nb w w' := by
 have hS := hs
 have c0 : Ch nb w w := Ch.refl
 have lin1_0 : ∀ b, inBlk az0_0 b → (un (inBlk (PV po0)) (inBlk az0_0)) b ∨ w.heap.size ≤ b := fun b h => .inl (.inr h)
 refine Ret.of (n := 101) (args := [_]) (rs := [.tmp 2]) Tryd.func19 rfl rfl rfl rfl ?_
 refine CW.seq (CW.region ?_)
 refine rl_assign rfl rfl ?_
 refine RL.nil (thn_n (CW.seq (CW.region ?_)))
 refine rl_bslice (k := k_Key) (F := F) (B := Bb) (S := (un (inBlk (PV po0)) (un (inBlk az0_0) S2))) ([] : List Key) rfl k_Key_pos Tryd.underlying99 Tryd.sizeOf34 Tryd.zeroValue34 rfl rfl trivial (Nat.le_trans hB c0.size) (un_lt ah0.ltp (un_lt (fun b hb => (ah0_0.lt b hb).2) (fun b h => Nat.lt_of_lt_of_le (h2 b h) c0.size))) rfl ?_
 intro v1 w2 c3 hf4 h5
 have lo6 : ∀ b, inBlk v1 b → w.heap.size ≤ b := fun b h => Nat.le_trans c0.size (hf4 b h)
 have d7 : ∀ b, inBlk v1 b → ¬ inBlk (PV po0) b := disNew hf4 ah0.ltp
 have d8 : ∀ b, inBlk v1 b → ¬ inBlk az0_0 b := disNew hf4 (fun b hb => (ah0_0.lt b hb).2)
 have ah0 := ah0.ch0 c3
 have ah0_0 := ah0_0.st c3 (fun _ _ x => x) (admNew hf4 (fun _ x => x)) (fun b h => (.inr (.inr (.inl h))))
 have c0 := c0.then0 c3
 refine rl_assign rfl rfl ?_
 refine RL.nil (thn_n (CW.seq ?_))
 refine CW.seq (CW.region ?_)
 refine rl_move rfl rfl ?_
 refine rl_nilCheck rfl rfl ?_
 refine rl_fieldAddr rfl fa56_0 rfl ?_
 refine rl_loadS (v := az0_0) rfl Tryd.isAgg54 (ah0.cell rfl) rfl ?_
 refine rl_lenR rfl (SlO.read (S' := (un (inBlk v1) (un (inBlk (PV po0)) S2))) k_Told_pos ah0_0 (fun b hs h => hs (un_el h (fun h => (.inl h)) (fun h => un_el h (fun h => (.inr (.inl h))) (fun h => (.inr (.inr (.inr h))))))) (fun b hb => fun h => un_el h (fun h => (disSym d8) b hb h) (fun h => un_el h (fun h => (disSym hx0_1) b hb h) (linNot lin1_0 hd2 h2 b hb)))) Tryd.underlying54 rfl ?_
 refine rl_move rfl rfl ?_
 refine RL.nil (thn_n ?_)
 have ad9 : ∀ b, b < w2.heap.size → ¬ (un (inBlk v1) (un (inBlk (PV po0)) (un (inBlk az0_0) S2))) b → ¬ nb b ∧ ¬ (un (inBlk v1) (un (inBlk (PV po0)) S2)) b := fun b _ hs => ⟨fun x => x, fun h => hs (un_el h (fun h => (.inl h)) (fun h => un_el h (fun h => (.inr (.inl h))) (fun h => (.inr (.inr (.inr h))))))⟩
 have ah0_0 := SlO.read (S' := (un (inBlk v1) (un (inBlk (PV po0)) S2))) k_Told_pos ah0_0 (fun b hs h => hs (un_el h (fun h => (.inl h)) (fun h => un_el h (fun h => (.inr (.inl h))) (fun h => (.inr (.inr (.inr h))))))) (fun b hb => fun h => un_el h (fun h => (disSym d8) b hb h) (fun h => un_el h (fun h => (disSym hx0_1) b hb h) (linNot lin1_0 hd2 h2 b hb)))
 have crf : Ch nb w2 w2 := Ch.refl
 have ah0 := ah0.ch0 crf
 have h5 := h5.st crf (fun _ _ x => x) ad9 (fun b h => (.inl h))
 have c0 := c0.then0 crf
 obtain ⟨o22, ho23, hS⟩ := bindS hS
 refine CW.cutB (fun E' w' => ∃ (x10 : (List Key)) (v11 : Value), Sub [(0, (PV po0)), (3, v11)] E' ∧ Ch nb w w' ∧ x10 = o22 ∧ Blk w' po0 56 (Stats_2.c a0 az0_0) ∧ slRep k_Told (G F Bb (un (inBlk v11) (un (inBlk (PV po0)) S2))) w' a0.all az0_0 ∧ SlO k_Key 34 F Bb (un (inBlk v11) (un (inBlk (PV po0)) S2)) w' x10 v11 ∧ (∀ b, inBlk v11 b → ¬ inBlk (PV po0) b) ∧ (∀ b, inBlk v11 b → w.heap.size ≤ b)) ?_ ?_
 ·
  refine CW.loopS [(0, (PV po0)), (16, az0_0), (17, (Value.int .i64 ((a0.all.length : Nat) : Int))), (3, v1), (18, (Value.int .i64 ((0 : Nat) : Int)))] ⟨rfl, rfl, rfl, rfl, rfl, trivial⟩ a0.all.length (fun m E w' => ∃ (rest15 : List Told) (i16 : Nat) (x10 : (List Key)) (v11 : Value), m = rest15.length ∧ E = [(0, (PV po0)), (16, az0_0), (17, (Value.int .i64 ((a0.all.length : Nat) : Int))), (3, v11), (18, (Value.int .i64 ((i16 : Nat) : Int)))] ∧ Ch nb w w' ∧ At a0.all i16 rest15 ∧ runAO F19_Services_b1 rest15 x10 = some o22 ∧ Blk w' po0 56 (Stats_2.c a0 az0_0) ∧ slRep k_Told (G F Bb (un (inBlk v11) (un (inBlk (PV po0)) S2))) w' a0.all az0_0 ∧ SlO k_Key 34 F Bb (un (inBlk v11) (un (inBlk (PV po0)) S2)) w' x10 v11 ∧ (∀ b, inBlk v11 b → ¬ inBlk (PV po0) b) ∧ (∀ b, inBlk v11 b → w.heap.size ≤ b))
      ⟨a0.all, 0, [], v1, rfl, rfl, c0, At.start, ho23, ah0, ah0_0, h5, d7, lo6⟩ ?_
  rintro _ _ w28 ⟨rest15, i16, x10, v11, rfl, rfl, c27, hat18, hL17, ah0, ah0_0, h12, d14, lo13⟩
  refine CW.seq (CW.region ?_)
  refine rl_bin rfl rfl B.lss rfl ?_
  refine RL.nil (thn_n ?_)
  refine CW.seq ?_
  refine CW.cond (t := decide (((i16 : Nat) : Int) < ((a0.all.length : Nat) : Int))) rfl (fun q30 => ?_) (fun q30 => ?_)
  ·
   obtain ⟨x24, rest31, rfl⟩ := hat18.cons q30
   obtain ⟨q19, hq20⟩ := runAO_some hL17
   have hb21 := hq20
   refine CW.skip (thn_n ?_)
   refine CW.seq ?_
   refine CW.block ?_
   refine CW.seq (CW.region ?_)
   refine rl_ixR rfl ah0_0 rfl hat18.get Tryd.underlying54 Tryd.sizeOf97 rfl ?_
   intro p32 o33 cs34 hr35 hs36 hg37
   obtain rfl := hr35
   refine rl_loadA (cs := (Told.enc x24)) rfl Tryd.isAgg97 Tryd.sizeOf97 (hs36) rfl rfl ?_
   refine rl_alloc (Told.enc Told.z) Tryd.zeroValue97 rfl rfl ?_
   intro p38 w39 n40 k41
   have lo42 : ∀ b, inBlk (PV p38) b → w.heap.size ≤ b := fun b h => Nat.le_trans c27.size (n40.fresh b h)
   have d43 : ∀ b, inBlk (PV p38) b → ¬ inBlk v11 b := disNew n40.fresh (fun b hb => (h12.lt b hb).2)
   have d44 : ∀ b, inBlk (PV p38) b → ¬ inBlk (PV po0) b := disNew n40.fresh ah0.ltp
   have ah0 := ah0.ch0 n40.ch
   have ah0_0 := slRep.st k_Told_pos ah0_0 n40.ch (admNew n40.fresh (fun _ x => x))
   have h12 := h12.st n40.ch (fun _ _ x => x) (admNew n40.fresh (fun _ x => x)) (fun b h => (.inr (.inl h)))
   have c27 := c27.then0 n40.ch
   refine rl_storeA (vs := (Told.enc x24)) rfl rfl (all_one rfl) Tryd.sizeOf97 rfl k41 rfl ?_
   intro w45 s47 c46 k48
   have ad49 : ∀ b, b < w39.heap.size → ¬ (un (inBlk (PV p38)) (un (inBlk v11) (un (inBlk (PV po0)) S2))) b → ¬ (inBlk (PV p38)) b ∧ ¬ (un (inBlk (PV p38)) (un (inBlk v11) (un (inBlk (PV po0)) S2))) b := fun b _ hs => ⟨fun h => hs (.inl h), hs⟩
   have ah0 := ah0.ch c46 ((fun b hb h => (disSym d44) b hb h) _ rfl)
   have ah0_0 := slRep.st k_Told_pos ah0_0 c46 ad49
   have h12 := h12.st c46 (fun b hb h => (disSym d43) b hb h) ad49 (fun b h => (.inr (.inl h)))
   have c27 := c27.then c46 (fun i hi h => absurd (lo42 i h) (Nat.not_le_of_lt hi))
   refine RL.nil (thn_n (CW.seq (CW.region ?_)))
   refine rl_fieldAddr rfl fa97_3 rfl ?_
   refine rl_loadS (v := (Value.bool x24.fronted)) rfl Tryd.isAgg4 (k48.cell rfl) rfl ?_
   refine rl_move rfl rfl ?_
   obtain ⟨b52, hb53⟩ : ∃ v, (x24.fronted && (lt ((decide (x24.verdict = 2)) || (decide (x24.verdict ≥ 4))) fun b54 => b54)) = v := ⟨_, rfl⟩
   have hb21 := ltS hb53 hb21
   refine RL.join 9 33 (.bool b52) (fun w' => Ch nb w45 w') ?_ ?_
   · rcases Bool.eq_false_or_eq_true x24.fronted with hg51 | hg51
     ·
      have hs50 := and_t hg51 hb53
      have cs : Ch nb w45 w45 := Ch.refl
      refine RL.yes rfl rfl rfl hg51 ?_
      refine rl_fieldAddr rfl fa97_0 rfl ?_
      refine RL.yes rfl rfl rfl hg51 ?_
      refine rl_loadS (v := (Value.int .i64 x24.verdict)) rfl Tryd.isAgg3 (k48.cell rfl) rfl ?_
      refine RL.yes rfl rfl rfl hg51 ?_
      refine rl_bin rfl rfl B.eql rfl ?_
      refine RL.yes rfl rfl rfl hg51 ?_
      refine rl_move rfl rfl ?_
      obtain ⟨b57, hb58⟩ : ∃ v, ((decide (x24.verdict = 2)) || (decide (x24.verdict ≥ 4))) = v := ⟨_, rfl⟩
      have hs50 := ltS hb58 hs50
      refine RL.join 4 32 (.bool b57) (fun w' => Ch nb w45 w') ?_ ?_
      · rcases Bool.eq_false_or_eq_true (decide (x24.verdict = 2)) with hg56 | hg56
        ·
         have hs55 := or_t hg56 hb58
         have cs : Ch nb w45 w45 := Ch.refl
         refine RL.no rfl rfl rfl hg56 rfl rfl ?_
         refine RL.no rfl rfl rfl hg56 rfl rfl ?_
         refine RL.no rfl rfl rfl hg56 rfl rfl ?_
         refine RL.yes rfl rfl rfl hg51 ?_
         refine rl_pickT rfl hg56 rfl rfl ?_
         exact RL.nil ⟨Ext.bothEq (congrArg Value.bool hs55) (Ext.skip rfl (Ext.skip rfl (Ext.skip rfl (Ext.rfl')))), cs⟩
        ·
         have hs55 := or_f hg56 hb58
         have cs : Ch nb w45 w45 := Ch.refl
         refine RL.yes rfl rfl rfl hg56 ?_
         refine rl_fieldAddr rfl fa97_0 rfl ?_
         refine RL.yes rfl rfl rfl hg56 ?_
         refine rl_loadS (v := (Value.int .i64 x24.verdict)) rfl Tryd.isAgg3 (k48.cell rfl) rfl ?_
         refine RL.yes rfl rfl rfl hg56 ?_
         refine rl_bin rfl rfl B.geq rfl ?_
         refine RL.yes rfl rfl rfl hg51 ?_
         refine rl_pickF rfl hg56 rfl rfl ?_
         exact RL.nil ⟨Ext.bothEq (congrArg Value.bool hs55) (Ext.skip rfl (Ext.skip rfl (Ext.skip rfl (Ext.rfl')))), cs⟩
      intro w59 c60
      refine rl_pickT rfl hg51 rfl rfl ?_
      have cs := cs.then0 c60
      exact RL.nil ⟨Ext.bothEq (congrArg Value.bool hs50) (Ext.skip rfl (Ext.skip rfl (Ext.skip rfl (Ext.skip rfl (Ext.skip rfl (Ext.rfl')))))), cs⟩
     ·
      have hs50 := and_f hg51 hb53
      have cs : Ch nb w45 w45 := Ch.refl
      refine RL.no rfl rfl rfl hg51 rfl rfl ?_
      refine RL.no rfl rfl rfl hg51 rfl rfl ?_
      refine RL.no rfl rfl rfl hg51 rfl rfl ?_
      refine RL.no rfl rfl rfl hg51 rfl rfl ?_
      refine RL.noU rfl rfl rfl rfl rfl ?_
      refine RL.noU rfl rfl rfl rfl rfl ?_
      refine RL.noU rfl rfl rfl rfl rfl ?_
      refine RL.no rfl rfl rfl hg51 rfl rfl ?_
      refine rl_pickF rfl hg51 rfl rfl ?_
      exact RL.nil ⟨Ext.bothEq (congrArg Value.bool hs50) (Ext.skip rfl (Ext.skip rfl (Ext.skip rfl (Ext.skip rfl (Ext.skip rfl (Ext.skip rfl (Ext.skip rfl (Ext.skip rfl (Ext.rfl'))))))))), cs⟩
   intro w54 c61
   have ah0 := ah0.ch0 c61
   have ah0_0 := slRep.ch k_Told_pos ah0_0 c61
   have h12 := h12.ch0 c61
   have k48 := k48.ch0 c61
   have c27 := c27.then0 c61
   refine RL.nil (thn_n ?_)
   refine CW.cond (t := b52) rfl (fun q62 => ?_) (fun q62 => ?_)
   ·
    have hb21 := ifT q62 hb21
    refine CW.region ?_
    refine rl_move rfl rfl ?_
    refine rl_fieldAddr rfl fa97_4 rfl ?_
    refine rl_loadA (cs := (Key.enc x24.service)) rfl Tryd.isAgg34 Tryd.sizeOf34 (k48.segAt 4 2) rfl rfl ?_
    refine rl_bslice (k := k_Key) (F := F) (B := Bb) (S := (un (inBlk (PV p38)) (un (inBlk v11) (un (inBlk (PV po0)) S2)))) ([x24.service] : List Key) rfl k_Key_pos Tryd.underlying99 Tryd.sizeOf34 Tryd.zeroValue34 rfl rfl ⟨rfl, rfl, trivial⟩ (Nat.le_trans hB c27.size) (un_lt k48.ltp (un_lt (fun b hb => (h12.lt b hb).2) (un_lt ah0.ltp (fun b h => Nat.lt_of_lt_of_le (h2 b h) c27.size)))) rfl ?_
    intro v63 w64 c65 hf66 h67
    have h67 := h67.readNew k_Key_pos hf66 (un_lt k48.ltp (un_lt (fun b hb => (h12.lt b hb).2) (un_lt ah0.ltp (fun b h => Nat.lt_of_lt_of_le (h2 b h) c27.size))))
    have ah0 := ah0.ch0 c65
    have ah0_0 := slRep.ch k_Told_pos ah0_0 c65
    have h12 := h12.ch0 c65
    have k48 := k48.ch0 c65
    have c27 := c27.then0 c65
    obtain ⟨z76, hz77, hb21⟩ := bindS hb21
    have hl := (apO_get hz77).1
    refine rl_append (k := k_Key) (T := 34) (F := F) (B := Bb) (S := (un (inBlk (PV p38)) (un (inBlk v11) (un (inBlk (PV po0)) S2)))) (S2 := (un (inBlk (PV p38)) (un (inBlk (PV po0)) S2))) (fun v => (un (inBlk (PV p38)) (un (inBlk v) (un (inBlk (PV po0)) S2)))) rfl rfl k_Key_pos ap99 h12 h67 (fun _ => un_swap) (fun _ _ => un_swap) hl (Nat.le_trans hB c27.size) (un_lt k48.ltp (un_lt (fun b hb => (h12.lt b hb).2) (un_lt ah0.ltp (fun b h => Nat.lt_of_lt_of_le (h2 b h) c27.size)))) rfl ?_
    intro v70 w71 h72 c73 hf74 ha75
    have lo78 : ∀ b, inBlk v70 b → w.heap.size ≤ b := fun b h => (hf74 b h).elim (lo13 b) (Nat.le_trans c27.size)
    have d80 : ∀ b, inBlk v70 b → ¬ inBlk (PV po0) b := disApp hf74 d14 ah0.ltp
    have ah0 := ah0.ch c73 ((fun b hb h => (disSym d14) b hb h) _ rfl)
    have ah0_0 := slRep.st k_Told_pos ah0_0 c73 ha75
    have c27 := c27.then c73 (fun i hi h => absurd (lo13 i h) (Nat.not_le_of_lt hi))
    refine rl_assign rfl rfl ?_
    refine RL.nil ?_
    refine inB_n ?_
    refine thn_n (CW.region ?_)
    refine rl_inc rfl hat18.lt ah0_0.big rfl ?_
    refine rl_move rfl rfl ?_
    refine RL.nil (thn_n ?_)
    have ad81 : ∀ b, b < w71.heap.size → ¬ (un (inBlk (PV p38)) (un (inBlk v70) (un (inBlk (PV po0)) S2))) b → ¬ nb b ∧ ¬ (un (inBlk v70) (un (inBlk (PV po0)) S2)) b := fun b _ hs => ⟨fun x => x, fun h => hs (un_el h (fun h => (.inr (.inl h))) (fun h => un_el h (fun h => (.inr (.inr (.inl h)))) (fun h => (.inr (.inr (.inr h))))))⟩
    have crf : Ch nb w71 w71 := Ch.refl
    have ah0 := ah0.ch0 crf
    have ah0_0 := slRep.st k_Told_pos ah0_0 crf ad81
    have h72 := h72.st crf (fun _ _ x => x) ad81 (fun b h => (.inl h))
    have c27 := c27.then0 crf
    have hLn := runAO_next hL17 hq20 hb21
    exact ⟨rest31.length, Nat.lt_succ_self _, [(0, (PV po0)), (16, az0_0), (17, (Value.int .i64 ((a0.all.length : Nat) : Int))), (3, v70), (18, (Value.int .i64 ((i16 + 1 : Nat) : Int)))], ⟨rfl, rfl, rfl, rfl, rfl, trivial⟩, ⟨rest31, i16 + 1, x10 ++ [x24.service], v70, rfl, rfl, c27, hat18.next, hLn, ah0, ah0_0, h72, d80, lo78⟩⟩
   have hb21 := ifF q62 hb21
   refine CW.skip ?_
   refine inB_n ?_
   refine thn_n (CW.region ?_)
   refine rl_inc rfl hat18.lt ah0_0.big rfl ?_
   refine rl_move rfl rfl ?_
   refine RL.nil (thn_n ?_)
   have ad82 : ∀ b, b < w54.heap.size → ¬ (un (inBlk (PV p38)) (un (inBlk v11) (un (inBlk (PV po0)) S2))) b → ¬ nb b ∧ ¬ (un (inBlk v11) (un (inBlk (PV po0)) S2)) b := fun b _ hs => ⟨fun x => x, fun h => hs (un_el h (fun h => (.inr (.inl h))) (fun h => un_el h (fun h => (.inr (.inr (.inl h)))) (fun h => (.inr (.inr (.inr h))))))⟩
   have crf : Ch nb w54 w54 := Ch.refl
   have ah0 := ah0.ch0 crf
   have ah0_0 := slRep.st k_Told_pos ah0_0 crf ad82
   have h12 := h12.st crf (fun _ _ x => x) ad82 (fun b h => (.inl h))
   have c27 := c27.then0 crf
   have hLn := runAO_next hL17 hq20 hb21
   exact ⟨rest31.length, Nat.lt_succ_self _, [(0, (PV po0)), (16, az0_0), (17, (Value.int .i64 ((a0.all.length : Nat) : Int))), (3, v11), (18, (Value.int .i64 ((i16 + 1 : Nat) : Int)))], ⟨rfl, rfl, rfl, rfl, rfl, trivial⟩, ⟨rest31, i16 + 1, x10, v11, rfl, rfl, c27, hat18.next, hLn, ah0, ah0_0, h12, d14, lo13⟩⟩
  obtain rfl := hat18.nil q30
  have hLf : x10 = o22 := runAO_done hL17
  refine CW.exit (thn_exit (thn_exit (inB_hit ?_)))
  exact ⟨x10, v11, ⟨rfl, rfl, trivial⟩, c27, hLf, ah0, ah0_0, h12, d14, lo13⟩
 rintro _ w84 ⟨x10, v11, hE85, c83, f86, ah0, ah0_0, h12, d14, lo13⟩
 subst f86
 refine thn_n (CW.sub [(0, (PV po0)), (3, v11)] hE85 ?_)
 refine CW.seq (CW.region ?_)
 refine rl_bslice (k := k_Service) (F := F) (B := Bb) (S := (un (inBlk v11) (un (inBlk (PV po0)) S2))) ([] : List Service) rfl k_Service_pos Tryd.underlying66 Tryd.sizeOf98 Tryd.zeroValue98 rfl rfl trivial (Nat.le_trans hB c83.size) (un_lt (fun b hb => (h12.lt b hb).2) (un_lt ah0.ltp (fun b h => Nat.lt_of_lt_of_le (h2 b h) c83.size))) rfl ?_
 intro v88 w89 c90 hf91 h92
 have lo93 : ∀ b, inBlk v88 b → w.heap.size ≤ b := fun b h => Nat.le_trans c83.size (hf91 b h)
 have d94 : ∀ b, inBlk v88 b → ¬ inBlk v11 b := disNew hf91 (fun b hb => (h12.lt b hb).2)
 have d95 : ∀ b, inBlk v88 b → ¬ inBlk (PV po0) b := disNew hf91 ah0.ltp
 have ah0 := ah0.ch0 c90
 have ah0_0 := slRep.st k_Told_pos ah0_0 c90 (admNew hf91 (fun _ x => x))
 have h12 := h12.st c90 (fun _ _ x => x) (admNew hf91 (fun _ x => x)) (fun b h => (.inr (.inl h)))
 have c83 := c83.then0 c90
 refine rl_assign rfl rfl ?_
 refine RL.nil (thn_n (CW.seq ?_))
 refine CW.seq (CW.region ?_)
 refine rl_move rfl rfl ?_
 have ad96 : ∀ b, b < w89.heap.size → ¬ (un (inBlk v88) (un (inBlk v11) (un (inBlk (PV po0)) S2))) b → ¬ nb b ∧ ¬ (un (inBlk v88) (un (inBlk (PV po0)) S2)) b := fun b _ hs => ⟨fun x => x, fun h => hs (un_el h (fun h => (.inl h)) (fun h => un_el h (fun h => (.inr (.inr (.inl h)))) (fun h => (.inr (.inr (.inr h))))))⟩
 have h12 := SlO.read (S' := (un (inBlk v88) (un (inBlk (PV po0)) S2))) k_Key_pos h12 (fun b hs h => hs (un_el h (fun h => (.inl h)) (fun h => un_el h (fun h => (.inr (.inr (.inl h)))) (fun h => (.inr (.inr (.inr h))))))) (fun b hb => fun h => un_el h (fun h => (disSym d94) b hb h) (fun h => un_el h (fun h => d14 b hb h) (linNot (fun b h => .inr (lo13 b h)) hd2 h2 b hb)))
 have crf : Ch nb w89 w89 := Ch.refl
 have ah0 := ah0.ch0 crf
 have ah0_0 := slRep.st k_Told_pos ah0_0 crf ad96
 have h92 := h92.st crf (fun _ _ x => x) ad96 (fun b h => (.inl h))
 have c83 := c83.then0 crf
 obtain ⟨y99, hy100, hS⟩ := bindS hS
 refine rl_callF rfl en35 rfl (ctr35 (G F Bb (un (inBlk v88) (un (inBlk (PV po0)) S2))) w89 x10 v11 h12 y99 hy100) ?_
 rintro v101 w97 ⟨_, rfl, h102, c98⟩
 have h102 := SlO.backR k_Key_pos h102 (un_lt (fun b hb => (h92.lt b hb).2) (un_lt ah0.ltp (fun b h => Nat.lt_of_lt_of_le (h2 b h) c83.size))) (Nat.le_trans hB c83.size)
 have ah0 := ah0.ch0 c98
 have ah0_0 := slRep.ch k_Told_pos ah0_0 c98
 have h92 := h92.ch0 c98
 have h12 := slRep.ch k_Key_pos h12 c98
 have c83 := c83.then0 c98
 refine rl_lenR rfl h102 Tryd.underlying99 rfl ?_
 refine rl_move rfl rfl ?_
 refine RL.nil (thn_n ?_)
 obtain ⟨o115, ho116, hS⟩ := bindS hS
 refine CW.cutB (fun E' w' => ∃ (x103 : (List Service)) (v104 : Value), Sub [(6, v104)] E' ∧ Ch nb w w' ∧ x103 = o115 ∧ Blk w' po0 56 (Stats_2.c a0 az0_0) ∧ slRep k_Told (G F Bb (un (inBlk v104) (un (inBlk (PV po0)) S2))) w' a0.all az0_0 ∧ slRep k_Key (G F Bb (un (inBlk v104) (un (inBlk (PV po0)) S2))) w' x10 v11 ∧ slRep k_Key (G F Bb (un (inBlk v104) (un (inBlk (PV po0)) S2))) w' y99 v101 ∧ SlO k_Service 98 F Bb (un (inBlk v104) (un (inBlk (PV po0)) S2)) w' x103 v104 ∧ (∀ b, inBlk v104 b → ¬ inBlk (PV po0) b) ∧ (∀ b, inBlk v104 b → w.heap.size ≤ b)) ?_ ?_
 ·
  refine CW.loopS [(0, (PV po0)), (42, v101), (43, (Value.int .i64 ((y99.length : Nat) : Int))), (6, v88), (44, (Value.int .i64 ((0 : Nat) : Int)))] ⟨rfl, rfl, rfl, rfl, rfl, trivial⟩ y99.length (fun m E w' => ∃ (rest108 : List Key) (i109 : Nat) (x103 : (List Service)) (v104 : Value), m = rest108.length ∧ E = [(0, (PV po0)), (42, v101), (43, (Value.int .i64 ((y99.length : Nat) : Int))), (6, v104), (44, (Value.int .i64 ((i109 : Nat) : Int)))] ∧ Ch nb w w' ∧ At y99 i109 rest108 ∧ runAO (F19_Services_b2 a0) rest108 x103 = some o115 ∧ Blk w' po0 56 (Stats_2.c a0 az0_0) ∧ slRep k_Told (G F Bb (un (inBlk v104) (un (inBlk (PV po0)) S2))) w' a0.all az0_0 ∧ slRep k_Key (G F Bb (un (inBlk v104) (un (inBlk (PV po0)) S2))) w' x10 v11 ∧ slRep k_Key (G F Bb (un (inBlk v104) (un (inBlk (PV po0)) S2))) w' y99 v101 ∧ SlO k_Service 98 F Bb (un (inBlk v104) (un (inBlk (PV po0)) S2)) w' x103 v104 ∧ (∀ b, inBlk v104 b → ¬ inBlk (PV po0) b) ∧ (∀ b, inBlk v104 b → w.heap.size ≤ b))
      ⟨y99, 0, [], v88, rfl, rfl, c83, At.start, ho116, ah0, ah0_0, h12, h102, h92, d95, lo93⟩ ?_
  rintro _ _ w121 ⟨rest108, i109, x103, v104, rfl, rfl, c120, hat111, hL110, ah0, ah0_0, h12, h102, h105, d107, lo106⟩
  refine CW.seq (CW.region ?_)
  refine rl_bin rfl rfl B.lss rfl ?_
  refine RL.nil (thn_n ?_)
  refine CW.seq ?_
  refine CW.cond (t := decide (((i109 : Nat) : Int) < ((y99.length : Nat) : Int))) rfl (fun q123 => ?_) (fun q123 => ?_)
  ·
   obtain ⟨x117, rest124, rfl⟩ := hat111.cons q123
   obtain ⟨q112, hq113⟩ := runAO_some hL110
   have hb114 := hq113
   refine CW.skip (thn_n ?_)
   refine CW.seq ?_
   refine CW.block ?_
   refine CW.seq (CW.region ?_)
   refine rl_ixR rfl h102 rfl hat111.get Tryd.underlying99 Tryd.sizeOf34 rfl ?_
   intro p125 o126 cs127 hr128 hs129 hg130
   obtain rfl := hr128
   refine rl_loadA (cs := (Key.enc x117)) rfl Tryd.isAgg34 Tryd.sizeOf34 (hs129) rfl rfl ?_
   refine rl_alloc (Key.enc Key.z) Tryd.zeroValue34 rfl rfl ?_
   intro p131 w132 n133 k134
   have lo135 : ∀ b, inBlk (PV p131) b → w.heap.size ≤ b := fun b h => Nat.le_trans c120.size (n133.fresh b h)
   have d136 : ∀ b, inBlk (PV p131) b → ¬ inBlk v104 b := disNew n133.fresh (fun b hb => (h105.lt b hb).2)
   have d137 : ∀ b, inBlk (PV p131) b → ¬ inBlk (PV po0) b := disNew n133.fresh ah0.ltp
   have ah0 := ah0.ch0 n133.ch
   have ah0_0 := slRep.st k_Told_pos ah0_0 n133.ch (admNew n133.fresh (fun _ x => x))
   have h12 := slRep.st k_Key_pos h12 n133.ch (admNew n133.fresh (fun _ x => x))
   have h102 := slRep.st k_Key_pos h102 n133.ch (admNew n133.fresh (fun _ x => x))
   have h105 := h105.st n133.ch (fun _ _ x => x) (admNew n133.fresh (fun _ x => x)) (fun b h => (.inr (.inl h)))
   have c120 := c120.then0 n133.ch
   refine rl_storeA (vs := (Key.enc x117)) rfl rfl (all_one rfl) Tryd.sizeOf34 rfl k134 rfl ?_
   intro w138 s140 c139 k141
   have ad142 : ∀ b, b < w132.heap.size → ¬ (un (inBlk (PV p131)) (un (inBlk v104) (un (inBlk (PV po0)) S2))) b → ¬ (inBlk (PV p131)) b ∧ ¬ (un (inBlk (PV p131)) (un (inBlk v104) (un (inBlk (PV po0)) S2))) b := fun b _ hs => ⟨fun h => hs (.inl h), hs⟩
   have ah0 := ah0.ch c139 ((fun b hb h => (disSym d137) b hb h) _ rfl)
   have ah0_0 := slRep.st k_Told_pos ah0_0 c139 ad142
   have h12 := slRep.st k_Key_pos h12 c139 ad142
   have h102 := slRep.st k_Key_pos h102 c139 ad142
   have h105 := h105.st c139 (fun b hb h => (disSym d136) b hb h) ad142 (fun b h => (.inr (.inl h)))
   have c120 := c120.then c139 (fun i hi h => absurd (lo135 i h) (Nat.not_le_of_lt hi))
   refine RL.nil (thn_n (CW.seq (CW.region ?_)))
   refine rl_loadA (cs := (Key.enc x117)) rfl Tryd.isAgg34 Tryd.sizeOf34 (k141.segAt 0 2) rfl rfl ?_
   refine rl_build (out := (Service.enc ({ key := x117, begun := 0, filtered := 0, rejected := 0, full := 0 } : Service))) rfl pl98 Tryd.zeroValue98 rfl rfl rfl ?_
   refine rl_alloc (Service.enc Service.z) Tryd.zeroValue98 rfl rfl ?_
   intro p143 w144 n145 k146
   have lo147 : ∀ b, inBlk (PV p143) b → w.heap.size ≤ b := fun b h => Nat.le_trans c120.size (n145.fresh b h)
   have d148 : ∀ b, inBlk (PV p143) b → ¬ inBlk (PV p131) b := disNew n145.fresh k141.ltp
   have d149 : ∀ b, inBlk (PV p143) b → ¬ inBlk v104 b := disNew n145.fresh (fun b hb => (h105.lt b hb).2)
   have d150 : ∀ b, inBlk (PV p143) b → ¬ inBlk (PV po0) b := disNew n145.fresh ah0.ltp
   have ah0 := ah0.ch0 n145.ch
   have ah0_0 := slRep.st k_Told_pos ah0_0 n145.ch (admNew n145.fresh (fun _ x => x))
   have h12 := slRep.st k_Key_pos h12 n145.ch (admNew n145.fresh (fun _ x => x))
   have h102 := slRep.st k_Key_pos h102 n145.ch (admNew n145.fresh (fun _ x => x))
   have h105 := h105.st n145.ch (fun _ _ x => x) (admNew n145.fresh (fun _ x => x)) (fun b h => (.inr (.inr (.inl h))))
   have k141 := k141.ch0 n145.ch
   have c120 := c120.then0 n145.ch
   refine rl_storeA (vs := (Service.enc ({ key := x117, begun := 0, filtered := 0, rejected := 0, full := 0 } : Service))) rfl rfl (all_one rfl) Tryd.sizeOf98 rfl k146 rfl ?_
   intro w151 s153 c152 k154
   have ad155 : ∀ b, b < w144.heap.size → ¬ (un (inBlk (PV p143)) (un (inBlk (PV p131)) (un (inBlk v104) (un (inBlk (PV po0)) S2)))) b → ¬ (inBlk (PV p143)) b ∧ ¬ (un (inBlk (PV p143)) (un (inBlk (PV p131)) (un (inBlk v104) (un (inBlk (PV po0)) S2)))) b := fun b _ hs => ⟨fun h => hs (.inl h), hs⟩
   have ah0 := ah0.ch c152 ((fun b hb h => (disSym d150) b hb h) _ rfl)
   have ah0_0 := slRep.st k_Told_pos ah0_0 c152 ad155
   have h12 := slRep.st k_Key_pos h12 c152 ad155
   have h102 := slRep.st k_Key_pos h102 c152 ad155
   have h105 := h105.st c152 (fun b hb h => (disSym d149) b hb h) ad155 (fun b h => (.inr (.inr (.inl h))))
   have k141 := k141.ch c152 ((fun b hb h => (disSym d148) b hb h) _ rfl)
   have c120 := c120.then c152 (fun i hi h => absurd (lo147 i h) (Nat.not_le_of_lt hi))
   refine RL.nil (thn_n (CW.seq ?_))
   refine CW.seq (CW.region ?_)
   refine rl_move rfl rfl ?_
   refine rl_nilCheck rfl rfl ?_
   refine rl_fieldAddr rfl fa56_0 rfl ?_
   refine rl_loadS (v := az0_0) rfl Tryd.isAgg54 (ah0.cell rfl) rfl ?_
   refine rl_lenR rfl ah0_0 Tryd.underlying54 rfl ?_
   refine rl_move rfl rfl ?_
   refine RL.nil (thn_n ?_)
   obtain ⟨o171, ho172⟩ : ∃ o, runA (F19_Services_b3 x117) a0.all ({ key := x117, begun := 0, filtered := 0, rejected := 0, full := 0 } : Service) = o := ⟨_, rfl⟩
   have hb114 := ltS ho172 hb114
   refine CW.cutB (fun E' w' => ∃ (x156 : Service), Sub [(0, (PV po0)), (6, v104), (9, (PV p143)), (42, v101), (43, (Value.int .i64 ((y99.length : Nat) : Int))), (44, (Value.int .i64 ((i109 : Nat) : Int)))] E' ∧ Ch nb w w' ∧ x156 = o171 ∧ Blk w' po0 56 (Stats_2.c a0 az0_0) ∧ slRep k_Told (G F Bb (un (inBlk (PV p143)) (un (inBlk (PV p131)) (un (inBlk v104) (un (inBlk (PV po0)) S2))))) w' a0.all az0_0 ∧ slRep k_Key (G F Bb (un (inBlk (PV p143)) (un (inBlk (PV p131)) (un (inBlk v104) (un (inBlk (PV po0)) S2))))) w' x10 v11 ∧ slRep k_Key (G F Bb (un (inBlk (PV p143)) (un (inBlk (PV p131)) (un (inBlk v104) (un (inBlk (PV po0)) S2))))) w' y99 v101 ∧ SlO k_Service 98 F Bb (un (inBlk (PV p143)) (un (inBlk (PV p131)) (un (inBlk v104) (un (inBlk (PV po0)) S2)))) w' x103 v104 ∧ Blk w' p131 34 (Key.enc x117) ∧ Blk w' p143 98 (Service.enc x156) ∧ (∀ b, inBlk (PV p143) b → ¬ inBlk (PV p131) b) ∧ (∀ b, inBlk (PV p143) b → ¬ inBlk v104 b) ∧ (∀ b, inBlk (PV p143) b → ¬ inBlk (PV po0) b) ∧ (∀ b, inBlk (PV p131) b → ¬ inBlk v104 b) ∧ (∀ b, inBlk (PV p131) b → ¬ inBlk (PV po0) b) ∧ (∀ b, inBlk v104 b → ¬ inBlk (PV po0) b)) ?_ ?_
   ·
    refine CW.loopS [(0, (PV po0)), (6, v104), (8, (PV p131)), (9, (PV p143)), (42, v101), (43, (Value.int .i64 ((y99.length : Nat) : Int))), (44, (Value.int .i64 ((i109 : Nat) : Int))), (53, az0_0), (54, (Value.int .i64 ((a0.all.length : Nat) : Int))), (55, (Value.int .i64 ((0 : Nat) : Int)))] ⟨rfl, rfl, rfl, rfl, rfl, rfl, rfl, rfl, rfl, rfl, trivial⟩ a0.all.length (fun m E w' => ∃ (rest164 : List Told) (i165 : Nat) (x156 : Service), m = rest164.length ∧ E = [(0, (PV po0)), (6, v104), (8, (PV p131)), (9, (PV p143)), (42, v101), (43, (Value.int .i64 ((y99.length : Nat) : Int))), (44, (Value.int .i64 ((i109 : Nat) : Int))), (53, az0_0), (54, (Value.int .i64 ((a0.all.length : Nat) : Int))), (55, (Value.int .i64 ((i165 : Nat) : Int)))] ∧ Ch nb w w' ∧ At a0.all i165 rest164 ∧ runA (F19_Services_b3 x117) rest164 x156 = o171 ∧ Blk w' po0 56 (Stats_2.c a0 az0_0) ∧ slRep k_Told (G F Bb (un (inBlk (PV p143)) (un (inBlk (PV p131)) (un (inBlk v104) (un (inBlk (PV po0)) S2))))) w' a0.all az0_0 ∧ slRep k_Key (G F Bb (un (inBlk (PV p143)) (un (inBlk (PV p131)) (un (inBlk v104) (un (inBlk (PV po0)) S2))))) w' x10 v11 ∧ slRep k_Key (G F Bb (un (inBlk (PV p143)) (un (inBlk (PV p131)) (un (inBlk v104) (un (inBlk (PV po0)) S2))))) w' y99 v101 ∧ SlO k_Service 98 F Bb (un (inBlk (PV p143)) (un (inBlk (PV p131)) (un (inBlk v104) (un (inBlk (PV po0)) S2)))) w' x103 v104 ∧ Blk w' p131 34 (Key.enc x117) ∧ Blk w' p143 98 (Service.enc x156) ∧ (∀ b, inBlk (PV p143) b → ¬ inBlk (PV p131) b) ∧ (∀ b, inBlk (PV p143) b → ¬ inBlk v104 b) ∧ (∀ b, inBlk (PV p143) b → ¬ inBlk (PV po0) b) ∧ (∀ b, inBlk (PV p131) b → ¬ inBlk v104 b) ∧ (∀ b, inBlk (PV p131) b → ¬ inBlk (PV po0) b) ∧ (∀ b, inBlk v104 b → ¬ inBlk (PV po0) b))
        ⟨a0.all, 0, ({ key := x117, begun := 0, filtered := 0, rejected := 0, full := 0 } : Service), rfl, rfl, c120, At.start, ho172, ah0, ah0_0, h12, h102, h105, k141, k154, d148, d149, d150, d136, d137, d107⟩ ?_
    rintro _ _ w177 ⟨rest164, i165, x156, rfl, rfl, c176, hat167, hL166, ah0, ah0_0, h12, h102, h105, k141, k157, d158, d159, d160, d161, d162, d163⟩
    refine CW.seq (CW.region ?_)
    refine rl_bin rfl rfl B.lss rfl ?_
    refine RL.nil (thn_n ?_)
    refine CW.seq ?_
    refine CW.cond (t := decide (((i165 : Nat) : Int) < ((a0.all.length : Nat) : Int))) rfl (fun q179 => ?_) (fun q179 => ?_)
    ·
     obtain ⟨x173, rest180, rfl⟩ := hat167.cons q179
     obtain ⟨q168, hq169⟩ : ∃ q, (F19_Services_b3 x117) x173 x156 = q := ⟨_, rfl⟩
     have hb170 := hq169
     refine CW.skip (thn_n ?_)
     refine CW.seq ?_
     refine CW.block ?_
     refine CW.seq (CW.region ?_)
     refine rl_ixR rfl ah0_0 rfl hat167.get Tryd.underlying54 Tryd.sizeOf97 rfl ?_
     intro p181 o182 cs183 hr184 hs185 hg186
     obtain rfl := hr184
     refine rl_loadA (cs := (Told.enc x173)) rfl Tryd.isAgg97 Tryd.sizeOf97 (hs185) rfl rfl ?_
     refine rl_alloc (Told.enc Told.z) Tryd.zeroValue97 rfl rfl ?_
     intro p187 w188 n189 k190
     have lo191 : ∀ b, inBlk (PV p187) b → w.heap.size ≤ b := fun b h => Nat.le_trans c176.size (n189.fresh b h)
     have d192 : ∀ b, inBlk (PV p187) b → ¬ inBlk (PV p143) b := disNew n189.fresh k157.ltp
     have d193 : ∀ b, inBlk (PV p187) b → ¬ inBlk (PV p131) b := disNew n189.fresh k141.ltp
     have d194 : ∀ b, inBlk (PV p187) b → ¬ inBlk v104 b := disNew n189.fresh (fun b hb => (h105.lt b hb).2)
     have d195 : ∀ b, inBlk (PV p187) b → ¬ inBlk (PV po0) b := disNew n189.fresh ah0.ltp
     have ah0 := ah0.ch0 n189.ch
     have ah0_0 := slRep.st k_Told_pos ah0_0 n189.ch (admNew n189.fresh (fun _ x => x))
     have h12 := slRep.st k_Key_pos h12 n189.ch (admNew n189.fresh (fun _ x => x))
     have h102 := slRep.st k_Key_pos h102 n189.ch (admNew n189.fresh (fun _ x => x))
     have h105 := h105.st n189.ch (fun _ _ x => x) (admNew n189.fresh (fun _ x => x)) (fun b h => (.inr (.inr (.inr (.inl h)))))
     have k141 := k141.ch0 n189.ch
     have k157 := k157.ch0 n189.ch
     have c176 := c176.then0 n189.ch
     refine rl_storeA (vs := (Told.enc x173)) rfl rfl (all_one rfl) Tryd.sizeOf97 rfl k190 rfl ?_
     intro w196 s198 c197 k199
     have ad200 : ∀ b, b < w188.heap.size → ¬ (un (inBlk (PV p187)) (un (inBlk (PV p143)) (un (inBlk (PV p131)) (un (inBlk v104) (un (inBlk (PV po0)) S2))))) b → ¬ (inBlk (PV p187)) b ∧ ¬ (un (inBlk (PV p187)) (un (inBlk (PV p143)) (un (inBlk (PV p131)) (un (inBlk v104) (un (inBlk (PV po0)) S2))))) b := fun b _ hs => ⟨fun h => hs (.inl h), hs⟩
     have ah0 := ah0.ch c197 ((fun b hb h => (disSym d195) b hb h) _ rfl)
     have ah0_0 := slRep.st k_Told_pos ah0_0 c197 ad200
     have h12 := slRep.st k_Key_pos h12 c197 ad200
     have h102 := slRep.st k_Key_pos h102 c197 ad200
     have h105 := h105.st c197 (fun b hb h => (disSym d194) b hb h) ad200 (fun b h => (.inr (.inr (.inr (.inl h)))))
     have k141 := k141.ch c197 ((fun b hb h => (disSym d193) b hb h) _ rfl)
     have k157 := k157.ch c197 ((fun b hb h => (disSym d192) b hb h) _ rfl)
     have c176 := c176.then c197 (fun i hi h => absurd (lo191 i h) (Nat.not_le_of_lt hi))
     refine RL.nil (thn_n (CW.seq ?_))
     refine CW.seq (CW.region ?_)
     refine rl_fieldAddr rfl fa97_3 rfl ?_
     refine rl_loadS (v := (Value.bool x173.fronted)) rfl Tryd.isAgg4 (k199.cell rfl) rfl ?_
     refine rl_not rfl rfl ?_
     refine rl_move rfl rfl ?_
     obtain ⟨b203, hb204⟩ : ∃ v, ((!x173.fronted) || (!decide (x173.service = x117))) = v := ⟨_, rfl⟩
     have hb170 := ltS hb204 hb170
     refine RL.join 5 67 (.bool b203) (fun w' => Ch nb w196 w') ?_ ?_
     · rcases Bool.eq_false_or_eq_true (!x173.fronted) with hg202 | hg202
       ·
        have hs201 := or_t hg202 hb204
        have cs : Ch nb w196 w196 := Ch.refl
        refine RL.no rfl rfl rfl hg202 rfl rfl ?_
        refine RL.no rfl rfl rfl hg202 rfl rfl ?_
        refine RL.no rfl rfl rfl hg202 rfl rfl ?_
        refine RL.no rfl rfl rfl hg202 rfl rfl ?_
        refine rl_pickT rfl hg202 rfl rfl ?_
        exact RL.nil ⟨Ext.bothEq (congrArg Value.bool hs201) (Ext.skip rfl (Ext.skip rfl (Ext.skip rfl (Ext.skip rfl (Ext.rfl'))))), cs⟩
       ·
        have hs201 := or_f hg202 hb204
        have cs : Ch nb w196 w196 := Ch.refl
        refine RL.yes rfl rfl rfl hg202 ?_
        refine rl_fieldAddr rfl fa97_4 rfl ?_
        refine RL.yes rfl rfl rfl hg202 ?_
        refine rl_loadA (cs := (Key.enc x173.service)) rfl Tryd.isAgg34 Tryd.sizeOf34 (k199.segAt 4 2) rfl rfl ?_
        refine RL.yes rfl rfl rfl hg202 ?_
        refine rl_loadA (cs := (Key.enc x117)) rfl Tryd.isAgg34 Tryd.sizeOf34 (k141.segAt 0 2) rfl rfl ?_
        refine RL.yes rfl rfl rfl hg202 ?_
        refine rl_bin rfl rfl (neq34 x173.service x117) rfl ?_
        refine rl_pickF rfl hg202 rfl rfl ?_
        exact RL.nil ⟨Ext.bothEq (congrArg Value.bool hs201) (Ext.skip rfl (Ext.skip rfl (Ext.skip rfl (Ext.skip rfl (Ext.rfl'))))), cs⟩
     intro w205 c206
     have ah0 := ah0.ch0 c206
     have ah0_0 := slRep.ch k_Told_pos ah0_0 c206
     have h12 := slRep.ch k_Key_pos h12 c206
     have h102 := slRep.ch k_Key_pos h102 c206
     have h105 := h105.ch0 c206
     have k141 := k141.ch0 c206
     have k157 := k157.ch0 c206
     have k199 := k199.ch0 c206
     have c176 := c176.then0 c206
     refine RL.nil (thn_n ?_)
     refine CW.cond (t := b203) rfl (fun q207 => ?_) (fun q207 => ?_)
     ·
      have hb170 := ifT q207 hb170
      refine CW.exit ?_
      refine thn_exit ?_
      refine inB_hit ?_
      refine thn_n (CW.region ?_)
      refine rl_inc rfl hat167.lt ah0_0.big rfl ?_
      refine rl_move rfl rfl ?_
      refine RL.nil (thn_n ?_)
      have ad208 : ∀ b, b < w205.heap.size → ¬ (un (inBlk (PV p187)) (un (inBlk (PV p143)) (un (inBlk (PV p131)) (un (inBlk v104) (un (inBlk (PV po0)) S2))))) b → ¬ nb b ∧ ¬ (un (inBlk (PV p143)) (un (inBlk (PV p131)) (un (inBlk v104) (un (inBlk (PV po0)) S2)))) b := fun b _ hs => ⟨fun x => x, fun h => hs (un_el h (fun h => (.inr (.inl h))) (fun h => un_el h (fun h => (.inr (.inr (.inl h)))) (fun h => un_el h (fun h => (.inr (.inr (.inr (.inl h))))) (fun h => un_el h (fun h => (.inr (.inr (.inr (.inr (.inl h)))))) (fun h => (.inr (.inr (.inr (.inr (.inr h))))))))))⟩
      have crf : Ch nb w205 w205 := Ch.refl
      have ah0 := ah0.ch0 crf
      have ah0_0 := slRep.st k_Told_pos ah0_0 crf ad208
      have h12 := slRep.st k_Key_pos h12 crf ad208
      have h102 := slRep.st k_Key_pos h102 crf ad208
      have h105 := h105.st crf (fun _ _ x => x) ad208 (fun b h => (.inr (.inr (.inl h))))
      have k141 := k141.ch0 crf
      have k157 := k157.ch0 crf
      have c176 := c176.then0 crf
      have hLn := runA_next hL166 (hb170.trans hq169.symm)
      exact ⟨rest180.length, Nat.lt_succ_self _, [(0, (PV po0)), (6, v104), (8, (PV p131)), (9, (PV p143)), (42, v101), (43, (Value.int .i64 ((y99.length : Nat) : Int))), (44, (Value.int .i64 ((i109 : Nat) : Int))), (53, az0_0), (54, (Value.int .i64 ((a0.all.length : Nat) : Int))), (55, (Value.int .i64 ((i165 + 1 : Nat) : Int)))], ⟨rfl, rfl, rfl, rfl, rfl, rfl, rfl, rfl, rfl, rfl, trivial⟩, ⟨rest180, i165 + 1, x156, rfl, rfl, c176, hat167.next, hLn, ah0, ah0_0, h12, h102, h105, k141, k157, d158, d159, d160, d161, d162, d163⟩⟩
     have hb170 := ifF q207 hb170
     refine CW.skip ?_
     refine thn_n (CW.seq (CW.region ?_))
     refine rl_fieldAddr rfl fa97_0 rfl ?_
     refine rl_loadS (v := (Value.int .i64 x173.verdict)) rfl Tryd.isAgg3 (k199.cell rfl) rfl ?_
     refine RL.nil (thn_n (CW.block ?_))
     refine CW.seq (CW.region ?_)
     refine rl_bin rfl rfl B.eql rfl ?_
     refine rl_assign rfl rfl ?_
     refine RL.nil (thn_n ?_)
     refine CW.cond (t := decide (x173.verdict = 2)) rfl (fun q209 => ?_) (fun q209 => ?_)
     ·
      have hb170 := ifT q209 hb170
      refine CW.region ?_
      refine rl_fieldAddr rfl fa98_1 rfl ?_
      refine rl_loadS (v := (Value.int .i64 x156.begun)) rfl Tryd.isAgg3 (k157.cell rfl) rfl ?_
      refine rl_bin rfl rfl B.add rfl ?_
      refine rl_fieldAddr rfl fa98_1 rfl ?_
      refine rl_storeS (u := (Value.int .i64 (IntKind.i64.wrap (x156.begun + 1)))) rfl rfl ⟨rfl, rfl⟩ Tryd.sizeOf3 k157 rfl ?_
      intro w210 s212 c211 k213
      have ad214 : ∀ b, b < w205.heap.size → ¬ (un (inBlk (PV p187)) (un (inBlk (PV p143)) (un (inBlk (PV p131)) (un (inBlk v104) (un (inBlk (PV po0)) S2))))) b → ¬ (inBlk (PV p143)) b ∧ ¬ (un (inBlk (PV p187)) (un (inBlk (PV p143)) (un (inBlk (PV p131)) (un (inBlk v104) (un (inBlk (PV po0)) S2))))) b := fun b _ hs => ⟨fun h => hs (.inr (.inl h)), hs⟩
      have ah0 := ah0.ch c211 ((fun b hb h => (disSym d160) b hb h) _ rfl)
      have ah0_0 := slRep.st k_Told_pos ah0_0 c211 ad214
      have h12 := slRep.st k_Key_pos h12 c211 ad214
      have h102 := slRep.st k_Key_pos h102 c211 ad214
      have h105 := h105.st c211 (fun b hb h => (disSym d159) b hb h) ad214 (fun b h => (.inr (.inr (.inr (.inl h)))))
      have k141 := k141.ch c211 ((fun b hb h => (disSym d158) b hb h) _ rfl)
      have c176 := c176.then c211 (fun i hi h => absurd (lo147 i h) (Nat.not_le_of_lt hi))
      refine RL.nil ?_
      refine inB_n ?_
      refine inB_n ?_
      refine thn_n (CW.region ?_)
      refine rl_inc rfl hat167.lt ah0_0.big rfl ?_
      refine rl_move rfl rfl ?_
      refine RL.nil (thn_n ?_)
      have ad215 : ∀ b, b < w210.heap.size → ¬ (un (inBlk (PV p187)) (un (inBlk (PV p143)) (un (inBlk (PV p131)) (un (inBlk v104) (un (inBlk (PV po0)) S2))))) b → ¬ nb b ∧ ¬ (un (inBlk (PV p143)) (un (inBlk (PV p131)) (un (inBlk v104) (un (inBlk (PV po0)) S2)))) b := fun b _ hs => ⟨fun x => x, fun h => hs (un_el h (fun h => (.inr (.inl h))) (fun h => un_el h (fun h => (.inr (.inr (.inl h)))) (fun h => un_el h (fun h => (.inr (.inr (.inr (.inl h))))) (fun h => un_el h (fun h => (.inr (.inr (.inr (.inr (.inl h)))))) (fun h => (.inr (.inr (.inr (.inr (.inr h))))))))))⟩
      have crf : Ch nb w210 w210 := Ch.refl
      have ah0 := ah0.ch0 crf
      have ah0_0 := slRep.st k_Told_pos ah0_0 crf ad215
      have h12 := slRep.st k_Key_pos h12 crf ad215
      have h102 := slRep.st k_Key_pos h102 crf ad215
      have h105 := h105.st crf (fun _ _ x => x) ad215 (fun b h => (.inr (.inr (.inl h))))
      have k141 := k141.ch0 crf
      have k213 := k213.ch0 crf
      have c176 := c176.then0 crf
      have hLn := runA_next hL166 (hb170.trans hq169.symm)
      exact ⟨rest180.length, Nat.lt_succ_self _, [(0, (PV po0)), (6, v104), (8, (PV p131)), (9, (PV p143)), (42, v101), (43, (Value.int .i64 ((y99.length : Nat) : Int))), (44, (Value.int .i64 ((i109 : Nat) : Int))), (53, az0_0), (54, (Value.int .i64 ((a0.all.length : Nat) : Int))), (55, (Value.int .i64 ((i165 + 1 : Nat) : Int)))], ⟨rfl, rfl, rfl, rfl, rfl, rfl, rfl, rfl, rfl, rfl, trivial⟩, ⟨rest180, i165 + 1, ({ key := x156.key, begun := IntKind.i64.wrap (x156.begun + 1), filtered := x156.filtered, rejected := x156.rejected, full := x156.full } : Service), rfl, rfl, c176, hat167.next, hLn, ah0, ah0_0, h12, h102, h105, k141, k213, d158, d159, d160, d161, d162, d163⟩⟩
     have hb170 := ifF q209 hb170
     refine CW.seq (CW.region ?_)
     refine rl_bin rfl rfl B.eql rfl ?_
     refine rl_assign rfl rfl ?_
     refine RL.nil (thn_n ?_)
     refine CW.cond (t := decide (x173.verdict = 4)) rfl (fun q216 => ?_) (fun q216 => ?_)
     ·
      have hb170 := ifT q216 hb170
      refine CW.region ?_
      refine rl_fieldAddr rfl fa98_2 rfl ?_
      refine rl_loadS (v := (Value.int .i64 x156.filtered)) rfl Tryd.isAgg3 (k157.cell rfl) rfl ?_
      refine rl_bin rfl rfl B.add rfl ?_
      refine rl_fieldAddr rfl fa98_2 rfl ?_
      refine rl_storeS (u := (Value.int .i64 (IntKind.i64.wrap (x156.filtered + 1)))) rfl rfl ⟨rfl, rfl⟩ Tryd.sizeOf3 k157 rfl ?_
      intro w217 s219 c218 k220
      have ad221 : ∀ b, b < w205.heap.size → ¬ (un (inBlk (PV p187)) (un (inBlk (PV p143)) (un (inBlk (PV p131)) (un (inBlk v104) (un (inBlk (PV po0)) S2))))) b → ¬ (inBlk (PV p143)) b ∧ ¬ (un (inBlk (PV p187)) (un (inBlk (PV p143)) (un (inBlk (PV p131)) (un (inBlk v104) (un (inBlk (PV po0)) S2))))) b := fun b _ hs => ⟨fun h => hs (.inr (.inl h)), hs⟩
      have ah0 := ah0.ch c218 ((fun b hb h => (disSym d160) b hb h) _ rfl)
      have ah0_0 := slRep.st k_Told_pos ah0_0 c218 ad221
      have h12 := slRep.st k_Key_pos h12 c218 ad221
      have h102 := slRep.st k_Key_pos h102 c218 ad221
      have h105 := h105.st c218 (fun b hb h => (disSym d159) b hb h) ad221 (fun b h => (.inr (.inr (.inr (.inl h)))))
      have k141 := k141.ch c218 ((fun b hb h => (disSym d158) b hb h) _ rfl)
      have c176 := c176.then c218 (fun i hi h => absurd (lo147 i h) (Nat.not_le_of_lt hi))
      refine RL.nil ?_
      refine inB_n ?_
      refine inB_n ?_
      refine thn_n (CW.region ?_)
      refine rl_inc rfl hat167.lt ah0_0.big rfl ?_
      refine rl_move rfl rfl ?_
      refine RL.nil (thn_n ?_)
      have ad222 : ∀ b, b < w217.heap.size → ¬ (un (inBlk (PV p187)) (un (inBlk (PV p143)) (un (inBlk (PV p131)) (un (inBlk v104) (un (inBlk (PV po0)) S2))))) b → ¬ nb b ∧ ¬ (un (inBlk (PV p143)) (un (inBlk (PV p131)) (un (inBlk v104) (un (inBlk (PV po0)) S2)))) b := fun b _ hs => ⟨fun x => x, fun h => hs (un_el h (fun h => (.inr (.inl h))) (fun h => un_el h (fun h => (.inr (.inr (.inl h)))) (fun h => un_el h (fun h => (.inr (.inr (.inr (.inl h))))) (fun h => un_el h (fun h => (.inr (.inr (.inr (.inr (.inl h)))))) (fun h => (.inr (.inr (.inr (.inr (.inr h))))))))))⟩
      have crf : Ch nb w217 w217 := Ch.refl
      have ah0 := ah0.ch0 crf
      have ah0_0 := slRep.st k_Told_pos ah0_0 crf ad222
      have h12 := slRep.st k_Key_pos h12 crf ad222
      have h102 := slRep.st k_Key_pos h102 crf ad222
      have h105 := h105.st crf (fun _ _ x => x) ad222 (fun b h => (.inr (.inr (.inl h))))
      have k141 := k141.ch0 crf
      have k220 := k220.ch0 crf
      have c176 := c176.then0 crf
      have hLn := runA_next hL166 (hb170.trans hq169.symm)
      exact ⟨rest180.length, Nat.lt_succ_self _, [(0, (PV po0)), (6, v104), (8, (PV p131)), (9, (PV p143)), (42, v101), (43, (Value.int .i64 ((y99.length : Nat) : Int))), (44, (Value.int .i64 ((i109 : Nat) : Int))), (53, az0_0), (54, (Value.int .i64 ((a0.all.length : Nat) : Int))), (55, (Value.int .i64 ((i165 + 1 : Nat) : Int)))], ⟨rfl, rfl, rfl, rfl, rfl, rfl, rfl, rfl, rfl, rfl, trivial⟩, ⟨rest180, i165 + 1, ({ key := x156.key, begun := x156.begun, filtered := IntKind.i64.wrap (x156.filtered + 1), rejected := x156.rejected, full := x156.full } : Service), rfl, rfl, c176, hat167.next, hLn, ah0, ah0_0, h12, h102, h105, k141, k220, d158, d159, d160, d161, d162, d163⟩⟩
     have hb170 := ifF q216 hb170
     refine CW.seq (CW.region ?_)
     refine rl_bin rfl rfl B.eql rfl ?_
     refine rl_assign rfl rfl ?_
     refine RL.nil (thn_n ?_)
     refine CW.cond (t := decide (x173.verdict = 5)) rfl (fun q223 => ?_) (fun q223 => ?_)
     ·
      have hb170 := ifT q223 hb170
      refine CW.region ?_
      refine rl_fieldAddr rfl fa98_3 rfl ?_
      refine rl_loadS (v := (Value.int .i64 x156.rejected)) rfl Tryd.isAgg3 (k157.cell rfl) rfl ?_
      refine rl_bin rfl rfl B.add rfl ?_
      refine rl_fieldAddr rfl fa98_3 rfl ?_
      refine rl_storeS (u := (Value.int .i64 (IntKind.i64.wrap (x156.rejected + 1)))) rfl rfl ⟨rfl, rfl⟩ Tryd.sizeOf3 k157 rfl ?_
      intro w224 s226 c225 k227
      have ad228 : ∀ b, b < w205.heap.size → ¬ (un (inBlk (PV p187)) (un (inBlk (PV p143)) (un (inBlk (PV p131)) (un (inBlk v104) (un (inBlk (PV po0)) S2))))) b → ¬ (inBlk (PV p143)) b ∧ ¬ (un (inBlk (PV p187)) (un (inBlk (PV p143)) (un (inBlk (PV p131)) (un (inBlk v104) (un (inBlk (PV po0)) S2))))) b := fun b _ hs => ⟨fun h => hs (.inr (.inl h)), hs⟩
      have ah0 := ah0.ch c225 ((fun b hb h => (disSym d160) b hb h) _ rfl)
      have ah0_0 := slRep.st k_Told_pos ah0_0 c225 ad228
      have h12 := slRep.st k_Key_pos h12 c225 ad228
      have h102 := slRep.st k_Key_pos h102 c225 ad228
      have h105 := h105.st c225 (fun b hb h => (disSym d159) b hb h) ad228 (fun b h => (.inr (.inr (.inr (.inl h)))))
      have k141 := k141.ch c225 ((fun b hb h => (disSym d158) b hb h) _ rfl)
      have c176 := c176.then c225 (fun i hi h => absurd (lo147 i h) (Nat.not_le_of_lt hi))
      refine RL.nil ?_
      refine inB_n ?_
      refine inB_n ?_
      refine thn_n (CW.region ?_)
      refine rl_inc rfl hat167.lt ah0_0.big rfl ?_
      refine rl_move rfl rfl ?_
      refine RL.nil (thn_n ?_)
      have ad229 : ∀ b, b < w224.heap.size → ¬ (un (inBlk (PV p187)) (un (inBlk (PV p143)) (un (inBlk (PV p131)) (un (inBlk v104) (un (inBlk (PV po0)) S2))))) b → ¬ nb b ∧ ¬ (un (inBlk (PV p143)) (un (inBlk (PV p131)) (un (inBlk v104) (un (inBlk (PV po0)) S2)))) b := fun b _ hs => ⟨fun x => x, fun h => hs (un_el h (fun h => (.inr (.inl h))) (fun h => un_el h (fun h => (.inr (.inr (.inl h)))) (fun h => un_el h (fun h => (.inr (.inr (.inr (.inl h))))) (fun h => un_el h (fun h => (.inr (.inr (.inr (.inr (.inl h)))))) (fun h => (.inr (.inr (.inr (.inr (.inr h))))))))))⟩
      have crf : Ch nb w224 w224 := Ch.refl
      have ah0 := ah0.ch0 crf
      have ah0_0 := slRep.st k_Told_pos ah0_0 crf ad229
      have h12 := slRep.st k_Key_pos h12 crf ad229
      have h102 := slRep.st k_Key_pos h102 crf ad229
      have h105 := h105.st crf (fun _ _ x => x) ad229 (fun b h => (.inr (.inr (.inl h))))
      have k141 := k141.ch0 crf
      have k227 := k227.ch0 crf
      have c176 := c176.then0 crf
      have hLn := runA_next hL166 (hb170.trans hq169.symm)
      exact ⟨rest180.length, Nat.lt_succ_self _, [(0, (PV po0)), (6, v104), (8, (PV p131)), (9, (PV p143)), (42, v101), (43, (Value.int .i64 ((y99.length : Nat) : Int))), (44, (Value.int .i64 ((i109 : Nat) : Int))), (53, az0_0), (54, (Value.int .i64 ((a0.all.length : Nat) : Int))), (55, (Value.int .i64 ((i165 + 1 : Nat) : Int)))], ⟨rfl, rfl, rfl, rfl, rfl, rfl, rfl, rfl, rfl, rfl, trivial⟩, ⟨rest180, i165 + 1, ({ key := x156.key, begun := x156.begun, filtered := x156.filtered, rejected := IntKind.i64.wrap (x156.rejected + 1), full := x156.full } : Service), rfl, rfl, c176, hat167.next, hLn, ah0, ah0_0, h12, h102, h105, k141, k227, d158, d159, d160, d161, d162, d163⟩⟩
     have hb170 := ifF q223 hb170
     refine CW.seq (CW.region ?_)
     refine rl_bin rfl rfl B.eql rfl ?_
     refine rl_assign rfl rfl ?_
     refine RL.nil (thn_n ?_)
     refine CW.cond (t := decide (x173.verdict = 6)) rfl (fun q230 => ?_) (fun q230 => ?_)
     ·
      have hb170 := ifT q230 hb170
      refine CW.region ?_
      refine rl_fieldAddr rfl fa98_4 rfl ?_
      refine rl_loadS (v := (Value.int .i64 x156.full)) rfl Tryd.isAgg3 (k157.cell rfl) rfl ?_
      refine rl_bin rfl rfl B.add rfl ?_
      refine rl_fieldAddr rfl fa98_4 rfl ?_
      refine rl_storeS (u := (Value.int .i64 (IntKind.i64.wrap (x156.full + 1)))) rfl rfl ⟨rfl, rfl⟩ Tryd.sizeOf3 k157 rfl ?_
      intro w231 s233 c232 k234
      have ad235 : ∀ b, b < w205.heap.size → ¬ (un (inBlk (PV p187)) (un (inBlk (PV p143)) (un (inBlk (PV p131)) (un (inBlk v104) (un (inBlk (PV po0)) S2))))) b → ¬ (inBlk (PV p143)) b ∧ ¬ (un (inBlk (PV p187)) (un (inBlk (PV p143)) (un (inBlk (PV p131)) (un (inBlk v104) (un (inBlk (PV po0)) S2))))) b := fun b _ hs => ⟨fun h => hs (.inr (.inl h)), hs⟩
      have ah0 := ah0.ch c232 ((fun b hb h => (disSym d160) b hb h) _ rfl)
      have ah0_0 := slRep.st k_Told_pos ah0_0 c232 ad235
      have h12 := slRep.st k_Key_pos h12 c232 ad235
      have h102 := slRep.st k_Key_pos h102 c232 ad235
      have h105 := h105.st c232 (fun b hb h => (disSym d159) b hb h) ad235 (fun b h => (.inr (.inr (.inr (.inl h)))))
      have k141 := k141.ch c232 ((fun b hb h => (disSym d158) b hb h) _ rfl)
      have c176 := c176.then c232 (fun i hi h => absurd (lo147 i h) (Nat.not_le_of_lt hi))
      refine RL.nil ?_
      refine inB_n ?_
      refine inB_n ?_
      refine thn_n (CW.region ?_)
      refine rl_inc rfl hat167.lt ah0_0.big rfl ?_
      refine rl_move rfl rfl ?_
      refine RL.nil (thn_n ?_)
      have ad236 : ∀ b, b < w231.heap.size → ¬ (un (inBlk (PV p187)) (un (inBlk (PV p143)) (un (inBlk (PV p131)) (un (inBlk v104) (un (inBlk (PV po0)) S2))))) b → ¬ nb b ∧ ¬ (un (inBlk (PV p143)) (un (inBlk (PV p131)) (un (inBlk v104) (un (inBlk (PV po0)) S2)))) b := fun b _ hs => ⟨fun x => x, fun h => hs (un_el h (fun h => (.inr (.inl h))) (fun h => un_el h (fun h => (.inr (.inr (.inl h)))) (fun h => un_el h (fun h => (.inr (.inr (.inr (.inl h))))) (fun h => un_el h (fun h => (.inr (.inr (.inr (.inr (.inl h)))))) (fun h => (.inr (.inr (.inr (.inr (.inr h))))))))))⟩
      have crf : Ch nb w231 w231 := Ch.refl
      have ah0 := ah0.ch0 crf
      have ah0_0 := slRep.st k_Told_pos ah0_0 crf ad236
      have h12 := slRep.st k_Key_pos h12 crf ad236
      have h102 := slRep.st k_Key_pos h102 crf ad236
      have h105 := h105.st crf (fun _ _ x => x) ad236 (fun b h => (.inr (.inr (.inl h))))
      have k141 := k141.ch0 crf
      have k234 := k234.ch0 crf
      have c176 := c176.then0 crf
      have hLn := runA_next hL166 (hb170.trans hq169.symm)
      exact ⟨rest180.length, Nat.lt_succ_self _, [(0, (PV po0)), (6, v104), (8, (PV p131)), (9, (PV p143)), (42, v101), (43, (Value.int .i64 ((y99.length : Nat) : Int))), (44, (Value.int .i64 ((i109 : Nat) : Int))), (53, az0_0), (54, (Value.int .i64 ((a0.all.length : Nat) : Int))), (55, (Value.int .i64 ((i165 + 1 : Nat) : Int)))], ⟨rfl, rfl, rfl, rfl, rfl, rfl, rfl, rfl, rfl, rfl, trivial⟩, ⟨rest180, i165 + 1, ({ key := x156.key, begun := x156.begun, filtered := x156.filtered, rejected := x156.rejected, full := IntKind.i64.wrap (x156.full + 1) } : Service), rfl, rfl, c176, hat167.next, hLn, ah0, ah0_0, h12, h102, h105, k141, k234, d158, d159, d160, d161, d162, d163⟩⟩
     have hb170 := ifF q230 hb170
     refine CW.skip ?_
     refine inB_n ?_
     refine inB_n ?_
     refine thn_n (CW.region ?_)
     refine rl_inc rfl hat167.lt ah0_0.big rfl ?_
     refine rl_move rfl rfl ?_
     refine RL.nil (thn_n ?_)
     have ad237 : ∀ b, b < w205.heap.size → ¬ (un (inBlk (PV p187)) (un (inBlk (PV p143)) (un (inBlk (PV p131)) (un (inBlk v104) (un (inBlk (PV po0)) S2))))) b → ¬ nb b ∧ ¬ (un (inBlk (PV p143)) (un (inBlk (PV p131)) (un (inBlk v104) (un (inBlk (PV po0)) S2)))) b := fun b _ hs => ⟨fun x => x, fun h => hs (un_el h (fun h => (.inr (.inl h))) (fun h => un_el h (fun h => (.inr (.inr (.inl h)))) (fun h => un_el h (fun h => (.inr (.inr (.inr (.inl h))))) (fun h => un_el h (fun h => (.inr (.inr (.inr (.inr (.inl h)))))) (fun h => (.inr (.inr (.inr (.inr (.inr h))))))))))⟩
     have crf : Ch nb w205 w205 := Ch.refl
     have ah0 := ah0.ch0 crf
     have ah0_0 := slRep.st k_Told_pos ah0_0 crf ad237
     have h12 := slRep.st k_Key_pos h12 crf ad237
     have h102 := slRep.st k_Key_pos h102 crf ad237
     have h105 := h105.st crf (fun _ _ x => x) ad237 (fun b h => (.inr (.inr (.inl h))))
     have k141 := k141.ch0 crf
     have k157 := k157.ch0 crf
     have c176 := c176.then0 crf
     have hLn := runA_next hL166 (hb170.trans hq169.symm)
     exact ⟨rest180.length, Nat.lt_succ_self _, [(0, (PV po0)), (6, v104), (8, (PV p131)), (9, (PV p143)), (42, v101), (43, (Value.int .i64 ((y99.length : Nat) : Int))), (44, (Value.int .i64 ((i109 : Nat) : Int))), (53, az0_0), (54, (Value.int .i64 ((a0.all.length : Nat) : Int))), (55, (Value.int .i64 ((i165 + 1 : Nat) : Int)))], ⟨rfl, rfl, rfl, rfl, rfl, rfl, rfl, rfl, rfl, rfl, trivial⟩, ⟨rest180, i165 + 1, x156, rfl, rfl, c176, hat167.next, hLn, ah0, ah0_0, h12, h102, h105, k141, k157, d158, d159, d160, d161, d162, d163⟩⟩
    obtain rfl := hat167.nil q179
    have hLf : x156 = o171 := hL166
    refine CW.exit (thn_exit (thn_exit (inB_hit ?_)))
    exact ⟨x156, ⟨rfl, rfl, rfl, rfl, rfl, rfl, trivial⟩, c176, hLf, ah0, ah0_0, h12, h102, h105, k141, k157, d158, d159, d160, d161, d162, d163⟩
   rintro _ w239 ⟨x156, hE240, c238, f241, ah0, ah0_0, h12, h102, h105, k141, k157, d158, d159, d160, d161, d162, d163⟩
   subst f241
   refine thn_n (CW.sub [(0, (PV po0)), (6, v104), (9, (PV p143)), (42, v101), (43, (Value.int .i64 ((y99.length : Nat) : Int))), (44, (Value.int .i64 ((i109 : Nat) : Int)))] hE240 ?_)
   refine CW.region ?_
   refine rl_move rfl rfl ?_
   refine rl_loadA (cs := (Service.enc x156)) rfl Tryd.isAgg98 Tryd.sizeOf98 (k157.segAt 0 6) rfl rfl ?_
   refine rl_bslice (k := k_Service) (F := F) (B := Bb) (S := (un (inBlk (PV p143)) (un (inBlk (PV p131)) (un (inBlk v104) (un (inBlk (PV po0)) S2))))) ([x156] : List Service) rfl k_Service_pos Tryd.underlying66 Tryd.sizeOf98 Tryd.zeroValue98 rfl rfl ⟨rfl, rfl, trivial⟩ (Nat.le_trans hB c238.size) (un_lt k157.ltp (un_lt k141.ltp (un_lt (fun b hb => (h105.lt b hb).2) (un_lt ah0.ltp (fun b h => Nat.lt_of_lt_of_le (h2 b h) c238.size))))) rfl ?_
   intro v243 w244 c245 hf246 h247
   have h247 := h247.readNew k_Service_pos hf246 (un_lt k157.ltp (un_lt k141.ltp (un_lt (fun b hb => (h105.lt b hb).2) (un_lt ah0.ltp (fun b h => Nat.lt_of_lt_of_le (h2 b h) c238.size)))))
   have ah0 := ah0.ch0 c245
   have ah0_0 := slRep.ch k_Told_pos ah0_0 c245
   have h12 := slRep.ch k_Key_pos h12 c245
   have h102 := slRep.ch k_Key_pos h102 c245
   have h105 := h105.ch0 c245
   have k141 := k141.ch0 c245
   have k157 := k157.ch0 c245
   have c238 := c238.then0 c245
   obtain ⟨z256, hz257, hb114⟩ := bindS hb114
   have hl := (apO_get hz257).1
   refine rl_append (k := k_Service) (T := 98) (F := F) (B := Bb) (S := (un (inBlk (PV p143)) (un (inBlk (PV p131)) (un (inBlk v104) (un (inBlk (PV po0)) S2))))) (S2 := (un (inBlk (PV p143)) (un (inBlk (PV p131)) (un (inBlk (PV po0)) S2)))) (fun v => (un (inBlk (PV p143)) (un (inBlk (PV p131)) (un (inBlk v) (un (inBlk (PV po0)) S2))))) rfl rfl k_Service_pos ap66 h105 h247 (fun _ => un_swap3) (fun _ _ => un_swap3) hl (Nat.le_trans hB c238.size) (un_lt k157.ltp (un_lt k141.ltp (un_lt (fun b hb => (h105.lt b hb).2) (un_lt ah0.ltp (fun b h => Nat.lt_of_lt_of_le (h2 b h) c238.size))))) rfl ?_
   intro v250 w251 h252 c253 hf254 ha255
   have lo258 : ∀ b, inBlk v250 b → w.heap.size ≤ b := fun b h => (hf254 b h).elim (lo106 b) (Nat.le_trans c238.size)
   have d261 : ∀ b, inBlk v250 b → ¬ inBlk (PV po0) b := disApp hf254 d163 ah0.ltp
   have ah0 := ah0.ch c253 ((fun b hb h => (disSym d163) b hb h) _ rfl)
   have ah0_0 := slRep.st k_Told_pos ah0_0 c253 ha255
   have h12 := slRep.st k_Key_pos h12 c253 ha255
   have h102 := slRep.st k_Key_pos h102 c253 ha255
   have c238 := c238.then c253 (fun i hi h => absurd (lo106 i h) (Nat.not_le_of_lt hi))
   refine rl_assign rfl rfl ?_
   refine RL.nil ?_
   refine inB_n ?_
   refine thn_n (CW.region ?_)
   refine rl_inc rfl hat111.lt h102.big rfl ?_
   refine rl_move rfl rfl ?_
   refine RL.nil (thn_n ?_)
   have ad262 : ∀ b, b < w251.heap.size → ¬ (un (inBlk (PV p143)) (un (inBlk (PV p131)) (un (inBlk v250) (un (inBlk (PV po0)) S2)))) b → ¬ nb b ∧ ¬ (un (inBlk (PV p131)) (un (inBlk v250) (un (inBlk (PV po0)) S2))) b := fun b _ hs => ⟨fun x => x, fun h => hs (un_el h (fun h => (.inr (.inl h))) (fun h => un_el h (fun h => (.inr (.inr (.inl h)))) (fun h => un_el h (fun h => (.inr (.inr (.inr (.inl h))))) (fun h => (.inr (.inr (.inr (.inr h))))))))⟩
   have crf : Ch nb w251 w251 := Ch.refl
   have ah0 := ah0.ch0 crf
   have ah0_0 := slRep.st k_Told_pos ah0_0 crf ad262
   have h12 := slRep.st k_Key_pos h12 crf ad262
   have h102 := slRep.st k_Key_pos h102 crf ad262
   have h252 := h252.st crf (fun _ _ x => x) ad262 (fun b h => (.inr (.inl h)))
   have c238 := c238.then0 crf
   have ad263 : ∀ b, b < w251.heap.size → ¬ (un (inBlk (PV p131)) (un (inBlk v250) (un (inBlk (PV po0)) S2))) b → ¬ nb b ∧ ¬ (un (inBlk v250) (un (inBlk (PV po0)) S2)) b := fun b _ hs => ⟨fun x => x, fun h => hs (un_el h (fun h => (.inr (.inl h))) (fun h => un_el h (fun h => (.inr (.inr (.inl h)))) (fun h => (.inr (.inr (.inr h))))))⟩
   have crf : Ch nb w251 w251 := Ch.refl
   have ah0 := ah0.ch0 crf
   have ah0_0 := slRep.st k_Told_pos ah0_0 crf ad263
   have h12 := slRep.st k_Key_pos h12 crf ad263
   have h102 := slRep.st k_Key_pos h102 crf ad263
   have h252 := h252.st crf (fun _ _ x => x) ad263 (fun b h => (.inl h))
   have c238 := c238.then0 crf
   have hLn := runAO_next hL110 hq113 hb114
   exact ⟨rest124.length, Nat.lt_succ_self _, [(0, (PV po0)), (42, v101), (43, (Value.int .i64 ((y99.length : Nat) : Int))), (6, v250), (44, (Value.int .i64 ((i109 + 1 : Nat) : Int)))], ⟨rfl, rfl, rfl, rfl, rfl, trivial⟩, ⟨rest124, i109 + 1, x103 ++ [x156], v250, rfl, rfl, c238, hat111.next, hLn, ah0, ah0_0, h12, h102, h252, d261, lo258⟩⟩
  obtain rfl := hat111.nil q123
  have hLf : x103 = o115 := runAO_done hL110
  refine CW.exit (thn_exit (thn_exit (inB_hit ?_)))
  exact ⟨x103, v104, ⟨rfl, trivial⟩, c120, hLf, ah0, ah0_0, h12, h102, h105, d107, lo106⟩
 rintro _ w265 ⟨x103, v104, hE266, c264, f267, ah0, ah0_0, h12, h102, h105, d107, lo106⟩
 subst f267
 refine thn_n (CW.sub [(6, v104)] hE266 ?_)
 refine CW.seq (CW.region ?_)
 refine rl_move rfl rfl ?_
 refine rl_assign rfl rfl ?_
 refine RL.nil (thn_n (CW.ret ?_))
 obtain rfl := Option.some.inj hS
 exact ret1 rfl ⟨v104, rfl, (SlO.outP (fun h => h) h105 lo106), c264⟩
end Go.Proofs.YtkfhcfkbaaekoaaDoor
