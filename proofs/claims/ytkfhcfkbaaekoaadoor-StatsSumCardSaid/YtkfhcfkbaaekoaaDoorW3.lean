/- The walks through the code: each call comes to its printed function. Written by a program of this session. -/
import Derived.Test.YtkfhcfkbaaekoaaDoorM
import Derived.Test.YtkfhcfkbaaekoaaDoorL
import Derived.Test.YtkfhcfkbaaekoaaDoorW2
namespace Go.Proofs.YtkfhcfkbaaekoaaDoor
open Go K
set_option linter.unusedVariables false
/-- lb/lblaw40.StatsSum -/
theorem ctr3 (F : Nat → Prop) (w : World) (a0 : (List Act)) (av0 : Value) (ah0 : slRep k_Act F w a0 av0) (ge : Nat → Value) (gl : (kGL 45 3).rep F w ge [Value.bool true]) (r : Bool) (hs : F3_StatsSum a0 = some r) :
    Ret Tryd.prog 3 #[av0] w fun v w' => v = (Value.bool r) ∧ Ch nb w w' := by
 have hS := hs
 have c0 : Ch nb w w := Ch.refl
 have ah0 := slRep.enter k_Act_pos ah0
 have gl := Kd.enter gl
 refine Ret.of (n := 119) (args := [_]) (rs := [.tmp 2]) Tryd.func3 rfl rfl rfl rfl ?_
 refine CW.seq (CW.region ?_)
 refine rl_assign rfl rfl ?_
 refine RL.nil (thn_n (CW.seq ?_))
 refine CW.seq (CW.region ?_)
 obtain ⟨y3, hy4, hS⟩ := bindS hS
 refine rl_callF rfl en5 rfl (ctr5 (G F w.heap.size nb) w ge gl y3 hy4) ?_
 rintro _ w1 ⟨rfl, c2⟩
 have ah0 := slRep.ch k_Act_pos ah0 c2
 have gl := Kd.ch gl c2
 have c0 := c0.then0 c2
 refine rl_not rfl rfl ?_
 refine RL.nil (thn_n ?_)
 refine CW.cond (t := !y3) rfl (fun q5 => ?_) (fun q5 => ?_)
 ·
  have hS := ifT q5 hS
  refine CW.seq (CW.region ?_)
  refine rl_assign rfl rfl ?_
  refine RL.nil (thn_n (CW.ret ?_))
  refine thn_ret ?_
  obtain rfl := Option.some.inj hS
  exact ret1 rfl ⟨rfl, c0⟩
 have hS := ifF q5 hS
 refine CW.skip ?_
 refine thn_n (CW.seq ?_)
 refine CW.seq (CW.region ?_)
 refine rl_move rfl rfl ?_
 obtain ⟨y8, hy9⟩ : ∃ y, F6_Long a0 = y := ⟨_, rfl⟩
 have hS := ltS hy9 hS
 refine rl_callF rfl en6 rfl (ctr6 (G F w.heap.size nb) w1 a0 av0 ah0 y8 hy9) ?_
 rintro _ w6 ⟨rfl, c7⟩
 have ah0 := slRep.ch k_Act_pos ah0 c7
 have gl := Kd.ch gl c7
 have c0 := c0.then0 c7
 refine RL.nil (thn_n ?_)
 refine CW.cond (t := y8) rfl (fun q10 => ?_) (fun q10 => ?_)
 ·
  have hS := ifT q10 hS
  refine CW.seq (CW.region ?_)
  refine rl_assign rfl rfl ?_
  refine RL.nil (thn_n (CW.ret ?_))
  refine thn_ret ?_
  obtain rfl := Option.some.inj hS
  exact ret1 rfl ⟨rfl, c0⟩
 have hS := ifF q10 hS
 refine CW.skip ?_
 refine thn_n (CW.seq (CW.region ?_))
 obtain ⟨y13, hy14⟩ : ∃ y, F7_New = y := ⟨_, rfl⟩
 have hS := ltS hy14 hS
 refine rl_callF rfl en7 rfl (ctr7 (G F w.heap.size nb) w6  y13 hy14) ?_
 rintro _ w11 ⟨p15, z18, rfl, h16, h17, hf19, hf20, d21, c12⟩
 have lo22 : ∀ b, inBlk (PV p15) b → w.heap.size ≤ b := fun b h => Nat.le_trans c0.size (hf19 b h)
 have lo23 : ∀ b, inBlk z18 b → w.heap.size ≤ b := fun b h => Nat.le_trans c0.size (hf20 b h)
 have ah0 := slRep.st k_Act_pos ah0 c12 (show ∀ b, b < w6.heap.size → ¬ nb b → ¬ nb b ∧ ¬ (un (inBlk (PV p15)) (un (inBlk z18) nb)) b from fun b hb hs => ⟨fun x => x, fun h => un_el h (fun h => Nat.not_le_of_lt hb (hf19 b h)) (fun h => un_el h (fun h => Nat.not_le_of_lt hb (hf20 b h)) (fun h => hs h))⟩)
 have gl := Kd.st gl c12 (show ∀ b, b < w6.heap.size → ¬ nb b → ¬ nb b ∧ ¬ (un (inBlk (PV p15)) (un (inBlk z18) nb)) b from fun b hb hs => ⟨fun x => x, fun h => un_el h (fun h => Nat.not_le_of_lt hb (hf19 b h)) (fun h => un_el h (fun h => Nat.not_le_of_lt hb (hf20 b h)) (fun h => hs h))⟩)
 have c0 := c0.then0 c12
 refine rl_assign rfl rfl ?_
 refine RL.nil (thn_n (CW.seq (CW.region ?_)))
 refine rl_assign rfl rfl ?_
 refine rl_assign rfl rfl ?_
 refine RL.nil (thn_n (CW.seq ?_))
 refine CW.seq (CW.region ?_)
 refine rl_move rfl rfl ?_
 refine rl_lenR rfl ah0 Tryd.underlying22 rfl ?_
 refine rl_move rfl rfl ?_
 refine RL.nil (thn_n ?_)
 obtain ⟨o39, ho40, hS⟩ := bindS hS
 refine CW.cutB (fun E' w' => ∃ (x24 : Int) (x25 : Int) (x26 : Stats) (v27 : Value), Sub [(3, (PV p15)), (4, (Value.int .i64 x24)), (5, (Value.int .i64 x25))] E' ∧ Ch nb w w' ∧ Lp.fin (x24, x25, x26) = o39 ∧ slRep k_Act (G F w.heap.size (un (inBlk (PV p15)) (un (inBlk v27) nb))) w' a0 av0 ∧ (kGL 45 3).rep (G F w.heap.size (un (inBlk (PV p15)) (un (inBlk v27) nb))) w' ge [Value.bool true] ∧ Mp (fun x => Value.agg (Key.enc x).toArray) (fun x => Value.agg (Service.enc x).toArray) w' x26.services v27 ∧ Blk w' p15 81 (Stats.c x26 v27) ∧ (∀ b, inBlk (PV p15) b → ¬ inBlk v27 b) ∧ (∀ b, inBlk v27 b → w.heap.size ≤ b)) ?_ ?_
 ·
  refine CW.loopS [(3, (PV p15)), (20, av0), (21, (Value.int .i64 ((a0.length : Nat) : Int))), (4, (Value.int .i64 0)), (5, (Value.int .i64 0)), (22, (Value.int .i64 ((0 : Nat) : Int)))] ⟨rfl, rfl, rfl, rfl, rfl, rfl, trivial⟩ a0.length (fun m E w' => ∃ (rest32 : List Act) (i33 : Nat) (x24 : Int) (x25 : Int) (x26 : Stats) (v27 : Value), m = rest32.length ∧ E = [(3, (PV p15)), (20, av0), (21, (Value.int .i64 ((a0.length : Nat) : Int))), (4, (Value.int .i64 x24)), (5, (Value.int .i64 x25)), (22, (Value.int .i64 ((i33 : Nat) : Int)))] ∧ Ch nb w w' ∧ At a0 i33 rest32 ∧ runBO F3_StatsSum_b1 rest32 (x24, x25, x26) = some o39 ∧ slRep k_Act (G F w.heap.size (un (inBlk (PV p15)) (un (inBlk v27) nb))) w' a0 av0 ∧ (kGL 45 3).rep (G F w.heap.size (un (inBlk (PV p15)) (un (inBlk v27) nb))) w' ge [Value.bool true] ∧ Mp (fun x => Value.agg (Key.enc x).toArray) (fun x => Value.agg (Service.enc x).toArray) w' x26.services v27 ∧ Blk w' p15 81 (Stats.c x26 v27) ∧ (∀ b, inBlk (PV p15) b → ¬ inBlk v27 b) ∧ (∀ b, inBlk v27 b → w.heap.size ≤ b))
      ⟨a0, 0, 0, 0, y13, z18, rfl, rfl, c0, At.start, ho40, ah0, gl, h17, h16, d21, lo23⟩ ?_
  rintro _ _ w45 ⟨rest32, i33, x24, x25, x26, v27, rfl, rfl, c44, hat35, hL34, ah0, gl, h28, k29, d31, lo30⟩
  refine CW.seq (CW.region ?_)
  refine rl_bin rfl rfl B.lss rfl ?_
  refine RL.nil (thn_n ?_)
  refine CW.seq ?_
  refine CW.cond (t := decide (((i33 : Nat) : Int) < ((a0.length : Nat) : Int))) rfl (fun q47 => ?_) (fun q47 => ?_)
  ·
   obtain ⟨x41, rest48, rfl⟩ := hat35.cons q47
   obtain ⟨q36, hq37⟩ := runBO_some hL34
   have hb38 := hq37
   refine CW.skip (thn_n ?_)
   refine CW.seq ?_
   refine CW.block ?_
   refine CW.seq (CW.region ?_)
   refine rl_ixR rfl ah0 rfl hat35.get Tryd.underlying22 Tryd.sizeOf40 rfl ?_
   intro p49 o50 cs51 hr52 hs53 hg54
   obtain ⟨z55, rfl, h56⟩ := hr52
   refine rl_loadA (cs := (Act.c x41 z55)) rfl Tryd.isAgg40 Tryd.sizeOf40 (hs53) rfl rfl ?_
   refine rl_alloc (Act.c Act.z (Value.slice none 0 0)) Tryd.zeroValue40 rfl rfl ?_
   intro p57 w58 n59 k60
   have lo61 : ∀ b, inBlk (PV p57) b → w.heap.size ≤ b := fun b h => Nat.le_trans c44.size (n59.fresh b h)
   have d62 : ∀ b, inBlk (PV p57) b → ¬ inBlk (PV p15) b := disNew n59.fresh k29.ltp
   have d63 : ∀ b, inBlk (PV p57) b → ¬ inBlk v27 b := disNew n59.fresh h28.ltp
   have ah0 := slRep.st k_Act_pos ah0 n59.ch (admNew n59.fresh (fun _ x => x))
   have gl := Kd.st gl n59.ch (admNew n59.fresh (fun _ x => x))
   have h28 := h28.ch0 n59.ch
   have k29 := k29.ch0 n59.ch
   have h56 := slRep.st kInt_pos h56 n59.ch (admNew n59.fresh (fun _ x => x))
   have c44 := c44.then0 n59.ch
   refine rl_storeA (vs := (Act.c x41 z55)) rfl rfl (Kd.one _ (show k_Act.rep (G F w.heap.size (un (inBlk (PV p57)) (un (inBlk (PV p15)) (un (inBlk v27) nb)))) w58 x41 (Act.c x41 z55) from ⟨z55, rfl, h56⟩)) Tryd.sizeOf40 rfl k60 rfl ?_
   intro w64 s66 c65 k67
   have ad68 : ∀ b, b < w58.heap.size → ¬ (un (inBlk (PV p57)) (un (inBlk (PV p15)) (un (inBlk v27) nb))) b → ¬ (inBlk (PV p57)) b ∧ ¬ (un (inBlk (PV p57)) (un (inBlk (PV p15)) (un (inBlk v27) nb))) b := fun b _ hs => ⟨fun h => hs (.inl h), hs⟩
   have ah0 := slRep.st k_Act_pos ah0 c65 ad68
   have gl := Kd.st gl c65 ad68
   have h28 := h28.ch c65 ((fun b hb h => (disSym d63) b hb h))
   have k29 := k29.ch c65 ((fun b hb h => (disSym d62) b hb h) _ rfl)
   have h56 := slRep.st kInt_pos h56 c65 ad68
   have c44 := c44.then c65 (fun i hi h => absurd (lo61 i h) (Nat.not_le_of_lt hi))
   refine RL.nil (thn_n (CW.seq (CW.region ?_)))
   refine rl_move rfl rfl ?_
   have hd69 : ∀ b, (un (inBlk (PV p15)) (inBlk v27)) b → ¬ (un (inBlk (PV p57)) nb) b := fun b h => un_el h (fun h => (fun b hb => fun h => un_el h (fun h => (disSym d62) b hb h) (fun h => h)) b h) (fun h => (fun b hb => fun h => un_el h (fun h => (disSym d63) b hb h) (fun h => h)) b h)
   obtain ⟨y73, hy74, hb38⟩ := bindS hb38
   refine rl_callF rfl en8 rfl (ctr8 F w64 w.heap.size (un (inBlk (PV p57)) nb) c44.size (un_lt k67.ltp nbS) p15 v27 hd69 d31 x26 k29 h28 y73 hy74) ?_
   rintro _ w71 ⟨rfl, c72⟩
   have ah0 := slRep.ch k_Act_pos ah0 c72
   have gl := Kd.ch gl c72
   have h28 := h28.ch0 c72
   have k29 := k29.ch0 c72
   have h56 := slRep.ch kInt_pos h56 c72
   have k67 := k67.ch0 c72
   have c44 := c44.then0 c72
   refine rl_alloc (Count.enc Count.z) Tryd.zeroValue42 rfl rfl ?_
   intro p75 w76 n77 k78
   have lo79 : ∀ b, inBlk (PV p75) b → w.heap.size ≤ b := fun b h => Nat.le_trans c44.size (n77.fresh b h)
   have d80 : ∀ b, inBlk (PV p75) b → ¬ inBlk (PV p57) b := disNew n77.fresh k67.ltp
   have d81 : ∀ b, inBlk (PV p75) b → ¬ inBlk (PV p15) b := disNew n77.fresh k29.ltp
   have d82 : ∀ b, inBlk (PV p75) b → ¬ inBlk v27 b := disNew n77.fresh h28.ltp
   have ah0 := slRep.st k_Act_pos ah0 n77.ch (admNew n77.fresh (fun _ x => x))
   have gl := Kd.st gl n77.ch (admNew n77.fresh (fun _ x => x))
   have h28 := h28.ch0 n77.ch
   have k29 := k29.ch0 n77.ch
   have h56 := slRep.st kInt_pos h56 n77.ch (admNew n77.fresh (fun _ x => x))
   have k67 := k67.ch0 n77.ch
   have c44 := c44.then0 n77.ch
   refine rl_storeA (vs := (Count.enc y73)) rfl rfl (all_one rfl) Tryd.sizeOf42 rfl k78 rfl ?_
   intro w83 s85 c84 k86
   have ad87 : ∀ b, b < w76.heap.size → ¬ (un (inBlk (PV p75)) (un (inBlk (PV p57)) (un (inBlk (PV p15)) (un (inBlk v27) nb)))) b → ¬ (inBlk (PV p75)) b ∧ ¬ (un (inBlk (PV p75)) (un (inBlk (PV p57)) (un (inBlk (PV p15)) (un (inBlk v27) nb)))) b := fun b _ hs => ⟨fun h => hs (.inl h), hs⟩
   have ah0 := slRep.st k_Act_pos ah0 c84 ad87
   have gl := Kd.st gl c84 ad87
   have h28 := h28.ch c84 ((fun b hb h => (disSym d82) b hb h))
   have k29 := k29.ch c84 ((fun b hb h => (disSym d81) b hb h) _ rfl)
   have h56 := slRep.st kInt_pos h56 c84 ad87
   have k67 := k67.ch c84 ((fun b hb h => (disSym d80) b hb h) _ rfl)
   have c44 := c44.then c84 (fun i hi h => absurd (lo79 i h) (Nat.not_le_of_lt hi))
   refine RL.nil (thn_n (CW.seq ?_))
   refine CW.seq (CW.region ?_)
   refine rl_move rfl rfl ?_
   refine rl_fieldAddr rfl fa40_3 rfl ?_
   refine rl_loadA (cs := (Out.c x41.out z55)) rfl Tryd.isAgg38 Tryd.sizeOf38 (k67.segAt 3 46) rfl rfl ?_
   refine rl_fieldAddr rfl fa40_1 rfl ?_
   refine rl_loadS (v := (Value.int .i64 x41.size)) rfl Tryd.isAgg3 (k67.cell rfl) rfl ?_
   refine rl_fieldAddr rfl fa40_2 rfl ?_
   refine rl_loadS (v := (Value.int .i64 x41.now)) rfl Tryd.isAgg3 (k67.cell rfl) rfl ?_
   have hd88 : ∀ b, (un (inBlk (PV p15)) (inBlk v27)) b → ¬ (un (inBlk (PV p75)) (un (inBlk (PV p57)) nb)) b := fun b h => un_el h (fun h => (fun b hb => fun h => un_el h (fun h => (disSym d81) b hb h) (fun h => un_el h (fun h => (disSym d62) b hb h) (fun h => h))) b h) (fun h => (fun b hb => fun h => un_el h (fun h => (disSym d82) b hb h) (fun h => un_el h (fun h => (disSym d63) b hb h) (fun h => h))) b h)
   have hS89 : (un (inBlk (PV p75)) (un (inBlk (PV p57)) (un (inBlk (PV p15)) (un (inBlk v27) nb)))) = (un (inBlk (PV p15)) (un (inBlk v27) (un (inBlk (PV p75)) (un (inBlk (PV p57)) nb)))) := funext fun b => propext ⟨fun h => un_el h (fun h => (.inr (.inr (.inl h)))) (fun h => un_el h (fun h => (.inr (.inr (.inr (.inl h))))) (fun h => un_el h (fun h => (.inl h)) (fun h => un_el h (fun h => (.inr (.inl h))) (fun h => False.elim h)))), fun h => un_el h (fun h => (.inr (.inr (.inl h)))) (fun h => un_el h (fun h => (.inr (.inr (.inr (.inl h))))) (fun h => un_el h (fun h => (.inl h)) (fun h => un_el h (fun h => (.inr (.inl h))) (fun h => False.elim h))))⟩
   have ha90 := h56
   rw [hS89] at ha90
   have ha91 := gl
   rw [hS89] at ha91
   obtain ⟨y94, hy95, hb38⟩ := bindS hb38
   refine rl_callF rfl en9 rfl (ctr9 F w83 w.heap.size (un (inBlk (PV p75)) (un (inBlk (PV p57)) nb)) c44.size (un_lt k86.ltp (un_lt k67.ltp nbS)) p15 v27 hd88 d31 x26 k29 h28 x41.out z55 ha90 x41.size x41.now ge ha91 y94 hy95) ?_
   rintro _ w92 ⟨z96, rfl, h97, h98, hf99, d100, c93⟩
   have lo101 : ∀ b, inBlk z96 b → w.heap.size ≤ b := fun b h => (hf99 b h).elim (fun h => un_el h (fun h => lo22 b h) (fun h => lo30 b h)) (Nat.le_trans c44.size)
   have d102 : ∀ b, inBlk z96 b → ¬ inBlk (PV p75) b := fun b h hu => (hf99 b h).elim (fun h => un_el h (fun h => (disSym d81) b h hu) (fun h => (disSym d82) b h hu)) (fun h => Nat.not_le_of_lt (k86.ltp b hu) h)
   have d103 : ∀ b, inBlk z96 b → ¬ inBlk (PV p57) b := fun b h hu => (hf99 b h).elim (fun h => un_el h (fun h => (disSym d62) b h hu) (fun h => (disSym d63) b h hu)) (fun h => Nat.not_le_of_lt (k67.ltp b hu) h)
   have ha105 : ∀ b, b < w83.heap.size → ¬ (un (inBlk (PV p75)) (un (inBlk (PV p57)) (un (inBlk (PV p15)) (un (inBlk v27) nb)))) b → ¬ (un (inBlk (PV p15)) (inBlk v27)) b ∧ ¬ (un (inBlk (PV p75)) (un (inBlk (PV p57)) (un (inBlk (PV p15)) (un (inBlk z96) nb)))) b := fun b hb hs => ⟨fun h => un_el h (fun h => hs (.inr (.inr (.inl h)))) (fun h => hs (.inr (.inr (.inr (.inl h))))), fun h => un_el h (fun h => hs (.inl h)) (fun h => un_el h (fun h => hs (.inr (.inl h))) (fun h => un_el h (fun h => hs (.inr (.inr (.inl h)))) (fun h => un_el h (fun h => (hf99 b h).elim (fun h => un_el h (fun h => hs (.inr (.inr (.inl h)))) (fun h => hs (.inr (.inr (.inr (.inl h)))))) (fun h => Nat.not_le_of_lt hb h)) (fun h => False.elim h))))⟩
   have ah0 := slRep.st k_Act_pos ah0 c93 ha105
   have gl := Kd.st gl c93 ha105
   have k67 := k67.ch c93 ((fun b hb h => un_el h (fun h => d62 b hb h) (fun h => d63 b hb h)) _ rfl)
   have k86 := k86.ch c93 ((fun b hb h => un_el h (fun h => d81 b hb h) (fun h => d82 b hb h)) _ rfl)
   have c44 := c44.then c93 (fun i hi h => un_el h (fun h => absurd (lo22 i h) (Nat.not_le_of_lt hi)) (fun h => absurd (lo30 i h) (Nat.not_le_of_lt hi)))
   refine rl_errNe (x := y94.1) rfl gl Tryd.underlying45 rfl ?_
   refine RL.nil (thn_n ?_)
   refine CW.cond (t := (y94.1).isSome) rfl (fun q106 => ?_) (fun q106 => ?_)
   ·
    have hb38 := ifT q106 hb38
    refine CW.seq ?_
    refine CW.seq ?_
    obtain ⟨y111, hy112, hb38⟩ := bindS hb38
    refine CW.draw 3 [(none, fun fx O uu wx => uu = (PV p15)), (none, fun fx O uu wx => uu = (Value.agg (Count.enc y111).toArray)), (none, fun fx O uu wx => uu = (Value.agg (Count.enc y73).toArray))] [[], [0], []] [1, 2] nb (fun _ h => h.elim) mixed rfl rfl rfl rfl ?_ ?_
    ·
     refine Each.consS (fun fl O wk hE hN hO ck => ?_) ?_
     ·
      refine rl_move rfl rfl ?_
      exact RL.nil ⟨_, rfl, Ch.refl, rfl⟩
     refine Each.consS (fun fl O wk hE hN hO ck => ?_) ?_
     ·
      have k67 := k67.ch0 ck
      have k86 := k86.ch0 ck
      have h97 := h97.ch0 ck
      have h98 := h98.ch0 ck
      have c44 := c44.then0 ck
      refine Need.o1 rfl rfl rfl (fun _ h => h) ?_
      have hd114 : ∀ b, (un (inBlk (PV p15)) (inBlk z96)) b → ¬ (un (inBlk (PV p75)) (un (inBlk (PV p57)) nb)) b := fun b h => un_el h (fun h => (fun b hb => fun h => un_el h (fun h => (disSym d81) b hb h) (fun h => un_el h (fun h => (disSym d62) b hb h) (fun h => h))) b h) (fun h => (fun b hb => fun h => un_el h (fun h => d102 b hb h) (fun h => un_el h (fun h => d103 b hb h) (fun h => h))) b h)
      refine rl_callF rfl en8 rfl (ctr8 F wk w.heap.size (un (inBlk (PV p75)) (un (inBlk (PV p57)) nb)) c44.size (un_lt k86.ltp (un_lt k67.ltp nbS)) p15 z96 hd114 d100 y94.2 h97 h98 y111 hy112) ?_
      rintro _ w116 ⟨rfl, c117⟩
      exact RL.nil ⟨_, rfl, c117, rfl⟩
     refine Each.consS (fun fl O wk hE hN hO ck => ?_) ?_
     ·
      have k86 := k86.ch0 ck
      refine rl_loadA (cs := (Count.enc y73)) rfl Tryd.isAgg42 Tryd.sizeOf42 (k86.segAt 0 2) rfl rfl ?_
      exact RL.nil ⟨_, rfl, Ch.refl, rfl⟩
     trivial
    intro hvO120 OpO120 O120 w118 hO121 c119 hN122
    have ah0 := slRep.ch k_Act_pos ah0 c119
    have gl := Kd.ch gl c119
    have h97 := h97.ch0 c119
    have h98 := h98.ch0 c119
    have c44 := c44.then0 c119
    refine Need.o1 rfl rfl rfl (fun _ h => h) ?_
    refine Need.o1 rfl rfl rfl (fun _ h => h) ?_
    refine rl_bin rfl rfl (neq42 y111 y73) rfl ?_
    refine RL.nil (thn_n ?_)
    refine CW.cond (t := !decide (y111 = y73)) rfl (fun q125 => ?_) (fun q125 => ?_)
    ·
     have hb38 := ifT q125 hb38
     refine CW.seq (CW.region ?_)
     refine rl_assign rfl rfl ?_
     refine RL.nil (thn_n (CW.ret ?_))
     refine thn_ret ?_
     refine thn_ret ?_
     refine inB_ret ?_
     refine thn_ret ?_
     refine thn_ret (inB_ret (thn_ret ?_))
     refine thn_ret ?_
     have f126 := runBO_ret hL34 hq37 hb38
     have hS := retS f126 hS
     obtain rfl := Option.some.inj hS
     exact ret1 rfl ⟨rfl, c44⟩
    have hb38 := ifF q125 hb38
    refine CW.skip ?_
    refine thn_n ?_
    refine CW.exit ?_
    refine thn_exit ?_
    refine inB_hit ?_
    refine thn_n (CW.region ?_)
    refine rl_inc rfl hat35.lt ah0.big rfl ?_
    refine rl_move rfl rfl ?_
    refine RL.nil (thn_n ?_)
    have ad127 : ∀ b, b < w118.heap.size → ¬ (un (inBlk (PV p75)) (un (inBlk (PV p57)) (un (inBlk (PV p15)) (un (inBlk z96) nb)))) b → ¬ nb b ∧ ¬ (un (inBlk (PV p57)) (un (inBlk (PV p15)) (un (inBlk z96) nb))) b := fun b _ hs => ⟨fun x => x, fun h => hs (un_el h (fun h => (.inr (.inl h))) (fun h => un_el h (fun h => (.inr (.inr (.inl h)))) (fun h => un_el h (fun h => (.inr (.inr (.inr (.inl h))))) (fun h => False.elim h))))⟩
    have crf : Ch nb w118 w118 := Ch.refl
    have ah0 := slRep.st k_Act_pos ah0 crf ad127
    have gl := Kd.st gl crf ad127
    have h97 := h97.ch0 crf
    have h98 := h98.ch0 crf
    have c44 := c44.then0 crf
    have ad128 : ∀ b, b < w118.heap.size → ¬ (un (inBlk (PV p57)) (un (inBlk (PV p15)) (un (inBlk z96) nb))) b → ¬ nb b ∧ ¬ (un (inBlk (PV p15)) (un (inBlk z96) nb)) b := fun b _ hs => ⟨fun x => x, fun h => hs (un_el h (fun h => (.inr (.inl h))) (fun h => un_el h (fun h => (.inr (.inr (.inl h)))) (fun h => False.elim h)))⟩
    have crf : Ch nb w118 w118 := Ch.refl
    have ah0 := slRep.st k_Act_pos ah0 crf ad128
    have gl := Kd.st gl crf ad128
    have h97 := h97.ch0 crf
    have h98 := h98.ch0 crf
    have c44 := c44.then0 crf
    have hLn := runBO_next hL34 hq37 hb38
    exact ⟨rest48.length, Nat.lt_succ_self _, [(3, (PV p15)), (20, av0), (21, (Value.int .i64 ((a0.length : Nat) : Int))), (4, (Value.int .i64 x24)), (5, (Value.int .i64 x25)), (22, (Value.int .i64 ((i33 + 1 : Nat) : Int)))], ⟨rfl, rfl, rfl, rfl, rfl, rfl, trivial⟩, ⟨rest48, i33 + 1, x24, x25, y94.2, z96, rfl, rfl, c44, hat35.next, hLn, ah0, gl, h98, h97, d100, lo101⟩⟩
   have hb38 := ifF q106 hb38
   refine CW.skip ?_
   refine thn_n (CW.seq (CW.region ?_))
   refine rl_move rfl rfl ?_
   refine rl_bin rfl rfl B.add rfl ?_
   refine rl_assign rfl rfl ?_
   refine RL.nil (thn_n (CW.region ?_))
   refine rl_move rfl rfl ?_
   refine rl_fieldAddr rfl fa40_1 rfl ?_
   refine rl_loadS (v := (Value.int .i64 x41.size)) rfl Tryd.isAgg3 (k67.cell rfl) rfl ?_
   refine rl_bin rfl rfl B.add rfl ?_
   refine rl_assign rfl rfl ?_
   refine RL.nil ?_
   refine inB_n ?_
   refine thn_n (CW.region ?_)
   refine rl_inc rfl hat35.lt ah0.big rfl ?_
   refine rl_move rfl rfl ?_
   refine RL.nil (thn_n ?_)
   have ad129 : ∀ b, b < w92.heap.size → ¬ (un (inBlk (PV p75)) (un (inBlk (PV p57)) (un (inBlk (PV p15)) (un (inBlk z96) nb)))) b → ¬ nb b ∧ ¬ (un (inBlk (PV p57)) (un (inBlk (PV p15)) (un (inBlk z96) nb))) b := fun b _ hs => ⟨fun x => x, fun h => hs (un_el h (fun h => (.inr (.inl h))) (fun h => un_el h (fun h => (.inr (.inr (.inl h)))) (fun h => un_el h (fun h => (.inr (.inr (.inr (.inl h))))) (fun h => False.elim h))))⟩
   have crf : Ch nb w92 w92 := Ch.refl
   have ah0 := slRep.st k_Act_pos ah0 crf ad129
   have gl := Kd.st gl crf ad129
   have h97 := h97.ch0 crf
   have h98 := h98.ch0 crf
   have c44 := c44.then0 crf
   have ad130 : ∀ b, b < w92.heap.size → ¬ (un (inBlk (PV p57)) (un (inBlk (PV p15)) (un (inBlk z96) nb))) b → ¬ nb b ∧ ¬ (un (inBlk (PV p15)) (un (inBlk z96) nb)) b := fun b _ hs => ⟨fun x => x, fun h => hs (un_el h (fun h => (.inr (.inl h))) (fun h => un_el h (fun h => (.inr (.inr (.inl h)))) (fun h => False.elim h)))⟩
   have crf : Ch nb w92 w92 := Ch.refl
   have ah0 := slRep.st k_Act_pos ah0 crf ad130
   have gl := Kd.st gl crf ad130
   have h97 := h97.ch0 crf
   have h98 := h98.ch0 crf
   have c44 := c44.then0 crf
   have hLn := runBO_next hL34 hq37 hb38
   exact ⟨rest48.length, Nat.lt_succ_self _, [(3, (PV p15)), (20, av0), (21, (Value.int .i64 ((a0.length : Nat) : Int))), (4, (Value.int .i64 (IntKind.i64.wrap (x24 + 1)))), (5, (Value.int .i64 (IntKind.i64.wrap (x25 + x41.size)))), (22, (Value.int .i64 ((i33 + 1 : Nat) : Int)))], ⟨rfl, rfl, rfl, rfl, rfl, rfl, trivial⟩, ⟨rest48, i33 + 1, IntKind.i64.wrap (x24 + 1), IntKind.i64.wrap (x25 + x41.size), y94.2, z96, rfl, rfl, c44, hat35.next, hLn, ah0, gl, h98, h97, d100, lo101⟩⟩
  obtain rfl := hat35.nil q47
  have hLf : Lp.fin (x24, x25, x26) = o39 := runBO_done hL34
  refine CW.exit (thn_exit (thn_exit (inB_hit ?_)))
  exact ⟨x24, x25, x26, v27, ⟨rfl, rfl, rfl, trivial⟩, c44, hLf, ah0, gl, h28, k29, d31, lo30⟩
 rintro _ w132 ⟨x24, x25, x26, v27, hE133, c131, f134, ah0, gl, h28, k29, d31, lo30⟩
 have hS := finS f134 hS
 refine thn_n (CW.sub [(3, (PV p15)), (4, (Value.int .i64 x24)), (5, (Value.int .i64 x25))] hE133 ?_)
 refine CW.seq (CW.region ?_)
 refine rl_build (out := (Count.enc ({ packets := 0, bytes := 0 } : Count))) rfl pl42 Tryd.zeroValue42 rfl rfl rfl ?_
 refine rl_alloc (Count.enc Count.z) Tryd.zeroValue42 rfl rfl ?_
 intro p136 w137 n138 k139
 have lo140 : ∀ b, inBlk (PV p136) b → w.heap.size ≤ b := fun b h => Nat.le_trans c131.size (n138.fresh b h)
 have d141 : ∀ b, inBlk (PV p136) b → ¬ inBlk (PV p15) b := disNew n138.fresh k29.ltp
 have d142 : ∀ b, inBlk (PV p136) b → ¬ inBlk v27 b := disNew n138.fresh h28.ltp
 have ah0 := slRep.st k_Act_pos ah0 n138.ch (admNew n138.fresh (fun _ x => x))
 have gl := Kd.st gl n138.ch (admNew n138.fresh (fun _ x => x))
 have h28 := h28.ch0 n138.ch
 have k29 := k29.ch0 n138.ch
 have c131 := c131.then0 n138.ch
 refine rl_storeA (vs := (Count.enc ({ packets := 0, bytes := 0 } : Count))) rfl rfl (all_one rfl) Tryd.sizeOf42 rfl k139 rfl ?_
 intro w143 s145 c144 k146
 have ad147 : ∀ b, b < w137.heap.size → ¬ (un (inBlk (PV p136)) (un (inBlk (PV p15)) (un (inBlk v27) nb))) b → ¬ (inBlk (PV p136)) b ∧ ¬ (un (inBlk (PV p136)) (un (inBlk (PV p15)) (un (inBlk v27) nb))) b := fun b _ hs => ⟨fun h => hs (.inl h), hs⟩
 have ah0 := slRep.st k_Act_pos ah0 c144 ad147
 have gl := Kd.st gl c144 ad147
 have h28 := h28.ch c144 ((fun b hb h => (disSym d142) b hb h))
 have k29 := k29.ch c144 ((fun b hb h => (disSym d141) b hb h) _ rfl)
 have c131 := c131.then c144 (fun i hi h => absurd (lo140 i h) (Nat.not_le_of_lt hi))
 refine RL.nil (thn_n (CW.seq ?_))
 refine CW.seq (CW.region ?_)
 refine rl_move rfl rfl ?_
 refine RL.nil (thn_n ?_)
 obtain ⟨o161, ho162, hS⟩ := bindS hS
 refine CW.cutB (fun E' w' => ∃ (x148 : Int) (x149 : Count), Sub [(3, (PV p15)), (4, (Value.int .i64 x24)), (5, (Value.int .i64 x25)), (9, (PV p136))] E' ∧ Ch nb w w' ∧ Lp.fin (x148, x149) = o161 ∧ slRep k_Act (G F w.heap.size (un (inBlk (PV p136)) (un (inBlk (PV p15)) (un (inBlk v27) nb)))) w' a0 av0 ∧ (kGL 45 3).rep (G F w.heap.size (un (inBlk (PV p136)) (un (inBlk (PV p15)) (un (inBlk v27) nb)))) w' ge [Value.bool true] ∧ Mp (fun x => Value.agg (Key.enc x).toArray) (fun x => Value.agg (Service.enc x).toArray) w' x26.services v27 ∧ Blk w' p15 81 (Stats.c x26 v27) ∧ Blk w' p136 42 (Count.enc x149) ∧ (∀ b, inBlk (PV p136) b → ¬ inBlk (PV p15) b) ∧ (∀ b, inBlk (PV p136) b → ¬ inBlk v27 b) ∧ (∀ b, inBlk (PV p15) b → ¬ inBlk v27 b)) ?_ ?_
 ·
  refine CW.loopS [(3, (PV p15)), (4, (Value.int .i64 x24)), (5, (Value.int .i64 x25)), (9, (PV p136)), (49, (Value.int .i64 0))] ⟨rfl, rfl, rfl, rfl, rfl, trivial⟩ FUEL (fun m E w' => ∃ (x148 : Int) (x149 : Count), E = [(3, (PV p15)), (4, (Value.int .i64 x24)), (5, (Value.int .i64 x25)), (9, (PV p136)), (49, (Value.int .i64 x148))] ∧ Ch nb w w' ∧ runW (F3_StatsSum_b2 x26 x26) m (x148, x149) = some o161 ∧ slRep k_Act (G F w.heap.size (un (inBlk (PV p136)) (un (inBlk (PV p15)) (un (inBlk v27) nb)))) w' a0 av0 ∧ (kGL 45 3).rep (G F w.heap.size (un (inBlk (PV p136)) (un (inBlk (PV p15)) (un (inBlk v27) nb)))) w' ge [Value.bool true] ∧ Mp (fun x => Value.agg (Key.enc x).toArray) (fun x => Value.agg (Service.enc x).toArray) w' x26.services v27 ∧ Blk w' p15 81 (Stats.c x26 v27) ∧ Blk w' p136 42 (Count.enc x149) ∧ (∀ b, inBlk (PV p136) b → ¬ inBlk (PV p15) b) ∧ (∀ b, inBlk (PV p136) b → ¬ inBlk v27 b) ∧ (∀ b, inBlk (PV p15) b → ¬ inBlk v27 b))
      ⟨0, ({ packets := 0, bytes := 0 } : Count), rfl, c131, ho162, ah0, gl, h28, k29, k146, d141, d142, d31⟩ ?_
  rintro _ _ w167 ⟨x148, x149, rfl, c166, hL156, ah0, gl, h28, k29, k150, d151, d152, d153⟩
  obtain ⟨k165, q158, rfl, hq159⟩ := runW_some hL156
  have hb160 := hq159
  refine CW.seq (CW.region ?_)
  refine rl_bin rfl rfl B.lss rfl ?_
  refine RL.nil (thn_n (CW.seq ?_))
  refine CW.cond (t := decide (x148 < 7)) rfl (fun q169 => ?_) (fun q169 => ?_)
  ·
   have hb160 := ifT q169 hb160
   refine CW.skip ?_
   refine thn_n (CW.seq ?_)
   refine CW.block ?_
   refine CW.seq (CW.region ?_)
   refine rl_move rfl rfl ?_
   refine rl_assign rfl rfl ?_
   refine RL.nil (thn_n (CW.seq (CW.region ?_)))
   refine rl_move rfl rfl ?_
   refine rl_move rfl rfl ?_
   have hd170 : ∀ b, (un (inBlk (PV p15)) (inBlk v27)) b → ¬ (un (inBlk (PV p136)) nb) b := fun b h => un_el h (fun h => (fun b hb => fun h => un_el h (fun h => (disSym d151) b hb h) (fun h => h)) b h) (fun h => (fun b hb => fun h => un_el h (fun h => (disSym d152) b hb h) (fun h => h)) b h)
   obtain ⟨y174, hy175, hb160⟩ := bindS hb160
   refine rl_callF rfl en10 rfl (ctr10 F w167 w.heap.size (un (inBlk (PV p136)) nb) c166.size (un_lt k150.ltp nbS) p15 v27 hd170 d153 x26 k29 h28 x148 y174 hy175) ?_
   rintro _ w172 ⟨rfl, c173⟩
   have ah0 := slRep.ch k_Act_pos ah0 c173
   have gl := Kd.ch gl c173
   have h28 := h28.ch0 c173
   have k29 := k29.ch0 c173
   have k150 := k150.ch0 c173
   have c166 := c166.then0 c173
   refine rl_alloc (Count.enc Count.z) Tryd.zeroValue42 rfl rfl ?_
   intro p176 w177 n178 k179
   have lo180 : ∀ b, inBlk (PV p176) b → w.heap.size ≤ b := fun b h => Nat.le_trans c166.size (n178.fresh b h)
   have d181 : ∀ b, inBlk (PV p176) b → ¬ inBlk (PV p136) b := disNew n178.fresh k150.ltp
   have d182 : ∀ b, inBlk (PV p176) b → ¬ inBlk (PV p15) b := disNew n178.fresh k29.ltp
   have d183 : ∀ b, inBlk (PV p176) b → ¬ inBlk v27 b := disNew n178.fresh h28.ltp
   have ah0 := slRep.st k_Act_pos ah0 n178.ch (admNew n178.fresh (fun _ x => x))
   have gl := Kd.st gl n178.ch (admNew n178.fresh (fun _ x => x))
   have h28 := h28.ch0 n178.ch
   have k29 := k29.ch0 n178.ch
   have k150 := k150.ch0 n178.ch
   have c166 := c166.then0 n178.ch
   refine rl_storeA (vs := (Count.enc y174)) rfl rfl (all_one rfl) Tryd.sizeOf42 rfl k179 rfl ?_
   intro w184 s186 c185 k187
   have ad188 : ∀ b, b < w177.heap.size → ¬ (un (inBlk (PV p176)) (un (inBlk (PV p136)) (un (inBlk (PV p15)) (un (inBlk v27) nb)))) b → ¬ (inBlk (PV p176)) b ∧ ¬ (un (inBlk (PV p176)) (un (inBlk (PV p136)) (un (inBlk (PV p15)) (un (inBlk v27) nb)))) b := fun b _ hs => ⟨fun h => hs (.inl h), hs⟩
   have ah0 := slRep.st k_Act_pos ah0 c185 ad188
   have gl := Kd.st gl c185 ad188
   have h28 := h28.ch c185 ((fun b hb h => (disSym d183) b hb h))
   have k29 := k29.ch c185 ((fun b hb h => (disSym d182) b hb h) _ rfl)
   have k150 := k150.ch c185 ((fun b hb h => (disSym d181) b hb h) _ rfl)
   have c166 := c166.then c185 (fun i hi h => absurd (lo180 i h) (Nat.not_le_of_lt hi))
   refine RL.nil (thn_n (CW.seq (CW.region ?_)))
   refine rl_fieldAddr rfl fa42_0 rfl ?_
   refine rl_loadS (v := (Value.int .i64 x149.packets)) rfl Tryd.isAgg3 (k150.cell rfl) rfl ?_
   refine rl_fieldAddr rfl fa42_0 rfl ?_
   refine rl_loadS (v := (Value.int .i64 y174.packets)) rfl Tryd.isAgg3 (k187.cell rfl) rfl ?_
   refine rl_bin rfl rfl B.add rfl ?_
   refine rl_fieldAddr rfl fa42_0 rfl ?_
   refine rl_storeS (u := (Value.int .i64 (IntKind.i64.wrap (x149.packets + y174.packets)))) rfl rfl ⟨rfl, rfl⟩ Tryd.sizeOf3 k150 rfl ?_
   intro w189 s191 c190 k192
   have ad193 : ∀ b, b < w184.heap.size → ¬ (un (inBlk (PV p176)) (un (inBlk (PV p136)) (un (inBlk (PV p15)) (un (inBlk v27) nb)))) b → ¬ (inBlk (PV p136)) b ∧ ¬ (un (inBlk (PV p176)) (un (inBlk (PV p136)) (un (inBlk (PV p15)) (un (inBlk v27) nb)))) b := fun b _ hs => ⟨fun h => hs (.inr (.inl h)), hs⟩
   have ah0 := slRep.st k_Act_pos ah0 c190 ad193
   have gl := Kd.st gl c190 ad193
   have h28 := h28.ch c190 ((fun b hb h => (disSym d152) b hb h))
   have k29 := k29.ch c190 ((fun b hb h => (disSym d151) b hb h) _ rfl)
   have k187 := k187.ch c190 ((fun b hb h => d181 b hb h) _ rfl)
   have c166 := c166.then c190 (fun i hi h => absurd (lo140 i h) (Nat.not_le_of_lt hi))
   refine RL.nil (thn_n (CW.region ?_))
   refine rl_fieldAddr rfl fa42_1 rfl ?_
   refine rl_loadS (v := (Value.int .i64 x149.bytes)) rfl Tryd.isAgg3 (k192.cell rfl) rfl ?_
   refine rl_fieldAddr rfl fa42_1 rfl ?_
   refine rl_loadS (v := (Value.int .i64 y174.bytes)) rfl Tryd.isAgg3 (k187.cell rfl) rfl ?_
   refine rl_bin rfl rfl B.add rfl ?_
   refine rl_fieldAddr rfl fa42_1 rfl ?_
   refine rl_storeS (u := (Value.int .i64 (IntKind.i64.wrap (x149.bytes + y174.bytes)))) rfl rfl ⟨rfl, rfl⟩ Tryd.sizeOf3 k192 rfl ?_
   intro w194 s196 c195 k197
   have ad198 : ∀ b, b < w189.heap.size → ¬ (un (inBlk (PV p176)) (un (inBlk (PV p136)) (un (inBlk (PV p15)) (un (inBlk v27) nb)))) b → ¬ (inBlk (PV p136)) b ∧ ¬ (un (inBlk (PV p176)) (un (inBlk (PV p136)) (un (inBlk (PV p15)) (un (inBlk v27) nb)))) b := fun b _ hs => ⟨fun h => hs (.inr (.inl h)), hs⟩
   have ah0 := slRep.st k_Act_pos ah0 c195 ad198
   have gl := Kd.st gl c195 ad198
   have h28 := h28.ch c195 ((fun b hb h => (disSym d152) b hb h))
   have k29 := k29.ch c195 ((fun b hb h => (disSym d151) b hb h) _ rfl)
   have c166 := c166.then c195 (fun i hi h => absurd (lo140 i h) (Nat.not_le_of_lt hi))
   refine RL.nil ?_
   refine inB_n ?_
   refine thn_n (CW.region ?_)
   refine rl_bin rfl rfl B.add rfl ?_
   refine rl_move rfl rfl ?_
   refine RL.nil (thn_n ?_)
   have ad199 : ∀ b, b < w194.heap.size → ¬ (un (inBlk (PV p176)) (un (inBlk (PV p136)) (un (inBlk (PV p15)) (un (inBlk v27) nb)))) b → ¬ nb b ∧ ¬ (un (inBlk (PV p136)) (un (inBlk (PV p15)) (un (inBlk v27) nb))) b := fun b _ hs => ⟨fun x => x, fun h => hs (un_el h (fun h => (.inr (.inl h))) (fun h => un_el h (fun h => (.inr (.inr (.inl h)))) (fun h => un_el h (fun h => (.inr (.inr (.inr (.inl h))))) (fun h => False.elim h))))⟩
   have crf : Ch nb w194 w194 := Ch.refl
   have ah0 := slRep.st k_Act_pos ah0 crf ad199
   have gl := Kd.st gl crf ad199
   have h28 := h28.ch0 crf
   have k29 := k29.ch0 crf
   have k197 := k197.ch0 crf
   have c166 := c166.then0 crf
   have hLn := runW_next hL156 hq159 hb160
   exact ⟨k165, Nat.lt_succ_self _, [(3, (PV p15)), (4, (Value.int .i64 x24)), (5, (Value.int .i64 x25)), (9, (PV p136)), (49, (Value.int .i64 (IntKind.i64.wrap (x148 + 1))))], ⟨rfl, rfl, rfl, rfl, rfl, trivial⟩, ⟨IntKind.i64.wrap (x148 + 1), ({ packets := IntKind.i64.wrap (x149.packets + y174.packets), bytes := IntKind.i64.wrap (x149.bytes + y174.bytes) } : Count), rfl, c166, hLn, ah0, gl, h28, k29, k197, d151, d152, d153⟩⟩
  have hb160 := ifF q169 hb160
  refine CW.exit ?_
  refine thn_exit ?_
  refine thn_exit ?_
  refine inB_hit ?_
  have hLf := runW_fin hL156 hq159 hb160
  exact ⟨x148, x149, ⟨rfl, rfl, rfl, rfl, trivial⟩, c166, hLf, ah0, gl, h28, k29, k150, d151, d152, d153⟩
 rintro _ w201 ⟨x148, x149, hE202, c200, f203, ah0, gl, h28, k29, k150, d151, d152, d153⟩
 have hS := finS f203 hS
 refine thn_n (CW.sub [(3, (PV p15)), (4, (Value.int .i64 x24)), (5, (Value.int .i64 x25)), (9, (PV p136))] hE202 ?_)
 refine CW.seq (CW.region ?_)
 refine rl_assign rfl rfl ?_
 refine RL.nil (thn_n (CW.seq ?_))
 refine CW.seq (CW.region ?_)
 refine rl_move rfl rfl ?_
 have hd205 : ∀ b, (un (inBlk (PV p15)) (inBlk v27)) b → ¬ (un (inBlk (PV p136)) nb) b := fun b h => un_el h (fun h => (fun b hb => fun h => un_el h (fun h => (disSym d151) b hb h) (fun h => h)) b h) (fun h => (fun b hb => fun h => un_el h (fun h => (disSym d152) b hb h) (fun h => h)) b h)
 have hS206 : (un (inBlk (PV p136)) (un (inBlk (PV p15)) (un (inBlk v27) nb))) = (un (inBlk (PV p15)) (un (inBlk v27) (un (inBlk (PV p136)) nb))) := funext fun b => propext ⟨fun h => un_el h (fun h => (.inr (.inr (.inl h)))) (fun h => un_el h (fun h => (.inl h)) (fun h => un_el h (fun h => (.inr (.inl h))) (fun h => False.elim h))), fun h => un_el h (fun h => (.inr (.inl h))) (fun h => un_el h (fun h => (.inr (.inr (.inl h)))) (fun h => un_el h (fun h => (.inl h)) (fun h => False.elim h)))⟩
 obtain ⟨y209, hy210, hS⟩ := bindS hS
 refine rl_callF rfl en11 rfl (ctr11 F w201 w.heap.size (un (inBlk (PV p136)) nb) c200.size (un_lt k150.ltp nbS) p15 v27 hd205 d153 x26 k29 h28 y209 hy210) ?_
 rintro v211 w207 ⟨_, rfl, h212, c208⟩
 rw [← hS206] at h212
 have h212 := SlO.backR k_Service_pos h212 (un_lt k150.ltp (un_lt k29.ltp (un_lt h28.ltp nbS))) c200.size
 have ah0 := slRep.ch k_Act_pos ah0 c208
 have gl := Kd.ch gl c208
 have h28 := h28.ch0 c208
 have k29 := k29.ch0 c208
 have k150 := k150.ch0 c208
 have c200 := c200.then0 c208
 refine rl_lenR rfl h212 Tryd.underlying48 rfl ?_
 refine rl_move rfl rfl ?_
 refine RL.nil (thn_n ?_)
 obtain ⟨o224, ho225⟩ : ∃ o, runA F3_StatsSum_b3 y209 0 = o := ⟨_, rfl⟩
 have hS := ltS ho225 hS
 refine CW.cutB (fun E' w' => ∃ (x213 : Int), Sub [(3, (PV p15)), (4, (Value.int .i64 x24)), (5, (Value.int .i64 x25)), (9, (PV p136)), (12, (Value.int .i64 x213))] E' ∧ Ch nb w w' ∧ x213 = o224 ∧ slRep k_Act (G F w.heap.size (un (inBlk (PV p136)) (un (inBlk (PV p15)) (un (inBlk v27) nb)))) w' a0 av0 ∧ (kGL 45 3).rep (G F w.heap.size (un (inBlk (PV p136)) (un (inBlk (PV p15)) (un (inBlk v27) nb)))) w' ge [Value.bool true] ∧ Mp (fun x => Value.agg (Key.enc x).toArray) (fun x => Value.agg (Service.enc x).toArray) w' x26.services v27 ∧ Blk w' p15 81 (Stats.c x26 v27) ∧ Blk w' p136 42 (Count.enc x149) ∧ slRep k_Service (G F w.heap.size (un (inBlk (PV p136)) (un (inBlk (PV p15)) (un (inBlk v27) nb)))) w' y209 v211 ∧ (∀ b, inBlk (PV p136) b → ¬ inBlk (PV p15) b) ∧ (∀ b, inBlk (PV p136) b → ¬ inBlk v27 b) ∧ (∀ b, inBlk (PV p15) b → ¬ inBlk v27 b)) ?_ ?_
 ·
  refine CW.loopS [(3, (PV p15)), (4, (Value.int .i64 x24)), (5, (Value.int .i64 x25)), (9, (PV p136)), (69, v211), (70, (Value.int .i64 ((y209.length : Nat) : Int))), (12, (Value.int .i64 0)), (71, (Value.int .i64 ((0 : Nat) : Int)))] ⟨rfl, rfl, rfl, rfl, rfl, rfl, rfl, rfl, trivial⟩ y209.length (fun m E w' => ∃ (rest217 : List Service) (i218 : Nat) (x213 : Int), m = rest217.length ∧ E = [(3, (PV p15)), (4, (Value.int .i64 x24)), (5, (Value.int .i64 x25)), (9, (PV p136)), (69, v211), (70, (Value.int .i64 ((y209.length : Nat) : Int))), (12, (Value.int .i64 x213)), (71, (Value.int .i64 ((i218 : Nat) : Int)))] ∧ Ch nb w w' ∧ At y209 i218 rest217 ∧ runA F3_StatsSum_b3 rest217 x213 = o224 ∧ slRep k_Act (G F w.heap.size (un (inBlk (PV p136)) (un (inBlk (PV p15)) (un (inBlk v27) nb)))) w' a0 av0 ∧ (kGL 45 3).rep (G F w.heap.size (un (inBlk (PV p136)) (un (inBlk (PV p15)) (un (inBlk v27) nb)))) w' ge [Value.bool true] ∧ Mp (fun x => Value.agg (Key.enc x).toArray) (fun x => Value.agg (Service.enc x).toArray) w' x26.services v27 ∧ Blk w' p15 81 (Stats.c x26 v27) ∧ Blk w' p136 42 (Count.enc x149) ∧ slRep k_Service (G F w.heap.size (un (inBlk (PV p136)) (un (inBlk (PV p15)) (un (inBlk v27) nb)))) w' y209 v211 ∧ (∀ b, inBlk (PV p136) b → ¬ inBlk (PV p15) b) ∧ (∀ b, inBlk (PV p136) b → ¬ inBlk v27 b) ∧ (∀ b, inBlk (PV p15) b → ¬ inBlk v27 b))
      ⟨y209, 0, 0, rfl, rfl, c200, At.start, ho225, ah0, gl, h28, k29, k150, h212, d151, d152, d153⟩ ?_
  rintro _ _ w230 ⟨rest217, i218, x213, rfl, rfl, c229, hat220, hL219, ah0, gl, h28, k29, k150, h212, d214, d215, d216⟩
  refine CW.seq (CW.region ?_)
  refine rl_bin rfl rfl B.lss rfl ?_
  refine RL.nil (thn_n ?_)
  refine CW.seq ?_
  refine CW.cond (t := decide (((i218 : Nat) : Int) < ((y209.length : Nat) : Int))) rfl (fun q232 => ?_) (fun q232 => ?_)
  ·
   obtain ⟨x226, rest233, rfl⟩ := hat220.cons q232
   obtain ⟨q221, hq222⟩ : ∃ q, F3_StatsSum_b3 x226 x213 = q := ⟨_, rfl⟩
   have hb223 := hq222
   refine CW.skip (thn_n ?_)
   refine CW.seq ?_
   refine CW.block ?_
   refine CW.seq (CW.region ?_)
   refine rl_ixR rfl h212 rfl hat220.get Tryd.underlying48 Tryd.sizeOf51 rfl ?_
   intro p234 o235 cs236 hr237 hs238 hg239
   obtain rfl := hr237
   refine rl_loadA (cs := (Service.enc x226)) rfl Tryd.isAgg51 Tryd.sizeOf51 (hs238) rfl rfl ?_
   refine rl_alloc (Service.enc Service.z) Tryd.zeroValue51 rfl rfl ?_
   intro p240 w241 n242 k243
   have lo244 : ∀ b, inBlk (PV p240) b → w.heap.size ≤ b := fun b h => Nat.le_trans c229.size (n242.fresh b h)
   have d245 : ∀ b, inBlk (PV p240) b → ¬ inBlk (PV p136) b := disNew n242.fresh k150.ltp
   have d246 : ∀ b, inBlk (PV p240) b → ¬ inBlk (PV p15) b := disNew n242.fresh k29.ltp
   have d247 : ∀ b, inBlk (PV p240) b → ¬ inBlk v27 b := disNew n242.fresh h28.ltp
   have ah0 := slRep.st k_Act_pos ah0 n242.ch (admNew n242.fresh (fun _ x => x))
   have gl := Kd.st gl n242.ch (admNew n242.fresh (fun _ x => x))
   have h28 := h28.ch0 n242.ch
   have k29 := k29.ch0 n242.ch
   have k150 := k150.ch0 n242.ch
   have h212 := slRep.st k_Service_pos h212 n242.ch (admNew n242.fresh (fun _ x => x))
   have c229 := c229.then0 n242.ch
   refine rl_storeA (vs := (Service.enc x226)) rfl rfl (all_one rfl) Tryd.sizeOf51 rfl k243 rfl ?_
   intro w248 s250 c249 k251
   have ad252 : ∀ b, b < w241.heap.size → ¬ (un (inBlk (PV p240)) (un (inBlk (PV p136)) (un (inBlk (PV p15)) (un (inBlk v27) nb)))) b → ¬ (inBlk (PV p240)) b ∧ ¬ (un (inBlk (PV p240)) (un (inBlk (PV p136)) (un (inBlk (PV p15)) (un (inBlk v27) nb)))) b := fun b _ hs => ⟨fun h => hs (.inl h), hs⟩
   have ah0 := slRep.st k_Act_pos ah0 c249 ad252
   have gl := Kd.st gl c249 ad252
   have h28 := h28.ch c249 ((fun b hb h => (disSym d247) b hb h))
   have k29 := k29.ch c249 ((fun b hb h => (disSym d246) b hb h) _ rfl)
   have k150 := k150.ch c249 ((fun b hb h => (disSym d245) b hb h) _ rfl)
   have h212 := slRep.st k_Service_pos h212 c249 ad252
   have c229 := c229.then c249 (fun i hi h => absurd (lo244 i h) (Nat.not_le_of_lt hi))
   refine RL.nil (thn_n (CW.region ?_))
   refine rl_move rfl rfl ?_
   refine rl_fieldAddr rfl fa51_1 rfl ?_
   refine rl_loadS (v := (Value.int .i64 x226.begun)) rfl Tryd.isAgg3 (k251.cell rfl) rfl ?_
   refine rl_fieldAddr rfl fa51_2 rfl ?_
   refine rl_loadS (v := (Value.int .i64 x226.filtered)) rfl Tryd.isAgg3 (k251.cell rfl) rfl ?_
   refine rl_bin rfl rfl B.add rfl ?_
   refine rl_fieldAddr rfl fa51_3 rfl ?_
   refine rl_loadS (v := (Value.int .i64 x226.rejected)) rfl Tryd.isAgg3 (k251.cell rfl) rfl ?_
   refine rl_bin rfl rfl B.add rfl ?_
   refine rl_fieldAddr rfl fa51_4 rfl ?_
   refine rl_loadS (v := (Value.int .i64 x226.full)) rfl Tryd.isAgg3 (k251.cell rfl) rfl ?_
   refine rl_bin rfl rfl B.add rfl ?_
   refine rl_bin rfl rfl B.add rfl ?_
   refine rl_assign rfl rfl ?_
   refine RL.nil ?_
   refine inB_n ?_
   refine thn_n (CW.region ?_)
   refine rl_inc rfl hat220.lt h212.big rfl ?_
   refine rl_move rfl rfl ?_
   refine RL.nil (thn_n ?_)
   have ad253 : ∀ b, b < w248.heap.size → ¬ (un (inBlk (PV p240)) (un (inBlk (PV p136)) (un (inBlk (PV p15)) (un (inBlk v27) nb)))) b → ¬ nb b ∧ ¬ (un (inBlk (PV p136)) (un (inBlk (PV p15)) (un (inBlk v27) nb))) b := fun b _ hs => ⟨fun x => x, fun h => hs (un_el h (fun h => (.inr (.inl h))) (fun h => un_el h (fun h => (.inr (.inr (.inl h)))) (fun h => un_el h (fun h => (.inr (.inr (.inr (.inl h))))) (fun h => False.elim h))))⟩
   have crf : Ch nb w248 w248 := Ch.refl
   have ah0 := slRep.st k_Act_pos ah0 crf ad253
   have gl := Kd.st gl crf ad253
   have h28 := h28.ch0 crf
   have k29 := k29.ch0 crf
   have k150 := k150.ch0 crf
   have h212 := slRep.st k_Service_pos h212 crf ad253
   have c229 := c229.then0 crf
   have hLn := runA_next hL219 (hb223.trans hq222.symm)
   exact ⟨rest233.length, Nat.lt_succ_self _, [(3, (PV p15)), (4, (Value.int .i64 x24)), (5, (Value.int .i64 x25)), (9, (PV p136)), (69, v211), (70, (Value.int .i64 ((y209.length : Nat) : Int))), (12, (Value.int .i64 (IntKind.i64.wrap (x213 + (IntKind.i64.wrap ((IntKind.i64.wrap ((IntKind.i64.wrap (x226.begun + x226.filtered)) + x226.rejected)) + x226.full)))))), (71, (Value.int .i64 ((i218 + 1 : Nat) : Int)))], ⟨rfl, rfl, rfl, rfl, rfl, rfl, rfl, rfl, trivial⟩, ⟨rest233, i218 + 1, IntKind.i64.wrap (x213 + (IntKind.i64.wrap ((IntKind.i64.wrap ((IntKind.i64.wrap (x226.begun + x226.filtered)) + x226.rejected)) + x226.full))), rfl, rfl, c229, hat220.next, hLn, ah0, gl, h28, k29, k150, h212, d214, d215, d216⟩⟩
  obtain rfl := hat220.nil q232
  have hLf : x213 = o224 := hL219
  refine CW.exit (thn_exit (thn_exit (inB_hit ?_)))
  exact ⟨x213, ⟨rfl, rfl, rfl, rfl, rfl, trivial⟩, c229, hLf, ah0, gl, h28, k29, k150, h212, d214, d215, d216⟩
 rintro _ w255 ⟨x213, hE256, c254, f257, ah0, gl, h28, k29, k150, h212, d214, d215, d216⟩
 subst f257
 refine thn_n (CW.sub [(3, (PV p15)), (4, (Value.int .i64 x24)), (5, (Value.int .i64 x25)), (9, (PV p136)), (12, (Value.int .i64 x213))] hE256 ?_)
 refine CW.seq ?_
 obtain ⟨y263, hy264, hS⟩ := bindS hS
 obtain ⟨b265, hb266⟩ : ∃ y, ((decide (x149 = y263)) && (decide (x149.packets = x24))) = y := ⟨_, rfl⟩
 have hS := ltS hb266 hS
 obtain ⟨b267, hb268⟩ : ∃ y, (b265 && (decide (x149.bytes = x25))) = y := ⟨_, rfl⟩
 have hS := ltS hb268 hS
 obtain ⟨b269, hb270⟩ : ∃ y, (b267 && (decide (x213 ≤ x24))) = y := ⟨_, rfl⟩
 have hS := ltS hb270 hS
 obtain ⟨b287, hb288, hS⟩ := bindS hS
 refine CW.cutN (fun E' w' => Sub [(2, (Value.bool b287))] E' ∧ Ch nb w255 w') ?_ ?_
 ·
  rcases Bool.eq_false_or_eq_true (decide (x149 = y263)) with hg289 | hg289
  ·
   have hs290 := and_t hg289 hb266
   rcases Bool.eq_false_or_eq_true b265 with hg291 | hg291
   ·
    have hs292 := and_t hg291 hb268
    rcases Bool.eq_false_or_eq_true b267 with hg293 | hg293
    ·
     have hs294 := and_t hg293 hb270
     rcases Bool.eq_false_or_eq_true b269 with hg295 | hg295
     ·
      have hs296 := andO_t hg295 hb288
      obtain ⟨y275, hy276, hs296⟩ := bindS hs296
      obtain ⟨y283, hy284, hs296⟩ := bindS hs296
      refine CW.draw 30 [(none, fun fx O uu wx => uu = (Value.agg (Count.enc x149).toArray)), (none, fun fx O uu wx => uu = (PV p15)), (none, fun fx O uu wx => uu = (Value.agg (Count.enc y263).toArray)), (none, fun fx O uu wx => uu = (Value.bool (decide (x149 = y263)))), (none, fun fx O uu wx => uu = (Value.bool (decide (x149 = y263)))), (none, fun fx O uu wx => uu = (PV p136)), (none, fun fx O uu wx => uu = (Value.int .i64 x149.packets)), (none, fun fx O uu wx => uu = (Value.int .i64 x24)), (none, fun fx O uu wx => uu = (Value.bool (decide (x149.packets = x24)))), (none, fun fx O uu wx => uu = (Value.bool b265)), (none, fun fx O uu wx => uu = (Value.bool b265)), (none, fun fx O uu wx => uu = (Value.pointer (some ⟨p136, 1, none⟩))), (none, fun fx O uu wx => uu = (Value.int .i64 x149.bytes)), (none, fun fx O uu wx => uu = (Value.int .i64 x25)), (none, fun fx O uu wx => uu = (Value.bool (decide (x149.bytes = x25)))), (none, fun fx O uu wx => uu = (Value.bool b267)), (none, fun fx O uu wx => uu = (Value.bool b267)), (none, fun fx O uu wx => uu = (Value.int .i64 x213)), (none, fun fx O uu wx => uu = (Value.int .i64 x24)), (none, fun fx O uu wx => uu = (Value.bool (decide (x213 ≤ x24)))), (none, fun fx O uu wx => uu = (Value.bool b269)), (none, fun fx O uu wx => uu = (Value.bool b269)), (none, fun fx O uu wx => uu = (PV p15)), (none, fun fx O uu wx => ∃ (v277 : Value), uu = v277 ∧ slRep k_Service (G F w.heap.size (un (inBlk (PV p136)) (un (inBlk (PV p15)) (un (inBlk v27) nb)))) wx y275 v277), (none, fun fx O uu wx => uu = (Value.int .i64 ((y275.length : Nat) : Int))), (none, fun fx O uu wx => uu = (PV p15)), (none, fun fx O uu wx => ∃ (v285 : Value), uu = v285 ∧ slRep k_Service (G F w.heap.size (un (inBlk (PV p136)) (un (inBlk (PV p15)) (un (inBlk v27) nb)))) wx y283 v285), (none, fun fx O uu wx => uu = (Value.int .i64 ((y283.length : Nat) : Int))), (none, fun fx O uu wx => uu = (Value.bool (decide (((y275.length : Nat) : Int) = ((y283.length : Nat) : Int))))), (none, fun fx O uu wx => uu = (Value.bool b287))] [[], [], [1], [0, 2], [3], [4], [4, 5], [4], [4, 6, 7], [4, 8], [9], [10], [10, 11], [10], [10, 12, 13], [10, 14], [15], [16], [16], [16, 17, 18], [16, 19], [20], [21], [21, 22], [21, 23], [21], [21, 25], [21, 26], [21, 24, 27], [21, 28]] [29] nb (fun _ h => h.elim) mixed rfl rfl rfl rfl ?_ ?_
      ·
       refine Each.consS (fun fl O wk hE hN hO ck => ?_) ?_
       ·
        have k150 := k150.ch0 ck
        refine rl_loadA (cs := (Count.enc x149)) rfl Tryd.isAgg42 Tryd.sizeOf42 (k150.segAt 0 2) rfl rfl ?_
        exact RL.nil ⟨_, rfl, Ch.refl, rfl⟩
       refine Each.consS (fun fl O wk hE hN hO ck => ?_) ?_
       ·
        refine rl_move rfl rfl ?_
        exact RL.nil ⟨_, rfl, Ch.refl, rfl⟩
       refine Each.consS (fun fl O wk hE hN hO ck => ?_) ?_
       ·
        have h28 := h28.ch0 ck
        have k29 := k29.ch0 ck
        have k150 := k150.ch0 ck
        have c254 := c254.then0 ck
        refine Need.o1 rfl rfl rfl (fun _ h => h) ?_
        have hd298 : ∀ b, (un (inBlk (PV p15)) (inBlk v27)) b → ¬ (un (inBlk (PV p136)) nb) b := fun b h => un_el h (fun h => (fun b hb => fun h => un_el h (fun h => (disSym d214) b hb h) (fun h => h)) b h) (fun h => (fun b hb => fun h => un_el h (fun h => (disSym d215) b hb h) (fun h => h)) b h)
        refine rl_callF rfl en8 rfl (ctr8 F wk w.heap.size (un (inBlk (PV p136)) nb) c254.size (un_lt k150.ltp nbS) p15 v27 hd298 d216 x26 k29 h28 y263 hy264) ?_
        rintro _ w300 ⟨rfl, c301⟩
        exact RL.nil ⟨_, rfl, c301, rfl⟩
       refine Each.consS (fun fl O wk hE hN hO ck => ?_) ?_
       ·
        refine Need.o1 rfl rfl rfl (fun _ h => h) ?_
        refine Need.o1 rfl rfl rfl (fun _ h => h) ?_
        refine rl_bin rfl rfl (eql42 x149 y263) rfl ?_
        exact RL.nil ⟨_, rfl, Ch.refl, rfl⟩
       refine Each.consS (fun fl O wk hE hN hO ck => ?_) ?_
       ·
        refine Need.o1 rfl rfl rfl (fun _ h => h) ?_
        refine rl_move rfl rfl ?_
        exact RL.nil ⟨_, rfl, Ch.refl, rfl⟩
       refine Each.consS (fun fl O wk hE hN hO ck => ?_) ?_
       ·
        refine Need.o1 rfl rfl rfl (fun _ h => h) ?_
        refine RL.yes rfl rfl rfl hg289 ?_
        refine rl_fieldAddr rfl fa42_0 rfl ?_
        exact RL.nil ⟨_, rfl, Ch.refl, rfl⟩
       refine Each.consS (fun fl O wk hE hN hO ck => ?_) ?_
       ·
        have k150 := k150.ch0 ck
        refine Need.o1 rfl rfl rfl (fun _ h => h) ?_
        refine Need.o1 rfl rfl rfl (fun _ h => h) ?_
        refine RL.yes rfl rfl rfl hg289 ?_
        refine rl_loadS (v := (Value.int .i64 x149.packets)) rfl Tryd.isAgg3 (k150.cell rfl) rfl ?_
        exact RL.nil ⟨_, rfl, Ch.refl, rfl⟩
       refine Each.consS (fun fl O wk hE hN hO ck => ?_) ?_
       ·
        refine Need.o1 rfl rfl rfl (fun _ h => h) ?_
        refine RL.yes rfl rfl rfl hg289 ?_
        refine rl_move rfl rfl ?_
        exact RL.nil ⟨_, rfl, Ch.refl, rfl⟩
       refine Each.consS (fun fl O wk hE hN hO ck => ?_) ?_
       ·
        refine Need.o1 rfl rfl rfl (fun _ h => h) ?_
        refine Need.o1 rfl rfl rfl (fun _ h => h) ?_
        refine Need.o1 rfl rfl rfl (fun _ h => h) ?_
        refine RL.yes rfl rfl rfl hg289 ?_
        refine rl_bin rfl rfl B.eql rfl ?_
        exact RL.nil ⟨_, rfl, Ch.refl, rfl⟩
       refine Each.consS (fun fl O wk hE hN hO ck => ?_) ?_
       ·
        refine Need.o1 rfl rfl rfl (fun _ h => h) ?_
        refine Need.o1 rfl rfl rfl (fun _ h => h) ?_
        refine rl_pickT rfl hg289 rfl rfl ?_
        exact RL.nil ⟨_, rfl, Ch.refl, congrArg Value.bool hs290⟩
       refine Each.consS (fun fl O wk hE hN hO ck => ?_) ?_
       ·
        refine Need.o1 rfl rfl rfl (fun _ h => h) ?_
        refine rl_move rfl rfl ?_
        exact RL.nil ⟨_, rfl, Ch.refl, rfl⟩
       refine Each.consS (fun fl O wk hE hN hO ck => ?_) ?_
       ·
        refine Need.o1 rfl rfl rfl (fun _ h => h) ?_
        refine RL.yes rfl rfl rfl hg291 ?_
        refine rl_fieldAddr rfl fa42_1 rfl ?_
        exact RL.nil ⟨_, rfl, Ch.refl, rfl⟩
       refine Each.consS (fun fl O wk hE hN hO ck => ?_) ?_
       ·
        have k150 := k150.ch0 ck
        refine Need.o1 rfl rfl rfl (fun _ h => h) ?_
        refine Need.o1 rfl rfl rfl (fun _ h => h) ?_
        refine RL.yes rfl rfl rfl hg291 ?_
        refine rl_loadS (v := (Value.int .i64 x149.bytes)) rfl Tryd.isAgg3 (k150.cell rfl) rfl ?_
        exact RL.nil ⟨_, rfl, Ch.refl, rfl⟩
       refine Each.consS (fun fl O wk hE hN hO ck => ?_) ?_
       ·
        refine Need.o1 rfl rfl rfl (fun _ h => h) ?_
        refine RL.yes rfl rfl rfl hg291 ?_
        refine rl_move rfl rfl ?_
        exact RL.nil ⟨_, rfl, Ch.refl, rfl⟩
       refine Each.consS (fun fl O wk hE hN hO ck => ?_) ?_
       ·
        refine Need.o1 rfl rfl rfl (fun _ h => h) ?_
        refine Need.o1 rfl rfl rfl (fun _ h => h) ?_
        refine Need.o1 rfl rfl rfl (fun _ h => h) ?_
        refine RL.yes rfl rfl rfl hg291 ?_
        refine rl_bin rfl rfl B.eql rfl ?_
        exact RL.nil ⟨_, rfl, Ch.refl, rfl⟩
       refine Each.consS (fun fl O wk hE hN hO ck => ?_) ?_
       ·
        refine Need.o1 rfl rfl rfl (fun _ h => h) ?_
        refine Need.o1 rfl rfl rfl (fun _ h => h) ?_
        refine rl_pickT rfl hg291 rfl rfl ?_
        exact RL.nil ⟨_, rfl, Ch.refl, congrArg Value.bool hs292⟩
       refine Each.consS (fun fl O wk hE hN hO ck => ?_) ?_
       ·
        refine Need.o1 rfl rfl rfl (fun _ h => h) ?_
        refine rl_move rfl rfl ?_
        exact RL.nil ⟨_, rfl, Ch.refl, rfl⟩
       refine Each.consS (fun fl O wk hE hN hO ck => ?_) ?_
       ·
        refine Need.o1 rfl rfl rfl (fun _ h => h) ?_
        refine RL.yes rfl rfl rfl hg293 ?_
        refine rl_move rfl rfl ?_
        exact RL.nil ⟨_, rfl, Ch.refl, rfl⟩
       refine Each.consS (fun fl O wk hE hN hO ck => ?_) ?_
       ·
        refine Need.o1 rfl rfl rfl (fun _ h => h) ?_
        refine RL.yes rfl rfl rfl hg293 ?_
        refine rl_move rfl rfl ?_
        exact RL.nil ⟨_, rfl, Ch.refl, rfl⟩
       refine Each.consS (fun fl O wk hE hN hO ck => ?_) ?_
       ·
        refine Need.o1 rfl rfl rfl (fun _ h => h) ?_
        refine Need.o1 rfl rfl rfl (fun _ h => h) ?_
        refine Need.o1 rfl rfl rfl (fun _ h => h) ?_
        refine RL.yes rfl rfl rfl hg293 ?_
        refine rl_bin rfl rfl B.leq rfl ?_
        exact RL.nil ⟨_, rfl, Ch.refl, rfl⟩
       refine Each.consS (fun fl O wk hE hN hO ck => ?_) ?_
       ·
        refine Need.o1 rfl rfl rfl (fun _ h => h) ?_
        refine Need.o1 rfl rfl rfl (fun _ h => h) ?_
        refine rl_pickT rfl hg293 rfl rfl ?_
        exact RL.nil ⟨_, rfl, Ch.refl, congrArg Value.bool hs294⟩
       refine Each.consS (fun fl O wk hE hN hO ck => ?_) ?_
       ·
        refine Need.o1 rfl rfl rfl (fun _ h => h) ?_
        refine rl_move rfl rfl ?_
        exact RL.nil ⟨_, rfl, Ch.refl, rfl⟩
       refine Each.consS (fun fl O wk hE hN hO ck => ?_) ?_
       ·
        refine Need.o1 rfl rfl rfl (fun _ h => h) ?_
        refine RL.yes rfl rfl rfl hg295 ?_
        refine rl_move rfl rfl ?_
        exact RL.nil ⟨_, rfl, Ch.refl, rfl⟩
       refine Each.consA ⟨fun _ _ _ _ _ cc hh => by obtain ⟨v277, e, h278⟩ := hh; exact ⟨v277, e, slRep.ch k_Service_pos h278 cc⟩, fun h => absurd rfl h, fun fl O wk hE hN hO ck => ?_⟩ ?_
       ·
        have h28 := h28.ch0 ck
        have k29 := k29.ch0 ck
        have k150 := k150.ch0 ck
        have c254 := c254.then0 ck
        refine Need.o1 rfl rfl rfl (fun _ h => h) ?_
        refine Need.o1 rfl rfl rfl (fun _ h => h) ?_
        refine RL.yes rfl rfl rfl hg295 ?_
        have hd336 : ∀ b, (un (inBlk (PV p15)) (inBlk v27)) b → ¬ (un (inBlk (PV p136)) nb) b := fun b h => un_el h (fun h => (fun b hb => fun h => un_el h (fun h => (disSym d214) b hb h) (fun h => h)) b h) (fun h => (fun b hb => fun h => un_el h (fun h => (disSym d215) b hb h) (fun h => h)) b h)
        have hS337 : (un (inBlk (PV p136)) (un (inBlk (PV p15)) (un (inBlk v27) nb))) = (un (inBlk (PV p15)) (un (inBlk v27) (un (inBlk (PV p136)) nb))) := funext fun b => propext ⟨fun h => un_el h (fun h => (.inr (.inr (.inl h)))) (fun h => un_el h (fun h => (.inl h)) (fun h => un_el h (fun h => (.inr (.inl h))) (fun h => False.elim h))), fun h => un_el h (fun h => (.inr (.inl h))) (fun h => un_el h (fun h => (.inr (.inr (.inl h)))) (fun h => un_el h (fun h => (.inl h)) (fun h => False.elim h)))⟩
        refine rl_callF rfl en12 rfl (ctr12 F wk w.heap.size (un (inBlk (PV p136)) nb) c254.size (un_lt k150.ltp nbS) p15 v27 hd336 d216 x26 k29 h28 1000 y275 hy276) ?_
        rintro v340 w338 ⟨_, rfl, h341, c339⟩
        rw [← hS337] at h341
        have h341 := SlO.backR k_Service_pos h341 (un_lt k150.ltp (un_lt k29.ltp (un_lt h28.ltp nbS))) c254.size
        exact RL.nil ⟨_, rfl, c339, ⟨v340, rfl, h341⟩⟩
       refine Each.consS (fun fl O wk hE hN hO ck => ?_) ?_
       ·
        refine Need.o1 rfl rfl rfl (fun _ h => h) ?_
        refine Need.one rfl rfl rfl ?_
        rintro _ ⟨v277, e343, h278⟩
        obtain rfl := e343.symm
        refine RL.yes rfl rfl rfl hg295 ?_
        refine rl_lenR rfl h278 Tryd.underlying48 rfl ?_
        exact RL.nil ⟨_, rfl, Ch.refl, rfl⟩
       refine Each.consS (fun fl O wk hE hN hO ck => ?_) ?_
       ·
        refine Need.o1 rfl rfl rfl (fun _ h => h) ?_
        refine RL.yes rfl rfl rfl hg295 ?_
        refine rl_move rfl rfl ?_
        exact RL.nil ⟨_, rfl, Ch.refl, rfl⟩
       refine Each.consA ⟨fun _ _ _ _ _ cc hh => by obtain ⟨v285, e, h286⟩ := hh; exact ⟨v285, e, slRep.ch k_Service_pos h286 cc⟩, fun h => absurd rfl h, fun fl O wk hE hN hO ck => ?_⟩ ?_
       ·
        have h28 := h28.ch0 ck
        have k29 := k29.ch0 ck
        have k150 := k150.ch0 ck
        have c254 := c254.then0 ck
        refine Need.o1 rfl rfl rfl (fun _ h => h) ?_
        refine Need.o1 rfl rfl rfl (fun _ h => h) ?_
        refine RL.yes rfl rfl rfl hg295 ?_
        have hd347 : ∀ b, (un (inBlk (PV p15)) (inBlk v27)) b → ¬ (un (inBlk (PV p136)) nb) b := fun b h => un_el h (fun h => (fun b hb => fun h => un_el h (fun h => (disSym d214) b hb h) (fun h => h)) b h) (fun h => (fun b hb => fun h => un_el h (fun h => (disSym d215) b hb h) (fun h => h)) b h)
        have hS348 : (un (inBlk (PV p136)) (un (inBlk (PV p15)) (un (inBlk v27) nb))) = (un (inBlk (PV p15)) (un (inBlk v27) (un (inBlk (PV p136)) nb))) := funext fun b => propext ⟨fun h => un_el h (fun h => (.inr (.inr (.inl h)))) (fun h => un_el h (fun h => (.inl h)) (fun h => un_el h (fun h => (.inr (.inl h))) (fun h => False.elim h))), fun h => un_el h (fun h => (.inr (.inl h))) (fun h => un_el h (fun h => (.inr (.inr (.inl h)))) (fun h => un_el h (fun h => (.inl h)) (fun h => False.elim h)))⟩
        refine rl_callF rfl en11 rfl (ctr11 F wk w.heap.size (un (inBlk (PV p136)) nb) c254.size (un_lt k150.ltp nbS) p15 v27 hd347 d216 x26 k29 h28 y283 hy284) ?_
        rintro v351 w349 ⟨_, rfl, h352, c350⟩
        rw [← hS348] at h352
        have h352 := SlO.backR k_Service_pos h352 (un_lt k150.ltp (un_lt k29.ltp (un_lt h28.ltp nbS))) c254.size
        exact RL.nil ⟨_, rfl, c350, ⟨v351, rfl, h352⟩⟩
       refine Each.consS (fun fl O wk hE hN hO ck => ?_) ?_
       ·
        refine Need.o1 rfl rfl rfl (fun _ h => h) ?_
        refine Need.one rfl rfl rfl ?_
        rintro _ ⟨v285, e354, h286⟩
        obtain rfl := e354.symm
        refine RL.yes rfl rfl rfl hg295 ?_
        refine rl_lenR rfl h286 Tryd.underlying48 rfl ?_
        exact RL.nil ⟨_, rfl, Ch.refl, rfl⟩
       refine Each.consS (fun fl O wk hE hN hO ck => ?_) ?_
       ·
        refine Need.o1 rfl rfl rfl (fun _ h => h) ?_
        refine Need.o1 rfl rfl rfl (fun _ h => h) ?_
        refine Need.o1 rfl rfl rfl (fun _ h => h) ?_
        refine RL.yes rfl rfl rfl hg295 ?_
        refine rl_bin rfl rfl B.eql rfl ?_
        exact RL.nil ⟨_, rfl, Ch.refl, rfl⟩
       refine Each.consS (fun fl O wk hE hN hO ck => ?_) ?_
       ·
        refine Need.o1 rfl rfl rfl (fun _ h => h) ?_
        refine Need.o1 rfl rfl rfl (fun _ h => h) ?_
        refine rl_pickT rfl hg295 rfl rfl ?_
        exact RL.nil ⟨_, rfl, Ch.refl, congrArg Value.bool (Option.some.inj hs296)⟩
       trivial
      intro hvO362 OpO362 O362 w360 hO363 c361 hN364
      refine Need.o1 rfl rfl rfl (fun _ h => h) ?_
      refine rl_assign rfl rfl ?_
      exact RL.nil ⟨rfl, ⟨rfl, trivial⟩, c361⟩
     have hs366 := andO_f hg295 hb288
     refine CW.draw 30 [(none, fun fx O uu wx => uu = (Value.agg (Count.enc x149).toArray)), (none, fun fx O uu wx => uu = (PV p15)), (none, fun fx O uu wx => uu = (Value.agg (Count.enc y263).toArray)), (none, fun fx O uu wx => uu = (Value.bool (decide (x149 = y263)))), (none, fun fx O uu wx => uu = (Value.bool (decide (x149 = y263)))), (none, fun fx O uu wx => uu = (PV p136)), (none, fun fx O uu wx => uu = (Value.int .i64 x149.packets)), (none, fun fx O uu wx => uu = (Value.int .i64 x24)), (none, fun fx O uu wx => uu = (Value.bool (decide (x149.packets = x24)))), (none, fun fx O uu wx => uu = (Value.bool b265)), (none, fun fx O uu wx => uu = (Value.bool b265)), (none, fun fx O uu wx => uu = (Value.pointer (some ⟨p136, 1, none⟩))), (none, fun fx O uu wx => uu = (Value.int .i64 x149.bytes)), (none, fun fx O uu wx => uu = (Value.int .i64 x25)), (none, fun fx O uu wx => uu = (Value.bool (decide (x149.bytes = x25)))), (none, fun fx O uu wx => uu = (Value.bool b267)), (none, fun fx O uu wx => uu = (Value.bool b267)), (none, fun fx O uu wx => uu = (Value.int .i64 x213)), (none, fun fx O uu wx => uu = (Value.int .i64 x24)), (none, fun fx O uu wx => uu = (Value.bool (decide (x213 ≤ x24)))), (none, fun fx O uu wx => uu = (Value.bool b269)), (none, fun fx O uu wx => uu = (Value.bool b269)), (none, fun _ O uu wx => uu = undef), (none, fun _ O uu wx => uu = undef), (none, fun _ O uu wx => uu = undef), (none, fun _ O uu wx => uu = undef), (none, fun _ O uu wx => uu = undef), (none, fun _ O uu wx => uu = undef), (none, fun _ O uu wx => uu = undef), (none, fun fx O uu wx => uu = (Value.bool b287))] [[], [], [1], [0, 2], [3], [4], [4, 5], [4], [4, 6, 7], [4, 8], [9], [10], [10, 11], [10], [10, 12, 13], [10, 14], [15], [16], [16], [16, 17, 18], [16, 19], [20], [21], [21], [21], [21], [21], [21], [21], [21]] [29] nb (fun _ h => h.elim) mixed rfl rfl rfl rfl ?_ ?_
     ·
      refine Each.consS (fun fl O wk hE hN hO ck => ?_) ?_
      ·
       have k150 := k150.ch0 ck
       refine rl_loadA (cs := (Count.enc x149)) rfl Tryd.isAgg42 Tryd.sizeOf42 (k150.segAt 0 2) rfl rfl ?_
       exact RL.nil ⟨_, rfl, Ch.refl, rfl⟩
      refine Each.consS (fun fl O wk hE hN hO ck => ?_) ?_
      ·
       refine rl_move rfl rfl ?_
       exact RL.nil ⟨_, rfl, Ch.refl, rfl⟩
      refine Each.consS (fun fl O wk hE hN hO ck => ?_) ?_
      ·
       have h28 := h28.ch0 ck
       have k29 := k29.ch0 ck
       have k150 := k150.ch0 ck
       have c254 := c254.then0 ck
       refine Need.o1 rfl rfl rfl (fun _ h => h) ?_
       have hd368 : ∀ b, (un (inBlk (PV p15)) (inBlk v27)) b → ¬ (un (inBlk (PV p136)) nb) b := fun b h => un_el h (fun h => (fun b hb => fun h => un_el h (fun h => (disSym d214) b hb h) (fun h => h)) b h) (fun h => (fun b hb => fun h => un_el h (fun h => (disSym d215) b hb h) (fun h => h)) b h)
       refine rl_callF rfl en8 rfl (ctr8 F wk w.heap.size (un (inBlk (PV p136)) nb) c254.size (un_lt k150.ltp nbS) p15 v27 hd368 d216 x26 k29 h28 y263 hy264) ?_
       rintro _ w370 ⟨rfl, c371⟩
       exact RL.nil ⟨_, rfl, c371, rfl⟩
      refine Each.consS (fun fl O wk hE hN hO ck => ?_) ?_
      ·
       refine Need.o1 rfl rfl rfl (fun _ h => h) ?_
       refine Need.o1 rfl rfl rfl (fun _ h => h) ?_
       refine rl_bin rfl rfl (eql42 x149 y263) rfl ?_
       exact RL.nil ⟨_, rfl, Ch.refl, rfl⟩
      refine Each.consS (fun fl O wk hE hN hO ck => ?_) ?_
      ·
       refine Need.o1 rfl rfl rfl (fun _ h => h) ?_
       refine rl_move rfl rfl ?_
       exact RL.nil ⟨_, rfl, Ch.refl, rfl⟩
      refine Each.consS (fun fl O wk hE hN hO ck => ?_) ?_
      ·
       refine Need.o1 rfl rfl rfl (fun _ h => h) ?_
       refine RL.yes rfl rfl rfl hg289 ?_
       refine rl_fieldAddr rfl fa42_0 rfl ?_
       exact RL.nil ⟨_, rfl, Ch.refl, rfl⟩
      refine Each.consS (fun fl O wk hE hN hO ck => ?_) ?_
      ·
       have k150 := k150.ch0 ck
       refine Need.o1 rfl rfl rfl (fun _ h => h) ?_
       refine Need.o1 rfl rfl rfl (fun _ h => h) ?_
       refine RL.yes rfl rfl rfl hg289 ?_
       refine rl_loadS (v := (Value.int .i64 x149.packets)) rfl Tryd.isAgg3 (k150.cell rfl) rfl ?_
       exact RL.nil ⟨_, rfl, Ch.refl, rfl⟩
      refine Each.consS (fun fl O wk hE hN hO ck => ?_) ?_
      ·
       refine Need.o1 rfl rfl rfl (fun _ h => h) ?_
       refine RL.yes rfl rfl rfl hg289 ?_
       refine rl_move rfl rfl ?_
       exact RL.nil ⟨_, rfl, Ch.refl, rfl⟩
      refine Each.consS (fun fl O wk hE hN hO ck => ?_) ?_
      ·
       refine Need.o1 rfl rfl rfl (fun _ h => h) ?_
       refine Need.o1 rfl rfl rfl (fun _ h => h) ?_
       refine Need.o1 rfl rfl rfl (fun _ h => h) ?_
       refine RL.yes rfl rfl rfl hg289 ?_
       refine rl_bin rfl rfl B.eql rfl ?_
       exact RL.nil ⟨_, rfl, Ch.refl, rfl⟩
      refine Each.consS (fun fl O wk hE hN hO ck => ?_) ?_
      ·
       refine Need.o1 rfl rfl rfl (fun _ h => h) ?_
       refine Need.o1 rfl rfl rfl (fun _ h => h) ?_
       refine rl_pickT rfl hg289 rfl rfl ?_
       exact RL.nil ⟨_, rfl, Ch.refl, congrArg Value.bool hs290⟩
      refine Each.consS (fun fl O wk hE hN hO ck => ?_) ?_
      ·
       refine Need.o1 rfl rfl rfl (fun _ h => h) ?_
       refine rl_move rfl rfl ?_
       exact RL.nil ⟨_, rfl, Ch.refl, rfl⟩
      refine Each.consS (fun fl O wk hE hN hO ck => ?_) ?_
      ·
       refine Need.o1 rfl rfl rfl (fun _ h => h) ?_
       refine RL.yes rfl rfl rfl hg291 ?_
       refine rl_fieldAddr rfl fa42_1 rfl ?_
       exact RL.nil ⟨_, rfl, Ch.refl, rfl⟩
      refine Each.consS (fun fl O wk hE hN hO ck => ?_) ?_
      ·
       have k150 := k150.ch0 ck
       refine Need.o1 rfl rfl rfl (fun _ h => h) ?_
       refine Need.o1 rfl rfl rfl (fun _ h => h) ?_
       refine RL.yes rfl rfl rfl hg291 ?_
       refine rl_loadS (v := (Value.int .i64 x149.bytes)) rfl Tryd.isAgg3 (k150.cell rfl) rfl ?_
       exact RL.nil ⟨_, rfl, Ch.refl, rfl⟩
      refine Each.consS (fun fl O wk hE hN hO ck => ?_) ?_
      ·
       refine Need.o1 rfl rfl rfl (fun _ h => h) ?_
       refine RL.yes rfl rfl rfl hg291 ?_
       refine rl_move rfl rfl ?_
       exact RL.nil ⟨_, rfl, Ch.refl, rfl⟩
      refine Each.consS (fun fl O wk hE hN hO ck => ?_) ?_
      ·
       refine Need.o1 rfl rfl rfl (fun _ h => h) ?_
       refine Need.o1 rfl rfl rfl (fun _ h => h) ?_
       refine Need.o1 rfl rfl rfl (fun _ h => h) ?_
       refine RL.yes rfl rfl rfl hg291 ?_
       refine rl_bin rfl rfl B.eql rfl ?_
       exact RL.nil ⟨_, rfl, Ch.refl, rfl⟩
      refine Each.consS (fun fl O wk hE hN hO ck => ?_) ?_
      ·
       refine Need.o1 rfl rfl rfl (fun _ h => h) ?_
       refine Need.o1 rfl rfl rfl (fun _ h => h) ?_
       refine rl_pickT rfl hg291 rfl rfl ?_
       exact RL.nil ⟨_, rfl, Ch.refl, congrArg Value.bool hs292⟩
      refine Each.consS (fun fl O wk hE hN hO ck => ?_) ?_
      ·
       refine Need.o1 rfl rfl rfl (fun _ h => h) ?_
       refine rl_move rfl rfl ?_
       exact RL.nil ⟨_, rfl, Ch.refl, rfl⟩
      refine Each.consS (fun fl O wk hE hN hO ck => ?_) ?_
      ·
       refine Need.o1 rfl rfl rfl (fun _ h => h) ?_
       refine RL.yes rfl rfl rfl hg293 ?_
       refine rl_move rfl rfl ?_
       exact RL.nil ⟨_, rfl, Ch.refl, rfl⟩
      refine Each.consS (fun fl O wk hE hN hO ck => ?_) ?_
      ·
       refine Need.o1 rfl rfl rfl (fun _ h => h) ?_
       refine RL.yes rfl rfl rfl hg293 ?_
       refine rl_move rfl rfl ?_
       exact RL.nil ⟨_, rfl, Ch.refl, rfl⟩
      refine Each.consS (fun fl O wk hE hN hO ck => ?_) ?_
      ·
       refine Need.o1 rfl rfl rfl (fun _ h => h) ?_
       refine Need.o1 rfl rfl rfl (fun _ h => h) ?_
       refine Need.o1 rfl rfl rfl (fun _ h => h) ?_
       refine RL.yes rfl rfl rfl hg293 ?_
       refine rl_bin rfl rfl B.leq rfl ?_
       exact RL.nil ⟨_, rfl, Ch.refl, rfl⟩
      refine Each.consS (fun fl O wk hE hN hO ck => ?_) ?_
      ·
       refine Need.o1 rfl rfl rfl (fun _ h => h) ?_
       refine Need.o1 rfl rfl rfl (fun _ h => h) ?_
       refine rl_pickT rfl hg293 rfl rfl ?_
       exact RL.nil ⟨_, rfl, Ch.refl, congrArg Value.bool hs294⟩
      refine Each.consS (fun fl O wk hE hN hO ck => ?_) ?_
      ·
       refine Need.o1 rfl rfl rfl (fun _ h => h) ?_
       refine rl_move rfl rfl ?_
       exact RL.nil ⟨_, rfl, Ch.refl, rfl⟩
      refine Each.consS (fun fl O wk hE hN hO ck => ?_) ?_
      ·
       refine Need.o1 rfl rfl rfl (fun _ h => h) ?_
       refine RL.no rfl rfl rfl hg295 rfl rfl ?_
       exact RL.nil ⟨_, rfl, Ch.refl, rfl⟩
      refine Each.consS (fun fl O wk hE hN hO ck => ?_) ?_
      ·
       refine Need.o1 rfl rfl rfl (fun _ h => h) ?_
       refine RL.no rfl rfl rfl hg295 rfl rfl ?_
       exact RL.nil ⟨_, rfl, Ch.refl, rfl⟩
      refine Each.consS (fun fl O wk hE hN hO ck => ?_) ?_
      ·
       refine Need.o1 rfl rfl rfl (fun _ h => h) ?_
       refine RL.no rfl rfl rfl hg295 rfl rfl ?_
       exact RL.nil ⟨_, rfl, Ch.refl, rfl⟩
      refine Each.consS (fun fl O wk hE hN hO ck => ?_) ?_
      ·
       refine Need.o1 rfl rfl rfl (fun _ h => h) ?_
       refine RL.no rfl rfl rfl hg295 rfl rfl ?_
       exact RL.nil ⟨_, rfl, Ch.refl, rfl⟩
      refine Each.consS (fun fl O wk hE hN hO ck => ?_) ?_
      ·
       refine Need.o1 rfl rfl rfl (fun _ h => h) ?_
       refine RL.no rfl rfl rfl hg295 rfl rfl ?_
       exact RL.nil ⟨_, rfl, Ch.refl, rfl⟩
      refine Each.consS (fun fl O wk hE hN hO ck => ?_) ?_
      ·
       refine Need.o1 rfl rfl rfl (fun _ h => h) ?_
       refine RL.no rfl rfl rfl hg295 rfl rfl ?_
       exact RL.nil ⟨_, rfl, Ch.refl, rfl⟩
      refine Each.consS (fun fl O wk hE hN hO ck => ?_) ?_
      ·
       refine Need.o1 rfl rfl rfl (fun _ h => h) ?_
       refine RL.no rfl rfl rfl hg295 rfl rfl ?_
       exact RL.nil ⟨_, rfl, Ch.refl, rfl⟩
      refine Each.consS (fun fl O wk hE hN hO ck => ?_) ?_
      ·
       refine Need.o1 rfl rfl rfl (fun _ h => h) ?_
       refine rl_pickF rfl hg295 rfl rfl ?_
       exact RL.nil ⟨_, rfl, Ch.refl, congrArg Value.bool (Option.some.inj hs366)⟩
      trivial
     intro hvO413 OpO413 O413 w411 hO414 c412 hN415
     refine Need.o1 rfl rfl rfl (fun _ h => h) ?_
     refine rl_assign rfl rfl ?_
     exact RL.nil ⟨rfl, ⟨rfl, trivial⟩, c412⟩
    have hs417 := and_f hg293 hb270
    have hs418 := andO_f hs417.symm hb288
    refine CW.draw 30 [(none, fun fx O uu wx => uu = (Value.agg (Count.enc x149).toArray)), (none, fun fx O uu wx => uu = (PV p15)), (none, fun fx O uu wx => uu = (Value.agg (Count.enc y263).toArray)), (none, fun fx O uu wx => uu = (Value.bool (decide (x149 = y263)))), (none, fun fx O uu wx => uu = (Value.bool (decide (x149 = y263)))), (none, fun fx O uu wx => uu = (PV p136)), (none, fun fx O uu wx => uu = (Value.int .i64 x149.packets)), (none, fun fx O uu wx => uu = (Value.int .i64 x24)), (none, fun fx O uu wx => uu = (Value.bool (decide (x149.packets = x24)))), (none, fun fx O uu wx => uu = (Value.bool b265)), (none, fun fx O uu wx => uu = (Value.bool b265)), (none, fun fx O uu wx => uu = (Value.pointer (some ⟨p136, 1, none⟩))), (none, fun fx O uu wx => uu = (Value.int .i64 x149.bytes)), (none, fun fx O uu wx => uu = (Value.int .i64 x25)), (none, fun fx O uu wx => uu = (Value.bool (decide (x149.bytes = x25)))), (none, fun fx O uu wx => uu = (Value.bool b267)), (none, fun fx O uu wx => uu = (Value.bool b267)), (none, fun _ O uu wx => uu = undef), (none, fun _ O uu wx => uu = undef), (none, fun _ O uu wx => uu = undef), (none, fun fx O uu wx => uu = (Value.bool b269)), (none, fun fx O uu wx => uu = (Value.bool b269)), (none, fun _ O uu wx => uu = undef), (none, fun _ O uu wx => uu = undef), (none, fun _ O uu wx => uu = undef), (none, fun _ O uu wx => uu = undef), (none, fun _ O uu wx => uu = undef), (none, fun _ O uu wx => uu = undef), (none, fun _ O uu wx => uu = undef), (none, fun fx O uu wx => uu = (Value.bool b287))] [[], [], [1], [0, 2], [3], [4], [4, 5], [4], [4, 6, 7], [4, 8], [9], [10], [10, 11], [10], [10, 12, 13], [10, 14], [15], [16], [16], [16], [16], [20], [21], [21], [21], [21], [21], [21], [21], [21]] [29] nb (fun _ h => h.elim) mixed rfl rfl rfl rfl ?_ ?_
    ·
     refine Each.consS (fun fl O wk hE hN hO ck => ?_) ?_
     ·
      have k150 := k150.ch0 ck
      refine rl_loadA (cs := (Count.enc x149)) rfl Tryd.isAgg42 Tryd.sizeOf42 (k150.segAt 0 2) rfl rfl ?_
      exact RL.nil ⟨_, rfl, Ch.refl, rfl⟩
     refine Each.consS (fun fl O wk hE hN hO ck => ?_) ?_
     ·
      refine rl_move rfl rfl ?_
      exact RL.nil ⟨_, rfl, Ch.refl, rfl⟩
     refine Each.consS (fun fl O wk hE hN hO ck => ?_) ?_
     ·
      have h28 := h28.ch0 ck
      have k29 := k29.ch0 ck
      have k150 := k150.ch0 ck
      have c254 := c254.then0 ck
      refine Need.o1 rfl rfl rfl (fun _ h => h) ?_
      have hd420 : ∀ b, (un (inBlk (PV p15)) (inBlk v27)) b → ¬ (un (inBlk (PV p136)) nb) b := fun b h => un_el h (fun h => (fun b hb => fun h => un_el h (fun h => (disSym d214) b hb h) (fun h => h)) b h) (fun h => (fun b hb => fun h => un_el h (fun h => (disSym d215) b hb h) (fun h => h)) b h)
      refine rl_callF rfl en8 rfl (ctr8 F wk w.heap.size (un (inBlk (PV p136)) nb) c254.size (un_lt k150.ltp nbS) p15 v27 hd420 d216 x26 k29 h28 y263 hy264) ?_
      rintro _ w422 ⟨rfl, c423⟩
      exact RL.nil ⟨_, rfl, c423, rfl⟩
     refine Each.consS (fun fl O wk hE hN hO ck => ?_) ?_
     ·
      refine Need.o1 rfl rfl rfl (fun _ h => h) ?_
      refine Need.o1 rfl rfl rfl (fun _ h => h) ?_
      refine rl_bin rfl rfl (eql42 x149 y263) rfl ?_
      exact RL.nil ⟨_, rfl, Ch.refl, rfl⟩
     refine Each.consS (fun fl O wk hE hN hO ck => ?_) ?_
     ·
      refine Need.o1 rfl rfl rfl (fun _ h => h) ?_
      refine rl_move rfl rfl ?_
      exact RL.nil ⟨_, rfl, Ch.refl, rfl⟩
     refine Each.consS (fun fl O wk hE hN hO ck => ?_) ?_
     ·
      refine Need.o1 rfl rfl rfl (fun _ h => h) ?_
      refine RL.yes rfl rfl rfl hg289 ?_
      refine rl_fieldAddr rfl fa42_0 rfl ?_
      exact RL.nil ⟨_, rfl, Ch.refl, rfl⟩
     refine Each.consS (fun fl O wk hE hN hO ck => ?_) ?_
     ·
      have k150 := k150.ch0 ck
      refine Need.o1 rfl rfl rfl (fun _ h => h) ?_
      refine Need.o1 rfl rfl rfl (fun _ h => h) ?_
      refine RL.yes rfl rfl rfl hg289 ?_
      refine rl_loadS (v := (Value.int .i64 x149.packets)) rfl Tryd.isAgg3 (k150.cell rfl) rfl ?_
      exact RL.nil ⟨_, rfl, Ch.refl, rfl⟩
     refine Each.consS (fun fl O wk hE hN hO ck => ?_) ?_
     ·
      refine Need.o1 rfl rfl rfl (fun _ h => h) ?_
      refine RL.yes rfl rfl rfl hg289 ?_
      refine rl_move rfl rfl ?_
      exact RL.nil ⟨_, rfl, Ch.refl, rfl⟩
     refine Each.consS (fun fl O wk hE hN hO ck => ?_) ?_
     ·
      refine Need.o1 rfl rfl rfl (fun _ h => h) ?_
      refine Need.o1 rfl rfl rfl (fun _ h => h) ?_
      refine Need.o1 rfl rfl rfl (fun _ h => h) ?_
      refine RL.yes rfl rfl rfl hg289 ?_
      refine rl_bin rfl rfl B.eql rfl ?_
      exact RL.nil ⟨_, rfl, Ch.refl, rfl⟩
     refine Each.consS (fun fl O wk hE hN hO ck => ?_) ?_
     ·
      refine Need.o1 rfl rfl rfl (fun _ h => h) ?_
      refine Need.o1 rfl rfl rfl (fun _ h => h) ?_
      refine rl_pickT rfl hg289 rfl rfl ?_
      exact RL.nil ⟨_, rfl, Ch.refl, congrArg Value.bool hs290⟩
     refine Each.consS (fun fl O wk hE hN hO ck => ?_) ?_
     ·
      refine Need.o1 rfl rfl rfl (fun _ h => h) ?_
      refine rl_move rfl rfl ?_
      exact RL.nil ⟨_, rfl, Ch.refl, rfl⟩
     refine Each.consS (fun fl O wk hE hN hO ck => ?_) ?_
     ·
      refine Need.o1 rfl rfl rfl (fun _ h => h) ?_
      refine RL.yes rfl rfl rfl hg291 ?_
      refine rl_fieldAddr rfl fa42_1 rfl ?_
      exact RL.nil ⟨_, rfl, Ch.refl, rfl⟩
     refine Each.consS (fun fl O wk hE hN hO ck => ?_) ?_
     ·
      have k150 := k150.ch0 ck
      refine Need.o1 rfl rfl rfl (fun _ h => h) ?_
      refine Need.o1 rfl rfl rfl (fun _ h => h) ?_
      refine RL.yes rfl rfl rfl hg291 ?_
      refine rl_loadS (v := (Value.int .i64 x149.bytes)) rfl Tryd.isAgg3 (k150.cell rfl) rfl ?_
      exact RL.nil ⟨_, rfl, Ch.refl, rfl⟩
     refine Each.consS (fun fl O wk hE hN hO ck => ?_) ?_
     ·
      refine Need.o1 rfl rfl rfl (fun _ h => h) ?_
      refine RL.yes rfl rfl rfl hg291 ?_
      refine rl_move rfl rfl ?_
      exact RL.nil ⟨_, rfl, Ch.refl, rfl⟩
     refine Each.consS (fun fl O wk hE hN hO ck => ?_) ?_
     ·
      refine Need.o1 rfl rfl rfl (fun _ h => h) ?_
      refine Need.o1 rfl rfl rfl (fun _ h => h) ?_
      refine Need.o1 rfl rfl rfl (fun _ h => h) ?_
      refine RL.yes rfl rfl rfl hg291 ?_
      refine rl_bin rfl rfl B.eql rfl ?_
      exact RL.nil ⟨_, rfl, Ch.refl, rfl⟩
     refine Each.consS (fun fl O wk hE hN hO ck => ?_) ?_
     ·
      refine Need.o1 rfl rfl rfl (fun _ h => h) ?_
      refine Need.o1 rfl rfl rfl (fun _ h => h) ?_
      refine rl_pickT rfl hg291 rfl rfl ?_
      exact RL.nil ⟨_, rfl, Ch.refl, congrArg Value.bool hs292⟩
     refine Each.consS (fun fl O wk hE hN hO ck => ?_) ?_
     ·
      refine Need.o1 rfl rfl rfl (fun _ h => h) ?_
      refine rl_move rfl rfl ?_
      exact RL.nil ⟨_, rfl, Ch.refl, rfl⟩
     refine Each.consS (fun fl O wk hE hN hO ck => ?_) ?_
     ·
      refine Need.o1 rfl rfl rfl (fun _ h => h) ?_
      refine RL.no rfl rfl rfl hg293 rfl rfl ?_
      exact RL.nil ⟨_, rfl, Ch.refl, rfl⟩
     refine Each.consS (fun fl O wk hE hN hO ck => ?_) ?_
     ·
      refine Need.o1 rfl rfl rfl (fun _ h => h) ?_
      refine RL.no rfl rfl rfl hg293 rfl rfl ?_
      exact RL.nil ⟨_, rfl, Ch.refl, rfl⟩
     refine Each.consS (fun fl O wk hE hN hO ck => ?_) ?_
     ·
      refine Need.o1 rfl rfl rfl (fun _ h => h) ?_
      refine RL.no rfl rfl rfl hg293 rfl rfl ?_
      exact RL.nil ⟨_, rfl, Ch.refl, rfl⟩
     refine Each.consS (fun fl O wk hE hN hO ck => ?_) ?_
     ·
      refine Need.o1 rfl rfl rfl (fun _ h => h) ?_
      refine rl_pickF rfl hg293 rfl rfl ?_
      exact RL.nil ⟨_, rfl, Ch.refl, congrArg Value.bool hs417⟩
     refine Each.consS (fun fl O wk hE hN hO ck => ?_) ?_
     ·
      refine Need.o1 rfl rfl rfl (fun _ h => h) ?_
      refine rl_move rfl rfl ?_
      exact RL.nil ⟨_, rfl, Ch.refl, rfl⟩
     refine Each.consS (fun fl O wk hE hN hO ck => ?_) ?_
     ·
      refine Need.o1 rfl rfl rfl (fun _ h => h) ?_
      refine RL.no rfl rfl rfl hs417.symm rfl rfl ?_
      exact RL.nil ⟨_, rfl, Ch.refl, rfl⟩
     refine Each.consS (fun fl O wk hE hN hO ck => ?_) ?_
     ·
      refine Need.o1 rfl rfl rfl (fun _ h => h) ?_
      refine RL.no rfl rfl rfl hs417.symm rfl rfl ?_
      exact RL.nil ⟨_, rfl, Ch.refl, rfl⟩
     refine Each.consS (fun fl O wk hE hN hO ck => ?_) ?_
     ·
      refine Need.o1 rfl rfl rfl (fun _ h => h) ?_
      refine RL.no rfl rfl rfl hs417.symm rfl rfl ?_
      exact RL.nil ⟨_, rfl, Ch.refl, rfl⟩
     refine Each.consS (fun fl O wk hE hN hO ck => ?_) ?_
     ·
      refine Need.o1 rfl rfl rfl (fun _ h => h) ?_
      refine RL.no rfl rfl rfl hs417.symm rfl rfl ?_
      exact RL.nil ⟨_, rfl, Ch.refl, rfl⟩
     refine Each.consS (fun fl O wk hE hN hO ck => ?_) ?_
     ·
      refine Need.o1 rfl rfl rfl (fun _ h => h) ?_
      refine RL.no rfl rfl rfl hs417.symm rfl rfl ?_
      exact RL.nil ⟨_, rfl, Ch.refl, rfl⟩
     refine Each.consS (fun fl O wk hE hN hO ck => ?_) ?_
     ·
      refine Need.o1 rfl rfl rfl (fun _ h => h) ?_
      refine RL.no rfl rfl rfl hs417.symm rfl rfl ?_
      exact RL.nil ⟨_, rfl, Ch.refl, rfl⟩
     refine Each.consS (fun fl O wk hE hN hO ck => ?_) ?_
     ·
      refine Need.o1 rfl rfl rfl (fun _ h => h) ?_
      refine RL.no rfl rfl rfl hs417.symm rfl rfl ?_
      exact RL.nil ⟨_, rfl, Ch.refl, rfl⟩
     refine Each.consS (fun fl O wk hE hN hO ck => ?_) ?_
     ·
      refine Need.o1 rfl rfl rfl (fun _ h => h) ?_
      refine rl_pickF rfl hs417.symm rfl rfl ?_
      exact RL.nil ⟨_, rfl, Ch.refl, congrArg Value.bool (Option.some.inj hs418)⟩
     trivial
    intro hvO462 OpO462 O462 w460 hO463 c461 hN464
    refine Need.o1 rfl rfl rfl (fun _ h => h) ?_
    refine rl_assign rfl rfl ?_
    exact RL.nil ⟨rfl, ⟨rfl, trivial⟩, c461⟩
   have hs466 := and_f hg291 hb268
   have hs467 := and_f hs466.symm hb270
   have hs468 := andO_f hs467.symm hb288
   refine CW.draw 30 [(none, fun fx O uu wx => uu = (Value.agg (Count.enc x149).toArray)), (none, fun fx O uu wx => uu = (PV p15)), (none, fun fx O uu wx => uu = (Value.agg (Count.enc y263).toArray)), (none, fun fx O uu wx => uu = (Value.bool (decide (x149 = y263)))), (none, fun fx O uu wx => uu = (Value.bool (decide (x149 = y263)))), (none, fun fx O uu wx => uu = (PV p136)), (none, fun fx O uu wx => uu = (Value.int .i64 x149.packets)), (none, fun fx O uu wx => uu = (Value.int .i64 x24)), (none, fun fx O uu wx => uu = (Value.bool (decide (x149.packets = x24)))), (none, fun fx O uu wx => uu = (Value.bool b265)), (none, fun fx O uu wx => uu = (Value.bool b265)), (none, fun _ O uu wx => uu = undef), (none, fun _ O uu wx => uu = undef), (none, fun _ O uu wx => uu = undef), (none, fun _ O uu wx => uu = undef), (none, fun fx O uu wx => uu = (Value.bool b267)), (none, fun fx O uu wx => uu = (Value.bool b267)), (none, fun _ O uu wx => uu = undef), (none, fun _ O uu wx => uu = undef), (none, fun _ O uu wx => uu = undef), (none, fun fx O uu wx => uu = (Value.bool b269)), (none, fun fx O uu wx => uu = (Value.bool b269)), (none, fun _ O uu wx => uu = undef), (none, fun _ O uu wx => uu = undef), (none, fun _ O uu wx => uu = undef), (none, fun _ O uu wx => uu = undef), (none, fun _ O uu wx => uu = undef), (none, fun _ O uu wx => uu = undef), (none, fun _ O uu wx => uu = undef), (none, fun fx O uu wx => uu = (Value.bool b287))] [[], [], [1], [0, 2], [3], [4], [4, 5], [4], [4, 6, 7], [4, 8], [9], [10], [10], [10], [10], [10], [15], [16], [16], [16], [16], [20], [21], [21], [21], [21], [21], [21], [21], [21]] [29] nb (fun _ h => h.elim) mixed rfl rfl rfl rfl ?_ ?_
   ·
    refine Each.consS (fun fl O wk hE hN hO ck => ?_) ?_
    ·
     have k150 := k150.ch0 ck
     refine rl_loadA (cs := (Count.enc x149)) rfl Tryd.isAgg42 Tryd.sizeOf42 (k150.segAt 0 2) rfl rfl ?_
     exact RL.nil ⟨_, rfl, Ch.refl, rfl⟩
    refine Each.consS (fun fl O wk hE hN hO ck => ?_) ?_
    ·
     refine rl_move rfl rfl ?_
     exact RL.nil ⟨_, rfl, Ch.refl, rfl⟩
    refine Each.consS (fun fl O wk hE hN hO ck => ?_) ?_
    ·
     have h28 := h28.ch0 ck
     have k29 := k29.ch0 ck
     have k150 := k150.ch0 ck
     have c254 := c254.then0 ck
     refine Need.o1 rfl rfl rfl (fun _ h => h) ?_
     have hd470 : ∀ b, (un (inBlk (PV p15)) (inBlk v27)) b → ¬ (un (inBlk (PV p136)) nb) b := fun b h => un_el h (fun h => (fun b hb => fun h => un_el h (fun h => (disSym d214) b hb h) (fun h => h)) b h) (fun h => (fun b hb => fun h => un_el h (fun h => (disSym d215) b hb h) (fun h => h)) b h)
     refine rl_callF rfl en8 rfl (ctr8 F wk w.heap.size (un (inBlk (PV p136)) nb) c254.size (un_lt k150.ltp nbS) p15 v27 hd470 d216 x26 k29 h28 y263 hy264) ?_
     rintro _ w472 ⟨rfl, c473⟩
     exact RL.nil ⟨_, rfl, c473, rfl⟩
    refine Each.consS (fun fl O wk hE hN hO ck => ?_) ?_
    ·
     refine Need.o1 rfl rfl rfl (fun _ h => h) ?_
     refine Need.o1 rfl rfl rfl (fun _ h => h) ?_
     refine rl_bin rfl rfl (eql42 x149 y263) rfl ?_
     exact RL.nil ⟨_, rfl, Ch.refl, rfl⟩
    refine Each.consS (fun fl O wk hE hN hO ck => ?_) ?_
    ·
     refine Need.o1 rfl rfl rfl (fun _ h => h) ?_
     refine rl_move rfl rfl ?_
     exact RL.nil ⟨_, rfl, Ch.refl, rfl⟩
    refine Each.consS (fun fl O wk hE hN hO ck => ?_) ?_
    ·
     refine Need.o1 rfl rfl rfl (fun _ h => h) ?_
     refine RL.yes rfl rfl rfl hg289 ?_
     refine rl_fieldAddr rfl fa42_0 rfl ?_
     exact RL.nil ⟨_, rfl, Ch.refl, rfl⟩
    refine Each.consS (fun fl O wk hE hN hO ck => ?_) ?_
    ·
     have k150 := k150.ch0 ck
     refine Need.o1 rfl rfl rfl (fun _ h => h) ?_
     refine Need.o1 rfl rfl rfl (fun _ h => h) ?_
     refine RL.yes rfl rfl rfl hg289 ?_
     refine rl_loadS (v := (Value.int .i64 x149.packets)) rfl Tryd.isAgg3 (k150.cell rfl) rfl ?_
     exact RL.nil ⟨_, rfl, Ch.refl, rfl⟩
    refine Each.consS (fun fl O wk hE hN hO ck => ?_) ?_
    ·
     refine Need.o1 rfl rfl rfl (fun _ h => h) ?_
     refine RL.yes rfl rfl rfl hg289 ?_
     refine rl_move rfl rfl ?_
     exact RL.nil ⟨_, rfl, Ch.refl, rfl⟩
    refine Each.consS (fun fl O wk hE hN hO ck => ?_) ?_
    ·
     refine Need.o1 rfl rfl rfl (fun _ h => h) ?_
     refine Need.o1 rfl rfl rfl (fun _ h => h) ?_
     refine Need.o1 rfl rfl rfl (fun _ h => h) ?_
     refine RL.yes rfl rfl rfl hg289 ?_
     refine rl_bin rfl rfl B.eql rfl ?_
     exact RL.nil ⟨_, rfl, Ch.refl, rfl⟩
    refine Each.consS (fun fl O wk hE hN hO ck => ?_) ?_
    ·
     refine Need.o1 rfl rfl rfl (fun _ h => h) ?_
     refine Need.o1 rfl rfl rfl (fun _ h => h) ?_
     refine rl_pickT rfl hg289 rfl rfl ?_
     exact RL.nil ⟨_, rfl, Ch.refl, congrArg Value.bool hs290⟩
    refine Each.consS (fun fl O wk hE hN hO ck => ?_) ?_
    ·
     refine Need.o1 rfl rfl rfl (fun _ h => h) ?_
     refine rl_move rfl rfl ?_
     exact RL.nil ⟨_, rfl, Ch.refl, rfl⟩
    refine Each.consS (fun fl O wk hE hN hO ck => ?_) ?_
    ·
     refine Need.o1 rfl rfl rfl (fun _ h => h) ?_
     refine RL.no rfl rfl rfl hg291 rfl rfl ?_
     exact RL.nil ⟨_, rfl, Ch.refl, rfl⟩
    refine Each.consS (fun fl O wk hE hN hO ck => ?_) ?_
    ·
     refine Need.o1 rfl rfl rfl (fun _ h => h) ?_
     refine RL.no rfl rfl rfl hg291 rfl rfl ?_
     exact RL.nil ⟨_, rfl, Ch.refl, rfl⟩
    refine Each.consS (fun fl O wk hE hN hO ck => ?_) ?_
    ·
     refine Need.o1 rfl rfl rfl (fun _ h => h) ?_
     refine RL.no rfl rfl rfl hg291 rfl rfl ?_
     exact RL.nil ⟨_, rfl, Ch.refl, rfl⟩
    refine Each.consS (fun fl O wk hE hN hO ck => ?_) ?_
    ·
     refine Need.o1 rfl rfl rfl (fun _ h => h) ?_
     refine RL.no rfl rfl rfl hg291 rfl rfl ?_
     exact RL.nil ⟨_, rfl, Ch.refl, rfl⟩
    refine Each.consS (fun fl O wk hE hN hO ck => ?_) ?_
    ·
     refine Need.o1 rfl rfl rfl (fun _ h => h) ?_
     refine rl_pickF rfl hg291 rfl rfl ?_
     exact RL.nil ⟨_, rfl, Ch.refl, congrArg Value.bool hs466⟩
    refine Each.consS (fun fl O wk hE hN hO ck => ?_) ?_
    ·
     refine Need.o1 rfl rfl rfl (fun _ h => h) ?_
     refine rl_move rfl rfl ?_
     exact RL.nil ⟨_, rfl, Ch.refl, rfl⟩
    refine Each.consS (fun fl O wk hE hN hO ck => ?_) ?_
    ·
     refine Need.o1 rfl rfl rfl (fun _ h => h) ?_
     refine RL.no rfl rfl rfl hs466.symm rfl rfl ?_
     exact RL.nil ⟨_, rfl, Ch.refl, rfl⟩
    refine Each.consS (fun fl O wk hE hN hO ck => ?_) ?_
    ·
     refine Need.o1 rfl rfl rfl (fun _ h => h) ?_
     refine RL.no rfl rfl rfl hs466.symm rfl rfl ?_
     exact RL.nil ⟨_, rfl, Ch.refl, rfl⟩
    refine Each.consS (fun fl O wk hE hN hO ck => ?_) ?_
    ·
     refine Need.o1 rfl rfl rfl (fun _ h => h) ?_
     refine RL.no rfl rfl rfl hs466.symm rfl rfl ?_
     exact RL.nil ⟨_, rfl, Ch.refl, rfl⟩
    refine Each.consS (fun fl O wk hE hN hO ck => ?_) ?_
    ·
     refine Need.o1 rfl rfl rfl (fun _ h => h) ?_
     refine rl_pickF rfl hs466.symm rfl rfl ?_
     exact RL.nil ⟨_, rfl, Ch.refl, congrArg Value.bool hs467⟩
    refine Each.consS (fun fl O wk hE hN hO ck => ?_) ?_
    ·
     refine Need.o1 rfl rfl rfl (fun _ h => h) ?_
     refine rl_move rfl rfl ?_
     exact RL.nil ⟨_, rfl, Ch.refl, rfl⟩
    refine Each.consS (fun fl O wk hE hN hO ck => ?_) ?_
    ·
     refine Need.o1 rfl rfl rfl (fun _ h => h) ?_
     refine RL.no rfl rfl rfl hs467.symm rfl rfl ?_
     exact RL.nil ⟨_, rfl, Ch.refl, rfl⟩
    refine Each.consS (fun fl O wk hE hN hO ck => ?_) ?_
    ·
     refine Need.o1 rfl rfl rfl (fun _ h => h) ?_
     refine RL.no rfl rfl rfl hs467.symm rfl rfl ?_
     exact RL.nil ⟨_, rfl, Ch.refl, rfl⟩
    refine Each.consS (fun fl O wk hE hN hO ck => ?_) ?_
    ·
     refine Need.o1 rfl rfl rfl (fun _ h => h) ?_
     refine RL.no rfl rfl rfl hs467.symm rfl rfl ?_
     exact RL.nil ⟨_, rfl, Ch.refl, rfl⟩
    refine Each.consS (fun fl O wk hE hN hO ck => ?_) ?_
    ·
     refine Need.o1 rfl rfl rfl (fun _ h => h) ?_
     refine RL.no rfl rfl rfl hs467.symm rfl rfl ?_
     exact RL.nil ⟨_, rfl, Ch.refl, rfl⟩
    refine Each.consS (fun fl O wk hE hN hO ck => ?_) ?_
    ·
     refine Need.o1 rfl rfl rfl (fun _ h => h) ?_
     refine RL.no rfl rfl rfl hs467.symm rfl rfl ?_
     exact RL.nil ⟨_, rfl, Ch.refl, rfl⟩
    refine Each.consS (fun fl O wk hE hN hO ck => ?_) ?_
    ·
     refine Need.o1 rfl rfl rfl (fun _ h => h) ?_
     refine RL.no rfl rfl rfl hs467.symm rfl rfl ?_
     exact RL.nil ⟨_, rfl, Ch.refl, rfl⟩
    refine Each.consS (fun fl O wk hE hN hO ck => ?_) ?_
    ·
     refine Need.o1 rfl rfl rfl (fun _ h => h) ?_
     refine RL.no rfl rfl rfl hs467.symm rfl rfl ?_
     exact RL.nil ⟨_, rfl, Ch.refl, rfl⟩
    refine Each.consS (fun fl O wk hE hN hO ck => ?_) ?_
    ·
     refine Need.o1 rfl rfl rfl (fun _ h => h) ?_
     refine rl_pickF rfl hs467.symm rfl rfl ?_
     exact RL.nil ⟨_, rfl, Ch.refl, congrArg Value.bool (Option.some.inj hs468)⟩
    trivial
   intro hvO508 OpO508 O508 w506 hO509 c507 hN510
   refine Need.o1 rfl rfl rfl (fun _ h => h) ?_
   refine rl_assign rfl rfl ?_
   exact RL.nil ⟨rfl, ⟨rfl, trivial⟩, c507⟩
  have hs512 := and_f hg289 hb266
  have hs513 := and_f hs512.symm hb268
  have hs514 := and_f hs513.symm hb270
  have hs515 := andO_f hs514.symm hb288
  refine CW.draw 30 [(none, fun fx O uu wx => uu = (Value.agg (Count.enc x149).toArray)), (none, fun fx O uu wx => uu = (PV p15)), (none, fun fx O uu wx => uu = (Value.agg (Count.enc y263).toArray)), (none, fun fx O uu wx => uu = (Value.bool (decide (x149 = y263)))), (none, fun fx O uu wx => uu = (Value.bool (decide (x149 = y263)))), (none, fun _ O uu wx => uu = undef), (none, fun _ O uu wx => uu = undef), (none, fun _ O uu wx => uu = undef), (none, fun _ O uu wx => uu = undef), (none, fun fx O uu wx => uu = (Value.bool b265)), (none, fun fx O uu wx => uu = (Value.bool b265)), (none, fun _ O uu wx => uu = undef), (none, fun _ O uu wx => uu = undef), (none, fun _ O uu wx => uu = undef), (none, fun _ O uu wx => uu = undef), (none, fun fx O uu wx => uu = (Value.bool b267)), (none, fun fx O uu wx => uu = (Value.bool b267)), (none, fun _ O uu wx => uu = undef), (none, fun _ O uu wx => uu = undef), (none, fun _ O uu wx => uu = undef), (none, fun fx O uu wx => uu = (Value.bool b269)), (none, fun fx O uu wx => uu = (Value.bool b269)), (none, fun _ O uu wx => uu = undef), (none, fun _ O uu wx => uu = undef), (none, fun _ O uu wx => uu = undef), (none, fun _ O uu wx => uu = undef), (none, fun _ O uu wx => uu = undef), (none, fun _ O uu wx => uu = undef), (none, fun _ O uu wx => uu = undef), (none, fun fx O uu wx => uu = (Value.bool b287))] [[], [], [1], [0, 2], [3], [4], [4], [4], [4], [4], [9], [10], [10], [10], [10], [10], [15], [16], [16], [16], [16], [20], [21], [21], [21], [21], [21], [21], [21], [21]] [29] nb (fun _ h => h.elim) mixed rfl rfl rfl rfl ?_ ?_
  ·
   refine Each.consS (fun fl O wk hE hN hO ck => ?_) ?_
   ·
    have k150 := k150.ch0 ck
    refine rl_loadA (cs := (Count.enc x149)) rfl Tryd.isAgg42 Tryd.sizeOf42 (k150.segAt 0 2) rfl rfl ?_
    exact RL.nil ⟨_, rfl, Ch.refl, rfl⟩
   refine Each.consS (fun fl O wk hE hN hO ck => ?_) ?_
   ·
    refine rl_move rfl rfl ?_
    exact RL.nil ⟨_, rfl, Ch.refl, rfl⟩
   refine Each.consS (fun fl O wk hE hN hO ck => ?_) ?_
   ·
    have h28 := h28.ch0 ck
    have k29 := k29.ch0 ck
    have k150 := k150.ch0 ck
    have c254 := c254.then0 ck
    refine Need.o1 rfl rfl rfl (fun _ h => h) ?_
    have hd517 : ∀ b, (un (inBlk (PV p15)) (inBlk v27)) b → ¬ (un (inBlk (PV p136)) nb) b := fun b h => un_el h (fun h => (fun b hb => fun h => un_el h (fun h => (disSym d214) b hb h) (fun h => h)) b h) (fun h => (fun b hb => fun h => un_el h (fun h => (disSym d215) b hb h) (fun h => h)) b h)
    refine rl_callF rfl en8 rfl (ctr8 F wk w.heap.size (un (inBlk (PV p136)) nb) c254.size (un_lt k150.ltp nbS) p15 v27 hd517 d216 x26 k29 h28 y263 hy264) ?_
    rintro _ w519 ⟨rfl, c520⟩
    exact RL.nil ⟨_, rfl, c520, rfl⟩
   refine Each.consS (fun fl O wk hE hN hO ck => ?_) ?_
   ·
    refine Need.o1 rfl rfl rfl (fun _ h => h) ?_
    refine Need.o1 rfl rfl rfl (fun _ h => h) ?_
    refine rl_bin rfl rfl (eql42 x149 y263) rfl ?_
    exact RL.nil ⟨_, rfl, Ch.refl, rfl⟩
   refine Each.consS (fun fl O wk hE hN hO ck => ?_) ?_
   ·
    refine Need.o1 rfl rfl rfl (fun _ h => h) ?_
    refine rl_move rfl rfl ?_
    exact RL.nil ⟨_, rfl, Ch.refl, rfl⟩
   refine Each.consS (fun fl O wk hE hN hO ck => ?_) ?_
   ·
    refine Need.o1 rfl rfl rfl (fun _ h => h) ?_
    refine RL.no rfl rfl rfl hg289 rfl rfl ?_
    exact RL.nil ⟨_, rfl, Ch.refl, rfl⟩
   refine Each.consS (fun fl O wk hE hN hO ck => ?_) ?_
   ·
    refine Need.o1 rfl rfl rfl (fun _ h => h) ?_
    refine RL.no rfl rfl rfl hg289 rfl rfl ?_
    exact RL.nil ⟨_, rfl, Ch.refl, rfl⟩
   refine Each.consS (fun fl O wk hE hN hO ck => ?_) ?_
   ·
    refine Need.o1 rfl rfl rfl (fun _ h => h) ?_
    refine RL.no rfl rfl rfl hg289 rfl rfl ?_
    exact RL.nil ⟨_, rfl, Ch.refl, rfl⟩
   refine Each.consS (fun fl O wk hE hN hO ck => ?_) ?_
   ·
    refine Need.o1 rfl rfl rfl (fun _ h => h) ?_
    refine RL.no rfl rfl rfl hg289 rfl rfl ?_
    exact RL.nil ⟨_, rfl, Ch.refl, rfl⟩
   refine Each.consS (fun fl O wk hE hN hO ck => ?_) ?_
   ·
    refine Need.o1 rfl rfl rfl (fun _ h => h) ?_
    refine rl_pickF rfl hg289 rfl rfl ?_
    exact RL.nil ⟨_, rfl, Ch.refl, congrArg Value.bool hs512⟩
   refine Each.consS (fun fl O wk hE hN hO ck => ?_) ?_
   ·
    refine Need.o1 rfl rfl rfl (fun _ h => h) ?_
    refine rl_move rfl rfl ?_
    exact RL.nil ⟨_, rfl, Ch.refl, rfl⟩
   refine Each.consS (fun fl O wk hE hN hO ck => ?_) ?_
   ·
    refine Need.o1 rfl rfl rfl (fun _ h => h) ?_
    refine RL.no rfl rfl rfl hs512.symm rfl rfl ?_
    exact RL.nil ⟨_, rfl, Ch.refl, rfl⟩
   refine Each.consS (fun fl O wk hE hN hO ck => ?_) ?_
   ·
    refine Need.o1 rfl rfl rfl (fun _ h => h) ?_
    refine RL.no rfl rfl rfl hs512.symm rfl rfl ?_
    exact RL.nil ⟨_, rfl, Ch.refl, rfl⟩
   refine Each.consS (fun fl O wk hE hN hO ck => ?_) ?_
   ·
    refine Need.o1 rfl rfl rfl (fun _ h => h) ?_
    refine RL.no rfl rfl rfl hs512.symm rfl rfl ?_
    exact RL.nil ⟨_, rfl, Ch.refl, rfl⟩
   refine Each.consS (fun fl O wk hE hN hO ck => ?_) ?_
   ·
    refine Need.o1 rfl rfl rfl (fun _ h => h) ?_
    refine RL.no rfl rfl rfl hs512.symm rfl rfl ?_
    exact RL.nil ⟨_, rfl, Ch.refl, rfl⟩
   refine Each.consS (fun fl O wk hE hN hO ck => ?_) ?_
   ·
    refine Need.o1 rfl rfl rfl (fun _ h => h) ?_
    refine rl_pickF rfl hs512.symm rfl rfl ?_
    exact RL.nil ⟨_, rfl, Ch.refl, congrArg Value.bool hs513⟩
   refine Each.consS (fun fl O wk hE hN hO ck => ?_) ?_
   ·
    refine Need.o1 rfl rfl rfl (fun _ h => h) ?_
    refine rl_move rfl rfl ?_
    exact RL.nil ⟨_, rfl, Ch.refl, rfl⟩
   refine Each.consS (fun fl O wk hE hN hO ck => ?_) ?_
   ·
    refine Need.o1 rfl rfl rfl (fun _ h => h) ?_
    refine RL.no rfl rfl rfl hs513.symm rfl rfl ?_
    exact RL.nil ⟨_, rfl, Ch.refl, rfl⟩
   refine Each.consS (fun fl O wk hE hN hO ck => ?_) ?_
   ·
    refine Need.o1 rfl rfl rfl (fun _ h => h) ?_
    refine RL.no rfl rfl rfl hs513.symm rfl rfl ?_
    exact RL.nil ⟨_, rfl, Ch.refl, rfl⟩
   refine Each.consS (fun fl O wk hE hN hO ck => ?_) ?_
   ·
    refine Need.o1 rfl rfl rfl (fun _ h => h) ?_
    refine RL.no rfl rfl rfl hs513.symm rfl rfl ?_
    exact RL.nil ⟨_, rfl, Ch.refl, rfl⟩
   refine Each.consS (fun fl O wk hE hN hO ck => ?_) ?_
   ·
    refine Need.o1 rfl rfl rfl (fun _ h => h) ?_
    refine rl_pickF rfl hs513.symm rfl rfl ?_
    exact RL.nil ⟨_, rfl, Ch.refl, congrArg Value.bool hs514⟩
   refine Each.consS (fun fl O wk hE hN hO ck => ?_) ?_
   ·
    refine Need.o1 rfl rfl rfl (fun _ h => h) ?_
    refine rl_move rfl rfl ?_
    exact RL.nil ⟨_, rfl, Ch.refl, rfl⟩
   refine Each.consS (fun fl O wk hE hN hO ck => ?_) ?_
   ·
    refine Need.o1 rfl rfl rfl (fun _ h => h) ?_
    refine RL.no rfl rfl rfl hs514.symm rfl rfl ?_
    exact RL.nil ⟨_, rfl, Ch.refl, rfl⟩
   refine Each.consS (fun fl O wk hE hN hO ck => ?_) ?_
   ·
    refine Need.o1 rfl rfl rfl (fun _ h => h) ?_
    refine RL.no rfl rfl rfl hs514.symm rfl rfl ?_
    exact RL.nil ⟨_, rfl, Ch.refl, rfl⟩
   refine Each.consS (fun fl O wk hE hN hO ck => ?_) ?_
   ·
    refine Need.o1 rfl rfl rfl (fun _ h => h) ?_
    refine RL.no rfl rfl rfl hs514.symm rfl rfl ?_
    exact RL.nil ⟨_, rfl, Ch.refl, rfl⟩
   refine Each.consS (fun fl O wk hE hN hO ck => ?_) ?_
   ·
    refine Need.o1 rfl rfl rfl (fun _ h => h) ?_
    refine RL.no rfl rfl rfl hs514.symm rfl rfl ?_
    exact RL.nil ⟨_, rfl, Ch.refl, rfl⟩
   refine Each.consS (fun fl O wk hE hN hO ck => ?_) ?_
   ·
    refine Need.o1 rfl rfl rfl (fun _ h => h) ?_
    refine RL.no rfl rfl rfl hs514.symm rfl rfl ?_
    exact RL.nil ⟨_, rfl, Ch.refl, rfl⟩
   refine Each.consS (fun fl O wk hE hN hO ck => ?_) ?_
   ·
    refine Need.o1 rfl rfl rfl (fun _ h => h) ?_
    refine RL.no rfl rfl rfl hs514.symm rfl rfl ?_
    exact RL.nil ⟨_, rfl, Ch.refl, rfl⟩
   refine Each.consS (fun fl O wk hE hN hO ck => ?_) ?_
   ·
    refine Need.o1 rfl rfl rfl (fun _ h => h) ?_
    refine RL.no rfl rfl rfl hs514.symm rfl rfl ?_
    exact RL.nil ⟨_, rfl, Ch.refl, rfl⟩
   refine Each.consS (fun fl O wk hE hN hO ck => ?_) ?_
   ·
    refine Need.o1 rfl rfl rfl (fun _ h => h) ?_
    refine rl_pickF rfl hs514.symm rfl rfl ?_
    exact RL.nil ⟨_, rfl, Ch.refl, congrArg Value.bool (Option.some.inj hs515)⟩
   trivial
  intro hvO551 OpO551 O551 w549 hO552 c550 hN553
  refine Need.o1 rfl rfl rfl (fun _ h => h) ?_
  refine rl_assign rfl rfl ?_
  exact RL.nil ⟨rfl, ⟨rfl, trivial⟩, c550⟩
 rintro _ w556 ⟨hE555, c557⟩
 have c254 := c254.then0 c557
 refine thn_n (CW.sub [(2, (Value.bool b287))] hE555 ?_)
 refine CW.ret ?_
 obtain rfl := Option.some.inj hS
 exact ret1 rfl ⟨rfl, c254⟩
end Go.Proofs.YtkfhcfkbaaekoaaDoor
