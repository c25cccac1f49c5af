/- The walks through the code: each call comes to its printed function. Written by a program of this session. -/
import Derived.Test.YtkfhcfkbaaekoaaDoorM
import Derived.Test.YtkfhcfkbaaekoaaDoorL
import Derived.Test.YtkfhcfkbaaekoaaDoorNI
import Derived.Test.YtkfhcfkbaaekoaaDoorW4
namespace Go.Proofs.YtkfhcfkbaaekoaaDoor
open Go K
set_option linter.unusedVariables false
set_option maxHeartbeats 4000000
theorem ctr4 (F : Nat → Prop) (w : World) (a0 : (List Act)) (av0 : Value) (ah0 : slRep k_Act F w a0 av0) (ge : Nat → Value) (gl : (kGL 156 18).rep F w ge [Value.bool true]) (r : Bool) (hs : F4_StatsPla a0 = some r) :
    Ret Tryd.prog 4 #[av0] w fun v w' => v = (Value.bool r) ∧ Ch nb w w' := by
 have hS := hs
 have c0 : Ch nb w w := Ch.refl
 have ah0 := slRep.enter k_Act_pos ah0
 have gl := Kd.enter gl
 refine Ret.of (n := 113) (args := [_]) (rs := [.tmp 2]) Tryd.func4 rfl rfl rfl rfl ?_
 refine CW.seq (CW.region ?_)
 refine rl_assign rfl rfl ?_
 refine RL.nil (thn_n (CW.seq ?_))
 refine CW.seq (CW.region ?_)
 obtain ⟨y3, hy4, hS⟩ := bindS hS
 refine rl_callF rfl en5 rfl (ctr5 (G F w.heap.size nb) w ge gl y3 hy4) ?_
 rintro _ w1 ⟨rfl, c2⟩
 have ah0 := slRep.ch k_Act_pos ah0 c2
 have gl := Kd.ch gl c2
 have c0 := c0.then0 c2
 refine rl_not rfl rfl ?_
 refine RL.nil (thn_n ?_)
 refine CW.cond (t := !y3) rfl (fun q5 => ?_) (fun q5 => ?_)
 ·
  have hS := ifT q5 hS
  refine CW.seq (CW.region ?_)
  refine rl_assign rfl rfl ?_
  refine RL.nil (thn_n (CW.ret ?_))
  refine thn_ret ?_
  obtain rfl := Option.some.inj hS
  exact ret1 rfl ⟨rfl, c0⟩
 have hS := ifF q5 hS
 refine CW.skip ?_
 refine thn_n (CW.seq ?_)
 refine CW.seq (CW.region ?_)
 refine rl_move rfl rfl ?_
 obtain ⟨y8, hy9⟩ : ∃ y, F6_Long a0 = y := ⟨_, rfl⟩
 have hS := ltS hy9 hS
 refine rl_callF rfl en6 rfl (ctr6 (G F w.heap.size nb) w1 a0 av0 ah0 y8 hy9) ?_
 rintro _ w6 ⟨rfl, c7⟩
 have ah0 := slRep.ch k_Act_pos ah0 c7
 have gl := Kd.ch gl c7
 have c0 := c0.then0 c7
 refine RL.nil (thn_n ?_)
 refine CW.cond (t := y8) rfl (fun q10 => ?_) (fun q10 => ?_)
 ·
  have hS := ifT q10 hS
  refine CW.seq (CW.region ?_)
  refine rl_assign rfl rfl ?_
  refine RL.nil (thn_n (CW.ret ?_))
  refine thn_ret ?_
  obtain rfl := Option.some.inj hS
  exact ret1 rfl ⟨rfl, c0⟩
 have hS := ifF q10 hS
 refine CW.skip ?_
 refine thn_n (CW.seq (CW.region ?_))
 obtain ⟨y13, hy14⟩ : ∃ y, F7_New = y := ⟨_, rfl⟩
 have hS := ltS hy14 hS
 refine rl_callF rfl en7 rfl (ctr7 (G F w.heap.size nb) w6  y13 hy14) ?_
 rintro _ w11 ⟨p15, z18, rfl, h16, h17, hf19, hf20, d21, c12⟩
 have lo22 : ∀ b, inBlk (PV p15) b → w.heap.size ≤ b := fun b h => Nat.le_trans c0.size (hf19 b h)
 have lo23 : ∀ b, inBlk z18 b → w.heap.size ≤ b := fun b h => Nat.le_trans c0.size (hf20 b h)
 have ah0 := slRep.st k_Act_pos ah0 c12 (show ∀ b, b < w6.heap.size → ¬ nb b → ¬ nb b ∧ ¬ (un (inBlk (PV p15)) (un (inBlk z18) nb)) b from fun b hb hs => ⟨fun x => x, fun h => un_el h (fun h => Nat.not_le_of_lt hb (hf19 b h)) (fun h => un_el h (fun h => Nat.not_le_of_lt hb (hf20 b h)) (fun h => hs h))⟩)
 have gl := Kd.st gl c12 (show ∀ b, b < w6.heap.size → ¬ nb b → ¬ nb b ∧ ¬ (un (inBlk (PV p15)) (un (inBlk z18) nb)) b from fun b hb hs => ⟨fun x => x, fun h => un_el h (fun h => Nat.not_le_of_lt hb (hf19 b h)) (fun h => un_el h (fun h => Nat.not_le_of_lt hb (hf20 b h)) (fun h => hs h))⟩)
 have c0 := c0.then0 c12
 refine rl_build (out := (Stats_2.c ({ all := [] } : Stats_2) (Value.slice none 0 0))) rfl pl56 Tryd.zeroValue56 rfl rfl rfl ?_
 refine rl_boxA (cs := (Stats_2.c ({ all := [] } : Stats_2) (Value.slice none 0 0))) rfl rfl ?_
 intro p24 w25 n26 k27
 have lo28 : ∀ b, inBlk (PV p24) b → w.heap.size ≤ b := fun b h => Nat.le_trans c0.size (n26.fresh b h)
 have d29 : ∀ b, inBlk (PV p24) b → ¬ inBlk (PV p15) b := disNew n26.fresh h16.ltp
 have d30 : ∀ b, inBlk (PV p24) b → ¬ inBlk z18 b := disNew n26.fresh h17.ltp
 have ah0 := slRep.st k_Act_pos ah0 n26.ch (admNew n26.fresh (fun _ x => x))
 have gl := Kd.st gl n26.ch (admNew n26.fresh (fun _ x => x))
 have h16 := h16.ch0 n26.ch
 have h17 := h17.ch0 n26.ch
 have c0 := c0.then0 n26.ch
 refine rl_assign rfl rfl ?_
 refine rl_assign rfl rfl ?_
 refine RL.nil (thn_n (CW.seq ?_))
 refine CW.seq (CW.region ?_)
 refine rl_move rfl rfl ?_
 refine rl_lenR rfl ah0 Tryd.underlying22 rfl ?_
 refine rl_move rfl rfl ?_
 refine RL.nil (thn_n ?_)
 have d32 : ∀ b, inBlk (Value.slice none 0 0) b → ¬ inBlk (PV p24) b := fun _ h => h.elim
 have d33 : ∀ b, inBlk (Value.slice none 0 0) b → ¬ inBlk (PV p15) b := fun _ h => h.elim
 have d34 : ∀ b, inBlk (Value.slice none 0 0) b → ¬ inBlk z18 b := fun _ h => h.elim
 have crf : Ch nb w25 w25 := Ch.refl
 have ah0 := slRep.st k_Act_pos ah0 crf admNil
 have gl := Kd.st gl crf admNil
 have h16 := h16.ch0 crf
 have h17 := h17.ch0 crf
 have k27 := k27.ch0 crf
 have c0 := c0.then0 crf
 have h31 : SlO k_Told 97 F w.heap.size (un (inBlk (Value.slice none 0 0)) (un (inBlk (PV p24)) (un (inBlk (PV p15)) (un (inBlk z18) nb)))) w25 ([] : List Told) (.slice none 0 0) := SlO.nil
 obtain ⟨o59, ho60, hS⟩ := bindS hS
 refine CW.cutB (fun E' w' => ∃ (x35 : Stats_2) (p38 : Nat) (v36 : Value) (x40 : Stats) (v41 : Value), Sub [] E' ∧ Ch nb w w' ∧ Lp.fin (x35, x40) = o59 ∧ slRep k_Act (G F w.heap.size (un (inBlk v36) (un (inBlk (PV p38)) (un (inBlk (PV p15)) (un (inBlk v41) nb))))) w' a0 av0 ∧ (kGL 156 18).rep (G F w.heap.size (un (inBlk v36) (un (inBlk (PV p38)) (un (inBlk (PV p15)) (un (inBlk v41) nb))))) w' ge [Value.bool true] ∧ SlO k_Told 97 F w.heap.size (un (inBlk v36) (un (inBlk (PV p38)) (un (inBlk (PV p15)) (un (inBlk v41) nb)))) w' x35.all v36 ∧ Mp (fun x => Value.agg (Key.enc x).toArray) (fun x => Value.agg (Service.enc x).toArray) w' x40.services v41 ∧ Blk w' p38 56 (Stats_2.c x35 v36) ∧ Blk w' p15 81 (Stats.c x40 v41) ∧ (∀ b, inBlk v36 b → ¬ inBlk (PV p38) b) ∧ (∀ b, inBlk v36 b → ¬ inBlk (PV p15) b) ∧ (∀ b, inBlk v36 b → ¬ inBlk v41 b) ∧ (∀ b, inBlk (PV p38) b → ¬ inBlk (PV p15) b) ∧ (∀ b, inBlk (PV p38) b → ¬ inBlk v41 b) ∧ (∀ b, inBlk (PV p15) b → ¬ inBlk v41 b) ∧ (∀ b, inBlk (PV p38) b → w.heap.size ≤ b) ∧ (∀ b, inBlk v41 b → w.heap.size ≤ b)) ?_ ?_
 ·
  refine CW.loopS [(3, (PV p15)), (18, av0), (19, (Value.int .i64 ((a0.length : Nat) : Int))), (4, (PV p24)), (20, (Value.int .i64 ((0 : Nat) : Int)))] ⟨rfl, rfl, rfl, rfl, rfl, trivial⟩ a0.length (fun m E w' => ∃ (rest52 : List Act) (i53 : Nat) (x35 : Stats_2) (p38 : Nat) (v36 : Value) (x40 : Stats) (v41 : Value), m = rest52.length ∧ E = [(3, (PV p15)), (18, av0), (19, (Value.int .i64 ((a0.length : Nat) : Int))), (4, (PV p38)), (20, (Value.int .i64 ((i53 : Nat) : Int)))] ∧ Ch nb w w' ∧ At a0 i53 rest52 ∧ runBO F4_StatsPla_b1 rest52 (x35, x40) = some o59 ∧ slRep k_Act (G F w.heap.size (un (inBlk v36) (un (inBlk (PV p38)) (un (inBlk (PV p15)) (un (inBlk v41) nb))))) w' a0 av0 ∧ (kGL 156 18).rep (G F w.heap.size (un (inBlk v36) (un (inBlk (PV p38)) (un (inBlk (PV p15)) (un (inBlk v41) nb))))) w' ge [Value.bool true] ∧ SlO k_Told 97 F w.heap.size (un (inBlk v36) (un (inBlk (PV p38)) (un (inBlk (PV p15)) (un (inBlk v41) nb)))) w' x35.all v36 ∧ Mp (fun x => Value.agg (Key.enc x).toArray) (fun x => Value.agg (Service.enc x).toArray) w' x40.services v41 ∧ Blk w' p38 56 (Stats_2.c x35 v36) ∧ Blk w' p15 81 (Stats.c x40 v41) ∧ (∀ b, inBlk v36 b → ¬ inBlk (PV p38) b) ∧ (∀ b, inBlk v36 b → ¬ inBlk (PV p15) b) ∧ (∀ b, inBlk v36 b → ¬ inBlk v41 b) ∧ (∀ b, inBlk (PV p38) b → ¬ inBlk (PV p15) b) ∧ (∀ b, inBlk (PV p38) b → ¬ inBlk v41 b) ∧ (∀ b, inBlk (PV p15) b → ¬ inBlk v41 b) ∧ (∀ b, inBlk (PV p38) b → w.heap.size ≤ b) ∧ (∀ b, inBlk v41 b → w.heap.size ≤ b))
      ⟨a0, 0, ({ all := [] } : Stats_2), p24, (Value.slice none 0 0), y13, z18, rfl, rfl, c0, At.start, ho60, ah0, gl, h31, h17, k27, h16, d32, d33, d34, d29, d30, d21, lo28, lo23⟩ ?_
  rintro _ _ w65 ⟨rest52, i53, x35, p38, v36, x40, v41, rfl, rfl, c64, hat55, hL54, ah0, gl, h37, h42, k39, k43, d46, d47, d48, d49, d50, d51, lo44, lo45⟩
  refine CW.seq (CW.region ?_)
  refine rl_bin rfl rfl B.lss rfl ?_
  refine RL.nil (thn_n ?_)
  refine CW.seq ?_
  refine CW.cond (t := decide (((i53 : Nat) : Int) < ((a0.length : Nat) : Int))) rfl (fun q67 => ?_) (fun q67 => ?_)
  ·
   obtain ⟨x61, rest68, rfl⟩ := hat55.cons q67
   obtain ⟨q56, hq57⟩ := runBO_some hL54
   have hb58 := hq57
   refine CW.skip (thn_n ?_)
   refine CW.seq ?_
   refine CW.block ?_
   refine CW.seq (CW.region ?_)
   refine rl_ixR rfl ah0 rfl hat55.get Tryd.underlying22 Tryd.sizeOf40 rfl ?_
   intro p69 o70 cs71 hr72 hs73 hg74
   obtain ⟨z75, rfl, h76⟩ := hr72
   refine rl_loadA (cs := (Act.c x61 z75)) rfl Tryd.isAgg40 Tryd.sizeOf40 (hs73) rfl rfl ?_
   refine rl_alloc (Act.c Act.z (Value.slice none 0 0)) Tryd.zeroValue40 rfl rfl ?_
   intro p77 w78 n79 k80
   have lo81 : ∀ b, inBlk (PV p77) b → w.heap.size ≤ b := fun b h => Nat.le_trans c64.size (n79.fresh b h)
   have d82 : ∀ b, inBlk (PV p77) b → ¬ inBlk v36 b := disNew n79.fresh (fun b hb => (h37.lt b hb).2)
   have d83 : ∀ b, inBlk (PV p77) b → ¬ inBlk (PV p38) b := disNew n79.fresh k39.ltp
   have d84 : ∀ b, inBlk (PV p77) b → ¬ inBlk (PV p15) b := disNew n79.fresh k43.ltp
   have d85 : ∀ b, inBlk (PV p77) b → ¬ inBlk v41 b := disNew n79.fresh h42.ltp
   have ah0 := slRep.st k_Act_pos ah0 n79.ch (admNew n79.fresh (fun _ x => x))
   have gl := Kd.st gl n79.ch (admNew n79.fresh (fun _ x => x))
   have h37 := h37.st n79.ch (fun _ _ x => x) (admNew n79.fresh (fun _ x => x)) (fun b h => (.inr (.inl h)))
   have h42 := h42.ch0 n79.ch
   have k39 := k39.ch0 n79.ch
   have k43 := k43.ch0 n79.ch
   have h76 := slRep.st kInt_pos h76 n79.ch (admNew n79.fresh (fun _ x => x))
   have c64 := c64.then0 n79.ch
   refine rl_storeA (vs := (Act.c x61 z75)) rfl rfl (Kd.one _ (show k_Act.rep (G F w.heap.size (un (inBlk (PV p77)) (un (inBlk v36) (un (inBlk (PV p38)) (un (inBlk (PV p15)) (un (inBlk v41) nb)))))) w78 x61 (Act.c x61 z75) from ⟨z75, rfl, h76⟩)) Tryd.sizeOf40 rfl k80 rfl ?_
   intro w86 s88 c87 k89
   have ad90 : ∀ b, b < w78.heap.size → ¬ (un (inBlk (PV p77)) (un (inBlk v36) (un (inBlk (PV p38)) (un (inBlk (PV p15)) (un (inBlk v41) nb))))) b → ¬ (inBlk (PV p77)) b ∧ ¬ (un (inBlk (PV p77)) (un (inBlk v36) (un (inBlk (PV p38)) (un (inBlk (PV p15)) (un (inBlk v41) nb))))) b := fun b _ hs => ⟨fun h => hs (.inl h), hs⟩
   have ah0 := slRep.st k_Act_pos ah0 c87 ad90
   have gl := Kd.st gl c87 ad90
   have h37 := h37.st c87 (fun b hb h => (disSym d82) b hb h) ad90 (fun b h => (.inr (.inl h)))
   have h42 := h42.ch c87 ((fun b hb h => (disSym d85) b hb h))
   have k39 := k39.ch c87 ((fun b hb h => (disSym d83) b hb h) _ rfl)
   have k43 := k43.ch c87 ((fun b hb h => (disSym d84) b hb h) _ rfl)
   have h76 := slRep.st kInt_pos h76 c87 ad90
   have c64 := c64.then c87 (fun i hi h => absurd (lo81 i h) (Nat.not_le_of_lt hi))
   refine RL.nil (thn_n (CW.seq ?_))
   refine CW.seq (CW.region ?_)
   refine rl_fieldAddr rfl fa40_0 rfl ?_
   refine rl_loadS (v := (Value.int .i64 x61.kind)) rfl Tryd.isAgg3 (k89.cell rfl) rfl ?_
   refine rl_bin rfl rfl B.neq rfl ?_
   refine RL.nil (thn_n ?_)
   refine CW.cond (t := !decide (x61.kind = 0)) rfl (fun q91 => ?_) (fun q91 => ?_)
   ·
    have hb58 := ifT q91 hb58
    refine CW.seq (CW.region ?_)
    refine rl_move rfl rfl ?_
    have hd92 : ∀ b, (un (inBlk (PV p15)) (inBlk v41)) b → ¬ (un (inBlk (PV p77)) (un (inBlk v36) (un (inBlk (PV p38)) nb))) b := fun b h => un_el h (fun h => (fun b hb => fun h => un_el h (fun h => (disSym d84) b hb h) (fun h => un_el h (fun h => (disSym d47) b hb h) (fun h => un_el h (fun h => (disSym d49) b hb h) (fun h => h)))) b h) (fun h => (fun b hb => fun h => un_el h (fun h => (disSym d85) b hb h) (fun h => un_el h (fun h => (disSym d48) b hb h) (fun h => un_el h (fun h => (disSym d50) b hb h) (fun h => h)))) b h)
    obtain ⟨y96, hy97⟩ : ∃ y, F13_Reset x40 = y := ⟨_, rfl⟩
    have hb58 := ltS hy97 hb58
    refine rl_callF rfl en13 rfl (ctr13 F w86 w.heap.size (un (inBlk (PV p77)) (un (inBlk v36) (un (inBlk (PV p38)) nb))) c64.size (un_lt k89.ltp (un_lt (fun b hb => (h37.lt b hb).2) (un_lt k39.ltp nbS))) p15 v41 hd92 d51 x40 k43 h42 y96 hy97) ?_
    rintro _ w94 ⟨z98, rfl, h99, h100, hf101, d102, c95⟩
    have lo103 : ∀ b, inBlk z98 b → w.heap.size ≤ b := fun b h => (hf101 b h).elim (fun h => un_el h (fun h => lo22 b h) (fun h => lo45 b h)) (Nat.le_trans c64.size)
    have d104 : ∀ b, inBlk z98 b → ¬ inBlk (PV p77) b := fun b h hu => (hf101 b h).elim (fun h => un_el h (fun h => (disSym d84) b h hu) (fun h => (disSym d85) b h hu)) (fun h => Nat.not_le_of_lt (k89.ltp b hu) h)
    have d105 : ∀ b, inBlk z98 b → ¬ inBlk v36 b := fun b h hu => (hf101 b h).elim (fun h => un_el h (fun h => (disSym d47) b h hu) (fun h => (disSym d48) b h hu)) (fun h => Nat.not_le_of_lt ((fun b hb => (h37.lt b hb).2) b hu) h)
    have d106 : ∀ b, inBlk z98 b → ¬ inBlk (PV p38) b := fun b h hu => (hf101 b h).elim (fun h => un_el h (fun h => (disSym d49) b h hu) (fun h => (disSym d50) b h hu)) (fun h => Nat.not_le_of_lt (k39.ltp b hu) h)
    have ha108 : ∀ b, b < w86.heap.size → ¬ (un (inBlk (PV p77)) (un (inBlk v36) (un (inBlk (PV p38)) (un (inBlk (PV p15)) (un (inBlk v41) nb))))) b → ¬ (un (inBlk (PV p15)) (inBlk v41)) b ∧ ¬ (un (inBlk (PV p77)) (un (inBlk v36) (un (inBlk (PV p38)) (un (inBlk (PV p15)) (un (inBlk z98) nb))))) b := fun b hb hs => ⟨fun h => un_el h (fun h => hs (.inr (.inr (.inr (.inl h))))) (fun h => hs (.inr (.inr (.inr (.inr (.inl h)))))), fun h => un_el h (fun h => hs (.inl h)) (fun h => un_el h (fun h => hs (.inr (.inl h))) (fun h => un_el h (fun h => hs (.inr (.inr (.inl h)))) (fun h => un_el h (fun h => hs (.inr (.inr (.inr (.inl h))))) (fun h => un_el h (fun h => (hf101 b h).elim (fun h => un_el h (fun h => hs (.inr (.inr (.inr (.inl h))))) (fun h => hs (.inr (.inr (.inr (.inr (.inl h))))))) (fun h => Nat.not_le_of_lt hb h)) (fun h => False.elim h)))))⟩
    have ah0 := slRep.st k_Act_pos ah0 c95 ha108
    have gl := Kd.st gl c95 ha108
    have h37 := h37.st c95 (fun b hb h => un_el h (fun h => d47 b hb h) (fun h => d48 b hb h)) ha108 (fun b h => (.inr (.inl h)))
    have k39 := k39.ch c95 ((fun b hb h => un_el h (fun h => d49 b hb h) (fun h => d50 b hb h)) _ rfl)
    have h76 := slRep.st kInt_pos h76 c95 ha108
    have k89 := k89.ch c95 ((fun b hb h => un_el h (fun h => d84 b hb h) (fun h => d85 b hb h)) _ rfl)
    have c64 := c64.then c95 (fun i hi h => un_el h (fun h => absurd (lo22 i h) (Nat.not_le_of_lt hi)) (fun h => absurd (lo45 i h) (Nat.not_le_of_lt hi)))
    refine RL.nil (thn_n (CW.region ?_))
    refine rl_build (out := (Stats_2.c ({ all := [] } : Stats_2) (Value.slice none 0 0))) rfl pl56 Tryd.zeroValue56 rfl rfl rfl ?_
    refine rl_boxA (cs := (Stats_2.c ({ all := [] } : Stats_2) (Value.slice none 0 0))) rfl rfl ?_
    intro p109 w110 n111 k112
    have lo113 : ∀ b, inBlk (PV p109) b → w.heap.size ≤ b := fun b h => Nat.le_trans c64.size (n111.fresh b h)
    have d114 : ∀ b, inBlk (PV p109) b → ¬ inBlk (PV p77) b := disNew n111.fresh k89.ltp
    have d115 : ∀ b, inBlk (PV p109) b → ¬ inBlk v36 b := disNew n111.fresh (fun b hb => (h37.lt b hb).2)
    have d116 : ∀ b, inBlk (PV p109) b → ¬ inBlk (PV p38) b := disNew n111.fresh k39.ltp
    have d117 : ∀ b, inBlk (PV p109) b → ¬ inBlk (PV p15) b := disNew n111.fresh h99.ltp
    have d118 : ∀ b, inBlk (PV p109) b → ¬ inBlk z98 b := disNew n111.fresh h100.ltp
    have ah0 := slRep.st k_Act_pos ah0 n111.ch (admNew n111.fresh (fun _ x => x))
    have gl := Kd.st gl n111.ch (admNew n111.fresh (fun _ x => x))
    have h37 := h37.st n111.ch (fun _ _ x => x) (admNew n111.fresh (fun _ x => x)) (fun b h => (.inr (.inr (.inl h))))
    have k39 := k39.ch0 n111.ch
    have h76 := slRep.st kInt_pos h76 n111.ch (admNew n111.fresh (fun _ x => x))
    have k89 := k89.ch0 n111.ch
    have h99 := h99.ch0 n111.ch
    have h100 := h100.ch0 n111.ch
    have c64 := c64.then0 n111.ch
    refine rl_assign rfl rfl ?_
    refine RL.nil (thn_n (CW.seq ?_))
    refine CW.seq (CW.region ?_)
    refine rl_assign rfl rfl ?_
    refine RL.nil (thn_n ?_)
    obtain ⟨o142, ho143, hb58⟩ := bindS hb58
    refine CW.cutB (fun E' w' => ∃ (x119 : Int), Sub [(3, (PV p15)), (4, (PV p109)), (6, (PV p77)), (18, av0), (19, (Value.int .i64 ((a0.length : Nat) : Int))), (20, (Value.int .i64 ((i53 : Nat) : Int)))] E' ∧ Ch nb w w' ∧ Lp.fin x119 = o142 ∧ slRep k_Act (G F w.heap.size (un (inBlk (PV p109)) (un (inBlk (PV p77)) (un (inBlk v36) (un (inBlk (PV p38)) (un (inBlk (PV p15)) (un (inBlk z98) nb))))))) w' a0 av0 ∧ (kGL 156 18).rep (G F w.heap.size (un (inBlk (PV p109)) (un (inBlk (PV p77)) (un (inBlk v36) (un (inBlk (PV p38)) (un (inBlk (PV p15)) (un (inBlk z98) nb))))))) w' ge [Value.bool true] ∧ SlO k_Told 97 F w.heap.size (un (inBlk (PV p109)) (un (inBlk (PV p77)) (un (inBlk v36) (un (inBlk (PV p38)) (un (inBlk (PV p15)) (un (inBlk z98) nb)))))) w' x35.all v36 ∧ Blk w' p38 56 (Stats_2.c x35 v36) ∧ slRep (kInt .u8) (G F w.heap.size (un (inBlk (PV p109)) (un (inBlk (PV p77)) (un (inBlk v36) (un (inBlk (PV p38)) (un (inBlk (PV p15)) (un (inBlk z98) nb))))))) w' x61.out.packet z75 ∧ Blk w' p77 40 (Act.c x61 z75) ∧ Blk w' p15 81 (Stats.c y96 z98) ∧ Mp (fun x => Value.agg (Key.enc x).toArray) (fun x => Value.agg (Service.enc x).toArray) w' y96.services z98 ∧ Blk w' p109 56 (Stats_2.c ({ all := [] } : Stats_2) (Value.slice none 0 0)) ∧ (∀ b, inBlk (PV p109) b → ¬ inBlk (PV p77) b) ∧ (∀ b, inBlk (PV p109) b → ¬ inBlk v36 b) ∧ (∀ b, inBlk (PV p109) b → ¬ inBlk (PV p38) b) ∧ (∀ b, inBlk (PV p109) b → ¬ inBlk (PV p15) b) ∧ (∀ b, inBlk (PV p109) b → ¬ inBlk z98 b) ∧ (∀ b, inBlk (PV p77) b → ¬ inBlk v36 b) ∧ (∀ b, inBlk (PV p77) b → ¬ inBlk (PV p38) b) ∧ (∀ b, inBlk (PV p77) b → ¬ inBlk (PV p15) b) ∧ (∀ b, inBlk (PV p77) b → ¬ inBlk z98 b) ∧ (∀ b, inBlk v36 b → ¬ inBlk (PV p38) b) ∧ (∀ b, inBlk v36 b → ¬ inBlk (PV p15) b) ∧ (∀ b, inBlk v36 b → ¬ inBlk z98 b) ∧ (∀ b, inBlk (PV p38) b → ¬ inBlk (PV p15) b) ∧ (∀ b, inBlk (PV p38) b → ¬ inBlk z98 b) ∧ (∀ b, inBlk (PV p15) b → ¬ inBlk z98 b)) ?_ ?_
    ·
     refine CW.loopS [(3, (PV p15)), (4, (PV p109)), (6, (PV p77)), (18, av0), (19, (Value.int .i64 ((a0.length : Nat) : Int))), (20, (Value.int .i64 ((i53 : Nat) : Int))), (7, (Value.int .i64 (-1)))] ⟨rfl, rfl, rfl, rfl, rfl, rfl, rfl, trivial⟩ FUEL (fun m E w' => ∃ (x119 : Int), E = [(3, (PV p15)), (4, (PV p109)), (6, (PV p77)), (18, av0), (19, (Value.int .i64 ((a0.length : Nat) : Int))), (20, (Value.int .i64 ((i53 : Nat) : Int))), (7, (Value.int .i64 x119))] ∧ Ch nb w w' ∧ runW (F4_StatsPla_b2 y96) m x119 = some o142 ∧ slRep k_Act (G F w.heap.size (un (inBlk (PV p109)) (un (inBlk (PV p77)) (un (inBlk v36) (un (inBlk (PV p38)) (un (inBlk (PV p15)) (un (inBlk z98) nb))))))) w' a0 av0 ∧ (kGL 156 18).rep (G F w.heap.size (un (inBlk (PV p109)) (un (inBlk (PV p77)) (un (inBlk v36) (un (inBlk (PV p38)) (un (inBlk (PV p15)) (un (inBlk z98) nb))))))) w' ge [Value.bool true] ∧ SlO k_Told 97 F w.heap.size (un (inBlk (PV p109)) (un (inBlk (PV p77)) (un (inBlk v36) (un (inBlk (PV p38)) (un (inBlk (PV p15)) (un (inBlk z98) nb)))))) w' x35.all v36 ∧ Blk w' p38 56 (Stats_2.c x35 v36) ∧ slRep (kInt .u8) (G F w.heap.size (un (inBlk (PV p109)) (un (inBlk (PV p77)) (un (inBlk v36) (un (inBlk (PV p38)) (un (inBlk (PV p15)) (un (inBlk z98) nb))))))) w' x61.out.packet z75 ∧ Blk w' p77 40 (Act.c x61 z75) ∧ Blk w' p15 81 (Stats.c y96 z98) ∧ Mp (fun x => Value.agg (Key.enc x).toArray) (fun x => Value.agg (Service.enc x).toArray) w' y96.services z98 ∧ Blk w' p109 56 (Stats_2.c ({ all := [] } : Stats_2) (Value.slice none 0 0)) ∧ (∀ b, inBlk (PV p109) b → ¬ inBlk (PV p77) b) ∧ (∀ b, inBlk (PV p109) b → ¬ inBlk v36 b) ∧ (∀ b, inBlk (PV p109) b → ¬ inBlk (PV p38) b) ∧ (∀ b, inBlk (PV p109) b → ¬ inBlk (PV p15) b) ∧ (∀ b, inBlk (PV p109) b → ¬ inBlk z98 b) ∧ (∀ b, inBlk (PV p77) b → ¬ inBlk v36 b) ∧ (∀ b, inBlk (PV p77) b → ¬ inBlk (PV p38) b) ∧ (∀ b, inBlk (PV p77) b → ¬ inBlk (PV p15) b) ∧ (∀ b, inBlk (PV p77) b → ¬ inBlk z98 b) ∧ (∀ b, inBlk v36 b → ¬ inBlk (PV p38) b) ∧ (∀ b, inBlk v36 b → ¬ inBlk (PV p15) b) ∧ (∀ b, inBlk v36 b → ¬ inBlk z98 b) ∧ (∀ b, inBlk (PV p38) b → ¬ inBlk (PV p15) b) ∧ (∀ b, inBlk (PV p38) b → ¬ inBlk z98 b) ∧ (∀ b, inBlk (PV p15) b → ¬ inBlk z98 b))
         ⟨(-1), rfl, c64, ho143, ah0, gl, h37, k39, h76, k89, h99, h100, k112, d114, d115, d116, d117, d118, d82, d83, d84, (disSym d104), d46, d47, (disSym d105), d49, (disSym d106), d102⟩ ?_
     rintro _ _ w148 ⟨x119, rfl, c147, hL137, ah0, gl, h37, k39, h76, k89, h99, h100, k112, d120, d121, d122, d123, d124, d125, d126, d127, d128, d129, d130, d131, d132, d133, d134⟩
     obtain ⟨k146, q139, rfl, hq140⟩ := runW_some hL137
     have hb141 := hq140
     refine CW.seq ?_
     refine CW.seq (CW.region ?_)
     refine rl_move rfl rfl ?_
     refine rl_bin rfl rfl B.lss rfl ?_
     refine RL.nil (thn_n ?_)
     refine CW.cond (t := decide (x119 < 8)) rfl (fun q150 => ?_) (fun q150 => ?_)
     ·
      have hb141 := ifT q150 hb141
      refine CW.skip ?_
      refine thn_n (CW.seq ?_)
      refine CW.block ?_
      refine CW.seq (CW.region ?_)
      refine rl_move rfl rfl ?_
      refine rl_move rfl rfl ?_
      have d152 : ∀ b, inBlk (Value.slice none 0 0) b → ¬ inBlk (PV p109) b := fun _ h => h.elim
      have d153 : ∀ b, inBlk (Value.slice none 0 0) b → ¬ inBlk (PV p77) b := fun _ h => h.elim
      have d154 : ∀ b, inBlk (Value.slice none 0 0) b → ¬ inBlk v36 b := fun _ h => h.elim
      have d155 : ∀ b, inBlk (Value.slice none 0 0) b → ¬ inBlk (PV p38) b := fun _ h => h.elim
      have d156 : ∀ b, inBlk (Value.slice none 0 0) b → ¬ inBlk (PV p15) b := fun _ h => h.elim
      have d157 : ∀ b, inBlk (Value.slice none 0 0) b → ¬ inBlk z98 b := fun _ h => h.elim
      have crf : Ch nb w148 w148 := Ch.refl
      have ah0 := slRep.st k_Act_pos ah0 crf admNil
      have gl := Kd.st gl crf admNil
      have h37 := h37.st crf (fun _ _ x => x) admNil (fun b h => (.inr (.inr (.inr (.inl h)))))
      have k39 := k39.ch0 crf
      have h76 := slRep.st kInt_pos h76 crf admNil
      have k89 := k89.ch0 crf
      have h99 := h99.ch0 crf
      have h100 := h100.ch0 crf
      have k112 := k112.ch0 crf
      have c147 := c147.then0 crf
      have h151 : SlO k_Told 97 F w.heap.size (un (inBlk (Value.slice none 0 0)) (un (inBlk (PV p109)) (un (inBlk (PV p77)) (un (inBlk v36) (un (inBlk (PV p38)) (un (inBlk (PV p15)) (un (inBlk z98) nb))))))) w148 ([] : List Told) (.slice none 0 0) := SlO.nil
      have hd158 : ∀ b, (un (inBlk (PV p109)) (inBlk (Value.slice none 0 0))) b → ¬ (un (inBlk (PV p77)) (un (inBlk v36) (un (inBlk (PV p38)) (un (inBlk (PV p15)) (un (inBlk z98) nb))))) b := fun b h => un_el h (fun h => (fun b hb => fun h => un_el h (fun h => d120 b hb h) (fun h => un_el h (fun h => d121 b hb h) (fun h => un_el h (fun h => d122 b hb h) (fun h => un_el h (fun h => d123 b hb h) (fun h => un_el h (fun h => d124 b hb h) (fun h => h)))))) b h) (fun h => (fun b hb => fun h => un_el h (fun h => d153 b hb h) (fun h => un_el h (fun h => d154 b hb h) (fun h => un_el h (fun h => d155 b hb h) (fun h => un_el h (fun h => d156 b hb h) (fun h => un_el h (fun h => d157 b hb h) (fun h => h)))))) b h)
      have hS159 : (un (inBlk (Value.slice none 0 0)) (un (inBlk (PV p109)) (un (inBlk (PV p77)) (un (inBlk v36) (un (inBlk (PV p38)) (un (inBlk (PV p15)) (un (inBlk z98) nb))))))) = (un (inBlk (PV p109)) (un (inBlk (Value.slice none 0 0)) (un (inBlk (PV p77)) (un (inBlk v36) (un (inBlk (PV p38)) (un (inBlk (PV p15)) (un (inBlk z98) nb))))))) := funext fun b => propext ⟨fun h => un_el h (fun h => (.inr (.inl h))) (fun h => un_el h (fun h => (.inl h)) (fun h => un_el h (fun h => (.inr (.inr (.inl h)))) (fun h => un_el h (fun h => (.inr (.inr (.inr (.inl h))))) (fun h => un_el h (fun h => (.inr (.inr (.inr (.inr (.inl h)))))) (fun h => un_el h (fun h => (.inr (.inr (.inr (.inr (.inr (.inl h))))))) (fun h => un_el h (fun h => (.inr (.inr (.inr (.inr (.inr (.inr (.inl h)))))))) (fun h => False.elim h))))))), fun h => un_el h (fun h => (.inr (.inl h))) (fun h => un_el h (fun h => (.inl h)) (fun h => un_el h (fun h => (.inr (.inr (.inl h)))) (fun h => un_el h (fun h => (.inr (.inr (.inr (.inl h))))) (fun h => un_el h (fun h => (.inr (.inr (.inr (.inr (.inl h)))))) (fun h => un_el h (fun h => (.inr (.inr (.inr (.inr (.inr (.inl h))))))) (fun h => un_el h (fun h => (.inr (.inr (.inr (.inr (.inr (.inr (.inl h)))))))) (fun h => False.elim h)))))))⟩
      obtain ⟨y162, hy163⟩ : ∃ y, F17_Verdict ({ all := [] } : Stats_2) x119 = y := ⟨_, rfl⟩
      have hb141 := ltS hy163 hb141
      refine rl_callF rfl en17 rfl (ctr17 F w148 w.heap.size (un (inBlk (PV p77)) (un (inBlk v36) (un (inBlk (PV p38)) (un (inBlk (PV p15)) (un (inBlk z98) nb))))) c147.size (un_lt k89.ltp (un_lt (fun b hb => (h37.lt b hb).2) (un_lt k39.ltp (un_lt h99.ltp (un_lt h100.ltp nbS))))) p109 (Value.slice none 0 0) hd158 (disSym d152) ({ all := [] } : Stats_2) k112 (hS159 ▸ h151) x119 y162 hy163) ?_
      rintro _ w160 ⟨rfl, c161⟩
      have ah0 := slRep.ch k_Act_pos ah0 c161
      have gl := Kd.ch gl c161
      have h37 := h37.ch0 c161
      have k39 := k39.ch0 c161
      have h76 := slRep.ch kInt_pos h76 c161
      have k89 := k89.ch0 c161
      have h99 := h99.ch0 c161
      have h100 := h100.ch0 c161
      have k112 := k112.ch0 c161
      have h151 := h151.ch0 c161
      have c147 := c147.then0 c161
      refine rl_move rfl rfl ?_
      refine rl_extract rfl rfl rfl ?_
      refine rl_extract rfl rfl rfl ?_
      refine rl_assign rfl rfl ?_
      refine rl_assign rfl rfl ?_
      refine RL.nil (thn_n (CW.seq ?_))
      refine CW.seq (CW.region ?_)
      refine rl_move rfl rfl ?_
      refine rl_bin rfl rfl B.lss rfl ?_
      refine rl_move rfl rfl ?_
      obtain ⟨b166, hb167⟩ : ∃ v, ((decide (x119 < 0)) || (decide (x119 > 6))) = v := ⟨_, rfl⟩
      have hb141 := ltS hb167 hb141
      refine RL.join 3 65 (.bool b166) (fun w' => Ch nb w160 w') ?_ ?_
      · rcases Bool.eq_false_or_eq_true (decide (x119 < 0)) with hg165 | hg165
        ·
         have hs164 := or_t hg165 hb167
         have cs : Ch nb w160 w160 := Ch.refl
         refine RL.no rfl rfl rfl hg165 rfl rfl ?_
         refine RL.no rfl rfl rfl hg165 rfl rfl ?_
         refine rl_pickT rfl hg165 rfl rfl ?_
         exact RL.nil ⟨Ext.bothEq (congrArg Value.bool hs164) (Ext.skip rfl (Ext.skip rfl (Ext.rfl'))), cs⟩
        ·
         have hs164 := or_f hg165 hb167
         have cs : Ch nb w160 w160 := Ch.refl
         refine RL.yes rfl rfl rfl hg165 ?_
         refine rl_move rfl rfl ?_
         refine RL.yes rfl rfl rfl hg165 ?_
         refine rl_bin rfl rfl B.gtr rfl ?_
         refine rl_pickF rfl hg165 rfl rfl ?_
         exact RL.nil ⟨Ext.bothEq (congrArg Value.bool hs164) (Ext.skip rfl (Ext.skip rfl (Ext.rfl'))), cs⟩
      intro w168 c169
      have ah0 := slRep.ch k_Act_pos ah0 c169
      have gl := Kd.ch gl c169
      have h37 := h37.ch0 c169
      have k39 := k39.ch0 c169
      have h76 := slRep.ch kInt_pos h76 c169
      have k89 := k89.ch0 c169
      have h99 := h99.ch0 c169
      have h100 := h100.ch0 c169
      have k112 := k112.ch0 c169
      have h151 := h151.ch0 c169
      have c147 := c147.then0 c169
      refine RL.nil (thn_n ?_)
      refine CW.cond (t := b166) rfl (fun q170 => ?_) (fun q170 => ?_)
      ·
       have hb141 := ifT q170 hb141
       refine CW.region ?_
       refine rl_assign rfl rfl ?_
       refine rl_assign rfl rfl ?_
       refine RL.nil (thn_n (CW.seq (CW.region ?_)))
       refine rl_move rfl rfl ?_
       refine rl_move rfl rfl ?_
       have hd171 : ∀ b, (un (inBlk (PV p15)) (inBlk z98)) b → ¬ (un (inBlk (Value.slice none 0 0)) (un (inBlk (PV p109)) (un (inBlk (PV p77)) (un (inBlk v36) (un (inBlk (PV p38)) nb))))) b := fun b h => un_el h (fun h => (fun b hb => fun h => un_el h (fun h => (disSym d156) b hb h) (fun h => un_el h (fun h => (disSym d123) b hb h) (fun h => un_el h (fun h => (disSym d127) b hb h) (fun h => un_el h (fun h => (disSym d130) b hb h) (fun h => un_el h (fun h => (disSym d132) b hb h) (fun h => h)))))) b h) (fun h => (fun b hb => fun h => un_el h (fun h => (disSym d157) b hb h) (fun h => un_el h (fun h => (disSym d124) b hb h) (fun h => un_el h (fun h => d104 b hb h) (fun h => un_el h (fun h => d105 b hb h) (fun h => un_el h (fun h => d106 b hb h) (fun h => h)))))) b h)
       obtain ⟨y175, hy176, hb141⟩ := bindS hb141
       refine rl_callF rfl en10 rfl (ctr10 F w168 w.heap.size (un (inBlk (Value.slice none 0 0)) (un (inBlk (PV p109)) (un (inBlk (PV p77)) (un (inBlk v36) (un (inBlk (PV p38)) nb))))) c147.size (un_lt (fun b hb => (h151.lt b hb).2) (un_lt k112.ltp (un_lt k89.ltp (un_lt (fun b hb => (h37.lt b hb).2) (un_lt k39.ltp nbS))))) p15 z98 hd171 d134 y96 h99 h100 x119 y175 hy176) ?_
       rintro _ w173 ⟨rfl, c174⟩
       have ah0 := slRep.ch k_Act_pos ah0 c174
       have gl := Kd.ch gl c174
       have h37 := h37.ch0 c174
       have k39 := k39.ch0 c174
       have h76 := slRep.ch kInt_pos h76 c174
       have k89 := k89.ch0 c174
       have h99 := h99.ch0 c174
       have h100 := h100.ch0 c174
       have k112 := k112.ch0 c174
       have c147 := c147.then0 c174
       refine rl_alloc (Count.enc Count.z) Tryd.zeroValue42 rfl rfl ?_
       intro p177 w178 n179 k180
       have lo181 : ∀ b, inBlk (PV p177) b → w.heap.size ≤ b := fun b h => Nat.le_trans c147.size (n179.fresh b h)
       have d183 : ∀ b, inBlk (PV p177) b → ¬ inBlk (PV p109) b := disNew n179.fresh k112.ltp
       have d184 : ∀ b, inBlk (PV p177) b → ¬ inBlk (PV p77) b := disNew n179.fresh k89.ltp
       have d185 : ∀ b, inBlk (PV p177) b → ¬ inBlk v36 b := disNew n179.fresh (fun b hb => (h37.lt b hb).2)
       have d186 : ∀ b, inBlk (PV p177) b → ¬ inBlk (PV p38) b := disNew n179.fresh k39.ltp
       have d187 : ∀ b, inBlk (PV p177) b → ¬ inBlk (PV p15) b := disNew n179.fresh h99.ltp
       have d188 : ∀ b, inBlk (PV p177) b → ¬ inBlk z98 b := disNew n179.fresh h100.ltp
       have ah0 := slRep.st k_Act_pos ah0 n179.ch (admNew n179.fresh (fun _ x => x))
       have gl := Kd.st gl n179.ch (admNew n179.fresh (fun _ x => x))
       have h37 := h37.st n179.ch (fun _ _ x => x) (admNew n179.fresh (fun _ x => x)) (fun b h => (.inr (.inr (.inr (.inr (.inl h))))))
       have k39 := k39.ch0 n179.ch
       have h76 := slRep.st kInt_pos h76 n179.ch (admNew n179.fresh (fun _ x => x))
       have k89 := k89.ch0 n179.ch
       have h99 := h99.ch0 n179.ch
       have h100 := h100.ch0 n179.ch
       have k112 := k112.ch0 n179.ch
       have c147 := c147.then0 n179.ch
       refine rl_storeA (vs := (Count.enc y175)) rfl rfl (all_one rfl) Tryd.sizeOf42 rfl k180 rfl ?_
       intro w189 s191 c190 k192
       have ad193 : ∀ b, b < w178.heap.size → ¬ (un (inBlk (PV p177)) (un (inBlk (Value.slice none 0 0)) (un (inBlk (PV p109)) (un (inBlk (PV p77)) (un (inBlk v36) (un (inBlk (PV p38)) (un (inBlk (PV p15)) (un (inBlk z98) nb)))))))) b → ¬ (inBlk (PV p177)) b ∧ ¬ (un (inBlk (PV p177)) (un (inBlk (Value.slice none 0 0)) (un (inBlk (PV p109)) (un (inBlk (PV p77)) (un (inBlk v36) (un (inBlk (PV p38)) (un (inBlk (PV p15)) (un (inBlk z98) nb)))))))) b := fun b _ hs => ⟨fun h => hs (.inl h), hs⟩
       have ah0 := slRep.st k_Act_pos ah0 c190 ad193
       have gl := Kd.st gl c190 ad193
       have h37 := h37.st c190 (fun b hb h => (disSym d185) b hb h) ad193 (fun b h => (.inr (.inr (.inr (.inr (.inl h))))))
       have k39 := k39.ch c190 ((fun b hb h => (disSym d186) b hb h) _ rfl)
       have h76 := slRep.st kInt_pos h76 c190 ad193
       have k89 := k89.ch c190 ((fun b hb h => (disSym d184) b hb h) _ rfl)
       have h99 := h99.ch c190 ((fun b hb h => (disSym d187) b hb h) _ rfl)
       have h100 := h100.ch c190 ((fun b hb h => (disSym d188) b hb h))
       have k112 := k112.ch c190 ((fun b hb h => (disSym d183) b hb h) _ rfl)
       have c147 := c147.then c190 (fun i hi h => absurd (lo181 i h) (Nat.not_le_of_lt hi))
       refine RL.nil (thn_n (CW.seq (CW.region ?_)))
       refine rl_fieldAddr rfl fa42_0 rfl ?_
       refine rl_loadS (v := (Value.int .i64 y175.packets)) rfl Tryd.isAgg3 (k192.cell rfl) rfl ?_
       refine rl_move rfl rfl ?_
       refine rl_bin rfl rfl B.neq rfl ?_
       refine rl_move rfl rfl ?_
       obtain ⟨b196, hb197⟩ : ∃ v, ((!decide (y175.packets = 0)) || (!decide (y175.bytes = 0))) = v := ⟨_, rfl⟩
       have hb141 := ltS hb197 hb141
       refine RL.join 5 78 (.bool b196) (fun w' => Ch nb w189 w') ?_ ?_
       · rcases Bool.eq_false_or_eq_true (!decide (y175.packets = 0)) with hg195 | hg195
         ·
          have hs194 := or_t hg195 hb197
          have cs : Ch nb w189 w189 := Ch.refl
          refine RL.no rfl rfl rfl hg195 rfl rfl ?_
          refine RL.no rfl rfl rfl hg195 rfl rfl ?_
          refine RL.no rfl rfl rfl hg195 rfl rfl ?_
          refine RL.no rfl rfl rfl hg195 rfl rfl ?_
          refine rl_pickT rfl hg195 rfl rfl ?_
          exact RL.nil ⟨Ext.bothEq (congrArg Value.bool hs194) (Ext.skip rfl (Ext.skip rfl (Ext.skip rfl (Ext.skip rfl (Ext.rfl'))))), cs⟩
         ·
          have hs194 := or_f hg195 hb197
          have cs : Ch nb w189 w189 := Ch.refl
          refine RL.yes rfl rfl rfl hg195 ?_
          refine rl_fieldAddr rfl fa42_1 rfl ?_
          refine RL.yes rfl rfl rfl hg195 ?_
          refine rl_loadS (v := (Value.int .i64 y175.bytes)) rfl Tryd.isAgg3 (k192.cell rfl) rfl ?_
          refine RL.yes rfl rfl rfl hg195 ?_
          refine rl_move rfl rfl ?_
          refine RL.yes rfl rfl rfl hg195 ?_
          refine rl_bin rfl rfl B.neq rfl ?_
          refine rl_pickF rfl hg195 rfl rfl ?_
          exact RL.nil ⟨Ext.bothEq (congrArg Value.bool hs194) (Ext.skip rfl (Ext.skip rfl (Ext.skip rfl (Ext.skip rfl (Ext.rfl'))))), cs⟩
       intro w198 c199
       have ah0 := slRep.ch k_Act_pos ah0 c199
       have gl := Kd.ch gl c199
       have h37 := h37.ch0 c199
       have k39 := k39.ch0 c199
       have h76 := slRep.ch kInt_pos h76 c199
       have k89 := k89.ch0 c199
       have h99 := h99.ch0 c199
       have h100 := h100.ch0 c199
       have k112 := k112.ch0 c199
       have c147 := c147.then0 c199
       refine RL.nil (thn_n ?_)
       refine CW.cond (t := b196) rfl (fun q200 => ?_) (fun q200 => ?_)
       ·
        have hb141 := ifT q200 hb141
        refine CW.seq (CW.region ?_)
        refine rl_assign rfl rfl ?_
        refine RL.nil (thn_n (CW.ret ?_))
        refine inB_ret ?_
        refine thn_ret ?_
        refine thn_ret (inB_ret (thn_ret ?_))
        refine thn_ret ?_
        refine inB_ret ?_
        refine thn_ret ?_
        refine thn_ret (inB_ret (thn_ret ?_))
        refine thn_ret ?_
        have f201 := runW_ret hL137 hq140 hb141
        have hb58 := retS f201 hb58
        have f202 := runBO_ret hL54 hq57 hb58
        have hS := retS f202 hS
        obtain rfl := Option.some.inj hS
        exact ret1 rfl ⟨rfl, c147⟩
       have hb141 := ifF q200 hb141
       refine CW.skip ?_
       refine inB_n ?_
       refine thn_n (CW.region ?_)
       refine rl_move rfl rfl ?_
       refine rl_bin rfl rfl B.add rfl ?_
       refine rl_assign rfl rfl ?_
       refine RL.nil (thn_n ?_)
       have ad203 : ∀ b, b < w198.heap.size → ¬ (un (inBlk (PV p177)) (un (inBlk (Value.slice none 0 0)) (un (inBlk (PV p109)) (un (inBlk (PV p77)) (un (inBlk v36) (un (inBlk (PV p38)) (un (inBlk (PV p15)) (un (inBlk z98) nb)))))))) b → ¬ nb b ∧ ¬ (un (inBlk (Value.slice none 0 0)) (un (inBlk (PV p109)) (un (inBlk (PV p77)) (un (inBlk v36) (un (inBlk (PV p38)) (un (inBlk (PV p15)) (un (inBlk z98) nb))))))) b := fun b _ hs => ⟨fun x => x, fun h => hs (un_el h (fun h => (.inr (.inl h))) (fun h => un_el h (fun h => (.inr (.inr (.inl h)))) (fun h => un_el h (fun h => (.inr (.inr (.inr (.inl h))))) (fun h => un_el h (fun h => (.inr (.inr (.inr (.inr (.inl h)))))) (fun h => un_el h (fun h => (.inr (.inr (.inr (.inr (.inr (.inl h))))))) (fun h => un_el h (fun h => (.inr (.inr (.inr (.inr (.inr (.inr (.inl h)))))))) (fun h => un_el h (fun h => (.inr (.inr (.inr (.inr (.inr (.inr (.inr (.inl h))))))))) (fun h => False.elim h))))))))⟩
       have crf : Ch nb w198 w198 := Ch.refl
       have ah0 := slRep.st k_Act_pos ah0 crf ad203
       have gl := Kd.st gl crf ad203
       have h37 := h37.st crf (fun _ _ x => x) ad203 (fun b h => (.inr (.inr (.inr (.inl h)))))
       have k39 := k39.ch0 crf
       have h76 := slRep.st kInt_pos h76 crf ad203
       have k89 := k89.ch0 crf
       have h99 := h99.ch0 crf
       have h100 := h100.ch0 crf
       have k112 := k112.ch0 crf
       have c147 := c147.then0 crf
       have ad204 : ∀ b, b < w198.heap.size → ¬ (un (inBlk (Value.slice none 0 0)) (un (inBlk (PV p109)) (un (inBlk (PV p77)) (un (inBlk v36) (un (inBlk (PV p38)) (un (inBlk (PV p15)) (un (inBlk z98) nb))))))) b → ¬ nb b ∧ ¬ (un (inBlk (PV p109)) (un (inBlk (PV p77)) (un (inBlk v36) (un (inBlk (PV p38)) (un (inBlk (PV p15)) (un (inBlk z98) nb)))))) b := fun b _ hs => ⟨fun x => x, fun h => hs (un_el h (fun h => (.inr (.inl h))) (fun h => un_el h (fun h => (.inr (.inr (.inl h)))) (fun h => un_el h (fun h => (.inr (.inr (.inr (.inl h))))) (fun h => un_el h (fun h => (.inr (.inr (.inr (.inr (.inl h)))))) (fun h => un_el h (fun h => (.inr (.inr (.inr (.inr (.inr (.inl h))))))) (fun h => un_el h (fun h => (.inr (.inr (.inr (.inr (.inr (.inr (.inl h)))))))) (fun h => False.elim h)))))))⟩
       have crf : Ch nb w198 w198 := Ch.refl
       have ah0 := slRep.st k_Act_pos ah0 crf ad204
       have gl := Kd.st gl crf ad204
       have h37 := h37.st crf (fun _ _ x => x) ad204 (fun b h => (.inr (.inr (.inl h))))
       have k39 := k39.ch0 crf
       have h76 := slRep.st kInt_pos h76 crf ad204
       have k89 := k89.ch0 crf
       have h99 := h99.ch0 crf
       have h100 := h100.ch0 crf
       have k112 := k112.ch0 crf
       have c147 := c147.then0 crf
       have hLn := runW_next hL137 hq140 hb141
       exact ⟨k146, Nat.lt_succ_self _, [(3, (PV p15)), (4, (PV p109)), (6, (PV p77)), (18, av0), (19, (Value.int .i64 ((a0.length : Nat) : Int))), (20, (Value.int .i64 ((i53 : Nat) : Int))), (7, (Value.int .i64 (IntKind.i64.wrap (x119 + 1))))], ⟨rfl, rfl, rfl, rfl, rfl, rfl, rfl, trivial⟩, ⟨IntKind.i64.wrap (x119 + 1), rfl, c147, hLn, ah0, gl, h37, k39, h76, k89, h99, h100, k112, d120, d121, d122, d123, d124, d125, d126, d127, d128, d129, d130, d131, d132, d133, d134⟩⟩
      have hb141 := ifF q170 hb141
      refine CW.skip ?_
      refine thn_n (CW.seq (CW.region ?_))
      refine rl_move rfl rfl ?_
      refine rl_move rfl rfl ?_
      have hd205 : ∀ b, (un (inBlk (PV p15)) (inBlk z98)) b → ¬ (un (inBlk (Value.slice none 0 0)) (un (inBlk (PV p109)) (un (inBlk (PV p77)) (un (inBlk v36) (un (inBlk (PV p38)) nb))))) b := fun b h => un_el h (fun h => (fun b hb => fun h => un_el h (fun h => (disSym d156) b hb h) (fun h => un_el h (fun h => (disSym d123) b hb h) (fun h => un_el h (fun h => (disSym d127) b hb h) (fun h => un_el h (fun h => (disSym d130) b hb h) (fun h => un_el h (fun h => (disSym d132) b hb h) (fun h => h)))))) b h) (fun h => (fun b hb => fun h => un_el h (fun h => (disSym d157) b hb h) (fun h => un_el h (fun h => (disSym d124) b hb h) (fun h => un_el h (fun h => d104 b hb h) (fun h => un_el h (fun h => d105 b hb h) (fun h => un_el h (fun h => d106 b hb h) (fun h => h)))))) b h)
      obtain ⟨y209, hy210, hb141⟩ := bindS hb141
      refine rl_callF rfl en10 rfl (ctr10 F w168 w.heap.size (un (inBlk (Value.slice none 0 0)) (un (inBlk (PV p109)) (un (inBlk (PV p77)) (un (inBlk v36) (un (inBlk (PV p38)) nb))))) c147.size (un_lt (fun b hb => (h151.lt b hb).2) (un_lt k112.ltp (un_lt k89.ltp (un_lt (fun b hb => (h37.lt b hb).2) (un_lt k39.ltp nbS))))) p15 z98 hd205 d134 y96 h99 h100 x119 y209 hy210) ?_
      rintro _ w207 ⟨rfl, c208⟩
      have ah0 := slRep.ch k_Act_pos ah0 c208
      have gl := Kd.ch gl c208
      have h37 := h37.ch0 c208
      have k39 := k39.ch0 c208
      have h76 := slRep.ch kInt_pos h76 c208
      have k89 := k89.ch0 c208
      have h99 := h99.ch0 c208
      have h100 := h100.ch0 c208
      have k112 := k112.ch0 c208
      have c147 := c147.then0 c208
      refine rl_alloc (Count.enc Count.z) Tryd.zeroValue42 rfl rfl ?_
      intro p211 w212 n213 k214
      have lo215 : ∀ b, inBlk (PV p211) b → w.heap.size ≤ b := fun b h => Nat.le_trans c147.size (n213.fresh b h)
      have d217 : ∀ b, inBlk (PV p211) b → ¬ inBlk (PV p109) b := disNew n213.fresh k112.ltp
      have d218 : ∀ b, inBlk (PV p211) b → ¬ inBlk (PV p77) b := disNew n213.fresh k89.ltp
      have d219 : ∀ b, inBlk (PV p211) b → ¬ inBlk v36 b := disNew n213.fresh (fun b hb => (h37.lt b hb).2)
      have d220 : ∀ b, inBlk (PV p211) b → ¬ inBlk (PV p38) b := disNew n213.fresh k39.ltp
      have d221 : ∀ b, inBlk (PV p211) b → ¬ inBlk (PV p15) b := disNew n213.fresh h99.ltp
      have d222 : ∀ b, inBlk (PV p211) b → ¬ inBlk z98 b := disNew n213.fresh h100.ltp
      have ah0 := slRep.st k_Act_pos ah0 n213.ch (admNew n213.fresh (fun _ x => x))
      have gl := Kd.st gl n213.ch (admNew n213.fresh (fun _ x => x))
      have h37 := h37.st n213.ch (fun _ _ x => x) (admNew n213.fresh (fun _ x => x)) (fun b h => (.inr (.inr (.inr (.inr (.inl h))))))
      have k39 := k39.ch0 n213.ch
      have h76 := slRep.st kInt_pos h76 n213.ch (admNew n213.fresh (fun _ x => x))
      have k89 := k89.ch0 n213.ch
      have h99 := h99.ch0 n213.ch
      have h100 := h100.ch0 n213.ch
      have k112 := k112.ch0 n213.ch
      have c147 := c147.then0 n213.ch
      refine rl_storeA (vs := (Count.enc y209)) rfl rfl (all_one rfl) Tryd.sizeOf42 rfl k214 rfl ?_
      intro w223 s225 c224 k226
      have ad227 : ∀ b, b < w212.heap.size → ¬ (un (inBlk (PV p211)) (un (inBlk (Value.slice none 0 0)) (un (inBlk (PV p109)) (un (inBlk (PV p77)) (un (inBlk v36) (un (inBlk (PV p38)) (un (inBlk (PV p15)) (un (inBlk z98) nb)))))))) b → ¬ (inBlk (PV p211)) b ∧ ¬ (un (inBlk (PV p211)) (un (inBlk (Value.slice none 0 0)) (un (inBlk (PV p109)) (un (inBlk (PV p77)) (un (inBlk v36) (un (inBlk (PV p38)) (un (inBlk (PV p15)) (un (inBlk z98) nb)))))))) b := fun b _ hs => ⟨fun h => hs (.inl h), hs⟩
      have ah0 := slRep.st k_Act_pos ah0 c224 ad227
      have gl := Kd.st gl c224 ad227
      have h37 := h37.st c224 (fun b hb h => (disSym d219) b hb h) ad227 (fun b h => (.inr (.inr (.inr (.inr (.inl h))))))
      have k39 := k39.ch c224 ((fun b hb h => (disSym d220) b hb h) _ rfl)
      have h76 := slRep.st kInt_pos h76 c224 ad227
      have k89 := k89.ch c224 ((fun b hb h => (disSym d218) b hb h) _ rfl)
      have h99 := h99.ch c224 ((fun b hb h => (disSym d221) b hb h) _ rfl)
      have h100 := h100.ch c224 ((fun b hb h => (disSym d222) b hb h))
      have k112 := k112.ch c224 ((fun b hb h => (disSym d217) b hb h) _ rfl)
      have c147 := c147.then c224 (fun i hi h => absurd (lo215 i h) (Nat.not_le_of_lt hi))
      refine RL.nil (thn_n (CW.seq (CW.region ?_)))
      refine rl_fieldAddr rfl fa42_0 rfl ?_
      refine rl_loadS (v := (Value.int .i64 y209.packets)) rfl Tryd.isAgg3 (k226.cell rfl) rfl ?_
      refine rl_move rfl rfl ?_
      refine rl_bin rfl rfl B.neq rfl ?_
      refine rl_move rfl rfl ?_
      obtain ⟨b230, hb231⟩ : ∃ v, ((!decide (y209.packets = y162.1)) || (!decide (y209.bytes = y162.2))) = v := ⟨_, rfl⟩
      have hb141 := ltS hb231 hb141
      refine RL.join 5 78 (.bool b230) (fun w' => Ch nb w223 w') ?_ ?_
      · rcases Bool.eq_false_or_eq_true (!decide (y209.packets = y162.1)) with hg229 | hg229
        ·
         have hs228 := or_t hg229 hb231
         have cs : Ch nb w223 w223 := Ch.refl
         refine RL.no rfl rfl rfl hg229 rfl rfl ?_
         refine RL.no rfl rfl rfl hg229 rfl rfl ?_
         refine RL.no rfl rfl rfl hg229 rfl rfl ?_
         refine RL.no rfl rfl rfl hg229 rfl rfl ?_
         refine rl_pickT rfl hg229 rfl rfl ?_
         exact RL.nil ⟨Ext.bothEq (congrArg Value.bool hs228) (Ext.skip rfl (Ext.skip rfl (Ext.skip rfl (Ext.skip rfl (Ext.rfl'))))), cs⟩
        ·
         have hs228 := or_f hg229 hb231
         have cs : Ch nb w223 w223 := Ch.refl
         refine RL.yes rfl rfl rfl hg229 ?_
         refine rl_fieldAddr rfl fa42_1 rfl ?_
         refine RL.yes rfl rfl rfl hg229 ?_
         refine rl_loadS (v := (Value.int .i64 y209.bytes)) rfl Tryd.isAgg3 (k226.cell rfl) rfl ?_
         refine RL.yes rfl rfl rfl hg229 ?_
         refine rl_move rfl rfl ?_
         refine RL.yes rfl rfl rfl hg229 ?_
         refine rl_bin rfl rfl B.neq rfl ?_
         refine rl_pickF rfl hg229 rfl rfl ?_
         exact RL.nil ⟨Ext.bothEq (congrArg Value.bool hs228) (Ext.skip rfl (Ext.skip rfl (Ext.skip rfl (Ext.skip rfl (Ext.rfl'))))), cs⟩
      intro w232 c233
      have ah0 := slRep.ch k_Act_pos ah0 c233
      have gl := Kd.ch gl c233
      have h37 := h37.ch0 c233
      have k39 := k39.ch0 c233
      have h76 := slRep.ch kInt_pos h76 c233
      have k89 := k89.ch0 c233
      have h99 := h99.ch0 c233
      have h100 := h100.ch0 c233
      have k112 := k112.ch0 c233
      have c147 := c147.then0 c233
      refine RL.nil (thn_n ?_)
      refine CW.cond (t := b230) rfl (fun q234 => ?_) (fun q234 => ?_)
      ·
       have hb141 := ifT q234 hb141
       refine CW.seq (CW.region ?_)
       refine rl_assign rfl rfl ?_
       refine RL.nil (thn_n (CW.ret ?_))
       refine inB_ret ?_
       refine thn_ret ?_
       refine thn_ret (inB_ret (thn_ret ?_))
       refine thn_ret ?_
       refine inB_ret ?_
       refine thn_ret ?_
       refine thn_ret (inB_ret (thn_ret ?_))
       refine thn_ret ?_
       have f235 := runW_ret hL137 hq140 hb141
       have hb58 := retS f235 hb58
       have f236 := runBO_ret hL54 hq57 hb58
       have hS := retS f236 hS
       obtain rfl := Option.some.inj hS
       exact ret1 rfl ⟨rfl, c147⟩
      have hb141 := ifF q234 hb141
      refine CW.skip ?_
      refine inB_n ?_
      refine thn_n (CW.region ?_)
      refine rl_move rfl rfl ?_
      refine rl_bin rfl rfl B.add rfl ?_
      refine rl_assign rfl rfl ?_
      refine RL.nil (thn_n ?_)
      have ad237 : ∀ b, b < w232.heap.size → ¬ (un (inBlk (PV p211)) (un (inBlk (Value.slice none 0 0)) (un (inBlk (PV p109)) (un (inBlk (PV p77)) (un (inBlk v36) (un (inBlk (PV p38)) (un (inBlk (PV p15)) (un (inBlk z98) nb)))))))) b → ¬ nb b ∧ ¬ (un (inBlk (Value.slice none 0 0)) (un (inBlk (PV p109)) (un (inBlk (PV p77)) (un (inBlk v36) (un (inBlk (PV p38)) (un (inBlk (PV p15)) (un (inBlk z98) nb))))))) b := fun b _ hs => ⟨fun x => x, fun h => hs (un_el h (fun h => (.inr (.inl h))) (fun h => un_el h (fun h => (.inr (.inr (.inl h)))) (fun h => un_el h (fun h => (.inr (.inr (.inr (.inl h))))) (fun h => un_el h (fun h => (.inr (.inr (.inr (.inr (.inl h)))))) (fun h => un_el h (fun h => (.inr (.inr (.inr (.inr (.inr (.inl h))))))) (fun h => un_el h (fun h => (.inr (.inr (.inr (.inr (.inr (.inr (.inl h)))))))) (fun h => un_el h (fun h => (.inr (.inr (.inr (.inr (.inr (.inr (.inr (.inl h))))))))) (fun h => False.elim h))))))))⟩
      have crf : Ch nb w232 w232 := Ch.refl
      have ah0 := slRep.st k_Act_pos ah0 crf ad237
      have gl := Kd.st gl crf ad237
      have h37 := h37.st crf (fun _ _ x => x) ad237 (fun b h => (.inr (.inr (.inr (.inl h)))))
      have k39 := k39.ch0 crf
      have h76 := slRep.st kInt_pos h76 crf ad237
      have k89 := k89.ch0 crf
      have h99 := h99.ch0 crf
      have h100 := h100.ch0 crf
      have k112 := k112.ch0 crf
      have c147 := c147.then0 crf
      have ad238 : ∀ b, b < w232.heap.size → ¬ (un (inBlk (Value.slice none 0 0)) (un (inBlk (PV p109)) (un (inBlk (PV p77)) (un (inBlk v36) (un (inBlk (PV p38)) (un (inBlk (PV p15)) (un (inBlk z98) nb))))))) b → ¬ nb b ∧ ¬ (un (inBlk (PV p109)) (un (inBlk (PV p77)) (un (inBlk v36) (un (inBlk (PV p38)) (un (inBlk (PV p15)) (un (inBlk z98) nb)))))) b := fun b _ hs => ⟨fun x => x, fun h => hs (un_el h (fun h => (.inr (.inl h))) (fun h => un_el h (fun h => (.inr (.inr (.inl h)))) (fun h => un_el h (fun h => (.inr (.inr (.inr (.inl h))))) (fun h => un_el h (fun h => (.inr (.inr (.inr (.inr (.inl h)))))) (fun h => un_el h (fun h => (.inr (.inr (.inr (.inr (.inr (.inl h))))))) (fun h => un_el h (fun h => (.inr (.inr (.inr (.inr (.inr (.inr (.inl h)))))))) (fun h => False.elim h)))))))⟩
      have crf : Ch nb w232 w232 := Ch.refl
      have ah0 := slRep.st k_Act_pos ah0 crf ad238
      have gl := Kd.st gl crf ad238
      have h37 := h37.st crf (fun _ _ x => x) ad238 (fun b h => (.inr (.inr (.inl h))))
      have k39 := k39.ch0 crf
      have h76 := slRep.st kInt_pos h76 crf ad238
      have k89 := k89.ch0 crf
      have h99 := h99.ch0 crf
      have h100 := h100.ch0 crf
      have k112 := k112.ch0 crf
      have c147 := c147.then0 crf
      have hLn := runW_next hL137 hq140 hb141
      exact ⟨k146, Nat.lt_succ_self _, [(3, (PV p15)), (4, (PV p109)), (6, (PV p77)), (18, av0), (19, (Value.int .i64 ((a0.length : Nat) : Int))), (20, (Value.int .i64 ((i53 : Nat) : Int))), (7, (Value.int .i64 (IntKind.i64.wrap (x119 + 1))))], ⟨rfl, rfl, rfl, rfl, rfl, rfl, rfl, trivial⟩, ⟨IntKind.i64.wrap (x119 + 1), rfl, c147, hLn, ah0, gl, h37, k39, h76, k89, h99, h100, k112, d120, d121, d122, d123, d124, d125, d126, d127, d128, d129, d130, d131, d132, d133, d134⟩⟩
     have hb141 := ifF q150 hb141
     refine CW.exit ?_
     refine thn_exit ?_
     refine thn_exit ?_
     refine inB_hit ?_
     have hLf := runW_fin hL137 hq140 hb141
     exact ⟨x119, ⟨rfl, rfl, rfl, rfl, rfl, rfl, trivial⟩, c147, hLf, ah0, gl, h37, k39, h76, k89, h99, h100, k112, d120, d121, d122, d123, d124, d125, d126, d127, d128, d129, d130, d131, d132, d133, d134⟩
    rintro _ w240 ⟨x119, hE241, c239, f242, ah0, gl, h37, k39, h76, k89, h99, h100, k112, d120, d121, d122, d123, d124, d125, d126, d127, d128, d129, d130, d131, d132, d133, d134⟩
    have hb58 := finS f242 hb58
    refine thn_n (CW.sub [(3, (PV p15)), (4, (PV p109)), (6, (PV p77)), (18, av0), (19, (Value.int .i64 ((a0.length : Nat) : Int))), (20, (Value.int .i64 ((i53 : Nat) : Int)))] hE241 ?_)
    refine CW.seq ?_
    have d268 : ∀ b, inBlk (Value.slice none 0 0) b → ¬ inBlk (PV p109) b := fun _ h => h.elim
    have d269 : ∀ b, inBlk (Value.slice none 0 0) b → ¬ inBlk (PV p77) b := fun _ h => h.elim
    have d270 : ∀ b, inBlk (Value.slice none 0 0) b → ¬ inBlk v36 b := fun _ h => h.elim
    have d271 : ∀ b, inBlk (Value.slice none 0 0) b → ¬ inBlk (PV p38) b := fun _ h => h.elim
    have d272 : ∀ b, inBlk (Value.slice none 0 0) b → ¬ inBlk (PV p15) b := fun _ h => h.elim
    have d273 : ∀ b, inBlk (Value.slice none 0 0) b → ¬ inBlk z98 b := fun _ h => h.elim
    have crf : Ch nb w240 w240 := Ch.refl
    have ah0 := slRep.st k_Act_pos ah0 crf admNil
    have gl := Kd.st gl crf admNil
    have h37 := h37.st crf (fun _ _ x => x) admNil (fun b h => (.inr (.inr (.inr (.inl h)))))
    have k39 := k39.ch0 crf
    have k89 := k89.ch0 crf
    have h99 := h99.ch0 crf
    have h100 := h100.ch0 crf
    have k112 := k112.ch0 crf
    have c239 := c239.then0 crf
    have h267 : SlO k_Told 97 F w.heap.size (un (inBlk (Value.slice none 0 0)) (un (inBlk (PV p109)) (un (inBlk (PV p77)) (un (inBlk v36) (un (inBlk (PV p38)) (un (inBlk (PV p15)) (un (inBlk z98) nb))))))) w240 ([] : List Told) (.slice none 0 0) := SlO.nil
    obtain ⟨y278, hy279, hb58⟩ := bindS hb58
    obtain ⟨y286, hy287, hb58⟩ := bindS hb58
    obtain ⟨y292, hy293, hb58⟩ := bindS hb58
    obtain ⟨b314, hb315, hb58⟩ := bindS hb58
    obtain ⟨b328, hb329, hb58⟩ := bindS hb58
    refine CW.cutN (fun E' w' => Sub [(3, (PV p15)), (4, (PV p109)), (18, av0), (19, (Value.int .i64 ((a0.length : Nat) : Int))), (20, (Value.int .i64 ((i53 : Nat) : Int))), (111, (Value.bool b328))] E' ∧ Ch nb w240 w') ?_ ?_
    ·
     rcases Bool.eq_false_or_eq_true (!y292) with hg330 | hg330
     ·
      have hs331 := orO_t hg330 hb315
      have hs332 := orO_t (Option.some.inj hs331).symm hb329
      refine CW.draw 33 [(none, fun fx O uu wx => uu = (PV p15)), (none, fun fx O uu wx => ∃ (v280 : Value), uu = v280 ∧ slRep k_Service (G F w.heap.size (un (inBlk (Value.slice none 0 0)) (un (inBlk (PV p109)) (un (inBlk (PV p77)) (un (inBlk v36) (un (inBlk (PV p38)) (un (inBlk (PV p15)) (un (inBlk z98) nb)))))))) wx y278 v280), (none, fun fx O uu wx => uu = (PV p109)), (none, fun fx O uu wx => ∃ (v288 : Value), uu = v288 ∧ slRep k_Service (G F w.heap.size (un (inBlk (Value.slice none 0 0)) (un (inBlk (PV p109)) (un (inBlk (PV p77)) (un (inBlk v36) (un (inBlk (PV p38)) (un (inBlk (PV p15)) (un (inBlk z98) nb)))))))) wx y286 v288), (none, fun fx O uu wx => uu = (Value.bool y292)), (none, fun fx O uu wx => uu = (Value.bool (!y292))), (none, fun fx O uu wx => uu = (Value.bool (!y292))), (none, fun _ O uu wx => uu = undef), (none, fun _ O uu wx => uu = undef), (none, fun _ O uu wx => uu = undef), (none, fun _ O uu wx => uu = undef), (none, fun _ O uu wx => uu = undef), (none, fun _ O uu wx => uu = undef), (none, fun _ O uu wx => uu = undef), (none, fun _ O uu wx => uu = undef), (none, fun _ O uu wx => uu = undef), (none, fun _ O uu wx => uu = undef), (none, fun fx O uu wx => uu = (Value.bool b314)), (none, fun fx O uu wx => uu = (Value.bool b314)), (none, fun _ O uu wx => uu = undef), (none, fun _ O uu wx => uu = undef), (none, fun _ O uu wx => uu = undef), (none, fun _ O uu wx => uu = undef), (none, fun _ O uu wx => uu = undef), (none, fun _ O uu wx => uu = undef), (none, fun _ O uu wx => uu = undef), (none, fun _ O uu wx => uu = undef), (none, fun _ O uu wx => uu = undef), (none, fun _ O uu wx => uu = undef), (none, fun _ O uu wx => uu = undef), (none, fun _ O uu wx => uu = undef), (none, fun _ O uu wx => uu = undef), (none, fun fx O uu wx => uu = (Value.bool b328))] [[], [0], [], [2], [1, 3], [4], [5], [6], [6], [6], [6], [6], [6], [6], [6], [6], [6], [6], [17], [18], [18], [18], [18], [18], [18], [18], [18], [18], [18], [18], [18], [18], [18]] [32] nb (fun _ h => h.elim) mixed rfl rfl rfl rfl ?_ ?_
      ·
       refine Each.consS (fun fl O wk hE hN hO ck => ?_) ?_
       ·
        refine rl_move rfl rfl ?_
        exact RL.nil ⟨_, rfl, Ch.refl, rfl⟩
       refine Each.consA ⟨fun _ _ _ _ _ cc hh => by obtain ⟨v280, e, h281⟩ := hh; exact ⟨v280, e, slRep.ch k_Service_pos h281 cc⟩, fun h => absurd rfl h, fun fl O wk hE hN hO ck => ?_⟩ ?_
       ·
        have h37 := h37.ch0 ck
        have k39 := k39.ch0 ck
        have k89 := k89.ch0 ck
        have h99 := h99.ch0 ck
        have h100 := h100.ch0 ck
        have k112 := k112.ch0 ck
        have h267 := h267.ch0 ck
        have c239 := c239.then0 ck
        refine Need.o1 rfl rfl rfl (fun _ h => h) ?_
        have hd334 : ∀ b, (un (inBlk (PV p15)) (inBlk z98)) b → ¬ (un (inBlk (Value.slice none 0 0)) (un (inBlk (PV p109)) (un (inBlk (PV p77)) (un (inBlk v36) (un (inBlk (PV p38)) nb))))) b := fun b h => un_el h (fun h => (fun b hb => fun h => un_el h (fun h => (disSym d272) b hb h) (fun h => un_el h (fun h => (disSym d123) b hb h) (fun h => un_el h (fun h => (disSym d127) b hb h) (fun h => un_el h (fun h => (disSym d130) b hb h) (fun h => un_el h (fun h => (disSym d132) b hb h) (fun h => h)))))) b h) (fun h => (fun b hb => fun h => un_el h (fun h => (disSym d273) b hb h) (fun h => un_el h (fun h => (disSym d124) b hb h) (fun h => un_el h (fun h => d104 b hb h) (fun h => un_el h (fun h => d105 b hb h) (fun h => un_el h (fun h => d106 b hb h) (fun h => h)))))) b h)
        have hS335 : (un (inBlk (Value.slice none 0 0)) (un (inBlk (PV p109)) (un (inBlk (PV p77)) (un (inBlk v36) (un (inBlk (PV p38)) (un (inBlk (PV p15)) (un (inBlk z98) nb))))))) = (un (inBlk (PV p15)) (un (inBlk z98) (un (inBlk (Value.slice none 0 0)) (un (inBlk (PV p109)) (un (inBlk (PV p77)) (un (inBlk v36) (un (inBlk (PV p38)) nb))))))) := funext fun b => propext ⟨fun h => un_el h (fun h => (.inr (.inr (.inl h)))) (fun h => un_el h (fun h => (.inr (.inr (.inr (.inl h))))) (fun h => un_el h (fun h => (.inr (.inr (.inr (.inr (.inl h)))))) (fun h => un_el h (fun h => (.inr (.inr (.inr (.inr (.inr (.inl h))))))) (fun h => un_el h (fun h => (.inr (.inr (.inr (.inr (.inr (.inr (.inl h)))))))) (fun h => un_el h (fun h => (.inl h)) (fun h => un_el h (fun h => (.inr (.inl h))) (fun h => False.elim h))))))), fun h => un_el h (fun h => (.inr (.inr (.inr (.inr (.inr (.inl h))))))) (fun h => un_el h (fun h => (.inr (.inr (.inr (.inr (.inr (.inr (.inl h)))))))) (fun h => un_el h (fun h => (.inl h)) (fun h => un_el h (fun h => (.inr (.inl h))) (fun h => un_el h (fun h => (.inr (.inr (.inl h)))) (fun h => un_el h (fun h => (.inr (.inr (.inr (.inl h))))) (fun h => un_el h (fun h => (.inr (.inr (.inr (.inr (.inl h)))))) (fun h => False.elim h)))))))⟩
        refine rl_callF rfl en11 rfl (ctr11 F wk w.heap.size (un (inBlk (Value.slice none 0 0)) (un (inBlk (PV p109)) (un (inBlk (PV p77)) (un (inBlk v36) (un (inBlk (PV p38)) nb))))) c239.size (un_lt (fun b hb => (h267.lt b hb).2) (un_lt k112.ltp (un_lt k89.ltp (un_lt (fun b hb => (h37.lt b hb).2) (un_lt k39.ltp nbS))))) p15 z98 hd334 d134 y96 h99 h100 y278 hy279) ?_
        rintro v338 w336 ⟨_, rfl, h339, c337⟩
        rw [← hS335] at h339
        have h339 := SlO.backR k_Service_pos h339 (un_lt (fun b hb => (h267.lt b hb).2) (un_lt k112.ltp (un_lt k89.ltp (un_lt (fun b hb => (h37.lt b hb).2) (un_lt k39.ltp (un_lt h99.ltp (un_lt h100.ltp nbS))))))) c239.size
        exact RL.nil ⟨_, rfl, c337, ⟨v338, rfl, h339⟩⟩
       refine Each.consS (fun fl O wk hE hN hO ck => ?_) ?_
       ·
        refine rl_move rfl rfl ?_
        exact RL.nil ⟨_, rfl, Ch.refl, rfl⟩
       refine Each.consA ⟨fun _ _ _ _ _ cc hh => by obtain ⟨v288, e, h289⟩ := hh; exact ⟨v288, e, slRep.ch k_Service_pos h289 cc⟩, fun h => absurd rfl h, fun fl O wk hE hN hO ck => ?_⟩ ?_
       ·
        have h37 := h37.ch0 ck
        have k39 := k39.ch0 ck
        have k89 := k89.ch0 ck
        have h99 := h99.ch0 ck
        have h100 := h100.ch0 ck
        have k112 := k112.ch0 ck
        have h267 := h267.ch0 ck
        have c239 := c239.then0 ck
        refine Need.o1 rfl rfl rfl (fun _ h => h) ?_
        have hd341 : ∀ b, (un (inBlk (PV p109)) (inBlk (Value.slice none 0 0))) b → ¬ (un (inBlk (PV p77)) (un (inBlk v36) (un (inBlk (PV p38)) (un (inBlk (PV p15)) (un (inBlk z98) nb))))) b := fun b h => un_el h (fun h => (fun b hb => fun h => un_el h (fun h => d120 b hb h) (fun h => un_el h (fun h => d121 b hb h) (fun h => un_el h (fun h => d122 b hb h) (fun h => un_el h (fun h => d123 b hb h) (fun h => un_el h (fun h => d124 b hb h) (fun h => h)))))) b h) (fun h => (fun b hb => fun h => un_el h (fun h => d269 b hb h) (fun h => un_el h (fun h => d270 b hb h) (fun h => un_el h (fun h => d271 b hb h) (fun h => un_el h (fun h => d272 b hb h) (fun h => un_el h (fun h => d273 b hb h) (fun h => h)))))) b h)
        have hS342 : (un (inBlk (Value.slice none 0 0)) (un (inBlk (PV p109)) (un (inBlk (PV p77)) (un (inBlk v36) (un (inBlk (PV p38)) (un (inBlk (PV p15)) (un (inBlk z98) nb))))))) = (un (inBlk (PV p109)) (un (inBlk (Value.slice none 0 0)) (un (inBlk (PV p77)) (un (inBlk v36) (un (inBlk (PV p38)) (un (inBlk (PV p15)) (un (inBlk z98) nb))))))) := funext fun b => propext ⟨fun h => un_el h (fun h => (.inr (.inl h))) (fun h => un_el h (fun h => (.inl h)) (fun h => un_el h (fun h => (.inr (.inr (.inl h)))) (fun h => un_el h (fun h => (.inr (.inr (.inr (.inl h))))) (fun h => un_el h (fun h => (.inr (.inr (.inr (.inr (.inl h)))))) (fun h => un_el h (fun h => (.inr (.inr (.inr (.inr (.inr (.inl h))))))) (fun h => un_el h (fun h => (.inr (.inr (.inr (.inr (.inr (.inr (.inl h)))))))) (fun h => False.elim h))))))), fun h => un_el h (fun h => (.inr (.inl h))) (fun h => un_el h (fun h => (.inl h)) (fun h => un_el h (fun h => (.inr (.inr (.inl h)))) (fun h => un_el h (fun h => (.inr (.inr (.inr (.inl h))))) (fun h => un_el h (fun h => (.inr (.inr (.inr (.inr (.inl h)))))) (fun h => un_el h (fun h => (.inr (.inr (.inr (.inr (.inr (.inl h))))))) (fun h => un_el h (fun h => (.inr (.inr (.inr (.inr (.inr (.inr (.inl h)))))))) (fun h => False.elim h)))))))⟩
        refine rl_callF rfl en19 rfl (ctr19 F wk w.heap.size (un (inBlk (PV p77)) (un (inBlk v36) (un (inBlk (PV p38)) (un (inBlk (PV p15)) (un (inBlk z98) nb))))) c239.size (un_lt k89.ltp (un_lt (fun b hb => (h37.lt b hb).2) (un_lt k39.ltp (un_lt h99.ltp (un_lt h100.ltp nbS))))) p109 (Value.slice none 0 0) hd341 (disSym d268) ({ all := [] } : Stats_2) k112 (hS342 ▸ h267) y286 hy287) ?_
        rintro v345 w343 ⟨_, rfl, h346, c344⟩
        rw [← hS342] at h346
        have h346 := SlO.backR k_Service_pos h346 (un_lt (fun b hb => (h267.lt b hb).2) (un_lt k112.ltp (un_lt k89.ltp (un_lt (fun b hb => (h37.lt b hb).2) (un_lt k39.ltp (un_lt h99.ltp (un_lt h100.ltp nbS))))))) c239.size
        exact RL.nil ⟨_, rfl, c344, ⟨v345, rfl, h346⟩⟩
       refine Each.consS (fun fl O wk hE hN hO ck => ?_) ?_
       ·
        refine Need.one rfl rfl rfl ?_
        rintro _ ⟨v280, e347, h281⟩
        obtain rfl := e347.symm
        refine Need.one rfl rfl rfl ?_
        rintro _ ⟨v288, e348, h289⟩
        obtain rfl := e348.symm
        refine rl_callF rfl en18 rfl (ctr18 (G F w.heap.size (un (inBlk (Value.slice none 0 0)) (un (inBlk (PV p109)) (un (inBlk (PV p77)) (un (inBlk v36) (un (inBlk (PV p38)) (un (inBlk (PV p15)) (un (inBlk z98) nb)))))))) wk y278 v280 h281 y286 v288 h289 y292 hy293) ?_
        rintro _ w349 ⟨rfl, c350⟩
        exact RL.nil ⟨_, rfl, c350, rfl⟩
       refine Each.consS (fun fl O wk hE hN hO ck => ?_) ?_
       ·
        refine Need.o1 rfl rfl rfl (fun _ h => h) ?_
        refine rl_not rfl rfl ?_
        exact RL.nil ⟨_, rfl, Ch.refl, rfl⟩
       refine Each.consS (fun fl O wk hE hN hO ck => ?_) ?_
       ·
        refine Need.o1 rfl rfl rfl (fun _ h => h) ?_
        refine rl_move rfl rfl ?_
        exact RL.nil ⟨_, rfl, Ch.refl, rfl⟩
       refine Each.consS (fun fl O wk hE hN hO ck => ?_) ?_
       ·
        refine Need.o1 rfl rfl rfl (fun _ h => h) ?_
        refine RL.no rfl rfl rfl hg330 rfl rfl ?_
        exact RL.nil ⟨_, rfl, Ch.refl, rfl⟩
       refine Each.consS (fun fl O wk hE hN hO ck => ?_) ?_
       ·
        refine Need.o1 rfl rfl rfl (fun _ h => h) ?_
        refine RL.no rfl rfl rfl hg330 rfl rfl ?_
        exact RL.nil ⟨_, rfl, Ch.refl, rfl⟩
       refine Each.consS (fun fl O wk hE hN hO ck => ?_) ?_
       ·
        refine Need.o1 rfl rfl rfl (fun _ h => h) ?_
        refine RL.no rfl rfl rfl hg330 rfl rfl ?_
        exact RL.nil ⟨_, rfl, Ch.refl, rfl⟩
       refine Each.consS (fun fl O wk hE hN hO ck => ?_) ?_
       ·
        refine Need.o1 rfl rfl rfl (fun _ h => h) ?_
        refine RL.no rfl rfl rfl hg330 rfl rfl ?_
        exact RL.nil ⟨_, rfl, Ch.refl, rfl⟩
       refine Each.consS (fun fl O wk hE hN hO ck => ?_) ?_
       ·
        refine Need.o1 rfl rfl rfl (fun _ h => h) ?_
        refine RL.no rfl rfl rfl hg330 rfl rfl ?_
        exact RL.nil ⟨_, rfl, Ch.refl, rfl⟩
       refine Each.consS (fun fl O wk hE hN hO ck => ?_) ?_
       ·
        refine Need.o1 rfl rfl rfl (fun _ h => h) ?_
        refine RL.no rfl rfl rfl hg330 rfl rfl ?_
        exact RL.nil ⟨_, rfl, Ch.refl, rfl⟩
       refine Each.consS (fun fl O wk hE hN hO ck => ?_) ?_
       ·
        refine Need.o1 rfl rfl rfl (fun _ h => h) ?_
        refine RL.no rfl rfl rfl hg330 rfl rfl ?_
        exact RL.nil ⟨_, rfl, Ch.refl, rfl⟩
       refine Each.consS (fun fl O wk hE hN hO ck => ?_) ?_
       ·
        refine Need.o1 rfl rfl rfl (fun _ h => h) ?_
        refine RL.no rfl rfl rfl hg330 rfl rfl ?_
        exact RL.nil ⟨_, rfl, Ch.refl, rfl⟩
       refine Each.consS (fun fl O wk hE hN hO ck => ?_) ?_
       ·
        refine Need.o1 rfl rfl rfl (fun _ h => h) ?_
        refine RL.no rfl rfl rfl hg330 rfl rfl ?_
        exact RL.nil ⟨_, rfl, Ch.refl, rfl⟩
       refine Each.consS (fun fl O wk hE hN hO ck => ?_) ?_
       ·
        refine Need.o1 rfl rfl rfl (fun _ h => h) ?_
        refine RL.no rfl rfl rfl hg330 rfl rfl ?_
        exact RL.nil ⟨_, rfl, Ch.refl, rfl⟩
       refine Each.consS (fun fl O wk hE hN hO ck => ?_) ?_
       ·
        refine Need.o1 rfl rfl rfl (fun _ h => h) ?_
        refine rl_pickT rfl hg330 rfl rfl ?_
        exact RL.nil ⟨_, rfl, Ch.refl, congrArg Value.bool (Option.some.inj hs331)⟩
       refine Each.consS (fun fl O wk hE hN hO ck => ?_) ?_
       ·
        refine Need.o1 rfl rfl rfl (fun _ h => h) ?_
        refine rl_move rfl rfl ?_
        exact RL.nil ⟨_, rfl, Ch.refl, rfl⟩
       refine Each.consS (fun fl O wk hE hN hO ck => ?_) ?_
       ·
        refine Need.o1 rfl rfl rfl (fun _ h => h) ?_
        refine RL.no rfl rfl rfl (Option.some.inj hs331).symm rfl rfl ?_
        exact RL.nil ⟨_, rfl, Ch.refl, rfl⟩
       refine Each.consS (fun fl O wk hE hN hO ck => ?_) ?_
       ·
        refine Need.o1 rfl rfl rfl (fun _ h => h) ?_
        refine RL.no rfl rfl rfl (Option.some.inj hs331).symm rfl rfl ?_
        exact RL.nil ⟨_, rfl, Ch.refl, rfl⟩
       refine Each.consS (fun fl O wk hE hN hO ck => ?_) ?_
       ·
        refine Need.o1 rfl rfl rfl (fun _ h => h) ?_
        refine RL.no rfl rfl rfl (Option.some.inj hs331).symm rfl rfl ?_
        exact RL.nil ⟨_, rfl, Ch.refl, rfl⟩
       refine Each.consS (fun fl O wk hE hN hO ck => ?_) ?_
       ·
        refine Need.o1 rfl rfl rfl (fun _ h => h) ?_
        refine RL.no rfl rfl rfl (Option.some.inj hs331).symm rfl rfl ?_
        exact RL.nil ⟨_, rfl, Ch.refl, rfl⟩
       refine Each.consS (fun fl O wk hE hN hO ck => ?_) ?_
       ·
        refine Need.o1 rfl rfl rfl (fun _ h => h) ?_
        refine RL.no rfl rfl rfl (Option.some.inj hs331).symm rfl rfl ?_
        exact RL.nil ⟨_, rfl, Ch.refl, rfl⟩
       refine Each.consS (fun fl O wk hE hN hO ck => ?_) ?_
       ·
        refine Need.o1 rfl rfl rfl (fun _ h => h) ?_
        refine RL.no rfl rfl rfl (Option.some.inj hs331).symm rfl rfl ?_
        exact RL.nil ⟨_, rfl, Ch.refl, rfl⟩
       refine Each.consS (fun fl O wk hE hN hO ck => ?_) ?_
       ·
        refine Need.o1 rfl rfl rfl (fun _ h => h) ?_
        refine RL.no rfl rfl rfl (Option.some.inj hs331).symm rfl rfl ?_
        exact RL.nil ⟨_, rfl, Ch.refl, rfl⟩
       refine Each.consS (fun fl O wk hE hN hO ck => ?_) ?_
       ·
        refine Need.o1 rfl rfl rfl (fun _ h => h) ?_
        refine RL.no rfl rfl rfl (Option.some.inj hs331).symm rfl rfl ?_
        exact RL.nil ⟨_, rfl, Ch.refl, rfl⟩
       refine Each.consS (fun fl O wk hE hN hO ck => ?_) ?_
       ·
        refine Need.o1 rfl rfl rfl (fun _ h => h) ?_
        refine RL.no rfl rfl rfl (Option.some.inj hs331).symm rfl rfl ?_
        exact RL.nil ⟨_, rfl, Ch.refl, rfl⟩
       refine Each.consS (fun fl O wk hE hN hO ck => ?_) ?_
       ·
        refine Need.o1 rfl rfl rfl (fun _ h => h) ?_
        refine RL.no rfl rfl rfl (Option.some.inj hs331).symm rfl rfl ?_
        exact RL.nil ⟨_, rfl, Ch.refl, rfl⟩
       refine Each.consS (fun fl O wk hE hN hO ck => ?_) ?_
       ·
        refine Need.o1 rfl rfl rfl (fun _ h => h) ?_
        refine RL.no rfl rfl rfl (Option.some.inj hs331).symm rfl rfl ?_
        exact RL.nil ⟨_, rfl, Ch.refl, rfl⟩
       refine Each.consS (fun fl O wk hE hN hO ck => ?_) ?_
       ·
        refine Need.o1 rfl rfl rfl (fun _ h => h) ?_
        refine RL.no rfl rfl rfl (Option.some.inj hs331).symm rfl rfl ?_
        exact RL.nil ⟨_, rfl, Ch.refl, rfl⟩
       refine Each.consS (fun fl O wk hE hN hO ck => ?_) ?_
       ·
        refine Need.o1 rfl rfl rfl (fun _ h => h) ?_
        refine RL.no rfl rfl rfl (Option.some.inj hs331).symm rfl rfl ?_
        exact RL.nil ⟨_, rfl, Ch.refl, rfl⟩
       refine Each.consS (fun fl O wk hE hN hO ck => ?_) ?_
       ·
        refine Need.o1 rfl rfl rfl (fun _ h => h) ?_
        refine rl_pickT rfl (Option.some.inj hs331).symm rfl rfl ?_
        exact RL.nil ⟨_, rfl, Ch.refl, congrArg Value.bool (Option.some.inj hs332)⟩
       trivial
      intro hvO381 OpO381 O381 w379 hO382 c380 hN383
      refine Need.o1 rfl rfl rfl (fun _ h => h) ?_
      exact RL.nil ⟨rfl, ⟨rfl, rfl, rfl, rfl, rfl, rfl, trivial⟩, c380⟩
     have hs385 := orO_f hg330 hb315
     obtain ⟨y298, hy299, hs385⟩ := bindS hs385
     obtain ⟨y306, hy307, hs385⟩ := bindS hs385
     obtain ⟨y312, hy313, hs385⟩ := bindS hs385
     rcases Bool.eq_false_or_eq_true b314 with hg386 | hg386
     ·
      have hs387 := orO_t hg386 hb329
      refine CW.draw 33 [(none, fun fx O uu wx => uu = (PV p15)), (none, fun fx O uu wx => ∃ (v280 : Value), uu = v280 ∧ slRep k_Service (G F w.heap.size (un (inBlk (Value.slice none 0 0)) (un (inBlk (PV p109)) (un (inBlk (PV p77)) (un (inBlk v36) (un (inBlk (PV p38)) (un (inBlk (PV p15)) (un (inBlk z98) nb)))))))) wx y278 v280), (none, fun fx O uu wx => uu = (PV p109)), (none, fun fx O uu wx => ∃ (v288 : Value), uu = v288 ∧ slRep k_Service (G F w.heap.size (un (inBlk (Value.slice none 0 0)) (un (inBlk (PV p109)) (un (inBlk (PV p77)) (un (inBlk v36) (un (inBlk (PV p38)) (un (inBlk (PV p15)) (un (inBlk z98) nb)))))))) wx y286 v288), (none, fun fx O uu wx => uu = (Value.bool y292)), (none, fun fx O uu wx => uu = (Value.bool (!y292))), (none, fun fx O uu wx => uu = (Value.bool (!y292))), (none, fun fx O uu wx => uu = (PV p15)), (none, fun fx O uu wx => uu = (Value.pointer (some ⟨p77, 51, none⟩))), (none, fun fx O uu wx => uu = (Value.int .i64 x61.top)), (none, fun fx O uu wx => ∃ (v300 : Value), uu = v300 ∧ slRep k_Service (G F w.heap.size (un (inBlk (Value.slice none 0 0)) (un (inBlk (PV p109)) (un (inBlk (PV p77)) (un (inBlk v36) (un (inBlk (PV p38)) (un (inBlk (PV p15)) (un (inBlk z98) nb)))))))) wx y298 v300), (none, fun fx O uu wx => uu = (PV p109)), (none, fun fx O uu wx => uu = (Value.pointer (some ⟨p77, 51, none⟩))), (none, fun fx O uu wx => uu = (Value.int .i64 x61.top)), (none, fun fx O uu wx => ∃ (v308 : Value), uu = v308 ∧ slRep k_Service (G F w.heap.size (un (inBlk (Value.slice none 0 0)) (un (inBlk (PV p109)) (un (inBlk (PV p77)) (un (inBlk v36) (un (inBlk (PV p38)) (un (inBlk (PV p15)) (un (inBlk z98) nb)))))))) wx y306 v308), (none, fun fx O uu wx => uu = (Value.bool y312)), (none, fun fx O uu wx => uu = (Value.bool (!y312))), (none, fun fx O uu wx => uu = (Value.bool b314)), (none, fun fx O uu wx => uu = (Value.bool b314)), (none, fun _ O uu wx => uu = undef), (none, fun _ O uu wx => uu = undef), (none, fun _ O uu wx => uu = undef), (none, fun _ O uu wx => uu = undef), (none, fun _ O uu wx => uu = undef), (none, fun _ O uu wx => uu = undef), (none, fun _ O uu wx => uu = undef), (none, fun _ O uu wx => uu = undef), (none, fun _ O uu wx => uu = undef), (none, fun _ O uu wx => uu = undef), (none, fun _ O uu wx => uu = undef), (none, fun _ O uu wx => uu = undef), (none, fun _ O uu wx => uu = undef), (none, fun fx O uu wx => uu = (Value.bool b328))] [[], [0], [], [2], [1, 3], [4], [5], [6], [6], [6, 8], [6, 7, 9], [6], [6], [6, 12], [6, 11, 13], [6, 10, 14], [6, 15], [6, 16], [17], [18], [18], [18], [18], [18], [18], [18], [18], [18], [18], [18], [18], [18], [18]] [32] nb (fun _ h => h.elim) mixed rfl rfl rfl rfl ?_ ?_
      ·
       refine Each.consS (fun fl O wk hE hN hO ck => ?_) ?_
       ·
        refine rl_move rfl rfl ?_
        exact RL.nil ⟨_, rfl, Ch.refl, rfl⟩
       refine Each.consA ⟨fun _ _ _ _ _ cc hh => by obtain ⟨v280, e, h281⟩ := hh; exact ⟨v280, e, slRep.ch k_Service_pos h281 cc⟩, fun h => absurd rfl h, fun fl O wk hE hN hO ck => ?_⟩ ?_
       ·
        have h37 := h37.ch0 ck
        have k39 := k39.ch0 ck
        have k89 := k89.ch0 ck
        have h99 := h99.ch0 ck
        have h100 := h100.ch0 ck
        have k112 := k112.ch0 ck
        have h267 := h267.ch0 ck
        have c239 := c239.then0 ck
        refine Need.o1 rfl rfl rfl (fun _ h => h) ?_
        have hd389 : ∀ b, (un (inBlk (PV p15)) (inBlk z98)) b → ¬ (un (inBlk (Value.slice none 0 0)) (un (inBlk (PV p109)) (un (inBlk (PV p77)) (un (inBlk v36) (un (inBlk (PV p38)) nb))))) b := fun b h => un_el h (fun h => (fun b hb => fun h => un_el h (fun h => (disSym d272) b hb h) (fun h => un_el h (fun h => (disSym d123) b hb h) (fun h => un_el h (fun h => (disSym d127) b hb h) (fun h => un_el h (fun h => (disSym d130) b hb h) (fun h => un_el h (fun h => (disSym d132) b hb h) (fun h => h)))))) b h) (fun h => (fun b hb => fun h => un_el h (fun h => (disSym d273) b hb h) (fun h => un_el h (fun h => (disSym d124) b hb h) (fun h => un_el h (fun h => d104 b hb h) (fun h => un_el h (fun h => d105 b hb h) (fun h => un_el h (fun h => d106 b hb h) (fun h => h)))))) b h)
        have hS390 : (un (inBlk (Value.slice none 0 0)) (un (inBlk (PV p109)) (un (inBlk (PV p77)) (un (inBlk v36) (un (inBlk (PV p38)) (un (inBlk (PV p15)) (un (inBlk z98) nb))))))) = (un (inBlk (PV p15)) (un (inBlk z98) (un (inBlk (Value.slice none 0 0)) (un (inBlk (PV p109)) (un (inBlk (PV p77)) (un (inBlk v36) (un (inBlk (PV p38)) nb))))))) := funext fun b => propext ⟨fun h => un_el h (fun h => (.inr (.inr (.inl h)))) (fun h => un_el h (fun h => (.inr (.inr (.inr (.inl h))))) (fun h => un_el h (fun h => (.inr (.inr (.inr (.inr (.inl h)))))) (fun h => un_el h (fun h => (.inr (.inr (.inr (.inr (.inr (.inl h))))))) (fun h => un_el h (fun h => (.inr (.inr (.inr (.inr (.inr (.inr (.inl h)))))))) (fun h => un_el h (fun h => (.inl h)) (fun h => un_el h (fun h => (.inr (.inl h))) (fun h => False.elim h))))))), fun h => un_el h (fun h => (.inr (.inr (.inr (.inr (.inr (.inl h))))))) (fun h => un_el h (fun h => (.inr (.inr (.inr (.inr (.inr (.inr (.inl h)))))))) (fun h => un_el h (fun h => (.inl h)) (fun h => un_el h (fun h => (.inr (.inl h))) (fun h => un_el h (fun h => (.inr (.inr (.inl h)))) (fun h => un_el h (fun h => (.inr (.inr (.inr (.inl h))))) (fun h => un_el h (fun h => (.inr (.inr (.inr (.inr (.inl h)))))) (fun h => False.elim h)))))))⟩
        refine rl_callF rfl en11 rfl (ctr11 F wk w.heap.size (un (inBlk (Value.slice none 0 0)) (un (inBlk (PV p109)) (un (inBlk (PV p77)) (un (inBlk v36) (un (inBlk (PV p38)) nb))))) c239.size (un_lt (fun b hb => (h267.lt b hb).2) (un_lt k112.ltp (un_lt k89.ltp (un_lt (fun b hb => (h37.lt b hb).2) (un_lt k39.ltp nbS))))) p15 z98 hd389 d134 y96 h99 h100 y278 hy279) ?_
        rintro v393 w391 ⟨_, rfl, h394, c392⟩
        rw [← hS390] at h394
        have h394 := SlO.backR k_Service_pos h394 (un_lt (fun b hb => (h267.lt b hb).2) (un_lt k112.ltp (un_lt k89.ltp (un_lt (fun b hb => (h37.lt b hb).2) (un_lt k39.ltp (un_lt h99.ltp (un_lt h100.ltp nbS))))))) c239.size
        exact RL.nil ⟨_, rfl, c392, ⟨v393, rfl, h394⟩⟩
       refine Each.consS (fun fl O wk hE hN hO ck => ?_) ?_
       ·
        refine rl_move rfl rfl ?_
        exact RL.nil ⟨_, rfl, Ch.refl, rfl⟩
       refine Each.consA ⟨fun _ _ _ _ _ cc hh => by obtain ⟨v288, e, h289⟩ := hh; exact ⟨v288, e, slRep.ch k_Service_pos h289 cc⟩, fun h => absurd rfl h, fun fl O wk hE hN hO ck => ?_⟩ ?_
       ·
        have h37 := h37.ch0 ck
        have k39 := k39.ch0 ck
        have k89 := k89.ch0 ck
        have h99 := h99.ch0 ck
        have h100 := h100.ch0 ck
        have k112 := k112.ch0 ck
        have h267 := h267.ch0 ck
        have c239 := c239.then0 ck
        refine Need.o1 rfl rfl rfl (fun _ h => h) ?_
        have hd396 : ∀ b, (un (inBlk (PV p109)) (inBlk (Value.slice none 0 0))) b → ¬ (un (inBlk (PV p77)) (un (inBlk v36) (un (inBlk (PV p38)) (un (inBlk (PV p15)) (un (inBlk z98) nb))))) b := fun b h => un_el h (fun h => (fun b hb => fun h => un_el h (fun h => d120 b hb h) (fun h => un_el h (fun h => d121 b hb h) (fun h => un_el h (fun h => d122 b hb h) (fun h => un_el h (fun h => d123 b hb h) (fun h => un_el h (fun h => d124 b hb h) (fun h => h)))))) b h) (fun h => (fun b hb => fun h => un_el h (fun h => d269 b hb h) (fun h => un_el h (fun h => d270 b hb h) (fun h => un_el h (fun h => d271 b hb h) (fun h => un_el h (fun h => d272 b hb h) (fun h => un_el h (fun h => d273 b hb h) (fun h => h)))))) b h)
        have hS397 : (un (inBlk (Value.slice none 0 0)) (un (inBlk (PV p109)) (un (inBlk (PV p77)) (un (inBlk v36) (un (inBlk (PV p38)) (un (inBlk (PV p15)) (un (inBlk z98) nb))))))) = (un (inBlk (PV p109)) (un (inBlk (Value.slice none 0 0)) (un (inBlk (PV p77)) (un (inBlk v36) (un (inBlk (PV p38)) (un (inBlk (PV p15)) (un (inBlk z98) nb))))))) := funext fun b => propext ⟨fun h => un_el h (fun h => (.inr (.inl h))) (fun h => un_el h (fun h => (.inl h)) (fun h => un_el h (fun h => (.inr (.inr (.inl h)))) (fun h => un_el h (fun h => (.inr (.inr (.inr (.inl h))))) (fun h => un_el h (fun h => (.inr (.inr (.inr (.inr (.inl h)))))) (fun h => un_el h (fun h => (.inr (.inr (.inr (.inr (.inr (.inl h))))))) (fun h => un_el h (fun h => (.inr (.inr (.inr (.inr (.inr (.inr (.inl h)))))))) (fun h => False.elim h))))))), fun h => un_el h (fun h => (.inr (.inl h))) (fun h => un_el h (fun h => (.inl h)) (fun h => un_el h (fun h => (.inr (.inr (.inl h)))) (fun h => un_el h (fun h => (.inr (.inr (.inr (.inl h))))) (fun h => un_el h (fun h => (.inr (.inr (.inr (.inr (.inl h)))))) (fun h => un_el h (fun h => (.inr (.inr (.inr (.inr (.inr (.inl h))))))) (fun h => un_el h (fun h => (.inr (.inr (.inr (.inr (.inr (.inr (.inl h)))))))) (fun h => False.elim h)))))))⟩
        refine rl_callF rfl en19 rfl (ctr19 F wk w.heap.size (un (inBlk (PV p77)) (un (inBlk v36) (un (inBlk (PV p38)) (un (inBlk (PV p15)) (un (inBlk z98) nb))))) c239.size (un_lt k89.ltp (un_lt (fun b hb => (h37.lt b hb).2) (un_lt k39.ltp (un_lt h99.ltp (un_lt h100.ltp nbS))))) p109 (Value.slice none 0 0) hd396 (disSym d268) ({ all := [] } : Stats_2) k112 (hS397 ▸ h267) y286 hy287) ?_
        rintro v400 w398 ⟨_, rfl, h401, c399⟩
        rw [← hS397] at h401
        have h401 := SlO.backR k_Service_pos h401 (un_lt (fun b hb => (h267.lt b hb).2) (un_lt k112.ltp (un_lt k89.ltp (un_lt (fun b hb => (h37.lt b hb).2) (un_lt k39.ltp (un_lt h99.ltp (un_lt h100.ltp nbS))))))) c239.size
        exact RL.nil ⟨_, rfl, c399, ⟨v400, rfl, h401⟩⟩
       refine Each.consS (fun fl O wk hE hN hO ck => ?_) ?_
       ·
        refine Need.one rfl rfl rfl ?_
        rintro _ ⟨v280, e402, h281⟩
        obtain rfl := e402.symm
        refine Need.one rfl rfl rfl ?_
        rintro _ ⟨v288, e403, h289⟩
        obtain rfl := e403.symm
        refine rl_callF rfl en18 rfl (ctr18 (G F w.heap.size (un (inBlk (Value.slice none 0 0)) (un (inBlk (PV p109)) (un (inBlk (PV p77)) (un (inBlk v36) (un (inBlk (PV p38)) (un (inBlk (PV p15)) (un (inBlk z98) nb)))))))) wk y278 v280 h281 y286 v288 h289 y292 hy293) ?_
        rintro _ w404 ⟨rfl, c405⟩
        exact RL.nil ⟨_, rfl, c405, rfl⟩
       refine Each.consS (fun fl O wk hE hN hO ck => ?_) ?_
       ·
        refine Need.o1 rfl rfl rfl (fun _ h => h) ?_
        refine rl_not rfl rfl ?_
        exact RL.nil ⟨_, rfl, Ch.refl, rfl⟩
       refine Each.consS (fun fl O wk hE hN hO ck => ?_) ?_
       ·
        refine Need.o1 rfl rfl rfl (fun _ h => h) ?_
        refine rl_move rfl rfl ?_
        exact RL.nil ⟨_, rfl, Ch.refl, rfl⟩
       refine Each.consS (fun fl O wk hE hN hO ck => ?_) ?_
       ·
        refine Need.o1 rfl rfl rfl (fun _ h => h) ?_
        refine RL.yes rfl rfl rfl hg330 ?_
        refine rl_move rfl rfl ?_
        exact RL.nil ⟨_, rfl, Ch.refl, rfl⟩
       refine Each.consS (fun fl O wk hE hN hO ck => ?_) ?_
       ·
        refine Need.o1 rfl rfl rfl (fun _ h => h) ?_
        refine RL.yes rfl rfl rfl hg330 ?_
        refine rl_fieldAddr rfl fa40_6 rfl ?_
        exact RL.nil ⟨_, rfl, Ch.refl, rfl⟩
       refine Each.consS (fun fl O wk hE hN hO ck => ?_) ?_
       ·
        have k89 := k89.ch0 ck
        refine Need.o1 rfl rfl rfl (fun _ h => h) ?_
        refine Need.o1 rfl rfl rfl (fun _ h => h) ?_
        refine RL.yes rfl rfl rfl hg330 ?_
        refine rl_loadS (v := (Value.int .i64 x61.top)) rfl Tryd.isAgg3 (k89.cell rfl) rfl ?_
        exact RL.nil ⟨_, rfl, Ch.refl, rfl⟩
       refine Each.consA ⟨fun _ _ _ _ _ cc hh => by obtain ⟨v300, e, h301⟩ := hh; exact ⟨v300, e, slRep.ch k_Service_pos h301 cc⟩, fun h => absurd rfl h, fun fl O wk hE hN hO ck => ?_⟩ ?_
       ·
        have h37 := h37.ch0 ck
        have k39 := k39.ch0 ck
        have k89 := k89.ch0 ck
        have h99 := h99.ch0 ck
        have h100 := h100.ch0 ck
        have k112 := k112.ch0 ck
        have h267 := h267.ch0 ck
        have c239 := c239.then0 ck
        refine Need.o1 rfl rfl rfl (fun _ h => h) ?_
        refine Need.o1 rfl rfl rfl (fun _ h => h) ?_
        refine Need.o1 rfl rfl rfl (fun _ h => h) ?_
        refine RL.yes rfl rfl rfl hg330 ?_
        have hd415 : ∀ b, (un (inBlk (PV p15)) (inBlk z98)) b → ¬ (un (inBlk (Value.slice none 0 0)) (un (inBlk (PV p109)) (un (inBlk (PV p77)) (un (inBlk v36) (un (inBlk (PV p38)) nb))))) b := fun b h => un_el h (fun h => (fun b hb => fun h => un_el h (fun h => (disSym d272) b hb h) (fun h => un_el h (fun h => (disSym d123) b hb h) (fun h => un_el h (fun h => (disSym d127) b hb h) (fun h => un_el h (fun h => (disSym d130) b hb h) (fun h => un_el h (fun h => (disSym d132) b hb h) (fun h => h)))))) b h) (fun h => (fun b hb => fun h => un_el h (fun h => (disSym d273) b hb h) (fun h => un_el h (fun h => (disSym d124) b hb h) (fun h => un_el h (fun h => d104 b hb h) (fun h => un_el h (fun h => d105 b hb h) (fun h => un_el h (fun h => d106 b hb h) (fun h => h)))))) b h)
        have hS416 : (un (inBlk (Value.slice none 0 0)) (un (inBlk (PV p109)) (un (inBlk (PV p77)) (un (inBlk v36) (un (inBlk (PV p38)) (un (inBlk (PV p15)) (un (inBlk z98) nb))))))) = (un (inBlk (PV p15)) (un (inBlk z98) (un (inBlk (Value.slice none 0 0)) (un (inBlk (PV p109)) (un (inBlk (PV p77)) (un (inBlk v36) (un (inBlk (PV p38)) nb))))))) := funext fun b => propext ⟨fun h => un_el h (fun h => (.inr (.inr (.inl h)))) (fun h => un_el h (fun h => (.inr (.inr (.inr (.inl h))))) (fun h => un_el h (fun h => (.inr (.inr (.inr (.inr (.inl h)))))) (fun h => un_el h (fun h => (.inr (.inr (.inr (.inr (.inr (.inl h))))))) (fun h => un_el h (fun h => (.inr (.inr (.inr (.inr (.inr (.inr (.inl h)))))))) (fun h => un_el h (fun h => (.inl h)) (fun h => un_el h (fun h => (.inr (.inl h))) (fun h => False.elim h))))))), fun h => un_el h (fun h => (.inr (.inr (.inr (.inr (.inr (.inl h))))))) (fun h => un_el h (fun h => (.inr (.inr (.inr (.inr (.inr (.inr (.inl h)))))))) (fun h => un_el h (fun h => (.inl h)) (fun h => un_el h (fun h => (.inr (.inl h))) (fun h => un_el h (fun h => (.inr (.inr (.inl h)))) (fun h => un_el h (fun h => (.inr (.inr (.inr (.inl h))))) (fun h => un_el h (fun h => (.inr (.inr (.inr (.inr (.inl h)))))) (fun h => False.elim h)))))))⟩
        refine rl_callF rfl en12 rfl (ctr12 F wk w.heap.size (un (inBlk (Value.slice none 0 0)) (un (inBlk (PV p109)) (un (inBlk (PV p77)) (un (inBlk v36) (un (inBlk (PV p38)) nb))))) c239.size (un_lt (fun b hb => (h267.lt b hb).2) (un_lt k112.ltp (un_lt k89.ltp (un_lt (fun b hb => (h37.lt b hb).2) (un_lt k39.ltp nbS))))) p15 z98 hd415 d134 y96 h99 h100 x61.top y298 hy299) ?_
        rintro v419 w417 ⟨_, rfl, h420, c418⟩
        rw [← hS416] at h420
        have h420 := SlO.backR k_Service_pos h420 (un_lt (fun b hb => (h267.lt b hb).2) (un_lt k112.ltp (un_lt k89.ltp (un_lt (fun b hb => (h37.lt b hb).2) (un_lt k39.ltp (un_lt h99.ltp (un_lt h100.ltp nbS))))))) c239.size
        exact RL.nil ⟨_, rfl, c418, ⟨v419, rfl, h420⟩⟩
       refine Each.consS (fun fl O wk hE hN hO ck => ?_) ?_
       ·
        refine Need.o1 rfl rfl rfl (fun _ h => h) ?_
        refine RL.yes rfl rfl rfl hg330 ?_
        refine rl_move rfl rfl ?_
        exact RL.nil ⟨_, rfl, Ch.refl, rfl⟩
       refine Each.consS (fun fl O wk hE hN hO ck => ?_) ?_
       ·
        refine Need.o1 rfl rfl rfl (fun _ h => h) ?_
        refine RL.yes rfl rfl rfl hg330 ?_
        refine rl_fieldAddr rfl fa40_6 rfl ?_
        exact RL.nil ⟨_, rfl, Ch.refl, rfl⟩
       refine Each.consS (fun fl O wk hE hN hO ck => ?_) ?_
       ·
        have k89 := k89.ch0 ck
        refine Need.o1 rfl rfl rfl (fun _ h => h) ?_
        refine Need.o1 rfl rfl rfl (fun _ h => h) ?_
        refine RL.yes rfl rfl rfl hg330 ?_
        refine rl_loadS (v := (Value.int .i64 x61.top)) rfl Tryd.isAgg3 (k89.cell rfl) rfl ?_
        exact RL.nil ⟨_, rfl, Ch.refl, rfl⟩
       refine Each.consA ⟨fun _ _ _ _ _ cc hh => by obtain ⟨v308, e, h309⟩ := hh; exact ⟨v308, e, slRep.ch k_Service_pos h309 cc⟩, fun h => absurd rfl h, fun fl O wk hE hN hO ck => ?_⟩ ?_
       ·
        have h37 := h37.ch0 ck
        have k39 := k39.ch0 ck
        have k89 := k89.ch0 ck
        have h99 := h99.ch0 ck
        have h100 := h100.ch0 ck
        have k112 := k112.ch0 ck
        have h267 := h267.ch0 ck
        have c239 := c239.then0 ck
        refine Need.o1 rfl rfl rfl (fun _ h => h) ?_
        refine Need.o1 rfl rfl rfl (fun _ h => h) ?_
        refine Need.o1 rfl rfl rfl (fun _ h => h) ?_
        refine RL.yes rfl rfl rfl hg330 ?_
        have hd428 : ∀ b, (un (inBlk (PV p109)) (inBlk (Value.slice none 0 0))) b → ¬ (un (inBlk (PV p77)) (un (inBlk v36) (un (inBlk (PV p38)) (un (inBlk (PV p15)) (un (inBlk z98) nb))))) b := fun b h => un_el h (fun h => (fun b hb => fun h => un_el h (fun h => d120 b hb h) (fun h => un_el h (fun h => d121 b hb h) (fun h => un_el h (fun h => d122 b hb h) (fun h => un_el h (fun h => d123 b hb h) (fun h => un_el h (fun h => d124 b hb h) (fun h => h)))))) b h) (fun h => (fun b hb => fun h => un_el h (fun h => d269 b hb h) (fun h => un_el h (fun h => d270 b hb h) (fun h => un_el h (fun h => d271 b hb h) (fun h => un_el h (fun h => d272 b hb h) (fun h => un_el h (fun h => d273 b hb h) (fun h => h)))))) b h)
        have hS429 : (un (inBlk (Value.slice none 0 0)) (un (inBlk (PV p109)) (un (inBlk (PV p77)) (un (inBlk v36) (un (inBlk (PV p38)) (un (inBlk (PV p15)) (un (inBlk z98) nb))))))) = (un (inBlk (PV p109)) (un (inBlk (Value.slice none 0 0)) (un (inBlk (PV p77)) (un (inBlk v36) (un (inBlk (PV p38)) (un (inBlk (PV p15)) (un (inBlk z98) nb))))))) := funext fun b => propext ⟨fun h => un_el h (fun h => (.inr (.inl h))) (fun h => un_el h (fun h => (.inl h)) (fun h => un_el h (fun h => (.inr (.inr (.inl h)))) (fun h => un_el h (fun h => (.inr (.inr (.inr (.inl h))))) (fun h => un_el h (fun h => (.inr (.inr (.inr (.inr (.inl h)))))) (fun h => un_el h (fun h => (.inr (.inr (.inr (.inr (.inr (.inl h))))))) (fun h => un_el h (fun h => (.inr (.inr (.inr (.inr (.inr (.inr (.inl h)))))))) (fun h => False.elim h))))))), fun h => un_el h (fun h => (.inr (.inl h))) (fun h => un_el h (fun h => (.inl h)) (fun h => un_el h (fun h => (.inr (.inr (.inl h)))) (fun h => un_el h (fun h => (.inr (.inr (.inr (.inl h))))) (fun h => un_el h (fun h => (.inr (.inr (.inr (.inr (.inl h)))))) (fun h => un_el h (fun h => (.inr (.inr (.inr (.inr (.inr (.inl h))))))) (fun h => un_el h (fun h => (.inr (.inr (.inr (.inr (.inr (.inr (.inl h)))))))) (fun h => False.elim h)))))))⟩
        refine rl_callF rfl en20 rfl (ctr20 F wk w.heap.size (un (inBlk (PV p77)) (un (inBlk v36) (un (inBlk (PV p38)) (un (inBlk (PV p15)) (un (inBlk z98) nb))))) c239.size (un_lt k89.ltp (un_lt (fun b hb => (h37.lt b hb).2) (un_lt k39.ltp (un_lt h99.ltp (un_lt h100.ltp nbS))))) p109 (Value.slice none 0 0) hd428 (disSym d268) ({ all := [] } : Stats_2) k112 (hS429 ▸ h267) x61.top y306 hy307) ?_
        rintro v432 w430 ⟨_, rfl, h433, c431⟩
        rw [← hS429] at h433
        have h433 := slRep.back k_Service_pos h433 (un_lt (fun b hb => (h267.lt b hb).2) (un_lt k112.ltp (un_lt k89.ltp (un_lt (fun b hb => (h37.lt b hb).2) (un_lt k39.ltp (un_lt h99.ltp (un_lt h100.ltp nbS))))))) c239.size
        exact RL.nil ⟨_, rfl, c431, ⟨v432, rfl, h433⟩⟩
       refine Each.consS (fun fl O wk hE hN hO ck => ?_) ?_
       ·
        refine Need.o1 rfl rfl rfl (fun _ h => h) ?_
        refine Need.one rfl rfl rfl ?_
        rintro _ ⟨v300, e435, h301⟩
        obtain rfl := e435.symm
        refine Need.one rfl rfl rfl ?_
        rintro _ ⟨v308, e436, h309⟩
        obtain rfl := e436.symm
        refine RL.yes rfl rfl rfl hg330 ?_
        refine rl_callF rfl en18 rfl (ctr18 (G F w.heap.size (un (inBlk (Value.slice none 0 0)) (un (inBlk (PV p109)) (un (inBlk (PV p77)) (un (inBlk v36) (un (inBlk (PV p38)) (un (inBlk (PV p15)) (un (inBlk z98) nb)))))))) wk y298 v300 h301 y306 v308 h309 y312 hy313) ?_
        rintro _ w437 ⟨rfl, c438⟩
        exact RL.nil ⟨_, rfl, c438, rfl⟩
       refine Each.consS (fun fl O wk hE hN hO ck => ?_) ?_
       ·
        refine Need.o1 rfl rfl rfl (fun _ h => h) ?_
        refine Need.o1 rfl rfl rfl (fun _ h => h) ?_
        refine RL.yes rfl rfl rfl hg330 ?_
        refine rl_not rfl rfl ?_
        exact RL.nil ⟨_, rfl, Ch.refl, rfl⟩
       refine Each.consS (fun fl O wk hE hN hO ck => ?_) ?_
       ·
        refine Need.o1 rfl rfl rfl (fun _ h => h) ?_
        refine Need.o1 rfl rfl rfl (fun _ h => h) ?_
        refine rl_pickF rfl hg330 rfl rfl ?_
        exact RL.nil ⟨_, rfl, Ch.refl, congrArg Value.bool (Option.some.inj hs385)⟩
       refine Each.consS (fun fl O wk hE hN hO ck => ?_) ?_
       ·
        refine Need.o1 rfl rfl rfl (fun _ h => h) ?_
        refine rl_move rfl rfl ?_
        exact RL.nil ⟨_, rfl, Ch.refl, rfl⟩
       refine Each.consS (fun fl O wk hE hN hO ck => ?_) ?_
       ·
        refine Need.o1 rfl rfl rfl (fun _ h => h) ?_
        refine RL.no rfl rfl rfl hg386 rfl rfl ?_
        exact RL.nil ⟨_, rfl, Ch.refl, rfl⟩
       refine Each.consS (fun fl O wk hE hN hO ck => ?_) ?_
       ·
        refine Need.o1 rfl rfl rfl (fun _ h => h) ?_
        refine RL.no rfl rfl rfl hg386 rfl rfl ?_
        exact RL.nil ⟨_, rfl, Ch.refl, rfl⟩
       refine Each.consS (fun fl O wk hE hN hO ck => ?_) ?_
       ·
        refine Need.o1 rfl rfl rfl (fun _ h => h) ?_
        refine RL.no rfl rfl rfl hg386 rfl rfl ?_
        exact RL.nil ⟨_, rfl, Ch.refl, rfl⟩
       refine Each.consS (fun fl O wk hE hN hO ck => ?_) ?_
       ·
        refine Need.o1 rfl rfl rfl (fun _ h => h) ?_
        refine RL.no rfl rfl rfl hg386 rfl rfl ?_
        exact RL.nil ⟨_, rfl, Ch.refl, rfl⟩
       refine Each.consS (fun fl O wk hE hN hO ck => ?_) ?_
       ·
        refine Need.o1 rfl rfl rfl (fun _ h => h) ?_
        refine RL.no rfl rfl rfl hg386 rfl rfl ?_
        exact RL.nil ⟨_, rfl, Ch.refl, rfl⟩
       refine Each.consS (fun fl O wk hE hN hO ck => ?_) ?_
       ·
        refine Need.o1 rfl rfl rfl (fun _ h => h) ?_
        refine RL.no rfl rfl rfl hg386 rfl rfl ?_
        exact RL.nil ⟨_, rfl, Ch.refl, rfl⟩
       refine Each.consS (fun fl O wk hE hN hO ck => ?_) ?_
       ·
        refine Need.o1 rfl rfl rfl (fun _ h => h) ?_
        refine RL.no rfl rfl rfl hg386 rfl rfl ?_
        exact RL.nil ⟨_, rfl, Ch.refl, rfl⟩
       refine Each.consS (fun fl O wk hE hN hO ck => ?_) ?_
       ·
        refine Need.o1 rfl rfl rfl (fun _ h => h) ?_
        refine RL.no rfl rfl rfl hg386 rfl rfl ?_
        exact RL.nil ⟨_, rfl, Ch.refl, rfl⟩
       refine Each.consS (fun fl O wk hE hN hO ck => ?_) ?_
       ·
        refine Need.o1 rfl rfl rfl (fun _ h => h) ?_
        refine RL.no rfl rfl rfl hg386 rfl rfl ?_
        exact RL.nil ⟨_, rfl, Ch.refl, rfl⟩
       refine Each.consS (fun fl O wk hE hN hO ck => ?_) ?_
       ·
        refine Need.o1 rfl rfl rfl (fun _ h => h) ?_
        refine RL.no rfl rfl rfl hg386 rfl rfl ?_
        exact RL.nil ⟨_, rfl, Ch.refl, rfl⟩
       refine Each.consS (fun fl O wk hE hN hO ck => ?_) ?_
       ·
        refine Need.o1 rfl rfl rfl (fun _ h => h) ?_
        refine RL.no rfl rfl rfl hg386 rfl rfl ?_
        exact RL.nil ⟨_, rfl, Ch.refl, rfl⟩
       refine Each.consS (fun fl O wk hE hN hO ck => ?_) ?_
       ·
        refine Need.o1 rfl rfl rfl (fun _ h => h) ?_
        refine RL.no rfl rfl rfl hg386 rfl rfl ?_
        exact RL.nil ⟨_, rfl, Ch.refl, rfl⟩
       refine Each.consS (fun fl O wk hE hN hO ck => ?_) ?_
       ·
        refine Need.o1 rfl rfl rfl (fun _ h => h) ?_
        refine RL.no rfl rfl rfl hg386 rfl rfl ?_
        exact RL.nil ⟨_, rfl, Ch.refl, rfl⟩
       refine Each.consS (fun fl O wk hE hN hO ck => ?_) ?_
       ·
        refine Need.o1 rfl rfl rfl (fun _ h => h) ?_
        refine rl_pickT rfl hg386 rfl rfl ?_
        exact RL.nil ⟨_, rfl, Ch.refl, congrArg Value.bool (Option.some.inj hs387)⟩
       trivial
      intro hvO460 OpO460 O460 w458 hO461 c459 hN462
      refine Need.o1 rfl rfl rfl (fun _ h => h) ?_
      exact RL.nil ⟨rfl, ⟨rfl, rfl, rfl, rfl, rfl, rfl, trivial⟩, c459⟩
     have hs464 := orO_f hg386 hb329
     obtain ⟨y320, hy321, hs464⟩ := bindS hs464
     obtain ⟨y326, hy327, hs464⟩ := bindS hs464
     refine CW.draw 33 [(none, fun fx O uu wx => uu = (PV p15)), (none, fun fx O uu wx => ∃ (v280 : Value), uu = v280 ∧ slRep k_Service (G F w.heap.size (un (inBlk (Value.slice none 0 0)) (un (inBlk (PV p109)) (un (inBlk (PV p77)) (un (inBlk v36) (un (inBlk (PV p38)) (un (inBlk (PV p15)) (un (inBlk z98) nb)))))))) wx y278 v280), (none, fun fx O uu wx => uu = (PV p109)), (none, fun fx O uu wx => ∃ (v288 : Value), uu = v288 ∧ slRep k_Service (G F w.heap.size (un (inBlk (Value.slice none 0 0)) (un (inBlk (PV p109)) (un (inBlk (PV p77)) (un (inBlk v36) (un (inBlk (PV p38)) (un (inBlk (PV p15)) (un (inBlk z98) nb)))))))) wx y286 v288), (none, fun fx O uu wx => uu = (Value.bool y292)), (none, fun fx O uu wx => uu = (Value.bool (!y292))), (none, fun fx O uu wx => uu = (Value.bool (!y292))), (none, fun fx O uu wx => uu = (PV p15)), (none, fun fx O uu wx => uu = (Value.pointer (some ⟨p77, 51, none⟩))), (none, fun fx O uu wx => uu = (Value.int .i64 x61.top)), (none, fun fx O uu wx => ∃ (v300 : Value), uu = v300 ∧ slRep k_Service (G F w.heap.size (un (inBlk (Value.slice none 0 0)) (un (inBlk (PV p109)) (un (inBlk (PV p77)) (un (inBlk v36) (un (inBlk (PV p38)) (un (inBlk (PV p15)) (un (inBlk z98) nb)))))))) wx y298 v300), (none, fun fx O uu wx => uu = (PV p109)), (none, fun fx O uu wx => uu = (Value.pointer (some ⟨p77, 51, none⟩))), (none, fun fx O uu wx => uu = (Value.int .i64 x61.top)), (none, fun fx O uu wx => ∃ (v308 : Value), uu = v308 ∧ slRep k_Service (G F w.heap.size (un (inBlk (Value.slice none 0 0)) (un (inBlk (PV p109)) (un (inBlk (PV p77)) (un (inBlk v36) (un (inBlk (PV p38)) (un (inBlk (PV p15)) (un (inBlk z98) nb)))))))) wx y306 v308), (none, fun fx O uu wx => uu = (Value.bool y312)), (none, fun fx O uu wx => uu = (Value.bool (!y312))), (none, fun fx O uu wx => uu = (Value.bool b314)), (none, fun fx O uu wx => uu = (Value.bool b314)), (none, fun fx O uu wx => uu = (PV p15)), (none, fun fx O uu wx => uu = (Value.pointer (some ⟨p77, 49, none⟩))), (none, fun fx O uu wx => uu = (Value.int .i64 x61.atF)), (none, fun fx O uu wx => uu = (Value.pointer (some ⟨p77, 50, none⟩))), (none, fun fx O uu wx => uu = (Value.int .i64 x61.spans)), (none, fun fx O uu wx => uu = (Value.float .f64 y320)), (none, fun fx O uu wx => uu = (PV p109)), (none, fun fx O uu wx => uu = (Value.pointer (some ⟨p77, 49, none⟩))), (none, fun fx O uu wx => uu = (Value.int .i64 x61.atF)), (none, fun fx O uu wx => uu = (Value.pointer (some ⟨p77, 50, none⟩))), (none, fun fx O uu wx => uu = (Value.int .i64 x61.spans)), (none, fun fx O uu wx => uu = (Value.float .f64 y326)), (none, fun fx O uu wx => uu = (Value.bool (FloatKind.f64.format.order y320 y326 != some .eq))), (none, fun fx O uu wx => uu = (Value.bool b328))] [[], [0], [], [2], [1, 3], [4], [5], [6], [6], [6, 8], [6, 7, 9], [6], [6], [6, 12], [6, 11, 13], [6, 10, 14], [6, 15], [6, 16], [17], [18], [18], [18, 20], [18], [18, 22], [18, 19, 21, 23], [18], [18], [18, 26], [18], [18, 28], [18, 25, 27, 29], [18, 24, 30], [18, 31]] [32] nb (fun _ h => h.elim) mixed rfl rfl rfl rfl ?_ ?_
     ·
      refine Each.consS (fun fl O wk hE hN hO ck => ?_) ?_
      ·
       refine rl_move rfl rfl ?_
       exact RL.nil ⟨_, rfl, Ch.refl, rfl⟩
      refine Each.consA ⟨fun _ _ _ _ _ cc hh => by obtain ⟨v280, e, h281⟩ := hh; exact ⟨v280, e, slRep.ch k_Service_pos h281 cc⟩, fun h => absurd rfl h, fun fl O wk hE hN hO ck => ?_⟩ ?_
      ·
       have h37 := h37.ch0 ck
       have k39 := k39.ch0 ck
       have k89 := k89.ch0 ck
       have h99 := h99.ch0 ck
       have h100 := h100.ch0 ck
       have k112 := k112.ch0 ck
       have h267 := h267.ch0 ck
       have c239 := c239.then0 ck
       refine Need.o1 rfl rfl rfl (fun _ h => h) ?_
       have hd466 : ∀ b, (un (inBlk (PV p15)) (inBlk z98)) b → ¬ (un (inBlk (Value.slice none 0 0)) (un (inBlk (PV p109)) (un (inBlk (PV p77)) (un (inBlk v36) (un (inBlk (PV p38)) nb))))) b := fun b h => un_el h (fun h => (fun b hb => fun h => un_el h (fun h => (disSym d272) b hb h) (fun h => un_el h (fun h => (disSym d123) b hb h) (fun h => un_el h (fun h => (disSym d127) b hb h) (fun h => un_el h (fun h => (disSym d130) b hb h) (fun h => un_el h (fun h => (disSym d132) b hb h) (fun h => h)))))) b h) (fun h => (fun b hb => fun h => un_el h (fun h => (disSym d273) b hb h) (fun h => un_el h (fun h => (disSym d124) b hb h) (fun h => un_el h (fun h => d104 b hb h) (fun h => un_el h (fun h => d105 b hb h) (fun h => un_el h (fun h => d106 b hb h) (fun h => h)))))) b h)
       have hS467 : (un (inBlk (Value.slice none 0 0)) (un (inBlk (PV p109)) (un (inBlk (PV p77)) (un (inBlk v36) (un (inBlk (PV p38)) (un (inBlk (PV p15)) (un (inBlk z98) nb))))))) = (un (inBlk (PV p15)) (un (inBlk z98) (un (inBlk (Value.slice none 0 0)) (un (inBlk (PV p109)) (un (inBlk (PV p77)) (un (inBlk v36) (un (inBlk (PV p38)) nb))))))) := funext fun b => propext ⟨fun h => un_el h (fun h => (.inr (.inr (.inl h)))) (fun h => un_el h (fun h => (.inr (.inr (.inr (.inl h))))) (fun h => un_el h (fun h => (.inr (.inr (.inr (.inr (.inl h)))))) (fun h => un_el h (fun h => (.inr (.inr (.inr (.inr (.inr (.inl h))))))) (fun h => un_el h (fun h => (.inr (.inr (.inr (.inr (.inr (.inr (.inl h)))))))) (fun h => un_el h (fun h => (.inl h)) (fun h => un_el h (fun h => (.inr (.inl h))) (fun h => False.elim h))))))), fun h => un_el h (fun h => (.inr (.inr (.inr (.inr (.inr (.inl h))))))) (fun h => un_el h (fun h => (.inr (.inr (.inr (.inr (.inr (.inr (.inl h)))))))) (fun h => un_el h (fun h => (.inl h)) (fun h => un_el h (fun h => (.inr (.inl h))) (fun h => un_el h (fun h => (.inr (.inr (.inl h)))) (fun h => un_el h (fun h => (.inr (.inr (.inr (.inl h))))) (fun h => un_el h (fun h => (.inr (.inr (.inr (.inr (.inl h)))))) (fun h => False.elim h)))))))⟩
       refine rl_callF rfl en11 rfl (ctr11 F wk w.heap.size (un (inBlk (Value.slice none 0 0)) (un (inBlk (PV p109)) (un (inBlk (PV p77)) (un (inBlk v36) (un (inBlk (PV p38)) nb))))) c239.size (un_lt (fun b hb => (h267.lt b hb).2) (un_lt k112.ltp (un_lt k89.ltp (un_lt (fun b hb => (h37.lt b hb).2) (un_lt k39.ltp nbS))))) p15 z98 hd466 d134 y96 h99 h100 y278 hy279) ?_
       rintro v470 w468 ⟨_, rfl, h471, c469⟩
       rw [← hS467] at h471
       have h471 := SlO.backR k_Service_pos h471 (un_lt (fun b hb => (h267.lt b hb).2) (un_lt k112.ltp (un_lt k89.ltp (un_lt (fun b hb => (h37.lt b hb).2) (un_lt k39.ltp (un_lt h99.ltp (un_lt h100.ltp nbS))))))) c239.size
       exact RL.nil ⟨_, rfl, c469, ⟨v470, rfl, h471⟩⟩
      refine Each.consS (fun fl O wk hE hN hO ck => ?_) ?_
      ·
       refine rl_move rfl rfl ?_
       exact RL.nil ⟨_, rfl, Ch.refl, rfl⟩
      refine Each.consA ⟨fun _ _ _ _ _ cc hh => by obtain ⟨v288, e, h289⟩ := hh; exact ⟨v288, e, slRep.ch k_Service_pos h289 cc⟩, fun h => absurd rfl h, fun fl O wk hE hN hO ck => ?_⟩ ?_
      ·
       have h37 := h37.ch0 ck
       have k39 := k39.ch0 ck
       have k89 := k89.ch0 ck
       have h99 := h99.ch0 ck
       have h100 := h100.ch0 ck
       have k112 := k112.ch0 ck
       have h267 := h267.ch0 ck
       have c239 := c239.then0 ck
       refine Need.o1 rfl rfl rfl (fun _ h => h) ?_
       have hd473 : ∀ b, (un (inBlk (PV p109)) (inBlk (Value.slice none 0 0))) b → ¬ (un (inBlk (PV p77)) (un (inBlk v36) (un (inBlk (PV p38)) (un (inBlk (PV p15)) (un (inBlk z98) nb))))) b := fun b h => un_el h (fun h => (fun b hb => fun h => un_el h (fun h => d120 b hb h) (fun h => un_el h (fun h => d121 b hb h) (fun h => un_el h (fun h => d122 b hb h) (fun h => un_el h (fun h => d123 b hb h) (fun h => un_el h (fun h => d124 b hb h) (fun h => h)))))) b h) (fun h => (fun b hb => fun h => un_el h (fun h => d269 b hb h) (fun h => un_el h (fun h => d270 b hb h) (fun h => un_el h (fun h => d271 b hb h) (fun h => un_el h (fun h => d272 b hb h) (fun h => un_el h (fun h => d273 b hb h) (fun h => h)))))) b h)
       have hS474 : (un (inBlk (Value.slice none 0 0)) (un (inBlk (PV p109)) (un (inBlk (PV p77)) (un (inBlk v36) (un (inBlk (PV p38)) (un (inBlk (PV p15)) (un (inBlk z98) nb))))))) = (un (inBlk (PV p109)) (un (inBlk (Value.slice none 0 0)) (un (inBlk (PV p77)) (un (inBlk v36) (un (inBlk (PV p38)) (un (inBlk (PV p15)) (un (inBlk z98) nb))))))) := funext fun b => propext ⟨fun h => un_el h (fun h => (.inr (.inl h))) (fun h => un_el h (fun h => (.inl h)) (fun h => un_el h (fun h => (.inr (.inr (.inl h)))) (fun h => un_el h (fun h => (.inr (.inr (.inr (.inl h))))) (fun h => un_el h (fun h => (.inr (.inr (.inr (.inr (.inl h)))))) (fun h => un_el h (fun h => (.inr (.inr (.inr (.inr (.inr (.inl h))))))) (fun h => un_el h (fun h => (.inr (.inr (.inr (.inr (.inr (.inr (.inl h)))))))) (fun h => False.elim h))))))), fun h => un_el h (fun h => (.inr (.inl h))) (fun h => un_el h (fun h => (.inl h)) (fun h => un_el h (fun h => (.inr (.inr (.inl h)))) (fun h => un_el h (fun h => (.inr (.inr (.inr (.inl h))))) (fun h => un_el h (fun h => (.inr (.inr (.inr (.inr (.inl h)))))) (fun h => un_el h (fun h => (.inr (.inr (.inr (.inr (.inr (.inl h))))))) (fun h => un_el h (fun h => (.inr (.inr (.inr (.inr (.inr (.inr (.inl h)))))))) (fun h => False.elim h)))))))⟩
       refine rl_callF rfl en19 rfl (ctr19 F wk w.heap.size (un (inBlk (PV p77)) (un (inBlk v36) (un (inBlk (PV p38)) (un (inBlk (PV p15)) (un (inBlk z98) nb))))) c239.size (un_lt k89.ltp (un_lt (fun b hb => (h37.lt b hb).2) (un_lt k39.ltp (un_lt h99.ltp (un_lt h100.ltp nbS))))) p109 (Value.slice none 0 0) hd473 (disSym d268) ({ all := [] } : Stats_2) k112 (hS474 ▸ h267) y286 hy287) ?_
       rintro v477 w475 ⟨_, rfl, h478, c476⟩
       rw [← hS474] at h478
       have h478 := SlO.backR k_Service_pos h478 (un_lt (fun b hb => (h267.lt b hb).2) (un_lt k112.ltp (un_lt k89.ltp (un_lt (fun b hb => (h37.lt b hb).2) (un_lt k39.ltp (un_lt h99.ltp (un_lt h100.ltp nbS))))))) c239.size
       exact RL.nil ⟨_, rfl, c476, ⟨v477, rfl, h478⟩⟩
      refine Each.consS (fun fl O wk hE hN hO ck => ?_) ?_
      ·
       refine Need.one rfl rfl rfl ?_
       rintro _ ⟨v280, e479, h281⟩
       obtain rfl := e479.symm
       refine Need.one rfl rfl rfl ?_
       rintro _ ⟨v288, e480, h289⟩
       obtain rfl := e480.symm
       refine rl_callF rfl en18 rfl (ctr18 (G F w.heap.size (un (inBlk (Value.slice none 0 0)) (un (inBlk (PV p109)) (un (inBlk (PV p77)) (un (inBlk v36) (un (inBlk (PV p38)) (un (inBlk (PV p15)) (un (inBlk z98) nb)))))))) wk y278 v280 h281 y286 v288 h289 y292 hy293) ?_
       rintro _ w481 ⟨rfl, c482⟩
       exact RL.nil ⟨_, rfl, c482, rfl⟩
      refine Each.consS (fun fl O wk hE hN hO ck => ?_) ?_
      ·
       refine Need.o1 rfl rfl rfl (fun _ h => h) ?_
       refine rl_not rfl rfl ?_
       exact RL.nil ⟨_, rfl, Ch.refl, rfl⟩
      refine Each.consS (fun fl O wk hE hN hO ck => ?_) ?_
      ·
       refine Need.o1 rfl rfl rfl (fun _ h => h) ?_
       refine rl_move rfl rfl ?_
       exact RL.nil ⟨_, rfl, Ch.refl, rfl⟩
      refine Each.consS (fun fl O wk hE hN hO ck => ?_) ?_
      ·
       refine Need.o1 rfl rfl rfl (fun _ h => h) ?_
       refine RL.yes rfl rfl rfl hg330 ?_
       refine rl_move rfl rfl ?_
       exact RL.nil ⟨_, rfl, Ch.refl, rfl⟩
      refine Each.consS (fun fl O wk hE hN hO ck => ?_) ?_
      ·
       refine Need.o1 rfl rfl rfl (fun _ h => h) ?_
       refine RL.yes rfl rfl rfl hg330 ?_
       refine rl_fieldAddr rfl fa40_6 rfl ?_
       exact RL.nil ⟨_, rfl, Ch.refl, rfl⟩
      refine Each.consS (fun fl O wk hE hN hO ck => ?_) ?_
      ·
       have k89 := k89.ch0 ck
       refine Need.o1 rfl rfl rfl (fun _ h => h) ?_
       refine Need.o1 rfl rfl rfl (fun _ h => h) ?_
       refine RL.yes rfl rfl rfl hg330 ?_
       refine rl_loadS (v := (Value.int .i64 x61.top)) rfl Tryd.isAgg3 (k89.cell rfl) rfl ?_
       exact RL.nil ⟨_, rfl, Ch.refl, rfl⟩
      refine Each.consA ⟨fun _ _ _ _ _ cc hh => by obtain ⟨v300, e, h301⟩ := hh; exact ⟨v300, e, slRep.ch k_Service_pos h301 cc⟩, fun h => absurd rfl h, fun fl O wk hE hN hO ck => ?_⟩ ?_
      ·
       have h37 := h37.ch0 ck
       have k39 := k39.ch0 ck
       have k89 := k89.ch0 ck
       have h99 := h99.ch0 ck
       have h100 := h100.ch0 ck
       have k112 := k112.ch0 ck
       have h267 := h267.ch0 ck
       have c239 := c239.then0 ck
       refine Need.o1 rfl rfl rfl (fun _ h => h) ?_
       refine Need.o1 rfl rfl rfl (fun _ h => h) ?_
       refine Need.o1 rfl rfl rfl (fun _ h => h) ?_
       refine RL.yes rfl rfl rfl hg330 ?_
       have hd492 : ∀ b, (un (inBlk (PV p15)) (inBlk z98)) b → ¬ (un (inBlk (Value.slice none 0 0)) (un (inBlk (PV p109)) (un (inBlk (PV p77)) (un (inBlk v36) (un (inBlk (PV p38)) nb))))) b := fun b h => un_el h (fun h => (fun b hb => fun h => un_el h (fun h => (disSym d272) b hb h) (fun h => un_el h (fun h => (disSym d123) b hb h) (fun h => un_el h (fun h => (disSym d127) b hb h) (fun h => un_el h (fun h => (disSym d130) b hb h) (fun h => un_el h (fun h => (disSym d132) b hb h) (fun h => h)))))) b h) (fun h => (fun b hb => fun h => un_el h (fun h => (disSym d273) b hb h) (fun h => un_el h (fun h => (disSym d124) b hb h) (fun h => un_el h (fun h => d104 b hb h) (fun h => un_el h (fun h => d105 b hb h) (fun h => un_el h (fun h => d106 b hb h) (fun h => h)))))) b h)
       have hS493 : (un (inBlk (Value.slice none 0 0)) (un (inBlk (PV p109)) (un (inBlk (PV p77)) (un (inBlk v36) (un (inBlk (PV p38)) (un (inBlk (PV p15)) (un (inBlk z98) nb))))))) = (un (inBlk (PV p15)) (un (inBlk z98) (un (inBlk (Value.slice none 0 0)) (un (inBlk (PV p109)) (un (inBlk (PV p77)) (un (inBlk v36) (un (inBlk (PV p38)) nb))))))) := funext fun b => propext ⟨fun h => un_el h (fun h => (.inr (.inr (.inl h)))) (fun h => un_el h (fun h => (.inr (.inr (.inr (.inl h))))) (fun h => un_el h (fun h => (.inr (.inr (.inr (.inr (.inl h)))))) (fun h => un_el h (fun h => (.inr (.inr (.inr (.inr (.inr (.inl h))))))) (fun h => un_el h (fun h => (.inr (.inr (.inr (.inr (.inr (.inr (.inl h)))))))) (fun h => un_el h (fun h => (.inl h)) (fun h => un_el h (fun h => (.inr (.inl h))) (fun h => False.elim h))))))), fun h => un_el h (fun h => (.inr (.inr (.inr (.inr (.inr (.inl h))))))) (fun h => un_el h (fun h => (.inr (.inr (.inr (.inr (.inr (.inr (.inl h)))))))) (fun h => un_el h (fun h => (.inl h)) (fun h => un_el h (fun h => (.inr (.inl h))) (fun h => un_el h (fun h => (.inr (.inr (.inl h)))) (fun h => un_el h (fun h => (.inr (.inr (.inr (.inl h))))) (fun h => un_el h (fun h => (.inr (.inr (.inr (.inr (.inl h)))))) (fun h => False.elim h)))))))⟩
       refine rl_callF rfl en12 rfl (ctr12 F wk w.heap.size (un (inBlk (Value.slice none 0 0)) (un (inBlk (PV p109)) (un (inBlk (PV p77)) (un (inBlk v36) (un (inBlk (PV p38)) nb))))) c239.size (un_lt (fun b hb => (h267.lt b hb).2) (un_lt k112.ltp (un_lt k89.ltp (un_lt (fun b hb => (h37.lt b hb).2) (un_lt k39.ltp nbS))))) p15 z98 hd492 d134 y96 h99 h100 x61.top y298 hy299) ?_
       rintro v496 w494 ⟨_, rfl, h497, c495⟩
       rw [← hS493] at h497
       have h497 := SlO.backR k_Service_pos h497 (un_lt (fun b hb => (h267.lt b hb).2) (un_lt k112.ltp (un_lt k89.ltp (un_lt (fun b hb => (h37.lt b hb).2) (un_lt k39.ltp (un_lt h99.ltp (un_lt h100.ltp nbS))))))) c239.size
       exact RL.nil ⟨_, rfl, c495, ⟨v496, rfl, h497⟩⟩
      refine Each.consS (fun fl O wk hE hN hO ck => ?_) ?_
      ·
       refine Need.o1 rfl rfl rfl (fun _ h => h) ?_
       refine RL.yes rfl rfl rfl hg330 ?_
       refine rl_move rfl rfl ?_
       exact RL.nil ⟨_, rfl, Ch.refl, rfl⟩
      refine Each.consS (fun fl O wk hE hN hO ck => ?_) ?_
      ·
       refine Need.o1 rfl rfl rfl (fun _ h => h) ?_
       refine RL.yes rfl rfl rfl hg330 ?_
       refine rl_fieldAddr rfl fa40_6 rfl ?_
       exact RL.nil ⟨_, rfl, Ch.refl, rfl⟩
      refine Each.consS (fun fl O wk hE hN hO ck => ?_) ?_
      ·
       have k89 := k89.ch0 ck
       refine Need.o1 rfl rfl rfl (fun _ h => h) ?_
       refine Need.o1 rfl rfl rfl (fun _ h => h) ?_
       refine RL.yes rfl rfl rfl hg330 ?_
       refine rl_loadS (v := (Value.int .i64 x61.top)) rfl Tryd.isAgg3 (k89.cell rfl) rfl ?_
       exact RL.nil ⟨_, rfl, Ch.refl, rfl⟩
      refine Each.consA ⟨fun _ _ _ _ _ cc hh => by obtain ⟨v308, e, h309⟩ := hh; exact ⟨v308, e, slRep.ch k_Service_pos h309 cc⟩, fun h => absurd rfl h, fun fl O wk hE hN hO ck => ?_⟩ ?_
      ·
       have h37 := h37.ch0 ck
       have k39 := k39.ch0 ck
       have k89 := k89.ch0 ck
       have h99 := h99.ch0 ck
       have h100 := h100.ch0 ck
       have k112 := k112.ch0 ck
       have h267 := h267.ch0 ck
       have c239 := c239.then0 ck
       refine Need.o1 rfl rfl rfl (fun _ h => h) ?_
       refine Need.o1 rfl rfl rfl (fun _ h => h) ?_
       refine Need.o1 rfl rfl rfl (fun _ h => h) ?_
       refine RL.yes rfl rfl rfl hg330 ?_
       have hd505 : ∀ b, (un (inBlk (PV p109)) (inBlk (Value.slice none 0 0))) b → ¬ (un (inBlk (PV p77)) (un (inBlk v36) (un (inBlk (PV p38)) (un (inBlk (PV p15)) (un (inBlk z98) nb))))) b := fun b h => un_el h (fun h => (fun b hb => fun h => un_el h (fun h => d120 b hb h) (fun h => un_el h (fun h => d121 b hb h) (fun h => un_el h (fun h => d122 b hb h) (fun h => un_el h (fun h => d123 b hb h) (fun h => un_el h (fun h => d124 b hb h) (fun h => h)))))) b h) (fun h => (fun b hb => fun h => un_el h (fun h => d269 b hb h) (fun h => un_el h (fun h => d270 b hb h) (fun h => un_el h (fun h => d271 b hb h) (fun h => un_el h (fun h => d272 b hb h) (fun h => un_el h (fun h => d273 b hb h) (fun h => h)))))) b h)
       have hS506 : (un (inBlk (Value.slice none 0 0)) (un (inBlk (PV p109)) (un (inBlk (PV p77)) (un (inBlk v36) (un (inBlk (PV p38)) (un (inBlk (PV p15)) (un (inBlk z98) nb))))))) = (un (inBlk (PV p109)) (un (inBlk (Value.slice none 0 0)) (un (inBlk (PV p77)) (un (inBlk v36) (un (inBlk (PV p38)) (un (inBlk (PV p15)) (un (inBlk z98) nb))))))) := funext fun b => propext ⟨fun h => un_el h (fun h => (.inr (.inl h))) (fun h => un_el h (fun h => (.inl h)) (fun h => un_el h (fun h => (.inr (.inr (.inl h)))) (fun h => un_el h (fun h => (.inr (.inr (.inr (.inl h))))) (fun h => un_el h (fun h => (.inr (.inr (.inr (.inr (.inl h)))))) (fun h => un_el h (fun h => (.inr (.inr (.inr (.inr (.inr (.inl h))))))) (fun h => un_el h (fun h => (.inr (.inr (.inr (.inr (.inr (.inr (.inl h)))))))) (fun h => False.elim h))))))), fun h => un_el h (fun h => (.inr (.inl h))) (fun h => un_el h (fun h => (.inl h)) (fun h => un_el h (fun h => (.inr (.inr (.inl h)))) (fun h => un_el h (fun h => (.inr (.inr (.inr (.inl h))))) (fun h => un_el h (fun h => (.inr (.inr (.inr (.inr (.inl h)))))) (fun h => un_el h (fun h => (.inr (.inr (.inr (.inr (.inr (.inl h))))))) (fun h => un_el h (fun h => (.inr (.inr (.inr (.inr (.inr (.inr (.inl h)))))))) (fun h => False.elim h)))))))⟩
       refine rl_callF rfl en20 rfl (ctr20 F wk w.heap.size (un (inBlk (PV p77)) (un (inBlk v36) (un (inBlk (PV p38)) (un (inBlk (PV p15)) (un (inBlk z98) nb))))) c239.size (un_lt k89.ltp (un_lt (fun b hb => (h37.lt b hb).2) (un_lt k39.ltp (un_lt h99.ltp (un_lt h100.ltp nbS))))) p109 (Value.slice none 0 0) hd505 (disSym d268) ({ all := [] } : Stats_2) k112 (hS506 ▸ h267) x61.top y306 hy307) ?_
       rintro v509 w507 ⟨_, rfl, h510, c508⟩
       rw [← hS506] at h510
       have h510 := slRep.back k_Service_pos h510 (un_lt (fun b hb => (h267.lt b hb).2) (un_lt k112.ltp (un_lt k89.ltp (un_lt (fun b hb => (h37.lt b hb).2) (un_lt k39.ltp (un_lt h99.ltp (un_lt h100.ltp nbS))))))) c239.size
       exact RL.nil ⟨_, rfl, c508, ⟨v509, rfl, h510⟩⟩
      refine Each.consS (fun fl O wk hE hN hO ck => ?_) ?_
      ·
       refine Need.o1 rfl rfl rfl (fun _ h => h) ?_
       refine Need.one rfl rfl rfl ?_
       rintro _ ⟨v300, e512, h301⟩
       obtain rfl := e512.symm
       refine Need.one rfl rfl rfl ?_
       rintro _ ⟨v308, e513, h309⟩
       obtain rfl := e513.symm
       refine RL.yes rfl rfl rfl hg330 ?_
       refine rl_callF rfl en18 rfl (ctr18 (G F w.heap.size (un (inBlk (Value.slice none 0 0)) (un (inBlk (PV p109)) (un (inBlk (PV p77)) (un (inBlk v36) (un (inBlk (PV p38)) (un (inBlk (PV p15)) (un (inBlk z98) nb)))))))) wk y298 v300 h301 y306 v308 h309 y312 hy313) ?_
       rintro _ w514 ⟨rfl, c515⟩
       exact RL.nil ⟨_, rfl, c515, rfl⟩
      refine Each.consS (fun fl O wk hE hN hO ck => ?_) ?_
      ·
       refine Need.o1 rfl rfl rfl (fun _ h => h) ?_
       refine Need.o1 rfl rfl rfl (fun _ h => h) ?_
       refine RL.yes rfl rfl rfl hg330 ?_
       refine rl_not rfl rfl ?_
       exact RL.nil ⟨_, rfl, Ch.refl, rfl⟩
      refine Each.consS (fun fl O wk hE hN hO ck => ?_) ?_
      ·
       refine Need.o1 rfl rfl rfl (fun _ h => h) ?_
       refine Need.o1 rfl rfl rfl (fun _ h => h) ?_
       refine rl_pickF rfl hg330 rfl rfl ?_
       exact RL.nil ⟨_, rfl, Ch.refl, congrArg Value.bool (Option.some.inj hs385)⟩
      refine Each.consS (fun fl O wk hE hN hO ck => ?_) ?_
      ·
       refine Need.o1 rfl rfl rfl (fun _ h => h) ?_
       refine rl_move rfl rfl ?_
       exact RL.nil ⟨_, rfl, Ch.refl, rfl⟩
      refine Each.consS (fun fl O wk hE hN hO ck => ?_) ?_
      ·
       refine Need.o1 rfl rfl rfl (fun _ h => h) ?_
       refine RL.yes rfl rfl rfl hg386 ?_
       refine rl_move rfl rfl ?_
       exact RL.nil ⟨_, rfl, Ch.refl, rfl⟩
      refine Each.consS (fun fl O wk hE hN hO ck => ?_) ?_
      ·
       refine Need.o1 rfl rfl rfl (fun _ h => h) ?_
       refine RL.yes rfl rfl rfl hg386 ?_
       refine rl_fieldAddr rfl fa40_4 rfl ?_
       exact RL.nil ⟨_, rfl, Ch.refl, rfl⟩
      refine Each.consS (fun fl O wk hE hN hO ck => ?_) ?_
      ·
       have k89 := k89.ch0 ck
       refine Need.o1 rfl rfl rfl (fun _ h => h) ?_
       refine Need.o1 rfl rfl rfl (fun _ h => h) ?_
       refine RL.yes rfl rfl rfl hg386 ?_
       refine rl_loadS (v := (Value.int .i64 x61.atF)) rfl Tryd.isAgg3 (k89.cell rfl) rfl ?_
       exact RL.nil ⟨_, rfl, Ch.refl, rfl⟩
      refine Each.consS (fun fl O wk hE hN hO ck => ?_) ?_
      ·
       refine Need.o1 rfl rfl rfl (fun _ h => h) ?_
       refine RL.yes rfl rfl rfl hg386 ?_
       refine rl_fieldAddr rfl fa40_5 rfl ?_
       exact RL.nil ⟨_, rfl, Ch.refl, rfl⟩
      refine Each.consS (fun fl O wk hE hN hO ck => ?_) ?_
      ·
       have k89 := k89.ch0 ck
       refine Need.o1 rfl rfl rfl (fun _ h => h) ?_
       refine Need.o1 rfl rfl rfl (fun _ h => h) ?_
       refine RL.yes rfl rfl rfl hg386 ?_
       refine rl_loadS (v := (Value.int .i64 x61.spans)) rfl Tryd.isAgg3 (k89.cell rfl) rfl ?_
       exact RL.nil ⟨_, rfl, Ch.refl, rfl⟩
      refine Each.consS (fun fl O wk hE hN hO ck => ?_) ?_
      ·
       have h37 := h37.ch0 ck
       have k39 := k39.ch0 ck
       have k89 := k89.ch0 ck
       have h99 := h99.ch0 ck
       have h100 := h100.ch0 ck
       have k112 := k112.ch0 ck
       have h267 := h267.ch0 ck
       have c239 := c239.then0 ck
       refine Need.o1 rfl rfl rfl (fun _ h => h) ?_
       refine Need.o1 rfl rfl rfl (fun _ h => h) ?_
       refine Need.o1 rfl rfl rfl (fun _ h => h) ?_
       refine Need.o1 rfl rfl rfl (fun _ h => h) ?_
       refine RL.yes rfl rfl rfl hg386 ?_
       have hd532 : ∀ b, (un (inBlk (PV p15)) (inBlk z98)) b → ¬ (un (inBlk (Value.slice none 0 0)) (un (inBlk (PV p109)) (un (inBlk (PV p77)) (un (inBlk v36) (un (inBlk (PV p38)) nb))))) b := fun b h => un_el h (fun h => (fun b hb => fun h => un_el h (fun h => (disSym d272) b hb h) (fun h => un_el h (fun h => (disSym d123) b hb h) (fun h => un_el h (fun h => (disSym d127) b hb h) (fun h => un_el h (fun h => (disSym d130) b hb h) (fun h => un_el h (fun h => (disSym d132) b hb h) (fun h => h)))))) b h) (fun h => (fun b hb => fun h => un_el h (fun h => (disSym d273) b hb h) (fun h => un_el h (fun h => (disSym d124) b hb h) (fun h => un_el h (fun h => d104 b hb h) (fun h => un_el h (fun h => d105 b hb h) (fun h => un_el h (fun h => d106 b hb h) (fun h => h)))))) b h)
       refine rl_callF rfl en21 rfl (ctr21 F wk w.heap.size (un (inBlk (Value.slice none 0 0)) (un (inBlk (PV p109)) (un (inBlk (PV p77)) (un (inBlk v36) (un (inBlk (PV p38)) nb))))) c239.size (un_lt (fun b hb => (h267.lt b hb).2) (un_lt k112.ltp (un_lt k89.ltp (un_lt (fun b hb => (h37.lt b hb).2) (un_lt k39.ltp nbS))))) p15 z98 hd532 d134 y96 h99 h100 x61.atF x61.spans y320 hy321) ?_
       rintro _ w534 ⟨rfl, c535⟩
       exact RL.nil ⟨_, rfl, c535, rfl⟩
      refine Each.consS (fun fl O wk hE hN hO ck => ?_) ?_
      ·
       refine Need.o1 rfl rfl rfl (fun _ h => h) ?_
       refine RL.yes rfl rfl rfl hg386 ?_
       refine rl_move rfl rfl ?_
       exact RL.nil ⟨_, rfl, Ch.refl, rfl⟩
      refine Each.consS (fun fl O wk hE hN hO ck => ?_) ?_
      ·
       refine Need.o1 rfl rfl rfl (fun _ h => h) ?_
       refine RL.yes rfl rfl rfl hg386 ?_
       refine rl_fieldAddr rfl fa40_4 rfl ?_
       exact RL.nil ⟨_, rfl, Ch.refl, rfl⟩
      refine Each.consS (fun fl O wk hE hN hO ck => ?_) ?_
      ·
       have k89 := k89.ch0 ck
       refine Need.o1 rfl rfl rfl (fun _ h => h) ?_
       refine Need.o1 rfl rfl rfl (fun _ h => h) ?_
       refine RL.yes rfl rfl rfl hg386 ?_
       refine rl_loadS (v := (Value.int .i64 x61.atF)) rfl Tryd.isAgg3 (k89.cell rfl) rfl ?_
       exact RL.nil ⟨_, rfl, Ch.refl, rfl⟩
      refine Each.consS (fun fl O wk hE hN hO ck => ?_) ?_
      ·
       refine Need.o1 rfl rfl rfl (fun _ h => h) ?_
       refine RL.yes rfl rfl rfl hg386 ?_
       refine rl_fieldAddr rfl fa40_5 rfl ?_
       exact RL.nil ⟨_, rfl, Ch.refl, rfl⟩
      refine Each.consS (fun fl O wk hE hN hO ck => ?_) ?_
      ·
       have k89 := k89.ch0 ck
       refine Need.o1 rfl rfl rfl (fun _ h => h) ?_
       refine Need.o1 rfl rfl rfl (fun _ h => h) ?_
       refine RL.yes rfl rfl rfl hg386 ?_
       refine rl_loadS (v := (Value.int .i64 x61.spans)) rfl Tryd.isAgg3 (k89.cell rfl) rfl ?_
       exact RL.nil ⟨_, rfl, Ch.refl, rfl⟩
      refine Each.consS (fun fl O wk hE hN hO ck => ?_) ?_
      ·
       have h37 := h37.ch0 ck
       have k39 := k39.ch0 ck
       have k89 := k89.ch0 ck
       have h99 := h99.ch0 ck
       have h100 := h100.ch0 ck
       have k112 := k112.ch0 ck
       have h267 := h267.ch0 ck
       have c239 := c239.then0 ck
       refine Need.o1 rfl rfl rfl (fun _ h => h) ?_
       refine Need.o1 rfl rfl rfl (fun _ h => h) ?_
       refine Need.o1 rfl rfl rfl (fun _ h => h) ?_
       refine Need.o1 rfl rfl rfl (fun _ h => h) ?_
       refine RL.yes rfl rfl rfl hg386 ?_
       have hd547 : ∀ b, (un (inBlk (PV p109)) (inBlk (Value.slice none 0 0))) b → ¬ (un (inBlk (PV p77)) (un (inBlk v36) (un (inBlk (PV p38)) (un (inBlk (PV p15)) (un (inBlk z98) nb))))) b := fun b h => un_el h (fun h => (fun b hb => fun h => un_el h (fun h => d120 b hb h) (fun h => un_el h (fun h => d121 b hb h) (fun h => un_el h (fun h => d122 b hb h) (fun h => un_el h (fun h => d123 b hb h) (fun h => un_el h (fun h => d124 b hb h) (fun h => h)))))) b h) (fun h => (fun b hb => fun h => un_el h (fun h => d269 b hb h) (fun h => un_el h (fun h => d270 b hb h) (fun h => un_el h (fun h => d271 b hb h) (fun h => un_el h (fun h => d272 b hb h) (fun h => un_el h (fun h => d273 b hb h) (fun h => h)))))) b h)
       have hS548 : (un (inBlk (Value.slice none 0 0)) (un (inBlk (PV p109)) (un (inBlk (PV p77)) (un (inBlk v36) (un (inBlk (PV p38)) (un (inBlk (PV p15)) (un (inBlk z98) nb))))))) = (un (inBlk (PV p109)) (un (inBlk (Value.slice none 0 0)) (un (inBlk (PV p77)) (un (inBlk v36) (un (inBlk (PV p38)) (un (inBlk (PV p15)) (un (inBlk z98) nb))))))) := funext fun b => propext ⟨fun h => un_el h (fun h => (.inr (.inl h))) (fun h => un_el h (fun h => (.inl h)) (fun h => un_el h (fun h => (.inr (.inr (.inl h)))) (fun h => un_el h (fun h => (.inr (.inr (.inr (.inl h))))) (fun h => un_el h (fun h => (.inr (.inr (.inr (.inr (.inl h)))))) (fun h => un_el h (fun h => (.inr (.inr (.inr (.inr (.inr (.inl h))))))) (fun h => un_el h (fun h => (.inr (.inr (.inr (.inr (.inr (.inr (.inl h)))))))) (fun h => False.elim h))))))), fun h => un_el h (fun h => (.inr (.inl h))) (fun h => un_el h (fun h => (.inl h)) (fun h => un_el h (fun h => (.inr (.inr (.inl h)))) (fun h => un_el h (fun h => (.inr (.inr (.inr (.inl h))))) (fun h => un_el h (fun h => (.inr (.inr (.inr (.inr (.inl h)))))) (fun h => un_el h (fun h => (.inr (.inr (.inr (.inr (.inr (.inl h))))))) (fun h => un_el h (fun h => (.inr (.inr (.inr (.inr (.inr (.inr (.inl h)))))))) (fun h => False.elim h)))))))⟩
       refine rl_callF rfl en22 rfl (ctr22 F wk w.heap.size (un (inBlk (PV p77)) (un (inBlk v36) (un (inBlk (PV p38)) (un (inBlk (PV p15)) (un (inBlk z98) nb))))) c239.size (un_lt k89.ltp (un_lt (fun b hb => (h37.lt b hb).2) (un_lt k39.ltp (un_lt h99.ltp (un_lt h100.ltp nbS))))) p109 (Value.slice none 0 0) hd547 (disSym d268) ({ all := [] } : Stats_2) k112 (hS548 ▸ h267) x61.atF x61.spans y326 hy327) ?_
       rintro _ w549 ⟨rfl, c550⟩
       exact RL.nil ⟨_, rfl, c550, rfl⟩
      refine Each.consS (fun fl O wk hE hN hO ck => ?_) ?_
      ·
       refine Need.o1 rfl rfl rfl (fun _ h => h) ?_
       refine Need.o1 rfl rfl rfl (fun _ h => h) ?_
       refine Need.o1 rfl rfl rfl (fun _ h => h) ?_
       refine RL.yes rfl rfl rfl hg386 ?_
       refine rl_bin rfl rfl B.neqF rfl ?_
       exact RL.nil ⟨_, rfl, Ch.refl, rfl⟩
      refine Each.consS (fun fl O wk hE hN hO ck => ?_) ?_
      ·
       refine Need.o1 rfl rfl rfl (fun _ h => h) ?_
       refine Need.o1 rfl rfl rfl (fun _ h => h) ?_
       refine rl_pickF rfl hg386 rfl rfl ?_
       exact RL.nil ⟨_, rfl, Ch.refl, congrArg Value.bool (Option.some.inj hs464)⟩
      trivial
     intro hvO558 OpO558 O558 w556 hO559 c557 hN560
     refine Need.o1 rfl rfl rfl (fun _ h => h) ?_
     exact RL.nil ⟨rfl, ⟨rfl, rfl, rfl, rfl, rfl, rfl, trivial⟩, c557⟩
    rintro _ w563 ⟨hE562, c564⟩
    have ah0 := slRep.ch k_Act_pos ah0 c564
    have gl := Kd.ch gl c564
    have h99 := h99.ch0 c564
    have h100 := h100.ch0 c564
    have k112 := k112.ch0 c564
    have h267 := h267.ch0 c564
    have c239 := c239.then0 c564
    refine thn_n (CW.sub [(3, (PV p15)), (4, (PV p109)), (18, av0), (19, (Value.int .i64 ((a0.length : Nat) : Int))), (20, (Value.int .i64 ((i53 : Nat) : Int))), (111, (Value.bool b328))] hE562 ?_)
    refine CW.cond (t := b328) rfl (fun q565 => ?_) (fun q565 => ?_)
    ·
     have hb58 := ifT q565 hb58
     refine CW.seq (CW.region ?_)
     refine rl_assign rfl rfl ?_
     refine RL.nil (thn_n (CW.ret ?_))
     refine inB_ret ?_
     refine thn_ret ?_
     refine thn_ret (inB_ret (thn_ret ?_))
     refine thn_ret ?_
     have f566 := runBO_ret hL54 hq57 hb58
     have hS := retS f566 hS
     obtain rfl := Option.some.inj hS
     exact ret1 rfl ⟨rfl, c239⟩
    have hb58 := ifF q565 hb58
    refine CW.skip ?_
    refine inB_n ?_
    refine thn_n (CW.region ?_)
    refine rl_inc rfl hat55.lt ah0.big rfl ?_
    refine rl_move rfl rfl ?_
    refine RL.nil (thn_n ?_)
    have ad567 : ∀ b, b < w563.heap.size → ¬ (un (inBlk (Value.slice none 0 0)) (un (inBlk (PV p109)) (un (inBlk (PV p77)) (un (inBlk v36) (un (inBlk (PV p38)) (un (inBlk (PV p15)) (un (inBlk z98) nb))))))) b → ¬ nb b ∧ ¬ (un (inBlk (Value.slice none 0 0)) (un (inBlk (PV p109)) (un (inBlk v36) (un (inBlk (PV p38)) (un (inBlk (PV p15)) (un (inBlk z98) nb)))))) b := fun b _ hs => ⟨fun x => x, fun h => hs (un_el h (fun h => (.inl h)) (fun h => un_el h (fun h => (.inr (.inl h))) (fun h => un_el h (fun h => (.inr (.inr (.inr (.inl h))))) (fun h => un_el h (fun h => (.inr (.inr (.inr (.inr (.inl h)))))) (fun h => un_el h (fun h => (.inr (.inr (.inr (.inr (.inr (.inl h))))))) (fun h => un_el h (fun h => (.inr (.inr (.inr (.inr (.inr (.inr (.inl h)))))))) (fun h => False.elim h)))))))⟩
    have crf : Ch nb w563 w563 := Ch.refl
    have ah0 := slRep.st k_Act_pos ah0 crf ad567
    have gl := Kd.st gl crf ad567
    have h99 := h99.ch0 crf
    have h100 := h100.ch0 crf
    have k112 := k112.ch0 crf
    have h267 := h267.st crf (fun _ _ x => x) ad567 (fun b h => (.inl h))
    have c239 := c239.then0 crf
    have ad568 : ∀ b, b < w563.heap.size → ¬ (un (inBlk (Value.slice none 0 0)) (un (inBlk (PV p109)) (un (inBlk v36) (un (inBlk (PV p38)) (un (inBlk (PV p15)) (un (inBlk z98) nb)))))) b → ¬ nb b ∧ ¬ (un (inBlk (Value.slice none 0 0)) (un (inBlk (PV p109)) (un (inBlk (PV p38)) (un (inBlk (PV p15)) (un (inBlk z98) nb))))) b := fun b _ hs => ⟨fun x => x, fun h => hs (un_el h (fun h => (.inl h)) (fun h => un_el h (fun h => (.inr (.inl h))) (fun h => un_el h (fun h => (.inr (.inr (.inr (.inl h))))) (fun h => un_el h (fun h => (.inr (.inr (.inr (.inr (.inl h)))))) (fun h => un_el h (fun h => (.inr (.inr (.inr (.inr (.inr (.inl h))))))) (fun h => False.elim h))))))⟩
    have crf : Ch nb w563 w563 := Ch.refl
    have ah0 := slRep.st k_Act_pos ah0 crf ad568
    have gl := Kd.st gl crf ad568
    have h99 := h99.ch0 crf
    have h100 := h100.ch0 crf
    have k112 := k112.ch0 crf
    have h267 := h267.st crf (fun _ _ x => x) ad568 (fun b h => (.inl h))
    have c239 := c239.then0 crf
    have ad569 : ∀ b, b < w563.heap.size → ¬ (un (inBlk (Value.slice none 0 0)) (un (inBlk (PV p109)) (un (inBlk (PV p38)) (un (inBlk (PV p15)) (un (inBlk z98) nb))))) b → ¬ nb b ∧ ¬ (un (inBlk (Value.slice none 0 0)) (un (inBlk (PV p109)) (un (inBlk (PV p15)) (un (inBlk z98) nb)))) b := fun b _ hs => ⟨fun x => x, fun h => hs (un_el h (fun h => (.inl h)) (fun h => un_el h (fun h => (.inr (.inl h))) (fun h => un_el h (fun h => (.inr (.inr (.inr (.inl h))))) (fun h => un_el h (fun h => (.inr (.inr (.inr (.inr (.inl h)))))) (fun h => False.elim h)))))⟩
    have crf : Ch nb w563 w563 := Ch.refl
    have ah0 := slRep.st k_Act_pos ah0 crf ad569
    have gl := Kd.st gl crf ad569
    have h99 := h99.ch0 crf
    have h100 := h100.ch0 crf
    have k112 := k112.ch0 crf
    have h267 := h267.st crf (fun _ _ x => x) ad569 (fun b h => (.inl h))
    have c239 := c239.then0 crf
    have hLn := runBO_next hL54 hq57 hb58
    exact ⟨rest68.length, Nat.lt_succ_self _, [(3, (PV p15)), (18, av0), (19, (Value.int .i64 ((a0.length : Nat) : Int))), (4, (PV p109)), (20, (Value.int .i64 ((i53 + 1 : Nat) : Int)))], ⟨rfl, rfl, rfl, rfl, rfl, trivial⟩, ⟨rest68, i53 + 1, ({ all := [] } : Stats_2), p109, (Value.slice none 0 0), y96, z98, rfl, rfl, c239, hat55.next, hLn, ah0, gl, h267, h100, k112, h99, d268, d272, d273, d123, d124, d134, lo113, lo103⟩⟩
   have hb58 := ifF q91 hb58
   refine CW.seq ?_
   have hS617 : (un (inBlk (PV p77)) (un (inBlk v36) (un (inBlk (PV p38)) (un (inBlk (PV p15)) (un (inBlk v41) nb))))) = (un (inBlk (PV p15)) (un (inBlk v41) (un (inBlk (PV p77)) (un (inBlk v36) (un (inBlk (PV p38)) nb))))) := funext fun b => propext ⟨fun h => un_el h (fun h => (.inr (.inr (.inl h)))) (fun h => un_el h (fun h => (.inr (.inr (.inr (.inl h))))) (fun h => un_el h (fun h => (.inr (.inr (.inr (.inr (.inl h)))))) (fun h => un_el h (fun h => (.inl h)) (fun h => un_el h (fun h => (.inr (.inl h))) (fun h => False.elim h))))), fun h => un_el h (fun h => (.inr (.inr (.inr (.inl h))))) (fun h => un_el h (fun h => (.inr (.inr (.inr (.inr (.inl h)))))) (fun h => un_el h (fun h => (.inl h)) (fun h => un_el h (fun h => (.inr (.inl h))) (fun h => un_el h (fun h => (.inr (.inr (.inl h)))) (fun h => False.elim h)))))⟩
   rw [hS617] at ah0 gl h37 h76
   obtain ⟨y576, hy577, hb58⟩ := bindS hb58
   obtain ⟨y591, hy592, hb58⟩ := bindS hb58
   obtain ⟨y595, hy596⟩ : ∃ y, F16_Out x61.out = y := ⟨_, rfl⟩
   have hb58 := ltS hy596 hb58
   obtain ⟨y604, hy605, hb58⟩ := bindS hb58
   refine CW.draw 17 [(none, fun fx O uu wx => uu = (PV p15)), (none, fun fx O uu wx => uu = (Value.pointer (some ⟨p77, 3, none⟩))), (none, fun fx O uu wx => uu = (Value.agg (Out.c x61.out z75).toArray)), (none, fun fx O uu wx => uu = (Value.pointer (some ⟨p77, 1, none⟩))), (none, fun fx O uu wx => uu = (Value.int .i64 x61.size)), (none, fun fx O uu wx => uu = (Value.pointer (some ⟨p77, 2, none⟩))), (none, fun fx O uu wx => uu = (Value.int .i64 x61.now)), (some true, fun hv O uu wx => ∃ (z578 : Value), hv = [(errV ge y576.1)] ∧ uu = (errV ge y576.1) ∧ O = (un (inBlk (PV p15)) (inBlk z578)) ∧ Blk wx p15 81 (Stats.c y576.2 z578) ∧ Mp (fun x => Value.agg (Key.enc x).toArray) (fun x => Value.agg (Service.enc x).toArray) wx y576.2.services z578 ∧ (∀ b, inBlk (PV p15) b → ¬ inBlk z578 b)), (none, fun fx O uu wx => uu = (Value.int .i64 y591)), (none, fun fx O uu wx => uu = (PV p38)), (none, fun fx O uu wx => uu = (Value.pointer (some ⟨p77, 3, none⟩))), (none, fun fx O uu wx => uu = (Value.agg (Out.c x61.out z75).toArray)), (none, fun fx O uu wx => ∃ (z597 : Value), uu = (Value.agg (Out.c y595 z597).toArray) ∧ slRep (kInt .u8) (G F w.heap.size (un O (un (inBlk (PV p77)) (un (inBlk v36) (un (inBlk (PV p38)) nb))))) wx y595.packet z597), (none, fun fx O uu wx => uu = (Value.pointer (some ⟨p77, 1, none⟩))), (none, fun fx O uu wx => uu = (Value.int .i64 x61.size)), (none, fun fx O uu wx => uu = (Value.pointer (some ⟨p77, 2, none⟩))), (none, fun fx O uu wx => uu = (Value.int .i64 x61.now))] [[], [], [1], [], [3], [], [5], [0, 2, 4, 6], [7], [], [], [10], [11], [], [13], [], [15]] [7, 8, 9, 12, 14, 16] (un (inBlk (PV p15)) (inBlk v41)) (fun b h => un_el h (fun h => k43.ltp b h) (fun h => h42.ltp b h)) mixed rfl rfl rfl rfl ?_ ?_
   ·
    refine Each.consS (fun fl O wk hE hN hO ck => ?_) ?_
    ·
     refine rl_move rfl rfl ?_
     exact RL.nil ⟨_, rfl, Ch.refl, rfl⟩
    refine Each.consS (fun fl O wk hE hN hO ck => ?_) ?_
    ·
     refine rl_fieldAddr rfl fa40_3 rfl ?_
     exact RL.nil ⟨_, rfl, Ch.refl, rfl⟩
    refine Each.consS (fun fl O wk hE hN hO ck => ?_) ?_
    ·
     have k89 := k89.ch ck ((fun b hb h => un_el h (fun h => d84 b hb h) (fun h => d85 b hb h)) _ rfl)
     refine Need.o1 rfl rfl rfl (fun _ h => h) ?_
     refine rl_loadA (cs := (Out.c x61.out z75)) rfl Tryd.isAgg38 Tryd.sizeOf38 (k89.segAt 3 46) rfl rfl ?_
     exact RL.nil ⟨_, rfl, Ch.refl, rfl⟩
    refine Each.consS (fun fl O wk hE hN hO ck => ?_) ?_
    ·
     refine rl_fieldAddr rfl fa40_1 rfl ?_
     exact RL.nil ⟨_, rfl, Ch.refl, rfl⟩
    refine Each.consS (fun fl O wk hE hN hO ck => ?_) ?_
    ·
     have k89 := k89.ch ck ((fun b hb h => un_el h (fun h => d84 b hb h) (fun h => d85 b hb h)) _ rfl)
     refine Need.o1 rfl rfl rfl (fun _ h => h) ?_
     refine rl_loadS (v := (Value.int .i64 x61.size)) rfl Tryd.isAgg3 (k89.cell rfl) rfl ?_
     exact RL.nil ⟨_, rfl, Ch.refl, rfl⟩
    refine Each.consS (fun fl O wk hE hN hO ck => ?_) ?_
    ·
     refine rl_fieldAddr rfl fa40_2 rfl ?_
     exact RL.nil ⟨_, rfl, Ch.refl, rfl⟩
    refine Each.consS (fun fl O wk hE hN hO ck => ?_) ?_
    ·
     have k89 := k89.ch ck ((fun b hb h => un_el h (fun h => d84 b hb h) (fun h => d85 b hb h)) _ rfl)
     refine Need.o1 rfl rfl rfl (fun _ h => h) ?_
     refine rl_loadS (v := (Value.int .i64 x61.now)) rfl Tryd.isAgg3 (k89.cell rfl) rfl ?_
     exact RL.nil ⟨_, rfl, Ch.refl, rfl⟩
    refine Each.consO ⟨fun _ O _ wx wy cc hh => by obtain ⟨z578, eh, e, rfl, ck7_0, ck7_1, cd7_0_1⟩ := hh; exact ⟨z578, eh, e, rfl, ck7_0.ch0 cc, ck7_1.ch0 cc, cd7_0_1⟩, fun hv Op O wk hO ck hO0 => ?_⟩ ?_
    ·
     obtain ⟨hl, hBg⟩ := hO0 rfl
     obtain rfl := List.eq_nil_of_length_eq_zero hl
     have gl := Kd.ch gl hBg.2.1
     have h37 := h37.ch0 hBg.2.1
     have h42 := h42.ch0 hBg.2.1
     have k39 := k39.ch0 hBg.2.1
     have k43 := k43.ch0 hBg.2.1
     have h76 := slRep.ch kInt_pos h76 hBg.2.1
     have k89 := k89.ch0 hBg.2.1
     have c64 := c64.then0 hBg.2.1
     refine Need.o1 rfl rfl rfl (fun _ h => h) ?_
     refine Need.o1 rfl rfl rfl (fun _ h => h) ?_
     refine Need.o1 rfl rfl rfl (fun _ h => h) ?_
     refine Need.o1 rfl rfl rfl (fun _ h => h) ?_
     have hd653 : ∀ b, (un (inBlk (PV p15)) (inBlk v41)) b → ¬ (un (inBlk (PV p77)) (un (inBlk v36) (un (inBlk (PV p38)) nb))) b := fun b h => un_el h (fun h => (fun b hb => fun h => un_el h (fun h => (disSym d84) b hb h) (fun h => un_el h (fun h => (disSym d47) b hb h) (fun h => un_el h (fun h => (disSym d49) b hb h) (fun h => h)))) b h) (fun h => (fun b hb => fun h => un_el h (fun h => (disSym d85) b hb h) (fun h => un_el h (fun h => (disSym d48) b hb h) (fun h => un_el h (fun h => (disSym d50) b hb h) (fun h => h)))) b h)
     have hS654 : (un (inBlk (PV p15)) (un (inBlk v41) (un (inBlk (PV p77)) (un (inBlk v36) (un (inBlk (PV p38)) nb))))) = (un (inBlk (PV p15)) (un (inBlk v41) (un (inBlk (PV p77)) (un (inBlk v36) (un (inBlk (PV p38)) nb))))) := rfl
     have ha655 := h76
     rw [hS654] at ha655
     have ha656 := gl
     rw [hS654] at ha656
     refine rl_callF rfl en9 rfl (ctr9 F wk w.heap.size (un (inBlk (PV p77)) (un (inBlk v36) (un (inBlk (PV p38)) nb))) c64.size (un_lt k89.ltp (un_lt (fun b hb => (h37.lt b hb).2) (un_lt k39.ltp nbS))) p15 v41 hd653 d51 x40 k43 h42 x61.out z75 ha655 x61.size x61.now ge ha656 y576 hy577) ?_
     rintro _ w657 ⟨z659, rfl, h660, h661, hf662, d663, c658⟩
     have hb670 : ∀ b, (un (inBlk (PV p15)) (inBlk z659)) b → (O b ∨ wk.heap.size ≤ b) ∧ b < w657.heap.size := fun b h => ⟨un_el h (fun h => .inl ((hBg.1 b).2 (.inl (.inl h)))) (fun h => (hf662 b h).elim (fun h => .inl (un_el h (fun h => ((hBg.1 b).2 (.inl (.inl h)))) (fun h => ((hBg.1 b).2 (.inl (.inr h)))))) (fun h => .inr (Nat.le_trans (Nat.le_refl _) h))), un_el h (fun h => h660.ltp b h) (fun h => h661.ltp b h)⟩
     exact RL.nil ⟨_, (un (inBlk (PV p15)) (inBlk z659)), rfl, hb670, (c658.mono (fun b _ h => un_el h (fun h => ((hBg.1 b).2 (.inl (.inl h)))) (fun h => ((hBg.1 b).2 (.inl (.inr h)))))), ⟨z659, rfl, rfl, rfl, h660, h661, d663⟩⟩
    refine Each.consS (fun fl O wk hE hN hO ck => ?_) ?_
    ·
     have ha674 : ∀ b, b < w86.heap.size → ¬ (un (inBlk (PV p15)) (un (inBlk v41) (un (inBlk (PV p77)) (un (inBlk v36) (un (inBlk (PV p38)) nb))))) b → ¬ (un (inBlk (PV p15)) (inBlk v41)) b ∧ ¬ (un O (un (inBlk (PV p77)) (un (inBlk v36) (un (inBlk (PV p38)) nb)))) b := fun b hb hs => ⟨fun h => un_el h (fun h => hs (.inl h)) (fun h => hs (.inr (.inl h))), fun h => un_el h (fun ho => (hO b ho).1.elim (fun h => un_el h (fun h => hs (.inl h)) (fun h => hs (.inr (.inl h)))) (fun h => Nat.not_le_of_lt hb h)) (fun h => un_el h (fun h => hs (.inr (.inr (.inl h)))) (fun h => un_el h (fun h => hs (.inr (.inr (.inr (.inl h))))) (fun h => un_el h (fun h => hs (.inr (.inr (.inr (.inr (.inl h)))))) (fun h => False.elim h))))⟩
     have gl := Kd.st gl ck ha674
     refine Need.past rfl rfl rfl rfl ?_
     rintro _ _ _ _ ⟨_, _, e675, _, _, _, _⟩
     obtain rfl := e675.symm
     refine rl_callF rfl en14 rfl (ctr14 (G F w.heap.size (un O (un (inBlk (PV p77)) (un (inBlk v36) (un (inBlk (PV p38)) nb))))) wk y576.1 ge gl y591 hy592) ?_
     rintro _ w676 ⟨rfl, c677⟩
     exact RL.nil ⟨_, rfl, c677, rfl⟩
    refine Each.consS (fun fl O wk hE hN hO ck => ?_) ?_
    ·
     refine rl_move rfl rfl ?_
     exact RL.nil ⟨_, rfl, Ch.refl, rfl⟩
    refine Each.consS (fun fl O wk hE hN hO ck => ?_) ?_
    ·
     refine rl_fieldAddr rfl fa40_3 rfl ?_
     exact RL.nil ⟨_, rfl, Ch.refl, rfl⟩
    refine Each.consS (fun fl O wk hE hN hO ck => ?_) ?_
    ·
     have k89 := k89.ch ck ((fun b hb h => un_el h (fun h => d84 b hb h) (fun h => d85 b hb h)) _ rfl)
     refine Need.o1 rfl rfl rfl (fun _ h => h) ?_
     refine rl_loadA (cs := (Out.c x61.out z75)) rfl Tryd.isAgg38 Tryd.sizeOf38 (k89.segAt 3 46) rfl rfl ?_
     exact RL.nil ⟨_, rfl, Ch.refl, rfl⟩
    refine Each.consA ⟨fun _ _ _ _ _ cc hh => by obtain ⟨z597, e, h598⟩ := hh; exact ⟨z597, e, slRep.ch kInt_pos h598 cc⟩, fun _ _ h' O O' D _ wx wy hfl hD hO' cc hh => by obtain ⟨z597, e, h598⟩ := hh; have ad := admGh (S := (un (inBlk (PV p77)) (un (inBlk v36) (un (inBlk (PV p38)) nb)))) hD hO'; exact ⟨z597, e, slRep.st kInt_pos h598 cc ad⟩, fun fl O wk hE hN hO ck => ?_⟩ ?_
    ·
     have ha694 : ∀ b, b < w86.heap.size → ¬ (un (inBlk (PV p15)) (un (inBlk v41) (un (inBlk (PV p77)) (un (inBlk v36) (un (inBlk (PV p38)) nb))))) b → ¬ (un (inBlk (PV p15)) (inBlk v41)) b ∧ ¬ (un O (un (inBlk (PV p77)) (un (inBlk v36) (un (inBlk (PV p38)) nb)))) b := fun b hb hs => ⟨fun h => un_el h (fun h => hs (.inl h)) (fun h => hs (.inr (.inl h))), fun h => un_el h (fun ho => (hO b ho).1.elim (fun h => un_el h (fun h => hs (.inl h)) (fun h => hs (.inr (.inl h)))) (fun h => Nat.not_le_of_lt hb h)) (fun h => un_el h (fun h => hs (.inr (.inr (.inl h)))) (fun h => un_el h (fun h => hs (.inr (.inr (.inr (.inl h))))) (fun h => un_el h (fun h => hs (.inr (.inr (.inr (.inr (.inl h)))))) (fun h => False.elim h))))⟩
     have h37 := h37.st ck (fun b hb h => un_el h (fun h => d47 b hb h) (fun h => d48 b hb h)) ha694 (fun b h => (.inr (.inr (.inl h))))
     have k39 := k39.ch ck ((fun b hb h => un_el h (fun h => d49 b hb h) (fun h => d50 b hb h)) _ rfl)
     have h76 := slRep.st kInt_pos h76 ck ha694
     have k89 := k89.ch ck ((fun b hb h => un_el h (fun h => d84 b hb h) (fun h => d85 b hb h)) _ rfl)
     have c64 := c64.then ck (fun i hi h => un_el h (fun h => absurd (lo22 i h) (Nat.not_le_of_lt hi)) (fun h => absurd (lo45 i h) (Nat.not_le_of_lt hi)))
     refine Need.o1 rfl rfl rfl (fun _ h => h) ?_
     refine rl_callF rfl en16 rfl (ctr16 (G F w.heap.size (un O (un (inBlk (PV p77)) (un (inBlk v36) (un (inBlk (PV p38)) nb))))) wk x61.out z75 h76 y595 hy596) ?_
     rintro _ w696 ⟨z698, rfl, h699, c697⟩
     have h699 := slRep.back kInt_pos h699 (un_lt (fun b h => (hO b h).2) (un_lt k89.ltp (un_lt (fun b hb => (h37.lt b hb).2) (un_lt k39.ltp nbS)))) c64.size
     exact RL.nil ⟨_, rfl, c697, ⟨z698, rfl, h699⟩⟩
    refine Each.consS (fun fl O wk hE hN hO ck => ?_) ?_
    ·
     refine rl_fieldAddr rfl fa40_1 rfl ?_
     exact RL.nil ⟨_, rfl, Ch.refl, rfl⟩
    refine Each.consS (fun fl O wk hE hN hO ck => ?_) ?_
    ·
     have k89 := k89.ch ck ((fun b hb h => un_el h (fun h => d84 b hb h) (fun h => d85 b hb h)) _ rfl)
     refine Need.o1 rfl rfl rfl (fun _ h => h) ?_
     refine rl_loadS (v := (Value.int .i64 x61.size)) rfl Tryd.isAgg3 (k89.cell rfl) rfl ?_
     exact RL.nil ⟨_, rfl, Ch.refl, rfl⟩
    refine Each.consS (fun fl O wk hE hN hO ck => ?_) ?_
    ·
     refine rl_fieldAddr rfl fa40_2 rfl ?_
     exact RL.nil ⟨_, rfl, Ch.refl, rfl⟩
    refine Each.consS (fun fl O wk hE hN hO ck => ?_) ?_
    ·
     have k89 := k89.ch ck ((fun b hb h => un_el h (fun h => d84 b hb h) (fun h => d85 b hb h)) _ rfl)
     refine Need.o1 rfl rfl rfl (fun _ h => h) ?_
     refine rl_loadS (v := (Value.int .i64 x61.now)) rfl Tryd.isAgg3 (k89.cell rfl) rfl ?_
     exact RL.nil ⟨_, rfl, Ch.refl, rfl⟩
    trivial
   intro hvO720 OpO720 O720 w718 hO721 c719 hN722
   have ol723 : ∀ b, inBlk (PV p77) b → b < w86.heap.size := k89.ltp
   have ol724 : ∀ b, inBlk v36 b → b < w86.heap.size := (fun b hb => (h37.lt b hb).2)
   have ol725 : ∀ b, inBlk (PV p38) b → b < w86.heap.size := k39.ltp
   refine Need.here rfl rfl rfl rfl ?_
   rintro _ ⟨z578, rfl, e726, rfl, ck7_0, ck7_1, cd7_0_1⟩
   obtain rfl := e726.symm
   have d727 : ∀ b, inBlk (PV p15) b → ¬ inBlk (PV p77) b := fun b h hu => (hO721 b (.inl h)).1.elim (fun h => un_el h (fun h => (disSym d84) b h hu) (fun h => (disSym d85) b h hu)) (fun h => Nat.not_le_of_lt (ol723 b hu) h)
   have d728 : ∀ b, inBlk (PV p15) b → ¬ inBlk v36 b := fun b h hu => (hO721 b (.inl h)).1.elim (fun h => un_el h (fun h => (disSym d47) b h hu) (fun h => (disSym d48) b h hu)) (fun h => Nat.not_le_of_lt (ol724 b hu) h)
   have d729 : ∀ b, inBlk (PV p15) b → ¬ inBlk (PV p38) b := fun b h hu => (hO721 b (.inl h)).1.elim (fun h => un_el h (fun h => (disSym d49) b h hu) (fun h => (disSym d50) b h hu)) (fun h => Nat.not_le_of_lt (ol725 b hu) h)
   have lo730 : ∀ b, inBlk z578 b → w.heap.size ≤ b := fun b h => (hO721 b (.inr h)).1.elim (fun h => un_el h (fun h => lo22 b h) (fun h => lo45 b h)) (Nat.le_trans c64.size)
   have d731 : ∀ b, inBlk z578 b → ¬ inBlk (PV p77) b := fun b h hu => (hO721 b (.inr h)).1.elim (fun h => un_el h (fun h => d727 b h hu) (fun h => (disSym d85) b h hu)) (fun h => Nat.not_le_of_lt (ol723 b hu) h)
   have d732 : ∀ b, inBlk z578 b → ¬ inBlk v36 b := fun b h hu => (hO721 b (.inr h)).1.elim (fun h => un_el h (fun h => d728 b h hu) (fun h => (disSym d48) b h hu)) (fun h => Nat.not_le_of_lt (ol724 b hu) h)
   have d733 : ∀ b, inBlk z578 b → ¬ inBlk (PV p38) b := fun b h hu => (hO721 b (.inr h)).1.elim (fun h => un_el h (fun h => d729 b h hu) (fun h => (disSym d50) b h hu)) (fun h => Nat.not_le_of_lt (ol725 b hu) h)
   have ha734 : ∀ b, b < w86.heap.size → ¬ (un (inBlk (PV p15)) (un (inBlk v41) (un (inBlk (PV p77)) (un (inBlk v36) (un (inBlk (PV p38)) nb))))) b → ¬ (un (inBlk (PV p15)) (inBlk v41)) b ∧ ¬ (un (inBlk (PV p15)) (un (inBlk z578) (un (inBlk (PV p77)) (un (inBlk v36) (un (inBlk (PV p38)) nb))))) b := fun b hb hs => ⟨fun h => un_el h (fun h => hs (.inl h)) (fun h => hs (.inr (.inl h))), fun h => un_el h (fun h => (hO721 b (.inl h)).1.elim (fun h => un_el h (fun h => hs (.inl h)) (fun h => hs (.inr (.inl h)))) (fun h => Nat.not_le_of_lt hb h)) (fun h => un_el h (fun h => (hO721 b (.inr h)).1.elim (fun h => un_el h (fun h => hs (.inl h)) (fun h => hs (.inr (.inl h)))) (fun h => Nat.not_le_of_lt hb h)) (fun h => un_el h (fun h => hs (.inr (.inr (.inl h)))) (fun h => un_el h (fun h => hs (.inr (.inr (.inr (.inl h))))) (fun h => un_el h (fun h => hs (.inr (.inr (.inr (.inr (.inl h)))))) (fun h => False.elim h)))))⟩
   have ah0 := slRep.st k_Act_pos ah0 c719 ha734
   have gl := Kd.st gl c719 ha734
   have h37 := h37.st c719 (fun b hb h => un_el h (fun h => d47 b hb h) (fun h => d48 b hb h)) ha734 (fun b h => (.inr (.inr (.inr (.inl h)))))
   have k39 := k39.ch c719 ((fun b hb h => un_el h (fun h => d49 b hb h) (fun h => d50 b hb h)) _ rfl)
   have h76 := slRep.st kInt_pos h76 c719 ha734
   have k89 := k89.ch c719 ((fun b hb h => un_el h (fun h => d84 b hb h) (fun h => d85 b hb h)) _ rfl)
   have c64 := c64.then c719 (fun i hi h => un_el h (fun h => absurd (lo22 i h) (Nat.not_le_of_lt hi)) (fun h => absurd (lo45 i h) (Nat.not_le_of_lt hi)))
   refine Need.o1 rfl rfl rfl (fun _ h => h) ?_
   refine Need.o1 rfl rfl rfl (fun _ h => h) ?_
   refine Need.one rfl rfl rfl ?_
   rintro _ ⟨z597, e737, h598⟩
   obtain rfl := e737.symm
   have h598 := slRep.wk (F' := (G F w.heap.size (un (inBlk (PV p15)) (un (inBlk z578) (un (inBlk (PV p77)) (un (inBlk v36) (un (inBlk (PV p38)) nb))))))) kInt_pos h598 (fun b _ hf => ⟨hf.1, fun h => hf.2 (un_el h (fun h => (.inl (.inl h))) (fun h => un_el h (fun h => (.inl (.inr h))) (fun h => un_el h (fun h => (.inr (.inl h))) (fun h => un_el h (fun h => (.inr (.inr (.inl h)))) (fun h => un_el h (fun h => (.inr (.inr (.inr (.inl h))))) (fun h => False.elim h))))))⟩)
   refine Need.o1 rfl rfl rfl (fun _ h => h) ?_
   refine Need.o1 rfl rfl rfl (fun _ h => h) ?_
   have hd740 : ∀ b, (un (inBlk (PV p38)) (inBlk v36)) b → ¬ (un (inBlk (PV p15)) (un (inBlk z578) (un (inBlk (PV p77)) nb))) b := fun b h => un_el h (fun h => (fun b hb => fun h => un_el h (fun h => d49 b hb h) (fun h => un_el h (fun h => (disSym d733) b hb h) (fun h => un_el h (fun h => (disSym d83) b hb h) (fun h => h)))) b h) (fun h => (fun b hb => fun h => un_el h (fun h => d47 b hb h) (fun h => un_el h (fun h => (disSym d732) b hb h) (fun h => un_el h (fun h => (disSym d82) b hb h) (fun h => h)))) b h)
   have hS741 : (un (inBlk (PV p15)) (un (inBlk z578) (un (inBlk (PV p77)) (un (inBlk v36) (un (inBlk (PV p38)) nb))))) = (un (inBlk (PV p38)) (un (inBlk v36) (un (inBlk (PV p15)) (un (inBlk z578) (un (inBlk (PV p77)) nb))))) := funext fun b => propext ⟨fun h => un_el h (fun h => (.inr (.inr (.inl h)))) (fun h => un_el h (fun h => (.inr (.inr (.inr (.inl h))))) (fun h => un_el h (fun h => (.inr (.inr (.inr (.inr (.inl h)))))) (fun h => un_el h (fun h => (.inr (.inl h))) (fun h => un_el h (fun h => (.inl h)) (fun h => False.elim h))))), fun h => un_el h (fun h => (.inr (.inr (.inr (.inr (.inl h)))))) (fun h => un_el h (fun h => (.inr (.inr (.inr (.inl h))))) (fun h => un_el h (fun h => (.inl h)) (fun h => un_el h (fun h => (.inr (.inl h))) (fun h => un_el h (fun h => (.inr (.inr (.inl h)))) (fun h => False.elim h)))))⟩
   have ha742 := h598
   rw [hS741] at ha742
   refine rl_callF rfl en15 rfl (ctr15 F w718 w.heap.size (un (inBlk (PV p15)) (un (inBlk z578) (un (inBlk (PV p77)) nb))) c64.size (un_lt ck7_0.ltp (un_lt ck7_1.ltp (un_lt k89.ltp nbS))) p38 v36 hd740 (disSym d46) x35 k39 (hS741 ▸ h37) y595 z597 ha742 x61.size x61.now y604 hy605) ?_
   rintro _ w743 ⟨z745, rfl, h746, h747, hf748, d749, c744⟩
   have d751 : ∀ b, inBlk z745 b → ¬ inBlk (PV p15) b := fun b h hu => (hf748 b h).elim (fun h => un_el h (fun h => d49 b h hu) (fun h => d47 b h hu)) (fun h => Nat.not_le_of_lt (ck7_0.ltp b hu) h)
   have d752 : ∀ b, inBlk z745 b → ¬ inBlk z578 b := fun b h hu => (hf748 b h).elim (fun h => un_el h (fun h => (disSym d733) b h hu) (fun h => (disSym d732) b h hu)) (fun h => Nat.not_le_of_lt (ck7_1.ltp b hu) h)
   have d753 : ∀ b, inBlk z745 b → ¬ inBlk (PV p77) b := fun b h hu => (hf748 b h).elim (fun h => un_el h (fun h => (disSym d83) b h hu) (fun h => (disSym d82) b h hu)) (fun h => Nat.not_le_of_lt (k89.ltp b hu) h)
   have hS754 : (un (inBlk (PV p15)) (un (inBlk z578) (un (inBlk (PV p77)) (un (inBlk z745) (un (inBlk (PV p38)) nb))))) = (un (inBlk (PV p38)) (un (inBlk z745) (un (inBlk (PV p15)) (un (inBlk z578) (un (inBlk (PV p77)) nb))))) := funext fun b => propext ⟨fun h => un_el h (fun h => (.inr (.inr (.inl h)))) (fun h => un_el h (fun h => (.inr (.inr (.inr (.inl h))))) (fun h => un_el h (fun h => (.inr (.inr (.inr (.inr (.inl h)))))) (fun h => un_el h (fun h => (.inr (.inl h))) (fun h => un_el h (fun h => (.inl h)) (fun h => False.elim h))))), fun h => un_el h (fun h => (.inr (.inr (.inr (.inr (.inl h)))))) (fun h => un_el h (fun h => (.inr (.inr (.inr (.inl h))))) (fun h => un_el h (fun h => (.inl h)) (fun h => un_el h (fun h => (.inr (.inl h))) (fun h => un_el h (fun h => (.inr (.inr (.inl h)))) (fun h => False.elim h)))))⟩
   rw [← hS754] at h747
   have ha755 : ∀ b, b < w718.heap.size → ¬ (un (inBlk (PV p15)) (un (inBlk z578) (un (inBlk (PV p77)) (un (inBlk v36) (un (inBlk (PV p38)) nb))))) b → ¬ (un (inBlk (PV p38)) (inBlk v36)) b ∧ ¬ (un (inBlk (PV p15)) (un (inBlk z578) (un (inBlk (PV p77)) (un (inBlk z745) (un (inBlk (PV p38)) nb))))) b := fun b hb hs => ⟨fun h => un_el h (fun h => hs (.inr (.inr (.inr (.inr (.inl h)))))) (fun h => hs (.inr (.inr (.inr (.inl h))))), fun h => un_el h (fun h => hs (.inl h)) (fun h => un_el h (fun h => hs (.inr (.inl h))) (fun h => un_el h (fun h => hs (.inr (.inr (.inl h)))) (fun h => un_el h (fun h => (hf748 b h).elim (fun h => un_el h (fun h => hs (.inr (.inr (.inr (.inr (.inl h)))))) (fun h => hs (.inr (.inr (.inr (.inl h)))))) (fun h => Nat.not_le_of_lt hb h)) (fun h => un_el h (fun h => hs (.inr (.inr (.inr (.inr (.inl h)))))) (fun h => False.elim h)))))⟩
   have ah0 := slRep.st k_Act_pos ah0 c744 ha755
   have gl := Kd.st gl c744 ha755
   have h76 := slRep.st kInt_pos h76 c744 ha755
   have k89 := k89.ch c744 ((fun b hb h => un_el h (fun h => d83 b hb h) (fun h => d82 b hb h)) _ rfl)
   have ck7_0 := ck7_0.ch c744 ((fun b hb h => un_el h (fun h => d729 b hb h) (fun h => d728 b hb h)) _ rfl)
   have ck7_1 := ck7_1.ch c744 ((fun b hb h => un_el h (fun h => d733 b hb h) (fun h => d732 b hb h)))
   have h598 := slRep.st kInt_pos h598 c744 ha755
   have c64 := c64.then c744 (fun i hi h => un_el h (fun h => absurd (lo44 i h) (Nat.not_le_of_lt hi)) (fun h => absurd ((fun b hb => (h37.lt b hb).1) i h) (Nat.not_le_of_lt hi)))
   refine rl_bin rfl rfl B.neq rfl ?_
   refine RL.nil (thn_n ?_)
   refine CW.cond (t := !decide (y591 = y604.1)) rfl (fun q756 => ?_) (fun q756 => ?_)
   ·
    have hb58 := ifT q756 hb58
    refine CW.seq (CW.region ?_)
    refine rl_assign rfl rfl ?_
    refine RL.nil (thn_n (CW.ret ?_))
    refine thn_ret ?_
    refine inB_ret ?_
    refine thn_ret ?_
    refine thn_ret (inB_ret (thn_ret ?_))
    refine thn_ret ?_
    have f757 := runBO_ret hL54 hq57 hb58
    have hS := retS f757 hS
    obtain rfl := Option.some.inj hS
    exact ret1 rfl ⟨rfl, c64⟩
   have hb58 := ifF q756 hb58
   refine CW.skip ?_
   refine thn_n (CW.seq ?_)
   refine CW.seq (CW.region ?_)
   refine rl_assign rfl rfl ?_
   refine RL.nil (thn_n ?_)
   obtain ⟨o776, ho777, hb58⟩ := bindS hb58
   refine CW.cutB (fun E' w' => ∃ (x758 : Int), Sub [(3, (PV p15)), (4, (PV p38)), (6, (PV p77)), (18, av0), (19, (Value.int .i64 ((a0.length : Nat) : Int))), (20, (Value.int .i64 ((i53 : Nat) : Int)))] E' ∧ Ch nb w w' ∧ Lp.fin x758 = o776 ∧ slRep k_Act (G F w.heap.size (un (inBlk (PV p15)) (un (inBlk z578) (un (inBlk (PV p77)) (un (inBlk z745) (un (inBlk (PV p38)) nb)))))) w' a0 av0 ∧ (kGL 156 18).rep (G F w.heap.size (un (inBlk (PV p15)) (un (inBlk z578) (un (inBlk (PV p77)) (un (inBlk z745) (un (inBlk (PV p38)) nb)))))) w' ge [Value.bool true] ∧ slRep (kInt .u8) (G F w.heap.size (un (inBlk (PV p15)) (un (inBlk z578) (un (inBlk (PV p77)) (un (inBlk z745) (un (inBlk (PV p38)) nb)))))) w' x61.out.packet z75 ∧ Blk w' p77 40 (Act.c x61 z75) ∧ Blk w' p15 81 (Stats.c y576.2 z578) ∧ Mp (fun x => Value.agg (Key.enc x).toArray) (fun x => Value.agg (Service.enc x).toArray) w' y576.2.services z578 ∧ slRep (kInt .u8) (G F w.heap.size (un (inBlk (PV p15)) (un (inBlk z578) (un (inBlk (PV p77)) (un (inBlk z745) (un (inBlk (PV p38)) nb)))))) w' y595.packet z597 ∧ Blk w' p38 56 (Stats_2.c y604.2 z745) ∧ SlO k_Told 97 F w.heap.size (un (inBlk (PV p15)) (un (inBlk z578) (un (inBlk (PV p77)) (un (inBlk z745) (un (inBlk (PV p38)) nb))))) w' y604.2.all z745 ∧ (∀ b, inBlk (PV p15) b → ¬ inBlk z578 b) ∧ (∀ b, inBlk (PV p15) b → ¬ inBlk (PV p77) b) ∧ (∀ b, inBlk (PV p15) b → ¬ inBlk z745 b) ∧ (∀ b, inBlk (PV p15) b → ¬ inBlk (PV p38) b) ∧ (∀ b, inBlk z578 b → ¬ inBlk (PV p77) b) ∧ (∀ b, inBlk z578 b → ¬ inBlk z745 b) ∧ (∀ b, inBlk z578 b → ¬ inBlk (PV p38) b) ∧ (∀ b, inBlk (PV p77) b → ¬ inBlk z745 b) ∧ (∀ b, inBlk (PV p77) b → ¬ inBlk (PV p38) b) ∧ (∀ b, inBlk z745 b → ¬ inBlk (PV p38) b)) ?_ ?_
   ·
    refine CW.loopS [(3, (PV p15)), (4, (PV p38)), (6, (PV p77)), (18, av0), (19, (Value.int .i64 ((a0.length : Nat) : Int))), (20, (Value.int .i64 ((i53 : Nat) : Int))), (7, (Value.int .i64 (-1)))] ⟨rfl, rfl, rfl, rfl, rfl, rfl, rfl, trivial⟩ FUEL (fun m E w' => ∃ (x758 : Int), E = [(3, (PV p15)), (4, (PV p38)), (6, (PV p77)), (18, av0), (19, (Value.int .i64 ((a0.length : Nat) : Int))), (20, (Value.int .i64 ((i53 : Nat) : Int))), (7, (Value.int .i64 x758))] ∧ Ch nb w w' ∧ runW (F4_StatsPla_b3 y576 y604) m x758 = some o776 ∧ slRep k_Act (G F w.heap.size (un (inBlk (PV p15)) (un (inBlk z578) (un (inBlk (PV p77)) (un (inBlk z745) (un (inBlk (PV p38)) nb)))))) w' a0 av0 ∧ (kGL 156 18).rep (G F w.heap.size (un (inBlk (PV p15)) (un (inBlk z578) (un (inBlk (PV p77)) (un (inBlk z745) (un (inBlk (PV p38)) nb)))))) w' ge [Value.bool true] ∧ slRep (kInt .u8) (G F w.heap.size (un (inBlk (PV p15)) (un (inBlk z578) (un (inBlk (PV p77)) (un (inBlk z745) (un (inBlk (PV p38)) nb)))))) w' x61.out.packet z75 ∧ Blk w' p77 40 (Act.c x61 z75) ∧ Blk w' p15 81 (Stats.c y576.2 z578) ∧ Mp (fun x => Value.agg (Key.enc x).toArray) (fun x => Value.agg (Service.enc x).toArray) w' y576.2.services z578 ∧ slRep (kInt .u8) (G F w.heap.size (un (inBlk (PV p15)) (un (inBlk z578) (un (inBlk (PV p77)) (un (inBlk z745) (un (inBlk (PV p38)) nb)))))) w' y595.packet z597 ∧ Blk w' p38 56 (Stats_2.c y604.2 z745) ∧ SlO k_Told 97 F w.heap.size (un (inBlk (PV p15)) (un (inBlk z578) (un (inBlk (PV p77)) (un (inBlk z745) (un (inBlk (PV p38)) nb))))) w' y604.2.all z745 ∧ (∀ b, inBlk (PV p15) b → ¬ inBlk z578 b) ∧ (∀ b, inBlk (PV p15) b → ¬ inBlk (PV p77) b) ∧ (∀ b, inBlk (PV p15) b → ¬ inBlk z745 b) ∧ (∀ b, inBlk (PV p15) b → ¬ inBlk (PV p38) b) ∧ (∀ b, inBlk z578 b → ¬ inBlk (PV p77) b) ∧ (∀ b, inBlk z578 b → ¬ inBlk z745 b) ∧ (∀ b, inBlk z578 b → ¬ inBlk (PV p38) b) ∧ (∀ b, inBlk (PV p77) b → ¬ inBlk z745 b) ∧ (∀ b, inBlk (PV p77) b → ¬ inBlk (PV p38) b) ∧ (∀ b, inBlk z745 b → ¬ inBlk (PV p38) b))
        ⟨(-1), rfl, c64, ho777, ah0, gl, h76, k89, ck7_0, ck7_1, h598, h746, h747, cd7_0_1, d727, (disSym d751), d729, d731, (disSym d752), d733, (disSym d753), d83, (disSym d749)⟩ ?_
    rintro _ _ w782 ⟨x758, rfl, c781, hL771, ah0, gl, h76, k89, ck7_0, ck7_1, h598, h746, h747, d759, d760, d761, d762, d763, d764, d765, d766, d767, d768⟩
    obtain ⟨k780, q773, rfl, hq774⟩ := runW_some hL771
    have hb775 := hq774
    refine CW.seq ?_
    refine CW.seq (CW.region ?_)
    refine rl_move rfl rfl ?_
    refine rl_bin rfl rfl B.lss rfl ?_
    refine RL.nil (thn_n ?_)
    refine CW.cond (t := decide (x758 < 8)) rfl (fun q784 => ?_) (fun q784 => ?_)
    ·
     have hb775 := ifT q784 hb775
     refine CW.skip ?_
     refine thn_n (CW.seq ?_)
     refine CW.block ?_
     refine CW.seq (CW.region ?_)
     refine rl_move rfl rfl ?_
     refine rl_move rfl rfl ?_
     have hd785 : ∀ b, (un (inBlk (PV p38)) (inBlk z745)) b → ¬ (un (inBlk (PV p15)) (un (inBlk z578) (un (inBlk (PV p77)) nb))) b := fun b h => un_el h (fun h => (fun b hb => fun h => un_el h (fun h => d49 b hb h) (fun h => un_el h (fun h => (disSym d765) b hb h) (fun h => un_el h (fun h => (disSym d767) b hb h) (fun h => h)))) b h) (fun h => (fun b hb => fun h => un_el h (fun h => d751 b hb h) (fun h => un_el h (fun h => d752 b hb h) (fun h => un_el h (fun h => d753 b hb h) (fun h => h)))) b h)
     have hS786 : (un (inBlk (PV p15)) (un (inBlk z578) (un (inBlk (PV p77)) (un (inBlk z745) (un (inBlk (PV p38)) nb))))) = (un (inBlk (PV p38)) (un (inBlk z745) (un (inBlk (PV p15)) (un (inBlk z578) (un (inBlk (PV p77)) nb))))) := funext fun b => propext ⟨fun h => un_el h (fun h => (.inr (.inr (.inl h)))) (fun h => un_el h (fun h => (.inr (.inr (.inr (.inl h))))) (fun h => un_el h (fun h => (.inr (.inr (.inr (.inr (.inl h)))))) (fun h => un_el h (fun h => (.inr (.inl h))) (fun h => un_el h (fun h => (.inl h)) (fun h => False.elim h))))), fun h => un_el h (fun h => (.inr (.inr (.inr (.inr (.inl h)))))) (fun h => un_el h (fun h => (.inr (.inr (.inr (.inl h))))) (fun h => un_el h (fun h => (.inl h)) (fun h => un_el h (fun h => (.inr (.inl h))) (fun h => un_el h (fun h => (.inr (.inr (.inl h)))) (fun h => False.elim h)))))⟩
     obtain ⟨y789, hy790⟩ : ∃ y, F17_Verdict y604.2 x758 = y := ⟨_, rfl⟩
     have hb775 := ltS hy790 hb775
     refine rl_callF rfl en17 rfl (ctr17 F w782 w.heap.size (un (inBlk (PV p15)) (un (inBlk z578) (un (inBlk (PV p77)) nb))) c781.size (un_lt ck7_0.ltp (un_lt ck7_1.ltp (un_lt k89.ltp nbS))) p38 z745 hd785 d749 y604.2 h746 (hS786 ▸ h747) x758 y789 hy790) ?_
     rintro _ w787 ⟨rfl, c788⟩
     have ah0 := slRep.ch k_Act_pos ah0 c788
     have gl := Kd.ch gl c788
     have h76 := slRep.ch kInt_pos h76 c788
     have k89 := k89.ch0 c788
     have ck7_0 := ck7_0.ch0 c788
     have ck7_1 := ck7_1.ch0 c788
     have h598 := slRep.ch kInt_pos h598 c788
     have h746 := h746.ch0 c788
     have h747 := h747.ch0 c788
     have c781 := c781.then0 c788
     refine rl_move rfl rfl ?_
     refine rl_extract rfl rfl rfl ?_
     refine rl_extract rfl rfl rfl ?_
     refine rl_assign rfl rfl ?_
     refine rl_assign rfl rfl ?_
     refine RL.nil (thn_n (CW.seq ?_))
     refine CW.seq (CW.region ?_)
     refine rl_move rfl rfl ?_
     refine rl_bin rfl rfl B.lss rfl ?_
     refine rl_move rfl rfl ?_
     obtain ⟨b793, hb794⟩ : ∃ v, ((decide (x758 < 0)) || (decide (x758 > 6))) = v := ⟨_, rfl⟩
     have hb775 := ltS hb794 hb775
     refine RL.join 3 65 (.bool b793) (fun w' => Ch nb w787 w') ?_ ?_
     · rcases Bool.eq_false_or_eq_true (decide (x758 < 0)) with hg792 | hg792
       ·
        have hs791 := or_t hg792 hb794
        have cs : Ch nb w787 w787 := Ch.refl
        refine RL.no rfl rfl rfl hg792 rfl rfl ?_
        refine RL.no rfl rfl rfl hg792 rfl rfl ?_
        refine rl_pickT rfl hg792 rfl rfl ?_
        exact RL.nil ⟨Ext.bothEq (congrArg Value.bool hs791) (Ext.skip rfl (Ext.skip rfl (Ext.rfl'))), cs⟩
       ·
        have hs791 := or_f hg792 hb794
        have cs : Ch nb w787 w787 := Ch.refl
        refine RL.yes rfl rfl rfl hg792 ?_
        refine rl_move rfl rfl ?_
        refine RL.yes rfl rfl rfl hg792 ?_
        refine rl_bin rfl rfl B.gtr rfl ?_
        refine rl_pickF rfl hg792 rfl rfl ?_
        exact RL.nil ⟨Ext.bothEq (congrArg Value.bool hs791) (Ext.skip rfl (Ext.skip rfl (Ext.rfl'))), cs⟩
     intro w795 c796
     have ah0 := slRep.ch k_Act_pos ah0 c796
     have gl := Kd.ch gl c796
     have h76 := slRep.ch kInt_pos h76 c796
     have k89 := k89.ch0 c796
     have ck7_0 := ck7_0.ch0 c796
     have ck7_1 := ck7_1.ch0 c796
     have h598 := slRep.ch kInt_pos h598 c796
     have h746 := h746.ch0 c796
     have h747 := h747.ch0 c796
     have c781 := c781.then0 c796
     refine RL.nil (thn_n ?_)
     refine CW.cond (t := b793) rfl (fun q797 => ?_) (fun q797 => ?_)
     ·
      have hb775 := ifT q797 hb775
      refine CW.region ?_
      refine rl_assign rfl rfl ?_
      refine rl_assign rfl rfl ?_
      refine RL.nil (thn_n (CW.seq (CW.region ?_)))
      refine rl_move rfl rfl ?_
      refine rl_move rfl rfl ?_
      have hd798 : ∀ b, (un (inBlk (PV p15)) (inBlk z578)) b → ¬ (un (inBlk (PV p77)) (un (inBlk z745) (un (inBlk (PV p38)) nb))) b := fun b h => un_el h (fun h => (fun b hb => fun h => un_el h (fun h => d760 b hb h) (fun h => un_el h (fun h => d761 b hb h) (fun h => un_el h (fun h => d762 b hb h) (fun h => h)))) b h) (fun h => (fun b hb => fun h => un_el h (fun h => d763 b hb h) (fun h => un_el h (fun h => d764 b hb h) (fun h => un_el h (fun h => d765 b hb h) (fun h => h)))) b h)
      obtain ⟨y802, hy803, hb775⟩ := bindS hb775
      refine rl_callF rfl en10 rfl (ctr10 F w795 w.heap.size (un (inBlk (PV p77)) (un (inBlk z745) (un (inBlk (PV p38)) nb))) c781.size (un_lt k89.ltp (un_lt (fun b hb => (h747.lt b hb).2) (un_lt h746.ltp nbS))) p15 z578 hd798 d759 y576.2 ck7_0 ck7_1 x758 y802 hy803) ?_
      rintro _ w800 ⟨rfl, c801⟩
      have ah0 := slRep.ch k_Act_pos ah0 c801
      have gl := Kd.ch gl c801
      have h76 := slRep.ch kInt_pos h76 c801
      have k89 := k89.ch0 c801
      have ck7_0 := ck7_0.ch0 c801
      have ck7_1 := ck7_1.ch0 c801
      have h598 := slRep.ch kInt_pos h598 c801
      have h746 := h746.ch0 c801
      have h747 := h747.ch0 c801
      have c781 := c781.then0 c801
      refine rl_alloc (Count.enc Count.z) Tryd.zeroValue42 rfl rfl ?_
      intro p804 w805 n806 k807
      have lo808 : ∀ b, inBlk (PV p804) b → w.heap.size ≤ b := fun b h => Nat.le_trans c781.size (n806.fresh b h)
      have d809 : ∀ b, inBlk (PV p804) b → ¬ inBlk (PV p15) b := disNew n806.fresh ck7_0.ltp
      have d810 : ∀ b, inBlk (PV p804) b → ¬ inBlk z578 b := disNew n806.fresh ck7_1.ltp
      have d811 : ∀ b, inBlk (PV p804) b → ¬ inBlk (PV p77) b := disNew n806.fresh k89.ltp
      have d812 : ∀ b, inBlk (PV p804) b → ¬ inBlk z745 b := disNew n806.fresh (fun b hb => (h747.lt b hb).2)
      have d813 : ∀ b, inBlk (PV p804) b → ¬ inBlk (PV p38) b := disNew n806.fresh h746.ltp
      have ah0 := slRep.st k_Act_pos ah0 n806.ch (admNew n806.fresh (fun _ x => x))
      have gl := Kd.st gl n806.ch (admNew n806.fresh (fun _ x => x))
      have h76 := slRep.st kInt_pos h76 n806.ch (admNew n806.fresh (fun _ x => x))
      have k89 := k89.ch0 n806.ch
      have ck7_0 := ck7_0.ch0 n806.ch
      have ck7_1 := ck7_1.ch0 n806.ch
      have h598 := slRep.st kInt_pos h598 n806.ch (admNew n806.fresh (fun _ x => x))
      have h746 := h746.ch0 n806.ch
      have h747 := h747.st n806.ch (fun _ _ x => x) (admNew n806.fresh (fun _ x => x)) (fun b h => (.inr (.inr (.inr (.inr (.inl h))))))
      have c781 := c781.then0 n806.ch
      refine rl_storeA (vs := (Count.enc y802)) rfl rfl (all_one rfl) Tryd.sizeOf42 rfl k807 rfl ?_
      intro w814 s816 c815 k817
      have ad818 : ∀ b, b < w805.heap.size → ¬ (un (inBlk (PV p804)) (un (inBlk (PV p15)) (un (inBlk z578) (un (inBlk (PV p77)) (un (inBlk z745) (un (inBlk (PV p38)) nb)))))) b → ¬ (inBlk (PV p804)) b ∧ ¬ (un (inBlk (PV p804)) (un (inBlk (PV p15)) (un (inBlk z578) (un (inBlk (PV p77)) (un (inBlk z745) (un (inBlk (PV p38)) nb)))))) b := fun b _ hs => ⟨fun h => hs (.inl h), hs⟩
      have ah0 := slRep.st k_Act_pos ah0 c815 ad818
      have gl := Kd.st gl c815 ad818
      have h76 := slRep.st kInt_pos h76 c815 ad818
      have k89 := k89.ch c815 ((fun b hb h => (disSym d811) b hb h) _ rfl)
      have ck7_0 := ck7_0.ch c815 ((fun b hb h => (disSym d809) b hb h) _ rfl)
      have ck7_1 := ck7_1.ch c815 ((fun b hb h => (disSym d810) b hb h))
      have h598 := slRep.st kInt_pos h598 c815 ad818
      have h746 := h746.ch c815 ((fun b hb h => (disSym d813) b hb h) _ rfl)
      have h747 := h747.st c815 (fun b hb h => (disSym d812) b hb h) ad818 (fun b h => (.inr (.inr (.inr (.inr (.inl h))))))
      have c781 := c781.then c815 (fun i hi h => absurd (lo808 i h) (Nat.not_le_of_lt hi))
      refine RL.nil (thn_n (CW.seq (CW.region ?_)))
      refine rl_fieldAddr rfl fa42_0 rfl ?_
      refine rl_loadS (v := (Value.int .i64 y802.packets)) rfl Tryd.isAgg3 (k817.cell rfl) rfl ?_
      refine rl_move rfl rfl ?_
      refine rl_bin rfl rfl B.neq rfl ?_
      refine rl_move rfl rfl ?_
      obtain ⟨b821, hb822⟩ : ∃ v, ((!decide (y802.packets = 0)) || (!decide (y802.bytes = 0))) = v := ⟨_, rfl⟩
      have hb775 := ltS hb822 hb775
      refine RL.join 5 78 (.bool b821) (fun w' => Ch nb w814 w') ?_ ?_
      · rcases Bool.eq_false_or_eq_true (!decide (y802.packets = 0)) with hg820 | hg820
        ·
         have hs819 := or_t hg820 hb822
         have cs : Ch nb w814 w814 := Ch.refl
         refine RL.no rfl rfl rfl hg820 rfl rfl ?_
         refine RL.no rfl rfl rfl hg820 rfl rfl ?_
         refine RL.no rfl rfl rfl hg820 rfl rfl ?_
         refine RL.no rfl rfl rfl hg820 rfl rfl ?_
         refine rl_pickT rfl hg820 rfl rfl ?_
         exact RL.nil ⟨Ext.bothEq (congrArg Value.bool hs819) (Ext.skip rfl (Ext.skip rfl (Ext.skip rfl (Ext.skip rfl (Ext.rfl'))))), cs⟩
        ·
         have hs819 := or_f hg820 hb822
         have cs : Ch nb w814 w814 := Ch.refl
         refine RL.yes rfl rfl rfl hg820 ?_
         refine rl_fieldAddr rfl fa42_1 rfl ?_
         refine RL.yes rfl rfl rfl hg820 ?_
         refine rl_loadS (v := (Value.int .i64 y802.bytes)) rfl Tryd.isAgg3 (k817.cell rfl) rfl ?_
         refine RL.yes rfl rfl rfl hg820 ?_
         refine rl_move rfl rfl ?_
         refine RL.yes rfl rfl rfl hg820 ?_
         refine rl_bin rfl rfl B.neq rfl ?_
         refine rl_pickF rfl hg820 rfl rfl ?_
         exact RL.nil ⟨Ext.bothEq (congrArg Value.bool hs819) (Ext.skip rfl (Ext.skip rfl (Ext.skip rfl (Ext.skip rfl (Ext.rfl'))))), cs⟩
      intro w823 c824
      have ah0 := slRep.ch k_Act_pos ah0 c824
      have gl := Kd.ch gl c824
      have h76 := slRep.ch kInt_pos h76 c824
      have k89 := k89.ch0 c824
      have ck7_0 := ck7_0.ch0 c824
      have ck7_1 := ck7_1.ch0 c824
      have h598 := slRep.ch kInt_pos h598 c824
      have h746 := h746.ch0 c824
      have h747 := h747.ch0 c824
      have c781 := c781.then0 c824
      refine RL.nil (thn_n ?_)
      refine CW.cond (t := b821) rfl (fun q825 => ?_) (fun q825 => ?_)
      ·
       have hb775 := ifT q825 hb775
       refine CW.seq (CW.region ?_)
       refine rl_assign rfl rfl ?_
       refine RL.nil (thn_n (CW.ret ?_))
       refine inB_ret ?_
       refine thn_ret ?_
       refine thn_ret (inB_ret (thn_ret ?_))
       refine thn_ret ?_
       refine inB_ret ?_
       refine thn_ret ?_
       refine thn_ret (inB_ret (thn_ret ?_))
       refine thn_ret ?_
       have f826 := runW_ret hL771 hq774 hb775
       have hb58 := retS f826 hb58
       have f827 := runBO_ret hL54 hq57 hb58
       have hS := retS f827 hS
       obtain rfl := Option.some.inj hS
       exact ret1 rfl ⟨rfl, c781⟩
      have hb775 := ifF q825 hb775
      refine CW.skip ?_
      refine inB_n ?_
      refine thn_n (CW.region ?_)
      refine rl_move rfl rfl ?_
      refine rl_bin rfl rfl B.add rfl ?_
      refine rl_assign rfl rfl ?_
      refine RL.nil (thn_n ?_)
      have ad828 : ∀ b, b < w823.heap.size → ¬ (un (inBlk (PV p804)) (un (inBlk (PV p15)) (un (inBlk z578) (un (inBlk (PV p77)) (un (inBlk z745) (un (inBlk (PV p38)) nb)))))) b → ¬ nb b ∧ ¬ (un (inBlk (PV p15)) (un (inBlk z578) (un (inBlk (PV p77)) (un (inBlk z745) (un (inBlk (PV p38)) nb))))) b := fun b _ hs => ⟨fun x => x, fun h => hs (un_el h (fun h => (.inr (.inl h))) (fun h => un_el h (fun h => (.inr (.inr (.inl h)))) (fun h => un_el h (fun h => (.inr (.inr (.inr (.inl h))))) (fun h => un_el h (fun h => (.inr (.inr (.inr (.inr (.inl h)))))) (fun h => un_el h (fun h => (.inr (.inr (.inr (.inr (.inr (.inl h))))))) (fun h => False.elim h))))))⟩
      have crf : Ch nb w823 w823 := Ch.refl
      have ah0 := slRep.st k_Act_pos ah0 crf ad828
      have gl := Kd.st gl crf ad828
      have h76 := slRep.st kInt_pos h76 crf ad828
      have k89 := k89.ch0 crf
      have ck7_0 := ck7_0.ch0 crf
      have ck7_1 := ck7_1.ch0 crf
      have h598 := slRep.st kInt_pos h598 crf ad828
      have h746 := h746.ch0 crf
      have h747 := h747.st crf (fun _ _ x => x) ad828 (fun b h => (.inr (.inr (.inr (.inl h)))))
      have c781 := c781.then0 crf
      have hLn := runW_next hL771 hq774 hb775
      exact ⟨k780, Nat.lt_succ_self _, [(3, (PV p15)), (4, (PV p38)), (6, (PV p77)), (18, av0), (19, (Value.int .i64 ((a0.length : Nat) : Int))), (20, (Value.int .i64 ((i53 : Nat) : Int))), (7, (Value.int .i64 (IntKind.i64.wrap (x758 + 1))))], ⟨rfl, rfl, rfl, rfl, rfl, rfl, rfl, trivial⟩, ⟨IntKind.i64.wrap (x758 + 1), rfl, c781, hLn, ah0, gl, h76, k89, ck7_0, ck7_1, h598, h746, h747, d759, d760, d761, d762, d763, d764, d765, d766, d767, d768⟩⟩
     have hb775 := ifF q797 hb775
     refine CW.skip ?_
     refine thn_n (CW.seq (CW.region ?_))
     refine rl_move rfl rfl ?_
     refine rl_move rfl rfl ?_
     have hd829 : ∀ b, (un (inBlk (PV p15)) (inBlk z578)) b → ¬ (un (inBlk (PV p77)) (un (inBlk z745) (un (inBlk (PV p38)) nb))) b := fun b h => un_el h (fun h => (fun b hb => fun h => un_el h (fun h => d760 b hb h) (fun h => un_el h (fun h => d761 b hb h) (fun h => un_el h (fun h => d762 b hb h) (fun h => h)))) b h) (fun h => (fun b hb => fun h => un_el h (fun h => d763 b hb h) (fun h => un_el h (fun h => d764 b hb h) (fun h => un_el h (fun h => d765 b hb h) (fun h => h)))) b h)
     obtain ⟨y833, hy834, hb775⟩ := bindS hb775
     refine rl_callF rfl en10 rfl (ctr10 F w795 w.heap.size (un (inBlk (PV p77)) (un (inBlk z745) (un (inBlk (PV p38)) nb))) c781.size (un_lt k89.ltp (un_lt (fun b hb => (h747.lt b hb).2) (un_lt h746.ltp nbS))) p15 z578 hd829 d759 y576.2 ck7_0 ck7_1 x758 y833 hy834) ?_
     rintro _ w831 ⟨rfl, c832⟩
     have ah0 := slRep.ch k_Act_pos ah0 c832
     have gl := Kd.ch gl c832
     have h76 := slRep.ch kInt_pos h76 c832
     have k89 := k89.ch0 c832
     have ck7_0 := ck7_0.ch0 c832
     have ck7_1 := ck7_1.ch0 c832
     have h598 := slRep.ch kInt_pos h598 c832
     have h746 := h746.ch0 c832
     have h747 := h747.ch0 c832
     have c781 := c781.then0 c832
     refine rl_alloc (Count.enc Count.z) Tryd.zeroValue42 rfl rfl ?_
     intro p835 w836 n837 k838
     have lo839 : ∀ b, inBlk (PV p835) b → w.heap.size ≤ b := fun b h => Nat.le_trans c781.size (n837.fresh b h)
     have d840 : ∀ b, inBlk (PV p835) b → ¬ inBlk (PV p15) b := disNew n837.fresh ck7_0.ltp
     have d841 : ∀ b, inBlk (PV p835) b → ¬ inBlk z578 b := disNew n837.fresh ck7_1.ltp
     have d842 : ∀ b, inBlk (PV p835) b → ¬ inBlk (PV p77) b := disNew n837.fresh k89.ltp
     have d843 : ∀ b, inBlk (PV p835) b → ¬ inBlk z745 b := disNew n837.fresh (fun b hb => (h747.lt b hb).2)
     have d844 : ∀ b, inBlk (PV p835) b → ¬ inBlk (PV p38) b := disNew n837.fresh h746.ltp
     have ah0 := slRep.st k_Act_pos ah0 n837.ch (admNew n837.fresh (fun _ x => x))
     have gl := Kd.st gl n837.ch (admNew n837.fresh (fun _ x => x))
     have h76 := slRep.st kInt_pos h76 n837.ch (admNew n837.fresh (fun _ x => x))
     have k89 := k89.ch0 n837.ch
     have ck7_0 := ck7_0.ch0 n837.ch
     have ck7_1 := ck7_1.ch0 n837.ch
     have h598 := slRep.st kInt_pos h598 n837.ch (admNew n837.fresh (fun _ x => x))
     have h746 := h746.ch0 n837.ch
     have h747 := h747.st n837.ch (fun _ _ x => x) (admNew n837.fresh (fun _ x => x)) (fun b h => (.inr (.inr (.inr (.inr (.inl h))))))
     have c781 := c781.then0 n837.ch
     refine rl_storeA (vs := (Count.enc y833)) rfl rfl (all_one rfl) Tryd.sizeOf42 rfl k838 rfl ?_
     intro w845 s847 c846 k848
     have ad849 : ∀ b, b < w836.heap.size → ¬ (un (inBlk (PV p835)) (un (inBlk (PV p15)) (un (inBlk z578) (un (inBlk (PV p77)) (un (inBlk z745) (un (inBlk (PV p38)) nb)))))) b → ¬ (inBlk (PV p835)) b ∧ ¬ (un (inBlk (PV p835)) (un (inBlk (PV p15)) (un (inBlk z578) (un (inBlk (PV p77)) (un (inBlk z745) (un (inBlk (PV p38)) nb)))))) b := fun b _ hs => ⟨fun h => hs (.inl h), hs⟩
     have ah0 := slRep.st k_Act_pos ah0 c846 ad849
     have gl := Kd.st gl c846 ad849
     have h76 := slRep.st kInt_pos h76 c846 ad849
     have k89 := k89.ch c846 ((fun b hb h => (disSym d842) b hb h) _ rfl)
     have ck7_0 := ck7_0.ch c846 ((fun b hb h => (disSym d840) b hb h) _ rfl)
     have ck7_1 := ck7_1.ch c846 ((fun b hb h => (disSym d841) b hb h))
     have h598 := slRep.st kInt_pos h598 c846 ad849
     have h746 := h746.ch c846 ((fun b hb h => (disSym d844) b hb h) _ rfl)
     have h747 := h747.st c846 (fun b hb h => (disSym d843) b hb h) ad849 (fun b h => (.inr (.inr (.inr (.inr (.inl h))))))
     have c781 := c781.then c846 (fun i hi h => absurd (lo839 i h) (Nat.not_le_of_lt hi))
     refine RL.nil (thn_n (CW.seq (CW.region ?_)))
     refine rl_fieldAddr rfl fa42_0 rfl ?_
     refine rl_loadS (v := (Value.int .i64 y833.packets)) rfl Tryd.isAgg3 (k848.cell rfl) rfl ?_
     refine rl_move rfl rfl ?_
     refine rl_bin rfl rfl B.neq rfl ?_
     refine rl_move rfl rfl ?_
     obtain ⟨b852, hb853⟩ : ∃ v, ((!decide (y833.packets = y789.1)) || (!decide (y833.bytes = y789.2))) = v := ⟨_, rfl⟩
     have hb775 := ltS hb853 hb775
     refine RL.join 5 78 (.bool b852) (fun w' => Ch nb w845 w') ?_ ?_
     · rcases Bool.eq_false_or_eq_true (!decide (y833.packets = y789.1)) with hg851 | hg851
       ·
        have hs850 := or_t hg851 hb853
        have cs : Ch nb w845 w845 := Ch.refl
        refine RL.no rfl rfl rfl hg851 rfl rfl ?_
        refine RL.no rfl rfl rfl hg851 rfl rfl ?_
        refine RL.no rfl rfl rfl hg851 rfl rfl ?_
        refine RL.no rfl rfl rfl hg851 rfl rfl ?_
        refine rl_pickT rfl hg851 rfl rfl ?_
        exact RL.nil ⟨Ext.bothEq (congrArg Value.bool hs850) (Ext.skip rfl (Ext.skip rfl (Ext.skip rfl (Ext.skip rfl (Ext.rfl'))))), cs⟩
       ·
        have hs850 := or_f hg851 hb853
        have cs : Ch nb w845 w845 := Ch.refl
        refine RL.yes rfl rfl rfl hg851 ?_
        refine rl_fieldAddr rfl fa42_1 rfl ?_
        refine RL.yes rfl rfl rfl hg851 ?_
        refine rl_loadS (v := (Value.int .i64 y833.bytes)) rfl Tryd.isAgg3 (k848.cell rfl) rfl ?_
        refine RL.yes rfl rfl rfl hg851 ?_
        refine rl_move rfl rfl ?_
        refine RL.yes rfl rfl rfl hg851 ?_
        refine rl_bin rfl rfl B.neq rfl ?_
        refine rl_pickF rfl hg851 rfl rfl ?_
        exact RL.nil ⟨Ext.bothEq (congrArg Value.bool hs850) (Ext.skip rfl (Ext.skip rfl (Ext.skip rfl (Ext.skip rfl (Ext.rfl'))))), cs⟩
     intro w854 c855
     have ah0 := slRep.ch k_Act_pos ah0 c855
     have gl := Kd.ch gl c855
     have h76 := slRep.ch kInt_pos h76 c855
     have k89 := k89.ch0 c855
     have ck7_0 := ck7_0.ch0 c855
     have ck7_1 := ck7_1.ch0 c855
     have h598 := slRep.ch kInt_pos h598 c855
     have h746 := h746.ch0 c855
     have h747 := h747.ch0 c855
     have c781 := c781.then0 c855
     refine RL.nil (thn_n ?_)
     refine CW.cond (t := b852) rfl (fun q856 => ?_) (fun q856 => ?_)
     ·
      have hb775 := ifT q856 hb775
      refine CW.seq (CW.region ?_)
      refine rl_assign rfl rfl ?_
      refine RL.nil (thn_n (CW.ret ?_))
      refine inB_ret ?_
      refine thn_ret ?_
      refine thn_ret (inB_ret (thn_ret ?_))
      refine thn_ret ?_
      refine inB_ret ?_
      refine thn_ret ?_
      refine thn_ret (inB_ret (thn_ret ?_))
      refine thn_ret ?_
      have f857 := runW_ret hL771 hq774 hb775
      have hb58 := retS f857 hb58
      have f858 := runBO_ret hL54 hq57 hb58
      have hS := retS f858 hS
      obtain rfl := Option.some.inj hS
      exact ret1 rfl ⟨rfl, c781⟩
     have hb775 := ifF q856 hb775
     refine CW.skip ?_
     refine inB_n ?_
     refine thn_n (CW.region ?_)
     refine rl_move rfl rfl ?_
     refine rl_bin rfl rfl B.add rfl ?_
     refine rl_assign rfl rfl ?_
     refine RL.nil (thn_n ?_)
     have ad859 : ∀ b, b < w854.heap.size → ¬ (un (inBlk (PV p835)) (un (inBlk (PV p15)) (un (inBlk z578) (un (inBlk (PV p77)) (un (inBlk z745) (un (inBlk (PV p38)) nb)))))) b → ¬ nb b ∧ ¬ (un (inBlk (PV p15)) (un (inBlk z578) (un (inBlk (PV p77)) (un (inBlk z745) (un (inBlk (PV p38)) nb))))) b := fun b _ hs => ⟨fun x => x, fun h => hs (un_el h (fun h => (.inr (.inl h))) (fun h => un_el h (fun h => (.inr (.inr (.inl h)))) (fun h => un_el h (fun h => (.inr (.inr (.inr (.inl h))))) (fun h => un_el h (fun h => (.inr (.inr (.inr (.inr (.inl h)))))) (fun h => un_el h (fun h => (.inr (.inr (.inr (.inr (.inr (.inl h))))))) (fun h => False.elim h))))))⟩
     have crf : Ch nb w854 w854 := Ch.refl
     have ah0 := slRep.st k_Act_pos ah0 crf ad859
     have gl := Kd.st gl crf ad859
     have h76 := slRep.st kInt_pos h76 crf ad859
     have k89 := k89.ch0 crf
     have ck7_0 := ck7_0.ch0 crf
     have ck7_1 := ck7_1.ch0 crf
     have h598 := slRep.st kInt_pos h598 crf ad859
     have h746 := h746.ch0 crf
     have h747 := h747.st crf (fun _ _ x => x) ad859 (fun b h => (.inr (.inr (.inr (.inl h)))))
     have c781 := c781.then0 crf
     have hLn := runW_next hL771 hq774 hb775
     exact ⟨k780, Nat.lt_succ_self _, [(3, (PV p15)), (4, (PV p38)), (6, (PV p77)), (18, av0), (19, (Value.int .i64 ((a0.length : Nat) : Int))), (20, (Value.int .i64 ((i53 : Nat) : Int))), (7, (Value.int .i64 (IntKind.i64.wrap (x758 + 1))))], ⟨rfl, rfl, rfl, rfl, rfl, rfl, rfl, trivial⟩, ⟨IntKind.i64.wrap (x758 + 1), rfl, c781, hLn, ah0, gl, h76, k89, ck7_0, ck7_1, h598, h746, h747, d759, d760, d761, d762, d763, d764, d765, d766, d767, d768⟩⟩
    have hb775 := ifF q784 hb775
    refine CW.exit ?_
    refine thn_exit ?_
    refine thn_exit ?_
    refine inB_hit ?_
    have hLf := runW_fin hL771 hq774 hb775
    exact ⟨x758, ⟨rfl, rfl, rfl, rfl, rfl, rfl, trivial⟩, c781, hLf, ah0, gl, h76, k89, ck7_0, ck7_1, h598, h746, h747, d759, d760, d761, d762, d763, d764, d765, d766, d767, d768⟩
   rintro _ w861 ⟨x758, hE862, c860, f863, ah0, gl, h76, k89, ck7_0, ck7_1, h598, h746, h747, d759, d760, d761, d762, d763, d764, d765, d766, d767, d768⟩
   have hb58 := finS f863 hb58
   refine thn_n (CW.sub [(3, (PV p15)), (4, (PV p38)), (6, (PV p77)), (18, av0), (19, (Value.int .i64 ((a0.length : Nat) : Int))), (20, (Value.int .i64 ((i53 : Nat) : Int)))] hE862 ?_)
   refine CW.seq ?_
   obtain ⟨y869, hy870, hb58⟩ := bindS hb58
   obtain ⟨y877, hy878, hb58⟩ := bindS hb58
   obtain ⟨y883, hy884, hb58⟩ := bindS hb58
   obtain ⟨b905, hb906, hb58⟩ := bindS hb58
   obtain ⟨b919, hb920, hb58⟩ := bindS hb58
   refine CW.cutN (fun E' w' => Sub [(3, (PV p15)), (4, (PV p38)), (18, av0), (19, (Value.int .i64 ((a0.length : Nat) : Int))), (20, (Value.int .i64 ((i53 : Nat) : Int))), (111, (Value.bool b919))] E' ∧ Ch nb w861 w') ?_ ?_
   ·
    rcases Bool.eq_false_or_eq_true (!y883) with hg921 | hg921
    ·
     have hs922 := orO_t hg921 hb906
     have hs923 := orO_t (Option.some.inj hs922).symm hb920
     refine CW.draw 33 [(none, fun fx O uu wx => uu = (PV p15)), (none, fun fx O uu wx => ∃ (v871 : Value), uu = v871 ∧ slRep k_Service (G F w.heap.size (un (inBlk (PV p15)) (un (inBlk z578) (un (inBlk (PV p77)) (un (inBlk z745) (un (inBlk (PV p38)) nb)))))) wx y869 v871), (none, fun fx O uu wx => uu = (PV p38)), (none, fun fx O uu wx => ∃ (v879 : Value), uu = v879 ∧ slRep k_Service (G F w.heap.size (un (inBlk (PV p15)) (un (inBlk z578) (un (inBlk (PV p77)) (un (inBlk z745) (un (inBlk (PV p38)) nb)))))) wx y877 v879), (none, fun fx O uu wx => uu = (Value.bool y883)), (none, fun fx O uu wx => uu = (Value.bool (!y883))), (none, fun fx O uu wx => uu = (Value.bool (!y883))), (none, fun _ O uu wx => uu = undef), (none, fun _ O uu wx => uu = undef), (none, fun _ O uu wx => uu = undef), (none, fun _ O uu wx => uu = undef), (none, fun _ O uu wx => uu = undef), (none, fun _ O uu wx => uu = undef), (none, fun _ O uu wx => uu = undef), (none, fun _ O uu wx => uu = undef), (none, fun _ O uu wx => uu = undef), (none, fun _ O uu wx => uu = undef), (none, fun fx O uu wx => uu = (Value.bool b905)), (none, fun fx O uu wx => uu = (Value.bool b905)), (none, fun _ O uu wx => uu = undef), (none, fun _ O uu wx => uu = undef), (none, fun _ O uu wx => uu = undef), (none, fun _ O uu wx => uu = undef), (none, fun _ O uu wx => uu = undef), (none, fun _ O uu wx => uu = undef), (none, fun _ O uu wx => uu = undef), (none, fun _ O uu wx => uu = undef), (none, fun _ O uu wx => uu = undef), (none, fun _ O uu wx => uu = undef), (none, fun _ O uu wx => uu = undef), (none, fun _ O uu wx => uu = undef), (none, fun _ O uu wx => uu = undef), (none, fun fx O uu wx => uu = (Value.bool b919))] [[], [0], [], [2], [1, 3], [4], [5], [6], [6], [6], [6], [6], [6], [6], [6], [6], [6], [6], [17], [18], [18], [18], [18], [18], [18], [18], [18], [18], [18], [18], [18], [18], [18]] [32] nb (fun _ h => h.elim) mixed rfl rfl rfl rfl ?_ ?_
     ·
      refine Each.consS (fun fl O wk hE hN hO ck => ?_) ?_
      ·
       refine rl_move rfl rfl ?_
       exact RL.nil ⟨_, rfl, Ch.refl, rfl⟩
      refine Each.consA ⟨fun _ _ _ _ _ cc hh => by obtain ⟨v871, e, h872⟩ := hh; exact ⟨v871, e, slRep.ch k_Service_pos h872 cc⟩, fun h => absurd rfl h, fun fl O wk hE hN hO ck => ?_⟩ ?_
      ·
       have k89 := k89.ch0 ck
       have ck7_0 := ck7_0.ch0 ck
       have ck7_1 := ck7_1.ch0 ck
       have h746 := h746.ch0 ck
       have h747 := h747.ch0 ck
       have c860 := c860.then0 ck
       refine Need.o1 rfl rfl rfl (fun _ h => h) ?_
       have hd925 : ∀ b, (un (inBlk (PV p15)) (inBlk z578)) b → ¬ (un (inBlk (PV p77)) (un (inBlk z745) (un (inBlk (PV p38)) nb))) b := fun b h => un_el h (fun h => (fun b hb => fun h => un_el h (fun h => d760 b hb h) (fun h => un_el h (fun h => d761 b hb h) (fun h => un_el h (fun h => d762 b hb h) (fun h => h)))) b h) (fun h => (fun b hb => fun h => un_el h (fun h => d763 b hb h) (fun h => un_el h (fun h => d764 b hb h) (fun h => un_el h (fun h => d765 b hb h) (fun h => h)))) b h)
       have hS926 : (un (inBlk (PV p15)) (un (inBlk z578) (un (inBlk (PV p77)) (un (inBlk z745) (un (inBlk (PV p38)) nb))))) = (un (inBlk (PV p15)) (un (inBlk z578) (un (inBlk (PV p77)) (un (inBlk z745) (un (inBlk (PV p38)) nb))))) := rfl
       refine rl_callF rfl en11 rfl (ctr11 F wk w.heap.size (un (inBlk (PV p77)) (un (inBlk z745) (un (inBlk (PV p38)) nb))) c860.size (un_lt k89.ltp (un_lt (fun b hb => (h747.lt b hb).2) (un_lt h746.ltp nbS))) p15 z578 hd925 d759 y576.2 ck7_0 ck7_1 y869 hy870) ?_
       rintro v929 w927 ⟨_, rfl, h930, c928⟩
       rw [← hS926] at h930
       have h930 := SlO.backR k_Service_pos h930 (un_lt ck7_0.ltp (un_lt ck7_1.ltp (un_lt k89.ltp (un_lt (fun b hb => (h747.lt b hb).2) (un_lt h746.ltp nbS))))) c860.size
       exact RL.nil ⟨_, rfl, c928, ⟨v929, rfl, h930⟩⟩
      refine Each.consS (fun fl O wk hE hN hO ck => ?_) ?_
      ·
       refine rl_move rfl rfl ?_
       exact RL.nil ⟨_, rfl, Ch.refl, rfl⟩
      refine Each.consA ⟨fun _ _ _ _ _ cc hh => by obtain ⟨v879, e, h880⟩ := hh; exact ⟨v879, e, slRep.ch k_Service_pos h880 cc⟩, fun h => absurd rfl h, fun fl O wk hE hN hO ck => ?_⟩ ?_
      ·
       have k89 := k89.ch0 ck
       have ck7_0 := ck7_0.ch0 ck
       have ck7_1 := ck7_1.ch0 ck
       have h746 := h746.ch0 ck
       have h747 := h747.ch0 ck
       have c860 := c860.then0 ck
       refine Need.o1 rfl rfl rfl (fun _ h => h) ?_
       have hd932 : ∀ b, (un (inBlk (PV p38)) (inBlk z745)) b → ¬ (un (inBlk (PV p15)) (un (inBlk z578) (un (inBlk (PV p77)) nb))) b := fun b h => un_el h (fun h => (fun b hb => fun h => un_el h (fun h => d49 b hb h) (fun h => un_el h (fun h => (disSym d765) b hb h) (fun h => un_el h (fun h => (disSym d767) b hb h) (fun h => h)))) b h) (fun h => (fun b hb => fun h => un_el h (fun h => d751 b hb h) (fun h => un_el h (fun h => d752 b hb h) (fun h => un_el h (fun h => d753 b hb h) (fun h => h)))) b h)
       have hS933 : (un (inBlk (PV p15)) (un (inBlk z578) (un (inBlk (PV p77)) (un (inBlk z745) (un (inBlk (PV p38)) nb))))) = (un (inBlk (PV p38)) (un (inBlk z745) (un (inBlk (PV p15)) (un (inBlk z578) (un (inBlk (PV p77)) nb))))) := funext fun b => propext ⟨fun h => un_el h (fun h => (.inr (.inr (.inl h)))) (fun h => un_el h (fun h => (.inr (.inr (.inr (.inl h))))) (fun h => un_el h (fun h => (.inr (.inr (.inr (.inr (.inl h)))))) (fun h => un_el h (fun h => (.inr (.inl h))) (fun h => un_el h (fun h => (.inl h)) (fun h => False.elim h))))), fun h => un_el h (fun h => (.inr (.inr (.inr (.inr (.inl h)))))) (fun h => un_el h (fun h => (.inr (.inr (.inr (.inl h))))) (fun h => un_el h (fun h => (.inl h)) (fun h => un_el h (fun h => (.inr (.inl h))) (fun h => un_el h (fun h => (.inr (.inr (.inl h)))) (fun h => False.elim h)))))⟩
       refine rl_callF rfl en19 rfl (ctr19 F wk w.heap.size (un (inBlk (PV p15)) (un (inBlk z578) (un (inBlk (PV p77)) nb))) c860.size (un_lt ck7_0.ltp (un_lt ck7_1.ltp (un_lt k89.ltp nbS))) p38 z745 hd932 d749 y604.2 h746 (hS933 ▸ h747) y877 hy878) ?_
       rintro v936 w934 ⟨_, rfl, h937, c935⟩
       rw [← hS933] at h937
       have h937 := SlO.backR k_Service_pos h937 (un_lt ck7_0.ltp (un_lt ck7_1.ltp (un_lt k89.ltp (un_lt (fun b hb => (h747.lt b hb).2) (un_lt h746.ltp nbS))))) c860.size
       exact RL.nil ⟨_, rfl, c935, ⟨v936, rfl, h937⟩⟩
      refine Each.consS (fun fl O wk hE hN hO ck => ?_) ?_
      ·
       refine Need.one rfl rfl rfl ?_
       rintro _ ⟨v871, e938, h872⟩
       obtain rfl := e938.symm
       refine Need.one rfl rfl rfl ?_
       rintro _ ⟨v879, e939, h880⟩
       obtain rfl := e939.symm
       refine rl_callF rfl en18 rfl (ctr18 (G F w.heap.size (un (inBlk (PV p15)) (un (inBlk z578) (un (inBlk (PV p77)) (un (inBlk z745) (un (inBlk (PV p38)) nb)))))) wk y869 v871 h872 y877 v879 h880 y883 hy884) ?_
       rintro _ w940 ⟨rfl, c941⟩
       exact RL.nil ⟨_, rfl, c941, rfl⟩
      refine Each.consS (fun fl O wk hE hN hO ck => ?_) ?_
      ·
       refine Need.o1 rfl rfl rfl (fun _ h => h) ?_
       refine rl_not rfl rfl ?_
       exact RL.nil ⟨_, rfl, Ch.refl, rfl⟩
      refine Each.consS (fun fl O wk hE hN hO ck => ?_) ?_
      ·
       refine Need.o1 rfl rfl rfl (fun _ h => h) ?_
       refine rl_move rfl rfl ?_
       exact RL.nil ⟨_, rfl, Ch.refl, rfl⟩
      refine Each.consS (fun fl O wk hE hN hO ck => ?_) ?_
      ·
       refine Need.o1 rfl rfl rfl (fun _ h => h) ?_
       refine RL.no rfl rfl rfl hg921 rfl rfl ?_
       exact RL.nil ⟨_, rfl, Ch.refl, rfl⟩
      refine Each.consS (fun fl O wk hE hN hO ck => ?_) ?_
      ·
       refine Need.o1 rfl rfl rfl (fun _ h => h) ?_
       refine RL.no rfl rfl rfl hg921 rfl rfl ?_
       exact RL.nil ⟨_, rfl, Ch.refl, rfl⟩
      refine Each.consS (fun fl O wk hE hN hO ck => ?_) ?_
      ·
       refine Need.o1 rfl rfl rfl (fun _ h => h) ?_
       refine RL.no rfl rfl rfl hg921 rfl rfl ?_
       exact RL.nil ⟨_, rfl, Ch.refl, rfl⟩
      refine Each.consS (fun fl O wk hE hN hO ck => ?_) ?_
      ·
       refine Need.o1 rfl rfl rfl (fun _ h => h) ?_
       refine RL.no rfl rfl rfl hg921 rfl rfl ?_
       exact RL.nil ⟨_, rfl, Ch.refl, rfl⟩
      refine Each.consS (fun fl O wk hE hN hO ck => ?_) ?_
      ·
       refine Need.o1 rfl rfl rfl (fun _ h => h) ?_
       refine RL.no rfl rfl rfl hg921 rfl rfl ?_
       exact RL.nil ⟨_, rfl, Ch.refl, rfl⟩
      refine Each.consS (fun fl O wk hE hN hO ck => ?_) ?_
      ·
       refine Need.o1 rfl rfl rfl (fun _ h => h) ?_
       refine RL.no rfl rfl rfl hg921 rfl rfl ?_
       exact RL.nil ⟨_, rfl, Ch.refl, rfl⟩
      refine Each.consS (fun fl O wk hE hN hO ck => ?_) ?_
      ·
       refine Need.o1 rfl rfl rfl (fun _ h => h) ?_
       refine RL.no rfl rfl rfl hg921 rfl rfl ?_
       exact RL.nil ⟨_, rfl, Ch.refl, rfl⟩
      refine Each.consS (fun fl O wk hE hN hO ck => ?_) ?_
      ·
       refine Need.o1 rfl rfl rfl (fun _ h => h) ?_
       refine RL.no rfl rfl rfl hg921 rfl rfl ?_
       exact RL.nil ⟨_, rfl, Ch.refl, rfl⟩
      refine Each.consS (fun fl O wk hE hN hO ck => ?_) ?_
      ·
       refine Need.o1 rfl rfl rfl (fun _ h => h) ?_
       refine RL.no rfl rfl rfl hg921 rfl rfl ?_
       exact RL.nil ⟨_, rfl, Ch.refl, rfl⟩
      refine Each.consS (fun fl O wk hE hN hO ck => ?_) ?_
      ·
       refine Need.o1 rfl rfl rfl (fun _ h => h) ?_
       refine RL.no rfl rfl rfl hg921 rfl rfl ?_
       exact RL.nil ⟨_, rfl, Ch.refl, rfl⟩
      refine Each.consS (fun fl O wk hE hN hO ck => ?_) ?_
      ·
       refine Need.o1 rfl rfl rfl (fun _ h => h) ?_
       refine rl_pickT rfl hg921 rfl rfl ?_
       exact RL.nil ⟨_, rfl, Ch.refl, congrArg Value.bool (Option.some.inj hs922)⟩
      refine Each.consS (fun fl O wk hE hN hO ck => ?_) ?_
      ·
       refine Need.o1 rfl rfl rfl (fun _ h => h) ?_
       refine rl_move rfl rfl ?_
       exact RL.nil ⟨_, rfl, Ch.refl, rfl⟩
      refine Each.consS (fun fl O wk hE hN hO ck => ?_) ?_
      ·
       refine Need.o1 rfl rfl rfl (fun _ h => h) ?_
       refine RL.no rfl rfl rfl (Option.some.inj hs922).symm rfl rfl ?_
       exact RL.nil ⟨_, rfl, Ch.refl, rfl⟩
      refine Each.consS (fun fl O wk hE hN hO ck => ?_) ?_
      ·
       refine Need.o1 rfl rfl rfl (fun _ h => h) ?_
       refine RL.no rfl rfl rfl (Option.some.inj hs922).symm rfl rfl ?_
       exact RL.nil ⟨_, rfl, Ch.refl, rfl⟩
      refine Each.consS (fun fl O wk hE hN hO ck => ?_) ?_
      ·
       refine Need.o1 rfl rfl rfl (fun _ h => h) ?_
       refine RL.no rfl rfl rfl (Option.some.inj hs922).symm rfl rfl ?_
       exact RL.nil ⟨_, rfl, Ch.refl, rfl⟩
      refine Each.consS (fun fl O wk hE hN hO ck => ?_) ?_
      ·
       refine Need.o1 rfl rfl rfl (fun _ h => h) ?_
       refine RL.no rfl rfl rfl (Option.some.inj hs922).symm rfl rfl ?_
       exact RL.nil ⟨_, rfl, Ch.refl, rfl⟩
      refine Each.consS (fun fl O wk hE hN hO ck => ?_) ?_
      ·
       refine Need.o1 rfl rfl rfl (fun _ h => h) ?_
       refine RL.no rfl rfl rfl (Option.some.inj hs922).symm rfl rfl ?_
       exact RL.nil ⟨_, rfl, Ch.refl, rfl⟩
      refine Each.consS (fun fl O wk hE hN hO ck => ?_) ?_
      ·
       refine Need.o1 rfl rfl rfl (fun _ h => h) ?_
       refine RL.no rfl rfl rfl (Option.some.inj hs922).symm rfl rfl ?_
       exact RL.nil ⟨_, rfl, Ch.refl, rfl⟩
      refine Each.consS (fun fl O wk hE hN hO ck => ?_) ?_
      ·
       refine Need.o1 rfl rfl rfl (fun _ h => h) ?_
       refine RL.no rfl rfl rfl (Option.some.inj hs922).symm rfl rfl ?_
       exact RL.nil ⟨_, rfl, Ch.refl, rfl⟩
      refine Each.consS (fun fl O wk hE hN hO ck => ?_) ?_
      ·
       refine Need.o1 rfl rfl rfl (fun _ h => h) ?_
       refine RL.no rfl rfl rfl (Option.some.inj hs922).symm rfl rfl ?_
       exact RL.nil ⟨_, rfl, Ch.refl, rfl⟩
      refine Each.consS (fun fl O wk hE hN hO ck => ?_) ?_
      ·
       refine Need.o1 rfl rfl rfl (fun _ h => h) ?_
       refine RL.no rfl rfl rfl (Option.some.inj hs922).symm rfl rfl ?_
       exact RL.nil ⟨_, rfl, Ch.refl, rfl⟩
      refine Each.consS (fun fl O wk hE hN hO ck => ?_) ?_
      ·
       refine Need.o1 rfl rfl rfl (fun _ h => h) ?_
       refine RL.no rfl rfl rfl (Option.some.inj hs922).symm rfl rfl ?_
       exact RL.nil ⟨_, rfl, Ch.refl, rfl⟩
      refine Each.consS (fun fl O wk hE hN hO ck => ?_) ?_
      ·
       refine Need.o1 rfl rfl rfl (fun _ h => h) ?_
       refine RL.no rfl rfl rfl (Option.some.inj hs922).symm rfl rfl ?_
       exact RL.nil ⟨_, rfl, Ch.refl, rfl⟩
      refine Each.consS (fun fl O wk hE hN hO ck => ?_) ?_
      ·
       refine Need.o1 rfl rfl rfl (fun _ h => h) ?_
       refine RL.no rfl rfl rfl (Option.some.inj hs922).symm rfl rfl ?_
       exact RL.nil ⟨_, rfl, Ch.refl, rfl⟩
      refine Each.consS (fun fl O wk hE hN hO ck => ?_) ?_
      ·
       refine Need.o1 rfl rfl rfl (fun _ h => h) ?_
       refine RL.no rfl rfl rfl (Option.some.inj hs922).symm rfl rfl ?_
       exact RL.nil ⟨_, rfl, Ch.refl, rfl⟩
      refine Each.consS (fun fl O wk hE hN hO ck => ?_) ?_
      ·
       refine Need.o1 rfl rfl rfl (fun _ h => h) ?_
       refine rl_pickT rfl (Option.some.inj hs922).symm rfl rfl ?_
       exact RL.nil ⟨_, rfl, Ch.refl, congrArg Value.bool (Option.some.inj hs923)⟩
      trivial
     intro hvO972 OpO972 O972 w970 hO973 c971 hN974
     refine Need.o1 rfl rfl rfl (fun _ h => h) ?_
     exact RL.nil ⟨rfl, ⟨rfl, rfl, rfl, rfl, rfl, rfl, trivial⟩, c971⟩
    have hs976 := orO_f hg921 hb906
    obtain ⟨y889, hy890, hs976⟩ := bindS hs976
    obtain ⟨y897, hy898, hs976⟩ := bindS hs976
    obtain ⟨y903, hy904, hs976⟩ := bindS hs976
    rcases Bool.eq_false_or_eq_true b905 with hg977 | hg977
    ·
     have hs978 := orO_t hg977 hb920
     refine CW.draw 33 [(none, fun fx O uu wx => uu = (PV p15)), (none, fun fx O uu wx => ∃ (v871 : Value), uu = v871 ∧ slRep k_Service (G F w.heap.size (un (inBlk (PV p15)) (un (inBlk z578) (un (inBlk (PV p77)) (un (inBlk z745) (un (inBlk (PV p38)) nb)))))) wx y869 v871), (none, fun fx O uu wx => uu = (PV p38)), (none, fun fx O uu wx => ∃ (v879 : Value), uu = v879 ∧ slRep k_Service (G F w.heap.size (un (inBlk (PV p15)) (un (inBlk z578) (un (inBlk (PV p77)) (un (inBlk z745) (un (inBlk (PV p38)) nb)))))) wx y877 v879), (none, fun fx O uu wx => uu = (Value.bool y883)), (none, fun fx O uu wx => uu = (Value.bool (!y883))), (none, fun fx O uu wx => uu = (Value.bool (!y883))), (none, fun fx O uu wx => uu = (PV p15)), (none, fun fx O uu wx => uu = (Value.pointer (some ⟨p77, 51, none⟩))), (none, fun fx O uu wx => uu = (Value.int .i64 x61.top)), (none, fun fx O uu wx => ∃ (v891 : Value), uu = v891 ∧ slRep k_Service (G F w.heap.size (un (inBlk (PV p15)) (un (inBlk z578) (un (inBlk (PV p77)) (un (inBlk z745) (un (inBlk (PV p38)) nb)))))) wx y889 v891), (none, fun fx O uu wx => uu = (PV p38)), (none, fun fx O uu wx => uu = (Value.pointer (some ⟨p77, 51, none⟩))), (none, fun fx O uu wx => uu = (Value.int .i64 x61.top)), (none, fun fx O uu wx => ∃ (v899 : Value), uu = v899 ∧ slRep k_Service (G F w.heap.size (un (inBlk (PV p15)) (un (inBlk z578) (un (inBlk (PV p77)) (un (inBlk z745) (un (inBlk (PV p38)) nb)))))) wx y897 v899), (none, fun fx O uu wx => uu = (Value.bool y903)), (none, fun fx O uu wx => uu = (Value.bool (!y903))), (none, fun fx O uu wx => uu = (Value.bool b905)), (none, fun fx O uu wx => uu = (Value.bool b905)), (none, fun _ O uu wx => uu = undef), (none, fun _ O uu wx => uu = undef), (none, fun _ O uu wx => uu = undef), (none, fun _ O uu wx => uu = undef), (none, fun _ O uu wx => uu = undef), (none, fun _ O uu wx => uu = undef), (none, fun _ O uu wx => uu = undef), (none, fun _ O uu wx => uu = undef), (none, fun _ O uu wx => uu = undef), (none, fun _ O uu wx => uu = undef), (none, fun _ O uu wx => uu = undef), (none, fun _ O uu wx => uu = undef), (none, fun _ O uu wx => uu = undef), (none, fun fx O uu wx => uu = (Value.bool b919))] [[], [0], [], [2], [1, 3], [4], [5], [6], [6], [6, 8], [6, 7, 9], [6], [6], [6, 12], [6, 11, 13], [6, 10, 14], [6, 15], [6, 16], [17], [18], [18], [18], [18], [18], [18], [18], [18], [18], [18], [18], [18], [18], [18]] [32] nb (fun _ h => h.elim) mixed rfl rfl rfl rfl ?_ ?_
     ·
      refine Each.consS (fun fl O wk hE hN hO ck => ?_) ?_
      ·
       refine rl_move rfl rfl ?_
       exact RL.nil ⟨_, rfl, Ch.refl, rfl⟩
      refine Each.consA ⟨fun _ _ _ _ _ cc hh => by obtain ⟨v871, e, h872⟩ := hh; exact ⟨v871, e, slRep.ch k_Service_pos h872 cc⟩, fun h => absurd rfl h, fun fl O wk hE hN hO ck => ?_⟩ ?_
      ·
       have k89 := k89.ch0 ck
       have ck7_0 := ck7_0.ch0 ck
       have ck7_1 := ck7_1.ch0 ck
       have h746 := h746.ch0 ck
       have h747 := h747.ch0 ck
       have c860 := c860.then0 ck
       refine Need.o1 rfl rfl rfl (fun _ h => h) ?_
       have hd980 : ∀ b, (un (inBlk (PV p15)) (inBlk z578)) b → ¬ (un (inBlk (PV p77)) (un (inBlk z745) (un (inBlk (PV p38)) nb))) b := fun b h => un_el h (fun h => (fun b hb => fun h => un_el h (fun h => d760 b hb h) (fun h => un_el h (fun h => d761 b hb h) (fun h => un_el h (fun h => d762 b hb h) (fun h => h)))) b h) (fun h => (fun b hb => fun h => un_el h (fun h => d763 b hb h) (fun h => un_el h (fun h => d764 b hb h) (fun h => un_el h (fun h => d765 b hb h) (fun h => h)))) b h)
       have hS981 : (un (inBlk (PV p15)) (un (inBlk z578) (un (inBlk (PV p77)) (un (inBlk z745) (un (inBlk (PV p38)) nb))))) = (un (inBlk (PV p15)) (un (inBlk z578) (un (inBlk (PV p77)) (un (inBlk z745) (un (inBlk (PV p38)) nb))))) := rfl
       refine rl_callF rfl en11 rfl (ctr11 F wk w.heap.size (un (inBlk (PV p77)) (un (inBlk z745) (un (inBlk (PV p38)) nb))) c860.size (un_lt k89.ltp (un_lt (fun b hb => (h747.lt b hb).2) (un_lt h746.ltp nbS))) p15 z578 hd980 d759 y576.2 ck7_0 ck7_1 y869 hy870) ?_
       rintro v984 w982 ⟨_, rfl, h985, c983⟩
       rw [← hS981] at h985
       have h985 := SlO.backR k_Service_pos h985 (un_lt ck7_0.ltp (un_lt ck7_1.ltp (un_lt k89.ltp (un_lt (fun b hb => (h747.lt b hb).2) (un_lt h746.ltp nbS))))) c860.size
       exact RL.nil ⟨_, rfl, c983, ⟨v984, rfl, h985⟩⟩
      refine Each.consS (fun fl O wk hE hN hO ck => ?_) ?_
      ·
       refine rl_move rfl rfl ?_
       exact RL.nil ⟨_, rfl, Ch.refl, rfl⟩
      refine Each.consA ⟨fun _ _ _ _ _ cc hh => by obtain ⟨v879, e, h880⟩ := hh; exact ⟨v879, e, slRep.ch k_Service_pos h880 cc⟩, fun h => absurd rfl h, fun fl O wk hE hN hO ck => ?_⟩ ?_
      ·
       have k89 := k89.ch0 ck
       have ck7_0 := ck7_0.ch0 ck
       have ck7_1 := ck7_1.ch0 ck
       have h746 := h746.ch0 ck
       have h747 := h747.ch0 ck
       have c860 := c860.then0 ck
       refine Need.o1 rfl rfl rfl (fun _ h => h) ?_
       have hd987 : ∀ b, (un (inBlk (PV p38)) (inBlk z745)) b → ¬ (un (inBlk (PV p15)) (un (inBlk z578) (un (inBlk (PV p77)) nb))) b := fun b h => un_el h (fun h => (fun b hb => fun h => un_el h (fun h => d49 b hb h) (fun h => un_el h (fun h => (disSym d765) b hb h) (fun h => un_el h (fun h => (disSym d767) b hb h) (fun h => h)))) b h) (fun h => (fun b hb => fun h => un_el h (fun h => d751 b hb h) (fun h => un_el h (fun h => d752 b hb h) (fun h => un_el h (fun h => d753 b hb h) (fun h => h)))) b h)
       have hS988 : (un (inBlk (PV p15)) (un (inBlk z578) (un (inBlk (PV p77)) (un (inBlk z745) (un (inBlk (PV p38)) nb))))) = (un (inBlk (PV p38)) (un (inBlk z745) (un (inBlk (PV p15)) (un (inBlk z578) (un (inBlk (PV p77)) nb))))) := funext fun b => propext ⟨fun h => un_el h (fun h => (.inr (.inr (.inl h)))) (fun h => un_el h (fun h => (.inr (.inr (.inr (.inl h))))) (fun h => un_el h (fun h => (.inr (.inr (.inr (.inr (.inl h)))))) (fun h => un_el h (fun h => (.inr (.inl h))) (fun h => un_el h (fun h => (.inl h)) (fun h => False.elim h))))), fun h => un_el h (fun h => (.inr (.inr (.inr (.inr (.inl h)))))) (fun h => un_el h (fun h => (.inr (.inr (.inr (.inl h))))) (fun h => un_el h (fun h => (.inl h)) (fun h => un_el h (fun h => (.inr (.inl h))) (fun h => un_el h (fun h => (.inr (.inr (.inl h)))) (fun h => False.elim h)))))⟩
       refine rl_callF rfl en19 rfl (ctr19 F wk w.heap.size (un (inBlk (PV p15)) (un (inBlk z578) (un (inBlk (PV p77)) nb))) c860.size (un_lt ck7_0.ltp (un_lt ck7_1.ltp (un_lt k89.ltp nbS))) p38 z745 hd987 d749 y604.2 h746 (hS988 ▸ h747) y877 hy878) ?_
       rintro v991 w989 ⟨_, rfl, h992, c990⟩
       rw [← hS988] at h992
       have h992 := SlO.backR k_Service_pos h992 (un_lt ck7_0.ltp (un_lt ck7_1.ltp (un_lt k89.ltp (un_lt (fun b hb => (h747.lt b hb).2) (un_lt h746.ltp nbS))))) c860.size
       exact RL.nil ⟨_, rfl, c990, ⟨v991, rfl, h992⟩⟩
      refine Each.consS (fun fl O wk hE hN hO ck => ?_) ?_
      ·
       refine Need.one rfl rfl rfl ?_
       rintro _ ⟨v871, e993, h872⟩
       obtain rfl := e993.symm
       refine Need.one rfl rfl rfl ?_
       rintro _ ⟨v879, e994, h880⟩
       obtain rfl := e994.symm
       refine rl_callF rfl en18 rfl (ctr18 (G F w.heap.size (un (inBlk (PV p15)) (un (inBlk z578) (un (inBlk (PV p77)) (un (inBlk z745) (un (inBlk (PV p38)) nb)))))) wk y869 v871 h872 y877 v879 h880 y883 hy884) ?_
       rintro _ w995 ⟨rfl, c996⟩
       exact RL.nil ⟨_, rfl, c996, rfl⟩
      refine Each.consS (fun fl O wk hE hN hO ck => ?_) ?_
      ·
       refine Need.o1 rfl rfl rfl (fun _ h => h) ?_
       refine rl_not rfl rfl ?_
       exact RL.nil ⟨_, rfl, Ch.refl, rfl⟩
      refine Each.consS (fun fl O wk hE hN hO ck => ?_) ?_
      ·
       refine Need.o1 rfl rfl rfl (fun _ h => h) ?_
       refine rl_move rfl rfl ?_
       exact RL.nil ⟨_, rfl, Ch.refl, rfl⟩
      refine Each.consS (fun fl O wk hE hN hO ck => ?_) ?_
      ·
       refine Need.o1 rfl rfl rfl (fun _ h => h) ?_
       refine RL.yes rfl rfl rfl hg921 ?_
       refine rl_move rfl rfl ?_
       exact RL.nil ⟨_, rfl, Ch.refl, rfl⟩
      refine Each.consS (fun fl O wk hE hN hO ck => ?_) ?_
      ·
       refine Need.o1 rfl rfl rfl (fun _ h => h) ?_
       refine RL.yes rfl rfl rfl hg921 ?_
       refine rl_fieldAddr rfl fa40_6 rfl ?_
       exact RL.nil ⟨_, rfl, Ch.refl, rfl⟩
      refine Each.consS (fun fl O wk hE hN hO ck => ?_) ?_
      ·
       have k89 := k89.ch0 ck
       refine Need.o1 rfl rfl rfl (fun _ h => h) ?_
       refine Need.o1 rfl rfl rfl (fun _ h => h) ?_
       refine RL.yes rfl rfl rfl hg921 ?_
       refine rl_loadS (v := (Value.int .i64 x61.top)) rfl Tryd.isAgg3 (k89.cell rfl) rfl ?_
       exact RL.nil ⟨_, rfl, Ch.refl, rfl⟩
      refine Each.consA ⟨fun _ _ _ _ _ cc hh => by obtain ⟨v891, e, h892⟩ := hh; exact ⟨v891, e, slRep.ch k_Service_pos h892 cc⟩, fun h => absurd rfl h, fun fl O wk hE hN hO ck => ?_⟩ ?_
      ·
       have k89 := k89.ch0 ck
       have ck7_0 := ck7_0.ch0 ck
       have ck7_1 := ck7_1.ch0 ck
       have h746 := h746.ch0 ck
       have h747 := h747.ch0 ck
       have c860 := c860.then0 ck
       refine Need.o1 rfl rfl rfl (fun _ h => h) ?_
       refine Need.o1 rfl rfl rfl (fun _ h => h) ?_
       refine Need.o1 rfl rfl rfl (fun _ h => h) ?_
       refine RL.yes rfl rfl rfl hg921 ?_
       have hd1006 : ∀ b, (un (inBlk (PV p15)) (inBlk z578)) b → ¬ (un (inBlk (PV p77)) (un (inBlk z745) (un (inBlk (PV p38)) nb))) b := fun b h => un_el h (fun h => (fun b hb => fun h => un_el h (fun h => d760 b hb h) (fun h => un_el h (fun h => d761 b hb h) (fun h => un_el h (fun h => d762 b hb h) (fun h => h)))) b h) (fun h => (fun b hb => fun h => un_el h (fun h => d763 b hb h) (fun h => un_el h (fun h => d764 b hb h) (fun h => un_el h (fun h => d765 b hb h) (fun h => h)))) b h)
       have hS1007 : (un (inBlk (PV p15)) (un (inBlk z578) (un (inBlk (PV p77)) (un (inBlk z745) (un (inBlk (PV p38)) nb))))) = (un (inBlk (PV p15)) (un (inBlk z578) (un (inBlk (PV p77)) (un (inBlk z745) (un (inBlk (PV p38)) nb))))) := rfl
       refine rl_callF rfl en12 rfl (ctr12 F wk w.heap.size (un (inBlk (PV p77)) (un (inBlk z745) (un (inBlk (PV p38)) nb))) c860.size (un_lt k89.ltp (un_lt (fun b hb => (h747.lt b hb).2) (un_lt h746.ltp nbS))) p15 z578 hd1006 d759 y576.2 ck7_0 ck7_1 x61.top y889 hy890) ?_
       rintro v1010 w1008 ⟨_, rfl, h1011, c1009⟩
       rw [← hS1007] at h1011
       have h1011 := SlO.backR k_Service_pos h1011 (un_lt ck7_0.ltp (un_lt ck7_1.ltp (un_lt k89.ltp (un_lt (fun b hb => (h747.lt b hb).2) (un_lt h746.ltp nbS))))) c860.size
       exact RL.nil ⟨_, rfl, c1009, ⟨v1010, rfl, h1011⟩⟩
      refine Each.consS (fun fl O wk hE hN hO ck => ?_) ?_
      ·
       refine Need.o1 rfl rfl rfl (fun _ h => h) ?_
       refine RL.yes rfl rfl rfl hg921 ?_
       refine rl_move rfl rfl ?_
       exact RL.nil ⟨_, rfl, Ch.refl, rfl⟩
      refine Each.consS (fun fl O wk hE hN hO ck => ?_) ?_
      ·
       refine Need.o1 rfl rfl rfl (fun _ h => h) ?_
       refine RL.yes rfl rfl rfl hg921 ?_
       refine rl_fieldAddr rfl fa40_6 rfl ?_
       exact RL.nil ⟨_, rfl, Ch.refl, rfl⟩
      refine Each.consS (fun fl O wk hE hN hO ck => ?_) ?_
      ·
       have k89 := k89.ch0 ck
       refine Need.o1 rfl rfl rfl (fun _ h => h) ?_
       refine Need.o1 rfl rfl rfl (fun _ h => h) ?_
       refine RL.yes rfl rfl rfl hg921 ?_
       refine rl_loadS (v := (Value.int .i64 x61.top)) rfl Tryd.isAgg3 (k89.cell rfl) rfl ?_
       exact RL.nil ⟨_, rfl, Ch.refl, rfl⟩
      refine Each.consA ⟨fun _ _ _ _ _ cc hh => by obtain ⟨v899, e, h900⟩ := hh; exact ⟨v899, e, slRep.ch k_Service_pos h900 cc⟩, fun h => absurd rfl h, fun fl O wk hE hN hO ck => ?_⟩ ?_
      ·
       have k89 := k89.ch0 ck
       have ck7_0 := ck7_0.ch0 ck
       have ck7_1 := ck7_1.ch0 ck
       have h746 := h746.ch0 ck
       have h747 := h747.ch0 ck
       have c860 := c860.then0 ck
       refine Need.o1 rfl rfl rfl (fun _ h => h) ?_
       refine Need.o1 rfl rfl rfl (fun _ h => h) ?_
       refine Need.o1 rfl rfl rfl (fun _ h => h) ?_
       refine RL.yes rfl rfl rfl hg921 ?_
       have hd1019 : ∀ b, (un (inBlk (PV p38)) (inBlk z745)) b → ¬ (un (inBlk (PV p15)) (un (inBlk z578) (un (inBlk (PV p77)) nb))) b := fun b h => un_el h (fun h => (fun b hb => fun h => un_el h (fun h => d49 b hb h) (fun h => un_el h (fun h => (disSym d765) b hb h) (fun h => un_el h (fun h => (disSym d767) b hb h) (fun h => h)))) b h) (fun h => (fun b hb => fun h => un_el h (fun h => d751 b hb h) (fun h => un_el h (fun h => d752 b hb h) (fun h => un_el h (fun h => d753 b hb h) (fun h => h)))) b h)
       have hS1020 : (un (inBlk (PV p15)) (un (inBlk z578) (un (inBlk (PV p77)) (un (inBlk z745) (un (inBlk (PV p38)) nb))))) = (un (inBlk (PV p38)) (un (inBlk z745) (un (inBlk (PV p15)) (un (inBlk z578) (un (inBlk (PV p77)) nb))))) := funext fun b => propext ⟨fun h => un_el h (fun h => (.inr (.inr (.inl h)))) (fun h => un_el h (fun h => (.inr (.inr (.inr (.inl h))))) (fun h => un_el h (fun h => (.inr (.inr (.inr (.inr (.inl h)))))) (fun h => un_el h (fun h => (.inr (.inl h))) (fun h => un_el h (fun h => (.inl h)) (fun h => False.elim h))))), fun h => un_el h (fun h => (.inr (.inr (.inr (.inr (.inl h)))))) (fun h => un_el h (fun h => (.inr (.inr (.inr (.inl h))))) (fun h => un_el h (fun h => (.inl h)) (fun h => un_el h (fun h => (.inr (.inl h))) (fun h => un_el h (fun h => (.inr (.inr (.inl h)))) (fun h => False.elim h)))))⟩
       refine rl_callF rfl en20 rfl (ctr20 F wk w.heap.size (un (inBlk (PV p15)) (un (inBlk z578) (un (inBlk (PV p77)) nb))) c860.size (un_lt ck7_0.ltp (un_lt ck7_1.ltp (un_lt k89.ltp nbS))) p38 z745 hd1019 d749 y604.2 h746 (hS1020 ▸ h747) x61.top y897 hy898) ?_
       rintro v1023 w1021 ⟨_, rfl, h1024, c1022⟩
       rw [← hS1020] at h1024
       have h1024 := slRep.back k_Service_pos h1024 (un_lt ck7_0.ltp (un_lt ck7_1.ltp (un_lt k89.ltp (un_lt (fun b hb => (h747.lt b hb).2) (un_lt h746.ltp nbS))))) c860.size
       exact RL.nil ⟨_, rfl, c1022, ⟨v1023, rfl, h1024⟩⟩
      refine Each.consS (fun fl O wk hE hN hO ck => ?_) ?_
      ·
       refine Need.o1 rfl rfl rfl (fun _ h => h) ?_
       refine Need.one rfl rfl rfl ?_
       rintro _ ⟨v891, e1026, h892⟩
       obtain rfl := e1026.symm
       refine Need.one rfl rfl rfl ?_
       rintro _ ⟨v899, e1027, h900⟩
       obtain rfl := e1027.symm
       refine RL.yes rfl rfl rfl hg921 ?_
       refine rl_callF rfl en18 rfl (ctr18 (G F w.heap.size (un (inBlk (PV p15)) (un (inBlk z578) (un (inBlk (PV p77)) (un (inBlk z745) (un (inBlk (PV p38)) nb)))))) wk y889 v891 h892 y897 v899 h900 y903 hy904) ?_
       rintro _ w1028 ⟨rfl, c1029⟩
       exact RL.nil ⟨_, rfl, c1029, rfl⟩
      refine Each.consS (fun fl O wk hE hN hO ck => ?_) ?_
      ·
       refine Need.o1 rfl rfl rfl (fun _ h => h) ?_
       refine Need.o1 rfl rfl rfl (fun _ h => h) ?_
       refine RL.yes rfl rfl rfl hg921 ?_
       refine rl_not rfl rfl ?_
       exact RL.nil ⟨_, rfl, Ch.refl, rfl⟩
      refine Each.consS (fun fl O wk hE hN hO ck => ?_) ?_
      ·
       refine Need.o1 rfl rfl rfl (fun _ h => h) ?_
       refine Need.o1 rfl rfl rfl (fun _ h => h) ?_
       refine rl_pickF rfl hg921 rfl rfl ?_
       exact RL.nil ⟨_, rfl, Ch.refl, congrArg Value.bool (Option.some.inj hs976)⟩
      refine Each.consS (fun fl O wk hE hN hO ck => ?_) ?_
      ·
       refine Need.o1 rfl rfl rfl (fun _ h => h) ?_
       refine rl_move rfl rfl ?_
       exact RL.nil ⟨_, rfl, Ch.refl, rfl⟩
      refine Each.consS (fun fl O wk hE hN hO ck => ?_) ?_
      ·
       refine Need.o1 rfl rfl rfl (fun _ h => h) ?_
       refine RL.no rfl rfl rfl hg977 rfl rfl ?_
       exact RL.nil ⟨_, rfl, Ch.refl, rfl⟩
      refine Each.consS (fun fl O wk hE hN hO ck => ?_) ?_
      ·
       refine Need.o1 rfl rfl rfl (fun _ h => h) ?_
       refine RL.no rfl rfl rfl hg977 rfl rfl ?_
       exact RL.nil ⟨_, rfl, Ch.refl, rfl⟩
      refine Each.consS (fun fl O wk hE hN hO ck => ?_) ?_
      ·
       refine Need.o1 rfl rfl rfl (fun _ h => h) ?_
       refine RL.no rfl rfl rfl hg977 rfl rfl ?_
       exact RL.nil ⟨_, rfl, Ch.refl, rfl⟩
      refine Each.consS (fun fl O wk hE hN hO ck => ?_) ?_
      ·
       refine Need.o1 rfl rfl rfl (fun _ h => h) ?_
       refine RL.no rfl rfl rfl hg977 rfl rfl ?_
       exact RL.nil ⟨_, rfl, Ch.refl, rfl⟩
      refine Each.consS (fun fl O wk hE hN hO ck => ?_) ?_
      ·
       refine Need.o1 rfl rfl rfl (fun _ h => h) ?_
       refine RL.no rfl rfl rfl hg977 rfl rfl ?_
       exact RL.nil ⟨_, rfl, Ch.refl, rfl⟩
      refine Each.consS (fun fl O wk hE hN hO ck => ?_) ?_
      ·
       refine Need.o1 rfl rfl rfl (fun _ h => h) ?_
       refine RL.no rfl rfl rfl hg977 rfl rfl ?_
       exact RL.nil ⟨_, rfl, Ch.refl, rfl⟩
      refine Each.consS (fun fl O wk hE hN hO ck => ?_) ?_
      ·
       refine Need.o1 rfl rfl rfl (fun _ h => h) ?_
       refine RL.no rfl rfl rfl hg977 rfl rfl ?_
       exact RL.nil ⟨_, rfl, Ch.refl, rfl⟩
      refine Each.consS (fun fl O wk hE hN hO ck => ?_) ?_
      ·
       refine Need.o1 rfl rfl rfl (fun _ h => h) ?_
       refine RL.no rfl rfl rfl hg977 rfl rfl ?_
       exact RL.nil ⟨_, rfl, Ch.refl, rfl⟩
      refine Each.consS (fun fl O wk hE hN hO ck => ?_) ?_
      ·
       refine Need.o1 rfl rfl rfl (fun _ h => h) ?_
       refine RL.no rfl rfl rfl hg977 rfl rfl ?_
       exact RL.nil ⟨_, rfl, Ch.refl, rfl⟩
      refine Each.consS (fun fl O wk hE hN hO ck => ?_) ?_
      ·
       refine Need.o1 rfl rfl rfl (fun _ h => h) ?_
       refine RL.no rfl rfl rfl hg977 rfl rfl ?_
       exact RL.nil ⟨_, rfl, Ch.refl, rfl⟩
      refine Each.consS (fun fl O wk hE hN hO ck => ?_) ?_
      ·
       refine Need.o1 rfl rfl rfl (fun _ h => h) ?_
       refine RL.no rfl rfl rfl hg977 rfl rfl ?_
       exact RL.nil ⟨_, rfl, Ch.refl, rfl⟩
      refine Each.consS (fun fl O wk hE hN hO ck => ?_) ?_
      ·
       refine Need.o1 rfl rfl rfl (fun _ h => h) ?_
       refine RL.no rfl rfl rfl hg977 rfl rfl ?_
       exact RL.nil ⟨_, rfl, Ch.refl, rfl⟩
      refine Each.consS (fun fl O wk hE hN hO ck => ?_) ?_
      ·
       refine Need.o1 rfl rfl rfl (fun _ h => h) ?_
       refine RL.no rfl rfl rfl hg977 rfl rfl ?_
       exact RL.nil ⟨_, rfl, Ch.refl, rfl⟩
      refine Each.consS (fun fl O wk hE hN hO ck => ?_) ?_
      ·
       refine Need.o1 rfl rfl rfl (fun _ h => h) ?_
       refine rl_pickT rfl hg977 rfl rfl ?_
       exact RL.nil ⟨_, rfl, Ch.refl, congrArg Value.bool (Option.some.inj hs978)⟩
      trivial
     intro hvO1051 OpO1051 O1051 w1049 hO1052 c1050 hN1053
     refine Need.o1 rfl rfl rfl (fun _ h => h) ?_
     exact RL.nil ⟨rfl, ⟨rfl, rfl, rfl, rfl, rfl, rfl, trivial⟩, c1050⟩
    have hs1055 := orO_f hg977 hb920
    obtain ⟨y911, hy912, hs1055⟩ := bindS hs1055
    obtain ⟨y917, hy918, hs1055⟩ := bindS hs1055
    refine CW.draw 33 [(none, fun fx O uu wx => uu = (PV p15)), (none, fun fx O uu wx => ∃ (v871 : Value), uu = v871 ∧ slRep k_Service (G F w.heap.size (un (inBlk (PV p15)) (un (inBlk z578) (un (inBlk (PV p77)) (un (inBlk z745) (un (inBlk (PV p38)) nb)))))) wx y869 v871), (none, fun fx O uu wx => uu = (PV p38)), (none, fun fx O uu wx => ∃ (v879 : Value), uu = v879 ∧ slRep k_Service (G F w.heap.size (un (inBlk (PV p15)) (un (inBlk z578) (un (inBlk (PV p77)) (un (inBlk z745) (un (inBlk (PV p38)) nb)))))) wx y877 v879), (none, fun fx O uu wx => uu = (Value.bool y883)), (none, fun fx O uu wx => uu = (Value.bool (!y883))), (none, fun fx O uu wx => uu = (Value.bool (!y883))), (none, fun fx O uu wx => uu = (PV p15)), (none, fun fx O uu wx => uu = (Value.pointer (some ⟨p77, 51, none⟩))), (none, fun fx O uu wx => uu = (Value.int .i64 x61.top)), (none, fun fx O uu wx => ∃ (v891 : Value), uu = v891 ∧ slRep k_Service (G F w.heap.size (un (inBlk (PV p15)) (un (inBlk z578) (un (inBlk (PV p77)) (un (inBlk z745) (un (inBlk (PV p38)) nb)))))) wx y889 v891), (none, fun fx O uu wx => uu = (PV p38)), (none, fun fx O uu wx => uu = (Value.pointer (some ⟨p77, 51, none⟩))), (none, fun fx O uu wx => uu = (Value.int .i64 x61.top)), (none, fun fx O uu wx => ∃ (v899 : Value), uu = v899 ∧ slRep k_Service (G F w.heap.size (un (inBlk (PV p15)) (un (inBlk z578) (un (inBlk (PV p77)) (un (inBlk z745) (un (inBlk (PV p38)) nb)))))) wx y897 v899), (none, fun fx O uu wx => uu = (Value.bool y903)), (none, fun fx O uu wx => uu = (Value.bool (!y903))), (none, fun fx O uu wx => uu = (Value.bool b905)), (none, fun fx O uu wx => uu = (Value.bool b905)), (none, fun fx O uu wx => uu = (PV p15)), (none, fun fx O uu wx => uu = (Value.pointer (some ⟨p77, 49, none⟩))), (none, fun fx O uu wx => uu = (Value.int .i64 x61.atF)), (none, fun fx O uu wx => uu = (Value.pointer (some ⟨p77, 50, none⟩))), (none, fun fx O uu wx => uu = (Value.int .i64 x61.spans)), (none, fun fx O uu wx => uu = (Value.float .f64 y911)), (none, fun fx O uu wx => uu = (PV p38)), (none, fun fx O uu wx => uu = (Value.pointer (some ⟨p77, 49, none⟩))), (none, fun fx O uu wx => uu = (Value.int .i64 x61.atF)), (none, fun fx O uu wx => uu = (Value.pointer (some ⟨p77, 50, none⟩))), (none, fun fx O uu wx => uu = (Value.int .i64 x61.spans)), (none, fun fx O uu wx => uu = (Value.float .f64 y917)), (none, fun fx O uu wx => uu = (Value.bool (FloatKind.f64.format.order y911 y917 != some .eq))), (none, fun fx O uu wx => uu = (Value.bool b919))] [[], [0], [], [2], [1, 3], [4], [5], [6], [6], [6, 8], [6, 7, 9], [6], [6], [6, 12], [6, 11, 13], [6, 10, 14], [6, 15], [6, 16], [17], [18], [18], [18, 20], [18], [18, 22], [18, 19, 21, 23], [18], [18], [18, 26], [18], [18, 28], [18, 25, 27, 29], [18, 24, 30], [18, 31]] [32] nb (fun _ h => h.elim) mixed rfl rfl rfl rfl ?_ ?_
    ·
     refine Each.consS (fun fl O wk hE hN hO ck => ?_) ?_
     ·
      refine rl_move rfl rfl ?_
      exact RL.nil ⟨_, rfl, Ch.refl, rfl⟩
     refine Each.consA ⟨fun _ _ _ _ _ cc hh => by obtain ⟨v871, e, h872⟩ := hh; exact ⟨v871, e, slRep.ch k_Service_pos h872 cc⟩, fun h => absurd rfl h, fun fl O wk hE hN hO ck => ?_⟩ ?_
     ·
      have k89 := k89.ch0 ck
      have ck7_0 := ck7_0.ch0 ck
      have ck7_1 := ck7_1.ch0 ck
      have h746 := h746.ch0 ck
      have h747 := h747.ch0 ck
      have c860 := c860.then0 ck
      refine Need.o1 rfl rfl rfl (fun _ h => h) ?_
      have hd1057 : ∀ b, (un (inBlk (PV p15)) (inBlk z578)) b → ¬ (un (inBlk (PV p77)) (un (inBlk z745) (un (inBlk (PV p38)) nb))) b := fun b h => un_el h (fun h => (fun b hb => fun h => un_el h (fun h => d760 b hb h) (fun h => un_el h (fun h => d761 b hb h) (fun h => un_el h (fun h => d762 b hb h) (fun h => h)))) b h) (fun h => (fun b hb => fun h => un_el h (fun h => d763 b hb h) (fun h => un_el h (fun h => d764 b hb h) (fun h => un_el h (fun h => d765 b hb h) (fun h => h)))) b h)
      have hS1058 : (un (inBlk (PV p15)) (un (inBlk z578) (un (inBlk (PV p77)) (un (inBlk z745) (un (inBlk (PV p38)) nb))))) = (un (inBlk (PV p15)) (un (inBlk z578) (un (inBlk (PV p77)) (un (inBlk z745) (un (inBlk (PV p38)) nb))))) := rfl
      refine rl_callF rfl en11 rfl (ctr11 F wk w.heap.size (un (inBlk (PV p77)) (un (inBlk z745) (un (inBlk (PV p38)) nb))) c860.size (un_lt k89.ltp (un_lt (fun b hb => (h747.lt b hb).2) (un_lt h746.ltp nbS))) p15 z578 hd1057 d759 y576.2 ck7_0 ck7_1 y869 hy870) ?_
      rintro v1061 w1059 ⟨_, rfl, h1062, c1060⟩
      rw [← hS1058] at h1062
      have h1062 := SlO.backR k_Service_pos h1062 (un_lt ck7_0.ltp (un_lt ck7_1.ltp (un_lt k89.ltp (un_lt (fun b hb => (h747.lt b hb).2) (un_lt h746.ltp nbS))))) c860.size
      exact RL.nil ⟨_, rfl, c1060, ⟨v1061, rfl, h1062⟩⟩
     refine Each.consS (fun fl O wk hE hN hO ck => ?_) ?_
     ·
      refine rl_move rfl rfl ?_
      exact RL.nil ⟨_, rfl, Ch.refl, rfl⟩
     refine Each.consA ⟨fun _ _ _ _ _ cc hh => by obtain ⟨v879, e, h880⟩ := hh; exact ⟨v879, e, slRep.ch k_Service_pos h880 cc⟩, fun h => absurd rfl h, fun fl O wk hE hN hO ck => ?_⟩ ?_
     ·
      have k89 := k89.ch0 ck
      have ck7_0 := ck7_0.ch0 ck
      have ck7_1 := ck7_1.ch0 ck
      have h746 := h746.ch0 ck
      have h747 := h747.ch0 ck
      have c860 := c860.then0 ck
      refine Need.o1 rfl rfl rfl (fun _ h => h) ?_
      have hd1064 : ∀ b, (un (inBlk (PV p38)) (inBlk z745)) b → ¬ (un (inBlk (PV p15)) (un (inBlk z578) (un (inBlk (PV p77)) nb))) b := fun b h => un_el h (fun h => (fun b hb => fun h => un_el h (fun h => d49 b hb h) (fun h => un_el h (fun h => (disSym d765) b hb h) (fun h => un_el h (fun h => (disSym d767) b hb h) (fun h => h)))) b h) (fun h => (fun b hb => fun h => un_el h (fun h => d751 b hb h) (fun h => un_el h (fun h => d752 b hb h) (fun h => un_el h (fun h => d753 b hb h) (fun h => h)))) b h)
      have hS1065 : (un (inBlk (PV p15)) (un (inBlk z578) (un (inBlk (PV p77)) (un (inBlk z745) (un (inBlk (PV p38)) nb))))) = (un (inBlk (PV p38)) (un (inBlk z745) (un (inBlk (PV p15)) (un (inBlk z578) (un (inBlk (PV p77)) nb))))) := funext fun b => propext ⟨fun h => un_el h (fun h => (.inr (.inr (.inl h)))) (fun h => un_el h (fun h => (.inr (.inr (.inr (.inl h))))) (fun h => un_el h (fun h => (.inr (.inr (.inr (.inr (.inl h)))))) (fun h => un_el h (fun h => (.inr (.inl h))) (fun h => un_el h (fun h => (.inl h)) (fun h => False.elim h))))), fun h => un_el h (fun h => (.inr (.inr (.inr (.inr (.inl h)))))) (fun h => un_el h (fun h => (.inr (.inr (.inr (.inl h))))) (fun h => un_el h (fun h => (.inl h)) (fun h => un_el h (fun h => (.inr (.inl h))) (fun h => un_el h (fun h => (.inr (.inr (.inl h)))) (fun h => False.elim h)))))⟩
      refine rl_callF rfl en19 rfl (ctr19 F wk w.heap.size (un (inBlk (PV p15)) (un (inBlk z578) (un (inBlk (PV p77)) nb))) c860.size (un_lt ck7_0.ltp (un_lt ck7_1.ltp (un_lt k89.ltp nbS))) p38 z745 hd1064 d749 y604.2 h746 (hS1065 ▸ h747) y877 hy878) ?_
      rintro v1068 w1066 ⟨_, rfl, h1069, c1067⟩
      rw [← hS1065] at h1069
      have h1069 := SlO.backR k_Service_pos h1069 (un_lt ck7_0.ltp (un_lt ck7_1.ltp (un_lt k89.ltp (un_lt (fun b hb => (h747.lt b hb).2) (un_lt h746.ltp nbS))))) c860.size
      exact RL.nil ⟨_, rfl, c1067, ⟨v1068, rfl, h1069⟩⟩
     refine Each.consS (fun fl O wk hE hN hO ck => ?_) ?_
     ·
      refine Need.one rfl rfl rfl ?_
      rintro _ ⟨v871, e1070, h872⟩
      obtain rfl := e1070.symm
      refine Need.one rfl rfl rfl ?_
      rintro _ ⟨v879, e1071, h880⟩
      obtain rfl := e1071.symm
      refine rl_callF rfl en18 rfl (ctr18 (G F w.heap.size (un (inBlk (PV p15)) (un (inBlk z578) (un (inBlk (PV p77)) (un (inBlk z745) (un (inBlk (PV p38)) nb)))))) wk y869 v871 h872 y877 v879 h880 y883 hy884) ?_
      rintro _ w1072 ⟨rfl, c1073⟩
      exact RL.nil ⟨_, rfl, c1073, rfl⟩
     refine Each.consS (fun fl O wk hE hN hO ck => ?_) ?_
     ·
      refine Need.o1 rfl rfl rfl (fun _ h => h) ?_
      refine rl_not rfl rfl ?_
      exact RL.nil ⟨_, rfl, Ch.refl, rfl⟩
     refine Each.consS (fun fl O wk hE hN hO ck => ?_) ?_
     ·
      refine Need.o1 rfl rfl rfl (fun _ h => h) ?_
      refine rl_move rfl rfl ?_
      exact RL.nil ⟨_, rfl, Ch.refl, rfl⟩
     refine Each.consS (fun fl O wk hE hN hO ck => ?_) ?_
     ·
      refine Need.o1 rfl rfl rfl (fun _ h => h) ?_
      refine RL.yes rfl rfl rfl hg921 ?_
      refine rl_move rfl rfl ?_
      exact RL.nil ⟨_, rfl, Ch.refl, rfl⟩
     refine Each.consS (fun fl O wk hE hN hO ck => ?_) ?_
     ·
      refine Need.o1 rfl rfl rfl (fun _ h => h) ?_
      refine RL.yes rfl rfl rfl hg921 ?_
      refine rl_fieldAddr rfl fa40_6 rfl ?_
      exact RL.nil ⟨_, rfl, Ch.refl, rfl⟩
     refine Each.consS (fun fl O wk hE hN hO ck => ?_) ?_
     ·
      have k89 := k89.ch0 ck
      refine Need.o1 rfl rfl rfl (fun _ h => h) ?_
      refine Need.o1 rfl rfl rfl (fun _ h => h) ?_
      refine RL.yes rfl rfl rfl hg921 ?_
      refine rl_loadS (v := (Value.int .i64 x61.top)) rfl Tryd.isAgg3 (k89.cell rfl) rfl ?_
      exact RL.nil ⟨_, rfl, Ch.refl, rfl⟩
     refine Each.consA ⟨fun _ _ _ _ _ cc hh => by obtain ⟨v891, e, h892⟩ := hh; exact ⟨v891, e, slRep.ch k_Service_pos h892 cc⟩, fun h => absurd rfl h, fun fl O wk hE hN hO ck => ?_⟩ ?_
     ·
      have k89 := k89.ch0 ck
      have ck7_0 := ck7_0.ch0 ck
      have ck7_1 := ck7_1.ch0 ck
      have h746 := h746.ch0 ck
      have h747 := h747.ch0 ck
      have c860 := c860.then0 ck
      refine Need.o1 rfl rfl rfl (fun _ h => h) ?_
      refine Need.o1 rfl rfl rfl (fun _ h => h) ?_
      refine Need.o1 rfl rfl rfl (fun _ h => h) ?_
      refine RL.yes rfl rfl rfl hg921 ?_
      have hd1083 : ∀ b, (un (inBlk (PV p15)) (inBlk z578)) b → ¬ (un (inBlk (PV p77)) (un (inBlk z745) (un (inBlk (PV p38)) nb))) b := fun b h => un_el h (fun h => (fun b hb => fun h => un_el h (fun h => d760 b hb h) (fun h => un_el h (fun h => d761 b hb h) (fun h => un_el h (fun h => d762 b hb h) (fun h => h)))) b h) (fun h => (fun b hb => fun h => un_el h (fun h => d763 b hb h) (fun h => un_el h (fun h => d764 b hb h) (fun h => un_el h (fun h => d765 b hb h) (fun h => h)))) b h)
      have hS1084 : (un (inBlk (PV p15)) (un (inBlk z578) (un (inBlk (PV p77)) (un (inBlk z745) (un (inBlk (PV p38)) nb))))) = (un (inBlk (PV p15)) (un (inBlk z578) (un (inBlk (PV p77)) (un (inBlk z745) (un (inBlk (PV p38)) nb))))) := rfl
      refine rl_callF rfl en12 rfl (ctr12 F wk w.heap.size (un (inBlk (PV p77)) (un (inBlk z745) (un (inBlk (PV p38)) nb))) c860.size (un_lt k89.ltp (un_lt (fun b hb => (h747.lt b hb).2) (un_lt h746.ltp nbS))) p15 z578 hd1083 d759 y576.2 ck7_0 ck7_1 x61.top y889 hy890) ?_
      rintro v1087 w1085 ⟨_, rfl, h1088, c1086⟩
      rw [← hS1084] at h1088
      have h1088 := SlO.backR k_Service_pos h1088 (un_lt ck7_0.ltp (un_lt ck7_1.ltp (un_lt k89.ltp (un_lt (fun b hb => (h747.lt b hb).2) (un_lt h746.ltp nbS))))) c860.size
      exact RL.nil ⟨_, rfl, c1086, ⟨v1087, rfl, h1088⟩⟩
     refine Each.consS (fun fl O wk hE hN hO ck => ?_) ?_
     ·
      refine Need.o1 rfl rfl rfl (fun _ h => h) ?_
      refine RL.yes rfl rfl rfl hg921 ?_
      refine rl_move rfl rfl ?_
      exact RL.nil ⟨_, rfl, Ch.refl, rfl⟩
     refine Each.consS (fun fl O wk hE hN hO ck => ?_) ?_
     ·
      refine Need.o1 rfl rfl rfl (fun _ h => h) ?_
      refine RL.yes rfl rfl rfl hg921 ?_
      refine rl_fieldAddr rfl fa40_6 rfl ?_
      exact RL.nil ⟨_, rfl, Ch.refl, rfl⟩
     refine Each.consS (fun fl O wk hE hN hO ck => ?_) ?_
     ·
      have k89 := k89.ch0 ck
      refine Need.o1 rfl rfl rfl (fun _ h => h) ?_
      refine Need.o1 rfl rfl rfl (fun _ h => h) ?_
      refine RL.yes rfl rfl rfl hg921 ?_
      refine rl_loadS (v := (Value.int .i64 x61.top)) rfl Tryd.isAgg3 (k89.cell rfl) rfl ?_
      exact RL.nil ⟨_, rfl, Ch.refl, rfl⟩
     refine Each.consA ⟨fun _ _ _ _ _ cc hh => by obtain ⟨v899, e, h900⟩ := hh; exact ⟨v899, e, slRep.ch k_Service_pos h900 cc⟩, fun h => absurd rfl h, fun fl O wk hE hN hO ck => ?_⟩ ?_
     ·
      have k89 := k89.ch0 ck
      have ck7_0 := ck7_0.ch0 ck
      have ck7_1 := ck7_1.ch0 ck
      have h746 := h746.ch0 ck
      have h747 := h747.ch0 ck
      have c860 := c860.then0 ck
      refine Need.o1 rfl rfl rfl (fun _ h => h) ?_
      refine Need.o1 rfl rfl rfl (fun _ h => h) ?_
      refine Need.o1 rfl rfl rfl (fun _ h => h) ?_
      refine RL.yes rfl rfl rfl hg921 ?_
      have hd1096 : ∀ b, (un (inBlk (PV p38)) (inBlk z745)) b → ¬ (un (inBlk (PV p15)) (un (inBlk z578) (un (inBlk (PV p77)) nb))) b := fun b h => un_el h (fun h => (fun b hb => fun h => un_el h (fun h => d49 b hb h) (fun h => un_el h (fun h => (disSym d765) b hb h) (fun h => un_el h (fun h => (disSym d767) b hb h) (fun h => h)))) b h) (fun h => (fun b hb => fun h => un_el h (fun h => d751 b hb h) (fun h => un_el h (fun h => d752 b hb h) (fun h => un_el h (fun h => d753 b hb h) (fun h => h)))) b h)
      have hS1097 : (un (inBlk (PV p15)) (un (inBlk z578) (un (inBlk (PV p77)) (un (inBlk z745) (un (inBlk (PV p38)) nb))))) = (un (inBlk (PV p38)) (un (inBlk z745) (un (inBlk (PV p15)) (un (inBlk z578) (un (inBlk (PV p77)) nb))))) := funext fun b => propext ⟨fun h => un_el h (fun h => (.inr (.inr (.inl h)))) (fun h => un_el h (fun h => (.inr (.inr (.inr (.inl h))))) (fun h => un_el h (fun h => (.inr (.inr (.inr (.inr (.inl h)))))) (fun h => un_el h (fun h => (.inr (.inl h))) (fun h => un_el h (fun h => (.inl h)) (fun h => False.elim h))))), fun h => un_el h (fun h => (.inr (.inr (.inr (.inr (.inl h)))))) (fun h => un_el h (fun h => (.inr (.inr (.inr (.inl h))))) (fun h => un_el h (fun h => (.inl h)) (fun h => un_el h (fun h => (.inr (.inl h))) (fun h => un_el h (fun h => (.inr (.inr (.inl h)))) (fun h => False.elim h)))))⟩
      refine rl_callF rfl en20 rfl (ctr20 F wk w.heap.size (un (inBlk (PV p15)) (un (inBlk z578) (un (inBlk (PV p77)) nb))) c860.size (un_lt ck7_0.ltp (un_lt ck7_1.ltp (un_lt k89.ltp nbS))) p38 z745 hd1096 d749 y604.2 h746 (hS1097 ▸ h747) x61.top y897 hy898) ?_
      rintro v1100 w1098 ⟨_, rfl, h1101, c1099⟩
      rw [← hS1097] at h1101
      have h1101 := slRep.back k_Service_pos h1101 (un_lt ck7_0.ltp (un_lt ck7_1.ltp (un_lt k89.ltp (un_lt (fun b hb => (h747.lt b hb).2) (un_lt h746.ltp nbS))))) c860.size
      exact RL.nil ⟨_, rfl, c1099, ⟨v1100, rfl, h1101⟩⟩
     refine Each.consS (fun fl O wk hE hN hO ck => ?_) ?_
     ·
      refine Need.o1 rfl rfl rfl (fun _ h => h) ?_
      refine Need.one rfl rfl rfl ?_
      rintro _ ⟨v891, e1103, h892⟩
      obtain rfl := e1103.symm
      refine Need.one rfl rfl rfl ?_
      rintro _ ⟨v899, e1104, h900⟩
      obtain rfl := e1104.symm
      refine RL.yes rfl rfl rfl hg921 ?_
      refine rl_callF rfl en18 rfl (ctr18 (G F w.heap.size (un (inBlk (PV p15)) (un (inBlk z578) (un (inBlk (PV p77)) (un (inBlk z745) (un (inBlk (PV p38)) nb)))))) wk y889 v891 h892 y897 v899 h900 y903 hy904) ?_
      rintro _ w1105 ⟨rfl, c1106⟩
      exact RL.nil ⟨_, rfl, c1106, rfl⟩
     refine Each.consS (fun fl O wk hE hN hO ck => ?_) ?_
     ·
      refine Need.o1 rfl rfl rfl (fun _ h => h) ?_
      refine Need.o1 rfl rfl rfl (fun _ h => h) ?_
      refine RL.yes rfl rfl rfl hg921 ?_
      refine rl_not rfl rfl ?_
      exact RL.nil ⟨_, rfl, Ch.refl, rfl⟩
     refine Each.consS (fun fl O wk hE hN hO ck => ?_) ?_
     ·
      refine Need.o1 rfl rfl rfl (fun _ h => h) ?_
      refine Need.o1 rfl rfl rfl (fun _ h => h) ?_
      refine rl_pickF rfl hg921 rfl rfl ?_
      exact RL.nil ⟨_, rfl, Ch.refl, congrArg Value.bool (Option.some.inj hs976)⟩
     refine Each.consS (fun fl O wk hE hN hO ck => ?_) ?_
     ·
      refine Need.o1 rfl rfl rfl (fun _ h => h) ?_
      refine rl_move rfl rfl ?_
      exact RL.nil ⟨_, rfl, Ch.refl, rfl⟩
     refine Each.consS (fun fl O wk hE hN hO ck => ?_) ?_
     ·
      refine Need.o1 rfl rfl rfl (fun _ h => h) ?_
      refine RL.yes rfl rfl rfl hg977 ?_
      refine rl_move rfl rfl ?_
      exact RL.nil ⟨_, rfl, Ch.refl, rfl⟩
     refine Each.consS (fun fl O wk hE hN hO ck => ?_) ?_
     ·
      refine Need.o1 rfl rfl rfl (fun _ h => h) ?_
      refine RL.yes rfl rfl rfl hg977 ?_
      refine rl_fieldAddr rfl fa40_4 rfl ?_
      exact RL.nil ⟨_, rfl, Ch.refl, rfl⟩
     refine Each.consS (fun fl O wk hE hN hO ck => ?_) ?_
     ·
      have k89 := k89.ch0 ck
      refine Need.o1 rfl rfl rfl (fun _ h => h) ?_
      refine Need.o1 rfl rfl rfl (fun _ h => h) ?_
      refine RL.yes rfl rfl rfl hg977 ?_
      refine rl_loadS (v := (Value.int .i64 x61.atF)) rfl Tryd.isAgg3 (k89.cell rfl) rfl ?_
      exact RL.nil ⟨_, rfl, Ch.refl, rfl⟩
     refine Each.consS (fun fl O wk hE hN hO ck => ?_) ?_
     ·
      refine Need.o1 rfl rfl rfl (fun _ h => h) ?_
      refine RL.yes rfl rfl rfl hg977 ?_
      refine rl_fieldAddr rfl fa40_5 rfl ?_
      exact RL.nil ⟨_, rfl, Ch.refl, rfl⟩
     refine Each.consS (fun fl O wk hE hN hO ck => ?_) ?_
     ·
      have k89 := k89.ch0 ck
      refine Need.o1 rfl rfl rfl (fun _ h => h) ?_
      refine Need.o1 rfl rfl rfl (fun _ h => h) ?_
      refine RL.yes rfl rfl rfl hg977 ?_
      refine rl_loadS (v := (Value.int .i64 x61.spans)) rfl Tryd.isAgg3 (k89.cell rfl) rfl ?_
      exact RL.nil ⟨_, rfl, Ch.refl, rfl⟩
     refine Each.consS (fun fl O wk hE hN hO ck => ?_) ?_
     ·
      have k89 := k89.ch0 ck
      have ck7_0 := ck7_0.ch0 ck
      have ck7_1 := ck7_1.ch0 ck
      have h746 := h746.ch0 ck
      have h747 := h747.ch0 ck
      have c860 := c860.then0 ck
      refine Need.o1 rfl rfl rfl (fun _ h => h) ?_
      refine Need.o1 rfl rfl rfl (fun _ h => h) ?_
      refine Need.o1 rfl rfl rfl (fun _ h => h) ?_
      refine Need.o1 rfl rfl rfl (fun _ h => h) ?_
      refine RL.yes rfl rfl rfl hg977 ?_
      have hd1123 : ∀ b, (un (inBlk (PV p15)) (inBlk z578)) b → ¬ (un (inBlk (PV p77)) (un (inBlk z745) (un (inBlk (PV p38)) nb))) b := fun b h => un_el h (fun h => (fun b hb => fun h => un_el h (fun h => d760 b hb h) (fun h => un_el h (fun h => d761 b hb h) (fun h => un_el h (fun h => d762 b hb h) (fun h => h)))) b h) (fun h => (fun b hb => fun h => un_el h (fun h => d763 b hb h) (fun h => un_el h (fun h => d764 b hb h) (fun h => un_el h (fun h => d765 b hb h) (fun h => h)))) b h)
      refine rl_callF rfl en21 rfl (ctr21 F wk w.heap.size (un (inBlk (PV p77)) (un (inBlk z745) (un (inBlk (PV p38)) nb))) c860.size (un_lt k89.ltp (un_lt (fun b hb => (h747.lt b hb).2) (un_lt h746.ltp nbS))) p15 z578 hd1123 d759 y576.2 ck7_0 ck7_1 x61.atF x61.spans y911 hy912) ?_
      rintro _ w1125 ⟨rfl, c1126⟩
      exact RL.nil ⟨_, rfl, c1126, rfl⟩
     refine Each.consS (fun fl O wk hE hN hO ck => ?_) ?_
     ·
      refine Need.o1 rfl rfl rfl (fun _ h => h) ?_
      refine RL.yes rfl rfl rfl hg977 ?_
      refine rl_move rfl rfl ?_
      exact RL.nil ⟨_, rfl, Ch.refl, rfl⟩
     refine Each.consS (fun fl O wk hE hN hO ck => ?_) ?_
     ·
      refine Need.o1 rfl rfl rfl (fun _ h => h) ?_
      refine RL.yes rfl rfl rfl hg977 ?_
      refine rl_fieldAddr rfl fa40_4 rfl ?_
      exact RL.nil ⟨_, rfl, Ch.refl, rfl⟩
     refine Each.consS (fun fl O wk hE hN hO ck => ?_) ?_
     ·
      have k89 := k89.ch0 ck
      refine Need.o1 rfl rfl rfl (fun _ h => h) ?_
      refine Need.o1 rfl rfl rfl (fun _ h => h) ?_
      refine RL.yes rfl rfl rfl hg977 ?_
      refine rl_loadS (v := (Value.int .i64 x61.atF)) rfl Tryd.isAgg3 (k89.cell rfl) rfl ?_
      exact RL.nil ⟨_, rfl, Ch.refl, rfl⟩
     refine Each.consS (fun fl O wk hE hN hO ck => ?_) ?_
     ·
      refine Need.o1 rfl rfl rfl (fun _ h => h) ?_
      refine RL.yes rfl rfl rfl hg977 ?_
      refine rl_fieldAddr rfl fa40_5 rfl ?_
      exact RL.nil ⟨_, rfl, Ch.refl, rfl⟩
     refine Each.consS (fun fl O wk hE hN hO ck => ?_) ?_
     ·
      have k89 := k89.ch0 ck
      refine Need.o1 rfl rfl rfl (fun _ h => h) ?_
      refine Need.o1 rfl rfl rfl (fun _ h => h) ?_
      refine RL.yes rfl rfl rfl hg977 ?_
      refine rl_loadS (v := (Value.int .i64 x61.spans)) rfl Tryd.isAgg3 (k89.cell rfl) rfl ?_
      exact RL.nil ⟨_, rfl, Ch.refl, rfl⟩
     refine Each.consS (fun fl O wk hE hN hO ck => ?_) ?_
     ·
      have k89 := k89.ch0 ck
      have ck7_0 := ck7_0.ch0 ck
      have ck7_1 := ck7_1.ch0 ck
      have h746 := h746.ch0 ck
      have h747 := h747.ch0 ck
      have c860 := c860.then0 ck
      refine Need.o1 rfl rfl rfl (fun _ h => h) ?_
      refine Need.o1 rfl rfl rfl (fun _ h => h) ?_
      refine Need.o1 rfl rfl rfl (fun _ h => h) ?_
      refine Need.o1 rfl rfl rfl (fun _ h => h) ?_
      refine RL.yes rfl rfl rfl hg977 ?_
      have hd1138 : ∀ b, (un (inBlk (PV p38)) (inBlk z745)) b → ¬ (un (inBlk (PV p15)) (un (inBlk z578) (un (inBlk (PV p77)) nb))) b := fun b h => un_el h (fun h => (fun b hb => fun h => un_el h (fun h => d49 b hb h) (fun h => un_el h (fun h => (disSym d765) b hb h) (fun h => un_el h (fun h => (disSym d767) b hb h) (fun h => h)))) b h) (fun h => (fun b hb => fun h => un_el h (fun h => d751 b hb h) (fun h => un_el h (fun h => d752 b hb h) (fun h => un_el h (fun h => d753 b hb h) (fun h => h)))) b h)
      have hS1139 : (un (inBlk (PV p15)) (un (inBlk z578) (un (inBlk (PV p77)) (un (inBlk z745) (un (inBlk (PV p38)) nb))))) = (un (inBlk (PV p38)) (un (inBlk z745) (un (inBlk (PV p15)) (un (inBlk z578) (un (inBlk (PV p77)) nb))))) := funext fun b => propext ⟨fun h => un_el h (fun h => (.inr (.inr (.inl h)))) (fun h => un_el h (fun h => (.inr (.inr (.inr (.inl h))))) (fun h => un_el h (fun h => (.inr (.inr (.inr (.inr (.inl h)))))) (fun h => un_el h (fun h => (.inr (.inl h))) (fun h => un_el h (fun h => (.inl h)) (fun h => False.elim h))))), fun h => un_el h (fun h => (.inr (.inr (.inr (.inr (.inl h)))))) (fun h => un_el h (fun h => (.inr (.inr (.inr (.inl h))))) (fun h => un_el h (fun h => (.inl h)) (fun h => un_el h (fun h => (.inr (.inl h))) (fun h => un_el h (fun h => (.inr (.inr (.inl h)))) (fun h => False.elim h)))))⟩
      refine rl_callF rfl en22 rfl (ctr22 F wk w.heap.size (un (inBlk (PV p15)) (un (inBlk z578) (un (inBlk (PV p77)) nb))) c860.size (un_lt ck7_0.ltp (un_lt ck7_1.ltp (un_lt k89.ltp nbS))) p38 z745 hd1138 d749 y604.2 h746 (hS1139 ▸ h747) x61.atF x61.spans y917 hy918) ?_
      rintro _ w1140 ⟨rfl, c1141⟩
      exact RL.nil ⟨_, rfl, c1141, rfl⟩
     refine Each.consS (fun fl O wk hE hN hO ck => ?_) ?_
     ·
      refine Need.o1 rfl rfl rfl (fun _ h => h) ?_
      refine Need.o1 rfl rfl rfl (fun _ h => h) ?_
      refine Need.o1 rfl rfl rfl (fun _ h => h) ?_
      refine RL.yes rfl rfl rfl hg977 ?_
      refine rl_bin rfl rfl B.neqF rfl ?_
      exact RL.nil ⟨_, rfl, Ch.refl, rfl⟩
     refine Each.consS (fun fl O wk hE hN hO ck => ?_) ?_
     ·
      refine Need.o1 rfl rfl rfl (fun _ h => h) ?_
      refine Need.o1 rfl rfl rfl (fun _ h => h) ?_
      refine rl_pickF rfl hg977 rfl rfl ?_
      exact RL.nil ⟨_, rfl, Ch.refl, congrArg Value.bool (Option.some.inj hs1055)⟩
     trivial
    intro hvO1149 OpO1149 O1149 w1147 hO1150 c1148 hN1151
    refine Need.o1 rfl rfl rfl (fun _ h => h) ?_
    exact RL.nil ⟨rfl, ⟨rfl, rfl, rfl, rfl, rfl, rfl, trivial⟩, c1148⟩
   rintro _ w1154 ⟨hE1153, c1155⟩
   have ah0 := slRep.ch k_Act_pos ah0 c1155
   have gl := Kd.ch gl c1155
   have h76 := slRep.ch kInt_pos h76 c1155
   have ck7_0 := ck7_0.ch0 c1155
   have ck7_1 := ck7_1.ch0 c1155
   have h598 := slRep.ch kInt_pos h598 c1155
   have h746 := h746.ch0 c1155
   have h747 := h747.ch0 c1155
   have c860 := c860.then0 c1155
   refine thn_n (CW.sub [(3, (PV p15)), (4, (PV p38)), (18, av0), (19, (Value.int .i64 ((a0.length : Nat) : Int))), (20, (Value.int .i64 ((i53 : Nat) : Int))), (111, (Value.bool b919))] hE1153 ?_)
   refine CW.cond (t := b919) rfl (fun q1156 => ?_) (fun q1156 => ?_)
   ·
    have hb58 := ifT q1156 hb58
    refine CW.seq (CW.region ?_)
    refine rl_assign rfl rfl ?_
    refine RL.nil (thn_n (CW.ret ?_))
    refine inB_ret ?_
    refine thn_ret ?_
    refine thn_ret (inB_ret (thn_ret ?_))
    refine thn_ret ?_
    have f1157 := runBO_ret hL54 hq57 hb58
    have hS := retS f1157 hS
    obtain rfl := Option.some.inj hS
    exact ret1 rfl ⟨rfl, c860⟩
   have hb58 := ifF q1156 hb58
   refine CW.skip ?_
   refine inB_n ?_
   refine thn_n (CW.region ?_)
   refine rl_inc rfl hat55.lt ah0.big rfl ?_
   refine rl_move rfl rfl ?_
   refine RL.nil (thn_n ?_)
   have ad1158 : ∀ b, b < w1154.heap.size → ¬ (un (inBlk (PV p15)) (un (inBlk z578) (un (inBlk (PV p77)) (un (inBlk z745) (un (inBlk (PV p38)) nb))))) b → ¬ nb b ∧ ¬ (un (inBlk (PV p15)) (un (inBlk z578) (un (inBlk z745) (un (inBlk (PV p38)) nb)))) b := fun b _ hs => ⟨fun x => x, fun h => hs (un_el h (fun h => (.inl h)) (fun h => un_el h (fun h => (.inr (.inl h))) (fun h => un_el h (fun h => (.inr (.inr (.inr (.inl h))))) (fun h => un_el h (fun h => (.inr (.inr (.inr (.inr (.inl h)))))) (fun h => False.elim h)))))⟩
   have crf : Ch nb w1154 w1154 := Ch.refl
   have ah0 := slRep.st k_Act_pos ah0 crf ad1158
   have gl := Kd.st gl crf ad1158
   have h76 := slRep.st kInt_pos h76 crf ad1158
   have ck7_0 := ck7_0.ch0 crf
   have ck7_1 := ck7_1.ch0 crf
   have h598 := slRep.st kInt_pos h598 crf ad1158
   have h746 := h746.ch0 crf
   have h747 := h747.st crf (fun _ _ x => x) ad1158 (fun b h => (.inr (.inr (.inl h))))
   have c860 := c860.then0 crf
   have hLn := runBO_next hL54 hq57 hb58
   have hS1159 : (un (inBlk (PV p15)) (un (inBlk z578) (un (inBlk z745) (un (inBlk (PV p38)) nb)))) = (un (inBlk z745) (un (inBlk (PV p38)) (un (inBlk (PV p15)) (un (inBlk z578) nb)))) := funext fun b => propext ⟨fun h => un_el h (fun h => (.inr (.inr (.inl h)))) (fun h => un_el h (fun h => (.inr (.inr (.inr (.inl h))))) (fun h => un_el h (fun h => (.inl h)) (fun h => un_el h (fun h => (.inr (.inl h))) (fun h => False.elim h)))), fun h => un_el h (fun h => (.inr (.inr (.inl h)))) (fun h => un_el h (fun h => (.inr (.inr (.inr (.inl h))))) (fun h => un_el h (fun h => (.inl h)) (fun h => un_el h (fun h => (.inr (.inl h))) (fun h => False.elim h))))⟩
   rw [hS1159] at ah0 gl h76 h598 h747
   exact ⟨rest68.length, Nat.lt_succ_self _, [(3, (PV p15)), (18, av0), (19, (Value.int .i64 ((a0.length : Nat) : Int))), (4, (PV p38)), (20, (Value.int .i64 ((i53 + 1 : Nat) : Int)))], ⟨rfl, rfl, rfl, rfl, rfl, trivial⟩, ⟨rest68, i53 + 1, y604.2, p38, z745, y576.2, z578, rfl, rfl, c860, hat55.next, hLn, ah0, gl, h747, ck7_1, h746, ck7_0, d768, d751, d752, d49, (disSym d765), d759, lo44, lo730⟩⟩
  obtain rfl := hat55.nil q67
  have hLf : Lp.fin (x35, x40) = o59 := runBO_done hL54
  refine CW.exit (thn_exit (thn_exit (inB_hit ?_)))
  exact ⟨x35, p38, v36, x40, v41, trivial, c64, hLf, ah0, gl, h37, h42, k39, k43, d46, d47, d48, d49, d50, d51, lo44, lo45⟩
 rintro _ w1161 ⟨x35, p38, v36, x40, v41, hE1162, c1160, f1163, ah0, gl, h37, h42, k39, k43, d46, d47, d48, d49, d50, d51, lo44, lo45⟩
 have hS := finS f1163 hS
 refine thn_n (CW.sub [] hE1162 ?_)
 refine CW.seq (CW.region ?_)
 refine rl_assign rfl rfl ?_
 refine RL.nil (thn_n (CW.ret ?_))
 obtain rfl := Option.some.inj hS
 exact ret1 rfl ⟨rfl, c1160⟩
end Go.Proofs.YtkfhcfkbaaekoaaDoor
