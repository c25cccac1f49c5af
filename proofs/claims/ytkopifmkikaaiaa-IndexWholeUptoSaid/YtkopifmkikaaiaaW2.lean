/- The walks through the code: each call comes to its printed function. Written by a program of this session. -/
import Derived.Test.YtkopifmkikaaiaaM
import Derived.Test.YtkopifmkikaaiaaL
import Derived.Test.YtkopifmkikaaiaaW1
namespace Go.Proofs.Ytkopifmkikaaiaa
open Go K
set_option linter.unusedVariables false
/-- lb/lblaw16.IndexWhole -/
theorem ctr4 (F : Nat → Prop) (w : World) (a0 : (List Act)) (av0 : Value) (ah0 : slRep k_Act F w a0 av0) (a1 : Act) (r : Bool) (hs : F4_IndexWho a0 a1 = some r) :
    Ret Try.prog 4 #[av0, (Value.agg (Act.enc a1).toArray)] w fun v w' => v = (Value.bool r) ∧ Ch nb w w' := by
 have hS := hs
 have c0 : Ch nb w w := Ch.refl
 have ah0 := slRep.enter k_Act_pos ah0
 refine Ret.of (n := 116) (args := [_, _]) (rs := [.tmp 4]) Try.func4 rfl rfl rfl rfl ?_
 refine CW.seq (CW.region ?_)
 refine rl_boxA (cs := (Act.enc a1)) rfl rfl ?_
 intro p1 w2 n3 k4
 have gp1 : (G F w.heap.size nb) p1 := ⟨.inr (by rw [n3.eq]; exact c0.size), fun h => absurd (nbS _ h) (by rw [n3.eq]; exact Nat.lt_irrefl _)⟩
 have ah0 := slRep.ch k_Act_pos ah0 n3.ch
 have c0 := c0.then0 n3.ch
 refine rl_assign rfl rfl ?_
 refine RL.nil (thn_n (CW.seq ?_))
 refine CW.seq (CW.region ?_)
 obtain ⟨y7, hy8, hS⟩ := bindS hS
 refine rl_callF rfl en5 rfl (ctr5 (G F w.heap.size nb) w2  y7 hy8) ?_
 rintro _ w5 ⟨rfl, c6⟩
 have ah0 := slRep.ch k_Act_pos ah0 c6
 have k4 := k4.ch0 c6
 have c0 := c0.then0 c6
 refine rl_not rfl rfl ?_
 refine RL.nil (thn_n ?_)
 refine CW.cond (t := !y7) rfl (fun q9 => ?_) (fun q9 => ?_)
 ·
  have hS := ifT q9 hS
  refine CW.seq (CW.region ?_)
  refine rl_assign rfl rfl ?_
  refine RL.nil (thn_n (CW.ret ?_))
  refine thn_ret ?_
  obtain rfl := Option.some.inj hS
  exact ret1 rfl ⟨rfl, c0⟩
 have hS := ifF q9 hS
 refine CW.skip ?_
 refine thn_n (CW.seq ?_)
 refine CW.seq (CW.region ?_)
 refine rl_loadA (cs := (Act.enc a1)) rfl Try.isAgg34 Try.sizeOf34 (k4.segAt 0 5) rfl rfl ?_
 refine rl_bslice (k := k_Act) (F := F) (B := w.heap.size) (S := nb) ([a1] : List Act) rfl k_Act_pos Try.underlying22 Try.sizeOf34 Try.zeroValue34 rfl rfl ⟨rfl, rfl, trivial⟩ c0.size nbS rfl ?_
 intro v10 w11 c12 hf13 h14
 have ah0 := slRep.st k_Act_pos ah0 c12 (admNew hf13 (fun _ x => x))
 have gp1n : (G F w.heap.size (un (inBlk v10) nb)) p1 := ⟨gp1.1, ((admNew hf13 (fun _ x => x)) _ k4.lt gp1.2).2⟩
 have k4 := k4.ch0 c12
 have gp1 := gp1n
 have c0 := c0.then0 c12
 refine rl_move rfl rfl ?_
 obtain ⟨z23, hz24, hS⟩ := bindS hS
 have hl := (apO_get hz24).1
 refine rl_append (k := k_Act) (T := 34) (F := F) (B := w.heap.size) (S := (un (inBlk v10) nb)) (S2 := nb) (fun v => (un (inBlk v) nb)) rfl rfl k_Act_pos ap22 h14 ah0 (fun _ => Iff.rfl) (fun _ _ => Iff.rfl) hl c0.size (un_lt (fun b hb => (h14.lt b hb).2) nbS) rfl ?_
 intro v17 w18 h19 c20 hf21 ha22
 have ah0 := slRep.st k_Act_pos ah0 c20 ha22
 have gp1n : (G F w.heap.size (un (inBlk v17) nb)) p1 := ⟨gp1.1, (ha22 _ k4.lt gp1.2).2⟩
 have k4 := k4.ch c20 (ha22 _ k4.lt gp1.2).1
 have gp1 := gp1n
 have c0 := c0.then c20 (fun i hi h => absurd ((fun b hb => (h14.lt b hb).1) i h) (Nat.not_le_of_lt hi))
 obtain ⟨y27, hy28⟩ : ∃ y, F6_Long ([a1] ++ a0) = y := ⟨_, rfl⟩
 have hS := ltS hy28 hS
 refine rl_callF rfl en6 rfl (ctr6 (G F w.heap.size nb) w18 ([a1] ++ a0) v17 (SlO.read (S' := nb) k_Act_pos h19 (fun b hs h => hs (False.elim h)) (fun b hb => fun h => h)) y27 hy28) ?_
 rintro _ w25 ⟨rfl, c26⟩
 have ah0 := slRep.ch k_Act_pos ah0 c26
 have k4 := k4.ch0 c26
 have h19 := h19.ch0 c26
 have c0 := c0.then0 c26
 refine RL.nil (thn_n ?_)
 refine CW.cond (t := y27) rfl (fun q29 => ?_) (fun q29 => ?_)
 ·
  have hS := ifT q29 hS
  refine CW.seq (CW.region ?_)
  refine rl_assign rfl rfl ?_
  refine RL.nil (thn_n (CW.ret ?_))
  refine thn_ret ?_
  obtain rfl := Option.some.inj hS
  exact ret1 rfl ⟨rfl, c0⟩
 have hS := ifF q29 hS
 refine CW.skip ?_
 refine thn_n (CW.seq (CW.region ?_))
 obtain ⟨y32, hy33⟩ : ∃ y, F7_New = y := ⟨_, rfl⟩
 have hS := ltS hy33 hS
 refine rl_callF rfl en7 rfl (ctr7 (G F w.heap.size (un (inBlk v17) nb)) w25  y32 hy33) ?_
 rintro _ w30 ⟨p34, z38, z39, u40, rfl, h35, h36, h37, hf41, hf42, hf43, d44, d45, d46, c31⟩
 have lo47 : ∀ b, inBlk (PV p34) b → w.heap.size ≤ b := fun b h => Nat.le_trans c0.size (hf41 b h)
 have d48 : ∀ b, inBlk (PV p34) b → ¬ inBlk v17 b := disNew hf41 (fun b hb => (h19.lt b hb).2)
 have lo49 : ∀ b, inBlk z38 b → w.heap.size ≤ b := fun b h => Nat.le_trans c0.size (hf42 b h)
 have d50 : ∀ b, inBlk z38 b → ¬ inBlk v17 b := disNew hf42 (fun b hb => (h19.lt b hb).2)
 have lo51 : ∀ b, inBlk z39 b → w.heap.size ≤ b := fun b h => Nat.le_trans c0.size (hf43 b h)
 have d52 : ∀ b, inBlk z39 b → ¬ inBlk v17 b := disNew hf43 (fun b hb => (h19.lt b hb).2)
 have ah0 := slRep.st k_Act_pos ah0 c31 (show ∀ b, b < w25.heap.size → ¬ (un (inBlk v17) nb) b → ¬ nb b ∧ ¬ (un (inBlk (PV p34)) (un (inBlk z38) (un (inBlk z39) (un (inBlk v17) nb)))) b from fun b hb hs => ⟨fun x => x, fun h => un_el h (fun h => Nat.not_le_of_lt hb (hf41 b h)) (fun h => un_el h (fun h => Nat.not_le_of_lt hb (hf42 b h)) (fun h => un_el h (fun h => Nat.not_le_of_lt hb (hf43 b h)) (fun h => hs h)))⟩)
 have gp1n : (G F w.heap.size (un (inBlk (PV p34)) (un (inBlk z38) (un (inBlk z39) (un (inBlk v17) nb))))) p1 := ⟨gp1.1, ((show ∀ b, b < w25.heap.size → ¬ (un (inBlk v17) nb) b → ¬ nb b ∧ ¬ (un (inBlk (PV p34)) (un (inBlk z38) (un (inBlk z39) (un (inBlk v17) nb)))) b from fun b hb hs => ⟨fun x => x, fun h => un_el h (fun h => Nat.not_le_of_lt hb (hf41 b h)) (fun h => un_el h (fun h => Nat.not_le_of_lt hb (hf42 b h)) (fun h => un_el h (fun h => Nat.not_le_of_lt hb (hf43 b h)) (fun h => hs h)))⟩) _ k4.lt gp1.2).2⟩
 have k4 := k4.ch0 c31
 have gp1 := gp1n
 have h19 := h19.st c31 (fun _ _ x => x) (show ∀ b, b < w25.heap.size → ¬ (un (inBlk v17) nb) b → ¬ nb b ∧ ¬ (un (inBlk (PV p34)) (un (inBlk z38) (un (inBlk z39) (un (inBlk v17) nb)))) b from fun b hb hs => ⟨fun x => x, fun h => un_el h (fun h => Nat.not_le_of_lt hb (hf41 b h)) (fun h => un_el h (fun h => Nat.not_le_of_lt hb (hf42 b h)) (fun h => un_el h (fun h => Nat.not_le_of_lt hb (hf43 b h)) (fun h => hs h)))⟩) (fun b h => (.inr (.inr (.inr (.inl h)))))
 have c0 := c0.then0 c31
 refine rl_assign rfl rfl ?_
 refine RL.nil (thn_n (CW.seq ?_))
 refine CW.seq (CW.region ?_)
 refine rl_move rfl rfl ?_
 refine rl_lenR rfl ah0 Try.underlying22 rfl ?_
 refine rl_move rfl rfl ?_
 refine RL.nil (thn_n ?_)
 obtain ⟨o75, ho76, hS⟩ := bindS hS
 refine CW.cutB (fun E' w' => ∃ (x53 : Index_2) (v54 : Value) (v56 : Value) (u58 : Value), Sub [(3, (PV p1)), (5, (PV p34))] E' ∧ Ch nb w w' ∧ x53 = o75 ∧ slRep k_Act (G F w.heap.size (un (inBlk (PV p34)) (un (inBlk v54) (un (inBlk v56) (un (inBlk v17) nb))))) w' a0 av0 ∧ Blk w' p1 34 (Act.enc a1) ∧ SlO k_Act 34 F w.heap.size (un (inBlk (PV p34)) (un (inBlk v54) (un (inBlk v56) (un (inBlk v17) nb)))) w' ([a1] ++ a0) v17 ∧ Mp (fun x => Value.agg (Key.enc x).toArray) (fun x => Value.agg (Key.enc x).toArray) w' x53.owner v54 ∧ MM (fun x => Value.agg (Key.enc x).toArray) (fun x => Value.agg (Key.enc x).toArray) (fun x => Value.agg (St50.enc x).toArray) w' x53.slices u58 v56 ∧ Blk w' p34 47 (Index_2.c x53 v54 u58) ∧ (G F w.heap.size (un (inBlk (PV p34)) (un (inBlk v54) (un (inBlk v56) (un (inBlk v17) nb))))) p1 ∧ (∀ b, inBlk (PV p34) b → ¬ inBlk v54 b) ∧ (∀ b, inBlk (PV p34) b → ¬ inBlk v56 b) ∧ (∀ b, inBlk (PV p34) b → ¬ inBlk v17 b) ∧ (∀ b, inBlk v54 b → ¬ inBlk v56 b) ∧ (∀ b, inBlk v54 b → ¬ inBlk v17 b) ∧ (∀ b, inBlk v56 b → ¬ inBlk v17 b) ∧ (∀ b, inBlk v54 b → w.heap.size ≤ b) ∧ (∀ b, inBlk v56 b → w.heap.size ≤ b)) ?_ ?_
 ·
  refine CW.loopS [(3, (PV p1)), (5, (PV p34)), (27, av0), (28, (Value.int .i64 ((a0.length : Nat) : Int))), (29, (Value.int .i64 ((0 : Nat) : Int)))] ⟨rfl, rfl, rfl, rfl, rfl, trivial⟩ a0.length (fun m E w' => ∃ (rest68 : List Act) (i69 : Nat) (x53 : Index_2) (v54 : Value) (v56 : Value) (u58 : Value), m = rest68.length ∧ E = [(3, (PV p1)), (5, (PV p34)), (27, av0), (28, (Value.int .i64 ((a0.length : Nat) : Int))), (29, (Value.int .i64 ((i69 : Nat) : Int)))] ∧ Ch nb w w' ∧ At a0 i69 rest68 ∧ runAO F4_IndexWho_b1 rest68 x53 = some o75 ∧ slRep k_Act (G F w.heap.size (un (inBlk (PV p34)) (un (inBlk v54) (un (inBlk v56) (un (inBlk v17) nb))))) w' a0 av0 ∧ Blk w' p1 34 (Act.enc a1) ∧ SlO k_Act 34 F w.heap.size (un (inBlk (PV p34)) (un (inBlk v54) (un (inBlk v56) (un (inBlk v17) nb)))) w' ([a1] ++ a0) v17 ∧ Mp (fun x => Value.agg (Key.enc x).toArray) (fun x => Value.agg (Key.enc x).toArray) w' x53.owner v54 ∧ MM (fun x => Value.agg (Key.enc x).toArray) (fun x => Value.agg (Key.enc x).toArray) (fun x => Value.agg (St50.enc x).toArray) w' x53.slices u58 v56 ∧ Blk w' p34 47 (Index_2.c x53 v54 u58) ∧ (G F w.heap.size (un (inBlk (PV p34)) (un (inBlk v54) (un (inBlk v56) (un (inBlk v17) nb))))) p1 ∧ (∀ b, inBlk (PV p34) b → ¬ inBlk v54 b) ∧ (∀ b, inBlk (PV p34) b → ¬ inBlk v56 b) ∧ (∀ b, inBlk (PV p34) b → ¬ inBlk v17 b) ∧ (∀ b, inBlk v54 b → ¬ inBlk v56 b) ∧ (∀ b, inBlk v54 b → ¬ inBlk v17 b) ∧ (∀ b, inBlk v56 b → ¬ inBlk v17 b) ∧ (∀ b, inBlk v54 b → w.heap.size ≤ b) ∧ (∀ b, inBlk v56 b → w.heap.size ≤ b))
      ⟨a0, 0, y32, z38, z39, u40, rfl, rfl, c0, At.start, ho76, ah0, k4, h19, h36, h37, h35, gp1, d44, d45, d48, d46, d50, d52, lo49, lo51⟩ ?_
  rintro _ _ w81 ⟨rest68, i69, x53, v54, v56, u58, rfl, rfl, c80, hat71, hL70, ah0, k4, h19, h55, h57, k59, gp1, d62, d63, d64, d65, d66, d67, lo60, lo61⟩
  refine CW.seq (CW.region ?_)
  refine rl_bin rfl rfl B.lss rfl ?_
  refine RL.nil (thn_n ?_)
  refine CW.seq ?_
  refine CW.cond (t := decide (((i69 : Nat) : Int) < ((a0.length : Nat) : Int))) rfl (fun q83 => ?_) (fun q83 => ?_)
  ·
   obtain ⟨x77, rest84, rfl⟩ := hat71.cons q83
   obtain ⟨q72, hq73⟩ := runAO_some hL70
   have hb74 := hq73
   refine CW.skip (thn_n ?_)
   refine CW.seq ?_
   refine CW.block ?_
   refine CW.seq (CW.region ?_)
   refine rl_ixR rfl ah0 rfl hat71.get Try.underlying22 Try.sizeOf34 rfl ?_
   intro p85 o86 cs87 hr88 hs89 hg90
   obtain rfl := hr88
   refine rl_loadA (cs := (Act.enc x77)) rfl Try.isAgg34 Try.sizeOf34 (hs89) rfl rfl ?_
   refine rl_alloc (Act.enc Act.z) Try.zeroValue34 rfl rfl ?_
   intro p91 w92 n93 k94
   have lo95 : ∀ b, inBlk (PV p91) b → w.heap.size ≤ b := fun b h => Nat.le_trans c80.size (n93.fresh b h)
   have d96 : ∀ b, inBlk (PV p91) b → ¬ inBlk (PV p34) b := disNew n93.fresh k59.ltp
   have d97 : ∀ b, inBlk (PV p91) b → ¬ inBlk v54 b := disNew n93.fresh h55.ltp
   have d98 : ∀ b, inBlk (PV p91) b → ¬ inBlk v56 b := disNew n93.fresh h57.ltp
   have d99 : ∀ b, inBlk (PV p91) b → ¬ inBlk v17 b := disNew n93.fresh (fun b hb => (h19.lt b hb).2)
   have ah0 := slRep.st k_Act_pos ah0 n93.ch (admNew n93.fresh (fun _ x => x))
   have gp1n : (G F w.heap.size (un (inBlk (PV p91)) (un (inBlk (PV p34)) (un (inBlk v54) (un (inBlk v56) (un (inBlk v17) nb)))))) p1 := ⟨gp1.1, ((admNew n93.fresh (fun _ x => x)) _ k4.lt gp1.2).2⟩
   have k4 := k4.ch0 n93.ch
   have gp1 := gp1n
   have h19 := h19.st n93.ch (fun _ _ x => x) (admNew n93.fresh (fun _ x => x)) (fun b h => (.inr (.inr (.inr (.inr (.inl h))))))
   have h55 := h55.ch0 n93.ch
   have h57 := h57.ch0 n93.ch
   have k59 := k59.ch0 n93.ch
   have c80 := c80.then0 n93.ch
   refine rl_storeA (vs := (Act.enc x77)) rfl rfl (all_one rfl) Try.sizeOf34 rfl k94 rfl ?_
   intro w100 s102 c101 k103
   have ad104 : ∀ b, b < w92.heap.size → ¬ (un (inBlk (PV p91)) (un (inBlk (PV p34)) (un (inBlk v54) (un (inBlk v56) (un (inBlk v17) nb))))) b → ¬ (inBlk (PV p91)) b ∧ ¬ (un (inBlk (PV p91)) (un (inBlk (PV p34)) (un (inBlk v54) (un (inBlk v56) (un (inBlk v17) nb))))) b := fun b _ hs => ⟨fun h => hs (.inl h), hs⟩
   have ah0 := slRep.st k_Act_pos ah0 c101 ad104
   have k4 := k4.ch c101 (ad104 _ k4.lt gp1.2).1
   have h19 := h19.st c101 (fun b hb h => (disSym d99) b hb h) ad104 (fun b h => (.inr (.inr (.inr (.inr (.inl h))))))
   have h55 := h55.ch c101 ((fun b hb h => (disSym d97) b hb h))
   have h57 := h57.ch c101 ((fun b hb h => (disSym d98) b hb h))
   have k59 := k59.ch c101 ((fun b hb h => (disSym d96) b hb h) _ rfl)
   have c80 := c80.then c101 (fun i hi h => absurd (lo95 i h) (Nat.not_le_of_lt hi))
   refine RL.nil (thn_n (CW.seq (CW.region ?_)))
   refine rl_fieldAddr rfl fa34_0 rfl ?_
   refine rl_loadS (v := (Value.int .i64 x77.kind)) rfl Try.isAgg3 (k103.cell rfl) rfl ?_
   refine rl_bin rfl rfl B.eql rfl ?_
   refine RL.nil (thn_n ?_)
   refine CW.cond (t := decide (x77.kind = 0)) rfl (fun q105 => ?_) (fun q105 => ?_)
   ·
    have hb74 := ifT q105 hb74
    refine CW.region ?_
    refine rl_move rfl rfl ?_
    refine rl_fieldAddr rfl fa34_1 rfl ?_
    refine rl_loadA (cs := (Key.enc x77.slice)) rfl Try.isAgg32 Try.sizeOf32 (k103.segAt 1 2) rfl rfl ?_
    refine rl_fieldAddr rfl fa34_2 rfl ?_
    refine rl_loadA (cs := (Key.enc x77.owner)) rfl Try.isAgg32 Try.sizeOf32 (k103.segAt 3 2) rfl rfl ?_
    have hd106 : ∀ b, (un (inBlk (PV p34)) (un (inBlk v54) (inBlk v56))) b → ¬ (un (inBlk (PV p91)) (un (inBlk v17) nb)) b := fun b h => un_el h (fun h => (fun b hb => fun h => un_el h (fun h => (disSym d96) b hb h) (fun h => un_el h (fun h => d64 b hb h) (fun h => h))) b h) (fun h => un_el h (fun h => (fun b hb => fun h => un_el h (fun h => (disSym d97) b hb h) (fun h => un_el h (fun h => d66 b hb h) (fun h => h))) b h) (fun h => (fun b hb => fun h => un_el h (fun h => (disSym d98) b hb h) (fun h => un_el h (fun h => d67 b hb h) (fun h => h))) b h))
    obtain ⟨y110, hy111, hb74⟩ := bindS hb74
    refine rl_callF rfl en8 rfl (ctr8 F w100 w.heap.size (un (inBlk (PV p91)) (un (inBlk v17) nb)) c80.size (un_lt k103.ltp (un_lt (fun b hb => (h19.lt b hb).2) nbS)) p34 v54 v56 u58 hd106 d62 d63 d65 x53 k59 h55 h57 x77.slice x77.owner y110 hy111) ?_
    rintro _ w108 ⟨z112, z113, u114, rfl, h115, h116, h117, hf118, hf119, d120, d121, d122, c109⟩
    have lo123 : ∀ b, inBlk z112 b → w.heap.size ≤ b := fun b h => (hf118 b h).elim (fun h => un_el h (fun h => lo47 b h) (fun h => un_el h (fun h => lo60 b h) (fun h => lo61 b h))) (Nat.le_trans c80.size)
    have d125 : ∀ b, inBlk z112 b → ¬ inBlk v17 b := fun b h hu => (hf118 b h).elim (fun h => un_el h (fun h => d64 b h hu) (fun h => un_el h (fun h => d66 b h hu) (fun h => d67 b h hu))) (fun h => Nat.not_le_of_lt ((fun b hb => (h19.lt b hb).2) b hu) h)
    have lo126 : ∀ b, inBlk z113 b → w.heap.size ≤ b := fun b h => (hf119 b h).elim (fun h => un_el h (fun h => lo47 b h) (fun h => un_el h (fun h => lo60 b h) (fun h => lo61 b h))) (Nat.le_trans c80.size)
    have d128 : ∀ b, inBlk z113 b → ¬ inBlk v17 b := fun b h hu => (hf119 b h).elim (fun h => un_el h (fun h => d64 b h hu) (fun h => un_el h (fun h => d66 b h hu) (fun h => d67 b h hu))) (fun h => Nat.not_le_of_lt ((fun b hb => (h19.lt b hb).2) b hu) h)
    have ha130 : ∀ b, b < w100.heap.size → ¬ (un (inBlk (PV p91)) (un (inBlk (PV p34)) (un (inBlk v54) (un (inBlk v56) (un (inBlk v17) nb))))) b → ¬ (un (inBlk (PV p34)) (un (inBlk v54) (inBlk v56))) b ∧ ¬ (un (inBlk (PV p91)) (un (inBlk (PV p34)) (un (inBlk z112) (un (inBlk z113) (un (inBlk v17) nb))))) b := fun b hb hs => ⟨fun h => un_el h (fun h => hs (.inr (.inl h))) (fun h => un_el h (fun h => hs (.inr (.inr (.inl h)))) (fun h => hs (.inr (.inr (.inr (.inl h)))))), fun h => un_el h (fun h => hs (.inl h)) (fun h => un_el h (fun h => hs (.inr (.inl h))) (fun h => un_el h (fun h => (hf118 b h).elim (fun h => un_el h (fun h => hs (.inr (.inl h))) (fun h => un_el h (fun h => hs (.inr (.inr (.inl h)))) (fun h => hs (.inr (.inr (.inr (.inl h))))))) (fun h => Nat.not_le_of_lt hb h)) (fun h => un_el h (fun h => (hf119 b h).elim (fun h => un_el h (fun h => hs (.inr (.inl h))) (fun h => un_el h (fun h => hs (.inr (.inr (.inl h)))) (fun h => hs (.inr (.inr (.inr (.inl h))))))) (fun h => Nat.not_le_of_lt hb h)) (fun h => un_el h (fun h => hs (.inr (.inr (.inr (.inr (.inl h)))))) (fun h => False.elim h)))))⟩
    have ah0 := slRep.st k_Act_pos ah0 c109 ha130
    have gp1n : (G F w.heap.size (un (inBlk (PV p91)) (un (inBlk (PV p34)) (un (inBlk z112) (un (inBlk z113) (un (inBlk v17) nb)))))) p1 := ⟨gp1.1, (ha130 _ k4.lt gp1.2).2⟩
    have k4 := k4.ch c109 (ha130 _ k4.lt gp1.2).1
    have gp1 := gp1n
    have h19 := h19.st c109 (fun b hb h => un_el h (fun h => (disSym d64) b hb h) (fun h => un_el h (fun h => (disSym d66) b hb h) (fun h => (disSym d67) b hb h))) ha130 (fun b h => (.inr (.inr (.inr (.inr (.inl h))))))
    have c80 := c80.then c109 (fun i hi h => un_el h (fun h => absurd (lo47 i h) (Nat.not_le_of_lt hi)) (fun h => un_el h (fun h => absurd (lo60 i h) (Nat.not_le_of_lt hi)) (fun h => absurd (lo61 i h) (Nat.not_le_of_lt hi))))
    refine RL.nil ?_
    refine inB_n ?_
    refine thn_n (CW.region ?_)
    refine rl_inc rfl hat71.lt ah0.big rfl ?_
    refine rl_move rfl rfl ?_
    refine RL.nil (thn_n ?_)
    have ad131 : ∀ b, b < w108.heap.size → ¬ (un (inBlk (PV p91)) (un (inBlk (PV p34)) (un (inBlk z112) (un (inBlk z113) (un (inBlk v17) nb))))) b → ¬ nb b ∧ ¬ (un (inBlk (PV p34)) (un (inBlk z112) (un (inBlk z113) (un (inBlk v17) nb)))) b := fun b _ hs => ⟨fun x => x, fun h => hs (un_el h (fun h => (.inr (.inl h))) (fun h => un_el h (fun h => (.inr (.inr (.inl h)))) (fun h => un_el h (fun h => (.inr (.inr (.inr (.inl h))))) (fun h => un_el h (fun h => (.inr (.inr (.inr (.inr (.inl h)))))) (fun h => False.elim h)))))⟩
    have crf : Ch nb w108 w108 := Ch.refl
    have ah0 := slRep.st k_Act_pos ah0 crf ad131
    have gp1n : (G F w.heap.size (un (inBlk (PV p34)) (un (inBlk z112) (un (inBlk z113) (un (inBlk v17) nb))))) p1 := ⟨gp1.1, (ad131 _ k4.lt gp1.2).2⟩
    have k4 := k4.ch0 crf
    have gp1 := gp1n
    have h19 := h19.st crf (fun _ _ x => x) ad131 (fun b h => (.inr (.inr (.inr (.inl h)))))
    have h115 := h115.ch0 crf
    have h116 := h116.ch0 crf
    have h117 := h117.ch0 crf
    have c80 := c80.then0 crf
    have hLn := runAO_next hL70 hq73 hb74
    exact ⟨rest84.length, Nat.lt_succ_self _, [(3, (PV p1)), (5, (PV p34)), (27, av0), (28, (Value.int .i64 ((a0.length : Nat) : Int))), (29, (Value.int .i64 ((i69 + 1 : Nat) : Int)))], ⟨rfl, rfl, rfl, rfl, rfl, trivial⟩, ⟨rest84, i69 + 1, y110.2.2, z112, z113, u114, rfl, rfl, c80, hat71.next, hLn, ah0, k4, h19, h116, h117, h115, gp1, d120, d121, d64, d122, d125, d128, lo123, lo126⟩⟩
   have hb74 := ifF q105 hb74
   refine CW.region ?_
   refine rl_move rfl rfl ?_
   refine rl_fieldAddr rfl fa34_1 rfl ?_
   refine rl_loadA (cs := (Key.enc x77.slice)) rfl Try.isAgg32 Try.sizeOf32 (k103.segAt 1 2) rfl rfl ?_
   have hd132 : ∀ b, (un (inBlk (PV p34)) (un (inBlk v54) (inBlk v56))) b → ¬ (un (inBlk (PV p91)) (un (inBlk v17) nb)) b := fun b h => un_el h (fun h => (fun b hb => fun h => un_el h (fun h => (disSym d96) b hb h) (fun h => un_el h (fun h => d64 b hb h) (fun h => h))) b h) (fun h => un_el h (fun h => (fun b hb => fun h => un_el h (fun h => (disSym d97) b hb h) (fun h => un_el h (fun h => d66 b hb h) (fun h => h))) b h) (fun h => (fun b hb => fun h => un_el h (fun h => (disSym d98) b hb h) (fun h => un_el h (fun h => d67 b hb h) (fun h => h))) b h))
   obtain ⟨y136, hy137⟩ : ∃ y, F10_Drop x53 x77.slice = y := ⟨_, rfl⟩
   have hb74 := ltS hy137 hb74
   refine rl_callF rfl en10 rfl (ctr10 F w100 w.heap.size (un (inBlk (PV p91)) (un (inBlk v17) nb)) c80.size (un_lt k103.ltp (un_lt (fun b hb => (h19.lt b hb).2) nbS)) p34 v54 v56 u58 hd132 d62 d63 d65 x53 k59 h55 h57 x77.slice y136 hy137) ?_
   rintro _ w134 ⟨z138, z139, u140, rfl, h141, h142, h143, hf144, hf145, d146, d147, d148, c135⟩
   have lo149 : ∀ b, inBlk z138 b → w.heap.size ≤ b := fun b h => (hf144 b h).elim (fun h => un_el h (fun h => lo47 b h) (fun h => un_el h (fun h => lo60 b h) (fun h => lo61 b h))) (Nat.le_trans c80.size)
   have d151 : ∀ b, inBlk z138 b → ¬ inBlk v17 b := fun b h hu => (hf144 b h).elim (fun h => un_el h (fun h => d64 b h hu) (fun h => un_el h (fun h => d66 b h hu) (fun h => d67 b h hu))) (fun h => Nat.not_le_of_lt ((fun b hb => (h19.lt b hb).2) b hu) h)
   have lo152 : ∀ b, inBlk z139 b → w.heap.size ≤ b := fun b h => (hf145 b h).elim (fun h => un_el h (fun h => lo47 b h) (fun h => un_el h (fun h => lo60 b h) (fun h => lo61 b h))) (Nat.le_trans c80.size)
   have d154 : ∀ b, inBlk z139 b → ¬ inBlk v17 b := fun b h hu => (hf145 b h).elim (fun h => un_el h (fun h => d64 b h hu) (fun h => un_el h (fun h => d66 b h hu) (fun h => d67 b h hu))) (fun h => Nat.not_le_of_lt ((fun b hb => (h19.lt b hb).2) b hu) h)
   have ha156 : ∀ b, b < w100.heap.size → ¬ (un (inBlk (PV p91)) (un (inBlk (PV p34)) (un (inBlk v54) (un (inBlk v56) (un (inBlk v17) nb))))) b → ¬ (un (inBlk (PV p34)) (un (inBlk v54) (inBlk v56))) b ∧ ¬ (un (inBlk (PV p91)) (un (inBlk (PV p34)) (un (inBlk z138) (un (inBlk z139) (un (inBlk v17) nb))))) b := fun b hb hs => ⟨fun h => un_el h (fun h => hs (.inr (.inl h))) (fun h => un_el h (fun h => hs (.inr (.inr (.inl h)))) (fun h => hs (.inr (.inr (.inr (.inl h)))))), fun h => un_el h (fun h => hs (.inl h)) (fun h => un_el h (fun h => hs (.inr (.inl h))) (fun h => un_el h (fun h => (hf144 b h).elim (fun h => un_el h (fun h => hs (.inr (.inl h))) (fun h => un_el h (fun h => hs (.inr (.inr (.inl h)))) (fun h => hs (.inr (.inr (.inr (.inl h))))))) (fun h => Nat.not_le_of_lt hb h)) (fun h => un_el h (fun h => (hf145 b h).elim (fun h => un_el h (fun h => hs (.inr (.inl h))) (fun h => un_el h (fun h => hs (.inr (.inr (.inl h)))) (fun h => hs (.inr (.inr (.inr (.inl h))))))) (fun h => Nat.not_le_of_lt hb h)) (fun h => un_el h (fun h => hs (.inr (.inr (.inr (.inr (.inl h)))))) (fun h => False.elim h)))))⟩
   have ah0 := slRep.st k_Act_pos ah0 c135 ha156
   have gp1n : (G F w.heap.size (un (inBlk (PV p91)) (un (inBlk (PV p34)) (un (inBlk z138) (un (inBlk z139) (un (inBlk v17) nb)))))) p1 := ⟨gp1.1, (ha156 _ k4.lt gp1.2).2⟩
   have k4 := k4.ch c135 (ha156 _ k4.lt gp1.2).1
   have gp1 := gp1n
   have h19 := h19.st c135 (fun b hb h => un_el h (fun h => (disSym d64) b hb h) (fun h => un_el h (fun h => (disSym d66) b hb h) (fun h => (disSym d67) b hb h))) ha156 (fun b h => (.inr (.inr (.inr (.inr (.inl h))))))
   have c80 := c80.then c135 (fun i hi h => un_el h (fun h => absurd (lo47 i h) (Nat.not_le_of_lt hi)) (fun h => un_el h (fun h => absurd (lo60 i h) (Nat.not_le_of_lt hi)) (fun h => absurd (lo61 i h) (Nat.not_le_of_lt hi))))
   refine RL.nil ?_
   refine inB_n ?_
   refine thn_n (CW.region ?_)
   refine rl_inc rfl hat71.lt ah0.big rfl ?_
   refine rl_move rfl rfl ?_
   refine RL.nil (thn_n ?_)
   have ad157 : ∀ b, b < w134.heap.size → ¬ (un (inBlk (PV p91)) (un (inBlk (PV p34)) (un (inBlk z138) (un (inBlk z139) (un (inBlk v17) nb))))) b → ¬ nb b ∧ ¬ (un (inBlk (PV p34)) (un (inBlk z138) (un (inBlk z139) (un (inBlk v17) nb)))) b := fun b _ hs => ⟨fun x => x, fun h => hs (un_el h (fun h => (.inr (.inl h))) (fun h => un_el h (fun h => (.inr (.inr (.inl h)))) (fun h => un_el h (fun h => (.inr (.inr (.inr (.inl h))))) (fun h => un_el h (fun h => (.inr (.inr (.inr (.inr (.inl h)))))) (fun h => False.elim h)))))⟩
   have crf : Ch nb w134 w134 := Ch.refl
   have ah0 := slRep.st k_Act_pos ah0 crf ad157
   have gp1n : (G F w.heap.size (un (inBlk (PV p34)) (un (inBlk z138) (un (inBlk z139) (un (inBlk v17) nb))))) p1 := ⟨gp1.1, (ad157 _ k4.lt gp1.2).2⟩
   have k4 := k4.ch0 crf
   have gp1 := gp1n
   have h19 := h19.st crf (fun _ _ x => x) ad157 (fun b h => (.inr (.inr (.inr (.inl h)))))
   have h141 := h141.ch0 crf
   have h142 := h142.ch0 crf
   have h143 := h143.ch0 crf
   have c80 := c80.then0 crf
   have hLn := runAO_next hL70 hq73 hb74
   exact ⟨rest84.length, Nat.lt_succ_self _, [(3, (PV p1)), (5, (PV p34)), (27, av0), (28, (Value.int .i64 ((a0.length : Nat) : Int))), (29, (Value.int .i64 ((i69 + 1 : Nat) : Int)))], ⟨rfl, rfl, rfl, rfl, rfl, trivial⟩, ⟨rest84, i69 + 1, y136.2.2, z138, z139, u140, rfl, rfl, c80, hat71.next, hLn, ah0, k4, h19, h142, h143, h141, gp1, d146, d147, d64, d148, d151, d154, lo149, lo152⟩⟩
  obtain rfl := hat71.nil q83
  have hLf : x53 = o75 := runAO_done hL70
  refine CW.exit (thn_exit (thn_exit (inB_hit ?_)))
  exact ⟨x53, v54, v56, u58, ⟨rfl, rfl, trivial⟩, c80, hLf, ah0, k4, h19, h55, h57, k59, gp1, d62, d63, d64, d65, d66, d67, lo60, lo61⟩
 rintro _ w159 ⟨x53, v54, v56, u58, hE160, c158, f161, ah0, k4, h19, h55, h57, k59, gp1, d62, d63, d64, d65, d66, d67, lo60, lo61⟩
 subst f161
 refine thn_n (CW.sub [(3, (PV p1)), (5, (PV p34))] hE160 ?_)
 refine CW.seq (CW.region ?_)
 refine rl_assign rfl rfl ?_
 refine RL.nil (thn_n (CW.seq ?_))
 refine CW.seq (CW.region ?_)
 refine rl_move rfl rfl ?_
 have hd163 : ∀ b, (un (inBlk (PV p34)) (un (inBlk v54) (inBlk v56))) b → ¬ (un (inBlk v17) nb) b := fun b h => un_el h (fun h => (fun b hb => fun h => un_el h (fun h => d64 b hb h) (fun h => h)) b h) (fun h => un_el h (fun h => (fun b hb => fun h => un_el h (fun h => d66 b hb h) (fun h => h)) b h) (fun h => (fun b hb => fun h => un_el h (fun h => d67 b hb h) (fun h => h)) b h))
 have hS164 : (un (inBlk (PV p34)) (un (inBlk v54) (un (inBlk v56) (un (inBlk v17) nb)))) = (un (inBlk (PV p34)) (un (inBlk v54) (un (inBlk v56) (un (inBlk v17) nb)))) := rfl
 obtain ⟨y167, hy168, hS⟩ := bindS hS
 refine rl_callF rfl en14 rfl (ctr14 F w159 w.heap.size (un (inBlk v17) nb) c158.size (un_lt (fun b hb => (h19.lt b hb).2) nbS) p34 v54 v56 u58 hd163 d62 d63 d65 x53 k59 h55 h57 y167 hy168) ?_
 rintro v169 w165 ⟨_, rfl, h170, c166⟩
 rw [← hS164] at h170
 have h170 := SlO.backR k_Key_pos h170 (un_lt k59.ltp (un_lt h55.ltp (un_lt h57.ltp (un_lt (fun b hb => (h19.lt b hb).2) nbS)))) c158.size
 have ah0 := slRep.ch k_Act_pos ah0 c166
 have k4 := k4.ch0 c166
 have h19 := h19.ch0 c166
 have h55 := h55.ch0 c166
 have h57 := h57.ch0 c166
 have k59 := k59.ch0 c166
 have c158 := c158.then0 c166
 refine rl_lenR rfl h170 Try.underlying40 rfl ?_
 refine rl_move rfl rfl ?_
 refine RL.nil (thn_n ?_)
 obtain ⟨o185, ho186, hS⟩ := bindS hS
 refine CW.cutB (fun E' w' => ∃ (x171 : Int), Sub [(3, (PV p1)), (5, (PV p34)), (8, (Value.int .i64 x171))] E' ∧ Ch nb w w' ∧ Lp.fin x171 = o185 ∧ slRep k_Act (G F w.heap.size (un (inBlk (PV p34)) (un (inBlk v54) (un (inBlk v56) (un (inBlk v17) nb))))) w' a0 av0 ∧ Blk w' p1 34 (Act.enc a1) ∧ SlO k_Act 34 F w.heap.size (un (inBlk (PV p34)) (un (inBlk v54) (un (inBlk v56) (un (inBlk v17) nb)))) w' ([a1] ++ a0) v17 ∧ Mp (fun x => Value.agg (Key.enc x).toArray) (fun x => Value.agg (Key.enc x).toArray) w' x53.owner v54 ∧ MM (fun x => Value.agg (Key.enc x).toArray) (fun x => Value.agg (Key.enc x).toArray) (fun x => Value.agg (St50.enc x).toArray) w' x53.slices u58 v56 ∧ Blk w' p34 47 (Index_2.c x53 v54 u58) ∧ slRep k_Key (G F w.heap.size (un (inBlk (PV p34)) (un (inBlk v54) (un (inBlk v56) (un (inBlk v17) nb))))) w' y167 v169 ∧ (G F w.heap.size (un (inBlk (PV p34)) (un (inBlk v54) (un (inBlk v56) (un (inBlk v17) nb))))) p1 ∧ (∀ b, inBlk (PV p34) b → ¬ inBlk v54 b) ∧ (∀ b, inBlk (PV p34) b → ¬ inBlk v56 b) ∧ (∀ b, inBlk (PV p34) b → ¬ inBlk v17 b) ∧ (∀ b, inBlk v54 b → ¬ inBlk v56 b) ∧ (∀ b, inBlk v54 b → ¬ inBlk v17 b) ∧ (∀ b, inBlk v56 b → ¬ inBlk v17 b)) ?_ ?_
 ·
  refine CW.loopS [(3, (PV p1)), (5, (PV p34)), (48, v169), (49, (Value.int .i64 ((y167.length : Nat) : Int))), (8, (Value.int .i64 0)), (50, (Value.int .i64 ((0 : Nat) : Int)))] ⟨rfl, rfl, rfl, rfl, rfl, rfl, trivial⟩ y167.length (fun m E w' => ∃ (rest178 : List Key) (i179 : Nat) (x171 : Int), m = rest178.length ∧ E = [(3, (PV p1)), (5, (PV p34)), (48, v169), (49, (Value.int .i64 ((y167.length : Nat) : Int))), (8, (Value.int .i64 x171)), (50, (Value.int .i64 ((i179 : Nat) : Int)))] ∧ Ch nb w w' ∧ At y167 i179 rest178 ∧ runBO (F4_IndexWho_b2 x53 x53) rest178 x171 = some o185 ∧ slRep k_Act (G F w.heap.size (un (inBlk (PV p34)) (un (inBlk v54) (un (inBlk v56) (un (inBlk v17) nb))))) w' a0 av0 ∧ Blk w' p1 34 (Act.enc a1) ∧ SlO k_Act 34 F w.heap.size (un (inBlk (PV p34)) (un (inBlk v54) (un (inBlk v56) (un (inBlk v17) nb)))) w' ([a1] ++ a0) v17 ∧ Mp (fun x => Value.agg (Key.enc x).toArray) (fun x => Value.agg (Key.enc x).toArray) w' x53.owner v54 ∧ MM (fun x => Value.agg (Key.enc x).toArray) (fun x => Value.agg (Key.enc x).toArray) (fun x => Value.agg (St50.enc x).toArray) w' x53.slices u58 v56 ∧ Blk w' p34 47 (Index_2.c x53 v54 u58) ∧ slRep k_Key (G F w.heap.size (un (inBlk (PV p34)) (un (inBlk v54) (un (inBlk v56) (un (inBlk v17) nb))))) w' y167 v169 ∧ (G F w.heap.size (un (inBlk (PV p34)) (un (inBlk v54) (un (inBlk v56) (un (inBlk v17) nb))))) p1 ∧ (∀ b, inBlk (PV p34) b → ¬ inBlk v54 b) ∧ (∀ b, inBlk (PV p34) b → ¬ inBlk v56 b) ∧ (∀ b, inBlk (PV p34) b → ¬ inBlk v17 b) ∧ (∀ b, inBlk v54 b → ¬ inBlk v56 b) ∧ (∀ b, inBlk v54 b → ¬ inBlk v17 b) ∧ (∀ b, inBlk v56 b → ¬ inBlk v17 b))
      ⟨y167, 0, 0, rfl, rfl, c158, At.start, ho186, ah0, k4, h19, h55, h57, k59, h170, gp1, d62, d63, d64, d65, d66, d67⟩ ?_
  rintro _ _ w191 ⟨rest178, i179, x171, rfl, rfl, c190, hat181, hL180, ah0, k4, h19, h55, h57, k59, h170, gp1, d172, d173, d174, d175, d176, d177⟩
  refine CW.seq (CW.region ?_)
  refine rl_bin rfl rfl B.lss rfl ?_
  refine RL.nil (thn_n ?_)
  refine CW.seq ?_
  refine CW.cond (t := decide (((i179 : Nat) : Int) < ((y167.length : Nat) : Int))) rfl (fun q193 => ?_) (fun q193 => ?_)
  ·
   obtain ⟨x187, rest194, rfl⟩ := hat181.cons q193
   obtain ⟨q182, hq183⟩ := runBO_some hL180
   have hb184 := hq183
   refine CW.skip (thn_n ?_)
   refine CW.seq ?_
   refine CW.block ?_
   refine CW.seq (CW.region ?_)
   refine rl_ixR rfl h170 rfl hat181.get Try.underlying40 Try.sizeOf32 rfl ?_
   intro p195 o196 cs197 hr198 hs199 hg200
   obtain rfl := hr198
   refine rl_loadA (cs := (Key.enc x187)) rfl Try.isAgg32 Try.sizeOf32 (hs199) rfl rfl ?_
   refine rl_alloc (Key.enc Key.z) Try.zeroValue32 rfl rfl ?_
   intro p201 w202 n203 k204
   have lo205 : ∀ b, inBlk (PV p201) b → w.heap.size ≤ b := fun b h => Nat.le_trans c190.size (n203.fresh b h)
   have d206 : ∀ b, inBlk (PV p201) b → ¬ inBlk (PV p34) b := disNew n203.fresh k59.ltp
   have d207 : ∀ b, inBlk (PV p201) b → ¬ inBlk v54 b := disNew n203.fresh h55.ltp
   have d208 : ∀ b, inBlk (PV p201) b → ¬ inBlk v56 b := disNew n203.fresh h57.ltp
   have d209 : ∀ b, inBlk (PV p201) b → ¬ inBlk v17 b := disNew n203.fresh (fun b hb => (h19.lt b hb).2)
   have ah0 := slRep.st k_Act_pos ah0 n203.ch (admNew n203.fresh (fun _ x => x))
   have gp1n : (G F w.heap.size (un (inBlk (PV p201)) (un (inBlk (PV p34)) (un (inBlk v54) (un (inBlk v56) (un (inBlk v17) nb)))))) p1 := ⟨gp1.1, ((admNew n203.fresh (fun _ x => x)) _ k4.lt gp1.2).2⟩
   have k4 := k4.ch0 n203.ch
   have gp1 := gp1n
   have h19 := h19.st n203.ch (fun _ _ x => x) (admNew n203.fresh (fun _ x => x)) (fun b h => (.inr (.inr (.inr (.inr (.inl h))))))
   have h55 := h55.ch0 n203.ch
   have h57 := h57.ch0 n203.ch
   have k59 := k59.ch0 n203.ch
   have h170 := slRep.st k_Key_pos h170 n203.ch (admNew n203.fresh (fun _ x => x))
   have c190 := c190.then0 n203.ch
   refine rl_storeA (vs := (Key.enc x187)) rfl rfl (all_one rfl) Try.sizeOf32 rfl k204 rfl ?_
   intro w210 s212 c211 k213
   have ad214 : ∀ b, b < w202.heap.size → ¬ (un (inBlk (PV p201)) (un (inBlk (PV p34)) (un (inBlk v54) (un (inBlk v56) (un (inBlk v17) nb))))) b → ¬ (inBlk (PV p201)) b ∧ ¬ (un (inBlk (PV p201)) (un (inBlk (PV p34)) (un (inBlk v54) (un (inBlk v56) (un (inBlk v17) nb))))) b := fun b _ hs => ⟨fun h => hs (.inl h), hs⟩
   have ah0 := slRep.st k_Act_pos ah0 c211 ad214
   have k4 := k4.ch c211 (ad214 _ k4.lt gp1.2).1
   have h19 := h19.st c211 (fun b hb h => (disSym d209) b hb h) ad214 (fun b h => (.inr (.inr (.inr (.inr (.inl h))))))
   have h55 := h55.ch c211 ((fun b hb h => (disSym d207) b hb h))
   have h57 := h57.ch c211 ((fun b hb h => (disSym d208) b hb h))
   have k59 := k59.ch c211 ((fun b hb h => (disSym d206) b hb h) _ rfl)
   have h170 := slRep.st k_Key_pos h170 c211 ad214
   have c190 := c190.then c211 (fun i hi h => absurd (lo205 i h) (Nat.not_le_of_lt hi))
   refine RL.nil (thn_n (CW.seq (CW.region ?_)))
   refine rl_move rfl rfl ?_
   refine rl_loadA (cs := (Key.enc x187)) rfl Try.isAgg32 Try.sizeOf32 (k213.segAt 0 2) rfl rfl ?_
   have hd215 : ∀ b, (un (inBlk (PV p34)) (un (inBlk v54) (inBlk v56))) b → ¬ (un (inBlk (PV p201)) (un (inBlk v17) nb)) b := fun b h => un_el h (fun h => (fun b hb => fun h => un_el h (fun h => (disSym d206) b hb h) (fun h => un_el h (fun h => d174 b hb h) (fun h => h))) b h) (fun h => un_el h (fun h => (fun b hb => fun h => un_el h (fun h => (disSym d207) b hb h) (fun h => un_el h (fun h => d176 b hb h) (fun h => h))) b h) (fun h => (fun b hb => fun h => un_el h (fun h => (disSym d208) b hb h) (fun h => un_el h (fun h => d177 b hb h) (fun h => h))) b h))
   have hS216 : (un (inBlk (PV p201)) (un (inBlk (PV p34)) (un (inBlk v54) (un (inBlk v56) (un (inBlk v17) nb))))) = (un (inBlk (PV p34)) (un (inBlk v54) (un (inBlk v56) (un (inBlk (PV p201)) (un (inBlk v17) nb))))) := funext fun b => propext ⟨fun h => un_el h (fun h => (.inr (.inr (.inr (.inl h))))) (fun h => un_el h (fun h => (.inl h)) (fun h => un_el h (fun h => (.inr (.inl h))) (fun h => un_el h (fun h => (.inr (.inr (.inl h)))) (fun h => un_el h (fun h => (.inr (.inr (.inr (.inr (.inl h)))))) (fun h => False.elim h))))), fun h => un_el h (fun h => (.inr (.inl h))) (fun h => un_el h (fun h => (.inr (.inr (.inl h)))) (fun h => un_el h (fun h => (.inr (.inr (.inr (.inl h))))) (fun h => un_el h (fun h => (.inl h)) (fun h => un_el h (fun h => (.inr (.inr (.inr (.inr (.inl h)))))) (fun h => False.elim h)))))⟩
   obtain ⟨y219, hy220, hb184⟩ := bindS hb184
   refine rl_callF rfl en16 rfl (ctr16 F w210 w.heap.size (un (inBlk (PV p201)) (un (inBlk v17) nb)) c190.size (un_lt k213.ltp (un_lt (fun b hb => (h19.lt b hb).2) nbS)) p34 v54 v56 u58 hd215 d172 d173 d175 x53 k59 h55 h57 x187 y219 hy220) ?_
   rintro v221 w217 ⟨_, rfl, h222, c218⟩
   rw [← hS216] at h222
   have h222 := SlO.backR k_Key_pos h222 (un_lt k213.ltp (un_lt k59.ltp (un_lt h55.ltp (un_lt h57.ltp (un_lt (fun b hb => (h19.lt b hb).2) nbS))))) c190.size
   have ah0 := slRep.ch k_Act_pos ah0 c218
   have k4 := k4.ch0 c218
   have h19 := h19.ch0 c218
   have h55 := h55.ch0 c218
   have h57 := h57.ch0 c218
   have k59 := k59.ch0 c218
   have h170 := slRep.ch k_Key_pos h170 c218
   have k213 := k213.ch0 c218
   have c190 := c190.then0 c218
   refine rl_assign rfl rfl ?_
   refine RL.nil (thn_n (CW.seq ?_))
   refine CW.seq (CW.region ?_)
   refine rl_move rfl rfl ?_
   refine rl_lenR rfl h222 Try.underlying40 rfl ?_
   refine rl_bin rfl rfl B.eql rfl ?_
   refine RL.nil (thn_n ?_)
   refine CW.cond (t := decide (((y219.length : Nat) : Int) = 0)) rfl (fun q223 => ?_) (fun q223 => ?_)
   ·
    have hb184 := ifT q223 hb184
    refine CW.seq (CW.region ?_)
    refine rl_assign rfl rfl ?_
    refine RL.nil (thn_n (CW.ret ?_))
    refine thn_ret ?_
    refine inB_ret ?_
    refine thn_ret ?_
    refine thn_ret (inB_ret (thn_ret ?_))
    refine thn_ret ?_
    have f224 := runBO_ret hL180 hq183 hb184
    have hS := retS f224 hS
    obtain rfl := Option.some.inj hS
    exact ret1 rfl ⟨rfl, c190⟩
   have hb184 := ifF q223 hb184
   refine CW.skip ?_
   refine thn_n (CW.seq (CW.region ?_))
   refine rl_move rfl rfl ?_
   refine rl_move rfl rfl ?_
   refine rl_lenR rfl h222 Try.underlying40 rfl ?_
   refine rl_bin rfl rfl B.add rfl ?_
   refine rl_assign rfl rfl ?_
   refine RL.nil (thn_n (CW.seq (CW.region ?_)))
   refine rl_move rfl rfl ?_
   refine rl_lenR rfl h222 Try.underlying40 rfl ?_
   refine rl_move rfl rfl ?_
   refine RL.nil (thn_n ?_)
   obtain ⟨o242, ho243⟩ : ∃ o, runB (F4_IndexWho_b3 x53 x53 x187) y219 () = o := ⟨_, rfl⟩
   have hb184 := ltS ho243 hb184
   refine CW.cutB (fun E' w' => ∃ (_ : Unit), Sub [(3, (PV p1)), (5, (PV p34)), (8, (Value.int .i64 (IntKind.i64.wrap (x171 + ((y219.length : Nat) : Int))))), (48, v169), (49, (Value.int .i64 ((y167.length : Nat) : Int))), (50, (Value.int .i64 ((i179 : Nat) : Int)))] E' ∧ Ch nb w w' ∧ Lp.fin () = o242 ∧ slRep k_Act (G F w.heap.size (un (inBlk (PV p201)) (un (inBlk (PV p34)) (un (inBlk v54) (un (inBlk v56) (un (inBlk v17) nb)))))) w' a0 av0 ∧ Blk w' p1 34 (Act.enc a1) ∧ SlO k_Act 34 F w.heap.size (un (inBlk (PV p201)) (un (inBlk (PV p34)) (un (inBlk v54) (un (inBlk v56) (un (inBlk v17) nb))))) w' ([a1] ++ a0) v17 ∧ Mp (fun x => Value.agg (Key.enc x).toArray) (fun x => Value.agg (Key.enc x).toArray) w' x53.owner v54 ∧ MM (fun x => Value.agg (Key.enc x).toArray) (fun x => Value.agg (Key.enc x).toArray) (fun x => Value.agg (St50.enc x).toArray) w' x53.slices u58 v56 ∧ Blk w' p34 47 (Index_2.c x53 v54 u58) ∧ slRep k_Key (G F w.heap.size (un (inBlk (PV p201)) (un (inBlk (PV p34)) (un (inBlk v54) (un (inBlk v56) (un (inBlk v17) nb)))))) w' y167 v169 ∧ Blk w' p201 32 (Key.enc x187) ∧ slRep k_Key (G F w.heap.size (un (inBlk (PV p201)) (un (inBlk (PV p34)) (un (inBlk v54) (un (inBlk v56) (un (inBlk v17) nb)))))) w' y219 v221 ∧ (G F w.heap.size (un (inBlk (PV p201)) (un (inBlk (PV p34)) (un (inBlk v54) (un (inBlk v56) (un (inBlk v17) nb)))))) p1 ∧ (∀ b, inBlk (PV p201) b → ¬ inBlk (PV p34) b) ∧ (∀ b, inBlk (PV p201) b → ¬ inBlk v54 b) ∧ (∀ b, inBlk (PV p201) b → ¬ inBlk v56 b) ∧ (∀ b, inBlk (PV p201) b → ¬ inBlk v17 b) ∧ (∀ b, inBlk (PV p34) b → ¬ inBlk v54 b) ∧ (∀ b, inBlk (PV p34) b → ¬ inBlk v56 b) ∧ (∀ b, inBlk (PV p34) b → ¬ inBlk v17 b) ∧ (∀ b, inBlk v54 b → ¬ inBlk v56 b) ∧ (∀ b, inBlk v54 b → ¬ inBlk v17 b) ∧ (∀ b, inBlk v56 b → ¬ inBlk v17 b)) ?_ ?_
   ·
    refine CW.loopS [(3, (PV p1)), (5, (PV p34)), (8, (Value.int .i64 (IntKind.i64.wrap (x171 + ((y219.length : Nat) : Int))))), (10, (PV p201)), (48, v169), (49, (Value.int .i64 ((y167.length : Nat) : Int))), (50, (Value.int .i64 ((i179 : Nat) : Int))), (64, v221), (65, (Value.int .i64 ((y219.length : Nat) : Int))), (66, (Value.int .i64 ((0 : Nat) : Int)))] ⟨rfl, rfl, rfl, rfl, rfl, rfl, rfl, rfl, rfl, rfl, trivial⟩ y219.length (fun m E w' => ∃ (rest235 : List Key) (i236 : Nat) , m = rest235.length ∧ E = [(3, (PV p1)), (5, (PV p34)), (8, (Value.int .i64 (IntKind.i64.wrap (x171 + ((y219.length : Nat) : Int))))), (10, (PV p201)), (48, v169), (49, (Value.int .i64 ((y167.length : Nat) : Int))), (50, (Value.int .i64 ((i179 : Nat) : Int))), (64, v221), (65, (Value.int .i64 ((y219.length : Nat) : Int))), (66, (Value.int .i64 ((i236 : Nat) : Int)))] ∧ Ch nb w w' ∧ At y219 i236 rest235 ∧ runB (F4_IndexWho_b3 x53 x53 x187) rest235 () = o242 ∧ slRep k_Act (G F w.heap.size (un (inBlk (PV p201)) (un (inBlk (PV p34)) (un (inBlk v54) (un (inBlk v56) (un (inBlk v17) nb)))))) w' a0 av0 ∧ Blk w' p1 34 (Act.enc a1) ∧ SlO k_Act 34 F w.heap.size (un (inBlk (PV p201)) (un (inBlk (PV p34)) (un (inBlk v54) (un (inBlk v56) (un (inBlk v17) nb))))) w' ([a1] ++ a0) v17 ∧ Mp (fun x => Value.agg (Key.enc x).toArray) (fun x => Value.agg (Key.enc x).toArray) w' x53.owner v54 ∧ MM (fun x => Value.agg (Key.enc x).toArray) (fun x => Value.agg (Key.enc x).toArray) (fun x => Value.agg (St50.enc x).toArray) w' x53.slices u58 v56 ∧ Blk w' p34 47 (Index_2.c x53 v54 u58) ∧ slRep k_Key (G F w.heap.size (un (inBlk (PV p201)) (un (inBlk (PV p34)) (un (inBlk v54) (un (inBlk v56) (un (inBlk v17) nb)))))) w' y167 v169 ∧ Blk w' p201 32 (Key.enc x187) ∧ slRep k_Key (G F w.heap.size (un (inBlk (PV p201)) (un (inBlk (PV p34)) (un (inBlk v54) (un (inBlk v56) (un (inBlk v17) nb)))))) w' y219 v221 ∧ (G F w.heap.size (un (inBlk (PV p201)) (un (inBlk (PV p34)) (un (inBlk v54) (un (inBlk v56) (un (inBlk v17) nb)))))) p1 ∧ (∀ b, inBlk (PV p201) b → ¬ inBlk (PV p34) b) ∧ (∀ b, inBlk (PV p201) b → ¬ inBlk v54 b) ∧ (∀ b, inBlk (PV p201) b → ¬ inBlk v56 b) ∧ (∀ b, inBlk (PV p201) b → ¬ inBlk v17 b) ∧ (∀ b, inBlk (PV p34) b → ¬ inBlk v54 b) ∧ (∀ b, inBlk (PV p34) b → ¬ inBlk v56 b) ∧ (∀ b, inBlk (PV p34) b → ¬ inBlk v17 b) ∧ (∀ b, inBlk v54 b → ¬ inBlk v56 b) ∧ (∀ b, inBlk v54 b → ¬ inBlk v17 b) ∧ (∀ b, inBlk v56 b → ¬ inBlk v17 b))
        ⟨y219, 0, rfl, rfl, c190, At.start, ho243, ah0, k4, h19, h55, h57, k59, h170, k213, h222, gp1, d206, d207, d208, d209, d172, d173, d174, d175, d176, d177⟩ ?_
    rintro _ _ w248 ⟨rest235, i236, rfl, rfl, c247, hat238, hL237, ah0, k4, h19, h55, h57, k59, h170, k213, h222, gp1, d225, d226, d227, d228, d229, d230, d231, d232, d233, d234⟩
    refine CW.seq (CW.region ?_)
    refine rl_bin rfl rfl B.lss rfl ?_
    refine RL.nil (thn_n ?_)
    refine CW.seq ?_
    refine CW.cond (t := decide (((i236 : Nat) : Int) < ((y219.length : Nat) : Int))) rfl (fun q250 => ?_) (fun q250 => ?_)
    ·
     obtain ⟨x244, rest251, rfl⟩ := hat238.cons q250
     obtain ⟨q239, hq240⟩ : ∃ q, (F4_IndexWho_b3 x53 x53 x187) x244 () = q := ⟨_, rfl⟩
     have hb241 := hq240
     refine CW.skip (thn_n ?_)
     refine CW.seq ?_
     refine CW.block ?_
     refine CW.seq (CW.region ?_)
     refine rl_ixR rfl h222 rfl hat238.get Try.underlying40 Try.sizeOf32 rfl ?_
     intro p252 o253 cs254 hr255 hs256 hg257
     obtain rfl := hr255
     refine rl_loadA (cs := (Key.enc x244)) rfl Try.isAgg32 Try.sizeOf32 (hs256) rfl rfl ?_
     refine rl_alloc (Key.enc Key.z) Try.zeroValue32 rfl rfl ?_
     intro p258 w259 n260 k261
     have lo262 : ∀ b, inBlk (PV p258) b → w.heap.size ≤ b := fun b h => Nat.le_trans c247.size (n260.fresh b h)
     have d263 : ∀ b, inBlk (PV p258) b → ¬ inBlk (PV p201) b := disNew n260.fresh k213.ltp
     have d264 : ∀ b, inBlk (PV p258) b → ¬ inBlk (PV p34) b := disNew n260.fresh k59.ltp
     have d265 : ∀ b, inBlk (PV p258) b → ¬ inBlk v54 b := disNew n260.fresh h55.ltp
     have d266 : ∀ b, inBlk (PV p258) b → ¬ inBlk v56 b := disNew n260.fresh h57.ltp
     have d267 : ∀ b, inBlk (PV p258) b → ¬ inBlk v17 b := disNew n260.fresh (fun b hb => (h19.lt b hb).2)
     have ah0 := slRep.st k_Act_pos ah0 n260.ch (admNew n260.fresh (fun _ x => x))
     have gp1n : (G F w.heap.size (un (inBlk (PV p258)) (un (inBlk (PV p201)) (un (inBlk (PV p34)) (un (inBlk v54) (un (inBlk v56) (un (inBlk v17) nb))))))) p1 := ⟨gp1.1, ((admNew n260.fresh (fun _ x => x)) _ k4.lt gp1.2).2⟩
     have k4 := k4.ch0 n260.ch
     have gp1 := gp1n
     have h19 := h19.st n260.ch (fun _ _ x => x) (admNew n260.fresh (fun _ x => x)) (fun b h => (.inr (.inr (.inr (.inr (.inr (.inl h)))))))
     have h55 := h55.ch0 n260.ch
     have h57 := h57.ch0 n260.ch
     have k59 := k59.ch0 n260.ch
     have h170 := slRep.st k_Key_pos h170 n260.ch (admNew n260.fresh (fun _ x => x))
     have k213 := k213.ch0 n260.ch
     have h222 := slRep.st k_Key_pos h222 n260.ch (admNew n260.fresh (fun _ x => x))
     have c247 := c247.then0 n260.ch
     refine rl_storeA (vs := (Key.enc x244)) rfl rfl (all_one rfl) Try.sizeOf32 rfl k261 rfl ?_
     intro w268 s270 c269 k271
     have ad272 : ∀ b, b < w259.heap.size → ¬ (un (inBlk (PV p258)) (un (inBlk (PV p201)) (un (inBlk (PV p34)) (un (inBlk v54) (un (inBlk v56) (un (inBlk v17) nb)))))) b → ¬ (inBlk (PV p258)) b ∧ ¬ (un (inBlk (PV p258)) (un (inBlk (PV p201)) (un (inBlk (PV p34)) (un (inBlk v54) (un (inBlk v56) (un (inBlk v17) nb)))))) b := fun b _ hs => ⟨fun h => hs (.inl h), hs⟩
     have ah0 := slRep.st k_Act_pos ah0 c269 ad272
     have k4 := k4.ch c269 (ad272 _ k4.lt gp1.2).1
     have h19 := h19.st c269 (fun b hb h => (disSym d267) b hb h) ad272 (fun b h => (.inr (.inr (.inr (.inr (.inr (.inl h)))))))
     have h55 := h55.ch c269 ((fun b hb h => (disSym d265) b hb h))
     have h57 := h57.ch c269 ((fun b hb h => (disSym d266) b hb h))
     have k59 := k59.ch c269 ((fun b hb h => (disSym d264) b hb h) _ rfl)
     have h170 := slRep.st k_Key_pos h170 c269 ad272
     have k213 := k213.ch c269 ((fun b hb h => (disSym d263) b hb h) _ rfl)
     have h222 := slRep.st k_Key_pos h222 c269 ad272
     have c247 := c247.then c269 (fun i hi h => absurd (lo262 i h) (Nat.not_le_of_lt hi))
     refine RL.nil (thn_n (CW.seq (CW.region ?_)))
     refine rl_move rfl rfl ?_
     refine rl_loadA (cs := (Key.enc x244)) rfl Try.isAgg32 Try.sizeOf32 (k271.segAt 0 2) rfl rfl ?_
     have hd273 : ∀ b, (un (inBlk (PV p34)) (un (inBlk v54) (inBlk v56))) b → ¬ (un (inBlk (PV p258)) (un (inBlk (PV p201)) (un (inBlk v17) nb))) b := fun b h => un_el h (fun h => (fun b hb => fun h => un_el h (fun h => (disSym d264) b hb h) (fun h => un_el h (fun h => (disSym d225) b hb h) (fun h => un_el h (fun h => d231 b hb h) (fun h => h)))) b h) (fun h => un_el h (fun h => (fun b hb => fun h => un_el h (fun h => (disSym d265) b hb h) (fun h => un_el h (fun h => (disSym d226) b hb h) (fun h => un_el h (fun h => d233 b hb h) (fun h => h)))) b h) (fun h => (fun b hb => fun h => un_el h (fun h => (disSym d266) b hb h) (fun h => un_el h (fun h => (disSym d227) b hb h) (fun h => un_el h (fun h => d234 b hb h) (fun h => h)))) b h))
     obtain ⟨y277, hy278⟩ : ∃ y, F18_Owner x53 x244 = y := ⟨_, rfl⟩
     have hb241 := ltS hy278 hb241
     refine rl_callF rfl en18 rfl (ctr18 F w268 w.heap.size (un (inBlk (PV p258)) (un (inBlk (PV p201)) (un (inBlk v17) nb))) c247.size (un_lt k271.ltp (un_lt k213.ltp (un_lt (fun b hb => (h19.lt b hb).2) nbS))) p34 v54 v56 u58 hd273 d229 d230 d232 x53 k59 h55 h57 x244 y277 hy278) ?_
     rintro _ w275 ⟨rfl, c276⟩
     have ah0 := slRep.ch k_Act_pos ah0 c276
     have k4 := k4.ch0 c276
     have h19 := h19.ch0 c276
     have h55 := h55.ch0 c276
     have h57 := h57.ch0 c276
     have k59 := k59.ch0 c276
     have h170 := slRep.ch k_Key_pos h170 c276
     have k213 := k213.ch0 c276
     have h222 := slRep.ch k_Key_pos h222 c276
     have c247 := c247.then0 c276
     refine rl_move rfl rfl ?_
     refine rl_extract rfl rfl rfl ?_
     refine rl_extract rfl rfl rfl ?_
     refine rl_alloc (Key.enc Key.z) Try.zeroValue32 rfl rfl ?_
     intro p279 w280 n281 k282
     have lo283 : ∀ b, inBlk (PV p279) b → w.heap.size ≤ b := fun b h => Nat.le_trans c247.size (n281.fresh b h)
     have d285 : ∀ b, inBlk (PV p279) b → ¬ inBlk (PV p201) b := disNew n281.fresh k213.ltp
     have d286 : ∀ b, inBlk (PV p279) b → ¬ inBlk (PV p34) b := disNew n281.fresh k59.ltp
     have d287 : ∀ b, inBlk (PV p279) b → ¬ inBlk v54 b := disNew n281.fresh h55.ltp
     have d288 : ∀ b, inBlk (PV p279) b → ¬ inBlk v56 b := disNew n281.fresh h57.ltp
     have d289 : ∀ b, inBlk (PV p279) b → ¬ inBlk v17 b := disNew n281.fresh (fun b hb => (h19.lt b hb).2)
     have ah0 := slRep.st k_Act_pos ah0 n281.ch (admNew n281.fresh (fun _ x => x))
     have gp1n : (G F w.heap.size (un (inBlk (PV p279)) (un (inBlk (PV p258)) (un (inBlk (PV p201)) (un (inBlk (PV p34)) (un (inBlk v54) (un (inBlk v56) (un (inBlk v17) nb)))))))) p1 := ⟨gp1.1, ((admNew n281.fresh (fun _ x => x)) _ k4.lt gp1.2).2⟩
     have k4 := k4.ch0 n281.ch
     have gp1 := gp1n
     have h19 := h19.st n281.ch (fun _ _ x => x) (admNew n281.fresh (fun _ x => x)) (fun b h => (.inr (.inr (.inr (.inr (.inr (.inr (.inl h))))))))
     have h55 := h55.ch0 n281.ch
     have h57 := h57.ch0 n281.ch
     have k59 := k59.ch0 n281.ch
     have h170 := slRep.st k_Key_pos h170 n281.ch (admNew n281.fresh (fun _ x => x))
     have k213 := k213.ch0 n281.ch
     have h222 := slRep.st k_Key_pos h222 n281.ch (admNew n281.fresh (fun _ x => x))
     have c247 := c247.then0 n281.ch
     refine rl_storeA (vs := (Key.enc y277.1)) rfl rfl (all_one rfl) Try.sizeOf32 rfl k282 rfl ?_
     intro w290 s292 c291 k293
     have ad294 : ∀ b, b < w280.heap.size → ¬ (un (inBlk (PV p279)) (un (inBlk (PV p258)) (un (inBlk (PV p201)) (un (inBlk (PV p34)) (un (inBlk v54) (un (inBlk v56) (un (inBlk v17) nb))))))) b → ¬ (inBlk (PV p279)) b ∧ ¬ (un (inBlk (PV p279)) (un (inBlk (PV p258)) (un (inBlk (PV p201)) (un (inBlk (PV p34)) (un (inBlk v54) (un (inBlk v56) (un (inBlk v17) nb))))))) b := fun b _ hs => ⟨fun h => hs (.inl h), hs⟩
     have ah0 := slRep.st k_Act_pos ah0 c291 ad294
     have k4 := k4.ch c291 (ad294 _ k4.lt gp1.2).1
     have h19 := h19.st c291 (fun b hb h => (disSym d289) b hb h) ad294 (fun b h => (.inr (.inr (.inr (.inr (.inr (.inr (.inl h))))))))
     have h55 := h55.ch c291 ((fun b hb h => (disSym d287) b hb h))
     have h57 := h57.ch c291 ((fun b hb h => (disSym d288) b hb h))
     have k59 := k59.ch c291 ((fun b hb h => (disSym d286) b hb h) _ rfl)
     have h170 := slRep.st k_Key_pos h170 c291 ad294
     have k213 := k213.ch c291 ((fun b hb h => (disSym d285) b hb h) _ rfl)
     have h222 := slRep.st k_Key_pos h222 c291 ad294
     have c247 := c247.then c291 (fun i hi h => absurd (lo283 i h) (Nat.not_le_of_lt hi))
     refine rl_assign rfl rfl ?_
     refine RL.nil (thn_n (CW.seq (CW.region ?_)))
     refine rl_move rfl rfl ?_
     refine rl_not rfl rfl ?_
     refine rl_move rfl rfl ?_
     obtain ⟨b297, hb298⟩ : ∃ v, ((!y277.2) || (!decide (y277.1 = x187))) = v := ⟨_, rfl⟩
     have hb241 := ltS hb298 hb241
     refine RL.join 4 82 (.bool b297) (fun w' => Ch nb w290 w') ?_ ?_
     · rcases Bool.eq_false_or_eq_true (!y277.2) with hg296 | hg296
       ·
        have hs295 := or_t hg296 hb298
        have cs : Ch nb w290 w290 := Ch.refl
        refine RL.no rfl rfl rfl hg296 rfl rfl ?_
        refine RL.no rfl rfl rfl hg296 rfl rfl ?_
        refine RL.no rfl rfl rfl hg296 rfl rfl ?_
        refine rl_pickT rfl hg296 rfl rfl ?_
        exact RL.nil ⟨Ext.bothEq (congrArg Value.bool hs295) (Ext.skip rfl (Ext.skip rfl (Ext.skip rfl (Ext.rfl')))), cs⟩
       ·
        have hs295 := or_f hg296 hb298
        have cs : Ch nb w290 w290 := Ch.refl
        refine RL.yes rfl rfl rfl hg296 ?_
        refine rl_loadA (cs := (Key.enc y277.1)) rfl Try.isAgg32 Try.sizeOf32 (k293.segAt 0 2) rfl rfl ?_
        refine RL.yes rfl rfl rfl hg296 ?_
        refine rl_loadA (cs := (Key.enc x187)) rfl Try.isAgg32 Try.sizeOf32 (k213.segAt 0 2) rfl rfl ?_
        refine RL.yes rfl rfl rfl hg296 ?_
        refine rl_bin rfl rfl (neq32 y277.1 x187) rfl ?_
        refine rl_pickF rfl hg296 rfl rfl ?_
        exact RL.nil ⟨Ext.bothEq (congrArg Value.bool hs295) (Ext.skip rfl (Ext.skip rfl (Ext.skip rfl (Ext.rfl')))), cs⟩
     intro w299 c300
     have ah0 := slRep.ch k_Act_pos ah0 c300
     have k4 := k4.ch0 c300
     have h19 := h19.ch0 c300
     have h55 := h55.ch0 c300
     have h57 := h57.ch0 c300
     have k59 := k59.ch0 c300
     have h170 := slRep.ch k_Key_pos h170 c300
     have k213 := k213.ch0 c300
     have h222 := slRep.ch k_Key_pos h222 c300
     have c247 := c247.then0 c300
     refine RL.nil (thn_n ?_)
     refine CW.cond (t := b297) rfl (fun q301 => ?_) (fun q301 => ?_)
     ·
      have hb241 := ifT q301 hb241
      refine CW.seq (CW.region ?_)
      refine rl_assign rfl rfl ?_
      refine RL.nil (thn_n (CW.ret ?_))
      refine inB_ret ?_
      refine thn_ret ?_
      refine thn_ret (inB_ret (thn_ret ?_))
      refine inB_ret ?_
      refine thn_ret ?_
      refine thn_ret (inB_ret (thn_ret ?_))
      refine thn_ret ?_
      have f302 := runB_ret hL237 (hb241.trans hq240.symm)
      have hb184 := retS f302 hb184
      have f303 := runBO_ret hL180 hq183 hb184
      have hS := retS f303 hS
      obtain rfl := Option.some.inj hS
      exact ret1 rfl ⟨rfl, c247⟩
     have hb241 := ifF q301 hb241
     refine CW.skip ?_
     refine inB_n ?_
     refine thn_n (CW.region ?_)
     refine rl_inc rfl hat238.lt h222.big rfl ?_
     refine rl_move rfl rfl ?_
     refine RL.nil (thn_n ?_)
     have ad304 : ∀ b, b < w299.heap.size → ¬ (un (inBlk (PV p279)) (un (inBlk (PV p258)) (un (inBlk (PV p201)) (un (inBlk (PV p34)) (un (inBlk v54) (un (inBlk v56) (un (inBlk v17) nb))))))) b → ¬ nb b ∧ ¬ (un (inBlk (PV p258)) (un (inBlk (PV p201)) (un (inBlk (PV p34)) (un (inBlk v54) (un (inBlk v56) (un (inBlk v17) nb)))))) b := fun b _ hs => ⟨fun x => x, fun h => hs (un_el h (fun h => (.inr (.inl h))) (fun h => un_el h (fun h => (.inr (.inr (.inl h)))) (fun h => un_el h (fun h => (.inr (.inr (.inr (.inl h))))) (fun h => un_el h (fun h => (.inr (.inr (.inr (.inr (.inl h)))))) (fun h => un_el h (fun h => (.inr (.inr (.inr (.inr (.inr (.inl h))))))) (fun h => un_el h (fun h => (.inr (.inr (.inr (.inr (.inr (.inr (.inl h)))))))) (fun h => False.elim h)))))))⟩
     have crf : Ch nb w299 w299 := Ch.refl
     have ah0 := slRep.st k_Act_pos ah0 crf ad304
     have gp1n : (G F w.heap.size (un (inBlk (PV p258)) (un (inBlk (PV p201)) (un (inBlk (PV p34)) (un (inBlk v54) (un (inBlk v56) (un (inBlk v17) nb))))))) p1 := ⟨gp1.1, (ad304 _ k4.lt gp1.2).2⟩
     have k4 := k4.ch0 crf
     have gp1 := gp1n
     have h19 := h19.st crf (fun _ _ x => x) ad304 (fun b h => (.inr (.inr (.inr (.inr (.inr (.inl h)))))))
     have h55 := h55.ch0 crf
     have h57 := h57.ch0 crf
     have k59 := k59.ch0 crf
     have h170 := slRep.st k_Key_pos h170 crf ad304
     have k213 := k213.ch0 crf
     have h222 := slRep.st k_Key_pos h222 crf ad304
     have c247 := c247.then0 crf
     have ad305 : ∀ b, b < w299.heap.size → ¬ (un (inBlk (PV p258)) (un (inBlk (PV p201)) (un (inBlk (PV p34)) (un (inBlk v54) (un (inBlk v56) (un (inBlk v17) nb)))))) b → ¬ nb b ∧ ¬ (un (inBlk (PV p201)) (un (inBlk (PV p34)) (un (inBlk v54) (un (inBlk v56) (un (inBlk v17) nb))))) b := fun b _ hs => ⟨fun x => x, fun h => hs (un_el h (fun h => (.inr (.inl h))) (fun h => un_el h (fun h => (.inr (.inr (.inl h)))) (fun h => un_el h (fun h => (.inr (.inr (.inr (.inl h))))) (fun h => un_el h (fun h => (.inr (.inr (.inr (.inr (.inl h)))))) (fun h => un_el h (fun h => (.inr (.inr (.inr (.inr (.inr (.inl h))))))) (fun h => False.elim h))))))⟩
     have crf : Ch nb w299 w299 := Ch.refl
     have ah0 := slRep.st k_Act_pos ah0 crf ad305
     have gp1n : (G F w.heap.size (un (inBlk (PV p201)) (un (inBlk (PV p34)) (un (inBlk v54) (un (inBlk v56) (un (inBlk v17) nb)))))) p1 := ⟨gp1.1, (ad305 _ k4.lt gp1.2).2⟩
     have k4 := k4.ch0 crf
     have gp1 := gp1n
     have h19 := h19.st crf (fun _ _ x => x) ad305 (fun b h => (.inr (.inr (.inr (.inr (.inl h))))))
     have h55 := h55.ch0 crf
     have h57 := h57.ch0 crf
     have k59 := k59.ch0 crf
     have h170 := slRep.st k_Key_pos h170 crf ad305
     have k213 := k213.ch0 crf
     have h222 := slRep.st k_Key_pos h222 crf ad305
     have c247 := c247.then0 crf
     have hLn := runB_next hL237 (hb241.trans hq240.symm)
     exact ⟨rest251.length, Nat.lt_succ_self _, [(3, (PV p1)), (5, (PV p34)), (8, (Value.int .i64 (IntKind.i64.wrap (x171 + ((y219.length : Nat) : Int))))), (10, (PV p201)), (48, v169), (49, (Value.int .i64 ((y167.length : Nat) : Int))), (50, (Value.int .i64 ((i179 : Nat) : Int))), (64, v221), (65, (Value.int .i64 ((y219.length : Nat) : Int))), (66, (Value.int .i64 ((i236 + 1 : Nat) : Int)))], ⟨rfl, rfl, rfl, rfl, rfl, rfl, rfl, rfl, rfl, rfl, trivial⟩, ⟨rest251, i236 + 1, rfl, rfl, c247, hat238.next, hLn, ah0, k4, h19, h55, h57, k59, h170, k213, h222, gp1, d225, d226, d227, d228, d229, d230, d231, d232, d233, d234⟩⟩
    obtain rfl := hat238.nil q250
    have hLf : Lp.fin () = o242 := hL237
    refine CW.exit (thn_exit (thn_exit (inB_hit ?_)))
    exact ⟨(), ⟨rfl, rfl, rfl, rfl, rfl, rfl, trivial⟩, c247, hLf, ah0, k4, h19, h55, h57, k59, h170, k213, h222, gp1, d225, d226, d227, d228, d229, d230, d231, d232, d233, d234⟩
   rintro _ w307 ⟨_, hE308, c306, f309, ah0, k4, h19, h55, h57, k59, h170, k213, h222, gp1, d225, d226, d227, d228, d229, d230, d231, d232, d233, d234⟩
   have hb184 := finS f309 hb184
   refine inB_n ?_
   refine thn_n (CW.sub [(3, (PV p1)), (5, (PV p34)), (8, (Value.int .i64 (IntKind.i64.wrap (x171 + ((y219.length : Nat) : Int))))), (48, v169), (49, (Value.int .i64 ((y167.length : Nat) : Int))), (50, (Value.int .i64 ((i179 : Nat) : Int)))] hE308 ?_)
   refine CW.region ?_
   refine rl_inc rfl hat181.lt h170.big rfl ?_
   refine rl_move rfl rfl ?_
   refine RL.nil (thn_n ?_)
   have ad311 : ∀ b, b < w307.heap.size → ¬ (un (inBlk (PV p201)) (un (inBlk (PV p34)) (un (inBlk v54) (un (inBlk v56) (un (inBlk v17) nb))))) b → ¬ nb b ∧ ¬ (un (inBlk (PV p34)) (un (inBlk v54) (un (inBlk v56) (un (inBlk v17) nb)))) b := fun b _ hs => ⟨fun x => x, fun h => hs (un_el h (fun h => (.inr (.inl h))) (fun h => un_el h (fun h => (.inr (.inr (.inl h)))) (fun h => un_el h (fun h => (.inr (.inr (.inr (.inl h))))) (fun h => un_el h (fun h => (.inr (.inr (.inr (.inr (.inl h)))))) (fun h => False.elim h)))))⟩
   have crf : Ch nb w307 w307 := Ch.refl
   have ah0 := slRep.st k_Act_pos ah0 crf ad311
   have gp1n : (G F w.heap.size (un (inBlk (PV p34)) (un (inBlk v54) (un (inBlk v56) (un (inBlk v17) nb))))) p1 := ⟨gp1.1, (ad311 _ k4.lt gp1.2).2⟩
   have k4 := k4.ch0 crf
   have gp1 := gp1n
   have h19 := h19.st crf (fun _ _ x => x) ad311 (fun b h => (.inr (.inr (.inr (.inl h)))))
   have h55 := h55.ch0 crf
   have h57 := h57.ch0 crf
   have k59 := k59.ch0 crf
   have h170 := slRep.st k_Key_pos h170 crf ad311
   have c306 := c306.then0 crf
   have hLn := runBO_next hL180 hq183 hb184
   exact ⟨rest194.length, Nat.lt_succ_self _, [(3, (PV p1)), (5, (PV p34)), (48, v169), (49, (Value.int .i64 ((y167.length : Nat) : Int))), (8, (Value.int .i64 (IntKind.i64.wrap (x171 + ((y219.length : Nat) : Int))))), (50, (Value.int .i64 ((i179 + 1 : Nat) : Int)))], ⟨rfl, rfl, rfl, rfl, rfl, rfl, trivial⟩, ⟨rest194, i179 + 1, IntKind.i64.wrap (x171 + ((y219.length : Nat) : Int)), rfl, rfl, c306, hat181.next, hLn, ah0, k4, h19, h55, h57, k59, h170, gp1, d229, d230, d231, d232, d233, d234⟩⟩
  obtain rfl := hat181.nil q193
  have hLf : Lp.fin x171 = o185 := runBO_done hL180
  refine CW.exit (thn_exit (thn_exit (inB_hit ?_)))
  exact ⟨x171, ⟨rfl, rfl, rfl, trivial⟩, c190, hLf, ah0, k4, h19, h55, h57, k59, h170, gp1, d172, d173, d174, d175, d176, d177⟩
 rintro _ w313 ⟨x171, hE314, c312, f315, ah0, k4, h19, h55, h57, k59, h170, gp1, d172, d173, d174, d175, d176, d177⟩
 have hS := finS f315 hS
 refine thn_n (CW.sub [(3, (PV p1)), (5, (PV p34)), (8, (Value.int .i64 x171))] hE314 ?_)
 refine CW.seq (CW.region ?_)
 refine rl_move rfl rfl ?_
 refine rl_callF rfl en20 rfl (ctr20 (anyOf_d hS) k59 h55) ?_
 rintro _ w318 ⟨X317, p320, z324, z325, u326, rfl, h321, h322, h323, hf327, hf328, hf329, d330, d331, d332, c319⟩
 have hS := anyOf_el hS X317
 have lo333 : ∀ b, inBlk (PV p320) b → w.heap.size ≤ b := fun b h => Nat.le_trans c312.size (hf327 b h)
 have d334 : ∀ b, inBlk (PV p320) b → ¬ inBlk (PV p34) b := disNew hf327 k59.ltp
 have d335 : ∀ b, inBlk (PV p320) b → ¬ inBlk v54 b := disNew hf327 h55.ltp
 have d336 : ∀ b, inBlk (PV p320) b → ¬ inBlk v56 b := disNew hf327 h57.ltp
 have d337 : ∀ b, inBlk (PV p320) b → ¬ inBlk v17 b := disNew hf327 (fun b hb => (h19.lt b hb).2)
 have lo338 : ∀ b, inBlk z324 b → w.heap.size ≤ b := fun b h => Nat.le_trans c312.size (hf328 b h)
 have d339 : ∀ b, inBlk z324 b → ¬ inBlk (PV p34) b := disNew hf328 k59.ltp
 have d340 : ∀ b, inBlk z324 b → ¬ inBlk v54 b := disNew hf328 h55.ltp
 have d341 : ∀ b, inBlk z324 b → ¬ inBlk v56 b := disNew hf328 h57.ltp
 have d342 : ∀ b, inBlk z324 b → ¬ inBlk v17 b := disNew hf328 (fun b hb => (h19.lt b hb).2)
 have lo343 : ∀ b, inBlk z325 b → w.heap.size ≤ b := fun b h => Nat.le_trans c312.size (hf329 b h)
 have d344 : ∀ b, inBlk z325 b → ¬ inBlk (PV p34) b := disNew hf329 k59.ltp
 have d345 : ∀ b, inBlk z325 b → ¬ inBlk v54 b := disNew hf329 h55.ltp
 have d346 : ∀ b, inBlk z325 b → ¬ inBlk v56 b := disNew hf329 h57.ltp
 have d347 : ∀ b, inBlk z325 b → ¬ inBlk v17 b := disNew hf329 (fun b hb => (h19.lt b hb).2)
 have gp1n : (G F w.heap.size (un (inBlk (PV p320)) (un (inBlk z324) (un (inBlk z325) (un (inBlk (PV p34)) (un (inBlk v54) (un (inBlk v56) (un (inBlk v17) nb)))))))) p1 := ⟨gp1.1, ((show ∀ b, b < w313.heap.size → ¬ (un (inBlk (PV p34)) (un (inBlk v54) (un (inBlk v56) (un (inBlk v17) nb)))) b → ¬ nb b ∧ ¬ (un (inBlk (PV p320)) (un (inBlk z324) (un (inBlk z325) (un (inBlk (PV p34)) (un (inBlk v54) (un (inBlk v56) (un (inBlk v17) nb))))))) b from fun b hb hs => ⟨fun x => x, fun h => un_el h (fun h => Nat.not_le_of_lt hb (hf327 b h)) (fun h => un_el h (fun h => Nat.not_le_of_lt hb (hf328 b h)) (fun h => un_el h (fun h => Nat.not_le_of_lt hb (hf329 b h)) (fun h => hs h)))⟩) _ k4.lt gp1.2).2⟩
 have k4 := k4.ch0 c319
 have gp1 := gp1n
 have h19 := h19.st c319 (fun _ _ x => x) (show ∀ b, b < w313.heap.size → ¬ (un (inBlk (PV p34)) (un (inBlk v54) (un (inBlk v56) (un (inBlk v17) nb)))) b → ¬ nb b ∧ ¬ (un (inBlk (PV p320)) (un (inBlk z324) (un (inBlk z325) (un (inBlk (PV p34)) (un (inBlk v54) (un (inBlk v56) (un (inBlk v17) nb))))))) b from fun b hb hs => ⟨fun x => x, fun h => un_el h (fun h => Nat.not_le_of_lt hb (hf327 b h)) (fun h => un_el h (fun h => Nat.not_le_of_lt hb (hf328 b h)) (fun h => un_el h (fun h => Nat.not_le_of_lt hb (hf329 b h)) (fun h => hs h)))⟩) (fun b h => (.inr (.inr (.inr (.inr (.inr (.inr (.inl h))))))))
 have h55 := h55.ch0 c319
 have h57 := h57.ch0 c319
 have k59 := k59.ch0 c319
 have c312 := c312.then0 c319
 refine rl_assign rfl rfl ?_
 refine RL.nil (thn_n (CW.seq (CW.region ?_)))
 refine rl_move rfl rfl ?_
 have hd348 : ∀ b, (un (inBlk (PV p34)) (un (inBlk v54) (inBlk v56))) b → ¬ (un (inBlk (PV p320)) (un (inBlk z324) (un (inBlk z325) (un (inBlk v17) nb)))) b := fun b h => un_el h (fun h => (fun b hb => fun h => un_el h (fun h => (disSym d334) b hb h) (fun h => un_el h (fun h => (disSym d339) b hb h) (fun h => un_el h (fun h => (disSym d344) b hb h) (fun h => un_el h (fun h => d174 b hb h) (fun h => h))))) b h) (fun h => un_el h (fun h => (fun b hb => fun h => un_el h (fun h => (disSym d335) b hb h) (fun h => un_el h (fun h => (disSym d340) b hb h) (fun h => un_el h (fun h => (disSym d345) b hb h) (fun h => un_el h (fun h => d176 b hb h) (fun h => h))))) b h) (fun h => (fun b hb => fun h => un_el h (fun h => (disSym d336) b hb h) (fun h => un_el h (fun h => (disSym d341) b hb h) (fun h => un_el h (fun h => (disSym d346) b hb h) (fun h => un_el h (fun h => d177 b hb h) (fun h => h))))) b h))
 have hS349 : (un (inBlk (PV p320)) (un (inBlk z324) (un (inBlk z325) (un (inBlk (PV p34)) (un (inBlk v54) (un (inBlk v56) (un (inBlk v17) nb))))))) = (un (inBlk (PV p34)) (un (inBlk v54) (un (inBlk v56) (un (inBlk (PV p320)) (un (inBlk z324) (un (inBlk z325) (un (inBlk v17) nb))))))) := funext fun b => propext ⟨fun h => un_el h (fun h => (.inr (.inr (.inr (.inl h))))) (fun h => un_el h (fun h => (.inr (.inr (.inr (.inr (.inl h)))))) (fun h => un_el h (fun h => (.inr (.inr (.inr (.inr (.inr (.inl h))))))) (fun h => un_el h (fun h => (.inl h)) (fun h => un_el h (fun h => (.inr (.inl h))) (fun h => un_el h (fun h => (.inr (.inr (.inl h)))) (fun h => un_el h (fun h => (.inr (.inr (.inr (.inr (.inr (.inr (.inl h)))))))) (fun h => False.elim h))))))), fun h => un_el h (fun h => (.inr (.inr (.inr (.inl h))))) (fun h => un_el h (fun h => (.inr (.inr (.inr (.inr (.inl h)))))) (fun h => un_el h (fun h => (.inr (.inr (.inr (.inr (.inr (.inl h))))))) (fun h => un_el h (fun h => (.inl h)) (fun h => un_el h (fun h => (.inr (.inl h))) (fun h => un_el h (fun h => (.inr (.inr (.inl h)))) (fun h => un_el h (fun h => (.inr (.inr (.inr (.inr (.inr (.inr (.inl h)))))))) (fun h => False.elim h)))))))⟩
 obtain ⟨y352, hy353, hS⟩ := bindS hS
 refine rl_callF rfl en14 rfl (ctr14 F w318 w.heap.size (un (inBlk (PV p320)) (un (inBlk z324) (un (inBlk z325) (un (inBlk v17) nb)))) c312.size (un_lt h321.ltp (un_lt h322.ltp (un_lt h323.ltp (un_lt (fun b hb => (h19.lt b hb).2) nbS)))) p34 v54 v56 u58 hd348 d172 d173 d175 x53 k59 h55 h57 y352 hy353) ?_
 rintro v354 w350 ⟨_, rfl, h355, c351⟩
 rw [← hS349] at h355
 have h355 := SlO.backR k_Key_pos h355 (un_lt h321.ltp (un_lt h322.ltp (un_lt h323.ltp (un_lt k59.ltp (un_lt h55.ltp (un_lt h57.ltp (un_lt (fun b hb => (h19.lt b hb).2) nbS))))))) c312.size
 have k4 := k4.ch0 c351
 have h19 := h19.ch0 c351
 have h55 := h55.ch0 c351
 have h57 := h57.ch0 c351
 have k59 := k59.ch0 c351
 have h321 := h321.ch0 c351
 have h322 := h322.ch0 c351
 have h323 := h323.ch0 c351
 have c312 := c312.then0 c351
 refine rl_move rfl rfl ?_
 have hd356 : ∀ b, (un (inBlk (PV p34)) (un (inBlk v54) (inBlk v56))) b → ¬ (un (inBlk (PV p320)) (un (inBlk z324) (un (inBlk z325) (un (inBlk v17) nb)))) b := fun b h => un_el h (fun h => (fun b hb => fun h => un_el h (fun h => (disSym d334) b hb h) (fun h => un_el h (fun h => (disSym d339) b hb h) (fun h => un_el h (fun h => (disSym d344) b hb h) (fun h => un_el h (fun h => d174 b hb h) (fun h => h))))) b h) (fun h => un_el h (fun h => (fun b hb => fun h => un_el h (fun h => (disSym d335) b hb h) (fun h => un_el h (fun h => (disSym d340) b hb h) (fun h => un_el h (fun h => (disSym d345) b hb h) (fun h => un_el h (fun h => d176 b hb h) (fun h => h))))) b h) (fun h => (fun b hb => fun h => un_el h (fun h => (disSym d336) b hb h) (fun h => un_el h (fun h => (disSym d341) b hb h) (fun h => un_el h (fun h => (disSym d346) b hb h) (fun h => un_el h (fun h => d177 b hb h) (fun h => h))))) b h))
 obtain ⟨y360, hy361⟩ : ∃ y, F12_Len x53 = y := ⟨_, rfl⟩
 have hS := ltS hy361 hS
 refine rl_callF rfl en12 rfl (ctr12 F w350 w.heap.size (un (inBlk (PV p320)) (un (inBlk z324) (un (inBlk z325) (un (inBlk v17) nb)))) c312.size (un_lt h321.ltp (un_lt h322.ltp (un_lt h323.ltp (un_lt (fun b hb => (h19.lt b hb).2) nbS)))) p34 v54 v56 u58 hd356 d172 d173 d175 x53 k59 h55 h57 y360 hy361) ?_
 rintro _ w358 ⟨rfl, c359⟩
 have k4 := k4.ch0 c359
 have h19 := h19.ch0 c359
 have h55 := h55.ch0 c359
 have h57 := h57.ch0 c359
 have k59 := k59.ch0 c359
 have h321 := h321.ch0 c359
 have h322 := h322.ch0 c359
 have h323 := h323.ch0 c359
 have h355 := slRep.ch k_Key_pos h355 c359
 have c312 := c312.then0 c359
 refine rl_assign rfl rfl ?_
 refine rl_assign rfl rfl ?_
 refine RL.nil (thn_n (CW.seq (CW.region ?_)))
 refine rl_move rfl rfl ?_
 refine rl_fieldAddr rfl fa34_1 rfl ?_
 refine rl_loadA (cs := (Key.enc a1.slice)) rfl Try.isAgg32 Try.sizeOf32 (k4.segAt 1 2) rfl rfl ?_
 refine rl_fieldAddr rfl fa34_2 rfl ?_
 refine rl_loadA (cs := (Key.enc a1.owner)) rfl Try.isAgg32 Try.sizeOf32 (k4.segAt 3 2) rfl rfl ?_
 have hd362 : ∀ b, (un (inBlk (PV p320)) (un (inBlk z324) (inBlk z325))) b → ¬ (un (inBlk (PV p34)) (un (inBlk v54) (un (inBlk v56) (un (inBlk v17) nb)))) b := fun b h => un_el h (fun h => (fun b hb => fun h => un_el h (fun h => d334 b hb h) (fun h => un_el h (fun h => d335 b hb h) (fun h => un_el h (fun h => d336 b hb h) (fun h => un_el h (fun h => d337 b hb h) (fun h => h))))) b h) (fun h => un_el h (fun h => (fun b hb => fun h => un_el h (fun h => d339 b hb h) (fun h => un_el h (fun h => d340 b hb h) (fun h => un_el h (fun h => d341 b hb h) (fun h => un_el h (fun h => d342 b hb h) (fun h => h))))) b h) (fun h => (fun b hb => fun h => un_el h (fun h => d344 b hb h) (fun h => un_el h (fun h => d345 b hb h) (fun h => un_el h (fun h => d346 b hb h) (fun h => un_el h (fun h => d347 b hb h) (fun h => h))))) b h))
 obtain ⟨y366, hy367, hS⟩ := bindS hS
 refine rl_callF rfl en8 rfl (ctr8 F w358 w.heap.size (un (inBlk (PV p34)) (un (inBlk v54) (un (inBlk v56) (un (inBlk v17) nb)))) c312.size (un_lt k59.ltp (un_lt h55.ltp (un_lt h57.ltp (un_lt (fun b hb => (h19.lt b hb).2) nbS)))) p320 z324 z325 u326 hd362 d330 d331 d332 X317 h321 h322 h323 a1.slice a1.owner y366 hy367) ?_
 rintro _ w364 ⟨z368, z369, u370, rfl, h371, h372, h373, hf374, hf375, d376, d377, d378, c365⟩
 have lo379 : ∀ b, inBlk z368 b → w.heap.size ≤ b := fun b h => (hf374 b h).elim (fun h => un_el h (fun h => lo333 b h) (fun h => un_el h (fun h => lo338 b h) (fun h => lo343 b h))) (Nat.le_trans c312.size)
 have d380 : ∀ b, inBlk z368 b → ¬ inBlk (PV p34) b := fun b h hu => (hf374 b h).elim (fun h => un_el h (fun h => d334 b h hu) (fun h => un_el h (fun h => d339 b h hu) (fun h => d344 b h hu))) (fun h => Nat.not_le_of_lt (k59.ltp b hu) h)
 have d381 : ∀ b, inBlk z368 b → ¬ inBlk v54 b := fun b h hu => (hf374 b h).elim (fun h => un_el h (fun h => d335 b h hu) (fun h => un_el h (fun h => d340 b h hu) (fun h => d345 b h hu))) (fun h => Nat.not_le_of_lt (h55.ltp b hu) h)
 have d382 : ∀ b, inBlk z368 b → ¬ inBlk v56 b := fun b h hu => (hf374 b h).elim (fun h => un_el h (fun h => d336 b h hu) (fun h => un_el h (fun h => d341 b h hu) (fun h => d346 b h hu))) (fun h => Nat.not_le_of_lt (h57.ltp b hu) h)
 have d383 : ∀ b, inBlk z368 b → ¬ inBlk v17 b := fun b h hu => (hf374 b h).elim (fun h => un_el h (fun h => d337 b h hu) (fun h => un_el h (fun h => d342 b h hu) (fun h => d347 b h hu))) (fun h => Nat.not_le_of_lt ((fun b hb => (h19.lt b hb).2) b hu) h)
 have lo384 : ∀ b, inBlk z369 b → w.heap.size ≤ b := fun b h => (hf375 b h).elim (fun h => un_el h (fun h => lo333 b h) (fun h => un_el h (fun h => lo338 b h) (fun h => lo343 b h))) (Nat.le_trans c312.size)
 have d385 : ∀ b, inBlk z369 b → ¬ inBlk (PV p34) b := fun b h hu => (hf375 b h).elim (fun h => un_el h (fun h => d334 b h hu) (fun h => un_el h (fun h => d339 b h hu) (fun h => d344 b h hu))) (fun h => Nat.not_le_of_lt (k59.ltp b hu) h)
 have d386 : ∀ b, inBlk z369 b → ¬ inBlk v54 b := fun b h hu => (hf375 b h).elim (fun h => un_el h (fun h => d335 b h hu) (fun h => un_el h (fun h => d340 b h hu) (fun h => d345 b h hu))) (fun h => Nat.not_le_of_lt (h55.ltp b hu) h)
 have d387 : ∀ b, inBlk z369 b → ¬ inBlk v56 b := fun b h hu => (hf375 b h).elim (fun h => un_el h (fun h => d336 b h hu) (fun h => un_el h (fun h => d341 b h hu) (fun h => d346 b h hu))) (fun h => Nat.not_le_of_lt (h57.ltp b hu) h)
 have d388 : ∀ b, inBlk z369 b → ¬ inBlk v17 b := fun b h hu => (hf375 b h).elim (fun h => un_el h (fun h => d337 b h hu) (fun h => un_el h (fun h => d342 b h hu) (fun h => d347 b h hu))) (fun h => Nat.not_le_of_lt ((fun b hb => (h19.lt b hb).2) b hu) h)
 have ha390 : ∀ b, b < w358.heap.size → ¬ (un (inBlk (PV p320)) (un (inBlk z324) (un (inBlk z325) (un (inBlk (PV p34)) (un (inBlk v54) (un (inBlk v56) (un (inBlk v17) nb))))))) b → ¬ (un (inBlk (PV p320)) (un (inBlk z324) (inBlk z325))) b ∧ ¬ (un (inBlk (PV p320)) (un (inBlk z368) (un (inBlk z369) (un (inBlk (PV p34)) (un (inBlk v54) (un (inBlk v56) (un (inBlk v17) nb))))))) b := fun b hb hs => ⟨fun h => un_el h (fun h => hs (.inl h)) (fun h => un_el h (fun h => hs (.inr (.inl h))) (fun h => hs (.inr (.inr (.inl h))))), fun h => un_el h (fun h => hs (.inl h)) (fun h => un_el h (fun h => (hf374 b h).elim (fun h => un_el h (fun h => hs (.inl h)) (fun h => un_el h (fun h => hs (.inr (.inl h))) (fun h => hs (.inr (.inr (.inl h)))))) (fun h => Nat.not_le_of_lt hb h)) (fun h => un_el h (fun h => (hf375 b h).elim (fun h => un_el h (fun h => hs (.inl h)) (fun h => un_el h (fun h => hs (.inr (.inl h))) (fun h => hs (.inr (.inr (.inl h)))))) (fun h => Nat.not_le_of_lt hb h)) (fun h => un_el h (fun h => hs (.inr (.inr (.inr (.inl h))))) (fun h => un_el h (fun h => hs (.inr (.inr (.inr (.inr (.inl h)))))) (fun h => un_el h (fun h => hs (.inr (.inr (.inr (.inr (.inr (.inl h))))))) (fun h => un_el h (fun h => hs (.inr (.inr (.inr (.inr (.inr (.inr (.inl h)))))))) (fun h => False.elim h)))))))⟩
 have k4 := k4.ch c365 (ha390 _ k4.lt gp1.2).1
 have h19 := h19.st c365 (fun b hb h => un_el h (fun h => (disSym d337) b hb h) (fun h => un_el h (fun h => (disSym d342) b hb h) (fun h => (disSym d347) b hb h))) ha390 (fun b h => (.inr (.inr (.inr (.inr (.inr (.inr (.inl h))))))))
 have h55 := h55.ch c365 ((fun b hb h => un_el h (fun h => (disSym d335) b hb h) (fun h => un_el h (fun h => (disSym d340) b hb h) (fun h => (disSym d345) b hb h))))
 have h57 := h57.ch c365 ((fun b hb h => un_el h (fun h => (disSym d336) b hb h) (fun h => un_el h (fun h => (disSym d341) b hb h) (fun h => (disSym d346) b hb h))))
 have k59 := k59.ch c365 ((fun b hb h => un_el h (fun h => (disSym d334) b hb h) (fun h => un_el h (fun h => (disSym d339) b hb h) (fun h => (disSym d344) b hb h))) _ rfl)
 have h355 := slRep.st k_Key_pos h355 c365 ha390
 have c312 := c312.then c365 (fun i hi h => un_el h (fun h => absurd (lo333 i h) (Nat.not_le_of_lt hi)) (fun h => un_el h (fun h => absurd (lo338 i h) (Nat.not_le_of_lt hi)) (fun h => absurd (lo343 i h) (Nat.not_le_of_lt hi))))
 refine RL.nil (thn_n (CW.seq (CW.region ?_)))
 refine rl_move rfl rfl ?_
 refine rl_fieldAddr rfl fa34_2 rfl ?_
 refine rl_loadA (cs := (Key.enc a1.owner)) rfl Try.isAgg32 Try.sizeOf32 (k4.segAt 3 2) rfl rfl ?_
 have hd391 : ∀ b, (un (inBlk (PV p320)) (un (inBlk z368) (inBlk z369))) b → ¬ (un (inBlk (PV p34)) (un (inBlk v54) (un (inBlk v56) (un (inBlk v17) nb)))) b := fun b h => un_el h (fun h => (fun b hb => fun h => un_el h (fun h => d334 b hb h) (fun h => un_el h (fun h => d335 b hb h) (fun h => un_el h (fun h => d336 b hb h) (fun h => un_el h (fun h => d337 b hb h) (fun h => h))))) b h) (fun h => un_el h (fun h => (fun b hb => fun h => un_el h (fun h => d380 b hb h) (fun h => un_el h (fun h => d381 b hb h) (fun h => un_el h (fun h => d382 b hb h) (fun h => un_el h (fun h => d383 b hb h) (fun h => h))))) b h) (fun h => (fun b hb => fun h => un_el h (fun h => d385 b hb h) (fun h => un_el h (fun h => d386 b hb h) (fun h => un_el h (fun h => d387 b hb h) (fun h => un_el h (fun h => d388 b hb h) (fun h => h))))) b h))
 obtain ⟨y395, hy396⟩ : ∃ y, F10_Drop y366.2.2 a1.owner = y := ⟨_, rfl⟩
 have hS := ltS hy396 hS
 refine rl_callF rfl en10 rfl (ctr10 F w364 w.heap.size (un (inBlk (PV p34)) (un (inBlk v54) (un (inBlk v56) (un (inBlk v17) nb)))) c312.size (un_lt k59.ltp (un_lt h55.ltp (un_lt h57.ltp (un_lt (fun b hb => (h19.lt b hb).2) nbS)))) p320 z368 z369 u370 hd391 d376 d377 d378 y366.2.2 h371 h372 h373 a1.owner y395 hy396) ?_
 rintro _ w393 ⟨z397, z398, u399, rfl, h400, h401, h402, hf403, hf404, d405, d406, d407, c394⟩
 have d409 : ∀ b, inBlk z397 b → ¬ inBlk (PV p34) b := fun b h hu => (hf403 b h).elim (fun h => un_el h (fun h => d334 b h hu) (fun h => un_el h (fun h => d380 b h hu) (fun h => d385 b h hu))) (fun h => Nat.not_le_of_lt (k59.ltp b hu) h)
 have d410 : ∀ b, inBlk z397 b → ¬ inBlk v54 b := fun b h hu => (hf403 b h).elim (fun h => un_el h (fun h => d335 b h hu) (fun h => un_el h (fun h => d381 b h hu) (fun h => d386 b h hu))) (fun h => Nat.not_le_of_lt (h55.ltp b hu) h)
 have d411 : ∀ b, inBlk z397 b → ¬ inBlk v56 b := fun b h hu => (hf403 b h).elim (fun h => un_el h (fun h => d336 b h hu) (fun h => un_el h (fun h => d382 b h hu) (fun h => d387 b h hu))) (fun h => Nat.not_le_of_lt (h57.ltp b hu) h)
 have d414 : ∀ b, inBlk z398 b → ¬ inBlk (PV p34) b := fun b h hu => (hf404 b h).elim (fun h => un_el h (fun h => d334 b h hu) (fun h => un_el h (fun h => d380 b h hu) (fun h => d385 b h hu))) (fun h => Nat.not_le_of_lt (k59.ltp b hu) h)
 have d415 : ∀ b, inBlk z398 b → ¬ inBlk v54 b := fun b h hu => (hf404 b h).elim (fun h => un_el h (fun h => d335 b h hu) (fun h => un_el h (fun h => d381 b h hu) (fun h => d386 b h hu))) (fun h => Nat.not_le_of_lt (h55.ltp b hu) h)
 have d416 : ∀ b, inBlk z398 b → ¬ inBlk v56 b := fun b h hu => (hf404 b h).elim (fun h => un_el h (fun h => d336 b h hu) (fun h => un_el h (fun h => d382 b h hu) (fun h => d387 b h hu))) (fun h => Nat.not_le_of_lt (h57.ltp b hu) h)
 have ha419 : ∀ b, b < w364.heap.size → ¬ (un (inBlk (PV p320)) (un (inBlk z368) (un (inBlk z369) (un (inBlk (PV p34)) (un (inBlk v54) (un (inBlk v56) (un (inBlk v17) nb))))))) b → ¬ (un (inBlk (PV p320)) (un (inBlk z368) (inBlk z369))) b ∧ ¬ (un (inBlk (PV p320)) (un (inBlk z397) (un (inBlk z398) (un (inBlk (PV p34)) (un (inBlk v54) (un (inBlk v56) (un (inBlk v17) nb))))))) b := fun b hb hs => ⟨fun h => un_el h (fun h => hs (.inl h)) (fun h => un_el h (fun h => hs (.inr (.inl h))) (fun h => hs (.inr (.inr (.inl h))))), fun h => un_el h (fun h => hs (.inl h)) (fun h => un_el h (fun h => (hf403 b h).elim (fun h => un_el h (fun h => hs (.inl h)) (fun h => un_el h (fun h => hs (.inr (.inl h))) (fun h => hs (.inr (.inr (.inl h)))))) (fun h => Nat.not_le_of_lt hb h)) (fun h => un_el h (fun h => (hf404 b h).elim (fun h => un_el h (fun h => hs (.inl h)) (fun h => un_el h (fun h => hs (.inr (.inl h))) (fun h => hs (.inr (.inr (.inl h)))))) (fun h => Nat.not_le_of_lt hb h)) (fun h => un_el h (fun h => hs (.inr (.inr (.inr (.inl h))))) (fun h => un_el h (fun h => hs (.inr (.inr (.inr (.inr (.inl h)))))) (fun h => un_el h (fun h => hs (.inr (.inr (.inr (.inr (.inr (.inl h))))))) (fun h => un_el h (fun h => hs (.inr (.inr (.inr (.inr (.inr (.inr (.inl h)))))))) (fun h => False.elim h)))))))⟩
 have h19 := h19.st c394 (fun b hb h => un_el h (fun h => (disSym d337) b hb h) (fun h => un_el h (fun h => (disSym d383) b hb h) (fun h => (disSym d388) b hb h))) ha419 (fun b h => (.inr (.inr (.inr (.inr (.inr (.inr (.inl h))))))))
 have h55 := h55.ch c394 ((fun b hb h => un_el h (fun h => (disSym d335) b hb h) (fun h => un_el h (fun h => (disSym d381) b hb h) (fun h => (disSym d386) b hb h))))
 have h57 := h57.ch c394 ((fun b hb h => un_el h (fun h => (disSym d336) b hb h) (fun h => un_el h (fun h => (disSym d382) b hb h) (fun h => (disSym d387) b hb h))))
 have k59 := k59.ch c394 ((fun b hb h => un_el h (fun h => (disSym d334) b hb h) (fun h => un_el h (fun h => (disSym d380) b hb h) (fun h => (disSym d385) b hb h))) _ rfl)
 have h355 := slRep.st k_Key_pos h355 c394 ha419
 have c312 := c312.then c394 (fun i hi h => un_el h (fun h => absurd (lo333 i h) (Nat.not_le_of_lt hi)) (fun h => un_el h (fun h => absurd (lo379 i h) (Nat.not_le_of_lt hi)) (fun h => absurd (lo384 i h) (Nat.not_le_of_lt hi))))
 refine RL.nil (thn_n (CW.seq (CW.region ?_)))
 refine rl_move rfl rfl ?_
 refine rl_move rfl rfl ?_
 refine rl_bin rfl rfl B.eql rfl ?_
 refine rl_move rfl rfl ?_
 obtain ⟨b422, hb423⟩ : ∃ v, ((decide (x171 = y360)) && (lt (F12_Len x53) fun y426 => decide (y426 = y360))) = v := ⟨_, rfl⟩
 have hS := ltS hb423 hS
 refine RL.join 5 109 (.bool b422) (fun w' => Ch nb w393 w') ?_ ?_
 · rcases Bool.eq_false_or_eq_true (decide (x171 = y360)) with hg421 | hg421
   ·
    have hs420 := and_t hg421 hb423
    have cs : Ch nb w393 w393 := Ch.refl
    refine RL.yes rfl rfl rfl hg421 ?_
    refine rl_move rfl rfl ?_
    refine RL.yes rfl rfl rfl hg421 ?_
    have hd425 : ∀ b, (un (inBlk (PV p34)) (un (inBlk v54) (inBlk v56))) b → ¬ (un (inBlk (PV p320)) (un (inBlk z397) (un (inBlk z398) (un (inBlk v17) nb)))) b := fun b h => un_el h (fun h => (fun b hb => fun h => un_el h (fun h => (disSym d334) b hb h) (fun h => un_el h (fun h => (disSym d409) b hb h) (fun h => un_el h (fun h => (disSym d414) b hb h) (fun h => un_el h (fun h => d174 b hb h) (fun h => h))))) b h) (fun h => un_el h (fun h => (fun b hb => fun h => un_el h (fun h => (disSym d335) b hb h) (fun h => un_el h (fun h => (disSym d410) b hb h) (fun h => un_el h (fun h => (disSym d415) b hb h) (fun h => un_el h (fun h => d176 b hb h) (fun h => h))))) b h) (fun h => (fun b hb => fun h => un_el h (fun h => (disSym d336) b hb h) (fun h => un_el h (fun h => (disSym d411) b hb h) (fun h => un_el h (fun h => (disSym d416) b hb h) (fun h => un_el h (fun h => d177 b hb h) (fun h => h))))) b h))
    obtain ⟨y429, hy430⟩ : ∃ y, F12_Len x53 = y := ⟨_, rfl⟩
    have hs420 := ltS hy430 hs420
    refine rl_callF rfl en12 rfl (ctr12 F w393 w.heap.size (un (inBlk (PV p320)) (un (inBlk z397) (un (inBlk z398) (un (inBlk v17) nb)))) c312.size (un_lt h400.ltp (un_lt h401.ltp (un_lt h402.ltp (un_lt (fun b hb => (h19.lt b hb).2) nbS)))) p34 v54 v56 u58 hd425 d172 d173 d175 x53 k59 h55 h57 y429 hy430) ?_
    rintro _ w427 ⟨rfl, c428⟩
    refine RL.yes rfl rfl rfl hg421 ?_
    refine rl_move rfl rfl ?_
    refine RL.yes rfl rfl rfl hg421 ?_
    refine rl_bin rfl rfl B.eql rfl ?_
    refine rl_pickT rfl hg421 rfl rfl ?_
    have cs := cs.then0 c428
    exact RL.nil ⟨Ext.bothEq (congrArg Value.bool hs420) (Ext.skip rfl (Ext.skip rfl (Ext.skip rfl (Ext.skip rfl (Ext.rfl'))))), cs⟩
   ·
    have hs420 := and_f hg421 hb423
    have cs : Ch nb w393 w393 := Ch.refl
    refine RL.no rfl rfl rfl hg421 rfl rfl ?_
    refine RL.no rfl rfl rfl hg421 rfl rfl ?_
    refine RL.no rfl rfl rfl hg421 rfl rfl ?_
    refine RL.no rfl rfl rfl hg421 rfl rfl ?_
    refine rl_pickF rfl hg421 rfl rfl ?_
    exact RL.nil ⟨Ext.bothEq (congrArg Value.bool hs420) (Ext.skip rfl (Ext.skip rfl (Ext.skip rfl (Ext.skip rfl (Ext.rfl'))))), cs⟩
 intro w424 c431
 have h19 := h19.ch0 c431
 have h55 := h55.ch0 c431
 have h57 := h57.ch0 c431
 have k59 := k59.ch0 c431
 have h355 := slRep.ch k_Key_pos h355 c431
 have h400 := h400.ch0 c431
 have h401 := h401.ch0 c431
 have h402 := h402.ch0 c431
 have c312 := c312.then0 c431
 refine rl_move rfl rfl ?_
 obtain ⟨b434, hb435, hS⟩ := bindS hS
 refine RL.join 5 115 (.bool b434) (fun w' => Ch nb w424 w') ?_ ?_
 · rcases Bool.eq_false_or_eq_true b422 with hg433 | hg433
   ·
    have hs432 := andO_t hg433 hb435
    have cs : Ch nb w424 w424 := Ch.refl
    refine RL.yes rfl rfl rfl hg433 ?_
    refine rl_move rfl rfl ?_
    refine RL.yes rfl rfl rfl hg433 ?_
    have hd437 : ∀ b, (un (inBlk (PV p34)) (un (inBlk v54) (inBlk v56))) b → ¬ (un (inBlk (PV p320)) (un (inBlk z397) (un (inBlk z398) (un (inBlk v17) nb)))) b := fun b h => un_el h (fun h => (fun b hb => fun h => un_el h (fun h => (disSym d334) b hb h) (fun h => un_el h (fun h => (disSym d409) b hb h) (fun h => un_el h (fun h => (disSym d414) b hb h) (fun h => un_el h (fun h => d174 b hb h) (fun h => h))))) b h) (fun h => un_el h (fun h => (fun b hb => fun h => un_el h (fun h => (disSym d335) b hb h) (fun h => un_el h (fun h => (disSym d410) b hb h) (fun h => un_el h (fun h => (disSym d415) b hb h) (fun h => un_el h (fun h => d176 b hb h) (fun h => h))))) b h) (fun h => (fun b hb => fun h => un_el h (fun h => (disSym d336) b hb h) (fun h => un_el h (fun h => (disSym d411) b hb h) (fun h => un_el h (fun h => (disSym d416) b hb h) (fun h => un_el h (fun h => d177 b hb h) (fun h => h))))) b h))
    have hS438 : (un (inBlk (PV p320)) (un (inBlk z397) (un (inBlk z398) (un (inBlk (PV p34)) (un (inBlk v54) (un (inBlk v56) (un (inBlk v17) nb))))))) = (un (inBlk (PV p34)) (un (inBlk v54) (un (inBlk v56) (un (inBlk (PV p320)) (un (inBlk z397) (un (inBlk z398) (un (inBlk v17) nb))))))) := funext fun b => propext ⟨fun h => un_el h (fun h => (.inr (.inr (.inr (.inl h))))) (fun h => un_el h (fun h => (.inr (.inr (.inr (.inr (.inl h)))))) (fun h => un_el h (fun h => (.inr (.inr (.inr (.inr (.inr (.inl h))))))) (fun h => un_el h (fun h => (.inl h)) (fun h => un_el h (fun h => (.inr (.inl h))) (fun h => un_el h (fun h => (.inr (.inr (.inl h)))) (fun h => un_el h (fun h => (.inr (.inr (.inr (.inr (.inr (.inr (.inl h)))))))) (fun h => False.elim h))))))), fun h => un_el h (fun h => (.inr (.inr (.inr (.inl h))))) (fun h => un_el h (fun h => (.inr (.inr (.inr (.inr (.inl h)))))) (fun h => un_el h (fun h => (.inr (.inr (.inr (.inr (.inr (.inl h))))))) (fun h => un_el h (fun h => (.inl h)) (fun h => un_el h (fun h => (.inr (.inl h))) (fun h => un_el h (fun h => (.inr (.inr (.inl h)))) (fun h => un_el h (fun h => (.inr (.inr (.inr (.inr (.inr (.inr (.inl h)))))))) (fun h => False.elim h)))))))⟩
    obtain ⟨y441, hy442, hs432⟩ := bindS hs432
    refine rl_callF rfl en14 rfl (ctr14 F w424 w.heap.size (un (inBlk (PV p320)) (un (inBlk z397) (un (inBlk z398) (un (inBlk v17) nb)))) c312.size (un_lt h400.ltp (un_lt h401.ltp (un_lt h402.ltp (un_lt (fun b hb => (h19.lt b hb).2) nbS)))) p34 v54 v56 u58 hd437 d172 d173 d175 x53 k59 h55 h57 y441 hy442) ?_
    rintro v443 w439 ⟨_, rfl, h444, c440⟩
    rw [← hS438] at h444
    have h444 := SlO.backR k_Key_pos h444 (un_lt h400.ltp (un_lt h401.ltp (un_lt h402.ltp (un_lt k59.ltp (un_lt h55.ltp (un_lt h57.ltp (un_lt (fun b hb => (h19.lt b hb).2) nbS))))))) c312.size
    have h355 := slRep.ch k_Key_pos h355 c440
    refine RL.yes rfl rfl rfl hg433 ?_
    refine rl_move rfl rfl ?_
    refine RL.yes rfl rfl rfl hg433 ?_
    obtain ⟨y447, hy448, hs432⟩ := bindS hs432
    refine rl_callF rfl en13 rfl (ctr13 (G F w.heap.size (un (inBlk (PV p320)) (un (inBlk z397) (un (inBlk z398) (un (inBlk (PV p34)) (un (inBlk v54) (un (inBlk v56) (un (inBlk v17) nb)))))))) w439 y441 v443 h444 y352 v354 h355 y447 hy448) ?_
    rintro _ w445 ⟨rfl, c446⟩
    refine rl_pickT rfl hg433 rfl rfl ?_
    have cs := cs.then0 c440
    have cs := cs.then0 c446
    exact RL.nil ⟨Ext.bothEq (congrArg Value.bool (Option.some.inj hs432)) (Ext.skip rfl (Ext.skip rfl (Ext.skip rfl (Ext.skip rfl (Ext.rfl'))))), cs⟩
   ·
    have hs432 := andO_f hg433 hb435
    have cs : Ch nb w424 w424 := Ch.refl
    refine RL.no rfl rfl rfl hg433 rfl rfl ?_
    refine RL.no rfl rfl rfl hg433 rfl rfl ?_
    refine RL.no rfl rfl rfl hg433 rfl rfl ?_
    refine RL.no rfl rfl rfl hg433 rfl rfl ?_
    refine rl_pickF rfl hg433 rfl rfl ?_
    exact RL.nil ⟨Ext.bothEq (congrArg Value.bool (Option.some.inj hs432)) (Ext.skip rfl (Ext.skip rfl (Ext.skip rfl (Ext.skip rfl (Ext.rfl'))))), cs⟩
 intro w436 c449
 have c312 := c312.then0 c449
 refine rl_assign rfl rfl ?_
 refine RL.nil (thn_n (CW.ret ?_))
 obtain rfl := Option.some.inj hS
 exact ret1 rfl ⟨rfl, c312⟩
end Go.Proofs.Ytkopifmkikaaiaa
