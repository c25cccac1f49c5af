/- The walks through the code: each call comes to its printed function. Written by a program of this session. -/
import Derived.Test.YtgcneihmkkldeaaGreatM
import Derived.Test.YtgcneihmkkldeaaGreatL
import Derived.Test.YtgcneihmkkldeaaGreatW2
namespace Go.Proofs.YtgcneihmkkldeaaGreat
open Go K
set_option linter.unusedVariables false
/-- lb/pick.Candidates -/
theorem ctr48 (F : Nat → Prop) (w : World) (a0 : (List Slice)) (av0 : Value) (ah0 : slRep k_Slice F w a0 av0) (a1 : Want) (r : (List Candidate)) (hs : F48_Candidat a0 a1 = some r) :
    Ret Tryz.prog 48 #[av0, (Value.agg (Want.enc a1).toArray)] w fun v w' => ∃ (y0 : Value), v = y0 ∧ SlO k_Candidate 129 F w.heap.size (inBlk y0) w' r y0 ∧ Ch nb w w' := by
 have hS := hs
 have c0 : Ch nb w w := Ch.refl
 have ah0 := slRep.enter k_Slice_pos ah0
 refine Ret.of (n := 56) (args := [_, _]) (rs := [.tmp 4]) Tryz.func48 rfl rfl rfl rfl ?_
 refine CW.seq (CW.region ?_)
 refine rl_boxA (cs := (Want.enc a1)) rfl rfl ?_
 intro p1 w2 n3 k4
 have gp1 : (G F w.heap.size nb) p1 := ⟨.inr (by rw [n3.eq]; exact c0.size), fun h => absurd (nbS _ h) (by rw [n3.eq]; exact Nat.lt_irrefl _)⟩
 have ah0 := slRep.ch k_Slice_pos ah0 n3.ch
 have c0 := c0.then0 n3.ch
 refine rl_assign rfl rfl ?_
 refine RL.nil (thn_n (CW.seq (CW.region ?_)))
 refine rl_alloc [(Value.slice none 0 0)] Tryz.zeroValue125 rfl rfl ?_
 intro p5 w6 n7 k8
 have lo9 : ∀ b, inBlk (PV p5) b → w.heap.size ≤ b := fun b h => Nat.le_trans c0.size (n7.fresh b h)
 have ah0 := slRep.st k_Slice_pos ah0 n7.ch (admNew n7.fresh (fun _ x => x))
 have gp1n : (G F w.heap.size (un (inBlk (PV p5)) nb)) p1 := ⟨gp1.1, ((admNew n7.fresh (fun _ x => x)) _ k4.lt gp1.2).2⟩
 have k4 := k4.ch0 n7.ch
 have gp1 := gp1n
 have c0 := c0.then0 n7.ch
 refine RL.nil (thn_n (CW.seq (CW.region ?_)))
 refine rl_makeMap (ek := (fun x => Value.agg (Point.enc x).toArray)) (ev := (fun x => Value.agg (St85.enc x).toArray)) rfl ?_
 intro p10 w11 n12 k13
 have lo14 : ∀ b, inBlk (Value.map (some p10)) b → w.heap.size ≤ b := fun b h => Nat.le_trans c0.size (n12.freshM b h)
 have d15 : ∀ b, inBlk (Value.map (some p10)) b → ¬ inBlk (PV p5) b := disNew n12.freshM k8.ltp
 have ah0 := slRep.st k_Slice_pos ah0 n12.ch (admNew n12.freshM (fun _ x => x))
 have gp1n : (G F w.heap.size (un (inBlk (Value.map (some p10))) (un (inBlk (PV p5)) nb))) p1 := ⟨gp1.1, ((admNew n12.freshM (fun _ x => x)) _ k4.lt gp1.2).2⟩
 have k4 := k4.ch0 n12.ch
 have gp1 := gp1n
 have k8 := k8.ch0 n12.ch
 have c0 := c0.then0 n12.ch
 refine rl_alloc [(Value.map none)] Tryz.zeroValue150 rfl rfl ?_
 intro p16 w17 n18 k19
 have lo20 : ∀ b, inBlk (PV p16) b → w.heap.size ≤ b := fun b h => Nat.le_trans c0.size (n18.fresh b h)
 have d21 : ∀ b, inBlk (PV p16) b → ¬ inBlk (Value.map (some p10)) b := disNew n18.fresh k13.ltp
 have d22 : ∀ b, inBlk (PV p16) b → ¬ inBlk (PV p5) b := disNew n18.fresh k8.ltp
 have ah0 := slRep.st k_Slice_pos ah0 n18.ch (admNew n18.fresh (fun _ x => x))
 have gp1n : (G F w.heap.size (un (inBlk (PV p16)) (un (inBlk (Value.map (some p10))) (un (inBlk (PV p5)) nb)))) p1 := ⟨gp1.1, ((admNew n18.fresh (fun _ x => x)) _ k4.lt gp1.2).2⟩
 have k4 := k4.ch0 n18.ch
 have gp1 := gp1n
 have k8 := k8.ch0 n18.ch
 have k13 := k13.ch0 n18.ch
 have c0 := c0.then0 n18.ch
 refine rl_storeS (u := (Value.map (some p10))) rfl rfl k13.one Tryz.sizeOf150 k19 rfl ?_
 intro w23 s25 c24 k26
 have ad27 : ∀ b, b < w17.heap.size → ¬ (un (inBlk (PV p16)) (un (inBlk (Value.map (some p10))) (un (inBlk (PV p5)) nb))) b → ¬ (inBlk (PV p16)) b ∧ ¬ (un (inBlk (PV p16)) (un (inBlk (Value.map (some p10))) (un (inBlk (PV p5)) nb))) b := fun b _ hs => ⟨fun h => hs (.inl h), hs⟩
 have ah0 := slRep.st k_Slice_pos ah0 c24 ad27
 have k4 := k4.ch c24 (ad27 _ k4.lt gp1.2).1
 have k8 := k8.ch c24 ((fun b hb h => (disSym d22) b hb h) _ rfl)
 have k13 := k13.ch c24 ((fun b hb h => (disSym d21) b hb h))
 have c0 := c0.then c24 (fun i hi h => absurd (lo20 i h) (Nat.not_le_of_lt hi))
 refine RL.nil (thn_n (CW.seq (CW.region ?_)))
 refine rl_makeFunc rfl rfl ?_
 refine rl_assign rfl rfl ?_
 refine RL.nil (thn_n (CW.seq ?_))
 refine CW.seq (CW.region ?_)
 refine rl_move rfl rfl ?_
 refine rl_lenR rfl ah0 Tryz.underlying29 rfl ?_
 refine rl_move rfl rfl ?_
 refine RL.nil (thn_n ?_)
 have d29 : ∀ b, inBlk (Value.slice none 0 0) b → ¬ inBlk (PV p16) b := fun _ h => h.elim
 have d30 : ∀ b, inBlk (Value.slice none 0 0) b → ¬ inBlk (Value.map (some p10)) b := fun _ h => h.elim
 have d31 : ∀ b, inBlk (Value.slice none 0 0) b → ¬ inBlk (PV p5) b := fun _ h => h.elim
 have crf : Ch nb w23 w23 := Ch.refl
 have ah0 := slRep.st k_Slice_pos ah0 crf admNil
 have gp1n : (G F w.heap.size (un (inBlk (Value.slice none 0 0)) (un (inBlk (PV p16)) (un (inBlk (Value.map (some p10))) (un (inBlk (PV p5)) nb))))) p1 := ⟨gp1.1, (admNil _ k4.lt gp1.2).2⟩
 have k4 := k4.ch0 crf
 have gp1 := gp1n
 have k8 := k8.ch0 crf
 have k13 := k13.ch0 crf
 have k26 := k26.ch0 crf
 have c0 := c0.then0 crf
 have h28 : SlO k_Candidate 129 F w.heap.size (un (inBlk (Value.slice none 0 0)) (un (inBlk (PV p16)) (un (inBlk (Value.map (some p10))) (un (inBlk (PV p5)) nb)))) w23 ([] : List Candidate) (.slice none 0 0) := SlO.nil
 obtain ⟨o54, ho55, hS⟩ := bindS hS
 refine CW.cutB (fun E' w' => ∃ (x32 : (List Candidate)) (v33 : Value) (x35 : (List (Point × St85))) (v36 : Value), Sub [(5, (PV p5))] E' ∧ Ch nb w w' ∧ (x32, x35) = o54 ∧ slRep k_Slice (G F w.heap.size (un (inBlk v33) (un (inBlk (PV p16)) (un (inBlk v36) (un (inBlk (PV p5)) nb))))) w' a0 av0 ∧ Blk w' p1 92 (Want.enc a1) ∧ SlO k_Candidate 129 F w.heap.size (un (inBlk v33) (un (inBlk (PV p16)) (un (inBlk v36) (un (inBlk (PV p5)) nb)))) w' x32 v33 ∧ Mp (fun x => Value.agg (Point.enc x).toArray) (fun x => Value.agg (St85.enc x).toArray) w' x35 v36 ∧ Blk w' p5 125 [v33] ∧ Blk w' p16 150 [v36] ∧ (G F w.heap.size (un (inBlk v33) (un (inBlk (PV p16)) (un (inBlk v36) (un (inBlk (PV p5)) nb))))) p1 ∧ (∀ b, inBlk v33 b → ¬ inBlk (PV p16) b) ∧ (∀ b, inBlk v33 b → ¬ inBlk v36 b) ∧ (∀ b, inBlk v33 b → ¬ inBlk (PV p5) b) ∧ (∀ b, inBlk (PV p16) b → ¬ inBlk v36 b) ∧ (∀ b, inBlk (PV p16) b → ¬ inBlk (PV p5) b) ∧ (∀ b, inBlk v36 b → ¬ inBlk (PV p5) b) ∧ (∀ b, inBlk v36 b → w.heap.size ≤ b)) ?_ ?_
 ·
  refine CW.loopS [(3, (PV p1)), (5, (PV p5)), (7, (Value.func (.func 71) #[] [(PV p16), (PV p5)].toArray)), (16, av0), (17, (Value.int .i64 ((a0.length : Nat) : Int))), (18, (Value.int .i64 ((0 : Nat) : Int)))] ⟨rfl, rfl, rfl, rfl, rfl, rfl, trivial⟩ a0.length (fun m E w' => ∃ (rest47 : List Slice) (i48 : Nat) (x32 : (List Candidate)) (v33 : Value) (x35 : (List (Point × St85))) (v36 : Value), m = rest47.length ∧ E = [(3, (PV p1)), (5, (PV p5)), (7, (Value.func (.func 71) #[] [(PV p16), (PV p5)].toArray)), (16, av0), (17, (Value.int .i64 ((a0.length : Nat) : Int))), (18, (Value.int .i64 ((i48 : Nat) : Int)))] ∧ Ch nb w w' ∧ At a0 i48 rest47 ∧ runAO (F48_Candidat_b1 a1) rest47 (x32, x35) = some o54 ∧ slRep k_Slice (G F w.heap.size (un (inBlk v33) (un (inBlk (PV p16)) (un (inBlk v36) (un (inBlk (PV p5)) nb))))) w' a0 av0 ∧ Blk w' p1 92 (Want.enc a1) ∧ SlO k_Candidate 129 F w.heap.size (un (inBlk v33) (un (inBlk (PV p16)) (un (inBlk v36) (un (inBlk (PV p5)) nb)))) w' x32 v33 ∧ Mp (fun x => Value.agg (Point.enc x).toArray) (fun x => Value.agg (St85.enc x).toArray) w' x35 v36 ∧ Blk w' p5 125 [v33] ∧ Blk w' p16 150 [v36] ∧ (G F w.heap.size (un (inBlk v33) (un (inBlk (PV p16)) (un (inBlk v36) (un (inBlk (PV p5)) nb))))) p1 ∧ (∀ b, inBlk v33 b → ¬ inBlk (PV p16) b) ∧ (∀ b, inBlk v33 b → ¬ inBlk v36 b) ∧ (∀ b, inBlk v33 b → ¬ inBlk (PV p5) b) ∧ (∀ b, inBlk (PV p16) b → ¬ inBlk v36 b) ∧ (∀ b, inBlk (PV p16) b → ¬ inBlk (PV p5) b) ∧ (∀ b, inBlk v36 b → ¬ inBlk (PV p5) b) ∧ (∀ b, inBlk v36 b → w.heap.size ≤ b))
      ⟨a0, 0, ([] : List Candidate), (Value.slice none 0 0), ([] : (List (Point × St85))), (Value.map (some p10)), rfl, rfl, c0, At.start, ho55, ah0, k4, h28, k13, k8, k26, gp1, d29, d30, d31, d21, d22, d15, lo14⟩ ?_
  rintro _ _ w60 ⟨rest47, i48, x32, v33, x35, v36, rfl, rfl, c59, hat50, hL49, ah0, k4, h34, h37, k38, k39, gp1, d41, d42, d43, d44, d45, d46, lo40⟩
  refine CW.seq (CW.region ?_)
  refine rl_bin rfl rfl B.lss rfl ?_
  refine RL.nil (thn_n ?_)
  refine CW.seq ?_
  refine CW.cond (t := decide (((i48 : Nat) : Int) < ((a0.length : Nat) : Int))) rfl (fun q62 => ?_) (fun q62 => ?_)
  ·
   obtain ⟨x56, rest63, rfl⟩ := hat50.cons q62
   obtain ⟨q51, hq52⟩ := runAO_some hL49
   have hb53 := hq52
   refine CW.skip (thn_n ?_)
   refine CW.seq ?_
   refine CW.block ?_
   refine CW.seq (CW.region ?_)
   refine rl_ixR rfl ah0 rfl hat50.get Tryz.underlying29 Tryz.sizeOf81 rfl ?_
   intro p64 o65 cs66 hr67 hs68 hg69
   obtain ⟨z70, z71, rfl, h72, h73⟩ := hr67
   refine rl_loadA (cs := (Slice.c x56 z70 z71)) rfl Tryz.isAgg81 Tryz.sizeOf81 (hs68) rfl rfl ?_
   refine rl_alloc (Slice.c Slice.z (Value.slice none 0 0) (Value.slice none 0 0)) Tryz.zeroValue81 rfl rfl ?_
   intro p74 w75 n76 k77
   have lo78 : ∀ b, inBlk (PV p74) b → w.heap.size ≤ b := fun b h => Nat.le_trans c59.size (n76.fresh b h)
   have d79 : ∀ b, inBlk (PV p74) b → ¬ inBlk v33 b := disNew n76.fresh (fun b hb => (h34.lt b hb).2)
   have d80 : ∀ b, inBlk (PV p74) b → ¬ inBlk (PV p16) b := disNew n76.fresh k39.ltp
   have d81 : ∀ b, inBlk (PV p74) b → ¬ inBlk v36 b := disNew n76.fresh h37.ltp
   have d82 : ∀ b, inBlk (PV p74) b → ¬ inBlk (PV p5) b := disNew n76.fresh k38.ltp
   have ah0 := slRep.st k_Slice_pos ah0 n76.ch (admNew n76.fresh (fun _ x => x))
   have gp1n : (G F w.heap.size (un (inBlk (PV p74)) (un (inBlk v33) (un (inBlk (PV p16)) (un (inBlk v36) (un (inBlk (PV p5)) nb)))))) p1 := ⟨gp1.1, ((admNew n76.fresh (fun _ x => x)) _ k4.lt gp1.2).2⟩
   have k4 := k4.ch0 n76.ch
   have gp1 := gp1n
   have h34 := h34.st n76.ch (fun _ _ x => x) (admNew n76.fresh (fun _ x => x)) (fun b h => (.inr (.inl h)))
   have h37 := h37.ch0 n76.ch
   have k38 := k38.ch0 n76.ch
   have k39 := k39.ch0 n76.ch
   have h72 := slRep.st k_Port_pos h72 n76.ch (admNew n76.fresh (fun _ x => x))
   have h73 := slRep.st k_Endpoint_pos h73 n76.ch (admNew n76.fresh (fun _ x => x))
   have c59 := c59.then0 n76.ch
   refine rl_storeA (vs := (Slice.c x56 z70 z71)) rfl rfl (Kd.one _ (show k_Slice.rep (G F w.heap.size (un (inBlk (PV p74)) (un (inBlk v33) (un (inBlk (PV p16)) (un (inBlk v36) (un (inBlk (PV p5)) nb)))))) w75 x56 (Slice.c x56 z70 z71) from ⟨z70, z71, rfl, h72, h73⟩)) Tryz.sizeOf81 rfl k77 rfl ?_
   intro w83 s85 c84 k86
   have ad87 : ∀ b, b < w75.heap.size → ¬ (un (inBlk (PV p74)) (un (inBlk v33) (un (inBlk (PV p16)) (un (inBlk v36) (un (inBlk (PV p5)) nb))))) b → ¬ (inBlk (PV p74)) b ∧ ¬ (un (inBlk (PV p74)) (un (inBlk v33) (un (inBlk (PV p16)) (un (inBlk v36) (un (inBlk (PV p5)) nb))))) b := fun b _ hs => ⟨fun h => hs (.inl h), hs⟩
   have ah0 := slRep.st k_Slice_pos ah0 c84 ad87
   have k4 := k4.ch c84 (ad87 _ k4.lt gp1.2).1
   have h34 := h34.st c84 (fun b hb h => (disSym d79) b hb h) ad87 (fun b h => (.inr (.inl h)))
   have h37 := h37.ch c84 ((fun b hb h => (disSym d81) b hb h))
   have k38 := k38.ch c84 ((fun b hb h => (disSym d82) b hb h) _ rfl)
   have k39 := k39.ch c84 ((fun b hb h => (disSym d80) b hb h) _ rfl)
   have h72 := slRep.st k_Port_pos h72 c84 ad87
   have h73 := slRep.st k_Endpoint_pos h73 c84 ad87
   have c59 := c59.then c84 (fun i hi h => absurd (lo78 i h) (Nat.not_le_of_lt hi))
   refine RL.nil (thn_n (CW.seq ?_))
   refine CW.seq (CW.region ?_)
   refine rl_fieldAddr rfl fa81_2 rfl ?_
   refine rl_loadS (v := (Value.bool x56.six)) rfl Tryz.isAgg4 (k86.cell rfl) rfl ?_
   refine rl_fieldAddr rfl fa92_2 rfl ?_
   refine rl_loadS (v := (Value.bool a1.six)) rfl Tryz.isAgg4 (k4.cell rfl) rfl ?_
   refine rl_bin rfl rfl (B.neqB Tryz.underlying4) rfl ?_
   refine RL.nil (thn_n ?_)
   refine CW.cond (t := !(x56.six == a1.six)) rfl (fun q88 => ?_) (fun q88 => ?_)
   ·
    have hb53 := ifT q88 hb53
    refine CW.exit ?_
    refine thn_exit ?_
    refine inB_hit ?_
    refine thn_n (CW.region ?_)
    refine rl_inc rfl hat50.lt ah0.big rfl ?_
    refine rl_move rfl rfl ?_
    refine RL.nil (thn_n ?_)
    have ad89 : ∀ b, b < w83.heap.size → ¬ (un (inBlk (PV p74)) (un (inBlk v33) (un (inBlk (PV p16)) (un (inBlk v36) (un (inBlk (PV p5)) nb))))) b → ¬ nb b ∧ ¬ (un (inBlk v33) (un (inBlk (PV p16)) (un (inBlk v36) (un (inBlk (PV p5)) nb)))) b := fun b _ hs => ⟨fun x => x, fun h => hs (un_el h (fun h => (.inr (.inl h))) (fun h => un_el h (fun h => (.inr (.inr (.inl h)))) (fun h => un_el h (fun h => (.inr (.inr (.inr (.inl h))))) (fun h => un_el h (fun h => (.inr (.inr (.inr (.inr (.inl h)))))) (fun h => False.elim h)))))⟩
    have crf : Ch nb w83 w83 := Ch.refl
    have ah0 := slRep.st k_Slice_pos ah0 crf ad89
    have gp1n : (G F w.heap.size (un (inBlk v33) (un (inBlk (PV p16)) (un (inBlk v36) (un (inBlk (PV p5)) nb))))) p1 := ⟨gp1.1, (ad89 _ k4.lt gp1.2).2⟩
    have k4 := k4.ch0 crf
    have gp1 := gp1n
    have h34 := h34.st crf (fun _ _ x => x) ad89 (fun b h => (.inl h))
    have h37 := h37.ch0 crf
    have k38 := k38.ch0 crf
    have k39 := k39.ch0 crf
    have c59 := c59.then0 crf
    have hLn := runAO_next hL49 hq52 hb53
    exact ⟨rest63.length, Nat.lt_succ_self _, [(3, (PV p1)), (5, (PV p5)), (7, (Value.func (.func 71) #[] [(PV p16), (PV p5)].toArray)), (16, av0), (17, (Value.int .i64 ((a0.length : Nat) : Int))), (18, (Value.int .i64 ((i48 + 1 : Nat) : Int)))], ⟨rfl, rfl, rfl, rfl, rfl, rfl, trivial⟩, ⟨rest63, i48 + 1, x32, v33, x35, v36, rfl, rfl, c59, hat50.next, hLn, ah0, k4, h34, h37, k38, k39, gp1, d41, d42, d43, d44, d45, d46, lo40⟩⟩
   have hb53 := ifF q88 hb53
   refine CW.skip ?_
   refine thn_n (CW.seq (CW.region ?_))
   refine rl_fieldAddr rfl fa81_3 rfl ?_
   refine rl_loadS (v := z70) rfl Tryz.isAgg26 (k86.cell rfl) rfl ?_
   refine rl_lenR rfl h72 Tryz.underlying26 rfl ?_
   refine rl_move rfl rfl ?_
   refine RL.nil (thn_n ?_)
   obtain ⟨o116, ho117, hb53⟩ := bindS hb53
   refine CW.cutB (fun E' w' => ∃ (x90 : (List Candidate)) (v91 : Value) (x93 : (List (Point × St85))) (v94 : Value), Sub [(3, (PV p1)), (5, (PV p5)), (7, (Value.func (.func 71) #[] [(PV p16), (PV p5)].toArray)), (16, av0), (17, (Value.int .i64 ((a0.length : Nat) : Int))), (18, (Value.int .i64 ((i48 : Nat) : Int)))] E' ∧ Ch nb w w' ∧ (x90, x93) = o116 ∧ slRep k_Slice (G F w.heap.size (un (inBlk (PV p74)) (un (inBlk v91) (un (inBlk (PV p16)) (un (inBlk v94) (un (inBlk (PV p5)) nb)))))) w' a0 av0 ∧ Blk w' p1 92 (Want.enc a1) ∧ slRep k_Port (G F w.heap.size (un (inBlk (PV p74)) (un (inBlk v91) (un (inBlk (PV p16)) (un (inBlk v94) (un (inBlk (PV p5)) nb)))))) w' x56.ports z70 ∧ slRep k_Endpoint (G F w.heap.size (un (inBlk (PV p74)) (un (inBlk v91) (un (inBlk (PV p16)) (un (inBlk v94) (un (inBlk (PV p5)) nb)))))) w' x56.endpoints z71 ∧ Blk w' p74 81 (Slice.c x56 z70 z71) ∧ SlO k_Candidate 129 F w.heap.size (un (inBlk (PV p74)) (un (inBlk v91) (un (inBlk (PV p16)) (un (inBlk v94) (un (inBlk (PV p5)) nb))))) w' x90 v91 ∧ Mp (fun x => Value.agg (Point.enc x).toArray) (fun x => Value.agg (St85.enc x).toArray) w' x93 v94 ∧ Blk w' p5 125 [v91] ∧ Blk w' p16 150 [v94] ∧ (G F w.heap.size (un (inBlk (PV p74)) (un (inBlk v91) (un (inBlk (PV p16)) (un (inBlk v94) (un (inBlk (PV p5)) nb)))))) p1 ∧ (∀ b, inBlk (PV p74) b → ¬ inBlk v91 b) ∧ (∀ b, inBlk (PV p74) b → ¬ inBlk (PV p16) b) ∧ (∀ b, inBlk (PV p74) b → ¬ inBlk v94 b) ∧ (∀ b, inBlk (PV p74) b → ¬ inBlk (PV p5) b) ∧ (∀ b, inBlk v91 b → ¬ inBlk (PV p16) b) ∧ (∀ b, inBlk v91 b → ¬ inBlk v94 b) ∧ (∀ b, inBlk v91 b → ¬ inBlk (PV p5) b) ∧ (∀ b, inBlk (PV p16) b → ¬ inBlk v94 b) ∧ (∀ b, inBlk (PV p16) b → ¬ inBlk (PV p5) b) ∧ (∀ b, inBlk v94 b → ¬ inBlk (PV p5) b) ∧ (∀ b, inBlk v94 b → w.heap.size ≤ b)) ?_ ?_
   ·
    refine CW.loopS [(3, (PV p1)), (5, (PV p5)), (7, (Value.func (.func 71) #[] [(PV p16), (PV p5)].toArray)), (9, (PV p74)), (16, av0), (17, (Value.int .i64 ((a0.length : Nat) : Int))), (18, (Value.int .i64 ((i48 : Nat) : Int))), (28, z70), (29, (Value.int .i64 ((x56.ports.length : Nat) : Int))), (30, (Value.int .i64 ((0 : Nat) : Int)))] ⟨rfl, rfl, rfl, rfl, rfl, rfl, rfl, rfl, rfl, rfl, trivial⟩ x56.ports.length (fun m E w' => ∃ (rest109 : List Port) (i110 : Nat) (x90 : (List Candidate)) (v91 : Value) (x93 : (List (Point × St85))) (v94 : Value), m = rest109.length ∧ E = [(3, (PV p1)), (5, (PV p5)), (7, (Value.func (.func 71) #[] [(PV p16), (PV p5)].toArray)), (9, (PV p74)), (16, av0), (17, (Value.int .i64 ((a0.length : Nat) : Int))), (18, (Value.int .i64 ((i48 : Nat) : Int))), (28, z70), (29, (Value.int .i64 ((x56.ports.length : Nat) : Int))), (30, (Value.int .i64 ((i110 : Nat) : Int)))] ∧ Ch nb w w' ∧ At x56.ports i110 rest109 ∧ runAO (F48_Candidat_b2 a1 x56) rest109 (x90, x93) = some o116 ∧ slRep k_Slice (G F w.heap.size (un (inBlk (PV p74)) (un (inBlk v91) (un (inBlk (PV p16)) (un (inBlk v94) (un (inBlk (PV p5)) nb)))))) w' a0 av0 ∧ Blk w' p1 92 (Want.enc a1) ∧ slRep k_Port (G F w.heap.size (un (inBlk (PV p74)) (un (inBlk v91) (un (inBlk (PV p16)) (un (inBlk v94) (un (inBlk (PV p5)) nb)))))) w' x56.ports z70 ∧ slRep k_Endpoint (G F w.heap.size (un (inBlk (PV p74)) (un (inBlk v91) (un (inBlk (PV p16)) (un (inBlk v94) (un (inBlk (PV p5)) nb)))))) w' x56.endpoints z71 ∧ Blk w' p74 81 (Slice.c x56 z70 z71) ∧ SlO k_Candidate 129 F w.heap.size (un (inBlk (PV p74)) (un (inBlk v91) (un (inBlk (PV p16)) (un (inBlk v94) (un (inBlk (PV p5)) nb))))) w' x90 v91 ∧ Mp (fun x => Value.agg (Point.enc x).toArray) (fun x => Value.agg (St85.enc x).toArray) w' x93 v94 ∧ Blk w' p5 125 [v91] ∧ Blk w' p16 150 [v94] ∧ (G F w.heap.size (un (inBlk (PV p74)) (un (inBlk v91) (un (inBlk (PV p16)) (un (inBlk v94) (un (inBlk (PV p5)) nb)))))) p1 ∧ (∀ b, inBlk (PV p74) b → ¬ inBlk v91 b) ∧ (∀ b, inBlk (PV p74) b → ¬ inBlk (PV p16) b) ∧ (∀ b, inBlk (PV p74) b → ¬ inBlk v94 b) ∧ (∀ b, inBlk (PV p74) b → ¬ inBlk (PV p5) b) ∧ (∀ b, inBlk v91 b → ¬ inBlk (PV p16) b) ∧ (∀ b, inBlk v91 b → ¬ inBlk v94 b) ∧ (∀ b, inBlk v91 b → ¬ inBlk (PV p5) b) ∧ (∀ b, inBlk (PV p16) b → ¬ inBlk v94 b) ∧ (∀ b, inBlk (PV p16) b → ¬ inBlk (PV p5) b) ∧ (∀ b, inBlk v94 b → ¬ inBlk (PV p5) b) ∧ (∀ b, inBlk v94 b → w.heap.size ≤ b))
        ⟨x56.ports, 0, x32, v33, x35, v36, rfl, rfl, c59, At.start, ho117, ah0, k4, h72, h73, k86, h34, h37, k38, k39, gp1, d79, d80, d81, d82, d41, d42, d43, d44, d45, d46, lo40⟩ ?_
    rintro _ _ w122 ⟨rest109, i110, x90, v91, x93, v94, rfl, rfl, c121, hat112, hL111, ah0, k4, h72, h73, k86, h92, h95, k96, k97, gp1, d99, d100, d101, d102, d103, d104, d105, d106, d107, d108, lo98⟩
    refine CW.seq (CW.region ?_)
    refine rl_bin rfl rfl B.lss rfl ?_
    refine RL.nil (thn_n ?_)
    refine CW.seq ?_
    refine CW.cond (t := decide (((i110 : Nat) : Int) < ((x56.ports.length : Nat) : Int))) rfl (fun q124 => ?_) (fun q124 => ?_)
    ·
     obtain ⟨x118, rest125, rfl⟩ := hat112.cons q124
     obtain ⟨q113, hq114⟩ := runAO_some hL111
     have hb115 := hq114
     refine CW.skip (thn_n ?_)
     refine CW.seq ?_
     refine CW.block ?_
     refine CW.seq (CW.region ?_)
     refine rl_ixR rfl h72 rfl hat112.get Tryz.underlying26 Tryz.sizeOf78 rfl ?_
     intro p126 o127 cs128 hr129 hs130 hg131
     obtain rfl := hr129
     refine rl_loadA (cs := (Port.enc x118)) rfl Tryz.isAgg78 Tryz.sizeOf78 (hs130) rfl rfl ?_
     refine rl_alloc (Port.enc Port.z) Tryz.zeroValue78 rfl rfl ?_
     intro p132 w133 n134 k135
     have lo136 : ∀ b, inBlk (PV p132) b → w.heap.size ≤ b := fun b h => Nat.le_trans c121.size (n134.fresh b h)
     have d137 : ∀ b, inBlk (PV p132) b → ¬ inBlk (PV p74) b := disNew n134.fresh k86.ltp
     have d138 : ∀ b, inBlk (PV p132) b → ¬ inBlk v91 b := disNew n134.fresh (fun b hb => (h92.lt b hb).2)
     have d139 : ∀ b, inBlk (PV p132) b → ¬ inBlk (PV p16) b := disNew n134.fresh k97.ltp
     have d140 : ∀ b, inBlk (PV p132) b → ¬ inBlk v94 b := disNew n134.fresh h95.ltp
     have d141 : ∀ b, inBlk (PV p132) b → ¬ inBlk (PV p5) b := disNew n134.fresh k96.ltp
     have ah0 := slRep.st k_Slice_pos ah0 n134.ch (admNew n134.fresh (fun _ x => x))
     have gp1n : (G F w.heap.size (un (inBlk (PV p132)) (un (inBlk (PV p74)) (un (inBlk v91) (un (inBlk (PV p16)) (un (inBlk v94) (un (inBlk (PV p5)) nb))))))) p1 := ⟨gp1.1, ((admNew n134.fresh (fun _ x => x)) _ k4.lt gp1.2).2⟩
     have k4 := k4.ch0 n134.ch
     have gp1 := gp1n
     have h72 := slRep.st k_Port_pos h72 n134.ch (admNew n134.fresh (fun _ x => x))
     have h73 := slRep.st k_Endpoint_pos h73 n134.ch (admNew n134.fresh (fun _ x => x))
     have k86 := k86.ch0 n134.ch
     have h92 := h92.st n134.ch (fun _ _ x => x) (admNew n134.fresh (fun _ x => x)) (fun b h => (.inr (.inr (.inl h))))
     have h95 := h95.ch0 n134.ch
     have k96 := k96.ch0 n134.ch
     have k97 := k97.ch0 n134.ch
     have c121 := c121.then0 n134.ch
     refine rl_storeA (vs := (Port.enc x118)) rfl rfl (all_one rfl) Tryz.sizeOf78 rfl k135 rfl ?_
     intro w142 s144 c143 k145
     have ad146 : ∀ b, b < w133.heap.size → ¬ (un (inBlk (PV p132)) (un (inBlk (PV p74)) (un (inBlk v91) (un (inBlk (PV p16)) (un (inBlk v94) (un (inBlk (PV p5)) nb)))))) b → ¬ (inBlk (PV p132)) b ∧ ¬ (un (inBlk (PV p132)) (un (inBlk (PV p74)) (un (inBlk v91) (un (inBlk (PV p16)) (un (inBlk v94) (un (inBlk (PV p5)) nb)))))) b := fun b _ hs => ⟨fun h => hs (.inl h), hs⟩
     have ah0 := slRep.st k_Slice_pos ah0 c143 ad146
     have k4 := k4.ch c143 (ad146 _ k4.lt gp1.2).1
     have h72 := slRep.st k_Port_pos h72 c143 ad146
     have h73 := slRep.st k_Endpoint_pos h73 c143 ad146
     have k86 := k86.ch c143 ((fun b hb h => (disSym d137) b hb h) _ rfl)
     have h92 := h92.st c143 (fun b hb h => (disSym d138) b hb h) ad146 (fun b h => (.inr (.inr (.inl h))))
     have h95 := h95.ch c143 ((fun b hb h => (disSym d140) b hb h))
     have k96 := k96.ch c143 ((fun b hb h => (disSym d141) b hb h) _ rfl)
     have k97 := k97.ch c143 ((fun b hb h => (disSym d139) b hb h) _ rfl)
     have c121 := c121.then c143 (fun i hi h => absurd (lo136 i h) (Nat.not_le_of_lt hi))
     refine RL.nil (thn_n (CW.seq ?_))
     refine CW.seq (CW.region ?_)
     refine rl_loadA (cs := (Want.enc a1)) rfl Tryz.isAgg92 Tryz.sizeOf92 (k4.segAt 0 7) rfl rfl ?_
     refine rl_loadA (cs := (Port.enc x118)) rfl Tryz.isAgg78 Tryz.sizeOf78 (k145.segAt 0 4) rfl rfl ?_
     obtain ⟨y149, hy150⟩ : ∃ y, F72_matches a1 x118 = y := ⟨_, rfl⟩
     have hb115 := ltS hy150 hb115
     refine rl_callF rfl en72 rfl (ctr72 (G F w.heap.size (un (inBlk (PV p132)) (un (inBlk (PV p74)) (un (inBlk v91) (un (inBlk (PV p16)) (un (inBlk v94) (un (inBlk (PV p5)) nb))))))) w142 a1 x118 y149 hy150) ?_
     rintro _ w147 ⟨rfl, c148⟩
     have ah0 := slRep.ch k_Slice_pos ah0 c148
     have k4 := k4.ch0 c148
     have h72 := slRep.ch k_Port_pos h72 c148
     have h73 := slRep.ch k_Endpoint_pos h73 c148
     have k86 := k86.ch0 c148
     have h92 := h92.ch0 c148
     have h95 := h95.ch0 c148
     have k96 := k96.ch0 c148
     have k97 := k97.ch0 c148
     have k145 := k145.ch0 c148
     have c121 := c121.then0 c148
     refine rl_not rfl rfl ?_
     refine RL.nil (thn_n ?_)
     refine CW.cond (t := !y149) rfl (fun q151 => ?_) (fun q151 => ?_)
     ·
      have hb115 := ifT q151 hb115
      refine CW.exit ?_
      refine thn_exit ?_
      refine inB_hit ?_
      refine thn_n (CW.region ?_)
      refine rl_inc rfl hat112.lt h72.big rfl ?_
      refine rl_move rfl rfl ?_
      refine RL.nil (thn_n ?_)
      have ad152 : ∀ b, b < w147.heap.size → ¬ (un (inBlk (PV p132)) (un (inBlk (PV p74)) (un (inBlk v91) (un (inBlk (PV p16)) (un (inBlk v94) (un (inBlk (PV p5)) nb)))))) b → ¬ nb b ∧ ¬ (un (inBlk (PV p74)) (un (inBlk v91) (un (inBlk (PV p16)) (un (inBlk v94) (un (inBlk (PV p5)) nb))))) b := fun b _ hs => ⟨fun x => x, fun h => hs (un_el h (fun h => (.inr (.inl h))) (fun h => un_el h (fun h => (.inr (.inr (.inl h)))) (fun h => un_el h (fun h => (.inr (.inr (.inr (.inl h))))) (fun h => un_el h (fun h => (.inr (.inr (.inr (.inr (.inl h)))))) (fun h => un_el h (fun h => (.inr (.inr (.inr (.inr (.inr (.inl h))))))) (fun h => False.elim h))))))⟩
      have crf : Ch nb w147 w147 := Ch.refl
      have ah0 := slRep.st k_Slice_pos ah0 crf ad152
      have gp1n : (G F w.heap.size (un (inBlk (PV p74)) (un (inBlk v91) (un (inBlk (PV p16)) (un (inBlk v94) (un (inBlk (PV p5)) nb)))))) p1 := ⟨gp1.1, (ad152 _ k4.lt gp1.2).2⟩
      have k4 := k4.ch0 crf
      have gp1 := gp1n
      have h72 := slRep.st k_Port_pos h72 crf ad152
      have h73 := slRep.st k_Endpoint_pos h73 crf ad152
      have k86 := k86.ch0 crf
      have h92 := h92.st crf (fun _ _ x => x) ad152 (fun b h => (.inr (.inl h)))
      have h95 := h95.ch0 crf
      have k96 := k96.ch0 crf
      have k97 := k97.ch0 crf
      have c121 := c121.then0 crf
      have hLn := runAO_next hL111 hq114 hb115
      exact ⟨rest125.length, Nat.lt_succ_self _, [(3, (PV p1)), (5, (PV p5)), (7, (Value.func (.func 71) #[] [(PV p16), (PV p5)].toArray)), (9, (PV p74)), (16, av0), (17, (Value.int .i64 ((a0.length : Nat) : Int))), (18, (Value.int .i64 ((i48 : Nat) : Int))), (28, z70), (29, (Value.int .i64 ((x56.ports.length : Nat) : Int))), (30, (Value.int .i64 ((i110 + 1 : Nat) : Int)))], ⟨rfl, rfl, rfl, rfl, rfl, rfl, rfl, rfl, rfl, rfl, trivial⟩, ⟨rest125, i110 + 1, x90, v91, x93, v94, rfl, rfl, c121, hat112.next, hLn, ah0, k4, h72, h73, k86, h92, h95, k96, k97, gp1, d99, d100, d101, d102, d103, d104, d105, d106, d107, d108, lo98⟩⟩
     have hb115 := ifF q151 hb115
     refine CW.skip ?_
     refine thn_n (CW.seq (CW.region ?_))
     refine rl_fieldAddr rfl fa81_4 rfl ?_
     refine rl_loadS (v := z71) rfl Tryz.isAgg79 (k86.cell rfl) rfl ?_
     refine rl_lenR rfl h73 Tryz.underlying79 rfl ?_
     refine rl_move rfl rfl ?_
     refine RL.nil (thn_n ?_)
     obtain ⟨o184, ho185, hb115⟩ := bindS hb115
     refine CW.cutB (fun E' w' => ∃ (x153 : (List Candidate)) (v154 : Value) (x156 : (List (Point × St85))) (v157 : Value), Sub [(3, (PV p1)), (5, (PV p5)), (7, (Value.func (.func 71) #[] [(PV p16), (PV p5)].toArray)), (9, (PV p74)), (16, av0), (17, (Value.int .i64 ((a0.length : Nat) : Int))), (18, (Value.int .i64 ((i48 : Nat) : Int))), (28, z70), (29, (Value.int .i64 ((x56.ports.length : Nat) : Int))), (30, (Value.int .i64 ((i110 : Nat) : Int)))] E' ∧ Ch nb w w' ∧ (x153, x156) = o184 ∧ slRep k_Slice (G F w.heap.size (un (inBlk (PV p132)) (un (inBlk (PV p74)) (un (inBlk v154) (un (inBlk (PV p16)) (un (inBlk v157) (un (inBlk (PV p5)) nb))))))) w' a0 av0 ∧ Blk w' p1 92 (Want.enc a1) ∧ slRep k_Port (G F w.heap.size (un (inBlk (PV p132)) (un (inBlk (PV p74)) (un (inBlk v154) (un (inBlk (PV p16)) (un (inBlk v157) (un (inBlk (PV p5)) nb))))))) w' x56.ports z70 ∧ slRep k_Endpoint (G F w.heap.size (un (inBlk (PV p132)) (un (inBlk (PV p74)) (un (inBlk v154) (un (inBlk (PV p16)) (un (inBlk v157) (un (inBlk (PV p5)) nb))))))) w' x56.endpoints z71 ∧ Blk w' p74 81 (Slice.c x56 z70 z71) ∧ Blk w' p132 78 (Port.enc x118) ∧ SlO k_Candidate 129 F w.heap.size (un (inBlk (PV p132)) (un (inBlk (PV p74)) (un (inBlk v154) (un (inBlk (PV p16)) (un (inBlk v157) (un (inBlk (PV p5)) nb)))))) w' x153 v154 ∧ Mp (fun x => Value.agg (Point.enc x).toArray) (fun x => Value.agg (St85.enc x).toArray) w' x156 v157 ∧ Blk w' p5 125 [v154] ∧ Blk w' p16 150 [v157] ∧ (G F w.heap.size (un (inBlk (PV p132)) (un (inBlk (PV p74)) (un (inBlk v154) (un (inBlk (PV p16)) (un (inBlk v157) (un (inBlk (PV p5)) nb))))))) p1 ∧ (∀ b, inBlk (PV p132) b → ¬ inBlk (PV p74) b) ∧ (∀ b, inBlk (PV p132) b → ¬ inBlk v154 b) ∧ (∀ b, inBlk (PV p132) b → ¬ inBlk (PV p16) b) ∧ (∀ b, inBlk (PV p132) b → ¬ inBlk v157 b) ∧ (∀ b, inBlk (PV p132) b → ¬ inBlk (PV p5) b) ∧ (∀ b, inBlk (PV p74) b → ¬ inBlk v154 b) ∧ (∀ b, inBlk (PV p74) b → ¬ inBlk (PV p16) b) ∧ (∀ b, inBlk (PV p74) b → ¬ inBlk v157 b) ∧ (∀ b, inBlk (PV p74) b → ¬ inBlk (PV p5) b) ∧ (∀ b, inBlk v154 b → ¬ inBlk (PV p16) b) ∧ (∀ b, inBlk v154 b → ¬ inBlk v157 b) ∧ (∀ b, inBlk v154 b → ¬ inBlk (PV p5) b) ∧ (∀ b, inBlk (PV p16) b → ¬ inBlk v157 b) ∧ (∀ b, inBlk (PV p16) b → ¬ inBlk (PV p5) b) ∧ (∀ b, inBlk v157 b → ¬ inBlk (PV p5) b) ∧ (∀ b, inBlk v157 b → w.heap.size ≤ b)) ?_ ?_
     ·
      refine CW.loopS [(3, (PV p1)), (5, (PV p5)), (7, (Value.func (.func 71) #[] [(PV p16), (PV p5)].toArray)), (9, (PV p74)), (11, (PV p132)), (16, av0), (17, (Value.int .i64 ((a0.length : Nat) : Int))), (18, (Value.int .i64 ((i48 : Nat) : Int))), (28, z70), (29, (Value.int .i64 ((x56.ports.length : Nat) : Int))), (30, (Value.int .i64 ((i110 : Nat) : Int))), (39, z71), (40, (Value.int .i64 ((x56.endpoints.length : Nat) : Int))), (41, (Value.int .i64 ((0 : Nat) : Int)))] ⟨rfl, rfl, rfl, rfl, rfl, rfl, rfl, rfl, rfl, rfl, rfl, rfl, rfl, rfl, trivial⟩ x56.endpoints.length (fun m E w' => ∃ (rest177 : List Endpoint) (i178 : Nat) (x153 : (List Candidate)) (v154 : Value) (x156 : (List (Point × St85))) (v157 : Value), m = rest177.length ∧ E = [(3, (PV p1)), (5, (PV p5)), (7, (Value.func (.func 71) #[] [(PV p16), (PV p5)].toArray)), (9, (PV p74)), (11, (PV p132)), (16, av0), (17, (Value.int .i64 ((a0.length : Nat) : Int))), (18, (Value.int .i64 ((i48 : Nat) : Int))), (28, z70), (29, (Value.int .i64 ((x56.ports.length : Nat) : Int))), (30, (Value.int .i64 ((i110 : Nat) : Int))), (39, z71), (40, (Value.int .i64 ((x56.endpoints.length : Nat) : Int))), (41, (Value.int .i64 ((i178 : Nat) : Int)))] ∧ Ch nb w w' ∧ At x56.endpoints i178 rest177 ∧ runAO (F48_Candidat_b3 a1 x118) rest177 (x153, x156) = some o184 ∧ slRep k_Slice (G F w.heap.size (un (inBlk (PV p132)) (un (inBlk (PV p74)) (un (inBlk v154) (un (inBlk (PV p16)) (un (inBlk v157) (un (inBlk (PV p5)) nb))))))) w' a0 av0 ∧ Blk w' p1 92 (Want.enc a1) ∧ slRep k_Port (G F w.heap.size (un (inBlk (PV p132)) (un (inBlk (PV p74)) (un (inBlk v154) (un (inBlk (PV p16)) (un (inBlk v157) (un (inBlk (PV p5)) nb))))))) w' x56.ports z70 ∧ slRep k_Endpoint (G F w.heap.size (un (inBlk (PV p132)) (un (inBlk (PV p74)) (un (inBlk v154) (un (inBlk (PV p16)) (un (inBlk v157) (un (inBlk (PV p5)) nb))))))) w' x56.endpoints z71 ∧ Blk w' p74 81 (Slice.c x56 z70 z71) ∧ Blk w' p132 78 (Port.enc x118) ∧ SlO k_Candidate 129 F w.heap.size (un (inBlk (PV p132)) (un (inBlk (PV p74)) (un (inBlk v154) (un (inBlk (PV p16)) (un (inBlk v157) (un (inBlk (PV p5)) nb)))))) w' x153 v154 ∧ Mp (fun x => Value.agg (Point.enc x).toArray) (fun x => Value.agg (St85.enc x).toArray) w' x156 v157 ∧ Blk w' p5 125 [v154] ∧ Blk w' p16 150 [v157] ∧ (G F w.heap.size (un (inBlk (PV p132)) (un (inBlk (PV p74)) (un (inBlk v154) (un (inBlk (PV p16)) (un (inBlk v157) (un (inBlk (PV p5)) nb))))))) p1 ∧ (∀ b, inBlk (PV p132) b → ¬ inBlk (PV p74) b) ∧ (∀ b, inBlk (PV p132) b → ¬ inBlk v154 b) ∧ (∀ b, inBlk (PV p132) b → ¬ inBlk (PV p16) b) ∧ (∀ b, inBlk (PV p132) b → ¬ inBlk v157 b) ∧ (∀ b, inBlk (PV p132) b → ¬ inBlk (PV p5) b) ∧ (∀ b, inBlk (PV p74) b → ¬ inBlk v154 b) ∧ (∀ b, inBlk (PV p74) b → ¬ inBlk (PV p16) b) ∧ (∀ b, inBlk (PV p74) b → ¬ inBlk v157 b) ∧ (∀ b, inBlk (PV p74) b → ¬ inBlk (PV p5) b) ∧ (∀ b, inBlk v154 b → ¬ inBlk (PV p16) b) ∧ (∀ b, inBlk v154 b → ¬ inBlk v157 b) ∧ (∀ b, inBlk v154 b → ¬ inBlk (PV p5) b) ∧ (∀ b, inBlk (PV p16) b → ¬ inBlk v157 b) ∧ (∀ b, inBlk (PV p16) b → ¬ inBlk (PV p5) b) ∧ (∀ b, inBlk v157 b → ¬ inBlk (PV p5) b) ∧ (∀ b, inBlk v157 b → w.heap.size ≤ b))
          ⟨x56.endpoints, 0, x90, v91, x93, v94, rfl, rfl, c121, At.start, ho185, ah0, k4, h72, h73, k86, k145, h92, h95, k96, k97, gp1, d137, d138, d139, d140, d141, d99, d100, d101, d102, d103, d104, d105, d106, d107, d108, lo98⟩ ?_
      rintro _ _ w190 ⟨rest177, i178, x153, v154, x156, v157, rfl, rfl, c189, hat180, hL179, ah0, k4, h72, h73, k86, k145, h155, h158, k159, k160, gp1, d162, d163, d164, d165, d166, d167, d168, d169, d170, d171, d172, d173, d174, d175, d176, lo161⟩
      refine CW.seq (CW.region ?_)
      refine rl_bin rfl rfl B.lss rfl ?_
      refine RL.nil (thn_n ?_)
      refine CW.seq ?_
      refine CW.cond (t := decide (((i178 : Nat) : Int) < ((x56.endpoints.length : Nat) : Int))) rfl (fun q192 => ?_) (fun q192 => ?_)
      ·
       obtain ⟨x186, rest193, rfl⟩ := hat180.cons q192
       obtain ⟨q181, hq182⟩ := runAO_some hL179
       have hb183 := hq182
       refine CW.skip (thn_n ?_)
       refine CW.seq ?_
       refine CW.block ?_
       refine CW.seq (CW.region ?_)
       refine rl_ixR rfl h73 rfl hat180.get Tryz.underlying79 Tryz.sizeOf117 rfl ?_
       intro p194 o195 cs196 hr197 hs198 hg199
       obtain ⟨z200, rfl, h201⟩ := hr197
       refine rl_loadA (cs := (Endpoint.c x186 z200)) rfl Tryz.isAgg117 Tryz.sizeOf117 (hs198) rfl rfl ?_
       refine rl_alloc (Endpoint.c Endpoint.z (Value.slice none 0 0)) Tryz.zeroValue117 rfl rfl ?_
       intro p202 w203 n204 k205
       have lo206 : ∀ b, inBlk (PV p202) b → w.heap.size ≤ b := fun b h => Nat.le_trans c189.size (n204.fresh b h)
       have d207 : ∀ b, inBlk (PV p202) b → ¬ inBlk (PV p132) b := disNew n204.fresh k145.ltp
       have d208 : ∀ b, inBlk (PV p202) b → ¬ inBlk (PV p74) b := disNew n204.fresh k86.ltp
       have d209 : ∀ b, inBlk (PV p202) b → ¬ inBlk v154 b := disNew n204.fresh (fun b hb => (h155.lt b hb).2)
       have d210 : ∀ b, inBlk (PV p202) b → ¬ inBlk (PV p16) b := disNew n204.fresh k160.ltp
       have d211 : ∀ b, inBlk (PV p202) b → ¬ inBlk v157 b := disNew n204.fresh h158.ltp
       have d212 : ∀ b, inBlk (PV p202) b → ¬ inBlk (PV p5) b := disNew n204.fresh k159.ltp
       have ah0 := slRep.st k_Slice_pos ah0 n204.ch (admNew n204.fresh (fun _ x => x))
       have gp1n : (G F w.heap.size (un (inBlk (PV p202)) (un (inBlk (PV p132)) (un (inBlk (PV p74)) (un (inBlk v154) (un (inBlk (PV p16)) (un (inBlk v157) (un (inBlk (PV p5)) nb)))))))) p1 := ⟨gp1.1, ((admNew n204.fresh (fun _ x => x)) _ k4.lt gp1.2).2⟩
       have k4 := k4.ch0 n204.ch
       have gp1 := gp1n
       have h72 := slRep.st k_Port_pos h72 n204.ch (admNew n204.fresh (fun _ x => x))
       have h73 := slRep.st k_Endpoint_pos h73 n204.ch (admNew n204.fresh (fun _ x => x))
       have k86 := k86.ch0 n204.ch
       have k145 := k145.ch0 n204.ch
       have h155 := h155.st n204.ch (fun _ _ x => x) (admNew n204.fresh (fun _ x => x)) (fun b h => (.inr (.inr (.inr (.inl h)))))
       have h158 := h158.ch0 n204.ch
       have k159 := k159.ch0 n204.ch
       have k160 := k160.ch0 n204.ch
       have h201 := slRep.st kStr_pos h201 n204.ch (admNew n204.fresh (fun _ x => x))
       have c189 := c189.then0 n204.ch
       refine rl_storeA (vs := (Endpoint.c x186 z200)) rfl rfl (Kd.one _ (show k_Endpoint.rep (G F w.heap.size (un (inBlk (PV p202)) (un (inBlk (PV p132)) (un (inBlk (PV p74)) (un (inBlk v154) (un (inBlk (PV p16)) (un (inBlk v157) (un (inBlk (PV p5)) nb)))))))) w203 x186 (Endpoint.c x186 z200) from ⟨z200, rfl, h201⟩)) Tryz.sizeOf117 rfl k205 rfl ?_
       intro w213 s215 c214 k216
       have ad217 : ∀ b, b < w203.heap.size → ¬ (un (inBlk (PV p202)) (un (inBlk (PV p132)) (un (inBlk (PV p74)) (un (inBlk v154) (un (inBlk (PV p16)) (un (inBlk v157) (un (inBlk (PV p5)) nb))))))) b → ¬ (inBlk (PV p202)) b ∧ ¬ (un (inBlk (PV p202)) (un (inBlk (PV p132)) (un (inBlk (PV p74)) (un (inBlk v154) (un (inBlk (PV p16)) (un (inBlk v157) (un (inBlk (PV p5)) nb))))))) b := fun b _ hs => ⟨fun h => hs (.inl h), hs⟩
       have ah0 := slRep.st k_Slice_pos ah0 c214 ad217
       have k4 := k4.ch c214 (ad217 _ k4.lt gp1.2).1
       have h72 := slRep.st k_Port_pos h72 c214 ad217
       have h73 := slRep.st k_Endpoint_pos h73 c214 ad217
       have k86 := k86.ch c214 ((fun b hb h => (disSym d208) b hb h) _ rfl)
       have k145 := k145.ch c214 ((fun b hb h => (disSym d207) b hb h) _ rfl)
       have h155 := h155.st c214 (fun b hb h => (disSym d209) b hb h) ad217 (fun b h => (.inr (.inr (.inr (.inl h)))))
       have h158 := h158.ch c214 ((fun b hb h => (disSym d211) b hb h))
       have k159 := k159.ch c214 ((fun b hb h => (disSym d212) b hb h) _ rfl)
       have k160 := k160.ch c214 ((fun b hb h => (disSym d210) b hb h) _ rfl)
       have h201 := slRep.st kStr_pos h201 c214 ad217
       have c189 := c189.then c214 (fun i hi h => absurd (lo206 i h) (Nat.not_le_of_lt hi))
       refine RL.nil (thn_n (CW.region ?_))
       refine rl_move rfl rfl ?_
       refine rl_loadA (cs := (Want.enc a1)) rfl Tryz.isAgg92 Tryz.sizeOf92 (k4.segAt 0 7) rfl rfl ?_
       refine rl_loadA (cs := (Endpoint.c x186 z200)) rfl Tryz.isAgg117 Tryz.sizeOf117 (k216.segAt 0 22) rfl rfl ?_
       refine rl_fieldAddr rfl fa78_2 rfl ?_
       refine rl_loadS (v := (Value.int .i64 x118.port)) rfl Tryz.isAgg3 (k145.cell rfl) rfl ?_
       obtain ⟨y220, hy221, hb183⟩ := bindS hb183
       refine rl_callF rfl en73 rfl (ctr73 (G F w.heap.size (un (inBlk (PV p202)) (un (inBlk (PV p132)) (un (inBlk (PV p74)) (un (inBlk v154) (un (inBlk (PV p16)) (un (inBlk v157) (un (inBlk (PV p5)) nb)))))))) w213 a1 x186 z200 h201 x118.port y220 hy221) ?_
       rintro _ w218 ⟨z222, rfl, h223, c219⟩
       have h223 := slRep.back kStr_pos h223 (un_lt k216.ltp (un_lt k145.ltp (un_lt k86.ltp (un_lt (fun b hb => (h155.lt b hb).2) (un_lt k160.ltp (un_lt h158.ltp (un_lt k159.ltp nbS))))))) c189.size
       have ah0 := slRep.ch k_Slice_pos ah0 c219
       have k4 := k4.ch0 c219
       have h72 := slRep.ch k_Port_pos h72 c219
       have h73 := slRep.ch k_Endpoint_pos h73 c219
       have k86 := k86.ch0 c219
       have k145 := k145.ch0 c219
       have h155 := h155.ch0 c219
       have h158 := h158.ch0 c219
       have k159 := k159.ch0 c219
       have k160 := k160.ch0 c219
       have k216 := k216.ch0 c219
       have c189 := c189.then0 c219
       have hd224 : ∀ b, (un (inBlk (PV p16)) (un (inBlk v157) (un (inBlk (PV p5)) (inBlk v154)))) b → ¬ (un (inBlk (PV p202)) (un (inBlk (PV p132)) (un (inBlk (PV p74)) nb))) b := fun b h => un_el h (fun h => (fun b hb => fun h => un_el h (fun h => (disSym d210) b hb h) (fun h => un_el h (fun h => (disSym d164) b hb h) (fun h => un_el h (fun h => (disSym d168) b hb h) (fun h => h)))) b h) (fun h => un_el h (fun h => (fun b hb => fun h => un_el h (fun h => (disSym d211) b hb h) (fun h => un_el h (fun h => (disSym d165) b hb h) (fun h => un_el h (fun h => (disSym d169) b hb h) (fun h => h)))) b h) (fun h => un_el h (fun h => (fun b hb => fun h => un_el h (fun h => (disSym d212) b hb h) (fun h => un_el h (fun h => (disSym d166) b hb h) (fun h => un_el h (fun h => (disSym d170) b hb h) (fun h => h)))) b h) (fun h => (fun b hb => fun h => un_el h (fun h => (disSym d209) b hb h) (fun h => un_el h (fun h => (disSym d163) b hb h) (fun h => un_el h (fun h => (disSym d167) b hb h) (fun h => h)))) b h)))
       have hS225 : (un (inBlk (PV p202)) (un (inBlk (PV p132)) (un (inBlk (PV p74)) (un (inBlk v154) (un (inBlk (PV p16)) (un (inBlk v157) (un (inBlk (PV p5)) nb))))))) = (un (inBlk (PV p16)) (un (inBlk v157) (un (inBlk (PV p5)) (un (inBlk v154) (un (inBlk (PV p202)) (un (inBlk (PV p132)) (un (inBlk (PV p74)) nb))))))) := funext fun b => propext ⟨fun h => un_el h (fun h => (.inr (.inr (.inr (.inr (.inl h)))))) (fun h => un_el h (fun h => (.inr (.inr (.inr (.inr (.inr (.inl h))))))) (fun h => un_el h (fun h => (.inr (.inr (.inr (.inr (.inr (.inr (.inl h)))))))) (fun h => un_el h (fun h => (.inr (.inr (.inr (.inl h))))) (fun h => un_el h (fun h => (.inl h)) (fun h => un_el h (fun h => (.inr (.inl h))) (fun h => un_el h (fun h => (.inr (.inr (.inl h)))) (fun h => False.elim h))))))), fun h => un_el h (fun h => (.inr (.inr (.inr (.inr (.inl h)))))) (fun h => un_el h (fun h => (.inr (.inr (.inr (.inr (.inr (.inl h))))))) (fun h => un_el h (fun h => (.inr (.inr (.inr (.inr (.inr (.inr (.inl h)))))))) (fun h => un_el h (fun h => (.inr (.inr (.inr (.inl h))))) (fun h => un_el h (fun h => (.inl h)) (fun h => un_el h (fun h => (.inr (.inl h))) (fun h => un_el h (fun h => (.inr (.inr (.inl h)))) (fun h => False.elim h)))))))⟩
       have ha226 := h223
       rw [hS225] at ha226
       obtain ⟨y229, hy230, hb183⟩ := bindS hb183
       refine rl_call rfl rfl en71 rfl (ctr71 F w218 w.heap.size (un (inBlk (PV p202)) (un (inBlk (PV p132)) (un (inBlk (PV p74)) nb))) c189.size (un_lt k216.ltp (un_lt k145.ltp (un_lt k86.ltp nbS))) p16 v157 p5 v154 hd224 d174 d175 (disSym d171) d176 (disSym d172) (disSym d173) y220 z222 ha226 x156 k160 h158 x153 k159 (hS225 ▸ h155) y229 hy230) ?_
       rintro _ w227 ⟨z231, z232, rfl, h233, h234, h235, h236, hf237, hf238, d239, d240, d241, d242, d243, c228⟩
       have lo244 : ∀ b, inBlk z231 b → w.heap.size ≤ b := fun b h => (hf237 b h).elim (fun h => un_el h (fun h => lo20 b h) (fun h => un_el h (fun h => lo161 b h) (fun h => un_el h (fun h => lo9 b h) (fun h => (fun b hb => (h155.lt b hb).1) b h)))) (Nat.le_trans c189.size)
       have d246 : ∀ b, inBlk z231 b → ¬ inBlk (PV p132) b := fun b h hu => (hf237 b h).elim (fun h => un_el h (fun h => (disSym d164) b h hu) (fun h => un_el h (fun h => (disSym d165) b h hu) (fun h => un_el h (fun h => (disSym d166) b h hu) (fun h => (disSym d163) b h hu)))) (fun h => Nat.not_le_of_lt (k145.ltp b hu) h)
       have d247 : ∀ b, inBlk z231 b → ¬ inBlk (PV p74) b := fun b h hu => (hf237 b h).elim (fun h => un_el h (fun h => (disSym d168) b h hu) (fun h => un_el h (fun h => (disSym d169) b h hu) (fun h => un_el h (fun h => (disSym d170) b h hu) (fun h => (disSym d167) b h hu)))) (fun h => Nat.not_le_of_lt (k86.ltp b hu) h)
       have d250 : ∀ b, inBlk z232 b → ¬ inBlk (PV p132) b := fun b h hu => (hf238 b h).elim (fun h => un_el h (fun h => (disSym d164) b h hu) (fun h => un_el h (fun h => (disSym d165) b h hu) (fun h => un_el h (fun h => (disSym d166) b h hu) (fun h => (disSym d163) b h hu)))) (fun h => Nat.not_le_of_lt (k145.ltp b hu) h)
       have d251 : ∀ b, inBlk z232 b → ¬ inBlk (PV p74) b := fun b h hu => (hf238 b h).elim (fun h => un_el h (fun h => (disSym d168) b h hu) (fun h => un_el h (fun h => (disSym d169) b h hu) (fun h => un_el h (fun h => (disSym d170) b h hu) (fun h => (disSym d167) b h hu)))) (fun h => Nat.not_le_of_lt (k86.ltp b hu) h)
       have hS252 : (un (inBlk (PV p202)) (un (inBlk (PV p132)) (un (inBlk (PV p74)) (un (inBlk z232) (un (inBlk (PV p16)) (un (inBlk z231) (un (inBlk (PV p5)) nb))))))) = (un (inBlk (PV p16)) (un (inBlk z231) (un (inBlk (PV p5)) (un (inBlk z232) (un (inBlk (PV p202)) (un (inBlk (PV p132)) (un (inBlk (PV p74)) nb))))))) := funext fun b => propext ⟨fun h => un_el h (fun h => (.inr (.inr (.inr (.inr (.inl h)))))) (fun h => un_el h (fun h => (.inr (.inr (.inr (.inr (.inr (.inl h))))))) (fun h => un_el h (fun h => (.inr (.inr (.inr (.inr (.inr (.inr (.inl h)))))))) (fun h => un_el h (fun h => (.inr (.inr (.inr (.inl h))))) (fun h => un_el h (fun h => (.inl h)) (fun h => un_el h (fun h => (.inr (.inl h))) (fun h => un_el h (fun h => (.inr (.inr (.inl h)))) (fun h => False.elim h))))))), fun h => un_el h (fun h => (.inr (.inr (.inr (.inr (.inl h)))))) (fun h => un_el h (fun h => (.inr (.inr (.inr (.inr (.inr (.inl h))))))) (fun h => un_el h (fun h => (.inr (.inr (.inr (.inr (.inr (.inr (.inl h)))))))) (fun h => un_el h (fun h => (.inr (.inr (.inr (.inl h))))) (fun h => un_el h (fun h => (.inl h)) (fun h => un_el h (fun h => (.inr (.inl h))) (fun h => un_el h (fun h => (.inr (.inr (.inl h)))) (fun h => False.elim h)))))))⟩
       rw [← hS252] at h236
       have ha253 : ∀ b, b < w218.heap.size → ¬ (un (inBlk (PV p202)) (un (inBlk (PV p132)) (un (inBlk (PV p74)) (un (inBlk v154) (un (inBlk (PV p16)) (un (inBlk v157) (un (inBlk (PV p5)) nb))))))) b → ¬ (un (inBlk (PV p16)) (un (inBlk v157) (un (inBlk (PV p5)) (inBlk v154)))) b ∧ ¬ (un (inBlk (PV p202)) (un (inBlk (PV p132)) (un (inBlk (PV p74)) (un (inBlk z232) (un (inBlk (PV p16)) (un (inBlk z231) (un (inBlk (PV p5)) nb))))))) b := fun b hb hs => ⟨fun h => un_el h (fun h => hs (.inr (.inr (.inr (.inr (.inl h)))))) (fun h => un_el h (fun h => hs (.inr (.inr (.inr (.inr (.inr (.inl h))))))) (fun h => un_el h (fun h => hs (.inr (.inr (.inr (.inr (.inr (.inr (.inl h)))))))) (fun h => hs (.inr (.inr (.inr (.inl h))))))), fun h => un_el h (fun h => hs (.inl h)) (fun h => un_el h (fun h => hs (.inr (.inl h))) (fun h => un_el h (fun h => hs (.inr (.inr (.inl h)))) (fun h => un_el h (fun h => (hf238 b h).elim (fun h => un_el h (fun h => hs (.inr (.inr (.inr (.inr (.inl h)))))) (fun h => un_el h (fun h => hs (.inr (.inr (.inr (.inr (.inr (.inl h))))))) (fun h => un_el h (fun h => hs (.inr (.inr (.inr (.inr (.inr (.inr (.inl h)))))))) (fun h => hs (.inr (.inr (.inr (.inl h)))))))) (fun h => Nat.not_le_of_lt hb h)) (fun h => un_el h (fun h => hs (.inr (.inr (.inr (.inr (.inl h)))))) (fun h => un_el h (fun h => (hf237 b h).elim (fun h => un_el h (fun h => hs (.inr (.inr (.inr (.inr (.inl h)))))) (fun h => un_el h (fun h => hs (.inr (.inr (.inr (.inr (.inr (.inl h))))))) (fun h => un_el h (fun h => hs (.inr (.inr (.inr (.inr (.inr (.inr (.inl h)))))))) (fun h => hs (.inr (.inr (.inr (.inl h)))))))) (fun h => Nat.not_le_of_lt hb h)) (fun h => un_el h (fun h => hs (.inr (.inr (.inr (.inr (.inr (.inr (.inl h)))))))) (fun h => False.elim h)))))))⟩
       have ah0 := slRep.st k_Slice_pos ah0 c228 ha253
       have gp1n : (G F w.heap.size (un (inBlk (PV p202)) (un (inBlk (PV p132)) (un (inBlk (PV p74)) (un (inBlk z232) (un (inBlk (PV p16)) (un (inBlk z231) (un (inBlk (PV p5)) nb)))))))) p1 := ⟨gp1.1, (ha253 _ k4.lt gp1.2).2⟩
       have k4 := k4.ch c228 (ha253 _ k4.lt gp1.2).1
       have gp1 := gp1n
       have h72 := slRep.st k_Port_pos h72 c228 ha253
       have h73 := slRep.st k_Endpoint_pos h73 c228 ha253
       have k86 := k86.ch c228 ((fun b hb h => un_el h (fun h => d168 b hb h) (fun h => un_el h (fun h => d169 b hb h) (fun h => un_el h (fun h => d170 b hb h) (fun h => d167 b hb h)))) _ rfl)
       have k145 := k145.ch c228 ((fun b hb h => un_el h (fun h => d164 b hb h) (fun h => un_el h (fun h => d165 b hb h) (fun h => un_el h (fun h => d166 b hb h) (fun h => d163 b hb h)))) _ rfl)
       have c189 := c189.then c228 (fun i hi h => un_el h (fun h => absurd (lo20 i h) (Nat.not_le_of_lt hi)) (fun h => un_el h (fun h => absurd (lo161 i h) (Nat.not_le_of_lt hi)) (fun h => un_el h (fun h => absurd (lo9 i h) (Nat.not_le_of_lt hi)) (fun h => absurd ((fun b hb => (h155.lt b hb).1) i h) (Nat.not_le_of_lt hi)))))
       refine RL.nil ?_
       refine inB_n ?_
       refine thn_n (CW.region ?_)
       refine rl_inc rfl hat180.lt h73.big rfl ?_
       refine rl_move rfl rfl ?_
       refine RL.nil (thn_n ?_)
       have ad254 : ∀ b, b < w227.heap.size → ¬ (un (inBlk (PV p202)) (un (inBlk (PV p132)) (un (inBlk (PV p74)) (un (inBlk z232) (un (inBlk (PV p16)) (un (inBlk z231) (un (inBlk (PV p5)) nb))))))) b → ¬ nb b ∧ ¬ (un (inBlk (PV p132)) (un (inBlk (PV p74)) (un (inBlk z232) (un (inBlk (PV p16)) (un (inBlk z231) (un (inBlk (PV p5)) nb)))))) b := fun b _ hs => ⟨fun x => x, fun h => hs (un_el h (fun h => (.inr (.inl h))) (fun h => un_el h (fun h => (.inr (.inr (.inl h)))) (fun h => un_el h (fun h => (.inr (.inr (.inr (.inl h))))) (fun h => un_el h (fun h => (.inr (.inr (.inr (.inr (.inl h)))))) (fun h => un_el h (fun h => (.inr (.inr (.inr (.inr (.inr (.inl h))))))) (fun h => un_el h (fun h => (.inr (.inr (.inr (.inr (.inr (.inr (.inl h)))))))) (fun h => False.elim h)))))))⟩
       have crf : Ch nb w227 w227 := Ch.refl
       have ah0 := slRep.st k_Slice_pos ah0 crf ad254
       have gp1n : (G F w.heap.size (un (inBlk (PV p132)) (un (inBlk (PV p74)) (un (inBlk z232) (un (inBlk (PV p16)) (un (inBlk z231) (un (inBlk (PV p5)) nb))))))) p1 := ⟨gp1.1, (ad254 _ k4.lt gp1.2).2⟩
       have k4 := k4.ch0 crf
       have gp1 := gp1n
       have h72 := slRep.st k_Port_pos h72 crf ad254
       have h73 := slRep.st k_Endpoint_pos h73 crf ad254
       have k86 := k86.ch0 crf
       have k145 := k145.ch0 crf
       have h233 := h233.ch0 crf
       have h234 := h234.ch0 crf
       have h235 := h235.ch0 crf
       have h236 := h236.st crf (fun _ _ x => x) ad254 (fun b h => (.inr (.inr (.inl h))))
       have c189 := c189.then0 crf
       have hLn := runAO_next hL179 hq182 hb183
       exact ⟨rest193.length, Nat.lt_succ_self _, [(3, (PV p1)), (5, (PV p5)), (7, (Value.func (.func 71) #[] [(PV p16), (PV p5)].toArray)), (9, (PV p74)), (11, (PV p132)), (16, av0), (17, (Value.int .i64 ((a0.length : Nat) : Int))), (18, (Value.int .i64 ((i48 : Nat) : Int))), (28, z70), (29, (Value.int .i64 ((x56.ports.length : Nat) : Int))), (30, (Value.int .i64 ((i110 : Nat) : Int))), (39, z71), (40, (Value.int .i64 ((x56.endpoints.length : Nat) : Int))), (41, (Value.int .i64 ((i178 + 1 : Nat) : Int)))], ⟨rfl, rfl, rfl, rfl, rfl, rfl, rfl, rfl, rfl, rfl, rfl, rfl, rfl, rfl, trivial⟩, ⟨rest193, i178 + 1, y229.2, z232, y229.1, z231, rfl, rfl, c189, hat180.next, hLn, ah0, k4, h72, h73, k86, k145, h236, h234, h235, h233, gp1, d162, (disSym d250), d164, (disSym d246), d166, (disSym d251), d168, (disSym d247), d170, (disSym d240), (disSym d242), (disSym d243), d239, d175, d241, lo244⟩⟩
      obtain rfl := hat180.nil q192
      have hLf : (x153, x156) = o184 := runAO_done hL179
      refine CW.exit (thn_exit (thn_exit (inB_hit ?_)))
      exact ⟨x153, v154, x156, v157, ⟨rfl, rfl, rfl, rfl, rfl, rfl, rfl, rfl, rfl, rfl, trivial⟩, c189, hLf, ah0, k4, h72, h73, k86, k145, h155, h158, k159, k160, gp1, d162, d163, d164, d165, d166, d167, d168, d169, d170, d171, d172, d173, d174, d175, d176, lo161⟩
     rintro _ w256 ⟨x153, v154, x156, v157, hE257, c255, f258, ah0, k4, h72, h73, k86, k145, h155, h158, k159, k160, gp1, d162, d163, d164, d165, d166, d167, d168, d169, d170, d171, d172, d173, d174, d175, d176, lo161⟩
     subst f258
     refine inB_n ?_
     refine thn_n (CW.sub [(3, (PV p1)), (5, (PV p5)), (7, (Value.func (.func 71) #[] [(PV p16), (PV p5)].toArray)), (9, (PV p74)), (16, av0), (17, (Value.int .i64 ((a0.length : Nat) : Int))), (18, (Value.int .i64 ((i48 : Nat) : Int))), (28, z70), (29, (Value.int .i64 ((x56.ports.length : Nat) : Int))), (30, (Value.int .i64 ((i110 : Nat) : Int)))] hE257 ?_)
     refine CW.region ?_
     refine rl_inc rfl hat112.lt h72.big rfl ?_
     refine rl_move rfl rfl ?_
     refine RL.nil (thn_n ?_)
     have ad260 : ∀ b, b < w256.heap.size → ¬ (un (inBlk (PV p132)) (un (inBlk (PV p74)) (un (inBlk v154) (un (inBlk (PV p16)) (un (inBlk v157) (un (inBlk (PV p5)) nb)))))) b → ¬ nb b ∧ ¬ (un (inBlk (PV p74)) (un (inBlk v154) (un (inBlk (PV p16)) (un (inBlk v157) (un (inBlk (PV p5)) nb))))) b := fun b _ hs => ⟨fun x => x, fun h => hs (un_el h (fun h => (.inr (.inl h))) (fun h => un_el h (fun h => (.inr (.inr (.inl h)))) (fun h => un_el h (fun h => (.inr (.inr (.inr (.inl h))))) (fun h => un_el h (fun h => (.inr (.inr (.inr (.inr (.inl h)))))) (fun h => un_el h (fun h => (.inr (.inr (.inr (.inr (.inr (.inl h))))))) (fun h => False.elim h))))))⟩
     have crf : Ch nb w256 w256 := Ch.refl
     have ah0 := slRep.st k_Slice_pos ah0 crf ad260
     have gp1n : (G F w.heap.size (un (inBlk (PV p74)) (un (inBlk v154) (un (inBlk (PV p16)) (un (inBlk v157) (un (inBlk (PV p5)) nb)))))) p1 := ⟨gp1.1, (ad260 _ k4.lt gp1.2).2⟩
     have k4 := k4.ch0 crf
     have gp1 := gp1n
     have h72 := slRep.st k_Port_pos h72 crf ad260
     have h73 := slRep.st k_Endpoint_pos h73 crf ad260
     have k86 := k86.ch0 crf
     have h155 := h155.st crf (fun _ _ x => x) ad260 (fun b h => (.inr (.inl h)))
     have h158 := h158.ch0 crf
     have k159 := k159.ch0 crf
     have k160 := k160.ch0 crf
     have c255 := c255.then0 crf
     have hLn := runAO_next hL111 hq114 hb115
     exact ⟨rest125.length, Nat.lt_succ_self _, [(3, (PV p1)), (5, (PV p5)), (7, (Value.func (.func 71) #[] [(PV p16), (PV p5)].toArray)), (9, (PV p74)), (16, av0), (17, (Value.int .i64 ((a0.length : Nat) : Int))), (18, (Value.int .i64 ((i48 : Nat) : Int))), (28, z70), (29, (Value.int .i64 ((x56.ports.length : Nat) : Int))), (30, (Value.int .i64 ((i110 + 1 : Nat) : Int)))], ⟨rfl, rfl, rfl, rfl, rfl, rfl, rfl, rfl, rfl, rfl, trivial⟩, ⟨rest125, i110 + 1, x153, v154, x156, v157, rfl, rfl, c255, hat112.next, hLn, ah0, k4, h72, h73, k86, h155, h158, k159, k160, gp1, d167, d168, d169, d170, d171, d172, d173, d174, d175, d176, lo161⟩⟩
    obtain rfl := hat112.nil q124
    have hLf : (x90, x93) = o116 := runAO_done hL111
    refine CW.exit (thn_exit (thn_exit (inB_hit ?_)))
    exact ⟨x90, v91, x93, v94, ⟨rfl, rfl, rfl, rfl, rfl, rfl, trivial⟩, c121, hLf, ah0, k4, h72, h73, k86, h92, h95, k96, k97, gp1, d99, d100, d101, d102, d103, d104, d105, d106, d107, d108, lo98⟩
   rintro _ w262 ⟨x90, v91, x93, v94, hE263, c261, f264, ah0, k4, h72, h73, k86, h92, h95, k96, k97, gp1, d99, d100, d101, d102, d103, d104, d105, d106, d107, d108, lo98⟩
   subst f264
   refine inB_n ?_
   refine thn_n (CW.sub [(3, (PV p1)), (5, (PV p5)), (7, (Value.func (.func 71) #[] [(PV p16), (PV p5)].toArray)), (16, av0), (17, (Value.int .i64 ((a0.length : Nat) : Int))), (18, (Value.int .i64 ((i48 : Nat) : Int)))] hE263 ?_)
   refine CW.region ?_
   refine rl_inc rfl hat50.lt ah0.big rfl ?_
   refine rl_move rfl rfl ?_
   refine RL.nil (thn_n ?_)
   have ad266 : ∀ b, b < w262.heap.size → ¬ (un (inBlk (PV p74)) (un (inBlk v91) (un (inBlk (PV p16)) (un (inBlk v94) (un (inBlk (PV p5)) nb))))) b → ¬ nb b ∧ ¬ (un (inBlk v91) (un (inBlk (PV p16)) (un (inBlk v94) (un (inBlk (PV p5)) nb)))) b := fun b _ hs => ⟨fun x => x, fun h => hs (un_el h (fun h => (.inr (.inl h))) (fun h => un_el h (fun h => (.inr (.inr (.inl h)))) (fun h => un_el h (fun h => (.inr (.inr (.inr (.inl h))))) (fun h => un_el h (fun h => (.inr (.inr (.inr (.inr (.inl h)))))) (fun h => False.elim h)))))⟩
   have crf : Ch nb w262 w262 := Ch.refl
   have ah0 := slRep.st k_Slice_pos ah0 crf ad266
   have gp1n : (G F w.heap.size (un (inBlk v91) (un (inBlk (PV p16)) (un (inBlk v94) (un (inBlk (PV p5)) nb))))) p1 := ⟨gp1.1, (ad266 _ k4.lt gp1.2).2⟩
   have k4 := k4.ch0 crf
   have gp1 := gp1n
   have h92 := h92.st crf (fun _ _ x => x) ad266 (fun b h => (.inl h))
   have h95 := h95.ch0 crf
   have k96 := k96.ch0 crf
   have k97 := k97.ch0 crf
   have c261 := c261.then0 crf
   have hLn := runAO_next hL49 hq52 hb53
   exact ⟨rest63.length, Nat.lt_succ_self _, [(3, (PV p1)), (5, (PV p5)), (7, (Value.func (.func 71) #[] [(PV p16), (PV p5)].toArray)), (16, av0), (17, (Value.int .i64 ((a0.length : Nat) : Int))), (18, (Value.int .i64 ((i48 + 1 : Nat) : Int)))], ⟨rfl, rfl, rfl, rfl, rfl, rfl, trivial⟩, ⟨rest63, i48 + 1, x90, v91, x93, v94, rfl, rfl, c261, hat50.next, hLn, ah0, k4, h92, h95, k96, k97, gp1, d103, d104, d105, d106, d107, d108, lo98⟩⟩
  obtain rfl := hat50.nil q62
  have hLf : (x32, x35) = o54 := runAO_done hL49
  refine CW.exit (thn_exit (thn_exit (inB_hit ?_)))
  exact ⟨x32, v33, x35, v36, ⟨rfl, trivial⟩, c59, hLf, ah0, k4, h34, h37, k38, k39, gp1, d41, d42, d43, d44, d45, d46, lo40⟩
 rintro _ w268 ⟨x32, v33, x35, v36, hE269, c267, f270, ah0, k4, h34, h37, k38, k39, gp1, d41, d42, d43, d44, d45, d46, lo40⟩
 subst f270
 refine thn_n (CW.sub [(5, (PV p5))] hE269 ?_)
 refine CW.seq (CW.region ?_)
 refine rl_loadS (v := v33) rfl Tryz.isAgg125 (k38.cell rfl) rfl ?_
 refine rl_assign rfl rfl ?_
 refine RL.nil (thn_n (CW.ret ?_))
 obtain rfl := Option.some.inj hS
 exact ret1 rfl ⟨v33, rfl, h34.out, c267⟩
/-- slices.Clone[[]lb/hints.Candidate,lb/hints.Candidate] -/
theorem ctr90 (F : Nat → Prop) (w : World) (a0 : (List Candidate)) (av0 : Value) (ah0 : slRep k_Candidate F w a0 av0) (r : (List Candidate)) (hs : F90_Candidat a0 = some r) :
    Ret Tryz.prog 90 #[av0] w fun v w' => ∃ (y0 : Value), v = y0 ∧ SlO k_Candidate 129 F w.heap.size (inBlk y0) w' r y0 ∧ Ch nb w w' := by
 have hS := hs
 have c0 : Ch nb w w := Ch.refl
 have ah0 := slRep.enter k_Candidate_pos ah0
 refine Ret.of (n := 8) (args := [_]) (rs := [.tmp 2]) Tryz.func90 rfl rfl rfl rfl ?_
 refine CW.seq (CW.region ?_)
 refine rl_assign rfl rfl ?_
 refine RL.nil (thn_n (CW.seq ?_))
 refine CW.seq (CW.region ?_)
 refine rl_move rfl rfl ?_
 refine rl_slNil rfl ah0 Tryz.underlying125 rfl ?_
 intro b1 n2
 refine RL.nil (thn_n ?_)
 refine CW.cond (t := b1) rfl (fun q3 => ?_) (fun q3 => ?_)
 ·
  obtain ⟨rfl, rfl⟩ := n2 q3
  refine CW.seq (CW.region ?_)
  refine rl_assign rfl rfl ?_
  refine RL.nil (thn_n (CW.ret ?_))
  refine thn_ret ?_
  obtain rfl := Option.some.inj hS
  exact ret1 rfl ⟨(Value.slice none 0 0), rfl, SlO.nil, c0⟩
 refine CW.skip ?_
 refine thn_n (CW.seq (CW.region ?_))
 refine rl_bslice (k := k_Candidate) (F := F) (B := w.heap.size) (S := nb) ([] : List Candidate) rfl k_Candidate_pos Tryz.underlying125 Tryz.sizeOf129 Tryz.zeroValue129 rfl rfl trivial c0.size nbS rfl ?_
 intro v4 w5 c6 hf7 h8
 have ah0 := slRep.st k_Candidate_pos ah0 c6 (admNew hf7 (fun _ x => x))
 have c0 := c0.then0 c6
 refine rl_move rfl rfl ?_
 obtain ⟨z17, hz18, hS⟩ := bindS hS
 have hl := (apO_get hz18).1
 refine rl_append (k := k_Candidate) (T := 129) (F := F) (B := w.heap.size) (S := (un (inBlk v4) nb)) (S2 := nb) (fun v => (un (inBlk v) nb)) rfl rfl k_Candidate_pos ap125 h8 ah0 (fun _ => Iff.rfl) (fun _ _ => Iff.rfl) hl c0.size (un_lt (fun b hb => (h8.lt b hb).2) nbS) rfl ?_
 intro v11 w12 h13 c14 hf15 ha16
 have c0 := c0.then c14 (fun i hi h => absurd ((fun b hb => (h8.lt b hb).1) i h) (Nat.not_le_of_lt hi))
 refine rl_assign rfl rfl ?_
 refine RL.nil (thn_n (CW.ret ?_))
 obtain rfl := Option.some.inj hS
 exact ret1 rfl ⟨v11, rfl, h13.out, c0⟩
/-- lb/pick.those$1 -/
theorem ctr91 (F : Nat → Prop) (w : World) (a0 : Candidate) (az0_0 : Value) (ah0_0 : slRep kStr F w a0.zones az0_0) (a1 : (Candidate → Bool)) (av1 : Value) (ah1 : ((Kd.fn1 Tryz.prog true k_Candidate Value.bool).box 147).rep F w a1 [av1]) (r : Bool) (hs : F91_1 a0 a1 = r) :
    Ret Tryz.prog 91 #[(Value.agg (Candidate.c a0 az0_0).toArray), av1] w fun v w' => v = (Value.bool r) ∧ Ch nb w w' := by
 have hS := hs
 have c0 : Ch nb w w := Ch.refl
 have ah0_0 := slRep.enter kStr_pos ah0_0
 have ah1 := Kd.enter ah1
 refine Ret.of (n := 8) (args := [_, _]) (rs := [.tmp 3]) Tryz.func91 rfl rfl rfl rfl ?_
 refine CW.seq (CW.region ?_)
 refine rl_boxA (cs := (Candidate.c a0 az0_0)) rfl rfl ?_
 intro p1 w2 n3 k4
 have ah0_0 := slRep.ch kStr_pos ah0_0 n3.ch
 have ah1 := Kd.ch ah1 n3.ch
 have c0 := c0.then0 n3.ch
 refine rl_assign rfl rfl ?_
 refine RL.nil (thn_n (CW.seq (CW.region ?_)))
 obtain ⟨p5, cc6, e7, gf8, k9, h10⟩ := ah1
 obtain rfl := (List.cons.inj e7).1
 obtain ⟨u11, rfl⟩ : ∃ u, cc6 = [u] := List.length_eq_one_iff.1 (Kd.len _ h10)
 refine rl_loadS (v := u11) rfl Tryz.isAgg147 (k9.cell rfl) rfl ?_
 refine rl_loadA (cs := (Candidate.c a0 az0_0)) rfl Tryz.isAgg129 Tryz.sizeOf129 (k4.segAt 0 23) rfl rfl ?_
 refine rl_fn1 (c := (Candidate.c a0 az0_0)) rfl rfl rfl h10 (F' := (G F w.heap.size nb)) (xx := a0) (show k_Candidate.rep (G F w.heap.size nb) w2 a0 (Candidate.c a0 az0_0) from ⟨az0_0, rfl, ah0_0⟩) rfl ?_
 intro w12 c13
 have c0 := c0.then0 c13
 refine rl_not rfl rfl ?_
 refine rl_assign rfl rfl ?_
 refine RL.nil (thn_n (CW.ret ?_))
 obtain rfl := hS
 exact ret1 rfl ⟨rfl, c0⟩
/-- slices.IndexFunc[[]lb/hints.Candidate,lb/hints.Candidate] -/
theorem ctr92 (F : Nat → Prop) (w : World) (a0 : (List Candidate)) (av0 : Value) (ah0 : slRep k_Candidate F w a0 av0) (a1 : (Candidate → Bool)) (av1 : Value) (ah1 : (Kd.fn1 Tryz.prog true k_Candidate Value.bool).rep F w a1 [av1]) (r : Int) (hs : F92_Candidat a0 a1 = r) :
    Ret Tryz.prog 92 #[av0, av1] w fun v w' => v = (Value.int .i64 r) ∧ Ch nb w w' := by
 have hS := hs
 have c0 : Ch nb w w := Ch.refl
 have ah0 := slRep.enter k_Candidate_pos ah0
 have ah1 := Kd.enter ah1
 refine Ret.of (n := 19) (args := [_, _]) (rs := [.tmp 4]) Tryz.func92 rfl rfl rfl rfl ?_
 refine CW.seq (CW.region ?_)
 refine rl_assign rfl rfl ?_
 refine RL.nil (thn_n (CW.seq ?_))
 refine CW.seq (CW.region ?_)
 refine rl_move rfl rfl ?_
 refine rl_lenR rfl ah0 Tryz.underlying125 rfl ?_
 refine rl_move rfl rfl ?_
 refine RL.nil (thn_n ?_)
 obtain ⟨o8, ho9⟩ : ∃ o, runB (F92_Candidat_b1 a1) a0 0 = o := ⟨_, rfl⟩
 have hS := ltS ho9 hS
 refine CW.cutB (fun E' w' => ∃ (ix15 : Nat), Sub [] E' ∧ Ch nb w w' ∧ Lp.fin ix15 = o8 ∧ slRep k_Candidate (G F w.heap.size nb) w' a0 av0 ∧ (Kd.fn1 Tryz.prog true k_Candidate Value.bool).rep (G F w.heap.size nb) w' a1 [av1]) ?_ ?_
 ·
  refine CW.loopS [(0, av0), (1, av1), (7, (Value.int .i64 ((a0.length : Nat) : Int))), (8, (Value.int .i64 ((0 : Nat) : Int)))] ⟨rfl, rfl, rfl, rfl, trivial⟩ a0.length (fun m E w' => ∃ (rest1 : List Candidate) (i2 : Nat) , m = rest1.length ∧ E = [(0, av0), (1, av1), (7, (Value.int .i64 ((a0.length : Nat) : Int))), (8, (Value.int .i64 ((i2 : Nat) : Int)))] ∧ Ch nb w w' ∧ At a0 i2 rest1 ∧ runB (F92_Candidat_b1 a1) rest1 i2 = o8 ∧ slRep k_Candidate (G F w.heap.size nb) w' a0 av0 ∧ (Kd.fn1 Tryz.prog true k_Candidate Value.bool).rep (G F w.heap.size nb) w' a1 [av1])
      ⟨a0, 0, rfl, rfl, c0, At.start, ho9, ah0, ah1⟩ ?_
  rintro _ _ w14 ⟨rest1, i2, rfl, rfl, c13, hat4, hL3, ah0, ah1⟩
  refine CW.seq (CW.region ?_)
  refine rl_bin rfl rfl B.lss rfl ?_
  refine RL.nil (thn_n ?_)
  refine CW.seq ?_
  refine CW.cond (t := decide (((i2 : Nat) : Int) < ((a0.length : Nat) : Int))) rfl (fun q16 => ?_) (fun q16 => ?_)
  ·
   obtain ⟨x10, rest17, rfl⟩ := hat4.cons q16
   obtain ⟨q5, hq6⟩ : ∃ q, (F92_Candidat_b1 a1) x10 i2 = q := ⟨_, rfl⟩
   have hb7 := hq6
   refine CW.skip (thn_n ?_)
   refine CW.seq ?_
   refine CW.block ?_
   refine CW.seq (CW.region ?_)
   refine rl_move rfl rfl ?_
   refine rl_assign rfl rfl ?_
   refine RL.nil (thn_n (CW.seq (CW.region ?_)))
   refine rl_move rfl rfl ?_
   refine rl_move rfl rfl ?_
   refine rl_move rfl rfl ?_
   refine rl_ixR rfl ah0 rfl hat4.get Tryz.underlying125 Tryz.sizeOf129 rfl ?_
   intro p18 o19 cs20 hr21 hs22 hg23
   obtain ⟨z24, rfl, h25⟩ := hr21
   refine rl_loadA (cs := (Candidate.c x10 z24)) rfl Tryz.isAgg129 Tryz.sizeOf129 (hs22) rfl rfl ?_
   refine rl_fn1 (c := (Candidate.c x10 z24)) rfl rfl rfl ah1 (F' := (G F w.heap.size nb)) (xx := x10) (show k_Candidate.rep (G F w.heap.size nb) w14 x10 (Candidate.c x10 z24) from ⟨z24, rfl, h25⟩) rfl ?_
   intro w26 c27
   have ah0 := slRep.ch k_Candidate_pos ah0 c27
   have ah1 := Kd.ch ah1 c27
   have c13 := c13.then0 c27
   refine RL.nil (thn_n ?_)
   refine CW.cond (t := a1 x10) rfl (fun q28 => ?_) (fun q28 => ?_)
   ·
    have hb7 := ifT q28 hb7
    refine CW.seq (CW.region ?_)
    refine rl_move rfl rfl ?_
    refine rl_assign rfl rfl ?_
    refine RL.nil (thn_n (CW.ret ?_))
    refine inB_ret ?_
    refine thn_ret ?_
    refine thn_ret (inB_ret (thn_ret ?_))
    refine thn_ret ?_
    have f29 := runB_ret hL3 (hb7.trans hq6.symm)
    have hS := retS f29 hS
    obtain rfl := hS
    exact ret1 rfl ⟨rfl, c13⟩
   have hb7 := ifF q28 hb7
   refine CW.skip ?_
   refine inB_n ?_
   refine thn_n (CW.region ?_)
   refine rl_inc rfl hat4.lt ah0.big rfl ?_
   refine rl_move rfl rfl ?_
   refine RL.nil (thn_n ?_)
   have hLn := runB_next hL3 (hb7.trans hq6.symm)
   exact ⟨rest17.length, Nat.lt_succ_self _, [(0, av0), (1, av1), (7, (Value.int .i64 ((a0.length : Nat) : Int))), (8, (Value.int .i64 ((i2 + 1 : Nat) : Int)))], ⟨rfl, rfl, rfl, rfl, trivial⟩, ⟨rest17, i2 + 1, rfl, rfl, c13, hat4.next, hLn, ah0, ah1⟩⟩
  obtain rfl := hat4.nil q16
  have hLf : Lp.fin i2 = o8 := hL3
  refine CW.exit (thn_exit (thn_exit (inB_hit ?_)))
  exact ⟨i2, trivial, c13, hLf, ah0, ah1⟩
 rintro _ w31 ⟨ix15, hE32, c30, f33, ah0, ah1⟩
 have hS := finS f33 hS
 refine thn_n (CW.sub [] hE32 ?_)
 refine CW.seq (CW.region ?_)
 refine rl_assign rfl rfl ?_
 refine RL.nil (thn_n (CW.ret ?_))
 obtain rfl := hS
 exact ret1 rfl ⟨rfl, c30⟩
/-- slices.DeleteFunc[[]lb/hints.Candidate,lb/hints.Candidate] -/
theorem ctr89 (F : Nat → Prop) (w : World) (Bb : Nat) (S2 : Nat → Prop) (hB : Bb ≤ w.heap.size) (h2 : ∀ b, S2 b → b < w.heap.size) (av0 : Value) (hd2 : ∀ b, (inBlk av0) b → ¬ S2 b) (a0 : (List Candidate)) (ah0 : SlO k_Candidate 129 F Bb (un (inBlk av0) S2) w a0 av0) (a1 : (Candidate → Bool)) (av1 : Value) (ah1 : (Kd.fn1 Tryz.prog true k_Candidate Value.bool).rep (G F Bb (un (inBlk av0) S2)) w a1 [av1]) (r : (List Candidate)) (hs : F89_Candidat a0 a1 = some r) :
    Ret Tryz.prog 89 #[av0, av1] w fun v w' => ∃ (y0 : Value), v = y0 ∧ SlO k_Candidate 129 F Bb (un (inBlk y0) S2) w' r y0 ∧ (∀ b, inBlk y0 b → inBlk av0 b ∨ w.heap.size ≤ b) ∧ Ch (inBlk av0) w w' := by
 have hS := hs
 have c0 : Ch (inBlk av0) w w := Ch.refl
 have lin0_0 : ∀ b, inBlk av0 b → (inBlk av0) b ∨ w.heap.size ≤ b := fun b h => .inl h
 refine Ret.of (n := 42) (args := [_, _]) (rs := [.tmp 4]) Tryz.func89 rfl rfl rfl rfl ?_
 refine CW.seq (CW.region ?_)
 refine rl_assign rfl rfl ?_
 refine RL.nil (thn_n (CW.seq (CW.region ?_)))
 refine rl_move rfl rfl ?_
 refine rl_move rfl rfl ?_
 obtain ⟨y3, hy4⟩ : ∃ y, F92_Candidat a0 a1 = y := ⟨_, rfl⟩
 have hS := ltS hy4 hS
 refine rl_callF rfl en92 rfl (ctr92 (G F Bb S2) w a0 av0 (SlO.read (S' := S2) k_Candidate_pos ah0 (fun b hs h => hs ((.inr h))) (fun b hb => linNot lin0_0 hd2 h2 b hb)) a1 av1 (Kd.wk ah1 (fun b _ hf => ⟨hf.1, fun h => hf.2 ((.inr h))⟩)) y3 hy4) ?_
 rintro _ w1 ⟨rfl, c2⟩
 have ah0 := ah0.ch0 c2
 have ah1 := Kd.ch ah1 c2
 have c0 := c0.then0 c2
 refine rl_assign rfl rfl ?_
 refine RL.nil (thn_n (CW.seq ?_))
 refine CW.seq (CW.region ?_)
 refine rl_move rfl rfl ?_
 refine rl_bin rfl rfl B.eql rfl ?_
 refine RL.nil (thn_n ?_)
 refine CW.cond (t := decide (y3 = (-1))) rfl (fun q5 => ?_) (fun q5 => ?_)
 ·
  have hS := ifT q5 hS
  refine CW.seq (CW.region ?_)
  refine rl_move rfl rfl ?_
  refine rl_assign rfl rfl ?_
  refine RL.nil (thn_n (CW.ret ?_))
  refine thn_ret ?_
  obtain rfl := Option.some.inj hS
  exact ret1 rfl ⟨av0, rfl, ah0, lin0_0, c0⟩
 have hS := ifF q5 hS
 refine CW.skip ?_
 refine thn_n (CW.seq ?_)
 refine CW.seq (CW.region ?_)
 refine rl_move rfl rfl ?_
 refine rl_bin rfl rfl B.add rfl ?_
 refine rl_assign rfl rfl ?_
 refine RL.nil (thn_n ?_)
 obtain ⟨o17, ho18, hS⟩ := bindS hS
 refine CW.cutB (fun E' w' => ∃ (x6 : Int) (x7 : Int) (x8 : (List Candidate)), Sub [(0, av0), (5, (Value.int .i64 x6))] E' ∧ Ch (inBlk av0) w w' ∧ Lp.fin (x6, x7, x8) = o17 ∧ (Kd.fn1 Tryz.prog true k_Candidate Value.bool).rep (G F Bb (un (inBlk av0) S2)) w' a1 [av1] ∧ SlO k_Candidate 129 F Bb (un (inBlk av0) S2) w' x8 av0) ?_ ?_
 ·
  refine CW.loopS [(0, av0), (1, av1), (5, (Value.int .i64 y3)), (6, (Value.int .i64 (IntKind.i64.wrap (y3 + 1))))] ⟨rfl, rfl, rfl, rfl, trivial⟩ FUEL (fun m E w' => ∃ (x6 : Int) (x7 : Int) (x8 : (List Candidate)), E = [(0, av0), (1, av1), (5, (Value.int .i64 x6)), (6, (Value.int .i64 x7))] ∧ Ch (inBlk av0) w w' ∧ runW (F89_Candidat_b1 a1) m (x6, x7, x8) = some o17 ∧ (Kd.fn1 Tryz.prog true k_Candidate Value.bool).rep (G F Bb (un (inBlk av0) S2)) w' a1 [av1] ∧ SlO k_Candidate 129 F Bb (un (inBlk av0) S2) w' x8 av0)
      ⟨y3, IntKind.i64.wrap (y3 + 1), a0, rfl, c0, ho18, ah1, ah0⟩ ?_
  rintro _ _ w23 ⟨x6, x7, x8, rfl, c22, hL12, ah1, h9⟩
  obtain ⟨k21, q14, rfl, hq15⟩ := runW_some hL12
  have hb16 := hq15
  refine CW.seq ?_
  refine CW.seq (CW.region ?_)
  refine rl_move rfl rfl ?_
  refine rl_move rfl rfl ?_
  refine rl_lenR rfl (SlO.read (S' := S2) k_Candidate_pos h9 (fun b hs h => hs ((.inr h))) (fun b hb => linNot lin0_0 hd2 h2 b hb)) Tryz.underlying125 rfl ?_
  refine rl_bin rfl rfl B.lss rfl ?_
  refine RL.nil (thn_n ?_)
  refine CW.cond (t := decide (x7 < ((x8.length : Nat) : Int))) rfl (fun q25 => ?_) (fun q25 => ?_)
  ·
   have hb16 := ifT q25 hb16
   refine CW.skip ?_
   refine thn_n (CW.seq ?_)
   refine CW.block ?_
   refine CW.seq (CW.region ?_)
   refine rl_move rfl rfl ?_
   refine rl_move rfl rfl ?_
   obtain ⟨y32, hy33, hb16⟩ := bindS hb16
   refine rl_ixOR rfl h9 rfl (ixO_get hy33) k_Candidate_pos Tryz.underlying125 Tryz.sizeOf129 rfl ?_
   intro p26 o27 cs28 hr29 hs30 hg31
   obtain ⟨z34, rfl, h35⟩ := hr29
   refine rl_loadA (cs := (Candidate.c y32 z34)) rfl Tryz.isAgg129 Tryz.sizeOf129 (hs30) rfl rfl ?_
   refine rl_alloc (Candidate.c Candidate.z (Value.slice none 0 0)) Tryz.zeroValue129 rfl rfl ?_
   intro p36 w37 n38 k39
   have lo40 : ∀ b, inBlk (PV p36) b → w.heap.size ≤ b := fun b h => Nat.le_trans c22.size (n38.fresh b h)
   have d41 : ∀ b, inBlk (PV p36) b → ¬ inBlk av0 b := disNew n38.fresh (fun b hb => (h9.lt b hb).2)
   have ah1 := Kd.st ah1 n38.ch (admNew n38.fresh (fun _ x => x))
   have h9 := h9.st n38.ch (fun _ _ x => x) (admNew n38.fresh (fun _ x => x)) (fun b h => (.inr (.inl h)))
   have h35 := slRep.st kStr_pos h35 n38.ch (admNew n38.fresh (fun _ x => x))
   have c22 := c22.then0 n38.ch
   refine rl_storeA (vs := (Candidate.c y32 z34)) rfl rfl (Kd.one _ (show k_Candidate.rep (G F Bb (un (inBlk (PV p36)) (un (inBlk av0) S2))) w37 y32 (Candidate.c y32 z34) from ⟨z34, rfl, h35⟩)) Tryz.sizeOf129 rfl k39 rfl ?_
   intro w42 s44 c43 k45
   have ad46 : ∀ b, b < w37.heap.size → ¬ (un (inBlk (PV p36)) (un (inBlk av0) S2)) b → ¬ (inBlk (PV p36)) b ∧ ¬ (un (inBlk (PV p36)) (un (inBlk av0) S2)) b := fun b _ hs => ⟨fun h => hs (.inl h), hs⟩
   have ah1 := Kd.st ah1 c43 ad46
   have h9 := h9.st c43 (fun b hb h => (disSym d41) b hb h) ad46 (fun b h => (.inr (.inl h)))
   have h35 := slRep.st kStr_pos h35 c43 ad46
   have c22 := c22.then c43 (fun i hi h => absurd (lo40 i h) (Nat.not_le_of_lt hi))
   refine RL.nil (thn_n (CW.seq (CW.region ?_)))
   refine rl_move rfl rfl ?_
   refine rl_loadA (cs := (Candidate.c y32 z34)) rfl Tryz.isAgg129 Tryz.sizeOf129 (k45.segAt 0 23) rfl rfl ?_
   refine rl_fn1 (c := (Candidate.c y32 z34)) rfl rfl rfl ah1 (F' := (G F Bb (un (inBlk (PV p36)) (un (inBlk av0) S2)))) (xx := y32) (show k_Candidate.rep (G F Bb (un (inBlk (PV p36)) (un (inBlk av0) S2))) w42 y32 (Candidate.c y32 z34) from ⟨z34, rfl, h35⟩) rfl ?_
   intro w47 c48
   have ah1 := Kd.ch ah1 c48
   have h9 := h9.ch0 c48
   have h35 := slRep.ch kStr_pos h35 c48
   have k45 := k45.ch0 c48
   have c22 := c22.then0 c48
   refine rl_not rfl rfl ?_
   refine RL.nil (thn_n ?_)
   refine CW.cond (t := !(a1 y32)) rfl (fun q49 => ?_) (fun q49 => ?_)
   ·
    have hb16 := ifT q49 hb16
    refine CW.seq (CW.region ?_)
    refine rl_move rfl rfl ?_
    refine rl_move rfl rfl ?_
    refine rl_loadA (cs := (Candidate.c y32 z34)) rfl Tryz.isAgg129 Tryz.sizeOf129 (k45.segAt 0 23) rfl rfl ?_
    obtain ⟨y56, hy57, hb16⟩ := bindS hb16
    refine rl_ixO rfl h9 rfl (ixO_get hy57) Tryz.underlying125 Tryz.sizeOf129 rfl ?_
    intro p50 hg55
    refine rl_storeOA rfl rfl Tryz.sizeOf129 h9 hg55 (ixO_lt hy57) (show k_Candidate.rep (G F Bb (un (inBlk (PV p36)) (un (inBlk av0) S2))) w47 y32 (Candidate.c y32 z34) from ⟨z34, rfl, h35⟩) ?_
    intro w58 c59 h60
    have ad61 : ∀ b, b < w47.heap.size → ¬ (un (inBlk (PV p36)) (un (inBlk av0) S2)) b → ¬ (inBlk av0) b ∧ ¬ (un (inBlk (PV p36)) (un (inBlk av0) S2)) b := fun b _ hs => ⟨fun h => hs (.inr (.inl h)), hs⟩
    have ah1 := Kd.st ah1 c59 ad61
    have c22 := c22.then c59 (fun i hi h => (lin0_0 i h).elim (fun x => x) (fun x => absurd x (Nat.not_le_of_lt hi)))
    refine RL.nil (thn_n (CW.region ?_))
    refine rl_move rfl rfl ?_
    refine rl_bin rfl rfl B.add rfl ?_
    refine rl_assign rfl rfl ?_
    refine RL.nil ?_
    refine inB_n ?_
    refine thn_n (CW.region ?_)
    refine rl_move rfl rfl ?_
    refine rl_bin rfl rfl B.add rfl ?_
    refine rl_assign rfl rfl ?_
    refine RL.nil (thn_n ?_)
    have ad62 : ∀ b, b < w58.heap.size → ¬ (un (inBlk (PV p36)) (un (inBlk av0) S2)) b → ¬ nb b ∧ ¬ (un (inBlk av0) S2) b := fun b _ hs => ⟨fun x => x, fun h => hs (un_el h (fun h => (.inr (.inl h))) (fun h => (.inr (.inr h))))⟩
    have crf : Ch nb w58 w58 := Ch.refl
    have ah1 := Kd.st ah1 crf ad62
    have h60 := h60.st crf (fun _ _ x => x) ad62 (fun b h => (.inl h))
    have c22 := c22.then0 crf
    have hLn := runW_next hL12 hq15 hb16
    exact ⟨k21, Nat.lt_succ_self _, [(0, av0), (1, av1), (5, (Value.int .i64 (IntKind.i64.wrap (x6 + 1)))), (6, (Value.int .i64 (IntKind.i64.wrap (x7 + 1))))], ⟨rfl, rfl, rfl, rfl, trivial⟩, ⟨IntKind.i64.wrap (x6 + 1), IntKind.i64.wrap (x7 + 1), x8.set x6.toNat y32, rfl, c22, hLn, ah1, h60⟩⟩
   have hb16 := ifF q49 hb16
   refine CW.skip ?_
   refine inB_n ?_
   refine thn_n (CW.region ?_)
   refine rl_move rfl rfl ?_
   refine rl_bin rfl rfl B.add rfl ?_
   refine rl_assign rfl rfl ?_
   refine RL.nil (thn_n ?_)
   have ad63 : ∀ b, b < w47.heap.size → ¬ (un (inBlk (PV p36)) (un (inBlk av0) S2)) b → ¬ nb b ∧ ¬ (un (inBlk av0) S2) b := fun b _ hs => ⟨fun x => x, fun h => hs (un_el h (fun h => (.inr (.inl h))) (fun h => (.inr (.inr h))))⟩
   have crf : Ch nb w47 w47 := Ch.refl
   have ah1 := Kd.st ah1 crf ad63
   have h9 := h9.st crf (fun _ _ x => x) ad63 (fun b h => (.inl h))
   have c22 := c22.then0 crf
   have hLn := runW_next hL12 hq15 hb16
   exact ⟨k21, Nat.lt_succ_self _, [(0, av0), (1, av1), (5, (Value.int .i64 x6)), (6, (Value.int .i64 (IntKind.i64.wrap (x7 + 1))))], ⟨rfl, rfl, rfl, rfl, trivial⟩, ⟨x6, IntKind.i64.wrap (x7 + 1), x8, rfl, c22, hLn, ah1, h9⟩⟩
  have hb16 := ifF q25 hb16
  refine CW.exit ?_
  refine thn_exit ?_
  refine thn_exit ?_
  refine inB_hit ?_
  have hLf := runW_fin hL12 hq15 hb16
  exact ⟨x6, x7, x8, ⟨rfl, rfl, trivial⟩, c22, hLf, ah1, h9⟩
 rintro _ w65 ⟨x6, x7, x8, hE66, c64, f67, ah1, h9⟩
 have hS := finS f67 hS
 refine thn_n (CW.sub [(0, av0), (5, (Value.int .i64 x6))] hE66 ?_)
 refine CW.seq (CW.region ?_)
 refine rl_move rfl rfl ?_
 refine rl_move rfl rfl ?_
 obtain ⟨y69, hy70, hS⟩ := bindS hS
 refine rl_cutS rfl h9 rfl hy70 Tryz.underlying125 Tryz.sizeOf129 rfl ?_
 intro v71 h72
 refine rl_clearO (z0 := Candidate.z) rfl h72 (slO_le hy70) Tryz.underlying125 Tryz.zeroValue129 h9 (show k_Candidate.rep (G F Bb (un (inBlk av0) S2)) w65 Candidate.z (Candidate.c Candidate.z (Value.slice none 0 0)) from ⟨(Value.slice none 0 0), rfl, (.inl ⟨rfl, rfl⟩)⟩) ?_
 intro w73 c74 h75
 have ad76 : ∀ b, b < w65.heap.size → ¬ (un (inBlk av0) S2) b → ¬ (inBlk av0) b ∧ ¬ (un (inBlk av0) S2) b := fun b _ hs => ⟨fun h => hs (.inl h), hs⟩
 have ah1 := Kd.st ah1 c74 ad76
 have c64 := c64.then c74 (fun i hi h => (lin0_0 i h).elim (fun x => x) (fun x => absurd x (Nat.not_le_of_lt hi)))
 refine RL.nil (thn_n (CW.seq (CW.region ?_)))
 refine rl_move rfl rfl ?_
 refine rl_move rfl rfl ?_
 obtain ⟨y77, hy78, hS⟩ := bindS hS
 refine rl_cutO (kl := .i64) (kh := .i64) none (some x6) rfl h75 trivial rfl rfl hy78 Tryz.underlying125 Tryz.sizeOf129 rfl ?_
 intro v79 hb81 h80
 have lin82 : ∀ b, inBlk v79 b → (inBlk av0) b ∨ w.heap.size ≤ b := linApp lin0_0 (fun b h => .inl ((hb81 b).1 h)) c64.size
 have hS83 : (un (inBlk av0) S2) = (un (inBlk v79) S2) := by rw [show inBlk v79 = inBlk av0 from funext fun b => propext (hb81 b)]
 rw [hS83] at h80 ah1
 refine rl_assign rfl rfl ?_
 refine RL.nil (thn_n (CW.ret ?_))
 obtain rfl := Option.some.inj hS
 exact ret1 rfl ⟨v79, rfl, h80, lin82, c64⟩
/-- lb/pick.those -/
theorem ctr66 (F : Nat → Prop) (w : World) (a0 : (List Candidate)) (av0 : Value) (ah0 : slRep k_Candidate F w a0 av0) (a1 : (Candidate → Bool)) (av1 : Value) (ah1 : (Kd.fn1 Tryz.prog true k_Candidate Value.bool).rep F w a1 [av1]) (r : (List Candidate)) (hs : F66_those a0 a1 = some r) :
    Ret Tryz.prog 66 #[av0, av1] w fun v w' => ∃ (y0 : Value), v = y0 ∧ SlO k_Candidate 129 F w.heap.size (inBlk y0) w' r y0 ∧ Ch nb w w' := by
 have hS := hs
 have c0 : Ch nb w w := Ch.refl
 have ah0 := slRep.enter k_Candidate_pos ah0
 have ah1 := Kd.enter ah1
 refine Ret.of (n := 9) (args := [_, _]) (rs := [.tmp 4]) Tryz.func66 rfl rfl rfl rfl ?_
 refine CW.seq (CW.region ?_)
 refine rl_box [av1] rfl (fn_cells1 ah1) rfl ?_
 intro p1 w2 n3 k4
 have gp1 : (G F w.heap.size nb) p1 := ⟨.inr (by rw [n3.eq]; exact c0.size), fun h => absurd (nbS _ h) (by rw [n3.eq]; exact Nat.lt_irrefl _)⟩
 have ah0 := slRep.ch k_Candidate_pos ah0 n3.ch
 have ah1 := Kd.ch ah1 n3.ch
 have c0 := c0.then0 n3.ch
 refine rl_assign rfl rfl ?_
 refine RL.nil (thn_n (CW.seq (CW.region ?_)))
 refine rl_move rfl rfl ?_
 obtain ⟨y7, hy8, hS⟩ := bindS hS
 refine rl_callF rfl en90 rfl (ctr90 (G F w.heap.size nb) w2 a0 av0 ah0 y7 hy8) ?_
 rintro v9 w5 ⟨_, rfl, h10, c6⟩
 have hf11 : ∀ b, inBlk v9 b → w2.heap.size ≤ b := fun b hb => (h10.lt b hb).1
 have h10 := SlO.back (S' := un (inBlk v9) nb) h10 nbS c0.size (fun _ => Or.comm)
 have ah1 := Kd.st ah1 c6 (admNew hf11 (fun _ x => x))
 have gp1n : (G F w.heap.size (un (inBlk v9) nb)) p1 := ⟨gp1.1, ((admNew hf11 (fun _ x => x)) _ k4.lt gp1.2).2⟩
 have k4 := k4.ch0 c6
 have gp1 := gp1n
 have c0 := c0.then0 c6
 refine rl_makeFunc rfl rfl ?_
 have hd12 : ∀ b, (inBlk v9) b → ¬ nb b := fun b h => (fun b hb => fun h => h) b h
 have hS13 : (un (inBlk v9) nb) = (un (inBlk v9) nb) := rfl
 have ha14 := (show (Kd.fn1 Tryz.prog true k_Candidate Value.bool).rep (G F w.heap.size (un (inBlk v9) nb)) w5 (fun x0 => F91_1 x0 a1) [(Value.func (.func 91) #[] [(PV p1)].toArray)] from ⟨91, [(PV p1)], rfl, en91, fun w' hw F' x0 c0 hx0 => by
     obtain ⟨u0_0, rfl, e0_0⟩ := hx0
     exact (ctr91 (fun b => (G F w.heap.size (un (inBlk v9) nb)) b ∨ F' b) w' x0 u0_0 (slRep.wk kStr_pos e0_0 fun _ _ h => .inr h) a1 (PV p1) (Kd.mono _ (show ((Kd.fn1 Tryz.prog true k_Candidate Value.bool).box 147).rep (G F w.heap.size (un (inBlk v9) nb)) w5 a1 [(PV p1)] from ⟨p1, _, rfl, gp1, k4, ah1⟩) fun b hb hf => ⟨.inl hf, (hw b hb hf).2⟩) _ rfl).mono (by rintro v w'' ⟨rfl, c⟩; exact ⟨rfl, c⟩)⟩)
 rw [hS13] at ha14
 obtain ⟨y17, hy18, hS⟩ := bindS hS
 refine rl_callF rfl en89 rfl (ctr89 F w5 w.heap.size nb c0.size nbS v9 hd12  y7 (hS13 ▸ h10) (fun x0 => F91_1 x0 a1) (Value.func (.func 91) #[] [(PV p1)].toArray) ha14 y17 hy18) ?_
 rintro v19 w15 ⟨_, rfl, h20, hf21, c16⟩
 have c0 := c0.then c16 (fun i hi h => absurd ((fun b hb => (h10.lt b hb).1) i h) (Nat.not_le_of_lt hi))
 refine rl_assign rfl rfl ?_
 refine RL.nil (thn_n (CW.ret ?_))
 obtain rfl := Option.some.inj hS
 exact ret1 rfl ⟨v19, rfl, h20.out, c0⟩
/-- lb/pick.local -/
theorem ctr67 (F : Nat → Prop) (w : World) (a0 : Candidate) (az0_0 : Value) (ah0_0 : slRep kStr F w a0.zones az0_0) (r : Bool) (hs : F67_local a0 = r) :
    Ret Tryz.prog 67 #[(Value.agg (Candidate.c a0 az0_0).toArray)] w fun v w' => v = (Value.bool r) ∧ Ch nb w w' := by
 have hS := hs
 have c0 : Ch nb w w := Ch.refl
 refine Ret.of (n := 5) (args := [_]) (rs := [.tmp 2]) Tryz.func67 rfl rfl rfl rfl ?_
 refine CW.seq (CW.region ?_)
 refine rl_boxA (cs := (Candidate.c a0 az0_0)) rfl rfl ?_
 intro p1 w2 n3 k4
 have c0 := c0.then0 n3.ch
 refine rl_assign rfl rfl ?_
 refine RL.nil (thn_n (CW.seq (CW.region ?_)))
 refine rl_fieldAddr rfl fa129_1 rfl ?_
 refine rl_loadS (v := (Value.bool a0.localF)) rfl Tryz.isAgg4 (k4.cell rfl) rfl ?_
 refine rl_assign rfl rfl ?_
 refine RL.nil (thn_n (CW.ret ?_))
 obtain rfl := hS
 exact ret1 rfl ⟨rfl, c0⟩
/-- lb/pick.ready -/
theorem ctr69 (F : Nat → Prop) (w : World) (a0 : Candidate) (az0_0 : Value) (ah0_0 : slRep kStr F w a0.zones az0_0) (r : Bool) (hs : F69_ready a0 = r) :
    Ret Tryz.prog 69 #[(Value.agg (Candidate.c a0 az0_0).toArray)] w fun v w' => v = (Value.bool r) ∧ Ch nb w w' := by
 have hS := hs
 have c0 : Ch nb w w := Ch.refl
 refine Ret.of (n := 5) (args := [_]) (rs := [.tmp 2]) Tryz.func69 rfl rfl rfl rfl ?_
 refine CW.seq (CW.region ?_)
 refine rl_boxA (cs := (Candidate.c a0 az0_0)) rfl rfl ?_
 intro p1 w2 n3 k4
 have c0 := c0.then0 n3.ch
 refine rl_assign rfl rfl ?_
 refine RL.nil (thn_n (CW.seq (CW.region ?_)))
 refine rl_fieldAddr rfl fa129_2 rfl ?_
 refine rl_loadS (v := (Value.bool a0.ready)) rfl Tryz.isAgg4 (k4.cell rfl) rfl ?_
 refine rl_assign rfl rfl ?_
 refine RL.nil (thn_n (CW.ret ?_))
 obtain rfl := hS
 exact ret1 rfl ⟨rfl, c0⟩
/-- lb/pick.leaving -/
theorem ctr88 (F : Nat → Prop) (w : World) (a0 : Candidate) (az0_0 : Value) (ah0_0 : slRep kStr F w a0.zones az0_0) (r : Bool) (hs : F88_leaving a0 = r) :
    Ret Tryz.prog 88 #[(Value.agg (Candidate.c a0 az0_0).toArray)] w fun v w' => v = (Value.bool r) ∧ Ch nb w w' := by
 have hS := hs
 have c0 : Ch nb w w := Ch.refl
 refine Ret.of (n := 9) (args := [_]) (rs := [.tmp 2]) Tryz.func88 rfl rfl rfl rfl ?_
 refine CW.seq (CW.region ?_)
 refine rl_boxA (cs := (Candidate.c a0 az0_0)) rfl rfl ?_
 intro p1 w2 n3 k4
 have c0 := c0.then0 n3.ch
 refine rl_assign rfl rfl ?_
 refine RL.nil (thn_n (CW.seq (CW.region ?_)))
 refine rl_fieldAddr rfl fa129_3 rfl ?_
 refine rl_loadS (v := (Value.bool a0.serving)) rfl Tryz.isAgg4 (k4.cell rfl) rfl ?_
 refine rl_move rfl rfl ?_
 obtain ⟨b7, hb8⟩ : ∃ v, (a0.serving && a0.terminating) = v := ⟨_, rfl⟩
 have hS := ltS hb8 hS
 refine RL.join 3 8 (.bool b7) (fun w' => Ch nb w2 w') ?_ ?_
 · rcases Bool.eq_false_or_eq_true a0.serving with hg6 | hg6
   ·
    have hs5 := and_t hg6 hb8
    have cs : Ch nb w2 w2 := Ch.refl
    refine RL.yes rfl rfl rfl hg6 ?_
    refine rl_fieldAddr rfl fa129_4 rfl ?_
    refine RL.yes rfl rfl rfl hg6 ?_
    refine rl_loadS (v := (Value.bool a0.terminating)) rfl Tryz.isAgg4 (k4.cell rfl) rfl ?_
    refine rl_pickT rfl hg6 rfl rfl ?_
    exact RL.nil ⟨Ext.bothEq (congrArg Value.bool hs5) (Ext.skip rfl (Ext.skip rfl (Ext.rfl'))), cs⟩
   ·
    have hs5 := and_f hg6 hb8
    have cs : Ch nb w2 w2 := Ch.refl
    refine RL.no rfl rfl rfl hg6 rfl rfl ?_
    refine RL.no rfl rfl rfl hg6 rfl rfl ?_
    refine rl_pickF rfl hg6 rfl rfl ?_
    exact RL.nil ⟨Ext.bothEq (congrArg Value.bool hs5) (Ext.skip rfl (Ext.skip rfl (Ext.rfl'))), cs⟩
 intro w9 c10
 have c0 := c0.then0 c10
 refine rl_assign rfl rfl ?_
 refine RL.nil (thn_n (CW.ret ?_))
 obtain rfl := hS
 exact ret1 rfl ⟨rfl, c0⟩
/-- lb/pick.Usable -/
theorem ctr65 (F : Nat → Prop) (w : World) (a0 : (List Candidate)) (av0 : Value) (ah0 : slRep k_Candidate F w a0 av0) (r : (List Candidate)) (hs : F65_Usable a0 = some r) :
    Ret Tryz.prog 65 #[av0] w fun v w' => ∃ (y0 : Value), v = y0 ∧ SlO k_Candidate 129 F w.heap.size (inBlk y0) w' r y0 ∧ Ch nb w w' := by
 have hS := hs
 have c0 : Ch nb w w := Ch.refl
 have ah0 := slRep.enter k_Candidate_pos ah0
 refine Ret.of (n := 12) (args := [_]) (rs := [.tmp 2]) Tryz.func65 rfl rfl rfl rfl ?_
 refine CW.seq (CW.region ?_)
 refine rl_assign rfl rfl ?_
 refine RL.nil (thn_n (CW.seq ?_))
 refine CW.seq (CW.region ?_)
 refine rl_move rfl rfl ?_
 obtain ⟨y3, hy4, hS⟩ := bindS hS
 refine rl_callF rfl en66 rfl (ctr66 (G F w.heap.size nb) w a0 av0 ah0 (fun x0 => F69_ready x0) (Value.func (.func 69) #[] [].toArray) (show (Kd.fn1 Tryz.prog true k_Candidate Value.bool).rep (G F w.heap.size nb) w (fun x0 => F69_ready x0) [(Value.func (.func 69) #[] [].toArray)] from ⟨69, [], rfl, en69, fun w' hw F' x0 c0 hx0 => by
     obtain ⟨u0_0, rfl, e0_0⟩ := hx0
     exact (ctr69 (fun b => (G F w.heap.size nb) b ∨ F' b) w' x0 u0_0 (slRep.wk kStr_pos e0_0 fun _ _ h => .inr h) _ rfl).mono (by rintro v w'' ⟨rfl, c⟩; exact ⟨rfl, c⟩)⟩) y3 hy4) ?_
 rintro v5 w1 ⟨_, rfl, h6, c2⟩
 have hf7 : ∀ b, inBlk v5 b → w.heap.size ≤ b := fun b hb => (h6.lt b hb).1
 have h6 := SlO.back (S' := un (inBlk v5) nb) h6 nbS c0.size (fun _ => Or.comm)
 have ah0 := slRep.st k_Candidate_pos ah0 c2 (admNew hf7 (fun _ x => x))
 have c0 := c0.then0 c2
 refine rl_assign rfl rfl ?_
 refine RL.nil (thn_n (CW.seq (CW.region ?_)))
 refine rl_move rfl rfl ?_
 refine rl_lenR rfl (SlO.read (S' := nb) k_Candidate_pos h6 (fun b hs h => hs (False.elim h)) (fun b hb => fun h => h)) Tryz.underlying125 rfl ?_
 refine rl_bin rfl rfl B.gtr rfl ?_
 refine RL.nil (thn_n ?_)
 refine CW.cond (t := decide (((y3.length : Nat) : Int) > 0)) rfl (fun q8 => ?_) (fun q8 => ?_)
 ·
  have hS := ifT q8 hS
  refine CW.seq (CW.region ?_)
  refine rl_move rfl rfl ?_
  refine rl_assign rfl rfl ?_
  refine RL.nil (thn_n (CW.ret ?_))
  refine thn_ret ?_
  obtain rfl := Option.some.inj hS
  exact ret1 rfl ⟨v5, rfl, h6.out, c0⟩
 have hS := ifF q8 hS
 refine CW.skip ?_
 refine thn_n (CW.seq (CW.region ?_))
 refine rl_move rfl rfl ?_
 obtain ⟨y11, hy12, hS⟩ := bindS hS
 refine rl_callF rfl en66 rfl (ctr66 (G F w.heap.size (un (inBlk v5) nb)) w1 a0 av0 ah0 (fun x0 => F88_leaving x0) (Value.func (.func 88) #[] [].toArray) (show (Kd.fn1 Tryz.prog true k_Candidate Value.bool).rep (G F w.heap.size (un (inBlk v5) nb)) w1 (fun x0 => F88_leaving x0) [(Value.func (.func 88) #[] [].toArray)] from ⟨88, [], rfl, en88, fun w' hw F' x0 c0 hx0 => by
     obtain ⟨u0_0, rfl, e0_0⟩ := hx0
     exact (ctr88 (fun b => (G F w.heap.size (un (inBlk v5) nb)) b ∨ F' b) w' x0 u0_0 (slRep.wk kStr_pos e0_0 fun _ _ h => .inr h) _ rfl).mono (by rintro v w'' ⟨rfl, c⟩; exact ⟨rfl, c⟩)⟩) y11 hy12) ?_
 rintro v13 w9 ⟨_, rfl, h14, c10⟩
 have h14 := SlO.back (S' := un (inBlk v13) (un (inBlk v5) nb)) h14 (un_lt (fun b hb => (h6.lt b hb).2) nbS) c0.size (fun _ => Or.comm)
 have c0 := c0.then0 c10
 refine rl_assign rfl rfl ?_
 refine RL.nil (thn_n (CW.ret ?_))
 obtain rfl := Option.some.inj hS
 exact ret1 rfl ⟨v13, rfl, h14.out, c0⟩
/-- slices.ContainsFunc[[]lb/hints.Candidate,lb/hints.Candidate] -/
theorem ctr68 (F : Nat → Prop) (w : World) (a0 : (List Candidate)) (av0 : Value) (ah0 : slRep k_Candidate F w a0 av0) (a1 : (Candidate → Bool)) (av1 : Value) (ah1 : (Kd.fn1 Tryz.prog true k_Candidate Value.bool).rep F w a1 [av1]) (r : Bool) (hs : F68_Candidat a0 a1 = r) :
    Ret Tryz.prog 68 #[av0, av1] w fun v w' => v = (Value.bool r) ∧ Ch nb w w' := by
 have hS := hs
 have c0 : Ch nb w w := Ch.refl
 have ah0 := slRep.enter k_Candidate_pos ah0
 have ah1 := Kd.enter ah1
 refine Ret.of (n := 9) (args := [_, _]) (rs := [.tmp 4]) Tryz.func68 rfl rfl rfl rfl ?_
 refine CW.seq (CW.region ?_)
 refine rl_assign rfl rfl ?_
 refine RL.nil (thn_n (CW.seq (CW.region ?_)))
 refine rl_move rfl rfl ?_
 refine rl_move rfl rfl ?_
 obtain ⟨y3, hy4⟩ : ∃ y, F92_Candidat a0 a1 = y := ⟨_, rfl⟩
 have hS := ltS hy4 hS
 refine rl_callF rfl en92 rfl (ctr92 (G F w.heap.size nb) w a0 av0 ah0 a1 av1 ah1 y3 hy4) ?_
 rintro _ w1 ⟨rfl, c2⟩
 have c0 := c0.then0 c2
 refine rl_bin rfl rfl B.geq rfl ?_
 refine rl_assign rfl rfl ?_
 refine RL.nil (thn_n (CW.ret ?_))
 obtain rfl := hS
 exact ret1 rfl ⟨rfl, c0⟩
/-- lb/hints.kept$1 -/
theorem ctr120 (F : Nat → Prop) (w : World) (a0 : Candidate) (az0_0 : Value) (ah0_0 : slRep kStr F w a0.zones az0_0) (a1 : (Candidate → Bool)) (av1 : Value) (ah1 : ((Kd.fn1 Tryz.prog true k_Candidate Value.bool).box 147).rep F w a1 [av1]) (r : Bool) (hs : F120_1 a0 a1 = r) :
    Ret Tryz.prog 120 #[(Value.agg (Candidate.c a0 az0_0).toArray), av1] w fun v w' => v = (Value.bool r) ∧ Ch nb w w' := by
 have hS := hs
 have c0 : Ch nb w w := Ch.refl
 have ah0_0 := slRep.enter kStr_pos ah0_0
 have ah1 := Kd.enter ah1
 refine Ret.of (n := 8) (args := [_, _]) (rs := [.tmp 3]) Tryz.func120 rfl rfl rfl rfl ?_
 refine CW.seq (CW.region ?_)
 refine rl_boxA (cs := (Candidate.c a0 az0_0)) rfl rfl ?_
 intro p1 w2 n3 k4
 have ah0_0 := slRep.ch kStr_pos ah0_0 n3.ch
 have ah1 := Kd.ch ah1 n3.ch
 have c0 := c0.then0 n3.ch
 refine rl_assign rfl rfl ?_
 refine RL.nil (thn_n (CW.seq (CW.region ?_)))
 obtain ⟨p5, cc6, e7, gf8, k9, h10⟩ := ah1
 obtain rfl := (List.cons.inj e7).1
 obtain ⟨u11, rfl⟩ : ∃ u, cc6 = [u] := List.length_eq_one_iff.1 (Kd.len _ h10)
 refine rl_loadS (v := u11) rfl Tryz.isAgg147 (k9.cell rfl) rfl ?_
 refine rl_loadA (cs := (Candidate.c a0 az0_0)) rfl Tryz.isAgg129 Tryz.sizeOf129 (k4.segAt 0 23) rfl rfl ?_
 refine rl_fn1 (c := (Candidate.c a0 az0_0)) rfl rfl rfl h10 (F' := (G F w.heap.size nb)) (xx := a0) (show k_Candidate.rep (G F w.heap.size nb) w2 a0 (Candidate.c a0 az0_0) from ⟨az0_0, rfl, ah0_0⟩) rfl ?_
 intro w12 c13
 have c0 := c0.then0 c13
 refine rl_not rfl rfl ?_
 refine rl_assign rfl rfl ?_
 refine RL.nil (thn_n (CW.ret ?_))
 obtain rfl := hS
 exact ret1 rfl ⟨rfl, c0⟩
/-- lb/hints.kept -/
theorem ctr95 (F : Nat → Prop) (w : World) (a0 : (List Candidate)) (av0 : Value) (ah0 : slRep k_Candidate F w a0 av0) (a1 : (Candidate → Bool)) (av1 : Value) (ah1 : (Kd.fn1 Tryz.prog true k_Candidate Value.bool).rep F w a1 [av1]) (r : (List Candidate)) (hs : F95_kept a0 a1 = some r) :
    Ret Tryz.prog 95 #[av0, av1] w fun v w' => ∃ (y0 : Value), v = y0 ∧ SlO k_Candidate 129 F w.heap.size (inBlk y0) w' r y0 ∧ Ch nb w w' := by
 have hS := hs
 have c0 : Ch nb w w := Ch.refl
 have ah0 := slRep.enter k_Candidate_pos ah0
 have ah1 := Kd.enter ah1
 refine Ret.of (n := 9) (args := [_, _]) (rs := [.tmp 4]) Tryz.func95 rfl rfl rfl rfl ?_
 refine CW.seq (CW.region ?_)
 refine rl_box [av1] rfl (fn_cells1 ah1) rfl ?_
 intro p1 w2 n3 k4
 have gp1 : (G F w.heap.size nb) p1 := ⟨.inr (by rw [n3.eq]; exact c0.size), fun h => absurd (nbS _ h) (by rw [n3.eq]; exact Nat.lt_irrefl _)⟩
 have ah0 := slRep.ch k_Candidate_pos ah0 n3.ch
 have ah1 := Kd.ch ah1 n3.ch
 have c0 := c0.then0 n3.ch
 refine rl_assign rfl rfl ?_
 refine RL.nil (thn_n (CW.seq (CW.region ?_)))
 refine rl_move rfl rfl ?_
 obtain ⟨y7, hy8, hS⟩ := bindS hS
 refine rl_callF rfl en90 rfl (ctr90 (G F w.heap.size nb) w2 a0 av0 ah0 y7 hy8) ?_
 rintro v9 w5 ⟨_, rfl, h10, c6⟩
 have hf11 : ∀ b, inBlk v9 b → w2.heap.size ≤ b := fun b hb => (h10.lt b hb).1
 have h10 := SlO.back (S' := un (inBlk v9) nb) h10 nbS c0.size (fun _ => Or.comm)
 have ah1 := Kd.st ah1 c6 (admNew hf11 (fun _ x => x))
 have gp1n : (G F w.heap.size (un (inBlk v9) nb)) p1 := ⟨gp1.1, ((admNew hf11 (fun _ x => x)) _ k4.lt gp1.2).2⟩
 have k4 := k4.ch0 c6
 have gp1 := gp1n
 have c0 := c0.then0 c6
 refine rl_makeFunc rfl rfl ?_
 have hd12 : ∀ b, (inBlk v9) b → ¬ nb b := fun b h => (fun b hb => fun h => h) b h
 have hS13 : (un (inBlk v9) nb) = (un (inBlk v9) nb) := rfl
 have ha14 := (show (Kd.fn1 Tryz.prog true k_Candidate Value.bool).rep (G F w.heap.size (un (inBlk v9) nb)) w5 (fun x0 => F120_1 x0 a1) [(Value.func (.func 120) #[] [(PV p1)].toArray)] from ⟨120, [(PV p1)], rfl, en120, fun w' hw F' x0 c0 hx0 => by
     obtain ⟨u0_0, rfl, e0_0⟩ := hx0
     exact (ctr120 (fun b => (G F w.heap.size (un (inBlk v9) nb)) b ∨ F' b) w' x0 u0_0 (slRep.wk kStr_pos e0_0 fun _ _ h => .inr h) a1 (PV p1) (Kd.mono _ (show ((Kd.fn1 Tryz.prog true k_Candidate Value.bool).box 147).rep (G F w.heap.size (un (inBlk v9) nb)) w5 a1 [(PV p1)] from ⟨p1, _, rfl, gp1, k4, ah1⟩) fun b hb hf => ⟨.inl hf, (hw b hb hf).2⟩) _ rfl).mono (by rintro v w'' ⟨rfl, c⟩; exact ⟨rfl, c⟩)⟩)
 rw [hS13] at ha14
 obtain ⟨y17, hy18, hS⟩ := bindS hS
 refine rl_callF rfl en89 rfl (ctr89 F w5 w.heap.size nb c0.size nbS v9 hd12  y7 (hS13 ▸ h10) (fun x0 => F120_1 x0 a1) (Value.func (.func 120) #[] [(PV p1)].toArray) ha14 y17 hy18) ?_
 rintro v19 w15 ⟨_, rfl, h20, hf21, c16⟩
 have c0 := c0.then c16 (fun i hi h => absurd ((fun b hb => (h10.lt b hb).1) i h) (Nat.not_le_of_lt hi))
 refine rl_assign rfl rfl ?_
 refine RL.nil (thn_n (CW.ret ?_))
 obtain rfl := Option.some.inj hS
 exact ret1 rfl ⟨v19, rfl, h20.out, c0⟩
/-- lb/hints.ready$1 -/
theorem ctr117 (F : Nat → Prop) (w : World) (a0 : Candidate) (az0_0 : Value) (ah0_0 : slRep kStr F w a0.zones az0_0) (r : Bool) (hs : F117_1 a0 = r) :
    Ret Tryz.prog 117 #[(Value.agg (Candidate.c a0 az0_0).toArray)] w fun v w' => v = (Value.bool r) ∧ Ch nb w w' := by
 have hS := hs
 have c0 : Ch nb w w := Ch.refl
 refine Ret.of (n := 5) (args := [_]) (rs := [.tmp 2]) Tryz.func117 rfl rfl rfl rfl ?_
 refine CW.seq (CW.region ?_)
 refine rl_boxA (cs := (Candidate.c a0 az0_0)) rfl rfl ?_
 intro p1 w2 n3 k4
 have c0 := c0.then0 n3.ch
 refine rl_assign rfl rfl ?_
 refine RL.nil (thn_n (CW.seq (CW.region ?_)))
 refine rl_fieldAddr rfl fa129_2 rfl ?_
 refine rl_loadS (v := (Value.bool a0.ready)) rfl Tryz.isAgg4 (k4.cell rfl) rfl ?_
 refine rl_assign rfl rfl ?_
 refine RL.nil (thn_n (CW.ret ?_))
 obtain rfl := hS
 exact ret1 rfl ⟨rfl, c0⟩
/-- lb/hints.ready -/
theorem ctr93 (F : Nat → Prop) (w : World) (a0 : (List Candidate)) (av0 : Value) (ah0 : slRep k_Candidate F w a0 av0) (r : (List Candidate)) (hs : F93_ready a0 = some r) :
    Ret Tryz.prog 93 #[av0] w fun v w' => ∃ (y0 : Value), v = y0 ∧ SlO k_Candidate 129 F w.heap.size (inBlk y0) w' r y0 ∧ Ch nb w w' := by
 have hS := hs
 have c0 : Ch nb w w := Ch.refl
 have ah0 := slRep.enter k_Candidate_pos ah0
 refine Ret.of (n := 5) (args := [_]) (rs := [.tmp 2]) Tryz.func93 rfl rfl rfl rfl ?_
 refine CW.seq (CW.region ?_)
 refine rl_assign rfl rfl ?_
 refine RL.nil (thn_n (CW.seq (CW.region ?_)))
 refine rl_move rfl rfl ?_
 obtain ⟨y3, hy4, hS⟩ := bindS hS
 refine rl_callF rfl en95 rfl (ctr95 (G F w.heap.size nb) w a0 av0 ah0 (fun x0 => F117_1 x0) (Value.func (.func 117) #[] [].toArray) (show (Kd.fn1 Tryz.prog true k_Candidate Value.bool).rep (G F w.heap.size nb) w (fun x0 => F117_1 x0) [(Value.func (.func 117) #[] [].toArray)] from ⟨117, [], rfl, en117, fun w' hw F' x0 c0 hx0 => by
     obtain ⟨u0_0, rfl, e0_0⟩ := hx0
     exact (ctr117 (fun b => (G F w.heap.size nb) b ∨ F' b) w' x0 u0_0 (slRep.wk kStr_pos e0_0 fun _ _ h => .inr h) _ rfl).mono (by rintro v w'' ⟨rfl, c⟩; exact ⟨rfl, c⟩)⟩) y3 hy4) ?_
 rintro v5 w1 ⟨_, rfl, h6, c2⟩
 have h6 := SlO.back (S' := un (inBlk v5) nb) h6 nbS c0.size (fun _ => Or.comm)
 have c0 := c0.then0 c2
 refine rl_assign rfl rfl ?_
 refine RL.nil (thn_n (CW.ret ?_))
 obtain rfl := Option.some.inj hS
 exact ret1 rfl ⟨v5, rfl, h6.out, c0⟩
/-- lb/hints.Count$1 -/
theorem ctr118 (F : Nat → Prop) (w : World) (a0 : Candidate) (az0_0 : Value) (ah0_0 : slRep kStr F w a0.zones az0_0) (r : Bool) (hs : F118_1 a0 = r) :
    Ret Tryz.prog 118 #[(Value.agg (Candidate.c a0 az0_0).toArray)] w fun v w' => v = (Value.bool r) ∧ Ch nb w w' := by
 have hS := hs
 have c0 : Ch nb w w := Ch.refl
 have ah0_0 := slRep.enter kStr_pos ah0_0
 refine Ret.of (n := 7) (args := [_]) (rs := [.tmp 2]) Tryz.func118 rfl rfl rfl rfl ?_
 refine CW.seq (CW.region ?_)
 refine rl_boxA (cs := (Candidate.c a0 az0_0)) rfl rfl ?_
 intro p1 w2 n3 k4
 have ah0_0 := slRep.ch kStr_pos ah0_0 n3.ch
 have c0 := c0.then0 n3.ch
 refine rl_assign rfl rfl ?_
 refine RL.nil (thn_n (CW.seq (CW.region ?_)))
 refine rl_fieldAddr rfl fa129_5 rfl ?_
 refine rl_loadS (v := az0_0) rfl Tryz.isAgg115 (k4.cell rfl) rfl ?_
 refine rl_lenR rfl ah0_0 Tryz.underlying115 rfl ?_
 refine rl_bin rfl rfl B.eql rfl ?_
 refine rl_assign rfl rfl ?_
 refine RL.nil (thn_n (CW.ret ?_))
 obtain rfl := hS
 exact ret1 rfl ⟨rfl, c0⟩
/-- slices.Index[[]string,string] -/
theorem ctr137 (F : Nat → Prop) (w : World) (a0 : (List ByteArray)) (av0 : Value) (ah0 : slRep kStr F w a0 av0) (a1 : ByteArray) (r : Int) (hs : F137_string a0 a1 = r) :
    Ret Tryz.prog 137 #[av0, (Value.string a1)] w fun v w' => v = (Value.int .i64 r) ∧ Ch nb w w' := by
 have hS := hs
 have c0 : Ch nb w w := Ch.refl
 have ah0 := slRep.enter kStr_pos ah0
 refine Ret.of (n := 19) (args := [_, _]) (rs := [.tmp 4]) Tryz.func137 rfl rfl rfl rfl ?_
 refine CW.seq (CW.region ?_)
 refine rl_assign rfl rfl ?_
 refine RL.nil (thn_n (CW.seq ?_))
 refine CW.seq (CW.region ?_)
 refine rl_move rfl rfl ?_
 refine rl_lenR rfl ah0 Tryz.underlying115 rfl ?_
 refine rl_move rfl rfl ?_
 refine RL.nil (thn_n ?_)
 obtain ⟨o8, ho9⟩ : ∃ o, runB (F137_string_b1 a1) a0 0 = o := ⟨_, rfl⟩
 have hS := ltS ho9 hS
 refine CW.cutB (fun E' w' => ∃ (ix15 : Nat), Sub [] E' ∧ Ch nb w w' ∧ Lp.fin ix15 = o8 ∧ slRep kStr (G F w.heap.size nb) w' a0 av0) ?_ ?_
 ·
  refine CW.loopS [(0, av0), (1, (Value.string a1)), (7, (Value.int .i64 ((a0.length : Nat) : Int))), (8, (Value.int .i64 ((0 : Nat) : Int)))] ⟨rfl, rfl, rfl, rfl, trivial⟩ a0.length (fun m E w' => ∃ (rest1 : List ByteArray) (i2 : Nat) , m = rest1.length ∧ E = [(0, av0), (1, (Value.string a1)), (7, (Value.int .i64 ((a0.length : Nat) : Int))), (8, (Value.int .i64 ((i2 : Nat) : Int)))] ∧ Ch nb w w' ∧ At a0 i2 rest1 ∧ runB (F137_string_b1 a1) rest1 i2 = o8 ∧ slRep kStr (G F w.heap.size nb) w' a0 av0)
      ⟨a0, 0, rfl, rfl, c0, At.start, ho9, ah0⟩ ?_
  rintro _ _ w14 ⟨rest1, i2, rfl, rfl, c13, hat4, hL3, ah0⟩
  refine CW.seq (CW.region ?_)
  refine rl_bin rfl rfl B.lss rfl ?_
  refine RL.nil (thn_n ?_)
  refine CW.seq ?_
  refine CW.cond (t := decide (((i2 : Nat) : Int) < ((a0.length : Nat) : Int))) rfl (fun q16 => ?_) (fun q16 => ?_)
  ·
   obtain ⟨x10, rest17, rfl⟩ := hat4.cons q16
   obtain ⟨q5, hq6⟩ : ∃ q, (F137_string_b1 a1) x10 i2 = q := ⟨_, rfl⟩
   have hb7 := hq6
   refine CW.skip (thn_n ?_)
   refine CW.seq ?_
   refine CW.block ?_
   refine CW.seq (CW.region ?_)
   refine rl_move rfl rfl ?_
   refine rl_assign rfl rfl ?_
   refine RL.nil (thn_n (CW.seq (CW.region ?_)))
   refine rl_move rfl rfl ?_
   refine rl_move rfl rfl ?_
   refine rl_move rfl rfl ?_
   refine rl_ixR rfl ah0 rfl hat4.get Tryz.underlying115 Tryz.sizeOf9 rfl ?_
   intro p18 o19 cs20 hr21 hs22 hg23
   obtain rfl := hr21
   refine rl_loadS (v := (Value.string x10)) rfl Tryz.isAgg9 (hs22 0 _ rfl) rfl ?_
   refine rl_bin rfl rfl B.eqlS rfl ?_
   refine RL.nil (thn_n ?_)
   refine CW.cond (t := decide (a1 = x10)) rfl (fun q24 => ?_) (fun q24 => ?_)
   ·
    have hb7 := ifT q24 hb7
    refine CW.seq (CW.region ?_)
    refine rl_move rfl rfl ?_
    refine rl_assign rfl rfl ?_
    refine RL.nil (thn_n (CW.ret ?_))
    refine inB_ret ?_
    refine thn_ret ?_
    refine thn_ret (inB_ret (thn_ret ?_))
    refine thn_ret ?_
    have f25 := runB_ret hL3 (hb7.trans hq6.symm)
    have hS := retS f25 hS
    obtain rfl := hS
    exact ret1 rfl ⟨rfl, c13⟩
   have hb7 := ifF q24 hb7
   refine CW.skip ?_
   refine inB_n ?_
   refine thn_n (CW.region ?_)
   refine rl_inc rfl hat4.lt ah0.big rfl ?_
   refine rl_move rfl rfl ?_
   refine RL.nil (thn_n ?_)
   have hLn := runB_next hL3 (hb7.trans hq6.symm)
   exact ⟨rest17.length, Nat.lt_succ_self _, [(0, av0), (1, (Value.string a1)), (7, (Value.int .i64 ((a0.length : Nat) : Int))), (8, (Value.int .i64 ((i2 + 1 : Nat) : Int)))], ⟨rfl, rfl, rfl, rfl, trivial⟩, ⟨rest17, i2 + 1, rfl, rfl, c13, hat4.next, hLn, ah0⟩⟩
  obtain rfl := hat4.nil q16
  have hLf : Lp.fin i2 = o8 := hL3
  refine CW.exit (thn_exit (thn_exit (inB_hit ?_)))
  exact ⟨i2, trivial, c13, hLf, ah0⟩
 rintro _ w27 ⟨ix15, hE28, c26, f29, ah0⟩
 have hS := finS f29 hS
 refine thn_n (CW.sub [] hE28 ?_)
 refine CW.seq (CW.region ?_)
 refine rl_assign rfl rfl ?_
 refine RL.nil (thn_n (CW.ret ?_))
 obtain rfl := hS
 exact ret1 rfl ⟨rfl, c26⟩
/-- slices.Contains[[]string,string] -/
theorem ctr121 (F : Nat → Prop) (w : World) (a0 : (List ByteArray)) (av0 : Value) (ah0 : slRep kStr F w a0 av0) (a1 : ByteArray) (r : Bool) (hs : F121_string a0 a1 = r) :
    Ret Tryz.prog 121 #[av0, (Value.string a1)] w fun v w' => v = (Value.bool r) ∧ Ch nb w w' := by
 have hS := hs
 have c0 : Ch nb w w := Ch.refl
 have ah0 := slRep.enter kStr_pos ah0
 refine Ret.of (n := 9) (args := [_, _]) (rs := [.tmp 4]) Tryz.func121 rfl rfl rfl rfl ?_
 refine CW.seq (CW.region ?_)
 refine rl_assign rfl rfl ?_
 refine RL.nil (thn_n (CW.seq (CW.region ?_)))
 refine rl_move rfl rfl ?_
 refine rl_move rfl rfl ?_
 obtain ⟨y3, hy4⟩ : ∃ y, F137_string a0 a1 = y := ⟨_, rfl⟩
 have hS := ltS hy4 hS
 refine rl_callF rfl en137 rfl (ctr137 (G F w.heap.size nb) w a0 av0 ah0 a1 y3 hy4) ?_
 rintro _ w1 ⟨rfl, c2⟩
 have c0 := c0.then0 c2
 refine rl_bin rfl rfl B.geq rfl ?_
 refine rl_assign rfl rfl ?_
 refine RL.nil (thn_n (CW.ret ?_))
 obtain rfl := hS
 exact ret1 rfl ⟨rfl, c0⟩
/-- lb/hints.Meant -/
theorem ctr97 (F : Nat → Prop) (w : World) (a0 : Candidate) (az0_0 : Value) (ah0_0 : slRep kStr F w a0.zones az0_0) (a1 : ByteArray) (r : Bool) (hs : F97_Meant a0 a1 = r) :
    Ret Tryz.prog 97 #[(Value.agg (Candidate.c a0 az0_0).toArray), (Value.string a1)] w fun v w' => v = (Value.bool r) ∧ Ch nb w w' := by
 have hS := hs
 have c0 : Ch nb w w := Ch.refl
 have ah0_0 := slRep.enter kStr_pos ah0_0
 refine Ret.of (n := 9) (args := [_, _]) (rs := [.tmp 4]) Tryz.func97 rfl rfl rfl rfl ?_
 refine CW.seq (CW.region ?_)
 refine rl_boxA (cs := (Candidate.c a0 az0_0)) rfl rfl ?_
 intro p1 w2 n3 k4
 have ah0_0 := slRep.ch kStr_pos ah0_0 n3.ch
 have c0 := c0.then0 n3.ch
 refine rl_assign rfl rfl ?_
 refine RL.nil (thn_n (CW.seq (CW.region ?_)))
 refine rl_fieldAddr rfl fa129_5 rfl ?_
 refine rl_loadS (v := az0_0) rfl Tryz.isAgg115 (k4.cell rfl) rfl ?_
 refine rl_move rfl rfl ?_
 obtain ⟨y7, hy8⟩ : ∃ y, F121_string a0.zones a1 = y := ⟨_, rfl⟩
 have hS := ltS hy8 hS
 refine rl_callF rfl en121 rfl (ctr121 (G F w.heap.size nb) w2 a0.zones az0_0 ah0_0 a1 y7 hy8) ?_
 rintro _ w5 ⟨rfl, c6⟩
 have c0 := c0.then0 c6
 refine rl_assign rfl rfl ?_
 refine RL.nil (thn_n (CW.ret ?_))
 obtain rfl := hS
 exact ret1 rfl ⟨rfl, c0⟩
/-- lb/hints.Count$2 -/
theorem ctr119 (F : Nat → Prop) (w : World) (a0 : Candidate) (az0_0 : Value) (ah0_0 : slRep kStr F w a0.zones az0_0) (a1 : ByteArray) (av1 : Value) (ah1 : (kStr.box 9).rep F w a1 [av1]) (r : Bool) (hs : F119_2 a0 a1 = r) :
    Ret Tryz.prog 119 #[(Value.agg (Candidate.c a0 az0_0).toArray), av1] w fun v w' => v = (Value.bool r) ∧ Ch nb w w' := by
 have hS := hs
 have c0 : Ch nb w w := Ch.refl
 have ah0_0 := slRep.enter kStr_pos ah0_0
 have ah1 := Kd.enter ah1
 refine Ret.of (n := 7) (args := [_, _]) (rs := [.tmp 3]) Tryz.func119 rfl rfl rfl rfl ?_
 refine CW.seq (CW.region ?_)
 refine rl_boxA (cs := (Candidate.c a0 az0_0)) rfl rfl ?_
 intro p1 w2 n3 k4
 have ah0_0 := slRep.ch kStr_pos ah0_0 n3.ch
 have ah1 := Kd.ch ah1 n3.ch
 have c0 := c0.then0 n3.ch
 refine rl_assign rfl rfl ?_
 refine RL.nil (thn_n (CW.seq (CW.region ?_)))
 refine rl_loadA (cs := (Candidate.c a0 az0_0)) rfl Tryz.isAgg129 Tryz.sizeOf129 (k4.segAt 0 23) rfl rfl ?_
 obtain ⟨p5, cc6, e7, gf8, k9, h10⟩ := ah1
 obtain rfl := (List.cons.inj e7).1
 obtain rfl := h10
 refine rl_loadS (v := (Value.string a1)) rfl Tryz.isAgg9 (k9.cell rfl) rfl ?_
 obtain ⟨y13, hy14⟩ : ∃ y, F97_Meant a0 a1 = y := ⟨_, rfl⟩
 have hS := ltS hy14 hS
 refine rl_callF rfl en97 rfl (ctr97 (G F w.heap.size nb) w2 a0 az0_0 ah0_0 a1 y13 hy14) ?_
 rintro _ w11 ⟨rfl, c12⟩
 have c0 := c0.then0 c12
 refine rl_assign rfl rfl ?_
 refine RL.nil (thn_n (CW.ret ?_))
 obtain rfl := hS
 exact ret1 rfl ⟨rfl, c0⟩
/-- lb/hints.Count -/
theorem ctr94 (F : Nat → Prop) (w : World) (a0 : (List Candidate)) (av0 : Value) (ah0 : slRep k_Candidate F w a0 av0) (a1 : ByteArray) (r : Bool) (hs : F94_Count a0 a1 = some r) :
    Ret Tryz.prog 94 #[av0, (Value.string a1)] w fun v w' => v = (Value.bool r) ∧ Ch nb w w' := by
 have hS := hs
 have c0 : Ch nb w w := Ch.refl
 have ah0 := slRep.enter k_Candidate_pos ah0
 refine Ret.of (n := 22) (args := [_, _]) (rs := [.tmp 4]) Tryz.func94 rfl rfl rfl rfl ?_
 refine CW.seq (CW.region ?_)
 refine rl_box [(Value.string a1)] rfl rfl rfl ?_
 intro p1 w2 n3 k4
 have gp1 : (G F w.heap.size nb) p1 := ⟨.inr (by rw [n3.eq]; exact c0.size), fun h => absurd (nbS _ h) (by rw [n3.eq]; exact Nat.lt_irrefl _)⟩
 have ah0 := slRep.ch k_Candidate_pos ah0 n3.ch
 have c0 := c0.then0 n3.ch
 refine rl_assign rfl rfl ?_
 refine RL.nil (thn_n (CW.seq (CW.region ?_)))
 refine rl_move rfl rfl ?_
 obtain ⟨y7, hy8, hS⟩ := bindS hS
 refine rl_callF rfl en93 rfl (ctr93 (G F w.heap.size nb) w2 a0 av0 ah0 y7 hy8) ?_
 rintro v9 w5 ⟨_, rfl, h10, c6⟩
 have h10 := SlO.backR k_Candidate_pos h10 nbS c0.size
 have k4 := k4.ch0 c6
 have c0 := c0.then0 c6
 refine rl_assign rfl rfl ?_
 refine RL.nil (thn_n (CW.seq (CW.region ?_)))
 refine rl_move rfl rfl ?_
 obtain ⟨y13, hy14⟩ : ∃ y, F68_Candidat y7 (fun x0 => F118_1 x0) = y := ⟨_, rfl⟩
 have hS := ltS hy14 hS
 refine rl_callF rfl en68 rfl (ctr68 (G F w.heap.size nb) w5 y7 v9 h10 (fun x0 => F118_1 x0) (Value.func (.func 118) #[] [].toArray) (show (Kd.fn1 Tryz.prog true k_Candidate Value.bool).rep (G F w.heap.size nb) w5 (fun x0 => F118_1 x0) [(Value.func (.func 118) #[] [].toArray)] from ⟨118, [], rfl, en118, fun w' hw F' x0 c0 hx0 => by
     obtain ⟨u0_0, rfl, e0_0⟩ := hx0
     exact (ctr118 (fun b => (G F w.heap.size nb) b ∨ F' b) w' x0 u0_0 (slRep.wk kStr_pos e0_0 fun _ _ h => .inr h) _ rfl).mono (by rintro v w'' ⟨rfl, c⟩; exact ⟨rfl, c⟩)⟩) y13 hy14) ?_
 rintro _ w11 ⟨rfl, c12⟩
 have k4 := k4.ch0 c12
 have h10 := slRep.ch k_Candidate_pos h10 c12
 have c0 := c0.then0 c12
 refine rl_assign rfl rfl ?_
 refine RL.nil (thn_n (CW.seq (CW.region ?_)))
 refine rl_loadS (v := (Value.string a1)) rfl Tryz.isAgg9 (k4.cell rfl) rfl ?_
 refine rl_bin rfl rfl B.neqS rfl ?_
 refine rl_move rfl rfl ?_
 obtain ⟨b17, hb18⟩ : ∃ v, ((!decide (a1 = (⟨#[]⟩ : ByteArray))) && (!y13)) = v := ⟨_, rfl⟩
 have hS := ltS hb18 hS
 refine RL.join 3 16 (.bool b17) (fun w' => Ch nb w11 w') ?_ ?_
 · rcases Bool.eq_false_or_eq_true (!decide (a1 = (⟨#[]⟩ : ByteArray))) with hg16 | hg16
   ·
    have hs15 := and_t hg16 hb18
    have cs : Ch nb w11 w11 := Ch.refl
    refine RL.yes rfl rfl rfl hg16 ?_
    refine rl_move rfl rfl ?_
    refine RL.yes rfl rfl rfl hg16 ?_
    refine rl_not rfl rfl ?_
    refine rl_pickT rfl hg16 rfl rfl ?_
    exact RL.nil ⟨Ext.bothEq (congrArg Value.bool hs15) (Ext.skip rfl (Ext.skip rfl (Ext.rfl'))), cs⟩
   ·
    have hs15 := and_f hg16 hb18
    have cs : Ch nb w11 w11 := Ch.refl
    refine RL.no rfl rfl rfl hg16 rfl rfl ?_
    refine RL.no rfl rfl rfl hg16 rfl rfl ?_
    refine rl_pickF rfl hg16 rfl rfl ?_
    exact RL.nil ⟨Ext.bothEq (congrArg Value.bool hs15) (Ext.skip rfl (Ext.skip rfl (Ext.rfl'))), cs⟩
 intro w19 c20
 have k4 := k4.ch0 c20
 have h10 := slRep.ch k_Candidate_pos h10 c20
 have c0 := c0.then0 c20
 refine rl_move rfl rfl ?_
 obtain ⟨b23, hb24⟩ : ∃ v, (b17 && (lt (F68_Candidat y7 (fun x0 => F119_2 x0 a1)) fun y25 => y25)) = v := ⟨_, rfl⟩
 have hS := ltS hb24 hS
 refine RL.join 4 21 (.bool b23) (fun w' => Ch nb w19 w') ?_ ?_
 · rcases Bool.eq_false_or_eq_true b17 with hg22 | hg22
   ·
    have hs21 := and_t hg22 hb24
    have cs : Ch nb w19 w19 := Ch.refl
    refine RL.yes rfl rfl rfl hg22 ?_
    refine rl_move rfl rfl ?_
    refine RL.yes rfl rfl rfl hg22 ?_
    refine rl_makeFunc rfl rfl ?_
    refine RL.yes rfl rfl rfl hg22 ?_
    obtain ⟨y28, hy29⟩ : ∃ y, F68_Candidat y7 (fun x0 => F119_2 x0 a1) = y := ⟨_, rfl⟩
    have hs21 := ltS hy29 hs21
    refine rl_callF rfl en68 rfl (ctr68 (G F w.heap.size nb) w19 y7 v9 h10 (fun x0 => F119_2 x0 a1) (Value.func (.func 119) #[] [(PV p1)].toArray) (show (Kd.fn1 Tryz.prog true k_Candidate Value.bool).rep (G F w.heap.size nb) w19 (fun x0 => F119_2 x0 a1) [(Value.func (.func 119) #[] [(PV p1)].toArray)] from ⟨119, [(PV p1)], rfl, en119, fun w' hw F' x0 c0 hx0 => by
        obtain ⟨u0_0, rfl, e0_0⟩ := hx0
        exact (ctr119 (fun b => (G F w.heap.size nb) b ∨ F' b) w' x0 u0_0 (slRep.wk kStr_pos e0_0 fun _ _ h => .inr h) a1 (PV p1) (Kd.mono _ (show (kStr.box 9).rep (G F w.heap.size nb) w19 a1 [(PV p1)] from ⟨p1, _, rfl, gp1, k4, rfl⟩) fun b hb hf => ⟨.inl hf, (hw b hb hf).2⟩) _ rfl).mono (by rintro v w'' ⟨rfl, c⟩; exact ⟨rfl, c⟩)⟩) y28 hy29) ?_
    rintro _ w26 ⟨rfl, c27⟩
    refine rl_pickT rfl hg22 rfl rfl ?_
    have cs := cs.then0 c27
    exact RL.nil ⟨Ext.bothEq (congrArg Value.bool hs21) (Ext.skip rfl (Ext.skip rfl (Ext.skip rfl (Ext.rfl')))), cs⟩
   ·
    have hs21 := and_f hg22 hb24
    have cs : Ch nb w19 w19 := Ch.refl
    refine RL.no rfl rfl rfl hg22 rfl rfl ?_
    refine RL.no rfl rfl rfl hg22 rfl rfl ?_
    refine RL.no rfl rfl rfl hg22 rfl rfl ?_
    refine rl_pickF rfl hg22 rfl rfl ?_
    exact RL.nil ⟨Ext.bothEq (congrArg Value.bool hs21) (Ext.skip rfl (Ext.skip rfl (Ext.skip rfl (Ext.rfl')))), cs⟩
 intro w25 c30
 have c0 := c0.then0 c30
 refine rl_assign rfl rfl ?_
 refine RL.nil (thn_n (CW.ret ?_))
 obtain rfl := Option.some.inj hS
 exact ret1 rfl ⟨rfl, c0⟩
/-- lb/hints.Filter$1 -/
theorem ctr96 (F : Nat → Prop) (w : World) (a0 : Candidate) (az0_0 : Value) (ah0_0 : slRep kStr F w a0.zones az0_0) (a1 : ByteArray) (av1 : Value) (ah1 : (kStr.box 9).rep F w a1 [av1]) (r : Bool) (hs : F96_1 a0 a1 = r) :
    Ret Tryz.prog 96 #[(Value.agg (Candidate.c a0 az0_0).toArray), av1] w fun v w' => v = (Value.bool r) ∧ Ch nb w w' := by
 have hS := hs
 have c0 : Ch nb w w := Ch.refl
 have ah0_0 := slRep.enter kStr_pos ah0_0
 have ah1 := Kd.enter ah1
 refine Ret.of (n := 7) (args := [_, _]) (rs := [.tmp 3]) Tryz.func96 rfl rfl rfl rfl ?_
 refine CW.seq (CW.region ?_)
 refine rl_boxA (cs := (Candidate.c a0 az0_0)) rfl rfl ?_
 intro p1 w2 n3 k4
 have ah0_0 := slRep.ch kStr_pos ah0_0 n3.ch
 have ah1 := Kd.ch ah1 n3.ch
 have c0 := c0.then0 n3.ch
 refine rl_assign rfl rfl ?_
 refine RL.nil (thn_n (CW.seq (CW.region ?_)))
 refine rl_loadA (cs := (Candidate.c a0 az0_0)) rfl Tryz.isAgg129 Tryz.sizeOf129 (k4.segAt 0 23) rfl rfl ?_
 obtain ⟨p5, cc6, e7, gf8, k9, h10⟩ := ah1
 obtain rfl := (List.cons.inj e7).1
 obtain rfl := h10
 refine rl_loadS (v := (Value.string a1)) rfl Tryz.isAgg9 (k9.cell rfl) rfl ?_
 obtain ⟨y13, hy14⟩ : ∃ y, F97_Meant a0 a1 = y := ⟨_, rfl⟩
 have hS := ltS hy14 hS
 refine rl_callF rfl en97 rfl (ctr97 (G F w.heap.size nb) w2 a0 az0_0 ah0_0 a1 y13 hy14) ?_
 rintro _ w11 ⟨rfl, c12⟩
 have c0 := c0.then0 c12
 refine rl_assign rfl rfl ?_
 refine RL.nil (thn_n (CW.ret ?_))
 obtain rfl := hS
 exact ret1 rfl ⟨rfl, c0⟩
/-- lb/hints.Filter -/
theorem ctr70 (F : Nat → Prop) (w : World) (a0 : (List Candidate)) (av0 : Value) (ah0 : slRep k_Candidate F w a0 av0) (a1 : ByteArray) (r : (List Candidate)) (hs : F70_Filter a0 a1 = some r) :
    Ret Tryz.prog 70 #[av0, (Value.string a1)] w fun v w' => ∃ (y0 : Value), v = y0 ∧ SlO k_Candidate 129 F w.heap.size (inBlk y0) w' r y0 ∧ Ch nb w w' := by
 have hS := hs
 have c0 : Ch nb w w := Ch.refl
 have ah0 := slRep.enter k_Candidate_pos ah0
 refine Ret.of (n := 16) (args := [_, _]) (rs := [.tmp 4]) Tryz.func70 rfl rfl rfl rfl ?_
 refine CW.seq (CW.region ?_)
 refine rl_box [(Value.string a1)] rfl rfl rfl ?_
 intro p1 w2 n3 k4
 have gp1 : (G F w.heap.size nb) p1 := ⟨.inr (by rw [n3.eq]; exact c0.size), fun h => absurd (nbS _ h) (by rw [n3.eq]; exact Nat.lt_irrefl _)⟩
 have ah0 := slRep.ch k_Candidate_pos ah0 n3.ch
 have c0 := c0.then0 n3.ch
 refine rl_assign rfl rfl ?_
 refine RL.nil (thn_n (CW.seq (CW.region ?_)))
 refine rl_move rfl rfl ?_
 obtain ⟨y7, hy8, hS⟩ := bindS hS
 refine rl_callF rfl en93 rfl (ctr93 (G F w.heap.size nb) w2 a0 av0 ah0 y7 hy8) ?_
 rintro v9 w5 ⟨_, rfl, h10, c6⟩
 have hf11 : ∀ b, inBlk v9 b → w2.heap.size ≤ b := fun b hb => (h10.lt b hb).1
 have h10 := SlO.back (S' := un (inBlk v9) nb) h10 nbS c0.size (fun _ => Or.comm)
 have ah0 := slRep.st k_Candidate_pos ah0 c6 (admNew hf11 (fun _ x => x))
 have gp1n : (G F w.heap.size (un (inBlk v9) nb)) p1 := ⟨gp1.1, ((admNew hf11 (fun _ x => x)) _ k4.lt gp1.2).2⟩
 have k4 := k4.ch0 c6
 have gp1 := gp1n
 have c0 := c0.then0 c6
 refine rl_assign rfl rfl ?_
 refine RL.nil (thn_n (CW.seq ?_))
 refine CW.seq (CW.region ?_)
 refine rl_move rfl rfl ?_
 refine rl_loadS (v := (Value.string a1)) rfl Tryz.isAgg9 (k4.cell rfl) rfl ?_
 obtain ⟨y14, hy15, hS⟩ := bindS hS
 refine rl_callF rfl en94 rfl (ctr94 (G F w.heap.size (un (inBlk v9) nb)) w5 a0 av0 ah0 a1 y14 hy15) ?_
 rintro _ w12 ⟨rfl, c13⟩
 have k4 := k4.ch0 c13
 have h10 := h10.ch0 c13
 have c0 := c0.then0 c13
 refine rl_not rfl rfl ?_
 refine RL.nil (thn_n ?_)
 refine CW.cond (t := !y14) rfl (fun q16 => ?_) (fun q16 => ?_)
 ·
  have hS := ifT q16 hS
  refine CW.seq (CW.region ?_)
  refine rl_move rfl rfl ?_
  refine rl_assign rfl rfl ?_
  refine RL.nil (thn_n (CW.ret ?_))
  refine thn_ret ?_
  obtain rfl := Option.some.inj hS
  exact ret1 rfl ⟨v9, rfl, h10.out, c0⟩
 have hS := ifF q16 hS
 refine CW.skip ?_
 refine thn_n (CW.seq (CW.region ?_))
 refine rl_move rfl rfl ?_
 refine rl_makeFunc rfl rfl ?_
 have ad17 : ∀ b, b < w12.heap.size → ¬ (un (inBlk v9) nb) b → ¬ nb b ∧ ¬ nb b := fun b _ hs => ⟨fun x => x, fun h => hs (False.elim h)⟩
 have h10 := SlO.read (S' := nb) k_Candidate_pos h10 (fun b hs h => hs (False.elim h)) (fun b hb => fun h => h)
 have crf : Ch nb w12 w12 := Ch.refl
 have gp1n : (G F w.heap.size nb) p1 := ⟨gp1.1, (ad17 _ k4.lt gp1.2).2⟩
 have k4 := k4.ch0 crf
 have gp1 := gp1n
 have c0 := c0.then0 crf
 obtain ⟨y20, hy21, hS⟩ := bindS hS
 refine rl_callF rfl en95 rfl (ctr95 (G F w.heap.size nb) w12 y7 v9 h10 (fun x0 => F96_1 x0 a1) (Value.func (.func 96) #[] [(PV p1)].toArray) (show (Kd.fn1 Tryz.prog true k_Candidate Value.bool).rep (G F w.heap.size nb) w12 (fun x0 => F96_1 x0 a1) [(Value.func (.func 96) #[] [(PV p1)].toArray)] from ⟨96, [(PV p1)], rfl, en96, fun w' hw F' x0 c0 hx0 => by
     obtain ⟨u0_0, rfl, e0_0⟩ := hx0
     exact (ctr96 (fun b => (G F w.heap.size nb) b ∨ F' b) w' x0 u0_0 (slRep.wk kStr_pos e0_0 fun _ _ h => .inr h) a1 (PV p1) (Kd.mono _ (show (kStr.box 9).rep (G F w.heap.size nb) w12 a1 [(PV p1)] from ⟨p1, _, rfl, gp1, k4, rfl⟩) fun b hb hf => ⟨.inl hf, (hw b hb hf).2⟩) _ rfl).mono (by rintro v w'' ⟨rfl, c⟩; exact ⟨rfl, c⟩)⟩) y20 hy21) ?_
 rintro v22 w18 ⟨_, rfl, h23, c19⟩
 have h23 := SlO.back (S' := un (inBlk v22) nb) h23 nbS c0.size (fun _ => Or.comm)
 have c0 := c0.then0 c19
 refine rl_assign rfl rfl ?_
 refine RL.nil (thn_n (CW.ret ?_))
 obtain rfl := Option.some.inj hS
 exact ret1 rfl ⟨v22, rfl, h23.out, c0⟩
/-- lb/pick.Choose -/
theorem ctr47 (F : Nat → Prop) (w : World) (a0 : (List Candidate)) (av0 : Value) (ah0 : slRep k_Candidate F w a0 av0) (a1 : Want) (r : (List Candidate)) (hs : F47_Choose a0 a1 = some r) :
    Ret Tryz.prog 47 #[av0, (Value.agg (Want.enc a1).toArray)] w fun v w' => ∃ (y0 : Value), v = y0 ∧ SlO k_Candidate 129 F w.heap.size (inBlk y0) w' r y0 ∧ Ch nb w w' := by
 have hS := hs
 have c0 : Ch nb w w := Ch.refl
 have ah0 := slRep.enter k_Candidate_pos ah0
 refine Ret.of (n := 24) (args := [_, _]) (rs := [.tmp 4]) Tryz.func47 rfl rfl rfl rfl ?_
 refine CW.seq (CW.region ?_)
 refine rl_boxA (cs := (Want.enc a1)) rfl rfl ?_
 intro p1 w2 n3 k4
 have ah0 := slRep.ch k_Candidate_pos ah0 n3.ch
 have c0 := c0.then0 n3.ch
 refine rl_assign rfl rfl ?_
 refine RL.nil (thn_n (CW.seq ?_))
 refine CW.block ?_
 refine CW.seq (CW.region ?_)
 refine rl_fieldAddr rfl fa92_3 rfl ?_
 refine rl_loadS (v := (Value.bool a1.localF)) rfl Tryz.isAgg4 (k4.cell rfl) rfl ?_
 refine rl_assign rfl rfl ?_
 refine RL.nil (thn_n ?_)
 refine CW.cond (t := a1.localF) rfl (fun q5 => ?_) (fun q5 => ?_)
 ·
  have hS := ifT q5 hS
  refine CW.seq (CW.region ?_)
  refine rl_move rfl rfl ?_
  obtain ⟨y8, hy9, hS⟩ := bindS hS
  refine rl_callF rfl en66 rfl (ctr66 (G F w.heap.size nb) w2 a0 av0 ah0 (fun x0 => F67_local x0) (Value.func (.func 67) #[] [].toArray) (show (Kd.fn1 Tryz.prog true k_Candidate Value.bool).rep (G F w.heap.size nb) w2 (fun x0 => F67_local x0) [(Value.func (.func 67) #[] [].toArray)] from ⟨67, [], rfl, en67, fun w' hw F' x0 c0 hx0 => by
      obtain ⟨u0_0, rfl, e0_0⟩ := hx0
      exact (ctr67 (fun b => (G F w.heap.size nb) b ∨ F' b) w' x0 u0_0 (slRep.wk kStr_pos e0_0 fun _ _ h => .inr h) _ rfl).mono (by rintro v w'' ⟨rfl, c⟩; exact ⟨rfl, c⟩)⟩) y8 hy9) ?_
  rintro v10 w6 ⟨_, rfl, h11, c7⟩
  have h11 := SlO.backR k_Candidate_pos h11 nbS c0.size
  have c0 := c0.then0 c7
  obtain ⟨y14, hy15, hS⟩ := bindS hS
  refine rl_callF rfl en65 rfl (ctr65 (G F w.heap.size nb) w6 y8 v10 h11 y14 hy15) ?_
  rintro v16 w12 ⟨_, rfl, h17, c13⟩
  have h17 := SlO.back (S' := un (inBlk v16) nb) h17 nbS c0.size (fun _ => Or.comm)
  have c0 := c0.then0 c13
  refine rl_assign rfl rfl ?_
  refine RL.nil (thn_n (CW.ret ?_))
  refine inB_ret ?_
  refine thn_ret ?_
  obtain rfl := Option.some.inj hS
  exact ret1 rfl ⟨v16, rfl, h17.out, c0⟩
 have hS := ifF q5 hS
 refine CW.seq (CW.region ?_)
 refine rl_fieldAddr rfl fa92_4 rfl ?_
 refine rl_loadS (v := (Value.bool a1.hinted)) rfl Tryz.isAgg4 (k4.cell rfl) rfl ?_
 refine rl_move rfl rfl ?_
 obtain ⟨b21, hb22⟩ : ∃ v, (a1.hinted && (lt (F68_Candidat a0 (fun x0 => F69_ready x0)) fun y23 => y23)) = v := ⟨_, rfl⟩
 have hS := ltS hb22 hS
 refine RL.join 3 17 (.bool b21) (fun w' => Ch nb w2 w') ?_ ?_
 · rcases Bool.eq_false_or_eq_true a1.hinted with hg20 | hg20
   ·
    have hs19 := and_t hg20 hb22
    have cs : Ch nb w2 w2 := Ch.refl
    refine RL.yes rfl rfl rfl hg20 ?_
    refine rl_move rfl rfl ?_
    refine RL.yes rfl rfl rfl hg20 ?_
    obtain ⟨y26, hy27⟩ : ∃ y, F68_Candidat a0 (fun x0 => F69_ready x0) = y := ⟨_, rfl⟩
    have hs19 := ltS hy27 hs19
    refine rl_callF rfl en68 rfl (ctr68 (G F w.heap.size nb) w2 a0 av0 ah0 (fun x0 => F69_ready x0) (Value.func (.func 69) #[] [].toArray) (show (Kd.fn1 Tryz.prog true k_Candidate Value.bool).rep (G F w.heap.size nb) w2 (fun x0 => F69_ready x0) [(Value.func (.func 69) #[] [].toArray)] from ⟨69, [], rfl, en69, fun w' hw F' x0 c0 hx0 => by
        obtain ⟨u0_0, rfl, e0_0⟩ := hx0
        exact (ctr69 (fun b => (G F w.heap.size nb) b ∨ F' b) w' x0 u0_0 (slRep.wk kStr_pos e0_0 fun _ _ h => .inr h) _ rfl).mono (by rintro v w'' ⟨rfl, c⟩; exact ⟨rfl, c⟩)⟩) y26 hy27) ?_
    rintro _ w24 ⟨rfl, c25⟩
    refine rl_pickT rfl hg20 rfl rfl ?_
    have cs := cs.then0 c25
    exact RL.nil ⟨Ext.bothEq (congrArg Value.bool hs19) (Ext.skip rfl (Ext.skip rfl (Ext.rfl'))), cs⟩
   ·
    have hs19 := and_f hg20 hb22
    have cs : Ch nb w2 w2 := Ch.refl
    refine RL.no rfl rfl rfl hg20 rfl rfl ?_
    refine RL.no rfl rfl rfl hg20 rfl rfl ?_
    refine rl_pickF rfl hg20 rfl rfl ?_
    exact RL.nil ⟨Ext.bothEq (congrArg Value.bool hs19) (Ext.skip rfl (Ext.skip rfl (Ext.rfl'))), cs⟩
 intro w23 c28
 have ah0 := slRep.ch k_Candidate_pos ah0 c28
 have k4 := k4.ch0 c28
 have c0 := c0.then0 c28
 refine rl_assign rfl rfl ?_
 refine RL.nil (thn_n ?_)
 refine CW.cond (t := b21) rfl (fun q29 => ?_) (fun q29 => ?_)
 ·
  have hS := ifT q29 hS
  refine CW.seq (CW.region ?_)
  refine rl_move rfl rfl ?_
  refine rl_fieldAddr rfl fa92_6 rfl ?_
  refine rl_loadS (v := (Value.string a1.zone)) rfl Tryz.isAgg9 (k4.cell rfl) rfl ?_
  obtain ⟨y32, hy33, hS⟩ := bindS hS
  refine rl_callF rfl en70 rfl (ctr70 (G F w.heap.size nb) w23 a0 av0 ah0 a1.zone y32 hy33) ?_
  rintro v34 w30 ⟨_, rfl, h35, c31⟩
  have h35 := SlO.back (S' := un (inBlk v34) nb) h35 nbS c0.size (fun _ => Or.comm)
  have c0 := c0.then0 c31
  refine rl_assign rfl rfl ?_
  refine RL.nil (thn_n (CW.ret ?_))
  refine inB_ret ?_
  refine thn_ret ?_
  obtain rfl := Option.some.inj hS
  exact ret1 rfl ⟨v34, rfl, h35.out, c0⟩
 have hS := ifF q29 hS
 refine CW.skip ?_
 refine inB_n ?_
 refine thn_n (CW.seq (CW.region ?_))
 refine rl_move rfl rfl ?_
 obtain ⟨y39, hy40, hS⟩ := bindS hS
 refine rl_callF rfl en65 rfl (ctr65 (G F w.heap.size nb) w23 a0 av0 ah0 y39 hy40) ?_
 rintro v41 w37 ⟨_, rfl, h42, c38⟩
 have h42 := SlO.back (S' := un (inBlk v41) nb) h42 nbS c0.size (fun _ => Or.comm)
 have c0 := c0.then0 c38
 refine rl_assign rfl rfl ?_
 refine RL.nil (thn_n (CW.ret ?_))
 obtain rfl := Option.some.inj hS
 exact ret1 rfl ⟨v41, rfl, h42.out, c0⟩
/-- slices.Clone[[]lb/api.Point,lb/api.Point] -/
theorem ctr33 (F : Nat → Prop) (w : World) (a0 : (List Point)) (av0 : Value) (ah0 : slRep k_Point F w a0 av0) (r : (List Point)) (hs : F33_Point a0 = some r) :
    Ret Tryz.prog 33 #[av0] w fun v w' => ∃ (y0 : Value), v = y0 ∧ SlO k_Point 45 F w.heap.size (inBlk y0) w' r y0 ∧ Ch nb w w' := by
 have hS := hs
 have c0 : Ch nb w w := Ch.refl
 have ah0 := slRep.enter k_Point_pos ah0
 refine Ret.of (n := 8) (args := [_]) (rs := [.tmp 2]) Tryz.func33 rfl rfl rfl rfl ?_
 refine CW.seq (CW.region ?_)
 refine rl_assign rfl rfl ?_
 refine RL.nil (thn_n (CW.seq ?_))
 refine CW.seq (CW.region ?_)
 refine rl_move rfl rfl ?_
 refine rl_slNil rfl ah0 Tryz.underlying48 rfl ?_
 intro b1 n2
 refine RL.nil (thn_n ?_)
 refine CW.cond (t := b1) rfl (fun q3 => ?_) (fun q3 => ?_)
 ·
  obtain ⟨rfl, rfl⟩ := n2 q3
  refine CW.seq (CW.region ?_)
  refine rl_assign rfl rfl ?_
  refine RL.nil (thn_n (CW.ret ?_))
  refine thn_ret ?_
  obtain rfl := Option.some.inj hS
  exact ret1 rfl ⟨(Value.slice none 0 0), rfl, SlO.nil, c0⟩
 refine CW.skip ?_
 refine thn_n (CW.seq (CW.region ?_))
 refine rl_bslice (k := k_Point) (F := F) (B := w.heap.size) (S := nb) ([] : List Point) rfl k_Point_pos Tryz.underlying48 Tryz.sizeOf45 Tryz.zeroValue45 rfl rfl trivial c0.size nbS rfl ?_
 intro v4 w5 c6 hf7 h8
 have ah0 := slRep.st k_Point_pos ah0 c6 (admNew hf7 (fun _ x => x))
 have c0 := c0.then0 c6
 refine rl_move rfl rfl ?_
 obtain ⟨z17, hz18, hS⟩ := bindS hS
 have hl := (apO_get hz18).1
 refine rl_append (k := k_Point) (T := 45) (F := F) (B := w.heap.size) (S := (un (inBlk v4) nb)) (S2 := nb) (fun v => (un (inBlk v) nb)) rfl rfl k_Point_pos ap48 h8 ah0 (fun _ => Iff.rfl) (fun _ _ => Iff.rfl) hl c0.size (un_lt (fun b hb => (h8.lt b hb).2) nbS) rfl ?_
 intro v11 w12 h13 c14 hf15 ha16
 have c0 := c0.then c14 (fun i hi h => absurd ((fun b hb => (h8.lt b hb).1) i h) (Nat.not_le_of_lt hi))
 refine rl_assign rfl rfl ?_
 refine RL.nil (thn_n (CW.ret ?_))
 obtain rfl := Option.some.inj hS
 exact ret1 rfl ⟨v11, rfl, h13.out, c0⟩
/-- slices.SortFunc[[]lb/api.Point,lb/api.Point] -/
theorem ctr74 (F : Nat → Prop) (w : World) (Bb : Nat) (S2 : Nat → Prop) (hB : Bb ≤ w.heap.size) (h2 : ∀ b, S2 b → b < w.heap.size) (av0 : Value) (hd2 : ∀ b, (inBlk av0) b → ¬ S2 b) (a0 : (List Point)) (ah0 : SlO k_Point 45 F Bb (un (inBlk av0) S2) w a0 av0) (a1 : (Point → Point → Int)) (av1 : Value) (ah1 : (Kd.fn2 Tryz.prog true true k_Point k_Point (Value.int .i64)).rep (G F Bb (un (inBlk av0) S2)) w a1 [av1]) (r : (List Point)) (hs : F74_slices_SortFunc a0 a1 = some r) :
    Ret Tryz.prog 74 #[av0, av1] w fun v w' => v = Value.tuple #[] ∧ SlO k_Point 45 F Bb (un (inBlk av0) S2) w' r av0 ∧ Ch (inBlk av0) w w' :=
  sortF_ret (n := 18) (enc := Point.enc) (fun _ => rfl) (fun _ => rfl) lays74 (by decide) Tryz.isAgg45 Tryz.sizeOf45 ah0 ah1 (fun b hb h => hb.2 (.inl h)) hs
/-- slices.Compact[[]lb/api.Point,lb/api.Point] -/
theorem ctr76 (F : Nat → Prop) (w : World) (Bb : Nat) (S2 : Nat → Prop) (hB : Bb ≤ w.heap.size) (h2 : ∀ b, S2 b → b < w.heap.size) (av0 : Value) (hd2 : ∀ b, (inBlk av0) b → ¬ S2 b) (a0 : (List Point)) (ah0 : SlO k_Point 45 F Bb (un (inBlk av0) S2) w a0 av0) (r : (List Point)) (hs : F76_Point a0 = some r) :
    Ret Tryz.prog 76 #[av0] w fun v w' => ∃ (y0 : Value), v = y0 ∧ SlO k_Point 45 F Bb (un (inBlk y0) S2) w' r y0 ∧ (∀ b, inBlk y0 b → inBlk av0 b ∨ w.heap.size ≤ b) ∧ Ch (inBlk av0) w w' := by
 have hS := hs
 have c0 : Ch (inBlk av0) w w := Ch.refl
 have lin0_0 : ∀ b, inBlk av0 b → (inBlk av0) b ∨ w.heap.size ≤ b := fun b h => .inl h
 refine Ret.of (n := 61) (args := [_]) (rs := [.tmp 2]) Tryz.func76 rfl rfl rfl rfl ?_
 refine CW.seq (CW.region ?_)
 refine rl_assign rfl rfl ?_
 refine RL.nil (thn_n (CW.seq ?_))
 refine CW.seq (CW.region ?_)
 refine rl_move rfl rfl ?_
 refine rl_lenR rfl (SlO.read (S' := S2) k_Point_pos ah0 (fun b hs h => hs ((.inr h))) (fun b hb => linNot lin0_0 hd2 h2 b hb)) Tryz.underlying48 rfl ?_
 refine rl_bin rfl rfl B.lss rfl ?_
 refine RL.nil (thn_n ?_)
 refine CW.cond (t := decide (((a0.length : Nat) : Int) < 2)) rfl (fun q1 => ?_) (fun q1 => ?_)
 ·
  have hS := ifT q1 hS
  refine CW.seq (CW.region ?_)
  refine rl_move rfl rfl ?_
  refine rl_assign rfl rfl ?_
  refine RL.nil (thn_n (CW.ret ?_))
  refine thn_ret ?_
  obtain rfl := Option.some.inj hS
  exact ret1 rfl ⟨av0, rfl, ah0, lin0_0, c0⟩
 have hS := ifF q1 hS
 refine CW.skip ?_
 refine thn_n (CW.seq ?_)
 refine CW.seq (CW.region ?_)
 refine rl_assign rfl rfl ?_
 refine RL.nil (thn_n ?_)
 obtain ⟨o12, ho13, hS⟩ := bindS hS
 refine CW.cutB (fun E' w' => ∃ (x2 : Int) (x3 : (List Point)), Sub [(0, av0)] E' ∧ Ch (inBlk av0) w w' ∧ Lp.fin (x2, x3) = o12 ∧ SlO k_Point 45 F Bb (un (inBlk av0) S2) w' x3 av0) ?_ ?_
 ·
  refine CW.loopS [(0, av0), (3, (Value.int .i64 1))] ⟨rfl, rfl, trivial⟩ FUEL (fun m E w' => ∃ (x2 : Int) (x3 : (List Point)), E = [(0, av0), (3, (Value.int .i64 x2))] ∧ Ch (inBlk av0) w w' ∧ runW F76_Point_b1 m (x2, x3) = some o12 ∧ SlO k_Point 45 F Bb (un (inBlk av0) S2) w' x3 av0)
      ⟨1, a0, rfl, c0, ho13, ah0⟩ ?_
  rintro _ _ w18 ⟨x2, x3, rfl, c17, hL7, h4⟩
  obtain ⟨k16, q9, rfl, hq10⟩ := runW_some hL7
  have hb11 := hq10
  refine CW.seq ?_
  refine CW.seq (CW.region ?_)
  refine rl_move rfl rfl ?_
  refine rl_move rfl rfl ?_
  refine rl_lenR rfl (SlO.read (S' := S2) k_Point_pos h4 (fun b hs h => hs ((.inr h))) (fun b hb => linNot lin0_0 hd2 h2 b hb)) Tryz.underlying48 rfl ?_
  refine rl_bin rfl rfl B.lss rfl ?_
  refine RL.nil (thn_n ?_)
  refine CW.cond (t := decide (x2 < ((x3.length : Nat) : Int))) rfl (fun q20 => ?_) (fun q20 => ?_)
  ·
   have hb11 := ifT q20 hb11
   refine CW.skip ?_
   refine thn_n (CW.seq ?_)
   refine CW.block ?_
   refine CW.seq ?_
   obtain ⟨y27, hy28, hb11⟩ := bindS hb11
   obtain ⟨y35, hy36, hb11⟩ := bindS hb11
   refine CW.draw 9 [(none, fun fx O uu wx => uu = av0), (none, fun fx O uu wx => uu = (Value.int .i64 x2)), (none, fun fx O uu wx => ∃ (p21 : Nat) (o22 : Nat), uu = (Value.pointer (some ⟨p21, o22, none⟩)) ∧ Seg wx p21 o22 (Point.enc y27)), (none, fun fx O uu wx => uu = (Value.agg (Point.enc y27).toArray)), (none, fun fx O uu wx => uu = av0), (none, fun fx O uu wx => uu = (Value.int .i64 x2)), (none, fun fx O uu wx => uu = (Value.int .i64 (IntKind.i64.wrap (x2 - 1)))), (none, fun fx O uu wx => ∃ (p29 : Nat) (o30 : Nat), uu = (Value.pointer (some ⟨p29, o30, none⟩)) ∧ Seg wx p29 o30 (Point.enc y35)), (none, fun fx O uu wx => uu = (Value.agg (Point.enc y35).toArray))] [[], [], [0, 1], [2], [], [], [5], [4, 6], [7]] [3, 8] nb (fun _ h => h.elim) mixed rfl rfl rfl rfl ?_ ?_
   ·
    refine Each.consS (fun fl O wk hE hN hO ck => ?_) ?_
    ·
     refine rl_move rfl rfl ?_
     exact RL.nil ⟨_, rfl, Ch.refl, rfl⟩
    refine Each.consS (fun fl O wk hE hN hO ck => ?_) ?_
    ·
     refine rl_move rfl rfl ?_
     exact RL.nil ⟨_, rfl, Ch.refl, rfl⟩
    refine Each.consA ⟨fun _ _ _ _ _ cc hh => by obtain ⟨p21, o22, e, hs25⟩ := hh; exact ⟨p21, o22, e, hs25.ch0 cc⟩, fun h => absurd rfl h, fun fl O wk hE hN hO ck => ?_⟩ ?_
    ·
     have h4 := h4.ch0 ck
     refine Need.o1 rfl rfl rfl (fun _ h => h) ?_
     refine Need.o1 rfl rfl rfl (fun _ h => h) ?_
     refine rl_ixOR rfl h4 rfl (ixO_get hy28) k_Point_pos Tryz.underlying48 Tryz.sizeOf45 rfl ?_
     intro p39 o40 cs41 hr42 hs43 hg44
     obtain rfl := hr42
     exact RL.nil ⟨_, rfl, Ch.refl, ⟨p39, o40, rfl, hs43⟩⟩
    refine Each.consS (fun fl O wk hE hN hO ck => ?_) ?_
    ·
     refine Need.one rfl rfl rfl ?_
     rintro _ ⟨p21, o22, e45, hs25⟩
     obtain rfl := e45.symm
     refine rl_loadA (cs := (Point.enc y27)) rfl Tryz.isAgg45 Tryz.sizeOf45 (hs25) rfl rfl ?_
     exact RL.nil ⟨_, rfl, Ch.refl, rfl⟩
    refine Each.consS (fun fl O wk hE hN hO ck => ?_) ?_
    ·
     refine rl_move rfl rfl ?_
     exact RL.nil ⟨_, rfl, Ch.refl, rfl⟩
    refine Each.consS (fun fl O wk hE hN hO ck => ?_) ?_
    ·
     refine rl_move rfl rfl ?_
     exact RL.nil ⟨_, rfl, Ch.refl, rfl⟩
    refine Each.consS (fun fl O wk hE hN hO ck => ?_) ?_
    ·
     refine Need.o1 rfl rfl rfl (fun _ h => h) ?_
     refine rl_bin rfl rfl B.sub rfl ?_
     exact RL.nil ⟨_, rfl, Ch.refl, rfl⟩
    refine Each.consA ⟨fun _ _ _ _ _ cc hh => by obtain ⟨p29, o30, e, hs33⟩ := hh; exact ⟨p29, o30, e, hs33.ch0 cc⟩, fun h => absurd rfl h, fun fl O wk hE hN hO ck => ?_⟩ ?_
    ·
     have h4 := h4.ch0 ck
     refine Need.o1 rfl rfl rfl (fun _ h => h) ?_
     refine Need.o1 rfl rfl rfl (fun _ h => h) ?_
     refine rl_ixOR rfl h4 rfl (ixO_get hy36) k_Point_pos Tryz.underlying48 Tryz.sizeOf45 rfl ?_
     intro p49 o50 cs51 hr52 hs53 hg54
     obtain rfl := hr52
     exact RL.nil ⟨_, rfl, Ch.refl, ⟨p49, o50, rfl, hs53⟩⟩
    refine Each.consS (fun fl O wk hE hN hO ck => ?_) ?_
    ·
     refine Need.one rfl rfl rfl ?_
     rintro _ ⟨p29, o30, e55, hs33⟩
     obtain rfl := e55.symm
     refine rl_loadA (cs := (Point.enc y35)) rfl Tryz.isAgg45 Tryz.sizeOf45 (hs33) rfl rfl ?_
     exact RL.nil ⟨_, rfl, Ch.refl, rfl⟩
    trivial
   intro hvO58 OpO58 O58 w56 hO59 c57 hN60
   have h4 := h4.ch0 c57
   have c17 := c17.then0 c57
   refine Need.o1 rfl rfl rfl (fun _ h => h) ?_
   refine Need.o1 rfl rfl rfl (fun _ h => h) ?_
   refine rl_bin rfl rfl (eql45 y27 y35) rfl ?_
   refine RL.nil (thn_n ?_)
   refine CW.cond (t := decide (y27 = y35)) rfl (fun q63 => ?_) (fun q63 => ?_)
   ·
    have hb11 := ifT q63 hb11
    refine CW.seq (CW.region ?_)
    refine rl_move rfl rfl ?_
    refine rl_move rfl rfl ?_
    obtain ⟨y64, hy65, hb11⟩ := bindS hb11
    refine rl_cutS rfl h4 rfl hy65 Tryz.underlying48 Tryz.sizeOf45 rfl ?_
    intro v66 h67
    refine rl_assign rfl rfl ?_
    refine RL.nil (thn_n (CW.seq ?_))
    refine CW.seq (CW.region ?_)
    refine rl_assign rfl rfl ?_
    refine RL.nil (thn_n ?_)
    obtain ⟨o79, ho80, hb11⟩ := bindS hb11
    refine CW.cutB (fun E' w' => ∃ (x68 : Int) (x69 : Int) (x70 : (List Point)), Sub [(0, av0), (3, (Value.int .i64 x68))] E' ∧ Ch (inBlk av0) w w' ∧ Lp.fin (x68, x69, x70) = o79 ∧ SlO k_Point 45 F Bb (un (inBlk av0) S2) w' x70 av0) ?_ ?_
    ·
     refine CW.loopS [(0, av0), (4, v66), (3, (Value.int .i64 x2)), (5, (Value.int .i64 1))] ⟨rfl, rfl, rfl, rfl, trivial⟩ FUEL (fun m E w' => ∃ (x68 : Int) (x69 : Int) (x70 : (List Point)), E = [(0, av0), (4, v66), (3, (Value.int .i64 x68)), (5, (Value.int .i64 x69))] ∧ Ch (inBlk av0) w w' ∧ runW (F76_Point_b2 x2 y64) m (x68, x69, x70) = some o79 ∧ SlO k_Point 45 F Bb (un (inBlk av0) S2) w' x70 av0)
         ⟨x2, 1, x3, rfl, c17, ho80, h4⟩ ?_
     rintro _ _ w85 ⟨x68, x69, x70, rfl, c84, hL74, h71⟩
     obtain ⟨k83, q76, rfl, hq77⟩ := runW_some hL74
     have hb78 := hq77
     refine CW.seq ?_
     refine CW.seq (CW.region ?_)
     refine rl_move rfl rfl ?_
     refine rl_move rfl rfl ?_
     refine rl_lenSuf rfl h67 hy65 Tryz.underlying48 rfl ?_
     refine rl_bin rfl rfl B.lss rfl ?_
     refine RL.nil (thn_n ?_)
     refine CW.cond (t := decide (x69 < ((y64.length : Nat) : Int))) rfl (fun q87 => ?_) (fun q87 => ?_)
     ·
      have hb78 := ifT q87 hb78
      refine CW.skip ?_
      refine thn_n (CW.seq ?_)
      refine CW.block ?_
      refine CW.seq ?_
      obtain ⟨y94, hy95, hb78⟩ := bindS hb78
      obtain ⟨y102, hy103, hb78⟩ := bindS hb78
      refine CW.draw 9 [(none, fun fx O uu wx => uu = v66), (none, fun fx O uu wx => uu = (Value.int .i64 x69)), (none, fun fx O uu wx => ∃ (p88 : Nat) (o89 : Nat), uu = (Value.pointer (some ⟨p88, o89, none⟩)) ∧ Seg wx p88 o89 (Point.enc y94)), (none, fun fx O uu wx => uu = (Value.agg (Point.enc y94).toArray)), (none, fun fx O uu wx => uu = v66), (none, fun fx O uu wx => uu = (Value.int .i64 x69)), (none, fun fx O uu wx => uu = (Value.int .i64 (IntKind.i64.wrap (x69 - 1)))), (none, fun fx O uu wx => ∃ (p96 : Nat) (o97 : Nat), uu = (Value.pointer (some ⟨p96, o97, none⟩)) ∧ Seg wx p96 o97 (Point.enc y102)), (none, fun fx O uu wx => uu = (Value.agg (Point.enc y102).toArray))] [[], [], [0, 1], [2], [], [], [5], [4, 6], [7]] [3, 8] nb (fun _ h => h.elim) mixed rfl rfl rfl rfl ?_ ?_
      ·
       refine Each.consS (fun fl O wk hE hN hO ck => ?_) ?_
       ·
        refine rl_move rfl rfl ?_
        exact RL.nil ⟨_, rfl, Ch.refl, rfl⟩
       refine Each.consS (fun fl O wk hE hN hO ck => ?_) ?_
       ·
        refine rl_move rfl rfl ?_
        exact RL.nil ⟨_, rfl, Ch.refl, rfl⟩
       refine Each.consA ⟨fun _ _ _ _ _ cc hh => by obtain ⟨p88, o89, e, hs92⟩ := hh; exact ⟨p88, o89, e, hs92.ch0 cc⟩, fun h => absurd rfl h, fun fl O wk hE hN hO ck => ?_⟩ ?_
       ·
        have h71 := h71.ch0 ck
        refine Need.o1 rfl rfl rfl (fun _ h => h) ?_
        refine Need.o1 rfl rfl rfl (fun _ h => h) ?_
        refine rl_ixSuf rfl h67 h71 rfl (ixO_get hy95) k_Point_pos Tryz.underlying48 Tryz.sizeOf45 rfl ?_
        intro p106 o107 cs108 hr109 hs110 hg111
        obtain rfl := hr109
        exact RL.nil ⟨_, rfl, Ch.refl, ⟨p106, o107, rfl, hs110⟩⟩
       refine Each.consS (fun fl O wk hE hN hO ck => ?_) ?_
       ·
        refine Need.one rfl rfl rfl ?_
        rintro _ ⟨p88, o89, e112, hs92⟩
        obtain rfl := e112.symm
        refine rl_loadA (cs := (Point.enc y94)) rfl Tryz.isAgg45 Tryz.sizeOf45 (hs92) rfl rfl ?_
        exact RL.nil ⟨_, rfl, Ch.refl, rfl⟩
       refine Each.consS (fun fl O wk hE hN hO ck => ?_) ?_
       ·
        refine rl_move rfl rfl ?_
        exact RL.nil ⟨_, rfl, Ch.refl, rfl⟩
       refine Each.consS (fun fl O wk hE hN hO ck => ?_) ?_
       ·
        refine rl_move rfl rfl ?_
        exact RL.nil ⟨_, rfl, Ch.refl, rfl⟩
       refine Each.consS (fun fl O wk hE hN hO ck => ?_) ?_
       ·
        refine Need.o1 rfl rfl rfl (fun _ h => h) ?_
        refine rl_bin rfl rfl B.sub rfl ?_
        exact RL.nil ⟨_, rfl, Ch.refl, rfl⟩
       refine Each.consA ⟨fun _ _ _ _ _ cc hh => by obtain ⟨p96, o97, e, hs100⟩ := hh; exact ⟨p96, o97, e, hs100.ch0 cc⟩, fun h => absurd rfl h, fun fl O wk hE hN hO ck => ?_⟩ ?_
       ·
        have h71 := h71.ch0 ck
        refine Need.o1 rfl rfl rfl (fun _ h => h) ?_
        refine Need.o1 rfl rfl rfl (fun _ h => h) ?_
        refine rl_ixSuf rfl h67 h71 rfl (ixO_get hy103) k_Point_pos Tryz.underlying48 Tryz.sizeOf45 rfl ?_
        intro p116 o117 cs118 hr119 hs120 hg121
        obtain rfl := hr119
        exact RL.nil ⟨_, rfl, Ch.refl, ⟨p116, o117, rfl, hs120⟩⟩
       refine Each.consS (fun fl O wk hE hN hO ck => ?_) ?_
       ·
        refine Need.one rfl rfl rfl ?_
        rintro _ ⟨p96, o97, e122, hs100⟩
        obtain rfl := e122.symm
        refine rl_loadA (cs := (Point.enc y102)) rfl Tryz.isAgg45 Tryz.sizeOf45 (hs100) rfl rfl ?_
        exact RL.nil ⟨_, rfl, Ch.refl, rfl⟩
       trivial
      intro hvO125 OpO125 O125 w123 hO126 c124 hN127
      have h71 := h71.ch0 c124
      have c84 := c84.then0 c124
      refine Need.o1 rfl rfl rfl (fun _ h => h) ?_
      refine Need.o1 rfl rfl rfl (fun _ h => h) ?_
      refine rl_bin rfl rfl (neq45 y94 y102) rfl ?_
      refine RL.nil (thn_n ?_)
      refine CW.cond (t := !decide (y94 = y102)) rfl (fun q130 => ?_) (fun q130 => ?_)
      ·
       have hb78 := ifT q130 hb78
       refine CW.seq (CW.region ?_)
       refine rl_move rfl rfl ?_
       refine rl_move rfl rfl ?_
       refine rl_move rfl rfl ?_
       refine rl_move rfl rfl ?_
       obtain ⟨y137, hy138, hb78⟩ := bindS hb78
       refine rl_ixSuf rfl h67 h71 rfl (ixO_get hy138) k_Point_pos Tryz.underlying48 Tryz.sizeOf45 rfl ?_
       intro p131 o132 cs133 hr134 hs135 hg136
       obtain rfl := hr134
       refine rl_loadA (cs := (Point.enc y137)) rfl Tryz.isAgg45 Tryz.sizeOf45 (hs135) rfl rfl ?_
       obtain ⟨y145, hy146, hb78⟩ := bindS hb78
       refine rl_ixO rfl h71 rfl (ixO_get hy146) Tryz.underlying48 Tryz.sizeOf45 rfl ?_
       intro p139 hg144
       refine rl_storeOA rfl rfl Tryz.sizeOf45 h71 hg144 (ixO_lt hy146) (show k_Point.rep (G F Bb (un (inBlk av0) S2)) w123 y137 (Point.enc y137) from rfl) ?_
       intro w147 c148 h149
       have c84 := c84.then c148 (fun i hi h => (lin0_0 i h).elim (fun x => x) (fun x => absurd x (Nat.not_le_of_lt hi)))
       refine RL.nil (thn_n (CW.region ?_))
       refine rl_move rfl rfl ?_
       refine rl_bin rfl rfl B.add rfl ?_
       refine rl_assign rfl rfl ?_
       refine RL.nil ?_
       refine inB_n ?_
       refine thn_n (CW.region ?_)
       refine rl_move rfl rfl ?_
       refine rl_bin rfl rfl B.add rfl ?_
       refine rl_assign rfl rfl ?_
       refine RL.nil (thn_n ?_)
       have hLn := runW_next hL74 hq77 hb78
       exact ⟨k83, Nat.lt_succ_self _, [(0, av0), (4, v66), (3, (Value.int .i64 (IntKind.i64.wrap (x68 + 1)))), (5, (Value.int .i64 (IntKind.i64.wrap (x69 + 1))))], ⟨rfl, rfl, rfl, rfl, trivial⟩, ⟨IntKind.i64.wrap (x68 + 1), IntKind.i64.wrap (x69 + 1), x70.set x68.toNat y137, rfl, c84, hLn, h149⟩⟩
      have hb78 := ifF q130 hb78
      refine CW.skip ?_
      refine inB_n ?_
      refine thn_n (CW.region ?_)
      refine rl_move rfl rfl ?_
      refine rl_bin rfl rfl B.add rfl ?_
      refine rl_assign rfl rfl ?_
      refine RL.nil (thn_n ?_)
      have hLn := runW_next hL74 hq77 hb78
      exact ⟨k83, Nat.lt_succ_self _, [(0, av0), (4, v66), (3, (Value.int .i64 x68)), (5, (Value.int .i64 (IntKind.i64.wrap (x69 + 1))))], ⟨rfl, rfl, rfl, rfl, trivial⟩, ⟨x68, IntKind.i64.wrap (x69 + 1), x70, rfl, c84, hLn, h71⟩⟩
     have hb78 := ifF q87 hb78
     refine CW.exit ?_
     refine thn_exit ?_
     refine thn_exit ?_
     refine inB_hit ?_
     have hLf := runW_fin hL74 hq77 hb78
     exact ⟨x68, x69, x70, ⟨rfl, rfl, trivial⟩, c84, hLf, h71⟩
    rintro _ w152 ⟨x68, x69, x70, hE153, c151, f154, h71⟩
    have hb11 := finS f154 hb11
    refine thn_n (CW.sub [(0, av0), (3, (Value.int .i64 x68))] hE153 ?_)
    refine CW.seq (CW.region ?_)
    refine rl_move rfl rfl ?_
    refine rl_move rfl rfl ?_
    obtain ⟨y156, hy157, hb11⟩ := bindS hb11
    refine rl_cutS rfl h71 rfl hy157 Tryz.underlying48 Tryz.sizeOf45 rfl ?_
    intro v158 h159
    refine rl_clearO (z0 := Point.z) rfl h159 (slO_le hy157) Tryz.underlying48 Tryz.zeroValue45 h71 (show k_Point.rep (G F Bb (un (inBlk av0) S2)) w152 Point.z (Point.enc Point.z) from rfl) ?_
    intro w160 c161 h162
    have c151 := c151.then c161 (fun i hi h => (lin0_0 i h).elim (fun x => x) (fun x => absurd x (Nat.not_le_of_lt hi)))
    refine RL.nil (thn_n (CW.seq (CW.region ?_)))
    refine rl_move rfl rfl ?_
    refine rl_move rfl rfl ?_
    obtain ⟨y164, hy165, hb11⟩ := bindS hb11
    refine rl_cutO (kl := .i64) (kh := .i64) none (some x68) rfl h162 trivial rfl rfl hy165 Tryz.underlying48 Tryz.sizeOf45 rfl ?_
    intro v166 hb168 h167
    have lin169 : ∀ b, inBlk v166 b → (inBlk av0) b ∨ w.heap.size ≤ b := linApp lin0_0 (fun b h => .inl ((hb168 b).1 h)) c151.size
    have hS170 : (un (inBlk av0) S2) = (un (inBlk v166) S2) := by rw [show inBlk v166 = inBlk av0 from funext fun b => propext (hb168 b)]
    rw [hS170] at h167
    refine rl_assign rfl rfl ?_
    refine RL.nil (thn_n (CW.ret ?_))
    refine inB_ret ?_
    refine thn_ret ?_
    refine thn_ret (inB_ret (thn_ret ?_))
    refine thn_ret ?_
    have f171 := runW_ret hL7 hq10 hb11
    have hS := retS f171 hS
    obtain rfl := Option.some.inj hS
    exact ret1 rfl ⟨v166, rfl, h167, lin169, c151⟩
   have hb11 := ifF q63 hb11
   refine CW.skip ?_
   refine inB_n ?_
   refine thn_n (CW.region ?_)
   refine rl_move rfl rfl ?_
   refine rl_bin rfl rfl B.add rfl ?_
   refine rl_assign rfl rfl ?_
   refine RL.nil (thn_n ?_)
   have hLn := runW_next hL7 hq10 hb11
   exact ⟨k16, Nat.lt_succ_self _, [(0, av0), (3, (Value.int .i64 (IntKind.i64.wrap (x2 + 1))))], ⟨rfl, rfl, trivial⟩, ⟨IntKind.i64.wrap (x2 + 1), x3, rfl, c17, hLn, h4⟩⟩
  have hb11 := ifF q20 hb11
  refine CW.exit ?_
  refine thn_exit ?_
  refine thn_exit ?_
  refine inB_hit ?_
  have hLf := runW_fin hL7 hq10 hb11
  exact ⟨x2, x3, ⟨rfl, trivial⟩, c17, hLf, h4⟩
 rintro _ w173 ⟨x2, x3, hE174, c172, f175, h4⟩
 have hS := finS f175 hS
 refine thn_n (CW.sub [(0, av0)] hE174 ?_)
 refine CW.seq (CW.region ?_)
 refine rl_move rfl rfl ?_
 refine rl_assign rfl rfl ?_
 refine RL.nil (thn_n (CW.ret ?_))
 obtain rfl := Option.some.inj hS
 exact ret1 rfl ⟨av0, rfl, h4, lin0_0, c172⟩
/-- lb/ports.Sort -/
theorem ctr49 (F : Nat → Prop) (w : World) (a0 : (List Point)) (av0 : Value) (ah0 : slRep k_Point F w a0 av0) (r : (List Point)) (hs : F49_Sort a0 = some r) :
    Ret Tryz.prog 49 #[av0] w fun v w' => ∃ (y0 : Value), v = y0 ∧ SlO k_Point 45 F w.heap.size (inBlk y0) w' r y0 ∧ Ch nb w w' := by
 have hS := hs
 have c0 : Ch nb w w := Ch.refl
 have ah0 := slRep.enter k_Point_pos ah0
 refine Ret.of (n := 10) (args := [_]) (rs := [.tmp 2]) Tryz.func49 rfl rfl rfl rfl ?_
 refine CW.seq (CW.region ?_)
 refine rl_assign rfl rfl ?_
 refine RL.nil (thn_n (CW.seq (CW.region ?_)))
 refine rl_move rfl rfl ?_
 obtain ⟨y3, hy4, hS⟩ := bindS hS
 refine rl_callF rfl en33 rfl (ctr33 (G F w.heap.size nb) w a0 av0 ah0 y3 hy4) ?_
 rintro v5 w1 ⟨_, rfl, h6, c2⟩
 have h6 := SlO.back (S' := un (inBlk v5) nb) h6 nbS c0.size (fun _ => Or.comm)
 have c0 := c0.then0 c2
 refine rl_assign rfl rfl ?_
 refine RL.nil (thn_n (CW.seq (CW.region ?_)))
 refine rl_move rfl rfl ?_
 have hd8 : ∀ b, (inBlk v5) b → ¬ nb b := fun b h => (fun b hb => fun h => h) b h
 have hS9 : (un (inBlk v5) nb) = (un (inBlk v5) nb) := rfl
 have ha10 := (show (Kd.fn2 Tryz.prog true true k_Point k_Point (Value.int .i64)).rep (G F w.heap.size (un (inBlk v5) nb)) w1 (fun x0 x1 => F75_Compare x0 x1) [(Value.func (.func 75) #[] [].toArray)] from ⟨75, [], rfl, en75, fun w' hw F' x0 x1 c0 c1 hx0 hx1 => by
     obtain rfl := hx0
     obtain rfl := hx1
     exact (ctr75 (fun b => (G F w.heap.size (un (inBlk v5) nb)) b ∨ F' b) w' x0 x1 _ rfl).mono (by rintro v w'' ⟨rfl, c⟩; exact ⟨rfl, c⟩)⟩)
 rw [hS9] at ha10
 obtain ⟨y13, hy14, hS⟩ := bindS hS
 refine rl_callF rfl en74 rfl (ctr74 F w1 w.heap.size nb c0.size nbS v5 hd8  y3 (hS9 ▸ h6) (fun x0 x1 => F75_Compare x0 x1) (Value.func (.func 75) #[] [].toArray) ha10 y13 hy14) ?_
 rintro _ w11 ⟨rfl, h15, c12⟩
 rw [← hS9] at h15
 have c0 := c0.then c12 (fun i hi h => absurd ((fun b hb => (h6.lt b hb).1) i h) (Nat.not_le_of_lt hi))
 refine RL.nil (thn_n (CW.seq (CW.region ?_)))
 refine rl_move rfl rfl ?_
 have hd17 : ∀ b, (inBlk v5) b → ¬ nb b := fun b h => (fun b hb => fun h => h) b h
 have hS18 : (un (inBlk v5) nb) = (un (inBlk v5) nb) := rfl
 obtain ⟨y21, hy22, hS⟩ := bindS hS
 refine rl_callF rfl en76 rfl (ctr76 F w11 w.heap.size nb c0.size nbS v5 hd17  y13 (hS18 ▸ h15) y21 hy22) ?_
 rintro v23 w19 ⟨_, rfl, h24, hf25, c20⟩
 have c0 := c0.then c20 (fun i hi h => absurd ((fun b hb => (h15.lt b hb).1) i h) (Nat.not_le_of_lt hi))
 refine rl_assign rfl rfl ?_
 refine RL.nil (thn_n (CW.ret ?_))
 obtain rfl := Option.some.inj hS
 exact ret1 rfl ⟨v23, rfl, h24.out, c0⟩
/-- lb/pick.Points -/
theorem ctr26 (F : Nat → Prop) (w : World) (a0 : (List Slice)) (av0 : Value) (ah0 : slRep k_Slice F w a0 av0) (a1 : Want) (r : (List Point)) (hs : F26_Points a0 a1 = some r) :
    Ret Tryz.prog 26 #[av0, (Value.agg (Want.enc a1).toArray)] w fun v w' => ∃ (y0 : Value), v = y0 ∧ SlO k_Point 45 F w.heap.size (inBlk y0) w' r y0 ∧ Ch nb w w' := by
 have hS := hs
 have c0 : Ch nb w w := Ch.refl
 have ah0 := slRep.enter k_Slice_pos ah0
 refine Ret.of (n := 26) (args := [_, _]) (rs := [.tmp 4]) Tryz.func26 rfl rfl rfl rfl ?_
 refine CW.seq (CW.region ?_)
 refine rl_boxA (cs := (Want.enc a1)) rfl rfl ?_
 intro p1 w2 n3 k4
 have gp1 : (G F w.heap.size nb) p1 := ⟨.inr (by rw [n3.eq]; exact c0.size), fun h => absurd (nbS _ h) (by rw [n3.eq]; exact Nat.lt_irrefl _)⟩
 have ah0 := slRep.ch k_Slice_pos ah0 n3.ch
 have c0 := c0.then0 n3.ch
 refine rl_assign rfl rfl ?_
 refine RL.nil (thn_n (CW.seq (CW.region ?_)))
 refine rl_assign rfl rfl ?_
 refine RL.nil (thn_n (CW.seq ?_))
 refine CW.seq ?_
 obtain ⟨y7, hy8, hS⟩ := bindS hS
 obtain ⟨y13, hy14, hS⟩ := bindS hS
 refine CW.draw 7 [(none, fun fx O uu wx => uu = av0), (none, fun fx O uu wx => uu = (Value.agg (Want.enc a1).toArray)), (none, fun fx O uu wx => ∃ (v9 : Value), uu = v9 ∧ slRep k_Candidate (G F w.heap.size nb) wx y7 v9), (none, fun fx O uu wx => uu = (Value.agg (Want.enc a1).toArray)), (none, fun fx O uu wx => ∃ (v15 : Value), uu = v15 ∧ slRep k_Candidate (G F w.heap.size nb) wx y13 v15), (none, fun fx O uu wx => uu = (Value.int .i64 ((y13.length : Nat) : Int))), (none, fun fx O uu wx => uu = (Value.int .i64 0))] [[], [], [0, 1], [], [2, 3], [4], []] [4, 5, 6] nb (fun _ h => h.elim) mixed rfl rfl rfl rfl ?_ ?_
 ·
  refine Each.consS (fun fl O wk hE hN hO ck => ?_) ?_
  ·
   refine rl_move rfl rfl ?_
   exact RL.nil ⟨_, rfl, Ch.refl, rfl⟩
  refine Each.consS (fun fl O wk hE hN hO ck => ?_) ?_
  ·
   have k4 := k4.ch0 ck
   refine rl_loadA (cs := (Want.enc a1)) rfl Tryz.isAgg92 Tryz.sizeOf92 (k4.segAt 0 7) rfl rfl ?_
   exact RL.nil ⟨_, rfl, Ch.refl, rfl⟩
  refine Each.consA ⟨fun _ _ _ _ _ cc hh => by obtain ⟨v9, e, h10⟩ := hh; exact ⟨v9, e, slRep.ch k_Candidate_pos h10 cc⟩, fun h => absurd rfl h, fun fl O wk hE hN hO ck => ?_⟩ ?_
  ·
   have ah0 := slRep.ch k_Slice_pos ah0 ck
   have c0 := c0.then0 ck
   refine Need.o1 rfl rfl rfl (fun _ h => h) ?_
   refine Need.o1 rfl rfl rfl (fun _ h => h) ?_
   refine rl_callF rfl en48 rfl (ctr48 (G F w.heap.size nb) wk a0 av0 ah0 a1 y7 hy8) ?_
   rintro v21 w19 ⟨_, rfl, h22, c20⟩
   have h22 := SlO.backR k_Candidate_pos h22 nbS c0.size
   exact RL.nil ⟨_, rfl, c20, ⟨v21, rfl, h22⟩⟩
  refine Each.consS (fun fl O wk hE hN hO ck => ?_) ?_
  ·
   have k4 := k4.ch0 ck
   refine rl_loadA (cs := (Want.enc a1)) rfl Tryz.isAgg92 Tryz.sizeOf92 (k4.segAt 0 7) rfl rfl ?_
   exact RL.nil ⟨_, rfl, Ch.refl, rfl⟩
  refine Each.consA ⟨fun _ _ _ _ _ cc hh => by obtain ⟨v15, e, h16⟩ := hh; exact ⟨v15, e, slRep.ch k_Candidate_pos h16 cc⟩, fun h => absurd rfl h, fun fl O wk hE hN hO ck => ?_⟩ ?_
  ·
   have c0 := c0.then0 ck
   refine Need.one rfl rfl rfl ?_
   rintro _ ⟨v9, e23, h10⟩
   obtain rfl := e23.symm
   refine Need.o1 rfl rfl rfl (fun _ h => h) ?_
   refine rl_callF rfl en47 rfl (ctr47 (G F w.heap.size nb) wk y7 v9 h10 a1 y13 hy14) ?_
   rintro v27 w25 ⟨_, rfl, h28, c26⟩
   have h28 := SlO.backR k_Candidate_pos h28 nbS c0.size
   exact RL.nil ⟨_, rfl, c26, ⟨v27, rfl, h28⟩⟩
  refine Each.consS (fun fl O wk hE hN hO ck => ?_) ?_
  ·
   refine Need.one rfl rfl rfl ?_
   rintro _ ⟨v15, e29, h16⟩
   obtain rfl := e29.symm
   refine rl_lenR rfl h16 Tryz.underlying125 rfl ?_
   exact RL.nil ⟨_, rfl, Ch.refl, rfl⟩
  refine Each.consS (fun fl O wk hE hN hO ck => ?_) ?_
  ·
   refine rl_move rfl rfl ?_
   exact RL.nil ⟨_, rfl, Ch.refl, rfl⟩
  trivial
 intro hvO32 OpO32 O32 w30 hO33 c31 hN34
 have ah0 := slRep.ch k_Slice_pos ah0 c31
 have k4 := k4.ch0 c31
 have c0 := c0.then0 c31
 refine Need.one rfl rfl rfl ?_
 rintro _ ⟨v15, e35, h16⟩
 obtain rfl := e35.symm
 refine Need.o1 rfl rfl rfl (fun _ h => h) ?_
 refine Need.o1 rfl rfl rfl (fun _ h => h) ?_
 refine RL.nil (thn_n ?_)
 have crf : Ch nb w30 w30 := Ch.refl
 have ah0 := slRep.st k_Slice_pos ah0 crf admNil
 have gp1n : (G F w.heap.size (un (inBlk (Value.slice none 0 0)) nb)) p1 := ⟨gp1.1, (admNil _ k4.lt gp1.2).2⟩
 have k4 := k4.ch0 crf
 have gp1 := gp1n
 have h16 := slRep.st k_Candidate_pos h16 crf admNil
 have c0 := c0.then0 crf
 have h38 : SlO k_Point 45 F w.heap.size (un (inBlk (Value.slice none 0 0)) nb) w30 ([] : List Point) (.slice none 0 0) := SlO.nil
 obtain ⟨o49, ho50, hS⟩ := bindS hS
 refine CW.cutB (fun E' w' => ∃ (x39 : (List Point)) (v40 : Value), Sub [(5, v40)] E' ∧ Ch nb w w' ∧ x39 = o49 ∧ slRep k_Slice (G F w.heap.size (un (inBlk v40) nb)) w' a0 av0 ∧ Blk w' p1 92 (Want.enc a1) ∧ slRep k_Candidate (G F w.heap.size (un (inBlk v40) nb)) w' y13 v15 ∧ SlO k_Point 45 F w.heap.size (un (inBlk v40) nb) w' x39 v40 ∧ (G F w.heap.size (un (inBlk v40) nb)) p1) ?_ ?_
 ·
  refine CW.loopS [(12, v15), (13, (Value.int .i64 ((y13.length : Nat) : Int))), (5, (Value.slice none 0 0)), (14, (Value.int .i64 ((0 : Nat) : Int)))] ⟨rfl, rfl, rfl, rfl, trivial⟩ y13.length (fun m E w' => ∃ (rest42 : List Candidate) (i43 : Nat) (x39 : (List Point)) (v40 : Value), m = rest42.length ∧ E = [(12, v15), (13, (Value.int .i64 ((y13.length : Nat) : Int))), (5, v40), (14, (Value.int .i64 ((i43 : Nat) : Int)))] ∧ Ch nb w w' ∧ At y13 i43 rest42 ∧ runAO F26_Points_b1 rest42 x39 = some o49 ∧ slRep k_Slice (G F w.heap.size (un (inBlk v40) nb)) w' a0 av0 ∧ Blk w' p1 92 (Want.enc a1) ∧ slRep k_Candidate (G F w.heap.size (un (inBlk v40) nb)) w' y13 v15 ∧ SlO k_Point 45 F w.heap.size (un (inBlk v40) nb) w' x39 v40 ∧ (G F w.heap.size (un (inBlk v40) nb)) p1)
      ⟨y13, 0, ([] : List Point), (Value.slice none 0 0), rfl, rfl, c0, At.start, ho50, ah0, k4, h16, h38, gp1⟩ ?_
  rintro _ _ w55 ⟨rest42, i43, x39, v40, rfl, rfl, c54, hat45, hL44, ah0, k4, h16, h41, gp1⟩
  refine CW.seq (CW.region ?_)
  refine rl_bin rfl rfl B.lss rfl ?_
  refine RL.nil (thn_n ?_)
  refine CW.seq ?_
  refine CW.cond (t := decide (((i43 : Nat) : Int) < ((y13.length : Nat) : Int))) rfl (fun q57 => ?_) (fun q57 => ?_)
  ·
   obtain ⟨x51, rest58, rfl⟩ := hat45.cons q57
   obtain ⟨q46, hq47⟩ := runAO_some hL44
   have hb48 := hq47
   refine CW.skip (thn_n ?_)
   refine CW.seq ?_
   refine CW.block ?_
   refine CW.seq (CW.region ?_)
   refine rl_ixR rfl h16 rfl hat45.get Tryz.underlying125 Tryz.sizeOf129 rfl ?_
   intro p59 o60 cs61 hr62 hs63 hg64
   obtain ⟨z65, rfl, h66⟩ := hr62
   refine rl_loadA (cs := (Candidate.c x51 z65)) rfl Tryz.isAgg129 Tryz.sizeOf129 (hs63) rfl rfl ?_
   refine rl_alloc (Candidate.c Candidate.z (Value.slice none 0 0)) Tryz.zeroValue129 rfl rfl ?_
   intro p67 w68 n69 k70
   have lo71 : ∀ b, inBlk (PV p67) b → w.heap.size ≤ b := fun b h => Nat.le_trans c54.size (n69.fresh b h)
   have d72 : ∀ b, inBlk (PV p67) b → ¬ inBlk v40 b := disNew n69.fresh (fun b hb => (h41.lt b hb).2)
   have ah0 := slRep.st k_Slice_pos ah0 n69.ch (admNew n69.fresh (fun _ x => x))
   have gp1n : (G F w.heap.size (un (inBlk (PV p67)) (un (inBlk v40) nb))) p1 := ⟨gp1.1, ((admNew n69.fresh (fun _ x => x)) _ k4.lt gp1.2).2⟩
   have k4 := k4.ch0 n69.ch
   have gp1 := gp1n
   have h16 := slRep.st k_Candidate_pos h16 n69.ch (admNew n69.fresh (fun _ x => x))
   have h41 := h41.st n69.ch (fun _ _ x => x) (admNew n69.fresh (fun _ x => x)) (fun b h => (.inr (.inl h)))
   have h66 := slRep.st kStr_pos h66 n69.ch (admNew n69.fresh (fun _ x => x))
   have c54 := c54.then0 n69.ch
   refine rl_storeA (vs := (Candidate.c x51 z65)) rfl rfl (Kd.one _ (show k_Candidate.rep (G F w.heap.size (un (inBlk (PV p67)) (un (inBlk v40) nb))) w68 x51 (Candidate.c x51 z65) from ⟨z65, rfl, h66⟩)) Tryz.sizeOf129 rfl k70 rfl ?_
   intro w73 s75 c74 k76
   have ad77 : ∀ b, b < w68.heap.size → ¬ (un (inBlk (PV p67)) (un (inBlk v40) nb)) b → ¬ (inBlk (PV p67)) b ∧ ¬ (un (inBlk (PV p67)) (un (inBlk v40) nb)) b := fun b _ hs => ⟨fun h => hs (.inl h), hs⟩
   have ah0 := slRep.st k_Slice_pos ah0 c74 ad77
   have k4 := k4.ch c74 (ad77 _ k4.lt gp1.2).1
   have h16 := slRep.st k_Candidate_pos h16 c74 ad77
   have h41 := h41.st c74 (fun b hb h => (disSym d72) b hb h) ad77 (fun b h => (.inr (.inl h)))
   have c54 := c54.then c74 (fun i hi h => absurd (lo71 i h) (Nat.not_le_of_lt hi))
   refine RL.nil (thn_n (CW.region ?_))
   refine rl_move rfl rfl ?_
   refine rl_fieldAddr rfl fa129_0 rfl ?_
   refine rl_loadA (cs := (Point.enc x51.point)) rfl Tryz.isAgg45 Tryz.sizeOf45 (k76.segAt 0 18) rfl rfl ?_
   refine rl_bslice (k := k_Point) (F := F) (B := w.heap.size) (S := (un (inBlk (PV p67)) (un (inBlk v40) nb))) ([x51.point] : List Point) rfl k_Point_pos Tryz.underlying48 Tryz.sizeOf45 Tryz.zeroValue45 rfl rfl ⟨rfl, rfl, trivial⟩ c54.size (un_lt k76.ltp (un_lt (fun b hb => (h41.lt b hb).2) nbS)) rfl ?_
   intro v78 w79 c80 hf81 h82
   have h82 := h82.readNew k_Point_pos hf81 (un_lt k76.ltp (un_lt (fun b hb => (h41.lt b hb).2) nbS))
   have ah0 := slRep.ch k_Slice_pos ah0 c80
   have k4 := k4.ch0 c80
   have h16 := slRep.ch k_Candidate_pos h16 c80
   have h41 := h41.ch0 c80
   have k76 := k76.ch0 c80
   have c54 := c54.then0 c80
   obtain ⟨z91, hz92, hb48⟩ := bindS hb48
   have hl := (apO_get hz92).1
   refine rl_append (k := k_Point) (T := 45) (F := F) (B := w.heap.size) (S := (un (inBlk (PV p67)) (un (inBlk v40) nb))) (S2 := (un (inBlk (PV p67)) nb)) (fun v => (un (inBlk (PV p67)) (un (inBlk v) nb))) rfl rfl k_Point_pos ap48 h41 h82 (fun _ => un_swap) (fun _ _ => un_swap) hl c54.size (un_lt k76.ltp (un_lt (fun b hb => (h41.lt b hb).2) nbS)) rfl ?_
   intro v85 w86 h87 c88 hf89 ha90
   have ah0 := slRep.st k_Slice_pos ah0 c88 ha90
   have gp1n : (G F w.heap.size (un (inBlk (PV p67)) (un (inBlk v85) nb))) p1 := ⟨gp1.1, (ha90 _ k4.lt gp1.2).2⟩
   have k4 := k4.ch c88 (ha90 _ k4.lt gp1.2).1
   have gp1 := gp1n
   have h16 := slRep.st k_Candidate_pos h16 c88 ha90
   have c54 := c54.then c88 (fun i hi h => absurd ((fun b hb => (h41.lt b hb).1) i h) (Nat.not_le_of_lt hi))
   refine rl_assign rfl rfl ?_
   refine RL.nil ?_
   refine inB_n ?_
   refine thn_n (CW.region ?_)
   refine rl_inc rfl hat45.lt h16.big rfl ?_
   refine rl_move rfl rfl ?_
   refine RL.nil (thn_n ?_)
   have ad94 : ∀ b, b < w86.heap.size → ¬ (un (inBlk (PV p67)) (un (inBlk v85) nb)) b → ¬ nb b ∧ ¬ (un (inBlk v85) nb) b := fun b _ hs => ⟨fun x => x, fun h => hs (un_el h (fun h => (.inr (.inl h))) (fun h => False.elim h))⟩
   have crf : Ch nb w86 w86 := Ch.refl
   have ah0 := slRep.st k_Slice_pos ah0 crf ad94
   have gp1n : (G F w.heap.size (un (inBlk v85) nb)) p1 := ⟨gp1.1, (ad94 _ k4.lt gp1.2).2⟩
   have k4 := k4.ch0 crf
   have gp1 := gp1n
   have h16 := slRep.st k_Candidate_pos h16 crf ad94
   have h87 := h87.st crf (fun _ _ x => x) ad94 (fun b h => (.inl h))
   have c54 := c54.then0 crf
   have hLn := runAO_next hL44 hq47 hb48
   exact ⟨rest58.length, Nat.lt_succ_self _, [(12, v15), (13, (Value.int .i64 ((y13.length : Nat) : Int))), (5, v85), (14, (Value.int .i64 ((i43 + 1 : Nat) : Int)))], ⟨rfl, rfl, rfl, rfl, trivial⟩, ⟨rest58, i43 + 1, x39 ++ [x51.point], v85, rfl, rfl, c54, hat45.next, hLn, ah0, k4, h16, h87, gp1⟩⟩
  obtain rfl := hat45.nil q57
  have hLf : x39 = o49 := runAO_done hL44
  refine CW.exit (thn_exit (thn_exit (inB_hit ?_)))
  exact ⟨x39, v40, ⟨rfl, trivial⟩, c54, hLf, ah0, k4, h16, h41, gp1⟩
 rintro _ w96 ⟨x39, v40, hE97, c95, f98, ah0, k4, h16, h41, gp1⟩
 subst f98
 refine thn_n (CW.sub [(5, v40)] hE97 ?_)
 refine CW.seq (CW.region ?_)
 refine rl_move rfl rfl ?_
 have h41 := SlO.read (S' := nb) k_Point_pos h41 (fun b hs h => hs (False.elim h)) (fun b hb => fun h => h)
 have crf : Ch nb w96 w96 := Ch.refl
 have c95 := c95.then0 crf
 obtain ⟨y103, hy104, hS⟩ := bindS hS
 refine rl_callF rfl en49 rfl (ctr49 (G F w.heap.size nb) w96 x39 v40 h41 y103 hy104) ?_
 rintro v105 w101 ⟨_, rfl, h106, c102⟩
 have h106 := SlO.back (S' := un (inBlk v105) nb) h106 nbS c95.size (fun _ => Or.comm)
 have c95 := c95.then0 c102
 refine rl_assign rfl rfl ?_
 refine RL.nil (thn_n (CW.ret ?_))
 obtain rfl := Option.some.inj hS
 exact ret1 rfl ⟨v105, rfl, h106.out, c95⟩
end Go.Proofs.YtgcneihmkkldeaaGreat
