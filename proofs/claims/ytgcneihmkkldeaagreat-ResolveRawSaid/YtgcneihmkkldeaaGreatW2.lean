/- The walks through the code: each call comes to its printed function. Written by a program of this session. -/
import Derived.Test.YtgcneihmkkldeaaGreatM
import Derived.Test.YtgcneihmkkldeaaGreatL
import Derived.Test.YtgcneihmkkldeaaGreatW1
namespace Go.Proofs.YtgcneihmkkldeaaGreat
open Go K
set_option linter.unusedVariables false
/-- lb/face.Faces -/
theorem ctr24 (F : Nat → Prop) (w : World) (a0 : Service) (az0_0 az0_1 az0_2 az0_3 az0_4 : Value) (ah0_0 : slRep k_Addr F w a0.cluster az0_0) (ah0_1 : slRep k_Addr F w a0.external az0_1) (ah0_2 : slRep k_Addr F w a0.balancers az0_2) (ah0_3 : slRep k_Cidr F w a0.ranges az0_3) (ah0_4 : slRep k_Port F w a0.ports az0_4) (a1 : Node) (az1_0 : Value) (ah1_0 : slRep k_Addr F w a1.addrs az1_0) (r : (List Face)) (hs : F24_Faces a0 a1 = some r) :
    Ret Tryz.prog 24 #[(Value.agg (Service.c a0 az0_0 az0_1 az0_2 az0_3 az0_4).toArray), (Value.agg (Node.c a1 az1_0).toArray)] w fun v w' => ∃ (y0 : Value), v = y0 ∧ SlO k_Face 47 F w.heap.size (inBlk y0) w' r y0 ∧ Ch nb w w' := by
 have hS := hs
 have c0 : Ch nb w w := Ch.refl
 have ah0_0 := slRep.enter k_Addr_pos ah0_0
 have ah0_1 := slRep.enter k_Addr_pos ah0_1
 have ah0_2 := slRep.enter k_Addr_pos ah0_2
 have ah0_3 := slRep.enter k_Cidr_pos ah0_3
 have ah0_4 := slRep.enter k_Port_pos ah0_4
 have ah1_0 := slRep.enter k_Addr_pos ah1_0
 refine Ret.of (n := 74) (args := [_, _]) (rs := [.tmp 4]) Tryz.func24 rfl rfl rfl rfl ?_
 refine CW.seq (CW.region ?_)
 refine rl_boxA (cs := (Service.c a0 az0_0 az0_1 az0_2 az0_3 az0_4)) rfl rfl ?_
 intro p1 w2 n3 k4
 have gp1 : (G F w.heap.size nb) p1 := ⟨.inr (by rw [n3.eq]; exact c0.size), fun h => absurd (nbS _ h) (by rw [n3.eq]; exact Nat.lt_irrefl _)⟩
 have ah0_0 := slRep.ch k_Addr_pos ah0_0 n3.ch
 have ah0_1 := slRep.ch k_Addr_pos ah0_1 n3.ch
 have ah0_2 := slRep.ch k_Addr_pos ah0_2 n3.ch
 have ah0_3 := slRep.ch k_Cidr_pos ah0_3 n3.ch
 have ah0_4 := slRep.ch k_Port_pos ah0_4 n3.ch
 have ah1_0 := slRep.ch k_Addr_pos ah1_0 n3.ch
 have c0 := c0.then0 n3.ch
 refine rl_boxA (cs := (Node.c a1 az1_0)) rfl rfl ?_
 intro p5 w6 n7 k8
 have gp5 : (G F w.heap.size nb) p5 := ⟨.inr (by rw [n7.eq]; exact c0.size), fun h => absurd (nbS _ h) (by rw [n7.eq]; exact Nat.lt_irrefl _)⟩
 have ah0_0 := slRep.ch k_Addr_pos ah0_0 n7.ch
 have ah0_1 := slRep.ch k_Addr_pos ah0_1 n7.ch
 have ah0_2 := slRep.ch k_Addr_pos ah0_2 n7.ch
 have ah0_3 := slRep.ch k_Cidr_pos ah0_3 n7.ch
 have ah0_4 := slRep.ch k_Port_pos ah0_4 n7.ch
 have ah1_0 := slRep.ch k_Addr_pos ah1_0 n7.ch
 have k4 := k4.ch0 n7.ch
 have c0 := c0.then0 n7.ch
 refine rl_assign rfl rfl ?_
 refine RL.nil (thn_n (CW.seq (CW.region ?_)))
 refine rl_makeMap (ek := (fun x => Value.agg (Place.enc x).toArray)) (ev := (fun x => Value.agg (St85.enc x).toArray)) rfl ?_
 intro p9 w10 n11 k12
 have lo13 : ∀ b, inBlk (Value.map (some p9)) b → w.heap.size ≤ b := fun b h => Nat.le_trans c0.size (n11.freshM b h)
 have ah0_0 := slRep.st k_Addr_pos ah0_0 n11.ch (admNew n11.freshM (fun _ x => x))
 have ah0_1 := slRep.st k_Addr_pos ah0_1 n11.ch (admNew n11.freshM (fun _ x => x))
 have ah0_2 := slRep.st k_Addr_pos ah0_2 n11.ch (admNew n11.freshM (fun _ x => x))
 have ah0_3 := slRep.st k_Cidr_pos ah0_3 n11.ch (admNew n11.freshM (fun _ x => x))
 have ah0_4 := slRep.st k_Port_pos ah0_4 n11.ch (admNew n11.freshM (fun _ x => x))
 have ah1_0 := slRep.st k_Addr_pos ah1_0 n11.ch (admNew n11.freshM (fun _ x => x))
 have gp1n : (G F w.heap.size (un (inBlk (Value.map (some p9))) nb)) p1 := ⟨gp1.1, ((admNew n11.freshM (fun _ x => x)) _ k4.lt gp1.2).2⟩
 have k4 := k4.ch0 n11.ch
 have gp1 := gp1n
 have gp5n : (G F w.heap.size (un (inBlk (Value.map (some p9))) nb)) p5 := ⟨gp5.1, ((admNew n11.freshM (fun _ x => x)) _ k8.lt gp5.2).2⟩
 have k8 := k8.ch0 n11.ch
 have gp5 := gp5n
 have c0 := c0.then0 n11.ch
 refine rl_buildC (out := (Row_2.c ({ seen := ([] : (List (Place × St85))), list := [] } : Row_2) (Value.map (some p9)) (Value.slice none 0 0))) [(0, [(Value.map (some p9))])] rfl (co_cons (one_toL k12.one.1) co_nil) pl122 Tryz.zeroValue122 rfl rfl rfl ?_
 refine rl_boxA (cs := (Row_2.c ({ seen := ([] : (List (Place × St85))), list := [] } : Row_2) (Value.map (some p9)) (Value.slice none 0 0))) rfl rfl ?_
 intro p14 w15 n16 k17
 have lo18 : ∀ b, inBlk (PV p14) b → w.heap.size ≤ b := fun b h => Nat.le_trans c0.size (n16.fresh b h)
 have d19 : ∀ b, inBlk (PV p14) b → ¬ inBlk (Value.map (some p9)) b := disNew n16.fresh k12.ltp
 have ah0_0 := slRep.st k_Addr_pos ah0_0 n16.ch (admNew n16.fresh (fun _ x => x))
 have ah0_1 := slRep.st k_Addr_pos ah0_1 n16.ch (admNew n16.fresh (fun _ x => x))
 have ah0_2 := slRep.st k_Addr_pos ah0_2 n16.ch (admNew n16.fresh (fun _ x => x))
 have ah0_3 := slRep.st k_Cidr_pos ah0_3 n16.ch (admNew n16.fresh (fun _ x => x))
 have ah0_4 := slRep.st k_Port_pos ah0_4 n16.ch (admNew n16.fresh (fun _ x => x))
 have ah1_0 := slRep.st k_Addr_pos ah1_0 n16.ch (admNew n16.fresh (fun _ x => x))
 have gp1n : (G F w.heap.size (un (inBlk (PV p14)) (un (inBlk (Value.map (some p9))) nb))) p1 := ⟨gp1.1, ((admNew n16.fresh (fun _ x => x)) _ k4.lt gp1.2).2⟩
 have k4 := k4.ch0 n16.ch
 have gp1 := gp1n
 have gp5n : (G F w.heap.size (un (inBlk (PV p14)) (un (inBlk (Value.map (some p9))) nb))) p5 := ⟨gp5.1, ((admNew n16.fresh (fun _ x => x)) _ k8.lt gp5.2).2⟩
 have k8 := k8.ch0 n16.ch
 have gp5 := gp5n
 have k12 := k12.ch0 n16.ch
 have c0 := c0.then0 n16.ch
 refine rl_assign rfl rfl ?_
 refine RL.nil (thn_n (CW.seq ?_))
 refine CW.seq (CW.region ?_)
 refine rl_fieldAddr rfl fa28_6 rfl ?_
 refine rl_loadS (v := az0_4) rfl Tryz.isAgg26 (k4.cell rfl) rfl ?_
 refine rl_lenR rfl ah0_4 Tryz.underlying26 rfl ?_
 refine rl_move rfl rfl ?_
 refine RL.nil (thn_n ?_)
 have d21 : ∀ b, inBlk (Value.slice none 0 0) b → ¬ inBlk (PV p14) b := fun _ h => h.elim
 have d22 : ∀ b, inBlk (Value.slice none 0 0) b → ¬ inBlk (Value.map (some p9)) b := fun _ h => h.elim
 have crf : Ch nb w15 w15 := Ch.refl
 have ah0_0 := slRep.st k_Addr_pos ah0_0 crf admNil
 have ah0_1 := slRep.st k_Addr_pos ah0_1 crf admNil
 have ah0_2 := slRep.st k_Addr_pos ah0_2 crf admNil
 have ah0_3 := slRep.st k_Cidr_pos ah0_3 crf admNil
 have ah0_4 := slRep.st k_Port_pos ah0_4 crf admNil
 have ah1_0 := slRep.st k_Addr_pos ah1_0 crf admNil
 have gp1n : (G F w.heap.size (un (inBlk (Value.slice none 0 0)) (un (inBlk (PV p14)) (un (inBlk (Value.map (some p9))) nb)))) p1 := ⟨gp1.1, (admNil _ k4.lt gp1.2).2⟩
 have k4 := k4.ch0 crf
 have gp1 := gp1n
 have gp5n : (G F w.heap.size (un (inBlk (Value.slice none 0 0)) (un (inBlk (PV p14)) (un (inBlk (Value.map (some p9))) nb)))) p5 := ⟨gp5.1, (admNil _ k8.lt gp5.2).2⟩
 have k8 := k8.ch0 crf
 have gp5 := gp5n
 have k12 := k12.ch0 crf
 have k17 := k17.ch0 crf
 have c0 := c0.then0 crf
 have h20 : SlO k_Face 47 F w.heap.size (un (inBlk (Value.slice none 0 0)) (un (inBlk (PV p14)) (un (inBlk (Value.map (some p9))) nb))) w15 ([] : List Face) (.slice none 0 0) := SlO.nil
 obtain ⟨o40, ho41, hS⟩ := bindS hS
 refine CW.cutB (fun E' w' => ∃ (x23 : Row_2) (v24 : Value) (v26 : Value), Sub [(5, (PV p14))] E' ∧ Ch nb w w' ∧ x23 = o40 ∧ slRep k_Addr (G F w.heap.size (un (inBlk v26) (un (inBlk (PV p14)) (un (inBlk v24) nb)))) w' a0.cluster az0_0 ∧ slRep k_Addr (G F w.heap.size (un (inBlk v26) (un (inBlk (PV p14)) (un (inBlk v24) nb)))) w' a0.external az0_1 ∧ slRep k_Addr (G F w.heap.size (un (inBlk v26) (un (inBlk (PV p14)) (un (inBlk v24) nb)))) w' a0.balancers az0_2 ∧ slRep k_Cidr (G F w.heap.size (un (inBlk v26) (un (inBlk (PV p14)) (un (inBlk v24) nb)))) w' a0.ranges az0_3 ∧ slRep k_Port (G F w.heap.size (un (inBlk v26) (un (inBlk (PV p14)) (un (inBlk v24) nb)))) w' a0.ports az0_4 ∧ slRep k_Addr (G F w.heap.size (un (inBlk v26) (un (inBlk (PV p14)) (un (inBlk v24) nb)))) w' a1.addrs az1_0 ∧ Blk w' p1 28 (Service.c a0 az0_0 az0_1 az0_2 az0_3 az0_4) ∧ Blk w' p5 31 (Node.c a1 az1_0) ∧ Mp (fun x => Value.agg (Place.enc x).toArray) (fun x => Value.agg (St85.enc x).toArray) w' x23.seen v24 ∧ SlO k_Face 47 F w.heap.size (un (inBlk v26) (un (inBlk (PV p14)) (un (inBlk v24) nb))) w' x23.list v26 ∧ Blk w' p14 122 (Row_2.c x23 v24 v26) ∧ (G F w.heap.size (un (inBlk v26) (un (inBlk (PV p14)) (un (inBlk v24) nb)))) p1 ∧ (G F w.heap.size (un (inBlk v26) (un (inBlk (PV p14)) (un (inBlk v24) nb)))) p5 ∧ (∀ b, inBlk v26 b → ¬ inBlk (PV p14) b) ∧ (∀ b, inBlk v26 b → ¬ inBlk v24 b) ∧ (∀ b, inBlk (PV p14) b → ¬ inBlk v24 b) ∧ (∀ b, inBlk v24 b → w.heap.size ≤ b)) ?_ ?_
 ·
  refine CW.loopS [(2, (PV p1)), (3, (PV p5)), (5, (PV p14)), (13, az0_4), (14, (Value.int .i64 ((a0.ports.length : Nat) : Int))), (15, (Value.int .i64 ((0 : Nat) : Int)))] ⟨rfl, rfl, rfl, rfl, rfl, rfl, trivial⟩ a0.ports.length (fun m E w' => ∃ (rest33 : List Port) (i34 : Nat) (x23 : Row_2) (v24 : Value) (v26 : Value), m = rest33.length ∧ E = [(2, (PV p1)), (3, (PV p5)), (5, (PV p14)), (13, az0_4), (14, (Value.int .i64 ((a0.ports.length : Nat) : Int))), (15, (Value.int .i64 ((i34 : Nat) : Int)))] ∧ Ch nb w w' ∧ At a0.ports i34 rest33 ∧ runAO (F24_Faces_b1 a0 a1) rest33 x23 = some o40 ∧ slRep k_Addr (G F w.heap.size (un (inBlk v26) (un (inBlk (PV p14)) (un (inBlk v24) nb)))) w' a0.cluster az0_0 ∧ slRep k_Addr (G F w.heap.size (un (inBlk v26) (un (inBlk (PV p14)) (un (inBlk v24) nb)))) w' a0.external az0_1 ∧ slRep k_Addr (G F w.heap.size (un (inBlk v26) (un (inBlk (PV p14)) (un (inBlk v24) nb)))) w' a0.balancers az0_2 ∧ slRep k_Cidr (G F w.heap.size (un (inBlk v26) (un (inBlk (PV p14)) (un (inBlk v24) nb)))) w' a0.ranges az0_3 ∧ slRep k_Port (G F w.heap.size (un (inBlk v26) (un (inBlk (PV p14)) (un (inBlk v24) nb)))) w' a0.ports az0_4 ∧ slRep k_Addr (G F w.heap.size (un (inBlk v26) (un (inBlk (PV p14)) (un (inBlk v24) nb)))) w' a1.addrs az1_0 ∧ Blk w' p1 28 (Service.c a0 az0_0 az0_1 az0_2 az0_3 az0_4) ∧ Blk w' p5 31 (Node.c a1 az1_0) ∧ Mp (fun x => Value.agg (Place.enc x).toArray) (fun x => Value.agg (St85.enc x).toArray) w' x23.seen v24 ∧ SlO k_Face 47 F w.heap.size (un (inBlk v26) (un (inBlk (PV p14)) (un (inBlk v24) nb))) w' x23.list v26 ∧ Blk w' p14 122 (Row_2.c x23 v24 v26) ∧ (G F w.heap.size (un (inBlk v26) (un (inBlk (PV p14)) (un (inBlk v24) nb)))) p1 ∧ (G F w.heap.size (un (inBlk v26) (un (inBlk (PV p14)) (un (inBlk v24) nb)))) p5 ∧ (∀ b, inBlk v26 b → ¬ inBlk (PV p14) b) ∧ (∀ b, inBlk v26 b → ¬ inBlk v24 b) ∧ (∀ b, inBlk (PV p14) b → ¬ inBlk v24 b) ∧ (∀ b, inBlk v24 b → w.heap.size ≤ b))
      ⟨a0.ports, 0, ({ seen := ([] : (List (Place × St85))), list := [] } : Row_2), (Value.map (some p9)), (Value.slice none 0 0), rfl, rfl, c0, At.start, ho41, ah0_0, ah0_1, ah0_2, ah0_3, ah0_4, ah1_0, k4, k8, k12, h20, k17, gp1, gp5, d21, d22, d19, lo13⟩ ?_
  rintro _ _ w46 ⟨rest33, i34, x23, v24, v26, rfl, rfl, c45, hat36, hL35, ah0_0, ah0_1, ah0_2, ah0_3, ah0_4, ah1_0, k4, k8, h25, h27, k28, gp1, gp5, d30, d31, d32, lo29⟩
  refine CW.seq (CW.region ?_)
  refine rl_bin rfl rfl B.lss rfl ?_
  refine RL.nil (thn_n ?_)
  refine CW.seq ?_
  refine CW.cond (t := decide (((i34 : Nat) : Int) < ((a0.ports.length : Nat) : Int))) rfl (fun q48 => ?_) (fun q48 => ?_)
  ·
   obtain ⟨x42, rest49, rfl⟩ := hat36.cons q48
   obtain ⟨q37, hq38⟩ := runAO_some hL35
   have hb39 := hq38
   refine CW.skip (thn_n ?_)
   refine CW.seq ?_
   refine CW.block ?_
   refine CW.seq (CW.region ?_)
   refine rl_ixR rfl ah0_4 rfl hat36.get Tryz.underlying26 Tryz.sizeOf78 rfl ?_
   intro p50 o51 cs52 hr53 hs54 hg55
   obtain rfl := hr53
   refine rl_loadA (cs := (Port.enc x42)) rfl Tryz.isAgg78 Tryz.sizeOf78 (hs54) rfl rfl ?_
   refine rl_alloc (Port.enc Port.z) Tryz.zeroValue78 rfl rfl ?_
   intro p56 w57 n58 k59
   have lo60 : ∀ b, inBlk (PV p56) b → w.heap.size ≤ b := fun b h => Nat.le_trans c45.size (n58.fresh b h)
   have d61 : ∀ b, inBlk (PV p56) b → ¬ inBlk v26 b := disNew n58.fresh (fun b hb => (h27.lt b hb).2)
   have d62 : ∀ b, inBlk (PV p56) b → ¬ inBlk (PV p14) b := disNew n58.fresh k28.ltp
   have d63 : ∀ b, inBlk (PV p56) b → ¬ inBlk v24 b := disNew n58.fresh h25.ltp
   have ah0_0 := slRep.st k_Addr_pos ah0_0 n58.ch (admNew n58.fresh (fun _ x => x))
   have ah0_1 := slRep.st k_Addr_pos ah0_1 n58.ch (admNew n58.fresh (fun _ x => x))
   have ah0_2 := slRep.st k_Addr_pos ah0_2 n58.ch (admNew n58.fresh (fun _ x => x))
   have ah0_3 := slRep.st k_Cidr_pos ah0_3 n58.ch (admNew n58.fresh (fun _ x => x))
   have ah0_4 := slRep.st k_Port_pos ah0_4 n58.ch (admNew n58.fresh (fun _ x => x))
   have ah1_0 := slRep.st k_Addr_pos ah1_0 n58.ch (admNew n58.fresh (fun _ x => x))
   have gp1n : (G F w.heap.size (un (inBlk (PV p56)) (un (inBlk v26) (un (inBlk (PV p14)) (un (inBlk v24) nb))))) p1 := ⟨gp1.1, ((admNew n58.fresh (fun _ x => x)) _ k4.lt gp1.2).2⟩
   have k4 := k4.ch0 n58.ch
   have gp1 := gp1n
   have gp5n : (G F w.heap.size (un (inBlk (PV p56)) (un (inBlk v26) (un (inBlk (PV p14)) (un (inBlk v24) nb))))) p5 := ⟨gp5.1, ((admNew n58.fresh (fun _ x => x)) _ k8.lt gp5.2).2⟩
   have k8 := k8.ch0 n58.ch
   have gp5 := gp5n
   have h25 := h25.ch0 n58.ch
   have h27 := h27.st n58.ch (fun _ _ x => x) (admNew n58.fresh (fun _ x => x)) (fun b h => (.inr (.inl h)))
   have k28 := k28.ch0 n58.ch
   have c45 := c45.then0 n58.ch
   refine rl_storeA (vs := (Port.enc x42)) rfl rfl (all_one rfl) Tryz.sizeOf78 rfl k59 rfl ?_
   intro w64 s66 c65 k67
   have ad68 : ∀ b, b < w57.heap.size → ¬ (un (inBlk (PV p56)) (un (inBlk v26) (un (inBlk (PV p14)) (un (inBlk v24) nb)))) b → ¬ (inBlk (PV p56)) b ∧ ¬ (un (inBlk (PV p56)) (un (inBlk v26) (un (inBlk (PV p14)) (un (inBlk v24) nb)))) b := fun b _ hs => ⟨fun h => hs (.inl h), hs⟩
   have ah0_0 := slRep.st k_Addr_pos ah0_0 c65 ad68
   have ah0_1 := slRep.st k_Addr_pos ah0_1 c65 ad68
   have ah0_2 := slRep.st k_Addr_pos ah0_2 c65 ad68
   have ah0_3 := slRep.st k_Cidr_pos ah0_3 c65 ad68
   have ah0_4 := slRep.st k_Port_pos ah0_4 c65 ad68
   have ah1_0 := slRep.st k_Addr_pos ah1_0 c65 ad68
   have k4 := k4.ch c65 (ad68 _ k4.lt gp1.2).1
   have k8 := k8.ch c65 (ad68 _ k8.lt gp5.2).1
   have h25 := h25.ch c65 ((fun b hb h => (disSym d63) b hb h))
   have h27 := h27.st c65 (fun b hb h => (disSym d61) b hb h) ad68 (fun b h => (.inr (.inl h)))
   have k28 := k28.ch c65 ((fun b hb h => (disSym d62) b hb h) _ rfl)
   have c45 := c45.then c65 (fun i hi h => absurd (lo60 i h) (Nat.not_le_of_lt hi))
   refine RL.nil (thn_n (CW.seq (CW.region ?_)))
   refine rl_fieldAddr rfl fa78_1 rfl ?_
   refine rl_loadS (v := (Value.int .i64 x42.proto)) rfl Tryz.isAgg3 (k67.cell rfl) rfl ?_
   refine rl_fieldAddr rfl fa78_2 rfl ?_
   refine rl_loadS (v := (Value.int .i64 x42.port)) rfl Tryz.isAgg3 (k67.cell rfl) rfl ?_
   refine rl_build (out := (Point.enc ({ addr := Addr.z, port := x42.port } : Point))) rfl pl45 Tryz.zeroValue45 rfl rfl rfl ?_
   refine rl_fieldAddr rfl fa78_0 rfl ?_
   refine rl_loadS (v := (Value.string x42.name)) rfl Tryz.isAgg9 (k67.cell rfl) rfl ?_
   refine rl_fieldAddr rfl fa28_7 rfl ?_
   refine rl_loadS (v := (Value.bool a0.internalLocal)) rfl Tryz.isAgg4 (k4.cell rfl) rfl ?_
   refine rl_build (out := (Face.enc ({ proto := x42.proto, point := ({ addr := Addr.z, port := x42.port } : Point), name := x42.name, how := 0, localF := a0.internalLocal, asked := false } : Face))) rfl pl47 Tryz.zeroValue47 rfl rfl rfl ?_
   refine rl_alloc (Face.enc Face.z) Tryz.zeroValue47 rfl rfl ?_
   intro p69 w70 n71 k72
   have lo73 : ∀ b, inBlk (PV p69) b → w.heap.size ≤ b := fun b h => Nat.le_trans c45.size (n71.fresh b h)
   have d74 : ∀ b, inBlk (PV p69) b → ¬ inBlk (PV p56) b := disNew n71.fresh k67.ltp
   have d75 : ∀ b, inBlk (PV p69) b → ¬ inBlk v26 b := disNew n71.fresh (fun b hb => (h27.lt b hb).2)
   have d76 : ∀ b, inBlk (PV p69) b → ¬ inBlk (PV p14) b := disNew n71.fresh k28.ltp
   have d77 : ∀ b, inBlk (PV p69) b → ¬ inBlk v24 b := disNew n71.fresh h25.ltp
   have ah0_0 := slRep.st k_Addr_pos ah0_0 n71.ch (admNew n71.fresh (fun _ x => x))
   have ah0_1 := slRep.st k_Addr_pos ah0_1 n71.ch (admNew n71.fresh (fun _ x => x))
   have ah0_2 := slRep.st k_Addr_pos ah0_2 n71.ch (admNew n71.fresh (fun _ x => x))
   have ah0_3 := slRep.st k_Cidr_pos ah0_3 n71.ch (admNew n71.fresh (fun _ x => x))
   have ah0_4 := slRep.st k_Port_pos ah0_4 n71.ch (admNew n71.fresh (fun _ x => x))
   have ah1_0 := slRep.st k_Addr_pos ah1_0 n71.ch (admNew n71.fresh (fun _ x => x))
   have gp1n : (G F w.heap.size (un (inBlk (PV p69)) (un (inBlk (PV p56)) (un (inBlk v26) (un (inBlk (PV p14)) (un (inBlk v24) nb)))))) p1 := ⟨gp1.1, ((admNew n71.fresh (fun _ x => x)) _ k4.lt gp1.2).2⟩
   have k4 := k4.ch0 n71.ch
   have gp1 := gp1n
   have gp5n : (G F w.heap.size (un (inBlk (PV p69)) (un (inBlk (PV p56)) (un (inBlk v26) (un (inBlk (PV p14)) (un (inBlk v24) nb)))))) p5 := ⟨gp5.1, ((admNew n71.fresh (fun _ x => x)) _ k8.lt gp5.2).2⟩
   have k8 := k8.ch0 n71.ch
   have gp5 := gp5n
   have h25 := h25.ch0 n71.ch
   have h27 := h27.st n71.ch (fun _ _ x => x) (admNew n71.fresh (fun _ x => x)) (fun b h => (.inr (.inr (.inl h))))
   have k28 := k28.ch0 n71.ch
   have k67 := k67.ch0 n71.ch
   have c45 := c45.then0 n71.ch
   refine rl_storeA (vs := (Face.enc ({ proto := x42.proto, point := ({ addr := Addr.z, port := x42.port } : Point), name := x42.name, how := 0, localF := a0.internalLocal, asked := false } : Face))) rfl rfl (all_one rfl) Tryz.sizeOf47 rfl k72 rfl ?_
   intro w78 s80 c79 k81
   have ad82 : ∀ b, b < w70.heap.size → ¬ (un (inBlk (PV p69)) (un (inBlk (PV p56)) (un (inBlk v26) (un (inBlk (PV p14)) (un (inBlk v24) nb))))) b → ¬ (inBlk (PV p69)) b ∧ ¬ (un (inBlk (PV p69)) (un (inBlk (PV p56)) (un (inBlk v26) (un (inBlk (PV p14)) (un (inBlk v24) nb))))) b := fun b _ hs => ⟨fun h => hs (.inl h), hs⟩
   have ah0_0 := slRep.st k_Addr_pos ah0_0 c79 ad82
   have ah0_1 := slRep.st k_Addr_pos ah0_1 c79 ad82
   have ah0_2 := slRep.st k_Addr_pos ah0_2 c79 ad82
   have ah0_3 := slRep.st k_Cidr_pos ah0_3 c79 ad82
   have ah0_4 := slRep.st k_Port_pos ah0_4 c79 ad82
   have ah1_0 := slRep.st k_Addr_pos ah1_0 c79 ad82
   have k4 := k4.ch c79 (ad82 _ k4.lt gp1.2).1
   have k8 := k8.ch c79 (ad82 _ k8.lt gp5.2).1
   have h25 := h25.ch c79 ((fun b hb h => (disSym d77) b hb h))
   have h27 := h27.st c79 (fun b hb h => (disSym d75) b hb h) ad82 (fun b h => (.inr (.inr (.inl h))))
   have k28 := k28.ch c79 ((fun b hb h => (disSym d76) b hb h) _ rfl)
   have k67 := k67.ch c79 ((fun b hb h => (disSym d74) b hb h) _ rfl)
   have c45 := c45.then c79 (fun i hi h => absurd (lo73 i h) (Nat.not_le_of_lt hi))
   refine RL.nil (thn_n (CW.seq (CW.region ?_)))
   refine rl_move rfl rfl ?_
   refine rl_fieldAddr rfl fa28_2 rfl ?_
   refine rl_loadS (v := az0_0) rfl Tryz.isAgg24 (k4.cell rfl) rfl ?_
   refine rl_loadA (cs := (Face.enc ({ proto := x42.proto, point := ({ addr := Addr.z, port := x42.port } : Point), name := x42.name, how := 0, localF := a0.internalLocal, asked := false } : Face))) rfl Tryz.isAgg47 Tryz.sizeOf47 (k81.segAt 0 23) rfl rfl ?_
   have hd83 : ∀ b, (un (inBlk (PV p14)) (un (inBlk v24) (inBlk v26))) b → ¬ (un (inBlk (PV p69)) (un (inBlk (PV p56)) nb)) b := fun b h => un_el h (fun h => (fun b hb => fun h => un_el h (fun h => (disSym d76) b hb h) (fun h => un_el h (fun h => (disSym d62) b hb h) (fun h => h))) b h) (fun h => un_el h (fun h => (fun b hb => fun h => un_el h (fun h => (disSym d77) b hb h) (fun h => un_el h (fun h => (disSym d63) b hb h) (fun h => h))) b h) (fun h => (fun b hb => fun h => un_el h (fun h => (disSym d75) b hb h) (fun h => un_el h (fun h => (disSym d61) b hb h) (fun h => h))) b h))
   have hS84 : (un (inBlk (PV p69)) (un (inBlk (PV p56)) (un (inBlk v26) (un (inBlk (PV p14)) (un (inBlk v24) nb))))) = (un (inBlk (PV p14)) (un (inBlk v24) (un (inBlk v26) (un (inBlk (PV p69)) (un (inBlk (PV p56)) nb))))) := funext fun b => propext ⟨fun h => un_el h (fun h => (.inr (.inr (.inr (.inl h))))) (fun h => un_el h (fun h => (.inr (.inr (.inr (.inr (.inl h)))))) (fun h => un_el h (fun h => (.inr (.inr (.inl h)))) (fun h => un_el h (fun h => (.inl h)) (fun h => un_el h (fun h => (.inr (.inl h))) (fun h => False.elim h))))), fun h => un_el h (fun h => (.inr (.inr (.inr (.inl h))))) (fun h => un_el h (fun h => (.inr (.inr (.inr (.inr (.inl h)))))) (fun h => un_el h (fun h => (.inr (.inr (.inl h)))) (fun h => un_el h (fun h => (.inl h)) (fun h => un_el h (fun h => (.inr (.inl h))) (fun h => False.elim h)))))⟩
   have ha85 := ah0_0
   rw [hS84] at ha85
   obtain ⟨y88, hy89, hb39⟩ := bindS hb39
   refine rl_callF rfl en45 rfl (ctr45 F w78 w.heap.size (un (inBlk (PV p69)) (un (inBlk (PV p56)) nb)) c45.size (un_lt k81.ltp (un_lt k67.ltp nbS)) p14 v24 v26 hd83 d32 (disSym d30) (disSym d31) x23 k28 h25 (hS84 ▸ h27) a0.cluster az0_0 ha85 ({ proto := x42.proto, point := ({ addr := Addr.z, port := x42.port } : Point), name := x42.name, how := 0, localF := a0.internalLocal, asked := false } : Face) y88 hy89) ?_
   rintro _ w86 ⟨z90, z91, rfl, h92, h93, h94, hf95, hf96, d97, d98, d99, c87⟩
   have lo100 : ∀ b, inBlk z90 b → w.heap.size ≤ b := fun b h => (hf95 b h).elim (fun h => un_el h (fun h => lo18 b h) (fun h => un_el h (fun h => lo29 b h) (fun h => (fun b hb => (h27.lt b hb).1) b h))) (Nat.le_trans c45.size)
   have d101 : ∀ b, inBlk z90 b → ¬ inBlk (PV p69) b := fun b h hu => (hf95 b h).elim (fun h => un_el h (fun h => (disSym d76) b h hu) (fun h => un_el h (fun h => (disSym d77) b h hu) (fun h => (disSym d75) b h hu))) (fun h => Nat.not_le_of_lt (k81.ltp b hu) h)
   have d102 : ∀ b, inBlk z90 b → ¬ inBlk (PV p56) b := fun b h hu => (hf95 b h).elim (fun h => un_el h (fun h => (disSym d62) b h hu) (fun h => un_el h (fun h => (disSym d63) b h hu) (fun h => (disSym d61) b h hu))) (fun h => Nat.not_le_of_lt (k67.ltp b hu) h)
   have lo103 : ∀ b, inBlk z91 b → w.heap.size ≤ b := fun b h => (hf96 b h).elim (fun h => un_el h (fun h => lo18 b h) (fun h => un_el h (fun h => lo29 b h) (fun h => (fun b hb => (h27.lt b hb).1) b h))) (Nat.le_trans c45.size)
   have d104 : ∀ b, inBlk z91 b → ¬ inBlk (PV p69) b := fun b h hu => (hf96 b h).elim (fun h => un_el h (fun h => (disSym d76) b h hu) (fun h => un_el h (fun h => (disSym d77) b h hu) (fun h => (disSym d75) b h hu))) (fun h => Nat.not_le_of_lt (k81.ltp b hu) h)
   have d105 : ∀ b, inBlk z91 b → ¬ inBlk (PV p56) b := fun b h hu => (hf96 b h).elim (fun h => un_el h (fun h => (disSym d62) b h hu) (fun h => un_el h (fun h => (disSym d63) b h hu) (fun h => (disSym d61) b h hu))) (fun h => Nat.not_le_of_lt (k67.ltp b hu) h)
   have hS106 : (un (inBlk (PV p69)) (un (inBlk (PV p56)) (un (inBlk z91) (un (inBlk (PV p14)) (un (inBlk z90) nb))))) = (un (inBlk (PV p14)) (un (inBlk z90) (un (inBlk z91) (un (inBlk (PV p69)) (un (inBlk (PV p56)) nb))))) := funext fun b => propext ⟨fun h => un_el h (fun h => (.inr (.inr (.inr (.inl h))))) (fun h => un_el h (fun h => (.inr (.inr (.inr (.inr (.inl h)))))) (fun h => un_el h (fun h => (.inr (.inr (.inl h)))) (fun h => un_el h (fun h => (.inl h)) (fun h => un_el h (fun h => (.inr (.inl h))) (fun h => False.elim h))))), fun h => un_el h (fun h => (.inr (.inr (.inr (.inl h))))) (fun h => un_el h (fun h => (.inr (.inr (.inr (.inr (.inl h)))))) (fun h => un_el h (fun h => (.inr (.inr (.inl h)))) (fun h => un_el h (fun h => (.inl h)) (fun h => un_el h (fun h => (.inr (.inl h))) (fun h => False.elim h)))))⟩
   rw [← hS106] at h94
   have ha107 : ∀ b, b < w78.heap.size → ¬ (un (inBlk (PV p69)) (un (inBlk (PV p56)) (un (inBlk v26) (un (inBlk (PV p14)) (un (inBlk v24) nb))))) b → ¬ (un (inBlk (PV p14)) (un (inBlk v24) (inBlk v26))) b ∧ ¬ (un (inBlk (PV p69)) (un (inBlk (PV p56)) (un (inBlk z91) (un (inBlk (PV p14)) (un (inBlk z90) nb))))) b := fun b hb hs => ⟨fun h => un_el h (fun h => hs (.inr (.inr (.inr (.inl h))))) (fun h => un_el h (fun h => hs (.inr (.inr (.inr (.inr (.inl h)))))) (fun h => hs (.inr (.inr (.inl h))))), fun h => un_el h (fun h => hs (.inl h)) (fun h => un_el h (fun h => hs (.inr (.inl h))) (fun h => un_el h (fun h => (hf96 b h).elim (fun h => un_el h (fun h => hs (.inr (.inr (.inr (.inl h))))) (fun h => un_el h (fun h => hs (.inr (.inr (.inr (.inr (.inl h)))))) (fun h => hs (.inr (.inr (.inl h)))))) (fun h => Nat.not_le_of_lt hb h)) (fun h => un_el h (fun h => hs (.inr (.inr (.inr (.inl h))))) (fun h => un_el h (fun h => (hf95 b h).elim (fun h => un_el h (fun h => hs (.inr (.inr (.inr (.inl h))))) (fun h => un_el h (fun h => hs (.inr (.inr (.inr (.inr (.inl h)))))) (fun h => hs (.inr (.inr (.inl h)))))) (fun h => Nat.not_le_of_lt hb h)) (fun h => False.elim h)))))⟩
   have ah0_0 := slRep.st k_Addr_pos ah0_0 c87 ha107
   have ah0_1 := slRep.st k_Addr_pos ah0_1 c87 ha107
   have ah0_2 := slRep.st k_Addr_pos ah0_2 c87 ha107
   have ah0_3 := slRep.st k_Cidr_pos ah0_3 c87 ha107
   have ah0_4 := slRep.st k_Port_pos ah0_4 c87 ha107
   have ah1_0 := slRep.st k_Addr_pos ah1_0 c87 ha107
   have gp1n : (G F w.heap.size (un (inBlk (PV p69)) (un (inBlk (PV p56)) (un (inBlk z91) (un (inBlk (PV p14)) (un (inBlk z90) nb)))))) p1 := ⟨gp1.1, (ha107 _ k4.lt gp1.2).2⟩
   have k4 := k4.ch c87 (ha107 _ k4.lt gp1.2).1
   have gp1 := gp1n
   have gp5n : (G F w.heap.size (un (inBlk (PV p69)) (un (inBlk (PV p56)) (un (inBlk z91) (un (inBlk (PV p14)) (un (inBlk z90) nb)))))) p5 := ⟨gp5.1, (ha107 _ k8.lt gp5.2).2⟩
   have k8 := k8.ch c87 (ha107 _ k8.lt gp5.2).1
   have gp5 := gp5n
   have k67 := k67.ch c87 ((fun b hb h => un_el h (fun h => d62 b hb h) (fun h => un_el h (fun h => d63 b hb h) (fun h => d61 b hb h))) _ rfl)
   have k81 := k81.ch c87 ((fun b hb h => un_el h (fun h => d76 b hb h) (fun h => un_el h (fun h => d77 b hb h) (fun h => d75 b hb h))) _ rfl)
   have c45 := c45.then c87 (fun i hi h => un_el h (fun h => absurd (lo18 i h) (Nat.not_le_of_lt hi)) (fun h => un_el h (fun h => absurd (lo29 i h) (Nat.not_le_of_lt hi)) (fun h => absurd ((fun b hb => (h27.lt b hb).1) i h) (Nat.not_le_of_lt hi))))
   refine RL.nil (thn_n (CW.seq ?_))
   refine CW.draw 4 [(none, fun fx O uu wx => uu = (Value.pointer (some ⟨p1, 9, none⟩))), (none, fun fx O uu wx => uu = (Value.bool a0.externalLocal)), (none, fun fx O uu wx => uu = (Value.pointer (some ⟨p69, 20, none⟩))), (some true, fun hv O uu wx => hv = [undef] ∧ uu = undef ∧ O = (inBlk (PV p69)) ∧ Blk wx p69 47 (Face.enc ({ proto := x42.proto, point := ({ addr := Addr.z, port := x42.port } : Point), name := x42.name, how := 1, localF := a0.internalLocal, asked := false } : Face)))] [[], [0], [], [2]] [3, 1] (inBlk (PV p69)) (fun b h => k81.ltp b h) mixed rfl rfl rfl rfl ?_ ?_
   ·
    refine Each.consS (fun fl O wk hE hN hO ck => ?_) ?_
    ·
     refine rl_fieldAddr rfl fa28_8 rfl ?_
     exact RL.nil ⟨_, rfl, Ch.refl, rfl⟩
    refine Each.consS (fun fl O wk hE hN hO ck => ?_) ?_
    ·
     have ha127 : ∀ b, b < w86.heap.size → ¬ (un (inBlk (PV p69)) (un (inBlk (PV p56)) (un (inBlk z91) (un (inBlk (PV p14)) (un (inBlk z90) nb))))) b → ¬ (inBlk (PV p69)) b ∧ ¬ (un O (un (inBlk (PV p56)) (un (inBlk z91) (un (inBlk (PV p14)) (un (inBlk z90) nb))))) b := fun b hb hs => ⟨fun h => hs (.inl h), fun h => un_el h (fun ho => (hO b ho).1.elim (fun h => hs (.inl h)) (fun h => Nat.not_le_of_lt hb h)) (fun h => un_el h (fun h => hs (.inr (.inl h))) (fun h => un_el h (fun h => hs (.inr (.inr (.inl h)))) (fun h => un_el h (fun h => hs (.inr (.inr (.inr (.inl h))))) (fun h => un_el h (fun h => hs (.inr (.inr (.inr (.inr (.inl h)))))) (fun h => False.elim h)))))⟩
     have k4 := k4.ch ck (ha127 _ k4.lt gp1.2).1
     refine Need.o1 rfl rfl rfl (fun _ h => h) ?_
     refine rl_loadS (v := (Value.bool a0.externalLocal)) rfl Tryz.isAgg4 (k4.cell rfl) rfl ?_
     exact RL.nil ⟨_, rfl, Ch.refl, rfl⟩
    refine Each.consS (fun fl O wk hE hN hO ck => ?_) ?_
    ·
     refine rl_fieldAddr rfl fa47_3 rfl ?_
     exact RL.nil ⟨_, rfl, Ch.refl, rfl⟩
    refine Each.consO ⟨fun _ O _ wx wy cc hh => by obtain ⟨eh, e, rfl, ck3_0⟩ := hh; exact ⟨eh, e, rfl, ck3_0.ch0 cc⟩, fun hv Op O wk hO ck hO0 => ?_⟩ ?_
    ·
     obtain ⟨hl, hBg⟩ := hO0 rfl
     obtain rfl := List.eq_nil_of_length_eq_zero hl
     have k81 := k81.ch0 hBg.2.1
     refine Need.o1 rfl rfl rfl (fun _ h => h) ?_
     refine rl_storeS (u := (Value.int .i64 1)) rfl rfl ⟨rfl, rfl⟩ Tryz.sizeOf3 k81 rfl ?_
     intro w135 s137 c136 k138
     have hb140 : ∀ b, (inBlk (PV p69)) b → (O b ∨ wk.heap.size ≤ b) ∧ b < w135.heap.size := fun b h => ⟨.inl ((hBg.1 b).2 (.inl h)), k138.ltp b h⟩
     exact RL.nil ⟨_, (inBlk (PV p69)), rfl, hb140, (c136.mono (fun b _ h => ((hBg.1 b).2 (.inl h)))), ⟨rfl, rfl, rfl, k138⟩⟩
    trivial
   intro hvO143 OpO143 O143 w141 hO144 c142 hN145
   have ol146 : ∀ b, inBlk (PV p56) b → b < w86.heap.size := k67.ltp
   have ol147 : ∀ b, inBlk z91 b → b < w86.heap.size := (fun b hb => (h94.lt b hb).2)
   have ol148 : ∀ b, inBlk (PV p14) b → b < w86.heap.size := h92.ltp
   have ol149 : ∀ b, inBlk z90 b → b < w86.heap.size := h93.ltp
   refine Need.hereN rfl rfl rfl rfl ?_
   rintro ⟨rfl, _, rfl, ck3_0⟩
   have d151 : ∀ b, inBlk (PV p69) b → ¬ inBlk (PV p56) b := fun b h hu => (hO144 b h).1.elim (fun h => d74 b h hu) (fun h => Nat.not_le_of_lt (ol146 b hu) h)
   have d152 : ∀ b, inBlk (PV p69) b → ¬ inBlk z91 b := fun b h hu => (hO144 b h).1.elim (fun h => (disSym d104) b h hu) (fun h => Nat.not_le_of_lt (ol147 b hu) h)
   have d153 : ∀ b, inBlk (PV p69) b → ¬ inBlk (PV p14) b := fun b h hu => (hO144 b h).1.elim (fun h => d76 b h hu) (fun h => Nat.not_le_of_lt (ol148 b hu) h)
   have d154 : ∀ b, inBlk (PV p69) b → ¬ inBlk z90 b := fun b h hu => (hO144 b h).1.elim (fun h => (disSym d101) b h hu) (fun h => Nat.not_le_of_lt (ol149 b hu) h)
   have ha155 : ∀ b, b < w86.heap.size → ¬ (un (inBlk (PV p69)) (un (inBlk (PV p56)) (un (inBlk z91) (un (inBlk (PV p14)) (un (inBlk z90) nb))))) b → ¬ (inBlk (PV p69)) b ∧ ¬ (un (inBlk (PV p69)) (un (inBlk (PV p56)) (un (inBlk z91) (un (inBlk (PV p14)) (un (inBlk z90) nb))))) b := fun b hb hs => ⟨fun h => hs (.inl h), fun h => un_el h (fun h => (hO144 b h).1.elim (fun h => hs (.inl h)) (fun h => Nat.not_le_of_lt hb h)) (fun h => un_el h (fun h => hs (.inr (.inl h))) (fun h => un_el h (fun h => hs (.inr (.inr (.inl h)))) (fun h => un_el h (fun h => hs (.inr (.inr (.inr (.inl h))))) (fun h => un_el h (fun h => hs (.inr (.inr (.inr (.inr (.inl h)))))) (fun h => False.elim h)))))⟩
   have ah0_0 := slRep.st k_Addr_pos ah0_0 c142 ha155
   have ah0_1 := slRep.st k_Addr_pos ah0_1 c142 ha155
   have ah0_2 := slRep.st k_Addr_pos ah0_2 c142 ha155
   have ah0_3 := slRep.st k_Cidr_pos ah0_3 c142 ha155
   have ah0_4 := slRep.st k_Port_pos ah0_4 c142 ha155
   have ah1_0 := slRep.st k_Addr_pos ah1_0 c142 ha155
   have gp1n : (G F w.heap.size (un (inBlk (PV p69)) (un (inBlk (PV p56)) (un (inBlk z91) (un (inBlk (PV p14)) (un (inBlk z90) nb)))))) p1 := ⟨gp1.1, (ha155 _ k4.lt gp1.2).2⟩
   have k4 := k4.ch c142 (ha155 _ k4.lt gp1.2).1
   have gp1 := gp1n
   have gp5n : (G F w.heap.size (un (inBlk (PV p69)) (un (inBlk (PV p56)) (un (inBlk z91) (un (inBlk (PV p14)) (un (inBlk z90) nb)))))) p5 := ⟨gp5.1, (ha155 _ k8.lt gp5.2).2⟩
   have k8 := k8.ch c142 (ha155 _ k8.lt gp5.2).1
   have gp5 := gp5n
   have k67 := k67.ch c142 ((fun b hb h => (disSym d151) b hb h) _ rfl)
   have h92 := h92.ch c142 ((fun b hb h => (disSym d153) b hb h) _ rfl)
   have h93 := h93.ch c142 ((fun b hb h => d101 b hb h))
   have h94 := h94.st c142 (fun b hb h => d104 b hb h) ha155 (fun b h => (.inr (.inr (.inl h))))
   have c45 := c45.then c142 (fun i hi h => absurd (lo73 i h) (Nat.not_le_of_lt hi))
   refine Need.o1 rfl rfl rfl (fun _ h => h) ?_
   refine rl_fieldAddr rfl fa47_4 rfl ?_
   refine rl_storeS (u := (Value.bool a0.externalLocal)) rfl rfl ⟨rfl, rfl⟩ Tryz.sizeOf4 ck3_0 rfl ?_
   intro w157 s159 c158 k160
   have ad161 : ∀ b, b < w141.heap.size → ¬ (un (inBlk (PV p69)) (un (inBlk (PV p56)) (un (inBlk z91) (un (inBlk (PV p14)) (un (inBlk z90) nb))))) b → ¬ (inBlk (PV p69)) b ∧ ¬ (un (inBlk (PV p69)) (un (inBlk (PV p56)) (un (inBlk z91) (un (inBlk (PV p14)) (un (inBlk z90) nb))))) b := fun b _ hs => ⟨fun h => hs (.inl h), hs⟩
   have ah0_0 := slRep.st k_Addr_pos ah0_0 c158 ad161
   have ah0_1 := slRep.st k_Addr_pos ah0_1 c158 ad161
   have ah0_2 := slRep.st k_Addr_pos ah0_2 c158 ad161
   have ah0_3 := slRep.st k_Cidr_pos ah0_3 c158 ad161
   have ah0_4 := slRep.st k_Port_pos ah0_4 c158 ad161
   have ah1_0 := slRep.st k_Addr_pos ah1_0 c158 ad161
   have k4 := k4.ch c158 (ad161 _ k4.lt gp1.2).1
   have k8 := k8.ch c158 (ad161 _ k8.lt gp5.2).1
   have k67 := k67.ch c158 ((fun b hb h => (disSym d151) b hb h) _ rfl)
   have h92 := h92.ch c158 ((fun b hb h => (disSym d153) b hb h) _ rfl)
   have h93 := h93.ch c158 ((fun b hb h => d101 b hb h))
   have h94 := h94.st c158 (fun b hb h => d104 b hb h) ad161 (fun b h => (.inr (.inr (.inl h))))
   have c45 := c45.then c158 (fun i hi h => absurd (lo73 i h) (Nat.not_le_of_lt hi))
   refine RL.nil (thn_n (CW.seq (CW.region ?_)))
   refine rl_move rfl rfl ?_
   refine rl_fieldAddr rfl fa28_3 rfl ?_
   refine rl_loadS (v := az0_1) rfl Tryz.isAgg24 (k4.cell rfl) rfl ?_
   refine rl_loadA (cs := (Face.enc ({ proto := x42.proto, point := ({ addr := Addr.z, port := x42.port } : Point), name := x42.name, how := 1, localF := a0.externalLocal, asked := false } : Face))) rfl Tryz.isAgg47 Tryz.sizeOf47 (k160.segAt 0 23) rfl rfl ?_
   have hd162 : ∀ b, (un (inBlk (PV p14)) (un (inBlk z90) (inBlk z91))) b → ¬ (un (inBlk (PV p69)) (un (inBlk (PV p56)) nb)) b := fun b h => un_el h (fun h => (fun b hb => fun h => un_el h (fun h => (disSym d153) b hb h) (fun h => un_el h (fun h => (disSym d62) b hb h) (fun h => h))) b h) (fun h => un_el h (fun h => (fun b hb => fun h => un_el h (fun h => d101 b hb h) (fun h => un_el h (fun h => d102 b hb h) (fun h => h))) b h) (fun h => (fun b hb => fun h => un_el h (fun h => d104 b hb h) (fun h => un_el h (fun h => d105 b hb h) (fun h => h))) b h))
   have hS163 : (un (inBlk (PV p69)) (un (inBlk (PV p56)) (un (inBlk z91) (un (inBlk (PV p14)) (un (inBlk z90) nb))))) = (un (inBlk (PV p14)) (un (inBlk z90) (un (inBlk z91) (un (inBlk (PV p69)) (un (inBlk (PV p56)) nb))))) := funext fun b => propext ⟨fun h => un_el h (fun h => (.inr (.inr (.inr (.inl h))))) (fun h => un_el h (fun h => (.inr (.inr (.inr (.inr (.inl h)))))) (fun h => un_el h (fun h => (.inr (.inr (.inl h)))) (fun h => un_el h (fun h => (.inl h)) (fun h => un_el h (fun h => (.inr (.inl h))) (fun h => False.elim h))))), fun h => un_el h (fun h => (.inr (.inr (.inr (.inl h))))) (fun h => un_el h (fun h => (.inr (.inr (.inr (.inr (.inl h)))))) (fun h => un_el h (fun h => (.inr (.inr (.inl h)))) (fun h => un_el h (fun h => (.inl h)) (fun h => un_el h (fun h => (.inr (.inl h))) (fun h => False.elim h)))))⟩
   have ha164 := ah0_1
   rw [hS163] at ha164
   obtain ⟨y167, hy168, hb39⟩ := bindS hb39
   refine rl_callF rfl en45 rfl (ctr45 F w157 w.heap.size (un (inBlk (PV p69)) (un (inBlk (PV p56)) nb)) c45.size (un_lt k160.ltp (un_lt k67.ltp nbS)) p14 z90 z91 hd162 d97 d98 d99 y88 h92 h93 (hS163 ▸ h94) a0.external az0_1 ha164 ({ proto := x42.proto, point := ({ addr := Addr.z, port := x42.port } : Point), name := x42.name, how := 1, localF := a0.externalLocal, asked := false } : Face) y167 hy168) ?_
   rintro _ w165 ⟨z169, z170, rfl, h171, h172, h173, hf174, hf175, d176, d177, d178, c166⟩
   have lo179 : ∀ b, inBlk z169 b → w.heap.size ≤ b := fun b h => (hf174 b h).elim (fun h => un_el h (fun h => lo18 b h) (fun h => un_el h (fun h => lo100 b h) (fun h => lo103 b h))) (Nat.le_trans c45.size)
   have d180 : ∀ b, inBlk z169 b → ¬ inBlk (PV p69) b := fun b h hu => (hf174 b h).elim (fun h => un_el h (fun h => (disSym d153) b h hu) (fun h => un_el h (fun h => d101 b h hu) (fun h => d104 b h hu))) (fun h => Nat.not_le_of_lt (k160.ltp b hu) h)
   have d181 : ∀ b, inBlk z169 b → ¬ inBlk (PV p56) b := fun b h hu => (hf174 b h).elim (fun h => un_el h (fun h => (disSym d62) b h hu) (fun h => un_el h (fun h => d102 b h hu) (fun h => d105 b h hu))) (fun h => Nat.not_le_of_lt (k67.ltp b hu) h)
   have lo182 : ∀ b, inBlk z170 b → w.heap.size ≤ b := fun b h => (hf175 b h).elim (fun h => un_el h (fun h => lo18 b h) (fun h => un_el h (fun h => lo100 b h) (fun h => lo103 b h))) (Nat.le_trans c45.size)
   have d183 : ∀ b, inBlk z170 b → ¬ inBlk (PV p69) b := fun b h hu => (hf175 b h).elim (fun h => un_el h (fun h => (disSym d153) b h hu) (fun h => un_el h (fun h => d101 b h hu) (fun h => d104 b h hu))) (fun h => Nat.not_le_of_lt (k160.ltp b hu) h)
   have d184 : ∀ b, inBlk z170 b → ¬ inBlk (PV p56) b := fun b h hu => (hf175 b h).elim (fun h => un_el h (fun h => (disSym d62) b h hu) (fun h => un_el h (fun h => d102 b h hu) (fun h => d105 b h hu))) (fun h => Nat.not_le_of_lt (k67.ltp b hu) h)
   have hS185 : (un (inBlk (PV p69)) (un (inBlk (PV p56)) (un (inBlk z170) (un (inBlk (PV p14)) (un (inBlk z169) nb))))) = (un (inBlk (PV p14)) (un (inBlk z169) (un (inBlk z170) (un (inBlk (PV p69)) (un (inBlk (PV p56)) nb))))) := funext fun b => propext ⟨fun h => un_el h (fun h => (.inr (.inr (.inr (.inl h))))) (fun h => un_el h (fun h => (.inr (.inr (.inr (.inr (.inl h)))))) (fun h => un_el h (fun h => (.inr (.inr (.inl h)))) (fun h => un_el h (fun h => (.inl h)) (fun h => un_el h (fun h => (.inr (.inl h))) (fun h => False.elim h))))), fun h => un_el h (fun h => (.inr (.inr (.inr (.inl h))))) (fun h => un_el h (fun h => (.inr (.inr (.inr (.inr (.inl h)))))) (fun h => un_el h (fun h => (.inr (.inr (.inl h)))) (fun h => un_el h (fun h => (.inl h)) (fun h => un_el h (fun h => (.inr (.inl h))) (fun h => False.elim h)))))⟩
   rw [← hS185] at h173
   have ha186 : ∀ b, b < w157.heap.size → ¬ (un (inBlk (PV p69)) (un (inBlk (PV p56)) (un (inBlk z91) (un (inBlk (PV p14)) (un (inBlk z90) nb))))) b → ¬ (un (inBlk (PV p14)) (un (inBlk z90) (inBlk z91))) b ∧ ¬ (un (inBlk (PV p69)) (un (inBlk (PV p56)) (un (inBlk z170) (un (inBlk (PV p14)) (un (inBlk z169) nb))))) b := fun b hb hs => ⟨fun h => un_el h (fun h => hs (.inr (.inr (.inr (.inl h))))) (fun h => un_el h (fun h => hs (.inr (.inr (.inr (.inr (.inl h)))))) (fun h => hs (.inr (.inr (.inl h))))), fun h => un_el h (fun h => hs (.inl h)) (fun h => un_el h (fun h => hs (.inr (.inl h))) (fun h => un_el h (fun h => (hf175 b h).elim (fun h => un_el h (fun h => hs (.inr (.inr (.inr (.inl h))))) (fun h => un_el h (fun h => hs (.inr (.inr (.inr (.inr (.inl h)))))) (fun h => hs (.inr (.inr (.inl h)))))) (fun h => Nat.not_le_of_lt hb h)) (fun h => un_el h (fun h => hs (.inr (.inr (.inr (.inl h))))) (fun h => un_el h (fun h => (hf174 b h).elim (fun h => un_el h (fun h => hs (.inr (.inr (.inr (.inl h))))) (fun h => un_el h (fun h => hs (.inr (.inr (.inr (.inr (.inl h)))))) (fun h => hs (.inr (.inr (.inl h)))))) (fun h => Nat.not_le_of_lt hb h)) (fun h => False.elim h)))))⟩
   have ah0_0 := slRep.st k_Addr_pos ah0_0 c166 ha186
   have ah0_1 := slRep.st k_Addr_pos ah0_1 c166 ha186
   have ah0_2 := slRep.st k_Addr_pos ah0_2 c166 ha186
   have ah0_3 := slRep.st k_Cidr_pos ah0_3 c166 ha186
   have ah0_4 := slRep.st k_Port_pos ah0_4 c166 ha186
   have ah1_0 := slRep.st k_Addr_pos ah1_0 c166 ha186
   have gp1n : (G F w.heap.size (un (inBlk (PV p69)) (un (inBlk (PV p56)) (un (inBlk z170) (un (inBlk (PV p14)) (un (inBlk z169) nb)))))) p1 := ⟨gp1.1, (ha186 _ k4.lt gp1.2).2⟩
   have k4 := k4.ch c166 (ha186 _ k4.lt gp1.2).1
   have gp1 := gp1n
   have gp5n : (G F w.heap.size (un (inBlk (PV p69)) (un (inBlk (PV p56)) (un (inBlk z170) (un (inBlk (PV p14)) (un (inBlk z169) nb)))))) p5 := ⟨gp5.1, (ha186 _ k8.lt gp5.2).2⟩
   have k8 := k8.ch c166 (ha186 _ k8.lt gp5.2).1
   have gp5 := gp5n
   have k67 := k67.ch c166 ((fun b hb h => un_el h (fun h => d62 b hb h) (fun h => un_el h (fun h => (disSym d102) b hb h) (fun h => (disSym d105) b hb h))) _ rfl)
   have k160 := k160.ch c166 ((fun b hb h => un_el h (fun h => d153 b hb h) (fun h => un_el h (fun h => d154 b hb h) (fun h => d152 b hb h))) _ rfl)
   have c45 := c45.then c166 (fun i hi h => un_el h (fun h => absurd (lo18 i h) (Nat.not_le_of_lt hi)) (fun h => un_el h (fun h => absurd (lo100 i h) (Nat.not_le_of_lt hi)) (fun h => absurd (lo103 i h) (Nat.not_le_of_lt hi))))
   refine RL.nil (thn_n (CW.seq ?_))
   refine CW.draw 6 [(none, fun fx O uu wx => uu = (Value.pointer (some ⟨p1, 6, none⟩))), (none, fun fx O uu wx => uu = az0_3), (none, fun fx O uu wx => uu = (Value.int .i64 ((a0.ranges.length : Nat) : Int))), (none, fun fx O uu wx => uu = (Value.bool (decide (((a0.ranges.length : Nat) : Int) > 0)))), (none, fun fx O uu wx => uu = (Value.pointer (some ⟨p69, 20, none⟩))), (some true, fun hv O uu wx => hv = [undef] ∧ uu = undef ∧ O = (inBlk (PV p69)) ∧ Blk wx p69 47 (Face.enc ({ proto := x42.proto, point := ({ addr := Addr.z, port := x42.port } : Point), name := x42.name, how := 2, localF := a0.externalLocal, asked := false } : Face)))] [[], [0], [1], [2], [], [4]] [5, 3] (inBlk (PV p69)) (fun b h => k160.ltp b h) mixed rfl rfl rfl rfl ?_ ?_
   ·
    refine Each.consS (fun fl O wk hE hN hO ck => ?_) ?_
    ·
     refine rl_fieldAddr rfl fa28_5 rfl ?_
     exact RL.nil ⟨_, rfl, Ch.refl, rfl⟩
    refine Each.consS (fun fl O wk hE hN hO ck => ?_) ?_
    ·
     have ha206 : ∀ b, b < w165.heap.size → ¬ (un (inBlk (PV p69)) (un (inBlk (PV p56)) (un (inBlk z170) (un (inBlk (PV p14)) (un (inBlk z169) nb))))) b → ¬ (inBlk (PV p69)) b ∧ ¬ (un O (un (inBlk (PV p56)) (un (inBlk z170) (un (inBlk (PV p14)) (un (inBlk z169) nb))))) b := fun b hb hs => ⟨fun h => hs (.inl h), fun h => un_el h (fun ho => (hO b ho).1.elim (fun h => hs (.inl h)) (fun h => Nat.not_le_of_lt hb h)) (fun h => un_el h (fun h => hs (.inr (.inl h))) (fun h => un_el h (fun h => hs (.inr (.inr (.inl h)))) (fun h => un_el h (fun h => hs (.inr (.inr (.inr (.inl h))))) (fun h => un_el h (fun h => hs (.inr (.inr (.inr (.inr (.inl h)))))) (fun h => False.elim h)))))⟩
     have k4 := k4.ch ck (ha206 _ k4.lt gp1.2).1
     refine Need.o1 rfl rfl rfl (fun _ h => h) ?_
     refine rl_loadS (v := az0_3) rfl Tryz.isAgg25 (k4.cell rfl) rfl ?_
     exact RL.nil ⟨_, rfl, Ch.refl, rfl⟩
    refine Each.consS (fun fl O wk hE hN hO ck => ?_) ?_
    ·
     have ha212 : ∀ b, b < w165.heap.size → ¬ (un (inBlk (PV p69)) (un (inBlk (PV p56)) (un (inBlk z170) (un (inBlk (PV p14)) (un (inBlk z169) nb))))) b → ¬ (inBlk (PV p69)) b ∧ ¬ (un O (un (inBlk (PV p56)) (un (inBlk z170) (un (inBlk (PV p14)) (un (inBlk z169) nb))))) b := fun b hb hs => ⟨fun h => hs (.inl h), fun h => un_el h (fun ho => (hO b ho).1.elim (fun h => hs (.inl h)) (fun h => Nat.not_le_of_lt hb h)) (fun h => un_el h (fun h => hs (.inr (.inl h))) (fun h => un_el h (fun h => hs (.inr (.inr (.inl h)))) (fun h => un_el h (fun h => hs (.inr (.inr (.inr (.inl h))))) (fun h => un_el h (fun h => hs (.inr (.inr (.inr (.inr (.inl h)))))) (fun h => False.elim h)))))⟩
     have ah0_3 := slRep.st k_Cidr_pos ah0_3 ck ha212
     refine Need.o1 rfl rfl rfl (fun _ h => h) ?_
     refine rl_lenR rfl ah0_3 Tryz.underlying25 rfl ?_
     exact RL.nil ⟨_, rfl, Ch.refl, rfl⟩
    refine Each.consS (fun fl O wk hE hN hO ck => ?_) ?_
    ·
     refine Need.o1 rfl rfl rfl (fun _ h => h) ?_
     refine rl_bin rfl rfl B.gtr rfl ?_
     exact RL.nil ⟨_, rfl, Ch.refl, rfl⟩
    refine Each.consS (fun fl O wk hE hN hO ck => ?_) ?_
    ·
     refine rl_fieldAddr rfl fa47_3 rfl ?_
     exact RL.nil ⟨_, rfl, Ch.refl, rfl⟩
    refine Each.consO ⟨fun _ O _ wx wy cc hh => by obtain ⟨eh, e, rfl, ck5_0⟩ := hh; exact ⟨eh, e, rfl, ck5_0.ch0 cc⟩, fun hv Op O wk hO ck hO0 => ?_⟩ ?_
    ·
     obtain ⟨hl, hBg⟩ := hO0 rfl
     obtain rfl := List.eq_nil_of_length_eq_zero hl
     have k160 := k160.ch0 hBg.2.1
     refine Need.o1 rfl rfl rfl (fun _ h => h) ?_
     refine rl_storeS (u := (Value.int .i64 2)) rfl rfl ⟨rfl, rfl⟩ Tryz.sizeOf3 k160 rfl ?_
     intro w226 s228 c227 k229
     have hb231 : ∀ b, (inBlk (PV p69)) b → (O b ∨ wk.heap.size ≤ b) ∧ b < w226.heap.size := fun b h => ⟨.inl ((hBg.1 b).2 (.inl h)), k229.ltp b h⟩
     exact RL.nil ⟨_, (inBlk (PV p69)), rfl, hb231, (c227.mono (fun b _ h => ((hBg.1 b).2 (.inl h)))), ⟨rfl, rfl, rfl, k229⟩⟩
    trivial
   intro hvO234 OpO234 O234 w232 hO235 c233 hN236
   have ol237 : ∀ b, inBlk (PV p56) b → b < w165.heap.size := k67.ltp
   have ol238 : ∀ b, inBlk z170 b → b < w165.heap.size := (fun b hb => (h173.lt b hb).2)
   have ol239 : ∀ b, inBlk (PV p14) b → b < w165.heap.size := h171.ltp
   have ol240 : ∀ b, inBlk z169 b → b < w165.heap.size := h172.ltp
   refine Need.hereN rfl rfl rfl rfl ?_
   rintro ⟨rfl, _, rfl, ck5_0⟩
   have d242 : ∀ b, inBlk (PV p69) b → ¬ inBlk (PV p56) b := fun b h hu => (hO235 b h).1.elim (fun h => d151 b h hu) (fun h => Nat.not_le_of_lt (ol237 b hu) h)
   have d243 : ∀ b, inBlk (PV p69) b → ¬ inBlk z170 b := fun b h hu => (hO235 b h).1.elim (fun h => (disSym d183) b h hu) (fun h => Nat.not_le_of_lt (ol238 b hu) h)
   have d244 : ∀ b, inBlk (PV p69) b → ¬ inBlk (PV p14) b := fun b h hu => (hO235 b h).1.elim (fun h => d153 b h hu) (fun h => Nat.not_le_of_lt (ol239 b hu) h)
   have d245 : ∀ b, inBlk (PV p69) b → ¬ inBlk z169 b := fun b h hu => (hO235 b h).1.elim (fun h => (disSym d180) b h hu) (fun h => Nat.not_le_of_lt (ol240 b hu) h)
   have ha246 : ∀ b, b < w165.heap.size → ¬ (un (inBlk (PV p69)) (un (inBlk (PV p56)) (un (inBlk z170) (un (inBlk (PV p14)) (un (inBlk z169) nb))))) b → ¬ (inBlk (PV p69)) b ∧ ¬ (un (inBlk (PV p69)) (un (inBlk (PV p56)) (un (inBlk z170) (un (inBlk (PV p14)) (un (inBlk z169) nb))))) b := fun b hb hs => ⟨fun h => hs (.inl h), fun h => un_el h (fun h => (hO235 b h).1.elim (fun h => hs (.inl h)) (fun h => Nat.not_le_of_lt hb h)) (fun h => un_el h (fun h => hs (.inr (.inl h))) (fun h => un_el h (fun h => hs (.inr (.inr (.inl h)))) (fun h => un_el h (fun h => hs (.inr (.inr (.inr (.inl h))))) (fun h => un_el h (fun h => hs (.inr (.inr (.inr (.inr (.inl h)))))) (fun h => False.elim h)))))⟩
   have ah0_0 := slRep.st k_Addr_pos ah0_0 c233 ha246
   have ah0_1 := slRep.st k_Addr_pos ah0_1 c233 ha246
   have ah0_2 := slRep.st k_Addr_pos ah0_2 c233 ha246
   have ah0_3 := slRep.st k_Cidr_pos ah0_3 c233 ha246
   have ah0_4 := slRep.st k_Port_pos ah0_4 c233 ha246
   have ah1_0 := slRep.st k_Addr_pos ah1_0 c233 ha246
   have gp1n : (G F w.heap.size (un (inBlk (PV p69)) (un (inBlk (PV p56)) (un (inBlk z170) (un (inBlk (PV p14)) (un (inBlk z169) nb)))))) p1 := ⟨gp1.1, (ha246 _ k4.lt gp1.2).2⟩
   have k4 := k4.ch c233 (ha246 _ k4.lt gp1.2).1
   have gp1 := gp1n
   have gp5n : (G F w.heap.size (un (inBlk (PV p69)) (un (inBlk (PV p56)) (un (inBlk z170) (un (inBlk (PV p14)) (un (inBlk z169) nb)))))) p5 := ⟨gp5.1, (ha246 _ k8.lt gp5.2).2⟩
   have k8 := k8.ch c233 (ha246 _ k8.lt gp5.2).1
   have gp5 := gp5n
   have k67 := k67.ch c233 ((fun b hb h => (disSym d242) b hb h) _ rfl)
   have h171 := h171.ch c233 ((fun b hb h => (disSym d244) b hb h) _ rfl)
   have h172 := h172.ch c233 ((fun b hb h => d180 b hb h))
   have h173 := h173.st c233 (fun b hb h => d183 b hb h) ha246 (fun b h => (.inr (.inr (.inl h))))
   have c45 := c45.then c233 (fun i hi h => absurd (lo73 i h) (Nat.not_le_of_lt hi))
   refine Need.o1 rfl rfl rfl (fun _ h => h) ?_
   refine rl_fieldAddr rfl fa47_5 rfl ?_
   refine rl_storeS (u := (Value.bool (decide (((a0.ranges.length : Nat) : Int) > 0)))) rfl rfl ⟨rfl, rfl⟩ Tryz.sizeOf4 ck5_0 rfl ?_
   intro w248 s250 c249 k251
   have ad252 : ∀ b, b < w232.heap.size → ¬ (un (inBlk (PV p69)) (un (inBlk (PV p56)) (un (inBlk z170) (un (inBlk (PV p14)) (un (inBlk z169) nb))))) b → ¬ (inBlk (PV p69)) b ∧ ¬ (un (inBlk (PV p69)) (un (inBlk (PV p56)) (un (inBlk z170) (un (inBlk (PV p14)) (un (inBlk z169) nb))))) b := fun b _ hs => ⟨fun h => hs (.inl h), hs⟩
   have ah0_0 := slRep.st k_Addr_pos ah0_0 c249 ad252
   have ah0_1 := slRep.st k_Addr_pos ah0_1 c249 ad252
   have ah0_2 := slRep.st k_Addr_pos ah0_2 c249 ad252
   have ah0_3 := slRep.st k_Cidr_pos ah0_3 c249 ad252
   have ah0_4 := slRep.st k_Port_pos ah0_4 c249 ad252
   have ah1_0 := slRep.st k_Addr_pos ah1_0 c249 ad252
   have k4 := k4.ch c249 (ad252 _ k4.lt gp1.2).1
   have k8 := k8.ch c249 (ad252 _ k8.lt gp5.2).1
   have k67 := k67.ch c249 ((fun b hb h => (disSym d242) b hb h) _ rfl)
   have h171 := h171.ch c249 ((fun b hb h => (disSym d244) b hb h) _ rfl)
   have h172 := h172.ch c249 ((fun b hb h => d180 b hb h))
   have h173 := h173.st c249 (fun b hb h => d183 b hb h) ad252 (fun b h => (.inr (.inr (.inl h))))
   have c45 := c45.then c249 (fun i hi h => absurd (lo73 i h) (Nat.not_le_of_lt hi))
   refine RL.nil (thn_n (CW.seq (CW.region ?_)))
   refine rl_move rfl rfl ?_
   refine rl_fieldAddr rfl fa28_4 rfl ?_
   refine rl_loadS (v := az0_2) rfl Tryz.isAgg24 (k4.cell rfl) rfl ?_
   refine rl_loadA (cs := (Face.enc ({ proto := x42.proto, point := ({ addr := Addr.z, port := x42.port } : Point), name := x42.name, how := 2, localF := a0.externalLocal, asked := decide (((a0.ranges.length : Nat) : Int) > 0) } : Face))) rfl Tryz.isAgg47 Tryz.sizeOf47 (k251.segAt 0 23) rfl rfl ?_
   have hd253 : ∀ b, (un (inBlk (PV p14)) (un (inBlk z169) (inBlk z170))) b → ¬ (un (inBlk (PV p69)) (un (inBlk (PV p56)) nb)) b := fun b h => un_el h (fun h => (fun b hb => fun h => un_el h (fun h => (disSym d244) b hb h) (fun h => un_el h (fun h => (disSym d62) b hb h) (fun h => h))) b h) (fun h => un_el h (fun h => (fun b hb => fun h => un_el h (fun h => d180 b hb h) (fun h => un_el h (fun h => d181 b hb h) (fun h => h))) b h) (fun h => (fun b hb => fun h => un_el h (fun h => d183 b hb h) (fun h => un_el h (fun h => d184 b hb h) (fun h => h))) b h))
   have hS254 : (un (inBlk (PV p69)) (un (inBlk (PV p56)) (un (inBlk z170) (un (inBlk (PV p14)) (un (inBlk z169) nb))))) = (un (inBlk (PV p14)) (un (inBlk z169) (un (inBlk z170) (un (inBlk (PV p69)) (un (inBlk (PV p56)) nb))))) := funext fun b => propext ⟨fun h => un_el h (fun h => (.inr (.inr (.inr (.inl h))))) (fun h => un_el h (fun h => (.inr (.inr (.inr (.inr (.inl h)))))) (fun h => un_el h (fun h => (.inr (.inr (.inl h)))) (fun h => un_el h (fun h => (.inl h)) (fun h => un_el h (fun h => (.inr (.inl h))) (fun h => False.elim h))))), fun h => un_el h (fun h => (.inr (.inr (.inr (.inl h))))) (fun h => un_el h (fun h => (.inr (.inr (.inr (.inr (.inl h)))))) (fun h => un_el h (fun h => (.inr (.inr (.inl h)))) (fun h => un_el h (fun h => (.inl h)) (fun h => un_el h (fun h => (.inr (.inl h))) (fun h => False.elim h)))))⟩
   have ha255 := ah0_2
   rw [hS254] at ha255
   obtain ⟨y258, hy259, hb39⟩ := bindS hb39
   refine rl_callF rfl en45 rfl (ctr45 F w248 w.heap.size (un (inBlk (PV p69)) (un (inBlk (PV p56)) nb)) c45.size (un_lt k251.ltp (un_lt k67.ltp nbS)) p14 z169 z170 hd253 d176 d177 d178 y167 h171 h172 (hS254 ▸ h173) a0.balancers az0_2 ha255 ({ proto := x42.proto, point := ({ addr := Addr.z, port := x42.port } : Point), name := x42.name, how := 2, localF := a0.externalLocal, asked := decide (((a0.ranges.length : Nat) : Int) > 0) } : Face) y258 hy259) ?_
   rintro _ w256 ⟨z260, z261, rfl, h262, h263, h264, hf265, hf266, d267, d268, d269, c257⟩
   have lo270 : ∀ b, inBlk z260 b → w.heap.size ≤ b := fun b h => (hf265 b h).elim (fun h => un_el h (fun h => lo18 b h) (fun h => un_el h (fun h => lo179 b h) (fun h => lo182 b h))) (Nat.le_trans c45.size)
   have d271 : ∀ b, inBlk z260 b → ¬ inBlk (PV p69) b := fun b h hu => (hf265 b h).elim (fun h => un_el h (fun h => (disSym d244) b h hu) (fun h => un_el h (fun h => d180 b h hu) (fun h => d183 b h hu))) (fun h => Nat.not_le_of_lt (k251.ltp b hu) h)
   have d272 : ∀ b, inBlk z260 b → ¬ inBlk (PV p56) b := fun b h hu => (hf265 b h).elim (fun h => un_el h (fun h => (disSym d62) b h hu) (fun h => un_el h (fun h => d181 b h hu) (fun h => d184 b h hu))) (fun h => Nat.not_le_of_lt (k67.ltp b hu) h)
   have lo273 : ∀ b, inBlk z261 b → w.heap.size ≤ b := fun b h => (hf266 b h).elim (fun h => un_el h (fun h => lo18 b h) (fun h => un_el h (fun h => lo179 b h) (fun h => lo182 b h))) (Nat.le_trans c45.size)
   have d274 : ∀ b, inBlk z261 b → ¬ inBlk (PV p69) b := fun b h hu => (hf266 b h).elim (fun h => un_el h (fun h => (disSym d244) b h hu) (fun h => un_el h (fun h => d180 b h hu) (fun h => d183 b h hu))) (fun h => Nat.not_le_of_lt (k251.ltp b hu) h)
   have d275 : ∀ b, inBlk z261 b → ¬ inBlk (PV p56) b := fun b h hu => (hf266 b h).elim (fun h => un_el h (fun h => (disSym d62) b h hu) (fun h => un_el h (fun h => d181 b h hu) (fun h => d184 b h hu))) (fun h => Nat.not_le_of_lt (k67.ltp b hu) h)
   have hS276 : (un (inBlk (PV p69)) (un (inBlk (PV p56)) (un (inBlk z261) (un (inBlk (PV p14)) (un (inBlk z260) nb))))) = (un (inBlk (PV p14)) (un (inBlk z260) (un (inBlk z261) (un (inBlk (PV p69)) (un (inBlk (PV p56)) nb))))) := funext fun b => propext ⟨fun h => un_el h (fun h => (.inr (.inr (.inr (.inl h))))) (fun h => un_el h (fun h => (.inr (.inr (.inr (.inr (.inl h)))))) (fun h => un_el h (fun h => (.inr (.inr (.inl h)))) (fun h => un_el h (fun h => (.inl h)) (fun h => un_el h (fun h => (.inr (.inl h))) (fun h => False.elim h))))), fun h => un_el h (fun h => (.inr (.inr (.inr (.inl h))))) (fun h => un_el h (fun h => (.inr (.inr (.inr (.inr (.inl h)))))) (fun h => un_el h (fun h => (.inr (.inr (.inl h)))) (fun h => un_el h (fun h => (.inl h)) (fun h => un_el h (fun h => (.inr (.inl h))) (fun h => False.elim h)))))⟩
   rw [← hS276] at h264
   have ha277 : ∀ b, b < w248.heap.size → ¬ (un (inBlk (PV p69)) (un (inBlk (PV p56)) (un (inBlk z170) (un (inBlk (PV p14)) (un (inBlk z169) nb))))) b → ¬ (un (inBlk (PV p14)) (un (inBlk z169) (inBlk z170))) b ∧ ¬ (un (inBlk (PV p69)) (un (inBlk (PV p56)) (un (inBlk z261) (un (inBlk (PV p14)) (un (inBlk z260) nb))))) b := fun b hb hs => ⟨fun h => un_el h (fun h => hs (.inr (.inr (.inr (.inl h))))) (fun h => un_el h (fun h => hs (.inr (.inr (.inr (.inr (.inl h)))))) (fun h => hs (.inr (.inr (.inl h))))), fun h => un_el h (fun h => hs (.inl h)) (fun h => un_el h (fun h => hs (.inr (.inl h))) (fun h => un_el h (fun h => (hf266 b h).elim (fun h => un_el h (fun h => hs (.inr (.inr (.inr (.inl h))))) (fun h => un_el h (fun h => hs (.inr (.inr (.inr (.inr (.inl h)))))) (fun h => hs (.inr (.inr (.inl h)))))) (fun h => Nat.not_le_of_lt hb h)) (fun h => un_el h (fun h => hs (.inr (.inr (.inr (.inl h))))) (fun h => un_el h (fun h => (hf265 b h).elim (fun h => un_el h (fun h => hs (.inr (.inr (.inr (.inl h))))) (fun h => un_el h (fun h => hs (.inr (.inr (.inr (.inr (.inl h)))))) (fun h => hs (.inr (.inr (.inl h)))))) (fun h => Nat.not_le_of_lt hb h)) (fun h => False.elim h)))))⟩
   have ah0_0 := slRep.st k_Addr_pos ah0_0 c257 ha277
   have ah0_1 := slRep.st k_Addr_pos ah0_1 c257 ha277
   have ah0_2 := slRep.st k_Addr_pos ah0_2 c257 ha277
   have ah0_3 := slRep.st k_Cidr_pos ah0_3 c257 ha277
   have ah0_4 := slRep.st k_Port_pos ah0_4 c257 ha277
   have ah1_0 := slRep.st k_Addr_pos ah1_0 c257 ha277
   have gp1n : (G F w.heap.size (un (inBlk (PV p69)) (un (inBlk (PV p56)) (un (inBlk z261) (un (inBlk (PV p14)) (un (inBlk z260) nb)))))) p1 := ⟨gp1.1, (ha277 _ k4.lt gp1.2).2⟩
   have k4 := k4.ch c257 (ha277 _ k4.lt gp1.2).1
   have gp1 := gp1n
   have gp5n : (G F w.heap.size (un (inBlk (PV p69)) (un (inBlk (PV p56)) (un (inBlk z261) (un (inBlk (PV p14)) (un (inBlk z260) nb)))))) p5 := ⟨gp5.1, (ha277 _ k8.lt gp5.2).2⟩
   have k8 := k8.ch c257 (ha277 _ k8.lt gp5.2).1
   have gp5 := gp5n
   have k67 := k67.ch c257 ((fun b hb h => un_el h (fun h => d62 b hb h) (fun h => un_el h (fun h => (disSym d181) b hb h) (fun h => (disSym d184) b hb h))) _ rfl)
   have k251 := k251.ch c257 ((fun b hb h => un_el h (fun h => d244 b hb h) (fun h => un_el h (fun h => d245 b hb h) (fun h => d243 b hb h))) _ rfl)
   have c45 := c45.then c257 (fun i hi h => un_el h (fun h => absurd (lo18 i h) (Nat.not_le_of_lt hi)) (fun h => un_el h (fun h => absurd (lo179 i h) (Nat.not_le_of_lt hi)) (fun h => absurd (lo182 i h) (Nat.not_le_of_lt hi))))
   refine RL.nil (thn_n (CW.seq ?_))
   refine CW.draw 6 [(none, fun fx O uu wx => uu = (Value.pointer (some ⟨p56, 3, none⟩))), (none, fun fx O uu wx => uu = (Value.int .i64 x42.outer)), (none, fun fx O uu wx => uu = (Value.pointer (some ⟨p69, 20, none⟩))), (some true, fun hv O uu wx => hv = [undef] ∧ uu = undef ∧ O = (inBlk (PV p69)) ∧ Blk wx p69 47 (Face.enc ({ proto := x42.proto, point := ({ addr := Addr.z, port := x42.port } : Point), name := x42.name, how := 3, localF := a0.externalLocal, asked := decide (((a0.ranges.length : Nat) : Int) > 0) } : Face))), (none, fun fx O uu wx => uu = (Value.pointer (some ⟨p69, 22, none⟩))), (some true, fun hv O uu wx => hv = [undef, undef] ∧ uu = undef ∧ O = (inBlk (PV p69)) ∧ Blk wx p69 47 (Face.enc ({ proto := x42.proto, point := ({ addr := Addr.z, port := x42.port } : Point), name := x42.name, how := 3, localF := a0.externalLocal, asked := false } : Face)))] [[], [0], [], [2], [], [3, 4]] [5, 1] (inBlk (PV p69)) (fun b h => k251.ltp b h) mixed rfl rfl rfl rfl ?_ ?_
   ·
    refine Each.consS (fun fl O wk hE hN hO ck => ?_) ?_
    ·
     refine rl_fieldAddr rfl fa78_3 rfl ?_
     exact RL.nil ⟨_, rfl, Ch.refl, rfl⟩
    refine Each.consS (fun fl O wk hE hN hO ck => ?_) ?_
    ·
     have k67 := k67.ch ck ((fun b hb h => (disSym d242) b hb h) _ rfl)
     refine Need.o1 rfl rfl rfl (fun _ h => h) ?_
     refine rl_loadS (v := (Value.int .i64 x42.outer)) rfl Tryz.isAgg3 (k67.cell rfl) rfl ?_
     exact RL.nil ⟨_, rfl, Ch.refl, rfl⟩
    refine Each.consS (fun fl O wk hE hN hO ck => ?_) ?_
    ·
     refine rl_fieldAddr rfl fa47_3 rfl ?_
     exact RL.nil ⟨_, rfl, Ch.refl, rfl⟩
    refine Each.consO ⟨fun _ O _ wx wy cc hh => by obtain ⟨eh, e, rfl, ck3_0⟩ := hh; exact ⟨eh, e, rfl, ck3_0.ch0 cc⟩, fun hv Op O wk hO ck hO0 => ?_⟩ ?_
    ·
     obtain ⟨hl, hBg⟩ := hO0 rfl
     obtain rfl := List.eq_nil_of_length_eq_zero hl
     have k251 := k251.ch0 hBg.2.1
     refine Need.o1 rfl rfl rfl (fun _ h => h) ?_
     refine rl_storeS (u := (Value.int .i64 3)) rfl rfl ⟨rfl, rfl⟩ Tryz.sizeOf3 k251 rfl ?_
     intro w310 s312 c311 k313
     have hb315 : ∀ b, (inBlk (PV p69)) b → (O b ∨ wk.heap.size ≤ b) ∧ b < w310.heap.size := fun b h => ⟨.inl ((hBg.1 b).2 (.inl h)), k313.ltp b h⟩
     exact RL.nil ⟨_, (inBlk (PV p69)), rfl, hb315, (c311.mono (fun b _ h => ((hBg.1 b).2 (.inl h)))), ⟨rfl, rfl, rfl, k313⟩⟩
    refine Each.consS (fun fl O wk hE hN hO ck => ?_) ?_
    ·
     refine rl_fieldAddr rfl fa47_5 rfl ?_
     exact RL.nil ⟨_, rfl, Ch.refl, rfl⟩
    refine Each.consO ⟨fun _ O _ wx wy cc hh => by obtain ⟨eh, e, rfl, ck5_0⟩ := hh; exact ⟨eh, e, rfl, ck5_0.ch0 cc⟩, fun hv Op O wk hO ck hO0 => ?_⟩ ?_
    ·
     refine Need.hereN rfl rfl rfl rfl ?_
     rintro ⟨rfl, _, rfl, ck3_0⟩
     refine Need.o1 rfl rfl rfl (fun _ h => h) ?_
     refine rl_storeS (u := (Value.bool false)) rfl rfl ⟨rfl, rfl⟩ Tryz.sizeOf4 ck3_0 rfl ?_
     intro w332 s334 c333 k335
     have hb337 : ∀ b, (inBlk (PV p69)) b → ((inBlk (PV p69)) b ∨ wk.heap.size ≤ b) ∧ b < w332.heap.size := fun b h => ⟨.inl h, k335.ltp b h⟩
     exact RL.nil ⟨_, (inBlk (PV p69)), rfl, hb337, (c333.mono (fun b _ h => h)), ⟨rfl, rfl, rfl, k335⟩⟩
    trivial
   intro hvO340 OpO340 O340 w338 hO341 c339 hN342
   have ol343 : ∀ b, inBlk (PV p56) b → b < w256.heap.size := k67.ltp
   have ol345 : ∀ b, inBlk (PV p14) b → b < w256.heap.size := h262.ltp
   refine Need.hereN rfl rfl rfl rfl ?_
   rintro ⟨rfl, _, rfl, ck5_0⟩
   have d348 : ∀ b, inBlk (PV p69) b → ¬ inBlk (PV p56) b := fun b h hu => (hO341 b h).1.elim (fun h => d242 b h hu) (fun h => Nat.not_le_of_lt (ol343 b hu) h)
   have d350 : ∀ b, inBlk (PV p69) b → ¬ inBlk (PV p14) b := fun b h hu => (hO341 b h).1.elim (fun h => d244 b h hu) (fun h => Nat.not_le_of_lt (ol345 b hu) h)
   have ha352 : ∀ b, b < w256.heap.size → ¬ (un (inBlk (PV p69)) (un (inBlk (PV p56)) (un (inBlk z261) (un (inBlk (PV p14)) (un (inBlk z260) nb))))) b → ¬ (inBlk (PV p69)) b ∧ ¬ (un (inBlk (PV p69)) (un (inBlk (PV p56)) (un (inBlk z261) (un (inBlk (PV p14)) (un (inBlk z260) nb))))) b := fun b hb hs => ⟨fun h => hs (.inl h), fun h => un_el h (fun h => (hO341 b h).1.elim (fun h => hs (.inl h)) (fun h => Nat.not_le_of_lt hb h)) (fun h => un_el h (fun h => hs (.inr (.inl h))) (fun h => un_el h (fun h => hs (.inr (.inr (.inl h)))) (fun h => un_el h (fun h => hs (.inr (.inr (.inr (.inl h))))) (fun h => un_el h (fun h => hs (.inr (.inr (.inr (.inr (.inl h)))))) (fun h => False.elim h)))))⟩
   have ah0_0 := slRep.st k_Addr_pos ah0_0 c339 ha352
   have ah0_1 := slRep.st k_Addr_pos ah0_1 c339 ha352
   have ah0_2 := slRep.st k_Addr_pos ah0_2 c339 ha352
   have ah0_3 := slRep.st k_Cidr_pos ah0_3 c339 ha352
   have ah0_4 := slRep.st k_Port_pos ah0_4 c339 ha352
   have ah1_0 := slRep.st k_Addr_pos ah1_0 c339 ha352
   have gp1n : (G F w.heap.size (un (inBlk (PV p69)) (un (inBlk (PV p56)) (un (inBlk z261) (un (inBlk (PV p14)) (un (inBlk z260) nb)))))) p1 := ⟨gp1.1, (ha352 _ k4.lt gp1.2).2⟩
   have k4 := k4.ch c339 (ha352 _ k4.lt gp1.2).1
   have gp1 := gp1n
   have gp5n : (G F w.heap.size (un (inBlk (PV p69)) (un (inBlk (PV p56)) (un (inBlk z261) (un (inBlk (PV p14)) (un (inBlk z260) nb)))))) p5 := ⟨gp5.1, (ha352 _ k8.lt gp5.2).2⟩
   have k8 := k8.ch c339 (ha352 _ k8.lt gp5.2).1
   have gp5 := gp5n
   have k67 := k67.ch c339 ((fun b hb h => (disSym d348) b hb h) _ rfl)
   have h262 := h262.ch c339 ((fun b hb h => (disSym d350) b hb h) _ rfl)
   have h263 := h263.ch c339 ((fun b hb h => d271 b hb h))
   have h264 := h264.st c339 (fun b hb h => d274 b hb h) ha352 (fun b h => (.inr (.inr (.inl h))))
   have c45 := c45.then c339 (fun i hi h => absurd (lo73 i h) (Nat.not_le_of_lt hi))
   refine Need.o1 rfl rfl rfl (fun _ h => h) ?_
   refine rl_fieldAddr rfl fa47_1 rfl ?_
   refine rl_fieldAddr rfl fa45_1 rfl ?_
   refine rl_storeS (u := (Value.int .i64 x42.outer)) rfl rfl ⟨rfl, rfl⟩ Tryz.sizeOf3 ck5_0 rfl ?_
   intro w354 s356 c355 k357
   have ad358 : ∀ b, b < w338.heap.size → ¬ (un (inBlk (PV p69)) (un (inBlk (PV p56)) (un (inBlk z261) (un (inBlk (PV p14)) (un (inBlk z260) nb))))) b → ¬ (inBlk (PV p69)) b ∧ ¬ (un (inBlk (PV p69)) (un (inBlk (PV p56)) (un (inBlk z261) (un (inBlk (PV p14)) (un (inBlk z260) nb))))) b := fun b _ hs => ⟨fun h => hs (.inl h), hs⟩
   have ah0_0 := slRep.st k_Addr_pos ah0_0 c355 ad358
   have ah0_1 := slRep.st k_Addr_pos ah0_1 c355 ad358
   have ah0_2 := slRep.st k_Addr_pos ah0_2 c355 ad358
   have ah0_3 := slRep.st k_Cidr_pos ah0_3 c355 ad358
   have ah0_4 := slRep.st k_Port_pos ah0_4 c355 ad358
   have ah1_0 := slRep.st k_Addr_pos ah1_0 c355 ad358
   have k4 := k4.ch c355 (ad358 _ k4.lt gp1.2).1
   have k8 := k8.ch c355 (ad358 _ k8.lt gp5.2).1
   have k67 := k67.ch c355 ((fun b hb h => (disSym d348) b hb h) _ rfl)
   have h262 := h262.ch c355 ((fun b hb h => (disSym d350) b hb h) _ rfl)
   have h263 := h263.ch c355 ((fun b hb h => d271 b hb h))
   have h264 := h264.st c355 (fun b hb h => d274 b hb h) ad358 (fun b h => (.inr (.inr (.inl h))))
   have c45 := c45.then c355 (fun i hi h => absurd (lo73 i h) (Nat.not_le_of_lt hi))
   refine RL.nil (thn_n (CW.seq (CW.region ?_)))
   refine rl_fieldAddr rfl fa78_3 rfl ?_
   refine rl_loadS (v := (Value.int .i64 x42.outer)) rfl Tryz.isAgg3 (k67.cell rfl) rfl ?_
   refine rl_bin rfl rfl B.neq rfl ?_
   refine RL.nil (thn_n ?_)
   refine CW.cond (t := !decide (x42.outer = 0)) rfl (fun q359 => ?_) (fun q359 => ?_)
   ·
    have hb39 := ifT q359 hb39
    refine CW.region ?_
    refine rl_move rfl rfl ?_
    refine rl_fieldAddr rfl fa31_2 rfl ?_
    refine rl_loadS (v := az1_0) rfl Tryz.isAgg24 (k8.cell rfl) rfl ?_
    refine rl_loadA (cs := (Face.enc ({ proto := x42.proto, point := ({ addr := Addr.z, port := x42.outer } : Point), name := x42.name, how := 3, localF := a0.externalLocal, asked := false } : Face))) rfl Tryz.isAgg47 Tryz.sizeOf47 (k357.segAt 0 23) rfl rfl ?_
    have hd360 : ∀ b, (un (inBlk (PV p14)) (un (inBlk z260) (inBlk z261))) b → ¬ (un (inBlk (PV p69)) (un (inBlk (PV p56)) nb)) b := fun b h => un_el h (fun h => (fun b hb => fun h => un_el h (fun h => (disSym d350) b hb h) (fun h => un_el h (fun h => (disSym d62) b hb h) (fun h => h))) b h) (fun h => un_el h (fun h => (fun b hb => fun h => un_el h (fun h => d271 b hb h) (fun h => un_el h (fun h => d272 b hb h) (fun h => h))) b h) (fun h => (fun b hb => fun h => un_el h (fun h => d274 b hb h) (fun h => un_el h (fun h => d275 b hb h) (fun h => h))) b h))
    have hS361 : (un (inBlk (PV p69)) (un (inBlk (PV p56)) (un (inBlk z261) (un (inBlk (PV p14)) (un (inBlk z260) nb))))) = (un (inBlk (PV p14)) (un (inBlk z260) (un (inBlk z261) (un (inBlk (PV p69)) (un (inBlk (PV p56)) nb))))) := funext fun b => propext ⟨fun h => un_el h (fun h => (.inr (.inr (.inr (.inl h))))) (fun h => un_el h (fun h => (.inr (.inr (.inr (.inr (.inl h)))))) (fun h => un_el h (fun h => (.inr (.inr (.inl h)))) (fun h => un_el h (fun h => (.inl h)) (fun h => un_el h (fun h => (.inr (.inl h))) (fun h => False.elim h))))), fun h => un_el h (fun h => (.inr (.inr (.inr (.inl h))))) (fun h => un_el h (fun h => (.inr (.inr (.inr (.inr (.inl h)))))) (fun h => un_el h (fun h => (.inr (.inr (.inl h)))) (fun h => un_el h (fun h => (.inl h)) (fun h => un_el h (fun h => (.inr (.inl h))) (fun h => False.elim h)))))⟩
    have ha362 := ah1_0
    rw [hS361] at ha362
    obtain ⟨y365, hy366, hb39⟩ := bindS hb39
    refine rl_callF rfl en45 rfl (ctr45 F w354 w.heap.size (un (inBlk (PV p69)) (un (inBlk (PV p56)) nb)) c45.size (un_lt k357.ltp (un_lt k67.ltp nbS)) p14 z260 z261 hd360 d267 d268 d269 y258 h262 h263 (hS361 ▸ h264) a1.addrs az1_0 ha362 ({ proto := x42.proto, point := ({ addr := Addr.z, port := x42.outer } : Point), name := x42.name, how := 3, localF := a0.externalLocal, asked := false } : Face) y365 hy366) ?_
    rintro _ w363 ⟨z367, z368, rfl, h369, h370, h371, hf372, hf373, d374, d375, d376, c364⟩
    have lo377 : ∀ b, inBlk z367 b → w.heap.size ≤ b := fun b h => (hf372 b h).elim (fun h => un_el h (fun h => lo18 b h) (fun h => un_el h (fun h => lo270 b h) (fun h => lo273 b h))) (Nat.le_trans c45.size)
    have hS383 : (un (inBlk (PV p69)) (un (inBlk (PV p56)) (un (inBlk z368) (un (inBlk (PV p14)) (un (inBlk z367) nb))))) = (un (inBlk (PV p14)) (un (inBlk z367) (un (inBlk z368) (un (inBlk (PV p69)) (un (inBlk (PV p56)) nb))))) := funext fun b => propext ⟨fun h => un_el h (fun h => (.inr (.inr (.inr (.inl h))))) (fun h => un_el h (fun h => (.inr (.inr (.inr (.inr (.inl h)))))) (fun h => un_el h (fun h => (.inr (.inr (.inl h)))) (fun h => un_el h (fun h => (.inl h)) (fun h => un_el h (fun h => (.inr (.inl h))) (fun h => False.elim h))))), fun h => un_el h (fun h => (.inr (.inr (.inr (.inl h))))) (fun h => un_el h (fun h => (.inr (.inr (.inr (.inr (.inl h)))))) (fun h => un_el h (fun h => (.inr (.inr (.inl h)))) (fun h => un_el h (fun h => (.inl h)) (fun h => un_el h (fun h => (.inr (.inl h))) (fun h => False.elim h)))))⟩
    rw [← hS383] at h371
    have ha384 : ∀ b, b < w354.heap.size → ¬ (un (inBlk (PV p69)) (un (inBlk (PV p56)) (un (inBlk z261) (un (inBlk (PV p14)) (un (inBlk z260) nb))))) b → ¬ (un (inBlk (PV p14)) (un (inBlk z260) (inBlk z261))) b ∧ ¬ (un (inBlk (PV p69)) (un (inBlk (PV p56)) (un (inBlk z368) (un (inBlk (PV p14)) (un (inBlk z367) nb))))) b := fun b hb hs => ⟨fun h => un_el h (fun h => hs (.inr (.inr (.inr (.inl h))))) (fun h => un_el h (fun h => hs (.inr (.inr (.inr (.inr (.inl h)))))) (fun h => hs (.inr (.inr (.inl h))))), fun h => un_el h (fun h => hs (.inl h)) (fun h => un_el h (fun h => hs (.inr (.inl h))) (fun h => un_el h (fun h => (hf373 b h).elim (fun h => un_el h (fun h => hs (.inr (.inr (.inr (.inl h))))) (fun h => un_el h (fun h => hs (.inr (.inr (.inr (.inr (.inl h)))))) (fun h => hs (.inr (.inr (.inl h)))))) (fun h => Nat.not_le_of_lt hb h)) (fun h => un_el h (fun h => hs (.inr (.inr (.inr (.inl h))))) (fun h => un_el h (fun h => (hf372 b h).elim (fun h => un_el h (fun h => hs (.inr (.inr (.inr (.inl h))))) (fun h => un_el h (fun h => hs (.inr (.inr (.inr (.inr (.inl h)))))) (fun h => hs (.inr (.inr (.inl h)))))) (fun h => Nat.not_le_of_lt hb h)) (fun h => False.elim h)))))⟩
    have ah0_0 := slRep.st k_Addr_pos ah0_0 c364 ha384
    have ah0_1 := slRep.st k_Addr_pos ah0_1 c364 ha384
    have ah0_2 := slRep.st k_Addr_pos ah0_2 c364 ha384
    have ah0_3 := slRep.st k_Cidr_pos ah0_3 c364 ha384
    have ah0_4 := slRep.st k_Port_pos ah0_4 c364 ha384
    have ah1_0 := slRep.st k_Addr_pos ah1_0 c364 ha384
    have gp1n : (G F w.heap.size (un (inBlk (PV p69)) (un (inBlk (PV p56)) (un (inBlk z368) (un (inBlk (PV p14)) (un (inBlk z367) nb)))))) p1 := ⟨gp1.1, (ha384 _ k4.lt gp1.2).2⟩
    have k4 := k4.ch c364 (ha384 _ k4.lt gp1.2).1
    have gp1 := gp1n
    have gp5n : (G F w.heap.size (un (inBlk (PV p69)) (un (inBlk (PV p56)) (un (inBlk z368) (un (inBlk (PV p14)) (un (inBlk z367) nb)))))) p5 := ⟨gp5.1, (ha384 _ k8.lt gp5.2).2⟩
    have k8 := k8.ch c364 (ha384 _ k8.lt gp5.2).1
    have gp5 := gp5n
    have c45 := c45.then c364 (fun i hi h => un_el h (fun h => absurd (lo18 i h) (Nat.not_le_of_lt hi)) (fun h => un_el h (fun h => absurd (lo270 i h) (Nat.not_le_of_lt hi)) (fun h => absurd (lo273 i h) (Nat.not_le_of_lt hi))))
    refine RL.nil ?_
    refine inB_n ?_
    refine thn_n (CW.region ?_)
    refine rl_inc rfl hat36.lt ah0_4.big rfl ?_
    refine rl_move rfl rfl ?_
    refine RL.nil (thn_n ?_)
    have ad385 : ∀ b, b < w363.heap.size → ¬ (un (inBlk (PV p69)) (un (inBlk (PV p56)) (un (inBlk z368) (un (inBlk (PV p14)) (un (inBlk z367) nb))))) b → ¬ nb b ∧ ¬ (un (inBlk (PV p56)) (un (inBlk z368) (un (inBlk (PV p14)) (un (inBlk z367) nb)))) b := fun b _ hs => ⟨fun x => x, fun h => hs (un_el h (fun h => (.inr (.inl h))) (fun h => un_el h (fun h => (.inr (.inr (.inl h)))) (fun h => un_el h (fun h => (.inr (.inr (.inr (.inl h))))) (fun h => un_el h (fun h => (.inr (.inr (.inr (.inr (.inl h)))))) (fun h => False.elim h)))))⟩
    have crf : Ch nb w363 w363 := Ch.refl
    have ah0_0 := slRep.st k_Addr_pos ah0_0 crf ad385
    have ah0_1 := slRep.st k_Addr_pos ah0_1 crf ad385
    have ah0_2 := slRep.st k_Addr_pos ah0_2 crf ad385
    have ah0_3 := slRep.st k_Cidr_pos ah0_3 crf ad385
    have ah0_4 := slRep.st k_Port_pos ah0_4 crf ad385
    have ah1_0 := slRep.st k_Addr_pos ah1_0 crf ad385
    have gp1n : (G F w.heap.size (un (inBlk (PV p56)) (un (inBlk z368) (un (inBlk (PV p14)) (un (inBlk z367) nb))))) p1 := ⟨gp1.1, (ad385 _ k4.lt gp1.2).2⟩
    have k4 := k4.ch0 crf
    have gp1 := gp1n
    have gp5n : (G F w.heap.size (un (inBlk (PV p56)) (un (inBlk z368) (un (inBlk (PV p14)) (un (inBlk z367) nb))))) p5 := ⟨gp5.1, (ad385 _ k8.lt gp5.2).2⟩
    have k8 := k8.ch0 crf
    have gp5 := gp5n
    have h369 := h369.ch0 crf
    have h370 := h370.ch0 crf
    have h371 := h371.st crf (fun _ _ x => x) ad385 (fun b h => (.inr (.inl h)))
    have c45 := c45.then0 crf
    have ad386 : ∀ b, b < w363.heap.size → ¬ (un (inBlk (PV p56)) (un (inBlk z368) (un (inBlk (PV p14)) (un (inBlk z367) nb)))) b → ¬ nb b ∧ ¬ (un (inBlk z368) (un (inBlk (PV p14)) (un (inBlk z367) nb))) b := fun b _ hs => ⟨fun x => x, fun h => hs (un_el h (fun h => (.inr (.inl h))) (fun h => un_el h (fun h => (.inr (.inr (.inl h)))) (fun h => un_el h (fun h => (.inr (.inr (.inr (.inl h))))) (fun h => False.elim h))))⟩
    have crf : Ch nb w363 w363 := Ch.refl
    have ah0_0 := slRep.st k_Addr_pos ah0_0 crf ad386
    have ah0_1 := slRep.st k_Addr_pos ah0_1 crf ad386
    have ah0_2 := slRep.st k_Addr_pos ah0_2 crf ad386
    have ah0_3 := slRep.st k_Cidr_pos ah0_3 crf ad386
    have ah0_4 := slRep.st k_Port_pos ah0_4 crf ad386
    have ah1_0 := slRep.st k_Addr_pos ah1_0 crf ad386
    have gp1n : (G F w.heap.size (un (inBlk z368) (un (inBlk (PV p14)) (un (inBlk z367) nb)))) p1 := ⟨gp1.1, (ad386 _ k4.lt gp1.2).2⟩
    have k4 := k4.ch0 crf
    have gp1 := gp1n
    have gp5n : (G F w.heap.size (un (inBlk z368) (un (inBlk (PV p14)) (un (inBlk z367) nb)))) p5 := ⟨gp5.1, (ad386 _ k8.lt gp5.2).2⟩
    have k8 := k8.ch0 crf
    have gp5 := gp5n
    have h369 := h369.ch0 crf
    have h370 := h370.ch0 crf
    have h371 := h371.st crf (fun _ _ x => x) ad386 (fun b h => (.inl h))
    have c45 := c45.then0 crf
    have hLn := runAO_next hL35 hq38 hb39
    exact ⟨rest49.length, Nat.lt_succ_self _, [(2, (PV p1)), (3, (PV p5)), (5, (PV p14)), (13, az0_4), (14, (Value.int .i64 ((a0.ports.length : Nat) : Int))), (15, (Value.int .i64 ((i34 + 1 : Nat) : Int)))], ⟨rfl, rfl, rfl, rfl, rfl, rfl, trivial⟩, ⟨rest49, i34 + 1, y365, z367, z368, rfl, rfl, c45, hat36.next, hLn, ah0_0, ah0_1, ah0_2, ah0_3, ah0_4, ah1_0, k4, k8, h370, h371, h369, gp1, gp5, (disSym d375), (disSym d376), d374, lo377⟩⟩
   have hb39 := ifF q359 hb39
   refine CW.skip ?_
   refine inB_n ?_
   refine thn_n (CW.region ?_)
   refine rl_inc rfl hat36.lt ah0_4.big rfl ?_
   refine rl_move rfl rfl ?_
   refine RL.nil (thn_n ?_)
   have ad387 : ∀ b, b < w354.heap.size → ¬ (un (inBlk (PV p69)) (un (inBlk (PV p56)) (un (inBlk z261) (un (inBlk (PV p14)) (un (inBlk z260) nb))))) b → ¬ nb b ∧ ¬ (un (inBlk (PV p56)) (un (inBlk z261) (un (inBlk (PV p14)) (un (inBlk z260) nb)))) b := fun b _ hs => ⟨fun x => x, fun h => hs (un_el h (fun h => (.inr (.inl h))) (fun h => un_el h (fun h => (.inr (.inr (.inl h)))) (fun h => un_el h (fun h => (.inr (.inr (.inr (.inl h))))) (fun h => un_el h (fun h => (.inr (.inr (.inr (.inr (.inl h)))))) (fun h => False.elim h)))))⟩
   have crf : Ch nb w354 w354 := Ch.refl
   have ah0_0 := slRep.st k_Addr_pos ah0_0 crf ad387
   have ah0_1 := slRep.st k_Addr_pos ah0_1 crf ad387
   have ah0_2 := slRep.st k_Addr_pos ah0_2 crf ad387
   have ah0_3 := slRep.st k_Cidr_pos ah0_3 crf ad387
   have ah0_4 := slRep.st k_Port_pos ah0_4 crf ad387
   have ah1_0 := slRep.st k_Addr_pos ah1_0 crf ad387
   have gp1n : (G F w.heap.size (un (inBlk (PV p56)) (un (inBlk z261) (un (inBlk (PV p14)) (un (inBlk z260) nb))))) p1 := ⟨gp1.1, (ad387 _ k4.lt gp1.2).2⟩
   have k4 := k4.ch0 crf
   have gp1 := gp1n
   have gp5n : (G F w.heap.size (un (inBlk (PV p56)) (un (inBlk z261) (un (inBlk (PV p14)) (un (inBlk z260) nb))))) p5 := ⟨gp5.1, (ad387 _ k8.lt gp5.2).2⟩
   have k8 := k8.ch0 crf
   have gp5 := gp5n
   have h262 := h262.ch0 crf
   have h263 := h263.ch0 crf
   have h264 := h264.st crf (fun _ _ x => x) ad387 (fun b h => (.inr (.inl h)))
   have c45 := c45.then0 crf
   have ad388 : ∀ b, b < w354.heap.size → ¬ (un (inBlk (PV p56)) (un (inBlk z261) (un (inBlk (PV p14)) (un (inBlk z260) nb)))) b → ¬ nb b ∧ ¬ (un (inBlk z261) (un (inBlk (PV p14)) (un (inBlk z260) nb))) b := fun b _ hs => ⟨fun x => x, fun h => hs (un_el h (fun h => (.inr (.inl h))) (fun h => un_el h (fun h => (.inr (.inr (.inl h)))) (fun h => un_el h (fun h => (.inr (.inr (.inr (.inl h))))) (fun h => False.elim h))))⟩
   have crf : Ch nb w354 w354 := Ch.refl
   have ah0_0 := slRep.st k_Addr_pos ah0_0 crf ad388
   have ah0_1 := slRep.st k_Addr_pos ah0_1 crf ad388
   have ah0_2 := slRep.st k_Addr_pos ah0_2 crf ad388
   have ah0_3 := slRep.st k_Cidr_pos ah0_3 crf ad388
   have ah0_4 := slRep.st k_Port_pos ah0_4 crf ad388
   have ah1_0 := slRep.st k_Addr_pos ah1_0 crf ad388
   have gp1n : (G F w.heap.size (un (inBlk z261) (un (inBlk (PV p14)) (un (inBlk z260) nb)))) p1 := ⟨gp1.1, (ad388 _ k4.lt gp1.2).2⟩
   have k4 := k4.ch0 crf
   have gp1 := gp1n
   have gp5n : (G F w.heap.size (un (inBlk z261) (un (inBlk (PV p14)) (un (inBlk z260) nb)))) p5 := ⟨gp5.1, (ad388 _ k8.lt gp5.2).2⟩
   have k8 := k8.ch0 crf
   have gp5 := gp5n
   have h262 := h262.ch0 crf
   have h263 := h263.ch0 crf
   have h264 := h264.st crf (fun _ _ x => x) ad388 (fun b h => (.inl h))
   have c45 := c45.then0 crf
   have hLn := runAO_next hL35 hq38 hb39
   exact ⟨rest49.length, Nat.lt_succ_self _, [(2, (PV p1)), (3, (PV p5)), (5, (PV p14)), (13, az0_4), (14, (Value.int .i64 ((a0.ports.length : Nat) : Int))), (15, (Value.int .i64 ((i34 + 1 : Nat) : Int)))], ⟨rfl, rfl, rfl, rfl, rfl, rfl, trivial⟩, ⟨rest49, i34 + 1, y258, z260, z261, rfl, rfl, c45, hat36.next, hLn, ah0_0, ah0_1, ah0_2, ah0_3, ah0_4, ah1_0, k4, k8, h263, h264, h262, gp1, gp5, (disSym d268), (disSym d269), d267, lo270⟩⟩
  obtain rfl := hat36.nil q48
  have hLf : x23 = o40 := runAO_done hL35
  refine CW.exit (thn_exit (thn_exit (inB_hit ?_)))
  exact ⟨x23, v24, v26, ⟨rfl, trivial⟩, c45, hLf, ah0_0, ah0_1, ah0_2, ah0_3, ah0_4, ah1_0, k4, k8, h25, h27, k28, gp1, gp5, d30, d31, d32, lo29⟩
 rintro _ w390 ⟨x23, v24, v26, hE391, c389, f392, ah0_0, ah0_1, ah0_2, ah0_3, ah0_4, ah1_0, k4, k8, h25, h27, k28, gp1, gp5, d30, d31, d32, lo29⟩
 subst f392
 refine thn_n (CW.sub [(5, (PV p14))] hE391 ?_)
 refine CW.seq (CW.region ?_)
 refine rl_move rfl rfl ?_
 refine rl_nilCheck rfl rfl ?_
 refine rl_fieldAddr rfl fa122_1 rfl ?_
 refine rl_loadS (v := v26) rfl Tryz.isAgg36 (k28.cell rfl) rfl ?_
 have h27 := SlO.read (S' := (un (inBlk (PV p14)) (un (inBlk v24) nb))) k_Face_pos h27 (fun b hs h => hs (un_el h (fun h => (.inr (.inl h))) (fun h => un_el h (fun h => (.inr (.inr (.inl h)))) (fun h => False.elim h)))) (fun b hb => fun h => un_el h (fun h => d30 b hb h) (fun h => un_el h (fun h => d31 b hb h) (fun h => h)))
 have crf : Ch nb w390 w390 := Ch.refl
 have h25 := h25.ch0 crf
 have k28 := k28.ch0 crf
 have c389 := c389.then0 crf
 obtain ⟨y397, hy398, hS⟩ := bindS hS
 refine rl_callF rfl en46 rfl (ctr46 (G F w.heap.size (un (inBlk (PV p14)) (un (inBlk v24) nb))) w390 x23.list v26 h27 y397 hy398) ?_
 rintro v399 w395 ⟨_, rfl, h400, c396⟩
 have h400 := SlO.back (S' := un (inBlk v399) (un (inBlk (PV p14)) (un (inBlk v24) nb))) h400 (un_lt k28.ltp (un_lt h25.ltp nbS)) c389.size (fun _ => Or.comm)
 have c389 := c389.then0 c396
 refine rl_assign rfl rfl ?_
 refine RL.nil (thn_n (CW.ret ?_))
 obtain rfl := Option.some.inj hS
 exact ret1 rfl ⟨v399, rfl, h400.out, c389⟩
/-- lb/resolve.faced -/
theorem ctr25 (F : Nat → Prop) (w : World) (a0 : Face) (r : Id) (hs : F25_faced a0 = r) :
    Ret Tryz.prog 25 #[(Value.agg (Face.enc a0).toArray)] w fun v w' => v = (Value.agg (Id.enc r).toArray) ∧ Ch nb w w' := by
 have hS := hs
 have c0 : Ch nb w w := Ch.refl
 refine Ret.of (n := 12) (args := [_]) (rs := [.cell 2 88]) Tryz.func25 rfl rfl rfl rfl ?_
 refine CW.seq (CW.region ?_)
 refine rl_boxA (cs := (Face.enc a0)) rfl rfl ?_
 intro p1 w2 n3 k4
 have c0 := c0.then0 n3.ch
 refine rl_alloc (Id.enc Id.z) Tryz.zeroValue88 rfl rfl ?_
 intro p5 w6 n7 k8
 have lo9 : ∀ b, inBlk (PV p5) b → w.heap.size ≤ b := fun b h => Nat.le_trans c0.size (n7.fresh b h)
 have k4 := k4.ch0 n7.ch
 have c0 := c0.then0 n7.ch
 refine RL.nil (thn_n (CW.seq (CW.region ?_)))
 refine rl_fieldAddr rfl fa47_2 rfl ?_
 refine rl_loadS (v := (Value.string a0.name)) rfl Tryz.isAgg9 (k4.cell rfl) rfl ?_
 refine rl_fieldAddr rfl fa47_1 rfl ?_
 refine rl_fieldAddr rfl fa45_0 rfl ?_
 refine rl_fieldAddr rfl fa43_0 rfl ?_
 refine rl_loadS (v := (Value.bool a0.point.addr.six)) rfl Tryz.isAgg4 (k4.cell rfl) rfl ?_
 refine rl_fieldAddr rfl fa47_4 rfl ?_
 refine rl_loadS (v := (Value.bool a0.localF)) rfl Tryz.isAgg4 (k4.cell rfl) rfl ?_
 refine rl_build (out := (Id.enc ({ name := a0.name, six := a0.point.addr.six, localF := a0.localF } : Id))) rfl pl88 Tryz.zeroValue88 rfl rfl rfl ?_
 refine rl_storeA (vs := (Id.enc ({ name := a0.name, six := a0.point.addr.six, localF := a0.localF } : Id))) rfl rfl (all_one rfl) Tryz.sizeOf88 rfl k8 rfl ?_
 intro w10 s12 c11 k13
 have c0 := c0.then c11 (fun i hi h => absurd (lo9 i h) (Nat.not_le_of_lt hi))
 refine RL.nil (thn_n (CW.ret ?_))
 obtain rfl := hS
 exact ⟨[_], ⟨Res1.agg (cs := (Id.enc ({ name := a0.name, six := a0.point.addr.six, localF := a0.localF } : Id))) rfl Tryz.isAgg88 Tryz.sizeOf88 (k13.segAt 0 3) rfl, trivial⟩, ⟨rfl, c0⟩⟩
/-- lb/resolve.wanted -/
theorem ctr27 (F : Nat → Prop) (w : World) (a0 : Service) (az0_0 az0_1 az0_2 az0_3 az0_4 : Value) (ah0_0 : slRep k_Addr F w a0.cluster az0_0) (ah0_1 : slRep k_Addr F w a0.external az0_1) (ah0_2 : slRep k_Addr F w a0.balancers az0_2) (ah0_3 : slRep k_Cidr F w a0.ranges az0_3) (ah0_4 : slRep k_Port F w a0.ports az0_4) (a1 : Face) (a2 : Node) (az2_0 : Value) (ah2_0 : slRep k_Addr F w a2.addrs az2_0) (r : Want) (hs : F27_wanted a0 a1 a2 = r) :
    Ret Tryz.prog 27 #[(Value.agg (Service.c a0 az0_0 az0_1 az0_2 az0_3 az0_4).toArray), (Value.agg (Face.enc a1).toArray), (Value.agg (Node.c a2 az2_0).toArray)] w fun v w' => v = (Value.agg (Want.enc r).toArray) ∧ Ch nb w w' := by
 have hS := hs
 have c0 : Ch nb w w := Ch.refl
 refine Ret.of (n := 29) (args := [_, _, _]) (rs := [.cell 6 92]) Tryz.func27 rfl rfl rfl rfl ?_
 refine CW.seq (CW.region ?_)
 refine rl_boxA (cs := (Service.c a0 az0_0 az0_1 az0_2 az0_3 az0_4)) rfl rfl ?_
 intro p1 w2 n3 k4
 have c0 := c0.then0 n3.ch
 refine rl_boxA (cs := (Face.enc a1)) rfl rfl ?_
 intro p5 w6 n7 k8
 have k4 := k4.ch0 n7.ch
 have c0 := c0.then0 n7.ch
 refine rl_boxA (cs := (Node.c a2 az2_0)) rfl rfl ?_
 intro p9 w10 n11 k12
 have k4 := k4.ch0 n11.ch
 have k8 := k8.ch0 n11.ch
 have c0 := c0.then0 n11.ch
 refine rl_alloc (Want.enc Want.z) Tryz.zeroValue92 rfl rfl ?_
 intro p13 w14 n15 k16
 have lo17 : ∀ b, inBlk (PV p13) b → w.heap.size ≤ b := fun b h => Nat.le_trans c0.size (n15.fresh b h)
 have k4 := k4.ch0 n15.ch
 have k8 := k8.ch0 n15.ch
 have k12 := k12.ch0 n15.ch
 have c0 := c0.then0 n15.ch
 refine RL.nil (thn_n (CW.seq (CW.region ?_)))
 refine rl_fieldAddr rfl fa47_2 rfl ?_
 refine rl_loadS (v := (Value.string a1.name)) rfl Tryz.isAgg9 (k8.cell rfl) rfl ?_
 refine rl_fieldAddr rfl fa47_0 rfl ?_
 refine rl_loadS (v := (Value.int .i64 a1.proto)) rfl Tryz.isAgg3 (k8.cell rfl) rfl ?_
 refine rl_fieldAddr rfl fa47_1 rfl ?_
 refine rl_fieldAddr rfl fa45_0 rfl ?_
 refine rl_fieldAddr rfl fa43_0 rfl ?_
 refine rl_loadS (v := (Value.bool a1.point.addr.six)) rfl Tryz.isAgg4 (k8.cell rfl) rfl ?_
 refine rl_fieldAddr rfl fa47_4 rfl ?_
 refine rl_loadS (v := (Value.bool a1.localF)) rfl Tryz.isAgg4 (k8.cell rfl) rfl ?_
 refine rl_fieldAddr rfl fa28_11 rfl ?_
 refine rl_loadS (v := (Value.bool a0.hinted)) rfl Tryz.isAgg4 (k4.cell rfl) rfl ?_
 refine rl_move rfl rfl ?_
 obtain ⟨b20, hb21⟩ : ∃ v, (a0.hinted && (!a1.localF)) = v := ⟨_, rfl⟩
 have hS := ltS hb21 hS
 refine RL.join 4 23 (.bool b20) (fun w' => Ch nb w14 w') ?_ ?_
 · rcases Bool.eq_false_or_eq_true a0.hinted with hg19 | hg19
   ·
    have hs18 := and_t hg19 hb21
    have cs : Ch nb w14 w14 := Ch.refl
    refine RL.yes rfl rfl rfl hg19 ?_
    refine rl_fieldAddr rfl fa47_4 rfl ?_
    refine RL.yes rfl rfl rfl hg19 ?_
    refine rl_loadS (v := (Value.bool a1.localF)) rfl Tryz.isAgg4 (k8.cell rfl) rfl ?_
    refine RL.yes rfl rfl rfl hg19 ?_
    refine rl_not rfl rfl ?_
    refine rl_pickT rfl hg19 rfl rfl ?_
    exact RL.nil ⟨Ext.bothEq (congrArg Value.bool hs18) (Ext.skip rfl (Ext.skip rfl (Ext.skip rfl (Ext.rfl')))), cs⟩
   ·
    have hs18 := and_f hg19 hb21
    have cs : Ch nb w14 w14 := Ch.refl
    refine RL.no rfl rfl rfl hg19 rfl rfl ?_
    refine RL.no rfl rfl rfl hg19 rfl rfl ?_
    refine RL.no rfl rfl rfl hg19 rfl rfl ?_
    refine rl_pickF rfl hg19 rfl rfl ?_
    exact RL.nil ⟨Ext.bothEq (congrArg Value.bool hs18) (Ext.skip rfl (Ext.skip rfl (Ext.skip rfl (Ext.rfl')))), cs⟩
 intro w22 c23
 have k12 := k12.ch0 c23
 have k16 := k16.ch0 c23
 have c0 := c0.then0 c23
 refine rl_fieldAddr rfl fa31_0 rfl ?_
 refine rl_loadS (v := (Value.string a2.name)) rfl Tryz.isAgg9 (k12.cell rfl) rfl ?_
 refine rl_fieldAddr rfl fa31_1 rfl ?_
 refine rl_loadS (v := (Value.string a2.zone)) rfl Tryz.isAgg9 (k12.cell rfl) rfl ?_
 refine rl_build (out := (Want.enc ({ name := a1.name, proto := a1.proto, six := a1.point.addr.six, localF := a1.localF, hinted := b20, node := a2.name, zone := a2.zone } : Want))) rfl pl92 Tryz.zeroValue92 rfl (by kernel_rfl) rfl ?_
 refine rl_storeA (vs := (Want.enc ({ name := a1.name, proto := a1.proto, six := a1.point.addr.six, localF := a1.localF, hinted := b20, node := a2.name, zone := a2.zone } : Want))) rfl rfl (all_one rfl) Tryz.sizeOf92 rfl k16 rfl ?_
 intro w24 s26 c25 k27
 have c0 := c0.then c25 (fun i hi h => absurd (lo17 i h) (Nat.not_le_of_lt hi))
 refine RL.nil (thn_n (CW.ret ?_))
 obtain rfl := hS
 exact ⟨[_], ⟨Res1.agg (cs := (Want.enc ({ name := a1.name, proto := a1.proto, six := a1.point.addr.six, localF := a1.localF, hinted := b20, node := a2.name, zone := a2.zone } : Want))) rfl Tryz.isAgg92 Tryz.sizeOf92 (k27.segAt 0 7) rfl, trivial⟩, ⟨rfl, c0⟩⟩
/-- lb/pick.Candidates$1 -/
theorem ctr71 (F : Nat → Prop) (w : World) (Bb : Nat) (S2 : Nat → Prop) (hB : Bb ≤ w.heap.size) (h2 : ∀ b, S2 b → b < w.heap.size) (po1 : Nat) (az1_0 : Value) (po2 : Nat) (az2_0 : Value) (hd2 : ∀ b, (un (inBlk (PV po1)) (un (inBlk az1_0) (un (inBlk (PV po2)) (inBlk az2_0)))) b → ¬ S2 b) (hx0_1 : ∀ b, inBlk (PV po1) b → ¬ inBlk az1_0 b) (hx0_2 : ∀ b, inBlk (PV po1) b → ¬ inBlk (PV po2) b) (hx0_3 : ∀ b, inBlk (PV po1) b → ¬ inBlk az2_0 b) (hx1_2 : ∀ b, inBlk az1_0 b → ¬ inBlk (PV po2) b) (hx1_3 : ∀ b, inBlk az1_0 b → ¬ inBlk az2_0 b) (hx2_3 : ∀ b, inBlk (PV po2) b → ¬ inBlk az2_0 b) (a0 : Candidate) (az0_0 : Value) (ah0_0 : slRep kStr (G F Bb (un (inBlk (PV po1)) (un (inBlk az1_0) (un (inBlk (PV po2)) (un (inBlk az2_0) S2))))) w a0.zones az0_0) (a1 : (List (Point × St85))) (ah1 : Blk w po1 150 [az1_0]) (ah1_0 : Mp (fun x => Value.agg (Point.enc x).toArray) (fun x => Value.agg (St85.enc x).toArray) w a1 az1_0) (a2 : (List Candidate)) (ah2 : Blk w po2 125 [az2_0]) (ah2_0 : SlO k_Candidate 129 F Bb (un (inBlk (PV po1)) (un (inBlk az1_0) (un (inBlk (PV po2)) (un (inBlk az2_0) S2)))) w a2 az2_0) (r : ((List (Point × St85)) × (List Candidate))) (hs : F71_1 a0 a1 a2 = some r) :
    Ret Tryz.prog 71 #[(Value.agg (Candidate.c a0 az0_0).toArray), (PV po1), (PV po2)] w fun v w' => ∃ (nz1_0 : Value) (nz2_0 : Value), v = Value.tuple #[] ∧ Blk w' po1 150 [nz1_0] ∧ Mp (fun x => Value.agg (Point.enc x).toArray) (fun x => Value.agg (St85.enc x).toArray) w' r.1 nz1_0 ∧ Blk w' po2 125 [nz2_0] ∧ SlO k_Candidate 129 F Bb (un (inBlk (PV po1)) (un (inBlk nz1_0) (un (inBlk (PV po2)) (un (inBlk nz2_0) S2)))) w' r.2 nz2_0 ∧ (∀ b, inBlk nz1_0 b → (un (inBlk (PV po1)) (un (inBlk az1_0) (un (inBlk (PV po2)) (inBlk az2_0)))) b ∨ w.heap.size ≤ b) ∧ (∀ b, inBlk nz2_0 b → (un (inBlk (PV po1)) (un (inBlk az1_0) (un (inBlk (PV po2)) (inBlk az2_0)))) b ∨ w.heap.size ≤ b) ∧ (∀ b, inBlk (PV po1) b → ¬ inBlk nz1_0 b) ∧ (∀ b, inBlk (PV po1) b → ¬ inBlk nz2_0 b) ∧ (∀ b, inBlk nz1_0 b → ¬ inBlk (PV po2) b) ∧ (∀ b, inBlk nz1_0 b → ¬ inBlk nz2_0 b) ∧ (∀ b, inBlk (PV po2) b → ¬ inBlk nz2_0 b) ∧ Ch (un (inBlk (PV po1)) (un (inBlk az1_0) (un (inBlk (PV po2)) (inBlk az2_0)))) w w' := by
 have hS := hs
 have c0 : Ch (un (inBlk (PV po1)) (un (inBlk az1_0) (un (inBlk (PV po2)) (inBlk az2_0)))) w w := Ch.refl
 have lin1_0 : ∀ b, inBlk az1_0 b → (un (inBlk (PV po1)) (un (inBlk az1_0) (un (inBlk (PV po2)) (inBlk az2_0)))) b ∨ w.heap.size ≤ b := fun b h => .inl (.inr (.inl h))
 have lin2_0 : ∀ b, inBlk (PV po2) b → (un (inBlk (PV po1)) (un (inBlk az1_0) (un (inBlk (PV po2)) (inBlk az2_0)))) b ∨ w.heap.size ≤ b := fun b h => .inl (.inr (.inr (.inl h)))
 have lin3_0 : ∀ b, inBlk az2_0 b → (un (inBlk (PV po1)) (un (inBlk az1_0) (un (inBlk (PV po2)) (inBlk az2_0)))) b ∨ w.heap.size ≤ b := fun b h => .inl (.inr (.inr (.inr h)))
 refine Ret.of (n := 23) (args := [_, _, _]) (rs := []) Tryz.func71 rfl rfl rfl rfl ?_
 refine CW.seq (CW.region ?_)
 refine rl_boxA (cs := (Candidate.c a0 az0_0)) rfl rfl ?_
 intro p1 w2 n3 k4
 have gp1 : (G F Bb (un (inBlk (PV po1)) (un (inBlk az1_0) (un (inBlk (PV po2)) (un (inBlk az2_0) S2))))) p1 := ⟨.inr (by rw [n3.eq]; exact (Nat.le_trans hB c0.size)), fun h => absurd ((un_lt ah1.ltp (un_lt ah1_0.ltp (un_lt ah2.ltp (un_lt (fun b hb => (ah2_0.lt b hb).2) (fun b h => Nat.lt_of_lt_of_le (h2 b h) c0.size))))) _ h) (by rw [n3.eq]; exact Nat.lt_irrefl _)⟩
 have ah1 := ah1.ch0 n3.ch
 have ah1_0 := ah1_0.ch0 n3.ch
 have ah2 := ah2.ch0 n3.ch
 have ah2_0 := ah2_0.ch0 n3.ch
 have ah0_0 := slRep.ch kStr_pos ah0_0 n3.ch
 have c0 := c0.then0 n3.ch
 refine RL.nil (thn_n (CW.seq (CW.region ?_)))
 refine rl_loadS (v := az1_0) rfl Tryz.isAgg150 (ah1.cell rfl) rfl ?_
 refine rl_fieldAddr rfl fa129_0 rfl ?_
 refine rl_loadA (cs := (Point.enc a0.point)) rfl Tryz.isAgg45 Tryz.sizeOf45 (k4.segAt 0 18) rfl rfl ?_
 refine rl_lookup2 a0.point St85.z rfl rfl ah1_0 rfl kt45 Tryz.underlying150 Tryz.zeroValue85 rfl ?_
 refine rl_move rfl rfl ?_
 refine rl_extract rfl rfl rfl ?_
 refine rl_extract rfl rfl rfl ?_
 refine rl_alloc (St85.enc St85.z) Tryz.zeroValue85 rfl rfl ?_
 intro p5 w6 n7 k8
 have lo9 : ∀ b, inBlk (PV p5) b → w.heap.size ≤ b := fun b h => Nat.le_trans c0.size (n7.fresh b h)
 have d10 : ∀ b, inBlk (PV p5) b → ¬ inBlk (PV po1) b := disNew n7.fresh ah1.ltp
 have d11 : ∀ b, inBlk (PV p5) b → ¬ inBlk az1_0 b := disNew n7.fresh ah1_0.ltp
 have d12 : ∀ b, inBlk (PV p5) b → ¬ inBlk (PV po2) b := disNew n7.fresh ah2.ltp
 have d13 : ∀ b, inBlk (PV p5) b → ¬ inBlk az2_0 b := disNew n7.fresh (fun b hb => (ah2_0.lt b hb).2)
 have ah1 := ah1.ch0 n7.ch
 have ah1_0 := ah1_0.ch0 n7.ch
 have ah2 := ah2.ch0 n7.ch
 have ah2_0 := ah2_0.st n7.ch (fun _ _ x => x) (admNew n7.fresh (fun _ x => x)) (fun b h => (.inr (.inr (.inr (.inr (.inl h))))))
 have ah0_0 := slRep.st kStr_pos ah0_0 n7.ch (admNew n7.fresh (fun _ x => x))
 have gp1n : (G F Bb (un (inBlk (PV p5)) (un (inBlk (PV po1)) (un (inBlk az1_0) (un (inBlk (PV po2)) (un (inBlk az2_0) S2)))))) p1 := ⟨gp1.1, ((admNew n7.fresh (fun _ x => x)) _ k4.lt gp1.2).2⟩
 have k4 := k4.ch0 n7.ch
 have gp1 := gp1n
 have c0 := c0.then0 n7.ch
 refine rl_storeA (vs := (St85.enc ((mget a1 a0.point).getD St85.z))) rfl rfl (all_one rfl) Tryz.sizeOf85 rfl k8 rfl ?_
 intro w14 s16 c15 k17
 have ad18 : ∀ b, b < w6.heap.size → ¬ (un (inBlk (PV p5)) (un (inBlk (PV po1)) (un (inBlk az1_0) (un (inBlk (PV po2)) (un (inBlk az2_0) S2))))) b → ¬ (inBlk (PV p5)) b ∧ ¬ (un (inBlk (PV p5)) (un (inBlk (PV po1)) (un (inBlk az1_0) (un (inBlk (PV po2)) (un (inBlk az2_0) S2))))) b := fun b _ hs => ⟨fun h => hs (.inl h), hs⟩
 have ah1 := ah1.ch c15 ((fun b hb h => (disSym d10) b hb h) _ rfl)
 have ah1_0 := ah1_0.ch c15 ((fun b hb h => (disSym d11) b hb h))
 have ah2 := ah2.ch c15 ((fun b hb h => (disSym d12) b hb h) _ rfl)
 have ah2_0 := ah2_0.st c15 (fun b hb h => (disSym d13) b hb h) ad18 (fun b h => (.inr (.inr (.inr (.inr (.inl h))))))
 have ah0_0 := slRep.st kStr_pos ah0_0 c15 ad18
 have k4 := k4.ch c15 (ad18 _ k4.lt gp1.2).1
 have c0 := c0.then c15 (fun i hi h => absurd (lo9 i h) (Nat.not_le_of_lt hi))
 refine rl_assign rfl rfl ?_
 refine RL.nil (thn_n (CW.seq (CW.region ?_)))
 refine rl_move rfl rfl ?_
 refine rl_not rfl rfl ?_
 refine RL.nil (thn_n ?_)
 refine CW.cond (t := !((mget a1 a0.point).isSome)) rfl (fun q19 => ?_) (fun q19 => ?_)
 ·
  have hS := ifT q19 hS
  refine CW.seq (CW.region ?_)
  refine rl_loadS (v := az1_0) rfl Tryz.isAgg150 (ah1.cell rfl) rfl ?_
  refine rl_fieldAddr rfl fa129_0 rfl ?_
  refine rl_loadA (cs := (Point.enc a0.point)) rfl Tryz.isAgg45 Tryz.sizeOf45 (k4.segAt 0 18) rfl rfl ?_
  refine rl_build (out := (St85.enc ({  } : St85))) rfl pl85 Tryz.zeroValue85 rfl rfl rfl ?_
  refine rl_mapUpdate a0.point ({  } : St85) rfl rfl rfl ah1_0 rfl rfl kt45 Tryz.underlying150 ?_
  intro w20 c21 h22
  have ad23 : ∀ b, b < w14.heap.size → ¬ (un (inBlk (PV p5)) (un (inBlk (PV po1)) (un (inBlk az1_0) (un (inBlk (PV po2)) (un (inBlk az2_0) S2))))) b → ¬ (inBlk az1_0) b ∧ ¬ (un (inBlk (PV p5)) (un (inBlk (PV po1)) (un (inBlk az1_0) (un (inBlk (PV po2)) (un (inBlk az2_0) S2))))) b := fun b _ hs => ⟨fun h => hs (.inr (.inr (.inl h))), hs⟩
  have ah1 := ah1.ch c21 ((fun b hb h => hx0_1 b hb h) _ rfl)
  have ah2 := ah2.ch c21 ((fun b hb h => (disSym hx1_2) b hb h) _ rfl)
  have ah2_0 := ah2_0.st c21 (fun b hb h => (disSym hx1_3) b hb h) ad23 (fun b h => (.inr (.inr (.inr (.inr (.inl h))))))
  have ah0_0 := slRep.st kStr_pos ah0_0 c21 ad23
  have k4 := k4.ch c21 (ad23 _ k4.lt gp1.2).1
  have k17 := k17.ch c21 ((fun b hb h => d11 b hb h) _ rfl)
  have c0 := c0.then c21 (fun i hi h => (lin1_0 i h).elim (fun x => x) (fun x => absurd x (Nat.not_le_of_lt hi)))
  refine RL.nil (thn_n (CW.region ?_))
  refine rl_loadS (v := az2_0) rfl Tryz.isAgg125 (ah2.cell rfl) rfl ?_
  refine rl_loadA (cs := (Candidate.c a0 az0_0)) rfl Tryz.isAgg129 Tryz.sizeOf129 (k4.segAt 0 23) rfl rfl ?_
  refine rl_bslice (k := k_Candidate) (F := F) (B := Bb) (S := (un (inBlk (PV p5)) (un (inBlk (PV po1)) (un (inBlk az1_0) (un (inBlk (PV po2)) (un (inBlk az2_0) S2)))))) ([a0] : List Candidate) rfl k_Candidate_pos Tryz.underlying125 Tryz.sizeOf129 Tryz.zeroValue129 rfl rfl ⟨rfl, ⟨az0_0, rfl, ah0_0⟩, trivial⟩ (Nat.le_trans hB c0.size) (un_lt k17.ltp (un_lt ah1.ltp (un_lt h22.ltp (un_lt ah2.ltp (un_lt (fun b hb => (ah2_0.lt b hb).2) (fun b h => Nat.lt_of_lt_of_le (h2 b h) c0.size)))))) rfl ?_
  intro v24 w25 c26 hf27 h28
  have h28 := h28.readNew k_Candidate_pos hf27 (un_lt k17.ltp (un_lt ah1.ltp (un_lt h22.ltp (un_lt ah2.ltp (un_lt (fun b hb => (ah2_0.lt b hb).2) (fun b h => Nat.lt_of_lt_of_le (h2 b h) c0.size))))))
  have ah1 := ah1.ch0 c26
  have ah2 := ah2.ch0 c26
  have ah2_0 := ah2_0.ch0 c26
  have k17 := k17.ch0 c26
  have h22 := h22.ch0 c26
  have c0 := c0.then0 c26
  obtain ⟨z37, hz38, hS⟩ := bindS hS
  have hl := (apO_get hz38).1
  refine rl_append (k := k_Candidate) (T := 129) (F := F) (B := Bb) (S := (un (inBlk (PV p5)) (un (inBlk (PV po1)) (un (inBlk az1_0) (un (inBlk (PV po2)) (un (inBlk az2_0) S2)))))) (S2 := (un (inBlk (PV p5)) (un (inBlk (PV po1)) (un (inBlk az1_0) (un (inBlk (PV po2)) S2))))) (fun v => (un (inBlk (PV p5)) (un (inBlk (PV po1)) (un (inBlk az1_0) (un (inBlk (PV po2)) (un (inBlk v) S2)))))) rfl rfl k_Candidate_pos ap125 ah2_0 h28 (fun _ => ⟨fun h => un_el h (fun h => (.inr (.inl h))) (fun h => un_el h (fun h => (.inr (.inr (.inl h)))) (fun h => un_el h (fun h => (.inr (.inr (.inr (.inl h))))) (fun h => un_el h (fun h => (.inr (.inr (.inr (.inr (.inl h)))))) (fun h => un_el h (fun h => (.inl h)) (fun h => (.inr (.inr (.inr (.inr (.inr h)))))))))), fun h => un_el h (fun h => (.inr (.inr (.inr (.inr (.inl h)))))) (fun h => un_el h (fun h => (.inl h)) (fun h => un_el h (fun h => (.inr (.inl h))) (fun h => un_el h (fun h => (.inr (.inr (.inl h)))) (fun h => un_el h (fun h => (.inr (.inr (.inr (.inl h))))) (fun h => (.inr (.inr (.inr (.inr (.inr h))))))))))⟩) (fun _ _ => ⟨fun h => un_el h (fun h => (.inr (.inl h))) (fun h => un_el h (fun h => (.inr (.inr (.inl h)))) (fun h => un_el h (fun h => (.inr (.inr (.inr (.inl h))))) (fun h => un_el h (fun h => (.inr (.inr (.inr (.inr (.inl h)))))) (fun h => un_el h (fun h => (.inl h)) (fun h => (.inr (.inr (.inr (.inr (.inr h)))))))))), fun h => un_el h (fun h => (.inr (.inr (.inr (.inr (.inl h)))))) (fun h => un_el h (fun h => (.inl h)) (fun h => un_el h (fun h => (.inr (.inl h))) (fun h => un_el h (fun h => (.inr (.inr (.inl h)))) (fun h => un_el h (fun h => (.inr (.inr (.inr (.inl h))))) (fun h => (.inr (.inr (.inr (.inr (.inr h))))))))))⟩) hl (Nat.le_trans hB c0.size) (un_lt k17.ltp (un_lt ah1.ltp (un_lt h22.ltp (un_lt ah2.ltp (un_lt (fun b hb => (ah2_0.lt b hb).2) (fun b h => Nat.lt_of_lt_of_le (h2 b h) c0.size)))))) rfl ?_
  intro v31 w32 h33 c34 hf35 ha36
  have lin39 : ∀ b, inBlk v31 b → (un (inBlk (PV po1)) (un (inBlk az1_0) (un (inBlk (PV po2)) (inBlk az2_0)))) b ∨ w.heap.size ≤ b := linApp lin3_0 hf35 c0.size
  have d41 : ∀ b, inBlk v31 b → ¬ inBlk (PV po1) b := disApp hf35 (disSym hx0_3) ah1.ltp
  have d42 : ∀ b, inBlk v31 b → ¬ inBlk az1_0 b := disApp hf35 (disSym hx1_3) h22.ltp
  have d43 : ∀ b, inBlk v31 b → ¬ inBlk (PV po2) b := disApp hf35 (disSym hx2_3) ah2.ltp
  have ah1 := ah1.ch c34 ((fun b hb h => hx0_3 b hb h) _ rfl)
  have ah2 := ah2.ch c34 ((fun b hb h => hx2_3 b hb h) _ rfl)
  have h22 := h22.ch c34 ((fun b hb h => hx1_3 b hb h))
  have c0 := c0.then c34 (fun i hi h => (lin3_0 i h).elim (fun x => x) (fun x => absurd x (Nat.not_le_of_lt hi)))
  refine rl_storeS (u := v31) rfl rfl h33.one Tryz.sizeOf125 ah2 rfl ?_
  intro w44 s46 c45 k47
  have ad48 : ∀ b, b < w32.heap.size → ¬ (un (inBlk (PV p5)) (un (inBlk (PV po1)) (un (inBlk az1_0) (un (inBlk (PV po2)) (un (inBlk v31) S2))))) b → ¬ (inBlk (PV po2)) b ∧ ¬ (un (inBlk (PV p5)) (un (inBlk (PV po1)) (un (inBlk az1_0) (un (inBlk (PV po2)) (un (inBlk v31) S2))))) b := fun b _ hs => ⟨fun h => hs (.inr (.inr (.inr (.inl h)))), hs⟩
  have ah1 := ah1.ch c45 ((fun b hb h => hx0_2 b hb h) _ rfl)
  have h22 := h22.ch c45 ((fun b hb h => hx1_2 b hb h))
  have h33 := h33.st c45 (fun b hb h => d43 b hb h) ad48 (fun b h => (.inr (.inr (.inr (.inr (.inl h))))))
  have c0 := c0.then c45 (fun i hi h => (lin2_0 i h).elim (fun x => x) (fun x => absurd x (Nat.not_le_of_lt hi)))
  refine RL.nil ?_
  obtain rfl := Option.some.inj hS
  have ad49 : ∀ b, b < w44.heap.size → ¬ (un (inBlk (PV p5)) (un (inBlk (PV po1)) (un (inBlk az1_0) (un (inBlk (PV po2)) (un (inBlk v31) S2))))) b → ¬ nb b ∧ ¬ (un (inBlk (PV po1)) (un (inBlk az1_0) (un (inBlk (PV po2)) (un (inBlk v31) S2)))) b := fun b _ hs => ⟨fun x => x, fun h => hs (un_el h (fun h => (.inr (.inl h))) (fun h => un_el h (fun h => (.inr (.inr (.inl h)))) (fun h => un_el h (fun h => (.inr (.inr (.inr (.inl h))))) (fun h => un_el h (fun h => (.inr (.inr (.inr (.inr (.inl h)))))) (fun h => (.inr (.inr (.inr (.inr (.inr h))))))))))⟩
  have crf : Ch nb w44 w44 := Ch.refl
  have ah1 := ah1.ch0 crf
  have h22 := h22.ch0 crf
  have h33 := h33.st crf (fun _ _ x => x) ad49 (fun b h => (.inr (.inr (.inr (.inl h)))))
  have k47 := k47.ch0 crf
  have c0 := c0.then0 crf
  exact ⟨[], trivial, ⟨az1_0, v31, rfl, ah1, h22, k47, h33, lin1_0, lin39, hx0_1, (disSym d41), hx1_2, (disSym d42), (disSym d43), c0⟩⟩
 have hS := ifF q19 hS
 refine CW.skip ?_
 obtain rfl := Option.some.inj hS
 have ad50 : ∀ b, b < w14.heap.size → ¬ (un (inBlk (PV p5)) (un (inBlk (PV po1)) (un (inBlk az1_0) (un (inBlk (PV po2)) (un (inBlk az2_0) S2))))) b → ¬ nb b ∧ ¬ (un (inBlk (PV po1)) (un (inBlk az1_0) (un (inBlk (PV po2)) (un (inBlk az2_0) S2)))) b := fun b _ hs => ⟨fun x => x, fun h => hs (un_el h (fun h => (.inr (.inl h))) (fun h => un_el h (fun h => (.inr (.inr (.inl h)))) (fun h => un_el h (fun h => (.inr (.inr (.inr (.inl h))))) (fun h => un_el h (fun h => (.inr (.inr (.inr (.inr (.inl h)))))) (fun h => (.inr (.inr (.inr (.inr (.inr h))))))))))⟩
 have crf : Ch nb w14 w14 := Ch.refl
 have ah1 := ah1.ch0 crf
 have ah1_0 := ah1_0.ch0 crf
 have ah2 := ah2.ch0 crf
 have ah2_0 := ah2_0.st crf (fun _ _ x => x) ad50 (fun b h => (.inr (.inr (.inr (.inl h)))))
 have c0 := c0.then0 crf
 exact ⟨[], trivial, ⟨az1_0, az2_0, rfl, ah1, ah1_0, ah2, ah2_0, lin1_0, lin3_0, hx0_1, hx0_3, hx1_2, hx1_3, hx2_3, c0⟩⟩
/-- (lb/pick.Want).matches -/
theorem ctr72 (F : Nat → Prop) (w : World) (a0 : Want) (a1 : Port) (r : Bool) (hs : F72_matches a0 a1 = r) :
    Ret Tryz.prog 72 #[(Value.agg (Want.enc a0).toArray), (Value.agg (Port.enc a1).toArray)] w fun v w' => v = (Value.bool r) ∧ Ch nb w w' := by
 have hS := hs
 have c0 : Ch nb w w := Ch.refl
 refine Ret.of (n := 17) (args := [_, _]) (rs := [.tmp 4]) Tryz.func72 rfl rfl rfl rfl ?_
 refine CW.seq (CW.region ?_)
 refine rl_boxA (cs := (Want.enc a0)) rfl rfl ?_
 intro p1 w2 n3 k4
 have c0 := c0.then0 n3.ch
 refine rl_boxA (cs := (Port.enc a1)) rfl rfl ?_
 intro p5 w6 n7 k8
 have k4 := k4.ch0 n7.ch
 have c0 := c0.then0 n7.ch
 refine rl_assign rfl rfl ?_
 refine RL.nil (thn_n (CW.seq (CW.region ?_)))
 refine rl_fieldAddr rfl fa78_0 rfl ?_
 refine rl_loadS (v := (Value.string a1.name)) rfl Tryz.isAgg9 (k8.cell rfl) rfl ?_
 refine rl_fieldAddr rfl fa92_0 rfl ?_
 refine rl_loadS (v := (Value.string a0.name)) rfl Tryz.isAgg9 (k4.cell rfl) rfl ?_
 refine rl_bin rfl rfl B.eqlS rfl ?_
 refine rl_move rfl rfl ?_
 obtain ⟨b11, hb12⟩ : ∃ v, ((decide (a1.name = a0.name)) && (decide (a1.proto = a0.proto))) = v := ⟨_, rfl⟩
 have hS := ltS hb12 hS
 refine RL.join 6 16 (.bool b11) (fun w' => Ch nb w6 w') ?_ ?_
 · rcases Bool.eq_false_or_eq_true (decide (a1.name = a0.name)) with hg10 | hg10
   ·
    have hs9 := and_t hg10 hb12
    have cs : Ch nb w6 w6 := Ch.refl
    refine RL.yes rfl rfl rfl hg10 ?_
    refine rl_fieldAddr rfl fa78_1 rfl ?_
    refine RL.yes rfl rfl rfl hg10 ?_
    refine rl_loadS (v := (Value.int .i64 a1.proto)) rfl Tryz.isAgg3 (k8.cell rfl) rfl ?_
    refine RL.yes rfl rfl rfl hg10 ?_
    refine rl_fieldAddr rfl fa92_1 rfl ?_
    refine RL.yes rfl rfl rfl hg10 ?_
    refine rl_loadS (v := (Value.int .i64 a0.proto)) rfl Tryz.isAgg3 (k4.cell rfl) rfl ?_
    refine RL.yes rfl rfl rfl hg10 ?_
    refine rl_bin rfl rfl B.eql rfl ?_
    refine rl_pickT rfl hg10 rfl rfl ?_
    exact RL.nil ⟨Ext.bothEq (congrArg Value.bool hs9) (Ext.skip rfl (Ext.skip rfl (Ext.skip rfl (Ext.skip rfl (Ext.skip rfl (Ext.rfl')))))), cs⟩
   ·
    have hs9 := and_f hg10 hb12
    have cs : Ch nb w6 w6 := Ch.refl
    refine RL.no rfl rfl rfl hg10 rfl rfl ?_
    refine RL.no rfl rfl rfl hg10 rfl rfl ?_
    refine RL.no rfl rfl rfl hg10 rfl rfl ?_
    refine RL.no rfl rfl rfl hg10 rfl rfl ?_
    refine RL.no rfl rfl rfl hg10 rfl rfl ?_
    refine rl_pickF rfl hg10 rfl rfl ?_
    exact RL.nil ⟨Ext.bothEq (congrArg Value.bool hs9) (Ext.skip rfl (Ext.skip rfl (Ext.skip rfl (Ext.skip rfl (Ext.skip rfl (Ext.rfl')))))), cs⟩
 intro w13 c14
 have c0 := c0.then0 c14
 refine rl_assign rfl rfl ?_
 refine RL.nil (thn_n (CW.ret ?_))
 obtain rfl := hS
 exact ret1 rfl ⟨rfl, c0⟩
/-- slices.Clone[[]string,string] -/
theorem ctr98 (F : Nat → Prop) (w : World) (a0 : (List ByteArray)) (av0 : Value) (ah0 : slRep kStr F w a0 av0) (r : (List ByteArray)) (hs : F98_string a0 = some r) :
    Ret Tryz.prog 98 #[av0] w fun v w' => ∃ (y0 : Value), v = y0 ∧ SlO kStr 9 F w.heap.size (inBlk y0) w' r y0 ∧ Ch nb w w' := by
 have hS := hs
 have c0 : Ch nb w w := Ch.refl
 have ah0 := slRep.enter kStr_pos ah0
 refine Ret.of (n := 8) (args := [_]) (rs := [.tmp 2]) Tryz.func98 rfl rfl rfl rfl ?_
 refine CW.seq (CW.region ?_)
 refine rl_assign rfl rfl ?_
 refine RL.nil (thn_n (CW.seq ?_))
 refine CW.seq (CW.region ?_)
 refine rl_move rfl rfl ?_
 refine rl_slNil rfl ah0 Tryz.underlying115 rfl ?_
 intro b1 n2
 refine RL.nil (thn_n ?_)
 refine CW.cond (t := b1) rfl (fun q3 => ?_) (fun q3 => ?_)
 ·
  obtain ⟨rfl, rfl⟩ := n2 q3
  refine CW.seq (CW.region ?_)
  refine rl_assign rfl rfl ?_
  refine RL.nil (thn_n (CW.ret ?_))
  refine thn_ret ?_
  obtain rfl := Option.some.inj hS
  exact ret1 rfl ⟨(Value.slice none 0 0), rfl, SlO.nil, c0⟩
 refine CW.skip ?_
 refine thn_n (CW.seq (CW.region ?_))
 refine rl_bslice (k := kStr) (F := F) (B := w.heap.size) (S := nb) ([] : List ByteArray) rfl kStr_pos Tryz.underlying115 Tryz.sizeOf9 Tryz.zeroValue9 rfl rfl trivial c0.size nbS rfl ?_
 intro v4 w5 c6 hf7 h8
 have ah0 := slRep.st kStr_pos ah0 c6 (admNew hf7 (fun _ x => x))
 have c0 := c0.then0 c6
 refine rl_move rfl rfl ?_
 obtain ⟨z17, hz18, hS⟩ := bindS hS
 have hl := (apO_get hz18).1
 refine rl_append (k := kStr) (T := 9) (F := F) (B := w.heap.size) (S := (un (inBlk v4) nb)) (S2 := nb) (fun v => (un (inBlk v) nb)) rfl rfl kStr_pos ap115 h8 ah0 (fun _ => Iff.rfl) (fun _ _ => Iff.rfl) hl c0.size (un_lt (fun b hb => (h8.lt b hb).2) nbS) rfl ?_
 intro v11 w12 h13 c14 hf15 ha16
 have c0 := c0.then c14 (fun i hi h => absurd ((fun b hb => (h8.lt b hb).1) i h) (Nat.not_le_of_lt hi))
 refine rl_assign rfl rfl ?_
 refine RL.nil (thn_n (CW.ret ?_))
 obtain rfl := Option.some.inj hS
 exact ret1 rfl ⟨v11, rfl, h13.out, c0⟩
/-- (lb/pick.Want).candidate -/
theorem ctr73 (F : Nat → Prop) (w : World) (a0 : Want) (a1 : Endpoint) (az1_0 : Value) (ah1_0 : slRep kStr F w a1.zones az1_0) (a2 : Int) (r : Candidate) (hs : F73_candidat a0 a1 a2 = some r) :
    Ret Tryz.prog 73 #[(Value.agg (Want.enc a0).toArray), (Value.agg (Endpoint.c a1 az1_0).toArray), (Value.int .i64 a2)] w fun v w' => ∃ (y0_0 : Value), v = (Value.agg (Candidate.c r y0_0).toArray) ∧ slRep kStr (fun b => F b ∨ w.heap.size ≤ b) w' r.zones y0_0 ∧ Ch nb w w' := by
 have hS := hs
 have c0 : Ch nb w w := Ch.refl
 have ah1_0 := slRep.enter kStr_pos ah1_0
 refine Ret.of (n := 31) (args := [_, _, _]) (rs := [.cell 6 129]) Tryz.func73 rfl rfl rfl rfl ?_
 refine CW.seq (CW.region ?_)
 refine rl_boxA (cs := (Want.enc a0)) rfl rfl ?_
 intro p1 w2 n3 k4
 have ah1_0 := slRep.ch kStr_pos ah1_0 n3.ch
 have c0 := c0.then0 n3.ch
 refine rl_boxA (cs := (Endpoint.c a1 az1_0)) rfl rfl ?_
 intro p5 w6 n7 k8
 have ah1_0 := slRep.ch kStr_pos ah1_0 n7.ch
 have k4 := k4.ch0 n7.ch
 have c0 := c0.then0 n7.ch
 refine rl_alloc (Candidate.c Candidate.z (Value.slice none 0 0)) Tryz.zeroValue129 rfl rfl ?_
 intro p9 w10 n11 k12
 have lo13 : ∀ b, inBlk (PV p9) b → w.heap.size ≤ b := fun b h => Nat.le_trans c0.size (n11.fresh b h)
 have ah1_0 := slRep.st kStr_pos ah1_0 n11.ch (admNew n11.fresh (fun _ x => x))
 have k4 := k4.ch0 n11.ch
 have k8 := k8.ch0 n11.ch
 have c0 := c0.then0 n11.ch
 refine RL.nil (thn_n (CW.seq ?_))
 obtain ⟨b14, hb15⟩ : ∃ y, ((!decide (a1.node = (⟨#[]⟩ : ByteArray))) && (decide (a1.node = a0.node))) = y := ⟨_, rfl⟩
 have hS := ltS hb15 hS
 obtain ⟨y18, hy19, hS⟩ := bindS hS
 refine CW.cutN (fun E' w' => ∃ (v20_23 : Value), Sub [(6, (PV p9))] E' ∧ Ch (inBlk (PV p9)) w10 w' ∧ slRep kStr (G F w.heap.size (un (inBlk (PV p9)) nb)) w' y18 v20_23 ∧ Blk w' p9 129 (Candidate.c ({ point := ({ addr := a1.addr, port := a2 } : Point), localF := b14, ready := a1.ready, serving := a1.serving, terminating := a1.terminating, zones := y18 } : Candidate) v20_23)) ?_ ?_
 ·
  rcases Bool.eq_false_or_eq_true (!decide (a1.node = (⟨#[]⟩ : ByteArray))) with hg27 | hg27
  ·
   have hs28 := and_t hg27 hb15
   refine CW.draw 23 [(none, fun fx O uu wx => uu = (PV p5)), (none, fun fx O uu wx => uu = (Value.agg (Addr.enc a1.addr).toArray)), (none, fun fx O uu wx => uu = (Value.int .i64 a2)), (none, fun fx O uu wx => uu = (Value.agg (Point.enc ({ addr := a1.addr, port := a2 } : Point)).toArray)), (none, fun fx O uu wx => uu = (Value.pointer (some ⟨p5, 17, none⟩))), (none, fun fx O uu wx => uu = (Value.string a1.node)), (none, fun fx O uu wx => uu = (Value.bool (!decide (a1.node = (⟨#[]⟩ : ByteArray))))), (none, fun fx O uu wx => uu = (Value.bool (!decide (a1.node = (⟨#[]⟩ : ByteArray))))), (none, fun fx O uu wx => uu = (Value.pointer (some ⟨p5, 17, none⟩))), (none, fun fx O uu wx => uu = (Value.string a1.node)), (none, fun fx O uu wx => uu = (Value.pointer (some ⟨p1, 5, none⟩))), (none, fun fx O uu wx => uu = (Value.string a0.node)), (none, fun fx O uu wx => uu = (Value.bool (decide (a1.node = a0.node)))), (none, fun fx O uu wx => uu = (Value.bool b14)), (none, fun fx O uu wx => uu = (Value.pointer (some ⟨p5, 18, none⟩))), (none, fun fx O uu wx => uu = (Value.bool a1.ready)), (none, fun fx O uu wx => uu = (Value.pointer (some ⟨p5, 19, none⟩))), (none, fun fx O uu wx => uu = (Value.bool a1.serving)), (none, fun fx O uu wx => uu = (Value.pointer (some ⟨p5, 20, none⟩))), (none, fun fx O uu wx => uu = (Value.bool a1.terminating)), (none, fun fx O uu wx => uu = (Value.pointer (some ⟨p5, 21, none⟩))), (none, fun fx O uu wx => uu = az1_0), (none, fun fx O uu wx => ∃ (v20 : Value), uu = v20 ∧ slRep kStr (G F w.heap.size (un (inBlk (PV p9)) nb)) wx y18 v20)] [[], [0], [], [1, 2], [], [4], [5], [6], [7], [7, 8], [7], [7, 10], [7, 9, 11], [7, 12], [], [14], [], [16], [], [18], [], [20], [21]] [3, 13, 15, 17, 19, 22] nb (fun _ h => h.elim) mixed rfl rfl rfl rfl ?_ ?_
   ·
    refine Each.consS (fun fl O wk hE hN hO ck => ?_) ?_
    ·
     refine rl_fieldAddr rfl fa117_0 rfl ?_
     exact RL.nil ⟨_, rfl, Ch.refl, rfl⟩
    refine Each.consS (fun fl O wk hE hN hO ck => ?_) ?_
    ·
     have k8 := k8.ch0 ck
     refine Need.o1 rfl rfl rfl (fun _ h => h) ?_
     refine rl_loadA (cs := (Addr.enc a1.addr)) rfl Tryz.isAgg43 Tryz.sizeOf43 (k8.segAt 0 17) rfl rfl ?_
     exact RL.nil ⟨_, rfl, Ch.refl, rfl⟩
    refine Each.consS (fun fl O wk hE hN hO ck => ?_) ?_
    ·
     refine rl_move rfl rfl ?_
     exact RL.nil ⟨_, rfl, Ch.refl, rfl⟩
    refine Each.consS (fun fl O wk hE hN hO ck => ?_) ?_
    ·
     refine Need.o1 rfl rfl rfl (fun _ h => h) ?_
     refine Need.o1 rfl rfl rfl (fun _ h => h) ?_
     refine rl_build (out := (Point.enc ({ addr := a1.addr, port := a2 } : Point))) rfl pl45 Tryz.zeroValue45 rfl rfl rfl ?_
     exact RL.nil ⟨_, rfl, Ch.refl, rfl⟩
    refine Each.consS (fun fl O wk hE hN hO ck => ?_) ?_
    ·
     refine rl_fieldAddr rfl fa117_1 rfl ?_
     exact RL.nil ⟨_, rfl, Ch.refl, rfl⟩
    refine Each.consS (fun fl O wk hE hN hO ck => ?_) ?_
    ·
     have k8 := k8.ch0 ck
     refine Need.o1 rfl rfl rfl (fun _ h => h) ?_
     refine rl_loadS (v := (Value.string a1.node)) rfl Tryz.isAgg9 (k8.cell rfl) rfl ?_
     exact RL.nil ⟨_, rfl, Ch.refl, rfl⟩
    refine Each.consS (fun fl O wk hE hN hO ck => ?_) ?_
    ·
     refine Need.o1 rfl rfl rfl (fun _ h => h) ?_
     refine rl_bin rfl rfl B.neqS rfl ?_
     exact RL.nil ⟨_, rfl, Ch.refl, rfl⟩
    refine Each.consS (fun fl O wk hE hN hO ck => ?_) ?_
    ·
     refine Need.o1 rfl rfl rfl (fun _ h => h) ?_
     refine rl_move rfl rfl ?_
     exact RL.nil ⟨_, rfl, Ch.refl, rfl⟩
    refine Each.consS (fun fl O wk hE hN hO ck => ?_) ?_
    ·
     refine Need.o1 rfl rfl rfl (fun _ h => h) ?_
     refine RL.yes rfl rfl rfl hg27 ?_
     refine rl_fieldAddr rfl fa117_1 rfl ?_
     exact RL.nil ⟨_, rfl, Ch.refl, rfl⟩
    refine Each.consS (fun fl O wk hE hN hO ck => ?_) ?_
    ·
     have k8 := k8.ch0 ck
     refine Need.o1 rfl rfl rfl (fun _ h => h) ?_
     refine Need.o1 rfl rfl rfl (fun _ h => h) ?_
     refine RL.yes rfl rfl rfl hg27 ?_
     refine rl_loadS (v := (Value.string a1.node)) rfl Tryz.isAgg9 (k8.cell rfl) rfl ?_
     exact RL.nil ⟨_, rfl, Ch.refl, rfl⟩
    refine Each.consS (fun fl O wk hE hN hO ck => ?_) ?_
    ·
     refine Need.o1 rfl rfl rfl (fun _ h => h) ?_
     refine RL.yes rfl rfl rfl hg27 ?_
     refine rl_fieldAddr rfl fa92_5 rfl ?_
     exact RL.nil ⟨_, rfl, Ch.refl, rfl⟩
    refine Each.consS (fun fl O wk hE hN hO ck => ?_) ?_
    ·
     have k4 := k4.ch0 ck
     refine Need.o1 rfl rfl rfl (fun _ h => h) ?_
     refine Need.o1 rfl rfl rfl (fun _ h => h) ?_
     refine RL.yes rfl rfl rfl hg27 ?_
     refine rl_loadS (v := (Value.string a0.node)) rfl Tryz.isAgg9 (k4.cell rfl) rfl ?_
     exact RL.nil ⟨_, rfl, Ch.refl, rfl⟩
    refine Each.consS (fun fl O wk hE hN hO ck => ?_) ?_
    ·
     refine Need.o1 rfl rfl rfl (fun _ h => h) ?_
     refine Need.o1 rfl rfl rfl (fun _ h => h) ?_
     refine Need.o1 rfl rfl rfl (fun _ h => h) ?_
     refine RL.yes rfl rfl rfl hg27 ?_
     refine rl_bin rfl rfl B.eqlS rfl ?_
     exact RL.nil ⟨_, rfl, Ch.refl, rfl⟩
    refine Each.consS (fun fl O wk hE hN hO ck => ?_) ?_
    ·
     refine Need.o1 rfl rfl rfl (fun _ h => h) ?_
     refine Need.o1 rfl rfl rfl (fun _ h => h) ?_
     refine rl_pickT rfl hg27 rfl rfl ?_
     exact RL.nil ⟨_, rfl, Ch.refl, congrArg Value.bool hs28⟩
    refine Each.consS (fun fl O wk hE hN hO ck => ?_) ?_
    ·
     refine rl_fieldAddr rfl fa117_2 rfl ?_
     exact RL.nil ⟨_, rfl, Ch.refl, rfl⟩
    refine Each.consS (fun fl O wk hE hN hO ck => ?_) ?_
    ·
     have k8 := k8.ch0 ck
     refine Need.o1 rfl rfl rfl (fun _ h => h) ?_
     refine rl_loadS (v := (Value.bool a1.ready)) rfl Tryz.isAgg4 (k8.cell rfl) rfl ?_
     exact RL.nil ⟨_, rfl, Ch.refl, rfl⟩
    refine Each.consS (fun fl O wk hE hN hO ck => ?_) ?_
    ·
     refine rl_fieldAddr rfl fa117_3 rfl ?_
     exact RL.nil ⟨_, rfl, Ch.refl, rfl⟩
    refine Each.consS (fun fl O wk hE hN hO ck => ?_) ?_
    ·
     have k8 := k8.ch0 ck
     refine Need.o1 rfl rfl rfl (fun _ h => h) ?_
     refine rl_loadS (v := (Value.bool a1.serving)) rfl Tryz.isAgg4 (k8.cell rfl) rfl ?_
     exact RL.nil ⟨_, rfl, Ch.refl, rfl⟩
    refine Each.consS (fun fl O wk hE hN hO ck => ?_) ?_
    ·
     refine rl_fieldAddr rfl fa117_4 rfl ?_
     exact RL.nil ⟨_, rfl, Ch.refl, rfl⟩
    refine Each.consS (fun fl O wk hE hN hO ck => ?_) ?_
    ·
     have k8 := k8.ch0 ck
     refine Need.o1 rfl rfl rfl (fun _ h => h) ?_
     refine rl_loadS (v := (Value.bool a1.terminating)) rfl Tryz.isAgg4 (k8.cell rfl) rfl ?_
     exact RL.nil ⟨_, rfl, Ch.refl, rfl⟩
    refine Each.consS (fun fl O wk hE hN hO ck => ?_) ?_
    ·
     refine rl_fieldAddr rfl fa117_5 rfl ?_
     exact RL.nil ⟨_, rfl, Ch.refl, rfl⟩
    refine Each.consS (fun fl O wk hE hN hO ck => ?_) ?_
    ·
     have k8 := k8.ch0 ck
     refine Need.o1 rfl rfl rfl (fun _ h => h) ?_
     refine rl_loadS (v := az1_0) rfl Tryz.isAgg115 (k8.cell rfl) rfl ?_
     exact RL.nil ⟨_, rfl, Ch.refl, rfl⟩
    refine Each.consA ⟨fun _ _ _ _ _ cc hh => by obtain ⟨v20, e, h21⟩ := hh; exact ⟨v20, e, slRep.ch kStr_pos h21 cc⟩, fun h => absurd rfl h, fun fl O wk hE hN hO ck => ?_⟩ ?_
    ·
     have ah1_0 := slRep.ch kStr_pos ah1_0 ck
     have k12 := k12.ch0 ck
     have c0 := c0.then0 ck
     refine Need.o1 rfl rfl rfl (fun _ h => h) ?_
     refine rl_callF rfl en98 rfl (ctr98 (G F w.heap.size (un (inBlk (PV p9)) nb)) wk a1.zones az1_0 ah1_0 y18 hy19) ?_
     rintro v53 w51 ⟨_, rfl, h54, c52⟩
     have h54 := SlO.backR kStr_pos h54 (un_lt k12.ltp nbS) c0.size
     exact RL.nil ⟨_, rfl, c52, ⟨v53, rfl, h54⟩⟩
    trivial
   intro hvO57 OpO57 O57 w55 hO58 c56 hN59
   have k12 := k12.ch0 c56
   refine Need.o1 rfl rfl rfl (fun _ h => h) ?_
   refine Need.o1 rfl rfl rfl (fun _ h => h) ?_
   refine Need.o1 rfl rfl rfl (fun _ h => h) ?_
   refine Need.o1 rfl rfl rfl (fun _ h => h) ?_
   refine Need.o1 rfl rfl rfl (fun _ h => h) ?_
   refine Need.one rfl rfl rfl ?_
   rintro _ ⟨v20, e65, h21⟩
   obtain rfl := e65.symm
   refine rl_buildC (out := (Candidate.c ({ point := ({ addr := a1.addr, port := a2 } : Point), localF := b14, ready := a1.ready, serving := a1.serving, terminating := a1.terminating, zones := y18 } : Candidate) v20)) [(0, (Point.enc ({ addr := a1.addr, port := a2 } : Point))), (1, [(Value.bool b14)]), (2, [(Value.bool a1.ready)]), (3, [(Value.bool a1.serving)]), (4, [(Value.bool a1.terminating)]), (5, [v20])] rfl (co_cons rfl (co_cons rfl (co_cons rfl (co_cons rfl (co_cons rfl (co_cons (one_toL h21.one.1) co_nil)))))) pl129 Tryz.zeroValue129 rfl rfl rfl ?_
   refine rl_storeA (vs := (Candidate.c ({ point := ({ addr := a1.addr, port := a2 } : Point), localF := b14, ready := a1.ready, serving := a1.serving, terminating := a1.terminating, zones := y18 } : Candidate) v20)) rfl rfl (Kd.one _ (show k_Candidate.rep (G F w.heap.size (un (inBlk (PV p9)) nb)) w55 ({ point := ({ addr := a1.addr, port := a2 } : Point), localF := b14, ready := a1.ready, serving := a1.serving, terminating := a1.terminating, zones := y18 } : Candidate) (Candidate.c ({ point := ({ addr := a1.addr, port := a2 } : Point), localF := b14, ready := a1.ready, serving := a1.serving, terminating := a1.terminating, zones := y18 } : Candidate) v20) from ⟨v20, rfl, h21⟩)) Tryz.sizeOf129 rfl k12 rfl ?_
   intro w66 s68 c67 k69
   have ad70 : ∀ b, b < w55.heap.size → ¬ (un (inBlk (PV p9)) nb) b → ¬ (inBlk (PV p9)) b ∧ ¬ (un (inBlk (PV p9)) nb) b := fun b _ hs => ⟨fun h => hs (.inl h), hs⟩
   have h21 := slRep.st kStr_pos h21 c67 ad70
   exact RL.nil ⟨rfl, v20, ⟨rfl, trivial⟩, ((Ch.refl.then0 c56).then c67 (fun i _ h => h)), h21, k69⟩
  have hs71 := and_f hg27 hb15
  refine CW.draw 23 [(none, fun fx O uu wx => uu = (PV p5)), (none, fun fx O uu wx => uu = (Value.agg (Addr.enc a1.addr).toArray)), (none, fun fx O uu wx => uu = (Value.int .i64 a2)), (none, fun fx O uu wx => uu = (Value.agg (Point.enc ({ addr := a1.addr, port := a2 } : Point)).toArray)), (none, fun fx O uu wx => uu = (Value.pointer (some ⟨p5, 17, none⟩))), (none, fun fx O uu wx => uu = (Value.string a1.node)), (none, fun fx O uu wx => uu = (Value.bool (!decide (a1.node = (⟨#[]⟩ : ByteArray))))), (none, fun fx O uu wx => uu = (Value.bool (!decide (a1.node = (⟨#[]⟩ : ByteArray))))), (none, fun _ O uu wx => uu = undef), (none, fun _ O uu wx => uu = undef), (none, fun _ O uu wx => uu = undef), (none, fun _ O uu wx => uu = undef), (none, fun _ O uu wx => uu = undef), (none, fun fx O uu wx => uu = (Value.bool b14)), (none, fun fx O uu wx => uu = (Value.pointer (some ⟨p5, 18, none⟩))), (none, fun fx O uu wx => uu = (Value.bool a1.ready)), (none, fun fx O uu wx => uu = (Value.pointer (some ⟨p5, 19, none⟩))), (none, fun fx O uu wx => uu = (Value.bool a1.serving)), (none, fun fx O uu wx => uu = (Value.pointer (some ⟨p5, 20, none⟩))), (none, fun fx O uu wx => uu = (Value.bool a1.terminating)), (none, fun fx O uu wx => uu = (Value.pointer (some ⟨p5, 21, none⟩))), (none, fun fx O uu wx => uu = az1_0), (none, fun fx O uu wx => ∃ (v20 : Value), uu = v20 ∧ slRep kStr (G F w.heap.size (un (inBlk (PV p9)) nb)) wx y18 v20)] [[], [0], [], [1, 2], [], [4], [5], [6], [7], [7], [7], [7], [7], [7], [], [14], [], [16], [], [18], [], [20], [21]] [3, 13, 15, 17, 19, 22] nb (fun _ h => h.elim) mixed rfl rfl rfl rfl ?_ ?_
  ·
   refine Each.consS (fun fl O wk hE hN hO ck => ?_) ?_
   ·
    refine rl_fieldAddr rfl fa117_0 rfl ?_
    exact RL.nil ⟨_, rfl, Ch.refl, rfl⟩
   refine Each.consS (fun fl O wk hE hN hO ck => ?_) ?_
   ·
    have k8 := k8.ch0 ck
    refine Need.o1 rfl rfl rfl (fun _ h => h) ?_
    refine rl_loadA (cs := (Addr.enc a1.addr)) rfl Tryz.isAgg43 Tryz.sizeOf43 (k8.segAt 0 17) rfl rfl ?_
    exact RL.nil ⟨_, rfl, Ch.refl, rfl⟩
   refine Each.consS (fun fl O wk hE hN hO ck => ?_) ?_
   ·
    refine rl_move rfl rfl ?_
    exact RL.nil ⟨_, rfl, Ch.refl, rfl⟩
   refine Each.consS (fun fl O wk hE hN hO ck => ?_) ?_
   ·
    refine Need.o1 rfl rfl rfl (fun _ h => h) ?_
    refine Need.o1 rfl rfl rfl (fun _ h => h) ?_
    refine rl_build (out := (Point.enc ({ addr := a1.addr, port := a2 } : Point))) rfl pl45 Tryz.zeroValue45 rfl rfl rfl ?_
    exact RL.nil ⟨_, rfl, Ch.refl, rfl⟩
   refine Each.consS (fun fl O wk hE hN hO ck => ?_) ?_
   ·
    refine rl_fieldAddr rfl fa117_1 rfl ?_
    exact RL.nil ⟨_, rfl, Ch.refl, rfl⟩
   refine Each.consS (fun fl O wk hE hN hO ck => ?_) ?_
   ·
    have k8 := k8.ch0 ck
    refine Need.o1 rfl rfl rfl (fun _ h => h) ?_
    refine rl_loadS (v := (Value.string a1.node)) rfl Tryz.isAgg9 (k8.cell rfl) rfl ?_
    exact RL.nil ⟨_, rfl, Ch.refl, rfl⟩
   refine Each.consS (fun fl O wk hE hN hO ck => ?_) ?_
   ·
    refine Need.o1 rfl rfl rfl (fun _ h => h) ?_
    refine rl_bin rfl rfl B.neqS rfl ?_
    exact RL.nil ⟨_, rfl, Ch.refl, rfl⟩
   refine Each.consS (fun fl O wk hE hN hO ck => ?_) ?_
   ·
    refine Need.o1 rfl rfl rfl (fun _ h => h) ?_
    refine rl_move rfl rfl ?_
    exact RL.nil ⟨_, rfl, Ch.refl, rfl⟩
   refine Each.consS (fun fl O wk hE hN hO ck => ?_) ?_
   ·
    refine Need.o1 rfl rfl rfl (fun _ h => h) ?_
    refine RL.no rfl rfl rfl hg27 rfl rfl ?_
    exact RL.nil ⟨_, rfl, Ch.refl, rfl⟩
   refine Each.consS (fun fl O wk hE hN hO ck => ?_) ?_
   ·
    refine Need.o1 rfl rfl rfl (fun _ h => h) ?_
    refine RL.no rfl rfl rfl hg27 rfl rfl ?_
    exact RL.nil ⟨_, rfl, Ch.refl, rfl⟩
   refine Each.consS (fun fl O wk hE hN hO ck => ?_) ?_
   ·
    refine Need.o1 rfl rfl rfl (fun _ h => h) ?_
    refine RL.no rfl rfl rfl hg27 rfl rfl ?_
    exact RL.nil ⟨_, rfl, Ch.refl, rfl⟩
   refine Each.consS (fun fl O wk hE hN hO ck => ?_) ?_
   ·
    refine Need.o1 rfl rfl rfl (fun _ h => h) ?_
    refine RL.no rfl rfl rfl hg27 rfl rfl ?_
    exact RL.nil ⟨_, rfl, Ch.refl, rfl⟩
   refine Each.consS (fun fl O wk hE hN hO ck => ?_) ?_
   ·
    refine Need.o1 rfl rfl rfl (fun _ h => h) ?_
    refine RL.no rfl rfl rfl hg27 rfl rfl ?_
    exact RL.nil ⟨_, rfl, Ch.refl, rfl⟩
   refine Each.consS (fun fl O wk hE hN hO ck => ?_) ?_
   ·
    refine Need.o1 rfl rfl rfl (fun _ h => h) ?_
    refine rl_pickF rfl hg27 rfl rfl ?_
    exact RL.nil ⟨_, rfl, Ch.refl, congrArg Value.bool hs71⟩
   refine Each.consS (fun fl O wk hE hN hO ck => ?_) ?_
   ·
    refine rl_fieldAddr rfl fa117_2 rfl ?_
    exact RL.nil ⟨_, rfl, Ch.refl, rfl⟩
   refine Each.consS (fun fl O wk hE hN hO ck => ?_) ?_
   ·
    have k8 := k8.ch0 ck
    refine Need.o1 rfl rfl rfl (fun _ h => h) ?_
    refine rl_loadS (v := (Value.bool a1.ready)) rfl Tryz.isAgg4 (k8.cell rfl) rfl ?_
    exact RL.nil ⟨_, rfl, Ch.refl, rfl⟩
   refine Each.consS (fun fl O wk hE hN hO ck => ?_) ?_
   ·
    refine rl_fieldAddr rfl fa117_3 rfl ?_
    exact RL.nil ⟨_, rfl, Ch.refl, rfl⟩
   refine Each.consS (fun fl O wk hE hN hO ck => ?_) ?_
   ·
    have k8 := k8.ch0 ck
    refine Need.o1 rfl rfl rfl (fun _ h => h) ?_
    refine rl_loadS (v := (Value.bool a1.serving)) rfl Tryz.isAgg4 (k8.cell rfl) rfl ?_
    exact RL.nil ⟨_, rfl, Ch.refl, rfl⟩
   refine Each.consS (fun fl O wk hE hN hO ck => ?_) ?_
   ·
    refine rl_fieldAddr rfl fa117_4 rfl ?_
    exact RL.nil ⟨_, rfl, Ch.refl, rfl⟩
   refine Each.consS (fun fl O wk hE hN hO ck => ?_) ?_
   ·
    have k8 := k8.ch0 ck
    refine Need.o1 rfl rfl rfl (fun _ h => h) ?_
    refine rl_loadS (v := (Value.bool a1.terminating)) rfl Tryz.isAgg4 (k8.cell rfl) rfl ?_
    exact RL.nil ⟨_, rfl, Ch.refl, rfl⟩
   refine Each.consS (fun fl O wk hE hN hO ck => ?_) ?_
   ·
    refine rl_fieldAddr rfl fa117_5 rfl ?_
    exact RL.nil ⟨_, rfl, Ch.refl, rfl⟩
   refine Each.consS (fun fl O wk hE hN hO ck => ?_) ?_
   ·
    have k8 := k8.ch0 ck
    refine Need.o1 rfl rfl rfl (fun _ h => h) ?_
    refine rl_loadS (v := az1_0) rfl Tryz.isAgg115 (k8.cell rfl) rfl ?_
    exact RL.nil ⟨_, rfl, Ch.refl, rfl⟩
   refine Each.consA ⟨fun _ _ _ _ _ cc hh => by obtain ⟨v20, e, h21⟩ := hh; exact ⟨v20, e, slRep.ch kStr_pos h21 cc⟩, fun h => absurd rfl h, fun fl O wk hE hN hO ck => ?_⟩ ?_
   ·
    have ah1_0 := slRep.ch kStr_pos ah1_0 ck
    have k12 := k12.ch0 ck
    have c0 := c0.then0 ck
    refine Need.o1 rfl rfl rfl (fun _ h => h) ?_
    refine rl_callF rfl en98 rfl (ctr98 (G F w.heap.size (un (inBlk (PV p9)) nb)) wk a1.zones az1_0 ah1_0 y18 hy19) ?_
    rintro v91 w89 ⟨_, rfl, h92, c90⟩
    have h92 := SlO.backR kStr_pos h92 (un_lt k12.ltp nbS) c0.size
    exact RL.nil ⟨_, rfl, c90, ⟨v91, rfl, h92⟩⟩
   trivial
  intro hvO95 OpO95 O95 w93 hO96 c94 hN97
  have k12 := k12.ch0 c94
  refine Need.o1 rfl rfl rfl (fun _ h => h) ?_
  refine Need.o1 rfl rfl rfl (fun _ h => h) ?_
  refine Need.o1 rfl rfl rfl (fun _ h => h) ?_
  refine Need.o1 rfl rfl rfl (fun _ h => h) ?_
  refine Need.o1 rfl rfl rfl (fun _ h => h) ?_
  refine Need.one rfl rfl rfl ?_
  rintro _ ⟨v20, e103, h21⟩
  obtain rfl := e103.symm
  refine rl_buildC (out := (Candidate.c ({ point := ({ addr := a1.addr, port := a2 } : Point), localF := b14, ready := a1.ready, serving := a1.serving, terminating := a1.terminating, zones := y18 } : Candidate) v20)) [(0, (Point.enc ({ addr := a1.addr, port := a2 } : Point))), (1, [(Value.bool b14)]), (2, [(Value.bool a1.ready)]), (3, [(Value.bool a1.serving)]), (4, [(Value.bool a1.terminating)]), (5, [v20])] rfl (co_cons rfl (co_cons rfl (co_cons rfl (co_cons rfl (co_cons rfl (co_cons (one_toL h21.one.1) co_nil)))))) pl129 Tryz.zeroValue129 rfl rfl rfl ?_
  refine rl_storeA (vs := (Candidate.c ({ point := ({ addr := a1.addr, port := a2 } : Point), localF := b14, ready := a1.ready, serving := a1.serving, terminating := a1.terminating, zones := y18 } : Candidate) v20)) rfl rfl (Kd.one _ (show k_Candidate.rep (G F w.heap.size (un (inBlk (PV p9)) nb)) w93 ({ point := ({ addr := a1.addr, port := a2 } : Point), localF := b14, ready := a1.ready, serving := a1.serving, terminating := a1.terminating, zones := y18 } : Candidate) (Candidate.c ({ point := ({ addr := a1.addr, port := a2 } : Point), localF := b14, ready := a1.ready, serving := a1.serving, terminating := a1.terminating, zones := y18 } : Candidate) v20) from ⟨v20, rfl, h21⟩)) Tryz.sizeOf129 rfl k12 rfl ?_
  intro w104 s106 c105 k107
  have ad108 : ∀ b, b < w93.heap.size → ¬ (un (inBlk (PV p9)) nb) b → ¬ (inBlk (PV p9)) b ∧ ¬ (un (inBlk (PV p9)) nb) b := fun b _ hs => ⟨fun h => hs (.inl h), hs⟩
  have h21 := slRep.st kStr_pos h21 c105 ad108
  exact RL.nil ⟨rfl, v20, ⟨rfl, trivial⟩, ((Ch.refl.then0 c94).then c105 (fun i _ h => h)), h21, k107⟩
 rintro _ w110 ⟨v20_23, hE109, c111, h21_23, k112⟩
 have c0 := c0.then c111 (fun i hi h => absurd (lo13 i h) (Nat.not_le_of_lt hi))
 refine thn_n (CW.sub [(6, (PV p9))] hE109 ?_)
 refine CW.ret ?_
 obtain rfl := Option.some.inj hS
 exact ⟨[_], ⟨Res1.agg (cs := (Candidate.c ({ point := ({ addr := a1.addr, port := a2 } : Point), localF := b14, ready := a1.ready, serving := a1.serving, terminating := a1.terminating, zones := y18 } : Candidate) v20_23)) rfl Tryz.isAgg129 Tryz.sizeOf129 (k112.segAt 0 23) rfl, trivial⟩, ⟨v20_23, rfl, slRep.out kStr_pos h21_23, c0⟩⟩
end Go.Proofs.YtgcneihmkkldeaaGreat
