/- The walks through the code: each call comes to its printed function. Written by a program of this session. -/
import Derived.Test.YtejkknmedebgnaaM
import Derived.Test.YtejkknmedebgnaaL
import Derived.Test.YtejkknmedebgnaaW1
namespace Go.Proofs.Ytejkknmedebgnaa
open Go K
set_option linter.unusedVariables false
/-- lb/face.Sort -/
theorem ctr14 (F : Nat → Prop) (w : World) (a0 : (List Face)) (av0 : Value) (ah0 : slRep k_Face F w a0 av0) (r : (List Face)) (hs : F14_face_Sort a0 = some r) :
    Ret Try.prog 14 #[av0] w fun v w' => ∃ (y0 : Value), v = y0 ∧ SlO k_Face 42 F w.heap.size (inBlk y0) w' r y0 ∧ Ch nb w w' := by
  have hS := hs
  have c0 : Ch nb w w := Ch.refl
  have ah0 := slRep.enter k_Face_pos ah0
  refine Ret.of (n := 10) (args := [_]) (rs := [.tmp 2]) Try.func14 rfl rfl rfl rfl ?_
  refine CW.seq (CW.region ?_)
  refine rl_assign rfl rfl ?_
  refine RL.nil ?_
  refine thn_n ?_
  refine CW.seq (CW.region ?_)
  refine rl_move rfl rfl ?_
  obtain ⟨y3, hy4, hS⟩ := bindS hS
  refine rl_callF rfl en18 rfl (ctr18 (G F w.heap.size nb) w a0 av0 ah0 y3 hy4) ?_
  rintro v5 w1 ⟨_, rfl, h6, c2⟩
  have hf7 : ∀ b, inBlk v5 b → w.heap.size ≤ b := fun b hb => (h6.lt b hb).1
  have h6 := SlO.back (S' := un (inBlk v5) nb) h6 nbS c0.size (fun _ => Or.comm)
  have ah0 := slRep.st k_Face_pos ah0 c2 (admNew hf7 (fun _ x => x))
  have c0 := c0.then0 c2
  refine rl_assign rfl rfl ?_
  refine RL.nil ?_
  refine thn_n ?_
  refine CW.seq (CW.region ?_)
  refine rl_move rfl rfl ?_
  have hd8 : ∀ b, (inBlk v5) b → ¬ nb b := fun b h => (fun b hb => fun h => h) b h
  have hS9 : (un (inBlk v5) nb) = (un (inBlk v5) nb) := rfl
  have ha10 := (show (Kd.fn2 Try.prog true true k_Face k_Face (Value.int .i64)).rep (G F w.heap.size (un (inBlk v5) nb)) w1 (fun x0 x1 => F20_face_Compare x0 x1) [(Value.func (.func 20) #[] [].toArray)] from ⟨20, [], rfl, en20, fun w' hw F' x0 x1 c0 c1 hx0 hx1 => by
      obtain rfl := hx0
      obtain rfl := hx1
      exact (ctr20 (fun b => (G F w.heap.size (un (inBlk v5) nb)) b ∨ F' b) w' x0 x1 _ rfl).mono (by rintro v w'' ⟨rfl, c⟩; exact ⟨rfl, c⟩)⟩)
  rw [hS9] at ha10
  obtain ⟨y13, hy14, hS⟩ := bindS hS
  refine rl_callF rfl en19 rfl (ctr19 F w1 w.heap.size nb c0.size nbS v5 hd8  y3 (hS9 ▸ h6) (fun x0 x1 => F20_face_Compare x0 x1) (Value.func (.func 20) #[] [].toArray) ha10 y13 hy14) ?_
  rintro _ w11 ⟨rfl, h15, c12⟩
  rw [← hS9] at h15
  have ad16 : ∀ b, b < w1.heap.size → ¬ (un (inBlk v5) nb) b → ¬ (inBlk v5) b ∧ ¬ (un (inBlk v5) nb) b := fun b _ hs => ⟨fun h => hs (.inl h), hs⟩
  have ah0 := slRep.st k_Face_pos ah0 c12 ad16
  have c0 := c0.then c12 (fun i hi h => absurd ((fun b hb => (h6.lt b hb).1) i h) (Nat.not_le_of_lt hi))
  refine RL.nil ?_
  refine thn_n ?_
  refine CW.seq (CW.region ?_)
  refine rl_move rfl rfl ?_
  have hd17 : ∀ b, (inBlk v5) b → ¬ nb b := fun b h => (fun b hb => fun h => h) b h
  have hS18 : (un (inBlk v5) nb) = (un (inBlk v5) nb) := rfl
  obtain ⟨y21, hy22, hS⟩ := bindS hS
  refine rl_callF rfl en21 rfl (ctr21 F w11 w.heap.size nb c0.size nbS v5 hd17  y13 (hS18 ▸ h15) y21 hy22) ?_
  rintro v23 w19 ⟨_, rfl, h24, hf25, c20⟩
  have ha26 : ∀ b, b < w11.heap.size → ¬ (un (inBlk v5) nb) b → ¬ inBlk v5 b ∧ ¬ (un (inBlk v23) nb) b := by rw [hS18]; exact admApp hf25
  have ah0 := slRep.st k_Face_pos ah0 c20 ha26
  have c0 := c0.then c20 (fun i hi h => absurd ((fun b hb => (h15.lt b hb).1) i h) (Nat.not_le_of_lt hi))
  refine rl_assign rfl rfl ?_
  refine RL.nil ?_
  refine thn_n ?_
  refine CW.ret ?_
  obtain rfl := Option.some.inj hS
  exact ret1 rfl ⟨v23, rfl, h24.out, c0⟩
/-- lb/face.Faces -/
theorem ctr7 (F : Nat → Prop) (w : World) (a0 : Service) (az0_0 az0_1 az0_2 az0_3 az0_4 : Value) (ah0_0 : slRep k_Addr F w a0.cluster az0_0) (ah0_1 : slRep k_Addr F w a0.external az0_1) (ah0_2 : slRep k_Addr F w a0.balancers az0_2) (ah0_3 : slRep k_Cidr F w a0.ranges az0_3) (ah0_4 : slRep k_Port F w a0.ports az0_4) (a1 : Node) (az1_0 : Value) (ah1_0 : slRep k_Addr F w a1.addrs az1_0) (r : (List Face)) (hs : F7_face_Faces a0 a1 = some r) :
    Ret Try.prog 7 #[(Value.agg (Service.c a0 az0_0 az0_1 az0_2 az0_3 az0_4).toArray), (Value.agg (Node.c a1 az1_0).toArray)] w fun v w' => ∃ (y0 : Value), v = y0 ∧ SlO k_Face 42 F w.heap.size (inBlk y0) w' r y0 ∧ Ch nb w w' := by
  have hS := hs
  have c0 : Ch nb w w := Ch.refl
  have ah0_0 := slRep.enter k_Addr_pos ah0_0
  have ah0_1 := slRep.enter k_Addr_pos ah0_1
  have ah0_2 := slRep.enter k_Addr_pos ah0_2
  have ah0_3 := slRep.enter k_Cidr_pos ah0_3
  have ah0_4 := slRep.enter k_Port_pos ah0_4
  have ah1_0 := slRep.enter k_Addr_pos ah1_0
  refine Ret.of (n := 74) (args := [_, _]) (rs := [.tmp 4]) Try.func7 rfl rfl rfl rfl ?_
  refine CW.seq (CW.region ?_)
  refine rl_boxA (cs := (Service.c a0 az0_0 az0_1 az0_2 az0_3 az0_4)) rfl rfl ?_
  intro p1 w2 n3 k4
  have gp1 : (G F w.heap.size nb) p1 := ⟨.inr (by rw [n3.eq]; exact c0.size), fun h => absurd (nbS _ h) (by rw [n3.eq]; exact Nat.lt_irrefl _)⟩
  have ah0_0 := slRep.ch k_Addr_pos ah0_0 n3.ch
  have ah0_1 := slRep.ch k_Addr_pos ah0_1 n3.ch
  have ah0_2 := slRep.ch k_Addr_pos ah0_2 n3.ch
  have ah0_3 := slRep.ch k_Cidr_pos ah0_3 n3.ch
  have ah0_4 := slRep.ch k_Port_pos ah0_4 n3.ch
  have ah1_0 := slRep.ch k_Addr_pos ah1_0 n3.ch
  have c0 := c0.then0 n3.ch
  refine rl_boxA (cs := (Node.c a1 az1_0)) rfl rfl ?_
  intro p5 w6 n7 k8
  have gp5 : (G F w.heap.size nb) p5 := ⟨.inr (by rw [n7.eq]; exact c0.size), fun h => absurd (nbS _ h) (by rw [n7.eq]; exact Nat.lt_irrefl _)⟩
  have ah0_0 := slRep.ch k_Addr_pos ah0_0 n7.ch
  have ah0_1 := slRep.ch k_Addr_pos ah0_1 n7.ch
  have ah0_2 := slRep.ch k_Addr_pos ah0_2 n7.ch
  have ah0_3 := slRep.ch k_Cidr_pos ah0_3 n7.ch
  have ah0_4 := slRep.ch k_Port_pos ah0_4 n7.ch
  have ah1_0 := slRep.ch k_Addr_pos ah1_0 n7.ch
  have k4 := k4.ch0 n7.ch
  have c0 := c0.then0 n7.ch
  refine rl_assign rfl rfl ?_
  refine RL.nil ?_
  refine thn_n ?_
  refine CW.seq (CW.region ?_)
  refine rl_makeMap (ek := (fun x => Value.agg (Place.enc x).toArray)) (ev := (fun x => Value.agg (St72.enc x).toArray)) rfl ?_
  intro p9 w10 n11 k12
  have lo13 : ∀ b, inBlk (Value.map (some p9)) b → w.heap.size ≤ b := fun b h => Nat.le_trans c0.size (n11.freshM b h)
  have ah0_0 := slRep.st k_Addr_pos ah0_0 n11.ch (admNew n11.freshM (fun _ x => x))
  have ah0_1 := slRep.st k_Addr_pos ah0_1 n11.ch (admNew n11.freshM (fun _ x => x))
  have ah0_2 := slRep.st k_Addr_pos ah0_2 n11.ch (admNew n11.freshM (fun _ x => x))
  have ah0_3 := slRep.st k_Cidr_pos ah0_3 n11.ch (admNew n11.freshM (fun _ x => x))
  have ah0_4 := slRep.st k_Port_pos ah0_4 n11.ch (admNew n11.freshM (fun _ x => x))
  have ah1_0 := slRep.st k_Addr_pos ah1_0 n11.ch (admNew n11.freshM (fun _ x => x))
  have gp1n : (G F w.heap.size (un (inBlk (Value.map (some p9))) nb)) p1 := ⟨gp1.1, ((admNew n11.freshM (fun _ x => x)) _ k4.lt gp1.2).2⟩
  have k4 := k4.ch0 n11.ch
  have gp1 := gp1n
  have gp5n : (G F w.heap.size (un (inBlk (Value.map (some p9))) nb)) p5 := ⟨gp5.1, ((admNew n11.freshM (fun _ x => x)) _ k8.lt gp5.2).2⟩
  have k8 := k8.ch0 n11.ch
  have gp5 := gp5n
  have c0 := c0.then0 n11.ch
  refine rl_buildC (out := (Row_2.c ({ seen := ([] : (List (Place × St72))), list := [] } : Row_2) (Value.map (some p9)) (Value.slice none 0 0))) [(0, [(Value.map (some p9))])] rfl (co_cons (one_toL k12.one.1) co_nil) pl59 Try.zeroValue59 rfl rfl rfl ?_
  refine rl_boxA (cs := (Row_2.c ({ seen := ([] : (List (Place × St72))), list := [] } : Row_2) (Value.map (some p9)) (Value.slice none 0 0))) rfl rfl ?_
  intro p14 w15 n16 k17
  have lo18 : ∀ b, inBlk (Value.pointer (some ⟨p14, 0, none⟩)) b → w.heap.size ≤ b := fun b h => Nat.le_trans c0.size (n16.fresh b h)
  have d19 : ∀ b, inBlk (Value.pointer (some ⟨p14, 0, none⟩)) b → ¬ inBlk (Value.map (some p9)) b := disNew n16.fresh k12.ltp
  have ah0_0 := slRep.st k_Addr_pos ah0_0 n16.ch (admNew n16.fresh (fun _ x => x))
  have ah0_1 := slRep.st k_Addr_pos ah0_1 n16.ch (admNew n16.fresh (fun _ x => x))
  have ah0_2 := slRep.st k_Addr_pos ah0_2 n16.ch (admNew n16.fresh (fun _ x => x))
  have ah0_3 := slRep.st k_Cidr_pos ah0_3 n16.ch (admNew n16.fresh (fun _ x => x))
  have ah0_4 := slRep.st k_Port_pos ah0_4 n16.ch (admNew n16.fresh (fun _ x => x))
  have ah1_0 := slRep.st k_Addr_pos ah1_0 n16.ch (admNew n16.fresh (fun _ x => x))
  have gp1n : (G F w.heap.size (un (inBlk (Value.pointer (some ⟨p14, 0, none⟩))) (un (inBlk (Value.map (some p9))) nb))) p1 := ⟨gp1.1, ((admNew n16.fresh (fun _ x => x)) _ k4.lt gp1.2).2⟩
  have k4 := k4.ch0 n16.ch
  have gp1 := gp1n
  have gp5n : (G F w.heap.size (un (inBlk (Value.pointer (some ⟨p14, 0, none⟩))) (un (inBlk (Value.map (some p9))) nb))) p5 := ⟨gp5.1, ((admNew n16.fresh (fun _ x => x)) _ k8.lt gp5.2).2⟩
  have k8 := k8.ch0 n16.ch
  have gp5 := gp5n
  have k12 := k12.ch0 n16.ch
  have c0 := c0.then0 n16.ch
  refine rl_assign rfl rfl ?_
  refine RL.nil ?_
  refine thn_n ?_
  refine CW.seq ?_
  refine CW.seq (CW.region ?_)
  refine rl_fieldAddr rfl fa28_6 rfl ?_
  refine rl_loadS (v := az0_4) rfl Try.isAgg26 (k4.cell rfl) rfl ?_
  refine rl_lenR rfl ah0_4 Try.underlying26 rfl ?_
  refine rl_move rfl rfl ?_
  refine RL.nil ?_
  refine thn_n ?_
  have d21 : ∀ b, inBlk (Value.slice none 0 0) b → ¬ inBlk (Value.pointer (some ⟨p14, 0, none⟩)) b := fun _ h => h.elim
  have d22 : ∀ b, inBlk (Value.slice none 0 0) b → ¬ inBlk (Value.map (some p9)) b := fun _ h => h.elim
  have crf : Ch nb w15 w15 := Ch.refl
  have ah0_0 := slRep.st k_Addr_pos ah0_0 crf admNil
  have ah0_1 := slRep.st k_Addr_pos ah0_1 crf admNil
  have ah0_2 := slRep.st k_Addr_pos ah0_2 crf admNil
  have ah0_3 := slRep.st k_Cidr_pos ah0_3 crf admNil
  have ah0_4 := slRep.st k_Port_pos ah0_4 crf admNil
  have ah1_0 := slRep.st k_Addr_pos ah1_0 crf admNil
  have gp1n : (G F w.heap.size (un (inBlk (Value.slice none 0 0)) (un (inBlk (Value.pointer (some ⟨p14, 0, none⟩))) (un (inBlk (Value.map (some p9))) nb)))) p1 := ⟨gp1.1, (admNil _ k4.lt gp1.2).2⟩
  have k4 := k4.ch0 crf
  have gp1 := gp1n
  have gp5n : (G F w.heap.size (un (inBlk (Value.slice none 0 0)) (un (inBlk (Value.pointer (some ⟨p14, 0, none⟩))) (un (inBlk (Value.map (some p9))) nb)))) p5 := ⟨gp5.1, (admNil _ k8.lt gp5.2).2⟩
  have k8 := k8.ch0 crf
  have gp5 := gp5n
  have k12 := k12.ch0 crf
  have k17 := k17.ch0 crf
  have c0 := c0.then0 crf
  have h20 : SlO k_Face 42 F w.heap.size (un (inBlk (Value.slice none 0 0)) (un (inBlk (Value.pointer (some ⟨p14, 0, none⟩))) (un (inBlk (Value.map (some p9))) nb))) w15 ([] : List Face) (.slice none 0 0) := SlO.nil
  obtain ⟨o40, ho41, hS⟩ := bindS hS
  refine CW.cutB (fun E' w' => ∃ (x23 : Row_2) (v24 : Value) (v26 : Value), Sub [(5, (Value.pointer (some ⟨p14, 0, none⟩)))] E' ∧ Ch nb w w' ∧ x23 = o40 ∧ slRep k_Addr (G F w.heap.size (un (inBlk v26) (un (inBlk (Value.pointer (some ⟨p14, 0, none⟩))) (un (inBlk v24) nb)))) w' a0.cluster az0_0 ∧ slRep k_Addr (G F w.heap.size (un (inBlk v26) (un (inBlk (Value.pointer (some ⟨p14, 0, none⟩))) (un (inBlk v24) nb)))) w' a0.external az0_1 ∧ slRep k_Addr (G F w.heap.size (un (inBlk v26) (un (inBlk (Value.pointer (some ⟨p14, 0, none⟩))) (un (inBlk v24) nb)))) w' a0.balancers az0_2 ∧ slRep k_Cidr (G F w.heap.size (un (inBlk v26) (un (inBlk (Value.pointer (some ⟨p14, 0, none⟩))) (un (inBlk v24) nb)))) w' a0.ranges az0_3 ∧ slRep k_Port (G F w.heap.size (un (inBlk v26) (un (inBlk (Value.pointer (some ⟨p14, 0, none⟩))) (un (inBlk v24) nb)))) w' a0.ports az0_4 ∧ slRep k_Addr (G F w.heap.size (un (inBlk v26) (un (inBlk (Value.pointer (some ⟨p14, 0, none⟩))) (un (inBlk v24) nb)))) w' a1.addrs az1_0 ∧ Blk w' p1 28 (Service.c a0 az0_0 az0_1 az0_2 az0_3 az0_4) ∧ Blk w' p5 30 (Node.c a1 az1_0) ∧ Mp (fun x => Value.agg (Place.enc x).toArray) (fun x => Value.agg (St72.enc x).toArray) w' x23.seen v24 ∧ SlO k_Face 42 F w.heap.size (un (inBlk v26) (un (inBlk (Value.pointer (some ⟨p14, 0, none⟩))) (un (inBlk v24) nb))) w' x23.list v26 ∧ Blk w' p14 59 (Row_2.c x23 v24 v26) ∧ (G F w.heap.size (un (inBlk v26) (un (inBlk (Value.pointer (some ⟨p14, 0, none⟩))) (un (inBlk v24) nb)))) p1 ∧ (G F w.heap.size (un (inBlk v26) (un (inBlk (Value.pointer (some ⟨p14, 0, none⟩))) (un (inBlk v24) nb)))) p5 ∧ (∀ b, inBlk v26 b → ¬ inBlk (Value.pointer (some ⟨p14, 0, none⟩)) b) ∧ (∀ b, inBlk v26 b → ¬ inBlk v24 b) ∧ (∀ b, inBlk (Value.pointer (some ⟨p14, 0, none⟩)) b → ¬ inBlk v24 b) ∧ (∀ b, inBlk v24 b → w.heap.size ≤ b)) ?_ ?_
  ·
   refine CW.loopS [(2, (Value.pointer (some ⟨p1, 0, none⟩))), (3, (Value.pointer (some ⟨p5, 0, none⟩))), (5, (Value.pointer (some ⟨p14, 0, none⟩))), (13, az0_4), (14, (Value.int .i64 ((a0.ports.length : Nat) : Int))), (15, (Value.int .i64 ((0 : Nat) : Int)))] ⟨rfl, rfl, rfl, rfl, rfl, rfl, trivial⟩ a0.ports.length (fun m E w' => ∃ (rest33 : List Port) (i34 : Nat) (x23 : Row_2) (v24 : Value) (v26 : Value), m = rest33.length ∧ E = [(2, (Value.pointer (some ⟨p1, 0, none⟩))), (3, (Value.pointer (some ⟨p5, 0, none⟩))), (5, (Value.pointer (some ⟨p14, 0, none⟩))), (13, az0_4), (14, (Value.int .i64 ((a0.ports.length : Nat) : Int))), (15, (Value.int .i64 ((i34 : Nat) : Int)))] ∧ Ch nb w w' ∧ At a0.ports i34 rest33 ∧ runAO (F7_face_Faces_b1 a0 a1) rest33 x23 = some o40 ∧ slRep k_Addr (G F w.heap.size (un (inBlk v26) (un (inBlk (Value.pointer (some ⟨p14, 0, none⟩))) (un (inBlk v24) nb)))) w' a0.cluster az0_0 ∧ slRep k_Addr (G F w.heap.size (un (inBlk v26) (un (inBlk (Value.pointer (some ⟨p14, 0, none⟩))) (un (inBlk v24) nb)))) w' a0.external az0_1 ∧ slRep k_Addr (G F w.heap.size (un (inBlk v26) (un (inBlk (Value.pointer (some ⟨p14, 0, none⟩))) (un (inBlk v24) nb)))) w' a0.balancers az0_2 ∧ slRep k_Cidr (G F w.heap.size (un (inBlk v26) (un (inBlk (Value.pointer (some ⟨p14, 0, none⟩))) (un (inBlk v24) nb)))) w' a0.ranges az0_3 ∧ slRep k_Port (G F w.heap.size (un (inBlk v26) (un (inBlk (Value.pointer (some ⟨p14, 0, none⟩))) (un (inBlk v24) nb)))) w' a0.ports az0_4 ∧ slRep k_Addr (G F w.heap.size (un (inBlk v26) (un (inBlk (Value.pointer (some ⟨p14, 0, none⟩))) (un (inBlk v24) nb)))) w' a1.addrs az1_0 ∧ Blk w' p1 28 (Service.c a0 az0_0 az0_1 az0_2 az0_3 az0_4) ∧ Blk w' p5 30 (Node.c a1 az1_0) ∧ Mp (fun x => Value.agg (Place.enc x).toArray) (fun x => Value.agg (St72.enc x).toArray) w' x23.seen v24 ∧ SlO k_Face 42 F w.heap.size (un (inBlk v26) (un (inBlk (Value.pointer (some ⟨p14, 0, none⟩))) (un (inBlk v24) nb))) w' x23.list v26 ∧ Blk w' p14 59 (Row_2.c x23 v24 v26) ∧ (G F w.heap.size (un (inBlk v26) (un (inBlk (Value.pointer (some ⟨p14, 0, none⟩))) (un (inBlk v24) nb)))) p1 ∧ (G F w.heap.size (un (inBlk v26) (un (inBlk (Value.pointer (some ⟨p14, 0, none⟩))) (un (inBlk v24) nb)))) p5 ∧ (∀ b, inBlk v26 b → ¬ inBlk (Value.pointer (some ⟨p14, 0, none⟩)) b) ∧ (∀ b, inBlk v26 b → ¬ inBlk v24 b) ∧ (∀ b, inBlk (Value.pointer (some ⟨p14, 0, none⟩)) b → ¬ inBlk v24 b) ∧ (∀ b, inBlk v24 b → w.heap.size ≤ b))
       ⟨a0.ports, 0, ({ seen := ([] : (List (Place × St72))), list := [] } : Row_2), (Value.map (some p9)), (Value.slice none 0 0), rfl, rfl, c0, At.start, ho41, ah0_0, ah0_1, ah0_2, ah0_3, ah0_4, ah1_0, k4, k8, k12, h20, k17, gp1, gp5, d21, d22, d19, lo13⟩ ?_
   rintro _ _ w46 ⟨rest33, i34, x23, v24, v26, rfl, rfl, c45, hat36, hL35, ah0_0, ah0_1, ah0_2, ah0_3, ah0_4, ah1_0, k4, k8, h25, h27, k28, gp1, gp5, d30, d31, d32, lo29⟩
   refine CW.seq (CW.region ?_)
   refine rl_bin rfl rfl B.lss rfl ?_
   refine RL.nil (thn_n ?_)
   refine CW.seq ?_
   refine CW.cond (t := decide (((i34 : Nat) : Int) < ((a0.ports.length : Nat) : Int))) rfl (fun q48 => ?_) (fun q48 => ?_)
   ·
    obtain ⟨x42, rest49, rfl⟩ := hat36.cons q48
    obtain ⟨q37, hq38⟩ := runAO_some hL35
    have hb39 := hq38
    refine CW.skip (thn_n ?_)
    refine CW.seq ?_
    refine CW.block ?_
    refine CW.seq (CW.region ?_)
    refine rl_ixR rfl ah0_4 rfl hat36.get Try.underlying26 Try.sizeOf55 rfl ?_
    intro p50 o51 cs52 hr53 hs54 hg55
    obtain rfl := hr53
    refine rl_loadA (cs := (Port.enc x42)) rfl Try.isAgg55 Try.sizeOf55 (hs54) rfl rfl ?_
    refine rl_alloc (Port.enc Port.z) Try.zeroValue55 rfl rfl ?_
    intro p56 w57 n58 k59
    have lo60 : ∀ b, inBlk (Value.pointer (some ⟨p56, 0, none⟩)) b → w.heap.size ≤ b := fun b h => Nat.le_trans c45.size (n58.fresh b h)
    have d61 : ∀ b, inBlk (Value.pointer (some ⟨p56, 0, none⟩)) b → ¬ inBlk v26 b := disNew n58.fresh (fun b hb => (h27.lt b hb).2)
    have d62 : ∀ b, inBlk (Value.pointer (some ⟨p56, 0, none⟩)) b → ¬ inBlk (Value.pointer (some ⟨p14, 0, none⟩)) b := disNew n58.fresh k28.ltp
    have d63 : ∀ b, inBlk (Value.pointer (some ⟨p56, 0, none⟩)) b → ¬ inBlk v24 b := disNew n58.fresh h25.ltp
    have ah0_0 := slRep.st k_Addr_pos ah0_0 n58.ch (admNew n58.fresh (fun _ x => x))
    have ah0_1 := slRep.st k_Addr_pos ah0_1 n58.ch (admNew n58.fresh (fun _ x => x))
    have ah0_2 := slRep.st k_Addr_pos ah0_2 n58.ch (admNew n58.fresh (fun _ x => x))
    have ah0_3 := slRep.st k_Cidr_pos ah0_3 n58.ch (admNew n58.fresh (fun _ x => x))
    have ah0_4 := slRep.st k_Port_pos ah0_4 n58.ch (admNew n58.fresh (fun _ x => x))
    have ah1_0 := slRep.st k_Addr_pos ah1_0 n58.ch (admNew n58.fresh (fun _ x => x))
    have gp1n : (G F w.heap.size (un (inBlk (Value.pointer (some ⟨p56, 0, none⟩))) (un (inBlk v26) (un (inBlk (Value.pointer (some ⟨p14, 0, none⟩))) (un (inBlk v24) nb))))) p1 := ⟨gp1.1, ((admNew n58.fresh (fun _ x => x)) _ k4.lt gp1.2).2⟩
    have k4 := k4.ch0 n58.ch
    have gp1 := gp1n
    have gp5n : (G F w.heap.size (un (inBlk (Value.pointer (some ⟨p56, 0, none⟩))) (un (inBlk v26) (un (inBlk (Value.pointer (some ⟨p14, 0, none⟩))) (un (inBlk v24) nb))))) p5 := ⟨gp5.1, ((admNew n58.fresh (fun _ x => x)) _ k8.lt gp5.2).2⟩
    have k8 := k8.ch0 n58.ch
    have gp5 := gp5n
    have h25 := h25.ch0 n58.ch
    have h27 := h27.st n58.ch (fun _ _ x => x) (admNew n58.fresh (fun _ x => x)) (fun b h => (.inr (.inl h)))
    have k28 := k28.ch0 n58.ch
    have c45 := c45.then0 n58.ch
    refine rl_storeA (vs := (Port.enc x42)) rfl rfl (all_one rfl) Try.sizeOf55 rfl k59 rfl ?_
    intro w64 s66 c65 k67
    have ad68 : ∀ b, b < w57.heap.size → ¬ (un (inBlk (Value.pointer (some ⟨p56, 0, none⟩))) (un (inBlk v26) (un (inBlk (Value.pointer (some ⟨p14, 0, none⟩))) (un (inBlk v24) nb)))) b → ¬ (inBlk (Value.pointer (some ⟨p56, 0, none⟩))) b ∧ ¬ (un (inBlk (Value.pointer (some ⟨p56, 0, none⟩))) (un (inBlk v26) (un (inBlk (Value.pointer (some ⟨p14, 0, none⟩))) (un (inBlk v24) nb)))) b := fun b _ hs => ⟨fun h => hs (.inl h), hs⟩
    have ah0_0 := slRep.st k_Addr_pos ah0_0 c65 ad68
    have ah0_1 := slRep.st k_Addr_pos ah0_1 c65 ad68
    have ah0_2 := slRep.st k_Addr_pos ah0_2 c65 ad68
    have ah0_3 := slRep.st k_Cidr_pos ah0_3 c65 ad68
    have ah0_4 := slRep.st k_Port_pos ah0_4 c65 ad68
    have ah1_0 := slRep.st k_Addr_pos ah1_0 c65 ad68
    have k4 := k4.ch c65 (ad68 _ k4.lt gp1.2).1
    have k8 := k8.ch c65 (ad68 _ k8.lt gp5.2).1
    have h25 := h25.ch c65 ((fun b hb h => (disSym d63) b hb h))
    have h27 := h27.st c65 (fun b hb h => (disSym d61) b hb h) ad68 (fun b h => (.inr (.inl h)))
    have k28 := k28.ch c65 ((fun b hb h => (disSym d62) b hb h) _ rfl)
    have c45 := c45.then c65 (fun i hi h => absurd (lo60 i h) (Nat.not_le_of_lt hi))
    refine RL.nil ?_
    refine thn_n ?_
    refine CW.seq (CW.region ?_)
    refine rl_fieldAddr rfl fa55_1 rfl ?_
    refine rl_loadS (v := (Value.int .i64 x42.proto)) rfl Try.isAgg3 (k67.cell rfl) rfl ?_
    refine rl_fieldAddr rfl fa55_2 rfl ?_
    refine rl_loadS (v := (Value.int .i64 x42.port)) rfl Try.isAgg3 (k67.cell rfl) rfl ?_
    refine rl_build (out := (Point.enc ({ addr := Addr.z, port := x42.port } : Point))) rfl pl40 Try.zeroValue40 rfl rfl rfl ?_
    refine rl_fieldAddr rfl fa55_0 rfl ?_
    refine rl_loadS (v := (Value.string x42.name)) rfl Try.isAgg9 (k67.cell rfl) rfl ?_
    refine rl_fieldAddr rfl fa28_7 rfl ?_
    refine rl_loadS (v := (Value.bool a0.internalLocal)) rfl Try.isAgg4 (k4.cell rfl) rfl ?_
    refine rl_build (out := (Face.enc ({ proto := x42.proto, point := ({ addr := Addr.z, port := x42.port } : Point), name := x42.name, how := 0, localF := a0.internalLocal, asked := false } : Face))) rfl pl42 Try.zeroValue42 rfl rfl rfl ?_
    refine rl_alloc (Face.enc Face.z) Try.zeroValue42 rfl rfl ?_
    intro p69 w70 n71 k72
    have lo73 : ∀ b, inBlk (Value.pointer (some ⟨p69, 0, none⟩)) b → w.heap.size ≤ b := fun b h => Nat.le_trans c45.size (n71.fresh b h)
    have d74 : ∀ b, inBlk (Value.pointer (some ⟨p69, 0, none⟩)) b → ¬ inBlk (Value.pointer (some ⟨p56, 0, none⟩)) b := disNew n71.fresh k67.ltp
    have d75 : ∀ b, inBlk (Value.pointer (some ⟨p69, 0, none⟩)) b → ¬ inBlk v26 b := disNew n71.fresh (fun b hb => (h27.lt b hb).2)
    have d76 : ∀ b, inBlk (Value.pointer (some ⟨p69, 0, none⟩)) b → ¬ inBlk (Value.pointer (some ⟨p14, 0, none⟩)) b := disNew n71.fresh k28.ltp
    have d77 : ∀ b, inBlk (Value.pointer (some ⟨p69, 0, none⟩)) b → ¬ inBlk v24 b := disNew n71.fresh h25.ltp
    have ah0_0 := slRep.st k_Addr_pos ah0_0 n71.ch (admNew n71.fresh (fun _ x => x))
    have ah0_1 := slRep.st k_Addr_pos ah0_1 n71.ch (admNew n71.fresh (fun _ x => x))
    have ah0_2 := slRep.st k_Addr_pos ah0_2 n71.ch (admNew n71.fresh (fun _ x => x))
    have ah0_3 := slRep.st k_Cidr_pos ah0_3 n71.ch (admNew n71.fresh (fun _ x => x))
    have ah0_4 := slRep.st k_Port_pos ah0_4 n71.ch (admNew n71.fresh (fun _ x => x))
    have ah1_0 := slRep.st k_Addr_pos ah1_0 n71.ch (admNew n71.fresh (fun _ x => x))
    have gp1n : (G F w.heap.size (un (inBlk (Value.pointer (some ⟨p69, 0, none⟩))) (un (inBlk (Value.pointer (some ⟨p56, 0, none⟩))) (un (inBlk v26) (un (inBlk (Value.pointer (some ⟨p14, 0, none⟩))) (un (inBlk v24) nb)))))) p1 := ⟨gp1.1, ((admNew n71.fresh (fun _ x => x)) _ k4.lt gp1.2).2⟩
    have k4 := k4.ch0 n71.ch
    have gp1 := gp1n
    have gp5n : (G F w.heap.size (un (inBlk (Value.pointer (some ⟨p69, 0, none⟩))) (un (inBlk (Value.pointer (some ⟨p56, 0, none⟩))) (un (inBlk v26) (un (inBlk (Value.pointer (some ⟨p14, 0, none⟩))) (un (inBlk v24) nb)))))) p5 := ⟨gp5.1, ((admNew n71.fresh (fun _ x => x)) _ k8.lt gp5.2).2⟩
    have k8 := k8.ch0 n71.ch
    have gp5 := gp5n
    have h25 := h25.ch0 n71.ch
    have h27 := h27.st n71.ch (fun _ _ x => x) (admNew n71.fresh (fun _ x => x)) (fun b h => (.inr (.inr (.inl h))))
    have k28 := k28.ch0 n71.ch
    have k67 := k67.ch0 n71.ch
    have c45 := c45.then0 n71.ch
    refine rl_storeA (vs := (Face.enc ({ proto := x42.proto, point := ({ addr := Addr.z, port := x42.port } : Point), name := x42.name, how := 0, localF := a0.internalLocal, asked := false } : Face))) rfl rfl (all_one rfl) Try.sizeOf42 rfl k72 rfl ?_
    intro w78 s80 c79 k81
    have ad82 : ∀ b, b < w70.heap.size → ¬ (un (inBlk (Value.pointer (some ⟨p69, 0, none⟩))) (un (inBlk (Value.pointer (some ⟨p56, 0, none⟩))) (un (inBlk v26) (un (inBlk (Value.pointer (some ⟨p14, 0, none⟩))) (un (inBlk v24) nb))))) b → ¬ (inBlk (Value.pointer (some ⟨p69, 0, none⟩))) b ∧ ¬ (un (inBlk (Value.pointer (some ⟨p69, 0, none⟩))) (un (inBlk (Value.pointer (some ⟨p56, 0, none⟩))) (un (inBlk v26) (un (inBlk (Value.pointer (some ⟨p14, 0, none⟩))) (un (inBlk v24) nb))))) b := fun b _ hs => ⟨fun h => hs (.inl h), hs⟩
    have ah0_0 := slRep.st k_Addr_pos ah0_0 c79 ad82
    have ah0_1 := slRep.st k_Addr_pos ah0_1 c79 ad82
    have ah0_2 := slRep.st k_Addr_pos ah0_2 c79 ad82
    have ah0_3 := slRep.st k_Cidr_pos ah0_3 c79 ad82
    have ah0_4 := slRep.st k_Port_pos ah0_4 c79 ad82
    have ah1_0 := slRep.st k_Addr_pos ah1_0 c79 ad82
    have k4 := k4.ch c79 (ad82 _ k4.lt gp1.2).1
    have k8 := k8.ch c79 (ad82 _ k8.lt gp5.2).1
    have h25 := h25.ch c79 ((fun b hb h => (disSym d77) b hb h))
    have h27 := h27.st c79 (fun b hb h => (disSym d75) b hb h) ad82 (fun b h => (.inr (.inr (.inl h))))
    have k28 := k28.ch c79 ((fun b hb h => (disSym d76) b hb h) _ rfl)
    have k67 := k67.ch c79 ((fun b hb h => (disSym d74) b hb h) _ rfl)
    have c45 := c45.then c79 (fun i hi h => absurd (lo73 i h) (Nat.not_le_of_lt hi))
    refine RL.nil ?_
    refine thn_n ?_
    refine CW.seq (CW.region ?_)
    refine rl_move rfl rfl ?_
    refine rl_fieldAddr rfl fa28_2 rfl ?_
    refine rl_loadS (v := az0_0) rfl Try.isAgg24 (k4.cell rfl) rfl ?_
    refine rl_loadA (cs := (Face.enc ({ proto := x42.proto, point := ({ addr := Addr.z, port := x42.port } : Point), name := x42.name, how := 0, localF := a0.internalLocal, asked := false } : Face))) rfl Try.isAgg42 Try.sizeOf42 (k81.segAt 0 23) rfl rfl ?_
    have hd83 : ∀ b, (un (inBlk (Value.pointer (some ⟨p14, 0, none⟩))) (un (inBlk v24) (inBlk v26))) b → ¬ (un (inBlk (Value.pointer (some ⟨p69, 0, none⟩))) (un (inBlk (Value.pointer (some ⟨p56, 0, none⟩))) nb)) b := fun b h => un_el h (fun h => (fun b hb => fun h => un_el h (fun h => (disSym d76) b hb h) (fun h => un_el h (fun h => (disSym d62) b hb h) (fun h => h))) b h) (fun h => un_el h (fun h => (fun b hb => fun h => un_el h (fun h => (disSym d77) b hb h) (fun h => un_el h (fun h => (disSym d63) b hb h) (fun h => h))) b h) (fun h => (fun b hb => fun h => un_el h (fun h => (disSym d75) b hb h) (fun h => un_el h (fun h => (disSym d61) b hb h) (fun h => h))) b h))
    have hS84 : (un (inBlk (Value.pointer (some ⟨p69, 0, none⟩))) (un (inBlk (Value.pointer (some ⟨p56, 0, none⟩))) (un (inBlk v26) (un (inBlk (Value.pointer (some ⟨p14, 0, none⟩))) (un (inBlk v24) nb))))) = (un (inBlk (Value.pointer (some ⟨p14, 0, none⟩))) (un (inBlk v24) (un (inBlk v26) (un (inBlk (Value.pointer (some ⟨p69, 0, none⟩))) (un (inBlk (Value.pointer (some ⟨p56, 0, none⟩))) nb))))) := funext fun b => propext ⟨fun h => un_el h (fun h => (.inr (.inr (.inr (.inl h))))) (fun h => un_el h (fun h => (.inr (.inr (.inr (.inr (.inl h)))))) (fun h => un_el h (fun h => (.inr (.inr (.inl h)))) (fun h => un_el h (fun h => (.inl h)) (fun h => un_el h (fun h => (.inr (.inl h))) (fun h => False.elim h))))), fun h => un_el h (fun h => (.inr (.inr (.inr (.inl h))))) (fun h => un_el h (fun h => (.inr (.inr (.inr (.inr (.inl h)))))) (fun h => un_el h (fun h => (.inr (.inr (.inl h)))) (fun h => un_el h (fun h => (.inl h)) (fun h => un_el h (fun h => (.inr (.inl h))) (fun h => False.elim h)))))⟩
    have ha85 := ah0_0
    rw [hS84] at ha85
    obtain ⟨y88, hy89, hb39⟩ := bindS hb39
    refine rl_callF rfl en13 rfl (ctr13 F w78 w.heap.size (un (inBlk (Value.pointer (some ⟨p69, 0, none⟩))) (un (inBlk (Value.pointer (some ⟨p56, 0, none⟩))) nb)) c45.size (un_lt k81.ltp (un_lt k67.ltp nbS)) p14 v24 v26 hd83 d32 (disSym d30) (disSym d31) x23 k28 h25 (hS84 ▸ h27) a0.cluster az0_0 ha85 ({ proto := x42.proto, point := ({ addr := Addr.z, port := x42.port } : Point), name := x42.name, how := 0, localF := a0.internalLocal, asked := false } : Face) y88 hy89) ?_
    rintro _ w86 ⟨z90, z91, rfl, h92, h93, h94, hf95, hf96, d97, d98, d99, c87⟩
    have lo100 : ∀ b, inBlk z90 b → w.heap.size ≤ b := fun b h => (hf95 b h).elim (fun h => un_el h (fun h => lo18 b h) (fun h => un_el h (fun h => lo29 b h) (fun h => (fun b hb => (h27.lt b hb).1) b h))) (Nat.le_trans c45.size)
    have d101 : ∀ b, inBlk z90 b → ¬ inBlk (Value.pointer (some ⟨p69, 0, none⟩)) b := fun b h hu => (hf95 b h).elim (fun h => un_el h (fun h => (disSym d76) b h hu) (fun h => un_el h (fun h => (disSym d77) b h hu) (fun h => (disSym d75) b h hu))) (fun h => Nat.not_le_of_lt (k81.ltp b hu) h)
    have d102 : ∀ b, inBlk z90 b → ¬ inBlk (Value.pointer (some ⟨p56, 0, none⟩)) b := fun b h hu => (hf95 b h).elim (fun h => un_el h (fun h => (disSym d62) b h hu) (fun h => un_el h (fun h => (disSym d63) b h hu) (fun h => (disSym d61) b h hu))) (fun h => Nat.not_le_of_lt (k67.ltp b hu) h)
    have lo103 : ∀ b, inBlk z91 b → w.heap.size ≤ b := fun b h => (hf96 b h).elim (fun h => un_el h (fun h => lo18 b h) (fun h => un_el h (fun h => lo29 b h) (fun h => (fun b hb => (h27.lt b hb).1) b h))) (Nat.le_trans c45.size)
    have d104 : ∀ b, inBlk z91 b → ¬ inBlk (Value.pointer (some ⟨p69, 0, none⟩)) b := fun b h hu => (hf96 b h).elim (fun h => un_el h (fun h => (disSym d76) b h hu) (fun h => un_el h (fun h => (disSym d77) b h hu) (fun h => (disSym d75) b h hu))) (fun h => Nat.not_le_of_lt (k81.ltp b hu) h)
    have d105 : ∀ b, inBlk z91 b → ¬ inBlk (Value.pointer (some ⟨p56, 0, none⟩)) b := fun b h hu => (hf96 b h).elim (fun h => un_el h (fun h => (disSym d62) b h hu) (fun h => un_el h (fun h => (disSym d63) b h hu) (fun h => (disSym d61) b h hu))) (fun h => Nat.not_le_of_lt (k67.ltp b hu) h)
    have hS106 : (un (inBlk (Value.pointer (some ⟨p69, 0, none⟩))) (un (inBlk (Value.pointer (some ⟨p56, 0, none⟩))) (un (inBlk z91) (un (inBlk (Value.pointer (some ⟨p14, 0, none⟩))) (un (inBlk z90) nb))))) = (un (inBlk (Value.pointer (some ⟨p14, 0, none⟩))) (un (inBlk z90) (un (inBlk z91) (un (inBlk (Value.pointer (some ⟨p69, 0, none⟩))) (un (inBlk (Value.pointer (some ⟨p56, 0, none⟩))) nb))))) := funext fun b => propext ⟨fun h => un_el h (fun h => (.inr (.inr (.inr (.inl h))))) (fun h => un_el h (fun h => (.inr (.inr (.inr (.inr (.inl h)))))) (fun h => un_el h (fun h => (.inr (.inr (.inl h)))) (fun h => un_el h (fun h => (.inl h)) (fun h => un_el h (fun h => (.inr (.inl h))) (fun h => False.elim h))))), fun h => un_el h (fun h => (.inr (.inr (.inr (.inl h))))) (fun h => un_el h (fun h => (.inr (.inr (.inr (.inr (.inl h)))))) (fun h => un_el h (fun h => (.inr (.inr (.inl h)))) (fun h => un_el h (fun h => (.inl h)) (fun h => un_el h (fun h => (.inr (.inl h))) (fun h => False.elim h)))))⟩
    rw [← hS106] at h94
    have ha107 : ∀ b, b < w78.heap.size → ¬ (un (inBlk (Value.pointer (some ⟨p69, 0, none⟩))) (un (inBlk (Value.pointer (some ⟨p56, 0, none⟩))) (un (inBlk v26) (un (inBlk (Value.pointer (some ⟨p14, 0, none⟩))) (un (inBlk v24) nb))))) b → ¬ (un (inBlk (Value.pointer (some ⟨p14, 0, none⟩))) (un (inBlk v24) (inBlk v26))) b ∧ ¬ (un (inBlk (Value.pointer (some ⟨p69, 0, none⟩))) (un (inBlk (Value.pointer (some ⟨p56, 0, none⟩))) (un (inBlk z91) (un (inBlk (Value.pointer (some ⟨p14, 0, none⟩))) (un (inBlk z90) nb))))) b := fun b hb hs => ⟨fun h => un_el h (fun h => hs (.inr (.inr (.inr (.inl h))))) (fun h => un_el h (fun h => hs (.inr (.inr (.inr (.inr (.inl h)))))) (fun h => hs (.inr (.inr (.inl h))))), fun h => un_el h (fun h => hs (.inl h)) (fun h => un_el h (fun h => hs (.inr (.inl h))) (fun h => un_el h (fun h => (hf96 b h).elim (fun h => un_el h (fun h => hs (.inr (.inr (.inr (.inl h))))) (fun h => un_el h (fun h => hs (.inr (.inr (.inr (.inr (.inl h)))))) (fun h => hs (.inr (.inr (.inl h)))))) (fun h => Nat.not_le_of_lt hb h)) (fun h => un_el h (fun h => hs (.inr (.inr (.inr (.inl h))))) (fun h => un_el h (fun h => (hf95 b h).elim (fun h => un_el h (fun h => hs (.inr (.inr (.inr (.inl h))))) (fun h => un_el h (fun h => hs (.inr (.inr (.inr (.inr (.inl h)))))) (fun h => hs (.inr (.inr (.inl h)))))) (fun h => Nat.not_le_of_lt hb h)) (fun h => False.elim h)))))⟩
    have ah0_0 := slRep.st k_Addr_pos ah0_0 c87 ha107
    have ah0_1 := slRep.st k_Addr_pos ah0_1 c87 ha107
    have ah0_2 := slRep.st k_Addr_pos ah0_2 c87 ha107
    have ah0_3 := slRep.st k_Cidr_pos ah0_3 c87 ha107
    have ah0_4 := slRep.st k_Port_pos ah0_4 c87 ha107
    have ah1_0 := slRep.st k_Addr_pos ah1_0 c87 ha107
    have gp1n : (G F w.heap.size (un (inBlk (Value.pointer (some ⟨p69, 0, none⟩))) (un (inBlk (Value.pointer (some ⟨p56, 0, none⟩))) (un (inBlk z91) (un (inBlk (Value.pointer (some ⟨p14, 0, none⟩))) (un (inBlk z90) nb)))))) p1 := ⟨gp1.1, (ha107 _ k4.lt gp1.2).2⟩
    have k4 := k4.ch c87 (ha107 _ k4.lt gp1.2).1
    have gp1 := gp1n
    have gp5n : (G F w.heap.size (un (inBlk (Value.pointer (some ⟨p69, 0, none⟩))) (un (inBlk (Value.pointer (some ⟨p56, 0, none⟩))) (un (inBlk z91) (un (inBlk (Value.pointer (some ⟨p14, 0, none⟩))) (un (inBlk z90) nb)))))) p5 := ⟨gp5.1, (ha107 _ k8.lt gp5.2).2⟩
    have k8 := k8.ch c87 (ha107 _ k8.lt gp5.2).1
    have gp5 := gp5n
    have k67 := k67.ch c87 ((fun b hb h => un_el h (fun h => d62 b hb h) (fun h => un_el h (fun h => d63 b hb h) (fun h => d61 b hb h))) _ rfl)
    have k81 := k81.ch c87 ((fun b hb h => un_el h (fun h => d76 b hb h) (fun h => un_el h (fun h => d77 b hb h) (fun h => d75 b hb h))) _ rfl)
    have c45 := c45.then c87 (fun i hi h => un_el h (fun h => absurd (lo18 i h) (Nat.not_le_of_lt hi)) (fun h => un_el h (fun h => absurd (lo29 i h) (Nat.not_le_of_lt hi)) (fun h => absurd ((fun b hb => (h27.lt b hb).1) i h) (Nat.not_le_of_lt hi))))
    refine RL.nil ?_
    refine thn_n ?_
    refine CW.seq ?_
    refine CW.draw 4 [(none, fun _ O uu wx => uu = (Value.pointer (some ⟨p1, 9, none⟩))), (none, fun _ O uu wx => uu = (Value.bool a0.externalLocal)), (none, fun _ O uu wx => uu = (Value.pointer (some ⟨p69, 20, none⟩))), (some true, fun hv O uu wx => hv = [undef] ∧ uu = undef ∧ O = (inBlk (Value.pointer (some ⟨p69, 0, none⟩))) ∧ Blk wx p69 42 (Face.enc ({ proto := x42.proto, point := ({ addr := Addr.z, port := x42.port } : Point), name := x42.name, how := 1, localF := a0.internalLocal, asked := false } : Face)))] [[], [0], [], [2]] [3, 1] (inBlk (Value.pointer (some ⟨p69, 0, none⟩))) (fun b h => k81.ltp b h) mixed rfl rfl rfl rfl ?_ ?_
    ·
     refine Each.consA ⟨fun _ _ _ _ _ _ h => h, fun _ _ _ _ _ _ _ _ _ _ _ h => h, fun O wk hO ck => ?_⟩ ?_
     ·
      have d118 : ∀ b, inBlk (Value.pointer (some ⟨p56, 0, none⟩)) b → ¬ O b := fun b hu ho => (hO b ho).1.elim (fun h => d74 b h hu) (fun h => Nat.not_le_of_lt (k67.ltp b hu) h)
      have d119 : ∀ b, inBlk z91 b → ¬ O b := fun b hu ho => (hO b ho).1.elim (fun h => (disSym d104) b h hu) (fun h => Nat.not_le_of_lt ((fun b hb => (h94.lt b hb).2) b hu) h)
      have d120 : ∀ b, inBlk (Value.pointer (some ⟨p14, 0, none⟩)) b → ¬ O b := fun b hu ho => (hO b ho).1.elim (fun h => d76 b h hu) (fun h => Nat.not_le_of_lt (h92.ltp b hu) h)
      have d121 : ∀ b, inBlk z90 b → ¬ O b := fun b hu ho => (hO b ho).1.elim (fun h => (disSym d101) b h hu) (fun h => Nat.not_le_of_lt (h93.ltp b hu) h)
      have ha122 : ∀ b, b < w86.heap.size → ¬ (un (inBlk (Value.pointer (some ⟨p69, 0, none⟩))) (un (inBlk (Value.pointer (some ⟨p56, 0, none⟩))) (un (inBlk z91) (un (inBlk (Value.pointer (some ⟨p14, 0, none⟩))) (un (inBlk z90) nb))))) b → ¬ (inBlk (Value.pointer (some ⟨p69, 0, none⟩))) b ∧ ¬ (un O (un (inBlk (Value.pointer (some ⟨p56, 0, none⟩))) (un (inBlk z91) (un (inBlk (Value.pointer (some ⟨p14, 0, none⟩))) (un (inBlk z90) nb))))) b := fun b hb hs => ⟨fun h => hs (.inl h), fun h => un_el h (fun ho => (hO b ho).1.elim (fun h => hs (.inl h)) (fun h => Nat.not_le_of_lt hb h)) (fun h => un_el h (fun h => hs (.inr (.inl h))) (fun h => un_el h (fun h => hs (.inr (.inr (.inl h)))) (fun h => un_el h (fun h => hs (.inr (.inr (.inr (.inl h))))) (fun h => un_el h (fun h => hs (.inr (.inr (.inr (.inr (.inl h)))))) (fun h => False.elim h)))))⟩
      have ah0_0 := slRep.st k_Addr_pos ah0_0 ck ha122
      have ah0_1 := slRep.st k_Addr_pos ah0_1 ck ha122
      have ah0_2 := slRep.st k_Addr_pos ah0_2 ck ha122
      have ah0_3 := slRep.st k_Cidr_pos ah0_3 ck ha122
      have ah0_4 := slRep.st k_Port_pos ah0_4 ck ha122
      have ah1_0 := slRep.st k_Addr_pos ah1_0 ck ha122
      have gp1n : (G F w.heap.size (un O (un (inBlk (Value.pointer (some ⟨p56, 0, none⟩))) (un (inBlk z91) (un (inBlk (Value.pointer (some ⟨p14, 0, none⟩))) (un (inBlk z90) nb)))))) p1 := ⟨gp1.1, (ha122 _ k4.lt gp1.2).2⟩
      have k4 := k4.ch ck (ha122 _ k4.lt gp1.2).1
      have gp1 := gp1n
      have gp5n : (G F w.heap.size (un O (un (inBlk (Value.pointer (some ⟨p56, 0, none⟩))) (un (inBlk z91) (un (inBlk (Value.pointer (some ⟨p14, 0, none⟩))) (un (inBlk z90) nb)))))) p5 := ⟨gp5.1, (ha122 _ k8.lt gp5.2).2⟩
      have k8 := k8.ch ck (ha122 _ k8.lt gp5.2).1
      have gp5 := gp5n
      have k67 := k67.ch ck ((fun b hb h => (disSym d74) b hb h) _ rfl)
      have h92 := h92.ch ck ((fun b hb h => (disSym d76) b hb h) _ rfl)
      have h93 := h93.ch ck ((fun b hb h => d101 b hb h))
      have h94 := h94.st ck (fun b hb h => d104 b hb h) ha122 (fun b h => (.inr (.inr (.inl h))))
      have c45 := c45.then ck (fun i hi h => absurd (lo73 i h) (Nat.not_le_of_lt hi))
      refine rl_fieldAddr rfl fa28_8 rfl ?_
      exact RL.nil ⟨_, rfl, Ch.refl, rfl⟩
     refine Each.consA ⟨fun _ _ _ _ _ _ h => h, fun _ _ _ _ _ _ _ _ _ _ _ h => h, fun O wk hO ck => ?_⟩ ?_
     ·
      have d123 : ∀ b, inBlk (Value.pointer (some ⟨p56, 0, none⟩)) b → ¬ O b := fun b hu ho => (hO b ho).1.elim (fun h => d74 b h hu) (fun h => Nat.not_le_of_lt (k67.ltp b hu) h)
      have d124 : ∀ b, inBlk z91 b → ¬ O b := fun b hu ho => (hO b ho).1.elim (fun h => (disSym d104) b h hu) (fun h => Nat.not_le_of_lt ((fun b hb => (h94.lt b hb).2) b hu) h)
      have d125 : ∀ b, inBlk (Value.pointer (some ⟨p14, 0, none⟩)) b → ¬ O b := fun b hu ho => (hO b ho).1.elim (fun h => d76 b h hu) (fun h => Nat.not_le_of_lt (h92.ltp b hu) h)
      have d126 : ∀ b, inBlk z90 b → ¬ O b := fun b hu ho => (hO b ho).1.elim (fun h => (disSym d101) b h hu) (fun h => Nat.not_le_of_lt (h93.ltp b hu) h)
      have ha127 : ∀ b, b < w86.heap.size → ¬ (un (inBlk (Value.pointer (some ⟨p69, 0, none⟩))) (un (inBlk (Value.pointer (some ⟨p56, 0, none⟩))) (un (inBlk z91) (un (inBlk (Value.pointer (some ⟨p14, 0, none⟩))) (un (inBlk z90) nb))))) b → ¬ (inBlk (Value.pointer (some ⟨p69, 0, none⟩))) b ∧ ¬ (un O (un (inBlk (Value.pointer (some ⟨p56, 0, none⟩))) (un (inBlk z91) (un (inBlk (Value.pointer (some ⟨p14, 0, none⟩))) (un (inBlk z90) nb))))) b := fun b hb hs => ⟨fun h => hs (.inl h), fun h => un_el h (fun ho => (hO b ho).1.elim (fun h => hs (.inl h)) (fun h => Nat.not_le_of_lt hb h)) (fun h => un_el h (fun h => hs (.inr (.inl h))) (fun h => un_el h (fun h => hs (.inr (.inr (.inl h)))) (fun h => un_el h (fun h => hs (.inr (.inr (.inr (.inl h))))) (fun h => un_el h (fun h => hs (.inr (.inr (.inr (.inr (.inl h)))))) (fun h => False.elim h)))))⟩
      have ah0_0 := slRep.st k_Addr_pos ah0_0 ck ha127
      have ah0_1 := slRep.st k_Addr_pos ah0_1 ck ha127
      have ah0_2 := slRep.st k_Addr_pos ah0_2 ck ha127
      have ah0_3 := slRep.st k_Cidr_pos ah0_3 ck ha127
      have ah0_4 := slRep.st k_Port_pos ah0_4 ck ha127
      have ah1_0 := slRep.st k_Addr_pos ah1_0 ck ha127
      have gp1n : (G F w.heap.size (un O (un (inBlk (Value.pointer (some ⟨p56, 0, none⟩))) (un (inBlk z91) (un (inBlk (Value.pointer (some ⟨p14, 0, none⟩))) (un (inBlk z90) nb)))))) p1 := ⟨gp1.1, (ha127 _ k4.lt gp1.2).2⟩
      have k4 := k4.ch ck (ha127 _ k4.lt gp1.2).1
      have gp1 := gp1n
      have gp5n : (G F w.heap.size (un O (un (inBlk (Value.pointer (some ⟨p56, 0, none⟩))) (un (inBlk z91) (un (inBlk (Value.pointer (some ⟨p14, 0, none⟩))) (un (inBlk z90) nb)))))) p5 := ⟨gp5.1, (ha127 _ k8.lt gp5.2).2⟩
      have k8 := k8.ch ck (ha127 _ k8.lt gp5.2).1
      have gp5 := gp5n
      have k67 := k67.ch ck ((fun b hb h => (disSym d74) b hb h) _ rfl)
      have h92 := h92.ch ck ((fun b hb h => (disSym d76) b hb h) _ rfl)
      have h93 := h93.ch ck ((fun b hb h => d101 b hb h))
      have h94 := h94.st ck (fun b hb h => d104 b hb h) ha127 (fun b h => (.inr (.inr (.inl h))))
      have c45 := c45.then ck (fun i hi h => absurd (lo73 i h) (Nat.not_le_of_lt hi))
      refine Need.one rfl rfl rfl ?_
      rintro _ e128
      obtain rfl := e128.symm
      refine rl_loadS (v := (Value.bool a0.externalLocal)) rfl Try.isAgg4 (k4.cell rfl) rfl ?_
      exact RL.nil ⟨_, rfl, Ch.refl, rfl⟩
     refine Each.consA ⟨fun _ _ _ _ _ _ h => h, fun _ _ _ _ _ _ _ _ _ _ _ h => h, fun O wk hO ck => ?_⟩ ?_
     ·
      have d129 : ∀ b, inBlk (Value.pointer (some ⟨p56, 0, none⟩)) b → ¬ O b := fun b hu ho => (hO b ho).1.elim (fun h => d74 b h hu) (fun h => Nat.not_le_of_lt (k67.ltp b hu) h)
      have d130 : ∀ b, inBlk z91 b → ¬ O b := fun b hu ho => (hO b ho).1.elim (fun h => (disSym d104) b h hu) (fun h => Nat.not_le_of_lt ((fun b hb => (h94.lt b hb).2) b hu) h)
      have d131 : ∀ b, inBlk (Value.pointer (some ⟨p14, 0, none⟩)) b → ¬ O b := fun b hu ho => (hO b ho).1.elim (fun h => d76 b h hu) (fun h => Nat.not_le_of_lt (h92.ltp b hu) h)
      have d132 : ∀ b, inBlk z90 b → ¬ O b := fun b hu ho => (hO b ho).1.elim (fun h => (disSym d101) b h hu) (fun h => Nat.not_le_of_lt (h93.ltp b hu) h)
      have ha133 : ∀ b, b < w86.heap.size → ¬ (un (inBlk (Value.pointer (some ⟨p69, 0, none⟩))) (un (inBlk (Value.pointer (some ⟨p56, 0, none⟩))) (un (inBlk z91) (un (inBlk (Value.pointer (some ⟨p14, 0, none⟩))) (un (inBlk z90) nb))))) b → ¬ (inBlk (Value.pointer (some ⟨p69, 0, none⟩))) b ∧ ¬ (un O (un (inBlk (Value.pointer (some ⟨p56, 0, none⟩))) (un (inBlk z91) (un (inBlk (Value.pointer (some ⟨p14, 0, none⟩))) (un (inBlk z90) nb))))) b := fun b hb hs => ⟨fun h => hs (.inl h), fun h => un_el h (fun ho => (hO b ho).1.elim (fun h => hs (.inl h)) (fun h => Nat.not_le_of_lt hb h)) (fun h => un_el h (fun h => hs (.inr (.inl h))) (fun h => un_el h (fun h => hs (.inr (.inr (.inl h)))) (fun h => un_el h (fun h => hs (.inr (.inr (.inr (.inl h))))) (fun h => un_el h (fun h => hs (.inr (.inr (.inr (.inr (.inl h)))))) (fun h => False.elim h)))))⟩
      have ah0_0 := slRep.st k_Addr_pos ah0_0 ck ha133
      have ah0_1 := slRep.st k_Addr_pos ah0_1 ck ha133
      have ah0_2 := slRep.st k_Addr_pos ah0_2 ck ha133
      have ah0_3 := slRep.st k_Cidr_pos ah0_3 ck ha133
      have ah0_4 := slRep.st k_Port_pos ah0_4 ck ha133
      have ah1_0 := slRep.st k_Addr_pos ah1_0 ck ha133
      have gp1n : (G F w.heap.size (un O (un (inBlk (Value.pointer (some ⟨p56, 0, none⟩))) (un (inBlk z91) (un (inBlk (Value.pointer (some ⟨p14, 0, none⟩))) (un (inBlk z90) nb)))))) p1 := ⟨gp1.1, (ha133 _ k4.lt gp1.2).2⟩
      have k4 := k4.ch ck (ha133 _ k4.lt gp1.2).1
      have gp1 := gp1n
      have gp5n : (G F w.heap.size (un O (un (inBlk (Value.pointer (some ⟨p56, 0, none⟩))) (un (inBlk z91) (un (inBlk (Value.pointer (some ⟨p14, 0, none⟩))) (un (inBlk z90) nb)))))) p5 := ⟨gp5.1, (ha133 _ k8.lt gp5.2).2⟩
      have k8 := k8.ch ck (ha133 _ k8.lt gp5.2).1
      have gp5 := gp5n
      have k67 := k67.ch ck ((fun b hb h => (disSym d74) b hb h) _ rfl)
      have h92 := h92.ch ck ((fun b hb h => (disSym d76) b hb h) _ rfl)
      have h93 := h93.ch ck ((fun b hb h => d101 b hb h))
      have h94 := h94.st ck (fun b hb h => d104 b hb h) ha133 (fun b h => (.inr (.inr (.inl h))))
      have c45 := c45.then ck (fun i hi h => absurd (lo73 i h) (Nat.not_le_of_lt hi))
      refine rl_fieldAddr rfl fa42_3 rfl ?_
      exact RL.nil ⟨_, rfl, Ch.refl, rfl⟩
     refine Each.consO ⟨fun _ O _ wx wy cc hh => by obtain ⟨eh, e, rfl, ck3_0⟩ := hh; exact ⟨eh, e, rfl, ck3_0.ch0 cc⟩, fun hv Op O wk hO ck hO0 => ?_⟩ ?_
     ·
      obtain ⟨hl, hBg⟩ := hO0 rfl
      obtain rfl := List.eq_nil_of_length_eq_zero hl
      have ah0_0 := slRep.ch k_Addr_pos ah0_0 hBg.2.1
      have ah0_1 := slRep.ch k_Addr_pos ah0_1 hBg.2.1
      have ah0_2 := slRep.ch k_Addr_pos ah0_2 hBg.2.1
      have ah0_3 := slRep.ch k_Cidr_pos ah0_3 hBg.2.1
      have ah0_4 := slRep.ch k_Port_pos ah0_4 hBg.2.1
      have ah1_0 := slRep.ch k_Addr_pos ah1_0 hBg.2.1
      have k4 := k4.ch0 hBg.2.1
      have k8 := k8.ch0 hBg.2.1
      have k67 := k67.ch0 hBg.2.1
      have k81 := k81.ch0 hBg.2.1
      have h92 := h92.ch0 hBg.2.1
      have h93 := h93.ch0 hBg.2.1
      have h94 := h94.ch0 hBg.2.1
      have c45 := c45.then0 hBg.2.1
      refine Need.one rfl rfl rfl ?_
      rintro _ e134
      obtain rfl := e134.symm
      refine rl_storeS (u := (Value.int .i64 1)) rfl rfl ⟨rfl, rfl⟩ Try.sizeOf3 k81 rfl ?_
      intro w135 s137 c136 k138
      have ad139 : ∀ b, b < wk.heap.size → ¬ (un (inBlk (Value.pointer (some ⟨p69, 0, none⟩))) (un (inBlk (Value.pointer (some ⟨p56, 0, none⟩))) (un (inBlk z91) (un (inBlk (Value.pointer (some ⟨p14, 0, none⟩))) (un (inBlk z90) nb))))) b → ¬ (inBlk (Value.pointer (some ⟨p69, 0, none⟩))) b ∧ ¬ (un (inBlk (Value.pointer (some ⟨p69, 0, none⟩))) (un (inBlk (Value.pointer (some ⟨p56, 0, none⟩))) (un (inBlk z91) (un (inBlk (Value.pointer (some ⟨p14, 0, none⟩))) (un (inBlk z90) nb))))) b := fun b _ hs => ⟨fun h => hs (.inl h), hs⟩
      have ah0_0 := slRep.st k_Addr_pos ah0_0 c136 ad139
      have ah0_1 := slRep.st k_Addr_pos ah0_1 c136 ad139
      have ah0_2 := slRep.st k_Addr_pos ah0_2 c136 ad139
      have ah0_3 := slRep.st k_Cidr_pos ah0_3 c136 ad139
      have ah0_4 := slRep.st k_Port_pos ah0_4 c136 ad139
      have ah1_0 := slRep.st k_Addr_pos ah1_0 c136 ad139
      have k4 := k4.ch c136 (ad139 _ k4.lt gp1.2).1
      have k8 := k8.ch c136 (ad139 _ k8.lt gp5.2).1
      have k67 := k67.ch c136 ((fun b hb h => (disSym d74) b hb h) _ rfl)
      have h92 := h92.ch c136 ((fun b hb h => (disSym d76) b hb h) _ rfl)
      have h93 := h93.ch c136 ((fun b hb h => d101 b hb h))
      have h94 := h94.st c136 (fun b hb h => d104 b hb h) ad139 (fun b h => (.inr (.inr (.inl h))))
      have c45 := c45.then c136 (fun i hi h => absurd (lo73 i h) (Nat.not_le_of_lt hi))
      have hb140 : ∀ b, (inBlk (Value.pointer (some ⟨p69, 0, none⟩))) b → (O b ∨ wk.heap.size ≤ b) ∧ b < w135.heap.size := fun b h => ⟨.inl ((hBg.1 b).2 (.inl h)), k138.ltp b h⟩
      exact RL.nil ⟨_, (inBlk (Value.pointer (some ⟨p69, 0, none⟩))), rfl, hb140, (c136.mono (fun b _ h => ((hBg.1 b).2 (.inl h)))), ⟨rfl, rfl, rfl, k138⟩⟩
     trivial
    ·
     intro hvO143 OpO143 O143 w141 hO144 c142 hN145
     have ol146 : ∀ b, inBlk (Value.pointer (some ⟨p56, 0, none⟩)) b → b < w86.heap.size := k67.ltp
     have ol147 : ∀ b, inBlk z91 b → b < w86.heap.size := (fun b hb => (h94.lt b hb).2)
     have ol148 : ∀ b, inBlk (Value.pointer (some ⟨p14, 0, none⟩)) b → b < w86.heap.size := h92.ltp
     have ol149 : ∀ b, inBlk z90 b → b < w86.heap.size := h93.ltp
     refine Need.hereN rfl rfl rfl rfl ?_
     rintro ⟨rfl, _, rfl, ck3_0⟩
     have d151 : ∀ b, inBlk (Value.pointer (some ⟨p69, 0, none⟩)) b → ¬ inBlk (Value.pointer (some ⟨p56, 0, none⟩)) b := fun b h hu => (hO144 b h).1.elim (fun h => d74 b h hu) (fun h => Nat.not_le_of_lt (ol146 b hu) h)
     have d152 : ∀ b, inBlk (Value.pointer (some ⟨p69, 0, none⟩)) b → ¬ inBlk z91 b := fun b h hu => (hO144 b h).1.elim (fun h => (disSym d104) b h hu) (fun h => Nat.not_le_of_lt (ol147 b hu) h)
     have d153 : ∀ b, inBlk (Value.pointer (some ⟨p69, 0, none⟩)) b → ¬ inBlk (Value.pointer (some ⟨p14, 0, none⟩)) b := fun b h hu => (hO144 b h).1.elim (fun h => d76 b h hu) (fun h => Nat.not_le_of_lt (ol148 b hu) h)
     have d154 : ∀ b, inBlk (Value.pointer (some ⟨p69, 0, none⟩)) b → ¬ inBlk z90 b := fun b h hu => (hO144 b h).1.elim (fun h => (disSym d101) b h hu) (fun h => Nat.not_le_of_lt (ol149 b hu) h)
     have ha155 : ∀ b, b < w86.heap.size → ¬ (un (inBlk (Value.pointer (some ⟨p69, 0, none⟩))) (un (inBlk (Value.pointer (some ⟨p56, 0, none⟩))) (un (inBlk z91) (un (inBlk (Value.pointer (some ⟨p14, 0, none⟩))) (un (inBlk z90) nb))))) b → ¬ (inBlk (Value.pointer (some ⟨p69, 0, none⟩))) b ∧ ¬ (un (inBlk (Value.pointer (some ⟨p69, 0, none⟩))) (un (inBlk (Value.pointer (some ⟨p56, 0, none⟩))) (un (inBlk z91) (un (inBlk (Value.pointer (some ⟨p14, 0, none⟩))) (un (inBlk z90) nb))))) b := fun b hb hs => ⟨fun h => hs (.inl h), fun h => un_el h (fun h => (hO144 b h).1.elim (fun h => hs (.inl h)) (fun h => Nat.not_le_of_lt hb h)) (fun h => un_el h (fun h => hs (.inr (.inl h))) (fun h => un_el h (fun h => hs (.inr (.inr (.inl h)))) (fun h => un_el h (fun h => hs (.inr (.inr (.inr (.inl h))))) (fun h => un_el h (fun h => hs (.inr (.inr (.inr (.inr (.inl h)))))) (fun h => False.elim h)))))⟩
     have ah0_0 := slRep.st k_Addr_pos ah0_0 c142 ha155
     have ah0_1 := slRep.st k_Addr_pos ah0_1 c142 ha155
     have ah0_2 := slRep.st k_Addr_pos ah0_2 c142 ha155
     have ah0_3 := slRep.st k_Cidr_pos ah0_3 c142 ha155
     have ah0_4 := slRep.st k_Port_pos ah0_4 c142 ha155
     have ah1_0 := slRep.st k_Addr_pos ah1_0 c142 ha155
     have gp1n : (G F w.heap.size (un (inBlk (Value.pointer (some ⟨p69, 0, none⟩))) (un (inBlk (Value.pointer (some ⟨p56, 0, none⟩))) (un (inBlk z91) (un (inBlk (Value.pointer (some ⟨p14, 0, none⟩))) (un (inBlk z90) nb)))))) p1 := ⟨gp1.1, (ha155 _ k4.lt gp1.2).2⟩
     have k4 := k4.ch c142 (ha155 _ k4.lt gp1.2).1
     have gp1 := gp1n
     have gp5n : (G F w.heap.size (un (inBlk (Value.pointer (some ⟨p69, 0, none⟩))) (un (inBlk (Value.pointer (some ⟨p56, 0, none⟩))) (un (inBlk z91) (un (inBlk (Value.pointer (some ⟨p14, 0, none⟩))) (un (inBlk z90) nb)))))) p5 := ⟨gp5.1, (ha155 _ k8.lt gp5.2).2⟩
     have k8 := k8.ch c142 (ha155 _ k8.lt gp5.2).1
     have gp5 := gp5n
     have k67 := k67.ch c142 ((fun b hb h => (disSym d151) b hb h) _ rfl)
     have h92 := h92.ch c142 ((fun b hb h => (disSym d153) b hb h) _ rfl)
     have h93 := h93.ch c142 ((fun b hb h => d101 b hb h))
     have h94 := h94.st c142 (fun b hb h => d104 b hb h) ha155 (fun b h => (.inr (.inr (.inl h))))
     have c45 := c45.then c142 (fun i hi h => absurd (lo73 i h) (Nat.not_le_of_lt hi))
     refine Need.one rfl rfl rfl ?_
     rintro _ e156
     obtain rfl := e156.symm
     refine rl_fieldAddr rfl fa42_4 rfl ?_
     refine rl_storeS (u := (Value.bool a0.externalLocal)) rfl rfl ⟨rfl, rfl⟩ Try.sizeOf4 ck3_0 rfl ?_
     intro w157 s159 c158 k160
     have ad161 : ∀ b, b < w141.heap.size → ¬ (un (inBlk (Value.pointer (some ⟨p69, 0, none⟩))) (un (inBlk (Value.pointer (some ⟨p56, 0, none⟩))) (un (inBlk z91) (un (inBlk (Value.pointer (some ⟨p14, 0, none⟩))) (un (inBlk z90) nb))))) b → ¬ (inBlk (Value.pointer (some ⟨p69, 0, none⟩))) b ∧ ¬ (un (inBlk (Value.pointer (some ⟨p69, 0, none⟩))) (un (inBlk (Value.pointer (some ⟨p56, 0, none⟩))) (un (inBlk z91) (un (inBlk (Value.pointer (some ⟨p14, 0, none⟩))) (un (inBlk z90) nb))))) b := fun b _ hs => ⟨fun h => hs (.inl h), hs⟩
     have ah0_0 := slRep.st k_Addr_pos ah0_0 c158 ad161
     have ah0_1 := slRep.st k_Addr_pos ah0_1 c158 ad161
     have ah0_2 := slRep.st k_Addr_pos ah0_2 c158 ad161
     have ah0_3 := slRep.st k_Cidr_pos ah0_3 c158 ad161
     have ah0_4 := slRep.st k_Port_pos ah0_4 c158 ad161
     have ah1_0 := slRep.st k_Addr_pos ah1_0 c158 ad161
     have k4 := k4.ch c158 (ad161 _ k4.lt gp1.2).1
     have k8 := k8.ch c158 (ad161 _ k8.lt gp5.2).1
     have k67 := k67.ch c158 ((fun b hb h => (disSym d151) b hb h) _ rfl)
     have h92 := h92.ch c158 ((fun b hb h => (disSym d153) b hb h) _ rfl)
     have h93 := h93.ch c158 ((fun b hb h => d101 b hb h))
     have h94 := h94.st c158 (fun b hb h => d104 b hb h) ad161 (fun b h => (.inr (.inr (.inl h))))
     have c45 := c45.then c158 (fun i hi h => absurd (lo73 i h) (Nat.not_le_of_lt hi))
     refine RL.nil ?_
     refine thn_n ?_
     refine CW.seq (CW.region ?_)
     refine rl_move rfl rfl ?_
     refine rl_fieldAddr rfl fa28_3 rfl ?_
     refine rl_loadS (v := az0_1) rfl Try.isAgg24 (k4.cell rfl) rfl ?_
     refine rl_loadA (cs := (Face.enc ({ proto := x42.proto, point := ({ addr := Addr.z, port := x42.port } : Point), name := x42.name, how := 1, localF := a0.externalLocal, asked := false } : Face))) rfl Try.isAgg42 Try.sizeOf42 (k160.segAt 0 23) rfl rfl ?_
     have hd162 : ∀ b, (un (inBlk (Value.pointer (some ⟨p14, 0, none⟩))) (un (inBlk z90) (inBlk z91))) b → ¬ (un (inBlk (Value.pointer (some ⟨p69, 0, none⟩))) (un (inBlk (Value.pointer (some ⟨p56, 0, none⟩))) nb)) b := fun b h => un_el h (fun h => (fun b hb => fun h => un_el h (fun h => (disSym d153) b hb h) (fun h => un_el h (fun h => (disSym d62) b hb h) (fun h => h))) b h) (fun h => un_el h (fun h => (fun b hb => fun h => un_el h (fun h => d101 b hb h) (fun h => un_el h (fun h => d102 b hb h) (fun h => h))) b h) (fun h => (fun b hb => fun h => un_el h (fun h => d104 b hb h) (fun h => un_el h (fun h => d105 b hb h) (fun h => h))) b h))
     have hS163 : (un (inBlk (Value.pointer (some ⟨p69, 0, none⟩))) (un (inBlk (Value.pointer (some ⟨p56, 0, none⟩))) (un (inBlk z91) (un (inBlk (Value.pointer (some ⟨p14, 0, none⟩))) (un (inBlk z90) nb))))) = (un (inBlk (Value.pointer (some ⟨p14, 0, none⟩))) (un (inBlk z90) (un (inBlk z91) (un (inBlk (Value.pointer (some ⟨p69, 0, none⟩))) (un (inBlk (Value.pointer (some ⟨p56, 0, none⟩))) nb))))) := funext fun b => propext ⟨fun h => un_el h (fun h => (.inr (.inr (.inr (.inl h))))) (fun h => un_el h (fun h => (.inr (.inr (.inr (.inr (.inl h)))))) (fun h => un_el h (fun h => (.inr (.inr (.inl h)))) (fun h => un_el h (fun h => (.inl h)) (fun h => un_el h (fun h => (.inr (.inl h))) (fun h => False.elim h))))), fun h => un_el h (fun h => (.inr (.inr (.inr (.inl h))))) (fun h => un_el h (fun h => (.inr (.inr (.inr (.inr (.inl h)))))) (fun h => un_el h (fun h => (.inr (.inr (.inl h)))) (fun h => un_el h (fun h => (.inl h)) (fun h => un_el h (fun h => (.inr (.inl h))) (fun h => False.elim h)))))⟩
     have ha164 := ah0_1
     rw [hS163] at ha164
     obtain ⟨y167, hy168, hb39⟩ := bindS hb39
     refine rl_callF rfl en13 rfl (ctr13 F w157 w.heap.size (un (inBlk (Value.pointer (some ⟨p69, 0, none⟩))) (un (inBlk (Value.pointer (some ⟨p56, 0, none⟩))) nb)) c45.size (un_lt k160.ltp (un_lt k67.ltp nbS)) p14 z90 z91 hd162 d97 d98 d99 y88 h92 h93 (hS163 ▸ h94) a0.external az0_1 ha164 ({ proto := x42.proto, point := ({ addr := Addr.z, port := x42.port } : Point), name := x42.name, how := 1, localF := a0.externalLocal, asked := false } : Face) y167 hy168) ?_
     rintro _ w165 ⟨z169, z170, rfl, h171, h172, h173, hf174, hf175, d176, d177, d178, c166⟩
     have lo179 : ∀ b, inBlk z169 b → w.heap.size ≤ b := fun b h => (hf174 b h).elim (fun h => un_el h (fun h => lo18 b h) (fun h => un_el h (fun h => lo100 b h) (fun h => lo103 b h))) (Nat.le_trans c45.size)
     have d180 : ∀ b, inBlk z169 b → ¬ inBlk (Value.pointer (some ⟨p69, 0, none⟩)) b := fun b h hu => (hf174 b h).elim (fun h => un_el h (fun h => (disSym d153) b h hu) (fun h => un_el h (fun h => d101 b h hu) (fun h => d104 b h hu))) (fun h => Nat.not_le_of_lt (k160.ltp b hu) h)
     have d181 : ∀ b, inBlk z169 b → ¬ inBlk (Value.pointer (some ⟨p56, 0, none⟩)) b := fun b h hu => (hf174 b h).elim (fun h => un_el h (fun h => (disSym d62) b h hu) (fun h => un_el h (fun h => d102 b h hu) (fun h => d105 b h hu))) (fun h => Nat.not_le_of_lt (k67.ltp b hu) h)
     have lo182 : ∀ b, inBlk z170 b → w.heap.size ≤ b := fun b h => (hf175 b h).elim (fun h => un_el h (fun h => lo18 b h) (fun h => un_el h (fun h => lo100 b h) (fun h => lo103 b h))) (Nat.le_trans c45.size)
     have d183 : ∀ b, inBlk z170 b → ¬ inBlk (Value.pointer (some ⟨p69, 0, none⟩)) b := fun b h hu => (hf175 b h).elim (fun h => un_el h (fun h => (disSym d153) b h hu) (fun h => un_el h (fun h => d101 b h hu) (fun h => d104 b h hu))) (fun h => Nat.not_le_of_lt (k160.ltp b hu) h)
     have d184 : ∀ b, inBlk z170 b → ¬ inBlk (Value.pointer (some ⟨p56, 0, none⟩)) b := fun b h hu => (hf175 b h).elim (fun h => un_el h (fun h => (disSym d62) b h hu) (fun h => un_el h (fun h => d102 b h hu) (fun h => d105 b h hu))) (fun h => Nat.not_le_of_lt (k67.ltp b hu) h)
     have hS185 : (un (inBlk (Value.pointer (some ⟨p69, 0, none⟩))) (un (inBlk (Value.pointer (some ⟨p56, 0, none⟩))) (un (inBlk z170) (un (inBlk (Value.pointer (some ⟨p14, 0, none⟩))) (un (inBlk z169) nb))))) = (un (inBlk (Value.pointer (some ⟨p14, 0, none⟩))) (un (inBlk z169) (un (inBlk z170) (un (inBlk (Value.pointer (some ⟨p69, 0, none⟩))) (un (inBlk (Value.pointer (some ⟨p56, 0, none⟩))) nb))))) := funext fun b => propext ⟨fun h => un_el h (fun h => (.inr (.inr (.inr (.inl h))))) (fun h => un_el h (fun h => (.inr (.inr (.inr (.inr (.inl h)))))) (fun h => un_el h (fun h => (.inr (.inr (.inl h)))) (fun h => un_el h (fun h => (.inl h)) (fun h => un_el h (fun h => (.inr (.inl h))) (fun h => False.elim h))))), fun h => un_el h (fun h => (.inr (.inr (.inr (.inl h))))) (fun h => un_el h (fun h => (.inr (.inr (.inr (.inr (.inl h)))))) (fun h => un_el h (fun h => (.inr (.inr (.inl h)))) (fun h => un_el h (fun h => (.inl h)) (fun h => un_el h (fun h => (.inr (.inl h))) (fun h => False.elim h)))))⟩
     rw [← hS185] at h173
     have ha186 : ∀ b, b < w157.heap.size → ¬ (un (inBlk (Value.pointer (some ⟨p69, 0, none⟩))) (un (inBlk (Value.pointer (some ⟨p56, 0, none⟩))) (un (inBlk z91) (un (inBlk (Value.pointer (some ⟨p14, 0, none⟩))) (un (inBlk z90) nb))))) b → ¬ (un (inBlk (Value.pointer (some ⟨p14, 0, none⟩))) (un (inBlk z90) (inBlk z91))) b ∧ ¬ (un (inBlk (Value.pointer (some ⟨p69, 0, none⟩))) (un (inBlk (Value.pointer (some ⟨p56, 0, none⟩))) (un (inBlk z170) (un (inBlk (Value.pointer (some ⟨p14, 0, none⟩))) (un (inBlk z169) nb))))) b := fun b hb hs => ⟨fun h => un_el h (fun h => hs (.inr (.inr (.inr (.inl h))))) (fun h => un_el h (fun h => hs (.inr (.inr (.inr (.inr (.inl h)))))) (fun h => hs (.inr (.inr (.inl h))))), fun h => un_el h (fun h => hs (.inl h)) (fun h => un_el h (fun h => hs (.inr (.inl h))) (fun h => un_el h (fun h => (hf175 b h).elim (fun h => un_el h (fun h => hs (.inr (.inr (.inr (.inl h))))) (fun h => un_el h (fun h => hs (.inr (.inr (.inr (.inr (.inl h)))))) (fun h => hs (.inr (.inr (.inl h)))))) (fun h => Nat.not_le_of_lt hb h)) (fun h => un_el h (fun h => hs (.inr (.inr (.inr (.inl h))))) (fun h => un_el h (fun h => (hf174 b h).elim (fun h => un_el h (fun h => hs (.inr (.inr (.inr (.inl h))))) (fun h => un_el h (fun h => hs (.inr (.inr (.inr (.inr (.inl h)))))) (fun h => hs (.inr (.inr (.inl h)))))) (fun h => Nat.not_le_of_lt hb h)) (fun h => False.elim h)))))⟩
     have ah0_0 := slRep.st k_Addr_pos ah0_0 c166 ha186
     have ah0_1 := slRep.st k_Addr_pos ah0_1 c166 ha186
     have ah0_2 := slRep.st k_Addr_pos ah0_2 c166 ha186
     have ah0_3 := slRep.st k_Cidr_pos ah0_3 c166 ha186
     have ah0_4 := slRep.st k_Port_pos ah0_4 c166 ha186
     have ah1_0 := slRep.st k_Addr_pos ah1_0 c166 ha186
     have gp1n : (G F w.heap.size (un (inBlk (Value.pointer (some ⟨p69, 0, none⟩))) (un (inBlk (Value.pointer (some ⟨p56, 0, none⟩))) (un (inBlk z170) (un (inBlk (Value.pointer (some ⟨p14, 0, none⟩))) (un (inBlk z169) nb)))))) p1 := ⟨gp1.1, (ha186 _ k4.lt gp1.2).2⟩
     have k4 := k4.ch c166 (ha186 _ k4.lt gp1.2).1
     have gp1 := gp1n
     have gp5n : (G F w.heap.size (un (inBlk (Value.pointer (some ⟨p69, 0, none⟩))) (un (inBlk (Value.pointer (some ⟨p56, 0, none⟩))) (un (inBlk z170) (un (inBlk (Value.pointer (some ⟨p14, 0, none⟩))) (un (inBlk z169) nb)))))) p5 := ⟨gp5.1, (ha186 _ k8.lt gp5.2).2⟩
     have k8 := k8.ch c166 (ha186 _ k8.lt gp5.2).1
     have gp5 := gp5n
     have k67 := k67.ch c166 ((fun b hb h => un_el h (fun h => d62 b hb h) (fun h => un_el h (fun h => (disSym d102) b hb h) (fun h => (disSym d105) b hb h))) _ rfl)
     have k160 := k160.ch c166 ((fun b hb h => un_el h (fun h => d153 b hb h) (fun h => un_el h (fun h => d154 b hb h) (fun h => d152 b hb h))) _ rfl)
     have c45 := c45.then c166 (fun i hi h => un_el h (fun h => absurd (lo18 i h) (Nat.not_le_of_lt hi)) (fun h => un_el h (fun h => absurd (lo100 i h) (Nat.not_le_of_lt hi)) (fun h => absurd (lo103 i h) (Nat.not_le_of_lt hi))))
     refine RL.nil ?_
     refine thn_n ?_
     refine CW.seq ?_
     refine CW.draw 6 [(none, fun _ O uu wx => uu = (Value.pointer (some ⟨p1, 6, none⟩))), (none, fun _ O uu wx => uu = az0_3), (none, fun _ O uu wx => uu = (Value.int .i64 ((a0.ranges.length : Nat) : Int))), (none, fun _ O uu wx => uu = (Value.bool (decide (((a0.ranges.length : Nat) : Int) > 0)))), (none, fun _ O uu wx => uu = (Value.pointer (some ⟨p69, 20, none⟩))), (some true, fun hv O uu wx => hv = [undef] ∧ uu = undef ∧ O = (inBlk (Value.pointer (some ⟨p69, 0, none⟩))) ∧ Blk wx p69 42 (Face.enc ({ proto := x42.proto, point := ({ addr := Addr.z, port := x42.port } : Point), name := x42.name, how := 2, localF := a0.externalLocal, asked := false } : Face)))] [[], [0], [1], [2], [], [4]] [5, 3] (inBlk (Value.pointer (some ⟨p69, 0, none⟩))) (fun b h => k160.ltp b h) mixed rfl rfl rfl rfl ?_ ?_
     ·
      refine Each.consA ⟨fun _ _ _ _ _ _ h => h, fun _ _ _ _ _ _ _ _ _ _ _ h => h, fun O wk hO ck => ?_⟩ ?_
      ·
       have d197 : ∀ b, inBlk (Value.pointer (some ⟨p56, 0, none⟩)) b → ¬ O b := fun b hu ho => (hO b ho).1.elim (fun h => d151 b h hu) (fun h => Nat.not_le_of_lt (k67.ltp b hu) h)
       have d198 : ∀ b, inBlk z170 b → ¬ O b := fun b hu ho => (hO b ho).1.elim (fun h => (disSym d183) b h hu) (fun h => Nat.not_le_of_lt ((fun b hb => (h173.lt b hb).2) b hu) h)
       have d199 : ∀ b, inBlk (Value.pointer (some ⟨p14, 0, none⟩)) b → ¬ O b := fun b hu ho => (hO b ho).1.elim (fun h => d153 b h hu) (fun h => Nat.not_le_of_lt (h171.ltp b hu) h)
       have d200 : ∀ b, inBlk z169 b → ¬ O b := fun b hu ho => (hO b ho).1.elim (fun h => (disSym d180) b h hu) (fun h => Nat.not_le_of_lt (h172.ltp b hu) h)
       have ha201 : ∀ b, b < w165.heap.size → ¬ (un (inBlk (Value.pointer (some ⟨p69, 0, none⟩))) (un (inBlk (Value.pointer (some ⟨p56, 0, none⟩))) (un (inBlk z170) (un (inBlk (Value.pointer (some ⟨p14, 0, none⟩))) (un (inBlk z169) nb))))) b → ¬ (inBlk (Value.pointer (some ⟨p69, 0, none⟩))) b ∧ ¬ (un O (un (inBlk (Value.pointer (some ⟨p56, 0, none⟩))) (un (inBlk z170) (un (inBlk (Value.pointer (some ⟨p14, 0, none⟩))) (un (inBlk z169) nb))))) b := fun b hb hs => ⟨fun h => hs (.inl h), fun h => un_el h (fun ho => (hO b ho).1.elim (fun h => hs (.inl h)) (fun h => Nat.not_le_of_lt hb h)) (fun h => un_el h (fun h => hs (.inr (.inl h))) (fun h => un_el h (fun h => hs (.inr (.inr (.inl h)))) (fun h => un_el h (fun h => hs (.inr (.inr (.inr (.inl h))))) (fun h => un_el h (fun h => hs (.inr (.inr (.inr (.inr (.inl h)))))) (fun h => False.elim h)))))⟩
       have ah0_0 := slRep.st k_Addr_pos ah0_0 ck ha201
       have ah0_1 := slRep.st k_Addr_pos ah0_1 ck ha201
       have ah0_2 := slRep.st k_Addr_pos ah0_2 ck ha201
       have ah0_3 := slRep.st k_Cidr_pos ah0_3 ck ha201
       have ah0_4 := slRep.st k_Port_pos ah0_4 ck ha201
       have ah1_0 := slRep.st k_Addr_pos ah1_0 ck ha201
       have gp1n : (G F w.heap.size (un O (un (inBlk (Value.pointer (some ⟨p56, 0, none⟩))) (un (inBlk z170) (un (inBlk (Value.pointer (some ⟨p14, 0, none⟩))) (un (inBlk z169) nb)))))) p1 := ⟨gp1.1, (ha201 _ k4.lt gp1.2).2⟩
       have k4 := k4.ch ck (ha201 _ k4.lt gp1.2).1
       have gp1 := gp1n
       have gp5n : (G F w.heap.size (un O (un (inBlk (Value.pointer (some ⟨p56, 0, none⟩))) (un (inBlk z170) (un (inBlk (Value.pointer (some ⟨p14, 0, none⟩))) (un (inBlk z169) nb)))))) p5 := ⟨gp5.1, (ha201 _ k8.lt gp5.2).2⟩
       have k8 := k8.ch ck (ha201 _ k8.lt gp5.2).1
       have gp5 := gp5n
       have k67 := k67.ch ck ((fun b hb h => (disSym d151) b hb h) _ rfl)
       have h171 := h171.ch ck ((fun b hb h => (disSym d153) b hb h) _ rfl)
       have h172 := h172.ch ck ((fun b hb h => d180 b hb h))
       have h173 := h173.st ck (fun b hb h => d183 b hb h) ha201 (fun b h => (.inr (.inr (.inl h))))
       have c45 := c45.then ck (fun i hi h => absurd (lo73 i h) (Nat.not_le_of_lt hi))
       refine rl_fieldAddr rfl fa28_5 rfl ?_
       exact RL.nil ⟨_, rfl, Ch.refl, rfl⟩
      refine Each.consA ⟨fun _ _ _ _ _ _ h => h, fun _ _ _ _ _ _ _ _ _ _ _ h => h, fun O wk hO ck => ?_⟩ ?_
      ·
       have d202 : ∀ b, inBlk (Value.pointer (some ⟨p56, 0, none⟩)) b → ¬ O b := fun b hu ho => (hO b ho).1.elim (fun h => d151 b h hu) (fun h => Nat.not_le_of_lt (k67.ltp b hu) h)
       have d203 : ∀ b, inBlk z170 b → ¬ O b := fun b hu ho => (hO b ho).1.elim (fun h => (disSym d183) b h hu) (fun h => Nat.not_le_of_lt ((fun b hb => (h173.lt b hb).2) b hu) h)
       have d204 : ∀ b, inBlk (Value.pointer (some ⟨p14, 0, none⟩)) b → ¬ O b := fun b hu ho => (hO b ho).1.elim (fun h => d153 b h hu) (fun h => Nat.not_le_of_lt (h171.ltp b hu) h)
       have d205 : ∀ b, inBlk z169 b → ¬ O b := fun b hu ho => (hO b ho).1.elim (fun h => (disSym d180) b h hu) (fun h => Nat.not_le_of_lt (h172.ltp b hu) h)
       have ha206 : ∀ b, b < w165.heap.size → ¬ (un (inBlk (Value.pointer (some ⟨p69, 0, none⟩))) (un (inBlk (Value.pointer (some ⟨p56, 0, none⟩))) (un (inBlk z170) (un (inBlk (Value.pointer (some ⟨p14, 0, none⟩))) (un (inBlk z169) nb))))) b → ¬ (inBlk (Value.pointer (some ⟨p69, 0, none⟩))) b ∧ ¬ (un O (un (inBlk (Value.pointer (some ⟨p56, 0, none⟩))) (un (inBlk z170) (un (inBlk (Value.pointer (some ⟨p14, 0, none⟩))) (un (inBlk z169) nb))))) b := fun b hb hs => ⟨fun h => hs (.inl h), fun h => un_el h (fun ho => (hO b ho).1.elim (fun h => hs (.inl h)) (fun h => Nat.not_le_of_lt hb h)) (fun h => un_el h (fun h => hs (.inr (.inl h))) (fun h => un_el h (fun h => hs (.inr (.inr (.inl h)))) (fun h => un_el h (fun h => hs (.inr (.inr (.inr (.inl h))))) (fun h => un_el h (fun h => hs (.inr (.inr (.inr (.inr (.inl h)))))) (fun h => False.elim h)))))⟩
       have ah0_0 := slRep.st k_Addr_pos ah0_0 ck ha206
       have ah0_1 := slRep.st k_Addr_pos ah0_1 ck ha206
       have ah0_2 := slRep.st k_Addr_pos ah0_2 ck ha206
       have ah0_3 := slRep.st k_Cidr_pos ah0_3 ck ha206
       have ah0_4 := slRep.st k_Port_pos ah0_4 ck ha206
       have ah1_0 := slRep.st k_Addr_pos ah1_0 ck ha206
       have gp1n : (G F w.heap.size (un O (un (inBlk (Value.pointer (some ⟨p56, 0, none⟩))) (un (inBlk z170) (un (inBlk (Value.pointer (some ⟨p14, 0, none⟩))) (un (inBlk z169) nb)))))) p1 := ⟨gp1.1, (ha206 _ k4.lt gp1.2).2⟩
       have k4 := k4.ch ck (ha206 _ k4.lt gp1.2).1
       have gp1 := gp1n
       have gp5n : (G F w.heap.size (un O (un (inBlk (Value.pointer (some ⟨p56, 0, none⟩))) (un (inBlk z170) (un (inBlk (Value.pointer (some ⟨p14, 0, none⟩))) (un (inBlk z169) nb)))))) p5 := ⟨gp5.1, (ha206 _ k8.lt gp5.2).2⟩
       have k8 := k8.ch ck (ha206 _ k8.lt gp5.2).1
       have gp5 := gp5n
       have k67 := k67.ch ck ((fun b hb h => (disSym d151) b hb h) _ rfl)
       have h171 := h171.ch ck ((fun b hb h => (disSym d153) b hb h) _ rfl)
       have h172 := h172.ch ck ((fun b hb h => d180 b hb h))
       have h173 := h173.st ck (fun b hb h => d183 b hb h) ha206 (fun b h => (.inr (.inr (.inl h))))
       have c45 := c45.then ck (fun i hi h => absurd (lo73 i h) (Nat.not_le_of_lt hi))
       refine Need.one rfl rfl rfl ?_
       rintro _ e207
       obtain rfl := e207.symm
       refine rl_loadS (v := az0_3) rfl Try.isAgg25 (k4.cell rfl) rfl ?_
       exact RL.nil ⟨_, rfl, Ch.refl, rfl⟩
      refine Each.consA ⟨fun _ _ _ _ _ _ h => h, fun _ _ _ _ _ _ _ _ _ _ _ h => h, fun O wk hO ck => ?_⟩ ?_
      ·
       have d208 : ∀ b, inBlk (Value.pointer (some ⟨p56, 0, none⟩)) b → ¬ O b := fun b hu ho => (hO b ho).1.elim (fun h => d151 b h hu) (fun h => Nat.not_le_of_lt (k67.ltp b hu) h)
       have d209 : ∀ b, inBlk z170 b → ¬ O b := fun b hu ho => (hO b ho).1.elim (fun h => (disSym d183) b h hu) (fun h => Nat.not_le_of_lt ((fun b hb => (h173.lt b hb).2) b hu) h)
       have d210 : ∀ b, inBlk (Value.pointer (some ⟨p14, 0, none⟩)) b → ¬ O b := fun b hu ho => (hO b ho).1.elim (fun h => d153 b h hu) (fun h => Nat.not_le_of_lt (h171.ltp b hu) h)
       have d211 : ∀ b, inBlk z169 b → ¬ O b := fun b hu ho => (hO b ho).1.elim (fun h => (disSym d180) b h hu) (fun h => Nat.not_le_of_lt (h172.ltp b hu) h)
       have ha212 : ∀ b, b < w165.heap.size → ¬ (un (inBlk (Value.pointer (some ⟨p69, 0, none⟩))) (un (inBlk (Value.pointer (some ⟨p56, 0, none⟩))) (un (inBlk z170) (un (inBlk (Value.pointer (some ⟨p14, 0, none⟩))) (un (inBlk z169) nb))))) b → ¬ (inBlk (Value.pointer (some ⟨p69, 0, none⟩))) b ∧ ¬ (un O (un (inBlk (Value.pointer (some ⟨p56, 0, none⟩))) (un (inBlk z170) (un (inBlk (Value.pointer (some ⟨p14, 0, none⟩))) (un (inBlk z169) nb))))) b := fun b hb hs => ⟨fun h => hs (.inl h), fun h => un_el h (fun ho => (hO b ho).1.elim (fun h => hs (.inl h)) (fun h => Nat.not_le_of_lt hb h)) (fun h => un_el h (fun h => hs (.inr (.inl h))) (fun h => un_el h (fun h => hs (.inr (.inr (.inl h)))) (fun h => un_el h (fun h => hs (.inr (.inr (.inr (.inl h))))) (fun h => un_el h (fun h => hs (.inr (.inr (.inr (.inr (.inl h)))))) (fun h => False.elim h)))))⟩
       have ah0_0 := slRep.st k_Addr_pos ah0_0 ck ha212
       have ah0_1 := slRep.st k_Addr_pos ah0_1 ck ha212
       have ah0_2 := slRep.st k_Addr_pos ah0_2 ck ha212
       have ah0_3 := slRep.st k_Cidr_pos ah0_3 ck ha212
       have ah0_4 := slRep.st k_Port_pos ah0_4 ck ha212
       have ah1_0 := slRep.st k_Addr_pos ah1_0 ck ha212
       have gp1n : (G F w.heap.size (un O (un (inBlk (Value.pointer (some ⟨p56, 0, none⟩))) (un (inBlk z170) (un (inBlk (Value.pointer (some ⟨p14, 0, none⟩))) (un (inBlk z169) nb)))))) p1 := ⟨gp1.1, (ha212 _ k4.lt gp1.2).2⟩
       have k4 := k4.ch ck (ha212 _ k4.lt gp1.2).1
       have gp1 := gp1n
       have gp5n : (G F w.heap.size (un O (un (inBlk (Value.pointer (some ⟨p56, 0, none⟩))) (un (inBlk z170) (un (inBlk (Value.pointer (some ⟨p14, 0, none⟩))) (un (inBlk z169) nb)))))) p5 := ⟨gp5.1, (ha212 _ k8.lt gp5.2).2⟩
       have k8 := k8.ch ck (ha212 _ k8.lt gp5.2).1
       have gp5 := gp5n
       have k67 := k67.ch ck ((fun b hb h => (disSym d151) b hb h) _ rfl)
       have h171 := h171.ch ck ((fun b hb h => (disSym d153) b hb h) _ rfl)
       have h172 := h172.ch ck ((fun b hb h => d180 b hb h))
       have h173 := h173.st ck (fun b hb h => d183 b hb h) ha212 (fun b h => (.inr (.inr (.inl h))))
       have c45 := c45.then ck (fun i hi h => absurd (lo73 i h) (Nat.not_le_of_lt hi))
       refine Need.one rfl rfl rfl ?_
       rintro _ e213
       obtain rfl := e213.symm
       refine rl_lenR rfl ah0_3 Try.underlying25 rfl ?_
       exact RL.nil ⟨_, rfl, Ch.refl, rfl⟩
      refine Each.consA ⟨fun _ _ _ _ _ _ h => h, fun _ _ _ _ _ _ _ _ _ _ _ h => h, fun O wk hO ck => ?_⟩ ?_
      ·
       have d214 : ∀ b, inBlk (Value.pointer (some ⟨p56, 0, none⟩)) b → ¬ O b := fun b hu ho => (hO b ho).1.elim (fun h => d151 b h hu) (fun h => Nat.not_le_of_lt (k67.ltp b hu) h)
       have d215 : ∀ b, inBlk z170 b → ¬ O b := fun b hu ho => (hO b ho).1.elim (fun h => (disSym d183) b h hu) (fun h => Nat.not_le_of_lt ((fun b hb => (h173.lt b hb).2) b hu) h)
       have d216 : ∀ b, inBlk (Value.pointer (some ⟨p14, 0, none⟩)) b → ¬ O b := fun b hu ho => (hO b ho).1.elim (fun h => d153 b h hu) (fun h => Nat.not_le_of_lt (h171.ltp b hu) h)
       have d217 : ∀ b, inBlk z169 b → ¬ O b := fun b hu ho => (hO b ho).1.elim (fun h => (disSym d180) b h hu) (fun h => Nat.not_le_of_lt (h172.ltp b hu) h)
       have ha218 : ∀ b, b < w165.heap.size → ¬ (un (inBlk (Value.pointer (some ⟨p69, 0, none⟩))) (un (inBlk (Value.pointer (some ⟨p56, 0, none⟩))) (un (inBlk z170) (un (inBlk (Value.pointer (some ⟨p14, 0, none⟩))) (un (inBlk z169) nb))))) b → ¬ (inBlk (Value.pointer (some ⟨p69, 0, none⟩))) b ∧ ¬ (un O (un (inBlk (Value.pointer (some ⟨p56, 0, none⟩))) (un (inBlk z170) (un (inBlk (Value.pointer (some ⟨p14, 0, none⟩))) (un (inBlk z169) nb))))) b := fun b hb hs => ⟨fun h => hs (.inl h), fun h => un_el h (fun ho => (hO b ho).1.elim (fun h => hs (.inl h)) (fun h => Nat.not_le_of_lt hb h)) (fun h => un_el h (fun h => hs (.inr (.inl h))) (fun h => un_el h (fun h => hs (.inr (.inr (.inl h)))) (fun h => un_el h (fun h => hs (.inr (.inr (.inr (.inl h))))) (fun h => un_el h (fun h => hs (.inr (.inr (.inr (.inr (.inl h)))))) (fun h => False.elim h)))))⟩
       have ah0_0 := slRep.st k_Addr_pos ah0_0 ck ha218
       have ah0_1 := slRep.st k_Addr_pos ah0_1 ck ha218
       have ah0_2 := slRep.st k_Addr_pos ah0_2 ck ha218
       have ah0_3 := slRep.st k_Cidr_pos ah0_3 ck ha218
       have ah0_4 := slRep.st k_Port_pos ah0_4 ck ha218
       have ah1_0 := slRep.st k_Addr_pos ah1_0 ck ha218
       have gp1n : (G F w.heap.size (un O (un (inBlk (Value.pointer (some ⟨p56, 0, none⟩))) (un (inBlk z170) (un (inBlk (Value.pointer (some ⟨p14, 0, none⟩))) (un (inBlk z169) nb)))))) p1 := ⟨gp1.1, (ha218 _ k4.lt gp1.2).2⟩
       have k4 := k4.ch ck (ha218 _ k4.lt gp1.2).1
       have gp1 := gp1n
       have gp5n : (G F w.heap.size (un O (un (inBlk (Value.pointer (some ⟨p56, 0, none⟩))) (un (inBlk z170) (un (inBlk (Value.pointer (some ⟨p14, 0, none⟩))) (un (inBlk z169) nb)))))) p5 := ⟨gp5.1, (ha218 _ k8.lt gp5.2).2⟩
       have k8 := k8.ch ck (ha218 _ k8.lt gp5.2).1
       have gp5 := gp5n
       have k67 := k67.ch ck ((fun b hb h => (disSym d151) b hb h) _ rfl)
       have h171 := h171.ch ck ((fun b hb h => (disSym d153) b hb h) _ rfl)
       have h172 := h172.ch ck ((fun b hb h => d180 b hb h))
       have h173 := h173.st ck (fun b hb h => d183 b hb h) ha218 (fun b h => (.inr (.inr (.inl h))))
       have c45 := c45.then ck (fun i hi h => absurd (lo73 i h) (Nat.not_le_of_lt hi))
       refine Need.one rfl rfl rfl ?_
       rintro _ e219
       obtain rfl := e219.symm
       refine rl_bin rfl rfl B.gtr rfl ?_
       exact RL.nil ⟨_, rfl, Ch.refl, rfl⟩
      refine Each.consA ⟨fun _ _ _ _ _ _ h => h, fun _ _ _ _ _ _ _ _ _ _ _ h => h, fun O wk hO ck => ?_⟩ ?_
      ·
       have d220 : ∀ b, inBlk (Value.pointer (some ⟨p56, 0, none⟩)) b → ¬ O b := fun b hu ho => (hO b ho).1.elim (fun h => d151 b h hu) (fun h => Nat.not_le_of_lt (k67.ltp b hu) h)
       have d221 : ∀ b, inBlk z170 b → ¬ O b := fun b hu ho => (hO b ho).1.elim (fun h => (disSym d183) b h hu) (fun h => Nat.not_le_of_lt ((fun b hb => (h173.lt b hb).2) b hu) h)
       have d222 : ∀ b, inBlk (Value.pointer (some ⟨p14, 0, none⟩)) b → ¬ O b := fun b hu ho => (hO b ho).1.elim (fun h => d153 b h hu) (fun h => Nat.not_le_of_lt (h171.ltp b hu) h)
       have d223 : ∀ b, inBlk z169 b → ¬ O b := fun b hu ho => (hO b ho).1.elim (fun h => (disSym d180) b h hu) (fun h => Nat.not_le_of_lt (h172.ltp b hu) h)
       have ha224 : ∀ b, b < w165.heap.size → ¬ (un (inBlk (Value.pointer (some ⟨p69, 0, none⟩))) (un (inBlk (Value.pointer (some ⟨p56, 0, none⟩))) (un (inBlk z170) (un (inBlk (Value.pointer (some ⟨p14, 0, none⟩))) (un (inBlk z169) nb))))) b → ¬ (inBlk (Value.pointer (some ⟨p69, 0, none⟩))) b ∧ ¬ (un O (un (inBlk (Value.pointer (some ⟨p56, 0, none⟩))) (un (inBlk z170) (un (inBlk (Value.pointer (some ⟨p14, 0, none⟩))) (un (inBlk z169) nb))))) b := fun b hb hs => ⟨fun h => hs (.inl h), fun h => un_el h (fun ho => (hO b ho).1.elim (fun h => hs (.inl h)) (fun h => Nat.not_le_of_lt hb h)) (fun h => un_el h (fun h => hs (.inr (.inl h))) (fun h => un_el h (fun h => hs (.inr (.inr (.inl h)))) (fun h => un_el h (fun h => hs (.inr (.inr (.inr (.inl h))))) (fun h => un_el h (fun h => hs (.inr (.inr (.inr (.inr (.inl h)))))) (fun h => False.elim h)))))⟩
       have ah0_0 := slRep.st k_Addr_pos ah0_0 ck ha224
       have ah0_1 := slRep.st k_Addr_pos ah0_1 ck ha224
       have ah0_2 := slRep.st k_Addr_pos ah0_2 ck ha224
       have ah0_3 := slRep.st k_Cidr_pos ah0_3 ck ha224
       have ah0_4 := slRep.st k_Port_pos ah0_4 ck ha224
       have ah1_0 := slRep.st k_Addr_pos ah1_0 ck ha224
       have gp1n : (G F w.heap.size (un O (un (inBlk (Value.pointer (some ⟨p56, 0, none⟩))) (un (inBlk z170) (un (inBlk (Value.pointer (some ⟨p14, 0, none⟩))) (un (inBlk z169) nb)))))) p1 := ⟨gp1.1, (ha224 _ k4.lt gp1.2).2⟩
       have k4 := k4.ch ck (ha224 _ k4.lt gp1.2).1
       have gp1 := gp1n
       have gp5n : (G F w.heap.size (un O (un (inBlk (Value.pointer (some ⟨p56, 0, none⟩))) (un (inBlk z170) (un (inBlk (Value.pointer (some ⟨p14, 0, none⟩))) (un (inBlk z169) nb)))))) p5 := ⟨gp5.1, (ha224 _ k8.lt gp5.2).2⟩
       have k8 := k8.ch ck (ha224 _ k8.lt gp5.2).1
       have gp5 := gp5n
       have k67 := k67.ch ck ((fun b hb h => (disSym d151) b hb h) _ rfl)
       have h171 := h171.ch ck ((fun b hb h => (disSym d153) b hb h) _ rfl)
       have h172 := h172.ch ck ((fun b hb h => d180 b hb h))
       have h173 := h173.st ck (fun b hb h => d183 b hb h) ha224 (fun b h => (.inr (.inr (.inl h))))
       have c45 := c45.then ck (fun i hi h => absurd (lo73 i h) (Nat.not_le_of_lt hi))
       refine rl_fieldAddr rfl fa42_3 rfl ?_
       exact RL.nil ⟨_, rfl, Ch.refl, rfl⟩
      refine Each.consO ⟨fun _ O _ wx wy cc hh => by obtain ⟨eh, e, rfl, ck5_0⟩ := hh; exact ⟨eh, e, rfl, ck5_0.ch0 cc⟩, fun hv Op O wk hO ck hO0 => ?_⟩ ?_
      ·
       obtain ⟨hl, hBg⟩ := hO0 rfl
       obtain rfl := List.eq_nil_of_length_eq_zero hl
       have ah0_0 := slRep.ch k_Addr_pos ah0_0 hBg.2.1
       have ah0_1 := slRep.ch k_Addr_pos ah0_1 hBg.2.1
       have ah0_2 := slRep.ch k_Addr_pos ah0_2 hBg.2.1
       have ah0_3 := slRep.ch k_Cidr_pos ah0_3 hBg.2.1
       have ah0_4 := slRep.ch k_Port_pos ah0_4 hBg.2.1
       have ah1_0 := slRep.ch k_Addr_pos ah1_0 hBg.2.1
       have k4 := k4.ch0 hBg.2.1
       have k8 := k8.ch0 hBg.2.1
       have k67 := k67.ch0 hBg.2.1
       have k160 := k160.ch0 hBg.2.1
       have h171 := h171.ch0 hBg.2.1
       have h172 := h172.ch0 hBg.2.1
       have h173 := h173.ch0 hBg.2.1
       have c45 := c45.then0 hBg.2.1
       refine Need.one rfl rfl rfl ?_
       rintro _ e225
       obtain rfl := e225.symm
       refine rl_storeS (u := (Value.int .i64 2)) rfl rfl ⟨rfl, rfl⟩ Try.sizeOf3 k160 rfl ?_
       intro w226 s228 c227 k229
       have ad230 : ∀ b, b < wk.heap.size → ¬ (un (inBlk (Value.pointer (some ⟨p69, 0, none⟩))) (un (inBlk (Value.pointer (some ⟨p56, 0, none⟩))) (un (inBlk z170) (un (inBlk (Value.pointer (some ⟨p14, 0, none⟩))) (un (inBlk z169) nb))))) b → ¬ (inBlk (Value.pointer (some ⟨p69, 0, none⟩))) b ∧ ¬ (un (inBlk (Value.pointer (some ⟨p69, 0, none⟩))) (un (inBlk (Value.pointer (some ⟨p56, 0, none⟩))) (un (inBlk z170) (un (inBlk (Value.pointer (some ⟨p14, 0, none⟩))) (un (inBlk z169) nb))))) b := fun b _ hs => ⟨fun h => hs (.inl h), hs⟩
       have ah0_0 := slRep.st k_Addr_pos ah0_0 c227 ad230
       have ah0_1 := slRep.st k_Addr_pos ah0_1 c227 ad230
       have ah0_2 := slRep.st k_Addr_pos ah0_2 c227 ad230
       have ah0_3 := slRep.st k_Cidr_pos ah0_3 c227 ad230
       have ah0_4 := slRep.st k_Port_pos ah0_4 c227 ad230
       have ah1_0 := slRep.st k_Addr_pos ah1_0 c227 ad230
       have k4 := k4.ch c227 (ad230 _ k4.lt gp1.2).1
       have k8 := k8.ch c227 (ad230 _ k8.lt gp5.2).1
       have k67 := k67.ch c227 ((fun b hb h => (disSym d151) b hb h) _ rfl)
       have h171 := h171.ch c227 ((fun b hb h => (disSym d153) b hb h) _ rfl)
       have h172 := h172.ch c227 ((fun b hb h => d180 b hb h))
       have h173 := h173.st c227 (fun b hb h => d183 b hb h) ad230 (fun b h => (.inr (.inr (.inl h))))
       have c45 := c45.then c227 (fun i hi h => absurd (lo73 i h) (Nat.not_le_of_lt hi))
       have hb231 : ∀ b, (inBlk (Value.pointer (some ⟨p69, 0, none⟩))) b → (O b ∨ wk.heap.size ≤ b) ∧ b < w226.heap.size := fun b h => ⟨.inl ((hBg.1 b).2 (.inl h)), k229.ltp b h⟩
       exact RL.nil ⟨_, (inBlk (Value.pointer (some ⟨p69, 0, none⟩))), rfl, hb231, (c227.mono (fun b _ h => ((hBg.1 b).2 (.inl h)))), ⟨rfl, rfl, rfl, k229⟩⟩
      trivial
     ·
      intro hvO234 OpO234 O234 w232 hO235 c233 hN236
      have ol237 : ∀ b, inBlk (Value.pointer (some ⟨p56, 0, none⟩)) b → b < w165.heap.size := k67.ltp
      have ol238 : ∀ b, inBlk z170 b → b < w165.heap.size := (fun b hb => (h173.lt b hb).2)
      have ol239 : ∀ b, inBlk (Value.pointer (some ⟨p14, 0, none⟩)) b → b < w165.heap.size := h171.ltp
      have ol240 : ∀ b, inBlk z169 b → b < w165.heap.size := h172.ltp
      refine Need.hereN rfl rfl rfl rfl ?_
      rintro ⟨rfl, _, rfl, ck5_0⟩
      have d242 : ∀ b, inBlk (Value.pointer (some ⟨p69, 0, none⟩)) b → ¬ inBlk (Value.pointer (some ⟨p56, 0, none⟩)) b := fun b h hu => (hO235 b h).1.elim (fun h => d151 b h hu) (fun h => Nat.not_le_of_lt (ol237 b hu) h)
      have d243 : ∀ b, inBlk (Value.pointer (some ⟨p69, 0, none⟩)) b → ¬ inBlk z170 b := fun b h hu => (hO235 b h).1.elim (fun h => (disSym d183) b h hu) (fun h => Nat.not_le_of_lt (ol238 b hu) h)
      have d244 : ∀ b, inBlk (Value.pointer (some ⟨p69, 0, none⟩)) b → ¬ inBlk (Value.pointer (some ⟨p14, 0, none⟩)) b := fun b h hu => (hO235 b h).1.elim (fun h => d153 b h hu) (fun h => Nat.not_le_of_lt (ol239 b hu) h)
      have d245 : ∀ b, inBlk (Value.pointer (some ⟨p69, 0, none⟩)) b → ¬ inBlk z169 b := fun b h hu => (hO235 b h).1.elim (fun h => (disSym d180) b h hu) (fun h => Nat.not_le_of_lt (ol240 b hu) h)
      have ha246 : ∀ b, b < w165.heap.size → ¬ (un (inBlk (Value.pointer (some ⟨p69, 0, none⟩))) (un (inBlk (Value.pointer (some ⟨p56, 0, none⟩))) (un (inBlk z170) (un (inBlk (Value.pointer (some ⟨p14, 0, none⟩))) (un (inBlk z169) nb))))) b → ¬ (inBlk (Value.pointer (some ⟨p69, 0, none⟩))) b ∧ ¬ (un (inBlk (Value.pointer (some ⟨p69, 0, none⟩))) (un (inBlk (Value.pointer (some ⟨p56, 0, none⟩))) (un (inBlk z170) (un (inBlk (Value.pointer (some ⟨p14, 0, none⟩))) (un (inBlk z169) nb))))) b := fun b hb hs => ⟨fun h => hs (.inl h), fun h => un_el h (fun h => (hO235 b h).1.elim (fun h => hs (.inl h)) (fun h => Nat.not_le_of_lt hb h)) (fun h => un_el h (fun h => hs (.inr (.inl h))) (fun h => un_el h (fun h => hs (.inr (.inr (.inl h)))) (fun h => un_el h (fun h => hs (.inr (.inr (.inr (.inl h))))) (fun h => un_el h (fun h => hs (.inr (.inr (.inr (.inr (.inl h)))))) (fun h => False.elim h)))))⟩
      have ah0_0 := slRep.st k_Addr_pos ah0_0 c233 ha246
      have ah0_1 := slRep.st k_Addr_pos ah0_1 c233 ha246
      have ah0_2 := slRep.st k_Addr_pos ah0_2 c233 ha246
      have ah0_3 := slRep.st k_Cidr_pos ah0_3 c233 ha246
      have ah0_4 := slRep.st k_Port_pos ah0_4 c233 ha246
      have ah1_0 := slRep.st k_Addr_pos ah1_0 c233 ha246
      have gp1n : (G F w.heap.size (un (inBlk (Value.pointer (some ⟨p69, 0, none⟩))) (un (inBlk (Value.pointer (some ⟨p56, 0, none⟩))) (un (inBlk z170) (un (inBlk (Value.pointer (some ⟨p14, 0, none⟩))) (un (inBlk z169) nb)))))) p1 := ⟨gp1.1, (ha246 _ k4.lt gp1.2).2⟩
      have k4 := k4.ch c233 (ha246 _ k4.lt gp1.2).1
      have gp1 := gp1n
      have gp5n : (G F w.heap.size (un (inBlk (Value.pointer (some ⟨p69, 0, none⟩))) (un (inBlk (Value.pointer (some ⟨p56, 0, none⟩))) (un (inBlk z170) (un (inBlk (Value.pointer (some ⟨p14, 0, none⟩))) (un (inBlk z169) nb)))))) p5 := ⟨gp5.1, (ha246 _ k8.lt gp5.2).2⟩
      have k8 := k8.ch c233 (ha246 _ k8.lt gp5.2).1
      have gp5 := gp5n
      have k67 := k67.ch c233 ((fun b hb h => (disSym d242) b hb h) _ rfl)
      have h171 := h171.ch c233 ((fun b hb h => (disSym d244) b hb h) _ rfl)
      have h172 := h172.ch c233 ((fun b hb h => d180 b hb h))
      have h173 := h173.st c233 (fun b hb h => d183 b hb h) ha246 (fun b h => (.inr (.inr (.inl h))))
      have c45 := c45.then c233 (fun i hi h => absurd (lo73 i h) (Nat.not_le_of_lt hi))
      refine Need.one rfl rfl rfl ?_
      rintro _ e247
      obtain rfl := e247.symm
      refine rl_fieldAddr rfl fa42_5 rfl ?_
      refine rl_storeS (u := (Value.bool (decide (((a0.ranges.length : Nat) : Int) > 0)))) rfl rfl ⟨rfl, rfl⟩ Try.sizeOf4 ck5_0 rfl ?_
      intro w248 s250 c249 k251
      have ad252 : ∀ b, b < w232.heap.size → ¬ (un (inBlk (Value.pointer (some ⟨p69, 0, none⟩))) (un (inBlk (Value.pointer (some ⟨p56, 0, none⟩))) (un (inBlk z170) (un (inBlk (Value.pointer (some ⟨p14, 0, none⟩))) (un (inBlk z169) nb))))) b → ¬ (inBlk (Value.pointer (some ⟨p69, 0, none⟩))) b ∧ ¬ (un (inBlk (Value.pointer (some ⟨p69, 0, none⟩))) (un (inBlk (Value.pointer (some ⟨p56, 0, none⟩))) (un (inBlk z170) (un (inBlk (Value.pointer (some ⟨p14, 0, none⟩))) (un (inBlk z169) nb))))) b := fun b _ hs => ⟨fun h => hs (.inl h), hs⟩
      have ah0_0 := slRep.st k_Addr_pos ah0_0 c249 ad252
      have ah0_1 := slRep.st k_Addr_pos ah0_1 c249 ad252
      have ah0_2 := slRep.st k_Addr_pos ah0_2 c249 ad252
      have ah0_3 := slRep.st k_Cidr_pos ah0_3 c249 ad252
      have ah0_4 := slRep.st k_Port_pos ah0_4 c249 ad252
      have ah1_0 := slRep.st k_Addr_pos ah1_0 c249 ad252
      have k4 := k4.ch c249 (ad252 _ k4.lt gp1.2).1
      have k8 := k8.ch c249 (ad252 _ k8.lt gp5.2).1
      have k67 := k67.ch c249 ((fun b hb h => (disSym d242) b hb h) _ rfl)
      have h171 := h171.ch c249 ((fun b hb h => (disSym d244) b hb h) _ rfl)
      have h172 := h172.ch c249 ((fun b hb h => d180 b hb h))
      have h173 := h173.st c249 (fun b hb h => d183 b hb h) ad252 (fun b h => (.inr (.inr (.inl h))))
      have c45 := c45.then c249 (fun i hi h => absurd (lo73 i h) (Nat.not_le_of_lt hi))
      refine RL.nil ?_
      refine thn_n ?_
      refine CW.seq (CW.region ?_)
      refine rl_move rfl rfl ?_
      refine rl_fieldAddr rfl fa28_4 rfl ?_
      refine rl_loadS (v := az0_2) rfl Try.isAgg24 (k4.cell rfl) rfl ?_
      refine rl_loadA (cs := (Face.enc ({ proto := x42.proto, point := ({ addr := Addr.z, port := x42.port } : Point), name := x42.name, how := 2, localF := a0.externalLocal, asked := decide (((a0.ranges.length : Nat) : Int) > 0) } : Face))) rfl Try.isAgg42 Try.sizeOf42 (k251.segAt 0 23) rfl rfl ?_
      have hd253 : ∀ b, (un (inBlk (Value.pointer (some ⟨p14, 0, none⟩))) (un (inBlk z169) (inBlk z170))) b → ¬ (un (inBlk (Value.pointer (some ⟨p69, 0, none⟩))) (un (inBlk (Value.pointer (some ⟨p56, 0, none⟩))) nb)) b := fun b h => un_el h (fun h => (fun b hb => fun h => un_el h (fun h => (disSym d244) b hb h) (fun h => un_el h (fun h => (disSym d62) b hb h) (fun h => h))) b h) (fun h => un_el h (fun h => (fun b hb => fun h => un_el h (fun h => d180 b hb h) (fun h => un_el h (fun h => d181 b hb h) (fun h => h))) b h) (fun h => (fun b hb => fun h => un_el h (fun h => d183 b hb h) (fun h => un_el h (fun h => d184 b hb h) (fun h => h))) b h))
      have hS254 : (un (inBlk (Value.pointer (some ⟨p69, 0, none⟩))) (un (inBlk (Value.pointer (some ⟨p56, 0, none⟩))) (un (inBlk z170) (un (inBlk (Value.pointer (some ⟨p14, 0, none⟩))) (un (inBlk z169) nb))))) = (un (inBlk (Value.pointer (some ⟨p14, 0, none⟩))) (un (inBlk z169) (un (inBlk z170) (un (inBlk (Value.pointer (some ⟨p69, 0, none⟩))) (un (inBlk (Value.pointer (some ⟨p56, 0, none⟩))) nb))))) := funext fun b => propext ⟨fun h => un_el h (fun h => (.inr (.inr (.inr (.inl h))))) (fun h => un_el h (fun h => (.inr (.inr (.inr (.inr (.inl h)))))) (fun h => un_el h (fun h => (.inr (.inr (.inl h)))) (fun h => un_el h (fun h => (.inl h)) (fun h => un_el h (fun h => (.inr (.inl h))) (fun h => False.elim h))))), fun h => un_el h (fun h => (.inr (.inr (.inr (.inl h))))) (fun h => un_el h (fun h => (.inr (.inr (.inr (.inr (.inl h)))))) (fun h => un_el h (fun h => (.inr (.inr (.inl h)))) (fun h => un_el h (fun h => (.inl h)) (fun h => un_el h (fun h => (.inr (.inl h))) (fun h => False.elim h)))))⟩
      have ha255 := ah0_2
      rw [hS254] at ha255
      obtain ⟨y258, hy259, hb39⟩ := bindS hb39
      refine rl_callF rfl en13 rfl (ctr13 F w248 w.heap.size (un (inBlk (Value.pointer (some ⟨p69, 0, none⟩))) (un (inBlk (Value.pointer (some ⟨p56, 0, none⟩))) nb)) c45.size (un_lt k251.ltp (un_lt k67.ltp nbS)) p14 z169 z170 hd253 d176 d177 d178 y167 h171 h172 (hS254 ▸ h173) a0.balancers az0_2 ha255 ({ proto := x42.proto, point := ({ addr := Addr.z, port := x42.port } : Point), name := x42.name, how := 2, localF := a0.externalLocal, asked := decide (((a0.ranges.length : Nat) : Int) > 0) } : Face) y258 hy259) ?_
      rintro _ w256 ⟨z260, z261, rfl, h262, h263, h264, hf265, hf266, d267, d268, d269, c257⟩
      have lo270 : ∀ b, inBlk z260 b → w.heap.size ≤ b := fun b h => (hf265 b h).elim (fun h => un_el h (fun h => lo18 b h) (fun h => un_el h (fun h => lo179 b h) (fun h => lo182 b h))) (Nat.le_trans c45.size)
      have d271 : ∀ b, inBlk z260 b → ¬ inBlk (Value.pointer (some ⟨p69, 0, none⟩)) b := fun b h hu => (hf265 b h).elim (fun h => un_el h (fun h => (disSym d244) b h hu) (fun h => un_el h (fun h => d180 b h hu) (fun h => d183 b h hu))) (fun h => Nat.not_le_of_lt (k251.ltp b hu) h)
      have d272 : ∀ b, inBlk z260 b → ¬ inBlk (Value.pointer (some ⟨p56, 0, none⟩)) b := fun b h hu => (hf265 b h).elim (fun h => un_el h (fun h => (disSym d62) b h hu) (fun h => un_el h (fun h => d181 b h hu) (fun h => d184 b h hu))) (fun h => Nat.not_le_of_lt (k67.ltp b hu) h)
      have lo273 : ∀ b, inBlk z261 b → w.heap.size ≤ b := fun b h => (hf266 b h).elim (fun h => un_el h (fun h => lo18 b h) (fun h => un_el h (fun h => lo179 b h) (fun h => lo182 b h))) (Nat.le_trans c45.size)
      have d274 : ∀ b, inBlk z261 b → ¬ inBlk (Value.pointer (some ⟨p69, 0, none⟩)) b := fun b h hu => (hf266 b h).elim (fun h => un_el h (fun h => (disSym d244) b h hu) (fun h => un_el h (fun h => d180 b h hu) (fun h => d183 b h hu))) (fun h => Nat.not_le_of_lt (k251.ltp b hu) h)
      have d275 : ∀ b, inBlk z261 b → ¬ inBlk (Value.pointer (some ⟨p56, 0, none⟩)) b := fun b h hu => (hf266 b h).elim (fun h => un_el h (fun h => (disSym d62) b h hu) (fun h => un_el h (fun h => d181 b h hu) (fun h => d184 b h hu))) (fun h => Nat.not_le_of_lt (k67.ltp b hu) h)
      have hS276 : (un (inBlk (Value.pointer (some ⟨p69, 0, none⟩))) (un (inBlk (Value.pointer (some ⟨p56, 0, none⟩))) (un (inBlk z261) (un (inBlk (Value.pointer (some ⟨p14, 0, none⟩))) (un (inBlk z260) nb))))) = (un (inBlk (Value.pointer (some ⟨p14, 0, none⟩))) (un (inBlk z260) (un (inBlk z261) (un (inBlk (Value.pointer (some ⟨p69, 0, none⟩))) (un (inBlk (Value.pointer (some ⟨p56, 0, none⟩))) nb))))) := funext fun b => propext ⟨fun h => un_el h (fun h => (.inr (.inr (.inr (.inl h))))) (fun h => un_el h (fun h => (.inr (.inr (.inr (.inr (.inl h)))))) (fun h => un_el h (fun h => (.inr (.inr (.inl h)))) (fun h => un_el h (fun h => (.inl h)) (fun h => un_el h (fun h => (.inr (.inl h))) (fun h => False.elim h))))), fun h => un_el h (fun h => (.inr (.inr (.inr (.inl h))))) (fun h => un_el h (fun h => (.inr (.inr (.inr (.inr (.inl h)))))) (fun h => un_el h (fun h => (.inr (.inr (.inl h)))) (fun h => un_el h (fun h => (.inl h)) (fun h => un_el h (fun h => (.inr (.inl h))) (fun h => False.elim h)))))⟩
      rw [← hS276] at h264
      have ha277 : ∀ b, b < w248.heap.size → ¬ (un (inBlk (Value.pointer (some ⟨p69, 0, none⟩))) (un (inBlk (Value.pointer (some ⟨p56, 0, none⟩))) (un (inBlk z170) (un (inBlk (Value.pointer (some ⟨p14, 0, none⟩))) (un (inBlk z169) nb))))) b → ¬ (un (inBlk (Value.pointer (some ⟨p14, 0, none⟩))) (un (inBlk z169) (inBlk z170))) b ∧ ¬ (un (inBlk (Value.pointer (some ⟨p69, 0, none⟩))) (un (inBlk (Value.pointer (some ⟨p56, 0, none⟩))) (un (inBlk z261) (un (inBlk (Value.pointer (some ⟨p14, 0, none⟩))) (un (inBlk z260) nb))))) b := fun b hb hs => ⟨fun h => un_el h (fun h => hs (.inr (.inr (.inr (.inl h))))) (fun h => un_el h (fun h => hs (.inr (.inr (.inr (.inr (.inl h)))))) (fun h => hs (.inr (.inr (.inl h))))), fun h => un_el h (fun h => hs (.inl h)) (fun h => un_el h (fun h => hs (.inr (.inl h))) (fun h => un_el h (fun h => (hf266 b h).elim (fun h => un_el h (fun h => hs (.inr (.inr (.inr (.inl h))))) (fun h => un_el h (fun h => hs (.inr (.inr (.inr (.inr (.inl h)))))) (fun h => hs (.inr (.inr (.inl h)))))) (fun h => Nat.not_le_of_lt hb h)) (fun h => un_el h (fun h => hs (.inr (.inr (.inr (.inl h))))) (fun h => un_el h (fun h => (hf265 b h).elim (fun h => un_el h (fun h => hs (.inr (.inr (.inr (.inl h))))) (fun h => un_el h (fun h => hs (.inr (.inr (.inr (.inr (.inl h)))))) (fun h => hs (.inr (.inr (.inl h)))))) (fun h => Nat.not_le_of_lt hb h)) (fun h => False.elim h)))))⟩
      have ah0_0 := slRep.st k_Addr_pos ah0_0 c257 ha277
      have ah0_1 := slRep.st k_Addr_pos ah0_1 c257 ha277
      have ah0_2 := slRep.st k_Addr_pos ah0_2 c257 ha277
      have ah0_3 := slRep.st k_Cidr_pos ah0_3 c257 ha277
      have ah0_4 := slRep.st k_Port_pos ah0_4 c257 ha277
      have ah1_0 := slRep.st k_Addr_pos ah1_0 c257 ha277
      have gp1n : (G F w.heap.size (un (inBlk (Value.pointer (some ⟨p69, 0, none⟩))) (un (inBlk (Value.pointer (some ⟨p56, 0, none⟩))) (un (inBlk z261) (un (inBlk (Value.pointer (some ⟨p14, 0, none⟩))) (un (inBlk z260) nb)))))) p1 := ⟨gp1.1, (ha277 _ k4.lt gp1.2).2⟩
      have k4 := k4.ch c257 (ha277 _ k4.lt gp1.2).1
      have gp1 := gp1n
      have gp5n : (G F w.heap.size (un (inBlk (Value.pointer (some ⟨p69, 0, none⟩))) (un (inBlk (Value.pointer (some ⟨p56, 0, none⟩))) (un (inBlk z261) (un (inBlk (Value.pointer (some ⟨p14, 0, none⟩))) (un (inBlk z260) nb)))))) p5 := ⟨gp5.1, (ha277 _ k8.lt gp5.2).2⟩
      have k8 := k8.ch c257 (ha277 _ k8.lt gp5.2).1
      have gp5 := gp5n
      have k67 := k67.ch c257 ((fun b hb h => un_el h (fun h => d62 b hb h) (fun h => un_el h (fun h => (disSym d181) b hb h) (fun h => (disSym d184) b hb h))) _ rfl)
      have k251 := k251.ch c257 ((fun b hb h => un_el h (fun h => d244 b hb h) (fun h => un_el h (fun h => d245 b hb h) (fun h => d243 b hb h))) _ rfl)
      have c45 := c45.then c257 (fun i hi h => un_el h (fun h => absurd (lo18 i h) (Nat.not_le_of_lt hi)) (fun h => un_el h (fun h => absurd (lo179 i h) (Nat.not_le_of_lt hi)) (fun h => absurd (lo182 i h) (Nat.not_le_of_lt hi))))
      refine RL.nil ?_
      refine thn_n ?_
      refine CW.seq ?_
      refine CW.draw 6 [(none, fun _ O uu wx => uu = (Value.pointer (some ⟨p56, 3, none⟩))), (none, fun _ O uu wx => uu = (Value.int .i64 x42.outer)), (none, fun _ O uu wx => uu = (Value.pointer (some ⟨p69, 20, none⟩))), (some true, fun hv O uu wx => hv = [undef] ∧ uu = undef ∧ O = (inBlk (Value.pointer (some ⟨p69, 0, none⟩))) ∧ Blk wx p69 42 (Face.enc ({ proto := x42.proto, point := ({ addr := Addr.z, port := x42.port } : Point), name := x42.name, how := 3, localF := a0.externalLocal, asked := decide (((a0.ranges.length : Nat) : Int) > 0) } : Face))), (none, fun _ O uu wx => uu = (Value.pointer (some ⟨p69, 22, none⟩))), (some true, fun hv O uu wx => hv = [undef, undef] ∧ uu = undef ∧ O = (inBlk (Value.pointer (some ⟨p69, 0, none⟩))) ∧ Blk wx p69 42 (Face.enc ({ proto := x42.proto, point := ({ addr := Addr.z, port := x42.port } : Point), name := x42.name, how := 3, localF := a0.externalLocal, asked := false } : Face)))] [[], [0], [], [2], [], [3, 4]] [5, 1] (inBlk (Value.pointer (some ⟨p69, 0, none⟩))) (fun b h => k251.ltp b h) mixed rfl rfl rfl rfl ?_ ?_
      ·
       refine Each.consA ⟨fun _ _ _ _ _ _ h => h, fun _ _ _ _ _ _ _ _ _ _ _ h => h, fun O wk hO ck => ?_⟩ ?_
       ·
        have d293 : ∀ b, inBlk (Value.pointer (some ⟨p56, 0, none⟩)) b → ¬ O b := fun b hu ho => (hO b ho).1.elim (fun h => d242 b h hu) (fun h => Nat.not_le_of_lt (k67.ltp b hu) h)
        have d294 : ∀ b, inBlk z261 b → ¬ O b := fun b hu ho => (hO b ho).1.elim (fun h => (disSym d274) b h hu) (fun h => Nat.not_le_of_lt ((fun b hb => (h264.lt b hb).2) b hu) h)
        have d295 : ∀ b, inBlk (Value.pointer (some ⟨p14, 0, none⟩)) b → ¬ O b := fun b hu ho => (hO b ho).1.elim (fun h => d244 b h hu) (fun h => Nat.not_le_of_lt (h262.ltp b hu) h)
        have d296 : ∀ b, inBlk z260 b → ¬ O b := fun b hu ho => (hO b ho).1.elim (fun h => (disSym d271) b h hu) (fun h => Nat.not_le_of_lt (h263.ltp b hu) h)
        have ha297 : ∀ b, b < w256.heap.size → ¬ (un (inBlk (Value.pointer (some ⟨p69, 0, none⟩))) (un (inBlk (Value.pointer (some ⟨p56, 0, none⟩))) (un (inBlk z261) (un (inBlk (Value.pointer (some ⟨p14, 0, none⟩))) (un (inBlk z260) nb))))) b → ¬ (inBlk (Value.pointer (some ⟨p69, 0, none⟩))) b ∧ ¬ (un O (un (inBlk (Value.pointer (some ⟨p56, 0, none⟩))) (un (inBlk z261) (un (inBlk (Value.pointer (some ⟨p14, 0, none⟩))) (un (inBlk z260) nb))))) b := fun b hb hs => ⟨fun h => hs (.inl h), fun h => un_el h (fun ho => (hO b ho).1.elim (fun h => hs (.inl h)) (fun h => Nat.not_le_of_lt hb h)) (fun h => un_el h (fun h => hs (.inr (.inl h))) (fun h => un_el h (fun h => hs (.inr (.inr (.inl h)))) (fun h => un_el h (fun h => hs (.inr (.inr (.inr (.inl h))))) (fun h => un_el h (fun h => hs (.inr (.inr (.inr (.inr (.inl h)))))) (fun h => False.elim h)))))⟩
        have ah0_0 := slRep.st k_Addr_pos ah0_0 ck ha297
        have ah0_1 := slRep.st k_Addr_pos ah0_1 ck ha297
        have ah0_2 := slRep.st k_Addr_pos ah0_2 ck ha297
        have ah0_3 := slRep.st k_Cidr_pos ah0_3 ck ha297
        have ah0_4 := slRep.st k_Port_pos ah0_4 ck ha297
        have ah1_0 := slRep.st k_Addr_pos ah1_0 ck ha297
        have gp1n : (G F w.heap.size (un O (un (inBlk (Value.pointer (some ⟨p56, 0, none⟩))) (un (inBlk z261) (un (inBlk (Value.pointer (some ⟨p14, 0, none⟩))) (un (inBlk z260) nb)))))) p1 := ⟨gp1.1, (ha297 _ k4.lt gp1.2).2⟩
        have k4 := k4.ch ck (ha297 _ k4.lt gp1.2).1
        have gp1 := gp1n
        have gp5n : (G F w.heap.size (un O (un (inBlk (Value.pointer (some ⟨p56, 0, none⟩))) (un (inBlk z261) (un (inBlk (Value.pointer (some ⟨p14, 0, none⟩))) (un (inBlk z260) nb)))))) p5 := ⟨gp5.1, (ha297 _ k8.lt gp5.2).2⟩
        have k8 := k8.ch ck (ha297 _ k8.lt gp5.2).1
        have gp5 := gp5n
        have k67 := k67.ch ck ((fun b hb h => (disSym d242) b hb h) _ rfl)
        have h262 := h262.ch ck ((fun b hb h => (disSym d244) b hb h) _ rfl)
        have h263 := h263.ch ck ((fun b hb h => d271 b hb h))
        have h264 := h264.st ck (fun b hb h => d274 b hb h) ha297 (fun b h => (.inr (.inr (.inl h))))
        have c45 := c45.then ck (fun i hi h => absurd (lo73 i h) (Nat.not_le_of_lt hi))
        refine rl_fieldAddr rfl fa55_3 rfl ?_
        exact RL.nil ⟨_, rfl, Ch.refl, rfl⟩
       refine Each.consA ⟨fun _ _ _ _ _ _ h => h, fun _ _ _ _ _ _ _ _ _ _ _ h => h, fun O wk hO ck => ?_⟩ ?_
       ·
        have d298 : ∀ b, inBlk (Value.pointer (some ⟨p56, 0, none⟩)) b → ¬ O b := fun b hu ho => (hO b ho).1.elim (fun h => d242 b h hu) (fun h => Nat.not_le_of_lt (k67.ltp b hu) h)
        have d299 : ∀ b, inBlk z261 b → ¬ O b := fun b hu ho => (hO b ho).1.elim (fun h => (disSym d274) b h hu) (fun h => Nat.not_le_of_lt ((fun b hb => (h264.lt b hb).2) b hu) h)
        have d300 : ∀ b, inBlk (Value.pointer (some ⟨p14, 0, none⟩)) b → ¬ O b := fun b hu ho => (hO b ho).1.elim (fun h => d244 b h hu) (fun h => Nat.not_le_of_lt (h262.ltp b hu) h)
        have d301 : ∀ b, inBlk z260 b → ¬ O b := fun b hu ho => (hO b ho).1.elim (fun h => (disSym d271) b h hu) (fun h => Nat.not_le_of_lt (h263.ltp b hu) h)
        have ha302 : ∀ b, b < w256.heap.size → ¬ (un (inBlk (Value.pointer (some ⟨p69, 0, none⟩))) (un (inBlk (Value.pointer (some ⟨p56, 0, none⟩))) (un (inBlk z261) (un (inBlk (Value.pointer (some ⟨p14, 0, none⟩))) (un (inBlk z260) nb))))) b → ¬ (inBlk (Value.pointer (some ⟨p69, 0, none⟩))) b ∧ ¬ (un O (un (inBlk (Value.pointer (some ⟨p56, 0, none⟩))) (un (inBlk z261) (un (inBlk (Value.pointer (some ⟨p14, 0, none⟩))) (un (inBlk z260) nb))))) b := fun b hb hs => ⟨fun h => hs (.inl h), fun h => un_el h (fun ho => (hO b ho).1.elim (fun h => hs (.inl h)) (fun h => Nat.not_le_of_lt hb h)) (fun h => un_el h (fun h => hs (.inr (.inl h))) (fun h => un_el h (fun h => hs (.inr (.inr (.inl h)))) (fun h => un_el h (fun h => hs (.inr (.inr (.inr (.inl h))))) (fun h => un_el h (fun h => hs (.inr (.inr (.inr (.inr (.inl h)))))) (fun h => False.elim h)))))⟩
        have ah0_0 := slRep.st k_Addr_pos ah0_0 ck ha302
        have ah0_1 := slRep.st k_Addr_pos ah0_1 ck ha302
        have ah0_2 := slRep.st k_Addr_pos ah0_2 ck ha302
        have ah0_3 := slRep.st k_Cidr_pos ah0_3 ck ha302
        have ah0_4 := slRep.st k_Port_pos ah0_4 ck ha302
        have ah1_0 := slRep.st k_Addr_pos ah1_0 ck ha302
        have gp1n : (G F w.heap.size (un O (un (inBlk (Value.pointer (some ⟨p56, 0, none⟩))) (un (inBlk z261) (un (inBlk (Value.pointer (some ⟨p14, 0, none⟩))) (un (inBlk z260) nb)))))) p1 := ⟨gp1.1, (ha302 _ k4.lt gp1.2).2⟩
        have k4 := k4.ch ck (ha302 _ k4.lt gp1.2).1
        have gp1 := gp1n
        have gp5n : (G F w.heap.size (un O (un (inBlk (Value.pointer (some ⟨p56, 0, none⟩))) (un (inBlk z261) (un (inBlk (Value.pointer (some ⟨p14, 0, none⟩))) (un (inBlk z260) nb)))))) p5 := ⟨gp5.1, (ha302 _ k8.lt gp5.2).2⟩
        have k8 := k8.ch ck (ha302 _ k8.lt gp5.2).1
        have gp5 := gp5n
        have k67 := k67.ch ck ((fun b hb h => (disSym d242) b hb h) _ rfl)
        have h262 := h262.ch ck ((fun b hb h => (disSym d244) b hb h) _ rfl)
        have h263 := h263.ch ck ((fun b hb h => d271 b hb h))
        have h264 := h264.st ck (fun b hb h => d274 b hb h) ha302 (fun b h => (.inr (.inr (.inl h))))
        have c45 := c45.then ck (fun i hi h => absurd (lo73 i h) (Nat.not_le_of_lt hi))
        refine Need.one rfl rfl rfl ?_
        rintro _ e303
        obtain rfl := e303.symm
        refine rl_loadS (v := (Value.int .i64 x42.outer)) rfl Try.isAgg3 (k67.cell rfl) rfl ?_
        exact RL.nil ⟨_, rfl, Ch.refl, rfl⟩
       refine Each.consA ⟨fun _ _ _ _ _ _ h => h, fun _ _ _ _ _ _ _ _ _ _ _ h => h, fun O wk hO ck => ?_⟩ ?_
       ·
        have d304 : ∀ b, inBlk (Value.pointer (some ⟨p56, 0, none⟩)) b → ¬ O b := fun b hu ho => (hO b ho).1.elim (fun h => d242 b h hu) (fun h => Nat.not_le_of_lt (k67.ltp b hu) h)
        have d305 : ∀ b, inBlk z261 b → ¬ O b := fun b hu ho => (hO b ho).1.elim (fun h => (disSym d274) b h hu) (fun h => Nat.not_le_of_lt ((fun b hb => (h264.lt b hb).2) b hu) h)
        have d306 : ∀ b, inBlk (Value.pointer (some ⟨p14, 0, none⟩)) b → ¬ O b := fun b hu ho => (hO b ho).1.elim (fun h => d244 b h hu) (fun h => Nat.not_le_of_lt (h262.ltp b hu) h)
        have d307 : ∀ b, inBlk z260 b → ¬ O b := fun b hu ho => (hO b ho).1.elim (fun h => (disSym d271) b h hu) (fun h => Nat.not_le_of_lt (h263.ltp b hu) h)
        have ha308 : ∀ b, b < w256.heap.size → ¬ (un (inBlk (Value.pointer (some ⟨p69, 0, none⟩))) (un (inBlk (Value.pointer (some ⟨p56, 0, none⟩))) (un (inBlk z261) (un (inBlk (Value.pointer (some ⟨p14, 0, none⟩))) (un (inBlk z260) nb))))) b → ¬ (inBlk (Value.pointer (some ⟨p69, 0, none⟩))) b ∧ ¬ (un O (un (inBlk (Value.pointer (some ⟨p56, 0, none⟩))) (un (inBlk z261) (un (inBlk (Value.pointer (some ⟨p14, 0, none⟩))) (un (inBlk z260) nb))))) b := fun b hb hs => ⟨fun h => hs (.inl h), fun h => un_el h (fun ho => (hO b ho).1.elim (fun h => hs (.inl h)) (fun h => Nat.not_le_of_lt hb h)) (fun h => un_el h (fun h => hs (.inr (.inl h))) (fun h => un_el h (fun h => hs (.inr (.inr (.inl h)))) (fun h => un_el h (fun h => hs (.inr (.inr (.inr (.inl h))))) (fun h => un_el h (fun h => hs (.inr (.inr (.inr (.inr (.inl h)))))) (fun h => False.elim h)))))⟩
        have ah0_0 := slRep.st k_Addr_pos ah0_0 ck ha308
        have ah0_1 := slRep.st k_Addr_pos ah0_1 ck ha308
        have ah0_2 := slRep.st k_Addr_pos ah0_2 ck ha308
        have ah0_3 := slRep.st k_Cidr_pos ah0_3 ck ha308
        have ah0_4 := slRep.st k_Port_pos ah0_4 ck ha308
        have ah1_0 := slRep.st k_Addr_pos ah1_0 ck ha308
        have gp1n : (G F w.heap.size (un O (un (inBlk (Value.pointer (some ⟨p56, 0, none⟩))) (un (inBlk z261) (un (inBlk (Value.pointer (some ⟨p14, 0, none⟩))) (un (inBlk z260) nb)))))) p1 := ⟨gp1.1, (ha308 _ k4.lt gp1.2).2⟩
        have k4 := k4.ch ck (ha308 _ k4.lt gp1.2).1
        have gp1 := gp1n
        have gp5n : (G F w.heap.size (un O (un (inBlk (Value.pointer (some ⟨p56, 0, none⟩))) (un (inBlk z261) (un (inBlk (Value.pointer (some ⟨p14, 0, none⟩))) (un (inBlk z260) nb)))))) p5 := ⟨gp5.1, (ha308 _ k8.lt gp5.2).2⟩
        have k8 := k8.ch ck (ha308 _ k8.lt gp5.2).1
        have gp5 := gp5n
        have k67 := k67.ch ck ((fun b hb h => (disSym d242) b hb h) _ rfl)
        have h262 := h262.ch ck ((fun b hb h => (disSym d244) b hb h) _ rfl)
        have h263 := h263.ch ck ((fun b hb h => d271 b hb h))
        have h264 := h264.st ck (fun b hb h => d274 b hb h) ha308 (fun b h => (.inr (.inr (.inl h))))
        have c45 := c45.then ck (fun i hi h => absurd (lo73 i h) (Nat.not_le_of_lt hi))
        refine rl_fieldAddr rfl fa42_3 rfl ?_
        exact RL.nil ⟨_, rfl, Ch.refl, rfl⟩
       refine Each.consO ⟨fun _ O _ wx wy cc hh => by obtain ⟨eh, e, rfl, ck3_0⟩ := hh; exact ⟨eh, e, rfl, ck3_0.ch0 cc⟩, fun hv Op O wk hO ck hO0 => ?_⟩ ?_
       ·
        obtain ⟨hl, hBg⟩ := hO0 rfl
        obtain rfl := List.eq_nil_of_length_eq_zero hl
        have ah0_0 := slRep.ch k_Addr_pos ah0_0 hBg.2.1
        have ah0_1 := slRep.ch k_Addr_pos ah0_1 hBg.2.1
        have ah0_2 := slRep.ch k_Addr_pos ah0_2 hBg.2.1
        have ah0_3 := slRep.ch k_Cidr_pos ah0_3 hBg.2.1
        have ah0_4 := slRep.ch k_Port_pos ah0_4 hBg.2.1
        have ah1_0 := slRep.ch k_Addr_pos ah1_0 hBg.2.1
        have k4 := k4.ch0 hBg.2.1
        have k8 := k8.ch0 hBg.2.1
        have k67 := k67.ch0 hBg.2.1
        have k251 := k251.ch0 hBg.2.1
        have h262 := h262.ch0 hBg.2.1
        have h263 := h263.ch0 hBg.2.1
        have h264 := h264.ch0 hBg.2.1
        have c45 := c45.then0 hBg.2.1
        refine Need.one rfl rfl rfl ?_
        rintro _ e309
        obtain rfl := e309.symm
        refine rl_storeS (u := (Value.int .i64 3)) rfl rfl ⟨rfl, rfl⟩ Try.sizeOf3 k251 rfl ?_
        intro w310 s312 c311 k313
        have ad314 : ∀ b, b < wk.heap.size → ¬ (un (inBlk (Value.pointer (some ⟨p69, 0, none⟩))) (un (inBlk (Value.pointer (some ⟨p56, 0, none⟩))) (un (inBlk z261) (un (inBlk (Value.pointer (some ⟨p14, 0, none⟩))) (un (inBlk z260) nb))))) b → ¬ (inBlk (Value.pointer (some ⟨p69, 0, none⟩))) b ∧ ¬ (un (inBlk (Value.pointer (some ⟨p69, 0, none⟩))) (un (inBlk (Value.pointer (some ⟨p56, 0, none⟩))) (un (inBlk z261) (un (inBlk (Value.pointer (some ⟨p14, 0, none⟩))) (un (inBlk z260) nb))))) b := fun b _ hs => ⟨fun h => hs (.inl h), hs⟩
        have ah0_0 := slRep.st k_Addr_pos ah0_0 c311 ad314
        have ah0_1 := slRep.st k_Addr_pos ah0_1 c311 ad314
        have ah0_2 := slRep.st k_Addr_pos ah0_2 c311 ad314
        have ah0_3 := slRep.st k_Cidr_pos ah0_3 c311 ad314
        have ah0_4 := slRep.st k_Port_pos ah0_4 c311 ad314
        have ah1_0 := slRep.st k_Addr_pos ah1_0 c311 ad314
        have k4 := k4.ch c311 (ad314 _ k4.lt gp1.2).1
        have k8 := k8.ch c311 (ad314 _ k8.lt gp5.2).1
        have k67 := k67.ch c311 ((fun b hb h => (disSym d242) b hb h) _ rfl)
        have h262 := h262.ch c311 ((fun b hb h => (disSym d244) b hb h) _ rfl)
        have h263 := h263.ch c311 ((fun b hb h => d271 b hb h))
        have h264 := h264.st c311 (fun b hb h => d274 b hb h) ad314 (fun b h => (.inr (.inr (.inl h))))
        have c45 := c45.then c311 (fun i hi h => absurd (lo73 i h) (Nat.not_le_of_lt hi))
        have hb315 : ∀ b, (inBlk (Value.pointer (some ⟨p69, 0, none⟩))) b → (O b ∨ wk.heap.size ≤ b) ∧ b < w310.heap.size := fun b h => ⟨.inl ((hBg.1 b).2 (.inl h)), k313.ltp b h⟩
        exact RL.nil ⟨_, (inBlk (Value.pointer (some ⟨p69, 0, none⟩))), rfl, hb315, (c311.mono (fun b _ h => ((hBg.1 b).2 (.inl h)))), ⟨rfl, rfl, rfl, k313⟩⟩
       refine Each.consA ⟨fun _ _ _ _ _ _ h => h, fun _ _ _ _ _ _ _ _ _ _ _ h => h, fun O wk hO ck => ?_⟩ ?_
       ·
        have d316 : ∀ b, inBlk (Value.pointer (some ⟨p56, 0, none⟩)) b → ¬ O b := fun b hu ho => (hO b ho).1.elim (fun h => d242 b h hu) (fun h => Nat.not_le_of_lt (k67.ltp b hu) h)
        have d317 : ∀ b, inBlk z261 b → ¬ O b := fun b hu ho => (hO b ho).1.elim (fun h => (disSym d274) b h hu) (fun h => Nat.not_le_of_lt ((fun b hb => (h264.lt b hb).2) b hu) h)
        have d318 : ∀ b, inBlk (Value.pointer (some ⟨p14, 0, none⟩)) b → ¬ O b := fun b hu ho => (hO b ho).1.elim (fun h => d244 b h hu) (fun h => Nat.not_le_of_lt (h262.ltp b hu) h)
        have d319 : ∀ b, inBlk z260 b → ¬ O b := fun b hu ho => (hO b ho).1.elim (fun h => (disSym d271) b h hu) (fun h => Nat.not_le_of_lt (h263.ltp b hu) h)
        have ha320 : ∀ b, b < w256.heap.size → ¬ (un (inBlk (Value.pointer (some ⟨p69, 0, none⟩))) (un (inBlk (Value.pointer (some ⟨p56, 0, none⟩))) (un (inBlk z261) (un (inBlk (Value.pointer (some ⟨p14, 0, none⟩))) (un (inBlk z260) nb))))) b → ¬ (inBlk (Value.pointer (some ⟨p69, 0, none⟩))) b ∧ ¬ (un O (un (inBlk (Value.pointer (some ⟨p56, 0, none⟩))) (un (inBlk z261) (un (inBlk (Value.pointer (some ⟨p14, 0, none⟩))) (un (inBlk z260) nb))))) b := fun b hb hs => ⟨fun h => hs (.inl h), fun h => un_el h (fun ho => (hO b ho).1.elim (fun h => hs (.inl h)) (fun h => Nat.not_le_of_lt hb h)) (fun h => un_el h (fun h => hs (.inr (.inl h))) (fun h => un_el h (fun h => hs (.inr (.inr (.inl h)))) (fun h => un_el h (fun h => hs (.inr (.inr (.inr (.inl h))))) (fun h => un_el h (fun h => hs (.inr (.inr (.inr (.inr (.inl h)))))) (fun h => False.elim h)))))⟩
        have ah0_0 := slRep.st k_Addr_pos ah0_0 ck ha320
        have ah0_1 := slRep.st k_Addr_pos ah0_1 ck ha320
        have ah0_2 := slRep.st k_Addr_pos ah0_2 ck ha320
        have ah0_3 := slRep.st k_Cidr_pos ah0_3 ck ha320
        have ah0_4 := slRep.st k_Port_pos ah0_4 ck ha320
        have ah1_0 := slRep.st k_Addr_pos ah1_0 ck ha320
        have gp1n : (G F w.heap.size (un O (un (inBlk (Value.pointer (some ⟨p56, 0, none⟩))) (un (inBlk z261) (un (inBlk (Value.pointer (some ⟨p14, 0, none⟩))) (un (inBlk z260) nb)))))) p1 := ⟨gp1.1, (ha320 _ k4.lt gp1.2).2⟩
        have k4 := k4.ch ck (ha320 _ k4.lt gp1.2).1
        have gp1 := gp1n
        have gp5n : (G F w.heap.size (un O (un (inBlk (Value.pointer (some ⟨p56, 0, none⟩))) (un (inBlk z261) (un (inBlk (Value.pointer (some ⟨p14, 0, none⟩))) (un (inBlk z260) nb)))))) p5 := ⟨gp5.1, (ha320 _ k8.lt gp5.2).2⟩
        have k8 := k8.ch ck (ha320 _ k8.lt gp5.2).1
        have gp5 := gp5n
        have k67 := k67.ch ck ((fun b hb h => (disSym d242) b hb h) _ rfl)
        have h262 := h262.ch ck ((fun b hb h => (disSym d244) b hb h) _ rfl)
        have h263 := h263.ch ck ((fun b hb h => d271 b hb h))
        have h264 := h264.st ck (fun b hb h => d274 b hb h) ha320 (fun b h => (.inr (.inr (.inl h))))
        have c45 := c45.then ck (fun i hi h => absurd (lo73 i h) (Nat.not_le_of_lt hi))
        refine rl_fieldAddr rfl fa42_5 rfl ?_
        exact RL.nil ⟨_, rfl, Ch.refl, rfl⟩
       refine Each.consO ⟨fun _ O _ wx wy cc hh => by obtain ⟨eh, e, rfl, ck5_0⟩ := hh; exact ⟨eh, e, rfl, ck5_0.ch0 cc⟩, fun hv Op O wk hO ck hO0 => ?_⟩ ?_
       ·
        have ol321 : ∀ b, inBlk (Value.pointer (some ⟨p56, 0, none⟩)) b → b < w256.heap.size := k67.ltp
        have ol322 : ∀ b, inBlk z261 b → b < w256.heap.size := (fun b hb => (h264.lt b hb).2)
        have ol323 : ∀ b, inBlk (Value.pointer (some ⟨p14, 0, none⟩)) b → b < w256.heap.size := h262.ltp
        have ol324 : ∀ b, inBlk z260 b → b < w256.heap.size := h263.ltp
        refine Need.hereN rfl rfl rfl rfl ?_
        rintro ⟨rfl, _, rfl, ck3_0⟩
        have d326 : ∀ b, inBlk (Value.pointer (some ⟨p69, 0, none⟩)) b → ¬ inBlk (Value.pointer (some ⟨p56, 0, none⟩)) b := fun b h hu => (hO b h).1.elim (fun h => d242 b h hu) (fun h => Nat.not_le_of_lt (ol321 b hu) h)
        have d327 : ∀ b, inBlk (Value.pointer (some ⟨p69, 0, none⟩)) b → ¬ inBlk z261 b := fun b h hu => (hO b h).1.elim (fun h => (disSym d274) b h hu) (fun h => Nat.not_le_of_lt (ol322 b hu) h)
        have d328 : ∀ b, inBlk (Value.pointer (some ⟨p69, 0, none⟩)) b → ¬ inBlk (Value.pointer (some ⟨p14, 0, none⟩)) b := fun b h hu => (hO b h).1.elim (fun h => d244 b h hu) (fun h => Nat.not_le_of_lt (ol323 b hu) h)
        have d329 : ∀ b, inBlk (Value.pointer (some ⟨p69, 0, none⟩)) b → ¬ inBlk z260 b := fun b h hu => (hO b h).1.elim (fun h => (disSym d271) b h hu) (fun h => Nat.not_le_of_lt (ol324 b hu) h)
        have ha330 : ∀ b, b < w256.heap.size → ¬ (un (inBlk (Value.pointer (some ⟨p69, 0, none⟩))) (un (inBlk (Value.pointer (some ⟨p56, 0, none⟩))) (un (inBlk z261) (un (inBlk (Value.pointer (some ⟨p14, 0, none⟩))) (un (inBlk z260) nb))))) b → ¬ (inBlk (Value.pointer (some ⟨p69, 0, none⟩))) b ∧ ¬ (un (inBlk (Value.pointer (some ⟨p69, 0, none⟩))) (un (inBlk (Value.pointer (some ⟨p56, 0, none⟩))) (un (inBlk z261) (un (inBlk (Value.pointer (some ⟨p14, 0, none⟩))) (un (inBlk z260) nb))))) b := fun b hb hs => ⟨fun h => hs (.inl h), fun h => un_el h (fun h => (hO b h).1.elim (fun h => hs (.inl h)) (fun h => Nat.not_le_of_lt hb h)) (fun h => un_el h (fun h => hs (.inr (.inl h))) (fun h => un_el h (fun h => hs (.inr (.inr (.inl h)))) (fun h => un_el h (fun h => hs (.inr (.inr (.inr (.inl h))))) (fun h => un_el h (fun h => hs (.inr (.inr (.inr (.inr (.inl h)))))) (fun h => False.elim h)))))⟩
        have ah0_0 := slRep.st k_Addr_pos ah0_0 ck ha330
        have ah0_1 := slRep.st k_Addr_pos ah0_1 ck ha330
        have ah0_2 := slRep.st k_Addr_pos ah0_2 ck ha330
        have ah0_3 := slRep.st k_Cidr_pos ah0_3 ck ha330
        have ah0_4 := slRep.st k_Port_pos ah0_4 ck ha330
        have ah1_0 := slRep.st k_Addr_pos ah1_0 ck ha330
        have gp1n : (G F w.heap.size (un (inBlk (Value.pointer (some ⟨p69, 0, none⟩))) (un (inBlk (Value.pointer (some ⟨p56, 0, none⟩))) (un (inBlk z261) (un (inBlk (Value.pointer (some ⟨p14, 0, none⟩))) (un (inBlk z260) nb)))))) p1 := ⟨gp1.1, (ha330 _ k4.lt gp1.2).2⟩
        have k4 := k4.ch ck (ha330 _ k4.lt gp1.2).1
        have gp1 := gp1n
        have gp5n : (G F w.heap.size (un (inBlk (Value.pointer (some ⟨p69, 0, none⟩))) (un (inBlk (Value.pointer (some ⟨p56, 0, none⟩))) (un (inBlk z261) (un (inBlk (Value.pointer (some ⟨p14, 0, none⟩))) (un (inBlk z260) nb)))))) p5 := ⟨gp5.1, (ha330 _ k8.lt gp5.2).2⟩
        have k8 := k8.ch ck (ha330 _ k8.lt gp5.2).1
        have gp5 := gp5n
        have k67 := k67.ch ck ((fun b hb h => (disSym d326) b hb h) _ rfl)
        have h262 := h262.ch ck ((fun b hb h => (disSym d328) b hb h) _ rfl)
        have h263 := h263.ch ck ((fun b hb h => d271 b hb h))
        have h264 := h264.st ck (fun b hb h => d274 b hb h) ha330 (fun b h => (.inr (.inr (.inl h))))
        have c45 := c45.then ck (fun i hi h => absurd (lo73 i h) (Nat.not_le_of_lt hi))
        refine Need.one rfl rfl rfl ?_
        rintro _ e331
        obtain rfl := e331.symm
        refine rl_storeS (u := (Value.bool false)) rfl rfl ⟨rfl, rfl⟩ Try.sizeOf4 ck3_0 rfl ?_
        intro w332 s334 c333 k335
        have ad336 : ∀ b, b < wk.heap.size → ¬ (un (inBlk (Value.pointer (some ⟨p69, 0, none⟩))) (un (inBlk (Value.pointer (some ⟨p56, 0, none⟩))) (un (inBlk z261) (un (inBlk (Value.pointer (some ⟨p14, 0, none⟩))) (un (inBlk z260) nb))))) b → ¬ (inBlk (Value.pointer (some ⟨p69, 0, none⟩))) b ∧ ¬ (un (inBlk (Value.pointer (some ⟨p69, 0, none⟩))) (un (inBlk (Value.pointer (some ⟨p56, 0, none⟩))) (un (inBlk z261) (un (inBlk (Value.pointer (some ⟨p14, 0, none⟩))) (un (inBlk z260) nb))))) b := fun b _ hs => ⟨fun h => hs (.inl h), hs⟩
        have ah0_0 := slRep.st k_Addr_pos ah0_0 c333 ad336
        have ah0_1 := slRep.st k_Addr_pos ah0_1 c333 ad336
        have ah0_2 := slRep.st k_Addr_pos ah0_2 c333 ad336
        have ah0_3 := slRep.st k_Cidr_pos ah0_3 c333 ad336
        have ah0_4 := slRep.st k_Port_pos ah0_4 c333 ad336
        have ah1_0 := slRep.st k_Addr_pos ah1_0 c333 ad336
        have k4 := k4.ch c333 (ad336 _ k4.lt gp1.2).1
        have k8 := k8.ch c333 (ad336 _ k8.lt gp5.2).1
        have k67 := k67.ch c333 ((fun b hb h => (disSym d326) b hb h) _ rfl)
        have h262 := h262.ch c333 ((fun b hb h => (disSym d328) b hb h) _ rfl)
        have h263 := h263.ch c333 ((fun b hb h => d271 b hb h))
        have h264 := h264.st c333 (fun b hb h => d274 b hb h) ad336 (fun b h => (.inr (.inr (.inl h))))
        have c45 := c45.then c333 (fun i hi h => absurd (lo73 i h) (Nat.not_le_of_lt hi))
        have hb337 : ∀ b, (inBlk (Value.pointer (some ⟨p69, 0, none⟩))) b → ((inBlk (Value.pointer (some ⟨p69, 0, none⟩))) b ∨ wk.heap.size ≤ b) ∧ b < w332.heap.size := fun b h => ⟨.inl h, k335.ltp b h⟩
        exact RL.nil ⟨_, (inBlk (Value.pointer (some ⟨p69, 0, none⟩))), rfl, hb337, (c333.mono (fun b _ h => h)), ⟨rfl, rfl, rfl, k335⟩⟩
       trivial
      ·
       intro hvO340 OpO340 O340 w338 hO341 c339 hN342
       have ol343 : ∀ b, inBlk (Value.pointer (some ⟨p56, 0, none⟩)) b → b < w256.heap.size := k67.ltp
       have ol344 : ∀ b, inBlk z261 b → b < w256.heap.size := (fun b hb => (h264.lt b hb).2)
       have ol345 : ∀ b, inBlk (Value.pointer (some ⟨p14, 0, none⟩)) b → b < w256.heap.size := h262.ltp
       have ol346 : ∀ b, inBlk z260 b → b < w256.heap.size := h263.ltp
       refine Need.hereN rfl rfl rfl rfl ?_
       rintro ⟨rfl, _, rfl, ck5_0⟩
       have d348 : ∀ b, inBlk (Value.pointer (some ⟨p69, 0, none⟩)) b → ¬ inBlk (Value.pointer (some ⟨p56, 0, none⟩)) b := fun b h hu => (hO341 b h).1.elim (fun h => d242 b h hu) (fun h => Nat.not_le_of_lt (ol343 b hu) h)
       have d349 : ∀ b, inBlk (Value.pointer (some ⟨p69, 0, none⟩)) b → ¬ inBlk z261 b := fun b h hu => (hO341 b h).1.elim (fun h => (disSym d274) b h hu) (fun h => Nat.not_le_of_lt (ol344 b hu) h)
       have d350 : ∀ b, inBlk (Value.pointer (some ⟨p69, 0, none⟩)) b → ¬ inBlk (Value.pointer (some ⟨p14, 0, none⟩)) b := fun b h hu => (hO341 b h).1.elim (fun h => d244 b h hu) (fun h => Nat.not_le_of_lt (ol345 b hu) h)
       have d351 : ∀ b, inBlk (Value.pointer (some ⟨p69, 0, none⟩)) b → ¬ inBlk z260 b := fun b h hu => (hO341 b h).1.elim (fun h => (disSym d271) b h hu) (fun h => Nat.not_le_of_lt (ol346 b hu) h)
       have ha352 : ∀ b, b < w256.heap.size → ¬ (un (inBlk (Value.pointer (some ⟨p69, 0, none⟩))) (un (inBlk (Value.pointer (some ⟨p56, 0, none⟩))) (un (inBlk z261) (un (inBlk (Value.pointer (some ⟨p14, 0, none⟩))) (un (inBlk z260) nb))))) b → ¬ (inBlk (Value.pointer (some ⟨p69, 0, none⟩))) b ∧ ¬ (un (inBlk (Value.pointer (some ⟨p69, 0, none⟩))) (un (inBlk (Value.pointer (some ⟨p56, 0, none⟩))) (un (inBlk z261) (un (inBlk (Value.pointer (some ⟨p14, 0, none⟩))) (un (inBlk z260) nb))))) b := fun b hb hs => ⟨fun h => hs (.inl h), fun h => un_el h (fun h => (hO341 b h).1.elim (fun h => hs (.inl h)) (fun h => Nat.not_le_of_lt hb h)) (fun h => un_el h (fun h => hs (.inr (.inl h))) (fun h => un_el h (fun h => hs (.inr (.inr (.inl h)))) (fun h => un_el h (fun h => hs (.inr (.inr (.inr (.inl h))))) (fun h => un_el h (fun h => hs (.inr (.inr (.inr (.inr (.inl h)))))) (fun h => False.elim h)))))⟩
       have ah0_0 := slRep.st k_Addr_pos ah0_0 c339 ha352
       have ah0_1 := slRep.st k_Addr_pos ah0_1 c339 ha352
       have ah0_2 := slRep.st k_Addr_pos ah0_2 c339 ha352
       have ah0_3 := slRep.st k_Cidr_pos ah0_3 c339 ha352
       have ah0_4 := slRep.st k_Port_pos ah0_4 c339 ha352
       have ah1_0 := slRep.st k_Addr_pos ah1_0 c339 ha352
       have gp1n : (G F w.heap.size (un (inBlk (Value.pointer (some ⟨p69, 0, none⟩))) (un (inBlk (Value.pointer (some ⟨p56, 0, none⟩))) (un (inBlk z261) (un (inBlk (Value.pointer (some ⟨p14, 0, none⟩))) (un (inBlk z260) nb)))))) p1 := ⟨gp1.1, (ha352 _ k4.lt gp1.2).2⟩
       have k4 := k4.ch c339 (ha352 _ k4.lt gp1.2).1
       have gp1 := gp1n
       have gp5n : (G F w.heap.size (un (inBlk (Value.pointer (some ⟨p69, 0, none⟩))) (un (inBlk (Value.pointer (some ⟨p56, 0, none⟩))) (un (inBlk z261) (un (inBlk (Value.pointer (some ⟨p14, 0, none⟩))) (un (inBlk z260) nb)))))) p5 := ⟨gp5.1, (ha352 _ k8.lt gp5.2).2⟩
       have k8 := k8.ch c339 (ha352 _ k8.lt gp5.2).1
       have gp5 := gp5n
       have k67 := k67.ch c339 ((fun b hb h => (disSym d348) b hb h) _ rfl)
       have h262 := h262.ch c339 ((fun b hb h => (disSym d350) b hb h) _ rfl)
       have h263 := h263.ch c339 ((fun b hb h => d271 b hb h))
       have h264 := h264.st c339 (fun b hb h => d274 b hb h) ha352 (fun b h => (.inr (.inr (.inl h))))
       have c45 := c45.then c339 (fun i hi h => absurd (lo73 i h) (Nat.not_le_of_lt hi))
       refine Need.one rfl rfl rfl ?_
       rintro _ e353
       obtain rfl := e353.symm
       refine rl_fieldAddr rfl fa42_1 rfl ?_
       refine rl_fieldAddr rfl fa40_1 rfl ?_
       refine rl_storeS (u := (Value.int .i64 x42.outer)) rfl rfl ⟨rfl, rfl⟩ Try.sizeOf3 ck5_0 rfl ?_
       intro w354 s356 c355 k357
       have ad358 : ∀ b, b < w338.heap.size → ¬ (un (inBlk (Value.pointer (some ⟨p69, 0, none⟩))) (un (inBlk (Value.pointer (some ⟨p56, 0, none⟩))) (un (inBlk z261) (un (inBlk (Value.pointer (some ⟨p14, 0, none⟩))) (un (inBlk z260) nb))))) b → ¬ (inBlk (Value.pointer (some ⟨p69, 0, none⟩))) b ∧ ¬ (un (inBlk (Value.pointer (some ⟨p69, 0, none⟩))) (un (inBlk (Value.pointer (some ⟨p56, 0, none⟩))) (un (inBlk z261) (un (inBlk (Value.pointer (some ⟨p14, 0, none⟩))) (un (inBlk z260) nb))))) b := fun b _ hs => ⟨fun h => hs (.inl h), hs⟩
       have ah0_0 := slRep.st k_Addr_pos ah0_0 c355 ad358
       have ah0_1 := slRep.st k_Addr_pos ah0_1 c355 ad358
       have ah0_2 := slRep.st k_Addr_pos ah0_2 c355 ad358
       have ah0_3 := slRep.st k_Cidr_pos ah0_3 c355 ad358
       have ah0_4 := slRep.st k_Port_pos ah0_4 c355 ad358
       have ah1_0 := slRep.st k_Addr_pos ah1_0 c355 ad358
       have k4 := k4.ch c355 (ad358 _ k4.lt gp1.2).1
       have k8 := k8.ch c355 (ad358 _ k8.lt gp5.2).1
       have k67 := k67.ch c355 ((fun b hb h => (disSym d348) b hb h) _ rfl)
       have h262 := h262.ch c355 ((fun b hb h => (disSym d350) b hb h) _ rfl)
       have h263 := h263.ch c355 ((fun b hb h => d271 b hb h))
       have h264 := h264.st c355 (fun b hb h => d274 b hb h) ad358 (fun b h => (.inr (.inr (.inl h))))
       have c45 := c45.then c355 (fun i hi h => absurd (lo73 i h) (Nat.not_le_of_lt hi))
       refine RL.nil ?_
       refine thn_n ?_
       refine CW.seq (CW.region ?_)
       refine rl_fieldAddr rfl fa55_3 rfl ?_
       refine rl_loadS (v := (Value.int .i64 x42.outer)) rfl Try.isAgg3 (k67.cell rfl) rfl ?_
       refine rl_bin rfl rfl B.neq rfl ?_
       refine RL.nil ?_
       refine thn_n ?_
       refine CW.cond (t := !decide (x42.outer = 0)) rfl (fun q359 => ?_) (fun q359 => ?_)
       ·
        have hb39 := ifT q359 hb39
        refine CW.region ?_
        refine rl_move rfl rfl ?_
        refine rl_fieldAddr rfl fa30_2 rfl ?_
        refine rl_loadS (v := az1_0) rfl Try.isAgg24 (k8.cell rfl) rfl ?_
        refine rl_loadA (cs := (Face.enc ({ proto := x42.proto, point := ({ addr := Addr.z, port := x42.outer } : Point), name := x42.name, how := 3, localF := a0.externalLocal, asked := false } : Face))) rfl Try.isAgg42 Try.sizeOf42 (k357.segAt 0 23) rfl rfl ?_
        have hd360 : ∀ b, (un (inBlk (Value.pointer (some ⟨p14, 0, none⟩))) (un (inBlk z260) (inBlk z261))) b → ¬ (un (inBlk (Value.pointer (some ⟨p69, 0, none⟩))) (un (inBlk (Value.pointer (some ⟨p56, 0, none⟩))) nb)) b := fun b h => un_el h (fun h => (fun b hb => fun h => un_el h (fun h => (disSym d350) b hb h) (fun h => un_el h (fun h => (disSym d62) b hb h) (fun h => h))) b h) (fun h => un_el h (fun h => (fun b hb => fun h => un_el h (fun h => d271 b hb h) (fun h => un_el h (fun h => d272 b hb h) (fun h => h))) b h) (fun h => (fun b hb => fun h => un_el h (fun h => d274 b hb h) (fun h => un_el h (fun h => d275 b hb h) (fun h => h))) b h))
        have hS361 : (un (inBlk (Value.pointer (some ⟨p69, 0, none⟩))) (un (inBlk (Value.pointer (some ⟨p56, 0, none⟩))) (un (inBlk z261) (un (inBlk (Value.pointer (some ⟨p14, 0, none⟩))) (un (inBlk z260) nb))))) = (un (inBlk (Value.pointer (some ⟨p14, 0, none⟩))) (un (inBlk z260) (un (inBlk z261) (un (inBlk (Value.pointer (some ⟨p69, 0, none⟩))) (un (inBlk (Value.pointer (some ⟨p56, 0, none⟩))) nb))))) := funext fun b => propext ⟨fun h => un_el h (fun h => (.inr (.inr (.inr (.inl h))))) (fun h => un_el h (fun h => (.inr (.inr (.inr (.inr (.inl h)))))) (fun h => un_el h (fun h => (.inr (.inr (.inl h)))) (fun h => un_el h (fun h => (.inl h)) (fun h => un_el h (fun h => (.inr (.inl h))) (fun h => False.elim h))))), fun h => un_el h (fun h => (.inr (.inr (.inr (.inl h))))) (fun h => un_el h (fun h => (.inr (.inr (.inr (.inr (.inl h)))))) (fun h => un_el h (fun h => (.inr (.inr (.inl h)))) (fun h => un_el h (fun h => (.inl h)) (fun h => un_el h (fun h => (.inr (.inl h))) (fun h => False.elim h)))))⟩
        have ha362 := ah1_0
        rw [hS361] at ha362
        obtain ⟨y365, hy366, hb39⟩ := bindS hb39
        refine rl_callF rfl en13 rfl (ctr13 F w354 w.heap.size (un (inBlk (Value.pointer (some ⟨p69, 0, none⟩))) (un (inBlk (Value.pointer (some ⟨p56, 0, none⟩))) nb)) c45.size (un_lt k357.ltp (un_lt k67.ltp nbS)) p14 z260 z261 hd360 d267 d268 d269 y258 h262 h263 (hS361 ▸ h264) a1.addrs az1_0 ha362 ({ proto := x42.proto, point := ({ addr := Addr.z, port := x42.outer } : Point), name := x42.name, how := 3, localF := a0.externalLocal, asked := false } : Face) y365 hy366) ?_
        rintro _ w363 ⟨z367, z368, rfl, h369, h370, h371, hf372, hf373, d374, d375, d376, c364⟩
        have lo377 : ∀ b, inBlk z367 b → w.heap.size ≤ b := fun b h => (hf372 b h).elim (fun h => un_el h (fun h => lo18 b h) (fun h => un_el h (fun h => lo270 b h) (fun h => lo273 b h))) (Nat.le_trans c45.size)
        have d378 : ∀ b, inBlk z367 b → ¬ inBlk (Value.pointer (some ⟨p69, 0, none⟩)) b := fun b h hu => (hf372 b h).elim (fun h => un_el h (fun h => (disSym d350) b h hu) (fun h => un_el h (fun h => d271 b h hu) (fun h => d274 b h hu))) (fun h => Nat.not_le_of_lt (k357.ltp b hu) h)
        have d379 : ∀ b, inBlk z367 b → ¬ inBlk (Value.pointer (some ⟨p56, 0, none⟩)) b := fun b h hu => (hf372 b h).elim (fun h => un_el h (fun h => (disSym d62) b h hu) (fun h => un_el h (fun h => d272 b h hu) (fun h => d275 b h hu))) (fun h => Nat.not_le_of_lt (k67.ltp b hu) h)
        have lo380 : ∀ b, inBlk z368 b → w.heap.size ≤ b := fun b h => (hf373 b h).elim (fun h => un_el h (fun h => lo18 b h) (fun h => un_el h (fun h => lo270 b h) (fun h => lo273 b h))) (Nat.le_trans c45.size)
        have d381 : ∀ b, inBlk z368 b → ¬ inBlk (Value.pointer (some ⟨p69, 0, none⟩)) b := fun b h hu => (hf373 b h).elim (fun h => un_el h (fun h => (disSym d350) b h hu) (fun h => un_el h (fun h => d271 b h hu) (fun h => d274 b h hu))) (fun h => Nat.not_le_of_lt (k357.ltp b hu) h)
        have d382 : ∀ b, inBlk z368 b → ¬ inBlk (Value.pointer (some ⟨p56, 0, none⟩)) b := fun b h hu => (hf373 b h).elim (fun h => un_el h (fun h => (disSym d62) b h hu) (fun h => un_el h (fun h => d272 b h hu) (fun h => d275 b h hu))) (fun h => Nat.not_le_of_lt (k67.ltp b hu) h)
        have hS383 : (un (inBlk (Value.pointer (some ⟨p69, 0, none⟩))) (un (inBlk (Value.pointer (some ⟨p56, 0, none⟩))) (un (inBlk z368) (un (inBlk (Value.pointer (some ⟨p14, 0, none⟩))) (un (inBlk z367) nb))))) = (un (inBlk (Value.pointer (some ⟨p14, 0, none⟩))) (un (inBlk z367) (un (inBlk z368) (un (inBlk (Value.pointer (some ⟨p69, 0, none⟩))) (un (inBlk (Value.pointer (some ⟨p56, 0, none⟩))) nb))))) := funext fun b => propext ⟨fun h => un_el h (fun h => (.inr (.inr (.inr (.inl h))))) (fun h => un_el h (fun h => (.inr (.inr (.inr (.inr (.inl h)))))) (fun h => un_el h (fun h => (.inr (.inr (.inl h)))) (fun h => un_el h (fun h => (.inl h)) (fun h => un_el h (fun h => (.inr (.inl h))) (fun h => False.elim h))))), fun h => un_el h (fun h => (.inr (.inr (.inr (.inl h))))) (fun h => un_el h (fun h => (.inr (.inr (.inr (.inr (.inl h)))))) (fun h => un_el h (fun h => (.inr (.inr (.inl h)))) (fun h => un_el h (fun h => (.inl h)) (fun h => un_el h (fun h => (.inr (.inl h))) (fun h => False.elim h)))))⟩
        rw [← hS383] at h371
        have ha384 : ∀ b, b < w354.heap.size → ¬ (un (inBlk (Value.pointer (some ⟨p69, 0, none⟩))) (un (inBlk (Value.pointer (some ⟨p56, 0, none⟩))) (un (inBlk z261) (un (inBlk (Value.pointer (some ⟨p14, 0, none⟩))) (un (inBlk z260) nb))))) b → ¬ (un (inBlk (Value.pointer (some ⟨p14, 0, none⟩))) (un (inBlk z260) (inBlk z261))) b ∧ ¬ (un (inBlk (Value.pointer (some ⟨p69, 0, none⟩))) (un (inBlk (Value.pointer (some ⟨p56, 0, none⟩))) (un (inBlk z368) (un (inBlk (Value.pointer (some ⟨p14, 0, none⟩))) (un (inBlk z367) nb))))) b := fun b hb hs => ⟨fun h => un_el h (fun h => hs (.inr (.inr (.inr (.inl h))))) (fun h => un_el h (fun h => hs (.inr (.inr (.inr (.inr (.inl h)))))) (fun h => hs (.inr (.inr (.inl h))))), fun h => un_el h (fun h => hs (.inl h)) (fun h => un_el h (fun h => hs (.inr (.inl h))) (fun h => un_el h (fun h => (hf373 b h).elim (fun h => un_el h (fun h => hs (.inr (.inr (.inr (.inl h))))) (fun h => un_el h (fun h => hs (.inr (.inr (.inr (.inr (.inl h)))))) (fun h => hs (.inr (.inr (.inl h)))))) (fun h => Nat.not_le_of_lt hb h)) (fun h => un_el h (fun h => hs (.inr (.inr (.inr (.inl h))))) (fun h => un_el h (fun h => (hf372 b h).elim (fun h => un_el h (fun h => hs (.inr (.inr (.inr (.inl h))))) (fun h => un_el h (fun h => hs (.inr (.inr (.inr (.inr (.inl h)))))) (fun h => hs (.inr (.inr (.inl h)))))) (fun h => Nat.not_le_of_lt hb h)) (fun h => False.elim h)))))⟩
        have ah0_0 := slRep.st k_Addr_pos ah0_0 c364 ha384
        have ah0_1 := slRep.st k_Addr_pos ah0_1 c364 ha384
        have ah0_2 := slRep.st k_Addr_pos ah0_2 c364 ha384
        have ah0_3 := slRep.st k_Cidr_pos ah0_3 c364 ha384
        have ah0_4 := slRep.st k_Port_pos ah0_4 c364 ha384
        have ah1_0 := slRep.st k_Addr_pos ah1_0 c364 ha384
        have gp1n : (G F w.heap.size (un (inBlk (Value.pointer (some ⟨p69, 0, none⟩))) (un (inBlk (Value.pointer (some ⟨p56, 0, none⟩))) (un (inBlk z368) (un (inBlk (Value.pointer (some ⟨p14, 0, none⟩))) (un (inBlk z367) nb)))))) p1 := ⟨gp1.1, (ha384 _ k4.lt gp1.2).2⟩
        have k4 := k4.ch c364 (ha384 _ k4.lt gp1.2).1
        have gp1 := gp1n
        have gp5n : (G F w.heap.size (un (inBlk (Value.pointer (some ⟨p69, 0, none⟩))) (un (inBlk (Value.pointer (some ⟨p56, 0, none⟩))) (un (inBlk z368) (un (inBlk (Value.pointer (some ⟨p14, 0, none⟩))) (un (inBlk z367) nb)))))) p5 := ⟨gp5.1, (ha384 _ k8.lt gp5.2).2⟩
        have k8 := k8.ch c364 (ha384 _ k8.lt gp5.2).1
        have gp5 := gp5n
        have k67 := k67.ch c364 ((fun b hb h => un_el h (fun h => d62 b hb h) (fun h => un_el h (fun h => (disSym d272) b hb h) (fun h => (disSym d275) b hb h))) _ rfl)
        have k357 := k357.ch c364 ((fun b hb h => un_el h (fun h => d350 b hb h) (fun h => un_el h (fun h => d351 b hb h) (fun h => d349 b hb h))) _ rfl)
        have c45 := c45.then c364 (fun i hi h => un_el h (fun h => absurd (lo18 i h) (Nat.not_le_of_lt hi)) (fun h => un_el h (fun h => absurd (lo270 i h) (Nat.not_le_of_lt hi)) (fun h => absurd (lo273 i h) (Nat.not_le_of_lt hi))))
        refine RL.nil ?_
        refine inB_n ?_
        refine thn_n ?_
        refine CW.region ?_
        refine rl_inc rfl hat36.lt ah0_4.big rfl ?_
        refine rl_move rfl rfl ?_
        refine RL.nil ?_
        refine thn_n ?_
        have crf : Ch nb w363 w363 := Ch.refl
        have ah0_0 := slRep.st k_Addr_pos ah0_0 crf (show ∀ b, b < w363.heap.size → ¬ (un (inBlk (Value.pointer (some ⟨p69, 0, none⟩))) (un (inBlk (Value.pointer (some ⟨p56, 0, none⟩))) (un (inBlk z368) (un (inBlk (Value.pointer (some ⟨p14, 0, none⟩))) (un (inBlk z367) nb))))) b → ¬ nb b ∧ ¬ (un (inBlk (Value.pointer (some ⟨p56, 0, none⟩))) (un (inBlk z368) (un (inBlk (Value.pointer (some ⟨p14, 0, none⟩))) (un (inBlk z367) nb)))) b from fun b _ hs => ⟨fun x => x, fun h => hs (un_el h (fun h => (.inr (.inl h))) (fun h => un_el h (fun h => (.inr (.inr (.inl h)))) (fun h => un_el h (fun h => (.inr (.inr (.inr (.inl h))))) (fun h => un_el h (fun h => (.inr (.inr (.inr (.inr (.inl h)))))) (fun h => False.elim h)))))⟩)
        have ah0_1 := slRep.st k_Addr_pos ah0_1 crf (show ∀ b, b < w363.heap.size → ¬ (un (inBlk (Value.pointer (some ⟨p69, 0, none⟩))) (un (inBlk (Value.pointer (some ⟨p56, 0, none⟩))) (un (inBlk z368) (un (inBlk (Value.pointer (some ⟨p14, 0, none⟩))) (un (inBlk z367) nb))))) b → ¬ nb b ∧ ¬ (un (inBlk (Value.pointer (some ⟨p56, 0, none⟩))) (un (inBlk z368) (un (inBlk (Value.pointer (some ⟨p14, 0, none⟩))) (un (inBlk z367) nb)))) b from fun b _ hs => ⟨fun x => x, fun h => hs (un_el h (fun h => (.inr (.inl h))) (fun h => un_el h (fun h => (.inr (.inr (.inl h)))) (fun h => un_el h (fun h => (.inr (.inr (.inr (.inl h))))) (fun h => un_el h (fun h => (.inr (.inr (.inr (.inr (.inl h)))))) (fun h => False.elim h)))))⟩)
        have ah0_2 := slRep.st k_Addr_pos ah0_2 crf (show ∀ b, b < w363.heap.size → ¬ (un (inBlk (Value.pointer (some ⟨p69, 0, none⟩))) (un (inBlk (Value.pointer (some ⟨p56, 0, none⟩))) (un (inBlk z368) (un (inBlk (Value.pointer (some ⟨p14, 0, none⟩))) (un (inBlk z367) nb))))) b → ¬ nb b ∧ ¬ (un (inBlk (Value.pointer (some ⟨p56, 0, none⟩))) (un (inBlk z368) (un (inBlk (Value.pointer (some ⟨p14, 0, none⟩))) (un (inBlk z367) nb)))) b from fun b _ hs => ⟨fun x => x, fun h => hs (un_el h (fun h => (.inr (.inl h))) (fun h => un_el h (fun h => (.inr (.inr (.inl h)))) (fun h => un_el h (fun h => (.inr (.inr (.inr (.inl h))))) (fun h => un_el h (fun h => (.inr (.inr (.inr (.inr (.inl h)))))) (fun h => False.elim h)))))⟩)
        have ah0_3 := slRep.st k_Cidr_pos ah0_3 crf (show ∀ b, b < w363.heap.size → ¬ (un (inBlk (Value.pointer (some ⟨p69, 0, none⟩))) (un (inBlk (Value.pointer (some ⟨p56, 0, none⟩))) (un (inBlk z368) (un (inBlk (Value.pointer (some ⟨p14, 0, none⟩))) (un (inBlk z367) nb))))) b → ¬ nb b ∧ ¬ (un (inBlk (Value.pointer (some ⟨p56, 0, none⟩))) (un (inBlk z368) (un (inBlk (Value.pointer (some ⟨p14, 0, none⟩))) (un (inBlk z367) nb)))) b from fun b _ hs => ⟨fun x => x, fun h => hs (un_el h (fun h => (.inr (.inl h))) (fun h => un_el h (fun h => (.inr (.inr (.inl h)))) (fun h => un_el h (fun h => (.inr (.inr (.inr (.inl h))))) (fun h => un_el h (fun h => (.inr (.inr (.inr (.inr (.inl h)))))) (fun h => False.elim h)))))⟩)
        have ah0_4 := slRep.st k_Port_pos ah0_4 crf (show ∀ b, b < w363.heap.size → ¬ (un (inBlk (Value.pointer (some ⟨p69, 0, none⟩))) (un (inBlk (Value.pointer (some ⟨p56, 0, none⟩))) (un (inBlk z368) (un (inBlk (Value.pointer (some ⟨p14, 0, none⟩))) (un (inBlk z367) nb))))) b → ¬ nb b ∧ ¬ (un (inBlk (Value.pointer (some ⟨p56, 0, none⟩))) (un (inBlk z368) (un (inBlk (Value.pointer (some ⟨p14, 0, none⟩))) (un (inBlk z367) nb)))) b from fun b _ hs => ⟨fun x => x, fun h => hs (un_el h (fun h => (.inr (.inl h))) (fun h => un_el h (fun h => (.inr (.inr (.inl h)))) (fun h => un_el h (fun h => (.inr (.inr (.inr (.inl h))))) (fun h => un_el h (fun h => (.inr (.inr (.inr (.inr (.inl h)))))) (fun h => False.elim h)))))⟩)
        have ah1_0 := slRep.st k_Addr_pos ah1_0 crf (show ∀ b, b < w363.heap.size → ¬ (un (inBlk (Value.pointer (some ⟨p69, 0, none⟩))) (un (inBlk (Value.pointer (some ⟨p56, 0, none⟩))) (un (inBlk z368) (un (inBlk (Value.pointer (some ⟨p14, 0, none⟩))) (un (inBlk z367) nb))))) b → ¬ nb b ∧ ¬ (un (inBlk (Value.pointer (some ⟨p56, 0, none⟩))) (un (inBlk z368) (un (inBlk (Value.pointer (some ⟨p14, 0, none⟩))) (un (inBlk z367) nb)))) b from fun b _ hs => ⟨fun x => x, fun h => hs (un_el h (fun h => (.inr (.inl h))) (fun h => un_el h (fun h => (.inr (.inr (.inl h)))) (fun h => un_el h (fun h => (.inr (.inr (.inr (.inl h))))) (fun h => un_el h (fun h => (.inr (.inr (.inr (.inr (.inl h)))))) (fun h => False.elim h)))))⟩)
        have gp1n : (G F w.heap.size (un (inBlk (Value.pointer (some ⟨p56, 0, none⟩))) (un (inBlk z368) (un (inBlk (Value.pointer (some ⟨p14, 0, none⟩))) (un (inBlk z367) nb))))) p1 := ⟨gp1.1, ((show ∀ b, b < w363.heap.size → ¬ (un (inBlk (Value.pointer (some ⟨p69, 0, none⟩))) (un (inBlk (Value.pointer (some ⟨p56, 0, none⟩))) (un (inBlk z368) (un (inBlk (Value.pointer (some ⟨p14, 0, none⟩))) (un (inBlk z367) nb))))) b → ¬ nb b ∧ ¬ (un (inBlk (Value.pointer (some ⟨p56, 0, none⟩))) (un (inBlk z368) (un (inBlk (Value.pointer (some ⟨p14, 0, none⟩))) (un (inBlk z367) nb)))) b from fun b _ hs => ⟨fun x => x, fun h => hs (un_el h (fun h => (.inr (.inl h))) (fun h => un_el h (fun h => (.inr (.inr (.inl h)))) (fun h => un_el h (fun h => (.inr (.inr (.inr (.inl h))))) (fun h => un_el h (fun h => (.inr (.inr (.inr (.inr (.inl h)))))) (fun h => False.elim h)))))⟩) _ k4.lt gp1.2).2⟩
        have k4 := k4.ch0 crf
        have gp1 := gp1n
        have gp5n : (G F w.heap.size (un (inBlk (Value.pointer (some ⟨p56, 0, none⟩))) (un (inBlk z368) (un (inBlk (Value.pointer (some ⟨p14, 0, none⟩))) (un (inBlk z367) nb))))) p5 := ⟨gp5.1, ((show ∀ b, b < w363.heap.size → ¬ (un (inBlk (Value.pointer (some ⟨p69, 0, none⟩))) (un (inBlk (Value.pointer (some ⟨p56, 0, none⟩))) (un (inBlk z368) (un (inBlk (Value.pointer (some ⟨p14, 0, none⟩))) (un (inBlk z367) nb))))) b → ¬ nb b ∧ ¬ (un (inBlk (Value.pointer (some ⟨p56, 0, none⟩))) (un (inBlk z368) (un (inBlk (Value.pointer (some ⟨p14, 0, none⟩))) (un (inBlk z367) nb)))) b from fun b _ hs => ⟨fun x => x, fun h => hs (un_el h (fun h => (.inr (.inl h))) (fun h => un_el h (fun h => (.inr (.inr (.inl h)))) (fun h => un_el h (fun h => (.inr (.inr (.inr (.inl h))))) (fun h => un_el h (fun h => (.inr (.inr (.inr (.inr (.inl h)))))) (fun h => False.elim h)))))⟩) _ k8.lt gp5.2).2⟩
        have k8 := k8.ch0 crf
        have gp5 := gp5n
        have k67 := k67.ch0 crf
        have h369 := h369.ch0 crf
        have h370 := h370.ch0 crf
        have h371 := h371.st crf (fun _ _ x => x) (show ∀ b, b < w363.heap.size → ¬ (un (inBlk (Value.pointer (some ⟨p69, 0, none⟩))) (un (inBlk (Value.pointer (some ⟨p56, 0, none⟩))) (un (inBlk z368) (un (inBlk (Value.pointer (some ⟨p14, 0, none⟩))) (un (inBlk z367) nb))))) b → ¬ nb b ∧ ¬ (un (inBlk (Value.pointer (some ⟨p56, 0, none⟩))) (un (inBlk z368) (un (inBlk (Value.pointer (some ⟨p14, 0, none⟩))) (un (inBlk z367) nb)))) b from fun b _ hs => ⟨fun x => x, fun h => hs (un_el h (fun h => (.inr (.inl h))) (fun h => un_el h (fun h => (.inr (.inr (.inl h)))) (fun h => un_el h (fun h => (.inr (.inr (.inr (.inl h))))) (fun h => un_el h (fun h => (.inr (.inr (.inr (.inr (.inl h)))))) (fun h => False.elim h)))))⟩) (fun b h => (.inr (.inl h)))
        have c45 := c45.then0 crf
        have crf : Ch nb w363 w363 := Ch.refl
        have ah0_0 := slRep.st k_Addr_pos ah0_0 crf (show ∀ b, b < w363.heap.size → ¬ (un (inBlk (Value.pointer (some ⟨p56, 0, none⟩))) (un (inBlk z368) (un (inBlk (Value.pointer (some ⟨p14, 0, none⟩))) (un (inBlk z367) nb)))) b → ¬ nb b ∧ ¬ (un (inBlk z368) (un (inBlk (Value.pointer (some ⟨p14, 0, none⟩))) (un (inBlk z367) nb))) b from fun b _ hs => ⟨fun x => x, fun h => hs (un_el h (fun h => (.inr (.inl h))) (fun h => un_el h (fun h => (.inr (.inr (.inl h)))) (fun h => un_el h (fun h => (.inr (.inr (.inr (.inl h))))) (fun h => False.elim h))))⟩)
        have ah0_1 := slRep.st k_Addr_pos ah0_1 crf (show ∀ b, b < w363.heap.size → ¬ (un (inBlk (Value.pointer (some ⟨p56, 0, none⟩))) (un (inBlk z368) (un (inBlk (Value.pointer (some ⟨p14, 0, none⟩))) (un (inBlk z367) nb)))) b → ¬ nb b ∧ ¬ (un (inBlk z368) (un (inBlk (Value.pointer (some ⟨p14, 0, none⟩))) (un (inBlk z367) nb))) b from fun b _ hs => ⟨fun x => x, fun h => hs (un_el h (fun h => (.inr (.inl h))) (fun h => un_el h (fun h => (.inr (.inr (.inl h)))) (fun h => un_el h (fun h => (.inr (.inr (.inr (.inl h))))) (fun h => False.elim h))))⟩)
        have ah0_2 := slRep.st k_Addr_pos ah0_2 crf (show ∀ b, b < w363.heap.size → ¬ (un (inBlk (Value.pointer (some ⟨p56, 0, none⟩))) (un (inBlk z368) (un (inBlk (Value.pointer (some ⟨p14, 0, none⟩))) (un (inBlk z367) nb)))) b → ¬ nb b ∧ ¬ (un (inBlk z368) (un (inBlk (Value.pointer (some ⟨p14, 0, none⟩))) (un (inBlk z367) nb))) b from fun b _ hs => ⟨fun x => x, fun h => hs (un_el h (fun h => (.inr (.inl h))) (fun h => un_el h (fun h => (.inr (.inr (.inl h)))) (fun h => un_el h (fun h => (.inr (.inr (.inr (.inl h))))) (fun h => False.elim h))))⟩)
        have ah0_3 := slRep.st k_Cidr_pos ah0_3 crf (show ∀ b, b < w363.heap.size → ¬ (un (inBlk (Value.pointer (some ⟨p56, 0, none⟩))) (un (inBlk z368) (un (inBlk (Value.pointer (some ⟨p14, 0, none⟩))) (un (inBlk z367) nb)))) b → ¬ nb b ∧ ¬ (un (inBlk z368) (un (inBlk (Value.pointer (some ⟨p14, 0, none⟩))) (un (inBlk z367) nb))) b from fun b _ hs => ⟨fun x => x, fun h => hs (un_el h (fun h => (.inr (.inl h))) (fun h => un_el h (fun h => (.inr (.inr (.inl h)))) (fun h => un_el h (fun h => (.inr (.inr (.inr (.inl h))))) (fun h => False.elim h))))⟩)
        have ah0_4 := slRep.st k_Port_pos ah0_4 crf (show ∀ b, b < w363.heap.size → ¬ (un (inBlk (Value.pointer (some ⟨p56, 0, none⟩))) (un (inBlk z368) (un (inBlk (Value.pointer (some ⟨p14, 0, none⟩))) (un (inBlk z367) nb)))) b → ¬ nb b ∧ ¬ (un (inBlk z368) (un (inBlk (Value.pointer (some ⟨p14, 0, none⟩))) (un (inBlk z367) nb))) b from fun b _ hs => ⟨fun x => x, fun h => hs (un_el h (fun h => (.inr (.inl h))) (fun h => un_el h (fun h => (.inr (.inr (.inl h)))) (fun h => un_el h (fun h => (.inr (.inr (.inr (.inl h))))) (fun h => False.elim h))))⟩)
        have ah1_0 := slRep.st k_Addr_pos ah1_0 crf (show ∀ b, b < w363.heap.size → ¬ (un (inBlk (Value.pointer (some ⟨p56, 0, none⟩))) (un (inBlk z368) (un (inBlk (Value.pointer (some ⟨p14, 0, none⟩))) (un (inBlk z367) nb)))) b → ¬ nb b ∧ ¬ (un (inBlk z368) (un (inBlk (Value.pointer (some ⟨p14, 0, none⟩))) (un (inBlk z367) nb))) b from fun b _ hs => ⟨fun x => x, fun h => hs (un_el h (fun h => (.inr (.inl h))) (fun h => un_el h (fun h => (.inr (.inr (.inl h)))) (fun h => un_el h (fun h => (.inr (.inr (.inr (.inl h))))) (fun h => False.elim h))))⟩)
        have gp1n : (G F w.heap.size (un (inBlk z368) (un (inBlk (Value.pointer (some ⟨p14, 0, none⟩))) (un (inBlk z367) nb)))) p1 := ⟨gp1.1, ((show ∀ b, b < w363.heap.size → ¬ (un (inBlk (Value.pointer (some ⟨p56, 0, none⟩))) (un (inBlk z368) (un (inBlk (Value.pointer (some ⟨p14, 0, none⟩))) (un (inBlk z367) nb)))) b → ¬ nb b ∧ ¬ (un (inBlk z368) (un (inBlk (Value.pointer (some ⟨p14, 0, none⟩))) (un (inBlk z367) nb))) b from fun b _ hs => ⟨fun x => x, fun h => hs (un_el h (fun h => (.inr (.inl h))) (fun h => un_el h (fun h => (.inr (.inr (.inl h)))) (fun h => un_el h (fun h => (.inr (.inr (.inr (.inl h))))) (fun h => False.elim h))))⟩) _ k4.lt gp1.2).2⟩
        have k4 := k4.ch0 crf
        have gp1 := gp1n
        have gp5n : (G F w.heap.size (un (inBlk z368) (un (inBlk (Value.pointer (some ⟨p14, 0, none⟩))) (un (inBlk z367) nb)))) p5 := ⟨gp5.1, ((show ∀ b, b < w363.heap.size → ¬ (un (inBlk (Value.pointer (some ⟨p56, 0, none⟩))) (un (inBlk z368) (un (inBlk (Value.pointer (some ⟨p14, 0, none⟩))) (un (inBlk z367) nb)))) b → ¬ nb b ∧ ¬ (un (inBlk z368) (un (inBlk (Value.pointer (some ⟨p14, 0, none⟩))) (un (inBlk z367) nb))) b from fun b _ hs => ⟨fun x => x, fun h => hs (un_el h (fun h => (.inr (.inl h))) (fun h => un_el h (fun h => (.inr (.inr (.inl h)))) (fun h => un_el h (fun h => (.inr (.inr (.inr (.inl h))))) (fun h => False.elim h))))⟩) _ k8.lt gp5.2).2⟩
        have k8 := k8.ch0 crf
        have gp5 := gp5n
        have h369 := h369.ch0 crf
        have h370 := h370.ch0 crf
        have h371 := h371.st crf (fun _ _ x => x) (show ∀ b, b < w363.heap.size → ¬ (un (inBlk (Value.pointer (some ⟨p56, 0, none⟩))) (un (inBlk z368) (un (inBlk (Value.pointer (some ⟨p14, 0, none⟩))) (un (inBlk z367) nb)))) b → ¬ nb b ∧ ¬ (un (inBlk z368) (un (inBlk (Value.pointer (some ⟨p14, 0, none⟩))) (un (inBlk z367) nb))) b from fun b _ hs => ⟨fun x => x, fun h => hs (un_el h (fun h => (.inr (.inl h))) (fun h => un_el h (fun h => (.inr (.inr (.inl h)))) (fun h => un_el h (fun h => (.inr (.inr (.inr (.inl h))))) (fun h => False.elim h))))⟩) (fun b h => (.inl h))
        have c45 := c45.then0 crf
        have hLn := runAO_next hL35 hq38 hb39
        exact ⟨rest49.length, Nat.lt_succ_self _, [(2, (Value.pointer (some ⟨p1, 0, none⟩))), (3, (Value.pointer (some ⟨p5, 0, none⟩))), (5, (Value.pointer (some ⟨p14, 0, none⟩))), (13, az0_4), (14, (Value.int .i64 ((a0.ports.length : Nat) : Int))), (15, (Value.int .i64 ((i34 + 1 : Nat) : Int)))], ⟨rfl, rfl, rfl, rfl, rfl, rfl, trivial⟩, ⟨rest49, i34 + 1, y365, z367, z368, rfl, rfl, c45, hat36.next, hLn, ah0_0, ah0_1, ah0_2, ah0_3, ah0_4, ah1_0, k4, k8, h370, h371, h369, gp1, gp5, (disSym d375), (disSym d376), d374, lo377⟩⟩
       ·
        have hb39 := ifF q359 hb39
        refine CW.skip ?_
        refine inB_n ?_
        refine thn_n ?_
        refine CW.region ?_
        refine rl_inc rfl hat36.lt ah0_4.big rfl ?_
        refine rl_move rfl rfl ?_
        refine RL.nil ?_
        refine thn_n ?_
        have crf : Ch nb w354 w354 := Ch.refl
        have ah0_0 := slRep.st k_Addr_pos ah0_0 crf (show ∀ b, b < w354.heap.size → ¬ (un (inBlk (Value.pointer (some ⟨p69, 0, none⟩))) (un (inBlk (Value.pointer (some ⟨p56, 0, none⟩))) (un (inBlk z261) (un (inBlk (Value.pointer (some ⟨p14, 0, none⟩))) (un (inBlk z260) nb))))) b → ¬ nb b ∧ ¬ (un (inBlk (Value.pointer (some ⟨p56, 0, none⟩))) (un (inBlk z261) (un (inBlk (Value.pointer (some ⟨p14, 0, none⟩))) (un (inBlk z260) nb)))) b from fun b _ hs => ⟨fun x => x, fun h => hs (un_el h (fun h => (.inr (.inl h))) (fun h => un_el h (fun h => (.inr (.inr (.inl h)))) (fun h => un_el h (fun h => (.inr (.inr (.inr (.inl h))))) (fun h => un_el h (fun h => (.inr (.inr (.inr (.inr (.inl h)))))) (fun h => False.elim h)))))⟩)
        have ah0_1 := slRep.st k_Addr_pos ah0_1 crf (show ∀ b, b < w354.heap.size → ¬ (un (inBlk (Value.pointer (some ⟨p69, 0, none⟩))) (un (inBlk (Value.pointer (some ⟨p56, 0, none⟩))) (un (inBlk z261) (un (inBlk (Value.pointer (some ⟨p14, 0, none⟩))) (un (inBlk z260) nb))))) b → ¬ nb b ∧ ¬ (un (inBlk (Value.pointer (some ⟨p56, 0, none⟩))) (un (inBlk z261) (un (inBlk (Value.pointer (some ⟨p14, 0, none⟩))) (un (inBlk z260) nb)))) b from fun b _ hs => ⟨fun x => x, fun h => hs (un_el h (fun h => (.inr (.inl h))) (fun h => un_el h (fun h => (.inr (.inr (.inl h)))) (fun h => un_el h (fun h => (.inr (.inr (.inr (.inl h))))) (fun h => un_el h (fun h => (.inr (.inr (.inr (.inr (.inl h)))))) (fun h => False.elim h)))))⟩)
        have ah0_2 := slRep.st k_Addr_pos ah0_2 crf (show ∀ b, b < w354.heap.size → ¬ (un (inBlk (Value.pointer (some ⟨p69, 0, none⟩))) (un (inBlk (Value.pointer (some ⟨p56, 0, none⟩))) (un (inBlk z261) (un (inBlk (Value.pointer (some ⟨p14, 0, none⟩))) (un (inBlk z260) nb))))) b → ¬ nb b ∧ ¬ (un (inBlk (Value.pointer (some ⟨p56, 0, none⟩))) (un (inBlk z261) (un (inBlk (Value.pointer (some ⟨p14, 0, none⟩))) (un (inBlk z260) nb)))) b from fun b _ hs => ⟨fun x => x, fun h => hs (un_el h (fun h => (.inr (.inl h))) (fun h => un_el h (fun h => (.inr (.inr (.inl h)))) (fun h => un_el h (fun h => (.inr (.inr (.inr (.inl h))))) (fun h => un_el h (fun h => (.inr (.inr (.inr (.inr (.inl h)))))) (fun h => False.elim h)))))⟩)
        have ah0_3 := slRep.st k_Cidr_pos ah0_3 crf (show ∀ b, b < w354.heap.size → ¬ (un (inBlk (Value.pointer (some ⟨p69, 0, none⟩))) (un (inBlk (Value.pointer (some ⟨p56, 0, none⟩))) (un (inBlk z261) (un (inBlk (Value.pointer (some ⟨p14, 0, none⟩))) (un (inBlk z260) nb))))) b → ¬ nb b ∧ ¬ (un (inBlk (Value.pointer (some ⟨p56, 0, none⟩))) (un (inBlk z261) (un (inBlk (Value.pointer (some ⟨p14, 0, none⟩))) (un (inBlk z260) nb)))) b from fun b _ hs => ⟨fun x => x, fun h => hs (un_el h (fun h => (.inr (.inl h))) (fun h => un_el h (fun h => (.inr (.inr (.inl h)))) (fun h => un_el h (fun h => (.inr (.inr (.inr (.inl h))))) (fun h => un_el h (fun h => (.inr (.inr (.inr (.inr (.inl h)))))) (fun h => False.elim h)))))⟩)
        have ah0_4 := slRep.st k_Port_pos ah0_4 crf (show ∀ b, b < w354.heap.size → ¬ (un (inBlk (Value.pointer (some ⟨p69, 0, none⟩))) (un (inBlk (Value.pointer (some ⟨p56, 0, none⟩))) (un (inBlk z261) (un (inBlk (Value.pointer (some ⟨p14, 0, none⟩))) (un (inBlk z260) nb))))) b → ¬ nb b ∧ ¬ (un (inBlk (Value.pointer (some ⟨p56, 0, none⟩))) (un (inBlk z261) (un (inBlk (Value.pointer (some ⟨p14, 0, none⟩))) (un (inBlk z260) nb)))) b from fun b _ hs => ⟨fun x => x, fun h => hs (un_el h (fun h => (.inr (.inl h))) (fun h => un_el h (fun h => (.inr (.inr (.inl h)))) (fun h => un_el h (fun h => (.inr (.inr (.inr (.inl h))))) (fun h => un_el h (fun h => (.inr (.inr (.inr (.inr (.inl h)))))) (fun h => False.elim h)))))⟩)
        have ah1_0 := slRep.st k_Addr_pos ah1_0 crf (show ∀ b, b < w354.heap.size → ¬ (un (inBlk (Value.pointer (some ⟨p69, 0, none⟩))) (un (inBlk (Value.pointer (some ⟨p56, 0, none⟩))) (un (inBlk z261) (un (inBlk (Value.pointer (some ⟨p14, 0, none⟩))) (un (inBlk z260) nb))))) b → ¬ nb b ∧ ¬ (un (inBlk (Value.pointer (some ⟨p56, 0, none⟩))) (un (inBlk z261) (un (inBlk (Value.pointer (some ⟨p14, 0, none⟩))) (un (inBlk z260) nb)))) b from fun b _ hs => ⟨fun x => x, fun h => hs (un_el h (fun h => (.inr (.inl h))) (fun h => un_el h (fun h => (.inr (.inr (.inl h)))) (fun h => un_el h (fun h => (.inr (.inr (.inr (.inl h))))) (fun h => un_el h (fun h => (.inr (.inr (.inr (.inr (.inl h)))))) (fun h => False.elim h)))))⟩)
        have gp1n : (G F w.heap.size (un (inBlk (Value.pointer (some ⟨p56, 0, none⟩))) (un (inBlk z261) (un (inBlk (Value.pointer (some ⟨p14, 0, none⟩))) (un (inBlk z260) nb))))) p1 := ⟨gp1.1, ((show ∀ b, b < w354.heap.size → ¬ (un (inBlk (Value.pointer (some ⟨p69, 0, none⟩))) (un (inBlk (Value.pointer (some ⟨p56, 0, none⟩))) (un (inBlk z261) (un (inBlk (Value.pointer (some ⟨p14, 0, none⟩))) (un (inBlk z260) nb))))) b → ¬ nb b ∧ ¬ (un (inBlk (Value.pointer (some ⟨p56, 0, none⟩))) (un (inBlk z261) (un (inBlk (Value.pointer (some ⟨p14, 0, none⟩))) (un (inBlk z260) nb)))) b from fun b _ hs => ⟨fun x => x, fun h => hs (un_el h (fun h => (.inr (.inl h))) (fun h => un_el h (fun h => (.inr (.inr (.inl h)))) (fun h => un_el h (fun h => (.inr (.inr (.inr (.inl h))))) (fun h => un_el h (fun h => (.inr (.inr (.inr (.inr (.inl h)))))) (fun h => False.elim h)))))⟩) _ k4.lt gp1.2).2⟩
        have k4 := k4.ch0 crf
        have gp1 := gp1n
        have gp5n : (G F w.heap.size (un (inBlk (Value.pointer (some ⟨p56, 0, none⟩))) (un (inBlk z261) (un (inBlk (Value.pointer (some ⟨p14, 0, none⟩))) (un (inBlk z260) nb))))) p5 := ⟨gp5.1, ((show ∀ b, b < w354.heap.size → ¬ (un (inBlk (Value.pointer (some ⟨p69, 0, none⟩))) (un (inBlk (Value.pointer (some ⟨p56, 0, none⟩))) (un (inBlk z261) (un (inBlk (Value.pointer (some ⟨p14, 0, none⟩))) (un (inBlk z260) nb))))) b → ¬ nb b ∧ ¬ (un (inBlk (Value.pointer (some ⟨p56, 0, none⟩))) (un (inBlk z261) (un (inBlk (Value.pointer (some ⟨p14, 0, none⟩))) (un (inBlk z260) nb)))) b from fun b _ hs => ⟨fun x => x, fun h => hs (un_el h (fun h => (.inr (.inl h))) (fun h => un_el h (fun h => (.inr (.inr (.inl h)))) (fun h => un_el h (fun h => (.inr (.inr (.inr (.inl h))))) (fun h => un_el h (fun h => (.inr (.inr (.inr (.inr (.inl h)))))) (fun h => False.elim h)))))⟩) _ k8.lt gp5.2).2⟩
        have k8 := k8.ch0 crf
        have gp5 := gp5n
        have k67 := k67.ch0 crf
        have h262 := h262.ch0 crf
        have h263 := h263.ch0 crf
        have h264 := h264.st crf (fun _ _ x => x) (show ∀ b, b < w354.heap.size → ¬ (un (inBlk (Value.pointer (some ⟨p69, 0, none⟩))) (un (inBlk (Value.pointer (some ⟨p56, 0, none⟩))) (un (inBlk z261) (un (inBlk (Value.pointer (some ⟨p14, 0, none⟩))) (un (inBlk z260) nb))))) b → ¬ nb b ∧ ¬ (un (inBlk (Value.pointer (some ⟨p56, 0, none⟩))) (un (inBlk z261) (un (inBlk (Value.pointer (some ⟨p14, 0, none⟩))) (un (inBlk z260) nb)))) b from fun b _ hs => ⟨fun x => x, fun h => hs (un_el h (fun h => (.inr (.inl h))) (fun h => un_el h (fun h => (.inr (.inr (.inl h)))) (fun h => un_el h (fun h => (.inr (.inr (.inr (.inl h))))) (fun h => un_el h (fun h => (.inr (.inr (.inr (.inr (.inl h)))))) (fun h => False.elim h)))))⟩) (fun b h => (.inr (.inl h)))
        have c45 := c45.then0 crf
        have crf : Ch nb w354 w354 := Ch.refl
        have ah0_0 := slRep.st k_Addr_pos ah0_0 crf (show ∀ b, b < w354.heap.size → ¬ (un (inBlk (Value.pointer (some ⟨p56, 0, none⟩))) (un (inBlk z261) (un (inBlk (Value.pointer (some ⟨p14, 0, none⟩))) (un (inBlk z260) nb)))) b → ¬ nb b ∧ ¬ (un (inBlk z261) (un (inBlk (Value.pointer (some ⟨p14, 0, none⟩))) (un (inBlk z260) nb))) b from fun b _ hs => ⟨fun x => x, fun h => hs (un_el h (fun h => (.inr (.inl h))) (fun h => un_el h (fun h => (.inr (.inr (.inl h)))) (fun h => un_el h (fun h => (.inr (.inr (.inr (.inl h))))) (fun h => False.elim h))))⟩)
        have ah0_1 := slRep.st k_Addr_pos ah0_1 crf (show ∀ b, b < w354.heap.size → ¬ (un (inBlk (Value.pointer (some ⟨p56, 0, none⟩))) (un (inBlk z261) (un (inBlk (Value.pointer (some ⟨p14, 0, none⟩))) (un (inBlk z260) nb)))) b → ¬ nb b ∧ ¬ (un (inBlk z261) (un (inBlk (Value.pointer (some ⟨p14, 0, none⟩))) (un (inBlk z260) nb))) b from fun b _ hs => ⟨fun x => x, fun h => hs (un_el h (fun h => (.inr (.inl h))) (fun h => un_el h (fun h => (.inr (.inr (.inl h)))) (fun h => un_el h (fun h => (.inr (.inr (.inr (.inl h))))) (fun h => False.elim h))))⟩)
        have ah0_2 := slRep.st k_Addr_pos ah0_2 crf (show ∀ b, b < w354.heap.size → ¬ (un (inBlk (Value.pointer (some ⟨p56, 0, none⟩))) (un (inBlk z261) (un (inBlk (Value.pointer (some ⟨p14, 0, none⟩))) (un (inBlk z260) nb)))) b → ¬ nb b ∧ ¬ (un (inBlk z261) (un (inBlk (Value.pointer (some ⟨p14, 0, none⟩))) (un (inBlk z260) nb))) b from fun b _ hs => ⟨fun x => x, fun h => hs (un_el h (fun h => (.inr (.inl h))) (fun h => un_el h (fun h => (.inr (.inr (.inl h)))) (fun h => un_el h (fun h => (.inr (.inr (.inr (.inl h))))) (fun h => False.elim h))))⟩)
        have ah0_3 := slRep.st k_Cidr_pos ah0_3 crf (show ∀ b, b < w354.heap.size → ¬ (un (inBlk (Value.pointer (some ⟨p56, 0, none⟩))) (un (inBlk z261) (un (inBlk (Value.pointer (some ⟨p14, 0, none⟩))) (un (inBlk z260) nb)))) b → ¬ nb b ∧ ¬ (un (inBlk z261) (un (inBlk (Value.pointer (some ⟨p14, 0, none⟩))) (un (inBlk z260) nb))) b from fun b _ hs => ⟨fun x => x, fun h => hs (un_el h (fun h => (.inr (.inl h))) (fun h => un_el h (fun h => (.inr (.inr (.inl h)))) (fun h => un_el h (fun h => (.inr (.inr (.inr (.inl h))))) (fun h => False.elim h))))⟩)
        have ah0_4 := slRep.st k_Port_pos ah0_4 crf (show ∀ b, b < w354.heap.size → ¬ (un (inBlk (Value.pointer (some ⟨p56, 0, none⟩))) (un (inBlk z261) (un (inBlk (Value.pointer (some ⟨p14, 0, none⟩))) (un (inBlk z260) nb)))) b → ¬ nb b ∧ ¬ (un (inBlk z261) (un (inBlk (Value.pointer (some ⟨p14, 0, none⟩))) (un (inBlk z260) nb))) b from fun b _ hs => ⟨fun x => x, fun h => hs (un_el h (fun h => (.inr (.inl h))) (fun h => un_el h (fun h => (.inr (.inr (.inl h)))) (fun h => un_el h (fun h => (.inr (.inr (.inr (.inl h))))) (fun h => False.elim h))))⟩)
        have ah1_0 := slRep.st k_Addr_pos ah1_0 crf (show ∀ b, b < w354.heap.size → ¬ (un (inBlk (Value.pointer (some ⟨p56, 0, none⟩))) (un (inBlk z261) (un (inBlk (Value.pointer (some ⟨p14, 0, none⟩))) (un (inBlk z260) nb)))) b → ¬ nb b ∧ ¬ (un (inBlk z261) (un (inBlk (Value.pointer (some ⟨p14, 0, none⟩))) (un (inBlk z260) nb))) b from fun b _ hs => ⟨fun x => x, fun h => hs (un_el h (fun h => (.inr (.inl h))) (fun h => un_el h (fun h => (.inr (.inr (.inl h)))) (fun h => un_el h (fun h => (.inr (.inr (.inr (.inl h))))) (fun h => False.elim h))))⟩)
        have gp1n : (G F w.heap.size (un (inBlk z261) (un (inBlk (Value.pointer (some ⟨p14, 0, none⟩))) (un (inBlk z260) nb)))) p1 := ⟨gp1.1, ((show ∀ b, b < w354.heap.size → ¬ (un (inBlk (Value.pointer (some ⟨p56, 0, none⟩))) (un (inBlk z261) (un (inBlk (Value.pointer (some ⟨p14, 0, none⟩))) (un (inBlk z260) nb)))) b → ¬ nb b ∧ ¬ (un (inBlk z261) (un (inBlk (Value.pointer (some ⟨p14, 0, none⟩))) (un (inBlk z260) nb))) b from fun b _ hs => ⟨fun x => x, fun h => hs (un_el h (fun h => (.inr (.inl h))) (fun h => un_el h (fun h => (.inr (.inr (.inl h)))) (fun h => un_el h (fun h => (.inr (.inr (.inr (.inl h))))) (fun h => False.elim h))))⟩) _ k4.lt gp1.2).2⟩
        have k4 := k4.ch0 crf
        have gp1 := gp1n
        have gp5n : (G F w.heap.size (un (inBlk z261) (un (inBlk (Value.pointer (some ⟨p14, 0, none⟩))) (un (inBlk z260) nb)))) p5 := ⟨gp5.1, ((show ∀ b, b < w354.heap.size → ¬ (un (inBlk (Value.pointer (some ⟨p56, 0, none⟩))) (un (inBlk z261) (un (inBlk (Value.pointer (some ⟨p14, 0, none⟩))) (un (inBlk z260) nb)))) b → ¬ nb b ∧ ¬ (un (inBlk z261) (un (inBlk (Value.pointer (some ⟨p14, 0, none⟩))) (un (inBlk z260) nb))) b from fun b _ hs => ⟨fun x => x, fun h => hs (un_el h (fun h => (.inr (.inl h))) (fun h => un_el h (fun h => (.inr (.inr (.inl h)))) (fun h => un_el h (fun h => (.inr (.inr (.inr (.inl h))))) (fun h => False.elim h))))⟩) _ k8.lt gp5.2).2⟩
        have k8 := k8.ch0 crf
        have gp5 := gp5n
        have h262 := h262.ch0 crf
        have h263 := h263.ch0 crf
        have h264 := h264.st crf (fun _ _ x => x) (show ∀ b, b < w354.heap.size → ¬ (un (inBlk (Value.pointer (some ⟨p56, 0, none⟩))) (un (inBlk z261) (un (inBlk (Value.pointer (some ⟨p14, 0, none⟩))) (un (inBlk z260) nb)))) b → ¬ nb b ∧ ¬ (un (inBlk z261) (un (inBlk (Value.pointer (some ⟨p14, 0, none⟩))) (un (inBlk z260) nb))) b from fun b _ hs => ⟨fun x => x, fun h => hs (un_el h (fun h => (.inr (.inl h))) (fun h => un_el h (fun h => (.inr (.inr (.inl h)))) (fun h => un_el h (fun h => (.inr (.inr (.inr (.inl h))))) (fun h => False.elim h))))⟩) (fun b h => (.inl h))
        have c45 := c45.then0 crf
        have hLn := runAO_next hL35 hq38 hb39
        exact ⟨rest49.length, Nat.lt_succ_self _, [(2, (Value.pointer (some ⟨p1, 0, none⟩))), (3, (Value.pointer (some ⟨p5, 0, none⟩))), (5, (Value.pointer (some ⟨p14, 0, none⟩))), (13, az0_4), (14, (Value.int .i64 ((a0.ports.length : Nat) : Int))), (15, (Value.int .i64 ((i34 + 1 : Nat) : Int)))], ⟨rfl, rfl, rfl, rfl, rfl, rfl, trivial⟩, ⟨rest49, i34 + 1, y258, z260, z261, rfl, rfl, c45, hat36.next, hLn, ah0_0, ah0_1, ah0_2, ah0_3, ah0_4, ah1_0, k4, k8, h263, h264, h262, gp1, gp5, (disSym d268), (disSym d269), d267, lo270⟩⟩
   ·
    obtain rfl := hat36.nil q48
    have hLf : x23 = o40 := runAO_done hL35
    refine CW.exit (thn_exit (thn_exit (inB_hit ?_)))
    exact ⟨x23, v24, v26, ⟨rfl, trivial⟩, c45, hLf, ah0_0, ah0_1, ah0_2, ah0_3, ah0_4, ah1_0, k4, k8, h25, h27, k28, gp1, gp5, d30, d31, d32, lo29⟩
  ·
   rintro _ w386 ⟨x23, v24, v26, hE387, c385, f388, ah0_0, ah0_1, ah0_2, ah0_3, ah0_4, ah1_0, k4, k8, h25, h27, k28, gp1, gp5, d30, d31, d32, lo29⟩
   subst f388
   refine thn_n (CW.sub [(5, (Value.pointer (some ⟨p14, 0, none⟩)))] hE387 ?_)
   refine CW.seq (CW.region ?_)
   refine rl_move rfl rfl ?_
   refine rl_nilCheck rfl rfl ?_
   refine rl_fieldAddr rfl fa59_1 rfl ?_
   refine rl_loadS (v := v26) rfl Try.isAgg34 (k28.cell rfl) rfl ?_
   have h27 := SlO.read (S' := (un (inBlk (Value.pointer (some ⟨p14, 0, none⟩))) (un (inBlk v24) nb))) k_Face_pos h27 (fun b hs h => hs (un_el h (fun h => (.inr (.inl h))) (fun h => un_el h (fun h => (.inr (.inr (.inl h)))) (fun h => False.elim h)))) (fun b hb => fun h => un_el h (fun h => d30 b hb h) (fun h => un_el h (fun h => d31 b hb h) (fun h => h)))
   have crf : Ch nb w386 w386 := Ch.refl
   have ah0_0 := slRep.st k_Addr_pos ah0_0 crf (show ∀ b, b < w386.heap.size → ¬ (un (inBlk v26) (un (inBlk (Value.pointer (some ⟨p14, 0, none⟩))) (un (inBlk v24) nb))) b → ¬ nb b ∧ ¬ (un (inBlk (Value.pointer (some ⟨p14, 0, none⟩))) (un (inBlk v24) nb)) b from fun b _ hs => ⟨fun x => x, fun h => hs (un_el h (fun h => (.inr (.inl h))) (fun h => un_el h (fun h => (.inr (.inr (.inl h)))) (fun h => False.elim h)))⟩)
   have ah0_1 := slRep.st k_Addr_pos ah0_1 crf (show ∀ b, b < w386.heap.size → ¬ (un (inBlk v26) (un (inBlk (Value.pointer (some ⟨p14, 0, none⟩))) (un (inBlk v24) nb))) b → ¬ nb b ∧ ¬ (un (inBlk (Value.pointer (some ⟨p14, 0, none⟩))) (un (inBlk v24) nb)) b from fun b _ hs => ⟨fun x => x, fun h => hs (un_el h (fun h => (.inr (.inl h))) (fun h => un_el h (fun h => (.inr (.inr (.inl h)))) (fun h => False.elim h)))⟩)
   have ah0_2 := slRep.st k_Addr_pos ah0_2 crf (show ∀ b, b < w386.heap.size → ¬ (un (inBlk v26) (un (inBlk (Value.pointer (some ⟨p14, 0, none⟩))) (un (inBlk v24) nb))) b → ¬ nb b ∧ ¬ (un (inBlk (Value.pointer (some ⟨p14, 0, none⟩))) (un (inBlk v24) nb)) b from fun b _ hs => ⟨fun x => x, fun h => hs (un_el h (fun h => (.inr (.inl h))) (fun h => un_el h (fun h => (.inr (.inr (.inl h)))) (fun h => False.elim h)))⟩)
   have ah0_3 := slRep.st k_Cidr_pos ah0_3 crf (show ∀ b, b < w386.heap.size → ¬ (un (inBlk v26) (un (inBlk (Value.pointer (some ⟨p14, 0, none⟩))) (un (inBlk v24) nb))) b → ¬ nb b ∧ ¬ (un (inBlk (Value.pointer (some ⟨p14, 0, none⟩))) (un (inBlk v24) nb)) b from fun b _ hs => ⟨fun x => x, fun h => hs (un_el h (fun h => (.inr (.inl h))) (fun h => un_el h (fun h => (.inr (.inr (.inl h)))) (fun h => False.elim h)))⟩)
   have ah0_4 := slRep.st k_Port_pos ah0_4 crf (show ∀ b, b < w386.heap.size → ¬ (un (inBlk v26) (un (inBlk (Value.pointer (some ⟨p14, 0, none⟩))) (un (inBlk v24) nb))) b → ¬ nb b ∧ ¬ (un (inBlk (Value.pointer (some ⟨p14, 0, none⟩))) (un (inBlk v24) nb)) b from fun b _ hs => ⟨fun x => x, fun h => hs (un_el h (fun h => (.inr (.inl h))) (fun h => un_el h (fun h => (.inr (.inr (.inl h)))) (fun h => False.elim h)))⟩)
   have ah1_0 := slRep.st k_Addr_pos ah1_0 crf (show ∀ b, b < w386.heap.size → ¬ (un (inBlk v26) (un (inBlk (Value.pointer (some ⟨p14, 0, none⟩))) (un (inBlk v24) nb))) b → ¬ nb b ∧ ¬ (un (inBlk (Value.pointer (some ⟨p14, 0, none⟩))) (un (inBlk v24) nb)) b from fun b _ hs => ⟨fun x => x, fun h => hs (un_el h (fun h => (.inr (.inl h))) (fun h => un_el h (fun h => (.inr (.inr (.inl h)))) (fun h => False.elim h)))⟩)
   have gp1n : (G F w.heap.size (un (inBlk (Value.pointer (some ⟨p14, 0, none⟩))) (un (inBlk v24) nb))) p1 := ⟨gp1.1, ((show ∀ b, b < w386.heap.size → ¬ (un (inBlk v26) (un (inBlk (Value.pointer (some ⟨p14, 0, none⟩))) (un (inBlk v24) nb))) b → ¬ nb b ∧ ¬ (un (inBlk (Value.pointer (some ⟨p14, 0, none⟩))) (un (inBlk v24) nb)) b from fun b _ hs => ⟨fun x => x, fun h => hs (un_el h (fun h => (.inr (.inl h))) (fun h => un_el h (fun h => (.inr (.inr (.inl h)))) (fun h => False.elim h)))⟩) _ k4.lt gp1.2).2⟩
   have k4 := k4.ch0 crf
   have gp1 := gp1n
   have gp5n : (G F w.heap.size (un (inBlk (Value.pointer (some ⟨p14, 0, none⟩))) (un (inBlk v24) nb))) p5 := ⟨gp5.1, ((show ∀ b, b < w386.heap.size → ¬ (un (inBlk v26) (un (inBlk (Value.pointer (some ⟨p14, 0, none⟩))) (un (inBlk v24) nb))) b → ¬ nb b ∧ ¬ (un (inBlk (Value.pointer (some ⟨p14, 0, none⟩))) (un (inBlk v24) nb)) b from fun b _ hs => ⟨fun x => x, fun h => hs (un_el h (fun h => (.inr (.inl h))) (fun h => un_el h (fun h => (.inr (.inr (.inl h)))) (fun h => False.elim h)))⟩) _ k8.lt gp5.2).2⟩
   have k8 := k8.ch0 crf
   have gp5 := gp5n
   have h25 := h25.ch0 crf
   have k28 := k28.ch0 crf
   have c385 := c385.then0 crf
   obtain ⟨y392, hy393, hS⟩ := bindS hS
   refine rl_callF rfl en14 rfl (ctr14 (G F w.heap.size (un (inBlk (Value.pointer (some ⟨p14, 0, none⟩))) (un (inBlk v24) nb))) w386 x23.list v26 h27 y392 hy393) ?_
   rintro v394 w390 ⟨_, rfl, h395, c391⟩
   have hf396 : ∀ b, inBlk v394 b → w386.heap.size ≤ b := fun b hb => (h395.lt b hb).1
   have h395 := SlO.back (S' := un (inBlk v394) (un (inBlk (Value.pointer (some ⟨p14, 0, none⟩))) (un (inBlk v24) nb))) h395 (un_lt k28.ltp (un_lt h25.ltp nbS)) c385.size (fun _ => Or.comm)
   have d397 : ∀ b, inBlk v394 b → ¬ inBlk (Value.pointer (some ⟨p14, 0, none⟩)) b := disNew hf396 k28.ltp
   have d398 : ∀ b, inBlk v394 b → ¬ inBlk v24 b := disNew hf396 h25.ltp
   have ah0_0 := slRep.st k_Addr_pos ah0_0 c391 (admNew hf396 (fun _ x => x))
   have ah0_1 := slRep.st k_Addr_pos ah0_1 c391 (admNew hf396 (fun _ x => x))
   have ah0_2 := slRep.st k_Addr_pos ah0_2 c391 (admNew hf396 (fun _ x => x))
   have ah0_3 := slRep.st k_Cidr_pos ah0_3 c391 (admNew hf396 (fun _ x => x))
   have ah0_4 := slRep.st k_Port_pos ah0_4 c391 (admNew hf396 (fun _ x => x))
   have ah1_0 := slRep.st k_Addr_pos ah1_0 c391 (admNew hf396 (fun _ x => x))
   have gp1n : (G F w.heap.size (un (inBlk v394) (un (inBlk (Value.pointer (some ⟨p14, 0, none⟩))) (un (inBlk v24) nb)))) p1 := ⟨gp1.1, ((admNew hf396 (fun _ x => x)) _ k4.lt gp1.2).2⟩
   have k4 := k4.ch0 c391
   have gp1 := gp1n
   have gp5n : (G F w.heap.size (un (inBlk v394) (un (inBlk (Value.pointer (some ⟨p14, 0, none⟩))) (un (inBlk v24) nb)))) p5 := ⟨gp5.1, ((admNew hf396 (fun _ x => x)) _ k8.lt gp5.2).2⟩
   have k8 := k8.ch0 c391
   have gp5 := gp5n
   have h25 := h25.ch0 c391
   have k28 := k28.ch0 c391
   have h27 := slRep.st k_Face_pos h27 c391 (admNew hf396 (fun _ x => x))
   have c385 := c385.then0 c391
   refine rl_assign rfl rfl ?_
   refine RL.nil ?_
   refine thn_n ?_
   refine CW.ret ?_
   obtain rfl := Option.some.inj hS
   exact ret1 rfl ⟨v394, rfl, h395.out, c385⟩
end Go.Proofs.Ytejkknmedebgnaa
