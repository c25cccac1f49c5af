/- The walks through the code: each call comes to its printed function. Written by a program of this session. -/
import Derived.Test.YtgcneihmkkldeaaGreatM
import Derived.Test.YtgcneihmkkldeaaGreatL
import Derived.Test.YtgcneihmkkldeaaGreatW4
namespace Go.Proofs.YtgcneihmkkldeaaGreat
open Go K
set_option linter.unusedVariables false
/-- lb/resolve.Resolve -/
theorem ctr10 (F : Nat → Prop) (w : World) (a0 : Service) (az0_0 az0_1 az0_2 az0_3 az0_4 : Value) (ah0_0 : slRep k_Addr F w a0.cluster az0_0) (ah0_1 : slRep k_Addr F w a0.external az0_1) (ah0_2 : slRep k_Addr F w a0.balancers az0_2) (ah0_3 : slRep k_Cidr F w a0.ranges az0_3) (ah0_4 : slRep k_Port F w a0.ports az0_4) (a1 : (List Slice)) (av1 : Value) (ah1 : slRep k_Slice F w a1 av1) (a2 : Node) (az2_0 : Value) (ah2_0 : slRep k_Addr F w a2.addrs az2_0) (r : Resolved) (hs : F10_Resolve a0 a1 a2 = some r) :
    Ret Tryz.prog 10 #[(Value.agg (Service.c a0 az0_0 az0_1 az0_2 az0_3 az0_4).toArray), av1, (Value.agg (Node.c a2 az2_0).toArray)] w fun v w' => ∃ (y0_0 : Value) (y0_1 : Value), v = (Value.agg (Resolved.c r y0_0 y0_1).toArray) ∧ slRep k_Face (fun b => F b ∨ w.heap.size ≤ b) w' r.faces y0_0 ∧ slRep k_Group (fun b => F b ∨ w.heap.size ≤ b) w' r.groups y0_1 ∧ Ch nb w w' := by
 have hS := hs
 have c0 : Ch nb w w := Ch.refl
 have ah0_0 := slRep.enter k_Addr_pos ah0_0
 have ah0_1 := slRep.enter k_Addr_pos ah0_1
 have ah0_2 := slRep.enter k_Addr_pos ah0_2
 have ah0_3 := slRep.enter k_Cidr_pos ah0_3
 have ah0_4 := slRep.enter k_Port_pos ah0_4
 have ah1 := slRep.enter k_Slice_pos ah1
 have ah2_0 := slRep.enter k_Addr_pos ah2_0
 refine Ret.of (n := 68) (args := [_, _, _]) (rs := [.cell 6 39]) Tryz.func10 rfl rfl rfl rfl ?_
 refine CW.seq (CW.region ?_)
 refine rl_boxA (cs := (Service.c a0 az0_0 az0_1 az0_2 az0_3 az0_4)) rfl rfl ?_
 intro p1 w2 n3 k4
 have gp1 : (G F w.heap.size nb) p1 := ⟨.inr (by rw [n3.eq]; exact c0.size), fun h => absurd (nbS _ h) (by rw [n3.eq]; exact Nat.lt_irrefl _)⟩
 have ah0_0 := slRep.ch k_Addr_pos ah0_0 n3.ch
 have ah0_1 := slRep.ch k_Addr_pos ah0_1 n3.ch
 have ah0_2 := slRep.ch k_Addr_pos ah0_2 n3.ch
 have ah0_3 := slRep.ch k_Cidr_pos ah0_3 n3.ch
 have ah0_4 := slRep.ch k_Port_pos ah0_4 n3.ch
 have ah1 := slRep.ch k_Slice_pos ah1 n3.ch
 have ah2_0 := slRep.ch k_Addr_pos ah2_0 n3.ch
 have c0 := c0.then0 n3.ch
 refine rl_boxA (cs := (Node.c a2 az2_0)) rfl rfl ?_
 intro p5 w6 n7 k8
 have gp5 : (G F w.heap.size nb) p5 := ⟨.inr (by rw [n7.eq]; exact c0.size), fun h => absurd (nbS _ h) (by rw [n7.eq]; exact Nat.lt_irrefl _)⟩
 have ah0_0 := slRep.ch k_Addr_pos ah0_0 n7.ch
 have ah0_1 := slRep.ch k_Addr_pos ah0_1 n7.ch
 have ah0_2 := slRep.ch k_Addr_pos ah0_2 n7.ch
 have ah0_3 := slRep.ch k_Cidr_pos ah0_3 n7.ch
 have ah0_4 := slRep.ch k_Port_pos ah0_4 n7.ch
 have ah1 := slRep.ch k_Slice_pos ah1 n7.ch
 have ah2_0 := slRep.ch k_Addr_pos ah2_0 n7.ch
 have k4 := k4.ch0 n7.ch
 have c0 := c0.then0 n7.ch
 refine rl_alloc (Resolved.c Resolved.z (Value.slice none 0 0) (Value.slice none 0 0)) Tryz.zeroValue39 rfl rfl ?_
 intro p9 w10 n11 k12
 have lo13 : ∀ b, inBlk (PV p9) b → w.heap.size ≤ b := fun b h => Nat.le_trans c0.size (n11.fresh b h)
 have ah0_0 := slRep.st k_Addr_pos ah0_0 n11.ch (admNew n11.fresh (fun _ x => x))
 have ah0_1 := slRep.st k_Addr_pos ah0_1 n11.ch (admNew n11.fresh (fun _ x => x))
 have ah0_2 := slRep.st k_Addr_pos ah0_2 n11.ch (admNew n11.fresh (fun _ x => x))
 have ah0_3 := slRep.st k_Cidr_pos ah0_3 n11.ch (admNew n11.fresh (fun _ x => x))
 have ah0_4 := slRep.st k_Port_pos ah0_4 n11.ch (admNew n11.fresh (fun _ x => x))
 have ah1 := slRep.st k_Slice_pos ah1 n11.ch (admNew n11.fresh (fun _ x => x))
 have ah2_0 := slRep.st k_Addr_pos ah2_0 n11.ch (admNew n11.fresh (fun _ x => x))
 have gp1n : (G F w.heap.size (un (inBlk (PV p9)) nb)) p1 := ⟨gp1.1, ((admNew n11.fresh (fun _ x => x)) _ k4.lt gp1.2).2⟩
 have k4 := k4.ch0 n11.ch
 have gp1 := gp1n
 have gp5n : (G F w.heap.size (un (inBlk (PV p9)) nb)) p5 := ⟨gp5.1, ((admNew n11.fresh (fun _ x => x)) _ k8.lt gp5.2).2⟩
 have k8 := k8.ch0 n11.ch
 have gp5 := gp5n
 have c0 := c0.then0 n11.ch
 refine RL.nil (thn_n (CW.seq ?_))
 obtain ⟨y16, hy17, hS⟩ := bindS hS
 refine CW.draw 7 [(none, fun fx O uu wx => uu = (PV p1)), (none, fun fx O uu wx => uu = (Value.agg (Key.enc a0.key).toArray)), (none, fun fx O uu wx => uu = (Value.agg (Service.c a0 az0_0 az0_1 az0_2 az0_3 az0_4).toArray)), (none, fun fx O uu wx => uu = (Value.agg (Node.c a2 az2_0).toArray)), (none, fun fx O uu wx => ∃ (v18 : Value), uu = v18 ∧ slRep k_Face (G F w.heap.size (un O (un (inBlk (PV p9)) nb))) wx y16 v18), (none, fun fx O uu wx => ∃ (v18_5 : Value), uu = (Value.agg (Resolved.c ({ key := a0.key, faces := y16, groups := [] } : Resolved) v18_5 (Value.slice none 0 0)).toArray) ∧ slRep k_Face (G F w.heap.size (un O (un (inBlk (PV p9)) nb))) wx y16 v18_5), (some false, fun _ O uu wx => ∃ (p20 : Nat), uu = (PV p20) ∧ O = (inBlk (PV p20)) ∧ Blk wx p20 39 (Resolved.c Resolved.z (Value.slice none 0 0) (Value.slice none 0 0)))] [[], [0], [], [], [2, 3], [1, 4], []] [6, 5] nb (fun _ h => h.elim) mixed rfl rfl rfl rfl ?_ ?_
 ·
  refine Each.consS (fun fl O wk hE hN hO ck => ?_) ?_
  ·
   refine rl_fieldAddr rfl fa28_0 rfl ?_
   exact RL.nil ⟨_, rfl, Ch.refl, rfl⟩
  refine Each.consS (fun fl O wk hE hN hO ck => ?_) ?_
  ·
   have k4 := k4.ch0 ck
   refine Need.o1 rfl rfl rfl (fun _ h => h) ?_
   refine rl_loadA (cs := (Key.enc a0.key)) rfl Tryz.isAgg23 Tryz.sizeOf23 (k4.segAt 0 2) rfl rfl ?_
   exact RL.nil ⟨_, rfl, Ch.refl, rfl⟩
  refine Each.consS (fun fl O wk hE hN hO ck => ?_) ?_
  ·
   have k4 := k4.ch0 ck
   refine rl_loadA (cs := (Service.c a0 az0_0 az0_1 az0_2 az0_3 az0_4)) rfl Tryz.isAgg28 Tryz.sizeOf28 (k4.segAt 0 13) rfl rfl ?_
   exact RL.nil ⟨_, rfl, Ch.refl, rfl⟩
  refine Each.consS (fun fl O wk hE hN hO ck => ?_) ?_
  ·
   have k8 := k8.ch0 ck
   refine rl_loadA (cs := (Node.c a2 az2_0)) rfl Tryz.isAgg31 Tryz.sizeOf31 (k8.segAt 0 3) rfl rfl ?_
   exact RL.nil ⟨_, rfl, Ch.refl, rfl⟩
  refine Each.consA ⟨fun _ _ _ _ _ cc hh => by obtain ⟨v18, e, h19⟩ := hh; exact ⟨v18, e, slRep.ch k_Face_pos h19 cc⟩, fun _ _ h' O O' D _ wx wy hfl hD hO' cc hh => by obtain ⟨v18, e, h19⟩ := hh; have ad := admGh (S := (un (inBlk (PV p9)) nb)) hD hO'; exact ⟨v18, e, slRep.st k_Face_pos h19 cc ad⟩, fun fl O wk hE hN hO ck => ?_⟩ ?_
  ·
   have ha41 : ∀ b, b < w10.heap.size → ¬ (un (inBlk (PV p9)) nb) b → ¬ nb b ∧ ¬ (un O (un (inBlk (PV p9)) nb)) b := fun b hb hs => ⟨fun h => h.elim, fun h => un_el h (fun ho => (hO b ho).1.elim (fun h => h.elim) (fun h => Nat.not_le_of_lt hb h)) (fun h => un_el h (fun h => hs (.inl h)) (fun h => False.elim h))⟩
   have ah0_0 := slRep.st k_Addr_pos ah0_0 ck ha41
   have ah0_1 := slRep.st k_Addr_pos ah0_1 ck ha41
   have ah0_2 := slRep.st k_Addr_pos ah0_2 ck ha41
   have ah0_3 := slRep.st k_Cidr_pos ah0_3 ck ha41
   have ah0_4 := slRep.st k_Port_pos ah0_4 ck ha41
   have ah2_0 := slRep.st k_Addr_pos ah2_0 ck ha41
   have k12 := k12.ch0 ck
   have c0 := c0.then0 ck
   refine Need.o1 rfl rfl rfl (fun _ h => h) ?_
   refine Need.o1 rfl rfl rfl (fun _ h => h) ?_
   refine rl_callF rfl en24 rfl (ctr24 (G F w.heap.size (un O (un (inBlk (PV p9)) nb))) wk a0 az0_0 az0_1 az0_2 az0_3 az0_4 ah0_0 ah0_1 ah0_2 ah0_3 ah0_4 a2 az2_0 ah2_0 y16 hy17) ?_
   rintro v46 w44 ⟨_, rfl, h47, c45⟩
   have h47 := SlO.backR k_Face_pos h47 (un_lt (fun b h => (hO b h).2) (un_lt k12.ltp nbS)) c0.size
   exact RL.nil ⟨_, rfl, c45, ⟨v46, rfl, h47⟩⟩
  refine Each.consA ⟨fun _ _ _ _ _ cc hh => by obtain ⟨v18_5, e, h19_5⟩ := hh; exact ⟨v18_5, e, slRep.ch k_Face_pos h19_5 cc⟩, fun _ _ h' O O' D _ wx wy hfl hD hO' cc hh => by obtain ⟨v18_5, e, h19_5⟩ := hh; have ad := admGh (S := (un (inBlk (PV p9)) nb)) hD hO'; exact ⟨v18_5, e, slRep.st k_Face_pos h19_5 cc ad⟩, fun fl O wk hE hN hO ck => ?_⟩ ?_
  ·
   refine Need.o1 rfl rfl rfl (fun _ h => h) ?_
   refine Need.one rfl rfl rfl ?_
   rintro _ ⟨v18, e51, h19⟩
   obtain rfl := e51.symm
   refine rl_buildC (out := (Resolved.c ({ key := a0.key, faces := y16, groups := [] } : Resolved) v18 (Value.slice none 0 0))) [(0, (Key.enc a0.key)), (1, [v18])] rfl (co_cons rfl (co_cons (one_toL h19.one.1) co_nil)) pl39 Tryz.zeroValue39 rfl rfl rfl ?_
   exact RL.nil ⟨_, rfl, Ch.refl, ⟨v18, rfl, h19⟩⟩
  refine Each.consP ⟨fun _ O _ wx wy cc hh => by obtain ⟨p20, e, rfl, ck6_0⟩ := hh; exact ⟨p20, e, rfl, ck6_0.ch0 cc⟩, fun O wk hO ck => ?_⟩ ?_
  ·
   refine rl_alloc (Resolved.c Resolved.z (Value.slice none 0 0) (Value.slice none 0 0)) Tryz.zeroValue39 rfl rfl ?_
   intro p54 w55 n56 k57
   have hb61 : ∀ b, (inBlk (PV p54)) b → wk.heap.size ≤ b ∧ b < w55.heap.size := fun b h => ⟨n56.fresh b h, k57.ltp b h⟩
   exact RL.nil ⟨_, (inBlk (PV p54)), rfl, hb61, n56.ch, ⟨p54, rfl, rfl, k57⟩⟩
  trivial
 intro hvO64 OpO64 O64 w62 hO65 c63 hN66
 obtain ⟨hlO64, hBO64⟩ := hN66 rfl
 refine Need.made rfl rfl rfl rfl ?_
 rintro _ ⟨p20, e67, eO68, ck6_0⟩ hh69
 obtain rfl := e67.symm
 have io70 : ∀ b, inBlk (PV p20) b → _ := fun b h => (Eq.mpr (congrFun eO68 b) h)
 have hf71 : ∀ b, inBlk (PV p20) b → w10.heap.size ≤ b := fun b h => (hBO64.2.2.1 _ b (io70 b h)).1
 obtain rfl := hist_eq [(PV p20)] hvO64 hlO64 ⟨hh69, trivial⟩
 have lo72 : ∀ b, inBlk (PV p20) b → w.heap.size ≤ b := fun b h => Nat.le_trans c0.size (hf71 b h)
 have d73 : ∀ b, inBlk (PV p20) b → ¬ inBlk (PV p9) b := disNew hf71 k12.ltp
 have ad74 : ∀ b, b < w10.heap.size → ¬ (un (inBlk (PV p9)) nb) b → ¬ nb b ∧ ¬ (un (inBlk (PV p20)) (un (inBlk (PV p9)) nb)) b := fun b hb hs => ⟨fun x => x, fun h => un_el h (fun h => Nat.not_le_of_lt hb (hf71 b h)) (fun h => hs h)⟩
 have ah0_0 := slRep.st k_Addr_pos ah0_0 hBO64.2.1 ad74
 have ah0_1 := slRep.st k_Addr_pos ah0_1 hBO64.2.1 ad74
 have ah0_2 := slRep.st k_Addr_pos ah0_2 hBO64.2.1 ad74
 have ah0_3 := slRep.st k_Cidr_pos ah0_3 hBO64.2.1 ad74
 have ah0_4 := slRep.st k_Port_pos ah0_4 hBO64.2.1 ad74
 have ah1 := slRep.st k_Slice_pos ah1 hBO64.2.1 ad74
 have ah2_0 := slRep.st k_Addr_pos ah2_0 hBO64.2.1 ad74
 have gp1n : (G F w.heap.size (un (inBlk (PV p20)) (un (inBlk (PV p9)) nb))) p1 := ⟨gp1.1, (ad74 _ k4.lt gp1.2).2⟩
 have k4 := k4.ch0 hBO64.2.1
 have gp1 := gp1n
 have gp5n : (G F w.heap.size (un (inBlk (PV p20)) (un (inBlk (PV p9)) nb))) p5 := ⟨gp5.1, (ad74 _ k8.lt gp5.2).2⟩
 have k8 := k8.ch0 hBO64.2.1
 have gp5 := gp5n
 have k12 := k12.ch0 hBO64.2.1
 have c0 := c0.then0 hBO64.2.1
 refine Need.one rfl rfl rfl ?_
 rintro _ ⟨v18_5, e75, h19_5⟩
 obtain rfl := e75.symm
 have h19_5 := slRep.wk (F' := (G F w.heap.size (un (inBlk (PV p20)) (un (inBlk (PV p9)) nb)))) k_Face_pos h19_5 (fun b _ hf => ⟨hf.1, fun h => hf.2 (un_el h (fun h => (.inl ((hBO64.1 b).2 (.inr ⟨_, inPre rfl, io70 b h⟩)))) (fun h => un_el h (fun h => (.inr (.inl h))) (fun h => False.elim h)))⟩)
 refine rl_storeA (vs := (Resolved.c ({ key := a0.key, faces := y16, groups := [] } : Resolved) v18_5 (Value.slice none 0 0))) rfl rfl (Kd.one _ (show k_Resolved.rep (G F w.heap.size (un (inBlk (PV p20)) (un (inBlk (PV p9)) nb))) w62 ({ key := a0.key, faces := y16, groups := [] } : Resolved) (Resolved.c ({ key := a0.key, faces := y16, groups := [] } : Resolved) v18_5 (Value.slice none 0 0)) from ⟨v18_5, (Value.slice none 0 0), rfl, h19_5, (.inl ⟨rfl, rfl⟩)⟩)) Tryz.sizeOf39 rfl ck6_0 rfl ?_
 intro w76 s78 c77 k79
 have ad80 : ∀ b, b < w62.heap.size → ¬ (un (inBlk (PV p20)) (un (inBlk (PV p9)) nb)) b → ¬ (inBlk (PV p20)) b ∧ ¬ (un (inBlk (PV p20)) (un (inBlk (PV p9)) nb)) b := fun b _ hs => ⟨fun h => hs (.inl h), hs⟩
 have ah0_0 := slRep.st k_Addr_pos ah0_0 c77 ad80
 have ah0_1 := slRep.st k_Addr_pos ah0_1 c77 ad80
 have ah0_2 := slRep.st k_Addr_pos ah0_2 c77 ad80
 have ah0_3 := slRep.st k_Cidr_pos ah0_3 c77 ad80
 have ah0_4 := slRep.st k_Port_pos ah0_4 c77 ad80
 have ah1 := slRep.st k_Slice_pos ah1 c77 ad80
 have ah2_0 := slRep.st k_Addr_pos ah2_0 c77 ad80
 have k4 := k4.ch c77 (ad80 _ k4.lt gp1.2).1
 have k8 := k8.ch c77 (ad80 _ k8.lt gp5.2).1
 have k12 := k12.ch c77 ((fun b hb h => (disSym d73) b hb h) _ rfl)
 have h19_5 := slRep.st k_Face_pos h19_5 c77 ad80
 have c0 := c0.then c77 (fun i hi h => absurd (lo72 i h) (Nat.not_le_of_lt hi))
 refine RL.nil (thn_n (CW.seq (CW.region ?_)))
 refine rl_makeMap (ek := (fun x => Value.agg (Id.enc x).toArray)) (ev := (fun x => Value.agg (St85.enc x).toArray)) rfl ?_
 intro p81 w82 n83 k84
 have lo85 : ∀ b, inBlk (Value.map (some p81)) b → w.heap.size ≤ b := fun b h => Nat.le_trans c0.size (n83.freshM b h)
 have d86 : ∀ b, inBlk (Value.map (some p81)) b → ¬ inBlk (PV p20) b := disNew n83.freshM k79.ltp
 have d87 : ∀ b, inBlk (Value.map (some p81)) b → ¬ inBlk (PV p9) b := disNew n83.freshM k12.ltp
 have ah0_0 := slRep.st k_Addr_pos ah0_0 n83.ch (admNew n83.freshM (fun _ x => x))
 have ah0_1 := slRep.st k_Addr_pos ah0_1 n83.ch (admNew n83.freshM (fun _ x => x))
 have ah0_2 := slRep.st k_Addr_pos ah0_2 n83.ch (admNew n83.freshM (fun _ x => x))
 have ah0_3 := slRep.st k_Cidr_pos ah0_3 n83.ch (admNew n83.freshM (fun _ x => x))
 have ah0_4 := slRep.st k_Port_pos ah0_4 n83.ch (admNew n83.freshM (fun _ x => x))
 have ah1 := slRep.st k_Slice_pos ah1 n83.ch (admNew n83.freshM (fun _ x => x))
 have ah2_0 := slRep.st k_Addr_pos ah2_0 n83.ch (admNew n83.freshM (fun _ x => x))
 have gp1n : (G F w.heap.size (un (inBlk (Value.map (some p81))) (un (inBlk (PV p20)) (un (inBlk (PV p9)) nb)))) p1 := ⟨gp1.1, ((admNew n83.freshM (fun _ x => x)) _ k4.lt gp1.2).2⟩
 have k4 := k4.ch0 n83.ch
 have gp1 := gp1n
 have gp5n : (G F w.heap.size (un (inBlk (Value.map (some p81))) (un (inBlk (PV p20)) (un (inBlk (PV p9)) nb)))) p5 := ⟨gp5.1, ((admNew n83.freshM (fun _ x => x)) _ k8.lt gp5.2).2⟩
 have k8 := k8.ch0 n83.ch
 have gp5 := gp5n
 have k12 := k12.ch0 n83.ch
 have h19_5 := slRep.st k_Face_pos h19_5 n83.ch (admNew n83.freshM (fun _ x => x))
 have k79 := k79.ch0 n83.ch
 have c0 := c0.then0 n83.ch
 refine rl_assign rfl rfl ?_
 refine RL.nil (thn_n (CW.seq ?_))
 refine CW.seq (CW.region ?_)
 refine rl_fieldAddr rfl fa39_1 rfl ?_
 refine rl_loadS (v := v18_5) rfl Tryz.isAgg36 (k79.cell rfl) rfl ?_
 refine rl_lenR rfl h19_5 Tryz.underlying36 rfl ?_
 refine rl_move rfl rfl ?_
 refine RL.nil (thn_n ?_)
 have d89 : ∀ b, inBlk (Value.slice none 0 0) b → ¬ inBlk (Value.map (some p81)) b := fun _ h => h.elim
 have d90 : ∀ b, inBlk (Value.slice none 0 0) b → ¬ inBlk (PV p20) b := fun _ h => h.elim
 have d91 : ∀ b, inBlk (Value.slice none 0 0) b → ¬ inBlk (PV p9) b := fun _ h => h.elim
 have crf : Ch nb w82 w82 := Ch.refl
 have ah0_0 := slRep.st k_Addr_pos ah0_0 crf admNil
 have ah0_1 := slRep.st k_Addr_pos ah0_1 crf admNil
 have ah0_2 := slRep.st k_Addr_pos ah0_2 crf admNil
 have ah0_3 := slRep.st k_Cidr_pos ah0_3 crf admNil
 have ah0_4 := slRep.st k_Port_pos ah0_4 crf admNil
 have ah1 := slRep.st k_Slice_pos ah1 crf admNil
 have ah2_0 := slRep.st k_Addr_pos ah2_0 crf admNil
 have gp1n : (G F w.heap.size (un (inBlk (Value.slice none 0 0)) (un (inBlk (Value.map (some p81))) (un (inBlk (PV p20)) (un (inBlk (PV p9)) nb))))) p1 := ⟨gp1.1, (admNil _ k4.lt gp1.2).2⟩
 have k4 := k4.ch0 crf
 have gp1 := gp1n
 have gp5n : (G F w.heap.size (un (inBlk (Value.slice none 0 0)) (un (inBlk (Value.map (some p81))) (un (inBlk (PV p20)) (un (inBlk (PV p9)) nb))))) p5 := ⟨gp5.1, (admNil _ k8.lt gp5.2).2⟩
 have k8 := k8.ch0 crf
 have gp5 := gp5n
 have k12 := k12.ch0 crf
 have h19_5 := slRep.st k_Face_pos h19_5 crf admNil
 have k79 := k79.ch0 crf
 have k84 := k84.ch0 crf
 have c0 := c0.then0 crf
 have h88 : SlO k_Group 50 F w.heap.size (un (inBlk (Value.slice none 0 0)) (un (inBlk (Value.map (some p81))) (un (inBlk (PV p20)) (un (inBlk (PV p9)) nb)))) w82 ([] : List Group) (.slice none 0 0) := SlO.nil
 obtain ⟨o113, ho114, hS⟩ := bindS hS
 refine CW.cutB (fun E' w' => ∃ (x92 : Resolved) (v93 : Value) (v95 : Value) (x97 : (List (Id × St85))), Sub [(6, (PV p9)), (7, (PV p20))] E' ∧ Ch nb w w' ∧ (x92, x97) = o113 ∧ slRep k_Addr (G F w.heap.size (un (inBlk v95) (un (inBlk (Value.map (some p81))) (un (inBlk (PV p20)) (un (inBlk (PV p9)) nb))))) w' a0.cluster az0_0 ∧ slRep k_Addr (G F w.heap.size (un (inBlk v95) (un (inBlk (Value.map (some p81))) (un (inBlk (PV p20)) (un (inBlk (PV p9)) nb))))) w' a0.external az0_1 ∧ slRep k_Addr (G F w.heap.size (un (inBlk v95) (un (inBlk (Value.map (some p81))) (un (inBlk (PV p20)) (un (inBlk (PV p9)) nb))))) w' a0.balancers az0_2 ∧ slRep k_Cidr (G F w.heap.size (un (inBlk v95) (un (inBlk (Value.map (some p81))) (un (inBlk (PV p20)) (un (inBlk (PV p9)) nb))))) w' a0.ranges az0_3 ∧ slRep k_Port (G F w.heap.size (un (inBlk v95) (un (inBlk (Value.map (some p81))) (un (inBlk (PV p20)) (un (inBlk (PV p9)) nb))))) w' a0.ports az0_4 ∧ slRep k_Slice (G F w.heap.size (un (inBlk v95) (un (inBlk (Value.map (some p81))) (un (inBlk (PV p20)) (un (inBlk (PV p9)) nb))))) w' a1 av1 ∧ slRep k_Addr (G F w.heap.size (un (inBlk v95) (un (inBlk (Value.map (some p81))) (un (inBlk (PV p20)) (un (inBlk (PV p9)) nb))))) w' a2.addrs az2_0 ∧ Blk w' p1 28 (Service.c a0 az0_0 az0_1 az0_2 az0_3 az0_4) ∧ Blk w' p5 31 (Node.c a2 az2_0) ∧ Blk w' p9 39 (Resolved.c Resolved.z (Value.slice none 0 0) (Value.slice none 0 0)) ∧ slRep k_Face (G F w.heap.size (un (inBlk v95) (un (inBlk (Value.map (some p81))) (un (inBlk (PV p20)) (un (inBlk (PV p9)) nb))))) w' y16 v18_5 ∧ slRep k_Face (G F w.heap.size (un (inBlk v95) (un (inBlk (Value.map (some p81))) (un (inBlk (PV p20)) (un (inBlk (PV p9)) nb))))) w' x92.faces v93 ∧ SlO k_Group 50 F w.heap.size (un (inBlk v95) (un (inBlk (Value.map (some p81))) (un (inBlk (PV p20)) (un (inBlk (PV p9)) nb)))) w' x92.groups v95 ∧ Mp (fun x => Value.agg (Id.enc x).toArray) (fun x => Value.agg (St85.enc x).toArray) w' x97 (Value.map (some p81)) ∧ Blk w' p20 39 (Resolved.c x92 v93 v95) ∧ (G F w.heap.size (un (inBlk v95) (un (inBlk (Value.map (some p81))) (un (inBlk (PV p20)) (un (inBlk (PV p9)) nb))))) p1 ∧ (G F w.heap.size (un (inBlk v95) (un (inBlk (Value.map (some p81))) (un (inBlk (PV p20)) (un (inBlk (PV p9)) nb))))) p5 ∧ (∀ b, inBlk v95 b → ¬ inBlk (Value.map (some p81)) b) ∧ (∀ b, inBlk v95 b → ¬ inBlk (PV p20) b) ∧ (∀ b, inBlk v95 b → ¬ inBlk (PV p9) b) ∧ (∀ b, inBlk (Value.map (some p81)) b → ¬ inBlk (PV p20) b) ∧ (∀ b, inBlk (Value.map (some p81)) b → ¬ inBlk (PV p9) b) ∧ (∀ b, inBlk (PV p20) b → ¬ inBlk (PV p9) b)) ?_ ?_
 ·
  refine CW.loopS [(1, av1), (3, (PV p1)), (5, (PV p5)), (6, (PV p9)), (7, (PV p20)), (8, (Value.map (some p81))), (22, v18_5), (23, (Value.int .i64 ((y16.length : Nat) : Int))), (24, (Value.int .i64 ((0 : Nat) : Int)))] ⟨rfl, rfl, rfl, rfl, rfl, rfl, rfl, rfl, rfl, trivial⟩ y16.length (fun m E w' => ∃ (rest106 : List Face) (i107 : Nat) (x92 : Resolved) (v93 : Value) (v95 : Value) (x97 : (List (Id × St85))), m = rest106.length ∧ E = [(1, av1), (3, (PV p1)), (5, (PV p5)), (6, (PV p9)), (7, (PV p20)), (8, (Value.map (some p81))), (22, v18_5), (23, (Value.int .i64 ((y16.length : Nat) : Int))), (24, (Value.int .i64 ((i107 : Nat) : Int)))] ∧ Ch nb w w' ∧ At y16 i107 rest106 ∧ runAO (F10_Resolve_b1 a0 a1 a2) rest106 (x92, x97) = some o113 ∧ slRep k_Addr (G F w.heap.size (un (inBlk v95) (un (inBlk (Value.map (some p81))) (un (inBlk (PV p20)) (un (inBlk (PV p9)) nb))))) w' a0.cluster az0_0 ∧ slRep k_Addr (G F w.heap.size (un (inBlk v95) (un (inBlk (Value.map (some p81))) (un (inBlk (PV p20)) (un (inBlk (PV p9)) nb))))) w' a0.external az0_1 ∧ slRep k_Addr (G F w.heap.size (un (inBlk v95) (un (inBlk (Value.map (some p81))) (un (inBlk (PV p20)) (un (inBlk (PV p9)) nb))))) w' a0.balancers az0_2 ∧ slRep k_Cidr (G F w.heap.size (un (inBlk v95) (un (inBlk (Value.map (some p81))) (un (inBlk (PV p20)) (un (inBlk (PV p9)) nb))))) w' a0.ranges az0_3 ∧ slRep k_Port (G F w.heap.size (un (inBlk v95) (un (inBlk (Value.map (some p81))) (un (inBlk (PV p20)) (un (inBlk (PV p9)) nb))))) w' a0.ports az0_4 ∧ slRep k_Slice (G F w.heap.size (un (inBlk v95) (un (inBlk (Value.map (some p81))) (un (inBlk (PV p20)) (un (inBlk (PV p9)) nb))))) w' a1 av1 ∧ slRep k_Addr (G F w.heap.size (un (inBlk v95) (un (inBlk (Value.map (some p81))) (un (inBlk (PV p20)) (un (inBlk (PV p9)) nb))))) w' a2.addrs az2_0 ∧ Blk w' p1 28 (Service.c a0 az0_0 az0_1 az0_2 az0_3 az0_4) ∧ Blk w' p5 31 (Node.c a2 az2_0) ∧ Blk w' p9 39 (Resolved.c Resolved.z (Value.slice none 0 0) (Value.slice none 0 0)) ∧ slRep k_Face (G F w.heap.size (un (inBlk v95) (un (inBlk (Value.map (some p81))) (un (inBlk (PV p20)) (un (inBlk (PV p9)) nb))))) w' y16 v18_5 ∧ slRep k_Face (G F w.heap.size (un (inBlk v95) (un (inBlk (Value.map (some p81))) (un (inBlk (PV p20)) (un (inBlk (PV p9)) nb))))) w' x92.faces v93 ∧ SlO k_Group 50 F w.heap.size (un (inBlk v95) (un (inBlk (Value.map (some p81))) (un (inBlk (PV p20)) (un (inBlk (PV p9)) nb)))) w' x92.groups v95 ∧ Mp (fun x => Value.agg (Id.enc x).toArray) (fun x => Value.agg (St85.enc x).toArray) w' x97 (Value.map (some p81)) ∧ Blk w' p20 39 (Resolved.c x92 v93 v95) ∧ (G F w.heap.size (un (inBlk v95) (un (inBlk (Value.map (some p81))) (un (inBlk (PV p20)) (un (inBlk (PV p9)) nb))))) p1 ∧ (G F w.heap.size (un (inBlk v95) (un (inBlk (Value.map (some p81))) (un (inBlk (PV p20)) (un (inBlk (PV p9)) nb))))) p5 ∧ (∀ b, inBlk v95 b → ¬ inBlk (Value.map (some p81)) b) ∧ (∀ b, inBlk v95 b → ¬ inBlk (PV p20) b) ∧ (∀ b, inBlk v95 b → ¬ inBlk (PV p9) b) ∧ (∀ b, inBlk (Value.map (some p81)) b → ¬ inBlk (PV p20) b) ∧ (∀ b, inBlk (Value.map (some p81)) b → ¬ inBlk (PV p9) b) ∧ (∀ b, inBlk (PV p20) b → ¬ inBlk (PV p9) b))
      ⟨y16, 0, ({ key := a0.key, faces := y16, groups := [] } : Resolved), v18_5, (Value.slice none 0 0), ([] : (List (Id × St85))), rfl, rfl, c0, At.start, ho114, ah0_0, ah0_1, ah0_2, ah0_3, ah0_4, ah1, ah2_0, k4, k8, k12, h19_5, h19_5, h88, k84, k79, gp1, gp5, d89, d90, d91, d86, d87, d73⟩ ?_
  rintro _ _ w119 ⟨rest106, i107, x92, v93, v95, x97, rfl, rfl, c118, hat109, hL108, ah0_0, ah0_1, ah0_2, ah0_3, ah0_4, ah1, ah2_0, k4, k8, k12, h19_5, h94, h96, h98, k99, gp1, gp5, d100, d101, d102, d103, d104, d105⟩
  refine CW.seq (CW.region ?_)
  refine rl_bin rfl rfl B.lss rfl ?_
  refine RL.nil (thn_n ?_)
  refine CW.seq ?_
  refine CW.cond (t := decide (((i107 : Nat) : Int) < ((y16.length : Nat) : Int))) rfl (fun q121 => ?_) (fun q121 => ?_)
  ·
   obtain ⟨x115, rest122, rfl⟩ := hat109.cons q121
   obtain ⟨q110, hq111⟩ := runAO_some hL108
   have hb112 := hq111
   refine CW.skip (thn_n ?_)
   refine CW.seq ?_
   refine CW.block ?_
   refine CW.seq (CW.region ?_)
   refine rl_ixR rfl h19_5 rfl hat109.get Tryz.underlying36 Tryz.sizeOf47 rfl ?_
   intro p123 o124 cs125 hr126 hs127 hg128
   obtain rfl := hr126
   refine rl_loadA (cs := (Face.enc x115)) rfl Tryz.isAgg47 Tryz.sizeOf47 (hs127) rfl rfl ?_
   refine rl_alloc (Face.enc Face.z) Tryz.zeroValue47 rfl rfl ?_
   intro p129 w130 n131 k132
   have lo133 : ∀ b, inBlk (PV p129) b → w.heap.size ≤ b := fun b h => Nat.le_trans c118.size (n131.fresh b h)
   have d134 : ∀ b, inBlk (PV p129) b → ¬ inBlk v95 b := disNew n131.fresh (fun b hb => (h96.lt b hb).2)
   have d135 : ∀ b, inBlk (PV p129) b → ¬ inBlk (Value.map (some p81)) b := disNew n131.fresh h98.ltp
   have d136 : ∀ b, inBlk (PV p129) b → ¬ inBlk (PV p20) b := disNew n131.fresh k99.ltp
   have d137 : ∀ b, inBlk (PV p129) b → ¬ inBlk (PV p9) b := disNew n131.fresh k12.ltp
   have ah0_0 := slRep.st k_Addr_pos ah0_0 n131.ch (admNew n131.fresh (fun _ x => x))
   have ah0_1 := slRep.st k_Addr_pos ah0_1 n131.ch (admNew n131.fresh (fun _ x => x))
   have ah0_2 := slRep.st k_Addr_pos ah0_2 n131.ch (admNew n131.fresh (fun _ x => x))
   have ah0_3 := slRep.st k_Cidr_pos ah0_3 n131.ch (admNew n131.fresh (fun _ x => x))
   have ah0_4 := slRep.st k_Port_pos ah0_4 n131.ch (admNew n131.fresh (fun _ x => x))
   have ah1 := slRep.st k_Slice_pos ah1 n131.ch (admNew n131.fresh (fun _ x => x))
   have ah2_0 := slRep.st k_Addr_pos ah2_0 n131.ch (admNew n131.fresh (fun _ x => x))
   have gp1n : (G F w.heap.size (un (inBlk (PV p129)) (un (inBlk v95) (un (inBlk (Value.map (some p81))) (un (inBlk (PV p20)) (un (inBlk (PV p9)) nb)))))) p1 := ⟨gp1.1, ((admNew n131.fresh (fun _ x => x)) _ k4.lt gp1.2).2⟩
   have k4 := k4.ch0 n131.ch
   have gp1 := gp1n
   have gp5n : (G F w.heap.size (un (inBlk (PV p129)) (un (inBlk v95) (un (inBlk (Value.map (some p81))) (un (inBlk (PV p20)) (un (inBlk (PV p9)) nb)))))) p5 := ⟨gp5.1, ((admNew n131.fresh (fun _ x => x)) _ k8.lt gp5.2).2⟩
   have k8 := k8.ch0 n131.ch
   have gp5 := gp5n
   have k12 := k12.ch0 n131.ch
   have h19_5 := slRep.st k_Face_pos h19_5 n131.ch (admNew n131.fresh (fun _ x => x))
   have h94 := slRep.st k_Face_pos h94 n131.ch (admNew n131.fresh (fun _ x => x))
   have h96 := h96.st n131.ch (fun _ _ x => x) (admNew n131.fresh (fun _ x => x)) (fun b h => (.inr (.inl h)))
   have h98 := h98.ch0 n131.ch
   have k99 := k99.ch0 n131.ch
   have c118 := c118.then0 n131.ch
   refine rl_storeA (vs := (Face.enc x115)) rfl rfl (all_one rfl) Tryz.sizeOf47 rfl k132 rfl ?_
   intro w138 s140 c139 k141
   have ad142 : ∀ b, b < w130.heap.size → ¬ (un (inBlk (PV p129)) (un (inBlk v95) (un (inBlk (Value.map (some p81))) (un (inBlk (PV p20)) (un (inBlk (PV p9)) nb))))) b → ¬ (inBlk (PV p129)) b ∧ ¬ (un (inBlk (PV p129)) (un (inBlk v95) (un (inBlk (Value.map (some p81))) (un (inBlk (PV p20)) (un (inBlk (PV p9)) nb))))) b := fun b _ hs => ⟨fun h => hs (.inl h), hs⟩
   have ah0_0 := slRep.st k_Addr_pos ah0_0 c139 ad142
   have ah0_1 := slRep.st k_Addr_pos ah0_1 c139 ad142
   have ah0_2 := slRep.st k_Addr_pos ah0_2 c139 ad142
   have ah0_3 := slRep.st k_Cidr_pos ah0_3 c139 ad142
   have ah0_4 := slRep.st k_Port_pos ah0_4 c139 ad142
   have ah1 := slRep.st k_Slice_pos ah1 c139 ad142
   have ah2_0 := slRep.st k_Addr_pos ah2_0 c139 ad142
   have k4 := k4.ch c139 (ad142 _ k4.lt gp1.2).1
   have k8 := k8.ch c139 (ad142 _ k8.lt gp5.2).1
   have k12 := k12.ch c139 ((fun b hb h => (disSym d137) b hb h) _ rfl)
   have h19_5 := slRep.st k_Face_pos h19_5 c139 ad142
   have h94 := slRep.st k_Face_pos h94 c139 ad142
   have h96 := h96.st c139 (fun b hb h => (disSym d134) b hb h) ad142 (fun b h => (.inr (.inl h)))
   have h98 := h98.ch c139 ((fun b hb h => (disSym d135) b hb h))
   have k99 := k99.ch c139 ((fun b hb h => (disSym d136) b hb h) _ rfl)
   have c118 := c118.then c139 (fun i hi h => absurd (lo133 i h) (Nat.not_le_of_lt hi))
   refine RL.nil (thn_n (CW.seq ?_))
   refine CW.seq (CW.region ?_)
   refine rl_move rfl rfl ?_
   refine rl_loadA (cs := (Face.enc x115)) rfl Tryz.isAgg47 Tryz.sizeOf47 (k141.segAt 0 23) rfl rfl ?_
   obtain ⟨y145, hy146⟩ : ∃ y, F25_faced x115 = y := ⟨_, rfl⟩
   have hb112 := ltS hy146 hb112
   refine rl_callF rfl en25 rfl (ctr25 (G F w.heap.size (un (inBlk (PV p129)) (un (inBlk v95) (un (inBlk (Value.map (some p81))) (un (inBlk (PV p20)) (un (inBlk (PV p9)) nb)))))) w138 x115 y145 hy146) ?_
   rintro _ w143 ⟨rfl, c144⟩
   have ah0_0 := slRep.ch k_Addr_pos ah0_0 c144
   have ah0_1 := slRep.ch k_Addr_pos ah0_1 c144
   have ah0_2 := slRep.ch k_Addr_pos ah0_2 c144
   have ah0_3 := slRep.ch k_Cidr_pos ah0_3 c144
   have ah0_4 := slRep.ch k_Port_pos ah0_4 c144
   have ah1 := slRep.ch k_Slice_pos ah1 c144
   have ah2_0 := slRep.ch k_Addr_pos ah2_0 c144
   have k4 := k4.ch0 c144
   have k8 := k8.ch0 c144
   have k12 := k12.ch0 c144
   have h19_5 := slRep.ch k_Face_pos h19_5 c144
   have h94 := slRep.ch k_Face_pos h94 c144
   have h96 := h96.ch0 c144
   have h98 := h98.ch0 c144
   have k99 := k99.ch0 c144
   have k141 := k141.ch0 c144
   have c118 := c118.then0 c144
   refine rl_lookup2 y145 St85.z rfl rfl h98 rfl kt88 Tryz.underlying84 Tryz.zeroValue85 rfl ?_
   refine rl_move rfl rfl ?_
   refine rl_extract rfl rfl rfl ?_
   refine rl_extract rfl rfl rfl ?_
   refine rl_alloc (St85.enc St85.z) Tryz.zeroValue85 rfl rfl ?_
   intro p147 w148 n149 k150
   have lo151 : ∀ b, inBlk (PV p147) b → w.heap.size ≤ b := fun b h => Nat.le_trans c118.size (n149.fresh b h)
   have d152 : ∀ b, inBlk (PV p147) b → ¬ inBlk (PV p129) b := disNew n149.fresh k141.ltp
   have d153 : ∀ b, inBlk (PV p147) b → ¬ inBlk v95 b := disNew n149.fresh (fun b hb => (h96.lt b hb).2)
   have d154 : ∀ b, inBlk (PV p147) b → ¬ inBlk (Value.map (some p81)) b := disNew n149.fresh h98.ltp
   have d155 : ∀ b, inBlk (PV p147) b → ¬ inBlk (PV p20) b := disNew n149.fresh k99.ltp
   have d156 : ∀ b, inBlk (PV p147) b → ¬ inBlk (PV p9) b := disNew n149.fresh k12.ltp
   have ah0_0 := slRep.st k_Addr_pos ah0_0 n149.ch (admNew n149.fresh (fun _ x => x))
   have ah0_1 := slRep.st k_Addr_pos ah0_1 n149.ch (admNew n149.fresh (fun _ x => x))
   have ah0_2 := slRep.st k_Addr_pos ah0_2 n149.ch (admNew n149.fresh (fun _ x => x))
   have ah0_3 := slRep.st k_Cidr_pos ah0_3 n149.ch (admNew n149.fresh (fun _ x => x))
   have ah0_4 := slRep.st k_Port_pos ah0_4 n149.ch (admNew n149.fresh (fun _ x => x))
   have ah1 := slRep.st k_Slice_pos ah1 n149.ch (admNew n149.fresh (fun _ x => x))
   have ah2_0 := slRep.st k_Addr_pos ah2_0 n149.ch (admNew n149.fresh (fun _ x => x))
   have gp1n : (G F w.heap.size (un (inBlk (PV p147)) (un (inBlk (PV p129)) (un (inBlk v95) (un (inBlk (Value.map (some p81))) (un (inBlk (PV p20)) (un (inBlk (PV p9)) nb))))))) p1 := ⟨gp1.1, ((admNew n149.fresh (fun _ x => x)) _ k4.lt gp1.2).2⟩
   have k4 := k4.ch0 n149.ch
   have gp1 := gp1n
   have gp5n : (G F w.heap.size (un (inBlk (PV p147)) (un (inBlk (PV p129)) (un (inBlk v95) (un (inBlk (Value.map (some p81))) (un (inBlk (PV p20)) (un (inBlk (PV p9)) nb))))))) p5 := ⟨gp5.1, ((admNew n149.fresh (fun _ x => x)) _ k8.lt gp5.2).2⟩
   have k8 := k8.ch0 n149.ch
   have gp5 := gp5n
   have k12 := k12.ch0 n149.ch
   have h19_5 := slRep.st k_Face_pos h19_5 n149.ch (admNew n149.fresh (fun _ x => x))
   have h94 := slRep.st k_Face_pos h94 n149.ch (admNew n149.fresh (fun _ x => x))
   have h96 := h96.st n149.ch (fun _ _ x => x) (admNew n149.fresh (fun _ x => x)) (fun b h => (.inr (.inr (.inl h))))
   have h98 := h98.ch0 n149.ch
   have k99 := k99.ch0 n149.ch
   have k141 := k141.ch0 n149.ch
   have c118 := c118.then0 n149.ch
   refine rl_storeA (vs := (St85.enc ((mget x97 y145).getD St85.z))) rfl rfl (all_one rfl) Tryz.sizeOf85 rfl k150 rfl ?_
   intro w157 s159 c158 k160
   have ad161 : ∀ b, b < w148.heap.size → ¬ (un (inBlk (PV p147)) (un (inBlk (PV p129)) (un (inBlk v95) (un (inBlk (Value.map (some p81))) (un (inBlk (PV p20)) (un (inBlk (PV p9)) nb)))))) b → ¬ (inBlk (PV p147)) b ∧ ¬ (un (inBlk (PV p147)) (un (inBlk (PV p129)) (un (inBlk v95) (un (inBlk (Value.map (some p81))) (un (inBlk (PV p20)) (un (inBlk (PV p9)) nb)))))) b := fun b _ hs => ⟨fun h => hs (.inl h), hs⟩
   have ah0_0 := slRep.st k_Addr_pos ah0_0 c158 ad161
   have ah0_1 := slRep.st k_Addr_pos ah0_1 c158 ad161
   have ah0_2 := slRep.st k_Addr_pos ah0_2 c158 ad161
   have ah0_3 := slRep.st k_Cidr_pos ah0_3 c158 ad161
   have ah0_4 := slRep.st k_Port_pos ah0_4 c158 ad161
   have ah1 := slRep.st k_Slice_pos ah1 c158 ad161
   have ah2_0 := slRep.st k_Addr_pos ah2_0 c158 ad161
   have k4 := k4.ch c158 (ad161 _ k4.lt gp1.2).1
   have k8 := k8.ch c158 (ad161 _ k8.lt gp5.2).1
   have k12 := k12.ch c158 ((fun b hb h => (disSym d156) b hb h) _ rfl)
   have h19_5 := slRep.st k_Face_pos h19_5 c158 ad161
   have h94 := slRep.st k_Face_pos h94 c158 ad161
   have h96 := h96.st c158 (fun b hb h => (disSym d153) b hb h) ad161 (fun b h => (.inr (.inr (.inl h))))
   have h98 := h98.ch c158 ((fun b hb h => (disSym d154) b hb h))
   have k99 := k99.ch c158 ((fun b hb h => (disSym d155) b hb h) _ rfl)
   have k141 := k141.ch c158 ((fun b hb h => (disSym d152) b hb h) _ rfl)
   have c118 := c118.then c158 (fun i hi h => absurd (lo151 i h) (Nat.not_le_of_lt hi))
   refine rl_assign rfl rfl ?_
   refine RL.nil (thn_n (CW.seq (CW.region ?_)))
   refine rl_move rfl rfl ?_
   refine RL.nil (thn_n ?_)
   refine CW.cond (t := (mget x97 y145).isSome) rfl (fun q162 => ?_) (fun q162 => ?_)
   ·
    have hb112 := ifT q162 hb112
    refine CW.exit ?_
    refine thn_exit ?_
    refine inB_hit ?_
    refine thn_n (CW.region ?_)
    refine rl_inc rfl hat109.lt h19_5.big rfl ?_
    refine rl_move rfl rfl ?_
    refine RL.nil (thn_n ?_)
    have ad163 : ∀ b, b < w157.heap.size → ¬ (un (inBlk (PV p147)) (un (inBlk (PV p129)) (un (inBlk v95) (un (inBlk (Value.map (some p81))) (un (inBlk (PV p20)) (un (inBlk (PV p9)) nb)))))) b → ¬ nb b ∧ ¬ (un (inBlk (PV p129)) (un (inBlk v95) (un (inBlk (Value.map (some p81))) (un (inBlk (PV p20)) (un (inBlk (PV p9)) nb))))) b := fun b _ hs => ⟨fun x => x, fun h => hs (un_el h (fun h => (.inr (.inl h))) (fun h => un_el h (fun h => (.inr (.inr (.inl h)))) (fun h => un_el h (fun h => (.inr (.inr (.inr (.inl h))))) (fun h => un_el h (fun h => (.inr (.inr (.inr (.inr (.inl h)))))) (fun h => un_el h (fun h => (.inr (.inr (.inr (.inr (.inr (.inl h))))))) (fun h => False.elim h))))))⟩
    have crf : Ch nb w157 w157 := Ch.refl
    have ah0_0 := slRep.st k_Addr_pos ah0_0 crf ad163
    have ah0_1 := slRep.st k_Addr_pos ah0_1 crf ad163
    have ah0_2 := slRep.st k_Addr_pos ah0_2 crf ad163
    have ah0_3 := slRep.st k_Cidr_pos ah0_3 crf ad163
    have ah0_4 := slRep.st k_Port_pos ah0_4 crf ad163
    have ah1 := slRep.st k_Slice_pos ah1 crf ad163
    have ah2_0 := slRep.st k_Addr_pos ah2_0 crf ad163
    have gp1n : (G F w.heap.size (un (inBlk (PV p129)) (un (inBlk v95) (un (inBlk (Value.map (some p81))) (un (inBlk (PV p20)) (un (inBlk (PV p9)) nb)))))) p1 := ⟨gp1.1, (ad163 _ k4.lt gp1.2).2⟩
    have k4 := k4.ch0 crf
    have gp1 := gp1n
    have gp5n : (G F w.heap.size (un (inBlk (PV p129)) (un (inBlk v95) (un (inBlk (Value.map (some p81))) (un (inBlk (PV p20)) (un (inBlk (PV p9)) nb)))))) p5 := ⟨gp5.1, (ad163 _ k8.lt gp5.2).2⟩
    have k8 := k8.ch0 crf
    have gp5 := gp5n
    have k12 := k12.ch0 crf
    have h19_5 := slRep.st k_Face_pos h19_5 crf ad163
    have h94 := slRep.st k_Face_pos h94 crf ad163
    have h96 := h96.st crf (fun _ _ x => x) ad163 (fun b h => (.inr (.inl h)))
    have h98 := h98.ch0 crf
    have k99 := k99.ch0 crf
    have c118 := c118.then0 crf
    have ad164 : ∀ b, b < w157.heap.size → ¬ (un (inBlk (PV p129)) (un (inBlk v95) (un (inBlk (Value.map (some p81))) (un (inBlk (PV p20)) (un (inBlk (PV p9)) nb))))) b → ¬ nb b ∧ ¬ (un (inBlk v95) (un (inBlk (Value.map (some p81))) (un (inBlk (PV p20)) (un (inBlk (PV p9)) nb)))) b := fun b _ hs => ⟨fun x => x, fun h => hs (un_el h (fun h => (.inr (.inl h))) (fun h => un_el h (fun h => (.inr (.inr (.inl h)))) (fun h => un_el h (fun h => (.inr (.inr (.inr (.inl h))))) (fun h => un_el h (fun h => (.inr (.inr (.inr (.inr (.inl h)))))) (fun h => False.elim h)))))⟩
    have crf : Ch nb w157 w157 := Ch.refl
    have ah0_0 := slRep.st k_Addr_pos ah0_0 crf ad164
    have ah0_1 := slRep.st k_Addr_pos ah0_1 crf ad164
    have ah0_2 := slRep.st k_Addr_pos ah0_2 crf ad164
    have ah0_3 := slRep.st k_Cidr_pos ah0_3 crf ad164
    have ah0_4 := slRep.st k_Port_pos ah0_4 crf ad164
    have ah1 := slRep.st k_Slice_pos ah1 crf ad164
    have ah2_0 := slRep.st k_Addr_pos ah2_0 crf ad164
    have gp1n : (G F w.heap.size (un (inBlk v95) (un (inBlk (Value.map (some p81))) (un (inBlk (PV p20)) (un (inBlk (PV p9)) nb))))) p1 := ⟨gp1.1, (ad164 _ k4.lt gp1.2).2⟩
    have k4 := k4.ch0 crf
    have gp1 := gp1n
    have gp5n : (G F w.heap.size (un (inBlk v95) (un (inBlk (Value.map (some p81))) (un (inBlk (PV p20)) (un (inBlk (PV p9)) nb))))) p5 := ⟨gp5.1, (ad164 _ k8.lt gp5.2).2⟩
    have k8 := k8.ch0 crf
    have gp5 := gp5n
    have k12 := k12.ch0 crf
    have h19_5 := slRep.st k_Face_pos h19_5 crf ad164
    have h94 := slRep.st k_Face_pos h94 crf ad164
    have h96 := h96.st crf (fun _ _ x => x) ad164 (fun b h => (.inl h))
    have h98 := h98.ch0 crf
    have k99 := k99.ch0 crf
    have c118 := c118.then0 crf
    have hLn := runAO_next hL108 hq111 hb112
    exact ⟨rest122.length, Nat.lt_succ_self _, [(1, av1), (3, (PV p1)), (5, (PV p5)), (6, (PV p9)), (7, (PV p20)), (8, (Value.map (some p81))), (22, v18_5), (23, (Value.int .i64 ((y16.length : Nat) : Int))), (24, (Value.int .i64 ((i107 + 1 : Nat) : Int)))], ⟨rfl, rfl, rfl, rfl, rfl, rfl, rfl, rfl, rfl, trivial⟩, ⟨rest122, i107 + 1, x92, v93, v95, x97, rfl, rfl, c118, hat109.next, hLn, ah0_0, ah0_1, ah0_2, ah0_3, ah0_4, ah1, ah2_0, k4, k8, k12, h19_5, h94, h96, h98, k99, gp1, gp5, d100, d101, d102, d103, d104, d105⟩⟩
   have hb112 := ifF q162 hb112
   refine CW.skip ?_
   refine thn_n (CW.seq (CW.region ?_))
   refine rl_move rfl rfl ?_
   refine rl_loadA (cs := (Face.enc x115)) rfl Tryz.isAgg47 Tryz.sizeOf47 (k141.segAt 0 23) rfl rfl ?_
   obtain ⟨y167, hy168⟩ : ∃ y, F25_faced x115 = y := ⟨_, rfl⟩
   have hb112 := ltS hy168 hb112
   refine rl_callF rfl en25 rfl (ctr25 (G F w.heap.size (un (inBlk (PV p147)) (un (inBlk (PV p129)) (un (inBlk v95) (un (inBlk (Value.map (some p81))) (un (inBlk (PV p20)) (un (inBlk (PV p9)) nb))))))) w157 x115 y167 hy168) ?_
   rintro _ w165 ⟨rfl, c166⟩
   have ah0_0 := slRep.ch k_Addr_pos ah0_0 c166
   have ah0_1 := slRep.ch k_Addr_pos ah0_1 c166
   have ah0_2 := slRep.ch k_Addr_pos ah0_2 c166
   have ah0_3 := slRep.ch k_Cidr_pos ah0_3 c166
   have ah0_4 := slRep.ch k_Port_pos ah0_4 c166
   have ah1 := slRep.ch k_Slice_pos ah1 c166
   have ah2_0 := slRep.ch k_Addr_pos ah2_0 c166
   have k4 := k4.ch0 c166
   have k8 := k8.ch0 c166
   have k12 := k12.ch0 c166
   have h19_5 := slRep.ch k_Face_pos h19_5 c166
   have h94 := slRep.ch k_Face_pos h94 c166
   have h96 := h96.ch0 c166
   have h98 := h98.ch0 c166
   have k99 := k99.ch0 c166
   have k141 := k141.ch0 c166
   have k160 := k160.ch0 c166
   have c118 := c118.then0 c166
   refine rl_build (out := (St85.enc ({  } : St85))) rfl pl85 Tryz.zeroValue85 rfl rfl rfl ?_
   refine rl_mapUpdate y167 ({  } : St85) rfl rfl rfl h98 rfl rfl kt88 Tryz.underlying84 ?_
   intro w169 c170 h171
   have ad172 : ∀ b, b < w165.heap.size → ¬ (un (inBlk (PV p147)) (un (inBlk (PV p129)) (un (inBlk v95) (un (inBlk (Value.map (some p81))) (un (inBlk (PV p20)) (un (inBlk (PV p9)) nb)))))) b → ¬ (inBlk (Value.map (some p81))) b ∧ ¬ (un (inBlk (PV p147)) (un (inBlk (PV p129)) (un (inBlk v95) (un (inBlk (Value.map (some p81))) (un (inBlk (PV p20)) (un (inBlk (PV p9)) nb)))))) b := fun b _ hs => ⟨fun h => hs (.inr (.inr (.inr (.inl h)))), hs⟩
   have ah0_0 := slRep.st k_Addr_pos ah0_0 c170 ad172
   have ah0_1 := slRep.st k_Addr_pos ah0_1 c170 ad172
   have ah0_2 := slRep.st k_Addr_pos ah0_2 c170 ad172
   have ah0_3 := slRep.st k_Cidr_pos ah0_3 c170 ad172
   have ah0_4 := slRep.st k_Port_pos ah0_4 c170 ad172
   have ah1 := slRep.st k_Slice_pos ah1 c170 ad172
   have ah2_0 := slRep.st k_Addr_pos ah2_0 c170 ad172
   have k4 := k4.ch c170 (ad172 _ k4.lt gp1.2).1
   have k8 := k8.ch c170 (ad172 _ k8.lt gp5.2).1
   have k12 := k12.ch c170 ((fun b hb h => (disSym d104) b hb h) _ rfl)
   have h19_5 := slRep.st k_Face_pos h19_5 c170 ad172
   have h94 := slRep.st k_Face_pos h94 c170 ad172
   have h96 := h96.st c170 (fun b hb h => d100 b hb h) ad172 (fun b h => (.inr (.inr (.inl h))))
   have k99 := k99.ch c170 ((fun b hb h => (disSym d103) b hb h) _ rfl)
   have k141 := k141.ch c170 ((fun b hb h => d135 b hb h) _ rfl)
   have k160 := k160.ch c170 ((fun b hb h => d154 b hb h) _ rfl)
   have c118 := c118.then c170 (fun i hi h => absurd (lo85 i h) (Nat.not_le_of_lt hi))
   refine RL.nil (thn_n (CW.seq (CW.region ?_)))
   refine rl_move rfl rfl ?_
   refine rl_loadA (cs := (Service.c a0 az0_0 az0_1 az0_2 az0_3 az0_4)) rfl Tryz.isAgg28 Tryz.sizeOf28 (k4.segAt 0 13) rfl rfl ?_
   refine rl_loadA (cs := (Face.enc x115)) rfl Tryz.isAgg47 Tryz.sizeOf47 (k141.segAt 0 23) rfl rfl ?_
   refine rl_loadA (cs := (Node.c a2 az2_0)) rfl Tryz.isAgg31 Tryz.sizeOf31 (k8.segAt 0 3) rfl rfl ?_
   obtain ⟨y175, hy176⟩ : ∃ y, F27_wanted a0 x115 a2 = y := ⟨_, rfl⟩
   have hb112 := ltS hy176 hb112
   refine rl_callF rfl en27 rfl (ctr27 (G F w.heap.size (un (inBlk (PV p147)) (un (inBlk (PV p129)) (un (inBlk v95) (un (inBlk (Value.map (some p81))) (un (inBlk (PV p20)) (un (inBlk (PV p9)) nb))))))) w169 a0 az0_0 az0_1 az0_2 az0_3 az0_4 ah0_0 ah0_1 ah0_2 ah0_3 ah0_4 x115 a2 az2_0 ah2_0 y175 hy176) ?_
   rintro _ w173 ⟨rfl, c174⟩
   have ah0_0 := slRep.ch k_Addr_pos ah0_0 c174
   have ah0_1 := slRep.ch k_Addr_pos ah0_1 c174
   have ah0_2 := slRep.ch k_Addr_pos ah0_2 c174
   have ah0_3 := slRep.ch k_Cidr_pos ah0_3 c174
   have ah0_4 := slRep.ch k_Port_pos ah0_4 c174
   have ah1 := slRep.ch k_Slice_pos ah1 c174
   have ah2_0 := slRep.ch k_Addr_pos ah2_0 c174
   have k4 := k4.ch0 c174
   have k8 := k8.ch0 c174
   have k12 := k12.ch0 c174
   have h19_5 := slRep.ch k_Face_pos h19_5 c174
   have h94 := slRep.ch k_Face_pos h94 c174
   have h96 := h96.ch0 c174
   have k99 := k99.ch0 c174
   have k141 := k141.ch0 c174
   have k160 := k160.ch0 c174
   have h171 := h171.ch0 c174
   have c118 := c118.then0 c174
   obtain ⟨y179, hy180, hb112⟩ := bindS hb112
   refine rl_callF rfl en26 rfl (ctr26 (G F w.heap.size (un (inBlk (PV p147)) (un (inBlk (PV p129)) (un (inBlk v95) (un (inBlk (Value.map (some p81))) (un (inBlk (PV p20)) (un (inBlk (PV p9)) nb))))))) w173 a1 av1 ah1 y175 y179 hy180) ?_
   rintro v181 w177 ⟨_, rfl, h182, c178⟩
   have h182 := SlO.backR k_Point_pos h182 (un_lt k160.ltp (un_lt k141.ltp (un_lt (fun b hb => (h96.lt b hb).2) (un_lt h171.ltp (un_lt k99.ltp (un_lt k12.ltp nbS)))))) c118.size
   have ah0_0 := slRep.ch k_Addr_pos ah0_0 c178
   have ah0_1 := slRep.ch k_Addr_pos ah0_1 c178
   have ah0_2 := slRep.ch k_Addr_pos ah0_2 c178
   have ah0_3 := slRep.ch k_Cidr_pos ah0_3 c178
   have ah0_4 := slRep.ch k_Port_pos ah0_4 c178
   have ah1 := slRep.ch k_Slice_pos ah1 c178
   have ah2_0 := slRep.ch k_Addr_pos ah2_0 c178
   have k4 := k4.ch0 c178
   have k8 := k8.ch0 c178
   have k12 := k12.ch0 c178
   have h19_5 := slRep.ch k_Face_pos h19_5 c178
   have h94 := slRep.ch k_Face_pos h94 c178
   have h96 := h96.ch0 c178
   have k99 := k99.ch0 c178
   have k141 := k141.ch0 c178
   have k160 := k160.ch0 c178
   have h171 := h171.ch0 c178
   have c118 := c118.then0 c178
   refine rl_assign rfl rfl ?_
   refine RL.nil (thn_n (CW.region ?_))
   refine rl_fieldAddr rfl fa39_2 rfl ?_
   refine rl_loadS (v := v95) rfl Tryz.isAgg37 (k99.cell rfl) rfl ?_
   refine rl_fieldAddr rfl fa47_2 rfl ?_
   refine rl_loadS (v := (Value.string x115.name)) rfl Tryz.isAgg9 (k141.cell rfl) rfl ?_
   refine rl_fieldAddr rfl fa47_0 rfl ?_
   refine rl_loadS (v := (Value.int .i64 x115.proto)) rfl Tryz.isAgg3 (k141.cell rfl) rfl ?_
   refine rl_fieldAddr rfl fa47_1 rfl ?_
   refine rl_fieldAddr rfl fa45_0 rfl ?_
   refine rl_fieldAddr rfl fa43_0 rfl ?_
   refine rl_loadS (v := (Value.bool x115.point.addr.six)) rfl Tryz.isAgg4 (k141.cell rfl) rfl ?_
   refine rl_fieldAddr rfl fa47_4 rfl ?_
   refine rl_loadS (v := (Value.bool x115.localF)) rfl Tryz.isAgg4 (k141.cell rfl) rfl ?_
   refine rl_move rfl rfl ?_
   refine rl_buildC (out := (Group.c ({ name := x115.name, proto := x115.proto, six := x115.point.addr.six, localF := x115.localF, points := y179 } : Group) v181)) [(0, [(Value.string x115.name)]), (1, [(Value.int .i64 x115.proto)]), (2, [(Value.bool x115.point.addr.six)]), (3, [(Value.bool x115.localF)]), (4, [v181])] rfl (co_cons rfl (co_cons rfl (co_cons rfl (co_cons rfl (co_cons (one_toL h182.one.1) co_nil))))) pl50 Tryz.zeroValue50 rfl rfl rfl ?_
   refine rl_bslice (k := k_Group) (F := F) (B := w.heap.size) (S := (un (inBlk (PV p147)) (un (inBlk (PV p129)) (un (inBlk v95) (un (inBlk (Value.map (some p81))) (un (inBlk (PV p20)) (un (inBlk (PV p9)) nb))))))) ([({ name := x115.name, proto := x115.proto, six := x115.point.addr.six, localF := x115.localF, points := y179 } : Group)] : List Group) rfl k_Group_pos Tryz.underlying37 Tryz.sizeOf50 Tryz.zeroValue50 rfl rfl ⟨rfl, ⟨v181, rfl, h182⟩, trivial⟩ c118.size (un_lt k160.ltp (un_lt k141.ltp (un_lt (fun b hb => (h96.lt b hb).2) (un_lt h171.ltp (un_lt k99.ltp (un_lt k12.ltp nbS)))))) rfl ?_
   intro v183 w184 c185 hf186 h187
   have h187 := h187.readNew k_Group_pos hf186 (un_lt k160.ltp (un_lt k141.ltp (un_lt (fun b hb => (h96.lt b hb).2) (un_lt h171.ltp (un_lt k99.ltp (un_lt k12.ltp nbS))))))
   have ah0_0 := slRep.ch k_Addr_pos ah0_0 c185
   have ah0_1 := slRep.ch k_Addr_pos ah0_1 c185
   have ah0_2 := slRep.ch k_Addr_pos ah0_2 c185
   have ah0_3 := slRep.ch k_Cidr_pos ah0_3 c185
   have ah0_4 := slRep.ch k_Port_pos ah0_4 c185
   have ah1 := slRep.ch k_Slice_pos ah1 c185
   have ah2_0 := slRep.ch k_Addr_pos ah2_0 c185
   have k4 := k4.ch0 c185
   have k8 := k8.ch0 c185
   have k12 := k12.ch0 c185
   have h19_5 := slRep.ch k_Face_pos h19_5 c185
   have h94 := slRep.ch k_Face_pos h94 c185
   have h96 := h96.ch0 c185
   have k99 := k99.ch0 c185
   have k141 := k141.ch0 c185
   have k160 := k160.ch0 c185
   have h171 := h171.ch0 c185
   have c118 := c118.then0 c185
   obtain ⟨z196, hz197, hb112⟩ := bindS hb112
   have hl := (apO_get hz197).1
   refine rl_append (k := k_Group) (T := 50) (F := F) (B := w.heap.size) (S := (un (inBlk (PV p147)) (un (inBlk (PV p129)) (un (inBlk v95) (un (inBlk (Value.map (some p81))) (un (inBlk (PV p20)) (un (inBlk (PV p9)) nb))))))) (S2 := (un (inBlk (PV p147)) (un (inBlk (PV p129)) (un (inBlk (Value.map (some p81))) (un (inBlk (PV p20)) (un (inBlk (PV p9)) nb)))))) (fun v => (un (inBlk (PV p147)) (un (inBlk (PV p129)) (un (inBlk v) (un (inBlk (Value.map (some p81))) (un (inBlk (PV p20)) (un (inBlk (PV p9)) nb))))))) rfl rfl k_Group_pos ap37 h96 h187 (fun _ => un_swap3) (fun _ _ => un_swap3) hl c118.size (un_lt k160.ltp (un_lt k141.ltp (un_lt (fun b hb => (h96.lt b hb).2) (un_lt h171.ltp (un_lt k99.ltp (un_lt k12.ltp nbS)))))) rfl ?_
   intro v190 w191 h192 c193 hf194 ha195
   have d200 : ∀ b, inBlk v190 b → ¬ inBlk (Value.map (some p81)) b := disApp hf194 d100 h171.ltp
   have d201 : ∀ b, inBlk v190 b → ¬ inBlk (PV p20) b := disApp hf194 d101 k99.ltp
   have d202 : ∀ b, inBlk v190 b → ¬ inBlk (PV p9) b := disApp hf194 d102 k12.ltp
   have ah0_0 := slRep.st k_Addr_pos ah0_0 c193 ha195
   have ah0_1 := slRep.st k_Addr_pos ah0_1 c193 ha195
   have ah0_2 := slRep.st k_Addr_pos ah0_2 c193 ha195
   have ah0_3 := slRep.st k_Cidr_pos ah0_3 c193 ha195
   have ah0_4 := slRep.st k_Port_pos ah0_4 c193 ha195
   have ah1 := slRep.st k_Slice_pos ah1 c193 ha195
   have ah2_0 := slRep.st k_Addr_pos ah2_0 c193 ha195
   have gp1n : (G F w.heap.size (un (inBlk (PV p147)) (un (inBlk (PV p129)) (un (inBlk v190) (un (inBlk (Value.map (some p81))) (un (inBlk (PV p20)) (un (inBlk (PV p9)) nb))))))) p1 := ⟨gp1.1, (ha195 _ k4.lt gp1.2).2⟩
   have k4 := k4.ch c193 (ha195 _ k4.lt gp1.2).1
   have gp1 := gp1n
   have gp5n : (G F w.heap.size (un (inBlk (PV p147)) (un (inBlk (PV p129)) (un (inBlk v190) (un (inBlk (Value.map (some p81))) (un (inBlk (PV p20)) (un (inBlk (PV p9)) nb))))))) p5 := ⟨gp5.1, (ha195 _ k8.lt gp5.2).2⟩
   have k8 := k8.ch c193 (ha195 _ k8.lt gp5.2).1
   have gp5 := gp5n
   have k12 := k12.ch c193 ((fun b hb h => (disSym d102) b hb h) _ rfl)
   have h19_5 := slRep.st k_Face_pos h19_5 c193 ha195
   have h94 := slRep.st k_Face_pos h94 c193 ha195
   have k99 := k99.ch c193 ((fun b hb h => (disSym d101) b hb h) _ rfl)
   have h171 := h171.ch c193 ((fun b hb h => (disSym d100) b hb h))
   have c118 := c118.then c193 (fun i hi h => absurd ((fun b hb => (h96.lt b hb).1) i h) (Nat.not_le_of_lt hi))
   refine rl_fieldAddr rfl fa39_2 rfl ?_
   refine rl_storeS (u := v190) rfl rfl h192.one Tryz.sizeOf37 k99 rfl ?_
   intro w203 s205 c204 k206
   have ad207 : ∀ b, b < w191.heap.size → ¬ (un (inBlk (PV p147)) (un (inBlk (PV p129)) (un (inBlk v190) (un (inBlk (Value.map (some p81))) (un (inBlk (PV p20)) (un (inBlk (PV p9)) nb)))))) b → ¬ (inBlk (PV p20)) b ∧ ¬ (un (inBlk (PV p147)) (un (inBlk (PV p129)) (un (inBlk v190) (un (inBlk (Value.map (some p81))) (un (inBlk (PV p20)) (un (inBlk (PV p9)) nb)))))) b := fun b _ hs => ⟨fun h => hs (.inr (.inr (.inr (.inr (.inl h))))), hs⟩
   have ah0_0 := slRep.st k_Addr_pos ah0_0 c204 ad207
   have ah0_1 := slRep.st k_Addr_pos ah0_1 c204 ad207
   have ah0_2 := slRep.st k_Addr_pos ah0_2 c204 ad207
   have ah0_3 := slRep.st k_Cidr_pos ah0_3 c204 ad207
   have ah0_4 := slRep.st k_Port_pos ah0_4 c204 ad207
   have ah1 := slRep.st k_Slice_pos ah1 c204 ad207
   have ah2_0 := slRep.st k_Addr_pos ah2_0 c204 ad207
   have k4 := k4.ch c204 (ad207 _ k4.lt gp1.2).1
   have k8 := k8.ch c204 (ad207 _ k8.lt gp5.2).1
   have k12 := k12.ch c204 ((fun b hb h => (disSym d105) b hb h) _ rfl)
   have h19_5 := slRep.st k_Face_pos h19_5 c204 ad207
   have h94 := slRep.st k_Face_pos h94 c204 ad207
   have h171 := h171.ch c204 ((fun b hb h => d103 b hb h))
   have h192 := h192.st c204 (fun b hb h => d201 b hb h) ad207 (fun b h => (.inr (.inr (.inl h))))
   have c118 := c118.then c204 (fun i hi h => absurd (lo72 i h) (Nat.not_le_of_lt hi))
   refine RL.nil ?_
   refine inB_n ?_
   refine thn_n (CW.region ?_)
   refine rl_inc rfl hat109.lt h19_5.big rfl ?_
   refine rl_move rfl rfl ?_
   refine RL.nil (thn_n ?_)
   have ad208 : ∀ b, b < w203.heap.size → ¬ (un (inBlk (PV p147)) (un (inBlk (PV p129)) (un (inBlk v190) (un (inBlk (Value.map (some p81))) (un (inBlk (PV p20)) (un (inBlk (PV p9)) nb)))))) b → ¬ nb b ∧ ¬ (un (inBlk (PV p129)) (un (inBlk v190) (un (inBlk (Value.map (some p81))) (un (inBlk (PV p20)) (un (inBlk (PV p9)) nb))))) b := fun b _ hs => ⟨fun x => x, fun h => hs (un_el h (fun h => (.inr (.inl h))) (fun h => un_el h (fun h => (.inr (.inr (.inl h)))) (fun h => un_el h (fun h => (.inr (.inr (.inr (.inl h))))) (fun h => un_el h (fun h => (.inr (.inr (.inr (.inr (.inl h)))))) (fun h => un_el h (fun h => (.inr (.inr (.inr (.inr (.inr (.inl h))))))) (fun h => False.elim h))))))⟩
   have crf : Ch nb w203 w203 := Ch.refl
   have ah0_0 := slRep.st k_Addr_pos ah0_0 crf ad208
   have ah0_1 := slRep.st k_Addr_pos ah0_1 crf ad208
   have ah0_2 := slRep.st k_Addr_pos ah0_2 crf ad208
   have ah0_3 := slRep.st k_Cidr_pos ah0_3 crf ad208
   have ah0_4 := slRep.st k_Port_pos ah0_4 crf ad208
   have ah1 := slRep.st k_Slice_pos ah1 crf ad208
   have ah2_0 := slRep.st k_Addr_pos ah2_0 crf ad208
   have gp1n : (G F w.heap.size (un (inBlk (PV p129)) (un (inBlk v190) (un (inBlk (Value.map (some p81))) (un (inBlk (PV p20)) (un (inBlk (PV p9)) nb)))))) p1 := ⟨gp1.1, (ad208 _ k4.lt gp1.2).2⟩
   have k4 := k4.ch0 crf
   have gp1 := gp1n
   have gp5n : (G F w.heap.size (un (inBlk (PV p129)) (un (inBlk v190) (un (inBlk (Value.map (some p81))) (un (inBlk (PV p20)) (un (inBlk (PV p9)) nb)))))) p5 := ⟨gp5.1, (ad208 _ k8.lt gp5.2).2⟩
   have k8 := k8.ch0 crf
   have gp5 := gp5n
   have k12 := k12.ch0 crf
   have h19_5 := slRep.st k_Face_pos h19_5 crf ad208
   have h94 := slRep.st k_Face_pos h94 crf ad208
   have h171 := h171.ch0 crf
   have h192 := h192.st crf (fun _ _ x => x) ad208 (fun b h => (.inr (.inl h)))
   have k206 := k206.ch0 crf
   have c118 := c118.then0 crf
   have ad209 : ∀ b, b < w203.heap.size → ¬ (un (inBlk (PV p129)) (un (inBlk v190) (un (inBlk (Value.map (some p81))) (un (inBlk (PV p20)) (un (inBlk (PV p9)) nb))))) b → ¬ nb b ∧ ¬ (un (inBlk v190) (un (inBlk (Value.map (some p81))) (un (inBlk (PV p20)) (un (inBlk (PV p9)) nb)))) b := fun b _ hs => ⟨fun x => x, fun h => hs (un_el h (fun h => (.inr (.inl h))) (fun h => un_el h (fun h => (.inr (.inr (.inl h)))) (fun h => un_el h (fun h => (.inr (.inr (.inr (.inl h))))) (fun h => un_el h (fun h => (.inr (.inr (.inr (.inr (.inl h)))))) (fun h => False.elim h)))))⟩
   have crf : Ch nb w203 w203 := Ch.refl
   have ah0_0 := slRep.st k_Addr_pos ah0_0 crf ad209
   have ah0_1 := slRep.st k_Addr_pos ah0_1 crf ad209
   have ah0_2 := slRep.st k_Addr_pos ah0_2 crf ad209
   have ah0_3 := slRep.st k_Cidr_pos ah0_3 crf ad209
   have ah0_4 := slRep.st k_Port_pos ah0_4 crf ad209
   have ah1 := slRep.st k_Slice_pos ah1 crf ad209
   have ah2_0 := slRep.st k_Addr_pos ah2_0 crf ad209
   have gp1n : (G F w.heap.size (un (inBlk v190) (un (inBlk (Value.map (some p81))) (un (inBlk (PV p20)) (un (inBlk (PV p9)) nb))))) p1 := ⟨gp1.1, (ad209 _ k4.lt gp1.2).2⟩
   have k4 := k4.ch0 crf
   have gp1 := gp1n
   have gp5n : (G F w.heap.size (un (inBlk v190) (un (inBlk (Value.map (some p81))) (un (inBlk (PV p20)) (un (inBlk (PV p9)) nb))))) p5 := ⟨gp5.1, (ad209 _ k8.lt gp5.2).2⟩
   have k8 := k8.ch0 crf
   have gp5 := gp5n
   have k12 := k12.ch0 crf
   have h19_5 := slRep.st k_Face_pos h19_5 crf ad209
   have h94 := slRep.st k_Face_pos h94 crf ad209
   have h171 := h171.ch0 crf
   have h192 := h192.st crf (fun _ _ x => x) ad209 (fun b h => (.inl h))
   have k206 := k206.ch0 crf
   have c118 := c118.then0 crf
   have hLn := runAO_next hL108 hq111 hb112
   exact ⟨rest122.length, Nat.lt_succ_self _, [(1, av1), (3, (PV p1)), (5, (PV p5)), (6, (PV p9)), (7, (PV p20)), (8, (Value.map (some p81))), (22, v18_5), (23, (Value.int .i64 ((y16.length : Nat) : Int))), (24, (Value.int .i64 ((i107 + 1 : Nat) : Int)))], ⟨rfl, rfl, rfl, rfl, rfl, rfl, rfl, rfl, rfl, trivial⟩, ⟨rest122, i107 + 1, ({ key := x92.key, faces := x92.faces, groups := x92.groups ++ [({ name := x115.name, proto := x115.proto, six := x115.point.addr.six, localF := x115.localF, points := y179 } : Group)] } : Resolved), v93, v190, mput x97 y167 ({  } : St85), rfl, rfl, c118, hat109.next, hLn, ah0_0, ah0_1, ah0_2, ah0_3, ah0_4, ah1, ah2_0, k4, k8, k12, h19_5, h94, h192, h171, k206, gp1, gp5, d200, d201, d202, d103, d104, d105⟩⟩
  obtain rfl := hat109.nil q121
  have hLf : (x92, x97) = o113 := runAO_done hL108
  refine CW.exit (thn_exit (thn_exit (inB_hit ?_)))
  exact ⟨x92, v93, v95, x97, ⟨rfl, rfl, trivial⟩, c118, hLf, ah0_0, ah0_1, ah0_2, ah0_3, ah0_4, ah1, ah2_0, k4, k8, k12, h19_5, h94, h96, h98, k99, gp1, gp5, d100, d101, d102, d103, d104, d105⟩
 rintro _ w211 ⟨x92, v93, v95, x97, hE212, c210, f213, ah0_0, ah0_1, ah0_2, ah0_3, ah0_4, ah1, ah2_0, k4, k8, k12, h19_5, h94, h96, h98, k99, gp1, gp5, d100, d101, d102, d103, d104, d105⟩
 subst f213
 refine thn_n (CW.sub [(6, (PV p9)), (7, (PV p20))] hE212 ?_)
 refine CW.seq (CW.region ?_)
 refine rl_fieldAddr rfl fa39_2 rfl ?_
 refine rl_loadS (v := v95) rfl Tryz.isAgg37 (k99.cell rfl) rfl ?_
 have hd215 : ∀ b, (inBlk v95) b → ¬ (un (inBlk (Value.map (some p81))) (un (inBlk (PV p20)) (un (inBlk (PV p9)) nb))) b := fun b h => (fun b hb => fun h => un_el h (fun h => d100 b hb h) (fun h => un_el h (fun h => d101 b hb h) (fun h => un_el h (fun h => d102 b hb h) (fun h => h)))) b h
 have hS216 : (un (inBlk v95) (un (inBlk (Value.map (some p81))) (un (inBlk (PV p20)) (un (inBlk (PV p9)) nb)))) = (un (inBlk v95) (un (inBlk (Value.map (some p81))) (un (inBlk (PV p20)) (un (inBlk (PV p9)) nb)))) := rfl
 have ha217 := (show (Kd.fn2 Tryz.prog true true k_Group k_Group (Value.int .i64)).rep (G F w.heap.size (un (inBlk v95) (un (inBlk (Value.map (some p81))) (un (inBlk (PV p20)) (un (inBlk (PV p9)) nb))))) w211 (fun x0 x1 => F29_order x0 x1) [(Value.func (.func 29) #[] [].toArray)] from ⟨29, [], rfl, en29, fun w' hw F' x0 x1 c0 c1 hx0 hx1 => by
     obtain ⟨u0_0, rfl, e0_0⟩ := hx0
     obtain ⟨u1_0, rfl, e1_0⟩ := hx1
     exact (ctr29 (fun b => (G F w.heap.size (un (inBlk v95) (un (inBlk (Value.map (some p81))) (un (inBlk (PV p20)) (un (inBlk (PV p9)) nb))))) b ∨ F' b) w' x0 u0_0 (slRep.wk k_Point_pos e0_0 fun _ _ h => .inr h) x1 u1_0 (slRep.wk k_Point_pos e1_0 fun _ _ h => .inr h) _ rfl).mono (by rintro v w'' ⟨rfl, c⟩; exact ⟨rfl, c⟩)⟩)
 rw [hS216] at ha217
 obtain ⟨y220, hy221, hS⟩ := bindS hS
 refine rl_callF rfl en28 rfl (ctr28 F w211 w.heap.size (un (inBlk (Value.map (some p81))) (un (inBlk (PV p20)) (un (inBlk (PV p9)) nb))) c210.size (un_lt h98.ltp (un_lt k99.ltp (un_lt k12.ltp nbS))) v95 hd215  x92.groups (hS216 ▸ h96) (fun x0 x1 => F29_order x0 x1) (Value.func (.func 29) #[] [].toArray) ha217 y220 hy221) ?_
 rintro _ w218 ⟨rfl, h222, c219⟩
 rw [← hS216] at h222
 have ad223 : ∀ b, b < w211.heap.size → ¬ (un (inBlk v95) (un (inBlk (Value.map (some p81))) (un (inBlk (PV p20)) (un (inBlk (PV p9)) nb)))) b → ¬ (inBlk v95) b ∧ ¬ (un (inBlk v95) (un (inBlk (Value.map (some p81))) (un (inBlk (PV p20)) (un (inBlk (PV p9)) nb)))) b := fun b _ hs => ⟨fun h => hs (.inl h), hs⟩
 have k12 := k12.ch c219 ((fun b hb h => (disSym d102) b hb h) _ rfl)
 have h94 := slRep.st k_Face_pos h94 c219 ad223
 have k99 := k99.ch c219 ((fun b hb h => (disSym d101) b hb h) _ rfl)
 have c210 := c210.then c219 (fun i hi h => absurd ((fun b hb => (h96.lt b hb).1) i h) (Nat.not_le_of_lt hi))
 refine RL.nil (thn_n (CW.seq (CW.region ?_)))
 refine rl_loadA (cs := (Resolved.c ({ key := x92.key, faces := x92.faces, groups := y220 } : Resolved) v93 v95)) rfl Tryz.isAgg39 Tryz.sizeOf39 (k99.segAt 0 4) rfl rfl ?_
 have ad224 : ∀ b, b < w218.heap.size → ¬ (un (inBlk v95) (un (inBlk (Value.map (some p81))) (un (inBlk (PV p20)) (un (inBlk (PV p9)) nb)))) b → ¬ nb b ∧ ¬ (un (inBlk (Value.map (some p81))) (un (inBlk (PV p20)) (un (inBlk (PV p9)) nb))) b := fun b _ hs => ⟨fun x => x, fun h => hs (un_el h (fun h => (.inr (.inl h))) (fun h => un_el h (fun h => (.inr (.inr (.inl h)))) (fun h => un_el h (fun h => (.inr (.inr (.inr (.inl h))))) (fun h => False.elim h))))⟩
 have h222 := SlO.read (S' := (un (inBlk (Value.map (some p81))) (un (inBlk (PV p20)) (un (inBlk (PV p9)) nb)))) k_Group_pos h222 (fun b hs h => hs (un_el h (fun h => (.inr (.inl h))) (fun h => un_el h (fun h => (.inr (.inr (.inl h)))) (fun h => un_el h (fun h => (.inr (.inr (.inr (.inl h))))) (fun h => False.elim h))))) (fun b hb => fun h => un_el h (fun h => d100 b hb h) (fun h => un_el h (fun h => d101 b hb h) (fun h => un_el h (fun h => d102 b hb h) (fun h => h))))
 have crf : Ch nb w218 w218 := Ch.refl
 have k12 := k12.ch0 crf
 have h94 := slRep.st k_Face_pos h94 crf ad224
 have c210 := c210.then0 crf
 refine rl_storeA (vs := (Resolved.c ({ key := x92.key, faces := x92.faces, groups := y220 } : Resolved) v93 v95)) rfl rfl (Kd.one _ (show k_Resolved.rep (G F w.heap.size (un (inBlk (Value.map (some p81))) (un (inBlk (PV p20)) (un (inBlk (PV p9)) nb)))) w218 ({ key := x92.key, faces := x92.faces, groups := y220 } : Resolved) (Resolved.c ({ key := x92.key, faces := x92.faces, groups := y220 } : Resolved) v93 v95) from ⟨v93, v95, rfl, h94, h222⟩)) Tryz.sizeOf39 rfl k12 rfl ?_
 intro w225 s227 c226 k228
 have ad229 : ∀ b, b < w218.heap.size → ¬ (un (inBlk (Value.map (some p81))) (un (inBlk (PV p20)) (un (inBlk (PV p9)) nb))) b → ¬ (inBlk (PV p9)) b ∧ ¬ (un (inBlk (Value.map (some p81))) (un (inBlk (PV p20)) (un (inBlk (PV p9)) nb))) b := fun b _ hs => ⟨fun h => hs (.inr (.inr (.inl h))), hs⟩
 have h94 := slRep.st k_Face_pos h94 c226 ad229
 have h222 := slRep.st k_Group_pos h222 c226 ad229
 have c210 := c210.then c226 (fun i hi h => absurd (lo13 i h) (Nat.not_le_of_lt hi))
 refine RL.nil (thn_n (CW.ret ?_))
 obtain rfl := Option.some.inj hS
 exact ⟨[_], ⟨Res1.agg (cs := (Resolved.c ({ key := x92.key, faces := x92.faces, groups := y220 } : Resolved) v93 v95)) rfl Tryz.isAgg39 Tryz.sizeOf39 (k228.segAt 0 4) rfl, trivial⟩, ⟨v93, v95, rfl, slRep.out k_Face_pos h94, slRep.out k_Group_pos h222, c210⟩⟩
/-- lb/lblaw21.alive -/
theorem ctr6 (F : Nat → Prop) (w : World)  (r : Bool) (hs : F6_alive  = some r) :
    Ret Tryz.prog 6 #[] w fun v w' => v = (Value.bool r) ∧ Ch nb w w' := by
 have hS := hs
 have c0 : Ch nb w w := Ch.refl
 refine Ret.of (n := 33) (args := []) (rs := [.tmp 0]) Tryz.func6 rfl rfl rfl rfl ?_
 refine CW.seq (CW.region ?_)
 refine rl_assign rfl rfl ?_
 refine RL.nil (thn_n (CW.seq (CW.region ?_)))
 refine rl_buildArr (out := (A16u8.enc ({ e0 := 10, e1 := 0, e2 := 0, e3 := 1, e4 := 0, e5 := 0, e6 := 0, e7 := 0, e8 := 0, e9 := 0, e10 := 0, e11 := 0, e12 := 0, e13 := 0, e14 := 0, e15 := 0 } : A16u8))) rfl Tryz.underlying41 Tryz.sizeOf5 Tryz.zeroValue41 rfl rfl rfl ?_
 refine rl_build (out := (Addr.enc ({ six := false, b := ({ e0 := 10, e1 := 0, e2 := 0, e3 := 1, e4 := 0, e5 := 0, e6 := 0, e7 := 0, e8 := 0, e9 := 0, e10 := 0, e11 := 0, e12 := 0, e13 := 0, e14 := 0, e15 := 0 } : A16u8) } : Addr))) rfl pl43 Tryz.zeroValue43 rfl rfl rfl ?_
 refine rl_bslice (k := k_Addr) (F := F) (B := w.heap.size) (S := nb) ([({ six := false, b := ({ e0 := 10, e1 := 0, e2 := 0, e3 := 1, e4 := 0, e5 := 0, e6 := 0, e7 := 0, e8 := 0, e9 := 0, e10 := 0, e11 := 0, e12 := 0, e13 := 0, e14 := 0, e15 := 0 } : A16u8) } : Addr)] : List Addr) rfl k_Addr_pos Tryz.underlying24 Tryz.sizeOf43 Tryz.zeroValue43 rfl rfl ⟨rfl, rfl, trivial⟩ c0.size nbS rfl ?_
 intro v1 w2 c3 hf4 h5
 have h5 := h5.readNew k_Addr_pos hf4 nbS
 have c0 := c0.then0 c3
 refine rl_build (out := (Port.enc ({ name := (⟨#[104]⟩ : ByteArray), proto := 6, port := 80, outer := 0 } : Port))) rfl pl78 Tryz.zeroValue78 rfl rfl rfl ?_
 refine rl_bslice (k := k_Port) (F := F) (B := w.heap.size) (S := nb) ([({ name := (⟨#[104]⟩ : ByteArray), proto := 6, port := 80, outer := 0 } : Port)] : List Port) rfl k_Port_pos Tryz.underlying26 Tryz.sizeOf78 Tryz.zeroValue78 rfl rfl ⟨rfl, rfl, trivial⟩ c0.size nbS rfl ?_
 intro v6 w7 c8 hf9 h10
 have h10 := h10.readNew k_Port_pos hf9 nbS
 have h5 := slRep.ch k_Addr_pos h5 c8
 have c0 := c0.then0 c8
 refine rl_buildC (out := (Service.c ({ key := Key.z, kind := 0, cluster := [({ six := false, b := ({ e0 := 10, e1 := 0, e2 := 0, e3 := 1, e4 := 0, e5 := 0, e6 := 0, e7 := 0, e8 := 0, e9 := 0, e10 := 0, e11 := 0, e12 := 0, e13 := 0, e14 := 0, e15 := 0 } : A16u8) } : Addr)], external := [], balancers := [], ranges := [], ports := [({ name := (⟨#[104]⟩ : ByteArray), proto := 6, port := 80, outer := 0 } : Port)], internalLocal := false, externalLocal := false, sticky := false, ticks := 0, hinted := false } : Service) v1 (Value.slice none 0 0) (Value.slice none 0 0) (Value.slice none 0 0) v6)) [(2, [v1]), (6, [v6])] rfl (co_cons (one_toL h5.one.1) (co_cons (one_toL h10.one.1) co_nil)) pl28 Tryz.zeroValue28 rfl rfl rfl ?_
 refine rl_alloc (Service.c Service.z (Value.slice none 0 0) (Value.slice none 0 0) (Value.slice none 0 0) (Value.slice none 0 0) (Value.slice none 0 0)) Tryz.zeroValue28 rfl rfl ?_
 intro p11 w12 n13 k14
 have lo15 : ∀ b, inBlk (PV p11) b → w.heap.size ≤ b := fun b h => Nat.le_trans c0.size (n13.fresh b h)
 have h5 := slRep.st k_Addr_pos h5 n13.ch (admNew n13.fresh (fun _ x => x))
 have h10 := slRep.st k_Port_pos h10 n13.ch (admNew n13.fresh (fun _ x => x))
 have c0 := c0.then0 n13.ch
 refine rl_storeA (vs := (Service.c ({ key := Key.z, kind := 0, cluster := [({ six := false, b := ({ e0 := 10, e1 := 0, e2 := 0, e3 := 1, e4 := 0, e5 := 0, e6 := 0, e7 := 0, e8 := 0, e9 := 0, e10 := 0, e11 := 0, e12 := 0, e13 := 0, e14 := 0, e15 := 0 } : A16u8) } : Addr)], external := [], balancers := [], ranges := [], ports := [({ name := (⟨#[104]⟩ : ByteArray), proto := 6, port := 80, outer := 0 } : Port)], internalLocal := false, externalLocal := false, sticky := false, ticks := 0, hinted := false } : Service) v1 (Value.slice none 0 0) (Value.slice none 0 0) (Value.slice none 0 0) v6)) rfl rfl (Kd.one _ (show k_Service.rep (G F w.heap.size (un (inBlk (PV p11)) nb)) w12 ({ key := Key.z, kind := 0, cluster := [({ six := false, b := ({ e0 := 10, e1 := 0, e2 := 0, e3 := 1, e4 := 0, e5 := 0, e6 := 0, e7 := 0, e8 := 0, e9 := 0, e10 := 0, e11 := 0, e12 := 0, e13 := 0, e14 := 0, e15 := 0 } : A16u8) } : Addr)], external := [], balancers := [], ranges := [], ports := [({ name := (⟨#[104]⟩ : ByteArray), proto := 6, port := 80, outer := 0 } : Port)], internalLocal := false, externalLocal := false, sticky := false, ticks := 0, hinted := false } : Service) (Service.c ({ key := Key.z, kind := 0, cluster := [({ six := false, b := ({ e0 := 10, e1 := 0, e2 := 0, e3 := 1, e4 := 0, e5 := 0, e6 := 0, e7 := 0, e8 := 0, e9 := 0, e10 := 0, e11 := 0, e12 := 0, e13 := 0, e14 := 0, e15 := 0 } : A16u8) } : Addr)], external := [], balancers := [], ranges := [], ports := [({ name := (⟨#[104]⟩ : ByteArray), proto := 6, port := 80, outer := 0 } : Port)], internalLocal := false, externalLocal := false, sticky := false, ticks := 0, hinted := false } : Service) v1 (Value.slice none 0 0) (Value.slice none 0 0) (Value.slice none 0 0) v6) from ⟨v1, (Value.slice none 0 0), (Value.slice none 0 0), (Value.slice none 0 0), v6, rfl, h5, (.inl ⟨rfl, rfl⟩), (.inl ⟨rfl, rfl⟩), (.inl ⟨rfl, rfl⟩), h10⟩)) Tryz.sizeOf28 rfl k14 rfl ?_
 intro w16 s18 c17 k19
 have ad20 : ∀ b, b < w12.heap.size → ¬ (un (inBlk (PV p11)) nb) b → ¬ (inBlk (PV p11)) b ∧ ¬ (un (inBlk (PV p11)) nb) b := fun b _ hs => ⟨fun h => hs (.inl h), hs⟩
 have h5 := slRep.st k_Addr_pos h5 c17 ad20
 have h10 := slRep.st k_Port_pos h10 c17 ad20
 have c0 := c0.then c17 (fun i hi h => absurd (lo15 i h) (Nat.not_le_of_lt hi))
 refine RL.nil (thn_n (CW.seq (CW.region ?_)))
 refine rl_loadA (cs := (Service.c ({ key := Key.z, kind := 0, cluster := [({ six := false, b := ({ e0 := 10, e1 := 0, e2 := 0, e3 := 1, e4 := 0, e5 := 0, e6 := 0, e7 := 0, e8 := 0, e9 := 0, e10 := 0, e11 := 0, e12 := 0, e13 := 0, e14 := 0, e15 := 0 } : A16u8) } : Addr)], external := [], balancers := [], ranges := [], ports := [({ name := (⟨#[104]⟩ : ByteArray), proto := 6, port := 80, outer := 0 } : Port)], internalLocal := false, externalLocal := false, sticky := false, ticks := 0, hinted := false } : Service) v1 (Value.slice none 0 0) (Value.slice none 0 0) (Value.slice none 0 0) v6)) rfl Tryz.isAgg28 Tryz.sizeOf28 (k19.segAt 0 13) rfl rfl ?_
 refine rl_build (out := (Node.c ({ name := ⟨#[]⟩, zone := ⟨#[]⟩, addrs := [] } : Node) (Value.slice none 0 0))) rfl pl31 Tryz.zeroValue31 rfl rfl rfl ?_
 obtain ⟨y23, hy24, hS⟩ := bindS hS
 refine rl_callF rfl en10 rfl (ctr10 (G F w.heap.size (un (inBlk (PV p11)) nb)) w16 ({ key := Key.z, kind := 0, cluster := [({ six := false, b := ({ e0 := 10, e1 := 0, e2 := 0, e3 := 1, e4 := 0, e5 := 0, e6 := 0, e7 := 0, e8 := 0, e9 := 0, e10 := 0, e11 := 0, e12 := 0, e13 := 0, e14 := 0, e15 := 0 } : A16u8) } : Addr)], external := [], balancers := [], ranges := [], ports := [({ name := (⟨#[104]⟩ : ByteArray), proto := 6, port := 80, outer := 0 } : Port)], internalLocal := false, externalLocal := false, sticky := false, ticks := 0, hinted := false } : Service) v1 (Value.slice none 0 0) (Value.slice none 0 0) (Value.slice none 0 0) v6 h5 (.inl ⟨rfl, rfl⟩) (.inl ⟨rfl, rfl⟩) (.inl ⟨rfl, rfl⟩) h10 [] (Value.slice none 0 0) (.inl ⟨rfl, rfl⟩) ({ name := ⟨#[]⟩, zone := ⟨#[]⟩, addrs := [] } : Node) (Value.slice none 0 0) (.inl ⟨rfl, rfl⟩) y23 hy24) ?_
 rintro _ w21 ⟨z25, z26, rfl, h27, h28, c22⟩
 have h27 := slRep.back k_Face_pos h27 (un_lt k19.ltp nbS) c0.size
 have h28 := slRep.back k_Group_pos h28 (un_lt k19.ltp nbS) c0.size
 have c0 := c0.then0 c22
 refine rl_alloc (Resolved.c Resolved.z (Value.slice none 0 0) (Value.slice none 0 0)) Tryz.zeroValue39 rfl rfl ?_
 intro p29 w30 n31 k32
 have lo33 : ∀ b, inBlk (PV p29) b → w.heap.size ≤ b := fun b h => Nat.le_trans c0.size (n31.fresh b h)
 have h27 := slRep.st k_Face_pos h27 n31.ch (admNew n31.fresh (fun _ x => x))
 have h28 := slRep.st k_Group_pos h28 n31.ch (admNew n31.fresh (fun _ x => x))
 have c0 := c0.then0 n31.ch
 refine rl_storeA (vs := (Resolved.c y23 z25 z26)) rfl rfl (Kd.one _ (show k_Resolved.rep (G F w.heap.size (un (inBlk (PV p29)) (un (inBlk (PV p11)) nb))) w30 y23 (Resolved.c y23 z25 z26) from ⟨z25, z26, rfl, h27, h28⟩)) Tryz.sizeOf39 rfl k32 rfl ?_
 intro w35 s37 c36 k38
 have ad39 : ∀ b, b < w30.heap.size → ¬ (un (inBlk (PV p29)) (un (inBlk (PV p11)) nb)) b → ¬ (inBlk (PV p29)) b ∧ ¬ (un (inBlk (PV p29)) (un (inBlk (PV p11)) nb)) b := fun b _ hs => ⟨fun h => hs (.inl h), hs⟩
 have h28 := slRep.st k_Group_pos h28 c36 ad39
 have c0 := c0.then c36 (fun i hi h => absurd (lo33 i h) (Nat.not_le_of_lt hi))
 refine RL.nil (thn_n (CW.seq (CW.region ?_)))
 refine rl_fieldAddr rfl fa39_2 rfl ?_
 refine rl_loadS (v := z26) rfl Tryz.isAgg37 (k38.cell rfl) rfl ?_
 refine rl_lenR rfl h28 Tryz.underlying37 rfl ?_
 refine rl_bin rfl rfl B.eql rfl ?_
 refine rl_move rfl rfl ?_
 obtain ⟨b42, hb43, hS⟩ := bindS hS
 refine RL.join 8 24 (.bool b42) (fun w' => Ch nb w35 w') ?_ ?_
 · rcases Bool.eq_false_or_eq_true (decide (((y23.groups.length : Nat) : Int) = 1)) with hg41 | hg41
   ·
    have hs40 := andO_t hg41 hb43
    have cs : Ch nb w35 w35 := Ch.refl
    refine RL.yes rfl rfl rfl hg41 ?_
    refine rl_fieldAddr rfl fa39_2 rfl ?_
    refine RL.yes rfl rfl rfl hg41 ?_
    refine rl_loadS (v := z26) rfl Tryz.isAgg37 (k38.cell rfl) rfl ?_
    refine RL.yes rfl rfl rfl hg41 ?_
    obtain ⟨y51, hy52, hs40⟩ := bindS hs40
    refine rl_ixI rfl h28 rfl (ixO_get hy52) Tryz.underlying37 Tryz.sizeOf50 rfl ?_
    intro p45 o46 cs47 hr48 hs49 hg50
    obtain ⟨z53, rfl, h54⟩ := hr48
    refine RL.yes rfl rfl rfl hg41 ?_
    refine rl_fieldAddr rfl fa50_4 rfl ?_
    refine RL.yes rfl rfl rfl hg41 ?_
    refine rl_loadS (v := z53) rfl Tryz.isAgg48 (hs49 4 _ rfl) rfl ?_
    refine RL.yes rfl rfl rfl hg41 ?_
    refine rl_lenR rfl h54 Tryz.underlying48 rfl ?_
    refine RL.yes rfl rfl rfl hg41 ?_
    refine rl_bin rfl rfl B.eql rfl ?_
    refine rl_pickT rfl hg41 rfl rfl ?_
    exact RL.nil ⟨Ext.bothEq (congrArg Value.bool (Option.some.inj hs40)) (Ext.skip rfl (Ext.skip rfl (Ext.skip rfl (Ext.skip rfl (Ext.skip rfl (Ext.skip rfl (Ext.skip rfl (Ext.rfl')))))))), cs⟩
   ·
    have hs40 := andO_f hg41 hb43
    have cs : Ch nb w35 w35 := Ch.refl
    refine RL.no rfl rfl rfl hg41 rfl rfl ?_
    refine RL.no rfl rfl rfl hg41 rfl rfl ?_
    refine RL.no rfl rfl rfl hg41 rfl rfl ?_
    refine RL.no rfl rfl rfl hg41 rfl rfl ?_
    refine RL.no rfl rfl rfl hg41 rfl rfl ?_
    refine RL.no rfl rfl rfl hg41 rfl rfl ?_
    refine RL.no rfl rfl rfl hg41 rfl rfl ?_
    refine rl_pickF rfl hg41 rfl rfl ?_
    exact RL.nil ⟨Ext.bothEq (congrArg Value.bool (Option.some.inj hs40)) (Ext.skip rfl (Ext.skip rfl (Ext.skip rfl (Ext.skip rfl (Ext.skip rfl (Ext.skip rfl (Ext.skip rfl (Ext.rfl')))))))), cs⟩
 intro w44 c55
 have h28 := slRep.ch k_Group_pos h28 c55
 have k38 := k38.ch0 c55
 have c0 := c0.then0 c55
 refine rl_move rfl rfl ?_
 obtain ⟨b58, hb59, hS⟩ := bindS hS
 refine RL.join 7 32 (.bool b58) (fun w' => Ch nb w44 w') ?_ ?_
 · rcases Bool.eq_false_or_eq_true b42 with hg57 | hg57
   ·
    have hs56 := andO_t hg57 hb59
    have cs : Ch nb w44 w44 := Ch.refl
    refine RL.yes rfl rfl rfl hg57 ?_
    refine rl_fieldAddr rfl fa39_2 rfl ?_
    refine RL.yes rfl rfl rfl hg57 ?_
    refine rl_loadS (v := z26) rfl Tryz.isAgg37 (k38.cell rfl) rfl ?_
    refine RL.yes rfl rfl rfl hg57 ?_
    obtain ⟨y67, hy68, hs56⟩ := bindS hs56
    refine rl_ixI rfl h28 rfl (ixO_get hy68) Tryz.underlying37 Tryz.sizeOf50 rfl ?_
    intro p61 o62 cs63 hr64 hs65 hg66
    obtain ⟨z69, rfl, h70⟩ := hr64
    refine RL.yes rfl rfl rfl hg57 ?_
    refine rl_fieldAddr rfl fa50_0 rfl ?_
    refine RL.yes rfl rfl rfl hg57 ?_
    refine rl_loadS (v := (Value.string y67.name)) rfl Tryz.isAgg9 (hs65 0 _ rfl) rfl ?_
    refine RL.yes rfl rfl rfl hg57 ?_
    refine rl_bin rfl rfl B.eqlS rfl ?_
    refine rl_pickT rfl hg57 rfl rfl ?_
    exact RL.nil ⟨Ext.bothEq (congrArg Value.bool (Option.some.inj hs56)) (Ext.skip rfl (Ext.skip rfl (Ext.skip rfl (Ext.skip rfl (Ext.skip rfl (Ext.skip rfl (Ext.rfl'))))))), cs⟩
   ·
    have hs56 := andO_f hg57 hb59
    have cs : Ch nb w44 w44 := Ch.refl
    refine RL.no rfl rfl rfl hg57 rfl rfl ?_
    refine RL.no rfl rfl rfl hg57 rfl rfl ?_
    refine RL.no rfl rfl rfl hg57 rfl rfl ?_
    refine RL.no rfl rfl rfl hg57 rfl rfl ?_
    refine RL.no rfl rfl rfl hg57 rfl rfl ?_
    refine RL.no rfl rfl rfl hg57 rfl rfl ?_
    refine rl_pickF rfl hg57 rfl rfl ?_
    exact RL.nil ⟨Ext.bothEq (congrArg Value.bool (Option.some.inj hs56)) (Ext.skip rfl (Ext.skip rfl (Ext.skip rfl (Ext.skip rfl (Ext.skip rfl (Ext.skip rfl (Ext.rfl'))))))), cs⟩
 intro w60 c71
 have c0 := c0.then0 c71
 refine rl_assign rfl rfl ?_
 refine RL.nil (thn_n (CW.ret ?_))
 obtain rfl := Option.some.inj hS
 exact ret1 rfl ⟨rfl, c0⟩
/-- lb/lblaw20.Of -/
theorem ctr40 (F : Nat → Prop) (w : World) (a0 : (List Face)) (av0 : Value) (ah0 : slRep k_Face F w a0 av0) (r : (List Face)) (hs : F40_Of a0 = some r) :
    Ret Tryz.prog 40 #[av0] w fun v w' => ∃ (y0 : Value), v = y0 ∧ SlO k_Face 101 F w.heap.size (inBlk y0) w' r y0 ∧ Ch nb w w' := by
 have hS := hs
 have c0 : Ch nb w w := Ch.refl
 have ah0 := slRep.enter k_Face_pos ah0
 refine Ret.of (n := 19) (args := [_]) (rs := [.tmp 2]) Tryz.func40 rfl rfl rfl rfl ?_
 refine CW.seq (CW.region ?_)
 refine rl_assign rfl rfl ?_
 refine RL.nil (thn_n (CW.seq (CW.region ?_)))
 refine rl_bslice (k := k_Face) (F := F) (B := w.heap.size) (S := nb) ([] : List Face) rfl k_Face_pos Tryz.underlying54 Tryz.sizeOf101 Tryz.zeroValue101 rfl rfl trivial c0.size nbS rfl ?_
 intro v1 w2 c3 hf4 h5
 have ah0 := slRep.st k_Face_pos ah0 c3 (admNew hf4 (fun _ x => x))
 have c0 := c0.then0 c3
 refine rl_assign rfl rfl ?_
 refine RL.nil (thn_n (CW.seq ?_))
 refine CW.seq (CW.region ?_)
 refine rl_move rfl rfl ?_
 refine rl_lenR rfl ah0 Tryz.underlying36 rfl ?_
 refine rl_move rfl rfl ?_
 refine RL.nil (thn_n ?_)
 obtain ⟨o16, ho17, hS⟩ := bindS hS
 refine CW.cutB (fun E' w' => ∃ (x6 : (List Face)) (v7 : Value), Sub [(3, v7)] E' ∧ Ch nb w w' ∧ x6 = o16 ∧ slRep k_Face (G F w.heap.size (un (inBlk v7) nb)) w' a0 av0 ∧ SlO k_Face 101 F w.heap.size (un (inBlk v7) nb) w' x6 v7) ?_ ?_
 ·
  refine CW.loopS [(7, av0), (8, (Value.int .i64 ((a0.length : Nat) : Int))), (3, v1), (9, (Value.int .i64 ((0 : Nat) : Int)))] ⟨rfl, rfl, rfl, rfl, trivial⟩ a0.length (fun m E w' => ∃ (rest9 : List Face) (i10 : Nat) (x6 : (List Face)) (v7 : Value), m = rest9.length ∧ E = [(7, av0), (8, (Value.int .i64 ((a0.length : Nat) : Int))), (3, v7), (9, (Value.int .i64 ((i10 : Nat) : Int)))] ∧ Ch nb w w' ∧ At a0 i10 rest9 ∧ runAO F40_Of_b1 rest9 x6 = some o16 ∧ slRep k_Face (G F w.heap.size (un (inBlk v7) nb)) w' a0 av0 ∧ SlO k_Face 101 F w.heap.size (un (inBlk v7) nb) w' x6 v7)
      ⟨a0, 0, [], v1, rfl, rfl, c0, At.start, ho17, ah0, h5⟩ ?_
  rintro _ _ w22 ⟨rest9, i10, x6, v7, rfl, rfl, c21, hat12, hL11, ah0, h8⟩
  refine CW.seq (CW.region ?_)
  refine rl_bin rfl rfl B.lss rfl ?_
  refine RL.nil (thn_n ?_)
  refine CW.seq ?_
  refine CW.cond (t := decide (((i10 : Nat) : Int) < ((a0.length : Nat) : Int))) rfl (fun q24 => ?_) (fun q24 => ?_)
  ·
   obtain ⟨x18, rest25, rfl⟩ := hat12.cons q24
   obtain ⟨q13, hq14⟩ := runAO_some hL11
   have hb15 := hq14
   refine CW.skip (thn_n ?_)
   refine CW.seq ?_
   refine CW.block ?_
   refine CW.seq (CW.region ?_)
   refine rl_ixR rfl ah0 rfl hat12.get Tryz.underlying36 Tryz.sizeOf47 rfl ?_
   intro p26 o27 cs28 hr29 hs30 hg31
   obtain rfl := hr29
   refine rl_loadA (cs := (Face.enc x18)) rfl Tryz.isAgg47 Tryz.sizeOf47 (hs30) rfl rfl ?_
   refine rl_alloc (Face.enc Face.z) Tryz.zeroValue47 rfl rfl ?_
   intro p32 w33 n34 k35
   have lo36 : ∀ b, inBlk (PV p32) b → w.heap.size ≤ b := fun b h => Nat.le_trans c21.size (n34.fresh b h)
   have d37 : ∀ b, inBlk (PV p32) b → ¬ inBlk v7 b := disNew n34.fresh (fun b hb => (h8.lt b hb).2)
   have ah0 := slRep.st k_Face_pos ah0 n34.ch (admNew n34.fresh (fun _ x => x))
   have h8 := h8.st n34.ch (fun _ _ x => x) (admNew n34.fresh (fun _ x => x)) (fun b h => (.inr (.inl h)))
   have c21 := c21.then0 n34.ch
   refine rl_storeA (vs := (Face.enc x18)) rfl rfl (all_one rfl) Tryz.sizeOf47 rfl k35 rfl ?_
   intro w38 s40 c39 k41
   have ad42 : ∀ b, b < w33.heap.size → ¬ (un (inBlk (PV p32)) (un (inBlk v7) nb)) b → ¬ (inBlk (PV p32)) b ∧ ¬ (un (inBlk (PV p32)) (un (inBlk v7) nb)) b := fun b _ hs => ⟨fun h => hs (.inl h), hs⟩
   have ah0 := slRep.st k_Face_pos ah0 c39 ad42
   have h8 := h8.st c39 (fun b hb h => (disSym d37) b hb h) ad42 (fun b h => (.inr (.inl h)))
   have c21 := c21.then c39 (fun i hi h => absurd (lo36 i h) (Nat.not_le_of_lt hi))
   refine RL.nil (thn_n (CW.region ?_))
   refine rl_move rfl rfl ?_
   refine rl_loadA (cs := (Face.enc x18)) rfl Tryz.isAgg47 Tryz.sizeOf47 (k41.segAt 0 23) rfl rfl ?_
   refine rl_bslice (k := k_Face) (F := F) (B := w.heap.size) (S := (un (inBlk (PV p32)) (un (inBlk v7) nb))) ([x18] : List Face) rfl k_Face_pos Tryz.underlying54 Tryz.sizeOf101 Tryz.zeroValue101 rfl rfl ⟨rfl, rfl, trivial⟩ c21.size (un_lt k41.ltp (un_lt (fun b hb => (h8.lt b hb).2) nbS)) rfl ?_
   intro v43 w44 c45 hf46 h47
   have h47 := h47.readNew k_Face_pos hf46 (un_lt k41.ltp (un_lt (fun b hb => (h8.lt b hb).2) nbS))
   have ah0 := slRep.ch k_Face_pos ah0 c45
   have h8 := h8.ch0 c45
   have k41 := k41.ch0 c45
   have c21 := c21.then0 c45
   obtain ⟨z56, hz57, hb15⟩ := bindS hb15
   have hl := (apO_get hz57).1
   refine rl_append (k := k_Face) (T := 101) (F := F) (B := w.heap.size) (S := (un (inBlk (PV p32)) (un (inBlk v7) nb))) (S2 := (un (inBlk (PV p32)) nb)) (fun v => (un (inBlk (PV p32)) (un (inBlk v) nb))) rfl rfl k_Face_pos ap54 h8 h47 (fun _ => un_swap) (fun _ _ => un_swap) hl c21.size (un_lt k41.ltp (un_lt (fun b hb => (h8.lt b hb).2) nbS)) rfl ?_
   intro v50 w51 h52 c53 hf54 ha55
   have ah0 := slRep.st k_Face_pos ah0 c53 ha55
   have c21 := c21.then c53 (fun i hi h => absurd ((fun b hb => (h8.lt b hb).1) i h) (Nat.not_le_of_lt hi))
   refine rl_assign rfl rfl ?_
   refine RL.nil ?_
   refine inB_n ?_
   refine thn_n (CW.region ?_)
   refine rl_inc rfl hat12.lt ah0.big rfl ?_
   refine rl_move rfl rfl ?_
   refine RL.nil (thn_n ?_)
   have ad59 : ∀ b, b < w51.heap.size → ¬ (un (inBlk (PV p32)) (un (inBlk v50) nb)) b → ¬ nb b ∧ ¬ (un (inBlk v50) nb) b := fun b _ hs => ⟨fun x => x, fun h => hs (un_el h (fun h => (.inr (.inl h))) (fun h => False.elim h))⟩
   have crf : Ch nb w51 w51 := Ch.refl
   have ah0 := slRep.st k_Face_pos ah0 crf ad59
   have h52 := h52.st crf (fun _ _ x => x) ad59 (fun b h => (.inl h))
   have c21 := c21.then0 crf
   have hLn := runAO_next hL11 hq14 hb15
   exact ⟨rest25.length, Nat.lt_succ_self _, [(7, av0), (8, (Value.int .i64 ((a0.length : Nat) : Int))), (3, v50), (9, (Value.int .i64 ((i10 + 1 : Nat) : Int)))], ⟨rfl, rfl, rfl, rfl, trivial⟩, ⟨rest25, i10 + 1, x6 ++ [x18], v50, rfl, rfl, c21, hat12.next, hLn, ah0, h52⟩⟩
  obtain rfl := hat12.nil q24
  have hLf : x6 = o16 := runAO_done hL11
  refine CW.exit (thn_exit (thn_exit (inB_hit ?_)))
  exact ⟨x6, v7, ⟨rfl, trivial⟩, c21, hLf, ah0, h8⟩
 rintro _ w61 ⟨x6, v7, hE62, c60, f63, ah0, h8⟩
 subst f63
 refine thn_n (CW.sub [(3, v7)] hE62 ?_)
 refine CW.seq (CW.region ?_)
 refine rl_move rfl rfl ?_
 refine rl_assign rfl rfl ?_
 refine RL.nil (thn_n (CW.ret ?_))
 obtain rfl := Option.some.inj hS
 exact ret1 rfl ⟨v7, rfl, h8.out, c60⟩
/-- lb/lblaw21.Of -/
theorem ctr17 (F : Nat → Prop) (w : World) (a0 : Resolved) (az0_0 az0_1 : Value) (ah0_0 : slRep k_Face F w a0.faces az0_0) (ah0_1 : slRep k_Group F w a0.groups az0_1) (r : Resolved) (hs : F17_Of a0 = some r) :
    Ret Tryz.prog 17 #[(Value.agg (Resolved.c a0 az0_0 az0_1).toArray)] w fun v w' => ∃ (y0_0 : Value) (y0_1 : Value), v = (Value.agg (Resolved.c r y0_0 y0_1).toArray) ∧ slRep k_Face (fun b => F b ∨ w.heap.size ≤ b) w' r.faces y0_0 ∧ slRep k_Group (fun b => F b ∨ w.heap.size ≤ b) w' r.groups y0_1 ∧ Ch nb w w' := by
 have hS := hs
 have c0 : Ch nb w w := Ch.refl
 have ah0_0 := slRep.enter k_Face_pos ah0_0
 have ah0_1 := slRep.enter k_Group_pos ah0_1
 refine Ret.of (n := 27) (args := [_]) (rs := [.cell 2 57]) Tryz.func17 rfl rfl rfl rfl ?_
 refine CW.seq (CW.region ?_)
 refine rl_boxA (cs := (Resolved.c a0 az0_0 az0_1)) rfl rfl ?_
 intro p1 w2 n3 k4
 have gp1 : (G F w.heap.size nb) p1 := ⟨.inr (by rw [n3.eq]; exact c0.size), fun h => absurd (nbS _ h) (by rw [n3.eq]; exact Nat.lt_irrefl _)⟩
 have ah0_0 := slRep.ch k_Face_pos ah0_0 n3.ch
 have ah0_1 := slRep.ch k_Group_pos ah0_1 n3.ch
 have c0 := c0.then0 n3.ch
 refine rl_alloc (Resolved.c Resolved.z (Value.slice none 0 0) (Value.slice none 0 0)) Tryz.zeroValue57 rfl rfl ?_
 intro p5 w6 n7 k8
 have lo9 : ∀ b, inBlk (PV p5) b → w.heap.size ≤ b := fun b h => Nat.le_trans c0.size (n7.fresh b h)
 have ah0_0 := slRep.st k_Face_pos ah0_0 n7.ch (admNew n7.fresh (fun _ x => x))
 have ah0_1 := slRep.st k_Group_pos ah0_1 n7.ch (admNew n7.fresh (fun _ x => x))
 have gp1n : (G F w.heap.size (un (inBlk (PV p5)) nb)) p1 := ⟨gp1.1, ((admNew n7.fresh (fun _ x => x)) _ k4.lt gp1.2).2⟩
 have k4 := k4.ch0 n7.ch
 have gp1 := gp1n
 have c0 := c0.then0 n7.ch
 refine RL.nil (thn_n (CW.seq ?_))
 obtain ⟨y12, hy13, hS⟩ := bindS hS
 refine CW.draw 7 [(none, fun fx O uu wx => uu = (PV p1)), (none, fun fx O uu wx => uu = (Value.agg (Key.enc a0.key).toArray)), (none, fun fx O uu wx => uu = (Value.pointer (some ⟨p1, 2, none⟩))), (none, fun fx O uu wx => uu = az0_0), (none, fun fx O uu wx => ∃ (v14 : Value), uu = v14 ∧ slRep k_Face (G F w.heap.size (un O (un (inBlk (PV p5)) nb))) wx y12 v14), (none, fun fx O uu wx => ∃ (v14_5 : Value), uu = (Value.agg (Resolved.c ({ key := a0.key, faces := y12, groups := [] } : Resolved) v14_5 (Value.slice none 0 0)).toArray) ∧ slRep k_Face (G F w.heap.size (un O (un (inBlk (PV p5)) nb))) wx y12 v14_5), (some false, fun _ O uu wx => ∃ (p16 : Nat), uu = (PV p16) ∧ O = (inBlk (PV p16)) ∧ Blk wx p16 57 (Resolved.c Resolved.z (Value.slice none 0 0) (Value.slice none 0 0)))] [[], [0], [], [2], [3], [1, 4], []] [6, 5] nb (fun _ h => h.elim) mixed rfl rfl rfl rfl ?_ ?_
 ·
  refine Each.consS (fun fl O wk hE hN hO ck => ?_) ?_
  ·
   refine rl_fieldAddr rfl fa39_0 rfl ?_
   exact RL.nil ⟨_, rfl, Ch.refl, rfl⟩
  refine Each.consS (fun fl O wk hE hN hO ck => ?_) ?_
  ·
   have k4 := k4.ch0 ck
   refine Need.o1 rfl rfl rfl (fun _ h => h) ?_
   refine rl_loadA (cs := (Key.enc a0.key)) rfl Tryz.isAgg23 Tryz.sizeOf23 (k4.segAt 0 2) rfl rfl ?_
   exact RL.nil ⟨_, rfl, Ch.refl, rfl⟩
  refine Each.consS (fun fl O wk hE hN hO ck => ?_) ?_
  ·
   refine rl_fieldAddr rfl fa39_1 rfl ?_
   exact RL.nil ⟨_, rfl, Ch.refl, rfl⟩
  refine Each.consS (fun fl O wk hE hN hO ck => ?_) ?_
  ·
   have k4 := k4.ch0 ck
   refine Need.o1 rfl rfl rfl (fun _ h => h) ?_
   refine rl_loadS (v := az0_0) rfl Tryz.isAgg36 (k4.cell rfl) rfl ?_
   exact RL.nil ⟨_, rfl, Ch.refl, rfl⟩
  refine Each.consA ⟨fun _ _ _ _ _ cc hh => by obtain ⟨v14, e, h15⟩ := hh; exact ⟨v14, e, slRep.ch k_Face_pos h15 cc⟩, fun _ _ h' O O' D _ wx wy hfl hD hO' cc hh => by obtain ⟨v14, e, h15⟩ := hh; have ad := admGh (S := (un (inBlk (PV p5)) nb)) hD hO'; exact ⟨v14, e, slRep.st k_Face_pos h15 cc ad⟩, fun fl O wk hE hN hO ck => ?_⟩ ?_
  ·
   have ha38 : ∀ b, b < w6.heap.size → ¬ (un (inBlk (PV p5)) nb) b → ¬ nb b ∧ ¬ (un O (un (inBlk (PV p5)) nb)) b := fun b hb hs => ⟨fun h => h.elim, fun h => un_el h (fun ho => (hO b ho).1.elim (fun h => h.elim) (fun h => Nat.not_le_of_lt hb h)) (fun h => un_el h (fun h => hs (.inl h)) (fun h => False.elim h))⟩
   have ah0_0 := slRep.st k_Face_pos ah0_0 ck ha38
   have k8 := k8.ch0 ck
   have c0 := c0.then0 ck
   refine Need.o1 rfl rfl rfl (fun _ h => h) ?_
   refine rl_callF rfl en40 rfl (ctr40 (G F w.heap.size (un O (un (inBlk (PV p5)) nb))) wk a0.faces az0_0 ah0_0 y12 hy13) ?_
   rintro v42 w40 ⟨_, rfl, h43, c41⟩
   have h43 := SlO.backR k_Face_pos h43 (un_lt (fun b h => (hO b h).2) (un_lt k8.ltp nbS)) c0.size
   exact RL.nil ⟨_, rfl, c41, ⟨v42, rfl, h43⟩⟩
  refine Each.consA ⟨fun _ _ _ _ _ cc hh => by obtain ⟨v14_5, e, h15_5⟩ := hh; exact ⟨v14_5, e, slRep.ch k_Face_pos h15_5 cc⟩, fun _ _ h' O O' D _ wx wy hfl hD hO' cc hh => by obtain ⟨v14_5, e, h15_5⟩ := hh; have ad := admGh (S := (un (inBlk (PV p5)) nb)) hD hO'; exact ⟨v14_5, e, slRep.st k_Face_pos h15_5 cc ad⟩, fun fl O wk hE hN hO ck => ?_⟩ ?_
  ·
   refine Need.o1 rfl rfl rfl (fun _ h => h) ?_
   refine Need.one rfl rfl rfl ?_
   rintro _ ⟨v14, e47, h15⟩
   obtain rfl := e47.symm
   refine rl_buildC (out := (Resolved.c ({ key := a0.key, faces := y12, groups := [] } : Resolved) v14 (Value.slice none 0 0))) [(0, (Key.enc a0.key)), (1, [v14])] rfl (co_cons rfl (co_cons (one_toL h15.one.1) co_nil)) pl57 Tryz.zeroValue57 rfl rfl rfl ?_
   exact RL.nil ⟨_, rfl, Ch.refl, ⟨v14, rfl, h15⟩⟩
  refine Each.consP ⟨fun _ O _ wx wy cc hh => by obtain ⟨p16, e, rfl, ck6_0⟩ := hh; exact ⟨p16, e, rfl, ck6_0.ch0 cc⟩, fun O wk hO ck => ?_⟩ ?_
  ·
   refine rl_alloc (Resolved.c Resolved.z (Value.slice none 0 0) (Value.slice none 0 0)) Tryz.zeroValue57 rfl rfl ?_
   intro p50 w51 n52 k53
   have hb57 : ∀ b, (inBlk (PV p50)) b → wk.heap.size ≤ b ∧ b < w51.heap.size := fun b h => ⟨n52.fresh b h, k53.ltp b h⟩
   exact RL.nil ⟨_, (inBlk (PV p50)), rfl, hb57, n52.ch, ⟨p50, rfl, rfl, k53⟩⟩
  trivial
 intro hvO60 OpO60 O60 w58 hO61 c59 hN62
 obtain ⟨hlO60, hBO60⟩ := hN62 rfl
 refine Need.made rfl rfl rfl rfl ?_
 rintro _ ⟨p16, e63, eO64, ck6_0⟩ hh65
 obtain rfl := e63.symm
 have io66 : ∀ b, inBlk (PV p16) b → _ := fun b h => (Eq.mpr (congrFun eO64 b) h)
 have hf67 : ∀ b, inBlk (PV p16) b → w6.heap.size ≤ b := fun b h => (hBO60.2.2.1 _ b (io66 b h)).1
 obtain rfl := hist_eq [(PV p16)] hvO60 hlO60 ⟨hh65, trivial⟩
 have lo68 : ∀ b, inBlk (PV p16) b → w.heap.size ≤ b := fun b h => Nat.le_trans c0.size (hf67 b h)
 have d69 : ∀ b, inBlk (PV p16) b → ¬ inBlk (PV p5) b := disNew hf67 k8.ltp
 have ad70 : ∀ b, b < w6.heap.size → ¬ (un (inBlk (PV p5)) nb) b → ¬ nb b ∧ ¬ (un (inBlk (PV p16)) (un (inBlk (PV p5)) nb)) b := fun b hb hs => ⟨fun x => x, fun h => un_el h (fun h => Nat.not_le_of_lt hb (hf67 b h)) (fun h => hs h)⟩
 have ah0_0 := slRep.st k_Face_pos ah0_0 hBO60.2.1 ad70
 have ah0_1 := slRep.st k_Group_pos ah0_1 hBO60.2.1 ad70
 have gp1n : (G F w.heap.size (un (inBlk (PV p16)) (un (inBlk (PV p5)) nb))) p1 := ⟨gp1.1, (ad70 _ k4.lt gp1.2).2⟩
 have k4 := k4.ch0 hBO60.2.1
 have gp1 := gp1n
 have k8 := k8.ch0 hBO60.2.1
 have c0 := c0.then0 hBO60.2.1
 refine Need.one rfl rfl rfl ?_
 rintro _ ⟨v14_5, e71, h15_5⟩
 obtain rfl := e71.symm
 have h15_5 := slRep.wk (F' := (G F w.heap.size (un (inBlk (PV p16)) (un (inBlk (PV p5)) nb)))) k_Face_pos h15_5 (fun b _ hf => ⟨hf.1, fun h => hf.2 (un_el h (fun h => (.inl ((hBO60.1 b).2 (.inr ⟨_, inPre rfl, io66 b h⟩)))) (fun h => un_el h (fun h => (.inr (.inl h))) (fun h => False.elim h)))⟩)
 refine rl_storeA (vs := (Resolved.c ({ key := a0.key, faces := y12, groups := [] } : Resolved) v14_5 (Value.slice none 0 0))) rfl rfl (Kd.one _ (show k_Resolved.rep (G F w.heap.size (un (inBlk (PV p16)) (un (inBlk (PV p5)) nb))) w58 ({ key := a0.key, faces := y12, groups := [] } : Resolved) (Resolved.c ({ key := a0.key, faces := y12, groups := [] } : Resolved) v14_5 (Value.slice none 0 0)) from ⟨v14_5, (Value.slice none 0 0), rfl, h15_5, (.inl ⟨rfl, rfl⟩)⟩)) Tryz.sizeOf57 rfl ck6_0 rfl ?_
 intro w72 s74 c73 k75
 have ad76 : ∀ b, b < w58.heap.size → ¬ (un (inBlk (PV p16)) (un (inBlk (PV p5)) nb)) b → ¬ (inBlk (PV p16)) b ∧ ¬ (un (inBlk (PV p16)) (un (inBlk (PV p5)) nb)) b := fun b _ hs => ⟨fun h => hs (.inl h), hs⟩
 have ah0_0 := slRep.st k_Face_pos ah0_0 c73 ad76
 have ah0_1 := slRep.st k_Group_pos ah0_1 c73 ad76
 have k4 := k4.ch c73 (ad76 _ k4.lt gp1.2).1
 have k8 := k8.ch c73 ((fun b hb h => (disSym d69) b hb h) _ rfl)
 have h15_5 := slRep.st k_Face_pos h15_5 c73 ad76
 have c0 := c0.then c73 (fun i hi h => absurd (lo68 i h) (Nat.not_le_of_lt hi))
 refine RL.nil (thn_n (CW.seq ?_))
 refine CW.seq (CW.region ?_)
 refine rl_fieldAddr rfl fa39_2 rfl ?_
 refine rl_loadS (v := az0_1) rfl Tryz.isAgg37 (k4.cell rfl) rfl ?_
 refine rl_lenR rfl ah0_1 Tryz.underlying37 rfl ?_
 refine rl_move rfl rfl ?_
 refine RL.nil (thn_n ?_)
 have d78 : ∀ b, inBlk (Value.slice none 0 0) b → ¬ inBlk (PV p16) b := fun _ h => h.elim
 have d79 : ∀ b, inBlk (Value.slice none 0 0) b → ¬ inBlk (PV p5) b := fun _ h => h.elim
 have crf : Ch nb w72 w72 := Ch.refl
 have ah0_0 := slRep.st k_Face_pos ah0_0 crf admNil
 have ah0_1 := slRep.st k_Group_pos ah0_1 crf admNil
 have gp1n : (G F w.heap.size (un (inBlk (Value.slice none 0 0)) (un (inBlk (PV p16)) (un (inBlk (PV p5)) nb)))) p1 := ⟨gp1.1, (admNil _ k4.lt gp1.2).2⟩
 have k4 := k4.ch0 crf
 have gp1 := gp1n
 have k8 := k8.ch0 crf
 have h15_5 := slRep.st k_Face_pos h15_5 crf admNil
 have k75 := k75.ch0 crf
 have c0 := c0.then0 crf
 have h77 : SlO k_Group 75 F w.heap.size (un (inBlk (Value.slice none 0 0)) (un (inBlk (PV p16)) (un (inBlk (PV p5)) nb))) w72 ([] : List Group) (.slice none 0 0) := SlO.nil
 obtain ⟨o96, ho97, hS⟩ := bindS hS
 refine CW.cutB (fun E' w' => ∃ (x80 : Resolved) (v81 : Value) (v83 : Value), Sub [(2, (PV p5)), (3, (PV p16))] E' ∧ Ch nb w w' ∧ x80 = o96 ∧ slRep k_Face (G F w.heap.size (un (inBlk v83) (un (inBlk (PV p16)) (un (inBlk (PV p5)) nb)))) w' a0.faces az0_0 ∧ slRep k_Group (G F w.heap.size (un (inBlk v83) (un (inBlk (PV p16)) (un (inBlk (PV p5)) nb)))) w' a0.groups az0_1 ∧ Blk w' p1 39 (Resolved.c a0 az0_0 az0_1) ∧ Blk w' p5 57 (Resolved.c Resolved.z (Value.slice none 0 0) (Value.slice none 0 0)) ∧ slRep k_Face (G F w.heap.size (un (inBlk v83) (un (inBlk (PV p16)) (un (inBlk (PV p5)) nb)))) w' x80.faces v81 ∧ SlO k_Group 75 F w.heap.size (un (inBlk v83) (un (inBlk (PV p16)) (un (inBlk (PV p5)) nb))) w' x80.groups v83 ∧ Blk w' p16 57 (Resolved.c x80 v81 v83) ∧ (G F w.heap.size (un (inBlk v83) (un (inBlk (PV p16)) (un (inBlk (PV p5)) nb)))) p1 ∧ (∀ b, inBlk v83 b → ¬ inBlk (PV p16) b) ∧ (∀ b, inBlk v83 b → ¬ inBlk (PV p5) b) ∧ (∀ b, inBlk (PV p16) b → ¬ inBlk (PV p5) b)) ?_ ?_
 ·
  refine CW.loopS [(2, (PV p5)), (3, (PV p16)), (13, az0_1), (14, (Value.int .i64 ((a0.groups.length : Nat) : Int))), (15, (Value.int .i64 ((0 : Nat) : Int)))] ⟨rfl, rfl, rfl, rfl, rfl, trivial⟩ a0.groups.length (fun m E w' => ∃ (rest89 : List Group) (i90 : Nat) (x80 : Resolved) (v81 : Value) (v83 : Value), m = rest89.length ∧ E = [(2, (PV p5)), (3, (PV p16)), (13, az0_1), (14, (Value.int .i64 ((a0.groups.length : Nat) : Int))), (15, (Value.int .i64 ((i90 : Nat) : Int)))] ∧ Ch nb w w' ∧ At a0.groups i90 rest89 ∧ runAO F17_Of_b1 rest89 x80 = some o96 ∧ slRep k_Face (G F w.heap.size (un (inBlk v83) (un (inBlk (PV p16)) (un (inBlk (PV p5)) nb)))) w' a0.faces az0_0 ∧ slRep k_Group (G F w.heap.size (un (inBlk v83) (un (inBlk (PV p16)) (un (inBlk (PV p5)) nb)))) w' a0.groups az0_1 ∧ Blk w' p1 39 (Resolved.c a0 az0_0 az0_1) ∧ Blk w' p5 57 (Resolved.c Resolved.z (Value.slice none 0 0) (Value.slice none 0 0)) ∧ slRep k_Face (G F w.heap.size (un (inBlk v83) (un (inBlk (PV p16)) (un (inBlk (PV p5)) nb)))) w' x80.faces v81 ∧ SlO k_Group 75 F w.heap.size (un (inBlk v83) (un (inBlk (PV p16)) (un (inBlk (PV p5)) nb))) w' x80.groups v83 ∧ Blk w' p16 57 (Resolved.c x80 v81 v83) ∧ (G F w.heap.size (un (inBlk v83) (un (inBlk (PV p16)) (un (inBlk (PV p5)) nb)))) p1 ∧ (∀ b, inBlk v83 b → ¬ inBlk (PV p16) b) ∧ (∀ b, inBlk v83 b → ¬ inBlk (PV p5) b) ∧ (∀ b, inBlk (PV p16) b → ¬ inBlk (PV p5) b))
      ⟨a0.groups, 0, ({ key := a0.key, faces := y12, groups := [] } : Resolved), v14_5, (Value.slice none 0 0), rfl, rfl, c0, At.start, ho97, ah0_0, ah0_1, k4, k8, h15_5, h77, k75, gp1, d78, d79, d69⟩ ?_
  rintro _ _ w102 ⟨rest89, i90, x80, v81, v83, rfl, rfl, c101, hat92, hL91, ah0_0, ah0_1, k4, k8, h82, h84, k85, gp1, d86, d87, d88⟩
  refine CW.seq (CW.region ?_)
  refine rl_bin rfl rfl B.lss rfl ?_
  refine RL.nil (thn_n ?_)
  refine CW.seq ?_
  refine CW.cond (t := decide (((i90 : Nat) : Int) < ((a0.groups.length : Nat) : Int))) rfl (fun q104 => ?_) (fun q104 => ?_)
  ·
   obtain ⟨x98, rest105, rfl⟩ := hat92.cons q104
   obtain ⟨q93, hq94⟩ := runAO_some hL91
   have hb95 := hq94
   refine CW.skip (thn_n ?_)
   refine CW.seq ?_
   refine CW.block ?_
   refine CW.seq (CW.region ?_)
   refine rl_ixR rfl ah0_1 rfl hat92.get Tryz.underlying37 Tryz.sizeOf50 rfl ?_
   intro p106 o107 cs108 hr109 hs110 hg111
   obtain ⟨z112, rfl, h113⟩ := hr109
   refine rl_loadA (cs := (Group.c x98 z112)) rfl Tryz.isAgg50 Tryz.sizeOf50 (hs110) rfl rfl ?_
   refine rl_alloc (Group.c Group.z (Value.slice none 0 0)) Tryz.zeroValue50 rfl rfl ?_
   intro p114 w115 n116 k117
   have lo118 : ∀ b, inBlk (PV p114) b → w.heap.size ≤ b := fun b h => Nat.le_trans c101.size (n116.fresh b h)
   have d119 : ∀ b, inBlk (PV p114) b → ¬ inBlk v83 b := disNew n116.fresh (fun b hb => (h84.lt b hb).2)
   have d120 : ∀ b, inBlk (PV p114) b → ¬ inBlk (PV p16) b := disNew n116.fresh k85.ltp
   have d121 : ∀ b, inBlk (PV p114) b → ¬ inBlk (PV p5) b := disNew n116.fresh k8.ltp
   have ah0_0 := slRep.st k_Face_pos ah0_0 n116.ch (admNew n116.fresh (fun _ x => x))
   have ah0_1 := slRep.st k_Group_pos ah0_1 n116.ch (admNew n116.fresh (fun _ x => x))
   have gp1n : (G F w.heap.size (un (inBlk (PV p114)) (un (inBlk v83) (un (inBlk (PV p16)) (un (inBlk (PV p5)) nb))))) p1 := ⟨gp1.1, ((admNew n116.fresh (fun _ x => x)) _ k4.lt gp1.2).2⟩
   have k4 := k4.ch0 n116.ch
   have gp1 := gp1n
   have k8 := k8.ch0 n116.ch
   have h82 := slRep.st k_Face_pos h82 n116.ch (admNew n116.fresh (fun _ x => x))
   have h84 := h84.st n116.ch (fun _ _ x => x) (admNew n116.fresh (fun _ x => x)) (fun b h => (.inr (.inl h)))
   have k85 := k85.ch0 n116.ch
   have h113 := slRep.st k_Point_pos h113 n116.ch (admNew n116.fresh (fun _ x => x))
   have c101 := c101.then0 n116.ch
   refine rl_storeA (vs := (Group.c x98 z112)) rfl rfl (Kd.one _ (show k_Group.rep (G F w.heap.size (un (inBlk (PV p114)) (un (inBlk v83) (un (inBlk (PV p16)) (un (inBlk (PV p5)) nb))))) w115 x98 (Group.c x98 z112) from ⟨z112, rfl, h113⟩)) Tryz.sizeOf50 rfl k117 rfl ?_
   intro w122 s124 c123 k125
   have ad126 : ∀ b, b < w115.heap.size → ¬ (un (inBlk (PV p114)) (un (inBlk v83) (un (inBlk (PV p16)) (un (inBlk (PV p5)) nb)))) b → ¬ (inBlk (PV p114)) b ∧ ¬ (un (inBlk (PV p114)) (un (inBlk v83) (un (inBlk (PV p16)) (un (inBlk (PV p5)) nb)))) b := fun b _ hs => ⟨fun h => hs (.inl h), hs⟩
   have ah0_0 := slRep.st k_Face_pos ah0_0 c123 ad126
   have ah0_1 := slRep.st k_Group_pos ah0_1 c123 ad126
   have k4 := k4.ch c123 (ad126 _ k4.lt gp1.2).1
   have k8 := k8.ch c123 ((fun b hb h => (disSym d121) b hb h) _ rfl)
   have h82 := slRep.st k_Face_pos h82 c123 ad126
   have h84 := h84.st c123 (fun b hb h => (disSym d119) b hb h) ad126 (fun b h => (.inr (.inl h)))
   have k85 := k85.ch c123 ((fun b hb h => (disSym d120) b hb h) _ rfl)
   have h113 := slRep.st k_Point_pos h113 c123 ad126
   have c101 := c101.then c123 (fun i hi h => absurd (lo118 i h) (Nat.not_le_of_lt hi))
   refine RL.nil (thn_n (CW.region ?_))
   refine rl_fieldAddr rfl fa57_2 rfl ?_
   refine rl_loadS (v := v83) rfl Tryz.isAgg55 (k85.cell rfl) rfl ?_
   refine rl_loadA (cs := (Group.c x98 z112)) rfl Tryz.isAgg50 Tryz.sizeOf50 (k125.segAt 0 5) rfl rfl ?_
   refine rl_bslice (k := k_Group) (F := F) (B := w.heap.size) (S := (un (inBlk (PV p114)) (un (inBlk v83) (un (inBlk (PV p16)) (un (inBlk (PV p5)) nb))))) ([x98] : List Group) rfl k_Group_pos Tryz.underlying55 Tryz.sizeOf75 Tryz.zeroValue75 rfl rfl ⟨rfl, ⟨z112, rfl, h113⟩, trivial⟩ c101.size (un_lt k125.ltp (un_lt (fun b hb => (h84.lt b hb).2) (un_lt k85.ltp (un_lt k8.ltp nbS)))) rfl ?_
   intro v127 w128 c129 hf130 h131
   have h131 := h131.readNew k_Group_pos hf130 (un_lt k125.ltp (un_lt (fun b hb => (h84.lt b hb).2) (un_lt k85.ltp (un_lt k8.ltp nbS))))
   have ah0_0 := slRep.ch k_Face_pos ah0_0 c129
   have ah0_1 := slRep.ch k_Group_pos ah0_1 c129
   have k4 := k4.ch0 c129
   have k8 := k8.ch0 c129
   have h82 := slRep.ch k_Face_pos h82 c129
   have h84 := h84.ch0 c129
   have k85 := k85.ch0 c129
   have k125 := k125.ch0 c129
   have c101 := c101.then0 c129
   obtain ⟨z140, hz141, hb95⟩ := bindS hb95
   have hl := (apO_get hz141).1
   refine rl_append (k := k_Group) (T := 75) (F := F) (B := w.heap.size) (S := (un (inBlk (PV p114)) (un (inBlk v83) (un (inBlk (PV p16)) (un (inBlk (PV p5)) nb))))) (S2 := (un (inBlk (PV p114)) (un (inBlk (PV p16)) (un (inBlk (PV p5)) nb)))) (fun v => (un (inBlk (PV p114)) (un (inBlk v) (un (inBlk (PV p16)) (un (inBlk (PV p5)) nb))))) rfl rfl k_Group_pos ap55 h84 h131 (fun _ => un_swap) (fun _ _ => un_swap) hl c101.size (un_lt k125.ltp (un_lt (fun b hb => (h84.lt b hb).2) (un_lt k85.ltp (un_lt k8.ltp nbS)))) rfl ?_
   intro v134 w135 h136 c137 hf138 ha139
   have d143 : ∀ b, inBlk v134 b → ¬ inBlk (PV p16) b := disApp hf138 d86 k85.ltp
   have d144 : ∀ b, inBlk v134 b → ¬ inBlk (PV p5) b := disApp hf138 d87 k8.ltp
   have ah0_0 := slRep.st k_Face_pos ah0_0 c137 ha139
   have ah0_1 := slRep.st k_Group_pos ah0_1 c137 ha139
   have gp1n : (G F w.heap.size (un (inBlk (PV p114)) (un (inBlk v134) (un (inBlk (PV p16)) (un (inBlk (PV p5)) nb))))) p1 := ⟨gp1.1, (ha139 _ k4.lt gp1.2).2⟩
   have k4 := k4.ch c137 (ha139 _ k4.lt gp1.2).1
   have gp1 := gp1n
   have k8 := k8.ch c137 ((fun b hb h => (disSym d87) b hb h) _ rfl)
   have h82 := slRep.st k_Face_pos h82 c137 ha139
   have k85 := k85.ch c137 ((fun b hb h => (disSym d86) b hb h) _ rfl)
   have c101 := c101.then c137 (fun i hi h => absurd ((fun b hb => (h84.lt b hb).1) i h) (Nat.not_le_of_lt hi))
   refine rl_fieldAddr rfl fa57_2 rfl ?_
   refine rl_storeS (u := v134) rfl rfl h136.one Tryz.sizeOf55 k85 rfl ?_
   intro w145 s147 c146 k148
   have ad149 : ∀ b, b < w135.heap.size → ¬ (un (inBlk (PV p114)) (un (inBlk v134) (un (inBlk (PV p16)) (un (inBlk (PV p5)) nb)))) b → ¬ (inBlk (PV p16)) b ∧ ¬ (un (inBlk (PV p114)) (un (inBlk v134) (un (inBlk (PV p16)) (un (inBlk (PV p5)) nb)))) b := fun b _ hs => ⟨fun h => hs (.inr (.inr (.inl h))), hs⟩
   have ah0_0 := slRep.st k_Face_pos ah0_0 c146 ad149
   have ah0_1 := slRep.st k_Group_pos ah0_1 c146 ad149
   have k4 := k4.ch c146 (ad149 _ k4.lt gp1.2).1
   have k8 := k8.ch c146 ((fun b hb h => (disSym d88) b hb h) _ rfl)
   have h82 := slRep.st k_Face_pos h82 c146 ad149
   have h136 := h136.st c146 (fun b hb h => d143 b hb h) ad149 (fun b h => (.inr (.inl h)))
   have c101 := c101.then c146 (fun i hi h => absurd (lo68 i h) (Nat.not_le_of_lt hi))
   refine RL.nil ?_
   refine inB_n ?_
   refine thn_n (CW.region ?_)
   refine rl_inc rfl hat92.lt ah0_1.big rfl ?_
   refine rl_move rfl rfl ?_
   refine RL.nil (thn_n ?_)
   have ad150 : ∀ b, b < w145.heap.size → ¬ (un (inBlk (PV p114)) (un (inBlk v134) (un (inBlk (PV p16)) (un (inBlk (PV p5)) nb)))) b → ¬ nb b ∧ ¬ (un (inBlk v134) (un (inBlk (PV p16)) (un (inBlk (PV p5)) nb))) b := fun b _ hs => ⟨fun x => x, fun h => hs (un_el h (fun h => (.inr (.inl h))) (fun h => un_el h (fun h => (.inr (.inr (.inl h)))) (fun h => un_el h (fun h => (.inr (.inr (.inr (.inl h))))) (fun h => False.elim h))))⟩
   have crf : Ch nb w145 w145 := Ch.refl
   have ah0_0 := slRep.st k_Face_pos ah0_0 crf ad150
   have ah0_1 := slRep.st k_Group_pos ah0_1 crf ad150
   have gp1n : (G F w.heap.size (un (inBlk v134) (un (inBlk (PV p16)) (un (inBlk (PV p5)) nb)))) p1 := ⟨gp1.1, (ad150 _ k4.lt gp1.2).2⟩
   have k4 := k4.ch0 crf
   have gp1 := gp1n
   have k8 := k8.ch0 crf
   have h82 := slRep.st k_Face_pos h82 crf ad150
   have h136 := h136.st crf (fun _ _ x => x) ad150 (fun b h => (.inl h))
   have k148 := k148.ch0 crf
   have c101 := c101.then0 crf
   have hLn := runAO_next hL91 hq94 hb95
   exact ⟨rest105.length, Nat.lt_succ_self _, [(2, (PV p5)), (3, (PV p16)), (13, az0_1), (14, (Value.int .i64 ((a0.groups.length : Nat) : Int))), (15, (Value.int .i64 ((i90 + 1 : Nat) : Int)))], ⟨rfl, rfl, rfl, rfl, rfl, trivial⟩, ⟨rest105, i90 + 1, ({ key := x80.key, faces := x80.faces, groups := x80.groups ++ [x98] } : Resolved), v81, v134, rfl, rfl, c101, hat92.next, hLn, ah0_0, ah0_1, k4, k8, h82, h136, k148, gp1, d143, d144, d88⟩⟩
  obtain rfl := hat92.nil q104
  have hLf : x80 = o96 := runAO_done hL91
  refine CW.exit (thn_exit (thn_exit (inB_hit ?_)))
  exact ⟨x80, v81, v83, ⟨rfl, rfl, trivial⟩, c101, hLf, ah0_0, ah0_1, k4, k8, h82, h84, k85, gp1, d86, d87, d88⟩
 rintro _ w152 ⟨x80, v81, v83, hE153, c151, f154, ah0_0, ah0_1, k4, k8, h82, h84, k85, gp1, d86, d87, d88⟩
 subst f154
 refine thn_n (CW.sub [(2, (PV p5)), (3, (PV p16))] hE153 ?_)
 refine CW.seq (CW.region ?_)
 refine rl_loadA (cs := (Resolved.c x80 v81 v83)) rfl Tryz.isAgg57 Tryz.sizeOf57 (k85.segAt 0 4) rfl rfl ?_
 have ad156 : ∀ b, b < w152.heap.size → ¬ (un (inBlk v83) (un (inBlk (PV p16)) (un (inBlk (PV p5)) nb))) b → ¬ nb b ∧ ¬ (un (inBlk (PV p16)) (un (inBlk (PV p5)) nb)) b := fun b _ hs => ⟨fun x => x, fun h => hs (un_el h (fun h => (.inr (.inl h))) (fun h => un_el h (fun h => (.inr (.inr (.inl h)))) (fun h => False.elim h)))⟩
 have h84 := SlO.read (S' := (un (inBlk (PV p16)) (un (inBlk (PV p5)) nb))) k_Group_pos h84 (fun b hs h => hs (un_el h (fun h => (.inr (.inl h))) (fun h => un_el h (fun h => (.inr (.inr (.inl h)))) (fun h => False.elim h)))) (fun b hb => fun h => un_el h (fun h => d86 b hb h) (fun h => un_el h (fun h => d87 b hb h) (fun h => h)))
 have crf : Ch nb w152 w152 := Ch.refl
 have k8 := k8.ch0 crf
 have h82 := slRep.st k_Face_pos h82 crf ad156
 have c151 := c151.then0 crf
 refine rl_storeA (vs := (Resolved.c x80 v81 v83)) rfl rfl (Kd.one _ (show k_Resolved.rep (G F w.heap.size (un (inBlk (PV p16)) (un (inBlk (PV p5)) nb))) w152 x80 (Resolved.c x80 v81 v83) from ⟨v81, v83, rfl, h82, h84⟩)) Tryz.sizeOf57 rfl k8 rfl ?_
 intro w157 s159 c158 k160
 have ad161 : ∀ b, b < w152.heap.size → ¬ (un (inBlk (PV p16)) (un (inBlk (PV p5)) nb)) b → ¬ (inBlk (PV p5)) b ∧ ¬ (un (inBlk (PV p16)) (un (inBlk (PV p5)) nb)) b := fun b _ hs => ⟨fun h => hs (.inr (.inl h)), hs⟩
 have h82 := slRep.st k_Face_pos h82 c158 ad161
 have h84 := slRep.st k_Group_pos h84 c158 ad161
 have c151 := c151.then c158 (fun i hi h => absurd (lo9 i h) (Nat.not_le_of_lt hi))
 refine RL.nil (thn_n (CW.ret ?_))
 obtain rfl := Option.some.inj hS
 exact ⟨[_], ⟨Res1.agg (cs := (Resolved.c x80 v81 v83)) rfl Tryz.isAgg57 Tryz.sizeOf57 (k160.segAt 0 4) rfl, trivial⟩, ⟨v81, v83, rfl, slRep.out k_Face_pos h82, slRep.out k_Group_pos h84, c151⟩⟩
/-- (lb/resolve.Group).id -/
theorem ctr32 (F : Nat → Prop) (w : World) (a0 : Group) (az0_0 : Value) (ah0_0 : slRep k_Point F w a0.points az0_0) (r : Id) (hs : F32_id a0 = r) :
    Ret Tryz.prog 32 #[(Value.agg (Group.c a0 az0_0).toArray)] w fun v w' => v = (Value.agg (Id.enc r).toArray) ∧ Ch nb w w' := by
 have hS := hs
 have c0 : Ch nb w w := Ch.refl
 refine Ret.of (n := 10) (args := [_]) (rs := [.cell 2 88]) Tryz.func32 rfl rfl rfl rfl ?_
 refine CW.seq (CW.region ?_)
 refine rl_boxA (cs := (Group.c a0 az0_0)) rfl rfl ?_
 intro p1 w2 n3 k4
 have c0 := c0.then0 n3.ch
 refine rl_alloc (Id.enc Id.z) Tryz.zeroValue88 rfl rfl ?_
 intro p5 w6 n7 k8
 have lo9 : ∀ b, inBlk (PV p5) b → w.heap.size ≤ b := fun b h => Nat.le_trans c0.size (n7.fresh b h)
 have k4 := k4.ch0 n7.ch
 have c0 := c0.then0 n7.ch
 refine RL.nil (thn_n (CW.seq (CW.region ?_)))
 refine rl_fieldAddr rfl fa50_0 rfl ?_
 refine rl_loadS (v := (Value.string a0.name)) rfl Tryz.isAgg9 (k4.cell rfl) rfl ?_
 refine rl_fieldAddr rfl fa50_2 rfl ?_
 refine rl_loadS (v := (Value.bool a0.six)) rfl Tryz.isAgg4 (k4.cell rfl) rfl ?_
 refine rl_fieldAddr rfl fa50_3 rfl ?_
 refine rl_loadS (v := (Value.bool a0.localF)) rfl Tryz.isAgg4 (k4.cell rfl) rfl ?_
 refine rl_build (out := (Id.enc ({ name := a0.name, six := a0.six, localF := a0.localF } : Id))) rfl pl88 Tryz.zeroValue88 rfl rfl rfl ?_
 refine rl_storeA (vs := (Id.enc ({ name := a0.name, six := a0.six, localF := a0.localF } : Id))) rfl rfl (all_one rfl) Tryz.sizeOf88 rfl k8 rfl ?_
 intro w10 s12 c11 k13
 have c0 := c0.then c11 (fun i hi h => absurd (lo9 i h) (Nat.not_le_of_lt hi))
 refine RL.nil (thn_n (CW.ret ?_))
 obtain rfl := hS
 exact ⟨[_], ⟨Res1.agg (cs := (Id.enc ({ name := a0.name, six := a0.six, localF := a0.localF } : Id))) rfl Tryz.isAgg88 Tryz.sizeOf88 (k13.segAt 0 3) rfl, trivial⟩, ⟨rfl, c0⟩⟩
/-- (lb/resolve.Resolved).Of$1 -/
theorem ctr31 (F : Nat → Prop) (w : World) (a0 : Group) (az0_0 : Value) (ah0_0 : slRep k_Point F w a0.points az0_0) (a1 : Face) (av1 : Value) (ah1 : (k_Face.box 47).rep F w a1 [av1]) (r : Bool) (hs : F31_1 a0 a1 = r) :
    Ret Tryz.prog 31 #[(Value.agg (Group.c a0 az0_0).toArray), av1] w fun v w' => v = (Value.bool r) ∧ Ch nb w w' := by
 have hS := hs
 have c0 : Ch nb w w := Ch.refl
 have ah0_0 := slRep.enter k_Point_pos ah0_0
 have ah1 := Kd.enter ah1
 refine Ret.of (n := 9) (args := [_, _]) (rs := [.tmp 3]) Tryz.func31 rfl rfl rfl rfl ?_
 refine CW.seq (CW.region ?_)
 refine rl_boxA (cs := (Group.c a0 az0_0)) rfl rfl ?_
 intro p1 w2 n3 k4
 have ah0_0 := slRep.ch k_Point_pos ah0_0 n3.ch
 have ah1 := Kd.ch ah1 n3.ch
 have c0 := c0.then0 n3.ch
 refine rl_assign rfl rfl ?_
 refine RL.nil (thn_n (CW.seq ?_))
 obtain ⟨p5, cc6, e7, gf8, k9, h10⟩ := ah1
 obtain rfl := (List.cons.inj e7).1
 obtain rfl := h10
 obtain ⟨y13, hy14⟩ : ∃ y, F32_id a0 = y := ⟨_, rfl⟩
 have hS := ltS hy14 hS
 obtain ⟨y17, hy18⟩ : ∃ y, F25_faced a1 = y := ⟨_, rfl⟩
 have hS := ltS hy18 hS
 refine CW.draw 3 [(none, fun fx O uu wx => uu = (Value.agg (Group.c a0 az0_0).toArray)), (none, fun fx O uu wx => uu = (Value.agg (Id.enc y13).toArray)), (none, fun fx O uu wx => uu = (Value.agg (Face.enc a1).toArray))] [[], [0], []] [1, 2] nb (fun _ h => h.elim) mixed rfl rfl rfl rfl ?_ ?_
 ·
  refine Each.consS (fun fl O wk hE hN hO ck => ?_) ?_
  ·
   have k4 := k4.ch0 ck
   refine rl_loadA (cs := (Group.c a0 az0_0)) rfl Tryz.isAgg50 Tryz.sizeOf50 (k4.segAt 0 5) rfl rfl ?_
   exact RL.nil ⟨_, rfl, Ch.refl, rfl⟩
  refine Each.consS (fun fl O wk hE hN hO ck => ?_) ?_
  ·
   have ah0_0 := slRep.ch k_Point_pos ah0_0 ck
   refine Need.o1 rfl rfl rfl (fun _ h => h) ?_
   refine rl_callF rfl en32 rfl (ctr32 (G F w.heap.size nb) wk a0 az0_0 ah0_0 y13 hy14) ?_
   rintro _ w20 ⟨rfl, c21⟩
   exact RL.nil ⟨_, rfl, c21, rfl⟩
  refine Each.consS (fun fl O wk hE hN hO ck => ?_) ?_
  ·
   have k9 := k9.ch0 ck
   refine rl_loadA (cs := (Face.enc a1)) rfl Tryz.isAgg47 Tryz.sizeOf47 (k9.segAt 0 23) rfl rfl ?_
   exact RL.nil ⟨_, rfl, Ch.refl, rfl⟩
  trivial
 intro hvO24 OpO24 O24 w22 hO25 c23 hN26
 have c0 := c0.then0 c23
 refine Need.o1 rfl rfl rfl (fun _ h => h) ?_
 refine Need.o1 rfl rfl rfl (fun _ h => h) ?_
 refine rl_callF rfl en25 rfl (ctr25 (G F w.heap.size nb) w22 a1 y17 hy18) ?_
 rintro _ w29 ⟨rfl, c30⟩
 have c0 := c0.then0 c30
 refine rl_bin rfl rfl (eql88 y13 y17) rfl ?_
 refine rl_assign rfl rfl ?_
 refine RL.nil (thn_n (CW.ret ?_))
 obtain rfl := hS
 exact ret1 rfl ⟨rfl, c0⟩
/-- slices.IndexFunc[[]lb/resolve.Group,lb/resolve.Group] -/
theorem ctr30 (F : Nat → Prop) (w : World) (a0 : (List Group)) (av0 : Value) (ah0 : slRep k_Group F w a0 av0) (a1 : (Group → Bool)) (av1 : Value) (ah1 : (Kd.fn1 Tryz.prog true k_Group Value.bool).rep F w a1 [av1]) (r : Int) (hs : F30_Group a0 a1 = r) :
    Ret Tryz.prog 30 #[av0, av1] w fun v w' => v = (Value.int .i64 r) ∧ Ch nb w w' := by
 have hS := hs
 have c0 : Ch nb w w := Ch.refl
 have ah0 := slRep.enter k_Group_pos ah0
 have ah1 := Kd.enter ah1
 refine Ret.of (n := 19) (args := [_, _]) (rs := [.tmp 4]) Tryz.func30 rfl rfl rfl rfl ?_
 refine CW.seq (CW.region ?_)
 refine rl_assign rfl rfl ?_
 refine RL.nil (thn_n (CW.seq ?_))
 refine CW.seq (CW.region ?_)
 refine rl_move rfl rfl ?_
 refine rl_lenR rfl ah0 Tryz.underlying37 rfl ?_
 refine rl_move rfl rfl ?_
 refine RL.nil (thn_n ?_)
 obtain ⟨o8, ho9⟩ : ∃ o, runB (F30_Group_b1 a1) a0 0 = o := ⟨_, rfl⟩
 have hS := ltS ho9 hS
 refine CW.cutB (fun E' w' => ∃ (ix15 : Nat), Sub [] E' ∧ Ch nb w w' ∧ Lp.fin ix15 = o8 ∧ slRep k_Group (G F w.heap.size nb) w' a0 av0 ∧ (Kd.fn1 Tryz.prog true k_Group Value.bool).rep (G F w.heap.size nb) w' a1 [av1]) ?_ ?_
 ·
  refine CW.loopS [(0, av0), (1, av1), (7, (Value.int .i64 ((a0.length : Nat) : Int))), (8, (Value.int .i64 ((0 : Nat) : Int)))] ⟨rfl, rfl, rfl, rfl, trivial⟩ a0.length (fun m E w' => ∃ (rest1 : List Group) (i2 : Nat) , m = rest1.length ∧ E = [(0, av0), (1, av1), (7, (Value.int .i64 ((a0.length : Nat) : Int))), (8, (Value.int .i64 ((i2 : Nat) : Int)))] ∧ Ch nb w w' ∧ At a0 i2 rest1 ∧ runB (F30_Group_b1 a1) rest1 i2 = o8 ∧ slRep k_Group (G F w.heap.size nb) w' a0 av0 ∧ (Kd.fn1 Tryz.prog true k_Group Value.bool).rep (G F w.heap.size nb) w' a1 [av1])
      ⟨a0, 0, rfl, rfl, c0, At.start, ho9, ah0, ah1⟩ ?_
  rintro _ _ w14 ⟨rest1, i2, rfl, rfl, c13, hat4, hL3, ah0, ah1⟩
  refine CW.seq (CW.region ?_)
  refine rl_bin rfl rfl B.lss rfl ?_
  refine RL.nil (thn_n ?_)
  refine CW.seq ?_
  refine CW.cond (t := decide (((i2 : Nat) : Int) < ((a0.length : Nat) : Int))) rfl (fun q16 => ?_) (fun q16 => ?_)
  ·
   obtain ⟨x10, rest17, rfl⟩ := hat4.cons q16
   obtain ⟨q5, hq6⟩ : ∃ q, (F30_Group_b1 a1) x10 i2 = q := ⟨_, rfl⟩
   have hb7 := hq6
   refine CW.skip (thn_n ?_)
   refine CW.seq ?_
   refine CW.block ?_
   refine CW.seq (CW.region ?_)
   refine rl_move rfl rfl ?_
   refine rl_assign rfl rfl ?_
   refine RL.nil (thn_n (CW.seq (CW.region ?_)))
   refine rl_move rfl rfl ?_
   refine rl_move rfl rfl ?_
   refine rl_move rfl rfl ?_
   refine rl_ixR rfl ah0 rfl hat4.get Tryz.underlying37 Tryz.sizeOf50 rfl ?_
   intro p18 o19 cs20 hr21 hs22 hg23
   obtain ⟨z24, rfl, h25⟩ := hr21
   refine rl_loadA (cs := (Group.c x10 z24)) rfl Tryz.isAgg50 Tryz.sizeOf50 (hs22) rfl rfl ?_
   refine rl_fn1 (c := (Group.c x10 z24)) rfl rfl rfl ah1 (F' := (G F w.heap.size nb)) (xx := x10) (show k_Group.rep (G F w.heap.size nb) w14 x10 (Group.c x10 z24) from ⟨z24, rfl, h25⟩) rfl ?_
   intro w26 c27
   have ah0 := slRep.ch k_Group_pos ah0 c27
   have ah1 := Kd.ch ah1 c27
   have c13 := c13.then0 c27
   refine RL.nil (thn_n ?_)
   refine CW.cond (t := a1 x10) rfl (fun q28 => ?_) (fun q28 => ?_)
   ·
    have hb7 := ifT q28 hb7
    refine CW.seq (CW.region ?_)
    refine rl_move rfl rfl ?_
    refine rl_assign rfl rfl ?_
    refine RL.nil (thn_n (CW.ret ?_))
    refine inB_ret ?_
    refine thn_ret ?_
    refine thn_ret (inB_ret (thn_ret ?_))
    refine thn_ret ?_
    have f29 := runB_ret hL3 (hb7.trans hq6.symm)
    have hS := retS f29 hS
    obtain rfl := hS
    exact ret1 rfl ⟨rfl, c13⟩
   have hb7 := ifF q28 hb7
   refine CW.skip ?_
   refine inB_n ?_
   refine thn_n (CW.region ?_)
   refine rl_inc rfl hat4.lt ah0.big rfl ?_
   refine rl_move rfl rfl ?_
   refine RL.nil (thn_n ?_)
   have hLn := runB_next hL3 (hb7.trans hq6.symm)
   exact ⟨rest17.length, Nat.lt_succ_self _, [(0, av0), (1, av1), (7, (Value.int .i64 ((a0.length : Nat) : Int))), (8, (Value.int .i64 ((i2 + 1 : Nat) : Int)))], ⟨rfl, rfl, rfl, rfl, trivial⟩, ⟨rest17, i2 + 1, rfl, rfl, c13, hat4.next, hLn, ah0, ah1⟩⟩
  obtain rfl := hat4.nil q16
  have hLf : Lp.fin i2 = o8 := hL3
  refine CW.exit (thn_exit (thn_exit (inB_hit ?_)))
  exact ⟨i2, trivial, c13, hLf, ah0, ah1⟩
 rintro _ w31 ⟨ix15, hE32, c30, f33, ah0, ah1⟩
 have hS := finS f33 hS
 refine thn_n (CW.sub [] hE32 ?_)
 refine CW.seq (CW.region ?_)
 refine rl_assign rfl rfl ?_
 refine RL.nil (thn_n (CW.ret ?_))
 obtain rfl := hS
 exact ret1 rfl ⟨rfl, c30⟩
/-- (lb/resolve.Resolved).Of -/
theorem ctr11 (F : Nat → Prop) (w : World) (a0 : Resolved) (az0_0 az0_1 : Value) (ah0_0 : slRep k_Face F w a0.faces az0_0) (ah0_1 : slRep k_Group F w a0.groups az0_1) (a1 : Face) (r : (Group × Bool)) (hs : F11_Of a0 a1 = some r) :
    Ret Tryz.prog 11 #[(Value.agg (Resolved.c a0 az0_0 az0_1).toArray), (Value.agg (Face.enc a1).toArray)] w fun v w' => ∃ (y0_0 : Value), v = Value.tuple #[(Value.agg (Group.c r.1 y0_0).toArray), (Value.bool r.2)] ∧ slRep k_Point (fun b => F b ∨ w.heap.size ≤ b) w' r.1.points y0_0 ∧ Ch nb w w' := by
 have hS := hs
 have c0 : Ch nb w w := Ch.refl
 have ah0_1 := slRep.enter k_Group_pos ah0_1
 refine Ret.of (n := 25) (args := [_, _]) (rs := [.cell 4 50, .tmp 5]) Tryz.func11 rfl rfl rfl rfl ?_
 refine CW.seq (CW.region ?_)
 refine rl_boxA (cs := (Resolved.c a0 az0_0 az0_1)) rfl rfl ?_
 intro p1 w2 n3 k4
 have ah0_1 := slRep.ch k_Group_pos ah0_1 n3.ch
 have c0 := c0.then0 n3.ch
 refine rl_boxA (cs := (Face.enc a1)) rfl rfl ?_
 intro p5 w6 n7 k8
 have gp5 : (G F w.heap.size nb) p5 := ⟨.inr (by rw [n7.eq]; exact c0.size), fun h => absurd (nbS _ h) (by rw [n7.eq]; exact Nat.lt_irrefl _)⟩
 have ah0_1 := slRep.ch k_Group_pos ah0_1 n7.ch
 have k4 := k4.ch0 n7.ch
 have c0 := c0.then0 n7.ch
 refine rl_alloc (Group.c Group.z (Value.slice none 0 0)) Tryz.zeroValue50 rfl rfl ?_
 intro p9 w10 n11 k12
 have lo13 : ∀ b, inBlk (PV p9) b → w.heap.size ≤ b := fun b h => Nat.le_trans c0.size (n11.fresh b h)
 have ah0_1 := slRep.st k_Group_pos ah0_1 n11.ch (admNew n11.fresh (fun _ x => x))
 have k4 := k4.ch0 n11.ch
 have gp5n : (G F w.heap.size (un (inBlk (PV p9)) nb)) p5 := ⟨gp5.1, ((admNew n11.fresh (fun _ x => x)) _ k8.lt gp5.2).2⟩
 have k8 := k8.ch0 n11.ch
 have gp5 := gp5n
 have c0 := c0.then0 n11.ch
 refine rl_assign rfl rfl ?_
 refine RL.nil (thn_n (CW.seq (CW.region ?_)))
 refine rl_fieldAddr rfl fa39_2 rfl ?_
 refine rl_loadS (v := az0_1) rfl Tryz.isAgg37 (k4.cell rfl) rfl ?_
 refine rl_makeFunc rfl rfl ?_
 obtain ⟨y16, hy17⟩ : ∃ y, F30_Group a0.groups (fun x0 => F31_1 x0 a1) = y := ⟨_, rfl⟩
 have hS := ltS hy17 hS
 refine rl_callF rfl en30 rfl (ctr30 (G F w.heap.size (un (inBlk (PV p9)) nb)) w10 a0.groups az0_1 ah0_1 (fun x0 => F31_1 x0 a1) (Value.func (.func 31) #[] [(PV p5)].toArray) (show (Kd.fn1 Tryz.prog true k_Group Value.bool).rep (G F w.heap.size (un (inBlk (PV p9)) nb)) w10 (fun x0 => F31_1 x0 a1) [(Value.func (.func 31) #[] [(PV p5)].toArray)] from ⟨31, [(PV p5)], rfl, en31, fun w' hw F' x0 c0 hx0 => by
     obtain ⟨u0_0, rfl, e0_0⟩ := hx0
     exact (ctr31 (fun b => (G F w.heap.size (un (inBlk (PV p9)) nb)) b ∨ F' b) w' x0 u0_0 (slRep.wk k_Point_pos e0_0 fun _ _ h => .inr h) a1 (PV p5) (Kd.mono _ (show (k_Face.box 47).rep (G F w.heap.size (un (inBlk (PV p9)) nb)) w10 a1 [(PV p5)] from ⟨p5, _, rfl, gp5, k8, rfl⟩) fun b hb hf => ⟨.inl hf, (hw b hb hf).2⟩) _ rfl).mono (by rintro v w'' ⟨rfl, c⟩; exact ⟨rfl, c⟩)⟩) y16 hy17) ?_
 rintro _ w14 ⟨rfl, c15⟩
 have ah0_1 := slRep.ch k_Group_pos ah0_1 c15
 have k4 := k4.ch0 c15
 have k12 := k12.ch0 c15
 have c0 := c0.then0 c15
 refine rl_assign rfl rfl ?_
 refine RL.nil (thn_n (CW.seq ?_))
 refine CW.seq (CW.region ?_)
 refine rl_move rfl rfl ?_
 refine rl_bin rfl rfl B.lss rfl ?_
 refine RL.nil (thn_n ?_)
 refine CW.cond (t := decide (y16 < 0)) rfl (fun q18 => ?_) (fun q18 => ?_)
 ·
  have hS := ifT q18 hS
  refine CW.seq (CW.region ?_)
  refine rl_build (out := (Group.c ({ name := ⟨#[]⟩, proto := 0, six := false, localF := false, points := [] } : Group) (Value.slice none 0 0))) rfl pl50 Tryz.zeroValue50 rfl rfl rfl ?_
  refine rl_storeA (vs := (Group.c ({ name := ⟨#[]⟩, proto := 0, six := false, localF := false, points := [] } : Group) (Value.slice none 0 0))) rfl rfl (all_one rfl) Tryz.sizeOf50 rfl k12 rfl ?_
  intro w19 s21 c20 k22
  have c0 := c0.then c20 (fun i hi h => absurd (lo13 i h) (Nat.not_le_of_lt hi))
  refine rl_assign rfl rfl ?_
  refine RL.nil (thn_n (CW.ret ?_))
  refine thn_ret ?_
  obtain rfl := Option.some.inj hS
  exact ⟨[_, _], ⟨Res1.agg (cs := (Group.c ({ name := ⟨#[]⟩, proto := 0, six := false, localF := false, points := [] } : Group) (Value.slice none 0 0))) rfl Tryz.isAgg50 Tryz.sizeOf50 (k22.segAt 0 5) rfl, rfl, trivial⟩, ⟨(Value.slice none 0 0), rfl, (.inl ⟨rfl, rfl⟩), c0⟩⟩
 have hS := ifF q18 hS
 refine CW.skip ?_
 refine thn_n (CW.seq (CW.region ?_))
 refine rl_fieldAddr rfl fa39_2 rfl ?_
 refine rl_loadS (v := az0_1) rfl Tryz.isAgg37 (k4.cell rfl) rfl ?_
 refine rl_move rfl rfl ?_
 obtain ⟨y30, hy31, hS⟩ := bindS hS
 refine rl_ixI rfl ah0_1 rfl (ixO_get hy31) Tryz.underlying37 Tryz.sizeOf50 rfl ?_
 intro p24 o25 cs26 hr27 hs28 hg29
 obtain ⟨z32, rfl, h33⟩ := hr27
 refine rl_loadA (cs := (Group.c y30 z32)) rfl Tryz.isAgg50 Tryz.sizeOf50 (hs28) rfl rfl ?_
 refine rl_alloc (Group.c Group.z (Value.slice none 0 0)) Tryz.zeroValue50 rfl rfl ?_
 intro p34 w35 n36 k37
 have lo38 : ∀ b, inBlk (PV p34) b → w.heap.size ≤ b := fun b h => Nat.le_trans c0.size (n36.fresh b h)
 have d39 : ∀ b, inBlk (PV p34) b → ¬ inBlk (PV p9) b := disNew n36.fresh k12.ltp
 have k12 := k12.ch0 n36.ch
 have h33 := slRep.st k_Point_pos h33 n36.ch (admNew n36.fresh (fun _ x => x))
 have c0 := c0.then0 n36.ch
 refine rl_storeA (vs := (Group.c y30 z32)) rfl rfl (Kd.one _ (show k_Group.rep (G F w.heap.size (un (inBlk (PV p34)) (un (inBlk (PV p9)) nb))) w35 y30 (Group.c y30 z32) from ⟨z32, rfl, h33⟩)) Tryz.sizeOf50 rfl k37 rfl ?_
 intro w40 s42 c41 k43
 have ad44 : ∀ b, b < w35.heap.size → ¬ (un (inBlk (PV p34)) (un (inBlk (PV p9)) nb)) b → ¬ (inBlk (PV p34)) b ∧ ¬ (un (inBlk (PV p34)) (un (inBlk (PV p9)) nb)) b := fun b _ hs => ⟨fun h => hs (.inl h), hs⟩
 have k12 := k12.ch c41 ((fun b hb h => (disSym d39) b hb h) _ rfl)
 have h33 := slRep.st k_Point_pos h33 c41 ad44
 have c0 := c0.then c41 (fun i hi h => absurd (lo38 i h) (Nat.not_le_of_lt hi))
 refine RL.nil (thn_n (CW.seq (CW.region ?_)))
 refine rl_fieldAddr rfl fa50_4 rfl ?_
 refine rl_loadS (v := z32) rfl Tryz.isAgg48 (k43.cell rfl) rfl ?_
 obtain ⟨y47, hy48, hS⟩ := bindS hS
 refine rl_callF rfl en33 rfl (ctr33 (G F w.heap.size (un (inBlk (PV p34)) (un (inBlk (PV p9)) nb))) w40 y30.points z32 h33 y47 hy48) ?_
 rintro v49 w45 ⟨_, rfl, h50, c46⟩
 have h50 := SlO.backR k_Point_pos h50 (un_lt k43.ltp (un_lt k12.ltp nbS)) c0.size
 have k12 := k12.ch0 c46
 have k43 := k43.ch0 c46
 have c0 := c0.then0 c46
 refine rl_fieldAddr rfl fa50_4 rfl ?_
 refine rl_storeS (u := v49) rfl rfl h50.one Tryz.sizeOf48 k43 rfl ?_
 intro w51 s53 c52 k54
 have ad55 : ∀ b, b < w45.heap.size → ¬ (un (inBlk (PV p34)) (un (inBlk (PV p9)) nb)) b → ¬ (inBlk (PV p34)) b ∧ ¬ (un (inBlk (PV p34)) (un (inBlk (PV p9)) nb)) b := fun b _ hs => ⟨fun h => hs (.inl h), hs⟩
 have k12 := k12.ch c52 ((fun b hb h => (disSym d39) b hb h) _ rfl)
 have h50 := slRep.st k_Point_pos h50 c52 ad55
 have c0 := c0.then c52 (fun i hi h => absurd (lo38 i h) (Nat.not_le_of_lt hi))
 refine RL.nil (thn_n (CW.seq (CW.region ?_)))
 refine rl_loadA (cs := (Group.c ({ name := y30.name, proto := y30.proto, six := y30.six, localF := y30.localF, points := y47 } : Group) v49)) rfl Tryz.isAgg50 Tryz.sizeOf50 (k54.segAt 0 5) rfl rfl ?_
 refine rl_storeA (vs := (Group.c ({ name := y30.name, proto := y30.proto, six := y30.six, localF := y30.localF, points := y47 } : Group) v49)) rfl rfl (Kd.one _ (show k_Group.rep (G F w.heap.size (un (inBlk (PV p34)) (un (inBlk (PV p9)) nb))) w51 ({ name := y30.name, proto := y30.proto, six := y30.six, localF := y30.localF, points := y47 } : Group) (Group.c ({ name := y30.name, proto := y30.proto, six := y30.six, localF := y30.localF, points := y47 } : Group) v49) from ⟨v49, rfl, h50⟩)) Tryz.sizeOf50 rfl k12 rfl ?_
 intro w56 s58 c57 k59
 have ad60 : ∀ b, b < w51.heap.size → ¬ (un (inBlk (PV p34)) (un (inBlk (PV p9)) nb)) b → ¬ (inBlk (PV p9)) b ∧ ¬ (un (inBlk (PV p34)) (un (inBlk (PV p9)) nb)) b := fun b _ hs => ⟨fun h => hs (.inr (.inl h)), hs⟩
 have h50 := slRep.st k_Point_pos h50 c57 ad60
 have c0 := c0.then c57 (fun i hi h => absurd (lo13 i h) (Nat.not_le_of_lt hi))
 refine rl_assign rfl rfl ?_
 refine RL.nil (thn_n (CW.ret ?_))
 obtain rfl := Option.some.inj hS
 exact ⟨[_, _], ⟨Res1.agg (cs := (Group.c ({ name := y30.name, proto := y30.proto, six := y30.six, localF := y30.localF, points := y47 } : Group) v49)) rfl Tryz.isAgg50 Tryz.sizeOf50 (k59.segAt 0 5) rfl, rfl, trivial⟩, ⟨v49, rfl, slRep.out k_Point_pos h50, c0⟩⟩
/-- lb/lbref21.Find -/
theorem ctr22 (F : Nat → Prop) (w : World) (a0 : (List Group)) (av0 : Value) (ah0 : slRep k_Group F w a0 av0) (a1 : ByteArray) (a2 : Bool) (a3 : Bool) (r : Int) (hs : F22_Find a0 a1 a2 a3 = r) :
    Ret Tryz.prog 22 #[av0, (Value.string a1), (Value.bool a2), (Value.bool a3)] w fun v w' => v = (Value.int .i64 r) ∧ Ch nb w w' := by
 have hS := hs
 have c0 : Ch nb w w := Ch.refl
 have ah0 := slRep.enter k_Group_pos ah0
 refine Ret.of (n := 36) (args := [_, _, _, _]) (rs := [.tmp 8]) Tryz.func22 rfl rfl rfl rfl ?_
 refine CW.seq (CW.region ?_)
 refine rl_assign rfl rfl ?_
 refine RL.nil (thn_n (CW.seq ?_))
 refine CW.seq (CW.region ?_)
 refine rl_move rfl rfl ?_
 refine rl_lenR rfl ah0 Tryz.underlying55 rfl ?_
 refine rl_move rfl rfl ?_
 refine RL.nil (thn_n ?_)
 obtain ⟨o8, ho9⟩ : ∃ o, runB (F22_Find_b1 a1 a2 a3) a0 0 = o := ⟨_, rfl⟩
 have hS := ltS ho9 hS
 refine CW.cutB (fun E' w' => ∃ (ix15 : Nat), Sub [] E' ∧ Ch nb w w' ∧ Lp.fin ix15 = o8 ∧ slRep k_Group (G F w.heap.size nb) w' a0 av0) ?_ ?_
 ·
  refine CW.loopS [(1, (Value.string a1)), (2, (Value.bool a2)), (3, (Value.bool a3)), (11, av0), (12, (Value.int .i64 ((a0.length : Nat) : Int))), (13, (Value.int .i64 ((0 : Nat) : Int)))] ⟨rfl, rfl, rfl, rfl, rfl, rfl, trivial⟩ a0.length (fun m E w' => ∃ (rest1 : List Group) (i2 : Nat) , m = rest1.length ∧ E = [(1, (Value.string a1)), (2, (Value.bool a2)), (3, (Value.bool a3)), (11, av0), (12, (Value.int .i64 ((a0.length : Nat) : Int))), (13, (Value.int .i64 ((i2 : Nat) : Int)))] ∧ Ch nb w w' ∧ At a0 i2 rest1 ∧ runB (F22_Find_b1 a1 a2 a3) rest1 i2 = o8 ∧ slRep k_Group (G F w.heap.size nb) w' a0 av0)
      ⟨a0, 0, rfl, rfl, c0, At.start, ho9, ah0⟩ ?_
  rintro _ _ w14 ⟨rest1, i2, rfl, rfl, c13, hat4, hL3, ah0⟩
  refine CW.seq (CW.region ?_)
  refine rl_bin rfl rfl B.lss rfl ?_
  refine RL.nil (thn_n ?_)
  refine CW.seq ?_
  refine CW.cond (t := decide (((i2 : Nat) : Int) < ((a0.length : Nat) : Int))) rfl (fun q16 => ?_) (fun q16 => ?_)
  ·
   obtain ⟨x10, rest17, rfl⟩ := hat4.cons q16
   obtain ⟨q5, hq6⟩ : ∃ q, (F22_Find_b1 a1 a2 a3) x10 i2 = q := ⟨_, rfl⟩
   have hb7 := hq6
   refine CW.skip (thn_n ?_)
   refine CW.seq ?_
   refine CW.block ?_
   refine CW.seq (CW.region ?_)
   refine rl_move rfl rfl ?_
   refine rl_ixR rfl ah0 rfl hat4.get Tryz.underlying55 Tryz.sizeOf75 rfl ?_
   intro p18 o19 cs20 hr21 hs22 hg23
   obtain ⟨z24, rfl, h25⟩ := hr21
   refine rl_loadA (cs := (Group.c x10 z24)) rfl Tryz.isAgg75 Tryz.sizeOf75 (hs22) rfl rfl ?_
   refine rl_alloc (Group.c Group.z (Value.slice none 0 0)) Tryz.zeroValue75 rfl rfl ?_
   intro p26 w27 n28 k29
   have lo30 : ∀ b, inBlk (PV p26) b → w.heap.size ≤ b := fun b h => Nat.le_trans c13.size (n28.fresh b h)
   have ah0 := slRep.st k_Group_pos ah0 n28.ch (admNew n28.fresh (fun _ x => x))
   have h25 := slRep.st k_Point_pos h25 n28.ch (admNew n28.fresh (fun _ x => x))
   have c13 := c13.then0 n28.ch
   refine rl_assign rfl rfl ?_
   refine rl_storeA (vs := (Group.c x10 z24)) rfl rfl (Kd.one _ (show k_Group.rep (G F w.heap.size (un (inBlk (PV p26)) nb)) w27 x10 (Group.c x10 z24) from ⟨z24, rfl, h25⟩)) Tryz.sizeOf75 rfl k29 rfl ?_
   intro w31 s33 c32 k34
   have ad35 : ∀ b, b < w27.heap.size → ¬ (un (inBlk (PV p26)) nb) b → ¬ (inBlk (PV p26)) b ∧ ¬ (un (inBlk (PV p26)) nb) b := fun b _ hs => ⟨fun h => hs (.inl h), hs⟩
   have ah0 := slRep.st k_Group_pos ah0 c32 ad35
   have c13 := c13.then c32 (fun i hi h => absurd (lo30 i h) (Nat.not_le_of_lt hi))
   refine RL.nil (thn_n (CW.seq (CW.region ?_)))
   refine rl_fieldAddr rfl fa75_0 rfl ?_
   refine rl_loadS (v := (Value.string x10.name)) rfl Tryz.isAgg9 (k34.cell rfl) rfl ?_
   refine rl_move rfl rfl ?_
   refine rl_bin rfl rfl B.eqlS rfl ?_
   refine rl_move rfl rfl ?_
   obtain ⟨b38, hb39⟩ : ∃ v, ((decide (x10.name = a1)) && (x10.six == a2)) = v := ⟨_, rfl⟩
   have hb7 := ltS hb39 hb7
   refine RL.join 5 27 (.bool b38) (fun w' => Ch nb w31 w') ?_ ?_
   · rcases Bool.eq_false_or_eq_true (decide (x10.name = a1)) with hg37 | hg37
     ·
      have hs36 := and_t hg37 hb39
      have cs : Ch nb w31 w31 := Ch.refl
      refine RL.yes rfl rfl rfl hg37 ?_
      refine rl_fieldAddr rfl fa75_2 rfl ?_
      refine RL.yes rfl rfl rfl hg37 ?_
      refine rl_loadS (v := (Value.bool x10.six)) rfl Tryz.isAgg4 (k34.cell rfl) rfl ?_
      refine RL.yes rfl rfl rfl hg37 ?_
      refine rl_move rfl rfl ?_
      refine RL.yes rfl rfl rfl hg37 ?_
      refine rl_bin rfl rfl (B.eqlB Tryz.underlying4) rfl ?_
      refine rl_pickT rfl hg37 rfl rfl ?_
      exact RL.nil ⟨Ext.bothEq (congrArg Value.bool hs36) (Ext.skip rfl (Ext.skip rfl (Ext.skip rfl (Ext.skip rfl (Ext.rfl'))))), cs⟩
     ·
      have hs36 := and_f hg37 hb39
      have cs : Ch nb w31 w31 := Ch.refl
      refine RL.no rfl rfl rfl hg37 rfl rfl ?_
      refine RL.no rfl rfl rfl hg37 rfl rfl ?_
      refine RL.no rfl rfl rfl hg37 rfl rfl ?_
      refine RL.no rfl rfl rfl hg37 rfl rfl ?_
      refine rl_pickF rfl hg37 rfl rfl ?_
      exact RL.nil ⟨Ext.bothEq (congrArg Value.bool hs36) (Ext.skip rfl (Ext.skip rfl (Ext.skip rfl (Ext.skip rfl (Ext.rfl'))))), cs⟩
   intro w40 c41
   have ah0 := slRep.ch k_Group_pos ah0 c41
   have k34 := k34.ch0 c41
   have c13 := c13.then0 c41
   refine rl_move rfl rfl ?_
   obtain ⟨b44, hb45⟩ : ∃ v, (b38 && (x10.localF == a3)) = v := ⟨_, rfl⟩
   have hb7 := ltS hb45 hb7
   refine RL.join 5 33 (.bool b44) (fun w' => Ch nb w40 w') ?_ ?_
   · rcases Bool.eq_false_or_eq_true b38 with hg43 | hg43
     ·
      have hs42 := and_t hg43 hb45
      have cs : Ch nb w40 w40 := Ch.refl
      refine RL.yes rfl rfl rfl hg43 ?_
      refine rl_fieldAddr rfl fa75_3 rfl ?_
      refine RL.yes rfl rfl rfl hg43 ?_
      refine rl_loadS (v := (Value.bool x10.localF)) rfl Tryz.isAgg4 (k34.cell rfl) rfl ?_
      refine RL.yes rfl rfl rfl hg43 ?_
      refine rl_move rfl rfl ?_
      refine RL.yes rfl rfl rfl hg43 ?_
      refine rl_bin rfl rfl (B.eqlB Tryz.underlying4) rfl ?_
      refine rl_pickT rfl hg43 rfl rfl ?_
      exact RL.nil ⟨Ext.bothEq (congrArg Value.bool hs42) (Ext.skip rfl (Ext.skip rfl (Ext.skip rfl (Ext.skip rfl (Ext.rfl'))))), cs⟩
     ·
      have hs42 := and_f hg43 hb45
      have cs : Ch nb w40 w40 := Ch.refl
      refine RL.no rfl rfl rfl hg43 rfl rfl ?_
      refine RL.no rfl rfl rfl hg43 rfl rfl ?_
      refine RL.no rfl rfl rfl hg43 rfl rfl ?_
      refine RL.no rfl rfl rfl hg43 rfl rfl ?_
      refine rl_pickF rfl hg43 rfl rfl ?_
      exact RL.nil ⟨Ext.bothEq (congrArg Value.bool hs42) (Ext.skip rfl (Ext.skip rfl (Ext.skip rfl (Ext.skip rfl (Ext.rfl'))))), cs⟩
   intro w46 c47
   have ah0 := slRep.ch k_Group_pos ah0 c47
   have c13 := c13.then0 c47
   refine RL.nil (thn_n ?_)
   refine CW.cond (t := b44) rfl (fun q48 => ?_) (fun q48 => ?_)
   ·
    have hb7 := ifT q48 hb7
    refine CW.seq (CW.region ?_)
    refine rl_move rfl rfl ?_
    refine rl_assign rfl rfl ?_
    refine RL.nil (thn_n (CW.ret ?_))
    refine inB_ret ?_
    refine thn_ret ?_
    refine thn_ret (inB_ret (thn_ret ?_))
    refine thn_ret ?_
    have f49 := runB_ret hL3 (hb7.trans hq6.symm)
    have hS := retS f49 hS
    obtain rfl := hS
    exact ret1 rfl ⟨rfl, c13⟩
   have hb7 := ifF q48 hb7
   refine CW.skip ?_
   refine inB_n ?_
   refine thn_n (CW.region ?_)
   refine rl_inc rfl hat4.lt ah0.big rfl ?_
   refine rl_move rfl rfl ?_
   refine RL.nil (thn_n ?_)
   have ad50 : ∀ b, b < w46.heap.size → ¬ (un (inBlk (PV p26)) nb) b → ¬ nb b ∧ ¬ nb b := fun b _ hs => ⟨fun x => x, fun h => hs (False.elim h)⟩
   have crf : Ch nb w46 w46 := Ch.refl
   have ah0 := slRep.st k_Group_pos ah0 crf ad50
   have c13 := c13.then0 crf
   have hLn := runB_next hL3 (hb7.trans hq6.symm)
   exact ⟨rest17.length, Nat.lt_succ_self _, [(1, (Value.string a1)), (2, (Value.bool a2)), (3, (Value.bool a3)), (11, av0), (12, (Value.int .i64 ((a0.length : Nat) : Int))), (13, (Value.int .i64 ((i2 + 1 : Nat) : Int)))], ⟨rfl, rfl, rfl, rfl, rfl, rfl, trivial⟩, ⟨rest17, i2 + 1, rfl, rfl, c13, hat4.next, hLn, ah0⟩⟩
  obtain rfl := hat4.nil q16
  have hLf : Lp.fin i2 = o8 := hL3
  refine CW.exit (thn_exit (thn_exit (inB_hit ?_)))
  exact ⟨i2, trivial, c13, hLf, ah0⟩
 rintro _ w52 ⟨ix15, hE53, c51, f54, ah0⟩
 have hS := finS f54 hS
 refine thn_n (CW.sub [] hE53 ?_)
 refine CW.seq (CW.region ?_)
 refine rl_assign rfl rfl ?_
 refine RL.nil (thn_n (CW.ret ?_))
 obtain rfl := hS
 exact ret1 rfl ⟨rfl, c51⟩
/-- lb/lbref21.SamePoints -/
theorem ctr21 (F : Nat → Prop) (w : World) (a0 : (List Point)) (av0 : Value) (ah0 : slRep k_Point F w a0 av0) (a1 : (List Point)) (av1 : Value) (ah1 : slRep k_Point F w a1 av1) (r : Bool) (hs : F21_SamePoin a0 a1 = some r) :
    Ret Tryz.prog 21 #[av0, av1] w fun v w' => v = (Value.bool r) ∧ Ch nb w w' := by
 have hS := hs
 have c0 : Ch nb w w := Ch.refl
 have ah0 := slRep.enter k_Point_pos ah0
 have ah1 := slRep.enter k_Point_pos ah1
 refine Ret.of (n := 26) (args := [_, _]) (rs := [.tmp 4]) Tryz.func21 rfl rfl rfl rfl ?_
 refine CW.seq (CW.region ?_)
 refine rl_assign rfl rfl ?_
 refine RL.nil (thn_n (CW.seq ?_))
 refine CW.seq (CW.region ?_)
 refine rl_move rfl rfl ?_
 refine rl_lenR rfl ah0 Tryz.underlying48 rfl ?_
 refine rl_move rfl rfl ?_
 refine rl_lenR rfl ah1 Tryz.underlying48 rfl ?_
 refine rl_bin rfl rfl B.neq rfl ?_
 refine RL.nil (thn_n ?_)
 refine CW.cond (t := !decide (((a0.length : Nat) : Int) = ((a1.length : Nat) : Int))) rfl (fun q1 => ?_) (fun q1 => ?_)
 ·
  have hS := ifT q1 hS
  refine CW.seq (CW.region ?_)
  refine rl_assign rfl rfl ?_
  refine RL.nil (thn_n (CW.ret ?_))
  refine thn_ret ?_
  obtain rfl := Option.some.inj hS
  exact ret1 rfl ⟨rfl, c0⟩
 have hS := ifF q1 hS
 refine CW.skip ?_
 refine thn_n (CW.seq ?_)
 refine CW.seq (CW.region ?_)
 refine rl_move rfl rfl ?_
 refine rl_lenR rfl ah0 Tryz.underlying48 rfl ?_
 refine rl_move rfl rfl ?_
 refine RL.nil (thn_n ?_)
 obtain ⟨o9, ho10, hS⟩ := bindS hS
 refine CW.cutB (fun E' w' => ∃ (ix16 : Nat), Sub [] E' ∧ Ch nb w w' ∧ Lp.fin ix16 = o9 ∧ slRep k_Point (G F w.heap.size nb) w' a0 av0 ∧ slRep k_Point (G F w.heap.size nb) w' a1 av1) ?_ ?_
 ·
  refine CW.loopS [(0, av0), (1, av1), (12, (Value.int .i64 ((a0.length : Nat) : Int))), (13, (Value.int .i64 ((0 : Nat) : Int)))] ⟨rfl, rfl, rfl, rfl, trivial⟩ a0.length (fun m E w' => ∃ (rest2 : List Point) (i3 : Nat) , m = rest2.length ∧ E = [(0, av0), (1, av1), (12, (Value.int .i64 ((a0.length : Nat) : Int))), (13, (Value.int .i64 ((i3 : Nat) : Int)))] ∧ Ch nb w w' ∧ At a0 i3 rest2 ∧ runBO (F21_SamePoin_b1 a1) rest2 i3 = some o9 ∧ slRep k_Point (G F w.heap.size nb) w' a0 av0 ∧ slRep k_Point (G F w.heap.size nb) w' a1 av1)
      ⟨a0, 0, rfl, rfl, c0, At.start, ho10, ah0, ah1⟩ ?_
  rintro _ _ w15 ⟨rest2, i3, rfl, rfl, c14, hat5, hL4, ah0, ah1⟩
  refine CW.seq (CW.region ?_)
  refine rl_bin rfl rfl B.lss rfl ?_
  refine RL.nil (thn_n ?_)
  refine CW.seq ?_
  refine CW.cond (t := decide (((i3 : Nat) : Int) < ((a0.length : Nat) : Int))) rfl (fun q17 => ?_) (fun q17 => ?_)
  ·
   obtain ⟨x11, rest18, rfl⟩ := hat5.cons q17
   obtain ⟨q6, hq7⟩ := runBO_some hL4
   have hb8 := hq7
   refine CW.skip (thn_n ?_)
   refine CW.seq ?_
   refine CW.block ?_
   refine CW.seq (CW.region ?_)
   refine rl_move rfl rfl ?_
   refine rl_assign rfl rfl ?_
   refine RL.nil (thn_n (CW.seq ?_))
   obtain ⟨y31, hy32, hb8⟩ := bindS hb8
   refine CW.draw 8 [(none, fun fx O uu wx => uu = av0), (none, fun fx O uu wx => uu = (Value.int .i64 ((i3 : Nat) : Int))), (none, fun fx O uu wx => ∃ (p19 : Nat) (o20 : Nat), uu = (Value.pointer (some ⟨p19, o20, none⟩)) ∧ (G F w.heap.size nb) p19 ∧ Seg wx p19 o20 (Point.enc x11)), (none, fun fx O uu wx => uu = (Value.agg (Point.enc x11).toArray)), (none, fun fx O uu wx => uu = av1), (none, fun fx O uu wx => uu = (Value.int .i64 ((i3 : Nat) : Int))), (none, fun fx O uu wx => ∃ (p25 : Nat) (o26 : Nat), uu = (Value.pointer (some ⟨p25, o26, none⟩)) ∧ (G F w.heap.size nb) p25 ∧ Seg wx p25 o26 (Point.enc y31)), (none, fun fx O uu wx => uu = (Value.agg (Point.enc y31).toArray))] [[], [], [0, 1], [2], [], [], [4, 5], [6]] [3, 7] nb (fun _ h => h.elim) mixed rfl rfl rfl rfl ?_ ?_
   ·
    refine Each.consS (fun fl O wk hE hN hO ck => ?_) ?_
    ·
     refine rl_move rfl rfl ?_
     exact RL.nil ⟨_, rfl, Ch.refl, rfl⟩
    refine Each.consS (fun fl O wk hE hN hO ck => ?_) ?_
    ·
     refine rl_move rfl rfl ?_
     exact RL.nil ⟨_, rfl, Ch.refl, rfl⟩
    refine Each.consA ⟨fun _ _ _ _ _ cc hh => by obtain ⟨p19, o20, e, hg24, hs23⟩ := hh; exact ⟨p19, o20, e, hg24, hs23.ch0 cc⟩, fun h => absurd rfl h, fun fl O wk hE hN hO ck => ?_⟩ ?_
    ·
     have ah0 := slRep.ch k_Point_pos ah0 ck
     refine Need.o1 rfl rfl rfl (fun _ h => h) ?_
     refine Need.o1 rfl rfl rfl (fun _ h => h) ?_
     refine rl_ixR rfl ah0 rfl hat5.get Tryz.underlying48 Tryz.sizeOf45 rfl ?_
     intro p35 o36 cs37 hr38 hs39 hg40
     obtain rfl := hr38
     exact RL.nil ⟨_, rfl, Ch.refl, ⟨p35, o36, rfl, hg40, hs39⟩⟩
    refine Each.consS (fun fl O wk hE hN hO ck => ?_) ?_
    ·
     refine Need.one rfl rfl rfl ?_
     rintro _ ⟨p19, o20, e41, hg24, hs23⟩
     obtain rfl := e41.symm
     refine rl_loadA (cs := (Point.enc x11)) rfl Tryz.isAgg45 Tryz.sizeOf45 (hs23) rfl rfl ?_
     exact RL.nil ⟨_, rfl, Ch.refl, rfl⟩
    refine Each.consS (fun fl O wk hE hN hO ck => ?_) ?_
    ·
     refine rl_move rfl rfl ?_
     exact RL.nil ⟨_, rfl, Ch.refl, rfl⟩
    refine Each.consS (fun fl O wk hE hN hO ck => ?_) ?_
    ·
     refine rl_move rfl rfl ?_
     exact RL.nil ⟨_, rfl, Ch.refl, rfl⟩
    refine Each.consA ⟨fun _ _ _ _ _ cc hh => by obtain ⟨p25, o26, e, hg30, hs29⟩ := hh; exact ⟨p25, o26, e, hg30, hs29.ch0 cc⟩, fun h => absurd rfl h, fun fl O wk hE hN hO ck => ?_⟩ ?_
    ·
     have ah1 := slRep.ch k_Point_pos ah1 ck
     refine Need.o1 rfl rfl rfl (fun _ h => h) ?_
     refine Need.o1 rfl rfl rfl (fun _ h => h) ?_
     refine rl_ixR rfl ah1 rfl (ixO_nat hy32) Tryz.underlying48 Tryz.sizeOf45 rfl ?_
     intro p44 o45 cs46 hr47 hs48 hg49
     obtain rfl := hr47
     exact RL.nil ⟨_, rfl, Ch.refl, ⟨p44, o45, rfl, hg49, hs48⟩⟩
    refine Each.consS (fun fl O wk hE hN hO ck => ?_) ?_
    ·
     refine Need.one rfl rfl rfl ?_
     rintro _ ⟨p25, o26, e50, hg30, hs29⟩
     obtain rfl := e50.symm
     refine rl_loadA (cs := (Point.enc y31)) rfl Tryz.isAgg45 Tryz.sizeOf45 (hs29) rfl rfl ?_
     exact RL.nil ⟨_, rfl, Ch.refl, rfl⟩
    trivial
   intro hvO53 OpO53 O53 w51 hO54 c52 hN55
   have ah0 := slRep.ch k_Point_pos ah0 c52
   have ah1 := slRep.ch k_Point_pos ah1 c52
   have c14 := c14.then0 c52
   refine Need.o1 rfl rfl rfl (fun _ h => h) ?_
   refine Need.o1 rfl rfl rfl (fun _ h => h) ?_
   refine rl_bin rfl rfl (neq45 x11 y31) rfl ?_
   refine RL.nil (thn_n ?_)
   refine CW.cond (t := !decide (x11 = y31)) rfl (fun q58 => ?_) (fun q58 => ?_)
   ·
    have hb8 := ifT q58 hb8
    refine CW.seq (CW.region ?_)
    refine rl_assign rfl rfl ?_
    refine RL.nil (thn_n (CW.ret ?_))
    refine inB_ret ?_
    refine thn_ret ?_
    refine thn_ret (inB_ret (thn_ret ?_))
    refine thn_ret ?_
    have f59 := runBO_ret hL4 hq7 hb8
    have hS := retS f59 hS
    obtain rfl := Option.some.inj hS
    exact ret1 rfl ⟨rfl, c14⟩
   have hb8 := ifF q58 hb8
   refine CW.skip ?_
   refine inB_n ?_
   refine thn_n (CW.region ?_)
   refine rl_inc rfl hat5.lt ah0.big rfl ?_
   refine rl_move rfl rfl ?_
   refine RL.nil (thn_n ?_)
   have hLn := runBO_next hL4 hq7 hb8
   exact ⟨rest18.length, Nat.lt_succ_self _, [(0, av0), (1, av1), (12, (Value.int .i64 ((a0.length : Nat) : Int))), (13, (Value.int .i64 ((i3 + 1 : Nat) : Int)))], ⟨rfl, rfl, rfl, rfl, trivial⟩, ⟨rest18, i3 + 1, rfl, rfl, c14, hat5.next, hLn, ah0, ah1⟩⟩
  obtain rfl := hat5.nil q17
  have hLf : Lp.fin i3 = o9 := runBO_done hL4
  refine CW.exit (thn_exit (thn_exit (inB_hit ?_)))
  exact ⟨i3, trivial, c14, hLf, ah0, ah1⟩
 rintro _ w61 ⟨ix16, hE62, c60, f63, ah0, ah1⟩
 have hS := finS f63 hS
 refine thn_n (CW.sub [] hE62 ?_)
 refine CW.seq (CW.region ?_)
 refine rl_assign rfl rfl ?_
 refine RL.nil (thn_n (CW.ret ?_))
 obtain rfl := Option.some.inj hS
 exact ret1 rfl ⟨rfl, c60⟩
/-- (lb/resolve.Resolved).Allowed -/
theorem ctr19 (F : Nat → Prop) (w : World) (a0 : Resolved) (az0_0 az0_1 : Value) (ah0_0 : slRep k_Face F w a0.faces az0_0) (ah0_1 : slRep k_Group F w a0.groups az0_1) (a1 : Int) (a2 : Point) (r : ((List Point) × Bool)) (hs : F19_Allowed a0 a1 a2 = some r) :
    Ret Tryz.prog 19 #[(Value.agg (Resolved.c a0 az0_0 az0_1).toArray), (Value.int .i64 a1), (Value.agg (Point.enc a2).toArray)] w fun v w' => ∃ (y0 : Value), v = Value.tuple #[y0, (Value.bool r.2)] ∧ slRep k_Point (fun b => F b ∨ w.heap.size ≤ b) w' r.1 y0 ∧ Ch nb w w' := by
 have hS := hs
 have c0 : Ch nb w w := Ch.refl
 have ah0_0 := slRep.enter k_Face_pos ah0_0
 have ah0_1 := slRep.enter k_Group_pos ah0_1
 refine Ret.of (n := 38) (args := [_, _, _]) (rs := [.tmp 6, .tmp 7]) Tryz.func19 rfl rfl rfl rfl ?_
 refine CW.seq (CW.region ?_)
 refine rl_boxA (cs := (Resolved.c a0 az0_0 az0_1)) rfl rfl ?_
 intro p1 w2 n3 k4
 have gp1 : (G F w.heap.size nb) p1 := ⟨.inr (by rw [n3.eq]; exact c0.size), fun h => absurd (nbS _ h) (by rw [n3.eq]; exact Nat.lt_irrefl _)⟩
 have ah0_0 := slRep.ch k_Face_pos ah0_0 n3.ch
 have ah0_1 := slRep.ch k_Group_pos ah0_1 n3.ch
 have c0 := c0.then0 n3.ch
 refine rl_boxA (cs := (Point.enc a2)) rfl rfl ?_
 intro p5 w6 n7 k8
 have gp5 : (G F w.heap.size nb) p5 := ⟨.inr (by rw [n7.eq]; exact c0.size), fun h => absurd (nbS _ h) (by rw [n7.eq]; exact Nat.lt_irrefl _)⟩
 have ah0_0 := slRep.ch k_Face_pos ah0_0 n7.ch
 have ah0_1 := slRep.ch k_Group_pos ah0_1 n7.ch
 have k4 := k4.ch0 n7.ch
 have c0 := c0.then0 n7.ch
 refine rl_assign rfl rfl ?_
 refine rl_assign rfl rfl ?_
 refine RL.nil (thn_n (CW.seq ?_))
 refine CW.seq (CW.region ?_)
 refine rl_fieldAddr rfl fa39_1 rfl ?_
 refine rl_loadS (v := az0_0) rfl Tryz.isAgg36 (k4.cell rfl) rfl ?_
 refine rl_lenR rfl ah0_0 Tryz.underlying36 rfl ?_
 refine rl_move rfl rfl ?_
 refine RL.nil (thn_n ?_)
 obtain ⟨o16, ho17, hS⟩ := bindS hS
 refine CW.cutB (fun E' w' => ∃ (_ : Unit), Sub [] E' ∧ Ch nb w w' ∧ Lp.fin () = o16 ∧ slRep k_Face (G F w.heap.size nb) w' a0.faces az0_0 ∧ slRep k_Group (G F w.heap.size nb) w' a0.groups az0_1 ∧ Blk w' p1 39 (Resolved.c a0 az0_0 az0_1) ∧ Blk w' p5 45 (Point.enc a2) ∧ (G F w.heap.size nb) p1 ∧ (G F w.heap.size nb) p5) ?_ ?_
 ·
  refine CW.loopS [(1, (Value.int .i64 a1)), (3, (PV p1)), (5, (PV p5)), (13, az0_0), (14, (Value.int .i64 ((a0.faces.length : Nat) : Int))), (15, (Value.int .i64 ((0 : Nat) : Int)))] ⟨rfl, rfl, rfl, rfl, rfl, rfl, trivial⟩ a0.faces.length (fun m E w' => ∃ (rest9 : List Face) (i10 : Nat) , m = rest9.length ∧ E = [(1, (Value.int .i64 a1)), (3, (PV p1)), (5, (PV p5)), (13, az0_0), (14, (Value.int .i64 ((a0.faces.length : Nat) : Int))), (15, (Value.int .i64 ((i10 : Nat) : Int)))] ∧ Ch nb w w' ∧ At a0.faces i10 rest9 ∧ runBO (F19_Allowed_b1 a0 a1 a2) rest9 () = some o16 ∧ slRep k_Face (G F w.heap.size nb) w' a0.faces az0_0 ∧ slRep k_Group (G F w.heap.size nb) w' a0.groups az0_1 ∧ Blk w' p1 39 (Resolved.c a0 az0_0 az0_1) ∧ Blk w' p5 45 (Point.enc a2) ∧ (G F w.heap.size nb) p1 ∧ (G F w.heap.size nb) p5)
      ⟨a0.faces, 0, rfl, rfl, c0, At.start, ho17, ah0_0, ah0_1, k4, k8, gp1, gp5⟩ ?_
  rintro _ _ w22 ⟨rest9, i10, rfl, rfl, c21, hat12, hL11, ah0_0, ah0_1, k4, k8, gp1, gp5⟩
  refine CW.seq (CW.region ?_)
  refine rl_bin rfl rfl B.lss rfl ?_
  refine RL.nil (thn_n ?_)
  refine CW.seq ?_
  refine CW.cond (t := decide (((i10 : Nat) : Int) < ((a0.faces.length : Nat) : Int))) rfl (fun q24 => ?_) (fun q24 => ?_)
  ·
   obtain ⟨x18, rest25, rfl⟩ := hat12.cons q24
   obtain ⟨q13, hq14⟩ := runBO_some hL11
   have hb15 := hq14
   refine CW.skip (thn_n ?_)
   refine CW.seq ?_
   refine CW.block ?_
   refine CW.seq (CW.region ?_)
   refine rl_ixR rfl ah0_0 rfl hat12.get Tryz.underlying36 Tryz.sizeOf47 rfl ?_
   intro p26 o27 cs28 hr29 hs30 hg31
   obtain rfl := hr29
   refine rl_loadA (cs := (Face.enc x18)) rfl Tryz.isAgg47 Tryz.sizeOf47 (hs30) rfl rfl ?_
   refine rl_alloc (Face.enc Face.z) Tryz.zeroValue47 rfl rfl ?_
   intro p32 w33 n34 k35
   have lo36 : ∀ b, inBlk (PV p32) b → w.heap.size ≤ b := fun b h => Nat.le_trans c21.size (n34.fresh b h)
   have ah0_0 := slRep.st k_Face_pos ah0_0 n34.ch (admNew n34.fresh (fun _ x => x))
   have ah0_1 := slRep.st k_Group_pos ah0_1 n34.ch (admNew n34.fresh (fun _ x => x))
   have gp1n : (G F w.heap.size (un (inBlk (PV p32)) nb)) p1 := ⟨gp1.1, ((admNew n34.fresh (fun _ x => x)) _ k4.lt gp1.2).2⟩
   have k4 := k4.ch0 n34.ch
   have gp1 := gp1n
   have gp5n : (G F w.heap.size (un (inBlk (PV p32)) nb)) p5 := ⟨gp5.1, ((admNew n34.fresh (fun _ x => x)) _ k8.lt gp5.2).2⟩
   have k8 := k8.ch0 n34.ch
   have gp5 := gp5n
   have c21 := c21.then0 n34.ch
   refine rl_storeA (vs := (Face.enc x18)) rfl rfl (all_one rfl) Tryz.sizeOf47 rfl k35 rfl ?_
   intro w37 s39 c38 k40
   have ad41 : ∀ b, b < w33.heap.size → ¬ (un (inBlk (PV p32)) nb) b → ¬ (inBlk (PV p32)) b ∧ ¬ (un (inBlk (PV p32)) nb) b := fun b _ hs => ⟨fun h => hs (.inl h), hs⟩
   have ah0_0 := slRep.st k_Face_pos ah0_0 c38 ad41
   have ah0_1 := slRep.st k_Group_pos ah0_1 c38 ad41
   have k4 := k4.ch c38 (ad41 _ k4.lt gp1.2).1
   have k8 := k8.ch c38 (ad41 _ k8.lt gp5.2).1
   have c21 := c21.then c38 (fun i hi h => absurd (lo36 i h) (Nat.not_le_of_lt hi))
   refine RL.nil (thn_n (CW.seq (CW.region ?_)))
   refine rl_fieldAddr rfl fa47_0 rfl ?_
   refine rl_loadS (v := (Value.int .i64 x18.proto)) rfl Tryz.isAgg3 (k40.cell rfl) rfl ?_
   refine rl_move rfl rfl ?_
   refine rl_bin rfl rfl B.eql rfl ?_
   refine rl_move rfl rfl ?_
   obtain ⟨b44, hb45⟩ : ∃ v, ((decide (x18.proto = a1)) && (decide (x18.point = a2))) = v := ⟨_, rfl⟩
   have hb15 := ltS hb45 hb15
   refine RL.join 5 28 (.bool b44) (fun w' => Ch nb w37 w') ?_ ?_
   · rcases Bool.eq_false_or_eq_true (decide (x18.proto = a1)) with hg43 | hg43
     ·
      have hs42 := and_t hg43 hb45
      have cs : Ch nb w37 w37 := Ch.refl
      refine RL.yes rfl rfl rfl hg43 ?_
      refine rl_fieldAddr rfl fa47_1 rfl ?_
      refine RL.yes rfl rfl rfl hg43 ?_
      refine rl_loadA (cs := (Point.enc x18.point)) rfl Tryz.isAgg45 Tryz.sizeOf45 (k40.segAt 1 18) rfl rfl ?_
      refine RL.yes rfl rfl rfl hg43 ?_
      refine rl_loadA (cs := (Point.enc a2)) rfl Tryz.isAgg45 Tryz.sizeOf45 (k8.segAt 0 18) rfl rfl ?_
      refine RL.yes rfl rfl rfl hg43 ?_
      refine rl_bin rfl rfl (eql45 x18.point a2) rfl ?_
      refine rl_pickT rfl hg43 rfl rfl ?_
      exact RL.nil ⟨Ext.bothEq (congrArg Value.bool hs42) (Ext.skip rfl (Ext.skip rfl (Ext.skip rfl (Ext.skip rfl (Ext.rfl'))))), cs⟩
     ·
      have hs42 := and_f hg43 hb45
      have cs : Ch nb w37 w37 := Ch.refl
      refine RL.no rfl rfl rfl hg43 rfl rfl ?_
      refine RL.no rfl rfl rfl hg43 rfl rfl ?_
      refine RL.no rfl rfl rfl hg43 rfl rfl ?_
      refine RL.no rfl rfl rfl hg43 rfl rfl ?_
      refine rl_pickF rfl hg43 rfl rfl ?_
      exact RL.nil ⟨Ext.bothEq (congrArg Value.bool hs42) (Ext.skip rfl (Ext.skip rfl (Ext.skip rfl (Ext.skip rfl (Ext.rfl'))))), cs⟩
   intro w46 c47
   have ah0_0 := slRep.ch k_Face_pos ah0_0 c47
   have ah0_1 := slRep.ch k_Group_pos ah0_1 c47
   have k4 := k4.ch0 c47
   have k8 := k8.ch0 c47
   have k40 := k40.ch0 c47
   have c21 := c21.then0 c47
   refine RL.nil (thn_n ?_)
   refine CW.cond (t := b44) rfl (fun q48 => ?_) (fun q48 => ?_)
   ·
    have hb15 := ifT q48 hb15
    refine CW.seq (CW.region ?_)
    refine rl_loadA (cs := (Resolved.c a0 az0_0 az0_1)) rfl Tryz.isAgg39 Tryz.sizeOf39 (k4.segAt 0 4) rfl rfl ?_
    refine rl_loadA (cs := (Face.enc x18)) rfl Tryz.isAgg47 Tryz.sizeOf47 (k40.segAt 0 23) rfl rfl ?_
    obtain ⟨y51, hy52, hb15⟩ := bindS hb15
    refine rl_callF rfl en11 rfl (ctr11 (G F w.heap.size (un (inBlk (PV p32)) nb)) w46 a0 az0_0 az0_1 ah0_0 ah0_1 x18 y51 hy52) ?_
    rintro _ w49 ⟨z53, rfl, h54, c50⟩
    have h54 := slRep.back k_Point_pos h54 (un_lt k40.ltp nbS) c21.size
    have c21 := c21.then0 c50
    refine rl_move rfl rfl ?_
    refine rl_extract rfl rfl rfl ?_
    refine rl_extract rfl rfl rfl ?_
    refine rl_alloc (Group.c Group.z (Value.slice none 0 0)) Tryz.zeroValue50 rfl rfl ?_
    intro p55 w56 n57 k58
    have lo59 : ∀ b, inBlk (PV p55) b → w.heap.size ≤ b := fun b h => Nat.le_trans c21.size (n57.fresh b h)
    have h54 := slRep.st k_Point_pos h54 n57.ch (admNew n57.fresh (fun _ x => x))
    have c21 := c21.then0 n57.ch
    refine rl_storeA (vs := (Group.c y51.1 z53)) rfl rfl (Kd.one _ (show k_Group.rep (G F w.heap.size (un (inBlk (PV p55)) (un (inBlk (PV p32)) nb))) w56 y51.1 (Group.c y51.1 z53) from ⟨z53, rfl, h54⟩)) Tryz.sizeOf50 rfl k58 rfl ?_
    intro w61 s63 c62 k64
    have ad65 : ∀ b, b < w56.heap.size → ¬ (un (inBlk (PV p55)) (un (inBlk (PV p32)) nb)) b → ¬ (inBlk (PV p55)) b ∧ ¬ (un (inBlk (PV p55)) (un (inBlk (PV p32)) nb)) b := fun b _ hs => ⟨fun h => hs (.inl h), hs⟩
    have h54 := slRep.st k_Point_pos h54 c62 ad65
    have c21 := c21.then c62 (fun i hi h => absurd (lo59 i h) (Nat.not_le_of_lt hi))
    refine rl_assign rfl rfl ?_
    refine RL.nil (thn_n (CW.seq (CW.region ?_)))
    refine rl_fieldAddr rfl fa50_4 rfl ?_
    refine rl_loadS (v := z53) rfl Tryz.isAgg48 (k64.cell rfl) rfl ?_
    refine rl_assign rfl rfl ?_
    refine rl_assign rfl rfl ?_
    refine RL.nil (thn_n (CW.ret ?_))
    refine inB_ret ?_
    refine thn_ret ?_
    refine thn_ret (inB_ret (thn_ret ?_))
    refine thn_ret ?_
    have f66 := runBO_ret hL11 hq14 hb15
    have hS := retS f66 hS
    obtain rfl := Option.some.inj hS
    exact ret2 rfl rfl ⟨z53, rfl, slRep.out k_Point_pos h54, c21⟩
   have hb15 := ifF q48 hb15
   refine CW.skip ?_
   refine inB_n ?_
   refine thn_n (CW.region ?_)
   refine rl_inc rfl hat12.lt ah0_0.big rfl ?_
   refine rl_move rfl rfl ?_
   refine RL.nil (thn_n ?_)
   have ad67 : ∀ b, b < w46.heap.size → ¬ (un (inBlk (PV p32)) nb) b → ¬ nb b ∧ ¬ nb b := fun b _ hs => ⟨fun x => x, fun h => hs (False.elim h)⟩
   have crf : Ch nb w46 w46 := Ch.refl
   have ah0_0 := slRep.st k_Face_pos ah0_0 crf ad67
   have ah0_1 := slRep.st k_Group_pos ah0_1 crf ad67
   have gp1n : (G F w.heap.size nb) p1 := ⟨gp1.1, (ad67 _ k4.lt gp1.2).2⟩
   have k4 := k4.ch0 crf
   have gp1 := gp1n
   have gp5n : (G F w.heap.size nb) p5 := ⟨gp5.1, (ad67 _ k8.lt gp5.2).2⟩
   have k8 := k8.ch0 crf
   have gp5 := gp5n
   have c21 := c21.then0 crf
   have hLn := runBO_next hL11 hq14 hb15
   exact ⟨rest25.length, Nat.lt_succ_self _, [(1, (Value.int .i64 a1)), (3, (PV p1)), (5, (PV p5)), (13, az0_0), (14, (Value.int .i64 ((a0.faces.length : Nat) : Int))), (15, (Value.int .i64 ((i10 + 1 : Nat) : Int)))], ⟨rfl, rfl, rfl, rfl, rfl, rfl, trivial⟩, ⟨rest25, i10 + 1, rfl, rfl, c21, hat12.next, hLn, ah0_0, ah0_1, k4, k8, gp1, gp5⟩⟩
  obtain rfl := hat12.nil q24
  have hLf : Lp.fin () = o16 := runBO_done hL11
  refine CW.exit (thn_exit (thn_exit (inB_hit ?_)))
  exact ⟨(), trivial, c21, hLf, ah0_0, ah0_1, k4, k8, gp1, gp5⟩
 rintro _ w69 ⟨_, hE70, c68, f71, ah0_0, ah0_1, k4, k8, gp1, gp5⟩
 have hS := finS f71 hS
 refine thn_n (CW.sub [] hE70 ?_)
 refine CW.seq (CW.region ?_)
 refine rl_assign rfl rfl ?_
 refine rl_assign rfl rfl ?_
 refine RL.nil (thn_n (CW.ret ?_))
 obtain rfl := Option.some.inj hS
 exact ret2 rfl rfl ⟨(Value.slice none 0 0), rfl, (.inl ⟨rfl, rfl⟩), c68⟩
/-- lb/lbref21.Allowed -/
theorem ctr20 (F : Nat → Prop) (w : World) (a0 : Resolved) (az0_0 az0_1 : Value) (ah0_0 : slRep k_Face F w a0.faces az0_0) (ah0_1 : slRep k_Group F w a0.groups az0_1) (a1 : Int) (a2 : Point) (r : ((List Point) × Bool)) (hs : F20_Allowed a0 a1 a2 = some r) :
    Ret Tryz.prog 20 #[(Value.agg (Resolved.c a0 az0_0 az0_1).toArray), (Value.int .i64 a1), (Value.agg (Point.enc a2).toArray)] w fun v w' => ∃ (y0 : Value), v = Value.tuple #[y0, (Value.bool r.2)] ∧ slRep k_Point (fun b => F b ∨ w.heap.size ≤ b) w' r.1 y0 ∧ Ch nb w w' := by
 have hS := hs
 have c0 : Ch nb w w := Ch.refl
 have ah0_0 := slRep.enter k_Face_pos ah0_0
 have ah0_1 := slRep.enter k_Group_pos ah0_1
 refine Ret.of (n := 48) (args := [_, _, _]) (rs := [.tmp 6, .tmp 7]) Tryz.func20 rfl rfl rfl rfl ?_
 refine CW.seq (CW.region ?_)
 refine rl_boxA (cs := (Resolved.c a0 az0_0 az0_1)) rfl rfl ?_
 intro p1 w2 n3 k4
 have gp1 : (G F w.heap.size nb) p1 := ⟨.inr (by rw [n3.eq]; exact c0.size), fun h => absurd (nbS _ h) (by rw [n3.eq]; exact Nat.lt_irrefl _)⟩
 have ah0_0 := slRep.ch k_Face_pos ah0_0 n3.ch
 have ah0_1 := slRep.ch k_Group_pos ah0_1 n3.ch
 have c0 := c0.then0 n3.ch
 refine rl_boxA (cs := (Point.enc a2)) rfl rfl ?_
 intro p5 w6 n7 k8
 have gp5 : (G F w.heap.size nb) p5 := ⟨.inr (by rw [n7.eq]; exact c0.size), fun h => absurd (nbS _ h) (by rw [n7.eq]; exact Nat.lt_irrefl _)⟩
 have ah0_0 := slRep.ch k_Face_pos ah0_0 n7.ch
 have ah0_1 := slRep.ch k_Group_pos ah0_1 n7.ch
 have k4 := k4.ch0 n7.ch
 have c0 := c0.then0 n7.ch
 refine rl_assign rfl rfl ?_
 refine rl_assign rfl rfl ?_
 refine RL.nil (thn_n (CW.seq ?_))
 refine CW.seq (CW.region ?_)
 refine rl_fieldAddr rfl fa57_1 rfl ?_
 refine rl_loadS (v := az0_0) rfl Tryz.isAgg54 (k4.cell rfl) rfl ?_
 refine rl_lenR rfl ah0_0 Tryz.underlying54 rfl ?_
 refine rl_move rfl rfl ?_
 refine RL.nil (thn_n ?_)
 obtain ⟨o16, ho17, hS⟩ := bindS hS
 refine CW.cutB (fun E' w' => ∃ (_ : Unit), Sub [] E' ∧ Ch nb w w' ∧ Lp.fin () = o16 ∧ slRep k_Face (G F w.heap.size nb) w' a0.faces az0_0 ∧ slRep k_Group (G F w.heap.size nb) w' a0.groups az0_1 ∧ Blk w' p1 57 (Resolved.c a0 az0_0 az0_1) ∧ Blk w' p5 45 (Point.enc a2) ∧ (G F w.heap.size nb) p1 ∧ (G F w.heap.size nb) p5) ?_ ?_
 ·
  refine CW.loopS [(1, (Value.int .i64 a1)), (3, (PV p1)), (5, (PV p5)), (12, az0_0), (13, (Value.int .i64 ((a0.faces.length : Nat) : Int))), (14, (Value.int .i64 ((0 : Nat) : Int)))] ⟨rfl, rfl, rfl, rfl, rfl, rfl, trivial⟩ a0.faces.length (fun m E w' => ∃ (rest9 : List Face) (i10 : Nat) , m = rest9.length ∧ E = [(1, (Value.int .i64 a1)), (3, (PV p1)), (5, (PV p5)), (12, az0_0), (13, (Value.int .i64 ((a0.faces.length : Nat) : Int))), (14, (Value.int .i64 ((i10 : Nat) : Int)))] ∧ Ch nb w w' ∧ At a0.faces i10 rest9 ∧ runBO (F20_Allowed_b1 a0 a1 a2) rest9 () = some o16 ∧ slRep k_Face (G F w.heap.size nb) w' a0.faces az0_0 ∧ slRep k_Group (G F w.heap.size nb) w' a0.groups az0_1 ∧ Blk w' p1 57 (Resolved.c a0 az0_0 az0_1) ∧ Blk w' p5 45 (Point.enc a2) ∧ (G F w.heap.size nb) p1 ∧ (G F w.heap.size nb) p5)
      ⟨a0.faces, 0, rfl, rfl, c0, At.start, ho17, ah0_0, ah0_1, k4, k8, gp1, gp5⟩ ?_
  rintro _ _ w22 ⟨rest9, i10, rfl, rfl, c21, hat12, hL11, ah0_0, ah0_1, k4, k8, gp1, gp5⟩
  refine CW.seq (CW.region ?_)
  refine rl_bin rfl rfl B.lss rfl ?_
  refine RL.nil (thn_n ?_)
  refine CW.seq ?_
  refine CW.cond (t := decide (((i10 : Nat) : Int) < ((a0.faces.length : Nat) : Int))) rfl (fun q24 => ?_) (fun q24 => ?_)
  ·
   obtain ⟨x18, rest25, rfl⟩ := hat12.cons q24
   obtain ⟨q13, hq14⟩ := runBO_some hL11
   have hb15 := hq14
   refine CW.skip (thn_n ?_)
   refine CW.seq ?_
   refine CW.block ?_
   refine CW.seq (CW.region ?_)
   refine rl_ixR rfl ah0_0 rfl hat12.get Tryz.underlying54 Tryz.sizeOf101 rfl ?_
   intro p26 o27 cs28 hr29 hs30 hg31
   obtain rfl := hr29
   refine rl_loadA (cs := (Face.enc x18)) rfl Tryz.isAgg101 Tryz.sizeOf101 (hs30) rfl rfl ?_
   refine rl_alloc (Face.enc Face.z) Tryz.zeroValue101 rfl rfl ?_
   intro p32 w33 n34 k35
   have lo36 : ∀ b, inBlk (PV p32) b → w.heap.size ≤ b := fun b h => Nat.le_trans c21.size (n34.fresh b h)
   have ah0_0 := slRep.st k_Face_pos ah0_0 n34.ch (admNew n34.fresh (fun _ x => x))
   have ah0_1 := slRep.st k_Group_pos ah0_1 n34.ch (admNew n34.fresh (fun _ x => x))
   have gp1n : (G F w.heap.size (un (inBlk (PV p32)) nb)) p1 := ⟨gp1.1, ((admNew n34.fresh (fun _ x => x)) _ k4.lt gp1.2).2⟩
   have k4 := k4.ch0 n34.ch
   have gp1 := gp1n
   have gp5n : (G F w.heap.size (un (inBlk (PV p32)) nb)) p5 := ⟨gp5.1, ((admNew n34.fresh (fun _ x => x)) _ k8.lt gp5.2).2⟩
   have k8 := k8.ch0 n34.ch
   have gp5 := gp5n
   have c21 := c21.then0 n34.ch
   refine rl_storeA (vs := (Face.enc x18)) rfl rfl (all_one rfl) Tryz.sizeOf101 rfl k35 rfl ?_
   intro w37 s39 c38 k40
   have ad41 : ∀ b, b < w33.heap.size → ¬ (un (inBlk (PV p32)) nb) b → ¬ (inBlk (PV p32)) b ∧ ¬ (un (inBlk (PV p32)) nb) b := fun b _ hs => ⟨fun h => hs (.inl h), hs⟩
   have ah0_0 := slRep.st k_Face_pos ah0_0 c38 ad41
   have ah0_1 := slRep.st k_Group_pos ah0_1 c38 ad41
   have k4 := k4.ch c38 (ad41 _ k4.lt gp1.2).1
   have k8 := k8.ch c38 (ad41 _ k8.lt gp5.2).1
   have c21 := c21.then c38 (fun i hi h => absurd (lo36 i h) (Nat.not_le_of_lt hi))
   refine RL.nil (thn_n (CW.seq (CW.region ?_)))
   refine rl_fieldAddr rfl fa101_0 rfl ?_
   refine rl_loadS (v := (Value.int .i64 x18.proto)) rfl Tryz.isAgg3 (k40.cell rfl) rfl ?_
   refine rl_move rfl rfl ?_
   refine rl_bin rfl rfl B.eql rfl ?_
   refine rl_move rfl rfl ?_
   obtain ⟨b44, hb45⟩ : ∃ v, ((decide (x18.proto = a1)) && (decide (x18.point = a2))) = v := ⟨_, rfl⟩
   have hb15 := ltS hb45 hb15
   refine RL.join 5 27 (.bool b44) (fun w' => Ch nb w37 w') ?_ ?_
   · rcases Bool.eq_false_or_eq_true (decide (x18.proto = a1)) with hg43 | hg43
     ·
      have hs42 := and_t hg43 hb45
      have cs : Ch nb w37 w37 := Ch.refl
      refine RL.yes rfl rfl rfl hg43 ?_
      refine rl_fieldAddr rfl fa101_1 rfl ?_
      refine RL.yes rfl rfl rfl hg43 ?_
      refine rl_loadA (cs := (Point.enc x18.point)) rfl Tryz.isAgg45 Tryz.sizeOf45 (k40.segAt 1 18) rfl rfl ?_
      refine RL.yes rfl rfl rfl hg43 ?_
      refine rl_loadA (cs := (Point.enc a2)) rfl Tryz.isAgg45 Tryz.sizeOf45 (k8.segAt 0 18) rfl rfl ?_
      refine RL.yes rfl rfl rfl hg43 ?_
      refine rl_bin rfl rfl (eql45 x18.point a2) rfl ?_
      refine rl_pickT rfl hg43 rfl rfl ?_
      exact RL.nil ⟨Ext.bothEq (congrArg Value.bool hs42) (Ext.skip rfl (Ext.skip rfl (Ext.skip rfl (Ext.skip rfl (Ext.rfl'))))), cs⟩
     ·
      have hs42 := and_f hg43 hb45
      have cs : Ch nb w37 w37 := Ch.refl
      refine RL.no rfl rfl rfl hg43 rfl rfl ?_
      refine RL.no rfl rfl rfl hg43 rfl rfl ?_
      refine RL.no rfl rfl rfl hg43 rfl rfl ?_
      refine RL.no rfl rfl rfl hg43 rfl rfl ?_
      refine rl_pickF rfl hg43 rfl rfl ?_
      exact RL.nil ⟨Ext.bothEq (congrArg Value.bool hs42) (Ext.skip rfl (Ext.skip rfl (Ext.skip rfl (Ext.skip rfl (Ext.rfl'))))), cs⟩
   intro w46 c47
   have ah0_0 := slRep.ch k_Face_pos ah0_0 c47
   have ah0_1 := slRep.ch k_Group_pos ah0_1 c47
   have k4 := k4.ch0 c47
   have k8 := k8.ch0 c47
   have k40 := k40.ch0 c47
   have c21 := c21.then0 c47
   refine RL.nil (thn_n ?_)
   refine CW.cond (t := b44) rfl (fun q48 => ?_) (fun q48 => ?_)
   ·
    have hb15 := ifT q48 hb15
    refine CW.seq (CW.region ?_)
    refine rl_fieldAddr rfl fa57_2 rfl ?_
    refine rl_loadS (v := az0_1) rfl Tryz.isAgg55 (k4.cell rfl) rfl ?_
    refine rl_fieldAddr rfl fa101_2 rfl ?_
    refine rl_loadS (v := (Value.string x18.name)) rfl Tryz.isAgg9 (k40.cell rfl) rfl ?_
    refine rl_fieldAddr rfl fa101_1 rfl ?_
    refine rl_fieldAddr rfl fa45_0 rfl ?_
    refine rl_fieldAddr rfl fa43_0 rfl ?_
    refine rl_loadS (v := (Value.bool x18.point.addr.six)) rfl Tryz.isAgg4 (k40.cell rfl) rfl ?_
    refine rl_fieldAddr rfl fa101_4 rfl ?_
    refine rl_loadS (v := (Value.bool x18.localF)) rfl Tryz.isAgg4 (k40.cell rfl) rfl ?_
    obtain ⟨y51, hy52⟩ : ∃ y, F22_Find a0.groups x18.name x18.point.addr.six x18.localF = y := ⟨_, rfl⟩
    have hb15 := ltS hy52 hb15
    refine rl_callF rfl en22 rfl (ctr22 (G F w.heap.size (un (inBlk (PV p32)) nb)) w46 a0.groups az0_1 ah0_1 x18.name x18.point.addr.six x18.localF y51 hy52) ?_
    rintro _ w49 ⟨rfl, c50⟩
    have ah0_1 := slRep.ch k_Group_pos ah0_1 c50
    have k4 := k4.ch0 c50
    have c21 := c21.then0 c50
    refine rl_assign rfl rfl ?_
    refine RL.nil (thn_n (CW.seq ?_))
    refine CW.seq (CW.region ?_)
    refine rl_move rfl rfl ?_
    refine rl_bin rfl rfl B.lss rfl ?_
    refine RL.nil (thn_n ?_)
    refine CW.cond (t := decide (y51 < 0)) rfl (fun q53 => ?_) (fun q53 => ?_)
    ·
     have hb15 := ifT q53 hb15
     refine CW.seq (CW.region ?_)
     refine rl_assign rfl rfl ?_
     refine rl_assign rfl rfl ?_
     refine RL.nil (thn_n (CW.ret ?_))
     refine thn_ret ?_
     refine inB_ret ?_
     refine thn_ret ?_
     refine thn_ret (inB_ret (thn_ret ?_))
     refine thn_ret ?_
     have f54 := runBO_ret hL11 hq14 hb15
     have hS := retS f54 hS
     obtain rfl := Option.some.inj hS
     exact ret2 rfl rfl ⟨(Value.slice none 0 0), rfl, (.inl ⟨rfl, rfl⟩), c21⟩
    have hb15 := ifF q53 hb15
    refine CW.skip ?_
    refine thn_n (CW.seq (CW.region ?_))
    refine rl_fieldAddr rfl fa57_2 rfl ?_
    refine rl_loadS (v := az0_1) rfl Tryz.isAgg55 (k4.cell rfl) rfl ?_
    refine rl_move rfl rfl ?_
    obtain ⟨y61, hy62, hb15⟩ := bindS hb15
    refine rl_ixI rfl ah0_1 rfl (ixO_get hy62) Tryz.underlying55 Tryz.sizeOf75 rfl ?_
    intro p55 o56 cs57 hr58 hs59 hg60
    obtain ⟨z63, rfl, h64⟩ := hr58
    refine rl_fieldAddr rfl fa75_4 rfl ?_
    refine rl_loadS (v := z63) rfl Tryz.isAgg48 (hs59 4 _ rfl) rfl ?_
    refine rl_assign rfl rfl ?_
    refine rl_assign rfl rfl ?_
    refine RL.nil (thn_n (CW.ret ?_))
    refine inB_ret ?_
    refine thn_ret ?_
    refine thn_ret (inB_ret (thn_ret ?_))
    refine thn_ret ?_
    have f65 := runBO_ret hL11 hq14 hb15
    have hS := retS f65 hS
    obtain rfl := Option.some.inj hS
    exact ret2 rfl rfl ⟨z63, rfl, slRep.out k_Point_pos h64, c21⟩
   have hb15 := ifF q48 hb15
   refine CW.skip ?_
   refine inB_n ?_
   refine thn_n (CW.region ?_)
   refine rl_inc rfl hat12.lt ah0_0.big rfl ?_
   refine rl_move rfl rfl ?_
   refine RL.nil (thn_n ?_)
   have ad66 : ∀ b, b < w46.heap.size → ¬ (un (inBlk (PV p32)) nb) b → ¬ nb b ∧ ¬ nb b := fun b _ hs => ⟨fun x => x, fun h => hs (False.elim h)⟩
   have crf : Ch nb w46 w46 := Ch.refl
   have ah0_0 := slRep.st k_Face_pos ah0_0 crf ad66
   have ah0_1 := slRep.st k_Group_pos ah0_1 crf ad66
   have gp1n : (G F w.heap.size nb) p1 := ⟨gp1.1, (ad66 _ k4.lt gp1.2).2⟩
   have k4 := k4.ch0 crf
   have gp1 := gp1n
   have gp5n : (G F w.heap.size nb) p5 := ⟨gp5.1, (ad66 _ k8.lt gp5.2).2⟩
   have k8 := k8.ch0 crf
   have gp5 := gp5n
   have c21 := c21.then0 crf
   have hLn := runBO_next hL11 hq14 hb15
   exact ⟨rest25.length, Nat.lt_succ_self _, [(1, (Value.int .i64 a1)), (3, (PV p1)), (5, (PV p5)), (12, az0_0), (13, (Value.int .i64 ((a0.faces.length : Nat) : Int))), (14, (Value.int .i64 ((i10 + 1 : Nat) : Int)))], ⟨rfl, rfl, rfl, rfl, rfl, rfl, trivial⟩, ⟨rest25, i10 + 1, rfl, rfl, c21, hat12.next, hLn, ah0_0, ah0_1, k4, k8, gp1, gp5⟩⟩
  obtain rfl := hat12.nil q24
  have hLf : Lp.fin () = o16 := runBO_done hL11
  refine CW.exit (thn_exit (thn_exit (inB_hit ?_)))
  exact ⟨(), trivial, c21, hLf, ah0_0, ah0_1, k4, k8, gp1, gp5⟩
 rintro _ w68 ⟨_, hE69, c67, f70, ah0_0, ah0_1, k4, k8, gp1, gp5⟩
 have hS := finS f70 hS
 refine thn_n (CW.sub [] hE69 ?_)
 refine CW.seq (CW.region ?_)
 refine rl_assign rfl rfl ?_
 refine rl_assign rfl rfl ?_
 refine RL.nil (thn_n (CW.ret ?_))
 obtain rfl := Option.some.inj hS
 exact ret2 rfl rfl ⟨(Value.slice none 0 0), rfl, (.inl ⟨rfl, rfl⟩), c67⟩
/-- slices.Equal[[]lb/face.Face,lb/face.Face] -/
theorem ctr41 (F : Nat → Prop) (w : World) (a0 : (List Face)) (av0 : Value) (ah0 : slRep k_Face F w a0 av0) (a1 : (List Face)) (av1 : Value) (ah1 : slRep k_Face F w a1 av1) (r : Bool) (hs : F41_Face a0 a1 = some r) :
    Ret Tryz.prog 41 #[av0, av1] w fun v w' => v = (Value.bool r) ∧ Ch nb w w' := by
 have hS := hs
 have c0 : Ch nb w w := Ch.refl
 have ah0 := slRep.enter k_Face_pos ah0
 have ah1 := slRep.enter k_Face_pos ah1
 refine Ret.of (n := 26) (args := [_, _]) (rs := [.tmp 4]) Tryz.func41 rfl rfl rfl rfl ?_
 refine CW.seq (CW.region ?_)
 refine rl_assign rfl rfl ?_
 refine RL.nil (thn_n (CW.seq ?_))
 refine CW.seq (CW.region ?_)
 refine rl_move rfl rfl ?_
 refine rl_lenR rfl ah0 Tryz.underlying36 rfl ?_
 refine rl_move rfl rfl ?_
 refine rl_lenR rfl ah1 Tryz.underlying36 rfl ?_
 refine rl_bin rfl rfl B.neq rfl ?_
 refine RL.nil (thn_n ?_)
 refine CW.cond (t := !decide (((a0.length : Nat) : Int) = ((a1.length : Nat) : Int))) rfl (fun q1 => ?_) (fun q1 => ?_)
 ·
  have hS := ifT q1 hS
  refine CW.seq (CW.region ?_)
  refine rl_assign rfl rfl ?_
  refine RL.nil (thn_n (CW.ret ?_))
  refine thn_ret ?_
  obtain rfl := Option.some.inj hS
  exact ret1 rfl ⟨rfl, c0⟩
 have hS := ifF q1 hS
 refine CW.skip ?_
 refine thn_n (CW.seq ?_)
 refine CW.seq (CW.region ?_)
 refine rl_move rfl rfl ?_
 refine rl_lenR rfl ah0 Tryz.underlying36 rfl ?_
 refine rl_move rfl rfl ?_
 refine RL.nil (thn_n ?_)
 obtain ⟨o9, ho10, hS⟩ := bindS hS
 refine CW.cutB (fun E' w' => ∃ (ix16 : Nat), Sub [] E' ∧ Ch nb w w' ∧ Lp.fin ix16 = o9 ∧ slRep k_Face (G F w.heap.size nb) w' a0 av0 ∧ slRep k_Face (G F w.heap.size nb) w' a1 av1) ?_ ?_
 ·
  refine CW.loopS [(0, av0), (1, av1), (12, (Value.int .i64 ((a0.length : Nat) : Int))), (13, (Value.int .i64 ((0 : Nat) : Int)))] ⟨rfl, rfl, rfl, rfl, trivial⟩ a0.length (fun m E w' => ∃ (rest2 : List Face) (i3 : Nat) , m = rest2.length ∧ E = [(0, av0), (1, av1), (12, (Value.int .i64 ((a0.length : Nat) : Int))), (13, (Value.int .i64 ((i3 : Nat) : Int)))] ∧ Ch nb w w' ∧ At a0 i3 rest2 ∧ runBO (F41_Face_b1 a1) rest2 i3 = some o9 ∧ slRep k_Face (G F w.heap.size nb) w' a0 av0 ∧ slRep k_Face (G F w.heap.size nb) w' a1 av1)
      ⟨a0, 0, rfl, rfl, c0, At.start, ho10, ah0, ah1⟩ ?_
  rintro _ _ w15 ⟨rest2, i3, rfl, rfl, c14, hat5, hL4, ah0, ah1⟩
  refine CW.seq (CW.region ?_)
  refine rl_bin rfl rfl B.lss rfl ?_
  refine RL.nil (thn_n ?_)
  refine CW.seq ?_
  refine CW.cond (t := decide (((i3 : Nat) : Int) < ((a0.length : Nat) : Int))) rfl (fun q17 => ?_) (fun q17 => ?_)
  ·
   obtain ⟨x11, rest18, rfl⟩ := hat5.cons q17
   obtain ⟨q6, hq7⟩ := runBO_some hL4
   have hb8 := hq7
   refine CW.skip (thn_n ?_)
   refine CW.seq ?_
   refine CW.block ?_
   refine CW.seq (CW.region ?_)
   refine rl_move rfl rfl ?_
   refine rl_assign rfl rfl ?_
   refine RL.nil (thn_n (CW.seq ?_))
   obtain ⟨y31, hy32, hb8⟩ := bindS hb8
   refine CW.draw 8 [(none, fun fx O uu wx => uu = av0), (none, fun fx O uu wx => uu = (Value.int .i64 ((i3 : Nat) : Int))), (none, fun fx O uu wx => ∃ (p19 : Nat) (o20 : Nat), uu = (Value.pointer (some ⟨p19, o20, none⟩)) ∧ (G F w.heap.size nb) p19 ∧ Seg wx p19 o20 (Face.enc x11)), (none, fun fx O uu wx => uu = (Value.agg (Face.enc x11).toArray)), (none, fun fx O uu wx => uu = av1), (none, fun fx O uu wx => uu = (Value.int .i64 ((i3 : Nat) : Int))), (none, fun fx O uu wx => ∃ (p25 : Nat) (o26 : Nat), uu = (Value.pointer (some ⟨p25, o26, none⟩)) ∧ (G F w.heap.size nb) p25 ∧ Seg wx p25 o26 (Face.enc y31)), (none, fun fx O uu wx => uu = (Value.agg (Face.enc y31).toArray))] [[], [], [0, 1], [2], [], [], [4, 5], [6]] [3, 7] nb (fun _ h => h.elim) mixed rfl rfl rfl rfl ?_ ?_
   ·
    refine Each.consS (fun fl O wk hE hN hO ck => ?_) ?_
    ·
     refine rl_move rfl rfl ?_
     exact RL.nil ⟨_, rfl, Ch.refl, rfl⟩
    refine Each.consS (fun fl O wk hE hN hO ck => ?_) ?_
    ·
     refine rl_move rfl rfl ?_
     exact RL.nil ⟨_, rfl, Ch.refl, rfl⟩
    refine Each.consA ⟨fun _ _ _ _ _ cc hh => by obtain ⟨p19, o20, e, hg24, hs23⟩ := hh; exact ⟨p19, o20, e, hg24, hs23.ch0 cc⟩, fun h => absurd rfl h, fun fl O wk hE hN hO ck => ?_⟩ ?_
    ·
     have ah0 := slRep.ch k_Face_pos ah0 ck
     refine Need.o1 rfl rfl rfl (fun _ h => h) ?_
     refine Need.o1 rfl rfl rfl (fun _ h => h) ?_
     refine rl_ixR rfl ah0 rfl hat5.get Tryz.underlying36 Tryz.sizeOf47 rfl ?_
     intro p35 o36 cs37 hr38 hs39 hg40
     obtain rfl := hr38
     exact RL.nil ⟨_, rfl, Ch.refl, ⟨p35, o36, rfl, hg40, hs39⟩⟩
    refine Each.consS (fun fl O wk hE hN hO ck => ?_) ?_
    ·
     refine Need.one rfl rfl rfl ?_
     rintro _ ⟨p19, o20, e41, hg24, hs23⟩
     obtain rfl := e41.symm
     refine rl_loadA (cs := (Face.enc x11)) rfl Tryz.isAgg47 Tryz.sizeOf47 (hs23) rfl rfl ?_
     exact RL.nil ⟨_, rfl, Ch.refl, rfl⟩
    refine Each.consS (fun fl O wk hE hN hO ck => ?_) ?_
    ·
     refine rl_move rfl rfl ?_
     exact RL.nil ⟨_, rfl, Ch.refl, rfl⟩
    refine Each.consS (fun fl O wk hE hN hO ck => ?_) ?_
    ·
     refine rl_move rfl rfl ?_
     exact RL.nil ⟨_, rfl, Ch.refl, rfl⟩
    refine Each.consA ⟨fun _ _ _ _ _ cc hh => by obtain ⟨p25, o26, e, hg30, hs29⟩ := hh; exact ⟨p25, o26, e, hg30, hs29.ch0 cc⟩, fun h => absurd rfl h, fun fl O wk hE hN hO ck => ?_⟩ ?_
    ·
     have ah1 := slRep.ch k_Face_pos ah1 ck
     refine Need.o1 rfl rfl rfl (fun _ h => h) ?_
     refine Need.o1 rfl rfl rfl (fun _ h => h) ?_
     refine rl_ixR rfl ah1 rfl (ixO_nat hy32) Tryz.underlying36 Tryz.sizeOf47 rfl ?_
     intro p44 o45 cs46 hr47 hs48 hg49
     obtain rfl := hr47
     exact RL.nil ⟨_, rfl, Ch.refl, ⟨p44, o45, rfl, hg49, hs48⟩⟩
    refine Each.consS (fun fl O wk hE hN hO ck => ?_) ?_
    ·
     refine Need.one rfl rfl rfl ?_
     rintro _ ⟨p25, o26, e50, hg30, hs29⟩
     obtain rfl := e50.symm
     refine rl_loadA (cs := (Face.enc y31)) rfl Tryz.isAgg47 Tryz.sizeOf47 (hs29) rfl rfl ?_
     exact RL.nil ⟨_, rfl, Ch.refl, rfl⟩
    trivial
   intro hvO53 OpO53 O53 w51 hO54 c52 hN55
   have ah0 := slRep.ch k_Face_pos ah0 c52
   have ah1 := slRep.ch k_Face_pos ah1 c52
   have c14 := c14.then0 c52
   refine Need.o1 rfl rfl rfl (fun _ h => h) ?_
   refine Need.o1 rfl rfl rfl (fun _ h => h) ?_
   refine rl_bin rfl rfl (neq47 x11 y31) rfl ?_
   refine RL.nil (thn_n ?_)
   refine CW.cond (t := !decide (x11 = y31)) rfl (fun q58 => ?_) (fun q58 => ?_)
   ·
    have hb8 := ifT q58 hb8
    refine CW.seq (CW.region ?_)
    refine rl_assign rfl rfl ?_
    refine RL.nil (thn_n (CW.ret ?_))
    refine inB_ret ?_
    refine thn_ret ?_
    refine thn_ret (inB_ret (thn_ret ?_))
    refine thn_ret ?_
    have f59 := runBO_ret hL4 hq7 hb8
    have hS := retS f59 hS
    obtain rfl := Option.some.inj hS
    exact ret1 rfl ⟨rfl, c14⟩
   have hb8 := ifF q58 hb8
   refine CW.skip ?_
   refine inB_n ?_
   refine thn_n (CW.region ?_)
   refine rl_inc rfl hat5.lt ah0.big rfl ?_
   refine rl_move rfl rfl ?_
   refine RL.nil (thn_n ?_)
   have hLn := runBO_next hL4 hq7 hb8
   exact ⟨rest18.length, Nat.lt_succ_self _, [(0, av0), (1, av1), (12, (Value.int .i64 ((a0.length : Nat) : Int))), (13, (Value.int .i64 ((i3 + 1 : Nat) : Int)))], ⟨rfl, rfl, rfl, rfl, trivial⟩, ⟨rest18, i3 + 1, rfl, rfl, c14, hat5.next, hLn, ah0, ah1⟩⟩
  obtain rfl := hat5.nil q17
  have hLf : Lp.fin i3 = o9 := runBO_done hL4
  refine CW.exit (thn_exit (thn_exit (inB_hit ?_)))
  exact ⟨i3, trivial, c14, hLf, ah0, ah1⟩
 rintro _ w61 ⟨ix16, hE62, c60, f63, ah0, ah1⟩
 have hS := finS f63 hS
 refine thn_n (CW.sub [] hE62 ?_)
 refine CW.seq (CW.region ?_)
 refine rl_assign rfl rfl ?_
 refine RL.nil (thn_n (CW.ret ?_))
 obtain rfl := Option.some.inj hS
 exact ret1 rfl ⟨rfl, c60⟩
theorem ctr41t (F : Nat → Prop) (w : World) (a0 : (List Face)) (av0 : Value) (ah0 : slRep k_Face F w a0 av0) (a1 : (List Face)) (av1 : Value) (ah1 : slRep k_Face F w a1 av1) (r : Bool) (hs : F41_Face_t a0 a1 = r) :
    Ret Tryz.prog 41 #[av0, av1] w fun v w' => v = (Value.bool r) ∧ Ch nb w w' :=
  ctr41 F w a0 av0 ah0 a1 av1 ah1 r (show F41_Face a0 a1 = some r from (eqG_eq a0 a1).trans (congrArg some hs))
/-- slices.EqualFunc[[]lb/resolve.Group,[]lb/resolve.Group,lb/resolve.Group,lb/resolve.Group] -/
theorem ctr42 (F : Nat → Prop) (w : World) (a0 : (List Group)) (av0 : Value) (ah0 : slRep k_Group F w a0 av0) (a1 : (List Group)) (av1 : Value) (ah1 : slRep k_Group F w a1 av1) (a2 : (Group → Group → Bool)) (av2 : Value) (ah2 : (Kd.fn2 Tryz.prog true true k_Group k_Group Value.bool).rep F w a2 [av2]) (r : Bool) (hs : F42_Group a0 a1 a2 = some r) :
    Ret Tryz.prog 42 #[av0, av1, av2] w fun v w' => v = (Value.bool r) ∧ Ch nb w w' := by
 have hS := hs
 have c0 : Ch nb w w := Ch.refl
 have ah0 := slRep.enter k_Group_pos ah0
 have ah1 := slRep.enter k_Group_pos ah1
 have ah2 := Kd.enter ah2
 refine Ret.of (n := 32) (args := [_, _, _]) (rs := [.tmp 6]) Tryz.func42 rfl rfl rfl rfl ?_
 refine CW.seq (CW.region ?_)
 refine rl_assign rfl rfl ?_
 refine RL.nil (thn_n (CW.seq ?_))
 refine CW.seq (CW.region ?_)
 refine rl_move rfl rfl ?_
 refine rl_lenR rfl ah0 Tryz.underlying37 rfl ?_
 refine rl_move rfl rfl ?_
 refine rl_lenR rfl ah1 Tryz.underlying37 rfl ?_
 refine rl_bin rfl rfl B.neq rfl ?_
 refine RL.nil (thn_n ?_)
 refine CW.cond (t := !decide (((a0.length : Nat) : Int) = ((a1.length : Nat) : Int))) rfl (fun q1 => ?_) (fun q1 => ?_)
 ·
  have hS := ifT q1 hS
  refine CW.seq (CW.region ?_)
  refine rl_assign rfl rfl ?_
  refine RL.nil (thn_n (CW.ret ?_))
  refine thn_ret ?_
  obtain rfl := Option.some.inj hS
  exact ret1 rfl ⟨rfl, c0⟩
 have hS := ifF q1 hS
 refine CW.skip ?_
 refine thn_n (CW.seq ?_)
 refine CW.seq (CW.region ?_)
 refine rl_move rfl rfl ?_
 refine rl_lenR rfl ah0 Tryz.underlying37 rfl ?_
 refine rl_move rfl rfl ?_
 refine RL.nil (thn_n ?_)
 obtain ⟨o9, ho10, hS⟩ := bindS hS
 refine CW.cutB (fun E' w' => ∃ (ix16 : Nat), Sub [] E' ∧ Ch nb w w' ∧ Lp.fin ix16 = o9 ∧ slRep k_Group (G F w.heap.size nb) w' a0 av0 ∧ slRep k_Group (G F w.heap.size nb) w' a1 av1 ∧ (Kd.fn2 Tryz.prog true true k_Group k_Group Value.bool).rep (G F w.heap.size nb) w' a2 [av2]) ?_ ?_
 ·
  refine CW.loopS [(1, av1), (2, av2), (15, av0), (16, (Value.int .i64 ((a0.length : Nat) : Int))), (17, (Value.int .i64 ((0 : Nat) : Int)))] ⟨rfl, rfl, rfl, rfl, rfl, trivial⟩ a0.length (fun m E w' => ∃ (rest2 : List Group) (i3 : Nat) , m = rest2.length ∧ E = [(1, av1), (2, av2), (15, av0), (16, (Value.int .i64 ((a0.length : Nat) : Int))), (17, (Value.int .i64 ((i3 : Nat) : Int)))] ∧ Ch nb w w' ∧ At a0 i3 rest2 ∧ runBO (F42_Group_b1 a1 a2) rest2 i3 = some o9 ∧ slRep k_Group (G F w.heap.size nb) w' a0 av0 ∧ slRep k_Group (G F w.heap.size nb) w' a1 av1 ∧ (Kd.fn2 Tryz.prog true true k_Group k_Group Value.bool).rep (G F w.heap.size nb) w' a2 [av2])
      ⟨a0, 0, rfl, rfl, c0, At.start, ho10, ah0, ah1, ah2⟩ ?_
  rintro _ _ w15 ⟨rest2, i3, rfl, rfl, c14, hat5, hL4, ah0, ah1, ah2⟩
  refine CW.seq (CW.region ?_)
  refine rl_bin rfl rfl B.lss rfl ?_
  refine RL.nil (thn_n ?_)
  refine CW.seq ?_
  refine CW.cond (t := decide (((i3 : Nat) : Int) < ((a0.length : Nat) : Int))) rfl (fun q17 => ?_) (fun q17 => ?_)
  ·
   obtain ⟨x11, rest18, rfl⟩ := hat5.cons q17
   obtain ⟨q6, hq7⟩ := runBO_some hL4
   have hb8 := hq7
   refine CW.skip (thn_n ?_)
   refine CW.seq ?_
   refine CW.block ?_
   refine CW.seq (CW.region ?_)
   refine rl_move rfl rfl ?_
   refine rl_ixR rfl ah0 rfl hat5.get Tryz.underlying37 Tryz.sizeOf50 rfl ?_
   intro p19 o20 cs21 hr22 hs23 hg24
   obtain ⟨z25, rfl, h26⟩ := hr22
   refine rl_loadA (cs := (Group.c x11 z25)) rfl Tryz.isAgg50 Tryz.sizeOf50 (hs23) rfl rfl ?_
   refine rl_alloc (Group.c Group.z (Value.slice none 0 0)) Tryz.zeroValue50 rfl rfl ?_
   intro p27 w28 n29 k30
   have lo31 : ∀ b, inBlk (PV p27) b → w.heap.size ≤ b := fun b h => Nat.le_trans c14.size (n29.fresh b h)
   have ah0 := slRep.st k_Group_pos ah0 n29.ch (admNew n29.fresh (fun _ x => x))
   have ah1 := slRep.st k_Group_pos ah1 n29.ch (admNew n29.fresh (fun _ x => x))
   have ah2 := Kd.st ah2 n29.ch (admNew n29.fresh (fun _ x => x))
   have h26 := slRep.st k_Point_pos h26 n29.ch (admNew n29.fresh (fun _ x => x))
   have c14 := c14.then0 n29.ch
   refine rl_assign rfl rfl ?_
   refine rl_storeA (vs := (Group.c x11 z25)) rfl rfl (Kd.one _ (show k_Group.rep (G F w.heap.size (un (inBlk (PV p27)) nb)) w28 x11 (Group.c x11 z25) from ⟨z25, rfl, h26⟩)) Tryz.sizeOf50 rfl k30 rfl ?_
   intro w32 s34 c33 k35
   have ad36 : ∀ b, b < w28.heap.size → ¬ (un (inBlk (PV p27)) nb) b → ¬ (inBlk (PV p27)) b ∧ ¬ (un (inBlk (PV p27)) nb) b := fun b _ hs => ⟨fun h => hs (.inl h), hs⟩
   have ah0 := slRep.st k_Group_pos ah0 c33 ad36
   have ah1 := slRep.st k_Group_pos ah1 c33 ad36
   have ah2 := Kd.st ah2 c33 ad36
   have h26 := slRep.st k_Point_pos h26 c33 ad36
   have c14 := c14.then c33 (fun i hi h => absurd (lo31 i h) (Nat.not_le_of_lt hi))
   refine RL.nil (thn_n (CW.seq (CW.region ?_)))
   refine rl_move rfl rfl ?_
   refine rl_move rfl rfl ?_
   obtain ⟨y43, hy44, hb8⟩ := bindS hb8
   refine rl_ixR rfl ah1 rfl (ixO_nat hy44) Tryz.underlying37 Tryz.sizeOf50 rfl ?_
   intro p37 o38 cs39 hr40 hs41 hg42
   obtain ⟨z45, rfl, h46⟩ := hr40
   refine rl_loadA (cs := (Group.c y43 z45)) rfl Tryz.isAgg50 Tryz.sizeOf50 (hs41) rfl rfl ?_
   refine rl_alloc (Group.c Group.z (Value.slice none 0 0)) Tryz.zeroValue50 rfl rfl ?_
   intro p47 w48 n49 k50
   have lo51 : ∀ b, inBlk (PV p47) b → w.heap.size ≤ b := fun b h => Nat.le_trans c14.size (n49.fresh b h)
   have d52 : ∀ b, inBlk (PV p47) b → ¬ inBlk (PV p27) b := disNew n49.fresh k35.ltp
   have ah0 := slRep.st k_Group_pos ah0 n49.ch (admNew n49.fresh (fun _ x => x))
   have ah1 := slRep.st k_Group_pos ah1 n49.ch (admNew n49.fresh (fun _ x => x))
   have ah2 := Kd.st ah2 n49.ch (admNew n49.fresh (fun _ x => x))
   have h26 := slRep.st k_Point_pos h26 n49.ch (admNew n49.fresh (fun _ x => x))
   have k35 := k35.ch0 n49.ch
   have h46 := slRep.st k_Point_pos h46 n49.ch (admNew n49.fresh (fun _ x => x))
   have c14 := c14.then0 n49.ch
   refine rl_storeA (vs := (Group.c y43 z45)) rfl rfl (Kd.one _ (show k_Group.rep (G F w.heap.size (un (inBlk (PV p47)) (un (inBlk (PV p27)) nb))) w48 y43 (Group.c y43 z45) from ⟨z45, rfl, h46⟩)) Tryz.sizeOf50 rfl k50 rfl ?_
   intro w53 s55 c54 k56
   have ad57 : ∀ b, b < w48.heap.size → ¬ (un (inBlk (PV p47)) (un (inBlk (PV p27)) nb)) b → ¬ (inBlk (PV p47)) b ∧ ¬ (un (inBlk (PV p47)) (un (inBlk (PV p27)) nb)) b := fun b _ hs => ⟨fun h => hs (.inl h), hs⟩
   have ah0 := slRep.st k_Group_pos ah0 c54 ad57
   have ah1 := slRep.st k_Group_pos ah1 c54 ad57
   have ah2 := Kd.st ah2 c54 ad57
   have h26 := slRep.st k_Point_pos h26 c54 ad57
   have k35 := k35.ch c54 ((fun b hb h => (disSym d52) b hb h) _ rfl)
   have h46 := slRep.st k_Point_pos h46 c54 ad57
   have c14 := c14.then c54 (fun i hi h => absurd (lo51 i h) (Nat.not_le_of_lt hi))
   refine RL.nil (thn_n (CW.seq (CW.region ?_)))
   refine rl_move rfl rfl ?_
   refine rl_loadA (cs := (Group.c x11 z25)) rfl Tryz.isAgg50 Tryz.sizeOf50 (k35.segAt 0 5) rfl rfl ?_
   refine rl_loadA (cs := (Group.c y43 z45)) rfl Tryz.isAgg50 Tryz.sizeOf50 (k56.segAt 0 5) rfl rfl ?_
   refine rl_fn2 (c := (Group.c x11 z25)) (c' := (Group.c y43 z45)) rfl rfl rfl rfl rfl ah2 (F' := (G F w.heap.size (un (inBlk (PV p47)) (un (inBlk (PV p27)) nb)))) (xx := x11) (yy := y43) (show k_Group.rep (G F w.heap.size (un (inBlk (PV p47)) (un (inBlk (PV p27)) nb))) w53 x11 (Group.c x11 z25) from ⟨z25, rfl, h26⟩) (show k_Group.rep (G F w.heap.size (un (inBlk (PV p47)) (un (inBlk (PV p27)) nb))) w53 y43 (Group.c y43 z45) from ⟨z45, rfl, h46⟩) rfl ?_
   intro w58 c59
   have ah0 := slRep.ch k_Group_pos ah0 c59
   have ah1 := slRep.ch k_Group_pos ah1 c59
   have ah2 := Kd.ch ah2 c59
   have c14 := c14.then0 c59
   refine rl_not rfl rfl ?_
   refine RL.nil (thn_n ?_)
   refine CW.cond (t := !(a2 x11 y43)) rfl (fun q60 => ?_) (fun q60 => ?_)
   ·
    have hb8 := ifT q60 hb8
    refine CW.seq (CW.region ?_)
    refine rl_assign rfl rfl ?_
    refine RL.nil (thn_n (CW.ret ?_))
    refine inB_ret ?_
    refine thn_ret ?_
    refine thn_ret (inB_ret (thn_ret ?_))
    refine thn_ret ?_
    have f61 := runBO_ret hL4 hq7 hb8
    have hS := retS f61 hS
    obtain rfl := Option.some.inj hS
    exact ret1 rfl ⟨rfl, c14⟩
   have hb8 := ifF q60 hb8
   refine CW.skip ?_
   refine inB_n ?_
   refine thn_n (CW.region ?_)
   refine rl_inc rfl hat5.lt ah0.big rfl ?_
   refine rl_move rfl rfl ?_
   refine RL.nil (thn_n ?_)
   have ad62 : ∀ b, b < w58.heap.size → ¬ (un (inBlk (PV p47)) (un (inBlk (PV p27)) nb)) b → ¬ nb b ∧ ¬ (un (inBlk (PV p27)) nb) b := fun b _ hs => ⟨fun x => x, fun h => hs (un_el h (fun h => (.inr (.inl h))) (fun h => False.elim h))⟩
   have crf : Ch nb w58 w58 := Ch.refl
   have ah0 := slRep.st k_Group_pos ah0 crf ad62
   have ah1 := slRep.st k_Group_pos ah1 crf ad62
   have ah2 := Kd.st ah2 crf ad62
   have c14 := c14.then0 crf
   have ad63 : ∀ b, b < w58.heap.size → ¬ (un (inBlk (PV p27)) nb) b → ¬ nb b ∧ ¬ nb b := fun b _ hs => ⟨fun x => x, fun h => hs (False.elim h)⟩
   have crf : Ch nb w58 w58 := Ch.refl
   have ah0 := slRep.st k_Group_pos ah0 crf ad63
   have ah1 := slRep.st k_Group_pos ah1 crf ad63
   have ah2 := Kd.st ah2 crf ad63
   have c14 := c14.then0 crf
   have hLn := runBO_next hL4 hq7 hb8
   exact ⟨rest18.length, Nat.lt_succ_self _, [(1, av1), (2, av2), (15, av0), (16, (Value.int .i64 ((a0.length : Nat) : Int))), (17, (Value.int .i64 ((i3 + 1 : Nat) : Int)))], ⟨rfl, rfl, rfl, rfl, rfl, trivial⟩, ⟨rest18, i3 + 1, rfl, rfl, c14, hat5.next, hLn, ah0, ah1, ah2⟩⟩
  obtain rfl := hat5.nil q17
  have hLf : Lp.fin i3 = o9 := runBO_done hL4
  refine CW.exit (thn_exit (thn_exit (inB_hit ?_)))
  exact ⟨i3, trivial, c14, hLf, ah0, ah1, ah2⟩
 rintro _ w65 ⟨ix16, hE66, c64, f67, ah0, ah1, ah2⟩
 have hS := finS f67 hS
 refine thn_n (CW.sub [] hE66 ?_)
 refine CW.seq (CW.region ?_)
 refine rl_assign rfl rfl ?_
 refine RL.nil (thn_n (CW.ret ?_))
 obtain rfl := Option.some.inj hS
 exact ret1 rfl ⟨rfl, c64⟩
end Go.Proofs.YtgcneihmkkldeaaGreat
