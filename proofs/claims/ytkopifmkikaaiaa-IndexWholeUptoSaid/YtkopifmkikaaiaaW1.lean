/- The walks through the code: each call comes to its printed function. Written by a program of this session. -/
import Derived.Test.YtkopifmkikaaiaaM
import Derived.Test.YtkopifmkikaaiaaL
namespace Go.Proofs.Ytkopifmkikaaiaa
open Go K
set_option linter.unusedVariables false
/-- lb/index.New -/
theorem ctr7 (F : Nat → Prop) (w : World)  (r : Index_2) (hs : F7_New  = r) :
    Ret Try.prog 7 #[] w fun v w' => ∃ (y0_p : Nat) (y0_0 : Value) (y0_1 : Value) (y0_1u : Value), v = (PV y0_p) ∧ Blk w' y0_p 47 (Index_2.c r y0_0 y0_1u) ∧ Mp (fun x => Value.agg (Key.enc x).toArray) (fun x => Value.agg (Key.enc x).toArray) w' r.owner y0_0 ∧ MM (fun x => Value.agg (Key.enc x).toArray) (fun x => Value.agg (Key.enc x).toArray) (fun x => Value.agg (St50.enc x).toArray) w' r.slices y0_1u y0_1 ∧ (∀ b, inBlk (PV y0_p) b → w.heap.size ≤ b) ∧ (∀ b, inBlk y0_0 b → w.heap.size ≤ b) ∧ (∀ b, inBlk y0_1 b → w.heap.size ≤ b) ∧ (∀ b, inBlk (PV y0_p) b → ¬ inBlk y0_0 b) ∧ (∀ b, inBlk (PV y0_p) b → ¬ inBlk y0_1 b) ∧ (∀ b, inBlk y0_0 b → ¬ inBlk y0_1 b) ∧ Ch nb w w' := by
 have hS := hs
 have c0 : Ch nb w w := Ch.refl
 refine Ret.of (n := 5) (args := []) (rs := [.tmp 0]) Try.func7 rfl rfl rfl rfl ?_
 refine CW.seq (CW.region ?_)
 refine rl_assign rfl rfl ?_
 refine RL.nil (thn_n (CW.seq (CW.region ?_)))
 refine rl_makeMap (ek := (fun x => Value.agg (Key.enc x).toArray)) (ev := (fun x => Value.agg (Key.enc x).toArray)) rfl ?_
 intro p1 w2 n3 k4
 have lo5 : ∀ b, inBlk (Value.map (some p1)) b → w.heap.size ≤ b := fun b h => Nat.le_trans c0.size (n3.freshM b h)
 have c0 := c0.then0 n3.ch
 refine rl_makeMap (ek := (fun x => Value.agg (Key.enc x).toArray)) (ev := Value.map) rfl ?_
 intro p6 w7 n8 k9
 have k9 := MM.new (ek2 := (fun x => Value.agg (Key.enc x).toArray)) (ev2 := (fun x => Value.agg (St50.enc x).toArray)) k9
 have hf10 : ∀ c, inBlk (zOf p6 []) c → w2.heap.size ≤ c := fun c hc => n8.freshM c (zOf_one.1 hc)
 have lo11 : ∀ b, inBlk (zOf p6 []) b → w.heap.size ≤ b := fun b h => Nat.le_trans c0.size (hf10 b h)
 have d12 : ∀ b, inBlk (zOf p6 []) b → ¬ inBlk (Value.map (some p1)) b := disNew hf10 k4.ltp
 have k4 := k4.ch0 n8.ch
 have c0 := c0.then0 n8.ch
 refine rl_buildC (out := (Index_2.c ({ owner := ([] : (List (Key × Key))), slices := ([] : (List (Key × (List (Key × St50))))) } : Index_2) (Value.map (some p1)) (Value.map (some p6)))) [(0, [(Value.map (some p1))]), (1, [(Value.map (some p6))])] rfl (co_cons (one_toL k4.one.1) (co_cons (one_toL k9.one.1) co_nil)) pl47 Try.zeroValue47 rfl rfl rfl ?_
 refine rl_boxA (cs := (Index_2.c ({ owner := ([] : (List (Key × Key))), slices := ([] : (List (Key × (List (Key × St50))))) } : Index_2) (Value.map (some p1)) (Value.map (some p6)))) rfl rfl ?_
 intro p13 w14 n15 k16
 have lo17 : ∀ b, inBlk (PV p13) b → w.heap.size ≤ b := fun b h => Nat.le_trans c0.size (n15.fresh b h)
 have d18 : ∀ b, inBlk (PV p13) b → ¬ inBlk (zOf p6 []) b := disNew n15.fresh k9.ltp
 have d19 : ∀ b, inBlk (PV p13) b → ¬ inBlk (Value.map (some p1)) b := disNew n15.fresh k4.ltp
 have k4 := k4.ch0 n15.ch
 have k9 := k9.ch0 n15.ch
 have c0 := c0.then0 n15.ch
 refine rl_assign rfl rfl ?_
 refine RL.nil (thn_n (CW.ret ?_))
 obtain rfl := hS
 exact ret1 rfl ⟨p13, (Value.map (some p1)), (zOf p6 []), (Value.map (some p6)), rfl, k16, k4, k9, lo17, lo5, lo11, d19, d18, (disSym d12), c0⟩
/-- (*lb/index.Index).Drop -/
theorem ctr10 (F : Nat → Prop) (w : World) (Bb : Nat) (S2 : Nat → Prop) (hB : Bb ≤ w.heap.size) (h2 : ∀ b, S2 b → b < w.heap.size) (po0 : Nat) (az0_0 : Value) (az0_1 az0_1u : Value) (hd2 : ∀ b, (un (inBlk (PV po0)) (un (inBlk az0_0) (inBlk az0_1))) b → ¬ S2 b) (hx0_1 : ∀ b, inBlk (PV po0) b → ¬ inBlk az0_0 b) (hx0_2 : ∀ b, inBlk (PV po0) b → ¬ inBlk az0_1 b) (hx1_2 : ∀ b, inBlk az0_0 b → ¬ inBlk az0_1 b) (a0 : Index_2) (ah0 : Blk w po0 47 (Index_2.c a0 az0_0 az0_1u)) (ah0_0 : Mp (fun x => Value.agg (Key.enc x).toArray) (fun x => Value.agg (Key.enc x).toArray) w a0.owner az0_0) (ah0_1 : MM (fun x => Value.agg (Key.enc x).toArray) (fun x => Value.agg (Key.enc x).toArray) (fun x => Value.agg (St50.enc x).toArray) w a0.slices az0_1u az0_1) (a1 : Key) (r : (Key × Bool × Index_2)) (hs : F10_Drop a0 a1 = r) :
    Ret Try.prog 10 #[(PV po0), (Value.agg (Key.enc a1).toArray)] w fun v w' => ∃ (nz0_0 : Value) (nz0_1 : Value) (nz0_1u : Value), v = Value.tuple #[(Value.agg (Key.enc r.1).toArray), (Value.bool r.2.1)] ∧ Blk w' po0 47 (Index_2.c r.2.2 nz0_0 nz0_1u) ∧ Mp (fun x => Value.agg (Key.enc x).toArray) (fun x => Value.agg (Key.enc x).toArray) w' r.2.2.owner nz0_0 ∧ MM (fun x => Value.agg (Key.enc x).toArray) (fun x => Value.agg (Key.enc x).toArray) (fun x => Value.agg (St50.enc x).toArray) w' r.2.2.slices nz0_1u nz0_1 ∧ (∀ b, inBlk nz0_0 b → (un (inBlk (PV po0)) (un (inBlk az0_0) (inBlk az0_1))) b ∨ w.heap.size ≤ b) ∧ (∀ b, inBlk nz0_1 b → (un (inBlk (PV po0)) (un (inBlk az0_0) (inBlk az0_1))) b ∨ w.heap.size ≤ b) ∧ (∀ b, inBlk (PV po0) b → ¬ inBlk nz0_0 b) ∧ (∀ b, inBlk (PV po0) b → ¬ inBlk nz0_1 b) ∧ (∀ b, inBlk nz0_0 b → ¬ inBlk nz0_1 b) ∧ Ch (un (inBlk (PV po0)) (un (inBlk az0_0) (inBlk az0_1))) w w' := by
 have hS := hs
 have c0 : Ch (un (inBlk (PV po0)) (un (inBlk az0_0) (inBlk az0_1))) w w := Ch.refl
 have lin1_0 : ∀ b, inBlk az0_0 b → (un (inBlk (PV po0)) (un (inBlk az0_0) (inBlk az0_1))) b ∨ w.heap.size ≤ b := fun b h => .inl (.inr (.inl h))
 have lin2_0 : ∀ b, inBlk az0_1 b → (un (inBlk (PV po0)) (un (inBlk az0_0) (inBlk az0_1))) b ∨ w.heap.size ≤ b := fun b h => .inl (.inr (.inr h))
 refine Ret.of (n := 46) (args := [_, _]) (rs := [.cell 4 32, .tmp 5]) Try.func10 rfl rfl rfl rfl ?_
 refine CW.seq (CW.region ?_)
 refine rl_boxA (cs := (Key.enc a1)) rfl rfl ?_
 intro p1 w2 n3 k4
 have gp1 : (G F Bb (un (inBlk (PV po0)) (un (inBlk az0_0) (un (inBlk az0_1) S2)))) p1 := ⟨.inr (by rw [n3.eq]; exact (Nat.le_trans hB c0.size)), fun h => absurd ((un_lt ah0.ltp (un_lt ah0_0.ltp (un_lt ah0_1.ltp (fun b h => Nat.lt_of_lt_of_le (h2 b h) c0.size)))) _ h) (by rw [n3.eq]; exact Nat.lt_irrefl _)⟩
 have ah0 := ah0.ch0 n3.ch
 have ah0_0 := ah0_0.ch0 n3.ch
 have ah0_1 := ah0_1.ch0 n3.ch
 have c0 := c0.then0 n3.ch
 refine rl_alloc (Key.enc Key.z) Try.zeroValue32 rfl rfl ?_
 intro p5 w6 n7 k8
 have lo9 : ∀ b, inBlk (PV p5) b → w.heap.size ≤ b := fun b h => Nat.le_trans c0.size (n7.fresh b h)
 have d10 : ∀ b, inBlk (PV p5) b → ¬ inBlk (PV po0) b := disNew n7.fresh ah0.ltp
 have d11 : ∀ b, inBlk (PV p5) b → ¬ inBlk az0_0 b := disNew n7.fresh ah0_0.ltp
 have d12 : ∀ b, inBlk (PV p5) b → ¬ inBlk az0_1 b := disNew n7.fresh ah0_1.ltp
 have ah0 := ah0.ch0 n7.ch
 have ah0_0 := ah0_0.ch0 n7.ch
 have ah0_1 := ah0_1.ch0 n7.ch
 have gp1n : (G F Bb (un (inBlk (PV p5)) (un (inBlk (PV po0)) (un (inBlk az0_0) (un (inBlk az0_1) S2))))) p1 := ⟨gp1.1, ((admNew n7.fresh (fun _ x => x)) _ k4.lt gp1.2).2⟩
 have k4 := k4.ch0 n7.ch
 have gp1 := gp1n
 have c0 := c0.then0 n7.ch
 refine rl_assign rfl rfl ?_
 refine RL.nil (thn_n (CW.seq ?_))
 refine CW.draw 11 [(none, fun fx O uu wx => uu = (PV po0)), (none, fun fx O uu wx => uu = (PV po0)), (none, fun fx O uu wx => uu = (PV po0)), (none, fun fx O uu wx => uu = az0_0), (none, fun fx O uu wx => uu = (Value.agg (Key.enc a1).toArray)), (none, fun fx O uu wx => uu = (Value.tuple #[(Value.agg (Key.enc ((mget a0.owner a1).getD Key.z)).toArray), (Value.bool ((mget a0.owner a1).isSome))])), (none, fun fx O uu wx => uu = (Value.tuple #[(Value.agg (Key.enc ((mget a0.owner a1).getD Key.z)).toArray), (Value.bool ((mget a0.owner a1).isSome))])), (none, fun fx O uu wx => uu = (Value.agg (Key.enc ((mget a0.owner a1).getD Key.z)).toArray)), (none, fun fx O uu wx => uu = (Value.bool ((mget a0.owner a1).isSome))), (some false, fun _ O uu wx => ∃ (p13 : Nat), uu = (PV p13) ∧ O = (inBlk (PV p13)) ∧ Blk wx p13 32 (Key.enc Key.z)), (some true, fun hv O uu wx => ∃ (p13 : Nat), hv = [(PV p13), undef] ∧ uu = undef ∧ O = (inBlk (PV p13)) ∧ Blk wx p13 32 (Key.enc ((mget a0.owner a1).getD Key.z)))] [[], [0], [1], [2], [], [3, 4], [5], [6], [6], [], [9, 7]] [10, 8, 9] nb (fun _ h => h.elim) mixed rfl rfl rfl rfl ?_ ?_
 ·
  refine Each.consS (fun fl O wk hE hN hO ck => ?_) ?_
  ·
   refine rl_move rfl rfl ?_
   exact RL.nil ⟨_, rfl, Ch.refl, rfl⟩
  refine Each.consS (fun fl O wk hE hN hO ck => ?_) ?_
  ·
   refine Need.o1 rfl rfl rfl (fun _ h => h) ?_
   refine rl_nilCheck rfl rfl ?_
   exact RL.nil ⟨_, rfl, Ch.refl, rfl⟩
  refine Each.consS (fun fl O wk hE hN hO ck => ?_) ?_
  ·
   refine Need.o1 rfl rfl rfl (fun _ h => h) ?_
   refine rl_fieldAddr rfl fa47_0 rfl ?_
   exact RL.nil ⟨_, rfl, Ch.refl, rfl⟩
  refine Each.consS (fun fl O wk hE hN hO ck => ?_) ?_
  ·
   have ah0 := ah0.ch0 ck
   refine Need.o1 rfl rfl rfl (fun _ h => h) ?_
   refine rl_loadS (v := az0_0) rfl Try.isAgg44 (ah0.cell rfl) rfl ?_
   exact RL.nil ⟨_, rfl, Ch.refl, rfl⟩
  refine Each.consS (fun fl O wk hE hN hO ck => ?_) ?_
  ·
   have k4 := k4.ch0 ck
   refine rl_loadA (cs := (Key.enc a1)) rfl Try.isAgg32 Try.sizeOf32 (k4.segAt 0 2) rfl rfl ?_
   exact RL.nil ⟨_, rfl, Ch.refl, rfl⟩
  refine Each.consS (fun fl O wk hE hN hO ck => ?_) ?_
  ·
   have ah0_0 := ah0_0.ch0 ck
   refine Need.o1 rfl rfl rfl (fun _ h => h) ?_
   refine Need.o1 rfl rfl rfl (fun _ h => h) ?_
   refine rl_lookup2 a1 Key.z rfl rfl ah0_0 rfl kt32 Try.underlying44 Try.zeroValue32 rfl ?_
   exact RL.nil ⟨_, rfl, Ch.refl, rfl⟩
  refine Each.consS (fun fl O wk hE hN hO ck => ?_) ?_
  ·
   refine Need.o1 rfl rfl rfl (fun _ h => h) ?_
   refine rl_move rfl rfl ?_
   exact RL.nil ⟨_, rfl, Ch.refl, rfl⟩
  refine Each.consS (fun fl O wk hE hN hO ck => ?_) ?_
  ·
   refine Need.o1 rfl rfl rfl (fun _ h => h) ?_
   refine rl_extract rfl rfl rfl ?_
   exact RL.nil ⟨_, rfl, Ch.refl, rfl⟩
  refine Each.consS (fun fl O wk hE hN hO ck => ?_) ?_
  ·
   refine Need.o1 rfl rfl rfl (fun _ h => h) ?_
   refine rl_extract rfl rfl rfl ?_
   exact RL.nil ⟨_, rfl, Ch.refl, rfl⟩
  refine Each.consP ⟨fun _ O _ wx wy cc hh => by obtain ⟨p13, e, rfl, ck9_0⟩ := hh; exact ⟨p13, e, rfl, ck9_0.ch0 cc⟩, fun O wk hO ck => ?_⟩ ?_
  ·
   refine rl_alloc (Key.enc Key.z) Try.zeroValue32 rfl rfl ?_
   intro p85 w86 n87 k88
   have hb95 : ∀ b, (inBlk (PV p85)) b → wk.heap.size ≤ b ∧ b < w86.heap.size := fun b h => ⟨n87.fresh b h, k88.ltp b h⟩
   exact RL.nil ⟨_, (inBlk (PV p85)), rfl, hb95, n87.ch, ⟨p85, rfl, rfl, k88⟩⟩
  refine Each.consO ⟨fun _ O _ wx wy cc hh => by obtain ⟨p13, eh, e, rfl, ck10_0⟩ := hh; exact ⟨p13, eh, e, rfl, ck10_0.ch0 cc⟩, fun hv Op O wk hO ck hO0 => ?_⟩ ?_
  ·
   obtain ⟨hl, hBg⟩ := hO0 rfl
   refine Need.made rfl rfl rfl rfl ?_
   rintro _ ⟨p13, e96, eO97, ck9_0⟩ hh98
   obtain rfl := e96.symm
   have io99 : ∀ b, inBlk (PV p13) b → _ := fun b h => (Eq.mpr (congrFun eO97 b) h)
   obtain rfl := hist_eq [(PV p13)] hv hl ⟨hh98, trivial⟩
   refine Need.o1 rfl rfl rfl (fun _ h => h) ?_
   refine rl_storeA (vs := (Key.enc ((mget a0.owner a1).getD Key.z))) rfl rfl (all_one rfl) Try.sizeOf32 rfl ck9_0 rfl ?_
   intro w108 s110 c109 k111
   have hb113 : ∀ b, (inBlk (PV p13)) b → (O b ∨ wk.heap.size ≤ b) ∧ b < w108.heap.size := fun b h => ⟨.inl ((hBg.1 b).2 (.inr ⟨_, inPre rfl, io99 b h⟩)), k111.ltp b h⟩
   exact RL.nil ⟨_, (inBlk (PV p13)), rfl, hb113, (c109.mono (fun b _ h => ((hBg.1 b).2 (.inr ⟨_, inPre rfl, io99 b h⟩)))), ⟨p13, rfl, rfl, rfl, k111⟩⟩
  trivial
 intro hvO116 OpO116 O116 w114 hO117 c115 hN118
 have ol121 : ∀ b, inBlk az0_0 b → b < w6.heap.size := ah0_0.ltp
 have ol122 : ∀ b, inBlk az0_1 b → b < w6.heap.size := ah0_1.ltp
 refine Need.hereN rfl rfl rfl rfl ?_
 rintro ⟨p13, rfl, _, rfl, ck10_0⟩
 have d127 : ∀ b, inBlk (PV p13) b → ¬ inBlk az0_0 b := fun b h hu => (hO117 b h).1.elim (fun h => h.elim) (fun h => Nat.not_le_of_lt (ol121 b hu) h)
 have d128 : ∀ b, inBlk (PV p13) b → ¬ inBlk az0_1 b := fun b h hu => (hO117 b h).1.elim (fun h => h.elim) (fun h => Nat.not_le_of_lt (ol122 b hu) h)
 have ha129 : ∀ b, b < w6.heap.size → ¬ (un (inBlk (PV p5)) (un (inBlk (PV po0)) (un (inBlk az0_0) (un (inBlk az0_1) S2)))) b → ¬ nb b ∧ ¬ (un (inBlk (PV p13)) (un (inBlk (PV p5)) (un (inBlk (PV po0)) (un (inBlk az0_0) (un (inBlk az0_1) S2))))) b := fun b hb hs => ⟨fun h => h.elim, fun h => un_el h (fun h => (hO117 b h).1.elim (fun h => h.elim) (fun h => Nat.not_le_of_lt hb h)) (fun h => un_el h (fun h => hs (.inl h)) (fun h => un_el h (fun h => hs (.inr (.inl h))) (fun h => un_el h (fun h => hs (.inr (.inr (.inl h)))) (fun h => un_el h (fun h => hs (.inr (.inr (.inr (.inl h))))) (fun h => hs (.inr (.inr (.inr (.inr h)))))))))⟩
 have ah0 := ah0.ch0 c115
 have ah0_0 := ah0_0.ch0 c115
 have ah0_1 := ah0_1.ch0 c115
 have gp1n : (G F Bb (un (inBlk (PV p13)) (un (inBlk (PV p5)) (un (inBlk (PV po0)) (un (inBlk az0_0) (un (inBlk az0_1) S2)))))) p1 := ⟨gp1.1, (ha129 _ k4.lt gp1.2).2⟩
 have k4 := k4.ch0 c115
 have gp1 := gp1n
 have k8 := k8.ch0 c115
 have c0 := c0.then0 c115
 refine Need.o1 rfl rfl rfl (fun _ h => h) ?_
 refine Need.hist (PV p13) rfl rfl rfl rfl rfl rfl ?_
 refine rl_assign rfl rfl ?_
 refine RL.nil (thn_n (CW.seq ?_))
 refine CW.seq (CW.region ?_)
 refine rl_move rfl rfl ?_
 refine rl_not rfl rfl ?_
 refine RL.nil (thn_n ?_)
 refine CW.cond (t := !((mget a0.owner a1).isSome)) rfl (fun q132 => ?_) (fun q132 => ?_)
 ·
  have hS := ifT q132 hS
  refine CW.seq (CW.region ?_)
  refine rl_build (out := (Key.enc ({ space := ⟨#[]⟩, name := ⟨#[]⟩ } : Key))) rfl pl32 Try.zeroValue32 rfl rfl rfl ?_
  refine rl_storeA (vs := (Key.enc ({ space := ⟨#[]⟩, name := ⟨#[]⟩ } : Key))) rfl rfl (all_one rfl) Try.sizeOf32 rfl k8 rfl ?_
  intro w133 s135 c134 k136
  have ah0 := ah0.ch c134 ((fun b hb h => (disSym d10) b hb h) _ rfl)
  have ah0_0 := ah0_0.ch c134 ((fun b hb h => (disSym d11) b hb h))
  have ah0_1 := ah0_1.ch c134 ((fun b hb h => (disSym d12) b hb h))
  have c0 := c0.then c134 (fun i hi h => absurd (lo9 i h) (Nat.not_le_of_lt hi))
  refine rl_assign rfl rfl ?_
  refine RL.nil (thn_n (CW.ret ?_))
  refine thn_ret ?_
  obtain rfl := hS
  have crf : Ch nb w133 w133 := Ch.refl
  have ah0 := ah0.ch0 crf
  have ah0_0 := ah0_0.ch0 crf
  have ah0_1 := ah0_1.ch0 crf
  have k136 := k136.ch0 crf
  have c0 := c0.then0 crf
  have crf : Ch nb w133 w133 := Ch.refl
  have ah0 := ah0.ch0 crf
  have ah0_0 := ah0_0.ch0 crf
  have ah0_1 := ah0_1.ch0 crf
  have c0 := c0.then0 crf
  exact ⟨[_, _], ⟨Res1.agg (cs := (Key.enc ({ space := ⟨#[]⟩, name := ⟨#[]⟩ } : Key))) rfl Try.isAgg32 Try.sizeOf32 (k136.segAt 0 2) rfl, rfl, trivial⟩, ⟨az0_0, az0_1, az0_1u, rfl, ah0, ah0_0, ah0_1, lin1_0, lin2_0, hx0_1, hx0_2, hx1_2, c0⟩⟩
 have hS := ifF q132 hS
 refine CW.skip ?_
 refine thn_n (CW.seq ?_)
 refine CW.draw 5 [(none, fun fx O uu wx => uu = (PV po0)), (none, fun fx O uu wx => uu = (PV po0)), (none, fun fx O uu wx => uu = (PV po0)), (none, fun fx O uu wx => uu = az0_0), (none, fun fx O uu wx => uu = (Value.agg (Key.enc a1).toArray))] [[], [0], [1], [2], []] [3, 4] nb (fun _ h => h.elim) mixed rfl rfl rfl rfl ?_ ?_
 ·
  refine Each.consS (fun fl O wk hE hN hO ck => ?_) ?_
  ·
   refine rl_move rfl rfl ?_
   exact RL.nil ⟨_, rfl, Ch.refl, rfl⟩
  refine Each.consS (fun fl O wk hE hN hO ck => ?_) ?_
  ·
   refine Need.o1 rfl rfl rfl (fun _ h => h) ?_
   refine rl_nilCheck rfl rfl ?_
   exact RL.nil ⟨_, rfl, Ch.refl, rfl⟩
  refine Each.consS (fun fl O wk hE hN hO ck => ?_) ?_
  ·
   refine Need.o1 rfl rfl rfl (fun _ h => h) ?_
   refine rl_fieldAddr rfl fa47_0 rfl ?_
   exact RL.nil ⟨_, rfl, Ch.refl, rfl⟩
  refine Each.consS (fun fl O wk hE hN hO ck => ?_) ?_
  ·
   have ah0 := ah0.ch0 ck
   refine Need.o1 rfl rfl rfl (fun _ h => h) ?_
   refine rl_loadS (v := az0_0) rfl Try.isAgg44 (ah0.cell rfl) rfl ?_
   exact RL.nil ⟨_, rfl, Ch.refl, rfl⟩
  refine Each.consS (fun fl O wk hE hN hO ck => ?_) ?_
  ·
   have k4 := k4.ch0 ck
   refine rl_loadA (cs := (Key.enc a1)) rfl Try.isAgg32 Try.sizeOf32 (k4.segAt 0 2) rfl rfl ?_
   exact RL.nil ⟨_, rfl, Ch.refl, rfl⟩
  trivial
 intro hvO149 OpO149 O149 w147 hO150 c148 hN151
 have ah0 := ah0.ch0 c148
 have ah0_0 := ah0_0.ch0 c148
 have ah0_1 := ah0_1.ch0 c148
 have k4 := k4.ch0 c148
 have k8 := k8.ch0 c148
 have ck10_0 := ck10_0.ch0 c148
 have c0 := c0.then0 c148
 refine Need.o1 rfl rfl rfl (fun _ h => h) ?_
 refine Need.o1 rfl rfl rfl (fun _ h => h) ?_
 refine rl_delete a1 rfl rfl ah0_0 rfl kt32 Try.underlying44 ?_
 intro w154 c155 h156
 have ad157 : ∀ b, b < w147.heap.size → ¬ (un (inBlk (PV p13)) (un (inBlk (PV p5)) (un (inBlk (PV po0)) (un (inBlk az0_0) (un (inBlk az0_1) S2))))) b → ¬ (inBlk az0_0) b ∧ ¬ (un (inBlk (PV p13)) (un (inBlk (PV p5)) (un (inBlk (PV po0)) (un (inBlk az0_0) (un (inBlk az0_1) S2))))) b := fun b _ hs => ⟨fun h => hs (.inr (.inr (.inr (.inl h)))), hs⟩
 have ah0 := ah0.ch c155 ((fun b hb h => hx0_1 b hb h) _ rfl)
 have ah0_1 := ah0_1.ch c155 ((fun b hb h => (disSym hx1_2) b hb h))
 have k4 := k4.ch c155 (ad157 _ k4.lt gp1.2).1
 have k8 := k8.ch c155 ((fun b hb h => d11 b hb h) _ rfl)
 have ck10_0 := ck10_0.ch c155 ((fun b hb h => d127 b hb h) _ rfl)
 have c0 := c0.then c155 (fun i hi h => (lin1_0 i h).elim (fun x => x) (fun x => absurd x (Nat.not_le_of_lt hi)))
 refine RL.nil (thn_n (CW.seq ?_))
 refine CW.draw 7 [(none, fun fx O uu wx => uu = (PV po0)), (none, fun fx O uu wx => uu = (PV po0)), (none, fun fx O uu wx => uu = (Value.pointer (some ⟨po0, 1, none⟩))), (none, fun fx O uu wx => uu = az0_1u), (none, fun fx O uu wx => uu = (Value.agg (Key.enc ((mget a0.owner a1).getD Key.z)).toArray)), (none, fun fx O uu wx => uu = (innv a0.slices az0_1 ((mget a0.owner a1).getD Key.z))), (none, fun fx O uu wx => uu = (Value.agg (Key.enc a1).toArray))] [[], [0], [1], [2], [], [3, 4], []] [5, 6] nb (fun _ h => h.elim) mixed rfl rfl rfl rfl ?_ ?_
 ·
  refine Each.consS (fun fl O wk hE hN hO ck => ?_) ?_
  ·
   refine rl_move rfl rfl ?_
   exact RL.nil ⟨_, rfl, Ch.refl, rfl⟩
  refine Each.consS (fun fl O wk hE hN hO ck => ?_) ?_
  ·
   refine Need.o1 rfl rfl rfl (fun _ h => h) ?_
   refine rl_nilCheck rfl rfl ?_
   exact RL.nil ⟨_, rfl, Ch.refl, rfl⟩
  refine Each.consS (fun fl O wk hE hN hO ck => ?_) ?_
  ·
   refine Need.o1 rfl rfl rfl (fun _ h => h) ?_
   refine rl_fieldAddr rfl fa47_1 rfl ?_
   exact RL.nil ⟨_, rfl, Ch.refl, rfl⟩
  refine Each.consS (fun fl O wk hE hN hO ck => ?_) ?_
  ·
   have ah0 := ah0.ch0 ck
   refine Need.o1 rfl rfl rfl (fun _ h => h) ?_
   refine rl_loadS (v := az0_1u) rfl Try.isAgg45 (ah0.cell rfl) rfl ?_
   exact RL.nil ⟨_, rfl, Ch.refl, rfl⟩
  refine Each.consS (fun fl O wk hE hN hO ck => ?_) ?_
  ·
   have ck10_0 := ck10_0.ch0 ck
   refine rl_loadA (cs := (Key.enc ((mget a0.owner a1).getD Key.z))) rfl Try.isAgg32 Try.sizeOf32 (ck10_0.segAt 0 2) rfl rfl ?_
   exact RL.nil ⟨_, rfl, Ch.refl, rfl⟩
  refine Each.consS (fun fl O wk hE hN hO ck => ?_) ?_
  ·
   have ah0_1 := ah0_1.ch0 ck
   refine Need.o1 rfl rfl rfl (fun _ h => h) ?_
   refine Need.o1 rfl rfl rfl (fun _ h => h) ?_
   refine rl_mmLookup ((mget a0.owner a1).getD Key.z) rfl rfl ah0_1 rfl kt32 Try.underlying45 Try.zeroValue49 rfl ?_
   exact RL.nil ⟨_, rfl, Ch.refl, rfl⟩
  refine Each.consS (fun fl O wk hE hN hO ck => ?_) ?_
  ·
   have k4 := k4.ch0 ck
   refine rl_loadA (cs := (Key.enc a1)) rfl Try.isAgg32 Try.sizeOf32 (k4.segAt 0 2) rfl rfl ?_
   exact RL.nil ⟨_, rfl, Ch.refl, rfl⟩
  trivial
 intro hvO169 OpO169 O169 w167 hO170 c168 hN171
 have ah0 := ah0.ch0 c168
 have ah0_1 := ah0_1.ch0 c168
 have k8 := k8.ch0 c168
 have ck10_0 := ck10_0.ch0 c168
 have h156 := h156.ch0 c168
 have c0 := c0.then0 c168
 refine Need.o1 rfl rfl rfl (fun _ h => h) ?_
 refine Need.o1 rfl rfl rfl (fun _ h => h) ?_
 refine rl_mmDelete a1 rfl rfl ah0_1 rfl kt32 Try.underlying49 ?_
 intro w174 c175 h176
 have ah0 := ah0.ch c175 ((fun b hb h => hx0_2 b hb h) _ rfl)
 have k8 := k8.ch c175 ((fun b hb h => d12 b hb h) _ rfl)
 have ck10_0 := ck10_0.ch c175 ((fun b hb h => d128 b hb h) _ rfl)
 have h156 := h156.ch c175 ((fun b hb h => hx1_2 b hb h))
 have c0 := c0.then c175 (fun i hi h => (lin2_0 i h).elim (fun x => x) (fun x => absurd x (Nat.not_le_of_lt hi)))
 refine RL.nil (thn_n (CW.seq ?_))
 refine CW.seq ?_
 refine CW.draw 5 [(none, fun fx O uu wx => uu = (PV po0)), (none, fun fx O uu wx => uu = (PV po0)), (none, fun fx O uu wx => uu = (Value.pointer (some ⟨po0, 1, none⟩))), (none, fun fx O uu wx => uu = az0_1u), (none, fun fx O uu wx => uu = (Value.agg (Key.enc ((mget a0.owner a1).getD Key.z)).toArray))] [[], [0], [1], [2], []] [3, 4] nb (fun _ h => h.elim) mixed rfl rfl rfl rfl ?_ ?_
 ·
  refine Each.consS (fun fl O wk hE hN hO ck => ?_) ?_
  ·
   refine rl_move rfl rfl ?_
   exact RL.nil ⟨_, rfl, Ch.refl, rfl⟩
  refine Each.consS (fun fl O wk hE hN hO ck => ?_) ?_
  ·
   refine Need.o1 rfl rfl rfl (fun _ h => h) ?_
   refine rl_nilCheck rfl rfl ?_
   exact RL.nil ⟨_, rfl, Ch.refl, rfl⟩
  refine Each.consS (fun fl O wk hE hN hO ck => ?_) ?_
  ·
   refine Need.o1 rfl rfl rfl (fun _ h => h) ?_
   refine rl_fieldAddr rfl fa47_1 rfl ?_
   exact RL.nil ⟨_, rfl, Ch.refl, rfl⟩
  refine Each.consS (fun fl O wk hE hN hO ck => ?_) ?_
  ·
   have ah0 := ah0.ch0 ck
   refine Need.o1 rfl rfl rfl (fun _ h => h) ?_
   refine rl_loadS (v := az0_1u) rfl Try.isAgg45 (ah0.cell rfl) rfl ?_
   exact RL.nil ⟨_, rfl, Ch.refl, rfl⟩
  refine Each.consS (fun fl O wk hE hN hO ck => ?_) ?_
  ·
   have ck10_0 := ck10_0.ch0 ck
   refine rl_loadA (cs := (Key.enc ((mget a0.owner a1).getD Key.z))) rfl Try.isAgg32 Try.sizeOf32 (ck10_0.segAt 0 2) rfl rfl ?_
   exact RL.nil ⟨_, rfl, Ch.refl, rfl⟩
  trivial
 intro hvO183 OpO183 O183 w181 hO184 c182 hN185
 have ah0 := ah0.ch0 c182
 have k8 := k8.ch0 c182
 have ck10_0 := ck10_0.ch0 c182
 have h156 := h156.ch0 c182
 have h176 := h176.ch0 c182
 have c0 := c0.then0 c182
 refine Need.o1 rfl rfl rfl (fun _ h => h) ?_
 refine Need.o1 rfl rfl rfl (fun _ h => h) ?_
 refine rl_mmLookup ((mget a0.owner a1).getD Key.z) rfl rfl h176 rfl kt32 Try.underlying45 Try.zeroValue49 rfl ?_
 refine rl_lenMapN rfl (h176.inn ((mget a0.owner a1).getD Key.z)) Try.underlying49 rfl ?_
 refine rl_bin rfl rfl B.eql rfl ?_
 refine RL.nil (thn_n ?_)
 refine CW.cond (t := decide (((((mget (mmod a0.slices ((mget a0.owner a1).getD Key.z) (fun m => mdel m a1)) ((mget a0.owner a1).getD Key.z)).getD []).length : Nat) : Int) = 0)) rfl (fun q188 => ?_) (fun q188 => ?_)
 ·
  have hS := ifT q188 hS
  refine CW.draw 5 [(none, fun fx O uu wx => uu = (PV po0)), (none, fun fx O uu wx => uu = (PV po0)), (none, fun fx O uu wx => uu = (Value.pointer (some ⟨po0, 1, none⟩))), (none, fun fx O uu wx => uu = az0_1u), (none, fun fx O uu wx => uu = (Value.agg (Key.enc ((mget a0.owner a1).getD Key.z)).toArray))] [[], [0], [1], [2], []] [3, 4] nb (fun _ h => h.elim) mixed rfl rfl rfl rfl ?_ ?_
  ·
   refine Each.consS (fun fl O wk hE hN hO ck => ?_) ?_
   ·
    refine rl_move rfl rfl ?_
    exact RL.nil ⟨_, rfl, Ch.refl, rfl⟩
   refine Each.consS (fun fl O wk hE hN hO ck => ?_) ?_
   ·
    refine Need.o1 rfl rfl rfl (fun _ h => h) ?_
    refine rl_nilCheck rfl rfl ?_
    exact RL.nil ⟨_, rfl, Ch.refl, rfl⟩
   refine Each.consS (fun fl O wk hE hN hO ck => ?_) ?_
   ·
    refine Need.o1 rfl rfl rfl (fun _ h => h) ?_
    refine rl_fieldAddr rfl fa47_1 rfl ?_
    exact RL.nil ⟨_, rfl, Ch.refl, rfl⟩
   refine Each.consS (fun fl O wk hE hN hO ck => ?_) ?_
   ·
    have ah0 := ah0.ch0 ck
    refine Need.o1 rfl rfl rfl (fun _ h => h) ?_
    refine rl_loadS (v := az0_1u) rfl Try.isAgg45 (ah0.cell rfl) rfl ?_
    exact RL.nil ⟨_, rfl, Ch.refl, rfl⟩
   refine Each.consS (fun fl O wk hE hN hO ck => ?_) ?_
   ·
    have ck10_0 := ck10_0.ch0 ck
    refine rl_loadA (cs := (Key.enc ((mget a0.owner a1).getD Key.z))) rfl Try.isAgg32 Try.sizeOf32 (ck10_0.segAt 0 2) rfl rfl ?_
    exact RL.nil ⟨_, rfl, Ch.refl, rfl⟩
   trivial
  intro hvO205 OpO205 O205 w203 hO206 c204 hN207
  have ah0 := ah0.ch0 c204
  have k8 := k8.ch0 c204
  have ck10_0 := ck10_0.ch0 c204
  have h156 := h156.ch0 c204
  have h176 := h176.ch0 c204
  have c0 := c0.then0 c204
  refine Need.o1 rfl rfl rfl (fun _ h => h) ?_
  refine Need.o1 rfl rfl rfl (fun _ h => h) ?_
  refine rl_mmDel ((mget a0.owner a1).getD Key.z) rfl rfl h176 rfl kt32 Try.underlying45 ?_
  intro z210 w211 c212 hf213 h214
  have lin215 : ∀ b, inBlk z210 b → (un (inBlk (PV po0)) (un (inBlk az0_0) (inBlk az0_1))) b ∨ w.heap.size ≤ b := fun b h => (hf213 b h).elim (fun h => lin2_0 b h) (fun h => .inr (Nat.le_trans c0.size h))
  have d217 : ∀ b, inBlk z210 b → ¬ inBlk (PV p5) b := fun b h hu => (hf213 b h).elim (fun h => (disSym d12) b h hu) (fun h => Nat.not_le_of_lt (k8.ltp b hu) h)
  have d218 : ∀ b, inBlk z210 b → ¬ inBlk (PV po0) b := fun b h hu => (hf213 b h).elim (fun h => (disSym hx0_2) b h hu) (fun h => Nat.not_le_of_lt (ah0.ltp b hu) h)
  have d219 : ∀ b, inBlk z210 b → ¬ inBlk az0_0 b := fun b h hu => (hf213 b h).elim (fun h => (disSym hx1_2) b h hu) (fun h => Nat.not_le_of_lt (h156.ltp b hu) h)
  have ah0 := ah0.ch c212 ((fun b hb h => hx0_2 b hb h) _ rfl)
  have k8 := k8.ch c212 ((fun b hb h => d12 b hb h) _ rfl)
  have ck10_0 := ck10_0.ch c212 ((fun b hb h => d128 b hb h) _ rfl)
  have h156 := h156.ch c212 ((fun b hb h => hx1_2 b hb h))
  have c0 := c0.then c212 (fun i hi h => (lin2_0 i h).elim (fun x => x) (fun x => absurd x (Nat.not_le_of_lt hi)))
  refine RL.nil (thn_n (CW.seq (CW.region ?_)))
  refine rl_loadA (cs := (Key.enc ((mget a0.owner a1).getD Key.z))) rfl Try.isAgg32 Try.sizeOf32 (ck10_0.segAt 0 2) rfl rfl ?_
  refine rl_storeA (vs := (Key.enc ((mget a0.owner a1).getD Key.z))) rfl rfl (all_one rfl) Try.sizeOf32 rfl k8 rfl ?_
  intro w221 s223 c222 k224
  have ah0 := ah0.ch c222 ((fun b hb h => (disSym d10) b hb h) _ rfl)
  have h156 := h156.ch c222 ((fun b hb h => (disSym d11) b hb h))
  have h214 := h214.ch c222 ((fun b hb h => d217 b hb h))
  have c0 := c0.then c222 (fun i hi h => absurd (lo9 i h) (Nat.not_le_of_lt hi))
  refine rl_assign rfl rfl ?_
  refine RL.nil (thn_n (CW.ret ?_))
  obtain rfl := hS
  have crf : Ch nb w221 w221 := Ch.refl
  have ah0 := ah0.ch0 crf
  have h156 := h156.ch0 crf
  have h214 := h214.ch0 crf
  have k224 := k224.ch0 crf
  have c0 := c0.then0 crf
  have crf : Ch nb w221 w221 := Ch.refl
  have ah0 := ah0.ch0 crf
  have h156 := h156.ch0 crf
  have h214 := h214.ch0 crf
  have c0 := c0.then0 crf
  exact ⟨[_, _], ⟨Res1.agg (cs := (Key.enc ((mget a0.owner a1).getD Key.z))) rfl Try.isAgg32 Try.sizeOf32 (k224.segAt 0 2) rfl, rfl, trivial⟩, ⟨az0_0, z210, az0_1u, rfl, ah0, h156, h214, lin1_0, lin215, hx0_1, (disSym d218), (disSym d219), c0⟩⟩
 have hS := ifF q188 hS
 refine CW.skip ?_
 refine thn_n (CW.seq (CW.region ?_))
 refine rl_loadA (cs := (Key.enc ((mget a0.owner a1).getD Key.z))) rfl Try.isAgg32 Try.sizeOf32 (ck10_0.segAt 0 2) rfl rfl ?_
 refine rl_storeA (vs := (Key.enc ((mget a0.owner a1).getD Key.z))) rfl rfl (all_one rfl) Try.sizeOf32 rfl k8 rfl ?_
 intro w228 s230 c229 k231
 have ah0 := ah0.ch c229 ((fun b hb h => (disSym d10) b hb h) _ rfl)
 have h156 := h156.ch c229 ((fun b hb h => (disSym d11) b hb h))
 have h176 := h176.ch c229 ((fun b hb h => (disSym d12) b hb h))
 have c0 := c0.then c229 (fun i hi h => absurd (lo9 i h) (Nat.not_le_of_lt hi))
 refine rl_assign rfl rfl ?_
 refine RL.nil (thn_n (CW.ret ?_))
 obtain rfl := hS
 have crf : Ch nb w228 w228 := Ch.refl
 have ah0 := ah0.ch0 crf
 have h156 := h156.ch0 crf
 have h176 := h176.ch0 crf
 have k231 := k231.ch0 crf
 have c0 := c0.then0 crf
 have crf : Ch nb w228 w228 := Ch.refl
 have ah0 := ah0.ch0 crf
 have h156 := h156.ch0 crf
 have h176 := h176.ch0 crf
 have c0 := c0.then0 crf
 exact ⟨[_, _], ⟨Res1.agg (cs := (Key.enc ((mget a0.owner a1).getD Key.z))) rfl Try.isAgg32 Try.sizeOf32 (k231.segAt 0 2) rfl, rfl, trivial⟩, ⟨az0_0, az0_1, az0_1u, rfl, ah0, h156, h176, lin1_0, lin2_0, hx0_1, hx0_2, hx1_2, c0⟩⟩
/-- (*lb/index.Index).Put -/
theorem ctr8 (F : Nat → Prop) (w : World) (Bb : Nat) (S2 : Nat → Prop) (hB : Bb ≤ w.heap.size) (h2 : ∀ b, S2 b → b < w.heap.size) (po0 : Nat) (az0_0 : Value) (az0_1 az0_1u : Value) (hd2 : ∀ b, (un (inBlk (PV po0)) (un (inBlk az0_0) (inBlk az0_1))) b → ¬ S2 b) (hx0_1 : ∀ b, inBlk (PV po0) b → ¬ inBlk az0_0 b) (hx0_2 : ∀ b, inBlk (PV po0) b → ¬ inBlk az0_1 b) (hx1_2 : ∀ b, inBlk az0_0 b → ¬ inBlk az0_1 b) (a0 : Index_2) (ah0 : Blk w po0 47 (Index_2.c a0 az0_0 az0_1u)) (ah0_0 : Mp (fun x => Value.agg (Key.enc x).toArray) (fun x => Value.agg (Key.enc x).toArray) w a0.owner az0_0) (ah0_1 : MM (fun x => Value.agg (Key.enc x).toArray) (fun x => Value.agg (Key.enc x).toArray) (fun x => Value.agg (St50.enc x).toArray) w a0.slices az0_1u az0_1) (a1 : Key) (a2 : Key) (r : (Key × Bool × Index_2)) (hs : F8_Put a0 a1 a2 = some r) :
    Ret Try.prog 8 #[(PV po0), (Value.agg (Key.enc a1).toArray), (Value.agg (Key.enc a2).toArray)] w fun v w' => ∃ (nz0_0 : Value) (nz0_1 : Value) (nz0_1u : Value), v = Value.tuple #[(Value.agg (Key.enc r.1).toArray), (Value.bool r.2.1)] ∧ Blk w' po0 47 (Index_2.c r.2.2 nz0_0 nz0_1u) ∧ Mp (fun x => Value.agg (Key.enc x).toArray) (fun x => Value.agg (Key.enc x).toArray) w' r.2.2.owner nz0_0 ∧ MM (fun x => Value.agg (Key.enc x).toArray) (fun x => Value.agg (Key.enc x).toArray) (fun x => Value.agg (St50.enc x).toArray) w' r.2.2.slices nz0_1u nz0_1 ∧ (∀ b, inBlk nz0_0 b → (un (inBlk (PV po0)) (un (inBlk az0_0) (inBlk az0_1))) b ∨ w.heap.size ≤ b) ∧ (∀ b, inBlk nz0_1 b → (un (inBlk (PV po0)) (un (inBlk az0_0) (inBlk az0_1))) b ∨ w.heap.size ≤ b) ∧ (∀ b, inBlk (PV po0) b → ¬ inBlk nz0_0 b) ∧ (∀ b, inBlk (PV po0) b → ¬ inBlk nz0_1 b) ∧ (∀ b, inBlk nz0_0 b → ¬ inBlk nz0_1 b) ∧ Ch (un (inBlk (PV po0)) (un (inBlk az0_0) (inBlk az0_1))) w w' := by
 have hS := hs
 have c0 : Ch (un (inBlk (PV po0)) (un (inBlk az0_0) (inBlk az0_1))) w w := Ch.refl
 have lin0_0 : ∀ b, inBlk (PV po0) b → (un (inBlk (PV po0)) (un (inBlk az0_0) (inBlk az0_1))) b ∨ w.heap.size ≤ b := fun b h => .inl (.inl h)
 have lin1_0 : ∀ b, inBlk az0_0 b → (un (inBlk (PV po0)) (un (inBlk az0_0) (inBlk az0_1))) b ∨ w.heap.size ≤ b := fun b h => .inl (.inr (.inl h))
 have lin2_0 : ∀ b, inBlk az0_1 b → (un (inBlk (PV po0)) (un (inBlk az0_0) (inBlk az0_1))) b ∨ w.heap.size ≤ b := fun b h => .inl (.inr (.inr h))
 refine Ret.of (n := 45) (args := [_, _, _]) (rs := [.cell 6 32, .tmp 7]) Try.func8 rfl rfl rfl rfl ?_
 refine CW.seq (CW.region ?_)
 refine rl_boxA (cs := (Key.enc a1)) rfl rfl ?_
 intro p1 w2 n3 k4
 have gp1 : (G F Bb (un (inBlk (PV po0)) (un (inBlk az0_0) (un (inBlk az0_1) S2)))) p1 := ⟨.inr (by rw [n3.eq]; exact (Nat.le_trans hB c0.size)), fun h => absurd ((un_lt ah0.ltp (un_lt ah0_0.ltp (un_lt ah0_1.ltp (fun b h => Nat.lt_of_lt_of_le (h2 b h) c0.size)))) _ h) (by rw [n3.eq]; exact Nat.lt_irrefl _)⟩
 have ah0 := ah0.ch0 n3.ch
 have ah0_0 := ah0_0.ch0 n3.ch
 have ah0_1 := ah0_1.ch0 n3.ch
 have c0 := c0.then0 n3.ch
 refine rl_boxA (cs := (Key.enc a2)) rfl rfl ?_
 intro p5 w6 n7 k8
 have gp5 : (G F Bb (un (inBlk (PV po0)) (un (inBlk az0_0) (un (inBlk az0_1) S2)))) p5 := ⟨.inr (by rw [n7.eq]; exact (Nat.le_trans hB c0.size)), fun h => absurd ((un_lt ah0.ltp (un_lt ah0_0.ltp (un_lt ah0_1.ltp (fun b h => Nat.lt_of_lt_of_le (h2 b h) c0.size)))) _ h) (by rw [n7.eq]; exact Nat.lt_irrefl _)⟩
 have ah0 := ah0.ch0 n7.ch
 have ah0_0 := ah0_0.ch0 n7.ch
 have ah0_1 := ah0_1.ch0 n7.ch
 have k4 := k4.ch0 n7.ch
 have c0 := c0.then0 n7.ch
 refine rl_alloc (Key.enc Key.z) Try.zeroValue32 rfl rfl ?_
 intro p9 w10 n11 k12
 have lo13 : ∀ b, inBlk (PV p9) b → w.heap.size ≤ b := fun b h => Nat.le_trans c0.size (n11.fresh b h)
 have d14 : ∀ b, inBlk (PV p9) b → ¬ inBlk (PV po0) b := disNew n11.fresh ah0.ltp
 have d15 : ∀ b, inBlk (PV p9) b → ¬ inBlk az0_0 b := disNew n11.fresh ah0_0.ltp
 have d16 : ∀ b, inBlk (PV p9) b → ¬ inBlk az0_1 b := disNew n11.fresh ah0_1.ltp
 have ah0 := ah0.ch0 n11.ch
 have ah0_0 := ah0_0.ch0 n11.ch
 have ah0_1 := ah0_1.ch0 n11.ch
 have gp1n : (G F Bb (un (inBlk (PV p9)) (un (inBlk (PV po0)) (un (inBlk az0_0) (un (inBlk az0_1) S2))))) p1 := ⟨gp1.1, ((admNew n11.fresh (fun _ x => x)) _ k4.lt gp1.2).2⟩
 have k4 := k4.ch0 n11.ch
 have gp1 := gp1n
 have gp5n : (G F Bb (un (inBlk (PV p9)) (un (inBlk (PV po0)) (un (inBlk az0_0) (un (inBlk az0_1) S2))))) p5 := ⟨gp5.1, ((admNew n11.fresh (fun _ x => x)) _ k8.lt gp5.2).2⟩
 have k8 := k8.ch0 n11.ch
 have gp5 := gp5n
 have c0 := c0.then0 n11.ch
 refine rl_assign rfl rfl ?_
 refine RL.nil (thn_n (CW.seq (CW.region ?_)))
 refine rl_move rfl rfl ?_
 refine rl_loadA (cs := (Key.enc a1)) rfl Try.isAgg32 Try.sizeOf32 (k4.segAt 0 2) rfl rfl ?_
 have hd17 : ∀ b, (un (inBlk (PV po0)) (un (inBlk az0_0) (inBlk az0_1))) b → ¬ (un (inBlk (PV p9)) S2) b := fun b h => un_el h (fun h => (fun b hb => fun h => un_el h (fun h => (disSym d14) b hb h) (linNot lin0_0 hd2 h2 b hb)) b h) (fun h => un_el h (fun h => (fun b hb => fun h => un_el h (fun h => (disSym d15) b hb h) (linNot lin1_0 hd2 h2 b hb)) b h) (fun h => (fun b hb => fun h => un_el h (fun h => (disSym d16) b hb h) (linNot lin2_0 hd2 h2 b hb)) b h))
 obtain ⟨y21, hy22⟩ : ∃ y, F10_Drop a0 a1 = y := ⟨_, rfl⟩
 have hS := ltS hy22 hS
 refine rl_callF rfl en10 rfl (ctr10 F w10 Bb (un (inBlk (PV p9)) S2) (Nat.le_trans hB c0.size) (un_lt k12.ltp (fun b h => Nat.lt_of_lt_of_le (h2 b h) c0.size)) po0 az0_0 az0_1 az0_1u hd17 hx0_1 hx0_2 hx1_2 a0 ah0 ah0_0 ah0_1 a1 y21 hy22) ?_
 rintro _ w19 ⟨z23, z24, u25, rfl, h26, h27, h28, hf29, hf30, d31, d32, d33, c20⟩
 have lin34 : ∀ b, inBlk z23 b → (un (inBlk (PV po0)) (un (inBlk az0_0) (inBlk az0_1))) b ∨ w.heap.size ≤ b := fun b h => (hf29 b h).elim (fun h => un_el h (fun h => lin0_0 b h) (fun h => un_el h (fun h => lin1_0 b h) (fun h => lin2_0 b h))) (fun h => .inr (Nat.le_trans c0.size h))
 have d35 : ∀ b, inBlk z23 b → ¬ inBlk (PV p9) b := fun b h hu => (hf29 b h).elim (fun h => un_el h (fun h => (disSym d14) b h hu) (fun h => un_el h (fun h => (disSym d15) b h hu) (fun h => (disSym d16) b h hu))) (fun h => Nat.not_le_of_lt (k12.ltp b hu) h)
 have lin36 : ∀ b, inBlk z24 b → (un (inBlk (PV po0)) (un (inBlk az0_0) (inBlk az0_1))) b ∨ w.heap.size ≤ b := fun b h => (hf30 b h).elim (fun h => un_el h (fun h => lin0_0 b h) (fun h => un_el h (fun h => lin1_0 b h) (fun h => lin2_0 b h))) (fun h => .inr (Nat.le_trans c0.size h))
 have d37 : ∀ b, inBlk z24 b → ¬ inBlk (PV p9) b := fun b h hu => (hf30 b h).elim (fun h => un_el h (fun h => (disSym d14) b h hu) (fun h => un_el h (fun h => (disSym d15) b h hu) (fun h => (disSym d16) b h hu))) (fun h => Nat.not_le_of_lt (k12.ltp b hu) h)
 have ha39 : ∀ b, b < w10.heap.size → ¬ (un (inBlk (PV p9)) (un (inBlk (PV po0)) (un (inBlk az0_0) (un (inBlk az0_1) S2)))) b → ¬ (un (inBlk (PV po0)) (un (inBlk az0_0) (inBlk az0_1))) b ∧ ¬ (un (inBlk (PV p9)) (un (inBlk (PV po0)) (un (inBlk z23) (un (inBlk z24) S2)))) b := fun b hb hs => ⟨fun h => un_el h (fun h => hs (.inr (.inl h))) (fun h => un_el h (fun h => hs (.inr (.inr (.inl h)))) (fun h => hs (.inr (.inr (.inr (.inl h)))))), fun h => un_el h (fun h => hs (.inl h)) (fun h => un_el h (fun h => hs (.inr (.inl h))) (fun h => un_el h (fun h => (hf29 b h).elim (fun h => un_el h (fun h => hs (.inr (.inl h))) (fun h => un_el h (fun h => hs (.inr (.inr (.inl h)))) (fun h => hs (.inr (.inr (.inr (.inl h))))))) (fun h => Nat.not_le_of_lt hb h)) (fun h => un_el h (fun h => (hf30 b h).elim (fun h => un_el h (fun h => hs (.inr (.inl h))) (fun h => un_el h (fun h => hs (.inr (.inr (.inl h)))) (fun h => hs (.inr (.inr (.inr (.inl h))))))) (fun h => Nat.not_le_of_lt hb h)) (fun h => hs (.inr (.inr (.inr (.inr h))))))))⟩
 have gp1n : (G F Bb (un (inBlk (PV p9)) (un (inBlk (PV po0)) (un (inBlk z23) (un (inBlk z24) S2))))) p1 := ⟨gp1.1, (ha39 _ k4.lt gp1.2).2⟩
 have k4 := k4.ch c20 (ha39 _ k4.lt gp1.2).1
 have gp1 := gp1n
 have gp5n : (G F Bb (un (inBlk (PV p9)) (un (inBlk (PV po0)) (un (inBlk z23) (un (inBlk z24) S2))))) p5 := ⟨gp5.1, (ha39 _ k8.lt gp5.2).2⟩
 have k8 := k8.ch c20 (ha39 _ k8.lt gp5.2).1
 have gp5 := gp5n
 have k12 := k12.ch c20 ((fun b hb h => un_el h (fun h => d14 b hb h) (fun h => un_el h (fun h => d15 b hb h) (fun h => d16 b hb h))) _ rfl)
 have c0 := c0.then c20 (fun i hi h => un_el h (fun h => (lin0_0 i h).elim (fun x => x) (fun x => absurd x (Nat.not_le_of_lt hi))) (fun h => un_el h (fun h => (lin1_0 i h).elim (fun x => x) (fun x => absurd x (Nat.not_le_of_lt hi))) (fun h => (lin2_0 i h).elim (fun x => x) (fun x => absurd x (Nat.not_le_of_lt hi)))))
 refine rl_move rfl rfl ?_
 refine rl_extract rfl rfl rfl ?_
 refine rl_extract rfl rfl rfl ?_
 refine rl_alloc (Key.enc Key.z) Try.zeroValue32 rfl rfl ?_
 intro p40 w41 n42 k43
 have lo44 : ∀ b, inBlk (PV p40) b → w.heap.size ≤ b := fun b h => Nat.le_trans c0.size (n42.fresh b h)
 have d45 : ∀ b, inBlk (PV p40) b → ¬ inBlk (PV p9) b := disNew n42.fresh k12.ltp
 have d46 : ∀ b, inBlk (PV p40) b → ¬ inBlk (PV po0) b := disNew n42.fresh h26.ltp
 have d47 : ∀ b, inBlk (PV p40) b → ¬ inBlk z23 b := disNew n42.fresh h27.ltp
 have d48 : ∀ b, inBlk (PV p40) b → ¬ inBlk z24 b := disNew n42.fresh h28.ltp
 have gp1n : (G F Bb (un (inBlk (PV p40)) (un (inBlk (PV p9)) (un (inBlk (PV po0)) (un (inBlk z23) (un (inBlk z24) S2)))))) p1 := ⟨gp1.1, ((admNew n42.fresh (fun _ x => x)) _ k4.lt gp1.2).2⟩
 have k4 := k4.ch0 n42.ch
 have gp1 := gp1n
 have gp5n : (G F Bb (un (inBlk (PV p40)) (un (inBlk (PV p9)) (un (inBlk (PV po0)) (un (inBlk z23) (un (inBlk z24) S2)))))) p5 := ⟨gp5.1, ((admNew n42.fresh (fun _ x => x)) _ k8.lt gp5.2).2⟩
 have k8 := k8.ch0 n42.ch
 have gp5 := gp5n
 have k12 := k12.ch0 n42.ch
 have h26 := h26.ch0 n42.ch
 have h27 := h27.ch0 n42.ch
 have h28 := h28.ch0 n42.ch
 have c0 := c0.then0 n42.ch
 refine rl_storeA (vs := (Key.enc y21.1)) rfl rfl (all_one rfl) Try.sizeOf32 rfl k43 rfl ?_
 intro w49 s51 c50 k52
 have ad53 : ∀ b, b < w41.heap.size → ¬ (un (inBlk (PV p40)) (un (inBlk (PV p9)) (un (inBlk (PV po0)) (un (inBlk z23) (un (inBlk z24) S2))))) b → ¬ (inBlk (PV p40)) b ∧ ¬ (un (inBlk (PV p40)) (un (inBlk (PV p9)) (un (inBlk (PV po0)) (un (inBlk z23) (un (inBlk z24) S2))))) b := fun b _ hs => ⟨fun h => hs (.inl h), hs⟩
 have k4 := k4.ch c50 (ad53 _ k4.lt gp1.2).1
 have k8 := k8.ch c50 (ad53 _ k8.lt gp5.2).1
 have k12 := k12.ch c50 ((fun b hb h => (disSym d45) b hb h) _ rfl)
 have h26 := h26.ch c50 ((fun b hb h => (disSym d46) b hb h) _ rfl)
 have h27 := h27.ch c50 ((fun b hb h => (disSym d47) b hb h))
 have h28 := h28.ch c50 ((fun b hb h => (disSym d48) b hb h))
 have c0 := c0.then c50 (fun i hi h => absurd (lo44 i h) (Nat.not_le_of_lt hi))
 refine rl_assign rfl rfl ?_
 refine RL.nil (thn_n (CW.seq ?_))
 refine CW.draw 6 [(none, fun fx O uu wx => uu = (PV po0)), (none, fun fx O uu wx => uu = (PV po0)), (none, fun fx O uu wx => uu = (PV po0)), (none, fun fx O uu wx => uu = z23), (none, fun fx O uu wx => uu = (Value.agg (Key.enc a1).toArray)), (none, fun fx O uu wx => uu = (Value.agg (Key.enc a2).toArray))] [[], [0], [1], [2], [], []] [3, 4, 5] nb (fun _ h => h.elim) mixed rfl rfl rfl rfl ?_ ?_
 ·
  refine Each.consS (fun fl O wk hE hN hO ck => ?_) ?_
  ·
   refine rl_move rfl rfl ?_
   exact RL.nil ⟨_, rfl, Ch.refl, rfl⟩
  refine Each.consS (fun fl O wk hE hN hO ck => ?_) ?_
  ·
   refine Need.o1 rfl rfl rfl (fun _ h => h) ?_
   refine rl_nilCheck rfl rfl ?_
   exact RL.nil ⟨_, rfl, Ch.refl, rfl⟩
  refine Each.consS (fun fl O wk hE hN hO ck => ?_) ?_
  ·
   refine Need.o1 rfl rfl rfl (fun _ h => h) ?_
   refine rl_fieldAddr rfl fa47_0 rfl ?_
   exact RL.nil ⟨_, rfl, Ch.refl, rfl⟩
  refine Each.consS (fun fl O wk hE hN hO ck => ?_) ?_
  ·
   have h26 := h26.ch0 ck
   refine Need.o1 rfl rfl rfl (fun _ h => h) ?_
   refine rl_loadS (v := z23) rfl Try.isAgg44 (h26.cell rfl) rfl ?_
   exact RL.nil ⟨_, rfl, Ch.refl, rfl⟩
  refine Each.consS (fun fl O wk hE hN hO ck => ?_) ?_
  ·
   have k4 := k4.ch0 ck
   refine rl_loadA (cs := (Key.enc a1)) rfl Try.isAgg32 Try.sizeOf32 (k4.segAt 0 2) rfl rfl ?_
   exact RL.nil ⟨_, rfl, Ch.refl, rfl⟩
  refine Each.consS (fun fl O wk hE hN hO ck => ?_) ?_
  ·
   have k8 := k8.ch0 ck
   refine rl_loadA (cs := (Key.enc a2)) rfl Try.isAgg32 Try.sizeOf32 (k8.segAt 0 2) rfl rfl ?_
   exact RL.nil ⟨_, rfl, Ch.refl, rfl⟩
  trivial
 intro hvO63 OpO63 O63 w61 hO64 c62 hN65
 have k4 := k4.ch0 c62
 have k8 := k8.ch0 c62
 have k12 := k12.ch0 c62
 have h26 := h26.ch0 c62
 have h27 := h27.ch0 c62
 have h28 := h28.ch0 c62
 have k52 := k52.ch0 c62
 have c0 := c0.then0 c62
 refine Need.o1 rfl rfl rfl (fun _ h => h) ?_
 refine Need.o1 rfl rfl rfl (fun _ h => h) ?_
 refine Need.o1 rfl rfl rfl (fun _ h => h) ?_
 refine rl_mapUpdate a1 a2 rfl rfl rfl h27 rfl rfl kt32 Try.underlying44 ?_
 intro w69 c70 h71
 have ad72 : ∀ b, b < w61.heap.size → ¬ (un (inBlk (PV p40)) (un (inBlk (PV p9)) (un (inBlk (PV po0)) (un (inBlk z23) (un (inBlk z24) S2))))) b → ¬ (inBlk z23) b ∧ ¬ (un (inBlk (PV p40)) (un (inBlk (PV p9)) (un (inBlk (PV po0)) (un (inBlk z23) (un (inBlk z24) S2))))) b := fun b _ hs => ⟨fun h => hs (.inr (.inr (.inr (.inl h)))), hs⟩
 have k4 := k4.ch c70 (ad72 _ k4.lt gp1.2).1
 have k8 := k8.ch c70 (ad72 _ k8.lt gp5.2).1
 have k12 := k12.ch c70 ((fun b hb h => (disSym d35) b hb h) _ rfl)
 have h26 := h26.ch c70 ((fun b hb h => d31 b hb h) _ rfl)
 have h28 := h28.ch c70 ((fun b hb h => (disSym d33) b hb h))
 have k52 := k52.ch c70 ((fun b hb h => d47 b hb h) _ rfl)
 have c0 := c0.then c70 (fun i hi h => (lin34 i h).elim (fun x => x) (fun x => absurd x (Nat.not_le_of_lt hi)))
 refine RL.nil (thn_n (CW.seq ?_))
 refine CW.seq ?_
 refine CW.draw 5 [(none, fun fx O uu wx => uu = (PV po0)), (none, fun fx O uu wx => uu = (PV po0)), (none, fun fx O uu wx => uu = (Value.pointer (some ⟨po0, 1, none⟩))), (none, fun fx O uu wx => uu = u25), (none, fun fx O uu wx => uu = (Value.agg (Key.enc a2).toArray))] [[], [0], [1], [2], []] [3, 4] nb (fun _ h => h.elim) mixed rfl rfl rfl rfl ?_ ?_
 ·
  refine Each.consS (fun fl O wk hE hN hO ck => ?_) ?_
  ·
   refine rl_move rfl rfl ?_
   exact RL.nil ⟨_, rfl, Ch.refl, rfl⟩
  refine Each.consS (fun fl O wk hE hN hO ck => ?_) ?_
  ·
   refine Need.o1 rfl rfl rfl (fun _ h => h) ?_
   refine rl_nilCheck rfl rfl ?_
   exact RL.nil ⟨_, rfl, Ch.refl, rfl⟩
  refine Each.consS (fun fl O wk hE hN hO ck => ?_) ?_
  ·
   refine Need.o1 rfl rfl rfl (fun _ h => h) ?_
   refine rl_fieldAddr rfl fa47_1 rfl ?_
   exact RL.nil ⟨_, rfl, Ch.refl, rfl⟩
  refine Each.consS (fun fl O wk hE hN hO ck => ?_) ?_
  ·
   have h26 := h26.ch0 ck
   refine Need.o1 rfl rfl rfl (fun _ h => h) ?_
   refine rl_loadS (v := u25) rfl Try.isAgg45 (h26.cell rfl) rfl ?_
   exact RL.nil ⟨_, rfl, Ch.refl, rfl⟩
  refine Each.consS (fun fl O wk hE hN hO ck => ?_) ?_
  ·
   have k8 := k8.ch0 ck
   refine rl_loadA (cs := (Key.enc a2)) rfl Try.isAgg32 Try.sizeOf32 (k8.segAt 0 2) rfl rfl ?_
   exact RL.nil ⟨_, rfl, Ch.refl, rfl⟩
  trivial
 intro hvO78 OpO78 O78 w76 hO79 c77 hN80
 have k4 := k4.ch0 c77
 have k8 := k8.ch0 c77
 have k12 := k12.ch0 c77
 have h26 := h26.ch0 c77
 have h28 := h28.ch0 c77
 have k52 := k52.ch0 c77
 have h71 := h71.ch0 c77
 have c0 := c0.then0 c77
 refine Need.o1 rfl rfl rfl (fun _ h => h) ?_
 refine Need.o1 rfl rfl rfl (fun _ h => h) ?_
 refine rl_mmLookup a2 rfl rfl h28 rfl kt32 Try.underlying45 Try.zeroValue49 rfl ?_
 refine rl_bin rfl rfl (h28.eqlN a2 Try.underlying49) rfl ?_
 refine RL.nil (thn_n ?_)
 refine CW.cond (t := (mget y21.2.2.slices a2).isNone) rfl (fun q83 => ?_) (fun q83 => ?_)
 ·
  have hS := ifT q83 hS
  obtain ⟨y94, hy95, hS⟩ := bindS hS
  refine CW.draw 6 [(none, fun fx O uu wx => uu = (PV po0)), (none, fun fx O uu wx => uu = (PV po0)), (none, fun fx O uu wx => uu = (Value.pointer (some ⟨po0, 1, none⟩))), (none, fun fx O uu wx => uu = u25), (none, fun fx O uu wx => uu = (Value.agg (Key.enc a2).toArray)), (some false, fun _ O uu wx => ∃ (p84 : Nat), uu = (Value.map (some p84)) ∧ O = (inBlk (Value.map (some p84))) ∧ Mp (fun x => Value.agg (Key.enc x).toArray) (fun x => Value.agg (St50.enc x).toArray) wx ([] : (List (Key × St50))) (Value.map (some p84)))] [[], [0], [1], [2], [], []] [5, 3, 4] nb (fun _ h => h.elim) mixed rfl rfl rfl rfl ?_ ?_
  ·
   refine Each.consS (fun fl O wk hE hN hO ck => ?_) ?_
   ·
    refine rl_move rfl rfl ?_
    exact RL.nil ⟨_, rfl, Ch.refl, rfl⟩
   refine Each.consS (fun fl O wk hE hN hO ck => ?_) ?_
   ·
    refine Need.o1 rfl rfl rfl (fun _ h => h) ?_
    refine rl_nilCheck rfl rfl ?_
    exact RL.nil ⟨_, rfl, Ch.refl, rfl⟩
   refine Each.consS (fun fl O wk hE hN hO ck => ?_) ?_
   ·
    refine Need.o1 rfl rfl rfl (fun _ h => h) ?_
    refine rl_fieldAddr rfl fa47_1 rfl ?_
    exact RL.nil ⟨_, rfl, Ch.refl, rfl⟩
   refine Each.consS (fun fl O wk hE hN hO ck => ?_) ?_
   ·
    have h26 := h26.ch0 ck
    refine Need.o1 rfl rfl rfl (fun _ h => h) ?_
    refine rl_loadS (v := u25) rfl Try.isAgg45 (h26.cell rfl) rfl ?_
    exact RL.nil ⟨_, rfl, Ch.refl, rfl⟩
   refine Each.consS (fun fl O wk hE hN hO ck => ?_) ?_
   ·
    have k8 := k8.ch0 ck
    refine rl_loadA (cs := (Key.enc a2)) rfl Try.isAgg32 Try.sizeOf32 (k8.segAt 0 2) rfl rfl ?_
    exact RL.nil ⟨_, rfl, Ch.refl, rfl⟩
   refine Each.consP ⟨fun _ O _ wx wy cc hh => by obtain ⟨p84, e, rfl, ck5_0⟩ := hh; exact ⟨p84, e, rfl, ck5_0.ch0 cc⟩, fun O wk hO ck => ?_⟩ ?_
   ·
    refine rl_makeMap (ek := (fun x => Value.agg (Key.enc x).toArray)) (ev := (fun x => Value.agg (St50.enc x).toArray)) rfl ?_
    intro p146 w147 n148 k149
    have hb157 : ∀ b, (inBlk (Value.map (some p146))) b → wk.heap.size ≤ b ∧ b < w147.heap.size := fun b h => ⟨n148.freshM b h, k149.ltp b h⟩
    exact RL.nil ⟨_, (inBlk (Value.map (some p146))), rfl, hb157, n148.ch, ⟨p146, rfl, rfl, k149⟩⟩
   trivial
  intro hvO160 OpO160 O160 w158 hO161 c159 hN162
  obtain ⟨hlO160, hBO160⟩ := hN162 rfl
  refine Need.made rfl rfl rfl rfl ?_
  rintro _ ⟨p84, e163, eO164, ck5_0⟩ hh165
  obtain rfl := e163.symm
  have io166 : ∀ b, inBlk (Value.map (some p84)) b → _ := fun b h => (Eq.mpr (congrFun eO164 b) h)
  have hf167 : ∀ b, inBlk (Value.map (some p84)) b → w76.heap.size ≤ b := fun b h => (hBO160.2.2.1 _ b (io166 b h)).1
  obtain rfl := hist_eq [(Value.map (some p84))] hvO160 hlO160 ⟨hh165, trivial⟩
  have lo168 : ∀ b, inBlk (Value.map (some p84)) b → w.heap.size ≤ b := fun b h => Nat.le_trans c0.size (hf167 b h)
  have d169 : ∀ b, inBlk (Value.map (some p84)) b → ¬ inBlk (PV p40) b := disNew hf167 k52.ltp
  have d170 : ∀ b, inBlk (Value.map (some p84)) b → ¬ inBlk (PV p9) b := disNew hf167 k12.ltp
  have d171 : ∀ b, inBlk (Value.map (some p84)) b → ¬ inBlk (PV po0) b := disNew hf167 h26.ltp
  have d172 : ∀ b, inBlk (Value.map (some p84)) b → ¬ inBlk z23 b := disNew hf167 h71.ltp
  have d173 : ∀ b, inBlk (Value.map (some p84)) b → ¬ inBlk z24 b := disNew hf167 h28.ltp
  have ad174 : ∀ b, b < w76.heap.size → ¬ (un (inBlk (PV p40)) (un (inBlk (PV p9)) (un (inBlk (PV po0)) (un (inBlk z23) (un (inBlk z24) S2))))) b → ¬ nb b ∧ ¬ (un (inBlk (Value.map (some p84))) (un (inBlk (PV p40)) (un (inBlk (PV p9)) (un (inBlk (PV po0)) (un (inBlk z23) (un (inBlk z24) S2)))))) b := fun b hb hs => ⟨fun x => x, fun h => un_el h (fun h => Nat.not_le_of_lt hb (hf167 b h)) (fun h => hs h)⟩
  have gp1n : (G F Bb (un (inBlk (Value.map (some p84))) (un (inBlk (PV p40)) (un (inBlk (PV p9)) (un (inBlk (PV po0)) (un (inBlk z23) (un (inBlk z24) S2))))))) p1 := ⟨gp1.1, (ad174 _ k4.lt gp1.2).2⟩
  have k4 := k4.ch0 hBO160.2.1
  have gp1 := gp1n
  have gp5n : (G F Bb (un (inBlk (Value.map (some p84))) (un (inBlk (PV p40)) (un (inBlk (PV p9)) (un (inBlk (PV po0)) (un (inBlk z23) (un (inBlk z24) S2))))))) p5 := ⟨gp5.1, (ad174 _ k8.lt gp5.2).2⟩
  have k8 := k8.ch0 hBO160.2.1
  have gp5 := gp5n
  have k12 := k12.ch0 hBO160.2.1
  have h26 := h26.ch0 hBO160.2.1
  have h28 := h28.ch0 hBO160.2.1
  have k52 := k52.ch0 hBO160.2.1
  have h71 := h71.ch0 hBO160.2.1
  have c0 := c0.then0 hBO160.2.1
  refine Need.o1 rfl rfl rfl (fun _ h => h) ?_
  refine Need.o1 rfl rfl rfl (fun _ h => h) ?_
  refine rl_mmNew a2 rfl rfl rfl h28 ck5_0 d173 (mmnew_get hy95).1 rfl kt32 Try.underlying45 ?_
  intro z177 w178 c179 hf180 h181
  rw [(mmnew_get hy95).2] at h181
  have lin182 : ∀ b, inBlk z177 b → (un (inBlk (PV po0)) (un (inBlk az0_0) (inBlk az0_1))) b ∨ w.heap.size ≤ b := fun b h => (hf180 b h).elim (fun h => un_el h (fun h => lin36 b h) (fun h => .inr (lo168 b h))) (fun h => .inr (Nat.le_trans c0.size h))
  have d183 : ∀ b, inBlk z177 b → ¬ inBlk (PV p40) b := fun b h hu => (hf180 b h).elim (fun h => un_el h (fun h => (disSym d48) b h hu) (fun h => d169 b h hu)) (fun h => Nat.not_le_of_lt (k52.ltp b hu) h)
  have d184 : ∀ b, inBlk z177 b → ¬ inBlk (PV p9) b := fun b h hu => (hf180 b h).elim (fun h => un_el h (fun h => d37 b h hu) (fun h => d170 b h hu)) (fun h => Nat.not_le_of_lt (k12.ltp b hu) h)
  have d185 : ∀ b, inBlk z177 b → ¬ inBlk (PV po0) b := fun b h hu => (hf180 b h).elim (fun h => un_el h (fun h => (disSym d32) b h hu) (fun h => d171 b h hu)) (fun h => Nat.not_le_of_lt (h26.ltp b hu) h)
  have d186 : ∀ b, inBlk z177 b → ¬ inBlk z23 b := fun b h hu => (hf180 b h).elim (fun h => un_el h (fun h => (disSym d33) b h hu) (fun h => d172 b h hu)) (fun h => Nat.not_le_of_lt (h71.ltp b hu) h)
  have ha187 : ∀ b, b < w158.heap.size → ¬ (un (inBlk (Value.map (some p84))) (un (inBlk (PV p40)) (un (inBlk (PV p9)) (un (inBlk (PV po0)) (un (inBlk z23) (un (inBlk z24) S2)))))) b → ¬ inBlk z24 b ∧ ¬ (un (inBlk (PV p40)) (un (inBlk (PV p9)) (un (inBlk (PV po0)) (un (inBlk z23) (un (inBlk z177) S2))))) b := fun b hb hs => ⟨fun h => hs (.inr (.inr (.inr (.inr (.inr (.inl h)))))), fun h => un_el h (fun h => hs (.inr (.inl h))) (fun h => un_el h (fun h => hs (.inr (.inr (.inl h)))) (fun h => un_el h (fun h => hs (.inr (.inr (.inr (.inl h))))) (fun h => un_el h (fun h => hs (.inr (.inr (.inr (.inr (.inl h)))))) (fun h => un_el h (fun h => (hf180 b h).elim (fun h => un_el h (fun h => hs (.inr (.inr (.inr (.inr (.inr (.inl h))))))) (fun h => hs (.inl h))) (fun h => Nat.not_le_of_lt hb h)) (fun h => hs (.inr (.inr (.inr (.inr (.inr (.inr h)))))))))))⟩
  have k4 := k4.ch c179 (ha187 _ k4.lt gp1.2).1
  have k8 := k8.ch c179 (ha187 _ k8.lt gp5.2).1
  have k12 := k12.ch c179 ((fun b hb h => (disSym d37) b hb h) _ rfl)
  have h26 := h26.ch c179 ((fun b hb h => d32 b hb h) _ rfl)
  have k52 := k52.ch c179 ((fun b hb h => d48 b hb h) _ rfl)
  have h71 := h71.ch c179 ((fun b hb h => d33 b hb h))
  have c0 := c0.then c179 (fun i hi h => (lin36 i h).elim (fun x => x) (fun x => absurd x (Nat.not_le_of_lt hi)))
  refine RL.nil (thn_n (CW.seq ?_))
  obtain ⟨y188, hy189, hS⟩ := bindS hS
  refine CW.draw 8 [(none, fun fx O uu wx => uu = (PV po0)), (none, fun fx O uu wx => uu = (PV po0)), (none, fun fx O uu wx => uu = (Value.pointer (some ⟨po0, 1, none⟩))), (none, fun fx O uu wx => uu = u25), (none, fun fx O uu wx => uu = (Value.agg (Key.enc a2).toArray)), (none, fun fx O uu wx => uu = (innv y94 z177 a2)), (none, fun fx O uu wx => uu = (Value.agg (Key.enc a1).toArray)), (none, fun fx O uu wx => uu = (Value.agg (St50.enc ({  } : St50)).toArray))] [[], [0], [1], [2], [], [3, 4], [], []] [5, 6, 7] nb (fun _ h => h.elim) mixed rfl rfl rfl rfl ?_ ?_
  ·
   refine Each.consS (fun fl O wk hE hN hO ck => ?_) ?_
   ·
    refine rl_move rfl rfl ?_
    exact RL.nil ⟨_, rfl, Ch.refl, rfl⟩
   refine Each.consS (fun fl O wk hE hN hO ck => ?_) ?_
   ·
    refine Need.o1 rfl rfl rfl (fun _ h => h) ?_
    refine rl_nilCheck rfl rfl ?_
    exact RL.nil ⟨_, rfl, Ch.refl, rfl⟩
   refine Each.consS (fun fl O wk hE hN hO ck => ?_) ?_
   ·
    refine Need.o1 rfl rfl rfl (fun _ h => h) ?_
    refine rl_fieldAddr rfl fa47_1 rfl ?_
    exact RL.nil ⟨_, rfl, Ch.refl, rfl⟩
   refine Each.consS (fun fl O wk hE hN hO ck => ?_) ?_
   ·
    have h26 := h26.ch0 ck
    refine Need.o1 rfl rfl rfl (fun _ h => h) ?_
    refine rl_loadS (v := u25) rfl Try.isAgg45 (h26.cell rfl) rfl ?_
    exact RL.nil ⟨_, rfl, Ch.refl, rfl⟩
   refine Each.consS (fun fl O wk hE hN hO ck => ?_) ?_
   ·
    have k8 := k8.ch0 ck
    refine rl_loadA (cs := (Key.enc a2)) rfl Try.isAgg32 Try.sizeOf32 (k8.segAt 0 2) rfl rfl ?_
    exact RL.nil ⟨_, rfl, Ch.refl, rfl⟩
   refine Each.consS (fun fl O wk hE hN hO ck => ?_) ?_
   ·
    have h181 := h181.ch0 ck
    refine Need.o1 rfl rfl rfl (fun _ h => h) ?_
    refine Need.o1 rfl rfl rfl (fun _ h => h) ?_
    refine rl_mmLookup a2 rfl rfl h181 rfl kt32 Try.underlying45 Try.zeroValue49 rfl ?_
    exact RL.nil ⟨_, rfl, Ch.refl, rfl⟩
   refine Each.consS (fun fl O wk hE hN hO ck => ?_) ?_
   ·
    have k4 := k4.ch0 ck
    refine rl_loadA (cs := (Key.enc a1)) rfl Try.isAgg32 Try.sizeOf32 (k4.segAt 0 2) rfl rfl ?_
    exact RL.nil ⟨_, rfl, Ch.refl, rfl⟩
   refine Each.consS (fun fl O wk hE hN hO ck => ?_) ?_
   ·
    refine rl_build (out := (St50.enc ({  } : St50))) rfl pl50 Try.zeroValue50 rfl rfl rfl ?_
    exact RL.nil ⟨_, rfl, Ch.refl, rfl⟩
   trivial
  intro hvO201 OpO201 O201 w199 hO202 c200 hN203
  have k12 := k12.ch0 c200
  have h26 := h26.ch0 c200
  have k52 := k52.ch0 c200
  have h71 := h71.ch0 c200
  have h181 := h181.ch0 c200
  have c0 := c0.then0 c200
  refine Need.o1 rfl rfl rfl (fun _ h => h) ?_
  refine Need.o1 rfl rfl rfl (fun _ h => h) ?_
  refine Need.o1 rfl rfl rfl (fun _ h => h) ?_
  refine rl_mmPut a1 ({  } : St50) rfl rfl rfl h181 hy189 rfl rfl kt32 Try.underlying49 ?_
  intro w207 c208 h209
  have k12 := k12.ch c208 ((fun b hb h => (disSym d184) b hb h) _ rfl)
  have h26 := h26.ch c208 ((fun b hb h => (disSym d185) b hb h) _ rfl)
  have k52 := k52.ch c208 ((fun b hb h => (disSym d183) b hb h) _ rfl)
  have h71 := h71.ch c208 ((fun b hb h => (disSym d186) b hb h))
  have c0 := c0.then c208 (fun i hi h => (lin182 i h).elim (fun x => x) (fun x => absurd x (Nat.not_le_of_lt hi)))
  refine RL.nil (thn_n (CW.seq (CW.region ?_)))
  refine rl_loadA (cs := (Key.enc y21.1)) rfl Try.isAgg32 Try.sizeOf32 (k52.segAt 0 2) rfl rfl ?_
  refine rl_move rfl rfl ?_
  refine rl_storeA (vs := (Key.enc y21.1)) rfl rfl (all_one rfl) Try.sizeOf32 rfl k12 rfl ?_
  intro w211 s213 c212 k214
  have h26 := h26.ch c212 ((fun b hb h => (disSym d14) b hb h) _ rfl)
  have h71 := h71.ch c212 ((fun b hb h => d35 b hb h))
  have h209 := h209.ch c212 ((fun b hb h => d184 b hb h))
  have c0 := c0.then c212 (fun i hi h => absurd (lo13 i h) (Nat.not_le_of_lt hi))
  refine rl_assign rfl rfl ?_
  refine RL.nil (thn_n (CW.ret ?_))
  obtain rfl := Option.some.inj hS
  have crf : Ch nb w211 w211 := Ch.refl
  have h26 := h26.ch0 crf
  have h71 := h71.ch0 crf
  have h209 := h209.ch0 crf
  have k214 := k214.ch0 crf
  have c0 := c0.then0 crf
  have crf : Ch nb w211 w211 := Ch.refl
  have h26 := h26.ch0 crf
  have h71 := h71.ch0 crf
  have h209 := h209.ch0 crf
  have c0 := c0.then0 crf
  exact ⟨[_, _], ⟨Res1.agg (cs := (Key.enc y21.1)) rfl Try.isAgg32 Try.sizeOf32 (k214.segAt 0 2) rfl, rfl, trivial⟩, ⟨z23, z177, u25, rfl, h26, h71, h209, lin34, lin182, d31, (disSym d185), (disSym d186), c0⟩⟩
 have hS := ifF q83 hS
 refine CW.skip ?_
 refine thn_n (CW.seq ?_)
 obtain ⟨y218, hy219, hS⟩ := bindS hS
 refine CW.draw 8 [(none, fun fx O uu wx => uu = (PV po0)), (none, fun fx O uu wx => uu = (PV po0)), (none, fun fx O uu wx => uu = (Value.pointer (some ⟨po0, 1, none⟩))), (none, fun fx O uu wx => uu = u25), (none, fun fx O uu wx => uu = (Value.agg (Key.enc a2).toArray)), (none, fun fx O uu wx => uu = (innv y21.2.2.slices z24 a2)), (none, fun fx O uu wx => uu = (Value.agg (Key.enc a1).toArray)), (none, fun fx O uu wx => uu = (Value.agg (St50.enc ({  } : St50)).toArray))] [[], [0], [1], [2], [], [3, 4], [], []] [5, 6, 7] nb (fun _ h => h.elim) mixed rfl rfl rfl rfl ?_ ?_
 ·
  refine Each.consS (fun fl O wk hE hN hO ck => ?_) ?_
  ·
   refine rl_move rfl rfl ?_
   exact RL.nil ⟨_, rfl, Ch.refl, rfl⟩
  refine Each.consS (fun fl O wk hE hN hO ck => ?_) ?_
  ·
   refine Need.o1 rfl rfl rfl (fun _ h => h) ?_
   refine rl_nilCheck rfl rfl ?_
   exact RL.nil ⟨_, rfl, Ch.refl, rfl⟩
  refine Each.consS (fun fl O wk hE hN hO ck => ?_) ?_
  ·
   refine Need.o1 rfl rfl rfl (fun _ h => h) ?_
   refine rl_fieldAddr rfl fa47_1 rfl ?_
   exact RL.nil ⟨_, rfl, Ch.refl, rfl⟩
  refine Each.consS (fun fl O wk hE hN hO ck => ?_) ?_
  ·
   have h26 := h26.ch0 ck
   refine Need.o1 rfl rfl rfl (fun _ h => h) ?_
   refine rl_loadS (v := u25) rfl Try.isAgg45 (h26.cell rfl) rfl ?_
   exact RL.nil ⟨_, rfl, Ch.refl, rfl⟩
  refine Each.consS (fun fl O wk hE hN hO ck => ?_) ?_
  ·
   have k8 := k8.ch0 ck
   refine rl_loadA (cs := (Key.enc a2)) rfl Try.isAgg32 Try.sizeOf32 (k8.segAt 0 2) rfl rfl ?_
   exact RL.nil ⟨_, rfl, Ch.refl, rfl⟩
  refine Each.consS (fun fl O wk hE hN hO ck => ?_) ?_
  ·
   have h28 := h28.ch0 ck
   refine Need.o1 rfl rfl rfl (fun _ h => h) ?_
   refine Need.o1 rfl rfl rfl (fun _ h => h) ?_
   refine rl_mmLookup a2 rfl rfl h28 rfl kt32 Try.underlying45 Try.zeroValue49 rfl ?_
   exact RL.nil ⟨_, rfl, Ch.refl, rfl⟩
  refine Each.consS (fun fl O wk hE hN hO ck => ?_) ?_
  ·
   have k4 := k4.ch0 ck
   refine rl_loadA (cs := (Key.enc a1)) rfl Try.isAgg32 Try.sizeOf32 (k4.segAt 0 2) rfl rfl ?_
   exact RL.nil ⟨_, rfl, Ch.refl, rfl⟩
  refine Each.consS (fun fl O wk hE hN hO ck => ?_) ?_
  ·
   refine rl_build (out := (St50.enc ({  } : St50))) rfl pl50 Try.zeroValue50 rfl rfl rfl ?_
   exact RL.nil ⟨_, rfl, Ch.refl, rfl⟩
  trivial
 intro hvO231 OpO231 O231 w229 hO232 c230 hN233
 have k12 := k12.ch0 c230
 have h26 := h26.ch0 c230
 have h28 := h28.ch0 c230
 have k52 := k52.ch0 c230
 have h71 := h71.ch0 c230
 have c0 := c0.then0 c230
 refine Need.o1 rfl rfl rfl (fun _ h => h) ?_
 refine Need.o1 rfl rfl rfl (fun _ h => h) ?_
 refine Need.o1 rfl rfl rfl (fun _ h => h) ?_
 refine rl_mmPut a1 ({  } : St50) rfl rfl rfl h28 hy219 rfl rfl kt32 Try.underlying49 ?_
 intro w237 c238 h239
 have k12 := k12.ch c238 ((fun b hb h => (disSym d37) b hb h) _ rfl)
 have h26 := h26.ch c238 ((fun b hb h => d32 b hb h) _ rfl)
 have k52 := k52.ch c238 ((fun b hb h => d48 b hb h) _ rfl)
 have h71 := h71.ch c238 ((fun b hb h => d33 b hb h))
 have c0 := c0.then c238 (fun i hi h => (lin36 i h).elim (fun x => x) (fun x => absurd x (Nat.not_le_of_lt hi)))
 refine RL.nil (thn_n (CW.seq (CW.region ?_)))
 refine rl_loadA (cs := (Key.enc y21.1)) rfl Try.isAgg32 Try.sizeOf32 (k52.segAt 0 2) rfl rfl ?_
 refine rl_move rfl rfl ?_
 refine rl_storeA (vs := (Key.enc y21.1)) rfl rfl (all_one rfl) Try.sizeOf32 rfl k12 rfl ?_
 intro w241 s243 c242 k244
 have h26 := h26.ch c242 ((fun b hb h => (disSym d14) b hb h) _ rfl)
 have h71 := h71.ch c242 ((fun b hb h => d35 b hb h))
 have h239 := h239.ch c242 ((fun b hb h => d37 b hb h))
 have c0 := c0.then c242 (fun i hi h => absurd (lo13 i h) (Nat.not_le_of_lt hi))
 refine rl_assign rfl rfl ?_
 refine RL.nil (thn_n (CW.ret ?_))
 obtain rfl := Option.some.inj hS
 have crf : Ch nb w241 w241 := Ch.refl
 have h26 := h26.ch0 crf
 have h71 := h71.ch0 crf
 have h239 := h239.ch0 crf
 have k244 := k244.ch0 crf
 have c0 := c0.then0 crf
 have crf : Ch nb w241 w241 := Ch.refl
 have h26 := h26.ch0 crf
 have h71 := h71.ch0 crf
 have h239 := h239.ch0 crf
 have c0 := c0.then0 crf
 exact ⟨[_, _], ⟨Res1.agg (cs := (Key.enc y21.1)) rfl Try.isAgg32 Try.sizeOf32 (k244.segAt 0 2) rfl, rfl, trivial⟩, ⟨z23, z24, u25, rfl, h26, h71, h239, lin34, lin36, d31, d32, d33, c0⟩⟩
/-- maps.Keys[lb/index.set,lb/api.Key,struct{}]$1 -/
theorem it33 {w : World} {m : List (Key × St50)} {v : Value} {b : Nat} (hb : Blk w b 49 [v]) (hm : MpN (fun x => Value.agg (Key.enc x).toArray) (fun x => Value.agg (St50.enc x).toArray) w m v) : Seq Try.prog (fun x => Value.agg (Key.enc x).toArray) w (m.map (·.1)) (.func (.func 33) #[] [PV b].toArray) := by
  refine ⟨33, [PV b], rfl, en33, fun W c0 l J hJ hY h0 => ?_⟩
  have hb1 := hb.ch0 c0
  have hm1 := hm.ch0 c0
  refine Ret.of (n := 14) (args := [_, _]) (rs := []) Try.func33 rfl rfl rfl rfl ?_
  refine CW.seq (CW.region ?_)
  refine rl_loadS (v := v) rfl Try.isAgg49 (hb1.cell rfl) rfl ?_
  refine rl_range rfl hm1 Try.underlying49 rfl ?_
  intro r W1 hn hw
  refine RL.nil (thn_n ?_)
  refine CW.block ?_
  refine CW.loopS [(0, .func (.yield l) #[] #[]), (5, PV r)] ⟨rfl, rfl, trivial⟩ m.length (fun k E' W' => ∃ (todo : List (Key × St50)) (ys : List Key), todo.length = k ∧ E' = [(0, .func (.yield l) #[] #[]), (5, PV r)] ∧ (ys ++ todo.map (·.1)).Perm (m.map (·.1)) ∧ J ys W' ∧ Walk (fun x => Value.agg (Key.enc x).toArray) (fun x => Value.agg (St50.enc x).toArray) W' m todo v r ∧ W.heap.size ≤ r)
    ⟨m, [], rfl, rfl, .refl _, hJ _ _ _ h0 (hn.ch.mono fun _ _ h => h.elim), hw, by rw [hn.eq]; exact Nat.le_refl _⟩ ?_
  rintro k _ W2 ⟨todo, ys, rfl, rfl, hp, hj, hw, hr⟩
  refine CW.seq (CW.region ?_)
  refine rl_next rfl hw rfl ?_ ?_
  · rintro rfl
    refine rl_extract rfl rfl rfl ?_
    refine RL.nil (thn_n ?_)
    refine CW.seq ?_
    refine CW.no rfl ?_
    refine CW.exit (thn_exit (thn_exit (inB_hit ?_)))
    exact ⟨[], trivial, ys, by simpa using hp, hj⟩
  · intro k x todo' W3 hpt c3 hw3 hen
    have hj3 := hJ _ _ _ hj (c3.mono fun i _ h => ⟨by have e : r = i := h; omega, by have e : r = i := h; subst e; exact hw.iter⟩)
    have hlen : ys.length < (m.map (·.1)).length := by have h1 := hp.length_eq; have h2 := hpt.length_eq; simp only [List.length_append, List.length_map, List.length_cons] at h1 h2 ⊢; omega
    refine rl_extract rfl rfl rfl ?_
    refine RL.nil (thn_n ?_)
    refine CW.seq ?_
    refine CW.yes rfl ?_
    refine CW.skip (thn_n ?_)
    refine CW.block ?_
    refine CW.seq (CW.region ?_)
    refine rl_entry rfl hen rfl ?_
    refine rl_extract rfl rfl rfl ?_
    refine rl_alloc [.string ⟨#[]⟩, .string ⟨#[]⟩] Try.zeroValue32 rfl rfl ?_
    intro p W4 hn4 hk4
    refine rl_storeA (vs := Key.enc k) rfl rfl (all_one rfl) Try.sizeOf32 rfl hk4 rfl ?_
    intro W5 hs5 c5 hk5
    have c45 : Ch nb W3 W5 := hn4.ch.then c5 fun i hi h => by have e : p = i := h; have := hn4.eq; omega
    have hw5 := hw3.ch0 c45
    have hj5 := hJ _ _ _ hj3 (c45.mono fun _ _ h => h.elim)
    refine RL.nil (thn_n ?_)
    refine CW.seq (CW.regionI ?_)
    refine RLI.preK 2 rfl ?_
    refine rl_move rfl rfl ?_
    refine rl_loadA (cs := Key.enc k) rfl Try.isAgg32 Try.sizeOf32 (hk5.segAt 0 2) rfl rfl ?_
    refine RL.nil ?_
    refine RLI.yield rfl rfl rfl (hY ys k _ hj5 hlen) ?_
    rintro e W6 ⟨rfl, hj6, hk6⟩
    refine ⟨_, rfl, ?_⟩
    have hw6 := hw5.keep fun b o hb ho => hk6.same b o hb ho
    refine RLI.preK 1 rfl ?_
    refine rl_not rfl rfl ?_
    refine RL.nil ?_
    refine RLI.nil fun a ha => ⟨_, ha, thn_n ?_⟩
    refine CW.no rfl ?_
    refine CW.skip (inB_n (thn_n ?_))
    exact ⟨todo'.length, by have := hpt.length_eq; simp only [List.length_cons] at this; omega, [(0, .func (.yield l) #[] #[]), (5, PV r)], ⟨rfl, rfl, trivial⟩, todo', ys ++ [k], rfl, rfl, by
      rw [List.append_assoc]; exact (((hpt.map (·.1)).symm.append_left ys).trans hp), hj6, hw6, hr⟩
/-- maps.Keys[lb/index.set,lb/api.Key,struct{}] -/
theorem ctr25 {w : World} {m : List (Key × St50)} {v : Value} (hm : MpN (fun x => Value.agg (Key.enc x).toArray) (fun x => Value.agg (St50.enc x).toArray) w m v) : Ret Try.prog 25 #[v] w fun u w' => Seq Try.prog (fun x => Value.agg (Key.enc x).toArray) w' (m.map (·.1)) u ∧ Ch nb w w' := by
  refine Ret.of (n := 4) (args := [_]) (rs := [.tmp 2]) Try.func25 rfl rfl rfl rfl ?_
  refine CW.seq (CW.region ?_)
  refine rl_box [v] rfl (by rw [hm.one.1]) rfl ?_
  intro b w1 hn hk
  refine rl_assign rfl rfl ?_
  refine RL.nil (thn_n ?_)
  refine CW.seq (CW.region ?_)
  refine rl_makeFunc rfl rfl ?_
  refine rl_assign rfl rfl ?_
  refine RL.nil (thn_n ?_)
  refine CW.ret ?_
  exact ret1 rfl ⟨it33 hk (hm.ch0 hn.ch), hn.ch⟩
/-- slices.AppendSeq[[]lb/api.Key,lb/api.Key] -/
theorem ctr30 {F : Nat → Prop} {w : World} {xs : List Key} {v : Value} (hs : Seq Try.prog (fun x => Value.agg (Key.enc x).toArray) w xs v) (hlen : xs.length < 4294967296) :
    Ret Try.prog 30 #[.slice none 0 0, v] w fun u w' => ∃ ys, ys.Perm xs ∧ SlO k_Key 32 F w.heap.size (inBlk u) w' ys u ∧ Ch nb w w' := by
  refine Ret.ofM (n := 13) (args := [_, _]) Try.func30 rfl rfl rfl ?_
  refine CM.region ?_
  refine rl_box [.slice none 0 0] rfl rfl rfl ?_
  intro b w1 hn hk
  refine rl_assign rfl rfl ?_
  refine RL.nil ?_
  refine CM.seq (CM.region ?_)
  refine rl_move rfl rfl ?_
  refine RL.nil ?_
  refine CM.ranges (B := b) rfl (hs.ch0 hn.ch) rfl (Coll 2 Key.enc (fun _ => rfl) (fun _ => rfl) 32 40 F w w1 b) (fun s A C h hz c => h.nc hn.ch.size c) ⟨_, hk, SlO.nil, fun h => h, hn.ch, Nat.le_refl _⟩ (fun s A ⟨_, _, _, _, _, h⟩ => h) rfl rfl rfl Try.isAgg40 rfl rfl rfl ?_ ?_
  · rintro W ys hp ⟨u, hb, hs, hne, hc, hz⟩
    exact ⟨u, hb.cell rfl, fun W' c => ⟨ys, hp, hs.pureCh c hs.notNC, hc.then c fun i hi h => by have := h.1; have := hn.ch.size; omega⟩⟩
  · rintro pre x A ⟨u, hb, hs, hne, hc, hz⟩ hlt
    have h01 := hn.ch.size
    have hbs := hn.eq
    refine rl_alloc [.string ⟨#[]⟩, .string ⟨#[]⟩] Try.zeroValue32 rfl rfl ?_
    intro p A1 hn1 hk1
    refine rl_storeA (vs := Key.enc x) rfl rfl (all_one rfl) Try.sizeOf32 rfl hk1 rfl ?_
    intro A2 hs2 c2 hk2
    have cA : Ch nb A A2 := hn1.ch.then c2 fun i hi h => by have e : p = i := h; have := hn1.eq; omega
    refine RL.nil ⟨(Kc.ch0 hn1.ch).trans (Kc.blk c2 hk1), fun A3 c3 => ?_⟩
    have hb3 := (hb.ch0 cA).nc c3
    have hs2' := hs.ch0 cA
    have hs3 := hs2'.pureCh c3 hs2'.notNC
    have hk3 := hk2.nc c3
    have hz3 : w1.heap.size ≤ A3.heap.size := Nat.le_trans hz (Nat.le_trans cA.size c3.size)
    have hc3 : Ch nb w A3 := (hc.then0 cA).then c3 fun i hi h => by have := h.1; omega
    refine rl_loadS (v := u) rfl Try.isAgg40 (hb3.cell rfl) rfl ?_
    refine rl_loadA (cs := Key.enc x) rfl Try.isAgg32 Try.sizeOf32 (hk3.segAt 0 2) rfl rfl ?_
    refine rl_bslice (k := k_Key) (F := F) (B := w.heap.size) (S := inBlk u) ([x] : List Key) rfl k_Key_pos Try.underlying40 Try.sizeOf32 Try.zeroValue32 rfl rfl ⟨rfl, rfl, trivial⟩ hc3.size (fun b h => (hs3.lt b h).2) rfl ?_
    intro q A4 c4 hf4 h4
    have hs4 : SlO k_Key 32 F w.heap.size (inBlk u) A4 pre u := hs3.ch0 c4
    have hy4 : slRep k_Key (G F w.heap.size (inBlk u)) A4 [x] q := h4.readNew k_Key_pos hf4 (fun b h => (hs3.lt b h).2)
    refine rl_append (k := k_Key) (T := 32) (F := F) (B := w.heap.size) (S := inBlk u) (S2 := nb) (fun v => inBlk v) rfl rfl k_Key_pos ap40 hs4 hy4 (fun b => ⟨.inl, fun h => h.elim id fun h => h.elim⟩) (fun v b => ⟨.inl, fun h => h.elim id fun h => h.elim⟩) (by simp only [List.length_cons, List.length_nil]; omega) (Nat.le_trans hc3.size c4.size) (fun b h => (hs4.lt b h).2) rfl ?_
    intro u' A5 h5 c5 hf5 _
    have hb4 := hb3.ch0 c4
    have hb5 := hb4.ch c5 hne
    have hne5 : ¬ inBlk u' b := fun h => (hf5 b h).elim hne fun h => by have := hb4.lt; omega
    have h4l : ∀ i, i < w.heap.size → ¬ inBlk u i := fun i hi h => by have := (hs4.lt i h).1; omega
    refine rl_storeS (u := u') rfl rfl h5.one Try.sizeOf40 hb5 rfl ?_
    intro A6 hs6 c6 hk6
    refine RL.nil ⟨((Kc.ch0 c4).trans (Kc.slo c5 hs4)).trans (Kc.blk c6 hb5), u', hk6, h5.pureCh c6 (fun i hi h => hne5 (by have e : b = i := h; subst e; exact hi)), hne5, ?_, ?_⟩
    · exact ((hc3.then0 c4).then c5 fun i hi h => h4l i hi h).then c6 fun i hi h => by have e : b = i := h; omega
    · exact Nat.le_trans hz3 (Nat.le_trans c4.size (Nat.le_trans c5.size c6.size))
/-- slices.Collect[lb/api.Key] -/
theorem ctr22 {F : Nat → Prop} {w : World} {xs : List Key} {v : Value} (hs : Seq Try.prog (fun x => Value.agg (Key.enc x).toArray) w xs v) (hlen : xs.length < 4294967296) :
    Ret Try.prog 22 #[v] w fun u w' => ∃ ys, ys.Perm xs ∧ SlO k_Key 32 F w.heap.size (inBlk u) w' ys u ∧ Ch nb w w' := by
  refine Ret.of (n := 5) (args := [_]) (rs := [.tmp 2]) Try.func22 rfl rfl rfl rfl ?_
  refine CW.seq (CW.region ?_)
  refine rl_assign rfl rfl ?_
  refine RL.nil (thn_n ?_)
  refine CW.seq (CW.region ?_)
  refine rl_move rfl rfl ?_
  refine rl_callF rfl en30 rfl (ctr30 (F := F) hs hlen) ?_
  rintro u w1 ⟨ys, hp, h, c⟩
  refine rl_assign rfl rfl ?_
  refine RL.nil (thn_n ?_)
  refine CW.ret ?_
  exact ret1 rfl ⟨ys, hp, h, c⟩
/-- slices.Clone[[]lb/api.Key,lb/api.Key] -/
theorem ctr26 (F : Nat → Prop) (w : World) (a0 : (List Key)) (av0 : Value) (ah0 : slRep k_Key F w a0 av0) (r : (List Key)) (hs : F26_Key a0 = some r) :
    Ret Try.prog 26 #[av0] w fun v w' => ∃ (y0 : Value), v = y0 ∧ SlO k_Key 32 F w.heap.size (inBlk y0) w' r y0 ∧ Ch nb w w' := by
 have hS := hs
 have c0 : Ch nb w w := Ch.refl
 have ah0 := slRep.enter k_Key_pos ah0
 refine Ret.of (n := 8) (args := [_]) (rs := [.tmp 2]) Try.func26 rfl rfl rfl rfl ?_
 refine CW.seq (CW.region ?_)
 refine rl_assign rfl rfl ?_
 refine RL.nil (thn_n (CW.seq ?_))
 refine CW.seq (CW.region ?_)
 refine rl_move rfl rfl ?_
 refine rl_slNil rfl ah0 Try.underlying40 rfl ?_
 intro b1 n2
 refine RL.nil (thn_n ?_)
 refine CW.cond (t := b1) rfl (fun q3 => ?_) (fun q3 => ?_)
 ·
  obtain ⟨rfl, rfl⟩ := n2 q3
  refine CW.seq (CW.region ?_)
  refine rl_assign rfl rfl ?_
  refine RL.nil (thn_n (CW.ret ?_))
  refine thn_ret ?_
  obtain rfl := Option.some.inj hS
  exact ret1 rfl ⟨(Value.slice none 0 0), rfl, SlO.nil, c0⟩
 refine CW.skip ?_
 refine thn_n (CW.seq (CW.region ?_))
 refine rl_bslice (k := k_Key) (F := F) (B := w.heap.size) (S := nb) ([] : List Key) rfl k_Key_pos Try.underlying40 Try.sizeOf32 Try.zeroValue32 rfl rfl trivial c0.size nbS rfl ?_
 intro v4 w5 c6 hf7 h8
 have ah0 := slRep.st k_Key_pos ah0 c6 (admNew hf7 (fun _ x => x))
 have c0 := c0.then0 c6
 refine rl_move rfl rfl ?_
 obtain ⟨z17, hz18, hS⟩ := bindS hS
 have hl := (apO_get hz18).1
 refine rl_append (k := k_Key) (T := 32) (F := F) (B := w.heap.size) (S := (un (inBlk v4) nb)) (S2 := nb) (fun v => (un (inBlk v) nb)) rfl rfl k_Key_pos ap40 h8 ah0 (fun _ => Iff.rfl) (fun _ _ => Iff.rfl) hl c0.size (un_lt (fun b hb => (h8.lt b hb).2) nbS) rfl ?_
 intro v11 w12 h13 c14 hf15 ha16
 have c0 := c0.then c14 (fun i hi h => absurd ((fun b hb => (h8.lt b hb).1) i h) (Nat.not_le_of_lt hi))
 refine rl_assign rfl rfl ?_
 refine RL.nil (thn_n (CW.ret ?_))
 obtain rfl := Option.some.inj hS
 exact ret1 rfl ⟨v11, rfl, h13.out, c0⟩
/-- slices.SortFunc[[]lb/api.Key,lb/api.Key] -/
theorem ctr27 (F : Nat → Prop) (w : World) (Bb : Nat) (S2 : Nat → Prop) (hB : Bb ≤ w.heap.size) (h2 : ∀ b, S2 b → b < w.heap.size) (av0 : Value) (hd2 : ∀ b, (inBlk av0) b → ¬ S2 b) (a0 : (List Key)) (ah0 : SlO k_Key 32 F Bb (un (inBlk av0) S2) w a0 av0) (a1 : (Key → Key → Int)) (av1 : Value) (ah1 : (Kd.fn2 Try.prog true true k_Key k_Key (Value.int .i64)).rep (G F Bb (un (inBlk av0) S2)) w a1 [av1]) (r : (List Key)) (hs : F27_slices_SortFunc a0 a1 = some r) :
    Ret Try.prog 27 #[av0, av1] w fun v w' => v = Value.tuple #[] ∧ SlO k_Key 32 F Bb (un (inBlk av0) S2) w' r av0 ∧ Ch (inBlk av0) w w' :=
  sortF_ret (n := 2) (enc := Key.enc) (fun _ => rfl) (fun _ => rfl) lays27 (by decide) Try.isAgg32 Try.sizeOf32 ah0 ah1 (fun b hb h => hb.2 (.inl h)) hs
/-- cmp.isNaN[string] -/
theorem ctr48 (F : Nat → Prop) (w : World) (a0 : ByteArray) (r : Bool) (hs : F48_string a0 = r) :
    Ret Try.prog 48 #[(Value.string a0)] w fun v w' => v = (Value.bool r) ∧ Ch nb w w' := by
 have hS := hs
 have c0 : Ch nb w w := Ch.refl
 refine Ret.of (n := 6) (args := [_]) (rs := [.tmp 2]) Try.func48 rfl rfl rfl rfl ?_
 refine CW.seq (CW.region ?_)
 refine rl_assign rfl rfl ?_
 refine RL.nil (thn_n (CW.seq (CW.region ?_)))
 refine rl_move rfl rfl ?_
 refine rl_move rfl rfl ?_
 refine rl_bin rfl rfl B.neqS rfl ?_
 refine rl_assign rfl rfl ?_
 refine RL.nil (thn_n (CW.ret ?_))
 obtain rfl := hS
 exact ret1 rfl ⟨rfl, c0⟩
/-- cmp.Compare[string] -/
theorem ctr37 (F : Nat → Prop) (w : World) (a0 : ByteArray) (a1 : ByteArray) (r : Int) (hs : F37_string a0 a1 = r) :
    Ret Try.prog 37 #[(Value.string a0), (Value.string a1)] w fun v w' => v = (Value.int .i64 r) ∧ Ch nb w w' := by
 have hS := hs
 have c0 : Ch nb w w := Ch.refl
 refine Ret.of (n := 20) (args := [_, _]) (rs := [.tmp 4]) Try.func37 rfl rfl rfl rfl ?_
 refine CW.seq (CW.region ?_)
 refine rl_assign rfl rfl ?_
 refine RL.nil (thn_n (CW.seq (CW.region ?_)))
 refine rl_move rfl rfl ?_
 obtain ⟨y3, hy4⟩ : ∃ y, F48_string a0 = y := ⟨_, rfl⟩
 have hS := ltS hy4 hS
 refine rl_callF rfl en48 rfl (ctr48 (G F w.heap.size nb) w a0 y3 hy4) ?_
 rintro _ w1 ⟨rfl, c2⟩
 have c0 := c0.then0 c2
 refine rl_assign rfl rfl ?_
 refine RL.nil (thn_n (CW.seq (CW.region ?_)))
 refine rl_move rfl rfl ?_
 obtain ⟨y7, hy8⟩ : ∃ y, F48_string a1 = y := ⟨_, rfl⟩
 have hS := ltS hy8 hS
 refine rl_callF rfl en48 rfl (ctr48 (G F w.heap.size nb) w1 a1 y7 hy8) ?_
 rintro _ w5 ⟨rfl, c6⟩
 have c0 := c0.then0 c6
 refine rl_assign rfl rfl ?_
 refine RL.nil (thn_n (CW.seq ?_))
 refine CW.seq (CW.region ?_)
 refine rl_move rfl rfl ?_
 refine RL.nil (thn_n ?_)
 refine CW.cond (t := y3) rfl (fun q9 => ?_) (fun q9 => ?_)
 ·
  have hS := ifT q9 hS
  refine CW.seq ?_
  refine CW.seq (CW.region ?_)
  refine rl_move rfl rfl ?_
  refine RL.nil (thn_n ?_)
  refine CW.cond (t := y7) rfl (fun q10 => ?_) (fun q10 => ?_)
  ·
   have hS := ifT q10 hS
   refine CW.seq (CW.region ?_)
   refine rl_assign rfl rfl ?_
   refine RL.nil (thn_n (CW.ret ?_))
   refine thn_ret ?_
   refine thn_ret ?_
   obtain rfl := hS
   exact ret1 rfl ⟨rfl, c0⟩
  have hS := ifF q10 hS
  refine CW.skip ?_
  refine thn_n (CW.seq (CW.region ?_))
  refine rl_assign rfl rfl ?_
  refine RL.nil (thn_n (CW.ret ?_))
  refine thn_ret ?_
  obtain rfl := hS
  exact ret1 rfl ⟨rfl, c0⟩
 have hS := ifF q9 hS
 refine CW.skip ?_
 refine thn_n (CW.seq ?_)
 refine CW.seq (CW.region ?_)
 refine rl_move rfl rfl ?_
 refine RL.nil (thn_n ?_)
 refine CW.cond (t := y7) rfl (fun q11 => ?_) (fun q11 => ?_)
 ·
  have hS := ifT q11 hS
  refine CW.seq (CW.region ?_)
  refine rl_assign rfl rfl ?_
  refine RL.nil (thn_n (CW.ret ?_))
  refine thn_ret ?_
  obtain rfl := hS
  exact ret1 rfl ⟨rfl, c0⟩
 have hS := ifF q11 hS
 refine CW.skip ?_
 refine thn_n (CW.seq ?_)
 refine CW.seq (CW.region ?_)
 refine rl_move rfl rfl ?_
 refine rl_move rfl rfl ?_
 refine rl_bin rfl rfl B.lssS rfl ?_
 refine RL.nil (thn_n ?_)
 refine CW.cond (t := Op.bytesLess a0.toList a1.toList) rfl (fun q12 => ?_) (fun q12 => ?_)
 ·
  have hS := ifT q12 hS
  refine CW.seq (CW.region ?_)
  refine rl_assign rfl rfl ?_
  refine RL.nil (thn_n (CW.ret ?_))
  refine thn_ret ?_
  obtain rfl := hS
  exact ret1 rfl ⟨rfl, c0⟩
 have hS := ifF q12 hS
 refine CW.skip ?_
 refine thn_n (CW.seq ?_)
 refine CW.seq (CW.region ?_)
 refine rl_move rfl rfl ?_
 refine rl_move rfl rfl ?_
 refine rl_bin rfl rfl B.gtrS rfl ?_
 refine RL.nil (thn_n ?_)
 refine CW.cond (t := !(Op.bytesLess a0.toList a1.toList || decide (a0 = a1))) rfl (fun q13 => ?_) (fun q13 => ?_)
 ·
  have hS := ifT q13 hS
  refine CW.seq (CW.region ?_)
  refine rl_assign rfl rfl ?_
  refine RL.nil (thn_n (CW.ret ?_))
  refine thn_ret ?_
  obtain rfl := hS
  exact ret1 rfl ⟨rfl, c0⟩
 have hS := ifF q13 hS
 refine CW.skip ?_
 refine thn_n (CW.seq (CW.region ?_))
 refine rl_assign rfl rfl ?_
 refine RL.nil (thn_n (CW.ret ?_))
 obtain rfl := hS
 exact ret1 rfl ⟨rfl, c0⟩
/-- cmp.Or[int] -/
theorem ctr36 (F : Nat → Prop) (w : World) (a0 : (List Int)) (av0 : Value) (ah0 : slRep (kInt .i64) F w a0 av0) (r : Int) (hs : F36_int a0 = r) :
    Ret Try.prog 36 #[av0] w fun v w' => v = (Value.int .i64 r) ∧ Ch nb w w' := by
 have hS := hs
 have c0 : Ch nb w w := Ch.refl
 have ah0 := slRep.enter kInt_pos ah0
 refine Ret.of (n := 18) (args := [_]) (rs := [.tmp 2]) Try.func36 rfl rfl rfl rfl ?_
 refine CW.seq (CW.region ?_)
 refine rl_assign rfl rfl ?_
 refine RL.nil (thn_n (CW.seq (CW.region ?_)))
 refine rl_assign rfl rfl ?_
 refine RL.nil (thn_n (CW.seq ?_))
 refine CW.seq (CW.region ?_)
 refine rl_move rfl rfl ?_
 refine rl_lenR rfl ah0 Try.underlying79 rfl ?_
 refine rl_move rfl rfl ?_
 refine RL.nil (thn_n ?_)
 obtain ⟨o8, ho9⟩ : ∃ o, runB F36_int_b1 a0 () = o := ⟨_, rfl⟩
 have hS := ltS ho9 hS
 refine CW.cutB (fun E' w' => ∃ (_ : Unit), Sub [(3, (Value.int .i64 0))] E' ∧ Ch nb w w' ∧ Lp.fin () = o8 ∧ slRep (kInt .i64) (G F w.heap.size nb) w' a0 av0) ?_ ?_
 ·
  refine CW.loopS [(3, (Value.int .i64 0)), (6, av0), (7, (Value.int .i64 ((a0.length : Nat) : Int))), (8, (Value.int .i64 ((0 : Nat) : Int)))] ⟨rfl, rfl, rfl, rfl, trivial⟩ a0.length (fun m E w' => ∃ (rest1 : List Int) (i2 : Nat) , m = rest1.length ∧ E = [(3, (Value.int .i64 0)), (6, av0), (7, (Value.int .i64 ((a0.length : Nat) : Int))), (8, (Value.int .i64 ((i2 : Nat) : Int)))] ∧ Ch nb w w' ∧ At a0 i2 rest1 ∧ runB F36_int_b1 rest1 () = o8 ∧ slRep (kInt .i64) (G F w.heap.size nb) w' a0 av0)
      ⟨a0, 0, rfl, rfl, c0, At.start, ho9, ah0⟩ ?_
  rintro _ _ w14 ⟨rest1, i2, rfl, rfl, c13, hat4, hL3, ah0⟩
  refine CW.seq (CW.region ?_)
  refine rl_bin rfl rfl B.lss rfl ?_
  refine RL.nil (thn_n ?_)
  refine CW.seq ?_
  refine CW.cond (t := decide (((i2 : Nat) : Int) < ((a0.length : Nat) : Int))) rfl (fun q16 => ?_) (fun q16 => ?_)
  ·
   obtain ⟨x10, rest17, rfl⟩ := hat4.cons q16
   obtain ⟨q5, hq6⟩ : ∃ q, F36_int_b1 x10 () = q := ⟨_, rfl⟩
   have hb7 := hq6
   refine CW.skip (thn_n ?_)
   refine CW.seq ?_
   refine CW.block ?_
   refine CW.seq (CW.region ?_)
   refine rl_ixR rfl ah0 rfl hat4.get Try.underlying79 Try.sizeOf3 rfl ?_
   intro p18 o19 cs20 hr21 hs22 hg23
   obtain rfl := hr21
   refine rl_loadS (v := (Value.int .i64 x10)) rfl Try.isAgg3 (hs22 0 _ rfl) rfl ?_
   refine rl_assign rfl rfl ?_
   refine RL.nil (thn_n (CW.seq (CW.region ?_)))
   refine rl_move rfl rfl ?_
   refine rl_move rfl rfl ?_
   refine rl_bin rfl rfl B.neq rfl ?_
   refine RL.nil (thn_n ?_)
   refine CW.cond (t := !decide (x10 = 0)) rfl (fun q24 => ?_) (fun q24 => ?_)
   ·
    have hb7 := ifT q24 hb7
    refine CW.seq (CW.region ?_)
    refine rl_move rfl rfl ?_
    refine rl_assign rfl rfl ?_
    refine RL.nil (thn_n (CW.ret ?_))
    refine inB_ret ?_
    refine thn_ret ?_
    refine thn_ret (inB_ret (thn_ret ?_))
    refine thn_ret ?_
    have f25 := runB_ret hL3 (hb7.trans hq6.symm)
    have hS := retS f25 hS
    obtain rfl := hS
    exact ret1 rfl ⟨rfl, c13⟩
   have hb7 := ifF q24 hb7
   refine CW.skip ?_
   refine inB_n ?_
   refine thn_n (CW.region ?_)
   refine rl_inc rfl hat4.lt ah0.big rfl ?_
   refine rl_move rfl rfl ?_
   refine RL.nil (thn_n ?_)
   have hLn := runB_next hL3 (hb7.trans hq6.symm)
   exact ⟨rest17.length, Nat.lt_succ_self _, [(3, (Value.int .i64 0)), (6, av0), (7, (Value.int .i64 ((a0.length : Nat) : Int))), (8, (Value.int .i64 ((i2 + 1 : Nat) : Int)))], ⟨rfl, rfl, rfl, rfl, trivial⟩, ⟨rest17, i2 + 1, rfl, rfl, c13, hat4.next, hLn, ah0⟩⟩
  obtain rfl := hat4.nil q16
  have hLf : Lp.fin () = o8 := hL3
  refine CW.exit (thn_exit (thn_exit (inB_hit ?_)))
  exact ⟨(), ⟨rfl, trivial⟩, c13, hLf, ah0⟩
 rintro _ w27 ⟨_, hE28, c26, f29, ah0⟩
 have hS := finS f29 hS
 refine thn_n (CW.sub [(3, (Value.int .i64 0))] hE28 ?_)
 refine CW.seq (CW.region ?_)
 refine rl_move rfl rfl ?_
 refine rl_assign rfl rfl ?_
 refine RL.nil (thn_n (CW.ret ?_))
 obtain rfl := hS
 exact ret1 rfl ⟨rfl, c26⟩
/-- lb/names.Compare -/
theorem ctr28 (F : Nat → Prop) (w : World) (a0 : Key) (a1 : Key) (r : Int) (hs : F28_Compare a0 a1 = r) :
    Ret Try.prog 28 #[(Value.agg (Key.enc a0).toArray), (Value.agg (Key.enc a1).toArray)] w fun v w' => v = (Value.int .i64 r) ∧ Ch nb w w' := by
 have hS := hs
 have c0 : Ch nb w w := Ch.refl
 refine Ret.of (n := 17) (args := [_, _]) (rs := [.tmp 4]) Try.func28 rfl rfl rfl rfl ?_
 refine CW.seq (CW.region ?_)
 refine rl_boxA (cs := (Key.enc a0)) rfl rfl ?_
 intro p1 w2 n3 k4
 have c0 := c0.then0 n3.ch
 refine rl_boxA (cs := (Key.enc a1)) rfl rfl ?_
 intro p5 w6 n7 k8
 have k4 := k4.ch0 n7.ch
 have c0 := c0.then0 n7.ch
 refine rl_assign rfl rfl ?_
 refine RL.nil (thn_n (CW.seq ?_))
 obtain ⟨y11, hy12⟩ : ∃ y, F37_string a0.space a1.space = y := ⟨_, rfl⟩
 have hS := ltS hy12 hS
 obtain ⟨y15, hy16⟩ : ∃ y, F37_string a0.name a1.name = y := ⟨_, rfl⟩
 have hS := ltS hy16 hS
 obtain ⟨y24, hy25⟩ : ∃ y, F36_int [y11, y15] = y := ⟨_, rfl⟩
 have hS := ltS hy25 hS
 refine CW.draw 9 [(none, fun fx O uu wx => uu = (PV p1)), (none, fun fx O uu wx => uu = (Value.string a0.space)), (none, fun fx O uu wx => uu = (PV p5)), (none, fun fx O uu wx => uu = (Value.string a1.space)), (none, fun fx O uu wx => uu = (Value.int .i64 y11)), (none, fun fx O uu wx => uu = (Value.pointer (some ⟨p1, 1, none⟩))), (none, fun fx O uu wx => uu = (Value.string a0.name)), (none, fun fx O uu wx => uu = (Value.pointer (some ⟨p5, 1, none⟩))), (none, fun fx O uu wx => uu = (Value.string a1.name))] [[], [0], [], [2], [1, 3], [], [5], [], [7]] [4, 6, 8] nb (fun _ h => h.elim) mixed rfl rfl rfl rfl ?_ ?_
 ·
  refine Each.consS (fun fl O wk hE hN hO ck => ?_) ?_
  ·
   refine rl_fieldAddr rfl fa32_0 rfl ?_
   exact RL.nil ⟨_, rfl, Ch.refl, rfl⟩
  refine Each.consS (fun fl O wk hE hN hO ck => ?_) ?_
  ·
   have k4 := k4.ch0 ck
   refine Need.o1 rfl rfl rfl (fun _ h => h) ?_
   refine rl_loadS (v := (Value.string a0.space)) rfl Try.isAgg9 (k4.cell rfl) rfl ?_
   exact RL.nil ⟨_, rfl, Ch.refl, rfl⟩
  refine Each.consS (fun fl O wk hE hN hO ck => ?_) ?_
  ·
   refine rl_fieldAddr rfl fa32_0 rfl ?_
   exact RL.nil ⟨_, rfl, Ch.refl, rfl⟩
  refine Each.consS (fun fl O wk hE hN hO ck => ?_) ?_
  ·
   have k8 := k8.ch0 ck
   refine Need.o1 rfl rfl rfl (fun _ h => h) ?_
   refine rl_loadS (v := (Value.string a1.space)) rfl Try.isAgg9 (k8.cell rfl) rfl ?_
   exact RL.nil ⟨_, rfl, Ch.refl, rfl⟩
  refine Each.consS (fun fl O wk hE hN hO ck => ?_) ?_
  ·
   refine Need.o1 rfl rfl rfl (fun _ h => h) ?_
   refine Need.o1 rfl rfl rfl (fun _ h => h) ?_
   refine rl_callF rfl en37 rfl (ctr37 (G F w.heap.size nb) wk a0.space a1.space y11 hy12) ?_
   rintro _ w30 ⟨rfl, c31⟩
   exact RL.nil ⟨_, rfl, c31, rfl⟩
  refine Each.consS (fun fl O wk hE hN hO ck => ?_) ?_
  ·
   refine rl_fieldAddr rfl fa32_1 rfl ?_
   exact RL.nil ⟨_, rfl, Ch.refl, rfl⟩
  refine Each.consS (fun fl O wk hE hN hO ck => ?_) ?_
  ·
   have k4 := k4.ch0 ck
   refine Need.o1 rfl rfl rfl (fun _ h => h) ?_
   refine rl_loadS (v := (Value.string a0.name)) rfl Try.isAgg9 (k4.cell rfl) rfl ?_
   exact RL.nil ⟨_, rfl, Ch.refl, rfl⟩
  refine Each.consS (fun fl O wk hE hN hO ck => ?_) ?_
  ·
   refine rl_fieldAddr rfl fa32_1 rfl ?_
   exact RL.nil ⟨_, rfl, Ch.refl, rfl⟩
  refine Each.consS (fun fl O wk hE hN hO ck => ?_) ?_
  ·
   have k8 := k8.ch0 ck
   refine Need.o1 rfl rfl rfl (fun _ h => h) ?_
   refine rl_loadS (v := (Value.string a1.name)) rfl Try.isAgg9 (k8.cell rfl) rfl ?_
   exact RL.nil ⟨_, rfl, Ch.refl, rfl⟩
  trivial
 intro hvO36 OpO36 O36 w34 hO37 c35 hN38
 have c0 := c0.then0 c35
 refine Need.o1 rfl rfl rfl (fun _ h => h) ?_
 refine Need.o1 rfl rfl rfl (fun _ h => h) ?_
 refine Need.o1 rfl rfl rfl (fun _ h => h) ?_
 refine rl_callF rfl en37 rfl (ctr37 (G F w.heap.size nb) w34 a0.name a1.name y15 hy16) ?_
 rintro _ w42 ⟨rfl, c43⟩
 have c0 := c0.then0 c43
 refine rl_bslice (k := (kInt .i64)) (F := F) (B := w.heap.size) (S := nb) ([y11, y15] : List Int) rfl kInt_pos Try.underlying79 Try.sizeOf3 Try.zeroValue3 rfl rfl ⟨rfl, rfl, ⟨rfl, rfl, trivial⟩⟩ c0.size nbS rfl ?_
 intro v44 w45 c46 hf47 h48
 have h48 := h48.readNew kInt_pos hf47 nbS
 have c0 := c0.then0 c46
 refine rl_callF rfl en36 rfl (ctr36 (G F w.heap.size nb) w45 [y11, y15] v44 h48 y24 hy25) ?_
 rintro _ w49 ⟨rfl, c50⟩
 have c0 := c0.then0 c50
 refine rl_assign rfl rfl ?_
 refine RL.nil (thn_n (CW.ret ?_))
 obtain rfl := hS
 exact ret1 rfl ⟨rfl, c0⟩
/-- slices.Compact[[]lb/api.Key,lb/api.Key] -/
theorem ctr29 (F : Nat → Prop) (w : World) (Bb : Nat) (S2 : Nat → Prop) (hB : Bb ≤ w.heap.size) (h2 : ∀ b, S2 b → b < w.heap.size) (av0 : Value) (hd2 : ∀ b, (inBlk av0) b → ¬ S2 b) (a0 : (List Key)) (ah0 : SlO k_Key 32 F Bb (un (inBlk av0) S2) w a0 av0) (r : (List Key)) (hs : F29_Key a0 = some r) :
    Ret Try.prog 29 #[av0] w fun v w' => ∃ (y0 : Value), v = y0 ∧ SlO k_Key 32 F Bb (un (inBlk y0) S2) w' r y0 ∧ (∀ b, inBlk y0 b → inBlk av0 b ∨ w.heap.size ≤ b) ∧ Ch (inBlk av0) w w' := by
 have hS := hs
 have c0 : Ch (inBlk av0) w w := Ch.refl
 have lin0_0 : ∀ b, inBlk av0 b → (inBlk av0) b ∨ w.heap.size ≤ b := fun b h => .inl h
 refine Ret.of (n := 61) (args := [_]) (rs := [.tmp 2]) Try.func29 rfl rfl rfl rfl ?_
 refine CW.seq (CW.region ?_)
 refine rl_assign rfl rfl ?_
 refine RL.nil (thn_n (CW.seq ?_))
 refine CW.seq (CW.region ?_)
 refine rl_move rfl rfl ?_
 refine rl_lenR rfl (SlO.read (S' := S2) k_Key_pos ah0 (fun b hs h => hs ((.inr h))) (fun b hb => linNot lin0_0 hd2 h2 b hb)) Try.underlying40 rfl ?_
 refine rl_bin rfl rfl B.lss rfl ?_
 refine RL.nil (thn_n ?_)
 refine CW.cond (t := decide (((a0.length : Nat) : Int) < 2)) rfl (fun q1 => ?_) (fun q1 => ?_)
 ·
  have hS := ifT q1 hS
  refine CW.seq (CW.region ?_)
  refine rl_move rfl rfl ?_
  refine rl_assign rfl rfl ?_
  refine RL.nil (thn_n (CW.ret ?_))
  refine thn_ret ?_
  obtain rfl := Option.some.inj hS
  exact ret1 rfl ⟨av0, rfl, ah0, lin0_0, c0⟩
 have hS := ifF q1 hS
 refine CW.skip ?_
 refine thn_n (CW.seq ?_)
 refine CW.seq (CW.region ?_)
 refine rl_assign rfl rfl ?_
 refine RL.nil (thn_n ?_)
 obtain ⟨o12, ho13, hS⟩ := bindS hS
 refine CW.cutB (fun E' w' => ∃ (x2 : Int) (x3 : (List Key)), Sub [(0, av0)] E' ∧ Ch (inBlk av0) w w' ∧ Lp.fin (x2, x3) = o12 ∧ SlO k_Key 32 F Bb (un (inBlk av0) S2) w' x3 av0) ?_ ?_
 ·
  refine CW.loopS [(0, av0), (3, (Value.int .i64 1))] ⟨rfl, rfl, trivial⟩ FUEL (fun m E w' => ∃ (x2 : Int) (x3 : (List Key)), E = [(0, av0), (3, (Value.int .i64 x2))] ∧ Ch (inBlk av0) w w' ∧ runW F29_Key_b1 m (x2, x3) = some o12 ∧ SlO k_Key 32 F Bb (un (inBlk av0) S2) w' x3 av0)
      ⟨1, a0, rfl, c0, ho13, ah0⟩ ?_
  rintro _ _ w18 ⟨x2, x3, rfl, c17, hL7, h4⟩
  obtain ⟨k16, q9, rfl, hq10⟩ := runW_some hL7
  have hb11 := hq10
  refine CW.seq ?_
  refine CW.seq (CW.region ?_)
  refine rl_move rfl rfl ?_
  refine rl_move rfl rfl ?_
  refine rl_lenR rfl (SlO.read (S' := S2) k_Key_pos h4 (fun b hs h => hs ((.inr h))) (fun b hb => linNot lin0_0 hd2 h2 b hb)) Try.underlying40 rfl ?_
  refine rl_bin rfl rfl B.lss rfl ?_
  refine RL.nil (thn_n ?_)
  refine CW.cond (t := decide (x2 < ((x3.length : Nat) : Int))) rfl (fun q20 => ?_) (fun q20 => ?_)
  ·
   have hb11 := ifT q20 hb11
   refine CW.skip ?_
   refine thn_n (CW.seq ?_)
   refine CW.block ?_
   refine CW.seq ?_
   obtain ⟨y27, hy28, hb11⟩ := bindS hb11
   obtain ⟨y35, hy36, hb11⟩ := bindS hb11
   refine CW.draw 9 [(none, fun fx O uu wx => uu = av0), (none, fun fx O uu wx => uu = (Value.int .i64 x2)), (none, fun fx O uu wx => ∃ (p21 : Nat) (o22 : Nat), uu = (Value.pointer (some ⟨p21, o22, none⟩)) ∧ Seg wx p21 o22 (Key.enc y27)), (none, fun fx O uu wx => uu = (Value.agg (Key.enc y27).toArray)), (none, fun fx O uu wx => uu = av0), (none, fun fx O uu wx => uu = (Value.int .i64 x2)), (none, fun fx O uu wx => uu = (Value.int .i64 (IntKind.i64.wrap (x2 - 1)))), (none, fun fx O uu wx => ∃ (p29 : Nat) (o30 : Nat), uu = (Value.pointer (some ⟨p29, o30, none⟩)) ∧ Seg wx p29 o30 (Key.enc y35)), (none, fun fx O uu wx => uu = (Value.agg (Key.enc y35).toArray))] [[], [], [0, 1], [2], [], [], [5], [4, 6], [7]] [3, 8] nb (fun _ h => h.elim) mixed rfl rfl rfl rfl ?_ ?_
   ·
    refine Each.consS (fun fl O wk hE hN hO ck => ?_) ?_
    ·
     refine rl_move rfl rfl ?_
     exact RL.nil ⟨_, rfl, Ch.refl, rfl⟩
    refine Each.consS (fun fl O wk hE hN hO ck => ?_) ?_
    ·
     refine rl_move rfl rfl ?_
     exact RL.nil ⟨_, rfl, Ch.refl, rfl⟩
    refine Each.consA ⟨fun _ _ _ _ _ cc hh => by obtain ⟨p21, o22, e, hs25⟩ := hh; exact ⟨p21, o22, e, hs25.ch0 cc⟩, fun h => absurd rfl h, fun fl O wk hE hN hO ck => ?_⟩ ?_
    ·
     have h4 := h4.ch0 ck
     refine Need.o1 rfl rfl rfl (fun _ h => h) ?_
     refine Need.o1 rfl rfl rfl (fun _ h => h) ?_
     refine rl_ixOR rfl h4 rfl (ixO_get hy28) k_Key_pos Try.underlying40 Try.sizeOf32 rfl ?_
     intro p39 o40 cs41 hr42 hs43 hg44
     obtain rfl := hr42
     exact RL.nil ⟨_, rfl, Ch.refl, ⟨p39, o40, rfl, hs43⟩⟩
    refine Each.consS (fun fl O wk hE hN hO ck => ?_) ?_
    ·
     refine Need.one rfl rfl rfl ?_
     rintro _ ⟨p21, o22, e45, hs25⟩
     obtain rfl := e45.symm
     refine rl_loadA (cs := (Key.enc y27)) rfl Try.isAgg32 Try.sizeOf32 (hs25) rfl rfl ?_
     exact RL.nil ⟨_, rfl, Ch.refl, rfl⟩
    refine Each.consS (fun fl O wk hE hN hO ck => ?_) ?_
    ·
     refine rl_move rfl rfl ?_
     exact RL.nil ⟨_, rfl, Ch.refl, rfl⟩
    refine Each.consS (fun fl O wk hE hN hO ck => ?_) ?_
    ·
     refine rl_move rfl rfl ?_
     exact RL.nil ⟨_, rfl, Ch.refl, rfl⟩
    refine Each.consS (fun fl O wk hE hN hO ck => ?_) ?_
    ·
     refine Need.o1 rfl rfl rfl (fun _ h => h) ?_
     refine rl_bin rfl rfl B.sub rfl ?_
     exact RL.nil ⟨_, rfl, Ch.refl, rfl⟩
    refine Each.consA ⟨fun _ _ _ _ _ cc hh => by obtain ⟨p29, o30, e, hs33⟩ := hh; exact ⟨p29, o30, e, hs33.ch0 cc⟩, fun h => absurd rfl h, fun fl O wk hE hN hO ck => ?_⟩ ?_
    ·
     have h4 := h4.ch0 ck
     refine Need.o1 rfl rfl rfl (fun _ h => h) ?_
     refine Need.o1 rfl rfl rfl (fun _ h => h) ?_
     refine rl_ixOR rfl h4 rfl (ixO_get hy36) k_Key_pos Try.underlying40 Try.sizeOf32 rfl ?_
     intro p49 o50 cs51 hr52 hs53 hg54
     obtain rfl := hr52
     exact RL.nil ⟨_, rfl, Ch.refl, ⟨p49, o50, rfl, hs53⟩⟩
    refine Each.consS (fun fl O wk hE hN hO ck => ?_) ?_
    ·
     refine Need.one rfl rfl rfl ?_
     rintro _ ⟨p29, o30, e55, hs33⟩
     obtain rfl := e55.symm
     refine rl_loadA (cs := (Key.enc y35)) rfl Try.isAgg32 Try.sizeOf32 (hs33) rfl rfl ?_
     exact RL.nil ⟨_, rfl, Ch.refl, rfl⟩
    trivial
   intro hvO58 OpO58 O58 w56 hO59 c57 hN60
   have h4 := h4.ch0 c57
   have c17 := c17.then0 c57
   refine Need.o1 rfl rfl rfl (fun _ h => h) ?_
   refine Need.o1 rfl rfl rfl (fun _ h => h) ?_
   refine rl_bin rfl rfl (eql32 y27 y35) rfl ?_
   refine RL.nil (thn_n ?_)
   refine CW.cond (t := decide (y27 = y35)) rfl (fun q63 => ?_) (fun q63 => ?_)
   ·
    have hb11 := ifT q63 hb11
    refine CW.seq (CW.region ?_)
    refine rl_move rfl rfl ?_
    refine rl_move rfl rfl ?_
    obtain ⟨y64, hy65, hb11⟩ := bindS hb11
    refine rl_cutS rfl h4 rfl hy65 Try.underlying40 Try.sizeOf32 rfl ?_
    intro v66 h67
    refine rl_assign rfl rfl ?_
    refine RL.nil (thn_n (CW.seq ?_))
    refine CW.seq (CW.region ?_)
    refine rl_assign rfl rfl ?_
    refine RL.nil (thn_n ?_)
    obtain ⟨o79, ho80, hb11⟩ := bindS hb11
    refine CW.cutB (fun E' w' => ∃ (x68 : Int) (x69 : Int) (x70 : (List Key)), Sub [(0, av0), (3, (Value.int .i64 x68))] E' ∧ Ch (inBlk av0) w w' ∧ Lp.fin (x68, x69, x70) = o79 ∧ SlO k_Key 32 F Bb (un (inBlk av0) S2) w' x70 av0) ?_ ?_
    ·
     refine CW.loopS [(0, av0), (4, v66), (3, (Value.int .i64 x2)), (5, (Value.int .i64 1))] ⟨rfl, rfl, rfl, rfl, trivial⟩ FUEL (fun m E w' => ∃ (x68 : Int) (x69 : Int) (x70 : (List Key)), E = [(0, av0), (4, v66), (3, (Value.int .i64 x68)), (5, (Value.int .i64 x69))] ∧ Ch (inBlk av0) w w' ∧ runW (F29_Key_b2 x2 y64) m (x68, x69, x70) = some o79 ∧ SlO k_Key 32 F Bb (un (inBlk av0) S2) w' x70 av0)
         ⟨x2, 1, x3, rfl, c17, ho80, h4⟩ ?_
     rintro _ _ w85 ⟨x68, x69, x70, rfl, c84, hL74, h71⟩
     obtain ⟨k83, q76, rfl, hq77⟩ := runW_some hL74
     have hb78 := hq77
     refine CW.seq ?_
     refine CW.seq (CW.region ?_)
     refine rl_move rfl rfl ?_
     refine rl_move rfl rfl ?_
     refine rl_lenSuf rfl h67 hy65 Try.underlying40 rfl ?_
     refine rl_bin rfl rfl B.lss rfl ?_
     refine RL.nil (thn_n ?_)
     refine CW.cond (t := decide (x69 < ((y64.length : Nat) : Int))) rfl (fun q87 => ?_) (fun q87 => ?_)
     ·
      have hb78 := ifT q87 hb78
      refine CW.skip ?_
      refine thn_n (CW.seq ?_)
      refine CW.block ?_
      refine CW.seq ?_
      obtain ⟨y94, hy95, hb78⟩ := bindS hb78
      obtain ⟨y102, hy103, hb78⟩ := bindS hb78
      refine CW.draw 9 [(none, fun fx O uu wx => uu = v66), (none, fun fx O uu wx => uu = (Value.int .i64 x69)), (none, fun fx O uu wx => ∃ (p88 : Nat) (o89 : Nat), uu = (Value.pointer (some ⟨p88, o89, none⟩)) ∧ Seg wx p88 o89 (Key.enc y94)), (none, fun fx O uu wx => uu = (Value.agg (Key.enc y94).toArray)), (none, fun fx O uu wx => uu = v66), (none, fun fx O uu wx => uu = (Value.int .i64 x69)), (none, fun fx O uu wx => uu = (Value.int .i64 (IntKind.i64.wrap (x69 - 1)))), (none, fun fx O uu wx => ∃ (p96 : Nat) (o97 : Nat), uu = (Value.pointer (some ⟨p96, o97, none⟩)) ∧ Seg wx p96 o97 (Key.enc y102)), (none, fun fx O uu wx => uu = (Value.agg (Key.enc y102).toArray))] [[], [], [0, 1], [2], [], [], [5], [4, 6], [7]] [3, 8] nb (fun _ h => h.elim) mixed rfl rfl rfl rfl ?_ ?_
      ·
       refine Each.consS (fun fl O wk hE hN hO ck => ?_) ?_
       ·
        refine rl_move rfl rfl ?_
        exact RL.nil ⟨_, rfl, Ch.refl, rfl⟩
       refine Each.consS (fun fl O wk hE hN hO ck => ?_) ?_
       ·
        refine rl_move rfl rfl ?_
        exact RL.nil ⟨_, rfl, Ch.refl, rfl⟩
       refine Each.consA ⟨fun _ _ _ _ _ cc hh => by obtain ⟨p88, o89, e, hs92⟩ := hh; exact ⟨p88, o89, e, hs92.ch0 cc⟩, fun h => absurd rfl h, fun fl O wk hE hN hO ck => ?_⟩ ?_
       ·
        have h71 := h71.ch0 ck
        refine Need.o1 rfl rfl rfl (fun _ h => h) ?_
        refine Need.o1 rfl rfl rfl (fun _ h => h) ?_
        refine rl_ixSuf rfl h67 h71 rfl (ixO_get hy95) k_Key_pos Try.underlying40 Try.sizeOf32 rfl ?_
        intro p106 o107 cs108 hr109 hs110 hg111
        obtain rfl := hr109
        exact RL.nil ⟨_, rfl, Ch.refl, ⟨p106, o107, rfl, hs110⟩⟩
       refine Each.consS (fun fl O wk hE hN hO ck => ?_) ?_
       ·
        refine Need.one rfl rfl rfl ?_
        rintro _ ⟨p88, o89, e112, hs92⟩
        obtain rfl := e112.symm
        refine rl_loadA (cs := (Key.enc y94)) rfl Try.isAgg32 Try.sizeOf32 (hs92) rfl rfl ?_
        exact RL.nil ⟨_, rfl, Ch.refl, rfl⟩
       refine Each.consS (fun fl O wk hE hN hO ck => ?_) ?_
       ·
        refine rl_move rfl rfl ?_
        exact RL.nil ⟨_, rfl, Ch.refl, rfl⟩
       refine Each.consS (fun fl O wk hE hN hO ck => ?_) ?_
       ·
        refine rl_move rfl rfl ?_
        exact RL.nil ⟨_, rfl, Ch.refl, rfl⟩
       refine Each.consS (fun fl O wk hE hN hO ck => ?_) ?_
       ·
        refine Need.o1 rfl rfl rfl (fun _ h => h) ?_
        refine rl_bin rfl rfl B.sub rfl ?_
        exact RL.nil ⟨_, rfl, Ch.refl, rfl⟩
       refine Each.consA ⟨fun _ _ _ _ _ cc hh => by obtain ⟨p96, o97, e, hs100⟩ := hh; exact ⟨p96, o97, e, hs100.ch0 cc⟩, fun h => absurd rfl h, fun fl O wk hE hN hO ck => ?_⟩ ?_
       ·
        have h71 := h71.ch0 ck
        refine Need.o1 rfl rfl rfl (fun _ h => h) ?_
        refine Need.o1 rfl rfl rfl (fun _ h => h) ?_
        refine rl_ixSuf rfl h67 h71 rfl (ixO_get hy103) k_Key_pos Try.underlying40 Try.sizeOf32 rfl ?_
        intro p116 o117 cs118 hr119 hs120 hg121
        obtain rfl := hr119
        exact RL.nil ⟨_, rfl, Ch.refl, ⟨p116, o117, rfl, hs120⟩⟩
       refine Each.consS (fun fl O wk hE hN hO ck => ?_) ?_
       ·
        refine Need.one rfl rfl rfl ?_
        rintro _ ⟨p96, o97, e122, hs100⟩
        obtain rfl := e122.symm
        refine rl_loadA (cs := (Key.enc y102)) rfl Try.isAgg32 Try.sizeOf32 (hs100) rfl rfl ?_
        exact RL.nil ⟨_, rfl, Ch.refl, rfl⟩
       trivial
      intro hvO125 OpO125 O125 w123 hO126 c124 hN127
      have h71 := h71.ch0 c124
      have c84 := c84.then0 c124
      refine Need.o1 rfl rfl rfl (fun _ h => h) ?_
      refine Need.o1 rfl rfl rfl (fun _ h => h) ?_
      refine rl_bin rfl rfl (neq32 y94 y102) rfl ?_
      refine RL.nil (thn_n ?_)
      refine CW.cond (t := !decide (y94 = y102)) rfl (fun q130 => ?_) (fun q130 => ?_)
      ·
       have hb78 := ifT q130 hb78
       refine CW.seq (CW.region ?_)
       refine rl_move rfl rfl ?_
       refine rl_move rfl rfl ?_
       refine rl_move rfl rfl ?_
       refine rl_move rfl rfl ?_
       obtain ⟨y137, hy138, hb78⟩ := bindS hb78
       refine rl_ixSuf rfl h67 h71 rfl (ixO_get hy138) k_Key_pos Try.underlying40 Try.sizeOf32 rfl ?_
       intro p131 o132 cs133 hr134 hs135 hg136
       obtain rfl := hr134
       refine rl_loadA (cs := (Key.enc y137)) rfl Try.isAgg32 Try.sizeOf32 (hs135) rfl rfl ?_
       obtain ⟨y145, hy146, hb78⟩ := bindS hb78
       refine rl_ixO rfl h71 rfl (ixO_get hy146) Try.underlying40 Try.sizeOf32 rfl ?_
       intro p139 hg144
       refine rl_storeOA rfl rfl Try.sizeOf32 h71 hg144 (ixO_lt hy146) (show k_Key.rep (G F Bb (un (inBlk av0) S2)) w123 y137 (Key.enc y137) from rfl) ?_
       intro w147 c148 h149
       have c84 := c84.then c148 (fun i hi h => (lin0_0 i h).elim (fun x => x) (fun x => absurd x (Nat.not_le_of_lt hi)))
       refine RL.nil (thn_n (CW.region ?_))
       refine rl_move rfl rfl ?_
       refine rl_bin rfl rfl B.add rfl ?_
       refine rl_assign rfl rfl ?_
       refine RL.nil ?_
       refine inB_n ?_
       refine thn_n (CW.region ?_)
       refine rl_move rfl rfl ?_
       refine rl_bin rfl rfl B.add rfl ?_
       refine rl_assign rfl rfl ?_
       refine RL.nil (thn_n ?_)
       have hLn := runW_next hL74 hq77 hb78
       exact ⟨k83, Nat.lt_succ_self _, [(0, av0), (4, v66), (3, (Value.int .i64 (IntKind.i64.wrap (x68 + 1)))), (5, (Value.int .i64 (IntKind.i64.wrap (x69 + 1))))], ⟨rfl, rfl, rfl, rfl, trivial⟩, ⟨IntKind.i64.wrap (x68 + 1), IntKind.i64.wrap (x69 + 1), x70.set x68.toNat y137, rfl, c84, hLn, h149⟩⟩
      have hb78 := ifF q130 hb78
      refine CW.skip ?_
      refine inB_n ?_
      refine thn_n (CW.region ?_)
      refine rl_move rfl rfl ?_
      refine rl_bin rfl rfl B.add rfl ?_
      refine rl_assign rfl rfl ?_
      refine RL.nil (thn_n ?_)
      have hLn := runW_next hL74 hq77 hb78
      exact ⟨k83, Nat.lt_succ_self _, [(0, av0), (4, v66), (3, (Value.int .i64 x68)), (5, (Value.int .i64 (IntKind.i64.wrap (x69 + 1))))], ⟨rfl, rfl, rfl, rfl, trivial⟩, ⟨x68, IntKind.i64.wrap (x69 + 1), x70, rfl, c84, hLn, h71⟩⟩
     have hb78 := ifF q87 hb78
     refine CW.exit ?_
     refine thn_exit ?_
     refine thn_exit ?_
     refine inB_hit ?_
     have hLf := runW_fin hL74 hq77 hb78
     exact ⟨x68, x69, x70, ⟨rfl, rfl, trivial⟩, c84, hLf, h71⟩
    rintro _ w152 ⟨x68, x69, x70, hE153, c151, f154, h71⟩
    have hb11 := finS f154 hb11
    refine thn_n (CW.sub [(0, av0), (3, (Value.int .i64 x68))] hE153 ?_)
    refine CW.seq (CW.region ?_)
    refine rl_move rfl rfl ?_
    refine rl_move rfl rfl ?_
    obtain ⟨y156, hy157, hb11⟩ := bindS hb11
    refine rl_cutS rfl h71 rfl hy157 Try.underlying40 Try.sizeOf32 rfl ?_
    intro v158 h159
    refine rl_clearO (z0 := Key.z) rfl h159 (slO_le hy157) Try.underlying40 Try.zeroValue32 h71 (show k_Key.rep (G F Bb (un (inBlk av0) S2)) w152 Key.z (Key.enc Key.z) from rfl) ?_
    intro w160 c161 h162
    have c151 := c151.then c161 (fun i hi h => (lin0_0 i h).elim (fun x => x) (fun x => absurd x (Nat.not_le_of_lt hi)))
    refine RL.nil (thn_n (CW.seq (CW.region ?_)))
    refine rl_move rfl rfl ?_
    refine rl_move rfl rfl ?_
    obtain ⟨y164, hy165, hb11⟩ := bindS hb11
    refine rl_cutO (kl := .i64) (kh := .i64) none (some x68) rfl h162 trivial rfl rfl hy165 Try.underlying40 Try.sizeOf32 rfl ?_
    intro v166 hb168 h167
    have lin169 : ∀ b, inBlk v166 b → (inBlk av0) b ∨ w.heap.size ≤ b := linApp lin0_0 (fun b h => .inl ((hb168 b).1 h)) c151.size
    have hS170 : (un (inBlk av0) S2) = (un (inBlk v166) S2) := by rw [show inBlk v166 = inBlk av0 from funext fun b => propext (hb168 b)]
    rw [hS170] at h167
    refine rl_assign rfl rfl ?_
    refine RL.nil (thn_n (CW.ret ?_))
    refine inB_ret ?_
    refine thn_ret ?_
    refine thn_ret (inB_ret (thn_ret ?_))
    refine thn_ret ?_
    have f171 := runW_ret hL7 hq10 hb11
    have hS := retS f171 hS
    obtain rfl := Option.some.inj hS
    exact ret1 rfl ⟨v166, rfl, h167, lin169, c151⟩
   have hb11 := ifF q63 hb11
   refine CW.skip ?_
   refine inB_n ?_
   refine thn_n (CW.region ?_)
   refine rl_move rfl rfl ?_
   refine rl_bin rfl rfl B.add rfl ?_
   refine rl_assign rfl rfl ?_
   refine RL.nil (thn_n ?_)
   have hLn := runW_next hL7 hq10 hb11
   exact ⟨k16, Nat.lt_succ_self _, [(0, av0), (3, (Value.int .i64 (IntKind.i64.wrap (x2 + 1))))], ⟨rfl, rfl, trivial⟩, ⟨IntKind.i64.wrap (x2 + 1), x3, rfl, c17, hLn, h4⟩⟩
  have hb11 := ifF q20 hb11
  refine CW.exit ?_
  refine thn_exit ?_
  refine thn_exit ?_
  refine inB_hit ?_
  have hLf := runW_fin hL7 hq10 hb11
  exact ⟨x2, x3, ⟨rfl, trivial⟩, c17, hLf, h4⟩
 rintro _ w173 ⟨x2, x3, hE174, c172, f175, h4⟩
 have hS := finS f175 hS
 refine thn_n (CW.sub [(0, av0)] hE174 ?_)
 refine CW.seq (CW.region ?_)
 refine rl_move rfl rfl ?_
 refine rl_assign rfl rfl ?_
 refine RL.nil (thn_n (CW.ret ?_))
 obtain rfl := Option.some.inj hS
 exact ret1 rfl ⟨av0, rfl, h4, lin0_0, c172⟩
/-- lb/names.Sort -/
theorem ctr21 (F : Nat → Prop) (w : World) (a0 : (List Key)) (av0 : Value) (ah0 : slRep k_Key F w a0 av0) (r : (List Key)) (hs : F21_Sort a0 = some r) :
    Ret Try.prog 21 #[av0] w fun v w' => ∃ (y0 : Value), v = y0 ∧ SlO k_Key 32 F w.heap.size (inBlk y0) w' r y0 ∧ Ch nb w w' := by
 have hS := hs
 have c0 : Ch nb w w := Ch.refl
 have ah0 := slRep.enter k_Key_pos ah0
 refine Ret.of (n := 10) (args := [_]) (rs := [.tmp 2]) Try.func21 rfl rfl rfl rfl ?_
 refine CW.seq (CW.region ?_)
 refine rl_assign rfl rfl ?_
 refine RL.nil (thn_n (CW.seq (CW.region ?_)))
 refine rl_move rfl rfl ?_
 obtain ⟨y3, hy4, hS⟩ := bindS hS
 refine rl_callF rfl en26 rfl (ctr26 (G F w.heap.size nb) w a0 av0 ah0 y3 hy4) ?_
 rintro v5 w1 ⟨_, rfl, h6, c2⟩
 have h6 := SlO.back (S' := un (inBlk v5) nb) h6 nbS c0.size (fun _ => Or.comm)
 have c0 := c0.then0 c2
 refine rl_assign rfl rfl ?_
 refine RL.nil (thn_n (CW.seq (CW.region ?_)))
 refine rl_move rfl rfl ?_
 have hd8 : ∀ b, (inBlk v5) b → ¬ nb b := fun b h => (fun b hb => fun h => h) b h
 have hS9 : (un (inBlk v5) nb) = (un (inBlk v5) nb) := rfl
 have ha10 := (show (Kd.fn2 Try.prog true true k_Key k_Key (Value.int .i64)).rep (G F w.heap.size (un (inBlk v5) nb)) w1 (fun x0 x1 => F28_Compare x0 x1) [(Value.func (.func 28) #[] [].toArray)] from ⟨28, [], rfl, en28, fun w' hw F' x0 x1 c0 c1 hx0 hx1 => by
     obtain rfl := hx0
     obtain rfl := hx1
     exact (ctr28 (fun b => (G F w.heap.size (un (inBlk v5) nb)) b ∨ F' b) w' x0 x1 _ rfl).mono (by rintro v w'' ⟨rfl, c⟩; exact ⟨rfl, c⟩)⟩)
 rw [hS9] at ha10
 obtain ⟨y13, hy14, hS⟩ := bindS hS
 refine rl_callF rfl en27 rfl (ctr27 F w1 w.heap.size nb c0.size nbS v5 hd8  y3 (hS9 ▸ h6) (fun x0 x1 => F28_Compare x0 x1) (Value.func (.func 28) #[] [].toArray) ha10 y13 hy14) ?_
 rintro _ w11 ⟨rfl, h15, c12⟩
 rw [← hS9] at h15
 have c0 := c0.then c12 (fun i hi h => absurd ((fun b hb => (h6.lt b hb).1) i h) (Nat.not_le_of_lt hi))
 refine RL.nil (thn_n (CW.seq (CW.region ?_)))
 refine rl_move rfl rfl ?_
 have hd17 : ∀ b, (inBlk v5) b → ¬ nb b := fun b h => (fun b hb => fun h => h) b h
 have hS18 : (un (inBlk v5) nb) = (un (inBlk v5) nb) := rfl
 obtain ⟨y21, hy22, hS⟩ := bindS hS
 refine rl_callF rfl en29 rfl (ctr29 F w11 w.heap.size nb c0.size nbS v5 hd17  y13 (hS18 ▸ h15) y21 hy22) ?_
 rintro v23 w19 ⟨_, rfl, h24, hf25, c20⟩
 have c0 := c0.then c20 (fun i hi h => absurd ((fun b hb => (h15.lt b hb).1) i h) (Nat.not_le_of_lt hi))
 refine rl_assign rfl rfl ?_
 refine RL.nil (thn_n (CW.ret ?_))
 obtain rfl := Option.some.inj hS
 exact ret1 rfl ⟨v23, rfl, h24.out, c0⟩
/-- (*lb/index.Index).Slices -/
theorem ctr16 (F : Nat → Prop) (w : World) (Bb : Nat) (S2 : Nat → Prop) (hB : Bb ≤ w.heap.size) (h2 : ∀ b, S2 b → b < w.heap.size) (po0 : Nat) (az0_0 : Value) (az0_1 az0_1u : Value) (hd2 : ∀ b, (un (inBlk (PV po0)) (un (inBlk az0_0) (inBlk az0_1))) b → ¬ S2 b) (hx0_1 : ∀ b, inBlk (PV po0) b → ¬ inBlk az0_0 b) (hx0_2 : ∀ b, inBlk (PV po0) b → ¬ inBlk az0_1 b) (hx1_2 : ∀ b, inBlk az0_0 b → ¬ inBlk az0_1 b) (a0 : Index_2) (ah0 : Blk w po0 47 (Index_2.c a0 az0_0 az0_1u)) (ah0_0 : Mp (fun x => Value.agg (Key.enc x).toArray) (fun x => Value.agg (Key.enc x).toArray) w a0.owner az0_0) (ah0_1 : MM (fun x => Value.agg (Key.enc x).toArray) (fun x => Value.agg (Key.enc x).toArray) (fun x => Value.agg (St50.enc x).toArray) w a0.slices az0_1u az0_1) (a1 : Key) (r : (List Key)) (hs : F16_Slices a0 a1 = some r) :
    Ret Try.prog 16 #[(PV po0), (Value.agg (Key.enc a1).toArray)] w fun v w' => ∃ (y0 : Value), v = y0 ∧ SlO k_Key 32 (G F Bb (un (inBlk (PV po0)) (un (inBlk az0_0) (un (inBlk az0_1) S2)))) w.heap.size (inBlk y0) w' r y0 ∧ Ch nb w w' := by
 have hS := hs
 have c0 : Ch nb w w := Ch.refl
 refine Ret.of (n := 14) (args := [_, _]) (rs := [.tmp 4]) Try.func16 rfl rfl rfl rfl ?_
 refine CW.seq (CW.region ?_)
 refine rl_boxA (cs := (Key.enc a1)) rfl rfl ?_
 intro p1 w2 n3 k4
 have ah0 := ah0.ch0 n3.ch
 have ah0_0 := ah0_0.ch0 n3.ch
 have ah0_1 := ah0_1.ch0 n3.ch
 have c0 := c0.then0 n3.ch
 refine rl_assign rfl rfl ?_
 refine RL.nil (thn_n (CW.seq ?_))
 refine CW.drawD mixed ?_
 intro w5 c6
 have ah0 := ah0.ch0 c6
 have ah0_0 := ah0_0.ch0 c6
 have ah0_1 := ah0_1.ch0 c6
 have k4 := k4.ch0 c6
 have c0 := c0.then0 c6
 refine DW.split 5 rfl rfl ?_
 refine DW.draw1 Ch.refl 5 [(none, fun fx O uu wx => uu = (PV po0)), (none, fun fx O uu wx => uu = (PV po0)), (none, fun fx O uu wx => uu = (Value.pointer (some ⟨po0, 1, none⟩))), (none, fun fx O uu wx => uu = az0_1u), (none, fun fx O uu wx => uu = (Value.agg (Key.enc a1).toArray))] [[], [0], [1], [2], []] [3, 4] nb (fun _ h => h.elim) mixed rfl rfl rfl rfl ?_ ?_
 ·
  refine Each.consS (fun fl O wk hE hN hO ck => ?_) ?_
  ·
   refine rl_move rfl rfl ?_
   exact RL.nil ⟨_, rfl, Ch.refl, rfl⟩
  refine Each.consS (fun fl O wk hE hN hO ck => ?_) ?_
  ·
   refine Need.o1 rfl rfl rfl (fun _ h => h) ?_
   refine rl_nilCheck rfl rfl ?_
   exact RL.nil ⟨_, rfl, Ch.refl, rfl⟩
  refine Each.consS (fun fl O wk hE hN hO ck => ?_) ?_
  ·
   refine Need.o1 rfl rfl rfl (fun _ h => h) ?_
   refine rl_fieldAddr rfl fa47_1 rfl ?_
   exact RL.nil ⟨_, rfl, Ch.refl, rfl⟩
  refine Each.consS (fun fl O wk hE hN hO ck => ?_) ?_
  ·
   have ah0 := ah0.ch0 ck
   refine Need.o1 rfl rfl rfl (fun _ h => h) ?_
   refine rl_loadS (v := az0_1u) rfl Try.isAgg45 (ah0.cell rfl) rfl ?_
   exact RL.nil ⟨_, rfl, Ch.refl, rfl⟩
  refine Each.consS (fun fl O wk hE hN hO ck => ?_) ?_
  ·
   have k4 := k4.ch0 ck
   refine rl_loadA (cs := (Key.enc a1)) rfl Try.isAgg32 Try.sizeOf32 (k4.segAt 0 2) rfl rfl ?_
   exact RL.nil ⟨_, rfl, Ch.refl, rfl⟩
  trivial
 intro hvO12 OpO12 O12 w10 hO13 c11 hN14
 have ah0 := ah0.ch0 c11
 have ah0_0 := ah0_0.ch0 c11
 have ah0_1 := ah0_1.ch0 c11
 have c0 := c0.then0 c11
 refine Need.o1 rfl rfl rfl (fun _ h => h) ?_
 refine Need.o1 rfl rfl rfl (fun _ h => h) ?_
 refine RL.nil ?_
 refine ⟨rfl, ?_⟩
 refine DW.draw1 Ch.refl 0 [] [] [] nb (fun _ h => h.elim) mixed rfl rfl rfl rfl trivial ?_
 intro _ _ _ w17 _ c18 _
 have ah0 := ah0.ch0 c18
 have ah0_0 := ah0_0.ch0 c18
 have ah0_1 := ah0_1.ch0 c18
 have c0 := c0.then0 c18
 refine rl_mmLookup a1 rfl rfl ah0_1 rfl kt32 Try.underlying45 Try.zeroValue49 rfl ?_
 refine rl_callF rfl en25 rfl (ctr25 (ah0_1.inn a1)) ?_
 rintro u19 w20 ⟨h21, c22⟩
 have ah0 := ah0.ch0 c22
 have ah0_0 := ah0_0.ch0 c22
 have ah0_1 := ah0_1.ch0 c22
 have c0 := c0.then0 c22
 refine rl_callF rfl en22 rfl (ctr22 (F := (G F Bb (un (inBlk (PV po0)) (un (inBlk az0_0) (un (inBlk az0_1) S2))))) h21 (anyPerm_lt hS)) ?_
 rintro v25 w26 ⟨ys23, hp24, h27, c28⟩
 have hS := anyPerm_el hS hp24
 have h27 := SlO.backR k_Key_pos h27 (un_lt ah0.ltp (un_lt ah0_0.ltp (un_lt ah0_1.ltp (fun b h => Nat.lt_of_lt_of_le (h2 b h) c0.size)))) (Nat.le_trans hB c0.size)
 have ah0 := ah0.ch0 c28
 have ah0_0 := ah0_0.ch0 c28
 have ah0_1 := ah0_1.ch0 c28
 have c0 := c0.then0 c28
 obtain ⟨y31, hy32, hS⟩ := bindS hS
 refine rl_callF rfl en21 rfl (ctr21 (G F Bb (un (inBlk (PV po0)) (un (inBlk az0_0) (un (inBlk az0_1) S2)))) w26 ys23 v25 h27 y31 hy32) ?_
 rintro v33 w29 ⟨_, rfl, h34, c30⟩
 have hf35 : ∀ b, inBlk v33 b → w26.heap.size ≤ b := fun b hb => (h34.lt b hb).1
 have h34 := SlO.back (S' := un (inBlk v33) (un (inBlk (PV po0)) (un (inBlk az0_0) (un (inBlk az0_1) S2)))) h34 (un_lt ah0.ltp (un_lt ah0_0.ltp (un_lt ah0_1.ltp (fun b h => Nat.lt_of_lt_of_le (h2 b h) c0.size)))) (Nat.le_trans hB c0.size) (fun _ => Or.comm)
 have lo36 : ∀ b, inBlk v33 b → w.heap.size ≤ b := fun b h => Nat.le_trans c0.size (hf35 b h)
 have c0 := c0.then0 c30
 refine rl_assign rfl rfl ?_
 refine RL.nil (thn_n (CW.ret ?_))
 obtain rfl := Option.some.inj hS
 exact ret1 rfl ⟨v33, rfl, (SlO.outP (fun h => h) h34 lo36), c0⟩
/-- lb/lblaw16.alive -/
theorem ctr5 (F : Nat → Prop) (w : World)  (r : Bool) (hs : F5_alive  = some r) :
    Ret Try.prog 5 #[] w fun v w' => v = (Value.bool r) ∧ Ch nb w w' := by
 have hS := hs
 have c0 : Ch nb w w := Ch.refl
 refine Ret.of (n := 36) (args := []) (rs := [.tmp 0]) Try.func5 rfl rfl rfl rfl ?_
 refine CW.seq (CW.region ?_)
 refine rl_assign rfl rfl ?_
 refine RL.nil (thn_n (CW.seq (CW.region ?_)))
 obtain ⟨y3, hy4⟩ : ∃ y, F7_New = y := ⟨_, rfl⟩
 have hS := ltS hy4 hS
 refine rl_callF rfl en7 rfl (ctr7 (G F w.heap.size nb) w  y3 hy4) ?_
 rintro _ w1 ⟨p5, z9, z10, u11, rfl, h6, h7, h8, hf12, hf13, hf14, d15, d16, d17, c2⟩
 have lo18 : ∀ b, inBlk (PV p5) b → w.heap.size ≤ b := fun b h => Nat.le_trans c0.size (hf12 b h)
 have lo19 : ∀ b, inBlk z9 b → w.heap.size ≤ b := fun b h => Nat.le_trans c0.size (hf13 b h)
 have lo20 : ∀ b, inBlk z10 b → w.heap.size ≤ b := fun b h => Nat.le_trans c0.size (hf14 b h)
 have c0 := c0.then0 c2
 refine rl_assign rfl rfl ?_
 refine RL.nil (thn_n (CW.seq ?_))
 refine CW.seq (CW.region ?_)
 refine rl_move rfl rfl ?_
 refine rl_bin rfl rfl (B.eqlPN Try.underlying25) rfl ?_
 refine RL.nil (thn_n ?_)
 refine CW.no rfl ?_
 refine CW.skip ?_
 refine thn_n (CW.seq (CW.region ?_))
 refine rl_build (out := (Key.enc ({ space := (⟨#[97]⟩ : ByteArray), name := (⟨#[115, 49]⟩ : ByteArray) } : Key))) rfl pl32 Try.zeroValue32 rfl rfl rfl ?_
 refine rl_build (out := (Key.enc ({ space := (⟨#[97]⟩ : ByteArray), name := (⟨#[119, 101, 98]⟩ : ByteArray) } : Key))) rfl pl32 Try.zeroValue32 rfl rfl rfl ?_
 refine rl_alloc (Key.enc Key.z) Try.zeroValue32 rfl rfl ?_
 intro p21 w22 n23 k24
 have lo25 : ∀ b, inBlk (PV p21) b → w.heap.size ≤ b := fun b h => Nat.le_trans c0.size (n23.fresh b h)
 have d26 : ∀ b, inBlk (PV p21) b → ¬ inBlk (PV p5) b := disNew n23.fresh h6.ltp
 have d27 : ∀ b, inBlk (PV p21) b → ¬ inBlk z9 b := disNew n23.fresh h7.ltp
 have d28 : ∀ b, inBlk (PV p21) b → ¬ inBlk z10 b := disNew n23.fresh h8.ltp
 have h6 := h6.ch0 n23.ch
 have h7 := h7.ch0 n23.ch
 have h8 := h8.ch0 n23.ch
 have c0 := c0.then0 n23.ch
 refine rl_alloc (Key.enc Key.z) Try.zeroValue32 rfl rfl ?_
 intro p29 w30 n31 k32
 have lo33 : ∀ b, inBlk (PV p29) b → w.heap.size ≤ b := fun b h => Nat.le_trans c0.size (n31.fresh b h)
 have d34 : ∀ b, inBlk (PV p29) b → ¬ inBlk (PV p21) b := disNew n31.fresh k24.ltp
 have d35 : ∀ b, inBlk (PV p29) b → ¬ inBlk (PV p5) b := disNew n31.fresh h6.ltp
 have d36 : ∀ b, inBlk (PV p29) b → ¬ inBlk z9 b := disNew n31.fresh h7.ltp
 have d37 : ∀ b, inBlk (PV p29) b → ¬ inBlk z10 b := disNew n31.fresh h8.ltp
 have h6 := h6.ch0 n31.ch
 have h7 := h7.ch0 n31.ch
 have h8 := h8.ch0 n31.ch
 have k24 := k24.ch0 n31.ch
 have c0 := c0.then0 n31.ch
 refine rl_storeA (vs := (Key.enc ({ space := (⟨#[97]⟩ : ByteArray), name := (⟨#[115, 49]⟩ : ByteArray) } : Key))) rfl rfl (all_one rfl) Try.sizeOf32 rfl k24 rfl ?_
 intro w38 s40 c39 k41
 have h6 := h6.ch c39 ((fun b hb h => (disSym d26) b hb h) _ rfl)
 have h7 := h7.ch c39 ((fun b hb h => (disSym d27) b hb h))
 have h8 := h8.ch c39 ((fun b hb h => (disSym d28) b hb h))
 have k32 := k32.ch c39 ((fun b hb h => d34 b hb h) _ rfl)
 have c0 := c0.then c39 (fun i hi h => absurd (lo25 i h) (Nat.not_le_of_lt hi))
 refine rl_storeA (vs := (Key.enc ({ space := (⟨#[97]⟩ : ByteArray), name := (⟨#[119, 101, 98]⟩ : ByteArray) } : Key))) rfl rfl (all_one rfl) Try.sizeOf32 rfl k32 rfl ?_
 intro w43 s45 c44 k46
 have h6 := h6.ch c44 ((fun b hb h => (disSym d35) b hb h) _ rfl)
 have h7 := h7.ch c44 ((fun b hb h => (disSym d36) b hb h))
 have h8 := h8.ch c44 ((fun b hb h => (disSym d37) b hb h))
 have k41 := k41.ch c44 ((fun b hb h => (disSym d34) b hb h) _ rfl)
 have c0 := c0.then c44 (fun i hi h => absurd (lo33 i h) (Nat.not_le_of_lt hi))
 refine RL.nil (thn_n (CW.seq (CW.region ?_)))
 refine rl_move rfl rfl ?_
 refine rl_loadA (cs := (Key.enc ({ space := (⟨#[97]⟩ : ByteArray), name := (⟨#[115, 49]⟩ : ByteArray) } : Key))) rfl Try.isAgg32 Try.sizeOf32 (k41.segAt 0 2) rfl rfl ?_
 refine rl_loadA (cs := (Key.enc ({ space := (⟨#[97]⟩ : ByteArray), name := (⟨#[119, 101, 98]⟩ : ByteArray) } : Key))) rfl Try.isAgg32 Try.sizeOf32 (k46.segAt 0 2) rfl rfl ?_
 have hd48 : ∀ b, (un (inBlk (PV p5)) (un (inBlk z9) (inBlk z10))) b → ¬ (un (inBlk (PV p29)) (un (inBlk (PV p21)) nb)) b := fun b h => un_el h (fun h => (fun b hb => fun h => un_el h (fun h => (disSym d35) b hb h) (fun h => un_el h (fun h => (disSym d26) b hb h) (fun h => h))) b h) (fun h => un_el h (fun h => (fun b hb => fun h => un_el h (fun h => (disSym d36) b hb h) (fun h => un_el h (fun h => (disSym d27) b hb h) (fun h => h))) b h) (fun h => (fun b hb => fun h => un_el h (fun h => (disSym d37) b hb h) (fun h => un_el h (fun h => (disSym d28) b hb h) (fun h => h))) b h))
 obtain ⟨y52, hy53, hS⟩ := bindS hS
 refine rl_callF rfl en8 rfl (ctr8 F w43 w.heap.size (un (inBlk (PV p29)) (un (inBlk (PV p21)) nb)) c0.size (un_lt k46.ltp (un_lt k41.ltp nbS)) p5 z9 z10 u11 hd48 d15 d16 d17 y3 h6 h7 h8 ({ space := (⟨#[97]⟩ : ByteArray), name := (⟨#[115, 49]⟩ : ByteArray) } : Key) ({ space := (⟨#[97]⟩ : ByteArray), name := (⟨#[119, 101, 98]⟩ : ByteArray) } : Key) y52 hy53) ?_
 rintro _ w50 ⟨z54, z55, u56, rfl, h57, h58, h59, hf60, hf61, d62, d63, d64, c51⟩
 have d66 : ∀ b, inBlk z54 b → ¬ inBlk (PV p29) b := fun b h hu => (hf60 b h).elim (fun h => un_el h (fun h => (disSym d35) b h hu) (fun h => un_el h (fun h => (disSym d36) b h hu) (fun h => (disSym d37) b h hu))) (fun h => Nat.not_le_of_lt (k46.ltp b hu) h)
 have d67 : ∀ b, inBlk z54 b → ¬ inBlk (PV p21) b := fun b h hu => (hf60 b h).elim (fun h => un_el h (fun h => (disSym d26) b h hu) (fun h => un_el h (fun h => (disSym d27) b h hu) (fun h => (disSym d28) b h hu))) (fun h => Nat.not_le_of_lt (k41.ltp b hu) h)
 have d69 : ∀ b, inBlk z55 b → ¬ inBlk (PV p29) b := fun b h hu => (hf61 b h).elim (fun h => un_el h (fun h => (disSym d35) b h hu) (fun h => un_el h (fun h => (disSym d36) b h hu) (fun h => (disSym d37) b h hu))) (fun h => Nat.not_le_of_lt (k46.ltp b hu) h)
 have d70 : ∀ b, inBlk z55 b → ¬ inBlk (PV p21) b := fun b h hu => (hf61 b h).elim (fun h => un_el h (fun h => (disSym d26) b h hu) (fun h => un_el h (fun h => (disSym d27) b h hu) (fun h => (disSym d28) b h hu))) (fun h => Nat.not_le_of_lt (k41.ltp b hu) h)
 have k41 := k41.ch c51 ((fun b hb h => un_el h (fun h => d26 b hb h) (fun h => un_el h (fun h => d27 b hb h) (fun h => d28 b hb h))) _ rfl)
 have k46 := k46.ch c51 ((fun b hb h => un_el h (fun h => d35 b hb h) (fun h => un_el h (fun h => d36 b hb h) (fun h => d37 b hb h))) _ rfl)
 have c0 := c0.then c51 (fun i hi h => un_el h (fun h => absurd (lo18 i h) (Nat.not_le_of_lt hi)) (fun h => un_el h (fun h => absurd (lo19 i h) (Nat.not_le_of_lt hi)) (fun h => absurd (lo20 i h) (Nat.not_le_of_lt hi))))
 refine rl_move rfl rfl ?_
 refine rl_extract rfl rfl rfl ?_
 refine rl_extract rfl rfl rfl ?_
 refine rl_alloc (Key.enc Key.z) Try.zeroValue32 rfl rfl ?_
 intro p73 w74 n75 k76
 have lo77 : ∀ b, inBlk (PV p73) b → w.heap.size ≤ b := fun b h => Nat.le_trans c0.size (n75.fresh b h)
 have d78 : ∀ b, inBlk (PV p73) b → ¬ inBlk (PV p29) b := disNew n75.fresh k46.ltp
 have d79 : ∀ b, inBlk (PV p73) b → ¬ inBlk (PV p21) b := disNew n75.fresh k41.ltp
 have d80 : ∀ b, inBlk (PV p73) b → ¬ inBlk (PV p5) b := disNew n75.fresh h57.ltp
 have d81 : ∀ b, inBlk (PV p73) b → ¬ inBlk z54 b := disNew n75.fresh h58.ltp
 have d82 : ∀ b, inBlk (PV p73) b → ¬ inBlk z55 b := disNew n75.fresh h59.ltp
 have k41 := k41.ch0 n75.ch
 have k46 := k46.ch0 n75.ch
 have h57 := h57.ch0 n75.ch
 have h58 := h58.ch0 n75.ch
 have h59 := h59.ch0 n75.ch
 have c0 := c0.then0 n75.ch
 refine rl_storeA (vs := (Key.enc y52.1)) rfl rfl (all_one rfl) Try.sizeOf32 rfl k76 rfl ?_
 intro w83 s85 c84 k86
 have k41 := k41.ch c84 ((fun b hb h => (disSym d79) b hb h) _ rfl)
 have k46 := k46.ch c84 ((fun b hb h => (disSym d78) b hb h) _ rfl)
 have h57 := h57.ch c84 ((fun b hb h => (disSym d80) b hb h) _ rfl)
 have h58 := h58.ch c84 ((fun b hb h => (disSym d81) b hb h))
 have h59 := h59.ch c84 ((fun b hb h => (disSym d82) b hb h))
 have c0 := c0.then c84 (fun i hi h => absurd (lo77 i h) (Nat.not_le_of_lt hi))
 refine rl_assign rfl rfl ?_
 refine RL.nil (thn_n (CW.seq (CW.region ?_)))
 refine rl_move rfl rfl ?_
 refine rl_loadA (cs := (Key.enc ({ space := (⟨#[97]⟩ : ByteArray), name := (⟨#[119, 101, 98]⟩ : ByteArray) } : Key))) rfl Try.isAgg32 Try.sizeOf32 (k46.segAt 0 2) rfl rfl ?_
 have hd88 : ∀ b, (un (inBlk (PV p5)) (un (inBlk z54) (inBlk z55))) b → ¬ (un (inBlk (PV p73)) (un (inBlk (PV p29)) (un (inBlk (PV p21)) nb))) b := fun b h => un_el h (fun h => (fun b hb => fun h => un_el h (fun h => (disSym d80) b hb h) (fun h => un_el h (fun h => (disSym d35) b hb h) (fun h => un_el h (fun h => (disSym d26) b hb h) (fun h => h)))) b h) (fun h => un_el h (fun h => (fun b hb => fun h => un_el h (fun h => (disSym d81) b hb h) (fun h => un_el h (fun h => d66 b hb h) (fun h => un_el h (fun h => d67 b hb h) (fun h => h)))) b h) (fun h => (fun b hb => fun h => un_el h (fun h => (disSym d82) b hb h) (fun h => un_el h (fun h => d69 b hb h) (fun h => un_el h (fun h => d70 b hb h) (fun h => h)))) b h))
 have hS89 : (un (inBlk (PV p73)) (un (inBlk (PV p29)) (un (inBlk (PV p21)) (un (inBlk (PV p5)) (un (inBlk z54) (un (inBlk z55) nb)))))) = (un (inBlk (PV p5)) (un (inBlk z54) (un (inBlk z55) (un (inBlk (PV p73)) (un (inBlk (PV p29)) (un (inBlk (PV p21)) nb)))))) := funext fun b => propext ⟨fun h => un_el h (fun h => (.inr (.inr (.inr (.inl h))))) (fun h => un_el h (fun h => (.inr (.inr (.inr (.inr (.inl h)))))) (fun h => un_el h (fun h => (.inr (.inr (.inr (.inr (.inr (.inl h))))))) (fun h => un_el h (fun h => (.inl h)) (fun h => un_el h (fun h => (.inr (.inl h))) (fun h => un_el h (fun h => (.inr (.inr (.inl h)))) (fun h => False.elim h)))))), fun h => un_el h (fun h => (.inr (.inr (.inr (.inl h))))) (fun h => un_el h (fun h => (.inr (.inr (.inr (.inr (.inl h)))))) (fun h => un_el h (fun h => (.inr (.inr (.inr (.inr (.inr (.inl h))))))) (fun h => un_el h (fun h => (.inl h)) (fun h => un_el h (fun h => (.inr (.inl h))) (fun h => un_el h (fun h => (.inr (.inr (.inl h)))) (fun h => False.elim h))))))⟩
 obtain ⟨y92, hy93, hS⟩ := bindS hS
 refine rl_callF rfl en16 rfl (ctr16 F w83 w.heap.size (un (inBlk (PV p73)) (un (inBlk (PV p29)) (un (inBlk (PV p21)) nb))) c0.size (un_lt k86.ltp (un_lt k46.ltp (un_lt k41.ltp nbS))) p5 z54 z55 u56 hd88 d62 d63 d64 y52.2.2 h57 h58 h59 ({ space := (⟨#[97]⟩ : ByteArray), name := (⟨#[119, 101, 98]⟩ : ByteArray) } : Key) y92 hy93) ?_
 rintro v94 w90 ⟨_, rfl, h95, c91⟩
 rw [← hS89] at h95
 have h95 := SlO.backR k_Key_pos h95 (un_lt k86.ltp (un_lt k46.ltp (un_lt k41.ltp (un_lt h57.ltp (un_lt h58.ltp (un_lt h59.ltp nbS)))))) c0.size
 have k41 := k41.ch0 c91
 have c0 := c0.then0 c91
 refine rl_assign rfl rfl ?_
 refine RL.nil (thn_n (CW.seq ?_))
 obtain ⟨b96, hb97⟩ : ∃ y, ((!y52.2.1) && (decide (((y92.length : Nat) : Int) = 1))) = y := ⟨_, rfl⟩
 have hS := ltS hb97 hS
 obtain ⟨b106, hb107, hS⟩ := bindS hS
 refine CW.cutN (fun E' w' => Sub [(0, (Value.bool b106))] E' ∧ Ch nb w90 w') ?_ ?_
 ·
  rcases Bool.eq_false_or_eq_true (!y52.2.1) with hg108 | hg108
  ·
   have hs109 := and_t hg108 hb97
   rcases Bool.eq_false_or_eq_true b96 with hg110 | hg110
   ·
    have hs111 := andO_t hg110 hb107
    obtain ⟨y104, hy105, hs111⟩ := bindS hs111
    refine CW.draw 14 [(none, fun fx O uu wx => uu = (Value.bool y52.2.1)), (none, fun fx O uu wx => uu = (Value.bool (!y52.2.1))), (none, fun fx O uu wx => uu = (Value.bool (!y52.2.1))), (none, fun fx O uu wx => uu = v94), (none, fun fx O uu wx => uu = (Value.int .i64 ((y92.length : Nat) : Int))), (none, fun fx O uu wx => uu = (Value.bool (decide (((y92.length : Nat) : Int) = 1)))), (none, fun fx O uu wx => uu = (Value.bool b96)), (none, fun fx O uu wx => uu = (Value.bool b96)), (none, fun fx O uu wx => uu = v94), (none, fun fx O uu wx => ∃ (p98 : Nat) (o99 : Nat), uu = (Value.pointer (some ⟨p98, o99, none⟩)) ∧ (G F w.heap.size (un (inBlk (PV p73)) (un (inBlk (PV p29)) (un (inBlk (PV p21)) (un (inBlk (PV p5)) (un (inBlk z54) (un (inBlk z55) nb))))))) p98 ∧ Seg wx p98 o99 (Key.enc y104)), (none, fun fx O uu wx => uu = (Value.agg (Key.enc y104).toArray)), (none, fun fx O uu wx => uu = (Value.agg (Key.enc ({ space := (⟨#[97]⟩ : ByteArray), name := (⟨#[115, 49]⟩ : ByteArray) } : Key)).toArray)), (none, fun fx O uu wx => uu = (Value.bool (decide (y104 = ({ space := (⟨#[97]⟩ : ByteArray), name := (⟨#[115, 49]⟩ : ByteArray) } : Key))))), (none, fun fx O uu wx => uu = (Value.bool b106))] [[], [0], [1], [2], [2, 3], [2, 4], [2, 5], [6], [7], [7, 8], [7, 9], [7], [7, 10, 11], [7, 12]] [13] nb (fun _ h => h.elim) mixed rfl rfl rfl rfl ?_ ?_
    ·
     refine Each.consS (fun fl O wk hE hN hO ck => ?_) ?_
     ·
      refine rl_move rfl rfl ?_
      exact RL.nil ⟨_, rfl, Ch.refl, rfl⟩
     refine Each.consS (fun fl O wk hE hN hO ck => ?_) ?_
     ·
      refine Need.o1 rfl rfl rfl (fun _ h => h) ?_
      refine rl_not rfl rfl ?_
      exact RL.nil ⟨_, rfl, Ch.refl, rfl⟩
     refine Each.consS (fun fl O wk hE hN hO ck => ?_) ?_
     ·
      refine Need.o1 rfl rfl rfl (fun _ h => h) ?_
      refine rl_move rfl rfl ?_
      exact RL.nil ⟨_, rfl, Ch.refl, rfl⟩
     refine Each.consS (fun fl O wk hE hN hO ck => ?_) ?_
     ·
      refine Need.o1 rfl rfl rfl (fun _ h => h) ?_
      refine RL.yes rfl rfl rfl hg108 ?_
      refine rl_move rfl rfl ?_
      exact RL.nil ⟨_, rfl, Ch.refl, rfl⟩
     refine Each.consS (fun fl O wk hE hN hO ck => ?_) ?_
     ·
      have h95 := slRep.ch k_Key_pos h95 ck
      refine Need.o1 rfl rfl rfl (fun _ h => h) ?_
      refine Need.o1 rfl rfl rfl (fun _ h => h) ?_
      refine RL.yes rfl rfl rfl hg108 ?_
      refine rl_lenR rfl h95 Try.underlying40 rfl ?_
      exact RL.nil ⟨_, rfl, Ch.refl, rfl⟩
     refine Each.consS (fun fl O wk hE hN hO ck => ?_) ?_
     ·
      refine Need.o1 rfl rfl rfl (fun _ h => h) ?_
      refine Need.o1 rfl rfl rfl (fun _ h => h) ?_
      refine RL.yes rfl rfl rfl hg108 ?_
      refine rl_bin rfl rfl B.eql rfl ?_
      exact RL.nil ⟨_, rfl, Ch.refl, rfl⟩
     refine Each.consS (fun fl O wk hE hN hO ck => ?_) ?_
     ·
      refine Need.o1 rfl rfl rfl (fun _ h => h) ?_
      refine Need.o1 rfl rfl rfl (fun _ h => h) ?_
      refine rl_pickT rfl hg108 rfl rfl ?_
      exact RL.nil ⟨_, rfl, Ch.refl, congrArg Value.bool hs109⟩
     refine Each.consS (fun fl O wk hE hN hO ck => ?_) ?_
     ·
      refine Need.o1 rfl rfl rfl (fun _ h => h) ?_
      refine rl_move rfl rfl ?_
      exact RL.nil ⟨_, rfl, Ch.refl, rfl⟩
     refine Each.consS (fun fl O wk hE hN hO ck => ?_) ?_
     ·
      refine Need.o1 rfl rfl rfl (fun _ h => h) ?_
      refine RL.yes rfl rfl rfl hg110 ?_
      refine rl_move rfl rfl ?_
      exact RL.nil ⟨_, rfl, Ch.refl, rfl⟩
     refine Each.consA ⟨fun _ _ _ _ _ cc hh => by obtain ⟨p98, o99, e, hg103, hs102⟩ := hh; exact ⟨p98, o99, e, hg103, hs102.ch0 cc⟩, fun h => absurd rfl h, fun fl O wk hE hN hO ck => ?_⟩ ?_
     ·
      have h95 := slRep.ch k_Key_pos h95 ck
      refine Need.o1 rfl rfl rfl (fun _ h => h) ?_
      refine Need.o1 rfl rfl rfl (fun _ h => h) ?_
      refine RL.yes rfl rfl rfl hg110 ?_
      refine rl_ixI rfl h95 rfl (ixO_get hy105) Try.underlying40 Try.sizeOf32 rfl ?_
      intro p125 o126 cs127 hr128 hs129 hg130
      obtain rfl := hr128
      exact RL.nil ⟨_, rfl, Ch.refl, ⟨p125, o126, rfl, hg130, hs129⟩⟩
     refine Each.consS (fun fl O wk hE hN hO ck => ?_) ?_
     ·
      refine Need.o1 rfl rfl rfl (fun _ h => h) ?_
      refine Need.one rfl rfl rfl ?_
      rintro _ ⟨p98, o99, e132, hg103, hs102⟩
      obtain rfl := e132.symm
      refine RL.yes rfl rfl rfl hg110 ?_
      refine rl_loadA (cs := (Key.enc y104)) rfl Try.isAgg32 Try.sizeOf32 (hs102) rfl rfl ?_
      exact RL.nil ⟨_, rfl, Ch.refl, rfl⟩
     refine Each.consS (fun fl O wk hE hN hO ck => ?_) ?_
     ·
      have k41 := k41.ch0 ck
      refine Need.o1 rfl rfl rfl (fun _ h => h) ?_
      refine RL.yes rfl rfl rfl hg110 ?_
      refine rl_loadA (cs := (Key.enc ({ space := (⟨#[97]⟩ : ByteArray), name := (⟨#[115, 49]⟩ : ByteArray) } : Key))) rfl Try.isAgg32 Try.sizeOf32 (k41.segAt 0 2) rfl rfl ?_
      exact RL.nil ⟨_, rfl, Ch.refl, rfl⟩
     refine Each.consS (fun fl O wk hE hN hO ck => ?_) ?_
     ·
      refine Need.o1 rfl rfl rfl (fun _ h => h) ?_
      refine Need.o1 rfl rfl rfl (fun _ h => h) ?_
      refine Need.o1 rfl rfl rfl (fun _ h => h) ?_
      refine RL.yes rfl rfl rfl hg110 ?_
      refine rl_bin rfl rfl (eql32 y104 ({ space := (⟨#[97]⟩ : ByteArray), name := (⟨#[115, 49]⟩ : ByteArray) } : Key)) rfl ?_
      exact RL.nil ⟨_, rfl, Ch.refl, rfl⟩
     refine Each.consS (fun fl O wk hE hN hO ck => ?_) ?_
     ·
      refine Need.o1 rfl rfl rfl (fun _ h => h) ?_
      refine Need.o1 rfl rfl rfl (fun _ h => h) ?_
      refine rl_pickT rfl hg110 rfl rfl ?_
      exact RL.nil ⟨_, rfl, Ch.refl, congrArg Value.bool (Option.some.inj hs111)⟩
     trivial
    intro hvO141 OpO141 O141 w139 hO142 c140 hN143
    refine Need.o1 rfl rfl rfl (fun _ h => h) ?_
    refine rl_assign rfl rfl ?_
    exact RL.nil ⟨rfl, ⟨rfl, trivial⟩, c140⟩
   have hs145 := andO_f hg110 hb107
   refine CW.draw 14 [(none, fun fx O uu wx => uu = (Value.bool y52.2.1)), (none, fun fx O uu wx => uu = (Value.bool (!y52.2.1))), (none, fun fx O uu wx => uu = (Value.bool (!y52.2.1))), (none, fun fx O uu wx => uu = v94), (none, fun fx O uu wx => uu = (Value.int .i64 ((y92.length : Nat) : Int))), (none, fun fx O uu wx => uu = (Value.bool (decide (((y92.length : Nat) : Int) = 1)))), (none, fun fx O uu wx => uu = (Value.bool b96)), (none, fun fx O uu wx => uu = (Value.bool b96)), (none, fun _ O uu wx => uu = undef), (none, fun _ O uu wx => uu = undef), (none, fun _ O uu wx => uu = undef), (none, fun _ O uu wx => uu = undef), (none, fun _ O uu wx => uu = undef), (none, fun fx O uu wx => uu = (Value.bool b106))] [[], [0], [1], [2], [2, 3], [2, 4], [2, 5], [6], [7], [7], [7], [7], [7], [7]] [13] nb (fun _ h => h.elim) mixed rfl rfl rfl rfl ?_ ?_
   ·
    refine Each.consS (fun fl O wk hE hN hO ck => ?_) ?_
    ·
     refine rl_move rfl rfl ?_
     exact RL.nil ⟨_, rfl, Ch.refl, rfl⟩
    refine Each.consS (fun fl O wk hE hN hO ck => ?_) ?_
    ·
     refine Need.o1 rfl rfl rfl (fun _ h => h) ?_
     refine rl_not rfl rfl ?_
     exact RL.nil ⟨_, rfl, Ch.refl, rfl⟩
    refine Each.consS (fun fl O wk hE hN hO ck => ?_) ?_
    ·
     refine Need.o1 rfl rfl rfl (fun _ h => h) ?_
     refine rl_move rfl rfl ?_
     exact RL.nil ⟨_, rfl, Ch.refl, rfl⟩
    refine Each.consS (fun fl O wk hE hN hO ck => ?_) ?_
    ·
     refine Need.o1 rfl rfl rfl (fun _ h => h) ?_
     refine RL.yes rfl rfl rfl hg108 ?_
     refine rl_move rfl rfl ?_
     exact RL.nil ⟨_, rfl, Ch.refl, rfl⟩
    refine Each.consS (fun fl O wk hE hN hO ck => ?_) ?_
    ·
     have h95 := slRep.ch k_Key_pos h95 ck
     refine Need.o1 rfl rfl rfl (fun _ h => h) ?_
     refine Need.o1 rfl rfl rfl (fun _ h => h) ?_
     refine RL.yes rfl rfl rfl hg108 ?_
     refine rl_lenR rfl h95 Try.underlying40 rfl ?_
     exact RL.nil ⟨_, rfl, Ch.refl, rfl⟩
    refine Each.consS (fun fl O wk hE hN hO ck => ?_) ?_
    ·
     refine Need.o1 rfl rfl rfl (fun _ h => h) ?_
     refine Need.o1 rfl rfl rfl (fun _ h => h) ?_
     refine RL.yes rfl rfl rfl hg108 ?_
     refine rl_bin rfl rfl B.eql rfl ?_
     exact RL.nil ⟨_, rfl, Ch.refl, rfl⟩
    refine Each.consS (fun fl O wk hE hN hO ck => ?_) ?_
    ·
     refine Need.o1 rfl rfl rfl (fun _ h => h) ?_
     refine Need.o1 rfl rfl rfl (fun _ h => h) ?_
     refine rl_pickT rfl hg108 rfl rfl ?_
     exact RL.nil ⟨_, rfl, Ch.refl, congrArg Value.bool hs109⟩
    refine Each.consS (fun fl O wk hE hN hO ck => ?_) ?_
    ·
     refine Need.o1 rfl rfl rfl (fun _ h => h) ?_
     refine rl_move rfl rfl ?_
     exact RL.nil ⟨_, rfl, Ch.refl, rfl⟩
    refine Each.consS (fun fl O wk hE hN hO ck => ?_) ?_
    ·
     refine Need.o1 rfl rfl rfl (fun _ h => h) ?_
     refine RL.no rfl rfl rfl hg110 rfl rfl ?_
     exact RL.nil ⟨_, rfl, Ch.refl, rfl⟩
    refine Each.consS (fun fl O wk hE hN hO ck => ?_) ?_
    ·
     refine Need.o1 rfl rfl rfl (fun _ h => h) ?_
     refine RL.no rfl rfl rfl hg110 rfl rfl ?_
     exact RL.nil ⟨_, rfl, Ch.refl, rfl⟩
    refine Each.consS (fun fl O wk hE hN hO ck => ?_) ?_
    ·
     refine Need.o1 rfl rfl rfl (fun _ h => h) ?_
     refine RL.no rfl rfl rfl hg110 rfl rfl ?_
     exact RL.nil ⟨_, rfl, Ch.refl, rfl⟩
    refine Each.consS (fun fl O wk hE hN hO ck => ?_) ?_
    ·
     refine Need.o1 rfl rfl rfl (fun _ h => h) ?_
     refine RL.no rfl rfl rfl hg110 rfl rfl ?_
     exact RL.nil ⟨_, rfl, Ch.refl, rfl⟩
    refine Each.consS (fun fl O wk hE hN hO ck => ?_) ?_
    ·
     refine Need.o1 rfl rfl rfl (fun _ h => h) ?_
     refine RL.no rfl rfl rfl hg110 rfl rfl ?_
     exact RL.nil ⟨_, rfl, Ch.refl, rfl⟩
    refine Each.consS (fun fl O wk hE hN hO ck => ?_) ?_
    ·
     refine Need.o1 rfl rfl rfl (fun _ h => h) ?_
     refine rl_pickF rfl hg110 rfl rfl ?_
     exact RL.nil ⟨_, rfl, Ch.refl, congrArg Value.bool (Option.some.inj hs145)⟩
    trivial
   intro hvO164 OpO164 O164 w162 hO165 c163 hN166
   refine Need.o1 rfl rfl rfl (fun _ h => h) ?_
   refine rl_assign rfl rfl ?_
   exact RL.nil ⟨rfl, ⟨rfl, trivial⟩, c163⟩
  have hs168 := and_f hg108 hb97
  have hs169 := andO_f hs168.symm hb107
  refine CW.draw 14 [(none, fun fx O uu wx => uu = (Value.bool y52.2.1)), (none, fun fx O uu wx => uu = (Value.bool (!y52.2.1))), (none, fun fx O uu wx => uu = (Value.bool (!y52.2.1))), (none, fun _ O uu wx => uu = undef), (none, fun _ O uu wx => uu = undef), (none, fun _ O uu wx => uu = undef), (none, fun fx O uu wx => uu = (Value.bool b96)), (none, fun fx O uu wx => uu = (Value.bool b96)), (none, fun _ O uu wx => uu = undef), (none, fun _ O uu wx => uu = undef), (none, fun _ O uu wx => uu = undef), (none, fun _ O uu wx => uu = undef), (none, fun _ O uu wx => uu = undef), (none, fun fx O uu wx => uu = (Value.bool b106))] [[], [0], [1], [2], [2], [2], [2], [6], [7], [7], [7], [7], [7], [7]] [13] nb (fun _ h => h.elim) mixed rfl rfl rfl rfl ?_ ?_
  ·
   refine Each.consS (fun fl O wk hE hN hO ck => ?_) ?_
   ·
    refine rl_move rfl rfl ?_
    exact RL.nil ⟨_, rfl, Ch.refl, rfl⟩
   refine Each.consS (fun fl O wk hE hN hO ck => ?_) ?_
   ·
    refine Need.o1 rfl rfl rfl (fun _ h => h) ?_
    refine rl_not rfl rfl ?_
    exact RL.nil ⟨_, rfl, Ch.refl, rfl⟩
   refine Each.consS (fun fl O wk hE hN hO ck => ?_) ?_
   ·
    refine Need.o1 rfl rfl rfl (fun _ h => h) ?_
    refine rl_move rfl rfl ?_
    exact RL.nil ⟨_, rfl, Ch.refl, rfl⟩
   refine Each.consS (fun fl O wk hE hN hO ck => ?_) ?_
   ·
    refine Need.o1 rfl rfl rfl (fun _ h => h) ?_
    refine RL.no rfl rfl rfl hg108 rfl rfl ?_
    exact RL.nil ⟨_, rfl, Ch.refl, rfl⟩
   refine Each.consS (fun fl O wk hE hN hO ck => ?_) ?_
   ·
    refine Need.o1 rfl rfl rfl (fun _ h => h) ?_
    refine RL.no rfl rfl rfl hg108 rfl rfl ?_
    exact RL.nil ⟨_, rfl, Ch.refl, rfl⟩
   refine Each.consS (fun fl O wk hE hN hO ck => ?_) ?_
   ·
    refine Need.o1 rfl rfl rfl (fun _ h => h) ?_
    refine RL.no rfl rfl rfl hg108 rfl rfl ?_
    exact RL.nil ⟨_, rfl, Ch.refl, rfl⟩
   refine Each.consS (fun fl O wk hE hN hO ck => ?_) ?_
   ·
    refine Need.o1 rfl rfl rfl (fun _ h => h) ?_
    refine rl_pickF rfl hg108 rfl rfl ?_
    exact RL.nil ⟨_, rfl, Ch.refl, congrArg Value.bool hs168⟩
   refine Each.consS (fun fl O wk hE hN hO ck => ?_) ?_
   ·
    refine Need.o1 rfl rfl rfl (fun _ h => h) ?_
    refine rl_move rfl rfl ?_
    exact RL.nil ⟨_, rfl, Ch.refl, rfl⟩
   refine Each.consS (fun fl O wk hE hN hO ck => ?_) ?_
   ·
    refine Need.o1 rfl rfl rfl (fun _ h => h) ?_
    refine RL.no rfl rfl rfl hs168.symm rfl rfl ?_
    exact RL.nil ⟨_, rfl, Ch.refl, rfl⟩
   refine Each.consS (fun fl O wk hE hN hO ck => ?_) ?_
   ·
    refine Need.o1 rfl rfl rfl (fun _ h => h) ?_
    refine RL.no rfl rfl rfl hs168.symm rfl rfl ?_
    exact RL.nil ⟨_, rfl, Ch.refl, rfl⟩
   refine Each.consS (fun fl O wk hE hN hO ck => ?_) ?_
   ·
    refine Need.o1 rfl rfl rfl (fun _ h => h) ?_
    refine RL.no rfl rfl rfl hs168.symm rfl rfl ?_
    exact RL.nil ⟨_, rfl, Ch.refl, rfl⟩
   refine Each.consS (fun fl O wk hE hN hO ck => ?_) ?_
   ·
    refine Need.o1 rfl rfl rfl (fun _ h => h) ?_
    refine RL.no rfl rfl rfl hs168.symm rfl rfl ?_
    exact RL.nil ⟨_, rfl, Ch.refl, rfl⟩
   refine Each.consS (fun fl O wk hE hN hO ck => ?_) ?_
   ·
    refine Need.o1 rfl rfl rfl (fun _ h => h) ?_
    refine RL.no rfl rfl rfl hs168.symm rfl rfl ?_
    exact RL.nil ⟨_, rfl, Ch.refl, rfl⟩
   refine Each.consS (fun fl O wk hE hN hO ck => ?_) ?_
   ·
    refine Need.o1 rfl rfl rfl (fun _ h => h) ?_
    refine rl_pickF rfl hs168.symm rfl rfl ?_
    exact RL.nil ⟨_, rfl, Ch.refl, congrArg Value.bool (Option.some.inj hs169)⟩
   trivial
  intro hvO185 OpO185 O185 w183 hO186 c184 hN187
  refine Need.o1 rfl rfl rfl (fun _ h => h) ?_
  refine rl_assign rfl rfl ?_
  exact RL.nil ⟨rfl, ⟨rfl, trivial⟩, c184⟩
 rintro _ w190 ⟨hE189, c191⟩
 have c0 := c0.then0 c191
 refine thn_n (CW.sub [(0, (Value.bool b106))] hE189 ?_)
 refine CW.ret ?_
 obtain rfl := Option.some.inj hS
 exact ret1 rfl ⟨rfl, c0⟩
/-- lb/lblaw16.Long -/
theorem ctr6 (F : Nat → Prop) (w : World) (a0 : (List Act)) (av0 : Value) (ah0 : slRep k_Act F w a0 av0) (r : Bool) (hs : F6_Long a0 = r) :
    Ret Try.prog 6 #[av0] w fun v w' => v = (Value.bool r) ∧ Ch nb w w' := by
 have hS := hs
 have c0 : Ch nb w w := Ch.refl
 have ah0 := slRep.enter k_Act_pos ah0
 refine Ret.of (n := 41) (args := [_]) (rs := [.tmp 2]) Try.func6 rfl rfl rfl rfl ?_
 refine CW.seq (CW.region ?_)
 refine rl_assign rfl rfl ?_
 refine RL.nil (thn_n (CW.seq ?_))
 refine CW.seq (CW.region ?_)
 refine rl_move rfl rfl ?_
 refine rl_lenR rfl ah0 Try.underlying22 rfl ?_
 refine rl_bin rfl rfl B.gtr rfl ?_
 refine RL.nil (thn_n ?_)
 refine CW.cond (t := decide (((a0.length : Nat) : Int) > 40)) rfl (fun q1 => ?_) (fun q1 => ?_)
 ·
  have hS := ifT q1 hS
  refine CW.seq (CW.region ?_)
  refine rl_assign rfl rfl ?_
  refine RL.nil (thn_n (CW.ret ?_))
  refine thn_ret ?_
  obtain rfl := hS
  exact ret1 rfl ⟨rfl, c0⟩
 have hS := ifF q1 hS
 refine CW.skip ?_
 refine thn_n (CW.seq ?_)
 refine CW.seq (CW.region ?_)
 refine rl_move rfl rfl ?_
 refine rl_lenR rfl ah0 Try.underlying22 rfl ?_
 refine rl_move rfl rfl ?_
 refine RL.nil (thn_n ?_)
 obtain ⟨o9, ho10⟩ : ∃ o, runB F6_Long_b1 a0 () = o := ⟨_, rfl⟩
 have hS := ltS ho10 hS
 refine CW.cutB (fun E' w' => ∃ (_ : Unit), Sub [] E' ∧ Ch nb w w' ∧ Lp.fin () = o9 ∧ slRep k_Act (G F w.heap.size nb) w' a0 av0) ?_ ?_
 ·
  refine CW.loopS [(8, av0), (9, (Value.int .i64 ((a0.length : Nat) : Int))), (10, (Value.int .i64 ((0 : Nat) : Int)))] ⟨rfl, rfl, rfl, trivial⟩ a0.length (fun m E w' => ∃ (rest2 : List Act) (i3 : Nat) , m = rest2.length ∧ E = [(8, av0), (9, (Value.int .i64 ((a0.length : Nat) : Int))), (10, (Value.int .i64 ((i3 : Nat) : Int)))] ∧ Ch nb w w' ∧ At a0 i3 rest2 ∧ runB F6_Long_b1 rest2 () = o9 ∧ slRep k_Act (G F w.heap.size nb) w' a0 av0)
      ⟨a0, 0, rfl, rfl, c0, At.start, ho10, ah0⟩ ?_
  rintro _ _ w15 ⟨rest2, i3, rfl, rfl, c14, hat5, hL4, ah0⟩
  refine CW.seq (CW.region ?_)
  refine rl_bin rfl rfl B.lss rfl ?_
  refine RL.nil (thn_n ?_)
  refine CW.seq ?_
  refine CW.cond (t := decide (((i3 : Nat) : Int) < ((a0.length : Nat) : Int))) rfl (fun q17 => ?_) (fun q17 => ?_)
  ·
   obtain ⟨x11, rest18, rfl⟩ := hat5.cons q17
   obtain ⟨q6, hq7⟩ : ∃ q, F6_Long_b1 x11 () = q := ⟨_, rfl⟩
   have hb8 := hq7
   refine CW.skip (thn_n ?_)
   refine CW.seq ?_
   refine CW.block ?_
   refine CW.seq (CW.region ?_)
   refine rl_ixR rfl ah0 rfl hat5.get Try.underlying22 Try.sizeOf34 rfl ?_
   intro p19 o20 cs21 hr22 hs23 hg24
   obtain rfl := hr22
   refine rl_loadA (cs := (Act.enc x11)) rfl Try.isAgg34 Try.sizeOf34 (hs23) rfl rfl ?_
   refine rl_alloc (Act.enc Act.z) Try.zeroValue34 rfl rfl ?_
   intro p25 w26 n27 k28
   have lo29 : ∀ b, inBlk (PV p25) b → w.heap.size ≤ b := fun b h => Nat.le_trans c14.size (n27.fresh b h)
   have ah0 := slRep.st k_Act_pos ah0 n27.ch (admNew n27.fresh (fun _ x => x))
   have c14 := c14.then0 n27.ch
   refine rl_storeA (vs := (Act.enc x11)) rfl rfl (all_one rfl) Try.sizeOf34 rfl k28 rfl ?_
   intro w30 s32 c31 k33
   have ad34 : ∀ b, b < w26.heap.size → ¬ (un (inBlk (PV p25)) nb) b → ¬ (inBlk (PV p25)) b ∧ ¬ (un (inBlk (PV p25)) nb) b := fun b _ hs => ⟨fun h => hs (.inl h), hs⟩
   have ah0 := slRep.st k_Act_pos ah0 c31 ad34
   have c14 := c14.then c31 (fun i hi h => absurd (lo29 i h) (Nat.not_le_of_lt hi))
   refine RL.nil (thn_n (CW.seq (CW.region ?_)))
   refine rl_fieldAddr rfl fa34_1 rfl ?_
   refine rl_fieldAddr rfl fa32_0 rfl ?_
   refine rl_loadS (v := (Value.string x11.slice.space)) rfl Try.isAgg9 (k33.cell rfl) rfl ?_
   refine rl_lenStr rfl Try.underlying9 rfl ?_
   refine rl_bin rfl rfl B.gtr rfl ?_
   refine rl_move rfl rfl ?_
   obtain ⟨b37, hb38⟩ : ∃ v, ((decide (((x11.slice.space.size : Nat) : Int) > 100)) || (decide (((x11.slice.name.size : Nat) : Int) > 100))) = v := ⟨_, rfl⟩
   have hb8 := ltS hb38 hb8
   refine RL.join 6 25 (.bool b37) (fun w' => Ch nb w30 w') ?_ ?_
   · rcases Bool.eq_false_or_eq_true (decide (((x11.slice.space.size : Nat) : Int) > 100)) with hg36 | hg36
     ·
      have hs35 := or_t hg36 hb38
      have cs : Ch nb w30 w30 := Ch.refl
      refine RL.no rfl rfl rfl hg36 rfl rfl ?_
      refine RL.no rfl rfl rfl hg36 rfl rfl ?_
      refine RL.no rfl rfl rfl hg36 rfl rfl ?_
      refine RL.no rfl rfl rfl hg36 rfl rfl ?_
      refine RL.no rfl rfl rfl hg36 rfl rfl ?_
      refine rl_pickT rfl hg36 rfl rfl ?_
      exact RL.nil ⟨Ext.bothEq (congrArg Value.bool hs35) (Ext.skip rfl (Ext.skip rfl (Ext.skip rfl (Ext.skip rfl (Ext.skip rfl (Ext.rfl')))))), cs⟩
     ·
      have hs35 := or_f hg36 hb38
      have cs : Ch nb w30 w30 := Ch.refl
      refine RL.yes rfl rfl rfl hg36 ?_
      refine rl_fieldAddr rfl fa34_1 rfl ?_
      refine RL.yes rfl rfl rfl hg36 ?_
      refine rl_fieldAddr rfl fa32_1 rfl ?_
      refine RL.yes rfl rfl rfl hg36 ?_
      refine rl_loadS (v := (Value.string x11.slice.name)) rfl Try.isAgg9 (k33.cell rfl) rfl ?_
      refine RL.yes rfl rfl rfl hg36 ?_
      refine rl_lenStr rfl Try.underlying9 rfl ?_
      refine RL.yes rfl rfl rfl hg36 ?_
      refine rl_bin rfl rfl B.gtr rfl ?_
      refine rl_pickF rfl hg36 rfl rfl ?_
      exact RL.nil ⟨Ext.bothEq (congrArg Value.bool hs35) (Ext.skip rfl (Ext.skip rfl (Ext.skip rfl (Ext.skip rfl (Ext.skip rfl (Ext.rfl')))))), cs⟩
   intro w39 c40
   have ah0 := slRep.ch k_Act_pos ah0 c40
   have k33 := k33.ch0 c40
   have c14 := c14.then0 c40
   refine rl_move rfl rfl ?_
   obtain ⟨b43, hb44⟩ : ∃ v, (b37 || (decide (((x11.owner.space.size : Nat) : Int) > 100))) = v := ⟨_, rfl⟩
   have hb8 := ltS hb44 hb8
   refine RL.join 6 32 (.bool b43) (fun w' => Ch nb w39 w') ?_ ?_
   · rcases Bool.eq_false_or_eq_true b37 with hg42 | hg42
     ·
      have hs41 := or_t hg42 hb44
      have cs : Ch nb w39 w39 := Ch.refl
      refine RL.no rfl rfl rfl hg42 rfl rfl ?_
      refine RL.no rfl rfl rfl hg42 rfl rfl ?_
      refine RL.no rfl rfl rfl hg42 rfl rfl ?_
      refine RL.no rfl rfl rfl hg42 rfl rfl ?_
      refine RL.no rfl rfl rfl hg42 rfl rfl ?_
      refine rl_pickT rfl hg42 rfl rfl ?_
      exact RL.nil ⟨Ext.bothEq (congrArg Value.bool hs41) (Ext.skip rfl (Ext.skip rfl (Ext.skip rfl (Ext.skip rfl (Ext.skip rfl (Ext.rfl')))))), cs⟩
     ·
      have hs41 := or_f hg42 hb44
      have cs : Ch nb w39 w39 := Ch.refl
      refine RL.yes rfl rfl rfl hg42 ?_
      refine rl_fieldAddr rfl fa34_2 rfl ?_
      refine RL.yes rfl rfl rfl hg42 ?_
      refine rl_fieldAddr rfl fa32_0 rfl ?_
      refine RL.yes rfl rfl rfl hg42 ?_
      refine rl_loadS (v := (Value.string x11.owner.space)) rfl Try.isAgg9 (k33.cell rfl) rfl ?_
      refine RL.yes rfl rfl rfl hg42 ?_
      refine rl_lenStr rfl Try.underlying9 rfl ?_
      refine RL.yes rfl rfl rfl hg42 ?_
      refine rl_bin rfl rfl B.gtr rfl ?_
      refine rl_pickF rfl hg42 rfl rfl ?_
      exact RL.nil ⟨Ext.bothEq (congrArg Value.bool hs41) (Ext.skip rfl (Ext.skip rfl (Ext.skip rfl (Ext.skip rfl (Ext.skip rfl (Ext.rfl')))))), cs⟩
   intro w45 c46
   have ah0 := slRep.ch k_Act_pos ah0 c46
   have k33 := k33.ch0 c46
   have c14 := c14.then0 c46
   refine rl_move rfl rfl ?_
   obtain ⟨b49, hb50⟩ : ∃ v, (b43 || (decide (((x11.owner.name.size : Nat) : Int) > 100))) = v := ⟨_, rfl⟩
   have hb8 := ltS hb50 hb8
   refine RL.join 6 39 (.bool b49) (fun w' => Ch nb w45 w') ?_ ?_
   · rcases Bool.eq_false_or_eq_true b43 with hg48 | hg48
     ·
      have hs47 := or_t hg48 hb50
      have cs : Ch nb w45 w45 := Ch.refl
      refine RL.no rfl rfl rfl hg48 rfl rfl ?_
      refine RL.no rfl rfl rfl hg48 rfl rfl ?_
      refine RL.no rfl rfl rfl hg48 rfl rfl ?_
      refine RL.no rfl rfl rfl hg48 rfl rfl ?_
      refine RL.no rfl rfl rfl hg48 rfl rfl ?_
      refine rl_pickT rfl hg48 rfl rfl ?_
      exact RL.nil ⟨Ext.bothEq (congrArg Value.bool hs47) (Ext.skip rfl (Ext.skip rfl (Ext.skip rfl (Ext.skip rfl (Ext.skip rfl (Ext.rfl')))))), cs⟩
     ·
      have hs47 := or_f hg48 hb50
      have cs : Ch nb w45 w45 := Ch.refl
      refine RL.yes rfl rfl rfl hg48 ?_
      refine rl_fieldAddr rfl fa34_2 rfl ?_
      refine RL.yes rfl rfl rfl hg48 ?_
      refine rl_fieldAddr rfl fa32_1 rfl ?_
      refine RL.yes rfl rfl rfl hg48 ?_
      refine rl_loadS (v := (Value.string x11.owner.name)) rfl Try.isAgg9 (k33.cell rfl) rfl ?_
      refine RL.yes rfl rfl rfl hg48 ?_
      refine rl_lenStr rfl Try.underlying9 rfl ?_
      refine RL.yes rfl rfl rfl hg48 ?_
      refine rl_bin rfl rfl B.gtr rfl ?_
      refine rl_pickF rfl hg48 rfl rfl ?_
      exact RL.nil ⟨Ext.bothEq (congrArg Value.bool hs47) (Ext.skip rfl (Ext.skip rfl (Ext.skip rfl (Ext.skip rfl (Ext.skip rfl (Ext.rfl')))))), cs⟩
   intro w51 c52
   have ah0 := slRep.ch k_Act_pos ah0 c52
   have c14 := c14.then0 c52
   refine RL.nil (thn_n ?_)
   refine CW.cond (t := b49) rfl (fun q53 => ?_) (fun q53 => ?_)
   ·
    have hb8 := ifT q53 hb8
    refine CW.seq (CW.region ?_)
    refine rl_assign rfl rfl ?_
    refine RL.nil (thn_n (CW.ret ?_))
    refine inB_ret ?_
    refine thn_ret ?_
    refine thn_ret (inB_ret (thn_ret ?_))
    refine thn_ret ?_
    have f54 := runB_ret hL4 (hb8.trans hq7.symm)
    have hS := retS f54 hS
    obtain rfl := hS
    exact ret1 rfl ⟨rfl, c14⟩
   have hb8 := ifF q53 hb8
   refine CW.skip ?_
   refine inB_n ?_
   refine thn_n (CW.region ?_)
   refine rl_inc rfl hat5.lt ah0.big rfl ?_
   refine rl_move rfl rfl ?_
   refine RL.nil (thn_n ?_)
   have ad55 : ∀ b, b < w51.heap.size → ¬ (un (inBlk (PV p25)) nb) b → ¬ nb b ∧ ¬ nb b := fun b _ hs => ⟨fun x => x, fun h => hs (False.elim h)⟩
   have crf : Ch nb w51 w51 := Ch.refl
   have ah0 := slRep.st k_Act_pos ah0 crf ad55
   have c14 := c14.then0 crf
   have hLn := runB_next hL4 (hb8.trans hq7.symm)
   exact ⟨rest18.length, Nat.lt_succ_self _, [(8, av0), (9, (Value.int .i64 ((a0.length : Nat) : Int))), (10, (Value.int .i64 ((i3 + 1 : Nat) : Int)))], ⟨rfl, rfl, rfl, trivial⟩, ⟨rest18, i3 + 1, rfl, rfl, c14, hat5.next, hLn, ah0⟩⟩
  obtain rfl := hat5.nil q17
  have hLf : Lp.fin () = o9 := hL4
  refine CW.exit (thn_exit (thn_exit (inB_hit ?_)))
  exact ⟨(), trivial, c14, hLf, ah0⟩
 rintro _ w57 ⟨_, hE58, c56, f59, ah0⟩
 have hS := finS f59 hS
 refine thn_n (CW.sub [] hE58 ?_)
 refine CW.seq (CW.region ?_)
 refine rl_assign rfl rfl ?_
 refine RL.nil (thn_n (CW.ret ?_))
 obtain rfl := hS
 exact ret1 rfl ⟨rfl, c56⟩
/-- maps.Keys[map[lb/api.Key]lb/index.set,lb/api.Key,lb/index.set]$1 -/
theorem it31 {w : World} {m : List (Key × (Option Nat))} {v : Value} {b : Nat} (hb : Blk w b 45 [v]) (hm : MpN (fun x => Value.agg (Key.enc x).toArray) Value.map w m v) : Seq Try.prog (fun x => Value.agg (Key.enc x).toArray) w (m.map (·.1)) (.func (.func 31) #[] [PV b].toArray) := by
  refine ⟨31, [PV b], rfl, en31, fun W c0 l J hJ hY h0 => ?_⟩
  have hb1 := hb.ch0 c0
  have hm1 := hm.ch0 c0
  refine Ret.of (n := 14) (args := [_, _]) (rs := []) Try.func31 rfl rfl rfl rfl ?_
  refine CW.seq (CW.region ?_)
  refine rl_loadS (v := v) rfl Try.isAgg45 (hb1.cell rfl) rfl ?_
  refine rl_range rfl hm1 Try.underlying45 rfl ?_
  intro r W1 hn hw
  refine RL.nil (thn_n ?_)
  refine CW.block ?_
  refine CW.loopS [(0, .func (.yield l) #[] #[]), (5, PV r)] ⟨rfl, rfl, trivial⟩ m.length (fun k E' W' => ∃ (todo : List (Key × (Option Nat))) (ys : List Key), todo.length = k ∧ E' = [(0, .func (.yield l) #[] #[]), (5, PV r)] ∧ (ys ++ todo.map (·.1)).Perm (m.map (·.1)) ∧ J ys W' ∧ Walk (fun x => Value.agg (Key.enc x).toArray) Value.map W' m todo v r ∧ W.heap.size ≤ r)
    ⟨m, [], rfl, rfl, .refl _, hJ _ _ _ h0 (hn.ch.mono fun _ _ h => h.elim), hw, by rw [hn.eq]; exact Nat.le_refl _⟩ ?_
  rintro k _ W2 ⟨todo, ys, rfl, rfl, hp, hj, hw, hr⟩
  refine CW.seq (CW.region ?_)
  refine rl_next rfl hw rfl ?_ ?_
  · rintro rfl
    refine rl_extract rfl rfl rfl ?_
    refine RL.nil (thn_n ?_)
    refine CW.seq ?_
    refine CW.no rfl ?_
    refine CW.exit (thn_exit (thn_exit (inB_hit ?_)))
    exact ⟨[], trivial, ys, by simpa using hp, hj⟩
  · intro k x todo' W3 hpt c3 hw3 hen
    have hj3 := hJ _ _ _ hj (c3.mono fun i _ h => ⟨by have e : r = i := h; omega, by have e : r = i := h; subst e; exact hw.iter⟩)
    have hlen : ys.length < (m.map (·.1)).length := by have h1 := hp.length_eq; have h2 := hpt.length_eq; simp only [List.length_append, List.length_map, List.length_cons] at h1 h2 ⊢; omega
    refine rl_extract rfl rfl rfl ?_
    refine RL.nil (thn_n ?_)
    refine CW.seq ?_
    refine CW.yes rfl ?_
    refine CW.skip (thn_n ?_)
    refine CW.block ?_
    refine CW.seq (CW.region ?_)
    refine rl_entry rfl hen rfl ?_
    refine rl_extract rfl rfl rfl ?_
    refine rl_alloc [.string ⟨#[]⟩, .string ⟨#[]⟩] Try.zeroValue32 rfl rfl ?_
    intro p W4 hn4 hk4
    refine rl_storeA (vs := Key.enc k) rfl rfl (all_one rfl) Try.sizeOf32 rfl hk4 rfl ?_
    intro W5 hs5 c5 hk5
    have c45 : Ch nb W3 W5 := hn4.ch.then c5 fun i hi h => by have e : p = i := h; have := hn4.eq; omega
    have hw5 := hw3.ch0 c45
    have hj5 := hJ _ _ _ hj3 (c45.mono fun _ _ h => h.elim)
    refine RL.nil (thn_n ?_)
    refine CW.seq (CW.regionI ?_)
    refine RLI.preK 2 rfl ?_
    refine rl_move rfl rfl ?_
    refine rl_loadA (cs := Key.enc k) rfl Try.isAgg32 Try.sizeOf32 (hk5.segAt 0 2) rfl rfl ?_
    refine RL.nil ?_
    refine RLI.yield rfl rfl rfl (hY ys k _ hj5 hlen) ?_
    rintro e W6 ⟨rfl, hj6, hk6⟩
    refine ⟨_, rfl, ?_⟩
    have hw6 := hw5.keep fun b o hb ho => hk6.same b o hb ho
    refine RLI.preK 1 rfl ?_
    refine rl_not rfl rfl ?_
    refine RL.nil ?_
    refine RLI.nil fun a ha => ⟨_, ha, thn_n ?_⟩
    refine CW.no rfl ?_
    refine CW.skip (inB_n (thn_n ?_))
    exact ⟨todo'.length, by have := hpt.length_eq; simp only [List.length_cons] at this; omega, [(0, .func (.yield l) #[] #[]), (5, PV r)], ⟨rfl, rfl, trivial⟩, todo', ys ++ [k], rfl, rfl, by
      rw [List.append_assoc]; exact (((hpt.map (·.1)).symm.append_left ys).trans hp), hj6, hw6, hr⟩
/-- maps.Keys[map[lb/api.Key]lb/index.set,lb/api.Key,lb/index.set] -/
theorem ctr23 {w : World} {m : List (Key × (Option Nat))} {v : Value} (hm : MpN (fun x => Value.agg (Key.enc x).toArray) Value.map w m v) : Ret Try.prog 23 #[v] w fun u w' => Seq Try.prog (fun x => Value.agg (Key.enc x).toArray) w' (m.map (·.1)) u ∧ Ch nb w w' := by
  refine Ret.of (n := 4) (args := [_]) (rs := [.tmp 2]) Try.func23 rfl rfl rfl rfl ?_
  refine CW.seq (CW.region ?_)
  refine rl_box [v] rfl (by rw [hm.one.1]) rfl ?_
  intro b w1 hn hk
  refine rl_assign rfl rfl ?_
  refine RL.nil (thn_n ?_)
  refine CW.seq (CW.region ?_)
  refine rl_makeFunc rfl rfl ?_
  refine rl_assign rfl rfl ?_
  refine RL.nil (thn_n ?_)
  refine CW.ret ?_
  exact ret1 rfl ⟨it31 hk (hm.ch0 hn.ch), hn.ch⟩
/-- (*lb/index.Index).Owners -/
theorem ctr14 (F : Nat → Prop) (w : World) (Bb : Nat) (S2 : Nat → Prop) (hB : Bb ≤ w.heap.size) (h2 : ∀ b, S2 b → b < w.heap.size) (po0 : Nat) (az0_0 : Value) (az0_1 az0_1u : Value) (hd2 : ∀ b, (un (inBlk (PV po0)) (un (inBlk az0_0) (inBlk az0_1))) b → ¬ S2 b) (hx0_1 : ∀ b, inBlk (PV po0) b → ¬ inBlk az0_0 b) (hx0_2 : ∀ b, inBlk (PV po0) b → ¬ inBlk az0_1 b) (hx1_2 : ∀ b, inBlk az0_0 b → ¬ inBlk az0_1 b) (a0 : Index_2) (ah0 : Blk w po0 47 (Index_2.c a0 az0_0 az0_1u)) (ah0_0 : Mp (fun x => Value.agg (Key.enc x).toArray) (fun x => Value.agg (Key.enc x).toArray) w a0.owner az0_0) (ah0_1 : MM (fun x => Value.agg (Key.enc x).toArray) (fun x => Value.agg (Key.enc x).toArray) (fun x => Value.agg (St50.enc x).toArray) w a0.slices az0_1u az0_1) (r : (List Key)) (hs : F14_Owners a0 = some r) :
    Ret Try.prog 14 #[(PV po0)] w fun v w' => ∃ (y0 : Value), v = y0 ∧ SlO k_Key 32 (G F Bb (un (inBlk (PV po0)) (un (inBlk az0_0) (un (inBlk az0_1) S2)))) w.heap.size (inBlk y0) w' r y0 ∧ Ch nb w w' := by
 have hS := hs
 have c0 : Ch nb w w := Ch.refl
 refine Ret.of (n := 10) (args := [_]) (rs := [.tmp 2]) Try.func14 rfl rfl rfl rfl ?_
 refine CW.seq (CW.region ?_)
 refine rl_assign rfl rfl ?_
 refine RL.nil (thn_n (CW.seq (CW.region ?_)))
 refine rl_move rfl rfl ?_
 refine rl_nilCheck rfl rfl ?_
 refine rl_fieldAddr rfl fa47_1 rfl ?_
 refine rl_loadS (v := az0_1u) rfl Try.isAgg45 (ah0.cell rfl) rfl ?_
 obtain ⟨Q1, hQ2, eQ3, _⟩ := ah0_1.outer
 refine rl_callF rfl en23 rfl (ctr23 hQ2) ?_
 rintro u4 w5 ⟨h6, c7⟩
 rw [eQ3] at h6
 have ah0 := ah0.ch0 c7
 have ah0_0 := ah0_0.ch0 c7
 have ah0_1 := ah0_1.ch0 c7
 have c0 := c0.then0 c7
 refine rl_callF rfl en22 rfl (ctr22 (F := (G F Bb (un (inBlk (PV po0)) (un (inBlk az0_0) (un (inBlk az0_1) S2))))) h6 (anyPerm_lt hS)) ?_
 rintro v10 w11 ⟨ys8, hp9, h12, c13⟩
 have hS := anyPerm_el hS hp9
 have h12 := SlO.backR k_Key_pos h12 (un_lt ah0.ltp (un_lt ah0_0.ltp (un_lt ah0_1.ltp (fun b h => Nat.lt_of_lt_of_le (h2 b h) c0.size)))) (Nat.le_trans hB c0.size)
 have ah0 := ah0.ch0 c13
 have ah0_0 := ah0_0.ch0 c13
 have ah0_1 := ah0_1.ch0 c13
 have c0 := c0.then0 c13
 obtain ⟨y16, hy17, hS⟩ := bindS hS
 refine rl_callF rfl en21 rfl (ctr21 (G F Bb (un (inBlk (PV po0)) (un (inBlk az0_0) (un (inBlk az0_1) S2)))) w11 ys8 v10 h12 y16 hy17) ?_
 rintro v18 w14 ⟨_, rfl, h19, c15⟩
 have hf20 : ∀ b, inBlk v18 b → w11.heap.size ≤ b := fun b hb => (h19.lt b hb).1
 have h19 := SlO.back (S' := un (inBlk v18) (un (inBlk (PV po0)) (un (inBlk az0_0) (un (inBlk az0_1) S2)))) h19 (un_lt ah0.ltp (un_lt ah0_0.ltp (un_lt ah0_1.ltp (fun b h => Nat.lt_of_lt_of_le (h2 b h) c0.size)))) (Nat.le_trans hB c0.size) (fun _ => Or.comm)
 have lo21 : ∀ b, inBlk v18 b → w.heap.size ≤ b := fun b h => Nat.le_trans c0.size (hf20 b h)
 have c0 := c0.then0 c15
 refine rl_assign rfl rfl ?_
 refine RL.nil (thn_n (CW.ret ?_))
 obtain rfl := Option.some.inj hS
 exact ret1 rfl ⟨v18, rfl, (SlO.outP (fun h => h) h19 lo21), c0⟩
/-- (*lb/index.Index).Owner -/
theorem ctr18 (F : Nat → Prop) (w : World) (Bb : Nat) (S2 : Nat → Prop) (hB : Bb ≤ w.heap.size) (h2 : ∀ b, S2 b → b < w.heap.size) (po0 : Nat) (az0_0 : Value) (az0_1 az0_1u : Value) (hd2 : ∀ b, (un (inBlk (PV po0)) (un (inBlk az0_0) (inBlk az0_1))) b → ¬ S2 b) (hx0_1 : ∀ b, inBlk (PV po0) b → ¬ inBlk az0_0 b) (hx0_2 : ∀ b, inBlk (PV po0) b → ¬ inBlk az0_1 b) (hx1_2 : ∀ b, inBlk az0_0 b → ¬ inBlk az0_1 b) (a0 : Index_2) (ah0 : Blk w po0 47 (Index_2.c a0 az0_0 az0_1u)) (ah0_0 : Mp (fun x => Value.agg (Key.enc x).toArray) (fun x => Value.agg (Key.enc x).toArray) w a0.owner az0_0) (ah0_1 : MM (fun x => Value.agg (Key.enc x).toArray) (fun x => Value.agg (Key.enc x).toArray) (fun x => Value.agg (St50.enc x).toArray) w a0.slices az0_1u az0_1) (a1 : Key) (r : (Key × Bool)) (hs : F18_Owner a0 a1 = r) :
    Ret Try.prog 18 #[(PV po0), (Value.agg (Key.enc a1).toArray)] w fun v w' => v = Value.tuple #[(Value.agg (Key.enc r.1).toArray), (Value.bool r.2)] ∧ Ch nb w w' := by
 have hS := hs
 have c0 : Ch nb w w := Ch.refl
 refine Ret.of (n := 19) (args := [_, _]) (rs := [.cell 4 32, .tmp 5]) Try.func18 rfl rfl rfl rfl ?_
 refine CW.seq (CW.region ?_)
 refine rl_boxA (cs := (Key.enc a1)) rfl rfl ?_
 intro p1 w2 n3 k4
 have ah0 := ah0.ch0 n3.ch
 have ah0_0 := ah0_0.ch0 n3.ch
 have c0 := c0.then0 n3.ch
 refine rl_alloc (Key.enc Key.z) Try.zeroValue32 rfl rfl ?_
 intro p5 w6 n7 k8
 have lo9 : ∀ b, inBlk (PV p5) b → w.heap.size ≤ b := fun b h => Nat.le_trans c0.size (n7.fresh b h)
 have ah0 := ah0.ch0 n7.ch
 have ah0_0 := ah0_0.ch0 n7.ch
 have k4 := k4.ch0 n7.ch
 have c0 := c0.then0 n7.ch
 refine rl_assign rfl rfl ?_
 refine RL.nil (thn_n (CW.seq ?_))
 refine CW.draw 11 [(none, fun fx O uu wx => uu = (PV po0)), (none, fun fx O uu wx => uu = (PV po0)), (none, fun fx O uu wx => uu = (PV po0)), (none, fun fx O uu wx => uu = az0_0), (none, fun fx O uu wx => uu = (Value.agg (Key.enc a1).toArray)), (none, fun fx O uu wx => uu = (Value.tuple #[(Value.agg (Key.enc ((mget a0.owner a1).getD Key.z)).toArray), (Value.bool ((mget a0.owner a1).isSome))])), (none, fun fx O uu wx => uu = (Value.tuple #[(Value.agg (Key.enc ((mget a0.owner a1).getD Key.z)).toArray), (Value.bool ((mget a0.owner a1).isSome))])), (none, fun fx O uu wx => uu = (Value.agg (Key.enc ((mget a0.owner a1).getD Key.z)).toArray)), (none, fun fx O uu wx => uu = (Value.bool ((mget a0.owner a1).isSome))), (some false, fun _ O uu wx => ∃ (p13 : Nat), uu = (PV p13) ∧ O = (inBlk (PV p13)) ∧ Blk wx p13 32 (Key.enc Key.z)), (some true, fun hv O uu wx => ∃ (p13 : Nat), hv = [(PV p13), undef] ∧ uu = undef ∧ O = (inBlk (PV p13)) ∧ Blk wx p13 32 (Key.enc ((mget a0.owner a1).getD Key.z)))] [[], [0], [1], [2], [], [3, 4], [5], [6], [6], [], [9, 7]] [10, 8, 9] nb (fun _ h => h.elim) mixed rfl rfl rfl rfl ?_ ?_
 ·
  refine Each.consS (fun fl O wk hE hN hO ck => ?_) ?_
  ·
   refine rl_move rfl rfl ?_
   exact RL.nil ⟨_, rfl, Ch.refl, rfl⟩
  refine Each.consS (fun fl O wk hE hN hO ck => ?_) ?_
  ·
   refine Need.o1 rfl rfl rfl (fun _ h => h) ?_
   refine rl_nilCheck rfl rfl ?_
   exact RL.nil ⟨_, rfl, Ch.refl, rfl⟩
  refine Each.consS (fun fl O wk hE hN hO ck => ?_) ?_
  ·
   refine Need.o1 rfl rfl rfl (fun _ h => h) ?_
   refine rl_fieldAddr rfl fa47_0 rfl ?_
   exact RL.nil ⟨_, rfl, Ch.refl, rfl⟩
  refine Each.consS (fun fl O wk hE hN hO ck => ?_) ?_
  ·
   have ah0 := ah0.ch0 ck
   refine Need.o1 rfl rfl rfl (fun _ h => h) ?_
   refine rl_loadS (v := az0_0) rfl Try.isAgg44 (ah0.cell rfl) rfl ?_
   exact RL.nil ⟨_, rfl, Ch.refl, rfl⟩
  refine Each.consS (fun fl O wk hE hN hO ck => ?_) ?_
  ·
   have k4 := k4.ch0 ck
   refine rl_loadA (cs := (Key.enc a1)) rfl Try.isAgg32 Try.sizeOf32 (k4.segAt 0 2) rfl rfl ?_
   exact RL.nil ⟨_, rfl, Ch.refl, rfl⟩
  refine Each.consS (fun fl O wk hE hN hO ck => ?_) ?_
  ·
   have ah0_0 := ah0_0.ch0 ck
   refine Need.o1 rfl rfl rfl (fun _ h => h) ?_
   refine Need.o1 rfl rfl rfl (fun _ h => h) ?_
   refine rl_lookup2 a1 Key.z rfl rfl ah0_0 rfl kt32 Try.underlying44 Try.zeroValue32 rfl ?_
   exact RL.nil ⟨_, rfl, Ch.refl, rfl⟩
  refine Each.consS (fun fl O wk hE hN hO ck => ?_) ?_
  ·
   refine Need.o1 rfl rfl rfl (fun _ h => h) ?_
   refine rl_move rfl rfl ?_
   exact RL.nil ⟨_, rfl, Ch.refl, rfl⟩
  refine Each.consS (fun fl O wk hE hN hO ck => ?_) ?_
  ·
   refine Need.o1 rfl rfl rfl (fun _ h => h) ?_
   refine rl_extract rfl rfl rfl ?_
   exact RL.nil ⟨_, rfl, Ch.refl, rfl⟩
  refine Each.consS (fun fl O wk hE hN hO ck => ?_) ?_
  ·
   refine Need.o1 rfl rfl rfl (fun _ h => h) ?_
   refine rl_extract rfl rfl rfl ?_
   exact RL.nil ⟨_, rfl, Ch.refl, rfl⟩
  refine Each.consP ⟨fun _ O _ wx wy cc hh => by obtain ⟨p13, e, rfl, ck9_0⟩ := hh; exact ⟨p13, e, rfl, ck9_0.ch0 cc⟩, fun O wk hO ck => ?_⟩ ?_
  ·
   refine rl_alloc (Key.enc Key.z) Try.zeroValue32 rfl rfl ?_
   intro p85 w86 n87 k88
   have hb95 : ∀ b, (inBlk (PV p85)) b → wk.heap.size ≤ b ∧ b < w86.heap.size := fun b h => ⟨n87.fresh b h, k88.ltp b h⟩
   exact RL.nil ⟨_, (inBlk (PV p85)), rfl, hb95, n87.ch, ⟨p85, rfl, rfl, k88⟩⟩
  refine Each.consO ⟨fun _ O _ wx wy cc hh => by obtain ⟨p13, eh, e, rfl, ck10_0⟩ := hh; exact ⟨p13, eh, e, rfl, ck10_0.ch0 cc⟩, fun hv Op O wk hO ck hO0 => ?_⟩ ?_
  ·
   obtain ⟨hl, hBg⟩ := hO0 rfl
   refine Need.made rfl rfl rfl rfl ?_
   rintro _ ⟨p13, e96, eO97, ck9_0⟩ hh98
   obtain rfl := e96.symm
   have io99 : ∀ b, inBlk (PV p13) b → _ := fun b h => (Eq.mpr (congrFun eO97 b) h)
   obtain rfl := hist_eq [(PV p13)] hv hl ⟨hh98, trivial⟩
   refine Need.o1 rfl rfl rfl (fun _ h => h) ?_
   refine rl_storeA (vs := (Key.enc ((mget a0.owner a1).getD Key.z))) rfl rfl (all_one rfl) Try.sizeOf32 rfl ck9_0 rfl ?_
   intro w108 s110 c109 k111
   have hb113 : ∀ b, (inBlk (PV p13)) b → (O b ∨ wk.heap.size ≤ b) ∧ b < w108.heap.size := fun b h => ⟨.inl ((hBg.1 b).2 (.inr ⟨_, inPre rfl, io99 b h⟩)), k111.ltp b h⟩
   exact RL.nil ⟨_, (inBlk (PV p13)), rfl, hb113, (c109.mono (fun b _ h => ((hBg.1 b).2 (.inr ⟨_, inPre rfl, io99 b h⟩)))), ⟨p13, rfl, rfl, rfl, k111⟩⟩
  trivial
 intro hvO116 OpO116 O116 w114 hO117 c115 hN118
 refine Need.hereN rfl rfl rfl rfl ?_
 rintro ⟨p13, rfl, _, rfl, ck10_0⟩
 have k8 := k8.ch0 c115
 have c0 := c0.then0 c115
 refine Need.o1 rfl rfl rfl (fun _ h => h) ?_
 refine Need.hist (PV p13) rfl rfl rfl rfl rfl rfl ?_
 refine rl_assign rfl rfl ?_
 refine RL.nil (thn_n (CW.seq (CW.region ?_)))
 refine rl_loadA (cs := (Key.enc ((mget a0.owner a1).getD Key.z))) rfl Try.isAgg32 Try.sizeOf32 (ck10_0.segAt 0 2) rfl rfl ?_
 refine rl_move rfl rfl ?_
 refine rl_storeA (vs := (Key.enc ((mget a0.owner a1).getD Key.z))) rfl rfl (all_one rfl) Try.sizeOf32 rfl k8 rfl ?_
 intro w132 s134 c133 k135
 have c0 := c0.then c133 (fun i hi h => absurd (lo9 i h) (Nat.not_le_of_lt hi))
 refine rl_assign rfl rfl ?_
 refine RL.nil (thn_n (CW.ret ?_))
 obtain rfl := hS
 exact ⟨[_, _], ⟨Res1.agg (cs := (Key.enc ((mget a0.owner a1).getD Key.z))) rfl Try.isAgg32 Try.sizeOf32 (k135.segAt 0 2) rfl, rfl, trivial⟩, ⟨rfl, c0⟩⟩
/-- (*lb/index.Index).Copy -/
theorem Walk.chS20 {α β : Type} {ek : α → Value} {ev : β → Value} {w w' : World} {l todo : List (α × β)} {v : Value} {r : Nat} {D : Nat → Prop} (h : Walk ek ev w l todo v r) (c : Ch D w w') (hv : ∀ b, inBlk v b → ¬ D b) (hr : ¬ D r) : Walk ek ev w' l todo v r := by
  rcases h with ⟨m, es, clock, since, seen, c0, rfl, h2, h3, h4⟩ | ⟨h1, h2, h3, h4⟩
  · exact .inl ⟨m, es, clock, since, seen, c0, rfl, (c.blk m (heap_lt h2) (hv m rfl)).trans h2, (c.blk r (heap_lt h3) hr).trans h3, h4⟩
  · exact .inr ⟨h1, h2, h3, (c.blk r (heap_lt h4) hr).trans h4⟩
theorem ctr20 {w : World} {po : Nat} {az az1 : Value} {a0 : Index_2} (hd : ∀ X s o, ∃ r, F8_Put X s o = some r) (ah : Blk w po 47 (Index_2.c a0 az az1)) (ah0 : Mp (fun x => Value.agg (Key.enc x).toArray) (fun x => Value.agg (Key.enc x).toArray) w a0.owner az) :
    Ret Try.prog 20 #[PV po] w fun v w' => ∃ (X : Index_2) (p : Nat) (y0 y1 y1u : Value), v = PV p ∧ Blk w' p 47 (Index_2.c X y0 y1u) ∧ Mp (fun x => Value.agg (Key.enc x).toArray) (fun x => Value.agg (Key.enc x).toArray) w' X.owner y0 ∧ MM (fun x => Value.agg (Key.enc x).toArray) (fun x => Value.agg (Key.enc x).toArray) (fun x => Value.agg (St50.enc x).toArray) w' X.slices y1u y1 ∧ (∀ b, inBlk (PV p) b → w.heap.size ≤ b) ∧ (∀ b, inBlk y0 b → w.heap.size ≤ b) ∧ (∀ b, inBlk y1 b → w.heap.size ≤ b) ∧ (∀ b, inBlk (PV p) b → ¬ inBlk y0 b) ∧ (∀ b, inBlk (PV p) b → ¬ inBlk y1 b) ∧ (∀ b, inBlk y0 b → ¬ inBlk y1 b) ∧ Ch nb w w' := by
  have azl := ah0.ltp
  refine Ret.of (n := 22) (args := [_]) (rs := [.tmp 2]) Try.func20 rfl rfl rfl rfl ?_
  refine CW.seq (CW.region ?_)
  refine rl_assign rfl rfl ?_
  refine RL.nil (thn_n (CW.seq (CW.region ?_)))
  refine rl_callF rfl en7 rfl (ctr7 nb w _ rfl) ?_
  rintro _ w1 ⟨p, z0, z1, z1u, rfl, hk, hm, hmm, l0, l1, l2, d1, d2, d3, c1⟩
  refine rl_assign rfl rfl ?_
  refine RL.nil (thn_n (CW.seq ?_))
  refine CW.seq (CW.region ?_)
  refine rl_move rfl rfl ?_
  refine rl_nilCheck rfl rfl ?_
  refine rl_fieldAddr rfl fa47_0 rfl ?_
  refine rl_loadS (v := az) rfl Try.isAgg44 ((ah.ch0 c1).cell rfl) rfl ?_
  refine rl_range rfl (ah0.ch0 c1).n Try.underlying44 rfl ?_
  intro r W1 hn hw
  have hrs := hn.eq
  refine RL.nil (thn_n ?_)
  refine CW.block ?_
  refine CW.loopS [(3, PV p), (11, PV r)] ⟨rfl, rfl, trivial⟩ a0.owner.length (fun k E' W' => ∃ (todo : List (Key × Key)) (X : Index_2) (y0 y1 y1u : Value), todo.length = k ∧ E' = [(3, PV p), (11, PV r)] ∧ Walk (fun x => Value.agg (Key.enc x).toArray) (fun x => Value.agg (Key.enc x).toArray) W' a0.owner todo az r ∧ Blk W' p 47 (Index_2.c X y0 y1u) ∧ Mp (fun x => Value.agg (Key.enc x).toArray) (fun x => Value.agg (Key.enc x).toArray) W' X.owner y0 ∧ MM (fun x => Value.agg (Key.enc x).toArray) (fun x => Value.agg (Key.enc x).toArray) (fun x => Value.agg (St50.enc x).toArray) W' X.slices y1u y1 ∧
      (∀ b, inBlk y0 b → w.heap.size ≤ b) ∧ (∀ b, inBlk y1 b → w.heap.size ≤ b) ∧ (∀ b, inBlk (PV p) b → ¬ inBlk y0 b) ∧ (∀ b, inBlk (PV p) b → ¬ inBlk y1 b) ∧ (∀ b, inBlk y0 b → ¬ inBlk y1 b) ∧ ¬ inBlk (PV p) r ∧ ¬ inBlk y0 r ∧ ¬ inBlk y1 r ∧ Ch nb w W')
    ⟨_, _, z0, z1, z1u, rfl, rfl, hw, hk.ch0 hn.ch, hm.ch0 hn.ch, hmm.ch0 hn.ch, l1, l2, d1, d2, d3, fun h => by have := hk.ltp _ h; omega, fun h => by have := hm.ltp _ h; omega, fun h => by have := hmm.ltp _ h; omega, c1.then0 hn.ch⟩ ?_
  have hrw : w.heap.size ≤ r := by rw [hrs]; exact c1.size
  clear hk hm hmm l1 l2 d1 d2 d3 hw hn
  rintro k _ W2 ⟨todo, X, y0, y1, y1u, rfl, rfl, hw, hk, hm, hmm, l1, l2, d1, d2, d3, e1, e2, e3, cW⟩
  refine CW.seq (CW.region ?_)
  refine rl_next rfl hw rfl ?_ ?_
  · rintro rfl
    refine rl_extract rfl rfl rfl ?_
    refine RL.nil (thn_n ?_)
    refine CW.seq ?_
    refine CW.no rfl ?_
    refine CW.exit (thn_exit (thn_exit (inB_hit ?_)))
    refine thn_n (CW.seq (CW.region ?_))
    refine rl_move rfl rfl ?_
    refine rl_assign rfl rfl ?_
    refine RL.nil (thn_n (CW.ret ?_))
    exact ret1 rfl ⟨X, p, y0, y1, y1u, rfl, hk, hm, hmm, l0, l1, l2, d1, d2, d3, cW⟩
  · intro k x todo' W3 hpt c3 hw3 hen
    have hlen := hpt.length_eq
    simp only [List.length_cons] at hlen
    have hk := hk.ch c3 (fun h => e1 h.symm)
    have hm := hm.ch c3 (fun b hb h => e2 (by have e : r = b := h; subst e; exact hb))
    have hmm := hmm.ch c3 (fun b hb h => e3 (by have e : r = b := h; subst e; exact hb))
    have cW := cW.then c3 fun i hi h => by have e : r = i := h; omega
    clear hw c3
    refine rl_extract rfl rfl rfl ?_
    refine RL.nil (thn_n ?_)
    refine CW.seq ?_
    refine CW.yes rfl ?_
    refine CW.skip (thn_n ?_)
    refine CW.block ?_
    refine CW.seq (CW.region ?_)
    refine rl_entry rfl hen rfl ?_
    refine rl_extract rfl rfl rfl ?_
    refine rl_extract rfl rfl rfl ?_
    refine rl_alloc [.string ⟨#[]⟩, .string ⟨#[]⟩] Try.zeroValue32 rfl rfl ?_
    intro p4 W4 hn4 hk4
    refine rl_alloc [.string ⟨#[]⟩, .string ⟨#[]⟩] Try.zeroValue32 rfl rfl ?_
    intro q W5 hn5 hq5
    have hk5 := hk4.ch0 hn5.ch
    have hpq : p4 ≠ q := fun e => by have := hn5.eq; have := hk4.lt; omega
    refine rl_storeA (vs := Key.enc k) rfl rfl (all_one rfl) Try.sizeOf32 rfl hk5 rfl ?_
    intro W6 hs6 c6 hk6
    have hq6 := hq5.ch c6 (fun h => hpq h)
    refine rl_storeA (vs := Key.enc x) rfl rfl (all_one rfl) Try.sizeOf32 rfl hq6 rfl ?_
    intro W7 hs7 c7 hq7
    have hk7 := hk6.ch c7 (fun h => hpq h.symm)
    have c37 : Ch nb W3 W7 := ((hn4.ch.then0 hn5.ch).then c6 fun i hi h => by have e : p4 = i := h; have := hn4.eq; omega).then c7 fun i hi h => by have e : q = i := h; have := hn5.eq; have := hn4.ch.size; omega
    have hw := hw3.ch0 c37
    have hk := hk.ch0 c37
    have hm := hm.ch0 c37
    have hmm := hmm.ch0 c37
    have cW := cW.then0 c37
    clear hw3
    refine RL.nil (thn_n ?_)
    refine CW.region ?_
    refine rl_move rfl rfl ?_
    refine rl_loadA (cs := Key.enc k) rfl Try.isAgg32 Try.sizeOf32 (hk7.segAt 0 2) rfl rfl ?_
    refine rl_loadA (cs := Key.enc x) rfl Try.isAgg32 Try.sizeOf32 (hq7.segAt 0 2) rfl rfl ?_
    obtain ⟨y, hy⟩ := hd X k x
    refine rl_callF rfl en8 rfl (ctr8 nb W7 w.heap.size nb cW.size nbS p y0 y1 y1u (fun b _ h => h) d1 d2 d3 X hk hm hmm k x y hy) ?_
    rintro _ W8 ⟨x0, x1, x1u, rfl, hk8, hm8, hmm8, f1, f2, g1, g2, g3, c8⟩
    have hrl : r < W7.heap.size := by obtain ⟨o, ho, _⟩ := hw.iter; exact heap_lt ho
    refine RL.nil (inB_n (thn_n ?_))
    refine ⟨todo'.length, by omega, [(3, PV p), (11, PV r)], ⟨rfl, rfl, trivial⟩, todo', _, x0, x1, x1u, rfl, rfl, ?_, hk8, hm8, hmm8, ?_, ?_, g1, g2, g3, e1, ?_, ?_, ?_⟩
    · exact Walk.chS20 hw c8 (fun b hb h => by
        have := azl b hb
        exact un_el h (fun h => by have := l0 b h; omega) (fun h => un_el h (fun h => by have := l1 b h; omega) (fun h => by have := l2 b h; omega)))
        (fun h => un_el h e1 (fun h => un_el h e2 e3))
    · exact fun b h => (f1 b h).elim (fun h => un_el h (l0 b) (fun h => un_el h (l1 b) (l2 b))) (fun h => Nat.le_trans cW.size h)
    · exact fun b h => (f2 b h).elim (fun h => un_el h (l0 b) (fun h => un_el h (l1 b) (l2 b))) (fun h => Nat.le_trans cW.size h)
    · exact fun h => (f1 r h).elim (fun h => un_el h e1 (fun h => un_el h e2 e3)) (fun h => by omega)
    · exact fun h => (f2 r h).elim (fun h => un_el h e1 (fun h => un_el h e2 e3)) (fun h => by omega)
    · exact cW.then c8 fun i hi h => un_el h (fun h => by have := l0 i h; omega) (fun h => un_el h (fun h => by have := l1 i h; omega) (fun h => by have := l2 i h; omega))
/-- (*lb/index.Index).Len -/
theorem ctr12 (F : Nat → Prop) (w : World) (Bb : Nat) (S2 : Nat → Prop) (hB : Bb ≤ w.heap.size) (h2 : ∀ b, S2 b → b < w.heap.size) (po0 : Nat) (az0_0 : Value) (az0_1 az0_1u : Value) (hd2 : ∀ b, (un (inBlk (PV po0)) (un (inBlk az0_0) (inBlk az0_1))) b → ¬ S2 b) (hx0_1 : ∀ b, inBlk (PV po0) b → ¬ inBlk az0_0 b) (hx0_2 : ∀ b, inBlk (PV po0) b → ¬ inBlk az0_1 b) (hx1_2 : ∀ b, inBlk az0_0 b → ¬ inBlk az0_1 b) (a0 : Index_2) (ah0 : Blk w po0 47 (Index_2.c a0 az0_0 az0_1u)) (ah0_0 : Mp (fun x => Value.agg (Key.enc x).toArray) (fun x => Value.agg (Key.enc x).toArray) w a0.owner az0_0) (ah0_1 : MM (fun x => Value.agg (Key.enc x).toArray) (fun x => Value.agg (Key.enc x).toArray) (fun x => Value.agg (St50.enc x).toArray) w a0.slices az0_1u az0_1) (r : Int) (hs : F12_Len a0 = r) :
    Ret Try.prog 12 #[(PV po0)] w fun v w' => v = (Value.int .i64 r) ∧ Ch nb w w' := by
 have hS := hs
 have c0 : Ch nb w w := Ch.refl
 refine Ret.of (n := 8) (args := [_]) (rs := [.tmp 2]) Try.func12 rfl rfl rfl rfl ?_
 refine CW.seq (CW.region ?_)
 refine rl_assign rfl rfl ?_
 refine RL.nil (thn_n (CW.seq (CW.region ?_)))
 refine rl_move rfl rfl ?_
 refine rl_nilCheck rfl rfl ?_
 refine rl_fieldAddr rfl fa47_0 rfl ?_
 refine rl_loadS (v := az0_0) rfl Try.isAgg44 (ah0.cell rfl) rfl ?_
 refine rl_lenMap rfl ah0_0 Try.underlying44 rfl ?_
 refine rl_assign rfl rfl ?_
 refine RL.nil (thn_n (CW.ret ?_))
 obtain rfl := hS
 exact ret1 rfl ⟨rfl, c0⟩
/-- lb/lbref16.Same -/
theorem ctr13 (F : Nat → Prop) (w : World) (a0 : (List Key)) (av0 : Value) (ah0 : slRep k_Key F w a0 av0) (a1 : (List Key)) (av1 : Value) (ah1 : slRep k_Key F w a1 av1) (r : Bool) (hs : F13_Same a0 a1 = some r) :
    Ret Try.prog 13 #[av0, av1] w fun v w' => v = (Value.bool r) ∧ Ch nb w w' := by
 have hS := hs
 have c0 : Ch nb w w := Ch.refl
 have ah0 := slRep.enter k_Key_pos ah0
 have ah1 := slRep.enter k_Key_pos ah1
 refine Ret.of (n := 26) (args := [_, _]) (rs := [.tmp 4]) Try.func13 rfl rfl rfl rfl ?_
 refine CW.seq (CW.region ?_)
 refine rl_assign rfl rfl ?_
 refine RL.nil (thn_n (CW.seq ?_))
 refine CW.seq (CW.region ?_)
 refine rl_move rfl rfl ?_
 refine rl_lenR rfl ah0 Try.underlying40 rfl ?_
 refine rl_move rfl rfl ?_
 refine rl_lenR rfl ah1 Try.underlying40 rfl ?_
 refine rl_bin rfl rfl B.neq rfl ?_
 refine RL.nil (thn_n ?_)
 refine CW.cond (t := !decide (((a0.length : Nat) : Int) = ((a1.length : Nat) : Int))) rfl (fun q1 => ?_) (fun q1 => ?_)
 ·
  have hS := ifT q1 hS
  refine CW.seq (CW.region ?_)
  refine rl_assign rfl rfl ?_
  refine RL.nil (thn_n (CW.ret ?_))
  refine thn_ret ?_
  obtain rfl := Option.some.inj hS
  exact ret1 rfl ⟨rfl, c0⟩
 have hS := ifF q1 hS
 refine CW.skip ?_
 refine thn_n (CW.seq ?_)
 refine CW.seq (CW.region ?_)
 refine rl_move rfl rfl ?_
 refine rl_lenR rfl ah0 Try.underlying40 rfl ?_
 refine rl_move rfl rfl ?_
 refine RL.nil (thn_n ?_)
 obtain ⟨o9, ho10, hS⟩ := bindS hS
 refine CW.cutB (fun E' w' => ∃ (ix16 : Nat), Sub [] E' ∧ Ch nb w w' ∧ Lp.fin ix16 = o9 ∧ slRep k_Key (G F w.heap.size nb) w' a0 av0 ∧ slRep k_Key (G F w.heap.size nb) w' a1 av1) ?_ ?_
 ·
  refine CW.loopS [(0, av0), (1, av1), (12, (Value.int .i64 ((a0.length : Nat) : Int))), (13, (Value.int .i64 ((0 : Nat) : Int)))] ⟨rfl, rfl, rfl, rfl, trivial⟩ a0.length (fun m E w' => ∃ (rest2 : List Key) (i3 : Nat) , m = rest2.length ∧ E = [(0, av0), (1, av1), (12, (Value.int .i64 ((a0.length : Nat) : Int))), (13, (Value.int .i64 ((i3 : Nat) : Int)))] ∧ Ch nb w w' ∧ At a0 i3 rest2 ∧ runBO (F13_Same_b1 a1) rest2 i3 = some o9 ∧ slRep k_Key (G F w.heap.size nb) w' a0 av0 ∧ slRep k_Key (G F w.heap.size nb) w' a1 av1)
      ⟨a0, 0, rfl, rfl, c0, At.start, ho10, ah0, ah1⟩ ?_
  rintro _ _ w15 ⟨rest2, i3, rfl, rfl, c14, hat5, hL4, ah0, ah1⟩
  refine CW.seq (CW.region ?_)
  refine rl_bin rfl rfl B.lss rfl ?_
  refine RL.nil (thn_n ?_)
  refine CW.seq ?_
  refine CW.cond (t := decide (((i3 : Nat) : Int) < ((a0.length : Nat) : Int))) rfl (fun q17 => ?_) (fun q17 => ?_)
  ·
   obtain ⟨x11, rest18, rfl⟩ := hat5.cons q17
   obtain ⟨q6, hq7⟩ := runBO_some hL4
   have hb8 := hq7
   refine CW.skip (thn_n ?_)
   refine CW.seq ?_
   refine CW.block ?_
   refine CW.seq (CW.region ?_)
   refine rl_move rfl rfl ?_
   refine rl_assign rfl rfl ?_
   refine RL.nil (thn_n (CW.seq ?_))
   obtain ⟨y31, hy32, hb8⟩ := bindS hb8
   refine CW.draw 8 [(none, fun fx O uu wx => uu = av0), (none, fun fx O uu wx => uu = (Value.int .i64 ((i3 : Nat) : Int))), (none, fun fx O uu wx => ∃ (p19 : Nat) (o20 : Nat), uu = (Value.pointer (some ⟨p19, o20, none⟩)) ∧ (G F w.heap.size nb) p19 ∧ Seg wx p19 o20 (Key.enc x11)), (none, fun fx O uu wx => uu = (Value.agg (Key.enc x11).toArray)), (none, fun fx O uu wx => uu = av1), (none, fun fx O uu wx => uu = (Value.int .i64 ((i3 : Nat) : Int))), (none, fun fx O uu wx => ∃ (p25 : Nat) (o26 : Nat), uu = (Value.pointer (some ⟨p25, o26, none⟩)) ∧ (G F w.heap.size nb) p25 ∧ Seg wx p25 o26 (Key.enc y31)), (none, fun fx O uu wx => uu = (Value.agg (Key.enc y31).toArray))] [[], [], [0, 1], [2], [], [], [4, 5], [6]] [3, 7] nb (fun _ h => h.elim) mixed rfl rfl rfl rfl ?_ ?_
   ·
    refine Each.consS (fun fl O wk hE hN hO ck => ?_) ?_
    ·
     refine rl_move rfl rfl ?_
     exact RL.nil ⟨_, rfl, Ch.refl, rfl⟩
    refine Each.consS (fun fl O wk hE hN hO ck => ?_) ?_
    ·
     refine rl_move rfl rfl ?_
     exact RL.nil ⟨_, rfl, Ch.refl, rfl⟩
    refine Each.consA ⟨fun _ _ _ _ _ cc hh => by obtain ⟨p19, o20, e, hg24, hs23⟩ := hh; exact ⟨p19, o20, e, hg24, hs23.ch0 cc⟩, fun h => absurd rfl h, fun fl O wk hE hN hO ck => ?_⟩ ?_
    ·
     have ah0 := slRep.ch k_Key_pos ah0 ck
     refine Need.o1 rfl rfl rfl (fun _ h => h) ?_
     refine Need.o1 rfl rfl rfl (fun _ h => h) ?_
     refine rl_ixR rfl ah0 rfl hat5.get Try.underlying40 Try.sizeOf32 rfl ?_
     intro p35 o36 cs37 hr38 hs39 hg40
     obtain rfl := hr38
     exact RL.nil ⟨_, rfl, Ch.refl, ⟨p35, o36, rfl, hg40, hs39⟩⟩
    refine Each.consS (fun fl O wk hE hN hO ck => ?_) ?_
    ·
     refine Need.one rfl rfl rfl ?_
     rintro _ ⟨p19, o20, e41, hg24, hs23⟩
     obtain rfl := e41.symm
     refine rl_loadA (cs := (Key.enc x11)) rfl Try.isAgg32 Try.sizeOf32 (hs23) rfl rfl ?_
     exact RL.nil ⟨_, rfl, Ch.refl, rfl⟩
    refine Each.consS (fun fl O wk hE hN hO ck => ?_) ?_
    ·
     refine rl_move rfl rfl ?_
     exact RL.nil ⟨_, rfl, Ch.refl, rfl⟩
    refine Each.consS (fun fl O wk hE hN hO ck => ?_) ?_
    ·
     refine rl_move rfl rfl ?_
     exact RL.nil ⟨_, rfl, Ch.refl, rfl⟩
    refine Each.consA ⟨fun _ _ _ _ _ cc hh => by obtain ⟨p25, o26, e, hg30, hs29⟩ := hh; exact ⟨p25, o26, e, hg30, hs29.ch0 cc⟩, fun h => absurd rfl h, fun fl O wk hE hN hO ck => ?_⟩ ?_
    ·
     have ah1 := slRep.ch k_Key_pos ah1 ck
     refine Need.o1 rfl rfl rfl (fun _ h => h) ?_
     refine Need.o1 rfl rfl rfl (fun _ h => h) ?_
     refine rl_ixR rfl ah1 rfl (ixO_nat hy32) Try.underlying40 Try.sizeOf32 rfl ?_
     intro p44 o45 cs46 hr47 hs48 hg49
     obtain rfl := hr47
     exact RL.nil ⟨_, rfl, Ch.refl, ⟨p44, o45, rfl, hg49, hs48⟩⟩
    refine Each.consS (fun fl O wk hE hN hO ck => ?_) ?_
    ·
     refine Need.one rfl rfl rfl ?_
     rintro _ ⟨p25, o26, e50, hg30, hs29⟩
     obtain rfl := e50.symm
     refine rl_loadA (cs := (Key.enc y31)) rfl Try.isAgg32 Try.sizeOf32 (hs29) rfl rfl ?_
     exact RL.nil ⟨_, rfl, Ch.refl, rfl⟩
    trivial
   intro hvO53 OpO53 O53 w51 hO54 c52 hN55
   have ah0 := slRep.ch k_Key_pos ah0 c52
   have ah1 := slRep.ch k_Key_pos ah1 c52
   have c14 := c14.then0 c52
   refine Need.o1 rfl rfl rfl (fun _ h => h) ?_
   refine Need.o1 rfl rfl rfl (fun _ h => h) ?_
   refine rl_bin rfl rfl (neq32 x11 y31) rfl ?_
   refine RL.nil (thn_n ?_)
   refine CW.cond (t := !decide (x11 = y31)) rfl (fun q58 => ?_) (fun q58 => ?_)
   ·
    have hb8 := ifT q58 hb8
    refine CW.seq (CW.region ?_)
    refine rl_assign rfl rfl ?_
    refine RL.nil (thn_n (CW.ret ?_))
    refine inB_ret ?_
    refine thn_ret ?_
    refine thn_ret (inB_ret (thn_ret ?_))
    refine thn_ret ?_
    have f59 := runBO_ret hL4 hq7 hb8
    have hS := retS f59 hS
    obtain rfl := Option.some.inj hS
    exact ret1 rfl ⟨rfl, c14⟩
   have hb8 := ifF q58 hb8
   refine CW.skip ?_
   refine inB_n ?_
   refine thn_n (CW.region ?_)
   refine rl_inc rfl hat5.lt ah0.big rfl ?_
   refine rl_move rfl rfl ?_
   refine RL.nil (thn_n ?_)
   have hLn := runBO_next hL4 hq7 hb8
   exact ⟨rest18.length, Nat.lt_succ_self _, [(0, av0), (1, av1), (12, (Value.int .i64 ((a0.length : Nat) : Int))), (13, (Value.int .i64 ((i3 + 1 : Nat) : Int)))], ⟨rfl, rfl, rfl, rfl, trivial⟩, ⟨rest18, i3 + 1, rfl, rfl, c14, hat5.next, hLn, ah0, ah1⟩⟩
  obtain rfl := hat5.nil q17
  have hLf : Lp.fin i3 = o9 := runBO_done hL4
  refine CW.exit (thn_exit (thn_exit (inB_hit ?_)))
  exact ⟨i3, trivial, c14, hLf, ah0, ah1⟩
 rintro _ w61 ⟨ix16, hE62, c60, f63, ah0, ah1⟩
 have hS := finS f63 hS
 refine thn_n (CW.sub [] hE62 ?_)
 refine CW.seq (CW.region ?_)
 refine rl_assign rfl rfl ?_
 refine RL.nil (thn_n (CW.ret ?_))
 obtain rfl := Option.some.inj hS
 exact ret1 rfl ⟨rfl, c60⟩
end Go.Proofs.Ytkopifmkikaaiaa
