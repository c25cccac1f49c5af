/- The walks through the code: each call comes to its printed function. Written by a program of this session. -/
import Derived.Test.YtgcneihmkkldeaaGreatM
import Derived.Test.YtgcneihmkkldeaaGreatL
namespace Go.Proofs.YtgcneihmkkldeaaGreat
open Go K
set_option linter.unusedVariables false
/-- (*lb/face.row).put -/
theorem ctr60 (F : Nat → Prop) (w : World) (Bb : Nat) (S2 : Nat → Prop) (hB : Bb ≤ w.heap.size) (h2 : ∀ b, S2 b → b < w.heap.size) (po0 : Nat) (az0_0 : Value) (az0_1 : Value) (hd2 : ∀ b, (un (inBlk (PV po0)) (un (inBlk az0_0) (inBlk az0_1))) b → ¬ S2 b) (hx0_1 : ∀ b, inBlk (PV po0) b → ¬ inBlk az0_0 b) (hx0_2 : ∀ b, inBlk (PV po0) b → ¬ inBlk az0_1 b) (hx1_2 : ∀ b, inBlk az0_0 b → ¬ inBlk az0_1 b) (a0 : Row_2) (ah0 : Blk w po0 122 (Row_2.c a0 az0_0 az0_1)) (ah0_0 : Mp (fun x => Value.agg (Place.enc x).toArray) (fun x => Value.agg (St85.enc x).toArray) w a0.seen az0_0) (ah0_1 : SlO k_Face 47 F Bb (un (inBlk (PV po0)) (un (inBlk az0_0) (un (inBlk az0_1) S2))) w a0.list az0_1) (a1 : Face) (r : Row_2) (hs : F60_put a0 a1 = some r) :
    Ret Tryz.prog 60 #[(PV po0), (Value.agg (Face.enc a1).toArray)] w fun v w' => ∃ (nz0_0 : Value) (nz0_1 : Value), v = Value.tuple #[] ∧ Blk w' po0 122 (Row_2.c r nz0_0 nz0_1) ∧ Mp (fun x => Value.agg (Place.enc x).toArray) (fun x => Value.agg (St85.enc x).toArray) w' r.seen nz0_0 ∧ SlO k_Face 47 F Bb (un (inBlk (PV po0)) (un (inBlk nz0_0) (un (inBlk nz0_1) S2))) w' r.list nz0_1 ∧ (∀ b, inBlk nz0_0 b → (un (inBlk (PV po0)) (un (inBlk az0_0) (inBlk az0_1))) b ∨ w.heap.size ≤ b) ∧ (∀ b, inBlk nz0_1 b → (un (inBlk (PV po0)) (un (inBlk az0_0) (inBlk az0_1))) b ∨ w.heap.size ≤ b) ∧ (∀ b, inBlk (PV po0) b → ¬ inBlk nz0_0 b) ∧ (∀ b, inBlk (PV po0) b → ¬ inBlk nz0_1 b) ∧ (∀ b, inBlk nz0_0 b → ¬ inBlk nz0_1 b) ∧ Ch (un (inBlk (PV po0)) (un (inBlk az0_0) (inBlk az0_1))) w w' := by
 have hS := hs
 have c0 : Ch (un (inBlk (PV po0)) (un (inBlk az0_0) (inBlk az0_1))) w w := Ch.refl
 have lin0_0 : ∀ b, inBlk (PV po0) b → (un (inBlk (PV po0)) (un (inBlk az0_0) (inBlk az0_1))) b ∨ w.heap.size ≤ b := fun b h => .inl (.inl h)
 have lin1_0 : ∀ b, inBlk az0_0 b → (un (inBlk (PV po0)) (un (inBlk az0_0) (inBlk az0_1))) b ∨ w.heap.size ≤ b := fun b h => .inl (.inr (.inl h))
 have lin2_0 : ∀ b, inBlk az0_1 b → (un (inBlk (PV po0)) (un (inBlk az0_0) (inBlk az0_1))) b ∨ w.heap.size ≤ b := fun b h => .inl (.inr (.inr h))
 refine Ret.of (n := 38) (args := [_, _]) (rs := []) Tryz.func60 rfl rfl rfl rfl ?_
 refine CW.seq (CW.region ?_)
 refine rl_boxA (cs := (Face.enc a1)) rfl rfl ?_
 intro p1 w2 n3 k4
 have gp1 : (G F Bb (un (inBlk (PV po0)) (un (inBlk az0_0) (un (inBlk az0_1) S2)))) p1 := ⟨.inr (by rw [n3.eq]; exact (Nat.le_trans hB c0.size)), fun h => absurd ((un_lt ah0.ltp (un_lt ah0_0.ltp (un_lt (fun b hb => (ah0_1.lt b hb).2) (fun b h => Nat.lt_of_lt_of_le (h2 b h) c0.size)))) _ h) (by rw [n3.eq]; exact Nat.lt_irrefl _)⟩
 have ah0 := ah0.ch0 n3.ch
 have ah0_0 := ah0_0.ch0 n3.ch
 have ah0_1 := ah0_1.ch0 n3.ch
 have c0 := c0.then0 n3.ch
 refine RL.nil (thn_n (CW.seq (CW.region ?_)))
 refine rl_fieldAddr rfl fa47_0 rfl ?_
 refine rl_loadS (v := (Value.int .i64 a1.proto)) rfl Tryz.isAgg3 (k4.cell rfl) rfl ?_
 refine rl_fieldAddr rfl fa47_1 rfl ?_
 refine rl_loadA (cs := (Point.enc a1.point)) rfl Tryz.isAgg45 Tryz.sizeOf45 (k4.segAt 1 18) rfl rfl ?_
 refine rl_build (out := (Place.enc ({ proto := a1.proto, point := a1.point } : Place))) rfl pl165 Tryz.zeroValue165 rfl rfl rfl ?_
 refine rl_alloc (Place.enc Place.z) Tryz.zeroValue165 rfl rfl ?_
 intro p5 w6 n7 k8
 have lo9 : ∀ b, inBlk (PV p5) b → w.heap.size ≤ b := fun b h => Nat.le_trans c0.size (n7.fresh b h)
 have d10 : ∀ b, inBlk (PV p5) b → ¬ inBlk (PV po0) b := disNew n7.fresh ah0.ltp
 have d11 : ∀ b, inBlk (PV p5) b → ¬ inBlk az0_0 b := disNew n7.fresh ah0_0.ltp
 have d12 : ∀ b, inBlk (PV p5) b → ¬ inBlk az0_1 b := disNew n7.fresh (fun b hb => (ah0_1.lt b hb).2)
 have ah0 := ah0.ch0 n7.ch
 have ah0_0 := ah0_0.ch0 n7.ch
 have ah0_1 := ah0_1.st n7.ch (fun _ _ x => x) (admNew n7.fresh (fun _ x => x)) (fun b h => (.inr (.inr (.inr (.inl h)))))
 have gp1n : (G F Bb (un (inBlk (PV p5)) (un (inBlk (PV po0)) (un (inBlk az0_0) (un (inBlk az0_1) S2))))) p1 := ⟨gp1.1, ((admNew n7.fresh (fun _ x => x)) _ k4.lt gp1.2).2⟩
 have k4 := k4.ch0 n7.ch
 have gp1 := gp1n
 have c0 := c0.then0 n7.ch
 refine rl_storeA (vs := (Place.enc ({ proto := a1.proto, point := a1.point } : Place))) rfl rfl (all_one rfl) Tryz.sizeOf165 rfl k8 rfl ?_
 intro w13 s15 c14 k16
 have ad17 : ∀ b, b < w6.heap.size → ¬ (un (inBlk (PV p5)) (un (inBlk (PV po0)) (un (inBlk az0_0) (un (inBlk az0_1) S2)))) b → ¬ (inBlk (PV p5)) b ∧ ¬ (un (inBlk (PV p5)) (un (inBlk (PV po0)) (un (inBlk az0_0) (un (inBlk az0_1) S2)))) b := fun b _ hs => ⟨fun h => hs (.inl h), hs⟩
 have ah0 := ah0.ch c14 ((fun b hb h => (disSym d10) b hb h) _ rfl)
 have ah0_0 := ah0_0.ch c14 ((fun b hb h => (disSym d11) b hb h))
 have ah0_1 := ah0_1.st c14 (fun b hb h => (disSym d12) b hb h) ad17 (fun b h => (.inr (.inr (.inr (.inl h)))))
 have k4 := k4.ch c14 (ad17 _ k4.lt gp1.2).1
 have c0 := c0.then c14 (fun i hi h => absurd (lo9 i h) (Nat.not_le_of_lt hi))
 refine RL.nil (thn_n (CW.seq ?_))
 refine CW.seq ?_
 refine CW.draw 11 [(none, fun fx O uu wx => uu = (PV po0)), (none, fun fx O uu wx => uu = (PV po0)), (none, fun fx O uu wx => uu = (PV po0)), (none, fun fx O uu wx => uu = az0_0), (none, fun fx O uu wx => uu = (Value.agg (Place.enc ({ proto := a1.proto, point := a1.point } : Place)).toArray)), (none, fun fx O uu wx => uu = (Value.tuple #[(Value.agg (St85.enc ((mget a0.seen ({ proto := a1.proto, point := a1.point } : Place)).getD St85.z)).toArray), (Value.bool ((mget a0.seen ({ proto := a1.proto, point := a1.point } : Place)).isSome))])), (none, fun fx O uu wx => uu = (Value.tuple #[(Value.agg (St85.enc ((mget a0.seen ({ proto := a1.proto, point := a1.point } : Place)).getD St85.z)).toArray), (Value.bool ((mget a0.seen ({ proto := a1.proto, point := a1.point } : Place)).isSome))])), (none, fun fx O uu wx => uu = (Value.agg (St85.enc ((mget a0.seen ({ proto := a1.proto, point := a1.point } : Place)).getD St85.z)).toArray)), (none, fun fx O uu wx => uu = (Value.bool ((mget a0.seen ({ proto := a1.proto, point := a1.point } : Place)).isSome))), (some false, fun _ O uu wx => ∃ (p18 : Nat), uu = (PV p18) ∧ O = (inBlk (PV p18)) ∧ Blk wx p18 85 (St85.enc St85.z)), (some true, fun hv O uu wx => ∃ (p18 : Nat), hv = [(PV p18), undef] ∧ uu = undef ∧ O = (inBlk (PV p18)) ∧ Blk wx p18 85 (St85.enc ((mget a0.seen ({ proto := a1.proto, point := a1.point } : Place)).getD St85.z)))] [[], [0], [1], [2], [], [3, 4], [5], [6], [6], [], [9, 7]] [10, 8] nb (fun _ h => h.elim) mixed rfl rfl rfl rfl ?_ ?_
 ·
  refine Each.consS (fun fl O wk hE hN hO ck => ?_) ?_
  ·
   refine rl_move rfl rfl ?_
   exact RL.nil ⟨_, rfl, Ch.refl, rfl⟩
  refine Each.consS (fun fl O wk hE hN hO ck => ?_) ?_
  ·
   refine Need.o1 rfl rfl rfl (fun _ h => h) ?_
   refine rl_nilCheck rfl rfl ?_
   exact RL.nil ⟨_, rfl, Ch.refl, rfl⟩
  refine Each.consS (fun fl O wk hE hN hO ck => ?_) ?_
  ·
   refine Need.o1 rfl rfl rfl (fun _ h => h) ?_
   refine rl_fieldAddr rfl fa122_0 rfl ?_
   exact RL.nil ⟨_, rfl, Ch.refl, rfl⟩
  refine Each.consS (fun fl O wk hE hN hO ck => ?_) ?_
  ·
   have ah0 := ah0.ch0 ck
   refine Need.o1 rfl rfl rfl (fun _ h => h) ?_
   refine rl_loadS (v := az0_0) rfl Tryz.isAgg120 (ah0.cell rfl) rfl ?_
   exact RL.nil ⟨_, rfl, Ch.refl, rfl⟩
  refine Each.consS (fun fl O wk hE hN hO ck => ?_) ?_
  ·
   have k16 := k16.ch0 ck
   refine rl_loadA (cs := (Place.enc ({ proto := a1.proto, point := a1.point } : Place))) rfl Tryz.isAgg165 Tryz.sizeOf165 (k16.segAt 0 19) rfl rfl ?_
   exact RL.nil ⟨_, rfl, Ch.refl, rfl⟩
  refine Each.consS (fun fl O wk hE hN hO ck => ?_) ?_
  ·
   have ah0_0 := ah0_0.ch0 ck
   refine Need.o1 rfl rfl rfl (fun _ h => h) ?_
   refine Need.o1 rfl rfl rfl (fun _ h => h) ?_
   refine rl_lookup2 ({ proto := a1.proto, point := a1.point } : Place) St85.z rfl rfl ah0_0 rfl kt165 Tryz.underlying120 Tryz.zeroValue85 rfl ?_
   exact RL.nil ⟨_, rfl, Ch.refl, rfl⟩
  refine Each.consS (fun fl O wk hE hN hO ck => ?_) ?_
  ·
   refine Need.o1 rfl rfl rfl (fun _ h => h) ?_
   refine rl_move rfl rfl ?_
   exact RL.nil ⟨_, rfl, Ch.refl, rfl⟩
  refine Each.consS (fun fl O wk hE hN hO ck => ?_) ?_
  ·
   refine Need.o1 rfl rfl rfl (fun _ h => h) ?_
   refine rl_extract rfl rfl rfl ?_
   exact RL.nil ⟨_, rfl, Ch.refl, rfl⟩
  refine Each.consS (fun fl O wk hE hN hO ck => ?_) ?_
  ·
   refine Need.o1 rfl rfl rfl (fun _ h => h) ?_
   refine rl_extract rfl rfl rfl ?_
   exact RL.nil ⟨_, rfl, Ch.refl, rfl⟩
  refine Each.consP ⟨fun _ O _ wx wy cc hh => by obtain ⟨p18, e, rfl, ck9_0⟩ := hh; exact ⟨p18, e, rfl, ck9_0.ch0 cc⟩, fun O wk hO ck => ?_⟩ ?_
  ·
   refine rl_alloc (St85.enc St85.z) Tryz.zeroValue85 rfl rfl ?_
   intro p90 w91 n92 k93
   have hb100 : ∀ b, (inBlk (PV p90)) b → wk.heap.size ≤ b ∧ b < w91.heap.size := fun b h => ⟨n92.fresh b h, k93.ltp b h⟩
   exact RL.nil ⟨_, (inBlk (PV p90)), rfl, hb100, n92.ch, ⟨p90, rfl, rfl, k93⟩⟩
  refine Each.consO ⟨fun _ O _ wx wy cc hh => by obtain ⟨p18, eh, e, rfl, ck10_0⟩ := hh; exact ⟨p18, eh, e, rfl, ck10_0.ch0 cc⟩, fun hv Op O wk hO ck hO0 => ?_⟩ ?_
  ·
   obtain ⟨hl, hBg⟩ := hO0 rfl
   refine Need.made rfl rfl rfl rfl ?_
   rintro _ ⟨p18, e101, eO102, ck9_0⟩ hh103
   obtain rfl := e101.symm
   have io104 : ∀ b, inBlk (PV p18) b → _ := fun b h => (Eq.mpr (congrFun eO102 b) h)
   obtain rfl := hist_eq [(PV p18)] hv hl ⟨hh103, trivial⟩
   refine Need.o1 rfl rfl rfl (fun _ h => h) ?_
   refine rl_storeA (vs := (St85.enc ((mget a0.seen ({ proto := a1.proto, point := a1.point } : Place)).getD St85.z))) rfl rfl (all_one rfl) Tryz.sizeOf85 rfl ck9_0 rfl ?_
   intro w113 s115 c114 k116
   have hb118 : ∀ b, (inBlk (PV p18)) b → (O b ∨ wk.heap.size ≤ b) ∧ b < w113.heap.size := fun b h => ⟨.inl ((hBg.1 b).2 (.inr ⟨_, inPre rfl, io104 b h⟩)), k116.ltp b h⟩
   exact RL.nil ⟨_, (inBlk (PV p18)), rfl, hb118, (c114.mono (fun b _ h => ((hBg.1 b).2 (.inr ⟨_, inPre rfl, io104 b h⟩)))), ⟨p18, rfl, rfl, rfl, k116⟩⟩
  trivial
 intro hvO121 OpO121 O121 w119 hO122 c120 hN123
 have ol126 : ∀ b, inBlk az0_0 b → b < w13.heap.size := ah0_0.ltp
 have ol127 : ∀ b, inBlk az0_1 b → b < w13.heap.size := (fun b hb => (ah0_1.lt b hb).2)
 refine Need.hereN rfl rfl rfl rfl ?_
 rintro ⟨p18, rfl, _, rfl, ck10_0⟩
 have d132 : ∀ b, inBlk (PV p18) b → ¬ inBlk az0_0 b := fun b h hu => (hO122 b h).1.elim (fun h => h.elim) (fun h => Nat.not_le_of_lt (ol126 b hu) h)
 have d133 : ∀ b, inBlk (PV p18) b → ¬ inBlk az0_1 b := fun b h hu => (hO122 b h).1.elim (fun h => h.elim) (fun h => Nat.not_le_of_lt (ol127 b hu) h)
 have ha134 : ∀ b, b < w13.heap.size → ¬ (un (inBlk (PV p5)) (un (inBlk (PV po0)) (un (inBlk az0_0) (un (inBlk az0_1) S2)))) b → ¬ nb b ∧ ¬ (un (inBlk (PV p18)) (un (inBlk (PV p5)) (un (inBlk (PV po0)) (un (inBlk az0_0) (un (inBlk az0_1) S2))))) b := fun b hb hs => ⟨fun h => h.elim, fun h => un_el h (fun h => (hO122 b h).1.elim (fun h => h.elim) (fun h => Nat.not_le_of_lt hb h)) (fun h => un_el h (fun h => hs (.inl h)) (fun h => un_el h (fun h => hs (.inr (.inl h))) (fun h => un_el h (fun h => hs (.inr (.inr (.inl h)))) (fun h => un_el h (fun h => hs (.inr (.inr (.inr (.inl h))))) (fun h => hs (.inr (.inr (.inr (.inr h)))))))))⟩
 have ah0 := ah0.ch0 c120
 have ah0_0 := ah0_0.ch0 c120
 have ah0_1 := ah0_1.st c120 (fun _ _ x => x) ha134 (fun b h => (.inr (.inr (.inr (.inr (.inl h))))))
 have gp1n : (G F Bb (un (inBlk (PV p18)) (un (inBlk (PV p5)) (un (inBlk (PV po0)) (un (inBlk az0_0) (un (inBlk az0_1) S2)))))) p1 := ⟨gp1.1, (ha134 _ k4.lt gp1.2).2⟩
 have k4 := k4.ch0 c120
 have gp1 := gp1n
 have k16 := k16.ch0 c120
 have c0 := c0.then0 c120
 refine Need.o1 rfl rfl rfl (fun _ h => h) ?_
 refine rl_assign rfl rfl ?_
 refine RL.nil (thn_n (CW.seq (CW.region ?_)))
 refine rl_move rfl rfl ?_
 refine RL.nil (thn_n ?_)
 refine CW.cond (t := (mget a0.seen ({ proto := a1.proto, point := a1.point } : Place)).isSome) rfl (fun q136 => ?_) (fun q136 => ?_)
 ·
  have hS := ifT q136 hS
  refine CW.ret ?_
  refine thn_ret ?_
  obtain rfl := Option.some.inj hS
  have ad137 : ∀ b, b < w119.heap.size → ¬ (un (inBlk (PV p18)) (un (inBlk (PV p5)) (un (inBlk (PV po0)) (un (inBlk az0_0) (un (inBlk az0_1) S2))))) b → ¬ nb b ∧ ¬ (un (inBlk (PV p5)) (un (inBlk (PV po0)) (un (inBlk az0_0) (un (inBlk az0_1) S2)))) b := fun b _ hs => ⟨fun x => x, fun h => hs (un_el h (fun h => (.inr (.inl h))) (fun h => un_el h (fun h => (.inr (.inr (.inl h)))) (fun h => un_el h (fun h => (.inr (.inr (.inr (.inl h))))) (fun h => un_el h (fun h => (.inr (.inr (.inr (.inr (.inl h)))))) (fun h => (.inr (.inr (.inr (.inr (.inr h))))))))))⟩
  have crf : Ch nb w119 w119 := Ch.refl
  have ah0 := ah0.ch0 crf
  have ah0_0 := ah0_0.ch0 crf
  have ah0_1 := ah0_1.st crf (fun _ _ x => x) ad137 (fun b h => (.inr (.inr (.inr (.inl h)))))
  have c0 := c0.then0 crf
  have ad138 : ∀ b, b < w119.heap.size → ¬ (un (inBlk (PV p5)) (un (inBlk (PV po0)) (un (inBlk az0_0) (un (inBlk az0_1) S2)))) b → ¬ nb b ∧ ¬ (un (inBlk (PV po0)) (un (inBlk az0_0) (un (inBlk az0_1) S2))) b := fun b _ hs => ⟨fun x => x, fun h => hs (un_el h (fun h => (.inr (.inl h))) (fun h => un_el h (fun h => (.inr (.inr (.inl h)))) (fun h => un_el h (fun h => (.inr (.inr (.inr (.inl h))))) (fun h => (.inr (.inr (.inr (.inr h))))))))⟩
  have crf : Ch nb w119 w119 := Ch.refl
  have ah0 := ah0.ch0 crf
  have ah0_0 := ah0_0.ch0 crf
  have ah0_1 := ah0_1.st crf (fun _ _ x => x) ad138 (fun b h => (.inr (.inr (.inl h))))
  have c0 := c0.then0 crf
  exact ⟨[], trivial, ⟨az0_0, az0_1, rfl, ah0, ah0_0, ah0_1, lin1_0, lin2_0, hx0_1, hx0_2, hx1_2, c0⟩⟩
 have hS := ifF q136 hS
 refine CW.skip ?_
 refine thn_n (CW.seq ?_)
 refine CW.draw 6 [(none, fun fx O uu wx => uu = (PV po0)), (none, fun fx O uu wx => uu = (PV po0)), (none, fun fx O uu wx => uu = (PV po0)), (none, fun fx O uu wx => uu = az0_0), (none, fun fx O uu wx => uu = (Value.agg (Place.enc ({ proto := a1.proto, point := a1.point } : Place)).toArray)), (none, fun fx O uu wx => uu = (Value.agg (St85.enc ({  } : St85)).toArray))] [[], [0], [1], [2], [], []] [3, 4, 5] nb (fun _ h => h.elim) mixed rfl rfl rfl rfl ?_ ?_
 ·
  refine Each.consS (fun fl O wk hE hN hO ck => ?_) ?_
  ·
   refine rl_move rfl rfl ?_
   exact RL.nil ⟨_, rfl, Ch.refl, rfl⟩
  refine Each.consS (fun fl O wk hE hN hO ck => ?_) ?_
  ·
   refine Need.o1 rfl rfl rfl (fun _ h => h) ?_
   refine rl_nilCheck rfl rfl ?_
   exact RL.nil ⟨_, rfl, Ch.refl, rfl⟩
  refine Each.consS (fun fl O wk hE hN hO ck => ?_) ?_
  ·
   refine Need.o1 rfl rfl rfl (fun _ h => h) ?_
   refine rl_fieldAddr rfl fa122_0 rfl ?_
   exact RL.nil ⟨_, rfl, Ch.refl, rfl⟩
  refine Each.consS (fun fl O wk hE hN hO ck => ?_) ?_
  ·
   have ah0 := ah0.ch0 ck
   refine Need.o1 rfl rfl rfl (fun _ h => h) ?_
   refine rl_loadS (v := az0_0) rfl Tryz.isAgg120 (ah0.cell rfl) rfl ?_
   exact RL.nil ⟨_, rfl, Ch.refl, rfl⟩
  refine Each.consS (fun fl O wk hE hN hO ck => ?_) ?_
  ·
   have k16 := k16.ch0 ck
   refine rl_loadA (cs := (Place.enc ({ proto := a1.proto, point := a1.point } : Place))) rfl Tryz.isAgg165 Tryz.sizeOf165 (k16.segAt 0 19) rfl rfl ?_
   exact RL.nil ⟨_, rfl, Ch.refl, rfl⟩
  refine Each.consS (fun fl O wk hE hN hO ck => ?_) ?_
  ·
   refine rl_build (out := (St85.enc ({  } : St85))) rfl pl85 Tryz.zeroValue85 rfl rfl rfl ?_
   exact RL.nil ⟨_, rfl, Ch.refl, rfl⟩
  trivial
 intro hvO148 OpO148 O148 w146 hO149 c147 hN150
 have ah0 := ah0.ch0 c147
 have ah0_0 := ah0_0.ch0 c147
 have ah0_1 := ah0_1.ch0 c147
 have k4 := k4.ch0 c147
 have k16 := k16.ch0 c147
 have ck10_0 := ck10_0.ch0 c147
 have c0 := c0.then0 c147
 refine Need.o1 rfl rfl rfl (fun _ h => h) ?_
 refine Need.o1 rfl rfl rfl (fun _ h => h) ?_
 refine Need.o1 rfl rfl rfl (fun _ h => h) ?_
 refine rl_mapUpdate ({ proto := a1.proto, point := a1.point } : Place) ({  } : St85) rfl rfl rfl ah0_0 rfl rfl kt165 Tryz.underlying120 ?_
 intro w154 c155 h156
 have ad157 : ∀ b, b < w146.heap.size → ¬ (un (inBlk (PV p18)) (un (inBlk (PV p5)) (un (inBlk (PV po0)) (un (inBlk az0_0) (un (inBlk az0_1) S2))))) b → ¬ (inBlk az0_0) b ∧ ¬ (un (inBlk (PV p18)) (un (inBlk (PV p5)) (un (inBlk (PV po0)) (un (inBlk az0_0) (un (inBlk az0_1) S2))))) b := fun b _ hs => ⟨fun h => hs (.inr (.inr (.inr (.inl h)))), hs⟩
 have ah0 := ah0.ch c155 ((fun b hb h => hx0_1 b hb h) _ rfl)
 have ah0_1 := ah0_1.st c155 (fun b hb h => (disSym hx1_2) b hb h) ad157 (fun b h => (.inr (.inr (.inr (.inr (.inl h))))))
 have k4 := k4.ch c155 (ad157 _ k4.lt gp1.2).1
 have k16 := k16.ch c155 ((fun b hb h => d11 b hb h) _ rfl)
 have ck10_0 := ck10_0.ch c155 ((fun b hb h => d132 b hb h) _ rfl)
 have c0 := c0.then c155 (fun i hi h => (lin1_0 i h).elim (fun x => x) (fun x => absurd x (Nat.not_le_of_lt hi)))
 refine RL.nil (thn_n ?_)
 have hS183 : (un (inBlk (PV p18)) (un (inBlk (PV p5)) (un (inBlk (PV po0)) (un (inBlk az0_0) (un (inBlk az0_1) S2))))) = (un (inBlk az0_1) (un (inBlk (PV p18)) (un (inBlk (PV p5)) (un (inBlk (PV po0)) (un (inBlk az0_0) S2))))) := funext fun b => propext ⟨fun h => un_el h (fun h => (.inr (.inl h))) (fun h => un_el h (fun h => (.inr (.inr (.inl h)))) (fun h => un_el h (fun h => (.inr (.inr (.inr (.inl h))))) (fun h => un_el h (fun h => (.inr (.inr (.inr (.inr (.inl h)))))) (fun h => un_el h (fun h => (.inl h)) (fun h => (.inr (.inr (.inr (.inr (.inr h)))))))))), fun h => un_el h (fun h => (.inr (.inr (.inr (.inr (.inl h)))))) (fun h => un_el h (fun h => (.inl h)) (fun h => un_el h (fun h => (.inr (.inl h))) (fun h => un_el h (fun h => (.inr (.inr (.inl h)))) (fun h => un_el h (fun h => (.inr (.inr (.inr (.inl h))))) (fun h => (.inr (.inr (.inr (.inr (.inr h))))))))))⟩
 rw [hS183] at ah0_1 gp1
 obtain ⟨z171, hz172, hS⟩ := bindS hS
 refine CW.draw 8 [(none, fun fx O uu wx => uu = (PV po0)), (none, fun fx O uu wx => uu = (PV po0)), (none, fun fx O uu wx => uu = (PV po0)), (none, fun fx O uu wx => uu = (Value.pointer (some ⟨po0, 1, none⟩))), (none, fun fx O uu wx => uu = az0_1), (none, fun fx O uu wx => uu = (Value.agg (Face.enc a1).toArray)), (none, fun fx O uu wx => ∃ (v158 : Value), uu = v158 ∧ slRep k_Face (G F Bb (un O (un (inBlk (PV p18)) (un (inBlk (PV p5)) (un (inBlk (PV po0)) (un (inBlk az0_0) S2)))))) wx [a1] v158), (some true, fun hv O uu wx => ∃ (v165 : Value), hv = [v165] ∧ uu = v165 ∧ O = (inBlk v165) ∧ SlO k_Face 47 F Bb (un (inBlk v165) (un (inBlk (PV p18)) (un (inBlk (PV p5)) (un (inBlk (PV po0)) (un (inBlk az0_0) S2))))) wx (a0.list ++ [a1]) v165)] [[], [], [1], [2], [3], [], [5], [4, 6]] [7, 0] (inBlk az0_1) (fun b h => (fun b hb => (ah0_1.lt b hb).2) b h) mixed rfl rfl rfl rfl ?_ ?_
 ·
  refine Each.consS (fun fl O wk hE hN hO ck => ?_) ?_
  ·
   refine rl_move rfl rfl ?_
   exact RL.nil ⟨_, rfl, Ch.refl, rfl⟩
  refine Each.consS (fun fl O wk hE hN hO ck => ?_) ?_
  ·
   refine rl_move rfl rfl ?_
   exact RL.nil ⟨_, rfl, Ch.refl, rfl⟩
  refine Each.consS (fun fl O wk hE hN hO ck => ?_) ?_
  ·
   refine Need.o1 rfl rfl rfl (fun _ h => h) ?_
   refine rl_nilCheck rfl rfl ?_
   exact RL.nil ⟨_, rfl, Ch.refl, rfl⟩
  refine Each.consS (fun fl O wk hE hN hO ck => ?_) ?_
  ·
   refine Need.o1 rfl rfl rfl (fun _ h => h) ?_
   refine rl_fieldAddr rfl fa122_1 rfl ?_
   exact RL.nil ⟨_, rfl, Ch.refl, rfl⟩
  refine Each.consS (fun fl O wk hE hN hO ck => ?_) ?_
  ·
   have ah0 := ah0.ch ck ((fun b hb h => hx0_2 b hb h) _ rfl)
   refine Need.o1 rfl rfl rfl (fun _ h => h) ?_
   refine rl_loadS (v := az0_1) rfl Tryz.isAgg36 (ah0.cell rfl) rfl ?_
   exact RL.nil ⟨_, rfl, Ch.refl, rfl⟩
  refine Each.consS (fun fl O wk hE hN hO ck => ?_) ?_
  ·
   have ha216 : ∀ b, b < w154.heap.size → ¬ (un (inBlk az0_1) (un (inBlk (PV p18)) (un (inBlk (PV p5)) (un (inBlk (PV po0)) (un (inBlk az0_0) S2))))) b → ¬ (inBlk az0_1) b ∧ ¬ (un O (un (inBlk (PV p18)) (un (inBlk (PV p5)) (un (inBlk (PV po0)) (un (inBlk az0_0) S2))))) b := fun b hb hs => ⟨fun h => hs (.inl h), fun h => un_el h (fun ho => (hO b ho).1.elim (fun h => hs (.inl h)) (fun h => Nat.not_le_of_lt hb h)) (fun h => un_el h (fun h => hs (.inr (.inl h))) (fun h => un_el h (fun h => hs (.inr (.inr (.inl h)))) (fun h => un_el h (fun h => hs (.inr (.inr (.inr (.inl h))))) (fun h => un_el h (fun h => hs (.inr (.inr (.inr (.inr (.inl h)))))) (fun h => hs (.inr (.inr (.inr (.inr (.inr h))))))))))⟩
   have k4 := k4.ch ck (ha216 _ k4.lt gp1.2).1
   refine rl_loadA (cs := (Face.enc a1)) rfl Tryz.isAgg47 Tryz.sizeOf47 (k4.segAt 0 23) rfl rfl ?_
   exact RL.nil ⟨_, rfl, Ch.refl, rfl⟩
  refine Each.consA ⟨fun _ _ _ _ _ cc hh => by obtain ⟨v158, e, h162⟩ := hh; exact ⟨v158, e, slRep.ch k_Face_pos h162 cc⟩, fun _ _ h' O O' D _ wx wy hfl hD hO' cc hh => by obtain ⟨v158, e, h162⟩ := hh; have ad := admGh (S := (un (inBlk (PV p18)) (un (inBlk (PV p5)) (un (inBlk (PV po0)) (un (inBlk az0_0) S2))))) hD hO'; exact ⟨v158, e, slRep.st k_Face_pos h162 cc ad⟩, fun fl O wk hE hN hO ck => ?_⟩ ?_
  ·
   have ah0 := ah0.ch ck ((fun b hb h => hx0_2 b hb h) _ rfl)
   have k16 := k16.ch ck ((fun b hb h => d12 b hb h) _ rfl)
   have ck10_0 := ck10_0.ch ck ((fun b hb h => d133 b hb h) _ rfl)
   have h156 := h156.ch ck ((fun b hb h => hx1_2 b hb h))
   have c0 := c0.then ck (fun i hi h => (lin2_0 i h).elim (fun x => x) (fun x => absurd x (Nat.not_le_of_lt hi)))
   refine Need.o1 rfl rfl rfl (fun _ h => h) ?_
   refine rl_bslice (k := k_Face) (F := F) (B := Bb) (S := (un O (un (inBlk (PV p18)) (un (inBlk (PV p5)) (un (inBlk (PV po0)) (un (inBlk az0_0) S2)))))) ([a1] : List Face) rfl k_Face_pos Tryz.underlying36 Tryz.sizeOf47 Tryz.zeroValue47 rfl rfl ⟨rfl, rfl, trivial⟩ (Nat.le_trans hB c0.size) (un_lt (fun b h => (hO b h).2) (un_lt ck10_0.ltp (un_lt k16.ltp (un_lt ah0.ltp (un_lt h156.ltp (fun b h => Nat.lt_of_lt_of_le (h2 b h) c0.size)))))) rfl ?_
   intro v223 w224 c225 hf226 h227
   have h227 := h227.readNew k_Face_pos hf226 (un_lt (fun b h => (hO b h).2) (un_lt ck10_0.ltp (un_lt k16.ltp (un_lt ah0.ltp (un_lt h156.ltp (fun b h => Nat.lt_of_lt_of_le (h2 b h) c0.size))))))
   exact RL.nil ⟨_, rfl, c225, ⟨v223, rfl, h227⟩⟩
  refine Each.consO ⟨fun _ O _ wx wy cc hh => by obtain ⟨v165, eh, e, rfl, ck7_0⟩ := hh; exact ⟨v165, eh, e, rfl, ck7_0.ch0 cc⟩, fun hv Op O wk hO ck hO0 => ?_⟩ ?_
  ·
   obtain ⟨hl, hBg⟩ := hO0 rfl
   obtain rfl := List.eq_nil_of_length_eq_zero hl
   have ah0 := ah0.ch0 hBg.2.1
   have ah0_1 := ah0_1.ch0 hBg.2.1
   have k16 := k16.ch0 hBg.2.1
   have ck10_0 := ck10_0.ch0 hBg.2.1
   have h156 := h156.ch0 hBg.2.1
   have c0 := c0.then0 hBg.2.1
   refine Need.o1 rfl rfl rfl (fun _ h => h) ?_
   refine Need.one rfl rfl rfl ?_
   rintro _ ⟨v158, e229, h162⟩
   obtain rfl := e229.symm
   have h162 := slRep.wk (F' := (G F Bb (un (inBlk az0_1) (un (inBlk (PV p18)) (un (inBlk (PV p5)) (un (inBlk (PV po0)) (un (inBlk az0_0) S2))))))) k_Face_pos h162 (fun b _ hf => ⟨hf.1, fun h => hf.2 (un_el h (fun h => (.inl ((hBg.1 b).2 (.inl h)))) (fun h => un_el h (fun h => (.inr (.inl h))) (fun h => un_el h (fun h => (.inr (.inr (.inl h)))) (fun h => un_el h (fun h => (.inr (.inr (.inr (.inl h))))) (fun h => un_el h (fun h => (.inr (.inr (.inr (.inr (.inl h)))))) (fun h => (.inr (.inr (.inr (.inr (.inr h)))))))))))⟩)
   have hl := (apO_get hz172).1
   refine rl_append (k := k_Face) (T := 47) (F := F) (B := Bb) (S := (un (inBlk az0_1) (un (inBlk (PV p18)) (un (inBlk (PV p5)) (un (inBlk (PV po0)) (un (inBlk az0_0) S2)))))) (S2 := (un (inBlk (PV p18)) (un (inBlk (PV p5)) (un (inBlk (PV po0)) (un (inBlk az0_0) S2))))) (fun v => (un (inBlk v) (un (inBlk (PV p18)) (un (inBlk (PV p5)) (un (inBlk (PV po0)) (un (inBlk az0_0) S2)))))) rfl rfl k_Face_pos ap36 ah0_1 h162 (fun _ => Iff.rfl) (fun _ _ => Iff.rfl) hl (Nat.le_trans hB c0.size) (un_lt (fun b hb => (ah0_1.lt b hb).2) (un_lt ck10_0.ltp (un_lt k16.ltp (un_lt ah0.ltp (un_lt h156.ltp (fun b h => Nat.lt_of_lt_of_le (h2 b h) c0.size)))))) rfl ?_
   intro v232 w233 h234 c235 hf236 ha237
   have hb243 : ∀ b, (inBlk v232) b → (O b ∨ wk.heap.size ≤ b) ∧ b < w233.heap.size := fun b h => ⟨(hf236 b h).elim (fun h => .inl (((hBg.1 b).2 (.inl h)))) (fun h => .inr (Nat.le_trans (Nat.le_refl _) h)), (fun b hb => (h234.lt b hb).2) b h⟩
   exact RL.nil ⟨_, (inBlk v232), rfl, hb243, (c235.mono (fun b _ h => ((hBg.1 b).2 (.inl h)))), ⟨v232, rfl, rfl, rfl, h234⟩⟩
  trivial
 intro hvO246 OpO246 O246 w244 hO247 c245 hN248
 have ol251 : ∀ b, inBlk (PV po0) b → b < w154.heap.size := ah0.ltp
 have ol252 : ∀ b, inBlk az0_0 b → b < w154.heap.size := h156.ltp
 refine Need.here rfl rfl rfl rfl ?_
 rintro _ ⟨v165, rfl, e253, rfl, ck7_0⟩
 obtain rfl := e253.symm
 have lin254 : ∀ b, inBlk v165 b → (un (inBlk (PV po0)) (un (inBlk az0_0) (inBlk az0_1))) b ∨ w.heap.size ≤ b := fun b h => (hO247 b h).1.elim (fun h => lin2_0 b h) (fun h => .inr (Nat.le_trans c0.size h))
 have d257 : ∀ b, inBlk v165 b → ¬ inBlk (PV po0) b := fun b h hu => (hO247 b h).1.elim (fun h => (disSym hx0_2) b h hu) (fun h => Nat.not_le_of_lt (ol251 b hu) h)
 have d258 : ∀ b, inBlk v165 b → ¬ inBlk az0_0 b := fun b h hu => (hO247 b h).1.elim (fun h => (disSym hx1_2) b h hu) (fun h => Nat.not_le_of_lt (ol252 b hu) h)
 have ha259 : ∀ b, b < w154.heap.size → ¬ (un (inBlk az0_1) (un (inBlk (PV p18)) (un (inBlk (PV p5)) (un (inBlk (PV po0)) (un (inBlk az0_0) S2))))) b → ¬ (inBlk az0_1) b ∧ ¬ (un (inBlk v165) (un (inBlk (PV p18)) (un (inBlk (PV p5)) (un (inBlk (PV po0)) (un (inBlk az0_0) S2))))) b := fun b hb hs => ⟨fun h => hs (.inl h), fun h => un_el h (fun h => (hO247 b h).1.elim (fun h => hs (.inl h)) (fun h => Nat.not_le_of_lt hb h)) (fun h => un_el h (fun h => hs (.inr (.inl h))) (fun h => un_el h (fun h => hs (.inr (.inr (.inl h)))) (fun h => un_el h (fun h => hs (.inr (.inr (.inr (.inl h))))) (fun h => un_el h (fun h => hs (.inr (.inr (.inr (.inr (.inl h)))))) (fun h => hs (.inr (.inr (.inr (.inr (.inr h))))))))))⟩
 have ah0 := ah0.ch c245 ((fun b hb h => hx0_2 b hb h) _ rfl)
 have gp1n : (G F Bb (un (inBlk v165) (un (inBlk (PV p18)) (un (inBlk (PV p5)) (un (inBlk (PV po0)) (un (inBlk az0_0) S2)))))) p1 := ⟨gp1.1, (ha259 _ k4.lt gp1.2).2⟩
 have k4 := k4.ch c245 (ha259 _ k4.lt gp1.2).1
 have gp1 := gp1n
 have h156 := h156.ch c245 ((fun b hb h => hx1_2 b hb h))
 have c0 := c0.then c245 (fun i hi h => (lin2_0 i h).elim (fun x => x) (fun x => absurd x (Nat.not_le_of_lt hi)))
 refine Need.o1 rfl rfl rfl (fun _ h => h) ?_
 refine rl_nilCheck rfl rfl ?_
 refine rl_fieldAddr rfl fa122_1 rfl ?_
 refine rl_storeS (u := v165) rfl rfl ck7_0.one Tryz.sizeOf36 ah0 rfl ?_
 intro w261 s263 c262 k264
 have ad265 : ∀ b, b < w244.heap.size → ¬ (un (inBlk v165) (un (inBlk (PV p18)) (un (inBlk (PV p5)) (un (inBlk (PV po0)) (un (inBlk az0_0) S2))))) b → ¬ (inBlk (PV po0)) b ∧ ¬ (un (inBlk v165) (un (inBlk (PV p18)) (un (inBlk (PV p5)) (un (inBlk (PV po0)) (un (inBlk az0_0) S2))))) b := fun b _ hs => ⟨fun h => hs (.inr (.inr (.inr (.inl h)))), hs⟩
 have k4 := k4.ch c262 (ad265 _ k4.lt gp1.2).1
 have h156 := h156.ch c262 ((fun b hb h => (disSym hx0_1) b hb h))
 have ck7_0 := ck7_0.st c262 (fun b hb h => d257 b hb h) ad265 (fun b h => (.inl h))
 have c0 := c0.then c262 (fun i hi h => (lin0_0 i h).elim (fun x => x) (fun x => absurd x (Nat.not_le_of_lt hi)))
 refine RL.nil ?_
 obtain rfl := Option.some.inj hS
 have ad266 : ∀ b, b < w261.heap.size → ¬ (un (inBlk v165) (un (inBlk (PV p18)) (un (inBlk (PV p5)) (un (inBlk (PV po0)) (un (inBlk az0_0) S2))))) b → ¬ nb b ∧ ¬ (un (inBlk v165) (un (inBlk (PV p5)) (un (inBlk (PV po0)) (un (inBlk az0_0) S2)))) b := fun b _ hs => ⟨fun x => x, fun h => hs (un_el h (fun h => (.inl h)) (fun h => un_el h (fun h => (.inr (.inr (.inl h)))) (fun h => un_el h (fun h => (.inr (.inr (.inr (.inl h))))) (fun h => un_el h (fun h => (.inr (.inr (.inr (.inr (.inl h)))))) (fun h => (.inr (.inr (.inr (.inr (.inr h))))))))))⟩
 have crf : Ch nb w261 w261 := Ch.refl
 have gp1n : (G F Bb (un (inBlk v165) (un (inBlk (PV p5)) (un (inBlk (PV po0)) (un (inBlk az0_0) S2))))) p1 := ⟨gp1.1, (ad266 _ k4.lt gp1.2).2⟩
 have k4 := k4.ch0 crf
 have gp1 := gp1n
 have h156 := h156.ch0 crf
 have ck7_0 := ck7_0.st crf (fun _ _ x => x) ad266 (fun b h => (.inl h))
 have k264 := k264.ch0 crf
 have c0 := c0.then0 crf
 have ad267 : ∀ b, b < w261.heap.size → ¬ (un (inBlk v165) (un (inBlk (PV p5)) (un (inBlk (PV po0)) (un (inBlk az0_0) S2)))) b → ¬ nb b ∧ ¬ (un (inBlk v165) (un (inBlk (PV po0)) (un (inBlk az0_0) S2))) b := fun b _ hs => ⟨fun x => x, fun h => hs (un_el h (fun h => (.inl h)) (fun h => un_el h (fun h => (.inr (.inr (.inl h)))) (fun h => un_el h (fun h => (.inr (.inr (.inr (.inl h))))) (fun h => (.inr (.inr (.inr (.inr h))))))))⟩
 have crf : Ch nb w261 w261 := Ch.refl
 have gp1n : (G F Bb (un (inBlk v165) (un (inBlk (PV po0)) (un (inBlk az0_0) S2)))) p1 := ⟨gp1.1, (ad267 _ k4.lt gp1.2).2⟩
 have gp1 := gp1n
 have h156 := h156.ch0 crf
 have ck7_0 := ck7_0.st crf (fun _ _ x => x) ad267 (fun b h => (.inl h))
 have k264 := k264.ch0 crf
 have c0 := c0.then0 crf
 have hS268 : (un (inBlk v165) (un (inBlk (PV po0)) (un (inBlk az0_0) S2))) = (un (inBlk (PV po0)) (un (inBlk az0_0) (un (inBlk v165) S2))) := funext fun b => propext ⟨fun h => un_el h (fun h => (.inr (.inr (.inl h)))) (fun h => un_el h (fun h => (.inl h)) (fun h => un_el h (fun h => (.inr (.inl h))) (fun h => (.inr (.inr (.inr h)))))), fun h => un_el h (fun h => (.inr (.inl h))) (fun h => un_el h (fun h => (.inr (.inr (.inl h)))) (fun h => un_el h (fun h => (.inl h)) (fun h => (.inr (.inr (.inr h))))))⟩
 rw [hS268] at ck7_0 gp1
 exact ⟨[], trivial, ⟨az0_0, v165, rfl, k264, h156, ck7_0, lin1_0, lin254, hx0_1, (disSym d257), (disSym d258), c0⟩⟩
/-- (*lb/face.row).all -/
theorem ctr45 (F : Nat → Prop) (w : World) (Bb : Nat) (S2 : Nat → Prop) (hB : Bb ≤ w.heap.size) (h2 : ∀ b, S2 b → b < w.heap.size) (po0 : Nat) (az0_0 : Value) (az0_1 : Value) (hd2 : ∀ b, (un (inBlk (PV po0)) (un (inBlk az0_0) (inBlk az0_1))) b → ¬ S2 b) (hx0_1 : ∀ b, inBlk (PV po0) b → ¬ inBlk az0_0 b) (hx0_2 : ∀ b, inBlk (PV po0) b → ¬ inBlk az0_1 b) (hx1_2 : ∀ b, inBlk az0_0 b → ¬ inBlk az0_1 b) (a0 : Row_2) (ah0 : Blk w po0 122 (Row_2.c a0 az0_0 az0_1)) (ah0_0 : Mp (fun x => Value.agg (Place.enc x).toArray) (fun x => Value.agg (St85.enc x).toArray) w a0.seen az0_0) (ah0_1 : SlO k_Face 47 F Bb (un (inBlk (PV po0)) (un (inBlk az0_0) (un (inBlk az0_1) S2))) w a0.list az0_1) (a1 : (List Addr)) (av1 : Value) (ah1 : slRep k_Addr (G F Bb (un (inBlk (PV po0)) (un (inBlk az0_0) (un (inBlk az0_1) S2)))) w a1 av1) (a2 : Face) (r : Row_2) (hs : F45_all a0 a1 a2 = some r) :
    Ret Tryz.prog 45 #[(PV po0), av1, (Value.agg (Face.enc a2).toArray)] w fun v w' => ∃ (nz0_0 : Value) (nz0_1 : Value), v = Value.tuple #[] ∧ Blk w' po0 122 (Row_2.c r nz0_0 nz0_1) ∧ Mp (fun x => Value.agg (Place.enc x).toArray) (fun x => Value.agg (St85.enc x).toArray) w' r.seen nz0_0 ∧ SlO k_Face 47 F Bb (un (inBlk (PV po0)) (un (inBlk nz0_0) (un (inBlk nz0_1) S2))) w' r.list nz0_1 ∧ (∀ b, inBlk nz0_0 b → (un (inBlk (PV po0)) (un (inBlk az0_0) (inBlk az0_1))) b ∨ w.heap.size ≤ b) ∧ (∀ b, inBlk nz0_1 b → (un (inBlk (PV po0)) (un (inBlk az0_0) (inBlk az0_1))) b ∨ w.heap.size ≤ b) ∧ (∀ b, inBlk (PV po0) b → ¬ inBlk nz0_0 b) ∧ (∀ b, inBlk (PV po0) b → ¬ inBlk nz0_1 b) ∧ (∀ b, inBlk nz0_0 b → ¬ inBlk nz0_1 b) ∧ Ch (un (inBlk (PV po0)) (un (inBlk az0_0) (inBlk az0_1))) w w' := by
 have hS := hs
 have c0 : Ch (un (inBlk (PV po0)) (un (inBlk az0_0) (inBlk az0_1))) w w := Ch.refl
 have lin0_0 : ∀ b, inBlk (PV po0) b → (un (inBlk (PV po0)) (un (inBlk az0_0) (inBlk az0_1))) b ∨ w.heap.size ≤ b := fun b h => .inl (.inl h)
 have lin1_0 : ∀ b, inBlk az0_0 b → (un (inBlk (PV po0)) (un (inBlk az0_0) (inBlk az0_1))) b ∨ w.heap.size ≤ b := fun b h => .inl (.inr (.inl h))
 have lin2_0 : ∀ b, inBlk az0_1 b → (un (inBlk (PV po0)) (un (inBlk az0_0) (inBlk az0_1))) b ∨ w.heap.size ≤ b := fun b h => .inl (.inr (.inr h))
 refine Ret.of (n := 21) (args := [_, _, _]) (rs := []) Tryz.func45 rfl rfl rfl rfl ?_
 refine CW.seq (CW.region ?_)
 refine rl_boxA (cs := (Face.enc a2)) rfl rfl ?_
 intro p1 w2 n3 k4
 have lo5 : ∀ b, inBlk (PV p1) b → w.heap.size ≤ b := fun b h => Nat.le_trans c0.size (n3.fresh b h)
 have d6 : ∀ b, inBlk (PV p1) b → ¬ inBlk (PV po0) b := disNew n3.fresh ah0.ltp
 have d7 : ∀ b, inBlk (PV p1) b → ¬ inBlk az0_0 b := disNew n3.fresh ah0_0.ltp
 have d8 : ∀ b, inBlk (PV p1) b → ¬ inBlk az0_1 b := disNew n3.fresh (fun b hb => (ah0_1.lt b hb).2)
 have ah0 := ah0.ch0 n3.ch
 have ah0_0 := ah0_0.ch0 n3.ch
 have ah0_1 := ah0_1.st n3.ch (fun _ _ x => x) (admNew n3.fresh (fun _ x => x)) (fun b h => (.inr (.inr (.inr (.inl h)))))
 have ah1 := slRep.st k_Addr_pos ah1 n3.ch (admNew n3.fresh (fun _ x => x))
 have c0 := c0.then0 n3.ch
 refine RL.nil (thn_n (CW.seq (CW.region ?_)))
 refine rl_move rfl rfl ?_
 refine rl_lenR rfl ah1 Tryz.underlying24 rfl ?_
 refine rl_move rfl rfl ?_
 refine RL.nil (thn_n ?_)
 obtain ⟨o32, ho33, hS⟩ := bindS hS
 refine CW.cutB (fun E' w' => ∃ (x9 : Row_2) (v10 : Value) (v12 : Value) (x14 : Face), Sub [] E' ∧ Ch (un (inBlk (PV po0)) (un (inBlk az0_0) (inBlk az0_1))) w w' ∧ (x9, x14) = o32 ∧ slRep k_Addr (G F Bb (un (inBlk (PV p1)) (un (inBlk (PV po0)) (un (inBlk v10) (un (inBlk v12) S2))))) w' a1 av1 ∧ Mp (fun x => Value.agg (Place.enc x).toArray) (fun x => Value.agg (St85.enc x).toArray) w' x9.seen v10 ∧ SlO k_Face 47 F Bb (un (inBlk (PV p1)) (un (inBlk (PV po0)) (un (inBlk v10) (un (inBlk v12) S2)))) w' x9.list v12 ∧ Blk w' po0 122 (Row_2.c x9 v10 v12) ∧ Blk w' p1 47 (Face.enc x14) ∧ (∀ b, inBlk (PV p1) b → ¬ inBlk (PV po0) b) ∧ (∀ b, inBlk (PV p1) b → ¬ inBlk v10 b) ∧ (∀ b, inBlk (PV p1) b → ¬ inBlk v12 b) ∧ (∀ b, inBlk (PV po0) b → ¬ inBlk v10 b) ∧ (∀ b, inBlk (PV po0) b → ¬ inBlk v12 b) ∧ (∀ b, inBlk v10 b → ¬ inBlk v12 b) ∧ (∀ b, inBlk v10 b → (un (inBlk (PV po0)) (un (inBlk az0_0) (inBlk az0_1))) b ∨ w.heap.size ≤ b) ∧ (∀ b, inBlk v12 b → (un (inBlk (PV po0)) (un (inBlk az0_0) (inBlk az0_1))) b ∨ w.heap.size ≤ b)) ?_ ?_
 ·
  refine CW.loopS [(0, (PV po0)), (5, (PV p1)), (8, av1), (9, (Value.int .i64 ((a1.length : Nat) : Int))), (10, (Value.int .i64 ((0 : Nat) : Int)))] ⟨rfl, rfl, rfl, rfl, rfl, trivial⟩ a1.length (fun m E w' => ∃ (rest25 : List Addr) (i26 : Nat) (x9 : Row_2) (v10 : Value) (v12 : Value) (x14 : Face), m = rest25.length ∧ E = [(0, (PV po0)), (5, (PV p1)), (8, av1), (9, (Value.int .i64 ((a1.length : Nat) : Int))), (10, (Value.int .i64 ((i26 : Nat) : Int)))] ∧ Ch (un (inBlk (PV po0)) (un (inBlk az0_0) (inBlk az0_1))) w w' ∧ At a1 i26 rest25 ∧ runAO F45_all_b1 rest25 (x9, x14) = some o32 ∧ slRep k_Addr (G F Bb (un (inBlk (PV p1)) (un (inBlk (PV po0)) (un (inBlk v10) (un (inBlk v12) S2))))) w' a1 av1 ∧ Mp (fun x => Value.agg (Place.enc x).toArray) (fun x => Value.agg (St85.enc x).toArray) w' x9.seen v10 ∧ SlO k_Face 47 F Bb (un (inBlk (PV p1)) (un (inBlk (PV po0)) (un (inBlk v10) (un (inBlk v12) S2)))) w' x9.list v12 ∧ Blk w' po0 122 (Row_2.c x9 v10 v12) ∧ Blk w' p1 47 (Face.enc x14) ∧ (∀ b, inBlk (PV p1) b → ¬ inBlk (PV po0) b) ∧ (∀ b, inBlk (PV p1) b → ¬ inBlk v10 b) ∧ (∀ b, inBlk (PV p1) b → ¬ inBlk v12 b) ∧ (∀ b, inBlk (PV po0) b → ¬ inBlk v10 b) ∧ (∀ b, inBlk (PV po0) b → ¬ inBlk v12 b) ∧ (∀ b, inBlk v10 b → ¬ inBlk v12 b) ∧ (∀ b, inBlk v10 b → (un (inBlk (PV po0)) (un (inBlk az0_0) (inBlk az0_1))) b ∨ w.heap.size ≤ b) ∧ (∀ b, inBlk v12 b → (un (inBlk (PV po0)) (un (inBlk az0_0) (inBlk az0_1))) b ∨ w.heap.size ≤ b))
      ⟨a1, 0, a0, az0_0, az0_1, a2, rfl, rfl, c0, At.start, ho33, ah1, ah0_0, ah0_1, ah0, k4, d6, d7, d8, hx0_1, hx0_2, hx1_2, lin1_0, lin2_0⟩ ?_
  rintro _ _ w38 ⟨rest25, i26, x9, v10, v12, x14, rfl, rfl, c37, hat28, hL27, ah1, h11, h13, k15, k16, d19, d20, d21, d22, d23, d24, lin17, lin18⟩
  refine CW.seq (CW.region ?_)
  refine rl_bin rfl rfl B.lss rfl ?_
  refine RL.nil (thn_n ?_)
  refine CW.seq ?_
  refine CW.cond (t := decide (((i26 : Nat) : Int) < ((a1.length : Nat) : Int))) rfl (fun q40 => ?_) (fun q40 => ?_)
  ·
   obtain ⟨x34, rest41, rfl⟩ := hat28.cons q40
   obtain ⟨q29, hq30⟩ := runAO_some hL27
   have hb31 := hq30
   refine CW.skip (thn_n ?_)
   refine CW.seq ?_
   refine CW.block ?_
   refine CW.seq (CW.region ?_)
   refine rl_ixR rfl ah1 rfl hat28.get Tryz.underlying24 Tryz.sizeOf43 rfl ?_
   intro p42 o43 cs44 hr45 hs46 hg47
   obtain rfl := hr45
   refine rl_loadA (cs := (Addr.enc x34)) rfl Tryz.isAgg43 Tryz.sizeOf43 (hs46) rfl rfl ?_
   refine rl_alloc (Addr.enc Addr.z) Tryz.zeroValue43 rfl rfl ?_
   intro p48 w49 n50 k51
   have lo52 : ∀ b, inBlk (PV p48) b → w.heap.size ≤ b := fun b h => Nat.le_trans c37.size (n50.fresh b h)
   have d53 : ∀ b, inBlk (PV p48) b → ¬ inBlk (PV p1) b := disNew n50.fresh k16.ltp
   have d54 : ∀ b, inBlk (PV p48) b → ¬ inBlk (PV po0) b := disNew n50.fresh k15.ltp
   have d55 : ∀ b, inBlk (PV p48) b → ¬ inBlk v10 b := disNew n50.fresh h11.ltp
   have d56 : ∀ b, inBlk (PV p48) b → ¬ inBlk v12 b := disNew n50.fresh (fun b hb => (h13.lt b hb).2)
   have ah1 := slRep.st k_Addr_pos ah1 n50.ch (admNew n50.fresh (fun _ x => x))
   have h11 := h11.ch0 n50.ch
   have h13 := h13.st n50.ch (fun _ _ x => x) (admNew n50.fresh (fun _ x => x)) (fun b h => (.inr (.inr (.inr (.inr (.inl h))))))
   have k15 := k15.ch0 n50.ch
   have k16 := k16.ch0 n50.ch
   have c37 := c37.then0 n50.ch
   refine rl_storeA (vs := (Addr.enc x34)) rfl rfl (all_one rfl) Tryz.sizeOf43 rfl k51 rfl ?_
   intro w57 s59 c58 k60
   have ad61 : ∀ b, b < w49.heap.size → ¬ (un (inBlk (PV p48)) (un (inBlk (PV p1)) (un (inBlk (PV po0)) (un (inBlk v10) (un (inBlk v12) S2))))) b → ¬ (inBlk (PV p48)) b ∧ ¬ (un (inBlk (PV p48)) (un (inBlk (PV p1)) (un (inBlk (PV po0)) (un (inBlk v10) (un (inBlk v12) S2))))) b := fun b _ hs => ⟨fun h => hs (.inl h), hs⟩
   have ah1 := slRep.st k_Addr_pos ah1 c58 ad61
   have h11 := h11.ch c58 ((fun b hb h => (disSym d55) b hb h))
   have h13 := h13.st c58 (fun b hb h => (disSym d56) b hb h) ad61 (fun b h => (.inr (.inr (.inr (.inr (.inl h))))))
   have k15 := k15.ch c58 ((fun b hb h => (disSym d54) b hb h) _ rfl)
   have k16 := k16.ch c58 ((fun b hb h => (disSym d53) b hb h) _ rfl)
   have c37 := c37.then c58 (fun i hi h => absurd (lo52 i h) (Nat.not_le_of_lt hi))
   refine RL.nil (thn_n (CW.seq (CW.region ?_)))
   refine rl_loadA (cs := (Addr.enc x34)) rfl Tryz.isAgg43 Tryz.sizeOf43 (k60.segAt 0 17) rfl rfl ?_
   refine rl_fieldAddr rfl fa47_1 rfl ?_
   refine rl_fieldAddr rfl fa45_0 rfl ?_
   refine rl_storeA (vs := (Addr.enc x34)) rfl rfl (all_one rfl) Tryz.sizeOf43 rfl k16 rfl ?_
   intro w62 s64 c63 k65
   have ad66 : ∀ b, b < w57.heap.size → ¬ (un (inBlk (PV p48)) (un (inBlk (PV p1)) (un (inBlk (PV po0)) (un (inBlk v10) (un (inBlk v12) S2))))) b → ¬ (inBlk (PV p1)) b ∧ ¬ (un (inBlk (PV p48)) (un (inBlk (PV p1)) (un (inBlk (PV po0)) (un (inBlk v10) (un (inBlk v12) S2))))) b := fun b _ hs => ⟨fun h => hs (.inr (.inl h)), hs⟩
   have ah1 := slRep.st k_Addr_pos ah1 c63 ad66
   have h11 := h11.ch c63 ((fun b hb h => (disSym d20) b hb h))
   have h13 := h13.st c63 (fun b hb h => (disSym d21) b hb h) ad66 (fun b h => (.inr (.inr (.inr (.inr (.inl h))))))
   have k15 := k15.ch c63 ((fun b hb h => (disSym d19) b hb h) _ rfl)
   have k60 := k60.ch c63 ((fun b hb h => d53 b hb h) _ rfl)
   have c37 := c37.then c63 (fun i hi h => absurd (lo5 i h) (Nat.not_le_of_lt hi))
   refine RL.nil (thn_n (CW.region ?_))
   refine rl_move rfl rfl ?_
   refine rl_loadA (cs := (Face.enc ({ proto := x14.proto, point := ({ addr := x34, port := x14.point.port } : Point), name := x14.name, how := x14.how, localF := x14.localF, asked := x14.asked } : Face))) rfl Tryz.isAgg47 Tryz.sizeOf47 (k65.segAt 0 23) rfl rfl ?_
   have hd67 : ∀ b, (un (inBlk (PV po0)) (un (inBlk v10) (inBlk v12))) b → ¬ (un (inBlk (PV p48)) (un (inBlk (PV p1)) S2)) b := fun b h => un_el h (fun h => (fun b hb => fun h => un_el h (fun h => (disSym d54) b hb h) (fun h => un_el h (fun h => (disSym d19) b hb h) (linNot lin0_0 hd2 h2 b hb))) b h) (fun h => un_el h (fun h => (fun b hb => fun h => un_el h (fun h => (disSym d55) b hb h) (fun h => un_el h (fun h => (disSym d20) b hb h) (linNot lin17 hd2 h2 b hb))) b h) (fun h => (fun b hb => fun h => un_el h (fun h => (disSym d56) b hb h) (fun h => un_el h (fun h => (disSym d21) b hb h) (linNot lin18 hd2 h2 b hb))) b h))
   have hS68 : (un (inBlk (PV p48)) (un (inBlk (PV p1)) (un (inBlk (PV po0)) (un (inBlk v10) (un (inBlk v12) S2))))) = (un (inBlk (PV po0)) (un (inBlk v10) (un (inBlk v12) (un (inBlk (PV p48)) (un (inBlk (PV p1)) S2))))) := funext fun b => propext ⟨fun h => un_el h (fun h => (.inr (.inr (.inr (.inl h))))) (fun h => un_el h (fun h => (.inr (.inr (.inr (.inr (.inl h)))))) (fun h => un_el h (fun h => (.inl h)) (fun h => un_el h (fun h => (.inr (.inl h))) (fun h => un_el h (fun h => (.inr (.inr (.inl h)))) (fun h => (.inr (.inr (.inr (.inr (.inr h)))))))))), fun h => un_el h (fun h => (.inr (.inr (.inl h)))) (fun h => un_el h (fun h => (.inr (.inr (.inr (.inl h))))) (fun h => un_el h (fun h => (.inr (.inr (.inr (.inr (.inl h)))))) (fun h => un_el h (fun h => (.inl h)) (fun h => un_el h (fun h => (.inr (.inl h))) (fun h => (.inr (.inr (.inr (.inr (.inr h))))))))))⟩
   obtain ⟨y71, hy72, hb31⟩ := bindS hb31
   refine rl_callF rfl en60 rfl (ctr60 F w62 Bb (un (inBlk (PV p48)) (un (inBlk (PV p1)) S2)) (Nat.le_trans hB c37.size) (un_lt k60.ltp (un_lt k65.ltp (fun b h => Nat.lt_of_lt_of_le (h2 b h) c37.size))) po0 v10 v12 hd67 d22 d23 d24 x9 k15 h11 (hS68 ▸ h13) ({ proto := x14.proto, point := ({ addr := x34, port := x14.point.port } : Point), name := x14.name, how := x14.how, localF := x14.localF, asked := x14.asked } : Face) y71 hy72) ?_
   rintro _ w69 ⟨z73, z74, rfl, h75, h76, h77, hf78, hf79, d80, d81, d82, c70⟩
   have lin83 : ∀ b, inBlk z73 b → (un (inBlk (PV po0)) (un (inBlk az0_0) (inBlk az0_1))) b ∨ w.heap.size ≤ b := fun b h => (hf78 b h).elim (fun h => un_el h (fun h => lin0_0 b h) (fun h => un_el h (fun h => lin17 b h) (fun h => lin18 b h))) (fun h => .inr (Nat.le_trans c37.size h))
   have d85 : ∀ b, inBlk z73 b → ¬ inBlk (PV p1) b := fun b h hu => (hf78 b h).elim (fun h => un_el h (fun h => (disSym d19) b h hu) (fun h => un_el h (fun h => (disSym d20) b h hu) (fun h => (disSym d21) b h hu))) (fun h => Nat.not_le_of_lt (k65.ltp b hu) h)
   have lin86 : ∀ b, inBlk z74 b → (un (inBlk (PV po0)) (un (inBlk az0_0) (inBlk az0_1))) b ∨ w.heap.size ≤ b := fun b h => (hf79 b h).elim (fun h => un_el h (fun h => lin0_0 b h) (fun h => un_el h (fun h => lin17 b h) (fun h => lin18 b h))) (fun h => .inr (Nat.le_trans c37.size h))
   have d88 : ∀ b, inBlk z74 b → ¬ inBlk (PV p1) b := fun b h hu => (hf79 b h).elim (fun h => un_el h (fun h => (disSym d19) b h hu) (fun h => un_el h (fun h => (disSym d20) b h hu) (fun h => (disSym d21) b h hu))) (fun h => Nat.not_le_of_lt (k65.ltp b hu) h)
   have hS89 : (un (inBlk (PV p48)) (un (inBlk (PV p1)) (un (inBlk (PV po0)) (un (inBlk z73) (un (inBlk z74) S2))))) = (un (inBlk (PV po0)) (un (inBlk z73) (un (inBlk z74) (un (inBlk (PV p48)) (un (inBlk (PV p1)) S2))))) := funext fun b => propext ⟨fun h => un_el h (fun h => (.inr (.inr (.inr (.inl h))))) (fun h => un_el h (fun h => (.inr (.inr (.inr (.inr (.inl h)))))) (fun h => un_el h (fun h => (.inl h)) (fun h => un_el h (fun h => (.inr (.inl h))) (fun h => un_el h (fun h => (.inr (.inr (.inl h)))) (fun h => (.inr (.inr (.inr (.inr (.inr h)))))))))), fun h => un_el h (fun h => (.inr (.inr (.inl h)))) (fun h => un_el h (fun h => (.inr (.inr (.inr (.inl h))))) (fun h => un_el h (fun h => (.inr (.inr (.inr (.inr (.inl h)))))) (fun h => un_el h (fun h => (.inl h)) (fun h => un_el h (fun h => (.inr (.inl h))) (fun h => (.inr (.inr (.inr (.inr (.inr h))))))))))⟩
   rw [← hS89] at h77
   have ha90 : ∀ b, b < w62.heap.size → ¬ (un (inBlk (PV p48)) (un (inBlk (PV p1)) (un (inBlk (PV po0)) (un (inBlk v10) (un (inBlk v12) S2))))) b → ¬ (un (inBlk (PV po0)) (un (inBlk v10) (inBlk v12))) b ∧ ¬ (un (inBlk (PV p48)) (un (inBlk (PV p1)) (un (inBlk (PV po0)) (un (inBlk z73) (un (inBlk z74) S2))))) b := fun b hb hs => ⟨fun h => un_el h (fun h => hs (.inr (.inr (.inl h)))) (fun h => un_el h (fun h => hs (.inr (.inr (.inr (.inl h))))) (fun h => hs (.inr (.inr (.inr (.inr (.inl h))))))), fun h => un_el h (fun h => hs (.inl h)) (fun h => un_el h (fun h => hs (.inr (.inl h))) (fun h => un_el h (fun h => hs (.inr (.inr (.inl h)))) (fun h => un_el h (fun h => (hf78 b h).elim (fun h => un_el h (fun h => hs (.inr (.inr (.inl h)))) (fun h => un_el h (fun h => hs (.inr (.inr (.inr (.inl h))))) (fun h => hs (.inr (.inr (.inr (.inr (.inl h)))))))) (fun h => Nat.not_le_of_lt hb h)) (fun h => un_el h (fun h => (hf79 b h).elim (fun h => un_el h (fun h => hs (.inr (.inr (.inl h)))) (fun h => un_el h (fun h => hs (.inr (.inr (.inr (.inl h))))) (fun h => hs (.inr (.inr (.inr (.inr (.inl h)))))))) (fun h => Nat.not_le_of_lt hb h)) (fun h => hs (.inr (.inr (.inr (.inr (.inr h))))))))))⟩
   have ah1 := slRep.st k_Addr_pos ah1 c70 ha90
   have k65 := k65.ch c70 ((fun b hb h => un_el h (fun h => d19 b hb h) (fun h => un_el h (fun h => d20 b hb h) (fun h => d21 b hb h))) _ rfl)
   have c37 := c37.then c70 (fun i hi h => un_el h (fun h => (lin0_0 i h).elim (fun x => x) (fun x => absurd x (Nat.not_le_of_lt hi))) (fun h => un_el h (fun h => (lin17 i h).elim (fun x => x) (fun x => absurd x (Nat.not_le_of_lt hi))) (fun h => (lin18 i h).elim (fun x => x) (fun x => absurd x (Nat.not_le_of_lt hi)))))
   refine RL.nil ?_
   refine inB_n ?_
   refine thn_n (CW.region ?_)
   refine rl_inc rfl hat28.lt ah1.big rfl ?_
   refine rl_move rfl rfl ?_
   refine RL.nil (thn_n ?_)
   have ad91 : ∀ b, b < w69.heap.size → ¬ (un (inBlk (PV p48)) (un (inBlk (PV p1)) (un (inBlk (PV po0)) (un (inBlk z73) (un (inBlk z74) S2))))) b → ¬ nb b ∧ ¬ (un (inBlk (PV p1)) (un (inBlk (PV po0)) (un (inBlk z73) (un (inBlk z74) S2)))) b := fun b _ hs => ⟨fun x => x, fun h => hs (un_el h (fun h => (.inr (.inl h))) (fun h => un_el h (fun h => (.inr (.inr (.inl h)))) (fun h => un_el h (fun h => (.inr (.inr (.inr (.inl h))))) (fun h => un_el h (fun h => (.inr (.inr (.inr (.inr (.inl h)))))) (fun h => (.inr (.inr (.inr (.inr (.inr h))))))))))⟩
   have crf : Ch nb w69 w69 := Ch.refl
   have ah1 := slRep.st k_Addr_pos ah1 crf ad91
   have k65 := k65.ch0 crf
   have h75 := h75.ch0 crf
   have h76 := h76.ch0 crf
   have h77 := h77.st crf (fun _ _ x => x) ad91 (fun b h => (.inr (.inr (.inr (.inl h)))))
   have c37 := c37.then0 crf
   have hLn := runAO_next hL27 hq30 hb31
   exact ⟨rest41.length, Nat.lt_succ_self _, [(0, (PV po0)), (5, (PV p1)), (8, av1), (9, (Value.int .i64 ((a1.length : Nat) : Int))), (10, (Value.int .i64 ((i26 + 1 : Nat) : Int)))], ⟨rfl, rfl, rfl, rfl, rfl, trivial⟩, ⟨rest41, i26 + 1, y71, z73, z74, ({ proto := x14.proto, point := ({ addr := x34, port := x14.point.port } : Point), name := x14.name, how := x14.how, localF := x14.localF, asked := x14.asked } : Face), rfl, rfl, c37, hat28.next, hLn, ah1, h76, h77, h75, k65, d19, (disSym d85), (disSym d88), d80, d81, d82, lin83, lin86⟩⟩
  obtain rfl := hat28.nil q40
  have hLf : (x9, x14) = o32 := runAO_done hL27
  refine CW.exit (thn_exit (thn_exit (inB_hit ?_)))
  exact ⟨x9, v10, v12, x14, trivial, c37, hLf, ah1, h11, h13, k15, k16, d19, d20, d21, d22, d23, d24, lin17, lin18⟩
 rintro _ w93 ⟨x9, v10, v12, x14, hE94, c92, f95, ah1, h11, h13, k15, k16, d19, d20, d21, d22, d23, d24, lin17, lin18⟩
 subst f95
 obtain rfl := Option.some.inj hS
 have ad97 : ∀ b, b < w93.heap.size → ¬ (un (inBlk (PV p1)) (un (inBlk (PV po0)) (un (inBlk v10) (un (inBlk v12) S2)))) b → ¬ nb b ∧ ¬ (un (inBlk (PV po0)) (un (inBlk v10) (un (inBlk v12) S2))) b := fun b _ hs => ⟨fun x => x, fun h => hs (un_el h (fun h => (.inr (.inl h))) (fun h => un_el h (fun h => (.inr (.inr (.inl h)))) (fun h => un_el h (fun h => (.inr (.inr (.inr (.inl h))))) (fun h => (.inr (.inr (.inr (.inr h))))))))⟩
 have crf : Ch nb w93 w93 := Ch.refl
 have h11 := h11.ch0 crf
 have h13 := h13.st crf (fun _ _ x => x) ad97 (fun b h => (.inr (.inr (.inl h))))
 have k15 := k15.ch0 crf
 have c92 := c92.then0 crf
 exact ⟨[], trivial, ⟨v10, v12, rfl, k15, h11, h13, lin17, lin18, d22, d23, d24, c92⟩⟩
/-- slices.Clone[[]lb/face.Face,lb/face.Face] -/
theorem ctr61 (F : Nat → Prop) (w : World) (a0 : (List Face)) (av0 : Value) (ah0 : slRep k_Face F w a0 av0) (r : (List Face)) (hs : F61_Face a0 = some r) :
    Ret Tryz.prog 61 #[av0] w fun v w' => ∃ (y0 : Value), v = y0 ∧ SlO k_Face 47 F w.heap.size (inBlk y0) w' r y0 ∧ Ch nb w w' := by
 have hS := hs
 have c0 : Ch nb w w := Ch.refl
 have ah0 := slRep.enter k_Face_pos ah0
 refine Ret.of (n := 8) (args := [_]) (rs := [.tmp 2]) Tryz.func61 rfl rfl rfl rfl ?_
 refine CW.seq (CW.region ?_)
 refine rl_assign rfl rfl ?_
 refine RL.nil (thn_n (CW.seq ?_))
 refine CW.seq (CW.region ?_)
 refine rl_move rfl rfl ?_
 refine rl_slNil rfl ah0 Tryz.underlying36 rfl ?_
 intro b1 n2
 refine RL.nil (thn_n ?_)
 refine CW.cond (t := b1) rfl (fun q3 => ?_) (fun q3 => ?_)
 ·
  obtain ⟨rfl, rfl⟩ := n2 q3
  refine CW.seq (CW.region ?_)
  refine rl_assign rfl rfl ?_
  refine RL.nil (thn_n (CW.ret ?_))
  refine thn_ret ?_
  obtain rfl := Option.some.inj hS
  exact ret1 rfl ⟨(Value.slice none 0 0), rfl, SlO.nil, c0⟩
 refine CW.skip ?_
 refine thn_n (CW.seq (CW.region ?_))
 refine rl_bslice (k := k_Face) (F := F) (B := w.heap.size) (S := nb) ([] : List Face) rfl k_Face_pos Tryz.underlying36 Tryz.sizeOf47 Tryz.zeroValue47 rfl rfl trivial c0.size nbS rfl ?_
 intro v4 w5 c6 hf7 h8
 have ah0 := slRep.st k_Face_pos ah0 c6 (admNew hf7 (fun _ x => x))
 have c0 := c0.then0 c6
 refine rl_move rfl rfl ?_
 obtain ⟨z17, hz18, hS⟩ := bindS hS
 have hl := (apO_get hz18).1
 refine rl_append (k := k_Face) (T := 47) (F := F) (B := w.heap.size) (S := (un (inBlk v4) nb)) (S2 := nb) (fun v => (un (inBlk v) nb)) rfl rfl k_Face_pos ap36 h8 ah0 (fun _ => Iff.rfl) (fun _ _ => Iff.rfl) hl c0.size (un_lt (fun b hb => (h8.lt b hb).2) nbS) rfl ?_
 intro v11 w12 h13 c14 hf15 ha16
 have c0 := c0.then c14 (fun i hi h => absurd ((fun b hb => (h8.lt b hb).1) i h) (Nat.not_le_of_lt hi))
 refine rl_assign rfl rfl ?_
 refine RL.nil (thn_n (CW.ret ?_))
 obtain rfl := Option.some.inj hS
 exact ret1 rfl ⟨v11, rfl, h13.out, c0⟩
/-- slices.SortFunc[[]lb/face.Face,lb/face.Face] -/
theorem ctr62 (F : Nat → Prop) (w : World) (Bb : Nat) (S2 : Nat → Prop) (hB : Bb ≤ w.heap.size) (h2 : ∀ b, S2 b → b < w.heap.size) (av0 : Value) (hd2 : ∀ b, (inBlk av0) b → ¬ S2 b) (a0 : (List Face)) (ah0 : SlO k_Face 47 F Bb (un (inBlk av0) S2) w a0 av0) (a1 : (Face → Face → Int)) (av1 : Value) (ah1 : (Kd.fn2 Tryz.prog true true k_Face k_Face (Value.int .i64)).rep (G F Bb (un (inBlk av0) S2)) w a1 [av1]) (r : (List Face)) (hs : F62_slices_SortFunc a0 a1 = some r) :
    Ret Tryz.prog 62 #[av0, av1] w fun v w' => v = Value.tuple #[] ∧ SlO k_Face 47 F Bb (un (inBlk av0) S2) w' r av0 ∧ Ch (inBlk av0) w w' :=
  sortF_ret (n := 23) (enc := Face.enc) (fun _ => rfl) (fun _ => rfl) lays62 (by decide) Tryz.isAgg47 Tryz.sizeOf47 ah0 ah1 (fun b hb h => hb.2 (.inl h)) hs
/-- cmp.isNaN[int] -/
theorem ctr80 (F : Nat → Prop) (w : World) (a0 : Int) (r : Bool) (hs : F80_int a0 = r) :
    Ret Tryz.prog 80 #[(Value.int .i64 a0)] w fun v w' => v = (Value.bool r) ∧ Ch nb w w' := by
 have hS := hs
 have c0 : Ch nb w w := Ch.refl
 refine Ret.of (n := 6) (args := [_]) (rs := [.tmp 2]) Tryz.func80 rfl rfl rfl rfl ?_
 refine CW.seq (CW.region ?_)
 refine rl_assign rfl rfl ?_
 refine RL.nil (thn_n (CW.seq (CW.region ?_)))
 refine rl_move rfl rfl ?_
 refine rl_move rfl rfl ?_
 refine rl_bin rfl rfl B.neq rfl ?_
 refine rl_assign rfl rfl ?_
 refine RL.nil (thn_n (CW.ret ?_))
 obtain rfl := hS
 exact ret1 rfl ⟨rfl, c0⟩
/-- cmp.Compare[int] -/
theorem ctr53 (F : Nat → Prop) (w : World) (a0 : Int) (a1 : Int) (r : Int) (hs : F53_int a0 a1 = r) :
    Ret Tryz.prog 53 #[(Value.int .i64 a0), (Value.int .i64 a1)] w fun v w' => v = (Value.int .i64 r) ∧ Ch nb w w' := by
 have hS := hs
 have c0 : Ch nb w w := Ch.refl
 refine Ret.of (n := 20) (args := [_, _]) (rs := [.tmp 4]) Tryz.func53 rfl rfl rfl rfl ?_
 refine CW.seq (CW.region ?_)
 refine rl_assign rfl rfl ?_
 refine RL.nil (thn_n (CW.seq (CW.region ?_)))
 refine rl_move rfl rfl ?_
 obtain ⟨y3, hy4⟩ : ∃ y, F80_int a0 = y := ⟨_, rfl⟩
 have hS := ltS hy4 hS
 refine rl_callF rfl en80 rfl (ctr80 (G F w.heap.size nb) w a0 y3 hy4) ?_
 rintro _ w1 ⟨rfl, c2⟩
 have c0 := c0.then0 c2
 refine rl_assign rfl rfl ?_
 refine RL.nil (thn_n (CW.seq (CW.region ?_)))
 refine rl_move rfl rfl ?_
 obtain ⟨y7, hy8⟩ : ∃ y, F80_int a1 = y := ⟨_, rfl⟩
 have hS := ltS hy8 hS
 refine rl_callF rfl en80 rfl (ctr80 (G F w.heap.size nb) w1 a1 y7 hy8) ?_
 rintro _ w5 ⟨rfl, c6⟩
 have c0 := c0.then0 c6
 refine rl_assign rfl rfl ?_
 refine RL.nil (thn_n (CW.seq ?_))
 refine CW.seq (CW.region ?_)
 refine rl_move rfl rfl ?_
 refine RL.nil (thn_n ?_)
 refine CW.cond (t := y3) rfl (fun q9 => ?_) (fun q9 => ?_)
 ·
  have hS := ifT q9 hS
  refine CW.seq ?_
  refine CW.seq (CW.region ?_)
  refine rl_move rfl rfl ?_
  refine RL.nil (thn_n ?_)
  refine CW.cond (t := y7) rfl (fun q10 => ?_) (fun q10 => ?_)
  ·
   have hS := ifT q10 hS
   refine CW.seq (CW.region ?_)
   refine rl_assign rfl rfl ?_
   refine RL.nil (thn_n (CW.ret ?_))
   refine thn_ret ?_
   refine thn_ret ?_
   obtain rfl := hS
   exact ret1 rfl ⟨rfl, c0⟩
  have hS := ifF q10 hS
  refine CW.skip ?_
  refine thn_n (CW.seq (CW.region ?_))
  refine rl_assign rfl rfl ?_
  refine RL.nil (thn_n (CW.ret ?_))
  refine thn_ret ?_
  obtain rfl := hS
  exact ret1 rfl ⟨rfl, c0⟩
 have hS := ifF q9 hS
 refine CW.skip ?_
 refine thn_n (CW.seq ?_)
 refine CW.seq (CW.region ?_)
 refine rl_move rfl rfl ?_
 refine RL.nil (thn_n ?_)
 refine CW.cond (t := y7) rfl (fun q11 => ?_) (fun q11 => ?_)
 ·
  have hS := ifT q11 hS
  refine CW.seq (CW.region ?_)
  refine rl_assign rfl rfl ?_
  refine RL.nil (thn_n (CW.ret ?_))
  refine thn_ret ?_
  obtain rfl := hS
  exact ret1 rfl ⟨rfl, c0⟩
 have hS := ifF q11 hS
 refine CW.skip ?_
 refine thn_n (CW.seq ?_)
 refine CW.seq (CW.region ?_)
 refine rl_move rfl rfl ?_
 refine rl_move rfl rfl ?_
 refine rl_bin rfl rfl B.lss rfl ?_
 refine RL.nil (thn_n ?_)
 refine CW.cond (t := decide (a0 < a1)) rfl (fun q12 => ?_) (fun q12 => ?_)
 ·
  have hS := ifT q12 hS
  refine CW.seq (CW.region ?_)
  refine rl_assign rfl rfl ?_
  refine RL.nil (thn_n (CW.ret ?_))
  refine thn_ret ?_
  obtain rfl := hS
  exact ret1 rfl ⟨rfl, c0⟩
 have hS := ifF q12 hS
 refine CW.skip ?_
 refine thn_n (CW.seq ?_)
 refine CW.seq (CW.region ?_)
 refine rl_move rfl rfl ?_
 refine rl_move rfl rfl ?_
 refine rl_bin rfl rfl B.gtr rfl ?_
 refine RL.nil (thn_n ?_)
 refine CW.cond (t := decide (a0 > a1)) rfl (fun q13 => ?_) (fun q13 => ?_)
 ·
  have hS := ifT q13 hS
  refine CW.seq (CW.region ?_)
  refine rl_assign rfl rfl ?_
  refine RL.nil (thn_n (CW.ret ?_))
  refine thn_ret ?_
  obtain rfl := hS
  exact ret1 rfl ⟨rfl, c0⟩
 have hS := ifF q13 hS
 refine CW.skip ?_
 refine thn_n (CW.seq (CW.region ?_))
 refine rl_assign rfl rfl ?_
 refine RL.nil (thn_n (CW.ret ?_))
 obtain rfl := hS
 exact ret1 rfl ⟨rfl, c0⟩
/-- bytes.Compare -/
theorem ctr130 (F : Nat → Prop) (w : World) (a0 : (List Int)) (av0 : Value) (ah0 : slRep (kInt .u8) F w a0 av0) (a1 : (List Int)) (av1 : Value) (ah1 : slRep (kInt .u8) F w a1 av1) (r : Int) (hs : F130_Compare a0 a1 = r) :
    Ret Tryz.prog 130 #[av0, av1] w fun v w' => v = (Value.int .i64 r) ∧ Ch nb w w' := by
 have hS := hs
 have c0 : Ch nb w w := Ch.refl
 have ah0 := slRep.enter kInt_pos ah0
 have ah1 := slRep.enter kInt_pos ah1
 refine Ret.of (n := 8) (args := [_, _]) (rs := [.tmp 4]) Tryz.func130 rfl rfl rfl rfl ?_
 refine CW.seq (CW.region ?_)
 refine rl_assign rfl rfl ?_
 refine RL.nil (thn_n (CW.seq (CW.region ?_)))
 refine rl_move rfl rfl ?_
 refine rl_move rfl rfl ?_
 refine rl_bcmp rfl rfl ah0 ah1 Tryz.func141 (by kernel_rfl) rfl (by kernel_rfl) (by kernel_rfl) rfl ?_
 refine rl_assign rfl rfl ?_
 refine RL.nil (thn_n (CW.ret ?_))
 obtain rfl := hS
 exact ret1 rfl ⟨rfl, c0⟩
/-- lb/addr.Compare -/
theorem ctr100 (F : Nat → Prop) (w : World) (a0 : Addr) (a1 : Addr) (r : Int) (hs : F100_Compare a0 a1 = r) :
    Ret Tryz.prog 100 #[(Value.agg (Addr.enc a0).toArray), (Value.agg (Addr.enc a1).toArray)] w fun v w' => v = (Value.int .i64 r) ∧ Ch nb w w' := by
 have hS := hs
 have c0 : Ch nb w w := Ch.refl
 refine Ret.of (n := 19) (args := [_, _]) (rs := [.tmp 4]) Tryz.func100 rfl rfl rfl rfl ?_
 refine CW.seq (CW.region ?_)
 refine rl_boxA (cs := (Addr.enc a0)) rfl rfl ?_
 intro p1 w2 n3 k4
 have gp1 : (G F w.heap.size nb) p1 := ⟨.inr (by rw [n3.eq]; exact c0.size), fun h => absurd (nbS _ h) (by rw [n3.eq]; exact Nat.lt_irrefl _)⟩
 have c0 := c0.then0 n3.ch
 refine rl_boxA (cs := (Addr.enc a1)) rfl rfl ?_
 intro p5 w6 n7 k8
 have gp5 : (G F w.heap.size nb) p5 := ⟨.inr (by rw [n7.eq]; exact c0.size), fun h => absurd (nbS _ h) (by rw [n7.eq]; exact Nat.lt_irrefl _)⟩
 have k4 := k4.ch0 n7.ch
 have c0 := c0.then0 n7.ch
 refine rl_assign rfl rfl ?_
 refine RL.nil (thn_n (CW.seq ?_))
 refine CW.block ?_
 refine CW.seq (CW.region ?_)
 refine rl_fieldAddr rfl fa43_0 rfl ?_
 refine rl_loadS (v := (Value.bool a0.six)) rfl Tryz.isAgg4 (k4.cell rfl) rfl ?_
 refine rl_fieldAddr rfl fa43_0 rfl ?_
 refine rl_loadS (v := (Value.bool a1.six)) rfl Tryz.isAgg4 (k8.cell rfl) rfl ?_
 refine rl_bin rfl rfl (B.eqlB Tryz.underlying4) rfl ?_
 refine rl_assign rfl rfl ?_
 refine RL.nil (thn_n ?_)
 refine CW.cond (t := (a0.six == a1.six)) rfl (fun q9 => ?_) (fun q9 => ?_)
 ·
  have hS := ifT q9 hS
  refine CW.seq ?_
  obtain ⟨y16, hy17⟩ : ∃ y, F130_Compare (A16u8.list a0.b) (A16u8.list a1.b) = y := ⟨_, rfl⟩
  have hS := ltS hy17 hS
  refine CW.draw 4 [(none, fun fx O uu wx => uu = (Value.pointer (some ⟨p1, 1, none⟩))), (none, fun fx O uu wx => ∃ (v10 : Value), uu = v10 ∧ slRep (kInt .u8) (G F w.heap.size nb) wx (A16u8.list a0.b) v10), (none, fun fx O uu wx => uu = (Value.pointer (some ⟨p5, 1, none⟩))), (none, fun fx O uu wx => ∃ (v12 : Value), uu = v12 ∧ slRep (kInt .u8) (G F w.heap.size nb) wx (A16u8.list a1.b) v12)] [[], [0], [], [2]] [1, 3] nb (fun _ h => h.elim) mixed rfl rfl rfl rfl ?_ ?_
  ·
   refine Each.consS (fun fl O wk hE hN hO ck => ?_) ?_
   ·
    refine rl_fieldAddr rfl fa43_1 rfl ?_
    exact RL.nil ⟨_, rfl, Ch.refl, rfl⟩
   refine Each.consA ⟨fun _ _ _ _ _ cc hh => by obtain ⟨v10, e, h11⟩ := hh; exact ⟨v10, e, slRep.ch kInt_pos h11 cc⟩, fun h => absurd rfl h, fun fl O wk hE hN hO ck => ?_⟩ ?_
   ·
    have k4 := k4.ch0 ck
    refine Need.o1 rfl rfl rfl (fun _ h => h) ?_
    refine rl_sliceArr (k := (kInt .u8)) (R := (G F w.heap.size nb)) (cs := A16u8.enc a0.b) (A16u8.list a0.b) (Value.int .u8) rfl Tryz.underlying41 rfl Tryz.sizeOf5 (k4.segAt 1 16) rfl rfl (fun _ => rfl) gp1 rfl rfl ?_
    intro v19 h20
    exact RL.nil ⟨_, rfl, Ch.refl, ⟨v19, rfl, h20⟩⟩
   refine Each.consS (fun fl O wk hE hN hO ck => ?_) ?_
   ·
    refine rl_fieldAddr rfl fa43_1 rfl ?_
    exact RL.nil ⟨_, rfl, Ch.refl, rfl⟩
   refine Each.consA ⟨fun _ _ _ _ _ cc hh => by obtain ⟨v12, e, h13⟩ := hh; exact ⟨v12, e, slRep.ch kInt_pos h13 cc⟩, fun h => absurd rfl h, fun fl O wk hE hN hO ck => ?_⟩ ?_
   ·
    have k8 := k8.ch0 ck
    refine Need.o1 rfl rfl rfl (fun _ h => h) ?_
    refine rl_sliceArr (k := (kInt .u8)) (R := (G F w.heap.size nb)) (cs := A16u8.enc a1.b) (A16u8.list a1.b) (Value.int .u8) rfl Tryz.underlying41 rfl Tryz.sizeOf5 (k8.segAt 1 16) rfl rfl (fun _ => rfl) gp5 rfl rfl ?_
    intro v22 h23
    exact RL.nil ⟨_, rfl, Ch.refl, ⟨v22, rfl, h23⟩⟩
   trivial
  intro hvO26 OpO26 O26 w24 hO27 c25 hN28
  have c0 := c0.then0 c25
  refine Need.one rfl rfl rfl ?_
  rintro _ ⟨v10, e29, h11⟩
  obtain rfl := e29.symm
  refine Need.one rfl rfl rfl ?_
  rintro _ ⟨v12, e30, h13⟩
  obtain rfl := e30.symm
  refine rl_callF rfl en130 rfl (ctr130 (G F w.heap.size nb) w24 (A16u8.list a0.b) v10 h11 (A16u8.list a1.b) v12 h13 y16 hy17) ?_
  rintro _ w31 ⟨rfl, c32⟩
  have c0 := c0.then0 c32
  refine rl_assign rfl rfl ?_
  refine RL.nil (thn_n (CW.ret ?_))
  refine inB_ret ?_
  refine thn_ret ?_
  obtain rfl := hS
  exact ret1 rfl ⟨rfl, c0⟩
 have hS := ifF q9 hS
 refine CW.seq (CW.region ?_)
 refine rl_fieldAddr rfl fa43_0 rfl ?_
 refine rl_loadS (v := (Value.bool a0.six)) rfl Tryz.isAgg4 (k4.cell rfl) rfl ?_
 refine rl_assign rfl rfl ?_
 refine RL.nil (thn_n ?_)
 refine CW.cond (t := a0.six) rfl (fun q33 => ?_) (fun q33 => ?_)
 ·
  have hS := ifT q33 hS
  refine CW.seq (CW.region ?_)
  refine rl_assign rfl rfl ?_
  refine RL.nil (thn_n (CW.ret ?_))
  refine inB_ret ?_
  refine thn_ret ?_
  obtain rfl := hS
  exact ret1 rfl ⟨rfl, c0⟩
 have hS := ifF q33 hS
 refine CW.skip ?_
 refine inB_n ?_
 refine thn_n (CW.seq (CW.region ?_))
 refine rl_assign rfl rfl ?_
 refine RL.nil (thn_n (CW.ret ?_))
 obtain rfl := hS
 exact ret1 rfl ⟨rfl, c0⟩
/-- cmp.Or[int] -/
theorem ctr51 (F : Nat → Prop) (w : World) (a0 : (List Int)) (av0 : Value) (ah0 : slRep (kInt .i64) F w a0 av0) (r : Int) (hs : F51_int a0 = r) :
    Ret Tryz.prog 51 #[av0] w fun v w' => v = (Value.int .i64 r) ∧ Ch nb w w' := by
 have hS := hs
 have c0 : Ch nb w w := Ch.refl
 have ah0 := slRep.enter kInt_pos ah0
 refine Ret.of (n := 18) (args := [_]) (rs := [.tmp 2]) Tryz.func51 rfl rfl rfl rfl ?_
 refine CW.seq (CW.region ?_)
 refine rl_assign rfl rfl ?_
 refine RL.nil (thn_n (CW.seq (CW.region ?_)))
 refine rl_assign rfl rfl ?_
 refine RL.nil (thn_n (CW.seq ?_))
 refine CW.seq (CW.region ?_)
 refine rl_move rfl rfl ?_
 refine rl_lenR rfl ah0 Tryz.underlying158 rfl ?_
 refine rl_move rfl rfl ?_
 refine RL.nil (thn_n ?_)
 obtain ⟨o8, ho9⟩ : ∃ o, runB F51_int_b1 a0 () = o := ⟨_, rfl⟩
 have hS := ltS ho9 hS
 refine CW.cutB (fun E' w' => ∃ (_ : Unit), Sub [(3, (Value.int .i64 0))] E' ∧ Ch nb w w' ∧ Lp.fin () = o8 ∧ slRep (kInt .i64) (G F w.heap.size nb) w' a0 av0) ?_ ?_
 ·
  refine CW.loopS [(3, (Value.int .i64 0)), (6, av0), (7, (Value.int .i64 ((a0.length : Nat) : Int))), (8, (Value.int .i64 ((0 : Nat) : Int)))] ⟨rfl, rfl, rfl, rfl, trivial⟩ a0.length (fun m E w' => ∃ (rest1 : List Int) (i2 : Nat) , m = rest1.length ∧ E = [(3, (Value.int .i64 0)), (6, av0), (7, (Value.int .i64 ((a0.length : Nat) : Int))), (8, (Value.int .i64 ((i2 : Nat) : Int)))] ∧ Ch nb w w' ∧ At a0 i2 rest1 ∧ runB F51_int_b1 rest1 () = o8 ∧ slRep (kInt .i64) (G F w.heap.size nb) w' a0 av0)
      ⟨a0, 0, rfl, rfl, c0, At.start, ho9, ah0⟩ ?_
  rintro _ _ w14 ⟨rest1, i2, rfl, rfl, c13, hat4, hL3, ah0⟩
  refine CW.seq (CW.region ?_)
  refine rl_bin rfl rfl B.lss rfl ?_
  refine RL.nil (thn_n ?_)
  refine CW.seq ?_
  refine CW.cond (t := decide (((i2 : Nat) : Int) < ((a0.length : Nat) : Int))) rfl (fun q16 => ?_) (fun q16 => ?_)
  ·
   obtain ⟨x10, rest17, rfl⟩ := hat4.cons q16
   obtain ⟨q5, hq6⟩ : ∃ q, F51_int_b1 x10 () = q := ⟨_, rfl⟩
   have hb7 := hq6
   refine CW.skip (thn_n ?_)
   refine CW.seq ?_
   refine CW.block ?_
   refine CW.seq (CW.region ?_)
   refine rl_ixR rfl ah0 rfl hat4.get Tryz.underlying158 Tryz.sizeOf3 rfl ?_
   intro p18 o19 cs20 hr21 hs22 hg23
   obtain rfl := hr21
   refine rl_loadS (v := (Value.int .i64 x10)) rfl Tryz.isAgg3 (hs22 0 _ rfl) rfl ?_
   refine rl_assign rfl rfl ?_
   refine RL.nil (thn_n (CW.seq (CW.region ?_)))
   refine rl_move rfl rfl ?_
   refine rl_move rfl rfl ?_
   refine rl_bin rfl rfl B.neq rfl ?_
   refine RL.nil (thn_n ?_)
   refine CW.cond (t := !decide (x10 = 0)) rfl (fun q24 => ?_) (fun q24 => ?_)
   ·
    have hb7 := ifT q24 hb7
    refine CW.seq (CW.region ?_)
    refine rl_move rfl rfl ?_
    refine rl_assign rfl rfl ?_
    refine RL.nil (thn_n (CW.ret ?_))
    refine inB_ret ?_
    refine thn_ret ?_
    refine thn_ret (inB_ret (thn_ret ?_))
    refine thn_ret ?_
    have f25 := runB_ret hL3 (hb7.trans hq6.symm)
    have hS := retS f25 hS
    obtain rfl := hS
    exact ret1 rfl ⟨rfl, c13⟩
   have hb7 := ifF q24 hb7
   refine CW.skip ?_
   refine inB_n ?_
   refine thn_n (CW.region ?_)
   refine rl_inc rfl hat4.lt ah0.big rfl ?_
   refine rl_move rfl rfl ?_
   refine RL.nil (thn_n ?_)
   have hLn := runB_next hL3 (hb7.trans hq6.symm)
   exact ⟨rest17.length, Nat.lt_succ_self _, [(3, (Value.int .i64 0)), (6, av0), (7, (Value.int .i64 ((a0.length : Nat) : Int))), (8, (Value.int .i64 ((i2 + 1 : Nat) : Int)))], ⟨rfl, rfl, rfl, rfl, trivial⟩, ⟨rest17, i2 + 1, rfl, rfl, c13, hat4.next, hLn, ah0⟩⟩
  obtain rfl := hat4.nil q16
  have hLf : Lp.fin () = o8 := hL3
  refine CW.exit (thn_exit (thn_exit (inB_hit ?_)))
  exact ⟨(), ⟨rfl, trivial⟩, c13, hLf, ah0⟩
 rintro _ w27 ⟨_, hE28, c26, f29, ah0⟩
 have hS := finS f29 hS
 refine thn_n (CW.sub [(3, (Value.int .i64 0))] hE28 ?_)
 refine CW.seq (CW.region ?_)
 refine rl_move rfl rfl ?_
 refine rl_assign rfl rfl ?_
 refine RL.nil (thn_n (CW.ret ?_))
 obtain rfl := hS
 exact ret1 rfl ⟨rfl, c26⟩
/-- lb/ports.Compare -/
theorem ctr75 (F : Nat → Prop) (w : World) (a0 : Point) (a1 : Point) (r : Int) (hs : F75_Compare a0 a1 = r) :
    Ret Tryz.prog 75 #[(Value.agg (Point.enc a0).toArray), (Value.agg (Point.enc a1).toArray)] w fun v w' => v = (Value.int .i64 r) ∧ Ch nb w w' := by
 have hS := hs
 have c0 : Ch nb w w := Ch.refl
 refine Ret.of (n := 17) (args := [_, _]) (rs := [.tmp 4]) Tryz.func75 rfl rfl rfl rfl ?_
 refine CW.seq (CW.region ?_)
 refine rl_boxA (cs := (Point.enc a0)) rfl rfl ?_
 intro p1 w2 n3 k4
 have c0 := c0.then0 n3.ch
 refine rl_boxA (cs := (Point.enc a1)) rfl rfl ?_
 intro p5 w6 n7 k8
 have k4 := k4.ch0 n7.ch
 have c0 := c0.then0 n7.ch
 refine rl_assign rfl rfl ?_
 refine RL.nil (thn_n (CW.seq ?_))
 obtain ⟨y11, hy12⟩ : ∃ y, F100_Compare a0.addr a1.addr = y := ⟨_, rfl⟩
 have hS := ltS hy12 hS
 obtain ⟨y15, hy16⟩ : ∃ y, F53_int a0.port a1.port = y := ⟨_, rfl⟩
 have hS := ltS hy16 hS
 obtain ⟨y24, hy25⟩ : ∃ y, F51_int [y11, y15] = y := ⟨_, rfl⟩
 have hS := ltS hy25 hS
 refine CW.draw 9 [(none, fun fx O uu wx => uu = (PV p1)), (none, fun fx O uu wx => uu = (Value.agg (Addr.enc a0.addr).toArray)), (none, fun fx O uu wx => uu = (PV p5)), (none, fun fx O uu wx => uu = (Value.agg (Addr.enc a1.addr).toArray)), (none, fun fx O uu wx => uu = (Value.int .i64 y11)), (none, fun fx O uu wx => uu = (Value.pointer (some ⟨p1, 17, none⟩))), (none, fun fx O uu wx => uu = (Value.int .i64 a0.port)), (none, fun fx O uu wx => uu = (Value.pointer (some ⟨p5, 17, none⟩))), (none, fun fx O uu wx => uu = (Value.int .i64 a1.port))] [[], [0], [], [2], [1, 3], [], [5], [], [7]] [4, 6, 8] nb (fun _ h => h.elim) mixed rfl rfl rfl rfl ?_ ?_
 ·
  refine Each.consS (fun fl O wk hE hN hO ck => ?_) ?_
  ·
   refine rl_fieldAddr rfl fa45_0 rfl ?_
   exact RL.nil ⟨_, rfl, Ch.refl, rfl⟩
  refine Each.consS (fun fl O wk hE hN hO ck => ?_) ?_
  ·
   have k4 := k4.ch0 ck
   refine Need.o1 rfl rfl rfl (fun _ h => h) ?_
   refine rl_loadA (cs := (Addr.enc a0.addr)) rfl Tryz.isAgg43 Tryz.sizeOf43 (k4.segAt 0 17) rfl rfl ?_
   exact RL.nil ⟨_, rfl, Ch.refl, rfl⟩
  refine Each.consS (fun fl O wk hE hN hO ck => ?_) ?_
  ·
   refine rl_fieldAddr rfl fa45_0 rfl ?_
   exact RL.nil ⟨_, rfl, Ch.refl, rfl⟩
  refine Each.consS (fun fl O wk hE hN hO ck => ?_) ?_
  ·
   have k8 := k8.ch0 ck
   refine Need.o1 rfl rfl rfl (fun _ h => h) ?_
   refine rl_loadA (cs := (Addr.enc a1.addr)) rfl Tryz.isAgg43 Tryz.sizeOf43 (k8.segAt 0 17) rfl rfl ?_
   exact RL.nil ⟨_, rfl, Ch.refl, rfl⟩
  refine Each.consS (fun fl O wk hE hN hO ck => ?_) ?_
  ·
   refine Need.o1 rfl rfl rfl (fun _ h => h) ?_
   refine Need.o1 rfl rfl rfl (fun _ h => h) ?_
   refine rl_callF rfl en100 rfl (ctr100 (G F w.heap.size nb) wk a0.addr a1.addr y11 hy12) ?_
   rintro _ w30 ⟨rfl, c31⟩
   exact RL.nil ⟨_, rfl, c31, rfl⟩
  refine Each.consS (fun fl O wk hE hN hO ck => ?_) ?_
  ·
   refine rl_fieldAddr rfl fa45_1 rfl ?_
   exact RL.nil ⟨_, rfl, Ch.refl, rfl⟩
  refine Each.consS (fun fl O wk hE hN hO ck => ?_) ?_
  ·
   have k4 := k4.ch0 ck
   refine Need.o1 rfl rfl rfl (fun _ h => h) ?_
   refine rl_loadS (v := (Value.int .i64 a0.port)) rfl Tryz.isAgg3 (k4.cell rfl) rfl ?_
   exact RL.nil ⟨_, rfl, Ch.refl, rfl⟩
  refine Each.consS (fun fl O wk hE hN hO ck => ?_) ?_
  ·
   refine rl_fieldAddr rfl fa45_1 rfl ?_
   exact RL.nil ⟨_, rfl, Ch.refl, rfl⟩
  refine Each.consS (fun fl O wk hE hN hO ck => ?_) ?_
  ·
   have k8 := k8.ch0 ck
   refine Need.o1 rfl rfl rfl (fun _ h => h) ?_
   refine rl_loadS (v := (Value.int .i64 a1.port)) rfl Tryz.isAgg3 (k8.cell rfl) rfl ?_
   exact RL.nil ⟨_, rfl, Ch.refl, rfl⟩
  trivial
 intro hvO36 OpO36 O36 w34 hO37 c35 hN38
 have c0 := c0.then0 c35
 refine Need.o1 rfl rfl rfl (fun _ h => h) ?_
 refine Need.o1 rfl rfl rfl (fun _ h => h) ?_
 refine Need.o1 rfl rfl rfl (fun _ h => h) ?_
 refine rl_callF rfl en53 rfl (ctr53 (G F w.heap.size nb) w34 a0.port a1.port y15 hy16) ?_
 rintro _ w42 ⟨rfl, c43⟩
 have c0 := c0.then0 c43
 refine rl_bslice (k := (kInt .i64)) (F := F) (B := w.heap.size) (S := nb) ([y11, y15] : List Int) rfl kInt_pos Tryz.underlying158 Tryz.sizeOf3 Tryz.zeroValue3 rfl rfl ⟨rfl, rfl, ⟨rfl, rfl, trivial⟩⟩ c0.size nbS rfl ?_
 intro v44 w45 c46 hf47 h48
 have h48 := h48.readNew kInt_pos hf47 nbS
 have c0 := c0.then0 c46
 refine rl_callF rfl en51 rfl (ctr51 (G F w.heap.size nb) w45 [y11, y15] v44 h48 y24 hy25) ?_
 rintro _ w49 ⟨rfl, c50⟩
 have c0 := c0.then0 c50
 refine rl_assign rfl rfl ?_
 refine RL.nil (thn_n (CW.ret ?_))
 obtain rfl := hS
 exact ret1 rfl ⟨rfl, c0⟩
/-- cmp.isNaN[string] -/
theorem ctr79 (F : Nat → Prop) (w : World) (a0 : ByteArray) (r : Bool) (hs : F79_string a0 = r) :
    Ret Tryz.prog 79 #[(Value.string a0)] w fun v w' => v = (Value.bool r) ∧ Ch nb w w' := by
 have hS := hs
 have c0 : Ch nb w w := Ch.refl
 refine Ret.of (n := 6) (args := [_]) (rs := [.tmp 2]) Tryz.func79 rfl rfl rfl rfl ?_
 refine CW.seq (CW.region ?_)
 refine rl_assign rfl rfl ?_
 refine RL.nil (thn_n (CW.seq (CW.region ?_)))
 refine rl_move rfl rfl ?_
 refine rl_move rfl rfl ?_
 refine rl_bin rfl rfl B.neqS rfl ?_
 refine rl_assign rfl rfl ?_
 refine RL.nil (thn_n (CW.ret ?_))
 obtain rfl := hS
 exact ret1 rfl ⟨rfl, c0⟩
/-- cmp.Compare[string] -/
theorem ctr52 (F : Nat → Prop) (w : World) (a0 : ByteArray) (a1 : ByteArray) (r : Int) (hs : F52_string a0 a1 = r) :
    Ret Tryz.prog 52 #[(Value.string a0), (Value.string a1)] w fun v w' => v = (Value.int .i64 r) ∧ Ch nb w w' := by
 have hS := hs
 have c0 : Ch nb w w := Ch.refl
 refine Ret.of (n := 20) (args := [_, _]) (rs := [.tmp 4]) Tryz.func52 rfl rfl rfl rfl ?_
 refine CW.seq (CW.region ?_)
 refine rl_assign rfl rfl ?_
 refine RL.nil (thn_n (CW.seq (CW.region ?_)))
 refine rl_move rfl rfl ?_
 obtain ⟨y3, hy4⟩ : ∃ y, F79_string a0 = y := ⟨_, rfl⟩
 have hS := ltS hy4 hS
 refine rl_callF rfl en79 rfl (ctr79 (G F w.heap.size nb) w a0 y3 hy4) ?_
 rintro _ w1 ⟨rfl, c2⟩
 have c0 := c0.then0 c2
 refine rl_assign rfl rfl ?_
 refine RL.nil (thn_n (CW.seq (CW.region ?_)))
 refine rl_move rfl rfl ?_
 obtain ⟨y7, hy8⟩ : ∃ y, F79_string a1 = y := ⟨_, rfl⟩
 have hS := ltS hy8 hS
 refine rl_callF rfl en79 rfl (ctr79 (G F w.heap.size nb) w1 a1 y7 hy8) ?_
 rintro _ w5 ⟨rfl, c6⟩
 have c0 := c0.then0 c6
 refine rl_assign rfl rfl ?_
 refine RL.nil (thn_n (CW.seq ?_))
 refine CW.seq (CW.region ?_)
 refine rl_move rfl rfl ?_
 refine RL.nil (thn_n ?_)
 refine CW.cond (t := y3) rfl (fun q9 => ?_) (fun q9 => ?_)
 ·
  have hS := ifT q9 hS
  refine CW.seq ?_
  refine CW.seq (CW.region ?_)
  refine rl_move rfl rfl ?_
  refine RL.nil (thn_n ?_)
  refine CW.cond (t := y7) rfl (fun q10 => ?_) (fun q10 => ?_)
  ·
   have hS := ifT q10 hS
   refine CW.seq (CW.region ?_)
   refine rl_assign rfl rfl ?_
   refine RL.nil (thn_n (CW.ret ?_))
   refine thn_ret ?_
   refine thn_ret ?_
   obtain rfl := hS
   exact ret1 rfl ⟨rfl, c0⟩
  have hS := ifF q10 hS
  refine CW.skip ?_
  refine thn_n (CW.seq (CW.region ?_))
  refine rl_assign rfl rfl ?_
  refine RL.nil (thn_n (CW.ret ?_))
  refine thn_ret ?_
  obtain rfl := hS
  exact ret1 rfl ⟨rfl, c0⟩
 have hS := ifF q9 hS
 refine CW.skip ?_
 refine thn_n (CW.seq ?_)
 refine CW.seq (CW.region ?_)
 refine rl_move rfl rfl ?_
 refine RL.nil (thn_n ?_)
 refine CW.cond (t := y7) rfl (fun q11 => ?_) (fun q11 => ?_)
 ·
  have hS := ifT q11 hS
  refine CW.seq (CW.region ?_)
  refine rl_assign rfl rfl ?_
  refine RL.nil (thn_n (CW.ret ?_))
  refine thn_ret ?_
  obtain rfl := hS
  exact ret1 rfl ⟨rfl, c0⟩
 have hS := ifF q11 hS
 refine CW.skip ?_
 refine thn_n (CW.seq ?_)
 refine CW.seq (CW.region ?_)
 refine rl_move rfl rfl ?_
 refine rl_move rfl rfl ?_
 refine rl_bin rfl rfl B.lssS rfl ?_
 refine RL.nil (thn_n ?_)
 refine CW.cond (t := Op.bytesLess a0.toList a1.toList) rfl (fun q12 => ?_) (fun q12 => ?_)
 ·
  have hS := ifT q12 hS
  refine CW.seq (CW.region ?_)
  refine rl_assign rfl rfl ?_
  refine RL.nil (thn_n (CW.ret ?_))
  refine thn_ret ?_
  obtain rfl := hS
  exact ret1 rfl ⟨rfl, c0⟩
 have hS := ifF q12 hS
 refine CW.skip ?_
 refine thn_n (CW.seq ?_)
 refine CW.seq (CW.region ?_)
 refine rl_move rfl rfl ?_
 refine rl_move rfl rfl ?_
 refine rl_bin rfl rfl B.gtrS rfl ?_
 refine RL.nil (thn_n ?_)
 refine CW.cond (t := !(Op.bytesLess a0.toList a1.toList || decide (a0 = a1))) rfl (fun q13 => ?_) (fun q13 => ?_)
 ·
  have hS := ifT q13 hS
  refine CW.seq (CW.region ?_)
  refine rl_assign rfl rfl ?_
  refine RL.nil (thn_n (CW.ret ?_))
  refine thn_ret ?_
  obtain rfl := hS
  exact ret1 rfl ⟨rfl, c0⟩
 have hS := ifF q13 hS
 refine CW.skip ?_
 refine thn_n (CW.seq (CW.region ?_))
 refine rl_assign rfl rfl ?_
 refine RL.nil (thn_n (CW.ret ?_))
 obtain rfl := hS
 exact ret1 rfl ⟨rfl, c0⟩
/-- lb/face.truth -/
theorem ctr87 (F : Nat → Prop) (w : World) (a0 : Bool) (a1 : Bool) (r : Int) (hs : F87_truth a0 a1 = r) :
    Ret Tryz.prog 87 #[(Value.bool a0), (Value.bool a1)] w fun v w' => v = (Value.int .i64 r) ∧ Ch nb w w' := by
 have hS := hs
 have c0 : Ch nb w w := Ch.refl
 refine Ret.of (n := 11) (args := [_, _]) (rs := [.tmp 4]) Tryz.func87 rfl rfl rfl rfl ?_
 refine CW.seq (CW.region ?_)
 refine rl_assign rfl rfl ?_
 refine RL.nil (thn_n (CW.seq ?_))
 refine CW.block ?_
 refine CW.seq (CW.region ?_)
 refine rl_move rfl rfl ?_
 refine rl_move rfl rfl ?_
 refine rl_bin rfl rfl (B.eqlB Tryz.underlying4) rfl ?_
 refine rl_assign rfl rfl ?_
 refine RL.nil (thn_n ?_)
 refine CW.cond (t := (a0 == a1)) rfl (fun q1 => ?_) (fun q1 => ?_)
 ·
  have hS := ifT q1 hS
  refine CW.seq (CW.region ?_)
  refine rl_assign rfl rfl ?_
  refine RL.nil (thn_n (CW.ret ?_))
  refine inB_ret ?_
  refine thn_ret ?_
  obtain rfl := hS
  exact ret1 rfl ⟨rfl, c0⟩
 have hS := ifF q1 hS
 refine CW.seq (CW.region ?_)
 refine rl_move rfl rfl ?_
 refine rl_assign rfl rfl ?_
 refine RL.nil (thn_n ?_)
 refine CW.cond (t := a0) rfl (fun q2 => ?_) (fun q2 => ?_)
 ·
  have hS := ifT q2 hS
  refine CW.seq (CW.region ?_)
  refine rl_assign rfl rfl ?_
  refine RL.nil (thn_n (CW.ret ?_))
  refine inB_ret ?_
  refine thn_ret ?_
  obtain rfl := hS
  exact ret1 rfl ⟨rfl, c0⟩
 have hS := ifF q2 hS
 refine CW.skip ?_
 refine inB_n ?_
 refine thn_n (CW.seq (CW.region ?_))
 refine rl_assign rfl rfl ?_
 refine RL.nil (thn_n (CW.ret ?_))
 obtain rfl := hS
 exact ret1 rfl ⟨rfl, c0⟩
/-- lb/face.Compare -/
theorem ctr63 (F : Nat → Prop) (w : World) (a0 : Face) (a1 : Face) (r : Int) (hs : F63_Compare a0 a1 = r) :
    Ret Tryz.prog 63 #[(Value.agg (Face.enc a0).toArray), (Value.agg (Face.enc a1).toArray)] w fun v w' => v = (Value.int .i64 r) ∧ Ch nb w w' := by
 have hS := hs
 have c0 : Ch nb w w := Ch.refl
 refine Ret.of (n := 37) (args := [_, _]) (rs := [.tmp 4]) Tryz.func63 rfl rfl rfl rfl ?_
 refine CW.seq (CW.region ?_)
 refine rl_boxA (cs := (Face.enc a0)) rfl rfl ?_
 intro p1 w2 n3 k4
 have c0 := c0.then0 n3.ch
 refine rl_boxA (cs := (Face.enc a1)) rfl rfl ?_
 intro p5 w6 n7 k8
 have k4 := k4.ch0 n7.ch
 have c0 := c0.then0 n7.ch
 refine rl_assign rfl rfl ?_
 refine RL.nil (thn_n (CW.seq ?_))
 obtain ⟨y11, hy12⟩ : ∃ y, F53_int a0.proto a1.proto = y := ⟨_, rfl⟩
 have hS := ltS hy12 hS
 obtain ⟨y15, hy16⟩ : ∃ y, F75_Compare a0.point a1.point = y := ⟨_, rfl⟩
 have hS := ltS hy16 hS
 obtain ⟨y19, hy20⟩ : ∃ y, F52_string a0.name a1.name = y := ⟨_, rfl⟩
 have hS := ltS hy20 hS
 obtain ⟨y23, hy24⟩ : ∃ y, F53_int a0.how a1.how = y := ⟨_, rfl⟩
 have hS := ltS hy24 hS
 obtain ⟨y27, hy28⟩ : ∃ y, F87_truth a0.localF a1.localF = y := ⟨_, rfl⟩
 have hS := ltS hy28 hS
 obtain ⟨y31, hy32⟩ : ∃ y, F87_truth a0.asked a1.asked = y := ⟨_, rfl⟩
 have hS := ltS hy32 hS
 obtain ⟨y40, hy41⟩ : ∃ y, F51_int [y11, y15, y19, y23, y27, y31] = y := ⟨_, rfl⟩
 have hS := ltS hy41 hS
 refine CW.draw 29 [(none, fun fx O uu wx => uu = (PV p1)), (none, fun fx O uu wx => uu = (Value.int .i64 a0.proto)), (none, fun fx O uu wx => uu = (PV p5)), (none, fun fx O uu wx => uu = (Value.int .i64 a1.proto)), (none, fun fx O uu wx => uu = (Value.int .i64 y11)), (none, fun fx O uu wx => uu = (Value.pointer (some ⟨p1, 1, none⟩))), (none, fun fx O uu wx => uu = (Value.agg (Point.enc a0.point).toArray)), (none, fun fx O uu wx => uu = (Value.pointer (some ⟨p5, 1, none⟩))), (none, fun fx O uu wx => uu = (Value.agg (Point.enc a1.point).toArray)), (none, fun fx O uu wx => uu = (Value.int .i64 y15)), (none, fun fx O uu wx => uu = (Value.pointer (some ⟨p1, 19, none⟩))), (none, fun fx O uu wx => uu = (Value.string a0.name)), (none, fun fx O uu wx => uu = (Value.pointer (some ⟨p5, 19, none⟩))), (none, fun fx O uu wx => uu = (Value.string a1.name)), (none, fun fx O uu wx => uu = (Value.int .i64 y19)), (none, fun fx O uu wx => uu = (Value.pointer (some ⟨p1, 20, none⟩))), (none, fun fx O uu wx => uu = (Value.int .i64 a0.how)), (none, fun fx O uu wx => uu = (Value.pointer (some ⟨p5, 20, none⟩))), (none, fun fx O uu wx => uu = (Value.int .i64 a1.how)), (none, fun fx O uu wx => uu = (Value.int .i64 y23)), (none, fun fx O uu wx => uu = (Value.pointer (some ⟨p1, 21, none⟩))), (none, fun fx O uu wx => uu = (Value.bool a0.localF)), (none, fun fx O uu wx => uu = (Value.pointer (some ⟨p5, 21, none⟩))), (none, fun fx O uu wx => uu = (Value.bool a1.localF)), (none, fun fx O uu wx => uu = (Value.int .i64 y27)), (none, fun fx O uu wx => uu = (Value.pointer (some ⟨p1, 22, none⟩))), (none, fun fx O uu wx => uu = (Value.bool a0.asked)), (none, fun fx O uu wx => uu = (Value.pointer (some ⟨p5, 22, none⟩))), (none, fun fx O uu wx => uu = (Value.bool a1.asked))] [[], [0], [], [2], [1, 3], [], [5], [], [7], [6, 8], [], [10], [], [12], [11, 13], [], [15], [], [17], [16, 18], [], [20], [], [22], [21, 23], [], [25], [], [27]] [4, 9, 14, 19, 24, 26, 28] nb (fun _ h => h.elim) mixed rfl rfl rfl rfl ?_ ?_
 ·
  refine Each.consS (fun fl O wk hE hN hO ck => ?_) ?_
  ·
   refine rl_fieldAddr rfl fa47_0 rfl ?_
   exact RL.nil ⟨_, rfl, Ch.refl, rfl⟩
  refine Each.consS (fun fl O wk hE hN hO ck => ?_) ?_
  ·
   have k4 := k4.ch0 ck
   refine Need.o1 rfl rfl rfl (fun _ h => h) ?_
   refine rl_loadS (v := (Value.int .i64 a0.proto)) rfl Tryz.isAgg3 (k4.cell rfl) rfl ?_
   exact RL.nil ⟨_, rfl, Ch.refl, rfl⟩
  refine Each.consS (fun fl O wk hE hN hO ck => ?_) ?_
  ·
   refine rl_fieldAddr rfl fa47_0 rfl ?_
   exact RL.nil ⟨_, rfl, Ch.refl, rfl⟩
  refine Each.consS (fun fl O wk hE hN hO ck => ?_) ?_
  ·
   have k8 := k8.ch0 ck
   refine Need.o1 rfl rfl rfl (fun _ h => h) ?_
   refine rl_loadS (v := (Value.int .i64 a1.proto)) rfl Tryz.isAgg3 (k8.cell rfl) rfl ?_
   exact RL.nil ⟨_, rfl, Ch.refl, rfl⟩
  refine Each.consS (fun fl O wk hE hN hO ck => ?_) ?_
  ·
   refine Need.o1 rfl rfl rfl (fun _ h => h) ?_
   refine Need.o1 rfl rfl rfl (fun _ h => h) ?_
   refine rl_callF rfl en53 rfl (ctr53 (G F w.heap.size nb) wk a0.proto a1.proto y11 hy12) ?_
   rintro _ w46 ⟨rfl, c47⟩
   exact RL.nil ⟨_, rfl, c47, rfl⟩
  refine Each.consS (fun fl O wk hE hN hO ck => ?_) ?_
  ·
   refine rl_fieldAddr rfl fa47_1 rfl ?_
   exact RL.nil ⟨_, rfl, Ch.refl, rfl⟩
  refine Each.consS (fun fl O wk hE hN hO ck => ?_) ?_
  ·
   have k4 := k4.ch0 ck
   refine Need.o1 rfl rfl rfl (fun _ h => h) ?_
   refine rl_loadA (cs := (Point.enc a0.point)) rfl Tryz.isAgg45 Tryz.sizeOf45 (k4.segAt 1 18) rfl rfl ?_
   exact RL.nil ⟨_, rfl, Ch.refl, rfl⟩
  refine Each.consS (fun fl O wk hE hN hO ck => ?_) ?_
  ·
   refine rl_fieldAddr rfl fa47_1 rfl ?_
   exact RL.nil ⟨_, rfl, Ch.refl, rfl⟩
  refine Each.consS (fun fl O wk hE hN hO ck => ?_) ?_
  ·
   have k8 := k8.ch0 ck
   refine Need.o1 rfl rfl rfl (fun _ h => h) ?_
   refine rl_loadA (cs := (Point.enc a1.point)) rfl Tryz.isAgg45 Tryz.sizeOf45 (k8.segAt 1 18) rfl rfl ?_
   exact RL.nil ⟨_, rfl, Ch.refl, rfl⟩
  refine Each.consS (fun fl O wk hE hN hO ck => ?_) ?_
  ·
   refine Need.o1 rfl rfl rfl (fun _ h => h) ?_
   refine Need.o1 rfl rfl rfl (fun _ h => h) ?_
   refine rl_callF rfl en75 rfl (ctr75 (G F w.heap.size nb) wk a0.point a1.point y15 hy16) ?_
   rintro _ w52 ⟨rfl, c53⟩
   exact RL.nil ⟨_, rfl, c53, rfl⟩
  refine Each.consS (fun fl O wk hE hN hO ck => ?_) ?_
  ·
   refine rl_fieldAddr rfl fa47_2 rfl ?_
   exact RL.nil ⟨_, rfl, Ch.refl, rfl⟩
  refine Each.consS (fun fl O wk hE hN hO ck => ?_) ?_
  ·
   have k4 := k4.ch0 ck
   refine Need.o1 rfl rfl rfl (fun _ h => h) ?_
   refine rl_loadS (v := (Value.string a0.name)) rfl Tryz.isAgg9 (k4.cell rfl) rfl ?_
   exact RL.nil ⟨_, rfl, Ch.refl, rfl⟩
  refine Each.consS (fun fl O wk hE hN hO ck => ?_) ?_
  ·
   refine rl_fieldAddr rfl fa47_2 rfl ?_
   exact RL.nil ⟨_, rfl, Ch.refl, rfl⟩
  refine Each.consS (fun fl O wk hE hN hO ck => ?_) ?_
  ·
   have k8 := k8.ch0 ck
   refine Need.o1 rfl rfl rfl (fun _ h => h) ?_
   refine rl_loadS (v := (Value.string a1.name)) rfl Tryz.isAgg9 (k8.cell rfl) rfl ?_
   exact RL.nil ⟨_, rfl, Ch.refl, rfl⟩
  refine Each.consS (fun fl O wk hE hN hO ck => ?_) ?_
  ·
   refine Need.o1 rfl rfl rfl (fun _ h => h) ?_
   refine Need.o1 rfl rfl rfl (fun _ h => h) ?_
   refine rl_callF rfl en52 rfl (ctr52 (G F w.heap.size nb) wk a0.name a1.name y19 hy20) ?_
   rintro _ w58 ⟨rfl, c59⟩
   exact RL.nil ⟨_, rfl, c59, rfl⟩
  refine Each.consS (fun fl O wk hE hN hO ck => ?_) ?_
  ·
   refine rl_fieldAddr rfl fa47_3 rfl ?_
   exact RL.nil ⟨_, rfl, Ch.refl, rfl⟩
  refine Each.consS (fun fl O wk hE hN hO ck => ?_) ?_
  ·
   have k4 := k4.ch0 ck
   refine Need.o1 rfl rfl rfl (fun _ h => h) ?_
   refine rl_loadS (v := (Value.int .i64 a0.how)) rfl Tryz.isAgg3 (k4.cell rfl) rfl ?_
   exact RL.nil ⟨_, rfl, Ch.refl, rfl⟩
  refine Each.consS (fun fl O wk hE hN hO ck => ?_) ?_
  ·
   refine rl_fieldAddr rfl fa47_3 rfl ?_
   exact RL.nil ⟨_, rfl, Ch.refl, rfl⟩
  refine Each.consS (fun fl O wk hE hN hO ck => ?_) ?_
  ·
   have k8 := k8.ch0 ck
   refine Need.o1 rfl rfl rfl (fun _ h => h) ?_
   refine rl_loadS (v := (Value.int .i64 a1.how)) rfl Tryz.isAgg3 (k8.cell rfl) rfl ?_
   exact RL.nil ⟨_, rfl, Ch.refl, rfl⟩
  refine Each.consS (fun fl O wk hE hN hO ck => ?_) ?_
  ·
   refine Need.o1 rfl rfl rfl (fun _ h => h) ?_
   refine Need.o1 rfl rfl rfl (fun _ h => h) ?_
   refine rl_callF rfl en53 rfl (ctr53 (G F w.heap.size nb) wk a0.how a1.how y23 hy24) ?_
   rintro _ w64 ⟨rfl, c65⟩
   exact RL.nil ⟨_, rfl, c65, rfl⟩
  refine Each.consS (fun fl O wk hE hN hO ck => ?_) ?_
  ·
   refine rl_fieldAddr rfl fa47_4 rfl ?_
   exact RL.nil ⟨_, rfl, Ch.refl, rfl⟩
  refine Each.consS (fun fl O wk hE hN hO ck => ?_) ?_
  ·
   have k4 := k4.ch0 ck
   refine Need.o1 rfl rfl rfl (fun _ h => h) ?_
   refine rl_loadS (v := (Value.bool a0.localF)) rfl Tryz.isAgg4 (k4.cell rfl) rfl ?_
   exact RL.nil ⟨_, rfl, Ch.refl, rfl⟩
  refine Each.consS (fun fl O wk hE hN hO ck => ?_) ?_
  ·
   refine rl_fieldAddr rfl fa47_4 rfl ?_
   exact RL.nil ⟨_, rfl, Ch.refl, rfl⟩
  refine Each.consS (fun fl O wk hE hN hO ck => ?_) ?_
  ·
   have k8 := k8.ch0 ck
   refine Need.o1 rfl rfl rfl (fun _ h => h) ?_
   refine rl_loadS (v := (Value.bool a1.localF)) rfl Tryz.isAgg4 (k8.cell rfl) rfl ?_
   exact RL.nil ⟨_, rfl, Ch.refl, rfl⟩
  refine Each.consS (fun fl O wk hE hN hO ck => ?_) ?_
  ·
   refine Need.o1 rfl rfl rfl (fun _ h => h) ?_
   refine Need.o1 rfl rfl rfl (fun _ h => h) ?_
   refine rl_callF rfl en87 rfl (ctr87 (G F w.heap.size nb) wk a0.localF a1.localF y27 hy28) ?_
   rintro _ w70 ⟨rfl, c71⟩
   exact RL.nil ⟨_, rfl, c71, rfl⟩
  refine Each.consS (fun fl O wk hE hN hO ck => ?_) ?_
  ·
   refine rl_fieldAddr rfl fa47_5 rfl ?_
   exact RL.nil ⟨_, rfl, Ch.refl, rfl⟩
  refine Each.consS (fun fl O wk hE hN hO ck => ?_) ?_
  ·
   have k4 := k4.ch0 ck
   refine Need.o1 rfl rfl rfl (fun _ h => h) ?_
   refine rl_loadS (v := (Value.bool a0.asked)) rfl Tryz.isAgg4 (k4.cell rfl) rfl ?_
   exact RL.nil ⟨_, rfl, Ch.refl, rfl⟩
  refine Each.consS (fun fl O wk hE hN hO ck => ?_) ?_
  ·
   refine rl_fieldAddr rfl fa47_5 rfl ?_
   exact RL.nil ⟨_, rfl, Ch.refl, rfl⟩
  refine Each.consS (fun fl O wk hE hN hO ck => ?_) ?_
  ·
   have k8 := k8.ch0 ck
   refine Need.o1 rfl rfl rfl (fun _ h => h) ?_
   refine rl_loadS (v := (Value.bool a1.asked)) rfl Tryz.isAgg4 (k8.cell rfl) rfl ?_
   exact RL.nil ⟨_, rfl, Ch.refl, rfl⟩
  trivial
 intro hvO76 OpO76 O76 w74 hO77 c75 hN78
 have c0 := c0.then0 c75
 refine Need.o1 rfl rfl rfl (fun _ h => h) ?_
 refine Need.o1 rfl rfl rfl (fun _ h => h) ?_
 refine Need.o1 rfl rfl rfl (fun _ h => h) ?_
 refine Need.o1 rfl rfl rfl (fun _ h => h) ?_
 refine Need.o1 rfl rfl rfl (fun _ h => h) ?_
 refine Need.o1 rfl rfl rfl (fun _ h => h) ?_
 refine Need.o1 rfl rfl rfl (fun _ h => h) ?_
 refine rl_callF rfl en87 rfl (ctr87 (G F w.heap.size nb) w74 a0.asked a1.asked y31 hy32) ?_
 rintro _ w86 ⟨rfl, c87⟩
 have c0 := c0.then0 c87
 refine rl_bslice (k := (kInt .i64)) (F := F) (B := w.heap.size) (S := nb) ([y11, y15, y19, y23, y27, y31] : List Int) rfl kInt_pos Tryz.underlying158 Tryz.sizeOf3 Tryz.zeroValue3 rfl rfl ⟨rfl, rfl, ⟨rfl, rfl, ⟨rfl, rfl, ⟨rfl, rfl, ⟨rfl, rfl, ⟨rfl, rfl, trivial⟩⟩⟩⟩⟩⟩ c0.size nbS rfl ?_
 intro v88 w89 c90 hf91 h92
 have h92 := h92.readNew kInt_pos hf91 nbS
 have c0 := c0.then0 c90
 refine rl_callF rfl en51 rfl (ctr51 (G F w.heap.size nb) w89 [y11, y15, y19, y23, y27, y31] v88 h92 y40 hy41) ?_
 rintro _ w93 ⟨rfl, c94⟩
 have c0 := c0.then0 c94
 refine rl_assign rfl rfl ?_
 refine RL.nil (thn_n (CW.ret ?_))
 obtain rfl := hS
 exact ret1 rfl ⟨rfl, c0⟩
/-- slices.Compact[[]lb/face.Face,lb/face.Face] -/
theorem ctr64 (F : Nat → Prop) (w : World) (Bb : Nat) (S2 : Nat → Prop) (hB : Bb ≤ w.heap.size) (h2 : ∀ b, S2 b → b < w.heap.size) (av0 : Value) (hd2 : ∀ b, (inBlk av0) b → ¬ S2 b) (a0 : (List Face)) (ah0 : SlO k_Face 47 F Bb (un (inBlk av0) S2) w a0 av0) (r : (List Face)) (hs : F64_Face a0 = some r) :
    Ret Tryz.prog 64 #[av0] w fun v w' => ∃ (y0 : Value), v = y0 ∧ SlO k_Face 47 F Bb (un (inBlk y0) S2) w' r y0 ∧ (∀ b, inBlk y0 b → inBlk av0 b ∨ w.heap.size ≤ b) ∧ Ch (inBlk av0) w w' := by
 have hS := hs
 have c0 : Ch (inBlk av0) w w := Ch.refl
 have lin0_0 : ∀ b, inBlk av0 b → (inBlk av0) b ∨ w.heap.size ≤ b := fun b h => .inl h
 refine Ret.of (n := 61) (args := [_]) (rs := [.tmp 2]) Tryz.func64 rfl rfl rfl rfl ?_
 refine CW.seq (CW.region ?_)
 refine rl_assign rfl rfl ?_
 refine RL.nil (thn_n (CW.seq ?_))
 refine CW.seq (CW.region ?_)
 refine rl_move rfl rfl ?_
 refine rl_lenR rfl (SlO.read (S' := S2) k_Face_pos ah0 (fun b hs h => hs ((.inr h))) (fun b hb => linNot lin0_0 hd2 h2 b hb)) Tryz.underlying36 rfl ?_
 refine rl_bin rfl rfl B.lss rfl ?_
 refine RL.nil (thn_n ?_)
 refine CW.cond (t := decide (((a0.length : Nat) : Int) < 2)) rfl (fun q1 => ?_) (fun q1 => ?_)
 ·
  have hS := ifT q1 hS
  refine CW.seq (CW.region ?_)
  refine rl_move rfl rfl ?_
  refine rl_assign rfl rfl ?_
  refine RL.nil (thn_n (CW.ret ?_))
  refine thn_ret ?_
  obtain rfl := Option.some.inj hS
  exact ret1 rfl ⟨av0, rfl, ah0, lin0_0, c0⟩
 have hS := ifF q1 hS
 refine CW.skip ?_
 refine thn_n (CW.seq ?_)
 refine CW.seq (CW.region ?_)
 refine rl_assign rfl rfl ?_
 refine RL.nil (thn_n ?_)
 obtain ⟨o12, ho13, hS⟩ := bindS hS
 refine CW.cutB (fun E' w' => ∃ (x2 : Int) (x3 : (List Face)), Sub [(0, av0)] E' ∧ Ch (inBlk av0) w w' ∧ Lp.fin (x2, x3) = o12 ∧ SlO k_Face 47 F Bb (un (inBlk av0) S2) w' x3 av0) ?_ ?_
 ·
  refine CW.loopS [(0, av0), (3, (Value.int .i64 1))] ⟨rfl, rfl, trivial⟩ FUEL (fun m E w' => ∃ (x2 : Int) (x3 : (List Face)), E = [(0, av0), (3, (Value.int .i64 x2))] ∧ Ch (inBlk av0) w w' ∧ runW F64_Face_b1 m (x2, x3) = some o12 ∧ SlO k_Face 47 F Bb (un (inBlk av0) S2) w' x3 av0)
      ⟨1, a0, rfl, c0, ho13, ah0⟩ ?_
  rintro _ _ w18 ⟨x2, x3, rfl, c17, hL7, h4⟩
  obtain ⟨k16, q9, rfl, hq10⟩ := runW_some hL7
  have hb11 := hq10
  refine CW.seq ?_
  refine CW.seq (CW.region ?_)
  refine rl_move rfl rfl ?_
  refine rl_move rfl rfl ?_
  refine rl_lenR rfl (SlO.read (S' := S2) k_Face_pos h4 (fun b hs h => hs ((.inr h))) (fun b hb => linNot lin0_0 hd2 h2 b hb)) Tryz.underlying36 rfl ?_
  refine rl_bin rfl rfl B.lss rfl ?_
  refine RL.nil (thn_n ?_)
  refine CW.cond (t := decide (x2 < ((x3.length : Nat) : Int))) rfl (fun q20 => ?_) (fun q20 => ?_)
  ·
   have hb11 := ifT q20 hb11
   refine CW.skip ?_
   refine thn_n (CW.seq ?_)
   refine CW.block ?_
   refine CW.seq ?_
   obtain ⟨y27, hy28, hb11⟩ := bindS hb11
   obtain ⟨y35, hy36, hb11⟩ := bindS hb11
   refine CW.draw 9 [(none, fun fx O uu wx => uu = av0), (none, fun fx O uu wx => uu = (Value.int .i64 x2)), (none, fun fx O uu wx => ∃ (p21 : Nat) (o22 : Nat), uu = (Value.pointer (some ⟨p21, o22, none⟩)) ∧ Seg wx p21 o22 (Face.enc y27)), (none, fun fx O uu wx => uu = (Value.agg (Face.enc y27).toArray)), (none, fun fx O uu wx => uu = av0), (none, fun fx O uu wx => uu = (Value.int .i64 x2)), (none, fun fx O uu wx => uu = (Value.int .i64 (IntKind.i64.wrap (x2 - 1)))), (none, fun fx O uu wx => ∃ (p29 : Nat) (o30 : Nat), uu = (Value.pointer (some ⟨p29, o30, none⟩)) ∧ Seg wx p29 o30 (Face.enc y35)), (none, fun fx O uu wx => uu = (Value.agg (Face.enc y35).toArray))] [[], [], [0, 1], [2], [], [], [5], [4, 6], [7]] [3, 8] nb (fun _ h => h.elim) mixed rfl rfl rfl rfl ?_ ?_
   ·
    refine Each.consS (fun fl O wk hE hN hO ck => ?_) ?_
    ·
     refine rl_move rfl rfl ?_
     exact RL.nil ⟨_, rfl, Ch.refl, rfl⟩
    refine Each.consS (fun fl O wk hE hN hO ck => ?_) ?_
    ·
     refine rl_move rfl rfl ?_
     exact RL.nil ⟨_, rfl, Ch.refl, rfl⟩
    refine Each.consA ⟨fun _ _ _ _ _ cc hh => by obtain ⟨p21, o22, e, hs25⟩ := hh; exact ⟨p21, o22, e, hs25.ch0 cc⟩, fun h => absurd rfl h, fun fl O wk hE hN hO ck => ?_⟩ ?_
    ·
     have h4 := h4.ch0 ck
     refine Need.o1 rfl rfl rfl (fun _ h => h) ?_
     refine Need.o1 rfl rfl rfl (fun _ h => h) ?_
     refine rl_ixOR rfl h4 rfl (ixO_get hy28) k_Face_pos Tryz.underlying36 Tryz.sizeOf47 rfl ?_
     intro p39 o40 cs41 hr42 hs43 hg44
     obtain rfl := hr42
     exact RL.nil ⟨_, rfl, Ch.refl, ⟨p39, o40, rfl, hs43⟩⟩
    refine Each.consS (fun fl O wk hE hN hO ck => ?_) ?_
    ·
     refine Need.one rfl rfl rfl ?_
     rintro _ ⟨p21, o22, e45, hs25⟩
     obtain rfl := e45.symm
     refine rl_loadA (cs := (Face.enc y27)) rfl Tryz.isAgg47 Tryz.sizeOf47 (hs25) rfl rfl ?_
     exact RL.nil ⟨_, rfl, Ch.refl, rfl⟩
    refine Each.consS (fun fl O wk hE hN hO ck => ?_) ?_
    ·
     refine rl_move rfl rfl ?_
     exact RL.nil ⟨_, rfl, Ch.refl, rfl⟩
    refine Each.consS (fun fl O wk hE hN hO ck => ?_) ?_
    ·
     refine rl_move rfl rfl ?_
     exact RL.nil ⟨_, rfl, Ch.refl, rfl⟩
    refine Each.consS (fun fl O wk hE hN hO ck => ?_) ?_
    ·
     refine Need.o1 rfl rfl rfl (fun _ h => h) ?_
     refine rl_bin rfl rfl B.sub rfl ?_
     exact RL.nil ⟨_, rfl, Ch.refl, rfl⟩
    refine Each.consA ⟨fun _ _ _ _ _ cc hh => by obtain ⟨p29, o30, e, hs33⟩ := hh; exact ⟨p29, o30, e, hs33.ch0 cc⟩, fun h => absurd rfl h, fun fl O wk hE hN hO ck => ?_⟩ ?_
    ·
     have h4 := h4.ch0 ck
     refine Need.o1 rfl rfl rfl (fun _ h => h) ?_
     refine Need.o1 rfl rfl rfl (fun _ h => h) ?_
     refine rl_ixOR rfl h4 rfl (ixO_get hy36) k_Face_pos Tryz.underlying36 Tryz.sizeOf47 rfl ?_
     intro p49 o50 cs51 hr52 hs53 hg54
     obtain rfl := hr52
     exact RL.nil ⟨_, rfl, Ch.refl, ⟨p49, o50, rfl, hs53⟩⟩
    refine Each.consS (fun fl O wk hE hN hO ck => ?_) ?_
    ·
     refine Need.one rfl rfl rfl ?_
     rintro _ ⟨p29, o30, e55, hs33⟩
     obtain rfl := e55.symm
     refine rl_loadA (cs := (Face.enc y35)) rfl Tryz.isAgg47 Tryz.sizeOf47 (hs33) rfl rfl ?_
     exact RL.nil ⟨_, rfl, Ch.refl, rfl⟩
    trivial
   intro hvO58 OpO58 O58 w56 hO59 c57 hN60
   have h4 := h4.ch0 c57
   have c17 := c17.then0 c57
   refine Need.o1 rfl rfl rfl (fun _ h => h) ?_
   refine Need.o1 rfl rfl rfl (fun _ h => h) ?_
   refine rl_bin rfl rfl (eql47 y27 y35) rfl ?_
   refine RL.nil (thn_n ?_)
   refine CW.cond (t := decide (y27 = y35)) rfl (fun q63 => ?_) (fun q63 => ?_)
   ·
    have hb11 := ifT q63 hb11
    refine CW.seq (CW.region ?_)
    refine rl_move rfl rfl ?_
    refine rl_move rfl rfl ?_
    obtain ⟨y64, hy65, hb11⟩ := bindS hb11
    refine rl_cutS rfl h4 rfl hy65 Tryz.underlying36 Tryz.sizeOf47 rfl ?_
    intro v66 h67
    refine rl_assign rfl rfl ?_
    refine RL.nil (thn_n (CW.seq ?_))
    refine CW.seq (CW.region ?_)
    refine rl_assign rfl rfl ?_
    refine RL.nil (thn_n ?_)
    obtain ⟨o79, ho80, hb11⟩ := bindS hb11
    refine CW.cutB (fun E' w' => ∃ (x68 : Int) (x69 : Int) (x70 : (List Face)), Sub [(0, av0), (3, (Value.int .i64 x68))] E' ∧ Ch (inBlk av0) w w' ∧ Lp.fin (x68, x69, x70) = o79 ∧ SlO k_Face 47 F Bb (un (inBlk av0) S2) w' x70 av0) ?_ ?_
    ·
     refine CW.loopS [(0, av0), (4, v66), (3, (Value.int .i64 x2)), (5, (Value.int .i64 1))] ⟨rfl, rfl, rfl, rfl, trivial⟩ FUEL (fun m E w' => ∃ (x68 : Int) (x69 : Int) (x70 : (List Face)), E = [(0, av0), (4, v66), (3, (Value.int .i64 x68)), (5, (Value.int .i64 x69))] ∧ Ch (inBlk av0) w w' ∧ runW (F64_Face_b2 x2 y64) m (x68, x69, x70) = some o79 ∧ SlO k_Face 47 F Bb (un (inBlk av0) S2) w' x70 av0)
         ⟨x2, 1, x3, rfl, c17, ho80, h4⟩ ?_
     rintro _ _ w85 ⟨x68, x69, x70, rfl, c84, hL74, h71⟩
     obtain ⟨k83, q76, rfl, hq77⟩ := runW_some hL74
     have hb78 := hq77
     refine CW.seq ?_
     refine CW.seq (CW.region ?_)
     refine rl_move rfl rfl ?_
     refine rl_move rfl rfl ?_
     refine rl_lenSuf rfl h67 hy65 Tryz.underlying36 rfl ?_
     refine rl_bin rfl rfl B.lss rfl ?_
     refine RL.nil (thn_n ?_)
     refine CW.cond (t := decide (x69 < ((y64.length : Nat) : Int))) rfl (fun q87 => ?_) (fun q87 => ?_)
     ·
      have hb78 := ifT q87 hb78
      refine CW.skip ?_
      refine thn_n (CW.seq ?_)
      refine CW.block ?_
      refine CW.seq ?_
      obtain ⟨y94, hy95, hb78⟩ := bindS hb78
      obtain ⟨y102, hy103, hb78⟩ := bindS hb78
      refine CW.draw 9 [(none, fun fx O uu wx => uu = v66), (none, fun fx O uu wx => uu = (Value.int .i64 x69)), (none, fun fx O uu wx => ∃ (p88 : Nat) (o89 : Nat), uu = (Value.pointer (some ⟨p88, o89, none⟩)) ∧ Seg wx p88 o89 (Face.enc y94)), (none, fun fx O uu wx => uu = (Value.agg (Face.enc y94).toArray)), (none, fun fx O uu wx => uu = v66), (none, fun fx O uu wx => uu = (Value.int .i64 x69)), (none, fun fx O uu wx => uu = (Value.int .i64 (IntKind.i64.wrap (x69 - 1)))), (none, fun fx O uu wx => ∃ (p96 : Nat) (o97 : Nat), uu = (Value.pointer (some ⟨p96, o97, none⟩)) ∧ Seg wx p96 o97 (Face.enc y102)), (none, fun fx O uu wx => uu = (Value.agg (Face.enc y102).toArray))] [[], [], [0, 1], [2], [], [], [5], [4, 6], [7]] [3, 8] nb (fun _ h => h.elim) mixed rfl rfl rfl rfl ?_ ?_
      ·
       refine Each.consS (fun fl O wk hE hN hO ck => ?_) ?_
       ·
        refine rl_move rfl rfl ?_
        exact RL.nil ⟨_, rfl, Ch.refl, rfl⟩
       refine Each.consS (fun fl O wk hE hN hO ck => ?_) ?_
       ·
        refine rl_move rfl rfl ?_
        exact RL.nil ⟨_, rfl, Ch.refl, rfl⟩
       refine Each.consA ⟨fun _ _ _ _ _ cc hh => by obtain ⟨p88, o89, e, hs92⟩ := hh; exact ⟨p88, o89, e, hs92.ch0 cc⟩, fun h => absurd rfl h, fun fl O wk hE hN hO ck => ?_⟩ ?_
       ·
        have h71 := h71.ch0 ck
        refine Need.o1 rfl rfl rfl (fun _ h => h) ?_
        refine Need.o1 rfl rfl rfl (fun _ h => h) ?_
        refine rl_ixSuf rfl h67 h71 rfl (ixO_get hy95) k_Face_pos Tryz.underlying36 Tryz.sizeOf47 rfl ?_
        intro p106 o107 cs108 hr109 hs110 hg111
        obtain rfl := hr109
        exact RL.nil ⟨_, rfl, Ch.refl, ⟨p106, o107, rfl, hs110⟩⟩
       refine Each.consS (fun fl O wk hE hN hO ck => ?_) ?_
       ·
        refine Need.one rfl rfl rfl ?_
        rintro _ ⟨p88, o89, e112, hs92⟩
        obtain rfl := e112.symm
        refine rl_loadA (cs := (Face.enc y94)) rfl Tryz.isAgg47 Tryz.sizeOf47 (hs92) rfl rfl ?_
        exact RL.nil ⟨_, rfl, Ch.refl, rfl⟩
       refine Each.consS (fun fl O wk hE hN hO ck => ?_) ?_
       ·
        refine rl_move rfl rfl ?_
        exact RL.nil ⟨_, rfl, Ch.refl, rfl⟩
       refine Each.consS (fun fl O wk hE hN hO ck => ?_) ?_
       ·
        refine rl_move rfl rfl ?_
        exact RL.nil ⟨_, rfl, Ch.refl, rfl⟩
       refine Each.consS (fun fl O wk hE hN hO ck => ?_) ?_
       ·
        refine Need.o1 rfl rfl rfl (fun _ h => h) ?_
        refine rl_bin rfl rfl B.sub rfl ?_
        exact RL.nil ⟨_, rfl, Ch.refl, rfl⟩
       refine Each.consA ⟨fun _ _ _ _ _ cc hh => by obtain ⟨p96, o97, e, hs100⟩ := hh; exact ⟨p96, o97, e, hs100.ch0 cc⟩, fun h => absurd rfl h, fun fl O wk hE hN hO ck => ?_⟩ ?_
       ·
        have h71 := h71.ch0 ck
        refine Need.o1 rfl rfl rfl (fun _ h => h) ?_
        refine Need.o1 rfl rfl rfl (fun _ h => h) ?_
        refine rl_ixSuf rfl h67 h71 rfl (ixO_get hy103) k_Face_pos Tryz.underlying36 Tryz.sizeOf47 rfl ?_
        intro p116 o117 cs118 hr119 hs120 hg121
        obtain rfl := hr119
        exact RL.nil ⟨_, rfl, Ch.refl, ⟨p116, o117, rfl, hs120⟩⟩
       refine Each.consS (fun fl O wk hE hN hO ck => ?_) ?_
       ·
        refine Need.one rfl rfl rfl ?_
        rintro _ ⟨p96, o97, e122, hs100⟩
        obtain rfl := e122.symm
        refine rl_loadA (cs := (Face.enc y102)) rfl Tryz.isAgg47 Tryz.sizeOf47 (hs100) rfl rfl ?_
        exact RL.nil ⟨_, rfl, Ch.refl, rfl⟩
       trivial
      intro hvO125 OpO125 O125 w123 hO126 c124 hN127
      have h71 := h71.ch0 c124
      have c84 := c84.then0 c124
      refine Need.o1 rfl rfl rfl (fun _ h => h) ?_
      refine Need.o1 rfl rfl rfl (fun _ h => h) ?_
      refine rl_bin rfl rfl (neq47 y94 y102) rfl ?_
      refine RL.nil (thn_n ?_)
      refine CW.cond (t := !decide (y94 = y102)) rfl (fun q130 => ?_) (fun q130 => ?_)
      ·
       have hb78 := ifT q130 hb78
       refine CW.seq (CW.region ?_)
       refine rl_move rfl rfl ?_
       refine rl_move rfl rfl ?_
       refine rl_move rfl rfl ?_
       refine rl_move rfl rfl ?_
       obtain ⟨y137, hy138, hb78⟩ := bindS hb78
       refine rl_ixSuf rfl h67 h71 rfl (ixO_get hy138) k_Face_pos Tryz.underlying36 Tryz.sizeOf47 rfl ?_
       intro p131 o132 cs133 hr134 hs135 hg136
       obtain rfl := hr134
       refine rl_loadA (cs := (Face.enc y137)) rfl Tryz.isAgg47 Tryz.sizeOf47 (hs135) rfl rfl ?_
       obtain ⟨y145, hy146, hb78⟩ := bindS hb78
       refine rl_ixO rfl h71 rfl (ixO_get hy146) Tryz.underlying36 Tryz.sizeOf47 rfl ?_
       intro p139 hg144
       refine rl_storeOA rfl rfl Tryz.sizeOf47 h71 hg144 (ixO_lt hy146) (show k_Face.rep (G F Bb (un (inBlk av0) S2)) w123 y137 (Face.enc y137) from rfl) ?_
       intro w147 c148 h149
       have c84 := c84.then c148 (fun i hi h => (lin0_0 i h).elim (fun x => x) (fun x => absurd x (Nat.not_le_of_lt hi)))
       refine RL.nil (thn_n (CW.region ?_))
       refine rl_move rfl rfl ?_
       refine rl_bin rfl rfl B.add rfl ?_
       refine rl_assign rfl rfl ?_
       refine RL.nil ?_
       refine inB_n ?_
       refine thn_n (CW.region ?_)
       refine rl_move rfl rfl ?_
       refine rl_bin rfl rfl B.add rfl ?_
       refine rl_assign rfl rfl ?_
       refine RL.nil (thn_n ?_)
       have hLn := runW_next hL74 hq77 hb78
       exact ⟨k83, Nat.lt_succ_self _, [(0, av0), (4, v66), (3, (Value.int .i64 (IntKind.i64.wrap (x68 + 1)))), (5, (Value.int .i64 (IntKind.i64.wrap (x69 + 1))))], ⟨rfl, rfl, rfl, rfl, trivial⟩, ⟨IntKind.i64.wrap (x68 + 1), IntKind.i64.wrap (x69 + 1), x70.set x68.toNat y137, rfl, c84, hLn, h149⟩⟩
      have hb78 := ifF q130 hb78
      refine CW.skip ?_
      refine inB_n ?_
      refine thn_n (CW.region ?_)
      refine rl_move rfl rfl ?_
      refine rl_bin rfl rfl B.add rfl ?_
      refine rl_assign rfl rfl ?_
      refine RL.nil (thn_n ?_)
      have hLn := runW_next hL74 hq77 hb78
      exact ⟨k83, Nat.lt_succ_self _, [(0, av0), (4, v66), (3, (Value.int .i64 x68)), (5, (Value.int .i64 (IntKind.i64.wrap (x69 + 1))))], ⟨rfl, rfl, rfl, rfl, trivial⟩, ⟨x68, IntKind.i64.wrap (x69 + 1), x70, rfl, c84, hLn, h71⟩⟩
     have hb78 := ifF q87 hb78
     refine CW.exit ?_
     refine thn_exit ?_
     refine thn_exit ?_
     refine inB_hit ?_
     have hLf := runW_fin hL74 hq77 hb78
     exact ⟨x68, x69, x70, ⟨rfl, rfl, trivial⟩, c84, hLf, h71⟩
    rintro _ w152 ⟨x68, x69, x70, hE153, c151, f154, h71⟩
    have hb11 := finS f154 hb11
    refine thn_n (CW.sub [(0, av0), (3, (Value.int .i64 x68))] hE153 ?_)
    refine CW.seq (CW.region ?_)
    refine rl_move rfl rfl ?_
    refine rl_move rfl rfl ?_
    obtain ⟨y156, hy157, hb11⟩ := bindS hb11
    refine rl_cutS rfl h71 rfl hy157 Tryz.underlying36 Tryz.sizeOf47 rfl ?_
    intro v158 h159
    refine rl_clearO (z0 := Face.z) rfl h159 (slO_le hy157) Tryz.underlying36 Tryz.zeroValue47 h71 (show k_Face.rep (G F Bb (un (inBlk av0) S2)) w152 Face.z (Face.enc Face.z) from rfl) ?_
    intro w160 c161 h162
    have c151 := c151.then c161 (fun i hi h => (lin0_0 i h).elim (fun x => x) (fun x => absurd x (Nat.not_le_of_lt hi)))
    refine RL.nil (thn_n (CW.seq (CW.region ?_)))
    refine rl_move rfl rfl ?_
    refine rl_move rfl rfl ?_
    obtain ⟨y164, hy165, hb11⟩ := bindS hb11
    refine rl_cutO (kl := .i64) (kh := .i64) none (some x68) rfl h162 trivial rfl rfl hy165 Tryz.underlying36 Tryz.sizeOf47 rfl ?_
    intro v166 hb168 h167
    have lin169 : ∀ b, inBlk v166 b → (inBlk av0) b ∨ w.heap.size ≤ b := linApp lin0_0 (fun b h => .inl ((hb168 b).1 h)) c151.size
    have hS170 : (un (inBlk av0) S2) = (un (inBlk v166) S2) := by rw [show inBlk v166 = inBlk av0 from funext fun b => propext (hb168 b)]
    rw [hS170] at h167
    refine rl_assign rfl rfl ?_
    refine RL.nil (thn_n (CW.ret ?_))
    refine inB_ret ?_
    refine thn_ret ?_
    refine thn_ret (inB_ret (thn_ret ?_))
    refine thn_ret ?_
    have f171 := runW_ret hL7 hq10 hb11
    have hS := retS f171 hS
    obtain rfl := Option.some.inj hS
    exact ret1 rfl ⟨v166, rfl, h167, lin169, c151⟩
   have hb11 := ifF q63 hb11
   refine CW.skip ?_
   refine inB_n ?_
   refine thn_n (CW.region ?_)
   refine rl_move rfl rfl ?_
   refine rl_bin rfl rfl B.add rfl ?_
   refine rl_assign rfl rfl ?_
   refine RL.nil (thn_n ?_)
   have hLn := runW_next hL7 hq10 hb11
   exact ⟨k16, Nat.lt_succ_self _, [(0, av0), (3, (Value.int .i64 (IntKind.i64.wrap (x2 + 1))))], ⟨rfl, rfl, trivial⟩, ⟨IntKind.i64.wrap (x2 + 1), x3, rfl, c17, hLn, h4⟩⟩
  have hb11 := ifF q20 hb11
  refine CW.exit ?_
  refine thn_exit ?_
  refine thn_exit ?_
  refine inB_hit ?_
  have hLf := runW_fin hL7 hq10 hb11
  exact ⟨x2, x3, ⟨rfl, trivial⟩, c17, hLf, h4⟩
 rintro _ w173 ⟨x2, x3, hE174, c172, f175, h4⟩
 have hS := finS f175 hS
 refine thn_n (CW.sub [(0, av0)] hE174 ?_)
 refine CW.seq (CW.region ?_)
 refine rl_move rfl rfl ?_
 refine rl_assign rfl rfl ?_
 refine RL.nil (thn_n (CW.ret ?_))
 obtain rfl := Option.some.inj hS
 exact ret1 rfl ⟨av0, rfl, h4, lin0_0, c172⟩
/-- lb/face.Sort -/
theorem ctr46 (F : Nat → Prop) (w : World) (a0 : (List Face)) (av0 : Value) (ah0 : slRep k_Face F w a0 av0) (r : (List Face)) (hs : F46_Sort a0 = some r) :
    Ret Tryz.prog 46 #[av0] w fun v w' => ∃ (y0 : Value), v = y0 ∧ SlO k_Face 47 F w.heap.size (inBlk y0) w' r y0 ∧ Ch nb w w' := by
 have hS := hs
 have c0 : Ch nb w w := Ch.refl
 have ah0 := slRep.enter k_Face_pos ah0
 refine Ret.of (n := 10) (args := [_]) (rs := [.tmp 2]) Tryz.func46 rfl rfl rfl rfl ?_
 refine CW.seq (CW.region ?_)
 refine rl_assign rfl rfl ?_
 refine RL.nil (thn_n (CW.seq (CW.region ?_)))
 refine rl_move rfl rfl ?_
 obtain ⟨y3, hy4, hS⟩ := bindS hS
 refine rl_callF rfl en61 rfl (ctr61 (G F w.heap.size nb) w a0 av0 ah0 y3 hy4) ?_
 rintro v5 w1 ⟨_, rfl, h6, c2⟩
 have h6 := SlO.back (S' := un (inBlk v5) nb) h6 nbS c0.size (fun _ => Or.comm)
 have c0 := c0.then0 c2
 refine rl_assign rfl rfl ?_
 refine RL.nil (thn_n (CW.seq (CW.region ?_)))
 refine rl_move rfl rfl ?_
 have hd8 : ∀ b, (inBlk v5) b → ¬ nb b := fun b h => (fun b hb => fun h => h) b h
 have hS9 : (un (inBlk v5) nb) = (un (inBlk v5) nb) := rfl
 have ha10 := (show (Kd.fn2 Tryz.prog true true k_Face k_Face (Value.int .i64)).rep (G F w.heap.size (un (inBlk v5) nb)) w1 (fun x0 x1 => F63_Compare x0 x1) [(Value.func (.func 63) #[] [].toArray)] from ⟨63, [], rfl, en63, fun w' hw F' x0 x1 c0 c1 hx0 hx1 => by
     obtain rfl := hx0
     obtain rfl := hx1
     exact (ctr63 (fun b => (G F w.heap.size (un (inBlk v5) nb)) b ∨ F' b) w' x0 x1 _ rfl).mono (by rintro v w'' ⟨rfl, c⟩; exact ⟨rfl, c⟩)⟩)
 rw [hS9] at ha10
 obtain ⟨y13, hy14, hS⟩ := bindS hS
 refine rl_callF rfl en62 rfl (ctr62 F w1 w.heap.size nb c0.size nbS v5 hd8  y3 (hS9 ▸ h6) (fun x0 x1 => F63_Compare x0 x1) (Value.func (.func 63) #[] [].toArray) ha10 y13 hy14) ?_
 rintro _ w11 ⟨rfl, h15, c12⟩
 rw [← hS9] at h15
 have c0 := c0.then c12 (fun i hi h => absurd ((fun b hb => (h6.lt b hb).1) i h) (Nat.not_le_of_lt hi))
 refine RL.nil (thn_n (CW.seq (CW.region ?_)))
 refine rl_move rfl rfl ?_
 have hd17 : ∀ b, (inBlk v5) b → ¬ nb b := fun b h => (fun b hb => fun h => h) b h
 have hS18 : (un (inBlk v5) nb) = (un (inBlk v5) nb) := rfl
 obtain ⟨y21, hy22, hS⟩ := bindS hS
 refine rl_callF rfl en64 rfl (ctr64 F w11 w.heap.size nb c0.size nbS v5 hd17  y13 (hS18 ▸ h15) y21 hy22) ?_
 rintro v23 w19 ⟨_, rfl, h24, hf25, c20⟩
 have c0 := c0.then c20 (fun i hi h => absurd ((fun b hb => (h15.lt b hb).1) i h) (Nat.not_le_of_lt hi))
 refine rl_assign rfl rfl ?_
 refine RL.nil (thn_n (CW.ret ?_))
 obtain rfl := Option.some.inj hS
 exact ret1 rfl ⟨v23, rfl, h24.out, c0⟩
end Go.Proofs.YtgcneihmkkldeaaGreat
