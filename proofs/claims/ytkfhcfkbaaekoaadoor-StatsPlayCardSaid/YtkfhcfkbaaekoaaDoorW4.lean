/- The walks through the code: each call comes to its printed function. Written by a program of this session. -/
import Derived.Test.YtkfhcfkbaaekoaaDoorM
import Derived.Test.YtkfhcfkbaaekoaaDoorL
import Derived.Test.YtkfhcfkbaaekoaaDoorNI
import Derived.Test.YtkfhcfkbaaekoaaDoorW3
namespace Go.Proofs.YtkfhcfkbaaekoaaDoor
open Go K
set_option linter.unusedVariables false
theorem ctr20 (F : Nat → Prop) (w : World) (Bb : Nat) (S2 : Nat → Prop) (hB : Bb ≤ w.heap.size) (h2 : ∀ b, S2 b → b < w.heap.size) (po0 : Nat) (az0_0 : Value) (hd2 : ∀ b, (un (inBlk (PV po0)) (inBlk az0_0)) b → ¬ S2 b) (hx0_1 : ∀ b, inBlk (PV po0) b → ¬ inBlk az0_0 b) (a0 : Stats_2) (ah0 : Blk w po0 56 (Stats_2.c a0 az0_0)) (ah0_0 : SlO k_Told 97 F Bb (un (inBlk (PV po0)) (un (inBlk az0_0) S2)) w a0.all az0_0) (a1 : Int) (r : (List Service)) (hs : F20_Top a0 a1 = some r) :
    Ret Tryd.prog 20 #[(PV po0), (Value.int .i64 a1)] w fun v w' => ∃ (y0 : Value), v = y0 ∧ slRep k_Service (fun b => (G F Bb (un (inBlk (PV po0)) (un (inBlk az0_0) S2))) b ∨ w.heap.size ≤ b) w' r y0 ∧ Ch nb w w' := by
 have hS := hs
 have c0 : Ch nb w w := Ch.refl
 have lin0_0 : ∀ b, inBlk (PV po0) b → (un (inBlk (PV po0)) (inBlk az0_0)) b ∨ w.heap.size ≤ b := fun b h => .inl (.inl h)
 have lin1_0 : ∀ b, inBlk az0_0 b → (un (inBlk (PV po0)) (inBlk az0_0)) b ∨ w.heap.size ≤ b := fun b h => .inl (.inr h)
 refine Ret.of (n := 58) (args := [_, _]) (rs := [.tmp 4]) Tryd.func20 rfl rfl rfl rfl ?_
 refine CW.seq (CW.region ?_)
 refine rl_assign rfl rfl ?_
 refine RL.nil (thn_n (CW.seq (CW.region ?_)))
 refine rl_bslice (k := k_Service) (F := F) (B := Bb) (S := (un (inBlk (PV po0)) (un (inBlk az0_0) S2))) ([] : List Service) rfl k_Service_pos Tryd.underlying66 Tryd.sizeOf98 Tryd.zeroValue98 rfl rfl trivial (Nat.le_trans hB c0.size) (un_lt ah0.ltp (un_lt (fun b hb => (ah0_0.lt b hb).2) (fun b h => Nat.lt_of_lt_of_le (h2 b h) c0.size))) rfl ?_
 intro v1 w2 c3 hf4 h5
 have h5 := h5.readNew k_Service_pos hf4 (un_lt ah0.ltp (un_lt (fun b hb => (ah0_0.lt b hb).2) (fun b h => Nat.lt_of_lt_of_le (h2 b h) c0.size)))
 have ah0 := ah0.ch0 c3
 have ah0_0 := ah0_0.ch0 c3
 have c0 := c0.then0 c3
 refine rl_assign rfl rfl ?_
 refine RL.nil (thn_n (CW.seq ?_))
 refine CW.seq (CW.region ?_)
 refine rl_move rfl rfl ?_
 have hd6 : ∀ b, (un (inBlk (PV po0)) (inBlk az0_0)) b → ¬ S2 b := fun b h => un_el h (fun h => (fun b hb => linNot lin0_0 hd2 h2 b hb) b h) (fun h => (fun b hb => linNot lin1_0 hd2 h2 b hb) b h)
 have hS7 : (un (inBlk (PV po0)) (un (inBlk az0_0) S2)) = (un (inBlk (PV po0)) (un (inBlk az0_0) S2)) := rfl
 obtain ⟨y10, hy11, hS⟩ := bindS hS
 refine rl_callF rfl en19 rfl (ctr19 F w2 Bb S2 (Nat.le_trans hB c0.size) (fun b h => Nat.lt_of_lt_of_le (h2 b h) c0.size) po0 az0_0 hd6 hx0_1 a0 ah0 (hS7 ▸ ah0_0) y10 hy11) ?_
 rintro v12 w8 ⟨_, rfl, h13, c9⟩
 rw [← hS7] at h13
 have h13 := SlO.backR k_Service_pos h13 (un_lt ah0.ltp (un_lt (fun b hb => (ah0_0.lt b hb).2) (fun b h => Nat.lt_of_lt_of_le (h2 b h) c0.size))) (Nat.le_trans hB c0.size)
 have ah0 := ah0.ch0 c9
 have ah0_0 := ah0_0.ch0 c9
 have h5 := slRep.ch k_Service_pos h5 c9
 have c0 := c0.then0 c9
 refine rl_lenR rfl h13 Tryd.underlying66 rfl ?_
 refine rl_move rfl rfl ?_
 refine RL.nil (thn_n ?_)
 obtain ⟨o25, ho26, hS⟩ := bindS hS
 refine CW.cutB (fun E' w' => ∃ (x14 : (List Service)) (v15 : Value), Sub [(1, (Value.int .i64 a1)), (5, v15)] E' ∧ Ch nb w w' ∧ x14 = o25 ∧ Blk w' po0 56 (Stats_2.c a0 az0_0) ∧ SlO k_Told 97 F Bb (un (inBlk (PV po0)) (un (inBlk az0_0) S2)) w' a0.all az0_0 ∧ slRep k_Service (G F Bb (un (inBlk (PV po0)) (un (inBlk az0_0) S2))) w' y10 v12 ∧ slRep k_Service (G F Bb (un (inBlk (PV po0)) (un (inBlk az0_0) S2))) w' x14 v15 ∧ (∀ b, inBlk (PV po0) b → ¬ inBlk az0_0 b)) ?_ ?_
 ·
  refine CW.loopS [(1, (Value.int .i64 a1)), (11, v12), (12, (Value.int .i64 ((y10.length : Nat) : Int))), (5, v1), (13, (Value.int .i64 ((0 : Nat) : Int)))] ⟨rfl, rfl, rfl, rfl, rfl, trivial⟩ y10.length (fun m E w' => ∃ (rest18 : List Service) (i19 : Nat) (x14 : (List Service)) (v15 : Value), m = rest18.length ∧ E = [(1, (Value.int .i64 a1)), (11, v12), (12, (Value.int .i64 ((y10.length : Nat) : Int))), (5, v15), (13, (Value.int .i64 ((i19 : Nat) : Int)))] ∧ Ch nb w w' ∧ At y10 i19 rest18 ∧ runAO F20_Top_b1 rest18 x14 = some o25 ∧ Blk w' po0 56 (Stats_2.c a0 az0_0) ∧ SlO k_Told 97 F Bb (un (inBlk (PV po0)) (un (inBlk az0_0) S2)) w' a0.all az0_0 ∧ slRep k_Service (G F Bb (un (inBlk (PV po0)) (un (inBlk az0_0) S2))) w' y10 v12 ∧ slRep k_Service (G F Bb (un (inBlk (PV po0)) (un (inBlk az0_0) S2))) w' x14 v15 ∧ (∀ b, inBlk (PV po0) b → ¬ inBlk az0_0 b))
      ⟨y10, 0, [], v1, rfl, rfl, c0, At.start, ho26, ah0, ah0_0, h13, h5, hx0_1⟩ ?_
  rintro _ _ w31 ⟨rest18, i19, x14, v15, rfl, rfl, c30, hat21, hL20, ah0, ah0_0, h13, h16, d17⟩
  refine CW.seq (CW.region ?_)
  refine rl_bin rfl rfl B.lss rfl ?_
  refine RL.nil (thn_n ?_)
  refine CW.seq ?_
  refine CW.cond (t := decide (((i19 : Nat) : Int) < ((y10.length : Nat) : Int))) rfl (fun q33 => ?_) (fun q33 => ?_)
  ·
   obtain ⟨x27, rest34, rfl⟩ := hat21.cons q33
   obtain ⟨q22, hq23⟩ := runAO_some hL20
   have hb24 := hq23
   refine CW.skip (thn_n ?_)
   refine CW.seq ?_
   refine CW.block ?_
   refine CW.seq (CW.region ?_)
   refine rl_ixR rfl h13 rfl hat21.get Tryd.underlying66 Tryd.sizeOf98 rfl ?_
   intro p35 o36 cs37 hr38 hs39 hg40
   obtain rfl := hr38
   refine rl_loadA (cs := (Service.enc x27)) rfl Tryd.isAgg98 Tryd.sizeOf98 (hs39) rfl rfl ?_
   refine rl_alloc (Service.enc Service.z) Tryd.zeroValue98 rfl rfl ?_
   intro p41 w42 n43 k44
   have lo45 : ∀ b, inBlk (PV p41) b → w.heap.size ≤ b := fun b h => Nat.le_trans c30.size (n43.fresh b h)
   have d46 : ∀ b, inBlk (PV p41) b → ¬ inBlk (PV po0) b := disNew n43.fresh ah0.ltp
   have d47 : ∀ b, inBlk (PV p41) b → ¬ inBlk az0_0 b := disNew n43.fresh (fun b hb => (ah0_0.lt b hb).2)
   have ah0 := ah0.ch0 n43.ch
   have ah0_0 := ah0_0.st n43.ch (fun _ _ x => x) (admNew n43.fresh (fun _ x => x)) (fun b h => (.inr (.inr (.inl h))))
   have h13 := slRep.st k_Service_pos h13 n43.ch (admNew n43.fresh (fun _ x => x))
   have h16 := slRep.st k_Service_pos h16 n43.ch (admNew n43.fresh (fun _ x => x))
   have c30 := c30.then0 n43.ch
   refine rl_storeA (vs := (Service.enc x27)) rfl rfl (all_one rfl) Tryd.sizeOf98 rfl k44 rfl ?_
   intro w48 s50 c49 k51
   have ad52 : ∀ b, b < w42.heap.size → ¬ (un (inBlk (PV p41)) (un (inBlk (PV po0)) (un (inBlk az0_0) S2))) b → ¬ (inBlk (PV p41)) b ∧ ¬ (un (inBlk (PV p41)) (un (inBlk (PV po0)) (un (inBlk az0_0) S2))) b := fun b _ hs => ⟨fun h => hs (.inl h), hs⟩
   have ah0 := ah0.ch c49 ((fun b hb h => (disSym d46) b hb h) _ rfl)
   have ah0_0 := ah0_0.st c49 (fun b hb h => (disSym d47) b hb h) ad52 (fun b h => (.inr (.inr (.inl h))))
   have h13 := slRep.st k_Service_pos h13 c49 ad52
   have h16 := slRep.st k_Service_pos h16 c49 ad52
   have c30 := c30.then c49 (fun i hi h => absurd (lo45 i h) (Nat.not_le_of_lt hi))
   refine RL.nil (thn_n (CW.seq (CW.region ?_)))
   refine rl_move rfl rfl ?_
   refine rl_lenR rfl h16 Tryd.underlying66 rfl ?_
   refine rl_assign rfl rfl ?_
   refine RL.nil (thn_n (CW.seq ?_))
   obtain ⟨o64, ho65, hb24⟩ := bindS hb24
   refine CW.cutB (fun E' w' => ∃ (x53 : Int), Sub [(1, (Value.int .i64 a1)), (5, v15), (7, (PV p41)), (11, v12), (12, (Value.int .i64 ((y10.length : Nat) : Int))), (13, (Value.int .i64 ((i19 : Nat) : Int))), (8, (Value.int .i64 x53))] E' ∧ Ch nb w w' ∧ Lp.fin x53 = o64 ∧ Blk w' po0 56 (Stats_2.c a0 az0_0) ∧ SlO k_Told 97 F Bb (un (inBlk (PV p41)) (un (inBlk (PV po0)) (un (inBlk az0_0) S2))) w' a0.all az0_0 ∧ slRep k_Service (G F Bb (un (inBlk (PV p41)) (un (inBlk (PV po0)) (un (inBlk az0_0) S2)))) w' y10 v12 ∧ slRep k_Service (G F Bb (un (inBlk (PV p41)) (un (inBlk (PV po0)) (un (inBlk az0_0) S2)))) w' x14 v15 ∧ Blk w' p41 98 (Service.enc x27) ∧ (∀ b, inBlk (PV p41) b → ¬ inBlk (PV po0) b) ∧ (∀ b, inBlk (PV p41) b → ¬ inBlk az0_0 b) ∧ (∀ b, inBlk (PV po0) b → ¬ inBlk az0_0 b)) ?_ ?_
   ·
    refine CW.loopS [(1, (Value.int .i64 a1)), (5, v15), (7, (PV p41)), (11, v12), (12, (Value.int .i64 ((y10.length : Nat) : Int))), (13, (Value.int .i64 ((i19 : Nat) : Int))), (8, (Value.int .i64 ((x14.length : Nat) : Int)))] ⟨rfl, rfl, rfl, rfl, rfl, rfl, rfl, trivial⟩ FUEL (fun m E w' => ∃ (x53 : Int), E = [(1, (Value.int .i64 a1)), (5, v15), (7, (PV p41)), (11, v12), (12, (Value.int .i64 ((y10.length : Nat) : Int))), (13, (Value.int .i64 ((i19 : Nat) : Int))), (8, (Value.int .i64 x53))] ∧ Ch nb w w' ∧ runW (F20_Top_b2 x14 x27) m x53 = some o64 ∧ Blk w' po0 56 (Stats_2.c a0 az0_0) ∧ SlO k_Told 97 F Bb (un (inBlk (PV p41)) (un (inBlk (PV po0)) (un (inBlk az0_0) S2))) w' a0.all az0_0 ∧ slRep k_Service (G F Bb (un (inBlk (PV p41)) (un (inBlk (PV po0)) (un (inBlk az0_0) S2)))) w' y10 v12 ∧ slRep k_Service (G F Bb (un (inBlk (PV p41)) (un (inBlk (PV po0)) (un (inBlk az0_0) S2)))) w' x14 v15 ∧ Blk w' p41 98 (Service.enc x27) ∧ (∀ b, inBlk (PV p41) b → ¬ inBlk (PV po0) b) ∧ (∀ b, inBlk (PV p41) b → ¬ inBlk az0_0 b) ∧ (∀ b, inBlk (PV po0) b → ¬ inBlk az0_0 b))
        ⟨((x14.length : Nat) : Int), rfl, c30, ho65, ah0, ah0_0, h13, h16, k51, d46, d47, d17⟩ ?_
    rintro _ _ w70 ⟨x53, rfl, c69, hL59, ah0, ah0_0, h13, h16, k51, d54, d55, d56⟩
    obtain ⟨k68, q61, rfl, hq62⟩ := runW_some hL59
    have hb63 := hq62
    refine CW.seq ?_
    refine CW.seq ?_
    obtain ⟨b80, hb81, hb63⟩ := bindS hb63
    refine CW.cutN (fun E' w' => Sub [(1, (Value.int .i64 a1)), (5, v15), (7, (PV p41)), (8, (Value.int .i64 x53)), (11, v12), (12, (Value.int .i64 ((y10.length : Nat) : Int))), (13, (Value.int .i64 ((i19 : Nat) : Int))), (31, (Value.bool b80))] E' ∧ Ch nb w70 w') ?_ ?_
    ·
     rcases Bool.eq_false_or_eq_true (decide (x53 > 0)) with hg82 | hg82
     ·
      have hs83 := andO_t hg82 hb81
      obtain ⟨y78, hy79, hs83⟩ := bindS hs83
      refine CW.draw 13 [(none, fun fx O uu wx => uu = (Value.int .i64 x53)), (none, fun fx O uu wx => uu = (Value.bool (decide (x53 > 0)))), (none, fun fx O uu wx => uu = (Value.bool (decide (x53 > 0)))), (none, fun fx O uu wx => uu = v15), (none, fun fx O uu wx => uu = (Value.int .i64 x53)), (none, fun fx O uu wx => uu = (Value.int .i64 (IntKind.i64.wrap (x53 - 1)))), (none, fun fx O uu wx => ∃ (p72 : Nat) (o73 : Nat), uu = (Value.pointer (some ⟨p72, o73, none⟩)) ∧ (G F Bb (un (inBlk (PV p41)) (un (inBlk (PV po0)) (un (inBlk az0_0) S2)))) p72 ∧ Seg wx p72 o73 (Service.enc y78)), (none, fun fx O uu wx => ∃ (p72_7 : Nat) (o73_7 : Nat), uu = (Value.pointer (some ⟨p72_7, o73_7 + 2, none⟩)) ∧ Seg wx p72_7 o73_7 (Service.enc y78) ∧ (G F Bb (un (inBlk (PV p41)) (un (inBlk (PV po0)) (un (inBlk az0_0) S2)))) p72_7), (none, fun fx O uu wx => uu = (Value.int .i64 y78.begun)), (none, fun fx O uu wx => uu = (Value.pointer (some ⟨p41, 2, none⟩))), (none, fun fx O uu wx => uu = (Value.int .i64 x27.begun)), (none, fun fx O uu wx => uu = (Value.bool (decide (y78.begun < x27.begun)))), (none, fun fx O uu wx => uu = (Value.bool b80))] [[], [0], [1], [2], [2], [2, 4], [2, 3, 5], [2, 6], [2, 7], [2], [2, 9], [2, 8, 10], [2, 11]] [12] nb (fun _ h => h.elim) mixed rfl rfl rfl rfl ?_ ?_
      ·
       refine Each.consS (fun fl O wk hE hN hO ck => ?_) ?_
       ·
        refine rl_move rfl rfl ?_
        exact RL.nil ⟨_, rfl, Ch.refl, rfl⟩
       refine Each.consS (fun fl O wk hE hN hO ck => ?_) ?_
       ·
        refine Need.o1 rfl rfl rfl (fun _ h => h) ?_
        refine rl_bin rfl rfl B.gtr rfl ?_
        exact RL.nil ⟨_, rfl, Ch.refl, rfl⟩
       refine Each.consS (fun fl O wk hE hN hO ck => ?_) ?_
       ·
        refine Need.o1 rfl rfl rfl (fun _ h => h) ?_
        refine rl_move rfl rfl ?_
        exact RL.nil ⟨_, rfl, Ch.refl, rfl⟩
       refine Each.consS (fun fl O wk hE hN hO ck => ?_) ?_
       ·
        refine Need.o1 rfl rfl rfl (fun _ h => h) ?_
        refine RL.yes rfl rfl rfl hg82 ?_
        refine rl_move rfl rfl ?_
        exact RL.nil ⟨_, rfl, Ch.refl, rfl⟩
       refine Each.consS (fun fl O wk hE hN hO ck => ?_) ?_
       ·
        refine Need.o1 rfl rfl rfl (fun _ h => h) ?_
        refine RL.yes rfl rfl rfl hg82 ?_
        refine rl_move rfl rfl ?_
        exact RL.nil ⟨_, rfl, Ch.refl, rfl⟩
       refine Each.consS (fun fl O wk hE hN hO ck => ?_) ?_
       ·
        refine Need.o1 rfl rfl rfl (fun _ h => h) ?_
        refine Need.o1 rfl rfl rfl (fun _ h => h) ?_
        refine RL.yes rfl rfl rfl hg82 ?_
        refine rl_bin rfl rfl B.sub rfl ?_
        exact RL.nil ⟨_, rfl, Ch.refl, rfl⟩
       refine Each.consA ⟨fun _ _ _ _ _ cc hh => by obtain ⟨p72, o73, e, hg77, hs76⟩ := hh; exact ⟨p72, o73, e, hg77, hs76.ch0 cc⟩, fun h => absurd rfl h, fun fl O wk hE hN hO ck => ?_⟩ ?_
       ·
        have h16 := slRep.ch k_Service_pos h16 ck
        refine Need.o1 rfl rfl rfl (fun _ h => h) ?_
        refine Need.o1 rfl rfl rfl (fun _ h => h) ?_
        refine Need.o1 rfl rfl rfl (fun _ h => h) ?_
        refine RL.yes rfl rfl rfl hg82 ?_
        refine rl_ixI rfl h16 rfl (ixO_get hy79) Tryd.underlying66 Tryd.sizeOf98 rfl ?_
        intro p93 o94 cs95 hr96 hs97 hg98
        obtain rfl := hr96
        exact RL.nil ⟨_, rfl, Ch.refl, ⟨p93, o94, rfl, hg98, hs97⟩⟩
       refine Each.consA ⟨fun _ _ _ _ _ cc hh => by obtain ⟨p72_7, o73_7, e, hs76_7, hg77_7⟩ := hh; exact ⟨p72_7, o73_7, e, hs76_7.ch0 cc, hg77_7⟩, fun h => absurd rfl h, fun fl O wk hE hN hO ck => ?_⟩ ?_
       ·
        refine Need.o1 rfl rfl rfl (fun _ h => h) ?_
        refine Need.one rfl rfl rfl ?_
        rintro _ ⟨p72, o73, e100, hg77, hs76⟩
        obtain rfl := e100.symm
        refine RL.yes rfl rfl rfl hg82 ?_
        refine rl_fieldAddr rfl fa98_1 rfl ?_
        exact RL.nil ⟨_, rfl, Ch.refl, ⟨p72, o73, rfl, hs76, hg77⟩⟩
       refine Each.consS (fun fl O wk hE hN hO ck => ?_) ?_
       ·
        refine Need.o1 rfl rfl rfl (fun _ h => h) ?_
        refine Need.one rfl rfl rfl ?_
        rintro _ ⟨p72_7, o73_7, e102, hs76_7, hg77_7⟩
        obtain rfl := e102.symm
        refine RL.yes rfl rfl rfl hg82 ?_
        refine rl_loadS (v := (Value.int .i64 y78.begun)) rfl Tryd.isAgg3 (hs76_7 2 _ rfl) rfl ?_
        exact RL.nil ⟨_, rfl, Ch.refl, rfl⟩
       refine Each.consS (fun fl O wk hE hN hO ck => ?_) ?_
       ·
        refine Need.o1 rfl rfl rfl (fun _ h => h) ?_
        refine RL.yes rfl rfl rfl hg82 ?_
        refine rl_fieldAddr rfl fa98_1 rfl ?_
        exact RL.nil ⟨_, rfl, Ch.refl, rfl⟩
       refine Each.consS (fun fl O wk hE hN hO ck => ?_) ?_
       ·
        have k51 := k51.ch0 ck
        refine Need.o1 rfl rfl rfl (fun _ h => h) ?_
        refine Need.o1 rfl rfl rfl (fun _ h => h) ?_
        refine RL.yes rfl rfl rfl hg82 ?_
        refine rl_loadS (v := (Value.int .i64 x27.begun)) rfl Tryd.isAgg3 (k51.cell rfl) rfl ?_
        exact RL.nil ⟨_, rfl, Ch.refl, rfl⟩
       refine Each.consS (fun fl O wk hE hN hO ck => ?_) ?_
       ·
        refine Need.o1 rfl rfl rfl (fun _ h => h) ?_
        refine Need.o1 rfl rfl rfl (fun _ h => h) ?_
        refine Need.o1 rfl rfl rfl (fun _ h => h) ?_
        refine RL.yes rfl rfl rfl hg82 ?_
        refine rl_bin rfl rfl B.lss rfl ?_
        exact RL.nil ⟨_, rfl, Ch.refl, rfl⟩
       refine Each.consS (fun fl O wk hE hN hO ck => ?_) ?_
       ·
        refine Need.o1 rfl rfl rfl (fun _ h => h) ?_
        refine Need.o1 rfl rfl rfl (fun _ h => h) ?_
        refine rl_pickT rfl hg82 rfl rfl ?_
        exact RL.nil ⟨_, rfl, Ch.refl, congrArg Value.bool (Option.some.inj hs83)⟩
       trivial
      intro hvO113 OpO113 O113 w111 hO114 c112 hN115
      refine Need.o1 rfl rfl rfl (fun _ h => h) ?_
      exact RL.nil ⟨rfl, ⟨rfl, rfl, rfl, rfl, rfl, rfl, rfl, rfl, trivial⟩, c112⟩
     have hs117 := andO_f hg82 hb81
     refine CW.draw 13 [(none, fun fx O uu wx => uu = (Value.int .i64 x53)), (none, fun fx O uu wx => uu = (Value.bool (decide (x53 > 0)))), (none, fun fx O uu wx => uu = (Value.bool (decide (x53 > 0)))), (none, fun _ O uu wx => uu = undef), (none, fun _ O uu wx => uu = undef), (none, fun _ O uu wx => uu = undef), (none, fun _ O uu wx => uu = undef), (none, fun _ O uu wx => uu = undef), (none, fun _ O uu wx => uu = undef), (none, fun _ O uu wx => uu = undef), (none, fun _ O uu wx => uu = undef), (none, fun _ O uu wx => uu = undef), (none, fun fx O uu wx => uu = (Value.bool b80))] [[], [0], [1], [2], [2], [2], [2], [2], [2], [2], [2], [2], [2]] [12] nb (fun _ h => h.elim) mixed rfl rfl rfl rfl ?_ ?_
     ·
      refine Each.consS (fun fl O wk hE hN hO ck => ?_) ?_
      ·
       refine rl_move rfl rfl ?_
       exact RL.nil ⟨_, rfl, Ch.refl, rfl⟩
      refine Each.consS (fun fl O wk hE hN hO ck => ?_) ?_
      ·
       refine Need.o1 rfl rfl rfl (fun _ h => h) ?_
       refine rl_bin rfl rfl B.gtr rfl ?_
       exact RL.nil ⟨_, rfl, Ch.refl, rfl⟩
      refine Each.consS (fun fl O wk hE hN hO ck => ?_) ?_
      ·
       refine Need.o1 rfl rfl rfl (fun _ h => h) ?_
       refine rl_move rfl rfl ?_
       exact RL.nil ⟨_, rfl, Ch.refl, rfl⟩
      refine Each.consS (fun fl O wk hE hN hO ck => ?_) ?_
      ·
       refine Need.o1 rfl rfl rfl (fun _ h => h) ?_
       refine RL.no rfl rfl rfl hg82 rfl rfl ?_
       exact RL.nil ⟨_, rfl, Ch.refl, rfl⟩
      refine Each.consS (fun fl O wk hE hN hO ck => ?_) ?_
      ·
       refine Need.o1 rfl rfl rfl (fun _ h => h) ?_
       refine RL.no rfl rfl rfl hg82 rfl rfl ?_
       exact RL.nil ⟨_, rfl, Ch.refl, rfl⟩
      refine Each.consS (fun fl O wk hE hN hO ck => ?_) ?_
      ·
       refine Need.o1 rfl rfl rfl (fun _ h => h) ?_
       refine RL.no rfl rfl rfl hg82 rfl rfl ?_
       exact RL.nil ⟨_, rfl, Ch.refl, rfl⟩
      refine Each.consS (fun fl O wk hE hN hO ck => ?_) ?_
      ·
       refine Need.o1 rfl rfl rfl (fun _ h => h) ?_
       refine RL.no rfl rfl rfl hg82 rfl rfl ?_
       exact RL.nil ⟨_, rfl, Ch.refl, rfl⟩
      refine Each.consS (fun fl O wk hE hN hO ck => ?_) ?_
      ·
       refine Need.o1 rfl rfl rfl (fun _ h => h) ?_
       refine RL.no rfl rfl rfl hg82 rfl rfl ?_
       exact RL.nil ⟨_, rfl, Ch.refl, rfl⟩
      refine Each.consS (fun fl O wk hE hN hO ck => ?_) ?_
      ·
       refine Need.o1 rfl rfl rfl (fun _ h => h) ?_
       refine RL.no rfl rfl rfl hg82 rfl rfl ?_
       exact RL.nil ⟨_, rfl, Ch.refl, rfl⟩
      refine Each.consS (fun fl O wk hE hN hO ck => ?_) ?_
      ·
       refine Need.o1 rfl rfl rfl (fun _ h => h) ?_
       refine RL.no rfl rfl rfl hg82 rfl rfl ?_
       exact RL.nil ⟨_, rfl, Ch.refl, rfl⟩
      refine Each.consS (fun fl O wk hE hN hO ck => ?_) ?_
      ·
       refine Need.o1 rfl rfl rfl (fun _ h => h) ?_
       refine RL.no rfl rfl rfl hg82 rfl rfl ?_
       exact RL.nil ⟨_, rfl, Ch.refl, rfl⟩
      refine Each.consS (fun fl O wk hE hN hO ck => ?_) ?_
      ·
       refine Need.o1 rfl rfl rfl (fun _ h => h) ?_
       refine RL.no rfl rfl rfl hg82 rfl rfl ?_
       exact RL.nil ⟨_, rfl, Ch.refl, rfl⟩
      refine Each.consS (fun fl O wk hE hN hO ck => ?_) ?_
      ·
       refine Need.o1 rfl rfl rfl (fun _ h => h) ?_
       refine rl_pickF rfl hg82 rfl rfl ?_
       exact RL.nil ⟨_, rfl, Ch.refl, congrArg Value.bool (Option.some.inj hs117)⟩
      trivial
     intro hvO132 OpO132 O132 w130 hO133 c131 hN134
     refine Need.o1 rfl rfl rfl (fun _ h => h) ?_
     exact RL.nil ⟨rfl, ⟨rfl, rfl, rfl, rfl, rfl, rfl, rfl, rfl, trivial⟩, c131⟩
    rintro _ w137 ⟨hE136, c138⟩
    have ah0 := ah0.ch0 c138
    have ah0_0 := ah0_0.ch0 c138
    have h13 := slRep.ch k_Service_pos h13 c138
    have h16 := slRep.ch k_Service_pos h16 c138
    have k51 := k51.ch0 c138
    have c69 := c69.then0 c138
    refine thn_n (CW.sub [(1, (Value.int .i64 a1)), (5, v15), (7, (PV p41)), (8, (Value.int .i64 x53)), (11, v12), (12, (Value.int .i64 ((y10.length : Nat) : Int))), (13, (Value.int .i64 ((i19 : Nat) : Int))), (31, (Value.bool b80))] hE136 ?_)
    refine CW.cond (t := b80) rfl (fun q139 => ?_) (fun q139 => ?_)
    ·
     have hb63 := ifT q139 hb63
     refine CW.skip ?_
     refine thn_n (CW.block ?_)
     refine CW.region ?_
     refine rl_move rfl rfl ?_
     refine rl_bin rfl rfl B.sub rfl ?_
     refine rl_assign rfl rfl ?_
     refine RL.nil ?_
     refine inB_n ?_
     refine thn_n ?_
     have hLn := runW_next hL59 hq62 hb63
     exact ⟨k68, Nat.lt_succ_self _, [(1, (Value.int .i64 a1)), (5, v15), (7, (PV p41)), (11, v12), (12, (Value.int .i64 ((y10.length : Nat) : Int))), (13, (Value.int .i64 ((i19 : Nat) : Int))), (8, (Value.int .i64 (IntKind.i64.wrap (x53 - 1))))], ⟨rfl, rfl, rfl, rfl, rfl, rfl, rfl, trivial⟩, ⟨IntKind.i64.wrap (x53 - 1), rfl, c69, hLn, ah0, ah0_0, h13, h16, k51, d54, d55, d56⟩⟩
    have hb63 := ifF q139 hb63
    refine CW.exit ?_
    refine thn_exit ?_
    refine thn_exit ?_
    refine inB_hit ?_
    have hLf := runW_fin hL59 hq62 hb63
    exact ⟨x53, ⟨rfl, rfl, rfl, rfl, rfl, rfl, rfl, trivial⟩, c69, hLf, ah0, ah0_0, h13, h16, k51, d54, d55, d56⟩
   rintro _ w141 ⟨x53, hE142, c140, f143, ah0, ah0_0, h13, h16, k51, d54, d55, d56⟩
   have hb24 := finS f143 hb24
   refine thn_n (CW.sub [(1, (Value.int .i64 a1)), (5, v15), (7, (PV p41)), (11, v12), (12, (Value.int .i64 ((y10.length : Nat) : Int))), (13, (Value.int .i64 ((i19 : Nat) : Int))), (8, (Value.int .i64 x53))] hE142 ?_)
   obtain ⟨y154, hy155, hb24⟩ := bindS hb24
   obtain ⟨z166, hz167, hb24⟩ := bindS hb24
   obtain ⟨z185, hz186, hb24⟩ := bindS hb24
   obtain ⟨y191, hy192, hb24⟩ := bindS hb24
   obtain ⟨z203, hz204, hb24⟩ := bindS hb24
   refine CW.draw 11 [(some false, fun _ O uu wx => ∃ (v145 : Value), uu = v145 ∧ O = (inBlk v145) ∧ SlO k_Service 98 F Bb (un (inBlk v145) (un (inBlk (PV p41)) (un (inBlk (PV po0)) (un (inBlk az0_0) S2)))) wx [] v145), (none, fun fx O uu wx => uu = v15), (none, fun fx O uu wx => uu = (Value.int .i64 x53)), (none, fun fx O uu wx => ∃ (v156 : Value), uu = v156 ∧ slRep k_Service (G F Bb (un O (un (inBlk (PV p41)) (un (inBlk (PV po0)) (un (inBlk az0_0) S2))))) wx y154 v156), (some true, fun hv O uu wx => ∃ (v160 : Value) (v145 : Value), hv = [v145, v160] ∧ uu = v160 ∧ O = (inBlk v160) ∧ SlO k_Service 98 F Bb (un (inBlk v160) (un (inBlk (PV p41)) (un (inBlk (PV po0)) (un (inBlk az0_0) S2)))) wx ([] ++ y154) v160), (none, fun fx O uu wx => uu = (Value.agg (Service.enc x27).toArray)), (none, fun fx O uu wx => ∃ (v172 : Value), uu = v172 ∧ slRep k_Service (G F Bb (un O (un (inBlk (PV p41)) (un (inBlk (PV po0)) (un (inBlk az0_0) S2))))) wx [x27] v172), (some true, fun hv O uu wx => ∃ (v179 : Value) (v145 : Value) (v160 : Value), hv = [v145, v160, v179] ∧ uu = v179 ∧ O = (inBlk v179) ∧ SlO k_Service 98 F Bb (un (inBlk v179) (un (inBlk (PV p41)) (un (inBlk (PV po0)) (un (inBlk az0_0) S2)))) wx (([] ++ y154) ++ [x27]) v179), (none, fun fx O uu wx => uu = v15), (none, fun fx O uu wx => uu = (Value.int .i64 x53)), (none, fun fx O uu wx => ∃ (v193 : Value), uu = v193 ∧ slRep k_Service (G F Bb (un O (un (inBlk (PV p41)) (un (inBlk (PV po0)) (un (inBlk az0_0) S2))))) wx y191 v193)] [[], [], [], [1, 2], [0, 3], [], [5], [4, 6], [], [], [8, 9]] [7, 10] nb (fun _ h => h.elim) mixed rfl rfl rfl rfl ?_ ?_
   ·
    refine Each.consP ⟨fun _ O _ wx wy cc hh => by obtain ⟨v145, e, rfl, ck0_0⟩ := hh; exact ⟨v145, e, rfl, ck0_0.ch0 cc⟩, fun O wk hO ck => ?_⟩ ?_
    ·
     have ha212 : ∀ b, b < w141.heap.size → ¬ (un (inBlk (PV p41)) (un (inBlk (PV po0)) (un (inBlk az0_0) S2))) b → ¬ nb b ∧ ¬ (un O (un (inBlk (PV p41)) (un (inBlk (PV po0)) (un (inBlk az0_0) S2)))) b := fun b hb hs => ⟨fun h => h, fun h => un_el h (fun ho => (hO b ho).1.elim (fun h => h.elim) (fun h => Nat.not_le_of_lt hb h)) (fun h => un_el h (fun h => hs (.inl h)) (fun h => un_el h (fun h => hs (.inr (.inl h))) (fun h => un_el h (fun h => hs (.inr (.inr (.inl h)))) (fun h => hs (.inr (.inr (.inr h)))))))⟩
     have ah0 := ah0.ch0 ck
     have ah0_0 := ah0_0.st ck (fun _ _ x => x) ha212 (fun b h => (.inr (.inr (.inr (.inl h)))))
     have k51 := k51.ch0 ck
     have c140 := c140.then0 ck
     refine rl_bslice (k := k_Service) (F := F) (B := Bb) (S := (un O (un (inBlk (PV p41)) (un (inBlk (PV po0)) (un (inBlk az0_0) S2))))) ([] : List Service) rfl k_Service_pos Tryd.underlying66 Tryd.sizeOf98 Tryd.zeroValue98 rfl rfl trivial (Nat.le_trans hB c140.size) (un_lt (fun b h => (hO b h).2) (un_lt k51.ltp (un_lt ah0.ltp (un_lt (fun b hb => (ah0_0.lt b hb).2) (fun b h => Nat.lt_of_lt_of_le (h2 b h) c140.size))))) rfl ?_
     intro v213 w214 c215 hf216 h217
     have hb223 : ∀ b, (inBlk v213) b → wk.heap.size ≤ b ∧ b < w214.heap.size := fun b h => ⟨hf216 b h, (fun b hb => (h217.lt b hb).2) b h⟩
     have h224 := SlO.reS (S' := (un (inBlk v213) (un (inBlk (PV p41)) (un (inBlk (PV po0)) (un (inBlk az0_0) S2))))) (fun h => h) h217 (fun b h => .inl h)
     exact RL.nil ⟨_, (inBlk v213), rfl, hb223, c215, ⟨v213, rfl, rfl, h224⟩⟩
    refine Each.consS (fun fl O wk hE hN hO ck => ?_) ?_
    ·
     refine rl_move rfl rfl ?_
     exact RL.nil ⟨_, rfl, Ch.refl, rfl⟩
    refine Each.consS (fun fl O wk hE hN hO ck => ?_) ?_
    ·
     refine rl_move rfl rfl ?_
     exact RL.nil ⟨_, rfl, Ch.refl, rfl⟩
    refine Each.consA ⟨fun _ _ _ _ _ cc hh => by obtain ⟨v156, e, h157⟩ := hh; exact ⟨v156, e, slRep.ch k_Service_pos h157 cc⟩, fun _ _ h' O O' D _ wx wy hfl hD hO' cc hh => by obtain ⟨v156, e, h157⟩ := hh; have ad := admGh (S := (un (inBlk (PV p41)) (un (inBlk (PV po0)) (un (inBlk az0_0) S2)))) hD hO'; exact ⟨v156, e, slRep.st k_Service_pos h157 cc ad⟩, fun fl O wk hE hN hO ck => ?_⟩ ?_
    ·
     have ha236 : ∀ b, b < w141.heap.size → ¬ (un (inBlk (PV p41)) (un (inBlk (PV po0)) (un (inBlk az0_0) S2))) b → ¬ nb b ∧ ¬ (un O (un (inBlk (PV p41)) (un (inBlk (PV po0)) (un (inBlk az0_0) S2)))) b := fun b hb hs => ⟨fun h => h.elim, fun h => un_el h (fun ho => (hO b ho).1.elim (fun h => h.elim) (fun h => Nat.not_le_of_lt hb h)) (fun h => un_el h (fun h => hs (.inl h)) (fun h => un_el h (fun h => hs (.inr (.inl h))) (fun h => un_el h (fun h => hs (.inr (.inr (.inl h)))) (fun h => hs (.inr (.inr (.inr h)))))))⟩
     have h16 := slRep.st k_Service_pos h16 ck ha236
     refine Need.o1 rfl rfl rfl (fun _ h => h) ?_
     refine Need.o1 rfl rfl rfl (fun _ h => h) ?_
     refine rl_cutR (kl := .i64) (kh := .i64) none (some x53) rfl h16 k_Service_pos trivial rfl hy155 Tryd.underlying66 Tryd.sizeOf98 rfl ?_
     intro v239 h240
     exact RL.nil ⟨_, rfl, Ch.refl, ⟨v239, rfl, h240⟩⟩
    refine Each.consO ⟨fun _ O _ wx wy cc hh => by obtain ⟨v160, v145, eh, e, rfl, ck4_0⟩ := hh; exact ⟨v160, v145, eh, e, rfl, ck4_0.ch0 cc⟩, fun hv Op O wk hO ck hO0 => ?_⟩ ?_
    ·
     obtain ⟨hl, hBg⟩ := hO0 rfl
     refine Need.made rfl rfl rfl rfl ?_
     rintro _ ⟨v145, e241, eO242, ck0_0⟩ hh243
     obtain rfl := e241.symm
     have io244 : ∀ b, inBlk v145 b → _ := fun b h => (Eq.mpr (congrFun eO242 b) h)
     have hf245 : ∀ b, inBlk v145 b → w141.heap.size ≤ b := fun b h => (hBg.2.2.1 _ b (io244 b h)).1
     obtain rfl := hist_eq [v145] hv hl ⟨hh243, trivial⟩
     have ad250 : ∀ b, b < w141.heap.size → ¬ (un (inBlk (PV p41)) (un (inBlk (PV po0)) (un (inBlk az0_0) S2))) b → ¬ nb b ∧ ¬ (un (inBlk v145) (un (inBlk (PV p41)) (un (inBlk (PV po0)) (un (inBlk az0_0) S2)))) b := fun b hb hs => ⟨fun x => x, fun h => un_el h (fun h => Nat.not_le_of_lt hb (hf245 b h)) (fun h => hs h)⟩
     have ah0 := ah0.ch0 hBg.2.1
     have ah0_0 := ah0_0.st hBg.2.1 (fun _ _ x => x) ad250 (fun b h => (.inr (.inr (.inr (.inl h)))))
     have k51 := k51.ch0 hBg.2.1
     have c140 := c140.then0 hBg.2.1
     have ck0_0 := SlO.reS (S' := (un (inBlk v145) (un (inBlk (PV p41)) (un (inBlk (PV po0)) (un (inBlk az0_0) S2))))) (fun h => h) ck0_0 (fun b h => (.inl h))
     refine Need.one rfl rfl rfl ?_
     rintro _ ⟨v156, e251, h157⟩
     obtain rfl := e251.symm
     have h157 := slRep.wk (F' := (G F Bb (un (inBlk v145) (un (inBlk (PV p41)) (un (inBlk (PV po0)) (un (inBlk az0_0) S2)))))) k_Service_pos h157 (fun b _ hf => ⟨hf.1, fun h => hf.2 (un_el h (fun h => (.inl ((hBg.1 b).2 (.inr ⟨_, inPre rfl, io244 b h⟩)))) (fun h => un_el h (fun h => (.inr (.inl h))) (fun h => un_el h (fun h => (.inr (.inr (.inl h)))) (fun h => un_el h (fun h => (.inr (.inr (.inr (.inl h))))) (fun h => (.inr (.inr (.inr (.inr h)))))))))⟩)
     have hl := (apO_get hz167).1
     refine rl_append (k := k_Service) (T := 98) (F := F) (B := Bb) (S := (un (inBlk v145) (un (inBlk (PV p41)) (un (inBlk (PV po0)) (un (inBlk az0_0) S2))))) (S2 := (un (inBlk (PV p41)) (un (inBlk (PV po0)) (un (inBlk az0_0) S2)))) (fun v => (un (inBlk v) (un (inBlk (PV p41)) (un (inBlk (PV po0)) (un (inBlk az0_0) S2))))) rfl rfl k_Service_pos ap66 ck0_0 h157 (fun _ => Iff.rfl) (fun _ _ => Iff.rfl) hl (Nat.le_trans hB c140.size) (un_lt (fun b hb => (ck0_0.lt b hb).2) (un_lt k51.ltp (un_lt ah0.ltp (un_lt (fun b hb => (ah0_0.lt b hb).2) (fun b h => Nat.lt_of_lt_of_le (h2 b h) c140.size))))) rfl ?_
     intro v254 w255 h256 c257 hf258 ha259
     have hb264 : ∀ b, (inBlk v254) b → (O b ∨ wk.heap.size ≤ b) ∧ b < w255.heap.size := fun b h => ⟨(hf258 b h).elim (fun h => .inl (((hBg.1 b).2 (.inr ⟨_, inPre rfl, io244 b h⟩)))) (fun h => .inr (Nat.le_trans (Nat.le_refl _) h)), (fun b hb => (h256.lt b hb).2) b h⟩
     exact RL.nil ⟨_, (inBlk v254), rfl, hb264, (c257.mono (fun b _ h => ((hBg.1 b).2 (.inr ⟨_, inPre rfl, io244 b h⟩)))), ⟨v254, v145, rfl, rfl, rfl, h256⟩⟩
    refine Each.consS (fun fl O wk hE hN hO ck => ?_) ?_
    ·
     have k51 := k51.ch0 ck
     refine rl_loadA (cs := (Service.enc x27)) rfl Tryd.isAgg98 Tryd.sizeOf98 (k51.segAt 0 6) rfl rfl ?_
     exact RL.nil ⟨_, rfl, Ch.refl, rfl⟩
    refine Each.consA ⟨fun _ _ _ _ _ cc hh => by obtain ⟨v172, e, h176⟩ := hh; exact ⟨v172, e, slRep.ch k_Service_pos h176 cc⟩, fun _ _ h' O O' D _ wx wy hfl hD hO' cc hh => by obtain ⟨v172, e, h176⟩ := hh; have ad := admGh (S := (un (inBlk (PV p41)) (un (inBlk (PV po0)) (un (inBlk az0_0) S2)))) hD hO'; exact ⟨v172, e, slRep.st k_Service_pos h176 cc ad⟩, fun fl O wk hE hN hO ck => ?_⟩ ?_
    ·
     have ha272 : ∀ b, b < w141.heap.size → ¬ (un (inBlk (PV p41)) (un (inBlk (PV po0)) (un (inBlk az0_0) S2))) b → ¬ nb b ∧ ¬ (un O (un (inBlk (PV p41)) (un (inBlk (PV po0)) (un (inBlk az0_0) S2)))) b := fun b hb hs => ⟨fun h => h.elim, fun h => un_el h (fun ho => (hO b ho).1.elim (fun h => h.elim) (fun h => Nat.not_le_of_lt hb h)) (fun h => un_el h (fun h => hs (.inl h)) (fun h => un_el h (fun h => hs (.inr (.inl h))) (fun h => un_el h (fun h => hs (.inr (.inr (.inl h)))) (fun h => hs (.inr (.inr (.inr h)))))))⟩
     have ah0 := ah0.ch0 ck
     have ah0_0 := ah0_0.st ck (fun _ _ x => x) ha272 (fun b h => (.inr (.inr (.inr (.inl h)))))
     have k51 := k51.ch0 ck
     have c140 := c140.then0 ck
     refine Need.o1 rfl rfl rfl (fun _ h => h) ?_
     refine rl_bslice (k := k_Service) (F := F) (B := Bb) (S := (un O (un (inBlk (PV p41)) (un (inBlk (PV po0)) (un (inBlk az0_0) S2))))) ([x27] : List Service) rfl k_Service_pos Tryd.underlying66 Tryd.sizeOf98 Tryd.zeroValue98 rfl rfl ⟨rfl, rfl, trivial⟩ (Nat.le_trans hB c140.size) (un_lt (fun b h => (hO b h).2) (un_lt k51.ltp (un_lt ah0.ltp (un_lt (fun b hb => (ah0_0.lt b hb).2) (fun b h => Nat.lt_of_lt_of_le (h2 b h) c140.size))))) rfl ?_
     intro v274 w275 c276 hf277 h278
     have h278 := h278.readNew k_Service_pos hf277 (un_lt (fun b h => (hO b h).2) (un_lt k51.ltp (un_lt ah0.ltp (un_lt (fun b hb => (ah0_0.lt b hb).2) (fun b h => Nat.lt_of_lt_of_le (h2 b h) c140.size)))))
     exact RL.nil ⟨_, rfl, c276, ⟨v274, rfl, h278⟩⟩
    refine Each.consO ⟨fun _ O _ wx wy cc hh => by obtain ⟨v179, v145, v160, eh, e, rfl, ck7_0⟩ := hh; exact ⟨v179, v145, v160, eh, e, rfl, ck7_0.ch0 cc⟩, fun hv Op O wk hO ck hO0 => ?_⟩ ?_
    ·
     refine Need.here rfl rfl rfl rfl ?_
     rintro _ ⟨v160, v145, rfl, e282, rfl, ck4_0⟩
     obtain rfl := e282.symm
     have ha287 : ∀ b, b < w141.heap.size → ¬ (un (inBlk (PV p41)) (un (inBlk (PV po0)) (un (inBlk az0_0) S2))) b → ¬ nb b ∧ ¬ (un (inBlk v160) (un (inBlk (PV p41)) (un (inBlk (PV po0)) (un (inBlk az0_0) S2)))) b := fun b hb hs => ⟨fun h => h.elim, fun h => un_el h (fun h => (hO b h).1.elim (fun h => h.elim) (fun h => Nat.not_le_of_lt hb h)) (fun h => un_el h (fun h => hs (.inl h)) (fun h => un_el h (fun h => hs (.inr (.inl h))) (fun h => un_el h (fun h => hs (.inr (.inr (.inl h)))) (fun h => hs (.inr (.inr (.inr h)))))))⟩
     have ah0 := ah0.ch0 ck
     have ah0_0 := ah0_0.st ck (fun _ _ x => x) ha287 (fun b h => (.inr (.inr (.inr (.inl h)))))
     have k51 := k51.ch0 ck
     have c140 := c140.then0 ck
     refine Need.one rfl rfl rfl ?_
     rintro _ ⟨v172, e288, h176⟩
     obtain rfl := e288.symm
     have h176 := slRep.wk (F' := (G F Bb (un (inBlk v160) (un (inBlk (PV p41)) (un (inBlk (PV po0)) (un (inBlk az0_0) S2)))))) k_Service_pos h176 (fun b _ hf => ⟨hf.1, fun h => hf.2 (un_el h (fun h => (.inl h)) (fun h => un_el h (fun h => (.inr (.inl h))) (fun h => un_el h (fun h => (.inr (.inr (.inl h)))) (fun h => un_el h (fun h => (.inr (.inr (.inr (.inl h))))) (fun h => (.inr (.inr (.inr (.inr h)))))))))⟩)
     have hl := (apO_get hz186).1
     refine rl_append (k := k_Service) (T := 98) (F := F) (B := Bb) (S := (un (inBlk v160) (un (inBlk (PV p41)) (un (inBlk (PV po0)) (un (inBlk az0_0) S2))))) (S2 := (un (inBlk (PV p41)) (un (inBlk (PV po0)) (un (inBlk az0_0) S2)))) (fun v => (un (inBlk v) (un (inBlk (PV p41)) (un (inBlk (PV po0)) (un (inBlk az0_0) S2))))) rfl rfl k_Service_pos ap66 ck4_0 h176 (fun _ => Iff.rfl) (fun _ _ => Iff.rfl) hl (Nat.le_trans hB c140.size) (un_lt (fun b hb => (ck4_0.lt b hb).2) (un_lt k51.ltp (un_lt ah0.ltp (un_lt (fun b hb => (ah0_0.lt b hb).2) (fun b h => Nat.lt_of_lt_of_le (h2 b h) c140.size))))) rfl ?_
     intro v291 w292 h293 c294 hf295 ha296
     have hb301 : ∀ b, (inBlk v291) b → ((inBlk v160) b ∨ wk.heap.size ≤ b) ∧ b < w292.heap.size := fun b h => ⟨(hf295 b h).elim (fun h => .inl (h)) (fun h => .inr (Nat.le_trans (Nat.le_refl _) h)), (fun b hb => (h293.lt b hb).2) b h⟩
     exact RL.nil ⟨_, (inBlk v291), rfl, hb301, (c294.mono (fun b _ h => h)), ⟨v291, v145, v160, rfl, rfl, rfl, h293⟩⟩
    refine Each.consS (fun fl O wk hE hN hO ck => ?_) ?_
    ·
     refine rl_move rfl rfl ?_
     exact RL.nil ⟨_, rfl, Ch.refl, rfl⟩
    refine Each.consS (fun fl O wk hE hN hO ck => ?_) ?_
    ·
     refine rl_move rfl rfl ?_
     exact RL.nil ⟨_, rfl, Ch.refl, rfl⟩
    refine Each.consA ⟨fun _ _ _ _ _ cc hh => by obtain ⟨v193, e, h194⟩ := hh; exact ⟨v193, e, slRep.ch k_Service_pos h194 cc⟩, fun _ _ h' O O' D _ wx wy hfl hD hO' cc hh => by obtain ⟨v193, e, h194⟩ := hh; have ad := admGh (S := (un (inBlk (PV p41)) (un (inBlk (PV po0)) (un (inBlk az0_0) S2)))) hD hO'; exact ⟨v193, e, slRep.st k_Service_pos h194 cc ad⟩, fun fl O wk hE hN hO ck => ?_⟩ ?_
    ·
     have ha313 : ∀ b, b < w141.heap.size → ¬ (un (inBlk (PV p41)) (un (inBlk (PV po0)) (un (inBlk az0_0) S2))) b → ¬ nb b ∧ ¬ (un O (un (inBlk (PV p41)) (un (inBlk (PV po0)) (un (inBlk az0_0) S2)))) b := fun b hb hs => ⟨fun h => h.elim, fun h => un_el h (fun ho => (hO b ho).1.elim (fun h => h.elim) (fun h => Nat.not_le_of_lt hb h)) (fun h => un_el h (fun h => hs (.inl h)) (fun h => un_el h (fun h => hs (.inr (.inl h))) (fun h => un_el h (fun h => hs (.inr (.inr (.inl h)))) (fun h => hs (.inr (.inr (.inr h)))))))⟩
     have h16 := slRep.st k_Service_pos h16 ck ha313
     refine Need.o1 rfl rfl rfl (fun _ h => h) ?_
     refine Need.o1 rfl rfl rfl (fun _ h => h) ?_
     refine rl_cutR (kl := .i64) (kh := .i64) (some x53) none rfl h16 k_Service_pos rfl trivial hy192 Tryd.underlying66 Tryd.sizeOf98 rfl ?_
     intro v316 h317
     exact RL.nil ⟨_, rfl, Ch.refl, ⟨v316, rfl, h317⟩⟩
    trivial
   intro hvO320 OpO320 O320 w318 hO321 c319 hN322
   have ol324 : ∀ b, inBlk (PV po0) b → b < w141.heap.size := ah0.ltp
   have ol325 : ∀ b, inBlk az0_0 b → b < w141.heap.size := (fun b hb => (ah0_0.lt b hb).2)
   refine Need.here rfl rfl rfl rfl ?_
   rintro _ ⟨v179, v145, v160, rfl, e326, rfl, ck7_0⟩
   obtain rfl := e326.symm
   have lo327 : ∀ b, inBlk v179 b → w.heap.size ≤ b := fun b h => (hO321 b h).1.elim (fun h => h.elim) (Nat.le_trans c140.size)
   have d329 : ∀ b, inBlk v179 b → ¬ inBlk (PV po0) b := fun b h hu => (hO321 b h).1.elim (fun h => h.elim) (fun h => Nat.not_le_of_lt (ol324 b hu) h)
   have d330 : ∀ b, inBlk v179 b → ¬ inBlk az0_0 b := fun b h hu => (hO321 b h).1.elim (fun h => h.elim) (fun h => Nat.not_le_of_lt (ol325 b hu) h)
   have ha331 : ∀ b, b < w141.heap.size → ¬ (un (inBlk (PV p41)) (un (inBlk (PV po0)) (un (inBlk az0_0) S2))) b → ¬ nb b ∧ ¬ (un (inBlk v179) (un (inBlk (PV p41)) (un (inBlk (PV po0)) (un (inBlk az0_0) S2)))) b := fun b hb hs => ⟨fun h => h.elim, fun h => un_el h (fun h => (hO321 b h).1.elim (fun h => h.elim) (fun h => Nat.not_le_of_lt hb h)) (fun h => un_el h (fun h => hs (.inl h)) (fun h => un_el h (fun h => hs (.inr (.inl h))) (fun h => un_el h (fun h => hs (.inr (.inr (.inl h)))) (fun h => hs (.inr (.inr (.inr h)))))))⟩
   have ah0 := ah0.ch0 c319
   have ah0_0 := ah0_0.st c319 (fun _ _ x => x) ha331 (fun b h => (.inr (.inr (.inr (.inl h)))))
   have h13 := slRep.st k_Service_pos h13 c319 ha331
   have k51 := k51.ch0 c319
   have c140 := c140.then0 c319
   refine Need.one rfl rfl rfl ?_
   rintro _ ⟨v193, e332, h194⟩
   obtain rfl := e332.symm
   have h194 := slRep.wk (F' := (G F Bb (un (inBlk v179) (un (inBlk (PV p41)) (un (inBlk (PV po0)) (un (inBlk az0_0) S2)))))) k_Service_pos h194 (fun b _ hf => ⟨hf.1, fun h => hf.2 (un_el h (fun h => (.inl h)) (fun h => un_el h (fun h => (.inr (.inl h))) (fun h => un_el h (fun h => (.inr (.inr (.inl h)))) (fun h => un_el h (fun h => (.inr (.inr (.inr (.inl h))))) (fun h => (.inr (.inr (.inr (.inr h)))))))))⟩)
   have hl := (apO_get hz204).1
   refine rl_append (k := k_Service) (T := 98) (F := F) (B := Bb) (S := (un (inBlk v179) (un (inBlk (PV p41)) (un (inBlk (PV po0)) (un (inBlk az0_0) S2))))) (S2 := (un (inBlk (PV p41)) (un (inBlk (PV po0)) (un (inBlk az0_0) S2)))) (fun v => (un (inBlk v) (un (inBlk (PV p41)) (un (inBlk (PV po0)) (un (inBlk az0_0) S2))))) rfl rfl k_Service_pos ap66 ck7_0 h194 (fun _ => Iff.rfl) (fun _ _ => Iff.rfl) hl (Nat.le_trans hB c140.size) (un_lt (fun b hb => (ck7_0.lt b hb).2) (un_lt k51.ltp (un_lt ah0.ltp (un_lt (fun b hb => (ah0_0.lt b hb).2) (fun b h => Nat.lt_of_lt_of_le (h2 b h) c140.size))))) rfl ?_
   intro v335 w336 h337 c338 hf339 ha340
   have lo341 : ∀ b, inBlk v335 b → w.heap.size ≤ b := fun b h => (hf339 b h).elim (lo327 b) (Nat.le_trans c140.size)
   have d343 : ∀ b, inBlk v335 b → ¬ inBlk (PV po0) b := disApp hf339 d329 ah0.ltp
   have d344 : ∀ b, inBlk v335 b → ¬ inBlk az0_0 b := disApp hf339 d330 (fun b hb => (ah0_0.lt b hb).2)
   have ah0 := ah0.ch c338 ((fun b hb h => (disSym d329) b hb h) _ rfl)
   have ah0_0 := ah0_0.st c338 (fun b hb h => (disSym d330) b hb h) ha340 (fun b h => (.inr (.inr (.inr (.inl h)))))
   have h13 := slRep.st k_Service_pos h13 c338 ha340
   have c140 := c140.then c338 (fun i hi h => absurd (lo327 i h) (Nat.not_le_of_lt hi))
   refine rl_assign rfl rfl ?_
   refine RL.nil ?_
   refine inB_n ?_
   refine thn_n (CW.region ?_)
   refine rl_inc rfl hat21.lt h13.big rfl ?_
   refine rl_move rfl rfl ?_
   refine RL.nil (thn_n ?_)
   have ad345 : ∀ b, b < w336.heap.size → ¬ (un (inBlk v335) (un (inBlk (PV p41)) (un (inBlk (PV po0)) (un (inBlk az0_0) S2)))) b → ¬ nb b ∧ ¬ (un (inBlk v335) (un (inBlk (PV po0)) (un (inBlk az0_0) S2))) b := fun b _ hs => ⟨fun x => x, fun h => hs (un_el h (fun h => (.inl h)) (fun h => un_el h (fun h => (.inr (.inr (.inl h)))) (fun h => un_el h (fun h => (.inr (.inr (.inr (.inl h))))) (fun h => (.inr (.inr (.inr (.inr h))))))))⟩
   have crf : Ch nb w336 w336 := Ch.refl
   have ah0 := ah0.ch0 crf
   have ah0_0 := ah0_0.st crf (fun _ _ x => x) ad345 (fun b h => (.inr (.inr (.inl h))))
   have h13 := slRep.st k_Service_pos h13 crf ad345
   have h337 := h337.st crf (fun _ _ x => x) ad345 (fun b h => (.inl h))
   have c140 := c140.then0 crf
   have hLn := runAO_next hL20 hq23 hb24
   have ad346 : ∀ b, b < w336.heap.size → ¬ (un (inBlk v335) (un (inBlk (PV po0)) (un (inBlk az0_0) S2))) b → ¬ nb b ∧ ¬ (un (inBlk (PV po0)) (un (inBlk az0_0) S2)) b := fun b _ hs => ⟨fun x => x, fun h => hs (un_el h (fun h => (.inr (.inl h))) (fun h => un_el h (fun h => (.inr (.inr (.inl h)))) (fun h => (.inr (.inr (.inr h))))))⟩
   have h337 := SlO.read (S' := (un (inBlk (PV po0)) (un (inBlk az0_0) S2))) k_Service_pos h337 (fun b hs h => hs (un_el h (fun h => (.inr (.inl h))) (fun h => un_el h (fun h => (.inr (.inr (.inl h)))) (fun h => (.inr (.inr (.inr h))))))) (fun b hb => fun h => un_el h (fun h => d343 b hb h) (fun h => un_el h (fun h => d344 b hb h) (linNot (fun b h => .inr (lo341 b h)) hd2 h2 b hb)))
   have crf : Ch nb w336 w336 := Ch.refl
   have ah0 := ah0.ch0 crf
   have ah0_0 := ah0_0.st crf (fun _ _ x => x) ad346 (fun b h => (.inr (.inl h)))
   have h13 := slRep.st k_Service_pos h13 crf ad346
   have c140 := c140.then0 crf
   exact ⟨rest34.length, Nat.lt_succ_self _, [(1, (Value.int .i64 a1)), (11, v12), (12, (Value.int .i64 ((y10.length : Nat) : Int))), (5, v335), (13, (Value.int .i64 ((i19 + 1 : Nat) : Int)))], ⟨rfl, rfl, rfl, rfl, rfl, trivial⟩, ⟨rest34, i19 + 1, (([] ++ y154) ++ [x27]) ++ y191, v335, rfl, rfl, c140, hat21.next, hLn, ah0, ah0_0, h13, h337, d56⟩⟩
  obtain rfl := hat21.nil q33
  have hLf : x14 = o25 := runAO_done hL20
  refine CW.exit (thn_exit (thn_exit (inB_hit ?_)))
  exact ⟨x14, v15, ⟨rfl, rfl, trivial⟩, c30, hLf, ah0, ah0_0, h13, h16, d17⟩
 rintro _ w348 ⟨x14, v15, hE349, c347, f350, ah0, ah0_0, h13, h16, d17⟩
 subst f350
 refine thn_n (CW.sub [(1, (Value.int .i64 a1)), (5, v15)] hE349 ?_)
 refine CW.seq ?_
 refine CW.seq (CW.region ?_)
 refine rl_move rfl rfl ?_
 refine rl_bin rfl rfl B.lss rfl ?_
 refine RL.nil (thn_n ?_)
 refine CW.cond (t := decide (a1 < 0)) rfl (fun q352 => ?_) (fun q352 => ?_)
 ·
  have hS := ifT q352 hS
  refine CW.region ?_
  refine rl_assign rfl rfl ?_
  refine RL.nil (thn_n (CW.seq ?_))
  refine CW.seq (CW.region ?_)
  refine rl_move rfl rfl ?_
  refine rl_move rfl rfl ?_
  refine rl_lenR rfl h16 Tryd.underlying66 rfl ?_
  refine rl_bin rfl rfl B.gtr rfl ?_
  refine RL.nil (thn_n ?_)
  refine CW.cond (t := decide (0 > ((x14.length : Nat) : Int))) rfl (fun q353 => ?_) (fun q353 => ?_)
  ·
   have hS := ifT q353 hS
   refine CW.region ?_
   refine rl_move rfl rfl ?_
   refine rl_lenR rfl h16 Tryd.underlying66 rfl ?_
   refine rl_assign rfl rfl ?_
   refine RL.nil (thn_n (CW.seq (CW.region ?_)))
   refine rl_move rfl rfl ?_
   refine rl_move rfl rfl ?_
   obtain ⟨y354, hy355, hS⟩ := bindS hS
   refine rl_cutR (kl := .i64) (kh := .i64) none (some ((x14.length : Nat) : Int)) rfl h16 k_Service_pos trivial rfl hy355 Tryd.underlying66 Tryd.sizeOf98 rfl ?_
   intro v356 h357
   refine rl_assign rfl rfl ?_
   refine RL.nil (thn_n (CW.ret ?_))
   obtain rfl := Option.some.inj hS
   exact ret1 rfl ⟨v356, rfl, (slRep.wk k_Service_pos h357 (fun b _ hf => .inl hf)), c347⟩
  have hS := ifF q353 hS
  refine CW.skip ?_
  refine thn_n (CW.seq (CW.region ?_))
  refine rl_move rfl rfl ?_
  refine rl_move rfl rfl ?_
  obtain ⟨y358, hy359, hS⟩ := bindS hS
  refine rl_cutR (kl := .i64) (kh := .i64) none (some 0) rfl h16 k_Service_pos trivial rfl hy359 Tryd.underlying66 Tryd.sizeOf98 rfl ?_
  intro v360 h361
  refine rl_assign rfl rfl ?_
  refine RL.nil (thn_n (CW.ret ?_))
  obtain rfl := Option.some.inj hS
  exact ret1 rfl ⟨v360, rfl, (slRep.wk k_Service_pos h361 (fun b _ hf => .inl hf)), c347⟩
 have hS := ifF q352 hS
 refine CW.skip ?_
 refine thn_n (CW.seq ?_)
 refine CW.seq (CW.region ?_)
 refine rl_move rfl rfl ?_
 refine rl_move rfl rfl ?_
 refine rl_lenR rfl h16 Tryd.underlying66 rfl ?_
 refine rl_bin rfl rfl B.gtr rfl ?_
 refine RL.nil (thn_n ?_)
 refine CW.cond (t := decide (a1 > ((x14.length : Nat) : Int))) rfl (fun q362 => ?_) (fun q362 => ?_)
 ·
  have hS := ifT q362 hS
  refine CW.region ?_
  refine rl_move rfl rfl ?_
  refine rl_lenR rfl h16 Tryd.underlying66 rfl ?_
  refine rl_assign rfl rfl ?_
  refine RL.nil (thn_n (CW.seq (CW.region ?_)))
  refine rl_move rfl rfl ?_
  refine rl_move rfl rfl ?_
  obtain ⟨y363, hy364, hS⟩ := bindS hS
  refine rl_cutR (kl := .i64) (kh := .i64) none (some ((x14.length : Nat) : Int)) rfl h16 k_Service_pos trivial rfl hy364 Tryd.underlying66 Tryd.sizeOf98 rfl ?_
  intro v365 h366
  refine rl_assign rfl rfl ?_
  refine RL.nil (thn_n (CW.ret ?_))
  obtain rfl := Option.some.inj hS
  exact ret1 rfl ⟨v365, rfl, (slRep.wk k_Service_pos h366 (fun b _ hf => .inl hf)), c347⟩
 have hS := ifF q362 hS
 refine CW.skip ?_
 refine thn_n (CW.seq (CW.region ?_))
 refine rl_move rfl rfl ?_
 refine rl_move rfl rfl ?_
 obtain ⟨y367, hy368, hS⟩ := bindS hS
 refine rl_cutR (kl := .i64) (kh := .i64) none (some a1) rfl h16 k_Service_pos trivial rfl hy368 Tryd.underlying66 Tryd.sizeOf98 rfl ?_
 intro v369 h370
 refine rl_assign rfl rfl ?_
 refine RL.nil (thn_n (CW.ret ?_))
 obtain rfl := Option.some.inj hS
 exact ret1 rfl ⟨v369, rfl, (slRep.wk k_Service_pos h370 (fun b _ hf => .inl hf)), c347⟩
theorem ctr22 (F : Nat → Prop) (w : World) (Bb : Nat) (S2 : Nat → Prop) (hB : Bb ≤ w.heap.size) (h2 : ∀ b, S2 b → b < w.heap.size) (po0 : Nat) (az0_0 : Value) (hd2 : ∀ b, (un (inBlk (PV po0)) (inBlk az0_0)) b → ¬ S2 b) (hx0_1 : ∀ b, inBlk (PV po0) b → ¬ inBlk az0_0 b) (a0 : Stats_2) (ah0 : Blk w po0 56 (Stats_2.c a0 az0_0)) (ah0_0 : SlO k_Told 97 F Bb (un (inBlk (PV po0)) (un (inBlk az0_0) S2)) w a0.all az0_0) (a1 : Int) (a2 : Int) (r : Nat) (hs : F22_Rate a0 a1 a2 = some r) :
    Ret Tryd.prog 22 #[(PV po0), (Value.int .i64 a1), (Value.int .i64 a2)] w fun v w' => v = (Value.float .f64 r) ∧ Ch nb w w' := by
 have hS := hs
 have c0 : Ch nb w w := Ch.refl
 have lin1_0 : ∀ b, inBlk az0_0 b → (un (inBlk (PV po0)) (inBlk az0_0)) b ∨ w.heap.size ≤ b := fun b h => .inl (.inr h)
 refine Ret.of (n := 79) (args := [_, _, _]) (rs := [.tmp 6]) Tryd.func22 rfl rfl rfl rfl ?_
 refine CW.seq (CW.region ?_)
 refine rl_assign rfl rfl ?_
 refine RL.nil (thn_n (CW.seq ?_))
 refine CW.seq (CW.region ?_)
 refine rl_move rfl rfl ?_
 refine rl_bin rfl rfl B.lss rfl ?_
 refine rl_move rfl rfl ?_
 obtain ⟨b3, hb4⟩ : ∃ v, ((decide (a1 < 0)) || (decide (a1 > 1099511627776))) = v := ⟨_, rfl⟩
 have hS := ltS hb4 hS
 refine RL.join 3 16 (.bool b3) (fun w' => Ch nb w w') ?_ ?_
 · rcases Bool.eq_false_or_eq_true (decide (a1 < 0)) with hg2 | hg2
   ·
    have hs1 := or_t hg2 hb4
    have cs : Ch nb w w := Ch.refl
    refine RL.no rfl rfl rfl hg2 rfl rfl ?_
    refine RL.no rfl rfl rfl hg2 rfl rfl ?_
    refine rl_pickT rfl hg2 rfl rfl ?_
    exact RL.nil ⟨Ext.bothEq (congrArg Value.bool hs1) (Ext.skip rfl (Ext.skip rfl (Ext.rfl'))), cs⟩
   ·
    have hs1 := or_f hg2 hb4
    have cs : Ch nb w w := Ch.refl
    refine RL.yes rfl rfl rfl hg2 ?_
    refine rl_move rfl rfl ?_
    refine RL.yes rfl rfl rfl hg2 ?_
    refine rl_bin rfl rfl B.gtr rfl ?_
    refine rl_pickF rfl hg2 rfl rfl ?_
    exact RL.nil ⟨Ext.bothEq (congrArg Value.bool hs1) (Ext.skip rfl (Ext.skip rfl (Ext.rfl'))), cs⟩
 intro w5 c6
 have ah0 := ah0.ch0 c6
 have ah0_0 := ah0_0.ch0 c6
 have c0 := c0.then0 c6
 refine RL.nil (thn_n ?_)
 refine CW.cond (t := b3) rfl (fun q7 => ?_) (fun q7 => ?_)
 ·
  have hS := ifT q7 hS
  refine CW.seq (CW.region ?_)
  refine rl_assign rfl rfl ?_
  refine RL.nil (thn_n (CW.ret ?_))
  refine thn_ret ?_
  obtain rfl := Option.some.inj hS
  exact ret1 rfl ⟨rfl, c0⟩
 have hS := ifF q7 hS
 refine CW.skip ?_
 refine thn_n (CW.seq ?_)
 refine CW.seq (CW.region ?_)
 refine rl_move rfl rfl ?_
 refine rl_bin rfl rfl B.lss rfl ?_
 refine RL.nil (thn_n ?_)
 obtain ⟨y8, hy9⟩ : ∃ y, (if (decide (a2 < 1)) = true then 1 else a2) = y := ⟨_, rfl⟩
 have hS := ltS hy9 hS
 refine CW.cutN (fun E' w' => w5 = w' ∧ Sub [(0, (PV po0)), (1, (Value.int .i64 a1)), (2, (Value.int .i64 y8))] E') ?_ ?_
 ·
  refine CW.cond (t := decide (a2 < 1)) rfl (fun q10 => ?_) (fun q10 => ?_)
  ·
   obtain rfl := ifT q10 hy9
   refine CW.region ?_
   refine rl_assign rfl rfl ?_
   refine RL.nil ?_
   exact ⟨rfl, rfl, ⟨rfl, rfl, rfl, trivial⟩⟩
  obtain rfl := ifF q10 hy9
  refine CW.skip ?_
  exact ⟨rfl, rfl, ⟨rfl, rfl, rfl, trivial⟩⟩
 rintro _ _ ⟨rfl, hE11⟩
 refine thn_n (CW.sub [(0, (PV po0)), (1, (Value.int .i64 a1)), (2, (Value.int .i64 y8))] hE11 ?_)
 refine CW.seq ?_
 refine CW.seq (CW.region ?_)
 refine rl_move rfl rfl ?_
 refine rl_bin rfl rfl B.gtr rfl ?_
 refine RL.nil (thn_n ?_)
 obtain ⟨y12, hy13⟩ : ∃ y, (if (decide (y8 > 16)) = true then 16 else y8) = y := ⟨_, rfl⟩
 have hS := ltS hy13 hS
 refine CW.cutN (fun E' w' => w5 = w' ∧ Sub [(0, (PV po0)), (1, (Value.int .i64 a1)), (2, (Value.int .i64 y12))] E') ?_ ?_
 ·
  refine CW.cond (t := decide (y8 > 16)) rfl (fun q14 => ?_) (fun q14 => ?_)
  ·
   obtain rfl := ifT q14 hy13
   refine CW.region ?_
   refine rl_assign rfl rfl ?_
   refine RL.nil ?_
   exact ⟨rfl, rfl, ⟨rfl, rfl, rfl, trivial⟩⟩
  obtain rfl := ifF q14 hy13
  refine CW.skip ?_
  exact ⟨rfl, rfl, ⟨rfl, rfl, rfl, trivial⟩⟩
 rintro _ _ ⟨rfl, hE15⟩
 refine thn_n (CW.sub [(0, (PV po0)), (1, (Value.int .i64 a1)), (2, (Value.int .i64 y12))] hE15 ?_)
 refine CW.seq (CW.region ?_)
 refine rl_assign rfl rfl ?_
 refine rl_assign rfl rfl ?_
 refine RL.nil (thn_n (CW.seq ?_))
 refine CW.seq (CW.region ?_)
 refine rl_move rfl rfl ?_
 refine rl_nilCheck rfl rfl ?_
 refine rl_fieldAddr rfl fa56_0 rfl ?_
 refine rl_loadS (v := az0_0) rfl Tryd.isAgg54 (ah0.cell rfl) rfl ?_
 refine rl_lenR rfl (SlO.read (S' := (un (inBlk (PV po0)) S2)) k_Told_pos ah0_0 (fun b hs h => hs (un_el h (fun h => (.inl h)) (fun h => (.inr (.inr h))))) (fun b hb => fun h => un_el h (fun h => (disSym hx0_1) b hb h) (linNot lin1_0 hd2 h2 b hb))) Tryd.underlying54 rfl ?_
 refine rl_bin rfl rfl B.gtr rfl ?_
 refine RL.nil (thn_n ?_)
 refine CW.cond (t := decide (((a0.all.length : Nat) : Int) > 0)) rfl (fun q16 => ?_) (fun q16 => ?_)
 ·
  have hS := ifT q16 hS
  obtain ⟨y23, hy24, hS⟩ := bindS hS
  refine CW.draw 10 [(none, fun fx O uu wx => uu = (PV po0)), (none, fun fx O uu wx => uu = (PV po0)), (none, fun fx O uu wx => uu = (PV po0)), (none, fun fx O uu wx => uu = az0_0), (none, fun fx O uu wx => uu = (PV po0)), (none, fun fx O uu wx => uu = (PV po0)), (none, fun fx O uu wx => uu = (PV po0)), (none, fun fx O uu wx => uu = az0_0), (none, fun fx O uu wx => uu = (Value.int .i64 ((a0.all.length : Nat) : Int))), (none, fun fx O uu wx => uu = (Value.int .i64 (IntKind.i64.wrap (((a0.all.length : Nat) : Int) - 1))))] [[], [0], [1], [2], [], [4], [5], [6], [7], [8]] [3, 9] nb (fun _ h => h.elim) mixed rfl rfl rfl rfl ?_ ?_
  ·
   refine Each.consS (fun fl O wk hE hN hO ck => ?_) ?_
   ·
    refine rl_move rfl rfl ?_
    exact RL.nil ⟨_, rfl, Ch.refl, rfl⟩
   refine Each.consS (fun fl O wk hE hN hO ck => ?_) ?_
   ·
    refine Need.o1 rfl rfl rfl (fun _ h => h) ?_
    refine rl_nilCheck rfl rfl ?_
    exact RL.nil ⟨_, rfl, Ch.refl, rfl⟩
   refine Each.consS (fun fl O wk hE hN hO ck => ?_) ?_
   ·
    refine Need.o1 rfl rfl rfl (fun _ h => h) ?_
    refine rl_fieldAddr rfl fa56_0 rfl ?_
    exact RL.nil ⟨_, rfl, Ch.refl, rfl⟩
   refine Each.consS (fun fl O wk hE hN hO ck => ?_) ?_
   ·
    have ah0 := ah0.ch0 ck
    refine Need.o1 rfl rfl rfl (fun _ h => h) ?_
    refine rl_loadS (v := az0_0) rfl Tryd.isAgg54 (ah0.cell rfl) rfl ?_
    exact RL.nil ⟨_, rfl, Ch.refl, rfl⟩
   refine Each.consS (fun fl O wk hE hN hO ck => ?_) ?_
   ·
    refine rl_move rfl rfl ?_
    exact RL.nil ⟨_, rfl, Ch.refl, rfl⟩
   refine Each.consS (fun fl O wk hE hN hO ck => ?_) ?_
   ·
    refine Need.o1 rfl rfl rfl (fun _ h => h) ?_
    refine rl_nilCheck rfl rfl ?_
    exact RL.nil ⟨_, rfl, Ch.refl, rfl⟩
   refine Each.consS (fun fl O wk hE hN hO ck => ?_) ?_
   ·
    refine Need.o1 rfl rfl rfl (fun _ h => h) ?_
    refine rl_fieldAddr rfl fa56_0 rfl ?_
    exact RL.nil ⟨_, rfl, Ch.refl, rfl⟩
   refine Each.consS (fun fl O wk hE hN hO ck => ?_) ?_
   ·
    have ah0 := ah0.ch0 ck
    refine Need.o1 rfl rfl rfl (fun _ h => h) ?_
    refine rl_loadS (v := az0_0) rfl Tryd.isAgg54 (ah0.cell rfl) rfl ?_
    exact RL.nil ⟨_, rfl, Ch.refl, rfl⟩
   refine Each.consS (fun fl O wk hE hN hO ck => ?_) ?_
   ·
    have ah0_0 := ah0_0.ch0 ck
    refine Need.o1 rfl rfl rfl (fun _ h => h) ?_
    refine rl_lenR rfl (SlO.read (S' := (un (inBlk (PV po0)) S2)) k_Told_pos ah0_0 (fun b hs h => hs (un_el h (fun h => (.inl h)) (fun h => (.inr (.inr h))))) (fun b hb => fun h => un_el h (fun h => (disSym hx0_1) b hb h) (linNot lin1_0 hd2 h2 b hb))) Tryd.underlying54 rfl ?_
    exact RL.nil ⟨_, rfl, Ch.refl, rfl⟩
   refine Each.consS (fun fl O wk hE hN hO ck => ?_) ?_
   ·
    refine Need.o1 rfl rfl rfl (fun _ h => h) ?_
    refine rl_bin rfl rfl B.sub rfl ?_
    exact RL.nil ⟨_, rfl, Ch.refl, rfl⟩
   trivial
  intro hvO35 OpO35 O35 w33 hO36 c34 hN37
  have ah0 := ah0.ch0 c34
  have ah0_0 := ah0_0.ch0 c34
  have c0 := c0.then0 c34
  refine Need.o1 rfl rfl rfl (fun _ h => h) ?_
  refine Need.o1 rfl rfl rfl (fun _ h => h) ?_
  refine rl_ixOR rfl ah0_0 rfl (ixO_get hy24) k_Told_pos Tryd.underlying54 Tryd.sizeOf97 rfl ?_
  intro p40 o41 cs42 hr43 hs44 hg45
  obtain rfl := hr43
  refine rl_fieldAddr rfl fa97_2 rfl ?_
  refine rl_loadS (v := (Value.int .i64 y23.span)) rfl Tryd.isAgg3 (hs44 2 _ rfl) rfl ?_
  refine rl_assign rfl rfl ?_
  refine RL.nil (thn_n (CW.seq ?_))
  refine CW.seq (CW.region ?_)
  refine rl_move rfl rfl ?_
  refine rl_nilCheck rfl rfl ?_
  refine rl_fieldAddr rfl fa56_0 rfl ?_
  refine rl_loadS (v := az0_0) rfl Tryd.isAgg54 (ah0.cell rfl) rfl ?_
  refine rl_lenR rfl (SlO.read (S' := (un (inBlk (PV po0)) S2)) k_Told_pos ah0_0 (fun b hs h => hs (un_el h (fun h => (.inl h)) (fun h => (.inr (.inr h))))) (fun b hb => fun h => un_el h (fun h => (disSym hx0_1) b hb h) (linNot lin1_0 hd2 h2 b hb))) Tryd.underlying54 rfl ?_
  refine rl_move rfl rfl ?_
  refine RL.nil (thn_n ?_)
  have ah0_0 := SlO.read (S' := (un (inBlk (PV po0)) S2)) k_Told_pos ah0_0 (fun b hs h => hs (un_el h (fun h => (.inl h)) (fun h => (.inr (.inr h))))) (fun b hb => fun h => un_el h (fun h => (disSym hx0_1) b hb h) (linNot lin1_0 hd2 h2 b hb))
  have crf : Ch nb w33 w33 := Ch.refl
  have ah0 := ah0.ch0 crf
  have c0 := c0.then0 crf
  obtain ⟨o55, ho56⟩ : ∃ o, runA (F22_Rate_b1 a1 y12 y23) a0.all 0 = o := ⟨_, rfl⟩
  have hS := ltS ho56 hS
  refine CW.cutB (fun E' w' => ∃ (x47 : Int), Sub [(2, (Value.int .i64 y12)), (7, (Value.int .i64 x47))] E' ∧ Ch nb w w' ∧ x47 = o55 ∧ Blk w' po0 56 (Stats_2.c a0 az0_0) ∧ slRep k_Told (G F Bb (un (inBlk (PV po0)) S2)) w' a0.all az0_0) ?_ ?_
  ·
   refine CW.loopS [(1, (Value.int .i64 a1)), (2, (Value.int .i64 y12)), (8, (Value.int .i64 y23.span)), (43, az0_0), (44, (Value.int .i64 ((a0.all.length : Nat) : Int))), (7, (Value.int .i64 0)), (45, (Value.int .i64 ((0 : Nat) : Int)))] ⟨rfl, rfl, rfl, rfl, rfl, rfl, rfl, trivial⟩ a0.all.length (fun m E w' => ∃ (rest48 : List Told) (i49 : Nat) (x47 : Int), m = rest48.length ∧ E = [(1, (Value.int .i64 a1)), (2, (Value.int .i64 y12)), (8, (Value.int .i64 y23.span)), (43, az0_0), (44, (Value.int .i64 ((a0.all.length : Nat) : Int))), (7, (Value.int .i64 x47)), (45, (Value.int .i64 ((i49 : Nat) : Int)))] ∧ Ch nb w w' ∧ At a0.all i49 rest48 ∧ runA (F22_Rate_b1 a1 y12 y23) rest48 x47 = o55 ∧ Blk w' po0 56 (Stats_2.c a0 az0_0) ∧ slRep k_Told (G F Bb (un (inBlk (PV po0)) S2)) w' a0.all az0_0)
       ⟨a0.all, 0, 0, rfl, rfl, c0, At.start, ho56, ah0, ah0_0⟩ ?_
   rintro _ _ w61 ⟨rest48, i49, x47, rfl, rfl, c60, hat51, hL50, ah0, ah0_0⟩
   refine CW.seq (CW.region ?_)
   refine rl_bin rfl rfl B.lss rfl ?_
   refine RL.nil (thn_n ?_)
   refine CW.seq ?_
   refine CW.cond (t := decide (((i49 : Nat) : Int) < ((a0.all.length : Nat) : Int))) rfl (fun q63 => ?_) (fun q63 => ?_)
   ·
    obtain ⟨x57, rest64, rfl⟩ := hat51.cons q63
    obtain ⟨q52, hq53⟩ : ∃ q, (F22_Rate_b1 a1 y12 y23) x57 x47 = q := ⟨_, rfl⟩
    have hb54 := hq53
    refine CW.skip (thn_n ?_)
    refine CW.seq ?_
    refine CW.block ?_
    refine CW.seq (CW.region ?_)
    refine rl_ixR rfl ah0_0 rfl hat51.get Tryd.underlying54 Tryd.sizeOf97 rfl ?_
    intro p65 o66 cs67 hr68 hs69 hg70
    obtain rfl := hr68
    refine rl_loadA (cs := (Told.enc x57)) rfl Tryd.isAgg97 Tryd.sizeOf97 (hs69) rfl rfl ?_
    refine rl_alloc (Told.enc Told.z) Tryd.zeroValue97 rfl rfl ?_
    intro p71 w72 n73 k74
    have lo75 : ∀ b, inBlk (PV p71) b → w.heap.size ≤ b := fun b h => Nat.le_trans c60.size (n73.fresh b h)
    have d76 : ∀ b, inBlk (PV p71) b → ¬ inBlk (PV po0) b := disNew n73.fresh ah0.ltp
    have ah0 := ah0.ch0 n73.ch
    have ah0_0 := slRep.st k_Told_pos ah0_0 n73.ch (admNew n73.fresh (fun _ x => x))
    have c60 := c60.then0 n73.ch
    refine rl_storeA (vs := (Told.enc x57)) rfl rfl (all_one rfl) Tryd.sizeOf97 rfl k74 rfl ?_
    intro w77 s79 c78 k80
    have ad81 : ∀ b, b < w72.heap.size → ¬ (un (inBlk (PV p71)) (un (inBlk (PV po0)) S2)) b → ¬ (inBlk (PV p71)) b ∧ ¬ (un (inBlk (PV p71)) (un (inBlk (PV po0)) S2)) b := fun b _ hs => ⟨fun h => hs (.inl h), hs⟩
    have ah0 := ah0.ch c78 ((fun b hb h => (disSym d76) b hb h) _ rfl)
    have ah0_0 := slRep.st k_Told_pos ah0_0 c78 ad81
    have c60 := c60.then c78 (fun i hi h => absurd (lo75 i h) (Nat.not_le_of_lt hi))
    refine RL.nil (thn_n (CW.seq (CW.region ?_)))
    refine rl_fieldAddr rfl fa97_2 rfl ?_
    refine rl_loadS (v := (Value.int .i64 x57.span)) rfl Tryd.isAgg3 (k80.cell rfl) rfl ?_
    refine rl_move rfl rfl ?_
    refine rl_bin rfl rfl (B.quo rfl) rfl ?_
    refine rl_bin rfl rfl B.leq rfl ?_
    refine rl_move rfl rfl ?_
    obtain ⟨b84, hb85⟩ : ∃ v, ((decide (x57.span ≤ (IntKind.i64.wrap (a1.tdiv 10)))) && (decide (x57.span > (IntKind.i64.wrap ((IntKind.i64.wrap (a1.tdiv 10)) - y12))))) = v := ⟨_, rfl⟩
    have hb54 := ltS hb85 hb54
    refine RL.join 8 62 (.bool b84) (fun w' => Ch nb w77 w') ?_ ?_
    · rcases Bool.eq_false_or_eq_true (decide (x57.span ≤ (IntKind.i64.wrap (a1.tdiv 10)))) with hg83 | hg83
      ·
       have hs82 := and_t hg83 hb85
       have cs : Ch nb w77 w77 := Ch.refl
       refine RL.yes rfl rfl rfl hg83 ?_
       refine rl_fieldAddr rfl fa97_2 rfl ?_
       refine RL.yes rfl rfl rfl hg83 ?_
       refine rl_loadS (v := (Value.int .i64 x57.span)) rfl Tryd.isAgg3 (k80.cell rfl) rfl ?_
       refine RL.yes rfl rfl rfl hg83 ?_
       refine rl_move rfl rfl ?_
       refine RL.yes rfl rfl rfl hg83 ?_
       refine rl_bin rfl rfl (B.quo rfl) rfl ?_
       refine RL.yes rfl rfl rfl hg83 ?_
       refine rl_move rfl rfl ?_
       refine RL.yes rfl rfl rfl hg83 ?_
       refine rl_bin rfl rfl B.sub rfl ?_
       refine RL.yes rfl rfl rfl hg83 ?_
       refine rl_bin rfl rfl B.gtr rfl ?_
       refine rl_pickT rfl hg83 rfl rfl ?_
       exact RL.nil ⟨Ext.bothEq (congrArg Value.bool hs82) (Ext.skip rfl (Ext.skip rfl (Ext.skip rfl (Ext.skip rfl (Ext.skip rfl (Ext.skip rfl (Ext.skip rfl (Ext.rfl')))))))), cs⟩
      ·
       have hs82 := and_f hg83 hb85
       have cs : Ch nb w77 w77 := Ch.refl
       refine RL.no rfl rfl rfl hg83 rfl rfl ?_
       refine RL.no rfl rfl rfl hg83 rfl rfl ?_
       refine RL.no rfl rfl rfl hg83 rfl rfl ?_
       refine RL.no rfl rfl rfl hg83 rfl rfl ?_
       refine RL.no rfl rfl rfl hg83 rfl rfl ?_
       refine RL.no rfl rfl rfl hg83 rfl rfl ?_
       refine RL.no rfl rfl rfl hg83 rfl rfl ?_
       refine rl_pickF rfl hg83 rfl rfl ?_
       exact RL.nil ⟨Ext.bothEq (congrArg Value.bool hs82) (Ext.skip rfl (Ext.skip rfl (Ext.skip rfl (Ext.skip rfl (Ext.skip rfl (Ext.skip rfl (Ext.skip rfl (Ext.rfl')))))))), cs⟩
    intro w86 c87
    have ah0 := ah0.ch0 c87
    have ah0_0 := slRep.ch k_Told_pos ah0_0 c87
    have k80 := k80.ch0 c87
    have c60 := c60.then0 c87
    refine rl_move rfl rfl ?_
    obtain ⟨b90, hb91⟩ : ∃ v, (b84 && (decide (x57.span > (IntKind.i64.wrap (y23.span - 16))))) = v := ⟨_, rfl⟩
    have hb54 := ltS hb91 hb54
    refine RL.join 6 69 (.bool b90) (fun w' => Ch nb w86 w') ?_ ?_
    · rcases Bool.eq_false_or_eq_true b84 with hg89 | hg89
      ·
       have hs88 := and_t hg89 hb91
       have cs : Ch nb w86 w86 := Ch.refl
       refine RL.yes rfl rfl rfl hg89 ?_
       refine rl_fieldAddr rfl fa97_2 rfl ?_
       refine RL.yes rfl rfl rfl hg89 ?_
       refine rl_loadS (v := (Value.int .i64 x57.span)) rfl Tryd.isAgg3 (k80.cell rfl) rfl ?_
       refine RL.yes rfl rfl rfl hg89 ?_
       refine rl_move rfl rfl ?_
       refine RL.yes rfl rfl rfl hg89 ?_
       refine rl_bin rfl rfl B.sub rfl ?_
       refine RL.yes rfl rfl rfl hg89 ?_
       refine rl_bin rfl rfl B.gtr rfl ?_
       refine rl_pickT rfl hg89 rfl rfl ?_
       exact RL.nil ⟨Ext.bothEq (congrArg Value.bool hs88) (Ext.skip rfl (Ext.skip rfl (Ext.skip rfl (Ext.skip rfl (Ext.skip rfl (Ext.rfl')))))), cs⟩
      ·
       have hs88 := and_f hg89 hb91
       have cs : Ch nb w86 w86 := Ch.refl
       refine RL.no rfl rfl rfl hg89 rfl rfl ?_
       refine RL.no rfl rfl rfl hg89 rfl rfl ?_
       refine RL.no rfl rfl rfl hg89 rfl rfl ?_
       refine RL.no rfl rfl rfl hg89 rfl rfl ?_
       refine RL.no rfl rfl rfl hg89 rfl rfl ?_
       refine rl_pickF rfl hg89 rfl rfl ?_
       exact RL.nil ⟨Ext.bothEq (congrArg Value.bool hs88) (Ext.skip rfl (Ext.skip rfl (Ext.skip rfl (Ext.skip rfl (Ext.skip rfl (Ext.rfl')))))), cs⟩
    intro w92 c93
    have ah0 := ah0.ch0 c93
    have ah0_0 := slRep.ch k_Told_pos ah0_0 c93
    have c60 := c60.then0 c93
    refine RL.nil (thn_n ?_)
    refine CW.cond (t := b90) rfl (fun q94 => ?_) (fun q94 => ?_)
    ·
     have hb54 := ifT q94 hb54
     refine CW.region ?_
     refine rl_move rfl rfl ?_
     refine rl_bin rfl rfl B.add rfl ?_
     refine rl_assign rfl rfl ?_
     refine RL.nil ?_
     refine inB_n ?_
     refine thn_n (CW.region ?_)
     refine rl_inc rfl hat51.lt ah0_0.big rfl ?_
     refine rl_move rfl rfl ?_
     refine RL.nil (thn_n ?_)
     have ad95 : ∀ b, b < w92.heap.size → ¬ (un (inBlk (PV p71)) (un (inBlk (PV po0)) S2)) b → ¬ nb b ∧ ¬ (un (inBlk (PV po0)) S2) b := fun b _ hs => ⟨fun x => x, fun h => hs (un_el h (fun h => (.inr (.inl h))) (fun h => (.inr (.inr h))))⟩
     have crf : Ch nb w92 w92 := Ch.refl
     have ah0 := ah0.ch0 crf
     have ah0_0 := slRep.st k_Told_pos ah0_0 crf ad95
     have c60 := c60.then0 crf
     have hLn := runA_next hL50 (hb54.trans hq53.symm)
     exact ⟨rest64.length, Nat.lt_succ_self _, [(1, (Value.int .i64 a1)), (2, (Value.int .i64 y12)), (8, (Value.int .i64 y23.span)), (43, az0_0), (44, (Value.int .i64 ((a0.all.length : Nat) : Int))), (7, (Value.int .i64 (IntKind.i64.wrap (x47 + 1)))), (45, (Value.int .i64 ((i49 + 1 : Nat) : Int)))], ⟨rfl, rfl, rfl, rfl, rfl, rfl, rfl, trivial⟩, ⟨rest64, i49 + 1, IntKind.i64.wrap (x47 + 1), rfl, rfl, c60, hat51.next, hLn, ah0, ah0_0⟩⟩
    have hb54 := ifF q94 hb54
    refine CW.skip ?_
    refine inB_n ?_
    refine thn_n (CW.region ?_)
    refine rl_inc rfl hat51.lt ah0_0.big rfl ?_
    refine rl_move rfl rfl ?_
    refine RL.nil (thn_n ?_)
    have ad96 : ∀ b, b < w92.heap.size → ¬ (un (inBlk (PV p71)) (un (inBlk (PV po0)) S2)) b → ¬ nb b ∧ ¬ (un (inBlk (PV po0)) S2) b := fun b _ hs => ⟨fun x => x, fun h => hs (un_el h (fun h => (.inr (.inl h))) (fun h => (.inr (.inr h))))⟩
    have crf : Ch nb w92 w92 := Ch.refl
    have ah0 := ah0.ch0 crf
    have ah0_0 := slRep.st k_Told_pos ah0_0 crf ad96
    have c60 := c60.then0 crf
    have hLn := runA_next hL50 (hb54.trans hq53.symm)
    exact ⟨rest64.length, Nat.lt_succ_self _, [(1, (Value.int .i64 a1)), (2, (Value.int .i64 y12)), (8, (Value.int .i64 y23.span)), (43, az0_0), (44, (Value.int .i64 ((a0.all.length : Nat) : Int))), (7, (Value.int .i64 x47)), (45, (Value.int .i64 ((i49 + 1 : Nat) : Int)))], ⟨rfl, rfl, rfl, rfl, rfl, rfl, rfl, trivial⟩, ⟨rest64, i49 + 1, x47, rfl, rfl, c60, hat51.next, hLn, ah0, ah0_0⟩⟩
   obtain rfl := hat51.nil q63
   have hLf : x47 = o55 := hL50
   refine CW.exit (thn_exit (thn_exit (inB_hit ?_)))
   exact ⟨x47, ⟨rfl, rfl, trivial⟩, c60, hLf, ah0, ah0_0⟩
  rintro _ w98 ⟨x47, hE99, c97, f100, ah0, ah0_0⟩
  subst f100
  refine thn_n (CW.sub [(2, (Value.int .i64 y12)), (7, (Value.int .i64 x47))] hE99 ?_)
  refine CW.seq (CW.region ?_)
  refine rl_move rfl rfl ?_
  refine rl_convFlt rfl Tryd.underlying3 Tryd.underlying69 rfl ?_
  refine rl_move rfl rfl ?_
  refine rl_bin rfl rfl B.mul rfl ?_
  refine rl_convFlt rfl Tryd.underlying3 Tryd.underlying69 rfl ?_
  obtain ⟨y102, hy103, hS⟩ := bindS hS
  refine rl_bin rfl rfl (B.quoF hy103) rfl ?_
  refine rl_assign rfl rfl ?_
  refine RL.nil (thn_n (CW.ret ?_))
  obtain rfl := Option.some.inj hS
  exact ret1 rfl ⟨rfl, c97⟩
 have hS := ifF q16 hS
 refine CW.skip ?_
 refine thn_n (CW.seq ?_)
 refine CW.seq (CW.region ?_)
 refine rl_move rfl rfl ?_
 refine rl_nilCheck rfl rfl ?_
 refine rl_fieldAddr rfl fa56_0 rfl ?_
 refine rl_loadS (v := az0_0) rfl Tryd.isAgg54 (ah0.cell rfl) rfl ?_
 refine rl_lenR rfl (SlO.read (S' := (un (inBlk (PV po0)) S2)) k_Told_pos ah0_0 (fun b hs h => hs (un_el h (fun h => (.inl h)) (fun h => (.inr (.inr h))))) (fun b hb => fun h => un_el h (fun h => (disSym hx0_1) b hb h) (linNot lin1_0 hd2 h2 b hb))) Tryd.underlying54 rfl ?_
 refine rl_move rfl rfl ?_
 refine RL.nil (thn_n ?_)
 have ah0_0 := SlO.read (S' := (un (inBlk (PV po0)) S2)) k_Told_pos ah0_0 (fun b hs h => hs (un_el h (fun h => (.inl h)) (fun h => (.inr (.inr h))))) (fun b hb => fun h => un_el h (fun h => (disSym hx0_1) b hb h) (linNot lin1_0 hd2 h2 b hb))
 have crf : Ch nb w5 w5 := Ch.refl
 have ah0 := ah0.ch0 crf
 have c0 := c0.then0 crf
 obtain ⟨o113, ho114⟩ : ∃ o, runA (F22_Rate_b2 a1 y12) a0.all 0 = o := ⟨_, rfl⟩
 have hS := ltS ho114 hS
 refine CW.cutB (fun E' w' => ∃ (x105 : Int), Sub [(2, (Value.int .i64 y12)), (7, (Value.int .i64 x105))] E' ∧ Ch nb w w' ∧ x105 = o113 ∧ Blk w' po0 56 (Stats_2.c a0 az0_0) ∧ slRep k_Told (G F Bb (un (inBlk (PV po0)) S2)) w' a0.all az0_0) ?_ ?_
 ·
  refine CW.loopS [(1, (Value.int .i64 a1)), (2, (Value.int .i64 y12)), (8, (Value.int .i64 0)), (43, az0_0), (44, (Value.int .i64 ((a0.all.length : Nat) : Int))), (7, (Value.int .i64 0)), (45, (Value.int .i64 ((0 : Nat) : Int)))] ⟨rfl, rfl, rfl, rfl, rfl, rfl, rfl, trivial⟩ a0.all.length (fun m E w' => ∃ (rest106 : List Told) (i107 : Nat) (x105 : Int), m = rest106.length ∧ E = [(1, (Value.int .i64 a1)), (2, (Value.int .i64 y12)), (8, (Value.int .i64 0)), (43, az0_0), (44, (Value.int .i64 ((a0.all.length : Nat) : Int))), (7, (Value.int .i64 x105)), (45, (Value.int .i64 ((i107 : Nat) : Int)))] ∧ Ch nb w w' ∧ At a0.all i107 rest106 ∧ runA (F22_Rate_b2 a1 y12) rest106 x105 = o113 ∧ Blk w' po0 56 (Stats_2.c a0 az0_0) ∧ slRep k_Told (G F Bb (un (inBlk (PV po0)) S2)) w' a0.all az0_0)
      ⟨a0.all, 0, 0, rfl, rfl, c0, At.start, ho114, ah0, ah0_0⟩ ?_
  rintro _ _ w119 ⟨rest106, i107, x105, rfl, rfl, c118, hat109, hL108, ah0, ah0_0⟩
  refine CW.seq (CW.region ?_)
  refine rl_bin rfl rfl B.lss rfl ?_
  refine RL.nil (thn_n ?_)
  refine CW.seq ?_
  refine CW.cond (t := decide (((i107 : Nat) : Int) < ((a0.all.length : Nat) : Int))) rfl (fun q121 => ?_) (fun q121 => ?_)
  ·
   obtain ⟨x115, rest122, rfl⟩ := hat109.cons q121
   obtain ⟨q110, hq111⟩ : ∃ q, (F22_Rate_b2 a1 y12) x115 x105 = q := ⟨_, rfl⟩
   have hb112 := hq111
   refine CW.skip (thn_n ?_)
   refine CW.seq ?_
   refine CW.block ?_
   refine CW.seq (CW.region ?_)
   refine rl_ixR rfl ah0_0 rfl hat109.get Tryd.underlying54 Tryd.sizeOf97 rfl ?_
   intro p123 o124 cs125 hr126 hs127 hg128
   obtain rfl := hr126
   refine rl_loadA (cs := (Told.enc x115)) rfl Tryd.isAgg97 Tryd.sizeOf97 (hs127) rfl rfl ?_
   refine rl_alloc (Told.enc Told.z) Tryd.zeroValue97 rfl rfl ?_
   intro p129 w130 n131 k132
   have lo133 : ∀ b, inBlk (PV p129) b → w.heap.size ≤ b := fun b h => Nat.le_trans c118.size (n131.fresh b h)
   have d134 : ∀ b, inBlk (PV p129) b → ¬ inBlk (PV po0) b := disNew n131.fresh ah0.ltp
   have ah0 := ah0.ch0 n131.ch
   have ah0_0 := slRep.st k_Told_pos ah0_0 n131.ch (admNew n131.fresh (fun _ x => x))
   have c118 := c118.then0 n131.ch
   refine rl_storeA (vs := (Told.enc x115)) rfl rfl (all_one rfl) Tryd.sizeOf97 rfl k132 rfl ?_
   intro w135 s137 c136 k138
   have ad139 : ∀ b, b < w130.heap.size → ¬ (un (inBlk (PV p129)) (un (inBlk (PV po0)) S2)) b → ¬ (inBlk (PV p129)) b ∧ ¬ (un (inBlk (PV p129)) (un (inBlk (PV po0)) S2)) b := fun b _ hs => ⟨fun h => hs (.inl h), hs⟩
   have ah0 := ah0.ch c136 ((fun b hb h => (disSym d134) b hb h) _ rfl)
   have ah0_0 := slRep.st k_Told_pos ah0_0 c136 ad139
   have c118 := c118.then c136 (fun i hi h => absurd (lo133 i h) (Nat.not_le_of_lt hi))
   refine RL.nil (thn_n (CW.seq (CW.region ?_)))
   refine rl_fieldAddr rfl fa97_2 rfl ?_
   refine rl_loadS (v := (Value.int .i64 x115.span)) rfl Tryd.isAgg3 (k138.cell rfl) rfl ?_
   refine rl_move rfl rfl ?_
   refine rl_bin rfl rfl (B.quo rfl) rfl ?_
   refine rl_bin rfl rfl B.leq rfl ?_
   refine rl_move rfl rfl ?_
   obtain ⟨b142, hb143⟩ : ∃ v, ((decide (x115.span ≤ (IntKind.i64.wrap (a1.tdiv 10)))) && (decide (x115.span > (IntKind.i64.wrap ((IntKind.i64.wrap (a1.tdiv 10)) - y12))))) = v := ⟨_, rfl⟩
   have hb112 := ltS hb143 hb112
   refine RL.join 8 62 (.bool b142) (fun w' => Ch nb w135 w') ?_ ?_
   · rcases Bool.eq_false_or_eq_true (decide (x115.span ≤ (IntKind.i64.wrap (a1.tdiv 10)))) with hg141 | hg141
     ·
      have hs140 := and_t hg141 hb143
      have cs : Ch nb w135 w135 := Ch.refl
      refine RL.yes rfl rfl rfl hg141 ?_
      refine rl_fieldAddr rfl fa97_2 rfl ?_
      refine RL.yes rfl rfl rfl hg141 ?_
      refine rl_loadS (v := (Value.int .i64 x115.span)) rfl Tryd.isAgg3 (k138.cell rfl) rfl ?_
      refine RL.yes rfl rfl rfl hg141 ?_
      refine rl_move rfl rfl ?_
      refine RL.yes rfl rfl rfl hg141 ?_
      refine rl_bin rfl rfl (B.quo rfl) rfl ?_
      refine RL.yes rfl rfl rfl hg141 ?_
      refine rl_move rfl rfl ?_
      refine RL.yes rfl rfl rfl hg141 ?_
      refine rl_bin rfl rfl B.sub rfl ?_
      refine RL.yes rfl rfl rfl hg141 ?_
      refine rl_bin rfl rfl B.gtr rfl ?_
      refine rl_pickT rfl hg141 rfl rfl ?_
      exact RL.nil ⟨Ext.bothEq (congrArg Value.bool hs140) (Ext.skip rfl (Ext.skip rfl (Ext.skip rfl (Ext.skip rfl (Ext.skip rfl (Ext.skip rfl (Ext.skip rfl (Ext.rfl')))))))), cs⟩
     ·
      have hs140 := and_f hg141 hb143
      have cs : Ch nb w135 w135 := Ch.refl
      refine RL.no rfl rfl rfl hg141 rfl rfl ?_
      refine RL.no rfl rfl rfl hg141 rfl rfl ?_
      refine RL.no rfl rfl rfl hg141 rfl rfl ?_
      refine RL.no rfl rfl rfl hg141 rfl rfl ?_
      refine RL.no rfl rfl rfl hg141 rfl rfl ?_
      refine RL.no rfl rfl rfl hg141 rfl rfl ?_
      refine RL.no rfl rfl rfl hg141 rfl rfl ?_
      refine rl_pickF rfl hg141 rfl rfl ?_
      exact RL.nil ⟨Ext.bothEq (congrArg Value.bool hs140) (Ext.skip rfl (Ext.skip rfl (Ext.skip rfl (Ext.skip rfl (Ext.skip rfl (Ext.skip rfl (Ext.skip rfl (Ext.rfl')))))))), cs⟩
   intro w144 c145
   have ah0 := ah0.ch0 c145
   have ah0_0 := slRep.ch k_Told_pos ah0_0 c145
   have k138 := k138.ch0 c145
   have c118 := c118.then0 c145
   refine rl_move rfl rfl ?_
   obtain ⟨b148, hb149⟩ : ∃ v, (b142 && (decide (x115.span > (IntKind.i64.wrap (0 - 16))))) = v := ⟨_, rfl⟩
   have hb112 := ltS hb149 hb112
   refine RL.join 6 69 (.bool b148) (fun w' => Ch nb w144 w') ?_ ?_
   · rcases Bool.eq_false_or_eq_true b142 with hg147 | hg147
     ·
      have hs146 := and_t hg147 hb149
      have cs : Ch nb w144 w144 := Ch.refl
      refine RL.yes rfl rfl rfl hg147 ?_
      refine rl_fieldAddr rfl fa97_2 rfl ?_
      refine RL.yes rfl rfl rfl hg147 ?_
      refine rl_loadS (v := (Value.int .i64 x115.span)) rfl Tryd.isAgg3 (k138.cell rfl) rfl ?_
      refine RL.yes rfl rfl rfl hg147 ?_
      refine rl_move rfl rfl ?_
      refine RL.yes rfl rfl rfl hg147 ?_
      refine rl_bin rfl rfl B.sub rfl ?_
      refine RL.yes rfl rfl rfl hg147 ?_
      refine rl_bin rfl rfl B.gtr rfl ?_
      refine rl_pickT rfl hg147 rfl rfl ?_
      exact RL.nil ⟨Ext.bothEq (congrArg Value.bool hs146) (Ext.skip rfl (Ext.skip rfl (Ext.skip rfl (Ext.skip rfl (Ext.skip rfl (Ext.rfl')))))), cs⟩
     ·
      have hs146 := and_f hg147 hb149
      have cs : Ch nb w144 w144 := Ch.refl
      refine RL.no rfl rfl rfl hg147 rfl rfl ?_
      refine RL.no rfl rfl rfl hg147 rfl rfl ?_
      refine RL.no rfl rfl rfl hg147 rfl rfl ?_
      refine RL.no rfl rfl rfl hg147 rfl rfl ?_
      refine RL.no rfl rfl rfl hg147 rfl rfl ?_
      refine rl_pickF rfl hg147 rfl rfl ?_
      exact RL.nil ⟨Ext.bothEq (congrArg Value.bool hs146) (Ext.skip rfl (Ext.skip rfl (Ext.skip rfl (Ext.skip rfl (Ext.skip rfl (Ext.rfl')))))), cs⟩
   intro w150 c151
   have ah0 := ah0.ch0 c151
   have ah0_0 := slRep.ch k_Told_pos ah0_0 c151
   have c118 := c118.then0 c151
   refine RL.nil (thn_n ?_)
   refine CW.cond (t := b148) rfl (fun q152 => ?_) (fun q152 => ?_)
   ·
    have hb112 := ifT q152 hb112
    refine CW.region ?_
    refine rl_move rfl rfl ?_
    refine rl_bin rfl rfl B.add rfl ?_
    refine rl_assign rfl rfl ?_
    refine RL.nil ?_
    refine inB_n ?_
    refine thn_n (CW.region ?_)
    refine rl_inc rfl hat109.lt ah0_0.big rfl ?_
    refine rl_move rfl rfl ?_
    refine RL.nil (thn_n ?_)
    have ad153 : ∀ b, b < w150.heap.size → ¬ (un (inBlk (PV p129)) (un (inBlk (PV po0)) S2)) b → ¬ nb b ∧ ¬ (un (inBlk (PV po0)) S2) b := fun b _ hs => ⟨fun x => x, fun h => hs (un_el h (fun h => (.inr (.inl h))) (fun h => (.inr (.inr h))))⟩
    have crf : Ch nb w150 w150 := Ch.refl
    have ah0 := ah0.ch0 crf
    have ah0_0 := slRep.st k_Told_pos ah0_0 crf ad153
    have c118 := c118.then0 crf
    have hLn := runA_next hL108 (hb112.trans hq111.symm)
    exact ⟨rest122.length, Nat.lt_succ_self _, [(1, (Value.int .i64 a1)), (2, (Value.int .i64 y12)), (8, (Value.int .i64 0)), (43, az0_0), (44, (Value.int .i64 ((a0.all.length : Nat) : Int))), (7, (Value.int .i64 (IntKind.i64.wrap (x105 + 1)))), (45, (Value.int .i64 ((i107 + 1 : Nat) : Int)))], ⟨rfl, rfl, rfl, rfl, rfl, rfl, rfl, trivial⟩, ⟨rest122, i107 + 1, IntKind.i64.wrap (x105 + 1), rfl, rfl, c118, hat109.next, hLn, ah0, ah0_0⟩⟩
   have hb112 := ifF q152 hb112
   refine CW.skip ?_
   refine inB_n ?_
   refine thn_n (CW.region ?_)
   refine rl_inc rfl hat109.lt ah0_0.big rfl ?_
   refine rl_move rfl rfl ?_
   refine RL.nil (thn_n ?_)
   have ad154 : ∀ b, b < w150.heap.size → ¬ (un (inBlk (PV p129)) (un (inBlk (PV po0)) S2)) b → ¬ nb b ∧ ¬ (un (inBlk (PV po0)) S2) b := fun b _ hs => ⟨fun x => x, fun h => hs (un_el h (fun h => (.inr (.inl h))) (fun h => (.inr (.inr h))))⟩
   have crf : Ch nb w150 w150 := Ch.refl
   have ah0 := ah0.ch0 crf
   have ah0_0 := slRep.st k_Told_pos ah0_0 crf ad154
   have c118 := c118.then0 crf
   have hLn := runA_next hL108 (hb112.trans hq111.symm)
   exact ⟨rest122.length, Nat.lt_succ_self _, [(1, (Value.int .i64 a1)), (2, (Value.int .i64 y12)), (8, (Value.int .i64 0)), (43, az0_0), (44, (Value.int .i64 ((a0.all.length : Nat) : Int))), (7, (Value.int .i64 x105)), (45, (Value.int .i64 ((i107 + 1 : Nat) : Int)))], ⟨rfl, rfl, rfl, rfl, rfl, rfl, rfl, trivial⟩, ⟨rest122, i107 + 1, x105, rfl, rfl, c118, hat109.next, hLn, ah0, ah0_0⟩⟩
  obtain rfl := hat109.nil q121
  have hLf : x105 = o113 := hL108
  refine CW.exit (thn_exit (thn_exit (inB_hit ?_)))
  exact ⟨x105, ⟨rfl, rfl, trivial⟩, c118, hLf, ah0, ah0_0⟩
 rintro _ w156 ⟨x105, hE157, c155, f158, ah0, ah0_0⟩
 subst f158
 refine thn_n (CW.sub [(2, (Value.int .i64 y12)), (7, (Value.int .i64 x105))] hE157 ?_)
 refine CW.seq (CW.region ?_)
 refine rl_move rfl rfl ?_
 refine rl_convFlt rfl Tryd.underlying3 Tryd.underlying69 rfl ?_
 refine rl_move rfl rfl ?_
 refine rl_bin rfl rfl B.mul rfl ?_
 refine rl_convFlt rfl Tryd.underlying3 Tryd.underlying69 rfl ?_
 obtain ⟨y160, hy161, hS⟩ := bindS hS
 refine rl_bin rfl rfl (B.quoF hy161) rfl ?_
 refine rl_assign rfl rfl ?_
 refine RL.nil (thn_n (CW.ret ?_))
 obtain rfl := Option.some.inj hS
 exact ret1 rfl ⟨rfl, c155⟩
end Go.Proofs.YtkfhcfkbaaekoaaDoor
