/- The walks through the code: each call comes to its printed function. Written by a program of this session. -/
import Derived.Test.YtejkknmedebgnaaM
import Derived.Test.YtejkknmedebgnaaL
import Derived.Test.YtejkknmedebgnaaW2
namespace Go.Proofs.Ytejkknmedebgnaa
open Go K
set_option linter.unusedVariables false
/-- lb/lblaw20.alive -/
theorem ctr4 (F : Nat → Prop) (w : World)  (r : Bool) (hs : F4_linkboylaw20_alive  = some r) :
    Ret Try.prog 4 #[] w fun v w' => v = (Value.bool r) ∧ Ch nb w w' := by
  have hS := hs
  have c0 : Ch nb w w := Ch.refl
  refine Ret.of (n := 24) (args := []) (rs := [.tmp 0]) Try.func4 rfl rfl rfl rfl ?_
  refine CW.seq (CW.region ?_)
  refine rl_assign rfl rfl ?_
  refine RL.nil ?_
  refine thn_n ?_
  refine CW.seq (CW.region ?_)
  refine rl_buildArr (out := (A16u8.enc ({ e0 := 10, e1 := 0, e2 := 0, e3 := 1, e4 := 0, e5 := 0, e6 := 0, e7 := 0, e8 := 0, e9 := 0, e10 := 0, e11 := 0, e12 := 0, e13 := 0, e14 := 0, e15 := 0 } : A16u8))) rfl Try.underlying36 Try.sizeOf5 Try.zeroValue36 rfl rfl rfl ?_
  refine rl_build (out := (Addr.enc ({ six := false, b := ({ e0 := 10, e1 := 0, e2 := 0, e3 := 1, e4 := 0, e5 := 0, e6 := 0, e7 := 0, e8 := 0, e9 := 0, e10 := 0, e11 := 0, e12 := 0, e13 := 0, e14 := 0, e15 := 0 } : A16u8) } : Addr))) rfl pl38 Try.zeroValue38 rfl rfl rfl ?_
  refine rl_alloc (Addr.enc Addr.z) Try.zeroValue38 rfl rfl ?_
  intro p1 w2 n3 k4
  have lo5 : ∀ b, inBlk (Value.pointer (some ⟨p1, 0, none⟩)) b → w.heap.size ≤ b := fun b h => Nat.le_trans c0.size (n3.fresh b h)
  have c0 := c0.then0 n3.ch
  refine rl_storeA (vs := (Addr.enc ({ six := false, b := ({ e0 := 10, e1 := 0, e2 := 0, e3 := 1, e4 := 0, e5 := 0, e6 := 0, e7 := 0, e8 := 0, e9 := 0, e10 := 0, e11 := 0, e12 := 0, e13 := 0, e14 := 0, e15 := 0 } : A16u8) } : Addr))) rfl rfl (all_one rfl) Try.sizeOf38 rfl k4 rfl ?_
  intro w6 s8 c7 k9
  have ad10 : ∀ b, b < w2.heap.size → ¬ (un (inBlk (Value.pointer (some ⟨p1, 0, none⟩))) nb) b → ¬ (inBlk (Value.pointer (some ⟨p1, 0, none⟩))) b ∧ ¬ (un (inBlk (Value.pointer (some ⟨p1, 0, none⟩))) nb) b := fun b _ hs => ⟨fun h => hs (.inl h), hs⟩
  have c0 := c0.then c7 (fun i hi h => absurd (lo5 i h) (Nat.not_le_of_lt hi))
  refine RL.nil ?_
  refine thn_n ?_
  refine CW.seq (CW.region ?_)
  refine rl_loadA (cs := (Addr.enc ({ six := false, b := ({ e0 := 10, e1 := 0, e2 := 0, e3 := 1, e4 := 0, e5 := 0, e6 := 0, e7 := 0, e8 := 0, e9 := 0, e10 := 0, e11 := 0, e12 := 0, e13 := 0, e14 := 0, e15 := 0 } : A16u8) } : Addr))) rfl Try.isAgg38 Try.sizeOf38 (k9.segAt 0 17) rfl rfl ?_
  refine rl_bslice (k := k_Addr) (F := F) (B := w.heap.size) (S := (un (inBlk (Value.pointer (some ⟨p1, 0, none⟩))) nb)) ([({ six := false, b := ({ e0 := 10, e1 := 0, e2 := 0, e3 := 1, e4 := 0, e5 := 0, e6 := 0, e7 := 0, e8 := 0, e9 := 0, e10 := 0, e11 := 0, e12 := 0, e13 := 0, e14 := 0, e15 := 0 } : A16u8) } : Addr)] : List Addr) rfl k_Addr_pos Try.underlying24 Try.sizeOf38 Try.zeroValue38 rfl rfl ⟨rfl, rfl, trivial⟩ c0.size (un_lt k9.ltp nbS) rfl ?_
  intro v11 w12 c13 hf14 h15
  have h15 := h15.readNew k_Addr_pos hf14 (un_lt k9.ltp nbS)
  have k9 := k9.ch0 c13
  have c0 := c0.then0 c13
  refine rl_build (out := (Port.enc ({ name := (⟨#[104]⟩ : ByteArray), proto := 6, port := 80, outer := 0 } : Port))) rfl pl55 Try.zeroValue55 rfl rfl rfl ?_
  refine rl_bslice (k := k_Port) (F := F) (B := w.heap.size) (S := (un (inBlk (Value.pointer (some ⟨p1, 0, none⟩))) nb)) ([({ name := (⟨#[104]⟩ : ByteArray), proto := 6, port := 80, outer := 0 } : Port)] : List Port) rfl k_Port_pos Try.underlying26 Try.sizeOf55 Try.zeroValue55 rfl rfl ⟨rfl, rfl, trivial⟩ c0.size (un_lt k9.ltp nbS) rfl ?_
  intro v16 w17 c18 hf19 h20
  have h20 := h20.readNew k_Port_pos hf19 (un_lt k9.ltp nbS)
  have k9 := k9.ch0 c18
  have h15 := slRep.ch k_Addr_pos h15 c18
  have c0 := c0.then0 c18
  refine rl_buildC (out := (Service.c ({ key := Key.z, kind := 0, cluster := [({ six := false, b := ({ e0 := 10, e1 := 0, e2 := 0, e3 := 1, e4 := 0, e5 := 0, e6 := 0, e7 := 0, e8 := 0, e9 := 0, e10 := 0, e11 := 0, e12 := 0, e13 := 0, e14 := 0, e15 := 0 } : A16u8) } : Addr)], external := [], balancers := [], ranges := [], ports := [({ name := (⟨#[104]⟩ : ByteArray), proto := 6, port := 80, outer := 0 } : Port)], internalLocal := false, externalLocal := false, sticky := false, ticks := 0, hinted := false } : Service) v11 (Value.slice none 0 0) (Value.slice none 0 0) (Value.slice none 0 0) v16)) [(2, [v11]), (6, [v16])] rfl (co_cons (one_toL h15.one.1) (co_cons (one_toL h20.one.1) co_nil)) pl28 Try.zeroValue28 rfl rfl rfl ?_
  refine rl_build (out := (Node.c ({ name := ⟨#[]⟩, zone := ⟨#[]⟩, addrs := [] } : Node) (Value.slice none 0 0))) rfl pl30 Try.zeroValue30 rfl rfl rfl ?_
  obtain ⟨y23, hy24, hS⟩ := bindS hS
  refine rl_callF rfl en7 rfl (ctr7 (G F w.heap.size (un (inBlk (Value.pointer (some ⟨p1, 0, none⟩))) nb)) w17 ({ key := Key.z, kind := 0, cluster := [({ six := false, b := ({ e0 := 10, e1 := 0, e2 := 0, e3 := 1, e4 := 0, e5 := 0, e6 := 0, e7 := 0, e8 := 0, e9 := 0, e10 := 0, e11 := 0, e12 := 0, e13 := 0, e14 := 0, e15 := 0 } : A16u8) } : Addr)], external := [], balancers := [], ranges := [], ports := [({ name := (⟨#[104]⟩ : ByteArray), proto := 6, port := 80, outer := 0 } : Port)], internalLocal := false, externalLocal := false, sticky := false, ticks := 0, hinted := false } : Service) v11 (Value.slice none 0 0) (Value.slice none 0 0) (Value.slice none 0 0) v16 h15 (.inl ⟨rfl, rfl⟩) (.inl ⟨rfl, rfl⟩) (.inl ⟨rfl, rfl⟩) h20 ({ name := ⟨#[]⟩, zone := ⟨#[]⟩, addrs := [] } : Node) (Value.slice none 0 0) (.inl ⟨rfl, rfl⟩) y23 hy24) ?_
  rintro v25 w21 ⟨_, rfl, h26, c22⟩
  have h26 := SlO.backR k_Face_pos h26 (un_lt k9.ltp nbS) c0.size
  have k9 := k9.ch0 c22
  have h15 := slRep.ch k_Addr_pos h15 c22
  have h20 := slRep.ch k_Port_pos h20 c22
  have c0 := c0.then0 c22
  refine rl_assign rfl rfl ?_
  refine RL.nil ?_
  refine thn_n ?_
  refine CW.seq ?_
  obtain ⟨b35, hb36, hS⟩ := bindS hS
  refine CW.cutN (fun E' w' => Sub [(0, (Value.bool b35))] E' ∧ Ch nb w21 w') ?_ ?_
  ·
   rcases Bool.eq_false_or_eq_true (decide (((y23.length : Nat) : Int) = 1)) with hg37 | hg37
   ·
    have hs38 := andO_t hg37 hb36
    obtain ⟨y33, hy34, hs38⟩ := bindS hs38
    refine CW.draw 12 [(none, fun _ O uu wx => uu = v25), (none, fun _ O uu wx => uu = (Value.int .i64 ((y23.length : Nat) : Int))), (none, fun _ O uu wx => uu = (Value.bool (decide (((y23.length : Nat) : Int) = 1)))), (none, fun _ O uu wx => uu = (Value.bool (decide (((y23.length : Nat) : Int) = 1)))), (none, fun _ O uu wx => uu = v25), (none, fun _ O uu wx => ∃ (p27 : Nat) (o28 : Nat), uu = (Value.pointer (some ⟨p27, o28, none⟩)) ∧ (G F w.heap.size (un (inBlk (Value.pointer (some ⟨p1, 0, none⟩))) nb)) p27 ∧ Seg wx p27 o28 (Face.enc y33)), (none, fun _ O uu wx => uu = (Value.agg (Face.enc y33).toArray)), (none, fun _ O uu wx => uu = (Value.agg (Addr.enc ({ six := false, b := ({ e0 := 10, e1 := 0, e2 := 0, e3 := 1, e4 := 0, e5 := 0, e6 := 0, e7 := 0, e8 := 0, e9 := 0, e10 := 0, e11 := 0, e12 := 0, e13 := 0, e14 := 0, e15 := 0 } : A16u8) } : Addr)).toArray)), (none, fun _ O uu wx => uu = (Value.agg (Point.enc ({ addr := ({ six := false, b := ({ e0 := 10, e1 := 0, e2 := 0, e3 := 1, e4 := 0, e5 := 0, e6 := 0, e7 := 0, e8 := 0, e9 := 0, e10 := 0, e11 := 0, e12 := 0, e13 := 0, e14 := 0, e15 := 0 } : A16u8) } : Addr), port := 80 } : Point)).toArray)), (none, fun _ O uu wx => uu = (Value.agg (Face.enc ({ proto := 6, point := ({ addr := ({ six := false, b := ({ e0 := 10, e1 := 0, e2 := 0, e3 := 1, e4 := 0, e5 := 0, e6 := 0, e7 := 0, e8 := 0, e9 := 0, e10 := 0, e11 := 0, e12 := 0, e13 := 0, e14 := 0, e15 := 0 } : A16u8) } : Addr), port := 80 } : Point), name := (⟨#[104]⟩ : ByteArray), how := 0, localF := false, asked := false } : Face)).toArray)), (none, fun _ O uu wx => uu = (Value.bool (decide (y33 = ({ proto := 6, point := ({ addr := ({ six := false, b := ({ e0 := 10, e1 := 0, e2 := 0, e3 := 1, e4 := 0, e5 := 0, e6 := 0, e7 := 0, e8 := 0, e9 := 0, e10 := 0, e11 := 0, e12 := 0, e13 := 0, e14 := 0, e15 := 0 } : A16u8) } : Addr), port := 80 } : Point), name := (⟨#[104]⟩ : ByteArray), how := 0, localF := false, asked := false } : Face))))), (none, fun _ O uu wx => uu = (Value.bool b35))] [[], [0], [1], [2], [3], [3, 4], [3, 5], [3], [3, 7], [3, 8], [3, 6, 9], [3, 10]] [11] nb (fun _ h => h.elim) mixed rfl rfl rfl rfl ?_ ?_
    ·
     refine Each.consA ⟨fun _ _ _ _ _ _ h => h, fun h => absurd rfl h, fun O wk hO ck => ?_⟩ ?_
     ·
      have k9 := k9.ch0 ck
      have h15 := slRep.ch k_Addr_pos h15 ck
      have h20 := slRep.ch k_Port_pos h20 ck
      have h26 := slRep.ch k_Face_pos h26 ck
      have c0 := c0.then0 ck
      refine rl_move rfl rfl ?_
      exact RL.nil ⟨_, rfl, Ch.refl, rfl⟩
     refine Each.consA ⟨fun _ _ _ _ _ _ h => h, fun h => absurd rfl h, fun O wk hO ck => ?_⟩ ?_
     ·
      have k9 := k9.ch0 ck
      have h15 := slRep.ch k_Addr_pos h15 ck
      have h20 := slRep.ch k_Port_pos h20 ck
      have h26 := slRep.ch k_Face_pos h26 ck
      have c0 := c0.then0 ck
      refine Need.one rfl rfl rfl ?_
      rintro _ e39
      obtain rfl := e39.symm
      refine rl_lenR rfl h26 Try.underlying34 rfl ?_
      exact RL.nil ⟨_, rfl, Ch.refl, rfl⟩
     refine Each.consA ⟨fun _ _ _ _ _ _ h => h, fun h => absurd rfl h, fun O wk hO ck => ?_⟩ ?_
     ·
      have k9 := k9.ch0 ck
      have h15 := slRep.ch k_Addr_pos h15 ck
      have h20 := slRep.ch k_Port_pos h20 ck
      have h26 := slRep.ch k_Face_pos h26 ck
      have c0 := c0.then0 ck
      refine Need.one rfl rfl rfl ?_
      rintro _ e40
      obtain rfl := e40.symm
      refine rl_bin rfl rfl B.eql rfl ?_
      exact RL.nil ⟨_, rfl, Ch.refl, rfl⟩
     refine Each.consA ⟨fun _ _ _ _ _ _ h => h, fun h => absurd rfl h, fun O wk hO ck => ?_⟩ ?_
     ·
      have k9 := k9.ch0 ck
      have h15 := slRep.ch k_Addr_pos h15 ck
      have h20 := slRep.ch k_Port_pos h20 ck
      have h26 := slRep.ch k_Face_pos h26 ck
      have c0 := c0.then0 ck
      refine Need.one rfl rfl rfl ?_
      rintro _ e41
      obtain rfl := e41.symm
      refine rl_move rfl rfl ?_
      exact RL.nil ⟨_, rfl, Ch.refl, rfl⟩
     refine Each.consA ⟨fun _ _ _ _ _ _ h => h, fun h => absurd rfl h, fun O wk hO ck => ?_⟩ ?_
     ·
      have k9 := k9.ch0 ck
      have h15 := slRep.ch k_Addr_pos h15 ck
      have h20 := slRep.ch k_Port_pos h20 ck
      have h26 := slRep.ch k_Face_pos h26 ck
      have c0 := c0.then0 ck
      refine Need.one rfl rfl rfl ?_
      rintro _ e42
      obtain rfl := e42.symm
      refine RL.yes rfl rfl rfl hg37 ?_
      refine rl_move rfl rfl ?_
      exact RL.nil ⟨_, rfl, Ch.refl, rfl⟩
     refine Each.consA ⟨fun _ _ _ _ _ cc hh => by obtain ⟨p27, o28, e, hg32, hs31⟩ := hh; exact ⟨p27, o28, e, hg32, hs31.ch0 cc⟩, fun h => absurd rfl h, fun O wk hO ck => ?_⟩ ?_
     ·
      have k9 := k9.ch0 ck
      have h15 := slRep.ch k_Addr_pos h15 ck
      have h20 := slRep.ch k_Port_pos h20 ck
      have h26 := slRep.ch k_Face_pos h26 ck
      have c0 := c0.then0 ck
      refine Need.one rfl rfl rfl ?_
      rintro _ e43
      obtain rfl := e43.symm
      refine Need.one rfl rfl rfl ?_
      rintro _ e44
      obtain rfl := e44.symm
      refine RL.yes rfl rfl rfl hg37 ?_
      refine rl_ixI rfl h26 rfl (ixO_get hy34) Try.underlying34 Try.sizeOf42 rfl ?_
      intro p45 o46 cs47 hr48 hs49 hg50
      obtain rfl := hr48
      exact RL.nil ⟨_, rfl, Ch.refl, ⟨p45, o46, rfl, hg50, hs49⟩⟩
     refine Each.consA ⟨fun _ _ _ _ _ _ h => h, fun h => absurd rfl h, fun O wk hO ck => ?_⟩ ?_
     ·
      have k9 := k9.ch0 ck
      have h15 := slRep.ch k_Addr_pos h15 ck
      have h20 := slRep.ch k_Port_pos h20 ck
      have h26 := slRep.ch k_Face_pos h26 ck
      have c0 := c0.then0 ck
      refine Need.one rfl rfl rfl ?_
      rintro _ e51
      obtain rfl := e51.symm
      refine Need.one rfl rfl rfl ?_
      rintro _ ⟨p27, o28, e52, hg32, hs31⟩
      obtain rfl := e52.symm
      refine RL.yes rfl rfl rfl hg37 ?_
      refine rl_loadA (cs := (Face.enc y33)) rfl Try.isAgg42 Try.sizeOf42 (hs31) rfl rfl ?_
      exact RL.nil ⟨_, rfl, Ch.refl, rfl⟩
     refine Each.consA ⟨fun _ _ _ _ _ _ h => h, fun h => absurd rfl h, fun O wk hO ck => ?_⟩ ?_
     ·
      have k9 := k9.ch0 ck
      have h15 := slRep.ch k_Addr_pos h15 ck
      have h20 := slRep.ch k_Port_pos h20 ck
      have h26 := slRep.ch k_Face_pos h26 ck
      have c0 := c0.then0 ck
      refine Need.one rfl rfl rfl ?_
      rintro _ e53
      obtain rfl := e53.symm
      refine RL.yes rfl rfl rfl hg37 ?_
      refine rl_loadA (cs := (Addr.enc ({ six := false, b := ({ e0 := 10, e1 := 0, e2 := 0, e3 := 1, e4 := 0, e5 := 0, e6 := 0, e7 := 0, e8 := 0, e9 := 0, e10 := 0, e11 := 0, e12 := 0, e13 := 0, e14 := 0, e15 := 0 } : A16u8) } : Addr))) rfl Try.isAgg38 Try.sizeOf38 (k9.segAt 0 17) rfl rfl ?_
      exact RL.nil ⟨_, rfl, Ch.refl, rfl⟩
     refine Each.consA ⟨fun _ _ _ _ _ _ h => h, fun h => absurd rfl h, fun O wk hO ck => ?_⟩ ?_
     ·
      have k9 := k9.ch0 ck
      have h15 := slRep.ch k_Addr_pos h15 ck
      have h20 := slRep.ch k_Port_pos h20 ck
      have h26 := slRep.ch k_Face_pos h26 ck
      have c0 := c0.then0 ck
      refine Need.one rfl rfl rfl ?_
      rintro _ e54
      obtain rfl := e54.symm
      refine Need.one rfl rfl rfl ?_
      rintro _ e55
      obtain rfl := e55.symm
      refine RL.yes rfl rfl rfl hg37 ?_
      refine rl_build (out := (Point.enc ({ addr := ({ six := false, b := ({ e0 := 10, e1 := 0, e2 := 0, e3 := 1, e4 := 0, e5 := 0, e6 := 0, e7 := 0, e8 := 0, e9 := 0, e10 := 0, e11 := 0, e12 := 0, e13 := 0, e14 := 0, e15 := 0 } : A16u8) } : Addr), port := 80 } : Point))) rfl pl40 Try.zeroValue40 rfl rfl rfl ?_
      exact RL.nil ⟨_, rfl, Ch.refl, rfl⟩
     refine Each.consA ⟨fun _ _ _ _ _ _ h => h, fun h => absurd rfl h, fun O wk hO ck => ?_⟩ ?_
     ·
      have k9 := k9.ch0 ck
      have h15 := slRep.ch k_Addr_pos h15 ck
      have h20 := slRep.ch k_Port_pos h20 ck
      have h26 := slRep.ch k_Face_pos h26 ck
      have c0 := c0.then0 ck
      refine Need.one rfl rfl rfl ?_
      rintro _ e56
      obtain rfl := e56.symm
      refine Need.one rfl rfl rfl ?_
      rintro _ e57
      obtain rfl := e57.symm
      refine RL.yes rfl rfl rfl hg37 ?_
      refine rl_build (out := (Face.enc ({ proto := 6, point := ({ addr := ({ six := false, b := ({ e0 := 10, e1 := 0, e2 := 0, e3 := 1, e4 := 0, e5 := 0, e6 := 0, e7 := 0, e8 := 0, e9 := 0, e10 := 0, e11 := 0, e12 := 0, e13 := 0, e14 := 0, e15 := 0 } : A16u8) } : Addr), port := 80 } : Point), name := (⟨#[104]⟩ : ByteArray), how := 0, localF := false, asked := false } : Face))) rfl pl42 Try.zeroValue42 rfl rfl rfl ?_
      exact RL.nil ⟨_, rfl, Ch.refl, rfl⟩
     refine Each.consA ⟨fun _ _ _ _ _ _ h => h, fun h => absurd rfl h, fun O wk hO ck => ?_⟩ ?_
     ·
      have k9 := k9.ch0 ck
      have h15 := slRep.ch k_Addr_pos h15 ck
      have h20 := slRep.ch k_Port_pos h20 ck
      have h26 := slRep.ch k_Face_pos h26 ck
      have c0 := c0.then0 ck
      refine Need.one rfl rfl rfl ?_
      rintro _ e58
      obtain rfl := e58.symm
      refine Need.one rfl rfl rfl ?_
      rintro _ e59
      obtain rfl := e59.symm
      refine Need.one rfl rfl rfl ?_
      rintro _ e60
      obtain rfl := e60.symm
      refine RL.yes rfl rfl rfl hg37 ?_
      refine rl_bin rfl rfl (eql42 y33 ({ proto := 6, point := ({ addr := ({ six := false, b := ({ e0 := 10, e1 := 0, e2 := 0, e3 := 1, e4 := 0, e5 := 0, e6 := 0, e7 := 0, e8 := 0, e9 := 0, e10 := 0, e11 := 0, e12 := 0, e13 := 0, e14 := 0, e15 := 0 } : A16u8) } : Addr), port := 80 } : Point), name := (⟨#[104]⟩ : ByteArray), how := 0, localF := false, asked := false } : Face)) rfl ?_
      exact RL.nil ⟨_, rfl, Ch.refl, rfl⟩
     refine Each.consA ⟨fun _ _ _ _ _ _ h => h, fun h => absurd rfl h, fun O wk hO ck => ?_⟩ ?_
     ·
      refine Need.one rfl rfl rfl ?_
      rintro _ e61
      obtain rfl := e61.symm
      refine Need.one rfl rfl rfl ?_
      rintro _ e62
      obtain rfl := e62.symm
      refine rl_pickT rfl hg37 rfl rfl ?_
      exact RL.nil ⟨_, rfl, Ch.refl, congrArg Value.bool (Option.some.inj hs38)⟩
     trivial
    ·
     intro hvO65 OpO65 O65 w63 hO66 c64 hN67
     have k9 := k9.ch0 c64
     have h15 := slRep.ch k_Addr_pos h15 c64
     have h20 := slRep.ch k_Port_pos h20 c64
     have h26 := slRep.ch k_Face_pos h26 c64
     have c0 := c0.then0 c64
     refine Need.one rfl rfl rfl ?_
     rintro _ e68
     obtain rfl := e68.symm
     refine rl_assign rfl rfl ?_
     exact RL.nil ⟨rfl, ⟨rfl, trivial⟩, c64⟩
   ·
    have hs69 := andO_f hg37 hb36
    refine CW.draw 12 [(none, fun _ O uu wx => uu = v25), (none, fun _ O uu wx => uu = (Value.int .i64 ((y23.length : Nat) : Int))), (none, fun _ O uu wx => uu = (Value.bool (decide (((y23.length : Nat) : Int) = 1)))), (none, fun _ O uu wx => uu = (Value.bool (decide (((y23.length : Nat) : Int) = 1)))), (none, fun _ O uu wx => uu = undef), (none, fun _ O uu wx => uu = undef), (none, fun _ O uu wx => uu = undef), (none, fun _ O uu wx => uu = undef), (none, fun _ O uu wx => uu = undef), (none, fun _ O uu wx => uu = undef), (none, fun _ O uu wx => uu = undef), (none, fun _ O uu wx => uu = (Value.bool b35))] [[], [0], [1], [2], [3], [3], [3], [3], [3], [3], [3], [3]] [11] nb (fun _ h => h.elim) mixed rfl rfl rfl rfl ?_ ?_
    ·
     refine Each.consA ⟨fun _ _ _ _ _ _ h => h, fun h => absurd rfl h, fun O wk hO ck => ?_⟩ ?_
     ·
      have k9 := k9.ch0 ck
      have h15 := slRep.ch k_Addr_pos h15 ck
      have h20 := slRep.ch k_Port_pos h20 ck
      have h26 := slRep.ch k_Face_pos h26 ck
      have c0 := c0.then0 ck
      refine rl_move rfl rfl ?_
      exact RL.nil ⟨_, rfl, Ch.refl, rfl⟩
     refine Each.consA ⟨fun _ _ _ _ _ _ h => h, fun h => absurd rfl h, fun O wk hO ck => ?_⟩ ?_
     ·
      have k9 := k9.ch0 ck
      have h15 := slRep.ch k_Addr_pos h15 ck
      have h20 := slRep.ch k_Port_pos h20 ck
      have h26 := slRep.ch k_Face_pos h26 ck
      have c0 := c0.then0 ck
      refine Need.one rfl rfl rfl ?_
      rintro _ e70
      obtain rfl := e70.symm
      refine rl_lenR rfl h26 Try.underlying34 rfl ?_
      exact RL.nil ⟨_, rfl, Ch.refl, rfl⟩
     refine Each.consA ⟨fun _ _ _ _ _ _ h => h, fun h => absurd rfl h, fun O wk hO ck => ?_⟩ ?_
     ·
      have k9 := k9.ch0 ck
      have h15 := slRep.ch k_Addr_pos h15 ck
      have h20 := slRep.ch k_Port_pos h20 ck
      have h26 := slRep.ch k_Face_pos h26 ck
      have c0 := c0.then0 ck
      refine Need.one rfl rfl rfl ?_
      rintro _ e71
      obtain rfl := e71.symm
      refine rl_bin rfl rfl B.eql rfl ?_
      exact RL.nil ⟨_, rfl, Ch.refl, rfl⟩
     refine Each.consA ⟨fun _ _ _ _ _ _ h => h, fun h => absurd rfl h, fun O wk hO ck => ?_⟩ ?_
     ·
      have k9 := k9.ch0 ck
      have h15 := slRep.ch k_Addr_pos h15 ck
      have h20 := slRep.ch k_Port_pos h20 ck
      have h26 := slRep.ch k_Face_pos h26 ck
      have c0 := c0.then0 ck
      refine Need.one rfl rfl rfl ?_
      rintro _ e72
      obtain rfl := e72.symm
      refine rl_move rfl rfl ?_
      exact RL.nil ⟨_, rfl, Ch.refl, rfl⟩
     refine Each.consA ⟨fun _ _ _ _ _ _ h => h, fun h => absurd rfl h, fun O wk hO ck => ?_⟩ ?_
     ·
      refine Need.one rfl rfl rfl ?_
      rintro _ e73
      obtain rfl := e73.symm
      refine RL.no rfl rfl rfl hg37 rfl rfl ?_
      exact RL.nil ⟨_, rfl, Ch.refl, rfl⟩
     refine Each.consA ⟨fun _ _ _ _ _ _ h => h, fun h => absurd rfl h, fun O wk hO ck => ?_⟩ ?_
     ·
      refine Need.one rfl rfl rfl ?_
      rintro _ e74
      obtain rfl := e74.symm
      refine RL.no rfl rfl rfl hg37 rfl rfl ?_
      exact RL.nil ⟨_, rfl, Ch.refl, rfl⟩
     refine Each.consA ⟨fun _ _ _ _ _ _ h => h, fun h => absurd rfl h, fun O wk hO ck => ?_⟩ ?_
     ·
      refine Need.one rfl rfl rfl ?_
      rintro _ e75
      obtain rfl := e75.symm
      refine RL.no rfl rfl rfl hg37 rfl rfl ?_
      exact RL.nil ⟨_, rfl, Ch.refl, rfl⟩
     refine Each.consA ⟨fun _ _ _ _ _ _ h => h, fun h => absurd rfl h, fun O wk hO ck => ?_⟩ ?_
     ·
      refine Need.one rfl rfl rfl ?_
      rintro _ e76
      obtain rfl := e76.symm
      refine RL.no rfl rfl rfl hg37 rfl rfl ?_
      exact RL.nil ⟨_, rfl, Ch.refl, rfl⟩
     refine Each.consA ⟨fun _ _ _ _ _ _ h => h, fun h => absurd rfl h, fun O wk hO ck => ?_⟩ ?_
     ·
      refine Need.one rfl rfl rfl ?_
      rintro _ e77
      obtain rfl := e77.symm
      refine RL.no rfl rfl rfl hg37 rfl rfl ?_
      exact RL.nil ⟨_, rfl, Ch.refl, rfl⟩
     refine Each.consA ⟨fun _ _ _ _ _ _ h => h, fun h => absurd rfl h, fun O wk hO ck => ?_⟩ ?_
     ·
      refine Need.one rfl rfl rfl ?_
      rintro _ e78
      obtain rfl := e78.symm
      refine RL.no rfl rfl rfl hg37 rfl rfl ?_
      exact RL.nil ⟨_, rfl, Ch.refl, rfl⟩
     refine Each.consA ⟨fun _ _ _ _ _ _ h => h, fun h => absurd rfl h, fun O wk hO ck => ?_⟩ ?_
     ·
      refine Need.one rfl rfl rfl ?_
      rintro _ e79
      obtain rfl := e79.symm
      refine RL.no rfl rfl rfl hg37 rfl rfl ?_
      exact RL.nil ⟨_, rfl, Ch.refl, rfl⟩
     refine Each.consA ⟨fun _ _ _ _ _ _ h => h, fun h => absurd rfl h, fun O wk hO ck => ?_⟩ ?_
     ·
      refine Need.one rfl rfl rfl ?_
      rintro _ e80
      obtain rfl := e80.symm
      refine rl_pickF rfl hg37 rfl rfl ?_
      exact RL.nil ⟨_, rfl, Ch.refl, congrArg Value.bool (Option.some.inj hs69)⟩
     trivial
    ·
     intro hvO83 OpO83 O83 w81 hO84 c82 hN85
     have k9 := k9.ch0 c82
     have h15 := slRep.ch k_Addr_pos h15 c82
     have h20 := slRep.ch k_Port_pos h20 c82
     have h26 := slRep.ch k_Face_pos h26 c82
     have c0 := c0.then0 c82
     refine Need.one rfl rfl rfl ?_
     rintro _ e86
     obtain rfl := e86.symm
     refine rl_assign rfl rfl ?_
     exact RL.nil ⟨rfl, ⟨rfl, trivial⟩, c82⟩
  ·
   rintro _ w88 ⟨hE87, c89⟩
   have k9 := k9.ch0 c89
   have h15 := slRep.ch k_Addr_pos h15 c89
   have h20 := slRep.ch k_Port_pos h20 c89
   have h26 := slRep.ch k_Face_pos h26 c89
   have c0 := c0.then0 c89
   refine thn_n (CW.sub [(0, (Value.bool b35))] hE87 ?_)
   refine CW.ret ?_
   obtain rfl := Option.some.inj hS
   exact ret1 rfl ⟨rfl, c0⟩
/-- lb/lblaw13.LongService -/
theorem ctr5 (F : Nat → Prop) (w : World) (a0 : Service) (az0_0 az0_1 az0_2 az0_3 az0_4 : Value) (ah0_0 : slRep k_Addr F w a0.cluster az0_0) (ah0_1 : slRep k_Addr F w a0.external az0_1) (ah0_2 : slRep k_Addr F w a0.balancers az0_2) (ah0_3 : slRep k_Cidr F w a0.ranges az0_3) (ah0_4 : slRep k_Port F w a0.ports az0_4) (r : Bool) (hs : F5_linkboylaw13_LongService a0 = r) :
    Ret Try.prog 5 #[(Value.agg (Service.c a0 az0_0 az0_1 az0_2 az0_3 az0_4).toArray)] w fun v w' => v = (Value.bool r) ∧ Ch nb w w' := by
  have hS := hs
  have c0 : Ch nb w w := Ch.refl
  have ah0_0 := slRep.enter k_Addr_pos ah0_0
  have ah0_1 := slRep.enter k_Addr_pos ah0_1
  have ah0_2 := slRep.enter k_Addr_pos ah0_2
  have ah0_3 := slRep.enter k_Cidr_pos ah0_3
  have ah0_4 := slRep.enter k_Port_pos ah0_4
  refine Ret.of (n := 59) (args := [_]) (rs := [.tmp 2]) Try.func5 rfl rfl rfl rfl ?_
  refine CW.seq (CW.region ?_)
  refine rl_boxA (cs := (Service.c a0 az0_0 az0_1 az0_2 az0_3 az0_4)) rfl rfl ?_
  intro p1 w2 n3 k4
  have gp1 : (G F w.heap.size nb) p1 := ⟨.inr (by rw [n3.eq]; exact c0.size), fun h => absurd (nbS _ h) (by rw [n3.eq]; exact Nat.lt_irrefl _)⟩
  have ah0_0 := slRep.ch k_Addr_pos ah0_0 n3.ch
  have ah0_1 := slRep.ch k_Addr_pos ah0_1 n3.ch
  have ah0_2 := slRep.ch k_Addr_pos ah0_2 n3.ch
  have ah0_3 := slRep.ch k_Cidr_pos ah0_3 n3.ch
  have ah0_4 := slRep.ch k_Port_pos ah0_4 n3.ch
  have c0 := c0.then0 n3.ch
  refine rl_assign rfl rfl ?_
  refine RL.nil ?_
  refine thn_n ?_
  refine CW.seq ?_
  refine CW.seq (CW.region ?_)
  refine rl_fieldAddr rfl fa28_6 rfl ?_
  refine rl_loadS (v := az0_4) rfl Try.isAgg26 (k4.cell rfl) rfl ?_
  refine rl_lenR rfl ah0_4 Try.underlying26 rfl ?_
  refine rl_move rfl rfl ?_
  refine RL.nil ?_
  refine thn_n ?_
  obtain ⟨o12, ho13⟩ : ∃ o, runB F5_linkboylaw13_LongService_b1 a0.ports () = o := ⟨_, rfl⟩
  have hS := ltS ho13 hS
  refine CW.cutB (fun E' w' => ∃ (_ : Unit), Sub [(1, (Value.pointer (some ⟨p1, 0, none⟩)))] E' ∧ Ch nb w w' ∧ Lp.fin () = o12 ∧ slRep k_Addr (G F w.heap.size nb) w' a0.cluster az0_0 ∧ slRep k_Addr (G F w.heap.size nb) w' a0.external az0_1 ∧ slRep k_Addr (G F w.heap.size nb) w' a0.balancers az0_2 ∧ slRep k_Cidr (G F w.heap.size nb) w' a0.ranges az0_3 ∧ slRep k_Port (G F w.heap.size nb) w' a0.ports az0_4 ∧ Blk w' p1 28 (Service.c a0 az0_0 az0_1 az0_2 az0_3 az0_4) ∧ (G F w.heap.size nb) p1) ?_ ?_
  ·
   refine CW.loopS [(1, (Value.pointer (some ⟨p1, 0, none⟩))), (6, az0_4), (7, (Value.int .i64 ((a0.ports.length : Nat) : Int))), (8, (Value.int .i64 ((0 : Nat) : Int)))] ⟨rfl, rfl, rfl, rfl, trivial⟩ a0.ports.length (fun m E w' => ∃ (rest5 : List Port) (i6 : Nat) , m = rest5.length ∧ E = [(1, (Value.pointer (some ⟨p1, 0, none⟩))), (6, az0_4), (7, (Value.int .i64 ((a0.ports.length : Nat) : Int))), (8, (Value.int .i64 ((i6 : Nat) : Int)))] ∧ Ch nb w w' ∧ At a0.ports i6 rest5 ∧ runB F5_linkboylaw13_LongService_b1 rest5 () = o12 ∧ slRep k_Addr (G F w.heap.size nb) w' a0.cluster az0_0 ∧ slRep k_Addr (G F w.heap.size nb) w' a0.external az0_1 ∧ slRep k_Addr (G F w.heap.size nb) w' a0.balancers az0_2 ∧ slRep k_Cidr (G F w.heap.size nb) w' a0.ranges az0_3 ∧ slRep k_Port (G F w.heap.size nb) w' a0.ports az0_4 ∧ Blk w' p1 28 (Service.c a0 az0_0 az0_1 az0_2 az0_3 az0_4) ∧ (G F w.heap.size nb) p1)
       ⟨a0.ports, 0, rfl, rfl, c0, At.start, ho13, ah0_0, ah0_1, ah0_2, ah0_3, ah0_4, k4, gp1⟩ ?_
   rintro _ _ w18 ⟨rest5, i6, rfl, rfl, c17, hat8, hL7, ah0_0, ah0_1, ah0_2, ah0_3, ah0_4, k4, gp1⟩
   refine CW.seq (CW.region ?_)
   refine rl_bin rfl rfl B.lss rfl ?_
   refine RL.nil (thn_n ?_)
   refine CW.seq ?_
   refine CW.cond (t := decide (((i6 : Nat) : Int) < ((a0.ports.length : Nat) : Int))) rfl (fun q20 => ?_) (fun q20 => ?_)
   ·
    obtain ⟨x14, rest21, rfl⟩ := hat8.cons q20
    obtain ⟨q9, hq10⟩ : ∃ q, F5_linkboylaw13_LongService_b1 x14 () = q := ⟨_, rfl⟩
    have hb11 := hq10
    refine CW.skip (thn_n ?_)
    refine CW.seq ?_
    refine CW.block ?_
    refine CW.seq (CW.region ?_)
    refine rl_ixR rfl ah0_4 rfl hat8.get Try.underlying26 Try.sizeOf55 rfl ?_
    intro p22 o23 cs24 hr25 hs26 hg27
    obtain rfl := hr25
    refine rl_loadA (cs := (Port.enc x14)) rfl Try.isAgg55 Try.sizeOf55 (hs26) rfl rfl ?_
    refine rl_alloc (Port.enc Port.z) Try.zeroValue55 rfl rfl ?_
    intro p28 w29 n30 k31
    have lo32 : ∀ b, inBlk (Value.pointer (some ⟨p28, 0, none⟩)) b → w.heap.size ≤ b := fun b h => Nat.le_trans c17.size (n30.fresh b h)
    have ah0_0 := slRep.st k_Addr_pos ah0_0 n30.ch (admNew n30.fresh (fun _ x => x))
    have ah0_1 := slRep.st k_Addr_pos ah0_1 n30.ch (admNew n30.fresh (fun _ x => x))
    have ah0_2 := slRep.st k_Addr_pos ah0_2 n30.ch (admNew n30.fresh (fun _ x => x))
    have ah0_3 := slRep.st k_Cidr_pos ah0_3 n30.ch (admNew n30.fresh (fun _ x => x))
    have ah0_4 := slRep.st k_Port_pos ah0_4 n30.ch (admNew n30.fresh (fun _ x => x))
    have gp1n : (G F w.heap.size (un (inBlk (Value.pointer (some ⟨p28, 0, none⟩))) nb)) p1 := ⟨gp1.1, ((admNew n30.fresh (fun _ x => x)) _ k4.lt gp1.2).2⟩
    have k4 := k4.ch0 n30.ch
    have gp1 := gp1n
    have c17 := c17.then0 n30.ch
    refine rl_storeA (vs := (Port.enc x14)) rfl rfl (all_one rfl) Try.sizeOf55 rfl k31 rfl ?_
    intro w33 s35 c34 k36
    have ad37 : ∀ b, b < w29.heap.size → ¬ (un (inBlk (Value.pointer (some ⟨p28, 0, none⟩))) nb) b → ¬ (inBlk (Value.pointer (some ⟨p28, 0, none⟩))) b ∧ ¬ (un (inBlk (Value.pointer (some ⟨p28, 0, none⟩))) nb) b := fun b _ hs => ⟨fun h => hs (.inl h), hs⟩
    have ah0_0 := slRep.st k_Addr_pos ah0_0 c34 ad37
    have ah0_1 := slRep.st k_Addr_pos ah0_1 c34 ad37
    have ah0_2 := slRep.st k_Addr_pos ah0_2 c34 ad37
    have ah0_3 := slRep.st k_Cidr_pos ah0_3 c34 ad37
    have ah0_4 := slRep.st k_Port_pos ah0_4 c34 ad37
    have k4 := k4.ch c34 (ad37 _ k4.lt gp1.2).1
    have c17 := c17.then c34 (fun i hi h => absurd (lo32 i h) (Nat.not_le_of_lt hi))
    refine RL.nil ?_
    refine thn_n ?_
    refine CW.seq (CW.region ?_)
    refine rl_fieldAddr rfl fa55_0 rfl ?_
    refine rl_loadS (v := (Value.string x14.name)) rfl Try.isAgg9 (k36.cell rfl) rfl ?_
    refine rl_lenStr rfl Try.underlying9 rfl ?_
    refine rl_bin rfl rfl B.gtr rfl ?_
    refine RL.nil ?_
    refine thn_n ?_
    refine CW.cond (t := decide (((x14.name.size : Nat) : Int) > 400)) rfl (fun q38 => ?_) (fun q38 => ?_)
    ·
     have hb11 := ifT q38 hb11
     refine CW.seq (CW.region ?_)
     refine rl_assign rfl rfl ?_
     refine RL.nil ?_
     refine thn_n ?_
     refine CW.ret ?_
     refine inB_ret ?_
     refine thn_ret ?_
     refine thn_ret (inB_ret (thn_ret ?_))
     refine thn_ret ?_
     have f39 := runB_ret hL7 (hb11.trans hq10.symm)
     have hS := retS f39 hS
     obtain rfl := hS
     exact ret1 rfl ⟨rfl, c17⟩
    ·
     have hb11 := ifF q38 hb11
     refine CW.skip ?_
     refine inB_n ?_
     refine thn_n ?_
     refine CW.region ?_
     refine rl_inc rfl hat8.lt ah0_4.big rfl ?_
     refine rl_move rfl rfl ?_
     refine RL.nil ?_
     refine thn_n ?_
     have crf : Ch nb w33 w33 := Ch.refl
     have ah0_0 := slRep.st k_Addr_pos ah0_0 crf (show ∀ b, b < w33.heap.size → ¬ (un (inBlk (Value.pointer (some ⟨p28, 0, none⟩))) nb) b → ¬ nb b ∧ ¬ nb b from fun b _ hs => ⟨fun x => x, fun h => hs (False.elim h)⟩)
     have ah0_1 := slRep.st k_Addr_pos ah0_1 crf (show ∀ b, b < w33.heap.size → ¬ (un (inBlk (Value.pointer (some ⟨p28, 0, none⟩))) nb) b → ¬ nb b ∧ ¬ nb b from fun b _ hs => ⟨fun x => x, fun h => hs (False.elim h)⟩)
     have ah0_2 := slRep.st k_Addr_pos ah0_2 crf (show ∀ b, b < w33.heap.size → ¬ (un (inBlk (Value.pointer (some ⟨p28, 0, none⟩))) nb) b → ¬ nb b ∧ ¬ nb b from fun b _ hs => ⟨fun x => x, fun h => hs (False.elim h)⟩)
     have ah0_3 := slRep.st k_Cidr_pos ah0_3 crf (show ∀ b, b < w33.heap.size → ¬ (un (inBlk (Value.pointer (some ⟨p28, 0, none⟩))) nb) b → ¬ nb b ∧ ¬ nb b from fun b _ hs => ⟨fun x => x, fun h => hs (False.elim h)⟩)
     have ah0_4 := slRep.st k_Port_pos ah0_4 crf (show ∀ b, b < w33.heap.size → ¬ (un (inBlk (Value.pointer (some ⟨p28, 0, none⟩))) nb) b → ¬ nb b ∧ ¬ nb b from fun b _ hs => ⟨fun x => x, fun h => hs (False.elim h)⟩)
     have gp1n : (G F w.heap.size nb) p1 := ⟨gp1.1, ((show ∀ b, b < w33.heap.size → ¬ (un (inBlk (Value.pointer (some ⟨p28, 0, none⟩))) nb) b → ¬ nb b ∧ ¬ nb b from fun b _ hs => ⟨fun x => x, fun h => hs (False.elim h)⟩) _ k4.lt gp1.2).2⟩
     have k4 := k4.ch0 crf
     have gp1 := gp1n
     have c17 := c17.then0 crf
     have hLn := runB_next hL7 (hb11.trans hq10.symm)
     exact ⟨rest21.length, Nat.lt_succ_self _, [(1, (Value.pointer (some ⟨p1, 0, none⟩))), (6, az0_4), (7, (Value.int .i64 ((a0.ports.length : Nat) : Int))), (8, (Value.int .i64 ((i6 + 1 : Nat) : Int)))], ⟨rfl, rfl, rfl, rfl, trivial⟩, ⟨rest21, i6 + 1, rfl, rfl, c17, hat8.next, hLn, ah0_0, ah0_1, ah0_2, ah0_3, ah0_4, k4, gp1⟩⟩
   ·
    obtain rfl := hat8.nil q20
    have hLf : Lp.fin () = o12 := hL7
    refine CW.exit (thn_exit (thn_exit (inB_hit ?_)))
    exact ⟨(), ⟨rfl, trivial⟩, c17, hLf, ah0_0, ah0_1, ah0_2, ah0_3, ah0_4, k4, gp1⟩
  ·
   rintro _ w41 ⟨_, hE42, c40, f43, ah0_0, ah0_1, ah0_2, ah0_3, ah0_4, k4, gp1⟩
   have hS := finS f43 hS
   refine thn_n (CW.sub [(1, (Value.pointer (some ⟨p1, 0, none⟩)))] hE42 ?_)
   refine CW.seq (CW.region ?_)
   refine rl_fieldAddr rfl fa28_0 rfl ?_
   refine rl_fieldAddr rfl fa23_0 rfl ?_
   refine rl_loadS (v := (Value.string a0.key.space)) rfl Try.isAgg9 (k4.cell rfl) rfl ?_
   refine rl_lenStr rfl Try.underlying9 rfl ?_
   refine rl_bin rfl rfl B.gtr rfl ?_
   refine rl_move rfl rfl ?_
   obtain ⟨b47, hb48⟩ : ∃ v, ((decide (((a0.key.space.size : Nat) : Int) > 400)) || (decide (((a0.key.name.size : Nat) : Int) > 400))) = v := ⟨_, rfl⟩
   have hS := ltS hb48 hS
   refine RL.join 6 28 (.bool b47) (fun w' => Ch nb w41 w') ?_ ?_
   · rcases Bool.eq_false_or_eq_true (decide (((a0.key.space.size : Nat) : Int) > 400)) with hg46 | hg46
     ·
      have hs45 := or_t hg46 hb48
      have cs : Ch nb w41 w41 := Ch.refl
      refine RL.no rfl rfl rfl hg46 rfl rfl ?_
      refine RL.no rfl rfl rfl hg46 rfl rfl ?_
      refine RL.no rfl rfl rfl hg46 rfl rfl ?_
      refine RL.no rfl rfl rfl hg46 rfl rfl ?_
      refine RL.no rfl rfl rfl hg46 rfl rfl ?_
      refine rl_pickT rfl hg46 rfl rfl ?_
      exact RL.nil ⟨Ext.bothEq (congrArg Value.bool hs45) (Ext.skip rfl (Ext.skip rfl (Ext.skip rfl (Ext.skip rfl (Ext.skip rfl (Ext.rfl')))))), cs⟩
     ·
      have hs45 := or_f hg46 hb48
      have cs : Ch nb w41 w41 := Ch.refl
      refine RL.yes rfl rfl rfl hg46 ?_
      refine rl_fieldAddr rfl fa28_0 rfl ?_
      refine RL.yes rfl rfl rfl hg46 ?_
      refine rl_fieldAddr rfl fa23_1 rfl ?_
      refine RL.yes rfl rfl rfl hg46 ?_
      refine rl_loadS (v := (Value.string a0.key.name)) rfl Try.isAgg9 (k4.cell rfl) rfl ?_
      refine RL.yes rfl rfl rfl hg46 ?_
      refine rl_lenStr rfl Try.underlying9 rfl ?_
      refine RL.yes rfl rfl rfl hg46 ?_
      refine rl_bin rfl rfl B.gtr rfl ?_
      refine rl_pickF rfl hg46 rfl rfl ?_
      exact RL.nil ⟨Ext.bothEq (congrArg Value.bool hs45) (Ext.skip rfl (Ext.skip rfl (Ext.skip rfl (Ext.skip rfl (Ext.skip rfl (Ext.rfl')))))), cs⟩
   intro w49 c50
   have ah0_0 := slRep.ch k_Addr_pos ah0_0 c50
   have ah0_1 := slRep.ch k_Addr_pos ah0_1 c50
   have ah0_2 := slRep.ch k_Addr_pos ah0_2 c50
   have ah0_3 := slRep.ch k_Cidr_pos ah0_3 c50
   have ah0_4 := slRep.ch k_Port_pos ah0_4 c50
   have k4 := k4.ch0 c50
   have c40 := c40.then0 c50
   refine rl_move rfl rfl ?_
   obtain ⟨b53, hb54⟩ : ∃ v, (b47 || (decide (((a0.cluster.length : Nat) : Int) > 20))) = v := ⟨_, rfl⟩
   have hS := ltS hb54 hS
   refine RL.join 5 34 (.bool b53) (fun w' => Ch nb w49 w') ?_ ?_
   · rcases Bool.eq_false_or_eq_true b47 with hg52 | hg52
     ·
      have hs51 := or_t hg52 hb54
      have cs : Ch nb w49 w49 := Ch.refl
      refine RL.no rfl rfl rfl hg52 rfl rfl ?_
      refine RL.no rfl rfl rfl hg52 rfl rfl ?_
      refine RL.no rfl rfl rfl hg52 rfl rfl ?_
      refine RL.no rfl rfl rfl hg52 rfl rfl ?_
      refine rl_pickT rfl hg52 rfl rfl ?_
      exact RL.nil ⟨Ext.bothEq (congrArg Value.bool hs51) (Ext.skip rfl (Ext.skip rfl (Ext.skip rfl (Ext.skip rfl (Ext.rfl'))))), cs⟩
     ·
      have hs51 := or_f hg52 hb54
      have cs : Ch nb w49 w49 := Ch.refl
      refine RL.yes rfl rfl rfl hg52 ?_
      refine rl_fieldAddr rfl fa28_2 rfl ?_
      refine RL.yes rfl rfl rfl hg52 ?_
      refine rl_loadS (v := az0_0) rfl Try.isAgg24 (k4.cell rfl) rfl ?_
      refine RL.yes rfl rfl rfl hg52 ?_
      refine rl_lenR rfl ah0_0 Try.underlying24 rfl ?_
      refine RL.yes rfl rfl rfl hg52 ?_
      refine rl_bin rfl rfl B.gtr rfl ?_
      refine rl_pickF rfl hg52 rfl rfl ?_
      exact RL.nil ⟨Ext.bothEq (congrArg Value.bool hs51) (Ext.skip rfl (Ext.skip rfl (Ext.skip rfl (Ext.skip rfl (Ext.rfl'))))), cs⟩
   intro w55 c56
   have ah0_0 := slRep.ch k_Addr_pos ah0_0 c56
   have ah0_1 := slRep.ch k_Addr_pos ah0_1 c56
   have ah0_2 := slRep.ch k_Addr_pos ah0_2 c56
   have ah0_3 := slRep.ch k_Cidr_pos ah0_3 c56
   have ah0_4 := slRep.ch k_Port_pos ah0_4 c56
   have k4 := k4.ch0 c56
   have c40 := c40.then0 c56
   refine rl_move rfl rfl ?_
   obtain ⟨b59, hb60⟩ : ∃ v, (b53 || (decide (((a0.external.length : Nat) : Int) > 20))) = v := ⟨_, rfl⟩
   have hS := ltS hb60 hS
   refine RL.join 5 40 (.bool b59) (fun w' => Ch nb w55 w') ?_ ?_
   · rcases Bool.eq_false_or_eq_true b53 with hg58 | hg58
     ·
      have hs57 := or_t hg58 hb60
      have cs : Ch nb w55 w55 := Ch.refl
      refine RL.no rfl rfl rfl hg58 rfl rfl ?_
      refine RL.no rfl rfl rfl hg58 rfl rfl ?_
      refine RL.no rfl rfl rfl hg58 rfl rfl ?_
      refine RL.no rfl rfl rfl hg58 rfl rfl ?_
      refine rl_pickT rfl hg58 rfl rfl ?_
      exact RL.nil ⟨Ext.bothEq (congrArg Value.bool hs57) (Ext.skip rfl (Ext.skip rfl (Ext.skip rfl (Ext.skip rfl (Ext.rfl'))))), cs⟩
     ·
      have hs57 := or_f hg58 hb60
      have cs : Ch nb w55 w55 := Ch.refl
      refine RL.yes rfl rfl rfl hg58 ?_
      refine rl_fieldAddr rfl fa28_3 rfl ?_
      refine RL.yes rfl rfl rfl hg58 ?_
      refine rl_loadS (v := az0_1) rfl Try.isAgg24 (k4.cell rfl) rfl ?_
      refine RL.yes rfl rfl rfl hg58 ?_
      refine rl_lenR rfl ah0_1 Try.underlying24 rfl ?_
      refine RL.yes rfl rfl rfl hg58 ?_
      refine rl_bin rfl rfl B.gtr rfl ?_
      refine rl_pickF rfl hg58 rfl rfl ?_
      exact RL.nil ⟨Ext.bothEq (congrArg Value.bool hs57) (Ext.skip rfl (Ext.skip rfl (Ext.skip rfl (Ext.skip rfl (Ext.rfl'))))), cs⟩
   intro w61 c62
   have ah0_0 := slRep.ch k_Addr_pos ah0_0 c62
   have ah0_1 := slRep.ch k_Addr_pos ah0_1 c62
   have ah0_2 := slRep.ch k_Addr_pos ah0_2 c62
   have ah0_3 := slRep.ch k_Cidr_pos ah0_3 c62
   have ah0_4 := slRep.ch k_Port_pos ah0_4 c62
   have k4 := k4.ch0 c62
   have c40 := c40.then0 c62
   refine rl_move rfl rfl ?_
   obtain ⟨b65, hb66⟩ : ∃ v, (b59 || (decide (((a0.balancers.length : Nat) : Int) > 20))) = v := ⟨_, rfl⟩
   have hS := ltS hb66 hS
   refine RL.join 5 46 (.bool b65) (fun w' => Ch nb w61 w') ?_ ?_
   · rcases Bool.eq_false_or_eq_true b59 with hg64 | hg64
     ·
      have hs63 := or_t hg64 hb66
      have cs : Ch nb w61 w61 := Ch.refl
      refine RL.no rfl rfl rfl hg64 rfl rfl ?_
      refine RL.no rfl rfl rfl hg64 rfl rfl ?_
      refine RL.no rfl rfl rfl hg64 rfl rfl ?_
      refine RL.no rfl rfl rfl hg64 rfl rfl ?_
      refine rl_pickT rfl hg64 rfl rfl ?_
      exact RL.nil ⟨Ext.bothEq (congrArg Value.bool hs63) (Ext.skip rfl (Ext.skip rfl (Ext.skip rfl (Ext.skip rfl (Ext.rfl'))))), cs⟩
     ·
      have hs63 := or_f hg64 hb66
      have cs : Ch nb w61 w61 := Ch.refl
      refine RL.yes rfl rfl rfl hg64 ?_
      refine rl_fieldAddr rfl fa28_4 rfl ?_
      refine RL.yes rfl rfl rfl hg64 ?_
      refine rl_loadS (v := az0_2) rfl Try.isAgg24 (k4.cell rfl) rfl ?_
      refine RL.yes rfl rfl rfl hg64 ?_
      refine rl_lenR rfl ah0_2 Try.underlying24 rfl ?_
      refine RL.yes rfl rfl rfl hg64 ?_
      refine rl_bin rfl rfl B.gtr rfl ?_
      refine rl_pickF rfl hg64 rfl rfl ?_
      exact RL.nil ⟨Ext.bothEq (congrArg Value.bool hs63) (Ext.skip rfl (Ext.skip rfl (Ext.skip rfl (Ext.skip rfl (Ext.rfl'))))), cs⟩
   intro w67 c68
   have ah0_0 := slRep.ch k_Addr_pos ah0_0 c68
   have ah0_1 := slRep.ch k_Addr_pos ah0_1 c68
   have ah0_2 := slRep.ch k_Addr_pos ah0_2 c68
   have ah0_3 := slRep.ch k_Cidr_pos ah0_3 c68
   have ah0_4 := slRep.ch k_Port_pos ah0_4 c68
   have k4 := k4.ch0 c68
   have c40 := c40.then0 c68
   refine rl_move rfl rfl ?_
   obtain ⟨b71, hb72⟩ : ∃ v, (b65 || (decide (((a0.ranges.length : Nat) : Int) > 20))) = v := ⟨_, rfl⟩
   have hS := ltS hb72 hS
   refine RL.join 5 52 (.bool b71) (fun w' => Ch nb w67 w') ?_ ?_
   · rcases Bool.eq_false_or_eq_true b65 with hg70 | hg70
     ·
      have hs69 := or_t hg70 hb72
      have cs : Ch nb w67 w67 := Ch.refl
      refine RL.no rfl rfl rfl hg70 rfl rfl ?_
      refine RL.no rfl rfl rfl hg70 rfl rfl ?_
      refine RL.no rfl rfl rfl hg70 rfl rfl ?_
      refine RL.no rfl rfl rfl hg70 rfl rfl ?_
      refine rl_pickT rfl hg70 rfl rfl ?_
      exact RL.nil ⟨Ext.bothEq (congrArg Value.bool hs69) (Ext.skip rfl (Ext.skip rfl (Ext.skip rfl (Ext.skip rfl (Ext.rfl'))))), cs⟩
     ·
      have hs69 := or_f hg70 hb72
      have cs : Ch nb w67 w67 := Ch.refl
      refine RL.yes rfl rfl rfl hg70 ?_
      refine rl_fieldAddr rfl fa28_5 rfl ?_
      refine RL.yes rfl rfl rfl hg70 ?_
      refine rl_loadS (v := az0_3) rfl Try.isAgg25 (k4.cell rfl) rfl ?_
      refine RL.yes rfl rfl rfl hg70 ?_
      refine rl_lenR rfl ah0_3 Try.underlying25 rfl ?_
      refine RL.yes rfl rfl rfl hg70 ?_
      refine rl_bin rfl rfl B.gtr rfl ?_
      refine rl_pickF rfl hg70 rfl rfl ?_
      exact RL.nil ⟨Ext.bothEq (congrArg Value.bool hs69) (Ext.skip rfl (Ext.skip rfl (Ext.skip rfl (Ext.skip rfl (Ext.rfl'))))), cs⟩
   intro w73 c74
   have ah0_0 := slRep.ch k_Addr_pos ah0_0 c74
   have ah0_1 := slRep.ch k_Addr_pos ah0_1 c74
   have ah0_2 := slRep.ch k_Addr_pos ah0_2 c74
   have ah0_3 := slRep.ch k_Cidr_pos ah0_3 c74
   have ah0_4 := slRep.ch k_Port_pos ah0_4 c74
   have k4 := k4.ch0 c74
   have c40 := c40.then0 c74
   refine rl_move rfl rfl ?_
   obtain ⟨b77, hb78⟩ : ∃ v, (b71 || (decide (((a0.ports.length : Nat) : Int) > 20))) = v := ⟨_, rfl⟩
   have hS := ltS hb78 hS
   refine RL.join 5 58 (.bool b77) (fun w' => Ch nb w73 w') ?_ ?_
   · rcases Bool.eq_false_or_eq_true b71 with hg76 | hg76
     ·
      have hs75 := or_t hg76 hb78
      have cs : Ch nb w73 w73 := Ch.refl
      refine RL.no rfl rfl rfl hg76 rfl rfl ?_
      refine RL.no rfl rfl rfl hg76 rfl rfl ?_
      refine RL.no rfl rfl rfl hg76 rfl rfl ?_
      refine RL.no rfl rfl rfl hg76 rfl rfl ?_
      refine rl_pickT rfl hg76 rfl rfl ?_
      exact RL.nil ⟨Ext.bothEq (congrArg Value.bool hs75) (Ext.skip rfl (Ext.skip rfl (Ext.skip rfl (Ext.skip rfl (Ext.rfl'))))), cs⟩
     ·
      have hs75 := or_f hg76 hb78
      have cs : Ch nb w73 w73 := Ch.refl
      refine RL.yes rfl rfl rfl hg76 ?_
      refine rl_fieldAddr rfl fa28_6 rfl ?_
      refine RL.yes rfl rfl rfl hg76 ?_
      refine rl_loadS (v := az0_4) rfl Try.isAgg26 (k4.cell rfl) rfl ?_
      refine RL.yes rfl rfl rfl hg76 ?_
      refine rl_lenR rfl ah0_4 Try.underlying26 rfl ?_
      refine RL.yes rfl rfl rfl hg76 ?_
      refine rl_bin rfl rfl B.gtr rfl ?_
      refine rl_pickF rfl hg76 rfl rfl ?_
      exact RL.nil ⟨Ext.bothEq (congrArg Value.bool hs75) (Ext.skip rfl (Ext.skip rfl (Ext.skip rfl (Ext.skip rfl (Ext.rfl'))))), cs⟩
   intro w79 c80
   have ah0_0 := slRep.ch k_Addr_pos ah0_0 c80
   have ah0_1 := slRep.ch k_Addr_pos ah0_1 c80
   have ah0_2 := slRep.ch k_Addr_pos ah0_2 c80
   have ah0_3 := slRep.ch k_Cidr_pos ah0_3 c80
   have ah0_4 := slRep.ch k_Port_pos ah0_4 c80
   have k4 := k4.ch0 c80
   have c40 := c40.then0 c80
   refine rl_assign rfl rfl ?_
   refine RL.nil ?_
   refine thn_n ?_
   refine CW.ret ?_
   obtain rfl := hS
   exact ret1 rfl ⟨rfl, c40⟩
/-- lb/lblaw13.LongNode -/
theorem ctr6 (F : Nat → Prop) (w : World) (a0 : Node) (az0_0 : Value) (ah0_0 : slRep k_Addr F w a0.addrs az0_0) (r : Bool) (hs : F6_linkboylaw13_LongNode a0 = r) :
    Ret Try.prog 6 #[(Value.agg (Node.c a0 az0_0).toArray)] w fun v w' => v = (Value.bool r) ∧ Ch nb w w' := by
  have hS := hs
  have c0 : Ch nb w w := Ch.refl
  have ah0_0 := slRep.enter k_Addr_pos ah0_0
  refine Ret.of (n := 19) (args := [_]) (rs := [.tmp 2]) Try.func6 rfl rfl rfl rfl ?_
  refine CW.seq (CW.region ?_)
  refine rl_boxA (cs := (Node.c a0 az0_0)) rfl rfl ?_
  intro p1 w2 n3 k4
  have gp1 : (G F w.heap.size nb) p1 := ⟨.inr (by rw [n3.eq]; exact c0.size), fun h => absurd (nbS _ h) (by rw [n3.eq]; exact Nat.lt_irrefl _)⟩
  have ah0_0 := slRep.ch k_Addr_pos ah0_0 n3.ch
  have c0 := c0.then0 n3.ch
  refine rl_assign rfl rfl ?_
  refine RL.nil ?_
  refine thn_n ?_
  refine CW.seq (CW.region ?_)
  refine rl_fieldAddr rfl fa30_0 rfl ?_
  refine rl_loadS (v := (Value.string a0.name)) rfl Try.isAgg9 (k4.cell rfl) rfl ?_
  refine rl_lenStr rfl Try.underlying9 rfl ?_
  refine rl_bin rfl rfl B.gtr rfl ?_
  refine rl_move rfl rfl ?_
  obtain ⟨b7, hb8⟩ : ∃ v, ((decide (((a0.name.size : Nat) : Int) > 400)) || (decide (((a0.zone.size : Nat) : Int) > 400))) = v := ⟨_, rfl⟩
  have hS := ltS hb8 hS
  refine RL.join 5 12 (.bool b7) (fun w' => Ch nb w2 w') ?_ ?_
  · rcases Bool.eq_false_or_eq_true (decide (((a0.name.size : Nat) : Int) > 400)) with hg6 | hg6
    ·
     have hs5 := or_t hg6 hb8
     have cs : Ch nb w2 w2 := Ch.refl
     refine RL.no rfl rfl rfl hg6 rfl rfl ?_
     refine RL.no rfl rfl rfl hg6 rfl rfl ?_
     refine RL.no rfl rfl rfl hg6 rfl rfl ?_
     refine RL.no rfl rfl rfl hg6 rfl rfl ?_
     refine rl_pickT rfl hg6 rfl rfl ?_
     exact RL.nil ⟨Ext.bothEq (congrArg Value.bool hs5) (Ext.skip rfl (Ext.skip rfl (Ext.skip rfl (Ext.skip rfl (Ext.rfl'))))), cs⟩
    ·
     have hs5 := or_f hg6 hb8
     have cs : Ch nb w2 w2 := Ch.refl
     refine RL.yes rfl rfl rfl hg6 ?_
     refine rl_fieldAddr rfl fa30_1 rfl ?_
     refine RL.yes rfl rfl rfl hg6 ?_
     refine rl_loadS (v := (Value.string a0.zone)) rfl Try.isAgg9 (k4.cell rfl) rfl ?_
     refine RL.yes rfl rfl rfl hg6 ?_
     refine rl_lenStr rfl Try.underlying9 rfl ?_
     refine RL.yes rfl rfl rfl hg6 ?_
     refine rl_bin rfl rfl B.gtr rfl ?_
     refine rl_pickF rfl hg6 rfl rfl ?_
     exact RL.nil ⟨Ext.bothEq (congrArg Value.bool hs5) (Ext.skip rfl (Ext.skip rfl (Ext.skip rfl (Ext.skip rfl (Ext.rfl'))))), cs⟩
  intro w9 c10
  have ah0_0 := slRep.ch k_Addr_pos ah0_0 c10
  have k4 := k4.ch0 c10
  have c0 := c0.then0 c10
  refine rl_move rfl rfl ?_
  obtain ⟨b13, hb14⟩ : ∃ v, (b7 || (decide (((a0.addrs.length : Nat) : Int) > 20))) = v := ⟨_, rfl⟩
  have hS := ltS hb14 hS
  refine RL.join 5 18 (.bool b13) (fun w' => Ch nb w9 w') ?_ ?_
  · rcases Bool.eq_false_or_eq_true b7 with hg12 | hg12
    ·
     have hs11 := or_t hg12 hb14
     have cs : Ch nb w9 w9 := Ch.refl
     refine RL.no rfl rfl rfl hg12 rfl rfl ?_
     refine RL.no rfl rfl rfl hg12 rfl rfl ?_
     refine RL.no rfl rfl rfl hg12 rfl rfl ?_
     refine RL.no rfl rfl rfl hg12 rfl rfl ?_
     refine rl_pickT rfl hg12 rfl rfl ?_
     exact RL.nil ⟨Ext.bothEq (congrArg Value.bool hs11) (Ext.skip rfl (Ext.skip rfl (Ext.skip rfl (Ext.skip rfl (Ext.rfl'))))), cs⟩
    ·
     have hs11 := or_f hg12 hb14
     have cs : Ch nb w9 w9 := Ch.refl
     refine RL.yes rfl rfl rfl hg12 ?_
     refine rl_fieldAddr rfl fa30_2 rfl ?_
     refine RL.yes rfl rfl rfl hg12 ?_
     refine rl_loadS (v := az0_0) rfl Try.isAgg24 (k4.cell rfl) rfl ?_
     refine RL.yes rfl rfl rfl hg12 ?_
     refine rl_lenR rfl ah0_0 Try.underlying24 rfl ?_
     refine RL.yes rfl rfl rfl hg12 ?_
     refine rl_bin rfl rfl B.gtr rfl ?_
     refine rl_pickF rfl hg12 rfl rfl ?_
     exact RL.nil ⟨Ext.bothEq (congrArg Value.bool hs11) (Ext.skip rfl (Ext.skip rfl (Ext.skip rfl (Ext.skip rfl (Ext.rfl'))))), cs⟩
  intro w15 c16
  have ah0_0 := slRep.ch k_Addr_pos ah0_0 c16
  have k4 := k4.ch0 c16
  have c0 := c0.then0 c16
  refine rl_assign rfl rfl ?_
  refine RL.nil ?_
  refine thn_n ?_
  refine CW.ret ?_
  obtain rfl := hS
  exact ret1 rfl ⟨rfl, c0⟩
/-- lb/lblaw20.Of -/
theorem ctr9 (F : Nat → Prop) (w : World) (a0 : (List Face)) (av0 : Value) (ah0 : slRep k_Face F w a0 av0) (r : (List Face)) (hs : F9_linkboylaw20_Of a0 = some r) :
    Ret Try.prog 9 #[av0] w fun v w' => ∃ (y0 : Value), v = y0 ∧ SlO k_Face 62 F w.heap.size (inBlk y0) w' r y0 ∧ Ch nb w w' := by
  have hS := hs
  have c0 : Ch nb w w := Ch.refl
  have ah0 := slRep.enter k_Face_pos ah0
  refine Ret.of (n := 19) (args := [_]) (rs := [.tmp 2]) Try.func9 rfl rfl rfl rfl ?_
  refine CW.seq (CW.region ?_)
  refine rl_assign rfl rfl ?_
  refine RL.nil ?_
  refine thn_n ?_
  refine CW.seq (CW.region ?_)
  refine rl_bslice (k := k_Face) (F := F) (B := w.heap.size) (S := nb) ([] : List Face) rfl k_Face_pos Try.underlying44 Try.sizeOf62 Try.zeroValue62 rfl rfl trivial c0.size nbS rfl ?_
  intro v1 w2 c3 hf4 h5
  have ah0 := slRep.st k_Face_pos ah0 c3 (admNew hf4 (fun _ x => x))
  have c0 := c0.then0 c3
  refine rl_assign rfl rfl ?_
  refine RL.nil ?_
  refine thn_n ?_
  refine CW.seq ?_
  refine CW.seq (CW.region ?_)
  refine rl_move rfl rfl ?_
  refine rl_lenR rfl ah0 Try.underlying34 rfl ?_
  refine rl_move rfl rfl ?_
  refine RL.nil ?_
  refine thn_n ?_
  obtain ⟨o16, ho17, hS⟩ := bindS hS
  refine CW.cutB (fun E' w' => ∃ (x6 : (List Face)) (v7 : Value), Sub [(3, v7)] E' ∧ Ch nb w w' ∧ x6 = o16 ∧ slRep k_Face (G F w.heap.size (un (inBlk v7) nb)) w' a0 av0 ∧ SlO k_Face 62 F w.heap.size (un (inBlk v7) nb) w' x6 v7) ?_ ?_
  ·
   refine CW.loopS [(7, av0), (8, (Value.int .i64 ((a0.length : Nat) : Int))), (3, v1), (9, (Value.int .i64 ((0 : Nat) : Int)))] ⟨rfl, rfl, rfl, rfl, trivial⟩ a0.length (fun m E w' => ∃ (rest9 : List Face) (i10 : Nat) (x6 : (List Face)) (v7 : Value), m = rest9.length ∧ E = [(7, av0), (8, (Value.int .i64 ((a0.length : Nat) : Int))), (3, v7), (9, (Value.int .i64 ((i10 : Nat) : Int)))] ∧ Ch nb w w' ∧ At a0 i10 rest9 ∧ runAO F9_linkboylaw20_Of_b1 rest9 x6 = some o16 ∧ slRep k_Face (G F w.heap.size (un (inBlk v7) nb)) w' a0 av0 ∧ SlO k_Face 62 F w.heap.size (un (inBlk v7) nb) w' x6 v7)
       ⟨a0, 0, [], v1, rfl, rfl, c0, At.start, ho17, ah0, h5⟩ ?_
   rintro _ _ w22 ⟨rest9, i10, x6, v7, rfl, rfl, c21, hat12, hL11, ah0, h8⟩
   refine CW.seq (CW.region ?_)
   refine rl_bin rfl rfl B.lss rfl ?_
   refine RL.nil (thn_n ?_)
   refine CW.seq ?_
   refine CW.cond (t := decide (((i10 : Nat) : Int) < ((a0.length : Nat) : Int))) rfl (fun q24 => ?_) (fun q24 => ?_)
   ·
    obtain ⟨x18, rest25, rfl⟩ := hat12.cons q24
    obtain ⟨q13, hq14⟩ := runAO_some hL11
    have hb15 := hq14
    refine CW.skip (thn_n ?_)
    refine CW.seq ?_
    refine CW.block ?_
    refine CW.seq (CW.region ?_)
    refine rl_ixR rfl ah0 rfl hat12.get Try.underlying34 Try.sizeOf42 rfl ?_
    intro p26 o27 cs28 hr29 hs30 hg31
    obtain rfl := hr29
    refine rl_loadA (cs := (Face.enc x18)) rfl Try.isAgg42 Try.sizeOf42 (hs30) rfl rfl ?_
    refine rl_alloc (Face.enc Face.z) Try.zeroValue42 rfl rfl ?_
    intro p32 w33 n34 k35
    have lo36 : ∀ b, inBlk (Value.pointer (some ⟨p32, 0, none⟩)) b → w.heap.size ≤ b := fun b h => Nat.le_trans c21.size (n34.fresh b h)
    have d37 : ∀ b, inBlk (Value.pointer (some ⟨p32, 0, none⟩)) b → ¬ inBlk v7 b := disNew n34.fresh (fun b hb => (h8.lt b hb).2)
    have ah0 := slRep.st k_Face_pos ah0 n34.ch (admNew n34.fresh (fun _ x => x))
    have h8 := h8.st n34.ch (fun _ _ x => x) (admNew n34.fresh (fun _ x => x)) (fun b h => (.inr (.inl h)))
    have c21 := c21.then0 n34.ch
    refine rl_storeA (vs := (Face.enc x18)) rfl rfl (all_one rfl) Try.sizeOf42 rfl k35 rfl ?_
    intro w38 s40 c39 k41
    have ad42 : ∀ b, b < w33.heap.size → ¬ (un (inBlk (Value.pointer (some ⟨p32, 0, none⟩))) (un (inBlk v7) nb)) b → ¬ (inBlk (Value.pointer (some ⟨p32, 0, none⟩))) b ∧ ¬ (un (inBlk (Value.pointer (some ⟨p32, 0, none⟩))) (un (inBlk v7) nb)) b := fun b _ hs => ⟨fun h => hs (.inl h), hs⟩
    have ah0 := slRep.st k_Face_pos ah0 c39 ad42
    have h8 := h8.st c39 (fun b hb h => (disSym d37) b hb h) ad42 (fun b h => (.inr (.inl h)))
    have c21 := c21.then c39 (fun i hi h => absurd (lo36 i h) (Nat.not_le_of_lt hi))
    refine RL.nil ?_
    refine thn_n ?_
    refine CW.region ?_
    refine rl_move rfl rfl ?_
    refine rl_loadA (cs := (Face.enc x18)) rfl Try.isAgg42 Try.sizeOf42 (k41.segAt 0 23) rfl rfl ?_
    refine rl_bslice (k := k_Face) (F := F) (B := w.heap.size) (S := (un (inBlk (Value.pointer (some ⟨p32, 0, none⟩))) (un (inBlk v7) nb))) ([x18] : List Face) rfl k_Face_pos Try.underlying44 Try.sizeOf62 Try.zeroValue62 rfl rfl ⟨rfl, rfl, trivial⟩ c21.size (un_lt k41.ltp (un_lt (fun b hb => (h8.lt b hb).2) nbS)) rfl ?_
    intro v43 w44 c45 hf46 h47
    have h47 := h47.readNew k_Face_pos hf46 (un_lt k41.ltp (un_lt (fun b hb => (h8.lt b hb).2) nbS))
    have ah0 := slRep.ch k_Face_pos ah0 c45
    have h8 := h8.ch0 c45
    have k41 := k41.ch0 c45
    have c21 := c21.then0 c45
    obtain ⟨z56, hz57, hb15⟩ := bindS hb15
    have hl := (apO_get hz57).1
    refine rl_append (k := k_Face) (T := 62) (F := F) (B := w.heap.size) (S := (un (inBlk (Value.pointer (some ⟨p32, 0, none⟩))) (un (inBlk v7) nb))) (S2 := (un (inBlk (Value.pointer (some ⟨p32, 0, none⟩))) nb)) (fun v => (un (inBlk (Value.pointer (some ⟨p32, 0, none⟩))) (un (inBlk v) nb))) rfl rfl k_Face_pos ap44 h8 h47 (fun _ => un_swap) (fun _ _ => un_swap) hl c21.size (un_lt k41.ltp (un_lt (fun b hb => (h8.lt b hb).2) nbS)) rfl ?_
    intro v50 w51 h52 c53 hf54 ha55
    have d58 : ∀ b, inBlk v50 b → ¬ inBlk (Value.pointer (some ⟨p32, 0, none⟩)) b := disApp hf54 (disSym d37) k41.ltp
    have ah0 := slRep.st k_Face_pos ah0 c53 ha55
    have k41 := k41.ch c53 ((fun b hb h => d37 b hb h) _ rfl)
    have h47 := slRep.st k_Face_pos h47 c53 ha55
    have c21 := c21.then c53 (fun i hi h => absurd ((fun b hb => (h8.lt b hb).1) i h) (Nat.not_le_of_lt hi))
    refine rl_assign rfl rfl ?_
    refine RL.nil ?_
    refine inB_n ?_
    refine thn_n ?_
    refine CW.region ?_
    refine rl_inc rfl hat12.lt ah0.big rfl ?_
    refine rl_move rfl rfl ?_
    refine RL.nil ?_
    refine thn_n ?_
    have crf : Ch nb w51 w51 := Ch.refl
    have ah0 := slRep.st k_Face_pos ah0 crf (show ∀ b, b < w51.heap.size → ¬ (un (inBlk (Value.pointer (some ⟨p32, 0, none⟩))) (un (inBlk v50) nb)) b → ¬ nb b ∧ ¬ (un (inBlk v50) nb) b from fun b _ hs => ⟨fun x => x, fun h => hs (un_el h (fun h => (.inr (.inl h))) (fun h => False.elim h))⟩)
    have h47 := slRep.st k_Face_pos h47 crf (show ∀ b, b < w51.heap.size → ¬ (un (inBlk (Value.pointer (some ⟨p32, 0, none⟩))) (un (inBlk v50) nb)) b → ¬ nb b ∧ ¬ (un (inBlk v50) nb) b from fun b _ hs => ⟨fun x => x, fun h => hs (un_el h (fun h => (.inr (.inl h))) (fun h => False.elim h))⟩)
    have h52 := h52.st crf (fun _ _ x => x) (show ∀ b, b < w51.heap.size → ¬ (un (inBlk (Value.pointer (some ⟨p32, 0, none⟩))) (un (inBlk v50) nb)) b → ¬ nb b ∧ ¬ (un (inBlk v50) nb) b from fun b _ hs => ⟨fun x => x, fun h => hs (un_el h (fun h => (.inr (.inl h))) (fun h => False.elim h))⟩) (fun b h => (.inl h))
    have c21 := c21.then0 crf
    have hLn := runAO_next hL11 hq14 hb15
    exact ⟨rest25.length, Nat.lt_succ_self _, [(7, av0), (8, (Value.int .i64 ((a0.length : Nat) : Int))), (3, v50), (9, (Value.int .i64 ((i10 + 1 : Nat) : Int)))], ⟨rfl, rfl, rfl, rfl, trivial⟩, ⟨rest25, i10 + 1, x6 ++ [x18], v50, rfl, rfl, c21, hat12.next, hLn, ah0, h52⟩⟩
   ·
    obtain rfl := hat12.nil q24
    have hLf : x6 = o16 := runAO_done hL11
    refine CW.exit (thn_exit (thn_exit (inB_hit ?_)))
    exact ⟨x6, v7, ⟨rfl, trivial⟩, c21, hLf, ah0, h8⟩
  ·
   rintro _ w60 ⟨x6, v7, hE61, c59, f62, ah0, h8⟩
   subst f62
   refine thn_n (CW.sub [(3, v7)] hE61 ?_)
   refine CW.seq (CW.region ?_)
   refine rl_move rfl rfl ?_
   refine rl_assign rfl rfl ?_
   refine RL.nil ?_
   refine thn_n ?_
   refine CW.ret ?_
   obtain rfl := Option.some.inj hS
   exact ret1 rfl ⟨v7, rfl, h8.out, c59⟩
/-- lb/lblaw13.ports -/
theorem ctr16 (F : Nat → Prop) (w : World) (a0 : (List Port)) (av0 : Value) (ah0 : slRep k_Port F w a0 av0) (r : (List Port)) (hs : F16_linkboylaw13_ports a0 = some r) :
    Ret Try.prog 16 #[av0] w fun v w' => ∃ (y0 : Value), v = y0 ∧ SlO k_Port 63 F w.heap.size (inBlk y0) w' r y0 ∧ Ch nb w w' := by
  have hS := hs
  have c0 : Ch nb w w := Ch.refl
  have ah0 := slRep.enter k_Port_pos ah0
  refine Ret.of (n := 19) (args := [_]) (rs := [.tmp 2]) Try.func16 rfl rfl rfl rfl ?_
  refine CW.seq (CW.region ?_)
  refine rl_assign rfl rfl ?_
  refine RL.nil ?_
  refine thn_n ?_
  refine CW.seq (CW.region ?_)
  refine rl_bslice (k := k_Port) (F := F) (B := w.heap.size) (S := nb) ([] : List Port) rfl k_Port_pos Try.underlying47 Try.sizeOf63 Try.zeroValue63 rfl rfl trivial c0.size nbS rfl ?_
  intro v1 w2 c3 hf4 h5
  have ah0 := slRep.st k_Port_pos ah0 c3 (admNew hf4 (fun _ x => x))
  have c0 := c0.then0 c3
  refine rl_assign rfl rfl ?_
  refine RL.nil ?_
  refine thn_n ?_
  refine CW.seq ?_
  refine CW.seq (CW.region ?_)
  refine rl_move rfl rfl ?_
  refine rl_lenR rfl ah0 Try.underlying26 rfl ?_
  refine rl_move rfl rfl ?_
  refine RL.nil ?_
  refine thn_n ?_
  obtain ⟨o16, ho17, hS⟩ := bindS hS
  refine CW.cutB (fun E' w' => ∃ (x6 : (List Port)) (v7 : Value), Sub [(3, v7)] E' ∧ Ch nb w w' ∧ x6 = o16 ∧ slRep k_Port (G F w.heap.size (un (inBlk v7) nb)) w' a0 av0 ∧ SlO k_Port 63 F w.heap.size (un (inBlk v7) nb) w' x6 v7) ?_ ?_
  ·
   refine CW.loopS [(7, av0), (8, (Value.int .i64 ((a0.length : Nat) : Int))), (3, v1), (9, (Value.int .i64 ((0 : Nat) : Int)))] ⟨rfl, rfl, rfl, rfl, trivial⟩ a0.length (fun m E w' => ∃ (rest9 : List Port) (i10 : Nat) (x6 : (List Port)) (v7 : Value), m = rest9.length ∧ E = [(7, av0), (8, (Value.int .i64 ((a0.length : Nat) : Int))), (3, v7), (9, (Value.int .i64 ((i10 : Nat) : Int)))] ∧ Ch nb w w' ∧ At a0 i10 rest9 ∧ runAO F16_linkboylaw13_ports_b1 rest9 x6 = some o16 ∧ slRep k_Port (G F w.heap.size (un (inBlk v7) nb)) w' a0 av0 ∧ SlO k_Port 63 F w.heap.size (un (inBlk v7) nb) w' x6 v7)
       ⟨a0, 0, [], v1, rfl, rfl, c0, At.start, ho17, ah0, h5⟩ ?_
   rintro _ _ w22 ⟨rest9, i10, x6, v7, rfl, rfl, c21, hat12, hL11, ah0, h8⟩
   refine CW.seq (CW.region ?_)
   refine rl_bin rfl rfl B.lss rfl ?_
   refine RL.nil (thn_n ?_)
   refine CW.seq ?_
   refine CW.cond (t := decide (((i10 : Nat) : Int) < ((a0.length : Nat) : Int))) rfl (fun q24 => ?_) (fun q24 => ?_)
   ·
    obtain ⟨x18, rest25, rfl⟩ := hat12.cons q24
    obtain ⟨q13, hq14⟩ := runAO_some hL11
    have hb15 := hq14
    refine CW.skip (thn_n ?_)
    refine CW.seq ?_
    refine CW.block ?_
    refine CW.seq (CW.region ?_)
    refine rl_ixR rfl ah0 rfl hat12.get Try.underlying26 Try.sizeOf55 rfl ?_
    intro p26 o27 cs28 hr29 hs30 hg31
    obtain rfl := hr29
    refine rl_loadA (cs := (Port.enc x18)) rfl Try.isAgg55 Try.sizeOf55 (hs30) rfl rfl ?_
    refine rl_alloc (Port.enc Port.z) Try.zeroValue55 rfl rfl ?_
    intro p32 w33 n34 k35
    have lo36 : ∀ b, inBlk (Value.pointer (some ⟨p32, 0, none⟩)) b → w.heap.size ≤ b := fun b h => Nat.le_trans c21.size (n34.fresh b h)
    have d37 : ∀ b, inBlk (Value.pointer (some ⟨p32, 0, none⟩)) b → ¬ inBlk v7 b := disNew n34.fresh (fun b hb => (h8.lt b hb).2)
    have ah0 := slRep.st k_Port_pos ah0 n34.ch (admNew n34.fresh (fun _ x => x))
    have h8 := h8.st n34.ch (fun _ _ x => x) (admNew n34.fresh (fun _ x => x)) (fun b h => (.inr (.inl h)))
    have c21 := c21.then0 n34.ch
    refine rl_storeA (vs := (Port.enc x18)) rfl rfl (all_one rfl) Try.sizeOf55 rfl k35 rfl ?_
    intro w38 s40 c39 k41
    have ad42 : ∀ b, b < w33.heap.size → ¬ (un (inBlk (Value.pointer (some ⟨p32, 0, none⟩))) (un (inBlk v7) nb)) b → ¬ (inBlk (Value.pointer (some ⟨p32, 0, none⟩))) b ∧ ¬ (un (inBlk (Value.pointer (some ⟨p32, 0, none⟩))) (un (inBlk v7) nb)) b := fun b _ hs => ⟨fun h => hs (.inl h), hs⟩
    have ah0 := slRep.st k_Port_pos ah0 c39 ad42
    have h8 := h8.st c39 (fun b hb h => (disSym d37) b hb h) ad42 (fun b h => (.inr (.inl h)))
    have c21 := c21.then c39 (fun i hi h => absurd (lo36 i h) (Nat.not_le_of_lt hi))
    refine RL.nil ?_
    refine thn_n ?_
    refine CW.region ?_
    refine rl_move rfl rfl ?_
    refine rl_loadA (cs := (Port.enc x18)) rfl Try.isAgg55 Try.sizeOf55 (k41.segAt 0 4) rfl rfl ?_
    refine rl_bslice (k := k_Port) (F := F) (B := w.heap.size) (S := (un (inBlk (Value.pointer (some ⟨p32, 0, none⟩))) (un (inBlk v7) nb))) ([x18] : List Port) rfl k_Port_pos Try.underlying47 Try.sizeOf63 Try.zeroValue63 rfl rfl ⟨rfl, rfl, trivial⟩ c21.size (un_lt k41.ltp (un_lt (fun b hb => (h8.lt b hb).2) nbS)) rfl ?_
    intro v43 w44 c45 hf46 h47
    have h47 := h47.readNew k_Port_pos hf46 (un_lt k41.ltp (un_lt (fun b hb => (h8.lt b hb).2) nbS))
    have ah0 := slRep.ch k_Port_pos ah0 c45
    have h8 := h8.ch0 c45
    have k41 := k41.ch0 c45
    have c21 := c21.then0 c45
    obtain ⟨z56, hz57, hb15⟩ := bindS hb15
    have hl := (apO_get hz57).1
    refine rl_append (k := k_Port) (T := 63) (F := F) (B := w.heap.size) (S := (un (inBlk (Value.pointer (some ⟨p32, 0, none⟩))) (un (inBlk v7) nb))) (S2 := (un (inBlk (Value.pointer (some ⟨p32, 0, none⟩))) nb)) (fun v => (un (inBlk (Value.pointer (some ⟨p32, 0, none⟩))) (un (inBlk v) nb))) rfl rfl k_Port_pos ap47 h8 h47 (fun _ => un_swap) (fun _ _ => un_swap) hl c21.size (un_lt k41.ltp (un_lt (fun b hb => (h8.lt b hb).2) nbS)) rfl ?_
    intro v50 w51 h52 c53 hf54 ha55
    have d58 : ∀ b, inBlk v50 b → ¬ inBlk (Value.pointer (some ⟨p32, 0, none⟩)) b := disApp hf54 (disSym d37) k41.ltp
    have ah0 := slRep.st k_Port_pos ah0 c53 ha55
    have k41 := k41.ch c53 ((fun b hb h => d37 b hb h) _ rfl)
    have h47 := slRep.st k_Port_pos h47 c53 ha55
    have c21 := c21.then c53 (fun i hi h => absurd ((fun b hb => (h8.lt b hb).1) i h) (Nat.not_le_of_lt hi))
    refine rl_assign rfl rfl ?_
    refine RL.nil ?_
    refine inB_n ?_
    refine thn_n ?_
    refine CW.region ?_
    refine rl_inc rfl hat12.lt ah0.big rfl ?_
    refine rl_move rfl rfl ?_
    refine RL.nil ?_
    refine thn_n ?_
    have crf : Ch nb w51 w51 := Ch.refl
    have ah0 := slRep.st k_Port_pos ah0 crf (show ∀ b, b < w51.heap.size → ¬ (un (inBlk (Value.pointer (some ⟨p32, 0, none⟩))) (un (inBlk v50) nb)) b → ¬ nb b ∧ ¬ (un (inBlk v50) nb) b from fun b _ hs => ⟨fun x => x, fun h => hs (un_el h (fun h => (.inr (.inl h))) (fun h => False.elim h))⟩)
    have h47 := slRep.st k_Port_pos h47 crf (show ∀ b, b < w51.heap.size → ¬ (un (inBlk (Value.pointer (some ⟨p32, 0, none⟩))) (un (inBlk v50) nb)) b → ¬ nb b ∧ ¬ (un (inBlk v50) nb) b from fun b _ hs => ⟨fun x => x, fun h => hs (un_el h (fun h => (.inr (.inl h))) (fun h => False.elim h))⟩)
    have h52 := h52.st crf (fun _ _ x => x) (show ∀ b, b < w51.heap.size → ¬ (un (inBlk (Value.pointer (some ⟨p32, 0, none⟩))) (un (inBlk v50) nb)) b → ¬ nb b ∧ ¬ (un (inBlk v50) nb) b from fun b _ hs => ⟨fun x => x, fun h => hs (un_el h (fun h => (.inr (.inl h))) (fun h => False.elim h))⟩) (fun b h => (.inl h))
    have c21 := c21.then0 crf
    have hLn := runAO_next hL11 hq14 hb15
    exact ⟨rest25.length, Nat.lt_succ_self _, [(7, av0), (8, (Value.int .i64 ((a0.length : Nat) : Int))), (3, v50), (9, (Value.int .i64 ((i10 + 1 : Nat) : Int)))], ⟨rfl, rfl, rfl, rfl, trivial⟩, ⟨rest25, i10 + 1, x6 ++ [x18], v50, rfl, rfl, c21, hat12.next, hLn, ah0, h52⟩⟩
   ·
    obtain rfl := hat12.nil q24
    have hLf : x6 = o16 := runAO_done hL11
    refine CW.exit (thn_exit (thn_exit (inB_hit ?_)))
    exact ⟨x6, v7, ⟨rfl, trivial⟩, c21, hLf, ah0, h8⟩
  ·
   rintro _ w60 ⟨x6, v7, hE61, c59, f62, ah0, h8⟩
   subst f62
   refine thn_n (CW.sub [(3, v7)] hE61 ?_)
   refine CW.seq (CW.region ?_)
   refine rl_move rfl rfl ?_
   refine rl_assign rfl rfl ?_
   refine RL.nil ?_
   refine thn_n ?_
   refine CW.ret ?_
   obtain rfl := Option.some.inj hS
   exact ret1 rfl ⟨v7, rfl, h8.out, c59⟩
/-- lb/lblaw13.Service -/
theorem ctr11 (F : Nat → Prop) (w : World) (a0 : Service) (az0_0 az0_1 az0_2 az0_3 az0_4 : Value) (ah0_0 : slRep k_Addr F w a0.cluster az0_0) (ah0_1 : slRep k_Addr F w a0.external az0_1) (ah0_2 : slRep k_Addr F w a0.balancers az0_2) (ah0_3 : slRep k_Cidr F w a0.ranges az0_3) (ah0_4 : slRep k_Port F w a0.ports az0_4) (r : Service) (hs : F11_linkboylaw13_Service a0 = some r) :
    Ret Try.prog 11 #[(Value.agg (Service.c a0 az0_0 az0_1 az0_2 az0_3 az0_4).toArray)] w fun v w' => ∃ (y0_0 : Value) (y0_1 : Value) (y0_2 : Value) (y0_3 : Value) (y0_4 : Value), v = (Value.agg (Service.c r y0_0 y0_1 y0_2 y0_3 y0_4).toArray) ∧ slRep k_Addr (fun b => F b ∨ w.heap.size ≤ b) w' r.cluster y0_0 ∧ slRep k_Addr (fun b => F b ∨ w.heap.size ≤ b) w' r.external y0_1 ∧ slRep k_Addr (fun b => F b ∨ w.heap.size ≤ b) w' r.balancers y0_2 ∧ slRep k_Cidr (fun b => F b ∨ w.heap.size ≤ b) w' r.ranges y0_3 ∧ slRep k_Port (fun b => F b ∨ w.heap.size ≤ b) w' r.ports y0_4 ∧ Ch nb w w' := by
  have hS := hs
  have c0 : Ch nb w w := Ch.refl
  have ah0_0 := slRep.enter k_Addr_pos ah0_0
  have ah0_1 := slRep.enter k_Addr_pos ah0_1
  have ah0_2 := slRep.enter k_Addr_pos ah0_2
  have ah0_3 := slRep.enter k_Cidr_pos ah0_3
  have ah0_4 := slRep.enter k_Port_pos ah0_4
  refine Ret.of (n := 29) (args := [_]) (rs := [.cell 2 49]) Try.func11 rfl rfl rfl rfl ?_
  refine CW.seq (CW.region ?_)
  refine rl_boxA (cs := (Service.c a0 az0_0 az0_1 az0_2 az0_3 az0_4)) rfl rfl ?_
  intro p1 w2 n3 k4
  have gp1 : (G F w.heap.size nb) p1 := ⟨.inr (by rw [n3.eq]; exact c0.size), fun h => absurd (nbS _ h) (by rw [n3.eq]; exact Nat.lt_irrefl _)⟩
  have ah0_0 := slRep.ch k_Addr_pos ah0_0 n3.ch
  have ah0_1 := slRep.ch k_Addr_pos ah0_1 n3.ch
  have ah0_2 := slRep.ch k_Addr_pos ah0_2 n3.ch
  have ah0_3 := slRep.ch k_Cidr_pos ah0_3 n3.ch
  have ah0_4 := slRep.ch k_Port_pos ah0_4 n3.ch
  have c0 := c0.then0 n3.ch
  refine rl_alloc (Service.c Service.z (Value.slice none 0 0) (Value.slice none 0 0) (Value.slice none 0 0) (Value.slice none 0 0) (Value.slice none 0 0)) Try.zeroValue49 rfl rfl ?_
  intro p5 w6 n7 k8
  have lo9 : ∀ b, inBlk (Value.pointer (some ⟨p5, 0, none⟩)) b → w.heap.size ≤ b := fun b h => Nat.le_trans c0.size (n7.fresh b h)
  have ah0_0 := slRep.st k_Addr_pos ah0_0 n7.ch (admNew n7.fresh (fun _ x => x))
  have ah0_1 := slRep.st k_Addr_pos ah0_1 n7.ch (admNew n7.fresh (fun _ x => x))
  have ah0_2 := slRep.st k_Addr_pos ah0_2 n7.ch (admNew n7.fresh (fun _ x => x))
  have ah0_3 := slRep.st k_Cidr_pos ah0_3 n7.ch (admNew n7.fresh (fun _ x => x))
  have ah0_4 := slRep.st k_Port_pos ah0_4 n7.ch (admNew n7.fresh (fun _ x => x))
  have gp1n : (G F w.heap.size (un (inBlk (Value.pointer (some ⟨p5, 0, none⟩))) nb)) p1 := ⟨gp1.1, ((admNew n7.fresh (fun _ x => x)) _ k4.lt gp1.2).2⟩
  have k4 := k4.ch0 n7.ch
  have gp1 := gp1n
  have c0 := c0.then0 n7.ch
  refine RL.nil ?_
  refine thn_n ?_
  refine CW.seq ?_
  obtain ⟨y12, hy13, hS⟩ := bindS hS
  refine CW.draw 25 [(none, fun _ O uu wx => uu = (Value.pointer (some ⟨p1, 0, none⟩))), (none, fun _ O uu wx => uu = (Value.agg (Key.enc a0.key).toArray)), (none, fun _ O uu wx => uu = (Value.pointer (some ⟨p1, 2, none⟩))), (none, fun _ O uu wx => uu = (Value.int .i64 a0.kind)), (none, fun _ O uu wx => uu = (Value.pointer (some ⟨p1, 3, none⟩))), (none, fun _ O uu wx => uu = az0_0), (none, fun _ O uu wx => uu = (Value.pointer (some ⟨p1, 4, none⟩))), (none, fun _ O uu wx => uu = az0_1), (none, fun _ O uu wx => uu = (Value.pointer (some ⟨p1, 5, none⟩))), (none, fun _ O uu wx => uu = az0_2), (none, fun _ O uu wx => uu = (Value.pointer (some ⟨p1, 6, none⟩))), (none, fun _ O uu wx => uu = az0_3), (none, fun _ O uu wx => uu = (Value.pointer (some ⟨p1, 7, none⟩))), (none, fun _ O uu wx => uu = az0_4), (none, fun _ O uu wx => ∃ (v14 : Value), uu = v14 ∧ slRep k_Port (G F w.heap.size (un (inBlk (Value.pointer (some ⟨p5, 0, none⟩))) nb)) wx y12 v14), (none, fun _ O uu wx => uu = (Value.pointer (some ⟨p1, 8, none⟩))), (none, fun _ O uu wx => uu = (Value.bool a0.internalLocal)), (none, fun _ O uu wx => uu = (Value.pointer (some ⟨p1, 9, none⟩))), (none, fun _ O uu wx => uu = (Value.bool a0.externalLocal)), (none, fun _ O uu wx => uu = (Value.pointer (some ⟨p1, 10, none⟩))), (none, fun _ O uu wx => uu = (Value.bool a0.sticky)), (none, fun _ O uu wx => uu = (Value.pointer (some ⟨p1, 11, none⟩))), (none, fun _ O uu wx => uu = (Value.int .i64 a0.ticks)), (none, fun _ O uu wx => uu = (Value.pointer (some ⟨p1, 12, none⟩))), (none, fun _ O uu wx => uu = (Value.bool a0.hinted))] [[], [0], [], [2], [], [4], [], [6], [], [8], [], [10], [], [12], [13], [], [15], [], [17], [], [19], [], [21], [], [23]] [1, 3, 5, 7, 9, 11, 14, 16, 18, 20, 22, 24] nb (fun _ h => h.elim) mixed rfl rfl rfl rfl ?_ ?_
  ·
   refine Each.consA ⟨fun _ _ _ _ _ _ h => h, fun h => absurd rfl h, fun O wk hO ck => ?_⟩ ?_
   ·
    have ah0_0 := slRep.ch k_Addr_pos ah0_0 ck
    have ah0_1 := slRep.ch k_Addr_pos ah0_1 ck
    have ah0_2 := slRep.ch k_Addr_pos ah0_2 ck
    have ah0_3 := slRep.ch k_Cidr_pos ah0_3 ck
    have ah0_4 := slRep.ch k_Port_pos ah0_4 ck
    have k4 := k4.ch0 ck
    have k8 := k8.ch0 ck
    have c0 := c0.then0 ck
    refine rl_fieldAddr rfl fa28_0 rfl ?_
    exact RL.nil ⟨_, rfl, Ch.refl, rfl⟩
   refine Each.consA ⟨fun _ _ _ _ _ _ h => h, fun h => absurd rfl h, fun O wk hO ck => ?_⟩ ?_
   ·
    have ah0_0 := slRep.ch k_Addr_pos ah0_0 ck
    have ah0_1 := slRep.ch k_Addr_pos ah0_1 ck
    have ah0_2 := slRep.ch k_Addr_pos ah0_2 ck
    have ah0_3 := slRep.ch k_Cidr_pos ah0_3 ck
    have ah0_4 := slRep.ch k_Port_pos ah0_4 ck
    have k4 := k4.ch0 ck
    have k8 := k8.ch0 ck
    have c0 := c0.then0 ck
    refine Need.one rfl rfl rfl ?_
    rintro _ e21
    obtain rfl := e21.symm
    refine rl_loadA (cs := (Key.enc a0.key)) rfl Try.isAgg23 Try.sizeOf23 (k4.segAt 0 2) rfl rfl ?_
    exact RL.nil ⟨_, rfl, Ch.refl, rfl⟩
   refine Each.consA ⟨fun _ _ _ _ _ _ h => h, fun h => absurd rfl h, fun O wk hO ck => ?_⟩ ?_
   ·
    have ah0_0 := slRep.ch k_Addr_pos ah0_0 ck
    have ah0_1 := slRep.ch k_Addr_pos ah0_1 ck
    have ah0_2 := slRep.ch k_Addr_pos ah0_2 ck
    have ah0_3 := slRep.ch k_Cidr_pos ah0_3 ck
    have ah0_4 := slRep.ch k_Port_pos ah0_4 ck
    have k4 := k4.ch0 ck
    have k8 := k8.ch0 ck
    have c0 := c0.then0 ck
    refine rl_fieldAddr rfl fa28_1 rfl ?_
    exact RL.nil ⟨_, rfl, Ch.refl, rfl⟩
   refine Each.consA ⟨fun _ _ _ _ _ _ h => h, fun h => absurd rfl h, fun O wk hO ck => ?_⟩ ?_
   ·
    have ah0_0 := slRep.ch k_Addr_pos ah0_0 ck
    have ah0_1 := slRep.ch k_Addr_pos ah0_1 ck
    have ah0_2 := slRep.ch k_Addr_pos ah0_2 ck
    have ah0_3 := slRep.ch k_Cidr_pos ah0_3 ck
    have ah0_4 := slRep.ch k_Port_pos ah0_4 ck
    have k4 := k4.ch0 ck
    have k8 := k8.ch0 ck
    have c0 := c0.then0 ck
    refine Need.one rfl rfl rfl ?_
    rintro _ e22
    obtain rfl := e22.symm
    refine rl_loadS (v := (Value.int .i64 a0.kind)) rfl Try.isAgg3 (k4.cell rfl) rfl ?_
    exact RL.nil ⟨_, rfl, Ch.refl, rfl⟩
   refine Each.consA ⟨fun _ _ _ _ _ _ h => h, fun h => absurd rfl h, fun O wk hO ck => ?_⟩ ?_
   ·
    have ah0_0 := slRep.ch k_Addr_pos ah0_0 ck
    have ah0_1 := slRep.ch k_Addr_pos ah0_1 ck
    have ah0_2 := slRep.ch k_Addr_pos ah0_2 ck
    have ah0_3 := slRep.ch k_Cidr_pos ah0_3 ck
    have ah0_4 := slRep.ch k_Port_pos ah0_4 ck
    have k4 := k4.ch0 ck
    have k8 := k8.ch0 ck
    have c0 := c0.then0 ck
    refine rl_fieldAddr rfl fa28_2 rfl ?_
    exact RL.nil ⟨_, rfl, Ch.refl, rfl⟩
   refine Each.consA ⟨fun _ _ _ _ _ _ h => h, fun h => absurd rfl h, fun O wk hO ck => ?_⟩ ?_
   ·
    have ah0_0 := slRep.ch k_Addr_pos ah0_0 ck
    have ah0_1 := slRep.ch k_Addr_pos ah0_1 ck
    have ah0_2 := slRep.ch k_Addr_pos ah0_2 ck
    have ah0_3 := slRep.ch k_Cidr_pos ah0_3 ck
    have ah0_4 := slRep.ch k_Port_pos ah0_4 ck
    have k4 := k4.ch0 ck
    have k8 := k8.ch0 ck
    have c0 := c0.then0 ck
    refine Need.one rfl rfl rfl ?_
    rintro _ e23
    obtain rfl := e23.symm
    refine rl_loadS (v := az0_0) rfl Try.isAgg24 (k4.cell rfl) rfl ?_
    exact RL.nil ⟨_, rfl, Ch.refl, rfl⟩
   refine Each.consA ⟨fun _ _ _ _ _ _ h => h, fun h => absurd rfl h, fun O wk hO ck => ?_⟩ ?_
   ·
    have ah0_0 := slRep.ch k_Addr_pos ah0_0 ck
    have ah0_1 := slRep.ch k_Addr_pos ah0_1 ck
    have ah0_2 := slRep.ch k_Addr_pos ah0_2 ck
    have ah0_3 := slRep.ch k_Cidr_pos ah0_3 ck
    have ah0_4 := slRep.ch k_Port_pos ah0_4 ck
    have k4 := k4.ch0 ck
    have k8 := k8.ch0 ck
    have c0 := c0.then0 ck
    refine rl_fieldAddr rfl fa28_3 rfl ?_
    exact RL.nil ⟨_, rfl, Ch.refl, rfl⟩
   refine Each.consA ⟨fun _ _ _ _ _ _ h => h, fun h => absurd rfl h, fun O wk hO ck => ?_⟩ ?_
   ·
    have ah0_0 := slRep.ch k_Addr_pos ah0_0 ck
    have ah0_1 := slRep.ch k_Addr_pos ah0_1 ck
    have ah0_2 := slRep.ch k_Addr_pos ah0_2 ck
    have ah0_3 := slRep.ch k_Cidr_pos ah0_3 ck
    have ah0_4 := slRep.ch k_Port_pos ah0_4 ck
    have k4 := k4.ch0 ck
    have k8 := k8.ch0 ck
    have c0 := c0.then0 ck
    refine Need.one rfl rfl rfl ?_
    rintro _ e24
    obtain rfl := e24.symm
    refine rl_loadS (v := az0_1) rfl Try.isAgg24 (k4.cell rfl) rfl ?_
    exact RL.nil ⟨_, rfl, Ch.refl, rfl⟩
   refine Each.consA ⟨fun _ _ _ _ _ _ h => h, fun h => absurd rfl h, fun O wk hO ck => ?_⟩ ?_
   ·
    have ah0_0 := slRep.ch k_Addr_pos ah0_0 ck
    have ah0_1 := slRep.ch k_Addr_pos ah0_1 ck
    have ah0_2 := slRep.ch k_Addr_pos ah0_2 ck
    have ah0_3 := slRep.ch k_Cidr_pos ah0_3 ck
    have ah0_4 := slRep.ch k_Port_pos ah0_4 ck
    have k4 := k4.ch0 ck
    have k8 := k8.ch0 ck
    have c0 := c0.then0 ck
    refine rl_fieldAddr rfl fa28_4 rfl ?_
    exact RL.nil ⟨_, rfl, Ch.refl, rfl⟩
   refine Each.consA ⟨fun _ _ _ _ _ _ h => h, fun h => absurd rfl h, fun O wk hO ck => ?_⟩ ?_
   ·
    have ah0_0 := slRep.ch k_Addr_pos ah0_0 ck
    have ah0_1 := slRep.ch k_Addr_pos ah0_1 ck
    have ah0_2 := slRep.ch k_Addr_pos ah0_2 ck
    have ah0_3 := slRep.ch k_Cidr_pos ah0_3 ck
    have ah0_4 := slRep.ch k_Port_pos ah0_4 ck
    have k4 := k4.ch0 ck
    have k8 := k8.ch0 ck
    have c0 := c0.then0 ck
    refine Need.one rfl rfl rfl ?_
    rintro _ e25
    obtain rfl := e25.symm
    refine rl_loadS (v := az0_2) rfl Try.isAgg24 (k4.cell rfl) rfl ?_
    exact RL.nil ⟨_, rfl, Ch.refl, rfl⟩
   refine Each.consA ⟨fun _ _ _ _ _ _ h => h, fun h => absurd rfl h, fun O wk hO ck => ?_⟩ ?_
   ·
    have ah0_0 := slRep.ch k_Addr_pos ah0_0 ck
    have ah0_1 := slRep.ch k_Addr_pos ah0_1 ck
    have ah0_2 := slRep.ch k_Addr_pos ah0_2 ck
    have ah0_3 := slRep.ch k_Cidr_pos ah0_3 ck
    have ah0_4 := slRep.ch k_Port_pos ah0_4 ck
    have k4 := k4.ch0 ck
    have k8 := k8.ch0 ck
    have c0 := c0.then0 ck
    refine rl_fieldAddr rfl fa28_5 rfl ?_
    exact RL.nil ⟨_, rfl, Ch.refl, rfl⟩
   refine Each.consA ⟨fun _ _ _ _ _ _ h => h, fun h => absurd rfl h, fun O wk hO ck => ?_⟩ ?_
   ·
    have ah0_0 := slRep.ch k_Addr_pos ah0_0 ck
    have ah0_1 := slRep.ch k_Addr_pos ah0_1 ck
    have ah0_2 := slRep.ch k_Addr_pos ah0_2 ck
    have ah0_3 := slRep.ch k_Cidr_pos ah0_3 ck
    have ah0_4 := slRep.ch k_Port_pos ah0_4 ck
    have k4 := k4.ch0 ck
    have k8 := k8.ch0 ck
    have c0 := c0.then0 ck
    refine Need.one rfl rfl rfl ?_
    rintro _ e26
    obtain rfl := e26.symm
    refine rl_loadS (v := az0_3) rfl Try.isAgg25 (k4.cell rfl) rfl ?_
    exact RL.nil ⟨_, rfl, Ch.refl, rfl⟩
   refine Each.consA ⟨fun _ _ _ _ _ _ h => h, fun h => absurd rfl h, fun O wk hO ck => ?_⟩ ?_
   ·
    have ah0_0 := slRep.ch k_Addr_pos ah0_0 ck
    have ah0_1 := slRep.ch k_Addr_pos ah0_1 ck
    have ah0_2 := slRep.ch k_Addr_pos ah0_2 ck
    have ah0_3 := slRep.ch k_Cidr_pos ah0_3 ck
    have ah0_4 := slRep.ch k_Port_pos ah0_4 ck
    have k4 := k4.ch0 ck
    have k8 := k8.ch0 ck
    have c0 := c0.then0 ck
    refine rl_fieldAddr rfl fa28_6 rfl ?_
    exact RL.nil ⟨_, rfl, Ch.refl, rfl⟩
   refine Each.consA ⟨fun _ _ _ _ _ _ h => h, fun h => absurd rfl h, fun O wk hO ck => ?_⟩ ?_
   ·
    have ah0_0 := slRep.ch k_Addr_pos ah0_0 ck
    have ah0_1 := slRep.ch k_Addr_pos ah0_1 ck
    have ah0_2 := slRep.ch k_Addr_pos ah0_2 ck
    have ah0_3 := slRep.ch k_Cidr_pos ah0_3 ck
    have ah0_4 := slRep.ch k_Port_pos ah0_4 ck
    have k4 := k4.ch0 ck
    have k8 := k8.ch0 ck
    have c0 := c0.then0 ck
    refine Need.one rfl rfl rfl ?_
    rintro _ e27
    obtain rfl := e27.symm
    refine rl_loadS (v := az0_4) rfl Try.isAgg26 (k4.cell rfl) rfl ?_
    exact RL.nil ⟨_, rfl, Ch.refl, rfl⟩
   refine Each.consA ⟨fun _ _ _ _ _ cc hh => by obtain ⟨v14, e, h15⟩ := hh; exact ⟨v14, e, slRep.ch k_Port_pos h15 cc⟩, fun h => absurd rfl h, fun O wk hO ck => ?_⟩ ?_
   ·
    have ah0_0 := slRep.ch k_Addr_pos ah0_0 ck
    have ah0_1 := slRep.ch k_Addr_pos ah0_1 ck
    have ah0_2 := slRep.ch k_Addr_pos ah0_2 ck
    have ah0_3 := slRep.ch k_Cidr_pos ah0_3 ck
    have ah0_4 := slRep.ch k_Port_pos ah0_4 ck
    have k4 := k4.ch0 ck
    have k8 := k8.ch0 ck
    have c0 := c0.then0 ck
    refine Need.one rfl rfl rfl ?_
    rintro _ e28
    obtain rfl := e28.symm
    refine rl_callF rfl en16 rfl (ctr16 (G F w.heap.size (un (inBlk (Value.pointer (some ⟨p5, 0, none⟩))) nb)) wk a0.ports az0_4 ah0_4 y12 hy13) ?_
    rintro v31 w29 ⟨_, rfl, h32, c30⟩
    have h32 := SlO.backR k_Port_pos h32 (un_lt k8.ltp nbS) c0.size
    have ah0_0 := slRep.ch k_Addr_pos ah0_0 c30
    have ah0_1 := slRep.ch k_Addr_pos ah0_1 c30
    have ah0_2 := slRep.ch k_Addr_pos ah0_2 c30
    have ah0_3 := slRep.ch k_Cidr_pos ah0_3 c30
    have ah0_4 := slRep.ch k_Port_pos ah0_4 c30
    have k4 := k4.ch0 c30
    have k8 := k8.ch0 c30
    have c0 := c0.then0 c30
    exact RL.nil ⟨_, rfl, c30, ⟨v31, rfl, h32⟩⟩
   refine Each.consA ⟨fun _ _ _ _ _ _ h => h, fun h => absurd rfl h, fun O wk hO ck => ?_⟩ ?_
   ·
    have ah0_0 := slRep.ch k_Addr_pos ah0_0 ck
    have ah0_1 := slRep.ch k_Addr_pos ah0_1 ck
    have ah0_2 := slRep.ch k_Addr_pos ah0_2 ck
    have ah0_3 := slRep.ch k_Cidr_pos ah0_3 ck
    have ah0_4 := slRep.ch k_Port_pos ah0_4 ck
    have k4 := k4.ch0 ck
    have k8 := k8.ch0 ck
    have c0 := c0.then0 ck
    refine rl_fieldAddr rfl fa28_7 rfl ?_
    exact RL.nil ⟨_, rfl, Ch.refl, rfl⟩
   refine Each.consA ⟨fun _ _ _ _ _ _ h => h, fun h => absurd rfl h, fun O wk hO ck => ?_⟩ ?_
   ·
    have ah0_0 := slRep.ch k_Addr_pos ah0_0 ck
    have ah0_1 := slRep.ch k_Addr_pos ah0_1 ck
    have ah0_2 := slRep.ch k_Addr_pos ah0_2 ck
    have ah0_3 := slRep.ch k_Cidr_pos ah0_3 ck
    have ah0_4 := slRep.ch k_Port_pos ah0_4 ck
    have k4 := k4.ch0 ck
    have k8 := k8.ch0 ck
    have c0 := c0.then0 ck
    refine Need.one rfl rfl rfl ?_
    rintro _ e33
    obtain rfl := e33.symm
    refine rl_loadS (v := (Value.bool a0.internalLocal)) rfl Try.isAgg4 (k4.cell rfl) rfl ?_
    exact RL.nil ⟨_, rfl, Ch.refl, rfl⟩
   refine Each.consA ⟨fun _ _ _ _ _ _ h => h, fun h => absurd rfl h, fun O wk hO ck => ?_⟩ ?_
   ·
    have ah0_0 := slRep.ch k_Addr_pos ah0_0 ck
    have ah0_1 := slRep.ch k_Addr_pos ah0_1 ck
    have ah0_2 := slRep.ch k_Addr_pos ah0_2 ck
    have ah0_3 := slRep.ch k_Cidr_pos ah0_3 ck
    have ah0_4 := slRep.ch k_Port_pos ah0_4 ck
    have k4 := k4.ch0 ck
    have k8 := k8.ch0 ck
    have c0 := c0.then0 ck
    refine rl_fieldAddr rfl fa28_8 rfl ?_
    exact RL.nil ⟨_, rfl, Ch.refl, rfl⟩
   refine Each.consA ⟨fun _ _ _ _ _ _ h => h, fun h => absurd rfl h, fun O wk hO ck => ?_⟩ ?_
   ·
    have ah0_0 := slRep.ch k_Addr_pos ah0_0 ck
    have ah0_1 := slRep.ch k_Addr_pos ah0_1 ck
    have ah0_2 := slRep.ch k_Addr_pos ah0_2 ck
    have ah0_3 := slRep.ch k_Cidr_pos ah0_3 ck
    have ah0_4 := slRep.ch k_Port_pos ah0_4 ck
    have k4 := k4.ch0 ck
    have k8 := k8.ch0 ck
    have c0 := c0.then0 ck
    refine Need.one rfl rfl rfl ?_
    rintro _ e34
    obtain rfl := e34.symm
    refine rl_loadS (v := (Value.bool a0.externalLocal)) rfl Try.isAgg4 (k4.cell rfl) rfl ?_
    exact RL.nil ⟨_, rfl, Ch.refl, rfl⟩
   refine Each.consA ⟨fun _ _ _ _ _ _ h => h, fun h => absurd rfl h, fun O wk hO ck => ?_⟩ ?_
   ·
    have ah0_0 := slRep.ch k_Addr_pos ah0_0 ck
    have ah0_1 := slRep.ch k_Addr_pos ah0_1 ck
    have ah0_2 := slRep.ch k_Addr_pos ah0_2 ck
    have ah0_3 := slRep.ch k_Cidr_pos ah0_3 ck
    have ah0_4 := slRep.ch k_Port_pos ah0_4 ck
    have k4 := k4.ch0 ck
    have k8 := k8.ch0 ck
    have c0 := c0.then0 ck
    refine rl_fieldAddr rfl fa28_9 rfl ?_
    exact RL.nil ⟨_, rfl, Ch.refl, rfl⟩
   refine Each.consA ⟨fun _ _ _ _ _ _ h => h, fun h => absurd rfl h, fun O wk hO ck => ?_⟩ ?_
   ·
    have ah0_0 := slRep.ch k_Addr_pos ah0_0 ck
    have ah0_1 := slRep.ch k_Addr_pos ah0_1 ck
    have ah0_2 := slRep.ch k_Addr_pos ah0_2 ck
    have ah0_3 := slRep.ch k_Cidr_pos ah0_3 ck
    have ah0_4 := slRep.ch k_Port_pos ah0_4 ck
    have k4 := k4.ch0 ck
    have k8 := k8.ch0 ck
    have c0 := c0.then0 ck
    refine Need.one rfl rfl rfl ?_
    rintro _ e35
    obtain rfl := e35.symm
    refine rl_loadS (v := (Value.bool a0.sticky)) rfl Try.isAgg4 (k4.cell rfl) rfl ?_
    exact RL.nil ⟨_, rfl, Ch.refl, rfl⟩
   refine Each.consA ⟨fun _ _ _ _ _ _ h => h, fun h => absurd rfl h, fun O wk hO ck => ?_⟩ ?_
   ·
    have ah0_0 := slRep.ch k_Addr_pos ah0_0 ck
    have ah0_1 := slRep.ch k_Addr_pos ah0_1 ck
    have ah0_2 := slRep.ch k_Addr_pos ah0_2 ck
    have ah0_3 := slRep.ch k_Cidr_pos ah0_3 ck
    have ah0_4 := slRep.ch k_Port_pos ah0_4 ck
    have k4 := k4.ch0 ck
    have k8 := k8.ch0 ck
    have c0 := c0.then0 ck
    refine rl_fieldAddr rfl fa28_10 rfl ?_
    exact RL.nil ⟨_, rfl, Ch.refl, rfl⟩
   refine Each.consA ⟨fun _ _ _ _ _ _ h => h, fun h => absurd rfl h, fun O wk hO ck => ?_⟩ ?_
   ·
    have ah0_0 := slRep.ch k_Addr_pos ah0_0 ck
    have ah0_1 := slRep.ch k_Addr_pos ah0_1 ck
    have ah0_2 := slRep.ch k_Addr_pos ah0_2 ck
    have ah0_3 := slRep.ch k_Cidr_pos ah0_3 ck
    have ah0_4 := slRep.ch k_Port_pos ah0_4 ck
    have k4 := k4.ch0 ck
    have k8 := k8.ch0 ck
    have c0 := c0.then0 ck
    refine Need.one rfl rfl rfl ?_
    rintro _ e36
    obtain rfl := e36.symm
    refine rl_loadS (v := (Value.int .i64 a0.ticks)) rfl Try.isAgg3 (k4.cell rfl) rfl ?_
    exact RL.nil ⟨_, rfl, Ch.refl, rfl⟩
   refine Each.consA ⟨fun _ _ _ _ _ _ h => h, fun h => absurd rfl h, fun O wk hO ck => ?_⟩ ?_
   ·
    have ah0_0 := slRep.ch k_Addr_pos ah0_0 ck
    have ah0_1 := slRep.ch k_Addr_pos ah0_1 ck
    have ah0_2 := slRep.ch k_Addr_pos ah0_2 ck
    have ah0_3 := slRep.ch k_Cidr_pos ah0_3 ck
    have ah0_4 := slRep.ch k_Port_pos ah0_4 ck
    have k4 := k4.ch0 ck
    have k8 := k8.ch0 ck
    have c0 := c0.then0 ck
    refine rl_fieldAddr rfl fa28_11 rfl ?_
    exact RL.nil ⟨_, rfl, Ch.refl, rfl⟩
   refine Each.consA ⟨fun _ _ _ _ _ _ h => h, fun h => absurd rfl h, fun O wk hO ck => ?_⟩ ?_
   ·
    have ah0_0 := slRep.ch k_Addr_pos ah0_0 ck
    have ah0_1 := slRep.ch k_Addr_pos ah0_1 ck
    have ah0_2 := slRep.ch k_Addr_pos ah0_2 ck
    have ah0_3 := slRep.ch k_Cidr_pos ah0_3 ck
    have ah0_4 := slRep.ch k_Port_pos ah0_4 ck
    have k4 := k4.ch0 ck
    have k8 := k8.ch0 ck
    have c0 := c0.then0 ck
    refine Need.one rfl rfl rfl ?_
    rintro _ e37
    obtain rfl := e37.symm
    refine rl_loadS (v := (Value.bool a0.hinted)) rfl Try.isAgg4 (k4.cell rfl) rfl ?_
    exact RL.nil ⟨_, rfl, Ch.refl, rfl⟩
   trivial
  ·
   intro hvO40 OpO40 O40 w38 hO41 c39 hN42
   have ah0_0 := slRep.ch k_Addr_pos ah0_0 c39
   have ah0_1 := slRep.ch k_Addr_pos ah0_1 c39
   have ah0_2 := slRep.ch k_Addr_pos ah0_2 c39
   have ah0_3 := slRep.ch k_Cidr_pos ah0_3 c39
   have ah0_4 := slRep.ch k_Port_pos ah0_4 c39
   have k4 := k4.ch0 c39
   have k8 := k8.ch0 c39
   have c0 := c0.then0 c39
   refine Need.one rfl rfl rfl ?_
   rintro _ e43
   obtain rfl := e43.symm
   refine Need.one rfl rfl rfl ?_
   rintro _ e44
   obtain rfl := e44.symm
   refine Need.one rfl rfl rfl ?_
   rintro _ e45
   obtain rfl := e45.symm
   refine Need.one rfl rfl rfl ?_
   rintro _ e46
   obtain rfl := e46.symm
   refine Need.one rfl rfl rfl ?_
   rintro _ e47
   obtain rfl := e47.symm
   refine Need.one rfl rfl rfl ?_
   rintro _ e48
   obtain rfl := e48.symm
   refine Need.one rfl rfl rfl ?_
   rintro _ ⟨v14, e49, h15⟩
   obtain rfl := e49.symm
   refine Need.one rfl rfl rfl ?_
   rintro _ e50
   obtain rfl := e50.symm
   refine Need.one rfl rfl rfl ?_
   rintro _ e51
   obtain rfl := e51.symm
   refine Need.one rfl rfl rfl ?_
   rintro _ e52
   obtain rfl := e52.symm
   refine Need.one rfl rfl rfl ?_
   rintro _ e53
   obtain rfl := e53.symm
   refine Need.one rfl rfl rfl ?_
   rintro _ e54
   obtain rfl := e54.symm
   refine rl_buildC (out := (Service.c ({ key := a0.key, kind := a0.kind, cluster := a0.cluster, external := a0.external, balancers := a0.balancers, ranges := a0.ranges, ports := y12, internalLocal := a0.internalLocal, externalLocal := a0.externalLocal, sticky := a0.sticky, ticks := a0.ticks, hinted := a0.hinted } : Service) az0_0 az0_1 az0_2 az0_3 v14)) [(0, (Key.enc a0.key)), (1, [(Value.int .i64 a0.kind)]), (2, [az0_0]), (3, [az0_1]), (4, [az0_2]), (5, [az0_3]), (6, [v14]), (7, [(Value.bool a0.internalLocal)]), (8, [(Value.bool a0.externalLocal)]), (9, [(Value.bool a0.sticky)]), (10, [(Value.int .i64 a0.ticks)]), (11, [(Value.bool a0.hinted)])] rfl (co_cons rfl (co_cons rfl (co_cons (one_toL ah0_0.one.1) (co_cons (one_toL ah0_1.one.1) (co_cons (one_toL ah0_2.one.1) (co_cons (one_toL ah0_3.one.1) (co_cons (one_toL h15.one.1) (co_cons rfl (co_cons rfl (co_cons rfl (co_cons rfl (co_cons rfl co_nil)))))))))))) pl49 Try.zeroValue49 rfl (by kernel_rfl) rfl ?_
   refine rl_storeA (vs := (Service.c ({ key := a0.key, kind := a0.kind, cluster := a0.cluster, external := a0.external, balancers := a0.balancers, ranges := a0.ranges, ports := y12, internalLocal := a0.internalLocal, externalLocal := a0.externalLocal, sticky := a0.sticky, ticks := a0.ticks, hinted := a0.hinted } : Service) az0_0 az0_1 az0_2 az0_3 v14)) rfl rfl (Kd.one _ (show k_Service.rep (G F w.heap.size (un (inBlk (Value.pointer (some ⟨p5, 0, none⟩))) nb)) w38 ({ key := a0.key, kind := a0.kind, cluster := a0.cluster, external := a0.external, balancers := a0.balancers, ranges := a0.ranges, ports := y12, internalLocal := a0.internalLocal, externalLocal := a0.externalLocal, sticky := a0.sticky, ticks := a0.ticks, hinted := a0.hinted } : Service) (Service.c ({ key := a0.key, kind := a0.kind, cluster := a0.cluster, external := a0.external, balancers := a0.balancers, ranges := a0.ranges, ports := y12, internalLocal := a0.internalLocal, externalLocal := a0.externalLocal, sticky := a0.sticky, ticks := a0.ticks, hinted := a0.hinted } : Service) az0_0 az0_1 az0_2 az0_3 v14) from ⟨az0_0, az0_1, az0_2, az0_3, v14, rfl, ah0_0, ah0_1, ah0_2, ah0_3, h15⟩)) Try.sizeOf49 rfl k8 rfl ?_
   intro w55 s57 c56 k58
   have ad59 : ∀ b, b < w38.heap.size → ¬ (un (inBlk (Value.pointer (some ⟨p5, 0, none⟩))) nb) b → ¬ (inBlk (Value.pointer (some ⟨p5, 0, none⟩))) b ∧ ¬ (un (inBlk (Value.pointer (some ⟨p5, 0, none⟩))) nb) b := fun b _ hs => ⟨fun h => hs (.inl h), hs⟩
   have ah0_0 := slRep.st k_Addr_pos ah0_0 c56 ad59
   have ah0_1 := slRep.st k_Addr_pos ah0_1 c56 ad59
   have ah0_2 := slRep.st k_Addr_pos ah0_2 c56 ad59
   have ah0_3 := slRep.st k_Cidr_pos ah0_3 c56 ad59
   have ah0_4 := slRep.st k_Port_pos ah0_4 c56 ad59
   have k4 := k4.ch c56 (ad59 _ k4.lt gp1.2).1
   have h15 := slRep.st k_Port_pos h15 c56 ad59
   have c0 := c0.then c56 (fun i hi h => absurd (lo9 i h) (Nat.not_le_of_lt hi))
   refine RL.nil ?_
   refine thn_n ?_
   refine CW.ret ?_
   obtain rfl := Option.some.inj hS
   exact ⟨[_], ⟨Res1.agg (cs := (Service.c ({ key := a0.key, kind := a0.kind, cluster := a0.cluster, external := a0.external, balancers := a0.balancers, ranges := a0.ranges, ports := y12, internalLocal := a0.internalLocal, externalLocal := a0.externalLocal, sticky := a0.sticky, ticks := a0.ticks, hinted := a0.hinted } : Service) az0_0 az0_1 az0_2 az0_3 v14)) rfl Try.isAgg49 Try.sizeOf49 (k58.segAt 0 13) rfl, trivial⟩, ⟨az0_0, az0_1, az0_2, az0_3, v14, rfl, slRep.out k_Addr_pos ah0_0, slRep.out k_Addr_pos ah0_1, slRep.out k_Addr_pos ah0_2, slRep.out k_Cidr_pos ah0_3, slRep.out k_Port_pos h15, c0⟩⟩
/-- lb/lblaw13.Node -/
theorem ctr12 (F : Nat → Prop) (w : World) (a0 : Node) (az0_0 : Value) (ah0_0 : slRep k_Addr F w a0.addrs az0_0) (r : Node) (hs : F12_linkboylaw13_Node a0 = r) :
    Ret Try.prog 12 #[(Value.agg (Node.c a0 az0_0).toArray)] w fun v w' => ∃ (y0_0 : Value), v = (Value.agg (Node.c r y0_0).toArray) ∧ slRep k_Addr (fun b => F b ∨ w.heap.size ≤ b) w' r.addrs y0_0 ∧ Ch nb w w' := by
  have hS := hs
  have c0 : Ch nb w w := Ch.refl
  have ah0_0 := slRep.enter k_Addr_pos ah0_0
  refine Ret.of (n := 4) (args := [_]) (rs := [.cell 2 51]) Try.func12 rfl rfl rfl rfl ?_
  refine CW.seq (CW.region ?_)
  refine rl_boxA (cs := (Node.c a0 az0_0)) rfl rfl ?_
  intro p1 w2 n3 k4
  have gp1 : (G F w.heap.size nb) p1 := ⟨.inr (by rw [n3.eq]; exact c0.size), fun h => absurd (nbS _ h) (by rw [n3.eq]; exact Nat.lt_irrefl _)⟩
  have ah0_0 := slRep.ch k_Addr_pos ah0_0 n3.ch
  have c0 := c0.then0 n3.ch
  refine rl_alloc (Node.c Node.z (Value.slice none 0 0)) Try.zeroValue51 rfl rfl ?_
  intro p5 w6 n7 k8
  have lo9 : ∀ b, inBlk (Value.pointer (some ⟨p5, 0, none⟩)) b → w.heap.size ≤ b := fun b h => Nat.le_trans c0.size (n7.fresh b h)
  have ah0_0 := slRep.st k_Addr_pos ah0_0 n7.ch (admNew n7.fresh (fun _ x => x))
  have gp1n : (G F w.heap.size (un (inBlk (Value.pointer (some ⟨p5, 0, none⟩))) nb)) p1 := ⟨gp1.1, ((admNew n7.fresh (fun _ x => x)) _ k4.lt gp1.2).2⟩
  have k4 := k4.ch0 n7.ch
  have gp1 := gp1n
  have c0 := c0.then0 n7.ch
  refine RL.nil ?_
  refine thn_n ?_
  refine CW.seq (CW.region ?_)
  refine rl_loadA (cs := (Node.c a0 az0_0)) rfl Try.isAgg30 Try.sizeOf30 (k4.segAt 0 3) rfl rfl ?_
  refine rl_storeA (vs := (Node.c a0 az0_0)) rfl rfl (Kd.one _ (show k_Node.rep (G F w.heap.size (un (inBlk (Value.pointer (some ⟨p5, 0, none⟩))) nb)) w6 a0 (Node.c a0 az0_0) from ⟨az0_0, rfl, ah0_0⟩)) Try.sizeOf51 rfl k8 rfl ?_
  intro w10 s12 c11 k13
  have ad14 : ∀ b, b < w6.heap.size → ¬ (un (inBlk (Value.pointer (some ⟨p5, 0, none⟩))) nb) b → ¬ (inBlk (Value.pointer (some ⟨p5, 0, none⟩))) b ∧ ¬ (un (inBlk (Value.pointer (some ⟨p5, 0, none⟩))) nb) b := fun b _ hs => ⟨fun h => hs (.inl h), hs⟩
  have ah0_0 := slRep.st k_Addr_pos ah0_0 c11 ad14
  have k4 := k4.ch c11 (ad14 _ k4.lt gp1.2).1
  have c0 := c0.then c11 (fun i hi h => absurd (lo9 i h) (Nat.not_le_of_lt hi))
  refine RL.nil ?_
  refine thn_n ?_
  refine CW.ret ?_
  obtain rfl := hS
  exact ⟨[_], ⟨Res1.agg (cs := (Node.c a0 az0_0)) rfl Try.isAgg51 Try.sizeOf51 (k13.segAt 0 3) rfl, trivial⟩, ⟨az0_0, rfl, slRep.out k_Addr_pos ah0_0, c0⟩⟩
/-- lb/lbref20.less -/
theorem ctr30 (F : Nat → Prop) (w : World) (a0 : Int) (a1 : Int) (r : Int) (hs : F30_linkboyref20_less a0 a1 = r) :
    Ret Try.prog 30 #[(Value.int .i64 a0), (Value.int .i64 a1)] w fun v w' => v = (Value.int .i64 r) ∧ Ch nb w w' := by
  have hS := hs
  have c0 : Ch nb w w := Ch.refl
  refine Ret.of (n := 11) (args := [_, _]) (rs := [.tmp 4]) Try.func30 rfl rfl rfl rfl ?_
  refine CW.seq (CW.region ?_)
  refine rl_assign rfl rfl ?_
  refine RL.nil ?_
  refine thn_n ?_
  refine CW.seq ?_
  refine CW.seq (CW.region ?_)
  refine rl_move rfl rfl ?_
  refine rl_move rfl rfl ?_
  refine rl_bin rfl rfl B.lss rfl ?_
  refine RL.nil ?_
  refine thn_n ?_
  refine CW.cond (t := decide (a0 < a1)) rfl (fun q1 => ?_) (fun q1 => ?_)
  ·
   have hS := ifT q1 hS
   refine CW.seq (CW.region ?_)
   refine rl_assign rfl rfl ?_
   refine RL.nil ?_
   refine thn_n ?_
   refine CW.ret ?_
   refine thn_ret ?_
   obtain rfl := hS
   exact ret1 rfl ⟨rfl, c0⟩
  ·
   have hS := ifF q1 hS
   refine CW.skip ?_
   refine thn_n ?_
   refine CW.seq ?_
   refine CW.seq (CW.region ?_)
   refine rl_move rfl rfl ?_
   refine rl_move rfl rfl ?_
   refine rl_bin rfl rfl B.gtr rfl ?_
   refine RL.nil ?_
   refine thn_n ?_
   refine CW.cond (t := decide (a0 > a1)) rfl (fun q2 => ?_) (fun q2 => ?_)
   ·
    have hS := ifT q2 hS
    refine CW.seq (CW.region ?_)
    refine rl_assign rfl rfl ?_
    refine RL.nil ?_
    refine thn_n ?_
    refine CW.ret ?_
    refine thn_ret ?_
    obtain rfl := hS
    exact ret1 rfl ⟨rfl, c0⟩
   ·
    have hS := ifF q2 hS
    refine CW.skip ?_
    refine thn_n ?_
    refine CW.seq (CW.region ?_)
    refine rl_assign rfl rfl ?_
    refine RL.nil ?_
    refine thn_n ?_
    refine CW.ret ?_
    obtain rfl := hS
    exact ret1 rfl ⟨rfl, c0⟩
/-- lb/lbref02.Compare -/
theorem ctr46 (F : Nat → Prop) (w : World) (a0 : Addr) (a1 : Addr) (r : Int) (hs : F46_linkboyref02_Compare a0 a1 = some r) :
    Ret Try.prog 46 #[(Value.agg (Addr.enc a0).toArray), (Value.agg (Addr.enc a1).toArray)] w fun v w' => v = (Value.int .i64 r) ∧ Ch nb w w' := by
  have hS := hs
  have c0 : Ch nb w w := Ch.refl
  refine Ret.of (n := 35) (args := [_, _]) (rs := [.tmp 4]) Try.func46 rfl rfl rfl rfl ?_
  refine CW.seq (CW.region ?_)
  refine rl_boxA (cs := (Addr.enc a0)) rfl rfl ?_
  intro p1 w2 n3 k4
  have gp1 : (G F w.heap.size nb) p1 := ⟨.inr (by rw [n3.eq]; exact c0.size), fun h => absurd (nbS _ h) (by rw [n3.eq]; exact Nat.lt_irrefl _)⟩
  have c0 := c0.then0 n3.ch
  refine rl_boxA (cs := (Addr.enc a1)) rfl rfl ?_
  intro p5 w6 n7 k8
  have gp5 : (G F w.heap.size nb) p5 := ⟨.inr (by rw [n7.eq]; exact c0.size), fun h => absurd (nbS _ h) (by rw [n7.eq]; exact Nat.lt_irrefl _)⟩
  have k4 := k4.ch0 n7.ch
  have c0 := c0.then0 n7.ch
  refine rl_assign rfl rfl ?_
  refine RL.nil ?_
  refine thn_n ?_
  refine CW.seq ?_
  refine CW.seq (CW.region ?_)
  refine rl_fieldAddr rfl fa38_0 rfl ?_
  refine rl_loadS (v := (Value.bool a0.six)) rfl Try.isAgg4 (k4.cell rfl) rfl ?_
  refine rl_fieldAddr rfl fa38_0 rfl ?_
  refine rl_loadS (v := (Value.bool a1.six)) rfl Try.isAgg4 (k8.cell rfl) rfl ?_
  refine rl_bin rfl rfl (B.neqB Try.underlying4) rfl ?_
  refine RL.nil ?_
  refine thn_n ?_
  refine CW.cond (t := !(a0.six == a1.six)) rfl (fun q9 => ?_) (fun q9 => ?_)
  ·
   have hS := ifT q9 hS
   refine CW.seq ?_
   refine CW.seq (CW.region ?_)
   refine rl_fieldAddr rfl fa38_0 rfl ?_
   refine rl_loadS (v := (Value.bool a0.six)) rfl Try.isAgg4 (k4.cell rfl) rfl ?_
   refine RL.nil ?_
   refine thn_n ?_
   refine CW.cond (t := a0.six) rfl (fun q10 => ?_) (fun q10 => ?_)
   ·
    have hS := ifT q10 hS
    refine CW.seq (CW.region ?_)
    refine rl_assign rfl rfl ?_
    refine RL.nil ?_
    refine thn_n ?_
    refine CW.ret ?_
    refine thn_ret ?_
    refine thn_ret ?_
    obtain rfl := Option.some.inj hS
    exact ret1 rfl ⟨rfl, c0⟩
   ·
    have hS := ifF q10 hS
    refine CW.skip ?_
    refine thn_n ?_
    refine CW.seq (CW.region ?_)
    refine rl_assign rfl rfl ?_
    refine RL.nil ?_
    refine thn_n ?_
    refine CW.ret ?_
    refine thn_ret ?_
    obtain rfl := Option.some.inj hS
    exact ret1 rfl ⟨rfl, c0⟩
  ·
   have hS := ifF q9 hS
   refine CW.skip ?_
   refine thn_n ?_
   refine CW.seq ?_
   refine CW.seq (CW.region ?_)
   refine rl_move rfl rfl ?_
   refine RL.nil ?_
   refine thn_n ?_
   obtain ⟨o19, ho20, hS⟩ := bindS hS
   refine CW.cutB (fun E' w' => ∃ (x11 : Int), Sub [] E' ∧ Ch nb w w' ∧ Lp.fin x11 = o19 ∧ Blk w' p1 38 (Addr.enc a0) ∧ Blk w' p5 38 (Addr.enc a1) ∧ (G F w.heap.size nb) p1 ∧ (G F w.heap.size nb) p5) ?_ ?_
   ·
    refine CW.loopS [(2, (Value.pointer (some ⟨p1, 0, none⟩))), (3, (Value.pointer (some ⟨p5, 0, none⟩))), (13, (Value.int .i64 0))] ⟨rfl, rfl, rfl, trivial⟩ FUEL (fun m E w' => ∃ (x11 : Int), E = [(2, (Value.pointer (some ⟨p1, 0, none⟩))), (3, (Value.pointer (some ⟨p5, 0, none⟩))), (13, (Value.int .i64 x11))] ∧ Ch nb w w' ∧ runW (F46_linkboyref02_Compare_b1 a0 a1) m x11 = some o19 ∧ Blk w' p1 38 (Addr.enc a0) ∧ Blk w' p5 38 (Addr.enc a1) ∧ (G F w.heap.size nb) p1 ∧ (G F w.heap.size nb) p5)
        ⟨0, rfl, c0, ho20, k4, k8, gp1, gp5⟩ ?_
    rintro _ _ w25 ⟨x11, rfl, c24, hL14, k4, k8, gp1, gp5⟩
    obtain ⟨k23, q16, rfl, hq17⟩ := runW_some hL14
    have hb18 := hq17
    refine CW.seq (CW.region ?_)
    refine rl_bin rfl rfl B.lss rfl ?_
    refine RL.nil ?_
    refine thn_n ?_
    refine CW.seq ?_
    refine CW.cond (t := decide (x11 < 16)) rfl (fun q27 => ?_) (fun q27 => ?_)
    ·
     have hb18 := ifT q27 hb18
     refine CW.skip ?_
     refine thn_n ?_
     refine CW.seq ?_
     refine CW.block ?_
     refine CW.seq (CW.region ?_)
     refine rl_move rfl rfl ?_
     refine rl_assign rfl rfl ?_
     refine RL.nil ?_
     refine thn_n ?_
     refine CW.seq ?_
     refine CW.seq ?_
     obtain ⟨y30, hy31, hb18⟩ := bindS hb18
     obtain ⟨y34, hy35, hb18⟩ := bindS hb18
     refine CW.draw 8 [(none, fun _ O uu wx => uu = (Value.int .i64 x11)), (none, fun _ O uu wx => uu = (Value.pointer (some ⟨p1, 1, none⟩))), (none, fun _ O uu wx => uu = (Value.pointer (some ⟨p1, (1 + x11.toNat), none⟩)) ∧ Seg wx p1 (1 + x11.toNat) [(Value.int .u8 y30)]), (none, fun _ O uu wx => uu = (Value.int .u8 y30)), (none, fun _ O uu wx => uu = (Value.int .i64 x11)), (none, fun _ O uu wx => uu = (Value.pointer (some ⟨p5, 1, none⟩))), (none, fun _ O uu wx => uu = (Value.pointer (some ⟨p5, (1 + x11.toNat), none⟩)) ∧ Seg wx p5 (1 + x11.toNat) [(Value.int .u8 y34)]), (none, fun _ O uu wx => uu = (Value.int .u8 y34))] [[], [], [0, 1], [2], [], [], [4, 5], [6]] [3, 7] nb (fun _ h => h.elim) mixed rfl rfl rfl rfl ?_ ?_
     ·
      refine Each.consA ⟨fun _ _ _ _ _ _ h => h, fun h => absurd rfl h, fun O wk hO ck => ?_⟩ ?_
      ·
       have k4 := k4.ch0 ck
       have k8 := k8.ch0 ck
       have c24 := c24.then0 ck
       refine rl_move rfl rfl ?_
       exact RL.nil ⟨_, rfl, Ch.refl, rfl⟩
      refine Each.consA ⟨fun _ _ _ _ _ _ h => h, fun h => absurd rfl h, fun O wk hO ck => ?_⟩ ?_
      ·
       have k4 := k4.ch0 ck
       have k8 := k8.ch0 ck
       have c24 := c24.then0 ck
       refine rl_fieldAddr rfl fa38_1 rfl ?_
       exact RL.nil ⟨_, rfl, Ch.refl, rfl⟩
      refine Each.consA ⟨fun _ _ _ _ _ cc hh => by obtain ⟨e, hs29⟩ := hh; exact ⟨e, hs29.ch0 cc⟩, fun h => absurd rfl h, fun O wk hO ck => ?_⟩ ?_
      ·
       have k4 := k4.ch0 ck
       have k8 := k8.ch0 ck
       have c24 := c24.then0 ck
       refine Need.one rfl rfl rfl ?_
       rintro _ e36
       obtain rfl := e36.symm
       refine Need.one rfl rfl rfl ?_
       rintro _ e37
       obtain rfl := e37.symm
       refine rl_ixArr (l := A16u8.list a0.b) (val := (Value.int .u8)) (cs := A16u8.enc a0.b) rfl rfl (ixO_get hy31) Try.underlying36 rfl Try.sizeOf5 (k4.segAt 1 16) rfl rfl ?_
       intro hc38
       have hs39 : Seg wk p1 (1 + x11.toNat) [(Value.int .u8 y30)] := Seg.one hc38
       exact RL.nil ⟨_, rfl, Ch.refl, ⟨rfl, hs39⟩⟩
      refine Each.consA ⟨fun _ _ _ _ _ _ h => h, fun h => absurd rfl h, fun O wk hO ck => ?_⟩ ?_
      ·
       have k4 := k4.ch0 ck
       have k8 := k8.ch0 ck
       have c24 := c24.then0 ck
       refine Need.one rfl rfl rfl ?_
       rintro _ ⟨e40, hs29⟩
       obtain rfl := e40.symm
       refine rl_loadS (v := (Value.int .u8 y30)) rfl Try.isAgg5 (hs29 0 _ rfl) rfl ?_
       exact RL.nil ⟨_, rfl, Ch.refl, rfl⟩
      refine Each.consA ⟨fun _ _ _ _ _ _ h => h, fun h => absurd rfl h, fun O wk hO ck => ?_⟩ ?_
      ·
       have k4 := k4.ch0 ck
       have k8 := k8.ch0 ck
       have c24 := c24.then0 ck
       refine rl_move rfl rfl ?_
       exact RL.nil ⟨_, rfl, Ch.refl, rfl⟩
      refine Each.consA ⟨fun _ _ _ _ _ _ h => h, fun h => absurd rfl h, fun O wk hO ck => ?_⟩ ?_
      ·
       have k4 := k4.ch0 ck
       have k8 := k8.ch0 ck
       have c24 := c24.then0 ck
       refine rl_fieldAddr rfl fa38_1 rfl ?_
       exact RL.nil ⟨_, rfl, Ch.refl, rfl⟩
      refine Each.consA ⟨fun _ _ _ _ _ cc hh => by obtain ⟨e, hs33⟩ := hh; exact ⟨e, hs33.ch0 cc⟩, fun h => absurd rfl h, fun O wk hO ck => ?_⟩ ?_
      ·
       have k4 := k4.ch0 ck
       have k8 := k8.ch0 ck
       have c24 := c24.then0 ck
       refine Need.one rfl rfl rfl ?_
       rintro _ e41
       obtain rfl := e41.symm
       refine Need.one rfl rfl rfl ?_
       rintro _ e42
       obtain rfl := e42.symm
       refine rl_ixArr (l := A16u8.list a1.b) (val := (Value.int .u8)) (cs := A16u8.enc a1.b) rfl rfl (ixO_get hy35) Try.underlying36 rfl Try.sizeOf5 (k8.segAt 1 16) rfl rfl ?_
       intro hc43
       have hs44 : Seg wk p5 (1 + x11.toNat) [(Value.int .u8 y34)] := Seg.one hc43
       exact RL.nil ⟨_, rfl, Ch.refl, ⟨rfl, hs44⟩⟩
      refine Each.consA ⟨fun _ _ _ _ _ _ h => h, fun h => absurd rfl h, fun O wk hO ck => ?_⟩ ?_
      ·
       have k4 := k4.ch0 ck
       have k8 := k8.ch0 ck
       have c24 := c24.then0 ck
       refine Need.one rfl rfl rfl ?_
       rintro _ ⟨e45, hs33⟩
       obtain rfl := e45.symm
       refine rl_loadS (v := (Value.int .u8 y34)) rfl Try.isAgg5 (hs33 0 _ rfl) rfl ?_
       exact RL.nil ⟨_, rfl, Ch.refl, rfl⟩
      trivial
     ·
      intro hvO48 OpO48 O48 w46 hO49 c47 hN50
      have k4 := k4.ch0 c47
      have k8 := k8.ch0 c47
      have c24 := c24.then0 c47
      refine Need.one rfl rfl rfl ?_
      rintro _ e51
      obtain rfl := e51.symm
      refine Need.one rfl rfl rfl ?_
      rintro _ e52
      obtain rfl := e52.symm
      refine rl_bin rfl rfl B.lss rfl ?_
      refine RL.nil ?_
      refine thn_n ?_
      refine CW.cond (t := decide (y30 < y34)) rfl (fun q53 => ?_) (fun q53 => ?_)
      ·
       have hb18 := ifT q53 hb18
       refine CW.seq (CW.region ?_)
       refine rl_assign rfl rfl ?_
       refine RL.nil ?_
       refine thn_n ?_
       refine CW.ret ?_
       refine thn_ret ?_
       refine inB_ret ?_
       refine thn_ret ?_
       refine thn_ret (inB_ret (thn_ret ?_))
       refine thn_ret ?_
       have f54 := runW_ret hL14 hq17 hb18
       have hS := retS f54 hS
       obtain rfl := Option.some.inj hS
       exact ret1 rfl ⟨rfl, c24⟩
      ·
       have hb18 := ifF q53 hb18
       refine CW.skip ?_
       refine thn_n ?_
       refine CW.seq ?_
       obtain ⟨y57, hy58, hb18⟩ := bindS hb18
       obtain ⟨y61, hy62, hb18⟩ := bindS hb18
       refine CW.draw 8 [(none, fun _ O uu wx => uu = (Value.int .i64 x11)), (none, fun _ O uu wx => uu = (Value.pointer (some ⟨p1, 1, none⟩))), (none, fun _ O uu wx => uu = (Value.pointer (some ⟨p1, (1 + x11.toNat), none⟩)) ∧ Seg wx p1 (1 + x11.toNat) [(Value.int .u8 y57)]), (none, fun _ O uu wx => uu = (Value.int .u8 y57)), (none, fun _ O uu wx => uu = (Value.int .i64 x11)), (none, fun _ O uu wx => uu = (Value.pointer (some ⟨p5, 1, none⟩))), (none, fun _ O uu wx => uu = (Value.pointer (some ⟨p5, (1 + x11.toNat), none⟩)) ∧ Seg wx p5 (1 + x11.toNat) [(Value.int .u8 y61)]), (none, fun _ O uu wx => uu = (Value.int .u8 y61))] [[], [], [0, 1], [2], [], [], [4, 5], [6]] [3, 7] nb (fun _ h => h.elim) mixed rfl rfl rfl rfl ?_ ?_
       ·
        refine Each.consA ⟨fun _ _ _ _ _ _ h => h, fun h => absurd rfl h, fun O wk hO ck => ?_⟩ ?_
        ·
         have k4 := k4.ch0 ck
         have k8 := k8.ch0 ck
         have c24 := c24.then0 ck
         refine rl_move rfl rfl ?_
         exact RL.nil ⟨_, rfl, Ch.refl, rfl⟩
        refine Each.consA ⟨fun _ _ _ _ _ _ h => h, fun h => absurd rfl h, fun O wk hO ck => ?_⟩ ?_
        ·
         have k4 := k4.ch0 ck
         have k8 := k8.ch0 ck
         have c24 := c24.then0 ck
         refine rl_fieldAddr rfl fa38_1 rfl ?_
         exact RL.nil ⟨_, rfl, Ch.refl, rfl⟩
        refine Each.consA ⟨fun _ _ _ _ _ cc hh => by obtain ⟨e, hs56⟩ := hh; exact ⟨e, hs56.ch0 cc⟩, fun h => absurd rfl h, fun O wk hO ck => ?_⟩ ?_
        ·
         have k4 := k4.ch0 ck
         have k8 := k8.ch0 ck
         have c24 := c24.then0 ck
         refine Need.one rfl rfl rfl ?_
         rintro _ e63
         obtain rfl := e63.symm
         refine Need.one rfl rfl rfl ?_
         rintro _ e64
         obtain rfl := e64.symm
         refine rl_ixArr (l := A16u8.list a0.b) (val := (Value.int .u8)) (cs := A16u8.enc a0.b) rfl rfl (ixO_get hy58) Try.underlying36 rfl Try.sizeOf5 (k4.segAt 1 16) rfl rfl ?_
         intro hc65
         have hs66 : Seg wk p1 (1 + x11.toNat) [(Value.int .u8 y57)] := Seg.one hc65
         exact RL.nil ⟨_, rfl, Ch.refl, ⟨rfl, hs66⟩⟩
        refine Each.consA ⟨fun _ _ _ _ _ _ h => h, fun h => absurd rfl h, fun O wk hO ck => ?_⟩ ?_
        ·
         have k4 := k4.ch0 ck
         have k8 := k8.ch0 ck
         have c24 := c24.then0 ck
         refine Need.one rfl rfl rfl ?_
         rintro _ ⟨e67, hs56⟩
         obtain rfl := e67.symm
         refine rl_loadS (v := (Value.int .u8 y57)) rfl Try.isAgg5 (hs56 0 _ rfl) rfl ?_
         exact RL.nil ⟨_, rfl, Ch.refl, rfl⟩
        refine Each.consA ⟨fun _ _ _ _ _ _ h => h, fun h => absurd rfl h, fun O wk hO ck => ?_⟩ ?_
        ·
         have k4 := k4.ch0 ck
         have k8 := k8.ch0 ck
         have c24 := c24.then0 ck
         refine rl_move rfl rfl ?_
         exact RL.nil ⟨_, rfl, Ch.refl, rfl⟩
        refine Each.consA ⟨fun _ _ _ _ _ _ h => h, fun h => absurd rfl h, fun O wk hO ck => ?_⟩ ?_
        ·
         have k4 := k4.ch0 ck
         have k8 := k8.ch0 ck
         have c24 := c24.then0 ck
         refine rl_fieldAddr rfl fa38_1 rfl ?_
         exact RL.nil ⟨_, rfl, Ch.refl, rfl⟩
        refine Each.consA ⟨fun _ _ _ _ _ cc hh => by obtain ⟨e, hs60⟩ := hh; exact ⟨e, hs60.ch0 cc⟩, fun h => absurd rfl h, fun O wk hO ck => ?_⟩ ?_
        ·
         have k4 := k4.ch0 ck
         have k8 := k8.ch0 ck
         have c24 := c24.then0 ck
         refine Need.one rfl rfl rfl ?_
         rintro _ e68
         obtain rfl := e68.symm
         refine Need.one rfl rfl rfl ?_
         rintro _ e69
         obtain rfl := e69.symm
         refine rl_ixArr (l := A16u8.list a1.b) (val := (Value.int .u8)) (cs := A16u8.enc a1.b) rfl rfl (ixO_get hy62) Try.underlying36 rfl Try.sizeOf5 (k8.segAt 1 16) rfl rfl ?_
         intro hc70
         have hs71 : Seg wk p5 (1 + x11.toNat) [(Value.int .u8 y61)] := Seg.one hc70
         exact RL.nil ⟨_, rfl, Ch.refl, ⟨rfl, hs71⟩⟩
        refine Each.consA ⟨fun _ _ _ _ _ _ h => h, fun h => absurd rfl h, fun O wk hO ck => ?_⟩ ?_
        ·
         have k4 := k4.ch0 ck
         have k8 := k8.ch0 ck
         have c24 := c24.then0 ck
         refine Need.one rfl rfl rfl ?_
         rintro _ ⟨e72, hs60⟩
         obtain rfl := e72.symm
         refine rl_loadS (v := (Value.int .u8 y61)) rfl Try.isAgg5 (hs60 0 _ rfl) rfl ?_
         exact RL.nil ⟨_, rfl, Ch.refl, rfl⟩
        trivial
       ·
        intro hvO75 OpO75 O75 w73 hO76 c74 hN77
        have k4 := k4.ch0 c74
        have k8 := k8.ch0 c74
        have c24 := c24.then0 c74
        refine Need.one rfl rfl rfl ?_
        rintro _ e78
        obtain rfl := e78.symm
        refine Need.one rfl rfl rfl ?_
        rintro _ e79
        obtain rfl := e79.symm
        refine rl_bin rfl rfl B.gtr rfl ?_
        refine RL.nil ?_
        refine thn_n ?_
        refine CW.cond (t := decide (y57 > y61)) rfl (fun q80 => ?_) (fun q80 => ?_)
        ·
         have hb18 := ifT q80 hb18
         refine CW.seq (CW.region ?_)
         refine rl_assign rfl rfl ?_
         refine RL.nil ?_
         refine thn_n ?_
         refine CW.ret ?_
         refine inB_ret ?_
         refine thn_ret ?_
         refine thn_ret (inB_ret (thn_ret ?_))
         refine thn_ret ?_
         have f81 := runW_ret hL14 hq17 hb18
         have hS := retS f81 hS
         obtain rfl := Option.some.inj hS
         exact ret1 rfl ⟨rfl, c24⟩
        ·
         have hb18 := ifF q80 hb18
         refine CW.skip ?_
         refine inB_n ?_
         refine thn_n ?_
         refine CW.region ?_
         refine rl_bin rfl rfl B.add rfl ?_
         refine rl_move rfl rfl ?_
         refine RL.nil ?_
         refine thn_n ?_
         have hLn := runW_next hL14 hq17 hb18
         exact ⟨k23, Nat.lt_succ_self _, [(2, (Value.pointer (some ⟨p1, 0, none⟩))), (3, (Value.pointer (some ⟨p5, 0, none⟩))), (13, (Value.int .i64 (IntKind.i64.wrap (x11 + 1))))], ⟨rfl, rfl, rfl, trivial⟩, ⟨IntKind.i64.wrap (x11 + 1), rfl, c24, hLn, k4, k8, gp1, gp5⟩⟩
    ·
     have hb18 := ifF q27 hb18
     refine CW.exit ?_
     refine thn_exit ?_
     refine thn_exit ?_
     refine inB_hit ?_
     have hLf := runW_fin hL14 hq17 hb18
     exact ⟨x11, trivial, c24, hLf, k4, k8, gp1, gp5⟩
   ·
    rintro _ w83 ⟨x11, hE84, c82, f85, k4, k8, gp1, gp5⟩
    have hS := finS f85 hS
    refine thn_n (CW.sub [] hE84 ?_)
    refine CW.seq (CW.region ?_)
    refine rl_assign rfl rfl ?_
    refine RL.nil ?_
    refine thn_n ?_
    refine CW.ret ?_
    obtain rfl := Option.some.inj hS
    exact ret1 rfl ⟨rfl, c82⟩
/-- lb/lbref04.Compare -/
theorem ctr31 (F : Nat → Prop) (w : World) (a0 : Point) (a1 : Point) (r : Int) (hs : F31_linkboyref04_Compare a0 a1 = some r) :
    Ret Try.prog 31 #[(Value.agg (Point.enc a0).toArray), (Value.agg (Point.enc a1).toArray)] w fun v w' => v = (Value.int .i64 r) ∧ Ch nb w w' := by
  have hS := hs
  have c0 : Ch nb w w := Ch.refl
  refine Ret.of (n := 24) (args := [_, _]) (rs := [.tmp 4]) Try.func31 rfl rfl rfl rfl ?_
  refine CW.seq (CW.region ?_)
  refine rl_boxA (cs := (Point.enc a0)) rfl rfl ?_
  intro p1 w2 n3 k4
  have gp1 : (G F w.heap.size nb) p1 := ⟨.inr (by rw [n3.eq]; exact c0.size), fun h => absurd (nbS _ h) (by rw [n3.eq]; exact Nat.lt_irrefl _)⟩
  have c0 := c0.then0 n3.ch
  refine rl_boxA (cs := (Point.enc a1)) rfl rfl ?_
  intro p5 w6 n7 k8
  have gp5 : (G F w.heap.size nb) p5 := ⟨.inr (by rw [n7.eq]; exact c0.size), fun h => absurd (nbS _ h) (by rw [n7.eq]; exact Nat.lt_irrefl _)⟩
  have k4 := k4.ch0 n7.ch
  have c0 := c0.then0 n7.ch
  refine rl_assign rfl rfl ?_
  refine RL.nil ?_
  refine thn_n ?_
  refine CW.seq ?_
  refine CW.seq (CW.region ?_)
  refine rl_fieldAddr rfl fa40_0 rfl ?_
  refine rl_loadA (cs := (Addr.enc a0.addr)) rfl Try.isAgg38 Try.sizeOf38 (k4.segAt 0 17) rfl rfl ?_
  refine rl_fieldAddr rfl fa40_0 rfl ?_
  refine rl_loadA (cs := (Addr.enc a1.addr)) rfl Try.isAgg38 Try.sizeOf38 (k8.segAt 0 17) rfl rfl ?_
  obtain ⟨y11, hy12, hS⟩ := bindS hS
  refine rl_callF rfl en46 rfl (ctr46 (G F w.heap.size nb) w6 a0.addr a1.addr y11 hy12) ?_
  rintro _ w9 ⟨rfl, c10⟩
  have k4 := k4.ch0 c10
  have k8 := k8.ch0 c10
  have c0 := c0.then0 c10
  refine rl_assign rfl rfl ?_
  refine RL.nil ?_
  refine thn_n ?_
  refine CW.seq (CW.region ?_)
  refine rl_move rfl rfl ?_
  refine rl_bin rfl rfl B.neq rfl ?_
  refine RL.nil ?_
  refine thn_n ?_
  refine CW.cond (t := !decide (y11 = 0)) rfl (fun q13 => ?_) (fun q13 => ?_)
  ·
   have hS := ifT q13 hS
   refine CW.seq (CW.region ?_)
   refine rl_move rfl rfl ?_
   refine rl_assign rfl rfl ?_
   refine RL.nil ?_
   refine thn_n ?_
   refine CW.ret ?_
   refine thn_ret ?_
   obtain rfl := Option.some.inj hS
   exact ret1 rfl ⟨rfl, c0⟩
  ·
   have hS := ifF q13 hS
   refine CW.skip ?_
   refine thn_n ?_
   refine CW.seq ?_
   refine CW.seq (CW.region ?_)
   refine rl_fieldAddr rfl fa40_1 rfl ?_
   refine rl_loadS (v := (Value.int .i64 a0.port)) rfl Try.isAgg3 (k4.cell rfl) rfl ?_
   refine rl_fieldAddr rfl fa40_1 rfl ?_
   refine rl_loadS (v := (Value.int .i64 a1.port)) rfl Try.isAgg3 (k8.cell rfl) rfl ?_
   refine rl_bin rfl rfl B.lss rfl ?_
   refine RL.nil ?_
   refine thn_n ?_
   refine CW.cond (t := decide (a0.port < a1.port)) rfl (fun q14 => ?_) (fun q14 => ?_)
   ·
    have hS := ifT q14 hS
    refine CW.seq (CW.region ?_)
    refine rl_assign rfl rfl ?_
    refine RL.nil ?_
    refine thn_n ?_
    refine CW.ret ?_
    refine thn_ret ?_
    obtain rfl := Option.some.inj hS
    exact ret1 rfl ⟨rfl, c0⟩
   ·
    have hS := ifF q14 hS
    refine CW.skip ?_
    refine thn_n ?_
    refine CW.seq ?_
    refine CW.seq (CW.region ?_)
    refine rl_fieldAddr rfl fa40_1 rfl ?_
    refine rl_loadS (v := (Value.int .i64 a0.port)) rfl Try.isAgg3 (k4.cell rfl) rfl ?_
    refine rl_fieldAddr rfl fa40_1 rfl ?_
    refine rl_loadS (v := (Value.int .i64 a1.port)) rfl Try.isAgg3 (k8.cell rfl) rfl ?_
    refine rl_bin rfl rfl B.gtr rfl ?_
    refine RL.nil ?_
    refine thn_n ?_
    refine CW.cond (t := decide (a0.port > a1.port)) rfl (fun q15 => ?_) (fun q15 => ?_)
    ·
     have hS := ifT q15 hS
     refine CW.seq (CW.region ?_)
     refine rl_assign rfl rfl ?_
     refine RL.nil ?_
     refine thn_n ?_
     refine CW.ret ?_
     refine thn_ret ?_
     obtain rfl := Option.some.inj hS
     exact ret1 rfl ⟨rfl, c0⟩
    ·
     have hS := ifF q15 hS
     refine CW.skip ?_
     refine thn_n ?_
     refine CW.seq (CW.region ?_)
     refine rl_assign rfl rfl ?_
     refine RL.nil ?_
     refine thn_n ?_
     refine CW.ret ?_
     obtain rfl := Option.some.inj hS
     exact ret1 rfl ⟨rfl, c0⟩
/-- lb/lbref20.n -/
theorem ctr32 (F : Nat → Prop) (w : World) (a0 : Bool) (r : Int) (hs : F32_linkboyref20_n a0 = r) :
    Ret Try.prog 32 #[(Value.bool a0)] w fun v w' => v = (Value.int .i64 r) ∧ Ch nb w w' := by
  have hS := hs
  have c0 : Ch nb w w := Ch.refl
  refine Ret.of (n := 4) (args := [_]) (rs := [.tmp 2]) Try.func32 rfl rfl rfl rfl ?_
  refine CW.seq (CW.region ?_)
  refine rl_assign rfl rfl ?_
  refine RL.nil ?_
  refine thn_n ?_
  refine CW.seq ?_
  refine CW.seq (CW.region ?_)
  refine rl_move rfl rfl ?_
  refine RL.nil ?_
  refine thn_n ?_
  refine CW.cond (t := a0) rfl (fun q1 => ?_) (fun q1 => ?_)
  ·
   have hS := ifT q1 hS
   refine CW.seq (CW.region ?_)
   refine rl_assign rfl rfl ?_
   refine RL.nil ?_
   refine thn_n ?_
   refine CW.ret ?_
   refine thn_ret ?_
   obtain rfl := hS
   exact ret1 rfl ⟨rfl, c0⟩
  ·
   have hS := ifF q1 hS
   refine CW.skip ?_
   refine thn_n ?_
   refine CW.seq (CW.region ?_)
   refine rl_assign rfl rfl ?_
   refine RL.nil ?_
   refine thn_n ?_
   refine CW.ret ?_
   obtain rfl := hS
   exact ret1 rfl ⟨rfl, c0⟩
/-- lb/lbref20.Compare -/
theorem ctr22 (F : Nat → Prop) (w : World) (a0 : Face) (a1 : Face) (r : Int) (hs : F22_linkboyref20_Compare a0 a1 = some r) :
    Ret Try.prog 22 #[(Value.agg (Face.enc a0).toArray), (Value.agg (Face.enc a1).toArray)] w fun v w' => v = (Value.int .i64 r) ∧ Ch nb w w' := by
  have hS := hs
  have c0 : Ch nb w w := Ch.refl
  refine Ret.of (n := 60) (args := [_, _]) (rs := [.tmp 4]) Try.func22 rfl rfl rfl rfl ?_
  refine CW.seq (CW.region ?_)
  refine rl_boxA (cs := (Face.enc a0)) rfl rfl ?_
  intro p1 w2 n3 k4
  have gp1 : (G F w.heap.size nb) p1 := ⟨.inr (by rw [n3.eq]; exact c0.size), fun h => absurd (nbS _ h) (by rw [n3.eq]; exact Nat.lt_irrefl _)⟩
  have c0 := c0.then0 n3.ch
  refine rl_boxA (cs := (Face.enc a1)) rfl rfl ?_
  intro p5 w6 n7 k8
  have gp5 : (G F w.heap.size nb) p5 := ⟨.inr (by rw [n7.eq]; exact c0.size), fun h => absurd (nbS _ h) (by rw [n7.eq]; exact Nat.lt_irrefl _)⟩
  have k4 := k4.ch0 n7.ch
  have c0 := c0.then0 n7.ch
  refine rl_assign rfl rfl ?_
  refine RL.nil ?_
  refine thn_n ?_
  refine CW.seq ?_
  refine CW.seq (CW.region ?_)
  refine rl_fieldAddr rfl fa62_0 rfl ?_
  refine rl_loadS (v := (Value.int .i64 a0.proto)) rfl Try.isAgg3 (k4.cell rfl) rfl ?_
  refine rl_fieldAddr rfl fa62_0 rfl ?_
  refine rl_loadS (v := (Value.int .i64 a1.proto)) rfl Try.isAgg3 (k8.cell rfl) rfl ?_
  obtain ⟨y11, hy12⟩ : ∃ y, F30_linkboyref20_less a0.proto a1.proto = y := ⟨_, rfl⟩
  have hS := ltS hy12 hS
  refine rl_callF rfl en30 rfl (ctr30 (G F w.heap.size nb) w6 a0.proto a1.proto y11 hy12) ?_
  rintro _ w9 ⟨rfl, c10⟩
  have k4 := k4.ch0 c10
  have k8 := k8.ch0 c10
  have c0 := c0.then0 c10
  refine rl_assign rfl rfl ?_
  refine RL.nil ?_
  refine thn_n ?_
  refine CW.seq (CW.region ?_)
  refine rl_move rfl rfl ?_
  refine rl_bin rfl rfl B.neq rfl ?_
  refine RL.nil ?_
  refine thn_n ?_
  refine CW.cond (t := !decide (y11 = 0)) rfl (fun q13 => ?_) (fun q13 => ?_)
  ·
   have hS := ifT q13 hS
   refine CW.seq (CW.region ?_)
   refine rl_move rfl rfl ?_
   refine rl_assign rfl rfl ?_
   refine RL.nil ?_
   refine thn_n ?_
   refine CW.ret ?_
   refine thn_ret ?_
   obtain rfl := Option.some.inj hS
   exact ret1 rfl ⟨rfl, c0⟩
  ·
   have hS := ifF q13 hS
   refine CW.skip ?_
   refine thn_n ?_
   refine CW.seq ?_
   refine CW.seq (CW.region ?_)
   refine rl_fieldAddr rfl fa62_1 rfl ?_
   refine rl_loadA (cs := (Point.enc a0.point)) rfl Try.isAgg40 Try.sizeOf40 (k4.segAt 1 18) rfl rfl ?_
   refine rl_fieldAddr rfl fa62_1 rfl ?_
   refine rl_loadA (cs := (Point.enc a1.point)) rfl Try.isAgg40 Try.sizeOf40 (k8.segAt 1 18) rfl rfl ?_
   obtain ⟨y16, hy17, hS⟩ := bindS hS
   refine rl_callF rfl en31 rfl (ctr31 (G F w.heap.size nb) w9 a0.point a1.point y16 hy17) ?_
   rintro _ w14 ⟨rfl, c15⟩
   have k4 := k4.ch0 c15
   have k8 := k8.ch0 c15
   have c0 := c0.then0 c15
   refine rl_assign rfl rfl ?_
   refine RL.nil ?_
   refine thn_n ?_
   refine CW.seq (CW.region ?_)
   refine rl_move rfl rfl ?_
   refine rl_bin rfl rfl B.neq rfl ?_
   refine RL.nil ?_
   refine thn_n ?_
   refine CW.cond (t := !decide (y16 = 0)) rfl (fun q18 => ?_) (fun q18 => ?_)
   ·
    have hS := ifT q18 hS
    refine CW.seq (CW.region ?_)
    refine rl_move rfl rfl ?_
    refine rl_assign rfl rfl ?_
    refine RL.nil ?_
    refine thn_n ?_
    refine CW.ret ?_
    refine thn_ret ?_
    obtain rfl := Option.some.inj hS
    exact ret1 rfl ⟨rfl, c0⟩
   ·
    have hS := ifF q18 hS
    refine CW.skip ?_
    refine thn_n ?_
    refine CW.seq ?_
    refine CW.seq (CW.region ?_)
    refine rl_fieldAddr rfl fa62_2 rfl ?_
    refine rl_loadS (v := (Value.string a0.name)) rfl Try.isAgg9 (k4.cell rfl) rfl ?_
    refine rl_fieldAddr rfl fa62_2 rfl ?_
    refine rl_loadS (v := (Value.string a1.name)) rfl Try.isAgg9 (k8.cell rfl) rfl ?_
    refine rl_bin rfl rfl B.lssS rfl ?_
    refine RL.nil ?_
    refine thn_n ?_
    refine CW.cond (t := Op.bytesLess a0.name.toList a1.name.toList) rfl (fun q19 => ?_) (fun q19 => ?_)
    ·
     have hS := ifT q19 hS
     refine CW.seq (CW.region ?_)
     refine rl_assign rfl rfl ?_
     refine RL.nil ?_
     refine thn_n ?_
     refine CW.ret ?_
     refine thn_ret ?_
     obtain rfl := Option.some.inj hS
     exact ret1 rfl ⟨rfl, c0⟩
    ·
     have hS := ifF q19 hS
     refine CW.skip ?_
     refine thn_n ?_
     refine CW.seq ?_
     refine CW.seq (CW.region ?_)
     refine rl_fieldAddr rfl fa62_2 rfl ?_
     refine rl_loadS (v := (Value.string a0.name)) rfl Try.isAgg9 (k4.cell rfl) rfl ?_
     refine rl_fieldAddr rfl fa62_2 rfl ?_
     refine rl_loadS (v := (Value.string a1.name)) rfl Try.isAgg9 (k8.cell rfl) rfl ?_
     refine rl_bin rfl rfl B.gtrS rfl ?_
     refine RL.nil ?_
     refine thn_n ?_
     refine CW.cond (t := !(Op.bytesLess a0.name.toList a1.name.toList || decide (a0.name = a1.name))) rfl (fun q20 => ?_) (fun q20 => ?_)
     ·
      have hS := ifT q20 hS
      refine CW.seq (CW.region ?_)
      refine rl_assign rfl rfl ?_
      refine RL.nil ?_
      refine thn_n ?_
      refine CW.ret ?_
      refine thn_ret ?_
      obtain rfl := Option.some.inj hS
      exact ret1 rfl ⟨rfl, c0⟩
     ·
      have hS := ifF q20 hS
      refine CW.skip ?_
      refine thn_n ?_
      refine CW.seq ?_
      refine CW.seq (CW.region ?_)
      refine rl_fieldAddr rfl fa62_3 rfl ?_
      refine rl_loadS (v := (Value.int .i64 a0.how)) rfl Try.isAgg3 (k4.cell rfl) rfl ?_
      refine rl_fieldAddr rfl fa62_3 rfl ?_
      refine rl_loadS (v := (Value.int .i64 a1.how)) rfl Try.isAgg3 (k8.cell rfl) rfl ?_
      obtain ⟨y23, hy24⟩ : ∃ y, F30_linkboyref20_less a0.how a1.how = y := ⟨_, rfl⟩
      have hS := ltS hy24 hS
      refine rl_callF rfl en30 rfl (ctr30 (G F w.heap.size nb) w14 a0.how a1.how y23 hy24) ?_
      rintro _ w21 ⟨rfl, c22⟩
      have k4 := k4.ch0 c22
      have k8 := k8.ch0 c22
      have c0 := c0.then0 c22
      refine rl_assign rfl rfl ?_
      refine RL.nil ?_
      refine thn_n ?_
      refine CW.seq (CW.region ?_)
      refine rl_move rfl rfl ?_
      refine rl_bin rfl rfl B.neq rfl ?_
      refine RL.nil ?_
      refine thn_n ?_
      refine CW.cond (t := !decide (y23 = 0)) rfl (fun q25 => ?_) (fun q25 => ?_)
      ·
       have hS := ifT q25 hS
       refine CW.seq (CW.region ?_)
       refine rl_move rfl rfl ?_
       refine rl_assign rfl rfl ?_
       refine RL.nil ?_
       refine thn_n ?_
       refine CW.ret ?_
       refine thn_ret ?_
       obtain rfl := Option.some.inj hS
       exact ret1 rfl ⟨rfl, c0⟩
      ·
       have hS := ifF q25 hS
       refine CW.skip ?_
       refine thn_n ?_
       refine CW.seq ?_
       refine CW.seq ?_
       obtain ⟨y28, hy29⟩ : ∃ y, F32_linkboyref20_n a0.localF = y := ⟨_, rfl⟩
       have hS := ltS hy29 hS
       obtain ⟨y32, hy33⟩ : ∃ y, F32_linkboyref20_n a1.localF = y := ⟨_, rfl⟩
       have hS := ltS hy33 hS
       obtain ⟨y36, hy37⟩ : ∃ y, F30_linkboyref20_less y28 y32 = y := ⟨_, rfl⟩
       have hS := ltS hy37 hS
       refine CW.draw 5 [(none, fun _ O uu wx => uu = (Value.pointer (some ⟨p1, 21, none⟩))), (none, fun _ O uu wx => uu = (Value.bool a0.localF)), (none, fun _ O uu wx => uu = (Value.int .i64 y28)), (none, fun _ O uu wx => uu = (Value.pointer (some ⟨p5, 21, none⟩))), (none, fun _ O uu wx => uu = (Value.bool a1.localF))] [[], [0], [1], [], [3]] [2, 4] nb (fun _ h => h.elim) mixed rfl rfl rfl rfl ?_ ?_
       ·
        refine Each.consA ⟨fun _ _ _ _ _ _ h => h, fun h => absurd rfl h, fun O wk hO ck => ?_⟩ ?_
        ·
         have k4 := k4.ch0 ck
         have k8 := k8.ch0 ck
         have c0 := c0.then0 ck
         refine rl_fieldAddr rfl fa62_4 rfl ?_
         exact RL.nil ⟨_, rfl, Ch.refl, rfl⟩
        refine Each.consA ⟨fun _ _ _ _ _ _ h => h, fun h => absurd rfl h, fun O wk hO ck => ?_⟩ ?_
        ·
         have k4 := k4.ch0 ck
         have k8 := k8.ch0 ck
         have c0 := c0.then0 ck
         refine Need.one rfl rfl rfl ?_
         rintro _ e38
         obtain rfl := e38.symm
         refine rl_loadS (v := (Value.bool a0.localF)) rfl Try.isAgg4 (k4.cell rfl) rfl ?_
         exact RL.nil ⟨_, rfl, Ch.refl, rfl⟩
        refine Each.consA ⟨fun _ _ _ _ _ _ h => h, fun h => absurd rfl h, fun O wk hO ck => ?_⟩ ?_
        ·
         have k4 := k4.ch0 ck
         have k8 := k8.ch0 ck
         have c0 := c0.then0 ck
         refine Need.one rfl rfl rfl ?_
         rintro _ e39
         obtain rfl := e39.symm
         refine rl_callF rfl en32 rfl (ctr32 (G F w.heap.size nb) wk a0.localF y28 hy29) ?_
         rintro _ w40 ⟨rfl, c41⟩
         have k4 := k4.ch0 c41
         have k8 := k8.ch0 c41
         have c0 := c0.then0 c41
         exact RL.nil ⟨_, rfl, c41, rfl⟩
        refine Each.consA ⟨fun _ _ _ _ _ _ h => h, fun h => absurd rfl h, fun O wk hO ck => ?_⟩ ?_
        ·
         have k4 := k4.ch0 ck
         have k8 := k8.ch0 ck
         have c0 := c0.then0 ck
         refine rl_fieldAddr rfl fa62_4 rfl ?_
         exact RL.nil ⟨_, rfl, Ch.refl, rfl⟩
        refine Each.consA ⟨fun _ _ _ _ _ _ h => h, fun h => absurd rfl h, fun O wk hO ck => ?_⟩ ?_
        ·
         have k4 := k4.ch0 ck
         have k8 := k8.ch0 ck
         have c0 := c0.then0 ck
         refine Need.one rfl rfl rfl ?_
         rintro _ e42
         obtain rfl := e42.symm
         refine rl_loadS (v := (Value.bool a1.localF)) rfl Try.isAgg4 (k8.cell rfl) rfl ?_
         exact RL.nil ⟨_, rfl, Ch.refl, rfl⟩
        trivial
       ·
        intro hvO45 OpO45 O45 w43 hO46 c44 hN47
        have k4 := k4.ch0 c44
        have k8 := k8.ch0 c44
        have c0 := c0.then0 c44
        refine Need.one rfl rfl rfl ?_
        rintro _ e48
        obtain rfl := e48.symm
        refine Need.one rfl rfl rfl ?_
        rintro _ e49
        obtain rfl := e49.symm
        refine rl_callF rfl en32 rfl (ctr32 (G F w.heap.size nb) w43 a1.localF y32 hy33) ?_
        rintro _ w50 ⟨rfl, c51⟩
        have k4 := k4.ch0 c51
        have k8 := k8.ch0 c51
        have c0 := c0.then0 c51
        refine rl_callF rfl en30 rfl (ctr30 (G F w.heap.size nb) w50 y28 y32 y36 hy37) ?_
        rintro _ w52 ⟨rfl, c53⟩
        have k4 := k4.ch0 c53
        have k8 := k8.ch0 c53
        have c0 := c0.then0 c53
        refine rl_assign rfl rfl ?_
        refine RL.nil ?_
        refine thn_n ?_
        refine CW.seq (CW.region ?_)
        refine rl_move rfl rfl ?_
        refine rl_bin rfl rfl B.neq rfl ?_
        refine RL.nil ?_
        refine thn_n ?_
        refine CW.cond (t := !decide (y36 = 0)) rfl (fun q54 => ?_) (fun q54 => ?_)
        ·
         have hS := ifT q54 hS
         refine CW.seq (CW.region ?_)
         refine rl_move rfl rfl ?_
         refine rl_assign rfl rfl ?_
         refine RL.nil ?_
         refine thn_n ?_
         refine CW.ret ?_
         refine thn_ret ?_
         obtain rfl := Option.some.inj hS
         exact ret1 rfl ⟨rfl, c0⟩
        ·
         have hS := ifF q54 hS
         refine CW.skip ?_
         refine thn_n ?_
         refine CW.seq ?_
         obtain ⟨y57, hy58⟩ : ∃ y, F32_linkboyref20_n a0.asked = y := ⟨_, rfl⟩
         have hS := ltS hy58 hS
         obtain ⟨y61, hy62⟩ : ∃ y, F32_linkboyref20_n a1.asked = y := ⟨_, rfl⟩
         have hS := ltS hy62 hS
         obtain ⟨y65, hy66⟩ : ∃ y, F30_linkboyref20_less y57 y61 = y := ⟨_, rfl⟩
         have hS := ltS hy66 hS
         refine CW.draw 5 [(none, fun _ O uu wx => uu = (Value.pointer (some ⟨p1, 22, none⟩))), (none, fun _ O uu wx => uu = (Value.bool a0.asked)), (none, fun _ O uu wx => uu = (Value.int .i64 y57)), (none, fun _ O uu wx => uu = (Value.pointer (some ⟨p5, 22, none⟩))), (none, fun _ O uu wx => uu = (Value.bool a1.asked))] [[], [0], [1], [], [3]] [2, 4] nb (fun _ h => h.elim) mixed rfl rfl rfl rfl ?_ ?_
         ·
          refine Each.consA ⟨fun _ _ _ _ _ _ h => h, fun h => absurd rfl h, fun O wk hO ck => ?_⟩ ?_
          ·
           have k4 := k4.ch0 ck
           have k8 := k8.ch0 ck
           have c0 := c0.then0 ck
           refine rl_fieldAddr rfl fa62_5 rfl ?_
           exact RL.nil ⟨_, rfl, Ch.refl, rfl⟩
          refine Each.consA ⟨fun _ _ _ _ _ _ h => h, fun h => absurd rfl h, fun O wk hO ck => ?_⟩ ?_
          ·
           have k4 := k4.ch0 ck
           have k8 := k8.ch0 ck
           have c0 := c0.then0 ck
           refine Need.one rfl rfl rfl ?_
           rintro _ e67
           obtain rfl := e67.symm
           refine rl_loadS (v := (Value.bool a0.asked)) rfl Try.isAgg4 (k4.cell rfl) rfl ?_
           exact RL.nil ⟨_, rfl, Ch.refl, rfl⟩
          refine Each.consA ⟨fun _ _ _ _ _ _ h => h, fun h => absurd rfl h, fun O wk hO ck => ?_⟩ ?_
          ·
           have k4 := k4.ch0 ck
           have k8 := k8.ch0 ck
           have c0 := c0.then0 ck
           refine Need.one rfl rfl rfl ?_
           rintro _ e68
           obtain rfl := e68.symm
           refine rl_callF rfl en32 rfl (ctr32 (G F w.heap.size nb) wk a0.asked y57 hy58) ?_
           rintro _ w69 ⟨rfl, c70⟩
           have k4 := k4.ch0 c70
           have k8 := k8.ch0 c70
           have c0 := c0.then0 c70
           exact RL.nil ⟨_, rfl, c70, rfl⟩
          refine Each.consA ⟨fun _ _ _ _ _ _ h => h, fun h => absurd rfl h, fun O wk hO ck => ?_⟩ ?_
          ·
           have k4 := k4.ch0 ck
           have k8 := k8.ch0 ck
           have c0 := c0.then0 ck
           refine rl_fieldAddr rfl fa62_5 rfl ?_
           exact RL.nil ⟨_, rfl, Ch.refl, rfl⟩
          refine Each.consA ⟨fun _ _ _ _ _ _ h => h, fun h => absurd rfl h, fun O wk hO ck => ?_⟩ ?_
          ·
           have k4 := k4.ch0 ck
           have k8 := k8.ch0 ck
           have c0 := c0.then0 ck
           refine Need.one rfl rfl rfl ?_
           rintro _ e71
           obtain rfl := e71.symm
           refine rl_loadS (v := (Value.bool a1.asked)) rfl Try.isAgg4 (k8.cell rfl) rfl ?_
           exact RL.nil ⟨_, rfl, Ch.refl, rfl⟩
          trivial
         ·
          intro hvO74 OpO74 O74 w72 hO75 c73 hN76
          have k4 := k4.ch0 c73
          have k8 := k8.ch0 c73
          have c0 := c0.then0 c73
          refine Need.one rfl rfl rfl ?_
          rintro _ e77
          obtain rfl := e77.symm
          refine Need.one rfl rfl rfl ?_
          rintro _ e78
          obtain rfl := e78.symm
          refine rl_callF rfl en32 rfl (ctr32 (G F w.heap.size nb) w72 a1.asked y61 hy62) ?_
          rintro _ w79 ⟨rfl, c80⟩
          have k4 := k4.ch0 c80
          have k8 := k8.ch0 c80
          have c0 := c0.then0 c80
          refine rl_callF rfl en30 rfl (ctr30 (G F w.heap.size nb) w79 y57 y61 y65 hy66) ?_
          rintro _ w81 ⟨rfl, c82⟩
          have k4 := k4.ch0 c82
          have k8 := k8.ch0 c82
          have c0 := c0.then0 c82
          refine rl_assign rfl rfl ?_
          refine RL.nil ?_
          refine thn_n ?_
          refine CW.ret ?_
          obtain rfl := Option.some.inj hS
          exact ret1 rfl ⟨rfl, c0⟩
end Go.Proofs.Ytejkknmedebgnaa
