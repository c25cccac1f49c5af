/- The walks through the code: each call comes to its printed function. Written by a program of this session. -/
import Derived.Test.YtokikdhilpebmaaM
namespace Go.Proofs.Ytokikdhilpebmaa
open Go K
set_option linter.unusedVariables false
/-- lb/ties.New -/
theorem ctr11 (F : Nat → Prop) (w : World)  (r : Ties) (hs : F11_ties_New  = r) :
    Ret Try.prog 11 #[] w fun v w' => ∃ (y0_p : Nat) (y0_0 : Value), v = (Value.pointer (some ⟨y0_p, 0, none⟩)) ∧ Blk w' y0_p 69 (Ties.c r y0_0) ∧ Mp (fun x => Value.agg (Place.enc x).toArray) (fun x => Value.agg (Tie.enc x).toArray) w' r.all y0_0 ∧ (∀ b, inBlk (Value.pointer (some ⟨y0_p, 0, none⟩)) b → w.heap.size ≤ b) ∧ (∀ b, inBlk y0_0 b → w.heap.size ≤ b) ∧ (∀ b, inBlk (Value.pointer (some ⟨y0_p, 0, none⟩)) b → ¬ inBlk y0_0 b) ∧ Ch nb w w' := by
  have hS := hs
  have c0 : Ch nb w w := Ch.refl
  refine Ret.of (n := 4) (args := []) (rs := [.tmp 0]) Try.func11 rfl rfl rfl rfl ?_
  refine CW.seq (CW.region ?_)
  refine rl_assign rfl rfl ?_
  refine RL.nil ?_
  refine thn_n ?_
  refine CW.seq (CW.region ?_)
  refine rl_makeMap (ek := (fun x => Value.agg (Place.enc x).toArray)) (ev := (fun x => Value.agg (Tie.enc x).toArray)) rfl ?_
  intro p1 w2 n3 k4
  have lo5 : ∀ b, inBlk (Value.map (some p1)) b → w.heap.size ≤ b := fun b h => Nat.le_trans c0.size (n3.freshM b h)
  have c0 := c0.then0 n3.ch
  refine rl_buildC (out := (Ties.c ({ all := ([] : (List (Place × Tie))) } : Ties) (Value.map (some p1)))) [(0, [(Value.map (some p1))])] rfl ⟨⟨rfl, by rw [k4.one.1]⟩, trivial⟩ pl69 Try.zeroValue69 rfl rfl rfl ?_
  refine rl_boxA (cs := (Ties.c ({ all := ([] : (List (Place × Tie))) } : Ties) (Value.map (some p1)))) rfl rfl ?_
  intro p6 w7 n8 k9
  have lo10 : ∀ b, inBlk (Value.pointer (some ⟨p6, 0, none⟩)) b → w.heap.size ≤ b := fun b h => Nat.le_trans c0.size (n8.fresh b h)
  have d11 : ∀ b, inBlk (Value.pointer (some ⟨p6, 0, none⟩)) b → ¬ inBlk (Value.map (some p1)) b := disNew n8.fresh k4.ltp
  have k4 := k4.ch0 n8.ch
  have c0 := c0.then0 n8.ch
  refine rl_assign rfl rfl ?_
  refine RL.nil ?_
  refine thn_n ?_
  refine CW.ret ?_
  obtain rfl := hS
  exact ret1 rfl ⟨p6, (Value.map (some p1)), rfl, k9, k4, lo10, lo5, d11, c0⟩
/-- (lb/ties.Tie).place -/
theorem ctr35 (F : Nat → Prop) (w : World) (a0 : Tie) (r : Place) (hs : F35_ties_Tie_place a0 = r) :
    Ret Try.prog 35 #[(Value.agg (Tie.enc a0).toArray)] w fun v w' => v = (Value.agg (Place.enc r).toArray) ∧ Ch nb w w' := by
  have hS := hs
  have c0 : Ch nb w w := Ch.refl
  refine Ret.of (n := 12) (args := [_]) (rs := [.cell 2 79]) Try.func35 rfl rfl rfl rfl ?_
  refine CW.seq (CW.region ?_)
  refine rl_boxA (cs := (Tie.enc a0)) rfl rfl ?_
  intro p1 w2 n3 k4
  have gp1 : (G F w.heap.size nb) p1 := ⟨.inr (by rw [n3.eq]; exact c0.size), fun h => absurd (nbS _ h) (by rw [n3.eq]; exact Nat.lt_irrefl _)⟩
  have c0 := c0.then0 n3.ch
  refine rl_alloc (Place.enc Place.z) Try.zeroValue79 rfl rfl ?_
  intro p5 w6 n7 k8
  have lo9 : ∀ b, inBlk (Value.pointer (some ⟨p5, 0, none⟩)) b → w.heap.size ≤ b := fun b h => Nat.le_trans c0.size (n7.fresh b h)
  have gp1n : (G F w.heap.size (un (inBlk (Value.pointer (some ⟨p5, 0, none⟩))) nb)) p1 := ⟨gp1.1, ((admNew n7.fresh (fun _ x => x)) _ k4.lt gp1.2).2⟩
  have k4 := k4.ch0 n7.ch
  have gp1 := gp1n
  have c0 := c0.then0 n7.ch
  refine RL.nil ?_
  refine thn_n ?_
  refine CW.seq (CW.region ?_)
  refine rl_fieldAddr rfl fa30_0 rfl ?_
  refine rl_loadA (cs := (Addr.enc a0.client)) rfl Try.isAgg24 Try.sizeOf24 (k4.segAt 0 17) rfl rfl ?_
  refine rl_fieldAddr rfl fa30_1 rfl ?_
  refine rl_loadA (cs := (Key.enc a0.service)) rfl Try.isAgg26 Try.sizeOf26 (k4.segAt 17 2) rfl rfl ?_
  refine rl_fieldAddr rfl fa30_2 rfl ?_
  refine rl_loadS (v := (Value.string a0.name)) rfl Try.isAgg9 (k4.cell rfl) rfl ?_
  refine rl_fieldAddr rfl fa30_3 rfl ?_
  refine rl_loadS (v := (Value.bool a0.localF)) rfl Try.isAgg4 (k4.cell rfl) rfl ?_
  refine rl_build (out := (Place.enc ({ client := a0.client, service := a0.service, name := a0.name, localF := a0.localF } : Place))) rfl pl79 Try.zeroValue79 rfl rfl rfl ?_
  refine rl_storeA (vs := (Place.enc ({ client := a0.client, service := a0.service, name := a0.name, localF := a0.localF } : Place))) rfl rfl (all_one rfl) Try.sizeOf79 rfl k8 rfl ?_
  intro w10 s12 c11 k13
  have ad14 : ∀ b, b < w6.heap.size → ¬ (un (inBlk (Value.pointer (some ⟨p5, 0, none⟩))) nb) b → ¬ (inBlk (Value.pointer (some ⟨p5, 0, none⟩))) b ∧ ¬ (un (inBlk (Value.pointer (some ⟨p5, 0, none⟩))) nb) b := fun b _ hs => ⟨fun h => hs (.inl h), hs⟩
  have k4 := k4.ch c11 (ad14 _ k4.lt gp1.2).1
  have c0 := c0.then c11 (fun i hi h => absurd (lo9 i h) (Nat.not_le_of_lt hi))
  refine RL.nil ?_
  refine thn_n ?_
  refine CW.ret ?_
  obtain rfl := hS
  exact ⟨[_], ⟨Res1.agg (cs := (Place.enc ({ client := a0.client, service := a0.service, name := a0.name, localF := a0.localF } : Place))) rfl Try.isAgg79 Try.sizeOf79 (k13.segAt 0 21) rfl, trivial⟩, ⟨rfl, c0⟩⟩
/-- cmp.isNaN[int] -/
theorem ctr40 (F : Nat → Prop) (w : World) (a0 : Int) (r : Bool) (hs : F40_cmp_isNaN_int a0 = r) :
    Ret Try.prog 40 #[(Value.int .i64 a0)] w fun v w' => v = (Value.bool r) ∧ Ch nb w w' := by
  have hS := hs
  have c0 : Ch nb w w := Ch.refl
  refine Ret.of (n := 6) (args := [_]) (rs := [.tmp 2]) Try.func40 rfl rfl rfl rfl ?_
  refine CW.seq (CW.region ?_)
  refine rl_assign rfl rfl ?_
  refine RL.nil ?_
  refine thn_n ?_
  refine CW.seq (CW.region ?_)
  refine rl_move rfl rfl ?_
  refine rl_move rfl rfl ?_
  refine rl_bin rfl rfl B.neq rfl ?_
  refine rl_assign rfl rfl ?_
  refine RL.nil ?_
  refine thn_n ?_
  refine CW.ret ?_
  obtain rfl := hS
  exact ret1 rfl ⟨rfl, c0⟩
/-- cmp.Compare[int] -/
theorem ctr24 (F : Nat → Prop) (w : World) (a0 : Int) (a1 : Int) (r : Int) (hs : F24_cmp_Compare_int a0 a1 = r) :
    Ret Try.prog 24 #[(Value.int .i64 a0), (Value.int .i64 a1)] w fun v w' => v = (Value.int .i64 r) ∧ Ch nb w w' := by
  have hS := hs
  have c0 : Ch nb w w := Ch.refl
  refine Ret.of (n := 20) (args := [_, _]) (rs := [.tmp 4]) Try.func24 rfl rfl rfl rfl ?_
  refine CW.seq (CW.region ?_)
  refine rl_assign rfl rfl ?_
  refine RL.nil ?_
  refine thn_n ?_
  refine CW.seq (CW.region ?_)
  refine rl_move rfl rfl ?_
  obtain ⟨y3, hy4⟩ : ∃ y, F40_cmp_isNaN_int a0 = y := ⟨_, rfl⟩
  have hS := ltS hy4 hS
  refine rl_callF rfl en40 rfl (ctr40 (G F w.heap.size nb) w a0 y3 hy4) ?_
  rintro _ w1 ⟨rfl, c2⟩
  have c0 := c0.then0 c2
  refine rl_assign rfl rfl ?_
  refine RL.nil ?_
  refine thn_n ?_
  refine CW.seq (CW.region ?_)
  refine rl_move rfl rfl ?_
  obtain ⟨y7, hy8⟩ : ∃ y, F40_cmp_isNaN_int a1 = y := ⟨_, rfl⟩
  have hS := ltS hy8 hS
  refine rl_callF rfl en40 rfl (ctr40 (G F w.heap.size nb) w1 a1 y7 hy8) ?_
  rintro _ w5 ⟨rfl, c6⟩
  have c0 := c0.then0 c6
  refine rl_assign rfl rfl ?_
  refine RL.nil ?_
  refine thn_n ?_
  refine CW.seq ?_
  refine CW.seq (CW.region ?_)
  refine rl_move rfl rfl ?_
  refine RL.nil ?_
  refine thn_n ?_
  refine CW.cond (t := y3) rfl (fun q9 => ?_) (fun q9 => ?_)
  ·
   have hS := ifT q9 hS
   refine CW.seq ?_
   refine CW.seq (CW.region ?_)
   refine rl_move rfl rfl ?_
   refine RL.nil ?_
   refine thn_n ?_
   refine CW.cond (t := y7) rfl (fun q10 => ?_) (fun q10 => ?_)
   ·
    have hS := ifT q10 hS
    refine CW.seq (CW.region ?_)
    refine rl_assign rfl rfl ?_
    refine RL.nil ?_
    refine thn_n ?_
    refine CW.ret ?_
    refine thn_ret ?_
    refine thn_ret ?_
    obtain rfl := hS
    exact ret1 rfl ⟨rfl, c0⟩
   ·
    have hS := ifF q10 hS
    refine CW.skip ?_
    refine thn_n ?_
    refine CW.seq (CW.region ?_)
    refine rl_assign rfl rfl ?_
    refine RL.nil ?_
    refine thn_n ?_
    refine CW.ret ?_
    refine thn_ret ?_
    obtain rfl := hS
    exact ret1 rfl ⟨rfl, c0⟩
  ·
   have hS := ifF q9 hS
   refine CW.skip ?_
   refine thn_n ?_
   refine CW.seq ?_
   refine CW.seq (CW.region ?_)
   refine rl_move rfl rfl ?_
   refine RL.nil ?_
   refine thn_n ?_
   refine CW.cond (t := y7) rfl (fun q11 => ?_) (fun q11 => ?_)
   ·
    have hS := ifT q11 hS
    refine CW.seq (CW.region ?_)
    refine rl_assign rfl rfl ?_
    refine RL.nil ?_
    refine thn_n ?_
    refine CW.ret ?_
    refine thn_ret ?_
    obtain rfl := hS
    exact ret1 rfl ⟨rfl, c0⟩
   ·
    have hS := ifF q11 hS
    refine CW.skip ?_
    refine thn_n ?_
    refine CW.seq ?_
    refine CW.seq (CW.region ?_)
    refine rl_move rfl rfl ?_
    refine rl_move rfl rfl ?_
    refine rl_bin rfl rfl B.lss rfl ?_
    refine RL.nil ?_
    refine thn_n ?_
    refine CW.cond (t := decide (a0 < a1)) rfl (fun q12 => ?_) (fun q12 => ?_)
    ·
     have hS := ifT q12 hS
     refine CW.seq (CW.region ?_)
     refine rl_assign rfl rfl ?_
     refine RL.nil ?_
     refine thn_n ?_
     refine CW.ret ?_
     refine thn_ret ?_
     obtain rfl := hS
     exact ret1 rfl ⟨rfl, c0⟩
    ·
     have hS := ifF q12 hS
     refine CW.skip ?_
     refine thn_n ?_
     refine CW.seq ?_
     refine CW.seq (CW.region ?_)
     refine rl_move rfl rfl ?_
     refine rl_move rfl rfl ?_
     refine rl_bin rfl rfl B.gtr rfl ?_
     refine RL.nil ?_
     refine thn_n ?_
     refine CW.cond (t := decide (a0 > a1)) rfl (fun q13 => ?_) (fun q13 => ?_)
     ·
      have hS := ifT q13 hS
      refine CW.seq (CW.region ?_)
      refine rl_assign rfl rfl ?_
      refine RL.nil ?_
      refine thn_n ?_
      refine CW.ret ?_
      refine thn_ret ?_
      obtain rfl := hS
      exact ret1 rfl ⟨rfl, c0⟩
     ·
      have hS := ifF q13 hS
      refine CW.skip ?_
      refine thn_n ?_
      refine CW.seq (CW.region ?_)
      refine rl_assign rfl rfl ?_
      refine RL.nil ?_
      refine thn_n ?_
      refine CW.ret ?_
      obtain rfl := hS
      exact ret1 rfl ⟨rfl, c0⟩
/-- bytes.Compare -/
theorem ctr38 (F : Nat → Prop) (w : World) (a0 : (List Int)) (av0 : Value) (ah0 : slRep (kInt .u8) F w a0 av0) (a1 : (List Int)) (av1 : Value) (ah1 : slRep (kInt .u8) F w a1 av1) (r : Int) (hs : F38_bytes_Compare a0 a1 = r) :
    Ret Try.prog 38 #[av0, av1] w fun v w' => v = (Value.int .i64 r) ∧ Ch nb w w' := by
  have hS := hs
  have c0 : Ch nb w w := Ch.refl
  have ah0 := slRep.enter kInt_pos ah0
  have ah1 := slRep.enter kInt_pos ah1
  refine Ret.of (n := 8) (args := [_, _]) (rs := [.tmp 4]) Try.func38 rfl rfl rfl rfl ?_
  refine CW.seq (CW.region ?_)
  refine rl_assign rfl rfl ?_
  refine RL.nil ?_
  refine thn_n ?_
  refine CW.seq (CW.region ?_)
  refine rl_move rfl rfl ?_
  refine rl_move rfl rfl ?_
  refine rl_bcmp rfl rfl ah0 ah1 Try.func49 (by kernel_rfl) rfl (by kernel_rfl) (by kernel_rfl) rfl ?_
  refine rl_assign rfl rfl ?_
  refine RL.nil ?_
  refine thn_n ?_
  refine CW.ret ?_
  obtain rfl := hS
  exact ret1 rfl ⟨rfl, c0⟩
/-- lb/addr.Compare -/
theorem ctr21 (F : Nat → Prop) (w : World) (a0 : Addr) (a1 : Addr) (r : Int) (hs : F21_addr_Compare a0 a1 = r) :
    Ret Try.prog 21 #[(Value.agg (Addr.enc a0).toArray), (Value.agg (Addr.enc a1).toArray)] w fun v w' => v = (Value.int .i64 r) ∧ Ch nb w w' := by
  have hS := hs
  have c0 : Ch nb w w := Ch.refl
  refine Ret.of (n := 19) (args := [_, _]) (rs := [.tmp 4]) Try.func21 rfl rfl rfl rfl ?_
  refine CW.seq (CW.region ?_)
  refine rl_boxA (cs := (Addr.enc a0)) rfl rfl ?_
  intro p1 w2 n3 k4
  have gp1 : (G F w.heap.size nb) p1 := ⟨.inr (by rw [n3.eq]; exact c0.size), fun h => absurd (nbS _ h) (by rw [n3.eq]; exact Nat.lt_irrefl _)⟩
  have c0 := c0.then0 n3.ch
  refine rl_boxA (cs := (Addr.enc a1)) rfl rfl ?_
  intro p5 w6 n7 k8
  have gp5 : (G F w.heap.size nb) p5 := ⟨.inr (by rw [n7.eq]; exact c0.size), fun h => absurd (nbS _ h) (by rw [n7.eq]; exact Nat.lt_irrefl _)⟩
  have k4 := k4.ch0 n7.ch
  have c0 := c0.then0 n7.ch
  refine rl_assign rfl rfl ?_
  refine RL.nil ?_
  refine thn_n ?_
  refine CW.seq ?_
  refine CW.block ?_
  refine CW.seq (CW.region ?_)
  refine rl_fieldAddr rfl fa24_0 rfl ?_
  refine rl_loadS (v := (Value.bool a0.six)) rfl Try.isAgg4 (k4.cell rfl) rfl ?_
  refine rl_fieldAddr rfl fa24_0 rfl ?_
  refine rl_loadS (v := (Value.bool a1.six)) rfl Try.isAgg4 (k8.cell rfl) rfl ?_
  refine rl_bin rfl rfl (B.eqlB Try.underlying4) rfl ?_
  refine rl_assign rfl rfl ?_
  refine RL.nil ?_
  refine thn_n ?_
  refine CW.cond (t := (a0.six == a1.six)) rfl (fun q9 => ?_) (fun q9 => ?_)
  ·
   have hS := ifT q9 hS
   refine CW.seq ?_
   obtain ⟨y16, hy17⟩ : ∃ y, F38_bytes_Compare (A16u8.list a0.b) (A16u8.list a1.b) = y := ⟨_, rfl⟩
   have hS := ltS hy17 hS
   refine CW.draw 4 [(none, fun _ O uu wx => uu = (Value.pointer (some ⟨p1, 1, none⟩))), (none, fun _ O uu wx => ∃ (v10 : Value), uu = v10 ∧ slRep (kInt .u8) (G F w.heap.size nb) wx (A16u8.list a0.b) v10), (none, fun _ O uu wx => uu = (Value.pointer (some ⟨p5, 1, none⟩))), (none, fun _ O uu wx => ∃ (v12 : Value), uu = v12 ∧ slRep (kInt .u8) (G F w.heap.size nb) wx (A16u8.list a1.b) v12)] [[], [0], [], [2]] [1, 3] nb (fun _ h => h.elim) mixed rfl rfl rfl rfl ?_ ?_
   ·
    refine Each.consA ⟨fun _ _ _ _ _ _ h => h, fun h => absurd rfl h, fun O wk hO ck => ?_⟩ ?_
    ·
     have k4 := k4.ch0 ck
     have k8 := k8.ch0 ck
     have c0 := c0.then0 ck
     refine rl_fieldAddr rfl fa24_1 rfl ?_
     exact RL.nil ⟨_, rfl, Ch.refl, rfl⟩
    refine Each.consA ⟨fun _ _ _ _ _ cc hh => by obtain ⟨v10, e, h11⟩ := hh; exact ⟨v10, e, slRep.ch kInt_pos h11 cc⟩, fun h => absurd rfl h, fun O wk hO ck => ?_⟩ ?_
    ·
     have k4 := k4.ch0 ck
     have k8 := k8.ch0 ck
     have c0 := c0.then0 ck
     refine Need.one rfl rfl rfl ?_
     rintro _ e18
     obtain rfl := e18.symm
     refine rl_sliceArr (k := (kInt .u8)) (R := (G F w.heap.size nb)) (cs := A16u8.enc a0.b) (A16u8.list a0.b) (Value.int .u8) rfl Try.underlying22 rfl Try.sizeOf5 (k4.segAt 1 16) rfl rfl (fun _ => rfl) gp1 rfl rfl ?_
     intro v19 h20
     exact RL.nil ⟨_, rfl, Ch.refl, ⟨v19, rfl, h20⟩⟩
    refine Each.consA ⟨fun _ _ _ _ _ _ h => h, fun h => absurd rfl h, fun O wk hO ck => ?_⟩ ?_
    ·
     have k4 := k4.ch0 ck
     have k8 := k8.ch0 ck
     have c0 := c0.then0 ck
     refine rl_fieldAddr rfl fa24_1 rfl ?_
     exact RL.nil ⟨_, rfl, Ch.refl, rfl⟩
    refine Each.consA ⟨fun _ _ _ _ _ cc hh => by obtain ⟨v12, e, h13⟩ := hh; exact ⟨v12, e, slRep.ch kInt_pos h13 cc⟩, fun h => absurd rfl h, fun O wk hO ck => ?_⟩ ?_
    ·
     have k4 := k4.ch0 ck
     have k8 := k8.ch0 ck
     have c0 := c0.then0 ck
     refine Need.one rfl rfl rfl ?_
     rintro _ e21
     obtain rfl := e21.symm
     refine rl_sliceArr (k := (kInt .u8)) (R := (G F w.heap.size nb)) (cs := A16u8.enc a1.b) (A16u8.list a1.b) (Value.int .u8) rfl Try.underlying22 rfl Try.sizeOf5 (k8.segAt 1 16) rfl rfl (fun _ => rfl) gp5 rfl rfl ?_
     intro v22 h23
     exact RL.nil ⟨_, rfl, Ch.refl, ⟨v22, rfl, h23⟩⟩
    trivial
   ·
    intro hvO26 OpO26 O26 w24 hO27 c25 hN28
    have k4 := k4.ch0 c25
    have k8 := k8.ch0 c25
    have c0 := c0.then0 c25
    refine Need.one rfl rfl rfl ?_
    rintro _ ⟨v10, e29, h11⟩
    obtain rfl := e29.symm
    refine Need.one rfl rfl rfl ?_
    rintro _ ⟨v12, e30, h13⟩
    obtain rfl := e30.symm
    refine rl_callF rfl en38 rfl (ctr38 (G F w.heap.size nb) w24 (A16u8.list a0.b) v10 h11 (A16u8.list a1.b) v12 h13 y16 hy17) ?_
    rintro _ w31 ⟨rfl, c32⟩
    have k4 := k4.ch0 c32
    have k8 := k8.ch0 c32
    have h11 := slRep.ch kInt_pos h11 c32
    have h13 := slRep.ch kInt_pos h13 c32
    have c0 := c0.then0 c32
    refine rl_assign rfl rfl ?_
    refine RL.nil ?_
    refine thn_n ?_
    refine CW.ret ?_
    refine inB_ret ?_
    refine thn_ret ?_
    obtain rfl := hS
    exact ret1 rfl ⟨rfl, c0⟩
  ·
   have hS := ifF q9 hS
   refine CW.seq (CW.region ?_)
   refine rl_fieldAddr rfl fa24_0 rfl ?_
   refine rl_loadS (v := (Value.bool a0.six)) rfl Try.isAgg4 (k4.cell rfl) rfl ?_
   refine rl_assign rfl rfl ?_
   refine RL.nil ?_
   refine thn_n ?_
   refine CW.cond (t := a0.six) rfl (fun q33 => ?_) (fun q33 => ?_)
   ·
    have hS := ifT q33 hS
    refine CW.seq (CW.region ?_)
    refine rl_assign rfl rfl ?_
    refine RL.nil ?_
    refine thn_n ?_
    refine CW.ret ?_
    refine inB_ret ?_
    refine thn_ret ?_
    obtain rfl := hS
    exact ret1 rfl ⟨rfl, c0⟩
   ·
    have hS := ifF q33 hS
    refine CW.skip ?_
    refine inB_n ?_
    refine thn_n ?_
    refine CW.seq (CW.region ?_)
    refine rl_assign rfl rfl ?_
    refine RL.nil ?_
    refine thn_n ?_
    refine CW.ret ?_
    obtain rfl := hS
    exact ret1 rfl ⟨rfl, c0⟩
/-- cmp.isNaN[string] -/
theorem ctr39 (F : Nat → Prop) (w : World) (a0 : ByteArray) (r : Bool) (hs : F39_cmp_isNaN_string a0 = r) :
    Ret Try.prog 39 #[(Value.string a0)] w fun v w' => v = (Value.bool r) ∧ Ch nb w w' := by
  have hS := hs
  have c0 : Ch nb w w := Ch.refl
  refine Ret.of (n := 6) (args := [_]) (rs := [.tmp 2]) Try.func39 rfl rfl rfl rfl ?_
  refine CW.seq (CW.region ?_)
  refine rl_assign rfl rfl ?_
  refine RL.nil ?_
  refine thn_n ?_
  refine CW.seq (CW.region ?_)
  refine rl_move rfl rfl ?_
  refine rl_move rfl rfl ?_
  refine rl_bin rfl rfl B.neqS rfl ?_
  refine rl_assign rfl rfl ?_
  refine RL.nil ?_
  refine thn_n ?_
  refine CW.ret ?_
  obtain rfl := hS
  exact ret1 rfl ⟨rfl, c0⟩
/-- cmp.Compare[string] -/
theorem ctr23 (F : Nat → Prop) (w : World) (a0 : ByteArray) (a1 : ByteArray) (r : Int) (hs : F23_cmp_Compare_string a0 a1 = r) :
    Ret Try.prog 23 #[(Value.string a0), (Value.string a1)] w fun v w' => v = (Value.int .i64 r) ∧ Ch nb w w' := by
  have hS := hs
  have c0 : Ch nb w w := Ch.refl
  refine Ret.of (n := 20) (args := [_, _]) (rs := [.tmp 4]) Try.func23 rfl rfl rfl rfl ?_
  refine CW.seq (CW.region ?_)
  refine rl_assign rfl rfl ?_
  refine RL.nil ?_
  refine thn_n ?_
  refine CW.seq (CW.region ?_)
  refine rl_move rfl rfl ?_
  obtain ⟨y3, hy4⟩ : ∃ y, F39_cmp_isNaN_string a0 = y := ⟨_, rfl⟩
  have hS := ltS hy4 hS
  refine rl_callF rfl en39 rfl (ctr39 (G F w.heap.size nb) w a0 y3 hy4) ?_
  rintro _ w1 ⟨rfl, c2⟩
  have c0 := c0.then0 c2
  refine rl_assign rfl rfl ?_
  refine RL.nil ?_
  refine thn_n ?_
  refine CW.seq (CW.region ?_)
  refine rl_move rfl rfl ?_
  obtain ⟨y7, hy8⟩ : ∃ y, F39_cmp_isNaN_string a1 = y := ⟨_, rfl⟩
  have hS := ltS hy8 hS
  refine rl_callF rfl en39 rfl (ctr39 (G F w.heap.size nb) w1 a1 y7 hy8) ?_
  rintro _ w5 ⟨rfl, c6⟩
  have c0 := c0.then0 c6
  refine rl_assign rfl rfl ?_
  refine RL.nil ?_
  refine thn_n ?_
  refine CW.seq ?_
  refine CW.seq (CW.region ?_)
  refine rl_move rfl rfl ?_
  refine RL.nil ?_
  refine thn_n ?_
  refine CW.cond (t := y3) rfl (fun q9 => ?_) (fun q9 => ?_)
  ·
   have hS := ifT q9 hS
   refine CW.seq ?_
   refine CW.seq (CW.region ?_)
   refine rl_move rfl rfl ?_
   refine RL.nil ?_
   refine thn_n ?_
   refine CW.cond (t := y7) rfl (fun q10 => ?_) (fun q10 => ?_)
   ·
    have hS := ifT q10 hS
    refine CW.seq (CW.region ?_)
    refine rl_assign rfl rfl ?_
    refine RL.nil ?_
    refine thn_n ?_
    refine CW.ret ?_
    refine thn_ret ?_
    refine thn_ret ?_
    obtain rfl := hS
    exact ret1 rfl ⟨rfl, c0⟩
   ·
    have hS := ifF q10 hS
    refine CW.skip ?_
    refine thn_n ?_
    refine CW.seq (CW.region ?_)
    refine rl_assign rfl rfl ?_
    refine RL.nil ?_
    refine thn_n ?_
    refine CW.ret ?_
    refine thn_ret ?_
    obtain rfl := hS
    exact ret1 rfl ⟨rfl, c0⟩
  ·
   have hS := ifF q9 hS
   refine CW.skip ?_
   refine thn_n ?_
   refine CW.seq ?_
   refine CW.seq (CW.region ?_)
   refine rl_move rfl rfl ?_
   refine RL.nil ?_
   refine thn_n ?_
   refine CW.cond (t := y7) rfl (fun q11 => ?_) (fun q11 => ?_)
   ·
    have hS := ifT q11 hS
    refine CW.seq (CW.region ?_)
    refine rl_assign rfl rfl ?_
    refine RL.nil ?_
    refine thn_n ?_
    refine CW.ret ?_
    refine thn_ret ?_
    obtain rfl := hS
    exact ret1 rfl ⟨rfl, c0⟩
   ·
    have hS := ifF q11 hS
    refine CW.skip ?_
    refine thn_n ?_
    refine CW.seq ?_
    refine CW.seq (CW.region ?_)
    refine rl_move rfl rfl ?_
    refine rl_move rfl rfl ?_
    refine rl_bin rfl rfl B.lssS rfl ?_
    refine RL.nil ?_
    refine thn_n ?_
    refine CW.cond (t := Op.bytesLess a0.toList a1.toList) rfl (fun q12 => ?_) (fun q12 => ?_)
    ·
     have hS := ifT q12 hS
     refine CW.seq (CW.region ?_)
     refine rl_assign rfl rfl ?_
     refine RL.nil ?_
     refine thn_n ?_
     refine CW.ret ?_
     refine thn_ret ?_
     obtain rfl := hS
     exact ret1 rfl ⟨rfl, c0⟩
    ·
     have hS := ifF q12 hS
     refine CW.skip ?_
     refine thn_n ?_
     refine CW.seq ?_
     refine CW.seq (CW.region ?_)
     refine rl_move rfl rfl ?_
     refine rl_move rfl rfl ?_
     refine rl_bin rfl rfl B.gtrS rfl ?_
     refine RL.nil ?_
     refine thn_n ?_
     refine CW.cond (t := !(Op.bytesLess a0.toList a1.toList || decide (a0 = a1))) rfl (fun q13 => ?_) (fun q13 => ?_)
     ·
      have hS := ifT q13 hS
      refine CW.seq (CW.region ?_)
      refine rl_assign rfl rfl ?_
      refine RL.nil ?_
      refine thn_n ?_
      refine CW.ret ?_
      refine thn_ret ?_
      obtain rfl := hS
      exact ret1 rfl ⟨rfl, c0⟩
     ·
      have hS := ifF q13 hS
      refine CW.skip ?_
      refine thn_n ?_
      refine CW.seq (CW.region ?_)
      refine rl_assign rfl rfl ?_
      refine RL.nil ?_
      refine thn_n ?_
      refine CW.ret ?_
      obtain rfl := hS
      exact ret1 rfl ⟨rfl, c0⟩
/-- cmp.Or[int] -/
theorem ctr20 (F : Nat → Prop) (w : World) (a0 : (List Int)) (av0 : Value) (ah0 : slRep (kInt .i64) F w a0 av0) (r : Int) (hs : F20_cmp_Or_int a0 = r) :
    Ret Try.prog 20 #[av0] w fun v w' => v = (Value.int .i64 r) ∧ Ch nb w w' := by
  have hS := hs
  have c0 : Ch nb w w := Ch.refl
  have ah0 := slRep.enter kInt_pos ah0
  refine Ret.of (n := 18) (args := [_]) (rs := [.tmp 2]) Try.func20 rfl rfl rfl rfl ?_
  refine CW.seq (CW.region ?_)
  refine rl_assign rfl rfl ?_
  refine RL.nil ?_
  refine thn_n ?_
  refine CW.seq (CW.region ?_)
  refine rl_assign rfl rfl ?_
  refine RL.nil ?_
  refine thn_n ?_
  refine CW.seq ?_
  refine CW.seq (CW.region ?_)
  refine rl_move rfl rfl ?_
  refine rl_lenR rfl ah0 Try.underlying83 rfl ?_
  refine rl_move rfl rfl ?_
  refine RL.nil ?_
  refine thn_n ?_
  obtain ⟨o8, ho9⟩ : ∃ o, runB F20_cmp_Or_int_b1 a0 () = o := ⟨_, rfl⟩
  have hS := ltS ho9 hS
  refine CW.cutB (fun E' w' => ∃ (_ : Unit), Sub [(3, (Value.int .i64 0))] E' ∧ Ch nb w w' ∧ Lp.fin () = o8 ∧ slRep (kInt .i64) (G F w.heap.size nb) w' a0 av0) ?_ ?_
  ·
   refine CW.loopS [(3, (Value.int .i64 0)), (6, av0), (7, (Value.int .i64 ((a0.length : Nat) : Int))), (8, (Value.int .i64 ((0 : Nat) : Int)))] ⟨rfl, rfl, rfl, rfl, trivial⟩ a0.length (fun m E w' => ∃ (rest1 : List Int) (i2 : Nat) , m = rest1.length ∧ E = [(3, (Value.int .i64 0)), (6, av0), (7, (Value.int .i64 ((a0.length : Nat) : Int))), (8, (Value.int .i64 ((i2 : Nat) : Int)))] ∧ Ch nb w w' ∧ At a0 i2 rest1 ∧ runB F20_cmp_Or_int_b1 rest1 () = o8 ∧ slRep (kInt .i64) (G F w.heap.size nb) w' a0 av0)
       ⟨a0, 0, rfl, rfl, c0, At.start, ho9, ah0⟩ ?_
   rintro _ _ w14 ⟨rest1, i2, rfl, rfl, c13, hat4, hL3, ah0⟩
   refine CW.seq (CW.region ?_)
   refine rl_bin rfl rfl B.lss rfl ?_
   refine RL.nil (thn_n ?_)
   refine CW.seq ?_
   refine CW.cond (t := decide (((i2 : Nat) : Int) < ((a0.length : Nat) : Int))) rfl (fun q16 => ?_) (fun q16 => ?_)
   ·
    obtain ⟨x10, rest17, rfl⟩ := hat4.cons q16
    obtain ⟨q5, hq6⟩ : ∃ q, F20_cmp_Or_int_b1 x10 () = q := ⟨_, rfl⟩
    have hb7 := hq6
    refine CW.skip (thn_n ?_)
    refine CW.seq ?_
    refine CW.block ?_
    refine CW.seq (CW.region ?_)
    refine rl_ixR rfl ah0 rfl hat4.get Try.underlying83 Try.sizeOf3 rfl ?_
    intro p18 o19 cs20 hr21 hs22 hg23
    obtain rfl := hr21
    refine rl_loadS (v := (Value.int .i64 x10)) rfl Try.isAgg3 (hs22 0 _ rfl) rfl ?_
    refine rl_assign rfl rfl ?_
    refine RL.nil ?_
    refine thn_n ?_
    refine CW.seq (CW.region ?_)
    refine rl_move rfl rfl ?_
    refine rl_move rfl rfl ?_
    refine rl_bin rfl rfl B.neq rfl ?_
    refine RL.nil ?_
    refine thn_n ?_
    refine CW.cond (t := !decide (x10 = 0)) rfl (fun q24 => ?_) (fun q24 => ?_)
    ·
     have hb7 := ifT q24 hb7
     refine CW.seq (CW.region ?_)
     refine rl_move rfl rfl ?_
     refine rl_assign rfl rfl ?_
     refine RL.nil ?_
     refine thn_n ?_
     refine CW.ret ?_
     refine inB_ret ?_
     refine thn_ret ?_
     refine thn_ret (inB_ret (thn_ret ?_))
     refine thn_ret ?_
     have f25 := runB_ret hL3 (hb7.trans hq6.symm)
     have hS := retS f25 hS
     obtain rfl := hS
     exact ret1 rfl ⟨rfl, c13⟩
    ·
     have hb7 := ifF q24 hb7
     refine CW.skip ?_
     refine inB_n ?_
     refine thn_n ?_
     refine CW.region ?_
     refine rl_inc rfl hat4.lt ah0.big rfl ?_
     refine rl_move rfl rfl ?_
     refine RL.nil ?_
     refine thn_n ?_
     have hLn := runB_next hL3 (hb7.trans hq6.symm)
     exact ⟨rest17.length, Nat.lt_succ_self _, [(3, (Value.int .i64 0)), (6, av0), (7, (Value.int .i64 ((a0.length : Nat) : Int))), (8, (Value.int .i64 ((i2 + 1 : Nat) : Int)))], ⟨rfl, rfl, rfl, rfl, trivial⟩, ⟨rest17, i2 + 1, rfl, rfl, c13, hat4.next, hLn, ah0⟩⟩
   ·
    obtain rfl := hat4.nil q16
    have hLf : Lp.fin () = o8 := hL3
    refine CW.exit (thn_exit (thn_exit (inB_hit ?_)))
    exact ⟨(), ⟨rfl, trivial⟩, c13, hLf, ah0⟩
  ·
   rintro _ w27 ⟨_, hE28, c26, f29, ah0⟩
   have hS := finS f29 hS
   refine thn_n (CW.sub [(3, (Value.int .i64 0))] hE28 ?_)
   refine CW.seq (CW.region ?_)
   refine rl_move rfl rfl ?_
   refine rl_assign rfl rfl ?_
   refine RL.nil ?_
   refine thn_n ?_
   refine CW.ret ?_
   obtain rfl := hS
   exact ret1 rfl ⟨rfl, c26⟩
/-- lb/names.Compare -/
theorem ctr22 (F : Nat → Prop) (w : World) (a0 : Key) (a1 : Key) (r : Int) (hs : F22_names_Compare a0 a1 = r) :
    Ret Try.prog 22 #[(Value.agg (Key.enc a0).toArray), (Value.agg (Key.enc a1).toArray)] w fun v w' => v = (Value.int .i64 r) ∧ Ch nb w w' := by
  have hS := hs
  have c0 : Ch nb w w := Ch.refl
  refine Ret.of (n := 17) (args := [_, _]) (rs := [.tmp 4]) Try.func22 rfl rfl rfl rfl ?_
  refine CW.seq (CW.region ?_)
  refine rl_boxA (cs := (Key.enc a0)) rfl rfl ?_
  intro p1 w2 n3 k4
  have gp1 : (G F w.heap.size nb) p1 := ⟨.inr (by rw [n3.eq]; exact c0.size), fun h => absurd (nbS _ h) (by rw [n3.eq]; exact Nat.lt_irrefl _)⟩
  have c0 := c0.then0 n3.ch
  refine rl_boxA (cs := (Key.enc a1)) rfl rfl ?_
  intro p5 w6 n7 k8
  have gp5 : (G F w.heap.size nb) p5 := ⟨.inr (by rw [n7.eq]; exact c0.size), fun h => absurd (nbS _ h) (by rw [n7.eq]; exact Nat.lt_irrefl _)⟩
  have k4 := k4.ch0 n7.ch
  have c0 := c0.then0 n7.ch
  refine rl_assign rfl rfl ?_
  refine RL.nil ?_
  refine thn_n ?_
  refine CW.seq ?_
  obtain ⟨y11, hy12⟩ : ∃ y, F23_cmp_Compare_string a0.space a1.space = y := ⟨_, rfl⟩
  have hS := ltS hy12 hS
  obtain ⟨y15, hy16⟩ : ∃ y, F23_cmp_Compare_string a0.name a1.name = y := ⟨_, rfl⟩
  have hS := ltS hy16 hS
  obtain ⟨y24, hy25⟩ : ∃ y, F20_cmp_Or_int [y11, y15] = y := ⟨_, rfl⟩
  have hS := ltS hy25 hS
  refine CW.draw 9 [(none, fun _ O uu wx => uu = (Value.pointer (some ⟨p1, 0, none⟩))), (none, fun _ O uu wx => uu = (Value.string a0.space)), (none, fun _ O uu wx => uu = (Value.pointer (some ⟨p5, 0, none⟩))), (none, fun _ O uu wx => uu = (Value.string a1.space)), (none, fun _ O uu wx => uu = (Value.int .i64 y11)), (none, fun _ O uu wx => uu = (Value.pointer (some ⟨p1, 1, none⟩))), (none, fun _ O uu wx => uu = (Value.string a0.name)), (none, fun _ O uu wx => uu = (Value.pointer (some ⟨p5, 1, none⟩))), (none, fun _ O uu wx => uu = (Value.string a1.name))] [[], [0], [], [2], [1, 3], [], [5], [], [7]] [4, 6, 8] nb (fun _ h => h.elim) mixed rfl rfl rfl rfl ?_ ?_
  ·
   refine Each.consA ⟨fun _ _ _ _ _ _ h => h, fun h => absurd rfl h, fun O wk hO ck => ?_⟩ ?_
   ·
    have k4 := k4.ch0 ck
    have k8 := k8.ch0 ck
    have c0 := c0.then0 ck
    refine rl_fieldAddr rfl fa26_0 rfl ?_
    exact RL.nil ⟨_, rfl, Ch.refl, rfl⟩
   refine Each.consA ⟨fun _ _ _ _ _ _ h => h, fun h => absurd rfl h, fun O wk hO ck => ?_⟩ ?_
   ·
    have k4 := k4.ch0 ck
    have k8 := k8.ch0 ck
    have c0 := c0.then0 ck
    refine Need.one rfl rfl rfl ?_
    rintro _ e26
    obtain rfl := e26.symm
    refine rl_loadS (v := (Value.string a0.space)) rfl Try.isAgg9 (k4.cell rfl) rfl ?_
    exact RL.nil ⟨_, rfl, Ch.refl, rfl⟩
   refine Each.consA ⟨fun _ _ _ _ _ _ h => h, fun h => absurd rfl h, fun O wk hO ck => ?_⟩ ?_
   ·
    have k4 := k4.ch0 ck
    have k8 := k8.ch0 ck
    have c0 := c0.then0 ck
    refine rl_fieldAddr rfl fa26_0 rfl ?_
    exact RL.nil ⟨_, rfl, Ch.refl, rfl⟩
   refine Each.consA ⟨fun _ _ _ _ _ _ h => h, fun h => absurd rfl h, fun O wk hO ck => ?_⟩ ?_
   ·
    have k4 := k4.ch0 ck
    have k8 := k8.ch0 ck
    have c0 := c0.then0 ck
    refine Need.one rfl rfl rfl ?_
    rintro _ e27
    obtain rfl := e27.symm
    refine rl_loadS (v := (Value.string a1.space)) rfl Try.isAgg9 (k8.cell rfl) rfl ?_
    exact RL.nil ⟨_, rfl, Ch.refl, rfl⟩
   refine Each.consA ⟨fun _ _ _ _ _ _ h => h, fun h => absurd rfl h, fun O wk hO ck => ?_⟩ ?_
   ·
    have k4 := k4.ch0 ck
    have k8 := k8.ch0 ck
    have c0 := c0.then0 ck
    refine Need.one rfl rfl rfl ?_
    rintro _ e28
    obtain rfl := e28.symm
    refine Need.one rfl rfl rfl ?_
    rintro _ e29
    obtain rfl := e29.symm
    refine rl_callF rfl en23 rfl (ctr23 (G F w.heap.size nb) wk a0.space a1.space y11 hy12) ?_
    rintro _ w30 ⟨rfl, c31⟩
    have k4 := k4.ch0 c31
    have k8 := k8.ch0 c31
    have c0 := c0.then0 c31
    exact RL.nil ⟨_, rfl, c31, rfl⟩
   refine Each.consA ⟨fun _ _ _ _ _ _ h => h, fun h => absurd rfl h, fun O wk hO ck => ?_⟩ ?_
   ·
    have k4 := k4.ch0 ck
    have k8 := k8.ch0 ck
    have c0 := c0.then0 ck
    refine rl_fieldAddr rfl fa26_1 rfl ?_
    exact RL.nil ⟨_, rfl, Ch.refl, rfl⟩
   refine Each.consA ⟨fun _ _ _ _ _ _ h => h, fun h => absurd rfl h, fun O wk hO ck => ?_⟩ ?_
   ·
    have k4 := k4.ch0 ck
    have k8 := k8.ch0 ck
    have c0 := c0.then0 ck
    refine Need.one rfl rfl rfl ?_
    rintro _ e32
    obtain rfl := e32.symm
    refine rl_loadS (v := (Value.string a0.name)) rfl Try.isAgg9 (k4.cell rfl) rfl ?_
    exact RL.nil ⟨_, rfl, Ch.refl, rfl⟩
   refine Each.consA ⟨fun _ _ _ _ _ _ h => h, fun h => absurd rfl h, fun O wk hO ck => ?_⟩ ?_
   ·
    have k4 := k4.ch0 ck
    have k8 := k8.ch0 ck
    have c0 := c0.then0 ck
    refine rl_fieldAddr rfl fa26_1 rfl ?_
    exact RL.nil ⟨_, rfl, Ch.refl, rfl⟩
   refine Each.consA ⟨fun _ _ _ _ _ _ h => h, fun h => absurd rfl h, fun O wk hO ck => ?_⟩ ?_
   ·
    have k4 := k4.ch0 ck
    have k8 := k8.ch0 ck
    have c0 := c0.then0 ck
    refine Need.one rfl rfl rfl ?_
    rintro _ e33
    obtain rfl := e33.symm
    refine rl_loadS (v := (Value.string a1.name)) rfl Try.isAgg9 (k8.cell rfl) rfl ?_
    exact RL.nil ⟨_, rfl, Ch.refl, rfl⟩
   trivial
  ·
   intro hvO36 OpO36 O36 w34 hO37 c35 hN38
   have k4 := k4.ch0 c35
   have k8 := k8.ch0 c35
   have c0 := c0.then0 c35
   refine Need.one rfl rfl rfl ?_
   rintro _ e39
   obtain rfl := e39.symm
   refine Need.one rfl rfl rfl ?_
   rintro _ e40
   obtain rfl := e40.symm
   refine Need.one rfl rfl rfl ?_
   rintro _ e41
   obtain rfl := e41.symm
   refine rl_callF rfl en23 rfl (ctr23 (G F w.heap.size nb) w34 a0.name a1.name y15 hy16) ?_
   rintro _ w42 ⟨rfl, c43⟩
   have k4 := k4.ch0 c43
   have k8 := k8.ch0 c43
   have c0 := c0.then0 c43
   refine rl_bslice (k := (kInt .i64)) (F := F) (B := w.heap.size) (S := nb) ([y11, y15] : List Int) rfl kInt_pos Try.underlying83 Try.sizeOf3 Try.zeroValue3 rfl rfl ⟨rfl, rfl, ⟨rfl, rfl, trivial⟩⟩ c0.size nbS rfl ?_
   intro v44 w45 c46 hf47 h48
   have h48 := h48.readNew kInt_pos hf47 nbS
   have k4 := k4.ch0 c46
   have k8 := k8.ch0 c46
   have c0 := c0.then0 c46
   refine rl_callF rfl en20 rfl (ctr20 (G F w.heap.size nb) w45 [y11, y15] v44 h48 y24 hy25) ?_
   rintro _ w49 ⟨rfl, c50⟩
   have k4 := k4.ch0 c50
   have k8 := k8.ch0 c50
   have h48 := slRep.ch kInt_pos h48 c50
   have c0 := c0.then0 c50
   refine rl_assign rfl rfl ?_
   refine RL.nil ?_
   refine thn_n ?_
   refine CW.ret ?_
   obtain rfl := hS
   exact ret1 rfl ⟨rfl, c0⟩
/-- lb/ties.number -/
theorem ctr25 (F : Nat → Prop) (w : World) (a0 : Bool) (r : Int) (hs : F25_ties_number a0 = r) :
    Ret Try.prog 25 #[(Value.bool a0)] w fun v w' => v = (Value.int .i64 r) ∧ Ch nb w w' := by
  have hS := hs
  have c0 : Ch nb w w := Ch.refl
  refine Ret.of (n := 4) (args := [_]) (rs := [.tmp 2]) Try.func25 rfl rfl rfl rfl ?_
  refine CW.seq (CW.region ?_)
  refine rl_assign rfl rfl ?_
  refine RL.nil ?_
  refine thn_n ?_
  refine CW.seq ?_
  refine CW.seq (CW.region ?_)
  refine rl_move rfl rfl ?_
  refine RL.nil ?_
  refine thn_n ?_
  refine CW.cond (t := a0) rfl (fun q1 => ?_) (fun q1 => ?_)
  ·
   have hS := ifT q1 hS
   refine CW.seq (CW.region ?_)
   refine rl_assign rfl rfl ?_
   refine RL.nil ?_
   refine thn_n ?_
   refine CW.ret ?_
   refine thn_ret ?_
   obtain rfl := hS
   exact ret1 rfl ⟨rfl, c0⟩
  ·
   have hS := ifF q1 hS
   refine CW.skip ?_
   refine thn_n ?_
   refine CW.seq (CW.region ?_)
   refine rl_assign rfl rfl ?_
   refine RL.nil ?_
   refine thn_n ?_
   refine CW.ret ?_
   obtain rfl := hS
   exact ret1 rfl ⟨rfl, c0⟩
/-- lb/ties.Compare -/
theorem ctr9 (F : Nat → Prop) (w : World) (a0 : Tie) (a1 : Tie) (r : Int) (hs : F9_ties_Compare a0 a1 = r) :
    Ret Try.prog 9 #[(Value.agg (Tie.enc a0).toArray), (Value.agg (Tie.enc a1).toArray)] w fun v w' => v = (Value.int .i64 r) ∧ Ch nb w w' := by
  have hS := hs
  have c0 : Ch nb w w := Ch.refl
  refine Ret.of (n := 29) (args := [_, _]) (rs := [.tmp 4]) Try.func9 rfl rfl rfl rfl ?_
  refine CW.seq (CW.region ?_)
  refine rl_boxA (cs := (Tie.enc a0)) rfl rfl ?_
  intro p1 w2 n3 k4
  have gp1 : (G F w.heap.size nb) p1 := ⟨.inr (by rw [n3.eq]; exact c0.size), fun h => absurd (nbS _ h) (by rw [n3.eq]; exact Nat.lt_irrefl _)⟩
  have c0 := c0.then0 n3.ch
  refine rl_boxA (cs := (Tie.enc a1)) rfl rfl ?_
  intro p5 w6 n7 k8
  have gp5 : (G F w.heap.size nb) p5 := ⟨.inr (by rw [n7.eq]; exact c0.size), fun h => absurd (nbS _ h) (by rw [n7.eq]; exact Nat.lt_irrefl _)⟩
  have k4 := k4.ch0 n7.ch
  have c0 := c0.then0 n7.ch
  refine rl_assign rfl rfl ?_
  refine RL.nil ?_
  refine thn_n ?_
  refine CW.seq ?_
  obtain ⟨y11, hy12⟩ : ∃ y, F21_addr_Compare a0.client a1.client = y := ⟨_, rfl⟩
  have hS := ltS hy12 hS
  obtain ⟨y15, hy16⟩ : ∃ y, F22_names_Compare a0.service a1.service = y := ⟨_, rfl⟩
  have hS := ltS hy16 hS
  obtain ⟨y19, hy20⟩ : ∃ y, F23_cmp_Compare_string a0.name a1.name = y := ⟨_, rfl⟩
  have hS := ltS hy20 hS
  obtain ⟨y23, hy24⟩ : ∃ y, F25_ties_number a0.localF = y := ⟨_, rfl⟩
  have hS := ltS hy24 hS
  obtain ⟨y27, hy28⟩ : ∃ y, F25_ties_number a1.localF = y := ⟨_, rfl⟩
  have hS := ltS hy28 hS
  obtain ⟨y31, hy32⟩ : ∃ y, F24_cmp_Compare_int y23 y27 = y := ⟨_, rfl⟩
  have hS := ltS hy32 hS
  obtain ⟨y40, hy41⟩ : ∃ y, F20_cmp_Or_int [y11, y15, y19, y31] = y := ⟨_, rfl⟩
  have hS := ltS hy41 hS
  refine CW.draw 20 [(none, fun _ O uu wx => uu = (Value.pointer (some ⟨p1, 0, none⟩))), (none, fun _ O uu wx => uu = (Value.agg (Addr.enc a0.client).toArray)), (none, fun _ O uu wx => uu = (Value.pointer (some ⟨p5, 0, none⟩))), (none, fun _ O uu wx => uu = (Value.agg (Addr.enc a1.client).toArray)), (none, fun _ O uu wx => uu = (Value.int .i64 y11)), (none, fun _ O uu wx => uu = (Value.pointer (some ⟨p1, 17, none⟩))), (none, fun _ O uu wx => uu = (Value.agg (Key.enc a0.service).toArray)), (none, fun _ O uu wx => uu = (Value.pointer (some ⟨p5, 17, none⟩))), (none, fun _ O uu wx => uu = (Value.agg (Key.enc a1.service).toArray)), (none, fun _ O uu wx => uu = (Value.int .i64 y15)), (none, fun _ O uu wx => uu = (Value.pointer (some ⟨p1, 19, none⟩))), (none, fun _ O uu wx => uu = (Value.string a0.name)), (none, fun _ O uu wx => uu = (Value.pointer (some ⟨p5, 19, none⟩))), (none, fun _ O uu wx => uu = (Value.string a1.name)), (none, fun _ O uu wx => uu = (Value.int .i64 y19)), (none, fun _ O uu wx => uu = (Value.pointer (some ⟨p1, 20, none⟩))), (none, fun _ O uu wx => uu = (Value.bool a0.localF)), (none, fun _ O uu wx => uu = (Value.int .i64 y23)), (none, fun _ O uu wx => uu = (Value.pointer (some ⟨p5, 20, none⟩))), (none, fun _ O uu wx => uu = (Value.bool a1.localF))] [[], [0], [], [2], [1, 3], [], [5], [], [7], [6, 8], [], [10], [], [12], [11, 13], [], [15], [16], [], [18]] [4, 9, 14, 17, 19] nb (fun _ h => h.elim) mixed rfl rfl rfl rfl ?_ ?_
  ·
   refine Each.consA ⟨fun _ _ _ _ _ _ h => h, fun h => absurd rfl h, fun O wk hO ck => ?_⟩ ?_
   ·
    have k4 := k4.ch0 ck
    have k8 := k8.ch0 ck
    have c0 := c0.then0 ck
    refine rl_fieldAddr rfl fa30_0 rfl ?_
    exact RL.nil ⟨_, rfl, Ch.refl, rfl⟩
   refine Each.consA ⟨fun _ _ _ _ _ _ h => h, fun h => absurd rfl h, fun O wk hO ck => ?_⟩ ?_
   ·
    have k4 := k4.ch0 ck
    have k8 := k8.ch0 ck
    have c0 := c0.then0 ck
    refine Need.one rfl rfl rfl ?_
    rintro _ e42
    obtain rfl := e42.symm
    refine rl_loadA (cs := (Addr.enc a0.client)) rfl Try.isAgg24 Try.sizeOf24 (k4.segAt 0 17) rfl rfl ?_
    exact RL.nil ⟨_, rfl, Ch.refl, rfl⟩
   refine Each.consA ⟨fun _ _ _ _ _ _ h => h, fun h => absurd rfl h, fun O wk hO ck => ?_⟩ ?_
   ·
    have k4 := k4.ch0 ck
    have k8 := k8.ch0 ck
    have c0 := c0.then0 ck
    refine rl_fieldAddr rfl fa30_0 rfl ?_
    exact RL.nil ⟨_, rfl, Ch.refl, rfl⟩
   refine Each.consA ⟨fun _ _ _ _ _ _ h => h, fun h => absurd rfl h, fun O wk hO ck => ?_⟩ ?_
   ·
    have k4 := k4.ch0 ck
    have k8 := k8.ch0 ck
    have c0 := c0.then0 ck
    refine Need.one rfl rfl rfl ?_
    rintro _ e43
    obtain rfl := e43.symm
    refine rl_loadA (cs := (Addr.enc a1.client)) rfl Try.isAgg24 Try.sizeOf24 (k8.segAt 0 17) rfl rfl ?_
    exact RL.nil ⟨_, rfl, Ch.refl, rfl⟩
   refine Each.consA ⟨fun _ _ _ _ _ _ h => h, fun h => absurd rfl h, fun O wk hO ck => ?_⟩ ?_
   ·
    have k4 := k4.ch0 ck
    have k8 := k8.ch0 ck
    have c0 := c0.then0 ck
    refine Need.one rfl rfl rfl ?_
    rintro _ e44
    obtain rfl := e44.symm
    refine Need.one rfl rfl rfl ?_
    rintro _ e45
    obtain rfl := e45.symm
    refine rl_callF rfl en21 rfl (ctr21 (G F w.heap.size nb) wk a0.client a1.client y11 hy12) ?_
    rintro _ w46 ⟨rfl, c47⟩
    have k4 := k4.ch0 c47
    have k8 := k8.ch0 c47
    have c0 := c0.then0 c47
    exact RL.nil ⟨_, rfl, c47, rfl⟩
   refine Each.consA ⟨fun _ _ _ _ _ _ h => h, fun h => absurd rfl h, fun O wk hO ck => ?_⟩ ?_
   ·
    have k4 := k4.ch0 ck
    have k8 := k8.ch0 ck
    have c0 := c0.then0 ck
    refine rl_fieldAddr rfl fa30_1 rfl ?_
    exact RL.nil ⟨_, rfl, Ch.refl, rfl⟩
   refine Each.consA ⟨fun _ _ _ _ _ _ h => h, fun h => absurd rfl h, fun O wk hO ck => ?_⟩ ?_
   ·
    have k4 := k4.ch0 ck
    have k8 := k8.ch0 ck
    have c0 := c0.then0 ck
    refine Need.one rfl rfl rfl ?_
    rintro _ e48
    obtain rfl := e48.symm
    refine rl_loadA (cs := (Key.enc a0.service)) rfl Try.isAgg26 Try.sizeOf26 (k4.segAt 17 2) rfl rfl ?_
    exact RL.nil ⟨_, rfl, Ch.refl, rfl⟩
   refine Each.consA ⟨fun _ _ _ _ _ _ h => h, fun h => absurd rfl h, fun O wk hO ck => ?_⟩ ?_
   ·
    have k4 := k4.ch0 ck
    have k8 := k8.ch0 ck
    have c0 := c0.then0 ck
    refine rl_fieldAddr rfl fa30_1 rfl ?_
    exact RL.nil ⟨_, rfl, Ch.refl, rfl⟩
   refine Each.consA ⟨fun _ _ _ _ _ _ h => h, fun h => absurd rfl h, fun O wk hO ck => ?_⟩ ?_
   ·
    have k4 := k4.ch0 ck
    have k8 := k8.ch0 ck
    have c0 := c0.then0 ck
    refine Need.one rfl rfl rfl ?_
    rintro _ e49
    obtain rfl := e49.symm
    refine rl_loadA (cs := (Key.enc a1.service)) rfl Try.isAgg26 Try.sizeOf26 (k8.segAt 17 2) rfl rfl ?_
    exact RL.nil ⟨_, rfl, Ch.refl, rfl⟩
   refine Each.consA ⟨fun _ _ _ _ _ _ h => h, fun h => absurd rfl h, fun O wk hO ck => ?_⟩ ?_
   ·
    have k4 := k4.ch0 ck
    have k8 := k8.ch0 ck
    have c0 := c0.then0 ck
    refine Need.one rfl rfl rfl ?_
    rintro _ e50
    obtain rfl := e50.symm
    refine Need.one rfl rfl rfl ?_
    rintro _ e51
    obtain rfl := e51.symm
    refine rl_callF rfl en22 rfl (ctr22 (G F w.heap.size nb) wk a0.service a1.service y15 hy16) ?_
    rintro _ w52 ⟨rfl, c53⟩
    have k4 := k4.ch0 c53
    have k8 := k8.ch0 c53
    have c0 := c0.then0 c53
    exact RL.nil ⟨_, rfl, c53, rfl⟩
   refine Each.consA ⟨fun _ _ _ _ _ _ h => h, fun h => absurd rfl h, fun O wk hO ck => ?_⟩ ?_
   ·
    have k4 := k4.ch0 ck
    have k8 := k8.ch0 ck
    have c0 := c0.then0 ck
    refine rl_fieldAddr rfl fa30_2 rfl ?_
    exact RL.nil ⟨_, rfl, Ch.refl, rfl⟩
   refine Each.consA ⟨fun _ _ _ _ _ _ h => h, fun h => absurd rfl h, fun O wk hO ck => ?_⟩ ?_
   ·
    have k4 := k4.ch0 ck
    have k8 := k8.ch0 ck
    have c0 := c0.then0 ck
    refine Need.one rfl rfl rfl ?_
    rintro _ e54
    obtain rfl := e54.symm
    refine rl_loadS (v := (Value.string a0.name)) rfl Try.isAgg9 (k4.cell rfl) rfl ?_
    exact RL.nil ⟨_, rfl, Ch.refl, rfl⟩
   refine Each.consA ⟨fun _ _ _ _ _ _ h => h, fun h => absurd rfl h, fun O wk hO ck => ?_⟩ ?_
   ·
    have k4 := k4.ch0 ck
    have k8 := k8.ch0 ck
    have c0 := c0.then0 ck
    refine rl_fieldAddr rfl fa30_2 rfl ?_
    exact RL.nil ⟨_, rfl, Ch.refl, rfl⟩
   refine Each.consA ⟨fun _ _ _ _ _ _ h => h, fun h => absurd rfl h, fun O wk hO ck => ?_⟩ ?_
   ·
    have k4 := k4.ch0 ck
    have k8 := k8.ch0 ck
    have c0 := c0.then0 ck
    refine Need.one rfl rfl rfl ?_
    rintro _ e55
    obtain rfl := e55.symm
    refine rl_loadS (v := (Value.string a1.name)) rfl Try.isAgg9 (k8.cell rfl) rfl ?_
    exact RL.nil ⟨_, rfl, Ch.refl, rfl⟩
   refine Each.consA ⟨fun _ _ _ _ _ _ h => h, fun h => absurd rfl h, fun O wk hO ck => ?_⟩ ?_
   ·
    have k4 := k4.ch0 ck
    have k8 := k8.ch0 ck
    have c0 := c0.then0 ck
    refine Need.one rfl rfl rfl ?_
    rintro _ e56
    obtain rfl := e56.symm
    refine Need.one rfl rfl rfl ?_
    rintro _ e57
    obtain rfl := e57.symm
    refine rl_callF rfl en23 rfl (ctr23 (G F w.heap.size nb) wk a0.name a1.name y19 hy20) ?_
    rintro _ w58 ⟨rfl, c59⟩
    have k4 := k4.ch0 c59
    have k8 := k8.ch0 c59
    have c0 := c0.then0 c59
    exact RL.nil ⟨_, rfl, c59, rfl⟩
   refine Each.consA ⟨fun _ _ _ _ _ _ h => h, fun h => absurd rfl h, fun O wk hO ck => ?_⟩ ?_
   ·
    have k4 := k4.ch0 ck
    have k8 := k8.ch0 ck
    have c0 := c0.then0 ck
    refine rl_fieldAddr rfl fa30_3 rfl ?_
    exact RL.nil ⟨_, rfl, Ch.refl, rfl⟩
   refine Each.consA ⟨fun _ _ _ _ _ _ h => h, fun h => absurd rfl h, fun O wk hO ck => ?_⟩ ?_
   ·
    have k4 := k4.ch0 ck
    have k8 := k8.ch0 ck
    have c0 := c0.then0 ck
    refine Need.one rfl rfl rfl ?_
    rintro _ e60
    obtain rfl := e60.symm
    refine rl_loadS (v := (Value.bool a0.localF)) rfl Try.isAgg4 (k4.cell rfl) rfl ?_
    exact RL.nil ⟨_, rfl, Ch.refl, rfl⟩
   refine Each.consA ⟨fun _ _ _ _ _ _ h => h, fun h => absurd rfl h, fun O wk hO ck => ?_⟩ ?_
   ·
    have k4 := k4.ch0 ck
    have k8 := k8.ch0 ck
    have c0 := c0.then0 ck
    refine Need.one rfl rfl rfl ?_
    rintro _ e61
    obtain rfl := e61.symm
    refine rl_callF rfl en25 rfl (ctr25 (G F w.heap.size nb) wk a0.localF y23 hy24) ?_
    rintro _ w62 ⟨rfl, c63⟩
    have k4 := k4.ch0 c63
    have k8 := k8.ch0 c63
    have c0 := c0.then0 c63
    exact RL.nil ⟨_, rfl, c63, rfl⟩
   refine Each.consA ⟨fun _ _ _ _ _ _ h => h, fun h => absurd rfl h, fun O wk hO ck => ?_⟩ ?_
   ·
    have k4 := k4.ch0 ck
    have k8 := k8.ch0 ck
    have c0 := c0.then0 ck
    refine rl_fieldAddr rfl fa30_3 rfl ?_
    exact RL.nil ⟨_, rfl, Ch.refl, rfl⟩
   refine Each.consA ⟨fun _ _ _ _ _ _ h => h, fun h => absurd rfl h, fun O wk hO ck => ?_⟩ ?_
   ·
    have k4 := k4.ch0 ck
    have k8 := k8.ch0 ck
    have c0 := c0.then0 ck
    refine Need.one rfl rfl rfl ?_
    rintro _ e64
    obtain rfl := e64.symm
    refine rl_loadS (v := (Value.bool a1.localF)) rfl Try.isAgg4 (k8.cell rfl) rfl ?_
    exact RL.nil ⟨_, rfl, Ch.refl, rfl⟩
   trivial
  ·
   intro hvO67 OpO67 O67 w65 hO68 c66 hN69
   have k4 := k4.ch0 c66
   have k8 := k8.ch0 c66
   have c0 := c0.then0 c66
   refine Need.one rfl rfl rfl ?_
   rintro _ e70
   obtain rfl := e70.symm
   refine Need.one rfl rfl rfl ?_
   rintro _ e71
   obtain rfl := e71.symm
   refine Need.one rfl rfl rfl ?_
   rintro _ e72
   obtain rfl := e72.symm
   refine Need.one rfl rfl rfl ?_
   rintro _ e73
   obtain rfl := e73.symm
   refine Need.one rfl rfl rfl ?_
   rintro _ e74
   obtain rfl := e74.symm
   refine rl_callF rfl en25 rfl (ctr25 (G F w.heap.size nb) w65 a1.localF y27 hy28) ?_
   rintro _ w75 ⟨rfl, c76⟩
   have k4 := k4.ch0 c76
   have k8 := k8.ch0 c76
   have c0 := c0.then0 c76
   refine rl_callF rfl en24 rfl (ctr24 (G F w.heap.size nb) w75 y23 y27 y31 hy32) ?_
   rintro _ w77 ⟨rfl, c78⟩
   have k4 := k4.ch0 c78
   have k8 := k8.ch0 c78
   have c0 := c0.then0 c78
   refine rl_bslice (k := (kInt .i64)) (F := F) (B := w.heap.size) (S := nb) ([y11, y15, y19, y31] : List Int) rfl kInt_pos Try.underlying83 Try.sizeOf3 Try.zeroValue3 rfl rfl ⟨rfl, rfl, ⟨rfl, rfl, ⟨rfl, rfl, ⟨rfl, rfl, trivial⟩⟩⟩⟩ c0.size nbS rfl ?_
   intro v79 w80 c81 hf82 h83
   have h83 := h83.readNew kInt_pos hf82 nbS
   have k4 := k4.ch0 c81
   have k8 := k8.ch0 c81
   have c0 := c0.then0 c81
   refine rl_callF rfl en20 rfl (ctr20 (G F w.heap.size nb) w80 [y11, y15, y19, y31] v79 h83 y40 hy41) ?_
   rintro _ w84 ⟨rfl, c85⟩
   have k4 := k4.ch0 c85
   have k8 := k8.ch0 c85
   have h83 := slRep.ch kInt_pos h83 c85
   have c0 := c0.then0 c85
   refine rl_assign rfl rfl ?_
   refine RL.nil ?_
   refine thn_n ?_
   refine CW.ret ?_
   obtain rfl := hS
   exact ret1 rfl ⟨rfl, c0⟩
/-- lb/ties.elder -/
theorem ctr48 (F : Nat → Prop) (w : World) (a0 : Tie) (a1 : Tie) (r : Int) (hs : F48_ties_elder a0 a1 = r) :
    Ret Try.prog 48 #[(Value.agg (Tie.enc a0).toArray), (Value.agg (Tie.enc a1).toArray)] w fun v w' => v = (Value.int .i64 r) ∧ Ch nb w w' := by
  have hS := hs
  have c0 : Ch nb w w := Ch.refl
  refine Ret.of (n := 15) (args := [_, _]) (rs := [.tmp 4]) Try.func48 rfl rfl rfl rfl ?_
  refine CW.seq (CW.region ?_)
  refine rl_boxA (cs := (Tie.enc a0)) rfl rfl ?_
  intro p1 w2 n3 k4
  have gp1 : (G F w.heap.size nb) p1 := ⟨.inr (by rw [n3.eq]; exact c0.size), fun h => absurd (nbS _ h) (by rw [n3.eq]; exact Nat.lt_irrefl _)⟩
  have c0 := c0.then0 n3.ch
  refine rl_boxA (cs := (Tie.enc a1)) rfl rfl ?_
  intro p5 w6 n7 k8
  have gp5 : (G F w.heap.size nb) p5 := ⟨.inr (by rw [n7.eq]; exact c0.size), fun h => absurd (nbS _ h) (by rw [n7.eq]; exact Nat.lt_irrefl _)⟩
  have k4 := k4.ch0 n7.ch
  have c0 := c0.then0 n7.ch
  refine rl_assign rfl rfl ?_
  refine RL.nil ?_
  refine thn_n ?_
  refine CW.seq ?_
  obtain ⟨y11, hy12⟩ : ∃ y, F24_cmp_Compare_int a0.last a1.last = y := ⟨_, rfl⟩
  have hS := ltS hy12 hS
  obtain ⟨y15, hy16⟩ : ∃ y, F9_ties_Compare a0 a1 = y := ⟨_, rfl⟩
  have hS := ltS hy16 hS
  obtain ⟨y24, hy25⟩ : ∃ y, F20_cmp_Or_int [y11, y15] = y := ⟨_, rfl⟩
  have hS := ltS hy25 hS
  refine CW.draw 7 [(none, fun _ O uu wx => uu = (Value.pointer (some ⟨p1, 39, none⟩))), (none, fun _ O uu wx => uu = (Value.int .i64 a0.last)), (none, fun _ O uu wx => uu = (Value.pointer (some ⟨p5, 39, none⟩))), (none, fun _ O uu wx => uu = (Value.int .i64 a1.last)), (none, fun _ O uu wx => uu = (Value.int .i64 y11)), (none, fun _ O uu wx => uu = (Value.agg (Tie.enc a0).toArray)), (none, fun _ O uu wx => uu = (Value.agg (Tie.enc a1).toArray))] [[], [0], [], [2], [1, 3], [], []] [4, 5, 6] nb (fun _ h => h.elim) mixed rfl rfl rfl rfl ?_ ?_
  ·
   refine Each.consA ⟨fun _ _ _ _ _ _ h => h, fun h => absurd rfl h, fun O wk hO ck => ?_⟩ ?_
   ·
    have k4 := k4.ch0 ck
    have k8 := k8.ch0 ck
    have c0 := c0.then0 ck
    refine rl_fieldAddr rfl fa30_5 rfl ?_
    exact RL.nil ⟨_, rfl, Ch.refl, rfl⟩
   refine Each.consA ⟨fun _ _ _ _ _ _ h => h, fun h => absurd rfl h, fun O wk hO ck => ?_⟩ ?_
   ·
    have k4 := k4.ch0 ck
    have k8 := k8.ch0 ck
    have c0 := c0.then0 ck
    refine Need.one rfl rfl rfl ?_
    rintro _ e26
    obtain rfl := e26.symm
    refine rl_loadS (v := (Value.int .i64 a0.last)) rfl Try.isAgg3 (k4.cell rfl) rfl ?_
    exact RL.nil ⟨_, rfl, Ch.refl, rfl⟩
   refine Each.consA ⟨fun _ _ _ _ _ _ h => h, fun h => absurd rfl h, fun O wk hO ck => ?_⟩ ?_
   ·
    have k4 := k4.ch0 ck
    have k8 := k8.ch0 ck
    have c0 := c0.then0 ck
    refine rl_fieldAddr rfl fa30_5 rfl ?_
    exact RL.nil ⟨_, rfl, Ch.refl, rfl⟩
   refine Each.consA ⟨fun _ _ _ _ _ _ h => h, fun h => absurd rfl h, fun O wk hO ck => ?_⟩ ?_
   ·
    have k4 := k4.ch0 ck
    have k8 := k8.ch0 ck
    have c0 := c0.then0 ck
    refine Need.one rfl rfl rfl ?_
    rintro _ e27
    obtain rfl := e27.symm
    refine rl_loadS (v := (Value.int .i64 a1.last)) rfl Try.isAgg3 (k8.cell rfl) rfl ?_
    exact RL.nil ⟨_, rfl, Ch.refl, rfl⟩
   refine Each.consA ⟨fun _ _ _ _ _ _ h => h, fun h => absurd rfl h, fun O wk hO ck => ?_⟩ ?_
   ·
    have k4 := k4.ch0 ck
    have k8 := k8.ch0 ck
    have c0 := c0.then0 ck
    refine Need.one rfl rfl rfl ?_
    rintro _ e28
    obtain rfl := e28.symm
    refine Need.one rfl rfl rfl ?_
    rintro _ e29
    obtain rfl := e29.symm
    refine rl_callF rfl en24 rfl (ctr24 (G F w.heap.size nb) wk a0.last a1.last y11 hy12) ?_
    rintro _ w30 ⟨rfl, c31⟩
    have k4 := k4.ch0 c31
    have k8 := k8.ch0 c31
    have c0 := c0.then0 c31
    exact RL.nil ⟨_, rfl, c31, rfl⟩
   refine Each.consA ⟨fun _ _ _ _ _ _ h => h, fun h => absurd rfl h, fun O wk hO ck => ?_⟩ ?_
   ·
    have k4 := k4.ch0 ck
    have k8 := k8.ch0 ck
    have c0 := c0.then0 ck
    refine rl_loadA (cs := (Tie.enc a0)) rfl Try.isAgg30 Try.sizeOf30 (k4.segAt 0 40) rfl rfl ?_
    exact RL.nil ⟨_, rfl, Ch.refl, rfl⟩
   refine Each.consA ⟨fun _ _ _ _ _ _ h => h, fun h => absurd rfl h, fun O wk hO ck => ?_⟩ ?_
   ·
    have k4 := k4.ch0 ck
    have k8 := k8.ch0 ck
    have c0 := c0.then0 ck
    refine rl_loadA (cs := (Tie.enc a1)) rfl Try.isAgg30 Try.sizeOf30 (k8.segAt 0 40) rfl rfl ?_
    exact RL.nil ⟨_, rfl, Ch.refl, rfl⟩
   trivial
  ·
   intro hvO34 OpO34 O34 w32 hO35 c33 hN36
   have k4 := k4.ch0 c33
   have k8 := k8.ch0 c33
   have c0 := c0.then0 c33
   refine Need.one rfl rfl rfl ?_
   rintro _ e37
   obtain rfl := e37.symm
   refine Need.one rfl rfl rfl ?_
   rintro _ e38
   obtain rfl := e38.symm
   refine Need.one rfl rfl rfl ?_
   rintro _ e39
   obtain rfl := e39.symm
   refine rl_callF rfl en9 rfl (ctr9 (G F w.heap.size nb) w32 a0 a1 y15 hy16) ?_
   rintro _ w40 ⟨rfl, c41⟩
   have k4 := k4.ch0 c41
   have k8 := k8.ch0 c41
   have c0 := c0.then0 c41
   refine rl_bslice (k := (kInt .i64)) (F := F) (B := w.heap.size) (S := nb) ([y11, y15] : List Int) rfl kInt_pos Try.underlying83 Try.sizeOf3 Try.zeroValue3 rfl rfl ⟨rfl, rfl, ⟨rfl, rfl, trivial⟩⟩ c0.size nbS rfl ?_
   intro v42 w43 c44 hf45 h46
   have h46 := h46.readNew kInt_pos hf45 nbS
   have k4 := k4.ch0 c44
   have k8 := k8.ch0 c44
   have c0 := c0.then0 c44
   refine rl_callF rfl en20 rfl (ctr20 (G F w.heap.size nb) w43 [y11, y15] v42 h46 y24 hy25) ?_
   rintro _ w47 ⟨rfl, c48⟩
   have k4 := k4.ch0 c48
   have k8 := k8.ch0 c48
   have h46 := slRep.ch kInt_pos h46 c48
   have c0 := c0.then0 c48
   refine rl_assign rfl rfl ?_
   refine RL.nil ?_
   refine thn_n ?_
   refine CW.ret ?_
   obtain rfl := hS
   exact ret1 rfl ⟨rfl, c0⟩
/-- (*lb/ties.Ties).Drop -/
theorem ctr29 (F : Nat → Prop) (w : World) (Bb : Nat) (S2 : Nat → Prop) (hB : Bb ≤ w.heap.size) (h2 : ∀ b, S2 b → b < w.heap.size) (p0 : Nat) (az0_0 : Value) (hd2 : ∀ b, (un (inBlk (Value.pointer (some ⟨p0, 0, none⟩))) (inBlk az0_0)) b → ¬ S2 b) (hx0_1 : ∀ b, inBlk (Value.pointer (some ⟨p0, 0, none⟩)) b → ¬ inBlk az0_0 b) (a0 : Ties) (ah0 : Blk w p0 69 (Ties.c a0 az0_0)) (ah0_0 : Mp (fun x => Value.agg (Place.enc x).toArray) (fun x => Value.agg (Tie.enc x).toArray) w a0.all az0_0) (a1 : Tie) (r : (Bool × Ties)) (hs : F29_ties_Ties_Drop a0 a1 = r) :
    Ret Try.prog 29 #[(Value.pointer (some ⟨p0, 0, none⟩)), (Value.agg (Tie.enc a1).toArray)] w fun v w' => ∃ (nz0_0 : Value), v = (Value.bool r.1) ∧ Blk w' p0 69 (Ties.c r.2 nz0_0) ∧ Mp (fun x => Value.agg (Place.enc x).toArray) (fun x => Value.agg (Tie.enc x).toArray) w' r.2.all nz0_0 ∧ (∀ b, inBlk nz0_0 b → (un (inBlk (Value.pointer (some ⟨p0, 0, none⟩))) (inBlk az0_0)) b ∨ w.heap.size ≤ b) ∧ (∀ b, inBlk (Value.pointer (some ⟨p0, 0, none⟩)) b → ¬ inBlk nz0_0 b) ∧ Ch (un (inBlk (Value.pointer (some ⟨p0, 0, none⟩))) (inBlk az0_0)) w w' := by
  have hS := hs
  have c0 : Ch (un (inBlk (Value.pointer (some ⟨p0, 0, none⟩))) (inBlk az0_0)) w w := Ch.refl
  have lin0_0 : ∀ b, inBlk (Value.pointer (some ⟨p0, 0, none⟩)) b → (un (inBlk (Value.pointer (some ⟨p0, 0, none⟩))) (inBlk az0_0)) b ∨ w.heap.size ≤ b := fun b h => .inl (.inl h)
  have lin1_0 : ∀ b, inBlk az0_0 b → (un (inBlk (Value.pointer (some ⟨p0, 0, none⟩))) (inBlk az0_0)) b ∨ w.heap.size ≤ b := fun b h => .inl (.inr h)
  refine Ret.of (n := 24) (args := [_, _]) (rs := [.tmp 4]) Try.func29 rfl rfl rfl rfl ?_
  refine CW.seq (CW.region ?_)
  refine rl_boxA (cs := (Tie.enc a1)) rfl rfl ?_
  intro p1 w2 n3 k4
  have gp1 : (G F Bb (un (inBlk (Value.pointer (some ⟨p0, 0, none⟩))) (un (inBlk az0_0) S2))) p1 := ⟨.inr (by rw [n3.eq]; exact (Nat.le_trans hB c0.size)), fun h => absurd ((un_lt ah0.ltp (un_lt ah0_0.ltp (fun b h => Nat.lt_of_lt_of_le (h2 b h) c0.size))) _ h) (by rw [n3.eq]; exact Nat.lt_irrefl _)⟩
  have ah0 := ah0.ch0 n3.ch
  have ah0_0 := ah0_0.ch0 n3.ch
  have c0 := c0.then0 n3.ch
  refine rl_assign rfl rfl ?_
  refine RL.nil ?_
  refine thn_n ?_
  refine CW.seq ?_
  obtain ⟨y7, hy8⟩ : ∃ y, F35_ties_Tie_place a1 = y := ⟨_, rfl⟩
  have hS := ltS hy8 hS
  refine CW.draw 12 [(none, fun _ O uu wx => uu = (Value.pointer (some ⟨p0, 0, none⟩))), (none, fun _ O uu wx => uu = (Value.pointer (some ⟨p0, 0, none⟩))), (none, fun _ O uu wx => uu = (Value.pointer (some ⟨p0, 0, none⟩))), (none, fun _ O uu wx => uu = az0_0), (none, fun _ O uu wx => uu = (Value.agg (Tie.enc a1).toArray)), (none, fun _ O uu wx => uu = (Value.agg (Place.enc y7).toArray)), (none, fun _ O uu wx => uu = (Value.tuple #[(Value.agg (Tie.enc ((mget a0.all y7).getD Tie.z)).toArray), (Value.bool ((mget a0.all y7).isSome))])), (none, fun _ O uu wx => uu = (Value.tuple #[(Value.agg (Tie.enc ((mget a0.all y7).getD Tie.z)).toArray), (Value.bool ((mget a0.all y7).isSome))])), (none, fun _ O uu wx => uu = (Value.agg (Tie.enc ((mget a0.all y7).getD Tie.z)).toArray)), (none, fun _ O uu wx => uu = (Value.bool ((mget a0.all y7).isSome))), (some false, fun _ O uu wx => ∃ (p9 : Nat), uu = (Value.pointer (some ⟨p9, 0, none⟩)) ∧ O = (inBlk (Value.pointer (some ⟨p9, 0, none⟩))) ∧ Blk wx p9 30 (Tie.enc Tie.z)), (some true, fun hv O uu wx => ∃ (p9 : Nat), hv = [(Value.pointer (some ⟨p9, 0, none⟩)), undef] ∧ uu = undef ∧ O = (inBlk (Value.pointer (some ⟨p9, 0, none⟩))) ∧ Blk wx p9 30 (Tie.enc ((mget a0.all y7).getD Tie.z)))] [[], [0], [1], [2], [], [4], [3, 5], [6], [7], [7], [], [10, 8]] [11, 9] nb (fun _ h => h.elim) mixed rfl rfl rfl rfl ?_ ?_
  ·
   refine Each.consA ⟨fun _ _ _ _ _ _ h => h, fun _ _ _ _ _ _ _ _ _ _ _ h => h, fun O wk hO ck => ?_⟩ ?_
   ·
    have d21 : ∀ b, inBlk (Value.pointer (some ⟨p0, 0, none⟩)) b → ¬ O b := fun b hu ho => (hO b ho).1.elim (fun h => h.elim) (fun h => Nat.not_le_of_lt (ah0.ltp b hu) h)
    have d22 : ∀ b, inBlk az0_0 b → ¬ O b := fun b hu ho => (hO b ho).1.elim (fun h => h.elim) (fun h => Nat.not_le_of_lt (ah0_0.ltp b hu) h)
    have ha23 : ∀ b, b < w2.heap.size → ¬ (un (inBlk (Value.pointer (some ⟨p0, 0, none⟩))) (un (inBlk az0_0) S2)) b → ¬ nb b ∧ ¬ (un O (un (inBlk (Value.pointer (some ⟨p0, 0, none⟩))) (un (inBlk az0_0) S2))) b := fun b hb hs => ⟨fun h => h.elim, fun h => un_el h (fun ho => (hO b ho).1.elim (fun h => h.elim) (fun h => Nat.not_le_of_lt hb h)) (fun h => un_el h (fun h => hs (.inl h)) (fun h => un_el h (fun h => hs (.inr (.inl h))) (fun h => hs (.inr (.inr h)))))⟩
    have ah0 := ah0.ch0 ck
    have ah0_0 := ah0_0.ch0 ck
    have gp1n : (G F Bb (un O (un (inBlk (Value.pointer (some ⟨p0, 0, none⟩))) (un (inBlk az0_0) S2)))) p1 := ⟨gp1.1, (ha23 _ k4.lt gp1.2).2⟩
    have k4 := k4.ch0 ck
    have gp1 := gp1n
    have c0 := c0.then0 ck
    refine rl_move rfl rfl ?_
    exact RL.nil ⟨_, rfl, Ch.refl, rfl⟩
   refine Each.consA ⟨fun _ _ _ _ _ _ h => h, fun _ _ _ _ _ _ _ _ _ _ _ h => h, fun O wk hO ck => ?_⟩ ?_
   ·
    have d24 : ∀ b, inBlk (Value.pointer (some ⟨p0, 0, none⟩)) b → ¬ O b := fun b hu ho => (hO b ho).1.elim (fun h => h.elim) (fun h => Nat.not_le_of_lt (ah0.ltp b hu) h)
    have d25 : ∀ b, inBlk az0_0 b → ¬ O b := fun b hu ho => (hO b ho).1.elim (fun h => h.elim) (fun h => Nat.not_le_of_lt (ah0_0.ltp b hu) h)
    have ha26 : ∀ b, b < w2.heap.size → ¬ (un (inBlk (Value.pointer (some ⟨p0, 0, none⟩))) (un (inBlk az0_0) S2)) b → ¬ nb b ∧ ¬ (un O (un (inBlk (Value.pointer (some ⟨p0, 0, none⟩))) (un (inBlk az0_0) S2))) b := fun b hb hs => ⟨fun h => h.elim, fun h => un_el h (fun ho => (hO b ho).1.elim (fun h => h.elim) (fun h => Nat.not_le_of_lt hb h)) (fun h => un_el h (fun h => hs (.inl h)) (fun h => un_el h (fun h => hs (.inr (.inl h))) (fun h => hs (.inr (.inr h)))))⟩
    have ah0 := ah0.ch0 ck
    have ah0_0 := ah0_0.ch0 ck
    have gp1n : (G F Bb (un O (un (inBlk (Value.pointer (some ⟨p0, 0, none⟩))) (un (inBlk az0_0) S2)))) p1 := ⟨gp1.1, (ha26 _ k4.lt gp1.2).2⟩
    have k4 := k4.ch0 ck
    have gp1 := gp1n
    have c0 := c0.then0 ck
    refine Need.one rfl rfl rfl ?_
    rintro _ e27
    obtain rfl := e27.symm
    refine rl_nilCheck rfl rfl ?_
    exact RL.nil ⟨_, rfl, Ch.refl, rfl⟩
   refine Each.consA ⟨fun _ _ _ _ _ _ h => h, fun _ _ _ _ _ _ _ _ _ _ _ h => h, fun O wk hO ck => ?_⟩ ?_
   ·
    have d28 : ∀ b, inBlk (Value.pointer (some ⟨p0, 0, none⟩)) b → ¬ O b := fun b hu ho => (hO b ho).1.elim (fun h => h.elim) (fun h => Nat.not_le_of_lt (ah0.ltp b hu) h)
    have d29 : ∀ b, inBlk az0_0 b → ¬ O b := fun b hu ho => (hO b ho).1.elim (fun h => h.elim) (fun h => Nat.not_le_of_lt (ah0_0.ltp b hu) h)
    have ha30 : ∀ b, b < w2.heap.size → ¬ (un (inBlk (Value.pointer (some ⟨p0, 0, none⟩))) (un (inBlk az0_0) S2)) b → ¬ nb b ∧ ¬ (un O (un (inBlk (Value.pointer (some ⟨p0, 0, none⟩))) (un (inBlk az0_0) S2))) b := fun b hb hs => ⟨fun h => h.elim, fun h => un_el h (fun ho => (hO b ho).1.elim (fun h => h.elim) (fun h => Nat.not_le_of_lt hb h)) (fun h => un_el h (fun h => hs (.inl h)) (fun h => un_el h (fun h => hs (.inr (.inl h))) (fun h => hs (.inr (.inr h)))))⟩
    have ah0 := ah0.ch0 ck
    have ah0_0 := ah0_0.ch0 ck
    have gp1n : (G F Bb (un O (un (inBlk (Value.pointer (some ⟨p0, 0, none⟩))) (un (inBlk az0_0) S2)))) p1 := ⟨gp1.1, (ha30 _ k4.lt gp1.2).2⟩
    have k4 := k4.ch0 ck
    have gp1 := gp1n
    have c0 := c0.then0 ck
    refine Need.one rfl rfl rfl ?_
    rintro _ e31
    obtain rfl := e31.symm
    refine rl_fieldAddr rfl fa69_0 rfl ?_
    exact RL.nil ⟨_, rfl, Ch.refl, rfl⟩
   refine Each.consA ⟨fun _ _ _ _ _ _ h => h, fun _ _ _ _ _ _ _ _ _ _ _ h => h, fun O wk hO ck => ?_⟩ ?_
   ·
    have d32 : ∀ b, inBlk (Value.pointer (some ⟨p0, 0, none⟩)) b → ¬ O b := fun b hu ho => (hO b ho).1.elim (fun h => h.elim) (fun h => Nat.not_le_of_lt (ah0.ltp b hu) h)
    have d33 : ∀ b, inBlk az0_0 b → ¬ O b := fun b hu ho => (hO b ho).1.elim (fun h => h.elim) (fun h => Nat.not_le_of_lt (ah0_0.ltp b hu) h)
    have ha34 : ∀ b, b < w2.heap.size → ¬ (un (inBlk (Value.pointer (some ⟨p0, 0, none⟩))) (un (inBlk az0_0) S2)) b → ¬ nb b ∧ ¬ (un O (un (inBlk (Value.pointer (some ⟨p0, 0, none⟩))) (un (inBlk az0_0) S2))) b := fun b hb hs => ⟨fun h => h.elim, fun h => un_el h (fun ho => (hO b ho).1.elim (fun h => h.elim) (fun h => Nat.not_le_of_lt hb h)) (fun h => un_el h (fun h => hs (.inl h)) (fun h => un_el h (fun h => hs (.inr (.inl h))) (fun h => hs (.inr (.inr h)))))⟩
    have ah0 := ah0.ch0 ck
    have ah0_0 := ah0_0.ch0 ck
    have gp1n : (G F Bb (un O (un (inBlk (Value.pointer (some ⟨p0, 0, none⟩))) (un (inBlk az0_0) S2)))) p1 := ⟨gp1.1, (ha34 _ k4.lt gp1.2).2⟩
    have k4 := k4.ch0 ck
    have gp1 := gp1n
    have c0 := c0.then0 ck
    refine Need.one rfl rfl rfl ?_
    rintro _ e35
    obtain rfl := e35.symm
    refine rl_loadS (v := az0_0) rfl Try.isAgg67 (ah0.cell rfl) rfl ?_
    exact RL.nil ⟨_, rfl, Ch.refl, rfl⟩
   refine Each.consA ⟨fun _ _ _ _ _ _ h => h, fun _ _ _ _ _ _ _ _ _ _ _ h => h, fun O wk hO ck => ?_⟩ ?_
   ·
    have d36 : ∀ b, inBlk (Value.pointer (some ⟨p0, 0, none⟩)) b → ¬ O b := fun b hu ho => (hO b ho).1.elim (fun h => h.elim) (fun h => Nat.not_le_of_lt (ah0.ltp b hu) h)
    have d37 : ∀ b, inBlk az0_0 b → ¬ O b := fun b hu ho => (hO b ho).1.elim (fun h => h.elim) (fun h => Nat.not_le_of_lt (ah0_0.ltp b hu) h)
    have ha38 : ∀ b, b < w2.heap.size → ¬ (un (inBlk (Value.pointer (some ⟨p0, 0, none⟩))) (un (inBlk az0_0) S2)) b → ¬ nb b ∧ ¬ (un O (un (inBlk (Value.pointer (some ⟨p0, 0, none⟩))) (un (inBlk az0_0) S2))) b := fun b hb hs => ⟨fun h => h.elim, fun h => un_el h (fun ho => (hO b ho).1.elim (fun h => h.elim) (fun h => Nat.not_le_of_lt hb h)) (fun h => un_el h (fun h => hs (.inl h)) (fun h => un_el h (fun h => hs (.inr (.inl h))) (fun h => hs (.inr (.inr h)))))⟩
    have ah0 := ah0.ch0 ck
    have ah0_0 := ah0_0.ch0 ck
    have gp1n : (G F Bb (un O (un (inBlk (Value.pointer (some ⟨p0, 0, none⟩))) (un (inBlk az0_0) S2)))) p1 := ⟨gp1.1, (ha38 _ k4.lt gp1.2).2⟩
    have k4 := k4.ch0 ck
    have gp1 := gp1n
    have c0 := c0.then0 ck
    refine rl_loadA (cs := (Tie.enc a1)) rfl Try.isAgg30 Try.sizeOf30 (k4.segAt 0 40) rfl rfl ?_
    exact RL.nil ⟨_, rfl, Ch.refl, rfl⟩
   refine Each.consA ⟨fun _ _ _ _ _ _ h => h, fun _ _ _ _ _ _ _ _ _ _ _ h => h, fun O wk hO ck => ?_⟩ ?_
   ·
    have d39 : ∀ b, inBlk (Value.pointer (some ⟨p0, 0, none⟩)) b → ¬ O b := fun b hu ho => (hO b ho).1.elim (fun h => h.elim) (fun h => Nat.not_le_of_lt (ah0.ltp b hu) h)
    have d40 : ∀ b, inBlk az0_0 b → ¬ O b := fun b hu ho => (hO b ho).1.elim (fun h => h.elim) (fun h => Nat.not_le_of_lt (ah0_0.ltp b hu) h)
    have ha41 : ∀ b, b < w2.heap.size → ¬ (un (inBlk (Value.pointer (some ⟨p0, 0, none⟩))) (un (inBlk az0_0) S2)) b → ¬ nb b ∧ ¬ (un O (un (inBlk (Value.pointer (some ⟨p0, 0, none⟩))) (un (inBlk az0_0) S2))) b := fun b hb hs => ⟨fun h => h.elim, fun h => un_el h (fun ho => (hO b ho).1.elim (fun h => h.elim) (fun h => Nat.not_le_of_lt hb h)) (fun h => un_el h (fun h => hs (.inl h)) (fun h => un_el h (fun h => hs (.inr (.inl h))) (fun h => hs (.inr (.inr h)))))⟩
    have ah0 := ah0.ch0 ck
    have ah0_0 := ah0_0.ch0 ck
    have gp1n : (G F Bb (un O (un (inBlk (Value.pointer (some ⟨p0, 0, none⟩))) (un (inBlk az0_0) S2)))) p1 := ⟨gp1.1, (ha41 _ k4.lt gp1.2).2⟩
    have k4 := k4.ch0 ck
    have gp1 := gp1n
    have c0 := c0.then0 ck
    refine Need.one rfl rfl rfl ?_
    rintro _ e42
    obtain rfl := e42.symm
    refine rl_callF rfl en35 rfl (ctr35 (G F Bb (un O (un (inBlk (Value.pointer (some ⟨p0, 0, none⟩))) (un (inBlk az0_0) S2)))) wk a1 y7 hy8) ?_
    rintro _ w43 ⟨rfl, c44⟩
    have ah0 := ah0.ch0 c44
    have ah0_0 := ah0_0.ch0 c44
    have k4 := k4.ch0 c44
    have c0 := c0.then0 c44
    exact RL.nil ⟨_, rfl, c44, rfl⟩
   refine Each.consA ⟨fun _ _ _ _ _ _ h => h, fun _ _ _ _ _ _ _ _ _ _ _ h => h, fun O wk hO ck => ?_⟩ ?_
   ·
    have d45 : ∀ b, inBlk (Value.pointer (some ⟨p0, 0, none⟩)) b → ¬ O b := fun b hu ho => (hO b ho).1.elim (fun h => h.elim) (fun h => Nat.not_le_of_lt (ah0.ltp b hu) h)
    have d46 : ∀ b, inBlk az0_0 b → ¬ O b := fun b hu ho => (hO b ho).1.elim (fun h => h.elim) (fun h => Nat.not_le_of_lt (ah0_0.ltp b hu) h)
    have ha47 : ∀ b, b < w2.heap.size → ¬ (un (inBlk (Value.pointer (some ⟨p0, 0, none⟩))) (un (inBlk az0_0) S2)) b → ¬ nb b ∧ ¬ (un O (un (inBlk (Value.pointer (some ⟨p0, 0, none⟩))) (un (inBlk az0_0) S2))) b := fun b hb hs => ⟨fun h => h.elim, fun h => un_el h (fun ho => (hO b ho).1.elim (fun h => h.elim) (fun h => Nat.not_le_of_lt hb h)) (fun h => un_el h (fun h => hs (.inl h)) (fun h => un_el h (fun h => hs (.inr (.inl h))) (fun h => hs (.inr (.inr h)))))⟩
    have ah0 := ah0.ch0 ck
    have ah0_0 := ah0_0.ch0 ck
    have gp1n : (G F Bb (un O (un (inBlk (Value.pointer (some ⟨p0, 0, none⟩))) (un (inBlk az0_0) S2)))) p1 := ⟨gp1.1, (ha47 _ k4.lt gp1.2).2⟩
    have k4 := k4.ch0 ck
    have gp1 := gp1n
    have c0 := c0.then0 ck
    refine Need.one rfl rfl rfl ?_
    rintro _ e48
    obtain rfl := e48.symm
    refine Need.one rfl rfl rfl ?_
    rintro _ e49
    obtain rfl := e49.symm
    refine rl_lookup2 y7 Tie.z rfl rfl ah0_0 rfl kt79 Try.underlying67 Try.zeroValue30 rfl ?_
    exact RL.nil ⟨_, rfl, Ch.refl, rfl⟩
   refine Each.consA ⟨fun _ _ _ _ _ _ h => h, fun _ _ _ _ _ _ _ _ _ _ _ h => h, fun O wk hO ck => ?_⟩ ?_
   ·
    have d50 : ∀ b, inBlk (Value.pointer (some ⟨p0, 0, none⟩)) b → ¬ O b := fun b hu ho => (hO b ho).1.elim (fun h => h.elim) (fun h => Nat.not_le_of_lt (ah0.ltp b hu) h)
    have d51 : ∀ b, inBlk az0_0 b → ¬ O b := fun b hu ho => (hO b ho).1.elim (fun h => h.elim) (fun h => Nat.not_le_of_lt (ah0_0.ltp b hu) h)
    have ha52 : ∀ b, b < w2.heap.size → ¬ (un (inBlk (Value.pointer (some ⟨p0, 0, none⟩))) (un (inBlk az0_0) S2)) b → ¬ nb b ∧ ¬ (un O (un (inBlk (Value.pointer (some ⟨p0, 0, none⟩))) (un (inBlk az0_0) S2))) b := fun b hb hs => ⟨fun h => h.elim, fun h => un_el h (fun ho => (hO b ho).1.elim (fun h => h.elim) (fun h => Nat.not_le_of_lt hb h)) (fun h => un_el h (fun h => hs (.inl h)) (fun h => un_el h (fun h => hs (.inr (.inl h))) (fun h => hs (.inr (.inr h)))))⟩
    have ah0 := ah0.ch0 ck
    have ah0_0 := ah0_0.ch0 ck
    have gp1n : (G F Bb (un O (un (inBlk (Value.pointer (some ⟨p0, 0, none⟩))) (un (inBlk az0_0) S2)))) p1 := ⟨gp1.1, (ha52 _ k4.lt gp1.2).2⟩
    have k4 := k4.ch0 ck
    have gp1 := gp1n
    have c0 := c0.then0 ck
    refine Need.one rfl rfl rfl ?_
    rintro _ e53
    obtain rfl := e53.symm
    refine rl_move rfl rfl ?_
    exact RL.nil ⟨_, rfl, Ch.refl, rfl⟩
   refine Each.consA ⟨fun _ _ _ _ _ _ h => h, fun _ _ _ _ _ _ _ _ _ _ _ h => h, fun O wk hO ck => ?_⟩ ?_
   ·
    have d54 : ∀ b, inBlk (Value.pointer (some ⟨p0, 0, none⟩)) b → ¬ O b := fun b hu ho => (hO b ho).1.elim (fun h => h.elim) (fun h => Nat.not_le_of_lt (ah0.ltp b hu) h)
    have d55 : ∀ b, inBlk az0_0 b → ¬ O b := fun b hu ho => (hO b ho).1.elim (fun h => h.elim) (fun h => Nat.not_le_of_lt (ah0_0.ltp b hu) h)
    have ha56 : ∀ b, b < w2.heap.size → ¬ (un (inBlk (Value.pointer (some ⟨p0, 0, none⟩))) (un (inBlk az0_0) S2)) b → ¬ nb b ∧ ¬ (un O (un (inBlk (Value.pointer (some ⟨p0, 0, none⟩))) (un (inBlk az0_0) S2))) b := fun b hb hs => ⟨fun h => h.elim, fun h => un_el h (fun ho => (hO b ho).1.elim (fun h => h.elim) (fun h => Nat.not_le_of_lt hb h)) (fun h => un_el h (fun h => hs (.inl h)) (fun h => un_el h (fun h => hs (.inr (.inl h))) (fun h => hs (.inr (.inr h)))))⟩
    have ah0 := ah0.ch0 ck
    have ah0_0 := ah0_0.ch0 ck
    have gp1n : (G F Bb (un O (un (inBlk (Value.pointer (some ⟨p0, 0, none⟩))) (un (inBlk az0_0) S2)))) p1 := ⟨gp1.1, (ha56 _ k4.lt gp1.2).2⟩
    have k4 := k4.ch0 ck
    have gp1 := gp1n
    have c0 := c0.then0 ck
    refine Need.one rfl rfl rfl ?_
    rintro _ e57
    obtain rfl := e57.symm
    refine rl_extract rfl rfl rfl ?_
    exact RL.nil ⟨_, rfl, Ch.refl, rfl⟩
   refine Each.consA ⟨fun _ _ _ _ _ _ h => h, fun _ _ _ _ _ _ _ _ _ _ _ h => h, fun O wk hO ck => ?_⟩ ?_
   ·
    have d58 : ∀ b, inBlk (Value.pointer (some ⟨p0, 0, none⟩)) b → ¬ O b := fun b hu ho => (hO b ho).1.elim (fun h => h.elim) (fun h => Nat.not_le_of_lt (ah0.ltp b hu) h)
    have d59 : ∀ b, inBlk az0_0 b → ¬ O b := fun b hu ho => (hO b ho).1.elim (fun h => h.elim) (fun h => Nat.not_le_of_lt (ah0_0.ltp b hu) h)
    have ha60 : ∀ b, b < w2.heap.size → ¬ (un (inBlk (Value.pointer (some ⟨p0, 0, none⟩))) (un (inBlk az0_0) S2)) b → ¬ nb b ∧ ¬ (un O (un (inBlk (Value.pointer (some ⟨p0, 0, none⟩))) (un (inBlk az0_0) S2))) b := fun b hb hs => ⟨fun h => h.elim, fun h => un_el h (fun ho => (hO b ho).1.elim (fun h => h.elim) (fun h => Nat.not_le_of_lt hb h)) (fun h => un_el h (fun h => hs (.inl h)) (fun h => un_el h (fun h => hs (.inr (.inl h))) (fun h => hs (.inr (.inr h)))))⟩
    have ah0 := ah0.ch0 ck
    have ah0_0 := ah0_0.ch0 ck
    have gp1n : (G F Bb (un O (un (inBlk (Value.pointer (some ⟨p0, 0, none⟩))) (un (inBlk az0_0) S2)))) p1 := ⟨gp1.1, (ha60 _ k4.lt gp1.2).2⟩
    have k4 := k4.ch0 ck
    have gp1 := gp1n
    have c0 := c0.then0 ck
    refine Need.one rfl rfl rfl ?_
    rintro _ e61
    obtain rfl := e61.symm
    refine rl_extract rfl rfl rfl ?_
    exact RL.nil ⟨_, rfl, Ch.refl, rfl⟩
   refine Each.consP ⟨fun _ O _ wx wy cc hh => by obtain ⟨p9, e, rfl, ck10_0⟩ := hh; exact ⟨p9, e, rfl, ck10_0.ch0 cc⟩, fun O wk hO ck => ?_⟩ ?_
   ·
    have d62 : ∀ b, inBlk (Value.pointer (some ⟨p0, 0, none⟩)) b → ¬ O b := fun b hu ho => (hO b ho).1.elim (fun h => h.elim) (fun h => Nat.not_le_of_lt (ah0.ltp b hu) h)
    have d63 : ∀ b, inBlk az0_0 b → ¬ O b := fun b hu ho => (hO b ho).1.elim (fun h => h.elim) (fun h => Nat.not_le_of_lt (ah0_0.ltp b hu) h)
    have ha64 : ∀ b, b < w2.heap.size → ¬ (un (inBlk (Value.pointer (some ⟨p0, 0, none⟩))) (un (inBlk az0_0) S2)) b → ¬ nb b ∧ ¬ (un O (un (inBlk (Value.pointer (some ⟨p0, 0, none⟩))) (un (inBlk az0_0) S2))) b := fun b hb hs => ⟨fun h => h, fun h => un_el h (fun ho => (hO b ho).1.elim (fun h => h.elim) (fun h => Nat.not_le_of_lt hb h)) (fun h => un_el h (fun h => hs (.inl h)) (fun h => un_el h (fun h => hs (.inr (.inl h))) (fun h => hs (.inr (.inr h)))))⟩
    have ah0 := ah0.ch0 ck
    have ah0_0 := ah0_0.ch0 ck
    have gp1n : (G F Bb (un O (un (inBlk (Value.pointer (some ⟨p0, 0, none⟩))) (un (inBlk az0_0) S2)))) p1 := ⟨gp1.1, (ha64 _ k4.lt gp1.2).2⟩
    have k4 := k4.ch0 ck
    have gp1 := gp1n
    have c0 := c0.then0 ck
    refine rl_alloc (Tie.enc Tie.z) Try.zeroValue30 rfl rfl ?_
    intro p65 w66 n67 k68
    have lo69 : ∀ b, inBlk (Value.pointer (some ⟨p65, 0, none⟩)) b → w.heap.size ≤ b := fun b h => Nat.le_trans c0.size (n67.fresh b h)
    have d70 : ∀ b, inBlk (Value.pointer (some ⟨p65, 0, none⟩)) b → ¬ O b := disNew n67.fresh (fun b h => (hO b h).2)
    have d71 : ∀ b, inBlk (Value.pointer (some ⟨p65, 0, none⟩)) b → ¬ inBlk (Value.pointer (some ⟨p0, 0, none⟩)) b := disNew n67.fresh ah0.ltp
    have d72 : ∀ b, inBlk (Value.pointer (some ⟨p65, 0, none⟩)) b → ¬ inBlk az0_0 b := disNew n67.fresh ah0_0.ltp
    have ah0 := ah0.ch0 n67.ch
    have ah0_0 := ah0_0.ch0 n67.ch
    have gp1n : (G F Bb (un (inBlk (Value.pointer (some ⟨p65, 0, none⟩))) (un O (un (inBlk (Value.pointer (some ⟨p0, 0, none⟩))) (un (inBlk az0_0) S2))))) p1 := ⟨gp1.1, ((admNew n67.fresh (fun _ x => x)) _ k4.lt gp1.2).2⟩
    have k4 := k4.ch0 n67.ch
    have gp1 := gp1n
    have c0 := c0.then0 n67.ch
    have hb73 : ∀ b, (inBlk (Value.pointer (some ⟨p65, 0, none⟩))) b → wk.heap.size ≤ b ∧ b < w66.heap.size := fun b h => ⟨n67.fresh b h, k68.ltp b h⟩
    exact RL.nil ⟨_, (inBlk (Value.pointer (some ⟨p65, 0, none⟩))), rfl, hb73, n67.ch, ⟨p65, rfl, rfl, k68⟩⟩
   refine Each.consO ⟨fun _ O _ wx wy cc hh => by obtain ⟨p9, eh, e, rfl, ck11_0⟩ := hh; exact ⟨p9, eh, e, rfl, ck11_0.ch0 cc⟩, fun hv Op O wk hO ck hO0 => ?_⟩ ?_
   ·
    obtain ⟨hl, hB⟩ := hO0 rfl
    refine Need.made rfl rfl rfl rfl ?_
    rintro _ ⟨p9, e74, eO75, ck10_0⟩ hh76
    obtain rfl := e74.symm
    have io77 : ∀ b, inBlk (Value.pointer (some ⟨p9, 0, none⟩)) b → _ := fun b h => (Eq.mpr (congrFun eO75 b) h)
    have hf78 : ∀ b, inBlk (Value.pointer (some ⟨p9, 0, none⟩)) b → w2.heap.size ≤ b := fun b h => (hB.2.2.1 _ b (io77 b h)).1
    obtain rfl := hist_eq [(Value.pointer (some ⟨p9, 0, none⟩))] hv hl ⟨hh76, trivial⟩
    have lo79 : ∀ b, inBlk (Value.pointer (some ⟨p9, 0, none⟩)) b → w.heap.size ≤ b := fun b h => Nat.le_trans c0.size (hf78 b h)
    have d80 : ∀ b, inBlk (Value.pointer (some ⟨p9, 0, none⟩)) b → ¬ inBlk (Value.pointer (some ⟨p0, 0, none⟩)) b := disNew hf78 ah0.ltp
    have d81 : ∀ b, inBlk (Value.pointer (some ⟨p9, 0, none⟩)) b → ¬ inBlk az0_0 b := disNew hf78 ah0_0.ltp
    have ah0 := ah0.ch0 hB.2.1
    have ah0_0 := ah0_0.ch0 hB.2.1
    have gp1n : (G F Bb (un (inBlk (Value.pointer (some ⟨p9, 0, none⟩))) (un (inBlk (Value.pointer (some ⟨p0, 0, none⟩))) (un (inBlk az0_0) S2)))) p1 := ⟨gp1.1, ((show ∀ b, b < w2.heap.size → ¬ (un (inBlk (Value.pointer (some ⟨p0, 0, none⟩))) (un (inBlk az0_0) S2)) b → ¬ nb b ∧ ¬ (un (inBlk (Value.pointer (some ⟨p9, 0, none⟩))) (un (inBlk (Value.pointer (some ⟨p0, 0, none⟩))) (un (inBlk az0_0) S2))) b from fun b hb hs => ⟨fun x => x, fun h => un_el h (fun h => Nat.not_le_of_lt hb (hf78 b h)) (fun h => hs h)⟩) _ k4.lt gp1.2).2⟩
    have k4 := k4.ch0 hB.2.1
    have gp1 := gp1n
    have c0 := c0.then0 hB.2.1
    refine Need.one rfl rfl rfl ?_
    rintro _ e82
    obtain rfl := e82.symm
    refine rl_storeA (vs := (Tie.enc ((mget a0.all y7).getD Tie.z))) rfl rfl (all_one rfl) Try.sizeOf30 rfl ck10_0 rfl ?_
    intro w83 s85 c84 k86
    have ad87 : ∀ b, b < wk.heap.size → ¬ (un (inBlk (Value.pointer (some ⟨p9, 0, none⟩))) (un (inBlk (Value.pointer (some ⟨p0, 0, none⟩))) (un (inBlk az0_0) S2))) b → ¬ (inBlk (Value.pointer (some ⟨p9, 0, none⟩))) b ∧ ¬ (un (inBlk (Value.pointer (some ⟨p9, 0, none⟩))) (un (inBlk (Value.pointer (some ⟨p0, 0, none⟩))) (un (inBlk az0_0) S2))) b := fun b _ hs => ⟨fun h => hs (.inl h), hs⟩
    have ah0 := ah0.ch c84 ((fun b hb h => (disSym d80) b hb h) _ rfl)
    have ah0_0 := ah0_0.ch c84 ((fun b hb h => (disSym d81) b hb h))
    have k4 := k4.ch c84 (ad87 _ k4.lt gp1.2).1
    have c0 := c0.then c84 (fun i hi h => absurd (lo79 i h) (Nat.not_le_of_lt hi))
    have hb88 : ∀ b, (inBlk (Value.pointer (some ⟨p9, 0, none⟩))) b → (O b ∨ wk.heap.size ≤ b) ∧ b < w83.heap.size := fun b h => ⟨.inl ((hB.1 b).2 (.inr ⟨_, inPre rfl, io77 b h⟩)), k86.ltp b h⟩
    exact RL.nil ⟨_, (inBlk (Value.pointer (some ⟨p9, 0, none⟩))), rfl, hb88, (c84.mono (fun b _ h => ((hB.1 b).2 (.inr ⟨_, inPre rfl, io77 b h⟩)))), ⟨p9, rfl, rfl, rfl, k86⟩⟩
   trivial
  ·
   intro hvO91 OpO91 O91 w89 hO92 c90 hN93
   have ol94 : ∀ b, inBlk (Value.pointer (some ⟨p0, 0, none⟩)) b → b < w2.heap.size := ah0.ltp
   have ol95 : ∀ b, inBlk az0_0 b → b < w2.heap.size := ah0_0.ltp
   refine Need.hereN rfl rfl rfl rfl ?_
   rintro ⟨p9, rfl, _, rfl, ck11_0⟩
   have lo97 : ∀ b, inBlk (Value.pointer (some ⟨p9, 0, none⟩)) b → w.heap.size ≤ b := fun b h => (hO92 b h).1.elim (fun h => h.elim) (Nat.le_trans c0.size)
   have d98 : ∀ b, inBlk (Value.pointer (some ⟨p9, 0, none⟩)) b → ¬ inBlk (Value.pointer (some ⟨p0, 0, none⟩)) b := fun b h hu => (hO92 b h).1.elim (fun h => h.elim) (fun h => Nat.not_le_of_lt (ol94 b hu) h)
   have d99 : ∀ b, inBlk (Value.pointer (some ⟨p9, 0, none⟩)) b → ¬ inBlk az0_0 b := fun b h hu => (hO92 b h).1.elim (fun h => h.elim) (fun h => Nat.not_le_of_lt (ol95 b hu) h)
   have ha100 : ∀ b, b < w2.heap.size → ¬ (un (inBlk (Value.pointer (some ⟨p0, 0, none⟩))) (un (inBlk az0_0) S2)) b → ¬ nb b ∧ ¬ (un (inBlk (Value.pointer (some ⟨p9, 0, none⟩))) (un (inBlk (Value.pointer (some ⟨p0, 0, none⟩))) (un (inBlk az0_0) S2))) b := fun b hb hs => ⟨fun h => h.elim, fun h => un_el h (fun h => (hO92 b h).1.elim (fun h => h.elim) (fun h => Nat.not_le_of_lt hb h)) (fun h => un_el h (fun h => hs (.inl h)) (fun h => un_el h (fun h => hs (.inr (.inl h))) (fun h => hs (.inr (.inr h)))))⟩
   have ah0 := ah0.ch0 c90
   have ah0_0 := ah0_0.ch0 c90
   have gp1n : (G F Bb (un (inBlk (Value.pointer (some ⟨p9, 0, none⟩))) (un (inBlk (Value.pointer (some ⟨p0, 0, none⟩))) (un (inBlk az0_0) S2)))) p1 := ⟨gp1.1, (ha100 _ k4.lt gp1.2).2⟩
   have k4 := k4.ch0 c90
   have gp1 := gp1n
   have c0 := c0.then0 c90
   refine Need.one rfl rfl rfl ?_
   rintro _ e101
   obtain rfl := e101.symm
   refine rl_assign rfl rfl ?_
   refine RL.nil ?_
   refine thn_n ?_
   refine CW.seq ?_
   obtain ⟨y104, hy105⟩ : ∃ y, F35_ties_Tie_place a1 = y := ⟨_, rfl⟩
   have hS := ltS hy105 hS
   refine CW.draw 6 [(none, fun _ O uu wx => uu = (Value.pointer (some ⟨p0, 0, none⟩))), (none, fun _ O uu wx => uu = (Value.pointer (some ⟨p0, 0, none⟩))), (none, fun _ O uu wx => uu = (Value.pointer (some ⟨p0, 0, none⟩))), (none, fun _ O uu wx => uu = az0_0), (none, fun _ O uu wx => uu = (Value.agg (Tie.enc a1).toArray)), (none, fun _ O uu wx => uu = (Value.agg (Place.enc y104).toArray))] [[], [0], [1], [2], [], [4]] [3, 5] nb (fun _ h => h.elim) mixed rfl rfl rfl rfl ?_ ?_
   ·
    refine Each.consA ⟨fun _ _ _ _ _ _ h => h, fun h => absurd rfl h, fun O wk hO ck => ?_⟩ ?_
    ·
     have ah0 := ah0.ch0 ck
     have ah0_0 := ah0_0.ch0 ck
     have k4 := k4.ch0 ck
     have ck11_0 := ck11_0.ch0 ck
     have c0 := c0.then0 ck
     refine rl_move rfl rfl ?_
     exact RL.nil ⟨_, rfl, Ch.refl, rfl⟩
    refine Each.consA ⟨fun _ _ _ _ _ _ h => h, fun h => absurd rfl h, fun O wk hO ck => ?_⟩ ?_
    ·
     have ah0 := ah0.ch0 ck
     have ah0_0 := ah0_0.ch0 ck
     have k4 := k4.ch0 ck
     have ck11_0 := ck11_0.ch0 ck
     have c0 := c0.then0 ck
     refine Need.one rfl rfl rfl ?_
     rintro _ e110
     obtain rfl := e110.symm
     refine rl_nilCheck rfl rfl ?_
     exact RL.nil ⟨_, rfl, Ch.refl, rfl⟩
    refine Each.consA ⟨fun _ _ _ _ _ _ h => h, fun h => absurd rfl h, fun O wk hO ck => ?_⟩ ?_
    ·
     have ah0 := ah0.ch0 ck
     have ah0_0 := ah0_0.ch0 ck
     have k4 := k4.ch0 ck
     have ck11_0 := ck11_0.ch0 ck
     have c0 := c0.then0 ck
     refine Need.one rfl rfl rfl ?_
     rintro _ e111
     obtain rfl := e111.symm
     refine rl_fieldAddr rfl fa69_0 rfl ?_
     exact RL.nil ⟨_, rfl, Ch.refl, rfl⟩
    refine Each.consA ⟨fun _ _ _ _ _ _ h => h, fun h => absurd rfl h, fun O wk hO ck => ?_⟩ ?_
    ·
     have ah0 := ah0.ch0 ck
     have ah0_0 := ah0_0.ch0 ck
     have k4 := k4.ch0 ck
     have ck11_0 := ck11_0.ch0 ck
     have c0 := c0.then0 ck
     refine Need.one rfl rfl rfl ?_
     rintro _ e112
     obtain rfl := e112.symm
     refine rl_loadS (v := az0_0) rfl Try.isAgg67 (ah0.cell rfl) rfl ?_
     exact RL.nil ⟨_, rfl, Ch.refl, rfl⟩
    refine Each.consA ⟨fun _ _ _ _ _ _ h => h, fun h => absurd rfl h, fun O wk hO ck => ?_⟩ ?_
    ·
     have ah0 := ah0.ch0 ck
     have ah0_0 := ah0_0.ch0 ck
     have k4 := k4.ch0 ck
     have ck11_0 := ck11_0.ch0 ck
     have c0 := c0.then0 ck
     refine rl_loadA (cs := (Tie.enc a1)) rfl Try.isAgg30 Try.sizeOf30 (k4.segAt 0 40) rfl rfl ?_
     exact RL.nil ⟨_, rfl, Ch.refl, rfl⟩
    refine Each.consA ⟨fun _ _ _ _ _ _ h => h, fun h => absurd rfl h, fun O wk hO ck => ?_⟩ ?_
    ·
     have ah0 := ah0.ch0 ck
     have ah0_0 := ah0_0.ch0 ck
     have k4 := k4.ch0 ck
     have ck11_0 := ck11_0.ch0 ck
     have c0 := c0.then0 ck
     refine Need.one rfl rfl rfl ?_
     rintro _ e113
     obtain rfl := e113.symm
     refine rl_callF rfl en35 rfl (ctr35 (G F Bb (un (inBlk (Value.pointer (some ⟨p9, 0, none⟩))) (un (inBlk (Value.pointer (some ⟨p0, 0, none⟩))) (un (inBlk az0_0) S2)))) wk a1 y104 hy105) ?_
     rintro _ w114 ⟨rfl, c115⟩
     have ah0 := ah0.ch0 c115
     have ah0_0 := ah0_0.ch0 c115
     have k4 := k4.ch0 c115
     have ck11_0 := ck11_0.ch0 c115
     have c0 := c0.then0 c115
     exact RL.nil ⟨_, rfl, c115, rfl⟩
    trivial
   ·
    intro hvO118 OpO118 O118 w116 hO119 c117 hN120
    have ah0 := ah0.ch0 c117
    have ah0_0 := ah0_0.ch0 c117
    have k4 := k4.ch0 c117
    have ck11_0 := ck11_0.ch0 c117
    have c0 := c0.then0 c117
    refine Need.one rfl rfl rfl ?_
    rintro _ e121
    obtain rfl := e121.symm
    refine Need.one rfl rfl rfl ?_
    rintro _ e122
    obtain rfl := e122.symm
    refine rl_delete y104 rfl rfl ah0_0 rfl kt79 Try.underlying67 ?_
    intro w123 c124 h125
    have ad126 : ∀ b, b < w116.heap.size → ¬ (un (inBlk (Value.pointer (some ⟨p9, 0, none⟩))) (un (inBlk (Value.pointer (some ⟨p0, 0, none⟩))) (un (inBlk az0_0) S2))) b → ¬ (inBlk az0_0) b ∧ ¬ (un (inBlk (Value.pointer (some ⟨p9, 0, none⟩))) (un (inBlk (Value.pointer (some ⟨p0, 0, none⟩))) (un (inBlk az0_0) S2))) b := fun b _ hs => ⟨fun h => hs (.inr (.inr (.inl h))), hs⟩
    have ah0 := ah0.ch c124 ((fun b hb h => hx0_1 b hb h) _ rfl)
    have k4 := k4.ch c124 (ad126 _ k4.lt gp1.2).1
    have ck11_0 := ck11_0.ch c124 ((fun b hb h => d99 b hb h) _ rfl)
    have c0 := c0.then c124 (fun i hi h => (lin1_0 i h).elim (fun x => x) (fun x => absurd x (Nat.not_le_of_lt hi)))
    refine RL.nil ?_
    refine thn_n ?_
    refine CW.seq (CW.region ?_)
    refine rl_move rfl rfl ?_
    refine rl_assign rfl rfl ?_
    refine RL.nil ?_
    refine thn_n ?_
    refine CW.ret ?_
    obtain rfl := hS
    have crf : Ch nb w123 w123 := Ch.refl
    have ah0 := ah0.ch0 crf
    have gp1n : (G F Bb (un (inBlk (Value.pointer (some ⟨p0, 0, none⟩))) (un (inBlk az0_0) S2))) p1 := ⟨gp1.1, ((show ∀ b, b < w123.heap.size → ¬ (un (inBlk (Value.pointer (some ⟨p9, 0, none⟩))) (un (inBlk (Value.pointer (some ⟨p0, 0, none⟩))) (un (inBlk az0_0) S2))) b → ¬ nb b ∧ ¬ (un (inBlk (Value.pointer (some ⟨p0, 0, none⟩))) (un (inBlk az0_0) S2)) b from fun b _ hs => ⟨fun x => x, fun h => hs (un_el h (fun h => (.inr (.inl h))) (fun h => un_el h (fun h => (.inr (.inr (.inl h)))) (fun h => (.inr (.inr (.inr h))))))⟩) _ k4.lt gp1.2).2⟩
    have k4 := k4.ch0 crf
    have gp1 := gp1n
    have h125 := h125.ch0 crf
    have c0 := c0.then0 crf
    exact ret1 rfl ⟨az0_0, rfl, ah0, h125, lin1_0, hx0_1, c0⟩
/-- (*lb/ties.Ties).evict -/
theorem ctr37 (F : Nat → Prop) (w : World) (Bb : Nat) (S2 : Nat → Prop) (hB : Bb ≤ w.heap.size) (h2 : ∀ b, S2 b → b < w.heap.size) (p0 : Nat) (az0_0 : Value) (hd2 : ∀ b, (un (inBlk (Value.pointer (some ⟨p0, 0, none⟩))) (inBlk az0_0)) b → ¬ S2 b) (hx0_1 : ∀ b, inBlk (Value.pointer (some ⟨p0, 0, none⟩)) b → ¬ inBlk az0_0 b) (a0 : Ties) (ah0 : Blk w p0 69 (Ties.c a0 az0_0)) (ah0_0 : Mp (fun x => Value.agg (Place.enc x).toArray) (fun x => Value.agg (Tie.enc x).toArray) w a0.all az0_0) (a1 : Place) (r : (Tie × Bool)) (hs : F37_ties_Ties_evict a0 a1 = some r) :
    Ret Try.prog 37 #[(Value.pointer (some ⟨p0, 0, none⟩)), (Value.agg (Place.enc a1).toArray)] w fun v w' => v = Value.tuple #[(Value.agg (Tie.enc r.1).toArray), (Value.bool r.2)] ∧ Ch nb w w' := by
  have hS := hs
  have c0 : Ch nb w w := Ch.refl
  have lin0_0 : ∀ b, inBlk (Value.pointer (some ⟨p0, 0, none⟩)) b → (un (inBlk (Value.pointer (some ⟨p0, 0, none⟩))) (inBlk az0_0)) b ∨ w.heap.size ≤ b := fun b h => .inl (.inl h)
  have lin1_0 : ∀ b, inBlk az0_0 b → (un (inBlk (Value.pointer (some ⟨p0, 0, none⟩))) (inBlk az0_0)) b ∨ w.heap.size ≤ b := fun b h => .inl (.inr h)
  refine Ret.of (n := 39) (args := [_, _]) (rs := [.cell 4 30, .tmp 5]) Try.func37 rfl rfl rfl rfl ?_
  refine CW.seq (CW.region ?_)
  refine rl_boxA (cs := (Place.enc a1)) rfl rfl ?_
  intro p1 w2 n3 k4
  have gp1 : (G F Bb (un (inBlk (Value.pointer (some ⟨p0, 0, none⟩))) (un (inBlk az0_0) S2))) p1 := ⟨.inr (by rw [n3.eq]; exact (Nat.le_trans hB c0.size)), fun h => absurd ((un_lt ah0.ltp (un_lt ah0_0.ltp (fun b h => Nat.lt_of_lt_of_le (h2 b h) c0.size))) _ h) (by rw [n3.eq]; exact Nat.lt_irrefl _)⟩
  have ah0 := ah0.ch0 n3.ch
  have ah0_0 := ah0_0.ch0 n3.ch
  have c0 := c0.then0 n3.ch
  refine rl_alloc (Tie.enc Tie.z) Try.zeroValue30 rfl rfl ?_
  intro p5 w6 n7 k8
  have lo9 : ∀ b, inBlk (Value.pointer (some ⟨p5, 0, none⟩)) b → w.heap.size ≤ b := fun b h => Nat.le_trans c0.size (n7.fresh b h)
  have d10 : ∀ b, inBlk (Value.pointer (some ⟨p5, 0, none⟩)) b → ¬ inBlk (Value.pointer (some ⟨p0, 0, none⟩)) b := disNew n7.fresh ah0.ltp
  have d11 : ∀ b, inBlk (Value.pointer (some ⟨p5, 0, none⟩)) b → ¬ inBlk az0_0 b := disNew n7.fresh ah0_0.ltp
  have ah0 := ah0.ch0 n7.ch
  have ah0_0 := ah0_0.ch0 n7.ch
  have gp1n : (G F Bb (un (inBlk (Value.pointer (some ⟨p5, 0, none⟩))) (un (inBlk (Value.pointer (some ⟨p0, 0, none⟩))) (un (inBlk az0_0) S2)))) p1 := ⟨gp1.1, ((admNew n7.fresh (fun _ x => x)) _ k4.lt gp1.2).2⟩
  have k4 := k4.ch0 n7.ch
  have gp1 := gp1n
  have c0 := c0.then0 n7.ch
  refine rl_assign rfl rfl ?_
  refine RL.nil ?_
  refine thn_n ?_
  refine CW.seq ?_
  refine CW.seq ?_
  refine CW.draw 11 [(none, fun _ O uu wx => uu = (Value.pointer (some ⟨p0, 0, none⟩))), (none, fun _ O uu wx => uu = (Value.pointer (some ⟨p0, 0, none⟩))), (none, fun _ O uu wx => uu = (Value.pointer (some ⟨p0, 0, none⟩))), (none, fun _ O uu wx => uu = az0_0), (none, fun _ O uu wx => uu = (Value.agg (Place.enc a1).toArray)), (none, fun _ O uu wx => uu = (Value.tuple #[(Value.agg (Tie.enc ((mget a0.all a1).getD Tie.z)).toArray), (Value.bool ((mget a0.all a1).isSome))])), (none, fun _ O uu wx => uu = (Value.tuple #[(Value.agg (Tie.enc ((mget a0.all a1).getD Tie.z)).toArray), (Value.bool ((mget a0.all a1).isSome))])), (none, fun _ O uu wx => uu = (Value.agg (Tie.enc ((mget a0.all a1).getD Tie.z)).toArray)), (none, fun _ O uu wx => uu = (Value.bool ((mget a0.all a1).isSome))), (some false, fun _ O uu wx => ∃ (p12 : Nat), uu = (Value.pointer (some ⟨p12, 0, none⟩)) ∧ O = (inBlk (Value.pointer (some ⟨p12, 0, none⟩))) ∧ Blk wx p12 30 (Tie.enc Tie.z)), (some true, fun hv O uu wx => ∃ (p12 : Nat), hv = [(Value.pointer (some ⟨p12, 0, none⟩)), undef] ∧ uu = undef ∧ O = (inBlk (Value.pointer (some ⟨p12, 0, none⟩))) ∧ Blk wx p12 30 (Tie.enc ((mget a0.all a1).getD Tie.z)))] [[], [0], [1], [2], [], [3, 4], [5], [6], [6], [], [9, 7]] [10, 8] nb (fun _ h => h.elim) mixed rfl rfl rfl rfl ?_ ?_
  ·
   refine Each.consA ⟨fun _ _ _ _ _ _ h => h, fun _ _ _ _ _ _ _ _ _ _ _ h => h, fun O wk hO ck => ?_⟩ ?_
   ·
    have d25 : ∀ b, inBlk (Value.pointer (some ⟨p5, 0, none⟩)) b → ¬ O b := fun b hu ho => (hO b ho).1.elim (fun h => h.elim) (fun h => Nat.not_le_of_lt (k8.ltp b hu) h)
    have d26 : ∀ b, inBlk (Value.pointer (some ⟨p0, 0, none⟩)) b → ¬ O b := fun b hu ho => (hO b ho).1.elim (fun h => h.elim) (fun h => Nat.not_le_of_lt (ah0.ltp b hu) h)
    have d27 : ∀ b, inBlk az0_0 b → ¬ O b := fun b hu ho => (hO b ho).1.elim (fun h => h.elim) (fun h => Nat.not_le_of_lt (ah0_0.ltp b hu) h)
    have ha28 : ∀ b, b < w6.heap.size → ¬ (un (inBlk (Value.pointer (some ⟨p5, 0, none⟩))) (un (inBlk (Value.pointer (some ⟨p0, 0, none⟩))) (un (inBlk az0_0) S2))) b → ¬ nb b ∧ ¬ (un O (un (inBlk (Value.pointer (some ⟨p5, 0, none⟩))) (un (inBlk (Value.pointer (some ⟨p0, 0, none⟩))) (un (inBlk az0_0) S2)))) b := fun b hb hs => ⟨fun h => h.elim, fun h => un_el h (fun ho => (hO b ho).1.elim (fun h => h.elim) (fun h => Nat.not_le_of_lt hb h)) (fun h => un_el h (fun h => hs (.inl h)) (fun h => un_el h (fun h => hs (.inr (.inl h))) (fun h => un_el h (fun h => hs (.inr (.inr (.inl h)))) (fun h => hs (.inr (.inr (.inr h)))))))⟩
    have ah0 := ah0.ch0 ck
    have ah0_0 := ah0_0.ch0 ck
    have gp1n : (G F Bb (un O (un (inBlk (Value.pointer (some ⟨p5, 0, none⟩))) (un (inBlk (Value.pointer (some ⟨p0, 0, none⟩))) (un (inBlk az0_0) S2))))) p1 := ⟨gp1.1, (ha28 _ k4.lt gp1.2).2⟩
    have k4 := k4.ch0 ck
    have gp1 := gp1n
    have k8 := k8.ch0 ck
    have c0 := c0.then0 ck
    refine rl_move rfl rfl ?_
    exact RL.nil ⟨_, rfl, Ch.refl, rfl⟩
   refine Each.consA ⟨fun _ _ _ _ _ _ h => h, fun _ _ _ _ _ _ _ _ _ _ _ h => h, fun O wk hO ck => ?_⟩ ?_
   ·
    have d29 : ∀ b, inBlk (Value.pointer (some ⟨p5, 0, none⟩)) b → ¬ O b := fun b hu ho => (hO b ho).1.elim (fun h => h.elim) (fun h => Nat.not_le_of_lt (k8.ltp b hu) h)
    have d30 : ∀ b, inBlk (Value.pointer (some ⟨p0, 0, none⟩)) b → ¬ O b := fun b hu ho => (hO b ho).1.elim (fun h => h.elim) (fun h => Nat.not_le_of_lt (ah0.ltp b hu) h)
    have d31 : ∀ b, inBlk az0_0 b → ¬ O b := fun b hu ho => (hO b ho).1.elim (fun h => h.elim) (fun h => Nat.not_le_of_lt (ah0_0.ltp b hu) h)
    have ha32 : ∀ b, b < w6.heap.size → ¬ (un (inBlk (Value.pointer (some ⟨p5, 0, none⟩))) (un (inBlk (Value.pointer (some ⟨p0, 0, none⟩))) (un (inBlk az0_0) S2))) b → ¬ nb b ∧ ¬ (un O (un (inBlk (Value.pointer (some ⟨p5, 0, none⟩))) (un (inBlk (Value.pointer (some ⟨p0, 0, none⟩))) (un (inBlk az0_0) S2)))) b := fun b hb hs => ⟨fun h => h.elim, fun h => un_el h (fun ho => (hO b ho).1.elim (fun h => h.elim) (fun h => Nat.not_le_of_lt hb h)) (fun h => un_el h (fun h => hs (.inl h)) (fun h => un_el h (fun h => hs (.inr (.inl h))) (fun h => un_el h (fun h => hs (.inr (.inr (.inl h)))) (fun h => hs (.inr (.inr (.inr h)))))))⟩
    have ah0 := ah0.ch0 ck
    have ah0_0 := ah0_0.ch0 ck
    have gp1n : (G F Bb (un O (un (inBlk (Value.pointer (some ⟨p5, 0, none⟩))) (un (inBlk (Value.pointer (some ⟨p0, 0, none⟩))) (un (inBlk az0_0) S2))))) p1 := ⟨gp1.1, (ha32 _ k4.lt gp1.2).2⟩
    have k4 := k4.ch0 ck
    have gp1 := gp1n
    have k8 := k8.ch0 ck
    have c0 := c0.then0 ck
    refine Need.one rfl rfl rfl ?_
    rintro _ e33
    obtain rfl := e33.symm
    refine rl_nilCheck rfl rfl ?_
    exact RL.nil ⟨_, rfl, Ch.refl, rfl⟩
   refine Each.consA ⟨fun _ _ _ _ _ _ h => h, fun _ _ _ _ _ _ _ _ _ _ _ h => h, fun O wk hO ck => ?_⟩ ?_
   ·
    have d34 : ∀ b, inBlk (Value.pointer (some ⟨p5, 0, none⟩)) b → ¬ O b := fun b hu ho => (hO b ho).1.elim (fun h => h.elim) (fun h => Nat.not_le_of_lt (k8.ltp b hu) h)
    have d35 : ∀ b, inBlk (Value.pointer (some ⟨p0, 0, none⟩)) b → ¬ O b := fun b hu ho => (hO b ho).1.elim (fun h => h.elim) (fun h => Nat.not_le_of_lt (ah0.ltp b hu) h)
    have d36 : ∀ b, inBlk az0_0 b → ¬ O b := fun b hu ho => (hO b ho).1.elim (fun h => h.elim) (fun h => Nat.not_le_of_lt (ah0_0.ltp b hu) h)
    have ha37 : ∀ b, b < w6.heap.size → ¬ (un (inBlk (Value.pointer (some ⟨p5, 0, none⟩))) (un (inBlk (Value.pointer (some ⟨p0, 0, none⟩))) (un (inBlk az0_0) S2))) b → ¬ nb b ∧ ¬ (un O (un (inBlk (Value.pointer (some ⟨p5, 0, none⟩))) (un (inBlk (Value.pointer (some ⟨p0, 0, none⟩))) (un (inBlk az0_0) S2)))) b := fun b hb hs => ⟨fun h => h.elim, fun h => un_el h (fun ho => (hO b ho).1.elim (fun h => h.elim) (fun h => Nat.not_le_of_lt hb h)) (fun h => un_el h (fun h => hs (.inl h)) (fun h => un_el h (fun h => hs (.inr (.inl h))) (fun h => un_el h (fun h => hs (.inr (.inr (.inl h)))) (fun h => hs (.inr (.inr (.inr h)))))))⟩
    have ah0 := ah0.ch0 ck
    have ah0_0 := ah0_0.ch0 ck
    have gp1n : (G F Bb (un O (un (inBlk (Value.pointer (some ⟨p5, 0, none⟩))) (un (inBlk (Value.pointer (some ⟨p0, 0, none⟩))) (un (inBlk az0_0) S2))))) p1 := ⟨gp1.1, (ha37 _ k4.lt gp1.2).2⟩
    have k4 := k4.ch0 ck
    have gp1 := gp1n
    have k8 := k8.ch0 ck
    have c0 := c0.then0 ck
    refine Need.one rfl rfl rfl ?_
    rintro _ e38
    obtain rfl := e38.symm
    refine rl_fieldAddr rfl fa69_0 rfl ?_
    exact RL.nil ⟨_, rfl, Ch.refl, rfl⟩
   refine Each.consA ⟨fun _ _ _ _ _ _ h => h, fun _ _ _ _ _ _ _ _ _ _ _ h => h, fun O wk hO ck => ?_⟩ ?_
   ·
    have d39 : ∀ b, inBlk (Value.pointer (some ⟨p5, 0, none⟩)) b → ¬ O b := fun b hu ho => (hO b ho).1.elim (fun h => h.elim) (fun h => Nat.not_le_of_lt (k8.ltp b hu) h)
    have d40 : ∀ b, inBlk (Value.pointer (some ⟨p0, 0, none⟩)) b → ¬ O b := fun b hu ho => (hO b ho).1.elim (fun h => h.elim) (fun h => Nat.not_le_of_lt (ah0.ltp b hu) h)
    have d41 : ∀ b, inBlk az0_0 b → ¬ O b := fun b hu ho => (hO b ho).1.elim (fun h => h.elim) (fun h => Nat.not_le_of_lt (ah0_0.ltp b hu) h)
    have ha42 : ∀ b, b < w6.heap.size → ¬ (un (inBlk (Value.pointer (some ⟨p5, 0, none⟩))) (un (inBlk (Value.pointer (some ⟨p0, 0, none⟩))) (un (inBlk az0_0) S2))) b → ¬ nb b ∧ ¬ (un O (un (inBlk (Value.pointer (some ⟨p5, 0, none⟩))) (un (inBlk (Value.pointer (some ⟨p0, 0, none⟩))) (un (inBlk az0_0) S2)))) b := fun b hb hs => ⟨fun h => h.elim, fun h => un_el h (fun ho => (hO b ho).1.elim (fun h => h.elim) (fun h => Nat.not_le_of_lt hb h)) (fun h => un_el h (fun h => hs (.inl h)) (fun h => un_el h (fun h => hs (.inr (.inl h))) (fun h => un_el h (fun h => hs (.inr (.inr (.inl h)))) (fun h => hs (.inr (.inr (.inr h)))))))⟩
    have ah0 := ah0.ch0 ck
    have ah0_0 := ah0_0.ch0 ck
    have gp1n : (G F Bb (un O (un (inBlk (Value.pointer (some ⟨p5, 0, none⟩))) (un (inBlk (Value.pointer (some ⟨p0, 0, none⟩))) (un (inBlk az0_0) S2))))) p1 := ⟨gp1.1, (ha42 _ k4.lt gp1.2).2⟩
    have k4 := k4.ch0 ck
    have gp1 := gp1n
    have k8 := k8.ch0 ck
    have c0 := c0.then0 ck
    refine Need.one rfl rfl rfl ?_
    rintro _ e43
    obtain rfl := e43.symm
    refine rl_loadS (v := az0_0) rfl Try.isAgg67 (ah0.cell rfl) rfl ?_
    exact RL.nil ⟨_, rfl, Ch.refl, rfl⟩
   refine Each.consA ⟨fun _ _ _ _ _ _ h => h, fun _ _ _ _ _ _ _ _ _ _ _ h => h, fun O wk hO ck => ?_⟩ ?_
   ·
    have d44 : ∀ b, inBlk (Value.pointer (some ⟨p5, 0, none⟩)) b → ¬ O b := fun b hu ho => (hO b ho).1.elim (fun h => h.elim) (fun h => Nat.not_le_of_lt (k8.ltp b hu) h)
    have d45 : ∀ b, inBlk (Value.pointer (some ⟨p0, 0, none⟩)) b → ¬ O b := fun b hu ho => (hO b ho).1.elim (fun h => h.elim) (fun h => Nat.not_le_of_lt (ah0.ltp b hu) h)
    have d46 : ∀ b, inBlk az0_0 b → ¬ O b := fun b hu ho => (hO b ho).1.elim (fun h => h.elim) (fun h => Nat.not_le_of_lt (ah0_0.ltp b hu) h)
    have ha47 : ∀ b, b < w6.heap.size → ¬ (un (inBlk (Value.pointer (some ⟨p5, 0, none⟩))) (un (inBlk (Value.pointer (some ⟨p0, 0, none⟩))) (un (inBlk az0_0) S2))) b → ¬ nb b ∧ ¬ (un O (un (inBlk (Value.pointer (some ⟨p5, 0, none⟩))) (un (inBlk (Value.pointer (some ⟨p0, 0, none⟩))) (un (inBlk az0_0) S2)))) b := fun b hb hs => ⟨fun h => h.elim, fun h => un_el h (fun ho => (hO b ho).1.elim (fun h => h.elim) (fun h => Nat.not_le_of_lt hb h)) (fun h => un_el h (fun h => hs (.inl h)) (fun h => un_el h (fun h => hs (.inr (.inl h))) (fun h => un_el h (fun h => hs (.inr (.inr (.inl h)))) (fun h => hs (.inr (.inr (.inr h)))))))⟩
    have ah0 := ah0.ch0 ck
    have ah0_0 := ah0_0.ch0 ck
    have gp1n : (G F Bb (un O (un (inBlk (Value.pointer (some ⟨p5, 0, none⟩))) (un (inBlk (Value.pointer (some ⟨p0, 0, none⟩))) (un (inBlk az0_0) S2))))) p1 := ⟨gp1.1, (ha47 _ k4.lt gp1.2).2⟩
    have k4 := k4.ch0 ck
    have gp1 := gp1n
    have k8 := k8.ch0 ck
    have c0 := c0.then0 ck
    refine rl_loadA (cs := (Place.enc a1)) rfl Try.isAgg79 Try.sizeOf79 (k4.segAt 0 21) rfl rfl ?_
    exact RL.nil ⟨_, rfl, Ch.refl, rfl⟩
   refine Each.consA ⟨fun _ _ _ _ _ _ h => h, fun _ _ _ _ _ _ _ _ _ _ _ h => h, fun O wk hO ck => ?_⟩ ?_
   ·
    have d48 : ∀ b, inBlk (Value.pointer (some ⟨p5, 0, none⟩)) b → ¬ O b := fun b hu ho => (hO b ho).1.elim (fun h => h.elim) (fun h => Nat.not_le_of_lt (k8.ltp b hu) h)
    have d49 : ∀ b, inBlk (Value.pointer (some ⟨p0, 0, none⟩)) b → ¬ O b := fun b hu ho => (hO b ho).1.elim (fun h => h.elim) (fun h => Nat.not_le_of_lt (ah0.ltp b hu) h)
    have d50 : ∀ b, inBlk az0_0 b → ¬ O b := fun b hu ho => (hO b ho).1.elim (fun h => h.elim) (fun h => Nat.not_le_of_lt (ah0_0.ltp b hu) h)
    have ha51 : ∀ b, b < w6.heap.size → ¬ (un (inBlk (Value.pointer (some ⟨p5, 0, none⟩))) (un (inBlk (Value.pointer (some ⟨p0, 0, none⟩))) (un (inBlk az0_0) S2))) b → ¬ nb b ∧ ¬ (un O (un (inBlk (Value.pointer (some ⟨p5, 0, none⟩))) (un (inBlk (Value.pointer (some ⟨p0, 0, none⟩))) (un (inBlk az0_0) S2)))) b := fun b hb hs => ⟨fun h => h.elim, fun h => un_el h (fun ho => (hO b ho).1.elim (fun h => h.elim) (fun h => Nat.not_le_of_lt hb h)) (fun h => un_el h (fun h => hs (.inl h)) (fun h => un_el h (fun h => hs (.inr (.inl h))) (fun h => un_el h (fun h => hs (.inr (.inr (.inl h)))) (fun h => hs (.inr (.inr (.inr h)))))))⟩
    have ah0 := ah0.ch0 ck
    have ah0_0 := ah0_0.ch0 ck
    have gp1n : (G F Bb (un O (un (inBlk (Value.pointer (some ⟨p5, 0, none⟩))) (un (inBlk (Value.pointer (some ⟨p0, 0, none⟩))) (un (inBlk az0_0) S2))))) p1 := ⟨gp1.1, (ha51 _ k4.lt gp1.2).2⟩
    have k4 := k4.ch0 ck
    have gp1 := gp1n
    have k8 := k8.ch0 ck
    have c0 := c0.then0 ck
    refine Need.one rfl rfl rfl ?_
    rintro _ e52
    obtain rfl := e52.symm
    refine Need.one rfl rfl rfl ?_
    rintro _ e53
    obtain rfl := e53.symm
    refine rl_lookup2 a1 Tie.z rfl rfl ah0_0 rfl kt79 Try.underlying67 Try.zeroValue30 rfl ?_
    exact RL.nil ⟨_, rfl, Ch.refl, rfl⟩
   refine Each.consA ⟨fun _ _ _ _ _ _ h => h, fun _ _ _ _ _ _ _ _ _ _ _ h => h, fun O wk hO ck => ?_⟩ ?_
   ·
    have d54 : ∀ b, inBlk (Value.pointer (some ⟨p5, 0, none⟩)) b → ¬ O b := fun b hu ho => (hO b ho).1.elim (fun h => h.elim) (fun h => Nat.not_le_of_lt (k8.ltp b hu) h)
    have d55 : ∀ b, inBlk (Value.pointer (some ⟨p0, 0, none⟩)) b → ¬ O b := fun b hu ho => (hO b ho).1.elim (fun h => h.elim) (fun h => Nat.not_le_of_lt (ah0.ltp b hu) h)
    have d56 : ∀ b, inBlk az0_0 b → ¬ O b := fun b hu ho => (hO b ho).1.elim (fun h => h.elim) (fun h => Nat.not_le_of_lt (ah0_0.ltp b hu) h)
    have ha57 : ∀ b, b < w6.heap.size → ¬ (un (inBlk (Value.pointer (some ⟨p5, 0, none⟩))) (un (inBlk (Value.pointer (some ⟨p0, 0, none⟩))) (un (inBlk az0_0) S2))) b → ¬ nb b ∧ ¬ (un O (un (inBlk (Value.pointer (some ⟨p5, 0, none⟩))) (un (inBlk (Value.pointer (some ⟨p0, 0, none⟩))) (un (inBlk az0_0) S2)))) b := fun b hb hs => ⟨fun h => h.elim, fun h => un_el h (fun ho => (hO b ho).1.elim (fun h => h.elim) (fun h => Nat.not_le_of_lt hb h)) (fun h => un_el h (fun h => hs (.inl h)) (fun h => un_el h (fun h => hs (.inr (.inl h))) (fun h => un_el h (fun h => hs (.inr (.inr (.inl h)))) (fun h => hs (.inr (.inr (.inr h)))))))⟩
    have ah0 := ah0.ch0 ck
    have ah0_0 := ah0_0.ch0 ck
    have gp1n : (G F Bb (un O (un (inBlk (Value.pointer (some ⟨p5, 0, none⟩))) (un (inBlk (Value.pointer (some ⟨p0, 0, none⟩))) (un (inBlk az0_0) S2))))) p1 := ⟨gp1.1, (ha57 _ k4.lt gp1.2).2⟩
    have k4 := k4.ch0 ck
    have gp1 := gp1n
    have k8 := k8.ch0 ck
    have c0 := c0.then0 ck
    refine Need.one rfl rfl rfl ?_
    rintro _ e58
    obtain rfl := e58.symm
    refine rl_move rfl rfl ?_
    exact RL.nil ⟨_, rfl, Ch.refl, rfl⟩
   refine Each.consA ⟨fun _ _ _ _ _ _ h => h, fun _ _ _ _ _ _ _ _ _ _ _ h => h, fun O wk hO ck => ?_⟩ ?_
   ·
    have d59 : ∀ b, inBlk (Value.pointer (some ⟨p5, 0, none⟩)) b → ¬ O b := fun b hu ho => (hO b ho).1.elim (fun h => h.elim) (fun h => Nat.not_le_of_lt (k8.ltp b hu) h)
    have d60 : ∀ b, inBlk (Value.pointer (some ⟨p0, 0, none⟩)) b → ¬ O b := fun b hu ho => (hO b ho).1.elim (fun h => h.elim) (fun h => Nat.not_le_of_lt (ah0.ltp b hu) h)
    have d61 : ∀ b, inBlk az0_0 b → ¬ O b := fun b hu ho => (hO b ho).1.elim (fun h => h.elim) (fun h => Nat.not_le_of_lt (ah0_0.ltp b hu) h)
    have ha62 : ∀ b, b < w6.heap.size → ¬ (un (inBlk (Value.pointer (some ⟨p5, 0, none⟩))) (un (inBlk (Value.pointer (some ⟨p0, 0, none⟩))) (un (inBlk az0_0) S2))) b → ¬ nb b ∧ ¬ (un O (un (inBlk (Value.pointer (some ⟨p5, 0, none⟩))) (un (inBlk (Value.pointer (some ⟨p0, 0, none⟩))) (un (inBlk az0_0) S2)))) b := fun b hb hs => ⟨fun h => h.elim, fun h => un_el h (fun ho => (hO b ho).1.elim (fun h => h.elim) (fun h => Nat.not_le_of_lt hb h)) (fun h => un_el h (fun h => hs (.inl h)) (fun h => un_el h (fun h => hs (.inr (.inl h))) (fun h => un_el h (fun h => hs (.inr (.inr (.inl h)))) (fun h => hs (.inr (.inr (.inr h)))))))⟩
    have ah0 := ah0.ch0 ck
    have ah0_0 := ah0_0.ch0 ck
    have gp1n : (G F Bb (un O (un (inBlk (Value.pointer (some ⟨p5, 0, none⟩))) (un (inBlk (Value.pointer (some ⟨p0, 0, none⟩))) (un (inBlk az0_0) S2))))) p1 := ⟨gp1.1, (ha62 _ k4.lt gp1.2).2⟩
    have k4 := k4.ch0 ck
    have gp1 := gp1n
    have k8 := k8.ch0 ck
    have c0 := c0.then0 ck
    refine Need.one rfl rfl rfl ?_
    rintro _ e63
    obtain rfl := e63.symm
    refine rl_extract rfl rfl rfl ?_
    exact RL.nil ⟨_, rfl, Ch.refl, rfl⟩
   refine Each.consA ⟨fun _ _ _ _ _ _ h => h, fun _ _ _ _ _ _ _ _ _ _ _ h => h, fun O wk hO ck => ?_⟩ ?_
   ·
    have d64 : ∀ b, inBlk (Value.pointer (some ⟨p5, 0, none⟩)) b → ¬ O b := fun b hu ho => (hO b ho).1.elim (fun h => h.elim) (fun h => Nat.not_le_of_lt (k8.ltp b hu) h)
    have d65 : ∀ b, inBlk (Value.pointer (some ⟨p0, 0, none⟩)) b → ¬ O b := fun b hu ho => (hO b ho).1.elim (fun h => h.elim) (fun h => Nat.not_le_of_lt (ah0.ltp b hu) h)
    have d66 : ∀ b, inBlk az0_0 b → ¬ O b := fun b hu ho => (hO b ho).1.elim (fun h => h.elim) (fun h => Nat.not_le_of_lt (ah0_0.ltp b hu) h)
    have ha67 : ∀ b, b < w6.heap.size → ¬ (un (inBlk (Value.pointer (some ⟨p5, 0, none⟩))) (un (inBlk (Value.pointer (some ⟨p0, 0, none⟩))) (un (inBlk az0_0) S2))) b → ¬ nb b ∧ ¬ (un O (un (inBlk (Value.pointer (some ⟨p5, 0, none⟩))) (un (inBlk (Value.pointer (some ⟨p0, 0, none⟩))) (un (inBlk az0_0) S2)))) b := fun b hb hs => ⟨fun h => h.elim, fun h => un_el h (fun ho => (hO b ho).1.elim (fun h => h.elim) (fun h => Nat.not_le_of_lt hb h)) (fun h => un_el h (fun h => hs (.inl h)) (fun h => un_el h (fun h => hs (.inr (.inl h))) (fun h => un_el h (fun h => hs (.inr (.inr (.inl h)))) (fun h => hs (.inr (.inr (.inr h)))))))⟩
    have ah0 := ah0.ch0 ck
    have ah0_0 := ah0_0.ch0 ck
    have gp1n : (G F Bb (un O (un (inBlk (Value.pointer (some ⟨p5, 0, none⟩))) (un (inBlk (Value.pointer (some ⟨p0, 0, none⟩))) (un (inBlk az0_0) S2))))) p1 := ⟨gp1.1, (ha67 _ k4.lt gp1.2).2⟩
    have k4 := k4.ch0 ck
    have gp1 := gp1n
    have k8 := k8.ch0 ck
    have c0 := c0.then0 ck
    refine Need.one rfl rfl rfl ?_
    rintro _ e68
    obtain rfl := e68.symm
    refine rl_extract rfl rfl rfl ?_
    exact RL.nil ⟨_, rfl, Ch.refl, rfl⟩
   refine Each.consP ⟨fun _ O _ wx wy cc hh => by obtain ⟨p12, e, rfl, ck9_0⟩ := hh; exact ⟨p12, e, rfl, ck9_0.ch0 cc⟩, fun O wk hO ck => ?_⟩ ?_
   ·
    have d69 : ∀ b, inBlk (Value.pointer (some ⟨p5, 0, none⟩)) b → ¬ O b := fun b hu ho => (hO b ho).1.elim (fun h => h.elim) (fun h => Nat.not_le_of_lt (k8.ltp b hu) h)
    have d70 : ∀ b, inBlk (Value.pointer (some ⟨p0, 0, none⟩)) b → ¬ O b := fun b hu ho => (hO b ho).1.elim (fun h => h.elim) (fun h => Nat.not_le_of_lt (ah0.ltp b hu) h)
    have d71 : ∀ b, inBlk az0_0 b → ¬ O b := fun b hu ho => (hO b ho).1.elim (fun h => h.elim) (fun h => Nat.not_le_of_lt (ah0_0.ltp b hu) h)
    have ha72 : ∀ b, b < w6.heap.size → ¬ (un (inBlk (Value.pointer (some ⟨p5, 0, none⟩))) (un (inBlk (Value.pointer (some ⟨p0, 0, none⟩))) (un (inBlk az0_0) S2))) b → ¬ nb b ∧ ¬ (un O (un (inBlk (Value.pointer (some ⟨p5, 0, none⟩))) (un (inBlk (Value.pointer (some ⟨p0, 0, none⟩))) (un (inBlk az0_0) S2)))) b := fun b hb hs => ⟨fun h => h, fun h => un_el h (fun ho => (hO b ho).1.elim (fun h => h.elim) (fun h => Nat.not_le_of_lt hb h)) (fun h => un_el h (fun h => hs (.inl h)) (fun h => un_el h (fun h => hs (.inr (.inl h))) (fun h => un_el h (fun h => hs (.inr (.inr (.inl h)))) (fun h => hs (.inr (.inr (.inr h)))))))⟩
    have ah0 := ah0.ch0 ck
    have ah0_0 := ah0_0.ch0 ck
    have gp1n : (G F Bb (un O (un (inBlk (Value.pointer (some ⟨p5, 0, none⟩))) (un (inBlk (Value.pointer (some ⟨p0, 0, none⟩))) (un (inBlk az0_0) S2))))) p1 := ⟨gp1.1, (ha72 _ k4.lt gp1.2).2⟩
    have k4 := k4.ch0 ck
    have gp1 := gp1n
    have k8 := k8.ch0 ck
    have c0 := c0.then0 ck
    refine rl_alloc (Tie.enc Tie.z) Try.zeroValue30 rfl rfl ?_
    intro p73 w74 n75 k76
    have lo77 : ∀ b, inBlk (Value.pointer (some ⟨p73, 0, none⟩)) b → w.heap.size ≤ b := fun b h => Nat.le_trans c0.size (n75.fresh b h)
    have d78 : ∀ b, inBlk (Value.pointer (some ⟨p73, 0, none⟩)) b → ¬ O b := disNew n75.fresh (fun b h => (hO b h).2)
    have d79 : ∀ b, inBlk (Value.pointer (some ⟨p73, 0, none⟩)) b → ¬ inBlk (Value.pointer (some ⟨p5, 0, none⟩)) b := disNew n75.fresh k8.ltp
    have d80 : ∀ b, inBlk (Value.pointer (some ⟨p73, 0, none⟩)) b → ¬ inBlk (Value.pointer (some ⟨p0, 0, none⟩)) b := disNew n75.fresh ah0.ltp
    have d81 : ∀ b, inBlk (Value.pointer (some ⟨p73, 0, none⟩)) b → ¬ inBlk az0_0 b := disNew n75.fresh ah0_0.ltp
    have ah0 := ah0.ch0 n75.ch
    have ah0_0 := ah0_0.ch0 n75.ch
    have gp1n : (G F Bb (un (inBlk (Value.pointer (some ⟨p73, 0, none⟩))) (un O (un (inBlk (Value.pointer (some ⟨p5, 0, none⟩))) (un (inBlk (Value.pointer (some ⟨p0, 0, none⟩))) (un (inBlk az0_0) S2)))))) p1 := ⟨gp1.1, ((admNew n75.fresh (fun _ x => x)) _ k4.lt gp1.2).2⟩
    have k4 := k4.ch0 n75.ch
    have gp1 := gp1n
    have k8 := k8.ch0 n75.ch
    have c0 := c0.then0 n75.ch
    have hb82 : ∀ b, (inBlk (Value.pointer (some ⟨p73, 0, none⟩))) b → wk.heap.size ≤ b ∧ b < w74.heap.size := fun b h => ⟨n75.fresh b h, k76.ltp b h⟩
    exact RL.nil ⟨_, (inBlk (Value.pointer (some ⟨p73, 0, none⟩))), rfl, hb82, n75.ch, ⟨p73, rfl, rfl, k76⟩⟩
   refine Each.consO ⟨fun _ O _ wx wy cc hh => by obtain ⟨p12, eh, e, rfl, ck10_0⟩ := hh; exact ⟨p12, eh, e, rfl, ck10_0.ch0 cc⟩, fun hv Op O wk hO ck hO0 => ?_⟩ ?_
   ·
    obtain ⟨hl, hB⟩ := hO0 rfl
    refine Need.made rfl rfl rfl rfl ?_
    rintro _ ⟨p12, e83, eO84, ck9_0⟩ hh85
    obtain rfl := e83.symm
    have io86 : ∀ b, inBlk (Value.pointer (some ⟨p12, 0, none⟩)) b → _ := fun b h => (Eq.mpr (congrFun eO84 b) h)
    have hf87 : ∀ b, inBlk (Value.pointer (some ⟨p12, 0, none⟩)) b → w6.heap.size ≤ b := fun b h => (hB.2.2.1 _ b (io86 b h)).1
    obtain rfl := hist_eq [(Value.pointer (some ⟨p12, 0, none⟩))] hv hl ⟨hh85, trivial⟩
    have lo88 : ∀ b, inBlk (Value.pointer (some ⟨p12, 0, none⟩)) b → w.heap.size ≤ b := fun b h => Nat.le_trans c0.size (hf87 b h)
    have d89 : ∀ b, inBlk (Value.pointer (some ⟨p12, 0, none⟩)) b → ¬ inBlk (Value.pointer (some ⟨p5, 0, none⟩)) b := disNew hf87 k8.ltp
    have d90 : ∀ b, inBlk (Value.pointer (some ⟨p12, 0, none⟩)) b → ¬ inBlk (Value.pointer (some ⟨p0, 0, none⟩)) b := disNew hf87 ah0.ltp
    have d91 : ∀ b, inBlk (Value.pointer (some ⟨p12, 0, none⟩)) b → ¬ inBlk az0_0 b := disNew hf87 ah0_0.ltp
    have ah0 := ah0.ch0 hB.2.1
    have ah0_0 := ah0_0.ch0 hB.2.1
    have gp1n : (G F Bb (un (inBlk (Value.pointer (some ⟨p12, 0, none⟩))) (un (inBlk (Value.pointer (some ⟨p5, 0, none⟩))) (un (inBlk (Value.pointer (some ⟨p0, 0, none⟩))) (un (inBlk az0_0) S2))))) p1 := ⟨gp1.1, ((show ∀ b, b < w6.heap.size → ¬ (un (inBlk (Value.pointer (some ⟨p5, 0, none⟩))) (un (inBlk (Value.pointer (some ⟨p0, 0, none⟩))) (un (inBlk az0_0) S2))) b → ¬ nb b ∧ ¬ (un (inBlk (Value.pointer (some ⟨p12, 0, none⟩))) (un (inBlk (Value.pointer (some ⟨p5, 0, none⟩))) (un (inBlk (Value.pointer (some ⟨p0, 0, none⟩))) (un (inBlk az0_0) S2)))) b from fun b hb hs => ⟨fun x => x, fun h => un_el h (fun h => Nat.not_le_of_lt hb (hf87 b h)) (fun h => hs h)⟩) _ k4.lt gp1.2).2⟩
    have k4 := k4.ch0 hB.2.1
    have gp1 := gp1n
    have k8 := k8.ch0 hB.2.1
    have c0 := c0.then0 hB.2.1
    refine Need.one rfl rfl rfl ?_
    rintro _ e92
    obtain rfl := e92.symm
    refine rl_storeA (vs := (Tie.enc ((mget a0.all a1).getD Tie.z))) rfl rfl (all_one rfl) Try.sizeOf30 rfl ck9_0 rfl ?_
    intro w93 s95 c94 k96
    have ad97 : ∀ b, b < wk.heap.size → ¬ (un (inBlk (Value.pointer (some ⟨p12, 0, none⟩))) (un (inBlk (Value.pointer (some ⟨p5, 0, none⟩))) (un (inBlk (Value.pointer (some ⟨p0, 0, none⟩))) (un (inBlk az0_0) S2)))) b → ¬ (inBlk (Value.pointer (some ⟨p12, 0, none⟩))) b ∧ ¬ (un (inBlk (Value.pointer (some ⟨p12, 0, none⟩))) (un (inBlk (Value.pointer (some ⟨p5, 0, none⟩))) (un (inBlk (Value.pointer (some ⟨p0, 0, none⟩))) (un (inBlk az0_0) S2)))) b := fun b _ hs => ⟨fun h => hs (.inl h), hs⟩
    have ah0 := ah0.ch c94 ((fun b hb h => (disSym d90) b hb h) _ rfl)
    have ah0_0 := ah0_0.ch c94 ((fun b hb h => (disSym d91) b hb h))
    have k4 := k4.ch c94 (ad97 _ k4.lt gp1.2).1
    have k8 := k8.ch c94 ((fun b hb h => (disSym d89) b hb h) _ rfl)
    have c0 := c0.then c94 (fun i hi h => absurd (lo88 i h) (Nat.not_le_of_lt hi))
    have hb98 : ∀ b, (inBlk (Value.pointer (some ⟨p12, 0, none⟩))) b → (O b ∨ wk.heap.size ≤ b) ∧ b < w93.heap.size := fun b h => ⟨.inl ((hB.1 b).2 (.inr ⟨_, inPre rfl, io86 b h⟩)), k96.ltp b h⟩
    exact RL.nil ⟨_, (inBlk (Value.pointer (some ⟨p12, 0, none⟩))), rfl, hb98, (c94.mono (fun b _ h => ((hB.1 b).2 (.inr ⟨_, inPre rfl, io86 b h⟩)))), ⟨p12, rfl, rfl, rfl, k96⟩⟩
   trivial
  ·
   intro hvO101 OpO101 O101 w99 hO102 c100 hN103
   have ol104 : ∀ b, inBlk (Value.pointer (some ⟨p5, 0, none⟩)) b → b < w6.heap.size := k8.ltp
   have ol105 : ∀ b, inBlk (Value.pointer (some ⟨p0, 0, none⟩)) b → b < w6.heap.size := ah0.ltp
   have ol106 : ∀ b, inBlk az0_0 b → b < w6.heap.size := ah0_0.ltp
   refine Need.hereN rfl rfl rfl rfl ?_
   rintro ⟨p12, rfl, _, rfl, ck10_0⟩
   have lo108 : ∀ b, inBlk (Value.pointer (some ⟨p12, 0, none⟩)) b → w.heap.size ≤ b := fun b h => (hO102 b h).1.elim (fun h => h.elim) (Nat.le_trans c0.size)
   have d109 : ∀ b, inBlk (Value.pointer (some ⟨p12, 0, none⟩)) b → ¬ inBlk (Value.pointer (some ⟨p5, 0, none⟩)) b := fun b h hu => (hO102 b h).1.elim (fun h => h.elim) (fun h => Nat.not_le_of_lt (ol104 b hu) h)
   have d110 : ∀ b, inBlk (Value.pointer (some ⟨p12, 0, none⟩)) b → ¬ inBlk (Value.pointer (some ⟨p0, 0, none⟩)) b := fun b h hu => (hO102 b h).1.elim (fun h => h.elim) (fun h => Nat.not_le_of_lt (ol105 b hu) h)
   have d111 : ∀ b, inBlk (Value.pointer (some ⟨p12, 0, none⟩)) b → ¬ inBlk az0_0 b := fun b h hu => (hO102 b h).1.elim (fun h => h.elim) (fun h => Nat.not_le_of_lt (ol106 b hu) h)
   have ha112 : ∀ b, b < w6.heap.size → ¬ (un (inBlk (Value.pointer (some ⟨p5, 0, none⟩))) (un (inBlk (Value.pointer (some ⟨p0, 0, none⟩))) (un (inBlk az0_0) S2))) b → ¬ nb b ∧ ¬ (un (inBlk (Value.pointer (some ⟨p12, 0, none⟩))) (un (inBlk (Value.pointer (some ⟨p5, 0, none⟩))) (un (inBlk (Value.pointer (some ⟨p0, 0, none⟩))) (un (inBlk az0_0) S2)))) b := fun b hb hs => ⟨fun h => h.elim, fun h => un_el h (fun h => (hO102 b h).1.elim (fun h => h.elim) (fun h => Nat.not_le_of_lt hb h)) (fun h => un_el h (fun h => hs (.inl h)) (fun h => un_el h (fun h => hs (.inr (.inl h))) (fun h => un_el h (fun h => hs (.inr (.inr (.inl h)))) (fun h => hs (.inr (.inr (.inr h)))))))⟩
   have ah0 := ah0.ch0 c100
   have ah0_0 := ah0_0.ch0 c100
   have gp1n : (G F Bb (un (inBlk (Value.pointer (some ⟨p12, 0, none⟩))) (un (inBlk (Value.pointer (some ⟨p5, 0, none⟩))) (un (inBlk (Value.pointer (some ⟨p0, 0, none⟩))) (un (inBlk az0_0) S2))))) p1 := ⟨gp1.1, (ha112 _ k4.lt gp1.2).2⟩
   have k4 := k4.ch0 c100
   have gp1 := gp1n
   have k8 := k8.ch0 c100
   have c0 := c0.then0 c100
   refine Need.one rfl rfl rfl ?_
   rintro _ e113
   obtain rfl := e113.symm
   refine rl_assign rfl rfl ?_
   refine RL.nil ?_
   refine thn_n ?_
   refine CW.seq (CW.region ?_)
   refine rl_move rfl rfl ?_
   refine rl_move rfl rfl ?_
   obtain ⟨b116, hb117⟩ : ∃ v, (((mget a0.all a1).isSome) || (decide (((a0.all.length : Nat) : Int) < 16))) = v := ⟨_, rfl⟩
   have hS := ltS hb117 hS
   refine RL.join 7 26 (.bool b116) (fun w' => Ch nb w99 w') ?_ ?_
   · rcases Bool.eq_false_or_eq_true ((mget a0.all a1).isSome) with hg115 | hg115
     ·
      have hs114 := or_t hg115 hb117
      have cs : Ch nb w99 w99 := Ch.refl
      refine RL.no rfl rfl rfl hg115 rfl rfl ?_
      refine RL.no rfl rfl rfl hg115 rfl rfl ?_
      refine RL.no rfl rfl rfl hg115 rfl rfl ?_
      refine RL.no rfl rfl rfl hg115 rfl rfl ?_
      refine RL.no rfl rfl rfl hg115 rfl rfl ?_
      refine RL.no rfl rfl rfl hg115 rfl rfl ?_
      refine rl_pickT rfl hg115 rfl rfl ?_
      exact RL.nil ⟨Ext.bothEq (congrArg Value.bool hs114) (Ext.skip rfl (Ext.skip rfl (Ext.skip rfl (Ext.skip rfl (Ext.skip rfl (Ext.skip rfl (Ext.rfl'))))))), cs⟩
     ·
      have hs114 := or_f hg115 hb117
      have cs : Ch nb w99 w99 := Ch.refl
      refine RL.yes rfl rfl rfl hg115 ?_
      refine rl_move rfl rfl ?_
      refine RL.yes rfl rfl rfl hg115 ?_
      refine rl_nilCheck rfl rfl ?_
      refine RL.yes rfl rfl rfl hg115 ?_
      refine rl_fieldAddr rfl fa69_0 rfl ?_
      refine RL.yes rfl rfl rfl hg115 ?_
      refine rl_loadS (v := az0_0) rfl Try.isAgg67 (ah0.cell rfl) rfl ?_
      refine RL.yes rfl rfl rfl hg115 ?_
      refine rl_lenMap rfl ah0_0 Try.underlying67 rfl ?_
      refine RL.yes rfl rfl rfl hg115 ?_
      refine rl_bin rfl rfl B.lss rfl ?_
      refine rl_pickF rfl hg115 rfl rfl ?_
      exact RL.nil ⟨Ext.bothEq (congrArg Value.bool hs114) (Ext.skip rfl (Ext.skip rfl (Ext.skip rfl (Ext.skip rfl (Ext.skip rfl (Ext.skip rfl (Ext.rfl'))))))), cs⟩
   intro w118 c119
   have ah0 := ah0.ch0 c119
   have ah0_0 := ah0_0.ch0 c119
   have k4 := k4.ch0 c119
   have k8 := k8.ch0 c119
   have ck10_0 := ck10_0.ch0 c119
   have c0 := c0.then0 c119
   refine RL.nil ?_
   refine thn_n ?_
   refine CW.cond (t := b116) rfl (fun q120 => ?_) (fun q120 => ?_)
   ·
    have hS := ifT q120 hS
    refine CW.seq (CW.region ?_)
    refine rl_build (out := (Tie.enc ({ client := Addr.z, service := Key.z, name := ⟨#[]⟩, localF := false, backend := Point.z, last := 0 } : Tie))) rfl pl30 Try.zeroValue30 rfl rfl rfl ?_
    refine rl_storeA (vs := (Tie.enc ({ client := Addr.z, service := Key.z, name := ⟨#[]⟩, localF := false, backend := Point.z, last := 0 } : Tie))) rfl rfl (all_one rfl) Try.sizeOf30 rfl k8 rfl ?_
    intro w121 s123 c122 k124
    have ad125 : ∀ b, b < w118.heap.size → ¬ (un (inBlk (Value.pointer (some ⟨p12, 0, none⟩))) (un (inBlk (Value.pointer (some ⟨p5, 0, none⟩))) (un (inBlk (Value.pointer (some ⟨p0, 0, none⟩))) (un (inBlk az0_0) S2)))) b → ¬ (inBlk (Value.pointer (some ⟨p5, 0, none⟩))) b ∧ ¬ (un (inBlk (Value.pointer (some ⟨p12, 0, none⟩))) (un (inBlk (Value.pointer (some ⟨p5, 0, none⟩))) (un (inBlk (Value.pointer (some ⟨p0, 0, none⟩))) (un (inBlk az0_0) S2)))) b := fun b _ hs => ⟨fun h => hs (.inr (.inl h)), hs⟩
    have ah0 := ah0.ch c122 ((fun b hb h => (disSym d10) b hb h) _ rfl)
    have ah0_0 := ah0_0.ch c122 ((fun b hb h => (disSym d11) b hb h))
    have k4 := k4.ch c122 (ad125 _ k4.lt gp1.2).1
    have ck10_0 := ck10_0.ch c122 ((fun b hb h => d109 b hb h) _ rfl)
    have c0 := c0.then c122 (fun i hi h => absurd (lo9 i h) (Nat.not_le_of_lt hi))
    refine rl_assign rfl rfl ?_
    refine RL.nil ?_
    refine thn_n ?_
    refine CW.ret ?_
    refine thn_ret ?_
    obtain rfl := Option.some.inj hS
    exact ⟨[_, _], ⟨Res1.agg (cs := (Tie.enc ({ client := Addr.z, service := Key.z, name := ⟨#[]⟩, localF := false, backend := Point.z, last := 0 } : Tie))) rfl Try.isAgg30 Try.sizeOf30 (k124.segAt 0 40) rfl, rfl, trivial⟩, ⟨rfl, c0⟩⟩
   ·
    have hS := ifF q120 hS
    exact nomatch hS
/-- (*lb/ties.Ties).Put -/
theorem ctr19 (F : Nat → Prop) (w : World) (Bb : Nat) (S2 : Nat → Prop) (hB : Bb ≤ w.heap.size) (h2 : ∀ b, S2 b → b < w.heap.size) (p0 : Nat) (az0_0 : Value) (hd2 : ∀ b, (un (inBlk (Value.pointer (some ⟨p0, 0, none⟩))) (inBlk az0_0)) b → ¬ S2 b) (hx0_1 : ∀ b, inBlk (Value.pointer (some ⟨p0, 0, none⟩)) b → ¬ inBlk az0_0 b) (a0 : Ties) (ah0 : Blk w p0 69 (Ties.c a0 az0_0)) (ah0_0 : Mp (fun x => Value.agg (Place.enc x).toArray) (fun x => Value.agg (Tie.enc x).toArray) w a0.all az0_0) (a1 : Tie) (a2 : Int) (r : (Tie × Bool × Ties)) (hs : F19_ties_Ties_Put a0 a1 a2 = some r) :
    Ret Try.prog 19 #[(Value.pointer (some ⟨p0, 0, none⟩)), (Value.agg (Tie.enc a1).toArray), (Value.int .i64 a2)] w fun v w' => ∃ (nz0_0 : Value), v = Value.tuple #[(Value.agg (Tie.enc r.1).toArray), (Value.bool r.2.1)] ∧ Blk w' p0 69 (Ties.c r.2.2 nz0_0) ∧ Mp (fun x => Value.agg (Place.enc x).toArray) (fun x => Value.agg (Tie.enc x).toArray) w' r.2.2.all nz0_0 ∧ (∀ b, inBlk nz0_0 b → (un (inBlk (Value.pointer (some ⟨p0, 0, none⟩))) (inBlk az0_0)) b ∨ w.heap.size ≤ b) ∧ (∀ b, inBlk (Value.pointer (some ⟨p0, 0, none⟩)) b → ¬ inBlk nz0_0 b) ∧ Ch (un (inBlk (Value.pointer (some ⟨p0, 0, none⟩))) (inBlk az0_0)) w w' := by
  have hS := hs
  have c0 : Ch (un (inBlk (Value.pointer (some ⟨p0, 0, none⟩))) (inBlk az0_0)) w w := Ch.refl
  have lin0_0 : ∀ b, inBlk (Value.pointer (some ⟨p0, 0, none⟩)) b → (un (inBlk (Value.pointer (some ⟨p0, 0, none⟩))) (inBlk az0_0)) b ∨ w.heap.size ≤ b := fun b h => .inl (.inl h)
  have lin1_0 : ∀ b, inBlk az0_0 b → (un (inBlk (Value.pointer (some ⟨p0, 0, none⟩))) (inBlk az0_0)) b ∨ w.heap.size ≤ b := fun b h => .inl (.inr h)
  refine Ret.of (n := 28) (args := [_, _, _]) (rs := [.cell 6 30, .tmp 7]) Try.func19 rfl rfl rfl rfl ?_
  refine CW.seq (CW.region ?_)
  refine rl_boxA (cs := (Tie.enc a1)) rfl rfl ?_
  intro p1 w2 n3 k4
  have lo5 : ∀ b, inBlk (Value.pointer (some ⟨p1, 0, none⟩)) b → w.heap.size ≤ b := fun b h => Nat.le_trans c0.size (n3.fresh b h)
  have d6 : ∀ b, inBlk (Value.pointer (some ⟨p1, 0, none⟩)) b → ¬ inBlk (Value.pointer (some ⟨p0, 0, none⟩)) b := disNew n3.fresh ah0.ltp
  have d7 : ∀ b, inBlk (Value.pointer (some ⟨p1, 0, none⟩)) b → ¬ inBlk az0_0 b := disNew n3.fresh ah0_0.ltp
  have ah0 := ah0.ch0 n3.ch
  have ah0_0 := ah0_0.ch0 n3.ch
  have c0 := c0.then0 n3.ch
  refine rl_alloc (Tie.enc Tie.z) Try.zeroValue30 rfl rfl ?_
  intro p8 w9 n10 k11
  have lo12 : ∀ b, inBlk (Value.pointer (some ⟨p8, 0, none⟩)) b → w.heap.size ≤ b := fun b h => Nat.le_trans c0.size (n10.fresh b h)
  have d13 : ∀ b, inBlk (Value.pointer (some ⟨p8, 0, none⟩)) b → ¬ inBlk (Value.pointer (some ⟨p1, 0, none⟩)) b := disNew n10.fresh k4.ltp
  have d14 : ∀ b, inBlk (Value.pointer (some ⟨p8, 0, none⟩)) b → ¬ inBlk (Value.pointer (some ⟨p0, 0, none⟩)) b := disNew n10.fresh ah0.ltp
  have d15 : ∀ b, inBlk (Value.pointer (some ⟨p8, 0, none⟩)) b → ¬ inBlk az0_0 b := disNew n10.fresh ah0_0.ltp
  have ah0 := ah0.ch0 n10.ch
  have ah0_0 := ah0_0.ch0 n10.ch
  have k4 := k4.ch0 n10.ch
  have c0 := c0.then0 n10.ch
  refine rl_assign rfl rfl ?_
  refine RL.nil ?_
  refine thn_n ?_
  refine CW.seq (CW.region ?_)
  refine rl_move rfl rfl ?_
  refine rl_loadA (cs := (Tie.enc a1)) rfl Try.isAgg30 Try.sizeOf30 (k4.segAt 0 40) rfl rfl ?_
  obtain ⟨y18, hy19⟩ : ∃ y, F35_ties_Tie_place a1 = y := ⟨_, rfl⟩
  have hS := ltS hy19 hS
  refine rl_callF rfl en35 rfl (ctr35 (G F Bb (un (inBlk (Value.pointer (some ⟨p8, 0, none⟩))) (un (inBlk (Value.pointer (some ⟨p1, 0, none⟩))) (un (inBlk (Value.pointer (some ⟨p0, 0, none⟩))) (un (inBlk az0_0) S2))))) w9 a1 y18 hy19) ?_
  rintro _ w16 ⟨rfl, c17⟩
  have ah0 := ah0.ch0 c17
  have ah0_0 := ah0_0.ch0 c17
  have k4 := k4.ch0 c17
  have k11 := k11.ch0 c17
  have c0 := c0.then0 c17
  have hd20 : ∀ b, (un (inBlk (Value.pointer (some ⟨p0, 0, none⟩))) (inBlk az0_0)) b → ¬ (un (inBlk (Value.pointer (some ⟨p8, 0, none⟩))) (un (inBlk (Value.pointer (some ⟨p1, 0, none⟩))) S2)) b := fun b h => un_el h (fun h => (fun b hb => fun h => un_el h (fun h => (disSym d14) b hb h) (fun h => un_el h (fun h => (disSym d6) b hb h) (linNot lin0_0 hd2 h2 b hb))) b h) (fun h => (fun b hb => fun h => un_el h (fun h => (disSym d15) b hb h) (fun h => un_el h (fun h => (disSym d7) b hb h) (linNot lin1_0 hd2 h2 b hb))) b h)
  have hS21 : (un (inBlk (Value.pointer (some ⟨p8, 0, none⟩))) (un (inBlk (Value.pointer (some ⟨p1, 0, none⟩))) (un (inBlk (Value.pointer (some ⟨p0, 0, none⟩))) (un (inBlk az0_0) S2)))) = (un (inBlk (Value.pointer (some ⟨p0, 0, none⟩))) (un (inBlk az0_0) (un (inBlk (Value.pointer (some ⟨p8, 0, none⟩))) (un (inBlk (Value.pointer (some ⟨p1, 0, none⟩))) S2)))) := funext fun b => propext ⟨fun h => un_el h (fun h => (.inr (.inr (.inl h)))) (fun h => un_el h (fun h => (.inr (.inr (.inr (.inl h))))) (fun h => un_el h (fun h => (.inl h)) (fun h => un_el h (fun h => (.inr (.inl h))) (fun h => (.inr (.inr (.inr (.inr h)))))))), fun h => un_el h (fun h => (.inr (.inr (.inl h)))) (fun h => un_el h (fun h => (.inr (.inr (.inr (.inl h))))) (fun h => un_el h (fun h => (.inl h)) (fun h => un_el h (fun h => (.inr (.inl h))) (fun h => (.inr (.inr (.inr (.inr h))))))))⟩
  obtain ⟨y24, hy25, hS⟩ := bindS hS
  refine rl_callF rfl en37 rfl (ctr37 F w16 Bb (un (inBlk (Value.pointer (some ⟨p8, 0, none⟩))) (un (inBlk (Value.pointer (some ⟨p1, 0, none⟩))) S2)) (Nat.le_trans hB c0.size) (un_lt k11.ltp (un_lt k4.ltp (fun b h => Nat.lt_of_lt_of_le (h2 b h) c0.size))) p0 az0_0 hd20 hx0_1 a0 ah0 ah0_0 y18 y24 hy25) ?_
  rintro _ w22 ⟨rfl, c23⟩
  have ah0 := ah0.ch0 c23
  have ah0_0 := ah0_0.ch0 c23
  have k4 := k4.ch0 c23
  have k11 := k11.ch0 c23
  have c0 := c0.then0 c23
  refine rl_move rfl rfl ?_
  refine rl_extract rfl rfl rfl ?_
  refine rl_extract rfl rfl rfl ?_
  refine rl_alloc (Tie.enc Tie.z) Try.zeroValue30 rfl rfl ?_
  intro p26 w27 n28 k29
  have lo30 : ∀ b, inBlk (Value.pointer (some ⟨p26, 0, none⟩)) b → w.heap.size ≤ b := fun b h => Nat.le_trans c0.size (n28.fresh b h)
  have d31 : ∀ b, inBlk (Value.pointer (some ⟨p26, 0, none⟩)) b → ¬ inBlk (Value.pointer (some ⟨p8, 0, none⟩)) b := disNew n28.fresh k11.ltp
  have d32 : ∀ b, inBlk (Value.pointer (some ⟨p26, 0, none⟩)) b → ¬ inBlk (Value.pointer (some ⟨p1, 0, none⟩)) b := disNew n28.fresh k4.ltp
  have d33 : ∀ b, inBlk (Value.pointer (some ⟨p26, 0, none⟩)) b → ¬ inBlk (Value.pointer (some ⟨p0, 0, none⟩)) b := disNew n28.fresh ah0.ltp
  have d34 : ∀ b, inBlk (Value.pointer (some ⟨p26, 0, none⟩)) b → ¬ inBlk az0_0 b := disNew n28.fresh ah0_0.ltp
  have ah0 := ah0.ch0 n28.ch
  have ah0_0 := ah0_0.ch0 n28.ch
  have k4 := k4.ch0 n28.ch
  have k11 := k11.ch0 n28.ch
  have c0 := c0.then0 n28.ch
  refine rl_storeA (vs := (Tie.enc y24.1)) rfl rfl (all_one rfl) Try.sizeOf30 rfl k29 rfl ?_
  intro w35 s37 c36 k38
  have ad39 : ∀ b, b < w27.heap.size → ¬ (un (inBlk (Value.pointer (some ⟨p26, 0, none⟩))) (un (inBlk (Value.pointer (some ⟨p8, 0, none⟩))) (un (inBlk (Value.pointer (some ⟨p1, 0, none⟩))) (un (inBlk (Value.pointer (some ⟨p0, 0, none⟩))) (un (inBlk az0_0) S2))))) b → ¬ (inBlk (Value.pointer (some ⟨p26, 0, none⟩))) b ∧ ¬ (un (inBlk (Value.pointer (some ⟨p26, 0, none⟩))) (un (inBlk (Value.pointer (some ⟨p8, 0, none⟩))) (un (inBlk (Value.pointer (some ⟨p1, 0, none⟩))) (un (inBlk (Value.pointer (some ⟨p0, 0, none⟩))) (un (inBlk az0_0) S2))))) b := fun b _ hs => ⟨fun h => hs (.inl h), hs⟩
  have ah0 := ah0.ch c36 ((fun b hb h => (disSym d33) b hb h) _ rfl)
  have ah0_0 := ah0_0.ch c36 ((fun b hb h => (disSym d34) b hb h))
  have k4 := k4.ch c36 ((fun b hb h => (disSym d32) b hb h) _ rfl)
  have k11 := k11.ch c36 ((fun b hb h => (disSym d31) b hb h) _ rfl)
  have c0 := c0.then c36 (fun i hi h => absurd (lo30 i h) (Nat.not_le_of_lt hi))
  refine rl_assign rfl rfl ?_
  refine RL.nil ?_
  refine thn_n ?_
  refine CW.seq (CW.region ?_)
  refine rl_move rfl rfl ?_
  refine rl_fieldAddr rfl fa30_5 rfl ?_
  refine rl_storeS (u := (Value.int .i64 a2)) rfl rfl ⟨rfl, rfl⟩ Try.sizeOf3 k4 rfl ?_
  intro w40 s42 c41 k43
  have ad44 : ∀ b, b < w35.heap.size → ¬ (un (inBlk (Value.pointer (some ⟨p26, 0, none⟩))) (un (inBlk (Value.pointer (some ⟨p8, 0, none⟩))) (un (inBlk (Value.pointer (some ⟨p1, 0, none⟩))) (un (inBlk (Value.pointer (some ⟨p0, 0, none⟩))) (un (inBlk az0_0) S2))))) b → ¬ (inBlk (Value.pointer (some ⟨p1, 0, none⟩))) b ∧ ¬ (un (inBlk (Value.pointer (some ⟨p26, 0, none⟩))) (un (inBlk (Value.pointer (some ⟨p8, 0, none⟩))) (un (inBlk (Value.pointer (some ⟨p1, 0, none⟩))) (un (inBlk (Value.pointer (some ⟨p0, 0, none⟩))) (un (inBlk az0_0) S2))))) b := fun b _ hs => ⟨fun h => hs (.inr (.inr (.inl h))), hs⟩
  have ah0 := ah0.ch c41 ((fun b hb h => (disSym d6) b hb h) _ rfl)
  have ah0_0 := ah0_0.ch c41 ((fun b hb h => (disSym d7) b hb h))
  have k11 := k11.ch c41 ((fun b hb h => d13 b hb h) _ rfl)
  have k38 := k38.ch c41 ((fun b hb h => d32 b hb h) _ rfl)
  have c0 := c0.then c41 (fun i hi h => absurd (lo5 i h) (Nat.not_le_of_lt hi))
  refine RL.nil ?_
  refine thn_n ?_
  refine CW.seq ?_
  obtain ⟨y47, hy48⟩ : ∃ y, F35_ties_Tie_place ({ client := a1.client, service := a1.service, name := a1.name, localF := a1.localF, backend := a1.backend, last := a2 } : Tie) = y := ⟨_, rfl⟩
  have hS := ltS hy48 hS
  refine CW.draw 7 [(none, fun _ O uu wx => uu = (Value.pointer (some ⟨p0, 0, none⟩))), (none, fun _ O uu wx => uu = (Value.pointer (some ⟨p0, 0, none⟩))), (none, fun _ O uu wx => uu = (Value.pointer (some ⟨p0, 0, none⟩))), (none, fun _ O uu wx => uu = az0_0), (none, fun _ O uu wx => uu = (Value.agg (Tie.enc ({ client := a1.client, service := a1.service, name := a1.name, localF := a1.localF, backend := a1.backend, last := a2 } : Tie)).toArray)), (none, fun _ O uu wx => uu = (Value.agg (Place.enc y47).toArray)), (none, fun _ O uu wx => uu = (Value.agg (Tie.enc ({ client := a1.client, service := a1.service, name := a1.name, localF := a1.localF, backend := a1.backend, last := a2 } : Tie)).toArray))] [[], [0], [1], [2], [], [4], []] [3, 5, 6] nb (fun _ h => h.elim) mixed rfl rfl rfl rfl ?_ ?_
  ·
   refine Each.consA ⟨fun _ _ _ _ _ _ h => h, fun h => absurd rfl h, fun O wk hO ck => ?_⟩ ?_
   ·
    have ah0 := ah0.ch0 ck
    have ah0_0 := ah0_0.ch0 ck
    have k11 := k11.ch0 ck
    have k38 := k38.ch0 ck
    have k43 := k43.ch0 ck
    have c0 := c0.then0 ck
    refine rl_move rfl rfl ?_
    exact RL.nil ⟨_, rfl, Ch.refl, rfl⟩
   refine Each.consA ⟨fun _ _ _ _ _ _ h => h, fun h => absurd rfl h, fun O wk hO ck => ?_⟩ ?_
   ·
    have ah0 := ah0.ch0 ck
    have ah0_0 := ah0_0.ch0 ck
    have k11 := k11.ch0 ck
    have k38 := k38.ch0 ck
    have k43 := k43.ch0 ck
    have c0 := c0.then0 ck
    refine Need.one rfl rfl rfl ?_
    rintro _ e53
    obtain rfl := e53.symm
    refine rl_nilCheck rfl rfl ?_
    exact RL.nil ⟨_, rfl, Ch.refl, rfl⟩
   refine Each.consA ⟨fun _ _ _ _ _ _ h => h, fun h => absurd rfl h, fun O wk hO ck => ?_⟩ ?_
   ·
    have ah0 := ah0.ch0 ck
    have ah0_0 := ah0_0.ch0 ck
    have k11 := k11.ch0 ck
    have k38 := k38.ch0 ck
    have k43 := k43.ch0 ck
    have c0 := c0.then0 ck
    refine Need.one rfl rfl rfl ?_
    rintro _ e54
    obtain rfl := e54.symm
    refine rl_fieldAddr rfl fa69_0 rfl ?_
    exact RL.nil ⟨_, rfl, Ch.refl, rfl⟩
   refine Each.consA ⟨fun _ _ _ _ _ _ h => h, fun h => absurd rfl h, fun O wk hO ck => ?_⟩ ?_
   ·
    have ah0 := ah0.ch0 ck
    have ah0_0 := ah0_0.ch0 ck
    have k11 := k11.ch0 ck
    have k38 := k38.ch0 ck
    have k43 := k43.ch0 ck
    have c0 := c0.then0 ck
    refine Need.one rfl rfl rfl ?_
    rintro _ e55
    obtain rfl := e55.symm
    refine rl_loadS (v := az0_0) rfl Try.isAgg67 (ah0.cell rfl) rfl ?_
    exact RL.nil ⟨_, rfl, Ch.refl, rfl⟩
   refine Each.consA ⟨fun _ _ _ _ _ _ h => h, fun h => absurd rfl h, fun O wk hO ck => ?_⟩ ?_
   ·
    have ah0 := ah0.ch0 ck
    have ah0_0 := ah0_0.ch0 ck
    have k11 := k11.ch0 ck
    have k38 := k38.ch0 ck
    have k43 := k43.ch0 ck
    have c0 := c0.then0 ck
    refine rl_loadA (cs := (Tie.enc ({ client := a1.client, service := a1.service, name := a1.name, localF := a1.localF, backend := a1.backend, last := a2 } : Tie))) rfl Try.isAgg30 Try.sizeOf30 (k43.segAt 0 40) rfl rfl ?_
    exact RL.nil ⟨_, rfl, Ch.refl, rfl⟩
   refine Each.consA ⟨fun _ _ _ _ _ _ h => h, fun h => absurd rfl h, fun O wk hO ck => ?_⟩ ?_
   ·
    have ah0 := ah0.ch0 ck
    have ah0_0 := ah0_0.ch0 ck
    have k11 := k11.ch0 ck
    have k38 := k38.ch0 ck
    have k43 := k43.ch0 ck
    have c0 := c0.then0 ck
    refine Need.one rfl rfl rfl ?_
    rintro _ e56
    obtain rfl := e56.symm
    refine rl_callF rfl en35 rfl (ctr35 (G F Bb (un (inBlk (Value.pointer (some ⟨p26, 0, none⟩))) (un (inBlk (Value.pointer (some ⟨p8, 0, none⟩))) (un (inBlk (Value.pointer (some ⟨p1, 0, none⟩))) (un (inBlk (Value.pointer (some ⟨p0, 0, none⟩))) (un (inBlk az0_0) S2)))))) wk ({ client := a1.client, service := a1.service, name := a1.name, localF := a1.localF, backend := a1.backend, last := a2 } : Tie) y47 hy48) ?_
    rintro _ w57 ⟨rfl, c58⟩
    have ah0 := ah0.ch0 c58
    have ah0_0 := ah0_0.ch0 c58
    have k11 := k11.ch0 c58
    have k38 := k38.ch0 c58
    have k43 := k43.ch0 c58
    have c0 := c0.then0 c58
    exact RL.nil ⟨_, rfl, c58, rfl⟩
   refine Each.consA ⟨fun _ _ _ _ _ _ h => h, fun h => absurd rfl h, fun O wk hO ck => ?_⟩ ?_
   ·
    have ah0 := ah0.ch0 ck
    have ah0_0 := ah0_0.ch0 ck
    have k11 := k11.ch0 ck
    have k38 := k38.ch0 ck
    have k43 := k43.ch0 ck
    have c0 := c0.then0 ck
    refine rl_loadA (cs := (Tie.enc ({ client := a1.client, service := a1.service, name := a1.name, localF := a1.localF, backend := a1.backend, last := a2 } : Tie))) rfl Try.isAgg30 Try.sizeOf30 (k43.segAt 0 40) rfl rfl ?_
    exact RL.nil ⟨_, rfl, Ch.refl, rfl⟩
   trivial
  ·
   intro hvO61 OpO61 O61 w59 hO62 c60 hN63
   have ah0 := ah0.ch0 c60
   have ah0_0 := ah0_0.ch0 c60
   have k11 := k11.ch0 c60
   have k38 := k38.ch0 c60
   have k43 := k43.ch0 c60
   have c0 := c0.then0 c60
   refine Need.one rfl rfl rfl ?_
   rintro _ e64
   obtain rfl := e64.symm
   refine Need.one rfl rfl rfl ?_
   rintro _ e65
   obtain rfl := e65.symm
   refine Need.one rfl rfl rfl ?_
   rintro _ e66
   obtain rfl := e66.symm
   refine rl_mapUpdate y47 ({ client := a1.client, service := a1.service, name := a1.name, localF := a1.localF, backend := a1.backend, last := a2 } : Tie) rfl rfl rfl ah0_0 rfl rfl kt79 Try.underlying67 ?_
   intro w67 c68 h69
   have ad70 : ∀ b, b < w59.heap.size → ¬ (un (inBlk (Value.pointer (some ⟨p26, 0, none⟩))) (un (inBlk (Value.pointer (some ⟨p8, 0, none⟩))) (un (inBlk (Value.pointer (some ⟨p1, 0, none⟩))) (un (inBlk (Value.pointer (some ⟨p0, 0, none⟩))) (un (inBlk az0_0) S2))))) b → ¬ (inBlk az0_0) b ∧ ¬ (un (inBlk (Value.pointer (some ⟨p26, 0, none⟩))) (un (inBlk (Value.pointer (some ⟨p8, 0, none⟩))) (un (inBlk (Value.pointer (some ⟨p1, 0, none⟩))) (un (inBlk (Value.pointer (some ⟨p0, 0, none⟩))) (un (inBlk az0_0) S2))))) b := fun b _ hs => ⟨fun h => hs (.inr (.inr (.inr (.inr (.inl h))))), hs⟩
   have ah0 := ah0.ch c68 ((fun b hb h => hx0_1 b hb h) _ rfl)
   have k11 := k11.ch c68 ((fun b hb h => d15 b hb h) _ rfl)
   have k38 := k38.ch c68 ((fun b hb h => d34 b hb h) _ rfl)
   have k43 := k43.ch c68 ((fun b hb h => d7 b hb h) _ rfl)
   have c0 := c0.then c68 (fun i hi h => (lin1_0 i h).elim (fun x => x) (fun x => absurd x (Nat.not_le_of_lt hi)))
   refine RL.nil ?_
   refine thn_n ?_
   refine CW.seq (CW.region ?_)
   refine rl_loadA (cs := (Tie.enc y24.1)) rfl Try.isAgg30 Try.sizeOf30 (k38.segAt 0 40) rfl rfl ?_
   refine rl_move rfl rfl ?_
   refine rl_storeA (vs := (Tie.enc y24.1)) rfl rfl (all_one rfl) Try.sizeOf30 rfl k11 rfl ?_
   intro w71 s73 c72 k74
   have ad75 : ∀ b, b < w67.heap.size → ¬ (un (inBlk (Value.pointer (some ⟨p26, 0, none⟩))) (un (inBlk (Value.pointer (some ⟨p8, 0, none⟩))) (un (inBlk (Value.pointer (some ⟨p1, 0, none⟩))) (un (inBlk (Value.pointer (some ⟨p0, 0, none⟩))) (un (inBlk az0_0) S2))))) b → ¬ (inBlk (Value.pointer (some ⟨p8, 0, none⟩))) b ∧ ¬ (un (inBlk (Value.pointer (some ⟨p26, 0, none⟩))) (un (inBlk (Value.pointer (some ⟨p8, 0, none⟩))) (un (inBlk (Value.pointer (some ⟨p1, 0, none⟩))) (un (inBlk (Value.pointer (some ⟨p0, 0, none⟩))) (un (inBlk az0_0) S2))))) b := fun b _ hs => ⟨fun h => hs (.inr (.inl h)), hs⟩
   have ah0 := ah0.ch c72 ((fun b hb h => (disSym d14) b hb h) _ rfl)
   have k38 := k38.ch c72 ((fun b hb h => d31 b hb h) _ rfl)
   have k43 := k43.ch c72 ((fun b hb h => (disSym d13) b hb h) _ rfl)
   have h69 := h69.ch c72 ((fun b hb h => (disSym d15) b hb h))
   have c0 := c0.then c72 (fun i hi h => absurd (lo12 i h) (Nat.not_le_of_lt hi))
   refine rl_assign rfl rfl ?_
   refine RL.nil ?_
   refine thn_n ?_
   refine CW.ret ?_
   obtain rfl := Option.some.inj hS
   have crf : Ch nb w71 w71 := Ch.refl
   have ah0 := ah0.ch0 crf
   have k43 := k43.ch0 crf
   have h69 := h69.ch0 crf
   have k74 := k74.ch0 crf
   have c0 := c0.then0 crf
   have crf : Ch nb w71 w71 := Ch.refl
   have ah0 := ah0.ch0 crf
   have k43 := k43.ch0 crf
   have h69 := h69.ch0 crf
   have c0 := c0.then0 crf
   have crf : Ch nb w71 w71 := Ch.refl
   have ah0 := ah0.ch0 crf
   have h69 := h69.ch0 crf
   have c0 := c0.then0 crf
   exact ⟨[_, _], ⟨Res1.agg (cs := (Tie.enc y24.1)) rfl Try.isAgg30 Try.sizeOf30 (k74.segAt 0 40) rfl, rfl, trivial⟩, ⟨az0_0, rfl, ah0, h69, lin1_0, hx0_1, c0⟩⟩
/-- lb/ties.Fresh -/
theorem ctr7 (F : Nat → Prop) (w : World) (a0 : Tie) (a1 : Int) (a2 : Int) (r : Bool) (hs : F7_ties_Fresh a0 a1 a2 = r) :
    Ret Try.prog 7 #[(Value.agg (Tie.enc a0).toArray), (Value.int .i64 a1), (Value.int .i64 a2)] w fun v w' => v = (Value.bool r) ∧ Ch nb w w' := by
  have hS := hs
  have c0 : Ch nb w w := Ch.refl
  refine Ret.of (n := 26) (args := [_, _, _]) (rs := [.tmp 6]) Try.func7 rfl rfl rfl rfl ?_
  refine CW.seq (CW.region ?_)
  refine rl_boxA (cs := (Tie.enc a0)) rfl rfl ?_
  intro p1 w2 n3 k4
  have gp1 : (G F w.heap.size nb) p1 := ⟨.inr (by rw [n3.eq]; exact c0.size), fun h => absurd (nbS _ h) (by rw [n3.eq]; exact Nat.lt_irrefl _)⟩
  have c0 := c0.then0 n3.ch
  refine rl_assign rfl rfl ?_
  refine RL.nil ?_
  refine thn_n ?_
  refine CW.seq ?_
  refine CW.seq (CW.region ?_)
  refine rl_move rfl rfl ?_
  refine rl_fieldAddr rfl fa30_5 rfl ?_
  refine rl_loadS (v := (Value.int .i64 a0.last)) rfl Try.isAgg3 (k4.cell rfl) rfl ?_
  refine rl_bin rfl rfl B.lss rfl ?_
  refine RL.nil ?_
  refine thn_n ?_
  refine CW.cond (t := decide (a2 < a0.last)) rfl (fun q5 => ?_) (fun q5 => ?_)
  ·
   have hS := ifT q5 hS
   refine CW.region ?_
   refine rl_fieldAddr rfl fa30_5 rfl ?_
   refine rl_loadS (v := (Value.int .i64 a0.last)) rfl Try.isAgg3 (k4.cell rfl) rfl ?_
   refine rl_assign rfl rfl ?_
   refine RL.nil ?_
   refine thn_n ?_
   refine CW.seq (CW.region ?_)
   refine rl_move rfl rfl ?_
   refine rl_bin rfl rfl B.gtr rfl ?_
   refine rl_move rfl rfl ?_
   obtain ⟨b8, hb9⟩ : ∃ v, ((decide (a1 > 0)) && (decide ((IntKind.u64.wrap ((IntKind.u64.wrap a0.last) - (IntKind.u64.wrap a0.last))) < (IntKind.u64.wrap a1)))) = v := ⟨_, rfl⟩
   have hS := ltS hb9 hS
   refine RL.join 10 25 (.bool b8) (fun w' => Ch nb w2 w') ?_ ?_
   · rcases Bool.eq_false_or_eq_true (decide (a1 > 0)) with hg7 | hg7
     ·
      have hs6 := and_t hg7 hb9
      have cs : Ch nb w2 w2 := Ch.refl
      refine RL.yes rfl rfl rfl hg7 ?_
      refine rl_move rfl rfl ?_
      refine RL.yes rfl rfl rfl hg7 ?_
      refine rl_convInt rfl ⟨_, Try.underlying3⟩ Try.underlying60 rfl ?_
      refine RL.yes rfl rfl rfl hg7 ?_
      refine rl_fieldAddr rfl fa30_5 rfl ?_
      refine RL.yes rfl rfl rfl hg7 ?_
      refine rl_loadS (v := (Value.int .i64 a0.last)) rfl Try.isAgg3 (k4.cell rfl) rfl ?_
      refine RL.yes rfl rfl rfl hg7 ?_
      refine rl_convInt rfl ⟨_, Try.underlying3⟩ Try.underlying60 rfl ?_
      refine RL.yes rfl rfl rfl hg7 ?_
      refine rl_bin rfl rfl B.sub rfl ?_
      refine RL.yes rfl rfl rfl hg7 ?_
      refine rl_move rfl rfl ?_
      refine RL.yes rfl rfl rfl hg7 ?_
      refine rl_convInt rfl ⟨_, Try.underlying3⟩ Try.underlying60 rfl ?_
      refine RL.yes rfl rfl rfl hg7 ?_
      refine rl_bin rfl rfl B.lss rfl ?_
      refine rl_pickT rfl hg7 rfl rfl ?_
      exact RL.nil ⟨Ext.bothEq (congrArg Value.bool hs6) (Ext.skip rfl (Ext.skip rfl (Ext.skip rfl (Ext.skip rfl (Ext.skip rfl (Ext.skip rfl (Ext.skip rfl (Ext.skip rfl (Ext.skip rfl (Ext.rfl')))))))))), cs⟩
     ·
      have hs6 := and_f hg7 hb9
      have cs : Ch nb w2 w2 := Ch.refl
      refine RL.no rfl rfl rfl hg7 rfl rfl ?_
      refine RL.no rfl rfl rfl hg7 rfl rfl ?_
      refine RL.no rfl rfl rfl hg7 rfl rfl ?_
      refine RL.no rfl rfl rfl hg7 rfl rfl ?_
      refine RL.no rfl rfl rfl hg7 rfl rfl ?_
      refine RL.no rfl rfl rfl hg7 rfl rfl ?_
      refine RL.no rfl rfl rfl hg7 rfl rfl ?_
      refine RL.no rfl rfl rfl hg7 rfl rfl ?_
      refine RL.no rfl rfl rfl hg7 rfl rfl ?_
      refine rl_pickF rfl hg7 rfl rfl ?_
      exact RL.nil ⟨Ext.bothEq (congrArg Value.bool hs6) (Ext.skip rfl (Ext.skip rfl (Ext.skip rfl (Ext.skip rfl (Ext.skip rfl (Ext.skip rfl (Ext.skip rfl (Ext.skip rfl (Ext.skip rfl (Ext.rfl')))))))))), cs⟩
   intro w10 c11
   have k4 := k4.ch0 c11
   have c0 := c0.then0 c11
   refine rl_assign rfl rfl ?_
   refine RL.nil ?_
   refine thn_n ?_
   refine CW.ret ?_
   obtain rfl := hS
   exact ret1 rfl ⟨rfl, c0⟩
  ·
   have hS := ifF q5 hS
   refine CW.skip ?_
   refine thn_n ?_
   refine CW.seq (CW.region ?_)
   refine rl_move rfl rfl ?_
   refine rl_bin rfl rfl B.gtr rfl ?_
   refine rl_move rfl rfl ?_
   obtain ⟨b14, hb15⟩ : ∃ v, ((decide (a1 > 0)) && (decide ((IntKind.u64.wrap ((IntKind.u64.wrap a2) - (IntKind.u64.wrap a0.last))) < (IntKind.u64.wrap a1)))) = v := ⟨_, rfl⟩
   have hS := ltS hb15 hS
   refine RL.join 10 25 (.bool b14) (fun w' => Ch nb w2 w') ?_ ?_
   · rcases Bool.eq_false_or_eq_true (decide (a1 > 0)) with hg13 | hg13
     ·
      have hs12 := and_t hg13 hb15
      have cs : Ch nb w2 w2 := Ch.refl
      refine RL.yes rfl rfl rfl hg13 ?_
      refine rl_move rfl rfl ?_
      refine RL.yes rfl rfl rfl hg13 ?_
      refine rl_convInt rfl ⟨_, Try.underlying3⟩ Try.underlying60 rfl ?_
      refine RL.yes rfl rfl rfl hg13 ?_
      refine rl_fieldAddr rfl fa30_5 rfl ?_
      refine RL.yes rfl rfl rfl hg13 ?_
      refine rl_loadS (v := (Value.int .i64 a0.last)) rfl Try.isAgg3 (k4.cell rfl) rfl ?_
      refine RL.yes rfl rfl rfl hg13 ?_
      refine rl_convInt rfl ⟨_, Try.underlying3⟩ Try.underlying60 rfl ?_
      refine RL.yes rfl rfl rfl hg13 ?_
      refine rl_bin rfl rfl B.sub rfl ?_
      refine RL.yes rfl rfl rfl hg13 ?_
      refine rl_move rfl rfl ?_
      refine RL.yes rfl rfl rfl hg13 ?_
      refine rl_convInt rfl ⟨_, Try.underlying3⟩ Try.underlying60 rfl ?_
      refine RL.yes rfl rfl rfl hg13 ?_
      refine rl_bin rfl rfl B.lss rfl ?_
      refine rl_pickT rfl hg13 rfl rfl ?_
      exact RL.nil ⟨Ext.bothEq (congrArg Value.bool hs12) (Ext.skip rfl (Ext.skip rfl (Ext.skip rfl (Ext.skip rfl (Ext.skip rfl (Ext.skip rfl (Ext.skip rfl (Ext.skip rfl (Ext.skip rfl (Ext.rfl')))))))))), cs⟩
     ·
      have hs12 := and_f hg13 hb15
      have cs : Ch nb w2 w2 := Ch.refl
      refine RL.no rfl rfl rfl hg13 rfl rfl ?_
      refine RL.no rfl rfl rfl hg13 rfl rfl ?_
      refine RL.no rfl rfl rfl hg13 rfl rfl ?_
      refine RL.no rfl rfl rfl hg13 rfl rfl ?_
      refine RL.no rfl rfl rfl hg13 rfl rfl ?_
      refine RL.no rfl rfl rfl hg13 rfl rfl ?_
      refine RL.no rfl rfl rfl hg13 rfl rfl ?_
      refine RL.no rfl rfl rfl hg13 rfl rfl ?_
      refine RL.no rfl rfl rfl hg13 rfl rfl ?_
      refine rl_pickF rfl hg13 rfl rfl ?_
      exact RL.nil ⟨Ext.bothEq (congrArg Value.bool hs12) (Ext.skip rfl (Ext.skip rfl (Ext.skip rfl (Ext.skip rfl (Ext.skip rfl (Ext.skip rfl (Ext.skip rfl (Ext.skip rfl (Ext.skip rfl (Ext.rfl')))))))))), cs⟩
   intro w16 c17
   have k4 := k4.ch0 c17
   have c0 := c0.then0 c17
   refine rl_assign rfl rfl ?_
   refine RL.nil ?_
   refine thn_n ?_
   refine CW.ret ?_
   obtain rfl := hS
   exact ret1 rfl ⟨rfl, c0⟩
/-- (*lb/ties.Ties).Get -/
theorem ctr17 (F : Nat → Prop) (w : World) (Bb : Nat) (S2 : Nat → Prop) (hB : Bb ≤ w.heap.size) (h2 : ∀ b, S2 b → b < w.heap.size) (p0 : Nat) (az0_0 : Value) (hd2 : ∀ b, (un (inBlk (Value.pointer (some ⟨p0, 0, none⟩))) (inBlk az0_0)) b → ¬ S2 b) (hx0_1 : ∀ b, inBlk (Value.pointer (some ⟨p0, 0, none⟩)) b → ¬ inBlk az0_0 b) (a0 : Ties) (ah0 : Blk w p0 69 (Ties.c a0 az0_0)) (ah0_0 : Mp (fun x => Value.agg (Place.enc x).toArray) (fun x => Value.agg (Tie.enc x).toArray) w a0.all az0_0) (a1 : Tie) (a2 : Int) (a3 : Int) (r : (Point × Bool)) (hs : F17_ties_Ties_Get a0 a1 a2 a3 = r) :
    Ret Try.prog 17 #[(Value.pointer (some ⟨p0, 0, none⟩)), (Value.agg (Tie.enc a1).toArray), (Value.int .i64 a2), (Value.int .i64 a3)] w fun v w' => v = Value.tuple #[(Value.agg (Point.enc r.1).toArray), (Value.bool r.2)] ∧ Ch nb w w' := by
  have hS := hs
  have c0 : Ch nb w w := Ch.refl
  have lin0_0 : ∀ b, inBlk (Value.pointer (some ⟨p0, 0, none⟩)) b → (un (inBlk (Value.pointer (some ⟨p0, 0, none⟩))) (inBlk az0_0)) b ∨ w.heap.size ≤ b := fun b h => .inl (.inl h)
  have lin1_0 : ∀ b, inBlk az0_0 b → (un (inBlk (Value.pointer (some ⟨p0, 0, none⟩))) (inBlk az0_0)) b ∨ w.heap.size ≤ b := fun b h => .inl (.inr h)
  refine Ret.of (n := 34) (args := [_, _, _, _]) (rs := [.cell 8 28, .tmp 9]) Try.func17 rfl rfl rfl rfl ?_
  refine CW.seq (CW.region ?_)
  refine rl_boxA (cs := (Tie.enc a1)) rfl rfl ?_
  intro p1 w2 n3 k4
  have gp1 : (G F Bb (un (inBlk (Value.pointer (some ⟨p0, 0, none⟩))) (un (inBlk az0_0) S2))) p1 := ⟨.inr (by rw [n3.eq]; exact (Nat.le_trans hB c0.size)), fun h => absurd ((un_lt ah0.ltp (un_lt ah0_0.ltp (fun b h => Nat.lt_of_lt_of_le (h2 b h) c0.size))) _ h) (by rw [n3.eq]; exact Nat.lt_irrefl _)⟩
  have ah0 := ah0.ch0 n3.ch
  have ah0_0 := ah0_0.ch0 n3.ch
  have c0 := c0.then0 n3.ch
  refine rl_alloc (Point.enc Point.z) Try.zeroValue28 rfl rfl ?_
  intro p5 w6 n7 k8
  have lo9 : ∀ b, inBlk (Value.pointer (some ⟨p5, 0, none⟩)) b → w.heap.size ≤ b := fun b h => Nat.le_trans c0.size (n7.fresh b h)
  have d10 : ∀ b, inBlk (Value.pointer (some ⟨p5, 0, none⟩)) b → ¬ inBlk (Value.pointer (some ⟨p0, 0, none⟩)) b := disNew n7.fresh ah0.ltp
  have d11 : ∀ b, inBlk (Value.pointer (some ⟨p5, 0, none⟩)) b → ¬ inBlk az0_0 b := disNew n7.fresh ah0_0.ltp
  have ah0 := ah0.ch0 n7.ch
  have ah0_0 := ah0_0.ch0 n7.ch
  have gp1n : (G F Bb (un (inBlk (Value.pointer (some ⟨p5, 0, none⟩))) (un (inBlk (Value.pointer (some ⟨p0, 0, none⟩))) (un (inBlk az0_0) S2)))) p1 := ⟨gp1.1, ((admNew n7.fresh (fun _ x => x)) _ k4.lt gp1.2).2⟩
  have k4 := k4.ch0 n7.ch
  have gp1 := gp1n
  have c0 := c0.then0 n7.ch
  refine rl_assign rfl rfl ?_
  refine RL.nil ?_
  refine thn_n ?_
  refine CW.seq ?_
  obtain ⟨y14, hy15⟩ : ∃ y, F35_ties_Tie_place a1 = y := ⟨_, rfl⟩
  have hS := ltS hy15 hS
  refine CW.draw 12 [(none, fun _ O uu wx => uu = (Value.pointer (some ⟨p0, 0, none⟩))), (none, fun _ O uu wx => uu = (Value.pointer (some ⟨p0, 0, none⟩))), (none, fun _ O uu wx => uu = (Value.pointer (some ⟨p0, 0, none⟩))), (none, fun _ O uu wx => uu = az0_0), (none, fun _ O uu wx => uu = (Value.agg (Tie.enc a1).toArray)), (none, fun _ O uu wx => uu = (Value.agg (Place.enc y14).toArray)), (none, fun _ O uu wx => uu = (Value.tuple #[(Value.agg (Tie.enc ((mget a0.all y14).getD Tie.z)).toArray), (Value.bool ((mget a0.all y14).isSome))])), (none, fun _ O uu wx => uu = (Value.tuple #[(Value.agg (Tie.enc ((mget a0.all y14).getD Tie.z)).toArray), (Value.bool ((mget a0.all y14).isSome))])), (none, fun _ O uu wx => uu = (Value.agg (Tie.enc ((mget a0.all y14).getD Tie.z)).toArray)), (none, fun _ O uu wx => uu = (Value.bool ((mget a0.all y14).isSome))), (some false, fun _ O uu wx => ∃ (p16 : Nat), uu = (Value.pointer (some ⟨p16, 0, none⟩)) ∧ O = (inBlk (Value.pointer (some ⟨p16, 0, none⟩))) ∧ Blk wx p16 30 (Tie.enc Tie.z)), (some true, fun hv O uu wx => ∃ (p16 : Nat), hv = [(Value.pointer (some ⟨p16, 0, none⟩)), undef] ∧ uu = undef ∧ O = (inBlk (Value.pointer (some ⟨p16, 0, none⟩))) ∧ Blk wx p16 30 (Tie.enc ((mget a0.all y14).getD Tie.z)))] [[], [0], [1], [2], [], [4], [3, 5], [6], [7], [7], [], [10, 8]] [11, 9, 10] nb (fun _ h => h.elim) mixed rfl rfl rfl rfl ?_ ?_
  ·
   refine Each.consA ⟨fun _ _ _ _ _ _ h => h, fun _ _ _ _ _ _ _ _ _ _ _ h => h, fun O wk hO ck => ?_⟩ ?_
   ·
    have d29 : ∀ b, inBlk (Value.pointer (some ⟨p5, 0, none⟩)) b → ¬ O b := fun b hu ho => (hO b ho).1.elim (fun h => h.elim) (fun h => Nat.not_le_of_lt (k8.ltp b hu) h)
    have d30 : ∀ b, inBlk (Value.pointer (some ⟨p0, 0, none⟩)) b → ¬ O b := fun b hu ho => (hO b ho).1.elim (fun h => h.elim) (fun h => Nat.not_le_of_lt (ah0.ltp b hu) h)
    have d31 : ∀ b, inBlk az0_0 b → ¬ O b := fun b hu ho => (hO b ho).1.elim (fun h => h.elim) (fun h => Nat.not_le_of_lt (ah0_0.ltp b hu) h)
    have ha32 : ∀ b, b < w6.heap.size → ¬ (un (inBlk (Value.pointer (some ⟨p5, 0, none⟩))) (un (inBlk (Value.pointer (some ⟨p0, 0, none⟩))) (un (inBlk az0_0) S2))) b → ¬ nb b ∧ ¬ (un O (un (inBlk (Value.pointer (some ⟨p5, 0, none⟩))) (un (inBlk (Value.pointer (some ⟨p0, 0, none⟩))) (un (inBlk az0_0) S2)))) b := fun b hb hs => ⟨fun h => h.elim, fun h => un_el h (fun ho => (hO b ho).1.elim (fun h => h.elim) (fun h => Nat.not_le_of_lt hb h)) (fun h => un_el h (fun h => hs (.inl h)) (fun h => un_el h (fun h => hs (.inr (.inl h))) (fun h => un_el h (fun h => hs (.inr (.inr (.inl h)))) (fun h => hs (.inr (.inr (.inr h)))))))⟩
    have ah0 := ah0.ch0 ck
    have ah0_0 := ah0_0.ch0 ck
    have gp1n : (G F Bb (un O (un (inBlk (Value.pointer (some ⟨p5, 0, none⟩))) (un (inBlk (Value.pointer (some ⟨p0, 0, none⟩))) (un (inBlk az0_0) S2))))) p1 := ⟨gp1.1, (ha32 _ k4.lt gp1.2).2⟩
    have k4 := k4.ch0 ck
    have gp1 := gp1n
    have k8 := k8.ch0 ck
    have c0 := c0.then0 ck
    refine rl_move rfl rfl ?_
    exact RL.nil ⟨_, rfl, Ch.refl, rfl⟩
   refine Each.consA ⟨fun _ _ _ _ _ _ h => h, fun _ _ _ _ _ _ _ _ _ _ _ h => h, fun O wk hO ck => ?_⟩ ?_
   ·
    have d33 : ∀ b, inBlk (Value.pointer (some ⟨p5, 0, none⟩)) b → ¬ O b := fun b hu ho => (hO b ho).1.elim (fun h => h.elim) (fun h => Nat.not_le_of_lt (k8.ltp b hu) h)
    have d34 : ∀ b, inBlk (Value.pointer (some ⟨p0, 0, none⟩)) b → ¬ O b := fun b hu ho => (hO b ho).1.elim (fun h => h.elim) (fun h => Nat.not_le_of_lt (ah0.ltp b hu) h)
    have d35 : ∀ b, inBlk az0_0 b → ¬ O b := fun b hu ho => (hO b ho).1.elim (fun h => h.elim) (fun h => Nat.not_le_of_lt (ah0_0.ltp b hu) h)
    have ha36 : ∀ b, b < w6.heap.size → ¬ (un (inBlk (Value.pointer (some ⟨p5, 0, none⟩))) (un (inBlk (Value.pointer (some ⟨p0, 0, none⟩))) (un (inBlk az0_0) S2))) b → ¬ nb b ∧ ¬ (un O (un (inBlk (Value.pointer (some ⟨p5, 0, none⟩))) (un (inBlk (Value.pointer (some ⟨p0, 0, none⟩))) (un (inBlk az0_0) S2)))) b := fun b hb hs => ⟨fun h => h.elim, fun h => un_el h (fun ho => (hO b ho).1.elim (fun h => h.elim) (fun h => Nat.not_le_of_lt hb h)) (fun h => un_el h (fun h => hs (.inl h)) (fun h => un_el h (fun h => hs (.inr (.inl h))) (fun h => un_el h (fun h => hs (.inr (.inr (.inl h)))) (fun h => hs (.inr (.inr (.inr h)))))))⟩
    have ah0 := ah0.ch0 ck
    have ah0_0 := ah0_0.ch0 ck
    have gp1n : (G F Bb (un O (un (inBlk (Value.pointer (some ⟨p5, 0, none⟩))) (un (inBlk (Value.pointer (some ⟨p0, 0, none⟩))) (un (inBlk az0_0) S2))))) p1 := ⟨gp1.1, (ha36 _ k4.lt gp1.2).2⟩
    have k4 := k4.ch0 ck
    have gp1 := gp1n
    have k8 := k8.ch0 ck
    have c0 := c0.then0 ck
    refine Need.one rfl rfl rfl ?_
    rintro _ e37
    obtain rfl := e37.symm
    refine rl_nilCheck rfl rfl ?_
    exact RL.nil ⟨_, rfl, Ch.refl, rfl⟩
   refine Each.consA ⟨fun _ _ _ _ _ _ h => h, fun _ _ _ _ _ _ _ _ _ _ _ h => h, fun O wk hO ck => ?_⟩ ?_
   ·
    have d38 : ∀ b, inBlk (Value.pointer (some ⟨p5, 0, none⟩)) b → ¬ O b := fun b hu ho => (hO b ho).1.elim (fun h => h.elim) (fun h => Nat.not_le_of_lt (k8.ltp b hu) h)
    have d39 : ∀ b, inBlk (Value.pointer (some ⟨p0, 0, none⟩)) b → ¬ O b := fun b hu ho => (hO b ho).1.elim (fun h => h.elim) (fun h => Nat.not_le_of_lt (ah0.ltp b hu) h)
    have d40 : ∀ b, inBlk az0_0 b → ¬ O b := fun b hu ho => (hO b ho).1.elim (fun h => h.elim) (fun h => Nat.not_le_of_lt (ah0_0.ltp b hu) h)
    have ha41 : ∀ b, b < w6.heap.size → ¬ (un (inBlk (Value.pointer (some ⟨p5, 0, none⟩))) (un (inBlk (Value.pointer (some ⟨p0, 0, none⟩))) (un (inBlk az0_0) S2))) b → ¬ nb b ∧ ¬ (un O (un (inBlk (Value.pointer (some ⟨p5, 0, none⟩))) (un (inBlk (Value.pointer (some ⟨p0, 0, none⟩))) (un (inBlk az0_0) S2)))) b := fun b hb hs => ⟨fun h => h.elim, fun h => un_el h (fun ho => (hO b ho).1.elim (fun h => h.elim) (fun h => Nat.not_le_of_lt hb h)) (fun h => un_el h (fun h => hs (.inl h)) (fun h => un_el h (fun h => hs (.inr (.inl h))) (fun h => un_el h (fun h => hs (.inr (.inr (.inl h)))) (fun h => hs (.inr (.inr (.inr h)))))))⟩
    have ah0 := ah0.ch0 ck
    have ah0_0 := ah0_0.ch0 ck
    have gp1n : (G F Bb (un O (un (inBlk (Value.pointer (some ⟨p5, 0, none⟩))) (un (inBlk (Value.pointer (some ⟨p0, 0, none⟩))) (un (inBlk az0_0) S2))))) p1 := ⟨gp1.1, (ha41 _ k4.lt gp1.2).2⟩
    have k4 := k4.ch0 ck
    have gp1 := gp1n
    have k8 := k8.ch0 ck
    have c0 := c0.then0 ck
    refine Need.one rfl rfl rfl ?_
    rintro _ e42
    obtain rfl := e42.symm
    refine rl_fieldAddr rfl fa69_0 rfl ?_
    exact RL.nil ⟨_, rfl, Ch.refl, rfl⟩
   refine Each.consA ⟨fun _ _ _ _ _ _ h => h, fun _ _ _ _ _ _ _ _ _ _ _ h => h, fun O wk hO ck => ?_⟩ ?_
   ·
    have d43 : ∀ b, inBlk (Value.pointer (some ⟨p5, 0, none⟩)) b → ¬ O b := fun b hu ho => (hO b ho).1.elim (fun h => h.elim) (fun h => Nat.not_le_of_lt (k8.ltp b hu) h)
    have d44 : ∀ b, inBlk (Value.pointer (some ⟨p0, 0, none⟩)) b → ¬ O b := fun b hu ho => (hO b ho).1.elim (fun h => h.elim) (fun h => Nat.not_le_of_lt (ah0.ltp b hu) h)
    have d45 : ∀ b, inBlk az0_0 b → ¬ O b := fun b hu ho => (hO b ho).1.elim (fun h => h.elim) (fun h => Nat.not_le_of_lt (ah0_0.ltp b hu) h)
    have ha46 : ∀ b, b < w6.heap.size → ¬ (un (inBlk (Value.pointer (some ⟨p5, 0, none⟩))) (un (inBlk (Value.pointer (some ⟨p0, 0, none⟩))) (un (inBlk az0_0) S2))) b → ¬ nb b ∧ ¬ (un O (un (inBlk (Value.pointer (some ⟨p5, 0, none⟩))) (un (inBlk (Value.pointer (some ⟨p0, 0, none⟩))) (un (inBlk az0_0) S2)))) b := fun b hb hs => ⟨fun h => h.elim, fun h => un_el h (fun ho => (hO b ho).1.elim (fun h => h.elim) (fun h => Nat.not_le_of_lt hb h)) (fun h => un_el h (fun h => hs (.inl h)) (fun h => un_el h (fun h => hs (.inr (.inl h))) (fun h => un_el h (fun h => hs (.inr (.inr (.inl h)))) (fun h => hs (.inr (.inr (.inr h)))))))⟩
    have ah0 := ah0.ch0 ck
    have ah0_0 := ah0_0.ch0 ck
    have gp1n : (G F Bb (un O (un (inBlk (Value.pointer (some ⟨p5, 0, none⟩))) (un (inBlk (Value.pointer (some ⟨p0, 0, none⟩))) (un (inBlk az0_0) S2))))) p1 := ⟨gp1.1, (ha46 _ k4.lt gp1.2).2⟩
    have k4 := k4.ch0 ck
    have gp1 := gp1n
    have k8 := k8.ch0 ck
    have c0 := c0.then0 ck
    refine Need.one rfl rfl rfl ?_
    rintro _ e47
    obtain rfl := e47.symm
    refine rl_loadS (v := az0_0) rfl Try.isAgg67 (ah0.cell rfl) rfl ?_
    exact RL.nil ⟨_, rfl, Ch.refl, rfl⟩
   refine Each.consA ⟨fun _ _ _ _ _ _ h => h, fun _ _ _ _ _ _ _ _ _ _ _ h => h, fun O wk hO ck => ?_⟩ ?_
   ·
    have d48 : ∀ b, inBlk (Value.pointer (some ⟨p5, 0, none⟩)) b → ¬ O b := fun b hu ho => (hO b ho).1.elim (fun h => h.elim) (fun h => Nat.not_le_of_lt (k8.ltp b hu) h)
    have d49 : ∀ b, inBlk (Value.pointer (some ⟨p0, 0, none⟩)) b → ¬ O b := fun b hu ho => (hO b ho).1.elim (fun h => h.elim) (fun h => Nat.not_le_of_lt (ah0.ltp b hu) h)
    have d50 : ∀ b, inBlk az0_0 b → ¬ O b := fun b hu ho => (hO b ho).1.elim (fun h => h.elim) (fun h => Nat.not_le_of_lt (ah0_0.ltp b hu) h)
    have ha51 : ∀ b, b < w6.heap.size → ¬ (un (inBlk (Value.pointer (some ⟨p5, 0, none⟩))) (un (inBlk (Value.pointer (some ⟨p0, 0, none⟩))) (un (inBlk az0_0) S2))) b → ¬ nb b ∧ ¬ (un O (un (inBlk (Value.pointer (some ⟨p5, 0, none⟩))) (un (inBlk (Value.pointer (some ⟨p0, 0, none⟩))) (un (inBlk az0_0) S2)))) b := fun b hb hs => ⟨fun h => h.elim, fun h => un_el h (fun ho => (hO b ho).1.elim (fun h => h.elim) (fun h => Nat.not_le_of_lt hb h)) (fun h => un_el h (fun h => hs (.inl h)) (fun h => un_el h (fun h => hs (.inr (.inl h))) (fun h => un_el h (fun h => hs (.inr (.inr (.inl h)))) (fun h => hs (.inr (.inr (.inr h)))))))⟩
    have ah0 := ah0.ch0 ck
    have ah0_0 := ah0_0.ch0 ck
    have gp1n : (G F Bb (un O (un (inBlk (Value.pointer (some ⟨p5, 0, none⟩))) (un (inBlk (Value.pointer (some ⟨p0, 0, none⟩))) (un (inBlk az0_0) S2))))) p1 := ⟨gp1.1, (ha51 _ k4.lt gp1.2).2⟩
    have k4 := k4.ch0 ck
    have gp1 := gp1n
    have k8 := k8.ch0 ck
    have c0 := c0.then0 ck
    refine rl_loadA (cs := (Tie.enc a1)) rfl Try.isAgg30 Try.sizeOf30 (k4.segAt 0 40) rfl rfl ?_
    exact RL.nil ⟨_, rfl, Ch.refl, rfl⟩
   refine Each.consA ⟨fun _ _ _ _ _ _ h => h, fun _ _ _ _ _ _ _ _ _ _ _ h => h, fun O wk hO ck => ?_⟩ ?_
   ·
    have d52 : ∀ b, inBlk (Value.pointer (some ⟨p5, 0, none⟩)) b → ¬ O b := fun b hu ho => (hO b ho).1.elim (fun h => h.elim) (fun h => Nat.not_le_of_lt (k8.ltp b hu) h)
    have d53 : ∀ b, inBlk (Value.pointer (some ⟨p0, 0, none⟩)) b → ¬ O b := fun b hu ho => (hO b ho).1.elim (fun h => h.elim) (fun h => Nat.not_le_of_lt (ah0.ltp b hu) h)
    have d54 : ∀ b, inBlk az0_0 b → ¬ O b := fun b hu ho => (hO b ho).1.elim (fun h => h.elim) (fun h => Nat.not_le_of_lt (ah0_0.ltp b hu) h)
    have ha55 : ∀ b, b < w6.heap.size → ¬ (un (inBlk (Value.pointer (some ⟨p5, 0, none⟩))) (un (inBlk (Value.pointer (some ⟨p0, 0, none⟩))) (un (inBlk az0_0) S2))) b → ¬ nb b ∧ ¬ (un O (un (inBlk (Value.pointer (some ⟨p5, 0, none⟩))) (un (inBlk (Value.pointer (some ⟨p0, 0, none⟩))) (un (inBlk az0_0) S2)))) b := fun b hb hs => ⟨fun h => h.elim, fun h => un_el h (fun ho => (hO b ho).1.elim (fun h => h.elim) (fun h => Nat.not_le_of_lt hb h)) (fun h => un_el h (fun h => hs (.inl h)) (fun h => un_el h (fun h => hs (.inr (.inl h))) (fun h => un_el h (fun h => hs (.inr (.inr (.inl h)))) (fun h => hs (.inr (.inr (.inr h)))))))⟩
    have ah0 := ah0.ch0 ck
    have ah0_0 := ah0_0.ch0 ck
    have gp1n : (G F Bb (un O (un (inBlk (Value.pointer (some ⟨p5, 0, none⟩))) (un (inBlk (Value.pointer (some ⟨p0, 0, none⟩))) (un (inBlk az0_0) S2))))) p1 := ⟨gp1.1, (ha55 _ k4.lt gp1.2).2⟩
    have k4 := k4.ch0 ck
    have gp1 := gp1n
    have k8 := k8.ch0 ck
    have c0 := c0.then0 ck
    refine Need.one rfl rfl rfl ?_
    rintro _ e56
    obtain rfl := e56.symm
    refine rl_callF rfl en35 rfl (ctr35 (G F Bb (un O (un (inBlk (Value.pointer (some ⟨p5, 0, none⟩))) (un (inBlk (Value.pointer (some ⟨p0, 0, none⟩))) (un (inBlk az0_0) S2))))) wk a1 y14 hy15) ?_
    rintro _ w57 ⟨rfl, c58⟩
    have ah0 := ah0.ch0 c58
    have ah0_0 := ah0_0.ch0 c58
    have k4 := k4.ch0 c58
    have k8 := k8.ch0 c58
    have c0 := c0.then0 c58
    exact RL.nil ⟨_, rfl, c58, rfl⟩
   refine Each.consA ⟨fun _ _ _ _ _ _ h => h, fun _ _ _ _ _ _ _ _ _ _ _ h => h, fun O wk hO ck => ?_⟩ ?_
   ·
    have d59 : ∀ b, inBlk (Value.pointer (some ⟨p5, 0, none⟩)) b → ¬ O b := fun b hu ho => (hO b ho).1.elim (fun h => h.elim) (fun h => Nat.not_le_of_lt (k8.ltp b hu) h)
    have d60 : ∀ b, inBlk (Value.pointer (some ⟨p0, 0, none⟩)) b → ¬ O b := fun b hu ho => (hO b ho).1.elim (fun h => h.elim) (fun h => Nat.not_le_of_lt (ah0.ltp b hu) h)
    have d61 : ∀ b, inBlk az0_0 b → ¬ O b := fun b hu ho => (hO b ho).1.elim (fun h => h.elim) (fun h => Nat.not_le_of_lt (ah0_0.ltp b hu) h)
    have ha62 : ∀ b, b < w6.heap.size → ¬ (un (inBlk (Value.pointer (some ⟨p5, 0, none⟩))) (un (inBlk (Value.pointer (some ⟨p0, 0, none⟩))) (un (inBlk az0_0) S2))) b → ¬ nb b ∧ ¬ (un O (un (inBlk (Value.pointer (some ⟨p5, 0, none⟩))) (un (inBlk (Value.pointer (some ⟨p0, 0, none⟩))) (un (inBlk az0_0) S2)))) b := fun b hb hs => ⟨fun h => h.elim, fun h => un_el h (fun ho => (hO b ho).1.elim (fun h => h.elim) (fun h => Nat.not_le_of_lt hb h)) (fun h => un_el h (fun h => hs (.inl h)) (fun h => un_el h (fun h => hs (.inr (.inl h))) (fun h => un_el h (fun h => hs (.inr (.inr (.inl h)))) (fun h => hs (.inr (.inr (.inr h)))))))⟩
    have ah0 := ah0.ch0 ck
    have ah0_0 := ah0_0.ch0 ck
    have gp1n : (G F Bb (un O (un (inBlk (Value.pointer (some ⟨p5, 0, none⟩))) (un (inBlk (Value.pointer (some ⟨p0, 0, none⟩))) (un (inBlk az0_0) S2))))) p1 := ⟨gp1.1, (ha62 _ k4.lt gp1.2).2⟩
    have k4 := k4.ch0 ck
    have gp1 := gp1n
    have k8 := k8.ch0 ck
    have c0 := c0.then0 ck
    refine Need.one rfl rfl rfl ?_
    rintro _ e63
    obtain rfl := e63.symm
    refine Need.one rfl rfl rfl ?_
    rintro _ e64
    obtain rfl := e64.symm
    refine rl_lookup2 y14 Tie.z rfl rfl ah0_0 rfl kt79 Try.underlying67 Try.zeroValue30 rfl ?_
    exact RL.nil ⟨_, rfl, Ch.refl, rfl⟩
   refine Each.consA ⟨fun _ _ _ _ _ _ h => h, fun _ _ _ _ _ _ _ _ _ _ _ h => h, fun O wk hO ck => ?_⟩ ?_
   ·
    have d65 : ∀ b, inBlk (Value.pointer (some ⟨p5, 0, none⟩)) b → ¬ O b := fun b hu ho => (hO b ho).1.elim (fun h => h.elim) (fun h => Nat.not_le_of_lt (k8.ltp b hu) h)
    have d66 : ∀ b, inBlk (Value.pointer (some ⟨p0, 0, none⟩)) b → ¬ O b := fun b hu ho => (hO b ho).1.elim (fun h => h.elim) (fun h => Nat.not_le_of_lt (ah0.ltp b hu) h)
    have d67 : ∀ b, inBlk az0_0 b → ¬ O b := fun b hu ho => (hO b ho).1.elim (fun h => h.elim) (fun h => Nat.not_le_of_lt (ah0_0.ltp b hu) h)
    have ha68 : ∀ b, b < w6.heap.size → ¬ (un (inBlk (Value.pointer (some ⟨p5, 0, none⟩))) (un (inBlk (Value.pointer (some ⟨p0, 0, none⟩))) (un (inBlk az0_0) S2))) b → ¬ nb b ∧ ¬ (un O (un (inBlk (Value.pointer (some ⟨p5, 0, none⟩))) (un (inBlk (Value.pointer (some ⟨p0, 0, none⟩))) (un (inBlk az0_0) S2)))) b := fun b hb hs => ⟨fun h => h.elim, fun h => un_el h (fun ho => (hO b ho).1.elim (fun h => h.elim) (fun h => Nat.not_le_of_lt hb h)) (fun h => un_el h (fun h => hs (.inl h)) (fun h => un_el h (fun h => hs (.inr (.inl h))) (fun h => un_el h (fun h => hs (.inr (.inr (.inl h)))) (fun h => hs (.inr (.inr (.inr h)))))))⟩
    have ah0 := ah0.ch0 ck
    have ah0_0 := ah0_0.ch0 ck
    have gp1n : (G F Bb (un O (un (inBlk (Value.pointer (some ⟨p5, 0, none⟩))) (un (inBlk (Value.pointer (some ⟨p0, 0, none⟩))) (un (inBlk az0_0) S2))))) p1 := ⟨gp1.1, (ha68 _ k4.lt gp1.2).2⟩
    have k4 := k4.ch0 ck
    have gp1 := gp1n
    have k8 := k8.ch0 ck
    have c0 := c0.then0 ck
    refine Need.one rfl rfl rfl ?_
    rintro _ e69
    obtain rfl := e69.symm
    refine rl_move rfl rfl ?_
    exact RL.nil ⟨_, rfl, Ch.refl, rfl⟩
   refine Each.consA ⟨fun _ _ _ _ _ _ h => h, fun _ _ _ _ _ _ _ _ _ _ _ h => h, fun O wk hO ck => ?_⟩ ?_
   ·
    have d70 : ∀ b, inBlk (Value.pointer (some ⟨p5, 0, none⟩)) b → ¬ O b := fun b hu ho => (hO b ho).1.elim (fun h => h.elim) (fun h => Nat.not_le_of_lt (k8.ltp b hu) h)
    have d71 : ∀ b, inBlk (Value.pointer (some ⟨p0, 0, none⟩)) b → ¬ O b := fun b hu ho => (hO b ho).1.elim (fun h => h.elim) (fun h => Nat.not_le_of_lt (ah0.ltp b hu) h)
    have d72 : ∀ b, inBlk az0_0 b → ¬ O b := fun b hu ho => (hO b ho).1.elim (fun h => h.elim) (fun h => Nat.not_le_of_lt (ah0_0.ltp b hu) h)
    have ha73 : ∀ b, b < w6.heap.size → ¬ (un (inBlk (Value.pointer (some ⟨p5, 0, none⟩))) (un (inBlk (Value.pointer (some ⟨p0, 0, none⟩))) (un (inBlk az0_0) S2))) b → ¬ nb b ∧ ¬ (un O (un (inBlk (Value.pointer (some ⟨p5, 0, none⟩))) (un (inBlk (Value.pointer (some ⟨p0, 0, none⟩))) (un (inBlk az0_0) S2)))) b := fun b hb hs => ⟨fun h => h.elim, fun h => un_el h (fun ho => (hO b ho).1.elim (fun h => h.elim) (fun h => Nat.not_le_of_lt hb h)) (fun h => un_el h (fun h => hs (.inl h)) (fun h => un_el h (fun h => hs (.inr (.inl h))) (fun h => un_el h (fun h => hs (.inr (.inr (.inl h)))) (fun h => hs (.inr (.inr (.inr h)))))))⟩
    have ah0 := ah0.ch0 ck
    have ah0_0 := ah0_0.ch0 ck
    have gp1n : (G F Bb (un O (un (inBlk (Value.pointer (some ⟨p5, 0, none⟩))) (un (inBlk (Value.pointer (some ⟨p0, 0, none⟩))) (un (inBlk az0_0) S2))))) p1 := ⟨gp1.1, (ha73 _ k4.lt gp1.2).2⟩
    have k4 := k4.ch0 ck
    have gp1 := gp1n
    have k8 := k8.ch0 ck
    have c0 := c0.then0 ck
    refine Need.one rfl rfl rfl ?_
    rintro _ e74
    obtain rfl := e74.symm
    refine rl_extract rfl rfl rfl ?_
    exact RL.nil ⟨_, rfl, Ch.refl, rfl⟩
   refine Each.consA ⟨fun _ _ _ _ _ _ h => h, fun _ _ _ _ _ _ _ _ _ _ _ h => h, fun O wk hO ck => ?_⟩ ?_
   ·
    have d75 : ∀ b, inBlk (Value.pointer (some ⟨p5, 0, none⟩)) b → ¬ O b := fun b hu ho => (hO b ho).1.elim (fun h => h.elim) (fun h => Nat.not_le_of_lt (k8.ltp b hu) h)
    have d76 : ∀ b, inBlk (Value.pointer (some ⟨p0, 0, none⟩)) b → ¬ O b := fun b hu ho => (hO b ho).1.elim (fun h => h.elim) (fun h => Nat.not_le_of_lt (ah0.ltp b hu) h)
    have d77 : ∀ b, inBlk az0_0 b → ¬ O b := fun b hu ho => (hO b ho).1.elim (fun h => h.elim) (fun h => Nat.not_le_of_lt (ah0_0.ltp b hu) h)
    have ha78 : ∀ b, b < w6.heap.size → ¬ (un (inBlk (Value.pointer (some ⟨p5, 0, none⟩))) (un (inBlk (Value.pointer (some ⟨p0, 0, none⟩))) (un (inBlk az0_0) S2))) b → ¬ nb b ∧ ¬ (un O (un (inBlk (Value.pointer (some ⟨p5, 0, none⟩))) (un (inBlk (Value.pointer (some ⟨p0, 0, none⟩))) (un (inBlk az0_0) S2)))) b := fun b hb hs => ⟨fun h => h.elim, fun h => un_el h (fun ho => (hO b ho).1.elim (fun h => h.elim) (fun h => Nat.not_le_of_lt hb h)) (fun h => un_el h (fun h => hs (.inl h)) (fun h => un_el h (fun h => hs (.inr (.inl h))) (fun h => un_el h (fun h => hs (.inr (.inr (.inl h)))) (fun h => hs (.inr (.inr (.inr h)))))))⟩
    have ah0 := ah0.ch0 ck
    have ah0_0 := ah0_0.ch0 ck
    have gp1n : (G F Bb (un O (un (inBlk (Value.pointer (some ⟨p5, 0, none⟩))) (un (inBlk (Value.pointer (some ⟨p0, 0, none⟩))) (un (inBlk az0_0) S2))))) p1 := ⟨gp1.1, (ha78 _ k4.lt gp1.2).2⟩
    have k4 := k4.ch0 ck
    have gp1 := gp1n
    have k8 := k8.ch0 ck
    have c0 := c0.then0 ck
    refine Need.one rfl rfl rfl ?_
    rintro _ e79
    obtain rfl := e79.symm
    refine rl_extract rfl rfl rfl ?_
    exact RL.nil ⟨_, rfl, Ch.refl, rfl⟩
   refine Each.consP ⟨fun _ O _ wx wy cc hh => by obtain ⟨p16, e, rfl, ck10_0⟩ := hh; exact ⟨p16, e, rfl, ck10_0.ch0 cc⟩, fun O wk hO ck => ?_⟩ ?_
   ·
    have d80 : ∀ b, inBlk (Value.pointer (some ⟨p5, 0, none⟩)) b → ¬ O b := fun b hu ho => (hO b ho).1.elim (fun h => h.elim) (fun h => Nat.not_le_of_lt (k8.ltp b hu) h)
    have d81 : ∀ b, inBlk (Value.pointer (some ⟨p0, 0, none⟩)) b → ¬ O b := fun b hu ho => (hO b ho).1.elim (fun h => h.elim) (fun h => Nat.not_le_of_lt (ah0.ltp b hu) h)
    have d82 : ∀ b, inBlk az0_0 b → ¬ O b := fun b hu ho => (hO b ho).1.elim (fun h => h.elim) (fun h => Nat.not_le_of_lt (ah0_0.ltp b hu) h)
    have ha83 : ∀ b, b < w6.heap.size → ¬ (un (inBlk (Value.pointer (some ⟨p5, 0, none⟩))) (un (inBlk (Value.pointer (some ⟨p0, 0, none⟩))) (un (inBlk az0_0) S2))) b → ¬ nb b ∧ ¬ (un O (un (inBlk (Value.pointer (some ⟨p5, 0, none⟩))) (un (inBlk (Value.pointer (some ⟨p0, 0, none⟩))) (un (inBlk az0_0) S2)))) b := fun b hb hs => ⟨fun h => h, fun h => un_el h (fun ho => (hO b ho).1.elim (fun h => h.elim) (fun h => Nat.not_le_of_lt hb h)) (fun h => un_el h (fun h => hs (.inl h)) (fun h => un_el h (fun h => hs (.inr (.inl h))) (fun h => un_el h (fun h => hs (.inr (.inr (.inl h)))) (fun h => hs (.inr (.inr (.inr h)))))))⟩
    have ah0 := ah0.ch0 ck
    have ah0_0 := ah0_0.ch0 ck
    have gp1n : (G F Bb (un O (un (inBlk (Value.pointer (some ⟨p5, 0, none⟩))) (un (inBlk (Value.pointer (some ⟨p0, 0, none⟩))) (un (inBlk az0_0) S2))))) p1 := ⟨gp1.1, (ha83 _ k4.lt gp1.2).2⟩
    have k4 := k4.ch0 ck
    have gp1 := gp1n
    have k8 := k8.ch0 ck
    have c0 := c0.then0 ck
    refine rl_alloc (Tie.enc Tie.z) Try.zeroValue30 rfl rfl ?_
    intro p84 w85 n86 k87
    have lo88 : ∀ b, inBlk (Value.pointer (some ⟨p84, 0, none⟩)) b → w.heap.size ≤ b := fun b h => Nat.le_trans c0.size (n86.fresh b h)
    have d89 : ∀ b, inBlk (Value.pointer (some ⟨p84, 0, none⟩)) b → ¬ O b := disNew n86.fresh (fun b h => (hO b h).2)
    have d90 : ∀ b, inBlk (Value.pointer (some ⟨p84, 0, none⟩)) b → ¬ inBlk (Value.pointer (some ⟨p5, 0, none⟩)) b := disNew n86.fresh k8.ltp
    have d91 : ∀ b, inBlk (Value.pointer (some ⟨p84, 0, none⟩)) b → ¬ inBlk (Value.pointer (some ⟨p0, 0, none⟩)) b := disNew n86.fresh ah0.ltp
    have d92 : ∀ b, inBlk (Value.pointer (some ⟨p84, 0, none⟩)) b → ¬ inBlk az0_0 b := disNew n86.fresh ah0_0.ltp
    have ah0 := ah0.ch0 n86.ch
    have ah0_0 := ah0_0.ch0 n86.ch
    have gp1n : (G F Bb (un (inBlk (Value.pointer (some ⟨p84, 0, none⟩))) (un O (un (inBlk (Value.pointer (some ⟨p5, 0, none⟩))) (un (inBlk (Value.pointer (some ⟨p0, 0, none⟩))) (un (inBlk az0_0) S2)))))) p1 := ⟨gp1.1, ((admNew n86.fresh (fun _ x => x)) _ k4.lt gp1.2).2⟩
    have k4 := k4.ch0 n86.ch
    have gp1 := gp1n
    have k8 := k8.ch0 n86.ch
    have c0 := c0.then0 n86.ch
    have hb93 : ∀ b, (inBlk (Value.pointer (some ⟨p84, 0, none⟩))) b → wk.heap.size ≤ b ∧ b < w85.heap.size := fun b h => ⟨n86.fresh b h, k87.ltp b h⟩
    exact RL.nil ⟨_, (inBlk (Value.pointer (some ⟨p84, 0, none⟩))), rfl, hb93, n86.ch, ⟨p84, rfl, rfl, k87⟩⟩
   refine Each.consO ⟨fun _ O _ wx wy cc hh => by obtain ⟨p16, eh, e, rfl, ck11_0⟩ := hh; exact ⟨p16, eh, e, rfl, ck11_0.ch0 cc⟩, fun hv Op O wk hO ck hO0 => ?_⟩ ?_
   ·
    obtain ⟨hl, hB⟩ := hO0 rfl
    refine Need.made rfl rfl rfl rfl ?_
    rintro _ ⟨p16, e94, eO95, ck10_0⟩ hh96
    obtain rfl := e94.symm
    have io97 : ∀ b, inBlk (Value.pointer (some ⟨p16, 0, none⟩)) b → _ := fun b h => (Eq.mpr (congrFun eO95 b) h)
    have hf98 : ∀ b, inBlk (Value.pointer (some ⟨p16, 0, none⟩)) b → w6.heap.size ≤ b := fun b h => (hB.2.2.1 _ b (io97 b h)).1
    obtain rfl := hist_eq [(Value.pointer (some ⟨p16, 0, none⟩))] hv hl ⟨hh96, trivial⟩
    have lo99 : ∀ b, inBlk (Value.pointer (some ⟨p16, 0, none⟩)) b → w.heap.size ≤ b := fun b h => Nat.le_trans c0.size (hf98 b h)
    have d100 : ∀ b, inBlk (Value.pointer (some ⟨p16, 0, none⟩)) b → ¬ inBlk (Value.pointer (some ⟨p5, 0, none⟩)) b := disNew hf98 k8.ltp
    have d101 : ∀ b, inBlk (Value.pointer (some ⟨p16, 0, none⟩)) b → ¬ inBlk (Value.pointer (some ⟨p0, 0, none⟩)) b := disNew hf98 ah0.ltp
    have d102 : ∀ b, inBlk (Value.pointer (some ⟨p16, 0, none⟩)) b → ¬ inBlk az0_0 b := disNew hf98 ah0_0.ltp
    have ah0 := ah0.ch0 hB.2.1
    have ah0_0 := ah0_0.ch0 hB.2.1
    have gp1n : (G F Bb (un (inBlk (Value.pointer (some ⟨p16, 0, none⟩))) (un (inBlk (Value.pointer (some ⟨p5, 0, none⟩))) (un (inBlk (Value.pointer (some ⟨p0, 0, none⟩))) (un (inBlk az0_0) S2))))) p1 := ⟨gp1.1, ((show ∀ b, b < w6.heap.size → ¬ (un (inBlk (Value.pointer (some ⟨p5, 0, none⟩))) (un (inBlk (Value.pointer (some ⟨p0, 0, none⟩))) (un (inBlk az0_0) S2))) b → ¬ nb b ∧ ¬ (un (inBlk (Value.pointer (some ⟨p16, 0, none⟩))) (un (inBlk (Value.pointer (some ⟨p5, 0, none⟩))) (un (inBlk (Value.pointer (some ⟨p0, 0, none⟩))) (un (inBlk az0_0) S2)))) b from fun b hb hs => ⟨fun x => x, fun h => un_el h (fun h => Nat.not_le_of_lt hb (hf98 b h)) (fun h => hs h)⟩) _ k4.lt gp1.2).2⟩
    have k4 := k4.ch0 hB.2.1
    have gp1 := gp1n
    have k8 := k8.ch0 hB.2.1
    have c0 := c0.then0 hB.2.1
    refine Need.one rfl rfl rfl ?_
    rintro _ e103
    obtain rfl := e103.symm
    refine rl_storeA (vs := (Tie.enc ((mget a0.all y14).getD Tie.z))) rfl rfl (all_one rfl) Try.sizeOf30 rfl ck10_0 rfl ?_
    intro w104 s106 c105 k107
    have ad108 : ∀ b, b < wk.heap.size → ¬ (un (inBlk (Value.pointer (some ⟨p16, 0, none⟩))) (un (inBlk (Value.pointer (some ⟨p5, 0, none⟩))) (un (inBlk (Value.pointer (some ⟨p0, 0, none⟩))) (un (inBlk az0_0) S2)))) b → ¬ (inBlk (Value.pointer (some ⟨p16, 0, none⟩))) b ∧ ¬ (un (inBlk (Value.pointer (some ⟨p16, 0, none⟩))) (un (inBlk (Value.pointer (some ⟨p5, 0, none⟩))) (un (inBlk (Value.pointer (some ⟨p0, 0, none⟩))) (un (inBlk az0_0) S2)))) b := fun b _ hs => ⟨fun h => hs (.inl h), hs⟩
    have ah0 := ah0.ch c105 ((fun b hb h => (disSym d101) b hb h) _ rfl)
    have ah0_0 := ah0_0.ch c105 ((fun b hb h => (disSym d102) b hb h))
    have k4 := k4.ch c105 (ad108 _ k4.lt gp1.2).1
    have k8 := k8.ch c105 ((fun b hb h => (disSym d100) b hb h) _ rfl)
    have c0 := c0.then c105 (fun i hi h => absurd (lo99 i h) (Nat.not_le_of_lt hi))
    have hb109 : ∀ b, (inBlk (Value.pointer (some ⟨p16, 0, none⟩))) b → (O b ∨ wk.heap.size ≤ b) ∧ b < w104.heap.size := fun b h => ⟨.inl ((hB.1 b).2 (.inr ⟨_, inPre rfl, io97 b h⟩)), k107.ltp b h⟩
    exact RL.nil ⟨_, (inBlk (Value.pointer (some ⟨p16, 0, none⟩))), rfl, hb109, (c105.mono (fun b _ h => ((hB.1 b).2 (.inr ⟨_, inPre rfl, io97 b h⟩)))), ⟨p16, rfl, rfl, rfl, k107⟩⟩
   trivial
  ·
   intro hvO112 OpO112 O112 w110 hO113 c111 hN114
   have ol115 : ∀ b, inBlk (Value.pointer (some ⟨p5, 0, none⟩)) b → b < w6.heap.size := k8.ltp
   have ol116 : ∀ b, inBlk (Value.pointer (some ⟨p0, 0, none⟩)) b → b < w6.heap.size := ah0.ltp
   have ol117 : ∀ b, inBlk az0_0 b → b < w6.heap.size := ah0_0.ltp
   refine Need.hereN rfl rfl rfl rfl ?_
   rintro ⟨p16, rfl, _, rfl, ck11_0⟩
   have lo119 : ∀ b, inBlk (Value.pointer (some ⟨p16, 0, none⟩)) b → w.heap.size ≤ b := fun b h => (hO113 b h).1.elim (fun h => h.elim) (Nat.le_trans c0.size)
   have d120 : ∀ b, inBlk (Value.pointer (some ⟨p16, 0, none⟩)) b → ¬ inBlk (Value.pointer (some ⟨p5, 0, none⟩)) b := fun b h hu => (hO113 b h).1.elim (fun h => h.elim) (fun h => Nat.not_le_of_lt (ol115 b hu) h)
   have d121 : ∀ b, inBlk (Value.pointer (some ⟨p16, 0, none⟩)) b → ¬ inBlk (Value.pointer (some ⟨p0, 0, none⟩)) b := fun b h hu => (hO113 b h).1.elim (fun h => h.elim) (fun h => Nat.not_le_of_lt (ol116 b hu) h)
   have d122 : ∀ b, inBlk (Value.pointer (some ⟨p16, 0, none⟩)) b → ¬ inBlk az0_0 b := fun b h hu => (hO113 b h).1.elim (fun h => h.elim) (fun h => Nat.not_le_of_lt (ol117 b hu) h)
   have ha123 : ∀ b, b < w6.heap.size → ¬ (un (inBlk (Value.pointer (some ⟨p5, 0, none⟩))) (un (inBlk (Value.pointer (some ⟨p0, 0, none⟩))) (un (inBlk az0_0) S2))) b → ¬ nb b ∧ ¬ (un (inBlk (Value.pointer (some ⟨p16, 0, none⟩))) (un (inBlk (Value.pointer (some ⟨p5, 0, none⟩))) (un (inBlk (Value.pointer (some ⟨p0, 0, none⟩))) (un (inBlk az0_0) S2)))) b := fun b hb hs => ⟨fun h => h.elim, fun h => un_el h (fun h => (hO113 b h).1.elim (fun h => h.elim) (fun h => Nat.not_le_of_lt hb h)) (fun h => un_el h (fun h => hs (.inl h)) (fun h => un_el h (fun h => hs (.inr (.inl h))) (fun h => un_el h (fun h => hs (.inr (.inr (.inl h)))) (fun h => hs (.inr (.inr (.inr h)))))))⟩
   have ah0 := ah0.ch0 c111
   have ah0_0 := ah0_0.ch0 c111
   have gp1n : (G F Bb (un (inBlk (Value.pointer (some ⟨p16, 0, none⟩))) (un (inBlk (Value.pointer (some ⟨p5, 0, none⟩))) (un (inBlk (Value.pointer (some ⟨p0, 0, none⟩))) (un (inBlk az0_0) S2))))) p1 := ⟨gp1.1, (ha123 _ k4.lt gp1.2).2⟩
   have k4 := k4.ch0 c111
   have gp1 := gp1n
   have k8 := k8.ch0 c111
   have c0 := c0.then0 c111
   refine Need.one rfl rfl rfl ?_
   rintro _ e124
   obtain rfl := e124.symm
   refine Need.hist (Value.pointer (some ⟨p16, 0, none⟩)) rfl rfl rfl rfl rfl rfl ?_
   refine rl_assign rfl rfl ?_
   refine RL.nil ?_
   refine thn_n ?_
   refine CW.seq ?_
   refine CW.seq (CW.region ?_)
   refine rl_move rfl rfl ?_
   refine rl_not rfl rfl ?_
   refine rl_move rfl rfl ?_
   obtain ⟨b128, hb129⟩ : ∃ v, ((!((mget a0.all y14).isSome)) || (lt (F7_ties_Fresh ((mget a0.all y14).getD Tie.z) a2 a3) fun y130 => !y130)) = v := ⟨_, rfl⟩
   have hS := ltS hb129 hS
   refine RL.join 6 30 (.bool b128) (fun w' => Ch nb w110 w') ?_ ?_
   · rcases Bool.eq_false_or_eq_true (!((mget a0.all y14).isSome)) with hg127 | hg127
     ·
      have hs126 := or_t hg127 hb129
      have cs : Ch nb w110 w110 := Ch.refl
      refine RL.no rfl rfl rfl hg127 rfl rfl ?_
      refine RL.no rfl rfl rfl hg127 rfl rfl ?_
      refine RL.no rfl rfl rfl hg127 rfl rfl ?_
      refine RL.no rfl rfl rfl hg127 rfl rfl ?_
      refine RL.no rfl rfl rfl hg127 rfl rfl ?_
      refine rl_pickT rfl hg127 rfl rfl ?_
      exact RL.nil ⟨Ext.bothEq (congrArg Value.bool hs126) (Ext.skip rfl (Ext.skip rfl (Ext.skip rfl (Ext.skip rfl (Ext.skip rfl (Ext.rfl')))))), cs⟩
     ·
      have hs126 := or_f hg127 hb129
      have cs : Ch nb w110 w110 := Ch.refl
      refine RL.yes rfl rfl rfl hg127 ?_
      refine rl_loadA (cs := (Tie.enc ((mget a0.all y14).getD Tie.z))) rfl Try.isAgg30 Try.sizeOf30 (ck11_0.segAt 0 40) rfl rfl ?_
      refine RL.yes rfl rfl rfl hg127 ?_
      refine rl_move rfl rfl ?_
      refine RL.yes rfl rfl rfl hg127 ?_
      refine rl_move rfl rfl ?_
      refine RL.yes rfl rfl rfl hg127 ?_
      obtain ⟨y133, hy134⟩ : ∃ y, F7_ties_Fresh ((mget a0.all y14).getD Tie.z) a2 a3 = y := ⟨_, rfl⟩
      have hs126 := ltS hy134 hs126
      refine rl_callF rfl en7 rfl (ctr7 (G F Bb (un (inBlk (Value.pointer (some ⟨p16, 0, none⟩))) (un (inBlk (Value.pointer (some ⟨p5, 0, none⟩))) (un (inBlk (Value.pointer (some ⟨p0, 0, none⟩))) (un (inBlk az0_0) S2))))) w110 ((mget a0.all y14).getD Tie.z) a2 a3 y133 hy134) ?_
      rintro _ w131 ⟨rfl, c132⟩
      have ah0 := ah0.ch0 c132
      have ah0_0 := ah0_0.ch0 c132
      have k4 := k4.ch0 c132
      have k8 := k8.ch0 c132
      have ck11_0 := ck11_0.ch0 c132
      have c0 := c0.then0 c132
      refine RL.yes rfl rfl rfl hg127 ?_
      refine rl_not rfl rfl ?_
      refine rl_pickF rfl hg127 rfl rfl ?_
      have cs := cs.then0 c132
      exact RL.nil ⟨Ext.bothEq (congrArg Value.bool hs126) (Ext.skip rfl (Ext.skip rfl (Ext.skip rfl (Ext.skip rfl (Ext.skip rfl (Ext.rfl')))))), cs⟩
   intro w130 c135
   have ah0 := ah0.ch0 c135
   have ah0_0 := ah0_0.ch0 c135
   have k4 := k4.ch0 c135
   have k8 := k8.ch0 c135
   have ck11_0 := ck11_0.ch0 c135
   have c0 := c0.then0 c135
   refine RL.nil ?_
   refine thn_n ?_
   refine CW.cond (t := b128) rfl (fun q136 => ?_) (fun q136 => ?_)
   ·
    have hS := ifT q136 hS
    refine CW.seq (CW.region ?_)
    refine rl_build (out := (Point.enc ({ addr := Addr.z, port := 0 } : Point))) rfl pl28 Try.zeroValue28 rfl rfl rfl ?_
    refine rl_storeA (vs := (Point.enc ({ addr := Addr.z, port := 0 } : Point))) rfl rfl (all_one rfl) Try.sizeOf28 rfl k8 rfl ?_
    intro w137 s139 c138 k140
    have ad141 : ∀ b, b < w130.heap.size → ¬ (un (inBlk (Value.pointer (some ⟨p16, 0, none⟩))) (un (inBlk (Value.pointer (some ⟨p5, 0, none⟩))) (un (inBlk (Value.pointer (some ⟨p0, 0, none⟩))) (un (inBlk az0_0) S2)))) b → ¬ (inBlk (Value.pointer (some ⟨p5, 0, none⟩))) b ∧ ¬ (un (inBlk (Value.pointer (some ⟨p16, 0, none⟩))) (un (inBlk (Value.pointer (some ⟨p5, 0, none⟩))) (un (inBlk (Value.pointer (some ⟨p0, 0, none⟩))) (un (inBlk az0_0) S2)))) b := fun b _ hs => ⟨fun h => hs (.inr (.inl h)), hs⟩
    have ah0 := ah0.ch c138 ((fun b hb h => (disSym d10) b hb h) _ rfl)
    have ah0_0 := ah0_0.ch c138 ((fun b hb h => (disSym d11) b hb h))
    have k4 := k4.ch c138 (ad141 _ k4.lt gp1.2).1
    have ck11_0 := ck11_0.ch c138 ((fun b hb h => d120 b hb h) _ rfl)
    have c0 := c0.then c138 (fun i hi h => absurd (lo9 i h) (Nat.not_le_of_lt hi))
    refine rl_assign rfl rfl ?_
    refine RL.nil ?_
    refine thn_n ?_
    refine CW.ret ?_
    refine thn_ret ?_
    obtain rfl := hS
    exact ⟨[_, _], ⟨Res1.agg (cs := (Point.enc ({ addr := Addr.z, port := 0 } : Point))) rfl Try.isAgg28 Try.sizeOf28 (k140.segAt 0 18) rfl, rfl, trivial⟩, ⟨rfl, c0⟩⟩
   ·
    have hS := ifF q136 hS
    refine CW.skip ?_
    refine thn_n ?_
    refine CW.seq (CW.region ?_)
    refine rl_fieldAddr rfl fa30_4 rfl ?_
    refine rl_loadA (cs := (Point.enc (((mget a0.all y14).getD Tie.z).backend))) rfl Try.isAgg28 Try.sizeOf28 (ck11_0.segAt 21 18) rfl rfl ?_
    refine rl_storeA (vs := (Point.enc (((mget a0.all y14).getD Tie.z).backend))) rfl rfl (all_one rfl) Try.sizeOf28 rfl k8 rfl ?_
    intro w142 s144 c143 k145
    have ad146 : ∀ b, b < w130.heap.size → ¬ (un (inBlk (Value.pointer (some ⟨p16, 0, none⟩))) (un (inBlk (Value.pointer (some ⟨p5, 0, none⟩))) (un (inBlk (Value.pointer (some ⟨p0, 0, none⟩))) (un (inBlk az0_0) S2)))) b → ¬ (inBlk (Value.pointer (some ⟨p5, 0, none⟩))) b ∧ ¬ (un (inBlk (Value.pointer (some ⟨p16, 0, none⟩))) (un (inBlk (Value.pointer (some ⟨p5, 0, none⟩))) (un (inBlk (Value.pointer (some ⟨p0, 0, none⟩))) (un (inBlk az0_0) S2)))) b := fun b _ hs => ⟨fun h => hs (.inr (.inl h)), hs⟩
    have ah0 := ah0.ch c143 ((fun b hb h => (disSym d10) b hb h) _ rfl)
    have ah0_0 := ah0_0.ch c143 ((fun b hb h => (disSym d11) b hb h))
    have k4 := k4.ch c143 (ad146 _ k4.lt gp1.2).1
    have ck11_0 := ck11_0.ch c143 ((fun b hb h => d120 b hb h) _ rfl)
    have c0 := c0.then c143 (fun i hi h => absurd (lo9 i h) (Nat.not_le_of_lt hi))
    refine rl_assign rfl rfl ?_
    refine RL.nil ?_
    refine thn_n ?_
    refine CW.ret ?_
    obtain rfl := hS
    exact ⟨[_, _], ⟨Res1.agg (cs := (Point.enc (((mget a0.all y14).getD Tie.z).backend))) rfl Try.isAgg28 Try.sizeOf28 (k145.segAt 0 18) rfl, rfl, trivial⟩, ⟨rfl, c0⟩⟩
end Go.Proofs.Ytokikdhilpebmaa
