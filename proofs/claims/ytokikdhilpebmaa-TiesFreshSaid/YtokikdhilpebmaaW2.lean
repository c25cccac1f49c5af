/- The walks through the code: each call comes to its printed function. Written by a program of this session. -/
import Derived.Test.YtokikdhilpebmaaM
import Derived.Test.YtokikdhilpebmaaW1
namespace Go.Proofs.Ytokikdhilpebmaa
open Go K
set_option linter.unusedVariables false
/-- (*lb/ties.Ties).Len -/
theorem ctr16 (F : Nat → Prop) (w : World) (Bb : Nat) (S2 : Nat → Prop) (hB : Bb ≤ w.heap.size) (h2 : ∀ b, S2 b → b < w.heap.size) (p0 : Nat) (az0_0 : Value) (hd2 : ∀ b, (un (inBlk (Value.pointer (some ⟨p0, 0, none⟩))) (inBlk az0_0)) b → ¬ S2 b) (hx0_1 : ∀ b, inBlk (Value.pointer (some ⟨p0, 0, none⟩)) b → ¬ inBlk az0_0 b) (a0 : Ties) (ah0 : Blk w p0 69 (Ties.c a0 az0_0)) (ah0_0 : Mp (fun x => Value.agg (Place.enc x).toArray) (fun x => Value.agg (Tie.enc x).toArray) w a0.all az0_0) (r : Int) (hs : F16_ties_Ties_Len a0 = r) :
    Ret Try.prog 16 #[(Value.pointer (some ⟨p0, 0, none⟩))] w fun v w' => v = (Value.int .i64 r) ∧ Ch nb w w' := by
  have hS := hs
  have c0 : Ch nb w w := Ch.refl
  have lin0_0 : ∀ b, inBlk (Value.pointer (some ⟨p0, 0, none⟩)) b → (un (inBlk (Value.pointer (some ⟨p0, 0, none⟩))) (inBlk az0_0)) b ∨ w.heap.size ≤ b := fun b h => .inl (.inl h)
  have lin1_0 : ∀ b, inBlk az0_0 b → (un (inBlk (Value.pointer (some ⟨p0, 0, none⟩))) (inBlk az0_0)) b ∨ w.heap.size ≤ b := fun b h => .inl (.inr h)
  refine Ret.of (n := 8) (args := [_]) (rs := [.tmp 2]) Try.func16 rfl rfl rfl rfl ?_
  refine CW.seq (CW.region ?_)
  refine rl_assign rfl rfl ?_
  refine RL.nil ?_
  refine thn_n ?_
  refine CW.seq (CW.region ?_)
  refine rl_move rfl rfl ?_
  refine rl_nilCheck rfl rfl ?_
  refine rl_fieldAddr rfl fa69_0 rfl ?_
  refine rl_loadS (v := az0_0) rfl Try.isAgg67 (ah0.cell rfl) rfl ?_
  refine rl_lenMap rfl ah0_0 Try.underlying67 rfl ?_
  refine rl_assign rfl rfl ?_
  refine RL.nil ?_
  refine thn_n ?_
  refine CW.ret ?_
  obtain rfl := hS
  exact ret1 rfl ⟨rfl, c0⟩
/-- lb/lblaw31.alive -/
theorem ctr5 (F : Nat → Prop) (w : World)  (r : Bool) (hs : F5_linkboylaw31_alive  = some r) :
    Ret Try.prog 5 #[] w fun v w' => v = (Value.bool r) ∧ Ch nb w w' := by
  have hS := hs
  have c0 : Ch nb w w := Ch.refl
  refine Ret.of (n := 42) (args := []) (rs := [.tmp 0]) Try.func5 rfl rfl rfl rfl ?_
  refine CW.seq (CW.region ?_)
  refine rl_assign rfl rfl ?_
  refine RL.nil ?_
  refine thn_n ?_
  refine CW.seq (CW.region ?_)
  obtain ⟨y3, hy4⟩ : ∃ y, F11_ties_New = y := ⟨_, rfl⟩
  have hS := ltS hy4 hS
  refine rl_callF rfl en11 rfl (ctr11 (G F w.heap.size nb) w  y3 hy4) ?_
  rintro _ w1 ⟨p5, z8, rfl, h6, h7, hf9, hf10, d11, c2⟩
  have lo12 : ∀ b, inBlk (Value.pointer (some ⟨p5, 0, none⟩)) b → w.heap.size ≤ b := fun b h => Nat.le_trans c0.size (hf9 b h)
  have lo13 : ∀ b, inBlk z8 b → w.heap.size ≤ b := fun b h => Nat.le_trans c0.size (hf10 b h)
  have c0 := c0.then0 c2
  refine rl_assign rfl rfl ?_
  refine RL.nil ?_
  refine thn_n ?_
  refine CW.seq ?_
  refine CW.seq (CW.region ?_)
  refine rl_move rfl rfl ?_
  refine rl_bin rfl rfl (B.eqlPN Try.underlying43) rfl ?_
  refine RL.nil ?_
  refine thn_n ?_
  refine CW.no rfl ?_
  refine CW.skip ?_
  refine thn_n ?_
  refine CW.seq (CW.region ?_)
  refine rl_build (out := (Point.enc ({ addr := Addr.z, port := 7 } : Point))) rfl pl28 Try.zeroValue28 rfl rfl rfl ?_
  refine rl_build (out := (Tie.enc ({ client := Addr.z, service := Key.z, name := ⟨#[]⟩, localF := false, backend := ({ addr := Addr.z, port := 7 } : Point), last := 0 } : Tie))) rfl pl30 Try.zeroValue30 rfl rfl rfl ?_
  refine rl_alloc (Tie.enc Tie.z) Try.zeroValue30 rfl rfl ?_
  intro p14 w15 n16 k17
  have lo18 : ∀ b, inBlk (Value.pointer (some ⟨p14, 0, none⟩)) b → w.heap.size ≤ b := fun b h => Nat.le_trans c0.size (n16.fresh b h)
  have d19 : ∀ b, inBlk (Value.pointer (some ⟨p14, 0, none⟩)) b → ¬ inBlk (Value.pointer (some ⟨p5, 0, none⟩)) b := disNew n16.fresh h6.ltp
  have d20 : ∀ b, inBlk (Value.pointer (some ⟨p14, 0, none⟩)) b → ¬ inBlk z8 b := disNew n16.fresh h7.ltp
  have h6 := h6.ch0 n16.ch
  have h7 := h7.ch0 n16.ch
  have c0 := c0.then0 n16.ch
  refine rl_storeA (vs := (Tie.enc ({ client := Addr.z, service := Key.z, name := ⟨#[]⟩, localF := false, backend := ({ addr := Addr.z, port := 7 } : Point), last := 0 } : Tie))) rfl rfl (all_one rfl) Try.sizeOf30 rfl k17 rfl ?_
  intro w21 s23 c22 k24
  have ad25 : ∀ b, b < w15.heap.size → ¬ (un (inBlk (Value.pointer (some ⟨p14, 0, none⟩))) (un (inBlk (Value.pointer (some ⟨p5, 0, none⟩))) (un (inBlk z8) nb))) b → ¬ (inBlk (Value.pointer (some ⟨p14, 0, none⟩))) b ∧ ¬ (un (inBlk (Value.pointer (some ⟨p14, 0, none⟩))) (un (inBlk (Value.pointer (some ⟨p5, 0, none⟩))) (un (inBlk z8) nb))) b := fun b _ hs => ⟨fun h => hs (.inl h), hs⟩
  have h6 := h6.ch c22 ((fun b hb h => (disSym d19) b hb h) _ rfl)
  have h7 := h7.ch c22 ((fun b hb h => (disSym d20) b hb h))
  have c0 := c0.then c22 (fun i hi h => absurd (lo18 i h) (Nat.not_le_of_lt hi))
  refine RL.nil ?_
  refine thn_n ?_
  refine CW.seq (CW.region ?_)
  refine rl_move rfl rfl ?_
  refine rl_loadA (cs := (Tie.enc ({ client := Addr.z, service := Key.z, name := ⟨#[]⟩, localF := false, backend := ({ addr := Addr.z, port := 7 } : Point), last := 0 } : Tie))) rfl Try.isAgg30 Try.sizeOf30 (k24.segAt 0 40) rfl rfl ?_
  have hd26 : ∀ b, (un (inBlk (Value.pointer (some ⟨p5, 0, none⟩))) (inBlk z8)) b → ¬ (un (inBlk (Value.pointer (some ⟨p14, 0, none⟩))) nb) b := fun b h => un_el h (fun h => (fun b hb => fun h => un_el h (fun h => (disSym d19) b hb h) (fun h => h)) b h) (fun h => (fun b hb => fun h => un_el h (fun h => (disSym d20) b hb h) (fun h => h)) b h)
  have hS27 : (un (inBlk (Value.pointer (some ⟨p14, 0, none⟩))) (un (inBlk (Value.pointer (some ⟨p5, 0, none⟩))) (un (inBlk z8) nb))) = (un (inBlk (Value.pointer (some ⟨p5, 0, none⟩))) (un (inBlk z8) (un (inBlk (Value.pointer (some ⟨p14, 0, none⟩))) nb))) := funext fun b => propext ⟨fun h => un_el h (fun h => (.inr (.inr (.inl h)))) (fun h => un_el h (fun h => (.inl h)) (fun h => un_el h (fun h => (.inr (.inl h))) (fun h => False.elim h))), fun h => un_el h (fun h => (.inr (.inl h))) (fun h => un_el h (fun h => (.inr (.inr (.inl h)))) (fun h => un_el h (fun h => (.inl h)) (fun h => False.elim h)))⟩
  obtain ⟨y30, hy31, hS⟩ := bindS hS
  refine rl_callF rfl en19 rfl (ctr19 F w21 w.heap.size (un (inBlk (Value.pointer (some ⟨p14, 0, none⟩))) nb) c0.size (un_lt k24.ltp nbS) p5 z8 hd26 d11 y3 h6 h7 ({ client := Addr.z, service := Key.z, name := ⟨#[]⟩, localF := false, backend := ({ addr := Addr.z, port := 7 } : Point), last := 0 } : Tie) 3 y30 hy31) ?_
  rintro _ w28 ⟨z32, rfl, h33, h34, hf35, d36, c29⟩
  have lo37 : ∀ b, inBlk z32 b → w.heap.size ≤ b := fun b h => (hf35 b h).elim (fun h => un_el h (fun h => lo12 b h) (fun h => lo13 b h)) (Nat.le_trans c0.size)
  have d38 : ∀ b, inBlk z32 b → ¬ inBlk (Value.pointer (some ⟨p14, 0, none⟩)) b := fun b h hu => (hf35 b h).elim (fun h => un_el h (fun h => (disSym d19) b h hu) (fun h => (disSym d20) b h hu)) (fun h => Nat.not_le_of_lt (k24.ltp b hu) h)
  have hS39 : (un (inBlk (Value.pointer (some ⟨p14, 0, none⟩))) (un (inBlk (Value.pointer (some ⟨p5, 0, none⟩))) (un (inBlk z32) nb))) = (un (inBlk (Value.pointer (some ⟨p5, 0, none⟩))) (un (inBlk z32) (un (inBlk (Value.pointer (some ⟨p14, 0, none⟩))) nb))) := funext fun b => propext ⟨fun h => un_el h (fun h => (.inr (.inr (.inl h)))) (fun h => un_el h (fun h => (.inl h)) (fun h => un_el h (fun h => (.inr (.inl h))) (fun h => False.elim h))), fun h => un_el h (fun h => (.inr (.inl h))) (fun h => un_el h (fun h => (.inr (.inr (.inl h)))) (fun h => un_el h (fun h => (.inl h)) (fun h => False.elim h)))⟩
  have ha40 : ∀ b, b < w21.heap.size → ¬ (un (inBlk (Value.pointer (some ⟨p14, 0, none⟩))) (un (inBlk (Value.pointer (some ⟨p5, 0, none⟩))) (un (inBlk z8) nb))) b → ¬ (un (inBlk (Value.pointer (some ⟨p5, 0, none⟩))) (inBlk z8)) b ∧ ¬ (un (inBlk (Value.pointer (some ⟨p14, 0, none⟩))) (un (inBlk (Value.pointer (some ⟨p5, 0, none⟩))) (un (inBlk z32) nb))) b := fun b hb hs => ⟨fun h => un_el h (fun h => hs (.inr (.inl h))) (fun h => hs (.inr (.inr (.inl h)))), fun h => un_el h (fun h => hs (.inl h)) (fun h => un_el h (fun h => hs (.inr (.inl h))) (fun h => un_el h (fun h => (hf35 b h).elim (fun h => un_el h (fun h => hs (.inr (.inl h))) (fun h => hs (.inr (.inr (.inl h))))) (fun h => Nat.not_le_of_lt hb h)) (fun h => False.elim h)))⟩
  have k24 := k24.ch c29 ((fun b hb h => un_el h (fun h => d19 b hb h) (fun h => d20 b hb h)) _ rfl)
  have c0 := c0.then c29 (fun i hi h => un_el h (fun h => absurd (lo12 i h) (Nat.not_le_of_lt hi)) (fun h => absurd (lo13 i h) (Nat.not_le_of_lt hi)))
  refine RL.nil ?_
  refine thn_n ?_
  refine CW.seq (CW.region ?_)
  refine rl_move rfl rfl ?_
  refine rl_loadA (cs := (Tie.enc ({ client := Addr.z, service := Key.z, name := ⟨#[]⟩, localF := false, backend := ({ addr := Addr.z, port := 7 } : Point), last := 0 } : Tie))) rfl Try.isAgg30 Try.sizeOf30 (k24.segAt 0 40) rfl rfl ?_
  have hd41 : ∀ b, (un (inBlk (Value.pointer (some ⟨p5, 0, none⟩))) (inBlk z32)) b → ¬ (un (inBlk (Value.pointer (some ⟨p14, 0, none⟩))) nb) b := fun b h => un_el h (fun h => (fun b hb => fun h => un_el h (fun h => (disSym d19) b hb h) (fun h => h)) b h) (fun h => (fun b hb => fun h => un_el h (fun h => d38 b hb h) (fun h => h)) b h)
  have hS42 : (un (inBlk (Value.pointer (some ⟨p14, 0, none⟩))) (un (inBlk (Value.pointer (some ⟨p5, 0, none⟩))) (un (inBlk z32) nb))) = (un (inBlk (Value.pointer (some ⟨p5, 0, none⟩))) (un (inBlk z32) (un (inBlk (Value.pointer (some ⟨p14, 0, none⟩))) nb))) := funext fun b => propext ⟨fun h => un_el h (fun h => (.inr (.inr (.inl h)))) (fun h => un_el h (fun h => (.inl h)) (fun h => un_el h (fun h => (.inr (.inl h))) (fun h => False.elim h))), fun h => un_el h (fun h => (.inr (.inl h))) (fun h => un_el h (fun h => (.inr (.inr (.inl h)))) (fun h => un_el h (fun h => (.inl h)) (fun h => False.elim h)))⟩
  obtain ⟨y45, hy46⟩ : ∃ y, F17_ties_Ties_Get y30.2.2 ({ client := Addr.z, service := Key.z, name := ⟨#[]⟩, localF := false, backend := ({ addr := Addr.z, port := 7 } : Point), last := 0 } : Tie) 10 12 = y := ⟨_, rfl⟩
  have hS := ltS hy46 hS
  refine rl_callF rfl en17 rfl (ctr17 F w28 w.heap.size (un (inBlk (Value.pointer (some ⟨p14, 0, none⟩))) nb) c0.size (un_lt k24.ltp nbS) p5 z32 hd41 d36 y30.2.2 h33 h34 ({ client := Addr.z, service := Key.z, name := ⟨#[]⟩, localF := false, backend := ({ addr := Addr.z, port := 7 } : Point), last := 0 } : Tie) 10 12 y45 hy46) ?_
  rintro _ w43 ⟨rfl, c44⟩
  have k24 := k24.ch0 c44
  have h33 := h33.ch0 c44
  have h34 := h34.ch0 c44
  have c0 := c0.then0 c44
  refine rl_move rfl rfl ?_
  refine rl_extract rfl rfl rfl ?_
  refine rl_extract rfl rfl rfl ?_
  refine rl_alloc (Point.enc Point.z) Try.zeroValue28 rfl rfl ?_
  intro p47 w48 n49 k50
  have lo51 : ∀ b, inBlk (Value.pointer (some ⟨p47, 0, none⟩)) b → w.heap.size ≤ b := fun b h => Nat.le_trans c0.size (n49.fresh b h)
  have d52 : ∀ b, inBlk (Value.pointer (some ⟨p47, 0, none⟩)) b → ¬ inBlk (Value.pointer (some ⟨p14, 0, none⟩)) b := disNew n49.fresh k24.ltp
  have d53 : ∀ b, inBlk (Value.pointer (some ⟨p47, 0, none⟩)) b → ¬ inBlk (Value.pointer (some ⟨p5, 0, none⟩)) b := disNew n49.fresh h33.ltp
  have d54 : ∀ b, inBlk (Value.pointer (some ⟨p47, 0, none⟩)) b → ¬ inBlk z32 b := disNew n49.fresh h34.ltp
  have k24 := k24.ch0 n49.ch
  have h33 := h33.ch0 n49.ch
  have h34 := h34.ch0 n49.ch
  have c0 := c0.then0 n49.ch
  refine rl_storeA (vs := (Point.enc y45.1)) rfl rfl (all_one rfl) Try.sizeOf28 rfl k50 rfl ?_
  intro w55 s57 c56 k58
  have ad59 : ∀ b, b < w48.heap.size → ¬ (un (inBlk (Value.pointer (some ⟨p47, 0, none⟩))) (un (inBlk (Value.pointer (some ⟨p14, 0, none⟩))) (un (inBlk (Value.pointer (some ⟨p5, 0, none⟩))) (un (inBlk z32) nb)))) b → ¬ (inBlk (Value.pointer (some ⟨p47, 0, none⟩))) b ∧ ¬ (un (inBlk (Value.pointer (some ⟨p47, 0, none⟩))) (un (inBlk (Value.pointer (some ⟨p14, 0, none⟩))) (un (inBlk (Value.pointer (some ⟨p5, 0, none⟩))) (un (inBlk z32) nb)))) b := fun b _ hs => ⟨fun h => hs (.inl h), hs⟩
  have k24 := k24.ch c56 ((fun b hb h => (disSym d52) b hb h) _ rfl)
  have h33 := h33.ch c56 ((fun b hb h => (disSym d53) b hb h) _ rfl)
  have h34 := h34.ch c56 ((fun b hb h => (disSym d54) b hb h))
  have c0 := c0.then c56 (fun i hi h => absurd (lo51 i h) (Nat.not_le_of_lt hi))
  refine rl_assign rfl rfl ?_
  refine RL.nil ?_
  refine thn_n ?_
  refine CW.seq (CW.region ?_)
  refine rl_move rfl rfl ?_
  refine rl_loadA (cs := (Tie.enc ({ client := Addr.z, service := Key.z, name := ⟨#[]⟩, localF := false, backend := ({ addr := Addr.z, port := 7 } : Point), last := 0 } : Tie))) rfl Try.isAgg30 Try.sizeOf30 (k24.segAt 0 40) rfl rfl ?_
  have hd60 : ∀ b, (un (inBlk (Value.pointer (some ⟨p5, 0, none⟩))) (inBlk z32)) b → ¬ (un (inBlk (Value.pointer (some ⟨p47, 0, none⟩))) (un (inBlk (Value.pointer (some ⟨p14, 0, none⟩))) nb)) b := fun b h => un_el h (fun h => (fun b hb => fun h => un_el h (fun h => (disSym d53) b hb h) (fun h => un_el h (fun h => (disSym d19) b hb h) (fun h => h))) b h) (fun h => (fun b hb => fun h => un_el h (fun h => (disSym d54) b hb h) (fun h => un_el h (fun h => d38 b hb h) (fun h => h))) b h)
  have hS61 : (un (inBlk (Value.pointer (some ⟨p47, 0, none⟩))) (un (inBlk (Value.pointer (some ⟨p14, 0, none⟩))) (un (inBlk (Value.pointer (some ⟨p5, 0, none⟩))) (un (inBlk z32) nb)))) = (un (inBlk (Value.pointer (some ⟨p5, 0, none⟩))) (un (inBlk z32) (un (inBlk (Value.pointer (some ⟨p47, 0, none⟩))) (un (inBlk (Value.pointer (some ⟨p14, 0, none⟩))) nb)))) := funext fun b => propext ⟨fun h => un_el h (fun h => (.inr (.inr (.inl h)))) (fun h => un_el h (fun h => (.inr (.inr (.inr (.inl h))))) (fun h => un_el h (fun h => (.inl h)) (fun h => un_el h (fun h => (.inr (.inl h))) (fun h => False.elim h)))), fun h => un_el h (fun h => (.inr (.inr (.inl h)))) (fun h => un_el h (fun h => (.inr (.inr (.inr (.inl h))))) (fun h => un_el h (fun h => (.inl h)) (fun h => un_el h (fun h => (.inr (.inl h))) (fun h => False.elim h))))⟩
  obtain ⟨y64, hy65⟩ : ∃ y, F17_ties_Ties_Get y30.2.2 ({ client := Addr.z, service := Key.z, name := ⟨#[]⟩, localF := false, backend := ({ addr := Addr.z, port := 7 } : Point), last := 0 } : Tie) 10 13 = y := ⟨_, rfl⟩
  have hS := ltS hy65 hS
  refine rl_callF rfl en17 rfl (ctr17 F w55 w.heap.size (un (inBlk (Value.pointer (some ⟨p47, 0, none⟩))) (un (inBlk (Value.pointer (some ⟨p14, 0, none⟩))) nb)) c0.size (un_lt k58.ltp (un_lt k24.ltp nbS)) p5 z32 hd60 d36 y30.2.2 h33 h34 ({ client := Addr.z, service := Key.z, name := ⟨#[]⟩, localF := false, backend := ({ addr := Addr.z, port := 7 } : Point), last := 0 } : Tie) 10 13 y64 hy65) ?_
  rintro _ w62 ⟨rfl, c63⟩
  have k24 := k24.ch0 c63
  have h33 := h33.ch0 c63
  have h34 := h34.ch0 c63
  have k58 := k58.ch0 c63
  have c0 := c0.then0 c63
  refine rl_move rfl rfl ?_
  refine rl_extract rfl rfl rfl ?_
  refine rl_extract rfl rfl rfl ?_
  refine rl_alloc (Point.enc Point.z) Try.zeroValue28 rfl rfl ?_
  intro p66 w67 n68 k69
  have lo70 : ∀ b, inBlk (Value.pointer (some ⟨p66, 0, none⟩)) b → w.heap.size ≤ b := fun b h => Nat.le_trans c0.size (n68.fresh b h)
  have d71 : ∀ b, inBlk (Value.pointer (some ⟨p66, 0, none⟩)) b → ¬ inBlk (Value.pointer (some ⟨p47, 0, none⟩)) b := disNew n68.fresh k58.ltp
  have d72 : ∀ b, inBlk (Value.pointer (some ⟨p66, 0, none⟩)) b → ¬ inBlk (Value.pointer (some ⟨p14, 0, none⟩)) b := disNew n68.fresh k24.ltp
  have d73 : ∀ b, inBlk (Value.pointer (some ⟨p66, 0, none⟩)) b → ¬ inBlk (Value.pointer (some ⟨p5, 0, none⟩)) b := disNew n68.fresh h33.ltp
  have d74 : ∀ b, inBlk (Value.pointer (some ⟨p66, 0, none⟩)) b → ¬ inBlk z32 b := disNew n68.fresh h34.ltp
  have k24 := k24.ch0 n68.ch
  have h33 := h33.ch0 n68.ch
  have h34 := h34.ch0 n68.ch
  have k58 := k58.ch0 n68.ch
  have c0 := c0.then0 n68.ch
  refine rl_storeA (vs := (Point.enc y64.1)) rfl rfl (all_one rfl) Try.sizeOf28 rfl k69 rfl ?_
  intro w75 s77 c76 k78
  have ad79 : ∀ b, b < w67.heap.size → ¬ (un (inBlk (Value.pointer (some ⟨p66, 0, none⟩))) (un (inBlk (Value.pointer (some ⟨p47, 0, none⟩))) (un (inBlk (Value.pointer (some ⟨p14, 0, none⟩))) (un (inBlk (Value.pointer (some ⟨p5, 0, none⟩))) (un (inBlk z32) nb))))) b → ¬ (inBlk (Value.pointer (some ⟨p66, 0, none⟩))) b ∧ ¬ (un (inBlk (Value.pointer (some ⟨p66, 0, none⟩))) (un (inBlk (Value.pointer (some ⟨p47, 0, none⟩))) (un (inBlk (Value.pointer (some ⟨p14, 0, none⟩))) (un (inBlk (Value.pointer (some ⟨p5, 0, none⟩))) (un (inBlk z32) nb))))) b := fun b _ hs => ⟨fun h => hs (.inl h), hs⟩
  have k24 := k24.ch c76 ((fun b hb h => (disSym d72) b hb h) _ rfl)
  have h33 := h33.ch c76 ((fun b hb h => (disSym d73) b hb h) _ rfl)
  have h34 := h34.ch c76 ((fun b hb h => (disSym d74) b hb h))
  have k58 := k58.ch c76 ((fun b hb h => (disSym d71) b hb h) _ rfl)
  have c0 := c0.then c76 (fun i hi h => absurd (lo70 i h) (Nat.not_le_of_lt hi))
  refine rl_assign rfl rfl ?_
  refine RL.nil ?_
  refine thn_n ?_
  refine CW.seq (CW.region ?_)
  refine rl_move rfl rfl ?_
  refine rl_move rfl rfl ?_
  obtain ⟨b82, hb83⟩ : ∃ v, (y45.2 && (decide (y45.1.port = 7))) = v := ⟨_, rfl⟩
  have hS := ltS hb83 hS
  refine RL.join 4 32 (.bool b82) (fun w' => Ch nb w75 w') ?_ ?_
  · rcases Bool.eq_false_or_eq_true y45.2 with hg81 | hg81
    ·
     have hs80 := and_t hg81 hb83
     have cs : Ch nb w75 w75 := Ch.refl
     refine RL.yes rfl rfl rfl hg81 ?_
     refine rl_fieldAddr rfl fa28_1 rfl ?_
     refine RL.yes rfl rfl rfl hg81 ?_
     refine rl_loadS (v := (Value.int .i64 y45.1.port)) rfl Try.isAgg3 (k58.cell rfl) rfl ?_
     refine RL.yes rfl rfl rfl hg81 ?_
     refine rl_bin rfl rfl B.eql rfl ?_
     refine rl_pickT rfl hg81 rfl rfl ?_
     exact RL.nil ⟨Ext.bothEq (congrArg Value.bool hs80) (Ext.skip rfl (Ext.skip rfl (Ext.skip rfl (Ext.rfl')))), cs⟩
    ·
     have hs80 := and_f hg81 hb83
     have cs : Ch nb w75 w75 := Ch.refl
     refine RL.no rfl rfl rfl hg81 rfl rfl ?_
     refine RL.no rfl rfl rfl hg81 rfl rfl ?_
     refine RL.no rfl rfl rfl hg81 rfl rfl ?_
     refine rl_pickF rfl hg81 rfl rfl ?_
     exact RL.nil ⟨Ext.bothEq (congrArg Value.bool hs80) (Ext.skip rfl (Ext.skip rfl (Ext.skip rfl (Ext.rfl')))), cs⟩
  intro w84 c85
  have k24 := k24.ch0 c85
  have h33 := h33.ch0 c85
  have h34 := h34.ch0 c85
  have k58 := k58.ch0 c85
  have k78 := k78.ch0 c85
  have c0 := c0.then0 c85
  refine rl_move rfl rfl ?_
  obtain ⟨b88, hb89⟩ : ∃ v, (b82 && (!y64.2)) = v := ⟨_, rfl⟩
  have hS := ltS hb89 hS
  refine RL.join 3 36 (.bool b88) (fun w' => Ch nb w84 w') ?_ ?_
  · rcases Bool.eq_false_or_eq_true b82 with hg87 | hg87
    ·
     have hs86 := and_t hg87 hb89
     have cs : Ch nb w84 w84 := Ch.refl
     refine RL.yes rfl rfl rfl hg87 ?_
     refine rl_move rfl rfl ?_
     refine RL.yes rfl rfl rfl hg87 ?_
     refine rl_not rfl rfl ?_
     refine rl_pickT rfl hg87 rfl rfl ?_
     exact RL.nil ⟨Ext.bothEq (congrArg Value.bool hs86) (Ext.skip rfl (Ext.skip rfl (Ext.rfl'))), cs⟩
    ·
     have hs86 := and_f hg87 hb89
     have cs : Ch nb w84 w84 := Ch.refl
     refine RL.no rfl rfl rfl hg87 rfl rfl ?_
     refine RL.no rfl rfl rfl hg87 rfl rfl ?_
     refine rl_pickF rfl hg87 rfl rfl ?_
     exact RL.nil ⟨Ext.bothEq (congrArg Value.bool hs86) (Ext.skip rfl (Ext.skip rfl (Ext.rfl'))), cs⟩
  intro w90 c91
  have k24 := k24.ch0 c91
  have h33 := h33.ch0 c91
  have h34 := h34.ch0 c91
  have k58 := k58.ch0 c91
  have k78 := k78.ch0 c91
  have c0 := c0.then0 c91
  refine rl_move rfl rfl ?_
  obtain ⟨b94, hb95⟩ : ∃ v, (b88 && (lt (F16_ties_Ties_Len y30.2.2) fun y98 => decide (y98 = 1))) = v := ⟨_, rfl⟩
  have hS := ltS hb95 hS
  refine RL.join 4 41 (.bool b94) (fun w' => Ch nb w90 w') ?_ ?_
  · rcases Bool.eq_false_or_eq_true b88 with hg93 | hg93
    ·
     have hs92 := and_t hg93 hb95
     have cs : Ch nb w90 w90 := Ch.refl
     refine RL.yes rfl rfl rfl hg93 ?_
     refine rl_move rfl rfl ?_
     refine RL.yes rfl rfl rfl hg93 ?_
     have hd97 : ∀ b, (un (inBlk (Value.pointer (some ⟨p5, 0, none⟩))) (inBlk z32)) b → ¬ (un (inBlk (Value.pointer (some ⟨p66, 0, none⟩))) (un (inBlk (Value.pointer (some ⟨p47, 0, none⟩))) (un (inBlk (Value.pointer (some ⟨p14, 0, none⟩))) nb))) b := fun b h => un_el h (fun h => (fun b hb => fun h => un_el h (fun h => (disSym d73) b hb h) (fun h => un_el h (fun h => (disSym d53) b hb h) (fun h => un_el h (fun h => (disSym d19) b hb h) (fun h => h)))) b h) (fun h => (fun b hb => fun h => un_el h (fun h => (disSym d74) b hb h) (fun h => un_el h (fun h => (disSym d54) b hb h) (fun h => un_el h (fun h => d38 b hb h) (fun h => h)))) b h)
     have hS98 : (un (inBlk (Value.pointer (some ⟨p66, 0, none⟩))) (un (inBlk (Value.pointer (some ⟨p47, 0, none⟩))) (un (inBlk (Value.pointer (some ⟨p14, 0, none⟩))) (un (inBlk (Value.pointer (some ⟨p5, 0, none⟩))) (un (inBlk z32) nb))))) = (un (inBlk (Value.pointer (some ⟨p5, 0, none⟩))) (un (inBlk z32) (un (inBlk (Value.pointer (some ⟨p66, 0, none⟩))) (un (inBlk (Value.pointer (some ⟨p47, 0, none⟩))) (un (inBlk (Value.pointer (some ⟨p14, 0, none⟩))) nb))))) := funext fun b => propext ⟨fun h => un_el h (fun h => (.inr (.inr (.inl h)))) (fun h => un_el h (fun h => (.inr (.inr (.inr (.inl h))))) (fun h => un_el h (fun h => (.inr (.inr (.inr (.inr (.inl h)))))) (fun h => un_el h (fun h => (.inl h)) (fun h => un_el h (fun h => (.inr (.inl h))) (fun h => False.elim h))))), fun h => un_el h (fun h => (.inr (.inr (.inr (.inl h))))) (fun h => un_el h (fun h => (.inr (.inr (.inr (.inr (.inl h)))))) (fun h => un_el h (fun h => (.inl h)) (fun h => un_el h (fun h => (.inr (.inl h))) (fun h => un_el h (fun h => (.inr (.inr (.inl h)))) (fun h => False.elim h)))))⟩
     obtain ⟨y101, hy102⟩ : ∃ y, F16_ties_Ties_Len y30.2.2 = y := ⟨_, rfl⟩
     have hs92 := ltS hy102 hs92
     refine rl_callF rfl en16 rfl (ctr16 F w90 w.heap.size (un (inBlk (Value.pointer (some ⟨p66, 0, none⟩))) (un (inBlk (Value.pointer (some ⟨p47, 0, none⟩))) (un (inBlk (Value.pointer (some ⟨p14, 0, none⟩))) nb))) c0.size (un_lt k78.ltp (un_lt k58.ltp (un_lt k24.ltp nbS))) p5 z32 hd97 d36 y30.2.2 h33 h34 y101 hy102) ?_
     rintro _ w99 ⟨rfl, c100⟩
     have k24 := k24.ch0 c100
     have h33 := h33.ch0 c100
     have h34 := h34.ch0 c100
     have k58 := k58.ch0 c100
     have k78 := k78.ch0 c100
     have c0 := c0.then0 c100
     refine RL.yes rfl rfl rfl hg93 ?_
     refine rl_bin rfl rfl B.eql rfl ?_
     refine rl_pickT rfl hg93 rfl rfl ?_
     have cs := cs.then0 c100
     exact RL.nil ⟨Ext.bothEq (congrArg Value.bool hs92) (Ext.skip rfl (Ext.skip rfl (Ext.skip rfl (Ext.rfl')))), cs⟩
    ·
     have hs92 := and_f hg93 hb95
     have cs : Ch nb w90 w90 := Ch.refl
     refine RL.no rfl rfl rfl hg93 rfl rfl ?_
     refine RL.no rfl rfl rfl hg93 rfl rfl ?_
     refine RL.no rfl rfl rfl hg93 rfl rfl ?_
     refine rl_pickF rfl hg93 rfl rfl ?_
     exact RL.nil ⟨Ext.bothEq (congrArg Value.bool hs92) (Ext.skip rfl (Ext.skip rfl (Ext.skip rfl (Ext.rfl')))), cs⟩
  intro w96 c103
  have k24 := k24.ch0 c103
  have h33 := h33.ch0 c103
  have h34 := h34.ch0 c103
  have k58 := k58.ch0 c103
  have k78 := k78.ch0 c103
  have c0 := c0.then0 c103
  refine rl_assign rfl rfl ?_
  refine RL.nil ?_
  refine thn_n ?_
  refine CW.ret ?_
  obtain rfl := Option.some.inj hS
  exact ret1 rfl ⟨rfl, c0⟩
/-- lb/lblaw31.Long -/
theorem ctr6 (F : Nat → Prop) (w : World) (a0 : (List Act)) (av0 : Value) (ah0 : slRep k_Act F w a0 av0) (r : Bool) (hs : F6_linkboylaw31_Long a0 = r) :
    Ret Try.prog 6 #[av0] w fun v w' => v = (Value.bool r) ∧ Ch nb w w' := by
  have hS := hs
  have c0 : Ch nb w w := Ch.refl
  have ah0 := slRep.enter k_Act_pos ah0
  refine Ret.of (n := 36) (args := [_]) (rs := [.tmp 2]) Try.func6 rfl rfl rfl rfl ?_
  refine CW.seq (CW.region ?_)
  refine rl_assign rfl rfl ?_
  refine RL.nil ?_
  refine thn_n ?_
  refine CW.seq ?_
  refine CW.seq (CW.region ?_)
  refine rl_move rfl rfl ?_
  refine rl_lenR rfl ah0 Try.underlying36 rfl ?_
  refine rl_bin rfl rfl B.gtr rfl ?_
  refine RL.nil ?_
  refine thn_n ?_
  refine CW.cond (t := decide (((a0.length : Nat) : Int) > 60)) rfl (fun q1 => ?_) (fun q1 => ?_)
  ·
   have hS := ifT q1 hS
   refine CW.seq (CW.region ?_)
   refine rl_assign rfl rfl ?_
   refine RL.nil ?_
   refine thn_n ?_
   refine CW.ret ?_
   refine thn_ret ?_
   obtain rfl := hS
   exact ret1 rfl ⟨rfl, c0⟩
  ·
   have hS := ifF q1 hS
   refine CW.skip ?_
   refine thn_n ?_
   refine CW.seq ?_
   refine CW.seq (CW.region ?_)
   refine rl_move rfl rfl ?_
   refine rl_lenR rfl ah0 Try.underlying36 rfl ?_
   refine rl_move rfl rfl ?_
   refine RL.nil ?_
   refine thn_n ?_
   obtain ⟨o9, ho10⟩ : ∃ o, runB F6_linkboylaw31_Long_b1 a0 () = o := ⟨_, rfl⟩
   have hS := ltS ho10 hS
   refine CW.cutB (fun E' w' => ∃ (_ : Unit), Sub [] E' ∧ Ch nb w w' ∧ Lp.fin () = o9 ∧ slRep k_Act (G F w.heap.size nb) w' a0 av0) ?_ ?_
   ·
    refine CW.loopS [(8, av0), (9, (Value.int .i64 ((a0.length : Nat) : Int))), (10, (Value.int .i64 ((0 : Nat) : Int)))] ⟨rfl, rfl, rfl, trivial⟩ a0.length (fun m E w' => ∃ (rest2 : List Act) (i3 : Nat) , m = rest2.length ∧ E = [(8, av0), (9, (Value.int .i64 ((a0.length : Nat) : Int))), (10, (Value.int .i64 ((i3 : Nat) : Int)))] ∧ Ch nb w w' ∧ At a0 i3 rest2 ∧ runB F6_linkboylaw31_Long_b1 rest2 () = o9 ∧ slRep k_Act (G F w.heap.size nb) w' a0 av0)
        ⟨a0, 0, rfl, rfl, c0, At.start, ho10, ah0⟩ ?_
    rintro _ _ w15 ⟨rest2, i3, rfl, rfl, c14, hat5, hL4, ah0⟩
    refine CW.seq (CW.region ?_)
    refine rl_bin rfl rfl B.lss rfl ?_
    refine RL.nil (thn_n ?_)
    refine CW.seq ?_
    refine CW.cond (t := decide (((i3 : Nat) : Int) < ((a0.length : Nat) : Int))) rfl (fun q17 => ?_) (fun q17 => ?_)
    ·
     obtain ⟨x11, rest18, rfl⟩ := hat5.cons q17
     obtain ⟨q6, hq7⟩ : ∃ q, F6_linkboylaw31_Long_b1 x11 () = q := ⟨_, rfl⟩
     have hb8 := hq7
     refine CW.skip (thn_n ?_)
     refine CW.seq ?_
     refine CW.block ?_
     refine CW.seq (CW.region ?_)
     refine rl_ixR rfl ah0 rfl hat5.get Try.underlying36 Try.sizeOf35 rfl ?_
     intro p19 o20 cs21 hr22 hs23 hg24
     obtain rfl := hr22
     refine rl_loadA (cs := (Act.enc x11)) rfl Try.isAgg35 Try.sizeOf35 (hs23) rfl rfl ?_
     refine rl_alloc (Act.enc Act.z) Try.zeroValue35 rfl rfl ?_
     intro p25 w26 n27 k28
     have lo29 : ∀ b, inBlk (Value.pointer (some ⟨p25, 0, none⟩)) b → w.heap.size ≤ b := fun b h => Nat.le_trans c14.size (n27.fresh b h)
     have ah0 := slRep.st k_Act_pos ah0 n27.ch (admNew n27.fresh (fun _ x => x))
     have c14 := c14.then0 n27.ch
     refine rl_storeA (vs := (Act.enc x11)) rfl rfl (all_one rfl) Try.sizeOf35 rfl k28 rfl ?_
     intro w30 s32 c31 k33
     have ad34 : ∀ b, b < w26.heap.size → ¬ (un (inBlk (Value.pointer (some ⟨p25, 0, none⟩))) nb) b → ¬ (inBlk (Value.pointer (some ⟨p25, 0, none⟩))) b ∧ ¬ (un (inBlk (Value.pointer (some ⟨p25, 0, none⟩))) nb) b := fun b _ hs => ⟨fun h => hs (.inl h), hs⟩
     have ah0 := slRep.st k_Act_pos ah0 c31 ad34
     have c14 := c14.then c31 (fun i hi h => absurd (lo29 i h) (Nat.not_le_of_lt hi))
     refine RL.nil ?_
     refine thn_n ?_
     refine CW.seq (CW.region ?_)
     refine rl_fieldAddr rfl fa35_3 rfl ?_
     refine rl_fieldAddr rfl fa30_2 rfl ?_
     refine rl_loadS (v := (Value.string x11.tie.name)) rfl Try.isAgg9 (k33.cell rfl) rfl ?_
     refine rl_lenStr rfl Try.underlying9 rfl ?_
     refine rl_bin rfl rfl B.gtr rfl ?_
     refine rl_move rfl rfl ?_
     obtain ⟨b37, hb38⟩ : ∃ v, ((decide (((x11.tie.name.size : Nat) : Int) > 100)) || (decide (((x11.tie.service.space.size : Nat) : Int) > 100))) = v := ⟨_, rfl⟩
     have hb8 := ltS hb38 hb8
     refine RL.join 7 26 (.bool b37) (fun w' => Ch nb w30 w') ?_ ?_
     · rcases Bool.eq_false_or_eq_true (decide (((x11.tie.name.size : Nat) : Int) > 100)) with hg36 | hg36
       ·
        have hs35 := or_t hg36 hb38
        have cs : Ch nb w30 w30 := Ch.refl
        refine RL.no rfl rfl rfl hg36 rfl rfl ?_
        refine RL.no rfl rfl rfl hg36 rfl rfl ?_
        refine RL.no rfl rfl rfl hg36 rfl rfl ?_
        refine RL.no rfl rfl rfl hg36 rfl rfl ?_
        refine RL.no rfl rfl rfl hg36 rfl rfl ?_
        refine RL.no rfl rfl rfl hg36 rfl rfl ?_
        refine rl_pickT rfl hg36 rfl rfl ?_
        exact RL.nil ⟨Ext.bothEq (congrArg Value.bool hs35) (Ext.skip rfl (Ext.skip rfl (Ext.skip rfl (Ext.skip rfl (Ext.skip rfl (Ext.skip rfl (Ext.rfl'))))))), cs⟩
       ·
        have hs35 := or_f hg36 hb38
        have cs : Ch nb w30 w30 := Ch.refl
        refine RL.yes rfl rfl rfl hg36 ?_
        refine rl_fieldAddr rfl fa35_3 rfl ?_
        refine RL.yes rfl rfl rfl hg36 ?_
        refine rl_fieldAddr rfl fa30_1 rfl ?_
        refine RL.yes rfl rfl rfl hg36 ?_
        refine rl_fieldAddr rfl fa26_0 rfl ?_
        refine RL.yes rfl rfl rfl hg36 ?_
        refine rl_loadS (v := (Value.string x11.tie.service.space)) rfl Try.isAgg9 (k33.cell rfl) rfl ?_
        refine RL.yes rfl rfl rfl hg36 ?_
        refine rl_lenStr rfl Try.underlying9 rfl ?_
        refine RL.yes rfl rfl rfl hg36 ?_
        refine rl_bin rfl rfl B.gtr rfl ?_
        refine rl_pickF rfl hg36 rfl rfl ?_
        exact RL.nil ⟨Ext.bothEq (congrArg Value.bool hs35) (Ext.skip rfl (Ext.skip rfl (Ext.skip rfl (Ext.skip rfl (Ext.skip rfl (Ext.skip rfl (Ext.rfl'))))))), cs⟩
     intro w39 c40
     have ah0 := slRep.ch k_Act_pos ah0 c40
     have k33 := k33.ch0 c40
     have c14 := c14.then0 c40
     refine rl_move rfl rfl ?_
     obtain ⟨b43, hb44⟩ : ∃ v, (b37 || (decide (((x11.tie.service.name.size : Nat) : Int) > 100))) = v := ⟨_, rfl⟩
     have hb8 := ltS hb44 hb8
     refine RL.join 7 34 (.bool b43) (fun w' => Ch nb w39 w') ?_ ?_
     · rcases Bool.eq_false_or_eq_true b37 with hg42 | hg42
       ·
        have hs41 := or_t hg42 hb44
        have cs : Ch nb w39 w39 := Ch.refl
        refine RL.no rfl rfl rfl hg42 rfl rfl ?_
        refine RL.no rfl rfl rfl hg42 rfl rfl ?_
        refine RL.no rfl rfl rfl hg42 rfl rfl ?_
        refine RL.no rfl rfl rfl hg42 rfl rfl ?_
        refine RL.no rfl rfl rfl hg42 rfl rfl ?_
        refine RL.no rfl rfl rfl hg42 rfl rfl ?_
        refine rl_pickT rfl hg42 rfl rfl ?_
        exact RL.nil ⟨Ext.bothEq (congrArg Value.bool hs41) (Ext.skip rfl (Ext.skip rfl (Ext.skip rfl (Ext.skip rfl (Ext.skip rfl (Ext.skip rfl (Ext.rfl'))))))), cs⟩
       ·
        have hs41 := or_f hg42 hb44
        have cs : Ch nb w39 w39 := Ch.refl
        refine RL.yes rfl rfl rfl hg42 ?_
        refine rl_fieldAddr rfl fa35_3 rfl ?_
        refine RL.yes rfl rfl rfl hg42 ?_
        refine rl_fieldAddr rfl fa30_1 rfl ?_
        refine RL.yes rfl rfl rfl hg42 ?_
        refine rl_fieldAddr rfl fa26_1 rfl ?_
        refine RL.yes rfl rfl rfl hg42 ?_
        refine rl_loadS (v := (Value.string x11.tie.service.name)) rfl Try.isAgg9 (k33.cell rfl) rfl ?_
        refine RL.yes rfl rfl rfl hg42 ?_
        refine rl_lenStr rfl Try.underlying9 rfl ?_
        refine RL.yes rfl rfl rfl hg42 ?_
        refine rl_bin rfl rfl B.gtr rfl ?_
        refine rl_pickF rfl hg42 rfl rfl ?_
        exact RL.nil ⟨Ext.bothEq (congrArg Value.bool hs41) (Ext.skip rfl (Ext.skip rfl (Ext.skip rfl (Ext.skip rfl (Ext.skip rfl (Ext.skip rfl (Ext.rfl'))))))), cs⟩
     intro w45 c46
     have ah0 := slRep.ch k_Act_pos ah0 c46
     have k33 := k33.ch0 c46
     have c14 := c14.then0 c46
     refine RL.nil ?_
     refine thn_n ?_
     refine CW.cond (t := b43) rfl (fun q47 => ?_) (fun q47 => ?_)
     ·
      have hb8 := ifT q47 hb8
      refine CW.seq (CW.region ?_)
      refine rl_assign rfl rfl ?_
      refine RL.nil ?_
      refine thn_n ?_
      refine CW.ret ?_
      refine inB_ret ?_
      refine thn_ret ?_
      refine thn_ret (inB_ret (thn_ret ?_))
      refine thn_ret ?_
      have f48 := runB_ret hL4 (hb8.trans hq7.symm)
      have hS := retS f48 hS
      obtain rfl := hS
      exact ret1 rfl ⟨rfl, c14⟩
     ·
      have hb8 := ifF q47 hb8
      refine CW.skip ?_
      refine inB_n ?_
      refine thn_n ?_
      refine CW.region ?_
      refine rl_inc rfl hat5.lt ah0.big rfl ?_
      refine rl_move rfl rfl ?_
      refine RL.nil ?_
      refine thn_n ?_
      have crf : Ch nb w45 w45 := Ch.refl
      have ah0 := slRep.st k_Act_pos ah0 crf (show ∀ b, b < w45.heap.size → ¬ (un (inBlk (Value.pointer (some ⟨p25, 0, none⟩))) nb) b → ¬ nb b ∧ ¬ nb b from fun b _ hs => ⟨fun x => x, fun h => hs (False.elim h)⟩)
      have c14 := c14.then0 crf
      have hLn := runB_next hL4 (hb8.trans hq7.symm)
      exact ⟨rest18.length, Nat.lt_succ_self _, [(8, av0), (9, (Value.int .i64 ((a0.length : Nat) : Int))), (10, (Value.int .i64 ((i3 + 1 : Nat) : Int)))], ⟨rfl, rfl, rfl, trivial⟩, ⟨rest18, i3 + 1, rfl, rfl, c14, hat5.next, hLn, ah0⟩⟩
    ·
     obtain rfl := hat5.nil q17
     have hLf : Lp.fin () = o9 := hL4
     refine CW.exit (thn_exit (thn_exit (inB_hit ?_)))
     exact ⟨(), trivial, c14, hLf, ah0⟩
   ·
    rintro _ w50 ⟨_, hE51, c49, f52, ah0⟩
    have hS := finS f52 hS
    refine thn_n (CW.sub [] hE51 ?_)
    refine CW.seq (CW.region ?_)
    refine rl_assign rfl rfl ?_
    refine RL.nil ?_
    refine thn_n ?_
    refine CW.ret ?_
    obtain rfl := hS
    exact ret1 rfl ⟨rfl, c49⟩
/-- lb/lbref31.Fresh -/
theorem ctr8 (F : Nat → Prop) (w : World) (a0 : Tie) (a1 : Int) (a2 : Int) (r : Bool) (hs : F8_linkboyref31_Fresh a0 a1 a2 = r) :
    Ret Try.prog 8 #[(Value.agg (Tie.enc a0).toArray), (Value.int .i64 a1), (Value.int .i64 a2)] w fun v w' => v = (Value.bool r) ∧ Ch nb w w' := by
  have hS := hs
  have c0 : Ch nb w w := Ch.refl
  refine Ret.of (n := 29) (args := [_, _, _]) (rs := [.tmp 6]) Try.func8 rfl rfl rfl rfl ?_
  refine CW.seq (CW.region ?_)
  refine rl_boxA (cs := (Tie.enc a0)) rfl rfl ?_
  intro p1 w2 n3 k4
  have gp1 : (G F w.heap.size nb) p1 := ⟨.inr (by rw [n3.eq]; exact c0.size), fun h => absurd (nbS _ h) (by rw [n3.eq]; exact Nat.lt_irrefl _)⟩
  have c0 := c0.then0 n3.ch
  refine rl_assign rfl rfl ?_
  refine RL.nil ?_
  refine thn_n ?_
  refine CW.seq ?_
  refine CW.seq (CW.region ?_)
  refine rl_move rfl rfl ?_
  refine rl_bin rfl rfl B.leq rfl ?_
  refine RL.nil ?_
  refine thn_n ?_
  refine CW.cond (t := decide (a1 ≤ 0)) rfl (fun q5 => ?_) (fun q5 => ?_)
  ·
   have hS := ifT q5 hS
   refine CW.seq (CW.region ?_)
   refine rl_assign rfl rfl ?_
   refine RL.nil ?_
   refine thn_n ?_
   refine CW.ret ?_
   refine thn_ret ?_
   obtain rfl := hS
   exact ret1 rfl ⟨rfl, c0⟩
  ·
   have hS := ifF q5 hS
   refine CW.skip ?_
   refine thn_n ?_
   refine CW.seq ?_
   refine CW.seq (CW.region ?_)
   refine rl_move rfl rfl ?_
   refine rl_fieldAddr rfl fa37_5 rfl ?_
   refine rl_loadS (v := (Value.int .i64 a0.last)) rfl Try.isAgg3 (k4.cell rfl) rfl ?_
   refine rl_bin rfl rfl B.leq rfl ?_
   refine RL.nil ?_
   refine thn_n ?_
   refine CW.cond (t := decide (a2 ≤ a0.last)) rfl (fun q6 => ?_) (fun q6 => ?_)
   ·
    have hS := ifT q6 hS
    refine CW.seq (CW.region ?_)
    refine rl_assign rfl rfl ?_
    refine RL.nil ?_
    refine thn_n ?_
    refine CW.ret ?_
    refine thn_ret ?_
    obtain rfl := hS
    exact ret1 rfl ⟨rfl, c0⟩
   ·
    have hS := ifF q6 hS
    refine CW.skip ?_
    refine thn_n ?_
    refine CW.seq ?_
    refine CW.seq (CW.region ?_)
    refine rl_fieldAddr rfl fa37_5 rfl ?_
    refine rl_loadS (v := (Value.int .i64 a0.last)) rfl Try.isAgg3 (k4.cell rfl) rfl ?_
    refine rl_bin rfl rfl B.gtr rfl ?_
    refine rl_move rfl rfl ?_
    obtain ⟨b9, hb10⟩ : ∃ v, ((decide (a0.last > 0)) && (decide (a1 > (IntKind.i64.wrap (9223372036854775807 - a0.last))))) = v := ⟨_, rfl⟩
    have hS := ltS hb10 hS
    refine RL.join 6 22 (.bool b9) (fun w' => Ch nb w2 w') ?_ ?_
    · rcases Bool.eq_false_or_eq_true (decide (a0.last > 0)) with hg8 | hg8
      ·
       have hs7 := and_t hg8 hb10
       have cs : Ch nb w2 w2 := Ch.refl
       refine RL.yes rfl rfl rfl hg8 ?_
       refine rl_move rfl rfl ?_
       refine RL.yes rfl rfl rfl hg8 ?_
       refine rl_fieldAddr rfl fa37_5 rfl ?_
       refine RL.yes rfl rfl rfl hg8 ?_
       refine rl_loadS (v := (Value.int .i64 a0.last)) rfl Try.isAgg3 (k4.cell rfl) rfl ?_
       refine RL.yes rfl rfl rfl hg8 ?_
       refine rl_bin rfl rfl B.sub rfl ?_
       refine RL.yes rfl rfl rfl hg8 ?_
       refine rl_bin rfl rfl B.gtr rfl ?_
       refine rl_pickT rfl hg8 rfl rfl ?_
       exact RL.nil ⟨Ext.bothEq (congrArg Value.bool hs7) (Ext.skip rfl (Ext.skip rfl (Ext.skip rfl (Ext.skip rfl (Ext.skip rfl (Ext.rfl')))))), cs⟩
      ·
       have hs7 := and_f hg8 hb10
       have cs : Ch nb w2 w2 := Ch.refl
       refine RL.no rfl rfl rfl hg8 rfl rfl ?_
       refine RL.no rfl rfl rfl hg8 rfl rfl ?_
       refine RL.no rfl rfl rfl hg8 rfl rfl ?_
       refine RL.no rfl rfl rfl hg8 rfl rfl ?_
       refine RL.no rfl rfl rfl hg8 rfl rfl ?_
       refine rl_pickF rfl hg8 rfl rfl ?_
       exact RL.nil ⟨Ext.bothEq (congrArg Value.bool hs7) (Ext.skip rfl (Ext.skip rfl (Ext.skip rfl (Ext.skip rfl (Ext.skip rfl (Ext.rfl')))))), cs⟩
    intro w11 c12
    have k4 := k4.ch0 c12
    have c0 := c0.then0 c12
    refine RL.nil ?_
    refine thn_n ?_
    refine CW.cond (t := b9) rfl (fun q13 => ?_) (fun q13 => ?_)
    ·
     have hS := ifT q13 hS
     refine CW.seq (CW.region ?_)
     refine rl_assign rfl rfl ?_
     refine RL.nil ?_
     refine thn_n ?_
     refine CW.ret ?_
     refine thn_ret ?_
     obtain rfl := hS
     exact ret1 rfl ⟨rfl, c0⟩
    ·
     have hS := ifF q13 hS
     refine CW.skip ?_
     refine thn_n ?_
     refine CW.seq (CW.region ?_)
     refine rl_move rfl rfl ?_
     refine rl_fieldAddr rfl fa37_5 rfl ?_
     refine rl_loadS (v := (Value.int .i64 a0.last)) rfl Try.isAgg3 (k4.cell rfl) rfl ?_
     refine rl_move rfl rfl ?_
     refine rl_bin rfl rfl B.add rfl ?_
     refine rl_bin rfl rfl B.lss rfl ?_
     refine rl_assign rfl rfl ?_
     refine RL.nil ?_
     refine thn_n ?_
     refine CW.ret ?_
     obtain rfl := hS
     exact ret1 rfl ⟨rfl, c0⟩
/-- lb/lbref02.Compare -/
theorem ctr26 (F : Nat → Prop) (w : World) (a0 : Addr) (a1 : Addr) (r : Int) (hs : F26_linkboyref02_Compare a0 a1 = some r) :
    Ret Try.prog 26 #[(Value.agg (Addr.enc a0).toArray), (Value.agg (Addr.enc a1).toArray)] w fun v w' => v = (Value.int .i64 r) ∧ Ch nb w w' := by
  have hS := hs
  have c0 : Ch nb w w := Ch.refl
  refine Ret.of (n := 35) (args := [_, _]) (rs := [.tmp 4]) Try.func26 rfl rfl rfl rfl ?_
  refine CW.seq (CW.region ?_)
  refine rl_boxA (cs := (Addr.enc a0)) rfl rfl ?_
  intro p1 w2 n3 k4
  have gp1 : (G F w.heap.size nb) p1 := ⟨.inr (by rw [n3.eq]; exact c0.size), fun h => absurd (nbS _ h) (by rw [n3.eq]; exact Nat.lt_irrefl _)⟩
  have c0 := c0.then0 n3.ch
  refine rl_boxA (cs := (Addr.enc a1)) rfl rfl ?_
  intro p5 w6 n7 k8
  have gp5 : (G F w.heap.size nb) p5 := ⟨.inr (by rw [n7.eq]; exact c0.size), fun h => absurd (nbS _ h) (by rw [n7.eq]; exact Nat.lt_irrefl _)⟩
  have k4 := k4.ch0 n7.ch
  have c0 := c0.then0 n7.ch
  refine rl_assign rfl rfl ?_
  refine RL.nil ?_
  refine thn_n ?_
  refine CW.seq ?_
  refine CW.seq (CW.region ?_)
  refine rl_fieldAddr rfl fa24_0 rfl ?_
  refine rl_loadS (v := (Value.bool a0.six)) rfl Try.isAgg4 (k4.cell rfl) rfl ?_
  refine rl_fieldAddr rfl fa24_0 rfl ?_
  refine rl_loadS (v := (Value.bool a1.six)) rfl Try.isAgg4 (k8.cell rfl) rfl ?_
  refine rl_bin rfl rfl (B.neqB Try.underlying4) rfl ?_
  refine RL.nil ?_
  refine thn_n ?_
  refine CW.cond (t := !(a0.six == a1.six)) rfl (fun q9 => ?_) (fun q9 => ?_)
  ·
   have hS := ifT q9 hS
   refine CW.seq ?_
   refine CW.seq (CW.region ?_)
   refine rl_fieldAddr rfl fa24_0 rfl ?_
   refine rl_loadS (v := (Value.bool a0.six)) rfl Try.isAgg4 (k4.cell rfl) rfl ?_
   refine RL.nil ?_
   refine thn_n ?_
   refine CW.cond (t := a0.six) rfl (fun q10 => ?_) (fun q10 => ?_)
   ·
    have hS := ifT q10 hS
    refine CW.seq (CW.region ?_)
    refine rl_assign rfl rfl ?_
    refine RL.nil ?_
    refine thn_n ?_
    refine CW.ret ?_
    refine thn_ret ?_
    refine thn_ret ?_
    obtain rfl := Option.some.inj hS
    exact ret1 rfl ⟨rfl, c0⟩
   ·
    have hS := ifF q10 hS
    refine CW.skip ?_
    refine thn_n ?_
    refine CW.seq (CW.region ?_)
    refine rl_assign rfl rfl ?_
    refine RL.nil ?_
    refine thn_n ?_
    refine CW.ret ?_
    refine thn_ret ?_
    obtain rfl := Option.some.inj hS
    exact ret1 rfl ⟨rfl, c0⟩
  ·
   have hS := ifF q9 hS
   refine CW.skip ?_
   refine thn_n ?_
   refine CW.seq ?_
   refine CW.seq (CW.region ?_)
   refine rl_move rfl rfl ?_
   refine RL.nil ?_
   refine thn_n ?_
   obtain ⟨o19, ho20, hS⟩ := bindS hS
   refine CW.cutB (fun E' w' => ∃ (x11 : Int), Sub [] E' ∧ Ch nb w w' ∧ Lp.fin x11 = o19 ∧ Blk w' p1 24 (Addr.enc a0) ∧ Blk w' p5 24 (Addr.enc a1) ∧ (G F w.heap.size nb) p1 ∧ (G F w.heap.size nb) p5) ?_ ?_
   ·
    refine CW.loopS [(2, (Value.pointer (some ⟨p1, 0, none⟩))), (3, (Value.pointer (some ⟨p5, 0, none⟩))), (13, (Value.int .i64 0))] ⟨rfl, rfl, rfl, trivial⟩ FUEL (fun m E w' => ∃ (x11 : Int), E = [(2, (Value.pointer (some ⟨p1, 0, none⟩))), (3, (Value.pointer (some ⟨p5, 0, none⟩))), (13, (Value.int .i64 x11))] ∧ Ch nb w w' ∧ runW (F26_linkboyref02_Compare_b1 a0 a1) m x11 = some o19 ∧ Blk w' p1 24 (Addr.enc a0) ∧ Blk w' p5 24 (Addr.enc a1) ∧ (G F w.heap.size nb) p1 ∧ (G F w.heap.size nb) p5)
        ⟨0, rfl, c0, ho20, k4, k8, gp1, gp5⟩ ?_
    rintro _ _ w25 ⟨x11, rfl, c24, hL14, k4, k8, gp1, gp5⟩
    obtain ⟨k23, q16, rfl, hq17⟩ := runW_some hL14
    have hb18 := hq17
    refine CW.seq (CW.region ?_)
    refine rl_bin rfl rfl B.lss rfl ?_
    refine RL.nil ?_
    refine thn_n ?_
    refine CW.seq ?_
    refine CW.cond (t := decide (x11 < 16)) rfl (fun q27 => ?_) (fun q27 => ?_)
    ·
     have hb18 := ifT q27 hb18
     refine CW.skip ?_
     refine thn_n ?_
     refine CW.seq ?_
     refine CW.block ?_
     refine CW.seq (CW.region ?_)
     refine rl_move rfl rfl ?_
     refine rl_assign rfl rfl ?_
     refine RL.nil ?_
     refine thn_n ?_
     refine CW.seq ?_
     refine CW.seq ?_
     obtain ⟨y30, hy31, hb18⟩ := bindS hb18
     obtain ⟨y34, hy35, hb18⟩ := bindS hb18
     refine CW.draw 8 [(none, fun _ O uu wx => uu = (Value.int .i64 x11)), (none, fun _ O uu wx => uu = (Value.pointer (some ⟨p1, 1, none⟩))), (none, fun _ O uu wx => uu = (Value.pointer (some ⟨p1, (1 + x11.toNat), none⟩)) ∧ Seg wx p1 (1 + x11.toNat) [(Value.int .u8 y30)]), (none, fun _ O uu wx => uu = (Value.int .u8 y30)), (none, fun _ O uu wx => uu = (Value.int .i64 x11)), (none, fun _ O uu wx => uu = (Value.pointer (some ⟨p5, 1, none⟩))), (none, fun _ O uu wx => uu = (Value.pointer (some ⟨p5, (1 + x11.toNat), none⟩)) ∧ Seg wx p5 (1 + x11.toNat) [(Value.int .u8 y34)]), (none, fun _ O uu wx => uu = (Value.int .u8 y34))] [[], [], [0, 1], [2], [], [], [4, 5], [6]] [3, 7] nb (fun _ h => h.elim) mixed rfl rfl rfl rfl ?_ ?_
     ·
      refine Each.consA ⟨fun _ _ _ _ _ _ h => h, fun h => absurd rfl h, fun O wk hO ck => ?_⟩ ?_
      ·
       have k4 := k4.ch0 ck
       have k8 := k8.ch0 ck
       have c24 := c24.then0 ck
       refine rl_move rfl rfl ?_
       exact RL.nil ⟨_, rfl, Ch.refl, rfl⟩
      refine Each.consA ⟨fun _ _ _ _ _ _ h => h, fun h => absurd rfl h, fun O wk hO ck => ?_⟩ ?_
      ·
       have k4 := k4.ch0 ck
       have k8 := k8.ch0 ck
       have c24 := c24.then0 ck
       refine rl_fieldAddr rfl fa24_1 rfl ?_
       exact RL.nil ⟨_, rfl, Ch.refl, rfl⟩
      refine Each.consA ⟨fun _ _ _ _ _ cc hh => by obtain ⟨e, hs29⟩ := hh; exact ⟨e, hs29.ch0 cc⟩, fun h => absurd rfl h, fun O wk hO ck => ?_⟩ ?_
      ·
       have k4 := k4.ch0 ck
       have k8 := k8.ch0 ck
       have c24 := c24.then0 ck
       refine Need.one rfl rfl rfl ?_
       rintro _ e36
       obtain rfl := e36.symm
       refine Need.one rfl rfl rfl ?_
       rintro _ e37
       obtain rfl := e37.symm
       refine rl_ixArr (l := A16u8.list a0.b) (val := (Value.int .u8)) (cs := A16u8.enc a0.b) rfl rfl (ixO_get hy31) Try.underlying22 rfl Try.sizeOf5 (k4.segAt 1 16) rfl rfl ?_
       intro hc38
       have hs39 : Seg wk p1 (1 + x11.toNat) [(Value.int .u8 y30)] := Seg.one hc38
       exact RL.nil ⟨_, rfl, Ch.refl, ⟨rfl, hs39⟩⟩
      refine Each.consA ⟨fun _ _ _ _ _ _ h => h, fun h => absurd rfl h, fun O wk hO ck => ?_⟩ ?_
      ·
       have k4 := k4.ch0 ck
       have k8 := k8.ch0 ck
       have c24 := c24.then0 ck
       refine Need.one rfl rfl rfl ?_
       rintro _ ⟨e40, hs29⟩
       obtain rfl := e40.symm
       refine rl_loadS (v := (Value.int .u8 y30)) rfl Try.isAgg5 (hs29 0 _ rfl) rfl ?_
       exact RL.nil ⟨_, rfl, Ch.refl, rfl⟩
      refine Each.consA ⟨fun _ _ _ _ _ _ h => h, fun h => absurd rfl h, fun O wk hO ck => ?_⟩ ?_
      ·
       have k4 := k4.ch0 ck
       have k8 := k8.ch0 ck
       have c24 := c24.then0 ck
       refine rl_move rfl rfl ?_
       exact RL.nil ⟨_, rfl, Ch.refl, rfl⟩
      refine Each.consA ⟨fun _ _ _ _ _ _ h => h, fun h => absurd rfl h, fun O wk hO ck => ?_⟩ ?_
      ·
       have k4 := k4.ch0 ck
       have k8 := k8.ch0 ck
       have c24 := c24.then0 ck
       refine rl_fieldAddr rfl fa24_1 rfl ?_
       exact RL.nil ⟨_, rfl, Ch.refl, rfl⟩
      refine Each.consA ⟨fun _ _ _ _ _ cc hh => by obtain ⟨e, hs33⟩ := hh; exact ⟨e, hs33.ch0 cc⟩, fun h => absurd rfl h, fun O wk hO ck => ?_⟩ ?_
      ·
       have k4 := k4.ch0 ck
       have k8 := k8.ch0 ck
       have c24 := c24.then0 ck
       refine Need.one rfl rfl rfl ?_
       rintro _ e41
       obtain rfl := e41.symm
       refine Need.one rfl rfl rfl ?_
       rintro _ e42
       obtain rfl := e42.symm
       refine rl_ixArr (l := A16u8.list a1.b) (val := (Value.int .u8)) (cs := A16u8.enc a1.b) rfl rfl (ixO_get hy35) Try.underlying22 rfl Try.sizeOf5 (k8.segAt 1 16) rfl rfl ?_
       intro hc43
       have hs44 : Seg wk p5 (1 + x11.toNat) [(Value.int .u8 y34)] := Seg.one hc43
       exact RL.nil ⟨_, rfl, Ch.refl, ⟨rfl, hs44⟩⟩
      refine Each.consA ⟨fun _ _ _ _ _ _ h => h, fun h => absurd rfl h, fun O wk hO ck => ?_⟩ ?_
      ·
       have k4 := k4.ch0 ck
       have k8 := k8.ch0 ck
       have c24 := c24.then0 ck
       refine Need.one rfl rfl rfl ?_
       rintro _ ⟨e45, hs33⟩
       obtain rfl := e45.symm
       refine rl_loadS (v := (Value.int .u8 y34)) rfl Try.isAgg5 (hs33 0 _ rfl) rfl ?_
       exact RL.nil ⟨_, rfl, Ch.refl, rfl⟩
      trivial
     ·
      intro hvO48 OpO48 O48 w46 hO49 c47 hN50
      have k4 := k4.ch0 c47
      have k8 := k8.ch0 c47
      have c24 := c24.then0 c47
      refine Need.one rfl rfl rfl ?_
      rintro _ e51
      obtain rfl := e51.symm
      refine Need.one rfl rfl rfl ?_
      rintro _ e52
      obtain rfl := e52.symm
      refine rl_bin rfl rfl B.lss rfl ?_
      refine RL.nil ?_
      refine thn_n ?_
      refine CW.cond (t := decide (y30 < y34)) rfl (fun q53 => ?_) (fun q53 => ?_)
      ·
       have hb18 := ifT q53 hb18
       refine CW.seq (CW.region ?_)
       refine rl_assign rfl rfl ?_
       refine RL.nil ?_
       refine thn_n ?_
       refine CW.ret ?_
       refine thn_ret ?_
       refine inB_ret ?_
       refine thn_ret ?_
       refine thn_ret (inB_ret (thn_ret ?_))
       refine thn_ret ?_
       have f54 := runW_ret hL14 hq17 hb18
       have hS := retS f54 hS
       obtain rfl := Option.some.inj hS
       exact ret1 rfl ⟨rfl, c24⟩
      ·
       have hb18 := ifF q53 hb18
       refine CW.skip ?_
       refine thn_n ?_
       refine CW.seq ?_
       obtain ⟨y57, hy58, hb18⟩ := bindS hb18
       obtain ⟨y61, hy62, hb18⟩ := bindS hb18
       refine CW.draw 8 [(none, fun _ O uu wx => uu = (Value.int .i64 x11)), (none, fun _ O uu wx => uu = (Value.pointer (some ⟨p1, 1, none⟩))), (none, fun _ O uu wx => uu = (Value.pointer (some ⟨p1, (1 + x11.toNat), none⟩)) ∧ Seg wx p1 (1 + x11.toNat) [(Value.int .u8 y57)]), (none, fun _ O uu wx => uu = (Value.int .u8 y57)), (none, fun _ O uu wx => uu = (Value.int .i64 x11)), (none, fun _ O uu wx => uu = (Value.pointer (some ⟨p5, 1, none⟩))), (none, fun _ O uu wx => uu = (Value.pointer (some ⟨p5, (1 + x11.toNat), none⟩)) ∧ Seg wx p5 (1 + x11.toNat) [(Value.int .u8 y61)]), (none, fun _ O uu wx => uu = (Value.int .u8 y61))] [[], [], [0, 1], [2], [], [], [4, 5], [6]] [3, 7] nb (fun _ h => h.elim) mixed rfl rfl rfl rfl ?_ ?_
       ·
        refine Each.consA ⟨fun _ _ _ _ _ _ h => h, fun h => absurd rfl h, fun O wk hO ck => ?_⟩ ?_
        ·
         have k4 := k4.ch0 ck
         have k8 := k8.ch0 ck
         have c24 := c24.then0 ck
         refine rl_move rfl rfl ?_
         exact RL.nil ⟨_, rfl, Ch.refl, rfl⟩
        refine Each.consA ⟨fun _ _ _ _ _ _ h => h, fun h => absurd rfl h, fun O wk hO ck => ?_⟩ ?_
        ·
         have k4 := k4.ch0 ck
         have k8 := k8.ch0 ck
         have c24 := c24.then0 ck
         refine rl_fieldAddr rfl fa24_1 rfl ?_
         exact RL.nil ⟨_, rfl, Ch.refl, rfl⟩
        refine Each.consA ⟨fun _ _ _ _ _ cc hh => by obtain ⟨e, hs56⟩ := hh; exact ⟨e, hs56.ch0 cc⟩, fun h => absurd rfl h, fun O wk hO ck => ?_⟩ ?_
        ·
         have k4 := k4.ch0 ck
         have k8 := k8.ch0 ck
         have c24 := c24.then0 ck
         refine Need.one rfl rfl rfl ?_
         rintro _ e63
         obtain rfl := e63.symm
         refine Need.one rfl rfl rfl ?_
         rintro _ e64
         obtain rfl := e64.symm
         refine rl_ixArr (l := A16u8.list a0.b) (val := (Value.int .u8)) (cs := A16u8.enc a0.b) rfl rfl (ixO_get hy58) Try.underlying22 rfl Try.sizeOf5 (k4.segAt 1 16) rfl rfl ?_
         intro hc65
         have hs66 : Seg wk p1 (1 + x11.toNat) [(Value.int .u8 y57)] := Seg.one hc65
         exact RL.nil ⟨_, rfl, Ch.refl, ⟨rfl, hs66⟩⟩
        refine Each.consA ⟨fun _ _ _ _ _ _ h => h, fun h => absurd rfl h, fun O wk hO ck => ?_⟩ ?_
        ·
         have k4 := k4.ch0 ck
         have k8 := k8.ch0 ck
         have c24 := c24.then0 ck
         refine Need.one rfl rfl rfl ?_
         rintro _ ⟨e67, hs56⟩
         obtain rfl := e67.symm
         refine rl_loadS (v := (Value.int .u8 y57)) rfl Try.isAgg5 (hs56 0 _ rfl) rfl ?_
         exact RL.nil ⟨_, rfl, Ch.refl, rfl⟩
        refine Each.consA ⟨fun _ _ _ _ _ _ h => h, fun h => absurd rfl h, fun O wk hO ck => ?_⟩ ?_
        ·
         have k4 := k4.ch0 ck
         have k8 := k8.ch0 ck
         have c24 := c24.then0 ck
         refine rl_move rfl rfl ?_
         exact RL.nil ⟨_, rfl, Ch.refl, rfl⟩
        refine Each.consA ⟨fun _ _ _ _ _ _ h => h, fun h => absurd rfl h, fun O wk hO ck => ?_⟩ ?_
        ·
         have k4 := k4.ch0 ck
         have k8 := k8.ch0 ck
         have c24 := c24.then0 ck
         refine rl_fieldAddr rfl fa24_1 rfl ?_
         exact RL.nil ⟨_, rfl, Ch.refl, rfl⟩
        refine Each.consA ⟨fun _ _ _ _ _ cc hh => by obtain ⟨e, hs60⟩ := hh; exact ⟨e, hs60.ch0 cc⟩, fun h => absurd rfl h, fun O wk hO ck => ?_⟩ ?_
        ·
         have k4 := k4.ch0 ck
         have k8 := k8.ch0 ck
         have c24 := c24.then0 ck
         refine Need.one rfl rfl rfl ?_
         rintro _ e68
         obtain rfl := e68.symm
         refine Need.one rfl rfl rfl ?_
         rintro _ e69
         obtain rfl := e69.symm
         refine rl_ixArr (l := A16u8.list a1.b) (val := (Value.int .u8)) (cs := A16u8.enc a1.b) rfl rfl (ixO_get hy62) Try.underlying22 rfl Try.sizeOf5 (k8.segAt 1 16) rfl rfl ?_
         intro hc70
         have hs71 : Seg wk p5 (1 + x11.toNat) [(Value.int .u8 y61)] := Seg.one hc70
         exact RL.nil ⟨_, rfl, Ch.refl, ⟨rfl, hs71⟩⟩
        refine Each.consA ⟨fun _ _ _ _ _ _ h => h, fun h => absurd rfl h, fun O wk hO ck => ?_⟩ ?_
        ·
         have k4 := k4.ch0 ck
         have k8 := k8.ch0 ck
         have c24 := c24.then0 ck
         refine Need.one rfl rfl rfl ?_
         rintro _ ⟨e72, hs60⟩
         obtain rfl := e72.symm
         refine rl_loadS (v := (Value.int .u8 y61)) rfl Try.isAgg5 (hs60 0 _ rfl) rfl ?_
         exact RL.nil ⟨_, rfl, Ch.refl, rfl⟩
        trivial
       ·
        intro hvO75 OpO75 O75 w73 hO76 c74 hN77
        have k4 := k4.ch0 c74
        have k8 := k8.ch0 c74
        have c24 := c24.then0 c74
        refine Need.one rfl rfl rfl ?_
        rintro _ e78
        obtain rfl := e78.symm
        refine Need.one rfl rfl rfl ?_
        rintro _ e79
        obtain rfl := e79.symm
        refine rl_bin rfl rfl B.gtr rfl ?_
        refine RL.nil ?_
        refine thn_n ?_
        refine CW.cond (t := decide (y57 > y61)) rfl (fun q80 => ?_) (fun q80 => ?_)
        ·
         have hb18 := ifT q80 hb18
         refine CW.seq (CW.region ?_)
         refine rl_assign rfl rfl ?_
         refine RL.nil ?_
         refine thn_n ?_
         refine CW.ret ?_
         refine inB_ret ?_
         refine thn_ret ?_
         refine thn_ret (inB_ret (thn_ret ?_))
         refine thn_ret ?_
         have f81 := runW_ret hL14 hq17 hb18
         have hS := retS f81 hS
         obtain rfl := Option.some.inj hS
         exact ret1 rfl ⟨rfl, c24⟩
        ·
         have hb18 := ifF q80 hb18
         refine CW.skip ?_
         refine inB_n ?_
         refine thn_n ?_
         refine CW.region ?_
         refine rl_bin rfl rfl B.add rfl ?_
         refine rl_move rfl rfl ?_
         refine RL.nil ?_
         refine thn_n ?_
         have hLn := runW_next hL14 hq17 hb18
         exact ⟨k23, Nat.lt_succ_self _, [(2, (Value.pointer (some ⟨p1, 0, none⟩))), (3, (Value.pointer (some ⟨p5, 0, none⟩))), (13, (Value.int .i64 (IntKind.i64.wrap (x11 + 1))))], ⟨rfl, rfl, rfl, trivial⟩, ⟨IntKind.i64.wrap (x11 + 1), rfl, c24, hLn, k4, k8, gp1, gp5⟩⟩
    ·
     have hb18 := ifF q27 hb18
     refine CW.exit ?_
     refine thn_exit ?_
     refine thn_exit ?_
     refine inB_hit ?_
     have hLf := runW_fin hL14 hq17 hb18
     exact ⟨x11, trivial, c24, hLf, k4, k8, gp1, gp5⟩
   ·
    rintro _ w83 ⟨x11, hE84, c82, f85, k4, k8, gp1, gp5⟩
    have hS := finS f85 hS
    refine thn_n (CW.sub [] hE84 ?_)
    refine CW.seq (CW.region ?_)
    refine rl_assign rfl rfl ?_
    refine RL.nil ?_
    refine thn_n ?_
    refine CW.ret ?_
    obtain rfl := Option.some.inj hS
    exact ret1 rfl ⟨rfl, c82⟩
/-- lb/lbref05.Compare -/
theorem ctr27 (F : Nat → Prop) (w : World) (a0 : Key) (a1 : Key) (r : Int) (hs : F27_linkboyref05_Compare a0 a1 = r) :
    Ret Try.prog 27 #[(Value.agg (Key.enc a0).toArray), (Value.agg (Key.enc a1).toArray)] w fun v w' => v = (Value.int .i64 r) ∧ Ch nb w w' := by
  have hS := hs
  have c0 : Ch nb w w := Ch.refl
  refine Ret.of (n := 27) (args := [_, _]) (rs := [.tmp 4]) Try.func27 rfl rfl rfl rfl ?_
  refine CW.seq (CW.region ?_)
  refine rl_boxA (cs := (Key.enc a0)) rfl rfl ?_
  intro p1 w2 n3 k4
  have gp1 : (G F w.heap.size nb) p1 := ⟨.inr (by rw [n3.eq]; exact c0.size), fun h => absurd (nbS _ h) (by rw [n3.eq]; exact Nat.lt_irrefl _)⟩
  have c0 := c0.then0 n3.ch
  refine rl_boxA (cs := (Key.enc a1)) rfl rfl ?_
  intro p5 w6 n7 k8
  have gp5 : (G F w.heap.size nb) p5 := ⟨.inr (by rw [n7.eq]; exact c0.size), fun h => absurd (nbS _ h) (by rw [n7.eq]; exact Nat.lt_irrefl _)⟩
  have k4 := k4.ch0 n7.ch
  have c0 := c0.then0 n7.ch
  refine rl_assign rfl rfl ?_
  refine RL.nil ?_
  refine thn_n ?_
  refine CW.seq ?_
  refine CW.seq (CW.region ?_)
  refine rl_fieldAddr rfl fa26_0 rfl ?_
  refine rl_loadS (v := (Value.string a0.space)) rfl Try.isAgg9 (k4.cell rfl) rfl ?_
  refine rl_fieldAddr rfl fa26_0 rfl ?_
  refine rl_loadS (v := (Value.string a1.space)) rfl Try.isAgg9 (k8.cell rfl) rfl ?_
  refine rl_bin rfl rfl B.lssS rfl ?_
  refine rl_move rfl rfl ?_
  obtain ⟨b11, hb12⟩ : ∃ v, ((Op.bytesLess a0.space.toList a1.space.toList) || (lt ((decide (a0.space = a1.space)) && (Op.bytesLess a0.name.toList a1.name.toList)) fun b13 => b13)) = v := ⟨_, rfl⟩
  have hS := ltS hb12 hS
  refine RL.join 13 23 (.bool b11) (fun w' => Ch nb w6 w') ?_ ?_
  · rcases Bool.eq_false_or_eq_true (Op.bytesLess a0.space.toList a1.space.toList) with hg10 | hg10
    ·
     have hs9 := or_t hg10 hb12
     have cs : Ch nb w6 w6 := Ch.refl
     refine RL.no rfl rfl rfl hg10 rfl rfl ?_
     refine RL.no rfl rfl rfl hg10 rfl rfl ?_
     refine RL.no rfl rfl rfl hg10 rfl rfl ?_
     refine RL.no rfl rfl rfl hg10 rfl rfl ?_
     refine RL.no rfl rfl rfl hg10 rfl rfl ?_
     refine RL.no rfl rfl rfl hg10 rfl rfl ?_
     refine RL.noU rfl rfl rfl rfl rfl ?_
     refine RL.noU rfl rfl rfl rfl rfl ?_
     refine RL.noU rfl rfl rfl rfl rfl ?_
     refine RL.noU rfl rfl rfl rfl rfl ?_
     refine RL.noU rfl rfl rfl rfl rfl ?_
     refine RL.no rfl rfl rfl hg10 rfl rfl ?_
     refine rl_pickT rfl hg10 rfl rfl ?_
     exact RL.nil ⟨Ext.bothEq (congrArg Value.bool hs9) (Ext.skip rfl (Ext.skip rfl (Ext.skip rfl (Ext.skip rfl (Ext.skip rfl (Ext.skip rfl (Ext.skip rfl (Ext.skip rfl (Ext.skip rfl (Ext.skip rfl (Ext.skip rfl (Ext.skip rfl (Ext.rfl'))))))))))))), cs⟩
    ·
     have hs9 := or_f hg10 hb12
     have cs : Ch nb w6 w6 := Ch.refl
     refine RL.yes rfl rfl rfl hg10 ?_
     refine rl_fieldAddr rfl fa26_0 rfl ?_
     refine RL.yes rfl rfl rfl hg10 ?_
     refine rl_loadS (v := (Value.string a0.space)) rfl Try.isAgg9 (k4.cell rfl) rfl ?_
     refine RL.yes rfl rfl rfl hg10 ?_
     refine rl_fieldAddr rfl fa26_0 rfl ?_
     refine RL.yes rfl rfl rfl hg10 ?_
     refine rl_loadS (v := (Value.string a1.space)) rfl Try.isAgg9 (k8.cell rfl) rfl ?_
     refine RL.yes rfl rfl rfl hg10 ?_
     refine rl_bin rfl rfl B.eqlS rfl ?_
     refine RL.yes rfl rfl rfl hg10 ?_
     refine rl_move rfl rfl ?_
     obtain ⟨b16, hb17⟩ : ∃ v, ((decide (a0.space = a1.space)) && (Op.bytesLess a0.name.toList a1.name.toList)) = v := ⟨_, rfl⟩
     have hs9 := ltS hb17 hs9
     refine RL.join 6 22 (.bool b16) (fun w' => Ch nb w6 w') ?_ ?_
     · rcases Bool.eq_false_or_eq_true (decide (a0.space = a1.space)) with hg15 | hg15
       ·
        have hs14 := and_t hg15 hb17
        have cs : Ch nb w6 w6 := Ch.refl
        refine RL.yes rfl rfl rfl hg15 ?_
        refine rl_fieldAddr rfl fa26_1 rfl ?_
        refine RL.yes rfl rfl rfl hg15 ?_
        refine rl_loadS (v := (Value.string a0.name)) rfl Try.isAgg9 (k4.cell rfl) rfl ?_
        refine RL.yes rfl rfl rfl hg15 ?_
        refine rl_fieldAddr rfl fa26_1 rfl ?_
        refine RL.yes rfl rfl rfl hg15 ?_
        refine rl_loadS (v := (Value.string a1.name)) rfl Try.isAgg9 (k8.cell rfl) rfl ?_
        refine RL.yes rfl rfl rfl hg15 ?_
        refine rl_bin rfl rfl B.lssS rfl ?_
        refine RL.yes rfl rfl rfl hg10 ?_
        refine rl_pickT rfl hg15 rfl rfl ?_
        exact RL.nil ⟨Ext.bothEq (congrArg Value.bool hs14) (Ext.skip rfl (Ext.skip rfl (Ext.skip rfl (Ext.skip rfl (Ext.skip rfl (Ext.rfl')))))), cs⟩
       ·
        have hs14 := and_f hg15 hb17
        have cs : Ch nb w6 w6 := Ch.refl
        refine RL.no rfl rfl rfl hg15 rfl rfl ?_
        refine RL.no rfl rfl rfl hg15 rfl rfl ?_
        refine RL.no rfl rfl rfl hg15 rfl rfl ?_
        refine RL.no rfl rfl rfl hg15 rfl rfl ?_
        refine RL.no rfl rfl rfl hg15 rfl rfl ?_
        refine RL.yes rfl rfl rfl hg10 ?_
        refine rl_pickF rfl hg15 rfl rfl ?_
        exact RL.nil ⟨Ext.bothEq (congrArg Value.bool hs14) (Ext.skip rfl (Ext.skip rfl (Ext.skip rfl (Ext.skip rfl (Ext.skip rfl (Ext.rfl')))))), cs⟩
     intro w18 c19
     have k4 := k4.ch0 c19
     have k8 := k8.ch0 c19
     have c0 := c0.then0 c19
     refine rl_pickF rfl hg10 rfl rfl ?_
     have cs := cs.then0 c19
     exact RL.nil ⟨Ext.bothEq (congrArg Value.bool hs9) (Ext.skip rfl (Ext.skip rfl (Ext.skip rfl (Ext.skip rfl (Ext.skip rfl (Ext.skip rfl (Ext.skip rfl (Ext.rfl')))))))), cs⟩
  intro w13 c20
  have k4 := k4.ch0 c20
  have k8 := k8.ch0 c20
  have c0 := c0.then0 c20
  refine RL.nil ?_
  refine thn_n ?_
  refine CW.cond (t := b11) rfl (fun q21 => ?_) (fun q21 => ?_)
  ·
   have hS := ifT q21 hS
   refine CW.seq (CW.region ?_)
   refine rl_assign rfl rfl ?_
   refine RL.nil ?_
   refine thn_n ?_
   refine CW.ret ?_
   refine thn_ret ?_
   obtain rfl := hS
   exact ret1 rfl ⟨rfl, c0⟩
  ·
   have hS := ifF q21 hS
   refine CW.skip ?_
   refine thn_n ?_
   refine CW.seq ?_
   refine CW.seq (CW.region ?_)
   refine rl_loadA (cs := (Key.enc a0)) rfl Try.isAgg26 Try.sizeOf26 (k4.segAt 0 2) rfl rfl ?_
   refine rl_loadA (cs := (Key.enc a1)) rfl Try.isAgg26 Try.sizeOf26 (k8.segAt 0 2) rfl rfl ?_
   refine rl_bin rfl rfl (eql26 a0 a1) rfl ?_
   refine RL.nil ?_
   refine thn_n ?_
   refine CW.cond (t := decide (a0 = a1)) rfl (fun q22 => ?_) (fun q22 => ?_)
   ·
    have hS := ifT q22 hS
    refine CW.seq (CW.region ?_)
    refine rl_assign rfl rfl ?_
    refine RL.nil ?_
    refine thn_n ?_
    refine CW.ret ?_
    refine thn_ret ?_
    obtain rfl := hS
    exact ret1 rfl ⟨rfl, c0⟩
   ·
    have hS := ifF q22 hS
    refine CW.skip ?_
    refine thn_n ?_
    refine CW.seq (CW.region ?_)
    refine rl_assign rfl rfl ?_
    refine RL.nil ?_
    refine thn_n ?_
    refine CW.ret ?_
    obtain rfl := hS
    exact ret1 rfl ⟨rfl, c0⟩
/-- lb/lbref31.Compare -/
theorem ctr10 (F : Nat → Prop) (w : World) (a0 : Tie) (a1 : Tie) (r : Int) (hs : F10_linkboyref31_Compare a0 a1 = some r) :
    Ret Try.prog 10 #[(Value.agg (Tie.enc a0).toArray), (Value.agg (Tie.enc a1).toArray)] w fun v w' => v = (Value.int .i64 r) ∧ Ch nb w w' := by
  have hS := hs
  have c0 : Ch nb w w := Ch.refl
  refine Ret.of (n := 40) (args := [_, _]) (rs := [.tmp 4]) Try.func10 rfl rfl rfl rfl ?_
  refine CW.seq (CW.region ?_)
  refine rl_boxA (cs := (Tie.enc a0)) rfl rfl ?_
  intro p1 w2 n3 k4
  have gp1 : (G F w.heap.size nb) p1 := ⟨.inr (by rw [n3.eq]; exact c0.size), fun h => absurd (nbS _ h) (by rw [n3.eq]; exact Nat.lt_irrefl _)⟩
  have c0 := c0.then0 n3.ch
  refine rl_boxA (cs := (Tie.enc a1)) rfl rfl ?_
  intro p5 w6 n7 k8
  have gp5 : (G F w.heap.size nb) p5 := ⟨.inr (by rw [n7.eq]; exact c0.size), fun h => absurd (nbS _ h) (by rw [n7.eq]; exact Nat.lt_irrefl _)⟩
  have k4 := k4.ch0 n7.ch
  have c0 := c0.then0 n7.ch
  refine rl_assign rfl rfl ?_
  refine RL.nil ?_
  refine thn_n ?_
  refine CW.seq ?_
  refine CW.seq (CW.region ?_)
  refine rl_fieldAddr rfl fa37_0 rfl ?_
  refine rl_loadA (cs := (Addr.enc a0.client)) rfl Try.isAgg24 Try.sizeOf24 (k4.segAt 0 17) rfl rfl ?_
  refine rl_fieldAddr rfl fa37_0 rfl ?_
  refine rl_loadA (cs := (Addr.enc a1.client)) rfl Try.isAgg24 Try.sizeOf24 (k8.segAt 0 17) rfl rfl ?_
  obtain ⟨y11, hy12, hS⟩ := bindS hS
  refine rl_callF rfl en26 rfl (ctr26 (G F w.heap.size nb) w6 a0.client a1.client y11 hy12) ?_
  rintro _ w9 ⟨rfl, c10⟩
  have k4 := k4.ch0 c10
  have k8 := k8.ch0 c10
  have c0 := c0.then0 c10
  refine rl_assign rfl rfl ?_
  refine RL.nil ?_
  refine thn_n ?_
  refine CW.seq (CW.region ?_)
  refine rl_move rfl rfl ?_
  refine rl_bin rfl rfl B.neq rfl ?_
  refine RL.nil ?_
  refine thn_n ?_
  refine CW.cond (t := !decide (y11 = 0)) rfl (fun q13 => ?_) (fun q13 => ?_)
  ·
   have hS := ifT q13 hS
   refine CW.seq (CW.region ?_)
   refine rl_move rfl rfl ?_
   refine rl_assign rfl rfl ?_
   refine RL.nil ?_
   refine thn_n ?_
   refine CW.ret ?_
   refine thn_ret ?_
   obtain rfl := Option.some.inj hS
   exact ret1 rfl ⟨rfl, c0⟩
  ·
   have hS := ifF q13 hS
   refine CW.skip ?_
   refine thn_n ?_
   refine CW.seq ?_
   refine CW.seq (CW.region ?_)
   refine rl_fieldAddr rfl fa37_1 rfl ?_
   refine rl_loadA (cs := (Key.enc a0.service)) rfl Try.isAgg26 Try.sizeOf26 (k4.segAt 17 2) rfl rfl ?_
   refine rl_fieldAddr rfl fa37_1 rfl ?_
   refine rl_loadA (cs := (Key.enc a1.service)) rfl Try.isAgg26 Try.sizeOf26 (k8.segAt 17 2) rfl rfl ?_
   obtain ⟨y16, hy17⟩ : ∃ y, F27_linkboyref05_Compare a0.service a1.service = y := ⟨_, rfl⟩
   have hS := ltS hy17 hS
   refine rl_callF rfl en27 rfl (ctr27 (G F w.heap.size nb) w9 a0.service a1.service y16 hy17) ?_
   rintro _ w14 ⟨rfl, c15⟩
   have k4 := k4.ch0 c15
   have k8 := k8.ch0 c15
   have c0 := c0.then0 c15
   refine rl_assign rfl rfl ?_
   refine RL.nil ?_
   refine thn_n ?_
   refine CW.seq (CW.region ?_)
   refine rl_move rfl rfl ?_
   refine rl_bin rfl rfl B.neq rfl ?_
   refine RL.nil ?_
   refine thn_n ?_
   refine CW.cond (t := !decide (y16 = 0)) rfl (fun q18 => ?_) (fun q18 => ?_)
   ·
    have hS := ifT q18 hS
    refine CW.seq (CW.region ?_)
    refine rl_move rfl rfl ?_
    refine rl_assign rfl rfl ?_
    refine RL.nil ?_
    refine thn_n ?_
    refine CW.ret ?_
    refine thn_ret ?_
    obtain rfl := Option.some.inj hS
    exact ret1 rfl ⟨rfl, c0⟩
   ·
    have hS := ifF q18 hS
    refine CW.skip ?_
    refine thn_n ?_
    refine CW.seq ?_
    refine CW.seq (CW.region ?_)
    refine rl_fieldAddr rfl fa37_2 rfl ?_
    refine rl_loadS (v := (Value.string a0.name)) rfl Try.isAgg9 (k4.cell rfl) rfl ?_
    refine rl_fieldAddr rfl fa37_2 rfl ?_
    refine rl_loadS (v := (Value.string a1.name)) rfl Try.isAgg9 (k8.cell rfl) rfl ?_
    refine rl_bin rfl rfl B.neqS rfl ?_
    refine RL.nil ?_
    refine thn_n ?_
    refine CW.cond (t := !decide (a0.name = a1.name)) rfl (fun q19 => ?_) (fun q19 => ?_)
    ·
     have hS := ifT q19 hS
     refine CW.seq ?_
     refine CW.seq (CW.region ?_)
     refine rl_fieldAddr rfl fa37_2 rfl ?_
     refine rl_loadS (v := (Value.string a0.name)) rfl Try.isAgg9 (k4.cell rfl) rfl ?_
     refine rl_fieldAddr rfl fa37_2 rfl ?_
     refine rl_loadS (v := (Value.string a1.name)) rfl Try.isAgg9 (k8.cell rfl) rfl ?_
     refine rl_bin rfl rfl B.lssS rfl ?_
     refine RL.nil ?_
     refine thn_n ?_
     refine CW.cond (t := Op.bytesLess a0.name.toList a1.name.toList) rfl (fun q20 => ?_) (fun q20 => ?_)
     ·
      have hS := ifT q20 hS
      refine CW.seq (CW.region ?_)
      refine rl_assign rfl rfl ?_
      refine RL.nil ?_
      refine thn_n ?_
      refine CW.ret ?_
      refine thn_ret ?_
      refine thn_ret ?_
      obtain rfl := Option.some.inj hS
      exact ret1 rfl ⟨rfl, c0⟩
     ·
      have hS := ifF q20 hS
      refine CW.skip ?_
      refine thn_n ?_
      refine CW.seq (CW.region ?_)
      refine rl_assign rfl rfl ?_
      refine RL.nil ?_
      refine thn_n ?_
      refine CW.ret ?_
      refine thn_ret ?_
      obtain rfl := Option.some.inj hS
      exact ret1 rfl ⟨rfl, c0⟩
    ·
     have hS := ifF q19 hS
     refine CW.skip ?_
     refine thn_n ?_
     refine CW.seq ?_
     refine CW.seq (CW.region ?_)
     refine rl_fieldAddr rfl fa37_3 rfl ?_
     refine rl_loadS (v := (Value.bool a0.localF)) rfl Try.isAgg4 (k4.cell rfl) rfl ?_
     refine rl_fieldAddr rfl fa37_3 rfl ?_
     refine rl_loadS (v := (Value.bool a1.localF)) rfl Try.isAgg4 (k8.cell rfl) rfl ?_
     refine rl_bin rfl rfl (B.eqlB Try.underlying4) rfl ?_
     refine RL.nil ?_
     refine thn_n ?_
     refine CW.cond (t := (a0.localF == a1.localF)) rfl (fun q21 => ?_) (fun q21 => ?_)
     ·
      have hS := ifT q21 hS
      refine CW.seq (CW.region ?_)
      refine rl_assign rfl rfl ?_
      refine RL.nil ?_
      refine thn_n ?_
      refine CW.ret ?_
      refine thn_ret ?_
      obtain rfl := Option.some.inj hS
      exact ret1 rfl ⟨rfl, c0⟩
     ·
      have hS := ifF q21 hS
      refine CW.skip ?_
      refine thn_n ?_
      refine CW.seq ?_
      refine CW.seq (CW.region ?_)
      refine rl_fieldAddr rfl fa37_3 rfl ?_
      refine rl_loadS (v := (Value.bool a0.localF)) rfl Try.isAgg4 (k4.cell rfl) rfl ?_
      refine RL.nil ?_
      refine thn_n ?_
      refine CW.cond (t := a0.localF) rfl (fun q22 => ?_) (fun q22 => ?_)
      ·
       have hS := ifT q22 hS
       refine CW.seq (CW.region ?_)
       refine rl_assign rfl rfl ?_
       refine RL.nil ?_
       refine thn_n ?_
       refine CW.ret ?_
       refine thn_ret ?_
       obtain rfl := Option.some.inj hS
       exact ret1 rfl ⟨rfl, c0⟩
      ·
       have hS := ifF q22 hS
       refine CW.skip ?_
       refine thn_n ?_
       refine CW.seq (CW.region ?_)
       refine rl_assign rfl rfl ?_
       refine RL.nil ?_
       refine thn_n ?_
       refine CW.ret ?_
       obtain rfl := Option.some.inj hS
       exact ret1 rfl ⟨rfl, c0⟩
/-- lb/lblaw31.TiesFresh -/
theorem ctr3 (F : Nat → Prop) (w : World) (a0 : Tie) (a1 : Tie) (a2 : A2i64) (r : Bool) (hs : F3_linkboylaw31_TiesFresh a0 a1 a2 = some r) :
    Ret Try.prog 3 #[(Value.agg (Tie.enc a0).toArray), (Value.agg (Tie.enc a1).toArray), (Value.agg (A2i64.enc a2).toArray)] w fun v w' => v = (Value.bool r) ∧ Ch nb w w' := by
  have hS := hs
  have c0 : Ch nb w w := Ch.refl
  refine Ret.of (n := 41) (args := [_, _, _]) (rs := [.tmp 6]) Try.func3 rfl rfl rfl rfl ?_
  refine CW.seq (CW.region ?_)
  refine rl_boxA (cs := (Tie.enc a0)) rfl rfl ?_
  intro p1 w2 n3 k4
  have gp1 : (G F w.heap.size nb) p1 := ⟨.inr (by rw [n3.eq]; exact c0.size), fun h => absurd (nbS _ h) (by rw [n3.eq]; exact Nat.lt_irrefl _)⟩
  have c0 := c0.then0 n3.ch
  refine rl_boxA (cs := (Tie.enc a1)) rfl rfl ?_
  intro p5 w6 n7 k8
  have gp5 : (G F w.heap.size nb) p5 := ⟨.inr (by rw [n7.eq]; exact c0.size), fun h => absurd (nbS _ h) (by rw [n7.eq]; exact Nat.lt_irrefl _)⟩
  have k4 := k4.ch0 n7.ch
  have c0 := c0.then0 n7.ch
  refine rl_boxA (cs := (A2i64.enc a2)) rfl rfl ?_
  intro p9 w10 n11 k12
  have gp9 : (G F w.heap.size nb) p9 := ⟨.inr (by rw [n11.eq]; exact c0.size), fun h => absurd (nbS _ h) (by rw [n11.eq]; exact Nat.lt_irrefl _)⟩
  have k4 := k4.ch0 n11.ch
  have k8 := k8.ch0 n11.ch
  have c0 := c0.then0 n11.ch
  refine rl_assign rfl rfl ?_
  refine RL.nil ?_
  refine thn_n ?_
  refine CW.seq ?_
  refine CW.seq (CW.region ?_)
  obtain ⟨y15, hy16, hS⟩ := bindS hS
  refine rl_callF rfl en5 rfl (ctr5 (G F w.heap.size nb) w10  y15 hy16) ?_
  rintro _ w13 ⟨rfl, c14⟩
  have k4 := k4.ch0 c14
  have k8 := k8.ch0 c14
  have k12 := k12.ch0 c14
  have c0 := c0.then0 c14
  refine rl_not rfl rfl ?_
  refine RL.nil ?_
  refine thn_n ?_
  refine CW.cond (t := !y15) rfl (fun q17 => ?_) (fun q17 => ?_)
  ·
   have hS := ifT q17 hS
   refine CW.seq (CW.region ?_)
   refine rl_assign rfl rfl ?_
   refine RL.nil ?_
   refine thn_n ?_
   refine CW.ret ?_
   refine thn_ret ?_
   obtain rfl := Option.some.inj hS
   exact ret1 rfl ⟨rfl, c0⟩
  ·
   have hS := ifF q17 hS
   refine CW.skip ?_
   refine thn_n ?_
   refine CW.seq ?_
   refine CW.seq (CW.region ?_)
   refine rl_loadA (cs := (Tie.enc a0)) rfl Try.isAgg30 Try.sizeOf30 (k4.segAt 0 40) rfl rfl ?_
   refine rl_build (out := (Act.enc ({ kind := 0, now := 0, ticks := 0, tie := a0 } : Act))) rfl pl35 Try.zeroValue35 rfl rfl rfl ?_
   refine rl_loadA (cs := (Tie.enc a1)) rfl Try.isAgg30 Try.sizeOf30 (k8.segAt 0 40) rfl rfl ?_
   refine rl_build (out := (Act.enc ({ kind := 0, now := 0, ticks := 0, tie := a1 } : Act))) rfl pl35 Try.zeroValue35 rfl rfl rfl ?_
   refine rl_bslice (k := k_Act) (F := F) (B := w.heap.size) (S := nb) ([({ kind := 0, now := 0, ticks := 0, tie := a0 } : Act), ({ kind := 0, now := 0, ticks := 0, tie := a1 } : Act)] : List Act) rfl k_Act_pos Try.underlying36 Try.sizeOf35 Try.zeroValue35 rfl rfl ⟨rfl, rfl, ⟨rfl, rfl, trivial⟩⟩ c0.size nbS rfl ?_
   intro v18 w19 c20 hf21 h22
   have h22 := h22.readNew k_Act_pos hf21 nbS
   have k4 := k4.ch0 c20
   have k8 := k8.ch0 c20
   have k12 := k12.ch0 c20
   have c0 := c0.then0 c20
   obtain ⟨y25, hy26⟩ : ∃ y, F6_linkboylaw31_Long [({ kind := 0, now := 0, ticks := 0, tie := a0 } : Act), ({ kind := 0, now := 0, ticks := 0, tie := a1 } : Act)] = y := ⟨_, rfl⟩
   have hS := ltS hy26 hS
   refine rl_callF rfl en6 rfl (ctr6 (G F w.heap.size nb) w19 [({ kind := 0, now := 0, ticks := 0, tie := a0 } : Act), ({ kind := 0, now := 0, ticks := 0, tie := a1 } : Act)] v18 h22 y25 hy26) ?_
   rintro _ w23 ⟨rfl, c24⟩
   have k4 := k4.ch0 c24
   have k8 := k8.ch0 c24
   have k12 := k12.ch0 c24
   have h22 := slRep.ch k_Act_pos h22 c24
   have c0 := c0.then0 c24
   refine RL.nil ?_
   refine thn_n ?_
   refine CW.cond (t := y25) rfl (fun q27 => ?_) (fun q27 => ?_)
   ·
    have hS := ifT q27 hS
    refine CW.seq (CW.region ?_)
    refine rl_assign rfl rfl ?_
    refine RL.nil ?_
    refine thn_n ?_
    refine CW.ret ?_
    refine thn_ret ?_
    obtain rfl := Option.some.inj hS
    exact ret1 rfl ⟨rfl, c0⟩
   ·
    have hS := ifF q27 hS
    refine CW.skip ?_
    refine thn_n ?_
    refine CW.seq ?_
    refine CW.draw 5 [(none, fun _ O uu wx => uu = (Value.agg (Tie.enc a0).toArray)), (none, fun _ O uu wx => uu = (Value.agg (Tie.enc a1).toArray)), (some false, fun _ O uu wx => ∃ (p28 : Nat), uu = (Value.pointer (some ⟨p28, 0, none⟩)) ∧ O = (inBlk (Value.pointer (some ⟨p28, 0, none⟩))) ∧ Blk wx p28 37 (Tie.enc Tie.z)), (some false, fun _ O uu wx => ∃ (p33 : Nat), uu = (Value.pointer (some ⟨p33, 0, none⟩)) ∧ O = (inBlk (Value.pointer (some ⟨p33, 0, none⟩))) ∧ Blk wx p33 37 (Tie.enc Tie.z)), (some true, fun hv O uu wx => ∃ (p33 : Nat) (p28 : Nat), hv = [(Value.pointer (some ⟨p28, 0, none⟩)), (Value.pointer (some ⟨p33, 0, none⟩)), undef] ∧ uu = undef ∧ O = (un (inBlk (Value.pointer (some ⟨p33, 0, none⟩))) (inBlk (Value.pointer (some ⟨p28, 0, none⟩)))) ∧ Blk wx p33 37 (Tie.enc Tie.z) ∧ Blk wx p28 37 (Tie.enc a0) ∧ (∀ b, inBlk (Value.pointer (some ⟨p33, 0, none⟩)) b → ¬ inBlk (Value.pointer (some ⟨p28, 0, none⟩)) b))] [[], [], [], [], [2, 3, 0]] [4, 1, 2, 3] nb (fun _ h => h.elim) mixed rfl rfl rfl rfl ?_ ?_
    ·
     refine Each.consA ⟨fun _ _ _ _ _ _ h => h, fun _ _ _ _ _ _ _ _ _ _ _ h => h, fun O wk hO ck => ?_⟩ ?_
     ·
      have ha49 : ∀ b, b < w23.heap.size → ¬ nb b → ¬ nb b ∧ ¬ (un O nb) b := fun b hb hs => ⟨fun h => h.elim, fun h => un_el h (fun ho => (hO b ho).1.elim (fun h => h.elim) (fun h => Nat.not_le_of_lt hb h)) (fun h => False.elim h)⟩
      have gp1n : (G F w.heap.size (un O nb)) p1 := ⟨gp1.1, (ha49 _ k4.lt gp1.2).2⟩
      have k4 := k4.ch0 ck
      have gp1 := gp1n
      have gp5n : (G F w.heap.size (un O nb)) p5 := ⟨gp5.1, (ha49 _ k8.lt gp5.2).2⟩
      have k8 := k8.ch0 ck
      have gp5 := gp5n
      have gp9n : (G F w.heap.size (un O nb)) p9 := ⟨gp9.1, (ha49 _ k12.lt gp9.2).2⟩
      have k12 := k12.ch0 ck
      have gp9 := gp9n
      have h22 := slRep.st k_Act_pos h22 ck ha49
      have c0 := c0.then0 ck
      refine rl_loadA (cs := (Tie.enc a0)) rfl Try.isAgg30 Try.sizeOf30 (k4.segAt 0 40) rfl rfl ?_
      exact RL.nil ⟨_, rfl, Ch.refl, rfl⟩
     refine Each.consA ⟨fun _ _ _ _ _ _ h => h, fun _ _ _ _ _ _ _ _ _ _ _ h => h, fun O wk hO ck => ?_⟩ ?_
     ·
      have ha50 : ∀ b, b < w23.heap.size → ¬ nb b → ¬ nb b ∧ ¬ (un O nb) b := fun b hb hs => ⟨fun h => h.elim, fun h => un_el h (fun ho => (hO b ho).1.elim (fun h => h.elim) (fun h => Nat.not_le_of_lt hb h)) (fun h => False.elim h)⟩
      have gp1n : (G F w.heap.size (un O nb)) p1 := ⟨gp1.1, (ha50 _ k4.lt gp1.2).2⟩
      have k4 := k4.ch0 ck
      have gp1 := gp1n
      have gp5n : (G F w.heap.size (un O nb)) p5 := ⟨gp5.1, (ha50 _ k8.lt gp5.2).2⟩
      have k8 := k8.ch0 ck
      have gp5 := gp5n
      have gp9n : (G F w.heap.size (un O nb)) p9 := ⟨gp9.1, (ha50 _ k12.lt gp9.2).2⟩
      have k12 := k12.ch0 ck
      have gp9 := gp9n
      have h22 := slRep.st k_Act_pos h22 ck ha50
      have c0 := c0.then0 ck
      refine rl_loadA (cs := (Tie.enc a1)) rfl Try.isAgg30 Try.sizeOf30 (k8.segAt 0 40) rfl rfl ?_
      exact RL.nil ⟨_, rfl, Ch.refl, rfl⟩
     refine Each.consP ⟨fun _ O _ wx wy cc hh => by obtain ⟨p28, e, rfl, ck2_0⟩ := hh; exact ⟨p28, e, rfl, ck2_0.ch0 cc⟩, fun O wk hO ck => ?_⟩ ?_
     ·
      have ha51 : ∀ b, b < w23.heap.size → ¬ nb b → ¬ nb b ∧ ¬ (un O nb) b := fun b hb hs => ⟨fun h => h, fun h => un_el h (fun ho => (hO b ho).1.elim (fun h => h.elim) (fun h => Nat.not_le_of_lt hb h)) (fun h => False.elim h)⟩
      have gp1n : (G F w.heap.size (un O nb)) p1 := ⟨gp1.1, (ha51 _ k4.lt gp1.2).2⟩
      have k4 := k4.ch0 ck
      have gp1 := gp1n
      have gp5n : (G F w.heap.size (un O nb)) p5 := ⟨gp5.1, (ha51 _ k8.lt gp5.2).2⟩
      have k8 := k8.ch0 ck
      have gp5 := gp5n
      have gp9n : (G F w.heap.size (un O nb)) p9 := ⟨gp9.1, (ha51 _ k12.lt gp9.2).2⟩
      have k12 := k12.ch0 ck
      have gp9 := gp9n
      have h22 := slRep.st k_Act_pos h22 ck ha51
      have c0 := c0.then0 ck
      refine rl_alloc (Tie.enc Tie.z) Try.zeroValue37 rfl rfl ?_
      intro p52 w53 n54 k55
      have lo56 : ∀ b, inBlk (Value.pointer (some ⟨p52, 0, none⟩)) b → w.heap.size ≤ b := fun b h => Nat.le_trans c0.size (n54.fresh b h)
      have d57 : ∀ b, inBlk (Value.pointer (some ⟨p52, 0, none⟩)) b → ¬ O b := disNew n54.fresh (fun b h => (hO b h).2)
      have gp1n : (G F w.heap.size (un (inBlk (Value.pointer (some ⟨p52, 0, none⟩))) (un O nb))) p1 := ⟨gp1.1, ((admNew n54.fresh (fun _ x => x)) _ k4.lt gp1.2).2⟩
      have k4 := k4.ch0 n54.ch
      have gp1 := gp1n
      have gp5n : (G F w.heap.size (un (inBlk (Value.pointer (some ⟨p52, 0, none⟩))) (un O nb))) p5 := ⟨gp5.1, ((admNew n54.fresh (fun _ x => x)) _ k8.lt gp5.2).2⟩
      have k8 := k8.ch0 n54.ch
      have gp5 := gp5n
      have gp9n : (G F w.heap.size (un (inBlk (Value.pointer (some ⟨p52, 0, none⟩))) (un O nb))) p9 := ⟨gp9.1, ((admNew n54.fresh (fun _ x => x)) _ k12.lt gp9.2).2⟩
      have k12 := k12.ch0 n54.ch
      have gp9 := gp9n
      have h22 := slRep.st k_Act_pos h22 n54.ch (admNew n54.fresh (fun _ x => x))
      have c0 := c0.then0 n54.ch
      have hb58 : ∀ b, (inBlk (Value.pointer (some ⟨p52, 0, none⟩))) b → wk.heap.size ≤ b ∧ b < w53.heap.size := fun b h => ⟨n54.fresh b h, k55.ltp b h⟩
      exact RL.nil ⟨_, (inBlk (Value.pointer (some ⟨p52, 0, none⟩))), rfl, hb58, n54.ch, ⟨p52, rfl, rfl, k55⟩⟩
     refine Each.consP ⟨fun _ O _ wx wy cc hh => by obtain ⟨p33, e, rfl, ck3_0⟩ := hh; exact ⟨p33, e, rfl, ck3_0.ch0 cc⟩, fun O wk hO ck => ?_⟩ ?_
     ·
      have ha59 : ∀ b, b < w23.heap.size → ¬ nb b → ¬ nb b ∧ ¬ (un O nb) b := fun b hb hs => ⟨fun h => h, fun h => un_el h (fun ho => (hO b ho).1.elim (fun h => h.elim) (fun h => Nat.not_le_of_lt hb h)) (fun h => False.elim h)⟩
      have gp1n : (G F w.heap.size (un O nb)) p1 := ⟨gp1.1, (ha59 _ k4.lt gp1.2).2⟩
      have k4 := k4.ch0 ck
      have gp1 := gp1n
      have gp5n : (G F w.heap.size (un O nb)) p5 := ⟨gp5.1, (ha59 _ k8.lt gp5.2).2⟩
      have k8 := k8.ch0 ck
      have gp5 := gp5n
      have gp9n : (G F w.heap.size (un O nb)) p9 := ⟨gp9.1, (ha59 _ k12.lt gp9.2).2⟩
      have k12 := k12.ch0 ck
      have gp9 := gp9n
      have h22 := slRep.st k_Act_pos h22 ck ha59
      have c0 := c0.then0 ck
      refine rl_alloc (Tie.enc Tie.z) Try.zeroValue37 rfl rfl ?_
      intro p60 w61 n62 k63
      have lo64 : ∀ b, inBlk (Value.pointer (some ⟨p60, 0, none⟩)) b → w.heap.size ≤ b := fun b h => Nat.le_trans c0.size (n62.fresh b h)
      have d65 : ∀ b, inBlk (Value.pointer (some ⟨p60, 0, none⟩)) b → ¬ O b := disNew n62.fresh (fun b h => (hO b h).2)
      have gp1n : (G F w.heap.size (un (inBlk (Value.pointer (some ⟨p60, 0, none⟩))) (un O nb))) p1 := ⟨gp1.1, ((admNew n62.fresh (fun _ x => x)) _ k4.lt gp1.2).2⟩
      have k4 := k4.ch0 n62.ch
      have gp1 := gp1n
      have gp5n : (G F w.heap.size (un (inBlk (Value.pointer (some ⟨p60, 0, none⟩))) (un O nb))) p5 := ⟨gp5.1, ((admNew n62.fresh (fun _ x => x)) _ k8.lt gp5.2).2⟩
      have k8 := k8.ch0 n62.ch
      have gp5 := gp5n
      have gp9n : (G F w.heap.size (un (inBlk (Value.pointer (some ⟨p60, 0, none⟩))) (un O nb))) p9 := ⟨gp9.1, ((admNew n62.fresh (fun _ x => x)) _ k12.lt gp9.2).2⟩
      have k12 := k12.ch0 n62.ch
      have gp9 := gp9n
      have h22 := slRep.st k_Act_pos h22 n62.ch (admNew n62.fresh (fun _ x => x))
      have c0 := c0.then0 n62.ch
      have hb66 : ∀ b, (inBlk (Value.pointer (some ⟨p60, 0, none⟩))) b → wk.heap.size ≤ b ∧ b < w61.heap.size := fun b h => ⟨n62.fresh b h, k63.ltp b h⟩
      exact RL.nil ⟨_, (inBlk (Value.pointer (some ⟨p60, 0, none⟩))), rfl, hb66, n62.ch, ⟨p60, rfl, rfl, k63⟩⟩
     refine Each.consO ⟨fun _ O _ wx wy cc hh => by obtain ⟨p33, p28, eh, e, rfl, ck4_0, ck4_1, cd4_0_1⟩ := hh; exact ⟨p33, p28, eh, e, rfl, ck4_0.ch0 cc, ck4_1.ch0 cc, cd4_0_1⟩, fun hv Op O wk hO ck hO0 => ?_⟩ ?_
     ·
      obtain ⟨hl, hB⟩ := hO0 rfl
      refine Need.made rfl rfl rfl rfl ?_
      rintro _ ⟨p28, e67, eO68, ck2_0⟩ hh69
      obtain rfl := e67.symm
      have io70 : ∀ b, inBlk (Value.pointer (some ⟨p28, 0, none⟩)) b → _ := fun b h => (Eq.mpr (congrFun eO68 b) h)
      have hf71 : ∀ b, inBlk (Value.pointer (some ⟨p28, 0, none⟩)) b → w23.heap.size ≤ b := fun b h => (hB.2.2.1 _ b (io70 b h)).1
      refine Need.made rfl rfl rfl rfl ?_
      rintro _ ⟨p33, e72, eO73, ck3_0⟩ hh74
      obtain rfl := e72.symm
      have io75 : ∀ b, inBlk (Value.pointer (some ⟨p33, 0, none⟩)) b → _ := fun b h => (Eq.mpr (congrFun eO73 b) h)
      have hf76 : ∀ b, inBlk (Value.pointer (some ⟨p33, 0, none⟩)) b → w23.heap.size ≤ b := fun b h => (hB.2.2.1 _ b (io75 b h)).1
      obtain rfl := hist_eq [(Value.pointer (some ⟨p28, 0, none⟩)), (Value.pointer (some ⟨p33, 0, none⟩))] hv hl ⟨hh69, hh74, trivial⟩
      have d77 : ∀ b, inBlk (Value.pointer (some ⟨p28, 0, none⟩)) b → ¬ inBlk (Value.pointer (some ⟨p33, 0, none⟩)) b := fun b h h' => hB.2.2.2 _ _ b (by decide) (io70 b h) (io75 b h')
      have lo78 : ∀ b, inBlk (Value.pointer (some ⟨p33, 0, none⟩)) b → w.heap.size ≤ b := fun b h => Nat.le_trans c0.size (hf76 b h)
      have lo79 : ∀ b, inBlk (Value.pointer (some ⟨p28, 0, none⟩)) b → w.heap.size ≤ b := fun b h => Nat.le_trans c0.size (hf71 b h)
      have gp1n : (G F w.heap.size (un (inBlk (Value.pointer (some ⟨p33, 0, none⟩))) (un (inBlk (Value.pointer (some ⟨p28, 0, none⟩))) nb))) p1 := ⟨gp1.1, ((show ∀ b, b < w23.heap.size → ¬ nb b → ¬ nb b ∧ ¬ (un (inBlk (Value.pointer (some ⟨p33, 0, none⟩))) (un (inBlk (Value.pointer (some ⟨p28, 0, none⟩))) nb)) b from fun b hb hs => ⟨fun x => x, fun h => un_el h (fun h => Nat.not_le_of_lt hb (hf76 b h)) (fun h => un_el h (fun h => Nat.not_le_of_lt hb (hf71 b h)) (fun h => hs h))⟩) _ k4.lt gp1.2).2⟩
      have k4 := k4.ch0 hB.2.1
      have gp1 := gp1n
      have gp5n : (G F w.heap.size (un (inBlk (Value.pointer (some ⟨p33, 0, none⟩))) (un (inBlk (Value.pointer (some ⟨p28, 0, none⟩))) nb))) p5 := ⟨gp5.1, ((show ∀ b, b < w23.heap.size → ¬ nb b → ¬ nb b ∧ ¬ (un (inBlk (Value.pointer (some ⟨p33, 0, none⟩))) (un (inBlk (Value.pointer (some ⟨p28, 0, none⟩))) nb)) b from fun b hb hs => ⟨fun x => x, fun h => un_el h (fun h => Nat.not_le_of_lt hb (hf76 b h)) (fun h => un_el h (fun h => Nat.not_le_of_lt hb (hf71 b h)) (fun h => hs h))⟩) _ k8.lt gp5.2).2⟩
      have k8 := k8.ch0 hB.2.1
      have gp5 := gp5n
      have gp9n : (G F w.heap.size (un (inBlk (Value.pointer (some ⟨p33, 0, none⟩))) (un (inBlk (Value.pointer (some ⟨p28, 0, none⟩))) nb))) p9 := ⟨gp9.1, ((show ∀ b, b < w23.heap.size → ¬ nb b → ¬ nb b ∧ ¬ (un (inBlk (Value.pointer (some ⟨p33, 0, none⟩))) (un (inBlk (Value.pointer (some ⟨p28, 0, none⟩))) nb)) b from fun b hb hs => ⟨fun x => x, fun h => un_el h (fun h => Nat.not_le_of_lt hb (hf76 b h)) (fun h => un_el h (fun h => Nat.not_le_of_lt hb (hf71 b h)) (fun h => hs h))⟩) _ k12.lt gp9.2).2⟩
      have k12 := k12.ch0 hB.2.1
      have gp9 := gp9n
      have h22 := slRep.st k_Act_pos h22 hB.2.1 (show ∀ b, b < w23.heap.size → ¬ nb b → ¬ nb b ∧ ¬ (un (inBlk (Value.pointer (some ⟨p33, 0, none⟩))) (un (inBlk (Value.pointer (some ⟨p28, 0, none⟩))) nb)) b from fun b hb hs => ⟨fun x => x, fun h => un_el h (fun h => Nat.not_le_of_lt hb (hf76 b h)) (fun h => un_el h (fun h => Nat.not_le_of_lt hb (hf71 b h)) (fun h => hs h))⟩)
      have c0 := c0.then0 hB.2.1
      refine Need.one rfl rfl rfl ?_
      rintro _ e80
      obtain rfl := e80.symm
      refine rl_storeA (vs := (Tie.enc a0)) rfl rfl (all_one rfl) Try.sizeOf37 rfl ck2_0 rfl ?_
      intro w81 s83 c82 k84
      have ad85 : ∀ b, b < wk.heap.size → ¬ (un (inBlk (Value.pointer (some ⟨p33, 0, none⟩))) (un (inBlk (Value.pointer (some ⟨p28, 0, none⟩))) nb)) b → ¬ (inBlk (Value.pointer (some ⟨p28, 0, none⟩))) b ∧ ¬ (un (inBlk (Value.pointer (some ⟨p33, 0, none⟩))) (un (inBlk (Value.pointer (some ⟨p28, 0, none⟩))) nb)) b := fun b _ hs => ⟨fun h => hs (.inr (.inl h)), hs⟩
      have k4 := k4.ch c82 (ad85 _ k4.lt gp1.2).1
      have k8 := k8.ch c82 (ad85 _ k8.lt gp5.2).1
      have k12 := k12.ch c82 (ad85 _ k12.lt gp9.2).1
      have h22 := slRep.st k_Act_pos h22 c82 ad85
      have ck3_0 := ck3_0.ch c82 ((fun b hb h => (disSym d77) b hb h) _ rfl)
      have c0 := c0.then c82 (fun i hi h => absurd (lo79 i h) (Nat.not_le_of_lt hi))
      have hb86 : ∀ b, (un (inBlk (Value.pointer (some ⟨p33, 0, none⟩))) (inBlk (Value.pointer (some ⟨p28, 0, none⟩)))) b → (O b ∨ wk.heap.size ≤ b) ∧ b < w81.heap.size := fun b h => ⟨un_el h (fun h => .inl ((hB.1 b).2 (.inr ⟨_, inPre rfl, io75 b h⟩))) (fun h => .inl ((hB.1 b).2 (.inr ⟨_, inPre rfl, io70 b h⟩))), un_el h (fun h => ck3_0.ltp b h) (fun h => k84.ltp b h)⟩
      exact RL.nil ⟨_, (un (inBlk (Value.pointer (some ⟨p33, 0, none⟩))) (inBlk (Value.pointer (some ⟨p28, 0, none⟩)))), rfl, hb86, (c82.mono (fun b _ h => ((hB.1 b).2 (.inr ⟨_, inPre rfl, io70 b h⟩)))), ⟨p33, p28, rfl, rfl, rfl, ck3_0, k84, (disSym d77)⟩⟩
     trivial
    ·
     intro hvO89 OpO89 O89 w87 hO90 c88 hN91
     refine Need.hereN rfl rfl rfl rfl ?_
     rintro ⟨p33, p28, rfl, _, rfl, ck4_0, ck4_1, cd4_0_1⟩
     have lo93 : ∀ b, inBlk (Value.pointer (some ⟨p33, 0, none⟩)) b → w.heap.size ≤ b := fun b h => (hO90 b (.inl h)).1.elim (fun h => h.elim) (Nat.le_trans c0.size)
     have lo94 : ∀ b, inBlk (Value.pointer (some ⟨p28, 0, none⟩)) b → w.heap.size ≤ b := fun b h => (hO90 b (.inr h)).1.elim (fun h => h.elim) (Nat.le_trans c0.size)
     have ha95 : ∀ b, b < w23.heap.size → ¬ nb b → ¬ nb b ∧ ¬ (un (inBlk (Value.pointer (some ⟨p33, 0, none⟩))) (un (inBlk (Value.pointer (some ⟨p28, 0, none⟩))) nb)) b := fun b hb hs => ⟨fun h => h.elim, fun h => un_el h (fun h => (hO90 b (.inl h)).1.elim (fun h => h.elim) (fun h => Nat.not_le_of_lt hb h)) (fun h => un_el h (fun h => (hO90 b (.inr h)).1.elim (fun h => h.elim) (fun h => Nat.not_le_of_lt hb h)) (fun h => False.elim h))⟩
     have gp1n : (G F w.heap.size (un (inBlk (Value.pointer (some ⟨p33, 0, none⟩))) (un (inBlk (Value.pointer (some ⟨p28, 0, none⟩))) nb))) p1 := ⟨gp1.1, (ha95 _ k4.lt gp1.2).2⟩
     have k4 := k4.ch0 c88
     have gp1 := gp1n
     have gp5n : (G F w.heap.size (un (inBlk (Value.pointer (some ⟨p33, 0, none⟩))) (un (inBlk (Value.pointer (some ⟨p28, 0, none⟩))) nb))) p5 := ⟨gp5.1, (ha95 _ k8.lt gp5.2).2⟩
     have k8 := k8.ch0 c88
     have gp5 := gp5n
     have gp9n : (G F w.heap.size (un (inBlk (Value.pointer (some ⟨p33, 0, none⟩))) (un (inBlk (Value.pointer (some ⟨p28, 0, none⟩))) nb))) p9 := ⟨gp9.1, (ha95 _ k12.lt gp9.2).2⟩
     have k12 := k12.ch0 c88
     have gp9 := gp9n
     have h22 := slRep.st k_Act_pos h22 c88 ha95
     have c0 := c0.then0 c88
     refine Need.one rfl rfl rfl ?_
     rintro _ e96
     obtain rfl := e96.symm
     refine Need.hist (Value.pointer (some ⟨p28, 0, none⟩)) rfl rfl rfl rfl rfl rfl ?_
     refine Need.hist (Value.pointer (some ⟨p33, 0, none⟩)) rfl rfl rfl rfl rfl rfl ?_
     refine rl_storeA (vs := (Tie.enc a1)) rfl rfl (all_one rfl) Try.sizeOf37 rfl ck4_0 rfl ?_
     intro w99 s101 c100 k102
     have ad103 : ∀ b, b < w87.heap.size → ¬ (un (inBlk (Value.pointer (some ⟨p33, 0, none⟩))) (un (inBlk (Value.pointer (some ⟨p28, 0, none⟩))) nb)) b → ¬ (inBlk (Value.pointer (some ⟨p33, 0, none⟩))) b ∧ ¬ (un (inBlk (Value.pointer (some ⟨p33, 0, none⟩))) (un (inBlk (Value.pointer (some ⟨p28, 0, none⟩))) nb)) b := fun b _ hs => ⟨fun h => hs (.inl h), hs⟩
     have k4 := k4.ch c100 (ad103 _ k4.lt gp1.2).1
     have k8 := k8.ch c100 (ad103 _ k8.lt gp5.2).1
     have k12 := k12.ch c100 (ad103 _ k12.lt gp9.2).1
     have h22 := slRep.st k_Act_pos h22 c100 ad103
     have ck4_1 := ck4_1.ch c100 ((fun b hb h => (disSym cd4_0_1) b hb h) _ rfl)
     have c0 := c0.then c100 (fun i hi h => absurd (lo93 i h) (Nat.not_le_of_lt hi))
     refine RL.nil ?_
     refine thn_n ?_
     refine CW.seq ?_
     obtain ⟨y106, hy107, hS⟩ := bindS hS
     obtain ⟨y110, hy111, hS⟩ := bindS hS
     obtain ⟨y114, hy115⟩ : ∃ y, F7_ties_Fresh a0 y106 y110 = y := ⟨_, rfl⟩
     have hS := ltS hy115 hS
     obtain ⟨y118, hy119, hS⟩ := bindS hS
     obtain ⟨y122, hy123, hS⟩ := bindS hS
     obtain ⟨y126, hy127⟩ : ∃ y, F8_linkboyref31_Fresh a0 y118 y122 = y := ⟨_, rfl⟩
     have hS := ltS hy127 hS
     obtain ⟨b136, hb137, hS⟩ := bindS hS
     refine CW.cutN (fun E' w' => Sub [(6, (Value.bool b136))] E' ∧ Ch nb w99 w') ?_ ?_
     ·
      rcases Bool.eq_false_or_eq_true (y114 == y126) with hg138 | hg138
      ·
       have hs139 := andO_t hg138 hb137
       obtain ⟨y130, hy131⟩ : ∃ y, F9_ties_Compare a0 a1 = y := ⟨_, rfl⟩
       have hs139 := ltS hy131 hs139
       obtain ⟨y134, hy135, hs139⟩ := bindS hs139
       refine CW.draw 22 [(none, fun _ O uu wx => uu = (Value.agg (Tie.enc a0).toArray)), (none, fun _ O uu wx => uu = (Value.pointer (some ⟨p9, (0 + (0 : Int).toNat), none⟩)) ∧ Seg wx p9 (0 + (0 : Int).toNat) [(Value.int .i64 y106)]), (none, fun _ O uu wx => uu = (Value.int .i64 y106)), (none, fun _ O uu wx => uu = (Value.pointer (some ⟨p9, (0 + (1 : Int).toNat), none⟩)) ∧ Seg wx p9 (0 + (1 : Int).toNat) [(Value.int .i64 y110)]), (none, fun _ O uu wx => uu = (Value.int .i64 y110)), (none, fun _ O uu wx => uu = (Value.bool y114)), (none, fun _ O uu wx => uu = (Value.agg (Tie.enc a0).toArray)), (none, fun _ O uu wx => uu = (Value.pointer (some ⟨p9, (0 + (0 : Int).toNat), none⟩)) ∧ Seg wx p9 (0 + (0 : Int).toNat) [(Value.int .i64 y118)]), (none, fun _ O uu wx => uu = (Value.int .i64 y118)), (none, fun _ O uu wx => uu = (Value.pointer (some ⟨p9, (0 + (1 : Int).toNat), none⟩)) ∧ Seg wx p9 (0 + (1 : Int).toNat) [(Value.int .i64 y122)]), (none, fun _ O uu wx => uu = (Value.int .i64 y122)), (none, fun _ O uu wx => uu = (Value.bool y126)), (none, fun _ O uu wx => uu = (Value.bool (y114 == y126))), (none, fun _ O uu wx => uu = (Value.bool (y114 == y126))), (none, fun _ O uu wx => uu = (Value.agg (Tie.enc a0).toArray)), (none, fun _ O uu wx => uu = (Value.agg (Tie.enc a1).toArray)), (none, fun _ O uu wx => uu = (Value.int .i64 y130)), (none, fun _ O uu wx => uu = (Value.agg (Tie.enc a0).toArray)), (none, fun _ O uu wx => uu = (Value.agg (Tie.enc a1).toArray)), (none, fun _ O uu wx => uu = (Value.int .i64 y134)), (none, fun _ O uu wx => uu = (Value.bool (decide (y130 = y134)))), (none, fun _ O uu wx => uu = (Value.bool b136))] [[], [], [1], [], [3], [0, 2, 4], [], [], [7], [], [9], [6, 8, 10], [5, 11], [12], [13], [13], [13, 14, 15], [13], [13], [13, 17, 18], [13, 16, 19], [13, 20]] [21] nb (fun _ h => h.elim) mixed rfl rfl rfl rfl ?_ ?_
       ·
        refine Each.consA ⟨fun _ _ _ _ _ _ h => h, fun h => absurd rfl h, fun O wk hO ck => ?_⟩ ?_
        ·
         have k4 := k4.ch0 ck
         have k8 := k8.ch0 ck
         have k12 := k12.ch0 ck
         have h22 := slRep.ch k_Act_pos h22 ck
         have ck4_1 := ck4_1.ch0 ck
         have k102 := k102.ch0 ck
         have c0 := c0.then0 ck
         refine rl_loadA (cs := (Tie.enc a0)) rfl Try.isAgg30 Try.sizeOf30 (k4.segAt 0 40) rfl rfl ?_
         exact RL.nil ⟨_, rfl, Ch.refl, rfl⟩
        refine Each.consA ⟨fun _ _ _ _ _ cc hh => by obtain ⟨e, hs105⟩ := hh; exact ⟨e, hs105.ch0 cc⟩, fun h => absurd rfl h, fun O wk hO ck => ?_⟩ ?_
        ·
         have k4 := k4.ch0 ck
         have k8 := k8.ch0 ck
         have k12 := k12.ch0 ck
         have h22 := slRep.ch k_Act_pos h22 ck
         have ck4_1 := ck4_1.ch0 ck
         have k102 := k102.ch0 ck
         have c0 := c0.then0 ck
         refine rl_ixArr (l := A2i64.list a2) (val := (Value.int .i64)) (cs := A2i64.enc a2) rfl rfl (ixO_get hy107) Try.underlying31 rfl Try.sizeOf3 (k12.segAt 0 2) rfl rfl ?_
         intro hc140
         have hs141 : Seg wk p9 (0 + (0 : Int).toNat) [(Value.int .i64 y106)] := Seg.one hc140
         exact RL.nil ⟨_, rfl, Ch.refl, ⟨rfl, hs141⟩⟩
        refine Each.consA ⟨fun _ _ _ _ _ _ h => h, fun h => absurd rfl h, fun O wk hO ck => ?_⟩ ?_
        ·
         have k4 := k4.ch0 ck
         have k8 := k8.ch0 ck
         have k12 := k12.ch0 ck
         have h22 := slRep.ch k_Act_pos h22 ck
         have ck4_1 := ck4_1.ch0 ck
         have k102 := k102.ch0 ck
         have c0 := c0.then0 ck
         refine Need.one rfl rfl rfl ?_
         rintro _ ⟨e142, hs105⟩
         obtain rfl := e142.symm
         refine rl_loadS (v := (Value.int .i64 y106)) rfl Try.isAgg3 (hs105 0 _ rfl) rfl ?_
         exact RL.nil ⟨_, rfl, Ch.refl, rfl⟩
        refine Each.consA ⟨fun _ _ _ _ _ cc hh => by obtain ⟨e, hs109⟩ := hh; exact ⟨e, hs109.ch0 cc⟩, fun h => absurd rfl h, fun O wk hO ck => ?_⟩ ?_
        ·
         have k4 := k4.ch0 ck
         have k8 := k8.ch0 ck
         have k12 := k12.ch0 ck
         have h22 := slRep.ch k_Act_pos h22 ck
         have ck4_1 := ck4_1.ch0 ck
         have k102 := k102.ch0 ck
         have c0 := c0.then0 ck
         refine rl_ixArr (l := A2i64.list a2) (val := (Value.int .i64)) (cs := A2i64.enc a2) rfl rfl (ixO_get hy111) Try.underlying31 rfl Try.sizeOf3 (k12.segAt 0 2) rfl rfl ?_
         intro hc143
         have hs144 : Seg wk p9 (0 + (1 : Int).toNat) [(Value.int .i64 y110)] := Seg.one hc143
         exact RL.nil ⟨_, rfl, Ch.refl, ⟨rfl, hs144⟩⟩
        refine Each.consA ⟨fun _ _ _ _ _ _ h => h, fun h => absurd rfl h, fun O wk hO ck => ?_⟩ ?_
        ·
         have k4 := k4.ch0 ck
         have k8 := k8.ch0 ck
         have k12 := k12.ch0 ck
         have h22 := slRep.ch k_Act_pos h22 ck
         have ck4_1 := ck4_1.ch0 ck
         have k102 := k102.ch0 ck
         have c0 := c0.then0 ck
         refine Need.one rfl rfl rfl ?_
         rintro _ ⟨e145, hs109⟩
         obtain rfl := e145.symm
         refine rl_loadS (v := (Value.int .i64 y110)) rfl Try.isAgg3 (hs109 0 _ rfl) rfl ?_
         exact RL.nil ⟨_, rfl, Ch.refl, rfl⟩
        refine Each.consA ⟨fun _ _ _ _ _ _ h => h, fun h => absurd rfl h, fun O wk hO ck => ?_⟩ ?_
        ·
         have k4 := k4.ch0 ck
         have k8 := k8.ch0 ck
         have k12 := k12.ch0 ck
         have h22 := slRep.ch k_Act_pos h22 ck
         have ck4_1 := ck4_1.ch0 ck
         have k102 := k102.ch0 ck
         have c0 := c0.then0 ck
         refine Need.one rfl rfl rfl ?_
         rintro _ e146
         obtain rfl := e146.symm
         refine Need.one rfl rfl rfl ?_
         rintro _ e147
         obtain rfl := e147.symm
         refine Need.one rfl rfl rfl ?_
         rintro _ e148
         obtain rfl := e148.symm
         refine rl_callF rfl en7 rfl (ctr7 (G F w.heap.size (un (inBlk (Value.pointer (some ⟨p33, 0, none⟩))) (un (inBlk (Value.pointer (some ⟨p28, 0, none⟩))) nb))) wk a0 y106 y110 y114 hy115) ?_
         rintro _ w149 ⟨rfl, c150⟩
         have k4 := k4.ch0 c150
         have k8 := k8.ch0 c150
         have k12 := k12.ch0 c150
         have h22 := slRep.ch k_Act_pos h22 c150
         have ck4_1 := ck4_1.ch0 c150
         have k102 := k102.ch0 c150
         have c0 := c0.then0 c150
         exact RL.nil ⟨_, rfl, c150, rfl⟩
        refine Each.consA ⟨fun _ _ _ _ _ _ h => h, fun h => absurd rfl h, fun O wk hO ck => ?_⟩ ?_
        ·
         have k4 := k4.ch0 ck
         have k8 := k8.ch0 ck
         have k12 := k12.ch0 ck
         have h22 := slRep.ch k_Act_pos h22 ck
         have ck4_1 := ck4_1.ch0 ck
         have k102 := k102.ch0 ck
         have c0 := c0.then0 ck
         refine rl_loadA (cs := (Tie.enc a0)) rfl Try.isAgg37 Try.sizeOf37 (ck4_1.segAt 0 40) rfl rfl ?_
         exact RL.nil ⟨_, rfl, Ch.refl, rfl⟩
        refine Each.consA ⟨fun _ _ _ _ _ cc hh => by obtain ⟨e, hs117⟩ := hh; exact ⟨e, hs117.ch0 cc⟩, fun h => absurd rfl h, fun O wk hO ck => ?_⟩ ?_
        ·
         have k4 := k4.ch0 ck
         have k8 := k8.ch0 ck
         have k12 := k12.ch0 ck
         have h22 := slRep.ch k_Act_pos h22 ck
         have ck4_1 := ck4_1.ch0 ck
         have k102 := k102.ch0 ck
         have c0 := c0.then0 ck
         refine rl_ixArr (l := A2i64.list a2) (val := (Value.int .i64)) (cs := A2i64.enc a2) rfl rfl (ixO_get hy119) Try.underlying31 rfl Try.sizeOf3 (k12.segAt 0 2) rfl rfl ?_
         intro hc151
         have hs152 : Seg wk p9 (0 + (0 : Int).toNat) [(Value.int .i64 y118)] := Seg.one hc151
         exact RL.nil ⟨_, rfl, Ch.refl, ⟨rfl, hs152⟩⟩
        refine Each.consA ⟨fun _ _ _ _ _ _ h => h, fun h => absurd rfl h, fun O wk hO ck => ?_⟩ ?_
        ·
         have k4 := k4.ch0 ck
         have k8 := k8.ch0 ck
         have k12 := k12.ch0 ck
         have h22 := slRep.ch k_Act_pos h22 ck
         have ck4_1 := ck4_1.ch0 ck
         have k102 := k102.ch0 ck
         have c0 := c0.then0 ck
         refine Need.one rfl rfl rfl ?_
         rintro _ ⟨e153, hs117⟩
         obtain rfl := e153.symm
         refine rl_loadS (v := (Value.int .i64 y118)) rfl Try.isAgg3 (hs117 0 _ rfl) rfl ?_
         exact RL.nil ⟨_, rfl, Ch.refl, rfl⟩
        refine Each.consA ⟨fun _ _ _ _ _ cc hh => by obtain ⟨e, hs121⟩ := hh; exact ⟨e, hs121.ch0 cc⟩, fun h => absurd rfl h, fun O wk hO ck => ?_⟩ ?_
        ·
         have k4 := k4.ch0 ck
         have k8 := k8.ch0 ck
         have k12 := k12.ch0 ck
         have h22 := slRep.ch k_Act_pos h22 ck
         have ck4_1 := ck4_1.ch0 ck
         have k102 := k102.ch0 ck
         have c0 := c0.then0 ck
         refine rl_ixArr (l := A2i64.list a2) (val := (Value.int .i64)) (cs := A2i64.enc a2) rfl rfl (ixO_get hy123) Try.underlying31 rfl Try.sizeOf3 (k12.segAt 0 2) rfl rfl ?_
         intro hc154
         have hs155 : Seg wk p9 (0 + (1 : Int).toNat) [(Value.int .i64 y122)] := Seg.one hc154
         exact RL.nil ⟨_, rfl, Ch.refl, ⟨rfl, hs155⟩⟩
        refine Each.consA ⟨fun _ _ _ _ _ _ h => h, fun h => absurd rfl h, fun O wk hO ck => ?_⟩ ?_
        ·
         have k4 := k4.ch0 ck
         have k8 := k8.ch0 ck
         have k12 := k12.ch0 ck
         have h22 := slRep.ch k_Act_pos h22 ck
         have ck4_1 := ck4_1.ch0 ck
         have k102 := k102.ch0 ck
         have c0 := c0.then0 ck
         refine Need.one rfl rfl rfl ?_
         rintro _ ⟨e156, hs121⟩
         obtain rfl := e156.symm
         refine rl_loadS (v := (Value.int .i64 y122)) rfl Try.isAgg3 (hs121 0 _ rfl) rfl ?_
         exact RL.nil ⟨_, rfl, Ch.refl, rfl⟩
        refine Each.consA ⟨fun _ _ _ _ _ _ h => h, fun h => absurd rfl h, fun O wk hO ck => ?_⟩ ?_
        ·
         have k4 := k4.ch0 ck
         have k8 := k8.ch0 ck
         have k12 := k12.ch0 ck
         have h22 := slRep.ch k_Act_pos h22 ck
         have ck4_1 := ck4_1.ch0 ck
         have k102 := k102.ch0 ck
         have c0 := c0.then0 ck
         refine Need.one rfl rfl rfl ?_
         rintro _ e157
         obtain rfl := e157.symm
         refine Need.one rfl rfl rfl ?_
         rintro _ e158
         obtain rfl := e158.symm
         refine Need.one rfl rfl rfl ?_
         rintro _ e159
         obtain rfl := e159.symm
         refine rl_callF rfl en8 rfl (ctr8 (G F w.heap.size (un (inBlk (Value.pointer (some ⟨p33, 0, none⟩))) (un (inBlk (Value.pointer (some ⟨p28, 0, none⟩))) nb))) wk a0 y118 y122 y126 hy127) ?_
         rintro _ w160 ⟨rfl, c161⟩
         have k4 := k4.ch0 c161
         have k8 := k8.ch0 c161
         have k12 := k12.ch0 c161
         have h22 := slRep.ch k_Act_pos h22 c161
         have ck4_1 := ck4_1.ch0 c161
         have k102 := k102.ch0 c161
         have c0 := c0.then0 c161
         exact RL.nil ⟨_, rfl, c161, rfl⟩
        refine Each.consA ⟨fun _ _ _ _ _ _ h => h, fun h => absurd rfl h, fun O wk hO ck => ?_⟩ ?_
        ·
         have k4 := k4.ch0 ck
         have k8 := k8.ch0 ck
         have k12 := k12.ch0 ck
         have h22 := slRep.ch k_Act_pos h22 ck
         have ck4_1 := ck4_1.ch0 ck
         have k102 := k102.ch0 ck
         have c0 := c0.then0 ck
         refine Need.one rfl rfl rfl ?_
         rintro _ e162
         obtain rfl := e162.symm
         refine Need.one rfl rfl rfl ?_
         rintro _ e163
         obtain rfl := e163.symm
         refine rl_bin rfl rfl (B.eqlB Try.underlying4) rfl ?_
         exact RL.nil ⟨_, rfl, Ch.refl, rfl⟩
        refine Each.consA ⟨fun _ _ _ _ _ _ h => h, fun h => absurd rfl h, fun O wk hO ck => ?_⟩ ?_
        ·
         have k4 := k4.ch0 ck
         have k8 := k8.ch0 ck
         have k12 := k12.ch0 ck
         have h22 := slRep.ch k_Act_pos h22 ck
         have ck4_1 := ck4_1.ch0 ck
         have k102 := k102.ch0 ck
         have c0 := c0.then0 ck
         refine Need.one rfl rfl rfl ?_
         rintro _ e164
         obtain rfl := e164.symm
         refine rl_move rfl rfl ?_
         exact RL.nil ⟨_, rfl, Ch.refl, rfl⟩
        refine Each.consA ⟨fun _ _ _ _ _ _ h => h, fun h => absurd rfl h, fun O wk hO ck => ?_⟩ ?_
        ·
         have k4 := k4.ch0 ck
         have k8 := k8.ch0 ck
         have k12 := k12.ch0 ck
         have h22 := slRep.ch k_Act_pos h22 ck
         have ck4_1 := ck4_1.ch0 ck
         have k102 := k102.ch0 ck
         have c0 := c0.then0 ck
         refine Need.one rfl rfl rfl ?_
         rintro _ e165
         obtain rfl := e165.symm
         refine RL.yes rfl rfl rfl hg138 ?_
         refine rl_loadA (cs := (Tie.enc a0)) rfl Try.isAgg30 Try.sizeOf30 (k4.segAt 0 40) rfl rfl ?_
         exact RL.nil ⟨_, rfl, Ch.refl, rfl⟩
        refine Each.consA ⟨fun _ _ _ _ _ _ h => h, fun h => absurd rfl h, fun O wk hO ck => ?_⟩ ?_
        ·
         have k4 := k4.ch0 ck
         have k8 := k8.ch0 ck
         have k12 := k12.ch0 ck
         have h22 := slRep.ch k_Act_pos h22 ck
         have ck4_1 := ck4_1.ch0 ck
         have k102 := k102.ch0 ck
         have c0 := c0.then0 ck
         refine Need.one rfl rfl rfl ?_
         rintro _ e166
         obtain rfl := e166.symm
         refine RL.yes rfl rfl rfl hg138 ?_
         refine rl_loadA (cs := (Tie.enc a1)) rfl Try.isAgg30 Try.sizeOf30 (k8.segAt 0 40) rfl rfl ?_
         exact RL.nil ⟨_, rfl, Ch.refl, rfl⟩
        refine Each.consA ⟨fun _ _ _ _ _ _ h => h, fun h => absurd rfl h, fun O wk hO ck => ?_⟩ ?_
        ·
         have k4 := k4.ch0 ck
         have k8 := k8.ch0 ck
         have k12 := k12.ch0 ck
         have h22 := slRep.ch k_Act_pos h22 ck
         have ck4_1 := ck4_1.ch0 ck
         have k102 := k102.ch0 ck
         have c0 := c0.then0 ck
         refine Need.one rfl rfl rfl ?_
         rintro _ e167
         obtain rfl := e167.symm
         refine Need.one rfl rfl rfl ?_
         rintro _ e168
         obtain rfl := e168.symm
         refine Need.one rfl rfl rfl ?_
         rintro _ e169
         obtain rfl := e169.symm
         refine RL.yes rfl rfl rfl hg138 ?_
         refine rl_callF rfl en9 rfl (ctr9 (G F w.heap.size (un (inBlk (Value.pointer (some ⟨p33, 0, none⟩))) (un (inBlk (Value.pointer (some ⟨p28, 0, none⟩))) nb))) wk a0 a1 y130 hy131) ?_
         rintro _ w170 ⟨rfl, c171⟩
         have k4 := k4.ch0 c171
         have k8 := k8.ch0 c171
         have k12 := k12.ch0 c171
         have h22 := slRep.ch k_Act_pos h22 c171
         have ck4_1 := ck4_1.ch0 c171
         have k102 := k102.ch0 c171
         have c0 := c0.then0 c171
         exact RL.nil ⟨_, rfl, c171, rfl⟩
        refine Each.consA ⟨fun _ _ _ _ _ _ h => h, fun h => absurd rfl h, fun O wk hO ck => ?_⟩ ?_
        ·
         have k4 := k4.ch0 ck
         have k8 := k8.ch0 ck
         have k12 := k12.ch0 ck
         have h22 := slRep.ch k_Act_pos h22 ck
         have ck4_1 := ck4_1.ch0 ck
         have k102 := k102.ch0 ck
         have c0 := c0.then0 ck
         refine Need.one rfl rfl rfl ?_
         rintro _ e172
         obtain rfl := e172.symm
         refine RL.yes rfl rfl rfl hg138 ?_
         refine rl_loadA (cs := (Tie.enc a0)) rfl Try.isAgg37 Try.sizeOf37 (ck4_1.segAt 0 40) rfl rfl ?_
         exact RL.nil ⟨_, rfl, Ch.refl, rfl⟩
        refine Each.consA ⟨fun _ _ _ _ _ _ h => h, fun h => absurd rfl h, fun O wk hO ck => ?_⟩ ?_
        ·
         have k4 := k4.ch0 ck
         have k8 := k8.ch0 ck
         have k12 := k12.ch0 ck
         have h22 := slRep.ch k_Act_pos h22 ck
         have ck4_1 := ck4_1.ch0 ck
         have k102 := k102.ch0 ck
         have c0 := c0.then0 ck
         refine Need.one rfl rfl rfl ?_
         rintro _ e173
         obtain rfl := e173.symm
         refine RL.yes rfl rfl rfl hg138 ?_
         refine rl_loadA (cs := (Tie.enc a1)) rfl Try.isAgg37 Try.sizeOf37 (k102.segAt 0 40) rfl rfl ?_
         exact RL.nil ⟨_, rfl, Ch.refl, rfl⟩
        refine Each.consA ⟨fun _ _ _ _ _ _ h => h, fun h => absurd rfl h, fun O wk hO ck => ?_⟩ ?_
        ·
         have k4 := k4.ch0 ck
         have k8 := k8.ch0 ck
         have k12 := k12.ch0 ck
         have h22 := slRep.ch k_Act_pos h22 ck
         have ck4_1 := ck4_1.ch0 ck
         have k102 := k102.ch0 ck
         have c0 := c0.then0 ck
         refine Need.one rfl rfl rfl ?_
         rintro _ e174
         obtain rfl := e174.symm
         refine Need.one rfl rfl rfl ?_
         rintro _ e175
         obtain rfl := e175.symm
         refine Need.one rfl rfl rfl ?_
         rintro _ e176
         obtain rfl := e176.symm
         refine RL.yes rfl rfl rfl hg138 ?_
         refine rl_callF rfl en10 rfl (ctr10 (G F w.heap.size (un (inBlk (Value.pointer (some ⟨p33, 0, none⟩))) (un (inBlk (Value.pointer (some ⟨p28, 0, none⟩))) nb))) wk a0 a1 y134 hy135) ?_
         rintro _ w177 ⟨rfl, c178⟩
         have k4 := k4.ch0 c178
         have k8 := k8.ch0 c178
         have k12 := k12.ch0 c178
         have h22 := slRep.ch k_Act_pos h22 c178
         have ck4_1 := ck4_1.ch0 c178
         have k102 := k102.ch0 c178
         have c0 := c0.then0 c178
         exact RL.nil ⟨_, rfl, c178, rfl⟩
        refine Each.consA ⟨fun _ _ _ _ _ _ h => h, fun h => absurd rfl h, fun O wk hO ck => ?_⟩ ?_
        ·
         have k4 := k4.ch0 ck
         have k8 := k8.ch0 ck
         have k12 := k12.ch0 ck
         have h22 := slRep.ch k_Act_pos h22 ck
         have ck4_1 := ck4_1.ch0 ck
         have k102 := k102.ch0 ck
         have c0 := c0.then0 ck
         refine Need.one rfl rfl rfl ?_
         rintro _ e179
         obtain rfl := e179.symm
         refine Need.one rfl rfl rfl ?_
         rintro _ e180
         obtain rfl := e180.symm
         refine Need.one rfl rfl rfl ?_
         rintro _ e181
         obtain rfl := e181.symm
         refine RL.yes rfl rfl rfl hg138 ?_
         refine rl_bin rfl rfl B.eql rfl ?_
         exact RL.nil ⟨_, rfl, Ch.refl, rfl⟩
        refine Each.consA ⟨fun _ _ _ _ _ _ h => h, fun h => absurd rfl h, fun O wk hO ck => ?_⟩ ?_
        ·
         refine Need.one rfl rfl rfl ?_
         rintro _ e182
         obtain rfl := e182.symm
         refine Need.one rfl rfl rfl ?_
         rintro _ e183
         obtain rfl := e183.symm
         refine rl_pickT rfl hg138 rfl rfl ?_
         exact RL.nil ⟨_, rfl, Ch.refl, congrArg Value.bool (Option.some.inj hs139)⟩
        trivial
       ·
        intro hvO186 OpO186 O186 w184 hO187 c185 hN188
        have k4 := k4.ch0 c185
        have k8 := k8.ch0 c185
        have k12 := k12.ch0 c185
        have h22 := slRep.ch k_Act_pos h22 c185
        have ck4_1 := ck4_1.ch0 c185
        have k102 := k102.ch0 c185
        have c0 := c0.then0 c185
        refine Need.one rfl rfl rfl ?_
        rintro _ e189
        obtain rfl := e189.symm
        refine rl_assign rfl rfl ?_
        exact RL.nil ⟨rfl, ⟨rfl, trivial⟩, c185⟩
      ·
       have hs190 := andO_f hg138 hb137
       refine CW.draw 22 [(none, fun _ O uu wx => uu = (Value.agg (Tie.enc a0).toArray)), (none, fun _ O uu wx => uu = (Value.pointer (some ⟨p9, (0 + (0 : Int).toNat), none⟩)) ∧ Seg wx p9 (0 + (0 : Int).toNat) [(Value.int .i64 y106)]), (none, fun _ O uu wx => uu = (Value.int .i64 y106)), (none, fun _ O uu wx => uu = (Value.pointer (some ⟨p9, (0 + (1 : Int).toNat), none⟩)) ∧ Seg wx p9 (0 + (1 : Int).toNat) [(Value.int .i64 y110)]), (none, fun _ O uu wx => uu = (Value.int .i64 y110)), (none, fun _ O uu wx => uu = (Value.bool y114)), (none, fun _ O uu wx => uu = (Value.agg (Tie.enc a0).toArray)), (none, fun _ O uu wx => uu = (Value.pointer (some ⟨p9, (0 + (0 : Int).toNat), none⟩)) ∧ Seg wx p9 (0 + (0 : Int).toNat) [(Value.int .i64 y118)]), (none, fun _ O uu wx => uu = (Value.int .i64 y118)), (none, fun _ O uu wx => uu = (Value.pointer (some ⟨p9, (0 + (1 : Int).toNat), none⟩)) ∧ Seg wx p9 (0 + (1 : Int).toNat) [(Value.int .i64 y122)]), (none, fun _ O uu wx => uu = (Value.int .i64 y122)), (none, fun _ O uu wx => uu = (Value.bool y126)), (none, fun _ O uu wx => uu = (Value.bool (y114 == y126))), (none, fun _ O uu wx => uu = (Value.bool (y114 == y126))), (none, fun _ O uu wx => uu = undef), (none, fun _ O uu wx => uu = undef), (none, fun _ O uu wx => uu = undef), (none, fun _ O uu wx => uu = undef), (none, fun _ O uu wx => uu = undef), (none, fun _ O uu wx => uu = undef), (none, fun _ O uu wx => uu = undef), (none, fun _ O uu wx => uu = (Value.bool b136))] [[], [], [1], [], [3], [0, 2, 4], [], [], [7], [], [9], [6, 8, 10], [5, 11], [12], [13], [13], [13], [13], [13], [13], [13], [13]] [21] nb (fun _ h => h.elim) mixed rfl rfl rfl rfl ?_ ?_
       ·
        refine Each.consA ⟨fun _ _ _ _ _ _ h => h, fun h => absurd rfl h, fun O wk hO ck => ?_⟩ ?_
        ·
         have k4 := k4.ch0 ck
         have k8 := k8.ch0 ck
         have k12 := k12.ch0 ck
         have h22 := slRep.ch k_Act_pos h22 ck
         have ck4_1 := ck4_1.ch0 ck
         have k102 := k102.ch0 ck
         have c0 := c0.then0 ck
         refine rl_loadA (cs := (Tie.enc a0)) rfl Try.isAgg30 Try.sizeOf30 (k4.segAt 0 40) rfl rfl ?_
         exact RL.nil ⟨_, rfl, Ch.refl, rfl⟩
        refine Each.consA ⟨fun _ _ _ _ _ cc hh => by obtain ⟨e, hs105⟩ := hh; exact ⟨e, hs105.ch0 cc⟩, fun h => absurd rfl h, fun O wk hO ck => ?_⟩ ?_
        ·
         have k4 := k4.ch0 ck
         have k8 := k8.ch0 ck
         have k12 := k12.ch0 ck
         have h22 := slRep.ch k_Act_pos h22 ck
         have ck4_1 := ck4_1.ch0 ck
         have k102 := k102.ch0 ck
         have c0 := c0.then0 ck
         refine rl_ixArr (l := A2i64.list a2) (val := (Value.int .i64)) (cs := A2i64.enc a2) rfl rfl (ixO_get hy107) Try.underlying31 rfl Try.sizeOf3 (k12.segAt 0 2) rfl rfl ?_
         intro hc191
         have hs192 : Seg wk p9 (0 + (0 : Int).toNat) [(Value.int .i64 y106)] := Seg.one hc191
         exact RL.nil ⟨_, rfl, Ch.refl, ⟨rfl, hs192⟩⟩
        refine Each.consA ⟨fun _ _ _ _ _ _ h => h, fun h => absurd rfl h, fun O wk hO ck => ?_⟩ ?_
        ·
         have k4 := k4.ch0 ck
         have k8 := k8.ch0 ck
         have k12 := k12.ch0 ck
         have h22 := slRep.ch k_Act_pos h22 ck
         have ck4_1 := ck4_1.ch0 ck
         have k102 := k102.ch0 ck
         have c0 := c0.then0 ck
         refine Need.one rfl rfl rfl ?_
         rintro _ ⟨e193, hs105⟩
         obtain rfl := e193.symm
         refine rl_loadS (v := (Value.int .i64 y106)) rfl Try.isAgg3 (hs105 0 _ rfl) rfl ?_
         exact RL.nil ⟨_, rfl, Ch.refl, rfl⟩
        refine Each.consA ⟨fun _ _ _ _ _ cc hh => by obtain ⟨e, hs109⟩ := hh; exact ⟨e, hs109.ch0 cc⟩, fun h => absurd rfl h, fun O wk hO ck => ?_⟩ ?_
        ·
         have k4 := k4.ch0 ck
         have k8 := k8.ch0 ck
         have k12 := k12.ch0 ck
         have h22 := slRep.ch k_Act_pos h22 ck
         have ck4_1 := ck4_1.ch0 ck
         have k102 := k102.ch0 ck
         have c0 := c0.then0 ck
         refine rl_ixArr (l := A2i64.list a2) (val := (Value.int .i64)) (cs := A2i64.enc a2) rfl rfl (ixO_get hy111) Try.underlying31 rfl Try.sizeOf3 (k12.segAt 0 2) rfl rfl ?_
         intro hc194
         have hs195 : Seg wk p9 (0 + (1 : Int).toNat) [(Value.int .i64 y110)] := Seg.one hc194
         exact RL.nil ⟨_, rfl, Ch.refl, ⟨rfl, hs195⟩⟩
        refine Each.consA ⟨fun _ _ _ _ _ _ h => h, fun h => absurd rfl h, fun O wk hO ck => ?_⟩ ?_
        ·
         have k4 := k4.ch0 ck
         have k8 := k8.ch0 ck
         have k12 := k12.ch0 ck
         have h22 := slRep.ch k_Act_pos h22 ck
         have ck4_1 := ck4_1.ch0 ck
         have k102 := k102.ch0 ck
         have c0 := c0.then0 ck
         refine Need.one rfl rfl rfl ?_
         rintro _ ⟨e196, hs109⟩
         obtain rfl := e196.symm
         refine rl_loadS (v := (Value.int .i64 y110)) rfl Try.isAgg3 (hs109 0 _ rfl) rfl ?_
         exact RL.nil ⟨_, rfl, Ch.refl, rfl⟩
        refine Each.consA ⟨fun _ _ _ _ _ _ h => h, fun h => absurd rfl h, fun O wk hO ck => ?_⟩ ?_
        ·
         have k4 := k4.ch0 ck
         have k8 := k8.ch0 ck
         have k12 := k12.ch0 ck
         have h22 := slRep.ch k_Act_pos h22 ck
         have ck4_1 := ck4_1.ch0 ck
         have k102 := k102.ch0 ck
         have c0 := c0.then0 ck
         refine Need.one rfl rfl rfl ?_
         rintro _ e197
         obtain rfl := e197.symm
         refine Need.one rfl rfl rfl ?_
         rintro _ e198
         obtain rfl := e198.symm
         refine Need.one rfl rfl rfl ?_
         rintro _ e199
         obtain rfl := e199.symm
         refine rl_callF rfl en7 rfl (ctr7 (G F w.heap.size (un (inBlk (Value.pointer (some ⟨p33, 0, none⟩))) (un (inBlk (Value.pointer (some ⟨p28, 0, none⟩))) nb))) wk a0 y106 y110 y114 hy115) ?_
         rintro _ w200 ⟨rfl, c201⟩
         have k4 := k4.ch0 c201
         have k8 := k8.ch0 c201
         have k12 := k12.ch0 c201
         have h22 := slRep.ch k_Act_pos h22 c201
         have ck4_1 := ck4_1.ch0 c201
         have k102 := k102.ch0 c201
         have c0 := c0.then0 c201
         exact RL.nil ⟨_, rfl, c201, rfl⟩
        refine Each.consA ⟨fun _ _ _ _ _ _ h => h, fun h => absurd rfl h, fun O wk hO ck => ?_⟩ ?_
        ·
         have k4 := k4.ch0 ck
         have k8 := k8.ch0 ck
         have k12 := k12.ch0 ck
         have h22 := slRep.ch k_Act_pos h22 ck
         have ck4_1 := ck4_1.ch0 ck
         have k102 := k102.ch0 ck
         have c0 := c0.then0 ck
         refine rl_loadA (cs := (Tie.enc a0)) rfl Try.isAgg37 Try.sizeOf37 (ck4_1.segAt 0 40) rfl rfl ?_
         exact RL.nil ⟨_, rfl, Ch.refl, rfl⟩
        refine Each.consA ⟨fun _ _ _ _ _ cc hh => by obtain ⟨e, hs117⟩ := hh; exact ⟨e, hs117.ch0 cc⟩, fun h => absurd rfl h, fun O wk hO ck => ?_⟩ ?_
        ·
         have k4 := k4.ch0 ck
         have k8 := k8.ch0 ck
         have k12 := k12.ch0 ck
         have h22 := slRep.ch k_Act_pos h22 ck
         have ck4_1 := ck4_1.ch0 ck
         have k102 := k102.ch0 ck
         have c0 := c0.then0 ck
         refine rl_ixArr (l := A2i64.list a2) (val := (Value.int .i64)) (cs := A2i64.enc a2) rfl rfl (ixO_get hy119) Try.underlying31 rfl Try.sizeOf3 (k12.segAt 0 2) rfl rfl ?_
         intro hc202
         have hs203 : Seg wk p9 (0 + (0 : Int).toNat) [(Value.int .i64 y118)] := Seg.one hc202
         exact RL.nil ⟨_, rfl, Ch.refl, ⟨rfl, hs203⟩⟩
        refine Each.consA ⟨fun _ _ _ _ _ _ h => h, fun h => absurd rfl h, fun O wk hO ck => ?_⟩ ?_
        ·
         have k4 := k4.ch0 ck
         have k8 := k8.ch0 ck
         have k12 := k12.ch0 ck
         have h22 := slRep.ch k_Act_pos h22 ck
         have ck4_1 := ck4_1.ch0 ck
         have k102 := k102.ch0 ck
         have c0 := c0.then0 ck
         refine Need.one rfl rfl rfl ?_
         rintro _ ⟨e204, hs117⟩
         obtain rfl := e204.symm
         refine rl_loadS (v := (Value.int .i64 y118)) rfl Try.isAgg3 (hs117 0 _ rfl) rfl ?_
         exact RL.nil ⟨_, rfl, Ch.refl, rfl⟩
        refine Each.consA ⟨fun _ _ _ _ _ cc hh => by obtain ⟨e, hs121⟩ := hh; exact ⟨e, hs121.ch0 cc⟩, fun h => absurd rfl h, fun O wk hO ck => ?_⟩ ?_
        ·
         have k4 := k4.ch0 ck
         have k8 := k8.ch0 ck
         have k12 := k12.ch0 ck
         have h22 := slRep.ch k_Act_pos h22 ck
         have ck4_1 := ck4_1.ch0 ck
         have k102 := k102.ch0 ck
         have c0 := c0.then0 ck
         refine rl_ixArr (l := A2i64.list a2) (val := (Value.int .i64)) (cs := A2i64.enc a2) rfl rfl (ixO_get hy123) Try.underlying31 rfl Try.sizeOf3 (k12.segAt 0 2) rfl rfl ?_
         intro hc205
         have hs206 : Seg wk p9 (0 + (1 : Int).toNat) [(Value.int .i64 y122)] := Seg.one hc205
         exact RL.nil ⟨_, rfl, Ch.refl, ⟨rfl, hs206⟩⟩
        refine Each.consA ⟨fun _ _ _ _ _ _ h => h, fun h => absurd rfl h, fun O wk hO ck => ?_⟩ ?_
        ·
         have k4 := k4.ch0 ck
         have k8 := k8.ch0 ck
         have k12 := k12.ch0 ck
         have h22 := slRep.ch k_Act_pos h22 ck
         have ck4_1 := ck4_1.ch0 ck
         have k102 := k102.ch0 ck
         have c0 := c0.then0 ck
         refine Need.one rfl rfl rfl ?_
         rintro _ ⟨e207, hs121⟩
         obtain rfl := e207.symm
         refine rl_loadS (v := (Value.int .i64 y122)) rfl Try.isAgg3 (hs121 0 _ rfl) rfl ?_
         exact RL.nil ⟨_, rfl, Ch.refl, rfl⟩
        refine Each.consA ⟨fun _ _ _ _ _ _ h => h, fun h => absurd rfl h, fun O wk hO ck => ?_⟩ ?_
        ·
         have k4 := k4.ch0 ck
         have k8 := k8.ch0 ck
         have k12 := k12.ch0 ck
         have h22 := slRep.ch k_Act_pos h22 ck
         have ck4_1 := ck4_1.ch0 ck
         have k102 := k102.ch0 ck
         have c0 := c0.then0 ck
         refine Need.one rfl rfl rfl ?_
         rintro _ e208
         obtain rfl := e208.symm
         refine Need.one rfl rfl rfl ?_
         rintro _ e209
         obtain rfl := e209.symm
         refine Need.one rfl rfl rfl ?_
         rintro _ e210
         obtain rfl := e210.symm
         refine rl_callF rfl en8 rfl (ctr8 (G F w.heap.size (un (inBlk (Value.pointer (some ⟨p33, 0, none⟩))) (un (inBlk (Value.pointer (some ⟨p28, 0, none⟩))) nb))) wk a0 y118 y122 y126 hy127) ?_
         rintro _ w211 ⟨rfl, c212⟩
         have k4 := k4.ch0 c212
         have k8 := k8.ch0 c212
         have k12 := k12.ch0 c212
         have h22 := slRep.ch k_Act_pos h22 c212
         have ck4_1 := ck4_1.ch0 c212
         have k102 := k102.ch0 c212
         have c0 := c0.then0 c212
         exact RL.nil ⟨_, rfl, c212, rfl⟩
        refine Each.consA ⟨fun _ _ _ _ _ _ h => h, fun h => absurd rfl h, fun O wk hO ck => ?_⟩ ?_
        ·
         have k4 := k4.ch0 ck
         have k8 := k8.ch0 ck
         have k12 := k12.ch0 ck
         have h22 := slRep.ch k_Act_pos h22 ck
         have ck4_1 := ck4_1.ch0 ck
         have k102 := k102.ch0 ck
         have c0 := c0.then0 ck
         refine Need.one rfl rfl rfl ?_
         rintro _ e213
         obtain rfl := e213.symm
         refine Need.one rfl rfl rfl ?_
         rintro _ e214
         obtain rfl := e214.symm
         refine rl_bin rfl rfl (B.eqlB Try.underlying4) rfl ?_
         exact RL.nil ⟨_, rfl, Ch.refl, rfl⟩
        refine Each.consA ⟨fun _ _ _ _ _ _ h => h, fun h => absurd rfl h, fun O wk hO ck => ?_⟩ ?_
        ·
         have k4 := k4.ch0 ck
         have k8 := k8.ch0 ck
         have k12 := k12.ch0 ck
         have h22 := slRep.ch k_Act_pos h22 ck
         have ck4_1 := ck4_1.ch0 ck
         have k102 := k102.ch0 ck
         have c0 := c0.then0 ck
         refine Need.one rfl rfl rfl ?_
         rintro _ e215
         obtain rfl := e215.symm
         refine rl_move rfl rfl ?_
         exact RL.nil ⟨_, rfl, Ch.refl, rfl⟩
        refine Each.consA ⟨fun _ _ _ _ _ _ h => h, fun h => absurd rfl h, fun O wk hO ck => ?_⟩ ?_
        ·
         refine Need.one rfl rfl rfl ?_
         rintro _ e216
         obtain rfl := e216.symm
         refine RL.no rfl rfl rfl hg138 rfl rfl ?_
         exact RL.nil ⟨_, rfl, Ch.refl, rfl⟩
        refine Each.consA ⟨fun _ _ _ _ _ _ h => h, fun h => absurd rfl h, fun O wk hO ck => ?_⟩ ?_
        ·
         refine Need.one rfl rfl rfl ?_
         rintro _ e217
         obtain rfl := e217.symm
         refine RL.no rfl rfl rfl hg138 rfl rfl ?_
         exact RL.nil ⟨_, rfl, Ch.refl, rfl⟩
        refine Each.consA ⟨fun _ _ _ _ _ _ h => h, fun h => absurd rfl h, fun O wk hO ck => ?_⟩ ?_
        ·
         refine Need.one rfl rfl rfl ?_
         rintro _ e218
         obtain rfl := e218.symm
         refine RL.no rfl rfl rfl hg138 rfl rfl ?_
         exact RL.nil ⟨_, rfl, Ch.refl, rfl⟩
        refine Each.consA ⟨fun _ _ _ _ _ _ h => h, fun h => absurd rfl h, fun O wk hO ck => ?_⟩ ?_
        ·
         refine Need.one rfl rfl rfl ?_
         rintro _ e219
         obtain rfl := e219.symm
         refine RL.no rfl rfl rfl hg138 rfl rfl ?_
         exact RL.nil ⟨_, rfl, Ch.refl, rfl⟩
        refine Each.consA ⟨fun _ _ _ _ _ _ h => h, fun h => absurd rfl h, fun O wk hO ck => ?_⟩ ?_
        ·
         refine Need.one rfl rfl rfl ?_
         rintro _ e220
         obtain rfl := e220.symm
         refine RL.no rfl rfl rfl hg138 rfl rfl ?_
         exact RL.nil ⟨_, rfl, Ch.refl, rfl⟩
        refine Each.consA ⟨fun _ _ _ _ _ _ h => h, fun h => absurd rfl h, fun O wk hO ck => ?_⟩ ?_
        ·
         refine Need.one rfl rfl rfl ?_
         rintro _ e221
         obtain rfl := e221.symm
         refine RL.no rfl rfl rfl hg138 rfl rfl ?_
         exact RL.nil ⟨_, rfl, Ch.refl, rfl⟩
        refine Each.consA ⟨fun _ _ _ _ _ _ h => h, fun h => absurd rfl h, fun O wk hO ck => ?_⟩ ?_
        ·
         refine Need.one rfl rfl rfl ?_
         rintro _ e222
         obtain rfl := e222.symm
         refine RL.no rfl rfl rfl hg138 rfl rfl ?_
         exact RL.nil ⟨_, rfl, Ch.refl, rfl⟩
        refine Each.consA ⟨fun _ _ _ _ _ _ h => h, fun h => absurd rfl h, fun O wk hO ck => ?_⟩ ?_
        ·
         refine Need.one rfl rfl rfl ?_
         rintro _ e223
         obtain rfl := e223.symm
         refine rl_pickF rfl hg138 rfl rfl ?_
         exact RL.nil ⟨_, rfl, Ch.refl, congrArg Value.bool (Option.some.inj hs190)⟩
        trivial
       ·
        intro hvO226 OpO226 O226 w224 hO227 c225 hN228
        have k4 := k4.ch0 c225
        have k8 := k8.ch0 c225
        have k12 := k12.ch0 c225
        have h22 := slRep.ch k_Act_pos h22 c225
        have ck4_1 := ck4_1.ch0 c225
        have k102 := k102.ch0 c225
        have c0 := c0.then0 c225
        refine Need.one rfl rfl rfl ?_
        rintro _ e229
        obtain rfl := e229.symm
        refine rl_assign rfl rfl ?_
        exact RL.nil ⟨rfl, ⟨rfl, trivial⟩, c225⟩
     ·
      rintro _ w231 ⟨hE230, c232⟩
      have k4 := k4.ch0 c232
      have k8 := k8.ch0 c232
      have k12 := k12.ch0 c232
      have h22 := slRep.ch k_Act_pos h22 c232
      have ck4_1 := ck4_1.ch0 c232
      have k102 := k102.ch0 c232
      have c0 := c0.then0 c232
      refine thn_n (CW.sub [(6, (Value.bool b136))] hE230 ?_)
      refine CW.ret ?_
      obtain rfl := Option.some.inj hS
      exact ret1 rfl ⟨rfl, c0⟩
end Go.Proofs.Ytokikdhilpebmaa
