/- The walks through the code: each call comes to its printed function. Written by a program of this session. -/
import Derived.Test.YtokikdhilpebmaaM
import Derived.Test.YtokikdhilpebmaaL
namespace Go.Proofs.Ytokikdhilpebmaa
open Go K
set_option linter.unusedVariables false
/-- lb/ties.New -/
theorem ctr11 (F : Nat → Prop) (w : World)  (r : Ties) (hs : F11_New  = r) :
    Ret Try.prog 11 #[] w fun v w' => ∃ (y0_p : Nat) (y0_0 : Value), v = (PV y0_p) ∧ Blk w' y0_p 69 (Ties.c r y0_0) ∧ Mp (fun x => Value.agg (Place.enc x).toArray) (fun x => Value.agg (Tie.enc x).toArray) w' r.all y0_0 ∧ (∀ b, inBlk (PV y0_p) b → w.heap.size ≤ b) ∧ (∀ b, inBlk y0_0 b → w.heap.size ≤ b) ∧ (∀ b, inBlk (PV y0_p) b → ¬ inBlk y0_0 b) ∧ Ch nb w w' := by
 have hS := hs
 have c0 : Ch nb w w := Ch.refl
 refine Ret.of (n := 4) (args := []) (rs := [.tmp 0]) Try.func11 rfl rfl rfl rfl ?_
 refine CW.seq (CW.region ?_)
 refine rl_assign rfl rfl ?_
 refine RL.nil (thn_n (CW.seq (CW.region ?_)))
 refine rl_makeMap (ek := (fun x => Value.agg (Place.enc x).toArray)) (ev := (fun x => Value.agg (Tie.enc x).toArray)) rfl ?_
 intro p1 w2 n3 k4
 have lo5 : ∀ b, inBlk (Value.map (some p1)) b → w.heap.size ≤ b := fun b h => Nat.le_trans c0.size (n3.freshM b h)
 have c0 := c0.then0 n3.ch
 refine rl_buildC (out := (Ties.c ({ all := ([] : (List (Place × Tie))) } : Ties) (Value.map (some p1)))) [(0, [(Value.map (some p1))])] rfl (co_cons (one_toL k4.one.1) co_nil) pl69 Try.zeroValue69 rfl rfl rfl ?_
 refine rl_boxA (cs := (Ties.c ({ all := ([] : (List (Place × Tie))) } : Ties) (Value.map (some p1)))) rfl rfl ?_
 intro p6 w7 n8 k9
 have lo10 : ∀ b, inBlk (PV p6) b → w.heap.size ≤ b := fun b h => Nat.le_trans c0.size (n8.fresh b h)
 have d11 : ∀ b, inBlk (PV p6) b → ¬ inBlk (Value.map (some p1)) b := disNew n8.fresh k4.ltp
 have k4 := k4.ch0 n8.ch
 have c0 := c0.then0 n8.ch
 refine rl_assign rfl rfl ?_
 refine RL.nil (thn_n (CW.ret ?_))
 obtain rfl := hS
 exact ret1 rfl ⟨p6, (Value.map (some p1)), rfl, k9, k4, lo10, lo5, d11, c0⟩
/-- (lb/ties.Tie).place -/
theorem ctr35 (F : Nat → Prop) (w : World) (a0 : Tie) (r : Place) (hs : F35_place a0 = r) :
    Ret Try.prog 35 #[(Value.agg (Tie.enc a0).toArray)] w fun v w' => v = (Value.agg (Place.enc r).toArray) ∧ Ch nb w w' := by
 have hS := hs
 have c0 : Ch nb w w := Ch.refl
 refine Ret.of (n := 12) (args := [_]) (rs := [.cell 2 79]) Try.func35 rfl rfl rfl rfl ?_
 refine CW.seq (CW.region ?_)
 refine rl_boxA (cs := (Tie.enc a0)) rfl rfl ?_
 intro p1 w2 n3 k4
 have c0 := c0.then0 n3.ch
 refine rl_alloc (Place.enc Place.z) Try.zeroValue79 rfl rfl ?_
 intro p5 w6 n7 k8
 have lo9 : ∀ b, inBlk (PV p5) b → w.heap.size ≤ b := fun b h => Nat.le_trans c0.size (n7.fresh b h)
 have k4 := k4.ch0 n7.ch
 have c0 := c0.then0 n7.ch
 refine RL.nil (thn_n (CW.seq (CW.region ?_)))
 refine rl_fieldAddr rfl fa30_0 rfl ?_
 refine rl_loadA (cs := (Addr.enc a0.client)) rfl Try.isAgg24 Try.sizeOf24 (k4.segAt 0 17) rfl rfl ?_
 refine rl_fieldAddr rfl fa30_1 rfl ?_
 refine rl_loadA (cs := (Key.enc a0.service)) rfl Try.isAgg26 Try.sizeOf26 (k4.segAt 17 2) rfl rfl ?_
 refine rl_fieldAddr rfl fa30_2 rfl ?_
 refine rl_loadS (v := (Value.string a0.name)) rfl Try.isAgg9 (k4.cell rfl) rfl ?_
 refine rl_fieldAddr rfl fa30_3 rfl ?_
 refine rl_loadS (v := (Value.bool a0.localF)) rfl Try.isAgg4 (k4.cell rfl) rfl ?_
 refine rl_build (out := (Place.enc ({ client := a0.client, service := a0.service, name := a0.name, localF := a0.localF } : Place))) rfl pl79 Try.zeroValue79 rfl rfl rfl ?_
 refine rl_storeA (vs := (Place.enc ({ client := a0.client, service := a0.service, name := a0.name, localF := a0.localF } : Place))) rfl rfl (all_one rfl) Try.sizeOf79 rfl k8 rfl ?_
 intro w10 s12 c11 k13
 have c0 := c0.then c11 (fun i hi h => absurd (lo9 i h) (Nat.not_le_of_lt hi))
 refine RL.nil (thn_n (CW.ret ?_))
 obtain rfl := hS
 exact ⟨[_], ⟨Res1.agg (cs := (Place.enc ({ client := a0.client, service := a0.service, name := a0.name, localF := a0.localF } : Place))) rfl Try.isAgg79 Try.sizeOf79 (k13.segAt 0 21) rfl, trivial⟩, ⟨rfl, c0⟩⟩
/-- maps.Values[map[lb/ties.place]lb/ties.Tie,lb/ties.place,lb/ties.Tie]$1 -/
theorem it45 {w : World} {m : List (Place × Tie)} {v : Value} {b : Nat} (hb : Blk w b 67 [v]) (hm : MpN (fun x => Value.agg (Place.enc x).toArray) (fun x => Value.agg (Tie.enc x).toArray) w m v) : Seq Try.prog (fun x => Value.agg (Tie.enc x).toArray) w (m.map (·.2)) (.func (.func 45) #[] [PV b].toArray) := by
  refine ⟨45, [PV b], rfl, en45, fun W c0 l J hJ hY h0 => ?_⟩
  have hb1 := hb.ch0 c0
  have hm1 := hm.ch0 c0
  refine Ret.of (n := 15) (args := [_, _]) (rs := []) Try.func45 rfl rfl rfl rfl ?_
  refine CW.seq (CW.region ?_)
  refine rl_loadS (v := v) rfl Try.isAgg67 (hb1.cell rfl) rfl ?_
  refine rl_range rfl hm1 Try.underlying67 rfl ?_
  intro r W1 hn hw
  refine RL.nil (thn_n ?_)
  refine CW.block ?_
  refine CW.loopS [(0, .func (.yield l) #[] #[]), (6, PV r)] ⟨rfl, rfl, trivial⟩ m.length (fun k E' W' => ∃ (todo : List (Place × Tie)) (ys : List Tie), todo.length = k ∧ E' = [(0, .func (.yield l) #[] #[]), (6, PV r)] ∧ (ys ++ todo.map (·.2)).Perm (m.map (·.2)) ∧ J ys W' ∧ Walk (fun x => Value.agg (Place.enc x).toArray) (fun x => Value.agg (Tie.enc x).toArray) W' m todo v r ∧ W.heap.size ≤ r)
    ⟨m, [], rfl, rfl, .refl _, hJ _ _ _ h0 (hn.ch.mono fun _ _ h => h.elim), hw, by rw [hn.eq]; exact Nat.le_refl _⟩ ?_
  rintro k _ W2 ⟨todo, ys, rfl, rfl, hp, hj, hw, hr⟩
  refine CW.seq (CW.region ?_)
  refine rl_next rfl hw rfl ?_ ?_
  · rintro rfl
    refine rl_extract rfl rfl rfl ?_
    refine RL.nil (thn_n ?_)
    refine CW.seq ?_
    refine CW.no rfl ?_
    refine CW.exit (thn_exit (thn_exit (inB_hit ?_)))
    exact ⟨[], trivial, ys, by simpa using hp, hj⟩
  · intro k x todo' W3 hpt c3 hw3 hen
    have hj3 := hJ _ _ _ hj (c3.mono fun i _ h => ⟨by have e : r = i := h; omega, by have e : r = i := h; subst e; exact hw.iter⟩)
    have hlen : ys.length < (m.map (·.2)).length := by have h1 := hp.length_eq; have h2 := hpt.length_eq; simp only [List.length_append, List.length_map, List.length_cons] at h1 h2 ⊢; omega
    refine rl_extract rfl rfl rfl ?_
    refine RL.nil (thn_n ?_)
    refine CW.seq ?_
    refine CW.yes rfl ?_
    refine CW.skip (thn_n ?_)
    refine CW.block ?_
    refine CW.seq (CW.region ?_)
    refine rl_entry rfl hen rfl ?_
    refine rl_extract rfl rfl rfl ?_
    refine rl_alloc [.bool false, .int .u8 0, .int .u8 0, .int .u8 0, .int .u8 0, .int .u8 0, .int .u8 0, .int .u8 0, .int .u8 0, .int .u8 0, .int .u8 0, .int .u8 0, .int .u8 0, .int .u8 0, .int .u8 0, .int .u8 0, .int .u8 0, .string ⟨#[]⟩, .string ⟨#[]⟩, .string ⟨#[]⟩, .bool false, .bool false, .int .u8 0, .int .u8 0, .int .u8 0, .int .u8 0, .int .u8 0, .int .u8 0, .int .u8 0, .int .u8 0, .int .u8 0, .int .u8 0, .int .u8 0, .int .u8 0, .int .u8 0, .int .u8 0, .int .u8 0, .int .u8 0, .int .i64 0, .int .i64 0] Try.zeroValue30 rfl rfl ?_
    intro p W4 hn4 hk4
    refine rl_storeA (vs := Tie.enc x) rfl rfl (all_one rfl) Try.sizeOf30 rfl hk4 rfl ?_
    intro W5 hs5 c5 hk5
    have c45 : Ch nb W3 W5 := hn4.ch.then c5 fun i hi h => by have e : p = i := h; have := hn4.eq; omega
    have hw5 := hw3.ch0 c45
    have hj5 := hJ _ _ _ hj3 (c45.mono fun _ _ h => h.elim)
    refine RL.nil (thn_n ?_)
    refine CW.seq (CW.regionI ?_)
    refine RLI.preK 2 rfl ?_
    refine rl_move rfl rfl ?_
    refine rl_loadA (cs := Tie.enc x) rfl Try.isAgg30 Try.sizeOf30 (hk5.segAt 0 40) rfl rfl ?_
    refine RL.nil ?_
    refine RLI.yield rfl rfl rfl (hY ys x _ hj5 hlen) ?_
    rintro e W6 ⟨rfl, hj6, hk6⟩
    refine ⟨_, rfl, ?_⟩
    have hw6 := hw5.keep fun b o hb ho => hk6.same b o hb ho
    refine RLI.preK 1 rfl ?_
    refine rl_not rfl rfl ?_
    refine RL.nil ?_
    refine RLI.nil fun a ha => ⟨_, ha, thn_n ?_⟩
    refine CW.no rfl ?_
    refine CW.skip (inB_n (thn_n ?_))
    exact ⟨todo'.length, by have := hpt.length_eq; simp only [List.length_cons] at this; omega, [(0, .func (.yield l) #[] #[]), (6, PV r)], ⟨rfl, rfl, trivial⟩, todo', ys ++ [x], rfl, rfl, by
      rw [List.append_assoc]; exact (((hpt.map (·.2)).symm.append_left ys).trans hp), hj6, hw6, hr⟩
/-- maps.Values[map[lb/ties.place]lb/ties.Tie,lb/ties.place,lb/ties.Tie] -/
theorem ctr34 {w : World} {m : List (Place × Tie)} {v : Value} (hm : MpN (fun x => Value.agg (Place.enc x).toArray) (fun x => Value.agg (Tie.enc x).toArray) w m v) : Ret Try.prog 34 #[v] w fun u w' => Seq Try.prog (fun x => Value.agg (Tie.enc x).toArray) w' (m.map (·.2)) u ∧ Ch nb w w' := by
  refine Ret.of (n := 4) (args := [_]) (rs := [.tmp 2]) Try.func34 rfl rfl rfl rfl ?_
  refine CW.seq (CW.region ?_)
  refine rl_box [v] rfl (by rw [hm.one.1]) rfl ?_
  intro b w1 hn hk
  refine rl_assign rfl rfl ?_
  refine RL.nil (thn_n ?_)
  refine CW.seq (CW.region ?_)
  refine rl_makeFunc rfl rfl ?_
  refine rl_assign rfl rfl ?_
  refine RL.nil (thn_n ?_)
  refine CW.ret ?_
  exact ret1 rfl ⟨it45 hk (hm.ch0 hn.ch), hn.ch⟩
/-- slices.AppendSeq[[]lb/ties.Tie,lb/ties.Tie] -/
theorem ctr50 {F : Nat → Prop} {w : World} {xs : List Tie} {v : Value} (hs : Seq Try.prog (fun x => Value.agg (Tie.enc x).toArray) w xs v) (hlen : xs.length < 4294967296) :
    Ret Try.prog 50 #[.slice none 0 0, v] w fun u w' => ∃ ys, ys.Perm xs ∧ SlO k_Tie 30 F w.heap.size (inBlk u) w' ys u ∧ Ch nb w w' := by
  refine Ret.ofM (n := 13) (args := [_, _]) Try.func50 rfl rfl rfl ?_
  refine CM.region ?_
  refine rl_box [.slice none 0 0] rfl rfl rfl ?_
  intro b w1 hn hk
  refine rl_assign rfl rfl ?_
  refine RL.nil ?_
  refine CM.seq (CM.region ?_)
  refine rl_move rfl rfl ?_
  refine RL.nil ?_
  refine CM.ranges (B := b) rfl (hs.ch0 hn.ch) rfl (Coll 40 Tie.enc (fun _ => rfl) (fun _ => rfl) 30 52 F w w1 b) (fun s A C h hz c => h.nc hn.ch.size c) ⟨_, hk, SlO.nil, fun h => h, hn.ch, Nat.le_refl _⟩ (fun s A ⟨_, _, _, _, _, h⟩ => h) rfl rfl rfl Try.isAgg52 rfl rfl rfl ?_ ?_
  · rintro W ys hp ⟨u, hb, hs, hne, hc, hz⟩
    exact ⟨u, hb.cell rfl, fun W' c => ⟨ys, hp, hs.pureCh c hs.notNC, hc.then c fun i hi h => by have := h.1; have := hn.ch.size; omega⟩⟩
  · rintro pre x A ⟨u, hb, hs, hne, hc, hz⟩ hlt
    have h01 := hn.ch.size
    have hbs := hn.eq
    refine rl_alloc [.bool false, .int .u8 0, .int .u8 0, .int .u8 0, .int .u8 0, .int .u8 0, .int .u8 0, .int .u8 0, .int .u8 0, .int .u8 0, .int .u8 0, .int .u8 0, .int .u8 0, .int .u8 0, .int .u8 0, .int .u8 0, .int .u8 0, .string ⟨#[]⟩, .string ⟨#[]⟩, .string ⟨#[]⟩, .bool false, .bool false, .int .u8 0, .int .u8 0, .int .u8 0, .int .u8 0, .int .u8 0, .int .u8 0, .int .u8 0, .int .u8 0, .int .u8 0, .int .u8 0, .int .u8 0, .int .u8 0, .int .u8 0, .int .u8 0, .int .u8 0, .int .u8 0, .int .i64 0, .int .i64 0] Try.zeroValue30 rfl rfl ?_
    intro p A1 hn1 hk1
    refine rl_storeA (vs := Tie.enc x) rfl rfl (all_one rfl) Try.sizeOf30 rfl hk1 rfl ?_
    intro A2 hs2 c2 hk2
    have cA : Ch nb A A2 := hn1.ch.then c2 fun i hi h => by have e : p = i := h; have := hn1.eq; omega
    refine RL.nil ⟨(Kc.ch0 hn1.ch).trans (Kc.blk c2 hk1), fun A3 c3 => ?_⟩
    have hb3 := (hb.ch0 cA).nc c3
    have hs2' := hs.ch0 cA
    have hs3 := hs2'.pureCh c3 hs2'.notNC
    have hk3 := hk2.nc c3
    have hz3 : w1.heap.size ≤ A3.heap.size := Nat.le_trans hz (Nat.le_trans cA.size c3.size)
    have hc3 : Ch nb w A3 := (hc.then0 cA).then c3 fun i hi h => by have := h.1; omega
    refine rl_loadS (v := u) rfl Try.isAgg52 (hb3.cell rfl) rfl ?_
    refine rl_loadA (cs := Tie.enc x) rfl Try.isAgg30 Try.sizeOf30 (hk3.segAt 0 40) rfl rfl ?_
    refine rl_bslice (k := k_Tie) (F := F) (B := w.heap.size) (S := inBlk u) ([x] : List Tie) rfl k_Tie_pos Try.underlying52 Try.sizeOf30 Try.zeroValue30 rfl rfl ⟨rfl, rfl, trivial⟩ hc3.size (fun b h => (hs3.lt b h).2) rfl ?_
    intro q A4 c4 hf4 h4
    have hs4 : SlO k_Tie 30 F w.heap.size (inBlk u) A4 pre u := hs3.ch0 c4
    have hy4 : slRep k_Tie (G F w.heap.size (inBlk u)) A4 [x] q := h4.readNew k_Tie_pos hf4 (fun b h => (hs3.lt b h).2)
    refine rl_append (k := k_Tie) (T := 30) (F := F) (B := w.heap.size) (S := inBlk u) (S2 := nb) (fun v => inBlk v) rfl rfl k_Tie_pos ap52 hs4 hy4 (fun b => ⟨.inl, fun h => h.elim id fun h => h.elim⟩) (fun v b => ⟨.inl, fun h => h.elim id fun h => h.elim⟩) (by simp only [List.length_cons, List.length_nil]; omega) (Nat.le_trans hc3.size c4.size) (fun b h => (hs4.lt b h).2) rfl ?_
    intro u' A5 h5 c5 hf5 _
    have hb4 := hb3.ch0 c4
    have hb5 := hb4.ch c5 hne
    have hne5 : ¬ inBlk u' b := fun h => (hf5 b h).elim hne fun h => by have := hb4.lt; omega
    have h4l : ∀ i, i < w.heap.size → ¬ inBlk u i := fun i hi h => by have := (hs4.lt i h).1; omega
    refine rl_storeS (u := u') rfl rfl h5.one Try.sizeOf52 hb5 rfl ?_
    intro A6 hs6 c6 hk6
    refine RL.nil ⟨((Kc.ch0 c4).trans (Kc.slo c5 hs4)).trans (Kc.blk c6 hb5), u', hk6, h5.pureCh c6 (fun i hi h => hne5 (by have e : b = i := h; subst e; exact hi)), hne5, ?_, ?_⟩
    · exact ((hc3.then0 c4).then c5 fun i hi h => h4l i hi h).then c6 fun i hi h => by have e : b = i := h; omega
    · exact Nat.le_trans hz3 (Nat.le_trans c4.size (Nat.le_trans c5.size c6.size))
/-- slices.Collect[lb/ties.Tie] -/
theorem ctr43 {F : Nat → Prop} {w : World} {xs : List Tie} {v : Value} (hs : Seq Try.prog (fun x => Value.agg (Tie.enc x).toArray) w xs v) (hlen : xs.length < 4294967296) :
    Ret Try.prog 43 #[v] w fun u w' => ∃ ys, ys.Perm xs ∧ SlO k_Tie 30 F w.heap.size (inBlk u) w' ys u ∧ Ch nb w w' := by
  refine Ret.of (n := 5) (args := [_]) (rs := [.tmp 2]) Try.func43 rfl rfl rfl rfl ?_
  refine CW.seq (CW.region ?_)
  refine rl_assign rfl rfl ?_
  refine RL.nil (thn_n ?_)
  refine CW.seq (CW.region ?_)
  refine rl_move rfl rfl ?_
  refine rl_callF rfl en50 rfl (ctr50 (F := F) hs hlen) ?_
  rintro u w1 ⟨ys, hp, h, c⟩
  refine rl_assign rfl rfl ?_
  refine RL.nil (thn_n ?_)
  refine CW.ret ?_
  exact ret1 rfl ⟨ys, hp, h, c⟩
/-- slices.MinFunc[[]lb/ties.Tie,lb/ties.Tie] -/
theorem ctr47 (F : Nat → Prop) (w : World) (a0 : (List Tie)) (av0 : Value) (ah0 : slRep k_Tie F w a0 av0) (a1 : (Tie → Tie → Int)) (av1 : Value) (ah1 : (Kd.fn2 Try.prog true true k_Tie k_Tie (Value.int .i64)).rep F w a1 [av1]) (r : Tie) (hs : F47_Tie a0 a1 = some r) :
    Ret Try.prog 47 #[av0, av1] w fun v w' => v = (Value.agg (Tie.enc r).toArray) ∧ Ch nb w w' := by
 have hS := hs
 have c0 : Ch nb w w := Ch.refl
 have ah0 := slRep.enter k_Tie_pos ah0
 have ah1 := Kd.enter ah1
 refine Ret.of (n := 33) (args := [_, _]) (rs := [.cell 4 30]) Try.func47 rfl rfl rfl rfl ?_
 refine CW.seq (CW.region ?_)
 refine rl_alloc (Tie.enc Tie.z) Try.zeroValue30 rfl rfl ?_
 intro p1 w2 n3 k4
 have lo5 : ∀ b, inBlk (PV p1) b → w.heap.size ≤ b := fun b h => Nat.le_trans c0.size (n3.fresh b h)
 have ah0 := slRep.st k_Tie_pos ah0 n3.ch (admNew n3.fresh (fun _ x => x))
 have ah1 := Kd.st ah1 n3.ch (admNew n3.fresh (fun _ x => x))
 have c0 := c0.then0 n3.ch
 refine RL.nil (thn_n (CW.seq ?_))
 refine CW.seq (CW.region ?_)
 refine rl_move rfl rfl ?_
 refine rl_lenR rfl ah0 Try.underlying52 rfl ?_
 refine rl_bin rfl rfl B.lss rfl ?_
 refine RL.nil (thn_n ?_)
 refine CW.cond (t := decide (((a0.length : Nat) : Int) < 1)) rfl (fun q6 => ?_) (fun q6 => ?_)
 ·
  have hS := ifT q6 hS
  exact nomatch hS
 have hS := ifF q6 hS
 refine CW.skip ?_
 refine thn_n (CW.seq (CW.region ?_))
 refine rl_move rfl rfl ?_
 obtain ⟨y13, hy14, hS⟩ := bindS hS
 refine rl_ixI rfl ah0 rfl (ixO_get hy14) Try.underlying52 Try.sizeOf30 rfl ?_
 intro p7 o8 cs9 hr10 hs11 hg12
 obtain rfl := hr10
 refine rl_loadA (cs := (Tie.enc y13)) rfl Try.isAgg30 Try.sizeOf30 (hs11) rfl rfl ?_
 refine rl_alloc (Tie.enc Tie.z) Try.zeroValue30 rfl rfl ?_
 intro p15 w16 n17 k18
 have lo19 : ∀ b, inBlk (PV p15) b → w.heap.size ≤ b := fun b h => Nat.le_trans c0.size (n17.fresh b h)
 have d20 : ∀ b, inBlk (PV p15) b → ¬ inBlk (PV p1) b := disNew n17.fresh k4.ltp
 have ah0 := slRep.st k_Tie_pos ah0 n17.ch (admNew n17.fresh (fun _ x => x))
 have ah1 := Kd.st ah1 n17.ch (admNew n17.fresh (fun _ x => x))
 have k4 := k4.ch0 n17.ch
 have c0 := c0.then0 n17.ch
 refine rl_storeA (vs := (Tie.enc y13)) rfl rfl (all_one rfl) Try.sizeOf30 rfl k18 rfl ?_
 intro w21 s23 c22 k24
 have ad25 : ∀ b, b < w16.heap.size → ¬ (un (inBlk (PV p15)) (un (inBlk (PV p1)) nb)) b → ¬ (inBlk (PV p15)) b ∧ ¬ (un (inBlk (PV p15)) (un (inBlk (PV p1)) nb)) b := fun b _ hs => ⟨fun h => hs (.inl h), hs⟩
 have ah0 := slRep.st k_Tie_pos ah0 c22 ad25
 have ah1 := Kd.st ah1 c22 ad25
 have k4 := k4.ch c22 ((fun b hb h => (disSym d20) b hb h) _ rfl)
 have c0 := c0.then c22 (fun i hi h => absurd (lo19 i h) (Nat.not_le_of_lt hi))
 refine RL.nil (thn_n (CW.seq ?_))
 refine CW.seq (CW.region ?_)
 refine rl_assign rfl rfl ?_
 refine RL.nil (thn_n ?_)
 obtain ⟨o37, ho38, hS⟩ := bindS hS
 refine CW.cutB (fun E' w' => ∃ (x26 : Int) (x27 : Tie), Sub [(4, (PV p1)), (5, (PV p15))] E' ∧ Ch nb w w' ∧ Lp.fin (x26, x27) = o37 ∧ slRep k_Tie (G F w.heap.size (un (inBlk (PV p15)) (un (inBlk (PV p1)) nb))) w' a0 av0 ∧ (Kd.fn2 Try.prog true true k_Tie k_Tie (Value.int .i64)).rep (G F w.heap.size (un (inBlk (PV p15)) (un (inBlk (PV p1)) nb))) w' a1 [av1] ∧ Blk w' p1 30 (Tie.enc Tie.z) ∧ Blk w' p15 30 (Tie.enc x27) ∧ (∀ b, inBlk (PV p15) b → ¬ inBlk (PV p1) b)) ?_ ?_
 ·
  refine CW.loopS [(0, av0), (1, av1), (4, (PV p1)), (5, (PV p15)), (6, (Value.int .i64 1))] ⟨rfl, rfl, rfl, rfl, rfl, trivial⟩ FUEL (fun m E w' => ∃ (x26 : Int) (x27 : Tie), E = [(0, av0), (1, av1), (4, (PV p1)), (5, (PV p15)), (6, (Value.int .i64 x26))] ∧ Ch nb w w' ∧ runW (F47_Tie_b1 a0 a1) m (x26, x27) = some o37 ∧ slRep k_Tie (G F w.heap.size (un (inBlk (PV p15)) (un (inBlk (PV p1)) nb))) w' a0 av0 ∧ (Kd.fn2 Try.prog true true k_Tie k_Tie (Value.int .i64)).rep (G F w.heap.size (un (inBlk (PV p15)) (un (inBlk (PV p1)) nb))) w' a1 [av1] ∧ Blk w' p1 30 (Tie.enc Tie.z) ∧ Blk w' p15 30 (Tie.enc x27) ∧ (∀ b, inBlk (PV p15) b → ¬ inBlk (PV p1) b))
      ⟨1, y13, rfl, c0, ho38, ah0, ah1, k4, k24, d20⟩ ?_
  rintro _ _ w43 ⟨x26, x27, rfl, c42, hL32, ah0, ah1, k4, k28, d29⟩
  obtain ⟨k41, q34, rfl, hq35⟩ := runW_some hL32
  have hb36 := hq35
  refine CW.seq ?_
  refine CW.seq (CW.region ?_)
  refine rl_move rfl rfl ?_
  refine rl_move rfl rfl ?_
  refine rl_lenR rfl ah0 Try.underlying52 rfl ?_
  refine rl_bin rfl rfl B.lss rfl ?_
  refine RL.nil (thn_n ?_)
  refine CW.cond (t := decide (x26 < ((a0.length : Nat) : Int))) rfl (fun q45 => ?_) (fun q45 => ?_)
  ·
   have hb36 := ifT q45 hb36
   refine CW.skip ?_
   refine thn_n (CW.seq ?_)
   refine CW.block ?_
   refine CW.seq ?_
   obtain ⟨y52, hy53, hb36⟩ := bindS hb36
   refine CW.draw 6 [(none, fun fx O uu wx => uu = av1), (none, fun fx O uu wx => uu = av0), (none, fun fx O uu wx => uu = (Value.int .i64 x26)), (none, fun fx O uu wx => ∃ (p46 : Nat) (o47 : Nat), uu = (Value.pointer (some ⟨p46, o47, none⟩)) ∧ (G F w.heap.size (un (inBlk (PV p15)) (un (inBlk (PV p1)) nb))) p46 ∧ Seg wx p46 o47 (Tie.enc y52)), (none, fun fx O uu wx => uu = (Value.agg (Tie.enc y52).toArray)), (none, fun fx O uu wx => uu = (Value.agg (Tie.enc x27).toArray))] [[], [], [], [1, 2], [3], []] [0, 4, 5] nb (fun _ h => h.elim) mixed rfl rfl rfl rfl ?_ ?_
   ·
    refine Each.consS (fun fl O wk hE hN hO ck => ?_) ?_
    ·
     refine rl_move rfl rfl ?_
     exact RL.nil ⟨_, rfl, Ch.refl, rfl⟩
    refine Each.consS (fun fl O wk hE hN hO ck => ?_) ?_
    ·
     refine rl_move rfl rfl ?_
     exact RL.nil ⟨_, rfl, Ch.refl, rfl⟩
    refine Each.consS (fun fl O wk hE hN hO ck => ?_) ?_
    ·
     refine rl_move rfl rfl ?_
     exact RL.nil ⟨_, rfl, Ch.refl, rfl⟩
    refine Each.consA ⟨fun _ _ _ _ _ cc hh => by obtain ⟨p46, o47, e, hg51, hs50⟩ := hh; exact ⟨p46, o47, e, hg51, hs50.ch0 cc⟩, fun h => absurd rfl h, fun fl O wk hE hN hO ck => ?_⟩ ?_
    ·
     have ah0 := slRep.ch k_Tie_pos ah0 ck
     refine Need.o1 rfl rfl rfl (fun _ h => h) ?_
     refine Need.o1 rfl rfl rfl (fun _ h => h) ?_
     refine rl_ixI rfl ah0 rfl (ixO_get hy53) Try.underlying52 Try.sizeOf30 rfl ?_
     intro p58 o59 cs60 hr61 hs62 hg63
     obtain rfl := hr61
     exact RL.nil ⟨_, rfl, Ch.refl, ⟨p58, o59, rfl, hg63, hs62⟩⟩
    refine Each.consS (fun fl O wk hE hN hO ck => ?_) ?_
    ·
     refine Need.one rfl rfl rfl ?_
     rintro _ ⟨p46, o47, e64, hg51, hs50⟩
     obtain rfl := e64.symm
     refine rl_loadA (cs := (Tie.enc y52)) rfl Try.isAgg30 Try.sizeOf30 (hs50) rfl rfl ?_
     exact RL.nil ⟨_, rfl, Ch.refl, rfl⟩
    refine Each.consS (fun fl O wk hE hN hO ck => ?_) ?_
    ·
     have k28 := k28.ch0 ck
     refine rl_loadA (cs := (Tie.enc x27)) rfl Try.isAgg30 Try.sizeOf30 (k28.segAt 0 40) rfl rfl ?_
     exact RL.nil ⟨_, rfl, Ch.refl, rfl⟩
    trivial
   intro hvO67 OpO67 O67 w65 hO68 c66 hN69
   have ah0 := slRep.ch k_Tie_pos ah0 c66
   have ah1 := Kd.ch ah1 c66
   have k4 := k4.ch0 c66
   have k28 := k28.ch0 c66
   have c42 := c42.then0 c66
   refine Need.o1 rfl rfl rfl (fun _ h => h) ?_
   refine Need.o1 rfl rfl rfl (fun _ h => h) ?_
   refine Need.o1 rfl rfl rfl (fun _ h => h) ?_
   refine rl_fn2 (c := (Tie.enc y52)) (c' := (Tie.enc x27)) rfl rfl rfl rfl rfl ah1 (F' := (G F w.heap.size (un (inBlk (PV p15)) (un (inBlk (PV p1)) nb)))) (xx := y52) (yy := x27) (show k_Tie.rep (G F w.heap.size (un (inBlk (PV p15)) (un (inBlk (PV p1)) nb))) w65 y52 (Tie.enc y52) from rfl) (show k_Tie.rep (G F w.heap.size (un (inBlk (PV p15)) (un (inBlk (PV p1)) nb))) w65 x27 (Tie.enc x27) from rfl) rfl ?_
   intro w73 c74
   have ah0 := slRep.ch k_Tie_pos ah0 c74
   have ah1 := Kd.ch ah1 c74
   have k4 := k4.ch0 c74
   have k28 := k28.ch0 c74
   have c42 := c42.then0 c74
   refine rl_bin rfl rfl B.lss rfl ?_
   refine RL.nil (thn_n ?_)
   refine CW.cond (t := decide ((a1 y52 x27) < 0)) rfl (fun q75 => ?_) (fun q75 => ?_)
   ·
    have hb36 := ifT q75 hb36
    refine CW.region ?_
    refine rl_move rfl rfl ?_
    refine rl_move rfl rfl ?_
    obtain ⟨y82, hy83, hb36⟩ := bindS hb36
    refine rl_ixI rfl ah0 rfl (ixO_get hy83) Try.underlying52 Try.sizeOf30 rfl ?_
    intro p76 o77 cs78 hr79 hs80 hg81
    obtain rfl := hr79
    refine rl_loadA (cs := (Tie.enc y82)) rfl Try.isAgg30 Try.sizeOf30 (hs80) rfl rfl ?_
    refine rl_storeA (vs := (Tie.enc y82)) rfl rfl (all_one rfl) Try.sizeOf30 rfl k28 rfl ?_
    intro w84 s86 c85 k87
    have ad88 : ∀ b, b < w73.heap.size → ¬ (un (inBlk (PV p15)) (un (inBlk (PV p1)) nb)) b → ¬ (inBlk (PV p15)) b ∧ ¬ (un (inBlk (PV p15)) (un (inBlk (PV p1)) nb)) b := fun b _ hs => ⟨fun h => hs (.inl h), hs⟩
    have ah0 := slRep.st k_Tie_pos ah0 c85 ad88
    have ah1 := Kd.st ah1 c85 ad88
    have k4 := k4.ch c85 ((fun b hb h => (disSym d29) b hb h) _ rfl)
    have c42 := c42.then c85 (fun i hi h => absurd (lo19 i h) (Nat.not_le_of_lt hi))
    refine RL.nil ?_
    refine inB_n ?_
    refine thn_n (CW.region ?_)
    refine rl_move rfl rfl ?_
    refine rl_bin rfl rfl B.add rfl ?_
    refine rl_assign rfl rfl ?_
    refine RL.nil (thn_n ?_)
    have hLn := runW_next hL32 hq35 hb36
    exact ⟨k41, Nat.lt_succ_self _, [(0, av0), (1, av1), (4, (PV p1)), (5, (PV p15)), (6, (Value.int .i64 (IntKind.i64.wrap (x26 + 1))))], ⟨rfl, rfl, rfl, rfl, rfl, trivial⟩, ⟨IntKind.i64.wrap (x26 + 1), y82, rfl, c42, hLn, ah0, ah1, k4, k87, d29⟩⟩
   have hb36 := ifF q75 hb36
   refine CW.skip ?_
   refine inB_n ?_
   refine thn_n (CW.region ?_)
   refine rl_move rfl rfl ?_
   refine rl_bin rfl rfl B.add rfl ?_
   refine rl_assign rfl rfl ?_
   refine RL.nil (thn_n ?_)
   have hLn := runW_next hL32 hq35 hb36
   exact ⟨k41, Nat.lt_succ_self _, [(0, av0), (1, av1), (4, (PV p1)), (5, (PV p15)), (6, (Value.int .i64 (IntKind.i64.wrap (x26 + 1))))], ⟨rfl, rfl, rfl, rfl, rfl, trivial⟩, ⟨IntKind.i64.wrap (x26 + 1), x27, rfl, c42, hLn, ah0, ah1, k4, k28, d29⟩⟩
  have hb36 := ifF q45 hb36
  refine CW.exit ?_
  refine thn_exit ?_
  refine thn_exit ?_
  refine inB_hit ?_
  have hLf := runW_fin hL32 hq35 hb36
  exact ⟨x26, x27, ⟨rfl, rfl, trivial⟩, c42, hLf, ah0, ah1, k4, k28, d29⟩
 rintro _ w90 ⟨x26, x27, hE91, c89, f92, ah0, ah1, k4, k28, d29⟩
 have hS := finS f92 hS
 refine thn_n (CW.sub [(4, (PV p1)), (5, (PV p15))] hE91 ?_)
 refine CW.seq (CW.region ?_)
 refine rl_loadA (cs := (Tie.enc x27)) rfl Try.isAgg30 Try.sizeOf30 (k28.segAt 0 40) rfl rfl ?_
 refine rl_storeA (vs := (Tie.enc x27)) rfl rfl (all_one rfl) Try.sizeOf30 rfl k4 rfl ?_
 intro w94 s96 c95 k97
 have c89 := c89.then c95 (fun i hi h => absurd (lo5 i h) (Nat.not_le_of_lt hi))
 refine RL.nil (thn_n (CW.ret ?_))
 obtain rfl := Option.some.inj hS
 exact ⟨[_], ⟨Res1.agg (cs := (Tie.enc x27)) rfl Try.isAgg30 Try.sizeOf30 (k97.segAt 0 40) rfl, trivial⟩, ⟨rfl, c89⟩⟩
/-- cmp.isNaN[int] -/
theorem ctr40 (F : Nat → Prop) (w : World) (a0 : Int) (r : Bool) (hs : F40_int a0 = r) :
    Ret Try.prog 40 #[(Value.int .i64 a0)] w fun v w' => v = (Value.bool r) ∧ Ch nb w w' := by
 have hS := hs
 have c0 : Ch nb w w := Ch.refl
 refine Ret.of (n := 6) (args := [_]) (rs := [.tmp 2]) Try.func40 rfl rfl rfl rfl ?_
 refine CW.seq (CW.region ?_)
 refine rl_assign rfl rfl ?_
 refine RL.nil (thn_n (CW.seq (CW.region ?_)))
 refine rl_move rfl rfl ?_
 refine rl_move rfl rfl ?_
 refine rl_bin rfl rfl B.neq rfl ?_
 refine rl_assign rfl rfl ?_
 refine RL.nil (thn_n (CW.ret ?_))
 obtain rfl := hS
 exact ret1 rfl ⟨rfl, c0⟩
/-- cmp.Compare[int] -/
theorem ctr24 (F : Nat → Prop) (w : World) (a0 : Int) (a1 : Int) (r : Int) (hs : F24_int a0 a1 = r) :
    Ret Try.prog 24 #[(Value.int .i64 a0), (Value.int .i64 a1)] w fun v w' => v = (Value.int .i64 r) ∧ Ch nb w w' := by
 have hS := hs
 have c0 : Ch nb w w := Ch.refl
 refine Ret.of (n := 20) (args := [_, _]) (rs := [.tmp 4]) Try.func24 rfl rfl rfl rfl ?_
 refine CW.seq (CW.region ?_)
 refine rl_assign rfl rfl ?_
 refine RL.nil (thn_n (CW.seq (CW.region ?_)))
 refine rl_move rfl rfl ?_
 obtain ⟨y3, hy4⟩ : ∃ y, F40_int a0 = y := ⟨_, rfl⟩
 have hS := ltS hy4 hS
 refine rl_callF rfl en40 rfl (ctr40 (G F w.heap.size nb) w a0 y3 hy4) ?_
 rintro _ w1 ⟨rfl, c2⟩
 have c0 := c0.then0 c2
 refine rl_assign rfl rfl ?_
 refine RL.nil (thn_n (CW.seq (CW.region ?_)))
 refine rl_move rfl rfl ?_
 obtain ⟨y7, hy8⟩ : ∃ y, F40_int a1 = y := ⟨_, rfl⟩
 have hS := ltS hy8 hS
 refine rl_callF rfl en40 rfl (ctr40 (G F w.heap.size nb) w1 a1 y7 hy8) ?_
 rintro _ w5 ⟨rfl, c6⟩
 have c0 := c0.then0 c6
 refine rl_assign rfl rfl ?_
 refine RL.nil (thn_n (CW.seq ?_))
 refine CW.seq (CW.region ?_)
 refine rl_move rfl rfl ?_
 refine RL.nil (thn_n ?_)
 refine CW.cond (t := y3) rfl (fun q9 => ?_) (fun q9 => ?_)
 ·
  have hS := ifT q9 hS
  refine CW.seq ?_
  refine CW.seq (CW.region ?_)
  refine rl_move rfl rfl ?_
  refine RL.nil (thn_n ?_)
  refine CW.cond (t := y7) rfl (fun q10 => ?_) (fun q10 => ?_)
  ·
   have hS := ifT q10 hS
   refine CW.seq (CW.region ?_)
   refine rl_assign rfl rfl ?_
   refine RL.nil (thn_n (CW.ret ?_))
   refine thn_ret ?_
   refine thn_ret ?_
   obtain rfl := hS
   exact ret1 rfl ⟨rfl, c0⟩
  have hS := ifF q10 hS
  refine CW.skip ?_
  refine thn_n (CW.seq (CW.region ?_))
  refine rl_assign rfl rfl ?_
  refine RL.nil (thn_n (CW.ret ?_))
  refine thn_ret ?_
  obtain rfl := hS
  exact ret1 rfl ⟨rfl, c0⟩
 have hS := ifF q9 hS
 refine CW.skip ?_
 refine thn_n (CW.seq ?_)
 refine CW.seq (CW.region ?_)
 refine rl_move rfl rfl ?_
 refine RL.nil (thn_n ?_)
 refine CW.cond (t := y7) rfl (fun q11 => ?_) (fun q11 => ?_)
 ·
  have hS := ifT q11 hS
  refine CW.seq (CW.region ?_)
  refine rl_assign rfl rfl ?_
  refine RL.nil (thn_n (CW.ret ?_))
  refine thn_ret ?_
  obtain rfl := hS
  exact ret1 rfl ⟨rfl, c0⟩
 have hS := ifF q11 hS
 refine CW.skip ?_
 refine thn_n (CW.seq ?_)
 refine CW.seq (CW.region ?_)
 refine rl_move rfl rfl ?_
 refine rl_move rfl rfl ?_
 refine rl_bin rfl rfl B.lss rfl ?_
 refine RL.nil (thn_n ?_)
 refine CW.cond (t := decide (a0 < a1)) rfl (fun q12 => ?_) (fun q12 => ?_)
 ·
  have hS := ifT q12 hS
  refine CW.seq (CW.region ?_)
  refine rl_assign rfl rfl ?_
  refine RL.nil (thn_n (CW.ret ?_))
  refine thn_ret ?_
  obtain rfl := hS
  exact ret1 rfl ⟨rfl, c0⟩
 have hS := ifF q12 hS
 refine CW.skip ?_
 refine thn_n (CW.seq ?_)
 refine CW.seq (CW.region ?_)
 refine rl_move rfl rfl ?_
 refine rl_move rfl rfl ?_
 refine rl_bin rfl rfl B.gtr rfl ?_
 refine RL.nil (thn_n ?_)
 refine CW.cond (t := decide (a0 > a1)) rfl (fun q13 => ?_) (fun q13 => ?_)
 ·
  have hS := ifT q13 hS
  refine CW.seq (CW.region ?_)
  refine rl_assign rfl rfl ?_
  refine RL.nil (thn_n (CW.ret ?_))
  refine thn_ret ?_
  obtain rfl := hS
  exact ret1 rfl ⟨rfl, c0⟩
 have hS := ifF q13 hS
 refine CW.skip ?_
 refine thn_n (CW.seq (CW.region ?_))
 refine rl_assign rfl rfl ?_
 refine RL.nil (thn_n (CW.ret ?_))
 obtain rfl := hS
 exact ret1 rfl ⟨rfl, c0⟩
/-- bytes.Compare -/
theorem ctr38 (F : Nat → Prop) (w : World) (a0 : (List Int)) (av0 : Value) (ah0 : slRep (kInt .u8) F w a0 av0) (a1 : (List Int)) (av1 : Value) (ah1 : slRep (kInt .u8) F w a1 av1) (r : Int) (hs : F38_Compare a0 a1 = r) :
    Ret Try.prog 38 #[av0, av1] w fun v w' => v = (Value.int .i64 r) ∧ Ch nb w w' := by
 have hS := hs
 have c0 : Ch nb w w := Ch.refl
 have ah0 := slRep.enter kInt_pos ah0
 have ah1 := slRep.enter kInt_pos ah1
 refine Ret.of (n := 8) (args := [_, _]) (rs := [.tmp 4]) Try.func38 rfl rfl rfl rfl ?_
 refine CW.seq (CW.region ?_)
 refine rl_assign rfl rfl ?_
 refine RL.nil (thn_n (CW.seq (CW.region ?_)))
 refine rl_move rfl rfl ?_
 refine rl_move rfl rfl ?_
 refine rl_bcmp rfl rfl ah0 ah1 Try.func49 (by kernel_rfl) rfl (by kernel_rfl) (by kernel_rfl) rfl ?_
 refine rl_assign rfl rfl ?_
 refine RL.nil (thn_n (CW.ret ?_))
 obtain rfl := hS
 exact ret1 rfl ⟨rfl, c0⟩
/-- lb/addr.Compare -/
theorem ctr21 (F : Nat → Prop) (w : World) (a0 : Addr) (a1 : Addr) (r : Int) (hs : F21_Compare a0 a1 = r) :
    Ret Try.prog 21 #[(Value.agg (Addr.enc a0).toArray), (Value.agg (Addr.enc a1).toArray)] w fun v w' => v = (Value.int .i64 r) ∧ Ch nb w w' := by
 have hS := hs
 have c0 : Ch nb w w := Ch.refl
 refine Ret.of (n := 19) (args := [_, _]) (rs := [.tmp 4]) Try.func21 rfl rfl rfl rfl ?_
 refine CW.seq (CW.region ?_)
 refine rl_boxA (cs := (Addr.enc a0)) rfl rfl ?_
 intro p1 w2 n3 k4
 have gp1 : (G F w.heap.size nb) p1 := ⟨.inr (by rw [n3.eq]; exact c0.size), fun h => absurd (nbS _ h) (by rw [n3.eq]; exact Nat.lt_irrefl _)⟩
 have c0 := c0.then0 n3.ch
 refine rl_boxA (cs := (Addr.enc a1)) rfl rfl ?_
 intro p5 w6 n7 k8
 have gp5 : (G F w.heap.size nb) p5 := ⟨.inr (by rw [n7.eq]; exact c0.size), fun h => absurd (nbS _ h) (by rw [n7.eq]; exact Nat.lt_irrefl _)⟩
 have k4 := k4.ch0 n7.ch
 have c0 := c0.then0 n7.ch
 refine rl_assign rfl rfl ?_
 refine RL.nil (thn_n (CW.seq ?_))
 refine CW.block ?_
 refine CW.seq (CW.region ?_)
 refine rl_fieldAddr rfl fa24_0 rfl ?_
 refine rl_loadS (v := (Value.bool a0.six)) rfl Try.isAgg4 (k4.cell rfl) rfl ?_
 refine rl_fieldAddr rfl fa24_0 rfl ?_
 refine rl_loadS (v := (Value.bool a1.six)) rfl Try.isAgg4 (k8.cell rfl) rfl ?_
 refine rl_bin rfl rfl (B.eqlB Try.underlying4) rfl ?_
 refine rl_assign rfl rfl ?_
 refine RL.nil (thn_n ?_)
 refine CW.cond (t := (a0.six == a1.six)) rfl (fun q9 => ?_) (fun q9 => ?_)
 ·
  have hS := ifT q9 hS
  refine CW.seq ?_
  obtain ⟨y16, hy17⟩ : ∃ y, F38_Compare (A16u8.list a0.b) (A16u8.list a1.b) = y := ⟨_, rfl⟩
  have hS := ltS hy17 hS
  refine CW.draw 4 [(none, fun fx O uu wx => uu = (Value.pointer (some ⟨p1, 1, none⟩))), (none, fun fx O uu wx => ∃ (v10 : Value), uu = v10 ∧ slRep (kInt .u8) (G F w.heap.size nb) wx (A16u8.list a0.b) v10), (none, fun fx O uu wx => uu = (Value.pointer (some ⟨p5, 1, none⟩))), (none, fun fx O uu wx => ∃ (v12 : Value), uu = v12 ∧ slRep (kInt .u8) (G F w.heap.size nb) wx (A16u8.list a1.b) v12)] [[], [0], [], [2]] [1, 3] nb (fun _ h => h.elim) mixed rfl rfl rfl rfl ?_ ?_
  ·
   refine Each.consS (fun fl O wk hE hN hO ck => ?_) ?_
   ·
    refine rl_fieldAddr rfl fa24_1 rfl ?_
    exact RL.nil ⟨_, rfl, Ch.refl, rfl⟩
   refine Each.consA ⟨fun _ _ _ _ _ cc hh => by obtain ⟨v10, e, h11⟩ := hh; exact ⟨v10, e, slRep.ch kInt_pos h11 cc⟩, fun h => absurd rfl h, fun fl O wk hE hN hO ck => ?_⟩ ?_
   ·
    have k4 := k4.ch0 ck
    refine Need.o1 rfl rfl rfl (fun _ h => h) ?_
    refine rl_sliceArr (k := (kInt .u8)) (R := (G F w.heap.size nb)) (cs := A16u8.enc a0.b) (A16u8.list a0.b) (Value.int .u8) rfl Try.underlying22 rfl Try.sizeOf5 (k4.segAt 1 16) rfl rfl (fun _ => rfl) gp1 rfl rfl ?_
    intro v19 h20
    exact RL.nil ⟨_, rfl, Ch.refl, ⟨v19, rfl, h20⟩⟩
   refine Each.consS (fun fl O wk hE hN hO ck => ?_) ?_
   ·
    refine rl_fieldAddr rfl fa24_1 rfl ?_
    exact RL.nil ⟨_, rfl, Ch.refl, rfl⟩
   refine Each.consA ⟨fun _ _ _ _ _ cc hh => by obtain ⟨v12, e, h13⟩ := hh; exact ⟨v12, e, slRep.ch kInt_pos h13 cc⟩, fun h => absurd rfl h, fun fl O wk hE hN hO ck => ?_⟩ ?_
   ·
    have k8 := k8.ch0 ck
    refine Need.o1 rfl rfl rfl (fun _ h => h) ?_
    refine rl_sliceArr (k := (kInt .u8)) (R := (G F w.heap.size nb)) (cs := A16u8.enc a1.b) (A16u8.list a1.b) (Value.int .u8) rfl Try.underlying22 rfl Try.sizeOf5 (k8.segAt 1 16) rfl rfl (fun _ => rfl) gp5 rfl rfl ?_
    intro v22 h23
    exact RL.nil ⟨_, rfl, Ch.refl, ⟨v22, rfl, h23⟩⟩
   trivial
  intro hvO26 OpO26 O26 w24 hO27 c25 hN28
  have c0 := c0.then0 c25
  refine Need.one rfl rfl rfl ?_
  rintro _ ⟨v10, e29, h11⟩
  obtain rfl := e29.symm
  refine Need.one rfl rfl rfl ?_
  rintro _ ⟨v12, e30, h13⟩
  obtain rfl := e30.symm
  refine rl_callF rfl en38 rfl (ctr38 (G F w.heap.size nb) w24 (A16u8.list a0.b) v10 h11 (A16u8.list a1.b) v12 h13 y16 hy17) ?_
  rintro _ w31 ⟨rfl, c32⟩
  have c0 := c0.then0 c32
  refine rl_assign rfl rfl ?_
  refine RL.nil (thn_n (CW.ret ?_))
  refine inB_ret ?_
  refine thn_ret ?_
  obtain rfl := hS
  exact ret1 rfl ⟨rfl, c0⟩
 have hS := ifF q9 hS
 refine CW.seq (CW.region ?_)
 refine rl_fieldAddr rfl fa24_0 rfl ?_
 refine rl_loadS (v := (Value.bool a0.six)) rfl Try.isAgg4 (k4.cell rfl) rfl ?_
 refine rl_assign rfl rfl ?_
 refine RL.nil (thn_n ?_)
 refine CW.cond (t := a0.six) rfl (fun q33 => ?_) (fun q33 => ?_)
 ·
  have hS := ifT q33 hS
  refine CW.seq (CW.region ?_)
  refine rl_assign rfl rfl ?_
  refine RL.nil (thn_n (CW.ret ?_))
  refine inB_ret ?_
  refine thn_ret ?_
  obtain rfl := hS
  exact ret1 rfl ⟨rfl, c0⟩
 have hS := ifF q33 hS
 refine CW.skip ?_
 refine inB_n ?_
 refine thn_n (CW.seq (CW.region ?_))
 refine rl_assign rfl rfl ?_
 refine RL.nil (thn_n (CW.ret ?_))
 obtain rfl := hS
 exact ret1 rfl ⟨rfl, c0⟩
/-- cmp.isNaN[string] -/
theorem ctr39 (F : Nat → Prop) (w : World) (a0 : ByteArray) (r : Bool) (hs : F39_string a0 = r) :
    Ret Try.prog 39 #[(Value.string a0)] w fun v w' => v = (Value.bool r) ∧ Ch nb w w' := by
 have hS := hs
 have c0 : Ch nb w w := Ch.refl
 refine Ret.of (n := 6) (args := [_]) (rs := [.tmp 2]) Try.func39 rfl rfl rfl rfl ?_
 refine CW.seq (CW.region ?_)
 refine rl_assign rfl rfl ?_
 refine RL.nil (thn_n (CW.seq (CW.region ?_)))
 refine rl_move rfl rfl ?_
 refine rl_move rfl rfl ?_
 refine rl_bin rfl rfl B.neqS rfl ?_
 refine rl_assign rfl rfl ?_
 refine RL.nil (thn_n (CW.ret ?_))
 obtain rfl := hS
 exact ret1 rfl ⟨rfl, c0⟩
/-- cmp.Compare[string] -/
theorem ctr23 (F : Nat → Prop) (w : World) (a0 : ByteArray) (a1 : ByteArray) (r : Int) (hs : F23_string a0 a1 = r) :
    Ret Try.prog 23 #[(Value.string a0), (Value.string a1)] w fun v w' => v = (Value.int .i64 r) ∧ Ch nb w w' := by
 have hS := hs
 have c0 : Ch nb w w := Ch.refl
 refine Ret.of (n := 20) (args := [_, _]) (rs := [.tmp 4]) Try.func23 rfl rfl rfl rfl ?_
 refine CW.seq (CW.region ?_)
 refine rl_assign rfl rfl ?_
 refine RL.nil (thn_n (CW.seq (CW.region ?_)))
 refine rl_move rfl rfl ?_
 obtain ⟨y3, hy4⟩ : ∃ y, F39_string a0 = y := ⟨_, rfl⟩
 have hS := ltS hy4 hS
 refine rl_callF rfl en39 rfl (ctr39 (G F w.heap.size nb) w a0 y3 hy4) ?_
 rintro _ w1 ⟨rfl, c2⟩
 have c0 := c0.then0 c2
 refine rl_assign rfl rfl ?_
 refine RL.nil (thn_n (CW.seq (CW.region ?_)))
 refine rl_move rfl rfl ?_
 obtain ⟨y7, hy8⟩ : ∃ y, F39_string a1 = y := ⟨_, rfl⟩
 have hS := ltS hy8 hS
 refine rl_callF rfl en39 rfl (ctr39 (G F w.heap.size nb) w1 a1 y7 hy8) ?_
 rintro _ w5 ⟨rfl, c6⟩
 have c0 := c0.then0 c6
 refine rl_assign rfl rfl ?_
 refine RL.nil (thn_n (CW.seq ?_))
 refine CW.seq (CW.region ?_)
 refine rl_move rfl rfl ?_
 refine RL.nil (thn_n ?_)
 refine CW.cond (t := y3) rfl (fun q9 => ?_) (fun q9 => ?_)
 ·
  have hS := ifT q9 hS
  refine CW.seq ?_
  refine CW.seq (CW.region ?_)
  refine rl_move rfl rfl ?_
  refine RL.nil (thn_n ?_)
  refine CW.cond (t := y7) rfl (fun q10 => ?_) (fun q10 => ?_)
  ·
   have hS := ifT q10 hS
   refine CW.seq (CW.region ?_)
   refine rl_assign rfl rfl ?_
   refine RL.nil (thn_n (CW.ret ?_))
   refine thn_ret ?_
   refine thn_ret ?_
   obtain rfl := hS
   exact ret1 rfl ⟨rfl, c0⟩
  have hS := ifF q10 hS
  refine CW.skip ?_
  refine thn_n (CW.seq (CW.region ?_))
  refine rl_assign rfl rfl ?_
  refine RL.nil (thn_n (CW.ret ?_))
  refine thn_ret ?_
  obtain rfl := hS
  exact ret1 rfl ⟨rfl, c0⟩
 have hS := ifF q9 hS
 refine CW.skip ?_
 refine thn_n (CW.seq ?_)
 refine CW.seq (CW.region ?_)
 refine rl_move rfl rfl ?_
 refine RL.nil (thn_n ?_)
 refine CW.cond (t := y7) rfl (fun q11 => ?_) (fun q11 => ?_)
 ·
  have hS := ifT q11 hS
  refine CW.seq (CW.region ?_)
  refine rl_assign rfl rfl ?_
  refine RL.nil (thn_n (CW.ret ?_))
  refine thn_ret ?_
  obtain rfl := hS
  exact ret1 rfl ⟨rfl, c0⟩
 have hS := ifF q11 hS
 refine CW.skip ?_
 refine thn_n (CW.seq ?_)
 refine CW.seq (CW.region ?_)
 refine rl_move rfl rfl ?_
 refine rl_move rfl rfl ?_
 refine rl_bin rfl rfl B.lssS rfl ?_
 refine RL.nil (thn_n ?_)
 refine CW.cond (t := Op.bytesLess a0.toList a1.toList) rfl (fun q12 => ?_) (fun q12 => ?_)
 ·
  have hS := ifT q12 hS
  refine CW.seq (CW.region ?_)
  refine rl_assign rfl rfl ?_
  refine RL.nil (thn_n (CW.ret ?_))
  refine thn_ret ?_
  obtain rfl := hS
  exact ret1 rfl ⟨rfl, c0⟩
 have hS := ifF q12 hS
 refine CW.skip ?_
 refine thn_n (CW.seq ?_)
 refine CW.seq (CW.region ?_)
 refine rl_move rfl rfl ?_
 refine rl_move rfl rfl ?_
 refine rl_bin rfl rfl B.gtrS rfl ?_
 refine RL.nil (thn_n ?_)
 refine CW.cond (t := !(Op.bytesLess a0.toList a1.toList || decide (a0 = a1))) rfl (fun q13 => ?_) (fun q13 => ?_)
 ·
  have hS := ifT q13 hS
  refine CW.seq (CW.region ?_)
  refine rl_assign rfl rfl ?_
  refine RL.nil (thn_n (CW.ret ?_))
  refine thn_ret ?_
  obtain rfl := hS
  exact ret1 rfl ⟨rfl, c0⟩
 have hS := ifF q13 hS
 refine CW.skip ?_
 refine thn_n (CW.seq (CW.region ?_))
 refine rl_assign rfl rfl ?_
 refine RL.nil (thn_n (CW.ret ?_))
 obtain rfl := hS
 exact ret1 rfl ⟨rfl, c0⟩
/-- cmp.Or[int] -/
theorem ctr20 (F : Nat → Prop) (w : World) (a0 : (List Int)) (av0 : Value) (ah0 : slRep (kInt .i64) F w a0 av0) (r : Int) (hs : F20_int a0 = r) :
    Ret Try.prog 20 #[av0] w fun v w' => v = (Value.int .i64 r) ∧ Ch nb w w' := by
 have hS := hs
 have c0 : Ch nb w w := Ch.refl
 have ah0 := slRep.enter kInt_pos ah0
 refine Ret.of (n := 18) (args := [_]) (rs := [.tmp 2]) Try.func20 rfl rfl rfl rfl ?_
 refine CW.seq (CW.region ?_)
 refine rl_assign rfl rfl ?_
 refine RL.nil (thn_n (CW.seq (CW.region ?_)))
 refine rl_assign rfl rfl ?_
 refine RL.nil (thn_n (CW.seq ?_))
 refine CW.seq (CW.region ?_)
 refine rl_move rfl rfl ?_
 refine rl_lenR rfl ah0 Try.underlying83 rfl ?_
 refine rl_move rfl rfl ?_
 refine RL.nil (thn_n ?_)
 obtain ⟨o8, ho9⟩ : ∃ o, runB F20_int_b1 a0 () = o := ⟨_, rfl⟩
 have hS := ltS ho9 hS
 refine CW.cutB (fun E' w' => ∃ (_ : Unit), Sub [(3, (Value.int .i64 0))] E' ∧ Ch nb w w' ∧ Lp.fin () = o8 ∧ slRep (kInt .i64) (G F w.heap.size nb) w' a0 av0) ?_ ?_
 ·
  refine CW.loopS [(3, (Value.int .i64 0)), (6, av0), (7, (Value.int .i64 ((a0.length : Nat) : Int))), (8, (Value.int .i64 ((0 : Nat) : Int)))] ⟨rfl, rfl, rfl, rfl, trivial⟩ a0.length (fun m E w' => ∃ (rest1 : List Int) (i2 : Nat) , m = rest1.length ∧ E = [(3, (Value.int .i64 0)), (6, av0), (7, (Value.int .i64 ((a0.length : Nat) : Int))), (8, (Value.int .i64 ((i2 : Nat) : Int)))] ∧ Ch nb w w' ∧ At a0 i2 rest1 ∧ runB F20_int_b1 rest1 () = o8 ∧ slRep (kInt .i64) (G F w.heap.size nb) w' a0 av0)
      ⟨a0, 0, rfl, rfl, c0, At.start, ho9, ah0⟩ ?_
  rintro _ _ w14 ⟨rest1, i2, rfl, rfl, c13, hat4, hL3, ah0⟩
  refine CW.seq (CW.region ?_)
  refine rl_bin rfl rfl B.lss rfl ?_
  refine RL.nil (thn_n ?_)
  refine CW.seq ?_
  refine CW.cond (t := decide (((i2 : Nat) : Int) < ((a0.length : Nat) : Int))) rfl (fun q16 => ?_) (fun q16 => ?_)
  ·
   obtain ⟨x10, rest17, rfl⟩ := hat4.cons q16
   obtain ⟨q5, hq6⟩ : ∃ q, F20_int_b1 x10 () = q := ⟨_, rfl⟩
   have hb7 := hq6
   refine CW.skip (thn_n ?_)
   refine CW.seq ?_
   refine CW.block ?_
   refine CW.seq (CW.region ?_)
   refine rl_ixR rfl ah0 rfl hat4.get Try.underlying83 Try.sizeOf3 rfl ?_
   intro p18 o19 cs20 hr21 hs22 hg23
   obtain rfl := hr21
   refine rl_loadS (v := (Value.int .i64 x10)) rfl Try.isAgg3 (hs22 0 _ rfl) rfl ?_
   refine rl_assign rfl rfl ?_
   refine RL.nil (thn_n (CW.seq (CW.region ?_)))
   refine rl_move rfl rfl ?_
   refine rl_move rfl rfl ?_
   refine rl_bin rfl rfl B.neq rfl ?_
   refine RL.nil (thn_n ?_)
   refine CW.cond (t := !decide (x10 = 0)) rfl (fun q24 => ?_) (fun q24 => ?_)
   ·
    have hb7 := ifT q24 hb7
    refine CW.seq (CW.region ?_)
    refine rl_move rfl rfl ?_
    refine rl_assign rfl rfl ?_
    refine RL.nil (thn_n (CW.ret ?_))
    refine inB_ret ?_
    refine thn_ret ?_
    refine thn_ret (inB_ret (thn_ret ?_))
    refine thn_ret ?_
    have f25 := runB_ret hL3 (hb7.trans hq6.symm)
    have hS := retS f25 hS
    obtain rfl := hS
    exact ret1 rfl ⟨rfl, c13⟩
   have hb7 := ifF q24 hb7
   refine CW.skip ?_
   refine inB_n ?_
   refine thn_n (CW.region ?_)
   refine rl_inc rfl hat4.lt ah0.big rfl ?_
   refine rl_move rfl rfl ?_
   refine RL.nil (thn_n ?_)
   have hLn := runB_next hL3 (hb7.trans hq6.symm)
   exact ⟨rest17.length, Nat.lt_succ_self _, [(3, (Value.int .i64 0)), (6, av0), (7, (Value.int .i64 ((a0.length : Nat) : Int))), (8, (Value.int .i64 ((i2 + 1 : Nat) : Int)))], ⟨rfl, rfl, rfl, rfl, trivial⟩, ⟨rest17, i2 + 1, rfl, rfl, c13, hat4.next, hLn, ah0⟩⟩
  obtain rfl := hat4.nil q16
  have hLf : Lp.fin () = o8 := hL3
  refine CW.exit (thn_exit (thn_exit (inB_hit ?_)))
  exact ⟨(), ⟨rfl, trivial⟩, c13, hLf, ah0⟩
 rintro _ w27 ⟨_, hE28, c26, f29, ah0⟩
 have hS := finS f29 hS
 refine thn_n (CW.sub [(3, (Value.int .i64 0))] hE28 ?_)
 refine CW.seq (CW.region ?_)
 refine rl_move rfl rfl ?_
 refine rl_assign rfl rfl ?_
 refine RL.nil (thn_n (CW.ret ?_))
 obtain rfl := hS
 exact ret1 rfl ⟨rfl, c26⟩
/-- lb/names.Compare -/
theorem ctr22 (F : Nat → Prop) (w : World) (a0 : Key) (a1 : Key) (r : Int) (hs : F22_Compare a0 a1 = r) :
    Ret Try.prog 22 #[(Value.agg (Key.enc a0).toArray), (Value.agg (Key.enc a1).toArray)] w fun v w' => v = (Value.int .i64 r) ∧ Ch nb w w' := by
 have hS := hs
 have c0 : Ch nb w w := Ch.refl
 refine Ret.of (n := 17) (args := [_, _]) (rs := [.tmp 4]) Try.func22 rfl rfl rfl rfl ?_
 refine CW.seq (CW.region ?_)
 refine rl_boxA (cs := (Key.enc a0)) rfl rfl ?_
 intro p1 w2 n3 k4
 have c0 := c0.then0 n3.ch
 refine rl_boxA (cs := (Key.enc a1)) rfl rfl ?_
 intro p5 w6 n7 k8
 have k4 := k4.ch0 n7.ch
 have c0 := c0.then0 n7.ch
 refine rl_assign rfl rfl ?_
 refine RL.nil (thn_n (CW.seq ?_))
 obtain ⟨y11, hy12⟩ : ∃ y, F23_string a0.space a1.space = y := ⟨_, rfl⟩
 have hS := ltS hy12 hS
 obtain ⟨y15, hy16⟩ : ∃ y, F23_string a0.name a1.name = y := ⟨_, rfl⟩
 have hS := ltS hy16 hS
 obtain ⟨y24, hy25⟩ : ∃ y, F20_int [y11, y15] = y := ⟨_, rfl⟩
 have hS := ltS hy25 hS
 refine CW.draw 9 [(none, fun fx O uu wx => uu = (PV p1)), (none, fun fx O uu wx => uu = (Value.string a0.space)), (none, fun fx O uu wx => uu = (PV p5)), (none, fun fx O uu wx => uu = (Value.string a1.space)), (none, fun fx O uu wx => uu = (Value.int .i64 y11)), (none, fun fx O uu wx => uu = (Value.pointer (some ⟨p1, 1, none⟩))), (none, fun fx O uu wx => uu = (Value.string a0.name)), (none, fun fx O uu wx => uu = (Value.pointer (some ⟨p5, 1, none⟩))), (none, fun fx O uu wx => uu = (Value.string a1.name))] [[], [0], [], [2], [1, 3], [], [5], [], [7]] [4, 6, 8] nb (fun _ h => h.elim) mixed rfl rfl rfl rfl ?_ ?_
 ·
  refine Each.consS (fun fl O wk hE hN hO ck => ?_) ?_
  ·
   refine rl_fieldAddr rfl fa26_0 rfl ?_
   exact RL.nil ⟨_, rfl, Ch.refl, rfl⟩
  refine Each.consS (fun fl O wk hE hN hO ck => ?_) ?_
  ·
   have k4 := k4.ch0 ck
   refine Need.o1 rfl rfl rfl (fun _ h => h) ?_
   refine rl_loadS (v := (Value.string a0.space)) rfl Try.isAgg9 (k4.cell rfl) rfl ?_
   exact RL.nil ⟨_, rfl, Ch.refl, rfl⟩
  refine Each.consS (fun fl O wk hE hN hO ck => ?_) ?_
  ·
   refine rl_fieldAddr rfl fa26_0 rfl ?_
   exact RL.nil ⟨_, rfl, Ch.refl, rfl⟩
  refine Each.consS (fun fl O wk hE hN hO ck => ?_) ?_
  ·
   have k8 := k8.ch0 ck
   refine Need.o1 rfl rfl rfl (fun _ h => h) ?_
   refine rl_loadS (v := (Value.string a1.space)) rfl Try.isAgg9 (k8.cell rfl) rfl ?_
   exact RL.nil ⟨_, rfl, Ch.refl, rfl⟩
  refine Each.consS (fun fl O wk hE hN hO ck => ?_) ?_
  ·
   refine Need.o1 rfl rfl rfl (fun _ h => h) ?_
   refine Need.o1 rfl rfl rfl (fun _ h => h) ?_
   refine rl_callF rfl en23 rfl (ctr23 (G F w.heap.size nb) wk a0.space a1.space y11 hy12) ?_
   rintro _ w30 ⟨rfl, c31⟩
   exact RL.nil ⟨_, rfl, c31, rfl⟩
  refine Each.consS (fun fl O wk hE hN hO ck => ?_) ?_
  ·
   refine rl_fieldAddr rfl fa26_1 rfl ?_
   exact RL.nil ⟨_, rfl, Ch.refl, rfl⟩
  refine Each.consS (fun fl O wk hE hN hO ck => ?_) ?_
  ·
   have k4 := k4.ch0 ck
   refine Need.o1 rfl rfl rfl (fun _ h => h) ?_
   refine rl_loadS (v := (Value.string a0.name)) rfl Try.isAgg9 (k4.cell rfl) rfl ?_
   exact RL.nil ⟨_, rfl, Ch.refl, rfl⟩
  refine Each.consS (fun fl O wk hE hN hO ck => ?_) ?_
  ·
   refine rl_fieldAddr rfl fa26_1 rfl ?_
   exact RL.nil ⟨_, rfl, Ch.refl, rfl⟩
  refine Each.consS (fun fl O wk hE hN hO ck => ?_) ?_
  ·
   have k8 := k8.ch0 ck
   refine Need.o1 rfl rfl rfl (fun _ h => h) ?_
   refine rl_loadS (v := (Value.string a1.name)) rfl Try.isAgg9 (k8.cell rfl) rfl ?_
   exact RL.nil ⟨_, rfl, Ch.refl, rfl⟩
  trivial
 intro hvO36 OpO36 O36 w34 hO37 c35 hN38
 have c0 := c0.then0 c35
 refine Need.o1 rfl rfl rfl (fun _ h => h) ?_
 refine Need.o1 rfl rfl rfl (fun _ h => h) ?_
 refine Need.o1 rfl rfl rfl (fun _ h => h) ?_
 refine rl_callF rfl en23 rfl (ctr23 (G F w.heap.size nb) w34 a0.name a1.name y15 hy16) ?_
 rintro _ w42 ⟨rfl, c43⟩
 have c0 := c0.then0 c43
 refine rl_bslice (k := (kInt .i64)) (F := F) (B := w.heap.size) (S := nb) ([y11, y15] : List Int) rfl kInt_pos Try.underlying83 Try.sizeOf3 Try.zeroValue3 rfl rfl ⟨rfl, rfl, ⟨rfl, rfl, trivial⟩⟩ c0.size nbS rfl ?_
 intro v44 w45 c46 hf47 h48
 have h48 := h48.readNew kInt_pos hf47 nbS
 have c0 := c0.then0 c46
 refine rl_callF rfl en20 rfl (ctr20 (G F w.heap.size nb) w45 [y11, y15] v44 h48 y24 hy25) ?_
 rintro _ w49 ⟨rfl, c50⟩
 have c0 := c0.then0 c50
 refine rl_assign rfl rfl ?_
 refine RL.nil (thn_n (CW.ret ?_))
 obtain rfl := hS
 exact ret1 rfl ⟨rfl, c0⟩
/-- lb/ties.number -/
theorem ctr25 (F : Nat → Prop) (w : World) (a0 : Bool) (r : Int) (hs : F25_number a0 = r) :
    Ret Try.prog 25 #[(Value.bool a0)] w fun v w' => v = (Value.int .i64 r) ∧ Ch nb w w' := by
 have hS := hs
 have c0 : Ch nb w w := Ch.refl
 refine Ret.of (n := 4) (args := [_]) (rs := [.tmp 2]) Try.func25 rfl rfl rfl rfl ?_
 refine CW.seq (CW.region ?_)
 refine rl_assign rfl rfl ?_
 refine RL.nil (thn_n (CW.seq ?_))
 refine CW.seq (CW.region ?_)
 refine rl_move rfl rfl ?_
 refine RL.nil (thn_n ?_)
 refine CW.cond (t := a0) rfl (fun q1 => ?_) (fun q1 => ?_)
 ·
  have hS := ifT q1 hS
  refine CW.seq (CW.region ?_)
  refine rl_assign rfl rfl ?_
  refine RL.nil (thn_n (CW.ret ?_))
  refine thn_ret ?_
  obtain rfl := hS
  exact ret1 rfl ⟨rfl, c0⟩
 have hS := ifF q1 hS
 refine CW.skip ?_
 refine thn_n (CW.seq (CW.region ?_))
 refine rl_assign rfl rfl ?_
 refine RL.nil (thn_n (CW.ret ?_))
 obtain rfl := hS
 exact ret1 rfl ⟨rfl, c0⟩
/-- lb/ties.Compare -/
theorem ctr9 (F : Nat → Prop) (w : World) (a0 : Tie) (a1 : Tie) (r : Int) (hs : F9_Compare a0 a1 = r) :
    Ret Try.prog 9 #[(Value.agg (Tie.enc a0).toArray), (Value.agg (Tie.enc a1).toArray)] w fun v w' => v = (Value.int .i64 r) ∧ Ch nb w w' := by
 have hS := hs
 have c0 : Ch nb w w := Ch.refl
 refine Ret.of (n := 29) (args := [_, _]) (rs := [.tmp 4]) Try.func9 rfl rfl rfl rfl ?_
 refine CW.seq (CW.region ?_)
 refine rl_boxA (cs := (Tie.enc a0)) rfl rfl ?_
 intro p1 w2 n3 k4
 have c0 := c0.then0 n3.ch
 refine rl_boxA (cs := (Tie.enc a1)) rfl rfl ?_
 intro p5 w6 n7 k8
 have k4 := k4.ch0 n7.ch
 have c0 := c0.then0 n7.ch
 refine rl_assign rfl rfl ?_
 refine RL.nil (thn_n (CW.seq ?_))
 obtain ⟨y11, hy12⟩ : ∃ y, F21_Compare a0.client a1.client = y := ⟨_, rfl⟩
 have hS := ltS hy12 hS
 obtain ⟨y15, hy16⟩ : ∃ y, F22_Compare a0.service a1.service = y := ⟨_, rfl⟩
 have hS := ltS hy16 hS
 obtain ⟨y19, hy20⟩ : ∃ y, F23_string a0.name a1.name = y := ⟨_, rfl⟩
 have hS := ltS hy20 hS
 obtain ⟨y23, hy24⟩ : ∃ y, F25_number a0.localF = y := ⟨_, rfl⟩
 have hS := ltS hy24 hS
 obtain ⟨y27, hy28⟩ : ∃ y, F25_number a1.localF = y := ⟨_, rfl⟩
 have hS := ltS hy28 hS
 obtain ⟨y31, hy32⟩ : ∃ y, F24_int y23 y27 = y := ⟨_, rfl⟩
 have hS := ltS hy32 hS
 obtain ⟨y40, hy41⟩ : ∃ y, F20_int [y11, y15, y19, y31] = y := ⟨_, rfl⟩
 have hS := ltS hy41 hS
 refine CW.draw 20 [(none, fun fx O uu wx => uu = (PV p1)), (none, fun fx O uu wx => uu = (Value.agg (Addr.enc a0.client).toArray)), (none, fun fx O uu wx => uu = (PV p5)), (none, fun fx O uu wx => uu = (Value.agg (Addr.enc a1.client).toArray)), (none, fun fx O uu wx => uu = (Value.int .i64 y11)), (none, fun fx O uu wx => uu = (Value.pointer (some ⟨p1, 17, none⟩))), (none, fun fx O uu wx => uu = (Value.agg (Key.enc a0.service).toArray)), (none, fun fx O uu wx => uu = (Value.pointer (some ⟨p5, 17, none⟩))), (none, fun fx O uu wx => uu = (Value.agg (Key.enc a1.service).toArray)), (none, fun fx O uu wx => uu = (Value.int .i64 y15)), (none, fun fx O uu wx => uu = (Value.pointer (some ⟨p1, 19, none⟩))), (none, fun fx O uu wx => uu = (Value.string a0.name)), (none, fun fx O uu wx => uu = (Value.pointer (some ⟨p5, 19, none⟩))), (none, fun fx O uu wx => uu = (Value.string a1.name)), (none, fun fx O uu wx => uu = (Value.int .i64 y19)), (none, fun fx O uu wx => uu = (Value.pointer (some ⟨p1, 20, none⟩))), (none, fun fx O uu wx => uu = (Value.bool a0.localF)), (none, fun fx O uu wx => uu = (Value.int .i64 y23)), (none, fun fx O uu wx => uu = (Value.pointer (some ⟨p5, 20, none⟩))), (none, fun fx O uu wx => uu = (Value.bool a1.localF))] [[], [0], [], [2], [1, 3], [], [5], [], [7], [6, 8], [], [10], [], [12], [11, 13], [], [15], [16], [], [18]] [4, 9, 14, 17, 19] nb (fun _ h => h.elim) mixed rfl rfl rfl rfl ?_ ?_
 ·
  refine Each.consS (fun fl O wk hE hN hO ck => ?_) ?_
  ·
   refine rl_fieldAddr rfl fa30_0 rfl ?_
   exact RL.nil ⟨_, rfl, Ch.refl, rfl⟩
  refine Each.consS (fun fl O wk hE hN hO ck => ?_) ?_
  ·
   have k4 := k4.ch0 ck
   refine Need.o1 rfl rfl rfl (fun _ h => h) ?_
   refine rl_loadA (cs := (Addr.enc a0.client)) rfl Try.isAgg24 Try.sizeOf24 (k4.segAt 0 17) rfl rfl ?_
   exact RL.nil ⟨_, rfl, Ch.refl, rfl⟩
  refine Each.consS (fun fl O wk hE hN hO ck => ?_) ?_
  ·
   refine rl_fieldAddr rfl fa30_0 rfl ?_
   exact RL.nil ⟨_, rfl, Ch.refl, rfl⟩
  refine Each.consS (fun fl O wk hE hN hO ck => ?_) ?_
  ·
   have k8 := k8.ch0 ck
   refine Need.o1 rfl rfl rfl (fun _ h => h) ?_
   refine rl_loadA (cs := (Addr.enc a1.client)) rfl Try.isAgg24 Try.sizeOf24 (k8.segAt 0 17) rfl rfl ?_
   exact RL.nil ⟨_, rfl, Ch.refl, rfl⟩
  refine Each.consS (fun fl O wk hE hN hO ck => ?_) ?_
  ·
   refine Need.o1 rfl rfl rfl (fun _ h => h) ?_
   refine Need.o1 rfl rfl rfl (fun _ h => h) ?_
   refine rl_callF rfl en21 rfl (ctr21 (G F w.heap.size nb) wk a0.client a1.client y11 hy12) ?_
   rintro _ w46 ⟨rfl, c47⟩
   exact RL.nil ⟨_, rfl, c47, rfl⟩
  refine Each.consS (fun fl O wk hE hN hO ck => ?_) ?_
  ·
   refine rl_fieldAddr rfl fa30_1 rfl ?_
   exact RL.nil ⟨_, rfl, Ch.refl, rfl⟩
  refine Each.consS (fun fl O wk hE hN hO ck => ?_) ?_
  ·
   have k4 := k4.ch0 ck
   refine Need.o1 rfl rfl rfl (fun _ h => h) ?_
   refine rl_loadA (cs := (Key.enc a0.service)) rfl Try.isAgg26 Try.sizeOf26 (k4.segAt 17 2) rfl rfl ?_
   exact RL.nil ⟨_, rfl, Ch.refl, rfl⟩
  refine Each.consS (fun fl O wk hE hN hO ck => ?_) ?_
  ·
   refine rl_fieldAddr rfl fa30_1 rfl ?_
   exact RL.nil ⟨_, rfl, Ch.refl, rfl⟩
  refine Each.consS (fun fl O wk hE hN hO ck => ?_) ?_
  ·
   have k8 := k8.ch0 ck
   refine Need.o1 rfl rfl rfl (fun _ h => h) ?_
   refine rl_loadA (cs := (Key.enc a1.service)) rfl Try.isAgg26 Try.sizeOf26 (k8.segAt 17 2) rfl rfl ?_
   exact RL.nil ⟨_, rfl, Ch.refl, rfl⟩
  refine Each.consS (fun fl O wk hE hN hO ck => ?_) ?_
  ·
   refine Need.o1 rfl rfl rfl (fun _ h => h) ?_
   refine Need.o1 rfl rfl rfl (fun _ h => h) ?_
   refine rl_callF rfl en22 rfl (ctr22 (G F w.heap.size nb) wk a0.service a1.service y15 hy16) ?_
   rintro _ w52 ⟨rfl, c53⟩
   exact RL.nil ⟨_, rfl, c53, rfl⟩
  refine Each.consS (fun fl O wk hE hN hO ck => ?_) ?_
  ·
   refine rl_fieldAddr rfl fa30_2 rfl ?_
   exact RL.nil ⟨_, rfl, Ch.refl, rfl⟩
  refine Each.consS (fun fl O wk hE hN hO ck => ?_) ?_
  ·
   have k4 := k4.ch0 ck
   refine Need.o1 rfl rfl rfl (fun _ h => h) ?_
   refine rl_loadS (v := (Value.string a0.name)) rfl Try.isAgg9 (k4.cell rfl) rfl ?_
   exact RL.nil ⟨_, rfl, Ch.refl, rfl⟩
  refine Each.consS (fun fl O wk hE hN hO ck => ?_) ?_
  ·
   refine rl_fieldAddr rfl fa30_2 rfl ?_
   exact RL.nil ⟨_, rfl, Ch.refl, rfl⟩
  refine Each.consS (fun fl O wk hE hN hO ck => ?_) ?_
  ·
   have k8 := k8.ch0 ck
   refine Need.o1 rfl rfl rfl (fun _ h => h) ?_
   refine rl_loadS (v := (Value.string a1.name)) rfl Try.isAgg9 (k8.cell rfl) rfl ?_
   exact RL.nil ⟨_, rfl, Ch.refl, rfl⟩
  refine Each.consS (fun fl O wk hE hN hO ck => ?_) ?_
  ·
   refine Need.o1 rfl rfl rfl (fun _ h => h) ?_
   refine Need.o1 rfl rfl rfl (fun _ h => h) ?_
   refine rl_callF rfl en23 rfl (ctr23 (G F w.heap.size nb) wk a0.name a1.name y19 hy20) ?_
   rintro _ w58 ⟨rfl, c59⟩
   exact RL.nil ⟨_, rfl, c59, rfl⟩
  refine Each.consS (fun fl O wk hE hN hO ck => ?_) ?_
  ·
   refine rl_fieldAddr rfl fa30_3 rfl ?_
   exact RL.nil ⟨_, rfl, Ch.refl, rfl⟩
  refine Each.consS (fun fl O wk hE hN hO ck => ?_) ?_
  ·
   have k4 := k4.ch0 ck
   refine Need.o1 rfl rfl rfl (fun _ h => h) ?_
   refine rl_loadS (v := (Value.bool a0.localF)) rfl Try.isAgg4 (k4.cell rfl) rfl ?_
   exact RL.nil ⟨_, rfl, Ch.refl, rfl⟩
  refine Each.consS (fun fl O wk hE hN hO ck => ?_) ?_
  ·
   refine Need.o1 rfl rfl rfl (fun _ h => h) ?_
   refine rl_callF rfl en25 rfl (ctr25 (G F w.heap.size nb) wk a0.localF y23 hy24) ?_
   rintro _ w62 ⟨rfl, c63⟩
   exact RL.nil ⟨_, rfl, c63, rfl⟩
  refine Each.consS (fun fl O wk hE hN hO ck => ?_) ?_
  ·
   refine rl_fieldAddr rfl fa30_3 rfl ?_
   exact RL.nil ⟨_, rfl, Ch.refl, rfl⟩
  refine Each.consS (fun fl O wk hE hN hO ck => ?_) ?_
  ·
   have k8 := k8.ch0 ck
   refine Need.o1 rfl rfl rfl (fun _ h => h) ?_
   refine rl_loadS (v := (Value.bool a1.localF)) rfl Try.isAgg4 (k8.cell rfl) rfl ?_
   exact RL.nil ⟨_, rfl, Ch.refl, rfl⟩
  trivial
 intro hvO67 OpO67 O67 w65 hO68 c66 hN69
 have c0 := c0.then0 c66
 refine Need.o1 rfl rfl rfl (fun _ h => h) ?_
 refine Need.o1 rfl rfl rfl (fun _ h => h) ?_
 refine Need.o1 rfl rfl rfl (fun _ h => h) ?_
 refine Need.o1 rfl rfl rfl (fun _ h => h) ?_
 refine Need.o1 rfl rfl rfl (fun _ h => h) ?_
 refine rl_callF rfl en25 rfl (ctr25 (G F w.heap.size nb) w65 a1.localF y27 hy28) ?_
 rintro _ w75 ⟨rfl, c76⟩
 have c0 := c0.then0 c76
 refine rl_callF rfl en24 rfl (ctr24 (G F w.heap.size nb) w75 y23 y27 y31 hy32) ?_
 rintro _ w77 ⟨rfl, c78⟩
 have c0 := c0.then0 c78
 refine rl_bslice (k := (kInt .i64)) (F := F) (B := w.heap.size) (S := nb) ([y11, y15, y19, y31] : List Int) rfl kInt_pos Try.underlying83 Try.sizeOf3 Try.zeroValue3 rfl rfl ⟨rfl, rfl, ⟨rfl, rfl, ⟨rfl, rfl, ⟨rfl, rfl, trivial⟩⟩⟩⟩ c0.size nbS rfl ?_
 intro v79 w80 c81 hf82 h83
 have h83 := h83.readNew kInt_pos hf82 nbS
 have c0 := c0.then0 c81
 refine rl_callF rfl en20 rfl (ctr20 (G F w.heap.size nb) w80 [y11, y15, y19, y31] v79 h83 y40 hy41) ?_
 rintro _ w84 ⟨rfl, c85⟩
 have c0 := c0.then0 c85
 refine rl_assign rfl rfl ?_
 refine RL.nil (thn_n (CW.ret ?_))
 obtain rfl := hS
 exact ret1 rfl ⟨rfl, c0⟩
/-- lb/ties.elder -/
theorem ctr48 (F : Nat → Prop) (w : World) (a0 : Tie) (a1 : Tie) (r : Int) (hs : F48_elder a0 a1 = r) :
    Ret Try.prog 48 #[(Value.agg (Tie.enc a0).toArray), (Value.agg (Tie.enc a1).toArray)] w fun v w' => v = (Value.int .i64 r) ∧ Ch nb w w' := by
 have hS := hs
 have c0 : Ch nb w w := Ch.refl
 refine Ret.of (n := 15) (args := [_, _]) (rs := [.tmp 4]) Try.func48 rfl rfl rfl rfl ?_
 refine CW.seq (CW.region ?_)
 refine rl_boxA (cs := (Tie.enc a0)) rfl rfl ?_
 intro p1 w2 n3 k4
 have c0 := c0.then0 n3.ch
 refine rl_boxA (cs := (Tie.enc a1)) rfl rfl ?_
 intro p5 w6 n7 k8
 have k4 := k4.ch0 n7.ch
 have c0 := c0.then0 n7.ch
 refine rl_assign rfl rfl ?_
 refine RL.nil (thn_n (CW.seq ?_))
 obtain ⟨y11, hy12⟩ : ∃ y, F24_int a0.last a1.last = y := ⟨_, rfl⟩
 have hS := ltS hy12 hS
 obtain ⟨y15, hy16⟩ : ∃ y, F9_Compare a0 a1 = y := ⟨_, rfl⟩
 have hS := ltS hy16 hS
 obtain ⟨y24, hy25⟩ : ∃ y, F20_int [y11, y15] = y := ⟨_, rfl⟩
 have hS := ltS hy25 hS
 refine CW.draw 7 [(none, fun fx O uu wx => uu = (Value.pointer (some ⟨p1, 39, none⟩))), (none, fun fx O uu wx => uu = (Value.int .i64 a0.last)), (none, fun fx O uu wx => uu = (Value.pointer (some ⟨p5, 39, none⟩))), (none, fun fx O uu wx => uu = (Value.int .i64 a1.last)), (none, fun fx O uu wx => uu = (Value.int .i64 y11)), (none, fun fx O uu wx => uu = (Value.agg (Tie.enc a0).toArray)), (none, fun fx O uu wx => uu = (Value.agg (Tie.enc a1).toArray))] [[], [0], [], [2], [1, 3], [], []] [4, 5, 6] nb (fun _ h => h.elim) mixed rfl rfl rfl rfl ?_ ?_
 ·
  refine Each.consS (fun fl O wk hE hN hO ck => ?_) ?_
  ·
   refine rl_fieldAddr rfl fa30_5 rfl ?_
   exact RL.nil ⟨_, rfl, Ch.refl, rfl⟩
  refine Each.consS (fun fl O wk hE hN hO ck => ?_) ?_
  ·
   have k4 := k4.ch0 ck
   refine Need.o1 rfl rfl rfl (fun _ h => h) ?_
   refine rl_loadS (v := (Value.int .i64 a0.last)) rfl Try.isAgg3 (k4.cell rfl) rfl ?_
   exact RL.nil ⟨_, rfl, Ch.refl, rfl⟩
  refine Each.consS (fun fl O wk hE hN hO ck => ?_) ?_
  ·
   refine rl_fieldAddr rfl fa30_5 rfl ?_
   exact RL.nil ⟨_, rfl, Ch.refl, rfl⟩
  refine Each.consS (fun fl O wk hE hN hO ck => ?_) ?_
  ·
   have k8 := k8.ch0 ck
   refine Need.o1 rfl rfl rfl (fun _ h => h) ?_
   refine rl_loadS (v := (Value.int .i64 a1.last)) rfl Try.isAgg3 (k8.cell rfl) rfl ?_
   exact RL.nil ⟨_, rfl, Ch.refl, rfl⟩
  refine Each.consS (fun fl O wk hE hN hO ck => ?_) ?_
  ·
   refine Need.o1 rfl rfl rfl (fun _ h => h) ?_
   refine Need.o1 rfl rfl rfl (fun _ h => h) ?_
   refine rl_callF rfl en24 rfl (ctr24 (G F w.heap.size nb) wk a0.last a1.last y11 hy12) ?_
   rintro _ w30 ⟨rfl, c31⟩
   exact RL.nil ⟨_, rfl, c31, rfl⟩
  refine Each.consS (fun fl O wk hE hN hO ck => ?_) ?_
  ·
   have k4 := k4.ch0 ck
   refine rl_loadA (cs := (Tie.enc a0)) rfl Try.isAgg30 Try.sizeOf30 (k4.segAt 0 40) rfl rfl ?_
   exact RL.nil ⟨_, rfl, Ch.refl, rfl⟩
  refine Each.consS (fun fl O wk hE hN hO ck => ?_) ?_
  ·
   have k8 := k8.ch0 ck
   refine rl_loadA (cs := (Tie.enc a1)) rfl Try.isAgg30 Try.sizeOf30 (k8.segAt 0 40) rfl rfl ?_
   exact RL.nil ⟨_, rfl, Ch.refl, rfl⟩
  trivial
 intro hvO34 OpO34 O34 w32 hO35 c33 hN36
 have c0 := c0.then0 c33
 refine Need.o1 rfl rfl rfl (fun _ h => h) ?_
 refine Need.o1 rfl rfl rfl (fun _ h => h) ?_
 refine Need.o1 rfl rfl rfl (fun _ h => h) ?_
 refine rl_callF rfl en9 rfl (ctr9 (G F w.heap.size nb) w32 a0 a1 y15 hy16) ?_
 rintro _ w40 ⟨rfl, c41⟩
 have c0 := c0.then0 c41
 refine rl_bslice (k := (kInt .i64)) (F := F) (B := w.heap.size) (S := nb) ([y11, y15] : List Int) rfl kInt_pos Try.underlying83 Try.sizeOf3 Try.zeroValue3 rfl rfl ⟨rfl, rfl, ⟨rfl, rfl, trivial⟩⟩ c0.size nbS rfl ?_
 intro v42 w43 c44 hf45 h46
 have h46 := h46.readNew kInt_pos hf45 nbS
 have c0 := c0.then0 c44
 refine rl_callF rfl en20 rfl (ctr20 (G F w.heap.size nb) w43 [y11, y15] v42 h46 y24 hy25) ?_
 rintro _ w47 ⟨rfl, c48⟩
 have c0 := c0.then0 c48
 refine rl_assign rfl rfl ?_
 refine RL.nil (thn_n (CW.ret ?_))
 obtain rfl := hS
 exact ret1 rfl ⟨rfl, c0⟩
/-- (*lb/ties.Ties).Drop -/
theorem ctr29 (F : Nat → Prop) (w : World) (Bb : Nat) (S2 : Nat → Prop) (hB : Bb ≤ w.heap.size) (h2 : ∀ b, S2 b → b < w.heap.size) (po0 : Nat) (az0_0 : Value) (hd2 : ∀ b, (un (inBlk (PV po0)) (inBlk az0_0)) b → ¬ S2 b) (hx0_1 : ∀ b, inBlk (PV po0) b → ¬ inBlk az0_0 b) (a0 : Ties) (ah0 : Blk w po0 69 (Ties.c a0 az0_0)) (ah0_0 : Mp (fun x => Value.agg (Place.enc x).toArray) (fun x => Value.agg (Tie.enc x).toArray) w a0.all az0_0) (a1 : Tie) (r : (Bool × Ties)) (hs : F29_Drop a0 a1 = r) :
    Ret Try.prog 29 #[(PV po0), (Value.agg (Tie.enc a1).toArray)] w fun v w' => ∃ (nz0_0 : Value), v = (Value.bool r.1) ∧ Blk w' po0 69 (Ties.c r.2 nz0_0) ∧ Mp (fun x => Value.agg (Place.enc x).toArray) (fun x => Value.agg (Tie.enc x).toArray) w' r.2.all nz0_0 ∧ (∀ b, inBlk nz0_0 b → (un (inBlk (PV po0)) (inBlk az0_0)) b ∨ w.heap.size ≤ b) ∧ (∀ b, inBlk (PV po0) b → ¬ inBlk nz0_0 b) ∧ Ch (un (inBlk (PV po0)) (inBlk az0_0)) w w' := by
 have hS := hs
 have c0 : Ch (un (inBlk (PV po0)) (inBlk az0_0)) w w := Ch.refl
 have lin1_0 : ∀ b, inBlk az0_0 b → (un (inBlk (PV po0)) (inBlk az0_0)) b ∨ w.heap.size ≤ b := fun b h => .inl (.inr h)
 refine Ret.of (n := 24) (args := [_, _]) (rs := [.tmp 4]) Try.func29 rfl rfl rfl rfl ?_
 refine CW.seq (CW.region ?_)
 refine rl_boxA (cs := (Tie.enc a1)) rfl rfl ?_
 intro p1 w2 n3 k4
 have ah0 := ah0.ch0 n3.ch
 have ah0_0 := ah0_0.ch0 n3.ch
 have c0 := c0.then0 n3.ch
 refine rl_assign rfl rfl ?_
 refine RL.nil (thn_n (CW.seq ?_))
 obtain ⟨y7, hy8⟩ : ∃ y, F35_place a1 = y := ⟨_, rfl⟩
 have hS := ltS hy8 hS
 refine CW.draw 12 [(none, fun fx O uu wx => uu = (PV po0)), (none, fun fx O uu wx => uu = (PV po0)), (none, fun fx O uu wx => uu = (PV po0)), (none, fun fx O uu wx => uu = az0_0), (none, fun fx O uu wx => uu = (Value.agg (Tie.enc a1).toArray)), (none, fun fx O uu wx => uu = (Value.agg (Place.enc y7).toArray)), (none, fun fx O uu wx => uu = (Value.tuple #[(Value.agg (Tie.enc ((mget a0.all y7).getD Tie.z)).toArray), (Value.bool ((mget a0.all y7).isSome))])), (none, fun fx O uu wx => uu = (Value.tuple #[(Value.agg (Tie.enc ((mget a0.all y7).getD Tie.z)).toArray), (Value.bool ((mget a0.all y7).isSome))])), (none, fun fx O uu wx => uu = (Value.agg (Tie.enc ((mget a0.all y7).getD Tie.z)).toArray)), (none, fun fx O uu wx => uu = (Value.bool ((mget a0.all y7).isSome))), (some false, fun _ O uu wx => ∃ (p9 : Nat), uu = (PV p9) ∧ O = (inBlk (PV p9)) ∧ Blk wx p9 30 (Tie.enc Tie.z)), (some true, fun hv O uu wx => ∃ (p9 : Nat), hv = [(PV p9), undef] ∧ uu = undef ∧ O = (inBlk (PV p9)) ∧ Blk wx p9 30 (Tie.enc ((mget a0.all y7).getD Tie.z)))] [[], [0], [1], [2], [], [4], [3, 5], [6], [7], [7], [], [10, 8]] [11, 9] nb (fun _ h => h.elim) mixed rfl rfl rfl rfl ?_ ?_
 ·
  refine Each.consS (fun fl O wk hE hN hO ck => ?_) ?_
  ·
   refine rl_move rfl rfl ?_
   exact RL.nil ⟨_, rfl, Ch.refl, rfl⟩
  refine Each.consS (fun fl O wk hE hN hO ck => ?_) ?_
  ·
   refine Need.o1 rfl rfl rfl (fun _ h => h) ?_
   refine rl_nilCheck rfl rfl ?_
   exact RL.nil ⟨_, rfl, Ch.refl, rfl⟩
  refine Each.consS (fun fl O wk hE hN hO ck => ?_) ?_
  ·
   refine Need.o1 rfl rfl rfl (fun _ h => h) ?_
   refine rl_fieldAddr rfl fa69_0 rfl ?_
   exact RL.nil ⟨_, rfl, Ch.refl, rfl⟩
  refine Each.consS (fun fl O wk hE hN hO ck => ?_) ?_
  ·
   have ah0 := ah0.ch0 ck
   refine Need.o1 rfl rfl rfl (fun _ h => h) ?_
   refine rl_loadS (v := az0_0) rfl Try.isAgg67 (ah0.cell rfl) rfl ?_
   exact RL.nil ⟨_, rfl, Ch.refl, rfl⟩
  refine Each.consS (fun fl O wk hE hN hO ck => ?_) ?_
  ·
   have k4 := k4.ch0 ck
   refine rl_loadA (cs := (Tie.enc a1)) rfl Try.isAgg30 Try.sizeOf30 (k4.segAt 0 40) rfl rfl ?_
   exact RL.nil ⟨_, rfl, Ch.refl, rfl⟩
  refine Each.consS (fun fl O wk hE hN hO ck => ?_) ?_
  ·
   refine Need.o1 rfl rfl rfl (fun _ h => h) ?_
   refine rl_callF rfl en35 rfl (ctr35 (G F Bb (un O (un (inBlk (PV po0)) (un (inBlk az0_0) S2)))) wk a1 y7 hy8) ?_
   rintro _ w43 ⟨rfl, c44⟩
   exact RL.nil ⟨_, rfl, c44, rfl⟩
  refine Each.consS (fun fl O wk hE hN hO ck => ?_) ?_
  ·
   have ah0_0 := ah0_0.ch0 ck
   refine Need.o1 rfl rfl rfl (fun _ h => h) ?_
   refine Need.o1 rfl rfl rfl (fun _ h => h) ?_
   refine rl_lookup2 y7 Tie.z rfl rfl ah0_0 rfl kt79 Try.underlying67 Try.zeroValue30 rfl ?_
   exact RL.nil ⟨_, rfl, Ch.refl, rfl⟩
  refine Each.consS (fun fl O wk hE hN hO ck => ?_) ?_
  ·
   refine Need.o1 rfl rfl rfl (fun _ h => h) ?_
   refine rl_move rfl rfl ?_
   exact RL.nil ⟨_, rfl, Ch.refl, rfl⟩
  refine Each.consS (fun fl O wk hE hN hO ck => ?_) ?_
  ·
   refine Need.o1 rfl rfl rfl (fun _ h => h) ?_
   refine rl_extract rfl rfl rfl ?_
   exact RL.nil ⟨_, rfl, Ch.refl, rfl⟩
  refine Each.consS (fun fl O wk hE hN hO ck => ?_) ?_
  ·
   refine Need.o1 rfl rfl rfl (fun _ h => h) ?_
   refine rl_extract rfl rfl rfl ?_
   exact RL.nil ⟨_, rfl, Ch.refl, rfl⟩
  refine Each.consP ⟨fun _ O _ wx wy cc hh => by obtain ⟨p9, e, rfl, ck10_0⟩ := hh; exact ⟨p9, e, rfl, ck10_0.ch0 cc⟩, fun O wk hO ck => ?_⟩ ?_
  ·
   refine rl_alloc (Tie.enc Tie.z) Try.zeroValue30 rfl rfl ?_
   intro p65 w66 n67 k68
   have hb73 : ∀ b, (inBlk (PV p65)) b → wk.heap.size ≤ b ∧ b < w66.heap.size := fun b h => ⟨n67.fresh b h, k68.ltp b h⟩
   exact RL.nil ⟨_, (inBlk (PV p65)), rfl, hb73, n67.ch, ⟨p65, rfl, rfl, k68⟩⟩
  refine Each.consO ⟨fun _ O _ wx wy cc hh => by obtain ⟨p9, eh, e, rfl, ck11_0⟩ := hh; exact ⟨p9, eh, e, rfl, ck11_0.ch0 cc⟩, fun hv Op O wk hO ck hO0 => ?_⟩ ?_
  ·
   obtain ⟨hl, hBg⟩ := hO0 rfl
   refine Need.made rfl rfl rfl rfl ?_
   rintro _ ⟨p9, e74, eO75, ck10_0⟩ hh76
   obtain rfl := e74.symm
   have io77 : ∀ b, inBlk (PV p9) b → _ := fun b h => (Eq.mpr (congrFun eO75 b) h)
   obtain rfl := hist_eq [(PV p9)] hv hl ⟨hh76, trivial⟩
   refine Need.o1 rfl rfl rfl (fun _ h => h) ?_
   refine rl_storeA (vs := (Tie.enc ((mget a0.all y7).getD Tie.z))) rfl rfl (all_one rfl) Try.sizeOf30 rfl ck10_0 rfl ?_
   intro w84 s86 c85 k87
   have hb89 : ∀ b, (inBlk (PV p9)) b → (O b ∨ wk.heap.size ≤ b) ∧ b < w84.heap.size := fun b h => ⟨.inl ((hBg.1 b).2 (.inr ⟨_, inPre rfl, io77 b h⟩)), k87.ltp b h⟩
   exact RL.nil ⟨_, (inBlk (PV p9)), rfl, hb89, (c85.mono (fun b _ h => ((hBg.1 b).2 (.inr ⟨_, inPre rfl, io77 b h⟩)))), ⟨p9, rfl, rfl, rfl, k87⟩⟩
  trivial
 intro hvO92 OpO92 O92 w90 hO93 c91 hN94
 refine Need.hereN rfl rfl rfl rfl ?_
 rintro ⟨p9, rfl, _, rfl, ck11_0⟩
 have ah0 := ah0.ch0 c91
 have ah0_0 := ah0_0.ch0 c91
 have k4 := k4.ch0 c91
 have c0 := c0.then0 c91
 refine Need.o1 rfl rfl rfl (fun _ h => h) ?_
 refine rl_assign rfl rfl ?_
 refine RL.nil (thn_n (CW.seq ?_))
 obtain ⟨y105, hy106⟩ : ∃ y, F35_place a1 = y := ⟨_, rfl⟩
 have hS := ltS hy106 hS
 refine CW.draw 6 [(none, fun fx O uu wx => uu = (PV po0)), (none, fun fx O uu wx => uu = (PV po0)), (none, fun fx O uu wx => uu = (PV po0)), (none, fun fx O uu wx => uu = az0_0), (none, fun fx O uu wx => uu = (Value.agg (Tie.enc a1).toArray)), (none, fun fx O uu wx => uu = (Value.agg (Place.enc y105).toArray))] [[], [0], [1], [2], [], [4]] [3, 5] nb (fun _ h => h.elim) mixed rfl rfl rfl rfl ?_ ?_
 ·
  refine Each.consS (fun fl O wk hE hN hO ck => ?_) ?_
  ·
   refine rl_move rfl rfl ?_
   exact RL.nil ⟨_, rfl, Ch.refl, rfl⟩
  refine Each.consS (fun fl O wk hE hN hO ck => ?_) ?_
  ·
   refine Need.o1 rfl rfl rfl (fun _ h => h) ?_
   refine rl_nilCheck rfl rfl ?_
   exact RL.nil ⟨_, rfl, Ch.refl, rfl⟩
  refine Each.consS (fun fl O wk hE hN hO ck => ?_) ?_
  ·
   refine Need.o1 rfl rfl rfl (fun _ h => h) ?_
   refine rl_fieldAddr rfl fa69_0 rfl ?_
   exact RL.nil ⟨_, rfl, Ch.refl, rfl⟩
  refine Each.consS (fun fl O wk hE hN hO ck => ?_) ?_
  ·
   have ah0 := ah0.ch0 ck
   refine Need.o1 rfl rfl rfl (fun _ h => h) ?_
   refine rl_loadS (v := az0_0) rfl Try.isAgg67 (ah0.cell rfl) rfl ?_
   exact RL.nil ⟨_, rfl, Ch.refl, rfl⟩
  refine Each.consS (fun fl O wk hE hN hO ck => ?_) ?_
  ·
   have k4 := k4.ch0 ck
   refine rl_loadA (cs := (Tie.enc a1)) rfl Try.isAgg30 Try.sizeOf30 (k4.segAt 0 40) rfl rfl ?_
   exact RL.nil ⟨_, rfl, Ch.refl, rfl⟩
  refine Each.consS (fun fl O wk hE hN hO ck => ?_) ?_
  ·
   refine Need.o1 rfl rfl rfl (fun _ h => h) ?_
   refine rl_callF rfl en35 rfl (ctr35 (G F Bb (un (inBlk (PV p9)) (un (inBlk (PV po0)) (un (inBlk az0_0) S2)))) wk a1 y105 hy106) ?_
   rintro _ w115 ⟨rfl, c116⟩
   exact RL.nil ⟨_, rfl, c116, rfl⟩
  trivial
 intro hvO119 OpO119 O119 w117 hO120 c118 hN121
 have ah0 := ah0.ch0 c118
 have ah0_0 := ah0_0.ch0 c118
 have c0 := c0.then0 c118
 refine Need.o1 rfl rfl rfl (fun _ h => h) ?_
 refine Need.o1 rfl rfl rfl (fun _ h => h) ?_
 refine rl_delete y105 rfl rfl ah0_0 rfl kt79 Try.underlying67 ?_
 intro w124 c125 h126
 have ah0 := ah0.ch c125 ((fun b hb h => hx0_1 b hb h) _ rfl)
 have c0 := c0.then c125 (fun i hi h => (lin1_0 i h).elim (fun x => x) (fun x => absurd x (Nat.not_le_of_lt hi)))
 refine RL.nil (thn_n (CW.seq (CW.region ?_)))
 refine rl_move rfl rfl ?_
 refine rl_assign rfl rfl ?_
 refine RL.nil (thn_n (CW.ret ?_))
 obtain rfl := hS
 have crf : Ch nb w124 w124 := Ch.refl
 have ah0 := ah0.ch0 crf
 have h126 := h126.ch0 crf
 have c0 := c0.then0 crf
 exact ret1 rfl ⟨az0_0, rfl, ah0, h126, lin1_0, hx0_1, c0⟩
/-- (*lb/ties.Ties).evict -/
theorem ctr37 (F : Nat → Prop) (w : World) (Bb : Nat) (S2 : Nat → Prop) (hB : Bb ≤ w.heap.size) (h2 : ∀ b, S2 b → b < w.heap.size) (po0 : Nat) (az0_0 : Value) (hd2 : ∀ b, (un (inBlk (PV po0)) (inBlk az0_0)) b → ¬ S2 b) (hx0_1 : ∀ b, inBlk (PV po0) b → ¬ inBlk az0_0 b) (a0 : Ties) (ah0 : Blk w po0 69 (Ties.c a0 az0_0)) (ah0_0 : Mp (fun x => Value.agg (Place.enc x).toArray) (fun x => Value.agg (Tie.enc x).toArray) w a0.all az0_0) (a1 : Place) (r : (Tie × Bool × Ties)) (hs : F37_evict a0 a1 = some r) :
    Ret Try.prog 37 #[(PV po0), (Value.agg (Place.enc a1).toArray)] w fun v w' => ∃ (nz0_0 : Value), v = Value.tuple #[(Value.agg (Tie.enc r.1).toArray), (Value.bool r.2.1)] ∧ Blk w' po0 69 (Ties.c r.2.2 nz0_0) ∧ Mp (fun x => Value.agg (Place.enc x).toArray) (fun x => Value.agg (Tie.enc x).toArray) w' r.2.2.all nz0_0 ∧ (∀ b, inBlk nz0_0 b → (un (inBlk (PV po0)) (inBlk az0_0)) b ∨ w.heap.size ≤ b) ∧ (∀ b, inBlk (PV po0) b → ¬ inBlk nz0_0 b) ∧ Ch (un (inBlk (PV po0)) (inBlk az0_0)) w w' := by
 have hS := hs
 have c0 : Ch (un (inBlk (PV po0)) (inBlk az0_0)) w w := Ch.refl
 have lin0_0 : ∀ b, inBlk (PV po0) b → (un (inBlk (PV po0)) (inBlk az0_0)) b ∨ w.heap.size ≤ b := fun b h => .inl (.inl h)
 have lin1_0 : ∀ b, inBlk az0_0 b → (un (inBlk (PV po0)) (inBlk az0_0)) b ∨ w.heap.size ≤ b := fun b h => .inl (.inr h)
 refine Ret.of (n := 39) (args := [_, _]) (rs := [.cell 4 30, .tmp 5]) Try.func37 rfl rfl rfl rfl ?_
 refine CW.seq (CW.region ?_)
 refine rl_boxA (cs := (Place.enc a1)) rfl rfl ?_
 intro p1 w2 n3 k4
 have gp1 : (G F Bb (un (inBlk (PV po0)) (un (inBlk az0_0) S2))) p1 := ⟨.inr (by rw [n3.eq]; exact (Nat.le_trans hB c0.size)), fun h => absurd ((un_lt ah0.ltp (un_lt ah0_0.ltp (fun b h => Nat.lt_of_lt_of_le (h2 b h) c0.size))) _ h) (by rw [n3.eq]; exact Nat.lt_irrefl _)⟩
 have ah0 := ah0.ch0 n3.ch
 have ah0_0 := ah0_0.ch0 n3.ch
 have c0 := c0.then0 n3.ch
 refine rl_alloc (Tie.enc Tie.z) Try.zeroValue30 rfl rfl ?_
 intro p5 w6 n7 k8
 have lo9 : ∀ b, inBlk (PV p5) b → w.heap.size ≤ b := fun b h => Nat.le_trans c0.size (n7.fresh b h)
 have d10 : ∀ b, inBlk (PV p5) b → ¬ inBlk (PV po0) b := disNew n7.fresh ah0.ltp
 have d11 : ∀ b, inBlk (PV p5) b → ¬ inBlk az0_0 b := disNew n7.fresh ah0_0.ltp
 have ah0 := ah0.ch0 n7.ch
 have ah0_0 := ah0_0.ch0 n7.ch
 have gp1n : (G F Bb (un (inBlk (PV p5)) (un (inBlk (PV po0)) (un (inBlk az0_0) S2)))) p1 := ⟨gp1.1, ((admNew n7.fresh (fun _ x => x)) _ k4.lt gp1.2).2⟩
 have k4 := k4.ch0 n7.ch
 have gp1 := gp1n
 have c0 := c0.then0 n7.ch
 refine rl_assign rfl rfl ?_
 refine RL.nil (thn_n (CW.seq ?_))
 refine CW.seq ?_
 refine CW.draw 11 [(none, fun fx O uu wx => uu = (PV po0)), (none, fun fx O uu wx => uu = (PV po0)), (none, fun fx O uu wx => uu = (PV po0)), (none, fun fx O uu wx => uu = az0_0), (none, fun fx O uu wx => uu = (Value.agg (Place.enc a1).toArray)), (none, fun fx O uu wx => uu = (Value.tuple #[(Value.agg (Tie.enc ((mget a0.all a1).getD Tie.z)).toArray), (Value.bool ((mget a0.all a1).isSome))])), (none, fun fx O uu wx => uu = (Value.tuple #[(Value.agg (Tie.enc ((mget a0.all a1).getD Tie.z)).toArray), (Value.bool ((mget a0.all a1).isSome))])), (none, fun fx O uu wx => uu = (Value.agg (Tie.enc ((mget a0.all a1).getD Tie.z)).toArray)), (none, fun fx O uu wx => uu = (Value.bool ((mget a0.all a1).isSome))), (some false, fun _ O uu wx => ∃ (p12 : Nat), uu = (PV p12) ∧ O = (inBlk (PV p12)) ∧ Blk wx p12 30 (Tie.enc Tie.z)), (some true, fun hv O uu wx => ∃ (p12 : Nat), hv = [(PV p12), undef] ∧ uu = undef ∧ O = (inBlk (PV p12)) ∧ Blk wx p12 30 (Tie.enc ((mget a0.all a1).getD Tie.z)))] [[], [0], [1], [2], [], [3, 4], [5], [6], [6], [], [9, 7]] [10, 8] nb (fun _ h => h.elim) mixed rfl rfl rfl rfl ?_ ?_
 ·
  refine Each.consS (fun fl O wk hE hN hO ck => ?_) ?_
  ·
   refine rl_move rfl rfl ?_
   exact RL.nil ⟨_, rfl, Ch.refl, rfl⟩
  refine Each.consS (fun fl O wk hE hN hO ck => ?_) ?_
  ·
   refine Need.o1 rfl rfl rfl (fun _ h => h) ?_
   refine rl_nilCheck rfl rfl ?_
   exact RL.nil ⟨_, rfl, Ch.refl, rfl⟩
  refine Each.consS (fun fl O wk hE hN hO ck => ?_) ?_
  ·
   refine Need.o1 rfl rfl rfl (fun _ h => h) ?_
   refine rl_fieldAddr rfl fa69_0 rfl ?_
   exact RL.nil ⟨_, rfl, Ch.refl, rfl⟩
  refine Each.consS (fun fl O wk hE hN hO ck => ?_) ?_
  ·
   have ah0 := ah0.ch0 ck
   refine Need.o1 rfl rfl rfl (fun _ h => h) ?_
   refine rl_loadS (v := az0_0) rfl Try.isAgg67 (ah0.cell rfl) rfl ?_
   exact RL.nil ⟨_, rfl, Ch.refl, rfl⟩
  refine Each.consS (fun fl O wk hE hN hO ck => ?_) ?_
  ·
   have k4 := k4.ch0 ck
   refine rl_loadA (cs := (Place.enc a1)) rfl Try.isAgg79 Try.sizeOf79 (k4.segAt 0 21) rfl rfl ?_
   exact RL.nil ⟨_, rfl, Ch.refl, rfl⟩
  refine Each.consS (fun fl O wk hE hN hO ck => ?_) ?_
  ·
   have ah0_0 := ah0_0.ch0 ck
   refine Need.o1 rfl rfl rfl (fun _ h => h) ?_
   refine Need.o1 rfl rfl rfl (fun _ h => h) ?_
   refine rl_lookup2 a1 Tie.z rfl rfl ah0_0 rfl kt79 Try.underlying67 Try.zeroValue30 rfl ?_
   exact RL.nil ⟨_, rfl, Ch.refl, rfl⟩
  refine Each.consS (fun fl O wk hE hN hO ck => ?_) ?_
  ·
   refine Need.o1 rfl rfl rfl (fun _ h => h) ?_
   refine rl_move rfl rfl ?_
   exact RL.nil ⟨_, rfl, Ch.refl, rfl⟩
  refine Each.consS (fun fl O wk hE hN hO ck => ?_) ?_
  ·
   refine Need.o1 rfl rfl rfl (fun _ h => h) ?_
   refine rl_extract rfl rfl rfl ?_
   exact RL.nil ⟨_, rfl, Ch.refl, rfl⟩
  refine Each.consS (fun fl O wk hE hN hO ck => ?_) ?_
  ·
   refine Need.o1 rfl rfl rfl (fun _ h => h) ?_
   refine rl_extract rfl rfl rfl ?_
   exact RL.nil ⟨_, rfl, Ch.refl, rfl⟩
  refine Each.consP ⟨fun _ O _ wx wy cc hh => by obtain ⟨p12, e, rfl, ck9_0⟩ := hh; exact ⟨p12, e, rfl, ck9_0.ch0 cc⟩, fun O wk hO ck => ?_⟩ ?_
  ·
   refine rl_alloc (Tie.enc Tie.z) Try.zeroValue30 rfl rfl ?_
   intro p73 w74 n75 k76
   have hb82 : ∀ b, (inBlk (PV p73)) b → wk.heap.size ≤ b ∧ b < w74.heap.size := fun b h => ⟨n75.fresh b h, k76.ltp b h⟩
   exact RL.nil ⟨_, (inBlk (PV p73)), rfl, hb82, n75.ch, ⟨p73, rfl, rfl, k76⟩⟩
  refine Each.consO ⟨fun _ O _ wx wy cc hh => by obtain ⟨p12, eh, e, rfl, ck10_0⟩ := hh; exact ⟨p12, eh, e, rfl, ck10_0.ch0 cc⟩, fun hv Op O wk hO ck hO0 => ?_⟩ ?_
  ·
   obtain ⟨hl, hBg⟩ := hO0 rfl
   refine Need.made rfl rfl rfl rfl ?_
   rintro _ ⟨p12, e83, eO84, ck9_0⟩ hh85
   obtain rfl := e83.symm
   have io86 : ∀ b, inBlk (PV p12) b → _ := fun b h => (Eq.mpr (congrFun eO84 b) h)
   obtain rfl := hist_eq [(PV p12)] hv hl ⟨hh85, trivial⟩
   refine Need.o1 rfl rfl rfl (fun _ h => h) ?_
   refine rl_storeA (vs := (Tie.enc ((mget a0.all a1).getD Tie.z))) rfl rfl (all_one rfl) Try.sizeOf30 rfl ck9_0 rfl ?_
   intro w94 s96 c95 k97
   have hb99 : ∀ b, (inBlk (PV p12)) b → (O b ∨ wk.heap.size ≤ b) ∧ b < w94.heap.size := fun b h => ⟨.inl ((hBg.1 b).2 (.inr ⟨_, inPre rfl, io86 b h⟩)), k97.ltp b h⟩
   exact RL.nil ⟨_, (inBlk (PV p12)), rfl, hb99, (c95.mono (fun b _ h => ((hBg.1 b).2 (.inr ⟨_, inPre rfl, io86 b h⟩)))), ⟨p12, rfl, rfl, rfl, k97⟩⟩
  trivial
 intro hvO102 OpO102 O102 w100 hO103 c101 hN104
 have ol106 : ∀ b, inBlk (PV po0) b → b < w6.heap.size := ah0.ltp
 have ol107 : ∀ b, inBlk az0_0 b → b < w6.heap.size := ah0_0.ltp
 refine Need.hereN rfl rfl rfl rfl ?_
 rintro ⟨p12, rfl, _, rfl, ck10_0⟩
 have d111 : ∀ b, inBlk (PV p12) b → ¬ inBlk (PV po0) b := fun b h hu => (hO103 b h).1.elim (fun h => h.elim) (fun h => Nat.not_le_of_lt (ol106 b hu) h)
 have d112 : ∀ b, inBlk (PV p12) b → ¬ inBlk az0_0 b := fun b h hu => (hO103 b h).1.elim (fun h => h.elim) (fun h => Nat.not_le_of_lt (ol107 b hu) h)
 have ha113 : ∀ b, b < w6.heap.size → ¬ (un (inBlk (PV p5)) (un (inBlk (PV po0)) (un (inBlk az0_0) S2))) b → ¬ nb b ∧ ¬ (un (inBlk (PV p12)) (un (inBlk (PV p5)) (un (inBlk (PV po0)) (un (inBlk az0_0) S2)))) b := fun b hb hs => ⟨fun h => h.elim, fun h => un_el h (fun h => (hO103 b h).1.elim (fun h => h.elim) (fun h => Nat.not_le_of_lt hb h)) (fun h => un_el h (fun h => hs (.inl h)) (fun h => un_el h (fun h => hs (.inr (.inl h))) (fun h => un_el h (fun h => hs (.inr (.inr (.inl h)))) (fun h => hs (.inr (.inr (.inr h)))))))⟩
 have ah0 := ah0.ch0 c101
 have ah0_0 := ah0_0.ch0 c101
 have gp1n : (G F Bb (un (inBlk (PV p12)) (un (inBlk (PV p5)) (un (inBlk (PV po0)) (un (inBlk az0_0) S2))))) p1 := ⟨gp1.1, (ha113 _ k4.lt gp1.2).2⟩
 have k4 := k4.ch0 c101
 have gp1 := gp1n
 have k8 := k8.ch0 c101
 have c0 := c0.then0 c101
 refine Need.o1 rfl rfl rfl (fun _ h => h) ?_
 refine rl_assign rfl rfl ?_
 refine RL.nil (thn_n (CW.seq (CW.region ?_)))
 refine rl_move rfl rfl ?_
 refine rl_move rfl rfl ?_
 obtain ⟨b117, hb118⟩ : ∃ v, (((mget a0.all a1).isSome) || (decide (((a0.all.length : Nat) : Int) < 16))) = v := ⟨_, rfl⟩
 have hS := ltS hb118 hS
 refine RL.join 7 26 (.bool b117) (fun w' => Ch nb w100 w') ?_ ?_
 · rcases Bool.eq_false_or_eq_true ((mget a0.all a1).isSome) with hg116 | hg116
   ·
    have hs115 := or_t hg116 hb118
    have cs : Ch nb w100 w100 := Ch.refl
    refine RL.no rfl rfl rfl hg116 rfl rfl ?_
    refine RL.no rfl rfl rfl hg116 rfl rfl ?_
    refine RL.no rfl rfl rfl hg116 rfl rfl ?_
    refine RL.no rfl rfl rfl hg116 rfl rfl ?_
    refine RL.no rfl rfl rfl hg116 rfl rfl ?_
    refine RL.no rfl rfl rfl hg116 rfl rfl ?_
    refine rl_pickT rfl hg116 rfl rfl ?_
    exact RL.nil ⟨Ext.bothEq (congrArg Value.bool hs115) (Ext.skip rfl (Ext.skip rfl (Ext.skip rfl (Ext.skip rfl (Ext.skip rfl (Ext.skip rfl (Ext.rfl'))))))), cs⟩
   ·
    have hs115 := or_f hg116 hb118
    have cs : Ch nb w100 w100 := Ch.refl
    refine RL.yes rfl rfl rfl hg116 ?_
    refine rl_move rfl rfl ?_
    refine RL.yes rfl rfl rfl hg116 ?_
    refine rl_nilCheck rfl rfl ?_
    refine RL.yes rfl rfl rfl hg116 ?_
    refine rl_fieldAddr rfl fa69_0 rfl ?_
    refine RL.yes rfl rfl rfl hg116 ?_
    refine rl_loadS (v := az0_0) rfl Try.isAgg67 (ah0.cell rfl) rfl ?_
    refine RL.yes rfl rfl rfl hg116 ?_
    refine rl_lenMap rfl ah0_0 Try.underlying67 rfl ?_
    refine RL.yes rfl rfl rfl hg116 ?_
    refine rl_bin rfl rfl B.lss rfl ?_
    refine rl_pickF rfl hg116 rfl rfl ?_
    exact RL.nil ⟨Ext.bothEq (congrArg Value.bool hs115) (Ext.skip rfl (Ext.skip rfl (Ext.skip rfl (Ext.skip rfl (Ext.skip rfl (Ext.skip rfl (Ext.rfl'))))))), cs⟩
 intro w119 c120
 have ah0 := ah0.ch0 c120
 have ah0_0 := ah0_0.ch0 c120
 have k4 := k4.ch0 c120
 have k8 := k8.ch0 c120
 have ck10_0 := ck10_0.ch0 c120
 have c0 := c0.then0 c120
 refine RL.nil (thn_n ?_)
 refine CW.cond (t := b117) rfl (fun q121 => ?_) (fun q121 => ?_)
 ·
  have hS := ifT q121 hS
  refine CW.seq (CW.region ?_)
  refine rl_build (out := (Tie.enc ({ client := Addr.z, service := Key.z, name := ⟨#[]⟩, localF := false, backend := Point.z, last := 0 } : Tie))) rfl pl30 Try.zeroValue30 rfl rfl rfl ?_
  refine rl_storeA (vs := (Tie.enc ({ client := Addr.z, service := Key.z, name := ⟨#[]⟩, localF := false, backend := Point.z, last := 0 } : Tie))) rfl rfl (all_one rfl) Try.sizeOf30 rfl k8 rfl ?_
  intro w122 s124 c123 k125
  have ah0 := ah0.ch c123 ((fun b hb h => (disSym d10) b hb h) _ rfl)
  have ah0_0 := ah0_0.ch c123 ((fun b hb h => (disSym d11) b hb h))
  have c0 := c0.then c123 (fun i hi h => absurd (lo9 i h) (Nat.not_le_of_lt hi))
  refine rl_assign rfl rfl ?_
  refine RL.nil (thn_n (CW.ret ?_))
  refine thn_ret ?_
  obtain rfl := Option.some.inj hS
  have crf : Ch nb w122 w122 := Ch.refl
  have ah0 := ah0.ch0 crf
  have ah0_0 := ah0_0.ch0 crf
  have k125 := k125.ch0 crf
  have c0 := c0.then0 crf
  have crf : Ch nb w122 w122 := Ch.refl
  have ah0 := ah0.ch0 crf
  have ah0_0 := ah0_0.ch0 crf
  have c0 := c0.then0 crf
  exact ⟨[_, _], ⟨Res1.agg (cs := (Tie.enc ({ client := Addr.z, service := Key.z, name := ⟨#[]⟩, localF := false, backend := Point.z, last := 0 } : Tie))) rfl Try.isAgg30 Try.sizeOf30 (k125.segAt 0 40) rfl, rfl, trivial⟩, ⟨az0_0, rfl, ah0, ah0_0, lin1_0, hx0_1, c0⟩⟩
 have hS := ifF q121 hS
 refine CW.skip ?_
 refine thn_n (CW.seq (CW.region ?_))
 refine rl_move rfl rfl ?_
 refine rl_nilCheck rfl rfl ?_
 refine rl_fieldAddr rfl fa69_0 rfl ?_
 refine rl_loadS (v := az0_0) rfl Try.isAgg67 (ah0.cell rfl) rfl ?_
 refine rl_callF rfl en34 rfl (ctr34 ah0_0.n) ?_
 rintro u129 w130 ⟨h131, c132⟩
 have ah0 := ah0.ch0 c132
 have ah0_0 := ah0_0.ch0 c132
 have k4 := k4.ch0 c132
 have k8 := k8.ch0 c132
 have ck10_0 := ck10_0.ch0 c132
 have c0 := c0.then0 c132
 refine rl_callF rfl en43 rfl (ctr43 (F := (G F Bb (un (inBlk (PV p12)) (un (inBlk (PV p5)) (un (inBlk (PV po0)) (un (inBlk az0_0) S2)))))) h131 (anyPerm_lt hS)) ?_
 rintro v135 w136 ⟨ys133, hp134, h137, c138⟩
 have hS := anyPerm_el hS hp134
 have h137 := SlO.backR k_Tie_pos h137 (un_lt ck10_0.ltp (un_lt k8.ltp (un_lt ah0.ltp (un_lt ah0_0.ltp (fun b h => Nat.lt_of_lt_of_le (h2 b h) c0.size))))) (Nat.le_trans hB c0.size)
 have ah0 := ah0.ch0 c138
 have ah0_0 := ah0_0.ch0 c138
 have k4 := k4.ch0 c138
 have k8 := k8.ch0 c138
 have ck10_0 := ck10_0.ch0 c138
 have c0 := c0.then0 c138
 obtain ⟨y141, hy142, hS⟩ := bindS hS
 refine rl_callF rfl en47 rfl (ctr47 (G F Bb (un (inBlk (PV p12)) (un (inBlk (PV p5)) (un (inBlk (PV po0)) (un (inBlk az0_0) S2))))) w136 ys133 v135 h137 (fun x0 x1 => F48_elder x0 x1) (Value.func (.func 48) #[] [].toArray) (show (Kd.fn2 Try.prog true true k_Tie k_Tie (Value.int .i64)).rep (G F Bb (un (inBlk (PV p12)) (un (inBlk (PV p5)) (un (inBlk (PV po0)) (un (inBlk az0_0) S2))))) w136 (fun x0 x1 => F48_elder x0 x1) [(Value.func (.func 48) #[] [].toArray)] from ⟨48, [], rfl, en48, fun w' hw F' x0 x1 c0 c1 hx0 hx1 => by
     obtain rfl := hx0
     obtain rfl := hx1
     exact (ctr48 (fun b => (G F Bb (un (inBlk (PV p12)) (un (inBlk (PV p5)) (un (inBlk (PV po0)) (un (inBlk az0_0) S2))))) b ∨ F' b) w' x0 x1 _ rfl).mono (by rintro v w'' ⟨rfl, c⟩; exact ⟨rfl, c⟩)⟩) y141 hy142) ?_
 rintro _ w139 ⟨rfl, c140⟩
 have ah0 := ah0.ch0 c140
 have ah0_0 := ah0_0.ch0 c140
 have k4 := k4.ch0 c140
 have k8 := k8.ch0 c140
 have ck10_0 := ck10_0.ch0 c140
 have h137 := slRep.ch k_Tie_pos h137 c140
 have c0 := c0.then0 c140
 refine rl_alloc (Tie.enc Tie.z) Try.zeroValue30 rfl rfl ?_
 intro p143 w144 n145 k146
 have lo147 : ∀ b, inBlk (PV p143) b → w.heap.size ≤ b := fun b h => Nat.le_trans c0.size (n145.fresh b h)
 have d148 : ∀ b, inBlk (PV p143) b → ¬ inBlk (PV p12) b := disNew n145.fresh ck10_0.ltp
 have d149 : ∀ b, inBlk (PV p143) b → ¬ inBlk (PV p5) b := disNew n145.fresh k8.ltp
 have d150 : ∀ b, inBlk (PV p143) b → ¬ inBlk (PV po0) b := disNew n145.fresh ah0.ltp
 have d151 : ∀ b, inBlk (PV p143) b → ¬ inBlk az0_0 b := disNew n145.fresh ah0_0.ltp
 have ah0 := ah0.ch0 n145.ch
 have ah0_0 := ah0_0.ch0 n145.ch
 have gp1n : (G F Bb (un (inBlk (PV p143)) (un (inBlk (PV p12)) (un (inBlk (PV p5)) (un (inBlk (PV po0)) (un (inBlk az0_0) S2)))))) p1 := ⟨gp1.1, ((admNew n145.fresh (fun _ x => x)) _ k4.lt gp1.2).2⟩
 have gp1 := gp1n
 have k8 := k8.ch0 n145.ch
 have ck10_0 := ck10_0.ch0 n145.ch
 have h137 := slRep.st k_Tie_pos h137 n145.ch (admNew n145.fresh (fun _ x => x))
 have c0 := c0.then0 n145.ch
 refine rl_storeA (vs := (Tie.enc y141)) rfl rfl (all_one rfl) Try.sizeOf30 rfl k146 rfl ?_
 intro w152 s154 c153 k155
 have ad156 : ∀ b, b < w144.heap.size → ¬ (un (inBlk (PV p143)) (un (inBlk (PV p12)) (un (inBlk (PV p5)) (un (inBlk (PV po0)) (un (inBlk az0_0) S2))))) b → ¬ (inBlk (PV p143)) b ∧ ¬ (un (inBlk (PV p143)) (un (inBlk (PV p12)) (un (inBlk (PV p5)) (un (inBlk (PV po0)) (un (inBlk az0_0) S2))))) b := fun b _ hs => ⟨fun h => hs (.inl h), hs⟩
 have ah0 := ah0.ch c153 ((fun b hb h => (disSym d150) b hb h) _ rfl)
 have ah0_0 := ah0_0.ch c153 ((fun b hb h => (disSym d151) b hb h))
 have k8 := k8.ch c153 ((fun b hb h => (disSym d149) b hb h) _ rfl)
 have ck10_0 := ck10_0.ch c153 ((fun b hb h => (disSym d148) b hb h) _ rfl)
 have h137 := slRep.st k_Tie_pos h137 c153 ad156
 have c0 := c0.then c153 (fun i hi h => absurd (lo147 i h) (Nat.not_le_of_lt hi))
 refine RL.nil (thn_n (CW.seq ?_))
 have hS179 : (un (inBlk (PV p143)) (un (inBlk (PV p12)) (un (inBlk (PV p5)) (un (inBlk (PV po0)) (un (inBlk az0_0) S2))))) = (un (inBlk (PV po0)) (un (inBlk az0_0) (un (inBlk (PV p143)) (un (inBlk (PV p12)) (un (inBlk (PV p5)) S2))))) := funext fun b => propext ⟨fun h => un_el h (fun h => (.inr (.inr (.inl h)))) (fun h => un_el h (fun h => (.inr (.inr (.inr (.inl h))))) (fun h => un_el h (fun h => (.inr (.inr (.inr (.inr (.inl h)))))) (fun h => un_el h (fun h => (.inl h)) (fun h => un_el h (fun h => (.inr (.inl h))) (fun h => (.inr (.inr (.inr (.inr (.inr h)))))))))), fun h => un_el h (fun h => (.inr (.inr (.inr (.inl h))))) (fun h => un_el h (fun h => (.inr (.inr (.inr (.inr (.inl h)))))) (fun h => un_el h (fun h => (.inl h)) (fun h => un_el h (fun h => (.inr (.inl h))) (fun h => un_el h (fun h => (.inr (.inr (.inl h)))) (fun h => (.inr (.inr (.inr (.inr (.inr h))))))))))⟩
 rw [hS179] at h137 gp1
 obtain ⟨y161, hy162⟩ : ∃ y, F29_Drop a0 y141 = y := ⟨_, rfl⟩
 have hS := ltS hy162 hS
 refine CW.draw 4 [(none, fun fx O uu wx => uu = (Value.agg (Tie.enc y141).toArray)), (none, fun fx O uu wx => uu = (PV po0)), (none, fun fx O uu wx => uu = (Value.agg (Tie.enc y141).toArray)), (some true, fun hv O uu wx => ∃ (z163 : Value), hv = [(Value.bool y161.1)] ∧ uu = (Value.bool y161.1) ∧ O = (un (inBlk (PV po0)) (inBlk z163)) ∧ Blk wx po0 69 (Ties.c y161.2 z163) ∧ Mp (fun x => Value.agg (Place.enc x).toArray) (fun x => Value.agg (Tie.enc x).toArray) wx y161.2.all z163 ∧ (∀ b, inBlk (PV po0) b → ¬ inBlk z163 b))] [[], [], [], [1, 2]] [3, 0] (un (inBlk (PV po0)) (inBlk az0_0)) (fun b h => un_el h (fun h => ah0.ltp b h) (fun h => ah0_0.ltp b h)) mixed rfl rfl rfl rfl ?_ ?_
 ·
  refine Each.consS (fun fl O wk hE hN hO ck => ?_) ?_
  ·
   have k155 := k155.ch ck ((fun b hb h => un_el h (fun h => d150 b hb h) (fun h => d151 b hb h)) _ rfl)
   refine rl_loadA (cs := (Tie.enc y141)) rfl Try.isAgg30 Try.sizeOf30 (k155.segAt 0 40) rfl rfl ?_
   exact RL.nil ⟨_, rfl, Ch.refl, rfl⟩
  refine Each.consS (fun fl O wk hE hN hO ck => ?_) ?_
  ·
   refine rl_move rfl rfl ?_
   exact RL.nil ⟨_, rfl, Ch.refl, rfl⟩
  refine Each.consS (fun fl O wk hE hN hO ck => ?_) ?_
  ·
   have k155 := k155.ch ck ((fun b hb h => un_el h (fun h => d150 b hb h) (fun h => d151 b hb h)) _ rfl)
   refine rl_loadA (cs := (Tie.enc y141)) rfl Try.isAgg30 Try.sizeOf30 (k155.segAt 0 40) rfl rfl ?_
   exact RL.nil ⟨_, rfl, Ch.refl, rfl⟩
  refine Each.consO ⟨fun _ O _ wx wy cc hh => by obtain ⟨z163, eh, e, rfl, ck3_0, ck3_1, cd3_0_1⟩ := hh; exact ⟨z163, eh, e, rfl, ck3_0.ch0 cc, ck3_1.ch0 cc, cd3_0_1⟩, fun hv Op O wk hO ck hO0 => ?_⟩ ?_
  ·
   obtain ⟨hl, hBg⟩ := hO0 rfl
   obtain rfl := List.eq_nil_of_length_eq_zero hl
   have ah0 := ah0.ch0 hBg.2.1
   have ah0_0 := ah0_0.ch0 hBg.2.1
   have k8 := k8.ch0 hBg.2.1
   have ck10_0 := ck10_0.ch0 hBg.2.1
   have k155 := k155.ch0 hBg.2.1
   have c0 := c0.then0 hBg.2.1
   refine Need.o1 rfl rfl rfl (fun _ h => h) ?_
   refine Need.o1 rfl rfl rfl (fun _ h => h) ?_
   have hd194 : ∀ b, (un (inBlk (PV po0)) (inBlk az0_0)) b → ¬ (un (inBlk (PV p143)) (un (inBlk (PV p12)) (un (inBlk (PV p5)) S2))) b := fun b h => un_el h (fun h => (fun b hb => fun h => un_el h (fun h => (disSym d150) b hb h) (fun h => un_el h (fun h => (disSym d111) b hb h) (fun h => un_el h (fun h => (disSym d10) b hb h) (linNot lin0_0 hd2 h2 b hb)))) b h) (fun h => (fun b hb => fun h => un_el h (fun h => (disSym d151) b hb h) (fun h => un_el h (fun h => (disSym d112) b hb h) (fun h => un_el h (fun h => (disSym d11) b hb h) (linNot lin1_0 hd2 h2 b hb)))) b h)
   refine rl_callF rfl en29 rfl (ctr29 F wk Bb (un (inBlk (PV p143)) (un (inBlk (PV p12)) (un (inBlk (PV p5)) S2))) (Nat.le_trans hB c0.size) (un_lt k155.ltp (un_lt ck10_0.ltp (un_lt k8.ltp (fun b h => Nat.lt_of_lt_of_le (h2 b h) c0.size)))) po0 az0_0 hd194 hx0_1 a0 ah0 ah0_0 y141 y161 hy162) ?_
   rintro _ w196 ⟨z198, rfl, h199, h200, hf201, d202, c197⟩
   have hb209 : ∀ b, (un (inBlk (PV po0)) (inBlk z198)) b → (O b ∨ wk.heap.size ≤ b) ∧ b < w196.heap.size := fun b h => ⟨un_el h (fun h => .inl ((hBg.1 b).2 (.inl (.inl h)))) (fun h => (hf201 b h).elim (fun h => .inl (un_el h (fun h => ((hBg.1 b).2 (.inl (.inl h)))) (fun h => ((hBg.1 b).2 (.inl (.inr h)))))) (fun h => .inr (Nat.le_trans (Nat.le_refl _) h))), un_el h (fun h => h199.ltp b h) (fun h => h200.ltp b h)⟩
   exact RL.nil ⟨_, (un (inBlk (PV po0)) (inBlk z198)), rfl, hb209, (c197.mono (fun b _ h => un_el h (fun h => ((hBg.1 b).2 (.inl (.inl h)))) (fun h => ((hBg.1 b).2 (.inl (.inr h)))))), ⟨z198, rfl, rfl, rfl, h199, h200, d202⟩⟩
  trivial
 intro hvO212 OpO212 O212 w210 hO213 c211 hN214
 have ol217 : ∀ b, inBlk (PV p5) b → b < w152.heap.size := k8.ltp
 refine Need.here rfl rfl rfl rfl ?_
 rintro _ ⟨z163, rfl, e218, rfl, ck3_0, ck3_1, cd3_0_1⟩
 obtain rfl := e218.symm
 have d221 : ∀ b, inBlk (PV po0) b → ¬ inBlk (PV p5) b := fun b h hu => (hO213 b (.inl h)).1.elim (fun h => un_el h (fun h => (disSym d10) b h hu) (fun h => (disSym d11) b h hu)) (fun h => Nat.not_le_of_lt (ol217 b hu) h)
 have lin222 : ∀ b, inBlk z163 b → (un (inBlk (PV po0)) (inBlk az0_0)) b ∨ w.heap.size ≤ b := fun b h => (hO213 b (.inr h)).1.elim (fun h => un_el h (fun h => lin0_0 b h) (fun h => lin1_0 b h)) (fun h => .inr (Nat.le_trans c0.size h))
 have d225 : ∀ b, inBlk z163 b → ¬ inBlk (PV p5) b := fun b h hu => (hO213 b (.inr h)).1.elim (fun h => un_el h (fun h => d221 b h hu) (fun h => (disSym d11) b h hu)) (fun h => Nat.not_le_of_lt (ol217 b hu) h)
 have k8 := k8.ch c211 ((fun b hb h => un_el h (fun h => d10 b hb h) (fun h => d11 b hb h)) _ rfl)
 have c0 := c0.then c211 (fun i hi h => un_el h (fun h => (lin0_0 i h).elim (fun x => x) (fun x => absurd x (Nat.not_le_of_lt hi))) (fun h => (lin1_0 i h).elim (fun x => x) (fun x => absurd x (Nat.not_le_of_lt hi))))
 refine Need.o1 rfl rfl rfl (fun _ h => h) ?_
 refine rl_storeA (vs := (Tie.enc y141)) rfl rfl (all_one rfl) Try.sizeOf30 rfl k8 rfl ?_
 intro w228 s230 c229 k231
 have ck3_0 := ck3_0.ch c229 ((fun b hb h => d221 b hb h) _ rfl)
 have ck3_1 := ck3_1.ch c229 ((fun b hb h => d225 b hb h))
 have c0 := c0.then c229 (fun i hi h => absurd (lo9 i h) (Nat.not_le_of_lt hi))
 refine rl_assign rfl rfl ?_
 refine RL.nil (thn_n (CW.ret ?_))
 obtain rfl := Option.some.inj hS
 have crf : Ch nb w228 w228 := Ch.refl
 have ck3_0 := ck3_0.ch0 crf
 have ck3_1 := ck3_1.ch0 crf
 have k231 := k231.ch0 crf
 have c0 := c0.then0 crf
 have crf : Ch nb w228 w228 := Ch.refl
 have ck3_0 := ck3_0.ch0 crf
 have ck3_1 := ck3_1.ch0 crf
 have k231 := k231.ch0 crf
 have c0 := c0.then0 crf
 have crf : Ch nb w228 w228 := Ch.refl
 have ck3_0 := ck3_0.ch0 crf
 have ck3_1 := ck3_1.ch0 crf
 have c0 := c0.then0 crf
 exact ⟨[_, _], ⟨Res1.agg (cs := (Tie.enc y141)) rfl Try.isAgg30 Try.sizeOf30 (k231.segAt 0 40) rfl, rfl, trivial⟩, ⟨z163, rfl, ck3_0, ck3_1, lin222, cd3_0_1, c0⟩⟩
/-- (*lb/ties.Ties).Put -/
theorem ctr19 (F : Nat → Prop) (w : World) (Bb : Nat) (S2 : Nat → Prop) (hB : Bb ≤ w.heap.size) (h2 : ∀ b, S2 b → b < w.heap.size) (po0 : Nat) (az0_0 : Value) (hd2 : ∀ b, (un (inBlk (PV po0)) (inBlk az0_0)) b → ¬ S2 b) (hx0_1 : ∀ b, inBlk (PV po0) b → ¬ inBlk az0_0 b) (a0 : Ties) (ah0 : Blk w po0 69 (Ties.c a0 az0_0)) (ah0_0 : Mp (fun x => Value.agg (Place.enc x).toArray) (fun x => Value.agg (Tie.enc x).toArray) w a0.all az0_0) (a1 : Tie) (a2 : Int) (r : (Tie × Bool × Ties)) (hs : F19_Put a0 a1 a2 = some r) :
    Ret Try.prog 19 #[(PV po0), (Value.agg (Tie.enc a1).toArray), (Value.int .i64 a2)] w fun v w' => ∃ (nz0_0 : Value), v = Value.tuple #[(Value.agg (Tie.enc r.1).toArray), (Value.bool r.2.1)] ∧ Blk w' po0 69 (Ties.c r.2.2 nz0_0) ∧ Mp (fun x => Value.agg (Place.enc x).toArray) (fun x => Value.agg (Tie.enc x).toArray) w' r.2.2.all nz0_0 ∧ (∀ b, inBlk nz0_0 b → (un (inBlk (PV po0)) (inBlk az0_0)) b ∨ w.heap.size ≤ b) ∧ (∀ b, inBlk (PV po0) b → ¬ inBlk nz0_0 b) ∧ Ch (un (inBlk (PV po0)) (inBlk az0_0)) w w' := by
 have hS := hs
 have c0 : Ch (un (inBlk (PV po0)) (inBlk az0_0)) w w := Ch.refl
 have lin0_0 : ∀ b, inBlk (PV po0) b → (un (inBlk (PV po0)) (inBlk az0_0)) b ∨ w.heap.size ≤ b := fun b h => .inl (.inl h)
 have lin1_0 : ∀ b, inBlk az0_0 b → (un (inBlk (PV po0)) (inBlk az0_0)) b ∨ w.heap.size ≤ b := fun b h => .inl (.inr h)
 refine Ret.of (n := 28) (args := [_, _, _]) (rs := [.cell 6 30, .tmp 7]) Try.func19 rfl rfl rfl rfl ?_
 refine CW.seq (CW.region ?_)
 refine rl_boxA (cs := (Tie.enc a1)) rfl rfl ?_
 intro p1 w2 n3 k4
 have lo5 : ∀ b, inBlk (PV p1) b → w.heap.size ≤ b := fun b h => Nat.le_trans c0.size (n3.fresh b h)
 have d6 : ∀ b, inBlk (PV p1) b → ¬ inBlk (PV po0) b := disNew n3.fresh ah0.ltp
 have d7 : ∀ b, inBlk (PV p1) b → ¬ inBlk az0_0 b := disNew n3.fresh ah0_0.ltp
 have ah0 := ah0.ch0 n3.ch
 have ah0_0 := ah0_0.ch0 n3.ch
 have c0 := c0.then0 n3.ch
 refine rl_alloc (Tie.enc Tie.z) Try.zeroValue30 rfl rfl ?_
 intro p8 w9 n10 k11
 have lo12 : ∀ b, inBlk (PV p8) b → w.heap.size ≤ b := fun b h => Nat.le_trans c0.size (n10.fresh b h)
 have d13 : ∀ b, inBlk (PV p8) b → ¬ inBlk (PV p1) b := disNew n10.fresh k4.ltp
 have d14 : ∀ b, inBlk (PV p8) b → ¬ inBlk (PV po0) b := disNew n10.fresh ah0.ltp
 have d15 : ∀ b, inBlk (PV p8) b → ¬ inBlk az0_0 b := disNew n10.fresh ah0_0.ltp
 have ah0 := ah0.ch0 n10.ch
 have ah0_0 := ah0_0.ch0 n10.ch
 have k4 := k4.ch0 n10.ch
 have c0 := c0.then0 n10.ch
 refine rl_assign rfl rfl ?_
 refine RL.nil (thn_n (CW.seq (CW.region ?_)))
 refine rl_move rfl rfl ?_
 refine rl_loadA (cs := (Tie.enc a1)) rfl Try.isAgg30 Try.sizeOf30 (k4.segAt 0 40) rfl rfl ?_
 obtain ⟨y18, hy19⟩ : ∃ y, F35_place a1 = y := ⟨_, rfl⟩
 have hS := ltS hy19 hS
 refine rl_callF rfl en35 rfl (ctr35 (G F Bb (un (inBlk (PV p8)) (un (inBlk (PV p1)) (un (inBlk (PV po0)) (un (inBlk az0_0) S2))))) w9 a1 y18 hy19) ?_
 rintro _ w16 ⟨rfl, c17⟩
 have ah0 := ah0.ch0 c17
 have ah0_0 := ah0_0.ch0 c17
 have k4 := k4.ch0 c17
 have k11 := k11.ch0 c17
 have c0 := c0.then0 c17
 have hd20 : ∀ b, (un (inBlk (PV po0)) (inBlk az0_0)) b → ¬ (un (inBlk (PV p8)) (un (inBlk (PV p1)) S2)) b := fun b h => un_el h (fun h => (fun b hb => fun h => un_el h (fun h => (disSym d14) b hb h) (fun h => un_el h (fun h => (disSym d6) b hb h) (linNot lin0_0 hd2 h2 b hb))) b h) (fun h => (fun b hb => fun h => un_el h (fun h => (disSym d15) b hb h) (fun h => un_el h (fun h => (disSym d7) b hb h) (linNot lin1_0 hd2 h2 b hb))) b h)
 obtain ⟨y24, hy25, hS⟩ := bindS hS
 refine rl_callF rfl en37 rfl (ctr37 F w16 Bb (un (inBlk (PV p8)) (un (inBlk (PV p1)) S2)) (Nat.le_trans hB c0.size) (un_lt k11.ltp (un_lt k4.ltp (fun b h => Nat.lt_of_lt_of_le (h2 b h) c0.size))) po0 az0_0 hd20 hx0_1 a0 ah0 ah0_0 y18 y24 hy25) ?_
 rintro _ w22 ⟨z26, rfl, h27, h28, hf29, d30, c23⟩
 have lin31 : ∀ b, inBlk z26 b → (un (inBlk (PV po0)) (inBlk az0_0)) b ∨ w.heap.size ≤ b := fun b h => (hf29 b h).elim (fun h => un_el h (fun h => lin0_0 b h) (fun h => lin1_0 b h)) (fun h => .inr (Nat.le_trans c0.size h))
 have d32 : ∀ b, inBlk z26 b → ¬ inBlk (PV p8) b := fun b h hu => (hf29 b h).elim (fun h => un_el h (fun h => (disSym d14) b h hu) (fun h => (disSym d15) b h hu)) (fun h => Nat.not_le_of_lt (k11.ltp b hu) h)
 have d33 : ∀ b, inBlk z26 b → ¬ inBlk (PV p1) b := fun b h hu => (hf29 b h).elim (fun h => un_el h (fun h => (disSym d6) b h hu) (fun h => (disSym d7) b h hu)) (fun h => Nat.not_le_of_lt (k4.ltp b hu) h)
 have k4 := k4.ch c23 ((fun b hb h => un_el h (fun h => d6 b hb h) (fun h => d7 b hb h)) _ rfl)
 have k11 := k11.ch c23 ((fun b hb h => un_el h (fun h => d14 b hb h) (fun h => d15 b hb h)) _ rfl)
 have c0 := c0.then c23 (fun i hi h => un_el h (fun h => (lin0_0 i h).elim (fun x => x) (fun x => absurd x (Nat.not_le_of_lt hi))) (fun h => (lin1_0 i h).elim (fun x => x) (fun x => absurd x (Nat.not_le_of_lt hi))))
 refine rl_move rfl rfl ?_
 refine rl_extract rfl rfl rfl ?_
 refine rl_extract rfl rfl rfl ?_
 refine rl_alloc (Tie.enc Tie.z) Try.zeroValue30 rfl rfl ?_
 intro p36 w37 n38 k39
 have lo40 : ∀ b, inBlk (PV p36) b → w.heap.size ≤ b := fun b h => Nat.le_trans c0.size (n38.fresh b h)
 have d41 : ∀ b, inBlk (PV p36) b → ¬ inBlk (PV p8) b := disNew n38.fresh k11.ltp
 have d42 : ∀ b, inBlk (PV p36) b → ¬ inBlk (PV p1) b := disNew n38.fresh k4.ltp
 have d43 : ∀ b, inBlk (PV p36) b → ¬ inBlk (PV po0) b := disNew n38.fresh h27.ltp
 have d44 : ∀ b, inBlk (PV p36) b → ¬ inBlk z26 b := disNew n38.fresh h28.ltp
 have k4 := k4.ch0 n38.ch
 have k11 := k11.ch0 n38.ch
 have h27 := h27.ch0 n38.ch
 have h28 := h28.ch0 n38.ch
 have c0 := c0.then0 n38.ch
 refine rl_storeA (vs := (Tie.enc y24.1)) rfl rfl (all_one rfl) Try.sizeOf30 rfl k39 rfl ?_
 intro w45 s47 c46 k48
 have k4 := k4.ch c46 ((fun b hb h => (disSym d42) b hb h) _ rfl)
 have k11 := k11.ch c46 ((fun b hb h => (disSym d41) b hb h) _ rfl)
 have h27 := h27.ch c46 ((fun b hb h => (disSym d43) b hb h) _ rfl)
 have h28 := h28.ch c46 ((fun b hb h => (disSym d44) b hb h))
 have c0 := c0.then c46 (fun i hi h => absurd (lo40 i h) (Nat.not_le_of_lt hi))
 refine rl_assign rfl rfl ?_
 refine RL.nil (thn_n (CW.seq (CW.region ?_)))
 refine rl_move rfl rfl ?_
 refine rl_fieldAddr rfl fa30_5 rfl ?_
 refine rl_storeS (u := (Value.int .i64 a2)) rfl rfl ⟨rfl, rfl⟩ Try.sizeOf3 k4 rfl ?_
 intro w50 s52 c51 k53
 have k11 := k11.ch c51 ((fun b hb h => d13 b hb h) _ rfl)
 have h27 := h27.ch c51 ((fun b hb h => (disSym d6) b hb h) _ rfl)
 have h28 := h28.ch c51 ((fun b hb h => d33 b hb h))
 have k48 := k48.ch c51 ((fun b hb h => d42 b hb h) _ rfl)
 have c0 := c0.then c51 (fun i hi h => absurd (lo5 i h) (Nat.not_le_of_lt hi))
 refine RL.nil (thn_n (CW.seq ?_))
 obtain ⟨y57, hy58⟩ : ∃ y, F35_place ({ client := a1.client, service := a1.service, name := a1.name, localF := a1.localF, backend := a1.backend, last := a2 } : Tie) = y := ⟨_, rfl⟩
 have hS := ltS hy58 hS
 refine CW.draw 7 [(none, fun fx O uu wx => uu = (PV po0)), (none, fun fx O uu wx => uu = (PV po0)), (none, fun fx O uu wx => uu = (PV po0)), (none, fun fx O uu wx => uu = z26), (none, fun fx O uu wx => uu = (Value.agg (Tie.enc ({ client := a1.client, service := a1.service, name := a1.name, localF := a1.localF, backend := a1.backend, last := a2 } : Tie)).toArray)), (none, fun fx O uu wx => uu = (Value.agg (Place.enc y57).toArray)), (none, fun fx O uu wx => uu = (Value.agg (Tie.enc ({ client := a1.client, service := a1.service, name := a1.name, localF := a1.localF, backend := a1.backend, last := a2 } : Tie)).toArray))] [[], [0], [1], [2], [], [4], []] [3, 5, 6] nb (fun _ h => h.elim) mixed rfl rfl rfl rfl ?_ ?_
 ·
  refine Each.consS (fun fl O wk hE hN hO ck => ?_) ?_
  ·
   refine rl_move rfl rfl ?_
   exact RL.nil ⟨_, rfl, Ch.refl, rfl⟩
  refine Each.consS (fun fl O wk hE hN hO ck => ?_) ?_
  ·
   refine Need.o1 rfl rfl rfl (fun _ h => h) ?_
   refine rl_nilCheck rfl rfl ?_
   exact RL.nil ⟨_, rfl, Ch.refl, rfl⟩
  refine Each.consS (fun fl O wk hE hN hO ck => ?_) ?_
  ·
   refine Need.o1 rfl rfl rfl (fun _ h => h) ?_
   refine rl_fieldAddr rfl fa69_0 rfl ?_
   exact RL.nil ⟨_, rfl, Ch.refl, rfl⟩
  refine Each.consS (fun fl O wk hE hN hO ck => ?_) ?_
  ·
   have h27 := h27.ch0 ck
   refine Need.o1 rfl rfl rfl (fun _ h => h) ?_
   refine rl_loadS (v := z26) rfl Try.isAgg67 (h27.cell rfl) rfl ?_
   exact RL.nil ⟨_, rfl, Ch.refl, rfl⟩
  refine Each.consS (fun fl O wk hE hN hO ck => ?_) ?_
  ·
   have k53 := k53.ch0 ck
   refine rl_loadA (cs := (Tie.enc ({ client := a1.client, service := a1.service, name := a1.name, localF := a1.localF, backend := a1.backend, last := a2 } : Tie))) rfl Try.isAgg30 Try.sizeOf30 (k53.segAt 0 40) rfl rfl ?_
   exact RL.nil ⟨_, rfl, Ch.refl, rfl⟩
  refine Each.consS (fun fl O wk hE hN hO ck => ?_) ?_
  ·
   refine Need.o1 rfl rfl rfl (fun _ h => h) ?_
   refine rl_callF rfl en35 rfl (ctr35 (G F Bb (un (inBlk (PV p36)) (un (inBlk (PV p8)) (un (inBlk (PV p1)) (un (inBlk (PV po0)) (un (inBlk z26) S2)))))) wk ({ client := a1.client, service := a1.service, name := a1.name, localF := a1.localF, backend := a1.backend, last := a2 } : Tie) y57 hy58) ?_
   rintro _ w67 ⟨rfl, c68⟩
   exact RL.nil ⟨_, rfl, c68, rfl⟩
  refine Each.consS (fun fl O wk hE hN hO ck => ?_) ?_
  ·
   have k53 := k53.ch0 ck
   refine rl_loadA (cs := (Tie.enc ({ client := a1.client, service := a1.service, name := a1.name, localF := a1.localF, backend := a1.backend, last := a2 } : Tie))) rfl Try.isAgg30 Try.sizeOf30 (k53.segAt 0 40) rfl rfl ?_
   exact RL.nil ⟨_, rfl, Ch.refl, rfl⟩
  trivial
 intro hvO71 OpO71 O71 w69 hO72 c70 hN73
 have k11 := k11.ch0 c70
 have h27 := h27.ch0 c70
 have h28 := h28.ch0 c70
 have k48 := k48.ch0 c70
 have c0 := c0.then0 c70
 refine Need.o1 rfl rfl rfl (fun _ h => h) ?_
 refine Need.o1 rfl rfl rfl (fun _ h => h) ?_
 refine Need.o1 rfl rfl rfl (fun _ h => h) ?_
 refine rl_mapUpdate y57 ({ client := a1.client, service := a1.service, name := a1.name, localF := a1.localF, backend := a1.backend, last := a2 } : Tie) rfl rfl rfl h28 rfl rfl kt79 Try.underlying67 ?_
 intro w77 c78 h79
 have k11 := k11.ch c78 ((fun b hb h => (disSym d32) b hb h) _ rfl)
 have h27 := h27.ch c78 ((fun b hb h => d30 b hb h) _ rfl)
 have k48 := k48.ch c78 ((fun b hb h => d44 b hb h) _ rfl)
 have c0 := c0.then c78 (fun i hi h => (lin31 i h).elim (fun x => x) (fun x => absurd x (Nat.not_le_of_lt hi)))
 refine RL.nil (thn_n (CW.seq (CW.region ?_)))
 refine rl_loadA (cs := (Tie.enc y24.1)) rfl Try.isAgg30 Try.sizeOf30 (k48.segAt 0 40) rfl rfl ?_
 refine rl_move rfl rfl ?_
 refine rl_storeA (vs := (Tie.enc y24.1)) rfl rfl (all_one rfl) Try.sizeOf30 rfl k11 rfl ?_
 intro w81 s83 c82 k84
 have h27 := h27.ch c82 ((fun b hb h => (disSym d14) b hb h) _ rfl)
 have h79 := h79.ch c82 ((fun b hb h => d32 b hb h))
 have c0 := c0.then c82 (fun i hi h => absurd (lo12 i h) (Nat.not_le_of_lt hi))
 refine rl_assign rfl rfl ?_
 refine RL.nil (thn_n (CW.ret ?_))
 obtain rfl := Option.some.inj hS
 have crf : Ch nb w81 w81 := Ch.refl
 have h27 := h27.ch0 crf
 have h79 := h79.ch0 crf
 have k84 := k84.ch0 crf
 have c0 := c0.then0 crf
 have crf : Ch nb w81 w81 := Ch.refl
 have h27 := h27.ch0 crf
 have h79 := h79.ch0 crf
 have c0 := c0.then0 crf
 have crf : Ch nb w81 w81 := Ch.refl
 have h27 := h27.ch0 crf
 have h79 := h79.ch0 crf
 have c0 := c0.then0 crf
 exact ⟨[_, _], ⟨Res1.agg (cs := (Tie.enc y24.1)) rfl Try.isAgg30 Try.sizeOf30 (k84.segAt 0 40) rfl, rfl, trivial⟩, ⟨z26, rfl, h27, h79, lin31, d30, c0⟩⟩
/-- lb/ties.Fresh -/
theorem ctr7 (F : Nat → Prop) (w : World) (a0 : Tie) (a1 : Int) (a2 : Int) (r : Bool) (hs : F7_Fresh a0 a1 a2 = r) :
    Ret Try.prog 7 #[(Value.agg (Tie.enc a0).toArray), (Value.int .i64 a1), (Value.int .i64 a2)] w fun v w' => v = (Value.bool r) ∧ Ch nb w w' := by
 have hS := hs
 have c0 : Ch nb w w := Ch.refl
 refine Ret.of (n := 26) (args := [_, _, _]) (rs := [.tmp 6]) Try.func7 rfl rfl rfl rfl ?_
 refine CW.seq (CW.region ?_)
 refine rl_boxA (cs := (Tie.enc a0)) rfl rfl ?_
 intro p1 w2 n3 k4
 have c0 := c0.then0 n3.ch
 refine rl_assign rfl rfl ?_
 refine RL.nil (thn_n (CW.seq ?_))
 refine CW.seq (CW.region ?_)
 refine rl_move rfl rfl ?_
 refine rl_fieldAddr rfl fa30_5 rfl ?_
 refine rl_loadS (v := (Value.int .i64 a0.last)) rfl Try.isAgg3 (k4.cell rfl) rfl ?_
 refine rl_bin rfl rfl B.lss rfl ?_
 refine RL.nil (thn_n ?_)
 refine CW.cond (t := decide (a2 < a0.last)) rfl (fun q5 => ?_) (fun q5 => ?_)
 ·
  have hS := ifT q5 hS
  refine CW.region ?_
  refine rl_fieldAddr rfl fa30_5 rfl ?_
  refine rl_loadS (v := (Value.int .i64 a0.last)) rfl Try.isAgg3 (k4.cell rfl) rfl ?_
  refine rl_assign rfl rfl ?_
  refine RL.nil (thn_n (CW.seq (CW.region ?_)))
  refine rl_move rfl rfl ?_
  refine rl_bin rfl rfl B.gtr rfl ?_
  refine rl_move rfl rfl ?_
  obtain ⟨b8, hb9⟩ : ∃ v, ((decide (a1 > 0)) && (decide ((IntKind.u64.wrap ((IntKind.u64.wrap a0.last) - (IntKind.u64.wrap a0.last))) < (IntKind.u64.wrap a1)))) = v := ⟨_, rfl⟩
  have hS := ltS hb9 hS
  refine RL.join 10 25 (.bool b8) (fun w' => Ch nb w2 w') ?_ ?_
  · rcases Bool.eq_false_or_eq_true (decide (a1 > 0)) with hg7 | hg7
    ·
     have hs6 := and_t hg7 hb9
     have cs : Ch nb w2 w2 := Ch.refl
     refine RL.yes rfl rfl rfl hg7 ?_
     refine rl_move rfl rfl ?_
     refine RL.yes rfl rfl rfl hg7 ?_
     refine rl_convInt rfl ⟨_, Try.underlying3⟩ Try.underlying60 rfl ?_
     refine RL.yes rfl rfl rfl hg7 ?_
     refine rl_fieldAddr rfl fa30_5 rfl ?_
     refine RL.yes rfl rfl rfl hg7 ?_
     refine rl_loadS (v := (Value.int .i64 a0.last)) rfl Try.isAgg3 (k4.cell rfl) rfl ?_
     refine RL.yes rfl rfl rfl hg7 ?_
     refine rl_convInt rfl ⟨_, Try.underlying3⟩ Try.underlying60 rfl ?_
     refine RL.yes rfl rfl rfl hg7 ?_
     refine rl_bin rfl rfl B.sub rfl ?_
     refine RL.yes rfl rfl rfl hg7 ?_
     refine rl_move rfl rfl ?_
     refine RL.yes rfl rfl rfl hg7 ?_
     refine rl_convInt rfl ⟨_, Try.underlying3⟩ Try.underlying60 rfl ?_
     refine RL.yes rfl rfl rfl hg7 ?_
     refine rl_bin rfl rfl B.lss rfl ?_
     refine rl_pickT rfl hg7 rfl rfl ?_
     exact RL.nil ⟨Ext.bothEq (congrArg Value.bool hs6) (Ext.skip rfl (Ext.skip rfl (Ext.skip rfl (Ext.skip rfl (Ext.skip rfl (Ext.skip rfl (Ext.skip rfl (Ext.skip rfl (Ext.skip rfl (Ext.rfl')))))))))), cs⟩
    ·
     have hs6 := and_f hg7 hb9
     have cs : Ch nb w2 w2 := Ch.refl
     refine RL.no rfl rfl rfl hg7 rfl rfl ?_
     refine RL.no rfl rfl rfl hg7 rfl rfl ?_
     refine RL.no rfl rfl rfl hg7 rfl rfl ?_
     refine RL.no rfl rfl rfl hg7 rfl rfl ?_
     refine RL.no rfl rfl rfl hg7 rfl rfl ?_
     refine RL.no rfl rfl rfl hg7 rfl rfl ?_
     refine RL.no rfl rfl rfl hg7 rfl rfl ?_
     refine RL.no rfl rfl rfl hg7 rfl rfl ?_
     refine RL.no rfl rfl rfl hg7 rfl rfl ?_
     refine rl_pickF rfl hg7 rfl rfl ?_
     exact RL.nil ⟨Ext.bothEq (congrArg Value.bool hs6) (Ext.skip rfl (Ext.skip rfl (Ext.skip rfl (Ext.skip rfl (Ext.skip rfl (Ext.skip rfl (Ext.skip rfl (Ext.skip rfl (Ext.skip rfl (Ext.rfl')))))))))), cs⟩
  intro w10 c11
  have c0 := c0.then0 c11
  refine rl_assign rfl rfl ?_
  refine RL.nil (thn_n (CW.ret ?_))
  obtain rfl := hS
  exact ret1 rfl ⟨rfl, c0⟩
 have hS := ifF q5 hS
 refine CW.skip ?_
 refine thn_n (CW.seq (CW.region ?_))
 refine rl_move rfl rfl ?_
 refine rl_bin rfl rfl B.gtr rfl ?_
 refine rl_move rfl rfl ?_
 obtain ⟨b14, hb15⟩ : ∃ v, ((decide (a1 > 0)) && (decide ((IntKind.u64.wrap ((IntKind.u64.wrap a2) - (IntKind.u64.wrap a0.last))) < (IntKind.u64.wrap a1)))) = v := ⟨_, rfl⟩
 have hS := ltS hb15 hS
 refine RL.join 10 25 (.bool b14) (fun w' => Ch nb w2 w') ?_ ?_
 · rcases Bool.eq_false_or_eq_true (decide (a1 > 0)) with hg13 | hg13
   ·
    have hs12 := and_t hg13 hb15
    have cs : Ch nb w2 w2 := Ch.refl
    refine RL.yes rfl rfl rfl hg13 ?_
    refine rl_move rfl rfl ?_
    refine RL.yes rfl rfl rfl hg13 ?_
    refine rl_convInt rfl ⟨_, Try.underlying3⟩ Try.underlying60 rfl ?_
    refine RL.yes rfl rfl rfl hg13 ?_
    refine rl_fieldAddr rfl fa30_5 rfl ?_
    refine RL.yes rfl rfl rfl hg13 ?_
    refine rl_loadS (v := (Value.int .i64 a0.last)) rfl Try.isAgg3 (k4.cell rfl) rfl ?_
    refine RL.yes rfl rfl rfl hg13 ?_
    refine rl_convInt rfl ⟨_, Try.underlying3⟩ Try.underlying60 rfl ?_
    refine RL.yes rfl rfl rfl hg13 ?_
    refine rl_bin rfl rfl B.sub rfl ?_
    refine RL.yes rfl rfl rfl hg13 ?_
    refine rl_move rfl rfl ?_
    refine RL.yes rfl rfl rfl hg13 ?_
    refine rl_convInt rfl ⟨_, Try.underlying3⟩ Try.underlying60 rfl ?_
    refine RL.yes rfl rfl rfl hg13 ?_
    refine rl_bin rfl rfl B.lss rfl ?_
    refine rl_pickT rfl hg13 rfl rfl ?_
    exact RL.nil ⟨Ext.bothEq (congrArg Value.bool hs12) (Ext.skip rfl (Ext.skip rfl (Ext.skip rfl (Ext.skip rfl (Ext.skip rfl (Ext.skip rfl (Ext.skip rfl (Ext.skip rfl (Ext.skip rfl (Ext.rfl')))))))))), cs⟩
   ·
    have hs12 := and_f hg13 hb15
    have cs : Ch nb w2 w2 := Ch.refl
    refine RL.no rfl rfl rfl hg13 rfl rfl ?_
    refine RL.no rfl rfl rfl hg13 rfl rfl ?_
    refine RL.no rfl rfl rfl hg13 rfl rfl ?_
    refine RL.no rfl rfl rfl hg13 rfl rfl ?_
    refine RL.no rfl rfl rfl hg13 rfl rfl ?_
    refine RL.no rfl rfl rfl hg13 rfl rfl ?_
    refine RL.no rfl rfl rfl hg13 rfl rfl ?_
    refine RL.no rfl rfl rfl hg13 rfl rfl ?_
    refine RL.no rfl rfl rfl hg13 rfl rfl ?_
    refine rl_pickF rfl hg13 rfl rfl ?_
    exact RL.nil ⟨Ext.bothEq (congrArg Value.bool hs12) (Ext.skip rfl (Ext.skip rfl (Ext.skip rfl (Ext.skip rfl (Ext.skip rfl (Ext.skip rfl (Ext.skip rfl (Ext.skip rfl (Ext.skip rfl (Ext.rfl')))))))))), cs⟩
 intro w16 c17
 have c0 := c0.then0 c17
 refine rl_assign rfl rfl ?_
 refine RL.nil (thn_n (CW.ret ?_))
 obtain rfl := hS
 exact ret1 rfl ⟨rfl, c0⟩
/-- (*lb/ties.Ties).Get -/
theorem ctr17 (F : Nat → Prop) (w : World) (Bb : Nat) (S2 : Nat → Prop) (hB : Bb ≤ w.heap.size) (h2 : ∀ b, S2 b → b < w.heap.size) (po0 : Nat) (az0_0 : Value) (hd2 : ∀ b, (un (inBlk (PV po0)) (inBlk az0_0)) b → ¬ S2 b) (hx0_1 : ∀ b, inBlk (PV po0) b → ¬ inBlk az0_0 b) (a0 : Ties) (ah0 : Blk w po0 69 (Ties.c a0 az0_0)) (ah0_0 : Mp (fun x => Value.agg (Place.enc x).toArray) (fun x => Value.agg (Tie.enc x).toArray) w a0.all az0_0) (a1 : Tie) (a2 : Int) (a3 : Int) (r : (Point × Bool)) (hs : F17_Get a0 a1 a2 a3 = r) :
    Ret Try.prog 17 #[(PV po0), (Value.agg (Tie.enc a1).toArray), (Value.int .i64 a2), (Value.int .i64 a3)] w fun v w' => v = Value.tuple #[(Value.agg (Point.enc r.1).toArray), (Value.bool r.2)] ∧ Ch nb w w' := by
 have hS := hs
 have c0 : Ch nb w w := Ch.refl
 refine Ret.of (n := 34) (args := [_, _, _, _]) (rs := [.cell 8 28, .tmp 9]) Try.func17 rfl rfl rfl rfl ?_
 refine CW.seq (CW.region ?_)
 refine rl_boxA (cs := (Tie.enc a1)) rfl rfl ?_
 intro p1 w2 n3 k4
 have ah0 := ah0.ch0 n3.ch
 have ah0_0 := ah0_0.ch0 n3.ch
 have c0 := c0.then0 n3.ch
 refine rl_alloc (Point.enc Point.z) Try.zeroValue28 rfl rfl ?_
 intro p5 w6 n7 k8
 have lo9 : ∀ b, inBlk (PV p5) b → w.heap.size ≤ b := fun b h => Nat.le_trans c0.size (n7.fresh b h)
 have ah0 := ah0.ch0 n7.ch
 have ah0_0 := ah0_0.ch0 n7.ch
 have k4 := k4.ch0 n7.ch
 have c0 := c0.then0 n7.ch
 refine rl_assign rfl rfl ?_
 refine RL.nil (thn_n (CW.seq ?_))
 obtain ⟨y14, hy15⟩ : ∃ y, F35_place a1 = y := ⟨_, rfl⟩
 have hS := ltS hy15 hS
 refine CW.draw 12 [(none, fun fx O uu wx => uu = (PV po0)), (none, fun fx O uu wx => uu = (PV po0)), (none, fun fx O uu wx => uu = (PV po0)), (none, fun fx O uu wx => uu = az0_0), (none, fun fx O uu wx => uu = (Value.agg (Tie.enc a1).toArray)), (none, fun fx O uu wx => uu = (Value.agg (Place.enc y14).toArray)), (none, fun fx O uu wx => uu = (Value.tuple #[(Value.agg (Tie.enc ((mget a0.all y14).getD Tie.z)).toArray), (Value.bool ((mget a0.all y14).isSome))])), (none, fun fx O uu wx => uu = (Value.tuple #[(Value.agg (Tie.enc ((mget a0.all y14).getD Tie.z)).toArray), (Value.bool ((mget a0.all y14).isSome))])), (none, fun fx O uu wx => uu = (Value.agg (Tie.enc ((mget a0.all y14).getD Tie.z)).toArray)), (none, fun fx O uu wx => uu = (Value.bool ((mget a0.all y14).isSome))), (some false, fun _ O uu wx => ∃ (p16 : Nat), uu = (PV p16) ∧ O = (inBlk (PV p16)) ∧ Blk wx p16 30 (Tie.enc Tie.z)), (some true, fun hv O uu wx => ∃ (p16 : Nat), hv = [(PV p16), undef] ∧ uu = undef ∧ O = (inBlk (PV p16)) ∧ Blk wx p16 30 (Tie.enc ((mget a0.all y14).getD Tie.z)))] [[], [0], [1], [2], [], [4], [3, 5], [6], [7], [7], [], [10, 8]] [11, 9, 10] nb (fun _ h => h.elim) mixed rfl rfl rfl rfl ?_ ?_
 ·
  refine Each.consS (fun fl O wk hE hN hO ck => ?_) ?_
  ·
   refine rl_move rfl rfl ?_
   exact RL.nil ⟨_, rfl, Ch.refl, rfl⟩
  refine Each.consS (fun fl O wk hE hN hO ck => ?_) ?_
  ·
   refine Need.o1 rfl rfl rfl (fun _ h => h) ?_
   refine rl_nilCheck rfl rfl ?_
   exact RL.nil ⟨_, rfl, Ch.refl, rfl⟩
  refine Each.consS (fun fl O wk hE hN hO ck => ?_) ?_
  ·
   refine Need.o1 rfl rfl rfl (fun _ h => h) ?_
   refine rl_fieldAddr rfl fa69_0 rfl ?_
   exact RL.nil ⟨_, rfl, Ch.refl, rfl⟩
  refine Each.consS (fun fl O wk hE hN hO ck => ?_) ?_
  ·
   have ah0 := ah0.ch0 ck
   refine Need.o1 rfl rfl rfl (fun _ h => h) ?_
   refine rl_loadS (v := az0_0) rfl Try.isAgg67 (ah0.cell rfl) rfl ?_
   exact RL.nil ⟨_, rfl, Ch.refl, rfl⟩
  refine Each.consS (fun fl O wk hE hN hO ck => ?_) ?_
  ·
   have k4 := k4.ch0 ck
   refine rl_loadA (cs := (Tie.enc a1)) rfl Try.isAgg30 Try.sizeOf30 (k4.segAt 0 40) rfl rfl ?_
   exact RL.nil ⟨_, rfl, Ch.refl, rfl⟩
  refine Each.consS (fun fl O wk hE hN hO ck => ?_) ?_
  ·
   refine Need.o1 rfl rfl rfl (fun _ h => h) ?_
   refine rl_callF rfl en35 rfl (ctr35 (G F Bb (un O (un (inBlk (PV p5)) (un (inBlk (PV po0)) (un (inBlk az0_0) S2))))) wk a1 y14 hy15) ?_
   rintro _ w57 ⟨rfl, c58⟩
   exact RL.nil ⟨_, rfl, c58, rfl⟩
  refine Each.consS (fun fl O wk hE hN hO ck => ?_) ?_
  ·
   have ah0_0 := ah0_0.ch0 ck
   refine Need.o1 rfl rfl rfl (fun _ h => h) ?_
   refine Need.o1 rfl rfl rfl (fun _ h => h) ?_
   refine rl_lookup2 y14 Tie.z rfl rfl ah0_0 rfl kt79 Try.underlying67 Try.zeroValue30 rfl ?_
   exact RL.nil ⟨_, rfl, Ch.refl, rfl⟩
  refine Each.consS (fun fl O wk hE hN hO ck => ?_) ?_
  ·
   refine Need.o1 rfl rfl rfl (fun _ h => h) ?_
   refine rl_move rfl rfl ?_
   exact RL.nil ⟨_, rfl, Ch.refl, rfl⟩
  refine Each.consS (fun fl O wk hE hN hO ck => ?_) ?_
  ·
   refine Need.o1 rfl rfl rfl (fun _ h => h) ?_
   refine rl_extract rfl rfl rfl ?_
   exact RL.nil ⟨_, rfl, Ch.refl, rfl⟩
  refine Each.consS (fun fl O wk hE hN hO ck => ?_) ?_
  ·
   refine Need.o1 rfl rfl rfl (fun _ h => h) ?_
   refine rl_extract rfl rfl rfl ?_
   exact RL.nil ⟨_, rfl, Ch.refl, rfl⟩
  refine Each.consP ⟨fun _ O _ wx wy cc hh => by obtain ⟨p16, e, rfl, ck10_0⟩ := hh; exact ⟨p16, e, rfl, ck10_0.ch0 cc⟩, fun O wk hO ck => ?_⟩ ?_
  ·
   refine rl_alloc (Tie.enc Tie.z) Try.zeroValue30 rfl rfl ?_
   intro p84 w85 n86 k87
   have hb93 : ∀ b, (inBlk (PV p84)) b → wk.heap.size ≤ b ∧ b < w85.heap.size := fun b h => ⟨n86.fresh b h, k87.ltp b h⟩
   exact RL.nil ⟨_, (inBlk (PV p84)), rfl, hb93, n86.ch, ⟨p84, rfl, rfl, k87⟩⟩
  refine Each.consO ⟨fun _ O _ wx wy cc hh => by obtain ⟨p16, eh, e, rfl, ck11_0⟩ := hh; exact ⟨p16, eh, e, rfl, ck11_0.ch0 cc⟩, fun hv Op O wk hO ck hO0 => ?_⟩ ?_
  ·
   obtain ⟨hl, hBg⟩ := hO0 rfl
   refine Need.made rfl rfl rfl rfl ?_
   rintro _ ⟨p16, e94, eO95, ck10_0⟩ hh96
   obtain rfl := e94.symm
   have io97 : ∀ b, inBlk (PV p16) b → _ := fun b h => (Eq.mpr (congrFun eO95 b) h)
   obtain rfl := hist_eq [(PV p16)] hv hl ⟨hh96, trivial⟩
   refine Need.o1 rfl rfl rfl (fun _ h => h) ?_
   refine rl_storeA (vs := (Tie.enc ((mget a0.all y14).getD Tie.z))) rfl rfl (all_one rfl) Try.sizeOf30 rfl ck10_0 rfl ?_
   intro w105 s107 c106 k108
   have hb110 : ∀ b, (inBlk (PV p16)) b → (O b ∨ wk.heap.size ≤ b) ∧ b < w105.heap.size := fun b h => ⟨.inl ((hBg.1 b).2 (.inr ⟨_, inPre rfl, io97 b h⟩)), k108.ltp b h⟩
   exact RL.nil ⟨_, (inBlk (PV p16)), rfl, hb110, (c106.mono (fun b _ h => ((hBg.1 b).2 (.inr ⟨_, inPre rfl, io97 b h⟩)))), ⟨p16, rfl, rfl, rfl, k108⟩⟩
  trivial
 intro hvO113 OpO113 O113 w111 hO114 c112 hN115
 refine Need.hereN rfl rfl rfl rfl ?_
 rintro ⟨p16, rfl, _, rfl, ck11_0⟩
 have k8 := k8.ch0 c112
 have c0 := c0.then0 c112
 refine Need.o1 rfl rfl rfl (fun _ h => h) ?_
 refine Need.hist (PV p16) rfl rfl rfl rfl rfl rfl ?_
 refine rl_assign rfl rfl ?_
 refine RL.nil (thn_n (CW.seq ?_))
 refine CW.seq (CW.region ?_)
 refine rl_move rfl rfl ?_
 refine rl_not rfl rfl ?_
 refine rl_move rfl rfl ?_
 obtain ⟨b129, hb130⟩ : ∃ v, ((!((mget a0.all y14).isSome)) || (lt (F7_Fresh ((mget a0.all y14).getD Tie.z) a2 a3) fun y131 => !y131)) = v := ⟨_, rfl⟩
 have hS := ltS hb130 hS
 refine RL.join 6 30 (.bool b129) (fun w' => Ch nb w111 w') ?_ ?_
 · rcases Bool.eq_false_or_eq_true (!((mget a0.all y14).isSome)) with hg128 | hg128
   ·
    have hs127 := or_t hg128 hb130
    have cs : Ch nb w111 w111 := Ch.refl
    refine RL.no rfl rfl rfl hg128 rfl rfl ?_
    refine RL.no rfl rfl rfl hg128 rfl rfl ?_
    refine RL.no rfl rfl rfl hg128 rfl rfl ?_
    refine RL.no rfl rfl rfl hg128 rfl rfl ?_
    refine RL.no rfl rfl rfl hg128 rfl rfl ?_
    refine rl_pickT rfl hg128 rfl rfl ?_
    exact RL.nil ⟨Ext.bothEq (congrArg Value.bool hs127) (Ext.skip rfl (Ext.skip rfl (Ext.skip rfl (Ext.skip rfl (Ext.skip rfl (Ext.rfl')))))), cs⟩
   ·
    have hs127 := or_f hg128 hb130
    have cs : Ch nb w111 w111 := Ch.refl
    refine RL.yes rfl rfl rfl hg128 ?_
    refine rl_loadA (cs := (Tie.enc ((mget a0.all y14).getD Tie.z))) rfl Try.isAgg30 Try.sizeOf30 (ck11_0.segAt 0 40) rfl rfl ?_
    refine RL.yes rfl rfl rfl hg128 ?_
    refine rl_move rfl rfl ?_
    refine RL.yes rfl rfl rfl hg128 ?_
    refine rl_move rfl rfl ?_
    refine RL.yes rfl rfl rfl hg128 ?_
    obtain ⟨y134, hy135⟩ : ∃ y, F7_Fresh ((mget a0.all y14).getD Tie.z) a2 a3 = y := ⟨_, rfl⟩
    have hs127 := ltS hy135 hs127
    refine rl_callF rfl en7 rfl (ctr7 (G F Bb (un (inBlk (PV p16)) (un (inBlk (PV p5)) (un (inBlk (PV po0)) (un (inBlk az0_0) S2))))) w111 ((mget a0.all y14).getD Tie.z) a2 a3 y134 hy135) ?_
    rintro _ w132 ⟨rfl, c133⟩
    refine RL.yes rfl rfl rfl hg128 ?_
    refine rl_not rfl rfl ?_
    refine rl_pickF rfl hg128 rfl rfl ?_
    have cs := cs.then0 c133
    exact RL.nil ⟨Ext.bothEq (congrArg Value.bool hs127) (Ext.skip rfl (Ext.skip rfl (Ext.skip rfl (Ext.skip rfl (Ext.skip rfl (Ext.rfl')))))), cs⟩
 intro w131 c136
 have k8 := k8.ch0 c136
 have ck11_0 := ck11_0.ch0 c136
 have c0 := c0.then0 c136
 refine RL.nil (thn_n ?_)
 refine CW.cond (t := b129) rfl (fun q137 => ?_) (fun q137 => ?_)
 ·
  have hS := ifT q137 hS
  refine CW.seq (CW.region ?_)
  refine rl_build (out := (Point.enc ({ addr := Addr.z, port := 0 } : Point))) rfl pl28 Try.zeroValue28 rfl rfl rfl ?_
  refine rl_storeA (vs := (Point.enc ({ addr := Addr.z, port := 0 } : Point))) rfl rfl (all_one rfl) Try.sizeOf28 rfl k8 rfl ?_
  intro w138 s140 c139 k141
  have c0 := c0.then c139 (fun i hi h => absurd (lo9 i h) (Nat.not_le_of_lt hi))
  refine rl_assign rfl rfl ?_
  refine RL.nil (thn_n (CW.ret ?_))
  refine thn_ret ?_
  obtain rfl := hS
  exact ⟨[_, _], ⟨Res1.agg (cs := (Point.enc ({ addr := Addr.z, port := 0 } : Point))) rfl Try.isAgg28 Try.sizeOf28 (k141.segAt 0 18) rfl, rfl, trivial⟩, ⟨rfl, c0⟩⟩
 have hS := ifF q137 hS
 refine CW.skip ?_
 refine thn_n (CW.seq (CW.region ?_))
 refine rl_fieldAddr rfl fa30_4 rfl ?_
 refine rl_loadA (cs := (Point.enc (((mget a0.all y14).getD Tie.z).backend))) rfl Try.isAgg28 Try.sizeOf28 (ck11_0.segAt 21 18) rfl rfl ?_
 refine rl_storeA (vs := (Point.enc (((mget a0.all y14).getD Tie.z).backend))) rfl rfl (all_one rfl) Try.sizeOf28 rfl k8 rfl ?_
 intro w143 s145 c144 k146
 have c0 := c0.then c144 (fun i hi h => absurd (lo9 i h) (Nat.not_le_of_lt hi))
 refine rl_assign rfl rfl ?_
 refine RL.nil (thn_n (CW.ret ?_))
 obtain rfl := hS
 exact ⟨[_, _], ⟨Res1.agg (cs := (Point.enc (((mget a0.all y14).getD Tie.z).backend))) rfl Try.isAgg28 Try.sizeOf28 (k146.segAt 0 18) rfl, rfl, trivial⟩, ⟨rfl, c0⟩⟩
/-- (*lb/ties.Ties).Len -/
theorem ctr16 (F : Nat → Prop) (w : World) (Bb : Nat) (S2 : Nat → Prop) (hB : Bb ≤ w.heap.size) (h2 : ∀ b, S2 b → b < w.heap.size) (po0 : Nat) (az0_0 : Value) (hd2 : ∀ b, (un (inBlk (PV po0)) (inBlk az0_0)) b → ¬ S2 b) (hx0_1 : ∀ b, inBlk (PV po0) b → ¬ inBlk az0_0 b) (a0 : Ties) (ah0 : Blk w po0 69 (Ties.c a0 az0_0)) (ah0_0 : Mp (fun x => Value.agg (Place.enc x).toArray) (fun x => Value.agg (Tie.enc x).toArray) w a0.all az0_0) (r : Int) (hs : F16_Len a0 = r) :
    Ret Try.prog 16 #[(PV po0)] w fun v w' => v = (Value.int .i64 r) ∧ Ch nb w w' := by
 have hS := hs
 have c0 : Ch nb w w := Ch.refl
 refine Ret.of (n := 8) (args := [_]) (rs := [.tmp 2]) Try.func16 rfl rfl rfl rfl ?_
 refine CW.seq (CW.region ?_)
 refine rl_assign rfl rfl ?_
 refine RL.nil (thn_n (CW.seq (CW.region ?_)))
 refine rl_move rfl rfl ?_
 refine rl_nilCheck rfl rfl ?_
 refine rl_fieldAddr rfl fa69_0 rfl ?_
 refine rl_loadS (v := az0_0) rfl Try.isAgg67 (ah0.cell rfl) rfl ?_
 refine rl_lenMap rfl ah0_0 Try.underlying67 rfl ?_
 refine rl_assign rfl rfl ?_
 refine RL.nil (thn_n (CW.ret ?_))
 obtain rfl := hS
 exact ret1 rfl ⟨rfl, c0⟩
/-- lb/lblaw31.alive -/
theorem ctr5 (F : Nat → Prop) (w : World)  (r : Bool) (hs : F5_alive  = some r) :
    Ret Try.prog 5 #[] w fun v w' => v = (Value.bool r) ∧ Ch nb w w' := by
 have hS := hs
 have c0 : Ch nb w w := Ch.refl
 refine Ret.of (n := 42) (args := []) (rs := [.tmp 0]) Try.func5 rfl rfl rfl rfl ?_
 refine CW.seq (CW.region ?_)
 refine rl_assign rfl rfl ?_
 refine RL.nil (thn_n (CW.seq (CW.region ?_)))
 obtain ⟨y3, hy4⟩ : ∃ y, F11_New = y := ⟨_, rfl⟩
 have hS := ltS hy4 hS
 refine rl_callF rfl en11 rfl (ctr11 (G F w.heap.size nb) w  y3 hy4) ?_
 rintro _ w1 ⟨p5, z8, rfl, h6, h7, hf9, hf10, d11, c2⟩
 have lo12 : ∀ b, inBlk (PV p5) b → w.heap.size ≤ b := fun b h => Nat.le_trans c0.size (hf9 b h)
 have lo13 : ∀ b, inBlk z8 b → w.heap.size ≤ b := fun b h => Nat.le_trans c0.size (hf10 b h)
 have c0 := c0.then0 c2
 refine rl_assign rfl rfl ?_
 refine RL.nil (thn_n (CW.seq ?_))
 refine CW.seq (CW.region ?_)
 refine rl_move rfl rfl ?_
 refine rl_bin rfl rfl (B.eqlPN Try.underlying43) rfl ?_
 refine RL.nil (thn_n ?_)
 refine CW.no rfl ?_
 refine CW.skip ?_
 refine thn_n (CW.seq (CW.region ?_))
 refine rl_build (out := (Point.enc ({ addr := Addr.z, port := 7 } : Point))) rfl pl28 Try.zeroValue28 rfl rfl rfl ?_
 refine rl_build (out := (Tie.enc ({ client := Addr.z, service := Key.z, name := ⟨#[]⟩, localF := false, backend := ({ addr := Addr.z, port := 7 } : Point), last := 0 } : Tie))) rfl pl30 Try.zeroValue30 rfl rfl rfl ?_
 refine rl_alloc (Tie.enc Tie.z) Try.zeroValue30 rfl rfl ?_
 intro p14 w15 n16 k17
 have lo18 : ∀ b, inBlk (PV p14) b → w.heap.size ≤ b := fun b h => Nat.le_trans c0.size (n16.fresh b h)
 have d19 : ∀ b, inBlk (PV p14) b → ¬ inBlk (PV p5) b := disNew n16.fresh h6.ltp
 have d20 : ∀ b, inBlk (PV p14) b → ¬ inBlk z8 b := disNew n16.fresh h7.ltp
 have h6 := h6.ch0 n16.ch
 have h7 := h7.ch0 n16.ch
 have c0 := c0.then0 n16.ch
 refine rl_storeA (vs := (Tie.enc ({ client := Addr.z, service := Key.z, name := ⟨#[]⟩, localF := false, backend := ({ addr := Addr.z, port := 7 } : Point), last := 0 } : Tie))) rfl rfl (all_one rfl) Try.sizeOf30 rfl k17 rfl ?_
 intro w21 s23 c22 k24
 have h6 := h6.ch c22 ((fun b hb h => (disSym d19) b hb h) _ rfl)
 have h7 := h7.ch c22 ((fun b hb h => (disSym d20) b hb h))
 have c0 := c0.then c22 (fun i hi h => absurd (lo18 i h) (Nat.not_le_of_lt hi))
 refine RL.nil (thn_n (CW.seq (CW.region ?_)))
 refine rl_move rfl rfl ?_
 refine rl_loadA (cs := (Tie.enc ({ client := Addr.z, service := Key.z, name := ⟨#[]⟩, localF := false, backend := ({ addr := Addr.z, port := 7 } : Point), last := 0 } : Tie))) rfl Try.isAgg30 Try.sizeOf30 (k24.segAt 0 40) rfl rfl ?_
 have hd26 : ∀ b, (un (inBlk (PV p5)) (inBlk z8)) b → ¬ (un (inBlk (PV p14)) nb) b := fun b h => un_el h (fun h => (fun b hb => fun h => un_el h (fun h => (disSym d19) b hb h) (fun h => h)) b h) (fun h => (fun b hb => fun h => un_el h (fun h => (disSym d20) b hb h) (fun h => h)) b h)
 obtain ⟨y30, hy31, hS⟩ := bindS hS
 refine rl_callF rfl en19 rfl (ctr19 F w21 w.heap.size (un (inBlk (PV p14)) nb) c0.size (un_lt k24.ltp nbS) p5 z8 hd26 d11 y3 h6 h7 ({ client := Addr.z, service := Key.z, name := ⟨#[]⟩, localF := false, backend := ({ addr := Addr.z, port := 7 } : Point), last := 0 } : Tie) 3 y30 hy31) ?_
 rintro _ w28 ⟨z32, rfl, h33, h34, hf35, d36, c29⟩
 have d38 : ∀ b, inBlk z32 b → ¬ inBlk (PV p14) b := fun b h hu => (hf35 b h).elim (fun h => un_el h (fun h => (disSym d19) b h hu) (fun h => (disSym d20) b h hu)) (fun h => Nat.not_le_of_lt (k24.ltp b hu) h)
 have k24 := k24.ch c29 ((fun b hb h => un_el h (fun h => d19 b hb h) (fun h => d20 b hb h)) _ rfl)
 have c0 := c0.then c29 (fun i hi h => un_el h (fun h => absurd (lo12 i h) (Nat.not_le_of_lt hi)) (fun h => absurd (lo13 i h) (Nat.not_le_of_lt hi)))
 refine RL.nil (thn_n (CW.seq (CW.region ?_)))
 refine rl_move rfl rfl ?_
 refine rl_loadA (cs := (Tie.enc ({ client := Addr.z, service := Key.z, name := ⟨#[]⟩, localF := false, backend := ({ addr := Addr.z, port := 7 } : Point), last := 0 } : Tie))) rfl Try.isAgg30 Try.sizeOf30 (k24.segAt 0 40) rfl rfl ?_
 have hd41 : ∀ b, (un (inBlk (PV p5)) (inBlk z32)) b → ¬ (un (inBlk (PV p14)) nb) b := fun b h => un_el h (fun h => (fun b hb => fun h => un_el h (fun h => (disSym d19) b hb h) (fun h => h)) b h) (fun h => (fun b hb => fun h => un_el h (fun h => d38 b hb h) (fun h => h)) b h)
 obtain ⟨y45, hy46⟩ : ∃ y, F17_Get y30.2.2 ({ client := Addr.z, service := Key.z, name := ⟨#[]⟩, localF := false, backend := ({ addr := Addr.z, port := 7 } : Point), last := 0 } : Tie) 10 12 = y := ⟨_, rfl⟩
 have hS := ltS hy46 hS
 refine rl_callF rfl en17 rfl (ctr17 F w28 w.heap.size (un (inBlk (PV p14)) nb) c0.size (un_lt k24.ltp nbS) p5 z32 hd41 d36 y30.2.2 h33 h34 ({ client := Addr.z, service := Key.z, name := ⟨#[]⟩, localF := false, backend := ({ addr := Addr.z, port := 7 } : Point), last := 0 } : Tie) 10 12 y45 hy46) ?_
 rintro _ w43 ⟨rfl, c44⟩
 have k24 := k24.ch0 c44
 have h33 := h33.ch0 c44
 have h34 := h34.ch0 c44
 have c0 := c0.then0 c44
 refine rl_move rfl rfl ?_
 refine rl_extract rfl rfl rfl ?_
 refine rl_extract rfl rfl rfl ?_
 refine rl_alloc (Point.enc Point.z) Try.zeroValue28 rfl rfl ?_
 intro p47 w48 n49 k50
 have lo51 : ∀ b, inBlk (PV p47) b → w.heap.size ≤ b := fun b h => Nat.le_trans c0.size (n49.fresh b h)
 have d52 : ∀ b, inBlk (PV p47) b → ¬ inBlk (PV p14) b := disNew n49.fresh k24.ltp
 have d53 : ∀ b, inBlk (PV p47) b → ¬ inBlk (PV p5) b := disNew n49.fresh h33.ltp
 have d54 : ∀ b, inBlk (PV p47) b → ¬ inBlk z32 b := disNew n49.fresh h34.ltp
 have k24 := k24.ch0 n49.ch
 have h33 := h33.ch0 n49.ch
 have h34 := h34.ch0 n49.ch
 have c0 := c0.then0 n49.ch
 refine rl_storeA (vs := (Point.enc y45.1)) rfl rfl (all_one rfl) Try.sizeOf28 rfl k50 rfl ?_
 intro w55 s57 c56 k58
 have k24 := k24.ch c56 ((fun b hb h => (disSym d52) b hb h) _ rfl)
 have h33 := h33.ch c56 ((fun b hb h => (disSym d53) b hb h) _ rfl)
 have h34 := h34.ch c56 ((fun b hb h => (disSym d54) b hb h))
 have c0 := c0.then c56 (fun i hi h => absurd (lo51 i h) (Nat.not_le_of_lt hi))
 refine rl_assign rfl rfl ?_
 refine RL.nil (thn_n (CW.seq (CW.region ?_)))
 refine rl_move rfl rfl ?_
 refine rl_loadA (cs := (Tie.enc ({ client := Addr.z, service := Key.z, name := ⟨#[]⟩, localF := false, backend := ({ addr := Addr.z, port := 7 } : Point), last := 0 } : Tie))) rfl Try.isAgg30 Try.sizeOf30 (k24.segAt 0 40) rfl rfl ?_
 have hd60 : ∀ b, (un (inBlk (PV p5)) (inBlk z32)) b → ¬ (un (inBlk (PV p47)) (un (inBlk (PV p14)) nb)) b := fun b h => un_el h (fun h => (fun b hb => fun h => un_el h (fun h => (disSym d53) b hb h) (fun h => un_el h (fun h => (disSym d19) b hb h) (fun h => h))) b h) (fun h => (fun b hb => fun h => un_el h (fun h => (disSym d54) b hb h) (fun h => un_el h (fun h => d38 b hb h) (fun h => h))) b h)
 obtain ⟨y64, hy65⟩ : ∃ y, F17_Get y30.2.2 ({ client := Addr.z, service := Key.z, name := ⟨#[]⟩, localF := false, backend := ({ addr := Addr.z, port := 7 } : Point), last := 0 } : Tie) 10 13 = y := ⟨_, rfl⟩
 have hS := ltS hy65 hS
 refine rl_callF rfl en17 rfl (ctr17 F w55 w.heap.size (un (inBlk (PV p47)) (un (inBlk (PV p14)) nb)) c0.size (un_lt k58.ltp (un_lt k24.ltp nbS)) p5 z32 hd60 d36 y30.2.2 h33 h34 ({ client := Addr.z, service := Key.z, name := ⟨#[]⟩, localF := false, backend := ({ addr := Addr.z, port := 7 } : Point), last := 0 } : Tie) 10 13 y64 hy65) ?_
 rintro _ w62 ⟨rfl, c63⟩
 have k24 := k24.ch0 c63
 have h33 := h33.ch0 c63
 have h34 := h34.ch0 c63
 have k58 := k58.ch0 c63
 have c0 := c0.then0 c63
 refine rl_move rfl rfl ?_
 refine rl_extract rfl rfl rfl ?_
 refine rl_extract rfl rfl rfl ?_
 refine rl_alloc (Point.enc Point.z) Try.zeroValue28 rfl rfl ?_
 intro p66 w67 n68 k69
 have lo70 : ∀ b, inBlk (PV p66) b → w.heap.size ≤ b := fun b h => Nat.le_trans c0.size (n68.fresh b h)
 have d71 : ∀ b, inBlk (PV p66) b → ¬ inBlk (PV p47) b := disNew n68.fresh k58.ltp
 have d72 : ∀ b, inBlk (PV p66) b → ¬ inBlk (PV p14) b := disNew n68.fresh k24.ltp
 have d73 : ∀ b, inBlk (PV p66) b → ¬ inBlk (PV p5) b := disNew n68.fresh h33.ltp
 have d74 : ∀ b, inBlk (PV p66) b → ¬ inBlk z32 b := disNew n68.fresh h34.ltp
 have k24 := k24.ch0 n68.ch
 have h33 := h33.ch0 n68.ch
 have h34 := h34.ch0 n68.ch
 have k58 := k58.ch0 n68.ch
 have c0 := c0.then0 n68.ch
 refine rl_storeA (vs := (Point.enc y64.1)) rfl rfl (all_one rfl) Try.sizeOf28 rfl k69 rfl ?_
 intro w75 s77 c76 k78
 have k24 := k24.ch c76 ((fun b hb h => (disSym d72) b hb h) _ rfl)
 have h33 := h33.ch c76 ((fun b hb h => (disSym d73) b hb h) _ rfl)
 have h34 := h34.ch c76 ((fun b hb h => (disSym d74) b hb h))
 have k58 := k58.ch c76 ((fun b hb h => (disSym d71) b hb h) _ rfl)
 have c0 := c0.then c76 (fun i hi h => absurd (lo70 i h) (Nat.not_le_of_lt hi))
 refine rl_assign rfl rfl ?_
 refine RL.nil (thn_n (CW.seq (CW.region ?_)))
 refine rl_move rfl rfl ?_
 refine rl_move rfl rfl ?_
 obtain ⟨b82, hb83⟩ : ∃ v, (y45.2 && (decide (y45.1.port = 7))) = v := ⟨_, rfl⟩
 have hS := ltS hb83 hS
 refine RL.join 4 32 (.bool b82) (fun w' => Ch nb w75 w') ?_ ?_
 · rcases Bool.eq_false_or_eq_true y45.2 with hg81 | hg81
   ·
    have hs80 := and_t hg81 hb83
    have cs : Ch nb w75 w75 := Ch.refl
    refine RL.yes rfl rfl rfl hg81 ?_
    refine rl_fieldAddr rfl fa28_1 rfl ?_
    refine RL.yes rfl rfl rfl hg81 ?_
    refine rl_loadS (v := (Value.int .i64 y45.1.port)) rfl Try.isAgg3 (k58.cell rfl) rfl ?_
    refine RL.yes rfl rfl rfl hg81 ?_
    refine rl_bin rfl rfl B.eql rfl ?_
    refine rl_pickT rfl hg81 rfl rfl ?_
    exact RL.nil ⟨Ext.bothEq (congrArg Value.bool hs80) (Ext.skip rfl (Ext.skip rfl (Ext.skip rfl (Ext.rfl')))), cs⟩
   ·
    have hs80 := and_f hg81 hb83
    have cs : Ch nb w75 w75 := Ch.refl
    refine RL.no rfl rfl rfl hg81 rfl rfl ?_
    refine RL.no rfl rfl rfl hg81 rfl rfl ?_
    refine RL.no rfl rfl rfl hg81 rfl rfl ?_
    refine rl_pickF rfl hg81 rfl rfl ?_
    exact RL.nil ⟨Ext.bothEq (congrArg Value.bool hs80) (Ext.skip rfl (Ext.skip rfl (Ext.skip rfl (Ext.rfl')))), cs⟩
 intro w84 c85
 have k24 := k24.ch0 c85
 have h33 := h33.ch0 c85
 have h34 := h34.ch0 c85
 have k58 := k58.ch0 c85
 have k78 := k78.ch0 c85
 have c0 := c0.then0 c85
 refine rl_move rfl rfl ?_
 obtain ⟨b88, hb89⟩ : ∃ v, (b82 && (!y64.2)) = v := ⟨_, rfl⟩
 have hS := ltS hb89 hS
 refine RL.join 3 36 (.bool b88) (fun w' => Ch nb w84 w') ?_ ?_
 · rcases Bool.eq_false_or_eq_true b82 with hg87 | hg87
   ·
    have hs86 := and_t hg87 hb89
    have cs : Ch nb w84 w84 := Ch.refl
    refine RL.yes rfl rfl rfl hg87 ?_
    refine rl_move rfl rfl ?_
    refine RL.yes rfl rfl rfl hg87 ?_
    refine rl_not rfl rfl ?_
    refine rl_pickT rfl hg87 rfl rfl ?_
    exact RL.nil ⟨Ext.bothEq (congrArg Value.bool hs86) (Ext.skip rfl (Ext.skip rfl (Ext.rfl'))), cs⟩
   ·
    have hs86 := and_f hg87 hb89
    have cs : Ch nb w84 w84 := Ch.refl
    refine RL.no rfl rfl rfl hg87 rfl rfl ?_
    refine RL.no rfl rfl rfl hg87 rfl rfl ?_
    refine rl_pickF rfl hg87 rfl rfl ?_
    exact RL.nil ⟨Ext.bothEq (congrArg Value.bool hs86) (Ext.skip rfl (Ext.skip rfl (Ext.rfl'))), cs⟩
 intro w90 c91
 have k24 := k24.ch0 c91
 have h33 := h33.ch0 c91
 have h34 := h34.ch0 c91
 have k58 := k58.ch0 c91
 have k78 := k78.ch0 c91
 have c0 := c0.then0 c91
 refine rl_move rfl rfl ?_
 obtain ⟨b94, hb95⟩ : ∃ v, (b88 && (lt (F16_Len y30.2.2) fun y98 => decide (y98 = 1))) = v := ⟨_, rfl⟩
 have hS := ltS hb95 hS
 refine RL.join 4 41 (.bool b94) (fun w' => Ch nb w90 w') ?_ ?_
 · rcases Bool.eq_false_or_eq_true b88 with hg93 | hg93
   ·
    have hs92 := and_t hg93 hb95
    have cs : Ch nb w90 w90 := Ch.refl
    refine RL.yes rfl rfl rfl hg93 ?_
    refine rl_move rfl rfl ?_
    refine RL.yes rfl rfl rfl hg93 ?_
    have hd97 : ∀ b, (un (inBlk (PV p5)) (inBlk z32)) b → ¬ (un (inBlk (PV p66)) (un (inBlk (PV p47)) (un (inBlk (PV p14)) nb))) b := fun b h => un_el h (fun h => (fun b hb => fun h => un_el h (fun h => (disSym d73) b hb h) (fun h => un_el h (fun h => (disSym d53) b hb h) (fun h => un_el h (fun h => (disSym d19) b hb h) (fun h => h)))) b h) (fun h => (fun b hb => fun h => un_el h (fun h => (disSym d74) b hb h) (fun h => un_el h (fun h => (disSym d54) b hb h) (fun h => un_el h (fun h => d38 b hb h) (fun h => h)))) b h)
    obtain ⟨y101, hy102⟩ : ∃ y, F16_Len y30.2.2 = y := ⟨_, rfl⟩
    have hs92 := ltS hy102 hs92
    refine rl_callF rfl en16 rfl (ctr16 F w90 w.heap.size (un (inBlk (PV p66)) (un (inBlk (PV p47)) (un (inBlk (PV p14)) nb))) c0.size (un_lt k78.ltp (un_lt k58.ltp (un_lt k24.ltp nbS))) p5 z32 hd97 d36 y30.2.2 h33 h34 y101 hy102) ?_
    rintro _ w99 ⟨rfl, c100⟩
    refine RL.yes rfl rfl rfl hg93 ?_
    refine rl_bin rfl rfl B.eql rfl ?_
    refine rl_pickT rfl hg93 rfl rfl ?_
    have cs := cs.then0 c100
    exact RL.nil ⟨Ext.bothEq (congrArg Value.bool hs92) (Ext.skip rfl (Ext.skip rfl (Ext.skip rfl (Ext.rfl')))), cs⟩
   ·
    have hs92 := and_f hg93 hb95
    have cs : Ch nb w90 w90 := Ch.refl
    refine RL.no rfl rfl rfl hg93 rfl rfl ?_
    refine RL.no rfl rfl rfl hg93 rfl rfl ?_
    refine RL.no rfl rfl rfl hg93 rfl rfl ?_
    refine rl_pickF rfl hg93 rfl rfl ?_
    exact RL.nil ⟨Ext.bothEq (congrArg Value.bool hs92) (Ext.skip rfl (Ext.skip rfl (Ext.skip rfl (Ext.rfl')))), cs⟩
 intro w96 c103
 have c0 := c0.then0 c103
 refine rl_assign rfl rfl ?_
 refine RL.nil (thn_n (CW.ret ?_))
 obtain rfl := Option.some.inj hS
 exact ret1 rfl ⟨rfl, c0⟩
/-- lb/lblaw31.Long -/
theorem ctr6 (F : Nat → Prop) (w : World) (a0 : (List Act)) (av0 : Value) (ah0 : slRep k_Act F w a0 av0) (r : Bool) (hs : F6_Long a0 = r) :
    Ret Try.prog 6 #[av0] w fun v w' => v = (Value.bool r) ∧ Ch nb w w' := by
 have hS := hs
 have c0 : Ch nb w w := Ch.refl
 have ah0 := slRep.enter k_Act_pos ah0
 refine Ret.of (n := 36) (args := [_]) (rs := [.tmp 2]) Try.func6 rfl rfl rfl rfl ?_
 refine CW.seq (CW.region ?_)
 refine rl_assign rfl rfl ?_
 refine RL.nil (thn_n (CW.seq ?_))
 refine CW.seq (CW.region ?_)
 refine rl_move rfl rfl ?_
 refine rl_lenR rfl ah0 Try.underlying36 rfl ?_
 refine rl_bin rfl rfl B.gtr rfl ?_
 refine RL.nil (thn_n ?_)
 refine CW.cond (t := decide (((a0.length : Nat) : Int) > 60)) rfl (fun q1 => ?_) (fun q1 => ?_)
 ·
  have hS := ifT q1 hS
  refine CW.seq (CW.region ?_)
  refine rl_assign rfl rfl ?_
  refine RL.nil (thn_n (CW.ret ?_))
  refine thn_ret ?_
  obtain rfl := hS
  exact ret1 rfl ⟨rfl, c0⟩
 have hS := ifF q1 hS
 refine CW.skip ?_
 refine thn_n (CW.seq ?_)
 refine CW.seq (CW.region ?_)
 refine rl_move rfl rfl ?_
 refine rl_lenR rfl ah0 Try.underlying36 rfl ?_
 refine rl_move rfl rfl ?_
 refine RL.nil (thn_n ?_)
 obtain ⟨o9, ho10⟩ : ∃ o, runB F6_Long_b1 a0 () = o := ⟨_, rfl⟩
 have hS := ltS ho10 hS
 refine CW.cutB (fun E' w' => ∃ (_ : Unit), Sub [] E' ∧ Ch nb w w' ∧ Lp.fin () = o9 ∧ slRep k_Act (G F w.heap.size nb) w' a0 av0) ?_ ?_
 ·
  refine CW.loopS [(8, av0), (9, (Value.int .i64 ((a0.length : Nat) : Int))), (10, (Value.int .i64 ((0 : Nat) : Int)))] ⟨rfl, rfl, rfl, trivial⟩ a0.length (fun m E w' => ∃ (rest2 : List Act) (i3 : Nat) , m = rest2.length ∧ E = [(8, av0), (9, (Value.int .i64 ((a0.length : Nat) : Int))), (10, (Value.int .i64 ((i3 : Nat) : Int)))] ∧ Ch nb w w' ∧ At a0 i3 rest2 ∧ runB F6_Long_b1 rest2 () = o9 ∧ slRep k_Act (G F w.heap.size nb) w' a0 av0)
      ⟨a0, 0, rfl, rfl, c0, At.start, ho10, ah0⟩ ?_
  rintro _ _ w15 ⟨rest2, i3, rfl, rfl, c14, hat5, hL4, ah0⟩
  refine CW.seq (CW.region ?_)
  refine rl_bin rfl rfl B.lss rfl ?_
  refine RL.nil (thn_n ?_)
  refine CW.seq ?_
  refine CW.cond (t := decide (((i3 : Nat) : Int) < ((a0.length : Nat) : Int))) rfl (fun q17 => ?_) (fun q17 => ?_)
  ·
   obtain ⟨x11, rest18, rfl⟩ := hat5.cons q17
   obtain ⟨q6, hq7⟩ : ∃ q, F6_Long_b1 x11 () = q := ⟨_, rfl⟩
   have hb8 := hq7
   refine CW.skip (thn_n ?_)
   refine CW.seq ?_
   refine CW.block ?_
   refine CW.seq (CW.region ?_)
   refine rl_ixR rfl ah0 rfl hat5.get Try.underlying36 Try.sizeOf35 rfl ?_
   intro p19 o20 cs21 hr22 hs23 hg24
   obtain rfl := hr22
   refine rl_loadA (cs := (Act.enc x11)) rfl Try.isAgg35 Try.sizeOf35 (hs23) rfl rfl ?_
   refine rl_alloc (Act.enc Act.z) Try.zeroValue35 rfl rfl ?_
   intro p25 w26 n27 k28
   have lo29 : ∀ b, inBlk (PV p25) b → w.heap.size ≤ b := fun b h => Nat.le_trans c14.size (n27.fresh b h)
   have ah0 := slRep.st k_Act_pos ah0 n27.ch (admNew n27.fresh (fun _ x => x))
   have c14 := c14.then0 n27.ch
   refine rl_storeA (vs := (Act.enc x11)) rfl rfl (all_one rfl) Try.sizeOf35 rfl k28 rfl ?_
   intro w30 s32 c31 k33
   have ad34 : ∀ b, b < w26.heap.size → ¬ (un (inBlk (PV p25)) nb) b → ¬ (inBlk (PV p25)) b ∧ ¬ (un (inBlk (PV p25)) nb) b := fun b _ hs => ⟨fun h => hs (.inl h), hs⟩
   have ah0 := slRep.st k_Act_pos ah0 c31 ad34
   have c14 := c14.then c31 (fun i hi h => absurd (lo29 i h) (Nat.not_le_of_lt hi))
   refine RL.nil (thn_n (CW.seq (CW.region ?_)))
   refine rl_fieldAddr rfl fa35_3 rfl ?_
   refine rl_fieldAddr rfl fa30_2 rfl ?_
   refine rl_loadS (v := (Value.string x11.tie.name)) rfl Try.isAgg9 (k33.cell rfl) rfl ?_
   refine rl_lenStr rfl Try.underlying9 rfl ?_
   refine rl_bin rfl rfl B.gtr rfl ?_
   refine rl_move rfl rfl ?_
   obtain ⟨b37, hb38⟩ : ∃ v, ((decide (((x11.tie.name.size : Nat) : Int) > 100)) || (decide (((x11.tie.service.space.size : Nat) : Int) > 100))) = v := ⟨_, rfl⟩
   have hb8 := ltS hb38 hb8
   refine RL.join 7 26 (.bool b37) (fun w' => Ch nb w30 w') ?_ ?_
   · rcases Bool.eq_false_or_eq_true (decide (((x11.tie.name.size : Nat) : Int) > 100)) with hg36 | hg36
     ·
      have hs35 := or_t hg36 hb38
      have cs : Ch nb w30 w30 := Ch.refl
      refine RL.no rfl rfl rfl hg36 rfl rfl ?_
      refine RL.no rfl rfl rfl hg36 rfl rfl ?_
      refine RL.no rfl rfl rfl hg36 rfl rfl ?_
      refine RL.no rfl rfl rfl hg36 rfl rfl ?_
      refine RL.no rfl rfl rfl hg36 rfl rfl ?_
      refine RL.no rfl rfl rfl hg36 rfl rfl ?_
      refine rl_pickT rfl hg36 rfl rfl ?_
      exact RL.nil ⟨Ext.bothEq (congrArg Value.bool hs35) (Ext.skip rfl (Ext.skip rfl (Ext.skip rfl (Ext.skip rfl (Ext.skip rfl (Ext.skip rfl (Ext.rfl'))))))), cs⟩
     ·
      have hs35 := or_f hg36 hb38
      have cs : Ch nb w30 w30 := Ch.refl
      refine RL.yes rfl rfl rfl hg36 ?_
      refine rl_fieldAddr rfl fa35_3 rfl ?_
      refine RL.yes rfl rfl rfl hg36 ?_
      refine rl_fieldAddr rfl fa30_1 rfl ?_
      refine RL.yes rfl rfl rfl hg36 ?_
      refine rl_fieldAddr rfl fa26_0 rfl ?_
      refine RL.yes rfl rfl rfl hg36 ?_
      refine rl_loadS (v := (Value.string x11.tie.service.space)) rfl Try.isAgg9 (k33.cell rfl) rfl ?_
      refine RL.yes rfl rfl rfl hg36 ?_
      refine rl_lenStr rfl Try.underlying9 rfl ?_
      refine RL.yes rfl rfl rfl hg36 ?_
      refine rl_bin rfl rfl B.gtr rfl ?_
      refine rl_pickF rfl hg36 rfl rfl ?_
      exact RL.nil ⟨Ext.bothEq (congrArg Value.bool hs35) (Ext.skip rfl (Ext.skip rfl (Ext.skip rfl (Ext.skip rfl (Ext.skip rfl (Ext.skip rfl (Ext.rfl'))))))), cs⟩
   intro w39 c40
   have ah0 := slRep.ch k_Act_pos ah0 c40
   have k33 := k33.ch0 c40
   have c14 := c14.then0 c40
   refine rl_move rfl rfl ?_
   obtain ⟨b43, hb44⟩ : ∃ v, (b37 || (decide (((x11.tie.service.name.size : Nat) : Int) > 100))) = v := ⟨_, rfl⟩
   have hb8 := ltS hb44 hb8
   refine RL.join 7 34 (.bool b43) (fun w' => Ch nb w39 w') ?_ ?_
   · rcases Bool.eq_false_or_eq_true b37 with hg42 | hg42
     ·
      have hs41 := or_t hg42 hb44
      have cs : Ch nb w39 w39 := Ch.refl
      refine RL.no rfl rfl rfl hg42 rfl rfl ?_
      refine RL.no rfl rfl rfl hg42 rfl rfl ?_
      refine RL.no rfl rfl rfl hg42 rfl rfl ?_
      refine RL.no rfl rfl rfl hg42 rfl rfl ?_
      refine RL.no rfl rfl rfl hg42 rfl rfl ?_
      refine RL.no rfl rfl rfl hg42 rfl rfl ?_
      refine rl_pickT rfl hg42 rfl rfl ?_
      exact RL.nil ⟨Ext.bothEq (congrArg Value.bool hs41) (Ext.skip rfl (Ext.skip rfl (Ext.skip rfl (Ext.skip rfl (Ext.skip rfl (Ext.skip rfl (Ext.rfl'))))))), cs⟩
     ·
      have hs41 := or_f hg42 hb44
      have cs : Ch nb w39 w39 := Ch.refl
      refine RL.yes rfl rfl rfl hg42 ?_
      refine rl_fieldAddr rfl fa35_3 rfl ?_
      refine RL.yes rfl rfl rfl hg42 ?_
      refine rl_fieldAddr rfl fa30_1 rfl ?_
      refine RL.yes rfl rfl rfl hg42 ?_
      refine rl_fieldAddr rfl fa26_1 rfl ?_
      refine RL.yes rfl rfl rfl hg42 ?_
      refine rl_loadS (v := (Value.string x11.tie.service.name)) rfl Try.isAgg9 (k33.cell rfl) rfl ?_
      refine RL.yes rfl rfl rfl hg42 ?_
      refine rl_lenStr rfl Try.underlying9 rfl ?_
      refine RL.yes rfl rfl rfl hg42 ?_
      refine rl_bin rfl rfl B.gtr rfl ?_
      refine rl_pickF rfl hg42 rfl rfl ?_
      exact RL.nil ⟨Ext.bothEq (congrArg Value.bool hs41) (Ext.skip rfl (Ext.skip rfl (Ext.skip rfl (Ext.skip rfl (Ext.skip rfl (Ext.skip rfl (Ext.rfl'))))))), cs⟩
   intro w45 c46
   have ah0 := slRep.ch k_Act_pos ah0 c46
   have c14 := c14.then0 c46
   refine RL.nil (thn_n ?_)
   refine CW.cond (t := b43) rfl (fun q47 => ?_) (fun q47 => ?_)
   ·
    have hb8 := ifT q47 hb8
    refine CW.seq (CW.region ?_)
    refine rl_assign rfl rfl ?_
    refine RL.nil (thn_n (CW.ret ?_))
    refine inB_ret ?_
    refine thn_ret ?_
    refine thn_ret (inB_ret (thn_ret ?_))
    refine thn_ret ?_
    have f48 := runB_ret hL4 (hb8.trans hq7.symm)
    have hS := retS f48 hS
    obtain rfl := hS
    exact ret1 rfl ⟨rfl, c14⟩
   have hb8 := ifF q47 hb8
   refine CW.skip ?_
   refine inB_n ?_
   refine thn_n (CW.region ?_)
   refine rl_inc rfl hat5.lt ah0.big rfl ?_
   refine rl_move rfl rfl ?_
   refine RL.nil (thn_n ?_)
   have ad49 : ∀ b, b < w45.heap.size → ¬ (un (inBlk (PV p25)) nb) b → ¬ nb b ∧ ¬ nb b := fun b _ hs => ⟨fun x => x, fun h => hs (False.elim h)⟩
   have crf : Ch nb w45 w45 := Ch.refl
   have ah0 := slRep.st k_Act_pos ah0 crf ad49
   have c14 := c14.then0 crf
   have hLn := runB_next hL4 (hb8.trans hq7.symm)
   exact ⟨rest18.length, Nat.lt_succ_self _, [(8, av0), (9, (Value.int .i64 ((a0.length : Nat) : Int))), (10, (Value.int .i64 ((i3 + 1 : Nat) : Int)))], ⟨rfl, rfl, rfl, trivial⟩, ⟨rest18, i3 + 1, rfl, rfl, c14, hat5.next, hLn, ah0⟩⟩
  obtain rfl := hat5.nil q17
  have hLf : Lp.fin () = o9 := hL4
  refine CW.exit (thn_exit (thn_exit (inB_hit ?_)))
  exact ⟨(), trivial, c14, hLf, ah0⟩
 rintro _ w51 ⟨_, hE52, c50, f53, ah0⟩
 have hS := finS f53 hS
 refine thn_n (CW.sub [] hE52 ?_)
 refine CW.seq (CW.region ?_)
 refine rl_assign rfl rfl ?_
 refine RL.nil (thn_n (CW.ret ?_))
 obtain rfl := hS
 exact ret1 rfl ⟨rfl, c50⟩
/-- lb/lbref31.same -/
theorem ctr46 (F : Nat → Prop) (w : World) (a0 : Tie) (a1 : Tie) (r : Bool) (hs : F46_same a0 a1 = r) :
    Ret Try.prog 46 #[(Value.agg (Tie.enc a0).toArray), (Value.agg (Tie.enc a1).toArray)] w fun v w' => v = (Value.bool r) ∧ Ch nb w w' := by
 have hS := hs
 have c0 : Ch nb w w := Ch.refl
 refine Ret.of (n := 31) (args := [_, _]) (rs := [.tmp 4]) Try.func46 rfl rfl rfl rfl ?_
 refine CW.seq (CW.region ?_)
 refine rl_boxA (cs := (Tie.enc a0)) rfl rfl ?_
 intro p1 w2 n3 k4
 have c0 := c0.then0 n3.ch
 refine rl_boxA (cs := (Tie.enc a1)) rfl rfl ?_
 intro p5 w6 n7 k8
 have k4 := k4.ch0 n7.ch
 have c0 := c0.then0 n7.ch
 refine rl_assign rfl rfl ?_
 refine RL.nil (thn_n (CW.seq (CW.region ?_)))
 refine rl_fieldAddr rfl fa37_0 rfl ?_
 refine rl_loadA (cs := (Addr.enc a0.client)) rfl Try.isAgg24 Try.sizeOf24 (k4.segAt 0 17) rfl rfl ?_
 refine rl_fieldAddr rfl fa37_0 rfl ?_
 refine rl_loadA (cs := (Addr.enc a1.client)) rfl Try.isAgg24 Try.sizeOf24 (k8.segAt 0 17) rfl rfl ?_
 refine rl_bin rfl rfl (eql24 a0.client a1.client) rfl ?_
 refine rl_move rfl rfl ?_
 obtain ⟨b11, hb12⟩ : ∃ v, ((decide (a0.client = a1.client)) && (decide (a0.service = a1.service))) = v := ⟨_, rfl⟩
 have hS := ltS hb12 hS
 refine RL.join 6 16 (.bool b11) (fun w' => Ch nb w6 w') ?_ ?_
 · rcases Bool.eq_false_or_eq_true (decide (a0.client = a1.client)) with hg10 | hg10
   ·
    have hs9 := and_t hg10 hb12
    have cs : Ch nb w6 w6 := Ch.refl
    refine RL.yes rfl rfl rfl hg10 ?_
    refine rl_fieldAddr rfl fa37_1 rfl ?_
    refine RL.yes rfl rfl rfl hg10 ?_
    refine rl_loadA (cs := (Key.enc a0.service)) rfl Try.isAgg26 Try.sizeOf26 (k4.segAt 17 2) rfl rfl ?_
    refine RL.yes rfl rfl rfl hg10 ?_
    refine rl_fieldAddr rfl fa37_1 rfl ?_
    refine RL.yes rfl rfl rfl hg10 ?_
    refine rl_loadA (cs := (Key.enc a1.service)) rfl Try.isAgg26 Try.sizeOf26 (k8.segAt 17 2) rfl rfl ?_
    refine RL.yes rfl rfl rfl hg10 ?_
    refine rl_bin rfl rfl (eql26 a0.service a1.service) rfl ?_
    refine rl_pickT rfl hg10 rfl rfl ?_
    exact RL.nil ⟨Ext.bothEq (congrArg Value.bool hs9) (Ext.skip rfl (Ext.skip rfl (Ext.skip rfl (Ext.skip rfl (Ext.skip rfl (Ext.rfl')))))), cs⟩
   ·
    have hs9 := and_f hg10 hb12
    have cs : Ch nb w6 w6 := Ch.refl
    refine RL.no rfl rfl rfl hg10 rfl rfl ?_
    refine RL.no rfl rfl rfl hg10 rfl rfl ?_
    refine RL.no rfl rfl rfl hg10 rfl rfl ?_
    refine RL.no rfl rfl rfl hg10 rfl rfl ?_
    refine RL.no rfl rfl rfl hg10 rfl rfl ?_
    refine rl_pickF rfl hg10 rfl rfl ?_
    exact RL.nil ⟨Ext.bothEq (congrArg Value.bool hs9) (Ext.skip rfl (Ext.skip rfl (Ext.skip rfl (Ext.skip rfl (Ext.skip rfl (Ext.rfl')))))), cs⟩
 intro w13 c14
 have k4 := k4.ch0 c14
 have k8 := k8.ch0 c14
 have c0 := c0.then0 c14
 refine rl_move rfl rfl ?_
 obtain ⟨b17, hb18⟩ : ∃ v, (b11 && (decide (a0.name = a1.name))) = v := ⟨_, rfl⟩
 have hS := ltS hb18 hS
 refine RL.join 6 23 (.bool b17) (fun w' => Ch nb w13 w') ?_ ?_
 · rcases Bool.eq_false_or_eq_true b11 with hg16 | hg16
   ·
    have hs15 := and_t hg16 hb18
    have cs : Ch nb w13 w13 := Ch.refl
    refine RL.yes rfl rfl rfl hg16 ?_
    refine rl_fieldAddr rfl fa37_2 rfl ?_
    refine RL.yes rfl rfl rfl hg16 ?_
    refine rl_loadS (v := (Value.string a0.name)) rfl Try.isAgg9 (k4.cell rfl) rfl ?_
    refine RL.yes rfl rfl rfl hg16 ?_
    refine rl_fieldAddr rfl fa37_2 rfl ?_
    refine RL.yes rfl rfl rfl hg16 ?_
    refine rl_loadS (v := (Value.string a1.name)) rfl Try.isAgg9 (k8.cell rfl) rfl ?_
    refine RL.yes rfl rfl rfl hg16 ?_
    refine rl_bin rfl rfl B.eqlS rfl ?_
    refine rl_pickT rfl hg16 rfl rfl ?_
    exact RL.nil ⟨Ext.bothEq (congrArg Value.bool hs15) (Ext.skip rfl (Ext.skip rfl (Ext.skip rfl (Ext.skip rfl (Ext.skip rfl (Ext.rfl')))))), cs⟩
   ·
    have hs15 := and_f hg16 hb18
    have cs : Ch nb w13 w13 := Ch.refl
    refine RL.no rfl rfl rfl hg16 rfl rfl ?_
    refine RL.no rfl rfl rfl hg16 rfl rfl ?_
    refine RL.no rfl rfl rfl hg16 rfl rfl ?_
    refine RL.no rfl rfl rfl hg16 rfl rfl ?_
    refine RL.no rfl rfl rfl hg16 rfl rfl ?_
    refine rl_pickF rfl hg16 rfl rfl ?_
    exact RL.nil ⟨Ext.bothEq (congrArg Value.bool hs15) (Ext.skip rfl (Ext.skip rfl (Ext.skip rfl (Ext.skip rfl (Ext.skip rfl (Ext.rfl')))))), cs⟩
 intro w19 c20
 have k4 := k4.ch0 c20
 have k8 := k8.ch0 c20
 have c0 := c0.then0 c20
 refine rl_move rfl rfl ?_
 obtain ⟨b23, hb24⟩ : ∃ v, (b17 && (a0.localF == a1.localF)) = v := ⟨_, rfl⟩
 have hS := ltS hb24 hS
 refine RL.join 6 30 (.bool b23) (fun w' => Ch nb w19 w') ?_ ?_
 · rcases Bool.eq_false_or_eq_true b17 with hg22 | hg22
   ·
    have hs21 := and_t hg22 hb24
    have cs : Ch nb w19 w19 := Ch.refl
    refine RL.yes rfl rfl rfl hg22 ?_
    refine rl_fieldAddr rfl fa37_3 rfl ?_
    refine RL.yes rfl rfl rfl hg22 ?_
    refine rl_loadS (v := (Value.bool a0.localF)) rfl Try.isAgg4 (k4.cell rfl) rfl ?_
    refine RL.yes rfl rfl rfl hg22 ?_
    refine rl_fieldAddr rfl fa37_3 rfl ?_
    refine RL.yes rfl rfl rfl hg22 ?_
    refine rl_loadS (v := (Value.bool a1.localF)) rfl Try.isAgg4 (k8.cell rfl) rfl ?_
    refine RL.yes rfl rfl rfl hg22 ?_
    refine rl_bin rfl rfl (B.eqlB Try.underlying4) rfl ?_
    refine rl_pickT rfl hg22 rfl rfl ?_
    exact RL.nil ⟨Ext.bothEq (congrArg Value.bool hs21) (Ext.skip rfl (Ext.skip rfl (Ext.skip rfl (Ext.skip rfl (Ext.skip rfl (Ext.rfl')))))), cs⟩
   ·
    have hs21 := and_f hg22 hb24
    have cs : Ch nb w19 w19 := Ch.refl
    refine RL.no rfl rfl rfl hg22 rfl rfl ?_
    refine RL.no rfl rfl rfl hg22 rfl rfl ?_
    refine RL.no rfl rfl rfl hg22 rfl rfl ?_
    refine RL.no rfl rfl rfl hg22 rfl rfl ?_
    refine RL.no rfl rfl rfl hg22 rfl rfl ?_
    refine rl_pickF rfl hg22 rfl rfl ?_
    exact RL.nil ⟨Ext.bothEq (congrArg Value.bool hs21) (Ext.skip rfl (Ext.skip rfl (Ext.skip rfl (Ext.skip rfl (Ext.skip rfl (Ext.rfl')))))), cs⟩
 intro w25 c26
 have c0 := c0.then0 c26
 refine rl_assign rfl rfl ?_
 refine RL.nil (thn_n (CW.ret ?_))
 obtain rfl := hS
 exact ret1 rfl ⟨rfl, c0⟩
/-- (*lb/lbref31.Ties).find -/
theorem ctr36 (F : Nat → Prop) (w : World) (Bb : Nat) (S2 : Nat → Prop) (hB : Bb ≤ w.heap.size) (h2 : ∀ b, S2 b → b < w.heap.size) (po0 : Nat) (az0_0 : Value) (hd2 : ∀ b, (un (inBlk (PV po0)) (inBlk az0_0)) b → ¬ S2 b) (hx0_1 : ∀ b, inBlk (PV po0) b → ¬ inBlk az0_0 b) (a0 : Ties_2) (ah0 : Blk w po0 48 (Ties_2.c a0 az0_0)) (ah0_0 : SlO k_Tie 37 F Bb (un (inBlk (PV po0)) (un (inBlk az0_0) S2)) w a0.all az0_0) (a1 : Tie) (r : Int) (hs : F36_find a0 a1 = r) :
    Ret Try.prog 36 #[(PV po0), (Value.agg (Tie.enc a1).toArray)] w fun v w' => v = (Value.int .i64 r) ∧ Ch nb w w' := by
 have hS := hs
 have c0 : Ch nb w w := Ch.refl
 have lin1_0 : ∀ b, inBlk az0_0 b → (un (inBlk (PV po0)) (inBlk az0_0)) b ∨ w.heap.size ≤ b := fun b h => .inl (.inr h)
 refine Ret.of (n := 22) (args := [_, _]) (rs := [.tmp 4]) Try.func36 rfl rfl rfl rfl ?_
 refine CW.seq (CW.region ?_)
 refine rl_boxA (cs := (Tie.enc a1)) rfl rfl ?_
 intro p1 w2 n3 k4
 have gp1 : (G F Bb (un (inBlk (PV po0)) (un (inBlk az0_0) S2))) p1 := ⟨.inr (by rw [n3.eq]; exact (Nat.le_trans hB c0.size)), fun h => absurd ((un_lt ah0.ltp (un_lt (fun b hb => (ah0_0.lt b hb).2) (fun b h => Nat.lt_of_lt_of_le (h2 b h) c0.size))) _ h) (by rw [n3.eq]; exact Nat.lt_irrefl _)⟩
 have ah0 := ah0.ch0 n3.ch
 have ah0_0 := ah0_0.ch0 n3.ch
 have c0 := c0.then0 n3.ch
 refine rl_assign rfl rfl ?_
 refine RL.nil (thn_n (CW.seq ?_))
 refine CW.seq (CW.region ?_)
 refine rl_move rfl rfl ?_
 refine rl_nilCheck rfl rfl ?_
 refine rl_fieldAddr rfl fa48_0 rfl ?_
 refine rl_loadS (v := az0_0) rfl Try.isAgg46 (ah0.cell rfl) rfl ?_
 refine rl_lenR rfl (SlO.read (S' := (un (inBlk (PV po0)) S2)) k_Tie_pos ah0_0 (fun b hs h => hs (un_el h (fun h => (.inl h)) (fun h => (.inr (.inr h))))) (fun b hb => fun h => un_el h (fun h => (disSym hx0_1) b hb h) (linNot lin1_0 hd2 h2 b hb))) Try.underlying46 rfl ?_
 refine rl_move rfl rfl ?_
 refine RL.nil (thn_n ?_)
 have ad5 : ∀ b, b < w2.heap.size → ¬ (un (inBlk (PV po0)) (un (inBlk az0_0) S2)) b → ¬ nb b ∧ ¬ (un (inBlk (PV po0)) S2) b := fun b _ hs => ⟨fun x => x, fun h => hs (un_el h (fun h => (.inl h)) (fun h => (.inr (.inr h))))⟩
 have ah0_0 := SlO.read (S' := (un (inBlk (PV po0)) S2)) k_Tie_pos ah0_0 (fun b hs h => hs (un_el h (fun h => (.inl h)) (fun h => (.inr (.inr h))))) (fun b hb => fun h => un_el h (fun h => (disSym hx0_1) b hb h) (linNot lin1_0 hd2 h2 b hb))
 have crf : Ch nb w2 w2 := Ch.refl
 have ah0 := ah0.ch0 crf
 have gp1n : (G F Bb (un (inBlk (PV po0)) S2)) p1 := ⟨gp1.1, (ad5 _ k4.lt gp1.2).2⟩
 have k4 := k4.ch0 crf
 have gp1 := gp1n
 have c0 := c0.then0 crf
 obtain ⟨o13, ho14⟩ : ∃ o, runB (F36_find_b1 a1) a0.all 0 = o := ⟨_, rfl⟩
 have hS := ltS ho14 hS
 refine CW.cutB (fun E' w' => ∃ (ix20 : Nat), Sub [] E' ∧ Ch nb w w' ∧ Lp.fin ix20 = o13 ∧ Blk w' po0 48 (Ties_2.c a0 az0_0) ∧ Blk w' p1 37 (Tie.enc a1) ∧ slRep k_Tie (G F Bb (un (inBlk (PV po0)) S2)) w' a0.all az0_0 ∧ (G F Bb (un (inBlk (PV po0)) S2)) p1) ?_ ?_
 ·
  refine CW.loopS [(3, (PV p1)), (10, az0_0), (11, (Value.int .i64 ((a0.all.length : Nat) : Int))), (12, (Value.int .i64 ((0 : Nat) : Int)))] ⟨rfl, rfl, rfl, rfl, trivial⟩ a0.all.length (fun m E w' => ∃ (rest6 : List Tie) (i7 : Nat) , m = rest6.length ∧ E = [(3, (PV p1)), (10, az0_0), (11, (Value.int .i64 ((a0.all.length : Nat) : Int))), (12, (Value.int .i64 ((i7 : Nat) : Int)))] ∧ Ch nb w w' ∧ At a0.all i7 rest6 ∧ runB (F36_find_b1 a1) rest6 i7 = o13 ∧ Blk w' po0 48 (Ties_2.c a0 az0_0) ∧ Blk w' p1 37 (Tie.enc a1) ∧ slRep k_Tie (G F Bb (un (inBlk (PV po0)) S2)) w' a0.all az0_0 ∧ (G F Bb (un (inBlk (PV po0)) S2)) p1)
      ⟨a0.all, 0, rfl, rfl, c0, At.start, ho14, ah0, k4, ah0_0, gp1⟩ ?_
  rintro _ _ w19 ⟨rest6, i7, rfl, rfl, c18, hat9, hL8, ah0, k4, ah0_0, gp1⟩
  refine CW.seq (CW.region ?_)
  refine rl_bin rfl rfl B.lss rfl ?_
  refine RL.nil (thn_n ?_)
  refine CW.seq ?_
  refine CW.cond (t := decide (((i7 : Nat) : Int) < ((a0.all.length : Nat) : Int))) rfl (fun q21 => ?_) (fun q21 => ?_)
  ·
   obtain ⟨x15, rest22, rfl⟩ := hat9.cons q21
   obtain ⟨q10, hq11⟩ : ∃ q, (F36_find_b1 a1) x15 i7 = q := ⟨_, rfl⟩
   have hb12 := hq11
   refine CW.skip (thn_n ?_)
   refine CW.seq ?_
   refine CW.block ?_
   refine CW.seq (CW.region ?_)
   refine rl_move rfl rfl ?_
   refine rl_ixR rfl ah0_0 rfl hat9.get Try.underlying46 Try.sizeOf37 rfl ?_
   intro p23 o24 cs25 hr26 hs27 hg28
   obtain rfl := hr26
   refine rl_loadA (cs := (Tie.enc x15)) rfl Try.isAgg37 Try.sizeOf37 (hs27) rfl rfl ?_
   refine rl_alloc (Tie.enc Tie.z) Try.zeroValue37 rfl rfl ?_
   intro p29 w30 n31 k32
   have lo33 : ∀ b, inBlk (PV p29) b → w.heap.size ≤ b := fun b h => Nat.le_trans c18.size (n31.fresh b h)
   have d34 : ∀ b, inBlk (PV p29) b → ¬ inBlk (PV po0) b := disNew n31.fresh ah0.ltp
   have ah0 := ah0.ch0 n31.ch
   have gp1n : (G F Bb (un (inBlk (PV p29)) (un (inBlk (PV po0)) S2))) p1 := ⟨gp1.1, ((admNew n31.fresh (fun _ x => x)) _ k4.lt gp1.2).2⟩
   have k4 := k4.ch0 n31.ch
   have gp1 := gp1n
   have ah0_0 := slRep.st k_Tie_pos ah0_0 n31.ch (admNew n31.fresh (fun _ x => x))
   have c18 := c18.then0 n31.ch
   refine rl_assign rfl rfl ?_
   refine rl_storeA (vs := (Tie.enc x15)) rfl rfl (all_one rfl) Try.sizeOf37 rfl k32 rfl ?_
   intro w35 s37 c36 k38
   have ad39 : ∀ b, b < w30.heap.size → ¬ (un (inBlk (PV p29)) (un (inBlk (PV po0)) S2)) b → ¬ (inBlk (PV p29)) b ∧ ¬ (un (inBlk (PV p29)) (un (inBlk (PV po0)) S2)) b := fun b _ hs => ⟨fun h => hs (.inl h), hs⟩
   have ah0 := ah0.ch c36 ((fun b hb h => (disSym d34) b hb h) _ rfl)
   have k4 := k4.ch c36 (ad39 _ k4.lt gp1.2).1
   have ah0_0 := slRep.st k_Tie_pos ah0_0 c36 ad39
   have c18 := c18.then c36 (fun i hi h => absurd (lo33 i h) (Nat.not_le_of_lt hi))
   refine RL.nil (thn_n (CW.seq (CW.region ?_)))
   refine rl_loadA (cs := (Tie.enc x15)) rfl Try.isAgg37 Try.sizeOf37 (k38.segAt 0 40) rfl rfl ?_
   refine rl_loadA (cs := (Tie.enc a1)) rfl Try.isAgg37 Try.sizeOf37 (k4.segAt 0 40) rfl rfl ?_
   obtain ⟨y42, hy43⟩ : ∃ y, F46_same x15 a1 = y := ⟨_, rfl⟩
   have hb12 := ltS hy43 hb12
   refine rl_callF rfl en46 rfl (ctr46 (G F Bb (un (inBlk (PV p29)) (un (inBlk (PV po0)) S2))) w35 x15 a1 y42 hy43) ?_
   rintro _ w40 ⟨rfl, c41⟩
   have ah0 := ah0.ch0 c41
   have k4 := k4.ch0 c41
   have ah0_0 := slRep.ch k_Tie_pos ah0_0 c41
   have c18 := c18.then0 c41
   refine RL.nil (thn_n ?_)
   refine CW.cond (t := y42) rfl (fun q44 => ?_) (fun q44 => ?_)
   ·
    have hb12 := ifT q44 hb12
    refine CW.seq (CW.region ?_)
    refine rl_move rfl rfl ?_
    refine rl_assign rfl rfl ?_
    refine RL.nil (thn_n (CW.ret ?_))
    refine inB_ret ?_
    refine thn_ret ?_
    refine thn_ret (inB_ret (thn_ret ?_))
    refine thn_ret ?_
    have f45 := runB_ret hL8 (hb12.trans hq11.symm)
    have hS := retS f45 hS
    obtain rfl := hS
    exact ret1 rfl ⟨rfl, c18⟩
   have hb12 := ifF q44 hb12
   refine CW.skip ?_
   refine inB_n ?_
   refine thn_n (CW.region ?_)
   refine rl_inc rfl hat9.lt ah0_0.big rfl ?_
   refine rl_move rfl rfl ?_
   refine RL.nil (thn_n ?_)
   have ad46 : ∀ b, b < w40.heap.size → ¬ (un (inBlk (PV p29)) (un (inBlk (PV po0)) S2)) b → ¬ nb b ∧ ¬ (un (inBlk (PV po0)) S2) b := fun b _ hs => ⟨fun x => x, fun h => hs (un_el h (fun h => (.inr (.inl h))) (fun h => (.inr (.inr h))))⟩
   have crf : Ch nb w40 w40 := Ch.refl
   have ah0 := ah0.ch0 crf
   have gp1n : (G F Bb (un (inBlk (PV po0)) S2)) p1 := ⟨gp1.1, (ad46 _ k4.lt gp1.2).2⟩
   have k4 := k4.ch0 crf
   have gp1 := gp1n
   have ah0_0 := slRep.st k_Tie_pos ah0_0 crf ad46
   have c18 := c18.then0 crf
   have hLn := runB_next hL8 (hb12.trans hq11.symm)
   exact ⟨rest22.length, Nat.lt_succ_self _, [(3, (PV p1)), (10, az0_0), (11, (Value.int .i64 ((a0.all.length : Nat) : Int))), (12, (Value.int .i64 ((i7 + 1 : Nat) : Int)))], ⟨rfl, rfl, rfl, rfl, trivial⟩, ⟨rest22, i7 + 1, rfl, rfl, c18, hat9.next, hLn, ah0, k4, ah0_0, gp1⟩⟩
  obtain rfl := hat9.nil q21
  have hLf : Lp.fin i7 = o13 := hL8
  refine CW.exit (thn_exit (thn_exit (inB_hit ?_)))
  exact ⟨i7, trivial, c18, hLf, ah0, k4, ah0_0, gp1⟩
 rintro _ w48 ⟨ix20, hE49, c47, f50, ah0, k4, ah0_0, gp1⟩
 have hS := finS f50 hS
 refine thn_n (CW.sub [] hE49 ?_)
 refine CW.seq (CW.region ?_)
 refine rl_assign rfl rfl ?_
 refine RL.nil (thn_n (CW.ret ?_))
 obtain rfl := hS
 exact ret1 rfl ⟨rfl, c47⟩
/-- (*lb/lbref31.Ties).Drop -/
theorem ctr30 (F : Nat → Prop) (w : World) (Bb : Nat) (S2 : Nat → Prop) (hB : Bb ≤ w.heap.size) (h2 : ∀ b, S2 b → b < w.heap.size) (po0 : Nat) (az0_0 : Value) (hd2 : ∀ b, (un (inBlk (PV po0)) (inBlk az0_0)) b → ¬ S2 b) (hx0_1 : ∀ b, inBlk (PV po0) b → ¬ inBlk az0_0 b) (a0 : Ties_2) (ah0 : Blk w po0 48 (Ties_2.c a0 az0_0)) (ah0_0 : SlO k_Tie 37 F Bb (un (inBlk (PV po0)) (un (inBlk az0_0) S2)) w a0.all az0_0) (a1 : Tie) (r : (Bool × Ties_2)) (hs : F30_Drop a0 a1 = some r) :
    Ret Try.prog 30 #[(PV po0), (Value.agg (Tie.enc a1).toArray)] w fun v w' => ∃ (nz0_0 : Value), v = (Value.bool r.1) ∧ Blk w' po0 48 (Ties_2.c r.2 nz0_0) ∧ SlO k_Tie 37 F Bb (un (inBlk (PV po0)) (un (inBlk nz0_0) S2)) w' r.2.all nz0_0 ∧ (∀ b, inBlk nz0_0 b → (un (inBlk (PV po0)) (inBlk az0_0)) b ∨ w.heap.size ≤ b) ∧ (∀ b, inBlk (PV po0) b → ¬ inBlk nz0_0 b) ∧ Ch (un (inBlk (PV po0)) (inBlk az0_0)) w w' := by
 have hS := hs
 have c0 : Ch (un (inBlk (PV po0)) (inBlk az0_0)) w w := Ch.refl
 have lin0_0 : ∀ b, inBlk (PV po0) b → (un (inBlk (PV po0)) (inBlk az0_0)) b ∨ w.heap.size ≤ b := fun b h => .inl (.inl h)
 have lin1_0 : ∀ b, inBlk az0_0 b → (un (inBlk (PV po0)) (inBlk az0_0)) b ∨ w.heap.size ≤ b := fun b h => .inl (.inr h)
 refine Ret.of (n := 30) (args := [_, _]) (rs := [.tmp 4]) Try.func30 rfl rfl rfl rfl ?_
 refine CW.seq (CW.region ?_)
 refine rl_boxA (cs := (Tie.enc a1)) rfl rfl ?_
 intro p1 w2 n3 k4
 have gp1 : (G F Bb (un (inBlk (PV po0)) (un (inBlk az0_0) S2))) p1 := ⟨.inr (by rw [n3.eq]; exact (Nat.le_trans hB c0.size)), fun h => absurd ((un_lt ah0.ltp (un_lt (fun b hb => (ah0_0.lt b hb).2) (fun b h => Nat.lt_of_lt_of_le (h2 b h) c0.size))) _ h) (by rw [n3.eq]; exact Nat.lt_irrefl _)⟩
 have ah0 := ah0.ch0 n3.ch
 have ah0_0 := ah0_0.ch0 n3.ch
 have c0 := c0.then0 n3.ch
 refine rl_assign rfl rfl ?_
 refine RL.nil (thn_n (CW.seq (CW.region ?_)))
 refine rl_move rfl rfl ?_
 refine rl_loadA (cs := (Tie.enc a1)) rfl Try.isAgg37 Try.sizeOf37 (k4.segAt 0 40) rfl rfl ?_
 have hd5 : ∀ b, (un (inBlk (PV po0)) (inBlk az0_0)) b → ¬ S2 b := fun b h => un_el h (fun h => (fun b hb => linNot lin0_0 hd2 h2 b hb) b h) (fun h => (fun b hb => linNot lin1_0 hd2 h2 b hb) b h)
 have hS6 : (un (inBlk (PV po0)) (un (inBlk az0_0) S2)) = (un (inBlk (PV po0)) (un (inBlk az0_0) S2)) := rfl
 obtain ⟨y9, hy10⟩ : ∃ y, F36_find a0 a1 = y := ⟨_, rfl⟩
 have hS := ltS hy10 hS
 refine rl_callF rfl en36 rfl (ctr36 F w2 Bb S2 (Nat.le_trans hB c0.size) (fun b h => Nat.lt_of_lt_of_le (h2 b h) c0.size) po0 az0_0 hd5 hx0_1 a0 ah0 (hS6 ▸ ah0_0) a1 y9 hy10) ?_
 rintro _ w7 ⟨rfl, c8⟩
 have ah0 := ah0.ch0 c8
 have ah0_0 := ah0_0.ch0 c8
 have k4 := k4.ch0 c8
 have c0 := c0.then0 c8
 refine rl_assign rfl rfl ?_
 refine RL.nil (thn_n (CW.seq ?_))
 refine CW.seq (CW.region ?_)
 refine rl_move rfl rfl ?_
 refine rl_bin rfl rfl B.lss rfl ?_
 refine RL.nil (thn_n ?_)
 refine CW.cond (t := decide (y9 < 0)) rfl (fun q11 => ?_) (fun q11 => ?_)
 ·
  have hS := ifT q11 hS
  refine CW.seq (CW.region ?_)
  refine rl_assign rfl rfl ?_
  refine RL.nil (thn_n (CW.ret ?_))
  refine thn_ret ?_
  obtain rfl := Option.some.inj hS
  exact ret1 rfl ⟨az0_0, rfl, ah0, ah0_0, lin1_0, hx0_1, c0⟩
 have hS := ifF q11 hS
 refine CW.skip ?_
 refine thn_n (CW.seq ?_)
 have ad24 : ∀ b, b < w7.heap.size → ¬ (un (inBlk (PV po0)) (un (inBlk az0_0) S2)) b → ¬ nb b ∧ ¬ (un (inBlk (PV po0)) S2) b := fun b _ hs => ⟨fun x => x, fun h => hs (un_el h (fun h => (.inl h)) (fun h => (.inr (.inr h))))⟩
 have ah0_0 := SlO.read (S' := (un (inBlk (PV po0)) S2)) k_Tie_pos ah0_0 (fun b hs h => hs (un_el h (fun h => (.inl h)) (fun h => (.inr (.inr h))))) (fun b hb => fun h => un_el h (fun h => (disSym hx0_1) b hb h) (linNot lin1_0 hd2 h2 b hb))
 have crf : Ch nb w7 w7 := Ch.refl
 have ah0 := ah0.ch0 crf
 have gp1n : (G F Bb (un (inBlk (PV po0)) S2)) p1 := ⟨gp1.1, (ad24 _ k4.lt gp1.2).2⟩
 have k4 := k4.ch0 crf
 have gp1 := gp1n
 have c0 := c0.then0 crf
 obtain ⟨y32, hy33, hS⟩ := bindS hS
 obtain ⟨z44, hz45, hS⟩ := bindS hS
 obtain ⟨y48, hy49, hS⟩ := bindS hS
 obtain ⟨z60, hz61, hS⟩ := bindS hS
 refine CW.draw 17 [(none, fun fx O uu wx => uu = (PV po0)), (some false, fun _ O uu wx => ∃ (v25 : Value), uu = v25 ∧ O = (inBlk v25) ∧ SlO k_Tie 37 F Bb (un (inBlk v25) (un (inBlk (PV po0)) S2)) wx [] v25), (none, fun fx O uu wx => uu = (PV po0)), (none, fun fx O uu wx => uu = (PV po0)), (none, fun fx O uu wx => uu = (PV po0)), (none, fun fx O uu wx => uu = az0_0), (none, fun fx O uu wx => uu = (Value.int .i64 y9)), (none, fun fx O uu wx => ∃ (v34 : Value), uu = v34 ∧ slRep k_Tie (G F Bb (un O (un (inBlk (PV po0)) S2))) wx y32 v34), (some true, fun hv O uu wx => ∃ (v38 : Value) (v25 : Value), hv = [v25, v38] ∧ uu = v38 ∧ O = (inBlk v38) ∧ SlO k_Tie 37 F Bb (un (inBlk v38) (un (inBlk (PV po0)) S2)) wx ([] ++ y32) v38), (none, fun fx O uu wx => uu = (PV po0)), (none, fun fx O uu wx => uu = (PV po0)), (none, fun fx O uu wx => uu = (PV po0)), (none, fun fx O uu wx => uu = az0_0), (none, fun fx O uu wx => uu = (Value.int .i64 y9)), (none, fun fx O uu wx => uu = (Value.int .i64 (IntKind.i64.wrap (y9 + 1)))), (none, fun fx O uu wx => ∃ (v50 : Value), uu = v50 ∧ slRep k_Tie (G F Bb (un O (un (inBlk (PV po0)) S2))) wx y48 v50), (some true, fun hv O uu wx => ∃ (v54 : Value) (v25 : Value) (v38 : Value), hv = [v25, v38, v54] ∧ uu = v54 ∧ O = (inBlk v54) ∧ SlO k_Tie 37 F Bb (un (inBlk v54) (un (inBlk (PV po0)) S2)) wx (([] ++ y32) ++ y48) v54)] [[], [], [], [2], [3], [4], [], [5, 6], [1, 7], [], [9], [10], [11], [], [13], [12, 14], [8, 15]] [16, 0] nb (fun _ h => h.elim) mixed rfl rfl rfl rfl ?_ ?_
 ·
  refine Each.consS (fun fl O wk hE hN hO ck => ?_) ?_
  ·
   refine rl_move rfl rfl ?_
   exact RL.nil ⟨_, rfl, Ch.refl, rfl⟩
  refine Each.consP ⟨fun _ O _ wx wy cc hh => by obtain ⟨v25, e, rfl, ck1_0⟩ := hh; exact ⟨v25, e, rfl, ck1_0.ch0 cc⟩, fun O wk hO ck => ?_⟩ ?_
  ·
   have ah0 := ah0.ch0 ck
   have c0 := c0.then0 ck
   refine rl_bslice (k := k_Tie) (F := F) (B := Bb) (S := (un O (un (inBlk (PV po0)) S2))) ([] : List Tie) rfl k_Tie_pos Try.underlying46 Try.sizeOf37 Try.zeroValue37 rfl rfl trivial (Nat.le_trans hB c0.size) (un_lt (fun b h => (hO b h).2) (un_lt ah0.ltp (fun b h => Nat.lt_of_lt_of_le (h2 b h) c0.size))) rfl ?_
   intro v73 w74 c75 hf76 h77
   have hb81 : ∀ b, (inBlk v73) b → wk.heap.size ≤ b ∧ b < w74.heap.size := fun b h => ⟨hf76 b h, (fun b hb => (h77.lt b hb).2) b h⟩
   have h82 := SlO.reS (S' := (un (inBlk v73) (un (inBlk (PV po0)) S2))) (fun h => h) h77 (fun b h => .inl h)
   exact RL.nil ⟨_, (inBlk v73), rfl, hb81, c75, ⟨v73, rfl, rfl, h82⟩⟩
  refine Each.consS (fun fl O wk hE hN hO ck => ?_) ?_
  ·
   refine rl_move rfl rfl ?_
   exact RL.nil ⟨_, rfl, Ch.refl, rfl⟩
  refine Each.consS (fun fl O wk hE hN hO ck => ?_) ?_
  ·
   refine Need.o1 rfl rfl rfl (fun _ h => h) ?_
   refine rl_nilCheck rfl rfl ?_
   exact RL.nil ⟨_, rfl, Ch.refl, rfl⟩
  refine Each.consS (fun fl O wk hE hN hO ck => ?_) ?_
  ·
   refine Need.o1 rfl rfl rfl (fun _ h => h) ?_
   refine rl_fieldAddr rfl fa48_0 rfl ?_
   exact RL.nil ⟨_, rfl, Ch.refl, rfl⟩
  refine Each.consS (fun fl O wk hE hN hO ck => ?_) ?_
  ·
   have ah0 := ah0.ch0 ck
   refine Need.o1 rfl rfl rfl (fun _ h => h) ?_
   refine rl_loadS (v := az0_0) rfl Try.isAgg46 (ah0.cell rfl) rfl ?_
   exact RL.nil ⟨_, rfl, Ch.refl, rfl⟩
  refine Each.consS (fun fl O wk hE hN hO ck => ?_) ?_
  ·
   refine rl_move rfl rfl ?_
   exact RL.nil ⟨_, rfl, Ch.refl, rfl⟩
  refine Each.consA ⟨fun _ _ _ _ _ cc hh => by obtain ⟨v34, e, h35⟩ := hh; exact ⟨v34, e, slRep.ch k_Tie_pos h35 cc⟩, fun _ _ h' O O' D _ wx wy hfl hD hO' cc hh => by obtain ⟨v34, e, h35⟩ := hh; have ad := admGh (S := (un (inBlk (PV po0)) S2)) hD hO'; exact ⟨v34, e, slRep.st k_Tie_pos h35 cc ad⟩, fun fl O wk hE hN hO ck => ?_⟩ ?_
  ·
   have ha97 : ∀ b, b < w7.heap.size → ¬ (un (inBlk (PV po0)) S2) b → ¬ nb b ∧ ¬ (un O (un (inBlk (PV po0)) S2)) b := fun b hb hs => ⟨fun h => h.elim, fun h => un_el h (fun ho => (hO b ho).1.elim (fun h => h.elim) (fun h => Nat.not_le_of_lt hb h)) (fun h => un_el h (fun h => hs (.inl h)) (fun h => hs (.inr h)))⟩
   have ah0_0 := slRep.st k_Tie_pos ah0_0 ck ha97
   refine Need.o1 rfl rfl rfl (fun _ h => h) ?_
   refine Need.o1 rfl rfl rfl (fun _ h => h) ?_
   refine rl_cutR (kl := .i64) (kh := .i64) none (some y9) rfl ah0_0 k_Tie_pos trivial rfl hy33 Try.underlying46 Try.sizeOf37 rfl ?_
   intro v100 h101
   exact RL.nil ⟨_, rfl, Ch.refl, ⟨v100, rfl, h101⟩⟩
  refine Each.consO ⟨fun _ O _ wx wy cc hh => by obtain ⟨v38, v25, eh, e, rfl, ck8_0⟩ := hh; exact ⟨v38, v25, eh, e, rfl, ck8_0.ch0 cc⟩, fun hv Op O wk hO ck hO0 => ?_⟩ ?_
  ·
   obtain ⟨hl, hBg⟩ := hO0 rfl
   refine Need.made rfl rfl rfl rfl ?_
   rintro _ ⟨v25, e102, eO103, ck1_0⟩ hh104
   obtain rfl := e102.symm
   have io105 : ∀ b, inBlk v25 b → _ := fun b h => (Eq.mpr (congrFun eO103 b) h)
   obtain rfl := hist_eq [v25] hv hl ⟨hh104, trivial⟩
   have ah0 := ah0.ch0 hBg.2.1
   have c0 := c0.then0 hBg.2.1
   have ck1_0 := SlO.reS (S' := (un (inBlk v25) (un (inBlk (PV po0)) S2))) (fun h => h) ck1_0 (fun b h => (.inl h))
   refine Need.one rfl rfl rfl ?_
   rintro _ ⟨v34, e110, h35⟩
   obtain rfl := e110.symm
   have h35 := slRep.wk (F' := (G F Bb (un (inBlk v25) (un (inBlk (PV po0)) S2)))) k_Tie_pos h35 (fun b _ hf => ⟨hf.1, fun h => hf.2 (un_el h (fun h => (.inl ((hBg.1 b).2 (.inr ⟨_, inPre rfl, io105 b h⟩)))) (fun h => un_el h (fun h => (.inr (.inl h))) (fun h => (.inr (.inr h)))))⟩)
   have hl := (apO_get hz45).1
   refine rl_append (k := k_Tie) (T := 37) (F := F) (B := Bb) (S := (un (inBlk v25) (un (inBlk (PV po0)) S2))) (S2 := (un (inBlk (PV po0)) S2)) (fun v => (un (inBlk v) (un (inBlk (PV po0)) S2))) rfl rfl k_Tie_pos ap46 ck1_0 h35 (fun _ => Iff.rfl) (fun _ _ => Iff.rfl) hl (Nat.le_trans hB c0.size) (un_lt (fun b hb => (ck1_0.lt b hb).2) (un_lt ah0.ltp (fun b h => Nat.lt_of_lt_of_le (h2 b h) c0.size))) rfl ?_
   intro v113 w114 h115 c116 hf117 ha118
   have hb121 : ∀ b, (inBlk v113) b → (O b ∨ wk.heap.size ≤ b) ∧ b < w114.heap.size := fun b h => ⟨(hf117 b h).elim (fun h => .inl (((hBg.1 b).2 (.inr ⟨_, inPre rfl, io105 b h⟩)))) (fun h => .inr (Nat.le_trans (Nat.le_refl _) h)), (fun b hb => (h115.lt b hb).2) b h⟩
   exact RL.nil ⟨_, (inBlk v113), rfl, hb121, (c116.mono (fun b _ h => ((hBg.1 b).2 (.inr ⟨_, inPre rfl, io105 b h⟩)))), ⟨v113, v25, rfl, rfl, rfl, h115⟩⟩
  refine Each.consS (fun fl O wk hE hN hO ck => ?_) ?_
  ·
   refine rl_move rfl rfl ?_
   exact RL.nil ⟨_, rfl, Ch.refl, rfl⟩
  refine Each.consS (fun fl O wk hE hN hO ck => ?_) ?_
  ·
   refine Need.o1 rfl rfl rfl (fun _ h => h) ?_
   refine rl_nilCheck rfl rfl ?_
   exact RL.nil ⟨_, rfl, Ch.refl, rfl⟩
  refine Each.consS (fun fl O wk hE hN hO ck => ?_) ?_
  ·
   refine Need.o1 rfl rfl rfl (fun _ h => h) ?_
   refine rl_fieldAddr rfl fa48_0 rfl ?_
   exact RL.nil ⟨_, rfl, Ch.refl, rfl⟩
  refine Each.consS (fun fl O wk hE hN hO ck => ?_) ?_
  ·
   have ah0 := ah0.ch0 ck
   refine Need.o1 rfl rfl rfl (fun _ h => h) ?_
   refine rl_loadS (v := az0_0) rfl Try.isAgg46 (ah0.cell rfl) rfl ?_
   exact RL.nil ⟨_, rfl, Ch.refl, rfl⟩
  refine Each.consS (fun fl O wk hE hN hO ck => ?_) ?_
  ·
   refine rl_move rfl rfl ?_
   exact RL.nil ⟨_, rfl, Ch.refl, rfl⟩
  refine Each.consS (fun fl O wk hE hN hO ck => ?_) ?_
  ·
   refine Need.o1 rfl rfl rfl (fun _ h => h) ?_
   refine rl_bin rfl rfl B.add rfl ?_
   exact RL.nil ⟨_, rfl, Ch.refl, rfl⟩
  refine Each.consA ⟨fun _ _ _ _ _ cc hh => by obtain ⟨v50, e, h51⟩ := hh; exact ⟨v50, e, slRep.ch k_Tie_pos h51 cc⟩, fun _ _ h' O O' D _ wx wy hfl hD hO' cc hh => by obtain ⟨v50, e, h51⟩ := hh; have ad := admGh (S := (un (inBlk (PV po0)) S2)) hD hO'; exact ⟨v50, e, slRep.st k_Tie_pos h51 cc ad⟩, fun fl O wk hE hN hO ck => ?_⟩ ?_
  ·
   have ha139 : ∀ b, b < w7.heap.size → ¬ (un (inBlk (PV po0)) S2) b → ¬ nb b ∧ ¬ (un O (un (inBlk (PV po0)) S2)) b := fun b hb hs => ⟨fun h => h.elim, fun h => un_el h (fun ho => (hO b ho).1.elim (fun h => h.elim) (fun h => Nat.not_le_of_lt hb h)) (fun h => un_el h (fun h => hs (.inl h)) (fun h => hs (.inr h)))⟩
   have ah0_0 := slRep.st k_Tie_pos ah0_0 ck ha139
   refine Need.o1 rfl rfl rfl (fun _ h => h) ?_
   refine Need.o1 rfl rfl rfl (fun _ h => h) ?_
   refine rl_cutR (kl := .i64) (kh := .i64) (some (IntKind.i64.wrap (y9 + 1))) none rfl ah0_0 k_Tie_pos rfl trivial hy49 Try.underlying46 Try.sizeOf37 rfl ?_
   intro v142 h143
   exact RL.nil ⟨_, rfl, Ch.refl, ⟨v142, rfl, h143⟩⟩
  refine Each.consO ⟨fun _ O _ wx wy cc hh => by obtain ⟨v54, v25, v38, eh, e, rfl, ck16_0⟩ := hh; exact ⟨v54, v25, v38, eh, e, rfl, ck16_0.ch0 cc⟩, fun hv Op O wk hO ck hO0 => ?_⟩ ?_
  ·
   refine Need.here rfl rfl rfl rfl ?_
   rintro _ ⟨v38, v25, rfl, e145, rfl, ck8_0⟩
   obtain rfl := e145.symm
   have ah0 := ah0.ch0 ck
   have c0 := c0.then0 ck
   refine Need.one rfl rfl rfl ?_
   rintro _ ⟨v50, e149, h51⟩
   obtain rfl := e149.symm
   have h51 := slRep.wk (F' := (G F Bb (un (inBlk v38) (un (inBlk (PV po0)) S2)))) k_Tie_pos h51 (fun b _ hf => ⟨hf.1, fun h => hf.2 (un_el h (fun h => (.inl h)) (fun h => un_el h (fun h => (.inr (.inl h))) (fun h => (.inr (.inr h)))))⟩)
   have hl := (apO_get hz61).1
   refine rl_append (k := k_Tie) (T := 37) (F := F) (B := Bb) (S := (un (inBlk v38) (un (inBlk (PV po0)) S2))) (S2 := (un (inBlk (PV po0)) S2)) (fun v => (un (inBlk v) (un (inBlk (PV po0)) S2))) rfl rfl k_Tie_pos ap46 ck8_0 h51 (fun _ => Iff.rfl) (fun _ _ => Iff.rfl) hl (Nat.le_trans hB c0.size) (un_lt (fun b hb => (ck8_0.lt b hb).2) (un_lt ah0.ltp (fun b h => Nat.lt_of_lt_of_le (h2 b h) c0.size))) rfl ?_
   intro v152 w153 h154 c155 hf156 ha157
   have hb160 : ∀ b, (inBlk v152) b → ((inBlk v38) b ∨ wk.heap.size ≤ b) ∧ b < w153.heap.size := fun b h => ⟨(hf156 b h).elim (fun h => .inl (h)) (fun h => .inr (Nat.le_trans (Nat.le_refl _) h)), (fun b hb => (h154.lt b hb).2) b h⟩
   exact RL.nil ⟨_, (inBlk v152), rfl, hb160, (c155.mono (fun b _ h => h)), ⟨v152, v25, v38, rfl, rfl, rfl, h154⟩⟩
  trivial
 intro hvO163 OpO163 O163 w161 hO164 c162 hN165
 have ol166 : ∀ b, inBlk (PV po0) b → b < w7.heap.size := ah0.ltp
 refine Need.here rfl rfl rfl rfl ?_
 rintro _ ⟨v54, v25, v38, rfl, e167, rfl, ck16_0⟩
 obtain rfl := e167.symm
 have lo168 : ∀ b, inBlk v54 b → w.heap.size ≤ b := fun b h => (hO164 b h).1.elim (fun h => h.elim) (Nat.le_trans c0.size)
 have d169 : ∀ b, inBlk v54 b → ¬ inBlk (PV po0) b := fun b h hu => (hO164 b h).1.elim (fun h => h.elim) (fun h => Nat.not_le_of_lt (ol166 b hu) h)
 have ha170 : ∀ b, b < w7.heap.size → ¬ (un (inBlk (PV po0)) S2) b → ¬ nb b ∧ ¬ (un (inBlk v54) (un (inBlk (PV po0)) S2)) b := fun b hb hs => ⟨fun h => h.elim, fun h => un_el h (fun h => (hO164 b h).1.elim (fun h => h.elim) (fun h => Nat.not_le_of_lt hb h)) (fun h => un_el h (fun h => hs (.inl h)) (fun h => hs (.inr h)))⟩
 have ah0 := ah0.ch0 c162
 have gp1n : (G F Bb (un (inBlk v54) (un (inBlk (PV po0)) S2))) p1 := ⟨gp1.1, (ha170 _ k4.lt gp1.2).2⟩
 have gp1 := gp1n
 have ah0_0 := slRep.st k_Tie_pos ah0_0 c162 ha170
 have c0 := c0.then0 c162
 refine Need.o1 rfl rfl rfl (fun _ h => h) ?_
 refine rl_nilCheck rfl rfl ?_
 refine rl_fieldAddr rfl fa48_0 rfl ?_
 refine rl_storeS (u := v54) rfl rfl ck16_0.one Try.sizeOf46 ah0 rfl ?_
 intro w172 s174 c173 k175
 have ad176 : ∀ b, b < w161.heap.size → ¬ (un (inBlk v54) (un (inBlk (PV po0)) S2)) b → ¬ (inBlk (PV po0)) b ∧ ¬ (un (inBlk v54) (un (inBlk (PV po0)) S2)) b := fun b _ hs => ⟨fun h => hs (.inr (.inl h)), hs⟩
 have ah0_0 := slRep.st k_Tie_pos ah0_0 c173 ad176
 have ck16_0 := ck16_0.st c173 (fun b hb h => d169 b hb h) ad176 (fun b h => (.inl h))
 have c0 := c0.then c173 (fun i hi h => (lin0_0 i h).elim (fun x => x) (fun x => absurd x (Nat.not_le_of_lt hi)))
 refine RL.nil (thn_n (CW.seq (CW.region ?_)))
 refine rl_assign rfl rfl ?_
 refine RL.nil (thn_n (CW.ret ?_))
 obtain rfl := Option.some.inj hS
 have hS177 : (un (inBlk v54) (un (inBlk (PV po0)) S2)) = (un (inBlk (PV po0)) (un (inBlk v54) S2)) := funext fun b => propext ⟨fun h => un_el h (fun h => (.inr (.inl h))) (fun h => un_el h (fun h => (.inl h)) (fun h => (.inr (.inr h)))), fun h => un_el h (fun h => (.inr (.inl h))) (fun h => un_el h (fun h => (.inl h)) (fun h => (.inr (.inr h))))⟩
 rw [hS177] at ah0_0 ck16_0 gp1
 exact ret1 rfl ⟨v54, rfl, k175, ck16_0, (fun b h => .inr (lo168 b h)), (disSym d169), c0⟩
end Go.Proofs.Ytokikdhilpebmaa
