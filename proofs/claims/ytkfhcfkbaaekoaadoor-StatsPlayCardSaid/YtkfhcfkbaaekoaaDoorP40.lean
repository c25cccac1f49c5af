/- The plain law of StatsSum. No Go and no memory. -/
import Derived.Test.YtkfhcfkbaaekoaaDoorPK
import Derived.Test.YtkfhcfkbaaekoaaDoorS10
import Derived.Test.YtkfhcfkbaaekoaaDoorS8
namespace Go.Proofs.YtkfhcfkbaaekoaaDoor
open Go K
set_option linter.unusedVariables false
def PS (l : List Count) : Int := (l.map (·.packets)).sum
def BS (l : List Count) : Int := (l.map (·.bytes)).sum
def NN (l : List Count) : Prop := ∀ c ∈ l, 0 ≤ c.packets ∧ 0 ≤ c.bytes
theorem PS_cons (c : Count) (l : List Count) : PS (c :: l) = c.packets + PS l := by simp [PS]
theorem BS_cons (c : Count) (l : List Count) : BS (c :: l) = c.bytes + BS l := by simp [BS]
theorem NN.cons {c : Count} {l : List Count} (h : NN (c :: l)) : (0 ≤ c.packets ∧ 0 ≤ c.bytes) ∧ NN l := ⟨h c (by simp), fun d hd => h d (by simp [hd])⟩
theorem PS_nn : ∀ {l : List Count}, NN l → 0 ≤ PS l ∧ 0 ≤ BS l
  | [], _ => by simp [PS, BS]
  | c :: l, h => by
    have h1 := h.cons
    have h2 := PS_nn h1.2
    rw [PS_cons, BS_cons]; omega
def addC (a c : Count) : Count := { packets := IntKind.i64.wrap (a.packets + c.packets), bytes := IntKind.i64.wrap (a.bytes + c.bytes) }
theorem fold_ok : ∀ (l : List Count) (a : Count), NN l → 0 ≤ a.packets → 0 ≤ a.bytes → a.packets + PS l ≤ 1000000 → a.bytes + BS l ≤ 1000000 → l.foldl addC a = { packets := a.packets + PS l, bytes := a.bytes + BS l }
  | [], a, _, _, _, _, _ => by simp [PS, BS]
  | c :: l, a, h, h1, h2, h3, h4 => by
    obtain ⟨⟨k1, k2⟩, h5⟩ := h.cons
    obtain ⟨k3, k4⟩ := PS_nn h5
    rw [PS_cons] at h3
    rw [BS_cons] at h4
    have e : addC a c = { packets := a.packets + c.packets, bytes := a.bytes + c.bytes } := by unfold addC; rw [wrapI (by omega), wrapI (by omega)]
    rw [List.foldl_cons, e, fold_ok l _ h5 (by show 0 ≤ a.packets + c.packets; omega) (by show 0 ≤ a.bytes + c.bytes; omega) (by show a.packets + c.packets + PS l ≤ _; omega) (by show a.bytes + c.bytes + BS l ≤ _; omega), PS_cons, BS_cons]
    simp only [Count.mk.injEq]; omega
theorem mod_sum : ∀ {l : List Count} {i : Nat} {y : Count} (f : Count → Count), l[i]? = some y → PS (l.modify i f) = PS l + (f y).packets - y.packets ∧ BS (l.modify i f) = BS l + (f y).bytes - y.bytes
  | c :: l, 0, y, f, h => by
    simp only [List.getElem?_cons_zero, Option.some.injEq] at h
    subst h
    rw [List.modify_zero_cons, PS_cons, BS_cons, PS_cons, BS_cons]; omega
  | c :: l, i + 1, y, f, h => by
    simp only [List.getElem?_cons_succ] at h
    obtain ⟨h1, h2⟩ := mod_sum f h
    rw [List.modify_succ_cons, PS_cons, BS_cons, PS_cons, BS_cons, h1, h2]; omega
theorem mod_nn {l : List Count} {i : Nat} {f : Count → Count} (h : NN l) (hf : ∀ y, l[i]? = some y → 0 ≤ (f y).packets ∧ 0 ≤ (f y).bytes) : NN (l.modify i f) := by
  intro c hc
  obtain ⟨j, hj, e⟩ := List.mem_iff_getElem.1 hc
  rw [List.length_modify] at hj
  rw [List.getElem_modify] at e
  split at e
  · rename_i h0
    subst h0
    rw [← e]; exact hf _ (List.getElem?_eq_getElem hj)
  · rw [← e]; exact h _ (List.getElem_mem hj)
theorem upd_list : ∀ (x : A7Count) (i : Nat) (f : Count → Count), A7Count.list (A7Count.upd x i f) = (A7Count.list x).modify i f
  | _, 0, _ => rfl
  | _, 1, _ => rfl
  | _, 2, _ => rfl
  | _, 3, _ => rfl
  | _, 4, _ => rfl
  | _, 5, _ => rfl
  | _, 6, _ => rfl
  | x, i + 7, f => (List.modify_eq_self (l := A7Count.list x) (i := i + 7) (f := f) (by show 7 ≤ i + 7; omega)).symm
theorem ixO_ex {α : Type} {l : List α} {i : Int} (h0 : 0 ≤ i) (h1 : i < (l.length : Int)) : ∃ y, ixO l i = some y ∧ l[i.toNat]? = some y := by
  have h2 : i.toNat < l.length := by omega
  refine ⟨l[i.toNat], ?_, List.getElem?_eq_getElem h2⟩
  have := ixO_at (xs := l) (i := i.toNat) (List.getElem?_eq_getElem h2)
  rwa [Int.toNat_of_nonneg h0] at this
theorem cnt_loop {body : Int × Count → Option (Step Empty (Int × Count))} (L : List Count) (hL : L.length = 7) (hb : ∀ (i : Nat) (a c : Count), L[i]? = some c → body ((i : Int), a) = some (.next (((i + 1 : Nat) : Int), addC a c))) (he : ∀ a, body (7, a) = some (.fin (7, a))) :
    ∀ (f i : Nat) (a : Count), i ≤ 7 → 7 - i < f → runW body f ((i : Int), a) = some (.fin (7, (L.drop i).foldl addC a))
  | 0, i, a, _, h => absurd h (by omega)
  | f + 1, i, a, h1, h2 => by
    rw [runW]
    by_cases h7 : i = 7
    · subst h7
      rw [show (((7 : Nat) : Int), a) = ((7 : Int), a) from rfl, he]
      rw [List.drop_of_length_le (by omega)]; rfl
    · have hi : i < L.length := by omega
      rw [hb i a L[i] (List.getElem?_eq_getElem hi)]
      show runW body f (((i + 1 : Nat) : Int), addC a L[i]) = _
      rw [cnt_loop L hL hb he f (i + 1) _ (by omega) (by omega), List.drop_eq_getElem_cons hi]; rfl
def tot (v : Service) : Int := v.begun + v.filtered + v.rejected + v.full
def VN (v : Service) : Prop := 0 ≤ v.begun ∧ 0 ≤ v.filtered ∧ 0 ≤ v.rejected ∧ 0 ≤ v.full
def TS (l : List (Key × Service)) : Int := (l.map fun p => tot p.2).sum
theorem TS_cons (p : Key × Service) (l : List (Key × Service)) : TS (p :: l) = tot p.2 + TS l := by simp [TS]
theorem tot_nn {v : Service} (h : VN v) : 0 ≤ tot v := by obtain ⟨a, b, c, d⟩ := h; unfold tot; omega
theorem TS_nn : ∀ {l : List (Key × Service)}, (∀ p ∈ l, VN p.2) → 0 ≤ TS l
  | [], _ => by simp [TS]
  | p :: l, h => by
    have := tot_nn (h p (by simp))
    have := TS_nn (l := l) fun q hq => h q (by simp [hq])
    rw [TS_cons]; omega
theorem TS_mem : ∀ {l : List (Key × Service)} {p : Key × Service}, (∀ p ∈ l, VN p.2) → p ∈ l → tot p.2 ≤ TS l
  | q :: l, p, h, hp => by
    have h1 := tot_nn (h q (by simp))
    have h2 := TS_nn (l := l) fun q hq => h q (by simp [hq])
    rw [TS_cons]
    rcases List.mem_cons.1 hp with rfl | hp
    · omega
    · have := TS_mem (fun q hq => h q (by simp [hq])) hp; omega
theorem TS_mput : ∀ (l : List (Key × Service)) (k : Key) (v : Service), TS (mput l k v) = TS l - tot ((mget l k).getD Service.z) + tot v
  | [], k, v => by simp [mput, mget, TS, tot, Service.z]
  | p :: l, k, v => by
    rw [mput, mget]
    by_cases e : k = p.1
    · rw [if_pos e, if_pos e, TS_cons, TS_cons]; simp; omega
    · rw [if_neg e, if_neg e, TS_cons, TS_cons, TS_mput l k v]; omega
theorem mput_sub : ∀ {l : List (Key × Service)} {k : Key} {v : Service} {p : Key × Service}, p ∈ mput l k v → p = (k, v) ∨ p ∈ l
  | [], k, v, p, h => by simp [mput] at h; exact .inl h
  | q :: l, k, v, p, h => by
    rw [mput] at h
    split at h
    · rcases List.mem_cons.1 h with h | h
      · exact .inl h
      · exact .inr (by simp [h])
    · rcases List.mem_cons.1 h with h | h
      · exact .inr (by simp [h])
      · exact (mput_sub h).imp id fun h => by simp [h]
theorem mput_le : ∀ (l : List (Key × Service)) (k : Key) (v : Service), (mput l k v).length ≤ l.length + 1
  | [], k, v => by simp [mput]
  | q :: l, k, v => by
    rw [mput]
    split
    · simp
    · have := mput_le l k v; simp; omega
structure SP (m : Nat) (l : List (Key × Service)) : Prop where
  nn : ∀ p ∈ l, VN p.2 ∧ p.2.key = p.1
  ts : TS l ≤ m
  nd : (l.map (·.1)).Nodup
  le : l.length ≤ m
theorem SP.old {m : Nat} {l : List (Key × Service)} (h : SP m l) (k : Key) : VN ((mget l k).getD Service.z) ∧ tot ((mget l k).getD Service.z) ≤ m := by
  cases hg : mget l k with
  | none =>
    have := TS_nn fun p hp => (h.nn p hp).1
    have := h.ts
    refine ⟨⟨by decide, by decide, by decide, by decide⟩, ?_⟩
    show tot Service.z ≤ m
    have : tot Service.z = 0 := by decide
    omega
  | some v =>
    have hm := mget_mem hg
    exact ⟨(h.nn _ hm).1, Int.le_trans (TS_mem (fun p hp => (h.nn p hp).1) hm) h.ts⟩
theorem SP.put {m : Nat} {l : List (Key × Service)} (h : SP m l) (k : Key) (v : Service) (hv : VN v) (hk : v.key = k) (ht : tot v = tot ((mget l k).getD Service.z) + 1) : SP (m + 1) (mput l k v) := by
  have h1 := h.ts
  have h2 := h.le
  refine ⟨fun p hp => ?_, by rw [TS_mput]; omega, mput_nd h.nd, Nat.le_trans (mput_le l k v) (by omega)⟩
  rcases mput_sub hp with rfl | hp
  · exact ⟨hv, hk⟩
  · exact h.nn p hp
theorem SP.mono {m m' : Nat} {l : List (Key × Service)} (h : SP m l) (hm : m ≤ m') : SP m' l := ⟨h.nn, Int.le_trans h.ts (by omega), h.nd, Nat.le_trans h.le hm⟩
theorem served_ok {m : Nat} (s : Stats) (o : Out) (h : SP m s.services) (hm : m ≤ 1000) : SP (m + 1) (F26_served s o).services ∧ (F26_served s o).verdicts = s.verdicts ∧ (F26_served s o).last = s.last := by
  obtain ⟨⟨o1, o2, o3, o4⟩, o5⟩ := h.old o.front.service
  unfold F26_served
  have hb : ((mget s.services o.front.service).getD Service.z).begun + ((mget s.services o.front.service).getD Service.z).filtered + ((mget s.services o.front.service).getD Service.z).rejected + ((mget s.services o.front.service).getD Service.z).full ≤ m := o5
  by_cases h2 : o.verdict = 2
  · rw [if_pos (by rw [decide_eq_true_iff]; exact h2)]
    refine ⟨h.put _ _ ⟨?_, o2, o3, o4⟩ rfl ?_, rfl, rfl⟩
    · show 0 ≤ IntKind.i64.wrap _
      rw [wrapI (by omega)]; omega
    · unfold tot; rw [wrapI (by omega)]; dsimp only; omega
  · rw [if_neg (by rw [decide_eq_true_iff]; exact h2)]
    by_cases h4 : o.verdict = 4
    · rw [if_pos (by rw [decide_eq_true_iff]; exact h4)]
      refine ⟨h.put _ _ ⟨o1, ?_, o3, o4⟩ rfl ?_, rfl, rfl⟩
      · show 0 ≤ IntKind.i64.wrap _
        rw [wrapI (by omega)]; omega
      · unfold tot; rw [wrapI (by omega)]; dsimp only; omega
    · rw [if_neg (by rw [decide_eq_true_iff]; exact h4)]
      by_cases h5 : o.verdict = 5
      · rw [if_pos (by rw [decide_eq_true_iff]; exact h5)]
        refine ⟨h.put _ _ ⟨o1, o2, ?_, o4⟩ rfl ?_, rfl, rfl⟩
        · show 0 ≤ IntKind.i64.wrap _
          rw [wrapI (by omega)]; omega
        · unfold tot; rw [wrapI (by omega)]; dsimp only; omega
      · rw [if_neg (by rw [decide_eq_true_iff]; exact h5)]
        by_cases h6 : o.verdict = 6
        · rw [if_pos (by rw [decide_eq_true_iff]; exact h6)]
          refine ⟨h.put _ _ ⟨o1, o2, o3, ?_⟩ rfl ?_, rfl, rfl⟩
          · show 0 ≤ IntKind.i64.wrap _
            rw [wrapI (by omega)]; omega
          · unfold tot; rw [wrapI (by omega)]; dsimp only; omega
        · rw [if_neg (by rw [decide_eq_true_iff]; exact h6)]
          exact ⟨h.mono (by omega), rfl, rfl⟩
theorem fwd_loop (to : Int) (ht : to ≤ 109951162777) : ∀ (f : Nat) (n : Int) (s : Stats), 0 ≤ n → n ≤ 109951162778 → (to + 1 - n).toNat < f → ∃ n' s', runW (F25_forward_b1 to) f (n, s) = some (.fin (n', s')) ∧ s'.verdicts = s.verdicts ∧ s'.services = s.services
  | 0, _, _, _, _, h => absurd h (by omega)
  | f + 1, n, s, h0, h1, h2 => by
    rw [runW]
    by_cases h : n ≤ to
    · have hm : n.tmod 16 = n % 16 := Int.tmod_eq_emod_of_nonneg h0
      obtain ⟨y, hy, _⟩ := ixO_ex (l := A16i64.list s.spans) (i := n.tmod 16) (by rw [hm]; omega) (by rw [hm]; show n % 16 < 16; omega)
      have hb : F25_forward_b1 to (n, s) = some (.next (n + 1, { verdicts := s.verdicts, services := s.services, spans := A16i64.upd s.spans (n.tmod 16).toNat (fun _ => 0), last := s.last })) := by
        unfold F25_forward_b1
        rw [if_pos (by rw [decide_eq_true_iff]; exact h), hy]
        simp only [Option.bind_some]
        rw [wrapI (by omega)]
      rw [hb]
      exact fwd_loop to ht f (n + 1) _ (by omega) (by omega) (by omega)
    · have hb : F25_forward_b1 to (n, s) = some (.fin (n, s)) := by
        unfold F25_forward_b1
        rw [if_neg (by rw [decide_eq_true_iff]; exact h)]
      rw [hb]
      exact ⟨n, s, rfl, rfl, rfl⟩
theorem forward_ok (s : Stats) (to : Int) (h0 : 0 ≤ s.last) (h1 : s.last ≤ 109951162777) (h2 : 0 ≤ to) (h3 : to ≤ 109951162777) : ∃ s', F25_forward s to = some s' ∧ s'.verdicts = s.verdicts ∧ s'.services = s.services ∧ s'.last = to := by
  have hF : FUEL = 4611686018427387904 := rfl
  unfold F25_forward
  rw [wrapI (n := to - 16) (by omega), wrapI (n := to - 16 + 1) (by omega), wrapI (n := s.last + 1) (by omega)]
  obtain ⟨n', s', e, e1, e2⟩ := fwd_loop to h3 FUEL (if to - 16 + 1 > s.last + 1 then to - 16 + 1 else s.last + 1) s (by split <;> omega) (by split <;> omega) (by split <;> omega)
  rw [e]
  exact ⟨_, rfl, e1, e2, rfl⟩
structure SI (n : Nat) (sz : Int) (s : Stats) : Prop where
  l0 : 0 ≤ s.last
  l1 : s.last ≤ 109951162777
  nn : NN (A7Count.list s.verdicts)
  p : PS (A7Count.list s.verdicts) = n
  b : BS (A7Count.list s.verdicts) = sz
  sb : sz ≤ 300 * n
  sp : SP n s.services
theorem SI.szn {n : Nat} {sz : Int} {s : Stats} (h : SI n sz s) : 0 ≤ sz := by rw [← h.b]; exact (PS_nn h.nn).2
theorem SI.new : SI 0 0 F7_New := ⟨by decide, by decide, by unfold NN; decide, by decide, by decide, by decide, ⟨(fun p hp => by cases hp), by decide, List.Pairwise.nil, Nat.le_refl _⟩⟩
theorem total_ok {n : Nat} {sz : Int} {s : Stats} (h : SI n sz s) (hn : n ≤ 1000) : F8_Total s = some { packets := n, bytes := sz } := by
  have hp := h.p
  have hb := h.b
  have hs := h.sb
  unfold F8_Total
  have hloop := cnt_loop (body := F8_Total_b1 s) (A7Count.list s.verdicts) rfl (fun i a c hc => by
    have hi : i < 7 := lt_of_get hc
    unfold F8_Total_b1
    rw [if_pos (by rw [decide_eq_true_iff]; show (i : Int) < 7; omega), ixO_at hc]
    simp only [Option.bind_some]
    rw [wrapI (by omega)]; rfl) (fun a => rfl) FUEL 0 Count.z (by omega) (by decide)
  have hloop' : runW (F8_Total_b1 s) FUEL (0, Count.z) = some (.fin (7, ((A7Count.list s.verdicts).drop 0).foldl addC Count.z)) := hloop
  rw [hloop', List.drop_zero, fold_ok _ _ h.nn (by decide) (by decide) (by rw [hp]; show 0 + (n : Int) ≤ _; omega) (by rw [hb]; show 0 + sz ≤ _; omega), hp, hb]
  simp [Lp.elim, Count.z]
theorem tell_ok {n : Nat} {sz : Int} {s : Stats} (h : SI n sz s) (hn : n ≤ 900) (o : Out) (size now : Int) : (∃ e, F9_Tell s o size now = some (some e, s)) ∨ (0 ≤ size ∧ size ≤ 300 ∧ ∃ s', F9_Tell s o size now = some (none, s') ∧ SI (n + 1) (sz + size) s') := by
  have hl0 := h.l0
  have hl1 := h.l1
  have hszn := h.szn
  by_cases hbad : (decide (o.verdict < 0) || decide (o.verdict ≥ 7) || decide (size < 0) || decide (size > 300) || !(decide (now ≥ 0) && decide (now ≤ 1099511627776))) = true
  · exact .inl ⟨0, (if_pos hbad : F9_Tell s o size now = _)⟩
  · have e0 : F9_Tell s o size now = _ := if_neg hbad
    rw [e0]
    clear e0
    simp only [Bool.or_eq_true, decide_eq_true_eq, Bool.not_eq_true', Bool.and_eq_false_iff, decide_eq_false_iff_not, not_or, Int.not_lt, Int.not_le] at hbad
    have hq : now.tdiv 10 = now / 10 := Int.tdiv_eq_ediv_of_nonneg (by omega)
    rw [wrapI (n := now.tdiv 10) (by rw [hq]; omega), hq]
    by_cases hst : now / 10 < s.last
    · rw [if_pos (by rw [decide_eq_true_iff]; exact hst)]; exact .inl ⟨_, rfl⟩
    · rw [if_neg (by rw [decide_eq_true_iff]; exact hst), total_ok h (by omega)]
      simp only [Option.bind_some]
      rw [if_neg (by rw [decide_eq_true_iff]; omega)]
      obtain ⟨s1, f1, f2, f3, f4⟩ := forward_ok s (now / 10) hl0 hl1 (by omega) (by omega)
      have hm : (now / 10).tmod 16 = now / 10 % 16 := Int.tmod_eq_emod_of_nonneg (by omega)
      obtain ⟨y, hy, _⟩ := ixO_ex (l := A16i64.list s1.spans) (i := (now / 10).tmod 16) (by rw [hm]; omega) (by rw [hm]; show now / 10 % 16 < 16; omega)
      obtain ⟨c, hc, hc2⟩ := ixO_ex (l := A7Count.list s1.verdicts) (i := o.verdict) (by omega) (by show o.verdict < 7; omega)
      simp only [f1, hy, hc, Option.bind_some]
      rw [f2] at hc2
      have hcm := h.nn c (List.mem_of_getElem? hc2)
      have hcp : c.packets ≤ n ∧ c.bytes ≤ sz := by
        have h1 := mod_sum (fun _ => { packets := 0, bytes := 0 }) hc2
        have h2 := PS_nn (mod_nn (l := A7Count.list s.verdicts) (i := o.verdict.toNat) (f := fun _ => { packets := 0, bytes := 0 }) h.nn fun _ _ => ⟨Int.le_refl _, Int.le_refl _⟩)
        rw [h1.1, h1.2, h.p, h.b] at h2
        simp only at h2
        omega
      have hsb := h.sb
      have hnew : ∀ (X : Stats) (m : Nat), n ≤ m → m ≤ n + 1 → X.verdicts = A7Count.upd (A7Count.upd s1.verdicts o.verdict.toNat (fun e => { e with packets := IntKind.i64.wrap (c.packets + 1) })) o.verdict.toNat (fun e => { e with bytes := IntKind.i64.wrap (c.bytes + size) }) → SP m X.services → X.last = now / 10 → SI (n + 1) (sz + size) X := by
        intro X m m1 m2 hX hS hL
        have hL2 : (A7Count.list X.verdicts) = (A7Count.list s.verdicts).modify o.verdict.toNat (fun e => { packets := c.packets + 1, bytes := c.bytes + size }) := by
          rw [hX, upd_list, upd_list, f2, wrapI (by omega), wrapI (by omega), List.modify_modify_eq]
          rfl
        have hs := mod_sum (fun e => ({ packets := c.packets + 1, bytes := c.bytes + size } : Count)) hc2
        refine ⟨by rw [hL]; omega, by rw [hL]; omega, ?_, ?_, ?_, by omega, hS.mono m2⟩
        · rw [hL2]
          exact mod_nn h.nn fun y _ => ⟨by show 0 ≤ c.packets + 1; omega, by show 0 ≤ c.bytes + size; omega⟩
        · rw [hL2, hs.1, h.p]; simp only; omega
        · rw [hL2, hs.2, h.b]; simp only; omega
      refine .inr ⟨by omega, by omega, ?_⟩
      by_cases hp : (!decide (o.front.proto = 0)) = true
      · rw [if_pos hp]
        refine ⟨_, rfl, ?_⟩
        have hsv := served_ok (m := n) ({ verdicts := A7Count.upd (A7Count.upd s1.verdicts o.verdict.toNat (fun e => { e with packets := IntKind.i64.wrap (c.packets + 1) })) o.verdict.toNat (fun e => { e with bytes := IntKind.i64.wrap (c.bytes + size) }), services := s1.services, spans := A16i64.upd s1.spans ((now / 10).tmod 16).toNat (fun _ => IntKind.i64.wrap (y + 1)), last := s1.last } : Stats) o (by show SP n s1.services; rw [f3]; exact h.sp) (by omega)
        exact hnew _ (n + 1) (by omega) (by omega) hsv.2.1 hsv.1 (hsv.2.2.trans f4)
      · rw [if_neg hp]
        exact ⟨_, rfl, hnew _ n (by omega) (by omega) rfl (by show SP n s1.services; rw [f3]; exact h.sp) f4⟩
theorem srv_cmp (a b : Service) : F29_1 a b = lexc (keyK a.key) (keyK b.key) := by
  unfold F29_1 lt
  exact key_cmp _ _
theorem kord_of {α : Type} {cf : α → α → Int} {key : α → List Int} (hcf : ∀ x y, cf x y = lexc (key x) (key y)) (xs : List α) (hnd : (xs.map key).Nodup) : ∃ L, KOrd key L ∧ L.Perm xs := by
  have hs : Go.Sort.SWO (ltC cf) := by
    have e : ltC cf = ltK key := by funext x y; exact ltC_key (hcf x y)
    rw [e]; exact swo_key key
  obtain ⟨zs, h1, h2, h3⟩ := sortO_spec hs xs
  have hz : (zs.map key).Nodup := ((h2.map key).nodup_iff).2 hnd
  have hz2 : zs.Pairwise fun a b => key a ≠ key b := List.pairwise_map.1 hz
  refine ⟨zs, (List.pairwise_and_iff.2 ⟨hz2, h3⟩).imp fun {a b} hab => ?_, h2⟩
  obtain ⟨hne, hba⟩ := hab
  unfold ltC at hba
  rw [hcf, decide_eq_false_iff_not] at hba
  rcases lexc_vals (key a) (key b) with h | h | h
  · exact h
  · exact absurd (lexc_eq h) hne
  · have := lexc_anti (key a) (key b); rw [h] at this; rw [this] at hba; exact absurd (by decide) hba
theorem services_ok {m : Nat} {s : Stats} (h : SP m s.services) (hm : m ≤ 1000) : ∃ r, F11_Services s = some r ∧ KOrd (fun v : Service => keyK v.key) r ∧ r.Perm (s.services.map (·.2)) := by
  have hnd : ((s.services.map (·.2)).map fun v => keyK v.key).Nodup := by
    have e : ((s.services.map (·.2)).map fun v => keyK v.key) = (s.services.map (·.1)).map keyK := by
      rw [List.map_map, List.map_map]
      exact List.map_congr_left fun p hp => by show keyK p.2.key = keyK p.1; rw [(h.nn p hp).2]
    rw [e]
    exact List.pairwise_map.2 (h.nd.imp fun {a b} hab e => hab (keyK_inj e))
  obtain ⟨L, h1, h2⟩ := kord_of (cf := fun x y => F29_1 x y) (key := fun v : Service => keyK v.key) srv_cmp _ hnd
  refine ⟨L, ?_, h1, h2⟩
  have hle := h.le
  unfold F11_Services F27_Service
  rw [anyPerm_eq (r := L) (by simp; omega) fun ys hp => ?_]
  · rfl
  · have : F37_slices_SortFunc ys (fun x0 x1 => F29_1 x0 x1) = some L := sortO_kord (cf := fun x y => F29_1 x y) srv_cmp h1 (fun _ _ => rfl) (hp.trans h2.symm)
    rw [this]; rfl
def TV (l : List Service) : Int := (l.map tot).sum
end Go.Proofs.YtkfhcfkbaaekoaaDoor
