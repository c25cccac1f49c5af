/- The plain laws of chapter 16: an index of the program's is two maps, the reference's a row of pairs. No Go and no memory. -/
import Derived.Test.YtkopifmkikaaiaaPK
import Derived.Test.YtkopifmkikaaiaaS10
namespace Go.Proofs.Ytkopifmkikaaiaa
open Go K
set_option linter.unusedVariables false

/-! ### maps as lists of pairs -/
section
variable {α β : Type} [DecidableEq α]
theorem mget_mdel : ∀ {l : List (α × β)} {k q : α}, (l.map (·.1)).Nodup → mget (mdel l k) q = if q = k then none else mget l q
  | [], k, q, _ => by simp [mdel, mget]
  | p :: r, k, q, h => by
    rw [List.map_cons, List.nodup_cons] at h
    rw [mdel]
    by_cases e : k = p.1
    · rw [if_pos e]
      by_cases e2 : q = k
      · rw [if_pos e2]
        cases hg : mget r q with
        | none => rfl
        | some v => exact absurd (List.mem_map.2 ⟨(q, v), mget_mem hg, by rw [e2, e]⟩) h.1
      · rw [if_neg e2, mget, if_neg (fun h => e2 (h.trans e.symm))]
    · rw [if_neg e, mget, mget_mdel h.2, mget]
      by_cases e2 : q = k
      · subst e2; simp [e]
      · simp [e2]
theorem mput_new : ∀ {l : List (α × β)} {k : α} {v : β}, mget l k = none → mput l k v = l ++ [(k, v)]
  | [], _, _, _ => rfl
  | p :: r, k, v, h => by
    rw [mget] at h
    split at h
    · cases h
    · rename_i e
      rw [mput, if_neg e, mput_new h]; rfl
theorem mem_keys {l : List (α × β)} {k : α} : k ∈ l.map (·.1) ↔ ∃ v, mget l k = some v := by
  constructor
  · intro h
    cases hg : mget l k with
    | some v => exact ⟨v, rfl⟩
    | none =>
      obtain ⟨p, hp, e⟩ := List.mem_map.1 h
      exact absurd e (mget_none hg p hp)
  · rintro ⟨v, h⟩
    exact List.mem_map.2 ⟨_, mget_mem h, rfl⟩
theorem mput_len {l : List (α × β)} {k : α} {v : β} (h : (l.map (·.1)).Nodup) : (mput l k v).length ≤ l.length + 1 := by
  have := (mput_perm (v := v) (k := k) h).length_eq
  rw [this, List.length_cons, mdel_fil h]
  have := List.length_filter_le (fun p => !decide (p.1 = k)) l
  omega
theorem mdel_len {l : List (α × β)} {k : α} (h : (l.map (·.1)).Nodup) : (mdel l k).length ≤ l.length := by rw [mdel_fil h]; exact List.length_filter_le _ _
theorem mdel_nd {l : List (α × β)} {k : α} (h : (l.map (·.1)).Nodup) : ((mdel l k).map (·.1)).Nodup := by rw [mdel_fil h]; exact h.sublist (List.filter_sublist.map _)
theorem mput_in {l : List (α × β)} {k : α} {v u : β} (h : (l.map (·.1)).Nodup) (hg : mget l k = some u) : (mput l k v).length = l.length := by
  have h1 := (mput_perm (v := v) (k := k) h).length_eq
  have h2 : (mput l k u).length = l.length := by
    clear h1 h
    induction l with
    | nil => cases hg
    | cons p r ih =>
      rw [mput]
      split
      · rfl
      · rename_i e
        rw [mget, if_neg e] at hg
        simp [ih hg]
  have h3 := (mput_perm (v := u) (k := k) h).length_eq
  rw [h1, List.length_cons]
  rw [List.length_cons] at h3
  omega
end

/-! ### sorting names -/
theorem stoK : STO (ltK keyK) := ltK_sto fun _ _ h => keyK_inj h
theorem sort_prog (ys : List Key) (hl : ys.length < LIM) : ∃ r, F21_Sort ys = some r ∧ K.Ord (ltK keyK) r ∧ r.length ≤ ys.length ∧ ∀ x, x ∈ r ↔ x ∈ ys := by
  have hs : Go.Sort.SWO (ltC fun x0 x1 => F28_Compare x0 x1) := by
    have e : ltC (fun x0 x1 => F28_Compare x0 x1) = ltK keyK := by funext x y; exact ltC_key (key_cmp x y)
    rw [e]; exact swo_key keyK
  obtain ⟨zs, r, h1, h2, h3, h4, h5⟩ := srt_eq stoK (fun x0 x1 => F28_Compare x0 x1) hs Key.z ys (fun x _ y _ => ltC_key (key_cmp x y)) hl
  refine ⟨r, ?_, h3, h4, h5⟩
  unfold F21_Sort F26_Key
  rw [apO_ok (by simpa using hl)]
  have h1' : F27_slices_SortFunc ys (fun x0 x1 => F28_Compare x0 x1) = some zs := h1
  have h2' : F29_Key zs = some r := h2
  simp only [Option.bind_some, List.nil_append, h1', h2']
theorem sort_ref (zs : List Key) (hl : zs.length < LIM) : ∃ r, F24_Sort zs = some r ∧ K.Ord (ltK keyK) r ∧ r.length ≤ zs.length ∧ ∀ x, x ∈ r ↔ x ∈ zs :=
  insG_eq stoK (fun z y => some (F32_Compare z y)) (fun _ => True) (fun z y _ _ => ⟨_, rfl, by rw [key_cmpR]; rfl⟩) zs (fun _ _ => trivial) hl
theorem sort_one (ys zs : List Key) (hy : ys.length < LIM) (hz : zs.length < LIM) (h : ∀ x, x ∈ ys ↔ x ∈ zs) : F21_Sort ys = F24_Sort zs := by
  obtain ⟨r, h1, h2, _, h3⟩ := sort_prog ys hy
  obtain ⟨q, k1, k2, _, k3⟩ := sort_ref zs hz
  rw [h1, k1, K.Ord.ext stoK r q h2 k2 fun x => by rw [h3, k3, h]]

/-! ### the relation -/
structure RX (n : Nat) (X : Index_2) (A : List A2Key) : Prop where
  own : X.owner = A.map fun p => (p.e0, p.e1)
  nd : (X.owner.map (·.1)).Nodup
  snd : (X.slices.map (·.1)).Nodup
  inn : ∀ k m, mget X.slices k = some m → (m.map (·.1)).Nodup ∧ m ≠ [] ∧ m.length ≤ n ∧ ∀ s, s ∈ m.map (·.1) ↔ mget X.owner s = some k
  non : ∀ k, mget X.slices k = none → ∀ s, mget X.owner s ≠ some k
  len : A.length ≤ n
  slen : X.slices.length ≤ n
section
variable {n : Nat} {X : Index_2} {A : List A2Key}
theorem RX.mono (h : RX n X A) {m : Nat} (hm : n ≤ m) : RX m X A := ⟨h.own, h.nd, h.snd, fun k q hq => let ⟨a, b, c, d⟩ := h.inn k q hq; ⟨a, b, Nat.le_trans c hm, d⟩, h.non, Nat.le_trans h.len hm, Nat.le_trans h.slen hm⟩
theorem RX.nil : RX 0 ⟨[], []⟩ [] := ⟨rfl, List.Pairwise.nil, List.Pairwise.nil, (fun k m h => by cases h), (fun k _ s h => by cases h), Nat.le_refl _, Nat.le_refl _⟩
theorem owner_run (s : Key) : ∀ (A : List A2Key) (z : Key), runB (F19_Owner_b1 s) A z = match mget (A.map fun p => (p.e0, p.e1)) s with | some v => Lp.ret (v, true) | none => Lp.fin z
  | [], z => rfl
  | p :: A, z => by
    rw [runB]
    unfold F19_Owner_b1
    rw [List.map_cons, mget]
    by_cases e : p.e0 = s
    · simp [e]
    · rw [if_neg (by rw [decide_eq_true_iff]; exact e), if_neg (fun h => e h.symm)]
      exact owner_run s A z
theorem owner_eq (h : RX n X A) (s : Key) : F19_Owner ⟨A⟩ s = F18_Owner X s := by
  unfold F19_Owner F18_Owner lt
  rw [owner_run, ← h.own]
  cases mget X.owner s <;> rfl
theorem drop_ref (A : List A2Key) (s : Key) (hl : A.length < LIM) : F11_Drop ⟨A⟩ s = some ((F19_Owner ⟨A⟩ s).1, (F19_Owner ⟨A⟩ s).2, ⟨A.filter fun p => !decide (p.e0 = s)⟩) := by
  unfold F11_Drop lt
  have := runAO_gather (body := F11_Drop_b1 s) (fun p => !decide (p.e0 = s)) (fun p => p) (fun x t ht => by
    unfold F11_Drop_b1
    rw [ap1_ok ht]
    by_cases e : x.e0 = s <;> simp [e]) A [] (by simpa using hl)
  rw [this]
  simp
theorem fil_map (A : List A2Key) (s : Key) : (A.map fun p => (p.e0, p.e1)).filter (fun p => !decide (p.1 = s)) = (A.filter fun p => !decide (p.e0 = s)).map fun p => (p.e0, p.e1) := by
  rw [List.filter_map]; rfl
/-- A slice that is nobody's from here on. -/
theorem drop_eq (h : RX n X A) (hn : n < LIM) (s : Key) : ∃ k b X' A', F10_Drop X s = (k, b, X') ∧ F11_Drop ⟨A⟩ s = some (k, b, ⟨A'⟩) ∧ RX n X' A' ∧ mget X'.owner s = none := by
  have hr := drop_ref A s (Nat.lt_of_le_of_lt h.len hn)
  rw [owner_eq h s] at hr
  have hown' : mdel X.owner s = (A.filter fun p => !decide (p.e0 = s)).map fun p => (p.e0, p.e1) := by rw [mdel_fil h.nd, h.own, fil_map]
  have hg' : ∀ q, mget (mdel X.owner s) q = if q = s then none else mget X.owner q := fun q => mget_mdel h.nd
  cases hg : mget X.owner s with
  | none =>
    have hA : (A.filter fun p => !decide (p.e0 = s)) = A := by
      refine List.filter_eq_self.2 fun p hp => ?_
      have := mget_none hg (p.e0, p.e1) (by rw [h.own]; exact List.mem_map.2 ⟨p, hp, rfl⟩)
      simpa using this
    refine ⟨Key.z, false, X, A, ?_, ?_, h, hg⟩
    · unfold F10_Drop
      rw [hg]; rfl
    · rw [hr, hA]; unfold F18_Owner; rw [hg]; rfl
  | some k =>
    obtain ⟨m, hm⟩ : ∃ m, mget X.slices k = some m := by
      cases hm : mget X.slices k with
      | some m => exact ⟨m, rfl⟩
      | none => exact absurd hg (h.non k hm s)
    obtain ⟨i1, i2, i3, i4⟩ := h.inn k m hm
    have hmod : mmod X.slices k (fun m => mdel m s) = mput X.slices k (mdel m s) := by unfold mmod; rw [hm]
    have hlen2 : (mput X.slices k (mdel m s)).length ≤ n := by rw [mput_in h.snd hm]; exact h.slen
    have hnd2 := mput_nd (k := k) (v := mdel m s) h.snd
    have hkeys : ∀ q, q ∈ (mdel m s).map (·.1) ↔ q ≠ s ∧ q ∈ m.map (·.1) := fun q => by
      rw [mem_keys, mget_mdel i1, mem_keys]
      by_cases e : q = s <;> simp [e]
    have hother : ∀ q mq, q ≠ k → mget X.slices q = some mq → (mq.map (·.1)).Nodup ∧ mq ≠ [] ∧ mq.length ≤ n ∧ ∀ t, t ∈ mq.map (·.1) ↔ mget (mdel X.owner s) t = some q := fun q mq hq hmq => by
      obtain ⟨j1, j2, j3, j4⟩ := h.inn q mq hmq
      refine ⟨j1, j2, j3, fun t => ?_⟩
      rw [j4, hg']
      by_cases e : t = s
      · subst e; rw [hg]; simp; exact fun h => hq h.symm
      · rw [if_neg e]
    have hprog : F10_Drop X s = if (mdel m s).length = 0 then (k, true, { owner := mdel X.owner s, slices := mdel (mput X.slices k (mdel m s)) k }) else (k, true, { owner := mdel X.owner s, slices := mput X.slices k (mdel m s) }) := by
      unfold F10_Drop
      rw [hg]
      simp only [Option.isSome_some, Bool.not_true, Bool.false_eq_true, if_false, Option.getD_some, hmod, mget_mput, if_true]
      by_cases e : (mdel m s).length = 0
      · rw [if_pos (by rw [decide_eq_true_iff]; omega), if_pos e]
      · rw [if_neg (by rw [decide_eq_true_iff]; omega), if_neg e]
    have hrr : F11_Drop ⟨A⟩ s = some (k, true, ⟨A.filter fun p => !decide (p.e0 = s)⟩) := by
      rw [hr]; unfold F18_Owner; rw [hg]; rfl
    have hAl : (A.filter fun p => !decide (p.e0 = s)).length ≤ n := Nat.le_trans (List.length_filter_le _ _) h.len
    by_cases e : (mdel m s).length = 0
    · rw [if_pos e] at hprog
      have e0 : mdel m s = [] := List.eq_nil_of_length_eq_zero e
      refine ⟨_, _, _, _, hprog, hrr, ⟨hown', mdel_nd h.nd, mdel_nd hnd2, fun q mq hmq => ?_, fun q hq t ht => ?_, hAl, Nat.le_trans (mdel_len hnd2) hlen2⟩, by show mget (mdel X.owner s) s = none; rw [hg', if_pos rfl]⟩
      · simp only [mget_mdel hnd2, mget_mput] at hmq
        by_cases eq : q = k
        · rw [if_pos eq] at hmq; cases hmq
        · rw [if_neg eq, if_neg eq] at hmq; exact hother q mq eq hmq
      · simp only [mget_mdel hnd2, mget_mput] at hq
        simp only [hg'] at ht
        by_cases et : t = s
        · rw [if_pos et] at ht; cases ht
        · rw [if_neg et] at ht
          by_cases eq : q = k
          · subst eq
            have := (hkeys t).2 ⟨et, (i4 t).2 ht⟩
            rw [e0] at this; cases this
          · rw [if_neg eq, if_neg eq] at hq
            exact h.non q hq t ht
    · rw [if_neg e] at hprog
      refine ⟨_, _, _, _, hprog, hrr, ⟨hown', mdel_nd h.nd, hnd2, fun q mq hmq => ?_, fun q hq t ht => ?_, hAl, hlen2⟩, by show mget (mdel X.owner s) s = none; rw [hg', if_pos rfl]⟩
      · simp only [mget_mput] at hmq
        by_cases eq : q = k
        · rw [if_pos eq] at hmq
          cases hmq
          subst eq
          refine ⟨mdel_nd i1, fun h0 => e (by rw [h0]; rfl), Nat.le_trans (mdel_len i1) i3, fun t => ?_⟩
          simp only [hg']
          rw [hkeys, i4]
          by_cases et : t = s <;> simp [et]
        · rw [if_neg eq] at hmq; exact hother q mq eq hmq
      · simp only [mget_mput] at hq
        simp only [hg'] at ht
        by_cases et : t = s
        · rw [if_pos et] at ht; cases ht
        · rw [if_neg et] at ht
          by_cases eq : q = k
          · rw [if_pos eq] at hq; cases hq
          · rw [if_neg eq] at hq
            exact h.non q hq t ht
theorem put_tot (X : Index_2) (s o : Key) : ∃ r, F8_Put X s o = some r := by
  unfold F8_Put lt
  generalize F10_Drop X s = d
  show ∃ r, (if (mget d.2.2.slices o).isNone = true then _ else _) = some r
  cases hg : mget d.2.2.slices o with
  | none =>
    rw [if_pos (by rfl)]
    unfold mmnew
    rw [hg]
    simp only [Option.isNone_none, if_true, Option.bind_some, mget_mput]
    exact ⟨_, rfl⟩
  | some m =>
    rw [if_neg (by simp)]
    exact ⟨_, rfl⟩
theorem put_eq (h : RX n X A) (hn : n + 1 < LIM) (s o : Key) : ∃ k b X' A', F8_Put X s o = some (k, b, X') ∧ F9_Put ⟨A⟩ s o = some (k, b, ⟨A'⟩) ∧ RX (n + 1) X' A' := by
  obtain ⟨k, b, X1, A1, h1, h2, h3, h4⟩ := drop_eq h (by omega) s
  have hA1 := h3.len
  have href : F9_Put ⟨A⟩ s o = some (k, b, ⟨A1 ++ [⟨s, o⟩]⟩) := by
    unfold F9_Put
    rw [h2]
    simp only [Option.bind_some]
    rw [apO_ok (by simp; omega)]; rfl
  have hown : mput X1.owner s o = X1.owner ++ [(s, o)] := mput_new h4
  have hgo : ∀ q, mget (mput X1.owner s o) q = if q = s then some o else mget X1.owner q := fun q => mget_mput _ _ _ _
  have key : ∀ (m : List (Key × St50)) (sl : List (Key × List (Key × St50))), (m.map (·.1)).Nodup → m.length ≤ n → (∀ t, t ∈ m.map (·.1) ↔ mget X1.owner t = some o) → (sl.map (·.1)).Nodup → sl.length ≤ n + 1 → (∀ q, q ≠ o → mget sl q = mget X1.slices q) → mget sl o = some (mput m s ({ } : St50)) →
      RX (n + 1) { owner := mput X1.owner s o, slices := sl } (A1 ++ [⟨s, o⟩]) := by
    intro m sl m1 m2 m3 s1 s2 s3 s4
    refine ⟨by show mput X1.owner s o = _; rw [hown, h3.own]; simp, mput_nd h3.nd, s1, fun q mq hmq => ?_, fun q hq t ht => ?_, by simp; omega, s2⟩
    · by_cases eq : q = o
      · subst eq
        have hmq : mget sl q = some mq := hmq
        rw [s4] at hmq; cases hmq
        refine ⟨mput_nd m1, fun h0 => ?_, Nat.le_trans (mput_len m1) (by omega), fun t => ?_⟩
        · have := (mput_perm (k := s) (v := ({ } : St50)) m1).length_eq; rw [h0] at this; simp at this
        · show _ ↔ mget (mput X1.owner s q) t = some q
          rw [hgo, mem_keys, mget_mput]
          by_cases et : t = s
          · rw [if_pos et, if_pos et]; exact ⟨fun _ => rfl, fun _ => ⟨_, rfl⟩⟩
          · rw [if_neg et, if_neg et, ← mem_keys, m3]
      · have hmq : mget sl q = some mq := hmq
        rw [s3 q eq] at hmq
        obtain ⟨j1, j2, j3, j4⟩ := h3.inn q mq hmq
        refine ⟨j1, j2, by omega, fun t => ?_⟩
        show _ ↔ mget (mput X1.owner s o) t = some q
        rw [hgo, j4]
        by_cases et : t = s
        · rw [if_pos et, et, h4]; simp; exact fun h => eq h.symm
        · rw [if_neg et]
    · have hq : mget sl q = none := hq
      have ht : mget (mput X1.owner s o) t = some q := ht
      rw [hgo] at ht
      by_cases eq : q = o
      · rw [eq, s4] at hq; cases hq
      · rw [s3 q eq] at hq
        by_cases et : t = s
        · rw [if_pos et] at ht; exact eq (Option.some.inj ht).symm
        · rw [if_neg et] at ht; exact h3.non q hq t ht
  have hsl := h3.slen
  cases hg : mget X1.slices o with
  | none =>
    refine ⟨k, b, { owner := mput X1.owner s o, slices := mput (mput X1.slices o []) o (mput [] s ({ } : St50)) }, _, ?_, href, key [] _ List.Pairwise.nil (by simp) (fun t => ?_) (mput_nd (mput_nd h3.snd)) ?_ (fun q hq => ?_) ?_⟩
    · unfold F8_Put lt
      rw [h1]
      simp only [hg, Option.isNone_none, if_true]
      unfold mmnew
      rw [hg]
      simp only [Option.isNone_none, if_true, Option.bind_some, mget_mput]
    · constructor
      · intro ht; cases ht
      · intro ht; exact absurd ht (h3.non o hg t)
    · rw [mput_in (mput_nd h3.snd) (by rw [mget_mput, if_pos rfl])]
      exact Nat.le_trans (mput_len h3.snd) (by omega)
    · rw [mget_mput, if_neg hq, mget_mput, if_neg hq]
    · rw [mget_mput, if_pos rfl]
  | some m =>
    obtain ⟨i1, i2, i3, i4⟩ := h3.inn o m hg
    refine ⟨k, b, { owner := mput X1.owner s o, slices := mput X1.slices o (mput m s ({ } : St50)) }, _, ?_, href, key m _ i1 i3 i4 (mput_nd h3.snd) ?_ (fun q hq => ?_) ?_⟩
    · unfold F8_Put lt
      rw [h1]
      simp only [hg, Option.isNone_some, Bool.false_eq_true, if_false, Option.bind_some]
    · rw [mput_in h3.snd hg]; omega
    · rw [mget_mput, if_neg hq]
    · rw [mget_mput, if_pos rfl]
theorem LIM4 : LIM = 4294967296 := rfl
theorem owners_eq (h : RX n X A) (hn : n < LIM) : ∃ r, F14_Owners X = some r ∧ F15_Owners ⟨A⟩ = some r ∧ (∀ k, k ∈ r ↔ ∃ m, mget X.slices k = some m) ∧ K.Ord (ltK keyK) r := by
  have hlen := h.len
  have hslen := h.slen
  obtain ⟨r, h1, h2, _, h3⟩ := sort_ref (A.map (·.e1)) (by simp; omega)
  have hmem : ∀ k, k ∈ A.map (·.e1) ↔ k ∈ X.slices.map (·.1) := fun k => by
    rw [mem_keys, List.mem_map]
    constructor
    · rintro ⟨p, hp, rfl⟩
      cases hg : mget X.slices p.e1 with
      | some m => exact ⟨m, rfl⟩
      | none => exact absurd (mget_of h.nd (by rw [h.own]; exact List.mem_map.2 ⟨p, hp, rfl⟩)) (h.non _ hg p.e0)
    · rintro ⟨m, hm⟩
      obtain ⟨i1, i2, i3, i4⟩ := h.inn k m hm
      cases m with
      | nil => exact absurd rfl i2
      | cons q r =>
        have := mget_mem ((i4 q.1).1 (by simp))
        rw [h.own] at this
        obtain ⟨p, hp, e⟩ := List.mem_map.1 this
        exact ⟨p, hp, (Prod.mk.inj e).2⟩
  refine ⟨r, ?_, ?_, fun k => by rw [h3, hmem, mem_keys], h2⟩
  · unfold F14_Owners
    refine anyPerm_eq (by simp; rw [LIM4] at hn; omega) fun ys hp => ?_
    have hyl : ys.length = X.slices.length := by have := hp.length_eq; simpa using this
    rw [sort_one ys (A.map (·.e1)) (by omega) (by simp; omega) fun x => by rw [hp.mem_iff, hmem], h1]
    rfl
  · unfold F15_Owners
    have := runAO_gather (body := F15_Owners_b1) (fun _ => true) (fun p => p.e1) (fun x t ht => by
      unfold F15_Owners_b1
      rw [ap1_ok ht]; rfl) A [] (by simp; omega)
    rw [this, List.filter_eq_self.2 (fun _ _ => rfl)]
    simp [h1]
theorem slices_eq (h : RX n X A) (hn : n < LIM) (o : Key) : ∃ r, F16_Slices X o = some r ∧ F17_Slices ⟨A⟩ o = some r ∧ (∀ s, s ∈ r ↔ mget X.owner s = some o) ∧ K.Ord (ltK keyK) r := by
  have hlen := h.len
  have hfl : ((A.filter fun p => decide (p.e1 = o)).map (·.e0)).length < LIM := by simp; exact Nat.lt_of_le_of_lt (Nat.le_trans (List.length_filter_le _ _) hlen) hn
  obtain ⟨r, h1, h2, _, h3⟩ := sort_ref ((A.filter fun p => decide (p.e1 = o)).map (·.e0)) hfl
  have hmo : ∀ s, s ∈ (A.filter fun p => decide (p.e1 = o)).map (·.e0) ↔ mget X.owner s = some o := fun s => by
    rw [List.mem_map]
    constructor
    · rintro ⟨p, hp, rfl⟩
      obtain ⟨hp1, hp2⟩ := List.mem_filter.1 hp
      have hp2 : p.e1 = o := of_decide_eq_true hp2
      refine mget_of h.nd ?_
      rw [h.own, ← hp2]; exact List.mem_map.2 ⟨p, hp1, rfl⟩
    · intro hs
      have := mget_mem hs
      rw [h.own] at this
      obtain ⟨p, hp, e⟩ := List.mem_map.1 this
      exact ⟨p, List.mem_filter.2 ⟨hp, by rw [decide_eq_true_iff]; exact (Prod.mk.inj e).2⟩, (Prod.mk.inj e).1⟩
  have hkeys : ∀ s, s ∈ ((mget X.slices o).getD []).map (·.1) ↔ mget X.owner s = some o := fun s => by
    cases hg : mget X.slices o with
    | some m => exact (h.inn o m hg).2.2.2 s
    | none =>
      constructor
      · intro hs; cases hs
      · intro hs; exact absurd hs (h.non o hg s)
  have hml : ((mget X.slices o).getD []).length ≤ n := by
    cases hg : mget X.slices o with
    | some m => exact (h.inn o m hg).2.2.1
    | none => exact Nat.zero_le _
  refine ⟨r, ?_, ?_, fun s => by rw [h3, hmo], h2⟩
  · unfold F16_Slices
    refine anyPerm_eq (by simp; rw [LIM4] at hn; omega) fun ys hp => ?_
    have hyl : ys.length = ((mget X.slices o).getD []).length := by have := hp.length_eq; simpa using this
    rw [sort_one ys _ (by omega) hfl fun x => by rw [hp.mem_iff, hkeys, hmo], h1]
    rfl
  · unfold F17_Slices
    have := runAO_gather (body := F17_Slices_b1 o) (fun p => decide (p.e1 = o)) (fun p => p.e0) (fun x t ht => by
      unfold F17_Slices_b1
      rw [ap1_ok ht]
      by_cases e : x.e1 = o <;> simp [e]) A [] (by simp; omega)
    rw [this]
    simp [h1]
theorem len_eq (h : RX n X A) : F12_Len X = ((A.length : Nat) : Int) := by unfold F12_Len; rw [h.own]; simp
theorem same_row (L : List Key) : F13_Same L L = some true := by
  unfold F13_Same
  rw [if_neg (by simp)]
  have := runBO_all (body := F13_Same_b1 L) L 0 (fun i x hx => by
    unfold F13_Same_b1
    rw [Nat.zero_add, ixO_at hx]
    simp)
  rw [this]; rfl
end
theorem alive16 : F5_alive = some true := by
  have hL : (5 : Nat) < LIM := by decide
  obtain ⟨k, b, X', A', h1, h2, h3⟩ := put_eq RX.nil (by omega) ({ space := (⟨#[97]⟩ : ByteArray), name := (⟨#[115, 49]⟩ : ByteArray) } : Key) ({ space := (⟨#[97]⟩ : ByteArray), name := (⟨#[119, 101, 98]⟩ : ByteArray) } : Key)
  have hr : F9_Put ⟨[]⟩ ({ space := (⟨#[97]⟩ : ByteArray), name := (⟨#[115, 49]⟩ : ByteArray) } : Key) ({ space := (⟨#[97]⟩ : ByteArray), name := (⟨#[119, 101, 98]⟩ : ByteArray) } : Key) = some (Key.z, false, ⟨[⟨({ space := (⟨#[97]⟩ : ByteArray), name := (⟨#[115, 49]⟩ : ByteArray) } : Key), ({ space := (⟨#[97]⟩ : ByteArray), name := (⟨#[119, 101, 98]⟩ : ByteArray) } : Key)⟩]⟩) := by decide +kernel
  rw [hr] at h2
  simp only [Option.some.injEq, Prod.mk.injEq, Index_3.mk.injEq] at h2
  obtain ⟨rfl, rfl, rfl⟩ := h2
  obtain ⟨r, h4, h5, _, _⟩ := slices_eq h3 (by omega) ({ space := (⟨#[97]⟩ : ByteArray), name := (⟨#[119, 101, 98]⟩ : ByteArray) } : Key)
  have hs : F17_Slices ⟨[⟨({ space := (⟨#[97]⟩ : ByteArray), name := (⟨#[115, 49]⟩ : ByteArray) } : Key), ({ space := (⟨#[97]⟩ : ByteArray), name := (⟨#[119, 101, 98]⟩ : ByteArray) } : Key)⟩]⟩ ({ space := (⟨#[97]⟩ : ByteArray), name := (⟨#[119, 101, 98]⟩ : ByteArray) } : Key) = some [({ space := (⟨#[97]⟩ : ByteArray), name := (⟨#[115, 49]⟩ : ByteArray) } : Key)] := by decide +kernel
  rw [hs] at h5
  cases h5
  unfold F5_alive
  have h1' : F8_Put (F7_New) ({ space := (⟨#[97]⟩ : ByteArray), name := (⟨#[115, 49]⟩ : ByteArray) } : Key) ({ space := (⟨#[97]⟩ : ByteArray), name := (⟨#[119, 101, 98]⟩ : ByteArray) } : Key) = some (Key.z, false, X') := h1
  simp only [lt, h1', Option.bind_some, h4]
  rfl
theorem long_len {a0 : List Act} (h : F6_Long a0 = false) : a0.length ≤ 40 := by
  unfold F6_Long at h
  by_cases hl : decide (((a0.length : Nat) : Int) > 40) = true
  · rw [if_pos hl] at h; cases h
  · rw [decide_eq_true_iff] at hl; omega
end Go.Proofs.Ytkopifmkikaaiaa
