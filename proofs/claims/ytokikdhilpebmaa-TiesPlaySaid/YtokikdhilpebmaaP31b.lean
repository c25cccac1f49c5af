/- The plain law of TiesPlay: the program's ties are a map, the reference's a row in order: what each act leaves stands in one relation. No Go and no memory. -/
import Derived.Test.YtokikdhilpebmaaP31
import Derived.Test.YtokikdhilpebmaaS10
namespace Go.Proofs.Ytokikdhilpebmaa
open Go K
set_option linter.unusedVariables false

abbrev pl (t : Tie) : Place := F35_place t
def keyTN (t : Tie) : List Int := keyN t.client ++ (keyK t.service ++ (txt t.name ++ [if t.localF = true then 1 else 0]))
theorem keyN_len' {a b : Addr} : (keyN a).length = (keyN b).length := by simp [keyN, A16u8.list]
theorem keyTN_lex (a b : Tie) : lexc (keyTN a) (keyTN b) = if lexc (keyN a.client) (keyN b.client) = 0 then (if lexc (keyK a.service) (keyK b.service) = 0 then (if a.name = b.name then (if a.localF = b.localF then 0 else if a.localF = true then 1 else -1) else if Op.bytesLess a.name.toList b.name.toList then -1 else 1) else lexc (keyK a.service) (keyK b.service)) else lexc (keyN a.client) (keyN b.client) := by
  unfold keyTN
  rw [lexc_app _ _ keyN_len', keyK_app, txt_cmp]
  cases a.localF <;> cases b.localF <;> simp [lexc]
theorem cmpN_eq (a b : Tie) : F9_Compare a b = lexc (keyTN a) (keyTN b) := by
  rw [keyTN_lex]
  unfold F9_Compare
  simp only [lt, addr_cmpN, key_cmp, cmpS, cmpI, or_cons, or_nil, F25_number]
  by_cases h1 : lexc (keyN a.client) (keyN b.client) = 0
  · by_cases h2 : lexc (keyK a.service) (keyK b.service) = 0
    · by_cases h3 : a.name = b.name
      · cases a.localF <;> cases b.localF <;> simp [h1, h2, h3]
      · cases h4 : Op.bytesLess a.name.toList b.name.toList <;> simp [h1, h2, h3]
    · simp [h1, h2]
  · simp [h1]
theorem keyTN_ok {t : Tie} (h : ok_Tie t) : keyTN t = keyT t := by unfold keyTN keyT; rw [keyN_ok h.1]
theorem elder_eq (a b : Tie) : F48_elder a b = lexc (a.last :: keyTN a) (b.last :: keyTN b) := by
  unfold F48_elder
  simp only [lt, cmpN_eq, cmpI, or_cons, or_nil, lexc]
  by_cases h1 : a.last < b.last
  · simp [h1]
  · by_cases h2 : b.last < a.last
    · simp [h1, h2]
    · simp [h1, h2]
      exact fun h => h.symm
theorem keyT_pl {a b : Tie} : keyT a = keyT b ↔ pl a = pl b := by
  constructor
  · intro h
    have h0 : lexc (keyT a) (keyT b) = 0 := by rw [h]; exact lexc_self _
    rw [keyT_lex] at h0
    by_cases h1 : lexc (keyA a.client) (keyA b.client) = 0
    · rw [if_pos h1] at h0
      by_cases h2 : lexc (keyK a.service) (keyK b.service) = 0
      · rw [if_pos h2] at h0
        by_cases h3 : a.name = b.name
        · rw [if_pos h3] at h0
          by_cases h4 : a.localF = b.localF
          · show Place.mk _ _ _ _ = Place.mk _ _ _ _
            rw [keyA_inj (lexc_eq h1), keyK_inj (lexc_eq h2), h3, h4]
          · rw [if_neg h4] at h0; split at h0 <;> cases h0
        · rw [if_neg h3] at h0; split at h0 <;> cases h0
      · rw [if_neg h2] at h0; exact absurd h0 h2
    · rw [if_neg h1] at h0; exact absurd h0 h1
  · intro h
    have h : Place.mk a.client a.service a.name a.localF = Place.mk b.client b.service b.name b.localF := h
    rw [Place.mk.injEq] at h
    obtain ⟨h1, h2, h3, h4⟩ := h
    unfold keyT
    rw [h1, h2, h3, h4]

/-- The map and the row hold the same ties. -/
structure R (l : List (Place × Tie)) (L : List Tie) : Prop where
  key : ∀ p ∈ l, p.1 = pl p.2
  nd : (l.map (·.1)).Nodup
  perm : L.Perm (l.map (·.2))
  ord : KOrd keyT L
  ok : ∀ t ∈ L, ok_Tie t
  len : L.length ≤ 16
section
variable {l : List (Place × Tie)} {L : List Tie}
theorem R.size (h : R l L) : l.length = L.length := by have := h.perm.length_eq; simpa using this.symm
theorem R.mem (h : R l L) {t : Tie} : t ∈ L ↔ (pl t, t) ∈ l := by
  rw [h.perm.mem_iff, List.mem_map]
  constructor
  · rintro ⟨p, hp, rfl⟩
    have := h.key p hp
    rw [← this]; exact hp
  · exact fun hp => ⟨_, hp, rfl⟩
theorem R.uniq (h : R l L) {a b : Tie} (ha : a ∈ L) (hb : b ∈ L) (e : pl a = pl b) : a = b := h.ord.inj a ha b hb (keyT_pl.2 e)
theorem R.get (h : R l L) (t : Tie) : (∃ f, f ∈ L ∧ pl f = pl t ∧ mget l (pl t) = some f) ∨ ((∀ f ∈ L, pl f ≠ pl t) ∧ mget l (pl t) = none) := by
  cases hg : mget l (pl t) with
  | some v =>
    have h1 := mget_mem hg
    have h2 : pl t = pl v := h.key _ h1
    exact .inl ⟨v, h.mem.2 (by rw [← h2]; exact h1), h2.symm, rfl⟩
  | none => exact .inr ⟨fun f hf e => mget_none hg _ (h.mem.1 hf) e, rfl⟩
theorem same_eq (a b : Tie) : F46_same a b = decide (pl a = pl b) := by
  unfold F46_same
  have e : (pl a = pl b) = (a.client = b.client ∧ a.service = b.service ∧ a.name = b.name ∧ a.localF = b.localF) := by
    show (Place.mk _ _ _ _ = Place.mk _ _ _ _) = _
    rw [Place.mk.injEq]
  rw [show decide (pl a = pl b) = decide (a.client = b.client ∧ a.service = b.service ∧ a.name = b.name ∧ a.localF = b.localF) from decide_eq_decide.2 (by rw [e])]
  simp only [lt]
  by_cases h1 : a.client = b.client <;> by_cases h2 : a.service = b.service <;> by_cases h3 : a.name = b.name <;> simp [h1, h2, h3]
  cases a.localF <;> cases b.localF <;> rfl
theorem find_eq (L : List Tie) (t : Tie) : F36_find ⟨L⟩ t = idxG L fun f => decide (pl f = pl t) := by
  have e : (fun f => decide (pl f = pl t)) = fun f => F46_same f t := funext fun f => (same_eq f t).symm
  rw [e]; rfl
theorem R.pw (h : R l L) (t : Tie) : L.Pairwise fun a b => ¬ (decide (pl a = pl t) = true ∧ decide (pl b = pl t) = true) := h.ord.imp fun {a b} hab ⟨h1, h2⟩ => by
  have h1 : pl a = pl t := of_decide_eq_true h1
  have h2 : pl b = pl t := of_decide_eq_true h2
  rw [keyT_pl.2 (h1.trans h2.symm)] at hab
  exact lexc_irr _ hab
/-- What is there of a place: in the row, and in the map. -/
theorem R.find (h : R l L) (t : Tie) : (∃ i f, F36_find ⟨L⟩ t = ((i : Nat) : Int) ∧ L[i]? = some f ∧ f ∈ L ∧ pl f = pl t ∧ mget l (pl t) = some f ∧ L.take i ++ L.drop (i + 1) = L.filter fun f => !decide (pl f = pl t)) ∨
    (F36_find ⟨L⟩ t = -1 ∧ (∀ f ∈ L, pl f ≠ pl t) ∧ mget l (pl t) = none ∧ (L.filter fun f => !decide (pl f = pl t)) = L) := by
  rw [find_eq, idxG_eq]
  have hf := fi (fun f => decide (pl f = pl t)) L
  cases hi : L.findIdx? fun f => decide (pl f = pl t) with
  | some i =>
    rw [hi] at hf
    obtain ⟨f, h1, h2, h3, h4⟩ := hf
    have h2 : pl f = pl t := of_decide_eq_true h2
    refine .inl ⟨i, f, rfl, h1, h3, h2, ?_, h4 (h.pw t)⟩
    rw [← h2]; exact mget_of h.nd (h.mem.1 h3)
  | none =>
    rw [hi] at hf
    have h1 : ∀ f ∈ L, pl f ≠ pl t := fun f hf' => of_decide_eq_false (hf.1 f hf')
    refine .inr ⟨rfl, h1, ?_, hf.2⟩
    rcases h.get t with ⟨f, h2, h3, _⟩ | ⟨_, h2⟩
    · exact absurd h3 (h1 f h2)
    · exact h2
theorem R.del (h : R l L) (k : Place) : R (mdel l k) (L.filter fun f => !decide (pl f = k)) := by
  have hm := mdel_fil (k := k) h.nd
  refine ⟨fun p hp => h.key p ?_, ?_, ?_, List.Pairwise.sublist List.filter_sublist h.ord, fun t ht => h.ok t (List.mem_filter.1 ht).1, Nat.le_trans (List.length_filter_le _ _) h.len⟩
  · rw [hm] at hp; exact (List.mem_filter.1 hp).1
  · rw [hm]; exact h.nd.sublist (List.filter_sublist.map _)
  · rw [hm]
    have h1 := h.perm.filter fun f => !decide (pl f = k)
    rw [List.filter_map] at h1
    have e : (l.filter ((fun f => !decide (pl f = k)) ∘ fun p => p.2)) = l.filter fun p => !decide (p.1 = k) := List.filter_congr fun p hp => by
      show (!decide (pl p.2 = k)) = _
      rw [h.key p hp]
    rw [e] at h1; exact h1
theorem drop_ref (h : R l L) (t : Tie) : F30_Drop ⟨L⟩ t = some ((mget l (pl t)).isSome, ⟨L.filter fun f => !decide (pl f = pl t)⟩) := by
  have hL : (100 : Nat) < LIM := by decide
  have hlen := h.len
  unfold F30_Drop
  rcases h.find t with ⟨i, f, h1, h2, h3, h4, h5, h6⟩ | ⟨h1, h2, h3, h4⟩
  · have hi : i < L.length := (List.getElem?_eq_some_iff.1 h2).1
    simp only [lt, h1]
    rw [if_neg (by rw [decide_eq_true_iff]; omega)]
    have e1 : slO L 0 (i : Int) = some (L.take i) := by have := slO_ok (xs := L) (lo := 0) (hi := i) (Nat.zero_le _) (by omega); simpa using this
    have e2 : slO L (IntKind.i64.wrap ((i : Int) + 1)) ((L.length : Nat) : Int) = some (L.drop (i + 1)) := by
      rw [wrap1 (by omega)]
      have := slO_ok (xs := L) (lo := i + 1) (hi := L.length) (by omega) (Nat.le_refl _)
      rw [this]; congr 1; rw [List.take_of_length_le (by simp)]
    rw [e1, e2]
    simp only [Option.bind_some, List.nil_append]
    rw [apO_ok (by simp; omega), apO_ok (by simp; omega)]
    simp only [Option.bind_some]
    rw [h6, h5]; rfl
  · simp only [lt, h1]
    rw [if_pos (by decide), h3, h4]; rfl
theorem drop_prog (l : List (Place × Tie)) (t : Tie) : F29_Drop ⟨l⟩ t = ((mget l (pl t)).isSome, ⟨mdel l (pl t)⟩) := rfl

/-! ### the eldest -/
theorem ref_min : ∀ (L pre : List Tie) (s : Tie), s ∈ pre → KOrd keyT (pre ++ L) → (∀ y ∈ pre, lexc (y.last :: keyT y) (s.last :: keyT s) ≠ -1) →
    runA F28_Put_b1 L s ∈ pre ++ L ∧ ∀ y ∈ pre ++ L, lexc (y.last :: keyT y) ((runA F28_Put_b1 L s).last :: keyT (runA F28_Put_b1 L s)) ≠ -1
  | [], pre, s, hs, _, hm => by rw [List.append_nil]; exact ⟨hs, hm⟩
  | x :: L, pre, s, hs, ho, hm => by
    rw [runA]
    have e : pre ++ x :: L = (pre ++ [x]) ++ L := by simp
    rw [e] at ho ⊢
    have ho2 : KOrd keyT (pre ++ [x]) := (List.pairwise_append.1 ho).1
    have hlt : ∀ y ∈ pre, lexc (keyT y) (keyT x) = -1 := fun y hy => (List.pairwise_append.1 ho2).2.2 y hy x (by simp)
    have e1 : F28_Put_b1 x s = if x.last < s.last then x else s := by
      unfold F28_Put_b1
      by_cases h : x.last < s.last <;> simp [h]
    rw [e1]
    by_cases hx : x.last < s.last
    · rw [if_pos hx]
      refine ref_min L (pre ++ [x]) x (by simp) ho fun y hy => ?_
      rcases List.mem_append.1 hy with hy | hy
      · have h1 := hm y hy
        simp only [lexc] at h1 ⊢
        by_cases h2 : y.last < s.last
        · rw [if_pos h2] at h1; exact absurd rfl h1
        · rw [if_neg (by omega), if_pos (by omega)]; decide
      · rw [List.mem_singleton.1 hy]; exact lexc_irr _
    · rw [if_neg hx]
      refine ref_min L (pre ++ [x]) s (by simp [hs]) ho fun y hy => ?_
      rcases List.mem_append.1 hy with hy | hy
      · exact hm y hy
      · rw [List.mem_singleton.1 hy]
        simp only [lexc]
        rw [if_neg hx]
        split
        · decide
        · exact lexc_asy (hlt s hs)
theorem evict_eq (h : R l L) (t : Tie) (hn : mget l (pl t) = none) (hl : 16 ≤ L.length) : ∃ x0, ixO L 0 = some x0 ∧
    F37_evict ⟨l⟩ (pl t) = some (runA F28_Put_b1 L x0, true, ⟨mdel l (pl (runA F28_Put_b1 L x0))⟩) ∧ (mget l (pl (runA F28_Put_b1 L x0))).isSome = true := by
  have hF : 16 < FUEL := by decide
  have hlen := h.len
  have hs := h.size
  cases hL : L with
  | nil => rw [hL] at hl; simp at hl
  | cons x0 Lr =>
    refine ⟨x0, rfl, ?_⟩
    rw [hL] at h
    have e0 : F28_Put_b1 x0 x0 = x0 := by unfold F28_Put_b1; simp
    have hmin := ref_min Lr [x0] x0 (by simp) h.ord (fun y hy => by rw [List.mem_singleton.1 hy]; exact lexc_irr _)
    have e1 : runA F28_Put_b1 (x0 :: Lr) x0 = runA F28_Put_b1 Lr x0 := by rw [runA, e0]
    rw [e1]
    obtain ⟨old, ho⟩ : ∃ old, runA F28_Put_b1 Lr x0 = old := ⟨_, rfl⟩
    rw [ho] at hmin ⊢
    have hold : old ∈ x0 :: Lr := hmin.1
    have hget : mget l (pl old) = some old := mget_of h.nd (h.mem.1 hold)
    refine ⟨?_, by rw [hget]; rfl⟩
    unfold F37_evict
    simp only [lt, hn]
    have hlt : ¬ ((l.length : Nat) : Int) < 16 := by rw [hL] at hl hs; omega
    rw [if_neg (by simp; omega)]
    refine anyPerm_eq (by simp; rw [hL] at hs hlen; omega) fun ys hp => ?_
    have hpL : ys.Perm (x0 :: Lr) := hp.trans h.perm.symm
    have hyl : ys.length = (x0 :: Lr).length := hpL.length_eq
    obtain ⟨m, h1, h2, h3⟩ := minG_eq (key := fun t => t.last :: keyTN t) (cf := fun a b => F48_elder a b) elder_eq (xs := ys) (fun e => by rw [e] at hyl; simp at hyl) (by rw [hyl]; rw [hL] at hlen; omega)
    have h1' : F47_Tie ys (fun x0 x1 => F48_elder x0 x1) = some m := h1
    have hmL := hpL.mem_iff.1 h2
    have hmo : m = old := by
      have a1 := h3 old (hpL.mem_iff.2 hold)
      have a2 := hmin.2 m hmL
      rw [keyTN_ok (h.ok _ hmL), keyTN_ok (h.ok _ hold)] at a1
      have a3 : lexc (m.last :: keyT m) (old.last :: keyT old) = 0 := by
        rcases lexc_vals (m.last :: keyT m) (old.last :: keyT old) with e | e | e
        · exact absurd e a2
        · exact e
        · have := lexc_anti (m.last :: keyT m) (old.last :: keyT old); rw [e] at this; exact absurd this a1
      exact h.ord.inj m hmL old hold (List.cons.inj (lexc_eq a3)).2
    rw [h1', hmo]
    simp only [Option.bind_some, drop_prog, hget]
    rfl

/-! ### the acts -/
def zT : Tie := { client := Addr.z, service := Key.z, name := ⟨#[]⟩, localF := false, backend := Point.z, last := 0 }
/-- A tie put into a row and a map that have none of its place. -/
theorem R.put (h : R l L) (t : Tie) (ht : ok_Tie t) (hn : ∀ f ∈ L, pl f ≠ pl t) (hl : L.length ≤ 15) {q : Nat} (hq : q ≤ L.length) (hhi : ∀ y ∈ L.drop q, lexc (keyT t) (keyT y) = -1) (hlo : q = 0 ∨ ∃ y, L[q - 1]? = some y ∧ lexc (keyT t) (keyT y) ≠ -1)
    (l0 : List (Place × Tie)) (hl0 : l = mdel l0 (pl t)) (hnd : (l0.map (·.1)).Nodup) : R (mput l0 (pl t) t) (L.take q ++ [t] ++ L.drop q) := by
  have hp := mput_perm (k := pl t) (v := t) hnd
  rw [← hl0] at hp
  have hp2 := put_perm L t q
  refine ⟨fun p hpm => ?_, mput_nd hnd, ?_, h.ord.put hq hhi hlo (fun y hy e => hn y hy (keyT_pl.1 e)), fun f hf => ?_, ?_⟩
  · rcases List.mem_cons.1 (hp.mem_iff.1 hpm) with e | e
    · rw [e]
    · exact h.key p e
  · exact hp2.trans ((h.perm.cons t).trans (hp.map fun p : Place × Tie => p.2).symm)
  · rcases List.mem_cons.1 (hp2.mem_iff.1 hf) with e | e
    · rw [e]; exact ht
    · exact h.ok f e
  · have := hp2.length_eq; simp only [List.length_cons] at this; omega
theorem ins_ref (h : R l L) (t : Tie) (now : Int) (ht : ok_Tie { t with last := now }) (hn : ∀ f ∈ L, pl f ≠ pl t) : ∃ q : Nat, q ≤ L.length ∧ (∀ y ∈ L.drop q, lexc (keyT { t with last := now }) (keyT y) = -1) ∧ (q = 0 ∨ ∃ y, L[q - 1]? = some y ∧ lexc (keyT { t with last := now }) (keyT y) ≠ -1) ∧
    ∀ (b : Bool × Ties_2), b.2 = ⟨L⟩ → runW (F28_Put_b3 t now b) FUEL ((L.length : Nat) : Int) = some (.fin ((q : Nat) : Int)) ∧ runW (F28_Put_b2 t now b) FUEL ((L.length : Nat) : Int) = some (.fin ((q : Nat) : Int)) := by
  have hF : 16 < FUEL := by decide
  have hlen := h.len
  obtain ⟨q, h1, h2, h3, h4⟩ := insB2_loop (key := keyT) F10_Compare L { t with last := now } (fun y hy => cmpR_eq _ _ ht (h.ok y hy)) (by omega)
  refine ⟨q, h2, h3, h4, fun b hb => ?_⟩
  obtain ⟨b1, b2⟩ := b
  have hb : b2 = ⟨L⟩ := hb
  subst hb
  exact ⟨h1, h1⟩
theorem put_eq (h : R l L) (t : Tie) (now : Int) (ht : ok_Tie { t with last := now }) : ∃ o w l' L', F19_Put ⟨l⟩ t now = some (o, w, ⟨l'⟩) ∧ F28_Put ⟨L⟩ t now = some (o, w, ⟨L'⟩) ∧ R l' L' := by
  have hL : (100 : Nat) < LIM := by decide
  have hs := h.size
  have hlen := h.len
  have hfi := h.find t
  -- what is left when there is room
  obtain ⟨o, w, l1, L1, h1, hprog, href⟩ : ∃ o w l1 L1, R l1 L1 ∧ F37_evict ⟨l⟩ (pl t) = some (o, w, ⟨l1⟩) ∧ (∀ y, F30_Drop ⟨L1⟩ t = some y → (∀ q : Nat, q ≤ y.2.all.length → runW (F28_Put_b3 t now y) FUEL ((y.2.all.length : Nat) : Int) = some (.fin ((q : Nat) : Int)) → runW (F28_Put_b2 t now y) FUEL ((y.2.all.length : Nat) : Int) = some (.fin ((q : Nat) : Int)) → y.2.all.length ≤ 16 →
      F28_Put ⟨L⟩ t now = some (o, w, ⟨y.2.all.take q ++ [{ t with last := now }] ++ y.2.all.drop q⟩))) ∧ ((∀ f ∈ L1, pl f ≠ pl t) → L1.length ≤ 15) := by
    have tail : ∀ (y : Bool × Ties_2) (q : Nat), q ≤ y.2.all.length → y.2.all.length ≤ 16 → (slO y.2.all 0 (q : Int) = some (y.2.all.take q)) ∧ slO y.2.all (q : Int) ((y.2.all.length : Nat) : Int) = some (y.2.all.drop q) := by
      intro y q hq hy
      have e1 := slO_ok (xs := y.2.all) (lo := 0) (hi := q) (Nat.zero_le _) hq
      have e2 := slO_ok (xs := y.2.all) (lo := q) (hi := y.2.all.length) hq (Nat.le_refl _)
      refine ⟨by simpa using e1, ?_⟩
      rw [e2, List.take_of_length_le (by simp)]
    by_cases hc : mget l (pl t) = none ∧ 16 ≤ L.length
    · obtain ⟨x0, hx0, hev, hsome⟩ := evict_eq h t hc.1 hc.2
      obtain ⟨old, hold⟩ : ∃ old, runA F28_Put_b1 L x0 = old := ⟨_, rfl⟩
      rw [hold] at hev hsome
      refine ⟨old, true, mdel l (pl old), _, h.del (pl old), hev, fun y hy q hq hw3 hw2 hyl => ?_, fun _ => ?_⟩
      · obtain ⟨t1, t2⟩ := tail y q hq hyl
        unfold F28_Put
        have hneg : F36_find ⟨L⟩ t = -1 := by
          rcases hfi with ⟨i, f, _, _, _, _, hg, _⟩ | ⟨hg, _⟩
          · rw [hg] at hc; cases hc.1
          · exact hg
        simp only [lt, hneg]
        rw [if_pos (by simp; omega)]
        rw [hx0]
        simp only [Option.bind_some, hold]
        rw [drop_ref h old]
        simp only [Option.bind_some, hy, hw2, Lp.elim, t1, t2, List.nil_append]
        rw [apO_ok (by simp; omega), apO_ok (by simp; omega), apO_ok (by simp; omega)]
        rfl
      · have hm : old ∈ L := by
          cases hg : mget l (pl old) with
          | none => rw [hg] at hsome; cases hsome
          | some v =>
            have h1 := mget_mem hg
            have h2 : pl old = pl v := h.key _ h1
            have hv : v ∈ L := h.mem.2 (by rw [← h2]; exact h1)
            rw [← hold]
            cases hLc : L with
            | nil => rw [hLc] at hv; cases hv
            | cons a Lr =>
              rw [hLc] at hx0
              have : x0 = a := (Option.some.inj hx0).symm
              subst this
              have e0 : F28_Put_b1 x0 x0 = x0 := by unfold F28_Put_b1; simp
              rw [runA, e0]
              rw [hLc] at h
              exact (ref_min Lr [x0] x0 (by simp) h.ord (fun y hy => by rw [List.mem_singleton.1 hy]; exact lexc_irr _)).1
        have : (L.filter fun f => !decide (pl f = pl old)).length < L.length := by
          refine Nat.lt_of_le_of_ne (List.length_filter_le _ _) fun e => ?_
          have := (List.filter_eq_self.1 (List.filter_sublist.eq_of_length e)) old hm
          simp at this
        omega
    · refine ⟨zT, false, l, L, h, ?_, fun y hy q hq hw3 hw2 hyl => ?_, fun hn => ?_⟩
      · unfold F37_evict
        simp only [lt]
        rw [if_pos (by
          rw [Bool.or_eq_true, decide_eq_true_iff]
          cases hg : mget l (pl t) with
          | some v => exact .inl rfl
          | none => exact .inr (by have : L.length < 16 := Nat.lt_of_not_le fun h => hc ⟨hg, h⟩; omega))]
        rfl
      · obtain ⟨t1, t2⟩ := tail y q hq hyl
        unfold F28_Put
        simp only [lt]
        have hcond : ¬ ((decide (F36_find ⟨L⟩ t < 0) && decide (((L.length : Nat) : Int) ≥ 16)) = true) := by
          rw [Bool.and_eq_true, decide_eq_true_iff, decide_eq_true_iff]
          rintro ⟨a1, a2⟩
          rcases hfi with ⟨i, f, hi, _⟩ | ⟨_, _, hg, _⟩
          · rw [hi] at a1; omega
          · exact hc ⟨hg, by omega⟩
        rw [if_neg hcond, hy]
        simp only [Option.bind_some, hw3, Lp.elim, t1, t2, List.nil_append]
        rw [apO_ok (by simp; omega), apO_ok (by simp; omega), apO_ok (by simp; omega)]
        rfl
      · have hg : mget l (pl t) = none := by
          rcases hfi with ⟨i, f, _, _, h3, h4, _⟩ | ⟨_, _, hg, _⟩
          · exact absurd h4 (hn f h3)
          · exact hg
        have : L.length < 16 := Nat.lt_of_not_le fun h => hc ⟨hg, h⟩
        omega
  obtain ⟨href, hroom⟩ := href
  have h2 := h1.del (pl t)
  have hno : ∀ f ∈ L1.filter (fun f => !decide (pl f = pl t)), pl f ≠ pl t := fun f hf e => by have := (List.mem_filter.1 hf).2; simp [e] at this
  have hlen2 : (L1.filter fun f => !decide (pl f = pl t)).length ≤ 15 := by
    by_cases hn : ∀ f ∈ L1, pl f ≠ pl t
    · exact Nat.le_trans (List.length_filter_le _ _) (hroom hn)
    · have hex : ∃ f, f ∈ L1 ∧ pl f = pl t := Classical.byContradiction fun hne => hn fun f hf e => hne ⟨f, hf, e⟩
      obtain ⟨f, hf, he⟩ := hex
      have : (L1.filter fun f => !decide (pl f = pl t)).length < L1.length := by
        refine Nat.lt_of_le_of_ne (List.length_filter_le _ _) fun e => ?_
        have := (List.filter_eq_self.1 (List.filter_sublist.eq_of_length e)) f hf
        simp [he] at this
      have := h1.len
      omega
  obtain ⟨q, hq, hhi, hlo, hw⟩ := ins_ref h2 t now ht hno
  obtain ⟨w3, w2⟩ := hw ((mget l1 (pl t)).isSome, ⟨L1.filter fun f => !decide (pl f = pl t)⟩) rfl
  have hr := href _ (drop_ref h1 t) q hq w3 w2 (by show (L1.filter _).length ≤ 16; omega)
  refine ⟨o, w, _, _, ?_, hr, h2.put { t with last := now } ht hno hlen2 hq hhi hlo l1 rfl h1.nd⟩
  unfold F19_Put
  simp only [lt]
  rw [show (F35_place t) = pl t from rfl, hprog]
  rfl
theorem purge_eq (h : R l L) (n m : Int) (hn : inK .i64 n) (hm : inK .i64 m) : ∃ c l' L', F31_Purge ⟨l⟩ n m = some (c, ⟨l'⟩) ∧ F32_Purge ⟨L⟩ n m = some (c, ⟨L'⟩) ∧ R l' L' := by
  have hL : (100 : Nat) < LIM := by decide
  have hs := h.size
  have hlen := h.len
  have hfr : ∀ t ∈ L, F7_Fresh t n m = F8_Fresh t n m := fun t ht => fresh_eq t n m (h.ok t ht).2.2.2.2.2 hn hm
  have e1 : F32_Purge ⟨L⟩ n m = some (IntKind.i64.wrap (((L.length : Nat) : Int) - (((L.filter fun t => F8_Fresh t n m).length : Nat) : Int)), ⟨L.filter fun t => F8_Fresh t n m⟩) := by
    unfold F32_Purge
    have := runAO_gather (body := F32_Purge_b1 n m) (fun t => F8_Fresh t n m) (fun t => t) (fun x s hs => by
      unfold F32_Purge_b1
      simp only [lt, ap1_ok hs, Option.bind_some]
      cases F8_Fresh x n m <;> rfl) L [] (by simp; omega)
    rw [this]
    simp
  have hperm : (L.filter fun t => F8_Fresh t n m).Perm ((l.filter fun p => F7_Fresh p.2 n m).map (·.2)) := by
    have h1 := h.perm.filter fun t => F7_Fresh t n m
    rw [List.filter_map] at h1
    rw [List.filter_congr fun t ht => (hfr t ht).symm]
    exact h1
  have e2 : F31_Purge ⟨l⟩ n m = some (IntKind.i64.wrap (((l.length : Nat) : Int) - (((l.filter fun p => F7_Fresh p.2 n m).length : Nat) : Int)), ⟨l.filter fun p => F7_Fresh p.2 n m⟩) := by
    unfold F31_Purge mfilter
    rw [if_pos h.nd]
    simp only [Option.bind_some, F42_1, lt, Bool.not_not]
  have hcount : (l.filter fun p => F7_Fresh p.2 n m).length = (L.filter fun t => F8_Fresh t n m).length := by have := hperm.length_eq; simpa using this.symm
  refine ⟨_, _, _, e2, ?_, ⟨fun p hp => h.key p (List.mem_filter.1 hp).1, h.nd.sublist (List.filter_sublist.map _), hperm, List.Pairwise.sublist List.filter_sublist h.ord, fun t ht => h.ok t (List.mem_filter.1 ht).1, Nat.le_trans (List.length_filter_le _ _) h.len⟩⟩
  rw [e1, hs, hcount]
theorem do_eq (h : R l L) (a : Act) (ha : ok_Act a) : ∃ l' L', F12_do ⟨l⟩ ⟨L⟩ a = some (true, ⟨l'⟩, ⟨L'⟩) ∧ R l' L' := by
  obtain ⟨hk, hnow, htk, ht⟩ := ha
  unfold F12_do
  by_cases h0 : a.kind = 0
  · rw [if_pos (by rw [decide_eq_true_iff]; exact h0)]
    obtain ⟨o, w, l', L', h1, h2, h3⟩ := put_eq h a.tie a.now ⟨ht.1, ht.2.1, ht.2.2.1, ht.2.2.2.1, ht.2.2.2.2.1, hnow⟩
    rw [h1, h2]
    simp only [Option.bind_some, lt]
    exact ⟨l', L', by simp, h3⟩
  · rw [if_neg (by rw [decide_eq_true_iff]; exact h0)]
    by_cases h1 : a.kind = 1
    · rw [if_pos (by rw [decide_eq_true_iff]; exact h1)]
      refine ⟨_, _, ?_, h.del (pl a.tie)⟩
      rw [drop_prog, drop_ref h a.tie]
      simp only [Option.bind_some, lt]
      simp
    · rw [if_neg (by rw [decide_eq_true_iff]; exact h1)]
      by_cases h2 : a.kind = 2
      · rw [if_pos (by rw [decide_eq_true_iff]; exact h2)]
        obtain ⟨c, l', L', h3, h4, h5⟩ := purge_eq h a.ticks a.now htk hnow
        rw [h3, h4]
        exact ⟨l', L', by simp, h5⟩
      · rw [if_neg (by rw [decide_eq_true_iff]; exact h2)]
        exact ⟨l, L, rfl, h⟩
theorem list_eq (h : R l L) : F15_List ⟨l⟩ = some L := by
  have hlen := h.len
  have hs := h.size
  have key : F33_Tie (l.map (·.2)) (fun x0 x1 => F9_Compare x0 x1) = some L := by
    unfold F33_Tie
    refine anyPerm_eq (by simp; omega) fun ys hp => ?_
    have : F44_slices_SortFunc ys (fun x0 x1 => F9_Compare x0 x1) = some L := sortO_kord (key := keyT) (key' := keyTN) cmpN_eq h.ord (fun x hx => keyTN_ok (h.ok x hx)) (hp.trans h.perm.symm)
    rw [this]; rfl
  unfold F15_List
  rw [key]; rfl
theorem of_eq (L : List Tie) (h : L.length + 1 < LIM) : F14_Of L = some L := by
  unfold F14_Of
  have := runAO_gather (body := F14_Of_b1) (fun _ => true) (fun t => t) (fun x s hs => by
    unfold F14_Of_b1
    rw [ap1_ok hs]; rfl) L [] (by simp; omega)
  rw [this]
  simp
theorem same_row (L : List Tie) : F13_Same L L = some true := by
  unfold F13_Same
  rw [if_neg (by simp)]
  have := runBO_all (body := F13_Same_b1 L) L 0 (fun i x hx => by
    unfold F13_Same_b1
    rw [Nat.zero_add, ixO_at hx]
    simp)
  rw [this]; rfl
theorem get_eq (h : R l L) (t : Tie) (n m : Int) (hn : inK .i64 n) (hm : inK .i64 m) : F18_Get ⟨L⟩ t n m = some (F17_Get ⟨l⟩ t n m) := by
  unfold F18_Get F17_Get
  simp only [lt]
  rw [show F35_place t = pl t from rfl]
  rcases h.find t with ⟨i, f, h1, h2, h3, h4, h5, _⟩ | ⟨h1, _, h3, _⟩
  · rw [h1, h5]
    have e := ixO_at h2
    have hfr := fresh_eq f n m (h.ok f h3).2.2.2.2.2 hn hm
    simp only [e, Option.bind_some, orO, Option.isSome_some, Option.getD_some, Bool.not_true, Bool.false_or, hfr]
    rw [if_neg (by rw [decide_eq_true_iff]; omega)]
    simp only [Option.bind_some]
    cases F8_Fresh f n m <;> rfl
  · rw [h1, h3]
    rfl
theorem alive31 : F5_alive = some true := by decide +kernel
theorem R.nil : R [] [] := ⟨fun p hp => (by cases hp), List.Pairwise.nil, .refl _, List.Pairwise.nil, fun t ht => (by cases ht), by decide⟩
theorem play_loop : ∀ (acts : List Act) (l : List (Place × Tie)) (L : List Tie), (∀ a ∈ acts, ok_Act a) → R l L → ∃ s, runBO F4_TiesPlay_b1 acts (⟨l⟩, ⟨L⟩) = some (.fin s)
  | [], l, L, _, _ => ⟨_, rfl⟩
  | a :: acts, l, L, hok, h => by
    have hL : (100 : Nat) < LIM := by decide
    rw [runBO]
    have ha := hok a (by simp)
    obtain ⟨l', L', h1, h2⟩ := do_eq h a ha
    have hlen := h2.len
    have hb : F4_TiesPlay_b1 a (⟨l⟩, ⟨L⟩) = some (.next (⟨l'⟩, ⟨L'⟩)) := by
      unfold F4_TiesPlay_b1
      simp only [h1, Option.bind_some, Bool.not_true, orO, Bool.false_eq_true, if_false, list_eq h2, of_eq L' (by omega), same_row, Bool.false_or, lt, F16_Len, h2.size, get_eq h2 a.tie a.ticks a.now ha.2.2.1 ha.2.1]
      simp
    rw [hb]
    exact play_loop acts l' L' (fun a ha => hok a (by simp [ha])) h2
theorem law_play (a0 : List Act) (h0 : ∀ a ∈ a0, ok_Act a) : F4_TiesPlay a0 = some true := by
  unfold F4_TiesPlay
  rw [alive31]
  simp only [Option.bind_some, Bool.not_true, Bool.false_eq_true, if_false, lt]
  split
  · rfl
  · obtain ⟨s, hs⟩ := play_loop a0 [] [] h0 R.nil
    have : runBO F4_TiesPlay_b1 a0 (F11_New, ({ all := [] } : Ties_2)) = some (.fin s) := hs
    rw [this]; rfl
end
end Go.Proofs.Ytokikdhilpebmaa
