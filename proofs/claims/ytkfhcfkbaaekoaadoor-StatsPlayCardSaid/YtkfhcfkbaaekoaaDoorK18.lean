/- A region whose order is open, cut in two: what comes before all the rest in every order, and the rest. General: no program is named. -/
import Derived.Test.YtkfhcfkbaaekoaaDoorK17
namespace Go.Proofs.YtkfhcfkbaaekoaaDoor.K
open Go
set_option linter.unusedVariables false
def shiftO (c : Nat) (o : Oper) : Oper :=
  { o with after := ((o.after.toList.filter fun e => Nat.ble c e.on).map fun e => { e with on := e.on - c }).toArray, guard := o.guard.map fun g => (g.1 - c, g.2) }
def shiftL (c : Nat) (l : List Oper) : List Oper := (l.drop c).map (shiftO c)
def splitOK (l : List Oper) (c : Nat) : Bool := (List.range l.length).all fun i => match l[i]? with
  | some o => cond (Nat.blt i c) (o.guard.isNone && (bindOn o).all (Nat.blt · i)) ((List.range c).all ((cover l i (bindOn o)).contains ·) && (match o.guard with | some g => Nat.ble c g.1 | none => true))
  | none => true
section
variable {P : Program} {n : Nat} {l : List Oper} {Q : Exit → Act → World → Prop}
theorem ready_iff (l : List Oper) (listed : Array Bool) (i : Nat) : i ∈ Region.ready .any l.toArray listed ↔ i < l.length ∧ listed.getD i true = false ∧ ∃ o, l[i]? = some o ∧ ∀ j ∈ bindOn o, listed.getD j false = true := by
  unfold Region.ready
  rw [List.mem_filter]
  simp only [List.mem_range, List.size_toArray, Bool.and_eq_true, Bool.not_eq_true', List.getElem?_toArray]
  refine and_congr_right fun hi => and_congr_right fun _ => ?_
  rw [List.getElem?_eq_getElem hi]
  simp only [Option.map_some, Option.getD_some, Array.all_eq_true_iff_forall_mem, Bool.or_eq_true, Bool.not_eq_true', Option.some.injEq, exists_eq_left']
  constructor
  · intro h j hj
    unfold bindOn at hj
    rw [List.mem_map] at hj
    obtain ⟨e, he, rfl⟩ := hj
    rw [List.mem_filter] at he
    rcases h e (by simpa using he.1) with h | h
    · rw [he.2] at h; cases h
    · exact h
  · intro h e he
    cases hb : Region.binds .any e
    · exact .inl rfl
    · exact .inr (h e.on (List.mem_map.2 ⟨e, List.mem_filter.2 ⟨by simpa using he, hb⟩, rfl⟩))
theorem mem_bindOn_shift {c j : Nat} {o : Oper} : j ∈ bindOn (shiftO c o) ↔ c + j ∈ bindOn o := by
  unfold bindOn shiftO
  simp only [List.mem_map, List.mem_filter]
  constructor
  · rintro ⟨e', ⟨⟨e, ⟨he, hc⟩, rfl⟩, hb⟩, rfl⟩
    refine ⟨e, ⟨he, hb⟩, ?_⟩
    have := Nat.le_of_ble_eq_true hc
    show e.on = c + (e.on - c)
    omega
  · rintro ⟨e, ⟨he, hb⟩, h⟩
    refine ⟨{ e with on := e.on - c }, ⟨⟨e, ⟨he, ?_⟩, rfl⟩, hb⟩, ?_⟩
    · exact Nat.ble_eq_true_of_le (by omega)
    · show e.on - c = j; omega
theorem shiftL_at {c i : Nat} : (shiftL c l)[i]? = (l[c + i]?).map (shiftO c) := by
  unfold shiftL; rw [List.getElem?_map, List.getElem?_drop]
theorem wpAny_monoQ {Q' : Exit → Act → World → Prop} {ops : Array Oper} (hQ : ∀ e a w, Q e a w → Q' e a w) : ∀ (fuel : Nat) (listed : Array Bool) (a : Act) (w : World), wpAny P .any ops Q fuel listed a w → wpAny P .any ops Q' fuel listed a w
  | 0, _, _, _, h => ⟨h.1, hQ _ _ _ h.2⟩
  | fuel + 1, listed, a, w, h => by
    refine ⟨fun h0 => hQ _ _ _ (h.1 h0), fun i hi => ?_⟩
    have h1 := h.2 i hi
    unfold wpOp at h1 ⊢
    cases ho : ops[i]? with
    | none => simp only [ho] at h1 ⊢; exact wpAny_monoQ hQ fuel _ _ _ h1
    | some o =>
      simp only [ho] at h1 ⊢
      split
      · rename_i hw
        rw [if_pos hw] at h1
        refine h1.imp (fun h => ?_) (fun h => ⟨h.1, let ⟨a, w, h2⟩ := h.2; ⟨a, w, hQ _ _ _ h2⟩⟩)
        unfold Oper.wp at h ⊢
        generalize (execOp a.eval o).run P w = r at h ⊢
        cases r with
        | ok x w' =>
          cases x <;> simp only [Oper.upon] at h ⊢
          case value => exact wpAny_monoQ hQ fuel _ _ _ h
          case skip => exact wpAny_monoQ hQ fuel _ _ _ h
          case defer => exact wpAny_monoQ hQ fuel _ _ _ h
          case enter =>
            refine Calls.mono h fun e w'' he => ?_
            cases e with
            | returned v => exact wpAny_monoQ hQ fuel _ _ _ he
            | panicked c => exact hQ _ _ _ he
            | outgrown => obtain ⟨a, w, h2⟩ := he; exact ⟨a, w, hQ _ _ _ h2⟩
          case row => exact Rows.mono h fun _ _ he => wpAny_monoQ hQ fuel _ _ _ he
        | halt x w' => cases x <;> simp only [Oper.upon] at h ⊢ <;> exact hQ _ _ _ h
      · rename_i hw
        rw [if_neg hw] at h1
        exact wpAny_monoQ hQ fuel _ _ _ h1
theorem wpOp_to {Q' : Exit → Act → World → Prop} {l l' : List Oper} {i j : Nat} {o o' : Oper} {K K' : Act → World → Prop} {a : Act} {w : World} (ho : l[i]? = some o) (ho' : l'[j]? = some o') (hd : o.dst = o'.dst)
    (hwp : ∀ (Q : Exit → Act → World → Prop) K, o'.wp P a w K Q = o.wp P a w K Q) (has : o'.asks P a w = o.asks P a w) (hw : Region.wanted o (yielded l.toArray a.tmps) = Region.wanted o' (yielded l'.toArray a.tmps)) (hK : ∀ a w, K a w → K' a w) (h : wpOp P l.toArray Q i K a w)
    (hQ : ∀ e a w, e ≠ .normal → Q e a w → Q' e a w) : wpOp P l'.toArray Q' j K' a w := by
  unfold wpOp at h ⊢
  simp only [List.getElem?_toArray, ho, ho'] at h ⊢
  rw [← hw, ← hd]
  split
  · rename_i hw'
    rw [if_pos hw'] at h
    rw [hwp, has]
    refine h.imp (fun h => ?_) (fun h => ⟨h.1, let ⟨a, w, h2⟩ := h.2; ⟨a, w, hQ _ _ _ (fun e => by cases e) h2⟩⟩)
    unfold Oper.wp at h ⊢
    generalize (execOp a.eval o).run P w = r at h ⊢
    cases r with
    | ok x w' =>
      cases x <;> simp only [Oper.upon] at h ⊢
      case value => exact hK _ _ h
      case skip => exact hK _ _ h
      case defer => exact hK _ _ h
      case enter =>
        refine Calls.mono h fun e w'' he => ?_
        cases e with
        | returned v => exact hK _ _ he
        | panicked c => exact hQ _ _ _ (fun e => by cases e) he
        | outgrown => obtain ⟨a, w, h2⟩ := he; exact ⟨a, w, hQ _ _ _ (fun e => by cases e) h2⟩
      case row => exact Rows.mono h fun _ _ he => hK _ _ he
    | halt x w' =>
      cases x <;> simp only [Oper.upon] at h ⊢
      case panic => exact hQ _ _ _ (fun e => by cases e) h
  · rename_i hw'
    rw [if_neg hw'] at h
    exact hK _ _ h
theorem split_at {c i : Nat} {o : Oper} (h : splitOK l c = true) (ho : l[i]? = some o) :
    (i < c → o.guard = none ∧ ∀ j ∈ bindOn o, j < i) ∧ (c ≤ i → (∀ j, j < c → j ∈ cover l i (bindOn o)) ∧ ∀ g, o.guard = some g → c ≤ g.1) := by
  have hil := lt_of_get ho
  have h1 := List.all_eq_true.1 h i (by simpa using hil)
  rw [ho] at h1
  simp only at h1
  constructor
  · intro hi
    have hb : Nat.blt i c = true := by simpa [Nat.blt, Nat.succ_le_iff] using hi
    rw [hb] at h1
    simp only [cond_true, Bool.and_eq_true, Option.isNone_iff_eq_none, List.all_eq_true] at h1
    exact ⟨h1.1, fun j hj => by have := h1.2 j hj; simpa [Nat.blt, Nat.succ_le_iff] using this⟩
  · intro hi
    have hb : Nat.blt i c = false := by
      cases h : Nat.blt i c with
      | false => rfl
      | true => have : i < c := by simpa [Nat.blt, Nat.succ_le_iff] using h
                omega
    rw [hb] at h1
    simp only [cond_false, Bool.and_eq_true, List.all_eq_true] at h1
    refine ⟨fun j hj => by simpa using h1.1 j (by simpa using hj), fun g hg => ?_⟩
    have := h1.2
    rw [hg] at this
    exact Nat.le_of_ble_eq_true this
theorem getD_true {L : Array Bool} {i : Nat} : L.getD i false = true ↔ L[i]? = some true := by
  rw [Array.getD_eq_getD_getElem?]
  cases h : L[i]? with
  | none => simp
  | some b => simp
theorem getD_false {L : Array Bool} {i : Nat} : L.getD i true = false ↔ L[i]? = some false := by
  rw [Array.getD_eq_getD_getElem?]
  cases h : L[i]? with
  | none => simp
  | some b => simp
theorem rest_any {c : Nat} (hc : c ≤ l.length) (hok : splitOK l c = true) : ∀ (fuel : Nat) (L : Array Bool) (a : Act) (w : World), L.size = l.length - c → wpAny P .any (shiftL c l).toArray Q fuel L a w →
    ∀ M : Array Bool, M.size = l.length → (∀ i, i < c → M[i]? = some true) → (∀ i, M[c + i]? = L[i]?) → wpAny P .any l.toArray Q fuel M a w := by
  intro fuel
  have hr : ∀ (L M : Array Bool), M.size = l.length → (∀ i, i < c → M[i]? = some true) → (∀ i, M[c + i]? = L[i]?) → ∀ i, i ∈ Region.ready .any l.toArray M → c ≤ i ∧ i - c ∈ Region.ready .any (shiftL c l).toArray L := by
    intro L M hM h1 h2 i hi
    obtain ⟨hil, hf, o, ho, hb⟩ := (ready_iff l M i).1 hi
    rw [getD_false] at hf
    have hci : c ≤ i := by
      rcases Nat.lt_or_ge i c with h | h
      · rw [h1 i h] at hf; cases hf
      · exact h
    refine ⟨hci, (ready_iff _ _ _).2 ⟨by unfold shiftL; simp; omega, ?_, shiftO c o, ?_, fun j hj => ?_⟩⟩
    · rw [getD_false, ← h2, show c + (i - c) = i by omega]; exact hf
    · rw [shiftL_at, show c + (i - c) = i by omega, ho]; rfl
    · rw [mem_bindOn_shift] at hj
      have := hb _ hj
      rw [getD_true] at this ⊢
      rw [← h2]; exact this
  have hr' : ∀ (L M : Array Bool), M.size = l.length → (∀ i, i < c → M[i]? = some true) → (∀ i, M[c + i]? = L[i]?) → ∀ j, j ∈ Region.ready .any (shiftL c l).toArray L → c + j ∈ Region.ready .any l.toArray M := by
    intro L M hM h1 h2 j hj
    obtain ⟨hjl, hf, o', ho', hb⟩ := (ready_iff _ _ _).1 hj
    rw [shiftL_at] at ho'
    cases ho : l[c + j]? with
    | none => rw [ho] at ho'; cases ho'
    | some o =>
      rw [ho] at ho'
      simp only [Option.map_some, Option.some.injEq] at ho'
      subst ho'
      refine (ready_iff _ _ _).2 ⟨lt_of_get ho, ?_, o, ho, fun k hk => ?_⟩
      · rw [getD_false] at hf ⊢
        rw [h2]; exact hf
      · rw [getD_true]
        rcases Nat.lt_or_ge k c with h | h
        · exact h1 k h
        · have := hb (k - c) (mem_bindOn_shift.2 (by rw [show c + (k - c) = k by omega]; exact hk))
          rw [getD_true, ← h2, show c + (k - c) = k by omega] at this
          exact this
  induction fuel with
  | zero =>
    intro L a w hL h M hM h1 h2
    refine ⟨?_, h.2⟩
    rw [List.eq_nil_iff_forall_not_mem]
    intro i hi
    have := (hr L M hM h1 h2 i hi).2
    rw [h.1] at this; cases this
  | succ fuel ih =>
    intro L a w hL h M hM h1 h2
    refine ⟨fun h0 => h.1 ?_, fun i hi => ?_⟩
    · rw [List.eq_nil_iff_forall_not_mem]
      intro j hj
      have := hr' L M hM h1 h2 j hj
      rw [h0] at this; cases this
    · obtain ⟨hci, hj⟩ := hr L M hM h1 h2 i hi
      have hq := h.2 _ hj
      obtain ⟨hil, _, o, ho, _⟩ := (ready_iff l M i).1 hi
      have hi' : c + (i - c) = i := by omega
      refine wpOp_to (o := shiftO c o) (l := shiftL c l) (by rw [shiftL_at, hi', ho]; rfl) ho rfl (fun _ _ => rfl) rfl ?_ (fun a w hK => ih _ a w (by simp [hL]) hK _ (by simp [hM]) (fun k hk => ?_) (fun k => ?_)) hq (fun _ _ _ _ h => h)
      · have hg := ((split_at hok ho).2 hci).2
        unfold Region.wanted
        cases hgo : o.guard with
        | none => simp [shiftO, hgo]
        | some g =>
          have hgc := hg g hgo
          simp only [shiftO, hgo, Option.map_some]
          have : yielded (shiftL c l).toArray a.tmps (g.1 - c) = yielded l.toArray a.tmps g.1 := by
            unfold yielded
            simp only [List.getElem?_toArray, shiftL_at, show c + (g.1 - c) = g.1 by omega]
            cases l[g.1]? <;> rfl
          rw [this]
      · have hne : i ≠ k := by omega
        rw [Array.getElem?_setIfInBounds_ne hne]; exact h1 k hk
      · by_cases e : i - c = k
        · subst e
          rw [hi', Array.getElem?_setIfInBounds_self_of_lt (by omega), Array.getElem?_setIfInBounds_self_of_lt (by omega)]
        · rw [Array.getElem?_setIfInBounds_ne (by omega), Array.getElem?_setIfInBounds_ne e]; exact h2 k
theorem first_any {Q1 : Exit → Act → World → Prop} {c : Nat} (hc : c ≤ l.length) (hok : splitOK l c = true) (hQ1 : ∀ a w, Q1 .normal a w → wpAny P .any (shiftL c l).toArray Q (l.length - c) (Array.replicate (l.length - c) false) a w)
    (hQn : ∀ e a w, e ≠ .normal → Q1 e a w → Q e a w) : ∀ (fuel : Nat) (L : Array Bool) (a : Act) (w : World), L.size = c → left L = fuel → (∀ (i : Nat) (o : Oper), l[i]? = some o → L[i]? = some true → ∀ j ∈ bindOn o, L[j]? = some true) →
    wpAny P .any (l.take c).toArray Q1 fuel L a w → ∀ M : Array Bool, M.size = l.length → (∀ i, i < c → M[i]? = L[i]?) → (∀ i, c ≤ i → i < l.length → M[i]? = some false) → wpAny P .any l.toArray Q (fuel + (l.length - c)) M a w := by
  intro fuel
  induction fuel with
  | zero =>
    intro L a w hL h0 hcl h M hM h1 h2
    rw [Nat.zero_add]
    refine rest_any hc hok _ _ a w (by simp) (hQ1 a w h.2) M hM (fun i hi => by rw [h1 i hi]; exact left_zero h0 i (by omega)) fun i => ?_
    rcases Nat.lt_or_ge (c + i) l.length with h' | h'
    · rw [h2 _ (by omega) h', Array.getElem?_replicate, if_pos (by omega)]
    · rw [Array.getElem?_eq_none (by omega), Array.getElem?_replicate, if_neg (by omega)]
  | succ fuel ih =>
    intro L a w hL hf hcl h M hM h1 h2
    rw [Nat.add_right_comm]
    have hlc : ∀ i, i < c → (l.take c)[i]? = l[i]? := fun i hi => by rw [List.getElem?_take, if_pos hi]
    -- not all of the first part is done
    have hex : ∃ i, i < c ∧ L[i]? = some false ∧ ∀ j, j < i → L[j]? = some true := by
      have h1 : ∃ i, i < c ∧ L[i]? = some false := by
        refine Classical.byContradiction fun hn => ?_
        have : left L = 0 := by
          unfold left
          rw [List.countP_eq_zero]
          intro b hb'
          obtain ⟨p, hp, rfl⟩ := List.mem_iff_getElem.1 hb'
          have hp' : p < L.size := by simpa using hp
          cases hv : L[p]
          · exact absurd ⟨p, by omega, by rw [Array.getElem?_eq_getElem hp', hv]⟩ hn
          · simp [hv]
        omega
      obtain ⟨i, hi, hfalse⟩ := h1
      induction i using Nat.strongRecOn with
      | _ i ihi =>
        by_cases h : ∃ j, j < i ∧ L[j]? = some false
        · obtain ⟨j, hj, hjf⟩ := h
          exact ihi j hj (by omega) hjf
        · refine ⟨i, hi, hfalse, fun j hj => ?_⟩
          have hjl : j < L.size := by omega
          cases hv : L[j]
          · exact absurd ⟨j, hj, by rw [Array.getElem?_eq_getElem hjl, hv]⟩ h
          · rw [Array.getElem?_eq_getElem hjl, hv]
    obtain ⟨i0, hi0, hf0, hall⟩ := hex
    constructor
    · intro hnil
      exfalso
      have ho : l[i0]? = some l[i0] := List.getElem?_eq_getElem (by omega)
      have : i0 ∈ Region.ready .any l.toArray M := (ready_iff _ _ _).2 ⟨by omega, by rw [getD_false, h1 i0 hi0]; exact hf0, _, ho, fun j hj => by
        have hji := ((split_at hok ho).1 hi0).2 j hj
        rw [getD_true, h1 j (by omega)]; exact hall j hji⟩
      rw [hnil] at this; cases this
    · intro i hi
      obtain ⟨hil, hif, o, ho, hb⟩ := (ready_iff _ _ _).1 hi
      have hic : i < c := by
        refine Nat.lt_of_not_le fun hci => ?_
        have hcov := ((split_at hok ho).2 hci).1 i0 hi0
        have := cover_sound (p := fun j => M[j]? = some true) (fun k o' ho' hk j hj => by
          rcases Nat.lt_or_ge k c with hkc | hkc
          · have hjk := ((split_at hok ho').1 hkc).2 j hj
            show M[j]? = some true
            rw [h1 j (by omega)]
            exact hcl k o' ho' (by rw [← h1 k hkc]; exact hk) j hj
          · have : M[k]? = some true := hk
            rw [h2 k hkc (lt_of_get ho')] at this; cases this) i (bindOn o) (fun j hj => getD_true.1 (hb j hj)) i0 hcov
        have : M[i0]? = some true := this
        rw [h1 i0 hi0, hf0] at this; cases this
      have hrd : i ∈ Region.ready .any (l.take c).toArray L := (ready_iff _ _ _).2 ⟨by rw [List.length_take]; omega, by rw [getD_false] at hif ⊢; rw [← h1 i hic]; exact hif, o, by rw [hlc i hic]; exact ho, fun j hj => by
        have hji := ((split_at hok ho).1 hic).2 j hj
        have := hb j hj
        rw [getD_true] at this ⊢
        rw [← h1 j (by omega)]; exact this⟩
      have hLi : L[i]? = some false := by rw [getD_false] at hif; rw [← h1 i hic]; exact hif
      refine wpOp_to (l := l.take c) (o := o) (by rw [hlc i hic]; exact ho) ho rfl (fun _ _ => rfl) rfl ?_ (fun a w hK => ih _ a w (by simp [hL]) (by have := left_set hLi; omega) (fun k o' ho' hk j hj => ?_) hK _ (by simp [hM]) (fun k hk => ?_) (fun k hk hkl => ?_)) (h.2 _ hrd) hQn
      · unfold Region.wanted
        rw [((split_at hok ho).1 hic).1]
      · by_cases e : i = k
        · subst e
          rw [ho] at ho'; cases ho'
          have hji := ((split_at hok ho).1 hic).2 j hj
          rw [Array.getElem?_setIfInBounds_ne (by omega), ← h1 j (by omega)]
          exact getD_true.1 (hb j hj)
        · rw [Array.getElem?_setIfInBounds_ne e] at hk
          have := hcl k o' ho' hk j hj
          by_cases e2 : i = j
          · subst e2; exact Array.getElem?_setIfInBounds_self_of_lt (by omega)
          · rw [Array.getElem?_setIfInBounds_ne e2]; exact this
      · by_cases e : i = k
        · subst e; rw [Array.getElem?_setIfInBounds_self_of_lt (by omega), Array.getElem?_setIfInBounds_self_of_lt (by omega)]
        · rw [Array.getElem?_setIfInBounds_ne e, Array.getElem?_setIfInBounds_ne e]; exact h1 k hk
      · rw [Array.getElem?_setIfInBounds_ne (by omega)]; exact h2 k hk hkl
theorem DW.split {Q : Exit → Env → World → Prop} {E : Env} {w : World} (c : Nat) (hc : Nat.ble c l.length = true) (hok : splitOK l c = true) (h : DW P n (l.take c) (fun e E w => e = .normal ∧ DW P n (shiftL c l) Q E w) E w) : DW P n l Q E w := by
  have hc := Nat.le_of_ble_eq_true hc
  intro a ha
  have h1 := h a ha
  have hlt : (l.take c).length = c := by rw [List.length_take]; omega
  rw [hlt] at h1
  have hls : (shiftL c l).length = l.length - c := by unfold shiftL; simp
  have := first_any (Q := lift n Q) hc hok (fun a w ⟨E, hE, _, hd⟩ => by have := hd a hE; rwa [hls] at this) (fun e a w hne ⟨_, _, he, _⟩ => (hne he).elim) c (Array.replicate c false) a w (by simp) (by unfold left; simp [List.countP_replicate])
    (fun i o ho hi => by simp [Array.getElem?_replicate] at hi) h1 (Array.replicate l.length false) (by simp) (fun i hi => by rw [Array.getElem?_replicate, Array.getElem?_replicate, if_pos (by omega), if_pos hi]) (fun i hi hil => by rw [Array.getElem?_replicate, if_pos hil])
  rwa [show c + (l.length - c) = l.length by omega] at this
theorem DW.cutN {Q : Exit → Env → World → Prop} {E : Env} {w : World} (M : Env → World → Prop) (h1 : DW P n l (fun e E w => e = .normal ∧ M E w) E w) (h2 : ∀ E w, M E w → Q .normal E w) : DW P n l Q E w := fun a ha =>
  wpAny_monoQ (fun e a w ⟨E, hE, he, hM⟩ => by subst he; exact ⟨E, hE, h2 E w hM⟩) _ _ _ _ (h1 a ha)
end
end Go.Proofs.YtkfhcfkbaaekoaaDoor.K
