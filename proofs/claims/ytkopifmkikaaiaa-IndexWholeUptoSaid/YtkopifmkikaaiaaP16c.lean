/- The plain law of IndexWhole. No Go and no memory. -/
import Derived.Test.YtkopifmkikaaiaaP16
namespace Go.Proofs.Ytkopifmkikaaiaa
open Go K
set_option linter.unusedVariables false

theorem ord_nd {q : List Key} (h : K.Ord (ltK keyK) q) : q.Nodup := by
  unfold K.Ord at h
  refine List.Pairwise.imp (fun {a b} hab e => ?_) h
  subst e
  rw [stoK.irr] at hab; cases hab
/-- How many slices have an owner among these. -/
def cnt (X : Index_2) (os : List Key) : Nat := (X.owner.filter fun p => decide (p.2 ∈ os)).length
theorem cnt_len (X : Index_2) (os : List Key) : cnt X os ≤ X.owner.length := List.length_filter_le _ _
theorem cnt_cons (X : Index_2) {o : Key} {os : List Key} (h : o ∉ os) : cnt X (o :: os) = (X.owner.filter fun p => decide (p.2 = o)).length + cnt X os := by
  unfold cnt
  induction X.owner with
  | nil => rfl
  | cons p l ih =>
    simp only [List.filter_cons, List.mem_cons]
    by_cases h1 : p.2 = o
    · have h2 : p.2 ∉ os := by rw [h1]; exact h
      simp only [h1, h, decide_true, true_or, if_true, decide_false, Bool.false_eq_true, if_false, List.length_cons]
      simp only [List.mem_cons] at ih
      omega
    · by_cases h2 : p.2 ∈ os
      · simp only [h1, h2, decide_true, or_true, if_true, decide_false, Bool.false_eq_true, if_false, List.length_cons]
        simp only [List.mem_cons] at ih
        omega
      · simp only [h1, h2, or_self, decide_false, Bool.false_eq_true, if_false]
        simpa only [List.mem_cons] using ih
theorem of_owner {n : Nat} {X : Index_2} {A : List A2Key} (h : RX n X A) {o : Key} {q : List Key} (hq : ∀ s, s ∈ q ↔ mget X.owner s = some o) (hn : q.Nodup) : q.length = (X.owner.filter fun p => decide (p.2 = o)).length := by
  have h1 : ((X.owner.filter fun p => decide (p.2 = o)).map (·.1)).Nodup := h.nd.sublist (List.filter_sublist.map _)
  have h2 : q.Perm ((X.owner.filter fun p => decide (p.2 = o)).map (·.1)) := by
    rw [List.perm_ext_iff_of_nodup hn h1]
    intro s
    rw [hq, List.mem_map]
    constructor
    · intro hs
      exact ⟨(s, o), List.mem_filter.2 ⟨mget_mem hs, by simp⟩, rfl⟩
    · rintro ⟨p, hp, rfl⟩
      obtain ⟨hp1, hp2⟩ := List.mem_filter.1 hp
      refine mget_of h.nd ?_
      rw [← of_decide_eq_true hp2]; exact hp1
  have := h2.length_eq
  rwa [List.length_map] at this
theorem build_loop : ∀ (acts : List Act) (n : Nat) (X : Index_2) (A : List A2Key), n + acts.length < LIM → RX n X A → ∃ X' A', runAO F4_IndexWho_b1 acts X = some X' ∧ RX (n + acts.length) X' A'
  | [], n, X, A, _, h => ⟨X, A, rfl, h⟩
  | a :: acts, n, X, A, hn, h => by
    simp only [List.length_cons] at hn
    rw [runAO]
    by_cases hk : a.kind = 0
    · obtain ⟨k, b, X', A', h1, h2, h3⟩ := put_eq h (by omega) a.slice a.owner
      have hb : F4_IndexWho_b1 a X = some X' := by
        unfold F4_IndexWho_b1
        rw [if_pos (by rw [decide_eq_true_iff]; exact hk), h1]; rfl
      rw [hb]
      obtain ⟨X2, A2, e1, e2⟩ := build_loop acts (n + 1) X' A' (by omega) h3
      exact ⟨X2, A2, e1, e2.mono (by simp; omega)⟩
    · obtain ⟨k, b, X', A', h1, h2, h3, _⟩ := drop_eq h (by omega) a.slice
      have hb : F4_IndexWho_b1 a X = some X' := by
        unfold F4_IndexWho_b1
        rw [if_neg (by rw [decide_eq_true_iff]; exact hk), h1]; rfl
      rw [hb]
      obtain ⟨X2, A2, e1, e2⟩ := build_loop acts n X' A' (by omega) h3
      exact ⟨X2, A2, e1, e2.mono (by simp)⟩
theorem inner_loop {X : Index_2} {o : Key} : ∀ q : List Key, (∀ s ∈ q, mget X.owner s = some o) → runB (F4_IndexWho_b3 X X o) q () = .fin ()
  | [], _ => rfl
  | s :: q, h => by
    rw [runB]
    have hb : F4_IndexWho_b3 X X o s () = .next () := by
      unfold F4_IndexWho_b3 F18_Owner lt
      rw [h s (by simp)]
      simp
    rw [hb]
    exact inner_loop q fun t ht => h t (by simp [ht])
theorem count_loop {n : Nat} {X : Index_2} {A : List A2Key} (h : RX n X A) (hn : n < LIM) : ∀ (os : List Key) (c : Nat), os.Nodup → (∀ o ∈ os, ∃ m, mget X.slices o = some m) → c + cnt X os < LIM → runBO (F4_IndexWho_b2 X X) os (c : Int) = some (.fin ((c + cnt X os : Nat) : Int))
  | [], c, _, _, _ => by
    have : cnt X [] = 0 := by unfold cnt; simp
    rw [this]; rfl
  | o :: os, c, hd, hm, hl => by
    rw [List.nodup_cons] at hd
    obtain ⟨q, q1, _, q3, q4⟩ := slices_eq h hn o
    have hlen := of_owner h q3 (ord_nd q4)
    rw [cnt_cons X hd.1, ← hlen] at hl ⊢
    have hne : q.length ≠ 0 := by
      obtain ⟨m, hm1⟩ := hm o (by simp)
      obtain ⟨i1, i2, i3, i4⟩ := h.inn o m hm1
      cases m with
      | nil => exact absurd rfl i2
      | cons p m =>
        have := (q3 p.1).2 ((i4 p.1).1 (by simp))
        intro h0
        rw [List.eq_nil_of_length_eq_zero h0] at this; cases this
    have hL : LIM = 4294967296 := rfl
    have hb : F4_IndexWho_b2 X X o (c : Int) = some (.next ((c + q.length : Nat) : Int)) := by
      unfold F4_IndexWho_b2
      rw [q1]
      simp only [Option.bind_some]
      rw [if_neg (by rw [decide_eq_true_iff]; omega), inner_loop q fun s hs => (q3 s).1 hs]
      simp only [lt, Lp.elim]
      rw [wrapI (by omega)]
      congr 2
    rw [runBO, hb]
    have := count_loop h hn os (c + q.length) hd.2 (fun o ho => hm o (by simp [ho])) (by omega)
    rw [Nat.add_assoc] at this
    exact this
theorem law_whole (a0 : List Act) (a1 : Act) (hb : a0.length ≤ 1048576) : F4_IndexWho a0 a1 = some true := by
  have hL : LIM = 4294967296 := rfl
  unfold F4_IndexWho
  rw [alive16, apO_ok (by simp; omega)]
  simp only [Option.bind_some, Bool.not_true, Bool.false_eq_true, if_false]
  rw [lt]
  by_cases hl : F6_Long ([a1] ++ a0) = true
  · rw [if_pos hl]
  · rw [if_neg hl]
    obtain ⟨X, A, h1, h⟩ := build_loop a0 0 ⟨[], []⟩ [] (by omega) RX.nil
    rw [Nat.zero_add] at h
    have hn : a0.length < LIM := by omega
    have h1' : runAO F4_IndexWho_b1 a0 F7_New = some X := h1
    obtain ⟨r, o1, _, o3, o4⟩ := owners_eq h hn
    have hAl := h.len
    have hol : X.owner.length = A.length := by rw [h.own]; simp
    have hc := count_loop h hn r 0 (ord_nd o4) (fun o ho => (o3 o).1 ho) (by have := cnt_len X r; omega)
    have hall : cnt X r = X.owner.length := by
      unfold cnt
      rw [List.filter_eq_self.2 fun p hp => ?_]
      rw [decide_eq_true_iff, o3]
      cases hg : mget X.slices p.2 with
      | some m => exact ⟨m, rfl⟩
      | none => exact absurd (mget_of h.nd hp) (h.non _ hg p.1)
    rw [hall, Nat.zero_add] at hc
    have hc' : runBO (F4_IndexWho_b2 X X) r 0 = some (.fin ((X.owner.length : Nat) : Int)) := hc
    rw [lt, h1']
    simp only [Option.bind_some, o1, hc', Lp.elim]
    refine anyOf_eq ⟨[], []⟩ (fun X s o => put_tot X s o) fun X' => ?_
    obtain ⟨y, hy⟩ := put_tot X' a1.slice a1.owner
    simp only [hy, Option.bind_some, lt, same_row]
    simp [F12_Len, andO]
end Go.Proofs.Ytkopifmkikaaiaa
