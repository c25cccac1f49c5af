/- Lists by a row of numbers as key: one order, the least, an element put in; the first of its kind. No program is named. -/
import Derived.Test.YtkfhcfkbaaekoaaDoorS6
namespace Go.Proofs.YtkfhcfkbaaekoaaDoor.K
open Go
set_option linter.unusedVariables false
section
variable {α : Type} {key : α → List Int}
def KOrd (key : α → List Int) (l : List α) : Prop := l.Pairwise fun a b => lexc (key a) (key b) = -1
theorem lexc_irr (x : List Int) : lexc x x ≠ -1 := by rw [lexc_self]; decide
theorem lexc_asy {x y : List Int} (h : lexc x y = -1) : lexc y x ≠ -1 := by rw [lexc_anti x y, h]; decide
theorem KOrd.ext : ∀ (l m : List α), KOrd key l → KOrd key m → (∀ x, x ∈ l ↔ x ∈ m) → l = m
  | [], [], _, _, _ => rfl
  | [], y :: m, _, _, hm => by have := (hm y).2 (by simp); cases this
  | x :: l, [], _, _, hm => by have := (hm x).1 (by simp); cases this
  | x :: l, y :: m, hl, hr, hm => by
    have h1 := List.pairwise_cons.1 hl
    have h2 := List.pairwise_cons.1 hr
    have hxy : x = y := by
      rcases List.mem_cons.1 ((hm x).1 (by simp)) with e | e
      · exact e
      · rcases List.mem_cons.1 ((hm y).2 (by simp)) with e' | e'
        · exact e'.symm
        · exact absurd (h2.1 x e) (lexc_asy (h1.1 y e'))
    subst hxy
    congr 1
    refine KOrd.ext l m h1.2 h2.2 fun z => ?_
    constructor
    · intro hz
      rcases List.mem_cons.1 ((hm z).1 (by simp [hz])) with e | e
      · have := h1.1 z hz; rw [e] at this; exact absurd this (lexc_irr _)
      · exact e
    · intro hz
      rcases List.mem_cons.1 ((hm z).2 (by simp [hz])) with e | e
      · have := h2.1 z hz; rw [e] at this; exact absurd this (lexc_irr _)
      · exact e
theorem KOrd.inj {l : List α} (h : KOrd key l) : ∀ a ∈ l, ∀ b ∈ l, key a = key b → a = b := by
  induction l with
  | nil => intro a ha; cases ha
  | cons x l ih =>
    have h1 := List.pairwise_cons.1 h
    intro a ha b hb e
    rcases List.mem_cons.1 ha with ea | ha
    · rcases List.mem_cons.1 hb with eb | hb
      · rw [ea, eb]
      · have := h1.1 b hb; rw [ea] at e; rw [e] at this; exact absurd this (lexc_irr _)
    · rcases List.mem_cons.1 hb with eb | hb
      · have := h1.1 a ha; rw [eb] at e; rw [e] at this; exact absurd this (lexc_irr _)
      · exact ih h1.2 a ha b hb e
theorem KOrd.nodup {l : List α} (h : KOrd key l) : l.Nodup := List.Pairwise.imp (fun {a b} hab e => by subst e; exact lexc_irr _ hab) h
theorem sortO_kord {cf : α → α → Int} {key' : α → List Int} (hcf : ∀ x y, cf x y = lexc (key' x) (key' y)) {L ys : List α} (hL : KOrd key L) (hk : ∀ x ∈ L, key' x = key x) (hp : ys.Perm L) : sortO ys cf = some L := by
  have hs : Go.Sort.SWO (ltC cf) := by
    have e : ltC cf = ltK key' := by funext x y; exact ltC_key (hcf x y)
    rw [e]; exact swo_key key'
  obtain ⟨zs, h1, h2, h3⟩ := sortO_spec hs ys
  rw [h1]
  have h4 := h2.trans hp
  have hnd : zs.Nodup := h4.nodup_iff.2 hL.nodup
  have h5 : KOrd key zs := by
    refine (List.pairwise_and_iff.2 ⟨hnd, h3⟩).imp_of_mem fun {a b} ha hb hab => ?_
    have hka := hk a (h4.mem_iff.1 ha)
    have hkb := hk b (h4.mem_iff.1 hb)
    obtain ⟨hne, hba⟩ := hab
    unfold ltC at hba
    rw [hcf, hka, hkb, decide_eq_false_iff_not] at hba
    rcases lexc_vals (key a) (key b) with h | h | h
    · exact h
    · exact absurd (hL.inj a (h4.mem_iff.1 ha) b (h4.mem_iff.1 hb) (lexc_eq h)) hne
    · have := lexc_anti (key a) (key b); rw [h] at this; rw [this] at hba; exact absurd (by decide) hba
  rw [KOrd.ext zs L h5 hL fun x => h4.mem_iff]
theorem KOrd.put {out : List α} {z : α} {p : Nat} (ho : KOrd key out) (hp : p ≤ out.length) (hhi : ∀ y ∈ out.drop p, lexc (key z) (key y) = -1) (hlo : p = 0 ∨ ∃ y, out[p - 1]? = some y ∧ lexc (key z) (key y) ≠ -1) (hz : ∀ y ∈ out, key y ≠ key z) :
    KOrd key (out.take p ++ [z] ++ out.drop p) := by
  have ho' : KOrd key (out.take p ++ out.drop p) := by rw [List.take_append_drop]; exact ho
  have ho2 := List.pairwise_append.1 ho'
  have hlt : ∀ y ∈ out.take p, lexc (key y) (key z) = -1 := by
    intro y hy
    rcases hlo with h0 | ⟨u, hu, hlt⟩
    · subst h0; simp at hy
    · have hul := (List.getElem?_eq_some_iff.1 hu).1
      have hum : u ∈ out := List.mem_of_getElem? hu
      have huz : lexc (key u) (key z) = -1 := by
        rcases lexc_vals (key u) (key z) with h | h | h
        · exact h
        · exact absurd (lexc_eq h) (hz u hum)
        · have := lexc_anti (key u) (key z); rw [h] at this; exact absurd this hlt
      obtain ⟨i, hi, he⟩ := List.mem_iff_getElem.1 hy
      have hi' : i < min p out.length := by simpa using hi
      rw [List.getElem_take] at he
      rcases Nat.lt_or_ge i (p - 1) with hlt' | hge
      · have h5 := List.pairwise_iff_getElem.1 ho i (p - 1) (by omega) (by omega) hlt'
        rw [List.getElem?_eq_getElem (by omega)] at hu
        rw [he, Option.some.inj hu] at h5
        exact lexc_trans h5 huz
      · have : i = p - 1 := by omega
        subst this
        rw [List.getElem?_eq_getElem (by omega)] at hu
        rw [← he, Option.some.inj hu]; exact huz
  rw [List.append_assoc]
  refine List.pairwise_append.2 ⟨ho2.1, List.pairwise_append.2 ⟨List.pairwise_singleton _ _, ho2.2.1, fun a ha b hb => ?_⟩, fun a ha b hb => ?_⟩
  · rw [List.mem_singleton.1 ha]; exact hhi b hb
  · rcases List.mem_append.1 hb with hb | hb
    · rw [List.mem_singleton.1 hb]; exact hlt a ha
    · exact ho2.2.2 a ha b hb
theorem put_perm (out : List α) (z : α) (p : Nat) : (out.take p ++ [z] ++ out.drop p).Perm (z :: out) := by
  rw [List.append_assoc]
  refine (List.perm_middle (l₁ := out.take p) (a := z) (l₂ := out.drop p)).trans ?_
  rw [List.take_append_drop]
def minB (xs : List α) (cf : α → α → Int) (s : Int × α) : Option (Step Empty (Int × α)) := (if (decide (s.1 < ((xs.length : Nat) : Int))) = true then (ixO xs s.1).bind fun y => (if (decide ((cf y s.2) < 0)) = true then (ixO xs s.1).bind fun y' => some (.next (IntKind.i64.wrap (s.1 + 1), y')) else some (.next (IntKind.i64.wrap (s.1 + 1), s.2))) else some (.fin (s.1, s.2)))
def minG (xs : List α) (cf : α → α → Int) : Option α := (if (decide (((xs.length : Nat) : Int) < 1)) = true then none else (ixO xs 0).bind fun y => (runW (minB xs cf) FUEL (1, y)).bind fun o => o.elim (fun r => r.elim) fun (s : Int × α) => some s.2)
end
section
variable {α : Type}
end
section
variable {α β : Type} [DecidableEq α]
theorem mget_mem {l : List (α × β)} {k : α} {v : β} (h : mget l k = some v) : (k, v) ∈ l := by
  induction l with
  | nil => cases h
  | cons p r ih =>
    rw [mget] at h
    split at h
    · rename_i e; cases h; subst e; simp
    · exact List.mem_cons_of_mem _ (ih h)
theorem mget_of {l : List (α × β)} (hn : (l.map (·.1)).Nodup) {k : α} {v : β} (h : (k, v) ∈ l) : mget l k = some v := by
  induction l with
  | nil => cases h
  | cons p r ih =>
    rw [List.map_cons, List.nodup_cons] at hn
    rw [mget]
    rcases List.mem_cons.1 h with rfl | h
    · rw [if_pos rfl]
    · rw [if_neg (fun e => hn.1 (List.mem_map.2 ⟨(k, v), h, e⟩))]; exact ih hn.2 h
theorem mdel_fil : ∀ {l : List (α × β)} {k : α}, (l.map (·.1)).Nodup → mdel l k = l.filter fun p => !decide (p.1 = k)
  | [], _, _ => rfl
  | p :: r, k, h => by
    rw [List.map_cons, List.nodup_cons] at h
    rw [mdel]
    split
    · rename_i e
      subst e
      rw [List.filter_cons, if_neg (by simp)]
      exact (List.filter_eq_self.2 fun q hq => by
        have : q.1 ≠ p.1 := fun e => h.1 (List.mem_map.2 ⟨q, hq, e⟩)
        simp [this]).symm
    · rename_i e
      rw [List.filter_cons, if_pos (by simp [Ne.symm e]), mdel_fil h.2]
theorem mput_perm : ∀ {l : List (α × β)} {k : α} {v : β}, (l.map (·.1)).Nodup → (mput l k v).Perm ((k, v) :: mdel l k)
  | [], _, _, _ => .refl _
  | p :: r, k, v, h => by
    rw [List.map_cons, List.nodup_cons] at h
    rw [mput, mdel]
    split
    · exact .refl _
    · exact ((mput_perm h.2).cons p).trans (.swap _ _ _)
theorem mput_nd {l : List (α × β)} {k : α} {v : β} (h : (l.map (·.1)).Nodup) : ((mput l k v).map (·.1)).Nodup := by
  refine (((mput_perm h).map (·.1)).nodup_iff).2 ?_
  rw [List.map_cons, List.nodup_cons, mdel_fil h]
  refine ⟨fun hm => ?_, h.sublist (List.filter_sublist.map _)⟩
  obtain ⟨p, hp, e⟩ := List.mem_map.1 hm
  have := (List.mem_filter.1 hp).2
  simp [e] at this
end
end Go.Proofs.YtkfhcfkbaaekoaaDoor.K
