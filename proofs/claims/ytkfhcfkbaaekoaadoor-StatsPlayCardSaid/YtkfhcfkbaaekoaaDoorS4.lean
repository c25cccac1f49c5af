/- Rows of numbers held against each other, first place first; numbers of fixed size. No program is named. -/
import Derived.Test.YtkfhcfkbaaekoaaDoorS3
import Derived.IntWalk
import GoSem.Claim
namespace Go.Proofs.YtkfhcfkbaaekoaaDoor.K
open Go
set_option linter.unusedVariables false
theorem wrapU (n : Int) : IntKind.u64.wrap n = n % 18446744073709551616 := by
  simp [IntKind.wrap, IntKind.bits, IntKind.signed]
theorem wrapI {n : Int} (h : -9223372036854775808 ≤ n ∧ n ≤ 9223372036854775807) : IntKind.i64.wrap n = n := Go.IntWalk.i64_in _ h
def lexc : List Int → List Int → Int
  | [], [] => 0
  | [], _ :: _ => -1
  | _ :: _, [] => 1
  | a :: x, b :: y => if a < b then -1 else if b < a then 1 else lexc x y
theorem lexc_self : ∀ x : List Int, lexc x x = 0
  | [] => rfl
  | a :: x => by simp [lexc, lexc_self x]
theorem lexc_vals : ∀ x y : List Int, lexc x y = -1 ∨ lexc x y = 0 ∨ lexc x y = 1
  | [], [] => .inr (.inl rfl)
  | [], _ :: _ => .inl rfl
  | _ :: _, [] => .inr (.inr rfl)
  | a :: x, b :: y => by
    rw [lexc]
    split
    · exact .inl rfl
    · split
      · exact .inr (.inr rfl)
      · exact lexc_vals x y
theorem lexc_eq : ∀ {x y : List Int}, lexc x y = 0 → x = y
  | [], [], _ => rfl
  | [], _ :: _, h => by cases h
  | _ :: _, [], h => by cases h
  | a :: x, b :: y, h => by
    rw [lexc] at h
    split at h
    · cases h
    · split at h
      · cases h
      · rw [lexc_eq h, show a = b by omega]
theorem lexc_anti : ∀ x y : List Int, lexc y x = - lexc x y
  | [], [] => rfl
  | [], _ :: _ => rfl
  | _ :: _, [] => rfl
  | a :: x, b :: y => by
    rw [lexc, lexc]
    have := lexc_anti x y
    split <;> split <;> first | omega | (split <;> omega) | skip
theorem lexc_trans : ∀ {x y z : List Int}, lexc x y = -1 → lexc y z = -1 → lexc x z = -1
  | [], [], _, h, _ => by cases h
  | [], _ :: _, [], _, h => by cases h
  | [], _ :: _, _ :: _, _, _ => rfl
  | _ :: _, [], _, h, _ => by cases h
  | _ :: _, _ :: _, [], _, h => by cases h
  | a :: x, b :: y, c :: z, h, k => by
    rw [lexc] at h k ⊢
    split at h
    · split at k
      · rw [if_pos (by omega)]
      · split at k
        · cases k
        · rw [if_pos (by omega)]
    · split at h
      · cases h
      · split at k
        · rw [if_pos (by omega)]
        · split at k
          · cases k
          · rw [if_neg (by omega), if_neg (by omega)]; exact lexc_trans h k
def ltK {α : Type} (key : α → List Int) (a b : α) : Bool := decide (lexc (key a) (key b) < 0)
theorem ltK_iff {α : Type} {key : α → List Int} {a b : α} : ltK key a b = true ↔ lexc (key a) (key b) = -1 := by
  unfold ltK; rw [decide_eq_true_iff]
  rcases lexc_vals (key a) (key b) with h | h | h <;> rw [h] <;> simp
theorem ltK_sto {α : Type} {key : α → List Int} (hk : ∀ a b, key a = key b → a = b) : STO (ltK key) where
  irr a := by rw [← Bool.not_eq_true, ltK_iff, lexc_self]; decide
  trans a b c h k := ltK_iff.2 (lexc_trans (ltK_iff.1 h) (ltK_iff.1 k))
  tri a b h k := by
    rw [← Bool.not_eq_true, ltK_iff] at h k
    rw [lexc_anti] at k
    refine hk a b (lexc_eq ?_)
    rcases lexc_vals (key a) (key b) with e | e | e
    · exact (h e).elim
    · exact e
    · rw [e] at k; exact (k rfl).elim
theorem less_self : ∀ x : List UInt8, Op.bytesLess x x = false
  | [] => rfl
  | a :: x => by simp [Op.bytesLess, less_self x]
def txt (s : ByteArray) : List Int := s.data.toList.map (fun b => (b.toNat : Int)) ++ [-1]
theorem txt_lex (u v : List Int) : ∀ (x y : List UInt8), lexc (x.map (fun b => (b.toNat : Int)) ++ (-1 :: u)) (y.map (fun b => (b.toNat : Int)) ++ (-1 :: v)) = if x = y then lexc u v else if Op.bytesLess x y then -1 else 1
  | [], [] => by simp [lexc]
  | [], b :: y => by
    have : (-1 : Int) < (b.toNat : Int) := by omega
    simp [lexc, Op.bytesLess, this]
  | a :: x, [] => by
    have h1 : ¬ (a.toNat : Int) < -1 := by omega
    have h2 : (-1 : Int) < (a.toNat : Int) := by omega
    simp [lexc, Op.bytesLess, h1, h2]
  | a :: x, b :: y => by
    have ih := txt_lex u v x y
    simp only [List.map_cons, List.cons_append, lexc, Op.bytesLess]
    have e1 : (a.toNat : Int) < (b.toNat : Int) ↔ a < b := by rw [UInt8.lt_iff_toNat_lt]; omega
    have e2 : (b.toNat : Int) < (a.toNat : Int) ↔ b < a := by rw [UInt8.lt_iff_toNat_lt]; omega
    rw [ih]
    by_cases h1 : a < b
    · have hne : a ≠ b := by rintro rfl; simp at h1
      simp [e1.2 h1, h1, hne]
    · by_cases h2 : b < a
      · have hne : a ≠ b := by rintro rfl; simp at h2
        rw [if_neg (fun h => h1 (e1.1 h)), if_pos (e2.2 h2)]
        simp [h1, hne]
      · have he : a = b := by
          rw [UInt8.lt_iff_toNat_lt] at h1 h2
          exact UInt8.toNat_inj.1 (by omega)
        subst he
        simp
theorem txt_cmp (s t : ByteArray) (u v : List Int) : lexc (txt s ++ u) (txt t ++ v) = if s = t then lexc u v else if Op.bytesLess s.toList t.toList then -1 else 1 := by
  have := txt_lex u v s.data.toList t.data.toList
  unfold txt
  rw [List.append_assoc, List.append_assoc]
  simp only [List.cons_append, List.nil_append]
  rw [this, ByteArray.toList_eq, ByteArray.toList_eq]
  have e : s.data.toList = t.data.toList ↔ s = t := by
    constructor
    · intro h; cases s; cases t; congr; exact Array.toList_inj.1 h
    · rintro rfl; rfl
  by_cases h : s = t
  · simp [h]
  · rw [if_neg h, if_neg (fun x => h (e.1 x))]
theorem txt_inj (s t : ByteArray) (u v : List Int) (h : txt s ++ u = txt t ++ v) : s = t ∧ u = v := by
  have := txt_cmp s t u v
  rw [h, lexc_self] at this
  split at this
  · rename_i e; subst e; exact ⟨rfl, List.append_cancel_left h⟩
  · split at this <;> cases this
def mfilter {α β : Type} [DecidableEq α] (l : List (α × β)) (f : α → β → Bool) : Option (List (α × β)) := if (l.map (·.1)).Nodup then some (l.filter fun p => !f p.1 p.2) else none
def mmod {α β : Type} [DecidableEq α] (l : List (α × β)) (k : α) (f : β → β) : List (α × β) := match mget l k with | none => l | some m => mput l k (f m)
def mmnew {α β γ : Type} [DecidableEq α] (l : List (α × List (β × γ))) (k : α) : Option (List (α × List (β × γ))) := if (mget l k).isNone = true then some (mput l k []) else none
end Go.Proofs.YtkfhcfkbaaekoaaDoor.K
