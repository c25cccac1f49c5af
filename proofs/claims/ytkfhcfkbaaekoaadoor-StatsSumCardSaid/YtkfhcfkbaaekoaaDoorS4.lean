/- Rows of numbers held against each other, first place first; numbers of fixed size. No program is named. -/
import Derived.Test.YtkfhcfkbaaekoaaDoorS3
import Derived.IntWalk
import GoSem.Claim
namespace Go.Proofs.YtkfhcfkbaaekoaaDoor.K
open Go
set_option linter.unusedVariables false

/-! ### numbers of fixed size -/
theorem inI64 {n : Int} (h : (Lit.int .i64 n).wf = true) : -9223372036854775808 ≤ n ∧ n ≤ 9223372036854775807 := by
  simp [Lit.wf, IntKind.min, IntKind.max, IntKind.bits, IntKind.signed] at h
  exact h
theorem inU8 {n : Int} (h : (Lit.int .u8 n).wf = true) : 0 ≤ n ∧ n ≤ 255 := by
  simp [Lit.wf, IntKind.min, IntKind.max, IntKind.bits, IntKind.signed] at h
  exact h
theorem wrapU (n : Int) : IntKind.u64.wrap n = n % 18446744073709551616 := by
  simp [IntKind.wrap, IntKind.bits, IntKind.signed]
theorem wrapI {n : Int} (h : -9223372036854775808 ≤ n ∧ n ≤ 9223372036854775807) : IntKind.i64.wrap n = n := Go.IntWalk.i64_in _ h
theorem wrapI' (n : Int) : IntKind.i64.wrap n = (n + 9223372036854775808) % 18446744073709551616 - 9223372036854775808 := by
  have e : IntKind.i64.wrap n = if n % 18446744073709551616 ≥ 9223372036854775808 then n % 18446744073709551616 - 18446744073709551616 else n % 18446744073709551616 := by
    simp [IntKind.wrap, IntKind.bits, IntKind.signed]
  rw [e]
  split <;> omega

/-! ### rows of numbers -/
def lexc : List Int → List Int → Int
  | [], [] => 0
  | [], _ :: _ => -1
  | _ :: _, [] => 1
  | a :: x, b :: y => if a < b then -1 else if b < a then 1 else lexc x y
theorem lexc_self : ∀ x : List Int, lexc x x = 0
  | [] => rfl
  | a :: x => by simp [lexc, lexc_self x]
theorem lexc_vals : ∀ x y : List Int, lexc x y = -1 ∨ lexc x y = 0 ∨ lexc x y = 1
  | [], [] => .inr (.inl rfl)
  | [], _ :: _ => .inl rfl
  | _ :: _, [] => .inr (.inr rfl)
  | a :: x, b :: y => by
    rw [lexc]
    split
    · exact .inl rfl
    · split
      · exact .inr (.inr rfl)
      · exact lexc_vals x y
theorem lexc_eq : ∀ {x y : List Int}, lexc x y = 0 → x = y
  | [], [], _ => rfl
  | [], _ :: _, h => by cases h
  | _ :: _, [], h => by cases h
  | a :: x, b :: y, h => by
    rw [lexc] at h
    split at h
    · cases h
    · split at h
      · cases h
      · rw [lexc_eq h, show a = b by omega]
theorem lexc_anti : ∀ x y : List Int, lexc y x = - lexc x y
  | [], [] => rfl
  | [], _ :: _ => rfl
  | _ :: _, [] => rfl
  | a :: x, b :: y => by
    rw [lexc, lexc]
    have := lexc_anti x y
    split <;> split <;> first | omega | (split <;> omega) | skip
theorem lexc_trans : ∀ {x y z : List Int}, lexc x y = -1 → lexc y z = -1 → lexc x z = -1
  | [], [], _, h, _ => by cases h
  | [], _ :: _, [], _, h => by cases h
  | [], _ :: _, _ :: _, _, _ => rfl
  | _ :: _, [], _, h, _ => by cases h
  | _ :: _, _ :: _, [], _, h => by cases h
  | a :: x, b :: y, c :: z, h, k => by
    rw [lexc] at h k ⊢
    split at h
    · split at k
      · rw [if_pos (by omega)]
      · split at k
        · cases k
        · rw [if_pos (by omega)]
    · split at h
      · cases h
      · split at k
        · rw [if_pos (by omega)]
        · split at k
          · cases k
          · rw [if_neg (by omega), if_neg (by omega)]; exact lexc_trans h k
/-- The order of whatever is told by a row of numbers. -/
def ltK {α : Type} (key : α → List Int) (a b : α) : Bool := decide (lexc (key a) (key b) < 0)
theorem ltK_iff {α : Type} {key : α → List Int} {a b : α} : ltK key a b = true ↔ lexc (key a) (key b) = -1 := by
  unfold ltK; rw [decide_eq_true_iff]
  rcases lexc_vals (key a) (key b) with h | h | h <;> rw [h] <;> simp
theorem ltK_sto {α : Type} {key : α → List Int} (hk : ∀ a b, key a = key b → a = b) : STO (ltK key) where
  irr a := by rw [← Bool.not_eq_true, ltK_iff, lexc_self]; decide
  trans a b c h k := ltK_iff.2 (lexc_trans (ltK_iff.1 h) (ltK_iff.1 k))
  tri a b h k := by
    rw [← Bool.not_eq_true, ltK_iff] at h k
    rw [lexc_anti] at k
    refine hk a b (lexc_eq ?_)
    rcases lexc_vals (key a) (key b) with e | e | e
    · exact (h e).elim
    · exact e
    · rw [e] at k; exact (k rfl).elim

/-- Two rows of one length, then the rest. -/
theorem lexc_app : ∀ {x y : List Int} (u v : List Int), x.length = y.length → lexc (x ++ u) (y ++ v) = if lexc x y = 0 then lexc u v else lexc x y
  | [], [], u, v, _ => by simp [lexc]
  | [], _ :: _, _, _, h => by cases h
  | _ :: _, [], _, _, h => by cases h
  | a :: x, b :: y, u, v, h => by
    have ih := lexc_app (x := x) (y := y) u v (by simpa using h)
    simp only [List.cons_append, lexc]
    split
    · rfl
    · split
      · rfl
      · exact ih
theorem less_self : ∀ x : List UInt8, Op.bytesLess x x = false
  | [] => rfl
  | a :: x => by simp [Op.bytesLess, less_self x]
/-- A text as a row: its bytes, and less than any byte behind them. -/
def txt (s : ByteArray) : List Int := s.data.toList.map (fun b => (b.toNat : Int)) ++ [-1]
theorem txt_lex (u v : List Int) : ∀ (x y : List UInt8), lexc (x.map (fun b => (b.toNat : Int)) ++ (-1 :: u)) (y.map (fun b => (b.toNat : Int)) ++ (-1 :: v)) = if x = y then lexc u v else if Op.bytesLess x y then -1 else 1
  | [], [] => by simp [lexc]
  | [], b :: y => by
    have : (-1 : Int) < (b.toNat : Int) := by omega
    simp [lexc, Op.bytesLess, this]
  | a :: x, [] => by
    have h1 : ¬ (a.toNat : Int) < -1 := by omega
    have h2 : (-1 : Int) < (a.toNat : Int) := by omega
    simp [lexc, Op.bytesLess, h1, h2]
  | a :: x, b :: y => by
    have ih := txt_lex u v x y
    simp only [List.map_cons, List.cons_append, lexc, Op.bytesLess]
    have e1 : (a.toNat : Int) < (b.toNat : Int) ↔ a < b := by rw [UInt8.lt_iff_toNat_lt]; omega
    have e2 : (b.toNat : Int) < (a.toNat : Int) ↔ b < a := by rw [UInt8.lt_iff_toNat_lt]; omega
    rw [ih]
    by_cases h1 : a < b
    · have hne : a ≠ b := by rintro rfl; simp at h1
      simp [e1.2 h1, h1, hne]
    · by_cases h2 : b < a
      · have hne : a ≠ b := by rintro rfl; simp at h2
        rw [if_neg (fun h => h1 (e1.1 h)), if_pos (e2.2 h2)]
        simp [h1, hne]
      · have he : a = b := by
          rw [UInt8.lt_iff_toNat_lt] at h1 h2
          exact UInt8.toNat_inj.1 (by omega)
        subst he
        simp
theorem txt_cmp (s t : ByteArray) (u v : List Int) : lexc (txt s ++ u) (txt t ++ v) = if s = t then lexc u v else if Op.bytesLess s.toList t.toList then -1 else 1 := by
  have := txt_lex u v s.data.toList t.data.toList
  unfold txt
  rw [List.append_assoc, List.append_assoc]
  simp only [List.cons_append, List.nil_append]
  rw [this, ByteArray.toList_eq, ByteArray.toList_eq]
  have e : s.data.toList = t.data.toList ↔ s = t := by
    constructor
    · intro h; cases s; cases t; congr; exact Array.toList_inj.1 h
    · rintro rfl; rfl
  by_cases h : s = t
  · simp [h]
  · rw [if_neg h, if_neg (fun x => h (e.1 x))]
theorem txt_inj (s t : ByteArray) (u v : List Int) (h : txt s ++ u = txt t ++ v) : s = t ∧ u = v := by
  have := txt_cmp s t u v
  rw [h, lexc_self] at this
  split at this
  · rename_i e; subst e; exact ⟨rfl, List.append_cancel_left h⟩
  · split at this <;> cases this

/-- Bytes, as Go's library holds them against each other. -/
theorem cmpB_lex : ∀ {x y : List Int}, (∀ n ∈ x, 0 ≤ n ∧ n ≤ 255) → (∀ n ∈ y, 0 ≤ n ∧ n ≤ 255) → cmpB x y = lexc x y
  | [], [], _, _ => rfl
  | [], _ :: _, _, _ => rfl
  | _ :: _, [], _, _ => rfl
  | a :: x, b :: y, hx, hy => by
    have ih := cmpB_lex (x := x) (y := y) (fun n h => hx n (by simp [h])) (fun n h => hy n (by simp [h]))
    have ha := hx a (by simp)
    have hb := hy b (by simp)
    rw [cmpB, lexc, ih]
    have key : ∀ p q : Int, 0 ≤ p ∧ p ≤ 255 → 0 ≤ q ∧ q ≤ 255 → (p.toNat.toUInt8 < q.toNat.toUInt8 ↔ p < q) := by
      intro p q hp hq
      rw [UInt8.lt_iff_toNat_lt]
      have e : ∀ r : Int, 0 ≤ r ∧ r ≤ 255 → r.toNat.toUInt8.toNat = r.toNat := fun r hr => by
        show (UInt8.ofNat r.toNat).toNat = _
        rw [UInt8.toNat_ofNat']; omega
      rw [e p hp, e q hq]; omega
    simp only [key a b ha hb, key b a hb ha]
/-- A loop that holds two rows of one length against each other. -/
theorem loop_lex {x y : List Int} {body : Int → Option (Step Int Int)} (hb : ∀ (k : Nat) (a b : Int), x[k]? = some a → y[k]? = some b → body (k : Int) = some (if a < b then .ret (-1) else if b < a then .ret 1 else .next ((k + 1 : Nat) : Int)))
    (he : body (x.length : Int) = some (.fin (x.length : Int))) (hl : x.length = y.length) : ∀ (f k : Nat), k ≤ x.length → x.length - k < f →
      runW body f (k : Int) = some (if lexc (x.drop k) (y.drop k) = 0 then .fin (x.length : Int) else .ret (lexc (x.drop k) (y.drop k)))
  | 0, _, _, h => by omega
  | f + 1, k, h1, h2 => by
    rcases Nat.lt_or_ge k x.length with hk | hk
    · have hx : x[k]? = some x[k] := List.getElem?_eq_getElem hk
      have hy : y[k]? = some (y[k]'(by omega)) := List.getElem?_eq_getElem (by omega)
      have ih := loop_lex hb he hl f (k + 1) (by omega) (by omega)
      rw [runW, hb k _ _ hx hy, List.drop_eq_getElem_cons hk, List.drop_eq_getElem_cons (show k < y.length by omega), lexc]
      by_cases c1 : x[k] < y[k]'(by omega)
      · simp [c1]
      · by_cases c2 : y[k]'(by omega) < x[k]
        · simp [c1, c2]
        · simp only [if_neg c1, if_neg c2]; exact ih
    · obtain rfl : k = x.length := by omega
      rw [runW, he, List.drop_length, hl, List.drop_length]; rfl

/-- maps.DeleteFunc: told where no key comes twice. -/
def mfilter {α β : Type} [DecidableEq α] (l : List (α × β)) (f : α → β → Bool) : Option (List (α × β)) := if (l.map (·.1)).Nodup then some (l.filter fun p => !f p.1 p.2) else none
theorem mfilter_nd {α β : Type} [DecidableEq α] {l r : List (α × β)} {f : α → β → Bool} (h : mfilter l f = some r) : (l.map (·.1)).Nodup := by
  unfold mfilter at h
  split at h
  · assumption
  · cases h
theorem mfilter_eq {α β : Type} [DecidableEq α] {l r : List (α × β)} {f : α → β → Bool} (h : mfilter l f = some r) : (l.filter fun p => !f p.1 p.2) = r := by
  unfold mfilter at h
  split at h
  · exact Option.some.inj h
  · cases h

/-- Maps in a map: the inner one at a key turned; one more; an entry put into the inner one. -/
def mmod {α β : Type} [DecidableEq α] (l : List (α × β)) (k : α) (f : β → β) : List (α × β) := match mget l k with | none => l | some m => mput l k (f m)
def mmnew {α β γ : Type} [DecidableEq α] (l : List (α × List (β × γ))) (k : α) : Option (List (α × List (β × γ))) := if (mget l k).isNone = true then some (mput l k []) else none
theorem mmnew_get {α β γ : Type} [DecidableEq α] {l r : List (α × List (β × γ))} {k : α} (h : mmnew l k = some r) : mget l k = none ∧ mput l k [] = r := by
  unfold mmnew at h
  split at h
  · rename_i hn; exact ⟨by simpa using hn, Option.some.inj h⟩
  · cases h
end Go.Proofs.YtkfhcfkbaaekoaaDoor.K
