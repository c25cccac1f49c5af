/- Boxes that are read through a pointer, function values; what is left of the rules. General: no program is named. -/
import Derived.Test.YtkfhcfkbaaekoaaDoorK7
import Derived.Test.YtkfhcfkbaaekoaaDoorS0
import Derived.WalkSpells
namespace Go.Proofs.YtkfhcfkbaaekoaaDoor.K
open Go
set_option linter.unusedVariables false
theorem kInt_pos {k : IntKind} : 0 < (kInt k).n := Nat.one_pos
section
variable {α β ρ : Type} {k : Kd α} {T : TypeId} {F : Nat → Prop} {B : Nat} {S S' D : Nat → Prop} {w w' : World} {xs : List α} {v : Value}
theorem SlO.ch0 (h : SlO k T F B S w xs v) (c : Ch nb w w') : SlO k T F B S w' xs v := h.st c (fun _ _ x => x) (fun _ _ hs => ⟨fun x => x, hs⟩) h.mine
theorem nbS {n : Nat} : ∀ b, nb b → b < n := fun _ h => h.elim
theorem Ch.le {D : Nat → Prop} {a b : World} (h : Ch D a b) : a.heap.size ≤ b.heap.size := h.size
def Kd.box (k : Kd α) (T : TypeId) : Kd α :=
  ⟨1, fun F w x cs => ∃ b cc, cs = [.pointer (some ⟨b, 0, none⟩)] ∧ F b ∧ Blk w b T cc ∧ k.rep F w x cc, fun ⟨_, _, h, _⟩ => by rw [h]; rfl,
    fun ⟨b, cc, h, hf, hb, hr⟩ hm => ⟨b, cc, h, (hm b hb.lt hf).1, by unfold Blk; rw [(hm b hb.lt hf).2]; exact hb, k.mono hr hm⟩,
    fun ⟨b, cc, h, _⟩ u hu => by rw [h] at hu; simp at hu; subst hu; rfl⟩
def Kd.val (agg : Bool) (cs : List Value) : Value := if agg = true then .agg cs.toArray else cs.headD undef
def Kd.fn1 (P : Program) (agg : Bool) (k : Kd α) (rv : ρ → Value) : Kd (α → ρ) :=
  ⟨1, fun F w f cs => ∃ g cap, cs = [.func (.func g) #[] cap.toArray] ∧ Enters P g ∧
      ∀ w', (∀ b, b < w.heap.size → F b → b < w'.heap.size ∧ w'.heap[b]? = w.heap[b]?) → ∀ (F' : Nat → Prop) x c, k.rep F' w' x c → Ret P g (Kd.val agg c :: cap).toArray w' fun u w'' => u = rv (f x) ∧ Ch nb w' w'',
    fun ⟨_, _, h, _⟩ => by rw [h]; rfl,
    fun ⟨g, cap, h, he, hc⟩ hm => ⟨g, cap, h, he, fun w' hw => hc w' fun b hb hf => by
      obtain ⟨h1, h2⟩ := hm b hb hf
      have hlt := (Array.getElem?_eq_some_iff.1 (h2.trans (Array.getElem?_eq_getElem hb))).1
      obtain ⟨h3, h4⟩ := hw b hlt h1
      exact ⟨h3, h4.trans h2⟩⟩,
    fun ⟨g, cap, h, _⟩ u hu => by rw [h] at hu; simp at hu; subst hu; rfl⟩
def Kd.fn2 (P : Program) (agg agg' : Bool) (k : Kd α) (k' : Kd β) (rv : ρ → Value) : Kd (α → β → ρ) :=
  ⟨1, fun F w f cs => ∃ g cap, cs = [.func (.func g) #[] cap.toArray] ∧ Enters P g ∧
      ∀ w', (∀ b, b < w.heap.size → F b → b < w'.heap.size ∧ w'.heap[b]? = w.heap[b]?) → ∀ (F' : Nat → Prop) x y c c', k.rep F' w' x c → k'.rep F' w' y c' →
        Ret P g (Kd.val agg c :: Kd.val agg' c' :: cap).toArray w' fun u w'' => u = rv (f x y) ∧ Ch nb w' w'',
    fun ⟨_, _, h, _⟩ => by rw [h]; rfl,
    fun ⟨g, cap, h, he, hc⟩ hm => ⟨g, cap, h, he, fun w' hw => hc w' fun b hb hf => by
      obtain ⟨h1, h2⟩ := hm b hb hf
      have hlt := (Array.getElem?_eq_some_iff.1 (h2.trans (Array.getElem?_eq_getElem hb))).1
      obtain ⟨h3, h4⟩ := hw b hlt h1
      exact ⟨h3, h4.trans h2⟩⟩,
    fun ⟨g, cap, h, _⟩ u hu => by rw [h] at hu; simp at hu; subst hu; rfl⟩
end
section
variable {P : Program} {n : Nat} {E : Env} {w : World} {x : Code} {Q : Exit → Env → World → Prop}
theorem CW.cutB {id : Nat} (M : Env → World → Prop) (h1 : CW P n x (inB id (thn M Q)) E w) (h2 : ∀ E w, M E w → Q .normal E w) : CW P n (.block id x) Q E w :=
  CW.block (CW.mono (fun e E w h => by
    cases e with
    | exit i =>
      simp only [inB] at h ⊢
      split at h
      · rename_i e; rw [if_pos e]; exact h2 _ _ h
      · rename_i e; rw [if_neg e]; exact h
    | normal => exact h2 _ _ h
    | _ => exact h) h1)
theorem CW.loopS (E0 : Env) (hs : Sub E0 E) (m : Nat) (I : Nat → Env → World → Prop) (h0 : I m E0 w)
    (round : ∀ m E w, I m E w → CW P n x (thn (fun E' w' => ∃ m', m' < m ∧ ∃ E'', Sub E'' E' ∧ I m' E'' w') Q) E w) : CW P n (.loop x) Q E w := CW.sub E0 hs (CW.loop m I h0 round)
variable {ops : Array Oper} {rest : List Oper} {K : Env → World → Prop} {d : Nat} {ty : TypeId} {pos : String} {af : Array Edge}
theorem rl_ixI {α : Type} {k : Kd α} {F : Nat → Prop} {xs : List α} {v : Value} {t el : TypeId} {X I : Operand} {kk : IntKind} {i : Int} {y : α} (hx : ev E X = some v) (h : slRep k F w xs v) (hi : ev E I = some (.int kk i))
    (hj : 0 ≤ i ∧ i < (xs.length : Int) ∧ xs[i.toNat]? = some y) (ht : P.underlying t = some (.slice el)) (hz : ∀ w, (sizeOf el).run P w = .ok k.n w) (hn : Nat.blt d n = true)
    (hK : ∀ b o cs, k.rep F w y cs → Seg w b o cs → F b → RL P n ops rest K ((d, .pointer (some ⟨b, o, none⟩)) :: E) w) : RL P n ops (⟨some d, .indexAddr t X I, ty, pos, af, none⟩ :: rest) K E w := by
  have e : i = ((i.toNat : Nat) : Int) := by omega
  exact rl_ixR (j := i.toNat) hx h (by rw [← e]; exact hi) hj.2.2 ht hz hn hK
theorem rl_fn2 {α β ρ : Type} {agg agg' : Bool} {k : Kd α} {k' : Kd β} {rv : ρ → Value} {F F' : Nat → Prop} {f : α → β → ρ} {v a a' : Value} {xx : α} {yy : β} {c c' : List Value} {X A A' : Operand} {tys : Array TypeId}
    (hX : ev E X = some v) (hA : ev E A = some a) (hA' : ev E A' = some a') (ha : Kd.val agg c = a) (ha' : Kd.val agg' c' = a') (h : (Kd.fn2 P agg agg' k k' rv).rep F w f [v]) (hx : k.rep F' w xx c) (hy : k'.rep F' w yy c') (hn : Nat.blt d n = true)
    (hK : ∀ w', Ch nb w w' → RL P n ops rest K ((d, rv (f xx yy)) :: E) w') : RL P n ops (⟨some d, .call ⟨.value X, #[A, A'], tys⟩, ty, pos, af, none⟩ :: rest) K E w := by
  obtain ⟨g, cap, e, he, hc⟩ := h
  obtain rfl := (List.cons.inj e).1
  refine rl_call (vs := [a, a']) hX (by show evs E [A, A'] = _; simp [evs, hA, hA']) he hn (R := fun u w'' => u = rv (f xx yy) ∧ Ch nb w w'') ?_ fun u w' ⟨e, c⟩ => by subst e; exact hK w' c
  subst ha; subst ha'
  exact hc w (fun b hb _ => ⟨hb, rfl⟩) F' xx yy c c' hx hy
end
section
variable {α : Type} {k : Kd α} {T : TypeId} {F : Nat → Prop} {B : Nat} {S : Nat → Prop} {w w' : World} {xs : List α} {v : Value}
theorem SlO.readNew (hn : 0 < k.n) (h : SlO k T F B (un (inBlk v) S) w' xs v) (hf : ∀ b, inBlk v b → w.heap.size ≤ b) (hS : ∀ b, S b → b < w.heap.size) : slRep k (G F B S) w' xs v :=
  h.read hn (fun b hb hs => hb (.inr hs)) fun b hb hs => by have := hf b hb; have := hS b hs; omega
theorem admNew {D : Nat → Prop} (hf : ∀ b, inBlk v b → w.heap.size ≤ b) (hD : ∀ b, ¬ D b) : ∀ b, b < w.heap.size → ¬ S b → ¬ D b ∧ ¬ un (inBlk v) S b :=
  fun b hb hs => ⟨hD b, fun h => h.elim (fun h => by have := hf b h; omega) hs⟩
theorem New.fresh {b : Nat} (h : New w w' b) : ∀ c, inBlk (.pointer (some ⟨b, 0, none⟩)) c → w.heap.size ≤ c := fun c hc => by
  have := h.eq; simp only [inBlk] at hc; omega
theorem New.lo {b m : Nat} (h : New w w' b) (hm : m ≤ w.heap.size) : ∀ c, inBlk (.pointer (some ⟨b, 0, none⟩)) c → m ≤ c := fun c hc => Nat.le_trans hm (h.fresh c hc)
theorem Blk.ltp {b T : Nat} {cs : List Value} (h : Blk w b T cs) : ∀ c, inBlk (.pointer (some ⟨b, 0, none⟩)) c → c < w.heap.size := fun c hc => by
  have := h.lt; simp only [inBlk] at hc; omega
theorem un_el {S T : Nat → Prop} {b : Nat} {C : Prop} (h : un S T b) (f : S b → C) (g : T b → C) : C := Or.elim h f g
theorem un_lt {S T : Nat → Prop} {n : Nat} (h1 : ∀ b, S b → b < n) (h2 : ∀ b, T b → b < n) : ∀ b, un S T b → b < n := fun b h => h.elim (h1 b) (h2 b)
theorem disNew {S T : Nat → Prop} {n : Nat} (hf : ∀ b, S b → n ≤ b) (hl : ∀ b, T b → b < n) : ∀ b, S b → ¬ T b := fun b h h' => by
  have := hf b h; have := hl b h'; omega
theorem disApp {S S' T : Nat → Prop} {n : Nat} (hf : ∀ b, S' b → S b ∨ n ≤ b) (hd : ∀ b, S b → ¬ T b) (hl : ∀ b, T b → b < n) : ∀ b, S' b → ¬ T b := fun b h h' => by
  rcases hf b h with h | h
  · exact hd b h h'
  · have := hl b h'; omega
theorem un_swap {A B C : Nat → Prop} {b : Nat} : un A (un B C) b ↔ un B (un A C) b := by
  unfold un; constructor <;> (rintro (h | h | h) <;> simp [h])
theorem un_swap3 {A B C D : Nat → Prop} {b : Nat} : un A (un B (un C D)) b ↔ un C (un A (un B D)) b := by
  unfold un; constructor <;> (rintro (h | h | h | h) <;> simp [h])
theorem disSym {S T : Nat → Prop} (h : ∀ b, S b → ¬ T b) : ∀ b, T b → ¬ S b := fun b ht hs => h b hs ht
theorem admNil {n : Nat} : ∀ b, b < n → ¬ S b → ¬ nb b ∧ ¬ un (inBlk (.slice none 0 0)) S b := fun b _ hs => ⟨fun x => x, fun h => h.elim (fun h => h) hs⟩
end
theorem Seg.ch0 {w w' : World} {b off : Nat} {cs : List Value} (h : Seg w b off cs) (c : Ch nb w w') : Seg w' b off cs := fun j v hv => by
  have h1 := h j v hv
  rw [cell_of_heap (c.blk b (lt_of_cell h1) (fun x => x))]; exact h1
section
variable {P : Program} {n : Nat} {E : Env} {w : World} {x : Code} {Q : Exit → Env → World → Prop}
theorem CW.cutN (M : Env → World → Prop) (h1 : CW P n x (fun e E w => e = .normal ∧ M E w) E w) (h2 : ∀ E w, M E w → Q .normal E w) : CW P n x Q E w :=
  CW.mono (fun e E w h => by obtain ⟨rfl, h⟩ := h; exact h2 E w h) h1
end
end Go.Proofs.YtkfhcfkbaaekoaaDoor.K
