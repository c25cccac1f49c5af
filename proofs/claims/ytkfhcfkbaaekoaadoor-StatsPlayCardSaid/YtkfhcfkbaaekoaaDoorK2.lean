/- Memory: what a step leaves as it was; how data lie in cells ('Kd'); slices that are read and slices that are one's own. General: no program is named. -/
import Derived.Test.YtkfhcfkbaaekoaaDoorK1
namespace Go.Proofs.YtkfhcfkbaaekoaaDoor.K
open Go
structure Ch (D : Nat → Prop) (w w' : World) : Prop where
  os : w'.os = w.os
  tape : w'.tape = w.tape
  output : w'.output = w.output
  drawn : w.drawn ≤ w'.drawn
  size : w.heap.size ≤ w'.heap.size
  blk : ∀ b, b < w.heap.size → ¬ D b → w'.heap[b]? = w.heap[b]?
def nb : Nat → Prop := fun _ => False
def un (S T : Nat → Prop) : Nat → Prop := fun b => S b ∨ T b
theorem Ch.refl {D : Nat → Prop} {w : World} : Ch D w w := ⟨rfl, rfl, rfl, Nat.le_refl _, Nat.le_refl _, fun _ _ _ => rfl⟩
theorem Ch.trans {D : Nat → Prop} {a b c : World} (h : Ch D a b) (k : Ch D b c) : Ch D a c :=
  ⟨k.os.trans h.os, k.tape.trans h.tape, k.output.trans h.output, Nat.le_trans h.drawn k.drawn, Nat.le_trans h.size k.size, fun i hi hd => (k.blk i (Nat.lt_of_lt_of_le hi h.size) hd).trans (h.blk i hi hd)⟩
theorem Ch.mono {D D' : Nat → Prop} {w w' : World} (h : Ch D w w') (hd : ∀ b, b < w.heap.size → D b → D' b) : Ch D' w w' :=
  ⟨h.os, h.tape, h.output, h.drawn, h.size, fun b hb hn => h.blk b hb (fun x => hn (hd b hb x))⟩
theorem Ch.then {D D' : Nat → Prop} {a b c : World} (h : Ch D a b) (k : Ch D' b c) (hd : ∀ i, i < a.heap.size → D' i → D i) : Ch D a c :=
  ⟨k.os.trans h.os, k.tape.trans h.tape, k.output.trans h.output, Nat.le_trans h.drawn k.drawn, Nat.le_trans h.size k.size, fun i hi hn => (k.blk i (Nat.lt_of_lt_of_le hi h.size) (fun x => hn (hd i hi x))).trans (h.blk i hi hn)⟩
theorem Ch.then0 {D : Nat → Prop} {a b c : World} (h : Ch D a b) (k : Ch nb b c) : Ch D a c := h.then k fun _ _ x => x.elim
theorem Ch.alloc {D : Nat → Prop} {w : World} {o : Obj} : Ch D w (w.alloc o) :=
  ⟨rfl, rfl, rfl, Nat.le_refl _, by simp, fun b hb _ => Go.RowKit.Below.heap_alloc _ _ _ hb⟩
theorem Ch.drew {D : Nat → Prop} {w : World} : Ch D w w.drew := ⟨rfl, rfl, rfl, Nat.le_succ _, Nat.le_refl _, fun _ _ _ => rfl⟩
theorem Ch.setCell {D : Nat → Prop} {w : World} {a : Addr} {v : Value} (h : D a.block) : Ch D w (w.setCell a v) :=
  ⟨rfl, rfl, rfl, Nat.le_refl _, by simp, fun b _ hn => Go.RowKit.Below.heap_setCell _ _ _ _ (by rintro rfl; exact hn h)⟩
def G (F : Nat → Prop) (B : Nat) (S : Nat → Prop) : Nat → Prop := fun b => ((F b ∧ b < B) ∨ B ≤ b) ∧ ¬ S b
def Seg (w : World) (b off : Nat) (cs : List Value) : Prop := ∀ j v, cs[j]? = some v → w.cell? ⟨b, off + j, none⟩ = some v
theorem cell_of_heap {w w' : World} {b o : Nat} (h : w'.heap[b]? = w.heap[b]?) : w'.cell? ⟨b, o, none⟩ = w.cell? ⟨b, o, none⟩ := by
  simp only [World.cell?, h]
theorem Seg.same {w w' : World} {b off : Nat} {cs : List Value} (h : Seg w b off cs) (hb : w'.heap[b]? = w.heap[b]?) : Seg w' b off cs :=
  fun j v hv => by rw [cell_of_heap hb]; exact h j v hv
theorem lt_of_cell {w : World} {b o : Nat} {v : Value} (h : w.cell? ⟨b, o, none⟩ = some v) : b < w.heap.size := by
  have := World.block_lt_of_cell? _ _ h; simpa using this
theorem Addr_add (b o n : Nat) : (⟨b, o, none⟩ : Addr).add n = ⟨b, o + n, none⟩ := by
  unfold Addr.add; split
  · rename_i h; subst h; rfl
  · rfl
theorem Seg.sub {w : World} {b off : Nat} {cs : List Value} (h : Seg w b off cs) (i m : Nat) : Seg w b (off + i) ((cs.drop i).take m) := by
  intro j v hv
  rw [List.getElem?_take] at hv
  split at hv
  · rw [List.getElem?_drop] at hv
    have := h (i + j) v hv
    rwa [← Nat.add_assoc] at this
  · cases hv
theorem all_one {l : List Value} (h : l.all Value.oneCell' = true) : ∀ v, v ∈ l → v.oneCell' = true := fun v hv => List.all_eq_true.1 h v hv
structure Kd (α : Type) where
  n : Nat
  rep : (Nat → Prop) → World → α → List Value → Prop
  len : ∀ {F : Nat → Prop} {w : World} {x : α} {cs : List Value}, rep F w x cs → cs.length = n
  mono : ∀ {F F' : Nat → Prop} {w w' : World} {x : α} {cs : List Value}, rep F w x cs → (∀ b, b < w.heap.size → F b → F' b ∧ w'.heap[b]? = w.heap[b]?) → rep F' w' x cs
  one : ∀ {F : Nat → Prop} {w : World} {x : α} {cs : List Value}, rep F w x cs → ∀ v, v ∈ cs → v.oneCell' = true
section
variable {α β : Type} {k : Kd α} {F : Nat → Prop} {B : Nat} {S S' D : Nat → Prop} {w w' : World} {x : α} {cs : List Value}
theorem Kd.wk {F' : Nat → Prop} (h : k.rep F w x cs) (hF : ∀ b, b < w.heap.size → F b → F' b) : k.rep F' w x cs := k.mono h fun b hb hf => ⟨hF b hb hf, rfl⟩
theorem Kd.ch (h : k.rep F w x cs) (c : Ch nb w w') : k.rep F w' x cs := k.mono h fun b hb hf => ⟨hf, c.blk b hb (fun x => x)⟩
theorem Kd.enter (h : k.rep F w x cs) : k.rep (G F w.heap.size nb) w x cs := k.wk h fun _ hb hf => ⟨.inl ⟨hf, hb⟩, fun x => x⟩
theorem Kd.st (h : k.rep (G F B S) w x cs) (c : Ch D w w') (ha : ∀ b, b < w.heap.size → ¬ S b → ¬ D b ∧ ¬ S' b) : k.rep (G F B S') w' x cs :=
  k.mono h fun b hb hf => ⟨⟨hf.1, (ha b hb hf.2).2⟩, c.blk b hb (ha b hb hf.2).1⟩
theorem Kd.back (h : k.rep (fun b => G F B S b ∨ w.heap.size ≤ b) w' x cs) (hS : ∀ b, S b → b < w.heap.size) (hB : B ≤ w.heap.size) : k.rep (G F B S) w' x cs :=
  k.wk h fun b _ hf => hf.elim (fun h => h) fun h => ⟨.inr (by omega), fun hs => by have := hS b hs; omega⟩
theorem Kd.out (h : k.rep (G F B S) w x cs) : k.rep (fun b => F b ∨ B ≤ b) w x cs := k.wk h fun _ _ hf => hf.1.elim (fun h => .inl h.1) .inr
end
@[reducible] def Kd.pure {α : Type} (n : Nat) (enc : α → List Value) (hl : ∀ x, (enc x).length = n) (h1 : ∀ x, (enc x).all Value.oneCell' = true) : Kd α :=
  ⟨n, fun _ _ x cs => cs = enc x, fun h => by rw [h]; exact hl _, fun h _ => h, fun h v hv => by rw [h] at hv; exact List.all_eq_true.1 (h1 _) v hv⟩
def kInt (k : IntKind) : Kd Int := Kd.pure 1 (fun x => [.int k x]) (fun _ => rfl) fun _ => rfl
def kBool : Kd Bool := Kd.pure 1 (fun x => [.bool x]) (fun _ => rfl) fun _ => rfl
def kStr : Kd ByteArray := Kd.pure 1 (fun x => [.string x]) (fun _ => rfl) fun _ => rfl
structure SlR {α : Type} (k : Kd α) (F : Nat → Prop) (w : World) (xs : List α) (v : Value) (b off cap : Nat) : Prop where
  hv : ∃ s, v = .slice (some ⟨b, off, s⟩) xs.length cap ∧ (xs ≠ [] → s = none)
  cap : xs.length ≤ cap
  big : xs.length ≤ 9223372036854775807
  el : ∀ i x, xs[i]? = some x → F b ∧ ∃ cs, k.rep F w x cs ∧ Seg w b (off + i * k.n) cs
def slRep {α : Type} (k : Kd α) (F : Nat → Prop) (w : World) (xs : List α) (v : Value) : Prop :=
  (v = .slice none 0 0 ∧ xs = []) ∨ ∃ b off cap, SlR k F w xs v b off cap
theorem slRep.mono {α : Type} {k : Kd α} {F F' : Nat → Prop} {w w' : World} {xs : List α} {v : Value} (hn : 0 < k.n) (h : slRep k F w xs v)
    (hm : ∀ b, b < w.heap.size → F b → F' b ∧ w'.heap[b]? = w.heap[b]?) : slRep k F' w' xs v := by
  rcases h with h | ⟨b, off, cap, h⟩
  · exact .inl h
  · refine .inr ⟨b, off, cap, h.hv, h.cap, h.big, fun i x hx => ?_⟩
    obtain ⟨hf, cs, hr, hs⟩ := h.el i x hx
    have hl := k.len hr
    have hb : b < w.heap.size := by
      obtain ⟨u, hu⟩ : ∃ u, cs[0]? = some u := ⟨cs[0]'(by omega), by simp⟩
      exact lt_of_cell (hs 0 u hu)
    exact ⟨(hm b hb hf).1, cs, k.mono hr hm, hs.same (hm b hb hf).2⟩
section
variable {α : Type} {k : Kd α} {F : Nat → Prop} {B : Nat} {S S' D : Nat → Prop} {w w' : World} {xs : List α} {v : Value}
theorem slRep.wk {F' : Nat → Prop} (hn : 0 < k.n) (h : slRep k F w xs v) (hF : ∀ b, b < w.heap.size → F b → F' b) : slRep k F' w xs v := h.mono hn fun b hb hf => ⟨hF b hb hf, rfl⟩
theorem slRep.ch (hn : 0 < k.n) (h : slRep k F w xs v) (c : Ch nb w w') : slRep k F w' xs v := h.mono hn fun b hb hf => ⟨hf, c.blk b hb (fun x => x)⟩
theorem slRep.enter (hn : 0 < k.n) (h : slRep k F w xs v) : slRep k (G F w.heap.size nb) w xs v := h.wk hn fun _ hb hf => ⟨.inl ⟨hf, hb⟩, fun x => x⟩
theorem slRep.st (hn : 0 < k.n) (h : slRep k (G F B S) w xs v) (c : Ch D w w') (ha : ∀ b, b < w.heap.size → ¬ S b → ¬ D b ∧ ¬ S' b) : slRep k (G F B S') w' xs v :=
  h.mono hn fun b hb hf => ⟨⟨hf.1, (ha b hb hf.2).2⟩, c.blk b hb (ha b hb hf.2).1⟩
theorem slRep.back (hn : 0 < k.n) (h : slRep k (fun b => G F B S b ∨ w.heap.size ≤ b) w' xs v) (hS : ∀ b, S b → b < w.heap.size) (hB : B ≤ w.heap.size) : slRep k (G F B S) w' xs v :=
  h.wk hn fun b _ hf => hf.elim (fun h => h) fun h => ⟨.inr (by omega), fun hs => by have := hS b hs; omega⟩
theorem slRep.out (hn : 0 < k.n) (h : slRep k (G F B S) w xs v) : slRep k (fun b => F b ∨ B ≤ b) w xs v := h.wk hn fun _ _ hf => hf.1.elim (fun h => .inl h.1) .inr
theorem slRep.big (h : slRep k F w xs v) : xs.length ≤ 9223372036854775807 := by
  rcases h with ⟨_, h⟩ | ⟨b, off, cap, h⟩
  · subst h; simp
  · exact h.big
theorem slRep.one (h : slRep k F w xs v) : v.cells = #[v] ∧ v.oneCell' = true := by
  rcases h with ⟨h, _⟩ | ⟨b, off, cap, h⟩
  · subst h; exact ⟨rfl, rfl⟩
  · obtain ⟨s, e, _⟩ := h.hv
    rw [e]; exact ⟨rfl, rfl⟩
theorem slRep.shape (h : slRep k F w xs v) : ∃ a cap, v = .slice a xs.length cap := by
  rcases h with ⟨h, h'⟩ | ⟨b, off, cap, h⟩
  · subst h'; exact ⟨none, 0, h⟩
  · obtain ⟨s, e, _⟩ := h.hv
    exact ⟨_, _, e⟩
end
def Kd.sl {α : Type} (k : Kd α) (hn : 0 < k.n) : Kd (List α) :=
  ⟨1, fun F w xs cs => ∃ v, cs = [v] ∧ slRep k F w xs v, fun ⟨_, h, _⟩ => by rw [h]; rfl, fun ⟨v, h, hr⟩ hm => ⟨v, h, hr.mono hn hm⟩, fun ⟨v, h, hr⟩ u hu => by rw [h] at hu; simp at hu; subst hu; obtain ⟨a, c, e⟩ := hr.shape; rw [e]; rfl⟩
end Go.Proofs.YtkfhcfkbaaekoaaDoor.K
