/- slices.Sort of strings, by the shelf's contract: in the words of this kit. General: no program is named. -/
import Derived.Test.YtlebjaljlhcbkaaK11
import Derived.Shelf.Sort.Plain
import Derived.Shelf.Slices.In.SortNone
import Derived.Sort.OwnSorted
import Derived.Lib.OwnBridge
namespace Go.Proofs.Ytlebjaljlhcbkaa.K
open Go
open Go.Proofs (encStr)
open Go.Shelf Go.Sort
set_option linter.unusedVariables false

section
variable {T : TypeId} {F S : Nat → Prop} {B : Nat} {w w' : World} {xs : List ByteArray} {v : Value}

theorem row_str {R : Nat → Prop} : ∀ {xs : List ByteArray} {cs : List Value}, Row kStr R w xs cs → cs = xs.map Value.string
  | xs, cs, h => by
    apply List.ext_getElem?
    intro i
    have hl : cs.length = xs.length := by have := h.len; simpa [kStr] using this
    rcases Nat.lt_or_ge i xs.length with hi | hi
    · obtain ⟨c, hc, hj⟩ := h.el i xs[i] (List.getElem?_eq_getElem hi)
      have hc' : c = [.string xs[i]] := hc
      subst hc'
      have := hj 0 (.string xs[i]) rfl
      have e : i * kStr.n + 0 = i := by show i * 1 + 0 = i; omega
      rw [e] at this
      rw [this, List.getElem?_map, List.getElem?_eq_getElem hi]; rfl
    · rw [List.getElem?_eq_none (by omega), List.getElem?_eq_none (by simpa using hi)]
theorem str_row {R : Nat → Prop} (xs : List ByteArray) : Row kStr R w xs (xs.map Value.string) := by
  refine ⟨by show _ = xs.length * 1; simp, fun i x hx => ⟨[.string x], rfl, fun j u hu => ?_⟩⟩
  cases j with
  | zero =>
    simp at hu; subst hu
    show (xs.map Value.string)[i * 1 + 0]? = _
    simp [hx]
  | succ j => simp at hu

theorem sortStr_ret {P : Program} {ρ : Ren} (Ly : Go.Proofs.Lays.n190 P ρ) (h : SlO kStr T F B S w xs v) (hS : ∀ b, S b → b < w.heap.size) :
    Ret P (ρ.f 190) #[v] w fun u w' => u = .tuple #[] ∧ SlO kStr T F B S w' (sortS xs) v ∧ Ch (inBlk v) w w' := by
  rcases h.blk with ⟨rfl, rfl⟩ | ⟨g, cap, cur, rfl, hb, hl, hcap, hg, hm, hrow⟩
  · refine Calls.mono (Go.Proofs.Any.slices_Sort_string_none Ly none 0 w) ?_
    rintro e w' ⟨rfl, rfl⟩
    exact ⟨_, rfl, rfl, by simpa [sortS] using h, Ch.refl⟩
  · have hc := row_str hrow
    have hl1 : cur.length = cap := by rw [hl]; exact Nat.mul_one cap
    have hb' : w.heap[g]? = some (.cells cur.toArray T (0, 0)) := hb
    have hn : kStr.n = 1 := rfl
    rw [hn, Nat.mul_one] at hc
    have hcs : cur.toArray.toList.take (xs.map (·.data.toList)).length = (xs.map (·.data.toList)).map encStr := by
      rw [List.length_map, List.map_map]
      refine hc.trans (List.map_congr_left fun x _ => ?_)
      simp [encStr]
    have hlt : g < w.heap.size := hb.lt
    have hbig := h.big
    have hlen : (xs.map (·.data.toList)).length = xs.length := List.length_map _
    have hcall := Go.Proofs.Any.slices_Sort_string Ly g 0 cap (xs.map (·.data.toList)) w (holds_of_block hb' hcs) hlt (by rw [hlen]; omega)
    rw [hlen] at hcall
    refine Calls.mono hcall ?_
    rintro e w' ⟨rfl, n, os, rfl⟩
    have hts : ((xs.map (·.data.toList)).mergeSort fun x y => decide (x ≤ y)).length = (xs.map (·.data.toList)).length := List.length_mergeSort _
    have ho := ownsRow_sorted (n := n) (os := os) hts hg hb' (by rw [hlen]; exact hcap) hm (by rw [Nat.mul_one]; simpa using hl1)
    rw [hlen] at ho
    have hsl : (sortS xs).length = xs.length := by unfold sortS; rw [List.length_map, hts, hlen]
    have hse : (sortS xs).map Value.string = ((xs.map (·.data.toList)).mergeSort fun x y => decide (x ≤ y)).map encStr := by
      unfold sortS; rw [List.map_map]; rfl
    have hgb := grownBy_sorted (w := w) (g := g) (n := n) (os := os) ((xs.map (·.data.toList)).mergeSort fun x y => decide (x ≤ y)).toArray
    refine ⟨_, rfl, rfl, ⟨⟨(sortS xs).map Value.string, ?_, str_row _⟩, by rw [hsl]; exact hbig, h.mine⟩, ⟨hgb.os, hgb.tape, hgb.output, hgb.size, fun b hbl hne => hgb.block b hbl ?_⟩⟩
    · rw [hsl, hse]; exact ho
    · rintro e; cases e; exact hne rfl
end
end Go.Proofs.Ytlebjaljlhcbkaa.K
