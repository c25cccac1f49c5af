/- slices.SortFunc of structs without memory, by the shelf's contract: in the words of this kit. General: no program is named. -/
import Derived.Test.YtkfhcfkbaaekoaaDoorK15
import Derived.Test.YtkfhcfkbaaekoaaDoorS5
import Derived.Shelf.SlSortCmp.NoneTotal
import Derived.Lib.QuietBelow
namespace Go.Proofs.YtkfhcfkbaaekoaaDoor.K
open Go
open Go.Shelf Go.Sort
set_option linter.unusedVariables false
theorem grown_of_ch {w w' : World} (c : Ch nb w w') : ∃ q os', w' = grow (w.drewN q) os' := by
  obtain ⟨p, hp⟩ := regrown_of_below (w := w) (w' := w') ⟨c.os, c.tape, c.output, c.size, fun k hk => c.blk k hk (fun x => x)⟩
  have hd : w'.drawn = p.d := by rw [hp]; rfl
  have := c.drawn
  refine ⟨p.d - w.drawn, p.os, hp.trans ?_⟩
  unfold redrawn World.drewN
  rw [show w.drawn + (p.d - w.drawn) = p.d by omega]
section
variable {α : Type} {n : Nat} {enc : α → List Value} {hl : ∀ x, (enc x).length = n} {h1 : ∀ x, (enc x).all Value.oneCell' = true} {T : TypeId} {F S R : Nat → Prop} {B : Nat} {w w' : World} {xs : List α} {v : Value}
theorem flat_get [Inhabited α] (hn : 0 < n) {cs : List Value} (h : Row (Kd.pure n enc hl h1) R w xs cs) (j : Nat) (hj : j < xs.length * n) : cs[j]? = some ((flatK enc n xs.toArray)[j]!) := by
  have hi : j / n < xs.length := by rw [Nat.div_lt_iff_lt_mul hn]; exact hj
  obtain ⟨c, hc, hh⟩ := h.el (j / n) xs[j / n] (List.getElem?_eq_getElem hi)
  have hc : c = enc xs[j / n] := hc
  subst hc
  have hm : j % n < (enc xs[j / n]).length := by rw [hl]; exact Nat.mod_lt _ hn
  have := hh (j % n) _ (List.getElem?_eq_getElem hm)
  have e : j / n * (Kd.pure n enc hl h1).n + j % n = j := by show j / n * n + j % n = j; rw [Nat.mul_comm]; exact Nat.div_add_mod j n
  rw [e] at this
  rw [this, get_flatK enc n _ j (by simpa using hj)]
  rw [getElem!_pos xs.toArray (j / n) (by simpa using hi)]
  simp only [List.getElem_toArray]
  rw [getElem!_pos (enc xs[j / n]) (j % n) hm]
theorem row_flat [Inhabited α] (hn : 0 < n) (ys : List α) (cs : List Value) (hc : cs.length = ys.length * n) (h : ∀ j, j < ys.length * n → cs[j]? = some ((flatK enc n ys.toArray)[j]!)) : Row (Kd.pure n enc hl h1) R w ys cs := by
  refine ⟨hc, fun i x hx => ⟨enc x, rfl, fun j u hu => ?_⟩⟩
  have hi := lt_of_get hx
  have hj : j < n := by have := lt_of_get hu; rwa [hl] at this
  have hlt : i * n + j < ys.length * n := by
    calc i * n + j < i * n + n := by omega
      _ = (i + 1) * n := by rw [Nat.add_mul, Nat.one_mul]
      _ ≤ ys.length * n := Nat.mul_le_mul_right _ hi
  show cs[i * n + j]? = some u
  rw [h _ hlt, get_flatK enc n _ _ (by simpa using hlt)]
  have e1 : (i * n + j) / n = i := by rw [Nat.mul_comm, Nat.mul_add_div hn, Nat.div_eq_of_lt hj]; rfl
  have e2 : (i * n + j) % n = j := by rw [Nat.mul_comm, Nat.mul_add_mod]; exact Nat.mod_eq_of_lt hj
  rw [e1, e2, getElem!_pos ys.toArray i (by simpa using hi)]
  have hxi : ys[i] = x := by rw [List.getElem?_eq_getElem hi] at hx; exact Option.some.inj hx
  simp only [List.getElem_toArray, hxi]
  have hjx : j < (enc x).length := by rw [hl]; exact hj
  rw [getElem!_pos (enc x) j hjx]
  rw [List.getElem?_eq_getElem hjx] at hu; exact hu
theorem sortF_ret {P : Program} {ρ : Ren} (hl : ∀ x, (enc x).length = n) (h1 : ∀ x, (enc x).all Value.oneCell' = true) (L : SlLaysF0.n6 P ρ) (hn : 0 < n) (aE : ∀ w, (isAgg (ρ.t 24)).run P w = .ok true w) (zE : ∀ w, (Go.sizeOf (ρ.t 24)).run P w = .ok n w) {cf : α → α → Int} {fv : Value} {r : List α}
    (h : SlO (Kd.pure n enc hl h1) T F B S w xs v) (hf : (Kd.fn2 P true true (Kd.pure n enc hl h1) (Kd.pure n enc hl h1) (Value.int .i64)).rep R w cf [fv]) (hR : ∀ b, R b → ¬ inBlk v b) (hs : sortO xs cf = some r) :
    Ret P (ρ.f 6) #[v, fv] w fun u w' => u = .tuple #[] ∧ SlO (Kd.pure n enc hl h1) T F B S w' r v ∧ Ch (inBlk v) w w' := by
  rcases h.blk with ⟨rfl, rfl⟩ | ⟨g, cap, cur, rfl, hb, hlen, hcap, hg, hm, hrow⟩
  · obtain rfl := Option.some.inj hs
    refine Calls.mono (AnyF.slices_SortFunc_none L none 0 fv w) ?_
    rintro e w' ⟨rfl, rfl⟩
    exact ⟨_, rfl, rfl, h, Ch.refl⟩
  · cases xs with
    | nil =>
      obtain rfl := Option.some.inj hs
      refine Calls.mono (AnyF.slices_SortFunc_none L _ cap fv w) ?_
      rintro e w' ⟨rfl, rfl⟩
      exact ⟨_, rfl, rfl, h, Ch.refl⟩
    | cons x0 xr =>
      letI : Inhabited α := ⟨x0⟩
      generalize hxs : x0 :: xr = xs at *
      have hO : SWO (ltC cf) := by
        subst hxs
        rw [sortO] at hs
        split at hs
        · assumption
        · cases hs
      have hr : r = (pdq (ltC cf) xs.toArray 0 xs.length (Go.Lib.bitLen xs.length) true true).toList := by
        subst hxs
        rw [sortO, if_pos hO] at hs
        exact (Option.some.inj hs).symm
      have hp := pdq_sorts (ltC cf) hO xs.toArray 0 xs.length (Go.Lib.bitLen xs.length) true true (Nat.zero_le _) (by simp) (Or.inl rfl)
      have hrl : r.length = xs.length := by rw [hr, Array.length_toList, hp.1.1]; simp
      obtain ⟨gf, cb, hfe, hen, hcall⟩ := hf
      obtain rfl := (List.cons.inj hfe).1
      have hb' : w.heap[g]? = some (.cells cur.toArray T (0, 0)) := hb
      have hlt : g < w.heap.size := hb.lt
      have hlen' : cur.length = cap * n := hlen
      have hxl : xs.length * n ≤ cur.length := by rw [hlen']; exact Nat.mul_le_mul_right _ hcap
      have hH : HoldsK enc n w g 0 xs.toArray := by
        intro j hj
        rw [size_flatK] at hj
        have hj' : j < xs.length * n := by simpa using hj
        refine ⟨?_, by simp [World.frozen?, hb']⟩
        have := flat_get hn hrow j hj'
        have e0 : (Kd.pure n enc hl h1).n = n := rfl
        rw [e0, List.getElem?_take, if_pos hj'] at this
        simp only [World.cell?, hb', Nat.zero_add, Option.isSome_none, Bool.false_eq_true, if_false]
        rw [List.getElem?_toArray, this]; rfl
      have hsame : ∀ (m : Nat) (os : Array Obj) (dk : Array α) (b : Nat), b < w.heap.size → b ≠ g → (sortWorldK enc n w g 0 m dk os).heap[b]? = w.heap[b]? := by
        intro m os dk b hbl hne
        unfold sortWorldK putRowK
        rw [heap_grow_old _ _ (by simpa using hbl)]
        simp [putRow, mapBlock, Sort.ahead, Array.getElem?_modify, hne.symm]
      have hsz : ∀ (m : Nat) (os : Array Obj) (dk : Array α), w.heap.size ≤ (sortWorldK enc n w g 0 m dk os).heap.size := by
        intro m os dk
        unfold sortWorldK putRowK
        simp [grow]
      have hcmp : CmpLays P gf cb.toArray enc n cf g 0 xs.toArray.size w := by
        intro m os dk hdk x y
        have := hcall (sortWorldK enc n w g 0 m dk os) (fun b hbl hrb => ⟨Nat.lt_of_lt_of_le hbl (hsz m os dk), hsame m os dk b hbl (fun e => hR b hrb (by rw [e]; rfl))⟩) nb x y (enc x) (enc y) rfl rfl
        have e : (Kd.val true (enc x) :: Kd.val true (enc y) :: cb).toArray = #[.agg (enc x).toArray, .agg (enc y).toArray] ++ cb.toArray := by
          show (Value.agg (enc x).toArray :: Value.agg (enc y).toArray :: cb).toArray = _
          apply Array.ext'; simp
        rw [e] at this
        refine Calls.mono this ?_
        rintro ee w2 ⟨u, rfl, rfl, c⟩
        exact ⟨rfl, grown_of_ch c⟩
      have hbig := h.big
      have hcon := AnyQ.slices_SortFunc_eq L n aE zE enc hl (fun x v hv => List.all_eq_true.1 (h1 x) v hv) cf hO gf cb.toArray g 0 cap xs.toArray w hen hcmp hH hlt (by simp only [List.size_toArray]; omega)
      have e1 : xs.toArray.size = xs.length := by simp
      rw [e1] at hcon
      refine Calls.mono hcon ?_
      rintro e w' ⟨rfl, m, os, rfl⟩
      have hd : pdq (ltOf cf) xs.toArray 0 xs.length (Go.Lib.bitLen xs.length) true true = r.toArray := by rw [hr]; rfl
      have hd' : pdq (ltOf cf) xs.toArray 0 xs.length (Lib.bitLen xs.length) true true = r.toArray := hd
      rw [hd']
      refine ⟨_, rfl, rfl, ?_, ?_⟩
      · have hheap : (sortWorldK enc n w g 0 m r.toArray os).heap[g]? = some (.cells (putCells id 0 (flatK enc n r.toArray) cur.toArray) T (0, 0)) := by
          unfold sortWorldK putRowK
          rw [heap_grow_old _ _ (by simpa using hlt)]
          simp [putRow, mapBlock, Sort.ahead, Array.getElem?_modify, hb', onCells]
        have hps : (putCells id 0 (flatK enc n r.toArray) cur.toArray).size = cap * n := by simp [putCells, hlen']
        have htl : ((putCells id 0 (flatK enc n r.toArray) cur.toArray).toList.take (r.length * n)).length = r.length * n := by
          rw [List.length_take, show (putCells id 0 (flatK enc n r.toArray) cur.toArray).toList.length = cap * n from hps, hrl]; exact Nat.min_eq_left (by rw [← hlen']; exact hxl)
        refine ⟨⟨(putCells id 0 (flatK enc n r.toArray) cur.toArray).toList.take (r.length * n), ⟨htl, .inr ⟨g, cap, _, by rw [hrl], hg, hheap, by rw [hrl]; exact hcap, hm, hps, rfl⟩⟩, row_flat hn r _ htl ?_⟩, by rw [hrl]; exact hbig, h.mine⟩
        intro j hj
        have hjc : j < cur.length := by rw [hrl] at hj; omega
        rw [List.getElem?_take, if_pos hj, Array.getElem?_toList]
        simp only [putCells, Array.getElem?_mapIdx, List.getElem?_toArray, List.getElem?_eq_getElem hjc, Option.map_some]
        rw [if_pos ⟨Nat.zero_le _, by simpa using hj⟩]; rfl
      · have := hsz m os r.toArray
        refine ⟨rfl, rfl, rfl, ?_, this, fun b hbl hne => hsame m os r.toArray b hbl (fun e => hne (by rw [e]; rfl))⟩
        show w.drawn ≤ w.drawn + m
        omega
end
end Go.Proofs.YtkfhcfkbaaekoaaDoor.K
