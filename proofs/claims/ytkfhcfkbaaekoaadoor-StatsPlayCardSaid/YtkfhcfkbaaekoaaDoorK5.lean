/- Slices of one's own: literals, append; structs that are built. General: no program is named. -/
import Derived.Test.YtkfhcfkbaaekoaaDoorK4
namespace Go.Proofs.YtkfhcfkbaaekoaaDoor.K
open Go
set_option linter.unusedVariables false
structure Row {α : Type} (k : Kd α) (R : Nat → Prop) (w : World) (xs : List α) (cs : List Value) : Prop where
  len : cs.length = xs.length * k.n
  el : ∀ i x, xs[i]? = some x → ∃ c, k.rep R w x c ∧ ∀ j u, c[j]? = some u → cs[i * k.n + j]? = some u
theorem lt_of_get {α : Type} {l : List α} {i : Nat} {x : α} (h : l[i]? = some x) : i < l.length := by
  rcases Nat.lt_or_ge i l.length with h' | h'
  · exact h'
  · rw [List.getElem?_eq_none h'] at h; cases h
section
variable {α : Type} {k : Kd α} {R R' : Nat → Prop} {w w' : World} {xs ys : List α} {cs ds : List Value}
theorem Row.nil : Row k R w [] [] := ⟨by simp, fun i x h => by simp at h⟩
theorem Row.mono (h : Row k R w xs cs) (hm : ∀ b, b < w.heap.size → R b → R' b ∧ w'.heap[b]? = w.heap[b]?) : Row k R' w' xs cs :=
  ⟨h.len, fun i x hx => let ⟨c, hc, hj⟩ := h.el i x hx; ⟨c, k.mono hc hm, hj⟩⟩
theorem Row.append (h : Row k R w xs cs) (h' : Row k R w ys ds) : Row k R w (xs ++ ys) (cs ++ ds) := by
  refine ⟨by rw [List.length_append, List.length_append, h.len, h'.len, Nat.add_mul], fun i x hx => ?_⟩
  rcases Nat.lt_or_ge i xs.length with hi | hi
  · rw [List.getElem?_append_left hi] at hx
    obtain ⟨c, hc, hj⟩ := h.el i x hx
    refine ⟨c, hc, fun j u hu => ?_⟩
    rw [List.getElem?_append_left (lt_of_get (hj j u hu))]; exact hj j u hu
  · rw [List.getElem?_append_right hi] at hx
    obtain ⟨c, hc, hj⟩ := h'.el _ x hx
    refine ⟨c, hc, fun j u hu => ?_⟩
    have e : i * k.n + j = cs.length + ((i - xs.length) * k.n + j) := by
      rw [h.len, ← Nat.add_assoc, ← Nat.add_mul]; congr 2; omega
    rw [e, List.getElem?_append_right (by omega), Nat.add_sub_cancel_left]; exact hj j u hu
theorem Row.one (hn : 0 < k.n) (h : Row k R w xs cs) : ∀ v, v ∈ cs → v.oneCell' = true := by
  intro v hv
  obtain ⟨p, hp, rfl⟩ := List.mem_iff_getElem.1 hv
  have hlt : p / k.n < xs.length := by
    rw [Nat.div_lt_iff_lt_mul hn, ← h.len]; exact hp
  obtain ⟨c, hc, hj⟩ := h.el (p / k.n) xs[p / k.n] (by simp [hlt])
  have hl := k.len hc
  have hm : p % k.n < c.length := by rw [hl]; exact Nat.mod_lt _ hn
  have := hj (p % k.n) c[p % k.n] (by simp [hm])
  rw [Nat.mul_comm, Nat.div_add_mod] at this
  rw [List.getElem?_eq_getElem hp] at this
  have e := Option.some.inj this
  rw [e]; exact k.one hc _ (List.getElem_mem hm)
theorem Row.cons1 {x : α} {c : List Value} (h : k.rep R w x c) : Row k R w [x] c := by
  refine ⟨by rw [k.len h]; simp, fun i y hy => ?_⟩
  cases i with
  | zero => simp at hy; subst hy; exact ⟨c, h, fun j u hu => by simpa using hu⟩
  | succ i => simp at hy
theorem slRep.row (hn : 0 < k.n) {v : Value} (h : slRep k R w xs v) : (∃ a cap, v = .slice a 0 cap ∧ xs = []) ∨ ∃ b o cap cs, v = .slice (some ⟨b, o, none⟩) xs.length cap ∧ xs.length ≤ cap ∧ (xs ≠ [] → R b) ∧ Row k R w xs cs ∧ Seg w b o cs := by
  rcases h with ⟨h1, h2⟩ | ⟨b, off, cap, h⟩
  · exact .inl ⟨none, 0, h1, h2⟩
  obtain ⟨s, hv, hs0⟩ := h.hv
  by_cases hx : xs = []
  · subst hx; exact .inl ⟨_, _, hv, rfl⟩
  obtain rfl := hs0 hx
  refine .inr ⟨b, off, cap, (List.range (xs.length * k.n)).map fun p => (w.cell? ⟨b, off + p, none⟩).getD undef, hv, h.cap, ?_, ⟨by simp, fun i x hx => ?_⟩, ?_⟩
  · intro hne
    cases hxs : xs with
    | nil => exact absurd hxs hne
    | cons x r => exact (h.el 0 x (by rw [hxs]; rfl)).1
  · obtain ⟨hf, c, hc, hs⟩ := h.el i x hx
    refine ⟨c, hc, fun j u hu => ?_⟩
    have hi := lt_of_get hx
    have hj := lt_of_get hu
    rw [k.len hc] at hj
    have hlt : i * k.n + j < xs.length * k.n := by
      calc i * k.n + j < i * k.n + k.n := by omega
        _ = (i + 1) * k.n := by rw [Nat.add_mul, Nat.one_mul]
        _ ≤ xs.length * k.n := Nat.mul_le_mul_right _ hi
    have := hs j u hu
    rw [List.getElem?_map, List.getElem?_range hlt]
    simp only [Option.map_some]
    rw [← Nat.add_assoc, this]; rfl
  · intro j u hu
    rw [List.getElem?_map] at hu
    rcases Nat.lt_or_ge j (xs.length * k.n) with hj | hj
    · rw [List.getElem?_range hj] at hu
      simp only [Option.map_some, Option.some.injEq] at hu
      have hlt : j / k.n < xs.length := by rw [Nat.div_lt_iff_lt_mul hn]; exact hj
      obtain ⟨hf, c, hc, hs⟩ := h.el (j / k.n) xs[j / k.n] (by simp [hlt])
      have hm : j % k.n < c.length := by rw [k.len hc]; exact Nat.mod_lt _ hn
      have := hs (j % k.n) c[j % k.n] (by simp [hm])
      have e : off + j / k.n * k.n + j % k.n = off + j := by rw [Nat.add_assoc, Nat.mul_comm, Nat.div_add_mod]
      rw [e] at this
      rw [this] at hu ⊢
      rw [← hu]; rfl
    · rw [List.getElem?_eq_none (by simpa using hj)] at hu; cases hu
theorem Row.sl {b o cap : Nat} (hcap : xs.length ≤ cap) (hbig : xs.length ≤ 9223372036854775807) (h : Row k R w xs cs) (hs : Seg w b o cs) (hb : R b) : slRep k R w xs (.slice (some ⟨b, o, none⟩) xs.length cap) :=
  .inr ⟨b, o, cap, ⟨none, rfl, fun _ => rfl⟩, hcap, hbig, fun i x hx => ⟨hb, let ⟨c, hc, hj⟩ := h.el i x hx; ⟨c, hc, fun j u hu => by
    have := hs _ u (hj j u hu); rwa [← Nat.add_assoc] at this⟩⟩⟩
end
def inBlk : Value → Nat → Prop
  | .slice (some a) _ _, b => a.block = b
  | .pointer (some a), b => a.block = b
  | .map (some r), b => r = b
  | .tuple vs, b => Value.map (some b) ∈ vs.toList
  | _, _ => False
structure SlO {α : Type} (k : Kd α) (T : TypeId) (F : Nat → Prop) (B : Nat) (S : Nat → Prop) (w : World) (xs : List α) (v : Value) : Prop where
  row : ∃ cs, w.ownsRow B T k.n v xs.length cs ∧ Row k (G F B S) w xs cs
  big : xs.length ≤ 4294967296
  mine : ∀ b, inBlk v b → S b
section
variable {α : Type} {k : Kd α} {T : TypeId} {F : Nat → Prop} {B : Nat} {S S' D : Nat → Prop} {w w' : World} {xs ys : List α} {v u : Value}
theorem ownBlock_inBlk {v : Value} {n : Nat} {T s : Nat} {cs : List Value} (h : w.ownsRow B T s v n cs) (b : Nat) : v.ownBlock = some b ↔ inBlk v b := by
  rcases h.2 with ⟨rfl, _⟩ | ⟨g, cap, cur, rfl, _⟩ <;> simp [Value.ownBlock, inBlk]
theorem SlO.lt (h : SlO k T F B S w xs v) : ∀ b, inBlk v b → B ≤ b ∧ b < w.heap.size := by
  obtain ⟨cs, h1, h2⟩ := h.row
  intro b hb
  exact h1.lt b ((ownBlock_inBlk h1 b).2 hb)
theorem SlO.one (h : SlO k T F B S w xs v) : v.cells = #[v] ∧ v.oneCell' = true := by
  obtain ⟨cs, h1, h2⟩ := h.row
  rcases h1.2 with ⟨rfl, _⟩ | ⟨g, cap, cur, rfl, _⟩ <;> exact ⟨rfl, rfl⟩
theorem SlO.nil : SlO k T F B S w [] (.slice none 0 0) := ⟨⟨[], World.ownsRow_nil _ _ _ _, Row.nil⟩, by simp, fun b hb => hb.elim⟩
theorem SlO.st (h : SlO k T F B S w xs v) (c : Ch D w w') (hv : ∀ b, inBlk v b → ¬ D b) (ha : ∀ b, b < w.heap.size → ¬ S b → ¬ D b ∧ ¬ S' b) (hS : ∀ b, inBlk v b → S' b) : SlO k T F B S' w' xs v := by
  obtain ⟨cs, h1, h2⟩ := h.row
  refine ⟨⟨cs, ?_, h2.mono fun b hb hf => ⟨⟨hf.1, (ha b hb hf.2).2⟩, c.blk b hb (ha b hb hf.2).1⟩⟩, h.big, hS⟩
  refine ⟨h1.1, h1.2.imp id ?_⟩
  rintro ⟨g, cap, cur, e, hg, hp, hr⟩
  have hb : inBlk v g := by rw [e]; rfl
  exact ⟨g, cap, cur, e, hg, by rw [c.blk g (h.lt g hb).2 (hv g hb)]; exact hp, hr⟩
theorem SlO.read (hn : 0 < k.n) (h : SlO k T F B S w xs v) (hF : ∀ b, ¬ S b → ¬ S' b) (hv : ∀ b, inBlk v b → ¬ S' b) : slRep k (G F B S') w xs v := by
  obtain ⟨cs, h1, h2⟩ := h.row
  have hl := h.lt
  have hb := h.big
  rcases h1.2 with ⟨rfl, h0⟩ | ⟨g, cap, cur, rfl, hg, hp, hnc, hcm, hcs, ht⟩
  · exact .inl ⟨rfl, List.eq_nil_of_length_eq_zero h0⟩
  · refine (h2.mono fun b _ hf => ⟨⟨hf.1, hF b hf.2⟩, rfl⟩).sl hnc (by omega) (fun j u hu => ?_) ⟨.inr (hl g rfl).1, hv g rfl⟩
    rw [Nat.zero_add]
    have hlt := lt_of_get hu
    rw [← ht] at hu
    have : cur.toList[j]? = some u := by
      rw [List.getElem?_take] at hu
      split at hu
      · exact hu
      · cases hu
    simp [World.cell?, hp]
    simpa using this
theorem SlO.back {F0 : Nat → Prop} {B0 : Nat} {w0 : World} (h : SlO k T (G F0 B0 S) w0.heap.size (inBlk v) w' xs v) (hS : ∀ b, S b → b < w0.heap.size) (hB : B0 ≤ w0.heap.size) (hS' : ∀ b, S' b ↔ S b ∨ inBlk v b) : SlO k T F0 B0 S' w' xs v := by
  obtain ⟨cs, h1, h2⟩ := h.row
  refine ⟨⟨cs, ⟨h1.1, h1.2.imp id ?_⟩, h2.mono fun b hb hf => ⟨⟨?_, ?_⟩, rfl⟩⟩, h.big, fun b hb => (hS' b).2 (.inr hb)⟩
  · rintro ⟨g, cap, cur, e, hg, hr⟩
    exact ⟨g, cap, cur, e, Nat.le_trans hB hg, hr⟩
  · rcases hf.1 with hf | hf
    · exact hf.1.1
    · exact .inr (by omega)
  · intro hs
    rcases (hS' b).1 hs with h | h
    · rcases hf.1 with hf | hf
      · exact hf.1.2 h
      · have := hS b h; omega
    · exact hf.2 h
theorem SlO.backR {F0 : Nat → Prop} {B0 : Nat} {w0 : World} (hn : 0 < k.n) (h : SlO k T (G F0 B0 S) w0.heap.size (inBlk v) w' xs v) (hS : ∀ b, S b → b < w0.heap.size) (hB : B0 ≤ w0.heap.size) : slRep k (G F0 B0 S) w' xs v :=
  (h.back (S' := fun b => S b ∨ inBlk v b) hS hB fun _ => Iff.rfl).read hn (fun b hb hs => hb (.inl hs)) fun b hb hs => by
    have h1 := hS b hs
    have := (h.lt b hb).1
    omega
theorem SlO.out (h : SlO k T F B S w xs v) : SlO k T F B (inBlk v) w xs v := by
  obtain ⟨cs, h1, h2⟩ := h.row
  exact ⟨⟨cs, h1, h2.mono fun b hb hf => ⟨⟨hf.1, fun x => hf.2 (h.mine b x)⟩, rfl⟩⟩, h.big, fun b hb => hb⟩
structure AppT (P : Program) (t e : TypeId) (m : Nat) : Prop where
  und : P.underlying t = some (.slice e)
  info : ∃ i z, P.info? e = some i ∧ i.zero = some z ∧ i.size = m ∧ Nat.ble i.bytes 32768 = true ∧ z.cells.size = m
  
theorem SlO.append {P : Program} {t ty : TypeId} {S2 : Nat → Prop} (hn : 0 < k.n) (hT : AppT P t T k.n) (h : SlO k T F B (un (inBlk v) S2) w xs v) (hy : slRep k (G F B (un (inBlk v) S2)) w ys u)
    (hl : xs.length + ys.length < 4294967296) (hB : B ≤ w.heap.size) (hd : ∀ b, S2 b → b < w.heap.size) :
    ∃ v' w', (Builtin.append_ #[t, t] ty #[v, u]).run P w = .ok v' w' ∧ SlO k T F B (un (inBlk v') S2) w' (xs ++ ys) v' ∧ Ch (inBlk v) w w' ∧ (∀ b, inBlk v' b → inBlk v b ∨ w.heap.size ≤ b) := by
  obtain ⟨cs, h1, h2⟩ := h.row
  obtain ⟨i, z, hi, hz, hs, hby, hzs⟩ := hT.info
  have hby' := Nat.le_of_ble_eq_true hby
  rcases hy.row hn with ⟨a, cp, rfl, rfl⟩ | ⟨b, o, cap, ds, rfl, hcap, hR, hr, hsg⟩
  · -- nothing is appended
    refine ⟨v, w, ?_, by simpa using h, Ch.refl, fun b hb => .inl hb⟩
    rcases h1.2 with ⟨rfl, h0⟩ | ⟨g, cap, cur, rfl, hg, hp, hnc, hcm, hcs, ht⟩
    · cases a <;> simp [Builtin.append_, run_underlying hT.und, sizeOf, typeInfo, hi, Builtin.lenOf, Builtin.firstCells, loadCells, loadCellsFrom]
    · cases a <;> simp [Builtin.append_, run_underlying hT.und, sizeOf, typeInfo, hi, Builtin.lenOf, Builtin.firstCells, hnc, storeCells, loadCells, loadCellsFrom]
  · have hmul : (xs.length + ys.length) * i.bytes ≤ 140737488355328 :=
      Nat.le_trans (Nat.mul_le_mul (Nat.le_of_lt hl) hby') (by decide)
    obtain ⟨v', w', hrun, hown, hgr, _⟩ := run_append_own (P := P) w B t ty T i z k.n i.bytes hT.und hi hz hs rfl hzs hn v xs.length cs h1 ⟨b, o, none⟩ ys.length cap ds hr.len
      (fun j u hu => by rw [Addr_add]; exact hsg j u hu) (hr.one hn) (by simp only [maxLen]; omega) hmul hB
    have hdrawn : w.drawn ≤ w'.drawn := by
      have hnews : ∀ j u, ds[j]? = some u → w.cell? ((⟨b, o, none⟩ : Addr).add j) = some u := fun j u hu => by rw [Addr_add]; exact hsg j u hu
      rcases h1.2 with ⟨rfl, h0⟩ | ⟨g, cp, cur, rfl, hg, hp, hnc, hcm, hcs, ht⟩
      · rcases Nat.eq_zero_or_pos ys.length with hy0 | hy0
        · skip
          have e0 : (Builtin.append_ #[t, t] ty #[.slice none 0 0, .slice (some ⟨b, o, none⟩) ys.length cap]).run P w = .ok (.slice none 0 0) w := by
            simp [Builtin.append_, run_underlying hT.und, sizeOf, typeInfo, hi, Builtin.lenOf, hy0, Builtin.firstCells, loadCells, loadCellsFrom]
          rw [e0] at hrun
          simp only [Result.ok.injEq] at hrun
          rw [← hrun.2]; exact Nat.le_refl _
        · have e0 := run_append_nil (P := P) w t ty T i z hT.und hi hz ⟨b, o, none⟩ ys.length cap ds (by rw [hs]; exact hr.len) hnews hy0 (by omega) (by have := hmul; rw [Nat.add_mul] at this; omega)
          rw [e0] at hrun
          simp only [Result.ok.injEq] at hrun
          rw [← hrun.2]
          exact Nat.le_succ _
      · by_cases hroom : xs.length + ys.length ≤ cp
        · have hfit : xs.length * i.size + ds.length ≤ cur.size := by rw [hs, hr.len, hcs, ← Nat.add_mul]; exact Nat.mul_le_mul_right _ hroom
          have e0 := run_append_room (P := P) w t ty T i hT.und hi g xs.length cp cur hp ⟨b, o, none⟩ ys.length cap ds (by rw [hs]; exact hr.len) hnews (hr.one hn) hroom hfit
          rw [e0] at hrun
          simp only [Result.ok.injEq] at hrun
          rw [← hrun.2]; exact Nat.le_refl _
        · have e0 := run_append_grow (P := P) w t ty T i z hT.und hi hz ⟨g, 0, none⟩ xs.length cp cs (by rw [hs]; exact h1.1) (h1.cells rfl) ⟨b, o, none⟩ ys.length cap ds (by rw [hs]; exact hr.len) hnews (by omega) (by omega)
            (growslice_fits (by omega) hmul)
          rw [e0] at hrun
          simp only [Result.ok.injEq] at hrun
          rw [← hrun.2]
          exact Nat.le_succ _
    have hfresh : ∀ c, inBlk v' c → inBlk v c ∨ w.heap.size ≤ c := by
      have hnews : ∀ j u, ds[j]? = some u → w.cell? ((⟨b, o, none⟩ : Addr).add j) = some u := fun j u hu => by rw [Addr_add]; exact hsg j u hu
      intro c hc
      rcases h1.2 with ⟨rfl, h0⟩ | ⟨g, cp, cur, rfl, hg, hp, hnc, hcm, hcs, ht⟩
      · rcases Nat.eq_zero_or_pos ys.length with hy0 | hy0
        · exfalso
          have e0 : (Builtin.append_ #[t, t] ty #[.slice none 0 0, .slice (some ⟨b, o, none⟩) ys.length cap]).run P w = .ok (.slice none 0 0) w := by
            simp [Builtin.append_, run_underlying hT.und, sizeOf, typeInfo, hi, Builtin.lenOf, hy0, Builtin.firstCells, loadCells, loadCellsFrom]
          rw [e0] at hrun
          simp only [Result.ok.injEq] at hrun
          rw [← hrun.1] at hc; exact hc
        · have e0 := run_append_nil (P := P) w t ty T i z hT.und hi hz ⟨b, o, none⟩ ys.length cap ds (by rw [hs]; exact hr.len) hnews hy0 (by omega) (by have := hmul; rw [Nat.add_mul] at this; omega)
          rw [e0] at hrun
          simp only [Result.ok.injEq] at hrun
          rw [← hrun.1] at hc
          exact .inr (by simp only [inBlk] at hc; omega)
      · by_cases hroom : xs.length + ys.length ≤ cp
        · have hfit : xs.length * i.size + ds.length ≤ cur.size := by rw [hs, hr.len, hcs, ← Nat.add_mul]; exact Nat.mul_le_mul_right _ hroom
          have e0 := run_append_room (P := P) w t ty T i hT.und hi g xs.length cp cur hp ⟨b, o, none⟩ ys.length cap ds (by rw [hs]; exact hr.len) hnews (hr.one hn) hroom hfit
          rw [e0] at hrun
          simp only [Result.ok.injEq] at hrun
          rw [← hrun.1] at hc; exact .inl hc
        · have e0 := run_append_grow (P := P) w t ty T i z hT.und hi hz ⟨g, 0, none⟩ xs.length cp cs (by rw [hs]; exact h1.1) (h1.cells rfl) ⟨b, o, none⟩ ys.length cap ds (by rw [hs]; exact hr.len) hnews (by omega) (by omega)
            (growslice_fits (by omega) hmul)
          rw [e0] at hrun
          simp only [Result.ok.injEq] at hrun
          rw [← hrun.1] at hc
          exact .inr (by simp only [inBlk] at hc; omega)
    refine ⟨v', w', hrun, ⟨⟨cs ++ ds, by rw [List.length_append]; exact hown, ?_⟩, by rw [List.length_append]; omega, fun c hc => .inl hc⟩, ?_, hfresh⟩
    · refine (h2.append hr).mono fun c hc hf => ⟨⟨hf.1, fun hx => ?_⟩, hgr.block c hc fun e => hf.2 (.inl ((ownBlock_inBlk h1 c).1 e.symm))⟩
      rcases hx with hx | hx
      · rcases hfresh c hx with hx | hx
        · exact hf.2 (.inl hx)
        · omega
      · exact hf.2 (.inr hx)
    · exact ⟨hgr.os, hgr.tape, hgr.output, hdrawn, hgr.size, fun c hc hd => hgr.block c hc fun e => hd ((ownBlock_inBlk h1 c).1 e.symm)⟩
end
end Go.Proofs.YtkfhcfkbaaekoaaDoor.K
