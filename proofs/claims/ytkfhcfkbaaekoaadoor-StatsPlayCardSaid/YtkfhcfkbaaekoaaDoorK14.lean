/- Maps of one's own: keys and values without memory. General: no program is named. -/
import Derived.Test.YtkfhcfkbaaekoaaDoorK13
namespace Go.Proofs.YtkfhcfkbaaekoaaDoor.K
open Go
set_option linter.unusedVariables false
def mfind {α β : Type} [DecidableEq α] : List (α × β) → α → Nat → Option (Nat × β)
  | [], _, _ => none
  | p :: r, k, i => if k = p.1 then some (i, p.2) else mfind r k (i + 1)
def KeyV {α : Type} (P : Program) (t : TypeId) (val : α → Value) (n : Nat) : Prop :=
  ∀ (b : Bool) (d : Nat) (x : α) (w : World), Nat.ble n d = true → (Instr.checkKey b d t (val x)).run P w = .ok () w
def basicV : Value → Bool
  | .bool _ | .int _ _ | .string _ => true
  | _ => false
section
variable {P : Program} {t : TypeId}
theorem KeyV.int {k k' : IntKind} (h : P.underlying t = some (.int k')) : KeyV P t (Value.int k) 1 := fun b d x w hd => by
  obtain ⟨e, rfl, _⟩ := pred_of_ble hd
  simp [Instr.checkKey, run_underlying h]
theorem KeyV.bool (h : P.underlying t = some .bool) : KeyV P t Value.bool 1 := fun b d x w hd => by
  obtain ⟨e, rfl, _⟩ := pred_of_ble hd
  simp [Instr.checkKey, run_underlying h]
theorem KeyV.string (h : P.underlying t = some .string) : KeyV P t Value.string 1 := fun b d x w hd => by
  obtain ⟨e, rfl, _⟩ := pred_of_ble hd
  simp [Instr.checkKey, run_underlying h]
theorem fc_nil {Q : Field → Prop} : ∀ g ∈ ([] : List Field), Q g := fun _ h => by cases h
theorem fc_cons {Q : Field → Prop} {f : Field} {r : List Field} (h : Q f) (t : ∀ g ∈ r, Q g) : ∀ g ∈ f :: r, Q g := fun g hg => by
  cases hg with
  | head => exact h
  | tail _ hg => exact t g hg
theorem forIn_unit {ι : Type} {g : ι → PUnit → Sem (ForInStep PUnit)} {w : World} : ∀ (fs : List ι), (∀ f ∈ fs, (g f PUnit.unit).run P w = .ok (.yield PUnit.unit) w) → (forIn (m := Sem) fs PUnit.unit g).run P w = .ok PUnit.unit w
  | [], _ => rfl
  | f :: r, h => by
    rw [List.forIn_cons, Sem.run_bind, h f (by simp), Result.andThen_ok]
    exact forIn_unit r fun g hg => h g (by simp [hg])
theorem KeyV.struct {α : Type} {val : α → List Value} {n : Nat} {fs : Array Field} (hu : P.underlying t = some (.struct fs))
    (h : ∀ b d x w, Nat.ble n d = true → ∀ f ∈ fs.toList, ∃ a, (part f.type (val x).toArray f.offset).run P w = .ok a w ∧ (Instr.checkKey b d f.type a).run P w = .ok () w) : KeyV P t (fun x => .agg (val x).toArray) (n + 1) := fun b d x w hd => by
  obtain ⟨e, rfl, he⟩ := pred_of_ble hd
  show (Instr.checkKey b (e + 1) t (.agg (val x).toArray)).run P w = _
  rw [Instr.checkKey]
  simp only [Sem.run_bind, run_underlying hu, Result.andThen_ok]
  rw [← Array.forIn_toList, forIn_unit]
  · rfl
  · intro f hf
    obtain ⟨a, h1, h2⟩ := h b e x w he f hf
    by_cases hn : f.name ≠ "_"
    · simp only [if_pos hn, Sem.run_bind, h1, h2, Result.andThen_ok, Sem.run_pure]
    · simp only [if_neg hn, Sem.run_pure]
structure KeyT {α : Type} [DecidableEq α] (P : Program) (t : TypeId) (ek : α → Value) : Prop where
  now : ∃ de, P.underlying t = some de ∧ ∀ x y, Instr.sameNow de (ek x) (ek y) = none ∨ Instr.sameNow de (ek x) (ek y) = some (decide (x = y))
  eq : ∃ n, Nat.ble n 10000 = true ∧ EqV P t ek n
  chk : ∀ b x w, (Instr.checkKey b 10000 t (ek x)).run P w = .ok () w
  bits : ∀ x, Instr.sameBits 10000 (ek x) (ek x) = true
theorem sameStr (x y : ByteArray) : (x == y) = decide (x = y) := by
  rw [Bool.eq_iff_iff, decide_eq_true_iff]
  constructor
  · intro h
    obtain ⟨x⟩ := x; obtain ⟨y⟩ := y
    have : (x == y) = true := h
    simpa using this
  · rintro rfl
    obtain ⟨x⟩ := x
    show (x == x) = true
    simp
theorem sameBits_basic {v : Value} (h : basicV v = true) (n : Nat) : Instr.sameBits n v v = true := by
  match v, h with
  | .bool b, _ => cases n <;> simp [Instr.sameBits]
  | .int k b, _ => cases n <;> simp [Instr.sameBits]
  | .string b, _ => cases n <;> simp [Instr.sameBits, sameStr]
theorem sameBits_agg {cs : List Value} (h : cs.all basicV = true) : Instr.sameBits 10000 (.agg cs.toArray) (.agg cs.toArray) = true := by
  show Instr.sameBits (9999 + 1) _ _ = true
  rw [Instr.sameBits]
  simp only [BEq.rfl, Bool.true_and]
  rw [List.all_eq_true]
  rintro ⟨a, b⟩ hab
  have : ∀ (l : List Value), (a, b) ∈ l.zip l → a = b ∧ a ∈ l := by
    intro l
    induction l with
    | nil => simp
    | cons x l ih =>
      intro h
      rw [List.zip_cons_cons] at h
      cases h with
      | head => exact ⟨rfl, by simp⟩
      | tail _ h => obtain ⟨h1, h2⟩ := ih h; exact ⟨h1, by simp [h2]⟩
  obtain ⟨rfl, hm⟩ := this _ hab
  exact sameBits_basic (List.all_eq_true.1 h _ (by simpa using hm)) _
theorem KeyT.agg {α : Type} [DecidableEq α] {val : α → List Value} {n m : Nat} {fs : Array Field} (hu : P.underlying t = some (.struct fs)) (he : EqV P t (fun x => .agg (val x).toArray) n) (hc : KeyV P t (fun x => .agg (val x).toArray) m)
    (hn : Nat.ble n 10000 = true) (hm : Nat.ble m 10000 = true) (hb : ∀ x, (val x).all basicV = true) : KeyT P t (fun x : α => .agg (val x).toArray) :=
  ⟨⟨_, hu, fun _ _ => .inl rfl⟩, ⟨n, hn, he⟩, fun b x w => hc b 10000 x w hm, fun x => sameBits_agg (hb x)⟩
section
variable {α β : Type} [DecidableEq α] {ek : α → Value} {ev : β → Value}
theorem findAsking_run (ht : ∃ n, Nat.ble n 10000 = true ∧ EqV P t ek n) (k : α) (w : World) : ∀ (es : List MapEntry) (l : List (α × β)) (i : Nat), es.map (fun e => (e.key, e.val)) = l.map (fun p => (ek p.1, ev p.2)) →
    (Instr.findAsking t (ek k) es i).run P w = .ok ((mfind l k i).map fun p => (p.1, ev p.2)) w
  | [], [], i, _ => rfl
  | [], _ :: _, _, h => by cases h
  | _ :: _, [], _, h => by cases h
  | e :: es, p :: l, i, h => by
    simp only [List.map_cons, List.cons.injEq, Prod.mk.injEq] at h
    obtain ⟨⟨h1, h2⟩, h3⟩ := h
    obtain ⟨n, hn, hq⟩ := id ht
    have hq' : (Op.equal t (ek k) (ek p.1)).run P w = .ok (decide (k = p.1)) w := hq 10000 k p.1 w hn
    rw [Instr.findAsking, Sem.run_bind, h1, hq', Result.andThen_ok, mfind]
    by_cases hk : k = p.1
    · simp [hk, h2]
    · simp only [hk, decide_false, Bool.false_eq_true, if_false]
      exact findAsking_run ht k w es l (i + 1) h3
theorem findNow_run {de : TypeDesc} (hs : ∀ x y, Instr.sameNow de (ek x) (ek y) = none ∨ Instr.sameNow de (ek x) (ek y) = some (decide (x = y))) (k : α) : ∀ (es : List MapEntry) (l : List (α × β)) (i : Nat), es.map (fun e => (e.key, e.val)) = l.map (fun p => (ek p.1, ev p.2)) →
    Instr.findNow de (ek k) es i = none ∨ Instr.findNow de (ek k) es i = some ((mfind l k i).map fun p => (p.1, ev p.2))
  | [], [], i, _ => .inr rfl
  | [], _ :: _, _, h => by cases h
  | _ :: _, [], _, h => by cases h
  | e :: es, p :: l, i, h => by
    simp only [List.map_cons, List.cons.injEq, Prod.mk.injEq] at h
    obtain ⟨⟨h1, h2⟩, h3⟩ := h
    rw [Instr.findNow, mfind, h1]
    rcases hs k p.1 with hq | hq
    · rw [hq]; exact .inl rfl
    · rw [hq]
      by_cases hk : k = p.1
      · simp [hk, h2]
      · simp only [hk, decide_false, if_false]
        exact findNow_run hs k es l (i + 1) h3
theorem findKey_run (ht : KeyT P t ek) (k : α) (w : World) {es : List MapEntry} {l : List (α × β)} (h : es.map (fun e => (e.key, e.val)) = l.map (fun p => (ek p.1, ev p.2))) :
    (Instr.findKey t (ek k) es).run P w = .ok ((mfind l k 0).map fun p => (p.1, ev p.2)) w := by
  obtain ⟨de, hu, hs⟩ := ht.now
  rw [Instr.findKey, Sem.run_bind, run_underlying hu, Result.andThen_ok]
  rcases findNow_run hs k es l 0 h with hn | hn
  · rw [hn]; exact findAsking_run ht.eq k w es l 0 h
  · rw [hn]; rfl
theorem mfind_get (k : α) : ∀ (l : List (α × β)) (i : Nat), (mfind l k i).map (·.2) = mget l k
  | [], _ => rfl
  | p :: r, i => by rw [mfind, mget]; split <;> first | rfl | exact mfind_get k r (i + 1)
theorem mfind_some {k : α} : ∀ {l : List (α × β)} {i j : Nat} {v : β}, mfind l k i = some (j, v) → ∃ n, j = i + n ∧ l[n]? = some (k, v) ∧ (∀ x, mput l k x = l.modify n fun _ => (k, x)) ∧ mdel l k = l.eraseIdx n
  | p :: r, i, j, v, h => by
    rw [mfind] at h
    split at h
    · rename_i hk
      cases h
      refine ⟨0, rfl, ?_, fun x => ?_, ?_⟩
      · subst hk; rfl
      · rw [mput, if_pos hk]; rfl
      · rw [mdel, if_pos hk]; rfl
    · rename_i hk
      obtain ⟨n, h1, h2, h3, h4⟩ := mfind_some h
      refine ⟨n + 1, by omega, by simpa using h2, fun x => ?_, ?_⟩
      · rw [mput, if_neg hk, h3]; simp
      · rw [mdel, if_neg hk, h4]; rfl
theorem mfind_none {k : α} : ∀ {l : List (α × β)} {i : Nat}, mfind l k i = none → (∀ x, mput l k x = l ++ [(k, x)]) ∧ mdel l k = l ∧ mget l k = none
  | [], _, _ => ⟨fun _ => rfl, rfl, rfl⟩
  | p :: r, i, h => by
    rw [mfind] at h
    split at h
    · cases h
    · rename_i hk
      obtain ⟨h1, h2, h3⟩ := mfind_none h
      exact ⟨fun x => by rw [mput, if_neg hk, h1]; rfl, by rw [mdel, if_neg hk, h2], by rw [mget, if_neg hk, h3]⟩
end
end
def Mp {α β : Type} (ek : α → Value) (ev : β → Value) (w : World) (l : List (α × β)) (v : Value) : Prop :=
  ∃ m es clock, v = .map (some m) ∧ w.heap[m]? = some (.map es clock) ∧ es.toList.map (fun e => (e.key, e.val)) = l.map (fun p => (ek p.1, ev p.2)) ∧
    es.toList.Pairwise (fun a b => a.born ≠ b.born) ∧ ∀ e ∈ es.toList, e.born < clock
section
variable {α β : Type} [DecidableEq α] {ek : α → Value} {ev : β → Value} {w w' : World} {l : List (α × β)} {v : Value} {D : Nat → Prop}
theorem heap_lt {m : Nat} {o : Obj} (h : w.heap[m]? = some o) : m < w.heap.size := (Array.getElem?_eq_some_iff.1 h).1
omit [DecidableEq α] in
theorem Mp.ltp (h : Mp ek ev w l v) : ∀ b, inBlk v b → b < w.heap.size := by
  obtain ⟨m, es, c, rfl, hm, _⟩ := h
  rintro b rfl; exact heap_lt hm
omit [DecidableEq α] in
theorem Mp.ch (h : Mp ek ev w l v) (c : Ch D w w') (hd : ∀ b, inBlk v b → ¬ D b) : Mp ek ev w' l v := by
  obtain ⟨m, es, cl, rfl, hm, h1⟩ := h
  exact ⟨m, es, cl, rfl, (c.blk m (heap_lt hm) (hd m rfl)).trans hm, h1⟩
omit [DecidableEq α] in
theorem Mp.ch0 (h : Mp ek ev w l v) (c : Ch nb w w') : Mp ek ev w' l v := h.ch c fun _ _ x => x
omit [DecidableEq α] in
theorem Mp.one (h : Mp ek ev w l v) : v.cells = #[v] ∧ v.oneCell' = true := by
  obtain ⟨m, es, cl, rfl, _⟩ := h
  exact ⟨rfl, rfl⟩
theorem run_setObj_map {P : Program} {m : Nat} {es : Array MapEntry} {cl : Nat} (h : w.heap[m]? = some (.map es cl)) (o : Obj) : (setObj m o).run P w = .ok () { w with heap := w.heap.setIfInBounds m o } := by
  show (Sem.setObj m o (.pure ())).run P w = _
  simp only [Sem.run, h]
theorem run_getObj_map {P : Program} {m : Nat} {es : Array MapEntry} {cl : Nat} (h : w.heap[m]? = some (.map es cl)) : (getObj m).run P w = .ok (.map es cl) w := by
  show (Sem.getObj m .pure).run P w = _
  simp only [Sem.run, h]
theorem Ch.setObj {m : Nat} {o : Obj} : Ch (inBlk (.map (some m))) w { w with heap := w.heap.setIfInBounds m o } :=
  ⟨rfl, rfl, rfl, Nat.le_refl _, by simp, fun b hb hd => by
    have : m ≠ b := fun e => hd e
    simp [this]⟩
theorem heap_setObj {m : Nat} {o : Obj} (h : m < w.heap.size) : ({ w with heap := w.heap.setIfInBounds m o } : World).heap[m]? = some o := by
  simp [h]
end
section
variable {P : Program} {n : Nat} {ops : Array Oper} {rest : List Oper} {K : Env → World → Prop} {E : Env} {w : World} {d : Nat} {ty : TypeId} {pos : String} {af : Array Edge}
variable {α β : Type} [DecidableEq α] {ek : α → Value} {ev : β → Value} {l : List (α × β)} {v : Value} {t kt et : TypeId}
omit [DecidableEq α] in
theorem rl_makeMap (hn : Nat.blt d n = true) (h : ∀ b w', New w w' b → Mp ek ev w' ([] : List (α × β)) (.map (some b)) → RL P n ops rest K ((d, .map (some b)) :: E) w') :
    RL P n ops (⟨some d, .makeMap t none, ty, pos, af, none⟩ :: rest) K E w :=
  RL.op (w' := w.alloc (.map #[] 0)) rfl rfl hn (fun a ha => rfl)
    (h _ _ New.alloc ⟨_, #[], 0, rfl, Go.heap_alloc_new _ _, rfl, List.Pairwise.nil, fun e he => by simp at he⟩)
omit [DecidableEq α] in
theorem New.freshM {w' : World} {b : Nat} (h : New w w' b) : ∀ c, inBlk (.map (some b)) c → w.heap.size ≤ c := fun c hc => by
  have : b = c := hc
  rw [← this, h.eq]; exact Nat.le_refl _
theorem run_lookup {k : α} {z : β} (c : Bool) (hm : Mp ek ev w l v) (hk : KeyT P kt ek) (ht : P.underlying t = some (.map kt et)) (hz : ∀ w, (zeroValue et).run P w = .ok (ev z) w) :
    (Instr.lookup t v (ek k) c).run P w = .ok (if c then .tuple #[ev ((mget l k).getD z), .bool (mget l k).isSome] else ev ((mget l k).getD z)) w := by
  obtain ⟨m, es, cl, rfl, hm, he, _⟩ := hm
  have hf := findKey_run (P := P) hk k w he
  have hg := mfind_get k l 0
  simp only [Instr.lookup, Sem.run_bind, run_underlying ht, Result.andThen_ok, run_getObj_map hm, Sem.run_pure, hk.chk, hf]
  cases hr : mfind l k 0 with
  | none =>
    rw [hr] at hg; simp only [Option.map_none] at hg ⊢; rw [← hg]
    simp only [Sem.run_bind, hz, Result.andThen_ok, Sem.run_pure, Option.getD_none, Option.isSome_none]
  | some p =>
    rw [hr] at hg; simp only [Option.map_some] at hg ⊢; rw [← hg]
    simp only [Option.getD_some, Option.isSome_some]; rfl
theorem rl_lookup1 {X I : Operand} {i : Value} (k : α) (z : β) (hx : Go.Proofs.YtkfhcfkbaaekoaaDoor.K.ev E X = some v) (hi : Go.Proofs.YtkfhcfkbaaekoaaDoor.K.ev E I = some i) (hm : Mp ek ev w l v) (hik : i = ek k) (hk : KeyT P kt ek) (ht : P.underlying t = some (.map kt et)) (hz : ∀ w, (zeroValue et).run P w = .ok (ev z) w) (hn : Nat.blt d n = true)
    (h : RL P n ops rest K ((d, ev ((mget l k).getD z)) :: E) w) : RL P n ops (⟨some d, .lookup t X I false, ty, pos, af, none⟩ :: rest) K E w :=
  RL.op rfl rfl hn (fun a ha => by subst hik; simp only [execOp, ha.eval hx, ha.eval hi]; rw [Sem.run_bind, run_lookup false hm hk ht hz]; rfl) h
theorem run_mapUpdate {k : α} {x : β} (hm : Mp ek ev w l v) (hk : KeyT P kt ek) (ht : P.underlying t = some (.map kt et)) :
    ∃ w', (Instr.mapUpdate t v (ek k) (ev x)).run P w = .ok () w' ∧ w'.heap.size = w.heap.size ∧ Ch (inBlk v) w w' ∧ Mp ek ev w' (mput l k x) v := by
  obtain ⟨m, es, cl, rfl, hm, he, hb, hc⟩ := hm
  have hf := findKey_run (P := P) hk k w he
  have hlen : es.size = l.length := by have := congrArg List.length he; simpa using this
  cases hr : mfind l k 0 with
  | none =>
    obtain ⟨h1, h2, h3⟩ := mfind_none hr
    refine ⟨{ w with heap := w.heap.setIfInBounds m (.map (es.push { key := ek k, val := ev x, born := cl }) (cl + 1)) }, ?_, by simp, Ch.setObj, ⟨m, _, _, rfl, heap_setObj (heap_lt hm), ?_, ?_, ?_⟩⟩
    · simp only [Instr.mapUpdate, Sem.run_bind, run_underlying ht, Result.andThen_ok, run_getObj_map hm, hk.chk, hf, hr, Option.map_none, run_setObj_map hm]
    · rw [h1]; simp [he]
    · rw [Array.toList_push, List.pairwise_append]
      exact ⟨hb, List.pairwise_singleton _ _, fun a ha b hb' => by
        simp only [List.mem_singleton] at hb'; subst hb'
        have := hc a ha; show a.born ≠ cl; omega⟩
    · intro e he'
      rw [Array.toList_push, List.mem_append] at he'
      rcases he' with he' | he'
      · have := hc e he'; omega
      · simp only [List.mem_singleton] at he'; subst he'; show cl < cl + 1; omega
  | some p =>
    obtain ⟨j, y⟩ := p
    obtain ⟨i, e0, h2, h3, h4⟩ := mfind_some hr
    obtain rfl : j = i := by omega
    have hj : j < es.size := by have := lt_of_get h2; omega
    have hkv := congrArg (fun z => z[j]?) he
    simp only [List.getElem?_map, h2, Option.map_some, Array.getElem?_toList, Array.getElem?_eq_getElem hj, Option.some.injEq, Prod.mk.injEq] at hkv
    have hmod : (es.modify j fun e => { e with key := ek k, val := ev x }).toList = es.toList.modify j fun e => { e with key := ek k, val := ev x } := Array.toList_modify
    have hborn : (es.toList.modify j fun e => { e with key := ek k, val := ev x }).map (·.born) = es.toList.map (·.born) := by
      apply List.ext_getElem?
      intro q
      simp only [List.getElem?_map, List.getElem?_modify]
      cases es.toList[q]? with
      | none => rfl
      | some z => by_cases hq : j = q <;> simp [hq]
    refine ⟨{ w with heap := w.heap.setIfInBounds m (.map (es.modify j fun e => { e with key := ek k, val := ev x }) cl) }, ?_, by simp, Ch.setObj, ⟨m, _, _, rfl, heap_setObj (heap_lt hm), ?_, ?_, ?_⟩⟩
    · have hst : (Instr.keyThatStays (((es[j]?).map (·.key)).getD (ek k)) (ek k)).run P w = .ok (ek k) w := by
        simp [Instr.keyThatStays, Array.getElem?_eq_getElem hj, hkv.1, hk.bits]
      simp only [Instr.mapUpdate, Sem.run_bind, run_underlying ht, Result.andThen_ok, run_getObj_map hm, hk.chk, hf, hr, Option.map_some, hst, run_setObj_map hm]
    · rw [h3, hmod]
      apply List.ext_getElem?
      intro q
      have heq := congrArg (fun z => z[q]?) he
      simp only [List.getElem?_map, List.getElem?_modify] at heq ⊢
      by_cases hq : j = q
      · subst hq
        rw [h2, Array.getElem?_toList, Array.getElem?_eq_getElem hj]; simp
      · simpa [hq] using heq
    · rw [hmod]
      have : (es.toList.map (·.born)).Pairwise (· ≠ ·) := List.pairwise_map.2 hb
      rw [← hborn] at this
      exact List.pairwise_map.1 this
    · rw [hmod]
      intro e he'
      have : e.born ∈ es.toList.map (·.born) := by rw [← hborn]; exact List.mem_map_of_mem he'
      obtain ⟨z, hz, hzz⟩ := List.mem_map.1 this
      rw [← hzz]; exact hc z hz
theorem rl_mapUpdate {X I Y : Operand} {i u : Value} (k : α) (x : β) (hx : Go.Proofs.YtkfhcfkbaaekoaaDoor.K.ev E X = some v) (hi : Go.Proofs.YtkfhcfkbaaekoaaDoor.K.ev E I = some i) (hy : Go.Proofs.YtkfhcfkbaaekoaaDoor.K.ev E Y = some u) (hm : Mp ek ev w l v) (hik : i = ek k) (hux : u = ev x) (hk : KeyT P kt ek) (ht : P.underlying t = some (.map kt et))
    (h : ∀ w', Ch (inBlk v) w w' → Mp ek ev w' (mput l k x) v → RL P n ops rest K E w') : RL P n ops (⟨none, .mapUpdate t X I Y, ty, pos, af, none⟩ :: rest) K E w := by
  subst hik; subst hux
  obtain ⟨w', h1, _, h3, h4⟩ := run_mapUpdate (k := k) (x := x) hm hk ht
  exact RL.opSkip rfl rfl (fun a ha => by simp only [execOp, ha.eval hx, ha.eval hi, ha.eval hy]; rw [Sem.run_bind, h1]; rfl) (h w' h3 h4)
theorem rl_nilCheck {X : Operand} {b o : Nat} (hx : Go.Proofs.YtkfhcfkbaaekoaaDoor.K.ev E X = some (.pointer (some ⟨b, o, none⟩))) (hn : Nat.blt d n = true) (h : RL P n ops rest K ((d, .pointer (some ⟨b, o, none⟩)) :: E) w) :
    RL P n ops (⟨some d, .nilCheck X, ty, pos, af, none⟩ :: rest) K E w :=
  RL.op rfl rfl hn (fun a ha => by simp only [execOp, ha.eval hx]; rfl) h
end
end Go.Proofs.YtkfhcfkbaaekoaaDoor.K
