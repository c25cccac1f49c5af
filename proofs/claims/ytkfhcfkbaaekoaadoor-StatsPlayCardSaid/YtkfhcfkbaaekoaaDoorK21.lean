/- The errors that a row lists as laid: pointers to places of their own. General: no program is named. -/
import Derived.Test.YtkfhcfkbaaekoaaDoorK20
import Derived.Stop.LaidErr
import Derived.LaidLaws
namespace Go.Proofs.YtkfhcfkbaaekoaaDoor.K
open Go Go.RowKit Go.ChangeShapes
set_option linter.unusedVariables false
theorem laid_addrs {P : Program} {W : World} {nm : String} {ti tp te ts : TypeId} {ms : Array (String × TypeId)} {f : Field}
    (hi : P.underlying ti = some (.interface ms)) (hrow : ∀ u, P.typeName? 3 u = some nm → u = tp)
    (hp : P.underlying tp = some (.pointer te)) (he : P.underlying te = some (.struct #[f])) (hft : f.type = ts) (hfo : f.offset = 0) (hs : P.underlying ts = some .string) (hc : P.cellsOf te = 1) (hcs : P.cellsOf ts = 1) :
    ∀ (l : List (String × List UInt8)) (gs : List Nat) (ps : List MemPlace), DataW.LaidVars P W (l.map fun x => (x.1, .iface nm (.ptr (.agg [.lit (.string x.2)])))) ps →
      (∀ b off, MemPlace.cell b off ∈ ps → (∃ c t, W.heap[b]? = some (.cells c t (0, 0))) ∧ ∀ u v, W.cell? ⟨b, off, none⟩ = some (.iface u v) → Value.okWide P W .any 0 u v) →
      gs.length = l.length → (∀ (i : Nat) (x : String × List UInt8) (g : Nat), l[i]? = some x → gs[i]? = some g → P.globalNamed x.1 = some g ∧ (P.globals[g]?).map (·.type) = some ti) →
      ∃ As : List Addr, As.length = gs.length ∧ (∀ (i : Nat) (a : Addr) (g : Nat), As[i]? = some a → gs[i]? = some g → (∃ t fz, W.heap[g]? = some (Obj.cells #[.iface tp (.pointer (some a))] t fz)) ∧ ∃ c t, W.heap[a.block]? = some (Obj.cells c t (0, 0))) ∧
        (∀ a ∈ As, MemPlace.cell a.block a.off ∈ ps) ∧ (ps.Nodup → As.Nodup)
  | [], gs, ps, h, _, hl, _ => by
    have : gs = [] := List.eq_nil_of_length_eq_zero hl
    subst this
    exact ⟨[], rfl, (fun i a g h => by simp at h), (fun a h => by cases h), fun _ => List.Pairwise.nil⟩
  | x :: l, [], ps, h, _, hl, _ => by simp at hl
  | x :: l, g :: gs, ps, h, hr, hl, hG => by
    obtain ⟨g', t', cs, fuel, p, q, hg', ht', hv, hd, hq, e⟩ := h
    obtain ⟨G1, G2⟩ := hG 0 x g rfl rfl
    obtain rfl := Option.some.inj (G1.symm.trans hg')
    obtain rfl := Option.some.inj (G2.symm.trans ht')
    subst e
    obtain ⟨l0⟩ := cs
    have ok0 : ∀ u v, l0 = [.iface u v] → Value.okWide P W .any 0 u v := fun u v e => by
      subst e
      exact (hr g 0 (by simp [MemPlace.row])).2 u v (by simpa using World.var?_cell hg' hv 0)
    obtain ⟨a, s, rfl, hca, hsa, hza, rfl⟩ := errorString_of_trod hi hrow hp he hft hfo hs hc hcs hd ok0
    obtain ⟨As, k1, k2, k3, k4⟩ := laid_addrs hi hrow hp he hft hfo hs hc hcs l gs q hq (fun b off hm => hr b off (by simp [hm])) (by simpa using hl) (fun i x g h1 h2 => hG (i + 1) x g h1 h2)
    have hblk := (hr a.block a.off (by simp [MemPlace.row])).1
    refine ⟨a :: As, by simp [k1], fun i b g2 h1 h2 => ?_, fun b hb => ?_, fun hn => ?_⟩
    · cases i with
      | zero =>
        simp only [List.getElem?_cons_zero, Option.some.injEq] at h1 h2
        subst h1; subst h2
        exact ⟨var_heap hg' hv, hblk⟩
      | succ i => exact k2 i b g2 h1 h2
    · rcases List.mem_cons.1 hb with rfl | hb
      · simp [MemPlace.row]
      · simp [k3 b hb]
    · have hn2 := hn
      rw [List.nodup_append] at hn2
      refine List.nodup_cons.2 ⟨fun hm => ?_, k4 hn2.2.1⟩
      exact hn2.2.2 (MemPlace.cell a.block a.off) (by simp [MemPlace.row]) _ (k3 a hm) rfl
end Go.Proofs.YtkfhcfkbaaekoaaDoor.K
