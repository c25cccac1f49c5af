/- The plain law of HintsFilter: the zones in order. No Go and no memory. -/
import Derived.Test.YtlebjaljlhcbkaaP18
import Derived.Test.YtlebjaljlhcbkaaS3
import Derived.Sort.Walk0
namespace Go.Proofs.Ytlebjaljlhcbkaa
open Go K
set_option linter.unusedVariables false

def ltB (a b : ByteArray) : Bool := Op.bytesLess a.toList b.toList
theorem ltB_eq (a b : ByteArray) : ltB a b = decide (a.data.toList < b.data.toList) := by
  unfold ltB; rw [Go.Proofs.bytesLess_eq, ByteArray.toList_eq, ByteArray.toList_eq]
theorem ltB_ord : STO ltB := by
  refine ⟨fun a => ?_, fun a b c h1 h2 => ?_, fun a b h1 h2 => ?_⟩
  · rw [ltB_eq, decide_eq_false_iff_not]; exact List.lt_irrefl _
  · rw [ltB_eq, decide_eq_true_eq] at *; exact List.lt_trans h1 h2
  · rw [ltB_eq, decide_eq_false_iff_not, List.not_lt] at *
    have := List.le_antisymm h2 h1
    obtain ⟨⟨a⟩⟩ := a
    obtain ⟨⟨b⟩⟩ := b
    simpa using this
theorem sortS_ord (xs : List ByteArray) : (sortS xs).Pairwise fun a b => ltB b a = false := by
  unfold sortS
  rw [List.pairwise_map]
  have h := List.pairwise_mergeSort (le := fun (x y : List UInt8) => decide (x ≤ y)) (fun a b c h1 h2 => by
    rw [decide_eq_true_eq] at *; exact List.le_trans h1 h2) (fun a b => by
    rw [Bool.or_eq_true, decide_eq_true_eq, decide_eq_true_eq]; exact List.le_total a b) (xs.map (·.data.toList))
  refine h.imp fun {a b} hab => ?_
  rw [decide_eq_true_eq] at hab
  rw [ltB_eq, decide_eq_false_iff_not, List.not_lt]; exact hab

theorem at_loop (out : List ByteArray) (z : ByteArray) : ∀ (f p : Nat), p < f → p ≤ out.length → out.length < FUEL → (∀ y ∈ out.drop p, ltB z y = true) →
    ∃ q, runW (F19_linkboyref18_Zones_b3 out z) f ((p : Nat) : Int) = some (.fin ((q : Nat) : Int)) ∧ q ≤ out.length ∧ (∀ y ∈ out.drop q, ltB z y = true) ∧ (q = 0 ∨ ∃ y, out[q - 1]? = some y ∧ ltB z y = false)
  | 0, p, h, _, _, _ => by omega
  | f + 1, p, h, hp, hl, hh => by
    have hF : FUEL < 9223372036854775807 := by decide
    rw [runW]
    simp only [F19_linkboyref18_Zones_b3]
    rcases Nat.eq_zero_or_pos p with e | e
    · subst e
      refine ⟨0, ?_, Nat.zero_le _, hh, .inl rfl⟩
      simp [andO]
    · have hg : out[p - 1]? = some out[p - 1] := List.getElem?_eq_getElem (by omega)
      rw [wrapm e (by omega), ixO_at hg]
      simp only [Option.bind_some, andO]
      rw [if_pos (by rw [decide_eq_true_eq]; omega)]
      simp only [Option.bind_some]
      cases hb : Op.bytesLess z.toList out[p - 1].toList with
      | true =>
        simp only [if_true]
        refine at_loop out z f (p - 1) (by omega) (by omega) hl fun y hy => ?_
        have hd : out.drop (p - 1) = out[p - 1] :: out.drop p := by
          rw [List.drop_eq_getElem_cons (by omega)]; congr 2; omega
        rw [hd] at hy
        rcases List.mem_cons.1 hy with e2 | hy
        · rw [e2]; exact hb
        · exact hh y hy
      | false =>
        simp only [Bool.false_eq_true, if_false]
        exact ⟨p, rfl, hp, hh, .inr ⟨_, hg, hb⟩⟩
theorem put_one (z : ByteArray) (out : List ByteArray) (ho : Ord ltB out) (hl : out.length + 1 < LIM) : ∃ r, F19_linkboyref18_Zones_b2 z out = some r ∧ Ord ltB r ∧ r.length ≤ out.length + 1 ∧ ∀ x, x ∈ r ↔ x ∈ out ∨ x = z := by
  have hF : FUEL < 9223372036854775807 := by decide
  have hL : LIM < FUEL := by decide
  obtain ⟨q, h1, h2, h3, h4⟩ := at_loop out z FUEL out.length (by omega) (Nat.le_refl _) (by omega) (by simp)
  have hs : Spot ltB out z q := ⟨h2, fun y hy => by
    rcases h4 with h4 | ⟨u, hu, hlt⟩
    · subst h4; simp at hy
    · obtain ⟨i, hi, he⟩ := List.mem_iff_getElem.1 hy
      have hi' : i < min q out.length := by simpa using hi
      rw [List.getElem_take] at he
      rcases Nat.lt_or_ge i (q - 1) with hlt' | hge
      · have h5 := List.pairwise_iff_getElem.1 ho i (q - 1) (by omega) (by omega) hlt'
        rw [List.getElem?_eq_getElem (by omega)] at hu
        rw [he, Option.some.inj hu] at h5
        cases hz : ltB z y with
        | false => rfl
        | true => have := ltB_ord.trans _ _ _ hz h5; rw [this] at hlt; cases hlt
      · have e : i = q - 1 := by omega
        subst e
        rw [List.getElem?_eq_getElem (by omega), he] at hu
        rw [Option.some.inj hu]; exact hlt, h3⟩
  have hhas := hs.has ltB_ord ho
  unfold F19_linkboyref18_Zones_b2
  rw [h1]
  simp only [Option.bind_some, Lp.elim]
  by_cases hz : z ∈ out
  · obtain ⟨y, hq, hy, rfl⟩ := hhas.1 hz
    rw [wrapm hq (by omega), ixO_at hy]
    refine ⟨out, ?_, ho, by omega, fun x => ⟨.inl, fun h => h.elim id fun e => e ▸ hz⟩⟩
    simp only [andO, Option.bind_some]
    rw [if_pos (by rw [decide_eq_true_eq]; omega)]
    simp
  · have hp := hs.put ltB_ord ho hz
    have hb : (andO (decide (((q : Nat) : Int) > 0)) ((ixO out (IntKind.i64.wrap (((q : Nat) : Int) - 1))).bind fun y => some (decide (y = z)))) = some false := by
      rcases Nat.eq_zero_or_pos q with e | e
      · subst e; rfl
      · have hg : out[q - 1]? = some out[q - 1] := List.getElem?_eq_getElem (by omega)
        rw [wrapm e (by omega), ixO_at hg]
        simp only [andO, Option.bind_some]
        rw [if_pos (by rw [decide_eq_true_eq]; omega)]
        congr 1
        rw [decide_eq_false_iff_not]
        intro h; exact hz (hhas.2 ⟨_, e, hg, h⟩)
    rw [hb]
    simp only [Option.bind_some, Bool.false_eq_true, if_false]
    have e0 : ((0 : Nat) : Int) = 0 := rfl
    rw [← e0, slO_ok (Nat.zero_le _) h2]
    simp only [Option.bind_some, List.drop_zero, Nat.sub_zero]
    have ht : (out.take q).length = q := by simp; omega
    rw [apO_ok (by simp; omega)]
    simp only [Option.bind_some, List.nil_append]
    rw [apO_ok (by simp; omega), slO_ok h2 (Nat.le_refl _)]
    simp only [Option.bind_some]
    have hdr : (out.drop q).take (out.length - q) = out.drop q := List.take_of_length_le (by simp)
    rw [hdr, apO_ok (by simp; omega)]
    simp only [Option.bind_some]
    exact ⟨_, rfl, hp.1, by simp; omega, hp.2⟩
theorem put_all : ∀ (zs out : List ByteArray), Ord ltB out → out.length + zs.length < LIM → ∃ r, runAO F19_linkboyref18_Zones_b2 zs out = some r ∧ Ord ltB r ∧ r.length ≤ out.length + zs.length ∧ ∀ x, x ∈ r ↔ x ∈ out ∨ x ∈ zs
  | [], out, ho, _ => ⟨out, rfl, ho, by simp, fun x => by simp⟩
  | z :: zs, out, ho, hl => by
    simp only [List.length_cons] at hl
    obtain ⟨r, h1, h2, h3, h4⟩ := put_one z out ho (by omega)
    obtain ⟨r2, k1, k2, k3, k4⟩ := put_all zs r h2 (by omega)
    refine ⟨r2, by rw [runAO, h1]; exact k1, k2, by simp only [List.length_cons]; omega, fun x => ?_⟩
    rw [k4, h4, List.mem_cons, or_assoc]
theorem zonesR_loop : ∀ (xs : List Candidate) (out : List ByteArray), (∀ x ∈ xs, x.zones.length ≤ 400) → Ord ltB out → out.length + 400 * xs.length < LIM →
    ∃ r, runAO F19_linkboyref18_Zones_b1 xs out = some r ∧ Ord ltB r ∧ ∀ x, x ∈ r ↔ x ∈ out ∨ x ∈ zonesOf xs
  | [], out, _, ho, _ => ⟨out, rfl, ho, fun x => by simp [zonesOf, ready]⟩
  | c :: xs, out, hz, ho, hl => by
    simp only [List.length_cons] at hl
    have hc := hz c (by simp)
    have hz' : ∀ x ∈ xs, x.zones.length ≤ 400 := fun x hx => hz x (by simp [hx])
    cases hr : c.ready
    · obtain ⟨r, h1, h2, h3⟩ := zonesR_loop xs out hz' ho (by omega)
      refine ⟨r, ?_, h2, fun x => ?_⟩
      · rw [runAO]; simp only [F19_linkboyref18_Zones_b1, hr]; exact h1
      · rw [h3]; simp [zonesOf, ready, hr]
    · obtain ⟨r, h1, h2, h3, h4⟩ := put_all c.zones out ho (by omega)
      obtain ⟨r2, k1, k2, k3⟩ := zonesR_loop xs r hz' h2 (by omega)
      refine ⟨r2, ?_, k2, fun x => ?_⟩
      · rw [runAO]; simp only [F19_linkboyref18_Zones_b1, hr, h1]; exact k1
      · rw [k3, h4]; simp [zonesOf, ready, hr, or_assoc]
theorem zonesR_eq (xs : List Candidate) (hl : xs.length ≤ 60) (hz : ∀ x ∈ xs, x.zones.length ≤ 400) : F19_linkboyref18_Zones xs = some (compL (sortS (zonesOf xs))) := by
  have hL : LIM = 4294967296 := rfl
  obtain ⟨r, h1, h2, h3⟩ := zonesR_loop xs [] hz List.Pairwise.nil (by simp; omega)
  have e : r = compL (sortS (zonesOf xs)) := K.Ord.ext ltB_ord _ _ h2 (compL_ord ltB_ord _ (sortS_ord _)) fun x => by
    rw [h3, compL_mem, sortS_mem]; simp
  unfold F19_linkboyref18_Zones
  rw [h1, e]; rfl
theorem sameR_eq (a b : Candidate) : ∃ q, F13_linkboyref18_Same a b = some q ∧ F12_hints_Same a b = some q := by
  have ht : F18_linkboynum_SameTexts a.zones b.zones = F27_slices_Equal_string_string a.zones b.zones := rfl
  unfold F13_linkboyref18_Same F12_hints_Same
  rw [ht, equal_eq]
  simp only [lt, andO, Option.bind_some]
  cases decide (a.point = b.point) <;> cases a.localF == b.localF <;> cases a.ready == b.ready <;> cases a.serving == b.serving <;> cases a.terminating == b.terminating <;> simp
theorem law_filter (a0 : List Candidate) (a1 : ByteArray) : F4_linkboylaw18_HintsFilter a0 a1 = some true := by
  unfold F4_linkboylaw18_HintsFilter
  rw [aliveH_eq]
  refine lt_if (b := F6_linkboylaw18_Long a0 || decide (((a1.size : Nat) : Int) > 100)) fun h => ?_
  have hf := (Bool.or_eq_false_iff.1 h).1
  obtain ⟨h60, h400⟩ := few_of hf
  have hs := short_of hf
  have hfl : (flt a0 a1).length < LIM := Nat.lt_of_le_of_lt (List.length_filter_le _ _) hs
  have hloop : runBO (F4_linkboylaw18_HintsFilter_b1 a0 a1 a0) a0 0 = some (.fin (0 + a0.length)) := runBO_all (ρ := Bool) a0 0 fun i x hx => by
    obtain ⟨y, hy⟩ : ∃ y, a0[0]? = some y := by
      cases a0 with
      | nil => simp at hx
      | cons y r => exact ⟨y, rfl⟩
    have hy' : ixO a0 0 = some y := ixO_at (i := 0) hy
    obtain ⟨q, q1, q2⟩ := sameR_eq x y
    unfold F4_linkboylaw18_HintsFilter_b1
    simp only [lt, Nat.zero_add, ixO_at hx, hy', Option.bind_some, meant_eq, meantR_eq, q1, q2]
    simp [orO]
  have htx : ∀ zs, F18_linkboynum_SameTexts zs zs = some true := texts_self
  simp only [lt, of_eq a0 hs, Option.bind_some, hloop, Lp.elim, count_eq a0 a1 hs, countR_eq, filter_eq a0 a1 hs, of_eq _ hfl, filterR_eq a0 a1 hs, all_self, zones_eq a0 h60 h400, zonesR_eq a0 h60 h400, htx]
  simp [andO]
end Go.Proofs.Ytlebjaljlhcbkaa
