/- StatsPlay: what the program keeps and what the reference keeps. No Go and no memory. -/
import Derived.Test.YtkfhcfkbaaekoaaDoorP40c
namespace Go.Proofs.YtkfhcfkbaaekoaaDoor
open Go K
set_option linter.unusedVariables false
theorem stoK : STO (ltK keyK) := ltK_sto fun _ _ h => keyK_inj h
theorem sort_ref (zs : List Key) (hl : zs.length < LIM) : ∃ r, F35_Sort zs = some r ∧ K.Ord (ltK keyK) r ∧ r.length ≤ zs.length ∧ ∀ x, x ∈ r ↔ x ∈ zs :=
  insG_eq stoK (fun z y => some (F45_Compare z y)) (fun _ => True) (fun z y _ _ => ⟨_, rfl, by rw [key_cmpR]; rfl⟩) zs (fun _ _ => trivial) hl
def hit (x : Told) : Bool := x.fronted && (decide (x.verdict = 2) || decide (x.verdict ≥ 4))
def hits (A : List Told) (k : Key) : Bool := A.any fun x => hit x && decide (x.service = k)
def z0 (k : Key) : Service := { key := k, begun := 0, filtered := 0, rejected := 0, full := 0 }
def svc (A : List Told) (k : Key) : Service := runA (F19_Services_b3 k) A (z0 k)
theorem svc_app (A : List Told) (x : Told) (k : Key) : svc (A ++ [x]) k = F19_Services_b3 k x (svc A k) := by
  unfold svc; rw [runA_eq, runA_eq, List.foldl_append]; rfl
theorem b3_key (k : Key) (x : Told) (v : Service) : (F19_Services_b3 k x v).key = v.key := by
  unfold F19_Services_b3
  simp only [lt]
  repeat' split
  all_goals rfl
theorem b3_no (k : Key) (x : Told) (v : Service) (h : (hit x && decide (x.service = k)) = false) : F19_Services_b3 k x v = v := by
  by_cases hb : (!x.fronted || !decide (x.service = k)) = true
  · exact (if_pos hb : F19_Services_b3 k x v = _)
  · have e : F19_Services_b3 k x v = _ := if_neg hb
    rw [e]
    simp only [Bool.or_eq_true, Bool.not_eq_true', decide_eq_false_iff_not, not_or, Bool.not_eq_false, Classical.not_not] at hb
    unfold hit at h
    rw [hb.1, decide_eq_true hb.2] at h
    simp only [Bool.true_and, Bool.and_true, Bool.or_eq_false_iff, decide_eq_false_iff_not] at h
    rw [if_neg (by simp; exact h.1), if_neg (by simp; omega), if_neg (by simp; omega), if_neg (by simp; omega)]
theorem svc_key (A : List Told) (k : Key) : (svc A k).key = k := by
  have : ∀ (A : List Told) (v : Service), (runA (F19_Services_b3 k) A v).key = v.key := fun A => by
    induction A with
    | nil => intro v; rfl
    | cons x A ih => intro v; rw [runA, ih, b3_key]
  exact this A (z0 k)
theorem svc_no {A : List Told} {k : Key} (h : hits A k = false) : svc A k = z0 k := by
  have : ∀ (A : List Told) (v : Service), hits A k = false → runA (F19_Services_b3 k) A v = v := fun A => by
    induction A with
    | nil => intro v _; rfl
    | cons x A ih =>
      intro v h
      unfold hits at h
      rw [List.any_cons, Bool.or_eq_false_iff] at h
      rw [runA, b3_no k x v h.1]
      exact ih v h.2
  exact this A _ h
theorem hits_app (A : List Told) (x : Told) (k : Key) : hits (A ++ [x]) k = (hits A k || (hit x && decide (x.service = k))) := by unfold hits; simp
theorem ref_services (A : List Told) (hl : A.length ≤ 900) : ∃ ks, F19_Services ⟨A⟩ = some (ks.map (svc A)) ∧ K.Ord (ltK keyK) ks ∧ ks.length ≤ A.length ∧ ∀ k, k ∈ ks ↔ hits A k = true := by
  have hL : LIM = 4294967296 := rfl
  obtain ⟨ks, k1, k2, k3, k4⟩ := sort_ref ((A.filter hit).map (·.service)) (by simp; exact Nat.lt_of_le_of_lt (List.length_filter_le _ _) (by omega))
  have hfl : ((A.filter hit).map (·.service)).length ≤ A.length := by rw [List.length_map]; exact List.length_filter_le _ _
  refine ⟨ks, ?_, k2, by omega, fun k => ?_⟩
  · unfold F19_Services
    have e1 := runAO_gather (body := F19_Services_b1) hit (fun x => x.service) (fun x t ht => by
      by_cases h : hit x = true
      · have e : F19_Services_b1 x t = (apO t [x.service]).bind fun _ => some (t ++ [x.service]) := if_pos h
        rw [e, ap1_ok ht, if_pos h]; rfl
      · have e : F19_Services_b1 x t = some t := if_neg h
        rw [e, if_neg h]) A [] (by simp; omega)
    rw [e1]
    simp only [Option.bind_some, List.nil_append, k1]
    have e2 := runAO_gather (body := F19_Services_b2 ⟨A⟩) (fun _ => true) (svc A) (fun x t ht => by
      unfold F19_Services_b2
      simp only [lt]
      rw [ap1_ok ht]; rfl) ks [] (by simp; omega)
    rw [e2, List.filter_eq_self.2 (fun _ _ => rfl)]
    rfl
  · rw [k4, List.mem_map]
    unfold hits
    rw [List.any_eq_true]
    constructor
    · rintro ⟨x, hx, rfl⟩
      obtain ⟨h1, h2⟩ := List.mem_filter.1 hx
      exact ⟨x, h1, by rw [h2]; simp⟩
    · rintro ⟨x, hx, h⟩
      rw [Bool.and_eq_true, decide_eq_true_iff] at h
      exact ⟨x, List.mem_filter.2 ⟨hx, h.1⟩, h.2⟩
def SrvR (s : Stats) (A : List Told) : Prop := ∀ k, mget s.services k = if hits A k = true then some (svc A k) else none
theorem services_eq {m : Nat} {s : Stats} {A : List Told} (h : SP m s.services) (hm : m ≤ 900) (hA : A.length ≤ 900) (hr : SrvR s A) : ∃ r, F11_Services s = some r ∧ F19_Services ⟨A⟩ = some r ∧ KOrd keyS r ∧ r.length ≤ 900 := by
  obtain ⟨r, r1, r2, r3⟩ := services_ok h (by omega)
  obtain ⟨ks, k1, k2, k3, k4⟩ := ref_services A hA
  have hk : KOrd keyS (ks.map (svc A)) := by
    refine List.pairwise_map.2 (List.Pairwise.imp (fun {a b} hab => ?_) k2)
    show lexc (keyK (svc A a).key) (keyK (svc A b).key) = -1
    rw [svc_key, svc_key]; exact ltK_iff.1 hab
  have e : r = ks.map (svc A) := KOrd.ext r _ r2 hk fun v => by
    rw [r3.mem_iff, List.mem_map, List.mem_map]
    constructor
    · rintro ⟨p, hp, rfl⟩
      have hg := mget_of h.nd (k := p.1) (v := p.2) hp
      rw [hr] at hg
      split at hg
      · rename_i hh
        exact ⟨p.1, (k4 p.1).2 hh, Option.some.inj hg⟩
      · cases hg
    · rintro ⟨k, hk, rfl⟩
      have hg := hr k
      rw [if_pos ((k4 k).1 hk)] at hg
      exact ⟨(k, svc A k), mget_mem hg, rfl⟩
  subst e
  exact ⟨_, r1, k1, hk, by rw [List.length_map]; omega⟩
def VerR (s : Stats) (A : List Told) : Prop := ∀ v : Nat, v < 7 → (A7Count.list s.verdicts)[v]? = some { packets := (F17_Verdict ⟨A⟩ (v : Int)).1, bytes := (F17_Verdict ⟨A⟩ (v : Int)).2 }
theorem ver_app (A : List Told) (x : Told) (v : Int) : F17_Verdict ⟨A ++ [x]⟩ v = F17_Verdict_b1 v x (F17_Verdict ⟨A⟩ v) := by
  unfold F17_Verdict lt
  simp only [runA_eq, List.foldl_append]; rfl
theorem same_row (L : List Service) : F18_same L L = some true := by
  unfold F18_same
  rw [if_neg (by simp)]
  have := runBO_all (body := F18_same_b1 L) L 0 (fun i x hx => by
    unfold F18_same_b1
    rw [Nat.zero_add, ixO_at hx]
    simp)
  rw [this]; rfl
def okF : Bool := (List.range 61).all fun s => (List.range 16).all fun k => match FloatKind.f64.format.div (FloatKind.f64.nearest (s : Int)) (FloatKind.f64.nearest (10 * ((k : Int) + 1))) with | some y => FloatKind.f64.format.order y y == some .eq | none => false
theorem okF_true : okF = true := by decide +kernel
theorem rate_div {s k : Nat} (hs : s ≤ 60) (h1 : 1 ≤ k) (h2 : k ≤ 16) : ∃ y, FloatKind.f64.format.div (FloatKind.f64.nearest (s : Int)) (FloatKind.f64.nearest (10 * (k : Int))) = some y ∧ (FloatKind.f64.format.order y y == some .eq) = true := by
  have h := okF_true
  unfold okF at h
  have h3 := List.all_eq_true.1 (List.all_eq_true.1 h s (List.mem_range.2 (by omega))) (k - 1) (List.mem_range.2 (by omega))
  rw [show ((k - 1 : Nat) : Int) + 1 = (k : Int) by omega] at h3
  split at h3
  · rename_i y hy; exact ⟨y, hy, h3⟩
  · cases h3
end Go.Proofs.YtkfhcfkbaaekoaaDoor
