/- The plain law of StatsPlay, its last part. No Go and no memory. -/
import Derived.Test.YtkfhcfkbaaekoaaDoorP40f
namespace Go.Proofs.YtkfhcfkbaaekoaaDoor
open Go K
set_option linter.unusedVariables false
theorem served_rest (s : Stats) (o : Out) : (F26_served s o).spans = s.spans ∧ (F26_served s o).verdicts = s.verdicts ∧ (F26_served s o).last = s.last := by
  unfold F26_served
  repeat' split
  all_goals exact ⟨rfl, rfl, rfl⟩
theorem SpR.cong {s X : Stats} {A : List Told} (h : SpR s A) (h1 : X.spans = s.spans) (h2 : X.last = s.last) : SpR X A := ⟨by rw [h2]; exact h.l0, by rw [h2]; exact h.l1, by rw [h2]; exact h.all, by rw [h1, h2]; exact h.sp⟩
theorem stale_ref {s : Stats} {A : List Told} (h : LastR s A) (hA : A.length ≤ 900) (q : Int) (hq : 0 ≤ q) : (andO (decide (((A.length : Nat) : Int) > 0)) ((ixO A (IntKind.i64.wrap (((A.length : Nat) : Int) - 1))).bind fun y44 => some (decide (q < y44.span)))) = some (decide (q < s.last)) := by
  rcases h with ⟨h1, h2⟩ | ⟨z, h1, h2, h3⟩
  · subst h1
    unfold andO
    rw [if_neg (by simp), h2]
    congr 1
    exact (decide_eq_false (by omega)).symm
  · have hix : ixO A (IntKind.i64.wrap (((A.length : Nat) : Int) - 1)) = some z := by
      rw [wrapI (by omega), show ((A.length : Nat) : Int) - 1 = ((A.length - 1 : Nat) : Int) by omega]
      exact ixO_at h2
    unfold andO
    rw [if_pos (by rw [decide_eq_true_iff]; omega), hix, ← h3]; rfl
theorem srv_no (s X : Stats) (A : List Told) (x : Told) (hX : X.services = s.services) (hx : x.fronted = false) (hr : SrvR s A) : SrvR X (A ++ [x]) := by
  intro k
  have hno : (hit x && decide (x.service = k)) = false := by unfold hit; rw [hx]; rfl
  rw [hX, hr, hits_app, svc_app, hno, Bool.or_false, b3_no k x _ hno]
theorem tell2 {s : Stats} {A : List Told} {sz : Int} (h : RT s A sz) (hA : A.length ≤ 60) (o : Out) (size now : Int) :
    (F9_Tell s o size now = some (some 0, s) ∧ F15_Tell ⟨A⟩ (F16_Out o) size now = some (1, ⟨A⟩)) ∨ (F9_Tell s o size now = some (some 1, s) ∧ F15_Tell ⟨A⟩ (F16_Out o) size now = some (10, ⟨A⟩)) ∨
      ∃ s' x, F9_Tell s o size now = some (none, s') ∧ F15_Tell ⟨A⟩ (F16_Out o) size now = some (0, ⟨A ++ [x]⟩) ∧ RT s' (A ++ [x]) (sz + size) := by
  have hL : LIM = 4294967296 := rfl
  have hl0 := h.sp.l0
  have hl1 := h.sp.l1
  have hszn := h.si.szn
  by_cases hbad : (decide (o.verdict < 0) || decide (o.verdict ≥ 7) || decide (size < 0) || decide (size > 300) || !(decide (now ≥ 0) && decide (now ≤ 1099511627776))) = true
  · refine .inl ⟨(if_pos hbad : F9_Tell s o size now = _), ?_⟩
    refine if_pos (c := (decide (o.verdict < 0) || decide (o.verdict > 6) || decide (size < 0) || decide (size > 300) || decide (now < 0) || decide (now > 1099511627776)) = true) ?_
    simp only [Bool.or_eq_true, decide_eq_true_eq, Bool.not_eq_true', Bool.and_eq_false_iff, decide_eq_false_iff_not] at hbad ⊢
    omega
  · have e0 : F9_Tell s o size now = _ := if_neg hbad
    have htk := tell_ok h.si (by omega) o size now
    have r0 : F15_Tell ⟨A⟩ (F16_Out o) size now = _ := if_neg (c := (decide (o.verdict < 0) || decide (o.verdict > 6) || decide (size < 0) || decide (size > 300) || decide (now < 0) || decide (now > 1099511627776)) = true) (by
      simp only [Bool.or_eq_true, decide_eq_true_eq, Bool.not_eq_true', Bool.and_eq_false_iff, decide_eq_false_iff_not] at hbad ⊢
      omega)
    simp only [Bool.or_eq_true, decide_eq_true_eq, Bool.not_eq_true', Bool.and_eq_false_iff, decide_eq_false_iff_not, not_or, Int.not_lt, Int.not_le] at hbad
    have hq : now.tdiv 10 = now / 10 := Int.tdiv_eq_ediv_of_nonneg (by omega)
    have hw : IntKind.i64.wrap (now.tdiv 10) = now / 10 := by rw [hq, wrapI (by omega)]
    have hst := stale_ref h.lst (by omega) (now / 10) (by omega)
    rw [hw] at e0 r0
    simp only at r0
    rw [hst] at r0
    simp only [Option.bind_some] at r0
    by_cases hs : now / 10 < s.last
    · refine .inr (.inl ⟨e0.trans (if_pos (by rw [decide_eq_true_iff]; exact hs)), r0.trans (if_pos (by rw [decide_eq_true_iff]; exact hs))⟩)
    · rw [if_neg (show ¬ decide (now / 10 < s.last) = true by rw [decide_eq_true_iff]; exact hs)] at e0 r0
      rw [total_ok h.si (by omega)] at e0
      simp only [Option.bind_some] at e0
      rw [if_neg (by rw [decide_eq_true_iff]; omega)] at e0
      rw [apO_ok (by simp; omega)] at r0
      simp only [Option.bind_some, List.nil_append] at r0
      rw [apO_ok (by simp; omega)] at r0
      simp only [Option.bind_some] at r0
      obtain ⟨s1, f1, f2, f3, f4, f5⟩ := forward2 h.sp (now / 10) (by omega) (by omega)
      have hm : (now / 10).tmod 16 = now / 10 % 16 := Int.tmod_eq_emod_of_nonneg (by omega)
      obtain ⟨y, hy, hy2⟩ := ixO_ex (l := A16i64.list s1.spans) (i := (now / 10).tmod 16) (by rw [hm]; omega) (by rw [hm]; show now / 10 % 16 < 16; omega)
      obtain ⟨c, hc, hc2⟩ := ixO_ex (l := A7Count.list s1.verdicts) (i := o.verdict) (by omega) (by show o.verdict < 7; omega)
      simp only [f1, hy, hc, Option.bind_some] at e0
      rw [hm] at hy2 e0
      have hspan : ∀ X : Stats, X.spans = A16i64.upd s1.spans (now / 10 % 16).toNat (fun _ => IntKind.i64.wrap (y + 1)) → X.last = s1.last → SpR X (A ++ [({ verdict := o.verdict, size := size, span := now / 10, fronted := !decide (o.front.proto = 0), service := o.front.service } : Told)]) := by
        intro X h1 h2
        exact f5.add (by omega) _ f4.symm (by rw [f4]; exact hy2) (by rw [f4]; exact h1) h2
      have hver : ∀ X : Stats, X.verdicts = A7Count.upd (A7Count.upd s1.verdicts o.verdict.toNat (fun e => { e with packets := IntKind.i64.wrap (c.packets + 1) })) o.verdict.toNat (fun e => { e with bytes := IntKind.i64.wrap (c.bytes + size) }) → VerR X (A ++ [({ verdict := o.verdict, size := size, span := now / 10, fronted := !decide (o.front.proto = 0), service := o.front.service } : Told)]) := by
        intro X hX v hv
        rw [f2] at hc2
        have hov := h.ver v hv
        rw [ver_app, hX, upd_list, upd_list, f2, List.modify_modify_eq, List.getElem?_modify, hov]
        unfold F17_Verdict_b1
        by_cases e : o.verdict.toNat = v
        · subst e
          rw [hov] at hc2
          have hcc := Option.some.inj hc2
          have e2 : o.verdict = ((o.verdict.toNat : Nat) : Int) := by omega
          rw [if_pos (by rw [decide_eq_true_iff]; exact e2)]
          simp only [Function.comp_apply, if_true, Option.map_eq_map, Option.map_some, ← hcc]
        · rw [if_neg (by rw [decide_eq_true_iff]; show ¬ o.verdict = ((v : Nat) : Int); omega)]
          simp [e]
      have hlast : ∀ X : Stats, X.last = s1.last → LastR X (A ++ [({ verdict := o.verdict, size := size, span := now / 10, fronted := !decide (o.front.proto = 0), service := o.front.service } : Told)]) := by
        intro X hX
        exact .inr ⟨({ verdict := o.verdict, size := size, span := now / 10, fronted := !decide (o.front.proto = 0), service := o.front.service } : Told), by simp, by simp, by rw [hX, f4]⟩
      have hsi : ∀ s', F9_Tell s o size now = some (none, s') → SI (A ++ [({ verdict := o.verdict, size := size, span := now / 10, fronted := !decide (o.front.proto = 0), service := o.front.service } : Told)]).length (sz + size) s' := by
        intro s' hs'
        rw [List.length_append]
        rcases htk with ⟨e, he⟩ | ⟨_, _, s2, h1, h2⟩
        · rw [hs'] at he; simp at he
        · rw [hs'] at h1; simp only [Option.some.injEq, Prod.mk.injEq, true_and] at h1; rw [h1]; exact h2
      have hsrv1 : SrvR s1 A := fun k => by rw [f3]; exact h.srv k
      by_cases hp : (!decide (o.front.proto = 0)) = true
      · rw [if_pos hp] at e0
        have hsr := served_rest ({ verdicts := A7Count.upd (A7Count.upd s1.verdicts o.verdict.toNat (fun e => { e with packets := IntKind.i64.wrap (c.packets + 1) })) o.verdict.toNat (fun e => { e with bytes := IntKind.i64.wrap (c.bytes + size) }), services := s1.services, spans := A16i64.upd s1.spans (now / 10 % 16).toNat (fun _ => IntKind.i64.wrap (y + 1)), last := s1.last } : Stats) o
        refine .inr (.inr ⟨_, _, e0, r0, ⟨hsi _ e0, hspan _ hsr.1 hsr.2.2, hver _ hsr.2.1, ?_, hlast _ hsr.2.2⟩⟩)
        exact served_mget _ o A _ rfl rfl hp ⟨by omega, by omega⟩ hsrv1
      · rw [if_neg hp] at e0
        refine .inr (.inr ⟨_, _, e0, r0, ⟨hsi _ e0, hspan _ rfl rfl, hver _ rfl, ?_, hlast _ rfl⟩⟩)
        exact srv_no s1 _ A _ rfl (by rw [Bool.not_eq_true] at hp; exact hp) hsrv1
theorem ver_loop {s : Stats} {A : List Told} (h : VerR s A) (e : Option Nat) (i : Int) : ∀ (f : Nat) (n : Int), -1 ≤ n → n ≤ 8 → (8 - n).toNat < f → runW (F4_StatsPla_b3 (e, s) (i, ⟨A⟩)) f n = some (.fin 8)
  | 0, _, _, _, hf => absurd hf (by omega)
  | f + 1, n, h1, h2, hf => by
    rw [runW]
    by_cases h8 : n = 8
    · subst h8; rfl
    · have hb : F4_StatsPla_b3 (e, s) (i, ⟨A⟩) n = some (.next (n + 1)) := by
        have e0 : F4_StatsPla_b3 (e, s) (i, ⟨A⟩) n = _ := if_pos (by rw [decide_eq_true_iff]; omega)
        rw [e0]
        by_cases hr : n < 0 ∨ n > 6
        · refine Eq.trans (if_pos (by show (decide (n < 0) || decide (n > 6)) = true; simp; omega)) ?_
          have hv : F10_Verdict s n = some { packets := 0, bytes := 0 } := if_pos (by show (decide (n < 0) || decide (n ≥ 7)) = true; simp; omega)
          rw [show (e, s).2 = s from rfl, hv]
          simp only [Option.bind_some]
          simp only [lt]
          refine Eq.trans (if_neg (by simp)) ?_
          rw [wrapI (by omega)]
        · refine Eq.trans (if_neg (by show ¬ (decide (n < 0) || decide (n > 6)) = true; simp; omega)) ?_
          obtain ⟨v, rfl⟩ : ∃ v : Nat, n = (v : Int) := ⟨n.toNat, by omega⟩
          have hv : F10_Verdict s (v : Int) = _ := if_neg (by show ¬ (decide ((v : Int) < 0) || decide ((v : Int) ≥ 7)) = true; simp; omega)
          rw [ixO_at (h v (by omega))] at hv
          rw [show (e, s).2 = s from rfl, hv]
          simp only [Option.bind_some]
          simp only [lt]
          refine Eq.trans (if_neg (by simp)) ?_
          rw [wrapI (by omega)]
      rw [hb]
      exact ver_loop h e i f (n + 1) (by omega) (by omega) (by omega)
end Go.Proofs.YtkfhcfkbaaekoaaDoor
