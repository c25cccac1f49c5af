/- What Resolve gives, and the plain law of ResolveWhole. No Go and no memory. -/
import Derived.Test.YtgcneihmkkldeaaGreatP19c
import Derived.Test.YtgcneihmkkldeaaGreatP20b
import Derived.Test.YtgcneihmkkldeaaGreatS8
namespace Go.Proofs.YtgcneihmkkldeaaGreat
open Go K
set_option linter.unusedVariables false

def fid (f : Face) : Id := { name := f.name, six := f.point.addr.six, localF := f.localF }
def gid (g : Group) : Id := { name := g.name, six := g.six, localF := g.localF }
noncomputable def ptsOf (s : Service) (l : List Slice) (n : Node) (f : Face) : List Point := (F26_Points l (F27_wanted s f n)).getD []
noncomputable def grp (s : Service) (l : List Slice) (n : Node) (f : Face) : Group := { name := f.name, proto := f.proto, six := f.point.addr.six, localF := f.localF, points := ptsOf s l n f }
def InvR (gs : List Group) (seen : List (Id × St85)) : Prop := ∀ k, (mget seen k).isSome = gs.any (fun g => decide (gid g = k))
theorem map_any (s : Service) (l : List Slice) (n : Node) (fs : List Face) (k : Id) : (fs.map (grp s l n)).any (fun g => decide (gid g = k)) = fs.any (fun f => decide (fid f = k)) := by rw [List.any_map]; rfl
theorem res_step (s : Service) (l : List Slice) (n : Node) (r : Resolved) (f : Face) (pre : List Face) (seen : List (Id × St85)) (hp : ∃ p, F26_Points l (F27_wanted s f n) = some p) (hg : r.groups = (dd fid pre).map (grp s l n)) (hi : InvR r.groups seen) (hl : r.groups.length + 1 < LIM) :
    ∃ r' seen', F10_Resolve_b1 s l n f (r, seen) = some (r', seen') ∧ r'.key = r.key ∧ r'.faces = r.faces ∧ r'.groups = (dd fid (pre ++ [f])).map (grp s l n) ∧ InvR r'.groups seen' := by
  have h0 := hi (fid f)
  unfold F10_Resolve_b1
  simp only [lt]
  have e : (mget seen (F25_faced f)).isSome = (dd fid pre).any (fun x => decide (fid x = fid f)) := by
    show (mget seen (fid f)).isSome = _
    rw [h0, hg, map_any]
  rw [e]
  cases hb : (dd fid pre).any (fun x => decide (fid x = fid f)) with
  | true =>
    refine ⟨r, seen, by simp, rfl, rfl, ?_, hi⟩
    rw [dd_snoc, keepL, if_pos hb]; exact hg
  | false =>
    obtain ⟨p, hp⟩ := hp
    rw [if_neg (by simp), hp]
    simp only [Option.bind_some]
    rw [ap1_ok hl]
    have hG : ({ name := f.name, proto := f.proto, six := f.point.addr.six, localF := f.localF, points := p } : Group) = grp s l n f := by unfold grp ptsOf; rw [hp]; rfl
    refine ⟨_, _, rfl, rfl, rfl, ?_, fun k => ?_⟩
    · simp only
      rw [hG, dd_snoc, keepL, if_neg (by rw [hb]; simp), List.map_append, hg]; rfl
    · simp only [List.any_append, List.any_cons, List.any_nil, Bool.or_false]
      rw [mget_mput, ← hi k, hG]
      show (if k = fid f then some ({ } : St85) else mget seen k).isSome = ((mget seen k).isSome || decide (fid f = k))
      by_cases hk : k = fid f
      · subst hk; simp
      · have hk2 : ¬ fid f = k := fun e => hk e.symm
        simp [hk, hk2]
theorem res_loop (s : Service) (l : List Slice) (n : Node) (hp : ∀ f, ∃ p, F26_Points l (F27_wanted s f n) = some p) : ∀ (fs pre : List Face) (r : Resolved) (seen : List (Id × St85)), r.groups = (dd fid pre).map (grp s l n) → InvR r.groups seen → pre.length + fs.length + 1 < LIM →
    ∃ r' seen', runAO (F10_Resolve_b1 s l n) fs (r, seen) = some (r', seen') ∧ r'.key = r.key ∧ r'.faces = r.faces ∧ r'.groups = (dd fid (pre ++ fs)).map (grp s l n)
  | [], pre, r, seen, hg, _, _ => ⟨r, seen, rfl, rfl, rfl, by rw [List.append_nil]; exact hg⟩
  | f :: fs, pre, r, seen, hg, hi, hl => by
    simp only [List.length_cons] at hl
    have hd := dd_len fid pre
    obtain ⟨r1, s1, h1, h2, h3, h4, h5⟩ := res_step s l n r f pre seen (hp f) hg hi (by rw [hg, List.length_map]; omega)
    obtain ⟨r2, s2, k1, k2, k3, k4⟩ := res_loop s l n hp fs (pre ++ [f]) r1 s1 h4 h5 (by simp; omega)
    refine ⟨r2, s2, by rw [runAO, h1]; exact k1, k2.trans h2, k3.trans h3, ?_⟩
    rw [k4]; simp
/-! ### the library's sort is the kit's -/
theorem sym_same : ∀ f : Nat, F78_Group_at f = symS_at f
  | 0 => rfl
  | f + 1 => by
    funext s a m b cf
    show F78_Group_body (F78_Group_at f) s a m b cf = symS_body (symS_at f) s a m b cf
    rw [sym_same f]; rfl
theorem symF_same : F78_Group = symS := by
  funext s a m b cf
  show F78_Group_at 64 s a m b cf = symS_at 64 s a m b cf
  rw [sym_same]
theorem stab1_same : F50_Group_b1 = stabS_b1 := rfl
theorem stab3_same : F50_Group_b3 = stabS_b3 := by
  funext n cf k s
  unfold F50_Group_b3 stabS_b3
  rw [symF_same]
theorem stab2_same : F50_Group_b2 = stabS_b2 := by
  funext n cf s
  unfold F50_Group_b2 stabS_b2
  rw [symF_same, stab3_same]
theorem stab_same : F50_Group = stabS := by
  funext s n cf
  unfold F50_Group stabS
  rw [stab2_same, stab1_same]
  have : F77_Group = insS := rfl
  rw [this]
theorem sortSt_same : F28_Group = sortSt := by
  funext s cf
  unfold F28_Group sortSt
  rw [stab_same]
structure Fit (s : Service) (l : List Slice) (n : Node) : Prop where
  s1 : ok_Service s
  n1 : ok_Node n
  l1 : ∀ x ∈ l, ok_Slice x
  h0 : s.ports.length ≤ 20
  h1 : s.cluster.length ≤ 20
  h2 : s.external.length ≤ 20
  h3 : s.balancers.length ≤ 20
  h4 : n.addrs.length ≤ 20
  l2 : l.length ≤ 20
  l3 : ∀ x ∈ l, Small x
theorem resolve_eq (s : Service) (l : List Slice) (n : Node) (h : Fit s l n) : ∃ fs ys, F10_Resolve s l n = some { key := s.key, faces := fs, groups := ys } ∧ F34_Faces s n = some fs ∧ fs.length ≤ 1600 ∧
    F28_Group ((dd fid fs).map (grp s l n)) (fun x y => F29_order x y) = some ys ∧ ys.Perm ((dd fid fs).map (grp s l n)) ∧ (∀ g ∈ ys, g.points.length < LIM) := by
  have hL : LIM = 4294967296 := rfl
  obtain ⟨fs, a1, a2, a3, a4, _⟩ := faces_eq s n h.s1 h.n1 h.h0 h.h1 h.h2 h.h3 h.h4
  have hp : ∀ f, ∃ p, F26_Points l (F27_wanted s f n) = some p ∧ p.length < LIM := fun f => by
    obtain ⟨r, e1, _, e2⟩ := points_eq l (F27_wanted s f n) h.l1 h.l2 h.l3
    exact ⟨r, e1, e2⟩
  obtain ⟨r', seen', b1, b2, b3, b4⟩ := res_loop s l n (fun f => ⟨_, (hp f).choose_spec.1⟩) fs [] ({ key := s.key, faces := fs, groups := [] } : Resolved) [] rfl (fun k => rfl) (by simp; omega)
  have hd := dd_len fid fs
  obtain ⟨ys, c1, c2⟩ := sortSt_ok (fun x y => F29_order x y) ((dd fid fs).map (grp s l n)) (by rw [List.length_map]; omega)
  have c1' : F28_Group ((dd fid fs).map (grp s l n)) (fun x y => F29_order x y) = some ys := by rw [sortSt_same]; exact c1
  refine ⟨fs, ys, ?_, a2, a4, c1', c2, fun g hg => ?_⟩
  · unfold F10_Resolve
    rw [a1]
    simp only [Option.bind_some]
    rw [b1]
    simp only [Option.bind_some]
    rw [b4, List.nil_append, c1', b2, b3]; rfl
  · obtain ⟨f, _, rfl⟩ := List.mem_map.1 (c2.mem_iff.1 hg)
    obtain ⟨p, e1, e2⟩ := hp f
    show (ptsOf s l n f).length < LIM
    unfold ptsOf; rw [e1]; exact e2

/-! ### a face's group -/
theorem alive21 : F6_alive = some true := by
  have hF : Fit aliveS [] aliveN := ⟨aliveS_ok, aliveN_ok, fun x hx => (by cases hx), by decide, by decide, by decide, by decide, by decide, by decide, fun x hx => (by cases hx)⟩
  obtain ⟨fs, ys, h1, h2, h3, h4, h5, h6⟩ := resolve_eq aliveS [] aliveN hF
  have hfs : fs = [{ proto := 6, point := { addr := { six := false, b := { e0 := 10, e1 := 0, e2 := 0, e3 := 1, e4 := 0, e5 := 0, e6 := 0, e7 := 0, e8 := 0, e9 := 0, e10 := 0, e11 := 0, e12 := 0, e13 := 0, e14 := 0, e15 := 0 } }, port := 80 }, name := ⟨#[104]⟩, how := 0, localF := false, asked := false }] := by
    have : F34_Faces aliveS aliveN = some [{ proto := 6, point := { addr := { six := false, b := { e0 := 10, e1 := 0, e2 := 0, e3 := 1, e4 := 0, e5 := 0, e6 := 0, e7 := 0, e8 := 0, e9 := 0, e10 := 0, e11 := 0, e12 := 0, e13 := 0, e14 := 0, e15 := 0 } }, port := 80 }, name := ⟨#[104]⟩, how := 0, localF := false, asked := false }] := by decide +kernel
    rw [this] at h2; exact (Option.some.inj h2).symm
  subst hfs
  have hpt : ∀ f, ptsOf aliveS [] aliveN f = [] := fun f => by
    obtain ⟨r, e1, e2, _⟩ := points_eq [] (F27_wanted aliveS f aliveN) (fun x hx => (by cases hx)) (by decide) (fun x hx => (by cases hx))
    unfold ptsOf
    rw [e1]
    have : F35_Points [] (F27_wanted aliveS f aliveN) = some [] := by
      unfold F35_Points
      rw [candsR_eq [] _ (fun x hx => (by cases hx)) (by decide)]
      simp only [Option.bind_some]
      rw [chooseR_eq _ _ (by show 0 < LIM; decide)]
      have hc : choose (dd pnt (cands (F27_wanted aliveS f aliveN) [])) (F27_wanted aliveS f aliveN) = [] := List.eq_nil_iff_forall_not_mem.2 fun x hx => by
        have := choose_sub hx
        cases this
      rw [hc]; rfl
    rw [this] at e2
    rw [← Option.some.inj e2]; rfl
  have hys : ys = [grp aliveS [] aliveN { proto := 6, point := { addr := { six := false, b := { e0 := 10, e1 := 0, e2 := 0, e3 := 1, e4 := 0, e5 := 0, e6 := 0, e7 := 0, e8 := 0, e9 := 0, e10 := 0, e11 := 0, e12 := 0, e13 := 0, e14 := 0, e15 := 0 } }, port := 80 }, name := ⟨#[104]⟩, how := 0, localF := false, asked := false }] := List.perm_singleton.1 h5
  unfold F6_alive
  unfold aliveS aliveN at h1
  rw [h1]
  simp only [Option.bind_some]
  rw [hys]
  simp only [List.length_singleton]
  have e0 : ∀ g : Group, ixO [g] 0 = some g := fun g => rfl
  simp only [e0, Option.bind_some]
  unfold grp
  simp only [hpt]
  decide +kernel
end Go.Proofs.YtgcneihmkkldeaaGreat
