/- The plain law of ResolveRaw: calls on whatever resolved services. No Go and no memory. -/
import Derived.Test.YtgcneihmkkldeaaGreatP21
namespace Go.Proofs.YtgcneihmkkldeaaGreat
open Go K
set_option linter.unusedVariables false

theorem pts_same (a b : List Point) : F21_SamePoin a b = some (decide (a = b)) := (show F21_SamePoin a b = eqG a b from rfl).trans (eqG_eq a b)
theorem faces_same (a b : List Face) : F39_Same a b = some (decide (a = b)) := (show F39_Same a b = eqG a b from rfl).trans (eqG_eq a b)
theorem pred_same (f : Face) (x : Group) : ((decide (x.name = f.name) && (x.six == f.point.addr.six)) && (x.localF == f.localF)) = decide (gid x = fid f) := by
  by_cases h : gid x = fid f
  · rw [decide_eq_true h]
    unfold gid fid at h
    simp only [Id.mk.injEq] at h
    simp [h.1, h.2.1, h.2.2]
  · rw [decide_eq_false h]
    unfold gid fid at h
    simp only [Id.mk.injEq] at h
    cases h1 : (decide (x.name = f.name)) <;> cases h2 : (x.six == f.point.addr.six) <;> cases h3 : (x.localF == f.localF) <;> simp_all
theorem find_same (gs : List Group) (f : Face) : F22_Find gs f.name f.point.addr.six f.localF = idxG gs (fun x => decide (gid x = fid f)) := by
  have h1 : F22_Find gs f.name f.point.addr.six f.localF = idxG gs (fun x => (decide (x.name = f.name) && (x.six == f.point.addr.six)) && (x.localF == f.localF)) := rfl
  rw [h1]
  congr 1
  funext x
  exact pred_same f x
theorem of_cases (r : Resolved) (f : Face) (hp : ∀ g ∈ r.groups, g.points.length < LIM) :
    (idxG r.groups (fun x => decide (gid x = fid f)) = -1 ∧ F11_Of r f = some ({ name := ⟨#[]⟩, proto := 0, six := false, localF := false, points := [] }, false)) ∨
    ∃ (i : Nat) (g : Group), idxG r.groups (fun x => decide (gid x = fid f)) = (i : Int) ∧ r.groups[i]? = some g ∧ F11_Of r f = some (g, true) := by
  have hx : F30_Group r.groups (fun x0 => F31_1 x0 f) = idxG r.groups (fun x => decide (gid x = fid f)) := rfl
  unfold F11_Of
  simp only [lt, hx]
  rw [idxG_eq]
  cases h : r.groups.findIdx? (fun x => decide (gid x = fid f)) with
  | none => exact .inl ⟨rfl, rfl⟩
  | some i =>
    obtain ⟨hlt, hpi, _⟩ := List.findIdx?_eq_some_iff_getElem.1 h
    refine .inr ⟨i, r.groups[i], rfl, List.getElem?_eq_getElem hlt, ?_⟩
    simp only
    rw [if_neg (by rw [decide_eq_true_eq]; omega), ix_lt hlt]
    simp only [Option.bind_some]
    unfold F33_Point
    rw [apO_ok (by simpa using hp _ (List.getElem_mem hlt))]
    rfl
theorem allow_step (r : Resolved) (p : Int) (q : Point) (f : Face) (hp : ∀ g ∈ r.groups, g.points.length < LIM) : ∃ o, F19_Allowed_b1 r p q f () = some o ∧ F20_Allowed_b1 r p q f () = some o := by
  unfold F19_Allowed_b1 F20_Allowed_b1
  simp only [lt, find_same]
  cases hb : (decide (f.proto = p) && decide (f.point = q)) with
  | false => exact ⟨_, rfl, rfl⟩
  | true =>
    simp only [if_true]
    rcases of_cases r f hp with ⟨h1, h2⟩ | ⟨i, g, h1, h2, h3⟩
    · rw [h1, h2]; exact ⟨_, rfl, rfl⟩
    · rw [h1, h3]
      refine ⟨_, rfl, ?_⟩
      rw [if_neg (by rw [decide_eq_true_eq]; omega), ixO_at h2]; rfl
theorem allow_loop (r : Resolved) (p : Int) (q : Point) (hp : ∀ g ∈ r.groups, g.points.length < LIM) : ∀ fs : List Face, ∃ o, runBO (F19_Allowed_b1 r p q) fs () = some o ∧ runBO (F20_Allowed_b1 r p q) fs () = some o
  | [] => ⟨_, rfl, rfl⟩
  | f :: fs => by
    obtain ⟨o, h1, h2⟩ := allow_step r p q f hp
    rw [runBO, runBO, h1, h2]
    cases o with
    | next u => exact allow_loop r p q hp fs
    | fin u => exact ⟨_, rfl, rfl⟩
    | ret v => exact ⟨_, rfl, rfl⟩
theorem allow_eq (r : Resolved) (p : Int) (q : Point) (hp : ∀ g ∈ r.groups, g.points.length < LIM) : ∃ y, F19_Allowed r p q = some y ∧ F20_Allowed r p q = some y := by
  obtain ⟨o, h1, h2⟩ := allow_loop r p q hp r.faces
  unfold F19_Allowed F20_Allowed
  rw [h1, h2]
  cases o with
  | ret v => exact ⟨_, rfl, rfl⟩
  | fin u => exact ⟨_, rfl, rfl⟩
theorem grp_same (a b : Group) : F43_sameGrou a b = decide (a = b) := by
  obtain ⟨n, p, s, l, ps⟩ := a
  obtain ⟨n', p', s', l', ps'⟩ := b
  show (((decide ((⟨n, s, l⟩ : Id) = ⟨n', s', l'⟩) && decide (p = p'))) && decide (ps = ps')) = _
  rw [← Bool.decide_and, ← Bool.decide_and]
  apply decide_eq_decide.2
  simp only [Id.mk.injEq, Group.mk.injEq]
  constructor
  · rintro ⟨⟨⟨h1, h2, h3⟩, h4⟩, h5⟩; exact ⟨h1, h4, h2, h3, h5⟩
  · rintro ⟨h1, h4, h2, h3, h5⟩; exact ⟨⟨⟨h1, h2, h3⟩, h4⟩, h5⟩
theorem same_eq (a b : Resolved) : F18_Same a b = some ((decide (a.key = b.key) && decide (a.faces = b.faces)) && decide (a.groups = b.groups)) := by
  unfold F18_Same
  have h1 : (fun x0 x1 => F43_sameGrou x0 x1) = fun x y : Group => decide (x = y) := funext fun x => funext fun y => grp_same x y
  have h2 : F42_Group a.groups b.groups (fun x y : Group => decide (x = y)) = eqG a.groups b.groups := rfl
  rw [h1, h2, eqG_eq]
  have h3 : (lt (decide (a.faces = b.faces)) fun y13 => y13) = decide (a.faces = b.faces) := rfl
  show (andO (decide (a.key = b.key) && decide (a.faces = b.faces)) ((some (decide (a.groups = b.groups))).bind fun y => some y)).bind (fun b => some b) = _
  cases (decide (a.key = b.key) && decide (a.faces = b.faces)) <;> simp [andO]
theorem sameB (b : Resolved) (x : Group) (s : Nat) : F16_Same_b1 b x s = eqB b.groups x s := by
  unfold F16_Same_b1 eqB
  cases h : ixO b.groups ((s : Nat) : Int) with
  | none => rfl
  | some y =>
    simp only [Option.bind_some, lt, pts_same]
    obtain ⟨n, p, si, l, ps⟩ := x
    obtain ⟨n', p', si', l', ps'⟩ := y
    simp only [Group.mk.injEq]
    by_cases h1 : n = n'
    · by_cases h2 : p = p'
      · by_cases h3 : si = si'
        · by_cases h4 : l = l'
          · by_cases h5 : ps = ps'
            · simp [h1, h2, h3, h4, h5, orO]
            · simp [h1, h2, h3, h4, h5, orO]
          · simp [h1, h2, h3, h4, orO]
        · simp [h1, h2, h3, orO]
      · simp [h1, h2, orO]
    · simp [h1, orO]
theorem sameR_eq21 (a b : Resolved) : F16_Same a b = some ((decide (a.key = b.key) && decide (a.faces = b.faces)) && decide (a.groups = b.groups)) := by
  unfold F16_Same
  rw [faces_same, show F16_Same_b1 b = eqB b.groups from funext fun x => funext fun s => sameB b x s]
  have hG := eqG_eq a.groups b.groups
  unfold eqG at hG
  by_cases h1 : a.key = b.key
  · by_cases h2 : a.faces = b.faces
    · by_cases h3 : ((a.groups.length : Nat) : Int) = ((b.groups.length : Nat) : Int)
      · rw [if_neg (by simp [h3])] at hG
        simp only [h1, h2, h3, decide_true, Bool.not_true, orO, Bool.false_eq_true, if_false, Option.bind_some, lt, Bool.or_false, Bool.true_and]
        exact hG
      · have h4 : a.groups ≠ b.groups := fun e => h3 (by rw [e])
        simp [h1, h2, h3, h4, orO, lt]
    · simp [h1, h2, orO, lt]
  · simp [h1, orO, lt]
theorem copy21 (r : Resolved) (hf : r.faces.length < LIM) (hg : r.groups.length < LIM) : F17_Of r = some r := by
  unfold F17_Of F40_Of
  rw [runAO_gather (fun _ => true) id (fun x s h => by unfold F40_Of_b1; rw [ap1_ok h]; simp) r.faces [] (by simpa using hf), filter_all, List.map_id]
  simp only [Option.bind_some, List.nil_append]
  have hl : ∀ (gs acc : List Group), acc.length + gs.length < LIM → runAO F17_Of_b1 gs ({ key := r.key, faces := r.faces, groups := acc } : Resolved) = some { key := r.key, faces := r.faces, groups := acc ++ gs } := by
    intro gs
    induction gs with
    | nil => intro acc _; simp [runAO]
    | cons e gs ih =>
      intro acc h
      simp only [List.length_cons] at h
      rw [runAO]
      have : F17_Of_b1 e ({ key := r.key, faces := r.faces, groups := acc } : Resolved) = some { key := r.key, faces := r.faces, groups := acc ++ [e] } := by
        unfold F17_Of_b1
        simp only
        rw [ap1_ok (by omega)]; rfl
      rw [this]
      simp only
      rw [ih (acc ++ [e]) (by simp; omega)]; simp
  rw [hl r.groups [] (by simpa using hg)]
  simp
theorem few21 : ∀ (gs : List Group) (o : Lp Bool Unit), runB F5_ResolveR_b1 gs () = o → (∃ u, o = .fin u) → ∀ g ∈ gs, g.points.length < LIM
  | [], _, _, _ => fun g hg => by cases hg
  | g :: gs, o, h, hf => by
    have hL : LIM = 4294967296 := rfl
    rw [runB] at h
    have hb : F5_ResolveR_b1 g () = if (decide (((g.points.length : Nat) : Int) > 60) || decide (((g.name.size : Nat) : Int) > 100)) = true then .ret true else .next () := rfl
    rw [hb] at h
    cases hc : (decide (((g.points.length : Nat) : Int) > 60) || decide (((g.name.size : Nat) : Int) > 100)) with
    | true =>
      rw [hc] at h
      simp only [if_true] at h
      obtain ⟨u, hu⟩ := hf
      rw [hu] at h; cases h
    | false =>
      rw [hc] at h
      simp only [Bool.false_eq_true, if_false] at h
      have := (Bool.or_eq_false_iff.1 hc).1
      rw [decide_eq_false_iff_not] at this
      intro x hx
      rcases List.mem_cons.1 hx with rfl | hx
      · omega
      · exact few21 gs o h hf x hx
theorem ret21 : ∀ (gs : List Group) (v : Bool), runB F5_ResolveR_b1 gs () = .ret v → v = true
  | [], v, h => by cases h
  | g :: gs, v, h => by
    rw [runB] at h
    have hb : F5_ResolveR_b1 g () = if (decide (((g.points.length : Nat) : Int) > 60) || decide (((g.name.size : Nat) : Int) > 100)) = true then .ret true else .next () := rfl
    rw [hb] at h
    cases hc : (decide (((g.points.length : Nat) : Int) > 60) || decide (((g.name.size : Nat) : Int) > 100)) with
    | true => rw [hc] at h; exact (Lp.ret.inj h).symm
    | false => rw [hc] at h; exact ret21 gs v h
theorem law_raw (r o : Resolved) (f : Face) : F5_ResolveR r o f = some true := by
  have hL : LIM = 4294967296 := rfl
  unfold F5_ResolveR
  rw [alive21]
  simp only [Option.bind_some]
  rw [if_neg (by simp)]
  refine lt_if (b := (((decide (((r.faces.length : Nat) : Int) > 30) || decide (((o.faces.length : Nat) : Int) > 30)) || decide (((r.groups.length : Nat) : Int) > 30)) || decide (((o.groups.length : Nat) : Int) > 30)) || decide (((f.name.size : Nat) : Int) > 100)) fun hg => ?_
  simp only [Bool.or_eq_false_iff, decide_eq_false_iff_not] at hg
  obtain ⟨⟨⟨⟨g1, g2⟩, g3⟩, g4⟩, g5⟩ := hg
  rw [apO_ok (by simp; omega)]
  simp only [Option.bind_some]
  rw [apO_ok (by simp; omega)]
  simp only [Option.bind_some, List.nil_append, lt]
  cases hr : runB F5_ResolveR_b1 (r.groups ++ o.groups) () with
  | ret v => rw [ret21 _ v hr]; rfl
  | fin u =>
    have hp := few21 _ _ hr ⟨u, rfl⟩
    have hpr : ∀ g ∈ r.groups, g.points.length < LIM := fun g h => hp g (by simp [h])
    simp only [Lp.elim]
    rw [copy21 r (by omega) (by omega)]
    simp only [Option.bind_some]
    rw [copy21 o (by omega) (by omega)]
    simp only [Option.bind_some]
    obtain ⟨y, ay, by'⟩ := allow_eq r f.proto f.point hpr
    have hrest : ((F19_Allowed r f.proto f.point).bind fun y1 => (F20_Allowed r f.proto f.point).bind fun y2 => (andO (y1.2 == y2.2) ((F21_SamePoin y1.1 y2.1).bind fun y3 => some y3)).bind fun b1 => (andO b1 ((F18_Same r o).bind fun y4 => (F16_Same r o).bind fun y5 => some (y4 == y5))).bind fun b2 => some b2) = some true := by
      rw [ay, by']
      simp [pts_same, andO, same_eq, sameR_eq21]
    rcases of_cases r f hpr with ⟨h1, h2⟩ | ⟨i, g, h1, h2, h3⟩
    · rw [h2]
      simp only [Option.bind_some, find_same, h1]
      exact hrest
    · rw [h3]
      simp only [Option.bind_some, find_same, h1]
      rw [ixO_at h2]
      have hi : decide ((i : Int) ≥ 0) = true := by rw [decide_eq_true_eq]; omega
      simp only [hi, Option.bind_some, pts_same, decide_true, orO, andO, beq_self_eq_true, Bool.not_true, Bool.false_eq_true, if_false, if_true]
      rw [ay, by']
      simp [same_eq, sameR_eq21]
end Go.Proofs.YtgcneihmkkldeaaGreat
