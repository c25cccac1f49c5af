/- The plain law of PickPoints: candidates of slices, each point once; the chosen ones' points in order. No Go and no memory. -/
import Derived.Test.YtgcneihmkkldeaaGreatP19
import Derived.Test.YtgcneihmkkldeaaGreatPP
namespace Go.Proofs.YtgcneihmkkldeaaGreat
open Go K
set_option linter.unusedVariables false

def pnt (c : Candidate) : Point := c.point
def cand (w : Want) (port : Int) (e : Endpoint) : Candidate := { point := { addr := e.addr, port := port }, localF := (!decide (e.node = (⟨#[]⟩ : ByteArray))) && decide (e.node = w.node), ready := e.ready, serving := e.serving, terminating := e.terminating, zones := e.zones }
def hit (w : Want) (s : Slice) (p : Port) : Bool := ((s.six == w.six) && decide (p.name = w.name)) && decide (p.proto = w.proto)
def cands1 (w : Want) (s : Slice) (p : Port) : List Candidate := if hit w s p = true then s.endpoints.map (cand w p.port) else []
def candsS (w : Want) (s : Slice) : List Candidate := s.ports.flatMap (cands1 w s)
def cands (w : Want) (l : List Slice) : List Candidate := l.flatMap (candsS w)
def Small (s : Slice) : Prop := s.ports.length ≤ 20 ∧ s.endpoints.length ≤ 30 ∧ ∀ e ∈ s.endpoints, e.zones.length ≤ 400
theorem flat_le {α β : Type} (f : α → List β) (k : Nat) : ∀ (l : List α), (∀ x ∈ l, (f x).length ≤ k) → (l.flatMap f).length ≤ k * l.length
  | [], _ => by simp
  | x :: l, h => by
    have h1 := h x (by simp)
    have h2 := flat_le f k l fun y hy => h y (by simp [hy])
    simp only [List.flatMap_cons, List.length_append, List.length_cons, Nat.mul_succ]; omega
theorem cands1_len (w : Want) (s : Slice) (p : Port) (h : Small s) : (cands1 w s p).length ≤ 30 := by
  unfold cands1; split
  · simpa using h.2.1
  · simp
theorem candsS_len (w : Want) (s : Slice) (h : Small s) : (candsS w s).length ≤ 600 := by
  have := flat_le (cands1 w s) 30 s.ports fun p _ => cands1_len w s p h
  have := h.1
  unfold candsS; omega
theorem cands_len (w : Want) (l : List Slice) (h : ∀ s ∈ l, Small s) : (cands w l).length ≤ 600 * l.length := flat_le _ _ _ fun s hs => candsS_len w s (h s hs)
theorem cands_ok (w : Want) {l : List Slice} (h : ∀ s ∈ l, ok_Slice s) : ∀ c ∈ cands w l, ok_Addr c.point.addr := by
  intro c hc
  obtain ⟨s, hs, h1⟩ := List.mem_flatMap.1 hc
  obtain ⟨p, _, h2⟩ := List.mem_flatMap.1 h1
  unfold cands1 at h2
  split at h2
  · obtain ⟨e, he, rfl⟩ := List.mem_map.1 h2
    exact ((h s hs).2.2.2.2 e he).1
  · cases h2

/-! ### the program -/
def InvC (out : List Candidate) (seen : List (Point × St85)) : Prop := ∀ k, (mget seen k).isSome = out.any (fun c => decide (pnt c = k))
theorem cand_eq (w : Want) (e : Endpoint) (port : Int) (h : e.zones.length ≤ 400) : F73_candidat w e port = some (cand w port e) := by
  have hL : LIM = 4294967296 := rfl
  unfold F73_candidat F98_string
  simp only [lt]
  rw [apO_ok (by simp; omega)]
  rfl
theorem take_eq (c : Candidate) (seen : List (Point × St85)) (out : List Candidate) (hi : InvC out seen) (hl : out.length + 1 < LIM) :
    ∃ seen', F71_1 c seen out = some (seen', keepL pnt out c) ∧ InvC (keepL pnt out c) seen' := by
  have h0 := hi c.point
  unfold F71_1
  rw [h0]
  have e : (out.any fun x => decide (pnt x = c.point)) = out.any (fun y => decide (pnt y = pnt c)) := rfl
  rw [e]
  unfold keepL
  cases hb : out.any (fun y => decide (pnt y = pnt c)) with
  | true => exact ⟨seen, by simp, by simpa using hi⟩
  | false =>
    simp only [Bool.not_false, if_true, Bool.false_eq_true, if_false]
    rw [ap1_ok hl]
    refine ⟨_, rfl, fun k => ?_⟩
    simp only [List.any_append, List.any_cons, List.any_nil, Bool.or_false]
    rw [mget_mput, ← hi k]
    by_cases hk : k = c.point
    · subst hk; simp [pnt]
    · have hk2 : ¬ pnt c = k := fun e => hk e.symm
      simp [hk, hk2]
theorem keepC_len {fs : List Candidate} : ∀ acc : List Candidate, (fs.foldl (keepL pnt) acc).length ≤ acc.length + fs.length := by
  induction fs with
  | nil => intro acc; simp
  | cons f fs ih =>
    intro acc
    have := ih (keepL pnt acc f)
    have h2 : (keepL pnt acc f).length ≤ acc.length + 1 := by unfold keepL; split <;> simp
    simp only [List.foldl_cons, List.length_cons]; omega
theorem ends_loop (w : Want) (p : Port) : ∀ (es : List Endpoint) (out : List Candidate) (seen : List (Point × St85)), (∀ e ∈ es, e.zones.length ≤ 400) → InvC out seen → out.length + es.length < LIM →
    ∃ seen', runAO (F48_Candidat_b3 w p) es (out, seen) = some ((es.map (cand w p.port)).foldl (keepL pnt) out, seen') ∧ InvC ((es.map (cand w p.port)).foldl (keepL pnt) out) seen'
  | [], out, seen, _, hi, _ => ⟨seen, rfl, hi⟩
  | e :: es, out, seen, hz, hi, hl => by
    simp only [List.length_cons] at hl
    obtain ⟨s1, h1, h2⟩ := take_eq (cand w p.port e) seen out hi (by omega)
    have hk : (keepL pnt out (cand w p.port e)).length ≤ out.length + 1 := by unfold keepL; split <;> simp
    obtain ⟨s2, k1, k2⟩ := ends_loop w p es _ s1 (fun x hx => hz x (by simp [hx])) h2 (by omega)
    refine ⟨s2, ?_, k2⟩
    rw [runAO]
    have : F48_Candidat_b3 w p e (out, seen) = some (keepL pnt out (cand w p.port e), s1) := by
      unfold F48_Candidat_b3
      rw [cand_eq w e p.port (hz e (by simp))]
      simp only [Option.bind_some]
      rw [h1]; rfl
    rw [this]; exact k1
theorem pt_eq (w : Want) (s : Slice) (p : Port) (out : List Candidate) (seen : List (Point × St85)) (hs : Small s) (hx : (s.six == w.six) = true) (hi : InvC out seen) (hl : out.length + 30 < LIM) :
    ∃ seen', F48_Candidat_b2 w s p (out, seen) = some ((cands1 w s p).foldl (keepL pnt) out, seen') ∧ InvC ((cands1 w s p).foldl (keepL pnt) out) seen' := by
  have hm : F72_matches w p = hit w s p := by unfold F72_matches hit; simp only [lt, hx, Bool.true_and]
  unfold F48_Candidat_b2
  simp only [lt, hm]
  unfold cands1
  cases hb : hit w s p with
  | false => exact ⟨seen, by simp, by simpa using hi⟩
  | true =>
    have := hs.2.1
    obtain ⟨s1, h1, h2⟩ := ends_loop w p s.endpoints out seen hs.2.2 hi (by omega)
    refine ⟨s1, ?_, by simpa using h2⟩
    simp only [Bool.not_true, Bool.false_eq_true, if_false, if_true]
    rw [h1]; rfl
theorem pts_loop (w : Want) (s : Slice) (hs : Small s) (hx : (s.six == w.six) = true) : ∀ (ps : List Port) (out : List Candidate) (seen : List (Point × St85)), InvC out seen → out.length + 30 * ps.length + 30 < LIM →
    ∃ seen', runAO (F48_Candidat_b2 w s) ps (out, seen) = some ((ps.flatMap (cands1 w s)).foldl (keepL pnt) out, seen') ∧ InvC ((ps.flatMap (cands1 w s)).foldl (keepL pnt) out) seen'
  | [], out, seen, hi, _ => ⟨seen, rfl, hi⟩
  | p :: ps, out, seen, hi, hl => by
    simp only [List.length_cons] at hl
    obtain ⟨s1, h1, h2⟩ := pt_eq w s p out seen hs hx hi (by omega)
    have hk := @keepC_len (cands1 w s p) out
    have := cands1_len w s p hs
    obtain ⟨s2, k1, k2⟩ := pts_loop w s hs hx ps _ s1 h2 (by omega)
    rw [List.flatMap_cons, List.foldl_append]
    exact ⟨s2, by rw [runAO, h1]; exact k1, k2⟩
theorem slice_eq (w : Want) (s : Slice) (out : List Candidate) (seen : List (Point × St85)) (hs : Small s) (hi : InvC out seen) (hl : out.length + 630 < LIM) :
    ∃ seen', F48_Candidat_b1 w s (out, seen) = some ((candsS w s).foldl (keepL pnt) out, seen') ∧ InvC ((candsS w s).foldl (keepL pnt) out) seen' := by
  unfold F48_Candidat_b1 candsS
  cases hx : (s.six == w.six) with
  | false =>
    have : s.ports.flatMap (cands1 w s) = [] := by
      rw [List.flatMap_eq_nil_iff]
      intro p _
      unfold cands1 hit
      rw [hx]; simp
    rw [this]
    exact ⟨seen, by simp, hi⟩
  | true =>
    have := hs.1
    obtain ⟨s1, h1, h2⟩ := pts_loop w s hs hx s.ports out seen hi (by omega)
    refine ⟨s1, ?_, h2⟩
    simp only [Bool.not_true, Bool.false_eq_true, if_false]
    rw [h1]; rfl
theorem slices_loop (w : Want) : ∀ (l : List Slice) (out : List Candidate) (seen : List (Point × St85)), (∀ s ∈ l, Small s) → InvC out seen → out.length + 600 * l.length + 630 < LIM →
    ∃ seen', runAO (F48_Candidat_b1 w) l (out, seen) = some ((cands w l).foldl (keepL pnt) out, seen')
  | [], out, seen, _, hi, _ => ⟨seen, rfl⟩
  | s :: l, out, seen, hs, hi, hl => by
    simp only [List.length_cons] at hl
    obtain ⟨s1, h1, h2⟩ := slice_eq w s out seen (hs s (by simp)) hi (by omega)
    have hk := @keepC_len (candsS w s) out
    have := candsS_len w s (hs s (by simp))
    obtain ⟨s2, k1⟩ := slices_loop w l _ s1 (fun x hx => hs x (by simp [hx])) h2 (by omega)
    unfold cands at k1 ⊢
    rw [List.flatMap_cons, List.foldl_append]
    exact ⟨s2, by rw [runAO, h1]; exact k1⟩
theorem cands_eq (l : List Slice) (w : Want) (hs : ∀ s ∈ l, Small s) (hl : l.length ≤ 20) : F48_Candidat l w = some (dd pnt (cands w l)) := by
  have hL : LIM = 4294967296 := rfl
  obtain ⟨s1, h1⟩ := slices_loop w l [] [] hs (fun k => rfl) (by simp; omega)
  unfold F48_Candidat
  rw [h1]; rfl

/-! ### the reference -/
theorem filter_all {α : Type} (l : List α) : l.filter (fun _ => true) = l := by simp
theorem node_eq (b : ByteArray) : decide (((b.size : Nat) : Int) > 0) = !decide (b = (⟨#[]⟩ : ByteArray)) := by
  by_cases h : b = ⟨#[]⟩
  · subst h; rfl
  · have : b.size ≠ 0 := fun e => h (by
      obtain ⟨⟨l⟩⟩ := b
      have : l = [] := List.eq_nil_of_length_eq_zero e
      subst this; rfl)
    rw [decide_eq_true (by omega)]; simp [h]
theorem refends (w : Want) (s : Slice) (p : Port) (acc : List Candidate) (h : acc.length + s.endpoints.length < LIM) : F57_Candidat_b2 w s p acc = some (acc ++ cands1 w s p) := by
  unfold F57_Candidat_b2
  rw [runAO_gather (fun _ => hit w s p) (cand w p.port) (fun e a ha => by
    unfold F57_Candidat_b3
    simp only [lt]
    rw [ap1_ok ha, node_eq]
    show (if hit w s p = true then _ else _) = _
    cases hit w s p <;> rfl) s.endpoints acc h]
  unfold cands1
  cases hit w s p with
  | false => simp
  | true => simp only [if_true]; rw [filter_all]; rfl
theorem refports (w : Want) (s : Slice) (hs : Small s) : ∀ (ps : List Port) (acc : List Candidate), acc.length + 30 * ps.length + 30 < LIM → runAO (F57_Candidat_b2 w s) ps acc = some (acc ++ ps.flatMap (cands1 w s))
  | [], acc, _ => by simp [runAO]
  | p :: ps, acc, hl => by
    simp only [List.length_cons] at hl
    have := cands1_len w s p hs
    have := hs.2.1
    rw [runAO, refends w s p acc (by omega)]
    simp only
    rw [refports w s hs ps _ (by simp; omega)]
    simp
theorem refslices (w : Want) : ∀ (l : List Slice) (acc : List Candidate), (∀ s ∈ l, Small s) → acc.length + 600 * l.length + 630 < LIM → runAO (F57_Candidat_b1 w) l acc = some (acc ++ cands w l)
  | [], acc, _, _ => by simp [runAO, cands]
  | s :: l, acc, hs, hl => by
    simp only [List.length_cons] at hl
    have h0 := hs s (by simp)
    have := candsS_len w s h0
    have := h0.1
    rw [runAO]
    have e : F57_Candidat_b1 w s acc = some (acc ++ candsS w s) := by
      unfold F57_Candidat_b1
      rw [refports w s h0 s.ports acc (by omega)]; rfl
    rw [e]
    simp only
    rw [refslices w l _ (fun x hx => hs x (by simp [hx])) (by simp; omega)]
    simp [cands]
theorem noneC_loop (x : Candidate) : ∀ (l : List Candidate) (b : Bool), runA (F57_Candidat_b5 x) l b = (b && !l.any (fun y => decide (pnt y = pnt x)))
  | [], b => by simp [runA]
  | y :: l, b => by
    rw [runA, noneC_loop x l]
    have : F57_Candidat_b5 x y b = (b && !decide (pnt y = pnt x)) := rfl
    rw [this]
    simp [Bool.and_assoc]
theorem firstC_loop (all : List Candidate) (hl : all.length + 1 < LIM) : ∀ (xs pre : List Candidate), pre ++ xs = all → runAO (F57_Candidat_b4 all all) xs (pre.length, dd pnt pre) = some (all.length, dd pnt all)
  | [], pre, h => by rw [List.append_nil] at h; subst h; rfl
  | x :: xs, pre, h => by
    have hlen : pre.length + (xs.length + 1) = all.length := by rw [← h]; simp
    have hd := dd_len pnt pre
    rw [runAO]
    have e : F57_Candidat_b4 all all x (pre.length, dd pnt pre) = some (pre.length + 1, dd pnt (pre ++ [x])) := by
      unfold F57_Candidat_b4
      have e0 : ((0 : Nat) : Int) = 0 := rfl
      rw [← e0, slO_ok (Nat.zero_le _) (by show pre.length ≤ all.length; omega)]
      have ht : (all.drop 0).take (pre.length - 0) = pre := by rw [List.drop_zero, Nat.sub_zero, ← h, List.take_left]
      simp only [Option.bind_some, lt, noneC_loop, Bool.true_and]
      rw [ht, dd_snoc, keepL, dd_any]
      cases hb : pre.any (fun y => decide (pnt y = pnt x)) with
      | true => simp
      | false => simp only [Bool.not_false, if_true]; rw [ap1_ok (by omega)]; simp
    rw [e]
    have := firstC_loop all hl xs (pre ++ [x]) (by rw [← h]; simp)
    simp only [List.length_append, List.length_singleton] at this
    exact this
theorem candsR_eq (l : List Slice) (w : Want) (hs : ∀ s ∈ l, Small s) (hl : l.length ≤ 20) : F57_Candidat l w = some (dd pnt (cands w l)) := by
  have hL : LIM = 4294967296 := rfl
  have := cands_len w l hs
  unfold F57_Candidat
  rw [refslices w l [] hs (by simp; omega), List.nil_append]
  simp only [Option.bind_some]
  have hf : runAO (F57_Candidat_b4 (cands w l) (cands w l)) (cands w l) (0, []) = some ((cands w l).length, dd pnt (cands w l)) := firstC_loop (cands w l) (by omega) (cands w l) [] rfl
  rw [hf]; rfl

/-! ### points in order -/
theorem sortP_eq (ps : List Point) (hp : ∀ p ∈ ps, ok_Addr p.addr) (hl : ps.length < LIM) : ∃ r, F49_Sort ps = some r ∧ F58_Sort ps = some r ∧ r.length ≤ ps.length := by
  have hsto : STO (ltK (keyP keyA)) := ltK_sto fun a b => keyP_inj
  have hswo : Go.Sort.SWO (ltC F75_Compare) := by
    have : ltC F75_Compare = ltK (keyP keyN) := funext fun a => funext fun b => ltC_key (pt_cmp a b)
    rw [this]; exact swo_key _
  obtain ⟨ys, r1, b1, b2, b3, b4, b5⟩ := srt_eq hsto F75_Compare hswo Point.z ps (fun x hx y hy => by
    rw [ltC_key (pt_cmp x y)]; unfold ltK; rw [keyPN_ok (hp x hx), keyPN_ok (hp y hy)]) hl
  obtain ⟨r2, c1, c2, c3, c4⟩ := insG_eq hsto F84_Compare (fun p => ok_Addr p.addr) (fun z y hz hy => ⟨_, pt_cmpR z y hz hy, rfl⟩) ps hp hl
  have he : r2 = r1 := K.Ord.ext hsto _ _ c2 b3 fun x => (c4 x).trans (b5 x).symm
  subst he
  refine ⟨r2, ?_, c1, b4⟩
  unfold F49_Sort F33_Point
  rw [apO_ok (by simpa using hl)]
  simp only [Option.bind_some, List.nil_append]
  have e1 : F74_slices_SortFunc ps (fun x0 x1 => F75_Compare x0 x1) = some ys := b1
  have e2 : F76_Point ys = some r2 := b2
  rw [e1]; simp only [Option.bind_some]
  rw [e2]; rfl

/-! ### guards, copies -/
theorem usable_sub {xs : List Candidate} {x : Candidate} (h : x ∈ usable xs) : x ∈ xs := by
  unfold usable at h
  split at h <;> exact (List.mem_filter.1 h).1
theorem choose_sub {xs : List Candidate} {w : Want} {x : Candidate} (h : x ∈ choose xs w) : x ∈ xs := by
  unfold choose at h
  split at h
  · exact (List.mem_filter.1 (usable_sub h)).1
  · split at h
    · exact (List.mem_filter.1 h).1
    · exact usable_sub h
theorem copy1 (s : Slice) (hs : Small s) : F38_Slice s = some s := by
  have hL : LIM = 4294967296 := rfl
  have h1 := hs.1
  have h2 := hs.2.1
  unfold F38_Slice F37_ports
  rw [runAO_gather (fun _ => true) id (fun x s h => by unfold F37_ports_b1; rw [ap1_ok h]; simp) s.ports [] (by simp; omega), filter_all, List.map_id]
  simp only [Option.bind_some, List.nil_append]
  have hl : ∀ (es acc : List Endpoint), acc.length + es.length < LIM → runAO F38_Slice_b1 es ({ key := s.key, service := s.service, six := s.six, ports := s.ports, endpoints := acc } : Slice) = some { key := s.key, service := s.service, six := s.six, ports := s.ports, endpoints := acc ++ es } := by
    intro es
    induction es with
    | nil => intro acc _; simp [runAO]
    | cons e es ih =>
      intro acc h
      simp only [List.length_cons] at h
      rw [runAO]
      have : F38_Slice_b1 e ({ key := s.key, service := s.service, six := s.six, ports := s.ports, endpoints := acc } : Slice) = some { key := s.key, service := s.service, six := s.six, ports := s.ports, endpoints := acc ++ [e] } := by
        unfold F38_Slice_b1
        simp only
        rw [ap1_ok (by omega)]; rfl
      rw [this]
      simp only
      rw [ih (acc ++ [e]) (by simp; omega)]; simp
  rw [hl s.endpoints [] (by simp; omega)]
  simp
theorem copies (l : List Slice) (hs : ∀ s ∈ l, Small s) : ∀ acc : List Slice, acc.length + l.length < LIM → runAO F14_Slices_b1 l acc = some (acc ++ l) := by
  induction l with
  | nil => intro acc _; simp [runAO]
  | cons s l ih =>
    intro acc h
    simp only [List.length_cons] at h
    rw [runAO]
    have : F14_Slices_b1 s acc = some (acc ++ [s]) := by
      unfold F14_Slices_b1
      rw [copy1 s (hs s (by simp))]
      simp only [Option.bind_some]
      rw [ap1_ok (by omega)]; rfl
    rw [this]
    simp only
    rw [ih (fun x hx => hs x (by simp [hx])) _ (by simp; omega)]; simp
theorem points_eq (l : List Slice) (w : Want) (hok : ∀ s ∈ l, ok_Slice s) (h20 : l.length ≤ 20) (hs : ∀ s ∈ l, Small s) : ∃ r, F26_Points l w = some r ∧ F35_Points l w = some r ∧ r.length < LIM := by
  have hL : LIM = 4294967296 := rfl
  have hcl := cands_len w l hs
  have hdl := dd_len pnt (cands w l)
  have hlt : (dd pnt (cands w l)).length < LIM := by omega
  have hch := choose_len (dd pnt (cands w l)) w
  have hpo : ∀ p ∈ (choose (dd pnt (cands w l)) w).map pnt, ok_Addr p.addr := by
    intro p hp
    obtain ⟨c, hc, rfl⟩ := List.mem_map.1 hp
    exact cands_ok w hok c (dd_sub pnt _ c (choose_sub hc))
  obtain ⟨r, s1, s2, s3⟩ := sortP_eq _ hpo (by rw [List.length_map]; omega)
  have e2 : F26_Points l w = some r := by
    unfold F26_Points
    rw [cands_eq l w hs h20]
    simp only [Option.bind_some]
    rw [choose_eq _ w hlt]
    simp only [Option.bind_some]
    rw [runAO_gather (fun _ => true) pnt (fun x s h => by unfold F26_Points_b1; rw [ap1_ok h]; rfl) _ [] (by simp; omega), filter_all, List.nil_append]
    simp only [Option.bind_some]
    rw [s1]; rfl
  have e3 : F35_Points l w = some r := by
    unfold F35_Points
    rw [candsR_eq l w hs h20]
    simp only [Option.bind_some]
    rw [chooseR_eq _ w hlt]
    simp only [Option.bind_some]
    rw [runAO_gather (fun _ => true) pnt (fun x s h => by unfold F35_Points_b1; rw [ap1_ok h]; rfl) _ [] (by simp; omega), filter_all, List.nil_append]
    simp only [Option.bind_some]
    rw [s2]; rfl
  exact ⟨r, e2, e3, by rw [List.length_map] at s3; omega⟩
end Go.Proofs.YtgcneihmkkldeaaGreat
