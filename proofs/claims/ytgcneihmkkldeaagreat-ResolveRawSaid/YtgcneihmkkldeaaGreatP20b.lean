/- The plain law of FaceOf: the faces of a service, each place once, in order. No Go and no memory. -/
import Derived.Test.YtgcneihmkkldeaaGreatP20
namespace Go.Proofs.YtgcneihmkkldeaaGreat
open Go K
set_option linter.unusedVariables false

def plc (f : Face) : Place := { proto := f.proto, point := f.point }
def okF (f : Face) : Prop := ok_Addr f.point.addr
/-! ### the faces made, one behind the other -/
def at' (f : Face) (a : Addr) : Face := { proto := f.proto, point := { addr := a, port := f.point.port }, name := f.name, how := f.how, localF := f.localF, asked := f.asked }
def fC (s : Service) (p : Port) : Face := { proto := p.proto, point := { addr := Addr.z, port := p.port }, name := p.name, how := 0, localF := s.internalLocal, asked := false }
def fE (s : Service) (p : Port) : Face := { proto := p.proto, point := { addr := Addr.z, port := p.port }, name := p.name, how := 1, localF := s.externalLocal, asked := false }
def fB (s : Service) (p : Port) : Face := { proto := p.proto, point := { addr := Addr.z, port := p.port }, name := p.name, how := 2, localF := s.externalLocal, asked := decide (((s.ranges.length : Nat) : Int) > 0) }
def fN (s : Service) (p : Port) : Face := { proto := p.proto, point := { addr := Addr.z, port := p.outer }, name := p.name, how := 3, localF := s.externalLocal, asked := false }
def made1 (s : Service) (n : Node) (p : Port) : List Face := s.cluster.map (at' (fC s p)) ++ s.external.map (at' (fE s p)) ++ s.balancers.map (at' (fB s p)) ++ (if p.outer = 0 then [] else n.addrs.map (at' (fN s p)))
def made (s : Service) (n : Node) (ps : List Port) : List Face := ps.flatMap (made1 s n)
theorem made1_len (s : Service) (n : Node) (p : Port) (h1 : s.cluster.length ≤ 20) (h2 : s.external.length ≤ 20) (h3 : s.balancers.length ≤ 20) (h4 : n.addrs.length ≤ 20) : (made1 s n p).length ≤ 80 := by
  unfold made1
  simp only [List.length_append, List.length_map]
  split <;> simp <;> omega
theorem made_len (s : Service) (n : Node) (h1 : s.cluster.length ≤ 20) (h2 : s.external.length ≤ 20) (h3 : s.balancers.length ≤ 20) (h4 : n.addrs.length ≤ 20) : ∀ ps : List Port, (made s n ps).length ≤ 80 * ps.length
  | [] => by simp [made]
  | p :: ps => by
    have := made1_len s n p h1 h2 h3 h4
    have ih := made_len s n h1 h2 h3 h4 ps
    unfold made at ih ⊢
    simp only [List.flatMap_cons, List.length_append, List.length_cons]; omega
theorem made_ok {s : Service} {n : Node} (hs : ok_Service s) (hn : ok_Node n) (ps : List Port) : ∀ f ∈ made s n ps, okF f := by
  intro f hf
  obtain ⟨p, _, hp⟩ := List.mem_flatMap.1 hf
  unfold made1 at hp
  simp only [List.mem_append, List.mem_map] at hp
  rcases hp with ((⟨a, ha, rfl⟩ | ⟨a, ha, rfl⟩) | ⟨a, ha, rfl⟩) | hp
  · exact hs.2.2.1 a ha
  · exact hs.2.2.2.1 a ha
  · exact hs.2.2.2.2.1 a ha
  · split at hp
    · cases hp
    · obtain ⟨a, ha, rfl⟩ := List.mem_map.1 hp
      exact hn.2.2 a ha

/-! ### the program: a place that is known is let go -/
def Inv (r : Row_2) : Prop := ∀ k, (mget r.seen k).isSome = r.list.any (fun g => decide (plc g = k))
theorem put_eq (r : Row_2) (f : Face) (hi : Inv r) (hl : r.list.length + 1 < LIM) : ∃ r', F60_put r f = some r' ∧ Inv r' ∧ r'.list = keepL plc r.list f ∧ r'.list.length ≤ r.list.length + 1 := by
  have h0 := hi (plc f)
  unfold F60_put
  have e : (mget r.seen ({ proto := f.proto, point := f.point } : Place)).isSome = r.list.any (fun g => decide (plc g = plc f)) := h0
  rw [e]
  cases hb : r.list.any (fun g => decide (plc g = plc f)) with
  | true =>
    refine ⟨r, by simp, hi, ?_, by omega⟩
    unfold keepL; rw [if_pos hb]
  | false =>
    rw [if_neg (by simp), ap1_ok hl]
    refine ⟨_, rfl, fun k => ?_, ?_, by simp⟩
    · simp only [List.any_append, List.any_cons, List.any_nil, Bool.or_false]
      rw [mget_mput, ← hi k]
      by_cases hk : k = plc f
      · subst hk; simp [plc]
      · have hk' : ¬ k = ({ proto := f.proto, point := f.point } : Place) := hk
        have hk2 : ¬ plc f = k := fun e => hk e.symm
        simp [hk', hk2]
    · unfold keepL; rw [if_neg (by rw [hb]; simp)]
theorem keep_len {fs : List Face} : ∀ acc : List Face, (fs.foldl (keepL plc) acc).length ≤ acc.length + fs.length := by
  induction fs with
  | nil => intro acc; simp
  | cons f fs ih =>
    intro acc
    have := ih (keepL plc acc f)
    have h2 : (keepL plc acc f).length ≤ acc.length + 1 := by unfold keepL; split <;> simp
    simp only [List.foldl_cons, List.length_cons]; omega
theorem all_loop : ∀ (us : List Addr) (r : Row_2) (f : Face), Inv r → r.list.length + us.length < LIM → ∃ r' f', runAO F45_all_b1 us (r, f) = some (r', f') ∧ Inv r' ∧ r'.list = (us.map (at' f)).foldl (keepL plc) r.list
  | [], r, f, hi, _ => ⟨r, f, rfl, hi, rfl⟩
  | a :: us, r, f, hi, hl => by
    simp only [List.length_cons] at hl
    obtain ⟨r1, h1, h2, h3, h4⟩ := put_eq r (at' f a) hi (by omega)
    obtain ⟨r2, f2, k1, k2, k3⟩ := all_loop us r1 (at' f a) h2 (by omega)
    refine ⟨r2, f2, ?_, k2, ?_⟩
    · rw [runAO]
      have : F45_all_b1 a (r, f) = some (r1, at' f a) := by
        show (F60_put r (at' f a)).bind _ = _
        rw [h1]; rfl
      rw [this]; exact k1
    · rw [k3, h3]; rfl
theorem all_eq (us : List Addr) (r : Row_2) (f : Face) (hi : Inv r) (hl : r.list.length + us.length < LIM) : ∃ r', F45_all r us f = some r' ∧ Inv r' ∧ r'.list = (us.map (at' f)).foldl (keepL plc) r.list ∧ r'.list.length ≤ r.list.length + us.length := by
  obtain ⟨r', f', h1, h2, h3⟩ := all_loop us r f hi hl
  refine ⟨r', ?_, h2, h3, ?_⟩
  · unfold F45_all; rw [h1]; rfl
  · have := @keep_len (us.map (at' f)) r.list
    rw [h3]; simpa using this
theorem port_eq (s : Service) (n : Node) (p : Port) (r : Row_2) (hi : Inv r) (h1 : s.cluster.length ≤ 20) (h2 : s.external.length ≤ 20) (h3 : s.balancers.length ≤ 20) (h4 : n.addrs.length ≤ 20) (hl : r.list.length + 80 < LIM) :
    ∃ r', F24_Faces_b1 s n p r = some r' ∧ Inv r' ∧ r'.list = (made1 s n p).foldl (keepL plc) r.list := by
  obtain ⟨r1, a1, a2, a3, a4⟩ := all_eq s.cluster r (fC s p) hi (by omega)
  obtain ⟨r2, b1, b2, b3, b4⟩ := all_eq s.external r1 (fE s p) a2 (by omega)
  obtain ⟨r3, c1, c2, c3, c4⟩ := all_eq s.balancers r2 (fB s p) b2 (by omega)
  obtain ⟨r4, d1, d2, d3, d4⟩ := all_eq n.addrs r3 (fN s p) c2 (by omega)
  unfold F24_Faces_b1
  simp only [fC, fE, fB, fN] at a1 b1 c1 d1
  rw [a1]; simp only [Option.bind_some]
  rw [b1]; simp only [Option.bind_some]
  rw [c1]; simp only [Option.bind_some]
  by_cases h : p.outer = 0
  · refine ⟨r3, by simp [h], c2, ?_⟩
    unfold made1
    rw [if_pos h, List.append_nil, List.foldl_append, List.foldl_append, ← a3, ← b3, ← c3]
  · rw [if_pos (by simp [h]), d1]
    refine ⟨r4, rfl, d2, ?_⟩
    unfold made1
    rw [if_neg h, List.foldl_append, List.foldl_append, List.foldl_append, ← a3, ← b3, ← c3, ← d3]
theorem ports_loop (s : Service) (n : Node) (h1 : s.cluster.length ≤ 20) (h2 : s.external.length ≤ 20) (h3 : s.balancers.length ≤ 20) (h4 : n.addrs.length ≤ 20) : ∀ (ps : List Port) (r : Row_2), Inv r → r.list.length + 80 * ps.length + 80 < LIM →
    ∃ r', runAO (F24_Faces_b1 s n) ps r = some r' ∧ Inv r' ∧ r'.list = (made s n ps).foldl (keepL plc) r.list
  | [], r, hi, _ => ⟨r, rfl, hi, rfl⟩
  | p :: ps, r, hi, hl => by
    simp only [List.length_cons] at hl
    obtain ⟨r1, a1, a2, a3⟩ := port_eq s n p r hi h1 h2 h3 h4 (by omega)
    have hl1 : r1.list.length ≤ r.list.length + 80 := by
      have := @keep_len (made1 s n p) r.list
      have := made1_len s n p h1 h2 h3 h4
      rw [a3]; omega
    obtain ⟨r2, b1, b2, b3⟩ := ports_loop s n h1 h2 h3 h4 ps r1 a2 (by omega)
    refine ⟨r2, by rw [runAO, a1]; exact b1, b2, ?_⟩
    rw [b3, a3]; unfold made; rw [List.flatMap_cons, List.foldl_append]

/-! ### the reference: all of them, then each place once -/
theorem filter_allF {α : Type} (l : List α) : l.filter (fun _ => true) = l := by simp
theorem refport_eq (s : Service) (n : Node) (p : Port) (acc : List Face) (h1 : s.cluster.length ≤ 20) (h2 : s.external.length ≤ 20) (h3 : s.balancers.length ≤ 20) (h4 : n.addrs.length ≤ 20) (hl : acc.length + 80 < LIM) :
    F34_Faces_b1 s n p acc = some (acc ++ made1 s n p) := by
  have ga : ∀ (body : Addr → List Face → Option (List Face)) (f : Face), (∀ x s, s.length + 1 < LIM → body x s = some (s ++ [at' f x])) → ∀ (xs : List Addr) (s : List Face), s.length + xs.length < LIM → runAO body xs s = some (s ++ xs.map (at' f)) := by
    intro body f hb xs s hl
    rw [runAO_gather (fun _ => true) (at' f) (fun x s h => by rw [hb x s h]; simp) xs s hl, filter_allF]
  unfold F34_Faces_b1
  rw [ga _ (fC s p) (fun x s' h => by unfold F34_Faces_b2; rw [ap1_ok h]; rfl) s.cluster acc (by omega)]
  simp only [Option.bind_some]
  rw [ga _ (fE s p) (fun x s' h => by unfold F34_Faces_b3; rw [ap1_ok h]; rfl) s.external _ (by simp; omega)]
  simp only [Option.bind_some]
  rw [ga _ (fB s p) (fun x s' h => by unfold F34_Faces_b4; rw [ap1_ok h]; rfl) s.balancers _ (by simp; omega)]
  simp only [Option.bind_some]
  by_cases ho : p.outer = 0
  · rw [runAO_gather (fun _ => false) (at' (fN s p)) (fun x s' h => by unfold F34_Faces_b5; simp [ho]) n.addrs _ (by simp; omega)]
    simp [made1, ho]
  · rw [ga _ (fN s p) (fun x s' h => by unfold F34_Faces_b5; rw [if_pos (by simp [ho]), ap1_ok h]; rfl) n.addrs _ (by simp; omega)]
    simp [made1, ho]
theorem refports_loop (s : Service) (n : Node) (h1 : s.cluster.length ≤ 20) (h2 : s.external.length ≤ 20) (h3 : s.balancers.length ≤ 20) (h4 : n.addrs.length ≤ 20) : ∀ (ps : List Port) (acc : List Face), acc.length + 80 * ps.length + 80 < LIM →
    runAO (F34_Faces_b1 s n) ps acc = some (acc ++ made s n ps)
  | [], acc, _ => by simp [runAO, made]
  | p :: ps, acc, hl => by
    simp only [List.length_cons] at hl
    have := made1_len s n p h1 h2 h3 h4
    rw [runAO, refport_eq s n p acc h1 h2 h3 h4 (by omega)]
    simp only
    rw [refports_loop s n h1 h2 h3 h4 ps _ (by simp; omega)]
    simp [made]
theorem none_loop (x : Face) : ∀ (l : List Face) (b : Bool), runA (F34_Faces_b7 x) l b = (b && !l.any (fun y => decide (plc y = plc x)))
  | [], b => by simp [runA]
  | y :: l, b => by
    rw [runA, none_loop x l]
    have : F34_Faces_b7 x y b = (b && !decide (plc y = plc x)) := by
      unfold F34_Faces_b7
      simp only [lt, plc, Place.mk.injEq, Bool.decide_and]
    rw [this]
    simp [Bool.and_assoc]
theorem first_loop (all : List Face) (hl : all.length + 1 < LIM) : ∀ (xs pre : List Face), pre ++ xs = all → runAO (F34_Faces_b6 all all) xs (pre.length, dd plc pre) = some (all.length, dd plc all)
  | [], pre, h => by rw [List.append_nil] at h; subst h; rfl
  | x :: xs, pre, h => by
    have hlen : pre.length + (xs.length + 1) = all.length := by rw [← h]; simp
    have hd := dd_len plc pre
    rw [runAO]
    have e : F34_Faces_b6 all all x (pre.length, dd plc pre) = some (pre.length + 1, dd plc (pre ++ [x])) := by
      unfold F34_Faces_b6
      have e0 : ((0 : Nat) : Int) = 0 := rfl
      rw [← e0, slO_ok (Nat.zero_le _) (by show pre.length ≤ all.length; omega)]
      have ht : (all.drop 0).take (pre.length - 0) = pre := by rw [List.drop_zero, Nat.sub_zero, ← h, List.take_left]
      simp only [Option.bind_some, lt, none_loop, Bool.true_and]
      rw [ht, dd_snoc, keepL, dd_any]
      cases hb : pre.any (fun y => decide (plc y = plc x)) with
      | true => simp
      | false => simp only [Bool.not_false, if_true]; rw [ap1_ok (by omega)]; simp
    rw [e]
    have := first_loop all hl xs (pre ++ [x]) (by rw [← h]; simp)
    simp only [List.length_append, List.length_singleton] at this
    exact this

/-! ### both answer the same -/
theorem faces_eq (s : Service) (n : Node) (hs : ok_Service s) (hn : ok_Node n) (h0 : s.ports.length ≤ 20) (h1 : s.cluster.length ≤ 20) (h2 : s.external.length ≤ 20) (h3 : s.balancers.length ≤ 20) (h4 : n.addrs.length ≤ 20) :
    ∃ r, F24_Faces s n = some r ∧ F34_Faces s n = some r ∧ Ord (ltK (keyF keyA)) r ∧ r.length ≤ 1600 ∧ ∀ x ∈ r, ∀ y ∈ r, plc x = plc y → x = y := by
  have hL : LIM = 4294967296 := rfl
  have hml := made_len s n h1 h2 h3 h4 s.ports
  have hmo := made_ok hs hn s.ports
  generalize hm : made s n s.ports = ms at hml hmo
  have hdl := dd_len plc ms
  have hdo : ∀ x ∈ dd plc ms, okF x := fun x hx => hmo x (dd_sub plc ms x hx)
  have hsto : STO (ltK (keyF keyA)) := ltK_sto fun a b => keyF_inj
  -- the program
  obtain ⟨row, a1, a2, a3⟩ := ports_loop s n h1 h2 h3 h4 s.ports ({ seen := ([] : (List (Place × St85))), list := [] } : Row_2) (fun k => rfl) (by show 0 + _ + _ < _; omega)
  have a4 : row.list = dd plc ms := by rw [a3, hm]; rfl
  have hkok : ∀ x ∈ dd plc ms, keyF keyN x = keyF keyA x := fun x hx => by unfold keyF; rw [keyPN_ok (hdo x hx)]
  have hswo : Go.Sort.SWO (ltC F63_Compare) := by
    have : ltC F63_Compare = ltK (keyF keyN) := funext fun a => funext fun b => ltC_key (face_cmp a b)
    rw [this]; exact swo_key _
  obtain ⟨ys, r1, b1, b2, b3, b4, b5⟩ := srt_eq hsto F63_Compare hswo Face.z (dd plc ms) (fun x hx y hy => by
    rw [ltC_key (face_cmp x y)]; unfold ltK; rw [hkok x hx, hkok y hy]) (by omega)
  have hP : F24_Faces s n = some r1 := by
    unfold F24_Faces
    rw [a1]
    simp only [Option.bind_some]
    unfold F46_Sort F61_Face
    rw [a4, apO_ok (by show 0 + _ < _; omega)]
    simp only [Option.bind_some, List.nil_append]
    have e1 : F62_slices_SortFunc (dd plc ms) (fun x0 x1 => F63_Compare x0 x1) = some ys := b1
    have e2 : F64_Face ys = some r1 := b2
    rw [e1]; simp only [Option.bind_some]
    rw [e2]; rfl
  -- the reference
  obtain ⟨r2, c1, c2, c3, c4⟩ := insG_eq hsto F81_Compare okF (fun z y hz hy => ⟨_, face_cmpR z y hz hy, rfl⟩) (dd plc ms) hdo (by omega)
  have hR : F34_Faces s n = some r2 := by
    unfold F34_Faces
    rw [refports_loop s n h1 h2 h3 h4 s.ports [] (by simp; omega), List.nil_append, hm]
    simp only [Option.bind_some]
    have hf := first_loop ms (by omega) ms [] rfl
    have hf' : runAO (F34_Faces_b6 ms ms) ms (0, []) = some (ms.length, dd plc ms) := hf
    rw [hf']
    simp only [Option.bind_some]
    have e1 : F55_Sort (dd plc ms) = some r2 := c1
    rw [e1]; rfl
  have he : r2 = r1 := K.Ord.ext hsto _ _ c2 b3 fun x => (c4 x).trans (b5 x).symm
  subst he
  exact ⟨r2, hP, hR, b3, by omega, fun x hx y hy => dd_inj plc ms x ((b5 x).1 hx) y ((b5 y).1 hy)⟩

/-! ### the law -/
def aliveS : Service := { key := Key.z, kind := 0, cluster := [({ six := false, b := ({ e0 := 10, e1 := 0, e2 := 0, e3 := 1, e4 := 0, e5 := 0, e6 := 0, e7 := 0, e8 := 0, e9 := 0, e10 := 0, e11 := 0, e12 := 0, e13 := 0, e14 := 0, e15 := 0 } : A16u8) } : Addr)], external := [], balancers := [], ranges := [], ports := [({ name := (⟨#[104]⟩ : ByteArray), proto := 6, port := 80, outer := 0 } : Port)], internalLocal := false, externalLocal := false, sticky := false, ticks := 0, hinted := false }
def aliveN : Node := { name := ⟨#[]⟩, zone := ⟨#[]⟩, addrs := [] }
theorem hkK : ∀ n : Int, 0 ≤ n → n ≤ 255 → inK .u8 n := fun n h1 h2 => by
  show (Lit.int .u8 n).wf = true
  simp [Lit.wf, IntKind.min, IntKind.max, IntKind.bits, IntKind.signed]; omega
theorem hiK : ∀ n : Int, 0 ≤ n → n ≤ 255 → inK .i64 n := fun n h1 h2 => by
  show (Lit.int .i64 n).wf = true
  simp [Lit.wf, IntKind.min, IntKind.max, IntKind.bits, IntKind.signed]; omega
theorem hbS : ∀ b : ByteArray, b.size ≤ 10 → inS b := fun b h => by
  unfold inS maxLen
  omega
theorem aliveS_ok : ok_Service aliveS := by
  refine ⟨⟨hbS _ (by decide), hbS _ (by decide)⟩, hiK _ (by decide) (by decide), ?_, ?_, ?_, ?_, ?_, trivial, trivial, trivial, hiK _ (by decide) (by decide), trivial⟩
  · intro x hx
    obtain rfl := List.mem_singleton.1 hx
    exact ⟨trivial, by refine ⟨?_, ?_, ?_, ?_, ?_, ?_, ?_, ?_, ?_, ?_, ?_, ?_, ?_, ?_, ?_, ?_⟩ <;> exact hkK _ (by decide) (by decide)⟩
  · intro x hx; cases hx
  · intro x hx; cases hx
  · intro x hx; cases hx
  · intro x hx
    obtain rfl := List.mem_singleton.1 hx
    exact ⟨hbS _ (by decide), hiK _ (by decide) (by decide), hiK _ (by decide) (by decide), hiK _ (by decide) (by decide)⟩
theorem aliveN_ok : ok_Node aliveN := by
  refine ⟨hbS _ (by decide), hbS _ (by decide), ?_⟩
  intro x hx; cases hx
end Go.Proofs.YtgcneihmkkldeaaGreat
