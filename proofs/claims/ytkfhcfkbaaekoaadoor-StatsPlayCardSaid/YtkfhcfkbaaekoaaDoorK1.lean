/- The walk's own rules: a frame is known by a list of slots, a region is walked operation by operation. General: no program is named. -/
import Derived.WalkKit
import Derived.Shelf.Abstract
namespace Go.Proofs.YtkfhcfkbaaekoaaDoor.K
open Go
abbrev PV (b : Nat) : Value := .pointer (some ⟨b, 0, none⟩)
abbrev Env := List (Nat × Value)
def look : List (Nat × Value) → Nat → Option Value
  | [], _ => none
  | (k, v) :: r, t => cond (Nat.beq k t) (some v) (look r t)
def ev (E : Env) : Operand → Option Value
  | .tmp t => look E t
  | .const v => some v
  | .global g => some (.pointer (some ⟨g, 0, none⟩))
  | .func f => some (.func (.func f) #[] #[])
structure Ok (n : Nat) (E : Env) (a : Act) : Prop where
  sz : a.tmps.size = n
  df : a.defers = []
  sl : ∀ t v, look E t = some v → a.tmps[t]? = some v
theorem look_cons (k : Nat) (v : Value) (r : Env) (t : Nat) : look ((k, v) :: r) t = if k = t then some v else look r t := by
  show cond (Nat.beq k t) _ _ = _
  by_cases h : k = t
  · subst h; simp
  · have : Nat.beq k t = false := by rw [← Bool.not_eq_true]; intro e; exact h (Nat.eq_of_beq_eq_true e)
    simp [this, h]
theorem Ok.put {n : Nat} {E : Env} {a : Act} {d : Nat} {v : Value} (h : Ok n E a) (hd : d < n) : Ok n ((d, v) :: E) (a.put (some d) v) := by
  refine ⟨by simp [Act.put, h.sz], by simp [Act.put, h.df], fun t u ht => ?_⟩
  rw [look_cons] at ht
  simp only [Act.put]
  by_cases e : d = t
  · subst e
    rw [if_pos rfl] at ht
    rw [Array.getElem?_setIfInBounds_self_of_lt (by rw [h.sz]; exact hd)]; exact ht
  · rw [if_neg e] at ht
    rw [Array.getElem?_setIfInBounds_ne e]; exact h.sl t u ht
theorem Ok.eval {n : Nat} {E : Env} {a : Act} {x : Operand} {v : Value} (h : Ok n E a) (hx : ev E x = some v) : a.eval x = v := by
  cases x with
  | tmp t =>
    have := h.sl t v hx
    simp [Act.eval, this]
  | const u => simpa [ev, Act.eval] using hx
  | global g => simpa [ev, Act.eval] using hx
  | func f => simpa [ev, Act.eval] using hx
def Sub : Env → Env → Prop
  | [], _ => True
  | (t, v) :: r, E => look E t = some v ∧ Sub r E
theorem Sub.at {E0 E : Env} (h : Sub E0 E) : ∀ t v, look E0 t = some v → look E t = some v := by
  induction E0 with
  | nil => intro t v h; simp [look] at h
  | cons p r ih =>
    obtain ⟨k, u⟩ := p
    intro t v ht
    rw [look_cons] at ht
    by_cases e : k = t
    · rw [if_pos e] at ht; cases ht; subst e; exact h.1
    · rw [if_neg e] at ht; exact ih h.2 t v ht
theorem Ok.sub {n : Nat} {E0 E : Env} {a : Act} (h : Ok n E a) (hs : ∀ t v, look E0 t = some v → look E t = some v) : Ok n E0 a :=
  ⟨h.sz, h.df, fun t v ht => h.sl t v (hs t v ht)⟩
def Ext (E0 E : Env) : Prop := ∀ t v, look E0 t = some v → look E t = some v
theorem Ext.rfl' {E : Env} : Ext E E := fun _ _ h => h
theorem Ext.skip {E0 E : Env} {k : Nat} {u : Value} (hk : look E0 k = none) (h : Ext E0 E) : Ext E0 ((k, u) :: E) := by
  intro t v ht
  rw [look_cons]
  by_cases e : k = t
  · subst e; rw [hk] at ht; cases ht
  · rw [if_neg e]; exact h t v ht
theorem Ext.both {E0 E : Env} {k : Nat} {u : Value} (h : Ext E0 E) : Ext ((k, u) :: E0) ((k, u) :: E) := by
  intro t v ht
  rw [look_cons] at ht ⊢
  by_cases e : k = t
  · rw [if_pos e] at ht ⊢; exact ht
  · rw [if_neg e] at ht ⊢; exact h t v ht
theorem Ext.bothEq {E0 E : Env} {k : Nat} {u v : Value} (hu : u = v) (h : Ext E0 E) : Ext ((k, v) :: E0) ((k, u) :: E) := by subst hu; exact h.both
theorem Ext.trans {A B C : Env} (h : Ext A B) (k : Ext B C) : Ext A C := fun t v ht => k t v (h t v ht)
theorem Ext.eq {E0 E : Env} {t : Nat} {v : Value} (h : Ext E0 E) (ht : look E0 t = some v) : look E t = some v := h t v ht
def kq (n : Nat) (K : Env → World → Prop) : Exit → Act → World → Prop
  | .normal, a, w => ∃ E, Ok n E a ∧ K E w
  | _, _, _ => False
def RL (P : Program) (n : Nat) (ops : Array Oper) (l : List Oper) (K : Env → World → Prop) (E : Env) (w : World) : Prop :=
  ∀ a, Ok n E a → wpList P ops (kq n K) l a w
section
variable {P : Program} {n : Nat} {ops : Array Oper} {rest : List Oper} {K : Env → World → Prop} {E : Env} {w : World}
theorem RL.nil (h : K E w) : RL P n ops [] K E w := fun _ ha => ⟨E, ha, h⟩
theorem RL.sub {l : List Oper} (E' : Env) (hs : Sub E' E) (h : RL P n ops l K E' w) : RL P n ops l K E w := fun a ha => h a (ha.sub hs.at)
theorem RL.ext {l : List Oper} {E' : Env} (hs : Ext E' E) (h : RL P n ops l K E' w) : RL P n ops l K E w := fun a ha => h a (ha.sub hs)
theorem wpList_mono {Q Q' : Exit → Act → World → Prop} (hQ : ∀ e a w, Q e a w → Q' e a w) : ∀ (l : List Oper) (a : Act) (w : World), wpList P ops Q l a w → wpList P ops Q' l a w
  | [], a, w, h => hQ _ _ _ h
  | o :: l, a, w, h => by
    unfold wpList at h ⊢
    have hlo : LetsOut Q → LetsOut Q' := fun ⟨a, w, h⟩ => ⟨a, w, hQ _ _ _ h⟩
    split
    · rename_i hw
      rw [if_pos hw] at h
      refine h.imp (fun h => ?_) (fun h => ⟨h.1, hlo h.2⟩)
      have ih := wpList_mono hQ l
      unfold Oper.wp at h ⊢
      generalize (execOp a.eval o).run P w = r at h ⊢
      cases r with
      | ok x w' =>
        cases x <;> simp only [Oper.upon] at h ⊢
        case value => exact ih _ _ h
        case skip => exact ih _ _ h
        case defer => exact ih _ _ h
        case enter => exact Calls.mono h fun e w'' he => by cases e <;> first | exact ih _ _ he | exact hQ _ _ _ he | exact hlo he
        case row => exact Rows.mono h fun _ _ he => ih _ _ he
      | halt x w' => cases x <;> simp only [Oper.upon] at h ⊢ <;> exact hQ _ _ _ h
    · rename_i hw
      rw [if_neg hw] at h
      exact wpList_mono hQ l _ _ h
theorem RL.mono {l : List Oper} {K' : Env → World → Prop} (hK : ∀ E w, K E w → K' E w) (h : RL P n ops l K E w) : RL P n ops l K' E w :=
  fun a ha => wpList_mono (fun e a w hq => by cases e <;> first | exact hq.elim | (obtain ⟨E, h1, h2⟩ := hq; exact ⟨E, h1, hK _ _ h2⟩)) l a w (h a ha)
theorem wpList_append {Q : Exit → Act → World → Prop} : ∀ (l1 l2 : List Oper) (a : Act) (w : World),
    wpList P ops (fun e a w => match e with | .normal => wpList P ops Q l2 a w | e => Q e a w) l1 a w → wpList P ops Q (l1 ++ l2) a w
  | [], l2, a, w, h => h
  | o :: l1, l2, a, w, h => by
    show wpList P ops Q (o :: (l1 ++ l2)) a w
    unfold wpList at h ⊢
    have hlo : LetsOut (fun e a w => match e with | .normal => wpList P ops Q l2 a w | e => Q e a w) → LetsOut Q := fun ⟨a, w, h⟩ => ⟨a, w, h⟩
    split
    · rename_i hw
      rw [if_pos hw] at h
      refine h.imp (fun h => ?_) (fun h => ⟨h.1, hlo h.2⟩)
      have ih := wpList_append (Q := Q) l1 l2
      unfold Oper.wp at h ⊢
      generalize (execOp a.eval o).run P w = r at h ⊢
      cases r with
      | ok x w' =>
        cases x <;> simp only [Oper.upon] at h ⊢
        case value => exact ih _ _ h
        case skip => exact ih _ _ h
        case defer => exact ih _ _ h
        case enter => exact Calls.mono h fun e w'' he => by cases e <;> first | exact ih _ _ he | exact he | exact hlo he
        case row => exact Rows.mono h fun _ _ he => ih _ _ he
      | halt x w' => cases x <;> simp only [Oper.upon] at h ⊢ <;> exact h
    · rename_i hw
      rw [if_neg hw] at h
      exact wpList_append l1 l2 _ _ h
theorem RL.cut (k : Nat) {l : List Oper} (M : Env → World → Prop) (h1 : RL P n ops (l.take k) M E w) (h2 : ∀ E' w', M E' w' → RL P n ops (l.drop k) K E' w') : RL P n ops l K E w := by
  intro a ha
  rw [← List.take_append_drop k l]
  refine wpList_append _ _ _ _ (wpList_mono (fun e a w hq => ?_) _ _ _ (h1 a ha))
  cases e <;> first | exact hq.elim | (obtain ⟨E, e1, e2⟩ := hq; exact h2 _ _ e2 a e1)
theorem RL.join (k : Nat) {l : List Oper} (d : Nat) (v : Value) (M : World → Prop) (h1 : RL P n ops (l.take k) (fun E' w' => Ext ((d, v) :: E) E' ∧ M w') E w)
    (h2 : ∀ w', M w' → RL P n ops (l.drop k) K ((d, v) :: E) w') : RL P n ops l K E w :=
  RL.cut k _ h1 fun _ w' ⟨hE, hM⟩ => RL.ext hE (h2 w' hM)
theorem RL.op {o : Oper} {d : Nat} {v : Value} {w' : World} (hg : o.guard = none) (hd : o.dst = some d) (hn : Nat.blt d n = true)
    (hr : ∀ a, Ok n E a → (execOp a.eval o).run P w = .ok (.value v) w') (h : RL P n ops rest K ((d, v) :: E) w') : RL P n ops (o :: rest) K E w := by
  intro a ha
  unfold wpList
  rw [if_pos (by simp [Region.wanted, hg])]
  refine .inl ?_
  unfold Oper.wp
  rw [hr a ha]
  show wpList P ops _ rest (a.put o.dst v) w'
  rw [hd]
  exact h _ (ha.put (by simpa [Nat.blt, Nat.succ_le_iff] using hn))
theorem RL.opSkip {o : Oper} {w' : World} (hg : o.guard = none) (hd : o.dst = none)
    (hr : ∀ a, Ok n E a → (execOp a.eval o).run P w = .ok .skip w') (h : RL P n ops rest K E w') : RL P n ops (o :: rest) K E w := by
  intro a ha
  unfold wpList
  rw [if_pos (by simp [Region.wanted, hg])]
  refine .inl ?_
  unfold Oper.wp
  rw [hr a ha]
  show wpList P ops _ rest (a.put o.dst undef) w'
  rw [hd]
  exact h _ ha
def Ret (P : Program) (f : FuncId) (args : Array Value) (w : World) (R : Value → World → Prop) : Prop :=
  Calls P f args w fun e w' => ∃ v, e = .returned v ∧ R v w'
theorem Ret.mono {f : FuncId} {args : Array Value} {R R' : Value → World → Prop} (h : Ret P f args w R) (hr : ∀ v w', R v w' → R' v w') : Ret P f args w R' :=
  Calls.mono h fun _ _ ⟨v, he, hR⟩ => ⟨v, he, hr _ _ hR⟩
theorem RL.opCall {o : Oper} {d : Nat} {f : FuncId} {args : Array Value} {R : Value → World → Prop} (hg : o.guard = none) (hd : o.dst = some d) (hn : Nat.blt d n = true)
    (hr : ∀ a, Ok n E a → (execOp a.eval o).run P w = .ok (.enter f args) w) (hc : Ret P f args w R) (h : ∀ v w', R v w' → RL P n ops rest K ((d, v) :: E) w') : RL P n ops (o :: rest) K E w := by
  intro a ha
  unfold wpList
  rw [if_pos (by simp [Region.wanted, hg])]
  refine .inl ?_
  unfold Oper.wp
  rw [hr a ha]
  refine Calls.mono hc ?_
  rintro e w' ⟨v, rfl, hR⟩
  show wpList P ops _ rest (a.put o.dst v) w'
  rw [hd]
  exact h v w' hR _ (ha.put (by simpa [Nat.blt, Nat.succ_le_iff] using hn))
theorem RL.yes {o : Oper} {j : Nat} {want b : Bool} {t : Nat} (hg : o.guard = some (j, want)) (hj : ((ops[j]?).bind (·.dst)) = some t) (ht : look E t = some (.bool b)) (hb : b = want)
    (h : RL P n ops ({ o with guard := none } :: rest) K E w) : RL P n ops (o :: rest) K E w := by
  subst hb
  intro a ha
  have := h a ha
  unfold wpList at this ⊢
  rw [if_pos (by simp [Region.wanted])] at this
  have hy : yielded ops a.tmps j = some b := by
    simp [yielded, hj, ha.sl _ _ ht]
  rw [if_pos (by simp [Region.wanted, hg, hy])]
  exact this
theorem RL.no {o : Oper} {j : Nat} {want b : Bool} {t d : Nat} (hg : o.guard = some (j, want)) (hj : ((ops[j]?).bind (·.dst)) = some t) (ht : look E t = some (.bool b)) (hb : b = !want) (hd : o.dst = some d) (hn : Nat.blt d n = true)
    (h : RL P n ops rest K ((d, undef) :: E) w) : RL P n ops (o :: rest) K E w := by
  subst hb
  intro a ha
  unfold wpList
  have hy : yielded ops a.tmps j = some (!want) := by
    simp [yielded, hj, ha.sl _ _ ht]
  rw [if_neg (by cases want <;> simp [Region.wanted, hg, hy]), hd]
  exact h _ (ha.put (by simpa [Nat.blt, Nat.succ_le_iff] using hn))
theorem RL.noU {o : Oper} {j : Nat} {want : Bool} {t d : Nat} (hg : o.guard = some (j, want)) (hj : ((ops[j]?).bind (·.dst)) = some t) (ht : look E t = some undef) (hd : o.dst = some d) (hn : Nat.blt d n = true)
    (h : RL P n ops rest K ((d, undef) :: E) w) : RL P n ops (o :: rest) K E w := by
  intro a ha
  unfold wpList
  have hy : yielded ops a.tmps j = none := by
    simp [yielded, hj, ha.sl _ _ ht, undef]
  rw [if_neg (by simp [Region.wanted, hg, hy]), hd]
  exact h _ (ha.put (by simpa [Nat.blt, Nat.succ_le_iff] using hn))
end
def lift (n : Nat) (Q : Exit → Env → World → Prop) : Exit → Act → World → Prop := fun e a w => ∃ E, Ok n E a ∧ Q e E w
def CW (P : Program) (n : Nat) (c : Code) (Q : Exit → Env → World → Prop) (E : Env) (w : World) : Prop := ∀ a, Ok n E a → c.wp P (lift n Q) a w
def thn (K : Env → World → Prop) (Q : Exit → Env → World → Prop) : Exit → Env → World → Prop
  | .normal, E, w => K E w
  | e, E, w => Q e E w
def inB (id : Nat) (Q : Exit → Env → World → Prop) : Exit → Env → World → Prop
  | .exit i, E, w => if i = id then Q .normal E w else Q (.exit i) E w
  | e, E, w => Q e E w
section
variable {P : Program} {n : Nat} {Q : Exit → Env → World → Prop} {E : Env} {w : World} {x y z : Code}
theorem CW.mono {Q' : Exit → Env → World → Prop} {c : Code} (hq : ∀ e E w, Q e E w → Q' e E w) (h : CW P n c Q E w) : CW P n c Q' E w :=
  fun a ha => Code.wp_mono (fun _ _ _ ⟨E, h1, h2⟩ => ⟨E, h1, hq _ _ _ h2⟩) (h a ha)
theorem CW.sub {c : Code} (E' : Env) (hs : Sub E' E) (h : CW P n c Q E' w) : CW P n c Q E w := fun a ha => h a (ha.sub hs.at)
theorem CW.ext {c : Code} {E' : Env} (hs : Ext E' E) (h : CW P n c Q E' w) : CW P n c Q E w := fun a ha => h a (ha.sub hs)
theorem CW.seq (h : CW P n x (thn (fun E w => CW P n y Q E w) Q) E w) : CW P n (x.seq y) Q E w := fun a ha =>
  wp_seq (Code.wp_mono (fun e a w ⟨E, h1, h2⟩ => by cases e <;> first | exact h2 a h1 | exact ⟨E, h1, h2⟩) (h a ha))
theorem CW.region {id : Nat} {l : Array Oper} (h : RL P n l l.toList (Q .normal) E w) : CW P n (.region id l false) Q E w := fun a ha =>
  wp_region_list (wpList_mono (fun e a w hq => by cases e <;> first | exact hq.elim | exact hq) _ _ _ (h a ha))
theorem CW.skip (h : Q .normal E w) : CW P n .skip Q E w := fun _ ha => wp_skip ⟨E, ha, h⟩
theorem CW.exit {id : Nat} (h : Q (.exit id) E w) : CW P n (.exit id) Q E w := fun _ ha => wp_exit ⟨E, ha, h⟩
theorem CW.ret (h : Q .ret E w) : CW P n .ret Q E w := fun _ ha => wp_ret ⟨E, ha, h⟩
theorem CW.block {id : Nat} (h : CW P n x (inB id Q) E w) : CW P n (.block id x) Q E w := fun a ha =>
  wp_block (Code.wp_mono (fun e a w ⟨E, h1, h2⟩ => by
    cases e with
    | exit i =>
      simp only [Exit.inBlock]
      simp only [inB] at h2
      split <;> rename_i hi
      · rw [if_pos hi] at h2; exact ⟨E, h1, h2⟩
      · rw [if_neg hi] at h2; exact ⟨E, h1, h2⟩
    | _ => exact ⟨E, h1, h2⟩) (h a ha))
theorem CW.cond {c : Operand} {t : Bool} (hc : ev E c = some (.bool t)) (ht : t = true → CW P n x Q E w) (hf : t = false → CW P n y Q E w) : CW P n (.cond c x y) Q E w := fun a ha =>
  wp_cond_split (ha.eval hc) (fun h => ht h a ha) (fun h => hf h a ha)
theorem CW.yes {c : Operand} (hc : ev E c = some (.bool true)) (ht : CW P n x Q E w) : CW P n (.cond c x y) Q E w := fun a ha => wp_cond_true (ha.eval hc) (ht a ha)
theorem CW.no {c : Operand} (hc : ev E c = some (.bool false)) (ht : CW P n y Q E w) : CW P n (.cond c x y) Q E w := fun a ha => wp_cond_false (ha.eval hc) (ht a ha)
theorem CW.loop (m : Nat) (I : Nat → Env → World → Prop) (h0 : I m E w)
    (round : ∀ m E w, I m E w → CW P n x (thn (fun E' w' => ∃ m', m' < m ∧ ∃ E'', Sub E'' E' ∧ I m' E'' w') Q) E w) : CW P n (.loop x) Q E w := fun a ha b k cs => by
  have key : ∀ m E w, I m E w → ∀ a, Ok n E a →
      ∃ e a' w', lift n Q e a' w' ∧ Arrives P (lone (b.at a (.code x :: .inLoop x :: k)) cs w) b k cs e a' w' := by
    intro m
    induction m using Nat.strongRecOn with
    | _ m ih =>
      intro E w hI a ha
      obtain ⟨e, a₁, w₁, ⟨E₁, hok, hq⟩, harr⟩ := round m E w hI a ha b (.inLoop x :: k) cs
      cases e with
      | normal =>
        obtain ⟨m', hm, E'', hs, hI'⟩ := hq
        obtain ⟨e₂, a₂, w₂, hq₂, harr₂⟩ := ih m' hm E'' w₁ hI' a₁ (hok.sub hs.at)
        exact ⟨e₂, a₂, w₂, hq₂, .of_steps (Steps.trans harr (.one step_inLoop)) harr₂⟩
      | exit id => exact ⟨_, a₁, w₁, ⟨E₁, hok, hq⟩, .pass (x := .inLoop x) rfl (fun _ _ => .inl (by simp)) harr⟩
      | goto l => exact ⟨_, a₁, w₁, ⟨E₁, hok, hq⟩, .pass (x := .inLoop x) rfl (fun _ _ => .inl (by simp)) harr⟩
      | ret => exact ⟨_, a₁, w₁, ⟨E₁, hok, hq⟩, .pass (x := .inLoop x) rfl (fun _ _ => .inl (by simp)) harr⟩
      | panic ch => exact ⟨_, a₁, w₁, ⟨E₁, hok, hq⟩, .pass (x := .inLoop x) rfl (fun _ _ => .inl (by simp)) harr⟩
      | outgrown => exact ⟨_, a₁, w₁, ⟨E₁, hok, hq⟩, .pass (x := .inLoop x) rfl (fun _ _ => .inl (by simp)) harr⟩
  obtain ⟨e, a', w', hq, harr⟩ := key m E w h0 a ha
  exact ⟨e, a', w', hq, .of_steps (.one step_loop) harr⟩
def retQ (R : Value → World → Prop) (resV : Env → World → Value → Prop) : Exit → Env → World → Prop
  | .ret, E, w | .normal, E, w => ∃ v, resV E w v ∧ R v w
  | _, _, _ => False
end
def resTmp : List ResultVar → Env → Option (List Value)
  | [], _ => some []
  | .tmp t :: r, E => match look E t, resTmp r E with | some v, some vs => some (v :: vs) | _, _ => none
  | .cell _ _ :: _, _ => none
def resVal : List Value → Value
  | [v] => v
  | vs => .tuple vs.toArray
end Go.Proofs.YtkfhcfkbaaekoaaDoor.K
