/- slices.SortStableFunc in plain words: it never fails, and leaves a permutation, whatever the comparison. No program is named. -/
import Derived.Test.YtkfhcfkbaaekoaaDoorS7
namespace Go.Proofs.YtkfhcfkbaaekoaaDoor.K
open Go
set_option linter.unusedVariables false
section
variable {α : Type}
def insS_b2 (a1 : Int) (a3 : (α → α → Int)) (s33 : Int × (List α)) : Option (Step Empty (Int × (List α))) := (andO (decide (s33.1 > a1)) ((ixO s33.2 s33.1).bind fun y44 => (ixO s33.2 (IntKind.i64.wrap (s33.1 - 1))).bind fun y54 => some (decide ((a3 y44 y54) < 0)))).bind fun b60 => (if b60 = true then (ixO s33.2 (IntKind.i64.wrap (s33.1 - 1))).bind fun y149 => (ixO s33.2 s33.1).bind fun y159 => (ixO s33.2 s33.1).bind fun y169 => (ixO (s33.2.set s33.1.toNat y149) (IntKind.i64.wrap (s33.1 - 1))).bind fun y181 => some (.next (IntKind.i64.wrap (s33.1 - 1), (s33.2.set s33.1.toNat y149).set (IntKind.i64.wrap (s33.1 - 1)).toNat y159)) else some (.fin (s33.1, s33.2)))
def insS_b1 (a1 : Int) (a2 : Int) (a3 : (α → α → Int)) (s14 : Int × (List α)) : Option (Step Empty (Int × (List α))) := (if (decide (s14.1 < a2)) = true then (runW (insS_b2 a1 a3) FUEL (s14.1, s14.2)).bind fun o => o.elim (fun r => r.elim) fun (s265 : Int × (List α)) => some (.next (IntKind.i64.wrap (s14.1 + 1), s265.2)) else some (.fin (s14.1, s14.2)))
def insS (a0 : (List α)) (a1 : Int) (a2 : Int) (a3 : (α → α → Int)) : Option (List α) := (runW (insS_b1 a1 a2 a3) FUEL (IntKind.i64.wrap (a1 + 1), a0)).bind fun o => o.elim (fun r => r.elim) fun (s270 : Int × (List α)) => some s270.2
def swpS_b1 (a1 : Int) (a2 : Int) (a3 : Int) (s14 : Int × (List α)) : Option (Step Empty (Int × (List α))) := (if (decide (s14.1 < a3)) = true then (ixO s14.2 (IntKind.i64.wrap (a2 + s14.1))).bind fun y26 => (ixO s14.2 (IntKind.i64.wrap (a1 + s14.1))).bind fun y36 => (ixO s14.2 (IntKind.i64.wrap (a1 + s14.1))).bind fun y46 => (ixO (s14.2.set (IntKind.i64.wrap (a1 + s14.1)).toNat y26) (IntKind.i64.wrap (a2 + s14.1))).bind fun y58 => some (.next (IntKind.i64.wrap (s14.1 + 1), (s14.2.set (IntKind.i64.wrap (a1 + s14.1)).toNat y26).set (IntKind.i64.wrap (a2 + s14.1)).toNat y36)) else some (.fin (s14.1, s14.2)))
def swpS (a0 : (List α)) (a1 : Int) (a2 : Int) (a3 : Int) (a4 : (α → α → Int)) : Option (List α) := (runW (swpS_b1 a1 a2 a3) FUEL (0, a0)).bind fun o => o.elim (fun r => r.elim) fun (s154 : Int × (List α)) => some s154.2
def rotS_b1 (a2 : Int) (a4 : (α → α → Int)) (s15 : Int × Int × (List α)) : Option (Step Empty (Int × Int × (List α))) := (if (!decide (s15.1 = s15.2.1)) = true then (if (decide (s15.1 > s15.2.1)) = true then (swpS s15.2.2 (IntKind.i64.wrap (a2 - s15.1)) a2 s15.2.1 a4).bind fun y27 => some (.next (IntKind.i64.wrap (s15.1 - s15.2.1), s15.2.1, y27)) else (swpS s15.2.2 (IntKind.i64.wrap (a2 - s15.1)) (IntKind.i64.wrap ((IntKind.i64.wrap (a2 + s15.2.1)) - s15.1)) s15.1 a4).bind fun y36 => some (.next (s15.1, IntKind.i64.wrap (s15.2.1 - s15.1), y36))) else some (.fin (s15.1, s15.2.1, s15.2.2)))
def rotS (a0 : (List α)) (a1 : Int) (a2 : Int) (a3 : Int) (a4 : (α → α → Int)) : Option (List α) := (runW (rotS_b1 a2 a4) FUEL (IntKind.i64.wrap (a2 - a1), IntKind.i64.wrap (a3 - a2), a0)).bind fun o => o.elim (fun r => r.elim) fun (s44 : Int × Int × (List α)) => (swpS s44.2.2 (IntKind.i64.wrap (a2 - s44.1)) a2 s44.1 a4).bind fun y50 => some y50
def symS_body_b1 (a0 : (List α)) (a1 : Int) (a4 : (α → α → Int)) (s14 : Int × Int) : Option (Step Empty (Int × Int)) := (if (decide (s14.1 < s14.2)) = true then (ixO a0 (IntKind.i64.wrap ((IntKind.u64.wrap (IntKind.i64.wrap (s14.1 + s14.2))).fdiv (2 ^ (min (Int.toNat 1) IntKind.u64.bits))))).bind fun y26 => (ixO a0 a1).bind fun y36 => (if (decide ((a4 y26 y36) < 0)) = true then some (.next (IntKind.i64.wrap ((IntKind.i64.wrap ((IntKind.u64.wrap (IntKind.i64.wrap (s14.1 + s14.2))).fdiv (2 ^ (min (Int.toNat 1) IntKind.u64.bits)))) + 1), s14.2)) else some (.next (s14.1, IntKind.i64.wrap ((IntKind.u64.wrap (IntKind.i64.wrap (s14.1 + s14.2))).fdiv (2 ^ (min (Int.toNat 1) IntKind.u64.bits)))))) else some (.fin (s14.1, s14.2)))
def symS_body_b2 (x2 : Int) (x2 : Int) (s93 : Int × (List α)) : Option (Step Empty (Int × (List α))) := (if (decide (s93.1 < (IntKind.i64.wrap (x2 - 1)))) = true then (ixO s93.2 (IntKind.i64.wrap (s93.1 + 1))).bind fun y105 => (ixO s93.2 s93.1).bind fun y115 => (ixO s93.2 s93.1).bind fun y125 => (ixO (s93.2.set s93.1.toNat y105) (IntKind.i64.wrap (s93.1 + 1))).bind fun y137 => some (.next (IntKind.i64.wrap (s93.1 + 1), (s93.2.set s93.1.toNat y105).set (IntKind.i64.wrap (s93.1 + 1)).toNat y115)) else some (.fin (s93.1, s93.2)))
def symS_body_b3 (a0 : (List α)) (a2 : Int) (a4 : (α → α → Int)) (s235 : Int × Int) : Option (Step Empty (Int × Int)) := (if (decide (s235.1 < s235.2)) = true then (ixO a0 a2).bind fun y247 => (ixO a0 (IntKind.i64.wrap ((IntKind.u64.wrap (IntKind.i64.wrap (s235.1 + s235.2))).fdiv (2 ^ (min (Int.toNat 1) IntKind.u64.bits))))).bind fun y257 => (if (!(decide ((a4 y247 y257) < 0))) = true then some (.next (IntKind.i64.wrap ((IntKind.i64.wrap ((IntKind.u64.wrap (IntKind.i64.wrap (s235.1 + s235.2))).fdiv (2 ^ (min (Int.toNat 1) IntKind.u64.bits)))) + 1), s235.2)) else some (.next (s235.1, IntKind.i64.wrap ((IntKind.u64.wrap (IntKind.i64.wrap (s235.1 + s235.2))).fdiv (2 ^ (min (Int.toNat 1) IntKind.u64.bits)))))) else some (.fin (s235.1, s235.2)))
def symS_body_b4 (x223 : Int) (x223 : Int) (s314 : Int × (List α)) : Option (Step Empty (Int × (List α))) := (if (decide (s314.1 > x223)) = true then (ixO s314.2 (IntKind.i64.wrap (s314.1 - 1))).bind fun y326 => (ixO s314.2 s314.1).bind fun y336 => (ixO s314.2 s314.1).bind fun y346 => (ixO (s314.2.set s314.1.toNat y326) (IntKind.i64.wrap (s314.1 - 1))).bind fun y358 => some (.next (IntKind.i64.wrap (s314.1 - 1), (s314.2.set s314.1.toNat y326).set (IntKind.i64.wrap (s314.1 - 1)).toNat y336)) else some (.fin (s314.1, s314.2)))
def symS_body_b5 (a0 : (List α)) (a1 : Int) (a2 : Int) (a3 : Int) (a4 : (α → α → Int)) (s459 : Int × Int) : Option (Step Empty (Int × Int)) := (if (decide (s459.1 < s459.2)) = true then (ixO a0 (IntKind.i64.wrap ((IntKind.i64.wrap ((IntKind.i64.wrap ((IntKind.i64.wrap ((IntKind.u64.wrap (IntKind.i64.wrap (a1 + a3))).fdiv (2 ^ (min (Int.toNat 1) IntKind.u64.bits)))) + a2)) - 1)) - (IntKind.i64.wrap ((IntKind.u64.wrap (IntKind.i64.wrap (s459.1 + s459.2))).fdiv (2 ^ (min (Int.toNat 1) IntKind.u64.bits))))))).bind fun y471 => (ixO a0 (IntKind.i64.wrap ((IntKind.u64.wrap (IntKind.i64.wrap (s459.1 + s459.2))).fdiv (2 ^ (min (Int.toNat 1) IntKind.u64.bits))))).bind fun y481 => (if (!(decide ((a4 y471 y481) < 0))) = true then some (.next (IntKind.i64.wrap ((IntKind.i64.wrap ((IntKind.u64.wrap (IntKind.i64.wrap (s459.1 + s459.2))).fdiv (2 ^ (min (Int.toNat 1) IntKind.u64.bits)))) + 1), s459.2)) else some (.next (s459.1, IntKind.i64.wrap ((IntKind.u64.wrap (IntKind.i64.wrap (s459.1 + s459.2))).fdiv (2 ^ (min (Int.toNat 1) IntKind.u64.bits)))))) else some (.fin (s459.1, s459.2)))
def symS_body (rec : (List α) → Int → Int → Int → (α → α → Int) → Option (List α)) (a0 : (List α)) (a1 : Int) (a2 : Int) (a3 : Int) (a4 : (α → α → Int)) : Option (List α) := (if (decide ((IntKind.i64.wrap (a2 - a1)) = 1)) = true then (runW (symS_body_b1 a0 a1 a4) FUEL (a2, a3)).bind fun o => o.elim (fun r => r.elim) fun (s79 : Int × Int) => (runW (symS_body_b2 s79.1 s79.1) FUEL (a1, a0)).bind fun o => o.elim (fun r => r.elim) fun (s221 : Int × (List α)) => some s221.2 else (if (decide ((IntKind.i64.wrap (a3 - a2)) = 1)) = true then (runW (symS_body_b3 a0 a2 a4) FUEL (a1, a2)).bind fun o => o.elim (fun r => r.elim) fun (s300 : Int × Int) => (runW (symS_body_b4 s300.1 s300.1) FUEL (a2, a0)).bind fun o => o.elim (fun r => r.elim) fun (s442 : Int × (List α)) => some s442.2 else lt (if (decide (a2 > (IntKind.i64.wrap ((IntKind.u64.wrap (IntKind.i64.wrap (a1 + a3))).fdiv (2 ^ (min (Int.toNat 1) IntKind.u64.bits)))))) = true then (IntKind.i64.wrap ((IntKind.i64.wrap ((IntKind.i64.wrap ((IntKind.u64.wrap (IntKind.i64.wrap (a1 + a3))).fdiv (2 ^ (min (Int.toNat 1) IntKind.u64.bits)))) + a2)) - a3), IntKind.i64.wrap ((IntKind.u64.wrap (IntKind.i64.wrap (a1 + a3))).fdiv (2 ^ (min (Int.toNat 1) IntKind.u64.bits)))) else (a1, a2)) fun y443 => (runW (symS_body_b5 a0 a1 a2 a3 a4) FUEL (y443.1, y443.2)).bind fun o => o.elim (fun r => r.elim) fun (s526 : Int × Int) => lt ((decide (s526.1 < a2)) && (decide (a2 < (IntKind.i64.wrap ((IntKind.i64.wrap ((IntKind.i64.wrap ((IntKind.u64.wrap (IntKind.i64.wrap (a1 + a3))).fdiv (2 ^ (min (Int.toNat 1) IntKind.u64.bits)))) + a2)) - s526.1))))) fun b529 => (if b529 = true then (rotS a0 s526.1 a2 (IntKind.i64.wrap ((IntKind.i64.wrap ((IntKind.i64.wrap ((IntKind.u64.wrap (IntKind.i64.wrap (a1 + a3))).fdiv (2 ^ (min (Int.toNat 1) IntKind.u64.bits)))) + a2)) - s526.1)) a4).bind fun y539 => lt ((decide (a1 < s526.1)) && (decide (s526.1 < (IntKind.i64.wrap ((IntKind.u64.wrap (IntKind.i64.wrap (a1 + a3))).fdiv (2 ^ (min (Int.toNat 1) IntKind.u64.bits))))))) fun b545 => (if b545 = true then (rec y539 a1 s526.1 (IntKind.i64.wrap ((IntKind.u64.wrap (IntKind.i64.wrap (a1 + a3))).fdiv (2 ^ (min (Int.toNat 1) IntKind.u64.bits)))) a4).bind fun y555 => lt ((decide ((IntKind.i64.wrap ((IntKind.u64.wrap (IntKind.i64.wrap (a1 + a3))).fdiv (2 ^ (min (Int.toNat 1) IntKind.u64.bits)))) < (IntKind.i64.wrap ((IntKind.i64.wrap ((IntKind.i64.wrap ((IntKind.u64.wrap (IntKind.i64.wrap (a1 + a3))).fdiv (2 ^ (min (Int.toNat 1) IntKind.u64.bits)))) + a2)) - s526.1)))) && (decide ((IntKind.i64.wrap ((IntKind.i64.wrap ((IntKind.i64.wrap ((IntKind.u64.wrap (IntKind.i64.wrap (a1 + a3))).fdiv (2 ^ (min (Int.toNat 1) IntKind.u64.bits)))) + a2)) - s526.1)) < a3))) fun b561 => (if b561 = true then (rec y555 (IntKind.i64.wrap ((IntKind.u64.wrap (IntKind.i64.wrap (a1 + a3))).fdiv (2 ^ (min (Int.toNat 1) IntKind.u64.bits)))) (IntKind.i64.wrap ((IntKind.i64.wrap ((IntKind.i64.wrap ((IntKind.u64.wrap (IntKind.i64.wrap (a1 + a3))).fdiv (2 ^ (min (Int.toNat 1) IntKind.u64.bits)))) + a2)) - s526.1)) a3 a4).bind fun y571 => some y571 else some y555) else lt ((decide ((IntKind.i64.wrap ((IntKind.u64.wrap (IntKind.i64.wrap (a1 + a3))).fdiv (2 ^ (min (Int.toNat 1) IntKind.u64.bits)))) < (IntKind.i64.wrap ((IntKind.i64.wrap ((IntKind.i64.wrap ((IntKind.u64.wrap (IntKind.i64.wrap (a1 + a3))).fdiv (2 ^ (min (Int.toNat 1) IntKind.u64.bits)))) + a2)) - s526.1)))) && (decide ((IntKind.i64.wrap ((IntKind.i64.wrap ((IntKind.i64.wrap ((IntKind.u64.wrap (IntKind.i64.wrap (a1 + a3))).fdiv (2 ^ (min (Int.toNat 1) IntKind.u64.bits)))) + a2)) - s526.1)) < a3))) fun b577 => (if b577 = true then (rec y539 (IntKind.i64.wrap ((IntKind.u64.wrap (IntKind.i64.wrap (a1 + a3))).fdiv (2 ^ (min (Int.toNat 1) IntKind.u64.bits)))) (IntKind.i64.wrap ((IntKind.i64.wrap ((IntKind.i64.wrap ((IntKind.u64.wrap (IntKind.i64.wrap (a1 + a3))).fdiv (2 ^ (min (Int.toNat 1) IntKind.u64.bits)))) + a2)) - s526.1)) a3 a4).bind fun y587 => some y587 else some y539)) else lt ((decide (a1 < s526.1)) && (decide (s526.1 < (IntKind.i64.wrap ((IntKind.u64.wrap (IntKind.i64.wrap (a1 + a3))).fdiv (2 ^ (min (Int.toNat 1) IntKind.u64.bits))))))) fun b593 => (if b593 = true then (rec a0 a1 s526.1 (IntKind.i64.wrap ((IntKind.u64.wrap (IntKind.i64.wrap (a1 + a3))).fdiv (2 ^ (min (Int.toNat 1) IntKind.u64.bits)))) a4).bind fun y603 => lt ((decide ((IntKind.i64.wrap ((IntKind.u64.wrap (IntKind.i64.wrap (a1 + a3))).fdiv (2 ^ (min (Int.toNat 1) IntKind.u64.bits)))) < (IntKind.i64.wrap ((IntKind.i64.wrap ((IntKind.i64.wrap ((IntKind.u64.wrap (IntKind.i64.wrap (a1 + a3))).fdiv (2 ^ (min (Int.toNat 1) IntKind.u64.bits)))) + a2)) - s526.1)))) && (decide ((IntKind.i64.wrap ((IntKind.i64.wrap ((IntKind.i64.wrap ((IntKind.u64.wrap (IntKind.i64.wrap (a1 + a3))).fdiv (2 ^ (min (Int.toNat 1) IntKind.u64.bits)))) + a2)) - s526.1)) < a3))) fun b609 => (if b609 = true then (rec y603 (IntKind.i64.wrap ((IntKind.u64.wrap (IntKind.i64.wrap (a1 + a3))).fdiv (2 ^ (min (Int.toNat 1) IntKind.u64.bits)))) (IntKind.i64.wrap ((IntKind.i64.wrap ((IntKind.i64.wrap ((IntKind.u64.wrap (IntKind.i64.wrap (a1 + a3))).fdiv (2 ^ (min (Int.toNat 1) IntKind.u64.bits)))) + a2)) - s526.1)) a3 a4).bind fun y619 => some y619 else some y603) else lt ((decide ((IntKind.i64.wrap ((IntKind.u64.wrap (IntKind.i64.wrap (a1 + a3))).fdiv (2 ^ (min (Int.toNat 1) IntKind.u64.bits)))) < (IntKind.i64.wrap ((IntKind.i64.wrap ((IntKind.i64.wrap ((IntKind.u64.wrap (IntKind.i64.wrap (a1 + a3))).fdiv (2 ^ (min (Int.toNat 1) IntKind.u64.bits)))) + a2)) - s526.1)))) && (decide ((IntKind.i64.wrap ((IntKind.i64.wrap ((IntKind.i64.wrap ((IntKind.u64.wrap (IntKind.i64.wrap (a1 + a3))).fdiv (2 ^ (min (Int.toNat 1) IntKind.u64.bits)))) + a2)) - s526.1)) < a3))) fun b625 => (if b625 = true then (rec a0 (IntKind.i64.wrap ((IntKind.u64.wrap (IntKind.i64.wrap (a1 + a3))).fdiv (2 ^ (min (Int.toNat 1) IntKind.u64.bits)))) (IntKind.i64.wrap ((IntKind.i64.wrap ((IntKind.i64.wrap ((IntKind.u64.wrap (IntKind.i64.wrap (a1 + a3))).fdiv (2 ^ (min (Int.toNat 1) IntKind.u64.bits)))) + a2)) - s526.1)) a3 a4).bind fun y635 => some y635 else some a0)))))
def symS_at : Nat → (List α) → Int → Int → Int → (α → α → Int) → Option (List α)
  | 0, _, _, _, _, _ => none
  | f + 1, a0, a1, a2, a3, a4 => symS_body (symS_at f) a0 a1 a2 a3 a4
def symS (a0 : (List α)) (a1 : Int) (a2 : Int) (a3 : Int) (a4 : (α → α → Int)) : Option (List α) := symS_at 64 a0 a1 a2 a3 a4
def stabS_b1 (a1 : Int) (a2 : (α → α → Int)) (s15 : Int × Int × (List α)) : Option (Step Empty (Int × Int × (List α))) := (if (decide (s15.2.1 ≤ a1)) = true then (insS s15.2.2 s15.1 s15.2.1 a2).bind fun y26 => some (.next (s15.2.1, IntKind.i64.wrap (s15.2.1 + 20), y26)) else some (.fin (s15.1, s15.2.1, s15.2.2)))
def stabS_b3 (a1 : Int) (a2 : (α → α → Int)) (x44 : Int) (s77 : Int × Int × (List α)) : Option (Step Empty (Int × Int × (List α))) := (if (decide (s77.2.1 ≤ a1)) = true then (symS s77.2.2 s77.1 (IntKind.i64.wrap (s77.1 + x44)) s77.2.1 a2).bind fun y88 => some (.next (s77.2.1, IntKind.i64.wrap (s77.2.1 + (IntKind.i64.wrap (2 * x44))), y88)) else some (.fin (s77.1, s77.2.1, s77.2.2)))
def stabS_b2 (a1 : Int) (a2 : (α → α → Int)) (s57 : Int × (List α)) : Option (Step Empty (Int × (List α))) := (if (decide (s57.1 < a1)) = true then (runW (stabS_b3 a1 a2 s57.1) FUEL (0, IntKind.i64.wrap (2 * s57.1), s57.2)).bind fun o => o.elim (fun r => r.elim) fun (s96 : Int × Int × (List α)) => (if (decide ((IntKind.i64.wrap (s96.1 + s57.1)) < a1)) = true then (symS s96.2.2 s96.1 (IntKind.i64.wrap (s96.1 + s57.1)) a1 a2).bind fun y103 => some (.next (IntKind.i64.wrap (s57.1 * 2), y103)) else some (.next (IntKind.i64.wrap (s57.1 * 2), s96.2.2))) else some (.fin (s57.1, s57.2)))
def stabS (a0 : (List α)) (a1 : Int) (a2 : (α → α → Int)) : Option (List α) := (runW (stabS_b1 a1 a2) FUEL (0, 20, a0)).bind fun o => o.elim (fun r => r.elim) fun (s34 : Int × Int × (List α)) => (insS s34.2.2 s34.1 a1 a2).bind fun y40 => (runW (stabS_b2 a1 a2) FUEL (20, y40)).bind fun o => o.elim (fun r => r.elim) fun (s111 : Int × (List α)) => some s111.2
def sortSt (a0 : (List α)) (a1 : (α → α → Int)) : Option (List α) := (stabS a0 ((a0.length : Nat) : Int) a1).bind fun y6 => some y6
theorem half {x y : Nat} (h : x + y < 1099511627776) : IntKind.i64.wrap ((IntKind.u64.wrap (IntKind.i64.wrap ((x : Int) + (y : Int)))).fdiv (2 ^ (min (Int.toNat 1) IntKind.u64.bits))) = (((x + y) / 2 : Nat) : Int) := by
  have e1 : IntKind.i64.wrap ((x : Int) + (y : Int)) = ((x + y : Nat) : Int) := by rw [wrapI (by omega)]; omega
  have e2 : IntKind.u64.wrap ((x + y : Nat) : Int) = ((x + y : Nat) : Int) := by rw [wrapU]; omega
  have e3 : (2 : Int) ^ (min (Int.toNat 1) IntKind.u64.bits) = 2 := by decide
  rw [e1, e2, e3]
  have e4 : ((x + y : Nat) : Int).fdiv 2 = (((x + y) / 2 : Nat) : Int) := by rw [Int.fdiv_eq_ediv_of_nonneg _ (by omega)]; omega
  rw [e4, wrapI (by omega)]
theorem wsub {x y : Nat} (h : y ≤ x) (hx : x < 1099511627776) : IntKind.i64.wrap ((x : Int) - (y : Int)) = ((x - y : Nat) : Int) := by rw [wrapI (by omega)]; omega
theorem wadd {x y : Nat} (hx : x + y < 1099511627776) : IntKind.i64.wrap ((x : Int) + (y : Int)) = ((x + y : Nat) : Int) := by rw [wrapI (by omega)]; omega
theorem wadd1 {x : Nat} (hx : x + 1 < 1099511627776) : IntKind.i64.wrap ((x : Int) + 1) = ((x + 1 : Nat) : Int) := wadd (y := 1) hx
theorem wsub1 {x : Nat} (h : 1 ≤ x) (hx : x < 1099511627776) : IntKind.i64.wrap ((x : Int) - 1) = ((x - 1 : Nat) : Int) := wsub (y := 1) h hx
theorem ix_lt {s : List α} {i : Nat} (h : i < s.length) : ixO s (i : Int) = some s[i] := ixO_at (List.getElem?_eq_getElem h)
theorem sw_perm {s : List α} {i j : Nat} (hi : i < s.length) (hj : j < s.length) : ((s.set i s[j]).set j s[i]).Perm s := List.set_set_perm hi hj
theorem ins_b2 (cf : α → α → Int) (a : Nat) : ∀ (f j : Nat) (s : List α), j < s.length → s.length < 4294967296 → j < f → ∃ j' s', runW (insS_b2 (a : Int) cf) f ((j : Int), s) = some (.fin (j', s')) ∧ s'.Perm s
  | 0, j, s, _, _, h => by omega
  | f + 1, j, s, hj, hl, hf => by
    rw [runW]
    by_cases hg : a < j
    · have e1 : IntKind.i64.wrap ((j : Int) - 1) = ((j - 1 : Nat) : Int) := wsub1 (by omega) (by omega)
      have hj1 : j - 1 < s.length := by omega
      by_cases hc : cf s[j] s[j - 1] < 0
      · have hb : insS_b2 (a : Int) cf ((j : Int), s) = some (.next (((j - 1 : Nat) : Int), (s.set j s[j - 1]).set (j - 1) s[j])) := by
          unfold insS_b2
          simp only [e1, ix_lt hj, ix_lt hj1, Option.bind_some, andO]
          rw [if_pos (by rw [decide_eq_true_eq]; omega)]
          simp only [Option.bind_some, hc, decide_true, if_true, Int.toNat_natCast]
          rw [ix_lt (by rw [List.length_set]; exact hj1)]; rfl
        rw [hb]
        simp only
        have hp := sw_perm (s := s) hj hj1
        obtain ⟨j', s', h1, h2⟩ := ins_b2 cf a f (j - 1) _ (by rw [hp.length_eq]; exact hj1) (by rw [hp.length_eq]; exact hl) (by omega)
        exact ⟨j', s', h1, h2.trans hp⟩
      · have hb : insS_b2 (a : Int) cf ((j : Int), s) = some (.fin ((j : Int), s)) := by
          unfold insS_b2
          simp only [e1, ix_lt hj, ix_lt hj1, Option.bind_some, andO]
          rw [if_pos (by rw [decide_eq_true_eq]; omega)]
          simp [hc]
        rw [hb]
        exact ⟨_, _, rfl, .refl _⟩
    · have hb : insS_b2 (a : Int) cf ((j : Int), s) = some (.fin ((j : Int), s)) := by
        unfold insS_b2
        simp only [andO]
        rw [if_neg (by rw [decide_eq_true_eq]; omega)]; rfl
      rw [hb]
      exact ⟨_, _, rfl, .refl _⟩
theorem ins_b1 (cf : α → α → Int) (a b : Nat) : ∀ (f i : Nat) (s : List α), b ≤ s.length → s.length < 4294967296 → b - i < f → i ≤ b + 1 → ∃ i' s', runW (insS_b1 (a : Int) (b : Int) cf) f ((i : Int), s) = some (.fin (i', s')) ∧ s'.Perm s
  | 0, i, s, _, _, h, _ => by omega
  | f + 1, i, s, hb, hl, hf, hi => by
    have hF : 4294967296 < FUEL := by decide
    rw [runW]
    by_cases hg : i < b
    · obtain ⟨j', s', h1, h2⟩ := ins_b2 cf a FUEL i s (by omega) hl (by omega)
      have hbd : insS_b1 (a : Int) (b : Int) cf ((i : Int), s) = some (.next (((i + 1 : Nat) : Int), s')) := by
        unfold insS_b1
        simp only
        rw [if_pos (by rw [decide_eq_true_eq]; omega), h1]
        simp only [Option.bind_some, Lp.elim]
        rw [wadd1 (by omega)]
      rw [hbd]
      simp only
      obtain ⟨i', s2, k1, k2⟩ := ins_b1 cf a b f (i + 1) s' (by rw [h2.length_eq]; exact hb) (by rw [h2.length_eq]; exact hl) (by omega) (by omega)
      exact ⟨i', s2, k1, k2.trans h2⟩
    · have hbd : insS_b1 (a : Int) (b : Int) cf ((i : Int), s) = some (.fin ((i : Int), s)) := by
        unfold insS_b1
        simp only
        rw [if_neg (by rw [decide_eq_true_eq]; omega)]
      rw [hbd]
      exact ⟨_, _, rfl, .refl _⟩
theorem insS_ok (cf : α → α → Int) (a b : Nat) (s : List α) (hab : a ≤ b) (hb : b ≤ s.length) (hl : s.length < 4294967296) : ∃ s', insS s (a : Int) (b : Int) cf = some s' ∧ s'.Perm s := by
  have hF : 4294967296 < FUEL := by decide
  obtain ⟨i', s', h1, h2⟩ := ins_b1 cf a b FUEL (a + 1) s hb hl (by omega) (by omega)
  refine ⟨s', ?_, h2⟩
  unfold insS
  rw [wadd1 (by omega), h1]; rfl
theorem swp_b1 (a b k : Nat) : ∀ (f i : Nat) (s : List α), a + k ≤ s.length → b + k ≤ s.length → s.length < 4294967296 → k - i < f → ∃ i' s', runW (swpS_b1 (a : Int) (b : Int) (k : Int)) f ((i : Int), s) = some (.fin (i', s')) ∧ s'.Perm s
  | 0, i, s, _, _, _, h => by omega
  | f + 1, i, s, ha, hb, hl, hf => by
    rw [runW]
    by_cases hg : i < k
    · have hai : a + i < s.length := by omega
      have hbi : b + i < s.length := by omega
      have hbd : swpS_b1 (a : Int) (b : Int) (k : Int) ((i : Int), s) = some (.next (((i + 1 : Nat) : Int), (s.set (a + i) s[b + i]).set (b + i) s[a + i])) := by
        unfold swpS_b1
        simp only
        rw [if_pos (by rw [decide_eq_true_eq]; omega)]
        rw [wadd (x := b) (y := i) (by omega), wadd (x := a) (y := i) (by omega), wadd1 (by omega)]
        simp only [ix_lt hai, ix_lt hbi, Option.bind_some, Int.toNat_natCast]
        rw [ix_lt (by rw [List.length_set]; exact hbi)]; rfl
      rw [hbd]
      simp only
      have hp := sw_perm (s := s) hai hbi
      obtain ⟨i', s', h1, h2⟩ := swp_b1 a b k f (i + 1) _ (by rw [hp.length_eq]; exact ha) (by rw [hp.length_eq]; exact hb) (by rw [hp.length_eq]; exact hl) (by omega)
      exact ⟨i', s', h1, h2.trans hp⟩
    · have hbd : swpS_b1 (a : Int) (b : Int) (k : Int) ((i : Int), s) = some (.fin ((i : Int), s)) := by
        unfold swpS_b1
        simp only
        rw [if_neg (by rw [decide_eq_true_eq]; omega)]
      rw [hbd]
      exact ⟨_, _, rfl, .refl _⟩
theorem swpS_ok (cf : α → α → Int) (a b k : Nat) (s : List α) (ha : a + k ≤ s.length) (hb : b + k ≤ s.length) (hl : s.length < 4294967296) : ∃ s', swpS s (a : Int) (b : Int) (k : Int) cf = some s' ∧ s'.Perm s := by
  have hF : 4294967296 < FUEL := by decide
  obtain ⟨i', s', h1, h2⟩ := swp_b1 a b k FUEL 0 s ha hb hl (by omega)
  refine ⟨s', ?_, h2⟩
  unfold swpS
  have h1' : runW (swpS_b1 (a : Int) (b : Int) (k : Int)) FUEL (0, s) = some (.fin (i', s')) := h1
  rw [h1']; rfl
theorem rot_b1 (cf : α → α → Int) (m : Nat) : ∀ (f i j : Nat) (s : List α), 0 < i → 0 < j → i ≤ m → m + j ≤ s.length → s.length < 4294967296 → i + j < f → ∃ i' j' s', runW (rotS_b1 (m : Int) cf) f ((i : Int), (j : Int), s) = some (.fin (((i' : Nat) : Int), j', s')) ∧ s'.Perm s ∧ i' ≤ m ∧ m + i' ≤ s.length
  | 0, i, j, s, _, _, _, _, _, h => by omega
  | f + 1, i, j, s, hi, hj, him, hmj, hl, hf => by
    rw [runW]
    by_cases hg : i = j
    · have hbd : rotS_b1 (m : Int) cf ((i : Int), (j : Int), s) = some (.fin ((i : Int), (j : Int), s)) := by
        unfold rotS_b1
        simp [hg]
      rw [hbd]
      exact ⟨i, _, _, rfl, .refl _, him, by omega⟩
    · have hne : (!decide ((i : Int) = (j : Int))) = true := by simp; omega
      by_cases hc : i > j
      · obtain ⟨s', h1, h2⟩ := swpS_ok cf (m - i) m j s (by omega) hmj hl
        have hbd : rotS_b1 (m : Int) cf ((i : Int), (j : Int), s) = some (.next (((i - j : Nat) : Int), (j : Int), s')) := by
          unfold rotS_b1
          simp only
          rw [if_pos hne, if_pos (by rw [decide_eq_true_eq]; omega), wsub him (by omega), h1]
          simp only [Option.bind_some]
          rw [wsub (by omega) (by omega)]
        rw [hbd]
        simp only
        obtain ⟨i', j', s2, k1, k2, k3, k4⟩ := rot_b1 cf m f (i - j) j s' (by omega) hj (by omega) (by rw [h2.length_eq]; exact hmj) (by rw [h2.length_eq]; exact hl) (by omega)
        exact ⟨i', j', s2, k1, k2.trans h2, k3, by rw [← h2.length_eq]; exact k4⟩
      · obtain ⟨s', h1, h2⟩ := swpS_ok cf (m - i) (m + j - i) i s (by omega) (by omega) hl
        have hbd : rotS_b1 (m : Int) cf ((i : Int), (j : Int), s) = some (.next ((i : Int), ((j - i : Nat) : Int), s')) := by
          unfold rotS_b1
          simp only
          rw [if_pos hne, if_neg (by rw [decide_eq_true_eq]; omega), wsub him (by omega), wadd (x := m) (y := j) (by omega), wsub (x := m + j) (y := i) (by omega) (by omega), h1]
          simp only [Option.bind_some]
          rw [wsub (by omega) (by omega)]
        rw [hbd]
        simp only
        obtain ⟨i', j', s2, k1, k2, k3, k4⟩ := rot_b1 cf m f i (j - i) s' hi (by omega) him (by rw [h2.length_eq]; omega) (by rw [h2.length_eq]; exact hl) (by omega)
        exact ⟨i', j', s2, k1, k2.trans h2, k3, by rw [← h2.length_eq]; exact k4⟩
theorem rotS_ok (cf : α → α → Int) (a m b : Nat) (s : List α) (h1 : a < m) (h2 : m < b) (hb : b ≤ s.length) (hl : s.length < 4294967296) : ∃ s', rotS s (a : Int) (m : Int) (b : Int) cf = some s' ∧ s'.Perm s := by
  have hF : 8589934592 < FUEL := by decide
  obtain ⟨i', j', s', k1, k2, k3, k4⟩ := rot_b1 cf m FUEL (m - a) (b - m) s (by omega) (by omega) (by omega) (by omega) hl (by omega)
  obtain ⟨s2, q1, q2⟩ := swpS_ok cf (m - i') m i' s' (by rw [k2.length_eq]; omega) (by rw [k2.length_eq]; exact k4) (by rw [k2.length_eq]; exact hl)
  refine ⟨s2, ?_, q2.trans k2⟩
  unfold rotS
  rw [wsub (x := m) (y := a) (by omega) (by omega), wsub (x := b) (y := m) (by omega) (by omega), k1]
  simp only [Option.bind_some, Lp.elim]
  rw [wsub k3 (by omega), q1]; rfl
theorem sym_b2 (x : Nat) : ∀ (f k : Nat) (s : List α), 1 ≤ x → x ≤ s.length → s.length < 4294967296 → x - k < f → ∃ k' s', runW (symS_body_b2 (α := α) (x : Int) (x : Int)) f ((k : Int), s) = some (.fin (k', s')) ∧ s'.Perm s
  | 0, k, s, _, _, _, h => by omega
  | f + 1, k, s, h1, hx, hl, hf => by
    rw [runW]
    have e0 : IntKind.i64.wrap ((x : Int) - 1) = ((x - 1 : Nat) : Int) := wsub1 h1 (by omega)
    by_cases hg : k < x - 1
    · have hk : k < s.length := by omega
      have hk1 : k + 1 < s.length := by omega
      have hbd : symS_body_b2 (α := α) (x : Int) (x : Int) ((k : Int), s) = some (.next (((k + 1 : Nat) : Int), (s.set k s[k + 1]).set (k + 1) s[k])) := by
        unfold symS_body_b2
        simp only
        rw [e0, if_pos (by rw [decide_eq_true_eq]; omega), wadd1 (by omega)]
        simp only [ix_lt hk, ix_lt hk1, Option.bind_some, Int.toNat_natCast]
        rw [ix_lt (by rw [List.length_set]; exact hk1)]; rfl
      rw [hbd]
      simp only
      have hp := sw_perm (s := s) hk hk1
      obtain ⟨k', s', q1, q2⟩ := sym_b2 x f (k + 1) _ h1 (by rw [hp.length_eq]; exact hx) (by rw [hp.length_eq]; exact hl) (by omega)
      exact ⟨k', s', q1, q2.trans hp⟩
    · have hbd : symS_body_b2 (α := α) (x : Int) (x : Int) ((k : Int), s) = some (.fin ((k : Int), s)) := by
        unfold symS_body_b2
        simp only
        rw [e0, if_neg (by rw [decide_eq_true_eq]; omega)]
      rw [hbd]
      exact ⟨_, _, rfl, .refl _⟩
theorem sym_b4 (x : Nat) : ∀ (f k : Nat) (s : List α), k < s.length → s.length < 4294967296 → k < f → ∃ k' s', runW (symS_body_b4 (α := α) (x : Int) (x : Int)) f ((k : Int), s) = some (.fin (k', s')) ∧ s'.Perm s
  | 0, k, s, _, _, h => by omega
  | f + 1, k, s, hk, hl, hf => by
    rw [runW]
    by_cases hg : x < k
    · have hk1 : k - 1 < s.length := by omega
      have hbd : symS_body_b4 (α := α) (x : Int) (x : Int) ((k : Int), s) = some (.next (((k - 1 : Nat) : Int), (s.set k s[k - 1]).set (k - 1) s[k])) := by
        unfold symS_body_b4
        simp only
        rw [if_pos (by rw [decide_eq_true_eq]; omega), wsub1 (by omega) (by omega)]
        simp only [ix_lt hk, ix_lt hk1, Option.bind_some, Int.toNat_natCast]
        rw [ix_lt (by rw [List.length_set]; exact hk1)]; rfl
      rw [hbd]
      simp only
      have hp := sw_perm (s := s) hk hk1
      obtain ⟨k', s', q1, q2⟩ := sym_b4 x f (k - 1) _ (by rw [hp.length_eq]; exact hk1) (by rw [hp.length_eq]; exact hl) (by omega)
      exact ⟨k', s', q1, q2.trans hp⟩
    · have hbd : symS_body_b4 (α := α) (x : Int) (x : Int) ((k : Int), s) = some (.fin ((k : Int), s)) := by
        unfold symS_body_b4
        simp only
        rw [if_neg (by rw [decide_eq_true_eq]; omega)]
      rw [hbd]
      exact ⟨_, _, rfl, .refl _⟩
end
end Go.Proofs.YtkfhcfkbaaekoaaDoor.K
