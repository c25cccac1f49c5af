/- The functions of this program, printed as plain Lean functions (the specification side): no Go and no memory. Written by a program of this session. -/
import Derived.Test.YtokikdhilpebmaaS5
import GoSem.Dispatch
namespace Go.Proofs.Ytokikdhilpebmaa
open Go K
set_option linter.unusedVariables false
structure A16u8 where
  (e0 : Int)
  (e1 : Int)
  (e2 : Int)
  (e3 : Int)
  (e4 : Int)
  (e5 : Int)
  (e6 : Int)
  (e7 : Int)
  (e8 : Int)
  (e9 : Int)
  (e10 : Int)
  (e11 : Int)
  (e12 : Int)
  (e13 : Int)
  (e14 : Int)
  (e15 : Int)
  deriving DecidableEq
def A16u8.z : A16u8 := ⟨0, 0, 0, 0, 0, 0, 0, 0, 0, 0, 0, 0, 0, 0, 0, 0⟩
def A16u8.list (x : A16u8) : List Int := [x.e0, x.e1, x.e2, x.e3, x.e4, x.e5, x.e6, x.e7, x.e8, x.e9, x.e10, x.e11, x.e12, x.e13, x.e14, x.e15]
structure Addr where
  (six : Bool)
  (b : A16u8)
  deriving DecidableEq
def Addr.z : Addr := ⟨false, A16u8.z⟩
structure Key where
  (space : ByteArray)
  (name : ByteArray)
  deriving DecidableEq
def Key.z : Key := ⟨⟨#[]⟩, ⟨#[]⟩⟩
structure Place where
  (client : Addr)
  (service : Key)
  (name : ByteArray)
  (localF : Bool)
  deriving DecidableEq
def Place.z : Place := ⟨Addr.z, Key.z, ⟨#[]⟩, false⟩
structure Point where
  (addr : Addr)
  (port : Int)
  deriving DecidableEq
def Point.z : Point := ⟨Addr.z, 0⟩
structure Tie where
  (client : Addr)
  (service : Key)
  (name : ByteArray)
  (localF : Bool)
  (backend : Point)
  (last : Int)
  deriving DecidableEq
def Tie.z : Tie := ⟨Addr.z, Key.z, ⟨#[]⟩, false, Point.z, 0⟩
structure Ties where
  (all : (List (Place × Tie)))
  deriving DecidableEq
def Ties.z : Ties := ⟨[]⟩
structure Act where
  (kind : Int)
  (now : Int)
  (ticks : Int)
  (tie : Tie)
  deriving DecidableEq
def Act.z : Act := ⟨0, 0, 0, Tie.z⟩
structure Ties_2 where
  (all : (List Tie))
  deriving DecidableEq
def Ties_2.z : Ties_2 := ⟨[]⟩
/-- lb/ties.New -/
def F11_New  : Ties := ({ all := ([] : (List (Place × Tie))) } : Ties)
/-- (lb/ties.Tie).place -/
def F35_place (a0 : Tie) : Place := ({ client := a0.client, service := a0.service, name := a0.name, localF := a0.localF } : Place)
/-- slices.MinFunc[[]lb/ties.Tie,lb/ties.Tie] -/
def F47_Tie_b1 (a0 : (List Tie)) (a1 : (Tie → Tie → Int)) (s40 : Int × Tie) : Option (Step Empty (Int × Tie)) := (if (decide (s40.1 < ((a0.length : Nat) : Int))) = true then (ixO a0 s40.1).bind fun y52 => (if (decide ((a1 y52 s40.2) < 0)) = true then (ixO a0 s40.1).bind fun y82 => some (.next (IntKind.i64.wrap (s40.1 + 1), y82)) else some (.next (IntKind.i64.wrap (s40.1 + 1), s40.2))) else some (.fin (s40.1, s40.2)))
def F47_Tie (a0 : (List Tie)) (a1 : (Tie → Tie → Int)) : Option Tie := (if (decide (((a0.length : Nat) : Int) < 1)) = true then none else (ixO a0 0).bind fun y13 => (runW (F47_Tie_b1 a0 a1) FUEL (1, y13)).bind fun o => o.elim (fun r => r.elim) fun (s93 : Int × Tie) => some s93.2)
/-- cmp.isNaN[int] -/
def F40_int (a0 : Int) : Bool := !decide (a0 = a0)
/-- cmp.Compare[int] -/
def F24_int (a0 : Int) (a1 : Int) : Int := lt (F40_int a0) fun y3 => lt (F40_int a1) fun y7 => (if y3 = true then (if y7 = true then 0 else (-1)) else (if y7 = true then 1 else (if (decide (a0 < a1)) = true then (-1) else (if (decide (a0 > a1)) = true then 1 else 0))))
/-- bytes.Compare -/
def F38_Compare (a0 : (List Int)) (a1 : (List Int)) : Int := cmpB a0 a1
/-- lb/addr.Compare -/
def F21_Compare (a0 : Addr) (a1 : Addr) : Int := (if (a0.six == a1.six) = true then lt (F38_Compare (A16u8.list a0.b) (A16u8.list a1.b)) fun y16 => y16 else (if a0.six = true then 1 else (-1)))
/-- cmp.isNaN[string] -/
def F39_string (a0 : ByteArray) : Bool := !decide (a0 = a0)
/-- cmp.Compare[string] -/
def F23_string (a0 : ByteArray) (a1 : ByteArray) : Int := lt (F39_string a0) fun y3 => lt (F39_string a1) fun y7 => (if y3 = true then (if y7 = true then 0 else (-1)) else (if y7 = true then 1 else (if (Op.bytesLess a0.toList a1.toList) = true then (-1) else (if (!(Op.bytesLess a0.toList a1.toList || decide (a0 = a1))) = true then 1 else 0))))
/-- cmp.Or[int] -/
def F20_int_b1  (x10 : Int) (s11 : Unit) : Step Int Unit := (if (!decide (x10 = 0)) = true then .ret x10 else .next ())
def F20_int (a0 : (List Int)) : Int := lt (runB F20_int_b1 a0 ()) fun o => o.elim (fun r => r) fun (s30 : Unit) => 0
/-- lb/names.Compare -/
def F22_Compare (a0 : Key) (a1 : Key) : Int := lt (F23_string a0.space a1.space) fun y11 => lt (F23_string a0.name a1.name) fun y15 => lt (F20_int [y11, y15]) fun y24 => y24
/-- lb/ties.number -/
def F25_number (a0 : Bool) : Int := (if a0 = true then 1 else 0)
/-- lb/ties.Compare -/
def F9_Compare (a0 : Tie) (a1 : Tie) : Int := lt (F21_Compare a0.client a1.client) fun y11 => lt (F22_Compare a0.service a1.service) fun y15 => lt (F23_string a0.name a1.name) fun y19 => lt (F25_number a0.localF) fun y23 => lt (F25_number a1.localF) fun y27 => lt (F24_int y23 y27) fun y31 => lt (F20_int [y11, y15, y19, y31]) fun y40 => y40
/-- lb/ties.elder -/
def F48_elder (a0 : Tie) (a1 : Tie) : Int := lt (F24_int a0.last a1.last) fun y11 => lt (F9_Compare a0 a1) fun y15 => lt (F20_int [y11, y15]) fun y24 => y24
/-- (*lb/ties.Ties).Drop -/
def F29_Drop (a0 : Ties) (a1 : Tie) : (Bool × Ties) := lt (F35_place a1) fun y7 => lt (F35_place a1) fun y105 => ((mget a0.all y7).isSome, ({ all := mdel a0.all y105 } : Ties))
/-- (*lb/ties.Ties).evict -/
noncomputable def F37_evict (a0 : Ties) (a1 : Place) : Option (Tie × Bool × Ties) := lt (((mget a0.all a1).isSome) || (decide (((a0.all.length : Nat) : Int) < 16))) fun b117 => (if b117 = true then some (({ client := Addr.z, service := Key.z, name := ⟨#[]⟩, localF := false, backend := Point.z, last := 0 } : Tie), false, a0) else anyPerm (a0.all.map (·.2)) fun ys133 => (F47_Tie ys133 (fun x0 x1 => F48_elder x0 x1)).bind fun y141 => lt (F29_Drop a0 y141) fun y161 => some (y141, y161.1, y161.2))
/-- (*lb/ties.Ties).Put -/
noncomputable def F19_Put (a0 : Ties) (a1 : Tie) (a2 : Int) : Option (Tie × Bool × Ties) := lt (F35_place a1) fun y18 => (F37_evict a0 y18).bind fun y24 => lt (F35_place ({ client := a1.client, service := a1.service, name := a1.name, localF := a1.localF, backend := a1.backend, last := a2 } : Tie)) fun y57 => some (y24.1, y24.2.1, ({ all := mput y24.2.2.all y57 ({ client := a1.client, service := a1.service, name := a1.name, localF := a1.localF, backend := a1.backend, last := a2 } : Tie) } : Ties))
/-- lb/ties.Fresh -/
def F7_Fresh (a0 : Tie) (a1 : Int) (a2 : Int) : Bool := (if (decide (a2 < a0.last)) = true then lt ((decide (a1 > 0)) && (decide ((IntKind.u64.wrap ((IntKind.u64.wrap a0.last) - (IntKind.u64.wrap a0.last))) < (IntKind.u64.wrap a1)))) fun b8 => b8 else lt ((decide (a1 > 0)) && (decide ((IntKind.u64.wrap ((IntKind.u64.wrap a2) - (IntKind.u64.wrap a0.last))) < (IntKind.u64.wrap a1)))) fun b14 => b14)
/-- (*lb/ties.Ties).Get -/
def F17_Get (a0 : Ties) (a1 : Tie) (a2 : Int) (a3 : Int) : (Point × Bool) := lt (F35_place a1) fun y14 => lt ((!((mget a0.all y14).isSome)) || (lt (F7_Fresh ((mget a0.all y14).getD Tie.z) a2 a3) fun y131 => !y131)) fun b129 => (if b129 = true then (({ addr := Addr.z, port := 0 } : Point), false) else (((mget a0.all y14).getD Tie.z).backend, true))
/-- (*lb/ties.Ties).Len -/
def F16_Len (a0 : Ties) : Int := ((a0.all.length : Nat) : Int)
/-- lb/lblaw31.alive -/
noncomputable def F5_alive  : Option Bool := lt (F11_New) fun y3 => (F19_Put y3 ({ client := Addr.z, service := Key.z, name := ⟨#[]⟩, localF := false, backend := ({ addr := Addr.z, port := 7 } : Point), last := 0 } : Tie) 3).bind fun y30 => lt (F17_Get y30.2.2 ({ client := Addr.z, service := Key.z, name := ⟨#[]⟩, localF := false, backend := ({ addr := Addr.z, port := 7 } : Point), last := 0 } : Tie) 10 12) fun y45 => lt (F17_Get y30.2.2 ({ client := Addr.z, service := Key.z, name := ⟨#[]⟩, localF := false, backend := ({ addr := Addr.z, port := 7 } : Point), last := 0 } : Tie) 10 13) fun y64 => lt (y45.2 && (decide (y45.1.port = 7))) fun b82 => lt (b82 && (!y64.2)) fun b88 => lt (b88 && (lt (F16_Len y30.2.2) fun y98 => decide (y98 = 1))) fun b94 => some b94
/-- lb/lblaw31.Long -/
def F6_Long_b1  (x11 : Act) (s12 : Unit) : Step Bool Unit := lt ((decide (((x11.tie.name.size : Nat) : Int) > 100)) || (decide (((x11.tie.service.space.size : Nat) : Int) > 100))) fun b37 => lt (b37 || (decide (((x11.tie.service.name.size : Nat) : Int) > 100))) fun b43 => (if b43 = true then .ret true else .next ())
def F6_Long (a0 : (List Act)) : Bool := (if (decide (((a0.length : Nat) : Int) > 60)) = true then true else lt (runB F6_Long_b1 a0 ()) fun o => o.elim (fun r => r) fun (s54 : Unit) => false)
/-- lb/lbref31.same -/
def F46_same (a0 : Tie) (a1 : Tie) : Bool := lt ((decide (a0.client = a1.client)) && (decide (a0.service = a1.service))) fun b11 => lt (b11 && (decide (a0.name = a1.name))) fun b17 => lt (b17 && (a0.localF == a1.localF)) fun b23 => b23
/-- (*lb/lbref31.Ties).find -/
def F36_find_b1 (a1 : Tie) (x15 : Tie) (s16 : Nat) : Step Int Nat := lt (F46_same x15 a1) fun y42 => (if y42 = true then .ret ((s16 : Nat) : Int) else .next (s16 + 1))
def F36_find (a0 : Ties_2) (a1 : Tie) : Int := lt (runB (F36_find_b1 a1) a0.all 0) fun o => o.elim (fun r => r) fun (s51 : Nat) => (-1)
/-- (*lb/lbref31.Ties).Drop -/
def F30_Drop (a0 : Ties_2) (a1 : Tie) : Option (Bool × Ties_2) := lt (F36_find a0 a1) fun y9 => (if (decide (y9 < 0)) = true then some (false, a0) else (slO a0.all 0 y9).bind fun y32 => (apO [] y32).bind fun z44 => (slO a0.all (IntKind.i64.wrap (y9 + 1)) ((a0.all.length : Nat) : Int)).bind fun y48 => (apO ([] ++ y32) y48).bind fun z60 => some (true, ({ all := ([] ++ y32) ++ y48 } : Ties_2)))
/-- lb/lbref02.Compare -/
def F26_Compare_b1 (a0 : Addr) (a1 : Addr) (s22 : Int) : Option (Step Int Int) := (if (decide (s22 < 16)) = true then (ixO (A16u8.list a0.b) s22).bind fun y30 => (ixO (A16u8.list a1.b) s22).bind fun y34 => (if (decide (y30 < y34)) = true then some (.ret (-1)) else (ixO (A16u8.list a0.b) s22).bind fun y57 => (ixO (A16u8.list a1.b) s22).bind fun y61 => (if (decide (y57 > y61)) = true then some (.ret 1) else some (.next (IntKind.i64.wrap (s22 + 1))))) else some (.fin s22))
def F26_Compare (a0 : Addr) (a1 : Addr) : Option Int := (if (!(a0.six == a1.six)) = true then (if a0.six = true then some 1 else some (-1)) else (runW (F26_Compare_b1 a0 a1) FUEL 0).bind fun o => o.elim (fun r => some r) fun (s86 : Int) => some 0)
/-- lb/lbref05.Compare -/
def F27_Compare (a0 : Key) (a1 : Key) : Int := lt ((Op.bytesLess a0.space.toList a1.space.toList) || (lt ((decide (a0.space = a1.space)) && (Op.bytesLess a0.name.toList a1.name.toList)) fun b13 => b13)) fun b11 => (if b11 = true then (-1) else (if (decide (a0 = a1)) = true then 0 else 1))
/-- lb/lbref31.Compare -/
def F10_Compare (a0 : Tie) (a1 : Tie) : Option Int := (F26_Compare a0.client a1.client).bind fun y11 => (if (!decide (y11 = 0)) = true then some y11 else lt (F27_Compare a0.service a1.service) fun y16 => (if (!decide (y16 = 0)) = true then some y16 else (if (!decide (a0.name = a1.name)) = true then (if (Op.bytesLess a0.name.toList a1.name.toList) = true then some (-1) else some 1) else (if (a0.localF == a1.localF) = true then some 0 else (if a0.localF = true then some 1 else some (-1))))))
/-- (*lb/lbref31.Ties).Put -/
def F28_Put_b1  (x77 : Tie) (s78 : Tie) : Tie := (if (decide (x77.last < s78.last)) = true then x77 else s78)
def F28_Put_b2 (a1 : Tie) (a2 : Int) (y140 : (Bool × Ties_2)) (s179 : Int) : Option (Step Empty Int) := (andO (decide (s179 > 0)) ((ixO y140.2.all (IntKind.i64.wrap (s179 - 1))).bind fun y190 => (F10_Compare ({ client := a1.client, service := a1.service, name := a1.name, localF := a1.localF, backend := a1.backend, last := a2 } : Tie) y190).bind fun y194 => some (decide (y194 < 0)))).bind fun b196 => (if b196 = true then some (.next (IntKind.i64.wrap (s179 - 1))) else some (.fin s179))
def F28_Put_b3 (a1 : Tie) (a2 : Int) (y584 : (Bool × Ties_2)) (s623 : Int) : Option (Step Empty Int) := (andO (decide (s623 > 0)) ((ixO y584.2.all (IntKind.i64.wrap (s623 - 1))).bind fun y634 => (F10_Compare ({ client := a1.client, service := a1.service, name := a1.name, localF := a1.localF, backend := a1.backend, last := a2 } : Tie) y634).bind fun y638 => some (decide (y638 < 0)))).bind fun b640 => (if b640 = true then some (.next (IntKind.i64.wrap (s623 - 1))) else some (.fin s623))
def F28_Put (a0 : Ties_2) (a1 : Tie) (a2 : Int) : Option (Tie × Bool × Ties_2) := lt (F36_find a0 a1) fun y34 => lt ((decide (y34 < 0)) && (decide (((a0.all.length : Nat) : Int) ≥ 16))) fun b38 => (if b38 = true then (ixO a0.all 0).bind fun y49 => lt (runA F28_Put_b1 a0.all y49) fun (s118 : Tie) => (F30_Drop a0 s118).bind fun y123 => (F30_Drop y123.2 a1).bind fun y140 => (runW (F28_Put_b2 a1 a2 y140) FUEL ((y140.2.all.length : Nat) : Int)).bind fun o => o.elim (fun r => r.elim) fun (s268 : Int) => (slO y140.2.all 0 s268).bind fun y295 => (apO [] y295).bind fun z307 => (apO ([] ++ y295) [({ client := a1.client, service := a1.service, name := a1.name, localF := a1.localF, backend := a1.backend, last := a2 } : Tie)]).bind fun z327 => (slO y140.2.all s268 ((y140.2.all.length : Nat) : Int)).bind fun y334 => (apO (([] ++ y295) ++ [({ client := a1.client, service := a1.service, name := a1.name, localF := a1.localF, backend := a1.backend, last := a2 } : Tie)]) y334).bind fun z346 => some (s118, true, ({ all := (([] ++ y295) ++ [({ client := a1.client, service := a1.service, name := a1.name, localF := a1.localF, backend := a1.backend, last := a2 } : Tie)]) ++ y334 } : Ties_2)) else (F30_Drop a0 a1).bind fun y584 => (runW (F28_Put_b3 a1 a2 y584) FUEL ((y584.2.all.length : Nat) : Int)).bind fun o => o.elim (fun r => r.elim) fun (s712 : Int) => (slO y584.2.all 0 s712).bind fun y739 => (apO [] y739).bind fun z751 => (apO ([] ++ y739) [({ client := a1.client, service := a1.service, name := a1.name, localF := a1.localF, backend := a1.backend, last := a2 } : Tie)]).bind fun z771 => (slO y584.2.all s712 ((y584.2.all.length : Nat) : Int)).bind fun y778 => (apO (([] ++ y739) ++ [({ client := a1.client, service := a1.service, name := a1.name, localF := a1.localF, backend := a1.backend, last := a2 } : Tie)]) y778).bind fun z790 => some (({ client := Addr.z, service := Key.z, name := ⟨#[]⟩, localF := false, backend := Point.z, last := 0 } : Tie), false, ({ all := (([] ++ y739) ++ [({ client := a1.client, service := a1.service, name := a1.name, localF := a1.localF, backend := a1.backend, last := a2 } : Tie)]) ++ y778 } : Ties_2)))
/-- (*lb/ties.Ties).Purge$1 -/
def F42_1 (a0 : Place) (a1 : Tie) (a2 : Int) (a3 : Int) : Bool := lt (F7_Fresh a1 a2 a3) fun y23 => !y23
/-- (*lb/ties.Ties).Purge -/
def F31_Purge (a0 : Ties) (a1 : Int) (a2 : Int) : Option (Int × Ties) := (mfilter a0.all (fun x0 x1 => F42_1 x0 x1 a1 a2)).bind fun y9 => some (IntKind.i64.wrap (((a0.all.length : Nat) : Int) - ((y9.length : Nat) : Int)), ({ all := y9 } : Ties))
/-- lb/lbref31.Fresh -/
def F8_Fresh (a0 : Tie) (a1 : Int) (a2 : Int) : Bool := (if (decide (a1 ≤ 0)) = true then false else (if (decide (a2 ≤ a0.last)) = true then true else lt ((decide (a0.last > 0)) && (decide (a1 > (IntKind.i64.wrap (9223372036854775807 - a0.last))))) fun b9 => (if b9 = true then true else decide (a2 < (IntKind.i64.wrap (a0.last + a1))))))
/-- (*lb/lbref31.Ties).Purge -/
def F32_Purge_b1 (a1 : Int) (a2 : Int) (x25 : Tie) (s26 : (List Tie)) : Option (List Tie) := lt (F8_Fresh x25 a1 a2) fun y54 => (if y54 = true then (apO s26 [x25]).bind fun z70 => some (s26 ++ [x25]) else some s26)
def F32_Purge (a0 : Ties_2) (a1 : Int) (a2 : Int) : Option (Int × Ties_2) := (runAO (F32_Purge_b1 a1 a2) a0.all []).bind fun (s82 : (List Tie)) => some (IntKind.i64.wrap (((a0.all.length : Nat) : Int) - ((s82.length : Nat) : Int)), ({ all := s82 } : Ties_2))
/-- lb/lblaw31.do -/
noncomputable def F12_do (a0 : Ties) (a1 : Ties_2) (a2 : Act) : Option (Bool × Ties × Ties_2) := (if (decide (a2.kind = 0)) = true then (F19_Put a0 a2.tie a2.now).bind fun y24 => (F28_Put a1 a2.tie a2.now).bind fun y56 => lt ((y24.2.1 == y56.2.1) && (decide (y24.1 = y56.1))) fun b88 => some (b88, y24.2.2, y56.2.2) else (if (decide (a2.kind = 1)) = true then lt (F29_Drop a0 a2.tie) fun y100 => (F30_Drop a1 a2.tie).bind fun y117 => some ((y100.1 == y117.1), y100.2, y117.2) else (if (decide (a2.kind = 2)) = true then (F31_Purge a0 a2.ticks a2.now).bind fun y210 => (F32_Purge a1 a2.ticks a2.now).bind fun y227 => some (decide (y210.1 = y227.1), y210.2, y227.2) else some (true, a0, a1))))
/-- slices.SortFunc[[]lb/ties.Tie,lb/ties.Tie] -/
noncomputable def F44_slices_SortFunc (a0 : (List Tie)) (a1 : (Tie → Tie → Int)) : Option (List Tie) := sortO a0 a1
/-- slices.SortedFunc[lb/ties.Tie] -/
noncomputable def F33_Tie (a0 : (List Tie)) (a1 : (Tie → Tie → Int)) : Option (List Tie) := anyPerm a0 fun ys1 => (F44_slices_SortFunc ys1 a1).bind fun y13 => some y13
/-- (*lb/ties.Ties).List -/
noncomputable def F15_List (a0 : Ties) : Option (List Tie) := (F33_Tie (a0.all.map (·.2)) (fun x0 x1 => F9_Compare x0 x1)).bind fun y7 => some y7
/-- lb/lblaw31.Of -/
def F14_Of_b1  (x18 : Tie) (s19 : (List Tie)) : Option (List Tie) := (apO s19 [x18]).bind fun z56 => some (s19 ++ [x18])
def F14_Of (a0 : (List Tie)) : Option (List Tie) := (runAO F14_Of_b1 a0 []).bind fun (s64 : (List Tie)) => some s64
/-- lb/lbref31.Same -/
def F13_Same_b1 (a1 : (List Tie)) (x11 : Tie) (s12 : Nat) : Option (Step Bool Nat) := (ixO a1 ((s12 : Nat) : Int)).bind fun y31 => (if (!decide (x11 = y31)) = true then some (.ret false) else some (.next (s12 + 1)))
def F13_Same (a0 : (List Tie)) (a1 : (List Tie)) : Option Bool := (if (!decide (((a0.length : Nat) : Int) = ((a1.length : Nat) : Int))) = true then some false else (runBO (F13_Same_b1 a1) a0 0).bind fun o => o.elim (fun r => some r) fun (s64 : Nat) => some true)
/-- (*lb/lbref31.Ties).Get -/
def F18_Get (a0 : Ties_2) (a1 : Tie) (a2 : Int) (a3 : Int) : Option (Point × Bool) := lt (F36_find a0 a1) fun y16 => (orO (decide (y16 < 0)) ((ixO a0.all y16).bind fun y26 => lt (F8_Fresh y26 a2 a3) fun y30 => some (!y30))).bind fun b20 => (if b20 = true then some (({ addr := Addr.z, port := 0 } : Point), false) else (ixO a0.all y16).bind fun y48 => some (y48.backend, true))
/-- lb/lblaw31.TiesPlay -/
noncomputable def F4_TiesPlay_b1  (x59 : Act) (s60 : Ties × Ties_2) : Option (Step Bool (Ties × Ties_2)) := (F12_do s60.1 s60.2 x59).bind fun y93 => (orO (!y93.1) ((F15_List y93.2.1).bind fun y149 => (F14_Of y149).bind fun y155 => (F13_Same y155 y93.2.2.all).bind fun y161 => some (!y161))).bind fun b163 => lt ((b163 || (lt (F16_Len y93.2.1) fun y169 => !decide (y169 = ((y93.2.2.all.length : Nat) : Int))))) fun b171 => (if b171 = true then some (.ret false) else lt (F17_Get y93.2.1 x59.tie x59.ticks x59.now) fun y324 => (F18_Get y93.2.2 x59.tie x59.ticks x59.now).bind fun y345 => lt ((!(y324.2 == y345.2)) || (!decide (y324.1 = y345.1))) fun b365 => (if b365 = true then some (.ret false) else some (.next (y93.2.1, y93.2.2))))
noncomputable def F4_TiesPlay (a0 : (List Act)) : Option Bool := (F5_alive).bind fun y3 => (if (!y3) = true then some false else lt (F6_Long a0) fun y8 => (if y8 = true then some true else lt (F11_New) fun y13 => (runBO F4_TiesPlay_b1 a0 (y13, ({ all := [] } : Ties_2))).bind fun o => o.elim (fun r => some r) fun (s378 : Ties × Ties_2) => some true))
end Go.Proofs.Ytokikdhilpebmaa
