/- The functions of this program, printed as plain Lean functions (the specification side): no Go and no memory. Written by a program of this session. -/
import Derived.Test.YtokikdhilpebmaaS0
import GoSem.Dispatch
namespace Go.Proofs.Ytokikdhilpebmaa
open Go K
set_option linter.unusedVariables false
structure A16u8 where
  (e0 : Int)
  (e1 : Int)
  (e2 : Int)
  (e3 : Int)
  (e4 : Int)
  (e5 : Int)
  (e6 : Int)
  (e7 : Int)
  (e8 : Int)
  (e9 : Int)
  (e10 : Int)
  (e11 : Int)
  (e12 : Int)
  (e13 : Int)
  (e14 : Int)
  (e15 : Int)
  deriving DecidableEq
def A16u8.z : A16u8 := ⟨0, 0, 0, 0, 0, 0, 0, 0, 0, 0, 0, 0, 0, 0, 0, 0⟩
def A16u8.list (x : A16u8) : List Int := [x.e0, x.e1, x.e2, x.e3, x.e4, x.e5, x.e6, x.e7, x.e8, x.e9, x.e10, x.e11, x.e12, x.e13, x.e14, x.e15]
structure Addr where
  (six : Bool)
  (b : A16u8)
  deriving DecidableEq
def Addr.z : Addr := ⟨false, A16u8.z⟩
structure Key where
  (space : ByteArray)
  (name : ByteArray)
  deriving DecidableEq
def Key.z : Key := ⟨⟨#[]⟩, ⟨#[]⟩⟩
structure Place where
  (client : Addr)
  (service : Key)
  (name : ByteArray)
  (localF : Bool)
  deriving DecidableEq
def Place.z : Place := ⟨Addr.z, Key.z, ⟨#[]⟩, false⟩
structure Point where
  (addr : Addr)
  (port : Int)
  deriving DecidableEq
def Point.z : Point := ⟨Addr.z, 0⟩
structure Tie where
  (client : Addr)
  (service : Key)
  (name : ByteArray)
  (localF : Bool)
  (backend : Point)
  (last : Int)
  deriving DecidableEq
def Tie.z : Tie := ⟨Addr.z, Key.z, ⟨#[]⟩, false, Point.z, 0⟩
structure Ties where
  (all : (List (Place × Tie)))
  deriving DecidableEq
def Ties.z : Ties := ⟨[]⟩
structure Act where
  (kind : Int)
  (now : Int)
  (ticks : Int)
  (tie : Tie)
  deriving DecidableEq
def Act.z : Act := ⟨0, 0, 0, Tie.z⟩
structure A2i64 where
  (e0 : Int)
  (e1 : Int)
  deriving DecidableEq
def A2i64.z : A2i64 := ⟨0, 0⟩
def A2i64.list (x : A2i64) : List Int := [x.e0, x.e1]
/-- lb/ties.New -/
def F11_ties_New  : Ties := ({ all := ([] : (List (Place × Tie))) } : Ties)
/-- (lb/ties.Tie).place -/
def F35_ties_Tie_place (a0 : Tie) : Place := ({ client := a0.client, service := a0.service, name := a0.name, localF := a0.localF } : Place)
/-- cmp.isNaN[int] -/
def F40_cmp_isNaN_int (a0 : Int) : Bool := !decide (a0 = a0)
/-- cmp.Compare[int] -/
def F24_cmp_Compare_int (a0 : Int) (a1 : Int) : Int := lt (F40_cmp_isNaN_int a0) fun y3 => lt (F40_cmp_isNaN_int a1) fun y7 => (if y3 = true then (if y7 = true then 0 else (-1)) else (if y7 = true then 1 else (if (decide (a0 < a1)) = true then (-1) else (if (decide (a0 > a1)) = true then 1 else 0))))
/-- bytes.Compare -/
def F38_bytes_Compare (a0 : (List Int)) (a1 : (List Int)) : Int := cmpB a0 a1
/-- lb/addr.Compare -/
def F21_addr_Compare (a0 : Addr) (a1 : Addr) : Int := (if (a0.six == a1.six) = true then lt (F38_bytes_Compare (A16u8.list a0.b) (A16u8.list a1.b)) fun y16 => y16 else (if a0.six = true then 1 else (-1)))
/-- cmp.isNaN[string] -/
def F39_cmp_isNaN_string (a0 : ByteArray) : Bool := !decide (a0 = a0)
/-- cmp.Compare[string] -/
def F23_cmp_Compare_string (a0 : ByteArray) (a1 : ByteArray) : Int := lt (F39_cmp_isNaN_string a0) fun y3 => lt (F39_cmp_isNaN_string a1) fun y7 => (if y3 = true then (if y7 = true then 0 else (-1)) else (if y7 = true then 1 else (if (Op.bytesLess a0.toList a1.toList) = true then (-1) else (if (!(Op.bytesLess a0.toList a1.toList || decide (a0 = a1))) = true then 1 else 0))))
/-- cmp.Or[int] -/
def F20_cmp_Or_int_b1  (x10 : Int) (s11 : Unit) : Step Int Unit := (if (!decide (x10 = 0)) = true then .ret x10 else .next ())
def F20_cmp_Or_int (a0 : (List Int)) : Int := lt (runB F20_cmp_Or_int_b1 a0 ()) fun o => o.elim (fun r => r) fun (s30 : Unit) => 0
/-- lb/names.Compare -/
def F22_names_Compare (a0 : Key) (a1 : Key) : Int := lt (F23_cmp_Compare_string a0.space a1.space) fun y11 => lt (F23_cmp_Compare_string a0.name a1.name) fun y15 => lt (F20_cmp_Or_int [y11, y15]) fun y24 => y24
/-- lb/ties.number -/
def F25_ties_number (a0 : Bool) : Int := (if a0 = true then 1 else 0)
/-- lb/ties.Compare -/
def F9_ties_Compare (a0 : Tie) (a1 : Tie) : Int := lt (F21_addr_Compare a0.client a1.client) fun y11 => lt (F22_names_Compare a0.service a1.service) fun y15 => lt (F23_cmp_Compare_string a0.name a1.name) fun y19 => lt (F25_ties_number a0.localF) fun y23 => lt (F25_ties_number a1.localF) fun y27 => lt (F24_cmp_Compare_int y23 y27) fun y31 => lt (F20_cmp_Or_int [y11, y15, y19, y31]) fun y40 => y40
/-- lb/ties.elder -/
def F48_ties_elder (a0 : Tie) (a1 : Tie) : Int := lt (F24_cmp_Compare_int a0.last a1.last) fun y11 => lt (F9_ties_Compare a0 a1) fun y15 => lt (F20_cmp_Or_int [y11, y15]) fun y24 => y24
/-- (*lb/ties.Ties).Drop -/
def F29_ties_Ties_Drop (a0 : Ties) (a1 : Tie) : (Bool × Ties) := lt (F35_ties_Tie_place a1) fun y7 => lt (F35_ties_Tie_place a1) fun y104 => ((mget a0.all y7).isSome, ({ all := mdel a0.all y104 } : Ties))
/-- (*lb/ties.Ties).evict -/
def F37_ties_Ties_evict (a0 : Ties) (a1 : Place) : Option (Tie × Bool) := lt (((mget a0.all a1).isSome) || (decide (((a0.all.length : Nat) : Int) < 16))) fun b116 => (if b116 = true then some (({ client := Addr.z, service := Key.z, name := ⟨#[]⟩, localF := false, backend := Point.z, last := 0 } : Tie), false) else none)
/-- (*lb/ties.Ties).Put -/
def F19_ties_Ties_Put (a0 : Ties) (a1 : Tie) (a2 : Int) : Option (Tie × Bool × Ties) := lt (F35_ties_Tie_place a1) fun y18 => (F37_ties_Ties_evict a0 y18).bind fun y24 => lt (F35_ties_Tie_place ({ client := a1.client, service := a1.service, name := a1.name, localF := a1.localF, backend := a1.backend, last := a2 } : Tie)) fun y47 => some (y24.1, y24.2, ({ all := mput a0.all y47 ({ client := a1.client, service := a1.service, name := a1.name, localF := a1.localF, backend := a1.backend, last := a2 } : Tie) } : Ties))
/-- lb/ties.Fresh -/
def F7_ties_Fresh (a0 : Tie) (a1 : Int) (a2 : Int) : Bool := (if (decide (a2 < a0.last)) = true then lt ((decide (a1 > 0)) && (decide ((IntKind.u64.wrap ((IntKind.u64.wrap a0.last) - (IntKind.u64.wrap a0.last))) < (IntKind.u64.wrap a1)))) fun b8 => b8 else lt ((decide (a1 > 0)) && (decide ((IntKind.u64.wrap ((IntKind.u64.wrap a2) - (IntKind.u64.wrap a0.last))) < (IntKind.u64.wrap a1)))) fun b14 => b14)
/-- (*lb/ties.Ties).Get -/
def F17_ties_Ties_Get (a0 : Ties) (a1 : Tie) (a2 : Int) (a3 : Int) : (Point × Bool) := lt (F35_ties_Tie_place a1) fun y14 => lt ((!((mget a0.all y14).isSome)) || (lt (F7_ties_Fresh ((mget a0.all y14).getD Tie.z) a2 a3) fun y130 => !y130)) fun b128 => (if b128 = true then (({ addr := Addr.z, port := 0 } : Point), false) else (((mget a0.all y14).getD Tie.z).backend, true))
/-- (*lb/ties.Ties).Len -/
def F16_ties_Ties_Len (a0 : Ties) : Int := ((a0.all.length : Nat) : Int)
/-- lb/lblaw31.alive -/
def F5_linkboylaw31_alive  : Option Bool := lt (F11_ties_New) fun y3 => (F19_ties_Ties_Put y3 ({ client := Addr.z, service := Key.z, name := ⟨#[]⟩, localF := false, backend := ({ addr := Addr.z, port := 7 } : Point), last := 0 } : Tie) 3).bind fun y30 => lt (F17_ties_Ties_Get y30.2.2 ({ client := Addr.z, service := Key.z, name := ⟨#[]⟩, localF := false, backend := ({ addr := Addr.z, port := 7 } : Point), last := 0 } : Tie) 10 12) fun y45 => lt (F17_ties_Ties_Get y30.2.2 ({ client := Addr.z, service := Key.z, name := ⟨#[]⟩, localF := false, backend := ({ addr := Addr.z, port := 7 } : Point), last := 0 } : Tie) 10 13) fun y64 => lt (y45.2 && (decide (y45.1.port = 7))) fun b82 => lt (b82 && (!y64.2)) fun b88 => lt (b88 && (lt (F16_ties_Ties_Len y30.2.2) fun y98 => decide (y98 = 1))) fun b94 => some b94
/-- lb/lblaw31.Long -/
def F6_linkboylaw31_Long_b1  (x11 : Act) (s12 : Unit) : Step Bool Unit := lt ((decide (((x11.tie.name.size : Nat) : Int) > 100)) || (decide (((x11.tie.service.space.size : Nat) : Int) > 100))) fun b37 => lt (b37 || (decide (((x11.tie.service.name.size : Nat) : Int) > 100))) fun b43 => (if b43 = true then .ret true else .next ())
def F6_linkboylaw31_Long (a0 : (List Act)) : Bool := (if (decide (((a0.length : Nat) : Int) > 60)) = true then true else lt (runB F6_linkboylaw31_Long_b1 a0 ()) fun o => o.elim (fun r => r) fun (s53 : Unit) => false)
/-- lb/lbref31.Fresh -/
def F8_linkboyref31_Fresh (a0 : Tie) (a1 : Int) (a2 : Int) : Bool := (if (decide (a1 ≤ 0)) = true then false else (if (decide (a2 ≤ a0.last)) = true then true else lt ((decide (a0.last > 0)) && (decide (a1 > (IntKind.i64.wrap (9223372036854775807 - a0.last))))) fun b9 => (if b9 = true then true else decide (a2 < (IntKind.i64.wrap (a0.last + a1))))))
/-- lb/lbref02.Compare -/
def F26_linkboyref02_Compare_b1 (a0 : Addr) (a1 : Addr) (s22 : Int) : Option (Step Int Int) := (if (decide (s22 < 16)) = true then (ixO (A16u8.list a0.b) s22).bind fun y30 => (ixO (A16u8.list a1.b) s22).bind fun y34 => (if (decide (y30 < y34)) = true then some (.ret (-1)) else (ixO (A16u8.list a0.b) s22).bind fun y57 => (ixO (A16u8.list a1.b) s22).bind fun y61 => (if (decide (y57 > y61)) = true then some (.ret 1) else some (.next (IntKind.i64.wrap (s22 + 1))))) else some (.fin s22))
def F26_linkboyref02_Compare (a0 : Addr) (a1 : Addr) : Option Int := (if (!(a0.six == a1.six)) = true then (if a0.six = true then some 1 else some (-1)) else (runW (F26_linkboyref02_Compare_b1 a0 a1) FUEL 0).bind fun o => o.elim (fun r => some r) fun (s86 : Int) => some 0)
/-- lb/lbref05.Compare -/
def F27_linkboyref05_Compare (a0 : Key) (a1 : Key) : Int := lt ((Op.bytesLess a0.space.toList a1.space.toList) || (lt ((decide (a0.space = a1.space)) && (Op.bytesLess a0.name.toList a1.name.toList)) fun b13 => b13)) fun b11 => (if b11 = true then (-1) else (if (decide (a0 = a1)) = true then 0 else 1))
/-- lb/lbref31.Compare -/
def F10_linkboyref31_Compare (a0 : Tie) (a1 : Tie) : Option Int := (F26_linkboyref02_Compare a0.client a1.client).bind fun y11 => (if (!decide (y11 = 0)) = true then some y11 else lt (F27_linkboyref05_Compare a0.service a1.service) fun y16 => (if (!decide (y16 = 0)) = true then some y16 else (if (!decide (a0.name = a1.name)) = true then (if (Op.bytesLess a0.name.toList a1.name.toList) = true then some (-1) else some 1) else (if (a0.localF == a1.localF) = true then some 0 else (if a0.localF = true then some 1 else some (-1))))))
/-- lb/lblaw31.TiesFresh -/
def F3_linkboylaw31_TiesFresh (a0 : Tie) (a1 : Tie) (a2 : A2i64) : Option Bool := (F5_linkboylaw31_alive).bind fun y15 => (if (!y15) = true then some false else lt (F6_linkboylaw31_Long [({ kind := 0, now := 0, ticks := 0, tie := a0 } : Act), ({ kind := 0, now := 0, ticks := 0, tie := a1 } : Act)]) fun y25 => (if y25 = true then some true else (ixO (A2i64.list a2) 0).bind fun y106 => (ixO (A2i64.list a2) 1).bind fun y110 => lt (F7_ties_Fresh a0 y106 y110) fun y114 => (ixO (A2i64.list a2) 0).bind fun y118 => (ixO (A2i64.list a2) 1).bind fun y122 => lt (F8_linkboyref31_Fresh a0 y118 y122) fun y126 => (andO (y114 == y126) (lt (F9_ties_Compare a0 a1) fun y130 => (F10_linkboyref31_Compare a0 a1).bind fun y134 => some (decide (y130 = y134)))).bind fun b136 => some b136))
end Go.Proofs.Ytokikdhilpebmaa
