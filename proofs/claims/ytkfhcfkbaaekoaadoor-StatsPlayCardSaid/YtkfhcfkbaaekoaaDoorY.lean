/- The functions of this program, printed as plain Lean functions (the specification side): no Go and no memory. Written by a program of this session. -/
import Derived.Test.YtkfhcfkbaaekoaaDoorS5
import GoSem.Dispatch
namespace Go.Proofs.YtkfhcfkbaaekoaaDoor
open Go K
set_option linter.unusedVariables false
structure Key where
  (space : ByteArray)
  (name : ByteArray)
  deriving DecidableEq
def Key.z : Key := ⟨⟨#[]⟩, ⟨#[]⟩⟩
structure Service where
  (key : Key)
  (begun : Int)
  (filtered : Int)
  (rejected : Int)
  (full : Int)
  deriving DecidableEq
def Service.z : Service := ⟨Key.z, 0, 0, 0, 0⟩
structure Count where
  (packets : Int)
  (bytes : Int)
  deriving DecidableEq
def Count.z : Count := ⟨0, 0⟩
structure A7Count where
  (e0 : Count)
  (e1 : Count)
  (e2 : Count)
  (e3 : Count)
  (e4 : Count)
  (e5 : Count)
  (e6 : Count)
  deriving DecidableEq
def A7Count.z : A7Count := ⟨Count.z, Count.z, Count.z, Count.z, Count.z, Count.z, Count.z⟩
def A7Count.list (x : A7Count) : List Count := [x.e0, x.e1, x.e2, x.e3, x.e4, x.e5, x.e6]
def A7Count.upd (x : A7Count) (i : Nat) (f : Count → Count) : A7Count :=
  match i with
  | 0 => { x with e0 := f x.e0 }
  | 1 => { x with e1 := f x.e1 }
  | 2 => { x with e2 := f x.e2 }
  | 3 => { x with e3 := f x.e3 }
  | 4 => { x with e4 := f x.e4 }
  | 5 => { x with e5 := f x.e5 }
  | 6 => { x with e6 := f x.e6 }
  | _ => x
structure A16i64 where
  (e0 : Int)
  (e1 : Int)
  (e2 : Int)
  (e3 : Int)
  (e4 : Int)
  (e5 : Int)
  (e6 : Int)
  (e7 : Int)
  (e8 : Int)
  (e9 : Int)
  (e10 : Int)
  (e11 : Int)
  (e12 : Int)
  (e13 : Int)
  (e14 : Int)
  (e15 : Int)
  deriving DecidableEq
def A16i64.z : A16i64 := ⟨0, 0, 0, 0, 0, 0, 0, 0, 0, 0, 0, 0, 0, 0, 0, 0⟩
def A16i64.list (x : A16i64) : List Int := [x.e0, x.e1, x.e2, x.e3, x.e4, x.e5, x.e6, x.e7, x.e8, x.e9, x.e10, x.e11, x.e12, x.e13, x.e14, x.e15]
def A16i64.upd (x : A16i64) (i : Nat) (f : Int → Int) : A16i64 :=
  match i with
  | 0 => { x with e0 := f x.e0 }
  | 1 => { x with e1 := f x.e1 }
  | 2 => { x with e2 := f x.e2 }
  | 3 => { x with e3 := f x.e3 }
  | 4 => { x with e4 := f x.e4 }
  | 5 => { x with e5 := f x.e5 }
  | 6 => { x with e6 := f x.e6 }
  | 7 => { x with e7 := f x.e7 }
  | 8 => { x with e8 := f x.e8 }
  | 9 => { x with e9 := f x.e9 }
  | 10 => { x with e10 := f x.e10 }
  | 11 => { x with e11 := f x.e11 }
  | 12 => { x with e12 := f x.e12 }
  | 13 => { x with e13 := f x.e13 }
  | 14 => { x with e14 := f x.e14 }
  | 15 => { x with e15 := f x.e15 }
  | _ => x
structure Stats where
  (verdicts : A7Count)
  (services : (List (Key × Service)))
  (spans : A16i64)
  (last : Int)
  deriving DecidableEq
def Stats.z : Stats := ⟨A7Count.z, [], A16i64.z, 0⟩
structure A16u8 where
  (e0 : Int)
  (e1 : Int)
  (e2 : Int)
  (e3 : Int)
  (e4 : Int)
  (e5 : Int)
  (e6 : Int)
  (e7 : Int)
  (e8 : Int)
  (e9 : Int)
  (e10 : Int)
  (e11 : Int)
  (e12 : Int)
  (e13 : Int)
  (e14 : Int)
  (e15 : Int)
  deriving DecidableEq
def A16u8.z : A16u8 := ⟨0, 0, 0, 0, 0, 0, 0, 0, 0, 0, 0, 0, 0, 0, 0, 0⟩
def A16u8.list (x : A16u8) : List Int := [x.e0, x.e1, x.e2, x.e3, x.e4, x.e5, x.e6, x.e7, x.e8, x.e9, x.e10, x.e11, x.e12, x.e13, x.e14, x.e15]
structure Addr where
  (six : Bool)
  (b : A16u8)
  deriving DecidableEq
def Addr.z : Addr := ⟨false, A16u8.z⟩
structure Point where
  (addr : Addr)
  (port : Int)
  deriving DecidableEq
def Point.z : Point := ⟨Addr.z, 0⟩
structure Front where
  (proto : Int)
  (point : Point)
  (service : Key)
  (name : ByteArray)
  (how : Int)
  (localF : Bool)
  (asked : Bool)
  (ticks : Int)
  deriving DecidableEq
def Front.z : Front := ⟨0, Point.z, Key.z, ⟨#[]⟩, 0, false, false, 0⟩
structure Out where
  (verdict : Int)
  (packet : (List Int))
  (front : Front)
  (backend : Point)
  deriving DecidableEq
def Out.z : Out := ⟨0, [], Front.z, Point.z⟩
structure Id where
  (service : Key)
  (name : ByteArray)
  (six : Bool)
  (localF : Bool)
  deriving DecidableEq
def Id.z : Id := ⟨Key.z, ⟨#[]⟩, false, false⟩
structure Table where
  (size : Int)
  (backends : (List Point))
  (slots : (List Int))
  deriving DecidableEq
def Table.z : Table := ⟨0, [], []⟩
structure Group where
  (id : Id)
  (table : Table)
  deriving DecidableEq
def Group.z : Group := ⟨Id.z, Table.z⟩
structure Cidr where
  (addr : Addr)
  (bits : Int)
  deriving DecidableEq
def Cidr.z : Cidr := ⟨Addr.z, 0⟩
structure Filter where
  (service : Key)
  (ranges : (List Cidr))
  deriving DecidableEq
def Filter.z : Filter := ⟨Key.z, []⟩
structure Rows where
  (fronts : (List Front))
  (groups : (List Group))
  (filters : (List Filter))
  deriving DecidableEq
def Rows.z : Rows := ⟨[], [], []⟩
structure Act where
  (kind : Int)
  (size : Int)
  (now : Int)
  (out : Out)
  (atF : Int)
  (spans : Int)
  (top : Int)
  deriving DecidableEq
def Act.z : Act := ⟨0, 0, 0, Out.z, 0, 0, 0⟩
structure Told where
  (verdict : Int)
  (size : Int)
  (span : Int)
  (fronted : Bool)
  (service : Key)
  deriving DecidableEq
def Told.z : Told := ⟨0, 0, 0, false, Key.z⟩
structure Stats_2 where
  (all : (List Told))
  deriving DecidableEq
def Stats_2.z : Stats_2 := ⟨[]⟩
def F7_New  : Stats := ({ verdicts := A7Count.z, services := ([] : (List (Key × Service))), spans := A16i64.z, last := 0 } : Stats)
def F24_ticked (a0 : Int) : Bool := lt ((decide (a0 ≥ 0)) && (decide (a0 ≤ 1099511627776))) fun b3 => b3
def F8_Total_b1 (a0 : Stats) (s35 : Int × Count) : Option (Step Empty (Int × Count)) := (if (decide (s35.1 < 7)) = true then (ixO (A7Count.list a0.verdicts) s35.1).bind fun y41 => some (.next (IntKind.i64.wrap (s35.1 + 1), ({ packets := IntKind.i64.wrap (s35.2.packets + y41.packets), bytes := IntKind.i64.wrap (s35.2.bytes + y41.bytes) } : Count))) else some (.fin (s35.1, s35.2)))
def F8_Total (a0 : Stats) : Option Count := (runW (F8_Total_b1 a0) FUEL (0, Count.z)).bind fun o => o.elim (fun r => r.elim) fun (s72 : Int × Count) => some s72.2
def F25_forward_b1 (a1 : Int) (s18 : Int × Stats) : Option (Step Empty (Int × Stats)) := (if (decide (s18.1 ≤ a1)) = true then (ixO (A16i64.list s18.2.spans) (s18.1.tmod 16)).bind fun y24 => some (.next (IntKind.i64.wrap (s18.1 + 1), ({ verdicts := s18.2.verdicts, services := s18.2.services, spans := A16i64.upd s18.2.spans (s18.1.tmod 16).toNat (fun _ => 0), last := s18.2.last } : Stats))) else some (.fin (s18.1, s18.2)))
def F25_forward (a0 : Stats) (a1 : Int) : Option Stats := (runW (F25_forward_b1 a1) FUEL (if (IntKind.i64.wrap ((IntKind.i64.wrap (a1 - 16)) + 1)) > (IntKind.i64.wrap (a0.last + 1)) then (IntKind.i64.wrap ((IntKind.i64.wrap (a1 - 16)) + 1)) else (IntKind.i64.wrap (a0.last + 1)), a0)).bind fun o => o.elim (fun r => r.elim) fun (s37 : Int × Stats) => some ({ verdicts := s37.2.verdicts, services := s37.2.services, spans := s37.2.spans, last := a1 } : Stats)
def F26_served (a0 : Stats) (a1 : Out) : Stats := (if (decide (a1.verdict = 2)) = true then ({ verdicts := a0.verdicts, services := mput a0.services a1.front.service ({ key := a1.front.service, begun := IntKind.i64.wrap ((((mget a0.services a1.front.service).getD Service.z).begun) + 1), filtered := ((mget a0.services a1.front.service).getD Service.z).filtered, rejected := ((mget a0.services a1.front.service).getD Service.z).rejected, full := ((mget a0.services a1.front.service).getD Service.z).full } : Service), spans := a0.spans, last := a0.last } : Stats) else (if (decide (a1.verdict = 4)) = true then ({ verdicts := a0.verdicts, services := mput a0.services a1.front.service ({ key := a1.front.service, begun := ((mget a0.services a1.front.service).getD Service.z).begun, filtered := IntKind.i64.wrap ((((mget a0.services a1.front.service).getD Service.z).filtered) + 1), rejected := ((mget a0.services a1.front.service).getD Service.z).rejected, full := ((mget a0.services a1.front.service).getD Service.z).full } : Service), spans := a0.spans, last := a0.last } : Stats) else (if (decide (a1.verdict = 5)) = true then ({ verdicts := a0.verdicts, services := mput a0.services a1.front.service ({ key := a1.front.service, begun := ((mget a0.services a1.front.service).getD Service.z).begun, filtered := ((mget a0.services a1.front.service).getD Service.z).filtered, rejected := IntKind.i64.wrap ((((mget a0.services a1.front.service).getD Service.z).rejected) + 1), full := ((mget a0.services a1.front.service).getD Service.z).full } : Service), spans := a0.spans, last := a0.last } : Stats) else (if (decide (a1.verdict = 6)) = true then ({ verdicts := a0.verdicts, services := mput a0.services a1.front.service ({ key := a1.front.service, begun := ((mget a0.services a1.front.service).getD Service.z).begun, filtered := ((mget a0.services a1.front.service).getD Service.z).filtered, rejected := ((mget a0.services a1.front.service).getD Service.z).rejected, full := IntKind.i64.wrap ((((mget a0.services a1.front.service).getD Service.z).full) + 1) } : Service), spans := a0.spans, last := a0.last } : Stats) else a0))))
def F9_Tell (a0 : Stats) (a1 : Out) (a2 : Int) (a3 : Int) : Option ((Option Nat) × Stats) := lt ((decide (a1.verdict < 0)) || (decide (a1.verdict ≥ 7))) fun b7 => lt (b7 || (decide (a2 < 0))) fun b13 => lt (b13 || (decide (a2 > 300))) fun b19 => lt (b19 || (lt (F24_ticked a3) fun y27 => !y27)) fun b25 => (if b25 = true then some ((some 0), a0) else (if (decide ((IntKind.i64.wrap (a3.tdiv 10)) < a0.last)) = true then some ((some 1), a0) else (F8_Total a0).bind fun y39 => (if (decide (y39.packets ≥ 1099511627776)) = true then some ((some 2), a0) else (F25_forward a0 (IntKind.i64.wrap (a3.tdiv 10))).bind fun y46 => (ixO (A16i64.list y46.spans) ((IntKind.i64.wrap (a3.tdiv 10)).tmod 16)).bind fun y56 => (ixO (A7Count.list y46.verdicts) a1.verdict).bind fun y90 => (if (!decide (a1.front.proto = 0)) = true then lt (F26_served ({ verdicts := A7Count.upd (A7Count.upd y46.verdicts a1.verdict.toNat (fun e => { e with packets := IntKind.i64.wrap (y90.packets + 1) })) a1.verdict.toNat (fun e => { e with bytes := IntKind.i64.wrap ((({ y90 with packets := IntKind.i64.wrap (y90.packets + 1) } : Count).bytes) + a2) }), services := y46.services, spans := A16i64.upd y46.spans ((IntKind.i64.wrap (a3.tdiv 10)).tmod 16).toNat (fun _ => IntKind.i64.wrap (y56 + 1)), last := y46.last } : Stats) a1) fun y122 => some ((none : Option Nat), y122) else some ((none : Option Nat), ({ verdicts := A7Count.upd (A7Count.upd y46.verdicts a1.verdict.toNat (fun e => { e with packets := IntKind.i64.wrap (y90.packets + 1) })) a1.verdict.toNat (fun e => { e with bytes := IntKind.i64.wrap ((({ y90 with packets := IntKind.i64.wrap (y90.packets + 1) } : Count).bytes) + a2) }), services := y46.services, spans := A16i64.upd y46.spans ((IntKind.i64.wrap (a3.tdiv 10)).tmod 16).toNat (fun _ => IntKind.i64.wrap (y56 + 1)), last := y46.last } : Stats))))))
def F21_Rate_b1 (a0 : Stats) (a1 : Int) (s19 : Int × Int) : Option (Step Empty (Int × Int)) := (if (decide (s19.2 ≤ (IntKind.i64.wrap (a1.tdiv 10)))) = true then lt ((decide (s19.2 ≤ a0.last)) && (decide (s19.2 > (IntKind.i64.wrap (a0.last - 16))))) fun b27 => (if b27 = true then (ixO (A16i64.list a0.spans) (s19.2.tmod 16)).bind fun y32 => some (.next (IntKind.i64.wrap (s19.1 + y32), IntKind.i64.wrap (s19.2 + 1))) else some (.next (s19.1, IntKind.i64.wrap (s19.2 + 1)))) else some (.fin (s19.1, s19.2)))
def F21_Rate (a0 : Stats) (a1 : Int) (a2 : Int) : Option Nat := lt (F24_ticked a1) fun y3 => (if (!y3) = true then some 0 else (runW (F21_Rate_b1 a0 a1) FUEL (0, if 0 > (IntKind.i64.wrap ((IntKind.i64.wrap ((IntKind.i64.wrap (a1.tdiv 10)) - (if 16 < (if 1 > a2 then 1 else a2) then 16 else (if 1 > a2 then 1 else a2)))) + 1)) then 0 else (IntKind.i64.wrap ((IntKind.i64.wrap ((IntKind.i64.wrap (a1.tdiv 10)) - (if 16 < (if 1 > a2 then 1 else a2) then 16 else (if 1 > a2 then 1 else a2)))) + 1)))).bind fun o => o.elim (fun r => r.elim) fun (s38 : Int × Int) => (FloatKind.f64.format.div (FloatKind.f64.nearest s38.1) (FloatKind.f64.nearest (IntKind.i64.wrap (10 * (if 16 < (if 1 > a2 then 1 else a2) then 16 else (if 1 > a2 then 1 else a2)))))).bind fun y39 => some y39)
def F5_alive  : Option Bool := lt (F7_New) fun y3 => (F9_Tell y3 ({ verdict := 0, packet := [], front := Front.z, backend := Point.z } : Out) 40 3).bind fun y20 => (andO ((y20.1).isNone) ((F21_Rate y20.2 9 1).bind fun y36 => some (FloatKind.f64.format.order y36 4591870180066957722 == some .eq))).bind fun b32 => (andO b32 ((F8_Total y20.2).bind fun y48 => some (decide (y48.packets = 1)))).bind fun b44 => some b44
def F23_Long_b1  (x27 : Front) (s28 : Unit) : Step Bool Unit := lt ((decide (((x27.service.space.size : Nat) : Int) > 100)) || (decide (((x27.service.name.size : Nat) : Int) > 100))) fun b53 => lt (b53 || (decide (((x27.name.size : Nat) : Int) > 100))) fun b59 => (if b59 = true then .ret true else .next ())
def F23_Long_b2  (x80 : Group) (s81 : Unit) : Step Bool Unit := lt ((decide (((x80.id.service.space.size : Nat) : Int) > 100)) || (decide (((x80.id.service.name.size : Nat) : Int) > 100))) fun b110 => lt (b110 || (decide (((x80.id.name.size : Nat) : Int) > 100))) fun b116 => lt (b116 || (decide (((x80.table.backends.length : Nat) : Int) > 30))) fun b122 => lt (b122 || (decide (((x80.table.slots.length : Nat) : Int) > 260))) fun b128 => (if b128 = true then .ret true else .next ())
def F23_Long_b3  (x149 : Filter) (s150 : Unit) : Step Bool Unit := lt ((decide (((x149.service.space.size : Nat) : Int) > 100)) || (decide (((x149.service.name.size : Nat) : Int) > 100))) fun b177 => lt (b177 || (decide (((x149.ranges.length : Nat) : Int) > 20))) fun b183 => (if b183 = true then .ret true else .next ())
def F23_Long (a0 : Rows) (a1 : Int) : Bool := lt ((decide (((a0.fronts.length : Nat) : Int) > a1)) || (decide (((a0.groups.length : Nat) : Int) > a1))) fun b7 => lt (b7 || (decide (((a0.filters.length : Nat) : Int) > a1))) fun b13 => (if b13 = true then true else lt (runB F23_Long_b1 a0.fronts ()) fun o => o.elim (fun r => r) fun (s70 : Unit) => lt (runB F23_Long_b2 a0.groups ()) fun o => o.elim (fun r => r) fun (s139 : Unit) => lt (runB F23_Long_b3 a0.filters ()) fun o => o.elim (fun r => r) fun (s194 : Unit) => false)
def F6_Long_b1  (x11 : Act) (s12 : Unit) : Step Bool Unit := lt (F23_Long ({ fronts := [x11.out.front], groups := [], filters := [] } : Rows) 1) fun y44 => lt (y44 || (decide (((x11.out.packet.length : Nat) : Int) > 400))) fun b48 => (if b48 = true then .ret true else .next ())
def F6_Long (a0 : (List Act)) : Bool := (if (decide (((a0.length : Nat) : Int) > 60)) = true then true else lt (runB F6_Long_b1 a0 ()) fun o => o.elim (fun r => r) fun (s59 : Unit) => false)
def F13_Reset (a0 : Stats) : Stats := lt (F7_New) fun y3 => y3
def F34_Is (a0 a1 : Option Nat) : Option Bool := match a0, a1 with
  | some g, some h => if g < 18 ∧ h < 18 then some (decide (g = h)) else none
  | _, _ => none
def F14_Num_b1 (a0 : (Option Nat)) (x16 : (Option Nat)) (s17 : Nat) : Option (Step Int Nat) := (F34_Is a0 x16).bind fun y32 => (if y32 = true then some (.ret ((s17 + 1 : Nat) : Int)) else some (.next (s17 + 1)))
def F14_Num (a0 : (Option Nat)) : Option Int := (if ((a0).isNone) = true then some 0 else (runBO (F14_Num_b1 a0) [(some 0), (some 3), (some 4), (some 5), (some 6), (some 7), (some 8), (some 9), (some 10), (some 1), (some 11), (some 12), (some 2), (some 13), (some 14), (some 15), (some 16), (some 17)] 0).bind fun o => o.elim (fun r => some r) fun (s40 : Nat) => some (-1))
def F16_Out (a0 : Out) : Out := ({ verdict := a0.verdict, packet := a0.packet, front := a0.front, backend := a0.backend } : Out)
def F15_Tell (a0 : Stats_2) (a1 : Out) (a2 : Int) (a3 : Int) : Option (Int × Stats_2) := lt ((decide (a1.verdict < 0)) || (decide (a1.verdict > 6))) fun b7 => lt (b7 || (decide (a2 < 0))) fun b13 => lt (b13 || (decide (a2 > 300))) fun b19 => lt (b19 || (decide (a3 < 0))) fun b25 => lt (b25 || (decide (a3 > 1099511627776))) fun b31 => (if b31 = true then some (1, a0) else (andO (decide (((a0.all.length : Nat) : Int) > 0)) ((ixO a0.all (IntKind.i64.wrap (((a0.all.length : Nat) : Int) - 1))).bind fun y44 => some (decide ((IntKind.i64.wrap (a3.tdiv 10)) < y44.span)))).bind fun b38 => (if b38 = true then some (10, a0) else (apO [] a0.all).bind fun z75 => (apO ([] ++ a0.all) [({ verdict := a1.verdict, size := a2, span := IntKind.i64.wrap (a3.tdiv 10), fronted := !decide (a1.front.proto = 0), service := a1.front.service } : Told)]).bind fun z92 => some (0, ({ all := ([] ++ a0.all) ++ [({ verdict := a1.verdict, size := a2, span := IntKind.i64.wrap (a3.tdiv 10), fronted := !decide (a1.front.proto = 0), service := a1.front.service } : Told)] } : Stats_2))))
def F17_Verdict_b1 (a1 : Int) (x13 : Told) (s14 : Int × Int) : Int × Int := (if (decide (x13.verdict = a1)) = true then (IntKind.i64.wrap (s14.1 + 1), IntKind.i64.wrap (s14.2 + x13.size)) else (s14.1, s14.2))
def F17_Verdict (a0 : Stats_2) (a1 : Int) : (Int × Int) := lt (runA (F17_Verdict_b1 a1) a0.all (0, 0)) fun (s45 : Int × Int) => (s45.1, s45.2)
def F10_Verdict (a0 : Stats) (a1 : Int) : Option Count := lt ((decide (a1 < 0)) || (decide (a1 ≥ 7))) fun b10 => (if b10 = true then some ({ packets := 0, bytes := 0 } : Count) else (ixO (A7Count.list a0.verdicts) a1).bind fun y20 => some y20)
noncomputable def F37_slices_SortFunc (a0 : (List Service)) (a1 : (Service → Service → Int)) : Option (List Service) := sortO a0 a1
noncomputable def F27_Service (a0 : (List Service)) (a1 : (Service → Service → Int)) : Option (List Service) := anyPerm a0 fun ys1 => (F37_slices_SortFunc ys1 a1).bind fun y13 => some y13
def F49_string (a0 : ByteArray) : Bool := !decide (a0 = a0)
def F40_string (a0 : ByteArray) (a1 : ByteArray) : Int := lt (F49_string a0) fun y3 => lt (F49_string a1) fun y7 => (if y3 = true then (if y7 = true then 0 else (-1)) else (if y7 = true then 1 else (if (Op.bytesLess a0.toList a1.toList) = true then (-1) else (if (!(Op.bytesLess a0.toList a1.toList || decide (a0 = a1))) = true then 1 else 0))))
def F39_int_b1  (x10 : Int) (s11 : Unit) : Step Int Unit := (if (!decide (x10 = 0)) = true then .ret x10 else .next ())
def F39_int (a0 : (List Int)) : Int := lt (runB F39_int_b1 a0 ()) fun o => o.elim (fun r => r) fun (s30 : Unit) => 0
def F30_Compare (a0 : Key) (a1 : Key) : Int := lt (F40_string a0.space a1.space) fun y11 => lt (F40_string a0.name a1.name) fun y15 => lt (F39_int [y11, y15]) fun y24 => y24
def F29_1 (a0 : Service) (a1 : Service) : Int := lt (F30_Compare a0.key a1.key) fun y11 => y11
noncomputable def F11_Services (a0 : Stats) : Option (List Service) := (F27_Service (a0.services.map (·.2)) (fun x0 x1 => F29_1 x0 x1)).bind fun y7 => some y7
def F45_Compare (a0 : Key) (a1 : Key) : Int := lt ((Op.bytesLess a0.space.toList a1.space.toList) || (lt ((decide (a0.space = a1.space)) && (Op.bytesLess a0.name.toList a1.name.toList)) fun b13 => b13)) fun b11 => (if b11 = true then (-1) else (if (decide (a0 = a1)) = true then 0 else 1))
def F35_Sort_b2 (x6 : (List Key)) (x18 : Key) (s55 : Int) : Option (Step Empty Int) := (andO (decide (s55 > 0)) ((ixO x6 (IntKind.i64.wrap (s55 - 1))).bind fun y66 => lt (F45_Compare x18 y66) fun y70 => some (decide (y70 < 0)))).bind fun b72 => (if b72 = true then some (.next (IntKind.i64.wrap (s55 - 1))) else some (.fin s55))
def F35_Sort_b1  (x18 : Key) (s19 : (List Key)) : Option (List Key) := (runW (F35_Sort_b2 s19 x18) FUEL ((s19.length : Nat) : Int)).bind fun o => o.elim (fun r => r.elim) fun (s135 : Int) => (andO (decide (s135 > 0)) ((ixO s19 (IntKind.i64.wrap (s135 - 1))).bind fun y142 => some (decide (y142 = x18)))).bind fun b144 => (if b144 = true then some s19 else (slO s19 0 s135).bind fun y206 => (apO [] y206).bind fun z218 => (apO ([] ++ y206) [x18]).bind fun z234 => (slO s19 s135 ((s19.length : Nat) : Int)).bind fun y237 => (apO (([] ++ y206) ++ [x18]) y237).bind fun z249 => some ((([] ++ y206) ++ [x18]) ++ y237))
def F35_Sort (a0 : (List Key)) : Option (List Key) := (runAO F35_Sort_b1 a0 []).bind fun (s350 : (List Key)) => some s350
def F19_Services_b1  (x24 : Told) (s25 : (List Key)) : Option (List Key) := lt (x24.fronted && (lt ((decide (x24.verdict = 2)) || (decide (x24.verdict ≥ 4))) fun b54 => b54)) fun b52 => (if b52 = true then (apO s25 [x24.service]).bind fun z76 => some (s25 ++ [x24.service]) else some s25)
def F19_Services_b3 (x117 : Key) (x173 : Told) (s174 : Service) : Service := lt ((!x173.fronted) || (!decide (x173.service = x117))) fun b203 => (if b203 = true then s174 else (if (decide (x173.verdict = 2)) = true then ({ key := s174.key, begun := IntKind.i64.wrap (s174.begun + 1), filtered := s174.filtered, rejected := s174.rejected, full := s174.full } : Service) else (if (decide (x173.verdict = 4)) = true then ({ key := s174.key, begun := s174.begun, filtered := IntKind.i64.wrap (s174.filtered + 1), rejected := s174.rejected, full := s174.full } : Service) else (if (decide (x173.verdict = 5)) = true then ({ key := s174.key, begun := s174.begun, filtered := s174.filtered, rejected := IntKind.i64.wrap (s174.rejected + 1), full := s174.full } : Service) else (if (decide (x173.verdict = 6)) = true then ({ key := s174.key, begun := s174.begun, filtered := s174.filtered, rejected := s174.rejected, full := IntKind.i64.wrap (s174.full + 1) } : Service) else s174)))))
def F19_Services_b2 (a0 : Stats_2) (x117 : Key) (s118 : (List Service)) : Option (List Service) := lt (runA (F19_Services_b3 x117) a0.all ({ key := x117, begun := 0, filtered := 0, rejected := 0, full := 0 } : Service)) fun (s242 : Service) => (apO s118 [s242]).bind fun z256 => some (s118 ++ [s242])
def F19_Services (a0 : Stats_2) : Option (List Service) := (runAO F19_Services_b1 a0.all []).bind fun (s87 : (List Key)) => (F35_Sort s87).bind fun y99 => (runAO (F19_Services_b2 a0) y99 []).bind fun (s268 : (List Service)) => some s268
def F18_same_b1 (a1 : (List Service)) (x11 : Service) (s12 : Nat) : Option (Step Bool Nat) := (ixO a1 ((s12 : Nat) : Int)).bind fun y31 => (if (!decide (x11 = y31)) = true then some (.ret false) else some (.next (s12 + 1)))
def F18_same (a0 : (List Service)) (a1 : (List Service)) : Option Bool := (if (!decide (((a0.length : Nat) : Int) = ((a1.length : Nat) : Int))) = true then some false else (runBO (F18_same_b1 a1) a0 0).bind fun o => o.elim (fun r => some r) fun (s64 : Nat) => some true)
def F50_Service_b2 (a1 : Int) (a3 : (Service → Service → Int)) (s33 : Int × (List Service)) : Option (Step Empty (Int × (List Service))) := (andO (decide (s33.1 > a1)) ((ixO s33.2 s33.1).bind fun y44 => (ixO s33.2 (IntKind.i64.wrap (s33.1 - 1))).bind fun y52 => some (decide ((a3 y44 y52) < 0)))).bind fun b56 => (if b56 = true then (ixO s33.2 (IntKind.i64.wrap (s33.1 - 1))).bind fun y141 => (ixO s33.2 s33.1).bind fun y149 => (ixO s33.2 s33.1).bind fun y157 => (ixO (s33.2.set s33.1.toNat y141) (IntKind.i64.wrap (s33.1 - 1))).bind fun y169 => some (.next (IntKind.i64.wrap (s33.1 - 1), (s33.2.set s33.1.toNat y141).set (IntKind.i64.wrap (s33.1 - 1)).toNat y149)) else some (.fin (s33.1, s33.2)))
def F50_Service_b1 (a1 : Int) (a2 : Int) (a3 : (Service → Service → Int)) (s14 : Int × (List Service)) : Option (Step Empty (Int × (List Service))) := (if (decide (s14.1 < a2)) = true then (runW (F50_Service_b2 a1 a3) FUEL (s14.1, s14.2)).bind fun o => o.elim (fun r => r.elim) fun (s249 : Int × (List Service)) => some (.next (IntKind.i64.wrap (s14.1 + 1), s249.2)) else some (.fin (s14.1, s14.2)))
def F50_Service (a0 : (List Service)) (a1 : Int) (a2 : Int) (a3 : (Service → Service → Int)) : Option (List Service) := (runW (F50_Service_b1 a1 a2 a3) FUEL (IntKind.i64.wrap (a1 + 1), a0)).bind fun o => o.elim (fun r => r.elim) fun (s254 : Int × (List Service)) => some s254.2
def F67_Service_b1 (a1 : Int) (a2 : Int) (a3 : Int) (s14 : Int × (List Service)) : Option (Step Empty (Int × (List Service))) := (if (decide (s14.1 < a3)) = true then (ixO s14.2 (IntKind.i64.wrap (a2 + s14.1))).bind fun y26 => (ixO s14.2 (IntKind.i64.wrap (a1 + s14.1))).bind fun y34 => (ixO s14.2 (IntKind.i64.wrap (a1 + s14.1))).bind fun y42 => (ixO (s14.2.set (IntKind.i64.wrap (a1 + s14.1)).toNat y26) (IntKind.i64.wrap (a2 + s14.1))).bind fun y54 => some (.next (IntKind.i64.wrap (s14.1 + 1), (s14.2.set (IntKind.i64.wrap (a1 + s14.1)).toNat y26).set (IntKind.i64.wrap (a2 + s14.1)).toNat y34)) else some (.fin (s14.1, s14.2)))
def F67_Service (a0 : (List Service)) (a1 : Int) (a2 : Int) (a3 : Int) (a4 : (Service → Service → Int)) : Option (List Service) := (runW (F67_Service_b1 a1 a2 a3) FUEL (0, a0)).bind fun o => o.elim (fun r => r.elim) fun (s146 : Int × (List Service)) => some s146.2
def F61_Service_b1 (a2 : Int) (a4 : (Service → Service → Int)) (s15 : Int × Int × (List Service)) : Option (Step Empty (Int × Int × (List Service))) := (if (!decide (s15.1 = s15.2.1)) = true then (if (decide (s15.1 > s15.2.1)) = true then (F67_Service s15.2.2 (IntKind.i64.wrap (a2 - s15.1)) a2 s15.2.1 a4).bind fun y27 => some (.next (IntKind.i64.wrap (s15.1 - s15.2.1), s15.2.1, y27)) else (F67_Service s15.2.2 (IntKind.i64.wrap (a2 - s15.1)) (IntKind.i64.wrap ((IntKind.i64.wrap (a2 + s15.2.1)) - s15.1)) s15.1 a4).bind fun y36 => some (.next (s15.1, IntKind.i64.wrap (s15.2.1 - s15.1), y36))) else some (.fin (s15.1, s15.2.1, s15.2.2)))
def F61_Service (a0 : (List Service)) (a1 : Int) (a2 : Int) (a3 : Int) (a4 : (Service → Service → Int)) : Option (List Service) := (runW (F61_Service_b1 a2 a4) FUEL (IntKind.i64.wrap (a2 - a1), IntKind.i64.wrap (a3 - a2), a0)).bind fun o => o.elim (fun r => r.elim) fun (s44 : Int × Int × (List Service)) => (F67_Service s44.2.2 (IntKind.i64.wrap (a2 - s44.1)) a2 s44.1 a4).bind fun y50 => some y50
def F51_Service_body_b1 (a0 : (List Service)) (a1 : Int) (a4 : (Service → Service → Int)) (s14 : Int × Int) : Option (Step Empty (Int × Int)) := (if (decide (s14.1 < s14.2)) = true then (ixO a0 (IntKind.i64.wrap ((IntKind.u64.wrap (IntKind.i64.wrap (s14.1 + s14.2))).fdiv (2 ^ (min (Int.toNat 1) IntKind.u64.bits))))).bind fun y26 => (ixO a0 a1).bind fun y34 => (if (decide ((a4 y26 y34) < 0)) = true then some (.next (IntKind.i64.wrap ((IntKind.i64.wrap ((IntKind.u64.wrap (IntKind.i64.wrap (s14.1 + s14.2))).fdiv (2 ^ (min (Int.toNat 1) IntKind.u64.bits)))) + 1), s14.2)) else some (.next (s14.1, IntKind.i64.wrap ((IntKind.u64.wrap (IntKind.i64.wrap (s14.1 + s14.2))).fdiv (2 ^ (min (Int.toNat 1) IntKind.u64.bits)))))) else some (.fin (s14.1, s14.2)))
def F51_Service_body_b2 (x2 : Int) (x2 : Int) (s85 : Int × (List Service)) : Option (Step Empty (Int × (List Service))) := (if (decide (s85.1 < (IntKind.i64.wrap (x2 - 1)))) = true then (ixO s85.2 (IntKind.i64.wrap (s85.1 + 1))).bind fun y97 => (ixO s85.2 s85.1).bind fun y105 => (ixO s85.2 s85.1).bind fun y113 => (ixO (s85.2.set s85.1.toNat y97) (IntKind.i64.wrap (s85.1 + 1))).bind fun y125 => some (.next (IntKind.i64.wrap (s85.1 + 1), (s85.2.set s85.1.toNat y97).set (IntKind.i64.wrap (s85.1 + 1)).toNat y105)) else some (.fin (s85.1, s85.2)))
def F51_Service_body_b3 (a0 : (List Service)) (a2 : Int) (a4 : (Service → Service → Int)) (s219 : Int × Int) : Option (Step Empty (Int × Int)) := (if (decide (s219.1 < s219.2)) = true then (ixO a0 a2).bind fun y231 => (ixO a0 (IntKind.i64.wrap ((IntKind.u64.wrap (IntKind.i64.wrap (s219.1 + s219.2))).fdiv (2 ^ (min (Int.toNat 1) IntKind.u64.bits))))).bind fun y239 => (if (!(decide ((a4 y231 y239) < 0))) = true then some (.next (IntKind.i64.wrap ((IntKind.i64.wrap ((IntKind.u64.wrap (IntKind.i64.wrap (s219.1 + s219.2))).fdiv (2 ^ (min (Int.toNat 1) IntKind.u64.bits)))) + 1), s219.2)) else some (.next (s219.1, IntKind.i64.wrap ((IntKind.u64.wrap (IntKind.i64.wrap (s219.1 + s219.2))).fdiv (2 ^ (min (Int.toNat 1) IntKind.u64.bits)))))) else some (.fin (s219.1, s219.2)))
def F51_Service_body_b4 (x207 : Int) (x207 : Int) (s290 : Int × (List Service)) : Option (Step Empty (Int × (List Service))) := (if (decide (s290.1 > x207)) = true then (ixO s290.2 (IntKind.i64.wrap (s290.1 - 1))).bind fun y302 => (ixO s290.2 s290.1).bind fun y310 => (ixO s290.2 s290.1).bind fun y318 => (ixO (s290.2.set s290.1.toNat y302) (IntKind.i64.wrap (s290.1 - 1))).bind fun y330 => some (.next (IntKind.i64.wrap (s290.1 - 1), (s290.2.set s290.1.toNat y302).set (IntKind.i64.wrap (s290.1 - 1)).toNat y310)) else some (.fin (s290.1, s290.2)))
def F51_Service_body_b5 (a0 : (List Service)) (a1 : Int) (a2 : Int) (a3 : Int) (a4 : (Service → Service → Int)) (s427 : Int × Int) : Option (Step Empty (Int × Int)) := (if (decide (s427.1 < s427.2)) = true then (ixO a0 (IntKind.i64.wrap ((IntKind.i64.wrap ((IntKind.i64.wrap ((IntKind.i64.wrap ((IntKind.u64.wrap (IntKind.i64.wrap (a1 + a3))).fdiv (2 ^ (min (Int.toNat 1) IntKind.u64.bits)))) + a2)) - 1)) - (IntKind.i64.wrap ((IntKind.u64.wrap (IntKind.i64.wrap (s427.1 + s427.2))).fdiv (2 ^ (min (Int.toNat 1) IntKind.u64.bits))))))).bind fun y439 => (ixO a0 (IntKind.i64.wrap ((IntKind.u64.wrap (IntKind.i64.wrap (s427.1 + s427.2))).fdiv (2 ^ (min (Int.toNat 1) IntKind.u64.bits))))).bind fun y447 => (if (!(decide ((a4 y439 y447) < 0))) = true then some (.next (IntKind.i64.wrap ((IntKind.i64.wrap ((IntKind.u64.wrap (IntKind.i64.wrap (s427.1 + s427.2))).fdiv (2 ^ (min (Int.toNat 1) IntKind.u64.bits)))) + 1), s427.2)) else some (.next (s427.1, IntKind.i64.wrap ((IntKind.u64.wrap (IntKind.i64.wrap (s427.1 + s427.2))).fdiv (2 ^ (min (Int.toNat 1) IntKind.u64.bits)))))) else some (.fin (s427.1, s427.2)))
def F51_Service_body (rec : (List Service) → Int → Int → Int → (Service → Service → Int) → Option (List Service)) (a0 : (List Service)) (a1 : Int) (a2 : Int) (a3 : Int) (a4 : (Service → Service → Int)) : Option (List Service) := (if (decide ((IntKind.i64.wrap (a2 - a1)) = 1)) = true then (runW (F51_Service_body_b1 a0 a1 a4) FUEL (a2, a3)).bind fun o => o.elim (fun r => r.elim) fun (s71 : Int × Int) => (runW (F51_Service_body_b2 s71.1 s71.1) FUEL (a1, a0)).bind fun o => o.elim (fun r => r.elim) fun (s205 : Int × (List Service)) => some s205.2 else (if (decide ((IntKind.i64.wrap (a3 - a2)) = 1)) = true then (runW (F51_Service_body_b3 a0 a2 a4) FUEL (a1, a2)).bind fun o => o.elim (fun r => r.elim) fun (s276 : Int × Int) => (runW (F51_Service_body_b4 s276.1 s276.1) FUEL (a2, a0)).bind fun o => o.elim (fun r => r.elim) fun (s410 : Int × (List Service)) => some s410.2 else lt ((if (decide (a2 > (IntKind.i64.wrap ((IntKind.u64.wrap (IntKind.i64.wrap (a1 + a3))).fdiv (2 ^ (min (Int.toNat 1) IntKind.u64.bits)))))) = true then (IntKind.i64.wrap ((IntKind.i64.wrap ((IntKind.i64.wrap ((IntKind.u64.wrap (IntKind.i64.wrap (a1 + a3))).fdiv (2 ^ (min (Int.toNat 1) IntKind.u64.bits)))) + a2)) - a3), IntKind.i64.wrap ((IntKind.u64.wrap (IntKind.i64.wrap (a1 + a3))).fdiv (2 ^ (min (Int.toNat 1) IntKind.u64.bits)))) else (a1, a2))) fun y411 => (runW (F51_Service_body_b5 a0 a1 a2 a3 a4) FUEL (y411.1, y411.2)).bind fun o => o.elim (fun r => r.elim) fun (s486 : Int × Int) => lt ((decide (s486.1 < a2)) && (decide (a2 < (IntKind.i64.wrap ((IntKind.i64.wrap ((IntKind.i64.wrap ((IntKind.u64.wrap (IntKind.i64.wrap (a1 + a3))).fdiv (2 ^ (min (Int.toNat 1) IntKind.u64.bits)))) + a2)) - s486.1))))) fun b489 => (if b489 = true then (F61_Service a0 s486.1 a2 (IntKind.i64.wrap ((IntKind.i64.wrap ((IntKind.i64.wrap ((IntKind.u64.wrap (IntKind.i64.wrap (a1 + a3))).fdiv (2 ^ (min (Int.toNat 1) IntKind.u64.bits)))) + a2)) - s486.1)) a4).bind fun y499 => lt ((decide (a1 < s486.1)) && (decide (s486.1 < (IntKind.i64.wrap ((IntKind.u64.wrap (IntKind.i64.wrap (a1 + a3))).fdiv (2 ^ (min (Int.toNat 1) IntKind.u64.bits))))))) fun b505 => (if b505 = true then (rec y499 a1 s486.1 (IntKind.i64.wrap ((IntKind.u64.wrap (IntKind.i64.wrap (a1 + a3))).fdiv (2 ^ (min (Int.toNat 1) IntKind.u64.bits)))) a4).bind fun y515 => lt ((decide ((IntKind.i64.wrap ((IntKind.u64.wrap (IntKind.i64.wrap (a1 + a3))).fdiv (2 ^ (min (Int.toNat 1) IntKind.u64.bits)))) < (IntKind.i64.wrap ((IntKind.i64.wrap ((IntKind.i64.wrap ((IntKind.u64.wrap (IntKind.i64.wrap (a1 + a3))).fdiv (2 ^ (min (Int.toNat 1) IntKind.u64.bits)))) + a2)) - s486.1)))) && (decide ((IntKind.i64.wrap ((IntKind.i64.wrap ((IntKind.i64.wrap ((IntKind.u64.wrap (IntKind.i64.wrap (a1 + a3))).fdiv (2 ^ (min (Int.toNat 1) IntKind.u64.bits)))) + a2)) - s486.1)) < a3))) fun b521 => (if b521 = true then (rec y515 (IntKind.i64.wrap ((IntKind.u64.wrap (IntKind.i64.wrap (a1 + a3))).fdiv (2 ^ (min (Int.toNat 1) IntKind.u64.bits)))) (IntKind.i64.wrap ((IntKind.i64.wrap ((IntKind.i64.wrap ((IntKind.u64.wrap (IntKind.i64.wrap (a1 + a3))).fdiv (2 ^ (min (Int.toNat 1) IntKind.u64.bits)))) + a2)) - s486.1)) a3 a4).bind fun y531 => some y531 else some y515) else lt ((decide ((IntKind.i64.wrap ((IntKind.u64.wrap (IntKind.i64.wrap (a1 + a3))).fdiv (2 ^ (min (Int.toNat 1) IntKind.u64.bits)))) < (IntKind.i64.wrap ((IntKind.i64.wrap ((IntKind.i64.wrap ((IntKind.u64.wrap (IntKind.i64.wrap (a1 + a3))).fdiv (2 ^ (min (Int.toNat 1) IntKind.u64.bits)))) + a2)) - s486.1)))) && (decide ((IntKind.i64.wrap ((IntKind.i64.wrap ((IntKind.i64.wrap ((IntKind.u64.wrap (IntKind.i64.wrap (a1 + a3))).fdiv (2 ^ (min (Int.toNat 1) IntKind.u64.bits)))) + a2)) - s486.1)) < a3))) fun b537 => (if b537 = true then (rec y499 (IntKind.i64.wrap ((IntKind.u64.wrap (IntKind.i64.wrap (a1 + a3))).fdiv (2 ^ (min (Int.toNat 1) IntKind.u64.bits)))) (IntKind.i64.wrap ((IntKind.i64.wrap ((IntKind.i64.wrap ((IntKind.u64.wrap (IntKind.i64.wrap (a1 + a3))).fdiv (2 ^ (min (Int.toNat 1) IntKind.u64.bits)))) + a2)) - s486.1)) a3 a4).bind fun y547 => some y547 else some y499)) else lt ((decide (a1 < s486.1)) && (decide (s486.1 < (IntKind.i64.wrap ((IntKind.u64.wrap (IntKind.i64.wrap (a1 + a3))).fdiv (2 ^ (min (Int.toNat 1) IntKind.u64.bits))))))) fun b553 => (if b553 = true then (rec a0 a1 s486.1 (IntKind.i64.wrap ((IntKind.u64.wrap (IntKind.i64.wrap (a1 + a3))).fdiv (2 ^ (min (Int.toNat 1) IntKind.u64.bits)))) a4).bind fun y563 => lt ((decide ((IntKind.i64.wrap ((IntKind.u64.wrap (IntKind.i64.wrap (a1 + a3))).fdiv (2 ^ (min (Int.toNat 1) IntKind.u64.bits)))) < (IntKind.i64.wrap ((IntKind.i64.wrap ((IntKind.i64.wrap ((IntKind.u64.wrap (IntKind.i64.wrap (a1 + a3))).fdiv (2 ^ (min (Int.toNat 1) IntKind.u64.bits)))) + a2)) - s486.1)))) && (decide ((IntKind.i64.wrap ((IntKind.i64.wrap ((IntKind.i64.wrap ((IntKind.u64.wrap (IntKind.i64.wrap (a1 + a3))).fdiv (2 ^ (min (Int.toNat 1) IntKind.u64.bits)))) + a2)) - s486.1)) < a3))) fun b569 => (if b569 = true then (rec y563 (IntKind.i64.wrap ((IntKind.u64.wrap (IntKind.i64.wrap (a1 + a3))).fdiv (2 ^ (min (Int.toNat 1) IntKind.u64.bits)))) (IntKind.i64.wrap ((IntKind.i64.wrap ((IntKind.i64.wrap ((IntKind.u64.wrap (IntKind.i64.wrap (a1 + a3))).fdiv (2 ^ (min (Int.toNat 1) IntKind.u64.bits)))) + a2)) - s486.1)) a3 a4).bind fun y579 => some y579 else some y563) else lt ((decide ((IntKind.i64.wrap ((IntKind.u64.wrap (IntKind.i64.wrap (a1 + a3))).fdiv (2 ^ (min (Int.toNat 1) IntKind.u64.bits)))) < (IntKind.i64.wrap ((IntKind.i64.wrap ((IntKind.i64.wrap ((IntKind.u64.wrap (IntKind.i64.wrap (a1 + a3))).fdiv (2 ^ (min (Int.toNat 1) IntKind.u64.bits)))) + a2)) - s486.1)))) && (decide ((IntKind.i64.wrap ((IntKind.i64.wrap ((IntKind.i64.wrap ((IntKind.u64.wrap (IntKind.i64.wrap (a1 + a3))).fdiv (2 ^ (min (Int.toNat 1) IntKind.u64.bits)))) + a2)) - s486.1)) < a3))) fun b585 => (if b585 = true then (rec a0 (IntKind.i64.wrap ((IntKind.u64.wrap (IntKind.i64.wrap (a1 + a3))).fdiv (2 ^ (min (Int.toNat 1) IntKind.u64.bits)))) (IntKind.i64.wrap ((IntKind.i64.wrap ((IntKind.i64.wrap ((IntKind.u64.wrap (IntKind.i64.wrap (a1 + a3))).fdiv (2 ^ (min (Int.toNat 1) IntKind.u64.bits)))) + a2)) - s486.1)) a3 a4).bind fun y595 => some y595 else some a0)))))
def F51_Service_at : Nat → (List Service) → Int → Int → Int → (Service → Service → Int) → Option (List Service)
  | 0, _, _, _, _, _ => none
  | f + 1, a0, a1, a2, a3, a4 => F51_Service_body (F51_Service_at f) a0 a1 a2 a3 a4
def F51_Service (a0 : (List Service)) (a1 : Int) (a2 : Int) (a3 : Int) (a4 : (Service → Service → Int)) : Option (List Service) := F51_Service_at 64 a0 a1 a2 a3 a4
def F41_Service_b1 (a1 : Int) (a2 : (Service → Service → Int)) (s15 : Int × Int × (List Service)) : Option (Step Empty (Int × Int × (List Service))) := (if (decide (s15.2.1 ≤ a1)) = true then (F50_Service s15.2.2 s15.1 s15.2.1 a2).bind fun y26 => some (.next (s15.2.1, IntKind.i64.wrap (s15.2.1 + 20), y26)) else some (.fin (s15.1, s15.2.1, s15.2.2)))
def F41_Service_b3 (a1 : Int) (a2 : (Service → Service → Int)) (x44 : Int) (s77 : Int × Int × (List Service)) : Option (Step Empty (Int × Int × (List Service))) := (if (decide (s77.2.1 ≤ a1)) = true then (F51_Service s77.2.2 s77.1 (IntKind.i64.wrap (s77.1 + x44)) s77.2.1 a2).bind fun y88 => some (.next (s77.2.1, IntKind.i64.wrap (s77.2.1 + (IntKind.i64.wrap (2 * x44))), y88)) else some (.fin (s77.1, s77.2.1, s77.2.2)))
def F41_Service_b2 (a1 : Int) (a2 : (Service → Service → Int)) (s57 : Int × (List Service)) : Option (Step Empty (Int × (List Service))) := (if (decide (s57.1 < a1)) = true then (runW (F41_Service_b3 a1 a2 s57.1) FUEL (0, IntKind.i64.wrap (2 * s57.1), s57.2)).bind fun o => o.elim (fun r => r.elim) fun (s96 : Int × Int × (List Service)) => (if (decide ((IntKind.i64.wrap (s96.1 + s57.1)) < a1)) = true then (F51_Service s96.2.2 s96.1 (IntKind.i64.wrap (s96.1 + s57.1)) a1 a2).bind fun y103 => some (.next (IntKind.i64.wrap (s57.1 * 2), y103)) else some (.next (IntKind.i64.wrap (s57.1 * 2), s96.2.2))) else some (.fin (s57.1, s57.2)))
def F41_Service (a0 : (List Service)) (a1 : Int) (a2 : (Service → Service → Int)) : Option (List Service) := (runW (F41_Service_b1 a1 a2) FUEL (0, 20, a0)).bind fun o => o.elim (fun r => r.elim) fun (s34 : Int × Int × (List Service)) => (F50_Service s34.2.2 s34.1 a1 a2).bind fun y40 => (runW (F41_Service_b2 a1 a2) FUEL (20, y40)).bind fun o => o.elim (fun r => r.elim) fun (s111 : Int × (List Service)) => some s111.2
def F31_Service (a0 : (List Service)) (a1 : (Service → Service → Int)) : Option (List Service) := (F41_Service a0 ((a0.length : Nat) : Int) a1).bind fun y6 => some y6
def F42_int (a0 : Int) : Bool := !decide (a0 = a0)
def F33_int (a0 : Int) (a1 : Int) : Int := lt (F42_int a0) fun y3 => lt (F42_int a1) fun y7 => (if y3 = true then (if y7 = true then 0 else (-1)) else (if y7 = true then 1 else (if (decide (a0 < a1)) = true then (-1) else (if (decide (a0 > a1)) = true then 1 else 0))))
def F32_1 (a0 : Service) (a1 : Service) : Int := lt (F33_int a1.begun a0.begun) fun y11 => y11
noncomputable def F12_Top (a0 : Stats) (a1 : Int) : Option (List Service) := (F11_Services a0).bind fun y5 => (F31_Service y5 (fun x0 x1 => F32_1 x0 x1)).bind fun y18 => (slO y18 0 (if ((y18.length : Nat) : Int) < (if 0 > a1 then 0 else a1) then ((y18.length : Nat) : Int) else (if 0 > a1 then 0 else a1))).bind fun y22 => some y22
def F20_Top_b2 (x14 : (List Service)) (x27 : Service) (s67 : Int) : Option (Step Empty Int) := (andO (decide (s67 > 0)) ((ixO x14 (IntKind.i64.wrap (s67 - 1))).bind fun y78 => some (decide (y78.begun < x27.begun)))).bind fun b80 => (if b80 = true then some (.next (IntKind.i64.wrap (s67 - 1))) else some (.fin s67))
def F20_Top_b1  (x27 : Service) (s28 : (List Service)) : Option (List Service) := (runW (F20_Top_b2 s28 x27) FUEL ((s28.length : Nat) : Int)).bind fun o => o.elim (fun r => r.elim) fun (s144 : Int) => (slO s28 0 s144).bind fun y154 => (apO [] y154).bind fun z166 => (apO ([] ++ y154) [x27]).bind fun z185 => (slO s28 s144 ((s28.length : Nat) : Int)).bind fun y191 => (apO (([] ++ y154) ++ [x27]) y191).bind fun z203 => some ((([] ++ y154) ++ [x27]) ++ y191)
def F20_Top (a0 : Stats_2) (a1 : Int) : Option (List Service) := (F19_Services a0).bind fun y10 => (runAO F20_Top_b1 y10 []).bind fun (s351 : (List Service)) => (if (decide (a1 < 0)) = true then (if (decide (0 > ((s351.length : Nat) : Int))) = true then (slO s351 0 ((s351.length : Nat) : Int)).bind fun y354 => some y354 else (slO s351 0 0).bind fun y358 => some y358) else (if (decide (a1 > ((s351.length : Nat) : Int))) = true then (slO s351 0 ((s351.length : Nat) : Int)).bind fun y363 => some y363 else (slO s351 0 a1).bind fun y367 => some y367))
def F22_Rate_b1 (a1 : Int) (y12 : Int) (y23 : Told) (x57 : Told) (s58 : Int) : Int := lt ((decide (x57.span ≤ (IntKind.i64.wrap (a1.tdiv 10)))) && (decide (x57.span > (IntKind.i64.wrap ((IntKind.i64.wrap (a1.tdiv 10)) - y12))))) fun b84 => lt (b84 && (decide (x57.span > (IntKind.i64.wrap (y23.span - 16))))) fun b90 => (if b90 = true then IntKind.i64.wrap (s58 + 1) else s58)
def F22_Rate_b2 (a1 : Int) (y12 : Int) (x115 : Told) (s116 : Int) : Int := lt ((decide (x115.span ≤ (IntKind.i64.wrap (a1.tdiv 10)))) && (decide (x115.span > (IntKind.i64.wrap ((IntKind.i64.wrap (a1.tdiv 10)) - y12))))) fun b142 => lt (b142 && (decide (x115.span > (IntKind.i64.wrap (0 - 16))))) fun b148 => (if b148 = true then IntKind.i64.wrap (s116 + 1) else s116)
def F22_Rate (a0 : Stats_2) (a1 : Int) (a2 : Int) : Option Nat := lt ((decide (a1 < 0)) || (decide (a1 > 1099511627776))) fun b3 => (if b3 = true then some 0 else lt ((if (decide (a2 < 1)) = true then 1 else a2)) fun y8 => lt ((if (decide (y8 > 16)) = true then 16 else y8)) fun y12 => (if (decide (((a0.all.length : Nat) : Int) > 0)) = true then (ixO a0.all (IntKind.i64.wrap (((a0.all.length : Nat) : Int) - 1))).bind fun y23 => lt (runA (F22_Rate_b1 a1 y12 y23) a0.all 0) fun (s101 : Int) => (FloatKind.f64.format.div (FloatKind.f64.nearest s101) (FloatKind.f64.nearest (IntKind.i64.wrap (10 * y12)))).bind fun y102 => some y102 else lt (runA (F22_Rate_b2 a1 y12) a0.all 0) fun (s159 : Int) => (FloatKind.f64.format.div (FloatKind.f64.nearest s159) (FloatKind.f64.nearest (IntKind.i64.wrap (10 * y12)))).bind fun y160 => some y160))
def F4_StatsPla_b2 (y96 : Stats) (s145 : Int) : Option (Step Bool Int) := (if (decide (s145 < 8)) = true then lt (F17_Verdict ({ all := [] } : Stats_2) s145) fun y162 => lt ((decide (s145 < 0)) || (decide (s145 > 6))) fun b166 => (if b166 = true then (F10_Verdict y96 s145).bind fun y175 => lt ((!decide (y175.packets = 0)) || (!decide (y175.bytes = 0))) fun b196 => (if b196 = true then some (.ret false) else some (.next (IntKind.i64.wrap (s145 + 1)))) else (F10_Verdict y96 s145).bind fun y209 => lt ((!decide (y209.packets = y162.1)) || (!decide (y209.bytes = y162.2))) fun b230 => (if b230 = true then some (.ret false) else some (.next (IntKind.i64.wrap (s145 + 1))))) else some (.fin s145))
def F4_StatsPla_b3 (y576 : ((Option Nat) × Stats)) (y604 : (Int × Stats_2)) (s779 : Int) : Option (Step Bool Int) := (if (decide (s779 < 8)) = true then lt (F17_Verdict y604.2 s779) fun y789 => lt ((decide (s779 < 0)) || (decide (s779 > 6))) fun b793 => (if b793 = true then (F10_Verdict y576.2 s779).bind fun y802 => lt ((!decide (y802.packets = 0)) || (!decide (y802.bytes = 0))) fun b821 => (if b821 = true then some (.ret false) else some (.next (IntKind.i64.wrap (s779 + 1)))) else (F10_Verdict y576.2 s779).bind fun y833 => lt ((!decide (y833.packets = y789.1)) || (!decide (y833.bytes = y789.2))) fun b852 => (if b852 = true then some (.ret false) else some (.next (IntKind.i64.wrap (s779 + 1))))) else some (.fin s779))
noncomputable def F4_StatsPla_b1  (x61 : Act) (s62 : Stats_2 × Stats) : Option (Step Bool (Stats_2 × Stats)) := (if (!decide (x61.kind = 0)) = true then lt (F13_Reset s62.2) fun y96 => (runW (F4_StatsPla_b2 y96) FUEL (-1)).bind fun o => o.elim (fun r => some (.ret r)) fun (s243 : Int) => (F11_Services y96).bind fun y278 => (F19_Services ({ all := [] } : Stats_2)).bind fun y286 => (F18_same y278 y286).bind fun y292 => (orO (!y292) ((F12_Top y96 x61.top).bind fun y298 => (F20_Top ({ all := [] } : Stats_2) x61.top).bind fun y306 => (F18_same y298 y306).bind fun y312 => some (!y312))).bind fun b314 => (orO b314 ((F21_Rate y96 x61.atF x61.spans).bind fun y320 => (F22_Rate ({ all := [] } : Stats_2) x61.atF x61.spans).bind fun y326 => some (FloatKind.f64.format.order y320 y326 != some .eq))).bind fun b328 => (if b328 = true then some (.ret false) else some (.next (({ all := [] } : Stats_2), y96))) else (F9_Tell s62.2 x61.out x61.size x61.now).bind fun y576 => (F14_Num y576.1).bind fun y591 => lt (F16_Out x61.out) fun y595 => (F15_Tell s62.1 y595 x61.size x61.now).bind fun y604 => (if (!decide (y591 = y604.1)) = true then some (.ret false) else (runW (F4_StatsPla_b3 y576 y604) FUEL (-1)).bind fun o => o.elim (fun r => some (.ret r)) fun (s864 : Int) => (F11_Services y576.2).bind fun y869 => (F19_Services y604.2).bind fun y877 => (F18_same y869 y877).bind fun y883 => (orO (!y883) ((F12_Top y576.2 x61.top).bind fun y889 => (F20_Top y604.2 x61.top).bind fun y897 => (F18_same y889 y897).bind fun y903 => some (!y903))).bind fun b905 => (orO b905 ((F21_Rate y576.2 x61.atF x61.spans).bind fun y911 => (F22_Rate y604.2 x61.atF x61.spans).bind fun y917 => some (FloatKind.f64.format.order y911 y917 != some .eq))).bind fun b919 => (if b919 = true then some (.ret false) else some (.next (y604.2, y576.2)))))
noncomputable def F4_StatsPla (a0 : (List Act)) : Option Bool := (F5_alive).bind fun y3 => (if (!y3) = true then some false else lt (F6_Long a0) fun y8 => (if y8 = true then some true else lt (F7_New) fun y13 => (runBO F4_StatsPla_b1 a0 (({ all := [] } : Stats_2), y13)).bind fun o => o.elim (fun r => some r) fun (s1164 : Stats_2 × Stats) => some true))
end Go.Proofs.YtkfhcfkbaaekoaaDoor
