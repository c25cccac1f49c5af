/- The functions of this program, printed as plain Lean functions (the specification side): no Go and no memory. Written by a program of this session. -/
import Derived.Test.YtgcneihmkkldeaaGreatS7
import GoSem.Dispatch
namespace Go.Proofs.YtgcneihmkkldeaaGreat
open Go K
set_option linter.unusedVariables false
structure A16u8 where
  (e0 : Int)
  (e1 : Int)
  (e2 : Int)
  (e3 : Int)
  (e4 : Int)
  (e5 : Int)
  (e6 : Int)
  (e7 : Int)
  (e8 : Int)
  (e9 : Int)
  (e10 : Int)
  (e11 : Int)
  (e12 : Int)
  (e13 : Int)
  (e14 : Int)
  (e15 : Int)
  deriving DecidableEq
def A16u8.z : A16u8 := ⟨0, 0, 0, 0, 0, 0, 0, 0, 0, 0, 0, 0, 0, 0, 0, 0⟩
def A16u8.list (x : A16u8) : List Int := [x.e0, x.e1, x.e2, x.e3, x.e4, x.e5, x.e6, x.e7, x.e8, x.e9, x.e10, x.e11, x.e12, x.e13, x.e14, x.e15]
structure Addr where
  (six : Bool)
  (b : A16u8)
  deriving DecidableEq
def Addr.z : Addr := ⟨false, A16u8.z⟩
structure Point where
  (addr : Addr)
  (port : Int)
  deriving DecidableEq
def Point.z : Point := ⟨Addr.z, 0⟩
structure Place where
  (proto : Int)
  (point : Point)
  deriving DecidableEq
def Place.z : Place := ⟨0, Point.z⟩
structure St85 where

  deriving DecidableEq
def St85.z : St85 := ⟨⟩
structure Face where
  (proto : Int)
  (point : Point)
  (name : ByteArray)
  (how : Int)
  (localF : Bool)
  (asked : Bool)
  deriving DecidableEq
def Face.z : Face := ⟨0, Point.z, ⟨#[]⟩, 0, false, false⟩
structure Row_2 where
  (seen : (List (Place × St85)))
  (list : (List Face))
  deriving DecidableEq
def Row_2.z : Row_2 := ⟨[], []⟩
structure Key where
  (space : ByteArray)
  (name : ByteArray)
  deriving DecidableEq
def Key.z : Key := ⟨⟨#[]⟩, ⟨#[]⟩⟩
structure Cidr where
  (addr : Addr)
  (bits : Int)
  deriving DecidableEq
def Cidr.z : Cidr := ⟨Addr.z, 0⟩
structure Port where
  (name : ByteArray)
  (proto : Int)
  (port : Int)
  (outer : Int)
  deriving DecidableEq
def Port.z : Port := ⟨⟨#[]⟩, 0, 0, 0⟩
structure Service where
  (key : Key)
  (kind : Int)
  (cluster : (List Addr))
  (external : (List Addr))
  (balancers : (List Addr))
  (ranges : (List Cidr))
  (ports : (List Port))
  (internalLocal : Bool)
  (externalLocal : Bool)
  (sticky : Bool)
  (ticks : Int)
  (hinted : Bool)
  deriving DecidableEq
def Service.z : Service := ⟨Key.z, 0, [], [], [], [], [], false, false, false, 0, false⟩
structure Node where
  (name : ByteArray)
  (zone : ByteArray)
  (addrs : (List Addr))
  deriving DecidableEq
def Node.z : Node := ⟨⟨#[]⟩, ⟨#[]⟩, []⟩
structure Id where
  (name : ByteArray)
  (six : Bool)
  (localF : Bool)
  deriving DecidableEq
def Id.z : Id := ⟨⟨#[]⟩, false, false⟩
structure Want where
  (name : ByteArray)
  (proto : Int)
  (six : Bool)
  (localF : Bool)
  (hinted : Bool)
  (node : ByteArray)
  (zone : ByteArray)
  deriving DecidableEq
def Want.z : Want := ⟨⟨#[]⟩, 0, false, false, false, ⟨#[]⟩, ⟨#[]⟩⟩
structure Candidate where
  (point : Point)
  (localF : Bool)
  (ready : Bool)
  (serving : Bool)
  (terminating : Bool)
  (zones : (List ByteArray))
  deriving DecidableEq
def Candidate.z : Candidate := ⟨Point.z, false, false, false, false, []⟩
structure Endpoint where
  (addr : Addr)
  (node : ByteArray)
  (ready : Bool)
  (serving : Bool)
  (terminating : Bool)
  (zones : (List ByteArray))
  deriving DecidableEq
def Endpoint.z : Endpoint := ⟨Addr.z, ⟨#[]⟩, false, false, false, []⟩
structure Slice where
  (key : Key)
  (service : ByteArray)
  (six : Bool)
  (ports : (List Port))
  (endpoints : (List Endpoint))
  deriving DecidableEq
def Slice.z : Slice := ⟨Key.z, ⟨#[]⟩, false, [], []⟩
structure Group where
  (name : ByteArray)
  (proto : Int)
  (six : Bool)
  (localF : Bool)
  (points : (List Point))
  deriving DecidableEq
def Group.z : Group := ⟨⟨#[]⟩, 0, false, false, []⟩
structure Resolved where
  (key : Key)
  (faces : (List Face))
  (groups : (List Group))
  deriving DecidableEq
def Resolved.z : Resolved := ⟨Key.z, [], []⟩
def F60_put (a0 : Row_2) (a1 : Face) : Option Row_2 := (if ((mget a0.seen ({ proto := a1.proto, point := a1.point } : Place)).isSome) = true then some a0 else (apO a0.list [a1]).bind fun z171 => some ({ seen := mput a0.seen ({ proto := a1.proto, point := a1.point } : Place) ({  } : St85), list := a0.list ++ [a1] } : Row_2))
def F45_all_b1  (x34 : Addr) (s35 : Row_2 × Face) : Option (Row_2 × Face) := (F60_put s35.1 ({ proto := s35.2.proto, point := ({ addr := x34, port := s35.2.point.port } : Point), name := s35.2.name, how := s35.2.how, localF := s35.2.localF, asked := s35.2.asked } : Face)).bind fun y71 => some (y71, ({ proto := s35.2.proto, point := ({ addr := x34, port := s35.2.point.port } : Point), name := s35.2.name, how := s35.2.how, localF := s35.2.localF, asked := s35.2.asked } : Face))
def F45_all (a0 : Row_2) (a1 : (List Addr)) (a2 : Face) : Option Row_2 := (runAO F45_all_b1 a1 (a0, a2)).bind fun (s96 : Row_2 × Face) => some s96.1
def F61_Face (a0 : (List Face)) : Option (List Face) := (apO [] a0).bind fun z17 => some ([] ++ a0)
noncomputable def F62_slices_SortFunc (a0 : (List Face)) (a1 : (Face → Face → Int)) : Option (List Face) := sortO a0 a1
def F80_int (a0 : Int) : Bool := !decide (a0 = a0)
def F53_int (a0 : Int) (a1 : Int) : Int := lt (F80_int a0) fun y3 => lt (F80_int a1) fun y7 => (if y3 = true then (if y7 = true then 0 else (-1)) else (if y7 = true then 1 else (if (decide (a0 < a1)) = true then (-1) else (if (decide (a0 > a1)) = true then 1 else 0))))
def F130_Compare (a0 : (List Int)) (a1 : (List Int)) : Int := cmpB a0 a1
def F100_Compare (a0 : Addr) (a1 : Addr) : Int := (if (a0.six == a1.six) = true then lt (F130_Compare (A16u8.list a0.b) (A16u8.list a1.b)) fun y16 => y16 else (if a0.six = true then 1 else (-1)))
def F51_int_b1  (x10 : Int) (s11 : Unit) : Step Int Unit := (if (!decide (x10 = 0)) = true then .ret x10 else .next ())
def F51_int (a0 : (List Int)) : Int := lt (runB F51_int_b1 a0 ()) fun o => o.elim (fun r => r) fun (s30 : Unit) => 0
def F75_Compare (a0 : Point) (a1 : Point) : Int := lt (F100_Compare a0.addr a1.addr) fun y11 => lt (F53_int a0.port a1.port) fun y15 => lt (F51_int [y11, y15]) fun y24 => y24
def F79_string (a0 : ByteArray) : Bool := !decide (a0 = a0)
def F52_string (a0 : ByteArray) (a1 : ByteArray) : Int := lt (F79_string a0) fun y3 => lt (F79_string a1) fun y7 => (if y3 = true then (if y7 = true then 0 else (-1)) else (if y7 = true then 1 else (if (Op.bytesLess a0.toList a1.toList) = true then (-1) else (if (!(Op.bytesLess a0.toList a1.toList || decide (a0 = a1))) = true then 1 else 0))))
def F87_truth (a0 : Bool) (a1 : Bool) : Int := (if (a0 == a1) = true then 0 else (if a0 = true then 1 else (-1)))
def F63_Compare (a0 : Face) (a1 : Face) : Int := lt (F53_int a0.proto a1.proto) fun y11 => lt (F75_Compare a0.point a1.point) fun y15 => lt (F52_string a0.name a1.name) fun y19 => lt (F53_int a0.how a1.how) fun y23 => lt (F87_truth a0.localF a1.localF) fun y27 => lt (F87_truth a0.asked a1.asked) fun y31 => lt (F51_int [y11, y15, y19, y23, y27, y31]) fun y40 => y40
def F64_Face_b2 (x2 : Int) (y64 : (List Face)) (s82 : Int × Int × (List Face)) : Option (Step Empty (Int × Int × (List Face))) := (if (decide (s82.2.1 < ((y64.length : Nat) : Int))) = true then (ixO (s82.2.2.drop x2.toNat) s82.2.1).bind fun y94 => (ixO (s82.2.2.drop x2.toNat) (IntKind.i64.wrap (s82.2.1 - 1))).bind fun y102 => (if (!decide (y94 = y102)) = true then (ixO (s82.2.2.drop x2.toNat) s82.2.1).bind fun y137 => (ixO s82.2.2 s82.1).bind fun y145 => some (.next (IntKind.i64.wrap (s82.1 + 1), IntKind.i64.wrap (s82.2.1 + 1), s82.2.2.set s82.1.toNat y137)) else some (.next (s82.1, IntKind.i64.wrap (s82.2.1 + 1), s82.2.2))) else some (.fin (s82.1, s82.2.1, s82.2.2)))
def F64_Face_b1  (s15 : Int × (List Face)) : Option (Step (List Face) (Int × (List Face))) := (if (decide (s15.1 < ((s15.2.length : Nat) : Int))) = true then (ixO s15.2 s15.1).bind fun y27 => (ixO s15.2 (IntKind.i64.wrap (s15.1 - 1))).bind fun y35 => (if (decide (y27 = y35)) = true then (slO s15.2 s15.1 ((s15.2.length : Nat) : Int)).bind fun y64 => (runW (F64_Face_b2 s15.1 y64) FUEL (s15.1, 1, s15.2)).bind fun o => o.elim (fun r => r.elim) fun (s155 : Int × Int × (List Face)) => (slO s155.2.2 s155.1 ((s155.2.2.length : Nat) : Int)).bind fun y156 => (slO (s155.2.2.take s155.1.toNat ++ List.replicate (s155.2.2.length - s155.1.toNat) Face.z) 0 s155.1).bind fun y164 => some (.ret y164) else some (.next (IntKind.i64.wrap (s15.1 + 1), s15.2))) else some (.fin (s15.1, s15.2)))
def F64_Face (a0 : (List Face)) : Option (List Face) := (if (decide (((a0.length : Nat) : Int) < 2)) = true then some a0 else (runW F64_Face_b1 FUEL (1, a0)).bind fun o => o.elim (fun r => some r) fun (s176 : Int × (List Face)) => some s176.2)
noncomputable def F46_Sort (a0 : (List Face)) : Option (List Face) := (F61_Face a0).bind fun y3 => (F62_slices_SortFunc y3 (fun x0 x1 => F63_Compare x0 x1)).bind fun y13 => (F64_Face y13).bind fun y21 => some y21
def F24_Faces_b1 (a0 : Service) (a1 : Node) (x42 : Port) (s43 : Row_2) : Option Row_2 := (F45_all s43 a0.cluster ({ proto := x42.proto, point := ({ addr := Addr.z, port := x42.port } : Point), name := x42.name, how := 0, localF := a0.internalLocal, asked := false } : Face)).bind fun y88 => (F45_all y88 a0.external ({ proto := x42.proto, point := ({ addr := Addr.z, port := x42.port } : Point), name := x42.name, how := 1, localF := a0.externalLocal, asked := false } : Face)).bind fun y167 => (F45_all y167 a0.balancers ({ proto := x42.proto, point := ({ addr := Addr.z, port := x42.port } : Point), name := x42.name, how := 2, localF := a0.externalLocal, asked := decide (((a0.ranges.length : Nat) : Int) > 0) } : Face)).bind fun y258 => (if (!decide (x42.outer = 0)) = true then (F45_all y258 a1.addrs ({ proto := x42.proto, point := ({ addr := Addr.z, port := x42.outer } : Point), name := x42.name, how := 3, localF := a0.externalLocal, asked := false } : Face)).bind fun y365 => some y365 else some y258)
noncomputable def F24_Faces (a0 : Service) (a1 : Node) : Option (List Face) := (runAO (F24_Faces_b1 a0 a1) a0.ports ({ seen := ([] : (List (Place × St85))), list := [] } : Row_2)).bind fun (s393 : Row_2) => (F46_Sort s393.list).bind fun y397 => some y397
def F25_faced (a0 : Face) : Id := ({ name := a0.name, six := a0.point.addr.six, localF := a0.localF } : Id)
def F27_wanted (a0 : Service) (a1 : Face) (a2 : Node) : Want := lt (a0.hinted && (!a1.localF)) fun b20 => ({ name := a1.name, proto := a1.proto, six := a1.point.addr.six, localF := a1.localF, hinted := b20, node := a2.name, zone := a2.zone } : Want)
def F71_1 (a0 : Candidate) (a1 : (List (Point × St85))) (a2 : (List Candidate)) : Option ((List (Point × St85)) × (List Candidate)) := (if (!((mget a1 a0.point).isSome)) = true then (apO a2 [a0]).bind fun z37 => some (mput a1 a0.point ({  } : St85), a2 ++ [a0]) else some (a1, a2))
def F72_matches (a0 : Want) (a1 : Port) : Bool := lt ((decide (a1.name = a0.name)) && (decide (a1.proto = a0.proto))) fun b11 => b11
def F98_string (a0 : (List ByteArray)) : Option (List ByteArray) := (apO [] a0).bind fun z17 => some ([] ++ a0)
def F73_candidat (a0 : Want) (a1 : Endpoint) (a2 : Int) : Option Candidate := lt (((!decide (a1.node = (⟨#[]⟩ : ByteArray))) && (decide (a1.node = a0.node)))) fun b14 => (F98_string a1.zones).bind fun y18 => some ({ point := ({ addr := a1.addr, port := a2 } : Point), localF := b14, ready := a1.ready, serving := a1.serving, terminating := a1.terminating, zones := y18 } : Candidate)
def F48_Candidat_b3 (a1 : Want) (x118 : Port) (x186 : Endpoint) (s187 : (List Candidate) × (List (Point × St85))) : Option ((List Candidate) × (List (Point × St85))) := (F73_candidat a1 x186 x118.port).bind fun y220 => (F71_1 y220 s187.2 s187.1).bind fun y229 => some (y229.2, y229.1)
def F48_Candidat_b2 (a1 : Want) (x56 : Slice) (x118 : Port) (s119 : (List Candidate) × (List (Point × St85))) : Option ((List Candidate) × (List (Point × St85))) := lt (F72_matches a1 x118) fun y149 => (if (!y149) = true then some (s119.1, s119.2) else (runAO (F48_Candidat_b3 a1 x118) x56.endpoints (s119.1, s119.2)).bind fun (s259 : (List Candidate) × (List (Point × St85))) => some (s259.1, s259.2))
def F48_Candidat_b1 (a1 : Want) (x56 : Slice) (s57 : (List Candidate) × (List (Point × St85))) : Option ((List Candidate) × (List (Point × St85))) := (if (!(x56.six == a1.six)) = true then some (s57.1, s57.2) else (runAO (F48_Candidat_b2 a1 x56) x56.ports (s57.1, s57.2)).bind fun (s265 : (List Candidate) × (List (Point × St85))) => some (s265.1, s265.2))
def F48_Candidat (a0 : (List Slice)) (a1 : Want) : Option (List Candidate) := (runAO (F48_Candidat_b1 a1) a0 (([] : List Candidate), ([] : (List (Point × St85))))).bind fun (s271 : (List Candidate) × (List (Point × St85))) => some s271.1
def F90_Candidat (a0 : (List Candidate)) : Option (List Candidate) := (apO [] a0).bind fun z17 => some ([] ++ a0)
def F91_1 (a0 : Candidate) (a1 : (Candidate → Bool)) : Bool := !(a1 a0)
def F92_Candidat_b1 (a1 : (Candidate → Bool)) (x10 : Candidate) (s11 : Nat) : Step Int Nat := (if (a1 x10) = true then .ret ((s11 : Nat) : Int) else .next (s11 + 1))
def F92_Candidat (a0 : (List Candidate)) (a1 : (Candidate → Bool)) : Int := lt (runB (F92_Candidat_b1 a1) a0 0) fun o => o.elim (fun r => r) fun (s34 : Nat) => (-1)
def F89_Candidat_b1 (a1 : (Candidate → Bool)) (s20 : Int × Int × (List Candidate)) : Option (Step Empty (Int × Int × (List Candidate))) := (if (decide (s20.2.1 < ((s20.2.2.length : Nat) : Int))) = true then (ixO s20.2.2 s20.2.1).bind fun y32 => (if (!(a1 y32)) = true then (ixO s20.2.2 s20.1).bind fun y56 => some (.next (IntKind.i64.wrap (s20.1 + 1), IntKind.i64.wrap (s20.2.1 + 1), s20.2.2.set s20.1.toNat y32)) else some (.next (s20.1, IntKind.i64.wrap (s20.2.1 + 1), s20.2.2))) else some (.fin (s20.1, s20.2.1, s20.2.2)))
def F89_Candidat (a0 : (List Candidate)) (a1 : (Candidate → Bool)) : Option (List Candidate) := lt (F92_Candidat a0 a1) fun y3 => (if (decide (y3 = (-1))) = true then some a0 else (runW (F89_Candidat_b1 a1) FUEL (y3, IntKind.i64.wrap (y3 + 1), a0)).bind fun o => o.elim (fun r => r.elim) fun (s68 : Int × Int × (List Candidate)) => (slO s68.2.2 s68.1 ((s68.2.2.length : Nat) : Int)).bind fun y69 => (slO (s68.2.2.take s68.1.toNat ++ List.replicate (s68.2.2.length - s68.1.toNat) Candidate.z) 0 s68.1).bind fun y77 => some y77)
def F66_those (a0 : (List Candidate)) (a1 : (Candidate → Bool)) : Option (List Candidate) := (F90_Candidat a0).bind fun y7 => (F89_Candidat y7 (fun x0 => F91_1 x0 a1)).bind fun y17 => some y17
def F67_local (a0 : Candidate) : Bool := a0.localF
def F69_ready (a0 : Candidate) : Bool := a0.ready
def F88_leaving (a0 : Candidate) : Bool := lt (a0.serving && a0.terminating) fun b7 => b7
def F65_Usable (a0 : (List Candidate)) : Option (List Candidate) := (F66_those a0 (fun x0 => F69_ready x0)).bind fun y3 => (if (decide (((y3.length : Nat) : Int) > 0)) = true then some y3 else (F66_those a0 (fun x0 => F88_leaving x0)).bind fun y11 => some y11)
def F68_Candidat (a0 : (List Candidate)) (a1 : (Candidate → Bool)) : Bool := lt (F92_Candidat a0 a1) fun y3 => decide (y3 ≥ 0)
def F120_1 (a0 : Candidate) (a1 : (Candidate → Bool)) : Bool := !(a1 a0)
def F95_kept (a0 : (List Candidate)) (a1 : (Candidate → Bool)) : Option (List Candidate) := (F90_Candidat a0).bind fun y7 => (F89_Candidat y7 (fun x0 => F120_1 x0 a1)).bind fun y17 => some y17
def F117_1 (a0 : Candidate) : Bool := a0.ready
def F93_ready (a0 : (List Candidate)) : Option (List Candidate) := (F95_kept a0 (fun x0 => F117_1 x0)).bind fun y3 => some y3
def F118_1 (a0 : Candidate) : Bool := decide (((a0.zones.length : Nat) : Int) = 0)
def F137_string_b1 (a1 : ByteArray) (x10 : ByteArray) (s11 : Nat) : Step Int Nat := (if (decide (a1 = x10)) = true then .ret ((s11 : Nat) : Int) else .next (s11 + 1))
def F137_string (a0 : (List ByteArray)) (a1 : ByteArray) : Int := lt (runB (F137_string_b1 a1) a0 0) fun o => o.elim (fun r => r) fun (s30 : Nat) => (-1)
def F121_string (a0 : (List ByteArray)) (a1 : ByteArray) : Bool := lt (F137_string a0 a1) fun y3 => decide (y3 ≥ 0)
def F97_Meant (a0 : Candidate) (a1 : ByteArray) : Bool := lt (F121_string a0.zones a1) fun y7 => y7
def F119_2 (a0 : Candidate) (a1 : ByteArray) : Bool := lt (F97_Meant a0 a1) fun y13 => y13
def F94_Count (a0 : (List Candidate)) (a1 : ByteArray) : Option Bool := (F93_ready a0).bind fun y7 => lt (F68_Candidat y7 (fun x0 => F118_1 x0)) fun y13 => lt ((!decide (a1 = (⟨#[]⟩ : ByteArray))) && (!y13)) fun b17 => lt (b17 && (lt (F68_Candidat y7 (fun x0 => F119_2 x0 a1)) fun y25 => y25)) fun b23 => some b23
def F96_1 (a0 : Candidate) (a1 : ByteArray) : Bool := lt (F97_Meant a0 a1) fun y13 => y13
def F70_Filter (a0 : (List Candidate)) (a1 : ByteArray) : Option (List Candidate) := (F93_ready a0).bind fun y7 => (F94_Count a0 a1).bind fun y14 => (if (!y14) = true then some y7 else (F95_kept y7 (fun x0 => F96_1 x0 a1)).bind fun y20 => some y20)
def F47_Choose (a0 : (List Candidate)) (a1 : Want) : Option (List Candidate) := (if a1.localF = true then (F66_those a0 (fun x0 => F67_local x0)).bind fun y8 => (F65_Usable y8).bind fun y14 => some y14 else lt (a1.hinted && (lt (F68_Candidat a0 (fun x0 => F69_ready x0)) fun y23 => y23)) fun b21 => (if b21 = true then (F70_Filter a0 a1.zone).bind fun y32 => some y32 else (F65_Usable a0).bind fun y39 => some y39))
def F33_Point (a0 : (List Point)) : Option (List Point) := (apO [] a0).bind fun z17 => some ([] ++ a0)
noncomputable def F74_slices_SortFunc (a0 : (List Point)) (a1 : (Point → Point → Int)) : Option (List Point) := sortO a0 a1
def F76_Point_b2 (x2 : Int) (y64 : (List Point)) (s82 : Int × Int × (List Point)) : Option (Step Empty (Int × Int × (List Point))) := (if (decide (s82.2.1 < ((y64.length : Nat) : Int))) = true then (ixO (s82.2.2.drop x2.toNat) s82.2.1).bind fun y94 => (ixO (s82.2.2.drop x2.toNat) (IntKind.i64.wrap (s82.2.1 - 1))).bind fun y102 => (if (!decide (y94 = y102)) = true then (ixO (s82.2.2.drop x2.toNat) s82.2.1).bind fun y137 => (ixO s82.2.2 s82.1).bind fun y145 => some (.next (IntKind.i64.wrap (s82.1 + 1), IntKind.i64.wrap (s82.2.1 + 1), s82.2.2.set s82.1.toNat y137)) else some (.next (s82.1, IntKind.i64.wrap (s82.2.1 + 1), s82.2.2))) else some (.fin (s82.1, s82.2.1, s82.2.2)))
def F76_Point_b1  (s15 : Int × (List Point)) : Option (Step (List Point) (Int × (List Point))) := (if (decide (s15.1 < ((s15.2.length : Nat) : Int))) = true then (ixO s15.2 s15.1).bind fun y27 => (ixO s15.2 (IntKind.i64.wrap (s15.1 - 1))).bind fun y35 => (if (decide (y27 = y35)) = true then (slO s15.2 s15.1 ((s15.2.length : Nat) : Int)).bind fun y64 => (runW (F76_Point_b2 s15.1 y64) FUEL (s15.1, 1, s15.2)).bind fun o => o.elim (fun r => r.elim) fun (s155 : Int × Int × (List Point)) => (slO s155.2.2 s155.1 ((s155.2.2.length : Nat) : Int)).bind fun y156 => (slO (s155.2.2.take s155.1.toNat ++ List.replicate (s155.2.2.length - s155.1.toNat) Point.z) 0 s155.1).bind fun y164 => some (.ret y164) else some (.next (IntKind.i64.wrap (s15.1 + 1), s15.2))) else some (.fin (s15.1, s15.2)))
def F76_Point (a0 : (List Point)) : Option (List Point) := (if (decide (((a0.length : Nat) : Int) < 2)) = true then some a0 else (runW F76_Point_b1 FUEL (1, a0)).bind fun o => o.elim (fun r => some r) fun (s176 : Int × (List Point)) => some s176.2)
noncomputable def F49_Sort (a0 : (List Point)) : Option (List Point) := (F33_Point a0).bind fun y3 => (F74_slices_SortFunc y3 (fun x0 x1 => F75_Compare x0 x1)).bind fun y13 => (F76_Point y13).bind fun y21 => some y21
def F26_Points_b1  (x51 : Candidate) (s52 : (List Point)) : Option (List Point) := (apO s52 [x51.point]).bind fun z91 => some (s52 ++ [x51.point])
noncomputable def F26_Points (a0 : (List Slice)) (a1 : Want) : Option (List Point) := (F48_Candidat a0 a1).bind fun y7 => (F47_Choose y7 a1).bind fun y13 => (runAO F26_Points_b1 y13 ([] : List Point)).bind fun (s99 : (List Point)) => (F49_Sort s99).bind fun y103 => some y103
def F77_Group_b2 (a1 : Int) (a3 : (Group → Group → Int)) (s33 : Int × (List Group)) : Option (Step Empty (Int × (List Group))) := (andO (decide (s33.1 > a1)) ((ixO s33.2 s33.1).bind fun y44 => (ixO s33.2 (IntKind.i64.wrap (s33.1 - 1))).bind fun y54 => some (decide ((a3 y44 y54) < 0)))).bind fun b60 => (if b60 = true then (ixO s33.2 (IntKind.i64.wrap (s33.1 - 1))).bind fun y149 => (ixO s33.2 s33.1).bind fun y159 => (ixO s33.2 s33.1).bind fun y169 => (ixO (s33.2.set s33.1.toNat y149) (IntKind.i64.wrap (s33.1 - 1))).bind fun y181 => some (.next (IntKind.i64.wrap (s33.1 - 1), (s33.2.set s33.1.toNat y149).set (IntKind.i64.wrap (s33.1 - 1)).toNat y159)) else some (.fin (s33.1, s33.2)))
def F77_Group_b1 (a1 : Int) (a2 : Int) (a3 : (Group → Group → Int)) (s14 : Int × (List Group)) : Option (Step Empty (Int × (List Group))) := (if (decide (s14.1 < a2)) = true then (runW (F77_Group_b2 a1 a3) FUEL (s14.1, s14.2)).bind fun o => o.elim (fun r => r.elim) fun (s265 : Int × (List Group)) => some (.next (IntKind.i64.wrap (s14.1 + 1), s265.2)) else some (.fin (s14.1, s14.2)))
def F77_Group (a0 : (List Group)) (a1 : Int) (a2 : Int) (a3 : (Group → Group → Int)) : Option (List Group) := (runW (F77_Group_b1 a1 a2 a3) FUEL (IntKind.i64.wrap (a1 + 1), a0)).bind fun o => o.elim (fun r => r.elim) fun (s270 : Int × (List Group)) => some s270.2
def F131_Group_b1 (a1 : Int) (a2 : Int) (a3 : Int) (s14 : Int × (List Group)) : Option (Step Empty (Int × (List Group))) := (if (decide (s14.1 < a3)) = true then (ixO s14.2 (IntKind.i64.wrap (a2 + s14.1))).bind fun y26 => (ixO s14.2 (IntKind.i64.wrap (a1 + s14.1))).bind fun y36 => (ixO s14.2 (IntKind.i64.wrap (a1 + s14.1))).bind fun y46 => (ixO (s14.2.set (IntKind.i64.wrap (a1 + s14.1)).toNat y26) (IntKind.i64.wrap (a2 + s14.1))).bind fun y58 => some (.next (IntKind.i64.wrap (s14.1 + 1), (s14.2.set (IntKind.i64.wrap (a1 + s14.1)).toNat y26).set (IntKind.i64.wrap (a2 + s14.1)).toNat y36)) else some (.fin (s14.1, s14.2)))
def F131_Group (a0 : (List Group)) (a1 : Int) (a2 : Int) (a3 : Int) (a4 : (Group → Group → Int)) : Option (List Group) := (runW (F131_Group_b1 a1 a2 a3) FUEL (0, a0)).bind fun o => o.elim (fun r => r.elim) fun (s154 : Int × (List Group)) => some s154.2
def F101_Group_b1 (a2 : Int) (a4 : (Group → Group → Int)) (s15 : Int × Int × (List Group)) : Option (Step Empty (Int × Int × (List Group))) := (if (!decide (s15.1 = s15.2.1)) = true then (if (decide (s15.1 > s15.2.1)) = true then (F131_Group s15.2.2 (IntKind.i64.wrap (a2 - s15.1)) a2 s15.2.1 a4).bind fun y27 => some (.next (IntKind.i64.wrap (s15.1 - s15.2.1), s15.2.1, y27)) else (F131_Group s15.2.2 (IntKind.i64.wrap (a2 - s15.1)) (IntKind.i64.wrap ((IntKind.i64.wrap (a2 + s15.2.1)) - s15.1)) s15.1 a4).bind fun y36 => some (.next (s15.1, IntKind.i64.wrap (s15.2.1 - s15.1), y36))) else some (.fin (s15.1, s15.2.1, s15.2.2)))
def F101_Group (a0 : (List Group)) (a1 : Int) (a2 : Int) (a3 : Int) (a4 : (Group → Group → Int)) : Option (List Group) := (runW (F101_Group_b1 a2 a4) FUEL (IntKind.i64.wrap (a2 - a1), IntKind.i64.wrap (a3 - a2), a0)).bind fun o => o.elim (fun r => r.elim) fun (s44 : Int × Int × (List Group)) => (F131_Group s44.2.2 (IntKind.i64.wrap (a2 - s44.1)) a2 s44.1 a4).bind fun y50 => some y50
def F78_Group_body_b1 (a0 : (List Group)) (a1 : Int) (a4 : (Group → Group → Int)) (s14 : Int × Int) : Option (Step Empty (Int × Int)) := (if (decide (s14.1 < s14.2)) = true then (ixO a0 (IntKind.i64.wrap ((IntKind.u64.wrap (IntKind.i64.wrap (s14.1 + s14.2))).fdiv (2 ^ (min (Int.toNat 1) IntKind.u64.bits))))).bind fun y26 => (ixO a0 a1).bind fun y36 => (if (decide ((a4 y26 y36) < 0)) = true then some (.next (IntKind.i64.wrap ((IntKind.i64.wrap ((IntKind.u64.wrap (IntKind.i64.wrap (s14.1 + s14.2))).fdiv (2 ^ (min (Int.toNat 1) IntKind.u64.bits)))) + 1), s14.2)) else some (.next (s14.1, IntKind.i64.wrap ((IntKind.u64.wrap (IntKind.i64.wrap (s14.1 + s14.2))).fdiv (2 ^ (min (Int.toNat 1) IntKind.u64.bits)))))) else some (.fin (s14.1, s14.2)))
def F78_Group_body_b2 (x2 : Int) (x2 : Int) (s93 : Int × (List Group)) : Option (Step Empty (Int × (List Group))) := (if (decide (s93.1 < (IntKind.i64.wrap (x2 - 1)))) = true then (ixO s93.2 (IntKind.i64.wrap (s93.1 + 1))).bind fun y105 => (ixO s93.2 s93.1).bind fun y115 => (ixO s93.2 s93.1).bind fun y125 => (ixO (s93.2.set s93.1.toNat y105) (IntKind.i64.wrap (s93.1 + 1))).bind fun y137 => some (.next (IntKind.i64.wrap (s93.1 + 1), (s93.2.set s93.1.toNat y105).set (IntKind.i64.wrap (s93.1 + 1)).toNat y115)) else some (.fin (s93.1, s93.2)))
def F78_Group_body_b3 (a0 : (List Group)) (a2 : Int) (a4 : (Group → Group → Int)) (s235 : Int × Int) : Option (Step Empty (Int × Int)) := (if (decide (s235.1 < s235.2)) = true then (ixO a0 a2).bind fun y247 => (ixO a0 (IntKind.i64.wrap ((IntKind.u64.wrap (IntKind.i64.wrap (s235.1 + s235.2))).fdiv (2 ^ (min (Int.toNat 1) IntKind.u64.bits))))).bind fun y257 => (if (!(decide ((a4 y247 y257) < 0))) = true then some (.next (IntKind.i64.wrap ((IntKind.i64.wrap ((IntKind.u64.wrap (IntKind.i64.wrap (s235.1 + s235.2))).fdiv (2 ^ (min (Int.toNat 1) IntKind.u64.bits)))) + 1), s235.2)) else some (.next (s235.1, IntKind.i64.wrap ((IntKind.u64.wrap (IntKind.i64.wrap (s235.1 + s235.2))).fdiv (2 ^ (min (Int.toNat 1) IntKind.u64.bits)))))) else some (.fin (s235.1, s235.2)))
def F78_Group_body_b4 (x223 : Int) (x223 : Int) (s314 : Int × (List Group)) : Option (Step Empty (Int × (List Group))) := (if (decide (s314.1 > x223)) = true then (ixO s314.2 (IntKind.i64.wrap (s314.1 - 1))).bind fun y326 => (ixO s314.2 s314.1).bind fun y336 => (ixO s314.2 s314.1).bind fun y346 => (ixO (s314.2.set s314.1.toNat y326) (IntKind.i64.wrap (s314.1 - 1))).bind fun y358 => some (.next (IntKind.i64.wrap (s314.1 - 1), (s314.2.set s314.1.toNat y326).set (IntKind.i64.wrap (s314.1 - 1)).toNat y336)) else some (.fin (s314.1, s314.2)))
def F78_Group_body_b5 (a0 : (List Group)) (a1 : Int) (a2 : Int) (a3 : Int) (a4 : (Group → Group → Int)) (s459 : Int × Int) : Option (Step Empty (Int × Int)) := (if (decide (s459.1 < s459.2)) = true then (ixO a0 (IntKind.i64.wrap ((IntKind.i64.wrap ((IntKind.i64.wrap ((IntKind.i64.wrap ((IntKind.u64.wrap (IntKind.i64.wrap (a1 + a3))).fdiv (2 ^ (min (Int.toNat 1) IntKind.u64.bits)))) + a2)) - 1)) - (IntKind.i64.wrap ((IntKind.u64.wrap (IntKind.i64.wrap (s459.1 + s459.2))).fdiv (2 ^ (min (Int.toNat 1) IntKind.u64.bits))))))).bind fun y471 => (ixO a0 (IntKind.i64.wrap ((IntKind.u64.wrap (IntKind.i64.wrap (s459.1 + s459.2))).fdiv (2 ^ (min (Int.toNat 1) IntKind.u64.bits))))).bind fun y481 => (if (!(decide ((a4 y471 y481) < 0))) = true then some (.next (IntKind.i64.wrap ((IntKind.i64.wrap ((IntKind.u64.wrap (IntKind.i64.wrap (s459.1 + s459.2))).fdiv (2 ^ (min (Int.toNat 1) IntKind.u64.bits)))) + 1), s459.2)) else some (.next (s459.1, IntKind.i64.wrap ((IntKind.u64.wrap (IntKind.i64.wrap (s459.1 + s459.2))).fdiv (2 ^ (min (Int.toNat 1) IntKind.u64.bits)))))) else some (.fin (s459.1, s459.2)))
def F78_Group_body (rec : (List Group) → Int → Int → Int → (Group → Group → Int) → Option (List Group)) (a0 : (List Group)) (a1 : Int) (a2 : Int) (a3 : Int) (a4 : (Group → Group → Int)) : Option (List Group) := (if (decide ((IntKind.i64.wrap (a2 - a1)) = 1)) = true then (runW (F78_Group_body_b1 a0 a1 a4) FUEL (a2, a3)).bind fun o => o.elim (fun r => r.elim) fun (s79 : Int × Int) => (runW (F78_Group_body_b2 s79.1 s79.1) FUEL (a1, a0)).bind fun o => o.elim (fun r => r.elim) fun (s221 : Int × (List Group)) => some s221.2 else (if (decide ((IntKind.i64.wrap (a3 - a2)) = 1)) = true then (runW (F78_Group_body_b3 a0 a2 a4) FUEL (a1, a2)).bind fun o => o.elim (fun r => r.elim) fun (s300 : Int × Int) => (runW (F78_Group_body_b4 s300.1 s300.1) FUEL (a2, a0)).bind fun o => o.elim (fun r => r.elim) fun (s442 : Int × (List Group)) => some s442.2 else lt ((if (decide (a2 > (IntKind.i64.wrap ((IntKind.u64.wrap (IntKind.i64.wrap (a1 + a3))).fdiv (2 ^ (min (Int.toNat 1) IntKind.u64.bits)))))) = true then (IntKind.i64.wrap ((IntKind.i64.wrap ((IntKind.i64.wrap ((IntKind.u64.wrap (IntKind.i64.wrap (a1 + a3))).fdiv (2 ^ (min (Int.toNat 1) IntKind.u64.bits)))) + a2)) - a3), IntKind.i64.wrap ((IntKind.u64.wrap (IntKind.i64.wrap (a1 + a3))).fdiv (2 ^ (min (Int.toNat 1) IntKind.u64.bits)))) else (a1, a2))) fun y443 => (runW (F78_Group_body_b5 a0 a1 a2 a3 a4) FUEL (y443.1, y443.2)).bind fun o => o.elim (fun r => r.elim) fun (s526 : Int × Int) => lt ((decide (s526.1 < a2)) && (decide (a2 < (IntKind.i64.wrap ((IntKind.i64.wrap ((IntKind.i64.wrap ((IntKind.u64.wrap (IntKind.i64.wrap (a1 + a3))).fdiv (2 ^ (min (Int.toNat 1) IntKind.u64.bits)))) + a2)) - s526.1))))) fun b529 => (if b529 = true then (F101_Group a0 s526.1 a2 (IntKind.i64.wrap ((IntKind.i64.wrap ((IntKind.i64.wrap ((IntKind.u64.wrap (IntKind.i64.wrap (a1 + a3))).fdiv (2 ^ (min (Int.toNat 1) IntKind.u64.bits)))) + a2)) - s526.1)) a4).bind fun y539 => lt ((decide (a1 < s526.1)) && (decide (s526.1 < (IntKind.i64.wrap ((IntKind.u64.wrap (IntKind.i64.wrap (a1 + a3))).fdiv (2 ^ (min (Int.toNat 1) IntKind.u64.bits))))))) fun b545 => (if b545 = true then (rec y539 a1 s526.1 (IntKind.i64.wrap ((IntKind.u64.wrap (IntKind.i64.wrap (a1 + a3))).fdiv (2 ^ (min (Int.toNat 1) IntKind.u64.bits)))) a4).bind fun y555 => lt ((decide ((IntKind.i64.wrap ((IntKind.u64.wrap (IntKind.i64.wrap (a1 + a3))).fdiv (2 ^ (min (Int.toNat 1) IntKind.u64.bits)))) < (IntKind.i64.wrap ((IntKind.i64.wrap ((IntKind.i64.wrap ((IntKind.u64.wrap (IntKind.i64.wrap (a1 + a3))).fdiv (2 ^ (min (Int.toNat 1) IntKind.u64.bits)))) + a2)) - s526.1)))) && (decide ((IntKind.i64.wrap ((IntKind.i64.wrap ((IntKind.i64.wrap ((IntKind.u64.wrap (IntKind.i64.wrap (a1 + a3))).fdiv (2 ^ (min (Int.toNat 1) IntKind.u64.bits)))) + a2)) - s526.1)) < a3))) fun b561 => (if b561 = true then (rec y555 (IntKind.i64.wrap ((IntKind.u64.wrap (IntKind.i64.wrap (a1 + a3))).fdiv (2 ^ (min (Int.toNat 1) IntKind.u64.bits)))) (IntKind.i64.wrap ((IntKind.i64.wrap ((IntKind.i64.wrap ((IntKind.u64.wrap (IntKind.i64.wrap (a1 + a3))).fdiv (2 ^ (min (Int.toNat 1) IntKind.u64.bits)))) + a2)) - s526.1)) a3 a4).bind fun y571 => some y571 else some y555) else lt ((decide ((IntKind.i64.wrap ((IntKind.u64.wrap (IntKind.i64.wrap (a1 + a3))).fdiv (2 ^ (min (Int.toNat 1) IntKind.u64.bits)))) < (IntKind.i64.wrap ((IntKind.i64.wrap ((IntKind.i64.wrap ((IntKind.u64.wrap (IntKind.i64.wrap (a1 + a3))).fdiv (2 ^ (min (Int.toNat 1) IntKind.u64.bits)))) + a2)) - s526.1)))) && (decide ((IntKind.i64.wrap ((IntKind.i64.wrap ((IntKind.i64.wrap ((IntKind.u64.wrap (IntKind.i64.wrap (a1 + a3))).fdiv (2 ^ (min (Int.toNat 1) IntKind.u64.bits)))) + a2)) - s526.1)) < a3))) fun b577 => (if b577 = true then (rec y539 (IntKind.i64.wrap ((IntKind.u64.wrap (IntKind.i64.wrap (a1 + a3))).fdiv (2 ^ (min (Int.toNat 1) IntKind.u64.bits)))) (IntKind.i64.wrap ((IntKind.i64.wrap ((IntKind.i64.wrap ((IntKind.u64.wrap (IntKind.i64.wrap (a1 + a3))).fdiv (2 ^ (min (Int.toNat 1) IntKind.u64.bits)))) + a2)) - s526.1)) a3 a4).bind fun y587 => some y587 else some y539)) else lt ((decide (a1 < s526.1)) && (decide (s526.1 < (IntKind.i64.wrap ((IntKind.u64.wrap (IntKind.i64.wrap (a1 + a3))).fdiv (2 ^ (min (Int.toNat 1) IntKind.u64.bits))))))) fun b593 => (if b593 = true then (rec a0 a1 s526.1 (IntKind.i64.wrap ((IntKind.u64.wrap (IntKind.i64.wrap (a1 + a3))).fdiv (2 ^ (min (Int.toNat 1) IntKind.u64.bits)))) a4).bind fun y603 => lt ((decide ((IntKind.i64.wrap ((IntKind.u64.wrap (IntKind.i64.wrap (a1 + a3))).fdiv (2 ^ (min (Int.toNat 1) IntKind.u64.bits)))) < (IntKind.i64.wrap ((IntKind.i64.wrap ((IntKind.i64.wrap ((IntKind.u64.wrap (IntKind.i64.wrap (a1 + a3))).fdiv (2 ^ (min (Int.toNat 1) IntKind.u64.bits)))) + a2)) - s526.1)))) && (decide ((IntKind.i64.wrap ((IntKind.i64.wrap ((IntKind.i64.wrap ((IntKind.u64.wrap (IntKind.i64.wrap (a1 + a3))).fdiv (2 ^ (min (Int.toNat 1) IntKind.u64.bits)))) + a2)) - s526.1)) < a3))) fun b609 => (if b609 = true then (rec y603 (IntKind.i64.wrap ((IntKind.u64.wrap (IntKind.i64.wrap (a1 + a3))).fdiv (2 ^ (min (Int.toNat 1) IntKind.u64.bits)))) (IntKind.i64.wrap ((IntKind.i64.wrap ((IntKind.i64.wrap ((IntKind.u64.wrap (IntKind.i64.wrap (a1 + a3))).fdiv (2 ^ (min (Int.toNat 1) IntKind.u64.bits)))) + a2)) - s526.1)) a3 a4).bind fun y619 => some y619 else some y603) else lt ((decide ((IntKind.i64.wrap ((IntKind.u64.wrap (IntKind.i64.wrap (a1 + a3))).fdiv (2 ^ (min (Int.toNat 1) IntKind.u64.bits)))) < (IntKind.i64.wrap ((IntKind.i64.wrap ((IntKind.i64.wrap ((IntKind.u64.wrap (IntKind.i64.wrap (a1 + a3))).fdiv (2 ^ (min (Int.toNat 1) IntKind.u64.bits)))) + a2)) - s526.1)))) && (decide ((IntKind.i64.wrap ((IntKind.i64.wrap ((IntKind.i64.wrap ((IntKind.u64.wrap (IntKind.i64.wrap (a1 + a3))).fdiv (2 ^ (min (Int.toNat 1) IntKind.u64.bits)))) + a2)) - s526.1)) < a3))) fun b625 => (if b625 = true then (rec a0 (IntKind.i64.wrap ((IntKind.u64.wrap (IntKind.i64.wrap (a1 + a3))).fdiv (2 ^ (min (Int.toNat 1) IntKind.u64.bits)))) (IntKind.i64.wrap ((IntKind.i64.wrap ((IntKind.i64.wrap ((IntKind.u64.wrap (IntKind.i64.wrap (a1 + a3))).fdiv (2 ^ (min (Int.toNat 1) IntKind.u64.bits)))) + a2)) - s526.1)) a3 a4).bind fun y635 => some y635 else some a0)))))
def F78_Group_at : Nat → (List Group) → Int → Int → Int → (Group → Group → Int) → Option (List Group)
  | 0, _, _, _, _, _ => none
  | f + 1, a0, a1, a2, a3, a4 => F78_Group_body (F78_Group_at f) a0 a1 a2 a3 a4
def F78_Group (a0 : (List Group)) (a1 : Int) (a2 : Int) (a3 : Int) (a4 : (Group → Group → Int)) : Option (List Group) := F78_Group_at 64 a0 a1 a2 a3 a4
def F50_Group_b1 (a1 : Int) (a2 : (Group → Group → Int)) (s15 : Int × Int × (List Group)) : Option (Step Empty (Int × Int × (List Group))) := (if (decide (s15.2.1 ≤ a1)) = true then (F77_Group s15.2.2 s15.1 s15.2.1 a2).bind fun y26 => some (.next (s15.2.1, IntKind.i64.wrap (s15.2.1 + 20), y26)) else some (.fin (s15.1, s15.2.1, s15.2.2)))
def F50_Group_b3 (a1 : Int) (a2 : (Group → Group → Int)) (x44 : Int) (s77 : Int × Int × (List Group)) : Option (Step Empty (Int × Int × (List Group))) := (if (decide (s77.2.1 ≤ a1)) = true then (F78_Group s77.2.2 s77.1 (IntKind.i64.wrap (s77.1 + x44)) s77.2.1 a2).bind fun y88 => some (.next (s77.2.1, IntKind.i64.wrap (s77.2.1 + (IntKind.i64.wrap (2 * x44))), y88)) else some (.fin (s77.1, s77.2.1, s77.2.2)))
def F50_Group_b2 (a1 : Int) (a2 : (Group → Group → Int)) (s57 : Int × (List Group)) : Option (Step Empty (Int × (List Group))) := (if (decide (s57.1 < a1)) = true then (runW (F50_Group_b3 a1 a2 s57.1) FUEL (0, IntKind.i64.wrap (2 * s57.1), s57.2)).bind fun o => o.elim (fun r => r.elim) fun (s96 : Int × Int × (List Group)) => (if (decide ((IntKind.i64.wrap (s96.1 + s57.1)) < a1)) = true then (F78_Group s96.2.2 s96.1 (IntKind.i64.wrap (s96.1 + s57.1)) a1 a2).bind fun y103 => some (.next (IntKind.i64.wrap (s57.1 * 2), y103)) else some (.next (IntKind.i64.wrap (s57.1 * 2), s96.2.2))) else some (.fin (s57.1, s57.2)))
def F50_Group (a0 : (List Group)) (a1 : Int) (a2 : (Group → Group → Int)) : Option (List Group) := (runW (F50_Group_b1 a1 a2) FUEL (0, 20, a0)).bind fun o => o.elim (fun r => r.elim) fun (s34 : Int × Int × (List Group)) => (F77_Group s34.2.2 s34.1 a1 a2).bind fun y40 => (runW (F50_Group_b2 a1 a2) FUEL (20, y40)).bind fun o => o.elim (fun r => r.elim) fun (s111 : Int × (List Group)) => some s111.2
def F28_Group (a0 : (List Group)) (a1 : (Group → Group → Int)) : Option (List Group) := (F50_Group a0 ((a0.length : Nat) : Int) a1).bind fun y6 => some y6
def F54_rank (a0 : Group) : Int := (if a0.six = true then (if a0.localF = true then IntKind.i64.wrap ((IntKind.i64.wrap (0 + 2)) + 1) else IntKind.i64.wrap (0 + 2)) else (if a0.localF = true then IntKind.i64.wrap (0 + 1) else 0))
def F29_order (a0 : Group) (a1 : Group) : Int := lt (F52_string a0.name a1.name) fun y11 => lt (F54_rank a0) fun y15 => lt (F54_rank a1) fun y19 => lt (F53_int y15 y19) fun y23 => lt (F51_int [y11, y23]) fun y32 => y32
noncomputable def F10_Resolve_b1 (a0 : Service) (a1 : (List Slice)) (a2 : Node) (x115 : Face) (s116 : Resolved × (List (Id × St85))) : Option (Resolved × (List (Id × St85))) := lt (F25_faced x115) fun y145 => (if ((mget s116.2 y145).isSome) = true then some (s116.1, s116.2) else lt (F25_faced x115) fun y167 => lt (F27_wanted a0 x115 a2) fun y175 => (F26_Points a1 y175).bind fun y179 => (apO s116.1.groups [({ name := x115.name, proto := x115.proto, six := x115.point.addr.six, localF := x115.localF, points := y179 } : Group)]).bind fun z196 => some (({ key := s116.1.key, faces := s116.1.faces, groups := s116.1.groups ++ [({ name := x115.name, proto := x115.proto, six := x115.point.addr.six, localF := x115.localF, points := y179 } : Group)] } : Resolved), mput s116.2 y167 ({  } : St85)))
noncomputable def F10_Resolve (a0 : Service) (a1 : (List Slice)) (a2 : Node) : Option Resolved := (F24_Faces a0 a2).bind fun y16 => (runAO (F10_Resolve_b1 a0 a1 a2) y16 (({ key := a0.key, faces := y16, groups := [] } : Resolved), ([] : (List (Id × St85))))).bind fun (s214 : Resolved × (List (Id × St85))) => (F28_Group s214.1.groups (fun x0 x1 => F29_order x0 x1)).bind fun y220 => some ({ key := s214.1.key, faces := s214.1.faces, groups := y220 } : Resolved)
noncomputable def F6_alive  : Option Bool := (F10_Resolve ({ key := Key.z, kind := 0, cluster := [({ six := false, b := ({ e0 := 10, e1 := 0, e2 := 0, e3 := 1, e4 := 0, e5 := 0, e6 := 0, e7 := 0, e8 := 0, e9 := 0, e10 := 0, e11 := 0, e12 := 0, e13 := 0, e14 := 0, e15 := 0 } : A16u8) } : Addr)], external := [], balancers := [], ranges := [], ports := [({ name := (⟨#[104]⟩ : ByteArray), proto := 6, port := 80, outer := 0 } : Port)], internalLocal := false, externalLocal := false, sticky := false, ticks := 0, hinted := false } : Service) [] ({ name := ⟨#[]⟩, zone := ⟨#[]⟩, addrs := [] } : Node)).bind fun y23 => (andO (decide (((y23.groups.length : Nat) : Int) = 1)) ((ixO y23.groups 0).bind fun y48 => some (decide (((y48.points.length : Nat) : Int) = 0)))).bind fun b42 => (andO b42 ((ixO y23.groups 0).bind fun y64 => some (decide (y64.name = (⟨#[104]⟩ : ByteArray))))).bind fun b58 => some b58
def F40_Of_b1  (x18 : Face) (s19 : (List Face)) : Option (List Face) := (apO s19 [x18]).bind fun z56 => some (s19 ++ [x18])
def F40_Of (a0 : (List Face)) : Option (List Face) := (runAO F40_Of_b1 a0 []).bind fun (s64 : (List Face)) => some s64
def F17_Of_b1  (x98 : Group) (s99 : Resolved) : Option Resolved := (apO s99.groups [x98]).bind fun z140 => some ({ key := s99.key, faces := s99.faces, groups := s99.groups ++ [x98] } : Resolved)
def F17_Of (a0 : Resolved) : Option Resolved := (F40_Of a0.faces).bind fun y12 => (runAO F17_Of_b1 a0.groups ({ key := a0.key, faces := y12, groups := [] } : Resolved)).bind fun (s155 : Resolved) => some s155
def F32_id (a0 : Group) : Id := ({ name := a0.name, six := a0.six, localF := a0.localF } : Id)
def F31_1 (a0 : Group) (a1 : Face) : Bool := lt (F32_id a0) fun y13 => lt (F25_faced a1) fun y17 => decide (y13 = y17)
def F30_Group_b1 (a1 : (Group → Bool)) (x10 : Group) (s11 : Nat) : Step Int Nat := (if (a1 x10) = true then .ret ((s11 : Nat) : Int) else .next (s11 + 1))
def F30_Group (a0 : (List Group)) (a1 : (Group → Bool)) : Int := lt (runB (F30_Group_b1 a1) a0 0) fun o => o.elim (fun r => r) fun (s34 : Nat) => (-1)
def F11_Of (a0 : Resolved) (a1 : Face) : Option (Group × Bool) := lt (F30_Group a0.groups (fun x0 => F31_1 x0 a1)) fun y16 => (if (decide (y16 < 0)) = true then some (({ name := ⟨#[]⟩, proto := 0, six := false, localF := false, points := [] } : Group), false) else (ixO a0.groups y16).bind fun y30 => (F33_Point y30.points).bind fun y47 => some (({ name := y30.name, proto := y30.proto, six := y30.six, localF := y30.localF, points := y47 } : Group), true))
def F22_Find_b1 (a1 : ByteArray) (a2 : Bool) (a3 : Bool) (x10 : Group) (s11 : Nat) : Step Int Nat := lt ((decide (x10.name = a1)) && (x10.six == a2)) fun b38 => lt (b38 && (x10.localF == a3)) fun b44 => (if b44 = true then .ret ((s11 : Nat) : Int) else .next (s11 + 1))
def F22_Find (a0 : (List Group)) (a1 : ByteArray) (a2 : Bool) (a3 : Bool) : Int := lt (runB (F22_Find_b1 a1 a2 a3) a0 0) fun o => o.elim (fun r => r) fun (s55 : Nat) => (-1)
def F21_SamePoin_b1 (a1 : (List Point)) (x11 : Point) (s12 : Nat) : Option (Step Bool Nat) := (ixO a1 ((s12 : Nat) : Int)).bind fun y31 => (if (!decide (x11 = y31)) = true then some (.ret false) else some (.next (s12 + 1)))
def F21_SamePoin (a0 : (List Point)) (a1 : (List Point)) : Option Bool := (if (!decide (((a0.length : Nat) : Int) = ((a1.length : Nat) : Int))) = true then some false else (runBO (F21_SamePoin_b1 a1) a0 0).bind fun o => o.elim (fun r => some r) fun (s64 : Nat) => some true)
def F19_Allowed_b1 (a0 : Resolved) (a1 : Int) (a2 : Point) (x18 : Face) (s19 : Unit) : Option (Step ((List Point) × Bool) Unit) := lt ((decide (x18.proto = a1)) && (decide (x18.point = a2))) fun b44 => (if b44 = true then (F11_Of a0 x18).bind fun y51 => some (.ret (y51.1.points, true)) else some (.next ()))
def F19_Allowed (a0 : Resolved) (a1 : Int) (a2 : Point) : Option ((List Point) × Bool) := (runBO (F19_Allowed_b1 a0 a1 a2) a0.faces ()).bind fun o => o.elim (fun r => some r) fun (s72 : Unit) => some ([], false)
def F20_Allowed_b1 (a0 : Resolved) (a1 : Int) (a2 : Point) (x18 : Face) (s19 : Unit) : Option (Step ((List Point) × Bool) Unit) := lt ((decide (x18.proto = a1)) && (decide (x18.point = a2))) fun b44 => (if b44 = true then lt (F22_Find a0.groups x18.name x18.point.addr.six x18.localF) fun y51 => (if (decide (y51 < 0)) = true then some (.ret ([], true)) else (ixO a0.groups y51).bind fun y61 => some (.ret (y61.points, true))) else some (.next ()))
def F20_Allowed (a0 : Resolved) (a1 : Int) (a2 : Point) : Option ((List Point) × Bool) := (runBO (F20_Allowed_b1 a0 a1 a2) a0.faces ()).bind fun o => o.elim (fun r => some r) fun (s71 : Unit) => some ([], false)
def F41_Face_b1 (a1 : (List Face)) (x11 : Face) (s12 : Nat) : Option (Step Bool Nat) := (ixO a1 ((s12 : Nat) : Int)).bind fun y31 => (if (!decide (x11 = y31)) = true then some (.ret false) else some (.next (s12 + 1)))
def F41_Face (a0 : (List Face)) (a1 : (List Face)) : Option Bool := (if (!decide (((a0.length : Nat) : Int) = ((a1.length : Nat) : Int))) = true then some false else (runBO (F41_Face_b1 a1) a0 0).bind fun o => o.elim (fun r => some r) fun (s64 : Nat) => some true)
def F41_Face_t (a0 : (List Face)) (a1 : (List Face)) : Bool := decide (a0 = a1)
def F42_Group_b1 (a1 : (List Group)) (a2 : (Group → Group → Bool)) (x11 : Group) (s12 : Nat) : Option (Step Bool Nat) := (ixO a1 ((s12 : Nat) : Int)).bind fun y43 => (if (!(a2 x11 y43)) = true then some (.ret false) else some (.next (s12 + 1)))
def F42_Group (a0 : (List Group)) (a1 : (List Group)) (a2 : (Group → Group → Bool)) : Option Bool := (if (!decide (((a0.length : Nat) : Int) = ((a1.length : Nat) : Int))) = true then some false else (runBO (F42_Group_b1 a1 a2) a0 0).bind fun o => o.elim (fun r => some r) fun (s68 : Nat) => some true)
def F59_Point_b1 (a1 : (List Point)) (x11 : Point) (s12 : Nat) : Option (Step Bool Nat) := (ixO a1 ((s12 : Nat) : Int)).bind fun y31 => (if (!decide (x11 = y31)) = true then some (.ret false) else some (.next (s12 + 1)))
def F59_Point (a0 : (List Point)) (a1 : (List Point)) : Option Bool := (if (!decide (((a0.length : Nat) : Int) = ((a1.length : Nat) : Int))) = true then some false else (runBO (F59_Point_b1 a1) a0 0).bind fun o => o.elim (fun r => some r) fun (s64 : Nat) => some true)
def F59_Point_t (a0 : (List Point)) (a1 : (List Point)) : Bool := decide (a0 = a1)
def F43_sameGrou (a0 : Group) (a1 : Group) : Bool := lt (F32_id a0) fun y11 => lt (F32_id a1) fun y15 => lt (((decide (y11 = y15)) && (decide (a0.proto = a1.proto)))) fun b17 => lt ((b17 && (lt (F59_Point_t a0.points a1.points) fun y21 => y21))) fun b23 => b23
def F18_Same (a0 : Resolved) (a1 : Resolved) : Option Bool := lt ((decide (a0.key = a1.key)) && (lt (F41_Face_t a0.faces a1.faces) fun y13 => y13)) fun b11 => (andO b11 ((F42_Group a0.groups a1.groups (fun x0 x1 => F43_sameGrou x0 x1)).bind fun y23 => some y23)).bind fun b21 => some b21
def F39_Same_b1 (a1 : (List Face)) (x11 : Face) (s12 : Nat) : Option (Step Bool Nat) := (ixO a1 ((s12 : Nat) : Int)).bind fun y31 => (if (!decide (x11 = y31)) = true then some (.ret false) else some (.next (s12 + 1)))
def F39_Same (a0 : (List Face)) (a1 : (List Face)) : Option Bool := (if (!decide (((a0.length : Nat) : Int) = ((a1.length : Nat) : Int))) = true then some false else (runBO (F39_Same_b1 a1) a0 0).bind fun o => o.elim (fun r => some r) fun (s64 : Nat) => some true)
def F16_Same_b1 (a1 : Resolved) (x35 : Group) (s36 : Nat) : Option (Step Bool Nat) := (ixO a1.groups ((s36 : Nat) : Int)).bind fun y67 => lt ((!decide (x35.name = y67.name)) || (!decide (x35.proto = y67.proto))) fun b84 => lt (b84 || (!(x35.six == y67.six))) fun b90 => lt (b90 || (!(x35.localF == y67.localF))) fun b96 => (orO b96 ((F21_SamePoin x35.points y67.points).bind fun y104 => some (!y104))).bind fun b102 => (if b102 = true then some (.ret false) else some (.next (s36 + 1)))
def F16_Same (a0 : Resolved) (a1 : Resolved) : Option Bool := (orO (!decide (a0.key = a1.key)) ((F39_Same a0.faces a1.faces).bind fun y13 => some (!y13))).bind fun b11 => lt (b11 || (!decide (((a0.groups.length : Nat) : Int) = ((a1.groups.length : Nat) : Int)))) fun b21 => (if b21 = true then some false else (runBO (F16_Same_b1 a1) a0.groups 0).bind fun o => o.elim (fun r => some r) fun (s118 : Nat) => some true)
def F5_ResolveR_b1  (x127 : Group) (s128 : Unit) : Step Bool Unit := lt ((decide (((x127.points.length : Nat) : Int) > 60)) || (decide (((x127.name.size : Nat) : Int) > 100))) fun b155 => (if b155 = true then .ret true else .next ())
noncomputable def F5_ResolveR (a0 : Resolved) (a1 : Resolved) (a2 : Face) : Option Bool := (F6_alive).bind fun y15 => (if (!y15) = true then some false else lt ((decide (((a0.faces.length : Nat) : Int) > 30)) || (decide (((a1.faces.length : Nat) : Int) > 30))) fun b20 => lt (b20 || (decide (((a0.groups.length : Nat) : Int) > 30))) fun b26 => lt (b26 || (decide (((a1.groups.length : Nat) : Int) > 30))) fun b32 => lt (b32 || (decide (((a2.name.size : Nat) : Int) > 100))) fun b38 => (if b38 = true then some true else (apO [] a0.groups).bind fun z56 => (apO ([] ++ a0.groups) a1.groups).bind fun z66 => lt (runB F5_ResolveR_b1 (([] ++ a0.groups) ++ a1.groups) ()) fun o => o.elim (fun r => some r) fun (s166 : Unit) => (F17_Of a0).bind fun y169 => (F17_Of a1).bind fun y177 => (F11_Of a0 a2).bind fun y271 => lt (F22_Find y169.groups a2.name a2.point.addr.six a2.localF) fun y289 => (orO (!(y271.2 == (decide (y289 ≥ 0)))) ((andO y271.2 ((ixO y169.groups y289).bind fun y297 => (F21_SamePoin y271.1.points y297.points).bind fun y303 => some (!y303))).bind fun b305 => some b305)).bind fun b307 => (if b307 = true then some false else (F19_Allowed a0 a2.proto a2.point).bind fun y409 => (F20_Allowed y169 a2.proto a2.point).bind fun y415 => (andO (y409.2 == y415.2) ((F21_SamePoin y409.1 y415.1).bind fun y421 => some y421)).bind fun b423 => (andO b423 ((F18_Same a0 a1).bind fun y427 => (F16_Same y169 y177).bind fun y431 => some (y427 == y431))).bind fun b433 => some b433)))
def F37_ports_b1  (x18 : Port) (s19 : (List Port)) : Option (List Port) := (apO s19 [x18]).bind fun z56 => some (s19 ++ [x18])
def F37_ports (a0 : (List Port)) : Option (List Port) := (runAO F37_ports_b1 a0 []).bind fun (s64 : (List Port)) => some s64
def F38_Slice_b1  (x110 : Endpoint) (s111 : Slice) : Option Slice := (apO s111.endpoints [x110]).bind fun z152 => some ({ key := s111.key, service := s111.service, six := s111.six, ports := s111.ports, endpoints := s111.endpoints ++ [x110] } : Slice)
def F38_Slice (a0 : Slice) : Option Slice := (F37_ports a0.ports).bind fun y12 => (runAO F38_Slice_b1 a0.endpoints ({ key := a0.key, service := a0.service, six := a0.six, ports := y12, endpoints := [] } : Slice)).bind fun (s167 : Slice) => some s167
def F14_Slices_b1  (x18 : Slice) (s19 : (List Slice)) : Option (List Slice) := (F38_Slice x18).bind fun y49 => (apO s19 [y49]).bind fun z68 => some (s19 ++ [y49])
def F102_less (a0 : Int) (a1 : Int) : Int := (if (decide (a0 < a1)) = true then (-1) else (if (decide (a0 > a1)) = true then 1 else 0))
def F106_Compare_b1 (a0 : Addr) (a1 : Addr) (s22 : Int) : Option (Step Int Int) := (if (decide (s22 < 16)) = true then (ixO (A16u8.list a0.b) s22).bind fun y30 => (ixO (A16u8.list a1.b) s22).bind fun y34 => (if (decide (y30 < y34)) = true then some (.ret (-1)) else (ixO (A16u8.list a0.b) s22).bind fun y57 => (ixO (A16u8.list a1.b) s22).bind fun y61 => (if (decide (y57 > y61)) = true then some (.ret 1) else some (.next (IntKind.i64.wrap (s22 + 1))))) else some (.fin s22))
def F106_Compare (a0 : Addr) (a1 : Addr) : Option Int := (if (!(a0.six == a1.six)) = true then (if a0.six = true then some 1 else some (-1)) else (runW (F106_Compare_b1 a0 a1) FUEL 0).bind fun o => o.elim (fun r => some r) fun (s86 : Int) => some 0)
def F84_Compare (a0 : Point) (a1 : Point) : Option Int := (F106_Compare a0.addr a1.addr).bind fun y11 => (if (!decide (y11 = 0)) = true then some y11 else (if (decide (a0.port < a1.port)) = true then some (-1) else (if (decide (a0.port > a1.port)) = true then some 1 else some 0)))
def F103_n (a0 : Bool) : Int := (if a0 = true then 1 else 0)
def F81_Compare (a0 : Face) (a1 : Face) : Option Int := lt (F102_less a0.proto a1.proto) fun y11 => (if (!decide (y11 = 0)) = true then some y11 else (F84_Compare a0.point a1.point).bind fun y16 => (if (!decide (y16 = 0)) = true then some y16 else (if (Op.bytesLess a0.name.toList a1.name.toList) = true then some (-1) else (if (!(Op.bytesLess a0.name.toList a1.name.toList || decide (a0.name = a1.name))) = true then some 1 else lt (F102_less a0.how a1.how) fun y23 => (if (!decide (y23 = 0)) = true then some y23 else lt (F103_n a0.localF) fun y28 => lt (F103_n a1.localF) fun y32 => lt (F102_less y28 y32) fun y36 => (if (!decide (y36 = 0)) = true then some y36 else lt (F103_n a0.asked) fun y57 => lt (F103_n a1.asked) fun y61 => lt (F102_less y57 y61) fun y65 => some y65))))))
def F55_Sort_b2 (x6 : (List Face)) (x18 : Face) (s55 : Int) : Option (Step Empty Int) := (andO (decide (s55 > 0)) ((ixO x6 (IntKind.i64.wrap (s55 - 1))).bind fun y66 => (F81_Compare x18 y66).bind fun y70 => some (decide (y70 < 0)))).bind fun b72 => (if b72 = true then some (.next (IntKind.i64.wrap (s55 - 1))) else some (.fin s55))
def F55_Sort_b1  (x18 : Face) (s19 : (List Face)) : Option (List Face) := (runW (F55_Sort_b2 s19 x18) FUEL ((s19.length : Nat) : Int)).bind fun o => o.elim (fun r => r.elim) fun (s135 : Int) => (andO (decide (s135 > 0)) ((ixO s19 (IntKind.i64.wrap (s135 - 1))).bind fun y142 => some (decide (y142 = x18)))).bind fun b144 => (if b144 = true then some s19 else (slO s19 0 s135).bind fun y206 => (apO [] y206).bind fun z218 => (apO ([] ++ y206) [x18]).bind fun z234 => (slO s19 s135 ((s19.length : Nat) : Int)).bind fun y237 => (apO (([] ++ y206) ++ [x18]) y237).bind fun z249 => some ((([] ++ y206) ++ [x18]) ++ y237))
def F55_Sort (a0 : (List Face)) : Option (List Face) := (runAO F55_Sort_b1 a0 []).bind fun (s350 : (List Face)) => some s350
def F34_Faces_b2 (a0 : Service) (x26 : Port) (x64 : Addr) (s65 : (List Face)) : Option (List Face) := (apO s65 [({ proto := x26.proto, point := ({ addr := x64, port := x26.port } : Point), name := x26.name, how := 0, localF := a0.internalLocal, asked := false } : Face)]).bind fun z103 => some (s65 ++ [({ proto := x26.proto, point := ({ addr := x64, port := x26.port } : Point), name := x26.name, how := 0, localF := a0.internalLocal, asked := false } : Face)])
def F34_Faces_b3 (a0 : Service) (x26 : Port) (x126 : Addr) (s127 : (List Face)) : Option (List Face) := (apO s127 [({ proto := x26.proto, point := ({ addr := x126, port := x26.port } : Point), name := x26.name, how := 1, localF := a0.externalLocal, asked := false } : Face)]).bind fun z165 => some (s127 ++ [({ proto := x26.proto, point := ({ addr := x126, port := x26.port } : Point), name := x26.name, how := 1, localF := a0.externalLocal, asked := false } : Face)])
def F34_Faces_b4 (a0 : Service) (x26 : Port) (x188 : Addr) (s189 : (List Face)) : Option (List Face) := (apO s189 [({ proto := x26.proto, point := ({ addr := x188, port := x26.port } : Point), name := x26.name, how := 2, localF := a0.externalLocal, asked := decide (((a0.ranges.length : Nat) : Int) > 0) } : Face)]).bind fun z227 => some (s189 ++ [({ proto := x26.proto, point := ({ addr := x188, port := x26.port } : Point), name := x26.name, how := 2, localF := a0.externalLocal, asked := decide (((a0.ranges.length : Nat) : Int) > 0) } : Face)])
def F34_Faces_b5 (a0 : Service) (x26 : Port) (x250 : Addr) (s251 : (List Face)) : Option (List Face) := (if (!decide (x26.outer = 0)) = true then (apO s251 [({ proto := x26.proto, point := ({ addr := x250, port := x26.outer } : Point), name := x26.name, how := 3, localF := a0.externalLocal, asked := false } : Face)]).bind fun z290 => some (s251 ++ [({ proto := x26.proto, point := ({ addr := x250, port := x26.outer } : Point), name := x26.name, how := 3, localF := a0.externalLocal, asked := false } : Face)]) else some s251)
def F34_Faces_b1 (a0 : Service) (a1 : Node) (x26 : Port) (s27 : (List Face)) : Option (List Face) := (runAO (F34_Faces_b2 a0 x26) a0.cluster s27).bind fun (s112 : (List Face)) => (runAO (F34_Faces_b3 a0 x26) a0.external s112).bind fun (s174 : (List Face)) => (runAO (F34_Faces_b4 a0 x26) a0.balancers s174).bind fun (s236 : (List Face)) => (runAO (F34_Faces_b5 a0 x26) a1.addrs s236).bind fun (s300 : (List Face)) => some s300
def F34_Faces_b7 (x326 : Face) (x366 : Face) (s367 : Bool) : Bool := lt (s367 && (lt ((decide (x366.proto = x326.proto)) && (decide (x366.point = x326.point))) fun b396 => !b396)) fun b394 => b394
def F34_Faces_b6 (x14 : (List Face)) (x14 : (List Face)) (x326 : Face) (s327 : Nat × (List Face)) : Option (Nat × (List Face)) := (slO x14 0 ((s327.1 : Nat) : Int)).bind fun y351 => lt (runA (F34_Faces_b7 x326) y351 true) fun (s409 : Bool) => (if s409 = true then (apO s327.2 [x326]).bind fun z424 => some ((s327.1 + 1), s327.2 ++ [x326]) else some ((s327.1 + 1), s327.2))
def F34_Faces (a0 : Service) (a1 : Node) : Option (List Face) := (runAO (F34_Faces_b1 a0 a1) a0.ports []).bind fun (s306 : (List Face)) => (runAO (F34_Faces_b6 s306 s306) s306 (0, [])).bind fun (s433 : Nat × (List Face)) => (F55_Sort s433.2).bind fun y437 => some y437
def F57_Candidat_b3 (a1 : Want) (x22 : Slice) (x64 : Port) (x105 : Endpoint) (s106 : (List Candidate)) : Option (List Candidate) := lt ((x22.six == a1.six) && (decide (x64.name = a1.name))) fun b136 => lt (b136 && (decide (x64.proto = a1.proto))) fun b142 => (if b142 = true then lt ((decide (((x105.node.size : Nat) : Int) > 0)) && (decide (x105.node = a1.node))) fun b149 => (apO s106 [({ point := ({ addr := x105.addr, port := x64.port } : Point), localF := b149, ready := x105.ready, serving := x105.serving, terminating := x105.terminating, zones := x105.zones } : Candidate)]).bind fun z180 => some (s106 ++ [({ point := ({ addr := x105.addr, port := x64.port } : Point), localF := b149, ready := x105.ready, serving := x105.serving, terminating := x105.terminating, zones := x105.zones } : Candidate)]) else some s106)
def F57_Candidat_b2 (a1 : Want) (x22 : Slice) (x64 : Port) (s65 : (List Candidate)) : Option (List Candidate) := (runAO (F57_Candidat_b3 a1 x22 x64) x22.endpoints s65).bind fun (s193 : (List Candidate)) => some s193
def F57_Candidat_b1 (a1 : Want) (x22 : Slice) (s23 : (List Candidate)) : Option (List Candidate) := (runAO (F57_Candidat_b2 a1 x22) x22.ports s23).bind fun (s199 : (List Candidate)) => some s199
def F57_Candidat_b5 (x225 : Candidate) (x267 : Candidate) (s268 : Bool) : Bool := lt (s268 && (!decide (x267.point = x225.point))) fun b297 => b297
def F57_Candidat_b4 (x10 : (List Candidate)) (x10 : (List Candidate)) (x225 : Candidate) (s226 : Nat × (List Candidate)) : Option (Nat × (List Candidate)) := (slO x10 0 ((s226.1 : Nat) : Int)).bind fun y252 => lt (runA (F57_Candidat_b5 x225) y252 true) fun (s306 : Bool) => (if s306 = true then (apO s226.2 [x225]).bind fun z321 => some ((s226.1 + 1), s226.2 ++ [x225]) else some ((s226.1 + 1), s226.2))
def F57_Candidat (a0 : (List Slice)) (a1 : Want) : Option (List Candidate) := (runAO (F57_Candidat_b1 a1) a0 []).bind fun (s205 : (List Candidate)) => (runAO (F57_Candidat_b4 s205 s205) s205 (0, [])).bind fun (s330 : Nat × (List Candidate)) => some s330.2
def F82_Usable_b1  (x28 : Candidate) (s29 : (List Candidate) × (List Candidate)) : Option ((List Candidate) × (List Candidate)) := (if x28.ready = true then (apO s29.1 [x28]).bind fun z70 => lt (x28.serving && x28.terminating) fun b76 => (if b76 = true then (apO s29.2 [x28]).bind fun z94 => some (s29.1 ++ [x28], s29.2 ++ [x28]) else some (s29.1 ++ [x28], s29.2)) else lt (x28.serving && x28.terminating) fun b102 => (if b102 = true then (apO s29.2 [x28]).bind fun z120 => some (s29.1, s29.2 ++ [x28]) else some (s29.1, s29.2)))
def F82_Usable (a0 : (List Candidate)) : Option (List Candidate) := (runAO F82_Usable_b1 a0 ([], [])).bind fun (s130 : (List Candidate) × (List Candidate)) => (if (decide (((s130.1.length : Nat) : Int) > 0)) = true then some s130.1 else some s130.2)
def F105_Meant_b1 (a1 : ByteArray) (x14 : ByteArray) (s15 : Unit) : Step Bool Unit := (if (decide (x14 = a1)) = true then .ret true else .next ())
def F105_Meant (a0 : Candidate) (a1 : ByteArray) : Bool := lt (runB (F105_Meant_b1 a1) a0.zones ()) fun o => o.elim (fun r => r) fun (s34 : Unit) => false
def F104_Count_b1 (a1 : ByteArray) (x12 : Candidate) (s13 : Bool × Bool) : Bool × Bool := (if x12.ready = true then lt (s13.1 || (lt (F105_Meant x12 a1) fun y43 => y43)) fun b41 => lt (s13.2 || (decide (((x12.zones.length : Nat) : Int) = 0))) fun b51 => (b41, b51) else (s13.1, s13.2))
def F104_Count (a0 : (List Candidate)) (a1 : ByteArray) : Bool := lt (runA (F104_Count_b1 a1) a0 (false, false)) fun (s61 : Bool × Bool) => lt ((!decide (a1 = (⟨#[]⟩ : ByteArray))) && s61.1) fun b64 => lt (b64 && (!s61.2)) fun b70 => b70
def F83_Filter_b1 (a1 : ByteArray) (y8 : Bool) (x22 : Candidate) (s23 : (List Candidate)) : Option (List Candidate) := lt (x22.ready && (lt ((!y8) || (lt (F105_Meant x22 a1) fun y55 => y55)) fun b53 => b53)) fun b51 => (if b51 = true then (apO s23 [x22]).bind fun z79 => some (s23 ++ [x22]) else some s23)
def F83_Filter (a0 : (List Candidate)) (a1 : ByteArray) : Option (List Candidate) := lt (F104_Count a0 a1) fun y8 => (runAO (F83_Filter_b1 a1 y8) a0 []).bind fun (s88 : (List Candidate)) => some s88
def F56_Choose_b1  (x23 : Candidate) (s24 : (List Candidate)) : Option (List Candidate) := (if x23.localF = true then (apO s24 [x23]).bind fun z64 => some (s24 ++ [x23]) else some s24)
def F56_Choose (a0 : (List Candidate)) (a1 : Want) : Option (List Candidate) := (if a1.localF = true then (runAO F56_Choose_b1 a0 []).bind fun (s73 : (List Candidate)) => (F82_Usable s73).bind fun y77 => some y77 else (F83_Filter a0 a1.zone).bind fun y84 => lt (a1.hinted && (decide (((y84.length : Nat) : Int) > 0))) fun b91 => (if b91 = true then some y84 else (F82_Usable a0).bind fun y98 => some y98))
def F58_Sort_b2 (x6 : (List Point)) (x18 : Point) (s55 : Int) : Option (Step Empty Int) := (andO (decide (s55 > 0)) ((ixO x6 (IntKind.i64.wrap (s55 - 1))).bind fun y66 => (F84_Compare x18 y66).bind fun y70 => some (decide (y70 < 0)))).bind fun b72 => (if b72 = true then some (.next (IntKind.i64.wrap (s55 - 1))) else some (.fin s55))
def F58_Sort_b1  (x18 : Point) (s19 : (List Point)) : Option (List Point) := (runW (F58_Sort_b2 s19 x18) FUEL ((s19.length : Nat) : Int)).bind fun o => o.elim (fun r => r.elim) fun (s135 : Int) => (andO (decide (s135 > 0)) ((ixO s19 (IntKind.i64.wrap (s135 - 1))).bind fun y142 => some (decide (y142 = x18)))).bind fun b144 => (if b144 = true then some s19 else (slO s19 0 s135).bind fun y206 => (apO [] y206).bind fun z218 => (apO ([] ++ y206) [x18]).bind fun z234 => (slO s19 s135 ((s19.length : Nat) : Int)).bind fun y237 => (apO (([] ++ y206) ++ [x18]) y237).bind fun z249 => some ((([] ++ y206) ++ [x18]) ++ y237))
def F58_Sort (a0 : (List Point)) : Option (List Point) := (runAO F58_Sort_b1 a0 []).bind fun (s350 : (List Point)) => some s350
def F35_Points_b1  (x55 : Candidate) (s56 : (List Point)) : Option (List Point) := (apO s56 [x55.point]).bind fun z95 => some (s56 ++ [x55.point])
def F35_Points (a0 : (List Slice)) (a1 : Want) : Option (List Point) := (F57_Candidat a0 a1).bind fun y12 => (F56_Choose y12 a1).bind fun y18 => (runAO F35_Points_b1 y18 []).bind fun (s103 : (List Point)) => (F58_Sort s103).bind fun y107 => some y107
end Go.Proofs.YtgcneihmkkldeaaGreat
