/- The functions of this program, printed as plain Lean functions (the specification side): no Go and no memory. Written by a program of this session. -/
import Derived.Test.YtejkknmedebgnaaS5
import GoSem.Dispatch
namespace Go.Proofs.Ytejkknmedebgnaa
open Go K
set_option linter.unusedVariables false
structure A16u8 where
  (e0 : Int)
  (e1 : Int)
  (e2 : Int)
  (e3 : Int)
  (e4 : Int)
  (e5 : Int)
  (e6 : Int)
  (e7 : Int)
  (e8 : Int)
  (e9 : Int)
  (e10 : Int)
  (e11 : Int)
  (e12 : Int)
  (e13 : Int)
  (e14 : Int)
  (e15 : Int)
  deriving DecidableEq
def A16u8.z : A16u8 := ⟨0, 0, 0, 0, 0, 0, 0, 0, 0, 0, 0, 0, 0, 0, 0, 0⟩
def A16u8.list (x : A16u8) : List Int := [x.e0, x.e1, x.e2, x.e3, x.e4, x.e5, x.e6, x.e7, x.e8, x.e9, x.e10, x.e11, x.e12, x.e13, x.e14, x.e15]
structure Addr where
  (six : Bool)
  (b : A16u8)
  deriving DecidableEq
def Addr.z : Addr := ⟨false, A16u8.z⟩
structure Point where
  (addr : Addr)
  (port : Int)
  deriving DecidableEq
def Point.z : Point := ⟨Addr.z, 0⟩
structure Place where
  (proto : Int)
  (point : Point)
  deriving DecidableEq
def Place.z : Place := ⟨0, Point.z⟩
structure St72 where

  deriving DecidableEq
def St72.z : St72 := ⟨⟩
structure Face where
  (proto : Int)
  (point : Point)
  (name : ByteArray)
  (how : Int)
  (localF : Bool)
  (asked : Bool)
  deriving DecidableEq
def Face.z : Face := ⟨0, Point.z, ⟨#[]⟩, 0, false, false⟩
structure Row_2 where
  (seen : (List (Place × St72)))
  (list : (List Face))
  deriving DecidableEq
def Row_2.z : Row_2 := ⟨[], []⟩
structure Key where
  (space : ByteArray)
  (name : ByteArray)
  deriving DecidableEq
def Key.z : Key := ⟨⟨#[]⟩, ⟨#[]⟩⟩
structure Cidr where
  (addr : Addr)
  (bits : Int)
  deriving DecidableEq
def Cidr.z : Cidr := ⟨Addr.z, 0⟩
structure Port where
  (name : ByteArray)
  (proto : Int)
  (port : Int)
  (outer : Int)
  deriving DecidableEq
def Port.z : Port := ⟨⟨#[]⟩, 0, 0, 0⟩
structure Service where
  (key : Key)
  (kind : Int)
  (cluster : (List Addr))
  (external : (List Addr))
  (balancers : (List Addr))
  (ranges : (List Cidr))
  (ports : (List Port))
  (internalLocal : Bool)
  (externalLocal : Bool)
  (sticky : Bool)
  (ticks : Int)
  (hinted : Bool)
  deriving DecidableEq
def Service.z : Service := ⟨Key.z, 0, [], [], [], [], [], false, false, false, 0, false⟩
structure Node where
  (name : ByteArray)
  (zone : ByteArray)
  (addrs : (List Addr))
  deriving DecidableEq
def Node.z : Node := ⟨⟨#[]⟩, ⟨#[]⟩, []⟩
/-- (*lb/face.row).put -/
def F17_face_row_put (a0 : Row_2) (a1 : Face) : Option Row_2 := (if ((mget a0.seen ({ proto := a1.proto, point := a1.point } : Place)).isSome) = true then some a0 else (apO a0.list [a1]).bind fun z168 => some ({ seen := mput a0.seen ({ proto := a1.proto, point := a1.point } : Place) ({  } : St72), list := a0.list ++ [a1] } : Row_2))
/-- (*lb/face.row).all -/
def F13_face_row_all_b1  (x34 : Addr) (s35 : Row_2 × Face) : Option (Row_2 × Face) := (F17_face_row_put s35.1 ({ proto := s35.2.proto, point := ({ addr := x34, port := s35.2.point.port } : Point), name := s35.2.name, how := s35.2.how, localF := s35.2.localF, asked := s35.2.asked } : Face)).bind fun y71 => some (y71, ({ proto := s35.2.proto, point := ({ addr := x34, port := s35.2.point.port } : Point), name := s35.2.name, how := s35.2.how, localF := s35.2.localF, asked := s35.2.asked } : Face))
def F13_face_row_all (a0 : Row_2) (a1 : (List Addr)) (a2 : Face) : Option Row_2 := (runAO F13_face_row_all_b1 a1 (a0, a2)).bind fun (s95 : Row_2 × Face) => some s95.1
/-- slices.Clone[[]lb/face.Face,lb/face.Face] -/
def F18_slices_Clone_face_Face_face_Face (a0 : (List Face)) : Option (List Face) := (apO [] a0).bind fun z17 => some ([] ++ a0)
/-- slices.SortFunc[[]lb/face.Face,lb/face.Face] -/
noncomputable def F19_slices_SortFunc (a0 : (List Face)) (a1 : (Face → Face → Int)) : Option (List Face) := sortO a0 a1
/-- cmp.isNaN[int] -/
def F43_cmp_isNaN_int (a0 : Int) : Bool := !decide (a0 = a0)
/-- cmp.Compare[int] -/
def F26_cmp_Compare_int (a0 : Int) (a1 : Int) : Int := lt (F43_cmp_isNaN_int a0) fun y3 => lt (F43_cmp_isNaN_int a1) fun y7 => (if y3 = true then (if y7 = true then 0 else (-1)) else (if y7 = true then 1 else (if (decide (a0 < a1)) = true then (-1) else (if (decide (a0 > a1)) = true then 1 else 0))))
/-- bytes.Compare -/
def F52_bytes_Compare (a0 : (List Int)) (a1 : (List Int)) : Int := cmpB a0 a1
/-- lb/addr.Compare -/
def F44_addr_Compare (a0 : Addr) (a1 : Addr) : Int := (if (a0.six == a1.six) = true then lt (F52_bytes_Compare (A16u8.list a0.b) (A16u8.list a1.b)) fun y16 => y16 else (if a0.six = true then 1 else (-1)))
/-- cmp.Or[int] -/
def F25_cmp_Or_int_b1  (x10 : Int) (s11 : Unit) : Step Int Unit := (if (!decide (x10 = 0)) = true then .ret x10 else .next ())
def F25_cmp_Or_int (a0 : (List Int)) : Int := lt (runB F25_cmp_Or_int_b1 a0 ()) fun o => o.elim (fun r => r) fun (s30 : Unit) => 0
/-- lb/ports.Compare -/
def F27_ports_Compare (a0 : Point) (a1 : Point) : Int := lt (F44_addr_Compare a0.addr a1.addr) fun y11 => lt (F26_cmp_Compare_int a0.port a1.port) fun y15 => lt (F25_cmp_Or_int [y11, y15]) fun y24 => y24
/-- cmp.isNaN[string] -/
def F45_cmp_isNaN_string (a0 : ByteArray) : Bool := !decide (a0 = a0)
/-- cmp.Compare[string] -/
def F28_cmp_Compare_string (a0 : ByteArray) (a1 : ByteArray) : Int := lt (F45_cmp_isNaN_string a0) fun y3 => lt (F45_cmp_isNaN_string a1) fun y7 => (if y3 = true then (if y7 = true then 0 else (-1)) else (if y7 = true then 1 else (if (Op.bytesLess a0.toList a1.toList) = true then (-1) else (if (!(Op.bytesLess a0.toList a1.toList || decide (a0 = a1))) = true then 1 else 0))))
/-- lb/face.truth -/
def F29_face_truth (a0 : Bool) (a1 : Bool) : Int := (if (a0 == a1) = true then 0 else (if a0 = true then 1 else (-1)))
/-- lb/face.Compare -/
def F20_face_Compare (a0 : Face) (a1 : Face) : Int := lt (F26_cmp_Compare_int a0.proto a1.proto) fun y11 => lt (F27_ports_Compare a0.point a1.point) fun y15 => lt (F28_cmp_Compare_string a0.name a1.name) fun y19 => lt (F26_cmp_Compare_int a0.how a1.how) fun y23 => lt (F29_face_truth a0.localF a1.localF) fun y27 => lt (F29_face_truth a0.asked a1.asked) fun y31 => lt (F25_cmp_Or_int [y11, y15, y19, y23, y27, y31]) fun y40 => y40
/-- slices.Compact[[]lb/face.Face,lb/face.Face] -/
def F21_slices_Compact_face_Face_face_Face_b2 (x2 : Int) (y64 : (List Face)) (s82 : Int × Int × (List Face)) : Option (Step Empty (Int × Int × (List Face))) := (if (decide (s82.2.1 < ((y64.length : Nat) : Int))) = true then (ixO (s82.2.2.drop x2.toNat) s82.2.1).bind fun y94 => (ixO (s82.2.2.drop x2.toNat) (IntKind.i64.wrap (s82.2.1 - 1))).bind fun y102 => (if (!decide (y94 = y102)) = true then (ixO (s82.2.2.drop x2.toNat) s82.2.1).bind fun y137 => (ixO s82.2.2 s82.1).bind fun y145 => some (.next (IntKind.i64.wrap (s82.1 + 1), IntKind.i64.wrap (s82.2.1 + 1), s82.2.2.set s82.1.toNat y137)) else some (.next (s82.1, IntKind.i64.wrap (s82.2.1 + 1), s82.2.2))) else some (.fin (s82.1, s82.2.1, s82.2.2)))
def F21_slices_Compact_face_Face_face_Face_b1  (s15 : Int × (List Face)) : Option (Step (List Face) (Int × (List Face))) := (if (decide (s15.1 < ((s15.2.length : Nat) : Int))) = true then (ixO s15.2 s15.1).bind fun y27 => (ixO s15.2 (IntKind.i64.wrap (s15.1 - 1))).bind fun y35 => (if (decide (y27 = y35)) = true then (slO s15.2 s15.1 ((s15.2.length : Nat) : Int)).bind fun y64 => (runW (F21_slices_Compact_face_Face_face_Face_b2 s15.1 y64) FUEL (s15.1, 1, s15.2)).bind fun o => o.elim (fun r => r.elim) fun (s155 : Int × Int × (List Face)) => (slO s155.2.2 s155.1 ((s155.2.2.length : Nat) : Int)).bind fun y156 => (slO (s155.2.2.take s155.1.toNat ++ List.replicate (s155.2.2.length - s155.1.toNat) Face.z) 0 s155.1).bind fun y164 => some (.ret y164) else some (.next (IntKind.i64.wrap (s15.1 + 1), s15.2))) else some (.fin (s15.1, s15.2)))
def F21_slices_Compact_face_Face_face_Face (a0 : (List Face)) : Option (List Face) := (if (decide (((a0.length : Nat) : Int) < 2)) = true then some a0 else (runW F21_slices_Compact_face_Face_face_Face_b1 FUEL (1, a0)).bind fun o => o.elim (fun r => some r) fun (s176 : Int × (List Face)) => some s176.2)
/-- lb/face.Sort -/
noncomputable def F14_face_Sort (a0 : (List Face)) : Option (List Face) := (F18_slices_Clone_face_Face_face_Face a0).bind fun y3 => (F19_slices_SortFunc y3 (fun x0 x1 => F20_face_Compare x0 x1)).bind fun y13 => (F21_slices_Compact_face_Face_face_Face y13).bind fun y21 => some y21
/-- lb/face.Faces -/
def F7_face_Faces_b1 (a0 : Service) (a1 : Node) (x42 : Port) (s43 : Row_2) : Option Row_2 := (F13_face_row_all s43 a0.cluster ({ proto := x42.proto, point := ({ addr := Addr.z, port := x42.port } : Point), name := x42.name, how := 0, localF := a0.internalLocal, asked := false } : Face)).bind fun y88 => (F13_face_row_all y88 a0.external ({ proto := x42.proto, point := ({ addr := Addr.z, port := x42.port } : Point), name := x42.name, how := 1, localF := a0.externalLocal, asked := false } : Face)).bind fun y167 => (F13_face_row_all y167 a0.balancers ({ proto := x42.proto, point := ({ addr := Addr.z, port := x42.port } : Point), name := x42.name, how := 2, localF := a0.externalLocal, asked := decide (((a0.ranges.length : Nat) : Int) > 0) } : Face)).bind fun y258 => (if (!decide (x42.outer = 0)) = true then (F13_face_row_all y258 a1.addrs ({ proto := x42.proto, point := ({ addr := Addr.z, port := x42.outer } : Point), name := x42.name, how := 3, localF := a0.externalLocal, asked := false } : Face)).bind fun y365 => some y365 else some y258)
noncomputable def F7_face_Faces (a0 : Service) (a1 : Node) : Option (List Face) := (runAO (F7_face_Faces_b1 a0 a1) a0.ports ({ seen := ([] : (List (Place × St72))), list := [] } : Row_2)).bind fun (s389 : Row_2) => (F14_face_Sort s389.list).bind fun y392 => some y392
/-- lb/lblaw20.alive -/
noncomputable def F4_linkboylaw20_alive  : Option Bool := (F7_face_Faces ({ key := Key.z, kind := 0, cluster := [({ six := false, b := ({ e0 := 10, e1 := 0, e2 := 0, e3 := 1, e4 := 0, e5 := 0, e6 := 0, e7 := 0, e8 := 0, e9 := 0, e10 := 0, e11 := 0, e12 := 0, e13 := 0, e14 := 0, e15 := 0 } : A16u8) } : Addr)], external := [], balancers := [], ranges := [], ports := [({ name := (⟨#[104]⟩ : ByteArray), proto := 6, port := 80, outer := 0 } : Port)], internalLocal := false, externalLocal := false, sticky := false, ticks := 0, hinted := false } : Service) ({ name := ⟨#[]⟩, zone := ⟨#[]⟩, addrs := [] } : Node)).bind fun y23 => (andO (decide (((y23.length : Nat) : Int) = 1)) ((ixO y23 0).bind fun y33 => some (decide (y33 = ({ proto := 6, point := ({ addr := ({ six := false, b := ({ e0 := 10, e1 := 0, e2 := 0, e3 := 1, e4 := 0, e5 := 0, e6 := 0, e7 := 0, e8 := 0, e9 := 0, e10 := 0, e11 := 0, e12 := 0, e13 := 0, e14 := 0, e15 := 0 } : A16u8) } : Addr), port := 80 } : Point), name := (⟨#[104]⟩ : ByteArray), how := 0, localF := false, asked := false } : Face))))).bind fun b35 => some b35
/-- lb/lblaw13.LongService -/
def F5_linkboylaw13_LongService_b1  (x14 : Port) (s15 : Unit) : Step Bool Unit := (if (decide (((x14.name.size : Nat) : Int) > 400)) = true then .ret true else .next ())
def F5_linkboylaw13_LongService (a0 : Service) : Bool := lt (runB F5_linkboylaw13_LongService_b1 a0.ports ()) fun o => o.elim (fun r => r) fun (s44 : Unit) => lt ((decide (((a0.key.space.size : Nat) : Int) > 400)) || (decide (((a0.key.name.size : Nat) : Int) > 400))) fun b47 => lt (b47 || (decide (((a0.cluster.length : Nat) : Int) > 20))) fun b53 => lt (b53 || (decide (((a0.external.length : Nat) : Int) > 20))) fun b59 => lt (b59 || (decide (((a0.balancers.length : Nat) : Int) > 20))) fun b65 => lt (b65 || (decide (((a0.ranges.length : Nat) : Int) > 20))) fun b71 => lt (b71 || (decide (((a0.ports.length : Nat) : Int) > 20))) fun b77 => b77
/-- lb/lblaw13.LongNode -/
def F6_linkboylaw13_LongNode (a0 : Node) : Bool := lt ((decide (((a0.name.size : Nat) : Int) > 400)) || (decide (((a0.zone.size : Nat) : Int) > 400))) fun b7 => lt (b7 || (decide (((a0.addrs.length : Nat) : Int) > 20))) fun b13 => b13
/-- lb/lblaw20.Of -/
def F9_linkboylaw20_Of_b1  (x18 : Face) (s19 : (List Face)) : Option (List Face) := (apO s19 [x18]).bind fun z56 => some (s19 ++ [x18])
def F9_linkboylaw20_Of (a0 : (List Face)) : Option (List Face) := (runAO F9_linkboylaw20_Of_b1 a0 []).bind fun (s63 : (List Face)) => some s63
/-- lb/lblaw13.ports -/
def F16_linkboylaw13_ports_b1  (x18 : Port) (s19 : (List Port)) : Option (List Port) := (apO s19 [x18]).bind fun z56 => some (s19 ++ [x18])
def F16_linkboylaw13_ports (a0 : (List Port)) : Option (List Port) := (runAO F16_linkboylaw13_ports_b1 a0 []).bind fun (s63 : (List Port)) => some s63
/-- lb/lblaw13.Service -/
def F11_linkboylaw13_Service (a0 : Service) : Option Service := (F16_linkboylaw13_ports a0.ports).bind fun y12 => some ({ key := a0.key, kind := a0.kind, cluster := a0.cluster, external := a0.external, balancers := a0.balancers, ranges := a0.ranges, ports := y12, internalLocal := a0.internalLocal, externalLocal := a0.externalLocal, sticky := a0.sticky, ticks := a0.ticks, hinted := a0.hinted } : Service)
/-- lb/lblaw13.Node -/
def F12_linkboylaw13_Node (a0 : Node) : Node := a0
/-- lb/lbref20.less -/
def F30_linkboyref20_less (a0 : Int) (a1 : Int) : Int := (if (decide (a0 < a1)) = true then (-1) else (if (decide (a0 > a1)) = true then 1 else 0))
/-- lb/lbref02.Compare -/
def F46_linkboyref02_Compare_b1 (a0 : Addr) (a1 : Addr) (s22 : Int) : Option (Step Int Int) := (if (decide (s22 < 16)) = true then (ixO (A16u8.list a0.b) s22).bind fun y30 => (ixO (A16u8.list a1.b) s22).bind fun y34 => (if (decide (y30 < y34)) = true then some (.ret (-1)) else (ixO (A16u8.list a0.b) s22).bind fun y57 => (ixO (A16u8.list a1.b) s22).bind fun y61 => (if (decide (y57 > y61)) = true then some (.ret 1) else some (.next (IntKind.i64.wrap (s22 + 1))))) else some (.fin s22))
def F46_linkboyref02_Compare (a0 : Addr) (a1 : Addr) : Option Int := (if (!(a0.six == a1.six)) = true then (if a0.six = true then some 1 else some (-1)) else (runW (F46_linkboyref02_Compare_b1 a0 a1) FUEL 0).bind fun o => o.elim (fun r => some r) fun (s86 : Int) => some 0)
/-- lb/lbref04.Compare -/
def F31_linkboyref04_Compare (a0 : Point) (a1 : Point) : Option Int := (F46_linkboyref02_Compare a0.addr a1.addr).bind fun y11 => (if (!decide (y11 = 0)) = true then some y11 else (if (decide (a0.port < a1.port)) = true then some (-1) else (if (decide (a0.port > a1.port)) = true then some 1 else some 0)))
/-- lb/lbref20.n -/
def F32_linkboyref20_n (a0 : Bool) : Int := (if a0 = true then 1 else 0)
/-- lb/lbref20.Compare -/
def F22_linkboyref20_Compare (a0 : Face) (a1 : Face) : Option Int := lt (F30_linkboyref20_less a0.proto a1.proto) fun y11 => (if (!decide (y11 = 0)) = true then some y11 else (F31_linkboyref04_Compare a0.point a1.point).bind fun y16 => (if (!decide (y16 = 0)) = true then some y16 else (if (Op.bytesLess a0.name.toList a1.name.toList) = true then some (-1) else (if (!(Op.bytesLess a0.name.toList a1.name.toList || decide (a0.name = a1.name))) = true then some 1 else lt (F30_linkboyref20_less a0.how a1.how) fun y23 => (if (!decide (y23 = 0)) = true then some y23 else lt (F32_linkboyref20_n a0.localF) fun y28 => lt (F32_linkboyref20_n a1.localF) fun y32 => lt (F30_linkboyref20_less y28 y32) fun y36 => (if (!decide (y36 = 0)) = true then some y36 else lt (F32_linkboyref20_n a0.asked) fun y57 => lt (F32_linkboyref20_n a1.asked) fun y61 => lt (F30_linkboyref20_less y57 y61) fun y65 => some y65))))))
/-- lb/lbref20.Sort -/
def F15_linkboyref20_Sort_b2 (x6 : (List Face)) (x18 : Face) (s55 : Int) : Option (Step Empty Int) := (andO (decide (s55 > 0)) ((ixO x6 (IntKind.i64.wrap (s55 - 1))).bind fun y66 => (F22_linkboyref20_Compare x18 y66).bind fun y70 => some (decide (y70 < 0)))).bind fun b72 => (if b72 = true then some (.next (IntKind.i64.wrap (s55 - 1))) else some (.fin s55))
def F15_linkboyref20_Sort_b1  (x18 : Face) (s19 : (List Face)) : Option (List Face) := (runW (F15_linkboyref20_Sort_b2 s19 x18) FUEL ((s19.length : Nat) : Int)).bind fun o => o.elim (fun r => r.elim) fun (s135 : Int) => (andO (decide (s135 > 0)) ((ixO s19 (IntKind.i64.wrap (s135 - 1))).bind fun y142 => some (decide (y142 = x18)))).bind fun b144 => (if b144 = true then some s19 else (slO s19 0 s135).bind fun y204 => (apO [] y204).bind fun z216 => (apO ([] ++ y204) [x18]).bind fun z232 => (slO s19 s135 ((s19.length : Nat) : Int)).bind fun y235 => (apO (([] ++ y204) ++ [x18]) y235).bind fun z247 => some ((([] ++ y204) ++ [x18]) ++ y235))
def F15_linkboyref20_Sort (a0 : (List Face)) : Option (List Face) := (runAO F15_linkboyref20_Sort_b1 a0 []).bind fun (s346 : (List Face)) => some s346
/-- lb/lbref20.Faces -/
def F10_linkboyref20_Faces_b2 (a0 : Service) (x26 : Port) (x64 : Addr) (s65 : (List Face)) : Option (List Face) := (apO s65 [({ proto := x26.proto, point := ({ addr := x64, port := x26.port } : Point), name := x26.name, how := 0, localF := a0.internalLocal, asked := false } : Face)]).bind fun z103 => some (s65 ++ [({ proto := x26.proto, point := ({ addr := x64, port := x26.port } : Point), name := x26.name, how := 0, localF := a0.internalLocal, asked := false } : Face)])
def F10_linkboyref20_Faces_b3 (a0 : Service) (x26 : Port) (x125 : Addr) (s126 : (List Face)) : Option (List Face) := (apO s126 [({ proto := x26.proto, point := ({ addr := x125, port := x26.port } : Point), name := x26.name, how := 1, localF := a0.externalLocal, asked := false } : Face)]).bind fun z164 => some (s126 ++ [({ proto := x26.proto, point := ({ addr := x125, port := x26.port } : Point), name := x26.name, how := 1, localF := a0.externalLocal, asked := false } : Face)])
def F10_linkboyref20_Faces_b4 (a0 : Service) (x26 : Port) (x186 : Addr) (s187 : (List Face)) : Option (List Face) := (apO s187 [({ proto := x26.proto, point := ({ addr := x186, port := x26.port } : Point), name := x26.name, how := 2, localF := a0.externalLocal, asked := decide (((a0.ranges.length : Nat) : Int) > 0) } : Face)]).bind fun z225 => some (s187 ++ [({ proto := x26.proto, point := ({ addr := x186, port := x26.port } : Point), name := x26.name, how := 2, localF := a0.externalLocal, asked := decide (((a0.ranges.length : Nat) : Int) > 0) } : Face)])
def F10_linkboyref20_Faces_b5 (a0 : Service) (x26 : Port) (x247 : Addr) (s248 : (List Face)) : Option (List Face) := (if (!decide (x26.outer = 0)) = true then (apO s248 [({ proto := x26.proto, point := ({ addr := x247, port := x26.outer } : Point), name := x26.name, how := 3, localF := a0.externalLocal, asked := false } : Face)]).bind fun z287 => some (s248 ++ [({ proto := x26.proto, point := ({ addr := x247, port := x26.outer } : Point), name := x26.name, how := 3, localF := a0.externalLocal, asked := false } : Face)]) else some s248)
def F10_linkboyref20_Faces_b1 (a0 : Service) (a1 : Node) (x26 : Port) (s27 : (List Face)) : Option (List Face) := (runAO (F10_linkboyref20_Faces_b2 a0 x26) a0.cluster s27).bind fun (s111 : (List Face)) => (runAO (F10_linkboyref20_Faces_b3 a0 x26) a0.external s111).bind fun (s172 : (List Face)) => (runAO (F10_linkboyref20_Faces_b4 a0 x26) a0.balancers s172).bind fun (s233 : (List Face)) => (runAO (F10_linkboyref20_Faces_b5 a0 x26) a1.addrs s233).bind fun (s295 : (List Face)) => some s295
def F10_linkboyref20_Faces_b7 (x319 : Face) (x359 : Face) (s360 : Bool) : Bool := lt (s360 && (lt ((decide (x359.proto = x319.proto)) && (decide (x359.point = x319.point))) fun b389 => !b389)) fun b387 => b387
def F10_linkboyref20_Faces_b6 (x14 : (List Face)) (x14 : (List Face)) (x319 : Face) (s320 : Nat × (List Face)) : Option (Nat × (List Face)) := (slO x14 0 ((s320.1 : Nat) : Int)).bind fun y344 => lt (runA (F10_linkboyref20_Faces_b7 x319) y344 true) fun (s401 : Bool) => (if s401 = true then (apO s320.2 [x319]).bind fun z416 => some ((s320.1 + 1), s320.2 ++ [x319]) else some ((s320.1 + 1), s320.2))
def F10_linkboyref20_Faces (a0 : Service) (a1 : Node) : Option (List Face) := (runAO (F10_linkboyref20_Faces_b1 a0 a1) a0.ports []).bind fun (s300 : (List Face)) => (runAO (F10_linkboyref20_Faces_b6 s300 s300) s300 (0, [])).bind fun (s423 : Nat × (List Face)) => (F15_linkboyref20_Sort s423.2).bind fun y426 => some y426
/-- lb/lbref20.Same -/
def F8_linkboyref20_Same_b1 (a1 : (List Face)) (x11 : Face) (s12 : Nat) : Option (Step Bool Nat) := (ixO a1 ((s12 : Nat) : Int)).bind fun y31 => (if (!decide (x11 = y31)) = true then some (.ret false) else some (.next (s12 + 1)))
def F8_linkboyref20_Same (a0 : (List Face)) (a1 : (List Face)) : Option Bool := (if (!decide (((a0.length : Nat) : Int) = ((a1.length : Nat) : Int))) = true then some false else (runBO (F8_linkboyref20_Same_b1 a1) a0 0).bind fun o => o.elim (fun r => some r) fun (s64 : Nat) => some true)
/-- lb/lblaw20.FaceOf -/
def F3_linkboylaw20_FaceOf_b2 (x44 : Face) (x81 : Face) (s82 : Unit) : Step Bool Unit := lt ((decide (x81.proto = x44.proto)) && (decide (x81.point = x44.point))) fun b108 => (if b108 = true then .ret false else .next ())
def F3_linkboylaw20_FaceOf_b1 (y31 : (List Face)) (x44 : Face) (s45 : Nat) : Option (Step Bool Nat) := (slO y31 0 ((s45 : Nat) : Int)).bind fun y68 => lt (runB (F3_linkboylaw20_FaceOf_b2 x44) y68 ()) fun o => o.elim (fun r => some (.ret r)) fun (s119 : Unit) => some (.next (s45 + 1))
noncomputable def F3_linkboylaw20_FaceOf (a0 : Service) (a1 : Node) : Option Bool := (F4_linkboylaw20_alive).bind fun y11 => (if (!y11) = true then some false else lt (F5_linkboylaw13_LongService a0) fun y16 => lt (y16 || (lt (F6_linkboylaw13_LongNode a1) fun y22 => y22)) fun b20 => (if b20 = true then some true else (F7_face_Faces a0 a1).bind fun y31 => (runBO (F3_linkboylaw20_FaceOf_b1 y31) y31 0).bind fun o => o.elim (fun r => some r) fun (s124 : Nat) => (F9_linkboylaw20_Of y31).bind fun y127 => (F11_linkboylaw13_Service a0).bind fun y133 => lt (F12_linkboylaw13_Node a1) fun y147 => (F10_linkboyref20_Faces y133 y147).bind fun y153 => (F8_linkboyref20_Same y127 y153).bind fun y159 => some y159))
end Go.Proofs.Ytejkknmedebgnaa
