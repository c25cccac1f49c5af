/- The functions of this program, printed as plain Lean functions (the specification side): no Go and no memory. Written by a program of this session. -/
import Derived.Test.YteoaobiglodblaaS5
import GoSem.Dispatch
namespace Go.Proofs.Yteoaobiglodblaa
open Go K
set_option linter.unusedVariables false
structure A16u8 where
  (e0 : Int)
  (e1 : Int)
  (e2 : Int)
  (e3 : Int)
  (e4 : Int)
  (e5 : Int)
  (e6 : Int)
  (e7 : Int)
  (e8 : Int)
  (e9 : Int)
  (e10 : Int)
  (e11 : Int)
  (e12 : Int)
  (e13 : Int)
  (e14 : Int)
  (e15 : Int)
  deriving DecidableEq
def A16u8.z : A16u8 := ⟨0, 0, 0, 0, 0, 0, 0, 0, 0, 0, 0, 0, 0, 0, 0, 0⟩
def A16u8.list (x : A16u8) : List Int := [x.e0, x.e1, x.e2, x.e3, x.e4, x.e5, x.e6, x.e7, x.e8, x.e9, x.e10, x.e11, x.e12, x.e13, x.e14, x.e15]
structure Addr where
  (six : Bool)
  (b : A16u8)
  deriving DecidableEq
def Addr.z : Addr := ⟨false, A16u8.z⟩
structure Point where
  (addr : Addr)
  (port : Int)
  deriving DecidableEq
def Point.z : Point := ⟨Addr.z, 0⟩
structure Candidate where
  (point : Point)
  (localF : Bool)
  (ready : Bool)
  (serving : Bool)
  (terminating : Bool)
  (zones : (List ByteArray))
  deriving DecidableEq
def Candidate.z : Candidate := ⟨Point.z, false, false, false, false, []⟩
structure Key where
  (space : ByteArray)
  (name : ByteArray)
  deriving DecidableEq
def Key.z : Key := ⟨⟨#[]⟩, ⟨#[]⟩⟩
structure Port where
  (name : ByteArray)
  (proto : Int)
  (port : Int)
  (outer : Int)
  deriving DecidableEq
def Port.z : Port := ⟨⟨#[]⟩, 0, 0, 0⟩
structure Endpoint where
  (addr : Addr)
  (node : ByteArray)
  (ready : Bool)
  (serving : Bool)
  (terminating : Bool)
  (zones : (List ByteArray))
  deriving DecidableEq
def Endpoint.z : Endpoint := ⟨Addr.z, ⟨#[]⟩, false, false, false, []⟩
structure Slice where
  (key : Key)
  (service : ByteArray)
  (six : Bool)
  (ports : (List Port))
  (endpoints : (List Endpoint))
  deriving DecidableEq
def Slice.z : Slice := ⟨Key.z, ⟨#[]⟩, false, [], []⟩
structure Want where
  (name : ByteArray)
  (proto : Int)
  (six : Bool)
  (localF : Bool)
  (hinted : Bool)
  (node : ByteArray)
  (zone : ByteArray)
  deriving DecidableEq
def Want.z : Want := ⟨⟨#[]⟩, 0, false, false, false, ⟨#[]⟩, ⟨#[]⟩⟩
structure St79 where

  deriving DecidableEq
def St79.z : St79 := ⟨⟩
/-- slices.Clone[[]lb/hints.Candidate,lb/hints.Candidate] -/
def F42_slices_Clone_hints_Candidate_hints_Candi (a0 : (List Candidate)) : Option (List Candidate) := (apO [] a0).bind fun z17 => some ([] ++ a0)
/-- lb/pick.those$1 -/
def F43_pick_those_1 (a0 : Candidate) (a1 : (Candidate → Bool)) : Bool := !(a1 a0)
/-- slices.IndexFunc[[]lb/hints.Candidate,lb/hints.Candidate] -/
def F44_slices_IndexFunc_hints_Candidate_hints_C_b1 (a1 : (Candidate → Bool)) (x10 : Candidate) (s11 : Nat) : Step Int Nat := (if (a1 x10) = true then .ret ((s11 : Nat) : Int) else .next (s11 + 1))
def F44_slices_IndexFunc_hints_Candidate_hints_C (a0 : (List Candidate)) (a1 : (Candidate → Bool)) : Int := lt (runB (F44_slices_IndexFunc_hints_Candidate_hints_C_b1 a1) a0 0) fun o => o.elim (fun r => r) fun (s34 : Nat) => (-1)
/-- slices.DeleteFunc[[]lb/hints.Candidate,lb/hints.Candidate] -/
def F41_slices_DeleteFunc_hints_Candidate_hints__b1 (a1 : (Candidate → Bool)) (s20 : Int × Int × (List Candidate)) : Option (Step Empty (Int × Int × (List Candidate))) := (if (decide (s20.2.1 < ((s20.2.2.length : Nat) : Int))) = true then (ixO s20.2.2 s20.2.1).bind fun y32 => (if (!(a1 y32)) = true then (ixO s20.2.2 s20.1).bind fun y56 => some (.next (IntKind.i64.wrap (s20.1 + 1), IntKind.i64.wrap (s20.2.1 + 1), s20.2.2.set s20.1.toNat y32)) else some (.next (s20.1, IntKind.i64.wrap (s20.2.1 + 1), s20.2.2))) else some (.fin (s20.1, s20.2.1, s20.2.2)))
def F41_slices_DeleteFunc_hints_Candidate_hints_ (a0 : (List Candidate)) (a1 : (Candidate → Bool)) : Option (List Candidate) := lt (F44_slices_IndexFunc_hints_Candidate_hints_C a0 a1) fun y3 => (if (decide (y3 = (-1))) = true then some a0 else (runW (F41_slices_DeleteFunc_hints_Candidate_hints__b1 a1) FUEL (y3, IntKind.i64.wrap (y3 + 1), a0)).bind fun o => o.elim (fun r => r.elim) fun (s66 : Int × Int × (List Candidate)) => (slO s66.2.2 s66.1 ((s66.2.2.length : Nat) : Int)).bind fun y67 => (slO (s66.2.2.take s66.1.toNat ++ List.replicate (s66.2.2.length - s66.1.toNat) Candidate.z) 0 s66.1).bind fun y75 => some y75)
/-- lb/pick.those -/
def F25_pick_those (a0 : (List Candidate)) (a1 : (Candidate → Bool)) : Option (List Candidate) := (F42_slices_Clone_hints_Candidate_hints_Candi a0).bind fun y7 => (F41_slices_DeleteFunc_hints_Candidate_hints_ y7 (fun x0 => F43_pick_those_1 x0 a1)).bind fun y17 => some y17
/-- lb/pick.ready -/
def F26_pick_ready (a0 : Candidate) : Bool := a0.ready
/-- lb/pick.leaving -/
def F27_pick_leaving (a0 : Candidate) : Bool := lt (a0.serving && a0.terminating) fun b7 => b7
/-- lb/pick.Usable -/
def F11_pick_Usable (a0 : (List Candidate)) : Option (List Candidate) := (F25_pick_those a0 (fun x0 => F26_pick_ready x0)).bind fun y3 => (if (decide (((y3.length : Nat) : Int) > 0)) = true then some y3 else (F25_pick_those a0 (fun x0 => F27_pick_leaving x0)).bind fun y11 => some y11)
/-- lb/lblaw19.alive -/
def F6_linkboylaw19_alive  : Option Bool := (F11_pick_Usable [({ point := Point.z, localF := false, ready := false, serving := true, terminating := false, zones := [] } : Candidate), ({ point := Point.z, localF := false, ready := false, serving := true, terminating := true, zones := [] } : Candidate)]).bind fun y8 => (andO (decide (((y8.length : Nat) : Int) = 1)) ((ixO y8 0).bind fun y20 => some y20.terminating)).bind fun b14 => some b14
/-- lb/lbnum.Long -/
def F23_linkboynum_Long_b1 (a1 : Int) (x11 : ByteArray) (s12 : Int) : Step Bool Int := (if (decide (((x11.size : Nat) : Int) > a1)) = true then .ret true else (if (decide ((IntKind.i64.wrap (s12 + (IntKind.i64.wrap (1 + ((x11.size : Nat) : Int))))) > a1)) = true then .ret true else .next (IntKind.i64.wrap (s12 + (IntKind.i64.wrap (1 + ((x11.size : Nat) : Int)))))))
def F23_linkboynum_Long (a0 : (List ByteArray)) (a1 : Int) : Bool := lt (runB (F23_linkboynum_Long_b1 a1) a0 0) fun o => o.elim (fun r => r) fun (s33 : Int) => false
/-- lb/lblaw13.LongSlice -/
def F33_linkboylaw13_LongSlice_b1  (x14 : Port) (s15 : Unit) : Step Bool Unit := (if (decide (((x14.name.size : Nat) : Int) > 400)) = true then .ret true else .next ())
def F33_linkboylaw13_LongSlice_b2  (x54 : Endpoint) (s55 : Unit) : Step Bool Unit := lt ((decide (((x54.node.size : Nat) : Int) > 400)) || (lt (F23_linkboynum_Long x54.zones 400) fun y84 => y84)) fun b82 => (if b82 = true then .ret true else .next ())
def F33_linkboylaw13_LongSlice (a0 : Slice) : Bool := lt (runB F33_linkboylaw13_LongSlice_b1 a0.ports ()) fun o => o.elim (fun r => r) fun (s44 : Unit) => lt (runB F33_linkboylaw13_LongSlice_b2 a0.endpoints ()) fun o => o.elim (fun r => r) fun (s96 : Unit) => lt ((decide (((a0.key.space.size : Nat) : Int) > 400)) || (decide (((a0.key.name.size : Nat) : Int) > 400))) fun b99 => lt (b99 || (decide (((a0.service.size : Nat) : Int) > 400))) fun b105 => lt (b105 || (decide (((a0.ports.length : Nat) : Int) > 20))) fun b111 => lt (b111 || (decide (((a0.endpoints.length : Nat) : Int) > 30))) fun b117 => b117
/-- lb/lblaw19.Long -/
def F16_linkboylaw19_Long_b1  (x11 : Slice) (s12 : Unit) : Step Bool Unit := lt (F33_linkboylaw13_LongSlice x11) fun y41 => (if y41 = true then .ret true else .next ())
def F16_linkboylaw19_Long (a0 : (List Slice)) : Bool := (if (decide (((a0.length : Nat) : Int) > 20)) = true then true else lt (runB F16_linkboylaw19_Long_b1 a0 ()) fun o => o.elim (fun r => r) fun (s49 : Unit) => false)
/-- lb/lblaw19.long -/
def F8_linkboylaw19_long (a0 : Want) : Bool := lt ((decide (((a0.name.size : Nat) : Int) > 100)) || (decide (((a0.node.size : Nat) : Int) > 100))) fun b7 => lt (b7 || (decide (((a0.zone.size : Nat) : Int) > 100))) fun b13 => b13
/-- lb/lblaw13.ports -/
def F52_linkboylaw13_ports_b1  (x18 : Port) (s19 : (List Port)) : Option (List Port) := (apO s19 [x18]).bind fun z56 => some (s19 ++ [x18])
def F52_linkboylaw13_ports (a0 : (List Port)) : Option (List Port) := (runAO F52_linkboylaw13_ports_b1 a0 []).bind fun (s63 : (List Port)) => some s63
/-- lb/lblaw13.Slice -/
def F34_linkboylaw13_Slice_b1  (x109 : Endpoint) (s110 : Slice) : Option Slice := (apO s110.endpoints [x109]).bind fun z151 => some ({ key := s110.key, service := s110.service, six := s110.six, ports := s110.ports, endpoints := s110.endpoints ++ [x109] } : Slice)
def F34_linkboylaw13_Slice (a0 : Slice) : Option Slice := (F52_linkboylaw13_ports a0.ports).bind fun y12 => (runAO F34_linkboylaw13_Slice_b1 a0.endpoints ({ key := a0.key, service := a0.service, six := a0.six, ports := y12, endpoints := [] } : Slice)).bind fun (s165 : Slice) => some s165
/-- lb/lblaw17.Slices -/
def F17_linkboylaw17_Slices_b1  (x18 : Slice) (s19 : (List Slice)) : Option (List Slice) := (F34_linkboylaw13_Slice x18).bind fun y49 => (apO s19 [y49]).bind fun z68 => some (s19 ++ [y49])
def F17_linkboylaw17_Slices (a0 : (List Slice)) : Option (List Slice) := (runAO F17_linkboylaw17_Slices_b1 a0 []).bind fun (s75 : (List Slice)) => some s75
/-- lb/pick.Candidates$1 -/
def F35_pick_Candidates_1 (a0 : Candidate) (a1 : (List (Point × St79))) (a2 : (List Candidate)) : Option ((List (Point × St79)) × (List Candidate)) := (if (!((mget a1 a0.point).isSome)) = true then (apO a2 [a0]).bind fun z37 => some (mput a1 a0.point ({  } : St79), a2 ++ [a0]) else some (a1, a2))
/-- (lb/pick.Want).matches -/
def F36_pick_Want_matches (a0 : Want) (a1 : Port) : Bool := lt ((decide (a1.name = a0.name)) && (decide (a1.proto = a0.proto))) fun b11 => b11
/-- slices.Clone[[]string,string] -/
def F53_slices_Clone_string_string (a0 : (List ByteArray)) : Option (List ByteArray) := (apO [] a0).bind fun z17 => some ([] ++ a0)
/-- (lb/pick.Want).candidate -/
def F37_pick_Want_candidate (a0 : Want) (a1 : Endpoint) (a2 : Int) : Option Candidate := lt (((!decide (a1.node = (⟨#[]⟩ : ByteArray))) && (decide (a1.node = a0.node)))) fun b14 => (F53_slices_Clone_string_string a1.zones).bind fun y18 => some ({ point := ({ addr := a1.addr, port := a2 } : Point), localF := b14, ready := a1.ready, serving := a1.serving, terminating := a1.terminating, zones := y18 } : Candidate)
/-- lb/pick.Candidates -/
def F18_pick_Candidates_b3 (a1 : Want) (x117 : Port) (x184 : Endpoint) (s185 : (List Candidate) × (List (Point × St79))) : Option ((List Candidate) × (List (Point × St79))) := (F37_pick_Want_candidate a1 x184 x117.port).bind fun y218 => (F35_pick_Candidates_1 y218 s185.2 s185.1).bind fun y227 => some (y227.2, y227.1)
def F18_pick_Candidates_b2 (a1 : Want) (x56 : Slice) (x117 : Port) (s118 : (List Candidate) × (List (Point × St79))) : Option ((List Candidate) × (List (Point × St79))) := lt (F36_pick_Want_matches a1 x117) fun y148 => (if (!y148) = true then some (s118.1, s118.2) else (runAO (F18_pick_Candidates_b3 a1 x117) x56.endpoints (s118.1, s118.2)).bind fun (s256 : (List Candidate) × (List (Point × St79))) => some (s256.1, s256.2))
def F18_pick_Candidates_b1 (a1 : Want) (x56 : Slice) (s57 : (List Candidate) × (List (Point × St79))) : Option ((List Candidate) × (List (Point × St79))) := (if (!(x56.six == a1.six)) = true then some (s57.1, s57.2) else (runAO (F18_pick_Candidates_b2 a1 x56) x56.ports (s57.1, s57.2)).bind fun (s261 : (List Candidate) × (List (Point × St79))) => some (s261.1, s261.2))
def F18_pick_Candidates (a0 : (List Slice)) (a1 : Want) : Option (List Candidate) := (runAO (F18_pick_Candidates_b1 a1) a0 (([] : List Candidate), ([] : (List (Point × St79))))).bind fun (s266 : (List Candidate) × (List (Point × St79))) => some s266.1
/-- lb/lblaw18.Of -/
def F9_linkboylaw18_Of_b1  (x18 : Candidate) (s19 : (List Candidate)) : Option (List Candidate) := (apO s19 [x18]).bind fun z58 => some (s19 ++ [x18])
def F9_linkboylaw18_Of (a0 : (List Candidate)) : Option (List Candidate) := (runAO F9_linkboylaw18_Of_b1 a0 []).bind fun (s65 : (List Candidate)) => some s65
/-- lb/lbref19.Candidates -/
def F19_linkboyref19_Candidates_b3 (a1 : Want) (x22 : Slice) (x64 : Port) (x105 : Endpoint) (s106 : (List Candidate)) : Option (List Candidate) := lt ((x22.six == a1.six) && (decide (x64.name = a1.name))) fun b136 => lt (b136 && (decide (x64.proto = a1.proto))) fun b142 => (if b142 = true then lt ((decide (((x105.node.size : Nat) : Int) > 0)) && (decide (x105.node = a1.node))) fun b149 => (apO s106 [({ point := ({ addr := x105.addr, port := x64.port } : Point), localF := b149, ready := x105.ready, serving := x105.serving, terminating := x105.terminating, zones := x105.zones } : Candidate)]).bind fun z180 => some (s106 ++ [({ point := ({ addr := x105.addr, port := x64.port } : Point), localF := b149, ready := x105.ready, serving := x105.serving, terminating := x105.terminating, zones := x105.zones } : Candidate)]) else some s106)
def F19_linkboyref19_Candidates_b2 (a1 : Want) (x22 : Slice) (x64 : Port) (s65 : (List Candidate)) : Option (List Candidate) := (runAO (F19_linkboyref19_Candidates_b3 a1 x22 x64) x22.endpoints s65).bind fun (s190 : (List Candidate)) => some s190
def F19_linkboyref19_Candidates_b1 (a1 : Want) (x22 : Slice) (s23 : (List Candidate)) : Option (List Candidate) := (runAO (F19_linkboyref19_Candidates_b2 a1 x22) x22.ports s23).bind fun (s195 : (List Candidate)) => some s195
def F19_linkboyref19_Candidates_b5 (x219 : Candidate) (x261 : Candidate) (s262 : Bool) : Bool := lt (s262 && (!decide (x261.point = x219.point))) fun b291 => b291
def F19_linkboyref19_Candidates_b4 (x10 : (List Candidate)) (x10 : (List Candidate)) (x219 : Candidate) (s220 : Nat × (List Candidate)) : Option (Nat × (List Candidate)) := (slO x10 0 ((s220.1 : Nat) : Int)).bind fun y246 => lt (runA (F19_linkboyref19_Candidates_b5 x219) y246 true) fun (s299 : Bool) => (if s299 = true then (apO s220.2 [x219]).bind fun z314 => some ((s220.1 + 1), s220.2 ++ [x219]) else some ((s220.1 + 1), s220.2))
def F19_linkboyref19_Candidates (a0 : (List Slice)) (a1 : Want) : Option (List Candidate) := (runAO (F19_linkboyref19_Candidates_b1 a1) a0 []).bind fun (s200 : (List Candidate)) => (runAO (F19_linkboyref19_Candidates_b4 s200 s200) s200 (0, [])).bind fun (s321 : Nat × (List Candidate)) => some s321.2
/-- lb/lbnum.SameTexts -/
def F40_linkboynum_SameTexts_b1 (a1 : (List ByteArray)) (x11 : ByteArray) (s12 : Nat) : Option (Step Bool Nat) := (ixO a1 ((s12 : Nat) : Int)).bind fun y31 => (if (!decide (x11 = y31)) = true then some (.ret false) else some (.next (s12 + 1)))
def F40_linkboynum_SameTexts (a0 : (List ByteArray)) (a1 : (List ByteArray)) : Option Bool := (if (!decide (((a0.length : Nat) : Int) = ((a1.length : Nat) : Int))) = true then some false else (runBO (F40_linkboynum_SameTexts_b1 a1) a0 0).bind fun o => o.elim (fun r => some r) fun (s64 : Nat) => some true)
/-- lb/lbref18.Same -/
def F24_linkboyref18_Same (a0 : Candidate) (a1 : Candidate) : Option Bool := lt ((decide (a0.point = a1.point)) && (a0.localF == a1.localF)) fun b11 => lt (b11 && (a0.ready == a1.ready)) fun b17 => lt (b17 && (a0.serving == a1.serving)) fun b23 => lt (b23 && (a0.terminating == a1.terminating)) fun b29 => (andO b29 ((F40_linkboynum_SameTexts a0.zones a1.zones).bind fun y37 => some y37)).bind fun b35 => some b35
/-- lb/lbref18.All -/
def F10_linkboyref18_All_b1 (a1 : (List Candidate)) (x11 : Candidate) (s12 : Nat) : Option (Step Bool Nat) := (ixO a1 ((s12 : Nat) : Int)).bind fun y33 => (F24_linkboyref18_Same x11 y33).bind fun y39 => (if (!y39) = true then some (.ret false) else some (.next (s12 + 1)))
def F10_linkboyref18_All (a0 : (List Candidate)) (a1 : (List Candidate)) : Option Bool := (if (!decide (((a0.length : Nat) : Int) = ((a1.length : Nat) : Int))) = true then some false else (runBO (F10_linkboyref18_All_b1 a1) a0 0).bind fun o => o.elim (fun r => some r) fun (s78 : Nat) => some true)
/-- lb/pick.local -/
def F28_pick_local (a0 : Candidate) : Bool := a0.localF
/-- slices.ContainsFunc[[]lb/hints.Candidate,lb/hints.Candidate] -/
def F29_slices_ContainsFunc_hints_Candidate_hint (a0 : (List Candidate)) (a1 : (Candidate → Bool)) : Bool := lt (F44_slices_IndexFunc_hints_Candidate_hints_C a0 a1) fun y3 => decide (y3 ≥ 0)
/-- lb/hints.kept$1 -/
def F62_hints_kept_1 (a0 : Candidate) (a1 : (Candidate → Bool)) : Bool := !(a1 a0)
/-- lb/hints.kept -/
def F47_hints_kept (a0 : (List Candidate)) (a1 : (Candidate → Bool)) : Option (List Candidate) := (F42_slices_Clone_hints_Candidate_hints_Candi a0).bind fun y7 => (F41_slices_DeleteFunc_hints_Candidate_hints_ y7 (fun x0 => F62_hints_kept_1 x0 a1)).bind fun y17 => some y17
/-- lb/hints.ready$1 -/
def F59_hints_ready_1 (a0 : Candidate) : Bool := a0.ready
/-- lb/hints.ready -/
def F45_hints_ready (a0 : (List Candidate)) : Option (List Candidate) := (F47_hints_kept a0 (fun x0 => F59_hints_ready_1 x0)).bind fun y3 => some y3
/-- lb/hints.Count$1 -/
def F60_hints_Count_1 (a0 : Candidate) : Bool := decide (((a0.zones.length : Nat) : Int) = 0)
/-- slices.Index[[]string,string] -/
def F70_slices_Index_string_string_b1 (a1 : ByteArray) (x10 : ByteArray) (s11 : Nat) : Step Int Nat := (if (decide (a1 = x10)) = true then .ret ((s11 : Nat) : Int) else .next (s11 + 1))
def F70_slices_Index_string_string (a0 : (List ByteArray)) (a1 : ByteArray) : Int := lt (runB (F70_slices_Index_string_string_b1 a1) a0 0) fun o => o.elim (fun r => r) fun (s30 : Nat) => (-1)
/-- slices.Contains[[]string,string] -/
def F63_slices_Contains_string_string (a0 : (List ByteArray)) (a1 : ByteArray) : Bool := lt (F70_slices_Index_string_string a0 a1) fun y3 => decide (y3 ≥ 0)
/-- lb/hints.Meant -/
def F49_hints_Meant (a0 : Candidate) (a1 : ByteArray) : Bool := lt (F63_slices_Contains_string_string a0.zones a1) fun y7 => y7
/-- lb/hints.Count$2 -/
def F61_hints_Count_2 (a0 : Candidate) (a1 : ByteArray) : Bool := lt (F49_hints_Meant a0 a1) fun y13 => y13
/-- lb/hints.Count -/
def F46_hints_Count (a0 : (List Candidate)) (a1 : ByteArray) : Option Bool := (F45_hints_ready a0).bind fun y7 => lt (F29_slices_ContainsFunc_hints_Candidate_hint y7 (fun x0 => F60_hints_Count_1 x0)) fun y13 => lt ((!decide (a1 = (⟨#[]⟩ : ByteArray))) && (!y13)) fun b17 => lt (b17 && (lt (F29_slices_ContainsFunc_hints_Candidate_hint y7 (fun x0 => F61_hints_Count_2 x0 a1)) fun y25 => y25)) fun b23 => some b23
/-- lb/hints.Filter$1 -/
def F48_hints_Filter_1 (a0 : Candidate) (a1 : ByteArray) : Bool := lt (F49_hints_Meant a0 a1) fun y13 => y13
/-- lb/hints.Filter -/
def F30_hints_Filter (a0 : (List Candidate)) (a1 : ByteArray) : Option (List Candidate) := (F45_hints_ready a0).bind fun y7 => (F46_hints_Count a0 a1).bind fun y14 => (if (!y14) = true then some y7 else (F47_hints_kept y7 (fun x0 => F48_hints_Filter_1 x0 a1)).bind fun y19 => some y19)
/-- lb/pick.Choose -/
def F13_pick_Choose (a0 : (List Candidate)) (a1 : Want) : Option (List Candidate) := (if a1.localF = true then (F25_pick_those a0 (fun x0 => F28_pick_local x0)).bind fun y8 => (F11_pick_Usable y8).bind fun y14 => some y14 else lt (a1.hinted && (lt (F29_slices_ContainsFunc_hints_Candidate_hint a0 (fun x0 => F26_pick_ready x0)) fun y23 => y23)) fun b21 => (if b21 = true then (F30_hints_Filter a0 a1.zone).bind fun y32 => some y32 else (F11_pick_Usable a0).bind fun y39 => some y39))
/-- slices.Clone[[]lb/api.Point,lb/api.Point] -/
def F54_slices_Clone_api_Point_api_Point (a0 : (List Point)) : Option (List Point) := (apO [] a0).bind fun z17 => some ([] ++ a0)
/-- slices.SortFunc[[]lb/api.Point,lb/api.Point] -/
noncomputable def F55_slices_SortFunc (a0 : (List Point)) (a1 : (Point → Point → Int)) : Option (List Point) := sortO a0 a1
/-- bytes.Compare -/
def F81_bytes_Compare (a0 : (List Int)) (a1 : (List Int)) : Int := cmpB a0 a1
/-- lb/addr.Compare -/
def F67_addr_Compare (a0 : Addr) (a1 : Addr) : Int := (if (a0.six == a1.six) = true then lt (F81_bytes_Compare (A16u8.list a0.b) (A16u8.list a1.b)) fun y16 => y16 else (if a0.six = true then 1 else (-1)))
/-- cmp.isNaN[int] -/
def F82_cmp_isNaN_int (a0 : Int) : Bool := !decide (a0 = a0)
/-- cmp.Compare[int] -/
def F68_cmp_Compare_int (a0 : Int) (a1 : Int) : Int := lt (F82_cmp_isNaN_int a0) fun y3 => lt (F82_cmp_isNaN_int a1) fun y7 => (if y3 = true then (if y7 = true then 0 else (-1)) else (if y7 = true then 1 else (if (decide (a0 < a1)) = true then (-1) else (if (decide (a0 > a1)) = true then 1 else 0))))
/-- cmp.Or[int] -/
def F66_cmp_Or_int_b1  (x10 : Int) (s11 : Unit) : Step Int Unit := (if (!decide (x10 = 0)) = true then .ret x10 else .next ())
def F66_cmp_Or_int (a0 : (List Int)) : Int := lt (runB F66_cmp_Or_int_b1 a0 ()) fun o => o.elim (fun r => r) fun (s30 : Unit) => 0
/-- lb/ports.Compare -/
def F56_ports_Compare (a0 : Point) (a1 : Point) : Int := lt (F67_addr_Compare a0.addr a1.addr) fun y11 => lt (F68_cmp_Compare_int a0.port a1.port) fun y15 => lt (F66_cmp_Or_int [y11, y15]) fun y24 => y24
/-- slices.Compact[[]lb/api.Point,lb/api.Point] -/
def F57_slices_Compact_api_Point_api_Point_b2 (x2 : Int) (y64 : (List Point)) (s82 : Int × Int × (List Point)) : Option (Step Empty (Int × Int × (List Point))) := (if (decide (s82.2.1 < ((y64.length : Nat) : Int))) = true then (ixO (s82.2.2.drop x2.toNat) s82.2.1).bind fun y94 => (ixO (s82.2.2.drop x2.toNat) (IntKind.i64.wrap (s82.2.1 - 1))).bind fun y102 => (if (!decide (y94 = y102)) = true then (ixO (s82.2.2.drop x2.toNat) s82.2.1).bind fun y137 => (ixO s82.2.2 s82.1).bind fun y145 => some (.next (IntKind.i64.wrap (s82.1 + 1), IntKind.i64.wrap (s82.2.1 + 1), s82.2.2.set s82.1.toNat y137)) else some (.next (s82.1, IntKind.i64.wrap (s82.2.1 + 1), s82.2.2))) else some (.fin (s82.1, s82.2.1, s82.2.2)))
def F57_slices_Compact_api_Point_api_Point_b1  (s15 : Int × (List Point)) : Option (Step (List Point) (Int × (List Point))) := (if (decide (s15.1 < ((s15.2.length : Nat) : Int))) = true then (ixO s15.2 s15.1).bind fun y27 => (ixO s15.2 (IntKind.i64.wrap (s15.1 - 1))).bind fun y35 => (if (decide (y27 = y35)) = true then (slO s15.2 s15.1 ((s15.2.length : Nat) : Int)).bind fun y64 => (runW (F57_slices_Compact_api_Point_api_Point_b2 s15.1 y64) FUEL (s15.1, 1, s15.2)).bind fun o => o.elim (fun r => r.elim) fun (s155 : Int × Int × (List Point)) => (slO s155.2.2 s155.1 ((s155.2.2.length : Nat) : Int)).bind fun y156 => (slO (s155.2.2.take s155.1.toNat ++ List.replicate (s155.2.2.length - s155.1.toNat) Point.z) 0 s155.1).bind fun y164 => some (.ret y164) else some (.next (IntKind.i64.wrap (s15.1 + 1), s15.2))) else some (.fin (s15.1, s15.2)))
def F57_slices_Compact_api_Point_api_Point (a0 : (List Point)) : Option (List Point) := (if (decide (((a0.length : Nat) : Int) < 2)) = true then some a0 else (runW F57_slices_Compact_api_Point_api_Point_b1 FUEL (1, a0)).bind fun o => o.elim (fun r => some r) fun (s176 : Int × (List Point)) => some s176.2)
/-- lb/ports.Sort -/
noncomputable def F38_ports_Sort (a0 : (List Point)) : Option (List Point) := (F54_slices_Clone_api_Point_api_Point a0).bind fun y3 => (F55_slices_SortFunc y3 (fun x0 x1 => F56_ports_Compare x0 x1)).bind fun y13 => (F57_slices_Compact_api_Point_api_Point y13).bind fun y21 => some y21
/-- lb/pick.Points -/
def F21_pick_Points_b1  (x51 : Candidate) (s52 : (List Point)) : Option (List Point) := (apO s52 [x51.point]).bind fun z91 => some (s52 ++ [x51.point])
noncomputable def F21_pick_Points (a0 : (List Slice)) (a1 : Want) : Option (List Point) := (F18_pick_Candidates a0 a1).bind fun y7 => (F13_pick_Choose y7 a1).bind fun y13 => (runAO F21_pick_Points_b1 y13 ([] : List Point)).bind fun (s98 : (List Point)) => (F38_ports_Sort s98).bind fun y101 => some y101
/-- lb/lbref19.Usable -/
def F12_linkboyref19_Usable_b1  (x28 : Candidate) (s29 : (List Candidate) × (List Candidate)) : Option ((List Candidate) × (List Candidate)) := (if x28.ready = true then (apO s29.1 [x28]).bind fun z70 => lt (x28.serving && x28.terminating) fun b76 => (if b76 = true then (apO s29.2 [x28]).bind fun z94 => some (s29.1 ++ [x28], s29.2 ++ [x28]) else some (s29.1 ++ [x28], s29.2)) else lt (x28.serving && x28.terminating) fun b100 => (if b100 = true then (apO s29.2 [x28]).bind fun z118 => some (s29.1, s29.2 ++ [x28]) else some (s29.1, s29.2)))
def F12_linkboyref19_Usable (a0 : (List Candidate)) : Option (List Candidate) := (runAO F12_linkboyref19_Usable_b1 a0 ([], [])).bind fun (s126 : (List Candidate) × (List Candidate)) => (if (decide (((s126.1.length : Nat) : Int) > 0)) = true then some s126.1 else some s126.2)
/-- lb/lbref18.Meant -/
def F51_linkboyref18_Meant_b1 (a1 : ByteArray) (x14 : ByteArray) (s15 : Unit) : Step Bool Unit := (if (decide (x14 = a1)) = true then .ret true else .next ())
def F51_linkboyref18_Meant (a0 : Candidate) (a1 : ByteArray) : Bool := lt (runB (F51_linkboyref18_Meant_b1 a1) a0.zones ()) fun o => o.elim (fun r => r) fun (s34 : Unit) => false
/-- lb/lbref18.Count -/
def F50_linkboyref18_Count_b1 (a1 : ByteArray) (x12 : Candidate) (s13 : Bool × Bool) : Bool × Bool := (if x12.ready = true then lt (s13.1 || (lt (F51_linkboyref18_Meant x12 a1) fun y43 => y43)) fun b41 => lt (s13.2 || (decide (((x12.zones.length : Nat) : Int) = 0))) fun b51 => (b41, b51) else (s13.1, s13.2))
def F50_linkboyref18_Count (a0 : (List Candidate)) (a1 : ByteArray) : Bool := lt (runA (F50_linkboyref18_Count_b1 a1) a0 (false, false)) fun (s59 : Bool × Bool) => lt ((!decide (a1 = (⟨#[]⟩ : ByteArray))) && s59.1) fun b62 => lt (b62 && (!s59.2)) fun b68 => b68
/-- lb/lbref18.Filter -/
def F31_linkboyref18_Filter_b1 (a1 : ByteArray) (y8 : Bool) (x22 : Candidate) (s23 : (List Candidate)) : Option (List Candidate) := lt (x22.ready && (lt ((!y8) || (lt (F51_linkboyref18_Meant x22 a1) fun y55 => y55)) fun b53 => b53)) fun b51 => (if b51 = true then (apO s23 [x22]).bind fun z79 => some (s23 ++ [x22]) else some s23)
def F31_linkboyref18_Filter (a0 : (List Candidate)) (a1 : ByteArray) : Option (List Candidate) := lt (F50_linkboyref18_Count a0 a1) fun y8 => (runAO (F31_linkboyref18_Filter_b1 a1 y8) a0 []).bind fun (s86 : (List Candidate)) => some s86
/-- lb/lbref19.Choose -/
def F14_linkboyref19_Choose_b1  (x23 : Candidate) (s24 : (List Candidate)) : Option (List Candidate) := (if x23.localF = true then (apO s24 [x23]).bind fun z64 => some (s24 ++ [x23]) else some s24)
def F14_linkboyref19_Choose (a0 : (List Candidate)) (a1 : Want) : Option (List Candidate) := (if a1.localF = true then (runAO F14_linkboyref19_Choose_b1 a0 []).bind fun (s71 : (List Candidate)) => (F12_linkboyref19_Usable s71).bind fun y74 => some y74 else (F31_linkboyref18_Filter a0 a1.zone).bind fun y81 => lt (a1.hinted && (decide (((y81.length : Nat) : Int) > 0))) fun b88 => (if b88 = true then some y81 else (F12_linkboyref19_Usable a0).bind fun y95 => some y95))
/-- lb/lbref02.Compare -/
def F69_linkboyref02_Compare_b1 (a0 : Addr) (a1 : Addr) (s22 : Int) : Option (Step Int Int) := (if (decide (s22 < 16)) = true then (ixO (A16u8.list a0.b) s22).bind fun y30 => (ixO (A16u8.list a1.b) s22).bind fun y34 => (if (decide (y30 < y34)) = true then some (.ret (-1)) else (ixO (A16u8.list a0.b) s22).bind fun y57 => (ixO (A16u8.list a1.b) s22).bind fun y61 => (if (decide (y57 > y61)) = true then some (.ret 1) else some (.next (IntKind.i64.wrap (s22 + 1))))) else some (.fin s22))
def F69_linkboyref02_Compare (a0 : Addr) (a1 : Addr) : Option Int := (if (!(a0.six == a1.six)) = true then (if a0.six = true then some 1 else some (-1)) else (runW (F69_linkboyref02_Compare_b1 a0 a1) FUEL 0).bind fun o => o.elim (fun r => some r) fun (s86 : Int) => some 0)
/-- lb/lbref04.Compare -/
def F58_linkboyref04_Compare (a0 : Point) (a1 : Point) : Option Int := (F69_linkboyref02_Compare a0.addr a1.addr).bind fun y11 => (if (!decide (y11 = 0)) = true then some y11 else (if (decide (a0.port < a1.port)) = true then some (-1) else (if (decide (a0.port > a1.port)) = true then some 1 else some 0)))
/-- lb/lbref04.Sort -/
def F39_linkboyref04_Sort_b2 (x6 : (List Point)) (x18 : Point) (s55 : Int) : Option (Step Empty Int) := (andO (decide (s55 > 0)) ((ixO x6 (IntKind.i64.wrap (s55 - 1))).bind fun y66 => (F58_linkboyref04_Compare x18 y66).bind fun y70 => some (decide (y70 < 0)))).bind fun b72 => (if b72 = true then some (.next (IntKind.i64.wrap (s55 - 1))) else some (.fin s55))
def F39_linkboyref04_Sort_b1  (x18 : Point) (s19 : (List Point)) : Option (List Point) := (runW (F39_linkboyref04_Sort_b2 s19 x18) FUEL ((s19.length : Nat) : Int)).bind fun o => o.elim (fun r => r.elim) fun (s135 : Int) => (andO (decide (s135 > 0)) ((ixO s19 (IntKind.i64.wrap (s135 - 1))).bind fun y142 => some (decide (y142 = x18)))).bind fun b144 => (if b144 = true then some s19 else (slO s19 0 s135).bind fun y204 => (apO [] y204).bind fun z216 => (apO ([] ++ y204) [x18]).bind fun z232 => (slO s19 s135 ((s19.length : Nat) : Int)).bind fun y235 => (apO (([] ++ y204) ++ [x18]) y235).bind fun z247 => some ((([] ++ y204) ++ [x18]) ++ y235))
def F39_linkboyref04_Sort (a0 : (List Point)) : Option (List Point) := (runAO F39_linkboyref04_Sort_b1 a0 []).bind fun (s346 : (List Point)) => some s346
/-- lb/lbref19.Points -/
def F22_linkboyref19_Points_b1  (x55 : Candidate) (s56 : (List Point)) : Option (List Point) := (apO s56 [x55.point]).bind fun z95 => some (s56 ++ [x55.point])
def F22_linkboyref19_Points (a0 : (List Slice)) (a1 : Want) : Option (List Point) := (F19_linkboyref19_Candidates a0 a1).bind fun y12 => (F14_linkboyref19_Choose y12 a1).bind fun y18 => (runAO F22_linkboyref19_Points_b1 y18 []).bind fun (s102 : (List Point)) => (F39_linkboyref04_Sort s102).bind fun y105 => some y105
/-- lb/lblaw19.points -/
def F20_linkboylaw19_points_b1 (a1 : (List Point)) (x11 : Point) (s12 : Nat) : Option (Step Bool Nat) := (ixO a1 ((s12 : Nat) : Int)).bind fun y31 => (if (!decide (x11 = y31)) = true then some (.ret false) else some (.next (s12 + 1)))
def F20_linkboylaw19_points (a0 : (List Point)) (a1 : (List Point)) : Option Bool := (if (!decide (((a0.length : Nat) : Int) = ((a1.length : Nat) : Int))) = true then some false else (runBO (F20_linkboylaw19_points_b1 a1) a0 0).bind fun o => o.elim (fun r => some r) fun (s64 : Nat) => some true)
/-- lb/lblaw19.PickPoints -/
noncomputable def F5_linkboylaw19_PickPoints (a0 : (List Slice)) (a1 : Want) : Option Bool := (F6_linkboylaw19_alive).bind fun y7 => (if (!y7) = true then some false else lt (F16_linkboylaw19_Long a0) fun y12 => lt (y12 || (lt (F8_linkboylaw19_long a1) fun y18 => y18)) fun b16 => (if b16 = true then some true else (F17_linkboylaw17_Slices a0).bind fun y27 => (F18_pick_Candidates a0 a1).bind fun y79 => (F9_linkboylaw18_Of y79).bind fun y85 => (F19_linkboyref19_Candidates y27 a1).bind fun y91 => (F10_linkboyref18_All y85 y91).bind fun y97 => (andO y97 ((F21_pick_Points a0 a1).bind fun y101 => (F22_linkboyref19_Points y27 a1).bind fun y107 => (F20_linkboylaw19_points y101 y107).bind fun y113 => some y113)).bind fun b115 => some b115))
/-- lb/lblaw18.Long -/
def F7_linkboylaw18_Long_b1  (x11 : Candidate) (s12 : Unit) : Step Bool Unit := lt (F23_linkboynum_Long x11.zones 400) fun y39 => (if y39 = true then .ret true else .next ())
def F7_linkboylaw18_Long (a0 : (List Candidate)) : Bool := (if (decide (((a0.length : Nat) : Int) > 60)) = true then true else lt (runB F7_linkboylaw18_Long_b1 a0 ()) fun o => o.elim (fun r => r) fun (s47 : Unit) => false)
/-- lb/lblaw19.PickChooses -/
def F3_linkboylaw19_PickChooses (a0 : (List Candidate)) (a1 : Want) : Option Bool := (F6_linkboylaw19_alive).bind fun y7 => (if (!y7) = true then some false else lt (F7_linkboylaw18_Long a0) fun y12 => lt (y12 || (lt (F8_linkboylaw19_long a1) fun y18 => y18)) fun b16 => (if b16 = true then some true else (F9_linkboylaw18_Of a0).bind fun y27 => (F11_pick_Usable a0).bind fun y33 => (F9_linkboylaw18_Of y33).bind fun y39 => (F12_linkboyref19_Usable y27).bind fun y45 => (F10_linkboyref18_All y39 y45).bind fun y51 => (andO y51 ((F13_pick_Choose a0 a1).bind fun y55 => (F9_linkboylaw18_Of y55).bind fun y61 => (F14_linkboyref19_Choose y27 a1).bind fun y67 => (F10_linkboyref18_All y61 y67).bind fun y73 => some y73)).bind fun b75 => (andO b75 ((F9_linkboylaw18_Of a0).bind fun y79 => (F10_linkboyref18_All y79 y27).bind fun y85 => some y85)).bind fun b87 => some b87))
/-- slices.Equal[[]string,string] -/
def F32_slices_Equal_string_string_b1 (a1 : (List ByteArray)) (x11 : ByteArray) (s12 : Nat) : Option (Step Bool Nat) := (ixO a1 ((s12 : Nat) : Int)).bind fun y31 => (if (!decide (x11 = y31)) = true then some (.ret false) else some (.next (s12 + 1)))
def F32_slices_Equal_string_string (a0 : (List ByteArray)) (a1 : (List ByteArray)) : Option Bool := (if (!decide (((a0.length : Nat) : Int) = ((a1.length : Nat) : Int))) = true then some false else (runBO (F32_slices_Equal_string_string_b1 a1) a0 0).bind fun o => o.elim (fun r => some r) fun (s64 : Nat) => some true)
/-- lb/hints.Same -/
def F15_hints_Same (a0 : Candidate) (a1 : Candidate) : Option Bool := lt ((a0.localF == a1.localF) && (a0.ready == a1.ready)) fun b11 => lt (b11 && (a0.serving == a1.serving)) fun b17 => lt (b17 && (a0.terminating == a1.terminating)) fun b23 => lt ((decide (a0.point = a1.point)) && b23) fun b29 => (andO b29 ((F32_slices_Equal_string_string a0.zones a1.zones).bind fun y37 => some y37)).bind fun b35 => some b35
/-- lb/lblaw19.PickRight -/
def F4_linkboylaw19_PickRight_b1 (a1 : Want) (x35 : Candidate) (s36 : Bool) : Bool := lt (s36 || (lt (x35.ready && (lt (x35.localF || (!a1.localF)) fun b67 => b67)) fun b65 => b65)) fun b63 => b63
def F4_linkboylaw19_PickRight_b3 (x99 : Candidate) (x173 : Candidate) (s174 : Bool) : Option Bool := (orO s174 ((F15_hints_Same x173 x99).bind fun y204 => some y204)).bind fun b202 => some b202
def F4_linkboylaw19_PickRight_b2 (a0 : (List Candidate)) (a1 : Want) (x25 : Bool) (x25 : Bool) (x99 : Candidate) (s100 : Unit) : Option (Step Bool Unit) := lt (a1.localF && (!x99.localF)) fun b127 => lt (b127 || (lt (x25 && (!x99.ready)) fun b135 => b135)) fun b133 => lt (b133 || (lt ((!x99.ready) && (lt (x99.serving && x99.terminating) fun b149 => !b149)) fun b147 => b147)) fun b145 => (if b145 = true then some (.ret false) else (runAO (F4_linkboylaw19_PickRight_b3 x99) a0 false).bind fun (s214 : Bool) => (if (!s214) = true then some (.ret false) else some (.next ())))
def F4_linkboylaw19_PickRight (a0 : (List Candidate)) (a1 : Want) : Option Bool := (F6_linkboylaw19_alive).bind fun y7 => (if (!y7) = true then some false else lt (F7_linkboylaw18_Long a0) fun y12 => lt (y12 || (lt (F8_linkboylaw19_long a1) fun y18 => y18)) fun b16 => (if b16 = true then some true else lt (runA (F4_linkboylaw19_PickRight_b1 a1) a0 false) fun (s83 : Bool) => (F13_pick_Choose a0 a1).bind fun y86 => (runBO (F4_linkboylaw19_PickRight_b2 a0 a1 s83 s83) y86 ()).bind fun o => o.elim (fun r => some r) fun (s221 : Unit) => lt ((!s83) || (decide (((y86.length : Nat) : Int) > 0))) fun b224 => some b224))
end Go.Proofs.Yteoaobiglodblaa
