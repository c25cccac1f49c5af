/- The functions of this program, printed as plain Lean functions (the specification side): no Go and no memory. Written by a program of this session. -/
import Derived.Test.YteoaobiglodblaaS0
import GoSem.Dispatch
namespace Go.Proofs.Yteoaobiglodblaa
open Go K
set_option linter.unusedVariables false
structure A16u8 where
  (e0 : Int)
  (e1 : Int)
  (e2 : Int)
  (e3 : Int)
  (e4 : Int)
  (e5 : Int)
  (e6 : Int)
  (e7 : Int)
  (e8 : Int)
  (e9 : Int)
  (e10 : Int)
  (e11 : Int)
  (e12 : Int)
  (e13 : Int)
  (e14 : Int)
  (e15 : Int)
  deriving DecidableEq
def A16u8.z : A16u8 := ⟨0, 0, 0, 0, 0, 0, 0, 0, 0, 0, 0, 0, 0, 0, 0, 0⟩
structure Addr where
  (six : Bool)
  (b : A16u8)
  deriving DecidableEq
def Addr.z : Addr := ⟨false, A16u8.z⟩
structure Point where
  (addr : Addr)
  (port : Int)
  deriving DecidableEq
def Point.z : Point := ⟨Addr.z, 0⟩
structure Candidate where
  (point : Point)
  (localF : Bool)
  (ready : Bool)
  (serving : Bool)
  (terminating : Bool)
  (zones : (List ByteArray))
  deriving DecidableEq
def Candidate.z : Candidate := ⟨Point.z, false, false, false, false, []⟩
structure Want where
  (name : ByteArray)
  (proto : Int)
  (six : Bool)
  (localF : Bool)
  (hinted : Bool)
  (node : ByteArray)
  (zone : ByteArray)
  deriving DecidableEq
def Want.z : Want := ⟨⟨#[]⟩, 0, false, false, false, ⟨#[]⟩, ⟨#[]⟩⟩
/-- slices.Clone[[]lb/hints.Candidate,lb/hints.Candidate] -/
def F42_slices_Clone_hints_Candidate_hints_Candi (a0 : (List Candidate)) : Option (List Candidate) := (apO [] a0).bind fun z9 => some ([] ++ a0)
/-- lb/pick.those$1 -/
def F43_pick_those_1 (a0 : Candidate) (a1 : (Candidate → Bool)) : Bool := !(a1 a0)
/-- slices.IndexFunc[[]lb/hints.Candidate,lb/hints.Candidate] -/
def F44_slices_IndexFunc_hints_Candidate_hints_C_b1 (a1 : (Candidate → Bool)) (x10 : Candidate) (s11 : Nat) : Step Int Nat := (if (a1 x10) = true then .ret ((s11 : Nat) : Int) else .next (s11 + 1))
def F44_slices_IndexFunc_hints_Candidate_hints_C (a0 : (List Candidate)) (a1 : (Candidate → Bool)) : Int := lt (runB (F44_slices_IndexFunc_hints_Candidate_hints_C_b1 a1) a0 0) fun o => o.elim (fun r => r) fun (s34 : Nat) => (-1)
/-- slices.DeleteFunc[[]lb/hints.Candidate,lb/hints.Candidate] -/
def F41_slices_DeleteFunc_hints_Candidate_hints__b1 (a1 : (Candidate → Bool)) (s20 : Int × Int × (List Candidate)) : Option (Step (List Candidate) (Int × Int × (List Candidate))) := (if (decide (s20.2.1 < ((s20.2.2.length : Nat) : Int))) = true then (ixO s20.2.2 s20.2.1).bind fun y32 => (if (!(a1 y32)) = true then (ixO s20.2.2 s20.1).bind fun y55 => some (.next (IntKind.i64.wrap (s20.1 + 1), IntKind.i64.wrap (s20.2.1 + 1), s20.2.2.set s20.1.toNat y32)) else some (.next (s20.1, IntKind.i64.wrap (s20.2.1 + 1), s20.2.2))) else some (.fin (s20.1, s20.2.1, s20.2.2)))
def F41_slices_DeleteFunc_hints_Candidate_hints_ (a0 : (List Candidate)) (a1 : (Candidate → Bool)) : Option (List Candidate) := lt (F44_slices_IndexFunc_hints_Candidate_hints_C a0 a1) fun y3 => (if (decide (y3 = (-1))) = true then some a0 else (runW (F41_slices_DeleteFunc_hints_Candidate_hints__b1 a1) FUEL (y3, IntKind.i64.wrap (y3 + 1), a0)).bind fun o => o.elim (fun r => some r) fun (s65 : Int × Int × (List Candidate)) => (slO s65.2.2 s65.1 ((s65.2.2.length : Nat) : Int)).bind fun y66 => (slO (s65.2.2.take s65.1.toNat ++ List.replicate (s65.2.2.length - s65.1.toNat) Candidate.z) 0 s65.1).bind fun y74 => some y74)
/-- lb/pick.those -/
def F25_pick_those (a0 : (List Candidate)) (a1 : (Candidate → Bool)) : Option (List Candidate) := (F42_slices_Clone_hints_Candidate_hints_Candi a0).bind fun y7 => (F41_slices_DeleteFunc_hints_Candidate_hints_ y7 (fun x0 => F43_pick_those_1 x0 a1)).bind fun y17 => some y17
/-- lb/pick.ready -/
def F26_pick_ready (a0 : Candidate) : Bool := a0.ready
/-- lb/pick.leaving -/
def F27_pick_leaving (a0 : Candidate) : Bool := lt (a0.serving && a0.terminating) fun b7 => b7
/-- lb/pick.Usable -/
def F11_pick_Usable (a0 : (List Candidate)) : Option (List Candidate) := (F25_pick_those a0 (fun x0 => F26_pick_ready x0)).bind fun y3 => (if (decide (((y3.length : Nat) : Int) > 0)) = true then some y3 else (F25_pick_those a0 (fun x0 => F27_pick_leaving x0)).bind fun y11 => some y11)
/-- lb/lblaw19.alive -/
def F6_linkboylaw19_alive  : Option Bool := (F11_pick_Usable [({ point := Point.z, localF := false, ready := false, serving := true, terminating := false, zones := [] } : Candidate), ({ point := Point.z, localF := false, ready := false, serving := true, terminating := true, zones := [] } : Candidate)]).bind fun y8 => (andO (decide (((y8.length : Nat) : Int) = 1)) ((ixO y8 0).bind fun y20 => some y20.terminating)).bind fun b14 => some b14
/-- lb/lbnum.Long -/
def F23_linkboynum_Long_b1 (a1 : Int) (x11 : ByteArray) (s12 : Int) : Step Bool Int := (if (decide (((x11.size : Nat) : Int) > a1)) = true then .ret true else (if (decide ((IntKind.i64.wrap (s12 + (IntKind.i64.wrap (1 + ((x11.size : Nat) : Int))))) > a1)) = true then .ret true else .next (IntKind.i64.wrap (s12 + (IntKind.i64.wrap (1 + ((x11.size : Nat) : Int)))))))
def F23_linkboynum_Long (a0 : (List ByteArray)) (a1 : Int) : Bool := lt (runB (F23_linkboynum_Long_b1 a1) a0 0) fun o => o.elim (fun r => r) fun (s33 : Int) => false
/-- lb/lblaw18.Long -/
def F7_linkboylaw18_Long_b1  (x11 : Candidate) (s12 : Unit) : Step Bool Unit := lt (F23_linkboynum_Long x11.zones 400) fun y38 => (if y38 = true then .ret true else .next ())
def F7_linkboylaw18_Long (a0 : (List Candidate)) : Bool := (if (decide (((a0.length : Nat) : Int) > 60)) = true then true else lt (runB F7_linkboylaw18_Long_b1 a0 ()) fun o => o.elim (fun r => r) fun (s46 : Unit) => false)
/-- lb/lblaw19.long -/
def F8_linkboylaw19_long (a0 : Want) : Bool := lt ((decide (((a0.name.size : Nat) : Int) > 100)) || (decide (((a0.node.size : Nat) : Int) > 100))) fun b7 => lt (b7 || (decide (((a0.zone.size : Nat) : Int) > 100))) fun b13 => b13
/-- lb/lblaw18.Of -/
def F9_linkboylaw18_Of_b1  (x18 : Candidate) (s19 : (List Candidate)) : Option (List Candidate) := (apO s19 [x18]).bind fun z49 => some (s19 ++ [x18])
def F9_linkboylaw18_Of (a0 : (List Candidate)) : Option (List Candidate) := (runAO F9_linkboylaw18_Of_b1 a0 []).bind fun (s62 : (List Candidate)) => some s62
/-- lb/lbref19.Usable -/
def F12_linkboyref19_Usable_b1  (x28 : Candidate) (s29 : (List Candidate) × (List Candidate)) : Option ((List Candidate) × (List Candidate)) := (if x28.ready = true then (apO s29.1 [x28]).bind fun z61 => lt (x28.serving && x28.terminating) fun b73 => (if b73 = true then (apO s29.2 [x28]).bind fun z83 => some (s29.1 ++ [x28], s29.2 ++ [x28]) else some (s29.1 ++ [x28], s29.2)) else lt (x28.serving && x28.terminating) fun b95 => (if b95 = true then (apO s29.2 [x28]).bind fun z105 => some (s29.1, s29.2 ++ [x28]) else some (s29.1, s29.2)))
def F12_linkboyref19_Usable (a0 : (List Candidate)) : Option (List Candidate) := (runAO F12_linkboyref19_Usable_b1 a0 ([], [])).bind fun (s119 : (List Candidate) × (List Candidate)) => (if (decide (((s119.1.length : Nat) : Int) > 0)) = true then some s119.1 else some s119.2)
/-- lb/lbnum.SameTexts -/
def F40_linkboynum_SameTexts_b1 (a1 : (List ByteArray)) (x11 : ByteArray) (s12 : Nat) : Option (Step Bool Nat) := (ixO a1 ((s12 : Nat) : Int)).bind fun y31 => (if (!decide (x11 = y31)) = true then some (.ret false) else some (.next (s12 + 1)))
def F40_linkboynum_SameTexts (a0 : (List ByteArray)) (a1 : (List ByteArray)) : Option Bool := (if (!decide (((a0.length : Nat) : Int) = ((a1.length : Nat) : Int))) = true then some false else (runBO (F40_linkboynum_SameTexts_b1 a1) a0 0).bind fun o => o.elim (fun r => some r) fun (s63 : Nat) => some true)
/-- lb/lbref18.Same -/
def F24_linkboyref18_Same (a0 : Candidate) (a1 : Candidate) : Option Bool := lt ((decide (a0.point = a1.point)) && (a0.localF == a1.localF)) fun b11 => lt (b11 && (a0.ready == a1.ready)) fun b17 => lt (b17 && (a0.serving == a1.serving)) fun b23 => lt (b23 && (a0.terminating == a1.terminating)) fun b29 => (andO b29 ((F40_linkboynum_SameTexts a0.zones a1.zones).bind fun y37 => some y37)).bind fun b35 => some b35
/-- lb/lbref18.All -/
def F10_linkboyref18_All_b1 (a1 : (List Candidate)) (x11 : Candidate) (s12 : Nat) : Option (Step Bool Nat) := (ixO a1 ((s12 : Nat) : Int)).bind fun y33 => (F24_linkboyref18_Same x11 y33).bind fun y39 => (if (!y39) = true then some (.ret false) else some (.next (s12 + 1)))
def F10_linkboyref18_All (a0 : (List Candidate)) (a1 : (List Candidate)) : Option Bool := (if (!decide (((a0.length : Nat) : Int) = ((a1.length : Nat) : Int))) = true then some false else (runBO (F10_linkboyref18_All_b1 a1) a0 0).bind fun o => o.elim (fun r => some r) fun (s77 : Nat) => some true)
/-- lb/pick.local -/
def F28_pick_local (a0 : Candidate) : Bool := a0.localF
/-- slices.ContainsFunc[[]lb/hints.Candidate,lb/hints.Candidate] -/
def F29_slices_ContainsFunc_hints_Candidate_hint (a0 : (List Candidate)) (a1 : (Candidate → Bool)) : Bool := lt (F44_slices_IndexFunc_hints_Candidate_hints_C a0 a1) fun y3 => decide (y3 ≥ 0)
/-- lb/hints.kept$1 -/
def F62_hints_kept_1 (a0 : Candidate) (a1 : (Candidate → Bool)) : Bool := !(a1 a0)
/-- lb/hints.kept -/
def F47_hints_kept (a0 : (List Candidate)) (a1 : (Candidate → Bool)) : Option (List Candidate) := (F42_slices_Clone_hints_Candidate_hints_Candi a0).bind fun y7 => (F41_slices_DeleteFunc_hints_Candidate_hints_ y7 (fun x0 => F62_hints_kept_1 x0 a1)).bind fun y17 => some y17
/-- lb/hints.ready$1 -/
def F59_hints_ready_1 (a0 : Candidate) : Bool := a0.ready
/-- lb/hints.ready -/
def F45_hints_ready (a0 : (List Candidate)) : Option (List Candidate) := (F47_hints_kept a0 (fun x0 => F59_hints_ready_1 x0)).bind fun y3 => some y3
/-- lb/hints.Count$1 -/
def F60_hints_Count_1 (a0 : Candidate) : Bool := decide (((a0.zones.length : Nat) : Int) = 0)
/-- slices.Index[[]string,string] -/
def F70_slices_Index_string_string_b1 (a1 : ByteArray) (x10 : ByteArray) (s11 : Nat) : Step Int Nat := (if (decide (a1 = x10)) = true then .ret ((s11 : Nat) : Int) else .next (s11 + 1))
def F70_slices_Index_string_string (a0 : (List ByteArray)) (a1 : ByteArray) : Int := lt (runB (F70_slices_Index_string_string_b1 a1) a0 0) fun o => o.elim (fun r => r) fun (s30 : Nat) => (-1)
/-- slices.Contains[[]string,string] -/
def F63_slices_Contains_string_string (a0 : (List ByteArray)) (a1 : ByteArray) : Bool := lt (F70_slices_Index_string_string a0 a1) fun y3 => decide (y3 ≥ 0)
/-- lb/hints.Meant -/
def F49_hints_Meant (a0 : Candidate) (a1 : ByteArray) : Bool := lt (F63_slices_Contains_string_string a0.zones a1) fun y7 => y7
/-- lb/hints.Count$2 -/
def F61_hints_Count_2 (a0 : Candidate) (a1 : ByteArray) : Bool := lt (F49_hints_Meant a0 a1) fun y13 => y13
/-- lb/hints.Count -/
def F46_hints_Count (a0 : (List Candidate)) (a1 : ByteArray) : Option Bool := (F45_hints_ready a0).bind fun y7 => lt (F29_slices_ContainsFunc_hints_Candidate_hint y7 (fun x0 => F60_hints_Count_1 x0)) fun y13 => lt ((!decide (a1 = (⟨#[]⟩ : ByteArray))) && (!y13)) fun b17 => lt (b17 && (lt (F29_slices_ContainsFunc_hints_Candidate_hint y7 (fun x0 => F61_hints_Count_2 x0 a1)) fun y25 => y25)) fun b23 => some b23
/-- lb/hints.Filter$1 -/
def F48_hints_Filter_1 (a0 : Candidate) (a1 : ByteArray) : Bool := lt (F49_hints_Meant a0 a1) fun y13 => y13
/-- lb/hints.Filter -/
def F30_hints_Filter (a0 : (List Candidate)) (a1 : ByteArray) : Option (List Candidate) := (F45_hints_ready a0).bind fun y7 => (F46_hints_Count a0 a1).bind fun y14 => (if (!y14) = true then some y7 else (F47_hints_kept y7 (fun x0 => F48_hints_Filter_1 x0 a1)).bind fun y19 => some y19)
/-- lb/pick.Choose -/
def F13_pick_Choose (a0 : (List Candidate)) (a1 : Want) : Option (List Candidate) := (if a1.localF = true then (F25_pick_those a0 (fun x0 => F28_pick_local x0)).bind fun y8 => (F11_pick_Usable y8).bind fun y14 => some y14 else lt (a1.hinted && (lt (F29_slices_ContainsFunc_hints_Candidate_hint a0 (fun x0 => F26_pick_ready x0)) fun y23 => y23)) fun b21 => (if b21 = true then (F30_hints_Filter a0 a1.zone).bind fun y32 => some y32 else (F11_pick_Usable a0).bind fun y39 => some y39))
/-- lb/lbref18.Meant -/
def F51_linkboyref18_Meant_b1 (a1 : ByteArray) (x14 : ByteArray) (s15 : Unit) : Step Bool Unit := (if (decide (x14 = a1)) = true then .ret true else .next ())
def F51_linkboyref18_Meant (a0 : Candidate) (a1 : ByteArray) : Bool := lt (runB (F51_linkboyref18_Meant_b1 a1) a0.zones ()) fun o => o.elim (fun r => r) fun (s34 : Unit) => false
/-- lb/lbref18.Count -/
def F50_linkboyref18_Count_b1 (a1 : ByteArray) (x12 : Candidate) (s13 : Bool × Bool) : Bool × Bool := (if x12.ready = true then lt (s13.1 || (lt (F51_linkboyref18_Meant x12 a1) fun y42 => y42)) fun b40 => lt (s13.2 || (decide (((x12.zones.length : Nat) : Int) = 0))) fun b50 => (b40, b50) else (s13.1, s13.2))
def F50_linkboyref18_Count (a0 : (List Candidate)) (a1 : ByteArray) : Bool := lt (runA (F50_linkboyref18_Count_b1 a1) a0 (false, false)) fun (s58 : Bool × Bool) => lt ((!decide (a1 = (⟨#[]⟩ : ByteArray))) && s58.1) fun b61 => lt (b61 && (!s58.2)) fun b67 => b67
/-- lb/lbref18.Filter -/
def F31_linkboyref18_Filter_b1 (a1 : ByteArray) (y8 : Bool) (x22 : Candidate) (s23 : (List Candidate)) : Option (List Candidate) := lt (x22.ready && (lt ((!y8) || (lt (F51_linkboyref18_Meant x22 a1) fun y54 => y54)) fun b52 => b52)) fun b50 => (if b50 = true then (apO s23 [x22]).bind fun z70 => some (s23 ++ [x22]) else some s23)
def F31_linkboyref18_Filter (a0 : (List Candidate)) (a1 : ByteArray) : Option (List Candidate) := lt (F50_linkboyref18_Count a0 a1) fun y8 => (runAO (F31_linkboyref18_Filter_b1 a1 y8) a0 []).bind fun (s83 : (List Candidate)) => some s83
/-- lb/lbref19.Choose -/
def F14_linkboyref19_Choose_b1  (x23 : Candidate) (s24 : (List Candidate)) : Option (List Candidate) := (if x23.localF = true then (apO s24 [x23]).bind fun z55 => some (s24 ++ [x23]) else some s24)
def F14_linkboyref19_Choose (a0 : (List Candidate)) (a1 : Want) : Option (List Candidate) := (if a1.localF = true then (runAO F14_linkboyref19_Choose_b1 a0 []).bind fun (s68 : (List Candidate)) => (F12_linkboyref19_Usable s68).bind fun y71 => some y71 else (F31_linkboyref18_Filter a0 a1.zone).bind fun y78 => lt (a1.hinted && (decide (((y78.length : Nat) : Int) > 0))) fun b85 => (if b85 = true then some y78 else (F12_linkboyref19_Usable a0).bind fun y92 => some y92))
/-- lb/lblaw19.PickChooses -/
def F3_linkboylaw19_PickChooses (a0 : (List Candidate)) (a1 : Want) : Option Bool := (F6_linkboylaw19_alive).bind fun y7 => (if (!y7) = true then some false else lt (F7_linkboylaw18_Long a0) fun y12 => lt (y12 || (lt (F8_linkboylaw19_long a1) fun y18 => y18)) fun b16 => (if b16 = true then some true else (F9_linkboylaw18_Of a0).bind fun y27 => (F11_pick_Usable a0).bind fun y33 => (F9_linkboylaw18_Of y33).bind fun y39 => (F12_linkboyref19_Usable y27).bind fun y45 => (F10_linkboyref18_All y39 y45).bind fun y51 => (andO y51 ((F13_pick_Choose a0 a1).bind fun y55 => (F9_linkboylaw18_Of y55).bind fun y61 => (F14_linkboyref19_Choose y27 a1).bind fun y67 => (F10_linkboyref18_All y61 y67).bind fun y73 => some y73)).bind fun b75 => (andO b75 ((F9_linkboylaw18_Of a0).bind fun y79 => (F10_linkboyref18_All y79 y27).bind fun y85 => some y85)).bind fun b87 => some b87))
/-- slices.Equal[[]string,string] -/
def F32_slices_Equal_string_string_b1 (a1 : (List ByteArray)) (x11 : ByteArray) (s12 : Nat) : Option (Step Bool Nat) := (ixO a1 ((s12 : Nat) : Int)).bind fun y31 => (if (!decide (x11 = y31)) = true then some (.ret false) else some (.next (s12 + 1)))
def F32_slices_Equal_string_string (a0 : (List ByteArray)) (a1 : (List ByteArray)) : Option Bool := (if (!decide (((a0.length : Nat) : Int) = ((a1.length : Nat) : Int))) = true then some false else (runBO (F32_slices_Equal_string_string_b1 a1) a0 0).bind fun o => o.elim (fun r => some r) fun (s63 : Nat) => some true)
/-- lb/hints.Same -/
def F15_hints_Same (a0 : Candidate) (a1 : Candidate) : Option Bool := lt ((a0.localF == a1.localF) && (a0.ready == a1.ready)) fun b11 => lt (b11 && (a0.serving == a1.serving)) fun b17 => lt (b17 && (a0.terminating == a1.terminating)) fun b23 => lt ((decide (a0.point = a1.point)) && b23) fun b29 => (andO b29 ((F32_slices_Equal_string_string a0.zones a1.zones).bind fun y37 => some y37)).bind fun b35 => some b35
/-- lb/lblaw19.PickRight -/
def F4_linkboylaw19_PickRight_b1 (a1 : Want) (x35 : Candidate) (s36 : Bool) : Bool := lt (s36 || (lt (x35.ready && (lt (x35.localF || (!a1.localF)) fun b66 => b66)) fun b64 => b64)) fun b62 => b62
def F4_linkboylaw19_PickRight_b3 (x98 : Candidate) (x171 : Candidate) (s172 : Bool) : Option Bool := (orO s172 ((F15_hints_Same x171 x98).bind fun y201 => some y201)).bind fun b199 => some b199
def F4_linkboylaw19_PickRight_b2 (a0 : (List Candidate)) (a1 : Want) (x25 : Bool) (x98 : Candidate) (s99 : Unit) : Option (Step Bool Unit) := lt (a1.localF && (!x98.localF)) fun b125 => lt (b125 || (lt (x25 && (!x98.ready)) fun b133 => b133)) fun b131 => lt (b131 || (lt ((!x98.ready) && (lt (x98.serving && x98.terminating) fun b147 => !b147)) fun b145 => b145)) fun b143 => (if b143 = true then some (.ret false) else (runAO (F4_linkboylaw19_PickRight_b3 x98) a0 false).bind fun (s211 : Bool) => (if (!s211) = true then some (.ret false) else some (.next ())))
def F4_linkboylaw19_PickRight (a0 : (List Candidate)) (a1 : Want) : Option Bool := (F6_linkboylaw19_alive).bind fun y7 => (if (!y7) = true then some false else lt (F7_linkboylaw18_Long a0) fun y12 => lt (y12 || (lt (F8_linkboylaw19_long a1) fun y18 => y18)) fun b16 => (if b16 = true then some true else lt (runA (F4_linkboylaw19_PickRight_b1 a1) a0 false) fun (s82 : Bool) => (F13_pick_Choose a0 a1).bind fun y85 => (runBO (F4_linkboylaw19_PickRight_b2 a0 a1 s82) y85 ()).bind fun o => o.elim (fun r => some r) fun (s218 : Unit) => lt ((!s82) || (decide (((y85.length : Nat) : Int) > 0))) fun b221 => some b221))
end Go.Proofs.Yteoaobiglodblaa
