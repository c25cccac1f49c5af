/- The functions of this program, printed as plain Lean functions (the specification side): no Go and no memory. Written by a program of this session. -/
import Derived.Test.YtlebjaljlhcbkaaS0
import GoSem.Dispatch
namespace Go.Proofs.Ytlebjaljlhcbkaa
open Go K
set_option linter.unusedVariables false
structure A16u8 where
  (e0 : Int)
  (e1 : Int)
  (e2 : Int)
  (e3 : Int)
  (e4 : Int)
  (e5 : Int)
  (e6 : Int)
  (e7 : Int)
  (e8 : Int)
  (e9 : Int)
  (e10 : Int)
  (e11 : Int)
  (e12 : Int)
  (e13 : Int)
  (e14 : Int)
  (e15 : Int)
  deriving DecidableEq
def A16u8.z : A16u8 := ⟨0, 0, 0, 0, 0, 0, 0, 0, 0, 0, 0, 0, 0, 0, 0, 0⟩
structure Addr where
  (six : Bool)
  (b : A16u8)
  deriving DecidableEq
def Addr.z : Addr := ⟨false, A16u8.z⟩
structure Point where
  (addr : Addr)
  (port : Int)
  deriving DecidableEq
def Point.z : Point := ⟨Addr.z, 0⟩
structure Candidate where
  (point : Point)
  (localF : Bool)
  (ready : Bool)
  (serving : Bool)
  (terminating : Bool)
  (zones : (List ByteArray))
  deriving DecidableEq
def Candidate.z : Candidate := ⟨Point.z, false, false, false, false, []⟩
/-- slices.Clone[[]lb/hints.Candidate,lb/hints.Candidate] -/
def F33_slices_Clone_hints_Candidate_hints_Candi (a0 : (List Candidate)) : Option (List Candidate) := (apO [] a0).bind fun z17 => some ([] ++ a0)
/-- lb/hints.kept$1 -/
def F34_hints_kept_1 (a0 : Candidate) (a1 : (Candidate → Bool)) : Bool := !(a1 a0)
/-- slices.IndexFunc[[]lb/hints.Candidate,lb/hints.Candidate] -/
def F38_slices_IndexFunc_hints_Candidate_hints_C_b1 (a1 : (Candidate → Bool)) (x10 : Candidate) (s11 : Nat) : Step Int Nat := (if (a1 x10) = true then .ret ((s11 : Nat) : Int) else .next (s11 + 1))
def F38_slices_IndexFunc_hints_Candidate_hints_C (a0 : (List Candidate)) (a1 : (Candidate → Bool)) : Int := lt (runB (F38_slices_IndexFunc_hints_Candidate_hints_C_b1 a1) a0 0) fun o => o.elim (fun r => r) fun (s34 : Nat) => (-1)
/-- slices.DeleteFunc[[]lb/hints.Candidate,lb/hints.Candidate] -/
def F32_slices_DeleteFunc_hints_Candidate_hints__b1 (a1 : (Candidate → Bool)) (s20 : Int × Int × (List Candidate)) : Option (Step Empty (Int × Int × (List Candidate))) := (if (decide (s20.2.1 < ((s20.2.2.length : Nat) : Int))) = true then (ixO s20.2.2 s20.2.1).bind fun y32 => (if (!(a1 y32)) = true then (ixO s20.2.2 s20.1).bind fun y55 => some (.next (IntKind.i64.wrap (s20.1 + 1), IntKind.i64.wrap (s20.2.1 + 1), s20.2.2.set s20.1.toNat y32)) else some (.next (s20.1, IntKind.i64.wrap (s20.2.1 + 1), s20.2.2))) else some (.fin (s20.1, s20.2.1, s20.2.2)))
def F32_slices_DeleteFunc_hints_Candidate_hints_ (a0 : (List Candidate)) (a1 : (Candidate → Bool)) : Option (List Candidate) := lt (F38_slices_IndexFunc_hints_Candidate_hints_C a0 a1) fun y3 => (if (decide (y3 = (-1))) = true then some a0 else (runW (F32_slices_DeleteFunc_hints_Candidate_hints__b1 a1) FUEL (y3, IntKind.i64.wrap (y3 + 1), a0)).bind fun o => o.elim (fun r => r.elim) fun (s65 : Int × Int × (List Candidate)) => (slO s65.2.2 s65.1 ((s65.2.2.length : Nat) : Int)).bind fun y66 => (slO (s65.2.2.take s65.1.toNat ++ List.replicate (s65.2.2.length - s65.1.toNat) Candidate.z) 0 s65.1).bind fun y74 => some y74)
/-- lb/hints.kept -/
def F22_hints_kept (a0 : (List Candidate)) (a1 : (Candidate → Bool)) : Option (List Candidate) := (F33_slices_Clone_hints_Candidate_hints_Candi a0).bind fun y7 => (F32_slices_DeleteFunc_hints_Candidate_hints_ y7 (fun x0 => F34_hints_kept_1 x0 a1)).bind fun y17 => some y17
/-- lb/hints.ready$1 -/
def F31_hints_ready_1 (a0 : Candidate) : Bool := a0.ready
/-- lb/hints.ready -/
def F21_hints_ready (a0 : (List Candidate)) : Option (List Candidate) := (F22_hints_kept a0 (fun x0 => F31_hints_ready_1 x0)).bind fun y3 => some y3
/-- slices.ContainsFunc[[]lb/hints.Candidate,lb/hints.Candidate] -/
def F28_slices_ContainsFunc_hints_Candidate_hint (a0 : (List Candidate)) (a1 : (Candidate → Bool)) : Bool := lt (F38_slices_IndexFunc_hints_Candidate_hints_C a0 a1) fun y3 => decide (y3 ≥ 0)
/-- lb/hints.Count$1 -/
def F29_hints_Count_1 (a0 : Candidate) : Bool := decide (((a0.zones.length : Nat) : Int) = 0)
/-- slices.Index[[]string,string] -/
def F37_slices_Index_string_string_b1 (a1 : ByteArray) (x10 : ByteArray) (s11 : Nat) : Step Int Nat := (if (decide (a1 = x10)) = true then .ret ((s11 : Nat) : Int) else .next (s11 + 1))
def F37_slices_Index_string_string (a0 : (List ByteArray)) (a1 : ByteArray) : Int := lt (runB (F37_slices_Index_string_string_b1 a1) a0 0) fun o => o.elim (fun r => r) fun (s30 : Nat) => (-1)
/-- slices.Contains[[]string,string] -/
def F26_slices_Contains_string_string (a0 : (List ByteArray)) (a1 : ByteArray) : Bool := lt (F37_slices_Index_string_string a0 a1) fun y3 => decide (y3 ≥ 0)
/-- lb/hints.Meant -/
def F10_hints_Meant (a0 : Candidate) (a1 : ByteArray) : Bool := lt (F26_slices_Contains_string_string a0.zones a1) fun y7 => y7
/-- lb/hints.Count$2 -/
def F30_hints_Count_2 (a0 : Candidate) (a1 : ByteArray) : Bool := lt (F10_hints_Meant a0 a1) fun y13 => y13
/-- lb/hints.Count -/
def F14_hints_Count (a0 : (List Candidate)) (a1 : ByteArray) : Option Bool := (F21_hints_ready a0).bind fun y7 => lt (F28_slices_ContainsFunc_hints_Candidate_hint y7 (fun x0 => F29_hints_Count_1 x0)) fun y13 => lt ((!decide (a1 = (⟨#[]⟩ : ByteArray))) && (!y13)) fun b17 => lt (b17 && (lt (F28_slices_ContainsFunc_hints_Candidate_hint y7 (fun x0 => F30_hints_Count_2 x0 a1)) fun y25 => y25)) fun b23 => some b23
/-- lb/lblaw18.alive -/
def F5_linkboylaw18_alive  : Option Bool := (F14_hints_Count [({ point := Point.z, localF := false, ready := true, serving := false, terminating := false, zones := [(⟨#[122, 49]⟩ : ByteArray)] } : Candidate), ({ point := Point.z, localF := false, ready := true, serving := false, terminating := false, zones := [] } : Candidate)] (⟨#[122, 49]⟩ : ByteArray)).bind fun y32 => (andO (!y32) ((F14_hints_Count [({ point := Point.z, localF := false, ready := true, serving := false, terminating := false, zones := [(⟨#[122, 49]⟩ : ByteArray)] } : Candidate), ({ point := Point.z, localF := false, ready := true, serving := false, terminating := false, zones := [(⟨#[122, 49]⟩ : ByteArray)] } : Candidate)] (⟨#[122, 49]⟩ : ByteArray)).bind fun y43 => some y43)).bind fun b36 => some b36
/-- lb/lbnum.Long -/
def F20_linkboynum_Long_b1 (a1 : Int) (x11 : ByteArray) (s12 : Int) : Step Bool Int := (if (decide (((x11.size : Nat) : Int) > a1)) = true then .ret true else (if (decide ((IntKind.i64.wrap (s12 + (IntKind.i64.wrap (1 + ((x11.size : Nat) : Int))))) > a1)) = true then .ret true else .next (IntKind.i64.wrap (s12 + (IntKind.i64.wrap (1 + ((x11.size : Nat) : Int)))))))
def F20_linkboynum_Long (a0 : (List ByteArray)) (a1 : Int) : Bool := lt (runB (F20_linkboynum_Long_b1 a1) a0 0) fun o => o.elim (fun r => r) fun (s33 : Int) => false
/-- lb/lblaw18.Long -/
def F6_linkboylaw18_Long_b1  (x11 : Candidate) (s12 : Unit) : Step Bool Unit := lt (F20_linkboynum_Long x11.zones 400) fun y38 => (if y38 = true then .ret true else .next ())
def F6_linkboylaw18_Long (a0 : (List Candidate)) : Bool := (if (decide (((a0.length : Nat) : Int) > 60)) = true then true else lt (runB F6_linkboylaw18_Long_b1 a0 ()) fun o => o.elim (fun r => r) fun (s46 : Unit) => false)
/-- lb/hints.Filter$1 -/
def F23_hints_Filter_1 (a0 : Candidate) (a1 : ByteArray) : Bool := lt (F10_hints_Meant a0 a1) fun y13 => y13
/-- lb/hints.Filter -/
def F7_hints_Filter (a0 : (List Candidate)) (a1 : ByteArray) : Option (List Candidate) := (F21_hints_ready a0).bind fun y7 => (F14_hints_Count a0 a1).bind fun y14 => (if (!y14) = true then some y7 else (F22_hints_kept y7 (fun x0 => F23_hints_Filter_1 x0 a1)).bind fun y19 => some y19)
/-- slices.Sort[[]string,string] -/
def F24_slices_Sort_string (a0 : List ByteArray) : List ByteArray := sortS a0
/-- slices.Compact[[]string,string] -/
def F25_slices_Compact_string_string_b2 (x2 : Int) (y63 : (List ByteArray)) (s81 : Int × Int × (List ByteArray)) : Option (Step Empty (Int × Int × (List ByteArray))) := (if (decide (s81.2.1 < ((y63.length : Nat) : Int))) = true then (ixO (s81.2.2.drop x2.toNat) s81.2.1).bind fun y93 => (ixO (s81.2.2.drop x2.toNat) (IntKind.i64.wrap (s81.2.1 - 1))).bind fun y101 => (if (!decide (y93 = y101)) = true then (ixO (s81.2.2.drop x2.toNat) s81.2.1).bind fun y135 => (ixO s81.2.2 s81.1).bind fun y143 => some (.next (IntKind.i64.wrap (s81.1 + 1), IntKind.i64.wrap (s81.2.1 + 1), s81.2.2.set s81.1.toNat y135)) else some (.next (s81.1, IntKind.i64.wrap (s81.2.1 + 1), s81.2.2))) else some (.fin (s81.1, s81.2.1, s81.2.2)))
def F25_slices_Compact_string_string_b1  (s15 : Int × (List ByteArray)) : Option (Step (List ByteArray) (Int × (List ByteArray))) := (if (decide (s15.1 < ((s15.2.length : Nat) : Int))) = true then (ixO s15.2 s15.1).bind fun y27 => (ixO s15.2 (IntKind.i64.wrap (s15.1 - 1))).bind fun y35 => (if (decide (y27 = y35)) = true then (slO s15.2 s15.1 ((s15.2.length : Nat) : Int)).bind fun y63 => (runW (F25_slices_Compact_string_string_b2 s15.1 y63) FUEL (s15.1, 1, s15.2)).bind fun o => o.elim (fun r => r.elim) fun (s153 : Int × Int × (List ByteArray)) => (slO s153.2.2 s153.1 ((s153.2.2.length : Nat) : Int)).bind fun y154 => (slO (s153.2.2.take s153.1.toNat ++ List.replicate (s153.2.2.length - s153.1.toNat) ⟨#[]⟩) 0 s153.1).bind fun y162 => some (.ret y162) else some (.next (IntKind.i64.wrap (s15.1 + 1), s15.2))) else some (.fin (s15.1, s15.2)))
def F25_slices_Compact_string_string (a0 : (List ByteArray)) : Option (List ByteArray) := (if (decide (((a0.length : Nat) : Int) < 2)) = true then some a0 else (runW F25_slices_Compact_string_string_b1 FUEL (1, a0)).bind fun o => o.elim (fun r => some r) fun (s174 : Int × (List ByteArray)) => some s174.2)
/-- lb/hints.Zones -/
def F8_hints_Zones_b1  (x20 : Candidate) (s21 : (List ByteArray)) : Option (List ByteArray) := (apO s21 x20.zones).bind fun z54 => some (s21 ++ x20.zones)
def F8_hints_Zones (a0 : (List Candidate)) : Option (List ByteArray) := (F21_hints_ready a0).bind fun y3 => (runAO F8_hints_Zones_b1 y3 ([] : List ByteArray)).bind fun (s61 : (List ByteArray)) => lt (F24_slices_Sort_string s61) fun y66 => (F25_slices_Compact_string_string y66).bind fun y75 => some y75
/-- lb/lblaw18.HintsLeave -/
def F3_linkboylaw18_HintsLeave_b1  (x27 : Candidate) (s28 : Int) : Int := (if x27.ready = true then IntKind.i64.wrap (s28 + 1) else s28)
def F3_linkboylaw18_HintsLeave_b2  (x73 : Candidate) (s74 : Unit) : Step Bool Unit := (if (!x73.ready) = true then .ret false else .next ())
def F3_linkboylaw18_HintsLeave_b3 (a1 : ByteArray) (x121 : ByteArray) (s122 : Bool) : Bool := lt (s122 || (decide (x121 = a1))) fun b137 => b137
def F3_linkboylaw18_HintsLeave (a0 : (List Candidate)) (a1 : ByteArray) : Option Bool := (F5_linkboylaw18_alive).bind fun y3 => (if (!y3) = true then some false else lt (F6_linkboylaw18_Long a0) fun y8 => lt (y8 || (decide (((a1.size : Nat) : Int) > 100))) fun b12 => (if b12 = true then some true else lt (runA F3_linkboylaw18_HintsLeave_b1 a0 0) fun (s57 : Int) => (F7_hints_Filter a0 a1).bind fun y60 => lt (runB F3_linkboylaw18_HintsLeave_b2 y60 ()) fun o => o.elim (fun r => some r) fun (s104 : Unit) => (F8_hints_Zones a0).bind fun y107 => lt (runA (F3_linkboylaw18_HintsLeave_b3 a1) y107 false) fun (s145 : Bool) => lt ((decide (((y60.length : Nat) : Int) ≤ s57)) && ((decide (((y60.length : Nat) : Int) > 0)) == (decide (s57 > 0)))) fun b148 => lt (b148 && (lt (s145 || (decide (((y60.length : Nat) : Int) = s57))) fun b156 => b156)) fun b154 => some b154))
/-- lb/lblaw18.Of -/
def F9_linkboylaw18_Of_b1  (x18 : Candidate) (s19 : (List Candidate)) : Option (List Candidate) := (apO s19 [x18]).bind fun z57 => some (s19 ++ [x18])
def F9_linkboylaw18_Of (a0 : (List Candidate)) : Option (List Candidate) := (runAO F9_linkboylaw18_Of_b1 a0 []).bind fun (s64 : (List Candidate)) => some s64
/-- lb/lbref18.Meant -/
def F11_linkboyref18_Meant_b1 (a1 : ByteArray) (x14 : ByteArray) (s15 : Unit) : Step Bool Unit := (if (decide (x14 = a1)) = true then .ret true else .next ())
def F11_linkboyref18_Meant (a0 : Candidate) (a1 : ByteArray) : Bool := lt (runB (F11_linkboyref18_Meant_b1 a1) a0.zones ()) fun o => o.elim (fun r => r) fun (s34 : Unit) => false
/-- slices.Equal[[]string,string] -/
def F27_slices_Equal_string_string_b1 (a1 : (List ByteArray)) (x11 : ByteArray) (s12 : Nat) : Option (Step Bool Nat) := (ixO a1 ((s12 : Nat) : Int)).bind fun y31 => (if (!decide (x11 = y31)) = true then some (.ret false) else some (.next (s12 + 1)))
def F27_slices_Equal_string_string (a0 : (List ByteArray)) (a1 : (List ByteArray)) : Option Bool := (if (!decide (((a0.length : Nat) : Int) = ((a1.length : Nat) : Int))) = true then some false else (runBO (F27_slices_Equal_string_string_b1 a1) a0 0).bind fun o => o.elim (fun r => some r) fun (s63 : Nat) => some true)
/-- lb/hints.Same -/
def F12_hints_Same (a0 : Candidate) (a1 : Candidate) : Option Bool := lt ((a0.localF == a1.localF) && (a0.ready == a1.ready)) fun b11 => lt (b11 && (a0.serving == a1.serving)) fun b17 => lt (b17 && (a0.terminating == a1.terminating)) fun b23 => lt ((decide (a0.point = a1.point)) && b23) fun b29 => (andO b29 ((F27_slices_Equal_string_string a0.zones a1.zones).bind fun y37 => some y37)).bind fun b35 => some b35
/-- lb/lbnum.SameTexts -/
def F18_linkboynum_SameTexts_b1 (a1 : (List ByteArray)) (x11 : ByteArray) (s12 : Nat) : Option (Step Bool Nat) := (ixO a1 ((s12 : Nat) : Int)).bind fun y31 => (if (!decide (x11 = y31)) = true then some (.ret false) else some (.next (s12 + 1)))
def F18_linkboynum_SameTexts (a0 : (List ByteArray)) (a1 : (List ByteArray)) : Option Bool := (if (!decide (((a0.length : Nat) : Int) = ((a1.length : Nat) : Int))) = true then some false else (runBO (F18_linkboynum_SameTexts_b1 a1) a0 0).bind fun o => o.elim (fun r => some r) fun (s63 : Nat) => some true)
/-- lb/lbref18.Same -/
def F13_linkboyref18_Same (a0 : Candidate) (a1 : Candidate) : Option Bool := lt ((decide (a0.point = a1.point)) && (a0.localF == a1.localF)) fun b11 => lt (b11 && (a0.ready == a1.ready)) fun b17 => lt (b17 && (a0.serving == a1.serving)) fun b23 => lt (b23 && (a0.terminating == a1.terminating)) fun b29 => (andO b29 ((F18_linkboynum_SameTexts a0.zones a1.zones).bind fun y37 => some y37)).bind fun b35 => some b35
/-- lb/lbref18.Count -/
def F15_linkboyref18_Count_b1 (a1 : ByteArray) (x12 : Candidate) (s13 : Bool × Bool) : Bool × Bool := (if x12.ready = true then lt (s13.1 || (lt (F11_linkboyref18_Meant x12 a1) fun y42 => y42)) fun b40 => lt (s13.2 || (decide (((x12.zones.length : Nat) : Int) = 0))) fun b50 => (b40, b50) else (s13.1, s13.2))
def F15_linkboyref18_Count (a0 : (List Candidate)) (a1 : ByteArray) : Bool := lt (runA (F15_linkboyref18_Count_b1 a1) a0 (false, false)) fun (s58 : Bool × Bool) => lt ((!decide (a1 = (⟨#[]⟩ : ByteArray))) && s58.1) fun b61 => lt (b61 && (!s58.2)) fun b67 => b67
/-- lb/lbref18.Filter -/
def F17_linkboyref18_Filter_b1 (a1 : ByteArray) (y8 : Bool) (x22 : Candidate) (s23 : (List Candidate)) : Option (List Candidate) := lt (x22.ready && (lt ((!y8) || (lt (F11_linkboyref18_Meant x22 a1) fun y54 => y54)) fun b52 => b52)) fun b50 => (if b50 = true then (apO s23 [x22]).bind fun z78 => some (s23 ++ [x22]) else some s23)
def F17_linkboyref18_Filter (a0 : (List Candidate)) (a1 : ByteArray) : Option (List Candidate) := lt (F15_linkboyref18_Count a0 a1) fun y8 => (runAO (F17_linkboyref18_Filter_b1 a1 y8) a0 []).bind fun (s85 : (List Candidate)) => some s85
/-- lb/lbref18.All -/
def F16_linkboyref18_All_b1 (a1 : (List Candidate)) (x11 : Candidate) (s12 : Nat) : Option (Step Bool Nat) := (ixO a1 ((s12 : Nat) : Int)).bind fun y33 => (F13_linkboyref18_Same x11 y33).bind fun y39 => (if (!y39) = true then some (.ret false) else some (.next (s12 + 1)))
def F16_linkboyref18_All (a0 : (List Candidate)) (a1 : (List Candidate)) : Option Bool := (if (!decide (((a0.length : Nat) : Int) = ((a1.length : Nat) : Int))) = true then some false else (runBO (F16_linkboyref18_All_b1 a1) a0 0).bind fun o => o.elim (fun r => some r) fun (s77 : Nat) => some true)
/-- lb/lbref18.Zones -/
def F19_linkboyref18_Zones_b3 (x45 : (List ByteArray)) (x58 : ByteArray) (s84 : Int) : Option (Step Empty Int) := (andO (decide (s84 > 0)) ((ixO x45 (IntKind.i64.wrap (s84 - 1))).bind fun y97 => some (Op.bytesLess x58.toList y97.toList))).bind fun b91 => (if b91 = true then some (.next (IntKind.i64.wrap (s84 - 1))) else some (.fin s84))
def F19_linkboyref18_Zones_b2  (x58 : ByteArray) (s59 : (List ByteArray)) : Option (List ByteArray) := (runW (F19_linkboyref18_Zones_b3 s59 x58) FUEL ((s59.length : Nat) : Int)).bind fun o => o.elim (fun r => r.elim) fun (s108 : Int) => (andO (decide (s108 > 0)) ((ixO s59 (IntKind.i64.wrap (s108 - 1))).bind fun y117 => some (decide (y117 = x58)))).bind fun b111 => (if b111 = true then some s59 else (slO s59 0 s108).bind fun y130 => (apO [] y130).bind fun z142 => (apO ([] ++ y130) [x58]).bind fun z158 => (slO s59 s108 ((s59.length : Nat) : Int)).bind fun y161 => (apO (([] ++ y130) ++ [x58]) y161).bind fun z173 => some ((([] ++ y130) ++ [x58]) ++ y161))
def F19_linkboyref18_Zones_b1  (x18 : Candidate) (s19 : (List ByteArray)) : Option (List ByteArray) := (if (!x18.ready) = true then some s19 else (runAO F19_linkboyref18_Zones_b2 x18.zones s19).bind fun (s247 : (List ByteArray)) => some s247)
def F19_linkboyref18_Zones (a0 : (List Candidate)) : Option (List ByteArray) := (runAO F19_linkboyref18_Zones_b1 a0 []).bind fun (s252 : (List ByteArray)) => some s252
/-- lb/lblaw18.HintsFilter -/
def F4_linkboylaw18_HintsFilter_b1 (a0 : (List Candidate)) (a1 : ByteArray) (y19 : (List Candidate)) (x32 : Candidate) (s33 : Nat) : Option (Step Bool Nat) := lt (F10_hints_Meant x32 a1) fun y59 => (ixO y19 ((s33 : Nat) : Int)).bind fun y67 => lt (F11_linkboyref18_Meant y67 a1) fun y73 => (orO (!(y59 == y73)) ((ixO a0 0).bind fun y81 => (F12_hints_Same x32 y81).bind fun y87 => (ixO y19 ((s33 : Nat) : Int)).bind fun y95 => (ixO y19 0).bind fun y105 => (F13_linkboyref18_Same y95 y105).bind fun y111 => some (!(y87 == y111)))).bind fun b113 => (if b113 = true then some (.ret false) else some (.next (s33 + 1)))
def F4_linkboylaw18_HintsFilter (a0 : (List Candidate)) (a1 : ByteArray) : Option Bool := (F5_linkboylaw18_alive).bind fun y3 => (if (!y3) = true then some false else lt (F6_linkboylaw18_Long a0) fun y8 => lt (y8 || (decide (((a1.size : Nat) : Int) > 100))) fun b12 => (if b12 = true then some true else (F9_linkboylaw18_Of a0).bind fun y19 => (runBO (F4_linkboylaw18_HintsFilter_b1 a0 a1 y19) a0 0).bind fun o => o.elim (fun r => some r) fun (s253 : Nat) => (F14_hints_Count a0 a1).bind fun y256 => lt (F15_linkboyref18_Count y19 a1) fun y260 => (andO (y256 == y260) ((F7_hints_Filter a0 a1).bind fun y266 => (F9_linkboylaw18_Of y266).bind fun y272 => (F17_linkboyref18_Filter y19 a1).bind fun y278 => (F16_linkboyref18_All y272 y278).bind fun y284 => some y284)).bind fun b264 => (andO b264 ((F8_hints_Zones a0).bind fun y294 => (F19_linkboyref18_Zones y19).bind fun y300 => (F18_linkboynum_SameTexts y294 y300).bind fun y306 => some y306)).bind fun b292 => (andO b292 ((F9_linkboylaw18_Of a0).bind fun y316 => (F16_linkboyref18_All y316 y19).bind fun y322 => some y322)).bind fun b314 => some b314))
end Go.Proofs.Ytlebjaljlhcbkaa
