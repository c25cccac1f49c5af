/- The functions of this program, printed as plain Lean functions (the specification side): no Go and no memory. Written by a program of this session. -/
import Derived.Test.YtkopifmkikaaiaaS5
import GoSem.Dispatch
namespace Go.Proofs.Ytkopifmkikaaiaa
open Go K
set_option linter.unusedVariables false
structure Key where
  (space : ByteArray)
  (name : ByteArray)
  deriving DecidableEq
def Key.z : Key := ⟨⟨#[]⟩, ⟨#[]⟩⟩
structure St50 where

  deriving DecidableEq
def St50.z : St50 := ⟨⟩
structure Index_2 where
  (owner : (List (Key × Key)))
  (slices : (List (Key × (List (Key × St50)))))
  deriving DecidableEq
def Index_2.z : Index_2 := ⟨[], []⟩
structure Act where
  (kind : Int)
  (slice : Key)
  (owner : Key)
  deriving DecidableEq
def Act.z : Act := ⟨0, Key.z, Key.z⟩
structure A2Key where
  (e0 : Key)
  (e1 : Key)
  deriving DecidableEq
def A2Key.z : A2Key := ⟨Key.z, Key.z⟩
structure Index_3 where
  (all : (List A2Key))
  deriving DecidableEq
def Index_3.z : Index_3 := ⟨[]⟩
/-- lb/index.New -/
def F7_New  : Index_2 := ({ owner := ([] : (List (Key × Key))), slices := ([] : (List (Key × (List (Key × St50))))) } : Index_2)
/-- (*lb/index.Index).Drop -/
def F10_Drop (a0 : Index_2) (a1 : Key) : (Key × Bool × Index_2) := (if (!((mget a0.owner a1).isSome)) = true then (({ space := ⟨#[]⟩, name := ⟨#[]⟩ } : Key), false, a0) else (if (decide (((((mget (mmod a0.slices ((mget a0.owner a1).getD Key.z) (fun m => mdel m a1)) ((mget a0.owner a1).getD Key.z)).getD []).length : Nat) : Int) = 0)) = true then (((mget a0.owner a1).getD Key.z), true, ({ owner := mdel a0.owner a1, slices := mdel (mmod a0.slices ((mget a0.owner a1).getD Key.z) (fun m => mdel m a1)) ((mget a0.owner a1).getD Key.z) } : Index_2)) else (((mget a0.owner a1).getD Key.z), true, ({ owner := mdel a0.owner a1, slices := mmod a0.slices ((mget a0.owner a1).getD Key.z) (fun m => mdel m a1) } : Index_2))))
/-- (*lb/index.Index).Put -/
def F8_Put (a0 : Index_2) (a1 : Key) (a2 : Key) : Option (Key × Bool × Index_2) := lt (F10_Drop a0 a1) fun y21 => (if ((mget y21.2.2.slices a2).isNone) = true then (mmnew y21.2.2.slices a2).bind fun y94 => (mget y94 a2).bind fun y188 => some (y21.1, y21.2.1, ({ owner := mput y21.2.2.owner a1 a2, slices := mput y94 a2 (mput y188 a1 ({  } : St50)) } : Index_2)) else (mget y21.2.2.slices a2).bind fun y218 => some (y21.1, y21.2.1, ({ owner := mput y21.2.2.owner a1 a2, slices := mput y21.2.2.slices a2 (mput y218 a1 ({  } : St50)) } : Index_2)))
/-- slices.Clone[[]lb/api.Key,lb/api.Key] -/
def F26_Key (a0 : (List Key)) : Option (List Key) := (apO [] a0).bind fun z17 => some ([] ++ a0)
/-- slices.SortFunc[[]lb/api.Key,lb/api.Key] -/
noncomputable def F27_slices_SortFunc (a0 : (List Key)) (a1 : (Key → Key → Int)) : Option (List Key) := sortO a0 a1
/-- cmp.isNaN[string] -/
def F48_string (a0 : ByteArray) : Bool := !decide (a0 = a0)
/-- cmp.Compare[string] -/
def F37_string (a0 : ByteArray) (a1 : ByteArray) : Int := lt (F48_string a0) fun y3 => lt (F48_string a1) fun y7 => (if y3 = true then (if y7 = true then 0 else (-1)) else (if y7 = true then 1 else (if (Op.bytesLess a0.toList a1.toList) = true then (-1) else (if (!(Op.bytesLess a0.toList a1.toList || decide (a0 = a1))) = true then 1 else 0))))
/-- cmp.Or[int] -/
def F36_int_b1  (x10 : Int) (s11 : Unit) : Step Int Unit := (if (!decide (x10 = 0)) = true then .ret x10 else .next ())
def F36_int (a0 : (List Int)) : Int := lt (runB F36_int_b1 a0 ()) fun o => o.elim (fun r => r) fun (s30 : Unit) => 0
/-- lb/names.Compare -/
def F28_Compare (a0 : Key) (a1 : Key) : Int := lt (F37_string a0.space a1.space) fun y11 => lt (F37_string a0.name a1.name) fun y15 => lt (F36_int [y11, y15]) fun y24 => y24
/-- slices.Compact[[]lb/api.Key,lb/api.Key] -/
def F29_Key_b2 (x2 : Int) (y64 : (List Key)) (s82 : Int × Int × (List Key)) : Option (Step Empty (Int × Int × (List Key))) := (if (decide (s82.2.1 < ((y64.length : Nat) : Int))) = true then (ixO (s82.2.2.drop x2.toNat) s82.2.1).bind fun y94 => (ixO (s82.2.2.drop x2.toNat) (IntKind.i64.wrap (s82.2.1 - 1))).bind fun y102 => (if (!decide (y94 = y102)) = true then (ixO (s82.2.2.drop x2.toNat) s82.2.1).bind fun y137 => (ixO s82.2.2 s82.1).bind fun y145 => some (.next (IntKind.i64.wrap (s82.1 + 1), IntKind.i64.wrap (s82.2.1 + 1), s82.2.2.set s82.1.toNat y137)) else some (.next (s82.1, IntKind.i64.wrap (s82.2.1 + 1), s82.2.2))) else some (.fin (s82.1, s82.2.1, s82.2.2)))
def F29_Key_b1  (s15 : Int × (List Key)) : Option (Step (List Key) (Int × (List Key))) := (if (decide (s15.1 < ((s15.2.length : Nat) : Int))) = true then (ixO s15.2 s15.1).bind fun y27 => (ixO s15.2 (IntKind.i64.wrap (s15.1 - 1))).bind fun y35 => (if (decide (y27 = y35)) = true then (slO s15.2 s15.1 ((s15.2.length : Nat) : Int)).bind fun y64 => (runW (F29_Key_b2 s15.1 y64) FUEL (s15.1, 1, s15.2)).bind fun o => o.elim (fun r => r.elim) fun (s155 : Int × Int × (List Key)) => (slO s155.2.2 s155.1 ((s155.2.2.length : Nat) : Int)).bind fun y156 => (slO (s155.2.2.take s155.1.toNat ++ List.replicate (s155.2.2.length - s155.1.toNat) Key.z) 0 s155.1).bind fun y164 => some (.ret y164) else some (.next (IntKind.i64.wrap (s15.1 + 1), s15.2))) else some (.fin (s15.1, s15.2)))
def F29_Key (a0 : (List Key)) : Option (List Key) := (if (decide (((a0.length : Nat) : Int) < 2)) = true then some a0 else (runW F29_Key_b1 FUEL (1, a0)).bind fun o => o.elim (fun r => some r) fun (s176 : Int × (List Key)) => some s176.2)
/-- lb/names.Sort -/
noncomputable def F21_Sort (a0 : (List Key)) : Option (List Key) := (F26_Key a0).bind fun y3 => (F27_slices_SortFunc y3 (fun x0 x1 => F28_Compare x0 x1)).bind fun y13 => (F29_Key y13).bind fun y21 => some y21
/-- (*lb/index.Index).Slices -/
noncomputable def F16_Slices (a0 : Index_2) (a1 : Key) : Option (List Key) := anyPerm (((mget a0.slices a1).getD []).map (·.1)) fun ys23 => (F21_Sort ys23).bind fun y31 => some y31
/-- lb/lblaw16.alive -/
noncomputable def F5_alive  : Option Bool := lt (F7_New) fun y3 => (F8_Put y3 ({ space := (⟨#[97]⟩ : ByteArray), name := (⟨#[115, 49]⟩ : ByteArray) } : Key) ({ space := (⟨#[97]⟩ : ByteArray), name := (⟨#[119, 101, 98]⟩ : ByteArray) } : Key)).bind fun y52 => (F16_Slices y52.2.2 ({ space := (⟨#[97]⟩ : ByteArray), name := (⟨#[119, 101, 98]⟩ : ByteArray) } : Key)).bind fun y92 => lt (((!y52.2.1) && (decide (((y92.length : Nat) : Int) = 1)))) fun b96 => (andO b96 ((ixO y92 0).bind fun y104 => some (decide (y104 = ({ space := (⟨#[97]⟩ : ByteArray), name := (⟨#[115, 49]⟩ : ByteArray) } : Key))))).bind fun b106 => some b106
/-- lb/lblaw16.Long -/
def F6_Long_b1  (x11 : Act) (s12 : Unit) : Step Bool Unit := lt ((decide (((x11.slice.space.size : Nat) : Int) > 100)) || (decide (((x11.slice.name.size : Nat) : Int) > 100))) fun b37 => lt (b37 || (decide (((x11.owner.space.size : Nat) : Int) > 100))) fun b43 => lt (b43 || (decide (((x11.owner.name.size : Nat) : Int) > 100))) fun b49 => (if b49 = true then .ret true else .next ())
def F6_Long (a0 : (List Act)) : Bool := (if (decide (((a0.length : Nat) : Int) > 40)) = true then true else lt (runB F6_Long_b1 a0 ()) fun o => o.elim (fun r => r) fun (s60 : Unit) => false)
/-- (*lb/index.Index).Owners -/
noncomputable def F14_Owners (a0 : Index_2) : Option (List Key) := anyPerm (a0.slices.map (·.1)) fun ys8 => (F21_Sort ys8).bind fun y16 => some y16
/-- (*lb/index.Index).Owner -/
def F18_Owner (a0 : Index_2) (a1 : Key) : (Key × Bool) := (((mget a0.owner a1).getD Key.z), (mget a0.owner a1).isSome)
/-- (*lb/index.Index).Len -/
def F12_Len (a0 : Index_2) : Int := ((a0.owner.length : Nat) : Int)
/-- lb/lbref16.Same -/
def F13_Same_b1 (a1 : (List Key)) (x11 : Key) (s12 : Nat) : Option (Step Bool Nat) := (ixO a1 ((s12 : Nat) : Int)).bind fun y31 => (if (!decide (x11 = y31)) = true then some (.ret false) else some (.next (s12 + 1)))
def F13_Same (a0 : (List Key)) (a1 : (List Key)) : Option Bool := (if (!decide (((a0.length : Nat) : Int) = ((a1.length : Nat) : Int))) = true then some false else (runBO (F13_Same_b1 a1) a0 0).bind fun o => o.elim (fun r => some r) fun (s64 : Nat) => some true)
/-- lb/lblaw16.IndexWhole -/
def F4_IndexWho_b1  (x77 : Act) (s78 : Index_2) : Option Index_2 := (if (decide (x77.kind = 0)) = true then (F8_Put s78 x77.slice x77.owner).bind fun y110 => some y110.2.2 else lt (F10_Drop s78 x77.slice) fun y136 => some y136.2.2)
def F4_IndexWho_b3 (x53 : Index_2) (x53 : Index_2) (x187 : Key) (x244 : Key) (s245 : Unit) : Step Bool Unit := lt (F18_Owner x53 x244) fun y277 => lt ((!y277.2) || (!decide (y277.1 = x187))) fun b297 => (if b297 = true then .ret false else .next ())
noncomputable def F4_IndexWho_b2 (x53 : Index_2) (x53 : Index_2) (x187 : Key) (s188 : Int) : Option (Step Bool Int) := (F16_Slices x53 x187).bind fun y219 => (if (decide (((y219.length : Nat) : Int) = 0)) = true then some (.ret false) else lt (runB (F4_IndexWho_b3 x53 x53 x187) y219 ()) fun o => o.elim (fun r => some (.ret r)) fun (s310 : Unit) => some (.next (IntKind.i64.wrap (s188 + ((y219.length : Nat) : Int)))))
noncomputable def F4_IndexWho (a0 : (List Act)) (a1 : Act) : Option Bool := (F5_alive).bind fun y7 => (if (!y7) = true then some false else (apO [a1] a0).bind fun z23 => lt (F6_Long ([a1] ++ a0)) fun y27 => (if y27 = true then some true else lt (F7_New) fun y32 => (runAO F4_IndexWho_b1 a0 y32).bind fun (s162 : Index_2) => (F14_Owners s162).bind fun y167 => (runBO (F4_IndexWho_b2 s162 s162) y167 0).bind fun o => o.elim (fun r => some r) fun (s316 : Int) => anyOf (∀ X s o, ∃ r, F8_Put X s o = some r) fun X317 => (F14_Owners s162).bind fun y352 => lt (F12_Len s162) fun y360 => (F8_Put X317 a1.slice a1.owner).bind fun y366 => lt (F10_Drop y366.2.2 a1.owner) fun y395 => lt ((decide (s316 = y360)) && (lt (F12_Len s162) fun y426 => decide (y426 = y360))) fun b422 => (andO b422 ((F14_Owners s162).bind fun y438 => (F13_Same y438 y352).bind fun y444 => some y444)).bind fun b434 => some b434))
/-- (*lb/lbref16.Index).Owner -/
def F19_Owner_b1 (a1 : Key) (x25 : A2Key) (s26 : Key) : Step (Key × Bool) Key := (if (decide (x25.e0 = a1)) = true then .ret (x25.e1, true) else .next s26)
def F19_Owner (a0 : Index_3) (a1 : Key) : (Key × Bool) := lt (runB (F19_Owner_b1 a1) a0.all Key.z) fun o => o.elim (fun r => r) fun (s63 : Key) => (({ space := ⟨#[]⟩, name := ⟨#[]⟩ } : Key), false)
/-- (*lb/lbref16.Index).Drop -/
def F11_Drop_b1 (a1 : Key) (x64 : A2Key) (s65 : (List A2Key)) : Option (List A2Key) := (if (!decide (x64.e0 = a1)) = true then (apO s65 [x64]).bind fun z107 => some (s65 ++ [x64]) else some s65)
def F11_Drop (a0 : Index_3) (a1 : Key) : Option (Key × Bool × Index_3) := lt (F19_Owner a0 a1) fun y16 => (runAO (F11_Drop_b1 a1) a0.all []).bind fun (s121 : (List A2Key)) => some (y16.1, y16.2, ({ all := s121 } : Index_3))
/-- (*lb/lbref16.Index).Put -/
def F9_Put (a0 : Index_3) (a1 : Key) (a2 : Key) : Option (Key × Bool × Index_3) := (F11_Drop a0 a1).bind fun y20 => (apO y20.2.2.all [({ e0 := a1, e1 := a2 } : A2Key)]).bind fun z57 => some (y20.1, y20.2.1, ({ all := y20.2.2.all ++ [({ e0 := a1, e1 := a2 } : A2Key)] } : Index_3))
/-- lb/lbref05.Compare -/
def F32_Compare (a0 : Key) (a1 : Key) : Int := lt ((Op.bytesLess a0.space.toList a1.space.toList) || (lt ((decide (a0.space = a1.space)) && (Op.bytesLess a0.name.toList a1.name.toList)) fun b13 => b13)) fun b11 => (if b11 = true then (-1) else (if (decide (a0 = a1)) = true then 0 else 1))
/-- lb/lbref05.Sort -/
def F24_Sort_b2 (x6 : (List Key)) (x18 : Key) (s55 : Int) : Option (Step Empty Int) := (andO (decide (s55 > 0)) ((ixO x6 (IntKind.i64.wrap (s55 - 1))).bind fun y66 => lt (F32_Compare x18 y66) fun y70 => some (decide (y70 < 0)))).bind fun b72 => (if b72 = true then some (.next (IntKind.i64.wrap (s55 - 1))) else some (.fin s55))
def F24_Sort_b1  (x18 : Key) (s19 : (List Key)) : Option (List Key) := (runW (F24_Sort_b2 s19 x18) FUEL ((s19.length : Nat) : Int)).bind fun o => o.elim (fun r => r.elim) fun (s135 : Int) => (andO (decide (s135 > 0)) ((ixO s19 (IntKind.i64.wrap (s135 - 1))).bind fun y142 => some (decide (y142 = x18)))).bind fun b144 => (if b144 = true then some s19 else (slO s19 0 s135).bind fun y206 => (apO [] y206).bind fun z218 => (apO ([] ++ y206) [x18]).bind fun z234 => (slO s19 s135 ((s19.length : Nat) : Int)).bind fun y237 => (apO (([] ++ y206) ++ [x18]) y237).bind fun z249 => some ((([] ++ y206) ++ [x18]) ++ y237))
def F24_Sort (a0 : (List Key)) : Option (List Key) := (runAO F24_Sort_b1 a0 []).bind fun (s350 : (List Key)) => some s350
/-- (*lb/lbref16.Index).Owners -/
def F15_Owners_b1  (x24 : A2Key) (s25 : (List Key)) : Option (List Key) := (apO s25 [x24.e1]).bind fun z63 => some (s25 ++ [x24.e1])
def F15_Owners (a0 : Index_3) : Option (List Key) := (runAO F15_Owners_b1 a0.all []).bind fun (s73 : (List Key)) => (F24_Sort s73).bind fun y77 => some y77
/-- (*lb/lbref16.Index).Slices -/
def F17_Slices_b1 (a1 : Key) (x28 : A2Key) (s29 : (List Key)) : Option (List Key) := (if (decide (x28.e1 = a1)) = true then (apO s29 [x28.e0]).bind fun z68 => some (s29 ++ [x28.e0]) else some s29)
def F17_Slices (a0 : Index_3) (a1 : Key) : Option (List Key) := (runAO (F17_Slices_b1 a1) a0.all []).bind fun (s79 : (List Key)) => (F24_Sort s79).bind fun y83 => some y83
/-- lb/lblaw16.IndexPlays -/
noncomputable def F3_IndexPla_b1  (x76 : Act) (s77 : Index_2 × Index_3) : Option (Step Bool (Index_2 × Index_3)) := (if (decide (x76.kind = 0)) = true then (F8_Put s77.1 x76.slice x76.owner).bind fun y133 => (F9_Put s77.2 x76.slice x76.owner).bind fun y169 => lt (((!decide (y133.1 = y169.1)) || (!(y133.2.1 == y169.2.1)))) fun b190 => lt ((b190 || (lt (F12_Len y133.2.2) fun y196 => !decide (y196 = ((y169.2.2.all.length : Nat) : Int))))) fun b198 => (orO b198 ((F14_Owners y133.2.2).bind fun y204 => (F15_Owners y169.2.2).bind fun y212 => (F13_Same y204 y212).bind fun y218 => some (!y218))).bind fun b220 => (orO b220 ((F16_Slices y133.2.2 x76.owner).bind fun y226 => (F17_Slices y169.2.2 x76.owner).bind fun y234 => (F13_Same y226 y234).bind fun y240 => some (!y240))).bind fun b242 => (if b242 = true then some (.ret false) else lt (F18_Owner y133.2.2 x76.slice) fun y598 => lt (F19_Owner y169.2.2 x76.slice) fun y609 => lt ((!decide (y598.1 = y609.1)) || (!(y598.2 == y609.2))) fun b618 => (if b618 = true then some (.ret false) else some (.next (y133.2.2, y169.2.2)))) else lt (F10_Drop s77.1 x76.slice) fun y631 => (F11_Drop s77.2 x76.slice).bind fun y667 => lt (((!decide (y631.1 = y667.1)) || (!(y631.2.1 == y667.2.1)))) fun b688 => lt ((b688 || (lt (F12_Len y631.2.2) fun y694 => !decide (y694 = ((y667.2.2.all.length : Nat) : Int))))) fun b696 => (orO b696 ((F14_Owners y631.2.2).bind fun y702 => (F15_Owners y667.2.2).bind fun y710 => (F13_Same y702 y710).bind fun y716 => some (!y716))).bind fun b718 => (orO b718 ((F16_Slices y631.2.2 x76.owner).bind fun y724 => (F17_Slices y667.2.2 x76.owner).bind fun y732 => (F13_Same y724 y732).bind fun y738 => some (!y738))).bind fun b740 => (if b740 = true then some (.ret false) else lt (F18_Owner y631.2.2 x76.slice) fun y1096 => lt (F19_Owner y667.2.2 x76.slice) fun y1107 => lt ((!decide (y1096.1 = y1107.1)) || (!(y1096.2 == y1107.2))) fun b1116 => (if b1116 = true then some (.ret false) else some (.next (y631.2.2, y667.2.2)))))
noncomputable def F3_IndexPla (a0 : (List Act)) : Option Bool := (F5_alive).bind fun y3 => (if (!y3) = true then some false else lt (F6_Long a0) fun y8 => (if y8 = true then some true else lt (F7_New) fun y13 => (runBO F3_IndexPla_b1 a0 (y13, ({ all := [] } : Index_3))).bind fun o => o.elim (fun r => some r) fun (s1129 : Index_2 × Index_3) => some true))
end Go.Proofs.Ytkopifmkikaaiaa
