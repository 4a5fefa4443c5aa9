/- The known answers of chapter 05, as a contract: true. -/
import Derived.Test.YtobgghjmclagaaaDoorText
import Derived.Test.YtobgghjmclagaaaDoorDot
namespace Go.Proofs.YtobgghjmclagaaaDoor
set_option linter.unusedVariables false
set_option linter.unusedSimpArgs false
open Go.RowKit

theorem knText : (if rowE [-4, 4, -1] = 0 then textS [-4, 4, -1] true else []).toArray = #[91, 45, 52, 32, 52, 32, 45, 49, 62] := by
  rw [if_pos (by decide)]
  have e1 : Lib.itoa (-4) = [45, 52] := by
    unfold Lib.itoa; rw [if_pos (by decide), show (-4 : Int).natAbs = 4 from rfl, Lib.decDigits_one (by decide)]; rfl
  have e2 : Lib.itoa 4 = [52] := by
    unfold Lib.itoa; rw [if_neg (by decide), show (4 : Int).toNat = 4 from rfl, Lib.decDigits_one (by decide)]; rfl
  have e3 : Lib.itoa (-1) = [45, 49] := by
    unfold Lib.itoa; rw [if_pos (by decide), show (-1 : Int).natAbs = 1 from rfl, Lib.decDigits_one (by decide)]; rfl
  unfold textS rowS
  simp [e1, e2, e3, Lib.join, List.intercalate, List.intersperse]
theorem knE : rowE [-4, 4, -1] = 0 := by decide
theorem knDot : dotV [-4, 4, -1] [12, 19, 28] = 0 ∧ dotE [-4, 4, -1] [12, 19, 28] = 0 := by decide
theorem knPrim : primE [6, -4, 0] = 0 ∧ ([6, -4, 0] : List Int).map (·.tdiv (gcdS [6, -4, 0] : Int)) = [3, -2, 0] := by decide +kernel
theorem knScale : scaleE 2 [1000000000] = 4 := by decide

set_option maxRecDepth 100000 in
set_option maxHeartbeats 2000000 in
theorem known_any (w : World) (ht : Pow10 w) : Calls Tryd.prog 13 #[] w fun e w' => e = .returned (.bool true) ∧ Ext w w' := by
  have i1 : Ints (w.alloc (.cells #[.int .i64 (-4), .int .i64 4, .int .i64 (-1)] 3)) (.slice (some ⟨w.heap.size, 0, none⟩) 3 3) [-4, 4, -1] := Ints.litAt rfl [-4, 4, -1] _ 3 rfl (by simp [maxLen]) (by simp) _ rfl
  have HT1 := Lib.hid (text_any [-4, 4, -1] true _ _ i1 (ht.ext (Ext.alloc _ _)))
  rw [knText, knE] at HT1
  have HE0 := Lib.hid (Ext.alloc w (.cells #[.int .i64 (-4), .int .i64 4, .int .i64 (-1)] 3))
  clear i1 ht
  go_enter Tryd.func13, Tryd.ntmps13
  go_wp2_with fail
  refine HT1.out.mono ?_
  rintro e w1 ⟨rfl, hE1⟩
  have HE1 := Lib.hid (Ext.trans HE0.out hE1)
  clear hE1 HE0 HT1
  have i1 : Ints ((w1.alloc (.cells #[.int .i64 (-4), .int .i64 4, .int .i64 (-1)] 3)).alloc (.cells #[.int .i64 12, .int .i64 19, .int .i64 28] 3)) (.slice (some ⟨w1.heap.size, 0, none⟩) 3 3) [-4, 4, -1] :=
    Ints.ext (Ints.litAt rfl [-4, 4, -1] _ 3 rfl (by simp [maxLen]) (by simp) _ rfl) (Ext.alloc _ _)
  have i2 : Ints ((w1.alloc (.cells #[.int .i64 (-4), .int .i64 4, .int .i64 (-1)] 3)).alloc (.cells #[.int .i64 12, .int .i64 19, .int .i64 28] 3)) (.slice (some ⟨w1.heap.size + 1, 0, none⟩) 3 3) [12, 19, 28] :=
    Ints.litAt (by simp) [12, 19, 28] _ 3 rfl (by simp [maxLen]) (by simp) _ rfl
  have HD := Lib.hid (dot_any _ _ _ _ _ i1 i2)
  rw [knDot.1, knDot.2] at HD
  have HE2 := Lib.hid (Ext.trans HE1.out (Ext.trans (Ext.alloc _ _) (Ext.alloc (w1.alloc (.cells #[.int .i64 (-4), .int .i64 4, .int .i64 (-1)] 3)) (.cells #[.int .i64 12, .int .i64 19, .int .i64 28] 3))))
  clear i1 i2 HE1
  go_wp2_with fail
  refine HD.out.mono ?_
  rintro e w2 ⟨rfl, hE2⟩
  have HE3 := Lib.hid (Ext.trans HE2.out hE2)
  clear hE2 HE2 HD
  have i3 : Ints (w2.alloc (.cells #[.int .i64 6, .int .i64 (-4), .int .i64 0] 3)) (.slice (some ⟨w2.heap.size, 0, none⟩) 3 3) [6, -4, 0] := Ints.litAt rfl [6, -4, 0] _ 3 rfl (by simp [maxLen]) (by simp) _ rfl
  have HP := Lib.hid (primitive_any _ _ _ i3)
  rw [knPrim.1, knPrim.2] at HP
  have HE4 := Lib.hid (Ext.trans HE3.out (Ext.alloc w2 (.cells #[.int .i64 6, .int .i64 (-4), .int .i64 0] 3)))
  clear i3 HE3
  go_wp2_with fail
  refine HP.out.mono ?_
  rintro e w3 ⟨r, rfl, hE3, hr, -⟩
  have hr := hr trivial
  obtain ⟨ar, cr, rfl, hr1, hr2, -, -, hrc⟩ := hr.open
  obtain ⟨br, or, rfl, hbr, hrc⟩ := hrc (by simp)
  have c0 : w3.cell? ⟨br, or, none⟩ = some (.int .i64 3) := hrc 0 3 rfl
  have c1 := hrc 1 (-2) rfl
  have HE5 := Lib.hid (Ext.trans HE4.out hE3)
  clear hE3 HE4 HP hr hrc
  have i4 : Ints (w3.alloc (.cells #[.int .i64 1000000000] 3)) (.slice (some ⟨w3.heap.size, 0, none⟩) 1 1) [1000000000] := Ints.litAt rfl [1000000000] _ 1 rfl (by simp [maxLen]) (by simp) _ rfl
  have HS := Lib.hid (scale_any _ 2 _ _ i4)
  rw [knScale] at HS
  have hE6 := Ext.alloc w3 (.cells #[.int .i64 1000000000] 3)
  have d0 := hE6.cell c0; have d1 := hE6.cell c1
  have HE6 := Lib.hid (Ext.trans HE5.out hE6)
  clear i4 hE6 HE5
  go_wp2_with fail
  refine HS.out.mono ?_
  rintro e w4 ⟨r4, rfl, hE7, -, hr4⟩
  have e0 := Ext.cell hE7 d0; have e1 := Ext.cell hE7 d1
  have HE7 := Lib.hid (Ext.trans HE6.out hE7)
  clear hE7 HE6 HS c0 c1 d0 d1 hr4
  go_wp2_with fail
  go_ret
  exact ⟨rfl, HE7.out⟩
end Go.Proofs.YtobgghjmclagaaaDoor
