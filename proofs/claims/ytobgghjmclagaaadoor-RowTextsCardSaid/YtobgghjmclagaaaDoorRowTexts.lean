/- The walk of RowTexts. -/
import Derived.Test.YtobgghjmclagaaaDoorParseAll
import Derived.Test.YtobgghjmclagaaaDoorKnownR
import Derived.Test.YtobgghjmclagaaaDoorRefA
namespace Go.Proofs.YtobgghjmclagaaaDoor
set_option linter.unusedVariables false
set_option linter.unusedSimpArgs false
open Go.RowKit

set_option maxRecDepth 100000 in
set_option maxHeartbeats 2000000 in
theorem texts_walk (xs : List Int) (ket : Bool) (v : Value) (w : World) (h : Ints w v xs) (hw : LibW w) :
    Calls Tryd.prog 11 #[v, .bool ket] w fun e w' => e = .returned (.bool true) ∧ Ext w w' := by
  have HX := Lib.hid h; have HW := Lib.hid hw; have HT := Lib.hid hw.pow
  obtain ⟨a, c, rfl, -, -, -, -, -⟩ := h.open
  clear h hw
  by_cases hl : 80 < xs.length
  · have q1 : (80 : Int) < (xs.length : Int) := by omega
    clear hl
    go_enter Tryd.func11, Tryd.ntmps11
    go_wp2_with fail
    refine (known_any _ HT.out).mono ?_
    rintro e w1 ⟨rfl, hE1⟩
    have HE1 := Lib.hid hE1
    have HT1 := Lib.hid (HT.out.ext hE1)
    clear hE1
    go_wp2_with fail
    refine (known_any _ HT1.out).mono ?_
    rintro e w2 ⟨rfl, hE2⟩
    have HE2 := Lib.hid (Ext.trans HE1.out hE2)
    clear hE2
    go_wp2_with fail
    go_ret
    exact ⟨rfl, HE2.out⟩
  · have q1 : ¬ (80 : Int) < (xs.length : Int) := by omega
    clear hl
    by_cases he : rowE xs = 0
    · have HTX : Hid (∀ W, Ext w W → Calls Tryd.prog 49 #[.slice a xs.length c, .bool ket] W fun e w' => e = .returned (.tuple #[.string (strL (textS xs ket)), .int .i64 0]) ∧ Ext W w') := by
        intro W hE
        have := text_any xs ket _ W (HX.out.ext hE) (HT.out.ext hE)
        rw [if_pos he, he] at this
        exact this
      have HCK : Hid (∀ W, Ext w W → Calls Tryd.prog 14 #[.slice a xs.length c] W fun e w' => e = .returned (.int .i64 0) ∧ Ext W w') := by
        intro W hE
        have := refCheck_any xs _ W (HX.out.ext hE)
        rw [he] at this
        exact this.mono fun _ _ ⟨h1, h2⟩ => ⟨h1, h2 ▸ Ext.refl _⟩
      have HP : Hid (∀ W, Ext w W → Calls Tryd.prog 50 #[.string (strL (textS xs ket))] W fun e w' => ∃ a' c', e = .returned (.tuple #[.slice a' xs.length c', .bool ket, .int .i64 0]) ∧ Ints w' (.slice a' xs.length c') xs ∧ Ext W w') := by
        intro W hE
        have := parse_any (textS xs ket) W (by have := textS_len xs ket he; omega) (HW.out.ext hE)
        rw [parseS_text xs ket he] at this
        exact this
      have HRT : Hid (∀ W, Ext w W → Calls Tryd.prog 51 #[.slice a xs.length c, .bool ket] W fun e w' => e = .returned (.string (strL (textS xs ket))) ∧ Ext W w') := by
        intro W hE
        exact refText_any xs ket _ W (HX.out.ext hE) he
      clear he
      go_enter Tryd.func11, Tryd.ntmps11
      go_wp2_with fail
      refine (known_any _ HT.out).mono ?_
      rintro e w1 ⟨rfl, hE1⟩
      have HE1 := Lib.hid hE1
      clear hE1
      go_wp2_with fail
      refine (HTX.out _ HE1.out).mono ?_
      rintro e w2 ⟨rfl, hE2⟩
      have HE2 := Lib.hid (Ext.trans HE1.out hE2)
      clear hE2 HTX
      go_wp2_with fail
      refine (HCK.out _ HE2.out).mono ?_
      rintro e w3 ⟨rfl, hE3⟩
      have HE3 := Lib.hid (Ext.trans HE2.out hE3)
      clear hE3 HCK
      go_wp2_with fail
      refine (HP.out _ HE3.out).mono ?_
      rintro e w4 ⟨a', c', rfl, hI4, hE4⟩
      have HE4 := Lib.hid (Ext.trans HE3.out hE4)
      have HI4 := Lib.hid hI4
      clear hE4 HP hI4
      go_wp2_with fail
      refine (HRT.out _ HE4.out).mono ?_
      rintro e w5 ⟨rfl, hE5⟩
      have HE5 := Lib.hid (Ext.trans HE4.out hE5)
      have HQ : Hid (Calls Tryd.prog 21 #[.slice a' xs.length c', .slice a xs.length c] w5 fun e w' => e = .returned (.bool true) ∧ Ext w5 w') := by
        have := refEqual_any xs xs _ _ w5 (HI4.out.ext hE5) (HX.out.ext HE5.out)
        unfold Hid
        simpa using this
      clear hE5 HRT
      go_wp2_with fail
      refine HQ.out.mono ?_
      rintro e w6 ⟨rfl, hE6⟩
      have HE6 := Lib.hid (Ext.trans HE5.out hE6)
      clear hE6 HQ
      go_wp2_with fail
      go_ret
      exact ⟨rfl, HE6.out⟩
    · have h4 : rowE xs = 4 := (rowE_four xs).resolve_left he
      have HTX : Hid (∀ W, Ext w W → Calls Tryd.prog 49 #[.slice a xs.length c, .bool ket] W fun e w' => e = .returned (.tuple #[.string (strL []), .int .i64 4]) ∧ Ext W w') := by
        intro W hE
        have := text_any xs ket _ W (HX.out.ext hE) (HT.out.ext hE)
        rw [if_neg he, h4] at this
        exact this
      have HCK : Hid (∀ W, Ext w W → Calls Tryd.prog 14 #[.slice a xs.length c] W fun e w' => e = .returned (.int .i64 4) ∧ Ext W w') := by
        intro W hE
        have := refCheck_any xs _ W (HX.out.ext hE)
        rw [h4] at this
        exact this.mono fun _ _ ⟨h1, h2⟩ => ⟨h1, h2 ▸ Ext.refl _⟩
      have hem : (strL []).toList = [] := by rw [Lib.toList_data, strL_data]
      clear he h4
      go_enter Tryd.func11, Tryd.ntmps11
      go_wp2_with fail
      refine (known_any _ HT.out).mono ?_
      rintro e w1 ⟨rfl, hE1⟩
      have HE1 := Lib.hid hE1
      clear hE1
      go_wp2_with fail
      refine (HTX.out _ HE1.out).mono ?_
      rintro e w2 ⟨rfl, hE2⟩
      have HE2 := Lib.hid (Ext.trans HE1.out hE2)
      clear hE2 HTX
      go_wp2_with fail
      refine (HCK.out _ HE2.out).mono ?_
      rintro e w3 ⟨rfl, hE3⟩
      have HE3 := Lib.hid (Ext.trans HE2.out hE3)
      clear hE3 HCK
      go_wp2_with fail
      go_ret
      exact ⟨rfl, HE3.out⟩
end Go.Proofs.YtobgghjmclagaaaDoor
