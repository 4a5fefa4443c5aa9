/- Merged: LatCo. -/
import Derived.Test.YtehknemdfbkimaaGreatDoorQBF
/- Contract of package lattice: Coordinates at right arguments. -/
namespace Go.Proofs.YtehknemdfbkimaaGreatDoor
set_option linter.unusedVariables false
set_option linter.unusedSimpArgs false
open Go.RowKit

set_option maxRecDepth 100000 in
set_option maxHeartbeats 2000000 in
/-- short of no row at all. -/
theorem short_none (w : World) :
    Calls Tryz.prog 81 #[.slice none 0 0] w (ShortR [] w) := by
  obtain ⟨i0, hi, hz0, hz1, hz2⟩ := info_parts infoInt
  have HI := Lib.hid hi; have HZ0 := Lib.hid hz0; have HZ1 := Lib.hid hz1; have HZ2 := Lib.hid hz2
  clear hi hz0 hz1 hz2
  go_enter Tryz.func81, Tryz.ntmps81
  go_wp2_with (at_make; refine wpList_make_own _ rfl _ _ 39 rfl w.heap.size 3 i0 (.int .i64 0) 1 Tryz.underlying39 HI.out HZ0.out HZ1.out _ _ _ 0 rfl rfl rfl ?c1 ?c2 ?c3 ?_)
  case c1 => rw [HZ2.out]; omega
  case c2 => unfold maxLen; omega
  case c3 => exact Nat.le_refl _
  intro w1 hown hgrow
  have HE1 := Lib.hid (ext_grown hgrow)
  have HOWN := Lib.hid hown
  clear hown hgrow
  go_wp2_with fail
  go_loopw [4, 14] (fun out t wr => (∃ g cc, out = .slice (some ⟨g, 0, none⟩) 0 cc) ∧ t = .int .i64 0 ∧ Hid (wr.ownsRow w.heap.size 3 1 out 0 []) ∧ Hid (Ext w wr)) (fun _ t _ => 0)
  case atStart => exact ⟨⟨_, _, rfl⟩, rfl, HOWN.out, HE1.out⟩
  case round =>
    obtain ⟨⟨g, cc, rfl⟩, rfl, HO, HE⟩ := hrel
    go_wp2_with fail
    go_ret2
    unfold ShortR
    rw [if_pos (show ([] : List Int).all fit9B = true from rfl)]
    exact ⟨_, cc, rfl, Ints.of_owns (xs := []) HO.out (by simp), HO.out, HE.out⟩

/-- What Coordinates ends in. -/
def CooR (R M : List Int) (w : World) (e : Ending) (w' : World) : Prop :=
  (if leadL R < 0 then (if M.all fit9B = true then ∃ v, e = .returned (.tuple #[v, .int .i64 0]) ∧ Ints w' v M else e = .returned (.tuple #[.slice none 0 0, .int .i64 4])) else e = .returned (.tuple #[.slice none 0 0, .int .i64 19])) ∧ Ext w w'

set_option maxRecDepth 100000 in
set_option maxHeartbeats 2000000 in
theorem coords_any (n : Int) (xss : List (List Int)) (x R M : List Int) (v vx : Value) (w : World) (h : LatV w v n xss) (hx : Ints w vx x) (hE : rowLE n xss x = 0) (hR : redO xss x xss.length = some (R, M)) (hsm : M.all smB = true) (hlib : LibT w) (hb : 0 < w.heap.size) :
    Calls Tryz.prog 26 #[v, vx] w (CooR R M w) := by
  have hMl : M.length ≤ 1000 := by
    obtain ⟨h1, h2, h3⟩ := rowLE_zero hE
    have := (latE_rows (chkE_zero h1).1).2.2.1
    rw [(redO_len hR).2]; omega
  have HC := Lib.hid (fun W (hW : Ext w W) => checkRow_any n xss x v vx W (h.ext hW) (hx.ext hW))
  rw [hE] at HC
  have HRE := Lib.hid (fun W (hW : Ext w W) => reduceC_any n xss x R M v vx W (h.ext hW) (hx.ext hW) hE hR (hlib.pow.ext hW) (Nat.lt_of_lt_of_le hb hW.size))
  have HSM : Hid (∀ W vm, W.ownsRow w.heap.size 73 1 vm M.length (bigV M) → Ext w W → ∃ a c, vm = .slice a M.length c ∧ ∀ W', Ext W W' → Calls Tryz.prog 81 #[vm] W' (ShortR M W')) := fun W vm ho hW => by
    rcases ho.2 with ⟨hv, h0⟩ | ⟨g, cap, cur, hv, hgb, hgh, hlc⟩
    · have hM0 : M = [] := by
        have : M.length = 0 := by first | omega | simp_all
        exact List.eq_nil_of_length_eq_zero this
      subst hM0
      refine ⟨none, 0, hv, fun W' hW' => ?_⟩
      rw [hv]; exact short_none W'
    · refine ⟨_, _, hv, fun W' hW' => ?_⟩
      subst hv
      have hb := RowB.of_owns (xs := M) ho
      exact short_any M g 0 cap W' (hb.1.ext hW') (by omega) (by omega) hMl hsm (hlib.ext (hW.trans hW'))
  obtain ⟨u, rfl, hu⟩ := h
  obtain ⟨a, c, rfl, h1, h2, -, hc⟩ := inCell.open hu
  obtain ⟨ax, cx, rfl, x1, x2, -, -, -⟩ := hx.open
  clear hu hc hx hE hR hsm hlib hb hMl
  go_enter Tryz.func26, Tryz.ntmps26
  obtain ⟨W1, hW1, hE1, hs1, hb1⟩ := lat_new w (.int .i64 n) (.slice a xss.length c)
  have HB1 := Lib.hid hb1; have HE1 := Lib.hid hE1
  obtain ⟨e10, e11, -⟩ := lat_block hb1
  clear hE1 hs1 hb1
  go_wp2_with fail
  refine (HC.out _ HE1.out).mono ?_
  rintro e w2 ⟨rfl, hE2⟩
  have HE2 := Lib.hid (HE1.out.trans hE2)
  have d0 := hE2.cell e10; have d1 := hE2.cell e11
  clear hE2 HC
  go_wp2_with fail
  refine (HRE.out _ HE2.out).mono ?_
  rintro e w3 ⟨gr, cr, vm, rfl, hr3, hc3, ho3, hE3⟩
  have HE3 := Lib.hid (HE2.out.trans hE3)
  have HLD := Lib.hid (lead_any R gr 0 cr w3 hr3 hc3.1 hc3.2)
  have hos : w3.ownsRow w.heap.size 73 1 vm M.length (bigV M) := ⟨ho3.1, by
    rcases ho3.2 with h | ⟨g, cap, cur, hv, hg, rest⟩
    · exact .inl h
    · exact .inr ⟨g, cap, cur, hv, Nat.le_trans HE2.out.size hg, rest⟩⟩
  obtain ⟨av, cv, rfl, hsh⟩ := HSM.out w3 vm hos HE3.out
  have HSH := Lib.hid hsh
  clear hE3 HRE hr3 hc3 ho3 hos hsh HSM
  go_wp2_with fail
  refine HLD.out.mono ?_
  rintro e w4 ⟨rfl, hE4⟩
  have HS4 := Lib.hid (HSH.out w4 hE4)
  have HE4 := Lib.hid (HE3.out.trans hE4)
  clear hE4 HLD HSH
  by_cases hl : leadL R < 0
  · have hl2 : ¬ 0 ≤ leadL R := by omega
    have HL := Lib.hid hl
    go_wp2_with fail
    refine HS4.out.mono ?_
    rintro e w5 hsr
    unfold ShortR at hsr
    by_cases hf : M.all fit9B = true
    · rw [if_pos hf] at hsr
      obtain ⟨aa, cc, rfl, hI, -, hE5⟩ := hsr
      have HI := Lib.hid hI; have HE5 := Lib.hid (HE4.out.trans hE5); have HF := Lib.hid hf
      clear hI hE5 hf HS4
      go_wp2_with fail
      go_ret2
      unfold CooR
      rw [if_pos HL.out, if_pos HF.out]
      exact ⟨⟨_, rfl, HI.out⟩, HE5.out⟩
    · rw [if_neg hf] at hsr
      obtain ⟨rfl, hE5⟩ := hsr
      have HE5 := Lib.hid (HE4.out.trans hE5); have HF := Lib.hid hf
      clear hE5 hf HS4
      go_wp2_with fail
      go_ret2
      unfold CooR
      rw [if_pos HL.out, if_neg HF.out]
      exact ⟨rfl, HE5.out⟩
  · have hl2 : 0 ≤ leadL R := by omega
    have HL := Lib.hid hl
    go_wp2_with fail
    go_ret2
    unfold CooR
    rw [if_neg (by have := HL.out; omega)]
    exact ⟨rfl, HE4.out⟩
end Go.Proofs.YtehknemdfbkimaaGreatDoor
