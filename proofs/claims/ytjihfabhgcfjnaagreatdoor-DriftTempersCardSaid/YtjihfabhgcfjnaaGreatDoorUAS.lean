/- Merged: IsForm, RedL, GrowH. -/
import Derived.Test.YtjihfabhgcfjnaaGreatDoorUAR
import Derived.Deep.Cut
import Derived.Test.YtjihfabhgcfjnaaGreatDoorUAN
import Derived.Test.YtjihfabhgcfjnaaGreatDoorUAQ
/- Contracts of package hermite: isForm, IsForm. -/
namespace Go.Proofs.YtjihfabhgcfjnaaGreatDoor
set_option linter.unusedVariables false
set_option linter.unusedSimpArgs false
open Go.RowKit

def idxZ (r : List Int) : Int := idxRow (· != 0) r
def beforeI (xs : List (List Int)) (i : Nat) : Int := if i = 0 then -1 else idxZ (xs.getD (i - 1) [])
def badAt (p : Nat) (r x : List Int) : Bool := decide (x.getD p 0 < 0) || decide (r.getD p 0 ≤ x.getD p 0)
def okAt (xs : List (List Int)) (i : Nat) : Bool :=
  decide (beforeI xs i < idxZ (xs.getD i [])) && decide (0 ≤ (xs.getD i []).getD (idxZ (xs.getD i [])).toNat 0) && !(xs.take i).any (badAt (idxZ (xs.getD i [])).toNat (xs.getD i []))
/-- The rows are in Hermite normal form. -/
def hermB (xs : List (List Int)) : Bool := (List.range xs.length).all (okAt xs)
theorem idxZ_lt (r : List Int) : idxZ r < r.length := by
  unfold idxZ idxRow
  cases h : r.findIdx? (· != 0) with
  | none => show (-1 : Int) < _; omega
  | some i => obtain ⟨hi, -⟩ := List.findIdx?_eq_some_iff_getElem.1 h; show (i : Int) < _; omega
theorem idxZ_ge (r : List Int) : -1 ≤ idxZ r := by
  unfold idxZ idxRow
  cases h : r.findIdx? (· != 0) with
  | none => show (-1 : Int) ≤ -1; omega
  | some i => show (-1 : Int) ≤ i; omega
theorem ListAt.take1 {α : Type} {k : Nat} {R : World → List Value → α → Prop} {w : World} {b off c : Nat} {xs : List α} (h : ListAt k R w (.slice (some ⟨b, off, none⟩) xs.length c) xs) (j : Nat) (hj : j ≤ xs.length) : ListAt k R w (.slice (some ⟨b, off, none⟩) j c) (xs.take j) := by
  obtain ⟨us, h1, h2, ⟨a, cap, hv, h3, h4, h5, h6⟩, h7⟩ := h
  simp only [Value.slice.injEq, true_and] at hv
  obtain ⟨rfl, rfl⟩ := hv
  have hlen : (xs.take j).length = j := by rw [List.length_take]; omega
  refine ⟨us.take j, by rw [List.length_take, List.length_take]; omega, fun u hu => h2 u (List.mem_of_mem_take hu), ?_, fun i u x hu hx => ?_⟩
  · rw [hlen]
    refine ⟨_, _, rfl, by omega, h4, h5, fun hne => ?_⟩
    have hfl : us.flatten = (us.take j).flatten ++ (us.drop j).flatten := by rw [← List.flatten_append, List.take_append_drop]
    obtain ⟨b', off', ha, hb, hc⟩ := h6 (by rw [hfl]; intro e; exact hne (List.append_eq_nil_iff.1 e).1)
    refine ⟨b', off', ha, hb, fun i u hu => hc i u ?_⟩
    rw [hfl, List.getElem?_append_left (List.getElem?_eq_some_iff.1 hu).1]; exact hu
  · rw [List.getElem?_take] at hu hx
    split at hu
    · rw [if_pos (by assumption)] at hx; exact h7 i u x hu hx
    · cases hu
theorem beforeI_ge (xs : List (List Int)) (i : Nat) : -1 ≤ beforeI xs i := by
  unfold beforeI; split
  · omega
  · exact idxZ_ge _
theorem range_all_succ (f : Nat → Bool) (j : Nat) : (List.range (j + 1)).all f = ((List.range j).all f && f j) := by
  rw [List.range_succ, List.all_append]; simp
theorem hermB_no {xs : List (List Int)} {j : Nat} (hj : j < xs.length) (h : okAt xs j = false) : hermB xs = false := by
  unfold hermB
  rw [List.all_eq_false]
  exact ⟨j, List.mem_range.2 hj, by simp [h]⟩

set_option maxRecDepth 100000 in
set_option maxHeartbeats 1000000 in
theorem isForm1_any (x r : List Int) (p gp gr : Nat) (vx vr : Value) (w : World) (hx : Ints w vx x) (hr : Ints w vr r) (cp : w.cell? ⟨gp, 0, none⟩ = some (.int .i64 p)) (cr : w.cell? ⟨gr, 0, none⟩ = some vr) (hpx : p < x.length) (hpr : p < r.length) :
    Calls Tryz.prog 176 #[vx, .pointer (some ⟨gp, 0, none⟩), .pointer (some ⟨gr, 0, none⟩)] w fun e w' => e = .returned (.bool (badAt p r x)) ∧ Ext w w' := by
  obtain ⟨ax, cx, rfl, x1, x2, -, xb, xc⟩ := hx.open
  obtain ⟨ar, cr', rfl, r1, r2, -, rb, rc⟩ := hr.open
  obtain ⟨bx, ox, rfl, -, xcell⟩ := xc (by intro e; simp [e] at hpx)
  obtain ⟨br, or, rfl, -, rcell⟩ := rc (by intro e; simp [e] at hpr)
  obtain ⟨a, ha⟩ : ∃ a, x[p]? = some a := ⟨_, List.getElem?_eq_getElem hpx⟩
  obtain ⟨b, hb⟩ : ∃ b, r[p]? = some b := ⟨_, List.getElem?_eq_getElem hpr⟩
  have ga := xcell p a ha
  have gb := rcell p b hb
  have HV : Hid (badAt p r x = (decide (a < 0) || decide (b ≤ a))) := by
    unfold Hid badAt
    rw [List.getD_eq_getElem?_getD, List.getD_eq_getElem?_getD, ha, hb]; rfl
  rw [HV.out]
  unfold maxLen at x2 r2
  clear ha hb xb rb xc rc xcell rcell hx hr HV
  by_cases h1 : a < 0
  · have d1 : decide (a < 0) = true := decide_eq_true h1
    go_enter Tryz.func176, Tryz.ntmps176

    go_wp2_with fail
    go_quiet (fail)
    go_wp2_with fail
    go_ret
    exact ⟨by simp [h1], Ext.drewN _ _⟩
  · have d1 : decide (a < 0) = false := decide_eq_false h1
    by_cases h2 : b ≤ a
    · have d2 : decide (b ≤ a) = true := decide_eq_true h2
      go_enter Tryz.func176, Tryz.ntmps176

      go_wp2_with fail
      go_quiet (fail)
      go_wp2_with fail
      go_ret
      exact ⟨by simp [h1, h2], Ext.drewN _ _⟩
    · have d2 : decide (b ≤ a) = false := decide_eq_false h2
      go_enter Tryz.func176, Tryz.ntmps176

      go_wp2_with fail
      go_quiet (fail)
      go_wp2_with fail
      go_ret
      exact ⟨by simp [h1, h2], Ext.drewN _ _⟩

set_option maxRecDepth 100000 in
set_option maxHeartbeats 2000000 in
theorem isForm_any (xss : List (List Int)) (v : Value) (n : Nat) (w : World) (h : Rows2 w v xss) (hn : ∀ r ∈ xss, r.length = n) :
    Calls Tryz.prog 150 #[v] w fun e w' => e = .returned (.bool (hermB xss)) ∧ Ext w w' := by
  have HX := Lib.hid h
  have HN := Lib.hid hn
  obtain ⟨a, c, rfl, h1, h2, -, hc⟩ := inCell.open h
  have HC := Lib.hid hc
  unfold maxLen at h2
  clear h hc hn
  go_enter Tryz.func150, Tryz.ntmps150
  go_wp2_with fail
  go_loopw [9, 3] (fun t b wr => ∃ j : Nat, j ≤ xss.length ∧ t = .int .i64 j ∧ b = .int .i64 (beforeI xss j) ∧ Ext w wr ∧ Hid ((List.range j).all (okAt xss) = true)) (fun t _ _ => xss.length - (intOf t).toNat)
  case atStart => exact ⟨0, by omega, rfl, rfl, Ext.refl _, rfl⟩
  case round =>
    obtain ⟨j, hj, rfl, rfl, hE, HA⟩ := hrel
    obtain ⟨wo, rfl⟩ : ∃ wo : World, wo = wr := ⟨_, rfl⟩
    have HE := Lib.hid hE
    by_cases hlt : j < xss.length
    · obtain ⟨r, hr⟩ : ∃ r, xss[j]? = some r := ⟨_, List.getElem?_eq_getElem hlt⟩
      obtain ⟨b, off, rfl, hb, hcell⟩ := HC.out (by intro e; simp [e] at hlt)
      obtain ⟨vr, hvr, hcr⟩ := hcell j r hr
      obtain ⟨ar, cr, rfl, r1, r2, -, rb, rc⟩ := hvr.open
      unfold maxLen at r2
      have g1 := hE.cell hcr
      have HR := Lib.hid (Ints.ext hvr hE)
      have HRn := Lib.hid (HN.out r (List.mem_of_getElem? hr))
      have HP := Lib.hid (fun W (hW : Ext wo W) => hermPivot_any r _ W (Ints.ext HR.out hW))
      have HG : Hid (xss.getD j [] = r) := by unfold Hid; rw [List.getD_eq_getElem?_getD, hr]; rfl
      obtain ⟨p, hp⟩ : ∃ p : Int, idxRow (· != 0) r = p := ⟨_, rfl⟩
      obtain ⟨q, hq⟩ : ∃ q : Int, beforeI xss j = q := ⟨_, rfl⟩
      rw [hp] at HP
      have hplt : p < r.length := by rw [← hp]; exact idxZ_lt r
      have hpge : -1 ≤ p := by rw [← hp]; exact idxZ_ge r
      have HOK : Hid (okAt xss j = (decide (q < p) && decide (0 ≤ r.getD p.toNat 0) && !(xss.take j).any (badAt p.toNat r))) := by
        unfold Hid okAt idxZ; rw [HG.out, hp, hq]
      have HQ2 : Hid (beforeI xss (j + 1) = p) := by
        unfold Hid beforeI; rw [if_neg (by omega), Nat.add_sub_cancel, HG.out]; exact hp
      rw [hq]
      have HTK : Hid (∀ W, Ext wo W → Rows2 W (.slice (some ⟨b, off, none⟩) j c) (xss.take j)) := fun W hW => ListAt.take1 (Rows2.ext HX.out (Ext.trans hE hW)) j hj
      have HPL : Hid (∀ x ∈ xss.take j, x.length = n) := fun x hx => HN.out x (List.mem_of_mem_take hx)
      have hq1 : -1 ≤ q := by rw [← hq]; exact beforeI_ge _ _
      have HHB := Lib.hid (hermB_no (xs := xss) hlt)
      have HSU : Hid (okAt xss j = true → (List.range (j + 1)).all (okAt xss) = true) := fun h => by rw [range_all_succ, HA.out, h]; rfl
      have RC := Lib.hid rc
      clear hr hcell hvr hcr hp hq hE HX rb rc
      go_wp2_with fail
      refine (HP.out _ (Ext.alloc _ _)).mono ?_
      rintro e w5 ⟨rfl, hE5⟩
      have HE5 := Lib.hid hE5
      have k0 := hE5.cell (a := ⟨wo.heap.size, 0, none⟩) (by rw [World.cell?_alloc_new]; rfl)
      clear hE5 HP
      have e1 : Ext wo (w5.alloc (.cells #[.int .i64 p] 3)) := Ext.trans (Ext.alloc _ _) (Ext.trans HE5.out (Ext.alloc _ _))
      have HE6 := Lib.hid e1
      have k1 := (Ext.alloc w5 (.cells #[.int .i64 p] 3)).cell k0
      have k2 : (w5.alloc (.cells #[.int .i64 p] 3)).cell? ⟨w5.heap.size, 0, none⟩ = some (.int .i64 p) := by rw [World.cell?_alloc_new]; rfl
      clear e1
      by_cases hpq : p ≤ q
      · have HF : Hid (hermB xss = false) := HHB.out (by rw [HOK.out, decide_eq_false (by omega)]; rfl)
        go_wp2_with fail
        go_ret
        rw [HF.out]
        exact ⟨rfl, Ext.trans HE.out HE6.out⟩
      · obtain ⟨k, rfl⟩ : ∃ k : Nat, p = k := ⟨p.toNat, by omega⟩
        have hkl : k < r.length := by omega
        obtain ⟨y, hy⟩ : ∃ y, r[k]? = some y := ⟨_, List.getElem?_eq_getElem hkl⟩
        obtain ⟨br, obr, rfl, -, rcell⟩ := RC.out (by intro e; simp [e] at hkl)
        have k3 := HE6.out.cell (HE.out.cell (rcell k y hy))
        have HGD : Hid (r.getD ((k : Int).toNat) 0 = y) := by unfold Hid; rw [Int.toNat_natCast, List.getD_eq_getElem?_getD, hy]; rfl
        clear rcell
        by_cases hy0 : y < 0
        · have HF : Hid (hermB xss = false) := HHB.out (by rw [HOK.out, HGD.out, decide_eq_false (show ¬ 0 ≤ y by omega), Bool.and_false]; rfl)
          clear hy
          go_wp2_with fail
          go_ret
          rw [HF.out]
          exact ⟨rfl, Ext.trans HE.out HE6.out⟩
        · have HPR : Hid (PredMat Ints 176 #[.pointer (some ⟨w5.heap.size, 0, none⟩), .pointer (some ⟨wo.heap.size, 0, none⟩)] (badAt k r) (w5.alloc (.cells #[.int .i64 k] 3)) (xss.take j)) := by
            intro W x vx hx hW hvx
            exact isForm1_any x r k w5.heap.size wo.heap.size vx _ W hvx (Ints.ext HR.out (Ext.trans HE6.out hW)) (hW.cell k2) (hW.cell k1) (by rw [HPL.out x hx, ← HRn.out]; exact hkl) hkl
          have HCT := Lib.hid (containsMat_any (R := Ints) (fun _ _ _ _ he h => Ints.ext h he) (xss.take j) _ 176 _ (badAt k r) (w5.alloc (.cells #[.int .i64 k] 3)) (HTK.out _ HE6.out) (enters_of Tryz.func176 (by kernel_rfl) rfl) HPR.out)
          have HOK2 : Hid (okAt xss j = !(xss.take j).any (badAt k r)) := by
            unfold Hid
            rw [HOK.out, HGD.out, decide_eq_true (show 0 ≤ y by omega), decide_eq_true (show q < (k : Int) by omega), Int.toNat_natCast]; rfl
          obtain ⟨bb, hbb⟩ : ∃ bb : Bool, (xss.take j).any (badAt k r) = bb := ⟨_, rfl⟩
          rw [hbb] at HCT HOK2
          clear hy hbb HPR
          cases bb with
          | true =>
            have HF : Hid (hermB xss = false) := HHB.out (by rw [HOK2.out]; rfl)
            go_wp2_with fail
            refine HCT.out.mono ?_
            rintro e w7 ⟨rfl, hE7⟩
            have HE7 := Lib.hid (Ext.trans HE6.out hE7)
            clear hE7 HCT
            go_wp2_with fail
            go_ret
            rw [HF.out]
            exact ⟨rfl, Ext.trans HE.out HE7.out⟩
          | false =>
            have HNX : Hid ((List.range (j + 1)).all (okAt xss) = true) := HSU.out (by rw [HOK2.out]; rfl)
            go_wp2_with fail
            refine HCT.out.mono ?_
            rintro e w7 ⟨rfl, hE7⟩
            have HE7 := Lib.hid (Ext.trans HE6.out hE7)
            have k4 := hE7.cell k2
            clear hE7 HCT
            go_wp2_with fail
            go_roundw
            case rel => exact ⟨j + 1, by omega, by go_num, by rw [HQ2.out], Ext.trans HE.out HE7.out, HNX⟩
            case measure => simp [intOf]; omega
    · have HT : Hid (hermB xss = true) := by
        have : j = xss.length := by omega
        rw [this] at HA; exact HA.out
      go_wp2_with fail
      go_ret
      rw [HT.out]
      exact ⟨rfl, HE.out⟩
end Go.Proofs.YtjihfabhgcfjnaaGreatDoor
/- The representative of a row modulo the rows of a basis, as package lattice works it out. No program is named here. -/
namespace Go.Proofs.YtjihfabhgcfjnaaGreatDoor
set_option linter.unusedVariables false
set_option linter.unusedSimpArgs false
open Go.RowKit

def pivC (x : List Int) : Nat := (leadL x).toNat
def mulQ (s x : List Int) : Int := fdq (s.getD (pivC x) 0) (x.getD (pivC x) 0)
/-- The row left, and the multiples taken away, behind the first i rows. -/
def redO (xss : List (List Int)) (r : List Int) : Nat → Option (List Int × List Int)
  | 0 => some (r, [])
  | i + 1 => match redO xss r i with
    | none => none
    | some (s, m) =>
      if 0 ≤ leadL (rowE_ xss i) ∧ pivC (rowE_ xss i) < s.length ∧ s.all smB = true ∧ (rowE_ xss i).all smB = true then
        match lessO (mulQ s (rowE_ xss i)) s (rowE_ xss i) with
        | none => none
        | some s' => some (s', m ++ [mulQ s (rowE_ xss i)])
      else none
end Go.Proofs.YtjihfabhgcfjnaaGreatDoor
/- Rows reduced by a Hermite form: the classes of a lattice. No program is named here. -/
namespace Go.Proofs.YtjihfabhgcfjnaaGreatDoor
set_option linter.unusedVariables false
set_option linter.unusedSimpArgs false
open Go.RowKit

theorem first_at {r : List Int} {p : Nat} (hz : ∀ c, c < p → r.getD c 0 = 0) (hp : r.getD p 0 ≠ 0) : r.findIdx? (· != 0) = some p := by
  have hl : p < r.length := by
    rcases Nat.lt_or_ge p r.length with h | h
    · exact h
    · exact absurd (by rw [List.getD_eq_getElem?_getD, List.getElem?_eq_none h]; rfl) hp
  rw [List.findIdx?_eq_some_iff_getElem]
  refine ⟨hl, ?_, fun j hj => ?_⟩
  · rw [List.getD_eq_getElem?_getD, List.getElem?_eq_getElem hl] at hp
    simpa using hp
  · have := hz j hj
    rw [List.getD_eq_getElem?_getD, List.getElem?_eq_getElem (by omega)] at this
    simpa using this
theorem hform_first {n : Nat} {R : List (List Int)} {ps : Nat → Nat} (hR : HForm n R ps) {i : Nat} (hi : i < R.length) : (rowE_ R i).findIdx? (· != 0) = some (ps i) :=
  first_at (fun c hc => hR.2.zero i hi c hc) (Int.ne_of_gt (hR.2.pos i hi))
theorem hform_idx {n : Nat} {R : List (List Int)} {ps : Nat → Nat} (hR : HForm n R ps) {i : Nat} (hi : i < R.length) : idxZ (rowE_ R i) = (ps i : Int) := by
  unfold idxZ idxRow; rw [hform_first hR hi]
theorem hform_lead {n : Nat} {R : List (List Int)} {ps : Nat → Nat} (hR : HForm n R ps) {i : Nat} (hi : i < R.length) : leadL (rowE_ R i) = (ps i : Int) := by
  unfold leadL; rw [hform_first hR hi]
theorem hform_herm {n : Nat} {R : List (List Int)} {ps : Nat → Nat} (hR : HForm n R ps) : hermB R = true := by
  unfold hermB
  rw [List.all_eq_true]
  intro i hi
  rw [List.mem_range] at hi
  have e : R.getD i [] = rowE_ R i := rfl
  have e1 := hform_idx hR hi
  unfold okAt
  rw [e, e1]
  have hb : beforeI R i < (ps i : Int) := by
    unfold beforeI
    split
    · omega
    · rename_i h0
      have e2 : idxZ (R.getD (i - 1) []) = (ps (i - 1) : Int) := hform_idx hR (i := i - 1) (by omega)
      rw [e2]
      have := hR.2.mono (i - 1) i (by omega) hi
      omega
  have hp : 0 ≤ (rowE_ R i).getD ((ps i : Int)).toNat 0 := Int.le_of_lt (hR.2.pos i hi)
  have hn : (R.take i).any (badAt ((ps i : Int)).toNat (rowE_ R i)) = false := by
    rw [List.any_eq_false]
    intro x hx
    obtain ⟨j, hj⟩ := List.getElem?_of_mem hx
    have hjl := (List.getElem?_eq_some_iff.1 hj).1
    rw [List.length_take] at hjl
    have hxj : rowE_ R j = x := by rw [← rowE_take (d := i) (by omega)]; exact rowE_of hj
    have hr := hR.2.red j i (by omega) hi
    unfold badAt
    rw [← hxj]
    have h1 : ¬ (rowE_ R j).getD ((ps i : Int)).toNat 0 < 0 := Int.not_lt.2 hr.1
    have h2 : ¬ (rowE_ R i).getD ((ps i : Int)).toNat 0 ≤ (rowE_ R j).getD ((ps i : Int)).toNat 0 := Int.not_le.2 hr.2
    rw [decide_eq_false h1, decide_eq_false h2]
    simp
  rw [decide_eq_true hb, decide_eq_true hp, hn]
  rfl

theorem ext_getD {r s : List Int} (hl : r.length = s.length) (h : ∀ c, r.getD c 0 = s.getD c 0) : r = s := by
  apply List.ext_getElem hl
  intro i h1 h2
  have e := h i
  rw [List.getD_eq_getElem?_getD, List.getD_eq_getElem?_getD, List.getElem?_eq_getElem h1, List.getElem?_eq_getElem h2] at e
  simpa using e
end Go.Proofs.YtjihfabhgcfjnaaGreatDoor
