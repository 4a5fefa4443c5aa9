/- row.Normal; the walk of RowContents. -/
import Derived.Test.YtobgghjmclagaaaDoorRefS
import Derived.Test.YtobgghjmclagaaaDoorKnownR
namespace Go.Proofs.YtobgghjmclagaaaDoor
set_option linter.unusedVariables false
set_option linter.unusedSimpArgs false
open Go.RowKit

theorem firstNeg_none : ∀ xs : List Int, xs.findIdx? (· != 0) = none → firstNeg xs = false
  | [], _ => rfl
  | x :: l, h => by
    rw [List.findIdx?_cons] at h
    by_cases hx : x = 0
    · subst hx
      simp only [bne_self_eq_false, Bool.false_eq_true, ↓reduceIte, Option.map_eq_none_iff] at h
      show (if (0 : Int) < 0 then true else if (0 : Int) < 0 then false else firstNeg l) = false
      simp [firstNeg_none l h]
    · rw [if_pos (by simpa using hx)] at h; cases h
theorem firstNeg_some : ∀ (xs : List Int) (i : Nat), xs.findIdx? (· != 0) = some i → ∃ x, xs[i]? = some x ∧ firstNeg xs = decide (x < 0)
  | [], i, h => by simp at h
  | x :: l, i, h => by
    rw [List.findIdx?_cons] at h
    by_cases hx : x = 0
    · subst hx
      simp only [bne_self_eq_false, Bool.false_eq_true, ↓reduceIte, Option.map_eq_some_iff] at h
      obtain ⟨k, hk, rfl⟩ := h
      obtain ⟨y, hy, hf⟩ := firstNeg_some l k hk
      refine ⟨y, by simpa using hy, ?_⟩
      show (if (0 : Int) < 0 then true else if (0 : Int) < 0 then false else firstNeg l) = _
      simp [hf]
    · rw [if_pos (by simpa using hx)] at h
      cases h
      refine ⟨x, rfl, ?_⟩
      unfold firstNeg
      by_cases h1 : x < 0
      · simp [h1]
      · rw [if_neg h1, if_pos (by omega)]; simp [h1]

theorem normal1_any (x : Int) (w : World) : Calls Tryd.prog 58 #[.int .i64 x] w fun e w' => e = .returned (.bool (x != 0)) ∧ w = w' := by
  go_enter Tryd.func58, Tryd.ntmps58
  go_wp2
  go_ret
  exact ⟨rfl, rfl⟩

theorem neg_ok {xs : List Int} (h : okRow xs) : scaleE (-1) xs = 0 := by
  unfold scaleE
  rw [if_pos ((rowE_zero xs).2 h), if_pos (by decide)]
  refine (rowE_zero _).2 ⟨by simpa using h.1, fun x hx => ?_⟩
  obtain ⟨y, hy, rfl⟩ := List.mem_map.1 hx
  have := h.2 y hy
  omega
theorem neg_map (xs : List Int) : xs.map (-1 * ·) = xs.map (- ·) := List.map_congr_left fun x _ => by omega

set_option maxRecDepth 100000 in
set_option maxHeartbeats 2000000 in
theorem normal_any (xs : List Int) (v : Value) (w : World) (h : Ints w v xs) :
    Calls Tryd.prog 19 #[v] w fun e w' => ∃ r, e = .returned (.tuple #[r, .int .i64 (rowE xs)]) ∧ Ext w w' ∧ (rowE xs = 0 → Ints w' r (normS xs)) ∧ (¬ rowE xs = 0 → r = .slice none 0 0) := by
  have HX := Lib.hid h
  have HCK := Lib.hid (rowCheck_any xs v w h)
  have HIX := Lib.hid (fun W' he => indexFuncRow_any xs v 58 #[] (· != 0) W' (h.ext (w' := W') he) (enters_of Tryd.func58 (by kernel_rfl) rfl) (fun W x _ _ => (normal1_any x W).mono fun _ _ ⟨he, hw⟩ => ⟨he, hw ▸ Ext.refl _⟩))
  have HNG := Lib.hid (fun W' he => neg_any xs v W' (h.ext (w' := W') he))
  obtain ⟨a, c, rfl, h1, h2, -, -, hc⟩ := h.open
  have HC := Lib.hid hc
  unfold maxLen at h2
  clear h hc
  by_cases he : rowE xs = 0
  · have hok := (rowE_zero xs).1 he
    have h64 := hok.1
    have HN0 := Lib.hid (neg_ok hok)
    rw [HN0.out, neg_map] at HNG
    rw [he] at HCK ⊢
    clear he hok
    cases hf : xs.findIdx? (· != 0) with
    | none =>
      have HI : Hid (idxRow (· != 0) xs = -1) := by unfold Hid idxRow; rw [hf]
      have HQ : Hid (normS xs = xs) := by unfold Hid normS; rw [firstNeg_none xs hf]; rfl
      rw [HI.out] at HIX
      clear hf HI HNG HN0
      go_enter Tryd.func19, Tryd.ntmps19
      go_wp2_with fail
      refine HCK.out.mono ?_
      rintro e w1 ⟨rfl, hE1⟩
      have HE1 := Lib.hid hE1
      have B1 := Lib.hid (HIX.out w1 hE1)
      clear hE1 HCK HIX
      go_wp2_with fail
      refine B1.out.mono ?_
      rintro e w2 ⟨rfl, hE2⟩
      have HE2 := Lib.hid (Ext.trans HE1.out hE2)
      clear hE2 B1
      go_wp2_with (at_builtin; go_must (refine wpList_append_copy rfl _ _ rfl _ xs _ (HX.out.ext HE2.out) (by omega) rfl rfl ?_))
      intro v' w3 hI hE
      have HI := Lib.hid hI; have HE := Lib.hid (Ext.trans HE2.out hE)
      clear hI hE
      go_wp2_with fail
      go_ret2
      first | exact ⟨_, rfl, HE.out, (fun _ => by rw [HQ.out]; exact HI.out), (by simp)⟩ | exact ⟨_, rfl, HE.out, by rw [HQ.out]; exact HI.out⟩
    | some i =>
      have HI : Hid (idxRow (· != 0) xs = (i : Int)) := by unfold Hid idxRow; rw [hf]
      obtain ⟨x, hx, hfn⟩ := firstNeg_some xs i hf
      have hlt : i < xs.length := (List.getElem?_eq_some_iff.1 hx).1
      obtain ⟨b, off, rfl, hb, hcell⟩ := HC.out (by intro e; simp [e] at hlt)
      have hcx := hcell i x hx
      have HCX := Lib.hid hcx
      have hi0 : (0 : Int) ≤ (i : Int) := by omega
      rw [HI.out] at HIX
      by_cases hx0 : x < 0
      · have HQ : Hid (normS xs = xs.map (- ·)) := by unfold Hid normS; rw [hfn]; simp [hx0]
        clear hf HI hx hfn hcell hcx
        go_enter Tryd.func19, Tryd.ntmps19
        go_wp2_with fail
        refine HCK.out.mono ?_
        rintro e w1 ⟨rfl, hE1⟩
        have HE1 := Lib.hid hE1
        have B1 := Lib.hid (HIX.out w1 hE1)
        clear hE1 HCK HIX
        go_wp2_with fail
        refine B1.out.mono ?_
        rintro e w2 ⟨rfl, hE2⟩
        have HE2 := Lib.hid (Ext.trans HE1.out hE2)
        have B2 := Lib.hid (HNG.out w2 HE2.out)
        have g1 := HE2.out.cell HCX.out
        clear hE2 B1
        go_wp2_with fail
        refine B2.out.mono ?_
        rintro e w3 ⟨r, rfl, hE3, hr0, hr1⟩
        have HE3 := Lib.hid (Ext.trans HE2.out hE3)
        have HR := Lib.hid (hr0 (by first | rfl | trivial))
        clear hE3 hr0 hr1 B2
        go_wp2_with fail
        go_ret2
        first | exact ⟨_, rfl, HE3.out, (fun _ => by rw [HQ.out]; exact HR.out), (by simp)⟩ | exact ⟨_, rfl, HE3.out, by rw [HQ.out]; exact HR.out⟩
      · have HQ : Hid (normS xs = xs) := by unfold Hid normS; rw [hfn]; simp [hx0]
        clear hf HI hx hfn hcell hcx HNG
        go_enter Tryd.func19, Tryd.ntmps19
        go_wp2_with fail
        refine HCK.out.mono ?_
        rintro e w1 ⟨rfl, hE1⟩
        have HE1 := Lib.hid hE1
        have B1 := Lib.hid (HIX.out w1 hE1)
        clear hE1 HCK HIX
        go_wp2_with fail
        refine B1.out.mono ?_
        rintro e w2 ⟨rfl, hE2⟩
        have HE2 := Lib.hid (Ext.trans HE1.out hE2)
        have g1 := HE2.out.cell HCX.out
        clear hE2 B1
        go_wp2_with (at_builtin; go_must (refine wpList_append_copy rfl _ _ rfl _ xs _ (HX.out.ext HE2.out) (by omega) rfl rfl ?_))
        intro v' w3 hI hE
        have HI := Lib.hid hI; have HE := Lib.hid (Ext.trans HE2.out hE)
        clear hI hE
        go_wp2_with fail
        go_ret2
        first | exact ⟨_, rfl, HE.out, (fun _ => by rw [HQ.out]; exact HI.out), (by simp)⟩ | exact ⟨_, rfl, HE.out, by rw [HQ.out]; exact HI.out⟩
  · have h4 : rowE xs = 4 := (rowE_four xs).resolve_left he
    rw [h4] at HCK ⊢
    clear he h4 HIX HNG
    go_enter Tryd.func19, Tryd.ntmps19
    go_wp2_with fail
    refine HCK.out.mono ?_
    rintro e w1 ⟨rfl, hE1⟩
    have HE1 := Lib.hid hE1
    clear hE1 HCK
    go_wp2_with fail
    go_ret2
    first | exact ⟨rfl, HE1.out⟩ | exact ⟨_, rfl, HE1.out, (by simp), fun _ => rfl⟩

theorem gcd_fold_dvd : ∀ (xs : List Int) (g : Nat), xs.foldl (fun g x => Nat.gcd g x.natAbs) g ∣ g ∧ ∀ x ∈ xs, xs.foldl (fun g x => Nat.gcd g x.natAbs) g ∣ x.natAbs
  | [], g => ⟨Nat.dvd_refl g, by simp⟩
  | x :: l, g => by
    obtain ⟨h1, h2⟩ := gcd_fold_dvd l (Nat.gcd g x.natAbs)
    refine ⟨Nat.dvd_trans h1 (Nat.gcd_dvd_left _ _), fun y hy => ?_⟩
    rcases List.mem_cons.1 hy with rfl | hy
    · exact Nat.dvd_trans h1 (Nat.gcd_dvd_right _ _)
    · exact h2 y hy
theorem gcdS_dvd {xs : List Int} {x : Int} (h : x ∈ xs) : (gcdS xs : Int) ∣ x := Int.ofNat_dvd_left.2 ((gcd_fold_dvd xs 0).2 x h)
theorem gcdS_zero (xs : List Int) : gcdS xs = 0 ↔ xs.any (· != 0) = false := by
  constructor
  · intro h
    rw [List.any_eq_false]
    intro x hx
    have := gcdS_dvd hx
    rw [h] at this
    have := Int.zero_dvd.1 (by simpa using this)
    simp [this]
  · intro h
    have hz : ∀ x ∈ xs, x = 0 := fun x hx => by simpa using List.any_eq_false.1 h x hx
    unfold gcdS
    have : ∀ (l : List Int), (∀ x ∈ l, x = 0) → l.foldl (fun g x => Nat.gcd g x.natAbs) 0 = 0 := by
      intro l
      induction l with
      | nil => intro _; rfl
      | cons x l ih =>
        intro hl
        rw [List.foldl_cons, hl x (by simp)]
        exact ih (fun y hy => hl y (by simp [hy]))
    exact this xs hz
theorem gcdS_back (xs : List Int) : (xs.map (·.tdiv (gcdS xs : Int))).map ((gcdS xs : Int) * ·) = xs := by
  rw [List.map_map]
  conv => { rhs; rw [← List.map_id xs] }
  exact List.map_congr_left fun x hx => Int.mul_tdiv_cancel' (gcdS_dvd hx)
theorem prim_ok {xs : List Int} (h : okRow xs) (g : Nat) : okRow (xs.map (·.tdiv (g : Int))) := by
  refine ⟨by simpa using h.1, fun x hx => ?_⟩
  obtain ⟨y, hy, rfl⟩ := List.mem_map.1 hx
  exact tdiv_bdn y g _ (h.2 y hy).1 (h.2 y hy).2
theorem back_ok {xs : List Int} (h : okRow xs) : rscOk (xs.map (·.tdiv (gcdS xs : Int))) (gcdS xs : Int) = true := by
  unfold rscOk
  split
  · rw [gcdS_back]
    have h1 : gcdS xs ≤ 1000000000 := gcdS_le xs 0 (by omega) (fun y hy => by have := h.2 y hy; omega)
    rw [(fitB_iff _).2 ⟨by omega, by omega⟩, Bool.true_and, List.all_eq_true]
    exact fun x hx => (fitB_iff x).2 (h.2 x hx)
  · rfl

set_option maxRecDepth 100000 in
set_option maxHeartbeats 4000000 in
theorem contents_walk (xs : List Int) (v : Value) (w : World) (h : Ints w v xs) (ht : Pow10 w) :
    Calls Tryd.prog 4 #[v] w fun e w' => e = .returned (.bool true) ∧ Ext w w' := by
  have HX := Lib.hid h; have HT := Lib.hid ht
  obtain ⟨a, c, rfl, -, -, -, -, -⟩ := h.open
  clear h ht
  by_cases hl : 80 < xs.length
  · have q1 : (80 : Int) < (xs.length : Int) := by omega
    clear hl
    go_enter Tryd.func4, Tryd.ntmps4
    go_wp2_with fail
    refine (known_any _ HT.out).mono ?_
    rintro e w1 ⟨rfl, hE1⟩
    have HE1 := Lib.hid hE1
    have HT1 := Lib.hid (HT.out.ext hE1)
    clear hE1
    go_wp2_with fail
    refine (known_any _ HT1.out).mono ?_
    rintro e w2 ⟨rfl, hE2⟩
    have HE2 := Lib.hid (Ext.trans HE1.out hE2)
    clear hE2
    go_wp2_with fail
    go_ret
    exact ⟨rfl, HE2.out⟩
  · have q1 : ¬ (80 : Int) < (xs.length : Int) := by omega
    clear hl
    have A1 := Lib.hid (fun W' he => content_any xs _ W' (HX.out.ext (w' := W') he))
    have A2 := Lib.hid (fun W' he => primitive_any xs _ W' (HX.out.ext (w' := W') he))
    have A3 := Lib.hid (fun W' he => normal_any xs _ W' (HX.out.ext (w' := W') he))
    have A4 := Lib.hid (fun W' he => refCheck_any xs _ W' (HX.out.ext (w' := W') he))
    have A5 := Lib.hid (fun W' he => refIsZero_any xs _ W' (HX.out.ext (w' := W') he))
    by_cases he : rowE xs = 0
    · have HOK := Lib.hid ((rowE_zero xs).1 he)
      rw [if_pos he, he] at A1
      rw [he] at A3 A4
      have A6 := Lib.hid (fun W' he => refContent_any xs _ W' (HX.out.ext (w' := W') he) HOK.out)
      have A7 := Lib.hid (fun W' he => refNormal_any xs _ W' (HX.out.ext (w' := W') he) HOK.out)
      have HRX := Lib.hid he
      clear he
      by_cases hg : gcdS xs = 0
      · have hp : primE xs = 17 := by unfold primE; rw [if_pos HRX.out, if_pos hg]
        have hz := (gcdS_zero xs).1 hg
        rw [hp] at A2
        rw [hz] at A5
        rw [hg] at A1 A6
        clear hp hz hg
        go_enter Tryd.func4, Tryd.ntmps4
        go_wp2_with fail
        refine (known_any _ HT.out).mono ?_
        rintro e w1 ⟨rfl, hE1⟩
        have HE1 := Lib.hid hE1
        have B1 := Lib.hid (A1.out w1 hE1)
        clear hE1
        go_wp2_with fail
        refine B1.out.mono ?_
        rintro e w2 ⟨rfl, hE2⟩
        have HE2 := Lib.hid (Ext.trans HE1.out hE2)
        have B2 := Lib.hid (A2.out w2 HE2.out)
        clear hE2 B1
        go_wp2_with fail
        refine B2.out.mono ?_
        rintro e w3 ⟨r, rfl, hE3, -, hr1⟩
        obtain rfl := hr1 (by decide)
        have HE3 := Lib.hid (Ext.trans HE2.out hE3)
        have B3 := Lib.hid (A3.out w3 HE3.out)
        clear hE3 B2 hr1
        go_wp2_with fail
        refine B3.out.mono ?_
        rintro e w4 ⟨rn, rfl, hE4, hr0, -⟩
        have HRN := Lib.hid (hr0 (by first | rfl | trivial))
        have HE4 := Lib.hid (Ext.trans HE3.out hE4)
        have B4 := Lib.hid (A4.out w4 HE4.out)
        have B6 := Lib.hid (A6.out w4 HE4.out)
        clear hE4 B3 hr0
        go_wp2_with fail
        refine B4.out.mono ?_
        rintro e w' ⟨rfl, rfl⟩
        clear B4
        go_wp2_with fail
        refine B6.out.mono ?_
        rintro e w5 ⟨rfl, hE5⟩
        have HE5 := Lib.hid (Ext.trans HE4.out hE5)
        have HRN5 := Lib.hid (HRN.out.ext hE5)
        have B7 := Lib.hid (A7.out w5 HE5.out)
        clear hE5 B6 HRN
        go_wp2_with fail
        refine B7.out.mono ?_
        rintro e w6 ⟨rv, rfl, hE6, hI6⟩
        have HE6 := Lib.hid (Ext.trans HE5.out hE6)
        have B8 := Lib.hid (refEqual_any _ _ _ _ w6 (HRN5.out.ext hE6) hI6)
        rw [beq_self_eq_true] at B8
        clear hE6 B7 hI6
        go_wp2_with fail
        refine B8.out.mono ?_
        rintro e w7 ⟨rfl, hE7⟩
        have HE7 := Lib.hid (Ext.trans HE6.out hE7)
        have B9 := Lib.hid (A5.out w7 HE7.out)
        clear hE7 B8
        go_wp2_with fail
        refine B9.out.mono ?_
        rintro e w' ⟨rfl, rfl⟩
        clear B9
        go_wp2_with fail
        go_ret
        exact ⟨rfl, HE7.out⟩
      · have hp : primE xs = 0 := by unfold primE; rw [if_pos HRX.out, if_neg hg]
        have hz : xs.any (· != 0) = true := by
          rw [← Bool.not_eq_false]; exact fun e => hg ((gcdS_zero xs).2 e)
        have A8 := Lib.hid (fun W' he => refPrimitive_any xs _ W' (HX.out.ext (w' := W') he) HOK.out hg)
        have HBK := Lib.hid (gcdS_back xs)
        have HBO := Lib.hid (back_ok HOK.out)
        have HPO := Lib.hid (prim_ok HOK.out (gcdS xs))
        rw [hp] at A2
        rw [hz] at A5
        obtain ⟨g, hgg⟩ : ∃ g, gcdS xs = g := ⟨_, rfl⟩
        rw [hgg] at A1 A2 A6 A8 HBK HBO HPO
        obtain ⟨ps, hps⟩ : ∃ ps, xs.map (·.tdiv (g : Int)) = ps := ⟨_, rfl⟩
        rw [hps] at A2 A8 HBK HBO HPO
        clear hp hz hg hgg hps
        go_enter Tryd.func4, Tryd.ntmps4
        go_wp2_with fail
        refine (known_any _ HT.out).mono ?_
        rintro e w1 ⟨rfl, hE1⟩
        have HE1 := Lib.hid hE1
        have B1 := Lib.hid (A1.out w1 hE1)
        clear hE1
        go_wp2_with fail
        refine B1.out.mono ?_
        rintro e w2 ⟨rfl, hE2⟩
        have HE2 := Lib.hid (Ext.trans HE1.out hE2)
        have B2 := Lib.hid (A2.out w2 HE2.out)
        clear hE2 B1
        go_wp2_with fail
        refine B2.out.mono ?_
        rintro e w3 ⟨r, rfl, hE3, hr0, -⟩
        have HP := Lib.hid (hr0 (by first | rfl | trivial))
        have HE3 := Lib.hid (Ext.trans HE2.out hE3)
        have B3 := Lib.hid (A3.out w3 HE3.out)
        clear hE3 B2 hr0
        go_wp2_with fail
        refine B3.out.mono ?_
        rintro e w4 ⟨rn, rfl, hE4, hr0, -⟩
        have HRN := Lib.hid (hr0 (by first | rfl | trivial))
        have HE4 := Lib.hid (Ext.trans HE3.out hE4)
        have HP4 := Lib.hid (HP.out.ext hE4)
        have B4 := Lib.hid (A4.out w4 HE4.out)
        have B6 := Lib.hid (A6.out w4 HE4.out)
        clear hE4 B3 hr0 HP
        go_wp2_with fail
        refine B4.out.mono ?_
        rintro e w' ⟨rfl, rfl⟩
        clear B4
        go_wp2_with fail
        refine B6.out.mono ?_
        rintro e w5 ⟨rfl, hE5⟩
        have HE5 := Lib.hid (Ext.trans HE4.out hE5)
        have HRN5 := Lib.hid (HRN.out.ext hE5)
        have HP5 := Lib.hid (HP4.out.ext hE5)
        have B7 := Lib.hid (A7.out w5 HE5.out)
        clear hE5 B6 HRN HP4
        go_wp2_with fail
        refine B7.out.mono ?_
        rintro e w6 ⟨rv, rfl, hE6, hI6⟩
        have HE6 := Lib.hid (Ext.trans HE5.out hE6)
        have HP6 := Lib.hid (HP5.out.ext hE6)
        have B8 := Lib.hid (refEqual_any _ _ _ _ w6 (HRN5.out.ext hE6) hI6)
        rw [beq_self_eq_true] at B8
        clear hE6 B7 hI6 HP5
        go_wp2_with fail
        refine B8.out.mono ?_
        rintro e w7 ⟨rfl, hE7⟩
        have HE7 := Lib.hid (Ext.trans HE6.out hE7)
        have HP7 := Lib.hid (HP6.out.ext hE7)
        have B9 := Lib.hid (A5.out w7 HE7.out)
        have B10 := Lib.hid (refScale_any ps (g : Int) _ w7 HP7.out HPO.out)
        rw [HBO.out, HBK.out] at B10
        clear hE7 B8 HP6
        go_wp2_with fail
        refine B9.out.mono ?_
        rintro e w' ⟨rfl, rfl⟩
        clear B9
        go_wp2_with fail
        refine B10.out.mono ?_
        rintro e w8 ⟨rb, rfl, hE8, hr0, -⟩
        have HBA := Lib.hid (hr0 (by first | rfl | trivial))
        have HE8 := Lib.hid (Ext.trans HE7.out hE8)
        have HP8 := Lib.hid (HP7.out.ext hE8)
        have B11 := Lib.hid (A8.out w8 HE8.out)
        clear hE8 B10 hr0 HP7
        go_wp2_with fail
        refine B11.out.mono ?_
        rintro e w9 ⟨rp, rfl, hE9, hI9⟩
        have HE9 := Lib.hid (Ext.trans HE8.out hE9)
        have HBA9 := Lib.hid (HBA.out.ext hE9)
        have B12 := Lib.hid (refEqual_any _ _ _ _ w9 (HP8.out.ext hE9) hI9)
        rw [beq_self_eq_true] at B12
        clear hE9 B11 hI9 HP8 HBA
        go_wp2_with fail
        refine B12.out.mono ?_
        rintro e w10 ⟨rfl, hE10⟩
        have HE10 := Lib.hid (Ext.trans HE9.out hE10)
        have B13 := Lib.hid (refEqual_any _ _ _ _ w10 (HBA9.out.ext hE10) (HX.out.ext HE10.out))
        rw [beq_self_eq_true] at B13
        clear hE10 B12 HBA9
        go_wp2_with fail
        refine B13.out.mono ?_
        rintro e w11 ⟨rfl, hE11⟩
        have HE11 := Lib.hid (Ext.trans HE10.out hE11)
        clear hE11 B13
        go_wp2_with fail
        go_ret
        exact ⟨rfl, HE11.out⟩
    · have h4 : rowE xs = 4 := (rowE_four xs).resolve_left he
      have hp : primE xs = 4 := by unfold primE; rw [if_neg he, h4]
      rw [if_neg he, h4] at A1
      rw [hp] at A2
      rw [h4] at A3 A4
      clear h4 he hp
      go_enter Tryd.func4, Tryd.ntmps4
      go_wp2_with fail
      refine (known_any _ HT.out).mono ?_
      rintro e w1 ⟨rfl, hE1⟩
      have HE1 := Lib.hid hE1
      have B1 := Lib.hid (A1.out w1 hE1)
      clear hE1
      go_wp2_with fail
      refine B1.out.mono ?_
      rintro e w2 ⟨rfl, hE2⟩
      have HE2 := Lib.hid (Ext.trans HE1.out hE2)
      have B2 := Lib.hid (A2.out w2 HE2.out)
      clear hE2 B1
      go_wp2_with fail
      refine B2.out.mono ?_
      rintro e w3 ⟨r, rfl, hE3, -, hr1⟩
      obtain rfl := hr1 (by decide)
      have HE3 := Lib.hid (Ext.trans HE2.out hE3)
      have B3 := Lib.hid (A3.out w3 HE3.out)
      clear hE3 B2 hr1
      go_wp2_with fail
      refine B3.out.mono ?_
      rintro e w4 ⟨rn, rfl, hE4, -, hr1⟩
      obtain rfl := hr1 (by decide)
      have HE4 := Lib.hid (Ext.trans HE3.out hE4)
      have B4 := Lib.hid (A4.out w4 HE4.out)
      clear hE4 B3 hr1
      go_wp2_with fail
      refine B4.out.mono ?_
      rintro e w' ⟨rfl, rfl⟩
      clear B4
      go_wp2_with fail
      go_ret
      exact ⟨rfl, HE4.out⟩
end Go.Proofs.YtobgghjmclagaaaDoor
