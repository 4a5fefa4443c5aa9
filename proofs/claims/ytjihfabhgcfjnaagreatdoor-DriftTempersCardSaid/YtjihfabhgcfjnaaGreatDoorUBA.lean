/- Merged: Form. -/
import Derived.Test.YtjihfabhgcfjnaaGreatDoorUAX
import Derived.Test.YtjihfabhgcfjnaaGreatDoorUAN
import Derived.RegionTactic
import Derived.BigRegion
import Derived.Deep.DeepCutAuto
import Derived.Deep.RegionHeld3
import Derived.StillTail
import Derived.StillTactics
/- The Hermite normal form of package lattice, in place. -/
namespace Go.Proofs.YtjihfabhgcfjnaaGreatDoor
set_option linter.unusedVariables false
set_option linter.unusedSimpArgs false
open Go.RowKit

/-- Where the work in place stands: the matrix at some blocks, always the same ones. -/
def FormAt (w : World) (g0 : Nat) (tags0 tags : List (Nat × Nat × Nat)) (m : List (List Int)) : Prop :=
  MatB w g0 tags m ∧ (∀ b, b ∈ tags.map (·.1) → b ∈ tags0.map (·.1))

def atV : Option Nat → Value
  | none => .int .i64 (-1)
  | some a => .int .i64 a
theorem bestO_succ (c d : Nat) (m : List (List Int)) (k : Nat) : bestO c d m (k + 1) = match bestO c d m k with
    | none => if getE m (d + k) c = 0 then none else some (d + k)
    | some a => if getE m (d + k) c ≠ 0 ∧ (getE m (d + k) c).natAbs < (getE m a c).natAbs then some (d + k) else some a := rfl
theorem bestO_zero {c d i : Nat} {m : List (List Int)} (hi : d ≤ i) (h : getE m i c = 0) : bestO c d m (i + 1 - d) = bestO c d m (i - d) := by
  rw [show i + 1 - d = (i - d) + 1 by omega, bestO_succ, show d + (i - d) = i by omega]
  cases bestO c d m (i - d) with
  | none => simp [h]
  | some a => simp [h]
theorem bestO_first {c d i : Nat} {m : List (List Int)} (hi : d ≤ i) (h : getE m i c ≠ 0) (hb : bestO c d m (i - d) = none) : bestO c d m (i + 1 - d) = some i := by
  rw [show i + 1 - d = (i - d) + 1 by omega, bestO_succ, show d + (i - d) = i by omega, hb]
  simp [h]
theorem bestO_next {c d i a : Nat} {m : List (List Int)} (hi : d ≤ i) (h : getE m i c ≠ 0) (hb : bestO c d m (i - d) = some a) : bestO c d m (i + 1 - d) = if (getE m i c).natAbs < (getE m a c).natAbs then some i else some a := by
  rw [show i + 1 - d = (i - d) + 1 by omega, bestO_succ, show d + (i - d) = i by omega, hb]
  simp only
  by_cases hl : (getE m i c).natAbs < (getE m a c).natAbs
  · rw [if_pos ⟨h, hl⟩, if_pos hl]
  · rw [if_neg (fun x => hl x.2), if_neg hl]
theorem bestO_in {c d : Nat} {m : List (List Int)} : ∀ (k a : Nat), bestO c d m k = some a → d ≤ a ∧ a < d + k ∧ getE m a c ≠ 0
  | 0, a, h => by simp [bestO] at h
  | k + 1, a, h => by
    rw [bestO_succ] at h
    cases hb : bestO c d m k with
    | none =>
      rw [hb] at h
      simp only at h
      split at h
      · cases h
      · rename_i hne
        obtain rfl := Option.some.inj h
        exact ⟨by omega, by omega, hne⟩
    | some b =>
      rw [hb] at h
      simp only at h
      have ih := bestO_in k b hb
      split at h
      · rename_i hc
        obtain rfl := Option.some.inj h
        exact ⟨by omega, by omega, hc.1⟩
      · obtain rfl := Option.some.inj h
        exact ⟨ih.1, by omega, ih.2.2⟩

/-- An element of the matrix in memory. -/
theorem FormAt.elem {w : World} {g0 : Nat} {tags0 tags : List (Nat × Nat × Nat)} {m : List (List Int)} (h : FormAt w g0 tags0 tags m) {n : Nat} (hok : okM n m = true) (i c : Nat) (hi : i < m.length) (hc : c < n) :
    ∃ t : Nat × Nat × Nat, tags[i]? = some t ∧ w.cell? ⟨g0, i, none⟩ = some (.slice (some ⟨t.1, t.2.1, none⟩) n t.2.2) ∧ n ≤ t.2.2 ∧ t.2.2 ≤ maxLen ∧ w.cell? ⟨t.1, t.2.1 + c, none⟩ = some (.string (intB (getE m i c))) ∧ RowB w t.1 t.2.1 (rowE_ m i) ∧ t.1 ≠ g0 ∧ Sz (getE m i c) := by
  obtain ⟨t, ht, h1, h2, h3, h4, h5⟩ := h.1.get i hi
  obtain ⟨hl, hs⟩ := okM_row hok i hi
  have hcl : c < (rowE_ m i).length := by omega
  have e : (rowE_ m i)[c]? = some (getE m i c) := by
    unfold getE; rw [List.getD_eq_getElem?_getD, List.getElem?_eq_getElem hcl]; rfl
  rw [hl] at h1 h2
  exact ⟨t, ht, h1, h2, h3, h4.cell c _ e, h4, h5, sm_of (List.all_eq_true.1 hs _ (List.mem_of_getElem? e))⟩
theorem FormAt.ext {w w' : World} {g0 : Nat} {tags0 tags : List (Nat × Nat × Nat)} {m : List (List Int)} (h : FormAt w g0 tags0 tags m) (he : Ext w w') : FormAt w' g0 tags0 tags m := ⟨h.1.ext he, h.2⟩
theorem FormAt.grownRow {w w' : World} {g0 : Nat} {tags0 tags : List (Nat × Nat × Nat)} {m : List (List Int)} (h : FormAt w g0 tags0 tags m) (i : Nat) (hi : i < m.length) (t : Nat × Nat × Nat) (ht : tags[i]? = some t) (r : List Int) (hr : r.length = (rowE_ m i).length) (hg : GrownS (· = t.1) w w') (hR : RowB w' t.1 t.2.1 r) : FormAt w' g0 tags0 tags (m.set i r) :=
  ⟨h.1.setRow i hi t ht r hr hg hR, h.2⟩
theorem FormAt.inb {w : World} {g0 : Nat} {tags0 tags : List (Nat × Nat × Nat)} {m : List (List Int)} (h : FormAt w g0 tags0 tags m) {i : Nat} {t : Nat × Nat × Nat} (ht : tags[i]? = some t) : blocksOf g0 tags0 t.1 :=
  List.mem_cons_of_mem _ (h.2 t.1 (List.mem_map.2 ⟨t, List.mem_of_getElem? ht, rfl⟩))
theorem getE_get {m : List (List Int)} {i c : Nat} (hc : c < (rowE_ m i).length) : (rowE_ m i)[c]? = some (getE m i c) := by
  unfold getE; rw [List.getD_eq_getElem?_getD, List.getElem?_eq_getElem hc]; rfl
theorem okM_set {n : Nat} {m : List (List Int)} (h : okM n m = true) (i : Nat) (r : List Int) (h1 : r.length = n) (h2 : r.all smB = true) : okM n (m.set i r) = true := by
  unfold okM at h ⊢
  rw [List.all_eq_true] at h ⊢
  intro x hx
  rcases List.mem_or_eq_of_mem_set hx with hx | hx
  · exact h x hx
  · rw [hx, Bool.and_eq_true, decide_eq_true_iff]; exact ⟨h1, h2⟩
theorem negL_sm {r : List Int} (h : r.all smB = true) : (negL r).all smB = true := by
  unfold negL
  rw [List.all_map, List.all_eq_true]
  rw [List.all_eq_true] at h
  intro x hx
  have := (smB_iff x).1 (h x hx)
  show smB (-x) = true
  rw [smB_iff, Int.natAbs_neg]; exact this
theorem up_some {c d : Nat} {m m3 : List (List Int)} {p : Bool} (h : (match upO c d m d with | none => none | some m4 => some (m4, true)) = some (m3, p)) : ∃ z, upO c d m d = some z ∧ m3 = z ∧ p = true := by
  cases hu : upO c d m d with
  | none => rw [hu] at h; cases h
  | some z =>
    rw [hu] at h
    simp only [Option.some.injEq, Prod.mk.injEq] at h
    exact ⟨z, rfl, h.1.symm, h.2.symm⟩
theorem cmp_lt (x y : Int) : decide (cmpI (x.natAbs : Int) (y.natAbs : Int) < 0) = decide (x.natAbs < y.natAbs) := by
  unfold cmpI
  by_cases h : x.natAbs < y.natAbs
  · rw [if_pos (by omega), decide_eq_true h]; rfl
  · rw [if_neg (by omega), decide_eq_false h]; split <;> rfl
theorem sm_size {x : Int} (h : Sz x) : (intB x).size ≤ 10000000000 := by have := h.size; omega
theorem sm_abs {x : Int} (h : Sz x) : Sz (x.natAbs : Int) := h.natAbs

set_option maxRecDepth 1000000 in
set_option maxHeartbeats 40000000 in
theorem form_any (n F cols : Nat) (m : List (List Int)) (tags : List (Nat × Nat × Nat)) (g0 cap base : Nat) (w : World) (R : List (List Int) × Nat) (hM : MatB w g0 tags m) (hok : colsO n F cols 0 0 m = some R)
    (hcap : m.length ≤ cap) (hcap2 : cap ≤ maxLen) (hcols : cols ≤ n) (hcols2 : n ≤ 1000000) (ht : Pow10 w) (hb : 2 < base) (hg : ∀ b, blocksOf g0 tags b → base ≤ b) (hbw : base ≤ w.heap.size) :
    Calls Tryz.prog 90 #[.slice (some ⟨g0, 0, none⟩) m.length cap, .int .i64 cols] w fun e w' => ∃ tags', e = .returned (.slice (some ⟨g0, 0, none⟩) R.2 cap) ∧ FormAt w' g0 tags tags' R.1 ∧ R.1.length = m.length ∧ R.2 ≤ m.length ∧ GrownS (blocksOf g0 tags) w w' := by
  have HM := Lib.hid hM; have HOK := Lib.hid hok; have HT := Lib.hid ht; have HB := Lib.hid hb; have HGB := Lib.hid hg
  unfold maxLen at hcap2
  obtain ⟨L, hL⟩ : ∃ L, m.length = L := ⟨_, rfl⟩
  rw [hL] at hcap ⊢
  have HL := Lib.hid hL
  clear hM hok ht hb hg hL
  go_enter Tryz.func90, Tryz.ntmps90
  go_wp2_with fail
  go_loopw [5, 6] (fun sd sc wr => ∃ (c d : Nat) (m1 : List (List Int)) (tags1 : List (Nat × Nat × Nat)), c ≤ cols ∧ d ≤ L ∧ sc = .int .i64 c ∧ sd = .int .i64 d ∧ GrownS (blocksOf g0 tags) w wr ∧ Hid (FormAt wr g0 tags tags1 m1) ∧ Hid (m1.length = L) ∧ Hid (colsO n F (cols - c) c d m1 = some R)) (fun _ sc _ => cols - (intOf sc).toNat)
  case atStart => exact ⟨0, 0, m, tags, by omega, by omega, rfl, rfl, GrownS.refl _ _, ⟨HM.out, fun b h => h⟩, HL.out, HOK.out⟩
  case round =>
    obtain ⟨c, d, m1, tags1, hc, hd, rfl, rfl, hG, HFA, HL1, HC⟩ := hrel
    obtain ⟨wo, rfl⟩ : ∃ wo : World, wo = wr := ⟨_, rfl⟩
    by_cases hlt : c < cols ∧ d < L
    · obtain ⟨hlc, hld⟩ := hlt
      obtain ⟨q, hq⟩ : ∃ q, cols - c = q + 1 := ⟨cols - c - 1, by omega⟩
      have hC := HC.out
      rw [hq] at hC
      unfold colsO at hC
      rw [if_pos (by rw [HL1.out]; exact hld)] at hC
      cases hsw : sweepO n c d F m1 with
      | none => rw [hsw] at hC; cases hC
      | some r =>
      obtain ⟨m3, p⟩ := r
      rw [hsw] at hC
      have HSW := Lib.hid hsw
      have HC2 : Hid (colsO n F q (c + 1) (if p then d + 1 else d) m3 = some R) := hC
      have HQ := Lib.hid hq
      have hcn : c < n := by omega
      clear hsw hC hq HC
      go_wp2_with fail
      go_loopg [5] F (fun f sd wr => ∃ (m2 : List (List Int)) (tags2 : List (Nat × Nat × Nat)), sd = .int .i64 d ∧ GrownS (blocksOf g0 tags) w wr ∧ Hid (FormAt wr g0 tags tags2 m2) ∧ Hid (m2.length = L) ∧ Hid (sweepO n c d f m2 = some (m3, p)))
      case atStart => exact ⟨m1, tags1, rfl, hG, HFA.out, HL1.out, HSW.out⟩
      case round =>
        clear HFA HL1 HSW hG
        obtain ⟨m2, tags2, rfl, hG, HFA, HL2, HSW⟩ := hrel
        obtain ⟨w2, rfl⟩ : ∃ w2 : World, w2 = wr := ⟨_, rfl⟩
        cases gk with
        | zero => exact absurd HSW.out (by unfold sweepO; simp)
        | succ f =>
        have hS := HSW.out
        unfold sweepO at hS
        by_cases hokm : okM n m2 = true
        · rw [if_pos hokm, HL2.out] at hS
          have HOKM := Lib.hid hokm
          have HS := Lib.hid hS
          clear hS hokm HSW
          go_wp2_with fail
          go_loopw [7, 8] (fun sa si wr => ∃ i : Nat, d ≤ i ∧ i ≤ L ∧ si = .int .i64 i ∧ Ext w2 wr ∧ Hid (sa = atV (bestO c d m2 (i - d)))) (fun _ si _ => L - (intOf si).toNat)
          case atStart => exact ⟨d, by omega, by omega, rfl, Ext.refl _, by rw [Nat.sub_self]; rfl⟩
          case round =>
            obtain ⟨i, hdi, hiL, rfl, hE, HA⟩ := hrel
            obtain ⟨w3, rfl⟩ : ∃ w3 : World, w3 = wr := ⟨_, rfl⟩
            have HA0 := HA
            have hA := HA.out
            clear HA
            by_cases hil : i < L
            · as_aux_lemma =>
              --<A
              obtain ⟨t, ht, k1, k2, k3, k4, k5, k6, k7⟩ := FormAt.elem (HFA.out.ext hE) HOKM.out i c (by rw [HL2.out]; exact hil) hcn
              unfold maxLen at k3
              have hz := int_zero (getE m2 i c)
              by_cases he : getE m2 i c = 0
              · rw [decide_eq_true he] at hz
                have HN : Hid (u7 = atV (bestO c d m2 (i + 1 - d))) := by unfold Hid; rw [bestO_zero hdi he]; exact hA
                have HE := Lib.hid hE
                obtain ⟨x, hx⟩ : ∃ x, getE m2 i c = x := ⟨_, rfl⟩
                rw [hx] at k4 hz
                clear ht k5 k6 k7 hA he hx hE
                go_wp2_with fail
                go_quiet (fail)
                go_wp2_with fail
                go_roundw
                case rel => exact ⟨i + 1, by omega, by omega, by go_num, Ext.draws HE.out _, HN.out⟩
                case measure => simp [intOf]; omega
              · rw [decide_eq_false he] at hz
                cases hbo : bestO c d m2 (i - d) with
                | none =>
                  rw [hbo] at hA
                  obtain rfl : u7 = .int .i64 (-1) := hA
                  have HN : Hid (Value.int .i64 (i : Int) = atV (bestO c d m2 (i + 1 - d))) := by unfold Hid; rw [bestO_first hdi he hbo]; rfl
                  have HE := Lib.hid hE
                  obtain ⟨x, hx⟩ : ∃ x, getE m2 i c = x := ⟨_, rfl⟩
                  rw [hx] at k4 hz
                  clear ht k5 k6 k7 he hx hE hbo
                  go_wp2_with fail
                  go_quiet (fail)
                  go_wp2_with fail
                  go_roundw
                  case rel => exact ⟨i + 1, by omega, by omega, by go_num, Ext.draws HE.out _, HN.out⟩
                  case measure => simp [intOf]; omega
                | some a =>
                  rw [hbo] at hA
                  obtain rfl : u7 = .int .i64 a := hA
                  obtain ⟨ha1, ha2, ha3⟩ := bestO_in _ _ hbo
                  have haL : a < L := by omega
                  obtain ⟨s, hs, l1, l2, l3, l4, l5, l6, l7⟩ := FormAt.elem (HFA.out.ext hE) HOKM.out a c (by rw [HL2.out]; exact haL) hcn
                  unfold maxLen at l3
                  have HNX := Lib.hid (bestO_next hdi he hbo)
                  have HCM := Lib.hid (cmp_lt (getE m2 i c) (getE m2 a c))
                  have HE := Lib.hid hE
                  obtain ⟨x, hx⟩ : ∃ x, getE m2 i c = x := ⟨_, rfl⟩
                  obtain ⟨y, hy⟩ : ∃ y, getE m2 a c = y := ⟨_, rfl⟩
                  rw [hx] at k4 hz k7 HNX HCM
                  rw [hy] at l4 l7 HNX HCM
                  have HCQ := Lib.hid (fun W => compare_q (x.natAbs : Int) (y.natAbs : Int) W (sm_size (sm_abs k7)) (sm_size (sm_abs l7)))
                  clear ht k5 k6 k7 he hx hy hE hbo hs l5 l6 l7 ha1 ha2 ha3
                  by_cases hxy : x.natAbs < y.natAbs
                  · have hcb : decide (cmpI (x.natAbs : Int) (y.natAbs : Int) < 0) = true := by rw [HCM.out]; exact decide_eq_true hxy
                    have HN : Hid (Value.int .i64 (i : Int) = atV (bestO c d m2 (i + 1 - d))) := by unfold Hid; rw [HNX.out, if_pos hxy]; rfl
                    clear hxy HNX HCM
                    go_wp2_with fail
                    go_quiet ((first | (go_at_call 132; exact Calls.quiet_of (abs_q _ _)) | (go_at_call 131; exact Calls.quiet_of (HCQ.out _))))
                    go_wp2_with fail
                    go_roundw
                    case rel => exact ⟨i + 1, by omega, by omega, by go_num, Ext.draws HE.out _, HN.out⟩
                    case measure => simp [intOf]; omega
                  · have hcb : decide (cmpI (x.natAbs : Int) (y.natAbs : Int) < 0) = false := by rw [HCM.out]; exact decide_eq_false hxy
                    have HN : Hid (Value.int .i64 (a : Int) = atV (bestO c d m2 (i + 1 - d))) := by unfold Hid; rw [HNX.out, if_neg hxy]; rfl
                    clear hxy HNX HCM
                    go_wp2_with fail
                    go_quiet ((first | (go_at_call 132; exact Calls.quiet_of (abs_q _ _)) | (go_at_call 131; exact Calls.quiet_of (HCQ.out _))))
                    go_wp2_with fail
                    go_roundw
                    case rel => exact ⟨i + 1, by omega, by omega, by go_num, Ext.draws HE.out _, HN.out⟩
                    case measure => simp [intOf]; omega
              -->A
            · obtain rfl : i = L := by omega
              clear hA
              have hA := HA0.out
              have hS := HS.out
              have HE := Lib.hid hE
              have HG3 := Lib.hid (hG.ext hE)
              have HF3 := Lib.hid (HFA.out.ext hE)
              clear hE hG HFA HS
              cases hbo : bestO c d m2 (i - d) with
              | none =>
                rw [hbo] at hA hS
                obtain rfl : u7 = .int .i64 (-1) := hA
                simp only [Option.some.injEq, Prod.mk.injEq] at hS
                obtain ⟨rfl, rfl⟩ := hS
                have HC3 : Hid (colsO n F q (c + 1) d m2 = some R) := HC2.out
                have HQ2 : Hid (cols - (c + 1) = q) := by have := HQ.out; unfold Hid; omega
                clear hbo HC2 HA0
                go_wp2_with fail
                go_roundw
                case rel => exact ⟨c + 1, d, m2, tags2, by omega, by omega, by go_num, rfl, HG3.out, HF3.out, HL2.out, by unfold Hid; rw [HQ2.out]; exact HC3.out⟩
                case measure => simp [intOf]; omega
              | some a =>
                rw [hbo] at hA hS
                obtain rfl : u7 = .int .i64 a := hA
                dsimp only at hS
                obtain ⟨ha1, ha2, ha3⟩ := bestO_in _ _ hbo
                have haL : a < i := by omega
                obtain ⟨td, htd, c1, c2, c3, c4, c5⟩ := HF3.out.1.get d (by rw [HL2.out]; omega)
                obtain ⟨ta, hta, e1, e2, e3, e4, e5⟩ := HF3.out.1.get a (by rw [HL2.out]; omega)
                have fd := HF3.out.1.free d
                have fa := HF3.out.1.free a
                have HTD := Lib.hid htd; have HTA := Lib.hid hta
                have HSW1 := Lib.hid (HF3.out.1.swap d a (by rw [HL2.out]; omega) (by rw [HL2.out]; omega) td ta htd hta)
                have HSd := Lib.hid hS
                clear hS hbo HA0 htd hta c2 c3 c4 c5 e2 e3 e4 e5 ha2 ha3
                go_upto_region 12 with fail
                go_cut [] from 29 to 177 (fun wx => Hid (FormAt wx g0 tags (swapL tags2 d a) (swapL m2 d a)) ∧ Hid (GrownS (blocksOf g0 tags) w wx))
                case first =>
                  as_aux_lemma =>
                  --<C
                  have hSub : ∀ b, b ∈ (swapL tags2 d a).map (·.1) → b ∈ tags.map (·.1) := fun b hb => by
                    rw [swapL_map] at hb
                    exact HF3.out.2 b (swapL_mem _ _ _ _ hb)
                  have HSub := Lib.hid hSub
                  clear hSub
                  by_cases hda : d = a
                  · subst hda
                    obtain rfl : td = ta := Option.some.inj (HTD.out.symm.trans HTA.out)
                    go_region
                    all_goals (go_wp2_with fail; go_meet; exact ⟨⟨HSW1.out.ext (Ext.drew _), HSub.out⟩, ((HG3.out.setCell (List.mem_cons_self ..) _ _).setCell (List.mem_cons_self ..) _ _).ext (Ext.drew _)⟩)
                  · have hda1 : ¬ a = d := fun e => hda e.symm
                    go_region
                    all_goals (go_wp2_with fail; go_meet; exact ⟨⟨HSW1.out.ext (Ext.drew _), HSub.out⟩, ((HG3.out.setCell (List.mem_cons_self ..) _ _).setCell (List.mem_cons_self ..) _ _).ext (Ext.drew _)⟩)
                  -->C
                case rest =>
                  obtain ⟨HF4, HG4⟩ := hcut
                  have HOKS := Lib.hid (okM_swap HOKM.out d a)
                  have HLS0 : Hid ((swapL m2 d a).length = i) := by unfold Hid; rw [swapL_len]; exact HL2.out
                  have hSd := HSd.out
                  have HPW : Hid (∀ W, GrownS (blocksOf g0 tags) w W → Pow10 W) := fun W hW => HT.out.below (hW.below hbw HGB.out) HB.out
                  obtain ⟨ms, hms⟩ : ∃ ms, swapL m2 d a = ms := ⟨_, rfl⟩
                  rw [hms] at HF4 HOKS HLS0 hSd
                  clear hms HSd HSW1 HF3 HG3 c1 e1 fd fa HTD HTA
                  cases hdn : downO c d ms (i - (d + 1)) with
                  | none => rw [hdn] at hSd; cases hSd
                  | some r =>
                  obtain ⟨mf, rf⟩ := r
                  rw [hdn] at hSd
                  have HDN := Lib.hid hdn
                  have HSE := Lib.hid hSd
                  clear hdn hSd
                  go_wp2_with fail
                  go_loopw [9, 10] (fun sr si wr => ∃ (i4 : Nat) (mj : List (List Int)) (rj : Bool), d + 1 ≤ i4 ∧ i4 ≤ i ∧ si = .int .i64 i4 ∧ sr = .bool rj ∧ Hid (GrownS (blocksOf g0 tags) w wr) ∧ Hid (FormAt wr g0 tags (swapL tags2 d a) mj) ∧ Hid (downO c d ms (i4 - (d + 1)) = some (mj, rj))) (fun _ si _ => i - (intOf si).toNat)
                  case atStart => exact ⟨d + 1, ms, false, by omega, by omega, by go_num, rfl, HG4.out, HF4.out, by unfold Hid; rw [Nat.sub_self]; rfl⟩
                  case round =>
                    obtain ⟨i4, mj, rj, h4a, h4b, rfl, rfl, HGJ, HFJ, HDJ⟩ := hrel
                    obtain ⟨w4, rfl⟩ : ∃ w4 : World, w4 = wr := ⟨_, rfl⟩
                    obtain ⟨kl1, kl2, kl3⟩ := downO_keep HDJ.out (by rw [HLS0.out]; omega)
                    have HLJ : Hid (mj.length = i) := by unfold Hid; rw [kl1]; exact HLS0.out
                    by_cases h4l : i4 < i
                    · as_aux_lemma =>
                      --<D
                      obtain ⟨z, hz4⟩ := downO_some HDN.out (i4 + 1 - (d + 1)) (by omega)
                      rw [show i4 + 1 - (d + 1) = (i4 - (d + 1)) + 1 by omega] at hz4
                      obtain ⟨mj', rj', nr, e1, hy0, hless, e2⟩ := downO_step hz4
                      rw [HDJ.out] at e1
                      simp only [Option.some.injEq, Prod.mk.injEq] at e1
                      obtain ⟨rfl, rfl⟩ := e1
                      rw [show d + 1 + (i4 - (d + 1)) = i4 by omega] at hless e2
                      have HXL : Hid ((rowE_ mj i4).length = n ∧ (rowE_ mj i4).all smB = true) := by
                        unfold Hid; rw [kl2 i4 (by omega)]; exact okM_row HOKS.out i4 (by rw [HLS0.out]; omega)
                      have HYL : Hid ((rowE_ mj d).length = n ∧ (rowE_ mj d).all smB = true) := by
                        unfold Hid; rw [kl2 d (by omega)]; exact okM_row HOKS.out d (by rw [HLS0.out]; omega)
                      have HST : Hid (downO c d ms (i4 + 1 - (d + 1)) = some (mj.set i4 nr, rj || decide (fdr (getE mj i4 c) (getE mj d c) ≠ 0))) := by unfold Hid; rw [show i4 + 1 - (d + 1) = (i4 - (d + 1)) + 1 by omega, hz4, e2]
                      clear hz4 e2 kl1 kl2 kl3
                      obtain ⟨t4, ht4, b1, b2, b3, b4, b5⟩ := HFJ.out.1.get i4 (by rw [HLJ.out]; omega)
                      obtain ⟨tp, htp, p1, p2, p3, p4, p5⟩ := HFJ.out.1.get d (by rw [HLJ.out]; omega)
                      have hap := HFJ.out.1.apart ht4 htp (by omega)
                      have hb4 := HFJ.out.inb ht4
                      unfold maxLen at b3 p3
                      have hbg := HGB.out t4.1 hb4
                      obtain ⟨xr, hxr⟩ : ∃ xr, rowE_ mj i4 = xr := ⟨_, rfl⟩
                      obtain ⟨yr, hyr⟩ : ∃ yr, rowE_ mj d = yr := ⟨_, rfl⟩
                      rw [hxr] at b1 b2 b4
                      rw [hyr] at p1 p2 p4
                      have hxl : xr.length = n := by rw [← hxr]; exact HXL.out.1
                      have hyl : yr.length = n := by rw [← hyr]; exact HYL.out.1
                      have hcx : c < xr.length := by omega
                      have hcy : c < yr.length := by omega
                      have ex : xr[c]? = some (getE mj i4 c) := by rw [← hxr]; exact getE_get (by rw [hxr]; exact hcx)
                      have ey : yr[c]? = some (getE mj d c) := by rw [← hyr]; exact getE_get (by rw [hyr]; exact hcy)
                      have b6 := b4.cell c _ ex
                      have p6 := p4.cell c _ ey
                      have hsx : Sz (getE mj i4 c) := sm_of (List.all_eq_true.1 HXL.out.2 _ (by rw [hxr]; exact List.mem_of_getElem? ex))
                      have hsy : Sz (getE mj d c) := sm_of (List.all_eq_true.1 HYL.out.2 _ (by rw [hyr]; exact List.mem_of_getElem? ey))
                      have HDM := Lib.hid (fun W hW => divModZ (getE mj i4 c) (getE mj d c) W hsx hsy hy0 hW)
                      rw [hxr, hyr] at hless
                      have HLE := Lib.hid hless
                      have hz := int_zero (fdr (getE mj i4 c) (getE mj d c))
                      obtain ⟨xe, hxe⟩ : ∃ x, getE mj i4 c = x := ⟨_, rfl⟩
                      obtain ⟨ye, hye⟩ : ∃ y, getE mj d c = y := ⟨_, rfl⟩
                      rw [hxe] at b6 HDM hz HLE
                      rw [hye] at p6 HDM hz HLE
                      have HXR := Lib.hid hxr; have HYR := Lib.hid hyr; have HXE := Lib.hid hxe; have HYE := Lib.hid hye
                      have HT4 := Lib.hid ht4
                      have HB4 := Lib.hid b4; have HP4 := Lib.hid p4
                      have HXN := Lib.hid hxl; have HYN := Lib.hid hyl
                      have hb5 : tp.1 ≠ t4.1 := fun e => hap e.symm
                      clear hxr hyr hxe hye ex ey hsx hsy hless ht4 htp b4 p4 b5 p5 hy0 hxl hyl hap hb4
                      go_upto_region 17 with fail
                      go_cut [11, 12] from 87 to 126 (fun sq sr wx => sq = .string (intB (fdq xe ye)) ∧ sr = .string (intB (fdr xe ye)) ∧ Hid (Ext w4 wx))
                      case first =>
                        have HE0 : Hid (Ext w4 w4.drew) := Ext.drew w4
                        go_region_held3 (fun w' => w'.cell? ⟨g0, i4, none⟩ = some (.slice (some ⟨t4.1, t4.2.1, none⟩) xr.length t4.2.2) ∧ w'.cell? ⟨g0, d, none⟩ = some (.slice (some ⟨tp.1, tp.2.1, none⟩) yr.length tp.2.2) ∧ w'.cell? ⟨t4.1, t4.2.1 + c, none⟩ = some (.string (intB xe)) ∧ w'.cell? ⟨tp.1, tp.2.1 + c, none⟩ = some (.string (intB ye)) ∧ Hid (Ext w4 w'))
                          (first | exact ⟨z1, z2, z3, z4, z5⟩ | exact ⟨b1, p1, b6, p6, HE0.out⟩ | go_keep)
                          (first | (go_at_call 96; refine (HDM.out _ ?_).mono ?_; (exact HPW.out _ (HGJ.out.ext (Hid.out (p := Ext w4 _) (by assumption)))); rintro e w5 ⟨rfl, hE5⟩; have z1 := hE5.cell (a := ⟨g0, i4, none⟩) (v := .slice (some ⟨t4.1, t4.2.1, none⟩) xr.length t4.2.2) (by assumption); have z2 := hE5.cell (a := ⟨g0, d, none⟩) (v := .slice (some ⟨tp.1, tp.2.1, none⟩) yr.length tp.2.2) (by assumption); have z3 := hE5.cell (a := ⟨t4.1, t4.2.1 + c, none⟩) (v := .string (intB xe)) (by assumption); have z4 := hE5.cell (a := ⟨tp.1, tp.2.1 + c, none⟩) (v := .string (intB ye)) (by assumption); have z5 : Hid (Ext w4 w5) := Ext.trans (Hid.out (p := Ext w4 _) (by assumption)) hE5))
                        all_goals (go_wp2_with fail; go_meet; exact ⟨rfl, rfl, by assumption⟩)
                      case rest =>
                      obtain ⟨rfl, rfl, HE5⟩ := hcut
                      obtain ⟨w5, rfl⟩ : ∃ w5 : World, w5 = wc := ⟨_, rfl⟩
                      have HG5 := Lib.hid (HGJ.out.ext HE5.out)
                      have b7 := HE5.out.cell b1
                      have p7 := HE5.out.cell p1
                      clear HDM b1 p1 b6 p6
                      go_wp2_with fail
                      refine wp_region_still_tail 9 (by kernel_rfl) (by kernel_rfl) ?_
                      simp only [List.take_succ_cons, List.take_zero, List.drop_succ_cons, List.drop_zero]
                      change wpStill Tryz.prog _ w5.drew _ _ _
                      repeat still_step
                      try refine wpStill_nil ?_
                      change wpList _ _ _ _ _ w5.drew
                      have HE6 : Hid (Ext w4 w5.drew) := Ext.trans HE5.out (Ext.drew w5)
                      have HG6 : Hid (GrownS (blocksOf g0 tags) w w5.drew) := HGJ.out.ext HE6.out
                      have hbw6 : base ≤ w5.drew.heap.size := Nat.le_trans hbw HG6.out.size
                      have HLS := Lib.hid (less_any (fdq xe ye) xr yr nr t4.1 t4.2.1 t4.2.2 tp.1 tp.2.1 tp.2.2 base w5.drew (HB4.out.ext HE6.out) (HP4.out.ext HE6.out) hb5 HLE.out b2 (by unfold maxLen; exact b3) p2 (by unfold maxLen; exact p3) (HPW.out _ HG6.out) HB.out hbg hbw6)
                      clear b7 p7
                      go_wp2_with fail
                      refine HLS.out.mono ?_
                      rintro e w7 ⟨rfl, hG7, hR7⟩
                      have HF7 : Hid (FormAt w7 g0 tags (swapL tags2 d a) (mj.set i4 nr)) := (HFJ.out.ext HE6.out).grownRow i4 (by rw [HLJ.out]; omega) t4 HT4.out nr (by rw [HXR.out]; exact lessO_len HLE.out) hG7 hR7
                      have HG7 : Hid (GrownS (blocksOf g0 tags) w w7) := HG6.out.trans (hG7.weak (fun k hk hk2 => by rw [hk2]; exact HFJ.out.inb HT4.out))
                      clear HLS hG7 hR7
                      rw [HXE.out, HYE.out] at HST
                      by_cases hf0 : fdr xe ye = 0
                      · rw [decide_eq_true hf0] at hz
                        have HRJ : Hid ((rj || decide (fdr xe ye ≠ 0)) = rj) := by unfold Hid; rw [decide_eq_false (by simp [hf0]), Bool.or_false]
                        rw [HRJ.out] at HST
                        clear hf0 HRJ
                        cases rj
                        all_goals
                          go_wp2_with fail
                          go_roundw
                          case rel => exact ⟨i4 + 1, mj.set i4 nr, _, by omega, by omega, by go_num, rfl, HG7.out, HF7.out, HST.out⟩
                          case measure => simp [intOf]; omega
                      · rw [decide_eq_false hf0] at hz
                        have HRJ : Hid ((rj || decide (fdr xe ye ≠ 0)) = true) := by unfold Hid; rw [decide_eq_true hf0, Bool.or_true]
                        rw [HRJ.out] at HST
                        clear hf0 HRJ
                        cases rj
                        all_goals
                          go_wp2_with fail
                          go_roundw
                          case rel => exact ⟨i4 + 1, mj.set i4 nr, true, by omega, by omega, by go_num, rfl, HG7.out, HF7.out, HST.out⟩
                          case measure => simp [intOf]; omega
                      -->D
                    · obtain rfl : i4 = i := by omega
                      have hmf : mj = mf ∧ rj = rf := by
                        have := HDJ.out; rw [HDN.out] at this
                        simp only [Option.some.injEq, Prod.mk.injEq] at this
                        exact ⟨this.1.symm, this.2.symm⟩
                      obtain ⟨rfl, rfl⟩ := hmf
                      as_aux_lemma =>
                      --<E
                      obtain ⟨LL, rfl⟩ : ∃ LL, LL = i4 := ⟨_, rfl⟩
                      have hdL : d < LL := by omega
                      have hSE := HSE.out
                      clear HSE HDN HDJ kl1 kl2 kl3 HLS0 HOKS HF4 HG4
                      cases rj with
                      | true =>
                        try dsimp only at hSE
                        have HSE2 := Lib.hid hSE
                        clear hSE
                        go_wp2_with fail
                        go_roundg f
                        case measure => omega
                        case rel => exact ⟨mj, swapL tags2 d a, rfl, HGJ.out, HFJ.out, HLJ.out, HSE2.out⟩
                      | false =>
                        try dsimp only at hSE
                        by_cases hok2 : okM n mj = true
                        · rw [if_pos hok2] at hSE
                          obtain ⟨tp, htp, p1, p2, p3, p4, p5⟩ := HFJ.out.1.get d (by rw [HLJ.out]; omega)
                          have hbp := HFJ.out.inb htp
                          unfold maxLen at p3
                          have hyl := (okM_row hok2 d (by rw [HLJ.out]; omega)).1
                          have hys := (okM_row hok2 d (by rw [HLJ.out]; omega)).2
                          have hcy : c < (rowE_ mj d).length := by omega
                          have ey := getE_get hcy
                          have p6 := p4.cell c _ ey
                          have HSG := Lib.hid (fun W => sign_any (getE mj d c) W)
                          have HP4 := Lib.hid p4
                          have HTP := Lib.hid htp
                          have HYS := Lib.hid hys
                          have HYL := Lib.hid hyl
                          obtain ⟨yr, hyr⟩ : ∃ yr, rowE_ mj d = yr := ⟨_, rfl⟩
                          obtain ⟨ye, hye⟩ : ∃ y, getE mj d c = y := ⟨_, rfl⟩
                          rw [hyr] at p1 p2 hcy HP4 HYS HYL
                          rw [hye] at p6 HSG hSE
                          have HYR := Lib.hid hyr
                          have HOK2 := Lib.hid hok2
                          have HSE2 := Lib.hid hSE
                          clear htp p4 hyl hys ey hyr hye hok2 hSE
                          by_cases hneg : ye < 0
                          · as_aux_lemma =>
                            have hsg : ye.sign = -1 := Int.sign_eq_neg_one_of_neg hneg
                            have HNG := Lib.hid (fun W hW => negate_any yr tp.1 tp.2.1 tp.2.2 W hW p2 (by unfold maxLen; exact p3) HYS.out)
                            have HUP0 := HSE2.out
                            rw [if_pos hneg, HYR.out] at HUP0
                            rw [hsg] at HSG
                            clear hneg hsg HSE2
                            go_wp2_with fail
                            refine (HSG.out _).mono ?_
                            rintro e w' ⟨rfl, rfl⟩
                            clear HSG p6
                            go_wp2_with fail
                            refine (HNG.out _ HP4.out).mono ?_
                            rintro e w8 ⟨rfl, hG8, hR8⟩
                            have HGN : Hid (GrownS (blocksOf g0 tags) w w8) := HGJ.out.trans (hG8.weak (fun k hk hk2 => by rw [hk2]; exact hbp))
                            have HFN0 : Hid (FormAt w8 g0 tags (swapL tags2 d a) (mj.set d (negL yr))) := HFJ.out.grownRow d (by rw [HLJ.out]; omega) tp HTP.out (negL yr) (by rw [HYR.out]; unfold negL; rw [List.length_map]) hG8 hR8
                            have HOKN0 : Hid (okM n (mj.set d (negL yr)) = true) := okM_set HOK2.out d (negL yr) (by unfold negL; rw [List.length_map]; exact HYL.out) (negL_sm HYS.out)
                            have HLNX0 : Hid ((mj.set d (negL yr)).length = LL) := by unfold Hid; rw [List.length_set]; exact HLJ.out
                            obtain ⟨mN, hmN⟩ : ∃ mN, mj.set d (negL yr) = mN := ⟨_, rfl⟩
                            have HUP : ∃ z, upO c d mN d = some z ∧ m3 = z ∧ p = true := by
                              rw [← hmN]
                              exact up_some HUP0
                            rw [hmN] at HFN0 HOKN0 HLNX0
                            have HFN := HFN0; have HOKN := HOKN0; have HLNX := HLNX0
                            clear hmN HFN0 HOKN0 HLNX0 HUP0 hG8 hR8 HNG HGJ HFJ HLJ p1
                            have HUPX : Hid (∃ z, upO c d mN d = some z ∧ m3 = z ∧ p = true) := HUP
                            obtain ⟨mU, hmU, rfl, rfl⟩ := HUPX.out
                            have HU := Lib.hid hmU
                            have HLN : Hid (mN.length = LL) := HLNX
                            clear hmU HUPX
                            go_wp2_with fail
                            go_loopw [143] (fun si wr => ∃ (i4 : Nat) (mj : List (List Int)), i4 ≤ d ∧ si = .int .i64 i4 ∧ Hid (GrownS (blocksOf g0 tags) w wr) ∧ Hid (FormAt wr g0 tags (swapL tags2 d a) mj) ∧ Hid (upO c d mN i4 = some mj)) (fun si _ => d - (intOf si).toNat)
                            case atStart => exact ⟨0, mN, by omega, rfl, HGN.out, HFN.out, rfl⟩
                            case round =>
                              obtain ⟨i4, mj, h4b, rfl, HGJ, HFJ, HDJ⟩ := hrel
                              obtain ⟨w4, rfl⟩ : ∃ w4 : World, w4 = wr := ⟨_, rfl⟩
                              obtain ⟨kl1, kl2, kl3⟩ := upO_keep HDJ.out h4b (by rw [HLN.out]; omega)
                              have HLJ : Hid (mj.length = LL) := by unfold Hid; rw [kl1]; exact HLN.out
                              by_cases h4l : i4 < d
                              · obtain ⟨z, hz4⟩ := upO_some HU.out (i4 + 1) (by omega)
                                have h4L : i4 < LL := by omega
                                obtain ⟨mj', nr, e1, hy0, hless, e2⟩ := upO_step hz4
                                rw [HDJ.out] at e1
                                obtain rfl := Option.some.inj e1
                                have HXL : Hid ((rowE_ mj i4).length = n ∧ (rowE_ mj i4).all smB = true) := by
                                  unfold Hid; rw [kl2 i4 (by omega)]; exact okM_row HOKN.out i4 (by rw [HLN.out]; omega)
                                have HYL : Hid ((rowE_ mj d).length = n ∧ (rowE_ mj d).all smB = true) := by
                                  unfold Hid; rw [kl2 d (by omega)]; exact okM_row HOKN.out d (by rw [HLN.out]; omega)
                                have HST : Hid (upO c d mN (i4 + 1) = some (mj.set i4 nr)) := by unfold Hid; rw [hz4, e2]
                                clear hz4 e1 e2 kl1 kl2 kl3
                                obtain ⟨t4, ht4, b1, b2, b3, b4, b5⟩ := HFJ.out.1.get i4 (by rw [HLJ.out]; omega)
                                obtain ⟨tp, htp, p1, p2, p3, p4, p5⟩ := HFJ.out.1.get d (by rw [HLJ.out]; omega)
                                have hap := HFJ.out.1.apart ht4 htp (by omega)
                                have hb4 := HFJ.out.inb ht4
                                unfold maxLen at b3 p3
                                have hbg := HGB.out t4.1 hb4
                                obtain ⟨xr, hxr⟩ : ∃ xr, rowE_ mj i4 = xr := ⟨_, rfl⟩
                                obtain ⟨yr, hyr⟩ : ∃ yr, rowE_ mj d = yr := ⟨_, rfl⟩
                                rw [hxr] at b1 b2 b4
                                rw [hyr] at p1 p2 p4
                                have hxl : xr.length = n := by rw [← hxr]; exact HXL.out.1
                                have hyl : yr.length = n := by rw [← hyr]; exact HYL.out.1
                                have hcx : c < xr.length := by omega
                                have hcy : c < yr.length := by omega
                                have ex : xr[c]? = some (getE mj i4 c) := by rw [← hxr]; exact getE_get (by rw [hxr]; exact hcx)
                                have ey : yr[c]? = some (getE mj d c) := by rw [← hyr]; exact getE_get (by rw [hyr]; exact hcy)
                                have b6 := b4.cell c _ ex
                                have p6 := p4.cell c _ ey
                                have hsx : Sz (getE mj i4 c) := sm_of (List.all_eq_true.1 HXL.out.2 _ (by rw [hxr]; exact List.mem_of_getElem? ex))
                                have hsy : Sz (getE mj d c) := sm_of (List.all_eq_true.1 HYL.out.2 _ (by rw [hyr]; exact List.mem_of_getElem? ey))
                                have HDM := Lib.hid (fun W hW => divModZ (getE mj i4 c) (getE mj d c) W hsx hsy hy0 hW)
                                rw [hxr, hyr] at hless
                                have HLE := Lib.hid hless
                                have hz := int_zero (fdr (getE mj i4 c) (getE mj d c))
                                obtain ⟨xe, hxe⟩ : ∃ x, getE mj i4 c = x := ⟨_, rfl⟩
                                obtain ⟨ye, hye⟩ : ∃ y, getE mj d c = y := ⟨_, rfl⟩
                                rw [hxe] at b6 HDM hz HLE
                                rw [hye] at p6 HDM hz HLE
                                have HXR := Lib.hid hxr; have HYR := Lib.hid hyr; have HXE := Lib.hid hxe; have HYE := Lib.hid hye
                                have HT4 := Lib.hid ht4
                                have HB4 := Lib.hid b4; have HP4 := Lib.hid p4
                                have HXN := Lib.hid hxl; have HYN := Lib.hid hyl
                                have hb5 : tp.1 ≠ t4.1 := fun e => hap e.symm
                                clear hxr hyr hxe hye ex ey hsx hsy hless ht4 htp b4 p4 b5 p5 hy0 hxl hyl hap hb4
                                go_upto_region 26 with fail
                                go_cut [15, 16, 143] from 143 to 175 (fun sq sr sc wx => sq = .string (intB (fdq xe ye)) ∧ sr = .string (intB (fdr xe ye)) ∧ sc = .int .i64 i4 ∧ Hid (Ext w4 wx))
                                case first =>
                                  have HE0 : Hid (Ext w4 w4.drew) := Ext.drew w4
                                  go_region_held3 (fun w' => w'.cell? ⟨g0, i4, none⟩ = some (.slice (some ⟨t4.1, t4.2.1, none⟩) xr.length t4.2.2) ∧ w'.cell? ⟨g0, d, none⟩ = some (.slice (some ⟨tp.1, tp.2.1, none⟩) yr.length tp.2.2) ∧ w'.cell? ⟨t4.1, t4.2.1 + c, none⟩ = some (.string (intB xe)) ∧ w'.cell? ⟨tp.1, tp.2.1 + c, none⟩ = some (.string (intB ye)) ∧ Hid (Ext w4 w'))
                                    (first | exact ⟨z1, z2, z3, z4, z5⟩ | exact ⟨b1, p1, b6, p6, HE0.out⟩ | go_keep)
                                    (first | (go_at_call 96; refine (HDM.out _ ?_).mono ?_; (exact HPW.out _ (HGJ.out.ext (Hid.out (p := Ext w4 _) (by assumption)))); rintro e w5 ⟨rfl, hE5⟩; have z1 := hE5.cell (a := ⟨g0, i4, none⟩) (v := .slice (some ⟨t4.1, t4.2.1, none⟩) xr.length t4.2.2) (by assumption); have z2 := hE5.cell (a := ⟨g0, d, none⟩) (v := .slice (some ⟨tp.1, tp.2.1, none⟩) yr.length tp.2.2) (by assumption); have z3 := hE5.cell (a := ⟨t4.1, t4.2.1 + c, none⟩) (v := .string (intB xe)) (by assumption); have z4 := hE5.cell (a := ⟨tp.1, tp.2.1 + c, none⟩) (v := .string (intB ye)) (by assumption); have z5 : Hid (Ext w4 w5) := Ext.trans (Hid.out (p := Ext w4 _) (by assumption)) hE5))
                                  all_goals (go_wp2_with fail; go_meet; exact ⟨rfl, rfl, rfl, by assumption⟩)
                                case rest =>
                                obtain ⟨rfl, rfl, rfl, HE5⟩ := hcut
                                obtain ⟨w5, rfl⟩ : ∃ w5 : World, w5 = wc := ⟨_, rfl⟩
                                have HG5 := Lib.hid (HGJ.out.ext HE5.out)
                                have b7 := HE5.out.cell b1
                                have p7 := HE5.out.cell p1
                                clear HDM b1 p1 b6 p6
                                go_wp2_with fail
                                refine wp_region_still_tail 9 (by kernel_rfl) (by kernel_rfl) ?_
                                simp only [List.take_succ_cons, List.take_zero, List.drop_succ_cons, List.drop_zero]
                                change wpStill Tryz.prog _ w5.drew _ _ _
                                repeat still_step
                                try refine wpStill_nil ?_
                                change wpList _ _ _ _ _ w5.drew
                                have HE6 : Hid (Ext w4 w5.drew) := Ext.trans HE5.out (Ext.drew w5)
                                have HG6 : Hid (GrownS (blocksOf g0 tags) w w5.drew) := HGJ.out.ext HE6.out
                                have hbw6 : base ≤ w5.drew.heap.size := Nat.le_trans hbw HG6.out.size
                                have HLS := Lib.hid (less_any (fdq xe ye) xr yr nr t4.1 t4.2.1 t4.2.2 tp.1 tp.2.1 tp.2.2 base w5.drew (HB4.out.ext HE6.out) (HP4.out.ext HE6.out) hb5 HLE.out b2 (by unfold maxLen; exact b3) p2 (by unfold maxLen; exact p3) (HPW.out _ HG6.out) HB.out hbg hbw6)
                                clear b7 p7
                                go_wp2_with fail
                                refine HLS.out.mono ?_
                                rintro e w7 ⟨rfl, hG7, hR7⟩
                                have HF7 : Hid (FormAt w7 g0 tags (swapL tags2 d a) (mj.set i4 nr)) := (HFJ.out.ext HE6.out).grownRow i4 (by rw [HLJ.out]; omega) t4 HT4.out nr (by rw [HXR.out]; exact lessO_len HLE.out) hG7 hR7
                                have HG7 : Hid (GrownS (blocksOf g0 tags) w w7) := HG6.out.trans (hG7.weak (fun k hk hk2 => by rw [hk2]; exact HFJ.out.inb HT4.out))
                                clear HLS hG7 hR7
                                go_wp2_with fail
                                go_roundw
                                case rel => exact ⟨i4 + 1, mj.set i4 nr, by omega, by go_num, HG7.out, HF7.out, HST.out⟩
                                case measure => simp [intOf]; omega
                              · obtain rfl : i4 = d := by omega
                                have hmu : mj = m3 := by have := HDJ.out; rw [HU.out] at this; exact (Option.some.inj this).symm
                                subst hmu
                                have HC3 : Hid (colsO n F q (c + 1) (i4 + 1) mj = some R) := by
                                  have h := HC2.out
                                  rw [if_pos (by first | trivial | rfl)] at h
                                  exact h
                                have HQ2 : Hid (cols - (c + 1) = q) := by have := HQ.out; unfold Hid; omega
                                clear HC2 kl1 kl2 kl3
                                go_wp2_with fail
                                go_roundw
                                case rel => exact ⟨c + 1, i4 + 1, mj, swapL tags2 i4 a, by omega, by omega, by go_num, by go_num, HGJ.out, HFJ.out, HLJ.out, by unfold Hid; rw [HQ2.out]; exact HC3.out⟩
                                case measure => simp [intOf]; omega
                          · as_aux_lemma =>
                            have HUP0 := HSE2.out
                            rw [if_neg hneg] at HUP0
                            have hsg : ¬ ye.sign < 0 := by
                              rcases Int.lt_trichotomy ye 0 with h | h | h
                              · exact absurd h hneg
                              · rw [h]; decide
                              · rw [Int.sign_eq_one_of_pos h]; decide
                            obtain ⟨sg, hsgn⟩ : ∃ sg, ye.sign = sg := ⟨_, rfl⟩
                            rw [hsgn] at HSG hsg
                            clear hneg HSE2 hsgn
                            go_wp2_with fail
                            refine (HSG.out _).mono ?_
                            rintro e w' ⟨rfl, rfl⟩
                            clear HSG p6
                            have HGN := HGJ; have HFN := HFJ; have HOKN := HOK2; have HLNX := HLJ
                            have HUP : ∃ z, upO c d mj d = some z ∧ m3 = z ∧ p = true := up_some HUP0
                            obtain ⟨mN, rfl⟩ : ∃ mN, mN = mj := ⟨_, rfl⟩
                            clear HUP0 HGJ HFJ HLJ p1
                            have HUPX : Hid (∃ z, upO c d mN d = some z ∧ m3 = z ∧ p = true) := HUP
                            obtain ⟨mU, hmU, rfl, rfl⟩ := HUPX.out
                            have HU := Lib.hid hmU
                            have HLN : Hid (mN.length = LL) := HLNX
                            clear hmU HUPX
                            go_wp2_with fail
                            go_loopw [143] (fun si wr => ∃ (i4 : Nat) (mj : List (List Int)), i4 ≤ d ∧ si = .int .i64 i4 ∧ Hid (GrownS (blocksOf g0 tags) w wr) ∧ Hid (FormAt wr g0 tags (swapL tags2 d a) mj) ∧ Hid (upO c d mN i4 = some mj)) (fun si _ => d - (intOf si).toNat)
                            case atStart => exact ⟨0, mN, by omega, rfl, HGN.out, HFN.out, rfl⟩
                            case round =>
                              obtain ⟨i4, mj, h4b, rfl, HGJ, HFJ, HDJ⟩ := hrel
                              obtain ⟨w4, rfl⟩ : ∃ w4 : World, w4 = wr := ⟨_, rfl⟩
                              obtain ⟨kl1, kl2, kl3⟩ := upO_keep HDJ.out h4b (by rw [HLN.out]; omega)
                              have HLJ : Hid (mj.length = LL) := by unfold Hid; rw [kl1]; exact HLN.out
                              by_cases h4l : i4 < d
                              · obtain ⟨z, hz4⟩ := upO_some HU.out (i4 + 1) (by omega)
                                have h4L : i4 < LL := by omega
                                obtain ⟨mj', nr, e1, hy0, hless, e2⟩ := upO_step hz4
                                rw [HDJ.out] at e1
                                obtain rfl := Option.some.inj e1
                                have HXL : Hid ((rowE_ mj i4).length = n ∧ (rowE_ mj i4).all smB = true) := by
                                  unfold Hid; rw [kl2 i4 (by omega)]; exact okM_row HOKN.out i4 (by rw [HLN.out]; omega)
                                have HYL : Hid ((rowE_ mj d).length = n ∧ (rowE_ mj d).all smB = true) := by
                                  unfold Hid; rw [kl2 d (by omega)]; exact okM_row HOKN.out d (by rw [HLN.out]; omega)
                                have HST : Hid (upO c d mN (i4 + 1) = some (mj.set i4 nr)) := by unfold Hid; rw [hz4, e2]
                                clear hz4 e1 e2 kl1 kl2 kl3
                                obtain ⟨t4, ht4, b1, b2, b3, b4, b5⟩ := HFJ.out.1.get i4 (by rw [HLJ.out]; omega)
                                obtain ⟨tp, htp, p1, p2, p3, p4, p5⟩ := HFJ.out.1.get d (by rw [HLJ.out]; omega)
                                have hap := HFJ.out.1.apart ht4 htp (by omega)
                                have hb4 := HFJ.out.inb ht4
                                unfold maxLen at b3 p3
                                have hbg := HGB.out t4.1 hb4
                                obtain ⟨xr, hxr⟩ : ∃ xr, rowE_ mj i4 = xr := ⟨_, rfl⟩
                                obtain ⟨yr, hyr⟩ : ∃ yr, rowE_ mj d = yr := ⟨_, rfl⟩
                                rw [hxr] at b1 b2 b4
                                rw [hyr] at p1 p2 p4
                                have hxl : xr.length = n := by rw [← hxr]; exact HXL.out.1
                                have hyl : yr.length = n := by rw [← hyr]; exact HYL.out.1
                                have hcx : c < xr.length := by omega
                                have hcy : c < yr.length := by omega
                                have ex : xr[c]? = some (getE mj i4 c) := by rw [← hxr]; exact getE_get (by rw [hxr]; exact hcx)
                                have ey : yr[c]? = some (getE mj d c) := by rw [← hyr]; exact getE_get (by rw [hyr]; exact hcy)
                                have b6 := b4.cell c _ ex
                                have p6 := p4.cell c _ ey
                                have hsx : Sz (getE mj i4 c) := sm_of (List.all_eq_true.1 HXL.out.2 _ (by rw [hxr]; exact List.mem_of_getElem? ex))
                                have hsy : Sz (getE mj d c) := sm_of (List.all_eq_true.1 HYL.out.2 _ (by rw [hyr]; exact List.mem_of_getElem? ey))
                                have HDM := Lib.hid (fun W hW => divModZ (getE mj i4 c) (getE mj d c) W hsx hsy hy0 hW)
                                rw [hxr, hyr] at hless
                                have HLE := Lib.hid hless
                                have hz := int_zero (fdr (getE mj i4 c) (getE mj d c))
                                obtain ⟨xe, hxe⟩ : ∃ x, getE mj i4 c = x := ⟨_, rfl⟩
                                obtain ⟨ye, hye⟩ : ∃ y, getE mj d c = y := ⟨_, rfl⟩
                                rw [hxe] at b6 HDM hz HLE
                                rw [hye] at p6 HDM hz HLE
                                have HXR := Lib.hid hxr; have HYR := Lib.hid hyr; have HXE := Lib.hid hxe; have HYE := Lib.hid hye
                                have HT4 := Lib.hid ht4
                                have HB4 := Lib.hid b4; have HP4 := Lib.hid p4
                                have HXN := Lib.hid hxl; have HYN := Lib.hid hyl
                                have hb5 : tp.1 ≠ t4.1 := fun e => hap e.symm
                                clear hxr hyr hxe hye ex ey hsx hsy hless ht4 htp b4 p4 b5 p5 hy0 hxl hyl hap hb4
                                go_upto_region 26 with fail
                                go_cut [15, 16, 143] from 143 to 175 (fun sq sr sc wx => sq = .string (intB (fdq xe ye)) ∧ sr = .string (intB (fdr xe ye)) ∧ sc = .int .i64 i4 ∧ Hid (Ext w4 wx))
                                case first =>
                                  have HE0 : Hid (Ext w4 w4.drew) := Ext.drew w4
                                  go_region_held3 (fun w' => w'.cell? ⟨g0, i4, none⟩ = some (.slice (some ⟨t4.1, t4.2.1, none⟩) xr.length t4.2.2) ∧ w'.cell? ⟨g0, d, none⟩ = some (.slice (some ⟨tp.1, tp.2.1, none⟩) yr.length tp.2.2) ∧ w'.cell? ⟨t4.1, t4.2.1 + c, none⟩ = some (.string (intB xe)) ∧ w'.cell? ⟨tp.1, tp.2.1 + c, none⟩ = some (.string (intB ye)) ∧ Hid (Ext w4 w'))
                                    (first | exact ⟨z1, z2, z3, z4, z5⟩ | exact ⟨b1, p1, b6, p6, HE0.out⟩ | go_keep)
                                    (first | (go_at_call 96; refine (HDM.out _ ?_).mono ?_; (exact HPW.out _ (HGJ.out.ext (Hid.out (p := Ext w4 _) (by assumption)))); rintro e w5 ⟨rfl, hE5⟩; have z1 := hE5.cell (a := ⟨g0, i4, none⟩) (v := .slice (some ⟨t4.1, t4.2.1, none⟩) xr.length t4.2.2) (by assumption); have z2 := hE5.cell (a := ⟨g0, d, none⟩) (v := .slice (some ⟨tp.1, tp.2.1, none⟩) yr.length tp.2.2) (by assumption); have z3 := hE5.cell (a := ⟨t4.1, t4.2.1 + c, none⟩) (v := .string (intB xe)) (by assumption); have z4 := hE5.cell (a := ⟨tp.1, tp.2.1 + c, none⟩) (v := .string (intB ye)) (by assumption); have z5 : Hid (Ext w4 w5) := Ext.trans (Hid.out (p := Ext w4 _) (by assumption)) hE5))
                                  all_goals (go_wp2_with fail; go_meet; exact ⟨rfl, rfl, rfl, by assumption⟩)
                                case rest =>
                                obtain ⟨rfl, rfl, rfl, HE5⟩ := hcut
                                obtain ⟨w5, rfl⟩ : ∃ w5 : World, w5 = wc := ⟨_, rfl⟩
                                have HG5 := Lib.hid (HGJ.out.ext HE5.out)
                                have b7 := HE5.out.cell b1
                                have p7 := HE5.out.cell p1
                                clear HDM b1 p1 b6 p6
                                go_wp2_with fail
                                refine wp_region_still_tail 9 (by kernel_rfl) (by kernel_rfl) ?_
                                simp only [List.take_succ_cons, List.take_zero, List.drop_succ_cons, List.drop_zero]
                                change wpStill Tryz.prog _ w5.drew _ _ _
                                repeat still_step
                                try refine wpStill_nil ?_
                                change wpList _ _ _ _ _ w5.drew
                                have HE6 : Hid (Ext w4 w5.drew) := Ext.trans HE5.out (Ext.drew w5)
                                have HG6 : Hid (GrownS (blocksOf g0 tags) w w5.drew) := HGJ.out.ext HE6.out
                                have hbw6 : base ≤ w5.drew.heap.size := Nat.le_trans hbw HG6.out.size
                                have HLS := Lib.hid (less_any (fdq xe ye) xr yr nr t4.1 t4.2.1 t4.2.2 tp.1 tp.2.1 tp.2.2 base w5.drew (HB4.out.ext HE6.out) (HP4.out.ext HE6.out) hb5 HLE.out b2 (by unfold maxLen; exact b3) p2 (by unfold maxLen; exact p3) (HPW.out _ HG6.out) HB.out hbg hbw6)
                                clear b7 p7
                                go_wp2_with fail
                                refine HLS.out.mono ?_
                                rintro e w7 ⟨rfl, hG7, hR7⟩
                                have HF7 : Hid (FormAt w7 g0 tags (swapL tags2 d a) (mj.set i4 nr)) := (HFJ.out.ext HE6.out).grownRow i4 (by rw [HLJ.out]; omega) t4 HT4.out nr (by rw [HXR.out]; exact lessO_len HLE.out) hG7 hR7
                                have HG7 : Hid (GrownS (blocksOf g0 tags) w w7) := HG6.out.trans (hG7.weak (fun k hk hk2 => by rw [hk2]; exact HFJ.out.inb HT4.out))
                                clear HLS hG7 hR7
                                go_wp2_with fail
                                go_roundw
                                case rel => exact ⟨i4 + 1, mj.set i4 nr, by omega, by go_num, HG7.out, HF7.out, HST.out⟩
                                case measure => simp [intOf]; omega
                              · obtain rfl : i4 = d := by omega
                                have hmu : mj = m3 := by have := HDJ.out; rw [HU.out] at this; exact (Option.some.inj this).symm
                                subst hmu
                                have HC3 : Hid (colsO n F q (c + 1) (i4 + 1) mj = some R) := by
                                  have h := HC2.out
                                  rw [if_pos (by first | trivial | rfl)] at h
                                  exact h
                                have HQ2 : Hid (cols - (c + 1) = q) := by have := HQ.out; unfold Hid; omega
                                clear HC2 kl1 kl2 kl3
                                go_wp2_with fail
                                go_roundw
                                case rel => exact ⟨c + 1, i4 + 1, mj, swapL tags2 i4 a, by omega, by omega, by go_num, by go_num, HGJ.out, HFJ.out, HLJ.out, by unfold Hid; rw [HQ2.out]; exact HC3.out⟩
                                case measure => simp [intOf]; omega
                        · rw [if_neg hok2] at hSE; cases hSE
                      -->E
        · rw [if_neg hokm] at hS; cases hS
    · have HR : Hid (R = (m1, d)) := by
        have := HC.out
        unfold Hid
        by_cases h0 : cols - c = 0
        · rw [h0] at this; exact (Option.some.inj this).symm
        · obtain ⟨q, hq⟩ : ∃ q, cols - c = q + 1 := ⟨cols - c - 1, by omega⟩
          rw [hq] at this
          unfold colsO at this
          rw [if_neg (by rw [HL1.out]; omega)] at this
          exact (Option.some.inj this).symm
      have HG := Lib.hid hG
      clear hG HC
      by_cases hlc : c < cols
      · have hld : ¬ d < L := fun h => hlt ⟨hlc, h⟩
        clear hlt
        go_wp2_with fail
        go_ret
        rw [HR.out]
        exact ⟨tags1, rfl, HFA.out, HL1.out, hd, HG.out⟩
      · clear hlt
        go_wp2_with fail
        go_ret
        rw [HR.out]
        exact ⟨tags1, rfl, HFA.out, HL1.out, hd, HG.out⟩
end Go.Proofs.YtjihfabhgcfjnaaGreatDoor
