/- Merged: KerW, LatC. -/
import Derived.Test.YtehknemdfbkimaaGreatDoorQAZ
import Derived.Test.YtehknemdfbkimaaGreatDoorQAX
/- The walk of kernel: its rows (wideL). -/
namespace Go.Proofs.YtehknemdfbkimaaGreatDoor
set_option linter.unusedVariables false
set_option linter.unusedSimpArgs false
open Go.RowKit

set_option maxRecDepth 100000 in
set_option maxHeartbeats 4000000 in
theorem kernel_any (F cols : Nat) (m : List (List Int)) (ad : Option Addr) (cap : Nat) (w : World) (R : List (List Int)) (hM : m = [] ∨ ∃ g0 tags, ad = some ⟨g0, 0, none⟩ ∧ MatB w g0 tags m) (hrow : okM cols m = true) (h : List (List Int)) (hF : formO (m.length + cols) F (m.length + cols) (wideL cols m) = some h) (hok : okM (m.length + cols) h = true) (hR : formO cols F cols (behindL m.length h) = some R)
    (hcap : m.length ≤ cap) (hcap2 : cap ≤ maxLen) (hm : m.length + cols ≤ 1000) (hc1 : 1 ≤ cols) (ht : Pow10 w) (hb : 0 < w.heap.size) :
    Calls Tryz.prog 75 #[.slice ad m.length cap, .int .i64 cols] w fun e w' => ∃ v, e = .returned v ∧ ResM w' w.heap.size v R ∧ Ext w w' := by
  have HM := Lib.hid hM; have HRW := Lib.hid hrow; have HR := Lib.hid hR; have HF := Lib.hid hF; have HOK := Lib.hid hok; have HT := Lib.hid ht; have HB := Lib.hid hb
  unfold maxLen at hcap2
  clear hM hrow hR ht hb hF hok
  go_enter Tryz.func75, Tryz.ntmps75
  go_wp2_with fail
  go_loopw [5, 12] (fun out t wr => ∃ (c : Nat) (tagsO : List (Nat × Nat × Nat)), c ≤ cols ∧ t = .int .i64 c ∧ Ext w wr ∧ Hid (LongsB wr w.heap.size w.heap.size out tagsO ((wideL cols m).take c)) ∧ Hid (out = .slice none 0 0 ∧ c = 0 ∨ ∃ g k, out = .slice (some ⟨g, 0, none⟩) c k)) (fun _ t _ => cols - (intOf t).toNat)
  case atStart => exact ⟨0, [], by omega, rfl, Ext.refl _, LongsB.nil _ _ _, .inl ⟨rfl, rfl⟩⟩
  case round =>
    obtain ⟨c, tagsO, hc, rfl, hE, HL, HV⟩ := hrel
    obtain ⟨wo, rfl⟩ : ∃ wo : World, wo = wr := ⟨_, rfl⟩
    have HE := Lib.hid hE
    by_cases hlt : c < cols
    · have HCOL : Hid ((wideL cols m).take (c + 1) = (wideL cols m).take c ++ [m.map (fun r => r.getD c 0) ++ (List.replicate cols (0 : Int)).set c 1]) := by
        unfold Hid wideL
        rw [← List.map_take, ← List.map_take, List.take_add_one, List.map_append, List.getElem?_range hlt]; rfl
      clear hE
      go_wp2_with fail
      go_loopw [7, 17] (fun r t wq => ∃ i : Nat, i ≤ m.length ∧ t = .int .i64 i ∧ Ext wo wq ∧ Hid (Build wq wo.heap.size 73 1 r bigC ((m.map (fun r => r.getD c 0)).take i))) (fun _ t _ => m.length - (intOf t).toNat)
      case atStart => exact ⟨0, by omega, rfl, Ext.refl _, ⟨[], rfl, by simp, World.ownsRow_nil _ _ _ _, by simp⟩⟩
      case round =>
        obtain ⟨i, hi, rfl, hEq, HBu⟩ := hrel
        obtain ⟨wp, rfl⟩ : ∃ wp : World, wp = wr := ⟨_, rfl⟩
        have HEq := Lib.hid hEq
        by_cases hil : i < m.length
        · obtain ⟨g0, tags, rfl, hMM⟩ : ∃ g0 tags, ad = some ⟨g0, 0, none⟩ ∧ MatB w g0 tags m := by
            rcases HM.out with h0 | h0
            · rw [h0] at hil; simp at hil
            · exact h0
          obtain ⟨t, htj, c1, c2, c3, c4, c5⟩ := (hMM.ext (Ext.trans HE.out hEq)).get i hil
          clear hMM
          obtain ⟨hxl, hxs⟩ := okM_row HRW.out i hil
          have HN : Hid ((m.map (fun r => r.getD c 0)).take (i + 1) = (m.map (fun r => r.getD c 0)).take i ++ [(rowE_ m i).getD c 0]) := by
            unfold Hid; rw [List.take_add_one, List.getElem?_map, rowE_get hil]; rfl
          have HJ : Hid (((m.map (fun r => r.getD c 0)).take i).length < 1000000) := by unfold Hid; rw [List.length_take]; omega
          obtain ⟨xr, hxr⟩ : ∃ xr, rowE_ m i = xr := ⟨_, rfl⟩
          rw [hxr] at c1 c2 c4 hxl HN
          have hcx : c < xr.length := by omega
          have g2 := c4.cell c (xr.getD c 0) (by rw [List.getD_eq_getElem?_getD, List.getElem?_eq_getElem hcx]; rfl)
          obtain ⟨x, hx⟩ : ∃ x, xr.getD c 0 = x := ⟨_, rfl⟩
          rw [hx] at g2 HN
          unfold maxLen at c3
          have hszq := hEq.size
          clear htj c4 c5 hxs hxr hx hEq
          go_wp2_with (at_builtin; go_must (refine wpList_append_build _ rfl _ _ 114 rfl wo.heap.size 73 (.string ⟨#[]⟩) 1 16 Tryz.underlying114 infoBig rfl (by decide) u7 bigC ((m.map (fun r => r.getD c 0)).take i) x #[.string (intB x)] 73 rfl HBu.out rfl rfl ?e1 (fun _ _ => rfl) HJ.out (by decide) hszq ?_))
          case e1 => simp [Value.oneCell']
          intro v' w5 hB5 hg5 hb5 hs5 _
          have hB5 : Build w5 wo.heap.size 73 1 v' bigC ((m.map (fun r => r.getD c 0)).take (i + 1)) := by rw [HN.out]; exact hB5
          have HB5 := Lib.hid hB5
          have HX5 := Lib.hid (Below.trans HEq.out hb5)
          clear hB5 hg5 hb5
          go_wp2_with fail
          go_roundw
          case rel => exact ⟨i + 1, by omega, by go_num, HX5.out, HB5.out⟩
          case measure => simp [intOf]; omega
        · obtain rfl : i = m.length := by omega
          have hB := HBu.out
          rw [List.take_of_length_le (by simp)] at hB
          have HBL := Lib.hid hB
          have HEL := Lib.hid (Ext.trans HE.out HEq.out)
          have HLL := Lib.hid (HL.out.ext HEq.out)
          have HZ := Lib.hid (zeros_any cols wp (by omega) (HT.out.ext HEL.out))
          have hs0 := HE.out.size
          have hs1 := HEq.out.size
          clear hB HBu hEq
          go_wp2_with fail
          refine HZ.out.mono ?_
          rintro e w2 ⟨gz, cz, rfl, hRz, hgz, hcz, hcz2, hE2⟩
          have h49 : intB 1 = ⟨#[49]⟩ := by kernel_rfl
          have HE3 : Hid (Ext wp (w2.setCell ⟨gz, c, none⟩ (.string (intB 1)))) := Below.trans hE2 ((GrownS.setCell (S := (· = gz)) (GrownS.ofExt (Ext.refl w2)) rfl c (.string (intB 1))).below hE2.size (fun k hk => by rw [hk]; exact hgz))
          have hRS := hRz.set c (by simpa using hlt) 1
          have gz1 := hRz.cell c 0 (by rw [List.getElem?_replicate, if_pos hlt])
          have gz2 := hRz.free c
          rw [Nat.zero_add] at gz1 hRS
          rw [h49] at HE3 hRS
          have HRZ := Lib.hid hRS
          have HB3 := Lib.hid (HBL.out.ext HE3.out)
          have HL3 := Lib.hid (HLL.out.ext HE3.out)
          have hs3 := HE3.out.size
          clear hRz HZ hRS hE2
          go_wp2_with (at_builtin; go_must (refine wpList_append_row _ rfl _ _ rfl wo.heap.size u7 _ _ rfl HB3.out gz cz cols ?n1 rfl HRZ.out ?n2 hc1 ?n3 ?_))
          case n1 => simp
          case n2 => simp; omega
          case n3 => omega
          intro w4 gr cr hR4 hgr hcr hcr2 hb4
          have HR4 := Lib.hid hR4
          have HE4 := Lib.hid (Below.trans (Ext.trans HEq.out HE3.out) hb4)
          have HEX := Lib.hid (Ext.trans HE.out HE4.out)
          have HL4 := Lib.hid (HL.out.ext HE4.out)
          have hszr := HEX.out.size
          have HLN : Hid ((m.map (fun r => r.getD c 0) ++ (List.replicate cols (0 : Int)).set c 1).length = m.length + cols) := by unfold Hid; simp
          have HJ : Hid (((wideL cols m).take c).length = c) := by unfold Hid wideL; rw [List.length_take]; simp; omega
          have HV1 : Hid (u5.ownBlock ≠ some gr) := fun e => by have := (HL.out.own.lt gr e).2; omega
          have HN1 : Hid (gr ∉ tagsO.map (·.1)) := fun hm => by
            obtain ⟨t, ht, e⟩ := List.mem_map.1 hm
            obtain ⟨i, hi⟩ := List.getElem?_of_mem ht
            have hl : i < ((wideL cols m).take c).length := by rw [← HL.out.len]; exact (List.getElem?_eq_some_iff.1 hi).1
            have := (HL.out.row i t _ hi (List.getElem?_eq_getElem hl)).2.2.1.lt
            omega
          have HE0 : Hid (#[Value.slice (some ⟨gr, 0, none⟩) (m.length + cols) cr] = #[tagV (gr, 0, cr) (m.map (fun r => r.getD c 0) ++ (List.replicate cols (0 : Int)).set c 1).length]) := by unfold Hid tagV; rw [HLN.out]
          have HC : Hid ((m.map (fun r => r.getD c 0) ++ (List.replicate cols (0 : Int)).set c 1).length ≤ cr) := by
            unfold Hid; rw [HLN.out]; simpa using hcr
          have HGR : Hid (w.heap.size ≤ gr) := by unfold Hid; omega
          have HJ6 : Hid (((wideL cols m).take c).length < 1000000) := by unfold Hid; rw [HJ.out]; omega
          clear hR4 hb4 hcr
          go_wp2_with (at_builtin; go_must (refine wpList_append_long _ rfl _ _ rfl w.heap.size w.heap.size u5 tagsO ((wideL cols m).take c) (gr, 0, cr) (m.map (fun r => r.getD c 0) ++ (List.replicate cols (0 : Int)).set c 1) #[.slice (some ⟨gr, 0, none⟩) (m.length + cols) cr] 114 rfl HL4.out rfl HE0.out HC.out hcr2 HR4.out HGR.out HV1.out HN1.out HJ6.out hszr ?_))
          intro v' w5 hB5 hb5 hv5
          have hB5 : LongsB w5 w.heap.size w.heap.size v' (tagsO ++ [(gr, 0, cr)]) ((wideL cols m).take (c + 1)) := by rw [HCOL.out]; exact hB5
          have HB5 := Lib.hid hB5
          have HX5 := Lib.hid (Below.trans HEX.out hb5)
          have HV5 : Hid (v' = .slice none 0 0 ∧ c + 1 = 0 ∨ ∃ g k, v' = .slice (some ⟨g, 0, none⟩) (c + 1) k) := by
            obtain ⟨g, k, hv⟩ := hv5.out
            refine .inr ⟨g, k, ?_⟩
            have hj := HJ.out
            rw [List.length_take] at hj
            rw [hv]; first | rw [hj] | rw [HJ.out] | (simp only [List.length_take]; rw [hj])
          clear hB5 hb5 hv5
          go_wp2_with fail
          go_roundw
          case rel => exact ⟨c + 1, _, by omega, by go_num, HX5.out, HB5.out, HV5.out⟩
          case measure => simp [intOf]; omega
    · obtain rfl : c = cols := by omega
      have hwl : (wideL c m).length = c := by unfold wideL; simp
      have hL := HL.out
      rw [List.take_of_length_le (by omega)] at hL
      rcases HV.out with ⟨-, h0⟩ | ⟨g, cc, rfl⟩
      · omega
      rw [← hwl] at hL
      have hf := HF.out
      unfold formO at hf
      cases hcl : colsO (m.length + c) F (m.length + c) 0 0 (wideL c m) with
      | none => rw [hcl] at hf; cases hf
      | some rr =>
      obtain ⟨mf, d⟩ := rr
      rw [hcl] at hf
      have HRR : Hid (mf.take d = h) := Option.some.inj hf
      have hL2 : LongsB wo w.heap.size w.heap.size (.slice (some ⟨g, 0, none⟩) (wideL c m).length cc) tagsO (wideL c m) := by
        rw [hwl] at hL ⊢; exact hL
      obtain ⟨hMM, hc2, hc3, hbb⟩ := hL2.mat (Nat.le_refl _)
      have HFM := Lib.hid (form_any (m.length + c) F (m.length + c) (wideL c m) tagsO g cc w.heap.size wo (mf, d) hMM hcl hc2 hc3 (Nat.le_refl _) (by omega) (HT.out.ext HE.out) HB.out hbb HE.out.size)
      rw [hwl] at HFM hc2
      have HBB := Lib.hid hbb
      have hszw := HE.out.size
      clear hL hL2 hf hcl HL HV hE hMM hbb
      go_wp2_with fail
      refine HFM.out.mono ?_
      rintro e w2 ⟨tags', rfl, hFA, hl1, hl2, hG⟩
      have HFA := Lib.hid hFA
      have HB2 : Hid (Ext w w2) := Below.trans HE.out (hG.below hszw HBB.out)
      have hd : h.length = d := by
        rw [← HRR.out, List.length_take]
        have a1 : mf.length = c := hl1
        have a2 : d ≤ c := hl2
        omega
      have a2 : d ≤ c := hl2
      have HBH := Lib.hid (behind_any F c m.length h (tags'.take d) g cc w.heap.size w2 R (by rw [← HRR.out]; exact hFA.1.take d) HOK.out HR.out (by omega) hc3 (by omega) hc1 (by omega) (HT.out.ext HB2.out) HB.out (fun b hb => by
        rcases List.mem_cons.1 hb with rfl | hb
        · exact HBB.out _ (List.mem_cons_self ..)
        · obtain ⟨t, ht, rfl⟩ := List.mem_map.1 hb
          exact HBB.out _ (List.mem_cons_of_mem _ (hFA.2 _ (List.mem_map.2 ⟨t, List.mem_of_mem_take ht, rfl⟩)))) HB2.out.size)
      rw [hd] at HBH
      clear hFA hG HFM
      go_wp2_with fail
      refine HBH.out.mono ?_
      rintro e w3 ⟨v, rfl, hRM, hb3⟩
      have HRM := Lib.hid hRM
      have HB3 : Hid (Ext w w3) := Below.trans HB2.out hb3
      clear hRM hb3 HBH
      go_wp2_with fail
      go_ret
      exact ⟨v, rfl, HRM.out, HB3.out⟩
end Go.Proofs.YtehknemdfbkimaaGreatDoor
/- Contracts of package lattice on matrices handed on from call to call; lattice.Of. -/
namespace Go.Proofs.YtehknemdfbkimaaGreatDoor
set_option linter.unusedVariables false
set_option linter.unusedSimpArgs false
open Go.RowKit

theorem ResM.ext {w w' : World} {base : Nat} {v : Value} {R : List (List Int)} (h : ResM w base v R) (he : Ext w w') : ResM w' base v R := by
  obtain ⟨a, c, h1, h2, h3, h4⟩ := h
  refine ⟨a, c, h1, h2, h3, ?_⟩
  rcases h4 with h4 | ⟨g, tags, h5, h6, h7⟩
  · exact .inl h4
  · exact .inr ⟨g, tags, h5, h6.ext he, h7⟩
theorem ResM.low {w : World} {base base' : Nat} {v : Value} {R : List (List Int)} (h : ResM w base v R) (hb : base' ≤ base) : ResM w base' v R := by
  obtain ⟨a, c, h1, h2, h3, h4⟩ := h
  refine ⟨a, c, h1, h2, h3, ?_⟩
  rcases h4 with h4 | ⟨g, tags, h5, h6, h7⟩
  · exact .inl h4
  · exact .inr ⟨g, tags, h5, h6, fun b hb' => Nat.le_trans hb (h7 b hb')⟩
theorem ResM.open {w : World} {base : Nat} {v : Value} {R : List (List Int)} (h : ResM w base v R) : ∃ a c, v = .slice a R.length c ∧ R.length ≤ c ∧ c ≤ maxLen ∧ (R = [] ∨ ∃ g0 tags, a = some ⟨g0, 0, none⟩ ∧ MatB w g0 tags R) := by
  obtain ⟨a, c, h1, h2, h3, h4⟩ := h
  refine ⟨a, c, h1, h2, h3, ?_⟩
  rcases h4 with h4 | ⟨g, tags, h5, h6, -⟩
  · exact .inl h4
  · exact .inr ⟨g, tags, h5, h6⟩

set_option maxRecDepth 100000 in
set_option maxHeartbeats 1000000 in
theorem longsR_any (xss : List (List Int)) (v : Value) (w : World) (h : Rows2 w v xss) (hlen : xss.length ≤ 1000) (hrow : ∀ xs ∈ xss, xs.length ≤ 1000) (ht : Pow10 w) :
    Calls Tryz.prog 74 #[v] w fun e w' => ∃ v', e = .returned v' ∧ ResM w' w.heap.size v' xss ∧ Ext w w' := by
  refine (longsOf_any xss v w h hlen hrow ht).mono fun e w' ⟨v', tags, he, hL, hv, hE⟩ => ⟨v', he, ?_, hE⟩
  rcases hv with ⟨rfl, rfl⟩ | ⟨g, c, rfl⟩
  · exact ⟨none, 0, rfl, Nat.le_refl _, by unfold maxLen; omega, .inl rfl⟩
  · obtain ⟨h1, h2, h3, h4⟩ := hL.mat (Nat.le_refl _)
    exact ⟨_, c, rfl, h2, h3, .inr ⟨g, tags, rfl, h1, h4⟩⟩

set_option maxRecDepth 100000 in
set_option maxHeartbeats 1000000 in
/-- The form of no rows, whatever the slice. -/
theorem form_none (cols : Nat) (a : Option Addr) (c : Nat) (w : World) :
    Calls Tryz.prog 90 #[.slice a 0 c, .int .i64 cols] w fun e w' => e = .returned (.slice a 0 c) ∧ w = w' := by
  go_enter Tryz.func90, Tryz.ntmps90
  go_wp2_with fail
  go_loop [5, 6] (fun sd sc => sd = .int .i64 0 ∧ sc = .int .i64 0) (fun _ _ => 0)
  case atStart => exact ⟨rfl, rfl⟩
  case round =>
    obtain ⟨rfl, rfl⟩ := hrel
    by_cases h : 0 < cols
    · go_wp2_with fail
      go_ret
      exact ⟨rfl, rfl⟩
    · obtain rfl : cols = 0 := by omega
      go_wp2_with fail
      go_ret
      exact ⟨rfl, rfl⟩

theorem colsO_nil (n F : Nat) : ∀ (k c : Nat), colsO n F k c 0 [] = some ([], 0)
  | 0, _ => rfl
  | k + 1, c => by unfold colsO; rw [if_neg (by simp)]
theorem formO_nil (n F k : Nat) : formO n F k [] = some [] := by unfold formO; rw [colsO_nil]; rfl

theorem formR_any (n F cols : Nat) (m : List (List Int)) (v : Value) (base : Nat) (w : World) (R : List (List Int)) (hM : ResM w base v m) (hok : formO n F cols m = some R)
    (hcols : cols ≤ n) (hcols2 : n ≤ 1000000) (ht : Pow10 w) (hb : 0 < base) (hbw : base ≤ w.heap.size) :
    Calls Tryz.prog 90 #[v, .int .i64 cols] w fun e w' => ∃ v', e = .returned v' ∧ ResM w' base v' R ∧ Below base w w' := by
  obtain ⟨a, c, rfl, h2, h3, h4⟩ := hM
  rcases h4 with rfl | ⟨g, tags, rfl, h6, h7⟩
  · rw [formO_nil] at hok
    obtain rfl := Option.some.inj hok
    exact (form_none cols a c w).mono fun e w' ⟨he, hw⟩ => ⟨_, he, ⟨a, c, rfl, h2, h3, .inl rfl⟩, hw ▸ Below.refl _ _⟩
  · unfold formO at hok
    cases hcl : colsO n F cols 0 0 m with
    | none => rw [hcl] at hok; cases hok
    | some rr =>
      obtain ⟨mf, d⟩ := rr
      rw [hcl] at hok
      obtain rfl : mf.take d = R := Option.some.inj hok
      refine (form_any n F cols m tags g c base w (mf, d) h6 hcl h2 h3 hcols hcols2 ht hb h7 hbw).mono fun e w' ⟨tags', he, hF, hl, hd, hG⟩ => ⟨_, he, ?_, hG.below hbw h7⟩
      have hd' : (mf.take d).length = d := by
        have h1 : mf.length = m.length := hl
        have h2 : d ≤ m.length := hd
        rw [List.length_take]; omega
      refine ⟨_, c, by rw [hd'], by rw [hd']; exact Nat.le_trans hd h2, h3, .inr ⟨g, tags'.take d, rfl, hF.1.take d, fun b hb' => ?_⟩⟩
      rcases List.mem_cons.1 hb' with rfl | hb'
      · exact h7 _ (List.mem_cons_self ..)
      · obtain ⟨t, ht, rfl⟩ := List.mem_map.1 hb'
        exact h7 _ (List.mem_cons_of_mem _ (hF.2 _ (List.mem_map.2 ⟨t, List.mem_of_mem_take ht, rfl⟩)))

theorem lshortR_any (cols : Nat) (m : List (List Int)) (v : Value) (base : Nat) (w : World) (hM : ResM w base v m) (hsm : ∀ r ∈ m, r.all smB = true) (hl : ∀ r ∈ m, r.length ≤ 1000)
    (hm : m.length ≤ 1000) (hc : cols ≤ 1000) (hlib : LibT w) :
    Calls Tryz.prog 76 #[v, .int .i64 cols] w (LsR cols m w) := by
  obtain ⟨a, c, rfl, h2, h3, h4⟩ := hM.open
  exact lshort_any cols m a c w h4 hsm hl h2 h3 hm hc hlib

theorem kernelR_any (F cols : Nat) (m : List (List Int)) (v : Value) (base : Nat) (w : World) (R : List (List Int)) (hM : ResM w base v m) (hrow : okM cols m = true) (h : List (List Int)) (hF : formO (m.length + cols) F (m.length + cols) (wideL cols m) = some h) (hok : okM (m.length + cols) h = true) (hR : formO cols F cols (behindL m.length h) = some R)
    (hm : m.length + cols ≤ 1000) (hc1 : 1 ≤ cols) (ht : Pow10 w) (hb : 0 < w.heap.size) :
    Calls Tryz.prog 75 #[v, .int .i64 cols] w fun e w' => ∃ v', e = .returned v' ∧ ResM w' w.heap.size v' R ∧ Ext w w' := by
  obtain ⟨a, c, rfl, h2, h3, h4⟩ := hM.open
  exact kernel_any F cols m a c w R h4 hrow h hF hok hR h2 h3 hm hc1 ht hb

/-- What Of ends in, where the rows are right. -/
def LatR (cols : Nat) (R : List (List Int)) (w : World) (e : Ending) (w' : World) : Prop := LsR cols R w e w'

set_option maxRecDepth 100000 in
set_option maxHeartbeats 2000000 in
theorem of_any' (n : Nat) (F : Nat) (xss R : List (List Int)) (v : Value) (w : World) (h : Rows2 w v xss) (hE : latE n xss = 0) (hF : formO n F n xss = some R) (hsm : ∀ r ∈ R, r.all smB = true) (hl : ∀ r ∈ R, r.length ≤ 1000) (hm : R.length ≤ 1000) (hlib : LibT w) (hb : 0 < w.heap.size) :
    Calls Tryz.prog 70 #[.int .i64 n, v] w (LsR n R w) := by
  have HB := Lib.hid hb
  obtain ⟨e0, e1, e2, e3⟩ := latE_rows hE
  have HC := Lib.hid (fun W (hW : Ext w W) => latCheck_any xss n v W (h.ext hW))
  rw [hE] at HC
  have HLO := Lib.hid (fun W (hW : Ext w W) => longsR_any xss v W (h.ext hW) (by omega) (fun xs hx => by have := (e3 xs hx).2; omega) (hlib.pow.ext hW))
  have HFO := Lib.hid (fun W v base (hM : ResM W base v xss) (hW : Ext w W) (hbb : 0 < base) (hbw : base ≤ W.heap.size) => formR_any n F n xss v base W R hM hF (Nat.le_refl _) (by omega) (hlib.pow.ext hW) hbb hbw)
  have HS := Lib.hid (fun W v base (hM : ResM W base v R) (hW : Ext w W) => lshortR_any n R v base W hM hsm hl hm (by omega) (hlib.ext hW))
  obtain ⟨a, c, rfl, h1, h2, -, hc⟩ := inCell.open h
  clear h hc hE hF hsm hl hm hlib e0 e1 e2 e3 hb
  go_enter Tryz.func70, Tryz.ntmps70
  obtain ⟨W1, hW1, hE1, hs1, hb1⟩ := lat_new w (.int .i64 0) (.slice none 0 0)
  have HB1 := Lib.hid hb1
  have HE1 := Lib.hid hE1
  clear hE1 hb1
  go_wp2_with fail
  refine (HC.out _ HE1.out).mono ?_
  rintro e w2 ⟨rfl, hE2⟩
  have HE2 := Lib.hid (HE1.out.trans hE2)
  have HK2 := Lib.hid (block_ext HB1.out hE2)
  clear hE2 HC
  go_wp2_with fail
  refine (HLO.out _ HE2.out).mono ?_
  rintro e w3 ⟨v3, rfl, hM3, hE3⟩
  have HM3 := Lib.hid hM3
  have HE3 := Lib.hid (HE2.out.trans hE3)
  have HK3 := Lib.hid (block_ext HK2.out hE3)
  have HS3 : Hid (w.heap.size + 1 ≤ w2.heap.size ∧ w2.heap.size ≤ w3.heap.size) := ⟨by have := block_lt HK2.out; omega, hE3.size⟩
  clear hE3 HLO hM3
  go_wp2_with fail
  refine (HFO.out _ _ w2.heap.size HM3.out HE3.out (by have := HB.out; have := HS3.out.1; omega) HS3.out.2).mono ?_
  rintro e w4 ⟨v4, rfl, hM4, hb4⟩
  have HM4 := Lib.hid hM4
  have HE4 : Hid (Ext w w4) := Below.trans HE3.out (Below.mono hb4 HE2.out.size)
  have HK4 : Hid (w4.heap[w.heap.size]? = some (.cells #[.int .i64 0, .slice none 0 0] 30 (0, 0))) := (hb4.block w.heap.size (by have := HS3.out.1; omega)).trans HK3.out
  clear hM4 hb4 HFO
  go_wp2_with fail
  refine (HS.out _ _ _ HM4.out HE4.out).mono ?_
  rintro e w5 ⟨hr, hE5⟩
  have HSW : Hid (w.heap.size < w4.heap.size) := block_lt HK4.out
  have HE5 := Lib.hid (HE4.out.trans hE5)
  have hk5 := block_ext HK4.out hE5
  obtain ⟨r0, r1, rf⟩ := lat_block hk5
  have f0 := rf 0; have f1 := rf 1
  clear rf HS hE5
  by_cases hf : (R.all fun r => r.all fit9B) = true
  · rw [if_pos hf] at hr
    obtain ⟨u, rfl, hu⟩ := hr
    obtain ⟨au, cu, rfl, u1, u2, -, -⟩ := inCell.open hu.now
    have HU := Lib.hid hu
    have HFF := Lib.hid hf
    have hkA := lat_store hk5 (.int .i64 n) (.slice au R.length cu)
    have HX := Lib.hid (ext_lat HE5.out (Nat.le_refl w.heap.size) (.int .i64 n) (.slice au R.length cu))
    clear hu hf
    go_wp2_with fail
    refine bodyPost_ret (results_rowtmp (by rfl) _ _ w.heap.size 30 #[.int .i64 n, .slice au R.length cu] (0, 0) _ (by rfl) hkA Tryz.underlying30 (by rfl) (by kernel_rfl)) (by rfl) ?_
    unfold LsR
    rw [if_pos HFF.out]
    refine ⟨⟨_, rfl, ?_⟩, HX.out⟩
    refine HU.out.grow (GrownS.setCell (GrownS.setCell (GrownS.refl _ _) ?_ 0 _) ?_ 1 _) fun k hk => .inl ?_
    · exact HSW.out
    · exact HSW.out
    · exact Nat.lt_trans hk HSW.out
  · rw [if_neg hf] at hr
    subst hr
    have HFF := Lib.hid hf
    have hkA := lat_store hk5 (.int .i64 0) (.slice none 0 0)
    have HX := Lib.hid (ext_lat HE5.out (Nat.le_refl w.heap.size) (.int .i64 0) (.slice none 0 0))
    clear hf
    go_wp2_with fail
    refine bodyPost_ret (results_rowtmp (by rfl) _ _ w.heap.size 30 #[.int .i64 0, .slice none 0 0] (0, 0) _ (by rfl) hkA Tryz.underlying30 (by rfl) (by kernel_rfl)) (by rfl) ?_
    unfold LsR
    rw [if_neg HFF.out]
    exact ⟨rfl, HX.out⟩
end Go.Proofs.YtehknemdfbkimaaGreatDoor
