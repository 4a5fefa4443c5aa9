/- Merged: BehindW, Zeros, KerA. -/
import Derived.Test.YtehknemdfbkimaaGreatDoorQAX
import Derived.Test.YtehknemdfbkimaaGreatDoorQAV
import Derived.Test.YtehknemdfbkimaaGreatDoorQAY
import Derived.Test.YtehknemdfbkimaaGreatDoorQAU
/- The walk of behind. -/
namespace Go.Proofs.YtehknemdfbkimaaGreatDoor
set_option linter.unusedVariables false
set_option linter.unusedSimpArgs false
open Go.RowKit

/-- A result: rows in place, from block base on. -/
def ResM (w : World) (base : Nat) (v : Value) (R : List (List Int)) : Prop :=
  ∃ a c, v = .slice a R.length c ∧ R.length ≤ c ∧ c ≤ maxLen ∧ (R = [] ∨ ∃ g tags, a = some ⟨g, 0, none⟩ ∧ MatB w g tags R ∧ ∀ b, blocksOf g tags b → base ≤ b)

set_option maxRecDepth 100000 in
set_option maxHeartbeats 4000000 in
theorem behind_any (F cols k : Nat) (m : List (List Int)) (tags : List (Nat × Nat × Nat)) (g0 cap base : Nat) (w : World) (R : List (List Int)) (hM : MatB w g0 tags m) (hrow : okM (k + cols) m = true) (hR : formO cols F cols (behindL k m) = some R)
    (hcap : m.length ≤ cap) (hcap2 : cap ≤ maxLen) (hm : m.length ≤ 1000) (hc1 : 1 ≤ cols) (hkc : k + cols ≤ 1000) (ht : Pow10 w) (hb : 0 < base) (hg : ∀ b, blocksOf g0 tags b → base ≤ b) (hbw : base ≤ w.heap.size) :
    Calls Tryz.prog 94 #[.slice (some ⟨g0, 0, none⟩) m.length cap, .int .i64 k, .int .i64 cols] w fun e w' => ∃ v, e = .returned v ∧ ResM w' base v R ∧ Below base w w' := by
  have HM := Lib.hid hM; have HRW := Lib.hid hrow; have HR := Lib.hid hR; have HT := Lib.hid ht; have HB := Lib.hid hb; have HGB := Lib.hid hg
  unfold maxLen at hcap2
  clear hM hrow hR ht hb hg
  go_enter Tryz.func94, Tryz.ntmps94
  go_wp2_with fail
  go_loopw [7, 12] (fun out t wr => ∃ (j : Nat) (tagsO : List (Nat × Nat × Nat)), j ≤ m.length ∧ t = .int .i64 j ∧ Ext w wr ∧ Hid (LongsB wr w.heap.size base out tagsO (behindL k (m.take j))) ∧ Hid (∀ b, b ∈ tagsO.map (·.1) → b ∈ (tags.take j).map (·.1)) ∧ Hid (out = .slice none 0 0 ∧ behindL k (m.take j) = [] ∨ ∃ g c, out = .slice (some ⟨g, 0, none⟩) (behindL k (m.take j)).length c)) (fun _ t _ => m.length - (intOf t).toNat)
  case atStart => exact ⟨0, [], by omega, rfl, Ext.refl _, LongsB.nil _ _ _, by intro b h; simp at h, .inl ⟨rfl, rfl⟩⟩
  case round =>
    obtain ⟨j, tagsO, hj, rfl, hE, HL, HSUB, HV⟩ := hrel
    obtain ⟨wo, rfl⟩ : ∃ wo : World, wo = wr := ⟨_, rfl⟩
    have HE := Lib.hid hE
    by_cases hlt : j < m.length
    · obtain ⟨t, htj, c1, c2, c3, c4, c5⟩ := (HM.out.ext hE).get j hlt
      obtain ⟨hxl, hxs⟩ := okM_row HRW.out j hlt
      obtain ⟨xr, hxr⟩ : ∃ xr, rowE_ m j = xr := ⟨_, rfl⟩
      have hmj : m[j]? = some xr := by rw [← hxr]; exact rowE_get hlt
      rw [hxr] at c1 c2 c4 hxl
      have HLD := Lib.hid (lead_any xr t.1 t.2.1 t.2.2 wo c4 c2 c3)
      have HN : Hid (behindL k (m.take (j + 1)) = behindL k (m.take j) ++ (if (k : Int) ≤ leadL xr then [xr.drop k] else [])) := by
        unfold Hid; rw [List.take_add_one, hmj]; exact behindL_snoc k _ xr
      have HTJ := Lib.hid htj
      have HSB2 : Hid (∀ b, b ∈ (tags.take j).map (·.1) → b ∈ (tags.take (j + 1)).map (·.1)) := fun b hb => by
        rw [List.take_add_one, List.map_append]; exact List.mem_append_left _ hb
      have HC4 := Lib.hid c4
      have hkl : k < xr.length := by omega
      have hkc2 : ¬ t.2.2 = k := by omega
      have hkc3 : k ≤ t.2.2 := by omega
      unfold maxLen at c3
      have HXL := Lib.hid hxl
      have hxle : xr.length ≤ 1000 := by omega
      clear htj c4 c5 hxs hxr hmj hxl hE
      by_cases hle : (k : Int) ≤ leadL xr
      · rw [if_pos hle] at HN
        obtain ⟨ld, hld⟩ : ∃ l, leadL xr = l := ⟨_, rfl⟩
        rw [hld] at hle HLD
        clear hld
        go_wp2_with fail
        refine HLD.out.mono ?_
        rintro e w2 ⟨rfl, hE2⟩
        have HE2 := Lib.hid (Ext.trans HE.out hE2)
        have HL2 := Lib.hid (HL.out.ext hE2)
        have HR2 := Lib.hid ((HC4.out.ext hE2).drop k)
        have hszr := HE2.out.size
        clear hE2 HLD
        have hbt : blocksOf g0 tags t.1 := List.mem_cons_of_mem _ (List.mem_map.2 ⟨t, List.mem_of_getElem? HTJ.out, rfl⟩)
        have htl : t.1 < w.heap.size := HM.out.blt hbt
        have HE3 : Hid (base ≤ (cutT k t).1) := HGB.out t.1 hbt
        have HE4 : Hid (u7.ownBlock ≠ some (cutT k t).1) := fun e => by have := (HL.out.own.lt t.1 e).1; omega
        have HE5 : Hid ((cutT k t).1 ∉ tagsO.map (·.1)) := fun hm => by
          have h1 := HSUB.out t.1 hm
          obtain ⟨s, hs, es⟩ := List.mem_map.1 h1
          obtain ⟨i, hi⟩ := List.getElem?_of_mem hs
          have hij : i < j := by
            have := (List.getElem?_eq_some_iff.1 hi).1
            rw [List.length_take] at this; omega
          rw [List.getElem?_take_of_lt hij] at hi
          exact HM.out.apart hi HTJ.out (by omega) es
        have HE6 : Hid ((behindL k (m.take j)).length < 1000000) := by
          have h1 : (behindL k (m.take j)).length ≤ (m.take j).length := by unfold behindL; rw [List.length_map]; exact List.length_filter_le _ _
          rw [List.length_take] at h1
          unfold Hid; omega
        have HE0 : Hid (#[Value.slice (some ⟨t.1, t.2.1 + k, none⟩) (xr.length - k) (t.2.2 - k)] = #[tagV (cutT k t) (xr.drop k).length]) := by unfold Hid tagV cutT; rw [List.length_drop]
        have HE1' : Hid ((xr.drop k).length ≤ (cutT k t).2.2) := by show (xr.drop k).length ≤ t.2.2 - k; rw [List.length_drop]; omega
        have HE2' : Hid ((cutT k t).2.2 ≤ maxLen) := by show t.2.2 - k ≤ maxLen; unfold maxLen; omega
        clear hbt htl
        go_wp2_with (at_builtin; go_must (refine wpList_append_long _ rfl _ _ rfl w.heap.size base u7 tagsO (behindL k (m.take j)) (cutT k t) (xr.drop k) #[.slice (some ⟨t.1, t.2.1 + k, none⟩) (xr.length - k) (t.2.2 - k)] 114 rfl HL2.out rfl HE0.out HE1'.out HE2'.out HR2.out HE3.out HE4.out HE5.out HE6.out hszr ?_))
        intro v' w5 hB5 hb5 hv5
        rw [← HN.out] at hB5
        have HB5 := Lib.hid hB5
        have HX5 := Lib.hid (Below.trans HE2.out hb5)
        have HSUB5 : Hid (∀ b, b ∈ (tagsO ++ [cutT k t]).map (·.1) → b ∈ (tags.take (j + 1)).map (·.1)) := fun b hb => by
          rw [List.map_append] at hb
          rcases List.mem_append.1 hb with hb | hb
          · exact HSB2.out b (HSUB.out b hb)
          · simp only [List.map_cons, List.map_nil, List.mem_singleton] at hb
            rw [hb]
            refine List.mem_map.2 ⟨t, ?_, rfl⟩
            rw [List.take_add_one, HTJ.out]; simp
        have HV5 : Hid (v' = .slice none 0 0 ∧ behindL k (m.take (j + 1)) = [] ∨ ∃ g c, v' = .slice (some ⟨g, 0, none⟩) (behindL k (m.take (j + 1))).length c) := by
          obtain ⟨g, c, hv⟩ := hv5.out
          refine .inr ⟨g, c, ?_⟩
          rw [hv, HN.out, List.length_append]; rfl
        clear hB5 hb5 hv5
        go_wp2_with fail
        go_roundw
        case rel => exact ⟨j + 1, _, by omega, by go_num, HX5.out, HB5.out, HSUB5.out, HV5.out⟩
        case measure => simp [intOf]; omega
      · rw [if_neg hle, List.append_nil] at HN
        obtain ⟨ld, hld⟩ : ∃ l, leadL xr = l := ⟨_, rfl⟩
        rw [hld] at hle HLD
        clear hld
        go_wp2_with fail
        refine HLD.out.mono ?_
        rintro e w2 ⟨rfl, hE2⟩
        have HE2 := Lib.hid (Ext.trans HE.out hE2)
        have HL2 := Lib.hid (HL.out.ext hE2)
        clear hE2 HLD
        rw [← HN.out] at HL2 HV
        go_wp2_with fail
        go_roundw
        case rel => exact ⟨j + 1, tagsO, by omega, by go_num, HE2.out, HL2.out, fun b hb => HSB2.out b (HSUB.out b hb), HV.out⟩
        case measure => simp [intOf]; omega
    · obtain rfl : j = m.length := by omega
      have hL := HL.out
      have hV := HV.out
      rw [List.take_length] at hL hV
      have hr := HR.out
      unfold formO at hr
      cases hcl : colsO cols F cols 0 0 (behindL k m) with
      | none => rw [hcl] at hr; cases hr
      | some rr =>
      obtain ⟨mf, d⟩ := rr
      rw [hcl] at hr
      have HRR : Hid (mf.take d = R) := Option.some.inj hr
      have HCL := Lib.hid hcl
      have hbl : (behindL k m).length ≤ m.length := by unfold behindL; rw [List.length_map]; exact List.length_filter_le _ _
      rcases hV with ⟨rfl, hnil⟩ | ⟨g, cc, rfl⟩
      · have HR0 : Hid (R = []) := by
          unfold Hid
          rw [← HRR.out]
          have h0 := HCL.out
          rw [hnil] at h0
          have : mf = [] := by
            have hh : colsO cols F cols 0 0 [] = some ([], 0) := by
              cases cols with
              | zero => rfl
              | succ q => unfold colsO; rw [if_neg (by simp)]
            rw [hh] at h0
            simp only [Option.some.injEq, Prod.mk.injEq] at h0
            exact h0.1.symm
          rw [this]; simp
        have HBW := Lib.hid (Below.mono HE.out hbw)
        clear hL hr hcl HL HSUB HV hE hnil hbl
        go_wp2_with fail
        refine (form_nil cols _).mono ?_
        rintro e w' ⟨rfl, rfl⟩
        go_wp2_with fail
        go_ret
        rw [HR0.out]
        exact ⟨_, rfl, ⟨none, 0, rfl, Nat.le_refl _, Nat.zero_le _, .inl rfl⟩, HBW.out⟩
      · obtain ⟨hMM, hc2, hc3, hbb⟩ := hL.mat hbw
        have HBW := Lib.hid (Below.mono HE.out hbw)
        have HFM := Lib.hid (form_any cols F cols (behindL k m) tagsO g cc base wo (mf, d) hMM HCL.out hc2 hc3 (Nat.le_refl _) (by omega) (HT.out.ext HE.out) HB.out hbb (Nat.le_trans hbw HE.out.size))
        have HC2 := Lib.hid hc2
        have HBB := Lib.hid hbb
        have hszw := HE.out.size
        clear hL hr hcl HL HSUB HV hE hMM hc2 hbb
        go_wp2_with fail
        refine HFM.out.mono ?_
        rintro e w2 ⟨tags', rfl, hFA, hl1, hl2, hG⟩
        have HFA := Lib.hid hFA
        have HB2 : Hid (Below base w w2) := Below.trans HBW.out (hG.below (Nat.le_trans hbw hszw) HBB.out)
        have HLE : Hid (d ≤ mf.length ∧ mf.length ≤ cc) := ⟨by rw [hl1]; exact hl2, by rw [hl1]; exact HC2.out⟩
        clear hFA hG HFM
        go_wp2_with fail
        go_ret
        refine ⟨.slice (some ⟨g, 0, none⟩) d cc, rfl, ?_, HB2.out⟩
        have hld : R.length = d := by rw [← HRR.out, List.length_take]; have := HLE.out.1; omega
        refine ⟨some ⟨g, 0, none⟩, cc, by rw [hld], by rw [hld]; have := HLE.out; omega, hc3, .inr ⟨g, tags'.take d, rfl, by rw [← HRR.out]; exact HFA.out.1.take d, fun b hb => ?_⟩⟩
        rcases List.mem_cons.1 hb with rfl | hb
        · exact HBB.out _ (List.mem_cons_self ..)
        · obtain ⟨t, ht, rfl⟩ := List.mem_map.1 hb
          exact HBB.out _ (List.mem_cons_of_mem _ (HFA.out.2 _ (List.mem_map.2 ⟨t, List.mem_of_mem_take ht, rfl⟩)))
end Go.Proofs.YtehknemdfbkimaaGreatDoor
/- Contract: zeros of package lattice. -/
namespace Go.Proofs.YtehknemdfbkimaaGreatDoor
set_option linter.unusedVariables false
set_option linter.unusedSimpArgs false
open Go.RowKit

set_option maxRecDepth 100000 in
set_option maxHeartbeats 1000000 in
theorem zeros_any (n : Nat) (w : World) (hn : n ≤ 1000) (ht : Pow10 w) :
    Calls Tryz.prog 93 #[.int .i64 n] w fun e w' => ∃ g c, e = .returned (.slice (some ⟨g, 0, none⟩) n c) ∧ RowB w' g 0 (List.replicate n 0) ∧ w.heap.size ≤ g ∧ n ≤ c ∧ c ≤ maxLen ∧ Ext w w' := by
  obtain ⟨i0, hi, hz0, hz1, hz2⟩ := info_parts infoInt
  have HI := Lib.hid hi; have HZ0 := Lib.hid hz0; have HZ1 := Lib.hid hz1; have HZ2 := Lib.hid hz2
  have HT := Lib.hid ht
  clear hi hz0 hz1 hz2 ht
  go_enter Tryz.func93, Tryz.ntmps93
  go_wp2_with (at_make; refine wpList_make_full _ rfl _ _ 39 rfl w.heap.size 3 i0 (.int .i64 0) 1 Tryz.underlying39 HI.out HZ0.out HZ1.out _ _ _ _ n rfl rfl rfl rfl ?c1 ?c2 ?c3 ?_)
  case c1 => rw [HZ2.out]; omega
  case c2 => unfold maxLen; omega
  case c3 => exact Nat.le_refl _
  intro w1 hown hgrow
  have hE1 := ext_grown hgrow
  have HE1 := Lib.hid hE1
  rw [made_ints] at hown
  have hrl : (List.replicate n (0 : Int)).length = n := by simp
  have hI : Ints w1 (.slice (some ⟨w.heap.size, 0, none⟩) n n) (List.replicate n 0) := by
    have h2 := hown
    have h3 : w1.ownsRow w.heap.size 3 1 (.slice (some ⟨w.heap.size, 0, none⟩) n n) (List.replicate n (0 : Int)).length ((List.replicate n (0 : Int)).map (Value.int .i64)) := by rw [hrl]; exact h2
    exact Ints.of_owns h3 (fun x hx => by rw [List.eq_of_mem_replicate hx]; omega)
  have HL := Lib.hid (longOf_any (List.replicate n 0) _ w1 hI (by rw [hrl]; exact hn) (HT.out.ext hE1))
  rw [hrl] at HL
  clear hown hgrow hE1 hI hrl
  go_wp2_with fail
  refine HL.out.mono ?_
  rintro e w2 ⟨g, c, rfl, hR, hg, hc, hc2, hE2⟩
  have HR := Lib.hid hR
  have HE2 := Lib.hid (Ext.trans HE1.out hE2)
  have hgs : w.heap.size ≤ g := Nat.le_trans HE1.out.size hg
  clear hR hE2 HL hg
  go_wp2_with fail
  go_ret
  exact ⟨g, c, rfl, HR.out, hgs, hc, hc2, HE2.out⟩
end Go.Proofs.YtehknemdfbkimaaGreatDoor
/- 'out = append(out, r...)' of a row of integers of any size. -/
namespace Go.Proofs.YtehknemdfbkimaaGreatDoor
set_option linter.unusedVariables false
set_option linter.unusedSimpArgs false
open Go.RowKit

theorem wpList_append_row (w : World) {ops : Array Oper} {rest : List Oper} {o : Oper} {a : Act} {Q : Exit → Act → World → Prop} (hgd : o.guard = none)
    (s x : Operand) (ho : o.op = Op.call { callee := Callee.builtin Builtin.append, args := #[s, x], argTypes := #[114, 114] }) (base : Nat)
    (v : Value) (xs ys : List Int) (hs : a.eval s = v) (hB : Build w base 73 1 v bigC xs) (g c n : Nat) (hn : ys.length = n) (hx : a.eval x = .slice (some ⟨g, 0, none⟩) n c) (hR : RowB w g 0 ys)
    (hlen : xs.length + n < 1000000) (hpos : 1 ≤ n) (hbase : base ≤ w.heap.size)
    (h : ∀ w' gr cr, RowB w' gr 0 (xs ++ ys) → base ≤ gr → xs.length + n ≤ cr → cr ≤ maxLen → Below base w w' → wpList Tryz.prog ops Q rest (a.put o.dst (.slice (some ⟨gr, 0, none⟩) (xs.length + n) cr)) w') :
    wpList Tryz.prog ops Q (o :: rest) a w := by
  refine wpList_plain hgd fun K hK => ?_
  subst hn
  obtain ⟨i0, hi, hz, hsize, hby⟩ := info_parts infoBig
  have hadd : ∀ j, (⟨g, 0, none⟩ : Addr).add j = ⟨g, 0 + j, none⟩ := by intro j; unfold Addr.add; split <;> simp_all
  have hbig := hB.bigs
  refine wp_append_own_at w s x 114 ho base 73 i0 (.string ⟨#[]⟩) 1 16 Tryz.underlying114 hi hz hsize hby rfl (by decide) v xs.length (xs.map fun x => Value.string (intB x)) hs hbig ⟨g, 0, none⟩ ys.length c (ys.map fun x => Value.string (intB x)) hx (by simp) ?_ ?_ ?_ ?_ hbase ?_
  · intro j q hq
    rw [List.getElem?_map] at hq
    cases hy : ys[j]? with
    | none => rw [hy] at hq; cases hq
    | some y =>
      rw [hy] at hq
      rw [hadd, hR.cell j y hy]
      exact congrArg some (Option.some.inj hq)
  · intro u hu
    obtain ⟨y, -, rfl⟩ := List.mem_map.1 hu
    rfl
  · unfold maxLen; omega
  · omega
  · intro v' w' hown hgrow _ hat
    have hown2 : w'.ownsRow base 73 1 v' (xs ++ ys).length ((xs ++ ys).map fun x => Value.string (intB x)) := by
      rw [List.length_append, List.map_append]; exact hown
    obtain ⟨gr, cr, rfl, -⟩ := owns_shape hown2 (by rw [List.length_append]; omega)
    obtain ⟨k1, k2, k3, k4⟩ := RowB.of_owns hown2
    rw [List.length_append] at k3
    rw [List.length_append]
    refine hK _ _ (h w' gr cr k1 k2 k3 k4 ⟨hgrow.os, hgrow.tape, hgrow.output, hgrow.size, fun b hb => hgrow.block b (by omega) ?_⟩)
    intro e
    have := (hbig.lt b e.symm).1
    omega
end Go.Proofs.YtehknemdfbkimaaGreatDoor
