/- Merged: BehindW, Zeros, KerA, KerW. -/
import Derived.Test.YtjihfabhgcfjnaaGreatDoorUAZ
import Derived.Test.YtjihfabhgcfjnaaGreatDoorUAY
import Derived.Test.YtjihfabhgcfjnaaGreatDoorUBA
import Derived.Test.YtjihfabhgcfjnaaGreatDoorUAX
/- The walk of behind. -/
namespace Go.Proofs.YtjihfabhgcfjnaaGreatDoor
set_option linter.unusedVariables false
set_option linter.unusedSimpArgs false
open Go.RowKit

/-- A result: rows in place, from block base on. -/
def ResM (w : World) (base : Nat) (v : Value) (R : List (List Int)) : Prop :=
  ∃ a c, v = .slice a R.length c ∧ R.length ≤ c ∧ c ≤ maxLen ∧ (R = [] ∨ ∃ g tags, a = some ⟨g, 0, none⟩ ∧ MatB w g tags R ∧ ∀ b, blocksOf g tags b → base ≤ b)

set_option maxRecDepth 100000 in
set_option maxHeartbeats 4000000 in
theorem behind_any (F cols k : Nat) (m : List (List Int)) (tags : List (Nat × Nat × Nat)) (g0 cap base : Nat) (w : World) (R : List (List Int)) (hM : MatB w g0 tags m) (hrow : okM (k + cols) m = true) (hR : formO cols F cols (behindL k m) = some R)
    (hcap : m.length ≤ cap) (hcap2 : cap ≤ maxLen) (hm : m.length ≤ 1000) (hc1 : 1 ≤ cols) (hkc : k + cols ≤ 1000) (ht : Pow10 w) (hb : 2 < base) (hg : ∀ b, blocksOf g0 tags b → base ≤ b) (hbw : base ≤ w.heap.size) :
    Calls Tryz.prog 137 #[.slice (some ⟨g0, 0, none⟩) m.length cap, .int .i64 k, .int .i64 cols] w fun e w' => ∃ v, e = .returned v ∧ ResM w' base v R ∧ Below base w w' := by
  have HM := Lib.hid hM; have HRW := Lib.hid hrow; have HR := Lib.hid hR; have HT := Lib.hid ht; have HB := Lib.hid hb; have HGB := Lib.hid hg
  unfold maxLen at hcap2
  clear hM hrow hR ht hb hg
  go_enter Tryz.func137, Tryz.ntmps137
  go_wp2_with fail
  go_loopw [7, 12] (fun out t wr => ∃ (j : Nat) (tagsO : List (Nat × Nat × Nat)), j ≤ m.length ∧ t = .int .i64 j ∧ Ext w wr ∧ Hid (LongsB wr w.heap.size base out tagsO (behindL k (m.take j))) ∧ Hid (∀ b, b ∈ tagsO.map (·.1) → b ∈ (tags.take j).map (·.1)) ∧ Hid (out = .slice none 0 0 ∧ behindL k (m.take j) = [] ∨ ∃ g c, out = .slice (some ⟨g, 0, none⟩) (behindL k (m.take j)).length c)) (fun _ t _ => m.length - (intOf t).toNat)
  case atStart => exact ⟨0, [], by omega, rfl, Ext.refl _, LongsB.nil _ _ _, by intro b h; simp at h, .inl ⟨rfl, rfl⟩⟩
  case round =>
    obtain ⟨j, tagsO, hj, rfl, hE, HL, HSUB, HV⟩ := hrel
    obtain ⟨wo, rfl⟩ : ∃ wo : World, wo = wr := ⟨_, rfl⟩
    have HE := Lib.hid hE
    by_cases hlt : j < m.length
    · obtain ⟨t, htj, c1, c2, c3, c4, c5⟩ := (HM.out.ext hE).get j hlt
      obtain ⟨hxl, hxs⟩ := okM_row HRW.out j hlt
      obtain ⟨xr, hxr⟩ : ∃ xr, rowE_ m j = xr := ⟨_, rfl⟩
      have hmj : m[j]? = some xr := by rw [← hxr]; exact rowE_get hlt
      rw [hxr] at c1 c2 c4 hxl
      have HLD := Lib.hid (lead_any xr t.1 t.2.1 t.2.2 wo c4 c2 c3)
      have HN : Hid (behindL k (m.take (j + 1)) = behindL k (m.take j) ++ (if (k : Int) ≤ leadL xr then [xr.drop k] else [])) := by
        unfold Hid; rw [List.take_add_one, hmj]; exact behindL_snoc k _ xr
      have HTJ := Lib.hid htj
      have HSB2 : Hid (∀ b, b ∈ (tags.take j).map (·.1) → b ∈ (tags.take (j + 1)).map (·.1)) := fun b hb => by
        rw [List.take_add_one, List.map_append]; exact List.mem_append_left _ hb
      have HC4 := Lib.hid c4
      have hkl : k < xr.length := by omega
      have hkc2 : ¬ t.2.2 = k := by omega
      have hkc3 : k ≤ t.2.2 := by omega
      unfold maxLen at c3
      have HXL := Lib.hid hxl
      have hxle : xr.length ≤ 1000 := by omega
      clear htj c4 c5 hxs hxr hmj hxl hE
      by_cases hle : (k : Int) ≤ leadL xr
      · rw [if_pos hle] at HN
        obtain ⟨ld, hld⟩ : ∃ l, leadL xr = l := ⟨_, rfl⟩
        rw [hld] at hle HLD
        clear hld
        go_wp2_with fail
        refine HLD.out.mono ?_
        rintro e w2 ⟨rfl, hE2⟩
        have HE2 := Lib.hid (Ext.trans HE.out hE2)
        have HL2 := Lib.hid (HL.out.ext hE2)
        have HR2 := Lib.hid ((HC4.out.ext hE2).drop k)
        have hszr := HE2.out.size
        clear hE2 HLD
        have hbt : blocksOf g0 tags t.1 := List.mem_cons_of_mem _ (List.mem_map.2 ⟨t, List.mem_of_getElem? HTJ.out, rfl⟩)
        have htl : t.1 < w.heap.size := HM.out.blt hbt
        have HE3 : Hid (base ≤ (cutT k t).1) := HGB.out t.1 hbt
        have HE4 : Hid (u7.ownBlock ≠ some (cutT k t).1) := fun e => by have := (HL.out.own.lt t.1 e).1; omega
        have HE5 : Hid ((cutT k t).1 ∉ tagsO.map (·.1)) := fun hm => by
          have h1 := HSUB.out t.1 hm
          obtain ⟨s, hs, es⟩ := List.mem_map.1 h1
          obtain ⟨i, hi⟩ := List.getElem?_of_mem hs
          have hij : i < j := by
            have := (List.getElem?_eq_some_iff.1 hi).1
            rw [List.length_take] at this; omega
          rw [List.getElem?_take_of_lt hij] at hi
          exact HM.out.apart hi HTJ.out (by omega) es
        have HE6 : Hid ((behindL k (m.take j)).length < 1000000) := by
          have h1 : (behindL k (m.take j)).length ≤ (m.take j).length := by unfold behindL; rw [List.length_map]; exact List.length_filter_le _ _
          rw [List.length_take] at h1
          unfold Hid; omega
        have HE0 : Hid (#[Value.slice (some ⟨t.1, t.2.1 + k, none⟩) (xr.length - k) (t.2.2 - k)] = #[tagV (cutT k t) (xr.drop k).length]) := by unfold Hid tagV cutT; rw [List.length_drop]
        have HE1' : Hid ((xr.drop k).length ≤ (cutT k t).2.2) := by show (xr.drop k).length ≤ t.2.2 - k; rw [List.length_drop]; omega
        have HE2' : Hid ((cutT k t).2.2 ≤ maxLen) := by show t.2.2 - k ≤ maxLen; unfold maxLen; omega
        clear hbt htl
        go_wp2_with (at_builtin; go_must (refine wpList_append_long _ rfl _ _ rfl w.heap.size base u7 tagsO (behindL k (m.take j)) (cutT k t) (xr.drop k) #[.slice (some ⟨t.1, t.2.1 + k, none⟩) (xr.length - k) (t.2.2 - k)] 159 rfl HL2.out rfl HE0.out HE1'.out HE2'.out HR2.out HE3.out HE4.out HE5.out HE6.out hszr ?_))
        intro v' w5 hB5 hb5 hv5
        rw [← HN.out] at hB5
        have HB5 := Lib.hid hB5
        have HX5 := Lib.hid (Below.trans HE2.out hb5)
        have HSUB5 : Hid (∀ b, b ∈ (tagsO ++ [cutT k t]).map (·.1) → b ∈ (tags.take (j + 1)).map (·.1)) := fun b hb => by
          rw [List.map_append] at hb
          rcases List.mem_append.1 hb with hb | hb
          · exact HSB2.out b (HSUB.out b hb)
          · simp only [List.map_cons, List.map_nil, List.mem_singleton] at hb
            rw [hb]
            refine List.mem_map.2 ⟨t, ?_, rfl⟩
            rw [List.take_add_one, HTJ.out]; simp
        have HV5 : Hid (v' = .slice none 0 0 ∧ behindL k (m.take (j + 1)) = [] ∨ ∃ g c, v' = .slice (some ⟨g, 0, none⟩) (behindL k (m.take (j + 1))).length c) := by
          obtain ⟨g, c, hv⟩ := hv5.out
          refine .inr ⟨g, c, ?_⟩
          rw [hv, HN.out, List.length_append]; rfl
        clear hB5 hb5 hv5
        go_wp2_with fail
        go_roundw
        case rel => exact ⟨j + 1, _, by omega, by go_num, HX5.out, HB5.out, HSUB5.out, HV5.out⟩
        case measure => simp [intOf]; omega
      · rw [if_neg hle, List.append_nil] at HN
        obtain ⟨ld, hld⟩ : ∃ l, leadL xr = l := ⟨_, rfl⟩
        rw [hld] at hle HLD
        clear hld
        go_wp2_with fail
        refine HLD.out.mono ?_
        rintro e w2 ⟨rfl, hE2⟩
        have HE2 := Lib.hid (Ext.trans HE.out hE2)
        have HL2 := Lib.hid (HL.out.ext hE2)
        clear hE2 HLD
        rw [← HN.out] at HL2 HV
        go_wp2_with fail
        go_roundw
        case rel => exact ⟨j + 1, tagsO, by omega, by go_num, HE2.out, HL2.out, fun b hb => HSB2.out b (HSUB.out b hb), HV.out⟩
        case measure => simp [intOf]; omega
    · obtain rfl : j = m.length := by omega
      have hL := HL.out
      have hV := HV.out
      rw [List.take_length] at hL hV
      have hr := HR.out
      unfold formO at hr
      cases hcl : colsO cols F cols 0 0 (behindL k m) with
      | none => rw [hcl] at hr; cases hr
      | some rr =>
      obtain ⟨mf, d⟩ := rr
      rw [hcl] at hr
      have HRR : Hid (mf.take d = R) := Option.some.inj hr
      have HCL := Lib.hid hcl
      have hbl : (behindL k m).length ≤ m.length := by unfold behindL; rw [List.length_map]; exact List.length_filter_le _ _
      rcases hV with ⟨rfl, hnil⟩ | ⟨g, cc, rfl⟩
      · have HR0 : Hid (R = []) := by
          unfold Hid
          rw [← HRR.out]
          have h0 := HCL.out
          rw [hnil] at h0
          have : mf = [] := by
            have hh : colsO cols F cols 0 0 [] = some ([], 0) := by
              cases cols with
              | zero => rfl
              | succ q => unfold colsO; rw [if_neg (by simp)]
            rw [hh] at h0
            simp only [Option.some.injEq, Prod.mk.injEq] at h0
            exact h0.1.symm
          rw [this]; simp
        have HBW := Lib.hid (Below.mono HE.out hbw)
        clear hL hr hcl HL HSUB HV hE hnil hbl
        go_wp2_with fail
        refine (form_nil cols _).mono ?_
        rintro e w' ⟨rfl, rfl⟩
        go_wp2_with fail
        go_ret
        rw [HR0.out]
        exact ⟨_, rfl, ⟨none, 0, rfl, Nat.le_refl _, Nat.zero_le _, .inl rfl⟩, HBW.out⟩
      · obtain ⟨hMM, hc2, hc3, hbb⟩ := hL.mat hbw
        have HBW := Lib.hid (Below.mono HE.out hbw)
        have HFM := Lib.hid (form_any cols F cols (behindL k m) tagsO g cc base wo (mf, d) hMM HCL.out hc2 hc3 (Nat.le_refl _) (by omega) (HT.out.ext HE.out) HB.out hbb (Nat.le_trans hbw HE.out.size))
        have HC2 := Lib.hid hc2
        have HBB := Lib.hid hbb
        have hszw := HE.out.size
        clear hL hr hcl HL HSUB HV hE hMM hc2 hbb
        go_wp2_with fail
        refine HFM.out.mono ?_
        rintro e w2 ⟨tags', rfl, hFA, hl1, hl2, hG⟩
        have HFA := Lib.hid hFA
        have HB2 : Hid (Below base w w2) := Below.trans HBW.out (hG.below (Nat.le_trans hbw hszw) HBB.out)
        have HLE : Hid (d ≤ mf.length ∧ mf.length ≤ cc) := ⟨by rw [hl1]; exact hl2, by rw [hl1]; exact HC2.out⟩
        clear hFA hG HFM
        go_wp2_with fail
        go_ret
        refine ⟨.slice (some ⟨g, 0, none⟩) d cc, rfl, ?_, HB2.out⟩
        have hld : R.length = d := by rw [← HRR.out, List.length_take]; have := HLE.out.1; omega
        refine ⟨some ⟨g, 0, none⟩, cc, by rw [hld], by rw [hld]; have := HLE.out; omega, hc3, .inr ⟨g, tags'.take d, rfl, by rw [← HRR.out]; exact HFA.out.1.take d, fun b hb => ?_⟩⟩
        rcases List.mem_cons.1 hb with rfl | hb
        · exact HBB.out _ (List.mem_cons_self ..)
        · obtain ⟨t, ht, rfl⟩ := List.mem_map.1 hb
          exact HBB.out _ (List.mem_cons_of_mem _ (HFA.out.2 _ (List.mem_map.2 ⟨t, List.mem_of_mem_take ht, rfl⟩)))
end Go.Proofs.YtjihfabhgcfjnaaGreatDoor
/- Contract: zeros of package lattice. -/
namespace Go.Proofs.YtjihfabhgcfjnaaGreatDoor
set_option linter.unusedVariables false
set_option linter.unusedSimpArgs false
open Go.RowKit

set_option maxRecDepth 100000 in
set_option maxHeartbeats 1000000 in
theorem zeros_any (n : Nat) (w : World) (hn : n ≤ 1000) (ht : Pow10 w) :
    Calls Tryz.prog 136 #[.int .i64 n] w fun e w' => ∃ g c, e = .returned (.slice (some ⟨g, 0, none⟩) n c) ∧ RowB w' g 0 (List.replicate n 0) ∧ w.heap.size ≤ g ∧ n ≤ c ∧ c ≤ maxLen ∧ Ext w w' := by
  obtain ⟨i0, hi, hz0, hz1, hz2⟩ := info_parts infoInt
  have HI := Lib.hid hi; have HZ0 := Lib.hid hz0; have HZ1 := Lib.hid hz1; have HZ2 := Lib.hid hz2
  have HT := Lib.hid ht
  clear hi hz0 hz1 hz2 ht
  go_enter Tryz.func136, Tryz.ntmps136
  go_wp2_with (at_make; refine wpList_make_full _ rfl _ _ 37 rfl w.heap.size 3 i0 (.int .i64 0) 1 Tryz.underlying37 HI.out HZ0.out HZ1.out _ _ _ _ n rfl rfl rfl rfl ?c1 ?c2 ?c3 ?_)
  case c1 => rw [HZ2.out]; omega
  case c2 => unfold maxLen; omega
  case c3 => exact Nat.le_refl _
  intro w1 hown hgrow
  have hE1 := ext_grown hgrow
  have HE1 := Lib.hid hE1
  rw [made_ints] at hown
  have hrl : (List.replicate n (0 : Int)).length = n := by simp
  have hI : Ints w1 (.slice (some ⟨w.heap.size, 0, none⟩) n n) (List.replicate n 0) := by
    have h2 := hown
    have h3 : w1.ownsRow w.heap.size 3 1 (.slice (some ⟨w.heap.size, 0, none⟩) n n) (List.replicate n (0 : Int)).length ((List.replicate n (0 : Int)).map (Value.int .i64)) := by rw [hrl]; exact h2
    exact Ints.of_owns h3 (fun x hx => by rw [List.eq_of_mem_replicate hx]; omega)
  have HL := Lib.hid (longOf_any (List.replicate n 0) _ w1 hI (by rw [hrl]; exact hn) (HT.out.ext hE1))
  rw [hrl] at HL
  clear hown hgrow hE1 hI hrl
  go_wp2_with fail
  refine HL.out.mono ?_
  rintro e w2 ⟨g, c, rfl, hR, hg, hc, hc2, hE2⟩
  have HR := Lib.hid hR
  have HE2 := Lib.hid (Ext.trans HE1.out hE2)
  have hgs : w.heap.size ≤ g := Nat.le_trans HE1.out.size hg
  clear hR hE2 HL hg
  go_wp2_with fail
  go_ret
  exact ⟨g, c, rfl, HR.out, hgs, hc, hc2, HE2.out⟩
end Go.Proofs.YtjihfabhgcfjnaaGreatDoor
/- 'out = append(out, r...)' of a row of integers of any size. -/
namespace Go.Proofs.YtjihfabhgcfjnaaGreatDoor
set_option linter.unusedVariables false
set_option linter.unusedSimpArgs false
open Go.RowKit

theorem wpList_append_row (w : World) {ops : Array Oper} {rest : List Oper} {o : Oper} {a : Act} {Q : Exit → Act → World → Prop} (hgd : o.guard = none)
    (s x : Operand) (ho : o.op = Op.call { callee := Callee.builtin Builtin.append, args := #[s, x], argTypes := #[159, 159] }) (base : Nat)
    (v : Value) (xs ys : List Int) (hs : a.eval s = v) (hB : Build w base 125 1 v bigC xs) (g c n : Nat) (hn : ys.length = n) (hx : a.eval x = .slice (some ⟨g, 0, none⟩) n c) (hR : RowB w g 0 ys)
    (hlen : xs.length + n < 1000000) (hpos : 1 ≤ n) (hbase : base ≤ w.heap.size)
    (h : ∀ w' gr cr, RowB w' gr 0 (xs ++ ys) → base ≤ gr → xs.length + n ≤ cr → cr ≤ maxLen → Below base w w' → wpList Tryz.prog ops Q rest (a.put o.dst (.slice (some ⟨gr, 0, none⟩) (xs.length + n) cr)) w') :
    wpList Tryz.prog ops Q (o :: rest) a w := by
  refine wpList_plain hgd fun K hK => ?_
  subst hn
  obtain ⟨i0, hi, hz, hsize, hby⟩ := info_parts infoBig
  have hadd : ∀ j, (⟨g, 0, none⟩ : Addr).add j = ⟨g, 0 + j, none⟩ := by intro j; unfold Addr.add; split <;> simp_all
  have hbig := hB.bigs
  refine wp_append_own_at w s x 159 ho base 125 i0 (.string ⟨#[]⟩) 1 16 Tryz.underlying159 hi hz hsize hby rfl (by decide) v xs.length (xs.map fun x => Value.string (intB x)) hs hbig ⟨g, 0, none⟩ ys.length c (ys.map fun x => Value.string (intB x)) hx (by simp) ?_ ?_ ?_ ?_ hbase ?_
  · intro j q hq
    rw [List.getElem?_map] at hq
    cases hy : ys[j]? with
    | none => rw [hy] at hq; cases hq
    | some y =>
      rw [hy] at hq
      rw [hadd, hR.cell j y hy]
      exact congrArg some (Option.some.inj hq)
  · intro u hu
    obtain ⟨y, -, rfl⟩ := List.mem_map.1 hu
    rfl
  · unfold maxLen; omega
  · omega
  · intro v' w' hown hgrow _ hat
    have hown2 : w'.ownsRow base 125 1 v' (xs ++ ys).length ((xs ++ ys).map fun x => Value.string (intB x)) := by
      rw [List.length_append, List.map_append]; exact hown
    obtain ⟨gr, cr, rfl, -⟩ := owns_shape hown2 (by rw [List.length_append]; omega)
    obtain ⟨k1, k2, k3, k4⟩ := RowB.of_owns hown2
    rw [List.length_append] at k3
    rw [List.length_append]
    refine hK _ _ (h w' gr cr k1 k2 k3 k4 ⟨hgrow.os, hgrow.tape, hgrow.output, hgrow.size, fun b hb => hgrow.block b (by omega) ?_⟩)
    intro e
    have := (hbig.lt b e.symm).1
    omega
end Go.Proofs.YtjihfabhgcfjnaaGreatDoor
/- The walk of kernel: its rows (wideL). -/
namespace Go.Proofs.YtjihfabhgcfjnaaGreatDoor
set_option linter.unusedVariables false
set_option linter.unusedSimpArgs false
open Go.RowKit

set_option maxRecDepth 100000 in
set_option maxHeartbeats 4000000 in
theorem kernel_any (F cols : Nat) (m : List (List Int)) (ad : Option Addr) (cap : Nat) (w : World) (R : List (List Int)) (hM : m = [] ∨ ∃ g0 tags, ad = some ⟨g0, 0, none⟩ ∧ MatB w g0 tags m) (hrow : okM cols m = true) (h : List (List Int)) (hF : formO (m.length + cols) F (m.length + cols) (wideL cols m) = some h) (hok : okM (m.length + cols) h = true) (hR : formO cols F cols (behindL m.length h) = some R)
    (hcap : m.length ≤ cap) (hcap2 : cap ≤ maxLen) (hm : m.length + cols ≤ 1000) (hc1 : 1 ≤ cols) (ht : Pow10 w) (hb : 2 < w.heap.size) :
    Calls Tryz.prog 92 #[.slice ad m.length cap, .int .i64 cols] w fun e w' => ∃ v, e = .returned v ∧ ResM w' w.heap.size v R ∧ Ext w w' := by
  have HM := Lib.hid hM; have HRW := Lib.hid hrow; have HR := Lib.hid hR; have HF := Lib.hid hF; have HOK := Lib.hid hok; have HT := Lib.hid ht; have HB := Lib.hid hb
  unfold maxLen at hcap2
  clear hM hrow hR ht hb hF hok
  go_enter Tryz.func92, Tryz.ntmps92
  go_wp2_with fail
  go_loopw [5, 12] (fun out t wr => ∃ (c : Nat) (tagsO : List (Nat × Nat × Nat)), c ≤ cols ∧ t = .int .i64 c ∧ Ext w wr ∧ Hid (LongsB wr w.heap.size w.heap.size out tagsO ((wideL cols m).take c)) ∧ Hid (out = .slice none 0 0 ∧ c = 0 ∨ ∃ g k, out = .slice (some ⟨g, 0, none⟩) c k)) (fun _ t _ => cols - (intOf t).toNat)
  case atStart => exact ⟨0, [], by omega, rfl, Ext.refl _, LongsB.nil _ _ _, .inl ⟨rfl, rfl⟩⟩
  case round =>
    obtain ⟨c, tagsO, hc, rfl, hE, HL, HV⟩ := hrel
    obtain ⟨wo, rfl⟩ : ∃ wo : World, wo = wr := ⟨_, rfl⟩
    have HE := Lib.hid hE
    by_cases hlt : c < cols
    · have HCOL : Hid ((wideL cols m).take (c + 1) = (wideL cols m).take c ++ [m.map (fun r => r.getD c 0) ++ (List.replicate cols (0 : Int)).set c 1]) := by
        unfold Hid wideL
        rw [← List.map_take, ← List.map_take, List.take_add_one, List.map_append, List.getElem?_range hlt]; rfl
      clear hE
      go_wp2_with fail
      go_loopw [7, 17] (fun r t wq => ∃ i : Nat, i ≤ m.length ∧ t = .int .i64 i ∧ Ext wo wq ∧ Hid (Build wq wo.heap.size 125 1 r bigC ((m.map (fun r => r.getD c 0)).take i))) (fun _ t _ => m.length - (intOf t).toNat)
      case atStart => exact ⟨0, by omega, rfl, Ext.refl _, ⟨[], rfl, by simp, World.ownsRow_nil _ _ _ _, by simp⟩⟩
      case round =>
        obtain ⟨i, hi, rfl, hEq, HBu⟩ := hrel
        obtain ⟨wp, rfl⟩ : ∃ wp : World, wp = wr := ⟨_, rfl⟩
        have HEq := Lib.hid hEq
        by_cases hil : i < m.length
        · obtain ⟨g0, tags, rfl, hMM⟩ : ∃ g0 tags, ad = some ⟨g0, 0, none⟩ ∧ MatB w g0 tags m := by
            rcases HM.out with h0 | h0
            · rw [h0] at hil; simp at hil
            · exact h0
          obtain ⟨t, htj, c1, c2, c3, c4, c5⟩ := (hMM.ext (Ext.trans HE.out hEq)).get i hil
          clear hMM
          obtain ⟨hxl, hxs⟩ := okM_row HRW.out i hil
          have HN : Hid ((m.map (fun r => r.getD c 0)).take (i + 1) = (m.map (fun r => r.getD c 0)).take i ++ [(rowE_ m i).getD c 0]) := by
            unfold Hid; rw [List.take_add_one, List.getElem?_map, rowE_get hil]; rfl
          have HJ : Hid (((m.map (fun r => r.getD c 0)).take i).length < 1000000) := by unfold Hid; rw [List.length_take]; omega
          obtain ⟨xr, hxr⟩ : ∃ xr, rowE_ m i = xr := ⟨_, rfl⟩
          rw [hxr] at c1 c2 c4 hxl HN
          have hcx : c < xr.length := by omega
          have g2 := c4.cell c (xr.getD c 0) (by rw [List.getD_eq_getElem?_getD, List.getElem?_eq_getElem hcx]; rfl)
          obtain ⟨x, hx⟩ : ∃ x, xr.getD c 0 = x := ⟨_, rfl⟩
          rw [hx] at g2 HN
          unfold maxLen at c3
          have hszq := hEq.size
          clear htj c4 c5 hxs hxr hx hEq
          go_wp2_with (at_builtin; go_must (refine wpList_append_build _ rfl _ _ 159 rfl wo.heap.size 125 (.string ⟨#[]⟩) 1 16 Tryz.underlying159 infoBig rfl (by decide) u7 bigC ((m.map (fun r => r.getD c 0)).take i) x #[.string (intB x)] 125 rfl HBu.out rfl rfl ?e1 (fun _ _ => rfl) HJ.out (by decide) hszq ?_))
          case e1 => simp [Value.oneCell']
          intro v' w5 hB5 hg5 hb5 hs5 _
          have hB5 : Build w5 wo.heap.size 125 1 v' bigC ((m.map (fun r => r.getD c 0)).take (i + 1)) := by rw [HN.out]; exact hB5
          have HB5 := Lib.hid hB5
          have HX5 := Lib.hid (Below.trans HEq.out hb5)
          clear hB5 hg5 hb5
          go_wp2_with fail
          go_roundw
          case rel => exact ⟨i + 1, by omega, by go_num, HX5.out, HB5.out⟩
          case measure => simp [intOf]; omega
        · obtain rfl : i = m.length := by omega
          have hB := HBu.out
          rw [List.take_of_length_le (by simp)] at hB
          have HBL := Lib.hid hB
          have HEL := Lib.hid (Ext.trans HE.out HEq.out)
          have HLL := Lib.hid (HL.out.ext HEq.out)
          have HZ := Lib.hid (zeros_any cols wp (by omega) (HT.out.ext HEL.out))
          have hs0 := HE.out.size
          have hs1 := HEq.out.size
          clear hB HBu hEq
          go_wp2_with fail
          refine HZ.out.mono ?_
          rintro e w2 ⟨gz, cz, rfl, hRz, hgz, hcz, hcz2, hE2⟩
          have h49 : intB 1 = ⟨#[49]⟩ := by kernel_rfl
          have HE3 : Hid (Ext wp (w2.setCell ⟨gz, c, none⟩ (.string (intB 1)))) := Below.trans hE2 ((GrownS.setCell (S := (· = gz)) (GrownS.ofExt (Ext.refl w2)) rfl c (.string (intB 1))).below hE2.size (fun k hk => by rw [hk]; exact hgz))
          have hRS := hRz.set c (by simpa using hlt) 1
          have gz1 := hRz.cell c 0 (by rw [List.getElem?_replicate, if_pos hlt])
          have gz2 := hRz.free c
          rw [Nat.zero_add] at gz1 hRS
          rw [h49] at HE3 hRS
          have HRZ := Lib.hid hRS
          have HB3 := Lib.hid (HBL.out.ext HE3.out)
          have HL3 := Lib.hid (HLL.out.ext HE3.out)
          have hs3 := HE3.out.size
          clear hRz HZ hRS hE2
          go_wp2_with (at_builtin; go_must (refine wpList_append_row _ rfl _ _ rfl wo.heap.size u7 _ _ rfl HB3.out gz cz cols ?n1 rfl HRZ.out ?n2 hc1 ?n3 ?_))
          case n1 => simp
          case n2 => simp; omega
          case n3 => omega
          intro w4 gr cr hR4 hgr hcr hcr2 hb4
          have HR4 := Lib.hid hR4
          have HE4 := Lib.hid (Below.trans (Ext.trans HEq.out HE3.out) hb4)
          have HEX := Lib.hid (Ext.trans HE.out HE4.out)
          have HL4 := Lib.hid (HL.out.ext HE4.out)
          have hszr := HEX.out.size
          have HLN : Hid ((m.map (fun r => r.getD c 0) ++ (List.replicate cols (0 : Int)).set c 1).length = m.length + cols) := by unfold Hid; simp
          have HJ : Hid (((wideL cols m).take c).length = c) := by unfold Hid wideL; rw [List.length_take]; simp; omega
          have HV1 : Hid (u5.ownBlock ≠ some gr) := fun e => by have := (HL.out.own.lt gr e).2; omega
          have HN1 : Hid (gr ∉ tagsO.map (·.1)) := fun hm => by
            obtain ⟨t, ht, e⟩ := List.mem_map.1 hm
            obtain ⟨i, hi⟩ := List.getElem?_of_mem ht
            have hl : i < ((wideL cols m).take c).length := by rw [← HL.out.len]; exact (List.getElem?_eq_some_iff.1 hi).1
            have := (HL.out.row i t _ hi (List.getElem?_eq_getElem hl)).2.2.1.lt
            omega
          have HE0 : Hid (#[Value.slice (some ⟨gr, 0, none⟩) (m.length + cols) cr] = #[tagV (gr, 0, cr) (m.map (fun r => r.getD c 0) ++ (List.replicate cols (0 : Int)).set c 1).length]) := by unfold Hid tagV; rw [HLN.out]
          have HC : Hid ((m.map (fun r => r.getD c 0) ++ (List.replicate cols (0 : Int)).set c 1).length ≤ cr) := by
            unfold Hid; rw [HLN.out]; simpa using hcr
          have HGR : Hid (w.heap.size ≤ gr) := by unfold Hid; omega
          have HJ6 : Hid (((wideL cols m).take c).length < 1000000) := by unfold Hid; rw [HJ.out]; omega
          clear hR4 hb4 hcr
          go_wp2_with (at_builtin; go_must (refine wpList_append_long _ rfl _ _ rfl w.heap.size w.heap.size u5 tagsO ((wideL cols m).take c) (gr, 0, cr) (m.map (fun r => r.getD c 0) ++ (List.replicate cols (0 : Int)).set c 1) #[.slice (some ⟨gr, 0, none⟩) (m.length + cols) cr] 159 rfl HL4.out rfl HE0.out HC.out hcr2 HR4.out HGR.out HV1.out HN1.out HJ6.out hszr ?_))
          intro v' w5 hB5 hb5 hv5
          have hB5 : LongsB w5 w.heap.size w.heap.size v' (tagsO ++ [(gr, 0, cr)]) ((wideL cols m).take (c + 1)) := by rw [HCOL.out]; exact hB5
          have HB5 := Lib.hid hB5
          have HX5 := Lib.hid (Below.trans HEX.out hb5)
          have HV5 : Hid (v' = .slice none 0 0 ∧ c + 1 = 0 ∨ ∃ g k, v' = .slice (some ⟨g, 0, none⟩) (c + 1) k) := by
            obtain ⟨g, k, hv⟩ := hv5.out
            refine .inr ⟨g, k, ?_⟩
            have hj := HJ.out
            rw [List.length_take] at hj
            rw [hv]; first | rw [hj] | rw [HJ.out] | (simp only [List.length_take]; rw [hj])
          clear hB5 hb5 hv5
          go_wp2_with fail
          go_roundw
          case rel => exact ⟨c + 1, _, by omega, by go_num, HX5.out, HB5.out, HV5.out⟩
          case measure => simp [intOf]; omega
    · obtain rfl : c = cols := by omega
      have hwl : (wideL c m).length = c := by unfold wideL; simp
      have hL := HL.out
      rw [List.take_of_length_le (by omega)] at hL
      rcases HV.out with ⟨-, h0⟩ | ⟨g, cc, rfl⟩
      · omega
      rw [← hwl] at hL
      have hf := HF.out
      unfold formO at hf
      cases hcl : colsO (m.length + c) F (m.length + c) 0 0 (wideL c m) with
      | none => rw [hcl] at hf; cases hf
      | some rr =>
      obtain ⟨mf, d⟩ := rr
      rw [hcl] at hf
      have HRR : Hid (mf.take d = h) := Option.some.inj hf
      have hL2 : LongsB wo w.heap.size w.heap.size (.slice (some ⟨g, 0, none⟩) (wideL c m).length cc) tagsO (wideL c m) := by
        rw [hwl] at hL ⊢; exact hL
      obtain ⟨hMM, hc2, hc3, hbb⟩ := hL2.mat (Nat.le_refl _)
      have HFM := Lib.hid (form_any (m.length + c) F (m.length + c) (wideL c m) tagsO g cc w.heap.size wo (mf, d) hMM hcl hc2 hc3 (Nat.le_refl _) (by omega) (HT.out.ext HE.out) HB.out hbb HE.out.size)
      rw [hwl] at HFM hc2
      have HBB := Lib.hid hbb
      have hszw := HE.out.size
      clear hL hL2 hf hcl HL HV hE hMM hbb
      go_wp2_with fail
      refine HFM.out.mono ?_
      rintro e w2 ⟨tags', rfl, hFA, hl1, hl2, hG⟩
      have HFA := Lib.hid hFA
      have HB2 : Hid (Ext w w2) := Below.trans HE.out (hG.below hszw HBB.out)
      have hd : h.length = d := by
        rw [← HRR.out, List.length_take]
        have a1 : mf.length = c := hl1
        have a2 : d ≤ c := hl2
        omega
      have a2 : d ≤ c := hl2
      have HBH := Lib.hid (behind_any F c m.length h (tags'.take d) g cc w.heap.size w2 R (by rw [← HRR.out]; exact hFA.1.take d) HOK.out HR.out (by omega) hc3 (by omega) hc1 (by omega) (HT.out.ext HB2.out) HB.out (fun b hb => by
        rcases List.mem_cons.1 hb with rfl | hb
        · exact HBB.out _ (List.mem_cons_self ..)
        · obtain ⟨t, ht, rfl⟩ := List.mem_map.1 hb
          exact HBB.out _ (List.mem_cons_of_mem _ (hFA.2 _ (List.mem_map.2 ⟨t, List.mem_of_mem_take ht, rfl⟩)))) HB2.out.size)
      rw [hd] at HBH
      clear hFA hG HFM
      go_wp2_with fail
      refine HBH.out.mono ?_
      rintro e w3 ⟨v, rfl, hRM, hb3⟩
      have HRM := Lib.hid hRM
      have HB3 : Hid (Ext w w3) := Below.trans HB2.out hb3
      clear hRM hb3 HBH
      go_wp2_with fail
      go_ret
      exact ⟨v, rfl, HRM.out, HB3.out⟩
end Go.Proofs.YtjihfabhgcfjnaaGreatDoor
