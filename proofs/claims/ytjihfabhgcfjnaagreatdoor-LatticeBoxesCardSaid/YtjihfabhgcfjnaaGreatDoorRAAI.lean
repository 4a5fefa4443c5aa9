/- Merged: HermC. -/
import Derived.Test.YtjihfabhgcfjnaaGreatDoorRAAE
import Derived.Laws.CopyOwn
/- Contract of reference 09: copied. -/
namespace Go.Proofs.YtjihfabhgcfjnaaGreatDoor
set_option linter.unusedVariables false
set_option linter.unusedSimpArgs false
open Go.RowKit

theorem infoIntSz : (Tryz.prog.info? 3).map (·.size) = some 1 := by kernel_rfl
/-- A row that is made, as a block. -/
theorem made_block {w : World} {B g n : Nat} {xs : List Value} (h : w.ownsRow B 3 1 (.slice (some ⟨g, 0, none⟩) n n) n xs) : w.heap[g]? = some (.cells xs.toArray 3 (0, 0)) ∧ xs.length = n ∧ B ≤ g := by
  obtain ⟨h0, h⟩ := h
  rcases h with ⟨hv, _⟩ | ⟨g', cap', cur, hv, hb, hg, h1, h2, h3, h4⟩
  · simp at hv
  · simp only [Value.slice.injEq, Option.some.injEq, Addr.mk.injEq] at hv
    obtain ⟨⟨rfl, -, -⟩, -, rfl⟩ := hv
    rw [Nat.mul_one] at h0 h3 h4
    rw [List.take_of_length_le (by simp [h3])] at h4
    refine ⟨?_, h0, hb⟩
    rw [hg, ← h4]
theorem block_rowG {w : World} {g : Nat} {xs : List Int} (h : w.heap[g]? = some (.cells (xs.map (Value.int .i64)).toArray 3 (0, 0))) : RowG w g 0 xs :=
  ⟨block_lt h, fun j x hx => by rw [Nat.zero_add, block_cell h j]; simp [hx], fun j => block_free h j⟩
set_option maxRecDepth 100000 in
/-- copy of a whole row of ints, behind the walk's own steps. -/
theorem copy_up {Q : Exit → Act → World → Prop} {K : Act → World → Prop} {o : Oper} {a : Act} {ty : TypeId} (w : World) (g n cr : Nat) (ar : Option Addr) (zs cs : List Value) (hg : w.heap[g]? = some (.cells zs.toArray 3 (0, 0))) (hz : zs.length = n) (hc : cs.length = n)
    (hsrc : 0 < cs.length → ∃ ad, ar = some ad ∧ ∀ (j : Nat) v, cs[j]? = some v → w.cell? (ad.add j) = some v) (h1 : ∀ v ∈ cs, v.oneCell' = true) (B : Nat) (w0 : World) (hb : Below B w0 w) (hBg : B ≤ g)
    (hK : ∀ w', Hid (w'.heap[g]? = some (.cells cs.toArray 3 (0, 0))) → Below B w0 w' → K (a.put o.dst (.int .i64 (n : Int))) w') :
    Oper.upon Tryz.prog o a K Q ((Sem.run Tryz.prog (Builtin.copy_ #[37, 37] ty #[.slice (some ⟨g, 0, none⟩) n n, .slice ar n cr]) w).andThen fun a w' => Result.ok (Next.value a) w') := by
  by_cases h0 : n = 0
  · subst h0
    obtain rfl : cs = [] := List.eq_nil_of_length_eq_zero hc
    obtain rfl : zs = [] := List.eq_nil_of_length_eq_zero hz
    have hrun := run_copy_none (P := Tryz.prog) w 37 37 ty 3 (some ⟨g, 0, none⟩) ar 0 0 0 cr Tryz.underlying37 infoIntSz rfl
    have h := hK w hg hb
    rw [hrun]
    exact h
  · obtain ⟨ad, rfl, hs⟩ := hsrc (by omega)
    have hrun := run_copy_row (P := Tryz.prog) w 37 37 ty 3 g 0 n n ad n cr zs.toArray 3 cs Tryz.underlying37 infoIntSz hg (by rw [hc]; exact (Nat.min_self n).symm) hs (by simp [hz, hc]) h1
    have h := hK _ (show _ = _ by
      have := setRow_heap w g _ (zs.toArray.toList.take 0 ++ cs ++ zs.toArray.toList.drop (0 + cs.length)).toArray 3 _ hg
      rw [this]; simp [hz, hc]) (below_setRow hb hBg _)
    have e : (Value.int .i64 (n : Int)) = goInt cs.length := by rw [hc]; rfl
    rw [e] at h
    rw [hrun]
    exact h

set_option maxRecDepth 100000 in
set_option maxHeartbeats 2000000 in
/-- The rows, copied. -/
theorem copied9_any (n : Nat) (xss : List (List Int)) (v : Value) (w : World) (h : Rows2 w v xss) (hlen : xss.length ≤ 1000) (hrow : ∀ xs ∈ xss, xs.length = n) (hn : n ≤ 1000) :
    Calls Tryz.prog 100 #[v, .int .i64 n] w fun e w' => ∃ v' tags, e = .returned v' ∧ RowsG w' w.heap.size w.heap.size v' tags xss ∧ (v' = .slice none 0 0 ∧ xss = [] ∨ ∃ g c, v' = .slice (some ⟨g, 0, none⟩) xss.length c) ∧ Ext w w' := by
  obtain ⟨i0, hi, hz0, hz1, hz2⟩ := info_parts infoInt
  have HI := Lib.hid hi; have HZ0 := Lib.hid hz0; have HZ1 := Lib.hid hz1; have HZ2 := Lib.hid hz2
  clear hi hz0 hz1 hz2
  obtain ⟨a, c, rfl, h1, h2, -, hc⟩ := inCell.open h
  have HC := Lib.hid hc; have HROW := Lib.hid hrow
  unfold maxLen at h2
  clear h hc hrow
  go_enter Tryz.func100, Tryz.ntmps100
  go_wp2_with fail
  go_loopw [5, 6] (fun out t wr => ∃ (j : Nat) (tags : List (Nat × Nat × Nat)), j ≤ xss.length ∧ t = .int .i64 j ∧ Ext w wr ∧ Hid (RowsG wr w.heap.size w.heap.size out tags (xss.take j)) ∧ Hid (out = .slice none 0 0 ∧ j = 0 ∨ ∃ g c, out = .slice (some ⟨g, 0, none⟩) j c)) (fun _ t _ => xss.length - (intOf t).toNat)
  case atStart => exact ⟨0, [], by omega, rfl, Ext.refl _, RowsG.nil _ _ _, .inl ⟨rfl, rfl⟩⟩
  case round =>
    obtain ⟨j, tags, hj, rfl, hE, HB, HV⟩ := hrel
    obtain ⟨wo, rfl⟩ : ∃ wo : World, wo = wr := ⟨_, rfl⟩
    have HE := Lib.hid hE
    by_cases hlt : j < xss.length
    · obtain ⟨b, off, rfl, hb, hcell⟩ := HC.out (by intro e; simp [e] at hlt)
      obtain ⟨xs, hx⟩ : ∃ x, xss[j]? = some x := ⟨xss[j], List.getElem?_eq_getElem hlt⟩
      obtain ⟨vr, hvr, hcr⟩ := hcell j xs hx
      have g1 := hE.cell hcr
      have hxl := HROW.out xs (List.mem_of_getElem? hx)
      have hvr' := hvr.ext hE
      obtain ⟨ar, cr, rfl, -, -, -, -, hxc⟩ := Ints.open hvr'
      rw [hxl] at g1
      have HXC := Lib.hid hxc
      have HN : Hid (xss.take (j + 1) = xss.take j ++ [xs]) := by unfold Hid; rw [List.take_add_one, hx]; rfl
      have HJ : Hid ((xss.take j).length = j) := by unfold Hid; rw [List.length_take]; omega
      have HXL := Lib.hid hxl
      clear hcell hx hvr hcr hE hvr' hxc hxl
      go_wp2_with (at_make; refine wpList_make_full _ rfl _ _ 37 rfl wo.heap.size 3 i0 (.int .i64 0) 1 Tryz.underlying37 HI.out HZ0.out HZ1.out _ _ _ _ n rfl rfl rfl rfl ?c1 ?c2 ?c3 ?_)
      case c1 => rw [HZ2.out]; omega
      case c2 => unfold maxLen; omega
      case c3 => exact Nat.le_refl _
      intro w2 hown hgrow
      have HE2 := Lib.hid (ext_grown hgrow)
      rw [made_ints] at hown
      obtain ⟨hm1, hm2, -⟩ := made_block hown
      have HMB := Lib.hid hm1
      obtain ⟨zs, hzs⟩ : ∃ zs, zs = (List.replicate n (0 : Int)).map (Value.int .i64) := ⟨_, rfl⟩
      rw [← hzs] at HMB hm2
      obtain ⟨cs, hcs⟩ : ∃ cs, cs = xs.map (Value.int .i64) := ⟨_, rfl⟩
      have hcl : cs.length = n := by rw [hcs, List.length_map]; exact HXL.out
      have g2 := HE2.out.cell g1
      have HCS := Lib.hid hcs
      have HSRC : Hid (0 < cs.length → ∃ ad, ar = some ad ∧ ∀ (j : Nat) v, cs[j]? = some v → w2.cell? (ad.add j) = some v) := fun hpos => by
        obtain ⟨b2, off2, rfl, hb2, hc2⟩ := HXC.out (by intro e; rw [hcl, ← HXL.out, e] at hpos; simp at hpos)
        refine ⟨_, rfl, fun k v hv => ?_⟩
        rw [HCS.out, List.getElem?_map] at hv
        cases hk : xs[k]? with
        | none => rw [hk] at hv; cases hv
        | some y =>
          rw [hk] at hv; cases hv
          rw [show (⟨b2, off2, none⟩ : Addr).add k = ⟨b2, off2 + k, none⟩ by unfold Addr.add; split <;> simp_all]
          exact HE2.out.cell (hc2 k y hk)
      have H1C : Hid (∀ v ∈ cs, v.oneCell' = true) := fun v hv => by rw [HCS.out] at hv; obtain ⟨y, _, rfl⟩ := List.mem_map.1 hv; rfl
      have hbw : Below wo.heap.size wo w2 := HE2.out
      clear hown hgrow hm1 hzs hcs
      go_wp2_with fail
      refine copy_up w2 wo.heap.size n cr ar zs cs HMB.out hm2 hcl HSRC.out H1C.out wo.heap.size wo hbw (Nat.le_refl _) ?_
      intro w3 hb3 hw3
      have hb3 := hb3.out
      rw [HCS.out] at hb3
      have HR := Lib.hid (block_rowG hb3)
      have hE3 : Ext wo w3 := hw3
      have HB2 := Lib.hid (HB.out.ext hE3)
      have HE3 := Lib.hid (Ext.trans HE.out hE3)
      have hszr := HE3.out.size
      have hszw := HE.out.size
      have hv1 : u5.ownBlock ≠ some wo.heap.size := fun e => by have := (HB.out.own.lt wo.heap.size e).2; omega
      have hn1 : wo.heap.size ∉ tags.map (·.1) := fun hm => by
        obtain ⟨t, ht, e⟩ := List.mem_map.1 hm
        obtain ⟨i, hi⟩ := List.getElem?_of_mem ht
        have hl : i < (xss.take j).length := by rw [← HB.out.len]; exact (List.getElem?_eq_some_iff.1 hi).1
        have := (HB.out.row i t _ hi (List.getElem?_eq_getElem hl)).2.2.1.lt
        omega
      have HV1 := Lib.hid hv1; have HN1 := Lib.hid hn1
      clear hb3 hw3 hE3 hv1 hn1 HSRC H1C hbw hcl hm2 HMB HCS
      go_wp2_with (at_builtin; go_must (refine wpList_append_rowG _ rfl _ _ rfl w.heap.size w.heap.size u5 tags (xss.take j) (wo.heap.size, 0, n) xs #[.slice (some ⟨wo.heap.size, 0, none⟩) n n] 37 rfl HB2.out rfl (by rw [HXL.out]; rfl) ?e0 ?e3 HR.out HE.out.size HV1.out HN1.out ?e2 hszr ?_))
      case e0 => exact Nat.le_of_eq HXL.out
      case e3 => unfold maxLen; show n ≤ _; omega
      case e2 => rw [HJ.out]; omega
      intro v' w5 hB5 hb5 hv5
      rw [← HN.out] at hB5
      have HB5 := Lib.hid hB5
      have HV5 := hv5
      have HX5 := Lib.hid (Below.trans HE3.out hb5)
      clear hB5 hb5 hv5
      go_wp2_with fail
      go_roundw
      case rel => exact ⟨j + 1, _, by omega, by go_num, HX5.out, HB5.out, .inr HV5.out⟩
      case measure => simp [intOf]; omega
    · obtain rfl : j = xss.length := by omega
      have hB := HB.out
      rw [List.take_length] at hB
      have HBF := Lib.hid hB
      have HVF : Hid (u5 = .slice none 0 0 ∧ xss = [] ∨ ∃ g c, u5 = .slice (some ⟨g, 0, none⟩) xss.length c) := by
        rcases HV.out with ⟨h1, h2⟩ | h1
        · exact .inl ⟨h1, List.eq_nil_of_length_eq_zero h2⟩
        · exact .inr h1
      clear hB HB HV hE
      go_wp2_with fail
      go_ret
      exact ⟨_, tags, rfl, HBF.out, HVF.out, HE.out⟩
end Go.Proofs.YtjihfabhgcfjnaaGreatDoor
