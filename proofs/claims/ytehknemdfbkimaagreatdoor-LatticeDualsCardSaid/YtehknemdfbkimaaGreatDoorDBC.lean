/- Merged: LongApp, LatSum. -/
import Derived.Test.YtehknemdfbkimaaGreatDoorDAV
import Derived.Test.YtehknemdfbkimaaGreatDoorDAY
import Derived.Test.YtehknemdfbkimaaGreatDoorDAP
/- Matrices of integers of any size: the rows of one behind those of another. -/
namespace Go.Proofs.YtehknemdfbkimaaGreatDoor
set_option linter.unusedVariables false
set_option linter.unusedSimpArgs false
open Go.RowKit

theorem LongsB.res {w : World} {ob base : Nat} {v : Value} {tags : List (Nat × Nat × Nat)} {m : List (List Int)} (h : LongsB w ob base v tags m) (hob : base ≤ ob) : ResM w base v m := by
  rcases h.own.2 with hv | ⟨g, cap, cur, hv, -⟩
  · have hn := hv.1
    have h0 : m = [] := by
      rcases Nat.eq_zero_or_pos m.length with h0 | h0
      · exact List.eq_nil_of_length_eq_zero h0
      · obtain ⟨g, c, hv2, -⟩ := owns_shape h.own h0
        rw [hn] at hv2; cases hv2
    subst h0
    exact ⟨none, 0, hn, Nat.le_refl _, by unfold maxLen; omega, .inl rfl⟩
  · subst hv
    obtain ⟨h1, h2, h3, h4⟩ := h.mat hob
    exact ⟨_, cap, rfl, h2, h3, .inr ⟨g, tags, rfl, h1, h4⟩⟩
/-- The rows of two matrices that a call builds, the second one later. -/
theorem LongsB.app {w w' : World} {ob base ob2 base2 : Nat} {v v' u : Value} {tags tagu : List (Nat × Nat × Nat)} {m mu : List (List Int)} (h : LongsB w ob base v tags m) (k : LongsB w ob2 base2 u tagu mu) (hb : base ≤ base2)
    (hap : ∀ b, (v.ownBlock = some b ∨ b ∈ tags.map (·.1)) → b < base2)
    (hown : w'.ownsRow ob 114 1 v' (m.length + mu.length) (tagVs tags m ++ tagVs tagu mu)) (hg : w.grownBy w' v.ownBlock) (hat : v'.ownBlock = v.ownBlock ∨ ∃ b, v'.ownBlock = some b ∧ w.heap.size ≤ b) :
    LongsB w' ob base v' (tags ++ tagu) (m ++ mu) := by
  have hkeep : ∀ (s : Nat × Nat × Nat) q, RowB w s.1 s.2.1 q → v.ownBlock ≠ some s.1 → RowB w' s.1 s.2.1 q ∧ v'.ownBlock ≠ some s.1 := fun s q hs hvs => by
    refine ⟨hs.same hg.size (hg.block s.1 hs.lt hvs.symm), fun e => ?_⟩
    rcases hat with e2 | ⟨b, e2, e3⟩
    · exact hvs (e2.symm.trans e)
    · rw [e2] at e; cases e; have := hs.lt; omega
  refine ⟨by simp [h.len, k.len], ?_, fun i s q hs hq => ?_, ?_⟩
  · have e : tagVs (tags ++ tagu) (m ++ mu) = tagVs tags m ++ tagVs tagu mu := by
      unfold tagVs; rw [List.zipWith_append h.len]
    rw [e, List.length_append]; exact hown
  · by_cases hi : i < tags.length
    · rw [List.getElem?_append_left hi] at hs
      rw [List.getElem?_append_left (by rw [← h.len]; exact hi)] at hq
      obtain ⟨h1, h2, h3, h4, h5⟩ := h.row i s q hs hq
      obtain ⟨k1, k2⟩ := hkeep s q h3 h5
      exact ⟨h1, h2, k1, h4, k2⟩
    · rw [List.getElem?_append_right (by omega)] at hs
      rw [List.getElem?_append_right (by rw [← h.len]; omega), ← h.len] at hq
      obtain ⟨h1, h2, h3, h4, h5⟩ := k.row (i - tags.length) s q hs hq
      have hv : v.ownBlock ≠ some s.1 := fun e => by have := hap s.1 (.inl e); omega
      obtain ⟨k1, k2⟩ := hkeep s q h3 hv
      exact ⟨h1, h2, k1, Nat.le_trans hb h4, k2⟩
  · rw [List.map_append, List.nodup_append]
    refine ⟨h.nodup, k.nodup, ?_⟩
    intro a ha b hb2 e
    subst e
    have h1 := hap a (.inr ha)
    obtain ⟨t, ht, rfl⟩ := List.mem_map.1 hb2
    obtain ⟨i, hi⟩ := List.getElem?_of_mem ht
    have hl : i < mu.length := by rw [← k.len]; exact (List.getElem?_eq_some_iff.1 hi).1
    have := (k.row i t mu[i] hi (List.getElem?_eq_getElem hl)).2.2.2.1
    omega
/-- Where a matrix lies that longsOf builds. -/
theorem longsH_any (xss : List (List Int)) (v : Value) (w : World) (h : Rows2 w v xss) (hlen : xss.length ≤ 1000) (hrow : ∀ xs ∈ xss, xs.length ≤ 1000) (ht : Pow10 w) :
    Calls Tryz.prog 74 #[v] w fun e w' => ∃ a c tags B, e = .returned (.slice a xss.length c) ∧ Hid (B = w.heap.size) ∧ LongsB w' B B (.slice a xss.length c) tags xss ∧ (∀ b, ((Value.slice a xss.length c).ownBlock = some b ∨ b ∈ tags.map (·.1)) → b < w'.heap.size) ∧ Ext w w' := by
  refine (longsOf_any xss v w h hlen hrow ht).mono fun e w' ⟨v', tags, he, hL, hv, hE⟩ => ?_
  have hbk : ∀ b, (v'.ownBlock = some b ∨ b ∈ tags.map (·.1)) → b < w'.heap.size := fun b hb => by
    rcases hb with hb | hb
    · exact (hL.own.lt b hb).2
    · obtain ⟨t, ht, rfl⟩ := List.mem_map.1 hb
      obtain ⟨i, hi⟩ := List.getElem?_of_mem ht
      have hl : i < xss.length := by rw [← hL.len]; exact (List.getElem?_eq_some_iff.1 hi).1
      exact (hL.row i t xss[i] hi (List.getElem?_eq_getElem hl)).2.2.1.lt
  rcases hv with ⟨rfl, rfl⟩ | ⟨g, c, rfl⟩
  · exact ⟨none, 0, tags, w.heap.size, he, rfl, hL, hbk, hE⟩
  · exact ⟨some ⟨g, 0, none⟩, c, tags, w.heap.size, he, rfl, hL, hbk, hE⟩

/-- 'append(a, b...)' of two such matrices. -/
theorem wp_append_longs (w : World) {o : Oper} {a : Act} {K : Act → World → Prop} {Q : Exit → Act → World → Prop}
    (s x : Operand) (ho : o.op = Op.call { callee := Callee.builtin Builtin.append, args := #[s, x], argTypes := #[106, 106] }) (B B2 : Nat)
    (v u : Value) (tags tagu : List (Nat × Nat × Nat)) (m mu : List (List Int)) (hs : a.eval s = v) (hB : LongsB w B B v tags m) (hx : a.eval x = u) (hU : LongsB w B2 B2 u tagu mu) (hb : B ≤ B2)
    (hap : ∀ b, (v.ownBlock = some b ∨ b ∈ tags.map (·.1)) → b < B2) (hlen : m.length + mu.length < 1000000) (hbase : B ≤ w.heap.size)
    (h : ∀ v' w', ResM w' B v' (m ++ mu) → Below B w w' → K (a.put o.dst v') w') :
    o.wp Tryz.prog a w K Q := by
  obtain ⟨i0, hi, hz, hsize, hby⟩ := info_parts infoLong
  rcases hU.own.2 with hu | ⟨g, cap, cur, hu, -⟩
  · have hn := hu.1
    have h0 : mu = [] := by
      rcases Nat.eq_zero_or_pos mu.length with h0 | h0
      · exact List.eq_nil_of_length_eq_zero h0
      · obtain ⟨g, c, hv2, -⟩ := owns_shape hU.own h0
        rw [hn] at hv2; cases hv2
    subst h0
    subst hn
    have hrun := run_append_owned_none (P := Tryz.prog) (w := w) B 106 o.type 114 i0 1 Tryz.underlying106 hi v m.length (tagVs tags m) hB.own
    unfold Oper.wp
    simp [execOp, ho, resolve, invoke, builtin, hs, hx, hrun, Result.andThen]
    refine h _ _ ?_ (Below.refl _ _)
    rw [List.append_nil]
    exact hB.res (Nat.le_refl _)
  · subst hu
    have hc := hU.own.cells (g := g) (by simp [Value.ownBlock])
    refine wp_append_own_at w s x 106 ho B 114 i0 (.slice none 0 0) 1 24 Tryz.underlying106 hi hz hsize hby rfl (by decide) v m.length (tagVs tags m) hs hB.own ⟨g, 0, none⟩ mu.length cap (tagVs tagu mu) hx (by rw [tagVs_len hU.len]; simp) ?_ ?_ ?_ ?_ hbase ?_
    · intro j q hq
      exact hc j q hq
    · intro q hq
      unfold tagVs at hq
      obtain ⟨j, hj⟩ := List.getElem?_of_mem hq
      rw [List.getElem?_zipWith] at hj
      cases h1 : tagu[j]? with
      | none => rw [h1] at hj; simp at hj
      | some t =>
        cases h2 : mu[j]? with
        | none => rw [h1, h2] at hj; simp at hj
        | some r =>
          rw [h1, h2] at hj
          simp at hj
          subst hj
          rfl
    · unfold maxLen; omega
    · omega
    · intro v' w' hown hgrow _ hat
      have hLB := hB.app hU hb hap hown hgrow (by
        rcases hat with h1 | h1
        · exact .inl h1
        · exact .inr ⟨_, h1, Nat.le_refl _⟩)
      refine h v' w' (hLB.res (Nat.le_refl _)) ⟨hgrow.os, hgrow.tape, hgrow.output, hgrow.size, fun b hb2 => hgrow.block b (by omega) ?_⟩
      intro e
      have := (hB.own.lt b e.symm).1
      omega
/-- The same at a step of a region that draws its order. -/
theorem step_append_longs (w : World) {ops : Array Oper} {o : Oper} {a : Act} {K : Act → World → Prop} {Q : Exit → Act → World → Prop} {E : Prop} (hgd : o.guard = none)
    (s x : Operand) (ho : o.op = Op.call { callee := Callee.builtin Builtin.append, args := #[s, x], argTypes := #[106, 106] }) (B B2 : Nat)
    (v u : Value) (tags tagu : List (Nat × Nat × Nat)) (m mu : List (List Int)) (hs : a.eval s = v) (hB : LongsB w B B v tags m) (hx : a.eval x = u) (hU : LongsB w B2 B2 u tagu mu) (hb : B ≤ B2)
    (hap : ∀ b, (v.ownBlock = some b ∨ b ∈ tags.map (·.1)) → b < B2) (hlen : m.length + mu.length < 1000000) (hbase : B ≤ w.heap.size)
    (h : ∀ v' w', ResM w' B v' (m ++ mu) → Below B w w' → K (a.put o.dst v') w') :
    if Region.wanted o (yielded ops a.tmps) = true then Oper.wp Tryz.prog o a w K Q else E := by
  have hw : Region.wanted o (yielded ops a.tmps) = true := by simp [Region.wanted, hgd]
  rw [if_pos hw]
  exact wp_append_longs w s x ho B B2 v u tags tagu m mu hs hB hx hU hb hap hlen hbase h
end Go.Proofs.YtehknemdfbkimaaGreatDoor
/- Contract of package lattice: Sum. Printed by gen/latsum.py. -/
namespace Go.Proofs.YtehknemdfbkimaaGreatDoor
set_option linter.unusedVariables false
set_option linter.unusedSimpArgs false
open Go.RowKit

theorem bothE_zeroL {n : Int} {xss yss : List (List Int)} (h1 : chkE n xss = 0) (h2 : chkE n yss = 0) : bothE n xss n yss = 0 := by unfold bothE; rw [if_pos h1, if_pos h2, if_pos rfl]
set_option maxRecDepth 100000 in
set_option maxHeartbeats 8000000 in
theorem sum_any (n F : Nat) (xss yss U : List (List Int)) (v v' : Value) (w : World) (h : LatV w v n xss) (h' : LatV w v' n yss) (hE : chkE n xss = 0) (hE' : chkE n yss = 0) (hn : 1 ≤ n) (hU : formO n F n (xss ++ yss) = some U) (hsm : ∀ r ∈ U, r.all smB = true) (hl : ∀ r ∈ U, r.length ≤ 1000) (hm : U.length ≤ 1000) (hlib : LibT w) (hb : 0 < w.heap.size) :
    Calls Tryz.prog 33 #[v, v'] w (LsR n U w) := by
  obtain ⟨l1, l2, l3, l4⟩ := latE_rows (chkE_zero hE).1
  obtain ⟨m1, m2, m3, m4⟩ := latE_rows (chkE_zero hE').1
  have HC := Lib.hid (fun W (hW : Ext w W) => checkBoth_any n n xss yss v v' W (h.ext hW) (h'.ext hW))
  rw [bothE_zeroL hE hE'] at HC
  obtain ⟨u, rfl, hu⟩ := h
  obtain ⟨u', rfl, hu'⟩ := h'
  have HLO := Lib.hid (fun W (hW : Ext w W) => longsH_any xss u W (hu.ext hW) (by omega) (fun xs hx => by have := (l4 xs hx).2; omega) (hlib.pow.ext hW))
  have HLP := Lib.hid (fun W (hW : Ext w W) => longsH_any yss u' W (hu'.ext hW) (by omega) (fun xs hx => by have := (m4 xs hx).2; omega) (hlib.pow.ext hW))
  have HFO := Lib.hid (fun W v base (hM : ResM W base v (xss ++ yss)) (hW : Ext w W) (hbb : 0 < base) (hbw : base ≤ W.heap.size) => formR_any n F n (xss ++ yss) v base W U hM hU (Nat.le_refl _) (by omega) (hlib.pow.ext hW) hbb hbw)
  have HS := Lib.hid (fun W V base (hM : ResM W base V U) (hW : Ext w W) => lshortR_any n U V base W hM hsm hl hm (by omega) (hlib.ext hW))
  have HPB := Lib.hid hb
  have HLEN : Hid (xss.length + yss.length < 1000000) := by unfold Hid; omega
  obtain ⟨a, c, rfl, h1, h2, -, hc⟩ := inCell.open hu
  obtain ⟨a', c', rfl, k1, k2, -, kc⟩ := inCell.open hu'
  clear hu hu' hc kc hE hE' hU hsm hl hm hlib l1 l2 l3 l4 m1 m2 m3 m4 hb
  go_enter Tryz.func33, Tryz.ntmps33
  obtain ⟨W1, hW1, hE1, hs1, hb1⟩ := lat_new w (.int .i64 n) (.slice a xss.length c)
  obtain ⟨W2, hW2, hE2, hs2, hb2⟩ := lat_new W1 (.int .i64 n) (.slice a' yss.length c')
  obtain ⟨W3, hW3, hE3, hs3, hb3⟩ := lat_new W2 (.int .i64 0) (.slice none 0 0)
  have HB1 := Lib.hid (block_ext (block_ext hb1 hE2) hE3)
  have HB2 := Lib.hid (block_ext hb2 hE3)
  have HB3 := Lib.hid hb3
  have HE2 := Lib.hid (hE1.trans (hE2.trans hE3))
  have z1 : W1.heap.size = w.heap.size + 1 := by omega
  have z2 : W2.heap.size = w.heap.size + 1 + 1 := by omega
  have z3 : W3.heap.size = w.heap.size + 1 + 1 + 1 := by omega
  rw [z1] at HB2
  rw [z2] at HB3
  clear hE1 hs1 hb1 hE2 hs2 hb2 hE3 hs3 hb3
  obtain ⟨e10, e11, -⟩ := lat_block HB1.out
  obtain ⟨e20, e21, -⟩ := lat_block HB2.out
  go_wp2_with fail
  refine (HC.out _ HE2.out).mono ?_
  rintro e w1 ⟨rfl, hE3⟩
  have HE3 := Lib.hid (HE2.out.trans hE3)
  have g0 := hE3.cell e10; have g1 := hE3.cell e11; have g2 := hE3.cell e20; have g3 := hE3.cell e21
  have HBR := Lib.hid (block_ext HB3.out hE3)
  have HSR : Hid (w.heap.size + 1 + 1 < w1.heap.size) := block_lt HBR.out
  clear hE3 HC e10 e11 e20 e21 HB1 HB2 HB3 hW1 hW2 hW3 z1 z2 z3
  go_upto_region 4 with fail
  refine region_anyE (fun w' => w'.cell? ⟨w.heap.size, 0, none⟩ = some (.int .i64 n) ∧ w'.cell? ⟨w.heap.size, 1, none⟩ = some (.slice a xss.length c) ∧ w'.cell? ⟨w.heap.size + 1, 0, none⟩ = some (.int .i64 n) ∧ w'.cell? ⟨w.heap.size + 1, 1, none⟩ = some (.slice a' yss.length c') ∧ Hid (Ext w1 w')) 15 (by kernel_rfl) ⟨(Ext.drew w1).cell g0, (Ext.drew w1).cell g1, (Ext.drew w1).cell g2, (Ext.drew w1).cell g3, Ext.drew w1⟩ (fun hHeld => ?_)
  refine anyE_takeW (v := ?_) 0 rfl (by kernel_rfl) (by kernel_rfl) (by kernel_rfl) (by decide) (fun _ _ _ h => h) (Or.inl ⟨by rfl, ?_⟩) (by assumption) ?_
  rotate_left
  · ((intro w'); (try go_simp); (try with_reducible rfl))
  (try simp only [Act.put, List.setIfInBounds_toArray, List.set_cons_zero, List.set_cons_succ])
  refine anyE_take (v := ?_) 1 rfl (by kernel_rfl) (by kernel_rfl) (by kernel_rfl) (by kernel_rfl) (by kernel_rfl) (fun _ _ _ h => h) (Or.inl ⟨by rfl, ?_⟩) (by assumption) ?_
  rotate_left
  · ((intro w' hSw); (try dsimp only at hSw); (try go_simp); (try with_reducible rfl))
  (try simp only [Act.put, List.setIfInBounds_toArray, List.set_cons_zero, List.set_cons_succ])
  refine anyE_takeW (v := ?_) 3 rfl (by kernel_rfl) (by kernel_rfl) (by kernel_rfl) (by decide) (fun _ _ _ h => h) (Or.inl ⟨by rfl, ?_⟩) (by assumption) ?_
  rotate_left
  · ((intro w'); (try go_simp); (try with_reducible rfl))
  (try simp only [Act.put, List.setIfInBounds_toArray, List.set_cons_zero, List.set_cons_succ])
  refine anyE_take (v := ?_) 4 rfl (by kernel_rfl) (by kernel_rfl) (by kernel_rfl) (by kernel_rfl) (by kernel_rfl) (fun _ _ _ h => h) (Or.inl ⟨by rfl, ?_⟩) (by assumption) ?_
  rotate_left
  · ((intro w' hSw); (try dsimp only at hSw); (try go_simp); (try with_reducible rfl))
  (try simp only [Act.put, List.setIfInBounds_toArray, List.set_cons_zero, List.set_cons_succ])
  refine anyE_takeW (v := ?_) 7 rfl (by kernel_rfl) (by kernel_rfl) (by kernel_rfl) (by decide) (fun _ _ _ h => h) (Or.inl ⟨by rfl, ?_⟩) (by assumption) ?_
  rotate_left
  · ((intro w'); (try go_simp); (try with_reducible rfl))
  (try simp only [Act.put, List.setIfInBounds_toArray, List.set_cons_zero, List.set_cons_succ])
  refine anyE_take (v := ?_) 8 rfl (by kernel_rfl) (by kernel_rfl) (by kernel_rfl) (by kernel_rfl) (by kernel_rfl) (fun _ _ _ h => h) (Or.inl ⟨by rfl, ?_⟩) (by assumption) ?_
  rotate_left
  · ((intro w' hSw); (try dsimp only at hSw); (try go_simp); (try with_reducible rfl))
  (try simp only [Act.put, List.setIfInBounds_toArray, List.set_cons_zero, List.set_cons_succ])
  refine anyE_takeW (v := ?_) 10 rfl (by kernel_rfl) (by kernel_rfl) (by kernel_rfl) (by decide) (fun _ _ _ h => h) (Or.inl ⟨by rfl, ?_⟩) (by assumption) ?_
  rotate_left
  · ((intro w'); (try go_simp); (try with_reducible rfl))
  (try simp only [Act.put, List.setIfInBounds_toArray, List.set_cons_zero, List.set_cons_succ])
  refine anyE_take (v := ?_) 11 rfl (by kernel_rfl) (by kernel_rfl) (by kernel_rfl) (by kernel_rfl) (by kernel_rfl) (fun _ _ _ h => h) (Or.inl ⟨by rfl, ?_⟩) (by assumption) ?_
  rotate_left
  · ((intro w' hSw); (try dsimp only at hSw); (try go_simp); (try with_reducible rfl))
  (try simp only [Act.put, List.setIfInBounds_toArray, List.set_cons_zero, List.set_cons_succ])
  refine anyE_step 2 (by kernel_rfl) rfl (fun K hK => ?_)
  go_simp
  (go_at_call 74; refine (HLO.out _ (HE3.out.trans hHeld.2.2.2.2.out)).mono ?_)
  rintro e wx ⟨a2, c2, tg2, B2, rfl, hB2, hM2, hk2, hEz⟩
  have HM2 := Lib.hid hM2; have HK2 := Lib.hid hk2
  have HZ2 : Hid (w1.heap.size ≤ B2 ∧ B2 ≤ wx.heap.size) := ⟨by rw [hB2.out]; exact hHeld.2.2.2.2.out.size, by rw [hB2.out]; exact hEz.size⟩
  clear hM2 hk2 hB2
  go_wp2_with fail
  refine hK.out _ _ ⟨(hEz).cell hHeld.1, (hEz).cell hHeld.2.1, (hEz).cell hHeld.2.2.1, (hEz).cell hHeld.2.2.2.1, Ext.trans hHeld.2.2.2.2.out (hEz)⟩ (fun hHeld => ?_)
  clear hK K
  (try simp only [Act.put, List.setIfInBounds_toArray, List.set_cons_zero, List.set_cons_succ])
  refine anyE_step 5 (by kernel_rfl) rfl (fun K hK => ?_)
  go_simp
  (go_at_call 74; refine (HLP.out _ (HE3.out.trans hHeld.2.2.2.2.out)).mono ?_)
  rintro e wy ⟨a5, c5, tg5, B5, rfl, hB5, hM5, hk5, hEz⟩
  have HM5 := Lib.hid hM5; have HM2 := Lib.hid (HM2.out.ext hEz)
  have HZ5 : Hid (B5 = wx.heap.size ∧ wx.heap.size ≤ wy.heap.size) := ⟨hB5.out, hEz.size⟩
  have HXY : Hid (Ext w1 wy) := Ext.trans hHeld.2.2.2.2.out hEz
  clear hM5 hk5 hB5
  go_wp2_with fail
  refine hK.out _ _ ⟨(hEz).cell hHeld.1, (hEz).cell hHeld.2.1, (hEz).cell hHeld.2.2.1, (hEz).cell hHeld.2.2.2.1, Ext.trans hHeld.2.2.2.2.out (hEz)⟩ (fun hHeld => ?_)
  clear hK K
  (try simp only [Act.put, List.setIfInBounds_toArray, List.set_cons_zero, List.set_cons_succ])
  refine anyE_step 6 (by kernel_rfl) rfl (fun K hK => ?_)
  refine step_append_longs wy (by rfl) _ _ (by rfl) B2 B5 (.slice a2 xss.length c2) (.slice a5 yss.length c5) tg2 tg5 xss yss (by rfl) HM2.out (by rfl) HM5.out (by have := HZ2.out; have := HZ5.out; omega) (fun b hb => by rw [HZ5.out.1]; exact HK2.out b hb) HLEN.out (by have := HZ2.out; have := HZ5.out; omega) ?_
  intro v6 w6 hM6 hb6
  have HM6 := Lib.hid hM6
  have HX6 : Hid (Ext w1 w6) := Below.trans HXY.out (Below.mono hb6 HZ2.out.1)
  have HS6 : Hid (B2 ≤ w6.heap.size) := by have h1 := hb6.size; have h2 := HZ2.out; have h3 := HZ5.out; exact (by omega : B2 ≤ w6.heap.size)
  clear hM6 hb6
  refine hK.out _ _ ⟨(HX6.out).cell g0, (HX6.out).cell g1, (HX6.out).cell g2, (HX6.out).cell g3, HX6.out⟩ (fun hHeld => ?_)
  clear hK K
  (try simp only [Act.put, List.setIfInBounds_toArray, List.set_cons_zero, List.set_cons_succ])
  refine anyE_step 9 (by kernel_rfl) rfl (fun K hK => ?_)
  go_simp
  (go_at_call 90; refine (HFO.out _ _ B2 HM6.out (HE3.out.trans HX6.out) (by have h1 := HPB.out; have h2 := HZ2.out.1; have h3 := HE3.out.size; omega) HS6.out).mono ?_)
  rintro e w7 ⟨v7, rfl, hM7, hb7⟩
  have HM7 := Lib.hid hM7
  have HX7 : Hid (Ext w1 w7) := Below.trans HX6.out (Below.mono hb7 HZ2.out.1)
  clear hM7 hb7
  go_wp2_with fail
  refine hK.out _ _ ⟨(HX7.out).cell g0, (HX7.out).cell g1, (HX7.out).cell g2, (HX7.out).cell g3, HX7.out⟩ (fun hHeld => ?_)
  clear hK K
  (try simp only [Act.put, List.setIfInBounds_toArray, List.set_cons_zero, List.set_cons_succ])
  refine anyE_step 12 (by kernel_rfl) rfl (fun K hK => ?_)
  go_simp
  (go_at_call 76; refine (HS.out _ _ _ HM7.out (HE3.out.trans HX7.out)).mono ?_)
  rintro e wz hsr
  obtain ⟨AA, EE, ar, kr, cr, rfl, hLF, hEz⟩ := hsr.open
  have HLF := Lib.hid hLF; have HXZ := Lib.hid (HX7.out.trans hEz); have HZZ := Lib.hid hEz
  have hr := block_ext HBR.out HXZ.out
  obtain ⟨r0, r1, rf⟩ := lat_block hr
  have f0 := rf 0; have f1 := rf 1
  have HKA := Lib.hid (lat_store hr (.int .i64 AA) (.slice ar kr cr))
  clear rf hr hLF
  go_wp2_with fail
  refine hK.out _ _ ⟨(HXZ.out).cell g0, (HXZ.out).cell g1, (HXZ.out).cell g2, (HXZ.out).cell g3, HXZ.out⟩ (fun hHeld => ?_)
  clear hK K
  (try simp only [Act.put, List.setIfInBounds_toArray, List.set_cons_zero, List.set_cons_succ])
  refine anyE_takeW (v := ?_) 13 rfl (by kernel_rfl) (by kernel_rfl) (by kernel_rfl) (by decide) (fun _ _ _ h => h) (Or.inl ⟨by rfl, ?_⟩) (by assumption) ?_
  rotate_left
  · ((intro w'); (try go_simp); (try with_reducible rfl))
  (try simp only [Act.put, List.setIfInBounds_toArray, List.set_cons_zero, List.set_cons_succ])
  refine anyE_takeW (v := ?_) 14 rfl (by kernel_rfl) (by kernel_rfl) (by kernel_rfl) (by decide) (fun _ _ _ h => h) (Or.inl ⟨by rfl, ?_⟩) (by assumption) ?_
  rotate_left
  · ((intro w'); (try go_simp); (try with_reducible rfl))
  (try simp only [Act.put, List.setIfInBounds_toArray, List.set_cons_zero, List.set_cons_succ])
  refine anyE_stepZ 15 (by kernel_rfl) (by kernel_rfl) rfl (fun K hK => ?_)
  go_simp
  refine hK.out _ _ ?_
  clear hK K
  (try simp only [Act.put, List.setIfInBounds_toArray, List.set_cons_zero, List.set_cons_succ])
  refine anyE_last 16 (by kernel_rfl) (by kernel_rfl) (by kernel_rfl) rfl (fun K hK => ?_)
  go_simp
  refine hK.out _ _ ?_
  clear hK K
  (try simp only [Act.put, List.setIfInBounds_toArray, List.set_cons_zero, List.set_cons_succ])
  go_wp2_with fail
  refine bodyPost_ret (results_rowtmp (by rfl) _ _ (w.heap.size + 1 + 1) 30 #[.int .i64 AA, .slice ar kr cr] (0, 0) _ (by rfl) HKA.out Tryz.underlying30 (by rfl) (by kernel_rfl)) (by rfl) ?_
  have HWW : Hid (w.heap.size + 1 + 1 < w7.heap.size) := Nat.lt_of_lt_of_le HSR.out HX7.out.size
  refine HLF.out.close (ext_lat (HE3.out.trans HXZ.out) (by omega) _ _) (Nat.le_trans (by omega) (Nat.le_of_lt HWW.out)) (fun S hS => GrownS.setCell (GrownS.setCell (GrownS.refl _ _) (hS _ HWW.out) 0 _) (hS _ HWW.out) 1 _)
end Go.Proofs.YtehknemdfbkimaaGreatDoor
