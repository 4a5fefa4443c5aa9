/- Merged: HermW. -/
import Derived.Test.YtjihfabhgcfjnaaGreatDoorRAAH
import Derived.Test.YtjihfabhgcfjnaaGreatDoorRAAI
import Derived.Test.YtjihfabhgcfjnaaGreatDoorQAR
/- The Hermite form of reference 09. -/
namespace Go.Proofs.YtjihfabhgcfjnaaGreatDoor
set_option linter.unusedVariables false
set_option linter.unusedSimpArgs false
open Go.RowKit

/-- Where the work in place stands. -/
def FormG (w : World) (g0 : Nat) (tags0 tags : List (Nat × Nat × Nat)) (m : List (List Int)) : Prop :=
  MatG w g0 tags m ∧ (∀ b, b ∈ tags.map (·.1) → b ∈ tags0.map (·.1))
theorem FormG.ext {w w' : World} {g0 : Nat} {tags0 tags : List (Nat × Nat × Nat)} {m : List (List Int)} (h : FormG w g0 tags0 tags m) (he : Ext w w') : FormG w' g0 tags0 tags m := ⟨h.1.ext he, h.2⟩
theorem FormG.grownRow {w w' : World} {g0 : Nat} {tags0 tags : List (Nat × Nat × Nat)} {m : List (List Int)} (h : FormG w g0 tags0 tags m) (i : Nat) (hi : i < m.length) (t : Nat × Nat × Nat) (ht : tags[i]? = some t) (r : List Int) (hr : r.length = (rowE_ m i).length) (hg : GrownS (· = t.1) w w') (hR : RowG w' t.1 t.2.1 r) : FormG w' g0 tags0 tags (m.set i r) :=
  ⟨h.1.setRow i hi t ht r hr hg hR, h.2⟩
theorem FormG.inb {w : World} {g0 : Nat} {tags0 tags : List (Nat × Nat × Nat)} {m : List (List Int)} (h : FormG w g0 tags0 tags m) {i : Nat} {t : Nat × Nat × Nat} (ht : tags[i]? = some t) : blocksOf g0 tags0 t.1 :=
  List.mem_cons_of_mem _ (h.2 t.1 (List.mem_map.2 ⟨t, List.mem_of_getElem? ht, rfl⟩))
theorem FormG.blocks {w : World} {g0 : Nat} {tags0 tags : List (Nat × Nat × Nat)} {m : List (List Int)} (h : FormG w g0 tags0 tags m) {b : Nat} (hb : blocksOf g0 tags b) : blocksOf g0 tags0 b := by
  rcases List.mem_cons.1 hb with rfl | hb
  · exact List.mem_cons_self ..
  · exact List.mem_cons_of_mem _ (h.2 b hb)
/-- An element in memory. -/
theorem FormG.elem {w : World} {g0 : Nat} {tags0 tags : List (Nat × Nat × Nat)} {m : List (List Int)} (h : FormG w g0 tags0 tags m) {n : Nat} (hw : Wid n m) (i c : Nat) (hi : i < m.length) (hc : c < n) :
    ∃ t : Nat × Nat × Nat, tags[i]? = some t ∧ w.cell? ⟨g0, i, none⟩ = some (.slice (some ⟨t.1, t.2.1, none⟩) n t.2.2) ∧ n ≤ t.2.2 ∧ t.2.2 ≤ maxLen ∧ w.cell? ⟨t.1, t.2.1 + c, none⟩ = some (.int .i64 (getE m i c)) ∧ RowG w t.1 t.2.1 (rowE_ m i) ∧ t.1 ≠ g0 := by
  obtain ⟨t, ht, h1, h2, h3, h4, h5⟩ := h.1.get i hi
  have hl := hw i hi
  have e := getE_cell h4 (c := c) (by omega)
  rw [hl] at h1 h2
  exact ⟨t, ht, h1, h2, h3, e, h4, h5⟩
theorem othO_zero {c d i : Nat} {m : List (List Int)} (hi : d ≤ i) (h : getE m i c = 0) : othO c d m (i + 1 - d) = othO c d m (i - d) := by
  rw [show i + 1 - d = (i - d) + 1 by omega, othO, show d + (i - d) = i by omega, if_pos h]
theorem othO_next {c d i : Nat} {m : List (List Int)} (hi : d ≤ i) (h : getE m i c ≠ 0) : othO c d m (i + 1 - d) = (othO c d m (i - d) || (bestO c d m (i - d)).isSome) := by
  rw [show i + 1 - d = (i - d) + 1 by omega, othO, show d + (i - d) = i by omega, if_neg h]
/-- The rows of a matrix in place, as far as d, as a slice. -/
theorem MatG.rows2 {w : World} {g0 : Nat} {tags : List (Nat × Nat × Nat)} {m : List (List Int)} (h : MatG w g0 tags m) {d cap : Nat} (hd : d ≤ m.length) (hc : m.length ≤ cap) (hc2 : cap ≤ maxLen) (hb : ∀ i, i < d → ∀ x ∈ rowE_ m i, -9223372036854775808 ≤ x ∧ x ≤ 9223372036854775807) :
    Rows2 w (.slice (some ⟨g0, 0, none⟩) d cap) (m.take d) := by
  have hV : ∀ i, i < d → ∃ v, w.cell? ⟨g0, i, none⟩ = some v ∧ Ints w v (rowE_ m i) := by
    intro i hi
    obtain ⟨t, ht, h1, h2, h3, h4, h5⟩ := h.get i (by omega)
    refine ⟨_, h1, (rowE_ m i).map fun x => [Value.int .i64 x], by simp, by intro u hu; obtain ⟨x, _, rfl⟩ := List.mem_map.1 hu; rfl, ?_, fun j u x hu hx => ?_⟩
    · refine ⟨some ⟨t.1, t.2.1, none⟩, t.2.2, rfl, h2, h3, (fun e => by cases e), fun _ => ⟨t.1, t.2.1, rfl, h4.lt, fun j u hu => ?_⟩⟩
      rw [flatten_one, List.getElem?_map] at hu
      cases hx : (rowE_ m i)[j]? with
      | none => rw [hx] at hu; cases hu
      | some x => rw [hx] at hu; cases hu; exact h4.cell j x hx
    · rw [List.getElem?_map, hx] at hu
      cases hu
      exact ⟨rfl, hb i hi x (List.mem_of_getElem? hx)⟩
  have hlen : (m.take d).length = d := by rw [List.length_take]; omega
  obtain ⟨V, hVV⟩ : ∃ V : Nat → Value, ∀ i, i < d → w.cell? ⟨g0, i, none⟩ = some (V i) ∧ Ints w (V i) (rowE_ m i) := by
    refine ⟨fun i => if h : i < d then Classical.choose (hV i h) else undef, fun i h => ?_⟩
    simp only [h, ↓reduceDIte]
    exact Classical.choose_spec (hV i h)
  refine ⟨(List.range d).map fun i => [V i], by rw [hlen]; simp, by intro u hu; obtain ⟨x, _, rfl⟩ := List.mem_map.1 hu; rfl, ?_, fun j u x hu hx => ?_⟩
  · rw [flatten_one]
    refine ⟨some ⟨g0, 0, none⟩, cap, by rw [hlen], by rw [hlen]; omega, hc2, (fun e => by cases e), fun _ => ⟨g0, 0, rfl, h.lt, fun j u hu => ?_⟩⟩
    rw [List.getElem?_map] at hu
    by_cases hj : j < d
    · rw [List.getElem?_range hj] at hu
      cases hu; rw [Nat.zero_add]; exact (hVV j hj).1
    · rw [List.getElem?_eq_none (by simpa using hj)] at hu; cases hu
  · rw [List.getElem?_map] at hu
    by_cases hj : j < d
    · rw [List.getElem?_range hj] at hu
      cases hu
      rw [List.getElem?_take, if_pos hj] at hx
      rw [← rowE_of hx]
      exact ⟨_, rfl, (hVV j hj).2⟩
    · rw [List.getElem?_eq_none (by simpa using hj)] at hu; cases hu

/-- A quotient yields its value. -/
theorem quo_run {o : Oper} {ρ : Operand → Value} (w : World) (x y : Int) (l r : Operand) (T T2 : TypeId) (hop : o.op = Op.binOp .quo T l r T2)
    (hl : ρ l = .int .i64 x) (hr : ρ r = .int .i64 y) (hy : y ≠ 0) (hb1 : -9223372036854775808 ≤ x.tdiv y) (hb2 : x.tdiv y ≤ 9223372036854775807) :
    (execOp ρ o).run Tryz.prog w = .ok (.value (.int .i64 (x.tdiv y))) w := by
  have e : IntKind.i64.wrap (x.tdiv y) = x.tdiv y := by rw [IntKind.wrap_i64]; omega
  have hrun : (binOp .quo T (.int .i64 x) (.int .i64 y)).run Tryz.prog w = .ok (.int .i64 (x.tdiv y)) w := by
    simp [binOp, Op.intDiv, hy, e]
  have hg2 : (eqGuard .quo T l r (.int .i64 x) (.int .i64 y)).run Tryz.prog w = .ok () w := by simp [eqGuard]
  simp [execOp, hop, hl, hr, hrun, hg2, Result.andThen]

set_option maxRecDepth 1000000 in
set_option maxHeartbeats 40000000 in
theorem hermite9_at (n N : Nat) (xss : List (List Int)) (v : Value) (w : World) (hcp : Calls Tryz.prog 100 #[v, .int .i64 n] w fun e w' => ∃ (g0 cap : Nat) (tags : List (Nat × Nat × Nat)), e = .returned (.slice (some ⟨g0, 0, none⟩) xss.length cap) ∧ MatG w' g0 tags xss ∧ xss.length ≤ cap ∧ cap ≤ maxLen ∧ (∀ b, blocksOf g0 tags b → w.heap.size ≤ b) ∧ Ext w w')
    (hrow : Wid n xss) (hn : n ≤ 1000) (hlen : xss.length ≤ 1000) (hN : 1 ≤ N) (hN2 : N ≤ 4000000000000000000) (hb : ∀ i, i < xss.length → RowLe N (rowE_ xss i)) (hZ : Zn N (n - 1) ≤ 4000000000000000000) :
    Calls Tryz.prog 48 #[v, .int .i64 n] w fun e w' => ∃ (u : Value) (m : List (List Int)) (d : Nat) (ps : Nat → Nat) (g0 cap : Nat), e = .returned u ∧ HForm n (m.take d) ps ∧ SpEq n (RowsFrom 0 xss) (RowsFrom 0 (m.take d)) ∧ (u = .slice (some ⟨g0, 0, none⟩) d cap ∧ ∃ tags', MatG w' g0 tags' m ∧ d ≤ m.length ∧ m.length ≤ cap ∧ cap ≤ maxLen ∧ ∀ b, blocksOf g0 tags' b → w.heap.size ≤ b) ∧ Ext w w' := by
  have HCP := Lib.hid hcp; have HW := Lib.hid hrow; have HZ := Lib.hid hZ; have HI := Lib.hid (ColI.init hrow hb); have HN := Lib.hid hN; have HN2 := Lib.hid hN2
  obtain ⟨L, hL⟩ : ∃ L, xss.length = L := ⟨_, rfl⟩
  rw [hL] at HCP hlen
  have HL := Lib.hid hL
  clear hcp hrow hZ hb hL
  go_enter Tryz.func48, Tryz.ntmps48
  go_wp2_with fail
  refine HCP.out.mono ?_
  rintro e w1 ⟨g0, cap, tags, rfl, hM, hcap, hcap2, hgb, hE1⟩
  have HM := Lib.hid hM; have HGB := Lib.hid hgb; have HE1 := Lib.hid hE1
  have HC2 := Lib.hid hcap2
  unfold maxLen at hcap2
  clear hM hgb hE1 HCP
  go_wp2_with fail
  go_loopw [6, 7] (fun sd sc wr => ∃ (c d : Nat) (m1 : List (List Int)) (tags1 : List (Nat × Nat × Nat)), c ≤ n ∧ d ≤ L ∧ sc = .int .i64 c ∧ sd = .int .i64 d ∧ Hid (GrownS (blocksOf g0 tags) w1 wr) ∧ Hid (FormG wr g0 tags tags1 m1) ∧ Hid (ColI n c d N xss m1)) (fun _ sc _ => n - (intOf sc).toNat)
  case atStart => exact ⟨0, 0, xss, tags, by omega, by omega, rfl, rfl, GrownS.refl _ _, ⟨HM.out, fun b h => h⟩, HI.out⟩
  case round =>
    clear HM HI
    obtain ⟨c, d, m1, tags1, hc, hd, rfl, rfl, HG, HFA, HC⟩ := hrel
    obtain ⟨wo, rfl⟩ : ∃ wo : World, wo = wr := ⟨_, rfl⟩
    have HL1 : Hid (m1.length = L) := by unfold Hid; rw [HC.out.len]; exact HL.out
    by_cases hlt : c < n ∧ d < L
    · obtain ⟨hcn, hld⟩ := hlt
      obtain ⟨M, hMM⟩ : ∃ M, M = colB n c d N := ⟨_, rfl⟩
      have HMM := Lib.hid hMM
      have HMB : Hid (M ≤ 4000000000000000000 ∧ Zn N d ≤ 4000000000000000000) := by unfold Hid; rw [hMM]; exact colB_le hcn HC.out.dc HN2.out HZ.out
      have HR0 : Hid (RdI n c d M m1 m1) := by unfold Hid; rw [hMM]; exact HC.out.begin hcn HN.out
      clear hMM
      go_wp2_with fail
      go_loopg [6] (colS c m1 + 1) (fun f sd wr => ∃ (m2 : List (List Int)) (tags2 : List (Nat × Nat × Nat)), sd = .int .i64 d ∧ Hid (GrownS (blocksOf g0 tags) w1 wr) ∧ Hid (FormG wr g0 tags tags2 m2) ∧ Hid (RdI n c d M m1 m2) ∧ Hid (colS c m2 < f) ∧ Hid (m2 = m1 ∨ ∃ k, d ≤ k ∧ k < m2.length ∧ getE m2 k c ≠ 0))
      case atStart => exact ⟨m1, tags1, rfl, HG.out, HFA.out, HR0.out, by unfold Hid; omega, .inl rfl⟩
      case round =>
        clear HFA HR0 HG
        obtain ⟨m2, tags2, rfl, HG, HFA, HR, HF, HAL⟩ := hrel
        obtain ⟨w2, rfl⟩ : ∃ w2 : World, w2 = wr := ⟨_, rfl⟩
        have HL2 : Hid (m2.length = L) := by unfold Hid; rw [HR.out.len]; exact HL1.out
        cases gk with
        | zero => exact absurd HF.out (by omega)
        | succ f =>
        go_wp2_with fail
        go_loopw [8, 9, 10] (fun sa so si wr => ∃ i : Nat, d ≤ i ∧ i ≤ L ∧ si = .int .i64 i ∧ Hid (Ext w2 wr) ∧ Hid (sa = atV (bestO c d m2 (i - d))) ∧ Hid (so = .bool (othO c d m2 (i - d)))) (fun _ _ si _ => L - (intOf si).toNat)
        case atStart => exact ⟨d, by omega, by omega, rfl, Ext.refl _, by rw [Nat.sub_self]; rfl, by rw [Nat.sub_self]; rfl⟩
        case round =>
          obtain ⟨i, hdi, hiL, rfl, HE, HA, HO⟩ := hrel
          obtain ⟨w3, rfl⟩ : ∃ w3 : World, w3 = wr := ⟨_, rfl⟩
          have HA0 := HA; have HO0 := HO
          have hA := HA.out; have hO := HO.out
          clear HA HO
          by_cases hil : i < L
          · as_aux_lemma =>
            --<A
            obtain ⟨t, ht, k1, k2, k3, k4, k5, k6⟩ := FormG.elem (HFA.out.ext HE.out) HR.out.wid i c (by rw [HL2.out]; exact hil) hcn
            unfold maxLen at k3
            have hlo := (HR.out.low i hdi (by rw [HL2.out]; exact hil)).getD c
            have hMb := HMB.out.1
            have hxb : -4000000000000000000 ≤ getE m2 i c ∧ getE m2 i c ≤ 4000000000000000000 := by
              have : (getE m2 i c).natAbs ≤ M := hlo
              omega
            obtain ⟨ob, hob⟩ : ∃ ob, othO c d m2 (i - d) = ob := ⟨_, rfl⟩
            rw [hob] at hO
            obtain rfl : u9 = .bool ob := hO
            by_cases he : getE m2 i c = 0
            · have HN1 : Hid (u8 = atV (bestO c d m2 (i + 1 - d))) := by unfold Hid; rw [bestO_zero hdi he]; exact hA
              have HN3 : Hid (Value.bool ob = .bool (othO c d m2 (i + 1 - d))) := by unfold Hid; rw [othO_zero hdi he, hob]
              rw [he] at k4
              clear ht k5 k6 hA he hob hlo hxb hMb
              go_wp2_with fail
              go_roundw
              case rel => exact ⟨i + 1, by omega, by omega, by go_num, HE.out, HN1.out, HN3.out⟩
              case measure => simp [intOf]; omega
            · cases hbo : bestO c d m2 (i - d) with
              | none =>
                rw [hbo] at hA
                obtain rfl : u8 = .int .i64 (-1) := hA
                have HN1 : Hid (Value.int .i64 (i : Int) = atV (bestO c d m2 (i + 1 - d))) := by unfold Hid; rw [bestO_first hdi he hbo]; rfl
                have HN3 : Hid (Value.bool ob = .bool (othO c d m2 (i + 1 - d))) := by unfold Hid; rw [othO_next hdi he, hob, hbo]; simp
                obtain ⟨x, hx⟩ : ∃ x, getE m2 i c = x := ⟨_, rfl⟩
                rw [hx] at k4 he
                clear ht k5 k6 hx hbo hob hlo hxb hMb
                cases ob <;>
                · go_wp2_with fail
                  go_quiet (fail)
                  go_wp2_with fail
                  go_roundw
                  case rel => exact ⟨i + 1, by omega, by omega, by go_num, Ext.draws HE.out _, HN1.out, HN3.out⟩
                  case measure => simp [intOf]; omega
              | some a =>
                rw [hbo] at hA
                obtain rfl : u8 = .int .i64 a := hA
                obtain ⟨ha1, ha2, ha3⟩ := bestO_in _ _ hbo
                have haL : a < L := by omega
                obtain ⟨s, hs, l1, l2, l3, l4, l5, l6⟩ := FormG.elem (HFA.out.ext HE.out) HR.out.wid a c (by rw [HL2.out]; exact haL) hcn
                unfold maxLen at l3
                have hya := (HR.out.low a ha1 (by rw [HL2.out]; exact haL)).getD c
                have hyb : -4000000000000000000 ≤ getE m2 a c ∧ getE m2 a c ≤ 4000000000000000000 := by
                  have : (getE m2 a c).natAbs ≤ M := hya
                  omega
                have HNX := Lib.hid (bestO_next hdi he hbo)
                have HN3 : Hid (Value.bool true = .bool (othO c d m2 (i + 1 - d))) := by unfold Hid; rw [othO_next hdi he, hbo]; simp
                obtain ⟨x, hx⟩ : ∃ x, getE m2 i c = x := ⟨_, rfl⟩
                obtain ⟨y, hy⟩ : ∃ y, getE m2 a c = y := ⟨_, rfl⟩
                rw [hx] at k4 he hxb HNX
                rw [hy] at l4 hyb HNX
                have HXA := Lib.hid (fun W => abs9_any x W (by omega))
                have HYA := Lib.hid (fun W => abs9_any y W (by omega))
                clear ht k5 k6 hx hy hbo hob hs l5 l6 ha1 ha2 ha3 hlo hxb hya hyb hMb
                by_cases hxy : x.natAbs < y.natAbs
                · have hcb : ((x.natAbs : Nat) : Int) < ((y.natAbs : Nat) : Int) := by omega
                  have HN1 : Hid (Value.int .i64 (i : Int) = atV (bestO c d m2 (i + 1 - d))) := by unfold Hid; rw [HNX.out, if_pos hxy]; rfl
                  clear HNX hxy
                  cases ob <;>
                  · go_wp2_with fail
                    go_quiet ((go_at_call 101; first | exact Calls.quiet_of_same (HXA.out _) | exact Calls.quiet_of_same (HYA.out _)))
                    go_wp2_with fail
                    go_roundw
                    case rel => exact ⟨i + 1, by omega, by omega, by go_num, Ext.draws HE.out _, HN1.out, HN3.out⟩
                    case measure => simp [intOf]; omega
                · have hcb : ¬ ((x.natAbs : Nat) : Int) < ((y.natAbs : Nat) : Int) := by omega
                  have HN1 : Hid (Value.int .i64 (a : Int) = atV (bestO c d m2 (i + 1 - d))) := by unfold Hid; rw [HNX.out, if_neg hxy]; rfl
                  clear HNX hxy
                  cases ob <;>
                  · go_wp2_with fail
                    go_quiet ((go_at_call 101; first | exact Calls.quiet_of_same (HXA.out _) | exact Calls.quiet_of_same (HYA.out _)))
                    go_wp2_with fail
                    go_roundw
                    case rel => exact ⟨i + 1, by omega, by omega, by go_num, Ext.draws HE.out _, HN1.out, HN3.out⟩
                    case measure => simp [intOf]; omega
            -->A
          · have hiL2 : i = L := by omega
            subst hiL2
            clear hA hO
            have hA := HA0.out; have hO := HO0.out
            have HG3 := Lib.hid (HG.out.ext HE.out)
            have HF3 := Lib.hid (HFA.out.ext HE.out)
            have hd2 : d < m2.length := by rw [HL2.out]; exact hld
            have hLd : i - d = m2.length - d := by rw [HL2.out]
            clear HG HFA HE HA0 HO0
            cases hbo : bestO c d m2 (i - d) with
            | none =>
              rw [hbo] at hA
              obtain rfl : u8 = .int .i64 (-1) := hA
              have hz : ∀ k, d ≤ k → k < m2.length → getE m2 k c = 0 := fun k k1 k2 => best_none hbo k k1 (by omega)
              have hmm : m2 = m1 := by
                rcases HAL.out with h | ⟨k, k1, k2, k3⟩
                · exact h
                · exact absurd (hz k k1 k2) k3
              subst hmm
              have HC3 := Lib.hid (HC.out.skip hcn hz)
              clear hbo hz hO HC
              go_wp2_with fail
              go_roundw
              case rel => exact ⟨c + 1, d, m2, tags2, by omega, by omega, by go_num, rfl, HG3.out, HF3.out, HC3.out⟩
              case measure => simp [intOf]; omega
            | some a =>
              rw [hbo] at hA
              obtain rfl : u8 = .int .i64 a := hA
              rw [hLd] at hbo
              obtain ⟨b1, b2, b3, b4, b5⟩ := pivot_swap hd2 hbo
              have haL : a < i := by rw [HL2.out] at b2; exact b2
              obtain ⟨ob, hob⟩ : ∃ ob, othO c d m2 (i - d) = ob := ⟨_, rfl⟩
              rw [hob] at hO
              obtain rfl : u9 = .bool ob := hO
              rw [hLd] at hob
              obtain ⟨td, htd, c1, c2, c3, c4, c5⟩ := HF3.out.1.get d hd2
              obtain ⟨ta, hta, e1, e2, e3, e4, e5⟩ := HF3.out.1.get a b2
              have fd := HF3.out.1.free d
              have fa := HF3.out.1.free a
              have HTD := Lib.hid htd; have HTA := Lib.hid hta
              have HSW1 := Lib.hid (HF3.out.1.swap d a hd2 b2 td ta htd hta)
              have HRS := Lib.hid (HR.out.swap hd2 b2 b1)
              have HPA := Lib.hid b3; have HPM := Lib.hid b5
              have HOT : Hid (ob = true → ∃ k, d < k ∧ k < (swapL m2 d a).length ∧ getE (swapL m2 d a) k c ≠ 0) := fun h => others_swap hd2 b2 b1 b4 (by rw [hob, h])
              have HON : Hid (ob = false → ∀ k, d < k → k < (swapL m2 d a).length → getE (swapL m2 d a) k c = 0) := fun h => alone_swap hd2 b2 b1 b4 (by rw [hob, h])
              have HCS : Hid (colS c (swapL m2 d a) < f + 1) := by unfold Hid; rw [colS_swap]; exact HF.out
              clear hbo htd hta c2 c3 c4 c5 e2 e3 e4 e5 b2 b3 b4 b5 hob HF
              go_upto_region 16 with fail
              go_cut [] from 26 to 123 (fun wx => Hid (FormG wx g0 tags (swapL tags2 d a) (swapL m2 d a)) ∧ Hid (GrownS (blocksOf g0 tags) w1 wx))
              case first =>
                as_aux_lemma =>
                --<C
                have hSub : ∀ b, b ∈ (swapL tags2 d a).map (·.1) → b ∈ tags.map (·.1) := fun b hb => by
                  rw [swapL_map] at hb
                  exact HF3.out.2 b (swapL_mem _ _ _ _ hb)
                have HSub := Lib.hid hSub
                clear hSub
                by_cases hda : d = a
                · subst hda
                  obtain rfl : td = ta := Option.some.inj (HTD.out.symm.trans HTA.out)
                  go_region
                  all_goals (go_wp2_with fail; go_meet; exact ⟨⟨HSW1.out.ext (Ext.drew _), HSub.out⟩, ((HG3.out.setCell (List.mem_cons_self ..) _ _).setCell (List.mem_cons_self ..) _ _).ext (Ext.drew _)⟩)
                · have hda1 : ¬ a = d := fun e => hda e.symm
                  go_region
                  all_goals (go_wp2_with fail; go_meet; exact ⟨⟨HSW1.out.ext (Ext.drew _), HSub.out⟩, ((HG3.out.setCell (List.mem_cons_self ..) _ _).setCell (List.mem_cons_self ..) _ _).ext (Ext.drew _)⟩)
                -->C
              case rest =>
              obtain ⟨HF4, HG4⟩ := hcut
              have HLS0 : Hid ((swapL m2 d a).length = i) := by unfold Hid; rw [swapL_len]; exact HL2.out
              obtain ⟨ms, hms⟩ : ∃ ms, swapL m2 d a = ms := ⟨_, rfl⟩
              rw [hms] at HF4 HLS0 HRS HPA HPM HOT HON HCS
              clear hms HSW1 HF3 HG3 c1 e1 fd fa HTD HTA HR HAL
              obtain ⟨w3, rfl⟩ : ∃ w3 : World, w3 = wc := ⟨_, rfl⟩
              cases ob with
              | false =>
                as_aux_lemma =>
                --<D
                have hms : d < ms.length := by rw [HLS0.out]; exact hld
                have HPV := Lib.hid (pivot9_any c d n (Zn N d) M ms (swapL tags2 d a) g0 cap w3 HF4.out.1 hms HRS.out.wid hcn (by omega) HPA.out (fun k hk => by rw [HRS.out.top k hk]; exact HC.out.upp hcn k hk (by rw [HL1.out]; omega)) (HRS.out.low d (Nat.le_refl _) hms) (by have := HMB.out.2; omega) (by have := HMB.out.1; omega) (HC.out.piv hcn HN2.out HZ.out (by rw [← HMM.out]; exact HRS.out) hms HPA.out) (by rw [HLS0.out]; exact hcap) HC2.out)
                rw [HLS0.out] at HPV
                clear HPM HOT HCS
                go_wp2_with fail
                refine HPV.out.mono ?_
                rintro e w5 ⟨m', rfl, hPR, hM5, hG5⟩
                have hfin := HRS.out.finish (U := Zn N d) hms HPA.out (HON.out (by first | trivial | rfl)) hPR (HC.out.upp hcn)
                rw [HMM.out] at hfin
                have HC5 := Lib.hid (HC.out.next hcn (by rw [HL1.out]; exact hld) hfin.1 hfin.2)
                have HF5 : Hid (FormG w5 g0 tags (swapL tags2 d a) m') := ⟨hM5, HF4.out.2⟩
                have HG5 : Hid (GrownS (blocksOf g0 tags) w1 w5) := HG4.out.trans (hG5.weak (fun k _ hk => HF4.out.blocks hk))
                clear hfin hPR hM5 hG5 HPV HRS HC hms
                go_wp2_with fail
                go_roundw
                case rel => exact ⟨c + 1, d + 1, m', swapL tags2 d a, by omega, by omega, by go_num, by go_num, HG5.out, HF5.out, HC5.out⟩
                case measure => simp [intOf]; omega
                -->D
              | true =>
                go_wp2_with fail
                go_loopw [11] (fun si wr => ∃ (i4 : Nat) (mj : List (List Int)), d + 1 ≤ i4 ∧ i4 ≤ i ∧ si = .int .i64 i4 ∧ Hid (GrownS (blocksOf g0 tags) w1 wr) ∧ Hid (FormG wr g0 tags (swapL tags2 d a) mj) ∧ Hid (DnP c d ms i4 mj)) (fun si _ => i - (intOf si).toNat)
                case atStart => exact ⟨d + 1, ms, by omega, by omega, by go_num, HG4.out, HF4.out, rfl, fun k k1 k2 => by omega, fun k _ => rfl⟩
                case round =>
                  clear HG4 HF4
                  obtain ⟨i4, mj, h4a, h4b, rfl, HGJ, HFJ, HDJ⟩ := hrel
                  obtain ⟨w4, rfl⟩ : ∃ w4 : World, w4 = wr := ⟨_, rfl⟩
                  have HLJ : Hid (mj.length = i) := by unfold Hid; rw [HDJ.out.1]; exact HLS0.out
                  by_cases h4l : i4 < i
                  · skip
                    --<E
                    obtain ⟨t4, ht4, b1, b2, b3, b4, b5⟩ := HFJ.out.1.get i4 (by rw [HLJ.out]; exact h4l)
                    obtain ⟨tp, htp, p1, p2, p3, p4, p5⟩ := HFJ.out.1.get d (by rw [HLJ.out]; exact hld)
                    have hap := HFJ.out.1.apart ht4 htp (by omega)
                    have hb4 := HFJ.out.inb ht4
                    unfold maxLen at b3 p3
                    have hms : d < ms.length := by rw [HLS0.out]; exact hld
                    have hi4s : i4 < ms.length := by rw [HLS0.out]; exact h4l
                    have e1 := HDJ.out.2.2 i4 (.inr (Nat.le_refl _))
                    have e2 := HDJ.out.2.2 d (.inl (Nat.le_refl _))
                    have hst := HDJ.out.step (by omega) hi4s
                    have hin := fun j => less_in HRS.out hms HPA.out HPM.out HMB.out.1 (by omega) hi4s j
                    have hlx := (HRS.out.low i4 (by omega) hi4s).getD c
                    have hly := (HRS.out.low d (Nat.le_refl _) hms).getD c
                    have hxl : (rowE_ mj i4).length = n := by rw [e1]; exact HRS.out.wid i4 hi4s
                    have hyl : (rowE_ mj d).length = n := by rw [e2]; exact HRS.out.wid d hms
                    have hye0 := HPA.out
                    have b6 := getE_cell b4 (c := c) (by omega)
                    have p6 := getE_cell p4 (c := c) (by omega)
                    have f1 : ∀ k, getE ms i4 k = (rowE_ mj i4).getD k 0 := fun k => by unfold getE; rw [e1]
                    have f2 : ∀ k, getE ms d k = (rowE_ mj d).getD k 0 := fun k => by unfold getE; rw [e2]
                    have f3 : getE mj i4 c = (rowE_ mj i4).getD c 0 := rfl
                    have f4 : getE mj d c = (rowE_ mj d).getD c 0 := rfl
                    rw [f3, f4] at hst
                    rw [f2] at hye0
                    simp only [f1, f2] at hin
                    rw [← e1] at hlx; rw [← e2] at hly
                    obtain ⟨xr, hxr⟩ : ∃ xr, rowE_ mj i4 = xr := ⟨_, rfl⟩
                    obtain ⟨yr, hyr⟩ : ∃ yr, rowE_ mj d = yr := ⟨_, rfl⟩
                    rw [hxr] at b1 b2 b4 b6 hxl hst hin hlx; rw [hyr] at p1 p2 p4 p6 hyl hst hin hly hye0
                    have hMb := HMB.out.1
                    obtain ⟨xe, hxe2⟩ : ∃ xe, xr.getD c 0 = xe := ⟨_, rfl⟩
                    obtain ⟨ye, hye2⟩ : ∃ ye, yr.getD c 0 = ye := ⟨_, rfl⟩
                    rw [hxe2] at b6 hlx hst hin; rw [hye2] at p6 hly hye0 hst hin
                    have hqb : (xe.tdiv ye).natAbs ≤ xe.natAbs := by rw [Int.natAbs_tdiv]; exact Nat.div_le_self _ _
                    have hq1a : -9223372036854775808 ≤ xe.tdiv ye := by omega
                    have hq1b : xe.tdiv ye ≤ 9223372036854775807 := by omega
                    have HST := Lib.hid hst
                    have HLS : Hid (∀ W, Ext w4 W → _) := fun W (hW : Ext w4 W) => less9_any (xe.tdiv ye) xr yr t4.1 t4.2.1 t4.2.2 tp.1 tp.2.1 tp.2.2 W (b4.ext hW) (p4.ext hW) (fun e => hap e.symm) (by omega) b2 (by unfold maxLen; exact b3) p2 (by unfold maxLen; exact p3) (fun j _ => hin j)
                    have HSR : Hid (∀ (W W' : World), Ext w4 W → GrownS (· = t4.1) W W' → RowG W' t4.1 t4.2.1 (lessL (xe.tdiv ye) xr yr) → FormG W' g0 tags (swapL tags2 d a) (mj.set i4 (lessL (xe.tdiv ye) xr yr))) := fun W W' hW hG hR => (HFJ.out.ext hW).grownRow i4 (by rw [HLJ.out]; exact h4l) t4 ht4 _ (by rw [lessL_len, hxr]) hG hR
                    have HGR : Hid (∀ (W W' : World), Ext w4 W → GrownS (· = t4.1) W W' → GrownS (blocksOf g0 tags) w1 W') := fun W W' hW hG => (HGJ.out.ext hW).trans (hG.weak (fun k _ hk => by rw [hk]; exact hb4))
                    have hcx : c < xr.length := by omega
                    have hcy : c < yr.length := by omega
                    clear ht4 htp hap hb4 e1 e2 hst hin hlx hly hxl hyl hxr hyr hxe2 hye2 f1 f2 f3 f4 b4 p4 b5 p5 hqb hms hi4s hMb
                    go_upto_region 23 with fail
                    --<R23
                    refine region_anyE (fun w' => w'.cell? ⟨g0, i4, none⟩ = some (.slice (some ⟨t4.1, t4.2.1, none⟩) xr.length t4.2.2) ∧ w'.cell? ⟨g0, d, none⟩ = some (.slice (some ⟨tp.1, tp.2.1, none⟩) yr.length tp.2.2) ∧ w'.cell? ⟨t4.1, t4.2.1 + c, none⟩ = some (.int .i64 xe) ∧ w'.cell? ⟨tp.1, tp.2.1 + c, none⟩ = some (.int .i64 ye) ∧ Hid (Ext w4 w')) 23 (by kernel_rfl) ⟨(Ext.drew w4).cell b1, (Ext.drew w4).cell p1, (Ext.drew w4).cell b6, (Ext.drew w4).cell p6, Ext.drew w4⟩ (fun hHeld => ?_)
                    generalize w4.drew = wd at hHeld ⊢
                    refine anyE_takeW (v := ?_) 0 rfl (by kernel_rfl) (by kernel_rfl) (by kernel_rfl) (by decide) (fun _ _ _ h => h) (Or.inl ⟨by rfl, ?_⟩) (by assumption) ?_
                    rotate_left
                    · ((intro w'); (try go_simp); (try with_reducible rfl))
                    (try simp only [Act.put, List.setIfInBounds_toArray, List.set_cons_zero, List.set_cons_succ])
                    refine anyE_takeW (v := ?_) 1 rfl (by kernel_rfl) (by kernel_rfl) (by kernel_rfl) (by decide) (fun _ _ _ h => h) (Or.inl ⟨by rfl, ?_⟩) (by assumption) ?_
                    rotate_left
                    · ((intro w'); (try go_simp); (try with_reducible rfl))
                    (try simp only [Act.put, List.setIfInBounds_toArray, List.set_cons_zero, List.set_cons_succ])
                    refine anyE_takeW (v := ?_) 2 rfl (by kernel_rfl) (by kernel_rfl) (by kernel_rfl) (by decide) (fun _ _ _ h => h) (Or.inl ⟨by rfl, ?_⟩) (by assumption) ?_
                    rotate_left
                    · ((intro w'); (try go_simp); (try with_reducible rfl))
                    (try simp only [Act.put, List.setIfInBounds_toArray, List.set_cons_zero, List.set_cons_succ])
                    refine anyE_take (v := ?_) 3 rfl (by kernel_rfl) (by kernel_rfl) (by kernel_rfl) (by kernel_rfl) (by kernel_rfl) (fun _ _ _ h => h) (Or.inl ⟨by rfl, ?_⟩) (by assumption) ?_
                    rotate_left
                    · ((intro w' hSw); (try dsimp only at hSw); (try go_simp); (try with_reducible rfl))
                    (try simp only [Act.put, List.setIfInBounds_toArray, List.set_cons_zero, List.set_cons_succ])
                    refine anyE_takeW (v := ?_) 4 rfl (by kernel_rfl) (by kernel_rfl) (by kernel_rfl) (by decide) (fun _ _ _ h => h) (Or.inl ⟨by rfl, ?_⟩) (by assumption) ?_
                    rotate_left
                    · ((intro w'); (try go_simp); (try with_reducible rfl))
                    (try simp only [Act.put, List.setIfInBounds_toArray, List.set_cons_zero, List.set_cons_succ])
                    refine anyE_takeW (v := ?_) 5 rfl (by kernel_rfl) (by kernel_rfl) (by kernel_rfl) (by decide) (fun _ _ _ h => h) (Or.inl ⟨by rfl, ?_⟩) (by assumption) ?_
                    rotate_left
                    · ((intro w'); (try go_simp); (try with_reducible rfl))
                    (try simp only [Act.put, List.setIfInBounds_toArray, List.set_cons_zero, List.set_cons_succ])
                    refine anyE_takeW (v := ?_) 6 rfl (by kernel_rfl) (by kernel_rfl) (by kernel_rfl) (by decide) (fun _ _ _ h => h) (Or.inl ⟨by rfl, ?_⟩) (by assumption) ?_
                    rotate_left
                    · ((intro w'); (try go_simp); (try with_reducible rfl))
                    (try simp only [Act.put, List.setIfInBounds_toArray, List.set_cons_zero, List.set_cons_succ])
                    refine anyE_take (v := ?_) 7 rfl (by kernel_rfl) (by kernel_rfl) (by kernel_rfl) (by kernel_rfl) (by kernel_rfl) (fun _ _ _ h => h) (Or.inl ⟨by rfl, ?_⟩) (by assumption) ?_
                    rotate_left
                    · ((intro w' hSw); (try dsimp only at hSw); (try go_simp); (try with_reducible rfl))
                    (try simp only [Act.put, List.setIfInBounds_toArray, List.set_cons_zero, List.set_cons_succ])
                    refine anyE_takeW (v := ?_) 8 rfl (by kernel_rfl) (by kernel_rfl) (by kernel_rfl) (by decide) (fun _ _ _ h => h) (Or.inl ⟨by rfl, ?_⟩) (by assumption) ?_
                    rotate_left
                    · ((intro w'); (try go_simp); (try with_reducible rfl))
                    (try simp only [Act.put, List.setIfInBounds_toArray, List.set_cons_zero, List.set_cons_succ])
                    refine anyE_takeW (v := ?_) 9 rfl (by kernel_rfl) (by kernel_rfl) (by kernel_rfl) (by decide) (fun _ _ _ h => h) (Or.inl ⟨by rfl, ?_⟩) (by assumption) ?_
                    rotate_left
                    · ((intro w'); (try go_simp); (try with_reducible rfl))
                    (try simp only [Act.put, List.setIfInBounds_toArray, List.set_cons_zero, List.set_cons_succ])
                    refine anyE_takeW (v := ?_) 10 rfl (by kernel_rfl) (by kernel_rfl) (by kernel_rfl) (by decide) (fun _ _ _ h => h) (Or.inl ⟨by rfl, ?_⟩) (by assumption) ?_
                    rotate_left
                    · ((intro w'); (try go_simp); (try with_reducible rfl))
                    (try simp only [Act.put, List.setIfInBounds_toArray, List.set_cons_zero, List.set_cons_succ])
                    refine anyE_take (v := ?_) 11 rfl (by kernel_rfl) (by kernel_rfl) (by kernel_rfl) (by kernel_rfl) (by kernel_rfl) (fun _ _ _ h => h) (Or.inl ⟨by rfl, ?_⟩) (by assumption) ?_
                    rotate_left
                    · ((intro w' hSw); (try dsimp only at hSw); (try go_simp); (try with_reducible rfl))
                    (try simp only [Act.put, List.setIfInBounds_toArray, List.set_cons_zero, List.set_cons_succ])
                    refine anyE_takeW (v := ?_) 12 rfl (by kernel_rfl) (by kernel_rfl) (by kernel_rfl) (by decide) (fun _ _ _ h => h) (Or.inl ⟨by rfl, ?_⟩) (by assumption) ?_
                    rotate_left
                    · ((intro w'); (try go_simp); (try with_reducible rfl))
                    (try simp only [Act.put, List.setIfInBounds_toArray, List.set_cons_zero, List.set_cons_succ])
                    refine anyE_takeW (v := ?_) 13 rfl (by kernel_rfl) (by kernel_rfl) (by kernel_rfl) (by decide) (fun _ _ _ h => h) (Or.inl ⟨by rfl, ?_⟩) (by assumption) ?_
                    rotate_left
                    · ((intro w'); (try go_simp); (try with_reducible rfl))
                    (try simp only [Act.put, List.setIfInBounds_toArray, List.set_cons_zero, List.set_cons_succ])
                    refine anyE_take (v := ?_) 14 rfl (by kernel_rfl) (by kernel_rfl) (by kernel_rfl) (by kernel_rfl) (by kernel_rfl) (fun _ _ _ h => h) (Or.inl ⟨by rfl, ?_⟩) (by assumption) ?_
                    rotate_left
                    · ((intro w' hSw); (try dsimp only at hSw); (try go_simp); (try with_reducible rfl))
                    (try simp only [Act.put, List.setIfInBounds_toArray, List.set_cons_zero, List.set_cons_succ])
                    refine anyE_takeW (v := ?_) 15 rfl (by kernel_rfl) (by kernel_rfl) (by kernel_rfl) (by decide) (fun _ _ _ h => h) (Or.inl ⟨by rfl, ?_⟩) (by assumption) ?_
                    rotate_left
                    · ((intro w'); (try go_simp); (try with_reducible rfl))
                    (try simp only [Act.put, List.setIfInBounds_toArray, List.set_cons_zero, List.set_cons_succ])
                    refine anyE_takeW (v := ?_) 16 rfl (by kernel_rfl) (by kernel_rfl) (by kernel_rfl) (by decide) (fun _ _ _ h => h) (Or.inl ⟨by rfl, ?_⟩) (by assumption) ?_
                    rotate_left
                    · ((intro w'); (try go_simp); (try with_reducible rfl))
                    (try simp only [Act.put, List.setIfInBounds_toArray, List.set_cons_zero, List.set_cons_succ])
                    refine anyE_takeW (v := ?_) 17 rfl (by kernel_rfl) (by kernel_rfl) (by kernel_rfl) (by decide) (fun _ _ _ h => h) (Or.inl ⟨by rfl, ?_⟩) (by assumption) ?_
                    rotate_left
                    · ((intro w'); (try go_simp); (try with_reducible rfl))
                    (try simp only [Act.put, List.setIfInBounds_toArray, List.set_cons_zero, List.set_cons_succ])
                    refine anyE_take (v := ?_) 18 rfl (by kernel_rfl) (by kernel_rfl) (by kernel_rfl) (by kernel_rfl) (by kernel_rfl) (fun _ _ _ h => h) (Or.inl ⟨by rfl, ?_⟩) (by assumption) ?_
                    rotate_left
                    · ((intro w' hSw); (try dsimp only at hSw); (try go_simp); (try with_reducible rfl))
                    (try simp only [Act.put, List.setIfInBounds_toArray, List.set_cons_zero, List.set_cons_succ])
                    refine anyE_takeW (v := ?_) 19 rfl (by kernel_rfl) (by kernel_rfl) (by kernel_rfl) (by decide) (fun _ _ _ h => h) (Or.inl ⟨by rfl, ?_⟩) (by assumption) ?_
                    rotate_left
                    · ((intro w'); (try go_simp); (try with_reducible rfl))
                    (try simp only [Act.put, List.setIfInBounds_toArray, List.set_cons_zero, List.set_cons_succ])
                    refine anyE_takeW (v := ?_) 20 rfl (by kernel_rfl) (by kernel_rfl) (by kernel_rfl) (by decide) (fun _ _ _ h => h) (Or.inl ⟨by rfl, ?_⟩) (by assumption) ?_
                    rotate_left
                    · ((intro w'); (try go_simp); (try with_reducible rfl))
                    (try simp only [Act.put, List.setIfInBounds_toArray, List.set_cons_zero, List.set_cons_succ])
                    refine anyE_take (v := ?_) 21 rfl (by kernel_rfl) (by kernel_rfl) (by kernel_rfl) (by kernel_rfl) (by kernel_rfl) (fun _ _ _ h => h) (Or.inl ⟨by rfl, ?_⟩) (by assumption) ?_
                    rotate_left
                    · ((intro w' hSw); (try dsimp only at hSw); (try go_simp); (try with_reducible rfl))
                    (try simp only [Act.put, List.setIfInBounds_toArray, List.set_cons_zero, List.set_cons_succ])
                    refine anyE_takeW (v := .int .i64 (xe.tdiv ye)) 22 rfl (by kernel_rfl) (by kernel_rfl) (by kernel_rfl) (by decide) (fun _ _ _ h => h) (Or.inl ⟨by rfl, ?_⟩) (by assumption) ?_
                    · intro w'
                      exact quo_run w' xe ye (.tmp 114) (.tmp 121) 3 3 rfl (by simp [Act.eval]) (by simp [Act.eval]) hye0 hq1a hq1b
                    clear hye0 hq1a hq1b
                    (try simp only [Act.put, List.setIfInBounds_toArray, List.set_cons_zero, List.set_cons_succ])
                    refine anyE_last 23 (by kernel_rfl) (by kernel_rfl) (by kernel_rfl) rfl (fun K hK => ?_)
                    go_simp
                    (go_at_call 53; refine (HLS.out _ hHeld.2.2.2.2.out).mono ?_)
                    rintro e w7 ⟨rfl, hG7, hR7⟩
                    have HE6 := hHeld.2.2.2.2
                    go_wp2_with fail
                    refine hK.out _ _ ?_
                    clear hK K
                    (try simp only [Act.put, List.setIfInBounds_toArray, List.set_cons_zero, List.set_cons_succ])
                    -->R23
                    go_wp2_with fail
                    go_roundw
                    case rel => exact ⟨i4 + 1, _, by omega, by omega, by go_num, HGR.out _ _ HE6.out hG7, HSR.out _ _ HE6.out hG7 hR7, HST.out⟩
                    case measure => simp [intOf]; omega
                    -->E
                  · as_aux_lemma =>
                    --<F
                    have hi4 : i4 = i := by omega
                    subst hi4
                    have hms : d < ms.length := by rw [HLS0.out]; exact hld
                    have hDJ := HDJ.out
                    rw [← HLS0.out] at hDJ
                    have HRD := Lib.hid (HRS.out.down hms HPA.out HPM.out hDJ)
                    have hcs := colS_down HRS.out.wid hms HPA.out HPM.out hDJ (HOT.out (by first | trivial | rfl))
                    have HCJ : Hid (colS c mj < f) := by have := HCS.out; unfold Hid; omega
                    have HAJ : Hid (mj = m1 ∨ ∃ k, d ≤ k ∧ k < mj.length ∧ getE mj k c ≠ 0) := .inr ⟨d, Nat.le_refl _, by rw [HLJ.out]; exact hld, by unfold getE; rw [hDJ.2.2 d (.inl (Nat.le_refl _))]; exact HPA.out⟩
                    clear hDJ hcs HDJ HRS HPA HPM HOT HON HCS hms
                    go_wp2_with fail
                    go_roundg f
                    case measure => omega
                    case rel => exact ⟨mj, swapL tags2 d a, rfl, HGJ.out, HFJ.out, HRD.out, HCJ.out, HAJ.out⟩
                    -->F
    · as_aux_lemma =>
      --<G
      have hend : c = n ∨ d = m1.length := by rw [HL1.out]; omega
      obtain ⟨ps, hH, hS⟩ := HC.out.done hend
      have HH := Lib.hid hH; have HS := Lib.hid hS
      have HEX : Hid (Ext w wo) := Below.trans HE1.out (HG.out.below HE1.out.size HGB.out)
      clear hH hS hend
      by_cases hcn : c < n
      · have hdL : ¬ d < L := fun h => hlt ⟨hcn, h⟩
        clear hlt
        go_wp2_with fail
        go_ret
        exact ⟨_, m1, d, ps, g0, cap, rfl, HH.out, HS.out, ⟨rfl, tags1, HFA.out.1, by rw [HL1.out]; exact hd, by rw [HL1.out]; exact hcap, HC2.out, fun b hb => HGB.out b (HFA.out.blocks hb)⟩, HEX.out⟩
      · clear hlt
        go_wp2_with fail
        go_ret
        exact ⟨_, m1, d, ps, g0, cap, rfl, HH.out, HS.out, ⟨rfl, tags1, HFA.out.1, by rw [HL1.out]; exact hd, by rw [HL1.out]; exact hcap, HC2.out, fun b hb => HGB.out b (HFA.out.blocks hb)⟩, HEX.out⟩
      -->G
end Go.Proofs.YtjihfabhgcfjnaaGreatDoor
