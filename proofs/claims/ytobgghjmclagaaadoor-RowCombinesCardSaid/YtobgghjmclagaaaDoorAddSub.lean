/- Contracts of package row: Add, Sub. Printed by wip/gen/addsub.py. -/
import Derived.Test.YtobgghjmclagaaaDoorDot
import Derived.Test.YtobgghjmclagaaaDoorRowB
import Derived.Laws.AppendOwn
namespace Go.Proofs.YtobgghjmclagaaaDoor
set_option linter.unusedVariables false
set_option linter.unusedSimpArgs false
open Go.RowKit Go.Shelf
attribute [local go_sem] Oper.semAt_some

def opOn {len : Nat} (f : Int → Int → Int) (xs ys : List Int) (pre : List (Fin len)) : List Int := pre.map fun x => f (xs[x.val]?.getD 0) (ys[x.val]?.getD 0)
theorem opOn_snoc {len : Nat} (f : Int → Int → Int) (xs ys : List Int) (pre : List (Fin len)) (x : Fin len) : opOn f xs ys (pre ++ [x]) = opOn f xs ys pre ++ [f (xs[x.val]?.getD 0) (ys[x.val]?.getD 0)] := by
  unfold opOn; rw [List.map_append]; rfl
theorem opOn_len {len : Nat} (f : Int → Int → Int) (xs ys : List Int) (pre : List (Fin len)) : (opOn f xs ys pre).length = pre.length := by simp [opOn]
theorem opOn_all (f : Int → Int → Int) (xs ys : List Int) (len : Nat) (hx : xs.length = len) (hy : ys.length = len) : opOn f xs ys (fsts len len) = List.zipWith f xs ys := by
  unfold opOn
  rw [fsts_map (fun j => f (xs[j]?.getD 0) (ys[j]?.getD 0))]
  apply List.ext_getElem
  · simp [hx, hy]
  · intro i h1 h2
    have hi : i < len := by simpa using h1
    simp [List.getElem?_eq_getElem (show i < xs.length by omega), List.getElem?_eq_getElem (show i < ys.length by omega)]
def opE (f : Int → Int → Int) (xs ys : List Int) : Int := if bothE xs ys = 0 then rowE (List.zipWith f xs ys) else bothE xs ys
theorem opE_cases (f : Int → Int → Int) (xs ys : List Int) : opE f xs ys = 0 ∨ opE f xs ys = 4 ∨ opE f xs ys = 5 := by
  unfold opE; split
  · rcases rowE_four (List.zipWith f xs ys) with h | h
    · exact .inl h
    · exact .inr (.inl h)
  · exact bothE_cases xs ys
theorem zip_bd (f : Int → Int → Int) (hf : ∀ a b, -1000000000 ≤ a → a ≤ 1000000000 → -1000000000 ≤ b → b ≤ 1000000000 → -2000000000 ≤ f a b ∧ f a b ≤ 2000000000) : ∀ (xs ys : List Int), (∀ x ∈ xs, -1000000000 ≤ x ∧ x ≤ 1000000000) → (∀ x ∈ ys, -1000000000 ≤ x ∧ x ≤ 1000000000) → ∀ x ∈ List.zipWith f xs ys, -9223372036854775808 ≤ x ∧ x ≤ 9223372036854775807
  | [], _, _, _ => by simp
  | _ :: _, [], _, _ => by simp
  | x :: xs, y :: ys, hx, hy => by
    intro z hz
    rw [List.zipWith_cons_cons] at hz
    rcases List.mem_cons.1 hz with rfl | hz
    · have := hf x y (hx x (by simp)).1 (hx x (by simp)).2 (hy y (by simp)).1 (hy y (by simp)).2
      omega
    · exact zip_bd f hf xs ys (fun a ha => hx a (by simp [ha])) (fun a ha => hy a (by simp [ha])) z hz


set_option maxRecDepth 100000 in
set_option maxHeartbeats 4000000 in
theorem add_any (xs ys : List Int) (u v : Value) (w : World) (h : Ints w u xs) (k : Ints w v ys) :
    Calls Tryd.prog 28 #[u, v] w fun e w' => ∃ r, e = .returned (.tuple #[r, .int .i64 (opE (· + ·) xs ys)]) ∧ Ext w w' ∧ (opE (· + ·) xs ys = 0 → Ints w' r (List.zipWith (· + ·) xs ys)) ∧ (¬ opE (· + ·) xs ys = 0 → r = .slice none 0 0) := by
  have HB := Lib.hid (both_any xs ys u v w h k)
  obtain ⟨a, ca, rfl, hca, hca2, -, -, hxc⟩ := h.open
  obtain ⟨b, cb, rfl, hcb, hcb2, -, -, hyc⟩ := k.open
  have HXC := Lib.hid hxc; have HYC := Lib.hid hyc
  clear h k hxc hyc
  refine (callsIn_wide (n := 9)).1 ?_
  refine callsIn_of_wp_marks Tryd.func28 rfl trivial ?_ rfl
  simp only [Tryd.ntmps28, List.size_toArray, List.length_cons, List.length_nil, Nat.reduceAdd, Nat.reduceSub, Array.replicate_succ, Array.replicate_zero, List.push_toArray, List.append_toArray, List.nil_append, List.cons_append]
  by_cases hb : bothE xs ys = 0
  · obtain ⟨ok1, ok2, hl⟩ := bothE_zero hb
    have HOK := Lib.hid (And.intro ok1 ok2)
    have h64 := ok1.1
    have HQE : Hid (opE (· + ·) xs ys = rowE (List.zipWith (· + ·) xs ys)) := by unfold Hid opE; rw [if_pos hb]
    rw [HQE.out]
    obtain ⟨n, hn⟩ : ∃ n, xs.length = n := ⟨_, rfl⟩
    have hn2 : ys.length = n := by omega
    have HN := Lib.hid (And.intro hn hn2)
    rw [hn] at hca h64 HB
    rw [hn2] at hcb HB
    rw [hn, hn2]
    rw [hb] at HB
    obtain ⟨i0, hi, hz0, hz1, hz2⟩ := info_parts infoInt
    have HI := Lib.hid hi; have HZ0 := Lib.hid hz0; have HZ1 := Lib.hid hz1; have HZ2 := Lib.hid hz2
    clear ok1 ok2 hl hn hn2 hb hi hz0 hz1 hz2 HQE
    gi_wp2_with fail
    refine ⟨trivial, ?_⟩
    refine (callsIn_wide.2 HB.out).mono ?_
    rintro e w1 ⟨rfl, hE1⟩
    have HE1 := Lib.hid hE1
    clear HB hE1
    gi_wp2_with (gi_at_make; refine wpListIn_make_own _ rfl _ _ 23 rfl w1.heap.size 3 i0 (.int .i64 0) 1 Tryd.underlying23 HI.out HZ0.out HZ1.out _ _ _ n rfl rfl rfl ?c1 ?c2 ?c3 ?_)
    any_goals (first | (rw [HZ2.out]; omega) | (unfold maxLen; omega) | exact Nat.le_refl _)
    intro w2 hown2 hgrow2
    have HOWN2 := Lib.hid (owns_base hown2 HE1.out.size)
    have HE2 := Lib.hid (Ext.trans HE1.out (ext_grown hgrow2))
    clear hown2 hgrow2
    gi_wp2_with fail
    refine ⟨trivial, ?_⟩
    refine (callsIn_wide.2 (pairs_any _ _ a b n ca n cb rfl rfl _)).mono ?_
    rintro e w3 ⟨rfl, hw3⟩
    gi_wp2_with fail
    have hs3 : w3.heap.size = w2.heap.size + 3 := by rw [hw3]; simp
    have hE3 : Ext w2 w3 := by rw [hw3]; exact (Ext.alloc _ _).trans ((Ext.alloc _ _).trans (Ext.alloc _ _))
    have hb0 : Boxed w3 w2.heap.size 23 (.slice (some ⟨w1.heap.size, 0, none⟩) 0 n) := by rw [hw3]; exact Boxed.alloc (Boxed.alloc (Boxed.new _ _ _) _) _
    have hbx1 : Boxed w3 (w2.heap.size + 1) 23 (.slice a n ca) := by
      rw [hw3]
      have := Boxed.alloc (Boxed.new (w2.alloc (.cells #[.slice (some ⟨w1.heap.size, 0, none⟩) 0 n] 23)) 23 (.slice a n ca)) (.cells #[.slice b n cb] 23)
      simpa using this
    have hbx2 : Boxed w3 (w2.heap.size + 2) 23 (.slice b n cb) := by
      rw [hw3]
      have := Boxed.new ((w2.alloc (.cells #[.slice (some ⟨w1.heap.size, 0, none⟩) 0 n] 23)).alloc (.cells #[.slice a n ca] 23)) 23 (.slice b n cb)
      simpa using this
    rw [← hw3]
    clear hw3
    have HOWN3 := Lib.hid (owns_ext HOWN2.out hE3)
    have HE3 := Lib.hid (Ext.trans HE2.out hE3)
    have hsz := HE2.out.size
    have h13 : w2.heap.size ≤ w3.heap.size := hE3.size
    refine wpIn_rangeFunc_ownG rfl (by omega) (gf := 82) (lb := #[.pointer (some ⟨w2.heap.size + 1, 0, none⟩), .pointer (some ⟨w2.heap.size + 1 + 1, 0, none⟩)]) rfl trivial (enters_of Tryd.func82 (by kernel_rfl) rfl)
      (pairs_stops Fence.wide (9 - 1) trivial rfl (by omega) (w2.heap.size + 1) (w2.heap.size + 1 + 1) w.heap.size n ca cb a b xs ys HN.out.1 HN.out.2 (by omega) hca hca2 hcb hcb2 w3 hbx1 hbx2
        (fun h => by
          obtain ⟨bb, off, h1, h2, h3⟩ := HXC.out (by intro e; have := HN.out.1; rw [e] at this; simp at this; omega)
          exact ⟨bb, off, h1, h2, fun j u hu => HE3.out.cell (h3 j u hu)⟩)
        (fun h => by
          obtain ⟨bb, off, h1, h2, h3⟩ := HYC.out (by intro e; have := HN.out.2; rw [e] at this; simp at this; omega)
          exact ⟨bb, off, h1, h2, fun j u hu => HE3.out.cell (h3 j u hu)⟩))
      (fun h k => PairK.trans h k) ?kb (Below.refl _ _) (fun _ => rfl)
      (fun pre W => (∃ v, Boxed W w2.heap.size 23 v ∧ W.ownsRow w.heap.size 3 1 v pre.length ((opOn (· + ·) xs ys pre).map (Value.int .i64)) ∧ True) ∧ Below w.heap.size w W)
      (fun _ _ _ => False) ?own (fun _ _ _ _ _ hs _ _ => hs) ⟨⟨_, hb0, by simpa [opOn] using HOWN3.out, trivial⟩, HE3.out⟩ ?a1 ?assign ?body ?done ?stop
    case assign =>
      intro l x W K hK
      gi_wp2
      exact hK
    case kb =>
      intro W l o o' hl hW hc hw
      exact ⟨belowK_b (w := w3) (by omega) W l o o' hl hW hc hw, fun v hv => cells_own (n := 0) hv (grownBy_putObj' W l o') (fun r e => by cases e; exact ⟨Nat.zero_le _, o, hW, hc⟩), fun v hv => cells_own (n := 0) hv (grownBy_putObj' W l o') (fun r e => by cases e; exact ⟨Nat.zero_le _, o, hW, hc⟩)⟩
    case own =>
      exact OwnFrom.and (Own.from (holdsRow_own w.heap.size w2.heap.size 23 3 1 (fun pre => pre.length) (fun pre => (opOn (· + ·) xs ys pre).map (Value.int .i64)) (fun _ _ => True)) _) (ownFrom_below (Nat.le_refl _) (by omega))
    case stop =>
      rintro D cc pre W _ _ h _
      exact h.elim
    case body =>
      rintro l pre x W ⟨⟨vo, hv, hrow, -⟩, hB⟩ hlt
      have hxn : x.val < n := x.isLt
      obtain ⟨p, hp⟩ : ∃ p, xs[x.val]? = some p := ⟨_, List.getElem?_eq_getElem (by have := HN.out.1; omega)⟩
      obtain ⟨q, hq⟩ : ∃ q, ys[x.val]? = some q := ⟨_, List.getElem?_eq_getElem (by have := HN.out.2; omega)⟩
      obtain ⟨p1, p2⟩ := HOK.out.1.2 p (List.mem_of_getElem? hp)
      obtain ⟨q1, q2⟩ := HOK.out.2.2 q (List.mem_of_getElem? hq)
      have HSN : Hid (opOn (· + ·) xs ys (pre ++ [x]) = opOn (· + ·) xs ys pre ++ [p + q]) := by unfold Hid; rw [opOn_snoc, hp, hq]; rfl
      have qw : IntKind.i64.wrap (p + q) = p + q := by rw [IntKind.wrap_i64]; omega
      have hc := hv.cell
      have hpl : pre.length < n := by omega
      simp only [pairEnc, hp, hq, Option.getD_some]
      clear hp hq p1 p2 q1 q2
      gi_wp2_with (gi_at_builtin; refine wpListIn_append_own _ rfl _ _ 23 rfl w.heap.size 3 i0 (.int .i64 0) 1 8 Tryd.underlying23 HI.out HZ0.out HZ1.out HZ2.out rfl (by decide) _ _ _ rfl (hrow.alloc _) ⟨W.heap.size, 0, none⟩ 1 1 [.int .i64 (p + q)] rfl rfl (cell_one_new _ _ _) (by simp [Value.oneCell']) (by unfold maxLen; omega) (by omega) (by have := hB.size; simp; omega) ?_; intro v' w5 hown' hgrow _; obtain ⟨g', cap', rfl⟩ := ownsRow_succ hown'; obtain ⟨hv1, hv2, hr2, hk2, hb2⟩ := hv.appended (by decide) hrow hB.size (by omega) hown' hgrow; have hc1 := hv1.cell; have hf1 := hv1.frozen; have HG := Lib.hid hgrow)
      refine ⟨hk2.from _, ⟨hb2, fun v hv' => ?_, fun v hv' => ?_⟩, ⟨_, hv2, by rw [HSN.out]; simpa using hr2⟩, hB.trans hb2⟩
      · exact ((hv'.alloc _).kept HG.out (hv'.not_row (by decide) hrow)).other (by omega) _
      · exact ((hv'.alloc _).kept HG.out (hv'.not_row (by decide) hrow)).other (by omega) _
    case done =>
      rintro D zs W hD rfl ⟨⟨vo, hv, hrow, -⟩, hB⟩ hK
      rw [opOn_all (· + ·) xs ys n HN.out.1 HN.out.2, fsts_length (Nat.le_refl n)] at hrow
      have hc := hv.cell
      have hzl : (List.zipWith (· + ·) xs ys).length = n := by rw [List.length_zipWith, HN.out.1, HN.out.2]; omega
      have HZB := Lib.hid (zip_bd (· + ·) (fun a b _ _ _ _ => by omega) xs ys HOK.out.1.2 HOK.out.2.2)
      have hI : Ints W vo (List.zipWith (· + ·) xs ys) := Ints.of_owns (by rw [hzl]; exact hrow) HZB.out
      have HV := Lib.hid (result_any _ _ W hI)
      have HI2 := Lib.hid (And.intro hB hrow)
      have HZL := Lib.hid hzl
      have HK := Lib.hid hK
      clear hI hB hrow hK hzl
      gi_wp2_with fail
      refine ⟨trivial, ?_⟩
      refine (callsIn_wide.2 HV.out).mono ?_
      rintro e W2 ⟨r, rfl, hE, hr0, hr1⟩
      have HK2 := Lib.hid (block_ext HK.out hE)
      have HW2 := Lib.hid (Below.trans HI2.out.1 (Below.mono hE HI2.out.1.size))
      have HO2 := Lib.hid (owns_ext HI2.out.2 hE)
      have HR := Lib.hid (And.intro hr0 hr1)
      clear hE hc HV hr0 hr1
      have hsD : w.heap.size ≤ D := by omega
      gi_wp2_with fail
      refine ⟨by simp, .inl ⟨_, _, rfl, run_takeDeferred HK2.out, ?_⟩⟩
      refine ⟨_, results_tmp2 rfl _ _ _, _, rfl, ?_, fun h0 => ?_, HR.out.2⟩
      · exact below_byRow HW2.out (grownBy_putObj' W2 D _) HW2.out.size (fun j e => by cases e; exact hsD)
      · show Ints _ r _
        rw [HR.out.1 h0]
        exact Ints.of_owns (by rw [HZL.out]; exact ownsRow_putObj HO2.out _ HK2.out rfl) HZB.out
  · have HQ : Hid (opE (· + ·) xs ys = bothE xs ys) := by unfold Hid opE; rw [if_neg hb]
    rw [HQ.out]
    clear HQ
    rcases (bothE_cases xs ys).resolve_left hb with h4 | h4
    all_goals
      rw [h4] at HB ⊢
      clear hb h4
      gi_wp2_with fail
      refine ⟨trivial, ?_⟩
      refine (callsIn_wide.2 HB.out).mono ?_
      rintro e w1 ⟨rfl, hE1⟩
      have HE1 := Lib.hid hE1
      clear HB hE1
      gi_wp2_with fail
      exact ⟨_, results_tmp2 rfl _ _ _, _, rfl, HE1.out, by simp, fun _ => rfl⟩

set_option maxRecDepth 100000 in
set_option maxHeartbeats 4000000 in
theorem sub_any (xs ys : List Int) (u v : Value) (w : World) (h : Ints w u xs) (k : Ints w v ys) :
    Calls Tryd.prog 29 #[u, v] w fun e w' => ∃ r, e = .returned (.tuple #[r, .int .i64 (opE (· - ·) xs ys)]) ∧ Ext w w' ∧ (opE (· - ·) xs ys = 0 → Ints w' r (List.zipWith (· - ·) xs ys)) ∧ (¬ opE (· - ·) xs ys = 0 → r = .slice none 0 0) := by
  have HB := Lib.hid (both_any xs ys u v w h k)
  obtain ⟨a, ca, rfl, hca, hca2, -, -, hxc⟩ := h.open
  obtain ⟨b, cb, rfl, hcb, hcb2, -, -, hyc⟩ := k.open
  have HXC := Lib.hid hxc; have HYC := Lib.hid hyc
  clear h k hxc hyc
  refine (callsIn_wide (n := 9)).1 ?_
  refine callsIn_of_wp_marks Tryd.func29 rfl trivial ?_ rfl
  simp only [Tryd.ntmps29, List.size_toArray, List.length_cons, List.length_nil, Nat.reduceAdd, Nat.reduceSub, Array.replicate_succ, Array.replicate_zero, List.push_toArray, List.append_toArray, List.nil_append, List.cons_append]
  by_cases hb : bothE xs ys = 0
  · obtain ⟨ok1, ok2, hl⟩ := bothE_zero hb
    have HOK := Lib.hid (And.intro ok1 ok2)
    have h64 := ok1.1
    have HQE : Hid (opE (· - ·) xs ys = rowE (List.zipWith (· - ·) xs ys)) := by unfold Hid opE; rw [if_pos hb]
    rw [HQE.out]
    obtain ⟨n, hn⟩ : ∃ n, xs.length = n := ⟨_, rfl⟩
    have hn2 : ys.length = n := by omega
    have HN := Lib.hid (And.intro hn hn2)
    rw [hn] at hca h64 HB
    rw [hn2] at hcb HB
    rw [hn, hn2]
    rw [hb] at HB
    obtain ⟨i0, hi, hz0, hz1, hz2⟩ := info_parts infoInt
    have HI := Lib.hid hi; have HZ0 := Lib.hid hz0; have HZ1 := Lib.hid hz1; have HZ2 := Lib.hid hz2
    clear ok1 ok2 hl hn hn2 hb hi hz0 hz1 hz2 HQE
    gi_wp2_with fail
    refine ⟨trivial, ?_⟩
    refine (callsIn_wide.2 HB.out).mono ?_
    rintro e w1 ⟨rfl, hE1⟩
    have HE1 := Lib.hid hE1
    clear HB hE1
    gi_wp2_with (gi_at_make; refine wpListIn_make_own _ rfl _ _ 23 rfl w1.heap.size 3 i0 (.int .i64 0) 1 Tryd.underlying23 HI.out HZ0.out HZ1.out _ _ _ n rfl rfl rfl ?c1 ?c2 ?c3 ?_)
    any_goals (first | (rw [HZ2.out]; omega) | (unfold maxLen; omega) | exact Nat.le_refl _)
    intro w2 hown2 hgrow2
    have HOWN2 := Lib.hid (owns_base hown2 HE1.out.size)
    have HE2 := Lib.hid (Ext.trans HE1.out (ext_grown hgrow2))
    clear hown2 hgrow2
    gi_wp2_with fail
    refine ⟨trivial, ?_⟩
    refine (callsIn_wide.2 (pairs_any _ _ a b n ca n cb rfl rfl _)).mono ?_
    rintro e w3 ⟨rfl, hw3⟩
    gi_wp2_with fail
    have hs3 : w3.heap.size = w2.heap.size + 3 := by rw [hw3]; simp
    have hE3 : Ext w2 w3 := by rw [hw3]; exact (Ext.alloc _ _).trans ((Ext.alloc _ _).trans (Ext.alloc _ _))
    have hb0 : Boxed w3 w2.heap.size 23 (.slice (some ⟨w1.heap.size, 0, none⟩) 0 n) := by rw [hw3]; exact Boxed.alloc (Boxed.alloc (Boxed.new _ _ _) _) _
    have hbx1 : Boxed w3 (w2.heap.size + 1) 23 (.slice a n ca) := by
      rw [hw3]
      have := Boxed.alloc (Boxed.new (w2.alloc (.cells #[.slice (some ⟨w1.heap.size, 0, none⟩) 0 n] 23)) 23 (.slice a n ca)) (.cells #[.slice b n cb] 23)
      simpa using this
    have hbx2 : Boxed w3 (w2.heap.size + 2) 23 (.slice b n cb) := by
      rw [hw3]
      have := Boxed.new ((w2.alloc (.cells #[.slice (some ⟨w1.heap.size, 0, none⟩) 0 n] 23)).alloc (.cells #[.slice a n ca] 23)) 23 (.slice b n cb)
      simpa using this
    rw [← hw3]
    clear hw3
    have HOWN3 := Lib.hid (owns_ext HOWN2.out hE3)
    have HE3 := Lib.hid (Ext.trans HE2.out hE3)
    have hsz := HE2.out.size
    have h13 : w2.heap.size ≤ w3.heap.size := hE3.size
    refine wpIn_rangeFunc_ownG rfl (by omega) (gf := 82) (lb := #[.pointer (some ⟨w2.heap.size + 1, 0, none⟩), .pointer (some ⟨w2.heap.size + 1 + 1, 0, none⟩)]) rfl trivial (enters_of Tryd.func82 (by kernel_rfl) rfl)
      (pairs_stops Fence.wide (9 - 1) trivial rfl (by omega) (w2.heap.size + 1) (w2.heap.size + 1 + 1) w.heap.size n ca cb a b xs ys HN.out.1 HN.out.2 (by omega) hca hca2 hcb hcb2 w3 hbx1 hbx2
        (fun h => by
          obtain ⟨bb, off, h1, h2, h3⟩ := HXC.out (by intro e; have := HN.out.1; rw [e] at this; simp at this; omega)
          exact ⟨bb, off, h1, h2, fun j u hu => HE3.out.cell (h3 j u hu)⟩)
        (fun h => by
          obtain ⟨bb, off, h1, h2, h3⟩ := HYC.out (by intro e; have := HN.out.2; rw [e] at this; simp at this; omega)
          exact ⟨bb, off, h1, h2, fun j u hu => HE3.out.cell (h3 j u hu)⟩))
      (fun h k => PairK.trans h k) ?kb (Below.refl _ _) (fun _ => rfl)
      (fun pre W => (∃ v, Boxed W w2.heap.size 23 v ∧ W.ownsRow w.heap.size 3 1 v pre.length ((opOn (· - ·) xs ys pre).map (Value.int .i64)) ∧ True) ∧ Below w.heap.size w W)
      (fun _ _ _ => False) ?own (fun _ _ _ _ _ hs _ _ => hs) ⟨⟨_, hb0, by simpa [opOn] using HOWN3.out, trivial⟩, HE3.out⟩ ?a1 ?assign ?body ?done ?stop
    case assign =>
      intro l x W K hK
      gi_wp2
      exact hK
    case kb =>
      intro W l o o' hl hW hc hw
      exact ⟨belowK_b (w := w3) (by omega) W l o o' hl hW hc hw, fun v hv => cells_own (n := 0) hv (grownBy_putObj' W l o') (fun r e => by cases e; exact ⟨Nat.zero_le _, o, hW, hc⟩), fun v hv => cells_own (n := 0) hv (grownBy_putObj' W l o') (fun r e => by cases e; exact ⟨Nat.zero_le _, o, hW, hc⟩)⟩
    case own =>
      exact OwnFrom.and (Own.from (holdsRow_own w.heap.size w2.heap.size 23 3 1 (fun pre => pre.length) (fun pre => (opOn (· - ·) xs ys pre).map (Value.int .i64)) (fun _ _ => True)) _) (ownFrom_below (Nat.le_refl _) (by omega))
    case stop =>
      rintro D cc pre W _ _ h _
      exact h.elim
    case body =>
      rintro l pre x W ⟨⟨vo, hv, hrow, -⟩, hB⟩ hlt
      have hxn : x.val < n := x.isLt
      obtain ⟨p, hp⟩ : ∃ p, xs[x.val]? = some p := ⟨_, List.getElem?_eq_getElem (by have := HN.out.1; omega)⟩
      obtain ⟨q, hq⟩ : ∃ q, ys[x.val]? = some q := ⟨_, List.getElem?_eq_getElem (by have := HN.out.2; omega)⟩
      obtain ⟨p1, p2⟩ := HOK.out.1.2 p (List.mem_of_getElem? hp)
      obtain ⟨q1, q2⟩ := HOK.out.2.2 q (List.mem_of_getElem? hq)
      have HSN : Hid (opOn (· - ·) xs ys (pre ++ [x]) = opOn (· - ·) xs ys pre ++ [p - q]) := by unfold Hid; rw [opOn_snoc, hp, hq]; rfl
      have qw : IntKind.i64.wrap (p - q) = p - q := by rw [IntKind.wrap_i64]; omega
      have hc := hv.cell
      have hpl : pre.length < n := by omega
      simp only [pairEnc, hp, hq, Option.getD_some]
      clear hp hq p1 p2 q1 q2
      gi_wp2_with (gi_at_builtin; refine wpListIn_append_own _ rfl _ _ 23 rfl w.heap.size 3 i0 (.int .i64 0) 1 8 Tryd.underlying23 HI.out HZ0.out HZ1.out HZ2.out rfl (by decide) _ _ _ rfl (hrow.alloc _) ⟨W.heap.size, 0, none⟩ 1 1 [.int .i64 (p - q)] rfl rfl (cell_one_new _ _ _) (by simp [Value.oneCell']) (by unfold maxLen; omega) (by omega) (by have := hB.size; simp; omega) ?_; intro v' w5 hown' hgrow _; obtain ⟨g', cap', rfl⟩ := ownsRow_succ hown'; obtain ⟨hv1, hv2, hr2, hk2, hb2⟩ := hv.appended (by decide) hrow hB.size (by omega) hown' hgrow; have hc1 := hv1.cell; have hf1 := hv1.frozen; have HG := Lib.hid hgrow)
      refine ⟨hk2.from _, ⟨hb2, fun v hv' => ?_, fun v hv' => ?_⟩, ⟨_, hv2, by rw [HSN.out]; simpa using hr2⟩, hB.trans hb2⟩
      · exact ((hv'.alloc _).kept HG.out (hv'.not_row (by decide) hrow)).other (by omega) _
      · exact ((hv'.alloc _).kept HG.out (hv'.not_row (by decide) hrow)).other (by omega) _
    case done =>
      rintro D zs W hD rfl ⟨⟨vo, hv, hrow, -⟩, hB⟩ hK
      rw [opOn_all (· - ·) xs ys n HN.out.1 HN.out.2, fsts_length (Nat.le_refl n)] at hrow
      have hc := hv.cell
      have hzl : (List.zipWith (· - ·) xs ys).length = n := by rw [List.length_zipWith, HN.out.1, HN.out.2]; omega
      have HZB := Lib.hid (zip_bd (· - ·) (fun a b _ _ _ _ => by omega) xs ys HOK.out.1.2 HOK.out.2.2)
      have hI : Ints W vo (List.zipWith (· - ·) xs ys) := Ints.of_owns (by rw [hzl]; exact hrow) HZB.out
      have HV := Lib.hid (result_any _ _ W hI)
      have HI2 := Lib.hid (And.intro hB hrow)
      have HZL := Lib.hid hzl
      have HK := Lib.hid hK
      clear hI hB hrow hK hzl
      gi_wp2_with fail
      refine ⟨trivial, ?_⟩
      refine (callsIn_wide.2 HV.out).mono ?_
      rintro e W2 ⟨r, rfl, hE, hr0, hr1⟩
      have HK2 := Lib.hid (block_ext HK.out hE)
      have HW2 := Lib.hid (Below.trans HI2.out.1 (Below.mono hE HI2.out.1.size))
      have HO2 := Lib.hid (owns_ext HI2.out.2 hE)
      have HR := Lib.hid (And.intro hr0 hr1)
      clear hE hc HV hr0 hr1
      have hsD : w.heap.size ≤ D := by omega
      gi_wp2_with fail
      refine ⟨by simp, .inl ⟨_, _, rfl, run_takeDeferred HK2.out, ?_⟩⟩
      refine ⟨_, results_tmp2 rfl _ _ _, _, rfl, ?_, fun h0 => ?_, HR.out.2⟩
      · exact below_byRow HW2.out (grownBy_putObj' W2 D _) HW2.out.size (fun j e => by cases e; exact hsD)
      · show Ints _ r _
        rw [HR.out.1 h0]
        exact Ints.of_owns (by rw [HZL.out]; exact ownsRow_putObj HO2.out _ HK2.out rfl) HZB.out
  · have HQ : Hid (opE (· - ·) xs ys = bothE xs ys) := by unfold Hid opE; rw [if_neg hb]
    rw [HQ.out]
    clear HQ
    rcases (bothE_cases xs ys).resolve_left hb with h4 | h4
    all_goals
      rw [h4] at HB ⊢
      clear hb h4
      gi_wp2_with fail
      refine ⟨trivial, ?_⟩
      refine (callsIn_wide.2 HB.out).mono ?_
      rintro e w1 ⟨rfl, hE1⟩
      have HE1 := Lib.hid hE1
      clear HB hE1
      gi_wp2_with fail
      exact ⟨_, results_tmp2 rfl _ _ _, _, rfl, HE1.out, by simp, fun _ => rfl⟩
end Go.Proofs.YtobgghjmclagaaaDoor
