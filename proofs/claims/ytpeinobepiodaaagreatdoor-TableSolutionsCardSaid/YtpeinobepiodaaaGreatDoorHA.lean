/- Merged: LawsP, SolP, Sol0, SolQ. -/
import Derived.Test.YtpeinobepiodaaaGreatDoorGY
import Derived.Test.YtpeinobepiodaaaGreatDoorGW
import Derived.Test.YtpeinobepiodaaaGreatDoorGL
import Derived.Test.YtpeinobepiodaaaGreatDoorGU
import Derived.Laws.AppendOwnNone
import Derived.Test.YtpeinobepiodaaaGreatDoorMaRanksT
/- The determinant of a product, of the transposed matrix, of a matrix with two rows exchanged (plain). -/
namespace Go.Proofs.YtpeinobepiodaaaGreatDoor
set_option linter.unusedVariables false
set_option linter.unusedSimpArgs false
open Go.RowKit

/-- A matrix times another one, by its rows. -/
def mulF (n : Nat) (Y M : Nat → Nat → Rat) : Nat → Nat → Rat := fun a b => sumQ n fun l => M a l * Y l b
theorem mulF_upd (n : Nat) (Y M : Nat → Nat → Rat) (r : Nat) (u : Nat → Rat) : mulF n Y (updR M r u) = updR (mulF n Y M) r fun b => sumQ n fun l => u l * Y l b := by
  funext a b
  unfold mulF updR
  by_cases h : a = r
  · simp only [h, if_true]
  · simp only [h, if_false]
theorem mul_form (n : Nat) (Y : Nat → Nat → Rat) : RowForm n fun M => detF n (mulF n Y M) where
  congr := fun M N h => detF_congr fun a b ha _ => sumQ_congr fun l _ => by rw [h a l ha]
  swap := fun M i j h1 h2 => detF_swap (mulF n Y M) h1 h2
  scale := fun M r c hr => by
    show detF n (mulF n Y (updR M r fun b => c * M r b)) = c * detF n (mulF n Y M)
    rw [mulF_upd]
    have : (fun b => sumQ n fun l => c * M r l * Y l b) = fun b => c * mulF n Y M r b := by
      funext b
      unfold mulF
      rw [← sumQ_mul]
      exact sumQ_congr fun l _ => by grind
    rw [this, detF_scale _ hr]
  add := fun M r s c h1 h2 h3 => by
    show detF n (mulF n Y (updR M r fun b => M r b + c * M s b)) = detF n (mulF n Y M)
    rw [mulF_upd]
    have : (fun b => sumQ n fun l => (M r l + c * M s l) * Y l b) = fun b => mulF n Y M r b + c * mulF n Y M s b := by
      funext b
      unfold mulF
      rw [← sumQ_mul, ← sumQ_add]
      exact sumQ_congr fun l _ => by grind
    rw [this, detF_addmul _ h1 h2 h3]
theorem detF_mul {n : Nat} {m : List (List Rat)} (hR : Rect n m) (hl : m.length = n) (Y : Nat → Nat → Rat) : detF n (mulF n Y (elQ m)) = detF n (elQ m) * detF n Y := by
  have h := red_form hR hl (mul_form n Y) (fun M ⟨r, hr, h0⟩ => detF_zero_row hr fun b hb => by
      unfold mulF
      rw [← sumQ_zero n]
      exact sumQ_congr fun l hl => by rw [h0 l hl]; grind)
    (fun M N h => detF_congr fun a b ha hb => sumQ_congr fun l hl => by rw [h a l ha hl])
  have h1 : detF n (mulF n Y fun a b => if a = b then 1 else 0) = detF n Y := detF_congr fun a b ha hb => by
    unfold mulF
    rw [sumQ_one ha (fun l hl hne => by
      show (if a = l then (1 : Rat) else 0) * Y l b = 0
      rw [if_neg (by omega)]; grind)]
    show (if a = a then (1 : Rat) else 0) * Y a b = Y a b
    rw [if_pos rfl]; grind
  rw [← red_det hR hl]
  rw [h1] at h
  exact h
theorem dotN_cast (f : Nat → Int × Int) : ∀ n, ((dotN f n : Int) : Rat) = sumQ n fun l => ((f l).1 : Rat) * ((f l).2 : Rat)
  | 0 => rfl
  | n + 1 => by
    show ((dotN f n + (f n).1 * (f n).2 : Int) : Rat) = sumQ n _ + _
    rw [← dotN_cast f n, Rat.intCast_add, Rat.intCast_mul]
theorem rowQ_elI {xss : List (List Int)} {i j : Nat} {r : List Int} (h : xss[i]? = some r) : elI xss i j = r.getD j 0 := by
  unfold elI; rw [List.getD_eq_getElem?_getD (l := xss), h]; rfl
theorem elI_mul {xss yss : List (List Int)} {n i j : Nat} (hx : ∀ r ∈ xss, r.length = n) (hxl : xss.length = n) (hyl : yss.length = n) (hyc : colsN yss = n) (hi : i < n) (hj : j < n) :
    ((elI (mulL xss yss) i j : Int) : Rat) = mulF n (elQ (matQ yss)) (elQ (matQ xss)) i j := by
  have hr : xss[i]? = some xss[i] := List.getElem?_eq_getElem (by omega)
  have e1 : elI (mulL xss yss) i j = dotN (pairL xss[i] (colL yss j)) n := by
    unfold mulL
    rw [rowQ_elI (r := mulRow xss[i] yss) (by rw [List.getElem?_map, hr]; rfl)]
    unfold mulRow
    rw [List.getD_eq_getElem?_getD, List.getElem?_map, List.getElem?_range (by omega), hx _ (List.getElem_mem _)]
    rfl
  rw [e1, dotN_cast]
  unfold mulF
  refine sumQ_congr fun l hl => ?_
  rw [matQ_elI, matQ_elI, rowQ_elI hr]
  show ((xss[i].getD l 0 : Int) : Rat) * (((colL yss j).getD l 0 : Int) : Rat) = _
  congr 2
  unfold colL elI
  rw [List.getD_eq_getElem?_getD, List.getElem?_map, List.getD_eq_getElem?_getD (l := yss), List.getElem?_eq_getElem (by omega : l < yss.length)]
  rfl
/-- The determinant, as an integer. -/
theorem detS_det {xss : List (List Int)} {n : Nat} (hl : xss.length = n) (hr : ∀ r ∈ xss, r.length = n) : detS xss = detF n (elQ (matQ xss)) := by
  unfold detS
  rw [hl]
  exact red_det (matQ_rect hr) (by rw [matQ_len]; exact hl)
theorem detS_int {xss : List (List Int)} {n : Nat} (hl : xss.length = n) (hr : ∀ r ∈ xss, r.length = n) (hf : ∀ r ∈ xss, Fit9 r) : ((detS xss).num : Rat) = detS xss := by
  have h : IntLe (detK 1000000000 n) (detS xss) := by
    rw [detS_det hl hr]
    exact detF_int fun a b => matQ_el hf a b
  obtain ⟨z, h1, -⟩ := h
  rw [h1]; rfl
theorem mulL_rows {xss yss : List (List Int)} {n : Nat} (hyc : n ≠ 0 → colsN yss = n) (hxl : xss.length = n) : ∀ r ∈ mulL xss yss, r.length = n := by
  intro r hr
  unfold mulL at hr
  obtain ⟨q, hq, rfl⟩ := List.mem_map.1 hr
  rw [mulRow_len, hyc]
  have := List.length_pos_of_mem hq
  omega
/-- The determinant of the product. -/
theorem det_mul {xss yss : List (List Int)} {n : Nat} (hxl : xss.length = n) (hx : ∀ r ∈ xss, r.length = n) (hyl : yss.length = n) (hy : ∀ r ∈ yss, r.length = n) : detS (mulL xss yss) = detS xss * detS yss := by
  have hyc : n ≠ 0 → colsN yss = n := fun h => colsN_of hy (by intro e; rw [e] at hyl; simp at hyl; omega)
  rw [detS_det (by rw [mulL_len]; exact hxl) (mulL_rows hyc hxl), detS_det hxl hx, detS_det hyl hy, ← detF_mul (matQ_rect hx) (by rw [matQ_len]; exact hxl)]
  refine detF_congr fun a b ha hb => ?_
  rw [matQ_elI, elI_mul hx hxl hyl (hyc (by omega)) ha hb]
theorem transL_rows {xss : List (List Int)} {n : Nat} (hxl : xss.length = n) : ∀ r ∈ transL xss, r.length = n := by
  intro r hr
  obtain ⟨c, hc, rfl⟩ := transL_mem hr
  rw [colL_len]; exact hxl
theorem det_trans {xss : List (List Int)} {n : Nat} (hxl : xss.length = n) (hx : ∀ r ∈ xss, r.length = n) : (transL xss).length = n ∧ detS (transL xss) = detS xss := by
  have hc : colsN xss = n := by
    by_cases h : xss = []
    · subst h; simp at hxl; rw [← hxl]; rfl
    · exact colsN_of hx h
  have hl : (transL xss).length = n := by rw [transL_len]; exact hc
  refine ⟨hl, ?_⟩
  rw [detS_det hl (transL_rows hxl), detS_det hxl hx, ← detF_tr]
  refine detF_congr fun a b ha hb => ?_
  rw [matQ_elI, matQ_elI, elI_trans (by omega) (by omega)]
/-- Two rows exchanged. -/
theorem det_swap01 {r0 r1 : List Int} {l : List (List Int)} {n : Nat} (hl : (r0 :: r1 :: l).length = n) (hr : ∀ r ∈ r0 :: r1 :: l, r.length = n) : detS (r1 :: r0 :: l) = - detS (r0 :: r1 :: l) := by
  have hn : 1 < n := by rw [← hl]; simp
  rw [detS_det (n := n) (by simpa using hl) (fun r h => hr r (by simp at h ⊢; rcases h with h | h | h <;> simp [h])), detS_det hl hr]
  rw [← detF_swap (elQ (matQ (r0 :: r1 :: l))) (i := 0) (j := 1) (by omega) hn]
  refine detF_congr fun a b ha hb => ?_
  match a with
  | 0 => rfl
  | 1 => rfl
  | a + 2 => rfl
end Go.Proofs.YtpeinobepiodaaaGreatDoor
/- The solution of a system whose right side comes of a row (plain). -/
namespace Go.Proofs.YtpeinobepiodaaaGreatDoor
set_option linter.unusedVariables false
set_option linter.unusedSimpArgs false
open Go.RowKit

/-- The same first columns: the same leading elements. -/
theorem lead_prefix {C C' N : Nat} {m m' : List (List Rat)} (hR : Rect C m) (hR' : Rect C' m') (hl : m.length = m'.length) (h : ∀ i j, j < N → elQ m i j = elQ m' i j) :
    ∀ c, c ≤ N → (redTo m c).lead = (redTo m' c).lead ∧ ∀ i j, j < N → elQ (redTo m c).m i j = elQ (redTo m' c).m i j
  | 0, _ => ⟨rfl, h⟩
  | c + 1, hc => by
    obtain ⟨h1, h2⟩ := lead_prefix hR hR' hl h c (by omega)
    have s1 := redTo_shape hR c
    have s2 := redTo_shape hR' c
    show (stepR c (redTo m c)).lead = (stepR c (redTo m' c)).lead ∧ ∀ i j, j < N → elQ (stepR c (redTo m c)).m i j = elQ (stepR c (redTo m' c)).m i j
    rcases stepR_el (c := c) s1.1 (by rw [s1.2.1]; exact s1.2.2) with ⟨e, hz⟩ | ⟨a, a1, a2, a3, a4, a5, a6, a7, a8⟩
    · rcases stepR_el (c := c) s2.1 (by rw [s2.2.1]; exact s2.2.2) with ⟨e', hz'⟩ | ⟨b, b1, b2, b3, b4, b5, b6, b7, b8⟩
      · rw [e, e']; exact ⟨h1, h2⟩
      · exact absurd (by rw [← h2 b c (by omega)]; exact hz b (by rw [h1]; exact b1)) b3
    · rcases stepR_el (c := c) s2.1 (by rw [s2.2.1]; exact s2.2.2) with ⟨e', hz'⟩ | ⟨b, b1, b2, b3, b4, b5, b6, b7, b8⟩
      · exact absurd (by rw [h2 a c (by omega)]; exact hz' a (by rw [← h1]; exact a1)) a3
      · have hab : a = b := by
          rcases Nat.lt_trichotomy a b with e | e | e
          · exact absurd (by rw [h2 a c (by omega)]; exact b4 a (by rw [← h1]; exact a1) e) a3
          · exact e
          · exact absurd (by rw [← h2 b c (by omega)]; exact a4 b (by rw [h1]; exact b1) e) b3
        subst hab
        refine ⟨by rw [a5, b5, h1], fun i j hj => ?_⟩
        rw [a8, b8, h1]
        rw [h2 a j hj, h2 a c (by omega), h2 _ j hj, h2 _ c (by omega)]
/-- A column that is a sum of multiples of others stays so. -/
theorem rel_keep {C N : Nat} {m : List (List Rat)} (hR : Rect C m) {x : Nat → Rat} (h : ∀ i, elQ m i N = sumQ N fun k => x k * elQ m i k) :
    ∀ c i, elQ (redTo m c).m i N = sumQ N fun k => x k * elQ (redTo m c).m i k
  | 0, i => h i
  | c + 1, i => by
    have ih := rel_keep hR h c
    have s1 := redTo_shape hR c
    show elQ (stepR c (redTo m c)).m i N = sumQ N fun k => x k * elQ (stepR c (redTo m c)).m i k
    rcases stepR_el (c := c) s1.1 (by rw [s1.2.1]; exact s1.2.2) with ⟨e, hz⟩ | ⟨a, a1, a2, a3, a4, a5, a6, a7, a8⟩
    · rw [e]; exact ih i
    · rw [a8]
      by_cases hi : i = (redTo m c).lead.length
      · rw [if_pos hi, ih a, Rat.div_def, Rat.mul_comm, ← sumQ_mul]
        refine sumQ_congr fun k hk => ?_
        rw [a8, if_pos hi, Rat.div_def]; grind
      · rw [if_neg hi, ih (trJ (redTo m c).lead.length a i), ih a]
        have e1 : ∀ y f : Rat, y / f = f⁻¹ * y := fun y f => by rw [Rat.div_def, Rat.mul_comm]
        rw [e1, ← sumQ_mul, show ∀ p q : Rat, p * q = p * q from fun _ _ => rfl, ← sumQ_mul]
        have : ∀ p q : Rat, p - q = p + -q := fun p q => by grind
        rw [this, ← sumQ_neg, ← sumQ_add]
        refine sumQ_congr fun k hk => ?_
        rw [a8, if_neg hi, e1]; grind
theorem sumQ_set {n p : Nat} (M : Nat → Rat) (l : List Rat) (v : Rat) (hp : p < n) (hl : p < l.length) : sumQ n (fun k => M k * (l.set p v).getD k 0) = sumQ n (fun k => M k * l.getD k 0) + M p * (v - l.getD p 0) := by
  have e : ∀ k, (l.set p v).getD k 0 = if k = p then v else l.getD k 0 := fun k => by
    rw [List.getD_eq_getElem?_getD, List.getElem?_set]
    by_cases h : p = k
    · subst h; rw [if_pos rfl, if_pos hl, if_pos rfl]; rfl
    · rw [if_neg h, if_neg (fun e => h e.symm), List.getD_eq_getElem?_getD]
  have h1 : sumQ n (fun k => M k * (l.set p v).getD k 0) = sumQ n (fun k => M k * l.getD k 0) + sumQ n (fun k => if k = p then M p * (v - l.getD p 0) else 0) := by
    rw [← sumQ_add]
    refine sumQ_congr fun k hk => ?_
    rw [e]
    by_cases h : k = p
    · subst h; rw [if_pos rfl, if_pos rfl]; grind
    · rw [if_neg h, if_neg h]; grind
  rw [h1, sumQ_one hp (fun k _ hne => if_neg hne), if_pos rfl]
/-- The sum of the products with the solution. -/
theorem xTo_sum {s : RedSt} {n : Nat} (M : Nat → Rat) (hlt : ∀ l, l < s.lead.length → kapQ s.lead l < n) (hinj : ∀ l l', l < s.lead.length → l' < s.lead.length → kapQ s.lead l = kapQ s.lead l' → l = l') :
    ∀ i, i ≤ s.lead.length → sumQ n (fun k => M k * (xTo s n i).getD k 0) = sumQ i (fun l => M (kapQ s.lead l) * elQ s.m l n) ∧ ∀ p, (∀ l, l < i → kapQ s.lead l ≠ p) → (xTo s n i).getD p 0 = 0
  | 0, _ => by
    have hz : ∀ p, (xTo s n 0).getD p 0 = 0 := fun p => by
      unfold xTo
      rw [List.getD_eq_getElem?_getD, List.getElem?_replicate]
      split <;> rfl
    refine ⟨?_, fun p _ => hz p⟩
    exact (sumQ_congr fun k _ => by rw [hz]; grind).trans (sumQ_zero n)
  | i + 1, hi => by
    obtain ⟨h1, h2⟩ := xTo_sum M hlt hinj i (by omega)
    have hp := hlt i (by omega)
    have hx : xTo s n (i + 1) = (xTo s n i).set (kapQ s.lead i) (elQ s.m i n) := rfl
    have h0 : (xTo s n i).getD (kapQ s.lead i) 0 = 0 := h2 _ fun l hl e => by
      have := hinj l i (by omega) (by omega) e; omega
    refine ⟨?_, fun p hpn => ?_⟩
    · rw [hx, sumQ_set M _ _ hp (by rw [xTo_len]; exact hp), h1, h0]
      show _ = sumQ i _ + _
      grind
    · rw [hx, List.getD_eq_getElem?_getD, List.getElem?_set]
      have hne : ¬ kapQ s.lead i = p := hpn i (by omega)
      rw [if_neg hne, ← List.getD_eq_getElem?_getD]
      exact h2 p fun l hl => hpn l (by omega)
theorem solM_len (xss : List (List Int)) (y : List Int) : (solM xss y).length = xss.length := rowsTo_len _ _ _
theorem solM_row {xss : List (List Int)} {y : List Int} {i : Nat} {r : List Int} (h : xss[i]? = some r) : rowQ (solM xss y) i = rowQI r ++ [((y.getD i 0 : Int) : Rat)] := by
  refine rowQ_get ?_
  unfold solM rowsTo
  have hi := (List.getElem?_eq_some_iff.1 h).1
  rw [List.getElem?_map, List.getElem?_range hi]
  show some (rowQI (xss.getD i []) ++ _) = _
  rw [List.getD_eq_getElem?_getD (l := xss), h]
  rfl
theorem solM_el {xss : List (List Int)} {y : List Int} {n i j : Nat} (hr : ∀ r ∈ xss, r.length = n) (hi : i < xss.length) : elQ (solM xss y) i j = if j < n then ((elI xss i j : Int) : Rat) else if j = n then ((y.getD i 0 : Int) : Rat) else 0 := by
  have h := List.getElem?_eq_getElem hi
  have hl := hr _ (List.getElem_mem hi)
  unfold elQ
  rw [solM_row h, List.getD_eq_getElem?_getD]
  by_cases h1 : j < n
  · rw [if_pos h1, List.getElem?_append_left (by rw [rowQI_len, hl]; exact h1)]
    unfold rowQI
    rw [List.getElem?_map, List.getElem?_eq_getElem (by omega : j < xss[i].length), rowQ_elI h, List.getD_eq_getElem?_getD, List.getElem?_eq_getElem (by omega : j < xss[i].length)]
    rfl
  · rw [if_neg h1, List.getElem?_append_right (by rw [rowQI_len, hl]; omega), rowQI_len, hl]
    by_cases h2 : j = n
    · subst h2; rw [if_pos rfl, Nat.sub_self]; rfl
    · rw [if_neg h2, List.getElem?_eq_none (by simp; omega)]; rfl
/-- What Solve leaves where the right side is the product with a row. -/
theorem sol_ok {xss : List (List Int)} {x : List Int} {n : Nat} (hn : colsN xss = n) (hr : ∀ r ∈ xss, r.length = n) (hx : x.length = n) :
    (solR xss (apL xss x)).lead.length = rankI xss ∧ solBad (solR xss (apL xss x)) n = false ∧
    ∀ i, i < xss.length → sumQ n (fun k => ((elI xss i k : Int) : Rat) * (solX (solR xss (apL xss x)) n).getD k 0) = (((apL xss x).getD i 0 : Int) : Rat) := by
  have hR : Rect (n + 1) (solM xss (apL xss x)) := solM_rect hr
  have hRm : Rect n (matQ xss) := matQ_rect hr
  have hS : solR xss (apL xss x) = redTo (solM xss (apL xss x)) n := by unfold solR; rw [hn]
  have hel : ∀ i j, i < xss.length → elQ (solM xss (apL xss x)) i j = if j < n then ((elI xss i j : Int) : Rat) else if j = n then (((apL xss x).getD i 0 : Int) : Rat) else 0 := fun i j hi => solM_el hr hi
  have hout : ∀ i j, xss.length ≤ i → elQ (solM xss (apL xss x)) i j = 0 := fun i j hi => elQ_out (by rw [solM_len]; exact hi)
  have hap : ∀ i, i < xss.length → (apL xss x).getD i 0 = dotN (pairL (xss[i]?.getD []) x) n := fun i hi => by
    unfold apL
    rw [List.getD_eq_getElem?_getD, List.getElem?_map, List.getElem?_eq_getElem hi]
    show dotN _ x.length = _
    rw [hx]; rfl
  have hpre := lead_prefix hR hRm (by rw [solM_len, matQ_len]) (N := n) (fun i j hj => by
    by_cases hi : i < xss.length
    · rw [hel i j hi, if_pos hj, matQ_elI]
    · rw [hout i j (by omega), elQ_out (by rw [matQ_len]; omega)]) n (Nat.le_refl _)
  have hrel : ∀ i, elQ (solM xss (apL xss x)) i n = sumQ n fun k => ((x.getD k 0 : Int) : Rat) * elQ (solM xss (apL xss x)) i k := by
    intro i
    by_cases hi : i < xss.length
    · rw [hel i n hi, if_neg (by omega), if_pos rfl, hap i hi, dotN_cast]
      refine sumQ_congr fun k hk => ?_
      rw [hel i k hi, if_pos hk]
      show (((xss[i]?.getD []).getD k 0 : Int) : Rat) * ((x.getD k 0 : Int) : Rat) = _
      rw [List.getElem?_eq_getElem hi]
      rw [rowQ_elI (List.getElem?_eq_getElem hi)]
      show ((xss[i].getD k 0 : Int) : Rat) * _ = _
      grind
    · rw [hout i n (by omega), ← sumQ_zero n]
      exact sumQ_congr fun k hk => by rw [hout i k (by omega)]; grind
  obtain ⟨ρ, sg, z, h⟩ := redI_all (solM xss (apL xss x)) hR n
  rw [solM_len] at h
  have hrk := rel_keep hR hrel n
  have hz0 : ∀ i, (redTo (solM xss (apL xss x)) n).lead.length ≤ i → elQ (redTo (solM xss (apL xss x)) n).m i n = 0 := fun i hi => by
    rw [hrk i, ← sumQ_zero n]
    exact sumQ_congr fun k hk => by rw [h.zero i k hi hk]; grind
  have hbad : solBad (solR xss (apL xss x)) n = false := by
    rw [hS]
    refine solBad_none fun q r hq => ?_
    have := hz0 ((redTo (solM xss (apL xss x)) n).lead.length + q) (by omega)
    unfold elQ at this
    rw [rowQ_get hq] at this
    exact this
  refine ⟨by rw [hS, hpre.1]; unfold rankI rankQ; rw [hn], hbad, fun i hi => ?_⟩
  have hxs : solX (solR xss (apL xss x)) n = xTo (redTo (solM xss (apL xss x)) n) n (redTo (solM xss (apL xss x)) n).lead.length := by
    unfold solX
    rw [hbad, if_neg Bool.false_ne_true, hS]
  rw [hxs, (xTo_sum (fun k => ((elI xss i k : Int) : Rat)) h.klt (fun l l' hl hl' e => by
    have h1 := h.unit l' l hl
    have h2 := h.unit l' l' hl'
    rw [e, h2, if_pos rfl] at h1
    by_cases e2 : l' = l
    · exact e2.symm
    · rw [if_neg e2] at h1; exact absurd h1 (by decide)) _ (Nat.le_refl _)).1]
  obtain ⟨i', hi', he⟩ := h.sur i hi
  have hsp := h.span i' n hi'
  rw [he, hel i n hi, if_neg (by omega), if_pos rfl] at hsp
  have h0 : (if i' < (redTo (solM xss (apL xss x)) n).lead.length then (0 : Rat) else elQ (redTo (solM xss (apL xss x)) n).m i' n) = 0 := by
    split
    · rfl
    · exact hz0 i' (by omega)
  rw [h0] at hsp
  rw [hsp]
  have : ∀ p : Rat, 0 + p = p := fun p => by grind
  rw [this]
  refine sumQ_congr fun l hl => ?_
  rw [hel i _ hi, if_pos (h.klt l hl)]
  grind
theorem add_RS {K L : Nat} {x y : Rat} (hx : RS K x) (hy : RS L y) : RS (K + L + 4) (x + y) := by
  have h := mkRat_size (x.num * y.den + y.num * x.den) (x.den * y.den) (Nat.mul_ne_zero x.den_nz y.den_nz)
  rw [← Rat.add_def'] at h
  have h1 := int_mul_size x.num (y.den : Int)
  have h2 := int_mul_size y.num (x.den : Int)
  have h5 : (intB (x.num * (y.den : Int) + y.num * (x.den : Int))).size ≤ max (intB (x.num * (y.den : Int))).size (intB (y.num * (x.den : Int))).size + 2 := int_add_size _ _
  have h3 := num_mul_size x.den y.den
  have h4 := int_add_size (x.num * (y.den : Int)) (y.num * (x.den : Int))
  have a1 := hx.1; have a2 := hx.2; have a3 := hy.1; have a4 := hy.2
  rw [eb] at h1 h2
  exact ⟨by omega, by omega⟩
end Go.Proofs.YtpeinobepiodaaaGreatDoor
/- The edges: rank of a matrix without columns; Solve of no equations. -/
namespace Go.Proofs.YtpeinobepiodaaaGreatDoor
set_option linter.unusedVariables false
set_option linter.unusedSimpArgs false
open Go.RowKit

def anyR0 (_ : World) (_ : List Value) (_ : Unit) : Prop := True
set_option maxRecDepth 100000 in
set_option maxHeartbeats 2000000 in
theorem rows0_any (xss : List (List Int)) (v : Value) (w : World) (h : Rows2 w v xss) (hl : xss.length ≤ 1000) (hr : ∀ r ∈ xss, r.length = 0) :
    Calls Tryz.prog 52 #[v, .func (.func 53) #[] #[]] w fun e w' => ∃ u, e = .returned u ∧ (∃ a n c, u = .slice a n c) ∧ Ext w w' := by
  obtain ⟨a, c, rfl, h1, h2, -, hc⟩ := inCell.open h
  have HC := Lib.hid hc; have HR := Lib.hid hr
  obtain ⟨i0, hi, hz0, hz1, hz2⟩ := info_parts infoRat
  have HI := Lib.hid hi
  have eg : ∀ args w, (callFunc 53 args).run Tryz.prog w = .ok (.enter 53 args) w := enters_of Tryz.func53 (by kernel_rfl) rfl
  unfold maxLen at h2
  clear h hc hr hi hz0 hz1 hz2
  go_enter Tryz.func52, Tryz.ntmps52
  go_wp2_with fail
  go_loopw [13, 5] (fun t v wr => ∃ (i : Nat), i ≤ xss.length ∧ t = .int .i64 i ∧ Ext w wr ∧ Hid (Build wr w.heap.size 39 1 v anyR0 (List.replicate i ()))) (fun t _ _ => xss.length - (intOf t).toNat)
  case atStart => exact ⟨0, by omega, rfl, Ext.refl _, Build.nil _ _ _ _ _⟩
  case round =>
    obtain ⟨i, hin, rfl, hE, HB⟩ := hrel
    obtain ⟨wo, rfl⟩ : ∃ wo : World, wo = wr := ⟨_, rfl⟩
    have HE := Lib.hid hE
    by_cases hlt : i < xss.length
    · obtain ⟨b, off, rfl, hb, hcell⟩ := HC.out (by intro e; simp [e] at hlt)
      obtain ⟨r, hx⟩ : ∃ x, xss[i]? = some x := ⟨xss[i], List.getElem?_eq_getElem hlt⟩
      obtain ⟨vx, hvx, hcx⟩ := hcell i r hx
      obtain ⟨ax, cx, rfl, -⟩ := Ints.open hvx
      have hr0 : r.length = 0 := HR.out r (List.mem_of_getElem? hx)
      rw [hr0] at hcx
      have g1 := hE.cell hcx
      have HST : Hid (List.replicate (i + 1) () = List.replicate i () ++ [()]) := List.replicate_succ'
      have HLL : Hid ((List.replicate i ()).length < 1000000) := by unfold Hid; rw [List.length_replicate]; omega
      have hs5 : w.heap.size ≤ wo.heap.size := hE.size
      clear hcell hx hvx hcx hr0
      go_wp2_with fail
      go_loopw [20, 8] (fun t v wr => t = .int .i64 0 ∧ v = .slice none 0 0 ∧ Hid (Ext wo wr)) (fun _ _ _ => 0)
      case atStart => exact ⟨rfl, rfl, by first | exact Ext.refl _ | exact Ext.drew _⟩
      case round =>
        obtain ⟨rfl, rfl, HEI⟩ := hrel
        obtain ⟨wi, rfl⟩ : ∃ wi : World, wi = wr := ⟨_, rfl⟩
        have HBI := Lib.hid (HB.out.ext HEI.out)
        have hsi : w.heap.size ≤ wi.heap.size := Nat.le_trans hs5 HEI.out.size
        have HNO := Lib.hid (nothing_any (i : Int) wi)
        go_wp2_with fail
        refine HNO.out.mono ?_
        rintro e w1 ⟨rfl, rfl⟩
        go_wp2_with (at_builtin; first | (refine wpList_append_own_none rfl _ _ 39 rfl wi.heap.size 81 i0 2 Tryz.underlying39 HI.out (.slice none 0 0) 0 [] rfl (World.ownsRow_nil wi wi.heap.size 81 2) rfl ?_) | (refine wpList_append_build _ rfl _ _ 30 rfl w.heap.size 39 (.slice none 0 0) 1 24 Tryz.underlying30 infoRats rfl (by decide) u5 anyR0 (List.replicate i ()) () #[.slice none 0 0] 39 rfl HBI.out rfl rfl ?_ (fun _ _ => trivial) HLL.out (by decide) hsi ?_))
        all_goals first | (simp [Value.oneCell']; done) | skip
        intro v' w6 hB6 hg6 hb6 hs6 _
        rw [← HST.out] at hB6
        have HB6 := Lib.hid hB6
        have HX6 : Hid (Ext w w6) := Below.trans (HE.out.trans HEI.out) hb6
        clear hB6 hg6 hb6
        go_wp2_with fail
        go_roundw
        case rel => exact ⟨i + 1, by omega, by go_num, HX6.out, HB6.out⟩
        case measure => simp [intOf]; omega
    · obtain rfl : i = xss.length := by omega
      obtain ⟨a5, c5, h5, -⟩ := ListAt.open HB.out.list
      go_wp2_with fail
      go_ret
      exact ⟨_, rfl, ⟨_, _, _, h5⟩, HE.out⟩
set_option maxRecDepth 100000 in
set_option maxHeartbeats 2000000 in
theorem rank0_any (xss : List (List Int)) (v : Value) (w : World) (h : Rows2 w v xss) (hE : tabE xss = 0) (h0 : colsN xss = 0) :
    Calls Tryz.prog 35 #[v] w fun e w' => e = .returned (.tuple #[.int .i64 0, .int .i64 0]) ∧ Ext w w' := by
  obtain ⟨hl, hrr⟩ := tabE_zero hE
  have HCH := Lib.hid (tabCheck_any xss v w h)
  rw [hE] at HCH
  have HCO : Hid (∀ W, Ext w W → Calls Tryz.prog 43 #[v] W fun e w' => e = .returned (.int .i64 0) ∧ W = w') := fun W hW => by have := columns_any xss v W (h.ext hW); rw [h0] at this; exact this
  have HRO : Hid (∀ W, Ext w W → Calls Tryz.prog 52 #[v, .func (.func 53) #[] #[]] W fun e w' => ∃ u, e = .returned u ∧ (∃ a n c, u = .slice a n c) ∧ Ext W w') := fun W hW => rows0_any xss v W (h.ext hW) (by omega) fun r hr => by rw [(hrr r hr).1, h0]
  clear h hE hrr hl h0
  go_enter Tryz.func35, Tryz.ntmps35
  go_wp2_with fail
  refine HCH.out.mono ?_
  rintro e w1 ⟨rfl, hE1⟩
  have HE1 := Lib.hid hE1
  clear hE1
  go_wp2_with fail
  refine (HRO.out _ HE1.out).mono ?_
  rintro e w3 ⟨u, rfl, ⟨a, n, c, rfl⟩, hE3⟩
  have HE3 := Lib.hid (HE1.out.trans hE3)
  clear hE3
  go_wp2_with fail
  refine (HCO.out _ HE3.out).mono ?_
  rintro e w2 ⟨rfl, rfl⟩
  go_wp2_with fail
  refine (reduce_zero _ _ ⟨_, _, _, rfl⟩).mono ?_
  rintro e w4 ⟨rfl, hE4⟩
  have HX := Lib.hid (HE3.out.trans hE4)
  rw [ratV_one]
  obtain ⟨W5, hW5, hE5, hs5, hb5⟩ := box2 w4 (.string ⟨#[]⟩) (.string ⟨#[]⟩) 81
  obtain ⟨r0, r1, rf⟩ := block2_cell hb5
  have f0 := rf 0
  have f1 := rf 1
  have HX5 : Hid (Ext w ((W5.setCell ⟨w4.heap.size, 0, none⟩ (.string ⟨#[49]⟩)).setCell ⟨w4.heap.size, 1, none⟩ (.string ⟨#[49]⟩))) := ext_set2 (HX.out.trans hE5) HX.out.size
  clear hE4 rf hb5 hE5 hs5
  go_wp2_with fail
  go_ret2
  exact ⟨rfl, HX5.out⟩
set_option maxRecDepth 100000 in
set_option maxHeartbeats 4000000 in
theorem solve0_any (v ur : Value) (w : World) (h : Rows2 w v []) (hk : Ints w ur []) (ht : Pow10 w) :
    Calls Tryz.prog 28 #[v, ur] w fun e w' => ∃ x, e = .returned (.tuple #[x, .int .i64 1, .int .i64 0]) ∧ Rats w' x [] ∧ Ext w w' := by
  have HCH : Hid (∀ W, Ext w W → Calls Tryz.prog 41 #[v] W fun e w' => e = .returned (.int .i64 0) ∧ Ext W w') := fun W hW => tabCheck_any [] v W (h.ext hW)
  have HCO : Hid (∀ W, Ext w W → Calls Tryz.prog 43 #[v] W fun e w' => e = .returned (.int .i64 0) ∧ W = w') := fun W hW => columns_any [] v W (h.ext hW)
  have HANY : Hid (∀ W, Ext w W → Calls Tryz.prog 66 #[ur, .func (.func 67) #[] #[]] W fun e w' => e = .returned (.bool false) ∧ Ext W w') := fun W hW =>
    containsRow_any [] ur 67 #[] (fun x => !fitB x) W (hk.ext hW) (enters_of Tryz.func67 (by kernel_rfl) rfl) (fun W x _ _ => (great_any x W).mono fun _ _ ⟨he, hw⟩ => ⟨he, hw ▸ Ext.refl _⟩)
  have HRO : Hid (∀ W B, Ext w W → Calls Tryz.prog 52 #[v, .func (.func 68) #[] #[.pointer (some ⟨B, 0, none⟩)]] W fun e w' => ∃ u, e = .returned u ∧ (∃ a c, u = .slice a 0 c) ∧ Ext W w') := fun W B hW => by
    have := rows_any [] v 68 #[.pointer (some ⟨B, 0, none⟩)] (fun i => []) W (h.ext hW) (by simp) (fun r hr => by simp at hr) (fun i r hr => by simp at hr) (enters_of Tryz.func68 (by kernel_rfl) rfl) (fun i X hi hX => by simp at hi) (ht.ext hW)
    refine this.mono fun e w' ⟨u, tags, g1, g2, g3⟩ => ⟨u, g1, ?_, g3⟩
    rcases g2.own.2 with ⟨e, hn⟩ | ⟨g, cap, cur, e, -⟩
    · exact ⟨none, 0, e⟩
    · exact ⟨_, cap, e⟩
  obtain ⟨a, c, rfl, h1, h2, -, -⟩ := inCell.open h
  obtain ⟨ar, cr, rfl, h3, h4, -, -, -⟩ := hk.open
  unfold maxLen at h2 h4
  obtain ⟨W1, hW1⟩ : ∃ W1, w.alloc (.cells #[.slice ar ([] : List Int).length cr] 51) = W1 := ⟨_, rfl⟩
  have hX1 : Ext w W1 := by rw [← hW1]; exact Ext.alloc _ _
  have c1 : W1.cell? ⟨w.heap.size, 0, none⟩ = some (.slice ar ([] : List Int).length cr) := by rw [← hW1, World.cell?_alloc_new]; rfl
  have HX1 := Lib.hid hX1
  simp only [List.length_nil] at hW1 c1 HCH HCO HANY HRO ⊢
  clear h hk ht hX1
  go_enter Tryz.func28, Tryz.ntmps28
  go_wp2_with fail
  refine (HCH.out _ HX1.out).mono ?_
  rintro e w2 ⟨rfl, hE2⟩
  have c2 := hE2.cell c1
  have HX2 := Lib.hid (Ext.trans HX1.out hE2)
  clear hE2 c1 hW1 HCH
  go_wp2_with fail
  refine (HANY.out _ HX2.out).mono ?_
  rintro e w3 ⟨rfl, hE3⟩
  have HX3 := Lib.hid (Ext.trans HX2.out hE3)
  clear hE3 c2 HANY
  go_wp2_with fail
  refine (HCO.out _ HX3.out).mono ?_
  rintro e w4 ⟨rfl, rfl⟩
  clear HCO
  go_wp2_with fail
  refine (HRO.out _ _ HX3.out).mono ?_
  rintro e w5 ⟨u, rfl, ⟨au, cu, rfl⟩, hE5⟩
  have HX5 := Lib.hid (Ext.trans HX3.out hE5)
  clear hE5 HRO
  go_wp2_with fail
  refine (reduce_zero _ _ ⟨_, _, _, rfl⟩).mono ?_
  rintro e w6 ⟨rfl, hE6⟩
  have HX6 := Lib.hid (Ext.trans HX5.out hE6)
  rw [ratV_one]
  obtain ⟨W7, hW7, hE7, hs7, hb7⟩ := box2 w6 (.string ⟨#[]⟩) (.string ⟨#[]⟩) 81
  obtain ⟨r0, r1, rf⟩ := block2_cell hb7
  have f0 := rf 0
  have f1 := rf 1
  have HX8 : Hid (Ext w6 ((W7.setCell ⟨w6.heap.size, 0, none⟩ (.string ⟨#[49]⟩)).setCell ⟨w6.heap.size, 1, none⟩ (.string ⟨#[49]⟩))) := ext_set2 hE7 (Nat.le_refl _)
  clear hE6 rf hb7 hE7 hs7
  go_upto_region 11 with (fail)
  obtain ⟨W9, hW9⟩ : ∃ W9, W9 = ((W7.setCell ⟨w6.heap.size, 0, none⟩ (.string ⟨#[49]⟩)).setCell ⟨w6.heap.size, 1, none⟩ (.string ⟨#[49]⟩)) := ⟨_, rfl⟩
  rw [← hW9] at HX8 ⊢
  have HXW := Lib.hid (Ext.trans HX6.out HX8.out)
  clear hW9 hW7 r0 r1 f0 f1
  go_wp2_with fail
  go_loopw [44] (fun t wr => t = .int .i64 0 ∧ Hid (Ext W9 wr)) (fun _ _ => 0)
  case atStart => exact ⟨rfl, by first | exact Ext.refl _ | exact Ext.drew _⟩
  case round =>
    obtain ⟨rfl, HE⟩ := hrel
    obtain ⟨wo, rfl⟩ : ∃ wo : World, wo = wr := ⟨_, rfl⟩
    have HZERO : Hid (∀ W, Calls Tryz.prog 56 #[] W fun e w' => e = .returned (.agg #[.string ⟨#[48]⟩, .string ⟨#[49]⟩]) ∧ Ext W w') := fun W => by
      have := tzero_any W
      rw [ratV_zero] at this; exact this
    go_wp2_with fail
    refine (HZERO.out _).mono ?_
    rintro e w7 ⟨rfl, hE7⟩
    obtain ⟨Wz, hWz⟩ : ∃ Wz, w7.alloc (.cells #[.string ⟨#[48]⟩, .string ⟨#[49]⟩] 81) = Wz := ⟨_, rfl⟩
    have hEz : Ext w7 Wz := by rw [← hWz]; exact Ext.alloc _ _
    have HRz : Hid (Rats Wz (.slice (some ⟨w7.heap.size, 0, none⟩) 1 1) [0]) := by
      rw [← hWz]
      have := Rats.one w7 0 81
      rw [show (0 : Rat).num = 0 from rfl, show (0 : Rat).den = 1 from rfl, intB_zero, numB_one] at this
      exact this
    have HXz := Lib.hid (Ext.trans HE.out (Ext.trans hE7 hEz))
    clear hE7 hEz HE HZERO
    go_wp2_with fail
    refine (repeat_any 0 0 (by omega) _ _ HRz.out).mono ?_
    rintro e w8 ⟨gx, rfl, hQ, hE8⟩
    have HX8' := Lib.hid (HXW.out.trans (Ext.trans HXz.out hE8))
    clear hQ hE8 hWz HRz HXz
    go_wp2_with fail
    go_loopw [61] (fun t wr => t = .int .i64 0 ∧ Hid (Ext w8 wr)) (fun _ _ => 0)
    case atStart => exact ⟨rfl, by first | exact Ext.refl _ | exact Ext.drew _⟩
    case round =>
      obtain ⟨rfl, HE2⟩ := hrel
      obtain ⟨wp, rfl⟩ : ∃ wp : World, wp = wr := ⟨_, rfl⟩
      go_wp2_with fail
      go_ret3
      exact ⟨_, rfl, ⟨[], rfl, by simp, ⟨_, 0, rfl, Nat.le_refl _, by unfold maxLen; omega, fun _ => rfl, fun h => absurd rfl h⟩, by simp⟩, HX8'.out.trans HE2.out⟩
end Go.Proofs.YtpeinobepiodaaaGreatDoor
/- Solve and Rank, also without equations and without unknowns; what TableSolutions needs of them. -/
namespace Go.Proofs.YtpeinobepiodaaaGreatDoor
set_option linter.unusedVariables false
set_option linter.unusedSimpArgs false
open Go.RowKit

def solL (xss : List (List Int)) (y : List Int) : List Rat := if xss = [] then [] else solX (solR xss y) (colsN xss)
def solKI (xss : List (List Int)) (y : List Int) : Int := if xss = [] then 1 else solK (solR xss y) (colsN xss)
theorem rs_zero (K : Nat) (h : 1 ≤ K) : RS K 0 := by
  have : RS 1 0 := ⟨by decide +kernel, by decide +kernel⟩
  exact this.mono h
theorem xTo_RS {s : RedSt} {K n : Nat} (hK : 1 ≤ K) (h : AllRS K s.m) : ∀ i, ∀ q ∈ xTo s n i, RS K q
  | 0, q, hq => by
    unfold xTo at hq
    rw [(List.mem_replicate.1 hq).2]; exact rs_zero K hK
  | i + 1, q, hq => by
    unfold xTo at hq
    rcases List.mem_or_eq_of_mem_set hq with h1 | h1
    · exact xTo_RS hK h i q h1
    · rw [h1]
      unfold elQ rowQ
      rw [List.getD_eq_getElem?_getD]
      cases hr : (s.m[i]?) with
      | none => simp [List.getD_eq_getElem?_getD, hr]; exact rs_zero K hK
      | some r =>
        rw [List.getD_eq_getElem?_getD, hr]
        show RS K (r[n]?.getD 0)
        cases hx : r[n]? with
        | none => exact rs_zero K hK
        | some x => exact h.get hr hx
/-- What stands in the equations is small. -/
theorem sol_small {xss : List (List Int)} {y : List Int} {n : Nat} (hr : ∀ r ∈ xss, r.length = n ∧ Fit9 r) (hl : xss.length ≤ 12) (hy : Fit9 y) (c : Nat) :
    AllRS 2500 (redTo (solM xss y) c).m ∧ RS 9000 (redTo (solM xss y) c).det := by
  refine red_small (solM_rect fun r h => (hr r h).1) (by rw [solM_len]; exact hl) (fun i j => ?_) c
  by_cases hi : i < xss.length
  · rw [solM_el (fun r h => (hr r h).1) hi]
    have h0 : ∀ l : List Int, Fit9 l → ∀ j, (l.getD j 0).natAbs ≤ 1000000000 := by
      intro l hl j
      rw [List.getD_eq_getElem?_getD]
      cases h : l[j]? with
      | none => simp
      | some a => have := hl a (List.mem_of_getElem? h); simp only [Option.getD_some]; omega
    split
    · refine ⟨_, rfl, ?_⟩
      rw [rowQ_elI (List.getElem?_eq_getElem hi)]
      exact h0 _ (hr _ (List.getElem_mem hi)).2 j
    · split
      · exact ⟨_, rfl, h0 y hy i⟩
      · exact IntLe.zero _
  · rw [elQ_out (by rw [solM_len]; omega)]
    exact IntLe.zero _
theorem tab_fit {xss : List (List Int)} (hE : tabE xss = 0) : ∀ r ∈ xss, Fit9 r := fun r hr a ha => by
  have := (tabE_zero hE).2 r hr
  exact this.2.2 a ha
/-- The equations' right side is the product with a row: what is answered. -/
theorem sol_facts {xss : List (List Int)} {x : List Int} {n : Nat} (hE : tabE xss = 0) (hn : colsN xss = n) (hx : x.length = n) (hy : Fit9 (apL xss x)) :
    (solL xss (apL xss x)).length = n ∧ (∀ q ∈ solL xss (apL xss x), RS 2500 q) ∧ solKI xss (apL xss x) = (if rankI xss < n then 2 else 1) ∧ rankI xss ≤ n ∧
      ∀ i, i < xss.length → sumQ n (fun k => ((elI xss i k : Int) : Rat) * (solL xss (apL xss x)).getD k 0) = (((apL xss x).getD i 0 : Int) : Rat) := by
  have hr : ∀ r ∈ xss, r.length = n := fun r h => by rw [((tabE_zero hE).2 r h).1, hn]
  have hrk : rankI xss ≤ n := by
    have hR : Rect n (matQ xss) := matQ_rect hr
    obtain ⟨ρ, sg, z, h⟩ := redI_all (matQ xss) hR n
    have := h.rlc
    unfold rankI rankQ; rw [hn]; exact this
  by_cases h0 : xss = []
  · subst h0
    have h1 : n = 0 := by rw [← hn]; rfl
    subst h1
    refine ⟨by simp [solL], by simp [solL], ?_, hrk, fun i hi => by simp at hi⟩
    have : ¬ rankI [] < 0 := by omega
    rw [if_neg this]; simp [solKI]
  · obtain ⟨h1, h2, h3⟩ := sol_ok hn hr hx
    unfold solL solKI
    rw [if_neg h0, if_neg h0, hn]
    have hxs : solX (solR xss (apL xss x)) n = xTo (solR xss (apL xss x)) n (solR xss (apL xss x)).lead.length := by
      unfold solX; rw [h2, if_neg Bool.false_ne_true]
    refine ⟨by rw [hxs, xTo_len], fun q hq => ?_, ?_, hrk, h3⟩
    · rw [hxs] at hq
      refine xTo_RS (by omega) ?_ _ q hq
      unfold solR
      exact (sol_small (n := n) (fun r h => ⟨hr r h, tab_fit hE r h⟩) (tabE_zero hE).1 hy _).1
    · unfold solK; rw [h2, if_neg Bool.false_ne_true, h1]
set_option maxRecDepth 100000 in
/-- Solve at any table. -/
theorem solveA_any (xss : List (List Int)) (right : List Int) (v ur : Value) (w : World) (h : Rows2 w v xss) (hk : Ints w ur right) (hE : tabE xss = 0) (hlr : right.length = xss.length) (hy : Fit9 right) (ht : Pow10 w) :
    Calls Tryz.prog 28 #[v, ur] w fun e w' => ∃ x, e = .returned (.tuple #[x, .int .i64 (solKI xss right), .int .i64 0]) ∧ Rats w' x (solL xss right) ∧ Ext w w' := by
  by_cases h0 : xss = []
  · subst h0
    obtain rfl : right = [] := List.length_eq_zero_iff.1 hlr
    have := solve0_any v ur w h hk ht
    simpa [solKI, solL] using this
  · have := solve_any xss right v ur w h hk hE (List.length_pos_iff.2 h0) hlr hy (fun c _ => sol_small (n := colsN xss) (fun r hr => ⟨((tabE_zero hE).2 r hr).1, tab_fit hE r hr⟩) (tabE_zero hE).1 hy c) ht
    unfold solKI solL
    rw [if_neg h0, if_neg h0]
    exact this
set_option maxRecDepth 100000 in
/-- Rank at any table. -/
theorem rankA_any (xss : List (List Int)) (v : Value) (w : World) (h : Rows2 w v xss) (hE : tabE xss = 0) (ht : Pow10 w) :
    Calls Tryz.prog 35 #[v] w fun e w' => e = .returned (.tuple #[.int .i64 (rankI xss : Int), .int .i64 0]) ∧ Ext w w' := by
  by_cases h0 : colsN xss = 0
  · rw [rankI_cols h0]
    exact rank0_any xss v w h hE h0
  · exact rank_any xss v w h hE (fun r hr => by rw [((tabE_zero hE).2 r hr).1]; omega) ht
end Go.Proofs.YtpeinobepiodaaaGreatDoor
