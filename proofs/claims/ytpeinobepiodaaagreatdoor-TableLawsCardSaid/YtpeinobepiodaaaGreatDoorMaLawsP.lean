/- Merged: LawsP. -/
import Derived.Test.YtpeinobepiodaaaGreatDoorGY
import Derived.Test.YtpeinobepiodaaaGreatDoorGW
/- The determinant of a product, of the transposed matrix, of a matrix with two rows exchanged (plain). -/
namespace Go.Proofs.YtpeinobepiodaaaGreatDoor
set_option linter.unusedVariables false
set_option linter.unusedSimpArgs false
open Go.RowKit

/-- A matrix times another one, by its rows. -/
def mulF (n : Nat) (Y M : Nat → Nat → Rat) : Nat → Nat → Rat := fun a b => sumQ n fun l => M a l * Y l b
theorem mulF_upd (n : Nat) (Y M : Nat → Nat → Rat) (r : Nat) (u : Nat → Rat) : mulF n Y (updR M r u) = updR (mulF n Y M) r fun b => sumQ n fun l => u l * Y l b := by
  funext a b
  unfold mulF updR
  by_cases h : a = r
  · simp only [h, if_true]
  · simp only [h, if_false]
theorem mul_form (n : Nat) (Y : Nat → Nat → Rat) : RowForm n fun M => detF n (mulF n Y M) where
  congr := fun M N h => detF_congr fun a b ha _ => sumQ_congr fun l _ => by rw [h a l ha]
  swap := fun M i j h1 h2 => detF_swap (mulF n Y M) h1 h2
  scale := fun M r c hr => by
    show detF n (mulF n Y (updR M r fun b => c * M r b)) = c * detF n (mulF n Y M)
    rw [mulF_upd]
    have : (fun b => sumQ n fun l => c * M r l * Y l b) = fun b => c * mulF n Y M r b := by
      funext b
      unfold mulF
      rw [← sumQ_mul]
      exact sumQ_congr fun l _ => by grind
    rw [this, detF_scale _ hr]
  add := fun M r s c h1 h2 h3 => by
    show detF n (mulF n Y (updR M r fun b => M r b + c * M s b)) = detF n (mulF n Y M)
    rw [mulF_upd]
    have : (fun b => sumQ n fun l => (M r l + c * M s l) * Y l b) = fun b => mulF n Y M r b + c * mulF n Y M s b := by
      funext b
      unfold mulF
      rw [← sumQ_mul, ← sumQ_add]
      exact sumQ_congr fun l _ => by grind
    rw [this, detF_addmul _ h1 h2 h3]
theorem detF_mul {n : Nat} {m : List (List Rat)} (hR : Rect n m) (hl : m.length = n) (Y : Nat → Nat → Rat) : detF n (mulF n Y (elQ m)) = detF n (elQ m) * detF n Y := by
  have h := red_form hR hl (mul_form n Y) (fun M ⟨r, hr, h0⟩ => detF_zero_row hr fun b hb => by
      unfold mulF
      rw [← sumQ_zero n]
      exact sumQ_congr fun l hl => by rw [h0 l hl]; grind)
    (fun M N h => detF_congr fun a b ha hb => sumQ_congr fun l hl => by rw [h a l ha hl])
  have h1 : detF n (mulF n Y fun a b => if a = b then 1 else 0) = detF n Y := detF_congr fun a b ha hb => by
    unfold mulF
    rw [sumQ_one ha (fun l hl hne => by
      show (if a = l then (1 : Rat) else 0) * Y l b = 0
      rw [if_neg (by omega)]; grind)]
    show (if a = a then (1 : Rat) else 0) * Y a b = Y a b
    rw [if_pos rfl]; grind
  rw [← red_det hR hl]
  rw [h1] at h
  exact h
theorem dotN_cast (f : Nat → Int × Int) : ∀ n, ((dotN f n : Int) : Rat) = sumQ n fun l => ((f l).1 : Rat) * ((f l).2 : Rat)
  | 0 => rfl
  | n + 1 => by
    show ((dotN f n + (f n).1 * (f n).2 : Int) : Rat) = sumQ n _ + _
    rw [← dotN_cast f n, Rat.intCast_add, Rat.intCast_mul]
theorem rowQ_elI {xss : List (List Int)} {i j : Nat} {r : List Int} (h : xss[i]? = some r) : elI xss i j = r.getD j 0 := by
  unfold elI; rw [List.getD_eq_getElem?_getD (l := xss), h]; rfl
theorem elI_mul {xss yss : List (List Int)} {n i j : Nat} (hx : ∀ r ∈ xss, r.length = n) (hxl : xss.length = n) (hyl : yss.length = n) (hyc : colsN yss = n) (hi : i < n) (hj : j < n) :
    ((elI (mulL xss yss) i j : Int) : Rat) = mulF n (elQ (matQ yss)) (elQ (matQ xss)) i j := by
  have hr : xss[i]? = some xss[i] := List.getElem?_eq_getElem (by omega)
  have e1 : elI (mulL xss yss) i j = dotN (pairL xss[i] (colL yss j)) n := by
    unfold mulL
    rw [rowQ_elI (r := mulRow xss[i] yss) (by rw [List.getElem?_map, hr]; rfl)]
    unfold mulRow
    rw [List.getD_eq_getElem?_getD, List.getElem?_map, List.getElem?_range (by omega), hx _ (List.getElem_mem _)]
    rfl
  rw [e1, dotN_cast]
  unfold mulF
  refine sumQ_congr fun l hl => ?_
  rw [matQ_elI, matQ_elI, rowQ_elI hr]
  show ((xss[i].getD l 0 : Int) : Rat) * (((colL yss j).getD l 0 : Int) : Rat) = _
  congr 2
  unfold colL elI
  rw [List.getD_eq_getElem?_getD, List.getElem?_map, List.getD_eq_getElem?_getD (l := yss), List.getElem?_eq_getElem (by omega : l < yss.length)]
  rfl
/-- The determinant, as an integer. -/
theorem detS_det {xss : List (List Int)} {n : Nat} (hl : xss.length = n) (hr : ∀ r ∈ xss, r.length = n) : detS xss = detF n (elQ (matQ xss)) := by
  unfold detS
  rw [hl]
  exact red_det (matQ_rect hr) (by rw [matQ_len]; exact hl)
theorem detS_int {xss : List (List Int)} {n : Nat} (hl : xss.length = n) (hr : ∀ r ∈ xss, r.length = n) (hf : ∀ r ∈ xss, Fit9 r) : ((detS xss).num : Rat) = detS xss := by
  have h : IntLe (detK 1000000000 n) (detS xss) := by
    rw [detS_det hl hr]
    exact detF_int fun a b => matQ_el hf a b
  obtain ⟨z, h1, -⟩ := h
  rw [h1]; rfl
theorem mulL_rows {xss yss : List (List Int)} {n : Nat} (hyc : n ≠ 0 → colsN yss = n) (hxl : xss.length = n) : ∀ r ∈ mulL xss yss, r.length = n := by
  intro r hr
  unfold mulL at hr
  obtain ⟨q, hq, rfl⟩ := List.mem_map.1 hr
  rw [mulRow_len, hyc]
  have := List.length_pos_of_mem hq
  omega
/-- The determinant of the product. -/
theorem det_mul {xss yss : List (List Int)} {n : Nat} (hxl : xss.length = n) (hx : ∀ r ∈ xss, r.length = n) (hyl : yss.length = n) (hy : ∀ r ∈ yss, r.length = n) : detS (mulL xss yss) = detS xss * detS yss := by
  have hyc : n ≠ 0 → colsN yss = n := fun h => colsN_of hy (by intro e; rw [e] at hyl; simp at hyl; omega)
  rw [detS_det (by rw [mulL_len]; exact hxl) (mulL_rows hyc hxl), detS_det hxl hx, detS_det hyl hy, ← detF_mul (matQ_rect hx) (by rw [matQ_len]; exact hxl)]
  refine detF_congr fun a b ha hb => ?_
  rw [matQ_elI, elI_mul hx hxl hyl (hyc (by omega)) ha hb]
theorem transL_rows {xss : List (List Int)} {n : Nat} (hxl : xss.length = n) : ∀ r ∈ transL xss, r.length = n := by
  intro r hr
  obtain ⟨c, hc, rfl⟩ := transL_mem hr
  rw [colL_len]; exact hxl
theorem det_trans {xss : List (List Int)} {n : Nat} (hxl : xss.length = n) (hx : ∀ r ∈ xss, r.length = n) : (transL xss).length = n ∧ detS (transL xss) = detS xss := by
  have hc : colsN xss = n := by
    by_cases h : xss = []
    · subst h; simp at hxl; rw [← hxl]; rfl
    · exact colsN_of hx h
  have hl : (transL xss).length = n := by rw [transL_len]; exact hc
  refine ⟨hl, ?_⟩
  rw [detS_det hl (transL_rows hxl), detS_det hxl hx, ← detF_tr]
  refine detF_congr fun a b ha hb => ?_
  rw [matQ_elI, matQ_elI, elI_trans (by omega) (by omega)]
/-- Two rows exchanged. -/
theorem det_swap01 {r0 r1 : List Int} {l : List (List Int)} {n : Nat} (hl : (r0 :: r1 :: l).length = n) (hr : ∀ r ∈ r0 :: r1 :: l, r.length = n) : detS (r1 :: r0 :: l) = - detS (r0 :: r1 :: l) := by
  have hn : 1 < n := by rw [← hl]; simp
  rw [detS_det (n := n) (by simpa using hl) (fun r h => hr r (by simp at h ⊢; rcases h with h | h | h <;> simp [h])), detS_det hl hr]
  rw [← detF_swap (elQ (matQ (r0 :: r1 :: l))) (i := 0) (j := 1) (by omega) hn]
  refine detF_congr fun a b ha hb => ?_
  match a with
  | 0 => rfl
  | 1 => rfl
  | a + 2 => rfl
end Go.Proofs.YtpeinobepiodaaaGreatDoor
