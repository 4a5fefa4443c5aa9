/- Merged: GrowE, GrowF. -/
import Derived.Test.YtehknemdfbkimaaGreatDoorQAH
/- The steps of the Hermite form keep what the rows generate. No program is named here. -/
namespace Go.Proofs.YtehknemdfbkimaaGreatDoor
set_option linter.unusedVariables false
set_option linter.unusedSimpArgs false
open Go.RowKit

/-- What rows generate. -/
inductive Sp (n : Nat) (S : List Int → Prop) : List Int → Prop
  | zero : Sp n S (List.replicate n 0)
  | mem {r} (h : S r) : Sp n S r
  | less {r s} (k : Int) (h : Sp n S r) (h' : Sp n S s) : Sp n S (lessL k r s)
def AllLen (n : Nat) (S : List Int → Prop) : Prop := ∀ r, S r → r.length = n
theorem Sp.len {n : Nat} {S : List Int → Prop} (hS : AllLen n S) {r : List Int} (h : Sp n S r) : r.length = n := by
  induction h with
  | zero => simp
  | mem h => exact hS _ h
  | less k h h' ih ih' => rw [lessL_len]; exact ih
theorem Sp.mono {n : Nat} {S T : List Int → Prop} (hS : ∀ r, S r → Sp n T r) {r : List Int} (h : Sp n S r) : Sp n T r := by
  induction h with
  | zero => exact .zero
  | mem h => exact hS _ h
  | less k h h' ih ih' => exact .less k ih ih'
theorem Sp.zeroCol {n c : Nat} {S : List Int → Prop} (hS : AllLen n S) (hz : ∀ r, S r → r.getD c 0 = 0) {r : List Int} (h : Sp n S r) : r.getD c 0 = 0 := by
  induction h with
  | zero =>
    rw [List.getD_eq_getElem?_getD]
    by_cases hc : c < n
    · rw [List.getElem?_eq_getElem (by simpa using hc)]; simp
    · rw [List.getElem?_eq_none (by simp; omega)]; rfl
  | mem h => exact hz _ h
  | less k h h' ih ih' =>
    rw [lessL_getD k (by rw [h.len hS, h'.len hS]), ih, ih']; simp
theorem lessL_back (k : Int) : ∀ (r s : List Int), lessL (-k) (lessL k r s) s = r
  | r, [] => by
    have h1 : lessL k r [] = r := by cases r <;> rfl
    rw [h1]; cases r <;> rfl
  | [], _ :: _ => rfl
  | a :: r, b :: s => by
    have e : lessL (-k) (lessL k (a :: r) (b :: s)) (b :: s) = (a - k * b - -k * b) :: lessL (-k) (lessL k r s) s := rfl
    rw [e, lessL_back k r s, Int.neg_mul]
    congr 1; omega
theorem lessL_neg : ∀ (r : List Int), lessL 1 (List.replicate r.length 0) r = r.map (- ·)
  | [] => rfl
  | a :: r => by
    have e : lessL 1 (List.replicate (a :: r).length 0) (a :: r) = (0 - 1 * a) :: lessL 1 (List.replicate r.length 0) r := rfl
    rw [e, lessL_neg r, List.map_cons]
    congr 1; omega
theorem Sp.neg {n : Nat} {S : List Int → Prop} {r : List Int} (h : Sp n S r) (hl : r.length = n) : Sp n S (r.map (- ·)) := by
  rw [← lessL_neg, hl]; exact .less 1 .zero h
theorem lessO_some {k : Int} {r s r' : List Int} (h : lessO k r s = some r') : r' = lessL k r s := by
  unfold lessO at h
  split at h
  · rename_i h0; rw [h0, lessL_zero]; exact (Option.some.inj h).symm
  · split at h
    · exact (Option.some.inj h).symm
    · cases h

/-- The rows of a matrix from d on. -/
def RowsFrom (d : Nat) (m : List (List Int)) : List Int → Prop := fun r => ∃ i, d ≤ i ∧ i < m.length ∧ rowE_ m i = r
def SpEq (n : Nat) (S T : List Int → Prop) : Prop := (∀ r, S r → Sp n T r) ∧ (∀ r, T r → Sp n S r)
theorem SpEq.refl (n : Nat) (S : List Int → Prop) : SpEq n S S := ⟨fun _ h => .mem h, fun _ h => .mem h⟩
theorem SpEq.trans {n : Nat} {S T V : List Int → Prop} (h : SpEq n S T) (k : SpEq n T V) : SpEq n S V := ⟨fun r hr => (h.1 r hr).mono k.1, fun r hr => (k.2 r hr).mono h.2⟩
theorem SpEq.iff {n : Nat} {S T : List Int → Prop} (h : SpEq n S T) (r : List Int) : Sp n S r ↔ Sp n T r := ⟨fun hr => hr.mono h.1, fun hr => hr.mono h.2⟩
theorem rowsFrom_len {n d : Nat} {m : List (List Int)} (hw : Wid n m) : AllLen n (RowsFrom d m) := by rintro r ⟨i, -, hi, rfl⟩; exact hw i hi
theorem rowsFrom_mem {d i : Nat} {m : List (List Int)} (h1 : d ≤ i) (h2 : i < m.length) : RowsFrom d m (rowE_ m i) := ⟨i, h1, h2, rfl⟩

theorem swap_sp {n d a : Nat} {m : List (List Int)} (hd : d < m.length) (ha : a < m.length) (hda : d ≤ a) : SpEq n (RowsFrom d m) (RowsFrom d (swapL m d a)) := by
  have hr := rowE_swap hd ha
  have hl := swapL_len m d a
  constructor
  · rintro r ⟨i, h1, h2, rfl⟩
    refine .mem ?_
    by_cases e1 : i = a
    · refine ⟨d, Nat.le_refl _, by omega, ?_⟩
      rw [hr, e1]
      by_cases e2 : d = a
      · rw [if_pos e2, e2]
      · rw [if_neg e2, if_pos rfl]
    · by_cases e2 : i = d
      · exact ⟨a, hda, by omega, by rw [hr, if_pos rfl, e2]⟩
      · exact ⟨i, h1, by omega, by rw [hr, if_neg e1, if_neg e2]⟩
  · rintro r ⟨i, h1, h2, rfl⟩
    refine .mem ?_
    rw [hr]
    by_cases e1 : i = a
    · rw [if_pos e1]; exact rowsFrom_mem (Nat.le_refl _) hd
    · rw [if_neg e1]
      by_cases e2 : i = d
      · rw [if_pos e2]; exact rowsFrom_mem hda ha
      · rw [if_neg e2]; exact rowsFrom_mem h1 (by omega)

theorem down_rel {c d : Nat} {m : List (List Int)} : ∀ {k m' rest}, downO c d m k = some (m', rest) → d + 1 + k ≤ m.length → ∀ i, d < i → i < d + 1 + k → ∃ q, rowE_ m' i = lessL q (rowE_ m i) (rowE_ m d)
  | 0, m', rest, h, hk, i, h1, h2 => by omega
  | k + 1, m', rest, h, hk, i, h1, h2 => by
    obtain ⟨m1, r1, r, e1, e2, e3, e4⟩ := downO_step h
    obtain ⟨l1, l2, l3⟩ := downO_keep e1 (by omega)
    simp only [Prod.mk.injEq] at e4
    obtain ⟨rfl, -⟩ := e4
    rw [rowE_set (by omega)]
    by_cases he : i = d + 1 + k
    · rw [if_pos he, lessO_some e3, l2 d (.inl (Nat.le_refl _)), l2 (d + 1 + k) (.inr (Nat.le_refl _)), he]; exact ⟨_, rfl⟩
    · rw [if_neg he]; exact down_rel e1 (by omega) i h1 (by omega)
theorem up_rel {c d : Nat} {m : List (List Int)} : ∀ {k m'}, upO c d m k = some m' → k ≤ d → d < m.length → ∀ i, i < k → ∃ q, rowE_ m' i = lessL q (rowE_ m i) (rowE_ m d)
  | 0, m', h, hk, hd, i, h1 => by omega
  | k + 1, m', h, hk, hd, i, h1 => by
    obtain ⟨m1, r, e1, e2, e3, rfl⟩ := upO_step h
    obtain ⟨l1, l2, l3⟩ := upO_keep e1 (by omega) hd
    rw [rowE_set (by omega)]
    by_cases he : i = k
    · rw [if_pos he, lessO_some e3, l2 d (by omega), l2 k (Nat.le_refl _), he]; exact ⟨_, rfl⟩
    · rw [if_neg he]; exact up_rel e1 (by omega) hd i (by omega)
theorem down_sp {n c d k : Nat} {m m' : List (List Int)} {rest : Bool} (h : downO c d m k = some (m', rest)) (hk : d + 1 + k ≤ m.length) : SpEq n (RowsFrom d m) (RowsFrom d m') := by
  obtain ⟨l1, l2, l3⟩ := downO_keep h hk
  have hd : rowE_ m' d = rowE_ m d := l2 d (.inl (Nat.le_refl _))
  constructor
  · rintro r ⟨i, h1, h2, rfl⟩
    by_cases he : d < i ∧ i < d + 1 + k
    · obtain ⟨q, hq⟩ := down_rel h hk i he.1 he.2
      rw [← lessL_back q (rowE_ m i) (rowE_ m d), ← hq, ← hd]
      exact .less _ (.mem (rowsFrom_mem h1 (by omega))) (.mem (rowsFrom_mem (Nat.le_refl _) (by omega)))
    · rw [← l2 i (by omega)]; exact .mem (rowsFrom_mem h1 (by omega))
  · rintro r ⟨i, h1, h2, rfl⟩
    by_cases he : d < i ∧ i < d + 1 + k
    · obtain ⟨q, hq⟩ := down_rel h hk i he.1 he.2
      rw [hq]
      exact .less _ (.mem (rowsFrom_mem h1 (by omega))) (.mem (rowsFrom_mem (Nat.le_refl _) (by omega)))
    · rw [l2 i (by omega)]; exact .mem (rowsFrom_mem h1 (by omega))

/-- What a column keeps. -/
structure SwK (n d : Nat) (m m' : List (List Int)) : Prop where
  len : m'.length = m.length
  wid : Wid n m'
  sp : SpEq n (RowsFrom d m) (RowsFrom d m')
  ahead : ∀ i, i < d → ∃ q, rowE_ m' i = lessL q (rowE_ m i) (rowE_ m' d)

theorem sweep_rel {n c d : Nat} : ∀ {F : Nat} {m m' : List (List Int)} {b : Bool}, sweepO n c d F m = some (m', b) → d < m.length → Wid n m → SwK n d m m'
  | 0, m, m', b, h, hd, hw => by cases h
  | f + 1, m, m', b, h, hd, hw => by
    rw [sweepO] at h
    by_cases hok : okM n m = true
    · rw [if_pos hok] at h
      cases ha : bestO c d m (m.length - d) with
      | none =>
        rw [ha] at h
        simp only [Option.some.injEq, Prod.mk.injEq] at h
        obtain ⟨rfl, -⟩ := h
        exact ⟨rfl, hw, SpEq.refl _ _, fun i _ => ⟨0, (lessL_zero _ _).symm⟩⟩
      | some a =>
        rw [ha] at h
        simp only at h
        obtain ⟨b1, b2, b3, b4⟩ := best_some ha
        have hal : a < m.length := by omega
        have hsl := swapL_len m d a
        have hws : Wid n (swapL m d a) := by
          intro i hi
          rw [rowE_swap hd hal]
          split
          · exact hw d hd
          · split
            · exact hw a hal
            · exact hw i (by omega)
        cases hdn : downO c d (swapL m d a) (m.length - (d + 1)) with
        | none => rw [hdn] at h; cases h
        | some y =>
          obtain ⟨m2, rest⟩ := y
          rw [hdn] at h
          obtain ⟨l1, l2, l3⟩ := downO_keep hdn (by omega)
          have hw2 : Wid n m2 := fun i hi => by rw [l3 i]; exact hws i (by omega)
          have hsp : SpEq n (RowsFrom d m) (RowsFrom d m2) := (swap_sp hd hal b1).trans (down_sp hdn (by omega))
          have hah : ∀ i, i < d → rowE_ m2 i = rowE_ m i := fun i hi => by
            rw [l2 i (.inl (by omega)), rowE_swap hd hal, if_neg (by omega), if_neg (by omega)]
          cases rest with
          | true =>
            simp only at h
            have s := sweep_rel h (by omega) hw2
            refine ⟨by rw [s.len, l1, hsl], s.wid, hsp.trans s.sp, fun i hi => ?_⟩
            obtain ⟨q, hq⟩ := s.ahead i hi
            rw [hah i hi] at hq; exact ⟨q, hq⟩
          | false =>
            simp only at h
            by_cases hok2 : okM n m2 = true
            · rw [if_pos hok2] at h
              obtain ⟨m3, hm3⟩ : ∃ m3, m3 = (if getE m2 d c < 0 then m2.set d ((rowE_ m2 d).map (- ·)) else m2) := ⟨_, rfl⟩
              rw [← hm3] at h
              have hd2 : d < m2.length := by omega
              have l3' : m3.length = m2.length := by rw [hm3]; split <;> simp
              have r3 : ∀ i, i ≠ d → rowE_ m3 i = rowE_ m2 i := by
                intro i hi
                rw [hm3]; split
                · rw [rowE_set hd2, if_neg hi]
                · rfl
              have d3 : rowE_ m3 d = rowE_ m2 d ∨ rowE_ m3 d = (rowE_ m2 d).map (- ·) := by
                rw [hm3]; split
                · rw [rowE_set hd2, if_pos rfl]; exact .inr rfl
                · exact .inl rfl
              have hnn : ∀ r : List Int, (r.map (- ·)).map (- ·) = r := fun r => by
                rw [List.map_map]
                have : ((fun x : Int => -x) ∘ fun x : Int => -x) = id := by funext x; simp
                rw [this, List.map_id]
              have sp3 : SpEq n (RowsFrom d m2) (RowsFrom d m3) := by
                constructor
                · rintro r ⟨i, h1, h2, rfl⟩
                  by_cases he : i = d
                  · rw [he]
                    rcases d3 with e | e
                    · rw [← e]; exact .mem (rowsFrom_mem (Nat.le_refl _) (by omega))
                    · rw [← hnn (rowE_ m2 d), ← e]
                      refine (Sp.mem (rowsFrom_mem (Nat.le_refl _) (by omega))).neg ?_
                      rw [e, List.length_map]; exact hw2 d hd2
                  · rw [← r3 i he]; exact .mem (rowsFrom_mem h1 (by omega))
                · rintro r ⟨i, h1, h2, rfl⟩
                  by_cases he : i = d
                  · rw [he]
                    rcases d3 with e | e
                    · rw [e]; exact .mem (rowsFrom_mem (Nat.le_refl _) hd2)
                    · rw [e]; exact (Sp.mem (rowsFrom_mem (Nat.le_refl _) hd2)).neg (hw2 d hd2)
                  · rw [r3 i he]; exact .mem (rowsFrom_mem h1 (by omega))
              have hw3 : Wid n m3 := by
                intro i hi
                by_cases he : i = d
                · rw [he]; rcases d3 with e | e
                  · rw [e]; exact hw2 d hd2
                  · rw [e, List.length_map]; exact hw2 d hd2
                · rw [r3 i he]; exact hw2 i (by omega)
              cases hu : upO c d m3 d with
              | none => rw [hu] at h; cases h
              | some m4 =>
                rw [hu] at h
                simp only [Option.some.injEq, Prod.mk.injEq] at h
                obtain ⟨rfl, -⟩ := h
                obtain ⟨u1, u2, u3⟩ := upO_keep hu (Nat.le_refl _) (by omega)
                refine ⟨by omega, fun i hi => by rw [u3 i]; exact hw3 i (by omega), (hsp.trans sp3).trans ?_, fun i hi => ?_⟩
                · constructor
                  · rintro r ⟨i, h1, h2, rfl⟩
                    rw [← u2 i h1]; exact .mem (rowsFrom_mem h1 (by omega))
                  · rintro r ⟨i, h1, h2, rfl⟩
                    rw [u2 i h1]; exact .mem (rowsFrom_mem h1 (by omega))
                · obtain ⟨q, hq⟩ := up_rel hu (Nat.le_refl _) (by omega) i hi
                  refine ⟨q, ?_⟩
                  rw [hq, u2 d (Nat.le_refl _), r3 i (by omega), hah i hi]
            · rw [if_neg hok2] at h; cases h
    · rw [if_neg hok] at h; cases h
end Go.Proofs.YtehknemdfbkimaaGreatDoor
/- The Hermite form is there for every matrix of few rows, is one, and generates the same. No program is named here. -/
namespace Go.Proofs.YtehknemdfbkimaaGreatDoor
set_option linter.unusedVariables false
set_option linter.unusedSimpArgs false
open Go.RowKit

/-- The first d rows are in Hermite form, with their pivots ahead of column c, and the rows behind them are 0 there. -/
structure HP (m : List (List Int)) (d c : Nat) (ps : Nat → Nat) : Prop where
  lt : ∀ i, i < d → ps i < c
  mono : ∀ i j, i < j → j < d → ps i < ps j
  zero : ∀ i, i < d → ∀ c', c' < ps i → getE m i c' = 0
  pos : ∀ i, i < d → 0 < getE m i (ps i)
  red : ∀ i j, i < j → j < d → 0 ≤ getE m i (ps j) ∧ getE m i (ps j) < getE m j (ps j)
  rest : ∀ i, d ≤ i → i < m.length → ∀ c', c' < c → getE m i c' = 0

theorem HP.step {n c d C U : Nat} {m m' : List (List Int)} {ps : Nat → Nat} (h : HP m d c ps) (hd : d < m.length) (hw : Wid n m) (s : SwR n d c C U m m') (k : SwK n d m m') : HP m' (d + 1) (c + 1) (fun i => if i < d then ps i else c) := by
  have hz : ∀ i, d ≤ i → i < m'.length → ∀ c', c' < c → getE m' i c' = 0 := by
    intro i h1 h2 c' hc
    have hi : Sp n (RowsFrom d m) (rowE_ m' i) := k.sp.2 _ (rowsFrom_mem h1 h2)
    exact hi.zeroCol (rowsFrom_len hw) (by rintro r ⟨j, j1, j2, rfl⟩; exact h.rest j j1 j2 c' hc)
  have hkeep : ∀ i, i < d → ∀ c', c' < c → getE m' i c' = getE m i c' := by
    intro i hi c' hc
    obtain ⟨q, hq⟩ := k.ahead i hi
    have h0 := hz d (Nat.le_refl _) (by rw [s.len]; exact hd) c' hc
    show (rowE_ m' i).getD c' 0 = _
    rw [hq, lessL_getD q (by rw [s.wid d (by rw [s.len]; exact hd), hw i (by omega)])]
    have h1 : (rowE_ m' d).getD c' 0 = 0 := h0
    rw [h1]; simp; rfl
  refine ⟨fun i hi => ?_, fun i j hij hj => ?_, fun i hi c' hc => ?_, fun i hi => ?_, fun i j hij hj => ?_, fun i h1 h2 c' hc => ?_⟩
  · split
    · rename_i hd'; have := h.lt i hd'; omega
    · omega
  · rw [if_pos (show i < d by omega)]
    split
    · rename_i hd'; exact h.mono i j hij hd'
    · exact h.lt i (by omega)
  · split at hc
    · rename_i hd'
      rw [hkeep i hd' c' (by have := h.lt i hd'; omega)]; exact h.zero i hd' c' hc
    · obtain rfl : i = d := by omega
      exact hz i (Nat.le_refl _) (by rw [s.len]; exact hd) c' hc
  · split
    · rename_i hd'
      rw [hkeep i hd' _ (h.lt i hd')]; exact h.pos i hd'
    · obtain rfl : i = d := by omega
      exact s.pos
  · split
    · rename_i hd'
      rw [hkeep i (by omega) _ (h.lt j hd'), hkeep j hd' _ (h.lt j hd')]
      exact h.red i j hij hd'
    · obtain rfl : j = d := by omega
      exact s.red i hij
  · by_cases hcc : c' = c
    · rw [hcc]; exact s.zero i (by omega) (by rw [← s.len]; exact h2)
    · exact hz i (by omega) h2 c' (by omega)

theorem sp_all {n d : Nat} {m m' : List (List Int)} (k : SwK n d m m') (hd : d < m.length) : SpEq n (RowsFrom 0 m) (RowsFrom 0 m') := by
  have hdm : ∀ {x : List (List Int)} {r}, RowsFrom d x r → RowsFrom 0 x r := fun ⟨i, h1, h2, h3⟩ => ⟨i, by omega, h2, h3⟩
  constructor
  · rintro r ⟨i, -, h2, rfl⟩
    by_cases hi : i < d
    · obtain ⟨q, hq⟩ := k.ahead i hi
      rw [← lessL_back q (rowE_ m i) (rowE_ m' d), ← hq]
      exact .less _ (.mem (rowsFrom_mem (by omega) (by rw [k.len]; exact h2))) (.mem (rowsFrom_mem (by omega) (by rw [k.len]; exact hd)))
    · exact (k.sp.1 _ (rowsFrom_mem (by omega) h2)).mono fun r hr => .mem (hdm hr)
  · rintro r ⟨i, -, h2, rfl⟩
    by_cases hi : i < d
    · obtain ⟨q, hq⟩ := k.ahead i hi
      rw [hq]
      refine .less _ (.mem (rowsFrom_mem (by omega) (by omega))) ?_
      exact (k.sp.2 _ (rowsFrom_mem (Nat.le_refl _) (by rw [k.len]; exact hd))).mono fun r hr => .mem (hdm hr)
    · exact (k.sp.2 _ (rowsFrom_mem (by omega) h2)).mono fun r hr => .mem (hdm hr)

theorem cols_all {n K F : Nat} (hK : K ≤ 400000000) :
    ∀ (k c d r b u : Nat) (m : List (List Int)) (ps : Nat → Nat), d ≤ m.length → Wid n m → Low d (10 ^ b) m → Upp d (10 ^ u) m → HP m d c ps → (m.length - d ≤ r ∨ k ≤ r) → (gN r b u).1 + 1 ≤ K → (gN r b u).2 + 1 ≤ K → 10 ^ (gN r b u).1 < F →
      ∃ m' d' ps', colsO n F k c d m = some (m', d') ∧ m'.length = m.length ∧ d' ≤ m'.length ∧ Wid n m' ∧ Upp d' (10 ^ (gN r b u).2) m' ∧ HP m' d' (c + k) ps' ∧ SpEq n (RowsFrom 0 m) (RowsFrom 0 m')
  | 0, c, d, r, b, u, m, ps, hd, hw, hl, hu, hp, hr, h1, h2, hF => ⟨m, d, ps, rfl, rfl, hd, hw, fun i a1 a2 => (hu i a1 a2).mono (pow_mono (gN_le r b u).2), hp, SpEq.refl _ _⟩
  | k + 1, c, d, r, b, u, m, ps, hd, hw, hl, hu, hp, hr, h1, h2, hF => by
    have hg := gN_le r b u
    by_cases hlt : d < m.length
    · obtain ⟨r, rfl⟩ : ∃ r', r = r' + 1 := ⟨r - 1, by omega⟩
      have hg1 := gN_le r (4 * b + 1) (u + 4 * b + 2)
      have e1 : gN (r + 1) b u = gN r (4 * b + 1) (u + 4 * b + 2) := rfl
      rw [e1] at hg h1 h2 hF
      have p4 := pow_pos10 (4 * b)
      have pb := pow_pos10 b
      have pu := pow_pos10 u
      have hY : 2 * (3 * (10 ^ b * 10 ^ b * (10 ^ b * 10 ^ b))) + 2 < 10 ^ K := by
        rw [pow4]
        have e2 := pow_one_up (4 * b)
        have e3 : 10 ^ (4 * b + 1) ≤ 10 ^ K := pow_mono (by omega)
        omega
      have hBK : 10 ^ b + 2 < 10 ^ K := by
        have e2 := pow_one_up b
        have e3 : 10 ^ (b + 1) ≤ 10 ^ K := pow_mono (by omega)
        omega
      have hUK : 10 ^ u + 2 < 10 ^ K := by
        have e2 := pow_one_up u
        have e3 : 10 ^ (u + 1) ≤ 10 ^ K := pow_mono (by omega)
        omega
      have hFb : 10 ^ b < F := Nat.lt_of_le_of_lt (pow_mono hg.1) hF
      have hC : 2 * (3 * (10 ^ b * 10 ^ b * (10 ^ b * 10 ^ b))) ≤ 10 ^ (4 * b + 1) := by
        rw [pow4, pow_one_up]; omega
      have hC2 : 10 ^ (4 * b + 1) ≤ 10 ^ (u + 4 * b + 2) := pow_mono (by omega)
      have hU2 : 10 ^ u + (10 ^ u + 1) * (2 * (3 * (10 ^ b * 10 ^ b * (10 ^ b * 10 ^ b)))) ≤ 10 ^ (u + 4 * b + 2) := by
        rw [pow4]
        have e2 : 10 ^ (u + 4 * b + 2) = 100 * (10 ^ u * 10 ^ (4 * b)) := by rw [Nat.pow_succ, Nat.pow_succ, Nat.pow_add]; omega
        have e3 : 10 ^ u ≤ 10 ^ u * 10 ^ (4 * b) := Nat.le_mul_of_pos_right _ (by omega)
        have e4 : 10 ^ (4 * b) ≤ 10 ^ u * 10 ^ (4 * b) := Nat.le_mul_of_pos_left _ (by omega)
        have e5 : (10 ^ u + 1) * (2 * (3 * 10 ^ (4 * b))) = 6 * (10 ^ u * 10 ^ (4 * b)) + 6 * 10 ^ (4 * b) := by
          rw [Nat.add_mul, Nat.one_mul, Nat.mul_left_comm, Nat.mul_left_comm _ 3]; omega
        rw [e2, e5]; omega
      rcases sweep_ok (n := n) (c := c) (F := F) hK (by omega) hY hBK hUK hFb hlt hw hl hu with ⟨hs, hz⟩ | ⟨m', hs, s⟩
      · have hr' : m.length - d ≤ r + 1 ∨ k ≤ r + 1 := by omega
        have hp' : HP m d (c + 1) ps := ⟨fun i hi => by have := hp.lt i hi; omega, hp.mono, hp.zero, hp.pos, hp.red, fun i a1 a2 c' hc => by
          by_cases hcc : c' = c
          · rw [hcc]; exact hz i a1 a2
          · exact hp.rest i a1 a2 c' (by omega)⟩
        obtain ⟨m', d', ps', q1, q2, q3, q4, q5, q6, q7⟩ := cols_all hK k (c + 1) d (r + 1) b u m ps hd hw hl hu hp' hr' (by rw [e1]; exact h1) (by rw [e1]; exact h2) (by rw [e1]; exact hF)
        refine ⟨m', d', ps', ?_, q2, q3, q4, q5, by rw [Nat.add_right_comm] at q6; exact q6, q7⟩
        rw [colsO, if_pos hlt, hs]; exact q1
      · have hk := sweep_rel hs hlt hw
        have hlow : Low (d + 1) (10 ^ (4 * b + 1)) m' := fun i a1 a2 => (s.low i (by omega) a2).mono hC
        have hupp : Upp (d + 1) (10 ^ (u + 4 * b + 2)) m' := rowLe_split s.low s.upp (Nat.le_trans hC hC2) hU2 (d + 1)
        have hr' : m'.length - (d + 1) ≤ r ∨ k ≤ r := by have := s.len; omega
        obtain ⟨m2, d', ps', q1, q2, q3, q4, q5, q6, q7⟩ := cols_all hK k (c + 1) (d + 1) r (4 * b + 1) (u + 4 * b + 2) m' _ (by rw [s.len]; omega) s.wid hlow hupp (hp.step hlt hw s hk) hr' h1 h2 hF
        refine ⟨m2, d', ps', ?_, q2.trans s.len, q3, q4, q5, by rw [Nat.add_right_comm] at q6; exact q6, (sp_all hk hlt).trans q7⟩
        rw [colsO, if_pos hlt, hs]; exact q1
    · refine ⟨m, d, ps, ?_, rfl, hd, hw, fun i a1 a2 => (hu i a1 a2).mono (pow_mono hg.2), ⟨fun i hi => by have := hp.lt i hi; omega, hp.mono, hp.zero, hp.pos, hp.red, fun i a1 a2 => by omega⟩, SpEq.refl _ _⟩
      rw [colsO, if_neg hlt]

/-- Rows in Hermite form. -/
def HForm (n : Nat) (R : List (List Int)) (ps : Nat → Nat) : Prop := Wid n R ∧ HP R R.length n ps
theorem rowE_take {m : List (List Int)} {d i : Nat} (h : i < d) : rowE_ (m.take d) i = rowE_ m i := by
  unfold rowE_; rw [List.getD_eq_getElem?_getD, List.getD_eq_getElem?_getD, List.getElem?_take, if_pos h]
theorem getE_take {m : List (List Int)} {d i c : Nat} (h : i < d) : getE (m.take d) i c = getE m i c := by unfold getE; rw [rowE_take h]
/-- A row of zeros. -/
theorem row_zero {n : Nat} {r : List Int} (hl : r.length = n) (hz : ∀ c, c < n → r.getD c 0 = 0) : r = List.replicate n 0 := by
  apply List.ext_getElem (by simpa using hl)
  intro i h1 h2
  have := hz i (by omega)
  rw [List.getD_eq_getElem?_getD, List.getElem?_eq_getElem h1] at this
  simpa using this

/-- The Hermite form of a matrix whose rows (or columns) are few: there is a fuel for it; it is in Hermite form, and generates the same. -/
theorem form_all (n r b : Nat) (m : List (List Int)) (hw : ∀ x ∈ m, x.length = n) (hb : ∀ x ∈ m, RowLe (10 ^ b) x) (hr : m.length ≤ r ∨ n ≤ r) (h1 : (gN r b 0).1 + 1 ≤ 400000000) (h2 : (gN r b 0).2 + 1 ≤ 400000000) :
    ∃ F R ps, formO n F n m = some R ∧ R.length ≤ m.length ∧ HForm n R ps ∧ (∀ x ∈ R, RowLe (10 ^ (gN r b 0).2) x) ∧ SpEq n (RowsFrom 0 m) (RowsFrom 0 R) := by
  have hmem : ∀ (m' : List (List Int)) i, i < m'.length → rowE_ m' i ∈ m' := fun m' i hi => List.mem_of_getElem? (rowE_get hi)
  have hwm : Wid n m := fun i hi => hw _ (hmem m i hi)
  obtain ⟨m', d', ps, q1, q2, q3, q4, q5, q6, q7⟩ := cols_all (n := n) (F := 10 ^ (gN r b 0).1 + 1) (Nat.le_refl 400000000) n 0 0 r b 0 m (fun _ => 0) (by omega) hwm (fun i _ hi => hb _ (hmem m i hi)) (fun i hi _ => by omega)
    ⟨fun i hi => by omega, fun i j _ hj => by omega, fun i hi => by omega, fun i hi => by omega, fun i j _ hj => by omega, fun i _ _ c' hc => by omega⟩ (by omega) h1 h2 (Nat.lt_succ_self _)
  rw [Nat.zero_add] at q6
  have hlen : (m'.take d').length = d' := by rw [List.length_take]; omega
  have hW : Wid n (m'.take d') := fun i hi => by rw [hlen] at hi; rw [rowE_take hi]; exact q4 i (by omega)
  refine ⟨10 ^ (gN r b 0).1 + 1, m'.take d', ps, by unfold formO; rw [q1], by rw [hlen, ← q2]; exact q3, ⟨hW, ?_⟩, fun x hx => ?_, q7.trans ?_⟩
  · rw [hlen]
    exact ⟨q6.lt, q6.mono, fun i hi c' hc => by rw [getE_take hi]; exact q6.zero i hi c' hc, fun i hi => by rw [getE_take hi]; exact q6.pos i hi, fun i j hij hj => by
      rw [getE_take (show i < d' by omega), getE_take hj]; exact q6.red i j hij hj, fun i a1 a2 => by rw [hlen] at a2; omega⟩
  · obtain ⟨i, hi⟩ := List.getElem?_of_mem hx
    have hil := (List.getElem?_eq_some_iff.1 hi).1
    rw [hlen] at hil
    rw [← rowE_of hi, rowE_take hil]; exact q5 i hil (by omega)
  · constructor
    · rintro x ⟨i, -, h2, rfl⟩
      by_cases hi : i < d'
      · rw [← rowE_take (m := m') hi]; exact .mem (rowsFrom_mem (by omega) (by omega))
      · rw [row_zero (q4 i h2) (fun c hc => q6.rest i (by omega) h2 c hc)]; exact .zero
    · rintro x ⟨i, -, h2, rfl⟩
      rw [hlen] at h2
      rw [rowE_take h2]; exact .mem (rowsFrom_mem (by omega) (by omega))
end Go.Proofs.YtehknemdfbkimaaGreatDoor
