/- Merged: GrowE. -/
import Derived.Test.YtehknemdfbkimaaGreatDoorQAI
/- The steps of the Hermite form keep what the rows generate. No program is named here. -/
namespace Go.Proofs.YtehknemdfbkimaaGreatDoor
set_option linter.unusedVariables false
set_option linter.unusedSimpArgs false
open Go.RowKit

/-- What rows generate. -/
inductive Sp (n : Nat) (S : List Int → Prop) : List Int → Prop
  | zero : Sp n S (List.replicate n 0)
  | mem {r} (h : S r) : Sp n S r
  | less {r s} (k : Int) (h : Sp n S r) (h' : Sp n S s) : Sp n S (lessL k r s)
def AllLen (n : Nat) (S : List Int → Prop) : Prop := ∀ r, S r → r.length = n
theorem Sp.len {n : Nat} {S : List Int → Prop} (hS : AllLen n S) {r : List Int} (h : Sp n S r) : r.length = n := by
  induction h with
  | zero => simp
  | mem h => exact hS _ h
  | less k h h' ih ih' => rw [lessL_len]; exact ih
theorem Sp.mono {n : Nat} {S T : List Int → Prop} (hS : ∀ r, S r → Sp n T r) {r : List Int} (h : Sp n S r) : Sp n T r := by
  induction h with
  | zero => exact .zero
  | mem h => exact hS _ h
  | less k h h' ih ih' => exact .less k ih ih'
theorem Sp.zeroCol {n c : Nat} {S : List Int → Prop} (hS : AllLen n S) (hz : ∀ r, S r → r.getD c 0 = 0) {r : List Int} (h : Sp n S r) : r.getD c 0 = 0 := by
  induction h with
  | zero =>
    rw [List.getD_eq_getElem?_getD]
    by_cases hc : c < n
    · rw [List.getElem?_eq_getElem (by simpa using hc)]; simp
    · rw [List.getElem?_eq_none (by simp; omega)]; rfl
  | mem h => exact hz _ h
  | less k h h' ih ih' =>
    rw [lessL_getD k (by rw [h.len hS, h'.len hS]), ih, ih']; simp
theorem lessL_back (k : Int) : ∀ (r s : List Int), lessL (-k) (lessL k r s) s = r
  | r, [] => by
    have h1 : lessL k r [] = r := by cases r <;> rfl
    rw [h1]; cases r <;> rfl
  | [], _ :: _ => rfl
  | a :: r, b :: s => by
    have e : lessL (-k) (lessL k (a :: r) (b :: s)) (b :: s) = (a - k * b - -k * b) :: lessL (-k) (lessL k r s) s := rfl
    rw [e, lessL_back k r s, Int.neg_mul]
    congr 1; omega
theorem lessL_neg : ∀ (r : List Int), lessL 1 (List.replicate r.length 0) r = r.map (- ·)
  | [] => rfl
  | a :: r => by
    have e : lessL 1 (List.replicate (a :: r).length 0) (a :: r) = (0 - 1 * a) :: lessL 1 (List.replicate r.length 0) r := rfl
    rw [e, lessL_neg r, List.map_cons]
    congr 1; omega
theorem Sp.neg {n : Nat} {S : List Int → Prop} {r : List Int} (h : Sp n S r) (hl : r.length = n) : Sp n S (r.map (- ·)) := by
  rw [← lessL_neg, hl]; exact .less 1 .zero h
theorem lessO_some {k : Int} {r s r' : List Int} (h : lessO k r s = some r') : r' = lessL k r s := by
  unfold lessO at h
  split at h
  · rename_i h0; rw [h0, lessL_zero]; exact (Option.some.inj h).symm
  · split at h
    · exact (Option.some.inj h).symm
    · cases h

/-- The rows of a matrix from d on. -/
def RowsFrom (d : Nat) (m : List (List Int)) : List Int → Prop := fun r => ∃ i, d ≤ i ∧ i < m.length ∧ rowE_ m i = r
def SpEq (n : Nat) (S T : List Int → Prop) : Prop := (∀ r, S r → Sp n T r) ∧ (∀ r, T r → Sp n S r)
theorem SpEq.refl (n : Nat) (S : List Int → Prop) : SpEq n S S := ⟨fun _ h => .mem h, fun _ h => .mem h⟩
theorem SpEq.trans {n : Nat} {S T V : List Int → Prop} (h : SpEq n S T) (k : SpEq n T V) : SpEq n S V := ⟨fun r hr => (h.1 r hr).mono k.1, fun r hr => (k.2 r hr).mono h.2⟩
theorem SpEq.iff {n : Nat} {S T : List Int → Prop} (h : SpEq n S T) (r : List Int) : Sp n S r ↔ Sp n T r := ⟨fun hr => hr.mono h.1, fun hr => hr.mono h.2⟩
theorem rowsFrom_len {n d : Nat} {m : List (List Int)} (hw : Wid n m) : AllLen n (RowsFrom d m) := by rintro r ⟨i, -, hi, rfl⟩; exact hw i hi
theorem rowsFrom_mem {d i : Nat} {m : List (List Int)} (h1 : d ≤ i) (h2 : i < m.length) : RowsFrom d m (rowE_ m i) := ⟨i, h1, h2, rfl⟩

theorem swap_sp {n d a : Nat} {m : List (List Int)} (hd : d < m.length) (ha : a < m.length) (hda : d ≤ a) : SpEq n (RowsFrom d m) (RowsFrom d (swapL m d a)) := by
  have hr := rowE_swap hd ha
  have hl := swapL_len m d a
  constructor
  · rintro r ⟨i, h1, h2, rfl⟩
    refine .mem ?_
    by_cases e1 : i = a
    · refine ⟨d, Nat.le_refl _, by omega, ?_⟩
      rw [hr, e1]
      by_cases e2 : d = a
      · rw [if_pos e2, e2]
      · rw [if_neg e2, if_pos rfl]
    · by_cases e2 : i = d
      · exact ⟨a, hda, by omega, by rw [hr, if_pos rfl, e2]⟩
      · exact ⟨i, h1, by omega, by rw [hr, if_neg e1, if_neg e2]⟩
  · rintro r ⟨i, h1, h2, rfl⟩
    refine .mem ?_
    rw [hr]
    by_cases e1 : i = a
    · rw [if_pos e1]; exact rowsFrom_mem (Nat.le_refl _) hd
    · rw [if_neg e1]
      by_cases e2 : i = d
      · rw [if_pos e2]; exact rowsFrom_mem hda ha
      · rw [if_neg e2]; exact rowsFrom_mem h1 (by omega)

theorem down_rel {c d : Nat} {m : List (List Int)} : ∀ {k m' rest}, downO c d m k = some (m', rest) → d + 1 + k ≤ m.length → ∀ i, d < i → i < d + 1 + k → ∃ q, rowE_ m' i = lessL q (rowE_ m i) (rowE_ m d)
  | 0, m', rest, h, hk, i, h1, h2 => by omega
  | k + 1, m', rest, h, hk, i, h1, h2 => by
    obtain ⟨m1, r1, r, e1, e2, e3, e4⟩ := downO_step h
    obtain ⟨l1, l2, l3⟩ := downO_keep e1 (by omega)
    simp only [Prod.mk.injEq] at e4
    obtain ⟨rfl, -⟩ := e4
    rw [rowE_set (by omega)]
    by_cases he : i = d + 1 + k
    · rw [if_pos he, lessO_some e3, l2 d (.inl (Nat.le_refl _)), l2 (d + 1 + k) (.inr (Nat.le_refl _)), he]; exact ⟨_, rfl⟩
    · rw [if_neg he]; exact down_rel e1 (by omega) i h1 (by omega)
theorem up_rel {c d : Nat} {m : List (List Int)} : ∀ {k m'}, upO c d m k = some m' → k ≤ d → d < m.length → ∀ i, i < k → ∃ q, rowE_ m' i = lessL q (rowE_ m i) (rowE_ m d)
  | 0, m', h, hk, hd, i, h1 => by omega
  | k + 1, m', h, hk, hd, i, h1 => by
    obtain ⟨m1, r, e1, e2, e3, rfl⟩ := upO_step h
    obtain ⟨l1, l2, l3⟩ := upO_keep e1 (by omega) hd
    rw [rowE_set (by omega)]
    by_cases he : i = k
    · rw [if_pos he, lessO_some e3, l2 d (by omega), l2 k (Nat.le_refl _), he]; exact ⟨_, rfl⟩
    · rw [if_neg he]; exact up_rel e1 (by omega) hd i (by omega)
theorem down_sp {n c d k : Nat} {m m' : List (List Int)} {rest : Bool} (h : downO c d m k = some (m', rest)) (hk : d + 1 + k ≤ m.length) : SpEq n (RowsFrom d m) (RowsFrom d m') := by
  obtain ⟨l1, l2, l3⟩ := downO_keep h hk
  have hd : rowE_ m' d = rowE_ m d := l2 d (.inl (Nat.le_refl _))
  constructor
  · rintro r ⟨i, h1, h2, rfl⟩
    by_cases he : d < i ∧ i < d + 1 + k
    · obtain ⟨q, hq⟩ := down_rel h hk i he.1 he.2
      rw [← lessL_back q (rowE_ m i) (rowE_ m d), ← hq, ← hd]
      exact .less _ (.mem (rowsFrom_mem h1 (by omega))) (.mem (rowsFrom_mem (Nat.le_refl _) (by omega)))
    · rw [← l2 i (by omega)]; exact .mem (rowsFrom_mem h1 (by omega))
  · rintro r ⟨i, h1, h2, rfl⟩
    by_cases he : d < i ∧ i < d + 1 + k
    · obtain ⟨q, hq⟩ := down_rel h hk i he.1 he.2
      rw [hq]
      exact .less _ (.mem (rowsFrom_mem h1 (by omega))) (.mem (rowsFrom_mem (Nat.le_refl _) (by omega)))
    · rw [l2 i (by omega)]; exact .mem (rowsFrom_mem h1 (by omega))

/-- What a column keeps. -/
structure SwK (n d : Nat) (m m' : List (List Int)) : Prop where
  len : m'.length = m.length
  wid : Wid n m'
  sp : SpEq n (RowsFrom d m) (RowsFrom d m')
  ahead : ∀ i, i < d → ∃ q, rowE_ m' i = lessL q (rowE_ m i) (rowE_ m' d)

theorem sweep_rel {n c d : Nat} : ∀ {F : Nat} {m m' : List (List Int)} {b : Bool}, sweepO n c d F m = some (m', b) → d < m.length → Wid n m → SwK n d m m'
  | 0, m, m', b, h, hd, hw => by cases h
  | f + 1, m, m', b, h, hd, hw => by
    rw [sweepO] at h
    by_cases hok : okM n m = true
    · rw [if_pos hok] at h
      cases ha : bestO c d m (m.length - d) with
      | none =>
        rw [ha] at h
        simp only [Option.some.injEq, Prod.mk.injEq] at h
        obtain ⟨rfl, -⟩ := h
        exact ⟨rfl, hw, SpEq.refl _ _, fun i _ => ⟨0, (lessL_zero _ _).symm⟩⟩
      | some a =>
        rw [ha] at h
        simp only at h
        obtain ⟨b1, b2, b3, b4⟩ := best_some ha
        have hal : a < m.length := by omega
        have hsl := swapL_len m d a
        have hws : Wid n (swapL m d a) := by
          intro i hi
          rw [rowE_swap hd hal]
          split
          · exact hw d hd
          · split
            · exact hw a hal
            · exact hw i (by omega)
        cases hdn : downO c d (swapL m d a) (m.length - (d + 1)) with
        | none => rw [hdn] at h; cases h
        | some y =>
          obtain ⟨m2, rest⟩ := y
          rw [hdn] at h
          obtain ⟨l1, l2, l3⟩ := downO_keep hdn (by omega)
          have hw2 : Wid n m2 := fun i hi => by rw [l3 i]; exact hws i (by omega)
          have hsp : SpEq n (RowsFrom d m) (RowsFrom d m2) := (swap_sp hd hal b1).trans (down_sp hdn (by omega))
          have hah : ∀ i, i < d → rowE_ m2 i = rowE_ m i := fun i hi => by
            rw [l2 i (.inl (by omega)), rowE_swap hd hal, if_neg (by omega), if_neg (by omega)]
          cases rest with
          | true =>
            simp only at h
            have s := sweep_rel h (by omega) hw2
            refine ⟨by rw [s.len, l1, hsl], s.wid, hsp.trans s.sp, fun i hi => ?_⟩
            obtain ⟨q, hq⟩ := s.ahead i hi
            rw [hah i hi] at hq; exact ⟨q, hq⟩
          | false =>
            simp only at h
            by_cases hok2 : okM n m2 = true
            · rw [if_pos hok2] at h
              obtain ⟨m3, hm3⟩ : ∃ m3, m3 = (if getE m2 d c < 0 then m2.set d ((rowE_ m2 d).map (- ·)) else m2) := ⟨_, rfl⟩
              rw [← hm3] at h
              have hd2 : d < m2.length := by omega
              have l3' : m3.length = m2.length := by rw [hm3]; split <;> simp
              have r3 : ∀ i, i ≠ d → rowE_ m3 i = rowE_ m2 i := by
                intro i hi
                rw [hm3]; split
                · rw [rowE_set hd2, if_neg hi]
                · rfl
              have d3 : rowE_ m3 d = rowE_ m2 d ∨ rowE_ m3 d = (rowE_ m2 d).map (- ·) := by
                rw [hm3]; split
                · rw [rowE_set hd2, if_pos rfl]; exact .inr rfl
                · exact .inl rfl
              have hnn : ∀ r : List Int, (r.map (- ·)).map (- ·) = r := fun r => by
                rw [List.map_map]
                have : ((fun x : Int => -x) ∘ fun x : Int => -x) = id := by funext x; simp
                rw [this, List.map_id]
              have sp3 : SpEq n (RowsFrom d m2) (RowsFrom d m3) := by
                constructor
                · rintro r ⟨i, h1, h2, rfl⟩
                  by_cases he : i = d
                  · rw [he]
                    rcases d3 with e | e
                    · rw [← e]; exact .mem (rowsFrom_mem (Nat.le_refl _) (by omega))
                    · rw [← hnn (rowE_ m2 d), ← e]
                      refine (Sp.mem (rowsFrom_mem (Nat.le_refl _) (by omega))).neg ?_
                      rw [e, List.length_map]; exact hw2 d hd2
                  · rw [← r3 i he]; exact .mem (rowsFrom_mem h1 (by omega))
                · rintro r ⟨i, h1, h2, rfl⟩
                  by_cases he : i = d
                  · rw [he]
                    rcases d3 with e | e
                    · rw [e]; exact .mem (rowsFrom_mem (Nat.le_refl _) hd2)
                    · rw [e]; exact (Sp.mem (rowsFrom_mem (Nat.le_refl _) hd2)).neg (hw2 d hd2)
                  · rw [r3 i he]; exact .mem (rowsFrom_mem h1 (by omega))
              have hw3 : Wid n m3 := by
                intro i hi
                by_cases he : i = d
                · rw [he]; rcases d3 with e | e
                  · rw [e]; exact hw2 d hd2
                  · rw [e, List.length_map]; exact hw2 d hd2
                · rw [r3 i he]; exact hw2 i (by omega)
              cases hu : upO c d m3 d with
              | none => rw [hu] at h; cases h
              | some m4 =>
                rw [hu] at h
                simp only [Option.some.injEq, Prod.mk.injEq] at h
                obtain ⟨rfl, -⟩ := h
                obtain ⟨u1, u2, u3⟩ := upO_keep hu (Nat.le_refl _) (by omega)
                refine ⟨by omega, fun i hi => by rw [u3 i]; exact hw3 i (by omega), (hsp.trans sp3).trans ?_, fun i hi => ?_⟩
                · constructor
                  · rintro r ⟨i, h1, h2, rfl⟩
                    rw [← u2 i h1]; exact .mem (rowsFrom_mem h1 (by omega))
                  · rintro r ⟨i, h1, h2, rfl⟩
                    rw [u2 i h1]; exact .mem (rowsFrom_mem h1 (by omega))
                · obtain ⟨q, hq⟩ := up_rel hu (Nat.le_refl _) (by omega) i hi
                  refine ⟨q, ?_⟩
                  rw [hq, u2 d (Nat.le_refl _), r3 i (by omega), hah i hi]
            · rw [if_neg hok2] at h; cases h
    · rw [if_neg hok] at h; cases h
end Go.Proofs.YtehknemdfbkimaaGreatDoor
