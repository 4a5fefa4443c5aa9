/- row.Parse at every text; Text of the reference. -/
import Derived.Test.YtobgghjmclagaaaDoorParse
import Derived.Test.YtobgghjmclagaaaDoorDigits
namespace Go.Proofs.YtobgghjmclagaaaDoor
set_option linter.unusedVariables false
set_option linter.unusedSimpArgs false
open Go.RowKit

set_option maxRecDepth 100000 in
set_option maxHeartbeats 1000000 in
theorem parse_long (s : ByteArray) (w : World) (hl : 65536 < s.size) :
    Calls Tryd.prog 50 #[.string s] w fun e w' => e = .returned (.tuple #[.slice none 0 0, .bool false, .int .i64 16]) ∧ w = w' := by
  have hl' : (65536 : Int) < (s.size : Int) := by omega
  go_enter Tryd.func50, Tryd.ntmps50
  go_wp2_with fail
  go_ret3
  exact ⟨rfl, rfl⟩
set_option maxRecDepth 100000 in
set_option maxHeartbeats 1000000 in
theorem parse_other (l : List UInt8) (w : World) (hl : l.length ≤ 65536) (h1 : l.head? ≠ some 91) (h2 : l.head? ≠ some 60) :
    Calls Tryd.prog 50 #[.string (strL l)] w fun e w' => e = .returned (.tuple #[.slice none 0 0, .bool false, .int .i64 15]) ∧ w = w' := by
  have hl' : ¬ (65536 : Int) < (l.length : Int) := by omega
  have hsz := strL_size l
  have HP1 := Lib.hid (cutPre_miss l 91 h1 w)
  have HP2 := Lib.hid (cutPre_miss l 60 h2 w)
  clear h1 h2
  go_enter Tryd.func50, Tryd.ntmps50
  go_wp2_with fail
  refine HP1.out.mono ?_
  rintro e w' ⟨rfl, rfl⟩
  clear HP1
  go_wp2_with fail
  refine HP2.out.mono ?_
  rintro e w' ⟨rfl, rfl⟩
  clear HP2
  go_wp2_with fail
  go_ret3
  exact ⟨rfl, rfl⟩

theorem parseS_other (l : List UInt8) (hl : l.length ≤ 65536) (h1 : l.head? ≠ some 91) (h2 : l.head? ≠ some 60) : parseS l = ([], false, 15) := by
  unfold parseS
  rw [if_neg (by omega)]
  cases l with
  | nil => rfl
  | cons c r =>
    simp only [List.head?_cons, ne_eq, Option.some.injEq] at h1 h2
    split
    · rename_i heq; simp only [List.cons.injEq] at heq; exact absurd heq.1 h1
    · rename_i heq; simp only [List.cons.injEq] at heq; exact absurd heq.1 h2
    · rfl
theorem parse_any (l : List UInt8) (w : World) (hl : l.length ≤ 65536) (hw : LibW w) :
    Calls Tryd.prog 50 #[.string (strL l)] w (ParseR (parseS l) w) := by
  by_cases h1 : l.head? = some 91
  · obtain ⟨r, rfl⟩ : ∃ r, l = 91 :: r := by
      cases l with
      | nil => simp at h1
      | cons c r => simp at h1; exact ⟨r, by rw [h1]⟩
    exact parse_ket r w (by simp at hl; omega) hw
  · by_cases h2 : l.head? = some 60
    · obtain ⟨r, rfl⟩ : ∃ r, l = 60 :: r := by
        cases l with
        | nil => simp at h2
        | cons c r => simp at h2; exact ⟨r, by rw [h2]⟩
      exact parse_bra r w (by simp at hl; omega) hw
    · exact (parse_other l w hl h1 h2).mono fun e w' ⟨he, hw⟩ => by
        subst he; subst hw; exact parseR_none (parseS_other l hl h1 h2) (Ext.refl _)

/-- What Text of the reference has written behind j elements. -/
def accS (xs : List Int) (j : Nat) : List UInt8 := Lib.join ((xs.take j).map Lib.itoa) [32]
theorem join_snoc (xs : List (List UInt8)) (x : List UInt8) (h : xs ≠ []) : Lib.join (xs ++ [x]) [32] = Lib.join xs [32] ++ [32] ++ x := by
  induction xs with
  | nil => exact absurd rfl h
  | cons a t ih =>
    cases t with
    | nil => simp [Lib.join, List.intercalate]
    | cons b t =>
      have e1 : ∀ ys : List (List UInt8), Lib.join (a :: b :: ys) [32] = a ++ [32] ++ Lib.join (b :: ys) [32] := by
        intro ys; simp [Lib.join, List.intercalate]
      rw [List.cons_append, List.cons_append, e1, e1, ← List.cons_append, ih (by simp)]
      simp
theorem strL_append (a b : List UInt8) : strL a ++ strL b = strL (a ++ b) := by
  unfold strL
  apply ByteArray.ext
  simp
theorem strL_lit (c : UInt8) : (⟨#[c]⟩ : ByteArray) = strL [c] := rfl
theorem itoaS_eq (n : Int) : itoaS n = strL (Lib.itoa n) := rfl

set_option maxRecDepth 100000 in
set_option maxHeartbeats 2000000 in
theorem refText_any (xs : List Int) (ket : Bool) (v : Value) (w : World) (h : Ints w v xs) (h0 : rowE xs = 0) :
    Calls Tryd.prog 51 #[v, .bool ket] w fun e w' => e = .returned (.string (strL (textS xs ket))) ∧ Ext w w' := by
  obtain ⟨a, c, rfl, h1, h2, -, -, hc⟩ := h.open
  have HC := Lib.hid hc
  have HOK := Lib.hid ((rowE_zero xs).1 h0)
  have h64 := HOK.out.1
  unfold maxLen at h2
  have HACC : Hid (∀ j, (accS xs j).length ≤ 1000) := by
    intro j
    have := join_len 11 [32] ((xs.take j).map Lib.itoa) (by
      intro x hx
      obtain ⟨n, hn, rfl⟩ := List.mem_map.1 hx
      have := HOK.out.2 n (List.mem_of_mem_take hn)
      exact (itoa_len n this.1 this.2).2)
    unfold accS
    simp only [List.length_map, List.length_take, List.length_cons, List.length_nil] at this
    omega
  clear h hc h0
  go_enter Tryd.func51, Tryd.ntmps51
  go_wp2_with fail
  go_loopw [5, 6] (fun s t wr => ∃ j : Nat, j ≤ xs.length ∧ t = .int .i64 j ∧ Ext w wr ∧ s = .string (strL (accS xs j))) (fun _ t _ => xs.length - (intOf t).toNat)
  case atStart => exact ⟨0, by omega, rfl, Ext.refl _, rfl⟩
  case round =>
    obtain ⟨j, hj, rfl, hE, rfl⟩ := hrel
    obtain ⟨wo, rfl⟩ : ∃ wo : World, wo = wr := ⟨_, rfl⟩
    have HE := Lib.hid hE
    have hal := HACC.out j
    have hsz := strL_size (accS xs j)
    by_cases hlt : j < xs.length
    · obtain ⟨b, off, rfl, hb, hcell⟩ := HC.out (by intro e; simp [e] at hlt)
      obtain ⟨x, hx⟩ : ∃ x, xs[j]? = some x := ⟨xs[j], List.getElem?_eq_getElem hlt⟩
      have g1 := hE.cell (hcell j x hx)
      obtain ⟨hx1, hx2⟩ := HOK.out.2 x (List.mem_of_getElem? hx)
      have HD := Lib.hid (digits_any x wo hx1 hx2)
      have hdl : (itoaS x).size ≤ 11 := by rw [itoaS_eq, strL_size]; exact (itoa_len x hx1 hx2).2
      have HN : Hid ((xs.take (j + 1)).map Lib.itoa = (xs.take j).map Lib.itoa ++ [Lib.itoa x]) := by
        unfold Hid; rw [List.take_add_one, hx, List.map_append]; rfl
      clear hcell hx hE
      by_cases hj0 : 0 < j
      · have hj1 : (0 : Int) < (j : Int) := by omega
        have HS : Hid (strL (accS xs j) ++ ⟨#[32]⟩ ++ itoaS x = strL (accS xs (j + 1))) := by
          unfold Hid
          rw [strL_lit, itoaS_eq, strL_append, strL_append]
          unfold accS
          rw [HN.out, join_snoc _ _ (by
            intro e
            have := congrArg List.length e
            simp only [List.length_map, List.length_take, List.length_nil] at this
            omega)]
        have hz1 : ¬ 9223372036854775807 < (accS xs j).length + 1 := by omega
        have hz2 : ¬ 9223372036854775807 < (accS xs j).length + 1 + (itoaS x).size := by omega
        go_wp2_with fail
        refine HD.out.mono ?_
        rintro e w1 ⟨rfl, hE1⟩
        have HE1 := Lib.hid (Ext.trans HE.out hE1)
        clear hE1 HD
        go_wp2_with fail
        go_roundw
        case rel => exact ⟨j + 1, by omega, by go_num, HE1.out, by rw [HS.out]⟩
        case measure => simp [intOf]; omega
      · have hj1 : ¬ (0 : Int) < (j : Int) := by omega
        obtain rfl : j = 0 := by omega
        have HS : Hid (strL (accS xs 0) ++ itoaS x = strL (accS xs (0 + 1))) := by
          unfold Hid
          rw [itoaS_eq, strL_append]
          unfold accS
          rw [HN.out]
          simp [Lib.join, List.intercalate]
        have hz2 : ¬ 9223372036854775807 < (accS xs 0).length + (itoaS x).size := by omega
        have g2 : wo.cell? ⟨b, off, none⟩ = some (.int .i64 x) := by simpa using g1
        go_wp2_with fail
        refine HD.out.mono ?_
        rintro e w1 ⟨rfl, hE1⟩
        have HE1 := Lib.hid (Ext.trans HE.out hE1)
        clear hE1 HD
        go_wp2_with fail
        go_roundw
        case rel => exact ⟨0 + 1, by omega, by go_num, HE1.out, by rw [HS.out]⟩
        case measure => simp [intOf]; omega
    · obtain rfl : j = xs.length := by omega
      have hz1 : ¬ 9223372036854775807 < 1 + (accS xs xs.length).length := by omega
      have hz2 : ¬ 9223372036854775807 < 1 + (accS xs xs.length).length + 1 := by omega
      have HA : Hid (accS xs xs.length = rowS xs) := by unfold Hid accS rowS; rw [List.take_length]
      cases ket
      · go_wp2_with fail
        go_ret
        exact ⟨by rw [strL_lit, strL_lit, strL_append, strL_append, HA.out]; rfl, HE.out⟩
      · go_wp2_with fail
        go_ret
        exact ⟨by rw [strL_lit, strL_lit, strL_append, strL_append, HA.out]; rfl, HE.out⟩
end Go.Proofs.YtobgghjmclagaaaDoor
