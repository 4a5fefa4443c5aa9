/- Merged: Txt. -/
import Derived.Test.YtehknemdfbkimaaGreatDoorSAJ
import Derived.Test.YtehknemdfbkimaaGreatDoorSAV
import Derived.Test.YtehknemdfbkimaaGreatDoorShelfA
import Derived.Test.YtehknemdfbkimaaGreatDoorSAD
import Derived.Test.YtehknemdfbkimaaGreatDoorShelfB
import Derived.WalkSmall
import Derived.Lib.AppendIntMem
/- row.Text and prime.Text, as contracts. -/
namespace Go.Proofs.YtehknemdfbkimaaGreatDoor
set_option linter.unusedVariables false
set_option linter.unusedSimpArgs false
open Go.RowKit

def strR (_ : World) (u : List Value) (s : ByteArray) : Prop := u = [.string s]
theorem strR.mono : Mono strR := fun _ _ _ _ _ h => h
theorem infoString : (Tryz.prog.info? 9).map (fun i => (i.zero, i.size, i.bytes)) = some (some (.string ⟨#[]⟩), 1, 16) := by kernel_rfl
def itoaB (n : Int) : ByteArray := ⟨(Lib.itoa n).toArray⟩
theorem nDigits_le10 (u : Nat) (h : u ≤ 1000000000) : Lib.nDigits u ≤ 10 := by
  by_cases h0 : u < 10
  · rw [Lib.nDigits_small h0]; omega
  · rw [Lib.nDigits_big h0]
    by_cases h1 : u / 10 < 10
    · rw [Lib.nDigits_small h1]; omega
    · rw [Lib.nDigits_big h1]
      by_cases h2 : u / 10 / 10 < 10
      · rw [Lib.nDigits_small h2]; omega
      · rw [Lib.nDigits_big h2]
        by_cases h3 : u / 10 / 10 / 10 < 10
        · rw [Lib.nDigits_small h3]; omega
        · rw [Lib.nDigits_big h3]
          by_cases h4 : u / 10 / 10 / 10 / 10 < 10
          · rw [Lib.nDigits_small h4]; omega
          · rw [Lib.nDigits_big h4]
            by_cases h5 : u / 10 / 10 / 10 / 10 / 10 < 10
            · rw [Lib.nDigits_small h5]; omega
            · rw [Lib.nDigits_big h5]
              by_cases h6 : u / 10 / 10 / 10 / 10 / 10 / 10 < 10
              · rw [Lib.nDigits_small h6]; omega
              · rw [Lib.nDigits_big h6]
                by_cases h7 : u / 10 / 10 / 10 / 10 / 10 / 10 / 10 < 10
                · rw [Lib.nDigits_small h7]; omega
                · rw [Lib.nDigits_big h7]
                  by_cases h8 : u / 10 / 10 / 10 / 10 / 10 / 10 / 10 / 10 < 10
                  · rw [Lib.nDigits_small h8]; omega
                  · rw [Lib.nDigits_big h8, Lib.nDigits_small (by omega)]; omega
theorem itoa_len (n : Int) (h1 : -1000000000 ≤ n) (h2 : n ≤ 1000000000) : 1 ≤ (Lib.itoa n).length ∧ (Lib.itoa n).length ≤ 11 := by
  unfold Lib.itoa
  split
  · rw [List.length_cons, Lib.decDigits_length]
    have := nDigits_le10 n.natAbs (by omega)
    omega
  · rw [Lib.decDigits_length]
    have := nDigits_le10 n.toNat (by omega)
    have := Lib.nDigits_pos n.toNat
    omega
theorem lens_le (A : Nat) : ∀ xs : List (List UInt8), (∀ x ∈ xs, x.length ≤ A) → Lib.lens xs ≤ A * xs.length
  | [], _ => by simp [Lib.lens]
  | x :: xs, h => by
    have h1 := h x (by simp)
    have h2 := lens_le A xs (fun y hy => h y (by simp [hy]))
    simp only [Lib.lens, List.map_cons, List.sum_cons, List.length_cons, Nat.mul_succ] at h2 ⊢
    omega
theorem join_len (A : Nat) (sep : List UInt8) (xs : List (List UInt8)) (h : ∀ x ∈ xs, x.length ≤ A) : (Lib.join xs sep).length ≤ (A + sep.length) * xs.length := by
  cases xs with
  | nil => simp [Lib.join, List.intercalate]
  | cons x xs =>
    rw [Lib.join_cons, List.length_append, Lib.joinTail_length]
    have h1 := h x (by simp)
    have h2 := lens_le A xs (fun y hy => h y (by simp [hy]))
    simp only [List.length_cons, Nat.mul_succ, Nat.add_mul]
    omega

theorem Build.sl {α : Type} {R : World → List Value → α → Prop} {w : World} {base : Nat} {e : TypeId} {k : Nat} {v : Value} {xs : List α} (h : Build w base e k v R xs) : ∃ a c, v = .slice a xs.length c := by
  obtain ⟨us, h1, h2, h3, h4⟩ := h
  rcases h3.2 with ⟨rfl, hn⟩ | ⟨g, cap, cur, rfl, -⟩
  · exact ⟨none, 0, by rw [hn]⟩
  · exact ⟨_, _, rfl⟩

/-- A row's text. -/
def rowS (xs : List Int) : List UInt8 := Lib.join (xs.map Lib.itoa) [32]
def textS (xs : List Int) (ket : Bool) : List UInt8 := if ket then 91 :: (rowS xs ++ [62]) else 60 :: (rowS xs ++ [93])

theorem ret_text {a b : ByteArray} {v : Value} (h : a.data.toList = b.data.toList) : Ending.returned (.tuple #[.string a, v]) = .returned (.tuple #[.string b, v]) := by
  have : a = b := by
    cases a; cases b
    simp only at h
    rw [ByteArray.mk.injEq]
    exact Array.toList_inj.1 h
  rw [this]
set_option maxRecDepth 100000 in
set_option maxHeartbeats 800000 in
theorem rtext_any (xs : List Int) (ket : Bool) (v : Value) (w : World) (h : Ints w v xs) (ht : Pow10 w) :
    Calls Tryz.prog 100 #[v, .bool ket] w fun e w' => e = .returned (.tuple #[.string ⟨(if rowE xs = 0 then textS xs ket else []).toArray⟩, .int .i64 (rowE xs)]) ∧ Ext w w' := by
  have HCK := Lib.hid (rowCheck_any xs v w h)
  obtain ⟨a, c, rfl, h1, h2, -, -, hc⟩ := h.open
  have HC := Lib.hid hc
  have HT := Lib.hid ht
  unfold maxLen at h2
  clear h hc ht
  by_cases he : rowE xs = 0
  · have HOK := Lib.hid ((rowE_zero xs).1 he)
    have h64 := HOK.out.1
    rw [if_pos he, he]
    rw [he] at HCK
    clear he
    go_enter Tryz.func100, Tryz.ntmps100
    go_wp2_with fail
    refine HCK.out.mono ?_
    rintro e w1 ⟨rfl, hE1⟩
    have HE1 := Lib.hid hE1
    clear hE1 HCK
    go_wp2_with fail
    go_loopw [7, 18] (fun out t wr => ∃ j : Nat, j ≤ xs.length ∧ t = .int .i64 j ∧ Ext w wr ∧ Hid (Build wr w.heap.size 9 1 out strR ((xs.map itoaB).take j))) (fun _ t _ => xs.length - (intOf t).toNat)
    case atStart => exact ⟨0, by omega, rfl, HE1.out, Build.nil _ _ _ _ _⟩
    case round =>
      obtain ⟨j, hj, rfl, hE, HBu⟩ := hrel
      obtain ⟨wo, rfl⟩ : ∃ wo : World, wo = wr := ⟨_, rfl⟩
      by_cases hlt : j < xs.length
      · obtain ⟨b, off, rfl, hb, hcell⟩ := HC.out (by intro e; simp [e] at hlt)
        obtain ⟨x, hx⟩ : ∃ x, xs[j]? = some x := ⟨xs[j], List.getElem?_eq_getElem hlt⟩
        have g1 := hE.cell (hcell j x hx)
        obtain ⟨hx1, hx2⟩ := HOK.out.2 x (List.mem_of_getElem? hx)
        have HN : Hid ((xs.map itoaB).take (j + 1) = (xs.map itoaB).take j ++ [itoaB x]) := by
          unfold Hid
          rw [List.take_add_one, List.getElem?_map, hx]; rfl
        have HJ : Hid (((xs.map itoaB).take j).length < 1000000) := by unfold Hid; rw [List.length_take]; omega
        have HIT := Lib.hid (Tryz.strconv_Itoa x (by omega) (by omega) wo (HT.out.ext hE))
        clear hcell hx
        go_wp2_with fail
        refine HIT.out.mono ?_
        rintro e w2 ⟨rfl, kk, os, hw2⟩
        have hE2 : Ext wo w2 := by rw [hw2]; exact Lib.below_grow _ wo (Nat.le_refl _) kk os
        have HBu2 := Lib.hid (HBu.out.ext hE2)
        have HE2 := Lib.hid (Ext.trans hE hE2)
        have hszr := HE2.out.size
        clear hE2 hw2 HIT
        go_wp2_with (at_builtin; go_must (refine wpList_append_build _ rfl _ _ 148 rfl w.heap.size 9 (.string ⟨#[]⟩) 1 16 Tryz.underlying148 infoString rfl (by decide) u7 strR ((xs.map itoaB).take j) (itoaB x) #[.string (itoaB x)] 9 rfl HBu2.out rfl rfl ?e1 (fun _ _ => rfl) HJ.out (by decide) hszr ?_))
        case e1 => simp [Value.oneCell']
        intro v' w5 hB5 hg5 hb5 hs5 _
        rw [← HN.out] at hB5
        have HB5 := Lib.hid hB5
        have HE5 := Lib.hid (Below.trans HE2.out hb5)
        clear hB5 hg5 hb5
        go_wp2_with fail
        go_roundw
        case rel => exact ⟨j + 1, by omega, by go_num, HE5.out, HB5.out⟩
        case measure => simp [intOf]; omega
      · obtain rfl : j = xs.length := by omega
        have hB := HBu.out
        rw [List.take_of_length_le (by rw [List.length_map]; omega)] at hB
        have HL : Hid ((rowS xs).length ≤ 1000) := by
          unfold Hid rowS
          have := join_len 11 [32] (xs.map Lib.itoa) (by
            intro x hx
            obtain ⟨n, hn, rfl⟩ := List.mem_map.1 hx
            have := HOK.out.2 n hn
            exact (itoa_len n this.1 this.2).2)
          simp only [List.length_map, List.length_cons, List.length_nil] at this
          omega
        have HJN : Hid (Calls Tryz.prog 104 #[u7, .string ⟨#[32]⟩] wo fun e w' => e = .returned (.string ⟨(rowS xs).toArray⟩) ∧ Ext wo w') := by
          by_cases hn : xs.length = 0
          · have hx0 : xs = [] := List.eq_nil_of_length_eq_zero hn
            subst hx0
            obtain ⟨aa, cc, rfl⟩ := hB.sl
            refine (Tryz.strings_Join_none aa cc ⟨#[32]⟩ wo).mono ?_
            rintro e w' ⟨rfl, rfl⟩
            exact ⟨by simp [rowS, Lib.join, List.intercalate], Ext.refl _⟩
          · obtain ⟨us, b1, b2, b3, b4⟩ := id hB
            obtain ⟨g, cap, rfl, h5, h6, h7, h8⟩ := owns_shape b3 (by rw [List.length_map]; omega)
            obtain ⟨aa, cc, hv, -, -, -, hc4⟩ := ListAt.open hB.list
            obtain ⟨bb, oo, haa, hbb, hcells⟩ := hc4 (by omega) (by intro e; have := congrArg List.length e; simp at this; exact hn (by simpa using this))
            subst haa
            simp only [Value.slice.injEq, Option.some.injEq, Addr.mk.injEq] at hv
            obtain ⟨⟨rfl, rfl, -⟩, -, rfl⟩ := hv
            have hmm : (xs.map itoaB).map (fun s => s.data.toList) = xs.map Lib.itoa := by
              rw [List.map_map]
              apply List.map_congr_left
              intro y _
              rfl
            have hj := Tryz.strings_Join g 0 cap (xs.map itoaB) ⟨#[32]⟩ wo (fun j x hx => by
              obtain ⟨u, hu1, hu2, hu3⟩ := hcells j x hx
              have := hu3 0 (by omega)
              rw [show u = [Value.string x] from hu2] at this
              simpa using this) hbb (by rw [List.length_map]; omega) h7 (by
                rw [hmm]
                have := HL.out
                unfold rowS at this
                show (Lib.join (xs.map Lib.itoa) [32]).length ≤ _
                omega)
            rw [hmm] at hj
            exact hj
        have HE := Lib.hid hE
        obtain ⟨aa, cc, rfl⟩ := hB.sl
        rw [List.length_map] at HJN ⊢
        clear hB hE
        go_wp2_with fail
        ((with_reducible refine HJN.out.mono ?_); rintro e w6 ⟨rfl, hE6⟩)
        --rintro e w6 ⟨rfl, hE6⟩
        have HE6 := Lib.hid (Ext.trans HE.out hE6)
        clear hE6 HJN
        have hll := HL.out
        have z1 : ¬ 9223372036854775807 < 1 + (rowS xs).length := by omega
        have z2 : ¬ 9223372036854775807 < 1 + (rowS xs).length + 1 := by omega
        cases ket
        · go_wp2_with fail
          go_ret2
          exact ⟨ret_text (by simp [textS]), HE6.out⟩
        · go_wp2_with fail
          go_ret2
          exact ⟨ret_text (by simp [textS]), HE6.out⟩
  · have h4 : rowE xs = 4 := (rowE_four xs).resolve_left he
    rw [if_neg he, h4]
    rw [h4] at HCK
    clear he h4
    go_enter Tryz.func100, Tryz.ntmps100
    go_wp2_with fail
    refine HCK.out.mono ?_
    rintro e w1 ⟨rfl, hE1⟩
    have HE1 := Lib.hid hE1
    clear hE1 HCK
    go_wp2_with fail
    go_ret2
    exact ⟨rfl, HE1.out⟩

/-- A list of primes, as a text. -/
def primeS (xs : List Int) : List UInt8 := Lib.join (xs.map Lib.itoa) [46]
set_option maxRecDepth 100000 in
set_option maxHeartbeats 800000 in
theorem primeText_any (xs : List Int) (v : Value) (w : World) (h : Ints w v xs) (ht : Pow10 w) (he : primesE xs = 0) (hb : ∀ x ∈ xs, -1000000000 ≤ x ∧ x ≤ 1000000000) (h64 : xs.length ≤ 64) :
    Calls Tryz.prog 41 #[v] w fun e w' => e = .returned (.tuple #[.string ⟨(primeS xs).toArray⟩, .int .i64 0]) ∧ Ext w w' := by
  have HCK := Lib.hid (primesChk_any xs v w h)
  rw [he] at HCK
  have HOK := Lib.hid hb
  obtain ⟨a, c, rfl, h1, h2, -, -, hc⟩ := h.open
  have HC := Lib.hid hc
  have HT := Lib.hid ht
  unfold maxLen at h2
  clear h hc ht he hb
  go_enter Tryz.func41, Tryz.ntmps41
  go_wp2_with fail
  refine HCK.out.mono ?_
  rintro e w1 ⟨rfl, rfl⟩
  have HE1 : Hid (Ext w w) := Ext.refl w
  clear HCK
  go_wp2_with fail
  go_loopw [5, 15] (fun out t wr => ∃ j : Nat, j ≤ xs.length ∧ t = .int .i64 j ∧ Ext w wr ∧ Hid (Build wr w.heap.size 9 1 out strR ((xs.map itoaB).take j))) (fun _ t _ => xs.length - (intOf t).toNat)
  case atStart => exact ⟨0, by omega, rfl, HE1.out, Build.nil _ _ _ _ _⟩
  case round =>
    obtain ⟨j, hj, rfl, hE, HBu⟩ := hrel
    obtain ⟨wo, rfl⟩ : ∃ wo : World, wo = wr := ⟨_, rfl⟩
    by_cases hlt : j < xs.length
    · obtain ⟨b, off, rfl, hb, hcell⟩ := HC.out (by intro e; simp [e] at hlt)
      obtain ⟨x, hx⟩ : ∃ x, xs[j]? = some x := ⟨xs[j], List.getElem?_eq_getElem hlt⟩
      have g1 := hE.cell (hcell j x hx)
      obtain ⟨hx1, hx2⟩ := HOK.out x (List.mem_of_getElem? hx)
      have HN : Hid ((xs.map itoaB).take (j + 1) = (xs.map itoaB).take j ++ [itoaB x]) := by
        unfold Hid
        rw [List.take_add_one, List.getElem?_map, hx]; rfl
      have HJ : Hid (((xs.map itoaB).take j).length < 1000000) := by unfold Hid; rw [List.length_take]; omega
      have HIT := Lib.hid (Tryz.strconv_Itoa x (by omega) (by omega) wo (HT.out.ext hE))
      clear hcell hx
      go_wp2_with fail
      refine HIT.out.mono ?_
      rintro e w2 ⟨rfl, kk, os, hw2⟩
      have hE2 : Ext wo w2 := by rw [hw2]; exact Lib.below_grow _ wo (Nat.le_refl _) kk os
      have HBu2 := Lib.hid (HBu.out.ext hE2)
      have HE2 := Lib.hid (Ext.trans hE hE2)
      have hszr := HE2.out.size
      clear hE2 hw2 HIT
      go_wp2_with (at_builtin; go_must (refine wpList_append_build _ rfl _ _ 148 rfl w.heap.size 9 (.string ⟨#[]⟩) 1 16 Tryz.underlying148 infoString rfl (by decide) u5 strR ((xs.map itoaB).take j) (itoaB x) #[.string (itoaB x)] 9 rfl HBu2.out rfl rfl ?e1 (fun _ _ => rfl) HJ.out (by decide) hszr ?_))
      case e1 => simp [Value.oneCell']
      intro v' w5 hB5 hg5 hb5 hs5 _
      rw [← HN.out] at hB5
      have HB5 := Lib.hid hB5
      have HE5 := Lib.hid (Below.trans HE2.out hb5)
      clear hB5 hg5 hb5
      go_wp2_with fail
      go_roundw
      case rel => exact ⟨j + 1, by omega, by go_num, HE5.out, HB5.out⟩
      case measure => simp [intOf]; omega
    · obtain rfl : j = xs.length := by omega
      have hB := HBu.out
      rw [List.take_of_length_le (by rw [List.length_map]; omega)] at hB
      have HL : Hid ((primeS xs).length ≤ 1000) := by
        unfold Hid primeS
        have := join_len 11 [46] (xs.map Lib.itoa) (by
          intro x hx
          obtain ⟨n, hn, rfl⟩ := List.mem_map.1 hx
          have := HOK.out n hn
          exact (itoa_len n this.1 this.2).2)
        simp only [List.length_map, List.length_cons, List.length_nil] at this
        omega
      have HJN : Hid (Calls Tryz.prog 104 #[u5, .string ⟨#[46]⟩] wo fun e w' => e = .returned (.string ⟨(primeS xs).toArray⟩) ∧ Ext wo w') := by
        by_cases hn : xs.length = 0
        · have hx0 : xs = [] := List.eq_nil_of_length_eq_zero hn
          subst hx0
          obtain ⟨aa, cc, rfl⟩ := hB.sl
          refine (Tryz.strings_Join_none aa cc ⟨#[46]⟩ wo).mono ?_
          rintro e w' ⟨rfl, rfl⟩
          exact ⟨by simp [primeS, Lib.join, List.intercalate], Ext.refl _⟩
        · obtain ⟨us, b1, b2, b3, b4⟩ := id hB
          obtain ⟨g, cap, rfl, h5, h6, h7, h8⟩ := owns_shape b3 (by rw [List.length_map]; omega)
          obtain ⟨aa, cc, hv, -, -, -, hc4⟩ := ListAt.open hB.list
          obtain ⟨bb, oo, haa, hbb, hcells⟩ := hc4 (by omega) (by intro e; have := congrArg List.length e; simp at this; exact hn (by simpa using this))
          subst haa
          simp only [Value.slice.injEq, Option.some.injEq, Addr.mk.injEq] at hv
          obtain ⟨⟨rfl, rfl, -⟩, -, rfl⟩ := hv
          have hmm : (xs.map itoaB).map (fun s => s.data.toList) = xs.map Lib.itoa := by
            rw [List.map_map]
            apply List.map_congr_left
            intro y _
            rfl
          have hj := Tryz.strings_Join g 0 cap (xs.map itoaB) ⟨#[46]⟩ wo (fun j x hx => by
            obtain ⟨u, hu1, hu2, hu3⟩ := hcells j x hx
            have := hu3 0 (by omega)
            rw [show u = [Value.string x] from hu2] at this
            simpa using this) hbb (by rw [List.length_map]; omega) h7 (by
              rw [hmm]
              have := HL.out
              unfold primeS at this
              show (Lib.join (xs.map Lib.itoa) [46]).length ≤ _
              omega)
          rw [hmm] at hj
          exact hj
      have HE := Lib.hid hE
      obtain ⟨aa, cc, rfl⟩ := hB.sl
      rw [List.length_map] at HJN ⊢
      clear hB hE
      go_wp2_with fail
      ((with_reducible refine HJN.out.mono ?_); rintro e w6 ⟨rfl, hE6⟩)
      --rintro e w6 ⟨rfl, hE6⟩
      have HE6 := Lib.hid (Ext.trans HE.out hE6)
      clear hE6 HJN
      go_wp2_with fail
      go_ret2
      exact ⟨rfl, HE6.out⟩
end Go.Proofs.YtehknemdfbkimaaGreatDoor
