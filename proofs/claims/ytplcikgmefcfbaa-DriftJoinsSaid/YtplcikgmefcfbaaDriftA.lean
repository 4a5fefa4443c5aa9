/- Contract of drift.sum: two rows, the second one subtracted. -/
import Derived.Test.YtplcikgmefcfbaaTypes
import Derived.Test.YtplcikgmefcfbaaMonzo
namespace Go.Proofs.Ytplcikgmefcfbaa
set_option linter.unusedVariables false
set_option linter.unusedSimpArgs false
open Go.RowKit

/-- One row added, or subtracted. -/
def accRow (s : Bool) (acc row : List Int) : List Int := List.zipWith (fun a x => if s then a - x else a + x) acc row

theorem accRow_len (s : Bool) (acc row : List Int) (h : row.length = acc.length) : (accRow s acc row).length = acc.length := by simp [accRow, h]

/-- Inner loop: what the row holds when the first k elements are done. -/
def accTo (s : Bool) (acc row : List Int) (k : Nat) : List Int := (accRow s acc row).take k ++ acc.drop k

theorem accTo_zero (s : Bool) (acc row : List Int) : accTo s acc row 0 = acc := by simp [accTo]
theorem accTo_all (s : Bool) (acc row : List Int) (h : row.length = acc.length) : accTo s acc row acc.length = accRow s acc row := by
  simp [accTo, List.take_of_length_le, accRow_len s acc row h]
theorem accTo_get (s : Bool) (acc row : List Int) (k : Nat) (a : Int) (h : row.length = acc.length) (hk : acc[k]? = some a) : (accTo s acc row k)[k]? = some a := by
  have hlt : k < acc.length := (List.getElem?_eq_some_iff.1 hk).1
  have hl : ((accRow s acc row).take k).length = k := by simp [accRow_len s acc row h]; omega
  unfold accTo
  rw [List.getElem?_append_right (by omega), hl]
  simpa using hk
theorem accTo_succ (s : Bool) (acc row : List Int) (k : Nat) (a x : Int) (h : row.length = acc.length) (hk : acc[k]? = some a) (hx : row[k]? = some x) :
    (accTo s acc row k).set k (if s then a - x else a + x) = accTo s acc row (k + 1) := by
  have hlt : k < acc.length := (List.getElem?_eq_some_iff.1 hk).1
  have hl : ((accRow s acc row).take k).length = k := by simp [accRow_len s acc row h]; omega
  have hz : (accRow s acc row)[k]? = some (if s then a - x else a + x) := by
    simp [accRow, List.getElem?_zipWith, hk, hx]
  unfold accTo
  rw [List.set_append_right _ _ (by omega), hl, Nat.sub_self, List.take_add_one, hz]
  rw [show acc.drop k = a :: acc.drop (k + 1) by rw [List.drop_eq_getElem_cons hlt]; congr 1; exact (List.getElem?_eq_some_iff.1 hk).2]
  simp

theorem accTo_len (s : Bool) (acc row : List Int) (k : Nat) (h : row.length = acc.length) : (accTo s acc row k).length = acc.length := by
  simp [accTo, accRow_len s acc row h]; omega

def sumRows (x y : List Int) : List Int := List.zipWith (· - ·) x y

def accs (x y : List Int) : Nat → List Int
  | 0 => List.replicate x.length 0
  | 1 => x
  | _ => sumRows x y
theorem accs_zero (x y : List Int) : accRow false (accs x y 0) x = accs x y 1 := by
  show accRow false (List.replicate x.length 0) x = x
  apply List.ext_getElem?
  intro i
  by_cases hi : i < x.length <;> simp [accRow, List.getElem?_zipWith, hi, List.getElem?_replicate]
theorem accs_one (x y : List Int) (h : y.length = x.length) : accRow true (accs x y 1) y = accs x y 2 := rfl
theorem accs_len (x y : List Int) (i : Nat) (h : y.length = x.length) : (accs x y i).length = x.length := by
  unfold accs sumRows; split <;> simp [h]
theorem accs_bd (x y : List Int) (i : Nat) (hi : i < 2) (hx : ∀ a ∈ x, -4000000 ≤ a ∧ a ≤ 4000000) : ∀ a ∈ accs x y i, -4000000 ≤ a ∧ a ≤ 4000000 := by
  match i, hi with
  | 0, _ => intro a ha; have := (List.mem_replicate.1 ha).2; omega
  | 1, _ => exact hx

theorem sumRows_bd2 (x y : List Int) (m n : Int) (hx : ∀ a ∈ x, -m ≤ a ∧ a ≤ m) (hy : ∀ a ∈ y, -n ≤ a ∧ a ≤ n) : ∀ a ∈ sumRows x y, -(m + n) ≤ a ∧ a ≤ m + n := by
  intro a ha
  obtain ⟨i, hi, rfl⟩ := List.getElem_of_mem ha
  simp only [sumRows, List.length_zipWith] at hi
  simp only [sumRows, List.getElem_zipWith]
  have h1 := hx (x[i]'(by omega)) (List.getElem_mem _)
  have h2 := hy (y[i]'(by omega)) (List.getElem_mem _)
  omega
theorem sumRows_bd (x y : List Int) (hx : ∀ a ∈ x, -4000000 ≤ a ∧ a ≤ 4000000) (hy : ∀ a ∈ y, -4000000 ≤ a ∧ a ≤ 4000000) : ∀ a ∈ sumRows x y, -9223372036854775808 ≤ a ∧ a ≤ 9223372036854775807 := by
  intro a ha
  have := sumRows_bd2 x y 4000000 4000000 hx hy a ha
  omega

set_option maxRecDepth 100000 in
set_option maxHeartbeats 1000000 in
theorem sum_any (x y : List Int) (u : Value) (w : World) (h : Rows2 w u [x, y]) (hn : y.length = x.length) (hlen : x.length ≤ 1000) (hx : ∀ a ∈ x, -4000000 ≤ a ∧ a ≤ 4000000) (hy : ∀ a ∈ y, -4000000 ≤ a ∧ a ≤ 4000000) :
    Calls Try.prog 61 #[u] w fun e w' => ∃ r, e = .returned r ∧ Ext w w' ∧ w'.ownsRow w.heap.size 3 1 r x.length ((sumRows x y).map (Value.int .i64)) := by
  obtain ⟨a, c, rfl, hlc, hc, -, hcells⟩ := inCell.open h
  obtain ⟨b, off, rfl, hbw, hcell⟩ := hcells (by simp)
  obtain ⟨v0, hv0, hc0⟩ := hcell 0 x rfl
  obtain ⟨v1, hv1, hc1⟩ := hcell 1 y rfl
  obtain ⟨a0, c0, rfl, hl0, hm0, -, -, -⟩ := Ints.open hv0
  obtain ⟨a1, c1, rfl, hl1, hm1, -, -, -⟩ := Ints.open hv1
  simp only [List.length_cons, List.length_nil, Nat.zero_add, Nat.reduceAdd, Nat.add_zero] at hlc hc0 hc1 ⊢
  obtain ⟨i0, hi, hz0, hz1, hz2⟩ := info_parts infoInt
  unfold maxLen at hc hm0 hm1
  have HX := Lib.hid hx
  have HY := Lib.hid hy
  have HI := Lib.hid hi; have HZ0 := Lib.hid hz0; have HZ1 := Lib.hid hz1; have HZ2 := Lib.hid hz2
  have HV0 := Lib.hid hv0
  have HV1 := Lib.hid hv1
  have HN := Lib.hid hn
  clear hcell hcells hx hy h hv0 hv1 hi hz0 hz1 hz2
  rw [hn] at hc1
  rw [hn] at hl1
  clear hn
  go_enter Try.func61, Try.ntmps61
  go_wp2_with (at_make; refine wpList_make_full _ rfl _ _ 25 rfl w.heap.size 3 i0 (.int .i64 0) 1 Try.underlying25 HI.out HZ0.out HZ1.out _ _ _ _ x.length rfl rfl rfl rfl ?c1 ?c2 ?c3 ?_)
  case c1 => rw [HZ2.out]; omega
  case c2 => unfold maxLen; omega
  case c3 => exact Nat.le_refl _
  intro w1 hown hgrow
  rw [made_ints] at hown
  have hB : Ext w w1 := (Below.refl _ _).grown hgrow (Nat.le_refl _) (by intro k hk; cases hk)
  clear hgrow
  have hsz : w.heap.size < w1.heap.size := (hown.lt w.heap.size rfl).2
  go_wp2
  go_loopw [15] (fun t wr => ∃ i : Nat, i ≤ 2 ∧ t = .int .i64 i ∧ Ext w wr ∧ w.heap.size < wr.heap.size ∧ Hid (wr.ownsRow w.heap.size 3 1 (.slice (some ⟨w.heap.size, 0, none⟩) x.length x.length) x.length ((accs x y i).map (Value.int .i64)))) (fun t _ => 2 - (intOf t).toNat)
  case atStart => exact ⟨0, by omega, rfl, hB, hsz, hown⟩
  case round =>
    obtain ⟨i, hi2, rfl, hBr, hszr, HOWN⟩ := hrel
    clear hown hB hsz
    by_cases hi : i < 2
    · obtain ⟨row, s, ar, cr, hcr, hrow, hrl, hrb, hs, hnext, hcap⟩ : ∃ row s ar cr, w.cell? ⟨b, off + i, none⟩ = some (.slice ar x.length cr) ∧ Ints w (.slice ar x.length cr) row ∧ row.length = x.length ∧ (∀ a ∈ row, -4000000 ≤ a ∧ a ≤ 4000000) ∧ ((i : Int) % 2 == 1) = s ∧ accRow s (accs x y i) row = accs x y (i + 1) ∧ x.length ≤ cr ∧ cr ≤ 9223372036854775807 := by
        match i, hi with
        | 0, _ => exact ⟨x, false, a0, c0, hc0, HV0.out, rfl, HX.out, rfl, accs_zero x y, hl0, hm0⟩
        | 1, _ => exact ⟨y, true, a1, c1, hc1, by have := HV1.out; rw [HN.out] at this; exact this, HN.out, HY.out, rfl, accs_one x y HN.out, hl1, hm1⟩
      have hcr' := hBr.cell hcr
      obtain ⟨-, -, -, -, hcellr⟩ := hrow.cells
      have HROW := Lib.hid hcellr
      have HRB := Lib.hid hrb
      have HRL := Lib.hid hrl
      have HNEXT := Lib.hid hnext
      have hal : (accs x y i).length = x.length := accs_len x y i HN.out
      have hab : ∀ a ∈ accs x y i, -4000000 ≤ a ∧ a ≤ 4000000 := accs_bd x y i hi HX.out
      have HAL := Lib.hid hal
      have HAB := Lib.hid hab
      clear hrb hrl hnext hcellr hrow hcr hal hab
      go_wp2
      go_loopw [22] (fun t wr => ∃ k : Nat, k ≤ x.length ∧ t = .int .i64 k ∧ Ext w wr ∧ w.heap.size < wr.heap.size ∧ Hid (wr.ownsRow w.heap.size 3 1 (.slice (some ⟨w.heap.size, 0, none⟩) x.length x.length) x.length ((accTo s (accs x y i) row k).map (Value.int .i64)))) (fun t _ => x.length - (intOf t).toNat)
      case atStart => exact ⟨0, Nat.zero_le _, rfl, hBr, hszr, by rw [accTo_zero]; exact HOWN⟩
      case round =>
        clear HOWN
        rename_i wo
        obtain ⟨k, hk, rfl, hBr, hszr, HOWN⟩ := hrel
        by_cases hkl : k < x.length
        · obtain ⟨br, offr, rfl, hbr, hcx⟩ := HROW.out (by intro e; have := HRL.out; simp [e] at this; omega)
          obtain ⟨xk, hxk⟩ : ∃ xk, row[k]? = some xk := ⟨row[k]'(by have := HRL.out; omega), List.getElem?_eq_getElem _⟩
          obtain ⟨ak, hak⟩ : ∃ ak, (accs x y i)[k]? = some ak := ⟨(accs x y i)[k]'(by have := HAL.out; omega), List.getElem?_eq_getElem _⟩
          have hxc := hBr.cell (hcx k xk hxk)
          obtain ⟨hac, haf⟩ := owns_cell HOWN (accTo_get s _ _ k ak (HRL.out.trans HAL.out.symm) hak)
          obtain ⟨hx1, hx2⟩ := HRB.out xk (List.mem_of_getElem? hxk)
          obtain ⟨ha1, ha2⟩ := HAB.out ak (List.mem_of_getElem? hak)
          have HSET : Hid ((accTo s (accs x y i) row k).set k (if s then ak - xk else ak + xk) = accTo s (accs x y i) row (k + 1)) := accTo_succ s _ _ k ak xk (HRL.out.trans HAL.out.symm) hak hxk
          have HS := owns_set HOWN k (if s then ak - xk else ak + xk)
          rw [HSET.out] at HS
          have HOWN2 := Lib.hid HS
          clear HS hcx hxk hak HOWN HSET
          cases s with
          | false =>
            go_wp2
            go_roundw
            case rel => exact ⟨k + 1, by omega, by go_num, hBr.setCell (Nat.le_refl _) _, by simpa [World.setCell] using hszr, HOWN2.out⟩
            case measure => simp [intOf]; omega
          | true =>
            go_wp2
            go_roundw
            case rel => exact ⟨k + 1, by omega, by go_num, hBr.setCell (Nat.le_refl _) _, by simpa [World.setCell] using hszr, HOWN2.out⟩
            case measure => simp [intOf]; omega
        · obtain rfl : k = x.length := by omega
          have HE : Hid (accTo s (accs x y i) row x.length = accs x y (i + 1)) := by
            unfold Hid
            rw [← HAL.out, accTo_all _ _ _ (HRL.out.trans HAL.out.symm)]; exact HNEXT.out
          rw [HE.out] at HOWN
          go_wp2
          go_roundw
          case rel => exact ⟨i + 1, by omega, by go_num, hBr, hszr, HOWN⟩
          case measure => simp [intOf]; omega
    · obtain rfl : i = 2 := by omega
      go_wp2
      go_ret
      refine ⟨_, rfl, hBr, ?_⟩
      exact HOWN.out
end Go.Proofs.Ytplcikgmefcfbaa
