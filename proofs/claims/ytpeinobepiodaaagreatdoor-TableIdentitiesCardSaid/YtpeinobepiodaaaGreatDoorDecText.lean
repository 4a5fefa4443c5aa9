/- decimal text: the numeral of pieces. -/
import Derived.Test.YtpeinobepiodaaaGreatDoorDecRev
namespace Go.Proofs.YtpeinobepiodaaaGreatDoor
set_option linter.unusedVariables false
set_option linter.unusedSimpArgs false
open Go.RowKit

/-- What lies in the digits when i pieces are written. -/
structure TextS (l : List Nat) (i : Nat) (bs : List UInt8) : Prop where
  dig : bs.all isDig = true
  len : i < l.length → bs.length = 9 * i
  le : bs.length ≤ 9 * i
  val : dv bs = lv (l.take i)
  last : i = l.length → ∃ c, bs.getLast? = some c ∧ c ≠ 48
/-- What lies in them when k digits of piece i are written, of which n is left. -/
structure TextK (l : List Nat) (i k n : Nat) (bs : List UInt8) : Prop where
  dig : bs.all isDig = true
  len : bs.length = 9 * i + k
  val : dv bs + 10 ^ bs.length * n = lv (l.take (i + 1))
  lt : n < 10 ^ (9 - k)
  last : i + 1 = l.length → n = 0 → ∃ c, bs.getLast? = some c ∧ c ≠ 48
theorem TextS.zero (l : List Nat) (h : l ≠ []) : TextS l 0 [] := ⟨rfl, fun _ => rfl, by simp, rfl, fun e => absurd (List.length_eq_zero_iff.1 e.symm) h⟩
theorem TextS.enter {l : List Nat} {i x : Nat} {bs : List UInt8} (h : TextS l i bs) (hc : Can l) (hx : l[i]? = some x) : TextK l i 0 x bs := by
  have hi := (List.getElem?_eq_some_iff.1 hx).1
  refine ⟨h.dig, h.len hi, ?_, hc.1.get hx, fun he h0 => ?_⟩
  · rw [h.val, h.len hi, lv_take_succ hx, pB_pow]
  · exact absurd h0 (hc.2 x (by rw [← he, Nat.add_sub_cancel]; exact hx))
theorem TextK.step {l : List Nat} {i k n : Nat} {bs : List UInt8} {c : UInt8} (h : TextK l i k n bs) (hk : k < 9) (hn : i + 1 < l.length ∨ 0 < n) (hc : c.toNat = 48 + n % 10) : TextK l i (k + 1) (n / 10) (bs ++ [c]) := by
  refine ⟨?_, by rw [List.length_append, h.len]; rfl, text_round hc h.val, ?_, fun he h0 => ⟨c, by simp, ?_⟩⟩
  · rw [List.all_append, h.dig, Bool.true_and, List.all_cons, List.all_nil, Bool.and_true]
    exact decide_eq_true (by omega)
  · have := h.lt
    rw [show 9 - k = (9 - (k + 1)) + 1 by omega, Nat.pow_succ] at this
    omega
  · rintro rfl
    rw [show (48 : UInt8).toNat = 48 from rfl] at hc
    omega
theorem TextK.leave {l : List Nat} {i k n : Nat} {bs : List UInt8} (h : TextK l i k n bs) (hk : k ≤ 9) (hi : i < l.length) (hn : k = 9 ∨ (¬ i + 1 < l.length ∧ n = 0)) : TextS l (i + 1) bs := by
  have h0 : n = 0 := by
    rcases hn with rfl | ⟨-, h⟩
    · have := h.lt; rw [Nat.sub_self, Nat.pow_zero] at this; omega
    · exact h
  have hv := h.val
  rw [h0, Nat.mul_zero, Nat.add_zero] at hv
  exact ⟨h.dig, fun hlt => by have := h.len; omega, by have := h.len; omega, hv, fun he => h.last he h0⟩
theorem TextS.done {l : List Nat} {bs : List UInt8} (h : TextS l l.length bs) : bs.reverse = (numB (lv l)).data.toList := by
  obtain ⟨c, hc, hc48⟩ := h.last rfl
  have hne : bs ≠ [] := by rintro rfl; simp at hc
  have h1 := num_unique (l := bs.reverse) (by rw [List.all_reverse]; exact h.dig) (by simpa using hne) (.inl (by rw [List.head?_reverse, hc]; simpa using hc48))
  rw [h1, decV_reverse, h.val, List.take_length, numB_data]

set_option maxRecDepth 100000 in
set_option maxHeartbeats 2000000 in
theorem text_any (l : List Nat) (v : Value) (w : World) (h : PcsAt w v l) (hc : Can l) (hlen : l.length ≤ 100000) :
    Calls Tryz.prog 122 #[v] w fun e w' => e = .returned (.string (numB (lv l))) ∧ Ext w w' := by
  obtain ⟨a, cap, rfl, hl, hcap, hcell⟩ := h.open
  have HX := Lib.hid hcell
  have HC := Lib.hid hc
  clear h hcell hc
  by_cases hn : l = []
  · subst hn
    have HF : Hid (numB (lv []) = ⟨#[48]⟩) := by unfold Hid numB; rw [lv_nil, Lib.decDigits_one (by omega)]; rfl
    rw [HF.out]
    go_enter Tryz.func122, Tryz.ntmps122
    go_wp2_with fail
    go_ret
    exact ⟨rfl, Ext.refl _⟩
  · obtain ⟨b, off, rfl, hb, hcell⟩ := HX.out hn
    have HCELL := Lib.hid hcell
    have hpos : 0 < l.length := List.length_pos_iff.2 hn
    have hnz : ((l.length : Int) == 0) = false := by rw [beq_eq_false_iff_ne]; omega
    have HN := Lib.hid hn
    obtain ⟨c9, hc9⟩ : ∃ c9 : Nat, (9 * (l.length : Int)) = (c9 : Int) := ⟨9 * l.length, by omega⟩
    have hc9b : c9 ≤ 900000 := by omega
    obtain ⟨i0, hi, hz0, hz1, hz2⟩ := info_parts infoU8
    have HI := Lib.hid hi; have HZ0 := Lib.hid hz0; have HZ1 := Lib.hid hz1; have HZ2 := Lib.hid hz2
    clear hi hz0 hz1 hz2 HX hcell hn
    go_enter Tryz.func122, Tryz.ntmps122
    go_wp2_with (at_make; refine wpList_make_own _ rfl _ _ 174 rfl w.heap.size 5 i0 (.int .u8 0) 1 Tryz.underlying174 HI.out HZ0.out HZ1.out _ _ _ c9 rfl rfl rfl ?c1 ?c2 ?c3 ?_)
    case c1 => rw [HZ2.out]; omega
    case c2 => unfold maxLen; omega
    case c3 => exact Nat.le_refl _
    intro w1 hown hgrow
    have HB0 : Hid (Build w1 w.heap.size 5 1 (.slice (some ⟨w.heap.size, 0, none⟩) 0 c9) byR []) := ⟨[], rfl, by simp, by simpa using hown, by simp⟩
    have hE1 := ext_grown hgrow
    have HS0 := Lib.hid (TextS.zero l HN.out)
    clear hown hgrow hc9 hc9b
    go_wp2_with fail
    go_loopw [3, 16] (fun out t wr => ∃ (i : Nat) (bs : List UInt8), i ≤ l.length ∧ t = .int .i64 i ∧ Ext w wr ∧ Hid (Build wr w.heap.size 5 1 out byR bs) ∧ Hid (TextS l i bs)) (fun _ t _ => l.length - (intOf t).toNat)
    case atStart => exact ⟨0, [], by omega, rfl, hE1, HB0.out, HS0.out⟩
    case round =>
      obtain ⟨i, bs, hi, rfl, hEw, HB, HS⟩ := hrel
      obtain ⟨wo, rfl⟩ : ∃ wo : World, wo = wr := ⟨_, rfl⟩
      clear HB0 HS0
      by_cases hlt : i < l.length
      · obtain ⟨x, hx⟩ : ∃ x, l[i]? = some x := ⟨_, List.getElem?_eq_getElem hlt⟩
        have g1 := hEw.cell (HCELL.out i x hx)
        have hxb := HC.out.1.get hx
        have HK0 := Lib.hid (HS.out.enter HC.out hx)
        clear hx
        go_wp2_with fail
        go_loopw [3, 6, 5] (fun out t n wr => ∃ (k m : Nat) (bs : List UInt8), k ≤ 9 ∧ t = .int .i64 k ∧ n = .int .u64 m ∧ m < 1000000000 ∧ Ext w wr ∧ Hid (Build wr w.heap.size 5 1 out byR bs) ∧ Hid (TextK l i k m bs)) (fun _ t _ _ => 9 - (intOf t).toNat)
        case atStart => exact ⟨0, x, bs, by omega, rfl, rfl, hxb, hEw, HB.out, HK0.out⟩
        case round =>
          obtain ⟨k, m, bs', hk, rfl, rfl, hm, hEi, HBi, HKi⟩ := hrel
          obtain ⟨wi, rfl⟩ : ∃ wi : World, wi = wr := ⟨_, rfl⟩
          clear g1
          by_cases hgo : k < 9 ∧ (i + 1 < l.length ∨ 0 < m)
          · obtain ⟨hk9, hgo⟩ := hgo
            obtain ⟨d, hd⟩ : ∃ d, m % 10 = d := ⟨_, rfl⟩
            obtain ⟨q, hq⟩ : ∃ q, m / 10 = q := ⟨_, rfl⟩
            have hdi : (m : Int) % 10 = (d : Int) := by omega
            have hqi : (m : Int) / 10 = (q : Int) := by omega
            have hd9 : d ≤ 9 := by omega
            have hqb : q < 1000000000 := by omega
            obtain ⟨ch, hch⟩ : ∃ ch : UInt8, ch.toNat = 48 + d := ⟨UInt8.ofNat (48 + d), by rw [UInt8.toNat_ofNat']; omega⟩
            have HK2 : Hid (TextK l i (k + 1) q (bs' ++ [ch])) := by
              unfold Hid; rw [← hq]; exact HKi.out.step hk9 hgo (by rw [hch, hd])
            have hsz : w.heap.size ≤ wi.heap.size := hEi.size
            have HLL : Hid (bs'.length < 1000000) := by have := HKi.out.len; unfold Hid; omega
            have HRR : Hid (∀ x : World, byR x [Value.int .u8 (48 + (d : Int))] ch) := fun _ => by unfold byR byV; rw [hch]; rfl
            clear hd hq hch
            have hgo1 : i + 1 < l.length ∨ (¬ i + 1 < l.length ∧ 0 < m) := by omega
            clear hgo
            rcases hgo1 with hl1 | ⟨hl1, hm0⟩
            all_goals
              go_wp2_with (at_builtin; go_must (refine wpList_append_build _ rfl _ _ 174 rfl w.heap.size 5 (.int .u8 0) 1 1 Tryz.underlying174 infoU8 rfl (by decide) u3 byR bs' ch #[.int .u8 (48 + d)] 5 rfl HBi.out rfl rfl ?_ (fun x _ => HRR.out x) HLL.out (by decide) hsz ?_))
              all_goals first | (simp [Value.oneCell']; done) | skip
              intro v' w5 hB5 hg5 hb5 hs5 _
              have HB5 := Lib.hid hB5
              have HX5 := Lib.hid (Below.trans hEi hb5)
              clear hB5 hg5 hb5
              go_wp2_with fail
              go_roundw
              case rel => exact ⟨k + 1, q, _, by omega, by go_num, rfl, hqb, HX5.out, HB5.out, HK2.out⟩
              case measure => simp [intOf]; omega
          · have hlv : k = 9 ∨ (k < 9 ∧ ¬ i + 1 < l.length ∧ m = 0) := by omega
            have HS2 : Hid (TextS l (i + 1) bs') := HKi.out.leave hk hlt (by omega)
            clear hgo
            rcases hlv with rfl | ⟨hk9, hl1, rfl⟩
            all_goals
              go_wp2_with fail
              go_roundw
              case rel => exact ⟨i + 1, bs', by omega, by go_num, hEi, HBi.out, HS2.out⟩
              case measure => simp [intOf]; omega
      · obtain rfl : l.length = i := by omega
        have hsh := HB.out
        have HDONE := Lib.hid (HS.out.done)
        obtain ⟨c, hc, -⟩ := HS.out.last rfl
        have hbl : 0 < bs.length := by cases bs with | nil => simp at hc | cons _ _ => simp
        have HLE : Hid (bs.length ≤ 900000) := by have := HS.out.le; unfold Hid; omega
        have hown := HB.out.ownB
        obtain ⟨g, capb, rfl, hg1, hg2, hg3, hg4⟩ := owns_shape hown hbl
        have HREV := Lib.hid (reverse_any w.heap.size bs _ wo hown)
        unfold maxLen at hg4
        have hcv : ∀ w', OwnB w.heap.size w' (.slice (some ⟨g, 0, none⟩) bs.length capb) bs.reverse → (convert 174 26 (.slice (some ⟨g, 0, none⟩) bs.length capb)).run Tryz.prog w' = .ok (.string (numB (lv l))) w' := by
          intro w' ho
          have e : numB (lv l) = ⟨bs.reverse.toArray⟩ := by
            have h1 := HDONE.out
            generalize numB (lv l) = nb at *
            cases nb with | mk d => simp only at h1; rw [h1]
          rw [e]
          have := run_convert_bytes_back w' 174 26 5 ⟨g, 0, none⟩ capb bs.reverse Tryz.underlying174 Tryz.underlying5 Tryz.underlying26 (by
            intro j hj
            have hx := (ho.get (k := j) (x := bs.reverse[j]) (List.getElem?_eq_getElem hj)).1
            rw [show (⟨g, 0, none⟩ : Addr).add j = ⟨g, j, none⟩ by unfold Addr.add; split <;> simp_all]
            exact hx)
          rw [List.length_reverse] at this
          exact this
        have HCV := Lib.hid hcv
        clear hc hsh hown hcv hbl
        go_wp2_with fail
        refine HREV.out.mono ?_
        rintro e w5 ⟨rfl, ho5, hg5⟩
        have hcv := HCV.out _ ho5
        have HX5 : Hid (Ext w w5) := Below.trans hEw ⟨hg5.os, hg5.tape, hg5.output, hg5.size, fun k hk => hg5.block k (Nat.lt_of_lt_of_le hk hEw.size) (by simp only [Value.ownBlock]; intro e; cases e; omega)⟩
        clear ho5 hg5 HREV HCV
        go_wp2_with fail
        go_ret
        exact ⟨rfl, HX5.out⟩
end Go.Proofs.YtpeinobepiodaaaGreatDoor
