/- digits of the reference of chapter 5. -/
import Derived.Test.YtobgghjmclagaaaDoorNumRef
import Derived.Test.YtobgghjmclagaaaDoorRefComb
import Derived.Lib.ItoaLen
namespace Go.Proofs.YtobgghjmclagaaaDoor
set_option linter.unusedVariables false
set_option linter.unusedSimpArgs false
open Go.RowKit

/-- 'string(b)' of one byte that lies in memory. -/
theorem byteStr (c : UInt8) (z : Int) (hz : z = c.toNat) (g : Nat) (W : World) (h : W.cell? ⟨g, 0, none⟩ = some (.int .u8 z)) :
    (convert 68 9 (.slice (some ⟨g, 0, none⟩) 1 1)).run Tryd.prog W = .ok (.string ⟨#[c]⟩) W := by
  refine run_convert_bytes_back W 68 9 5 ⟨g, 0, none⟩ 1 [c] Tryd.underlying68 Tryd.underlying5 Tryd.underlying9 ?_
  intro j hj
  have : j = 0 := by simp at hj; omega
  subst this
  rw [show (⟨g, 0, none⟩ : Addr).add 0 = ⟨g, 0, none⟩ by unfold Addr.add; split <;> simp_all, h, hz]
  rfl
def digC (d : Int) : UInt8 := UInt8.ofNat (48 + d.toNat)
theorem digC_nat (d : Int) (h0 : 0 ≤ d) (h : d < 10) : (48 + d : Int) = (digC d).toNat := by
  unfold digC
  rw [UInt8.toNat_ofNat']; omega
def decB (n : Int) : ByteArray := ⟨(Lib.decDigits n.toNat).toArray⟩
theorem decB_one (n : Int) (h0 : 0 ≤ n) (h : n < 10) : decB n = ⟨#[digC n]⟩ := by
  unfold decB digC; rw [Lib.decDigits_one (by omega)]

theorem ret_str {a b : ByteArray} (h : a.data = b.data) : Ending.returned (.string a) = .returned (.string b) := by
  cases a; cases b; simp only at h; rw [h]

set_option maxRecDepth 100000 in
set_option maxHeartbeats 1000000 in
theorem digits_pos (k : Nat) : ∀ (n : Int) (w : World), n.toNat ≤ k → 0 ≤ n → n ≤ 1000000000000000000 →
    Calls Tryd.prog 79 #[.int .i64 n] w fun e w' => e = .returned (.string (decB n)) ∧ Ext w w' := by
  induction k with
  | zero =>
    intro n w hk h0 h1
    obtain rfl : n = 0 := by omega
    have hcv := byteStr (digC 0) 48 (digC_nat 0 (by omega) (by omega)) w.heap.size (w.alloc (.cells #[.int .u8 48] 5)) (by simp)
    have HD := Lib.hid (decB_one 0 (by omega) (by omega))
    go_enter Tryd.func79, Tryd.ntmps79
    go_wp2_with fail
    go_ret
    rw [HD.out]
    exact ⟨rfl, Ext.alloc _ _⟩
  | succ k ih =>
    intro n w hk h0 h1
    by_cases hn : n < 10
    · have hcv := byteStr (digC n) (48 + n) (digC_nat n h0 hn) w.heap.size (w.alloc (.cells #[.int .u8 (48 + n)] 5)) (by simp)
      have HD := Lib.hid (decB_one n h0 hn)
      clear ih
      go_enter Tryd.func79, Tryd.ntmps79
      go_wp2_with fail
      go_ret
      rw [HD.out]
      exact ⟨rfl, Ext.alloc _ _⟩
    · have HIH := Lib.hid (fun W => ih (n / 10) W (by omega) (by omega) (by omega))
      clear ih
      obtain ⟨d, hd⟩ : ∃ d, n % 10 = d := ⟨_, rfl⟩
      obtain ⟨q, hq⟩ : ∃ q, n / 10 = q := ⟨_, rfl⟩
      have hd0 : 0 ≤ d := by omega
      have hd1 : d < 10 := by omega
      have HCV := Lib.hid (fun g W h => byteStr (digC d) (48 + d) (digC_nat d hd0 hd1) g W h)
      rw [hq] at HIH
      go_enter Tryd.func79, Tryd.ntmps79
      go_wp2_with fail
      have HX : Hid (∀ W, Ext (w.drew.alloc (.cells #[.int .u8 (48 + d)] 5)) W → W.cell? ⟨w.heap.size, 0, none⟩ = some (.int .u8 (48 + d))) := fun W h => h.cell (show (w.drew.alloc (.cells #[.int .u8 (48 + d)] 5)).cell? ⟨w.heap.size, 0, none⟩ = _ from by rw [show w.heap.size = w.drew.heap.size from rfl, World.cell?_alloc_new]; rfl)
      have hcv := HCV.out
      have hsz : (decB q).size ≤ 20 := by
        rw [Lib.size_eq]
        show (Lib.decDigits q.toNat).length ≤ 20
        rw [Lib.decDigits_length]
        exact Lib.nDigits_le20 _ (by omega)
      have z1 : ¬ 9223372036854775807 < (decB q).size + 1 := by omega
      have z2 : (decB q).size + 1 ≤ 9223372036854775807 := by omega
      have HD : Hid ((decB n).data = (decB q).data ++ #[digC d]) := by
        unfold Hid decB digC
        have e : Lib.decDigits n.toNat = Lib.decDigits (n.toNat / 10) ++ [UInt8.ofNat (48 + n.toNat % 10)] := by
          rw [Lib.decDigits, dif_neg (by omega)]
        have e5 : n.toNat / 10 = q.toNat := by omega
        have e6 : n.toNat % 10 = d.toNat := by omega
        show (Lib.decDigits n.toNat).toArray = (Lib.decDigits q.toNat).toArray ++ _
        rw [e, e5, e6]; simp
      have e2 : n.tmod 10 = d := by rw [Int.tmod_eq_emod_of_nonneg h0]; exact hd
      have e1 : IntKind.i64.wrap (n.tdiv 10) = q := by
        rw [Int.tdiv_eq_ediv_of_nonneg h0, hq]; exact IntWalk.i64_in _ (by omega)
      have e3 : IntKind.u8.wrap d = d := IntWalk.u8_in _ (by omega)
      have e4 : IntKind.u8.wrap (48 + d) = 48 + d := IntWalk.u8_in _ (by omega)
      go_region_with (go_at_call 79; refine (HIH.out _).mono ?_; rintro e w5 ⟨rfl, hE5⟩; (try have c0' := HX.out _ hE5); have HE5 := Lib.hid hE5; clear hE5)
      all_goals
        go_wp2_with fail
        go_ret
        refine ⟨?_, ?_⟩
        · exact (ret_str (by rw [HD.out]; simp))
        · first | exact Ext.trans (Ext.trans (Ext.drew w) HE5.out) (Ext.alloc _ _) | exact Ext.trans (Ext.trans (Ext.drew w) (Ext.alloc _ _)) HE5.out

def itoaS (n : Int) : ByteArray := ⟨(Lib.itoa n).toArray⟩
set_option maxRecDepth 100000 in
set_option maxHeartbeats 1000000 in
theorem digits_any (n : Int) (w : World) (h0 : -1000000000 ≤ n) (h1 : n ≤ 1000000000) :
    Calls Tryd.prog 79 #[.int .i64 n] w fun e w' => e = .returned (.string (itoaS n)) ∧ Ext w w' := by
  by_cases hn : n < 0
  · have HP := Lib.hid (digits_pos (-n).toNat (-n) w (Nat.le_refl _) (by omega) (by omega))
    have hsz : (decB (-n)).size ≤ 20 := by
      rw [Lib.size_eq]
      show (Lib.decDigits (-n).toNat).length ≤ 20
      rw [Lib.decDigits_length]
      exact Lib.nDigits_le20 _ (by omega)
    have z1 : ¬ 9223372036854775807 < 1 + (decB (-n)).size := by omega
    have HS : Hid ((itoaS n).data = #[45] ++ (decB (-n)).data) := by
      unfold Hid itoaS decB Lib.itoa
      rw [if_pos hn, show n.natAbs = (-n).toNat by omega]
      simp
    go_enter Tryd.func79, Tryd.ntmps79
    go_wp2_with fail
    refine HP.out.mono ?_
    rintro e w1 ⟨rfl, hE1⟩
    have HE1 := Lib.hid hE1
    clear hE1 HP
    go_wp2_with fail
    go_ret
    exact ⟨ret_str (by rw [HS.out]; simp), HE1.out⟩
  · have e : itoaS n = decB n := by unfold itoaS decB Lib.itoa; rw [if_neg hn]
    rw [e]
    exact digits_pos n.toNat n w (Nat.le_refl _) (by omega) (by omega)
end Go.Proofs.YtobgghjmclagaaaDoor
