/- decimal: small on pieces: division by one piece. -/
import Derived.Test.YtpeinobepiodaaaGreatDoorDecTimes
namespace Go.Proofs.YtpeinobepiodaaaGreatDoor
set_option linter.unusedVariables false
set_option linter.unusedSimpArgs false
open Go.RowKit

/-- The pieces from k on are divided. -/
structure SmallS (p : List Nat) (n k rest : Nat) (L : List Nat) : Prop where
  len : L.length = p.length
  pcs : Pcs L
  lt : rest < n
  val : lv (p.drop k) = n * lv (L.drop k) + rest
theorem SmallS.start (p : List Nat) {n : Nat} (hn : 0 < n) : SmallS p n p.length 0 (List.replicate p.length 0) :=
  ⟨by simp, Pcs.zeros _, hn, by rw [List.drop_length, List.drop_eq_nil_of_le (by simp), lv_nil]; simp⟩
theorem SmallS.step {p L : List Nat} {n k rest x : Nat} (h : SmallS p n (k + 1) rest L) (hp : Pcs p) (hx : p[k]? = some x) (hn : 0 < n) :
    SmallS p n k ((rest * 1000000000 + x) % n) (L.set k ((rest * 1000000000 + x) / n)) := by
  have hk := (List.getElem?_eq_some_iff.1 hx).1
  refine ⟨by rw [List.length_set]; exact h.len, h.pcs.set _ _ (small_lt h.lt (hp.get hx)), Nat.mod_lt _ hn, ?_⟩
  have e : lv ((L.set k ((rest * 1000000000 + x) / n)).drop k) = (rest * 1000000000 + x) / n + 1000000000 * lv (L.drop (k + 1)) := by
    rw [lv_drop_succ (k := k) (x := (rest * 1000000000 + x) / n) (by rw [List.getElem?_set, if_pos rfl, if_pos (by rw [h.len]; exact hk)])]
    rw [List.drop_set_of_lt (by omega)]
  rw [e]
  exact small_round h.val (lv_drop_succ hx) hn

set_option maxRecDepth 100000 in
set_option maxHeartbeats 2000000 in
theorem small_any (p : List Nat) (n : Nat) (u : Value) (w : World) (hu : PcsAt w u p) (hp : Pcs p) (hn : n < 1000000000) (hn0 : 0 < n) (hlp : p.length ≤ 100000) :
    Calls Tryz.prog 147 #[u, .int .u64 n] w fun e w' => ∃ r l, e = .returned (.tuple #[r, .int .u64 ((lv p % n : Nat) : Int)]) ∧ Hid (OwnP w.heap.size w' r l ∧ Can l ∧ lv l = lv p / n ∧ l.length ≤ p.length) ∧ Ext w w' := by
  obtain ⟨a, ca, rfl, hla, hca, hcu⟩ := hu.open
  have HP := Lib.hid hp
  have HU := Lib.hid hcu
  obtain ⟨i0, hi, hz0, hz1, hz2⟩ := info_parts infoU64
  have HI := Lib.hid hi; have HZ0 := Lib.hid hz0; have HZ1 := Lib.hid hz1; have HZ2 := Lib.hid hz2
  have HS0 := Lib.hid (SmallS.start p hn0)
  have hnz : ((n : Int) == 0) = false := by rw [beq_eq_false_iff_ne]; omega
  have hnz2 : ¬ (n : Int) = 0 := by omega
  clear hi hz0 hz1 hz2 hu hcu hp
  go_enter Tryz.func147, Tryz.ntmps147
  go_wp2_with (at_make; refine wpList_make_full _ rfl _ _ 152 rfl w.heap.size 147 i0 (.int .u64 0) 1 Tryz.underlying152 HI.out HZ0.out HZ1.out _ _ _ _ p.length rfl rfl rfl rfl ?c1 ?c2 ?c3 ?_)
  case c1 => rw [HZ2.out]; omega
  case c2 => unfold maxLen; omega
  case c3 => exact Nat.le_refl _
  intro w1 hown hgrow
  have hE1 := ext_grown hgrow
  have HO0 := Lib.hid (OwnP.made hown)
  clear hown hgrow
  go_wp2_with fail
  go_loopw [7, 8] (fun r t wr => ∃ (rr : Nat) (y : Int) (L : List Nat), r = .int .u64 rr ∧ t = .int .i64 y ∧ rr < n ∧ y < p.length ∧ -2 < y ∧ Ext w wr ∧ Hid (OwnP w.heap.size wr (.slice (some ⟨w.heap.size, 0, none⟩) p.length p.length) L) ∧ Hid (∃ k : Nat, y + 1 = k ∧ SmallS p n k rr L)) (fun _ t _ => (intOf t + 1).toNat)
  case atStart => exact ⟨0, _, _, rfl, rfl, hn0, by omega, by omega, hE1, HO0.out, ⟨p.length, by omega, HS0.out⟩⟩
  case round =>
    obtain ⟨rr, y, L, rfl, rfl, hrr, hy1, hy2, hEw, HO, HS⟩ := hrel
    obtain ⟨wo, rfl⟩ : ∃ wo : World, wo = wr := ⟨_, rfl⟩
    clear HO0 HS0
    by_cases hlt : 0 ≤ y
    · obtain ⟨j, rfl⟩ : ∃ j : Nat, y = j := ⟨y.toNat, by omega⟩
      have hjp : j < p.length := by omega
      obtain ⟨x, hx⟩ : ∃ x, p[j]? = some x := ⟨_, List.getElem?_eq_getElem hjp⟩
      obtain ⟨ba, oa, rfl, -, hca'⟩ := HU.out (by rintro rfl; simp at hjp)
      have g1 := hEw.cell (hca' j x hx)
      have hxb := HP.out.get hx
      have HSJ : Hid (SmallS p n (j + 1) rr L) := by
        obtain ⟨k, e, h⟩ := HS.out
        have : k = j + 1 := by omega
        rw [this] at h; exact h
      obtain ⟨z, hz⟩ : ∃ z, L[j]? = some z := ⟨_, List.getElem?_eq_getElem (by rw [HSJ.out.len]; exact hjp)⟩
      obtain ⟨g3, f3⟩ := HO.out.get hz
      obtain ⟨t, ht⟩ : ∃ t, t = rr * 1000000000 + x := ⟨_, rfl⟩
      have hti : (rr : Int) * 1000000000 + (x : Int) = (t : Int) := by omega
      have htb : t < 1000000000000000000 := by omega
      obtain ⟨q, hq⟩ : ∃ q, q = t / n := ⟨_, rfl⟩
      obtain ⟨m, hm⟩ : ∃ m, m = t % n := ⟨_, rfl⟩
      have hqi : (t : Int) / (n : Int) = (q : Int) := by rw [hq]; exact (Int.natCast_ediv _ _).symm
      have hmi : (t : Int) % (n : Int) = (m : Int) := by rw [hm]; exact (Int.natCast_emod _ _).symm
      have hqi2 : (t : Int).tdiv (n : Int) = (q : Int) := by rw [Int.tdiv_eq_ediv_of_nonneg (by omega), hqi]
      have hmi2 : (t : Int).tmod (n : Int) = (m : Int) := by rw [Int.tmod_eq_emod_of_nonneg (by omega), hmi]
      have hmn : m < n := by rw [hm]; exact Nat.mod_lt _ hn0
      have HS2 : Hid (SmallS p n j m (L.set j q)) := by
        unfold Hid; rw [hq, hm, ht]; exact HSJ.out.step HP.out hx hn0
      have hqb : q < 1000000000 := by rw [hq, ht]; exact small_lt hrr hxb
      have HO2 := Lib.hid (HO.out.set j q)
      have HHE : Hid (∃ k : Nat, ((j : Int) - 1) + 1 = k ∧ SmallS p n k m (L.set j q)) := ⟨j, by omega, HS2.out⟩
      clear hx hca' hz ht hq hm
      go_wp2_with fail
      go_roundw
      case rel => exact ⟨m, _, _, rfl, rfl, hmn, by omega, by omega, Below.setCell hEw (p := ⟨w.heap.size, j, none⟩) (Nat.le_refl _) _, HO2.out, HHE.out⟩
      case measure => simp [intOf]
    · have HSZ : Hid (SmallS p n 0 rr L) := by
        obtain ⟨k, e, h⟩ := HS.out
        have : k = 0 := by omega
        rw [this] at h; exact h
      have hv := HSZ.out.val
      rw [List.drop_zero, List.drop_zero] at hv
      have HQ : Hid (lv L = lv p / n ∧ rr = lv p % n) := by
        unfold Hid
        rw [hv, Nat.mul_add_div hn0, Nat.mul_add_mod, Nat.div_eq_of_lt hrr, Nat.mod_eq_of_lt hrr]
        omega
      have HT := Lib.hid (trim_any w.heap.size L _ wo HO.out HSZ.out.pcs)
      clear hv
      go_wp2_with fail
      refine HT.out.mono ?_
      rintro e w5 ⟨r, l, rfl, hr, kk, rfl⟩
      have HR := Lib.hid hr
      clear hr HT
      go_wp2_with fail
      go_ret2
      exact ⟨r, l, by rw [← HQ.out.2]; rfl, ⟨HR.out.out.1, HR.out.out.2.1, HR.out.out.2.2.1.trans HQ.out.1, by rw [← HSZ.out.len]; exact HR.out.out.2.2.2⟩, Ext.draws hEw _⟩
end Go.Proofs.YtpeinobepiodaaaGreatDoor
