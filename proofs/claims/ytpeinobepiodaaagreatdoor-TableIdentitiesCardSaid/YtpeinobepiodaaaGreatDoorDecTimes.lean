/- decimal: times, scaled, small on pieces. -/
import Derived.Test.YtpeinobepiodaaaGreatDoorDecOps
namespace Go.Proofs.YtpeinobepiodaaaGreatDoor
set_option linter.unusedVariables false
set_option linter.unusedSimpArgs false
open Go.RowKit

/-- What lies in the product when i pieces of the first factor are done. -/
structure TimesS (p q : List Nat) (i : Nat) (L : List Nat) : Prop where
  len : L.length = p.length + q.length
  pcs : Pcs L
  val : lv L = lv (p.take i) * lv q
  zero : ∀ j, i + q.length ≤ j → j < L.length → L[j]? = some 0
/-- And k pieces of the second one, of piece i with value x. -/
structure TimesK (p q : List Nat) (i x k c : Nat) (L : List Nat) : Prop where
  len : L.length = p.length + q.length
  pcs : Pcs L
  lt : c < 1000000000
  val : lv L + c * pB (i + k) = lv (p.take i) * lv q + x * (lv (q.take k) * pB i)
  zero : ∀ j, i + q.length ≤ j → j < L.length → L[j]? = some 0
theorem TimesS.start (p q : List Nat) : TimesS p q 0 (List.replicate (p.length + q.length) 0) :=
  ⟨by simp, Pcs.zeros _, by rw [lv_zeros, List.take_zero, lv_nil, Nat.zero_mul], fun j _ h => by rw [List.getElem?_replicate, if_pos (by simpa using h)]⟩
theorem TimesS.enter {p q L : List Nat} {i : Nat} (x : Nat) (h : TimesS p q i L) : TimesK p q i x 0 0 L :=
  ⟨h.len, h.pcs, by omega, by rw [h.val, List.take_zero, lv_nil]; simp, h.zero⟩
theorem TimesK.step {p q L : List Nat} {i x k c a b y c' : Nat} (h : TimesK p q i x k c L) (hk : q[k]? = some b) (ha : L[i + k]? = some a) (hx : x < 1000000000) (hc : c' = c + a + x * b) (hcl : c' / 1000000000 < 1000000000) (hy : y = c' % 1000000000) :
    TimesK p q i x (k + 1) (c' / 1000000000) (L.set (i + k) y) := by
  have hkl := (List.getElem?_eq_some_iff.1 hk).1
  refine ⟨by rw [List.length_set]; exact h.len, h.pcs.set _ _ (by omega), hcl, ?_, fun j hj hj2 => ?_⟩
  · have := times_round (P := pB (i + k)) (P' := pB (i + k + 1)) (c := c) (x := a) (y := y) (ab := x * b) (acc2 := x * (lv (q.take (k + 1)) * pB i)) (pB_succ _) h.val hc hy (lv_set y ha) (by
      rw [lv_take_succ hk, pB_add]; grind)
    exact this
  · rw [List.getElem?_set, if_neg (by omega)]
    exact h.zero j hj (by simpa using hj2)
theorem TimesK.leave {p q L : List Nat} {i x c : Nat} (h : TimesK p q i x q.length c L) (hx : p[i]? = some x) : TimesS p q (i + 1) (L.set (i + q.length) c) ∧ L[i + q.length]? = some 0 := by
  have hi := (List.getElem?_eq_some_iff.1 hx).1
  have h0 := h.zero (i + q.length) (Nat.le_refl _) (by rw [h.len]; omega)
  refine ⟨⟨by rw [List.length_set]; exact h.len, h.pcs.set _ _ h.lt, ?_, fun j hj hj2 => ?_⟩, h0⟩
  · have h1 := lv_set c h0
    have h2 := h.val
    rw [List.take_length] at h2
    rw [lv_take_succ hx]
    have : (lv (p.take i) + pB i * x) * lv q = lv (p.take i) * lv q + x * (lv q * pB i) := by grind
    have : c * pB (i + q.length) = pB (i + q.length) * c := Nat.mul_comm _ _
    omega
  · rw [List.getElem?_set, if_neg (by omega)]
    exact h.zero j (by omega) (by simpa using hj2)
theorem mul_piece {a b : Nat} (ha : a < 1000000000) (hb : b < 1000000000) : a * b ≤ 999999998000000001 := by
  have : a * b ≤ 999999999 * 999999999 := Nat.mul_le_mul (by omega) (by omega)
  omega

set_option maxRecDepth 100000 in
set_option maxHeartbeats 2000000 in
theorem times_any (p q : List Nat) (u v : Value) (w : World) (hu : PcsAt w u p) (hv : PcsAt w v q) (hp : Pcs p) (hq : Pcs q) (hlp : p.length ≤ 50000) (hlq : q.length ≤ 50000) :
    Calls Tryz.prog 121 #[u, v] w fun e w' => ∃ r l, e = .returned r ∧ Hid (OwnP w.heap.size w' r l ∧ Can l ∧ lv l = lv p * lv q ∧ l.length ≤ p.length + q.length) ∧ Ext w w' := by
  obtain ⟨a, ca, rfl, hla, hca, hcu⟩ := hu.open
  obtain ⟨b, cb, rfl, hlb, hcb, hcv⟩ := hv.open
  have HP := Lib.hid hp; have HQ := Lib.hid hq
  have HU := Lib.hid hcu; have HV := Lib.hid hcv
  obtain ⟨i0, hi, hz0, hz1, hz2⟩ := info_parts infoU64
  have HI := Lib.hid hi; have HZ0 := Lib.hid hz0; have HZ1 := Lib.hid hz1; have HZ2 := Lib.hid hz2
  obtain ⟨n, hn⟩ : ∃ n : Nat, n = p.length + q.length := ⟨_, rfl⟩
  have hnn : (p.length : Int) + (q.length : Int) = (n : Int) := by omega
  have hn5 : n ≤ 100000 := by omega
  have hnp : p.length ≤ n := by omega
  have HN := Lib.hid hn
  clear hi hz0 hz1 hz2 hu hv hcu hcv hp hq hn
  go_enter Tryz.func121, Tryz.ntmps121
  go_wp2_with (at_make; refine wpList_make_full _ rfl _ _ 152 rfl w.heap.size 147 i0 (.int .u64 0) 1 Tryz.underlying152 HI.out HZ0.out HZ1.out _ _ _ _ n rfl rfl rfl rfl ?c1 ?c2 ?c3 ?_)
  case c1 => rw [HZ2.out]; omega
  case c2 => unfold maxLen; omega
  case c3 => exact Nat.le_refl _
  intro w1 hown hgrow
  have hE1 := ext_grown hgrow
  have HO0 := Lib.hid (OwnP.made hown)
  have HS0 : Hid (TimesS p q 0 (List.replicate n 0)) := by unfold Hid; rw [HN.out]; exact TimesS.start p q
  clear hown hgrow
  go_wp2_with fail
  go_loopw [19] (fun t wr => ∃ (i : Nat) (L : List Nat), i ≤ p.length ∧ t = .int .i64 i ∧ Ext w wr ∧ Hid (OwnP w.heap.size wr (.slice (some ⟨w.heap.size, 0, none⟩) n n) L) ∧ Hid (TimesS p q i L)) (fun t _ => p.length - (intOf t).toNat)
  case atStart => exact ⟨0, _, by omega, rfl, hE1, HO0.out, HS0.out⟩
  case round =>
    obtain ⟨i, L, hi, rfl, hEw, HO, HS⟩ := hrel
    obtain ⟨wo, rfl⟩ : ∃ wo : World, wo = wr := ⟨_, rfl⟩
    clear HO0 HS0
    by_cases hlt : i < p.length
    · obtain ⟨x, hx⟩ : ∃ x, p[i]? = some x := ⟨_, List.getElem?_eq_getElem hlt⟩
      obtain ⟨ba, oa, rfl, -, hca'⟩ := HU.out (by rintro rfl; simp at hlt)
      have g1 := hEw.cell (hca' i x hx)
      have hxb := HP.out.get hx
      have HX := Lib.hid hx
      have HK0 := Lib.hid (HS.out.enter x)
      clear hx hca'
      go_wp2_with fail
      clear g1
      go_loopw [26, 8] (fun t c wr => ∃ (k cc : Nat) (L : List Nat), k ≤ q.length ∧ t = .int .i64 k ∧ c = .int .u64 cc ∧ cc < 1000000000 ∧ Ext w wr ∧ Hid (OwnP w.heap.size wr (.slice (some ⟨w.heap.size, 0, none⟩) n n) L) ∧ Hid (TimesK p q i x k cc L)) (fun t _ _ => q.length - (intOf t).toNat)
      case atStart => exact ⟨0, 0, L, by omega, rfl, rfl, by omega, hEw, HO.out, HK0.out⟩
      case round =>
        obtain ⟨k, cc, L', hk, rfl, rfl, hcc, hEi, HOi, HKi⟩ := hrel
        obtain ⟨wi, rfl⟩ : ∃ wi : World, wi = wr := ⟨_, rfl⟩
        have hikn : i + q.length < n := by have := HN.out; omega
        have hLn : Hid (L'.length = n) := by unfold Hid; rw [HKi.out.len, HN.out]
        by_cases hkl : k < q.length
        · obtain ⟨z, hz⟩ : ∃ z, q[k]? = some z := ⟨_, List.getElem?_eq_getElem hkl⟩
          obtain ⟨bb, ob, rfl, -, hcb'⟩ := HV.out (by rintro rfl; simp at hkl)
          have g2 := hEi.cell (hcb' k z hz)
          obtain ⟨y, hy⟩ : ∃ y, L'[i + k]? = some y := ⟨_, List.getElem?_eq_getElem (by have := hLn.out; omega)⟩
          obtain ⟨g3, f3⟩ := HOi.out.get hy
          have hyb := HKi.out.pcs.get hy
          have hzb := HQ.out.get hz
          have hm := mul_piece hxb hzb
          obtain ⟨m, hmm⟩ : ∃ m, x * z = m := ⟨_, rfl⟩
          rw [hmm] at hm
          have hmi : (x : Int) * (z : Int) = (m : Int) := by rw [← hmm]; exact (Int.natCast_mul _ _).symm
          obtain ⟨c', hc'⟩ : ∃ c', c' = cc + y + m := ⟨_, rfl⟩
          have hci : (cc : Int) + ((y : Int) + (m : Int)) = (c' : Int) := by omega
          obtain ⟨r, hr⟩ : ∃ r, r = c' % 1000000000 := ⟨_, rfl⟩
          obtain ⟨d, hd⟩ : ∃ d, d = c' / 1000000000 := ⟨_, rfl⟩
          have hri : (c' : Int) % 1000000000 = (r : Int) := by omega
          have hdi : (c' : Int) / 1000000000 = (d : Int) := by omega
          have hdb : d < 1000000000 := by omega
          have hcb2 : c' < 1000000000000000000 := by omega
          have hrb : r < 1000000000 := by omega
          have HK2 : Hid (TimesK p q i x (k + 1) d (L'.set (i + k) r)) := by
            unfold Hid; rw [hd]
            exact HKi.out.step hz hy hxb (by rw [hc', hmm]) (by omega) hr
          have HO2 := Lib.hid (HOi.out.set (i + k) r)
          have hik : i + k < n := by omega
          have hszi : w.heap.size ≤ wi.heap.size := hEi.size
          clear hz hy hcb' hmm hc' hr hd
          go_wp2_with fail
          go_roundw
          case rel => exact ⟨k + 1, d, _, by omega, by go_num, rfl, hdb, Below.setCell hEi (p := ⟨w.heap.size, i + k, none⟩) (Nat.le_refl _) _, HO2.out, HK2.out⟩
          case measure => simp [intOf]; omega
        · obtain rfl : q.length = k := by omega
          have hend := HKi.out.leave HX.out
          obtain ⟨g3, f3⟩ := HOi.out.get hend.2
          have HS2 := Lib.hid hend.1
          have HO2 := Lib.hid (HOi.out.set (i + q.length) cc)
          clear hend
          go_wp2_with fail
          go_roundw
          case rel => exact ⟨i + 1, _, by omega, by go_num, Below.setCell hEi (p := ⟨w.heap.size, i + q.length, none⟩) (Nat.le_refl _) _, HO2.out, HS2.out⟩
          case measure => simp [intOf]; omega
    · obtain rfl : p.length = i := by omega
      have HT := Lib.hid (trim_any w.heap.size L _ wo HO.out HS.out.pcs)
      have HV := HS.out.val
      rw [List.take_length] at HV
      have HV := Lib.hid HV
      have HL := Lib.hid HS.out.len
      go_wp2_with fail
      refine HT.out.mono ?_
      rintro e w5 ⟨r, l, rfl, hr, kk, rfl⟩
      have HR := Lib.hid hr
      clear hr HT
      go_wp2_with fail
      go_ret
      exact ⟨r, l, rfl, ⟨HR.out.out.1, HR.out.out.2.1, HR.out.out.2.2.1.trans HV.out, by rw [← HL.out]; exact HR.out.out.2.2.2⟩, Ext.draws hEw _⟩

set_option maxRecDepth 100000 in
set_option maxHeartbeats 400000 in
theorem scaled_any (p : List Nat) (n : Nat) (u : Value) (w : World) (hu : PcsAt w u p) (hp : Pcs p) (hn : n < 1000000000) (hn0 : 0 < n) (hlp : p.length ≤ 50000) :
    Calls Tryz.prog 160 #[u, .int .u64 n] w fun e w' => ∃ r l, e = .returned r ∧ Hid (OwnP w.heap.size w' r l ∧ Can l ∧ lv l = lv p * n ∧ l.length ≤ p.length + 1) ∧ Ext w w' := by
  have HU := Lib.hid hu
  have HP := Lib.hid hp
  have HO : Hid (OwnP w.heap.size (w.alloc (.cells #[.int .u64 n] 147)) (.slice (some ⟨w.heap.size, 0, none⟩) 1 1) [n]) := by
    have := World.ownsRow_lit (e := 147) (size := 1) w #[Value.int .u64 n] 1 (Nat.le_refl _) (by unfold maxLen; omega) rfl
    exact this
  have HPN : Hid (Pcs [n]) := Pcs.cons hn Pcs.nil
  have HT := Lib.hid (trim_any w.heap.size [n] _ _ HO.out HPN.out)
  clear hu hp
  go_enter Tryz.func160, Tryz.ntmps160
  go_wp2_with fail
  refine HT.out.mono ?_
  rintro e w1 ⟨r, l, rfl, hr, kk, rfl⟩
  have HR := Lib.hid hr
  have HE1 : Hid (Ext w ((w.alloc (.cells #[.int .u64 n] 147)).drewN kk)) := Ext.draws (Ext.alloc _ _) _
  have HM := Lib.hid (times_any p l u r _ (PcsAt.ext HU.out HE1.out) HR.out.out.1.at HP.out HR.out.out.2.1.1 hlp (by have := HR.out.out.2.2.2; simp at this; omega))
  clear hr HT
  go_wp2_with fail
  refine HM.out.mono ?_
  rintro e w2 ⟨r2, l2, rfl, hr2, hE2⟩
  have HR2 := Lib.hid hr2
  have HE2 := Lib.hid (Ext.trans HE1.out hE2)
  clear hr2 hE2 HM
  go_wp2_with fail
  go_ret
  refine ⟨r2, l2, rfl, ⟨HR2.out.out.1.base HE1.out.size, HR2.out.out.2.1, ?_, ?_⟩, HE2.out⟩
  · rw [HR2.out.out.2.2.1, HR.out.out.2.2.1, lv_cons, lv_nil, Nat.mul_zero, Nat.add_zero]
  · have h1 := HR2.out.out.2.2.2
    have h2 := HR.out.out.2.2.2
    simp at h2; omega
end Go.Proofs.YtpeinobepiodaaaGreatDoor
