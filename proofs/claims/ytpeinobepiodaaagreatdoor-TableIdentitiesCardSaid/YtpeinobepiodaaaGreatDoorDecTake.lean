/- decimal: take and back on pieces, in place. -/
import Derived.Test.YtpeinobepiodaaaGreatDoorDecSmall
namespace Go.Proofs.YtpeinobepiodaaaGreatDoor
set_option linter.unusedVariables false
set_option linter.unusedSimpArgs false
open Go.RowKit

theorem GrownS.store {S : Nat → Prop} {w w' : World} (h : GrownS S w w') {g : Nat} (hg : S g) (i : Nat) (v : Value) : GrownS S w (w'.setCell ⟨g, i, none⟩ v) :=
  h.trans (grownBy_S (grown_setCell w' g i v) (fun k hk => by cases hk; exact hg))
/-- k pieces are taken away. -/
structure TakeK (p q : List Nat) (n i k c b : Nat) (L : List Nat) : Prop where
  len : L.length = p.length
  pcs : Pcs L
  lt : c < 1000000000
  le : b ≤ 1
  low : L.take i = p.take i
  rest : L.drop (i + k) = p.drop (i + k)
  val : lv L + n * (pB i * lv (q.take k)) = lv p + (c + b) * pB (i + k)
theorem TakeK.start {p q : List Nat} {n i : Nat} (hp : Pcs p) : TakeK p q n i 0 0 0 p :=
  ⟨rfl, hp, by omega, by omega, rfl, rfl, by rw [List.take_zero, lv_nil]; simp⟩
theorem drop_one (L : List Nat) (a b : Nat) (h : b = a + 1) : L.drop b = (L.drop a).drop 1 := by rw [List.drop_drop, h]
theorem take_set_low {L : List Nat} {i j x : Nat} (h : i ≤ j) : (L.set j x).take i = L.take i := List.take_set_of_le h
/-- One round, of which c' is what is to be taken: the carry and the product. -/
theorem TakeK.step {p q L : List Nat} {n i k c b x y c' b' m : Nat} (h : TakeK p q n i k c b L) (hx : L[i + k]? = some x) (hm : lv (q.take (k + 1)) = lv (q.take k) + pB k * m) (hc : c' = c + n * m) (hcl : c' / 1000000000 < 1000000000) (hy : y < 1000000000) (hb : b' ≤ 1)
    (he : y + c' % 1000000000 + b = x + b' * 1000000000) : TakeK p q n i (k + 1) (c' / 1000000000) b' (L.set (i + k) y) := by
  refine ⟨by rw [List.length_set]; exact h.len, h.pcs.set _ _ hy, hcl, hb, by rw [take_set_low (by omega)]; exact h.low, ?_, ?_⟩
  · rw [List.drop_set_of_lt (by omega), drop_one L (i + k) (i + (k + 1)) (by omega), drop_one p (i + k) (i + (k + 1)) (by omega), h.rest]
  · have := take_round (P := pB (i + k)) (P' := pB (i + k + 1)) (p := lv L) (q := pB i * lv (q.take k)) (n := n) (c := c) (b := b) (x := x) (y := y) (qk := m) (old := lv p) (pB_succ _) h.val c' b' (lv (L.set (i + k) y)) (pB i * lv (q.take (k + 1))) hc he (lv_set y hx) (by rw [hm, pB_add]; grind)
    exact this
theorem TakeK.done {p q L : List Nat} {n i c b : Nat} (h : TakeK p q n i (q.length + 1) c b L) (hc : c = 0) : TakeR p q n i L b := by
  subst hc
  have hv := h.val
  rw [List.take_of_length_le (by omega), Nat.zero_add] at hv
  exact ⟨h.len, h.pcs, h.low, by rw [show i + q.length + 1 = i + (q.length + 1) by omega]; exact h.rest, hv, h.le⟩
/-- k pieces are added. -/
structure BackK (p q : List Nat) (i k c : Nat) (L : List Nat) : Prop where
  len : L.length = p.length
  pcs : Pcs L
  lt : c ≤ 2
  low : L.take i = p.take i
  rest : L.drop (i + k) = p.drop (i + k)
  val : lv L + c * pB (i + k) = lv p + pB i * lv (q.take k)
theorem BackK.start {p q : List Nat} {i : Nat} (hp : Pcs p) : BackK p q i 0 0 p :=
  ⟨rfl, hp, by omega, rfl, rfl, by rw [List.take_zero, lv_nil]; simp⟩
theorem BackK.step {p q L : List Nat} {i k c x y c' m : Nat} (h : BackK p q i k c L) (hx : L[i + k]? = some x) (hm : lv (q.take (k + 1)) = lv (q.take k) + pB k * m) (hm9 : m < 1000000000) (hc : c' = c + x + m) (hy : y = c' % 1000000000) :
    BackK p q i (k + 1) (c' / 1000000000) (L.set (i + k) y) := by
  have hxb := h.pcs.get hx
  have hlt := h.lt
  refine ⟨by rw [List.length_set]; exact h.len, h.pcs.set _ _ (by omega), by omega, by rw [take_set_low (by omega)]; exact h.low, ?_, ?_⟩
  · rw [List.drop_set_of_lt (by omega), drop_one L (i + k) (i + (k + 1)) (by omega), drop_one p (i + k) (i + (k + 1)) (by omega), h.rest]
  · have := times_round (P := pB (i + k)) (P' := pB (i + k + 1)) (c := c) (x := x) (y := y) (ab := m) (acc2 := pB i * lv (q.take (k + 1))) (pB_succ _) h.val hc hy (lv_set y hx) (by rw [hm, pB_add]; grind)
    exact this
theorem BackK.done {p q L : List Nat} {i c : Nat} (h : BackK p q i (q.length + 1) c L) : BackR p q i L c := by
  have hv := h.val
  rw [List.take_of_length_le (by omega)] at hv
  exact ⟨h.len, h.pcs, h.low, by rw [show i + q.length + 1 = i + (q.length + 1) by omega]; exact h.rest, hv⟩
theorem take_beyond (q : List Nat) : lv (q.take (q.length + 1)) = lv (q.take q.length) + pB q.length * 0 := by
  rw [List.take_of_length_le (by omega), List.take_length]; simp

set_option maxRecDepth 100000 in
set_option maxHeartbeats 2000000 in
/-- take: a multiple of q is taken away from p, in place. -/
theorem take_any (B : Nat) (p q : List Nat) (n i g cap : Nat) (v : Value) (w : World) (h : OwnP B w (.slice (some ⟨g, 0, none⟩) p.length cap) p) (hq : ∀ w', GrownS (· = g) w w' → PcsAt w' v q) (hpp : Pcs p) (hqp : Pcs q) (hn : n < 1000000000) (hi : i + q.length < p.length) (hlp : p.length ≤ 200000) :
    Calls Tryz.prog 134 #[.slice (some ⟨g, 0, none⟩) p.length cap, v, .int .u64 n, .int .i64 i] w fun e w' => ∃ L b, e = .returned (.bool (decide (0 < b))) ∧ OwnP B w' (.slice (some ⟨g, 0, none⟩) p.length cap) L ∧ TakeR p q n i L b ∧ GrownS (· = g) w w' := by
  obtain ⟨a, ca, rfl, hla, hca, -⟩ := (hq w (GrownS.refl _ _)).open
  have HQ : Hid (∀ w', GrownS (· = g) w w' → ∀ (k : Nat) (x : Nat), q[k]? = some x → ∃ b off, a = some ⟨b, off, none⟩ ∧ w'.cell? ⟨b, off + k, none⟩ = some (.int .u64 x)) := by
    intro w' hg k x hx
    obtain ⟨a', ca', e, -, -, hc⟩ := (hq w' hg).open
    simp only [Value.slice.injEq] at e
    obtain ⟨rfl, -, rfl⟩ := e
    obtain ⟨b, off, e, -, hcell⟩ := hc (by rintro rfl; simp at hx)
    exact ⟨b, off, e, hcell k x hx⟩
  have HO := Lib.hid h
  have HQP := Lib.hid hqp
  have HK0 := Lib.hid (TakeK.start (q := q) (n := n) (i := i) hpp)
  obtain ⟨n', hn'⟩ : ∃ n', n' = p.length := ⟨_, rfl⟩
  rw [← hn'] at HO hi hlp ⊢
  have HN := Lib.hid hn'
  clear h hq hpp hqp hn'
  go_enter Tryz.func134, Tryz.ntmps134
  go_wp2_with fail
  go_loopw [9, 10, 11] (fun bb c t wr => ∃ (k cc b : Nat) (L : List Nat), k ≤ q.length + 1 ∧ t = .int .i64 k ∧ c = .int .u64 cc ∧ bb = .int .i64 b ∧ cc < 1000000000 ∧ b ≤ 1 ∧ Hid (GrownS (· = g) w wr) ∧ Hid (OwnP B wr (.slice (some ⟨g, 0, none⟩) n' cap) L) ∧ Hid (TakeK p q n i k cc b L) ∧ Hid (k = q.length + 1 → cc = 0)) (fun _ _ t _ => q.length + 1 - (intOf t).toNat)
  case atStart => exact ⟨0, 0, 0, p, by omega, rfl, rfl, rfl, by omega, by omega, GrownS.refl _ _, HO.out, HK0.out, fun _ => rfl⟩
  case round =>
    obtain ⟨k, cc, b, L, hk, rfl, rfl, rfl, hcc, hb, HG, HOL, HK, HZ⟩ := hrel
    obtain ⟨wo, rfl⟩ : ∃ wo : World, wo = wr := ⟨_, rfl⟩
    clear HO HK0
    by_cases hlt : k ≤ q.length
    · obtain ⟨x, hx⟩ : ∃ x, L[i + k]? = some x := ⟨_, List.getElem?_eq_getElem (by rw [HK.out.len, ← HN.out]; omega)⟩
      obtain ⟨g1, f1⟩ := HOL.out.get hx
      have hxb := HK.out.pcs.get hx
      have HX := Lib.hid hx
      have hik : i + k < n' := by omega
      clear hx
      by_cases hkl : k < q.length
      · obtain ⟨z, hz⟩ : ∃ z, q[k]? = some z := ⟨_, List.getElem?_eq_getElem hkl⟩
        obtain ⟨bq, oq, rfl, g2⟩ := HQ.out wo HG.out k z hz
        have hzb := HQP.out.get hz
        have hm := mul_piece hn hzb
        obtain ⟨m, hmm⟩ : ∃ m, n * z = m := ⟨_, rfl⟩
        rw [hmm] at hm
        have hmi : (n : Int) * (z : Int) = (m : Int) := by rw [← hmm]; exact (Int.natCast_mul _ _).symm
        obtain ⟨c', hc'⟩ : ∃ c', c' = cc + m := ⟨_, rfl⟩
        have hci : (cc : Int) + (m : Int) = (c' : Int) := by omega
        obtain ⟨r, hr⟩ : ∃ r, r = c' % 1000000000 := ⟨_, rfl⟩
        obtain ⟨d, hd⟩ : ∃ d, d = c' / 1000000000 := ⟨_, rfl⟩
        have hri : (c' : Int) % 1000000000 = (r : Int) := by omega
        have hdi : (c' : Int) / 1000000000 = (d : Int) := by omega
        have hdb : d < 1000000000 := by omega
        have hcb2 : c' < 1000000000000000000 := by omega
        have hrb : r < 1000000000 := by omega
        have hkz : ¬ k + 1 = q.length + 1 := by omega
        have HST : Hid (∀ y b', y < 1000000000 → b' ≤ 1 → y + r + b = x + b' * 1000000000 → TakeK p q n i (k + 1) d b' (L.set (i + k) y)) := fun y b' hy hb' he => by
          rw [hd]; exact HK.out.step HX.out (lv_take_succ hz) (by rw [hc', hmm]) (by omega) hy hb' (by rw [← hr]; exact he)
        clear hz hmm hc' hr hd
        by_cases hneg : (x : Int) - (r : Int) - (b : Int) < 0
        · obtain ⟨y, hy⟩ : ∃ y : Nat, (x : Int) - (r : Int) - (b : Int) + 1000000000 = (y : Int) := ⟨((x : Int) - (r : Int) - (b : Int) + 1000000000).toNat, by omega⟩
          have hyb : y < 1000000000 := by omega
          have HS2 := Lib.hid (HST.out y 1 hyb (by omega) (by omega))
          have HO2 := Lib.hid (HOL.out.set (i + k) y)
          have HG2 := Lib.hid (HG.out.store rfl (i + k) (.int .u64 y))
          go_wp2_with fail
          go_roundw
          case rel => exact ⟨k + 1, d, 1, _, by omega, by go_num, rfl, rfl, hdb, by omega, HG2.out, HO2.out, HS2.out, fun e => absurd e hkz⟩
          case measure => simp [intOf]; omega
        · obtain ⟨y, hy⟩ : ∃ y : Nat, (x : Int) - (r : Int) - (b : Int) = (y : Int) := ⟨((x : Int) - (r : Int) - (b : Int)).toNat, by omega⟩
          have hyb : y < 1000000000 := by omega
          have HS2 := Lib.hid (HST.out y 0 hyb (by omega) (by omega))
          have HO2 := Lib.hid (HOL.out.set (i + k) y)
          have HG2 := Lib.hid (HG.out.store rfl (i + k) (.int .u64 y))
          go_wp2_with fail
          go_roundw
          case rel => exact ⟨k + 1, d, 0, _, by omega, by go_num, rfl, rfl, hdb, by omega, HG2.out, HO2.out, HS2.out, fun e => absurd e hkz⟩
          case measure => simp [intOf]; omega
      · obtain rfl : q.length = k := by omega
        have hri : (cc : Int) % 1000000000 = (cc : Int) := by omega
        have hdi : (cc : Int) / 1000000000 = 0 := by omega
        have HST : Hid (∀ y b', y < 1000000000 → b' ≤ 1 → y + cc + b = x + b' * 1000000000 → TakeK p q n i (q.length + 1) 0 b' (L.set (i + q.length) y)) := fun y b' hy hb' he => by
          have := HK.out.step HX.out (take_beyond q) (c' := cc) (by simp) (by omega) hy hb' (by rw [Nat.mod_eq_of_lt hcc]; exact he)
          rw [Nat.div_eq_of_lt hcc] at this
          exact this
        by_cases hneg : (x : Int) - (cc : Int) - (b : Int) < 0
        · obtain ⟨y, hy⟩ : ∃ y : Nat, (x : Int) - (cc : Int) - (b : Int) + 1000000000 = (y : Int) := ⟨((x : Int) - (cc : Int) - (b : Int) + 1000000000).toNat, by omega⟩
          have hyb : y < 1000000000 := by omega
          have HS2 := Lib.hid (HST.out y 1 hyb (by omega) (by omega))
          have HO2 := Lib.hid (HOL.out.set (i + q.length) y)
          have HG2 := Lib.hid (HG.out.store rfl (i + q.length) (.int .u64 y))
          go_wp2_with fail
          go_roundw
          case rel => exact ⟨q.length + 1, 0, 1, _, by omega, by go_num, rfl, rfl, by omega, by omega, HG2.out, HO2.out, HS2.out, fun _ => rfl⟩
          case measure => simp [intOf]
        · obtain ⟨y, hy⟩ : ∃ y : Nat, (x : Int) - (cc : Int) - (b : Int) = (y : Int) := ⟨((x : Int) - (cc : Int) - (b : Int)).toNat, by omega⟩
          have hyb : y < 1000000000 := by omega
          have HS2 := Lib.hid (HST.out y 0 hyb (by omega) (by omega))
          have HO2 := Lib.hid (HOL.out.set (i + q.length) y)
          have HG2 := Lib.hid (HG.out.store rfl (i + q.length) (.int .u64 y))
          go_wp2_with fail
          go_roundw
          case rel => exact ⟨q.length + 1, 0, 0, _, by omega, by go_num, rfl, rfl, by omega, by omega, HG2.out, HO2.out, HS2.out, fun _ => rfl⟩
          case measure => simp [intOf]
    · have HK2 : Hid (TakeR p q n i L b) := by
        obtain rfl : k = q.length + 1 := by omega
        exact HK.out.done (HZ.out rfl)
      go_wp2_with fail
      go_ret
      exact ⟨L, b, by first | rfl | simp, HOL.out, HK2.out, HG.out⟩

set_option maxRecDepth 100000 in
set_option maxHeartbeats 2000000 in
/-- back: q is added to p, in place. -/
theorem back_any (B : Nat) (p q : List Nat) (i g cap : Nat) (v : Value) (w : World) (h : OwnP B w (.slice (some ⟨g, 0, none⟩) p.length cap) p) (hq : ∀ w', GrownS (· = g) w w' → PcsAt w' v q) (hpp : Pcs p) (hqp : Pcs q) (hi : i + q.length < p.length) (hlp : p.length ≤ 200000) :
    Calls Tryz.prog 132 #[.slice (some ⟨g, 0, none⟩) p.length cap, v, .int .i64 i] w fun e w' => ∃ L c, e = .returned (.tuple #[]) ∧ OwnP B w' (.slice (some ⟨g, 0, none⟩) p.length cap) L ∧ BackR p q i L c ∧ GrownS (· = g) w w' := by
  obtain ⟨a, ca, rfl, hla, hca, -⟩ := (hq w (GrownS.refl _ _)).open
  have HQ : Hid (∀ w', GrownS (· = g) w w' → ∀ (k : Nat) (x : Nat), q[k]? = some x → ∃ b off, a = some ⟨b, off, none⟩ ∧ w'.cell? ⟨b, off + k, none⟩ = some (.int .u64 x)) := by
    intro w' hg k x hx
    obtain ⟨a', ca', e, -, -, hc⟩ := (hq w' hg).open
    simp only [Value.slice.injEq] at e
    obtain ⟨rfl, -, rfl⟩ := e
    obtain ⟨b, off, e, -, hcell⟩ := hc (by rintro rfl; simp at hx)
    exact ⟨b, off, e, hcell k x hx⟩
  have HO := Lib.hid h
  have HQP := Lib.hid hqp
  have HK0 := Lib.hid (BackK.start (q := q) (i := i) hpp)
  obtain ⟨n', hn'⟩ : ∃ n', n' = p.length := ⟨_, rfl⟩
  rw [← hn'] at HO hi hlp ⊢
  have HN := Lib.hid hn'
  clear h hq hpp hqp hn'
  go_enter Tryz.func132, Tryz.ntmps132
  go_wp2_with fail
  go_loopw [6, 7] (fun c t wr => ∃ (k cc : Nat) (L : List Nat), k ≤ q.length + 1 ∧ t = .int .i64 k ∧ c = .int .u64 cc ∧ cc ≤ 2 ∧ Hid (GrownS (· = g) w wr) ∧ Hid (OwnP B wr (.slice (some ⟨g, 0, none⟩) n' cap) L) ∧ Hid (BackK p q i k cc L)) (fun _ t _ => q.length + 1 - (intOf t).toNat)
  case atStart => exact ⟨0, 0, p, by omega, rfl, rfl, by omega, GrownS.refl _ _, HO.out, HK0.out⟩
  case round =>
    obtain ⟨k, cc, L, hk, rfl, rfl, hcc, HG, HOL, HK⟩ := hrel
    obtain ⟨wo, rfl⟩ : ∃ wo : World, wo = wr := ⟨_, rfl⟩
    clear HO HK0
    by_cases hlt : k ≤ q.length
    · obtain ⟨x, hx⟩ : ∃ x, L[i + k]? = some x := ⟨_, List.getElem?_eq_getElem (by rw [HK.out.len, ← HN.out]; omega)⟩
      obtain ⟨g1, f1⟩ := HOL.out.get hx
      have hxb := HK.out.pcs.get hx
      have HX := Lib.hid hx
      have hik : i + k < n' := by omega
      clear hx
      by_cases hkl : k < q.length
      · obtain ⟨z, hz⟩ : ∃ z, q[k]? = some z := ⟨_, List.getElem?_eq_getElem hkl⟩
        obtain ⟨bq, oq, rfl, g2⟩ := HQ.out wo HG.out k z hz
        have hzb := HQP.out.get hz
        obtain ⟨c', hc'⟩ : ∃ c', c' = cc + x + z := ⟨_, rfl⟩
        have hci : (cc : Int) + (x : Int) + (z : Int) = (c' : Int) := by omega
        obtain ⟨r, hr⟩ : ∃ r, r = c' % 1000000000 := ⟨_, rfl⟩
        obtain ⟨d, hd⟩ : ∃ d, d = c' / 1000000000 := ⟨_, rfl⟩
        have hri : (c' : Int) % 1000000000 = (r : Int) := by omega
        have hdi : (c' : Int) / 1000000000 = (d : Int) := by omega
        have hdb : d ≤ 2 := by omega
        have HS2 : Hid (BackK p q i (k + 1) d (L.set (i + k) r)) := by
          unfold Hid; rw [hd]; exact HK.out.step HX.out (lv_take_succ hz) hzb hc' hr
        have HO2 := Lib.hid (HOL.out.set (i + k) r)
        have HG2 := Lib.hid (HG.out.store rfl (i + k) (.int .u64 r))
        clear hz hc' hr hd
        go_wp2_with fail
        go_roundw
        case rel => exact ⟨k + 1, d, _, by omega, by go_num, rfl, hdb, HG2.out, HO2.out, HS2.out⟩
        case measure => simp [intOf]; omega
      · obtain rfl : q.length = k := by omega
        obtain ⟨c', hc'⟩ : ∃ c', c' = cc + x := ⟨_, rfl⟩
        have hci : (cc : Int) + (x : Int) = (c' : Int) := by omega
        obtain ⟨r, hr⟩ : ∃ r, r = c' % 1000000000 := ⟨_, rfl⟩
        obtain ⟨d, hd⟩ : ∃ d, d = c' / 1000000000 := ⟨_, rfl⟩
        have hri : (c' : Int) % 1000000000 = (r : Int) := by omega
        have hdi : (c' : Int) / 1000000000 = (d : Int) := by omega
        have hdb : d ≤ 2 := by omega
        have HS2 : Hid (BackK p q i (q.length + 1) d (L.set (i + q.length) r)) := by
          unfold Hid; rw [hd]; exact HK.out.step HX.out (take_beyond q) (by omega) (by omega) hr
        have HO2 := Lib.hid (HOL.out.set (i + q.length) r)
        have HG2 := Lib.hid (HG.out.store rfl (i + q.length) (.int .u64 r))
        clear hc' hr hd
        go_wp2_with fail
        go_roundw
        case rel => exact ⟨q.length + 1, d, _, by omega, by go_num, rfl, hdb, HG2.out, HO2.out, HS2.out⟩
        case measure => simp [intOf]
    · have HK2 : Hid (BackR p q i L cc) := by
        obtain rfl : k = q.length + 1 := by omega
        exact HK.out.done
      go_wp2_with fail
      refine bodyPost_end (results_none rfl _ _ _) rfl ⟨L, cc, rfl, HOL.out, HK2.out, HG.out⟩
end Go.Proofs.YtpeinobepiodaaaGreatDoor
