/- Merged: ElimP, RefDet. -/
import Derived.Test.YtpeinobepiodaaaGreatDoorIC
import Derived.Test.YtpeinobepiodaaaGreatDoorID
import Derived.Test.YtpeinobepiodaaaGreatDoorGY
/- The numbers on Eliminate's way are right and small (plain). -/
namespace Go.Proofs.YtpeinobepiodaaaGreatDoor
set_option linter.unusedVariables false
set_option linter.unusedSimpArgs false
open Go.RowKit

theorem barI_dvd {C c K : Nat} {m : List (List Int)} {E : ElS} {S : RedSt} (hK : 1 ≤ K) (hm : ∀ i j, IntLe K (elQ (matQ m) i j)) (hRS : Rect C S.m) (h : BarI C c m E S) {a : Nat} (ha1 : E.lead.length ≤ a) (hal : a < m.length) (hpe : elI E.m a c ≠ 0)
    (hf0 : ∀ j, E.lead.length ≤ j → j < a → elI E.m j c = 0) {m1 : List (List Int)} (hm1 : m1 = if a = E.lead.length then E.m else swp E.m E.lead.length a) (i j : Nat) :
    E.last ∣ (elI m1 E.lead.length c * elI m1 i j - elI m1 i c * elI m1 E.lead.length j) := by
  obtain ⟨ρ, sg, x, hI, hD⟩ := h.inv
  have hlen := h.len
  have h2 : (E.last : Rat) ≠ 0 := by
    intro h0
    have : E.last = 0 := by exact_mod_cast h0
    exact h.ne this
  have hzero : ∀ i j, elI E.m i j = 0 ↔ elQ S.m i j = 0 := fun i j => by
    have := h.el i j
    constructor
    · intro h0
      rw [h0] at this
      rcases Rat.mul_eq_zero.1 (show (E.last : Rat) * elQ S.m i j = 0 by rw [← this]; rfl) with h3 | h3
      · exact absurd h3 h2
      · exact h3
    · intro h0
      rw [h0, Rat.mul_zero] at this
      exact_mod_cast this
  obtain ⟨k, hk⟩ : ∃ k, k = E.lead.length := ⟨_, rfl⟩
  have hkS : k = S.lead.length := by rw [hk, h.lead]
  rw [← hk] at ha1 hf0 hm1 ⊢
  rcases redI_stepX hI hRS with ⟨-, hz, -⟩ | ⟨b, hb1, hb2, hbne, hbfirst, hlead, hdet, hel, ρ', sg', x', hI', hD'⟩
  · exact absurd ((hzero a c).2 (hz a (by omega))) hpe
  · obtain rfl : b = a := by
      rcases Nat.lt_trichotomy b a with h1 | h1 | h1
      · exact absurd ((hzero b c).1 (hf0 b (by omega) h1)) hbne
      · exact h1
      · exact absurd ((hzero a c).2 (hbfirst a (by omega) h1)) hpe
    rw [← hkS] at hel hD'
    have hkl : k < E.m.length := by omega
    have e1 : ∀ i j, elI m1 i j = elI E.m (trJ k b i) j := fun i j => by
      rw [hm1]
      by_cases e : b = k
      · rw [if_pos e, e, trJ_self]
      · rw [if_neg e]; exact elI_swp hkl (by omega) i j
    have htk : trJ k b k = b := by unfold trJ; rw [if_pos rfl]
    by_cases hik : i = k
    · rw [hik, Int.sub_self]; exact Int.dvd_zero _
    · by_cases hil : i < m.length
      · obtain ⟨p, hp⟩ : ∃ p, p = elI m1 k c := ⟨_, rfl⟩
        have hpc : (p : Rat) = (E.last : Rat) * elQ S.m b c := by rw [hp, e1, htk]; exact h.el b c
        have hpD : (p : Rat) = detF (stepR c S).lead.length fun i b => elQ (matQ m) (ρ' i) (kapQ (stepR c S).lead b) := by
          rw [show (stepR c S).lead.length = k + 1 by rw [hlead, List.length_append, ← hkS]; rfl, hD', hpc, hD, ← hkS]; grind
        obtain ⟨z, hz, -⟩ := red_int hI' hm hK i j
        rw [← hpD] at hz
        refine ⟨z, ?_⟩
        rw [← hp]
        have hq : ((p * elI m1 i j - elI m1 i c * elI m1 k j : Int) : Rat) = ((E.last * z : Int) : Rat) := by
          rw [Rat.intCast_sub, Rat.intCast_mul, Rat.intCast_mul, Rat.intCast_mul, ← hz, e1, e1, e1, htk, h.el, h.el, h.el, hel, if_neg hik, hpc]
          have : elQ S.m b c * (elQ S.m b j / elQ S.m b c) = elQ S.m b j := by rw [Rat.div_def, Rat.mul_comm (elQ S.m b j), ← Rat.mul_assoc, Rat.mul_inv_cancel _ hbne, Rat.one_mul]
          grind
        exact_mod_cast hq
      · have hl1 : m1.length = E.m.length := by
          rw [hm1]; split
          · rfl
          · exact swp_length _ _ _
        rw [elI_out (m := m1) (i := i) (x := j) (by omega), elI_out (m := m1) (i := i) (x := c) (by omega), Int.mul_zero, Int.zero_mul, Int.sub_self]
        exact Int.dvd_zero _
theorem det_size {z : Int} {k : Nat} (hk : k ≤ 13) (h : z.natAbs ≤ detK 1000000000 k) : (intB z).size ≤ 131 := by
  have h1 : IntLe (detK 1000000000 13) (z : Rat) := ⟨z, rfl, Nat.le_trans h (detK_mono (by omega) hk)⟩
  have h2 := h1.rs.1
  rw [show ((z : Rat)).num = z from rfl] at h2
  exact h2
theorem elOK_of {C : Nat} {m : List (List Int)} (hr : RectI C m) (hl : m.length ≤ 12) (hm : ∀ i j, IntLe 1000000000 (elQ (matQ m) i j)) (n : Nat) : ElOK m n where
  sz := fun c _ i j => Nat.le_trans (det_size (k := m.length + 1) (by omega) (((barI_all (by omega) hm hr c).small (by omega) hm).1 i j)) (by omega)
  lsz := fun c _ => Nat.le_trans (det_size (k := m.length + 1) (by omega) ((barI_all (by omega) hm hr c).small (by omega) hm).2) (by omega)
  ne := fun c _ => (barI_all (by omega) hm hr c).ne
  dvd := fun c a _ h1 h2 h3 h4 m1 hm1 i j => by
    have hB := barI_all (K := 1000000000) (by omega) hm hr c
    exact (Int.mul_ediv_cancel' (barI_dvd (by omega) hm (redTo_shape (matQ_rectI hr) c).1 hB h1 h2 h3 h4 hm1 i j)).symm
/-- The determinant that the reference works out. -/
def refDetI (m : List (List Int)) : Int := if (barTo m m.length).lead.length < m.length then 0 else if (barTo m m.length).odd then - (barTo m m.length).last else (barTo m m.length).last
theorem refDet_eq {m : List (List Int)} (hr : RectI m.length m) (hm : ∀ i j, IntLe 1000000000 (elQ (matQ m) i j)) : ((refDetI m : Int) : Rat) = (redTo (matQ m) m.length).det := by
  have h := barI_all (K := 1000000000) (by omega) hm hr m.length
  obtain ⟨ρ, sg, x, hI, -⟩ := h.inv
  unfold refDetI
  by_cases h1 : (barTo m m.length).lead.length < m.length
  · rw [if_pos h1, hI.det, if_neg (by rw [← h.lead]; omega)]; rfl
  · have h2 : (redTo (matQ m) m.length).lead.length = m.length := by have := hI.rle; rw [h.lead] at h1; omega
    rw [if_neg h1, h.det h2]
    cases (barTo m m.length).odd
    · rw [if_neg (by decide), if_neg (by decide)]; grind
    · rw [if_pos rfl, if_pos rfl, Rat.intCast_neg]; grind
end Go.Proofs.YtpeinobepiodaaaGreatDoor
/- Contracts of the reference's Determinant and Rank (06). -/
namespace Go.Proofs.YtpeinobepiodaaaGreatDoor
set_option linter.unusedVariables false
set_option linter.unusedSimpArgs false
open Go.RowKit

set_option maxRecDepth 100000 in
/-- Nothing to eliminate. -/
theorem elim0_any (a : Option Addr) (l cp n : Nat) (w : World) (h0 : n = 0 ∨ l = 0) :
    Calls Tryz.prog 59 #[.slice a l cp, .int .i64 n] w fun e w' => e = .returned (.tuple #[.slice none 0 0, .string ⟨#[49]⟩, .bool false]) ∧ Ext w w' := by
  rcases h0 with rfl | rfl
  · go_enter Tryz.func59, Tryz.ntmps59
    go_wp2_with fail
    go_loopw [10, 7, 8, 9] (fun t p la od wr => t = .int .i64 0 ∧ p = .slice none 0 0 ∧ la = .string ⟨#[49]⟩ ∧ od = .bool false ∧ wr = w) (fun t _ _ _ _ => 0)
    case atStart => exact ⟨rfl, rfl, rfl, rfl, rfl⟩
    case round =>
      obtain ⟨rfl, rfl, rfl, rfl, rfl⟩ := hrel
      go_wp2_with fail
      go_ret3
      exact ⟨rfl, Ext.refl _⟩
  · by_cases hn : n = 0
    · subst hn
      go_enter Tryz.func59, Tryz.ntmps59
      go_wp2_with fail
      go_loopw [10, 7, 8, 9] (fun t p la od wr => t = .int .i64 0 ∧ p = .slice none 0 0 ∧ la = .string ⟨#[49]⟩ ∧ od = .bool false ∧ wr = w) (fun t _ _ _ _ => 0)
      case atStart => exact ⟨rfl, rfl, rfl, rfl, rfl⟩
      case round =>
        obtain ⟨rfl, rfl, rfl, rfl, rfl⟩ := hrel
        go_wp2_with fail
        go_ret3
        exact ⟨rfl, Ext.refl _⟩
    · have z1 : (0 : Int) < (n : Int) := by omega
      go_enter Tryz.func59, Tryz.ntmps59
      go_wp2_with fail
      go_loopw [10, 7, 8, 9] (fun t p la od wr => t = .int .i64 0 ∧ p = .slice none 0 0 ∧ la = .string ⟨#[49]⟩ ∧ od = .bool false ∧ wr = w) (fun t _ _ _ _ => 0)
      case atStart => exact ⟨rfl, rfl, rfl, rfl, rfl⟩
      case round =>
        obtain ⟨rfl, rfl, rfl, rfl, rfl⟩ := hrel
        go_wp2_with fail
        go_ret3
        exact ⟨rfl, Ext.refl _⟩
theorem tab_rectI {xss : List (List Int)} (hE : tabE xss = 0) : RectI (colsN xss) xss := fun r hr => ((tabE_zero hE).2 r hr).1
theorem tab_le9 {xss : List (List Int)} (hE : tabE xss = 0) (i j : Nat) : IntLe 1000000000 (elQ (matQ xss) i j) := matQ_el (fun r hr a ha => ((tabE_zero hE).2 r hr).2.2 a ha) i j
/-- Eliminate at what big gives. -/
theorem elimB_any (xss : List (List Int)) (u : Value) (tags : List (Nat × Nat)) (n B : Nat) (wb w : World) (hE : tabE xss = 0) (hn : n ≤ colsN xss) (hpos : 0 < xss.length) (hO : RowsO numK 40 w B B u tags xss) (hwb : Ext wb w) (ht : Pow10 wb) (hB : wb.heap.size ≤ B) :
    Calls Tryz.prog 59 #[u, .int .i64 n] w fun e w' => ∃ v, e = .returned (.tuple #[v, .string (intB (barTo xss n).last), .bool (barTo xss n).odd]) ∧ OwnI w.heap.size w' v (barTo xss n).lead ∧ Ext wb w' := by
  obtain ⟨hl, hrr⟩ := tabE_zero hE
  have hc12 : colsN xss ≤ 12 := by
    cases xss with
    | nil => simp at hpos
    | cons r l => exact (hrr r (by simp)).2.1
  rcases hO.own.2 with ⟨hv, h0⟩ | ⟨g, cap, cur, hv, -⟩
  · omega
  · subst hv
    obtain ⟨hM, h1, h2, h3⟩ := hO.matN (Nat.le_refl _)
    refine (elim_any xss g cap n (colsN xss) tags wb w hM (tab_rectI hE) hn (by omega) (by omega) h1 h2 (elOK_of (tab_rectI hE) hl (tab_le9 hE) n) hwb ht (fun b hb => Nat.le_trans hB (h3 b hb))).mono ?_
    rintro e w' ⟨v, tags', g1, g2, g3, g4, g5⟩
    exact ⟨v, g1, g2, Below.trans hwb (g5.belowE (B := wb.heap.size) (fun b hb => Nat.le_trans hB (h3 b hb)) hwb.size)⟩

set_option maxRecDepth 100000 in
set_option maxHeartbeats 2000000 in
theorem refDet_any (xss : List (List Int)) (v : Value) (w : World) (h : Rows2 w v xss) (hE : tabE xss = 0) (hsq : colsN xss = xss.length) (ht : Pow10 w) :
    Calls Tryz.prog 20 #[v] w fun e w' => e = .returned (.string (intB (refDetI xss))) ∧ Ext w w' := by
  have HT := Lib.hid ht
  obtain ⟨hl, hrr⟩ := tabE_zero hE
  obtain ⟨a, c, rfl, h1, h2, -, -⟩ := inCell.open h
  unfold maxLen at h2
  by_cases hp : xss.length = 0
  · obtain rfl : xss = [] := List.length_eq_zero_iff.1 hp
    have HB : Hid (Calls Tryz.prog 60 #[.slice a 0 c] w fun e w' => ∃ b d, e = .returned (.slice b 0 d) ∧ Ext w w') := by
      refine (big_any [] 1 _ w h (by simp) (by omega) (by simp) (by omega) (by simp) ht).mono ?_
      rintro e w' ⟨u, tags, rfl, hO, hX⟩
      rcases hO.own.2 with ⟨hv, h0⟩ | ⟨g, cap, cur, hv, -⟩
      · exact ⟨none, 0, by rw [hv], hX⟩
      · exact ⟨_, cap, by rw [hv]; rfl, hX⟩
    clear h ht hE hrr
    go_enter Tryz.func20, Tryz.ntmps20
    go_wp2_with fail
    refine HB.out.mono ?_
    rintro e w1 ⟨b, d, rfl, hE1⟩
    have HE1 := Lib.hid hE1
    clear hE1
    go_wp2_with fail
    refine (elim0_any b 0 d 0 _ (.inl rfl)).mono ?_
    rintro e w2 ⟨rfl, hE2⟩
    have HE2 := Lib.hid (HE1.out.trans hE2)
    clear hE2
    go_wp2_with fail
    go_ret
    exact ⟨by rw [show intB (refDetI []) = ⟨#[49]⟩ by decide +kernel]; rfl, HE2.out⟩
  · have hpos : 0 < xss.length := by omega
    obtain ⟨L, hL⟩ : ∃ L, L = xss.length := ⟨_, rfl⟩
    have HB := Lib.hid (big_any xss (colsN xss) _ w h (tab_rectI hE) (by omega) (by omega) (by omega) (fun r hr => (hrr r hr).2.2) ht)
    have HEL : Hid (∀ u tags W, RowsO numK 40 W w.heap.size w.heap.size u tags xss → Ext w W → Calls Tryz.prog 59 #[u, .int .i64 L] W fun e w' => ∃ v, e = .returned (.tuple #[v, .string (intB (barTo xss L).last), .bool (barTo xss L).odd]) ∧ OwnI W.heap.size w' v (barTo xss L).lead ∧ Ext w w') := fun u tags W hO hW =>
      elimB_any xss u tags L w.heap.size w W hE (by omega) hpos hO hW ht (Nat.le_refl _)
    have HNG : Hid (∀ W, Calls Tryz.prog 61 #[.string (intB (barTo xss L).last)] W fun e w' => e = .returned (.string (intB (-(barTo xss L).last))) ∧ W = w') := fun W =>
      rNeg_any _ W (by have := (elOK_of (tab_rectI hE) hl (tab_le9 hE) L).lsz L (Nat.le_refl _); omega)
    have HRD : Hid (refDetI xss = if (barTo xss L).lead.length < L then 0 else if (barTo xss L).odd then - (barTo xss L).last else (barTo xss L).last) := by unfold Hid refDetI; rw [← hL]
    obtain ⟨la, hla⟩ : ∃ z, z = (barTo xss L).last := ⟨_, rfl⟩
    obtain ⟨od, hod⟩ : ∃ z, z = (barTo xss L).odd := ⟨_, rfl⟩
    obtain ⟨ld, hld⟩ : ∃ z, z = (barTo xss L).lead := ⟨_, rfl⟩
    obtain ⟨rd, hrd⟩ : ∃ z, z = refDetI xss := ⟨_, rfl⟩
    rw [← hla, ← hod, ← hld] at HEL HRD
    rw [← hla] at HNG
    rw [← hrd] at HRD ⊢
    rw [← hL] at h1 HB ⊢
    clear h ht hE hrr hla hod hld hrd hL
    go_enter Tryz.func20, Tryz.ntmps20
    go_wp2_with fail
    refine HB.out.mono ?_
    rintro e w1 ⟨u, tags, rfl, hO, hE1⟩
    have HO := Lib.hid hO; have HE1 := Lib.hid hE1
    clear hE1 hO
    go_wp2_with fail
    refine (HEL.out _ _ _ HO.out HE1.out).mono ?_
    rintro e w2 ⟨lv, rfl, hlv, hE2⟩
    have HE2 := Lib.hid hE2
    obtain ⟨al, cl, hlv', l1, l2⟩ := hlv.form
    subst hlv'
    clear hE2 hlv
    by_cases h3 : ld.length < L
    · have HR2 : Hid (rd = 0) := by unfold Hid; rw [HRD.out, if_pos h3]
      have z1 : (ld.length : Int) < (L : Int) := by omega
      clear h3
      go_wp2_with fail
      go_ret
      exact ⟨by rw [HR2.out, show intB 0 = ⟨#[48]⟩ by decide +kernel]; rfl, HE2.out⟩
    · have z1 : ¬ (ld.length : Int) < (L : Int) := by omega
      have HR2 := HRD.out
      rw [if_neg h3] at HR2
      have HR2 := Lib.hid HR2
      clear h3
      cases od with
      | true =>
        go_wp2_with fail
        refine (HNG.out _).mono ?_
        rintro e w3 ⟨rfl, rfl⟩
        go_wp2_with fail
        go_ret
        exact ⟨by rw [HR2.out]; rfl, HE2.out⟩
      | false =>
        go_wp2_with fail
        go_ret
        exact ⟨by rw [HR2.out]; rfl, HE2.out⟩
end Go.Proofs.YtpeinobepiodaaaGreatDoor
