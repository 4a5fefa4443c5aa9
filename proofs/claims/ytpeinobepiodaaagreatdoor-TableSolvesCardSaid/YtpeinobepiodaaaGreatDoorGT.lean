/- Merged: JoinJ, DivJ, Ref2B, Ref2C. -/
import Derived.Test.YtpeinobepiodaaaGreatDoorGS
import Derived.Test.YtpeinobepiodaaaGreatDoorGE
import Derived.Laws.AppendOwnNone
import Derived.Deep.Cut
import Derived.Test.YtpeinobepiodaaaGreatDoorGN
/- The reference of chapter 02: times, join, signed on pieces. -/
namespace Go.Proofs.YtpeinobepiodaaaGreatDoor
set_option linter.unusedVariables false
set_option linter.unusedSimpArgs false
open Go.RowKit

theorem catJ (a b : ByteArray) : (a ++ b).data.toList = a.data.toList ++ b.data.toList := by simp [ByteArray.data_append]
theorem catJ_eq {a b c : ByteArray} (h : a.data.toList ++ b.data.toList = c.data.toList) : a ++ b = c := by
  have e := (catJ a b).trans h
  generalize a ++ b = x at *
  cases x; cases c
  congr 1
  exact Array.toList_inj.1 e
theorem ext_grownJ {w w' : World} (h : w.grownBy w' none) : Ext w w' := ⟨h.os, h.tape, h.output, h.size, fun k hk => h.block k hk (by simp)⟩
theorem mul_pieceJ {a b : Nat} (ha : a < 1000000000) (hb : b < 1000000000) : a * b ≤ 999999998000000001 := by
  have : a * b ≤ 999999999 * 999999999 := Nat.mul_le_mul (by omega) (by omega)
  omega

set_option maxRecDepth 100000 in
set_option maxHeartbeats 2000000 in
theorem rTimes_any (p q : List Nat) (u v : Value) (w : World) (hu : PcsJ w u p) (hv : PcsJ w v q) (hp : Pcs p) (hq : Pcs q) (hlp : p.length ≤ 50000) (hlq : q.length ≤ 50000) :
    Calls Tryz.prog 110 #[u, v] w fun e w' => ∃ r l, e = .returned r ∧ Hid (OwnJ w.heap.size w' r l ∧ Can l ∧ lv l = lv p * lv q ∧ l.length ≤ p.length + q.length + 1) ∧ Ext w w' := by
  obtain ⟨a, ca, rfl, hla, hca, hcu⟩ := hu.open
  obtain ⟨b, cb, rfl, hlb, hcb, hcv⟩ := hv.open
  have HP := Lib.hid hp; have HQ := Lib.hid hq
  have HU := Lib.hid hcu; have HV := Lib.hid hcv
  obtain ⟨i0, hi, hz0, hz1, hz2⟩ := info_parts infoJ
  have HI := Lib.hid hi; have HZ0 := Lib.hid hz0; have HZ1 := Lib.hid hz1; have HZ2 := Lib.hid hz2
  obtain ⟨n, hn⟩ : ∃ n : Nat, n = p.length + q.length + 1 := ⟨_, rfl⟩
  have hnn : (p.length : Int) + (q.length : Int) + 1 = (n : Int) := by omega
  have hn5 : n ≤ 100001 := by omega
  have hnp : p.length ≤ n := by omega
  have hnq : q.length ≤ n := by omega
  have HN := Lib.hid hn
  clear hi hz0 hz1 hz2 hu hv hcu hcv hp hq hn
  go_enter Tryz.func110, Tryz.ntmps110
  go_wp2_with (at_make; refine wpList_make_full _ rfl _ _ 50 rfl w.heap.size 3 i0 (.int .i64 0) 1 Tryz.underlying50 HI.out HZ0.out HZ1.out _ _ _ _ n rfl rfl rfl rfl ?c1 ?c2 ?c3 ?_)
  case c1 => rw [HZ2.out]; omega
  case c2 => unfold maxLen; omega
  case c3 => exact Nat.le_refl _
  intro w1 hown hgrow
  have hE1 := ext_grownJ hgrow
  have HO0 := Lib.hid (OwnJ.made hown)
  have HS0 : Hid (TimJ p q 0 (List.replicate n 0)) := by unfold Hid; rw [HN.out]; exact TimJ.start p q
  clear hown hgrow
  go_wp2_with fail
  go_loopw [6] (fun t wr => ∃ (i : Nat) (L : List Nat), i ≤ p.length ∧ t = .int .i64 i ∧ Ext w wr ∧ Hid (OwnJ w.heap.size wr (.slice (some ⟨w.heap.size, 0, none⟩) n n) L) ∧ Hid (TimJ p q i L)) (fun t _ => p.length - (intOf t).toNat)
  case atStart => exact ⟨0, _, by omega, rfl, hE1, HO0.out, HS0.out⟩
  case round =>
    obtain ⟨i, L, hi, rfl, hEw, HO, HS⟩ := hrel
    obtain ⟨wo, rfl⟩ : ∃ wo : World, wo = wr := ⟨_, rfl⟩
    clear HO0 HS0
    by_cases hlt : i < p.length
    · obtain ⟨x, hx⟩ : ∃ x, p[i]? = some x := ⟨_, List.getElem?_eq_getElem hlt⟩
      obtain ⟨ba, oa, rfl, -, hca'⟩ := HU.out (by rintro rfl; simp at hlt)
      have GX := Lib.hid (hca' i x hx)
      have hxb := HP.out.get hx
      have HX := Lib.hid hx
      have HK0 := Lib.hid (HS.out.enter x)
      clear hx hca'
      go_wp2_with fail
      go_loopw [8, 7] (fun t c wr => ∃ (k cc : Nat) (L : List Nat), k ≤ n ∧ t = .int .i64 k ∧ c = .int .i64 cc ∧ cc < 1000000000 ∧ Ext w wr ∧ Hid (OwnJ w.heap.size wr (.slice (some ⟨w.heap.size, 0, none⟩) n n) L) ∧ Hid (TimJK p q i x k cc L)) (fun t _ _ => n - (intOf t).toNat)
      case atStart => exact ⟨0, 0, L, by omega, rfl, rfl, by omega, hEw, HO.out, HK0.out⟩
      case round =>
        obtain ⟨k, cc, L', hk, rfl, rfl, hcc, hEi, HOi, HKi⟩ := hrel
        obtain ⟨wi, rfl⟩ : ∃ wi : World, wi = wr := ⟨_, rfl⟩
        have g1 := hEi.cell GX.out
        have hLn : Hid (L'.length = n) := by unfold Hid; rw [HKi.out.len, HN.out]
        by_cases hgo : k < q.length ∨ 0 < cc
        · have HRM : Hid (i + k < n) := by unfold Hid; rw [HN.out]; exact HKi.out.room HP.out HQ.out HX.out hgo
          have hik := HRM.out
          obtain ⟨y, hy⟩ : ∃ y, L'[i + k]? = some y := ⟨_, List.getElem?_eq_getElem (by have := hLn.out; omega)⟩
          obtain ⟨g3, f3⟩ := HOi.out.get hy
          have hyb := HKi.out.pcs.get hy
          have hszi : w.heap.size ≤ wi.heap.size := hEi.size
          by_cases hkl : k < q.length
          · obtain ⟨z, hz⟩ : ∃ z, q[k]? = some z := ⟨_, List.getElem?_eq_getElem hkl⟩
            obtain ⟨bb, ob, rfl, -, hcb'⟩ := HV.out (by rintro rfl; simp at hkl)
            have g2 := hEi.cell (hcb' k z hz)
            have hzb := HQ.out.get hz
            have hm := mul_pieceJ hxb hzb
            obtain ⟨m, hmm⟩ : ∃ m, x * z = m := ⟨_, rfl⟩
            rw [hmm] at hm
            have hmi : (x : Int) * (z : Int) = (m : Int) := by rw [← hmm]; exact (Int.natCast_mul _ _).symm
            obtain ⟨t1, ht1⟩ : ∃ t, t = y + cc := ⟨_, rfl⟩
            have hti : (y : Int) + (cc : Int) = (t1 : Int) := by omega
            obtain ⟨c', hc'⟩ : ∃ c', c' = cc + y + m := ⟨_, rfl⟩
            have hci : (t1 : Int) + (m : Int) = (c' : Int) := by omega
            obtain ⟨r, hr⟩ : ∃ r, r = c' % 1000000000 := ⟨_, rfl⟩
            obtain ⟨d, hd⟩ : ∃ d, d = c' / 1000000000 := ⟨_, rfl⟩
            have hri : (c' : Int).tmod 1000000000 = (r : Int) := by rw [Int.tmod_eq_emod_of_nonneg (by omega)]; omega
            have hdi : (c' : Int).tdiv 1000000000 = (d : Int) := by rw [Int.tdiv_eq_ediv_of_nonneg (by omega)]; omega
            have hdb : d < 1000000000 := by omega
            have hcb2 : c' < 1000000000000000000 := by omega
            have hrb : r < 1000000000 := by omega
            have ht1b : t1 < 2000000000 := by omega
            have HK2 : Hid (TimJK p q i x (k + 1) d (L'.set (i + k) r)) := by
              unfold Hid; rw [hd]
              exact HKi.out.step hy hxb HQ.out (by rw [hc', pieceJ_get hz, hmm]) hr
            have HO2 := Lib.hid (HOi.out.set (i + k) r)
            clear hz hy hcb' hmm hc' hr hd ht1 hgo
            go_wp2_with fail
            try (go_quiet (fail); go_wp2_with fail)
            go_roundw
            case rel => exact ⟨k + 1, d, _, by omega, by go_num, by first | rfl | go_num, hdb, by first | exact Below.setCell hEi (p := ⟨w.heap.size, i + k, none⟩) (Nat.le_refl _) _ | exact Below.setCell (Ext.draws hEi _) (p := ⟨w.heap.size, i + k, none⟩) (Nat.le_refl _) _, HO2.out, HK2.out⟩
            case measure => simp [intOf]; omega
          · have hc0 : (0 : Int) < (cc : Int) := by omega
            obtain ⟨t1, ht1⟩ : ∃ t, t = y + cc := ⟨_, rfl⟩
            have hti : (y : Int) + (cc : Int) = (t1 : Int) := by omega
            obtain ⟨r, hr⟩ : ∃ r, r = t1 % 1000000000 := ⟨_, rfl⟩
            obtain ⟨d, hd⟩ : ∃ d, d = t1 / 1000000000 := ⟨_, rfl⟩
            have hri : (t1 : Int).tmod 1000000000 = (r : Int) := by rw [Int.tmod_eq_emod_of_nonneg (by omega)]; omega
            have hdi : (t1 : Int).tdiv 1000000000 = (d : Int) := by rw [Int.tdiv_eq_ediv_of_nonneg (by omega)]; omega
            have hdb : d < 1000000000 := by omega
            have hrb : r < 1000000000 := by omega
            have ht1b : t1 < 2000000000 := by omega
            have HK2 : Hid (TimJK p q i x (k + 1) d (L'.set (i + k) r)) := by
              unfold Hid; rw [hd]
              exact HKi.out.step hy hxb HQ.out (by rw [ht1, pieceJ_out (by omega)]; omega) hr
            have HO2 := Lib.hid (HOi.out.set (i + k) r)
            clear hy hr hd ht1 hgo
            go_wp2_with fail
            go_roundw
            case rel => exact ⟨k + 1, d, _, by omega, by go_num, by first | rfl | go_num, hdb, Below.setCell hEi (p := ⟨w.heap.size, i + k, none⟩) (Nat.le_refl _) _, HO2.out, HK2.out⟩
            case measure => simp [intOf]; omega
        · have hc0 : cc = 0 := by omega
          subst hc0
          have hkl : ¬ k < q.length := fun h => hgo (.inl h)
          have HS2 := Lib.hid (HKi.out.leave (by omega) HX.out)
          clear hgo
          go_wp2_with fail
          go_roundw
          case rel => exact ⟨i + 1, _, by omega, by go_num, hEi, HOi.out, HS2.out⟩
          case measure => simp [intOf]; omega
    · obtain rfl : p.length = i := by omega
      have HT := Lib.hid (rTrim_any w.heap.size L _ wo HO.out HS.out.pcs)
      have HV := HS.out.val
      rw [List.take_length] at HV
      have HV := Lib.hid HV
      have HL := Lib.hid HS.out.len
      go_wp2_with fail
      refine HT.out.mono ?_
      rintro e w5 ⟨r, l, rfl, hr, kk, rfl⟩
      have HR := Lib.hid hr
      clear hr HT
      go_wp2_with fail
      go_ret
      exact ⟨r, l, rfl, ⟨HR.out.out.1, HR.out.out.2.1, HR.out.out.2.2.1.trans HV.out, by rw [← HL.out]; exact HR.out.out.2.2.2⟩, Ext.draws hEw _⟩

theorem lv_pow_lt {l : List Nat} (h : Pcs l) : lv l < 10 ^ (9 * l.length) := by rw [← pB_pow]; exact lv_lt h
theorem numB_pieces {l : List Nat} (h : Pcs l) (hl : l ≠ []) : (numB (lv l)).size ≤ 9 * l.length := by
  rw [numB_size]
  exact nDigits_le _ _ (lv_pow_lt h) (by have := List.length_pos_iff.2 hl; omega)
theorem Can.drop {l : List Nat} (h : Can l) {k : Nat} (hk : k < l.length) : Can (l.drop k) := by
  refine ⟨h.1.drop k, fun x hx => ?_⟩
  rw [List.length_drop, List.getElem?_drop, show k + (l.length - k - 1) = l.length - 1 by omega] at hx
  exact h.2 x hx
set_option maxRecDepth 100000 in
set_option maxHeartbeats 2000000 in
theorem rJoin_any (l : List Nat) (v : Value) (w : World) (h : PcsJ w v l) (hc : Can l) (hlen : l.length ≤ 100000) (ht : Pow10 w) :
    Calls Tryz.prog 131 #[v] w fun e w' => e = .returned (.string (numB (lv l))) ∧ Ext w w' := by
  obtain ⟨a, cap, rfl, hl, hcap, hcell⟩ := h.open
  have HX := Lib.hid hcell
  have HC := Lib.hid hc
  have HT := Lib.hid ht
  clear h hcell hc ht
  by_cases hn : l = []
  · subst hn
    have HF : Hid (numB (lv []) = ⟨#[48]⟩) := by unfold Hid numB; rw [lv_nil, Lib.decDigits_one (by omega)]; rfl
    rw [HF.out]
    go_enter Tryz.func131, Tryz.ntmps131
    go_wp2_with fail
    go_ret
    exact ⟨rfl, Ext.refl _⟩
  · obtain ⟨b, off, rfl, hb, hcell⟩ := HX.out hn
    have HCELL := Lib.hid hcell
    have hpos : 0 < l.length := List.length_pos_iff.2 hn
    have hnz : ((l.length : Int) == 0) = false := by rw [beq_eq_false_iff_ne]; omega
    obtain ⟨x0, hx0⟩ : ∃ x, l[l.length - 1]? = some x := ⟨_, List.getElem?_eq_getElem (by omega)⟩
    have g0 := hcell _ _ hx0
    have hx0b := HC.out.1.get hx0
    have hi0 : (0 : Int) ≤ (l.length : Int) - 1 := by omega
    have hi1 : ((l.length : Int) - 1).toNat = l.length - 1 := by omega
    have H1 := Lib.hid (itoa_int (x0 : Int) w (by omega) (by omega) HT.out)
    have HD0 : Hid (intB (x0 : Int) = numB (lv (l.drop (l.length - 1)))) := by
      unfold Hid
      rw [intB_pos _ (by omega), lv_drop_succ hx0, List.drop_eq_nil_of_le (by omega), lv_nil]
      congr 1
    clear hcell HX hx0 hn
    go_enter Tryz.func131, Tryz.ntmps131
    go_wp2_with fail
    refine H1.out.mono ?_
    rintro e w1 ⟨rfl, hE1⟩
    have HE1 := Lib.hid hE1
    rw [HD0.out]
    clear hE1 g0 H1
    go_wp2_with fail
    go_loopw [4, 3] (fun t s wr => ∃ (k : Nat), t = .int .i64 ((k : Int) - 1) ∧ k + 1 ≤ l.length ∧ s = .string (numB (lv (l.drop k))) ∧ Hid (Ext w wr)) (fun t _ _ => (intOf t + 1).toNat)
    case atStart => exact ⟨l.length - 1, by congr 1; omega, by omega, rfl, by first | exact HE1.out | exact HE1.out.trans (Ext.drew _)⟩
    case round =>
      obtain ⟨k1, rfl, hk, rfl, HE⟩ := hrel
      obtain ⟨wo, rfl⟩ : ∃ wo : World, wo = wr := ⟨_, rfl⟩
      by_cases hk0 : 0 < k1
      · obtain ⟨k, rfl⟩ : ∃ k, k1 = k + 1 := ⟨k1 - 1, by omega⟩
        have e1 : ((k + 1 : Nat) : Int) - 1 = (k : Int) := by omega
        rw [e1]
        obtain ⟨x, hx⟩ : ∃ x, l[k]? = some x := ⟨_, List.getElem?_eq_getElem (by omega)⟩
        have g1 := HE.out.cell (HCELL.out k x hx)
        have hxb := HC.out.1.get hx
        have HX := Lib.hid hx
        have H2 := Lib.hid (itoa_int (x : Int) wo (by omega) (by omega) (HT.out.ext HE.out))
        have hkl : k < l.length := by omega
        have HSZ : Hid ((numB (lv (l.drop (k + 1)))).size ≤ 900000) := by
          unfold Hid
          have h1 := numB_pieces (HC.out.1.drop (k + 1)) (by intro e; have := congrArg List.length e; rw [List.length_drop] at this; simp at this; omega)
          rw [List.length_drop] at h1
          omega
        have HSTEP : Hid (Lib.decDigits (lv (l.drop k)) = Lib.decDigits (lv (l.drop (k + 1))) ++ padJ x) := by
          unfold Hid
          rw [lv_drop_succ hx]
          refine digits_pad ?_ hxb
          have h1 := (HC.out.drop (k := k + 1) (by omega)).ge (by intro e; have := congrArg List.length e; rw [List.length_drop] at this; simp at this; omega)
          have := pB_pos ((l.drop (k + 1)).length - 1)
          omega
        clear hx e1
        obtain ⟨S, hS⟩ : ∃ S, S = numB (lv (l.drop (k + 1))) := ⟨_, rfl⟩
        rw [← hS] at HSZ ⊢
        have HSD : Hid (S.data.toList = Lib.decDigits (lv (l.drop (k + 1)))) := by unfold Hid; rw [hS, numB_data]
        have hsz := HSZ.out
        clear hS
        go_wp2_with fail
        refine H2.out.mono ?_
        rintro e w2 ⟨rfl, hE2⟩
        have HE2 := Lib.hid (HE.out.trans hE2)
        clear hE2 g1 H2
        go_wp2_with fail
        have HIX : Hid ((intB (x : Int)).data.toList = Lib.decDigits x) := by
          unfold Hid; rw [intB_pos _ (by omega), numB_data]; rfl
        have HDL : Hid ((Lib.decDigits x).length ≤ 9) := by
          unfold Hid
          rw [Lib.decDigits_length]
          exact nDigits_le x 9 (by rw [show (10 : Nat) ^ 9 = 1000000000 by decide]; exact hxb) (by omega)
        go_loopw [5] (fun t wr => ∃ (j : Nat) (b5 : ByteArray), t = .string b5 ∧ j ≤ 9 ∧ b5.size ≤ 9 ∧ Hid (b5.data.toList = List.replicate j 48 ++ Lib.decDigits x) ∧ Hid (Ext w2 wr)) (fun t _ => match t with | .string b => 9 - b.size | _ => 0)
        case atStart => exact ⟨0, _, rfl, by omega, by rw [Lib.size_eq, HIX.out]; exact HDL.out, by unfold Hid; rw [HIX.out]; rfl, by first | exact Ext.refl _ | exact Ext.drew _⟩
        case round =>
          obtain ⟨j, b5, rfl, hj, hb5, HBD, HEX⟩ := hrel
          obtain ⟨wi, rfl⟩ : ∃ wi : World, wi = wr := ⟨_, rfl⟩
          by_cases hlt : b5.size < 9
          · have hlt' : (b5.size : Int) < 9 := by omega
            have z1 : ¬ 9223372036854775807 < 1 + b5.size := by omega
            have HNJ : Hid (j + 1 ≤ 9) := by
              unfold Hid
              have := congrArg List.length HBD.out
              rw [← Lib.size_eq, List.length_append, List.length_replicate] at this
              omega
            have hnj := HNJ.out
            have HBN : Hid (((⟨#[48]⟩ : ByteArray) ++ b5).data.toList = List.replicate (j + 1) 48 ++ Lib.decDigits x) := by
              unfold Hid
              rw [catJ, HBD.out, List.replicate_succ]; rfl
            have HBS : Hid (((⟨#[48]⟩ : ByteArray) ++ b5).size = b5.size + 1) := by
              unfold Hid
              rw [Lib.size_eq, catJ, List.length_append, Lib.size_eq]
              show 1 + _ = _
              omega
            go_wp2_with fail
            go_roundw
            case rel => exact ⟨j + 1, _, rfl, hnj, by rw [HBS.out]; omega, HBN.out, by first | exact HEX.out | exact HEX.out.trans (Ext.drew _)⟩
            case measure => show 9 - ((⟨#[48]⟩ : ByteArray) ++ b5).size < 9 - b5.size; rw [HBS.out]; omega
          · have hlt' : ¬ (b5.size : Int) < 9 := by omega
            have z1 : ¬ 9223372036854775807 < S.size + b5.size := by omega
            have HPAD : Hid (b5.data.toList = padJ x) := by
              unfold Hid padJ
              rw [HBD.out]
              have := congrArg List.length HBD.out
              rw [← Lib.size_eq, List.length_append, List.length_replicate] at this
              congr 2
              omega
            have HNEW : Hid (S ++ b5 = numB (lv (l.drop k))) := by
              unfold Hid
              exact catJ_eq (by rw [numB_data, HSTEP.out, ← HSD.out, ← HPAD.out])
            have HEW := Lib.hid (HE2.out.trans HEX.out)
            go_wp2_with fail
            go_roundw
            case rel => exact ⟨k, by first | rfl | go_num, by omega, by rw [HNEW.out], HEW.out⟩
            case measure => first | (simp [intOf]; done) | (simp [intOf]; omega)
      · obtain rfl : k1 = 0 := by omega
        go_wp2_with fail
        go_ret
        exact ⟨by rw [List.drop_zero]; rfl, HE.out⟩

/-- The integer of a sign and a magnitude. -/
def sgJ (b : Bool) (u : Nat) : Int := if b then -(u : Int) else u
set_option maxRecDepth 100000 in
set_option maxHeartbeats 1000000 in
theorem rSigned_any (B : Nat) (neg : Bool) (l : List Nat) (v : Value) (w : World) (h : OwnJ B w v l) (hp : Pcs l) (hlen : l.length ≤ 100000) (ht : Pow10 w) :
    Calls Tryz.prog 106 #[.bool neg, v] w fun e w' => e = .returned (.string (intB (sgJ neg (lv l)))) ∧ Ext w w' := by
  have H1 := Lib.hid (rTrim_any B l v w h hp)
  have HT := Lib.hid ht
  clear h ht
  cases neg with
  | false =>
    have HR : Hid (intB (sgJ false (lv l)) = numB (lv l)) := by
      unfold Hid sgJ; rw [if_neg (by decide), intB_pos _ (by omega)]; congr 1
    rw [HR.out]
    go_enter Tryz.func106, Tryz.ntmps106
    go_wp2_with fail
    refine H1.out.mono ?_
    rintro e w1 ⟨v', l', rfl, hr, kk, rfl⟩
    have HRR := Lib.hid hr
    have H2 := Lib.hid (rJoin_any l' v' (w.drewN kk) hr.out.1.at hr.out.2.1 (by have := hr.out.2.2.2; omega) (HT.out.ext (Ext.draws (Ext.refl _) _)))
    rw [hr.out.2.2.1] at H2
    clear hr H1
    go_wp2_with fail
    refine H2.out.mono ?_
    rintro e w2 ⟨rfl, hE2⟩
    have HE2 := Lib.hid (Ext.trans (Ext.draws (Ext.refl _) _) hE2)
    clear hE2 H2
    go_wp2_with fail
    go_ret
    exact ⟨rfl, HE2.out⟩
  | true =>
    have HZ : Hid (lv l = 0 → intB (sgJ true (lv l)) = numB (lv l)) := by
      intro e; unfold sgJ; rw [if_pos rfl, e, intB_pos _ (by omega)]; congr 1
    have HN : Hid (lv l ≠ 0 → (⟨#[45]⟩ : ByteArray) ++ numB (lv l) = intB (sgJ true (lv l))) := by
      intro e
      refine catJ_eq ?_
      unfold sgJ
      rw [if_pos rfl, intB_neg _ (by omega), show (-(lv l : Int)).natAbs = lv l by omega]; rfl
    have HSZ : Hid ((numB (lv l)).size ≤ 900000) := by
      unfold Hid
      by_cases hl : l = []
      · subst hl; rw [lv_nil, numB_size, Lib.nDigits_small (by omega)]; omega
      · have := numB_pieces hp hl; omega
    go_enter Tryz.func106, Tryz.ntmps106
    go_wp2_with fail
    refine H1.out.mono ?_
    rintro e w1 ⟨v', l', rfl, hr, kk, rfl⟩
    have H2 := Lib.hid (rJoin_any l' v' (w.drewN kk) hr.out.1.at hr.out.2.1 (by have := hr.out.2.2.2; omega) (HT.out.ext (Ext.draws (Ext.refl _) _)))
    obtain ⟨a, c, rfl, h1, h2, -⟩ := hr.out.1.form
    have hv := hr.out.2.2.1
    have hz := hr.out.2.1.zero
    rw [hv] at H2 hz
    have HV := Lib.hid hv
    have HL0 : Hid (l'.length = 0 ↔ lv l = 0) := by unfold Hid; rw [hz, List.length_eq_zero_iff]
    clear hr H1 hv hz
    by_cases h0 : l'.length = 0
    · have e0 := HL0.out.1 h0
      have q : ¬ (0 : Int) < (l'.length : Int) := by omega
      have HZ2 := Lib.hid (HZ.out e0)
      clear e0 h0
      go_wp2_with fail
      refine H2.out.mono ?_
      rintro e w2 ⟨rfl, hE2⟩
      have HE2 := Lib.hid (Ext.trans (Ext.draws (Ext.refl _) _) hE2)
      clear hE2 H2
      go_wp2_with fail
      go_ret
      exact ⟨by first | rfl | (rw [HZ2.out]; rfl) | (rw [← HZ2.out]; rfl), HE2.out⟩
    · have e0 : lv l ≠ 0 := fun e => h0 (HL0.out.2 e)
      have q : (0 : Int) < (l'.length : Int) := by omega
      have HZ2 := Lib.hid (HN.out e0)
      have hsz := HSZ.out
      have z1 : ¬ 9223372036854775807 < 1 + (numB (lv l)).size := by omega
      clear e0 h0
      go_wp2_with fail
      refine H2.out.mono ?_
      rintro e w2 ⟨rfl, hE2⟩
      have HE2 := Lib.hid (Ext.trans (Ext.draws (Ext.refl _) _) hE2)
      clear hE2 H2
      go_wp2_with fail
      go_ret
      exact ⟨by first | rfl | (rw [HZ2.out]; rfl) | (rw [← HZ2.out]; rfl), HE2.out⟩
end Go.Proofs.YtpeinobepiodaaaGreatDoor
/- The reference of chapter 02: divide. -/
namespace Go.Proofs.YtpeinobepiodaaaGreatDoor
set_option linter.unusedVariables false
set_option linter.unusedSimpArgs false
open Go.RowKit

/-- append(xs, ys...) of pieces. -/
theorem wpList_append_J (w : World) {ops : Array Oper} {rest : List Oper} {o : Oper} {a : Act} {Q : Exit → Act → World → Prop} (hgd : o.guard = none)
    (s x : Operand) (ho : o.op = Op.call { callee := Callee.builtin Builtin.append, args := #[s, x], argTypes := #[50, 50] }) (base : Nat)
    (v y : Value) (xs ys : List Nat) (hs : a.eval s = v) (hx : a.eval x = y) (hB : OwnJ base w v xs) (hY : PcsJ w y ys) (hlen : xs.length + ys.length < 1000000) (hbase : base ≤ w.heap.size)
    (h : ∀ v' w', OwnJ base w' v' (xs ++ ys) → Below base w w' → wpList Tryz.prog ops Q rest (a.put o.dst v') w') :
    wpList Tryz.prog ops Q (o :: rest) a w := by
  obtain ⟨ad, c, rfl, h1, h2, h3, hc⟩ := ListAt.open hY
  obtain ⟨i0, hi, hz, hsize, hby⟩ := info_parts infoJ
  cases ad with
  | none =>
    have h0 : ys = [] := by have := h3 rfl; exact List.eq_nil_of_length_eq_zero (by omega)
    subst h0
    obtain rfl : c = 0 := h3 rfl
    refine wpList_append_own_none hgd s x 50 ho base 3 i0 1 Tryz.underlying50 hi _ xs.length (xs.map pcJ) hs hB hx (h _ _ (by rw [List.append_nil]; exact hB) (Below.refl _ _))
  | some ad =>
    have hnews : ∀ (j : Nat) (u : Value), (ys.map pcJ)[j]? = some u → w.cell? (ad.add j) = some u := by
      intro j u hu
      rw [List.getElem?_map] at hu
      cases hj : ys[j]? with
      | none => simp [hj] at hu
      | some z =>
        simp [hj] at hu; subst hu
        obtain ⟨b, off, hab, hbw, hcell⟩ := hc (by omega) (by intro e; simp [e] at hj)
        cases hab
        obtain ⟨us, _, hr, hcl⟩ := hcell j z hj
        have := hcl 0 (by omega)
        rw [hr] at this
        rw [show (⟨b, off, none⟩ : Addr).add j = ⟨b, off + (j * 1 + 0), none⟩ by unfold Addr.add; split <;> simp_all]
        simpa using this
    refine wpList_append_own _ hgd s x 50 ho base 3 i0 (.int .i64 0) 1 8 Tryz.underlying50 hi hz hsize hby rfl (by decide) _ _ _ hs hB ad ys.length c (ys.map pcJ) hx (by simp) hnews ?_ (by unfold maxLen; omega) (by omega) hbase ?_
    · intro u hu
      obtain ⟨z, -, rfl⟩ := List.mem_map.1 hu
      rfl
    · intro v' w' hown' hgrow _
      refine h v' w' ?_ ⟨hgrow.os, hgrow.tape, hgrow.output, hgrow.size, fun b hb => hgrow.block b (by omega) ?_⟩
      · unfold OwnJ; rw [List.length_append, List.map_append]; exact hown'
      · intro e
        have := (hB.lt b e.symm).1
        omega

theorem cmpN_le {u v : Nat} (h : u ≤ v) : cmpN u v ≤ 0 := by
  unfold cmpN; split
  · omega
  · split <;> omega
theorem cmpN_nle {u v : Nat} (h : ¬ u ≤ v) : ¬ cmpN u v ≤ 0 := by rw [cmpN_gt (by omega)]; omega
theorem OwnJ.lit (w : World) (m : Nat) : OwnJ w.heap.size (w.alloc (.cells #[.int .i64 m] 3)) (.slice (some ⟨w.heap.size, 0, none⟩) 1 1) [m] := by
  have := World.ownsRow_lit (e := 3) (size := 1) w #[Value.int .i64 m] 1 (Nat.le_refl _) (by unfold maxLen; omega) rfl
  exact this
set_option maxRecDepth 100000 in
set_option maxHeartbeats 2000000 in
theorem rDivide_any (p q : List Nat) (u v : Value) (w : World) (hu : PcsJ w u p) (hv : PcsJ w v q) (hp : Pcs p) (hq : Can q) (h0 : 0 < lv q) (hlp : p.length ≤ 20000) (hlq : q.length ≤ 20000) :
    Calls Tryz.prog 127 #[u, v] w fun e w' => ∃ r1 r2 l1 l2, e = .returned (.tuple #[r1, r2]) ∧ Hid (OwnJ w.heap.size w' r1 l1 ∧ Can l1 ∧ lv l1 = lv p / lv q ∧ l1.length ≤ p.length ∧ OwnJ w.heap.size w' r2 l2 ∧ Can l2 ∧ lv l2 = lv p % lv q ∧ l2.length ≤ q.length) ∧ Ext w w' := by
  obtain ⟨a, ca, rfl, hla, hca, hcu⟩ := hu.open
  have HP := Lib.hid hp; have HQ := Lib.hid hq
  have HU := Lib.hid hcu; have HV := Lib.hid hv
  have H0 := Lib.hid h0
  obtain ⟨i0, hi, hz0, hz1, hz2⟩ := info_parts infoJ
  have HI := Lib.hid hi; have HZ0 := Lib.hid hz0; have HZ1 := Lib.hid hz1; have HZ2 := Lib.hid hz2
  obtain ⟨n, hn⟩ : ∃ n : Nat, n = p.length := ⟨_, rfl⟩
  rw [← hn] at hla hlp ⊢
  have HN := Lib.hid hn
  clear hi hz0 hz1 hz2 hu hv hcu hp hq hn h0
  go_enter Tryz.func127, Tryz.ntmps127
  go_wp2_with (at_make; refine wpList_make_full _ rfl _ _ 50 rfl w.heap.size 3 i0 (.int .i64 0) 1 Tryz.underlying50 HI.out HZ0.out HZ1.out _ _ _ _ n rfl rfl rfl rfl ?c1 ?c2 ?c3 ?_)
  case c1 => rw [HZ2.out]; omega
  case c2 => unfold maxLen; omega
  case c3 => exact Nat.le_refl _
  intro w1 hown hgrow
  have hE1 := ext_grownJ hgrow
  have HSZ1 : Hid (w.heap.size + 1 ≤ w1.heap.size) := by
    rcases hown.2 with ⟨e, _⟩ | ⟨g', cap', cur, e, hb, hg, _⟩
    · cases e
    · simp only [Value.slice.injEq, Option.some.injEq, Addr.mk.injEq] at e
      obtain ⟨⟨rfl, -, -⟩, -, -⟩ := e
      exact (Array.getElem?_eq_some_iff.1 hg).1
  have HO0 := Lib.hid (OwnJ.made hown)
  have HS0 : Hid (DivJ p q n (List.replicate n 0) (lv [])) := by unfold Hid; rw [HN.out]; exact DivJ.start p q H0.out
  have HR0 : Hid (OwnJ (w.heap.size + 1) w1 (.slice none 0 0) [] ∧ Can []) := ⟨OwnJ.nil _ _, Can.nil⟩
  clear hown hgrow
  go_wp2_with fail
  go_loopw [8, 7] (fun t v7 wr => ∃ (k : Nat) (L R : List Nat), k ≤ n ∧ t = .int .i64 ((k : Int) - 1) ∧ Ext w wr ∧ w.heap.size + 1 ≤ wr.heap.size ∧ Hid (OwnJ w.heap.size wr (.slice (some ⟨w.heap.size, 0, none⟩) n n) L) ∧ Hid (OwnJ (w.heap.size + 1) wr v7 R ∧ Can R) ∧ Hid (DivJ p q k L (lv R))) (fun t _ _ => (intOf t + 1).toNat)
  case atStart => exact ⟨n, _, [], by omega, rfl, hE1, HSZ1.out, HO0.out, HR0.out, HS0.out⟩
  case round =>
    obtain ⟨k1, L, R, hk, rfl, hEw, hsz, HO, HR, HS⟩ := hrel
    obtain ⟨wo, rfl⟩ : ∃ wo : World, wo = wr := ⟨_, rfl⟩
    clear HO0 HS0 HR0
    by_cases hk0 : 0 < k1
    · obtain ⟨k, rfl⟩ : ∃ k, k1 = k + 1 := ⟨k1 - 1, by omega⟩
      have e1 : ((k + 1 : Nat) : Int) - 1 = (k : Int) := by omega
      rw [e1]
      obtain ⟨x, hx⟩ : ∃ x, p[k]? = some x := ⟨_, List.getElem?_eq_getElem (by have := HN.out; omega)⟩
      obtain ⟨ba, oa, rfl, -, hca'⟩ := HU.out (by rintro rfl; simp at hx)
      have g1 := hEw.cell (hca' k x hx)
      have hxb := HP.out.get hx
      obtain ⟨HST0, HDB0, HDM0⟩ := HS.out.step hx HP.out rfl
      obtain ⟨d, hd⟩ : ∃ d, d = (x + 1000000000 * lv R) / lv q := ⟨_, rfl⟩
      rw [← hd] at HST0 HDB0 HDM0
      have HST := Lib.hid HST0; have HDM := Lib.hid HDM0
      have HD := Lib.hid hd
      have HRL : Hid (R.length ≤ q.length) := Can.length_le HR.out.2 HQ.out (Nat.le_of_lt HS.out.lt)
      have hrl := HRL.out
      have hkn : k < n := by omega
      have HLL : Hid (L.length = n) := by unfold Hid; rw [HS.out.len, HN.out]
      clear hx hca' HST0 HDM0 hd e1
      have HRP : Hid (PcsJ (wo.alloc (.cells #[.int .i64 x] 3)) u7 R) := (HR.out.1.at).ext (Ext.alloc _ _)
      have HLIT := Lib.hid (OwnJ.lit wo x)
      go_wp2_with (at_builtin; go_must (refine wpList_append_J _ rfl _ _ rfl wo.heap.size _ u7 [x] R rfl rfl HLIT.out HRP.out (by simp; omega) (Ext.alloc _ _).size ?_))
      intro v5 w5 hO5 hb5
      have HE5 : Hid (Ext wo w5) := Below.trans (Ext.alloc wo (.cells #[.int .i64 x] 3)) hb5
      have HT5 := Lib.hid (rTrim_any wo.heap.size ([x] ++ R) v5 w5 hO5 (Pcs.cons hxb HR.out.2.1))
      clear hO5 hb5 HLIT HRP g1
      go_wp2_with fail
      refine HT5.out.mono ?_
      rintro e w6 ⟨v6, R1, rfl, hr, kk, rfl⟩
      have HO6 := Lib.hid hr.out.1
      have HC6 := Lib.hid hr.out.2.1
      have hv6 : lv R1 = x + 1000000000 * lv R := hr.out.2.2.1
      have HV6 := Lib.hid hv6
      have hl6 : R1.length ≤ 20001 := by have := hr.out.2.2.2; simp at this; omega
      have HE6 : Hid (Ext wo (w5.drewN kk)) := Ext.draws HE5.out _
      obtain ⟨w6, hw6⟩ : ∃ w6, w6 = w5.drewN kk := ⟨_, rfl⟩
      rw [← hw6] at HO6 HE6 ⊢
      have HQD : Hid (∀ m, lv q * m ≤ lv R1 ↔ m ≤ d) := by
        intro m
        rw [hv6, HD.out, Nat.le_div_iff_mul_le H0.out, Nat.mul_comm]
      clear hr HT5 hv6 hw6 HE5
      go_wp2_with fail
      have hd9 : d ≤ 999999999 := by omega
      go_loopw [9, 10] (fun lo hi wr => ∃ (x1 x2 : Nat), lo = .int .i64 x1 ∧ hi = .int .i64 x2 ∧ x1 ≤ d ∧ d ≤ x2 ∧ x2 ≤ 999999999 ∧ Hid (Ext w6 wr)) (fun lo hi _ => (intOf hi - intOf lo).toNat)
      case atStart => exact ⟨0, 999999999, rfl, rfl, by omega, hd9, by omega, by first | exact Ext.refl _ | exact Ext.drew _⟩
      case round =>
        obtain ⟨x1, x2, rfl, rfl, h1, h2, h3, HEI⟩ := hrel
        obtain ⟨wi, rfl⟩ : ∃ wi : World, wi = wr := ⟨_, rfl⟩
        have HEWI := Lib.hid (Ext.trans hEw (Ext.trans HE6.out HEI.out))
        by_cases hlt : x1 < x2
        · have hlt' : (x1 : Int) < (x2 : Int) := by omega
          obtain ⟨m, hm⟩ : ∃ m, m = (x1 + x2 + 1) / 2 := ⟨_, rfl⟩
          have hmi : ((x1 : Int) + (x2 : Int) + 1).tdiv 2 = (m : Int) := by rw [Int.tdiv_eq_ediv_of_nonneg (by omega)]; omega
          have hm1 : x1 < m := by omega
          have hm2 : m ≤ x2 := by omega
          clear hm
          have HX0 : Hid (Ext wi (wi.alloc (.cells #[.int .i64 m] 3))) := Ext.alloc _ _
          have HTM := Lib.hid (rTimes_any q [m] v (.slice (some ⟨wi.heap.size, 0, none⟩) 1 1) (wi.alloc (.cells #[.int .i64 m] 3)) (HV.out.ext (HEWI.out.trans HX0.out)) (OwnJ.lit wi m).at HQ.out.1 (Pcs.cons (by omega) Pcs.nil) (by omega) (by simp))
          go_wp2_with fail
          refine HTM.out.mono ?_
          rintro e w7 ⟨r7, l7, rfl, hr7, hE7⟩
          have HR7 := Lib.hid hr7
          have HX7 := Lib.hid (HX0.out.trans hE7)
          have hl7 : l7.length ≤ 40000 := by have := hr7.out.2.2.2; simp at this; omega
          have hv7 : lv l7 = lv q * m := by rw [hr7.out.2.2.1, lv_cons, lv_nil, Nat.mul_zero, Nat.add_zero]
          have HOR := Lib.hid (rOrder_any l7 R1 r7 v6 w7 hr7.out.1.at ((HO6.out.at).ext (HEI.out.trans HX7.out)) hr7.out.2.1 HC6.out (by omega) (by omega))
          rw [hv7] at HOR
          clear hr7 hE7 hv7 HTM HX0
          go_wp2_with fail
          refine HOR.out.mono ?_
          rintro e w8 ⟨rfl, hE8⟩
          have HX8 := Lib.hid (HEI.out.trans (HX7.out.trans hE8))
          clear hE8 HOR
          by_cases hc : lv q * m ≤ lv R1
          · have hmd := (HQD.out m).1 hc
            have q1 : cmpN (lv q * m) (lv R1) ≤ 0 := cmpN_le hc
            obtain ⟨cm, hcm⟩ : ∃ c, c = cmpN (lv q * m) (lv R1) := ⟨_, rfl⟩
            rw [← hcm] at q1 ⊢
            clear hc hcm
            go_wp2_with fail
            go_roundw
            case rel => exact ⟨m, x2, by first | rfl | go_num, rfl, hmd, h2, h3, HX8.out⟩
            case measure => simp [intOf]; omega
          · have hmd : d < m := by
              false_or_by_contra
              exact hc ((HQD.out m).2 (by omega))
            have q1 : ¬ cmpN (lv q * m) (lv R1) ≤ 0 := cmpN_nle hc
            obtain ⟨cm, hcm⟩ : ∃ c, c = cmpN (lv q * m) (lv R1) := ⟨_, rfl⟩
            rw [← hcm] at q1 ⊢
            clear hc hcm
            go_wp2_with fail
            go_roundw
            case rel => exact ⟨x1, m - 1, rfl, by first | rfl | go_num | (congr 1; omega), h1, by omega, by omega, HX8.out⟩
            case measure => simp [intOf]; omega
        · have hlt' : ¬ (x1 : Int) < (x2 : Int) := by omega
          obtain rfl : d = x1 := by omega
          obtain rfl : d = x2 := by omega
          have hszi : w.heap.size + 1 ≤ wi.heap.size := Nat.le_trans hsz (Nat.le_trans HE6.out.size HEI.out.size)
          have HOI := Lib.hid (HO.out.ext (HE6.out.trans HEI.out))
          obtain ⟨y, hy⟩ : ∃ y, L[k]? = some y := ⟨_, List.getElem?_eq_getElem (by have := HLL.out; omega)⟩
          obtain ⟨g3, f3⟩ := HOI.out.get hy
          have HO2 := Lib.hid (HOI.out.set k d)
          have HR2 : Hid (OwnJ wo.heap.size (wi.setCell ⟨w.heap.size, k, none⟩ (.int .i64 d)) v6 R1) := ownsRow_setCell_below (HO6.out.ext HEI.out) (a := ⟨w.heap.size, k, none⟩) (by show w.heap.size < wo.heap.size; omega) _
          have HX2 : Hid (Ext w (wi.setCell ⟨w.heap.size, k, none⟩ (.int .i64 d))) := Below.setCell HEWI.out (p := ⟨w.heap.size, k, none⟩) (Nat.le_refl _) _
          have hsz2 : w.heap.size + 1 ≤ (wi.setCell ⟨w.heap.size, k, none⟩ (.int .i64 d)).heap.size := by simp [World.setCell]; omega
          obtain ⟨w9, hw9⟩ : ∃ w9, w9 = wi.setCell ⟨w.heap.size, k, none⟩ (.int .i64 d) := ⟨_, rfl⟩
          by_cases hd0 : 0 < d
          · have hd0' : (0 : Int) < (d : Int) := by omega
            clear hy
            rw [← hw9] at HO2 HR2 HX2 hsz2
            have HW9 := Lib.hid hw9
            clear hw9
            go_upto_region 14 with fail
            rw [← HW9.out]
            have HX0 : Hid (Ext w9 (w9.alloc (.cells #[.int .i64 d] 3))) := Ext.alloc _ _
            have HTM := Lib.hid (rTimes_any q [d] v (.slice (some ⟨w9.heap.size, 0, none⟩) 1 1) (w9.alloc (.cells #[.int .i64 d] 3)) (HV.out.ext (HX2.out.trans HX0.out)) (OwnJ.lit w9 d).at HQ.out.1 (Pcs.cons (by omega) Pcs.nil) (by omega) (by simp))
            clear g3 f3
            go_wp2_with fail
            refine HTM.out.mono ?_
            rintro e w7 ⟨r7, l7, rfl, hr7, hE7⟩
            have HX7 := Lib.hid (HX0.out.trans hE7)
            have hv7 : lv l7 = lv q * d := by rw [hr7.out.2.2.1, lv_cons, lv_nil, Nat.mul_zero, Nat.add_zero]
            have HMI := Lib.hid (rMinus_any R1 l7 v6 r7 w7 ((HR2.out.at).ext HX7.out) hr7.out.1.at HC6.out hr7.out.2.1 (by rw [hv7]; exact (HQD.out d).2 (Nat.le_refl _)) (by omega))
            rw [hv7] at HMI
            clear hr7 hE7 hv7 HTM HX0
            go_wp2_with fail
            refine HMI.out.mono ?_
            rintro e w8 ⟨r8, l8, rfl, hr8, hE8⟩
            have HX8 := Lib.hid (HX7.out.trans hE8)
            have HF : Hid (OwnJ (w.heap.size + 1) w8 r8 l8 ∧ Can l8) := ⟨hr8.out.1.base (Nat.le_trans hsz2 HX7.out.size), hr8.out.2.1⟩
            have HST2 : Hid (DivJ p q k (L.set k d) (lv l8)) := by
              unfold Hid
              rw [hr8.out.2.2.1, HV6.out, Nat.mul_comm (lv q) d]
              exact HST.out
            clear hr8 hE8 HMI
            go_wp2_with fail
            go_roundw
            case rel => exact ⟨k, _, l8, by omega, by go_num, HX2.out.trans HX8.out, Nat.le_trans hsz2 HX8.out.size, HO2.out.ext HX8.out, HF.out, HST2.out⟩
            case measure => simp [intOf]
          · obtain rfl : 0 = d := by omega
            have HF : Hid (OwnJ (w.heap.size + 1) (wi.setCell ⟨w.heap.size, k, none⟩ (.int .i64 (0 : Nat))) v6 R1 ∧ Can R1) := ⟨HR2.out.base hsz, HC6.out⟩
            have HST2 : Hid (DivJ p q k (L.set k 0) (lv R1)) := by
              have := HST.out
              rw [Nat.zero_mul, Nat.sub_zero, ← HV6.out] at this
              exact this
            clear hy
            go_wp2_with fail
            go_roundw
            case rel => exact ⟨k, _, R1, by omega, by go_num, HX2.out, hsz2, HO2.out, HF.out, HST2.out⟩
            case measure => simp [intOf]
    · obtain rfl : k1 = 0 := by omega
      have HT := Lib.hid (rTrim_any w.heap.size L _ wo HO.out HS.out.pcs)
      have HDN := Lib.hid HS.out.done
      have HRL : Hid (R.length ≤ q.length) := Can.length_le HR.out.2 HQ.out (Nat.le_of_lt HS.out.lt)
      have HL := Lib.hid HS.out.len
      go_wp2_with fail
      refine HT.out.mono ?_
      rintro e w5 ⟨r, l, rfl, hr, kk, rfl⟩
      have HRR := Lib.hid hr
      clear hr HT
      go_wp2_with fail
      go_ret2
      exact ⟨r, u7, l, R, rfl, ⟨HRR.out.out.1, HRR.out.out.2.1, HRR.out.out.2.2.1.trans HDN.out.1, by rw [HN.out, ← HL.out]; exact HRR.out.out.2.2.2, (HR.out.1.base (by omega)).ext (Ext.draws (Ext.refl _) _), HR.out.2, HDN.out.2, HRL.out⟩, Ext.draws hEw _⟩
end Go.Proofs.YtpeinobepiodaaaGreatDoor
/- The reference of chapter 02 at integers of any size: Small, quick, side, Neg. -/
namespace Go.Proofs.YtpeinobepiodaaaGreatDoor
set_option linter.unusedVariables false
set_option linter.unusedSimpArgs false
open Go.RowKit

/-- Fits an int. -/
def fitI (n : Int) : Prop := -9223372036854775808 ≤ n ∧ n ≤ 9223372036854775807
instance (n : Int) : Decidable (fitI n) := inferInstanceAs (Decidable (_ ∧ _))
def smV (n : Int) : Int := if fitI n then n else 0
set_option maxRecDepth 100000 in
set_option maxHeartbeats 2000000 in
theorem rSmallG_any (n : Int) (w : World) (hsz : (intB n).size ≤ 1000000) :
    Calls Tryz.prog 76 #[.string (intB n)] w fun e w' => e = .returned (.tuple #[.int .i64 (smV n), .bool (decide (fitI n))]) ∧ Ext w w' := by
  have HT := Lib.hid (text_int n)
  have hp0 : 0 < (intB n).size := intB_size_pos n
  have hp' : (0 : Int) < ((intB n).size : Int) := by omega
  obtain ⟨u, hu⟩ : ∃ u, u = n.natAbs := ⟨_, rfl⟩
  rw [← hu] at HT
  have HNO : Hid (9223372036854775808 < u → smV n = 0 ∧ decide (fitI n) = false) := by
    intro h
    have : ¬ fitI n := by unfold fitI; omega
    exact ⟨by unfold smV; rw [if_neg this], decide_eq_false this⟩
  have HYES : Hid (fitI n → smV n = n ∧ decide (fitI n) = true) := fun h => ⟨by unfold smV; rw [if_pos h], decide_eq_true h⟩
  by_cases h : n < 0
  case' pos =>
    rw [if_pos h] at HT
    have q := neg_head n h hp0
    have hs2 : 2 ≤ (intB n).size := by
      rw [intB_size_neg n h]
      have : 0 < (numB n.natAbs).size := by rw [Lib.size_eq, numB_data]; exact List.length_pos_iff.2 (dig_ne _)
      omega
    have q2 : ((1 : Int) == ((intB n).size : Int)) = false := by rw [beq_eq_false_iff_ne]; omega
    have hnu : n = -(u : Int) := by omega
    obtain ⟨i0, hi0⟩ : ∃ i0 : Nat, i0 = 1 := ⟨1, rfl⟩
    have HEND : Hid (u ≤ 9223372036854775808 → smV n = -(u : Int) ∧ decide (fitI n) = true) := by
      intro h1
      have := HYES.out (by unfold fitI; omega)
      rw [hnu] at this ⊢
      exact this
  case' neg =>
    rw [if_neg h] at HT
    have q := dig_head (intB n) n.toNat (intB_pos n (by omega)) hp0
    have q2 : ((0 : Int) == ((intB n).size : Int)) = false := by rw [beq_eq_false_iff_ne]; omega
    have hnu : n = (u : Int) := by omega
    obtain ⟨i0, hi0⟩ : ∃ i0 : Nat, i0 = 0 := ⟨0, rfl⟩
    have HEND : Hid (u ≤ 9223372036854775808 → if u = 9223372036854775808 then smV n = 0 ∧ decide (fitI n) = false else smV n = (u : Int) ∧ decide (fitI n) = true) := by
      intro h1
      by_cases e : u = 9223372036854775808
      · rw [if_pos e]
        have : ¬ fitI n := by unfold fitI; omega
        exact ⟨by unfold smV; rw [if_neg this], decide_eq_false this⟩
      · rw [if_neg e]
        have := HYES.out (by unfold fitI; omega)
        rw [hnu] at this ⊢
        exact this
  all_goals
    have HI := Lib.hid hi0
    rw [← hi0] at HT
    obtain ⟨sv, hsv⟩ : ∃ v, v = smV n := ⟨_, rfl⟩
    obtain ⟨fb, hfb⟩ : ∃ v, v = decide (fitI n) := ⟨_, rfl⟩
    rw [← hsv, ← hfb] at HNO HEND ⊢
    clear h hu hi0 hnu HYES hsv hfb
    generalize intB n = s at *
    go_enter Tryz.func76, Tryz.ntmps76
    go_wp2_with fail
    clear q q2
    go_loopw [5, 7] (fun t v wr => ∃ i : Nat, i0 ≤ i ∧ i ≤ s.size ∧ t = .int .i64 (i : Int) ∧ v = .int .i64 (-(preV s i0 i : Int)) ∧ preV s i0 i ≤ 9223372036854775808 ∧ Ext w wr) (fun t _ _ => s.size - (intOf t).toNat)
    case atStart => exact ⟨i0, Nat.le_refl _, HT.out.size, by rw [HI.out]; rfl, by unfold preV; rw [Nat.sub_self]; rfl, by unfold preV; rw [Nat.sub_self]; exact Nat.zero_le _, by first | exact Ext.refl _ | exact Ext.drew _⟩
    case round =>
      obtain ⟨i, hi1, hi2, rfl, rfl, hpb, hE⟩ := hrel
      by_cases hlt : i < s.size
      · obtain ⟨dg1, dg2⟩ := HT.out.dig hi1 hlt
        have hsu := preV_succ hi1 hlt
        have hle := HT.out.le (i + 1)
        obtain ⟨z, hz⟩ : ∃ z : Nat, s[i].toNat = z + 48 := ⟨s[i].toNat - 48, by omega⟩
        obtain ⟨p, hp⟩ : ∃ p, p = preV s i0 i := ⟨_, rfl⟩
        rw [hz, ← hp, show z + 48 - 48 = z by omega] at hsu
        have HSU := Lib.hid hsu
        rw [hsu] at hle
        rw [← hp] at hpb ⊢
        have e1 : (s[i].toNat : Int) = (z : Int) + 48 := by rw [hz]; rfl
        have e2 : IntKind.i64.wrap ((z : Int) + 48 - 48) = (z : Int) := by rw [IntKind.wrap_i64]; omega
        have e3 : ¬ (9 : Int) < (z : Int) := by omega
        have e4 : IntKind.i64.wrap (-9223372036854775808 + (z : Int)) = -9223372036854775808 + (z : Int) := by rw [IntKind.wrap_i64]; omega
        obtain ⟨dq, hdq⟩ : ∃ dq, (-9223372036854775808 + (z : Int)).tdiv 10 = dq := ⟨_, rfl⟩
        have hdb : dq = -((9223372036854775808 - (z : Int)) / 10) := by
          have hneg : -9223372036854775808 + (z : Int) = -(9223372036854775808 - (z : Int)) := by omega
          rw [hneg, Int.neg_tdiv, Int.tdiv_eq_ediv_of_nonneg (by omega)] at hdq
          omega
        have e5 : IntKind.i64.wrap dq = dq := by rw [IntKind.wrap_i64]; omega
        by_cases hov : 9223372036854775808 < p * 10 + z
        · have e6 : (-(p : Int)) < dq := by omega
          have z1 := decide_eq_false e3
          have z2 := decide_eq_true e6
          have HNO2 := Lib.hid (HNO.out (by omega))
          clear hz hp hsu dg1 dg2 hdb
          go_wp2_with fail
          go_ret2
          exact ⟨by rw [HNO2.out.1, HNO2.out.2]; first | rfl | simp, by first | exact hE | trivial⟩
        · have e6 : ¬ (-(p : Int)) < dq := by omega
          have e7 : IntKind.i64.wrap (-(p : Int) * 10) = -(p : Int) * 10 := by rw [IntKind.wrap_i64]; omega
          have e8 : IntKind.i64.wrap (-(p : Int) * 10 - (z : Int)) = -(p : Int) * 10 - (z : Int) := by rw [IntKind.wrap_i64]; omega
          have z1 := decide_eq_false e3
          have z2 := decide_eq_false e6
          have e10 : p * 10 + z ≤ 9223372036854775808 := by omega
          clear hz hp hsu dg1 dg2 hdb
          have e9 : IntKind.i64.wrap ((i : Int) + 1) = (i : Int) + 1 := by rw [IntKind.wrap_i64]; omega
          go_wp2_with fail
          go_roundw
          case rel => exact ⟨i + 1, by omega, by omega, by go_num, by rw [HSU.out]; congr 1; omega, by rw [HSU.out]; exact e10, by first | exact hE | trivial⟩
          case measure => simp [intOf]; omega
      · obtain rfl : i = s.size := by omega
        rw [HT.out.all] at hpb ⊢
        have HEND2 := Lib.hid (HEND.out hpb)
        first
          | (have HEE := HEND2.out.1
             have HE2 := HEND2.out.2
             have HX := Lib.hid HEE; have HX2 := Lib.hid HE2
             clear HEE HE2 HEND2 HEND
             go_wp2_with fail
             go_ret2
             exact ⟨by rw [HX.out, HX2.out]; first | rfl | simp, by first | exact hE | trivial⟩)
          | (by_cases hm : u = 9223372036854775808
             · have HX := HEND2.out
               rw [if_pos hm] at HX
               have HX := Lib.hid HX
               subst hm
               clear HEND2 HEND
               go_wp2_with fail
               go_ret2
               exact ⟨by rw [HX.out.1, HX.out.2]; first | rfl | simp, by first | exact hE | trivial⟩
             · have HX := HEND2.out
               rw [if_neg hm] at HX
               have HX := Lib.hid HX
               have e1 : ((-(u : Int)) == -9223372036854775808) = false := by rw [beq_eq_false_iff_ne]; omega
               have e2 : IntKind.i64.wrap (0 - -(u : Int)) = (u : Int) := by rw [IntKind.wrap_i64]; omega
               clear HEND2 HEND
               go_wp2_with fail
               go_ret2
               exact ⟨by rw [HX.out.1, HX.out.2]; first | rfl | simp, by first | exact hE | trivial⟩)
/-- What quick gives. -/
def qkB (n : Int) : Bool := decide (n.natAbs < 1000000000000000000)
def qkV (n : Int) : Int := if n.natAbs < 1000000000000000000 then n else 0
set_option maxRecDepth 100000 in
theorem rQuickG_any (n : Int) (w : World) (hsz : (intB n).size ≤ 1000000) :
    Calls Tryz.prog 102 #[.string (intB n)] w fun e w' => e = .returned (.tuple #[.int .i64 (qkV n), .bool (qkB n)]) ∧ Ext w w' := by
  by_cases h : n.natAbs < 1000000000000000000
  · unfold qkB qkV
    rw [if_pos h, decide_eq_true h]
    exact rQuick_any n w (by omega)
  · have HD := Lib.hid (rDigits_any n w)
    have HV : Hid (qkV n = 0 ∧ qkB n = false) := ⟨by unfold qkV; rw [if_neg h], by unfold qkB; exact decide_eq_false h⟩
    have hs : 18 < (numB n.natAbs).size := by
      rw [numB_size]
      false_or_by_contra
      rename_i hn
      have h1 := Lib.lt_pow_nDigits n.natAbs
      have h2 : 10 ^ Lib.nDigits n.natAbs ≤ 10 ^ 18 := Nat.pow_le_pow_right (by omega) (by omega)
      rw [show (10 : Nat) ^ 18 = 1000000000000000000 by decide] at h2
      omega
    have hz : (18 : Int) < ((numB n.natAbs).size : Int) := by omega
    clear h
    go_enter Tryz.func102, Tryz.ntmps102
    go_wp2_with fail
    refine HD.out.mono ?_
    rintro e w1 ⟨rfl, rfl⟩
    go_wp2_with fail
    go_ret2
    exact ⟨by rw [HV.out.1, HV.out.2]; rfl, Ext.refl _⟩
def sdJ (n : Int) : Int := if n < 0 then -1 else 1
set_option maxRecDepth 100000 in
theorem rSide_any (n : Int) (w : World) :
    Calls Tryz.prog 105 #[.string (intB n)] w fun e w' => e = .returned (.int .i64 (sdJ n)) ∧ w = w' := by
  have HS := Lib.hid (rSign_any n w)
  by_cases h : n < 0
  · have HR : Hid (sdJ n = -1) := by unfold Hid sdJ; rw [if_pos h]
    rw [Int.sign_eq_neg_one_of_neg h] at HS
    clear h
    go_enter Tryz.func105, Tryz.ntmps105
    go_wp2_with fail
    refine HS.out.mono ?_
    rintro e w1 ⟨rfl, rfl⟩
    go_wp2_with fail
    go_ret
    exact ⟨by rw [HR.out]; rfl, rfl⟩
  · have HR : Hid (sdJ n = 1) := by unfold Hid sdJ; rw [if_neg h]
    have h0 : 0 ≤ n.sign := Int.sign_nonneg_iff.2 (by omega)
    obtain ⟨s, hs⟩ : ∃ s, s = n.sign := ⟨_, rfl⟩
    rw [← hs] at HS h0
    have h1 : ¬ s < 0 := by omega
    clear h hs
    go_enter Tryz.func105, Tryz.ntmps105
    go_wp2_with fail
    refine HS.out.mono ?_
    rintro e w1 ⟨rfl, rfl⟩
    go_wp2_with fail
    go_ret
    exact ⟨by rw [HR.out]; rfl, rfl⟩
set_option maxRecDepth 100000 in
set_option maxHeartbeats 400000 in
theorem rNeg_any (n : Int) (w : World) (hsz : (intB n).size ≤ 1000000) :
    Calls Tryz.prog 61 #[.string (intB n)] w fun e w' => e = .returned (.string (intB (-n))) ∧ w = w' := by
  have HS := Lib.hid (rSign_any n w)
  have hp0 : 0 < (intB n).size := intB_size_pos n
  by_cases h : n < 0
  · rw [Int.sign_eq_neg_one_of_neg h] at HS
    have HT := Lib.hid (neg_tail n h)
    have hp1 : (1 : Int) ≤ ((intB n).size : Int) := by omega
    have HR : Hid (intB (-n) = numB n.natAbs) := by unfold Hid; rw [intB_pos (-n) (by omega)]; congr 1; omega
    clear h
    go_enter Tryz.func61, Tryz.ntmps61
    go_wp2_with fail
    refine HS.out.mono ?_
    rintro e w1 ⟨rfl, rfl⟩
    go_wp2_with fail
    go_ret
    exact ⟨by rw [HR.out, ← HT.out]; rfl, rfl⟩
  · by_cases h0 : n = 0
    · subst h0
      go_enter Tryz.func61, Tryz.ntmps61
      go_wp2_with fail
      refine HS.out.mono ?_
      rintro e w1 ⟨rfl, rfl⟩
      go_wp2_with fail
      refine (rSign_any 0 w).mono ?_
      rintro e w1 ⟨rfl, rfl⟩
      go_wp2_with fail
      go_ret
      exact ⟨rfl, rfl⟩
    · rw [Int.sign_eq_one_of_pos (by omega)] at HS
      have HR : Hid ((⟨#[45]⟩ : ByteArray) ++ intB n = intB (-n)) := by
        refine catJ_eq ?_
        rw [intB_neg (-n) (by omega), intB_pos n (by omega), show (-n).natAbs = n.toNat by omega]; rfl
      have z1 : ¬ 9223372036854775807 < 1 + (intB n).size := by omega
      clear h h0
      go_enter Tryz.func61, Tryz.ntmps61
      go_wp2_with fail
      refine HS.out.mono ?_
      rintro e w1 ⟨rfl, rfl⟩
      go_wp2_with fail
      refine HS.out.mono ?_
      rintro e w1 ⟨rfl, rfl⟩
      go_wp2_with fail
      go_ret
      exact ⟨by first | (rw [← HR.out]; rfl) | rfl | (rw [HR.out]; rfl), rfl⟩
end Go.Proofs.YtpeinobepiodaaaGreatDoor
/- The reference of chapter 02 at integers of any size: Add, Sub, Mul. -/
namespace Go.Proofs.YtpeinobepiodaaaGreatDoor
set_option linter.unusedVariables false
set_option linter.unusedSimpArgs false
open Go.RowKit

/-- The pieces of a magnitude. -/
theorem rSplitI_any (u : Nat) (w : World) (hs : (numB u).size ≤ 400000) :
    Calls Tryz.prog 103 #[.string (numB u)] w fun e w' => ∃ v l, e = .returned v ∧ Hid (OwnJ w.heap.size w' v l ∧ Can l ∧ lv l = u ∧ l.length ≤ (numB u).size) ∧ Ext w w' := by
  have h := rSplit_any (numB u) w (by rw [numB_data]; exact digits_all _) hs
  rw [numB_data, digits_val] at h
  exact h
theorem nat_size_le (n : Int) : (numB n.natAbs).size ≤ (intB n).size := by
  by_cases h : n < 0
  · rw [intB_size_neg n h]; omega
  · rw [intB_pos n (by omega)]
    have : n.natAbs = n.toNat := by omega
    rw [this]; exact Nat.le_refl _
set_option maxRecDepth 100000 in
set_option maxHeartbeats 4000000 in
theorem rAdd_any (x y : Int) (w : World) (hx : (intB x).size ≤ 15000) (hy : (intB y).size ≤ 15000) (ht : Pow10 w) :
    Calls Tryz.prog 74 #[.string (intB x), .string (intB y)] w fun e w' => e = .returned (.string (intB (x + y))) ∧ Ext w w' := by
  have HT := Lib.hid ht
  have hux := nat_size_le x
  have huy := nat_size_le y
  have H1 := Lib.hid (rQuickG_any x w (by omega))
  have H2 : Hid (∀ W, Calls Tryz.prog 102 #[.string (intB y)] W fun e w' => e = .returned (.tuple #[.int .i64 (qkV y), .bool (qkB y)]) ∧ Ext W w') := fun W => rQuickG_any y W (by omega)
  by_cases hsm : x.natAbs < 1000000000000000000 ∧ y.natAbs < 1000000000000000000
  · have b1 : qkB x = true := decide_eq_true hsm.1
    have b2 : qkB y = true := decide_eq_true hsm.2
    have v1 : qkV x = x := if_pos hsm.1
    have v2 : qkV y = y := if_pos hsm.2
    rw [b1, v1] at H1
    rw [b2, v2] at H2
    have H3 : Hid (∀ W, Ext w W → Calls Tryz.prog 71 #[.int .i64 (x + y)] W fun e w' => e = .returned (.string (intB (x + y))) ∧ Ext W w') := fun W hE => rOf_any _ W (by omega) (by omega) (HT.out.ext hE)
    have k1 : -2000000000000000000 < x + y := by omega
    have k2 : x + y < 2000000000000000000 := by omega
    clear b1 b2 v1 v2 hsm ht
    go_enter Tryz.func74, Tryz.ntmps74
    go_wp2_with fail
    refine H1.out.mono ?_
    rintro e w1 ⟨rfl, hE1⟩
    have HE1 := Lib.hid hE1
    clear hE1 H1
    go_wp2_with fail
    refine (H2.out _).mono ?_
    rintro e w2 ⟨rfl, hE2⟩
    have HE2 := Lib.hid (Ext.trans HE1.out hE2)
    clear hE2 H2
    go_wp2_with fail
    refine (H3.out _ HE2.out).mono ?_
    rintro e w3 ⟨rfl, hE3⟩
    have HE3 := Lib.hid (Ext.trans HE2.out hE3)
    clear hE3 H3
    go_wp2_with fail
    go_ret
    exact ⟨rfl, HE3.out⟩
  · have hbb : qkB x = false ∨ (qkB x = true ∧ qkB y = false) := by
      unfold qkB
      by_cases h1 : x.natAbs < 1000000000000000000
      · exact .inr ⟨decide_eq_true h1, decide_eq_false (fun h2 => hsm ⟨h1, h2⟩)⟩
      · exact .inl (decide_eq_false h1)
    obtain ⟨vx, hvx⟩ : ∃ v, v = qkV x := ⟨_, rfl⟩
    obtain ⟨vy, hvy⟩ : ∃ v, v = qkV y := ⟨_, rfl⟩
    rw [← hvx] at H1
    rw [← hvy] at H2
    have HDX : Hid (∀ W, Calls Tryz.prog 104 #[.string (intB x)] W fun e w' => e = .returned (.string (numB x.natAbs)) ∧ W = w') := fun W => rDigits_any x W
    have HDY : Hid (∀ W, Calls Tryz.prog 104 #[.string (intB y)] W fun e w' => e = .returned (.string (numB y.natAbs)) ∧ W = w') := fun W => rDigits_any y W
    obtain ⟨s1, hs1⟩ : ∃ s, s = sdJ x := ⟨_, rfl⟩
    obtain ⟨s2, hs2⟩ : ∃ s, s = sdJ y := ⟨_, rfl⟩
    have HSX : Hid (∀ W, Calls Tryz.prog 105 #[.string (intB x)] W fun e w' => e = .returned (.int .i64 s1) ∧ W = w') := fun W => by rw [hs1]; exact rSide_any x W
    have HSY : Hid (∀ W, Calls Tryz.prog 105 #[.string (intB y)] W fun e w' => e = .returned (.int .i64 s2) ∧ W = w') := fun W => by rw [hs2]; exact rSide_any y W
    have HF1 : Hid (s1 = s2 → sgJ (decide (s1 < 0)) (x.natAbs + y.natAbs) = x + y) := by
      intro e
      rw [hs1, hs2] at e
      rw [hs1]
      unfold sdJ at e ⊢
      unfold sgJ
      by_cases h1 : x < 0 <;> by_cases h2 : y < 0 <;> simp [h1, h2] at e ⊢ <;> omega
    have HF2 : Hid (s1 ≠ s2 → y.natAbs ≤ x.natAbs → sgJ (decide (s1 < 0)) (x.natAbs - y.natAbs) = x + y) := by
      intro e
      rw [hs1, hs2] at e
      rw [hs1]
      unfold sdJ at e ⊢
      unfold sgJ
      by_cases h1 : x < 0 <;> by_cases h2 : y < 0 <;> simp [h1, h2] at e ⊢ <;> omega
    have HF3 : Hid (s1 ≠ s2 → x.natAbs ≤ y.natAbs → sgJ (decide (s2 < 0)) (y.natAbs - x.natAbs) = x + y) := by
      intro e
      rw [hs1, hs2] at e
      rw [hs2]
      unfold sdJ at e ⊢
      unfold sgJ
      by_cases h1 : x < 0 <;> by_cases h2 : y < 0 <;> simp [h1, h2] at e ⊢ <;> omega
    clear hsm ht hvx hvy hs1 hs2
    rcases hbb with hb | ⟨hb, hb2⟩
    case' inl =>
      rw [hb] at H1
      obtain ⟨by', hby⟩ : ∃ b, b = qkB y := ⟨_, rfl⟩
      rw [← hby] at H2
      clear hb hby
    case' inr =>
      rw [hb] at H1
      rw [hb2] at H2
      clear hb hb2
    all_goals
      go_enter Tryz.func74, Tryz.ntmps74
      go_wp2_with fail
      refine H1.out.mono ?_
      rintro e w1 ⟨rfl, hE1⟩
      have HE1 := Lib.hid hE1
      clear hE1 H1
      go_wp2_with fail
      refine (H2.out _).mono ?_
      rintro e w2 ⟨rfl, hE2⟩
      have HE2 := Lib.hid (Ext.trans HE1.out hE2)
      clear hE2 H2
      go_wp2_with fail
      refine (HDX.out _).mono ?_
      rintro e w3 ⟨rfl, rfl⟩
      go_wp2_with fail
      refine (rSplitI_any _ _ (by omega)).mono ?_
      rintro e w3 ⟨r3, l3, rfl, hr3, hE3⟩
      have HR3 := Lib.hid hr3
      have HE3 := Lib.hid (Ext.trans HE2.out hE3)
      clear hr3 hE3
      go_wp2_with fail
      refine (HDY.out _).mono ?_
      rintro e w4 ⟨rfl, rfl⟩
      go_wp2_with fail
      refine (rSplitI_any _ _ (by omega)).mono ?_
      rintro e w4 ⟨r4, l4, rfl, hr4, hE4⟩
      have HR4 := Lib.hid hr4
      have HE4 := Lib.hid (Ext.trans HE3.out hE4)
      have HA3 := Lib.hid ((HR3.out.out.1.at).ext hE4)
      have hl3 : l3.length ≤ 15000 := by have := HR3.out.out.2.2.2; omega
      have hl4 : l4.length ≤ 15000 := by have := HR4.out.out.2.2.2; omega
      clear hr4 hE4
      go_wp2_with fail
      refine (HSX.out _).mono ?_
      rintro e w5 ⟨rfl, rfl⟩
      go_wp2_with fail
      refine (HSY.out _).mono ?_
      rintro e w5 ⟨rfl, rfl⟩
      by_cases hss : s1 = s2
      · have q1 : (s1 == s2) = true := by rw [hss]; exact beq_self_eq_true _
        have HR := Lib.hid (HF1.out hss)
        clear hss HF1 HF2 HF3
        go_wp2_with fail
        refine (HSX.out _).mono ?_
        rintro e w5 ⟨rfl, rfl⟩
        go_wp2_with fail
        refine (rPlus_any l3 l4 _ _ _ HA3.out HR4.out.out.1.at HR3.out.out.2.1.1 HR4.out.out.2.1.1 (by omega) (by omega)).mono ?_
        rintro e w5 ⟨r5, l5, rfl, hr5, hE5⟩
        have HE5 := Lib.hid (Ext.trans HE4.out hE5)
        have HSG := Lib.hid (rSigned_any _ (decide (s1 < 0)) l5 r5 w5 hr5.out.1 hr5.out.2.1 (by have := hr5.out.2.2.2; omega) (HT.out.ext HE5.out))
        rw [hr5.out.2.2.1, HR3.out.out.2.2.1, HR4.out.out.2.2.1, HR.out] at HSG
        clear hr5 hE5
        go_wp2_with fail
        refine HSG.out.mono ?_
        rintro e w6 ⟨rfl, hE6⟩
        have HE6 := Lib.hid (Ext.trans HE5.out hE6)
        clear hE6
        go_wp2_with fail
        go_ret
        exact ⟨rfl, HE6.out⟩
      · have q1 : (s1 == s2) = false := by rw [beq_eq_false_iff_ne]; exact hss
        have HR2 := Lib.hid (HF2.out hss)
        have HR3' := Lib.hid (HF3.out hss)
        clear hss HF1 HF2 HF3
        go_wp2_with fail
        refine (rOrder_any l3 l4 _ _ _ HA3.out HR4.out.out.1.at HR3.out.out.2.1 HR4.out.out.2.1 (by omega) (by omega)).mono ?_
        rintro e w5 ⟨rfl, hE5⟩
        have HE5 := Lib.hid (Ext.trans HE4.out hE5)
        have HX5 := Lib.hid hE5
        rw [HR3.out.out.2.2.1, HR4.out.out.2.2.1]
        clear hE5
        by_cases hle : y.natAbs ≤ x.natAbs
        · have hc : 0 ≤ cmpN x.natAbs y.natAbs := by
            unfold cmpN; rw [if_neg (by omega)]; split <;> omega
          have HR := Lib.hid (HR2.out hle)
          have HLE := Lib.hid hle
          obtain ⟨c, hcc⟩ : ∃ c, c = cmpN x.natAbs y.natAbs := ⟨_, rfl⟩
          rw [← hcc] at hc ⊢
          clear hcc hle
          go_wp2_with fail
          refine (HSX.out _).mono ?_
          rintro e w6 ⟨rfl, rfl⟩
          go_wp2_with fail
          refine (rMinus_any l3 l4 _ _ _ (HA3.out.ext HX5.out) ((HR4.out.out.1.at).ext HX5.out) HR3.out.out.2.1 HR4.out.out.2.1 (by rw [HR3.out.out.2.2.1, HR4.out.out.2.2.1]; exact HLE.out) (by omega)).mono ?_
          rintro e w6 ⟨r6, l6, rfl, hr6, hE6⟩
          have HE6 := Lib.hid (Ext.trans HE5.out hE6)
          have HSG := Lib.hid (rSigned_any _ (decide (s1 < 0)) l6 r6 w6 hr6.out.1 hr6.out.2.1.1 (by have := hr6.out.2.2.2; omega) (HT.out.ext HE6.out))
          rw [hr6.out.2.2.1, HR3.out.out.2.2.1, HR4.out.out.2.2.1, HR.out] at HSG
          clear hr6 hE6
          go_wp2_with fail
          refine HSG.out.mono ?_
          rintro e w7 ⟨rfl, hE7⟩
          have HE7 := Lib.hid (Ext.trans HE6.out hE7)
          clear hE7
          go_wp2_with fail
          go_ret
          exact ⟨rfl, HE7.out⟩
        · have hc : ¬ 0 ≤ cmpN x.natAbs y.natAbs := by rw [cmpN_lt (by omega)]; omega
          have HR := Lib.hid (HR3'.out (by omega))
          have HLE : Hid (x.natAbs ≤ y.natAbs) := by unfold Hid; omega
          obtain ⟨c, hcc⟩ : ∃ c, c = cmpN x.natAbs y.natAbs := ⟨_, rfl⟩
          rw [← hcc] at hc ⊢
          clear hcc hle
          go_wp2_with fail
          refine (HSY.out _).mono ?_
          rintro e w6 ⟨rfl, rfl⟩
          go_wp2_with fail
          refine (rMinus_any l4 l3 _ _ _ ((HR4.out.out.1.at).ext HX5.out) (HA3.out.ext HX5.out) HR4.out.out.2.1 HR3.out.out.2.1 (by rw [HR3.out.out.2.2.1, HR4.out.out.2.2.1]; exact HLE.out) (by omega)).mono ?_
          rintro e w6 ⟨r6, l6, rfl, hr6, hE6⟩
          have HE6 := Lib.hid (Ext.trans HE5.out hE6)
          have HSG := Lib.hid (rSigned_any _ (decide (s2 < 0)) l6 r6 w6 hr6.out.1 hr6.out.2.1.1 (by have := hr6.out.2.2.2; omega) (HT.out.ext HE6.out))
          rw [hr6.out.2.2.1, HR3.out.out.2.2.1, HR4.out.out.2.2.1, HR.out] at HSG
          clear hr6 hE6
          go_wp2_with fail
          refine HSG.out.mono ?_
          rintro e w7 ⟨rfl, hE7⟩
          have HE7 := Lib.hid (Ext.trans HE6.out hE7)
          clear hE7
          go_wp2_with fail
          go_ret
          exact ⟨rfl, HE7.out⟩
set_option maxRecDepth 100000 in
theorem rSub_any (x y : Int) (w : World) (hx : (intB x).size ≤ 15000) (hy : (intB y).size ≤ 14000) (ht : Pow10 w) :
    Calls Tryz.prog 125 #[.string (intB x), .string (intB y)] w fun e w' => e = .returned (.string (intB (x - y))) ∧ Ext w w' := by
  have HN := Lib.hid (rNeg_any y w (by omega))
  have hny : (intB (-y)).size ≤ 15000 := by
    have h1 := intB_size_le (-y)
    have h2 := nat_size_le y
    rw [Int.natAbs_neg] at h1
    omega
  have HA := Lib.hid (rAdd_any x (-y) w hx hny ht)
  rw [← Int.sub_eq_add_neg] at HA
  clear ht
  go_enter Tryz.func125, Tryz.ntmps125
  go_wp2_with fail
  refine HN.out.mono ?_
  rintro e w1 ⟨rfl, rfl⟩
  go_wp2_with fail
  refine HA.out.mono ?_
  rintro e w2 ⟨rfl, hE2⟩
  have HE2 := Lib.hid hE2
  clear hE2
  go_wp2_with fail
  go_ret
  exact ⟨rfl, HE2.out⟩
set_option maxRecDepth 100000 in
set_option maxHeartbeats 4000000 in
theorem rMul_any (x y : Int) (w : World) (hx : (intB x).size ≤ 15000) (hy : (intB y).size ≤ 15000) (ht : Pow10 w) :
    Calls Tryz.prog 75 #[.string (intB x), .string (intB y)] w fun e w' => e = .returned (.string (intB (x * y))) ∧ Ext w w' := by
  have HT := Lib.hid ht
  have hux := nat_size_le x
  have huy := nat_size_le y
  have HDX : Hid (∀ W, Calls Tryz.prog 104 #[.string (intB x)] W fun e w' => e = .returned (.string (numB x.natAbs)) ∧ W = w') := fun W => rDigits_any x W
  have HDY : Hid (∀ W, Calls Tryz.prog 104 #[.string (intB y)] W fun e w' => e = .returned (.string (numB y.natAbs)) ∧ W = w') := fun W => rDigits_any y W
  by_cases hsm : (numB x.natAbs).size + (numB y.natAbs).size ≤ 18
  · have hX := Lib.lt_pow_nDigits x.natAbs
    have hY := Lib.lt_pow_nDigits y.natAbs
    have hsm' := hsm
    rw [numB_size, numB_size] at hsm'
    have hpp : x.natAbs * y.natAbs < 10 ^ 18 := by
      have h1 : x.natAbs * y.natAbs < 10 ^ Lib.nDigits x.natAbs * 10 ^ Lib.nDigits y.natAbs := Nat.mul_lt_mul'' hX hY
      rw [← Nat.pow_add] at h1
      exact Nat.lt_of_lt_of_le h1 (Nat.pow_le_pow_right (by omega) hsm')
    rw [show (10 : Nat) ^ 18 = 1000000000000000000 by decide, ← Int.natAbs_mul] at hpp
    have hx18 : x.natAbs < 1000000000000000000 := by
      have : 10 ^ Lib.nDigits x.natAbs ≤ 10 ^ 18 := Nat.pow_le_pow_right (by omega) (by omega)
      rw [show (10 : Nat) ^ 18 = 1000000000000000000 by decide] at this
      omega
    have hy18 : y.natAbs < 1000000000000000000 := by
      have : 10 ^ Lib.nDigits y.natAbs ≤ 10 ^ 18 := Nat.pow_le_pow_right (by omega) (by omega)
      rw [show (10 : Nat) ^ 18 = 1000000000000000000 by decide] at this
      omega
    have H1 : Hid (∀ W, Calls Tryz.prog 102 #[.string (intB x)] W fun e w' => e = .returned (.tuple #[.int .i64 x, .bool true]) ∧ Ext W w') := fun W => rQuick_any x W (by omega)
    have H2 : Hid (∀ W, Calls Tryz.prog 102 #[.string (intB y)] W fun e w' => e = .returned (.tuple #[.int .i64 y, .bool true]) ∧ Ext W w') := fun W => rQuick_any y W (by omega)
    obtain ⟨z, hz⟩ : ∃ z, x * y = z := ⟨_, rfl⟩
    rw [hz] at hpp ⊢
    have H3 : Hid (∀ W, Ext w W → Calls Tryz.prog 71 #[.int .i64 z] W fun e w' => e = .returned (.string (intB z)) ∧ Ext W w') := fun W hE => rOf_any _ W (by omega) (by omega) (HT.out.ext hE)
    have hsz : ((numB x.natAbs).size : Int) + ((numB y.natAbs).size : Int) ≤ 18 := by omega
    have k1 : -1000000000000000000 < z := by omega
    have k2 : z < 1000000000000000000 := by omega
    have e1 : IntKind.i64.wrap z = z := by rw [IntKind.wrap_i64]; omega
    clear hX hY hsm' hpp hsm
    go_enter Tryz.func75, Tryz.ntmps75
    go_wp2_with fail
    refine (HDX.out _).mono ?_
    rintro e w1 ⟨rfl, rfl⟩
    go_wp2_with fail
    refine (HDY.out _).mono ?_
    rintro e w1 ⟨rfl, rfl⟩
    go_wp2_with fail
    refine (H1.out _).mono ?_
    rintro e w1 ⟨rfl, hE1⟩
    have HE1 := Lib.hid hE1
    clear hE1 H1
    go_wp2_with fail
    refine (H2.out _).mono ?_
    rintro e w2 ⟨rfl, hE2⟩
    have HE2 := Lib.hid (Ext.trans HE1.out hE2)
    clear hE2 H2
    go_wp2_with fail
    refine (H3.out _ HE2.out).mono ?_
    rintro e w3 ⟨rfl, hE3⟩
    have HE3 := Lib.hid (Ext.trans HE2.out hE3)
    clear hE3 H3
    go_wp2_with fail
    go_ret
    exact ⟨rfl, HE3.out⟩
  · have hsz : ¬ ((numB x.natAbs).size : Int) + ((numB y.natAbs).size : Int) ≤ 18 := by omega
    obtain ⟨s1, hs1⟩ : ∃ s, s = sdJ x := ⟨_, rfl⟩
    obtain ⟨s2, hs2⟩ : ∃ s, s = sdJ y := ⟨_, rfl⟩
    have HSX : Hid (∀ W, Calls Tryz.prog 105 #[.string (intB x)] W fun e w' => e = .returned (.int .i64 s1) ∧ W = w') := fun W => by rw [hs1]; exact rSide_any x W
    have HSY : Hid (∀ W, Calls Tryz.prog 105 #[.string (intB y)] W fun e w' => e = .returned (.int .i64 s2) ∧ W = w') := fun W => by rw [hs2]; exact rSide_any y W
    have HF : Hid (sgJ (s1 != s2) (x.natAbs * y.natAbs) = x * y) := by
      unfold Hid
      rw [hs1, hs2]
      unfold sdJ sgJ
      have e : ((x.natAbs * y.natAbs : Nat) : Int) = ((x.natAbs : Int) * (y.natAbs : Int)) := Int.natCast_mul _ _
      by_cases h1 : x < 0 <;> by_cases h2 : y < 0
      · have e1 : x = -(x.natAbs : Int) := by omega
        have e2 : y = -(y.natAbs : Int) := by omega
        simp only [h1, h2, if_true, bne_self_eq_false, Bool.false_eq_true, if_false, e]
        rw (occs := .pos [2]) [e1]
        conv => rhs; rw [e2]
        rw [Int.neg_mul_neg]
      · have e1 : x = -(x.natAbs : Int) := by omega
        have e2 : y = (y.natAbs : Int) := by omega
        have e3 : ((-1 : Int) != 1) = true := by decide
        simp only [h1, h2, if_true, if_false, e, e3]
        rw (occs := .pos [2]) [e1]
        conv => rhs; rw [e2]
        rw [Int.neg_mul]
      · have e1 : x = (x.natAbs : Int) := by omega
        have e2 : y = -(y.natAbs : Int) := by omega
        have e3 : ((1 : Int) != -1) = true := by decide
        simp only [h1, h2, if_true, if_false, e, e3]
        rw (occs := .pos [2]) [e1]
        conv => rhs; rw [e2]
        rw [Int.mul_neg]
      · have e1 : x = (x.natAbs : Int) := by omega
        have e2 : y = (y.natAbs : Int) := by omega
        simp only [h1, h2, if_false, bne_self_eq_false, Bool.false_eq_true, e]
        rw (occs := .pos [2]) [e1]
        conv => rhs; rw [e2]
    clear hsm hs1 hs2
    go_enter Tryz.func75, Tryz.ntmps75
    go_wp2_with fail
    refine (HDX.out _).mono ?_
    rintro e w1 ⟨rfl, rfl⟩
    go_wp2_with fail
    refine (HDY.out _).mono ?_
    rintro e w1 ⟨rfl, rfl⟩
    go_wp2_with fail
    refine (HSX.out _).mono ?_
    rintro e w1 ⟨rfl, rfl⟩
    go_wp2_with fail
    refine (HSY.out _).mono ?_
    rintro e w1 ⟨rfl, rfl⟩
    go_wp2_with fail
    refine (HDX.out _).mono ?_
    rintro e w1 ⟨rfl, rfl⟩
    go_wp2_with fail
    refine (rSplitI_any _ _ (by omega)).mono ?_
    rintro e w3 ⟨r3, l3, rfl, hr3, hE3⟩
    have HR3 := Lib.hid hr3
    have HE3 := Lib.hid hE3
    clear hr3 hE3
    go_wp2_with fail
    refine (HDY.out _).mono ?_
    rintro e w1 ⟨rfl, rfl⟩
    go_wp2_with fail
    refine (rSplitI_any _ _ (by omega)).mono ?_
    rintro e w4 ⟨r4, l4, rfl, hr4, hE4⟩
    have HR4 := Lib.hid hr4
    have HE4 := Lib.hid (Ext.trans HE3.out hE4)
    have HA3 := Lib.hid ((HR3.out.out.1.at).ext hE4)
    have hl3 : l3.length ≤ 15000 := by have := HR3.out.out.2.2.2; omega
    have hl4 : l4.length ≤ 15000 := by have := HR4.out.out.2.2.2; omega
    clear hr4 hE4
    go_wp2_with fail
    refine (rTimes_any l3 l4 _ _ _ HA3.out HR4.out.out.1.at HR3.out.out.2.1.1 HR4.out.out.2.1.1 (by omega) (by omega)).mono ?_
    rintro e w5 ⟨r5, l5, rfl, hr5, hE5⟩
    have HE5 := Lib.hid (Ext.trans HE4.out hE5)
    have HSG := Lib.hid (rSigned_any _ (s1 != s2) l5 r5 w5 hr5.out.1 hr5.out.2.1.1 (by have := hr5.out.2.2.2; omega) (HT.out.ext HE5.out))
    rw [hr5.out.2.2.1, HR3.out.out.2.2.1, HR4.out.out.2.2.1, HF.out] at HSG
    clear hr5 hE5
    go_wp2_with fail
    refine HSG.out.mono ?_
    rintro e w6 ⟨rfl, hE6⟩
    have HE6 := Lib.hid (Ext.trans HE5.out hE6)
    clear hE6
    go_wp2_with fail
    go_ret
    exact ⟨rfl, HE6.out⟩
end Go.Proofs.YtpeinobepiodaaaGreatDoor
