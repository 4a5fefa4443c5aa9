/- Merged: TmpV. -/
import Derived.Test.YtehknemdfbkimaaGreatDoorSAZ
import Derived.Test.YtehknemdfbkimaaGreatDoorSBA
/- Contract of package temperament at a right temperament: Text. Printed by gen/tmpv.py. -/
namespace Go.Proofs.YtehknemdfbkimaaGreatDoor
set_option linter.unusedVariables false
set_option linter.unusedSimpArgs false
open Go.RowKit

/-- Rows as a text. -/
def rowsTx (ket : Bool) : List (List Int) → List UInt8
  | [] => []
  | r :: rs => textS r ket ++ rs.flatMap fun r => 32 :: textS r ket
theorem rowsTx_one (ket : Bool) (r : List Int) : rowsTx ket [r] = textS r ket := by simp [rowsTx]
theorem rowsTx_snoc (ket : Bool) (rs : List (List Int)) (r : List Int) (h : rs ≠ []) : rowsTx ket (rs ++ [r]) = rowsTx ket rs ++ ([32] ++ textS r ket) := by
  cases rs with
  | nil => exact absurd rfl h
  | cons x l => simp [rowsTx, List.flatMap_append]
def noneB : List UInt8 := [110, 111, 110, 101]
def commasB : List UInt8 := [44, 32, 99, 111, 109, 109, 97, 115, 32]
def mappingB : List UInt8 := [44, 32, 109, 97, 112, 112, 105, 110, 103, 32]
def partS (ket : Bool) (rs : List (List Int)) : List UInt8 := if rs = [] then noneB else rowsTx ket rs
/-- A temperament's text. -/
def tempS (P : List Int) (C M : List (List Int)) : List UInt8 := primeS P ++ commasB ++ partS true C ++ mappingB ++ partS false M
def outT (P : List Int) (C M : List (List Int)) : Nat → List UInt8
  | 0 => primeS P
  | 1 => primeS P ++ commasB ++ partS true C
  | _ => tempS P C M
theorem rowS_len {xs : List Int} (h : okRow xs) : (rowS xs).length ≤ 768 := by
  unfold rowS
  have := join_len 11 [32] (xs.map Lib.itoa) (by
    intro x hx
    obtain ⟨n, hn, rfl⟩ := List.mem_map.1 hx
    have := h.2 n hn
    exact (itoa_len n this.1 this.2).2)
  have h1 := h.1
  simp only [List.length_map, List.length_cons, List.length_nil] at this
  omega
theorem textS_len {xs : List Int} (h : okRow xs) (ket : Bool) : (textS xs ket).length ≤ 770 := by
  have := rowS_len h
  unfold textS
  split <;> simp <;> omega
theorem rowsTx_len (ket : Bool) (rs : List (List Int)) (h : ∀ r ∈ rs, okRow r) : (rowsTx ket rs).length ≤ 771 * rs.length := by
  cases rs with
  | nil => simp [rowsTx]
  | cons r rs =>
    have key : ∀ l : List (List Int), (∀ r ∈ l, okRow r) → (l.flatMap fun r => 32 :: textS r ket).length ≤ 771 * l.length := by
      intro l
      induction l with
      | nil => intro _; simp
      | cons x l ih =>
        intro hl
        have h1 := textS_len (hl x (by simp)) ket
        have h2 := ih fun y hy => hl y (by simp [hy])
        simp only [List.flatMap_cons, List.length_append, List.length_cons]
        omega
    have h1 := textS_len (h r (by simp)) ket
    have h2 := key rs fun y hy => h y (by simp [hy])
    simp only [rowsTx, List.length_append, List.length_cons]
    omega
theorem primeS_len {xs : List Int} (h : ∀ x ∈ xs, -1000000000 ≤ x ∧ x ≤ 1000000000) : (primeS xs).length ≤ 12 * xs.length := by
  unfold primeS
  have := join_len 11 [46] (xs.map Lib.itoa) (by
    intro x hx
    obtain ⟨n, hn, rfl⟩ := List.mem_map.1 hx
    have := h n hn
    exact (itoa_len n this.1 this.2).2)
  simp only [List.length_map, List.length_cons, List.length_nil] at this
  omega
theorem partS_len (ket : Bool) (rs : List (List Int)) (h : ∀ r ∈ rs, okRow r) (h4 : rs.length ≤ 6) : (partS ket rs).length ≤ 6000 := by
  unfold partS
  split
  · decide
  · have := rowsTx_len ket rs h; omega
theorem TBy.lt {b B : Nat} {L : List UInt8} {w : World} (h : TBy b L B w) : b < w.heap.size := by
  rcases h with h | h
  · exact h.lt
  · exact h.lt
theorem TBy.new (w : World) : ∃ W, w.alloc (.cells #[.pointer none, .slice none 0 0] 138) = W ∧ Ext w W ∧ TBy w.heap.size [] w.heap.size W := ⟨_, rfl, Ext.alloc _ _, Lib.fresh_isBuilder _ _ _⟩
theorem pr_block {w : World} {B : Nat} {x y : Value} (h : w.heap[B]? = some (.cells #[x, y] 143 (0, 0))) : w.cell? ⟨B, 0, none⟩ = some x ∧ w.cell? ⟨B, 1, none⟩ = some y ∧ ∀ i, w.frozen? ⟨B, i, none⟩ = false := by
  have c0 := block_cell h 0; have c1 := block_cell h 1
  simp only [List.getElem?_toArray, List.getElem?_cons_zero, List.getElem?_cons_succ] at c0 c1
  exact ⟨c0, c1, fun i => block_free h i⟩
theorem pr_store {w : World} {B : Nat} {x y : Value} (h : w.heap[B]? = some (.cells #[x, y] 143 (0, 0))) (a b : Value) : ((w.setCell ⟨B, 0, none⟩ a).setCell ⟨B, 1, none⟩ b).heap[B]? = some (.cells #[a, b] 143 (0, 0)) := by
  have := block_set (block_set h 0 a) 1 b
  simpa using this
theorem pr_new (w : World) (x y : Value) : ∃ W, w.alloc (.cells #[x, y] 143) = W ∧ Ext w W ∧ W.heap[w.heap.size]? = some (.cells #[x, y] 143 (0, 0)) := ⟨_, rfl, Ext.alloc _ _, block_new _ _ _⟩
theorem four_new (w : World) (x y z u : Value) : ∃ W, w.alloc (.cells #[x, y, z, u] 143) = W ∧ Ext w W ∧ W.heap[w.heap.size]? = some (.cells #[x, y, z, u] 143 (0, 0)) := ⟨_, rfl, Ext.alloc _ _, block_new _ _ _⟩

set_option maxRecDepth 100000 in
set_option maxHeartbeats 16000000 in
theorem ttext_any (n F : Nat) (P : List Int) (C M : List (List Int)) (v : Value) (w : World) (hV : TempV w v P C M) (hR : RightT n F P C M) (hb : ∀ x ∈ P, -1000000000 ≤ x ∧ x ≤ 1000000000) (hlib : LibT w) (hp : 0 < w.heap.size) :
    Calls Tryz.prog 40 #[v] w fun e w' => e = .returned (.tuple #[.string ⟨(tempS P C M).toArray⟩, .int .i64 0]) ∧ Ext w w' := by
  have HCK := Lib.hid (fun W (hW : Ext w W) => tcheck_any n F P C M v W (hV.ext hW) hR (hlib.ext hW) (Nat.lt_of_lt_of_le hp hW.size))
  have hn4 := hR.n4; have hlC := hR.lC; have hlM := hR.lM; have hpl := hR.pl
  have HOC : Hid (∀ r ∈ C, okRow r) := fun r hr => ⟨by have := (hR.bC r hr).2; omega, fun x hx => by have := (hR.bC r hr).1 x hx; omega⟩
  have HOM : Hid (∀ r ∈ M, okRow r) := fun r hr => ⟨by have := (hR.bM r hr).2; omega, fun x hx => by have := (hR.bM r hr).1 x hx; omega⟩
  have HPL : Hid ((primeS P).length ≤ 72) := by unfold Hid; have := primeS_len hb; omega
  have HT := Lib.hid hlib.pow
  obtain ⟨vp, vc, vm, rfl, hvp, hvc, hvm⟩ := hV
  have HPT := Lib.hid (fun W (hW : Ext w W) => primeText_any P vp W (hvp.ext hW) (hlib.pow.ext hW) hR.pr hb (by omega))
  obtain ⟨ap, cp, rfl, -⟩ := hvp.open
  obtain ⟨ac, cc, rfl, -, c2, -, mc⟩ := inCell.open hvc
  obtain ⟨am, cm, rfl, -, m2, -, mm⟩ := inCell.open hvm
  have HCC := Lib.hid mc; have HMC := Lib.hid mm
  unfold maxLen at c2 m2
  clear hvp hvc hvm hR hlib hp hb mc mm hpl
  go_enter Tryz.func40, Tryz.ntmps40
  obtain ⟨W1, hW1, hE1, hs1, hb1⟩ := tp_new w (.slice ap P.length cp) (.slice ac C.length cc) (.slice am M.length cm)
  have HB1 := Lib.hid hb1; have HE1 := Lib.hid hE1
  obtain ⟨b0, b1, b2, -⟩ := tp_block hb1
  clear hE1 hs1 hb1
  go_wp2_with fail
  refine (HCK.out _ HE1.out).mono ?_
  rintro e w2 ⟨rfl, hE2⟩
  have HB2 := Lib.hid (block_ext HB1.out hE2)
  have HE2 := Lib.hid (HE1.out.trans hE2)
  obtain ⟨c0, c1, c2', -⟩ := tp_block HB2.out
  clear hE2 HCK HB1 HE1 b0 b1 b2 hW1
  go_wp2_with fail
  refine (HPT.out _ HE2.out).mono ?_
  rintro e w3 ⟨rfl, hE3⟩
  have HB3 := Lib.hid (block_ext HB2.out hE3)
  have HE3 := Lib.hid (HE2.out.trans hE3)
  clear hE3 HPT HB2 HE2 c0 c1 c2'
  obtain ⟨W4, hW4, hE4, hT4⟩ := TBy.new w3
  have HB4 := Lib.hid (block_ext HB3.out hE4)
  have HE4 := Lib.hid (HE3.out.trans hE4)
  obtain ⟨b, hbe⟩ : ∃ b, w3.heap.size = b := ⟨_, rfl⟩
  rw [hbe] at hT4
  have hwb : w.heap.size ≤ b := by rw [← hbe]; exact HE3.out.size
  have HT4 := Lib.hid hT4
  clear hT4 hE4 HB3 HE3
  go_wp2_with fail
  try rw [hbe]
  refine (writeS_any b b [] (primeS P) W4 HT4.out (by have := HPL.out; simp; omega) (Nat.le_of_lt HT4.out.lt)).mono ?_
  rintro e w5 ⟨v5, rfl, ht5, hbl5, hk5⟩
  rw [List.nil_append] at ht5
  have HT5 := Lib.hid ht5
  have HE5 : Hid (Ext w w5) := Below.trans HE4.out (hbl5.mono hwb)
  have HB5 : Hid (w5.heap[w.heap.size]? = some (.cells #[.slice ap P.length cp, .slice ac C.length cc, .slice am M.length cm] 65 (0, 0))) := hk5 _ _ _ _ HB4.out (by decide) (by decide)
  clear ht5 hbl5 hk5 HB4 HE4 HT4 hW4 hbe
  obtain ⟨c0, c1, c2', -⟩ := tp_block HB5.out
  obtain ⟨W6, hW6, hE6, hb6⟩ := four_new w5 (.string ⟨#[44, 32, 99, 111, 109, 109, 97, 115, 32]⟩) (.slice ac C.length cc) (.string ⟨#[44, 32, 109, 97, 112, 112, 105, 110, 103, 32]⟩) (.slice am M.length cm)
  have HP6 := Lib.hid hb6
  have HE6 := Lib.hid (HE5.out.trans hE6)
  have HT6 := Lib.hid (HT5.out.ext hE6)
  clear hb6 hE6 HB5
  go_wp2_with fail
  clear HE5 HT5 c0 c1 c2'
  obtain ⟨q, hq⟩ : ∃ q, w5.heap.size = q := ⟨_, rfl⟩
  rw [hq] at HP6
  try rw [hq]
  clear hW6 hq
  go_loopw [40] (fun t wr => ∃ i : Nat, i ≤ 2 ∧ t = .int .i64 i ∧ Hid (Ext w wr) ∧ Hid (KeepsT W6 wr) ∧ Hid (TBy b (outT P C M i) b wr)) (fun t _ => 2 - (intOf t).toNat)
  case atStart => exact ⟨0, by omega, rfl, HE6.out, KeepsT.refl _, HT6.out⟩
  case round =>
    obtain ⟨i, hi, rfl, HE, HK, HTB⟩ := hrel
    obtain ⟨wo, rfl⟩ : ∃ wo : World, wo = wr := ⟨_, rfl⟩
    have HPB : Hid (wo.heap[q]? = some (.cells #[.string ⟨#[44, 32, 99, 111, 109, 109, 97, 115, 32]⟩, .slice ac C.length cc, .string ⟨#[44, 32, 109, 97, 112, 112, 105, 110, 103, 32]⟩, .slice am M.length cm] 143 (0, 0))) := HK.out _ _ _ _ HP6.out (by decide) (by decide)
    have hi3 : i = 0 ∨ i = 1 ∨ i = 2 := by omega
    rcases hi3 with rfl | rfl | rfl
    · have g0 : wo.cell? ⟨q, 0, none⟩ = some (.string ⟨#[44, 32, 99, 111, 109, 109, 97, 115, 32]⟩) := by rw [Lib.cell_of_heap HPB.out]; rfl
      have g1 : wo.cell? ⟨q, 1, none⟩ = some (.slice ac C.length cc) := by rw [Lib.cell_of_heap HPB.out]; rfl
      have HTB0 : Hid (TBy b (primeS P) b wo) := HTB.out
      have HLL : Hid ((primeS P).length ≤ 72) := by
        unfold Hid
        have h1 := HPL.out
        exact h1
      obtain ⟨V1, hV1, hX1, hb1⟩ := pr_new wo (.string ⟨#[]⟩) (.slice none 0 0)
      obtain ⟨r0, r1, rf⟩ := pr_block hb1
      have f0 := rf 0; have f1 := rf 1
      have HB2 := Lib.hid (pr_store hb1 (.string ⟨#[44, 32, 99, 111, 109, 109, 97, 115, 32]⟩) (.slice ac C.length cc))
      have HXU := Lib.hid (ext_lat hX1 (Nat.le_refl _) (.string ⟨#[44, 32, 99, 111, 109, 109, 97, 115, 32]⟩) (.slice ac C.length cc))
      clear hX1 hb1 rf
      obtain ⟨U1, hU1⟩ : ∃ U1, (V1.setCell ⟨wo.heap.size, 0, none⟩ (.string ⟨#[44, 32, 99, 111, 109, 109, 97, 115, 32]⟩)).setCell ⟨wo.heap.size, 1, none⟩ (.slice ac C.length cc) = U1 := ⟨_, rfl⟩
      rw [hU1] at HB2 HXU
      obtain ⟨s0, s1, -⟩ := pr_block HB2.out
      have HTU := Lib.hid (HTB0.out.ext HXU.out)
      have HEU := Lib.hid (HE.out.trans HXU.out)
      have HKU := Lib.hid (HK.out.trans (KeepsT.ext HXU.out))
      go_wp2_with fail
      clear hU1 hV1 r0 r1 f0 f1 HXU HTB HTB0 g0 g1
      refine (writeS_any b b (primeS P) [44, 32, 99, 111, 109, 109, 97, 115, 32] U1 HTU.out (by have := HLL.out; simp only [List.length_cons, List.length_nil]; omega) (Nat.le_of_lt HTU.out.lt)).mono ?_
      rintro e w5 ⟨v5, rfl, ht5, hbl5, hk5⟩
      obtain ⟨L5, hL5⟩ : ∃ L5, primeS P ++ commasB = L5 := ⟨_, rfl⟩
      have HL5 : Hid (L5.length ≤ 6300) := by
        unfold Hid
        have := HLL.out
        have h3 : commasB.length ≤ 10 := by decide
        rw [← hL5, List.length_append]
        omega
      have HT5 : Hid (TBy b L5 b w5) := by rw [← hL5]; exact ht5
      have HE5 : Hid (Ext w w5) := Below.trans HEU.out (hbl5.mono hwb)
      have HK5 := Lib.hid (HKU.out.trans hk5)
      have HB5 := Lib.hid (hk5 _ _ _ _ HB2.out (by decide) (by decide))
      have HO5 : Hid (outT P C M 1 = L5 ++ partS true C) := by unfold Hid; rw [← hL5]; rfl
      clear ht5 hbl5 hk5 HB2 HKU HEU HTU s0 s1 hL5 HLL
      obtain ⟨s0, s1, -⟩ := pr_block HB5.out
      by_cases h0 : C.length = 0
      · have HR0 : Hid (C = []) := List.eq_nil_of_length_eq_zero h0
        have hz : ((C.length : Int) == 0) = true := by rw [h0]; rfl
        have hz2 : ¬ 0 < C.length := by omega
        have hz3 : ¬ (0 : Int) < (C.length : Int) := by omega
        clear h0
        go_wp2_with fail
        refine (writeS_any b b L5 [110, 111, 110, 101] w5 HT5.out (by have := HL5.out; simp only [List.length_cons, List.length_nil]; omega) (Nat.le_of_lt HT5.out.lt)).mono ?_
        rintro e w6 ⟨v6, rfl, ht6, hbl6, hk6⟩
        have HT6 : Hid (TBy b (outT P C M 1) b w6) := by unfold Hid; rw [HO5.out, HR0.out]; exact ht6
        have HE6 : Hid (Ext w w6) := Below.trans HE5.out (hbl6.mono hwb)
        have HK6 := Lib.hid (HK5.out.trans hk6)
        obtain ⟨t0, t1, -⟩ := pr_block (hk6 _ _ _ _ HB5.out (by decide) (by decide))
        clear ht6 hbl6 hk6 HT5 HE5 HK5 HB5 s0 s1
        go_wp2_with fail
        go_loopw [56] (fun t wr => t = .int .i64 0 ∧ wr = w6) (fun t _ => 0)
        case atStart => exact ⟨rfl, rfl⟩
        case round =>
          obtain ⟨rfl, rfl⟩ := hrel
          go_wp2_with fail
          go_roundw
          case rel => exact ⟨1, by omega, by go_num, HE6.out, HK6.out, HT6.out⟩
          case measure => simp [intOf]
      · have hz : ((C.length : Int) == 0) = false := beq_false_of_ne (by omega)
        go_wp2_with fail
        clear s0 s1 HB5
        go_loopw [56] (fun t wr => ∃ k : Nat, k ≤ C.length ∧ t = .int .i64 k ∧ Hid (Ext w wr) ∧ Hid (KeepsT W6 wr) ∧ Hid (TBy b (L5 ++ rowsTx true (C.take k)) b wr)) (fun t _ => C.length - (intOf t).toNat)
        case atStart => exact ⟨0, by omega, rfl, HE5.out, HK5.out, by unfold Hid; rw [List.take_zero, show rowsTx true [] = [] from rfl, List.append_nil]; exact HT5.out⟩
        case round =>
          obtain ⟨k, hk, rfl, HEk, HKk, HTk⟩ := hrel
          obtain ⟨wi, rfl⟩ : ∃ wi : World, wi = wr := ⟨_, rfl⟩
          by_cases hkn : k < C.length
          · obtain ⟨bm, om, rfl, hbm, hcell⟩ := HCC.out (by intro e; simp [e] at hkn)
            obtain ⟨r, hr⟩ : ∃ r, C[k]? = some r := ⟨C[k], List.getElem?_eq_getElem hkn⟩
            obtain ⟨vr, hvr, hcr⟩ := hcell k r hr
            have g1 := HEk.out.cell hcr
            have hro := HOC.out r (List.mem_of_getElem? hr)
            have hvk := hvr.ext HEk.out
            have htx := rtext_any r true vr wi hvk (HT.out.ext HEk.out)
            rw [if_pos ((rowE_zero r).2 hro), (rowE_zero r).2 hro] at htx
            have HTX := Lib.hid htx
            have HRL := Lib.hid (textS_len hro true)
            have HN : Hid (C.take (k + 1) = C.take k ++ [r]) := by unfold Hid; rw [List.take_add_one, hr]; rfl
            have HTL : Hid ((rowsTx true (C.take k)).length ≤ 6000) := by
              unfold Hid
              have h1 := rowsTx_len true (C.take k) fun x hx => HOC.out x (List.mem_of_mem_take hx)
              rw [List.length_take] at h1
              omega
            have HJL : Hid ((C.take k).length = k) := by unfold Hid; rw [List.length_take]; omega
            obtain ⟨ar, cr, rfl, -⟩ := hvk.open
            clear hcell hvr hcr hr hvk htx hro
            go_wp2_with fail
            refine HTX.out.mono ?_
            rintro e w6 ⟨rfl, hE6⟩
            have HT6 := Lib.hid (HTk.out.ext hE6)
            have HK6 := Lib.hid (HKk.out.trans (KeepsT.ext hE6))
            have HE6 := Lib.hid (HEk.out.trans hE6)
            clear hE6 HTX HTk HKk HEk g1
            by_cases hk0 : k = 0
            · subst hk0
              go_wp2_with fail
              refine (writeS_any b b _ (textS r true) w6 HT6.out (by have h1 := HL5.out; have h2 := HTL.out; have h3 := HRL.out; rw [List.length_append]; omega) (Nat.le_of_lt HT6.out.lt)).mono ?_
              rintro e w7 ⟨v7, rfl, ht7, hbl7, hk7⟩
              have HT7 : Hid (TBy b (L5 ++ rowsTx true (C.take (0 + 1))) b w7) := by
                unfold Hid
                rw [HN.out, List.take_zero, List.nil_append, rowsTx_one]
                rw [List.take_zero, show rowsTx true [] = [] from rfl, List.append_nil] at ht7
                exact ht7
              have HE7 : Hid (Ext w w7) := Below.trans HE6.out (hbl7.mono hwb)
              have HK7 := Lib.hid (HK6.out.trans hk7)
              clear ht7 hbl7 hk7 HT6 HE6 HK6
              go_wp2_with fail
              go_roundw
              case rel => exact ⟨1, by omega, by go_num, HE7.out, HK7.out, HT7.out⟩
              case measure => simp [intOf]; omega
            · have hk1 : 0 < k := by omega
              go_wp2_with fail
              refine (writeB_any b b _ w6 HT6.out (by have h1 := HL5.out; have h2 := HTL.out; rw [List.length_append]; omega) (Nat.le_of_lt HT6.out.lt)).mono ?_
              rintro e w7 ⟨rfl, ht7, hbl7, hk7⟩
              have HT7 := Lib.hid ht7
              have HE7 : Hid (Ext w w7) := Below.trans HE6.out (hbl7.mono hwb)
              have HK7 := Lib.hid (HK6.out.trans hk7)
              clear ht7 hbl7 hk7 HT6 HE6 HK6
              go_wp2_with fail
              refine (writeS_any b b _ (textS r true) w7 HT7.out (by have h1 := HL5.out; have h2 := HTL.out; have h3 := HRL.out; simp only [List.length_append, List.length_cons, List.length_nil]; omega) (Nat.le_of_lt HT7.out.lt)).mono ?_
              rintro e w8 ⟨v8, rfl, ht8, hbl8, hk8⟩
              have HT8 : Hid (TBy b (L5 ++ rowsTx true (C.take (k + 1))) b w8) := by
                unfold Hid
                rw [HN.out, rowsTx_snoc _ _ _ (by intro e; have := HJL.out; rw [e] at this; simp at this; omega)]
                simpa only [List.append_assoc] using ht8
              have HE8 : Hid (Ext w w8) := Below.trans HE7.out (hbl8.mono hwb)
              have HK8 := Lib.hid (HK7.out.trans hk8)
              clear ht8 hbl8 hk8 HT7 HE7 HK7
              go_wp2_with fail
              go_roundw
              case rel => exact ⟨k + 1, by omega, by go_num, HE8.out, HK8.out, HT8.out⟩
              case measure => simp [intOf]; omega
          · obtain rfl : k = C.length := by omega
            have HT6 : Hid (TBy b (outT P C M 1) b wi) := by
              unfold Hid
              rw [HO5.out]
              have h1 := HTk.out
              rw [List.take_length] at h1
              unfold partS
              rw [if_neg (by intro e; rw [e] at h0; exact h0 rfl)]
              exact h1
            go_wp2_with fail
            go_roundw
            case rel => exact ⟨1, by omega, by go_num, HEk.out, HKk.out, HT6.out⟩
            case measure => simp [intOf]
    · have g0 : wo.cell? ⟨q, 2, none⟩ = some (.string ⟨#[44, 32, 109, 97, 112, 112, 105, 110, 103, 32]⟩) := by rw [Lib.cell_of_heap HPB.out]; rfl
      have g1 : wo.cell? ⟨q, 3, none⟩ = some (.slice am M.length cm) := by rw [Lib.cell_of_heap HPB.out]; rfl
      have HTB0 : Hid (TBy b (primeS P ++ commasB ++ partS true C) b wo) := HTB.out
      have HLL : Hid ((primeS P ++ commasB ++ partS true C).length ≤ 6200) := by
        unfold Hid
        have h1 := HPL.out
        have h2 := partS_len true C HOC.out hlC
        have h3 : commasB.length = 9 := rfl
        simp only [List.length_append]
        omega
      obtain ⟨V1, hV1, hX1, hb1⟩ := pr_new wo (.string ⟨#[]⟩) (.slice none 0 0)
      obtain ⟨r0, r1, rf⟩ := pr_block hb1
      have f0 := rf 0; have f1 := rf 1
      have HB2 := Lib.hid (pr_store hb1 (.string ⟨#[44, 32, 109, 97, 112, 112, 105, 110, 103, 32]⟩) (.slice am M.length cm))
      have HXU := Lib.hid (ext_lat hX1 (Nat.le_refl _) (.string ⟨#[44, 32, 109, 97, 112, 112, 105, 110, 103, 32]⟩) (.slice am M.length cm))
      clear hX1 hb1 rf
      obtain ⟨U1, hU1⟩ : ∃ U1, (V1.setCell ⟨wo.heap.size, 0, none⟩ (.string ⟨#[44, 32, 109, 97, 112, 112, 105, 110, 103, 32]⟩)).setCell ⟨wo.heap.size, 1, none⟩ (.slice am M.length cm) = U1 := ⟨_, rfl⟩
      rw [hU1] at HB2 HXU
      obtain ⟨s0, s1, -⟩ := pr_block HB2.out
      have HTU := Lib.hid (HTB0.out.ext HXU.out)
      have HEU := Lib.hid (HE.out.trans HXU.out)
      have HKU := Lib.hid (HK.out.trans (KeepsT.ext HXU.out))
      go_wp2_with fail
      clear hU1 hV1 r0 r1 f0 f1 HXU HTB HTB0 g0 g1
      refine (writeS_any b b (primeS P ++ commasB ++ partS true C) [44, 32, 109, 97, 112, 112, 105, 110, 103, 32] U1 HTU.out (by have := HLL.out; simp only [List.length_cons, List.length_nil]; omega) (Nat.le_of_lt HTU.out.lt)).mono ?_
      rintro e w5 ⟨v5, rfl, ht5, hbl5, hk5⟩
      obtain ⟨L5, hL5⟩ : ∃ L5, primeS P ++ commasB ++ partS true C ++ mappingB = L5 := ⟨_, rfl⟩
      have HL5 : Hid (L5.length ≤ 6300) := by
        unfold Hid
        have := HLL.out
        have h3 : mappingB.length ≤ 10 := by decide
        rw [← hL5, List.length_append]
        omega
      have HT5 : Hid (TBy b L5 b w5) := by rw [← hL5]; exact ht5
      have HE5 : Hid (Ext w w5) := Below.trans HEU.out (hbl5.mono hwb)
      have HK5 := Lib.hid (HKU.out.trans hk5)
      have HB5 := Lib.hid (hk5 _ _ _ _ HB2.out (by decide) (by decide))
      have HO5 : Hid (outT P C M 2 = L5 ++ partS false M) := by unfold Hid; rw [← hL5]; rfl
      clear ht5 hbl5 hk5 HB2 HKU HEU HTU s0 s1 hL5 HLL
      obtain ⟨s0, s1, -⟩ := pr_block HB5.out
      by_cases h0 : M.length = 0
      · have HR0 : Hid (M = []) := List.eq_nil_of_length_eq_zero h0
        have hz : ((M.length : Int) == 0) = true := by rw [h0]; rfl
        have hz2 : ¬ 0 < M.length := by omega
        have hz3 : ¬ (0 : Int) < (M.length : Int) := by omega
        clear h0
        go_wp2_with fail
        refine (writeS_any b b L5 [110, 111, 110, 101] w5 HT5.out (by have := HL5.out; simp only [List.length_cons, List.length_nil]; omega) (Nat.le_of_lt HT5.out.lt)).mono ?_
        rintro e w6 ⟨v6, rfl, ht6, hbl6, hk6⟩
        have HT6 : Hid (TBy b (outT P C M 2) b w6) := by unfold Hid; rw [HO5.out, HR0.out]; exact ht6
        have HE6 : Hid (Ext w w6) := Below.trans HE5.out (hbl6.mono hwb)
        have HK6 := Lib.hid (HK5.out.trans hk6)
        obtain ⟨t0, t1, -⟩ := pr_block (hk6 _ _ _ _ HB5.out (by decide) (by decide))
        clear ht6 hbl6 hk6 HT5 HE5 HK5 HB5 s0 s1
        go_wp2_with fail
        go_loopw [56] (fun t wr => t = .int .i64 0 ∧ wr = w6) (fun t _ => 0)
        case atStart => exact ⟨rfl, rfl⟩
        case round =>
          obtain ⟨rfl, rfl⟩ := hrel
          go_wp2_with fail
          go_roundw
          case rel => exact ⟨2, by omega, by go_num, HE6.out, HK6.out, HT6.out⟩
          case measure => simp [intOf]
      · have hz : ((M.length : Int) == 0) = false := beq_false_of_ne (by omega)
        go_wp2_with fail
        clear s0 s1 HB5
        go_loopw [56] (fun t wr => ∃ k : Nat, k ≤ M.length ∧ t = .int .i64 k ∧ Hid (Ext w wr) ∧ Hid (KeepsT W6 wr) ∧ Hid (TBy b (L5 ++ rowsTx false (M.take k)) b wr)) (fun t _ => M.length - (intOf t).toNat)
        case atStart => exact ⟨0, by omega, rfl, HE5.out, HK5.out, by unfold Hid; rw [List.take_zero, show rowsTx false [] = [] from rfl, List.append_nil]; exact HT5.out⟩
        case round =>
          obtain ⟨k, hk, rfl, HEk, HKk, HTk⟩ := hrel
          obtain ⟨wi, rfl⟩ : ∃ wi : World, wi = wr := ⟨_, rfl⟩
          by_cases hkn : k < M.length
          · obtain ⟨bm, om, rfl, hbm, hcell⟩ := HMC.out (by intro e; simp [e] at hkn)
            obtain ⟨r, hr⟩ : ∃ r, M[k]? = some r := ⟨M[k], List.getElem?_eq_getElem hkn⟩
            obtain ⟨vr, hvr, hcr⟩ := hcell k r hr
            have g1 := HEk.out.cell hcr
            have hro := HOM.out r (List.mem_of_getElem? hr)
            have hvk := hvr.ext HEk.out
            have htx := rtext_any r false vr wi hvk (HT.out.ext HEk.out)
            rw [if_pos ((rowE_zero r).2 hro), (rowE_zero r).2 hro] at htx
            have HTX := Lib.hid htx
            have HRL := Lib.hid (textS_len hro false)
            have HN : Hid (M.take (k + 1) = M.take k ++ [r]) := by unfold Hid; rw [List.take_add_one, hr]; rfl
            have HTL : Hid ((rowsTx false (M.take k)).length ≤ 6000) := by
              unfold Hid
              have h1 := rowsTx_len false (M.take k) fun x hx => HOM.out x (List.mem_of_mem_take hx)
              rw [List.length_take] at h1
              omega
            have HJL : Hid ((M.take k).length = k) := by unfold Hid; rw [List.length_take]; omega
            obtain ⟨ar, cr, rfl, -⟩ := hvk.open
            clear hcell hvr hcr hr hvk htx hro
            go_wp2_with fail
            refine HTX.out.mono ?_
            rintro e w6 ⟨rfl, hE6⟩
            have HT6 := Lib.hid (HTk.out.ext hE6)
            have HK6 := Lib.hid (HKk.out.trans (KeepsT.ext hE6))
            have HE6 := Lib.hid (HEk.out.trans hE6)
            clear hE6 HTX HTk HKk HEk g1
            by_cases hk0 : k = 0
            · subst hk0
              go_wp2_with fail
              refine (writeS_any b b _ (textS r false) w6 HT6.out (by have h1 := HL5.out; have h2 := HTL.out; have h3 := HRL.out; rw [List.length_append]; omega) (Nat.le_of_lt HT6.out.lt)).mono ?_
              rintro e w7 ⟨v7, rfl, ht7, hbl7, hk7⟩
              have HT7 : Hid (TBy b (L5 ++ rowsTx false (M.take (0 + 1))) b w7) := by
                unfold Hid
                rw [HN.out, List.take_zero, List.nil_append, rowsTx_one]
                rw [List.take_zero, show rowsTx false [] = [] from rfl, List.append_nil] at ht7
                exact ht7
              have HE7 : Hid (Ext w w7) := Below.trans HE6.out (hbl7.mono hwb)
              have HK7 := Lib.hid (HK6.out.trans hk7)
              clear ht7 hbl7 hk7 HT6 HE6 HK6
              go_wp2_with fail
              go_roundw
              case rel => exact ⟨1, by omega, by go_num, HE7.out, HK7.out, HT7.out⟩
              case measure => simp [intOf]; omega
            · have hk1 : 0 < k := by omega
              go_wp2_with fail
              refine (writeB_any b b _ w6 HT6.out (by have h1 := HL5.out; have h2 := HTL.out; rw [List.length_append]; omega) (Nat.le_of_lt HT6.out.lt)).mono ?_
              rintro e w7 ⟨rfl, ht7, hbl7, hk7⟩
              have HT7 := Lib.hid ht7
              have HE7 : Hid (Ext w w7) := Below.trans HE6.out (hbl7.mono hwb)
              have HK7 := Lib.hid (HK6.out.trans hk7)
              clear ht7 hbl7 hk7 HT6 HE6 HK6
              go_wp2_with fail
              refine (writeS_any b b _ (textS r false) w7 HT7.out (by have h1 := HL5.out; have h2 := HTL.out; have h3 := HRL.out; simp only [List.length_append, List.length_cons, List.length_nil]; omega) (Nat.le_of_lt HT7.out.lt)).mono ?_
              rintro e w8 ⟨v8, rfl, ht8, hbl8, hk8⟩
              have HT8 : Hid (TBy b (L5 ++ rowsTx false (M.take (k + 1))) b w8) := by
                unfold Hid
                rw [HN.out, rowsTx_snoc _ _ _ (by intro e; have := HJL.out; rw [e] at this; simp at this; omega)]
                simpa only [List.append_assoc] using ht8
              have HE8 : Hid (Ext w w8) := Below.trans HE7.out (hbl8.mono hwb)
              have HK8 := Lib.hid (HK7.out.trans hk8)
              clear ht8 hbl8 hk8 HT7 HE7 HK7
              go_wp2_with fail
              go_roundw
              case rel => exact ⟨k + 1, by omega, by go_num, HE8.out, HK8.out, HT8.out⟩
              case measure => simp [intOf]; omega
          · obtain rfl : k = M.length := by omega
            have HT6 : Hid (TBy b (outT P C M 2) b wi) := by
              unfold Hid
              rw [HO5.out]
              have h1 := HTk.out
              rw [List.take_length] at h1
              unfold partS
              rw [if_neg (by intro e; rw [e] at h0; exact h0 rfl)]
              exact h1
            go_wp2_with fail
            go_roundw
            case rel => exact ⟨2, by omega, by go_num, HEk.out, HKk.out, HT6.out⟩
            case measure => simp [intOf]
    · have HT2 : Hid (TBy b (tempS P C M) b wo) := HTB.out
      go_wp2_with fail
      refine (textOf_any b b _ wo HT2.out (Nat.le_of_lt HT2.out.lt)).mono ?_
      rintro e w9 ⟨rfl, hbl9⟩
      have HE9 : Hid (Ext w w9) := Below.trans HE.out (hbl9.mono hwb)
      clear hbl9
      go_wp2_with fail
      go_ret2
      exact ⟨rfl, HE9.out⟩
end Go.Proofs.YtehknemdfbkimaaGreatDoor
