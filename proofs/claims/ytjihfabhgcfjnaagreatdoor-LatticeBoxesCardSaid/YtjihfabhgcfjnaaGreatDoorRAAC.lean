/- Merged: BoxS. -/
import Derived.Test.YtjihfabhgcfjnaaGreatDoorRAAB
import Derived.Test.YtjihfabhgcfjnaaGreatDoorQAQ
import Derived.Test.YtjihfabhgcfjnaaGreatDoorQAN
import Derived.Test.YtjihfabhgcfjnaaGreatDoorQAO
import Derived.Test.YtjihfabhgcfjnaaGreatDoorQAZ
import Derived.Test.YtjihfabhgcfjnaaGreatDoorQAT
import Derived.Test.YtjihfabhgcfjnaaGreatDoorQAJ
/- Contracts: lattice.floor and Lattice.search. Printed by gen/box.py. -/
namespace Go.Proofs.YtjihfabhgcfjnaaGreatDoor
set_option linter.unusedVariables false
set_option linter.unusedSimpArgs false
open Go.RowKit

theorem neg_quo {x y : Int} (hx : x < 0) (hy : 0 < y) : (-x + y - 1).tdiv y = -(x / y) := by
  rw [Int.tdiv_eq_ediv_of_nonneg (by omega)]
  have h1 := Int.emod_add_mul_ediv x y
  have h2 := Int.emod_nonneg x (show y ≠ 0 by omega)
  have h3 := Int.emod_lt_of_pos x hy
  have e : -x + y - 1 = (y - 1 - x % y) + y * (-(x / y)) := by rw [Int.mul_neg]; omega
  rw [e, Int.add_mul_ediv_left _ _ (by omega), Int.ediv_eq_zero_of_lt (by omega) (by omega), Int.zero_add]
set_option maxRecDepth 100000 in
set_option maxHeartbeats 2000000 in
theorem lfloor_any (x y : Int) (w : World) (h : -4000000000000000100 ≤ x ∧ x ≤ 4000000000000000100) (hy : 0 < y) (hy2 : y ≤ 1000000000) :
    Calls Tryz.prog 106 #[.int .i64 x, .int .i64 y] w fun e w' => e = .returned (.int .i64 (x / y)) ∧ w' = w := by
  obtain ⟨h1, h2⟩ := h
  have hy0 : y ≠ 0 := by omega
  by_cases hx : x < 0
  · have e1 := neg_quo hx hy
    have hq : ((-x + y - 1).tdiv y).natAbs ≤ (-x + y - 1).natAbs := by
      rw [Int.natAbs_tdiv]; exact Nat.div_le_self _ _
    have hq2 : -9223372036854775808 < (-x + y - 1).tdiv y ∧ (-x + y - 1).tdiv y ≤ 9223372036854775807 := by omega
    have e2 : -(-x + y - 1).tdiv y = x / y := by rw [e1]; omega
    clear e1 hq
    go_enter Tryz.func106, Tryz.ntmps106
    go_wp2_with fail
    go_ret
    exact ⟨rfl, rfl⟩
  · have e1 : x.tdiv y = x / y := Int.tdiv_eq_ediv_of_nonneg (by omega)
    have hq : (x.tdiv y).natAbs ≤ x.natAbs := by
      rw [Int.natAbs_tdiv]; exact Nat.div_le_self _ _
    have hq2 : -9223372036854775808 < x.tdiv y ∧ x.tdiv y ≤ 9223372036854775807 := by omega
    clear hq
    go_enter Tryz.func106, Tryz.ntmps106
    go_wp2_with fail
    go_ret
    exact ⟨rfl, rfl⟩
theorem search1_any (x : Int) (w : World) : Calls Tryz.prog 105 #[.int .i64 x] w fun e w' => e = .returned (.bool (x != 0)) ∧ w = w' := by
  go_enter Tryz.func105, Tryz.ntmps105
  go_wp2
  go_ret
  exact ⟨rfl, rfl⟩

/-- What search ends in: the rows added, and nothing else of what is safe altered. -/
def SrchR (w0 : World) (g : Nat) (S : Nat → Prop) (W : World) (L : List (List Int)) (e : Ending) (w' : World) : Prop :=
  e = .returned (.tuple #[]) ∧ ∃ (S' : Nat → Prop) (so' : Value), Ext w0 w' ∧ SOk S' w0.heap.size w' ∧ (∀ b, S b → S' b) ∧ w'.heap[g]? = some (.cells #[so'] 28 (0, 0)) ∧ BuildS w' S' w0.heap.size 37 1 so' rowC L ∧ ∀ Pr : World → Prop, SafeS W S Pr → SafeS w' S' Pr
/-- A call of search. -/
def SrchOk (n : Nat) (R : List (List Int)) (ps : Nat → Nat) (M : Int) (w0 : World) (a : Option Addr) (cb g j : Nat) : Prop := ∀ (i : Nat) (s : List Int) (c gs cs : Nat) (S : Nat → Prop) (so : Value) (L : List (List Int)) (W : World), i + j = R.length → s.length = n → c < n → (∀ d, i ≤ d → d < R.length → c ≤ ps d) → OkR M R j i s → (∀ x, (s.getD x 0).natAbs ≤ 4000000000000000000) → (L ++ searchL M n R j i s c).length ≤ 100000 → Ext w0 W → SOk S w0.heap.size W → S g → W.heap[g]? = some (.cells #[so] 28 (0, 0)) → BuildS W S w0.heap.size 37 1 so rowC L → SafeS W S (fun V => RowF V gs s) → n ≤ cs → cs ≤ maxLen →
    Calls Tryz.prog 50 #[.agg #[.int .i64 n, .slice a R.length cb], .slice (some ⟨gs, 0, none⟩) n cs, .int .i64 i, .int .i64 c, .int .i64 M, .pointer (some ⟨g, 0, none⟩)] W (SrchR w0 g S W (L ++ searchL M n R j i s c))
theorem row_safe {W : World} {S : Nat → Prop} {gs cs n : Nat} {s : List Int} (hs : s.length = n) (h : SafeS W S (fun V => RowF V gs s)) (h1 : n ≤ cs) (h2 : cs ≤ maxLen) (hb : ∀ x, (s.getD x 0).natAbs ≤ 4000000000000000000) : SafeS W S fun V => rowC V [.slice (some ⟨gs, 0, none⟩) n cs] s := by
  subst hs
  exact h.mono fun V hV => ⟨_, rfl, hV.ints h1 h2 fun x hx => by
    obtain ⟨i, hi, rfl⟩ := List.mem_iff_getElem.1 hx
    have := hb i
    rw [List.getD_eq_getElem?_getD, List.getElem?_eq_getElem hi] at this
    simp only [Option.getD_some] at this
    omega⟩

set_option maxRecDepth 100000 in
set_option maxHeartbeats 4000000 in
theorem search_zero (n : Nat) (R : List (List Int)) (ps : Nat → Nat) (M : Int) (hM0 : 0 ≤ M) (hM8 : M ≤ 8) (hn1 : 1 ≤ n) (hn : n ≤ 4) (w0 : World) (a : Option Addr) (cb g : Nat) (hR4 : R.length ≤ 4) (hcb : R.length ≤ cb) (hcb2 : cb ≤ maxLen) : SrchOk n R ps M w0 a cb g 0 := by
  unfold maxLen at hcb2
  intro i s c gs cs S so L W hij hs hcn hcp hok hsb hlen hE hOK hSg hG hB hF hcs hcs2
  obtain rfl : i = R.length := by omega
  obtain ⟨W1, hW1, hX1, hsz, hb1⟩ := lat_new W (.int .i64 n) (.slice a R.length cb)
  obtain ⟨r0, r1, -⟩ := lat_block hb1
  have HE1 := Lib.hid (hE.trans hX1); have HOK1 := Lib.hid (hOK.grow hX1.size); have HG1 := Lib.hid (block_ext hG hX1); have HB1 := Lib.hid (hB.ext hX1); have HF1 := Lib.hid (hF.ext hX1); have HSF := Lib.hid (fun Pr (h : SafeS W S Pr) => h.ext hX1)
  have HSG := Lib.hid hSg; have HSB := Lib.hid hsb; have HOKR := Lib.hid hok; have HLN := Lib.hid hlen; have HCP := Lib.hid hcp; have HL1 := Lib.hid hb1
  have hce : c ≤ n := Nat.le_of_lt hcn
  have hen : n ≤ n := Nat.le_refl _
  have HIB := Lib.hid (inB_iff (M := M) (a := c) (b := n) (s := s) (by omega))
  have HNO : Hid (∀ W2, Ext W1 W2 → inB M c n s = false → SrchR w0 g S W (L ++ searchL M n R 0 R.length s c) (.returned (.tuple #[])) W2) := fun W2 hX h => ⟨rfl, S, so, HE1.out.trans hX, HOK1.out.grow hX.size, fun _ h => h, block_ext HG1.out hX, by unfold searchL; rw [if_neg (by rw [h]; decide), List.append_nil]; exact HB1.out.ext hX, fun Pr hp => (HSF.out Pr hp).ext hX⟩
  have HSS := Lib.hid hs
  unfold maxLen at hcs2
  clear hE hX1 hOK hSg hG hB hF hb1 hsz hsb hok hlen hcp
  have HF2 := HF1
  have HXX : Hid (Ext W1 W1) := Ext.refl _
  go_enter Tryz.func50, Tryz.ntmps50
  have e1 : (c : Int) ≤ (n : Int) := by omega
  have e2 : (n : Int) ≤ (cs : Int) := by omega
  have e3 : (c : Int) < (cs : Int) := by omega
  go_wp2_with fail
  go_loopw [37] (fun t wr => ∃ x : Nat, x ≤ n - c ∧ t = .int .i64 x ∧ W1 = wr ∧ Hid (∀ y, c ≤ y → y < c + x → -M ≤ s.getD y 0 ∧ s.getD y 0 ≤ M)) (fun t _ => (n - c) - (intOf t).toNat)
  case atStart => exact ⟨0, by omega, rfl, rfl, fun y h1 h2 => by omega⟩
  case round =>
    obtain ⟨x, hx, rfl, rfl, HA⟩ := hrel
    obtain ⟨wo, rfl⟩ : ∃ wo : World, wo = W1 := ⟨_, rfl⟩
    by_cases hlt : x < n - c
    · obtain ⟨y, hy⟩ : ∃ y, s[c + x]? = some y := ⟨s[c + x]'(by have := HSS.out; omega), List.getElem?_eq_getElem _⟩
      have hyD : s.getD (c + x) 0 = y := by rw [List.getD_eq_getElem?_getD, hy]; rfl
      have g1 := HF2.out.now.cell (c + x) y hy
      have HYD := Lib.hid hyD
      have HNB : Hid (y < -M ∨ M < y → inB M c n s = false) := fun h => by
        cases hc : inB M c n s with
        | false => rfl
        | true => have := HIB.out.1 hc (c + x) (by omega) (by omega); rw [HYD.out] at this; omega
      clear hy hyD
      by_cases hy1 : y < -M
      · go_wp2_with fail
        refine bodyPost_end (results_none rfl _ _ _) rfl (HNO.out _ HXX.out (HNB.out (.inl hy1)))
      · by_cases hy2 : M < y
        · go_wp2_with fail
          refine bodyPost_end (results_none rfl _ _ _) rfl (HNO.out _ HXX.out (HNB.out (.inr hy2)))
        · have HA2 : Hid (∀ z, c ≤ z → z < c + (x + 1) → -M ≤ s.getD z 0 ∧ s.getD z 0 ≤ M) := fun z h1 h2 => by
            by_cases e : z = c + x
            · rw [e, HYD.out]; omega
            · exact HA.out z h1 (by omega)
          go_wp2_with fail
          go_roundw
          case rel => exact ⟨x + 1, by omega, by go_num, (by first | trivial | rfl), HA2.out⟩
          case measure => simp [intOf]; omega
    · have hin : inB M c n s = true := HIB.out.2 fun y h1 h2 => HA.out y h1 (by omega)
      have HIN := Lib.hid hin
      clear hin
      have g1 := block_cell HG1.out 0; have g2 := block_free HG1.out 0
      simp only [List.getElem?_toArray, List.getElem?_cons_zero, List.getElem?_cons_succ] at g1
      have hs1 : w0.heap.size ≤ wo.heap.size := HE1.out.size
      have HRC := Lib.hid (row_safe HSS.out HF1.out hcs (by unfold maxLen; omega) HSB.out)
      have HJ : Hid (L.length < 1000000) := by have := HLN.out; rw [List.length_append] at this; unfold Hid; omega
      go_wp2_with (at_builtin; go_must (refine wpList_append_buildS _ rfl _ _ 28 rfl S w0.heap.size 37 (.slice none 0 0) 1 24 Tryz.underlying28 infoRow rfl (by decide) so rowC L s #[.slice (some ⟨gs, 0, none⟩) n cs] 37 rfl HB1.out _ rfl rfl rfl ?a1 HRC.out HJ.out (by decide) hs1 w0.heap.size (Nat.le_refl _) HOK1.out ?_))
      case a1 => simp [Value.oneCell']
      intro v' w5 S5 hok5 hS1 hS2 hB5 hg5 hb5 hs5 hsafe
      obtain ⟨gv, cv, rfl, -, -, -, -⟩ := hB5.shape (by simp)
      have hne5 := HB1.out.neBlock HG1.out (by decide)
      have hk5 := block_grown HG1.out hg5 hne5
      have g15 := block_cell hk5 0
      have g25 := block_free hk5 0
      simp only [List.getElem?_toArray, List.getElem?_cons_zero, List.getElem?_cons_succ] at g15
      rw [show (L ++ [s]).length = L.length + 1 by simp] at hB5
      have HK5 := Lib.hid hk5; have HX5 := Lib.hid (Below.trans HE1.out hb5); have HOK5 := Lib.hid hok5; have HS5 := Lib.hid hS1; have HB5 := Lib.hid hB5; have HSAFE := Lib.hid hsafe
      clear hok5 hS1 hS2 hB5 hsafe hk5 hg5 hb5 hs5 hne5 g1 g2
      go_wp2_with fail
      refine bodyPost_end (results_none rfl _ _ _) rfl ⟨rfl, S5, _, HX5.out.setCell (p := ⟨g, 0, none⟩) (HOK1.out g HSG.out).1 _, HOK5.out.grow (by simp [World.setCell]), HS5.out, block_set HK5.out 0 _, ?_, fun Pr hp => (HSAFE.out Pr (HSF.out Pr hp)).grow (grownBy_S (grown_setCell _ g 0 _) (fun k hk => by cases hk; exact HS5.out g HSG.out)) (fun k hk => .inl hk)⟩
      unfold searchL
      rw [if_pos HIN.out]
      exact HB5.out.store (HS5.out g HSG.out) (HB5.out.neBlock HK5.out (by decide))

set_option maxRecDepth 100000 in
set_option maxHeartbeats 8000000 in
theorem search_succ (n : Nat) (m R : List (List Int)) (ps : Nat → Nat) (P : PlanF n m R ps) (M : Int) (hM0 : 0 ≤ M) (hM8 : M ≤ 8) (hn1 : 1 ≤ n) (hn : n ≤ 4) (w0 : World) (a : Option Addr) (cb g : Nat) (hR4 : R.length ≤ 4) (hcb : R.length ≤ cb) (hcb2 : cb ≤ maxLen) (hrows : Rows2 w0 (.slice a R.length cb) R) (j : Nat) (IH : SrchOk n R ps M w0 a cb g j) : SrchOk n R ps M w0 a cb g (j + 1) := by
  unfold maxLen at hcb2
  intro i s c gs cs S so L W hij hs hcn hcp hok hsb hlen hE hOK hSg hG hB hF hcs hcs2
  have hi : i < R.length := by omega
  obtain ⟨b, hb⟩ : ∃ b, ps i = b := ⟨_, rfl⟩
  obtain ⟨r, hr⟩ : ∃ r, rowE_ R i = r := ⟨_, rfl⟩
  have hpc : pivC r = b := by rw [← hr, ← hb]; exact hform_pivC P.form hi
  have hpn : b < n := by rw [← hb]; exact P.form.2.lt i hi
  obtain ⟨p, hp⟩ : ∃ p, r.getD b 0 = p := ⟨_, rfl⟩
  obtain ⟨sp, hsp⟩ : ∃ sp, s.getD b 0 = sp := ⟨_, rfl⟩
  have hpos : 0 < p := by rw [← hp, ← hb, ← hr]; exact P.form.2.pos i hi
  have hrl : r.length = n := by rw [← hr]; exact P.form.1 i hi
  have hp6 : p ≤ 629856 := by rw [← hp, ← hr]; have := (P.els _ (rowE_mem hi)).1.getD b; omega
  have hfst : r.findIdx? (· != 0) = some b := by rw [← hr, ← hb]; exact hform_first P.form hi
  have hmono : ∀ d, i + 1 ≤ d → d < R.length → b ≤ ps d := fun d h1 h2 => by rw [← hb]; exact Nat.le_of_lt (P.form.2.mono i d (by omega) h2)
  have hcb0 : c ≤ b := by rw [← hb]; exact hcp i (Nat.le_refl _) hi
  obtain ⟨f, hf⟩ : ∃ f : Int → List (List Int), (fun k => searchL M n R j (i + 1) (lessL (-k) s r) b) = f := ⟨_, rfl⟩
  obtain ⟨N, hN⟩ : ∃ N, ksN M sp p = N := ⟨_, rfl⟩
  obtain ⟨k0, hk0⟩ : ∃ k0, ks0 M sp p = k0 := ⟨_, rfl⟩
  have hsl : searchL M n R (j + 1) i s c = if inB M c b s = true then accL f k0 N else [] := by
    conv => lhs; unfold searchL
    rw [hr, hpc, hsp, hp, accL_all, hk0, hN, hf]
  have hokk : ∀ x : Nat, x < N → (∀ y, ((k0 + (x : Int)) * r.getD y 0).natAbs ≤ 4000000000000000000 ∧ ((lessL (-(k0 + (x : Int))) s r).getD y 0).natAbs ≤ 4000000000000000000) ∧ OkR M R j (i + 1) (lessL (-(k0 + (x : Int))) s r) := fun x hx => by
    unfold OkR at hok
    rw [hr, hpc, hsp, hp] at hok
    exact hok _ (by rw [← hk0]; exact ks_mem hpos (by rw [hN]; exact hx))
  have hspb : sp.natAbs ≤ 4000000000000000000 := by rw [← hsp]; exact hsb b
  have hkb : ∀ x : Nat, x ≤ N → -4000000000000700000 ≤ (k0 + (x : Int)) * p ∧ (k0 + (x : Int)) * p ≤ 4000000000000700000 ∧ (sp + (k0 + (x : Int)) * p ≤ M ↔ x < N) := fun x hx => by
    have h1 := ks_low (M := M) (s := sp) hpos x
    have h2 := ks_high (s := sp) hM0 hpos (a := x) (by rw [hN]; exact hx)
    have h3 := ks_lt (M := M) (s := sp) hpos x
    rw [hk0] at h1 h2 h3
    rw [hN] at h3
    refine ⟨?_, ?_, h3⟩ <;> (obtain ⟨z, hz⟩ : ∃ z, (k0 + (x : Int)) * p = z := ⟨_, rfl⟩; rw [hz] at h1 h2 ⊢; omega)
  have hkk : ∀ x : Nat, x ≤ N → -4000000000000700000 ≤ k0 + (x : Int) ∧ k0 + (x : Int) ≤ 4000000000000700000 := fun x hx => by
    have h1 := hkb x hx
    have h2 : (k0 + (x : Int)).natAbs * 1 ≤ (k0 + (x : Int)).natAbs * p.natAbs := Nat.mul_le_mul_left _ (by omega)
    rw [← Int.natAbs_mul] at h2
    omega
  obtain ⟨qf, hqf⟩ : ∃ qf, (sp + M) / p = qf := ⟨_, rfl⟩
  have hqk : -qf = k0 := by rw [← hqf, ← hk0]; rfl
  have hqb := hkk 0 (Nat.zero_le _)
  have HFL := Lib.hid (fun V => lfloor_any (sp + M) p V (by omega) hpos (by omega))
  rw [hqf, ← show IntKind.i64.wrap (sp + M) = sp + M by rw [IntKind.wrap_i64]; omega] at HFL
  have HF0 := Lib.hid hf; have HSL := Lib.hid hsl; have HOKK := Lib.hid hokk; have HKB := Lib.hid hkb; have HKK := Lib.hid hkk; have HMO := Lib.hid hmono
  obtain ⟨a', c', hv, h1, h2, -, hc⟩ := inCell.open hrows
  simp only [Value.slice.injEq] at hv
  obtain ⟨rfl, -, rfl⟩ := hv
  obtain ⟨bb, off, rfl, hbb, hcell⟩ := hc (by intro e; simp [e] at hi)
  obtain ⟨vr, hvr, hcr⟩ := hcell i _ (rowE_get hi)
  rw [hr] at hvr
  have HIF := Lib.hid (fun V (hV : Ext w0 V) => indexFuncRow_any r vr 105 #[] (· != 0) V (hvr.ext hV) (enters_of Tryz.func105 (by kernel_rfl) rfl) (fun W x _ _ => (search1_any x W).mono fun _ _ ⟨he, hw⟩ => ⟨he, hw ▸ Ext.refl _⟩))
  unfold idxRow at HIF
  rw [hfst] at HIF
  simp only [] at HIF
  obtain ⟨ar, cr, rfl, y1, y2, -, -, yc⟩ := hvr.open
  obtain ⟨br, orr, rfl, hbr, ycell⟩ := yc (by intro e; rw [e] at hrl; simp at hrl; omega)
  rw [hrl] at hcr
  have HRC := Lib.hid ycell; have HCR := Lib.hid hcr; have HRL := Lib.hid hrl
  have hgp : w0.cell? ⟨br, orr + b, none⟩ = some (.int .i64 p) := ycell b p (by rw [← hp, List.getElem?_eq_getElem (by omega), List.getD_eq_getElem?_getD, List.getElem?_eq_getElem (by omega)]; rfl)
  have HGP := Lib.hid hgp
  have hsb2 : s[b]? = some sp := by rw [← hsp, List.getElem?_eq_getElem (by omega), List.getD_eq_getElem?_getD, List.getElem?_eq_getElem (by omega)]; rfl
  have HSPC := Lib.hid hsb2
  have HIS : Hid (∀ V, RowF V gs s → Ints V (.slice (some ⟨gs, 0, none⟩) n cs) s) := fun V hV => by
    have := RowF.ints (m := cs) hV (by omega) hcs2 (fun x hx => by
      obtain ⟨q, hq, rfl⟩ := List.mem_iff_getElem.1 hx
      have := hsb q
      rw [List.getD_eq_getElem?_getD, List.getElem?_eq_getElem hq] at this
      simp only [Option.getD_some] at this
      omega)
    rw [hs] at this; exact this
  rw [hrl] at HIF y1
  unfold maxLen at y2
  have HIJ := Lib.hid hij
  clear hf hsl hokk hkb hkk hmono hc hcell hvr hcr yc ycell hrl hgp hsb2 hfst hpc hk0 hN hp hsp hqf hr hb h1 h2 hrows hij
  obtain ⟨W1, hW1, hX1, hsz, hb1⟩ := lat_new W (.int .i64 n) (.slice (some ⟨bb, off, none⟩) R.length cb)
  obtain ⟨r0, r1, -⟩ := lat_block hb1
  have HE1 := Lib.hid (hE.trans hX1); have HOK1 := Lib.hid (hOK.grow hX1.size); have HG1 := Lib.hid (block_ext hG hX1); have HB1 := Lib.hid (hB.ext hX1); have HF1 := Lib.hid (hF.ext hX1); have HSF := Lib.hid (fun Pr (h : SafeS W S Pr) => h.ext hX1)
  have HSG := Lib.hid hSg; have HOK0 := Lib.hid hOK; have HSB := Lib.hid hsb; have HOKR := Lib.hid hok; have HLN := Lib.hid hlen; have HCP := Lib.hid hcp; have HL1 := Lib.hid hb1
  have hce : c ≤ b := hcb0
  have hen : b ≤ n := Nat.le_of_lt hpn
  have HIB := Lib.hid (inB_iff (M := M) (a := c) (b := b) (s := s) (by omega))
  have HNO : Hid (∀ W2, Ext W1 W2 → inB M c b s = false → SrchR w0 g S W (L ++ searchL M n R (j + 1) i s c) (.returned (.tuple #[])) W2) := fun W2 hX h => ⟨rfl, S, so, HE1.out.trans hX, HOK1.out.grow hX.size, fun _ h => h, block_ext HG1.out hX, by rw [HSL.out, if_neg (by rw [h]; decide), List.append_nil]; exact HB1.out.ext hX, fun Pr hp => (HSF.out Pr hp).ext hX⟩
  have HSS := Lib.hid hs
  unfold maxLen at hcs2
  clear hE hX1 hOK hSg hG hB hF hb1 hsz hsb hok hlen hcp
  have hir : (i : Int) < (R.length : Int) := by omega
  have hbn : (b : Int) < (n : Int) := by omega
  have gcr := HE1.out.cell HCR.out
  have HX0 := HE1
  go_enter Tryz.func50, Tryz.ntmps50
  go_wp2_with fail
  refine (HIF.out _ HE1.out).mono ?_
  rintro e w2 ⟨rfl, hE2⟩
  have HXX := Lib.hid hE2
  have HE2 := Lib.hid (HE1.out.trans hE2); have HOK2 := Lib.hid (HOK1.out.grow hE2.size); have HG2 := Lib.hid (block_ext HG1.out hE2); have HB2 := Lib.hid (HB1.out.ext hE2); have HF2 := Lib.hid (HF1.out.ext hE2); have HSF2 := Lib.hid (fun Pr hp => (HSF.out Pr hp).ext hE2); have HL2 := Lib.hid (block_ext HL1.out hE2)
  have hWlt : Hid (∀ q, S q → q ≠ W.heap.size) := fun q hq e => by have := (HOK0.out q hq).2; omega
  clear hE2 HE1 HOK1 HG1 HB1 HF1 HSF HL1 hW1 r0 r1 gcr HIF
  obtain ⟨r0, r1, -⟩ := lat_block HL2.out
  have gcr := HE2.out.cell HCR.out
  have gp := HE2.out.cell HGP.out
  have gsp := HF2.out.now.cell b sp HSPC.out
  obtain ⟨hsm1, hsm2⟩ : -9223372036854775808 ≤ sp + M ∧ sp + M ≤ 9223372036854775807 := by omega
  obtain ⟨hqn1, hqn2⟩ : -9223372036854775808 ≤ -qf ∧ -qf ≤ 9223372036854775807 := by omega
  obtain ⟨hkn1, hkn2⟩ : -9223372036854775808 ≤ k0 ∧ k0 ≤ 9223372036854775807 := by omega
  have e1 : (c : Int) ≤ (b : Int) := by omega
  have e2 : (b : Int) ≤ (cs : Int) := by omega
  have e3 : (c : Int) < (cs : Int) := by omega
  go_wp2_with fail
  go_loopw [37] (fun t wr => ∃ x : Nat, x ≤ b - c ∧ t = .int .i64 x ∧ w2 = wr ∧ Hid (∀ y, c ≤ y → y < c + x → -M ≤ s.getD y 0 ∧ s.getD y 0 ≤ M)) (fun t _ => (b - c) - (intOf t).toNat)
  case atStart => exact ⟨0, by omega, rfl, rfl, fun y h1 h2 => by omega⟩
  case round =>
    obtain ⟨x, hx, rfl, rfl, HA⟩ := hrel
    by_cases hlt : x < b - c
    · obtain ⟨y, hy⟩ : ∃ y, s[c + x]? = some y := ⟨s[c + x]'(by have := HSS.out; omega), List.getElem?_eq_getElem _⟩
      have hyD : s.getD (c + x) 0 = y := by rw [List.getD_eq_getElem?_getD, hy]; rfl
      have g1 := HF2.out.now.cell (c + x) y hy
      have HYD := Lib.hid hyD
      have HNB : Hid (y < -M ∨ M < y → inB M c b s = false) := fun h => by
        cases hc : inB M c b s with
        | false => rfl
        | true => have := HIB.out.1 hc (c + x) (by omega) (by omega); rw [HYD.out] at this; omega
      clear hy hyD
      by_cases hy1 : y < -M
      · go_wp2_with fail
        refine bodyPost_end (results_none rfl _ _ _) rfl (HNO.out _ HXX.out (HNB.out (.inl hy1)))
      · by_cases hy2 : M < y
        · go_wp2_with fail
          refine bodyPost_end (results_none rfl _ _ _) rfl (HNO.out _ HXX.out (HNB.out (.inr hy2)))
        · have HA2 : Hid (∀ z, c ≤ z → z < c + (x + 1) → -M ≤ s.getD z 0 ∧ s.getD z 0 ≤ M) := fun z h1 h2 => by
            by_cases e : z = c + x
            · rw [e, HYD.out]; omega
            · exact HA.out z h1 (by omega)
          go_wp2_with fail
          go_roundw
          case rel => exact ⟨x + 1, by omega, by go_num, (by first | trivial | rfl), HA2.out⟩
          case measure => simp [intOf]; omega
    · have hin : inB M c b s = true := HIB.out.2 fun y h1 h2 => HA.out y h1 (by omega)
      have HIN := Lib.hid hin
      clear hin
      go_upto_region 12 with fail
      refine region_anyE (fun w' => w'.cell? ⟨gs, b, none⟩ = some (.int .i64 sp) ∧ w'.cell? ⟨br, orr + b, none⟩ = some (.int .i64 p) ∧ Hid (Ext w2 w')) 11 (by kernel_rfl) ⟨(Ext.drew w2).cell gsp, (Ext.drew w2).cell gp, Ext.drew w2⟩ (fun hHeld => ?_)
      generalize w2.drew = wd at hHeld ⊢
      refine anyE_takeW (v := ?_) 0 rfl (by kernel_rfl) (by kernel_rfl) (by kernel_rfl) (by decide) (fun _ _ _ h => h) (Or.inl ⟨by rfl, ?_⟩) (by assumption) ?_
      rotate_left
      · ((intro w'); (try go_simp); (try with_reducible rfl))
      (try simp only [Act.put, List.setIfInBounds_toArray, List.set_cons_zero, List.set_cons_succ])
      refine anyE_takeW (v := ?_) 1 rfl (by kernel_rfl) (by kernel_rfl) (by kernel_rfl) (by decide) (fun _ _ _ h => h) (Or.inl ⟨by rfl, ?_⟩) (by assumption) ?_
      rotate_left
      · ((intro w'); (try go_simp); (try with_reducible rfl))
      (try simp only [Act.put, List.setIfInBounds_toArray, List.set_cons_zero, List.set_cons_succ])
      refine anyE_takeW (v := ?_) 2 rfl (by kernel_rfl) (by kernel_rfl) (by kernel_rfl) (by decide) (fun _ _ _ h => h) (Or.inl ⟨by rfl, ?_⟩) (by assumption) ?_
      rotate_left
      · ((intro w'); (try go_simp); (try with_reducible rfl))
      (try simp only [Act.put, List.setIfInBounds_toArray, List.set_cons_zero, List.set_cons_succ])
      refine anyE_take (v := ?_) 3 rfl (by kernel_rfl) (by kernel_rfl) (by kernel_rfl) (by kernel_rfl) (by kernel_rfl) (fun _ _ _ h => h) (Or.inl ⟨by rfl, ?_⟩) (by assumption) ?_
      rotate_left
      · ((intro w' hSw); (try dsimp only at hSw); (try go_simp); (try with_reducible rfl))
      (try simp only [Act.put, List.setIfInBounds_toArray, List.set_cons_zero, List.set_cons_succ])
      refine anyE_takeW (v := ?_) 4 rfl (by kernel_rfl) (by kernel_rfl) (by kernel_rfl) (by decide) (fun _ _ _ h => h) (Or.inl ⟨by rfl, ?_⟩) (by assumption) ?_
      rotate_left
      · ((intro w'); (try go_simp); (try with_reducible rfl))
      (try simp only [Act.put, List.setIfInBounds_toArray, List.set_cons_zero, List.set_cons_succ])
      refine anyE_takeW (v := ?_) 5 rfl (by kernel_rfl) (by kernel_rfl) (by kernel_rfl) (by decide) (fun _ _ _ h => h) (Or.inl ⟨by rfl, ?_⟩) (by assumption) ?_
      rotate_left
      · ((intro w'); (try go_simp); (try with_reducible rfl))
      (try simp only [Act.put, List.setIfInBounds_toArray, List.set_cons_zero, List.set_cons_succ])
      refine anyE_takeW (v := ?_) 6 rfl (by kernel_rfl) (by kernel_rfl) (by kernel_rfl) (by decide) (fun _ _ _ h => h) (Or.inl ⟨by rfl, ?_⟩) (by assumption) ?_
      rotate_left
      · ((intro w'); (try go_simp); (try with_reducible rfl))
      (try simp only [Act.put, List.setIfInBounds_toArray, List.set_cons_zero, List.set_cons_succ])
      refine anyE_takeW (v := ?_) 7 rfl (by kernel_rfl) (by kernel_rfl) (by kernel_rfl) (by decide) (fun _ _ _ h => h) (Or.inl ⟨by rfl, ?_⟩) (by assumption) ?_
      rotate_left
      · ((intro w'); (try go_simp); (try with_reducible rfl))
      (try simp only [Act.put, List.setIfInBounds_toArray, List.set_cons_zero, List.set_cons_succ])
      refine anyE_takeW (v := ?_) 8 rfl (by kernel_rfl) (by kernel_rfl) (by kernel_rfl) (by decide) (fun _ _ _ h => h) (Or.inl ⟨by rfl, ?_⟩) (by assumption) ?_
      rotate_left
      · ((intro w'); (try go_simp); (try with_reducible rfl))
      (try simp only [Act.put, List.setIfInBounds_toArray, List.set_cons_zero, List.set_cons_succ])
      refine anyE_take (v := ?_) 9 rfl (by kernel_rfl) (by kernel_rfl) (by kernel_rfl) (by kernel_rfl) (by kernel_rfl) (fun _ _ _ h => h) (Or.inl ⟨by rfl, ?_⟩) (by assumption) ?_
      rotate_left
      · ((intro w' hSw); (try dsimp only at hSw); (try go_simp); (try with_reducible rfl))
      (try simp only [Act.put, List.setIfInBounds_toArray, List.set_cons_zero, List.set_cons_succ])
      refine anyE_step 10 (by kernel_rfl) rfl (fun K hK => ?_)
      go_simp
      (go_at_call 106; refine (HFL.out _).mono ?_)
      rintro e wq ⟨rfl, rfl⟩
      go_wp2_with fail
      refine hK.out _ _ ⟨(Ext.refl _).cell hHeld.1, (Ext.refl _).cell hHeld.2.1, Ext.trans hHeld.2.2.out (Ext.refl _)⟩ (fun hHeld => ?_)
      clear hK K
      (try simp only [Act.put, List.setIfInBounds_toArray, List.set_cons_zero, List.set_cons_succ])
      have HWD := hHeld.2.2
      refine anyE_stepZ 11 (by kernel_rfl) (by kernel_rfl) rfl (fun K hK => ?_)
      go_simp
      refine hK.out _ _ ?_
      clear hK K
      (try simp only [Act.put, List.setIfInBounds_toArray, List.set_cons_zero, List.set_cons_succ])
      refine anyE_last 12 (by kernel_rfl) (by kernel_rfl) (by kernel_rfl) rfl (fun K hK => ?_)
      go_simp
      refine hK.out _ _ ?_
      clear hK K
      (try simp only [Act.put, List.setIfInBounds_toArray, List.set_cons_zero, List.set_cons_succ])
      go_wp2_with fail
      have HE3 := Lib.hid (HE2.out.trans HWD.out); have HOK3 := Lib.hid (HOK2.out.grow HWD.out.size); have HG3 := Lib.hid (block_ext HG2.out HWD.out); have HB3 := Lib.hid (HB2.out.ext HWD.out); have HF3 := Lib.hid (HF2.out.ext HWD.out); have HSF3 := Lib.hid (fun Pr hp => (HSF2.out Pr hp).ext HWD.out); have HL3 := Lib.hid (block_ext HL2.out HWD.out)
      have HBX3 : Hid (SafeS wq S fun V => V.heap[W.heap.size]? = some (.cells #[.int .i64 n, .slice (some ⟨bb, off, none⟩) R.length cb] 31 (0, 0))) := fun V hV => (hV.block _ (block_lt HL3.out) (fun hS => hWlt.out _ hS rfl)).trans HL3.out
      clear HE2 HOK2 HG2 HB2 HF2 HSF2 HL2 HWD r0 r1 gcr gp gsp
      go_loopw [16] (fun t wr => ∃ (x : Nat) (S' : Nat → Prop) (so' : Value), x ≤ N ∧ t = .int .i64 (k0 + (x : Int)) ∧ Hid (Ext w0 wr) ∧ Hid (SOk S' w0.heap.size wr) ∧ Hid (∀ q, S q → S' q) ∧ Hid (wr.heap[g]? = some (.cells #[so'] 28 (0, 0))) ∧ Hid (BuildS wr S' w0.heap.size 37 1 so' rowC (L ++ accL f k0 x)) ∧ Hid (∀ Pr : World → Prop, SafeS wq S Pr → SafeS wr S' Pr)) (fun t _ => (k0 + (N : Int) - intOf t).toNat)
      case atStart => exact ⟨0, S, so, Nat.zero_le _, (by first | (simp; rw [IntKind.wrap_i64]; omega) | (simp; done)), HE3.out, HOK3.out, fun _ h => h, HG3.out, by unfold accL; simp; exact HB3.out, fun _ h => h⟩
      case round =>
        obtain ⟨x, S', so', hx, rfl, HEO, HOKO, HSO, HGO, HBO, HFR⟩ := hrel
        obtain ⟨wo, rfl⟩ : ∃ wo : World, wo = wr := ⟨_, rfl⟩
        obtain ⟨kk, hkk2⟩ : ∃ kk, k0 + (x : Int) = kk := ⟨_, rfl⟩
        obtain ⟨n1, n2, n3⟩ := HKB.out x hx
        obtain ⟨n4, n5⟩ := HKK.out x hx
        have HFO := Lib.hid (HFR.out _ HF3.out); have HBXO := Lib.hid (HFR.out _ HBX3.out)
        have gp := HEO.out.cell HGP.out
        have gsp := HFO.out.now.cell b sp HSPC.out
        rw [hkk2] at n1 n2 n3 n4 n5 ⊢
        obtain ⟨zp, hzp⟩ : ∃ zp, kk * p = zp := ⟨_, rfl⟩
        rw [hzp] at n1 n2 n3
        have hw1 : IntKind.i64.wrap (kk * p) = zp := by rw [IntKind.wrap_i64, hzp]; omega
        have hw0 : IntKind.i64.wrap zp = zp := by rw [IntKind.wrap_i64]; omega
        have hw2 : IntKind.i64.wrap (sp + zp) = sp + zp := by rw [IntKind.wrap_i64]; omega
        obtain ⟨n6, n7⟩ : -9223372036854775808 ≤ sp + zp ∧ sp + zp ≤ 9223372036854775807 := by omega
        obtain ⟨n8, n9⟩ : -9223372036854775808 ≤ zp ∧ zp ≤ 9223372036854775807 := by omega
        obtain ⟨q1, q2⟩ : -9223372036854775808 ≤ kk + 1 ∧ kk + 1 ≤ 9223372036854775807 := by omega
        by_cases hlt : x < N
        · have hle : sp + zp ≤ M := n3.2 hlt
          have HOX := Lib.hid (HOKK.out x hlt)
          rw [hkk2] at HOX
          have hfk : f kk = searchL M n R j (i + 1) (lessL (-kk) s r) b := by rw [← HF0.out]
          have HFK := Lib.hid hfk
          have HLX : Hid ((L ++ accL f k0 x ++ searchL M n R j (i + 1) (lessL (-kk) s r) b).length ≤ 100000) := by
            have h1 := HLN.out
            rw [HSL.out, if_pos HIN.out, List.length_append] at h1
            have h2 := accL_len f k0 (a := x + 1) (b := N) (by omega)
            rw [accL_succ, hkk2, hfk, List.length_append] at h2
            unfold Hid
            rw [List.length_append, List.length_append]
            omega
          clear hfk
          go_upto_region 13 with fail
          refine region_anyE (fun w' => w'.cell? ⟨gs, b, none⟩ = some (.int .i64 sp) ∧ w'.cell? ⟨br, orr + b, none⟩ = some (.int .i64 p) ∧ Hid (Ext wo w')) 12 (by kernel_rfl) ⟨(Ext.drew wo).cell gsp, (Ext.drew wo).cell gp, Ext.drew wo⟩ (fun hHeld => ?_)
          generalize wo.drew = wz at hHeld ⊢
          refine anyE_takeW (v := ?_) 0 rfl (by kernel_rfl) (by kernel_rfl) (by kernel_rfl) (by decide) (fun _ _ _ h => h) (Or.inl ⟨by rfl, ?_⟩) (by assumption) ?_
          rotate_left
          · ((intro w'); (try go_simp); (try with_reducible rfl))
          (try simp only [Act.put, List.setIfInBounds_toArray, List.set_cons_zero, List.set_cons_succ])
          refine anyE_takeW (v := ?_) 1 rfl (by kernel_rfl) (by kernel_rfl) (by kernel_rfl) (by decide) (fun _ _ _ h => h) (Or.inl ⟨by rfl, ?_⟩) (by assumption) ?_
          rotate_left
          · ((intro w'); (try go_simp); (try with_reducible rfl))
          (try simp only [Act.put, List.setIfInBounds_toArray, List.set_cons_zero, List.set_cons_succ])
          refine anyE_takeW (v := ?_) 2 rfl (by kernel_rfl) (by kernel_rfl) (by kernel_rfl) (by decide) (fun _ _ _ h => h) (Or.inl ⟨by rfl, ?_⟩) (by assumption) ?_
          rotate_left
          · ((intro w'); (try go_simp); (try with_reducible rfl))
          (try simp only [Act.put, List.setIfInBounds_toArray, List.set_cons_zero, List.set_cons_succ])
          refine anyE_take (v := ?_) 3 rfl (by kernel_rfl) (by kernel_rfl) (by kernel_rfl) (by kernel_rfl) (by kernel_rfl) (fun _ _ _ h => h) (Or.inl ⟨by rfl, ?_⟩) (by assumption) ?_
          rotate_left
          · ((intro w' hSw); (try dsimp only at hSw); (try go_simp); (try with_reducible rfl))
          (try simp only [Act.put, List.setIfInBounds_toArray, List.set_cons_zero, List.set_cons_succ])
          refine anyE_takeW (v := ?_) 4 rfl (by kernel_rfl) (by kernel_rfl) (by kernel_rfl) (by decide) (fun _ _ _ h => h) (Or.inl ⟨by rfl, ?_⟩) (by assumption) ?_
          rotate_left
          · ((intro w'); (try go_simp); (try with_reducible rfl))
          (try simp only [Act.put, List.setIfInBounds_toArray, List.set_cons_zero, List.set_cons_succ])
          refine anyE_takeW (v := ?_) 5 rfl (by kernel_rfl) (by kernel_rfl) (by kernel_rfl) (by decide) (fun _ _ _ h => h) (Or.inl ⟨by rfl, ?_⟩) (by assumption) ?_
          rotate_left
          · ((intro w'); (try go_simp); (try with_reducible rfl))
          (try simp only [Act.put, List.setIfInBounds_toArray, List.set_cons_zero, List.set_cons_succ])
          refine anyE_takeW (v := ?_) 6 rfl (by kernel_rfl) (by kernel_rfl) (by kernel_rfl) (by decide) (fun _ _ _ h => h) (Or.inl ⟨by rfl, ?_⟩) (by assumption) ?_
          rotate_left
          · ((intro w'); (try go_simp); (try with_reducible rfl))
          (try simp only [Act.put, List.setIfInBounds_toArray, List.set_cons_zero, List.set_cons_succ])
          refine anyE_takeW (v := ?_) 7 rfl (by kernel_rfl) (by kernel_rfl) (by kernel_rfl) (by decide) (fun _ _ _ h => h) (Or.inl ⟨by rfl, ?_⟩) (by assumption) ?_
          rotate_left
          · ((intro w'); (try go_simp); (try with_reducible rfl))
          (try simp only [Act.put, List.setIfInBounds_toArray, List.set_cons_zero, List.set_cons_succ])
          refine anyE_take (v := ?_) 8 rfl (by kernel_rfl) (by kernel_rfl) (by kernel_rfl) (by kernel_rfl) (by kernel_rfl) (fun _ _ _ h => h) (Or.inl ⟨by rfl, ?_⟩) (by assumption) ?_
          rotate_left
          · ((intro w' hSw); (try dsimp only at hSw); (try go_simp); (try with_reducible rfl))
          (try simp only [Act.put, List.setIfInBounds_toArray, List.set_cons_zero, List.set_cons_succ])
          refine anyE_takeW (v := ?_) 9 rfl (by kernel_rfl) (by kernel_rfl) (by kernel_rfl) (by decide) (fun _ _ _ h => h) (Or.inl ⟨by rfl, ?_⟩) (by assumption) ?_
          rotate_left
          · ((intro w'); (try go_simp); (try with_reducible rfl))
          (try simp only [Act.put, List.setIfInBounds_toArray, List.set_cons_zero, List.set_cons_succ])
          refine anyE_takeW (v := ?_) 10 rfl (by kernel_rfl) (by kernel_rfl) (by kernel_rfl) (by decide) (fun _ _ _ h => h) (Or.inl ⟨by rfl, ?_⟩) (by assumption) ?_
          rotate_left
          · ((intro w'); (try go_simp); (try with_reducible rfl))
          (try simp only [Act.put, List.setIfInBounds_toArray, List.set_cons_zero, List.set_cons_succ])
          refine anyE_takeW (v := ?_) 11 rfl (by kernel_rfl) (by kernel_rfl) (by kernel_rfl) (by decide) (fun _ _ _ h => h) (Or.inl ⟨by rfl, ?_⟩) (by assumption) ?_
          rotate_left
          · ((intro w'); (try go_simp); (try with_reducible rfl))
          (try simp only [Act.put, List.setIfInBounds_toArray, List.set_cons_zero, List.set_cons_succ])
          have HZD := hHeld.2.2
          refine anyE_last 12 (by kernel_rfl) (by kernel_rfl) (by kernel_rfl) rfl (fun K hK => ?_)
          go_simp
          refine hK.out _ _ ?_
          clear hK K
          (try simp only [Act.put, List.setIfInBounds_toArray, List.set_cons_zero, List.set_cons_succ])
          have HEZ := Lib.hid (HEO.out.trans HZD.out); have HOKZ := Lib.hid (HOKO.out.grow HZD.out.size); have HSZ := HSO; have HGZ := Lib.hid (block_ext HGO.out HZD.out); have HBZ := Lib.hid (HBO.out.ext HZD.out); have HFZ := Lib.hid (HFO.out.ext HZD.out); have HBXZ := Lib.hid (block_ext HBXO.out.now HZD.out); have HFRZ := Lib.hid (fun Pr hp => (HFR.out Pr hp).ext HZD.out)
          clear HEO HOKO HGO HBO HFO HBXO HFR HZD n3
          go_wp2_with fail
          refine (cloneRow_any s _ _ (HIS.out _ HFZ.out.now) (by have := HSS.out; omega)).mono ?_
          rintro e w4 ⟨r4, rfl, hE4, hown⟩
          rw [HSS.out] at hown
          obtain ⟨gn, cn, rfl, k1, k2, k3, k4⟩ := owns_shape hown (by omega)
          have HR4 := Lib.hid (RowF.ofOwn hown); have HE4 := Lib.hid hE4
          unfold maxLen at k4
          clear hE4 hown gp gsp
          go_wp2_with fail
          go_loopw [100] (fun t wr => ∃ y : Nat, y ≤ n ∧ t = .int .i64 y ∧ Hid (Ext wz wr) ∧ Hid (RowF wr gn (lessP (-kk) s r y))) (fun t _ => n - (intOf t).toNat)
          case atStart => exact ⟨0, by omega, rfl, HE4.out, by rw [lessP_zero]; exact HR4.out⟩
          case round =>
            obtain ⟨y, hy, rfl, HEY, HPY⟩ := hrel
            obtain ⟨wy, rfl⟩ : ∃ wy : World, wy = wr := ⟨_, rfl⟩
            by_cases hlty : y < n
            · obtain ⟨ry, hry⟩ : ∃ z, r[y]? = some z := ⟨r[y]'(by have := HRL.out; omega), List.getElem?_eq_getElem _⟩
              obtain ⟨sy, hsy⟩ : ∃ z, s[y]? = some z := ⟨s[y]'(by have := HSS.out; omega), List.getElem?_eq_getElem _⟩
              have g0 := (HEZ.out.trans HEY.out).cell (HRC.out y ry hry)
              have g1 := HPY.out.cell y sy (lessP_get (-kk) s r y sy hsy)
              have f1 := HPY.out.free y
              obtain ⟨m1, m2⟩ := (HOX.out).1 y
              rw [lessL_getD (-kk) (by rw [HRL.out, HSS.out]), List.getD_eq_getElem?_getD, List.getD_eq_getElem?_getD, hry, hsy] at m2
              rw [List.getD_eq_getElem?_getD, hry] at m1
              simp only [Option.getD_some, Int.neg_mul, Int.sub_neg] at m1 m2
              have HSET : Hid (∀ V, Ext wy V → RowF (V.setCell ⟨gn, y, none⟩ (.int .i64 (sy + kk * ry))) gn (lessP (-kk) s r (y + 1))) := fun V hE => by
                rw [← lessP_set (-kk) s r y sy ry hsy hry, show sy - -kk * ry = sy + kk * ry by rw [Int.neg_mul]; omega]
                exact (HPY.out.ext hE).set y (by rw [lessP_len, HSS.out]; exact hlty) _
              obtain ⟨z, hz⟩ : ∃ z, kk * ry = z := ⟨_, rfl⟩
              rw [hz] at m1 m2 HSET
              obtain ⟨m3, m5⟩ : -9223372036854775808 ≤ z ∧ z ≤ 9223372036854775807 := by omega
              obtain ⟨m4, m6⟩ : -9223372036854775808 ≤ sy + z ∧ sy + z ≤ 9223372036854775807 := by omega
              have hv0 : IntKind.i64.wrap z = z := by rw [IntKind.wrap_i64]; omega
              have hv2 : IntKind.i64.wrap (sy + z) = sy + z := by rw [IntKind.wrap_i64]; omega
              clear hry hsy m1 m2
              have hgz : wz.heap.size ≤ gn := k1
              go_upto_region 19 with fail
              go_region
              all_goals
                go_wp2_with fail
                go_roundw
                case rel => exact ⟨y + 1, by omega, by go_num, (HEY.out.trans (Ext.drew _)).setCell (p := ⟨gn, y, none⟩) hgz _, HSET.out _ (Ext.drew _)⟩
                case measure => simp [intOf]; omega
            · obtain rfl : n = y := by omega
              have HF : Hid (RowF wy gn (lessL (-kk) s r)) := by
                unfold Hid; rw [← lessP_all (-kk) s r n (by rw [HSS.out]; exact Nat.le_refl _)]; exact HPY.out
              have HREC := Lib.hid (IH (i + 1) (lessL (-kk) s r) b gn cn S' so' (L ++ accL f k0 x) wy (by have := HIJ.out; omega) (by rw [lessL_len]; exact HSS.out) hpn HMO.out (HOX.out).2 (fun q => ((HOX.out).1 q).2) HLX.out (HEZ.out.trans HEY.out) (HOKZ.out.grow HEY.out.size) (HSZ.out g HSG.out) (block_ext HGZ.out HEY.out) (HBZ.out.ext HEY.out) (fun V hV => HF.out.same hV.size (hV.block gn HF.out.lt (fun hS => by have := (HOKZ.out gn hS).2; omega))) k3 (by unfold maxLen; omega))
              rw [show ((i + 1 : Nat) : Int) = (i : Int) + 1 by omega] at HREC
              obtain ⟨r0, r1, -⟩ := lat_block (block_ext HBXZ.out HEY.out)
              have HPX := Lib.hid (fun Pr hp => (HFRZ.out Pr hp).ext HEY.out)
              clear HF HPY HR4 HE4
              go_wp2_with fail
              refine HREC.out.mono ?_
              rintro e w6 ⟨rfl, S6, so6, hE6, hOK6, hSS6, hG6, hB6, hsafe6⟩
              have HE6 := Lib.hid hE6; have HOK6 := Lib.hid hOK6; have HS6 : Hid (∀ q, S q → S6 q) := fun q hq => hSS6 q (HSZ.out q hq)
              have HG6 := Lib.hid hG6; have HFR6 := Lib.hid (fun Pr hp => hsafe6 Pr (HPX.out Pr hp))
              rw [List.append_assoc, show accL f k0 x ++ searchL M n R j (i + 1) (lessL (-kk) s r) b = accL f k0 (x + 1) by rw [accL_succ, hkk2, HFK.out]] at hB6
              have HB6 := Lib.hid hB6
              clear hE6 hOK6 hSS6 hG6 hB6 hsafe6 HREC HPX r0 r1
              go_wp2_with fail
              go_roundw
              case rel => exact ⟨x + 1, S6, so6, by omega, by (first | (go_num; done) | (congr 1; omega) | (simp; omega)), HE6.out, HOK6.out, HS6.out, HG6.out, HB6.out, HFR6.out⟩
              case measure => simp [intOf]; omega
        · have hle : ¬ sp + zp ≤ M := fun h => hlt (n3.1 h)
          obtain rfl : x = N := by omega
          go_upto_region 13 with fail
          refine region_anyE (fun w' => w'.cell? ⟨gs, b, none⟩ = some (.int .i64 sp) ∧ w'.cell? ⟨br, orr + b, none⟩ = some (.int .i64 p) ∧ Hid (Ext wo w')) 12 (by kernel_rfl) ⟨(Ext.drew wo).cell gsp, (Ext.drew wo).cell gp, Ext.drew wo⟩ (fun hHeld => ?_)
          generalize wo.drew = wz at hHeld ⊢
          refine anyE_takeW (v := ?_) 0 rfl (by kernel_rfl) (by kernel_rfl) (by kernel_rfl) (by decide) (fun _ _ _ h => h) (Or.inl ⟨by rfl, ?_⟩) (by assumption) ?_
          rotate_left
          · ((intro w'); (try go_simp); (try with_reducible rfl))
          (try simp only [Act.put, List.setIfInBounds_toArray, List.set_cons_zero, List.set_cons_succ])
          refine anyE_takeW (v := ?_) 1 rfl (by kernel_rfl) (by kernel_rfl) (by kernel_rfl) (by decide) (fun _ _ _ h => h) (Or.inl ⟨by rfl, ?_⟩) (by assumption) ?_
          rotate_left
          · ((intro w'); (try go_simp); (try with_reducible rfl))
          (try simp only [Act.put, List.setIfInBounds_toArray, List.set_cons_zero, List.set_cons_succ])
          refine anyE_takeW (v := ?_) 2 rfl (by kernel_rfl) (by kernel_rfl) (by kernel_rfl) (by decide) (fun _ _ _ h => h) (Or.inl ⟨by rfl, ?_⟩) (by assumption) ?_
          rotate_left
          · ((intro w'); (try go_simp); (try with_reducible rfl))
          (try simp only [Act.put, List.setIfInBounds_toArray, List.set_cons_zero, List.set_cons_succ])
          refine anyE_take (v := ?_) 3 rfl (by kernel_rfl) (by kernel_rfl) (by kernel_rfl) (by kernel_rfl) (by kernel_rfl) (fun _ _ _ h => h) (Or.inl ⟨by rfl, ?_⟩) (by assumption) ?_
          rotate_left
          · ((intro w' hSw); (try dsimp only at hSw); (try go_simp); (try with_reducible rfl))
          (try simp only [Act.put, List.setIfInBounds_toArray, List.set_cons_zero, List.set_cons_succ])
          refine anyE_takeW (v := ?_) 4 rfl (by kernel_rfl) (by kernel_rfl) (by kernel_rfl) (by decide) (fun _ _ _ h => h) (Or.inl ⟨by rfl, ?_⟩) (by assumption) ?_
          rotate_left
          · ((intro w'); (try go_simp); (try with_reducible rfl))
          (try simp only [Act.put, List.setIfInBounds_toArray, List.set_cons_zero, List.set_cons_succ])
          refine anyE_takeW (v := ?_) 5 rfl (by kernel_rfl) (by kernel_rfl) (by kernel_rfl) (by decide) (fun _ _ _ h => h) (Or.inl ⟨by rfl, ?_⟩) (by assumption) ?_
          rotate_left
          · ((intro w'); (try go_simp); (try with_reducible rfl))
          (try simp only [Act.put, List.setIfInBounds_toArray, List.set_cons_zero, List.set_cons_succ])
          refine anyE_takeW (v := ?_) 6 rfl (by kernel_rfl) (by kernel_rfl) (by kernel_rfl) (by decide) (fun _ _ _ h => h) (Or.inl ⟨by rfl, ?_⟩) (by assumption) ?_
          rotate_left
          · ((intro w'); (try go_simp); (try with_reducible rfl))
          (try simp only [Act.put, List.setIfInBounds_toArray, List.set_cons_zero, List.set_cons_succ])
          refine anyE_takeW (v := ?_) 7 rfl (by kernel_rfl) (by kernel_rfl) (by kernel_rfl) (by decide) (fun _ _ _ h => h) (Or.inl ⟨by rfl, ?_⟩) (by assumption) ?_
          rotate_left
          · ((intro w'); (try go_simp); (try with_reducible rfl))
          (try simp only [Act.put, List.setIfInBounds_toArray, List.set_cons_zero, List.set_cons_succ])
          refine anyE_take (v := ?_) 8 rfl (by kernel_rfl) (by kernel_rfl) (by kernel_rfl) (by kernel_rfl) (by kernel_rfl) (fun _ _ _ h => h) (Or.inl ⟨by rfl, ?_⟩) (by assumption) ?_
          rotate_left
          · ((intro w' hSw); (try dsimp only at hSw); (try go_simp); (try with_reducible rfl))
          (try simp only [Act.put, List.setIfInBounds_toArray, List.set_cons_zero, List.set_cons_succ])
          refine anyE_takeW (v := ?_) 9 rfl (by kernel_rfl) (by kernel_rfl) (by kernel_rfl) (by decide) (fun _ _ _ h => h) (Or.inl ⟨by rfl, ?_⟩) (by assumption) ?_
          rotate_left
          · ((intro w'); (try go_simp); (try with_reducible rfl))
          (try simp only [Act.put, List.setIfInBounds_toArray, List.set_cons_zero, List.set_cons_succ])
          refine anyE_takeW (v := ?_) 10 rfl (by kernel_rfl) (by kernel_rfl) (by kernel_rfl) (by decide) (fun _ _ _ h => h) (Or.inl ⟨by rfl, ?_⟩) (by assumption) ?_
          rotate_left
          · ((intro w'); (try go_simp); (try with_reducible rfl))
          (try simp only [Act.put, List.setIfInBounds_toArray, List.set_cons_zero, List.set_cons_succ])
          refine anyE_takeW (v := ?_) 11 rfl (by kernel_rfl) (by kernel_rfl) (by kernel_rfl) (by decide) (fun _ _ _ h => h) (Or.inl ⟨by rfl, ?_⟩) (by assumption) ?_
          rotate_left
          · ((intro w'); (try go_simp); (try with_reducible rfl))
          (try simp only [Act.put, List.setIfInBounds_toArray, List.set_cons_zero, List.set_cons_succ])
          have HZD := hHeld.2.2
          refine anyE_last 12 (by kernel_rfl) (by kernel_rfl) (by kernel_rfl) rfl (fun K hK => ?_)
          go_simp
          refine hK.out _ _ ?_
          clear hK K
          (try simp only [Act.put, List.setIfInBounds_toArray, List.set_cons_zero, List.set_cons_succ])
          go_wp2_with fail
          refine bodyPost_end (results_none rfl _ _ _) rfl ⟨rfl, S', so', HEO.out.trans HZD.out, HOKO.out.grow HZD.out.size, HSO.out, block_ext HGO.out HZD.out, ?_, fun Pr hp => (HFR.out Pr (HSF3.out Pr hp)).ext HZD.out⟩
          rw [HSL.out, if_pos HIN.out]
          exact HBO.out.ext HZD.out
end Go.Proofs.YtjihfabhgcfjnaaGreatDoor
