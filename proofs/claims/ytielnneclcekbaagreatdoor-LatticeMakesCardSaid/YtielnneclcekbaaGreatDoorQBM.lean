/- Merged: HermA, GrowM. -/
import Derived.Test.YtielnneclcekbaaGreatDoorQBL
import Derived.RegionTactic
import Derived.BigRegion
import Derived.Test.YtielnneclcekbaaGreatDoorQAU
/- Contracts of reference 09: abs, Floor, less. -/
namespace Go.Proofs.YtielnneclcekbaaGreatDoor
set_option linter.unusedVariables false
set_option linter.unusedSimpArgs false
open Go.RowKit

theorem RowF.rowG {w : World} {g : Nat} {xs : List Int} (h : RowF w g xs) : RowG w g 0 xs := ⟨h.lt, fun j x hx => by rw [Nat.zero_add]; exact h.cell j x hx, h.free⟩

set_option maxRecDepth 100000 in
theorem abs9_any (x : Int) (w : World) (h : -9000000000000000000 ≤ x ∧ x ≤ 9000000000000000000) :
    Calls Tryz.prog 49 #[.int .i64 x] w fun e w' => e = .returned (.int .i64 (x.natAbs : Int)) ∧ w' = w := by
  go_enter Tryz.func49, Tryz.ntmps49
  by_cases hx : x < 0
  · have e1 := decide_eq_true hx
    have e2 : -x = (x.natAbs : Int) := by omega
    go_wp2_with fail
    go_ret
    exact ⟨rfl, rfl⟩
  · have e1 := decide_eq_false hx
    have E2 : Hid (x = (x.natAbs : Int)) := by unfold Hid; omega
    go_wp2_with fail
    go_ret
    exact ⟨congrArg (fun z => Ending.returned (.int .i64 z)) E2.out, rfl⟩

set_option maxRecDepth 100000 in
theorem floor9_any (x y : Int) (w : World) (h : -9000000000000000000 ≤ x ∧ x ≤ 9000000000000000000) (hy : 0 < y) (hy2 : y ≤ 9000000000000000000) :
    Calls Tryz.prog 61 #[.int .i64 x, .int .i64 y] w fun e w' => e = .returned (.int .i64 (fdq x y)) ∧ w' = w := by
  have hq : (x.tdiv y).natAbs ≤ x.natAbs := by
    rw [Int.natAbs_tdiv]; exact Nat.div_le_self _ _
  have hy0 : y ≠ 0 := by omega
  have hf : fdq x y = if x.tmod y < 0 then x.tdiv y - 1 else x.tdiv y := by
    unfold fdq
    have : decide (y < 0) = false := decide_eq_false (by omega)
    rw [this]
    by_cases ht : x.tmod y < 0
    · rw [if_pos ⟨by omega, by simp [ht]⟩, if_pos ht]
    · rw [if_neg (by simp [ht]), if_neg ht]
  have hb1 : -9223372036854775808 ≤ x.tdiv y - 1 ∧ x.tdiv y ≤ 9223372036854775807 := by omega
  have hm : -9223372036854775808 ≤ x.tmod y ∧ x.tmod y ≤ 9223372036854775807 := by
    have h1 := Int.mul_tdiv_add_tmod x y
    have h2 : (x.tmod y).natAbs ≤ x.natAbs := by rw [Int.natAbs_tmod]; exact Nat.mod_le _ _
    omega
  go_enter Tryz.func61, Tryz.ntmps61
  by_cases ht : x.tmod y < 0
  · have e1 := decide_eq_true ht
    rw [if_pos ht] at hf
    go_wp2_with fail
    go_ret
    exact ⟨by first | rfl | (rw [hf]; rfl), rfl⟩
  · have e1 := decide_eq_false ht
    rw [if_neg ht] at hf
    go_wp2_with fail
    go_ret
    exact ⟨by first | rfl | (rw [hf]; rfl), rfl⟩

set_option maxRecDepth 100000 in
set_option maxHeartbeats 2000000 in
/-- A multiple of a row is taken away from another one. -/
theorem less9_any (k : Int) (r s : List Int) (g o c gs os cs : Nat) (w : World) (hr : RowG w g o r) (hs : RowG w gs os s) (hne : gs ≠ g) (hlen : s.length = r.length)
    (hc : r.length ≤ c) (hc2 : c ≤ maxLen) (hcs2 : s.length ≤ cs) (hcs3 : cs ≤ maxLen)
    (hb : ∀ j : Nat, j < r.length → (-9223372036854775808 ≤ k * s.getD j 0 ∧ k * s.getD j 0 ≤ 9223372036854775807) ∧ (-9223372036854775808 ≤ r.getD j 0 - k * s.getD j 0 ∧ r.getD j 0 - k * s.getD j 0 ≤ 9223372036854775807)) :
    Calls Tryz.prog 51 #[.slice (some ⟨g, o, none⟩) r.length c, .slice (some ⟨gs, os, none⟩) s.length cs, .int .i64 k] w fun e w' => e = .returned (.tuple #[]) ∧ GrownS (· = g) w w' ∧ RowG w' g o (lessL k r s) := by
  have HR := Lib.hid hr; have HSS := Lib.hid hs; have HBD := Lib.hid hb
  unfold maxLen at hc2 hcs3
  have hle1 : s.length ≤ r.length := by omega
  have hle2 : r.length ≤ s.length := by omega
  clear hr hs hb hlen
  go_enter Tryz.func51, Tryz.ntmps51
  go_wp2_with fail
  go_loopw [6] (fun t wr => ∃ j : Nat, j ≤ r.length ∧ t = .int .i64 j ∧ Hid (GrownS (· = g) w wr) ∧ Hid (RowG wr g o (lessP k r s j))) (fun t _ => r.length - (intOf t).toNat)
  case atStart => exact ⟨0, by omega, rfl, GrownS.refl _ _, by rw [lessP_zero]; exact HR.out⟩
  case round =>
    obtain ⟨j, hj, rfl, HG, HP⟩ := hrel
    obtain ⟨wo, rfl⟩ : ∃ wo : World, wo = wr := ⟨_, rfl⟩
    by_cases hlt : j < r.length
    · obtain ⟨b, hbj⟩ : ∃ b, s[j]? = some b := ⟨s[j]'(by omega), List.getElem?_eq_getElem _⟩
      obtain ⟨a, haj⟩ : ∃ a, r[j]? = some a := ⟨r[j], List.getElem?_eq_getElem hlt⟩
      have hlts : j < s.length := by omega
      have g0 := (HSS.out.grown HG.out (by exact hne)).cell j b hbj
      have g1 := HP.out.cell j a (lessP_get k r s j a haj)
      have f1 := HP.out.free (o + j)
      have hbd := HBD.out j hlt
      rw [List.getD_eq_getElem?_getD, List.getD_eq_getElem?_getD, haj, hbj] at hbd
      simp only [Option.getD_some] at hbd
      obtain ⟨⟨m1, m2⟩, m3, m4⟩ := hbd
      have HSET : Hid (∀ W, Ext wo W → RowG (W.setCell ⟨g, o + j, none⟩ (.int .i64 (a - k * b))) g o (lessP k r s (j + 1))) := fun W hE => by
        rw [← lessP_set k r s j a b haj hbj]
        exact (HP.out.ext hE).set j (by rw [lessP_len]; exact hlt) _
      clear hbj haj
      go_upto_region 3 with fail
      go_region
      all_goals
        go_wp2_with fail
        go_roundw
        case rel => exact ⟨j + 1, by omega, by go_num, (HG.out.ext (Ext.drew _)).setCell rfl _ _, HSET.out _ (Ext.drew _)⟩
        case measure => simp [intOf]; omega
    · have HF : Hid (RowG wo g o (lessL k r s)) := by
        unfold Hid; rw [← lessP_all k r s j (by omega)]; exact HP.out
      go_wp2_with fail
      refine bodyPost_end (results_none rfl _ _ _) rfl ⟨rfl, HG.out, HF.out⟩

/-- A quotient, in a region that draws its order. -/
theorem quo_in {Q : Exit → Act → World → Prop} {K : Act → World → Prop} {o : Oper} {a : Act} {ys : Nat → Option Bool} {T T2 : TypeId} (w : World) (x y : Int) (hg : o.guard = none) (l r : Operand) (hop : o.op = Op.binOp .quo T l r T2)
    (hl : a.eval l = .int .i64 x) (hr : a.eval r = .int .i64 y) (hy : y ≠ 0) (hb : -9223372036854775808 ≤ x.tdiv y ∧ x.tdiv y ≤ 9223372036854775807) (hK : K (a.put o.dst (.int .i64 (x.tdiv y))) w) :
    if Region.wanted o ys = true then Oper.wp Tryz.prog o a w K Q else K (a.put o.dst undef) w := by
  rw [if_pos (by simp [Region.wanted, hg])]
  unfold Oper.wp
  have e : IntKind.i64.wrap (x.tdiv y) = x.tdiv y := by rw [IntKind.wrap_i64]; omega
  have hrun : (binOp .quo T (.int .i64 x) (.int .i64 y)).run Tryz.prog w = .ok (.int .i64 (x.tdiv y)) w := by
    simp [binOp, Op.intDiv, hy, e]
  have hg2 : (eqGuard .quo T l r (.int .i64 x) (.int .i64 y)).run Tryz.prog w = .ok () w := by simp [eqGuard]
  simp [execOp, hop, hl, hr, hrun, hg2, Result.andThen]
  exact hK
end Go.Proofs.YtielnneclcekbaaGreatDoor
/- A reduced row is bounded. No program is named here. -/
namespace Go.Proofs.YtielnneclcekbaaGreatDoor
set_option linter.unusedVariables false
set_option linter.unusedSimpArgs false
open Go.RowKit

/-- Each column of a form is a combination of those of the pivots. -/
theorem col_comb {n N : Nat} {m R : List (List Int)} {ps : Nat → Nat} (hR : HForm n R ps) (hw : Wid n m) (hN : ∀ i, i < m.length → RowLe N (rowE_ m i)) (hs : SpEq n (RowsFrom 0 m) (RowsFrom 0 R)) (c : Nat) : ∃ y : Nat → Int, (∀ l, l < R.length → (y l).natAbs ≤ facN N R.length) ∧ ∀ i, i < R.length → ((prodP R ps R.length : Int) : Rat) * ((getE R i c : Int) : Rat) = sumQ R.length fun l => ((y l : Int) : Rat) * ((getE R i (ps l) : Int) : Rat) := by
  obtain ⟨k, hk⟩ : ∃ k, k = R.length := ⟨_, rfl⟩
  have hP := phi_piv hR _ (Nat.le_refl R.length)
  rw [← hk] at hP
  have hph : ∀ r : Nat, ∃ y : Int, phi k (fun b => if b = r then c else ps b) (rowE_ R) = (y : Rat) ∧ y.natAbs ≤ facN N k := by
    intro r
    have := minor_le hR hw hN hs (fun b => if b = r then c else ps b)
    rw [← hk] at this
    exact this
  refine ⟨fun r => Classical.choose (hph r), fun l _ => by rw [← hk]; exact (Classical.choose_spec (hph l)).2, ?_⟩
  have hpos : ∀ a, a < k → 0 < getE R a (ps a) := fun a ha => hR.2.pos a (by omega)
  obtain ⟨x, hx⟩ := back_sub (k := k) (mnr ps (rowE_ R)) (fun a b hab ha => by
      have h : getE R a (ps b) = 0 := hR.2.zero a (by omega) (ps b) (hR.2.mono b a hab (by omega))
      show ((getE R a (ps b) : Int) : Rat) = 0
      rw [h]; rfl) (fun a ha h => by
      have h1 : ((getE R a (ps a) : Int) : Rat) = 0 := h
      have h2 : getE R a (ps a) = 0 := by exact_mod_cast h1
      have := hpos a ha; omega) (fun a => ((getE R a c : Int) : Rat)) k (Nat.le_refl _)
  have hcr : ∀ r, r < k → phi k (fun b => if b = r then c else ps b) (rowE_ R) = x r * (prodP R ps k : Rat) := by
    intro r hr
    rw [← hP]
    have e1 : phi k (fun b => if b = r then c else ps b) (rowE_ R) = detF k (fun a b => if b = r then (0 : Rat) + sumQ k (fun l => x l * mnr ps (rowE_ R) a l) else mnr ps (rowE_ R) a b) := by
      unfold phi
      refine detF_congr fun a b ha hb => ?_
      by_cases hbr : b = r
      · rw [if_pos hbr, ← hx a (by omega) ha]
        show (((rowE_ R a).getD (if b = r then c else ps b) 0 : Int) : Rat) = _
        rw [if_pos hbr]; show ((getE R a c : Int) : Rat) = _; grind
      · rw [if_neg hbr]
        show (((rowE_ R a).getD (if b = r then c else ps b) 0 : Int) : Rat) = _
        rw [if_neg hbr]; rfl
    rw [e1, detF_col_sum (mnr ps (rowE_ R)) hr (fun _ => 0) k x (fun l a => mnr ps (rowE_ R) a l)]
    have e2 : detF k (fun a b => if b = r then (0 : Rat) else mnr ps (rowE_ R) a b) = 0 := by
      rw [← detF_tr]
      exact detF_zero_row (r := r) hr fun b _ => if_pos rfl
    rw [e2, sumQ_one (k := r) hr fun l hl hne => ?_]
    · have e3 : detF k (fun a b => if b = r then mnr ps (rowE_ R) a r else mnr ps (rowE_ R) a b) = phi k ps (rowE_ R) := by
        unfold phi
        refine detF_congr fun a b _ _ => ?_
        by_cases hbr : b = r
        · rw [if_pos hbr, hbr]
        · rw [if_neg hbr]
      rw [e3]; grind
    · have e4 : detF k (fun a b => if b = r then mnr ps (rowE_ R) a l else mnr ps (rowE_ R) a b) = 0 :=
        detF_col_eq hr hl (fun h => hne h.symm) fun b _ => by rw [if_pos rfl, if_neg hne]
      rw [e4]; grind
  intro i hi
  rw [← hk] at hi ⊢
  have hxi : ((getE R i c : Int) : Rat) = sumQ k fun l => x l * mnr ps (rowE_ R) i l := hx i (by omega) hi
  rw [hxi, ← sumQ_mul]
  refine sumQ_congr fun l hl => ?_
  have h1 : ((Classical.choose (hph l) : Int) : Rat) = x l * (prodP R ps k : Rat) := (Classical.choose_spec (hph l)).1.symm.trans (hcr l hl)
  show _ = ((Classical.choose (hph l) : Int) : Rat) * mnr ps (rowE_ R) i l
  generalize ((Classical.choose (hph l) : Int) : Rat) = yy at h1 ⊢
  rw [h1]; grind
theorem sumQ_zeros : ∀ (k : Nat) (f : Nat → Rat), (∀ i, i < k → f i = 0) → sumQ k f = 0
  | 0, _, _ => rfl
  | k + 1, f, h => by
    show sumQ k f + f k = 0
    rw [sumQ_zeros k f fun i hi => h i (by omega), h k (by omega)]; grind
theorem repl_getD (n c : Nat) : (List.replicate n (0 : Int)).getD c 0 = 0 := by
  rw [List.getD_eq_getElem?_getD]
  by_cases hc : c < n
  · rw [List.getElem?_eq_getElem (by simpa using hc)]; simp
  · rw [List.getElem?_eq_none (by simp; omega)]; rfl
/-- The same for what the rows generate. -/
theorem sp_comb {n c : Nat} {R : List (List Int)} {ps : Nat → Nat} {D : Int} {y : Nat → Int} (hW : Wid n R) (h : ∀ i, i < R.length → (D : Rat) * ((getE R i c : Int) : Rat) = sumQ R.length fun l => ((y l : Int) : Rat) * ((getE R i (ps l) : Int) : Rat)) {u : List Int} (hu : Sp n (RowsFrom 0 R) u) :
    (D : Rat) * ((u.getD c 0 : Int) : Rat) = sumQ R.length fun l => ((y l : Int) : Rat) * ((u.getD (ps l) 0 : Int) : Rat) := by
  induction hu with
  | zero =>
    rw [repl_getD, sumQ_zeros]
    · show (D : Rat) * 0 = 0; grind
    · intro i _; rw [repl_getD]; show _ * (0 : Rat) = 0; grind
  | mem hr =>
    obtain ⟨i, -, hi, rfl⟩ := hr
    exact h i hi
  | @less r s k h1 h2 ih1 ih2 =>
    have hl : s.length = r.length := by rw [h1.len (rowsFrom_len hW), h2.len (rowsFrom_len hW)]
    rw [lessL_getD k hl]
    have e : (sumQ R.length fun l => ((y l : Int) : Rat) * (((lessL k r s).getD (ps l) 0 : Int) : Rat)) = (sumQ R.length fun l => ((y l : Int) : Rat) * ((r.getD (ps l) 0 : Int) : Rat)) + sumQ R.length fun l => (-(k : Rat)) * (((y l : Int) : Rat) * ((s.getD (ps l) 0 : Int) : Rat)) := by
      rw [← sumQ_add]
      refine sumQ_congr fun l _ => ?_
      rw [lessL_getD k hl, Rat.intCast_sub, Rat.intCast_mul]; grind
    rw [e, sumQ_mul, ← ih1, ← ih2, Rat.intCast_sub, Rat.intCast_mul]; grind
/-- A reduced row of a small row. -/
theorem red_bound {n N A : Nat} {m R : List (List Int)} {ps : Nat → Nat} (hR : HForm n R ps) (hw : Wid n m) (hN : ∀ i, i < m.length → RowLe N (rowE_ m i)) (hs : SpEq n (RowsFrom 0 m) (RowsFrom 0 R)) {v s : List Int} (hv : v.length = n) (hA : RowLe A v) (hsl : s.length = n) (hsp : Sp n (RowsFrom 0 R) (lessL 1 v s)) (hr : RedP R ps R.length s) :
    RowLe (A + R.length * (facN N R.length * (A + 1))) s := by
  have hpp := prodP_pos hR _ (Nat.le_refl R.length)
  have key : ∀ c, (s.getD c 0).natAbs ≤ A + R.length * (facN N R.length * (A + 1)) := by
    intro c
    obtain ⟨y, hy1, hy2⟩ := col_comb hR hw hN hs c
    have h1 := sp_comb hR.1 hy2 hsp
    have hl : s.length = v.length := by omega
    obtain ⟨z, hz1, hz2⟩ := sum_int (n := R.length) (B := facN N R.length * ((A + 1) * (prodP R ps R.length).natAbs)) (f := fun l => ((y l : Int) : Rat) * (((lessL 1 v s).getD (ps l) 0 : Int) : Rat)) fun l hl' => by
      refine ⟨y l * (lessL 1 v s).getD (ps l) 0, by rw [Rat.intCast_mul], ?_⟩
      rw [Int.natAbs_mul]
      refine Nat.mul_le_mul (hy1 l hl') ?_
      rw [lessL_getD 1 hl]
      have h5 := hpp.2 l hl'
      have h6 := hr l hl'
      have h7 := hA.getD (ps l)
      have h8 : (A + 1) * (prodP R ps R.length).natAbs = A * (prodP R ps R.length).natAbs + (prodP R ps R.length).natAbs := by rw [Nat.add_mul, Nat.one_mul]
      have h9 : A ≤ A * (prodP R ps R.length).natAbs := Nat.le_mul_of_pos_right _ (by omega)
      omega
    rw [hz1] at h1
    have he : prodP R ps R.length * (lessL 1 v s).getD c 0 = z := by exact_mod_cast h1
    rw [← he, Int.natAbs_mul, ← Nat.mul_assoc, ← Nat.mul_assoc, Nat.mul_comm] at hz2
    have h2 := Nat.le_of_mul_le_mul_right hz2 (by omega)
    rw [lessL_getD 1 hl] at h2
    have h7 := hA.getD c
    have h3 : R.length * (facN N R.length * (A + 1)) = R.length * facN N R.length * (A + 1) := by rw [Nat.mul_assoc]
    omega
  intro x hx
  obtain ⟨c, hc⟩ := List.getElem?_of_mem hx
  have := key c
  rw [List.getD_eq_getElem?_getD, hc] at this
  exact this
/-- The reduced rows of small rows, for a plan. -/
theorem plan_bound {n A : Nat} {m R : List (List Int)} {ps : Nat → Nat} (hR : HForm n R ps) (h4 : R.length ≤ 4) (hw : ∀ x ∈ m, x.length = n) (h9 : ∀ x ∈ m, RowLe 9 x) (hs : SpEq n (RowsFrom 0 m) (RowsFrom 0 R)) {v s : List Int} (hv : v.length = n) (hA : RowLe 1000 v) (hsl : s.length = n) (hsp : Sp n (RowsFrom 0 R) (lessL 1 v s)) (hr : RedP R ps R.length s) :
    RowLe 1000000000 s := by
  refine (red_bound (N := 9) hR (fun j hj => hw _ (rowE_mem hj)) (fun j hj => h9 _ (rowE_mem hj)) hs hv hA hsl hsp hr).mono ?_
  have hc : R.length = 0 ∨ R.length = 1 ∨ R.length = 2 ∨ R.length = 3 ∨ R.length = 4 := by omega
  rcases hc with h | h | h | h | h <;> rw [h] <;> decide
end Go.Proofs.YtielnneclcekbaaGreatDoor
