/- Merged: GrowK, EqMatL, LatA, GrowL, GrowM. -/
import Derived.Test.YtjihfabhgcfjnaaGreatDoorUAT
import Derived.Test.YtjihfabhgcfjnaaGreatDoorUAI
import Derived.Test.YtjihfabhgcfjnaaGreatDoorUAS
import Derived.Test.YtjihfabhgcfjnaaGreatDoorUAA
/- The elements of the Hermite form of small rows are bounded. No program is named here. -/
namespace Go.Proofs.YtjihfabhgcfjnaaGreatDoor
set_option linter.unusedVariables false
set_option linter.unusedSimpArgs false

theorem clo_zero : Clo fun x => x = 0 := ⟨rfl, fun x y q h h' => by rw [h, h']; grind⟩
theorem clo_mul (d : Rat) : Clo fun x => ∃ t : Int, x = (t : Rat) * d := ⟨⟨0, by grind⟩, fun x y q ⟨t, h⟩ ⟨u, h'⟩ => ⟨t - q * u, by rw [h, h', Rat.intCast_sub, Rat.intCast_mul]; grind⟩⟩
/-- Some rows of a matrix have a minor that is not 0, at the pivots of its form. -/
theorem some_minor {n : Nat} {m R : List (List Int)} {ps : Nat → Nat} (hR : HForm n R ps) (hw : Wid n m) (hs : SpEq n (RowsFrom 0 m) (RowsFrom 0 R)) : ∃ V : Nat → List Int, (∀ a, a < R.length → RowsFrom 0 m (V a)) ∧ phi R.length ps V ≠ 0 := by
  refine Classical.byContradiction fun hno => ?_
  have hall : ∀ V : Nat → List Int, (∀ a, a < R.length → RowsFrom 0 m (V a)) → phi R.length ps V = 0 := fun V hV => Classical.byContradiction fun h => hno ⟨V, hV, h⟩
  have h0 : phi R.length ps (rowE_ R) = 0 := alt_all (Q := fun x => x = 0) (phi_alt n R.length ps) clo_zero (rowsFrom_len hw) hall R.length (Nat.le_refl _) (rowE_ R) (fun a ha => hs.2 _ (rowsFrom_mem (Nat.zero_le _) ha)) fun a h1 h2 => by omega
  rw [phi_piv hR _ (Nat.le_refl _)] at h0
  have hp := (prodP_pos hR _ (Nat.le_refl R.length)).1
  have : prodP R ps R.length = 0 := by exact_mod_cast h0
  omega
/-- No minor of a form is greater than those of the rows. -/
theorem minor_le_of {n N : Nat} {m R : List (List Int)} {ps : Nat → Nat} (hR : HForm n R ps) (hN : ∀ i, i < m.length → RowLe N (rowE_ m i)) (hs1 : ∀ r, RowsFrom 0 m r → Sp n (RowsFrom 0 R) r) (hV : ∃ V : Nat → List Int, (∀ a, a < R.length → RowsFrom 0 m (V a)) ∧ phi R.length ps V ≠ 0) (S : Nat → Nat) : ∃ z : Int, phi R.length S (rowE_ R) = (z : Rat) ∧ z.natAbs ≤ facN N R.length := by
  obtain ⟨V, hV, hne⟩ := hV
  have hVR : ∀ a, a < R.length → Sp n (RowsFrom 0 R) (V a) := fun a ha => hs1 _ (hV a ha)
  have hP := phi_piv hR _ (Nat.le_refl R.length)
  have hp := (prodP_pos hR _ (Nat.le_refl R.length)).1
  have hP0 : phi R.length ps (rowE_ R) ≠ 0 := by
    rw [hP]; intro h
    have : prodP R ps R.length = 0 := by exact_mod_cast h
    omega
  obtain ⟨t, ht⟩ := alt_sp (Q := fun x => ∃ t : Int, x = (t : Rat) * phi R.length ps (rowE_ R)) (phi_alt n R.length ps) (clo_mul _) hR.1 ⟨1, by grind⟩ V hVR
  have hc := alt_sp (Q := fun x => x = 0) (comb_alt (phi_alt n R.length S) (phi_alt n R.length ps) (phi R.length ps (rowE_ R)) (phi R.length S (rowE_ R))) clo_zero hR.1 (by grind) V hVR
  rw [ht] at hc
  have ht0 : t ≠ 0 := by
    intro h; rw [h] at ht
    exact hne (by rw [ht]; grind)
  have hcc : phi R.length S V = phi R.length S (rowE_ R) * (t : Rat) := by
    have h1 : phi R.length ps (rowE_ R) * (phi R.length S V - phi R.length S (rowE_ R) * (t : Rat)) = 0 := by grind
    rcases Rat.mul_eq_zero.1 h1 with h | h
    · exact absurd h hP0
    · grind
  have hB : ∀ (V : Nat → List Int) (N : Nat), (∀ a, a < R.length → RowLe N (V a)) → ∃ z : Int, phi R.length S V = (z : Rat) ∧ z.natAbs ≤ facN N R.length := fun V N h => det_int R.length (fun a b => (V a).getD (S b) 0) fun a b ha _ => (h a ha).getD _
  obtain ⟨z', h1, h2⟩ := hB V N fun a ha => by obtain ⟨i, -, hi, e⟩ := hV a ha; rw [← e]; exact hN i hi
  -- the form's minor is an integer
  obtain ⟨M, hM⟩ : ∃ M, ∀ a, a < R.length → RowLe M (rowE_ R a) := by
    have : ∀ k, ∃ M, ∀ a, a < k → RowLe M (rowE_ R a) := by
      intro k
      induction k with
      | zero => exact ⟨0, fun a ha => by omega⟩
      | succ k ih =>
        obtain ⟨M, hM⟩ := ih
        obtain ⟨L, hL⟩ : ∃ L, RowLe L (rowE_ R k) := by
          have : ∀ r : List Int, ∃ L, RowLe L r := by
            intro r
            induction r with
            | nil => exact ⟨0, fun x hx => by cases hx⟩
            | cons x r ih =>
              obtain ⟨L, hL⟩ := ih
              refine ⟨L + x.natAbs, fun y hy => ?_⟩
              rcases List.mem_cons.1 hy with rfl | hy
              · omega
              · have := hL y hy; omega
          exact this _
        refine ⟨M + L, fun a ha => ?_⟩
        by_cases hk : a = k
        · rw [hk]; exact hL.mono (by omega)
        · exact (hM a (by omega)).mono (by omega)
    exact this _
  obtain ⟨z, h3, -⟩ := hB (rowE_ R) M hM
  refine ⟨z, h3, ?_⟩
  rw [h1, h3] at hcc
  have hz : z' = z * t := by exact_mod_cast hcc
  rw [hz, Int.natAbs_mul] at h2
  exact Nat.le_trans (Nat.le_mul_of_pos_right _ (by omega)) h2

/-- The elements of the form are bounded. -/
theorem form_bound_of {n N : Nat} {m R : List (List Int)} {ps : Nat → Nat} (hR : HForm n R ps) (hN : ∀ i, i < m.length → RowLe N (rowE_ m i)) (hs1 : ∀ r, RowsFrom 0 m r → Sp n (RowsFrom 0 R) r) (hV : ∃ V : Nat → List Int, (∀ a, a < R.length → RowsFrom 0 m (V a)) ∧ phi R.length ps V ≠ 0) : ∀ i, i < R.length → RowLe (R.length * facN N R.length) (rowE_ R i) := by
  obtain ⟨k, hk⟩ : ∃ k, k = R.length := ⟨_, rfl⟩
  have hpp := prodP_pos hR _ (Nat.le_refl R.length)
  have hP := phi_piv hR _ (Nat.le_refl R.length)
  rw [← hk] at hpp hP
  have key : ∀ i c, i < R.length → (getE R i c).natAbs ≤ R.length * facN N R.length := by
    intro i c hi
    rw [← hk] at hi ⊢
    obtain ⟨x, hx⟩ := back_sub (k := k) (mnr ps (rowE_ R)) (fun a b hab ha => by
      have h : getE R a (ps b) = 0 := hR.2.zero a (by omega) (ps b) (hR.2.mono b a hab (by omega))
      show ((getE R a (ps b) : Int) : Rat) = 0
      rw [h]; rfl) (fun a ha h => by
      have h1 : ((getE R a (ps a) : Int) : Rat) = 0 := h
      have h2 : getE R a (ps a) = 0 := by exact_mod_cast h1
      have := hR.2.pos a (by omega); omega) (fun a => ((getE R a c : Int) : Rat)) k (Nat.le_refl _)
    -- Cramer
    have hcr : ∀ r, r < k → phi k (fun b => if b = r then c else ps b) (rowE_ R) = x r * (prodP R ps k : Rat) := by
      intro r hr
      rw [← hP]
      have e1 : phi k (fun b => if b = r then c else ps b) (rowE_ R) = detF k (fun a b => if b = r then (0 : Rat) + sumQ k (fun l => x l * mnr ps (rowE_ R) a l) else mnr ps (rowE_ R) a b) := by
        unfold phi
        refine detF_congr fun a b ha hb => ?_
        by_cases hbr : b = r
        · rw [if_pos hbr, ← hx a (by omega) ha]
          show (((rowE_ R a).getD (if b = r then c else ps b) 0 : Int) : Rat) = _
          rw [if_pos hbr]; show ((getE R a c : Int) : Rat) = _; grind
        · rw [if_neg hbr]
          show (((rowE_ R a).getD (if b = r then c else ps b) 0 : Int) : Rat) = _
          rw [if_neg hbr]; rfl
      rw [e1, detF_col_sum (mnr ps (rowE_ R)) hr (fun _ => 0) k x (fun l a => mnr ps (rowE_ R) a l)]
      have e2 : detF k (fun a b => if b = r then (0 : Rat) else mnr ps (rowE_ R) a b) = 0 := by
        rw [← detF_tr]
        exact detF_zero_row (r := r) hr fun b _ => if_pos rfl
      rw [e2, sumQ_one (k := r) hr fun l hl hne => ?_]
      · have e3 : detF k (fun a b => if b = r then mnr ps (rowE_ R) a r else mnr ps (rowE_ R) a b) = phi k ps (rowE_ R) := by
          unfold phi
          refine detF_congr fun a b _ _ => ?_
          by_cases hbr : b = r
          · rw [if_pos hbr, hbr]
          · rw [if_neg hbr]
        rw [e3]; grind
      · have e4 : detF k (fun a b => if b = r then mnr ps (rowE_ R) a l else mnr ps (rowE_ R) a b) = 0 :=
          detF_col_eq hr hl (fun h => hne h.symm) fun b _ => by rw [if_pos rfl, if_neg hne]
        rw [e4]; grind
    -- the product of the pivots, times the element
    have hsum : ((prodP R ps k : Int) : Rat) * ((getE R i c : Int) : Rat) = sumQ k fun l => phi k (fun b => if b = l then c else ps b) (rowE_ R) * mnr ps (rowE_ R) i l := by
      have hxi : ((getE R i c : Int) : Rat) = sumQ k fun l => x l * mnr ps (rowE_ R) i l := hx i (by omega) hi
      rw [hxi, ← sumQ_mul]
      refine sumQ_congr fun l hl => ?_
      rw [hcr l hl]; grind
    obtain ⟨z, hz1, hz2⟩ := sum_int (n := k) (B := facN N k * (prodP R ps k).natAbs) (f := fun l => phi k (fun b => if b = l then c else ps b) (rowE_ R) * mnr ps (rowE_ R) i l) fun l hl => by
      obtain ⟨y, hy1, hy2⟩ := minor_le_of hR hN hs1 hV (fun b => if b = l then c else ps b)
      rw [← hk] at hy1 hy2
      refine ⟨y * getE R i (ps l), ?_, ?_⟩
      · rw [hy1, Rat.intCast_mul]; rfl
      · rw [Int.natAbs_mul]
        refine Nat.mul_le_mul hy2 ?_
        have h5 := hpp.2 l hl
        have h6 := hR.2.pos l (by omega)
        have h7 : (getE R i (ps l)).natAbs ≤ (getE R l (ps l)).natAbs := by
          rcases Nat.lt_trichotomy i l with h | h | h
          · have := hR.2.red i l h (by omega); omega
          · rw [h]; exact Nat.le_refl _
          · rw [hR.2.zero i (by omega) (ps l) (hR.2.mono l i h (by omega))]; simp
        omega
    rw [hz1] at hsum
    have he : prodP R ps k * getE R i c = z := by exact_mod_cast hsum
    rw [← he, Int.natAbs_mul, ← Nat.mul_assoc, Nat.mul_comm] at hz2
    exact Nat.le_of_mul_le_mul_right hz2 (by omega)
  intro i hi y hy
  obtain ⟨c, hc⟩ := List.getElem?_of_mem hy
  have := key i c hi
  unfold getE at this
  rw [List.getD_eq_getElem?_getD, hc] at this
  exact this
theorem form_bound {n N : Nat} {m R : List (List Int)} {ps : Nat → Nat} (hR : HForm n R ps) (hw : Wid n m) (hN : ∀ i, i < m.length → RowLe N (rowE_ m i)) (hs : SpEq n (RowsFrom 0 m) (RowsFrom 0 R)) : ∀ i, i < R.length → RowLe (R.length * facN N R.length) (rowE_ R i) :=
  form_bound_of hR hN hs.1 (some_minor hR hw hs)
end Go.Proofs.YtjihfabhgcfjnaaGreatDoor
/- slices.EqualFunc at api.Matrix; row.Equal. -/
namespace Go.Proofs.YtjihfabhgcfjnaaGreatDoor
set_option linter.unusedVariables false
set_option linter.unusedSimpArgs false
open Go.RowKit

/-- The lengths are equal and p holds of each pair. -/
def eqBy {α : Type} (p : α → α → Bool) (xs ys : List α) : Bool := decide (xs.length = ys.length) && (xs.zip ys).all fun z => p z.1 z.2
theorem eqBy_cons {α : Type} (p : α → α → Bool) (x y : α) (xs ys : List α) : eqBy p (x :: xs) (y :: ys) = (p x y && eqBy p xs ys) := by
  simp only [eqBy, List.length_cons, List.zip_cons_cons, List.all_cons, Nat.add_right_cancel_iff]
  cases p x y <;> simp
theorem eqBy_beq {α : Type} [BEq α] [LawfulBEq α] : ∀ xs ys : List α, eqBy (· == ·) xs ys = (xs == ys)
  | [], [] => rfl
  | [], y :: ys => by simp [eqBy]
  | x :: xs, [] => by simp [eqBy]
  | x :: xs, y :: ys => by rw [eqBy_cons, eqBy_beq xs ys]; rfl


set_option maxRecDepth 100000 in
set_option maxHeartbeats 1000000 in
/-- slices.EqualFunc: the lengths are equal and p holds of each pair. -/
theorem equalFuncMat_any {α : Type} {R : World → Value → α → Prop} (hR : ∀ w w' v x, Ext w w' → R w v x → R w' v x) (xs ys : List α) (u v : Value) (g : Nat) (lb : Array Value) (p : α → α → Bool) (w : World) (h : ListAt 1 (inCell R) w u xs) (k : ListAt 1 (inCell R) w v ys)
    (eg : ∀ args w, (callFunc g args).run Tryz.prog w = .ok (.enter g args) w) (hp : ∀ W x y a b, x ∈ xs → y ∈ ys → Ext w W → R W a x → R W b y → Calls Tryz.prog g (#[a, b] ++ lb) W fun e W' => e = .returned (.bool (p x y)) ∧ Ext W W') :
    Calls Tryz.prog 177 #[u, v, .func (.func g) #[] lb] w fun e w' => e = .returned (.bool (eqBy p xs ys)) ∧ Ext w w' := by
  obtain ⟨a, c, rfl, h1, h2, -, hc⟩ := inCell.open h
  obtain ⟨a', c', rfl, k1, k2, -, kc⟩ := inCell.open k
  have HC := Lib.hid hc; have KC := Lib.hid kc; have HP := Lib.hid hp; have HR := Lib.hid hR
  clear hc kc h k hp hR
  unfold maxLen at h2 k2
  by_cases hl : xs.length = ys.length
  · have hn : ((xs.length : Int) != (ys.length : Int)) = false := by simp [hl]
    have hle1 : xs.length ≤ ys.length := by omega
    have hle2 : ys.length ≤ xs.length := by omega
    have HL := Lib.hid hl
    clear hl
    go_enter Tryz.func177, Tryz.ntmps177
    go_wp2
    go_loopw [17] (fun t wr => ∃ j : Nat, j ≤ xs.length ∧ t = .int .i64 j ∧ Ext w wr ∧ Hid (eqBy p (xs.drop j) (ys.drop j) = eqBy p xs ys)) (fun t _ => xs.length - (intOf t).toNat)
    case atStart => exact ⟨0, by omega, rfl, Ext.refl _, rfl⟩
    case round =>
      obtain ⟨j, hj, rfl, hE, HT⟩ := hrel
      obtain ⟨wo, rfl⟩ : ∃ wo : World, wo = wr := ⟨_, rfl⟩
      by_cases hlt : j < xs.length
      · obtain ⟨b, off, rfl, hb, hcell⟩ := HC.out (by intro e; simp [e] at hlt)
        obtain ⟨b', off', rfl, hb', hcell'⟩ := KC.out (by intro e; simp [e] at hle1; simp [hle1] at hlt)
        obtain ⟨x, hx⟩ : ∃ x, xs[j]? = some x := ⟨xs[j], List.getElem?_eq_getElem hlt⟩
        obtain ⟨y, hy⟩ : ∃ y, ys[j]? = some y := ⟨ys[j]'(by omega), List.getElem?_eq_getElem _⟩
        obtain ⟨vx, hvx, hcx⟩ := hcell j x hx
        obtain ⟨vy, hvy, hcy⟩ := hcell' j y hy
        have g1 := hE.cell hcx
        have g2 := hE.cell hcy
        have q1 : (j : Int) < (xs.length : Int) := by omega
        have q2 : (j : Int) < (ys.length : Int) := by omega
        have hcall := HP.out wo x y vx vy (List.mem_of_getElem? hx) (List.mem_of_getElem? hy) hE (HR.out _ _ _ _ hE hvx) (HR.out _ _ _ _ hE hvy)
        have hd : eqBy p (xs.drop j) (ys.drop j) = (p x y && eqBy p (xs.drop (j + 1)) (ys.drop (j + 1))) := by
          obtain ⟨hj1, rfl⟩ := List.getElem?_eq_some_iff.1 hx
          obtain ⟨hj2, rfl⟩ := List.getElem?_eq_some_iff.1 hy
          rw [List.drop_eq_getElem_cons hj1, List.drop_eq_getElem_cons hj2, eqBy_cons]
        cases hq : p x y with
        | true =>
          rw [hq] at hcall hd
          rw [Bool.true_and] at hd
          have HT' : Hid (eqBy p (xs.drop (j + 1)) (ys.drop (j + 1)) = eqBy p xs ys) := hd.symm.trans HT.out
          have HCALL := Lib.hid hcall
          clear hcall hq hd hvx hvy hx hy hcell hcell' hcx hcy
          go_wp2_with (go_at_fn g; refine HCALL.out.mono ?_; rintro e w' ⟨rfl, hE'⟩)
          go_roundw
          case rel => exact ⟨j + 1, by omega, by go_num, hE.trans (by assumption), HT'⟩
          case measure => simp [intOf]; omega
        | false =>
          rw [hq] at hcall hd
          rw [Bool.false_and] at hd
          have HF : Hid (eqBy p xs ys = false) := HT.out.symm.trans hd
          have HCALL := Lib.hid hcall
          clear hcall hq hd hvx hvy hx hy hcell hcell' hcx hcy
          go_wp2_with (go_at_fn g; refine HCALL.out.mono ?_; rintro e w' ⟨rfl, hE'⟩)
          go_ret
          rw [HF.out]
          exact ⟨rfl, hE.trans (by assumption)⟩
      · have hge : xs.length ≤ j := by omega
        have HTr : Hid (eqBy p xs ys = true) := by
          unfold Hid
          rw [← HT.out, List.drop_of_length_le (by omega), List.drop_of_length_le (by omega)]
          rfl
        go_wp2
        go_ret
        rw [HTr.out]
        exact ⟨rfl, hE⟩
  · have hn : ((xs.length : Int) != (ys.length : Int)) = true := by simp; omega
    have HF : Hid (eqBy p xs ys = false) := by
      unfold Hid eqBy
      simp [hl]
    clear hl
    go_enter Tryz.func177, Tryz.ntmps177
    go_wp2
    go_ret
    rw [HF.out]
    exact ⟨rfl, Ext.refl _⟩



set_option maxRecDepth 100000 in
theorem rowEqual_any (xs ys : List Int) (u v : Value) (w : World) (h : Ints w u xs) (k : Ints w v ys) :
    Calls Tryz.prog 12 #[u, v] w fun e w' => e = .returned (.bool (xs == ys)) ∧ Ext w w' := by
  have HE := Lib.hid (equalRow_any xs ys u v w h k)
  clear h k
  go_enter Tryz.func12, Tryz.ntmps12
  go_wp2_with fail
  refine HE.out.mono ?_
  rintro e w1 ⟨rfl, hE1⟩
  have HE1 := Lib.hid hE1
  clear hE1
  go_wp2_with fail
  go_ret
  exact ⟨rfl, HE1.out⟩
end Go.Proofs.YtjihfabhgcfjnaaGreatDoor
/- Contracts of package lattice: Check, Equal, checkRow, checkBoth. -/
namespace Go.Proofs.YtjihfabhgcfjnaaGreatDoor
set_option linter.unusedVariables false
set_option linter.unusedSimpArgs false
open Go.RowKit

/-- A lattice in memory. -/
def LatV (w : World) (v : Value) (n : Int) (xss : List (List Int)) : Prop := ∃ u, v = .agg #[.int .i64 n, u] ∧ Rows2 w u xss
theorem LatV.ext {w w' : World} {v : Value} {n : Int} {xss : List (List Int)} (h : LatV w v n xss) (he : Ext w w') : LatV w' v n xss := by
  obtain ⟨u, h1, h2⟩ := h; exact ⟨u, h1, h2.ext he⟩
/-- The error of a lattice. -/
def chkE (n : Int) (xss : List (List Int)) : Int := if latE n xss = 0 then (if hermB xss = true then 0 else 7) else latE n xss
theorem allE_rows {n : Int} : ∀ {xss : List (List Int)}, allE n xss = 0 → ∀ r ∈ xss, okRow r ∧ (r.length : Int) = n
  | [], _, r, h => by simp at h
  | x :: l, h, r, hr => by
    unfold allE at h
    by_cases hx : rowE x = 0
    · rw [if_pos hx] at h
      by_cases hn : (x.length : Int) = n
      · rw [if_pos hn] at h
        rcases List.mem_cons.1 hr with rfl | hr
        · exact ⟨(rowE_zero _).1 hx, hn⟩
        · exact allE_rows h r hr
      · rw [if_neg hn] at h; cases h
    · rw [if_neg hx] at h; exact absurd h hx
theorem latE_rows {n : Int} {xss : List (List Int)} (h : latE n xss = 0) : 0 ≤ n ∧ n ≤ 12 ∧ xss.length ≤ 12 ∧ ∀ r ∈ xss, okRow r ∧ (r.length : Int) = n := by
  unfold latE at h
  by_cases h1 : n < 0 ∨ 12 < n
  · rw [if_pos h1] at h; cases h
  · rw [if_neg h1] at h
    by_cases h2 : 12 < xss.length
    · rw [if_pos h2] at h; cases h
    · rw [if_neg h2] at h
      exact ⟨by omega, by omega, by omega, allE_rows h⟩
theorem tabR_zero {n : Nat} (hn : n ≤ 12) : ∀ {xss : List (List Int)}, (∀ r ∈ xss, okRow r ∧ r.length = n) → tabR n xss = 0
  | [], _ => rfl
  | x :: l, h => by
    have hx := h x (by simp)
    unfold tabR
    rw [if_neg (by omega), if_pos hx.2]
    have : ¬ (x.any fun y => !fitB y) = true := by
      have h0 := (rowE_zero x).2 hx.1
      unfold rowE at h0
      intro hq
      rw [if_neg (by have := hx.2; omega), if_pos hq] at h0
      cases h0
    rw [if_neg this]
    exact tabR_zero hn fun r hr => h r (by simp [hr])
theorem tabE_zero {n : Int} {xss : List (List Int)} (h : latE n xss = 0) : tabE xss = 0 := by
  obtain ⟨h0, h1, h2, h3⟩ := latE_rows h
  unfold tabE
  rw [if_neg (by omega)]
  cases xss with
  | nil => rfl
  | cons x l =>
    have hx := (h3 x (by simp)).2
    exact tabR_zero (n := x.length) (by omega) fun r hr => ⟨(h3 r hr).1, by have := (h3 r hr).2; omega⟩

set_option maxRecDepth 100000 in
set_option maxHeartbeats 1000000 in
theorem isFormE_any (xss : List (List Int)) (v : Value) (n : Nat) (w : World) (h : Rows2 w v xss) (hE : tabE xss = 0) (hn : ∀ r ∈ xss, r.length = n) :
    Calls Tryz.prog 103 #[v] w fun e w' => e = .returned (.tuple #[.bool (hermB xss), .int .i64 0]) ∧ Ext w w' := by
  have HT := Lib.hid (tabCheck_any xss v w h)
  rw [hE] at HT
  have HF := Lib.hid (fun W (hW : Ext w W) => isForm_any xss v n W (h.ext hW) hn)
  obtain ⟨a, c, rfl, h1, h2, -, hc⟩ := inCell.open h
  clear h hE hn hc
  go_enter Tryz.func103, Tryz.ntmps103
  go_wp2_with fail
  refine HT.out.mono ?_
  rintro e w1 ⟨rfl, hE1⟩
  have HE1 := Lib.hid hE1
  clear hE1 HT
  go_wp2_with fail
  refine (HF.out _ HE1.out).mono ?_
  rintro e w2 ⟨rfl, hE2⟩
  have HE2 := Lib.hid (Ext.trans HE1.out hE2)
  clear hE2 HF
  go_wp2_with fail
  go_ret2
  exact ⟨rfl, HE2.out⟩

set_option maxRecDepth 100000 in
set_option maxHeartbeats 2000000 in
theorem latChk_any (n : Int) (xss : List (List Int)) (v : Value) (w : World) (h : LatV w v n xss) :
    Calls Tryz.prog 49 #[v] w fun e w' => e = .returned (.int .i64 (chkE n xss)) ∧ Ext w w' := by
  obtain ⟨u, rfl, hu⟩ := h
  have HC := Lib.hid (fun W (hW : Ext w W) => latCheck_any xss n u W (hu.ext hW))
  have HU := Lib.hid hu
  obtain ⟨a, c, rfl, h1, h2, -, hc⟩ := inCell.open hu
  clear hu hc
  have k0 : (w.alloc (.cells #[.int .i64 n, .slice a xss.length c] 31)).cell? ⟨w.heap.size, 0, none⟩ = some (.int .i64 n) := by rw [World.cell?_alloc_new]; rfl
  have k1 : (w.alloc (.cells #[.int .i64 n, .slice a xss.length c] 31)).cell? ⟨w.heap.size, 1, none⟩ = some (.slice a xss.length c) := by rw [World.cell?_alloc_new]; rfl
  by_cases hl : latE n xss = 0
  · have HFo := Lib.hid (fun W (hW : Ext w W) => isFormE_any xss _ n.toNat W (HU.out.ext hW) (tabE_zero hl) (fun r hr => by have h1 := ((latE_rows hl).2.2.2 r hr).2; have h2 := (latE_rows hl).1; omega))
    have HV : Hid (chkE n xss = if hermB xss = true then 0 else 7) := by unfold Hid chkE; rw [if_pos hl]
    rw [hl] at HC
    obtain ⟨E, hE⟩ : ∃ E, chkE n xss = E := ⟨_, rfl⟩
    rw [hE] at HV ⊢
    clear hl HU hE
    go_enter Tryz.func49, Tryz.ntmps49
    go_wp2_with fail
    refine (HC.out _ (Ext.alloc _ _)).mono ?_
    rintro e w1 ⟨rfl, hE1⟩
    have g1 := hE1.cell k1
    have HE1 := Lib.hid (Ext.trans (Ext.alloc _ _) hE1)
    clear hE1 HC k0 k1
    cases hb : hermB xss with
    | true =>
      have HV2 : Hid (E = 0) := by rw [hb] at HV; exact HV.out
      rw [hb] at HFo
      go_wp2_with fail
      refine (HFo.out _ HE1.out).mono ?_
      rintro e w2 ⟨rfl, hE2⟩
      have HE2 := Lib.hid (Ext.trans HE1.out hE2)
      clear hE2 HFo hb
      go_wp2_with fail
      go_ret
      exact ⟨by rw [HV2.out]; rfl, HE2.out⟩
    | false =>
      have HV2 : Hid (E = 7) := by rw [hb] at HV; exact HV.out
      rw [hb] at HFo
      go_wp2_with fail
      refine (HFo.out _ HE1.out).mono ?_
      rintro e w2 ⟨rfl, hE2⟩
      have HE2 := Lib.hid (Ext.trans HE1.out hE2)
      clear hE2 HFo hb
      go_wp2_with fail
      go_ret
      exact ⟨by rw [HV2.out]; rfl, HE2.out⟩
  · have HV : Hid (chkE n xss = latE n xss) := by unfold Hid chkE; rw [if_neg hl]
    rw [HV.out]
    clear HV HU
    obtain ⟨E, hE⟩ : ∃ E, latE n xss = E := ⟨_, rfl⟩
    rw [hE] at HC hl ⊢
    clear hE
    go_enter Tryz.func49, Tryz.ntmps49
    go_wp2_with fail
    refine (HC.out _ (Ext.alloc _ _)).mono ?_
    rintro e w1 ⟨rfl, hE1⟩
    have HE1 := Lib.hid (Ext.trans (Ext.alloc _ _) hE1)
    clear hE1 HC k0 k1
    go_wp2_with fail
    go_ret
    exact ⟨rfl, HE1.out⟩

set_option maxRecDepth 100000 in
set_option maxHeartbeats 2000000 in
theorem latEqual_any (n k : Int) (xss yss : List (List Int)) (v u : Value) (w : World) (h : LatV w v n xss) (h' : LatV w u k yss) :
    Calls Tryz.prog 152 #[v, u] w fun e w' => e = .returned (.bool (decide (n = k) && xss == yss)) ∧ Ext w w' := by
  obtain ⟨v1, rfl, hv⟩ := h
  obtain ⟨u1, rfl, hu⟩ := h'
  have HEQ : Hid (∀ W, Ext w W → Calls Tryz.prog 177 #[v1, u1, .func (.func 12) #[] #[]] W fun e w' => e = .returned (.bool (xss == yss)) ∧ Ext W w') := fun W hW => by
    have := equalFuncMat_any (R := Ints) (fun _ _ _ _ he h => Ints.ext h he) xss yss v1 u1 12 #[] (· == ·) W (hv.ext hW) (hu.ext hW) (enters_of Tryz.func12 (by kernel_rfl) rfl) (fun W x y a b _ _ _ ha hb => rowEqual_any x y a b W ha hb)
    rw [eqBy_beq] at this
    exact this
  obtain ⟨a, c, rfl, h1, h2, -, hc⟩ := inCell.open hv
  obtain ⟨a', c', rfl, k1, k2, -, kc⟩ := inCell.open hu
  clear hv hu hc kc
  by_cases hnk : n = k
  · subst hnk
    obtain ⟨B, hB⟩ : ∃ B : Bool, (xss == yss) = B := ⟨_, rfl⟩
    rw [hB] at HEQ ⊢
    clear hB
    have hd : (decide (n = n)) = true := decide_eq_true rfl
    rw [hd, Bool.true_and]
    clear hd
    go_enter Tryz.func152, Tryz.ntmps152
    go_wp2_with fail
    refine (HEQ.out _ ((Ext.alloc _ _).trans (Ext.alloc _ _))).mono ?_
    rintro e w1 ⟨rfl, hE1⟩
    have HE1 := Lib.hid (Ext.trans ((Ext.alloc _ _).trans (Ext.alloc _ _)) hE1)
    clear hE1 HEQ
    go_wp2_with fail
    go_ret
    exact ⟨rfl, HE1.out⟩
  · have HF : Hid ((decide (n = k) && xss == yss) = false) := by unfold Hid; rw [decide_eq_false hnk]; rfl
    rw [HF.out]
    clear HEQ HF
    go_enter Tryz.func152, Tryz.ntmps152
    go_wp2_with fail
    go_ret
    exact ⟨rfl, (Ext.alloc _ _).trans (Ext.alloc _ _)⟩

end Go.Proofs.YtjihfabhgcfjnaaGreatDoor
/- The lattice of a plan: its form, and the classes of rows. No program is named here. -/
namespace Go.Proofs.YtjihfabhgcfjnaaGreatDoor
set_option linter.unusedVariables false
set_option linter.unusedSimpArgs false
open Go.RowKit

theorem rowE_mem {m : List (List Int)} {i : Nat} (hi : i < m.length) : rowE_ m i ∈ m := List.mem_of_getElem? (rowE_get hi)
theorem mem_rowE {m : List (List Int)} {x : List Int} (hx : x ∈ m) : ∃ i, i < m.length ∧ rowE_ m i = x := by
  obtain ⟨i, hi⟩ := List.getElem?_of_mem hx
  exact ⟨i, (List.getElem?_eq_some_iff.1 hi).1, rowE_of hi⟩
theorem smB_small {x : Int} (h : x.natAbs ≤ 1000000000) : smB x = true := smB_of (K := 10) (by decide) (by decide) (Nat.lt_of_le_of_lt h (by decide))
theorem all_smB {r : List Int} (h : RowLe 1000000000 r) : r.all smB = true := by
  rw [List.all_eq_true]; exact fun x hx => smB_small (h x hx)
theorem okRow_of {r : List Int} (hl : r.length ≤ 64) (h : RowLe 1000000000 r) : okRow r := ⟨hl, fun x hx => by have := h x hx; omega⟩
theorem allE_of {n : Nat} : ∀ {R : List (List Int)}, (∀ r ∈ R, okRow r ∧ r.length = n) → allE n R = 0
  | [], _ => rfl
  | r :: l, h => by
    have hr := h r (by simp)
    unfold allE
    rw [if_pos ((rowE_zero r).2 hr.1), if_pos (by omega)]
    exact allE_of fun x hx => h x (by simp [hx])

/-- The form of few small rows. -/
theorem plan_form (n : Nat) (m : List (List Int)) (hn : n ≤ 12) (hm : m.length ≤ 4) (hw : ∀ x ∈ m, x.length = n) (h9 : ∀ x ∈ m, RowLe 9 x) :
    ∃ F R ps, formO n F n m = some R ∧ HForm n R ps ∧ R.length ≤ 4 ∧ (∀ x ∈ R, RowLe 629856 x ∧ x.length = n) ∧ SpEq n (RowsFrom 0 m) (RowsFrom 0 R) ∧ chkE n R = 0 ∧ ∃ F', formO n F' n R = some R := by
  obtain ⟨F, R, ps, h1, h2, h3, -, h5⟩ := form_all n 4 1 m hw (fun x hx => (h9 x hx).mono (by decide)) (.inl hm) (by decide) (by decide)
  have hR4 : R.length ≤ 4 := by omega
  have hb : ∀ x ∈ R, RowLe 629856 x ∧ x.length = n := by
    intro x hx
    obtain ⟨i, hi, rfl⟩ := mem_rowE hx
    refine ⟨(form_bound (N := 9) h3 (fun j hj => hw _ (rowE_mem hj)) (fun j hj => h9 _ (rowE_mem hj)) h5 i hi).mono ?_, h3.1 i hi⟩
    have hc : R.length = 0 ∨ R.length = 1 ∨ R.length = 2 ∨ R.length = 3 ∨ R.length = 4 := by omega
    rcases hc with h | h | h | h | h <;> rw [h] <;> decide
  have hk : chkE n R = 0 := by
    unfold chkE
    have hl : latE n R = 0 := by
      unfold latE
      rw [if_neg (by omega), if_neg (by omega)]
      exact allE_of fun r hr => ⟨okRow_of (by have := (hb r hr).2; omega) ((hb r hr).1.mono (by decide)), (hb r hr).2⟩
    rw [if_pos hl, if_pos (hform_herm h3)]
  refine ⟨F, R, ps, h1, h3, hR4, hb, h5, hk, ?_⟩
  obtain ⟨F', R', ps', g1, g2, g3, -, g5⟩ := form_all n 4 6 R (fun x hx => (hb x hx).2) (fun x hx => (hb x hx).1.mono (by decide)) (.inl hR4) (by decide) (by decide)
  exact ⟨F', by rw [g1, hform_unique g3 h3 g5.symm]⟩

end Go.Proofs.YtjihfabhgcfjnaaGreatDoor
/- A reduced row is bounded. No program is named here. -/
namespace Go.Proofs.YtjihfabhgcfjnaaGreatDoor
set_option linter.unusedVariables false
set_option linter.unusedSimpArgs false
open Go.RowKit

theorem sumQ_zeros : ∀ (k : Nat) (f : Nat → Rat), (∀ i, i < k → f i = 0) → sumQ k f = 0
  | 0, _, _ => rfl
  | k + 1, f, h => by
    show sumQ k f + f k = 0
    rw [sumQ_zeros k f fun i hi => h i (by omega), h k (by omega)]; grind
theorem repl_getD (n c : Nat) : (List.replicate n (0 : Int)).getD c 0 = 0 := by
  rw [List.getD_eq_getElem?_getD]
  by_cases hc : c < n
  · rw [List.getElem?_eq_getElem (by simpa using hc)]; simp
  · rw [List.getElem?_eq_none (by simp; omega)]; rfl
end Go.Proofs.YtjihfabhgcfjnaaGreatDoor
