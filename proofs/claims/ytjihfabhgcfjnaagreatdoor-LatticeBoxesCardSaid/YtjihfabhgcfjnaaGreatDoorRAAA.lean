/- Merged: ContP, LeadZ, IdxP, ClassP, BoxP. -/
import Derived.Test.YtjihfabhgcfjnaaGreatDoorQAN
import Derived.Test.YtjihfabhgcfjnaaGreatDoorQAW
import Derived.Test.YtjihfabhgcfjnaaGreatDoorQAX
import Derived.Test.YtjihfabhgcfjnaaGreatDoorQAT
import Derived.Test.YtjihfabhgcfjnaaGreatDoorQAZ
/- The representative as the reference works it out in Go's ints: its steps and their bounds. No program is named here. -/
namespace Go.Proofs.YtjihfabhgcfjnaaGreatDoor
set_option linter.unusedVariables false
set_option linter.unusedSimpArgs false
open Go.RowKit

/-- The row left, and the multiples taken away, behind the first i rows. -/
def repS (R : List (List Int)) (v : List Int) : Nat → List Int × List Int
  | 0 => (v, [])
  | i + 1 => (lessL (mulQ (repS R v i).1 (rowE_ R i)) (repS R v i).1 (rowE_ R i), (repS R v i).2 ++ [mulQ (repS R v i).1 (rowE_ R i)])
theorem redO_repS {R : List (List Int)} {v : List Int} : ∀ {i : Nat} {y : List Int × List Int}, redO R v i = some y → y = repS R v i
  | 0, y, h => by unfold redO at h; exact (Option.some.inj h).symm
  | i + 1, y, h => by
    obtain ⟨s, m, h0, -, -, -, -, hl, hm⟩ := redO_step h
    have e := redO_repS h0
    have e1 : s = (repS R v i).1 := by rw [← e]
    have e2 : m = (repS R v i).2 := by rw [← e]
    have h3 := lessO_some hl
    obtain ⟨y1, y2⟩ := y
    simp only at h3 hm
    unfold repS
    rw [h3, hm, e1, e2]
def tB (A : Nat) : Nat → Nat
  | 0 => 0
  | i + 1 => tB A i + (A + tB A i + 1)
theorem hform_pivC {n : Nat} {R : List (List Int)} {ps : Nat → Nat} (hR : HForm n R ps) {i : Nat} (hi : i < R.length) : pivC (rowE_ R i) = ps i := by
  unfold pivC; rw [hform_lead hR hi]; simp
theorem rep_bound {n A M : Nat} {R : List (List Int)} {ps : Nat → Nat} (hR : HForm n R ps) (hM : ∀ i, i < R.length → RowLe M (rowE_ R i)) {v : List Int} (hv : v.length = n) (hA : RowLe A v) :
    ∀ i, i ≤ R.length → (repS R v i).1.length = n ∧ (∀ c, ((repS R v i).1.getD c 0).natAbs ≤ A + tB A i * M) ∧ (∀ j, i ≤ j → j < R.length → ((repS R v i).1.getD (ps j) 0).natAbs ≤ A + tB A i * ((getE R j (ps j)).natAbs - 1)) ∧
      (repS R v i).2.length = i ∧ (∀ x ∈ (repS R v i).2, x.natAbs ≤ tB A i) ∧ (i < R.length → (mulQ (repS R v i).1 (rowE_ R i)).natAbs ≤ A + tB A i + 1)
  | i, hi => by
    have hstep : ∀ i, i < R.length → (∀ j, i ≤ j → j < R.length → ((repS R v i).1.getD (ps j) 0).natAbs ≤ A + tB A i * ((getE R j (ps j)).natAbs - 1)) → (mulQ (repS R v i).1 (rowE_ R i)).natAbs ≤ A + tB A i + 1 := by
      intro i hi h3
      have h := h3 i (Nat.le_refl _) hi
      have hp := hR.2.pos i hi
      unfold mulQ
      rw [hform_pivC hR hi]
      have e : (rowE_ R i).getD (ps i) 0 = getE R i (ps i) := rfl
      rw [e]
      obtain ⟨h4, -⟩ := fdq_mul_le ((repS R v i).1.getD (ps i) 0) (getE R i (ps i)) (by omega)
      obtain ⟨p, hp'⟩ : ∃ p, (getE R i (ps i)).natAbs = p + 1 := ⟨(getE R i (ps i)).natAbs - 1, by omega⟩
      rw [hp'] at h h4
      rw [Nat.add_sub_cancel] at h
      refine Nat.le_of_mul_le_mul_right (Nat.le_trans h4 (Nat.le_trans (Nat.add_le_add_right h _) ?_)) (by omega : 0 < p + 1)
      have e3 : (A + tB A i + 1) * (p + 1) = A * p + A + (tB A i * p + tB A i) + (p + 1) := by rw [Nat.add_mul, Nat.add_mul, Nat.mul_succ, Nat.mul_succ, Nat.one_mul]
      rw [e3]
      have := Nat.zero_le (A * p)
      omega
    induction i with
    | zero =>
      have h3 : ∀ j, 0 ≤ j → j < R.length → ((repS R v 0).1.getD (ps j) 0).natAbs ≤ A + tB A 0 * ((getE R j (ps j)).natAbs - 1) := fun j _ _ => Nat.le_trans (hA.getD _) (Nat.le_add_right _ _)
      exact ⟨hv, fun c => Nat.le_trans (hA.getD c) (Nat.le_add_right _ _), h3, rfl, (fun x hx => by cases hx), fun h => hstep 0 h h3⟩
    | succ i ih =>
      obtain ⟨h1, h2, h3, h4, h5, h6⟩ := ih (by omega)
      have ht := h6 (by omega)
      have hRl := hR.1 i (by omega)
      have e1 : (repS R v (i + 1)).1 = lessL (mulQ (repS R v i).1 (rowE_ R i)) (repS R v i).1 (rowE_ R i) := rfl
      have e2 : (repS R v (i + 1)).2 = (repS R v i).2 ++ [mulQ (repS R v i).1 (rowE_ R i)] := rfl
      have e3 : tB A (i + 1) = tB A i + (A + tB A i + 1) := rfl
      have key : ∀ (c K : Nat), ((repS R v i).1.getD c 0).natAbs ≤ A + tB A i * K → ((rowE_ R i).getD c 0).natAbs ≤ K → ((repS R v (i + 1)).1.getD c 0).natAbs ≤ A + tB A (i + 1) * K := by
        intro c K ha hb
        rw [e1, lessL_getD _ (by rw [hRl, h1]), e3, Nat.add_mul]
        have hm : (mulQ (repS R v i).1 (rowE_ R i) * (rowE_ R i).getD c 0).natAbs ≤ (A + tB A i + 1) * K := by rw [Int.natAbs_mul]; exact Nat.mul_le_mul ht hb
        omega
      have k3 : ∀ j, i + 1 ≤ j → j < R.length → ((repS R v (i + 1)).1.getD (ps j) 0).natAbs ≤ A + tB A (i + 1) * ((getE R j (ps j)).natAbs - 1) := fun j hj hjl => by
        refine key _ _ (h3 j (by omega) hjl) ?_
        have := hR.2.red i j (by omega) hjl
        have e : (rowE_ R i).getD (ps j) 0 = getE R i (ps j) := rfl
        rw [e]; omega
      refine ⟨by rw [e1, lessL_len]; exact h1, fun c => key c M (h2 c) ((hM i (by omega)).getD c), k3, by rw [e2, List.length_append, h4]; rfl, fun x hx => ?_, fun h => hstep (i + 1) h k3⟩
      rw [e2] at hx
      rcases List.mem_append.1 hx with hx | hx
      · have := h5 x hx; omega
      · rw [List.mem_singleton.1 hx]; omega
end Go.Proofs.YtjihfabhgcfjnaaGreatDoor
/- A row without a leading element is a row of zeros; a row of a lattice leaves nothing. No program is named here. -/
namespace Go.Proofs.YtjihfabhgcfjnaaGreatDoor
set_option linter.unusedVariables false
set_option linter.unusedSimpArgs false
open Go.RowKit

theorem leadL_zeros (n : Nat) {s : List Int} (hs : s.length = n) : leadL s < 0 ↔ s = List.replicate n 0 := by
  unfold leadL
  constructor
  · intro h
    cases hf : s.findIdx? (· != 0) with
    | some i => rw [hf] at h; simp only at h; omega
    | none =>
      rw [List.findIdx?_eq_none_iff] at hf
      exact List.eq_replicate_iff.2 ⟨hs, fun x hx => by simpa using hf x hx⟩
  · intro h
    have : s.findIdx? (· != 0) = none := by
      rw [List.findIdx?_eq_none_iff]
      intro x hx
      rw [h] at hx
      rw [(List.mem_replicate.1 hx).2]; rfl
    rw [this]; decide
end Go.Proofs.YtjihfabhgcfjnaaGreatDoor
/- A form within another one of as many rows: the products of the pivots; equal exactly if the quotient is 1. No program is named here. -/
namespace Go.Proofs.YtjihfabhgcfjnaaGreatDoor
set_option linter.unusedVariables false
set_option linter.unusedSimpArgs false
open Go.RowKit

theorem RowsFrom.low {d e : Nat} {m : List (List Int)} {r : List Int} (h : RowsFrom d m r) (he : e ≤ d) : RowsFrom e m r := by
  obtain ⟨i, h1, h2, h3⟩ := h; exact ⟨i, by omega, h2, h3⟩
/-- A combination of the rows from d on is nought ahead of the pivot of row d. -/
theorem Sp.ahead {n d : Nat} {S : List (List Int)} {ss : Nat → Nat} (hS : HForm n S ss) (hd : d < S.length) {v : List Int} (h : Sp n (RowsFrom d S) v) {c : Nat} (hc : c < ss d) : v.getD c 0 = 0 :=
  h.zeroCol (rowsFrom_len hS.1) (by
    rintro r ⟨i, h1, h2, rfl⟩
    have h3 : c < ss i := by
      rcases Nat.lt_or_ge d i with h | h
      · have := hS.2.mono d i h h2; omega
      · rw [show i = d by omega]; exact hc
    exact hS.2.zero i h2 c h3)
end Go.Proofs.YtjihfabhgcfjnaaGreatDoor
/- The functions of package lattice at the lattice of a plan. -/
namespace Go.Proofs.YtjihfabhgcfjnaaGreatDoor
set_option linter.unusedVariables false
set_option linter.unusedSimpArgs false
open Go.RowKit

/-- What a plan's form is. -/
structure PlanF (n : Nat) (m R : List (List Int)) (ps : Nat → Nat) : Prop where
  n12 : n ≤ 12
  rows : ∀ x ∈ m, x.length = n
  nine : ∀ x ∈ m, RowLe 9 x
  form : HForm n R ps
  four : R.length ≤ 4
  els : ∀ x ∈ R, RowLe 629856 x ∧ x.length = n
  span : SpEq n (RowsFrom 0 m) (RowsFrom 0 R)
  chk : chkE n R = 0
theorem PlanF.rowLE {n : Nat} {m R : List (List Int)} {ps : Nat → Nat} (h : PlanF n m R ps) {x : List Int} (hx : x.length = n) (hb : RowLe 1000 x) : rowLE n R x = 0 := by
  unfold Go.Proofs.YtjihfabhgcfjnaaGreatDoor.rowLE
  have hn := h.n12
  rw [if_pos h.chk, if_pos ((rowE_zero x).2 (okRow_of (by omega) (hb.mono (by decide)))), if_pos (by omega)]
set_option maxRecDepth 100000 in
/-- A row of ints that is made, in a region that draws its order. -/
theorem make_up {Q : Exit → Act → World → Prop} {K : Act → World → Prop} {o : Oper} {a : Act} (w : World) (n : Nat) (hn : n ≤ 1000)
    (hK : ∀ V, RowF V w.heap.size (List.replicate n 0) → w.heap.size < V.heap.size → Ext w V → K (a.put o.dst (.slice (some ⟨w.heap.size, 0, none⟩) n n)) V) :
    Oper.upon Tryz.prog o a K Q ((Sem.run Tryz.prog (Instr.makeSlice 37 (.int .i64 (n : Int)) (.int .i64 (n : Int))) w).andThen fun a w' => Result.ok (Next.value a) w') := by
  obtain ⟨i0, hi, hz0, hz1, hz2⟩ := info_parts infoInt
  obtain ⟨w', hrun, r1, r2⟩ := run_make_full (P := Tryz.prog) w w.heap.size 37 3 i0 (.int .i64 0) 1 Tryz.underlying37 hi hz0 hz1 .i64 .i64 n (by rw [hz2]; omega) (by unfold maxLen; omega) (Nat.le_refl _)
  rw [Nat.mul_one] at r1
  have e : (madeCells (Value.int .i64 0).cells n).toList = _ := made_ints .i64 n
  rw [e] at r1
  have hR := RowF.ofOwn r1
  have h := hK w' hR hR.lt (ext_grown r2)
  simp only [hrun, Result.andThen]
  exact h
section
variable {P : Program} {ops O : Array Oper} {Q : Exit → Act → World → Prop} {md : Region.Mode} {S : World → Prop} {z n : Nat}
end
end Go.Proofs.YtjihfabhgcfjnaaGreatDoor
/- Law 09, plain: the rows of a lattice within a box, in order. No program is named here. -/
namespace Go.Proofs.YtjihfabhgcfjnaaGreatDoor
set_option linter.unusedVariables false
set_option linter.unusedSimpArgs false
open Go.RowKit

/-- The order of the rows. -/
def LexLt (v w : List Int) : Prop := ∃ j, (∀ x, x < j → v.getD x 0 = w.getD x 0) ∧ v.getD j 0 < w.getD j 0
theorem LexLt.asymm {v w : List Int} (h : LexLt v w) (k : LexLt w v) : False := by
  obtain ⟨i, h1, h2⟩ := h
  obtain ⟨j, k1, k2⟩ := k
  rcases Nat.lt_trichotomy i j with h | h | h
  · have := k1 i h; omega
  · subst h; omega
  · have := h1 j h; omega
theorem sorted_same {α : Type} {R : α → α → Prop} (hR : ∀ a b, R a b → R b a → False) : ∀ {l m : List α}, l.Pairwise R → m.Pairwise R → (∀ a, a ∈ l ↔ a ∈ m) → l = m
  | [], [], _, _, _ => rfl
  | [], b :: m, _, _, h => by have := (h b).2 (List.mem_cons_self ..); cases this
  | a :: l, [], _, _, h => by have := (h a).1 (List.mem_cons_self ..); cases this
  | a :: l, b :: m, hl, hm, h => by
    rw [List.pairwise_cons] at hl hm
    have hab : a = b := by
      rcases List.mem_cons.1 ((h a).1 (List.mem_cons_self ..)) with e | e
      · exact e
      · rcases List.mem_cons.1 ((h b).2 (List.mem_cons_self ..)) with f | f
        · exact f.symm
        · exact (hR _ _ (hl.1 b f) (hm.1 a e)).elim
    subst hab
    rw [sorted_same hR hl.2 hm.2 fun x => ?_]
    constructor
    · intro hx
      rcases List.mem_cons.1 ((h x).1 (List.mem_cons_of_mem _ hx)) with e | e
      · subst e; exact (hR _ _ (hl.1 _ hx) (hl.1 _ hx)).elim
      · exact e
    · intro hx
      rcases List.mem_cons.1 ((h x).2 (List.mem_cons_of_mem _ hx)) with e | e
      · subst e; exact (hR _ _ (hm.1 _ hx) (hm.1 _ hx)).elim
      · exact e

/-- The numbers with which an element lies within the box. -/
def ksL (M s p : Int) : List Int := (List.range ((M - s) / p + (s + M) / p + 1).toNat).map fun a : Nat => -((s + M) / p) + (a : Int)
theorem mem_ksL {M s p k : Int} (hp : 0 < p) : k ∈ ksL M s p ↔ -M ≤ s + k * p ∧ s + k * p ≤ M := by
  have e1 : k ≤ (M - s) / p ↔ k * p ≤ M - s := Int.le_ediv_iff_mul_le hp
  have e2 : -k ≤ (s + M) / p ↔ -k * p ≤ s + M := Int.le_ediv_iff_mul_le hp
  rw [Int.neg_mul] at e2
  unfold ksL
  rw [List.mem_map]
  constructor
  · rintro ⟨a, ha, rfl⟩
    rw [List.mem_range] at ha
    have h1 := e1.1 (by omega)
    have h2 := e2.1 (by omega)
    omega
  · rintro ⟨h1, h2⟩
    have h3 := e1.2 (by omega)
    have h4 := e2.2 (by omega)
    exact ⟨(k + (s + M) / p).toNat, by rw [List.mem_range]; omega, by omega⟩
theorem ksL_sorted (M s p : Int) : (ksL M s p).Pairwise (· < ·) := by
  unfold ksL
  rw [List.pairwise_map]
  exact List.pairwise_lt_range.imp fun h => by omega

/-- All elements of a part lie within the box. -/
def inB (M : Int) (a b : Nat) (s : List Int) : Bool := ((s.take b).drop a).all fun x => decide (-M ≤ x) && decide (x ≤ M)
theorem inB_iff {M : Int} {a b : Nat} {s : List Int} (hb : b ≤ s.length) : inB M a b s = true ↔ ∀ x, a ≤ x → x < b → -M ≤ s.getD x 0 ∧ s.getD x 0 ≤ M := by
  unfold inB
  rw [List.all_eq_true]
  constructor
  · intro h x h1 h2
    have := h (s.getD x 0) (by
      rw [List.mem_iff_getElem?]
      refine ⟨x - a, ?_⟩
      rw [List.getElem?_drop, List.getElem?_take, if_pos (by omega), show a + (x - a) = x by omega, List.getElem?_eq_getElem (by omega), List.getD_eq_getElem?_getD, List.getElem?_eq_getElem (by omega)]
      rfl)
    simpa using this
  · intro h y hy
    obtain ⟨i, hi⟩ := List.mem_iff_getElem?.1 hy
    rw [List.getElem?_drop, List.getElem?_take] at hi
    by_cases hlt : a + i < b
    · rw [if_pos hlt] at hi
      have := h (a + i) (by omega) hlt
      rw [List.getD_eq_getElem?_getD, hi] at this
      simpa using this
    · rw [if_neg hlt] at hi; cases hi

/-- What search adds: the rows whose sum of the first rows is s. -/
def searchL (M : Int) (n : Nat) (R : List (List Int)) : Nat → Nat → List Int → Nat → List (List Int)
  | 0, i, s, c => if inB M c n s = true then [s] else []
  | j + 1, i, s, c => if inB M c (pivC (rowE_ R i)) s = true then (ksL M (s.getD (pivC (rowE_ R i)) 0) ((rowE_ R i).getD (pivC (rowE_ R i)) 0)).flatMap fun k => searchL M n R j (i + 1) (lessL (-k) s (rowE_ R i)) (pivC (rowE_ R i)) else []

section
variable {M : Int} {n : Nat} {R : List (List Int)} {ps : Nat → Nat} (hR : HForm n R ps)
include hR
theorem search_mem : ∀ (j i : Nat) (s : List Int) (c : Nat), i + j = R.length → s.length = n → (∀ d, i ≤ d → d < R.length → c ≤ ps d) → c ≤ n → ∀ v,
    v ∈ searchL M n R j i s c ↔ Sp n (RowsFrom i R) (lessL 1 v s) ∧ v.length = n ∧ ∀ x, c ≤ x → x < n → -M ≤ v.getD x 0 ∧ v.getD x 0 ≤ M
  | 0, i, s, c, hij, hs, hc, hcn, v => by
    unfold searchL
    constructor
    · intro hv
      by_cases hb : inB M c n s = true
      · rw [if_pos hb] at hv
        obtain rfl := List.mem_singleton.1 hv
        refine ⟨?_, hs, (inB_iff (by omega)).1 hb⟩
        rw [lessL_self, hs]; exact .zero
      · rw [if_neg hb] at hv; cases hv
    · rintro ⟨h1, h2, h3⟩
      have hv : v = s := by
        have hz : lessL 1 v s = List.replicate n 0 := row_zero (by rw [lessL_len]; exact h2) fun x hx => h1.zeroCol (rowsFrom_len hR.1) (by rintro r ⟨d, d1, d2, rfl⟩; omega)
        refine ext_getD (by omega) fun x => ?_
        have e : (lessL 1 v s).getD x 0 = 0 := by rw [hz, repl_getD]
        rw [lessL_getD 1 (by omega)] at e
        omega
      subst hv
      rw [if_pos ((inB_iff (by omega)).2 h3)]
      exact List.mem_singleton.2 rfl
  | j + 1, i, s, c, hij, hs, hc, hcn, v => by
    have hi : i < R.length := by omega
    have hpc := hform_pivC hR hi
    have hpn := hR.2.lt i hi
    have hpos : 0 < (rowE_ R i).getD (ps i) 0 := hR.2.pos i hi
    have hrl := hR.1 i hi
    have hcp := hc i (Nat.le_refl _) hi
    have IH := fun k v => search_mem j (i + 1) (lessL (-k) s (rowE_ R i)) (ps i) (by omega) (by rw [lessL_len]; exact hs) (fun d h1 h2 => Nat.le_of_lt (hR.2.mono i d (by omega) h2)) (by omega) v
    have hlow : ∀ (w : List Int), Sp n (RowsFrom i R) w → ∀ x, x < ps i → w.getD x 0 = 0 := fun w hw x hx => hw.zeroCol (rowsFrom_len hR.1) (by
      rintro r ⟨d, d1, d2, rfl⟩
      refine hR.2.zero d d2 x ?_
      rcases Nat.lt_or_ge i d with h | h
      · have := hR.2.mono i d h d2; omega
      · obtain rfl : d = i := by omega
        exact hx)
    have hrow : ∀ k, Sp n (RowsFrom (i + 1) R) (lessL 1 v (lessL (-k) s (rowE_ R i))) → v.length = n → Sp n (RowsFrom i R) (lessL 1 v s) := fun k h hv => by
      have e : lessL 1 v s = lessL (-k) (lessL 1 v (lessL (-k) s (rowE_ R i))) (rowE_ R i) := by
        refine ext_getD (by rw [lessL_len, lessL_len, lessL_len]) fun x => ?_
        rw [lessL_getD 1 (by omega), lessL_getD (-k) (by rw [lessL_len]; omega), lessL_getD 1 (by rw [lessL_len]; omega), lessL_getD (-k) (by omega)]
        omega
      rw [e]
      exact .less _ (h.mono fun r hr => .mem (hr.low (Nat.le_succ _))) (.mem (rowsFrom_mem (Nat.le_refl _) hi))
    unfold searchL
    rw [hpc]
    constructor
    · intro hv
      by_cases hb : inB M c (ps i) s = true
      · rw [if_pos hb] at hv
        obtain ⟨k, hk, hv⟩ := List.mem_flatMap.1 hv
        obtain ⟨h1, h2, h3⟩ := (IH k v).1 hv
        have h4 := hrow k h1 h2
        refine ⟨h4, h2, fun x hx1 hx2 => ?_⟩
        rcases Nat.lt_or_ge x (ps i) with h | h
        · have e := hlow _ h4 x h
          rw [lessL_getD 1 (by omega)] at e
          have := (inB_iff (by omega)).1 hb x hx1 h
          omega
        · exact h3 x h hx2
      · rw [if_neg hb] at hv; cases hv
    · rintro ⟨h1, h2, h3⟩
      have hb : inB M c (ps i) s = true := (inB_iff (by omega)).2 fun x hx1 hx2 => by
        have e := hlow _ h1 x hx2
        rw [lessL_getD 1 (by omega)] at e
        have := h3 x hx1 (by omega)
        omega
      rw [if_pos hb]
      obtain ⟨t, e, ht⟩ := h1.first hR hi
      refine List.mem_flatMap.2 ⟨t, (mem_ksL hpos).2 ?_, (IH t v).2 ⟨?_, h2, fun x hx1 hx2 => h3 x (by omega) hx2⟩⟩
      · rw [lessL_getD 1 (by omega)] at e
        have := h3 (ps i) hcp hpn
        have e' : t * (rowE_ R i).getD (ps i) 0 = t * getE R i (ps i) := rfl
        omega
      · have e2 : lessL 1 v (lessL (-t) s (rowE_ R i)) = lessL t (lessL 1 v s) (rowE_ R i) := by
          refine ext_getD (by rw [lessL_len, lessL_len, lessL_len]) fun x => ?_
          rw [lessL_getD 1 (by rw [lessL_len]; omega), lessL_getD (-t) (by omega), lessL_getD t (by rw [lessL_len]; omega), lessL_getD 1 (by omega)]
          rw [Int.neg_mul]; omega
        rw [e2]; exact ht
theorem search_sorted : ∀ (j i : Nat) (s : List Int) (c : Nat), i + j = R.length → s.length = n → (∀ d, i ≤ d → d < R.length → c ≤ ps d) → c ≤ n → (searchL M n R j i s c).Pairwise LexLt
  | 0, i, s, c, hij, hs, hc, hcn => by
    unfold searchL
    by_cases hb : inB M c n s = true
    · rw [if_pos hb]; exact List.pairwise_singleton _ _
    · rw [if_neg hb]; exact List.Pairwise.nil
  | j + 1, i, s, c, hij, hs, hc, hcn => by
    have hi : i < R.length := by omega
    have hpc := hform_pivC hR hi
    have hpn := hR.2.lt i hi
    have hpos : 0 < (rowE_ R i).getD (ps i) 0 := hR.2.pos i hi
    have hrl := hR.1 i hi
    unfold searchL
    rw [hpc]
    by_cases hb : inB M c (ps i) s = true
    · rw [if_pos hb, List.pairwise_flatMap]
      refine ⟨fun k _ => search_sorted j (i + 1) _ _ (by omega) (by rw [lessL_len]; exact hs) (fun d h1 h2 => Nat.le_of_lt (hR.2.mono i d (by omega) h2)) (by omega), (ksL_sorted _ _ _).imp fun {a b} hab v hv w hw => ?_⟩
      have key : ∀ k v, v ∈ searchL M n R j (i + 1) (lessL (-k) s (rowE_ R i)) (ps i) → ∀ x, x ≤ ps i → v.getD x 0 = s.getD x 0 + k * (rowE_ R i).getD x 0 := fun k v hv x hx => by
        obtain ⟨h1, h2, h3⟩ := (search_mem hR j (i + 1) _ _ (by omega) (by rw [lessL_len]; exact hs) (fun d h1 h2 => Nat.le_of_lt (hR.2.mono i d (by omega) h2)) (by omega) v).1 hv
        have e : (lessL 1 v (lessL (-k) s (rowE_ R i))).getD x 0 = 0 := h1.zeroCol (rowsFrom_len hR.1) (by
          rintro r ⟨d, d1, d2, rfl⟩
          refine hR.2.zero d d2 x ?_
          have := hR.2.mono i d (by omega) d2; omega)
        rw [lessL_getD 1 (by rw [lessL_len]; omega), lessL_getD (-k) (by omega), Int.neg_mul] at e
        omega
      refine ⟨ps i, fun x hx => ?_, ?_⟩
      · rw [key a v hv x (by omega), key b w hw x (by omega)]
        have : (rowE_ R i).getD x 0 = 0 := hR.2.zero i hi x hx
        rw [this]; simp
      · rw [key a v hv _ (Nat.le_refl _), key b w hw _ (Nat.le_refl _)]
        have := Int.mul_lt_mul_of_pos_right hab hpos
        omega
    · rw [if_neg hb]; exact List.Pairwise.nil
end

/-- All rows within the box, in order. -/
def valsL (M : Int) : List Int := (List.range (2 * M + 1).toNat).map fun a : Nat => -M + (a : Int)
def cubeL (M : Int) : Nat → List (List Int)
  | 0 => [[]]
  | n + 1 => (valsL M).flatMap fun a => (cubeL M n).map (a :: ·)
theorem mem_valsL {M x : Int} : x ∈ valsL M ↔ -M ≤ x ∧ x ≤ M := by
  unfold valsL
  rw [List.mem_map]
  constructor
  · rintro ⟨a, ha, rfl⟩
    rw [List.mem_range] at ha
    omega
  · rintro ⟨h1, h2⟩
    exact ⟨(x + M).toNat, by rw [List.mem_range]; omega, by omega⟩
theorem mem_cubeL {M : Int} : ∀ {n : Nat} {v : List Int}, v ∈ cubeL M n ↔ v.length = n ∧ ∀ x ∈ v, -M ≤ x ∧ x ≤ M
  | 0, v => by
    unfold cubeL
    rw [List.mem_singleton]
    constructor
    · rintro rfl; exact ⟨rfl, fun x hx => by cases hx⟩
    · rintro ⟨h, -⟩; exact List.length_eq_zero_iff.1 h
  | n + 1, v => by
    unfold cubeL
    rw [List.mem_flatMap]
    constructor
    · rintro ⟨a, ha, hv⟩
      obtain ⟨u, hu, rfl⟩ := List.mem_map.1 hv
      obtain ⟨h1, h2⟩ := mem_cubeL.1 hu
      refine ⟨by rw [List.length_cons, h1], fun x hx => ?_⟩
      rcases List.mem_cons.1 hx with e | e
      · rw [e]; exact mem_valsL.1 ha
      · exact h2 x e
    · rintro ⟨h1, h2⟩
      cases v with
      | nil => simp at h1
      | cons a u => exact ⟨a, mem_valsL.2 (h2 a (List.mem_cons_self ..)), List.mem_map.2 ⟨u, mem_cubeL.2 ⟨by simpa using h1, fun x hx => h2 x (List.mem_cons_of_mem _ hx)⟩, rfl⟩⟩
theorem LexLt.cons {a : Int} {u v : List Int} (h : LexLt u v) : LexLt (a :: u) (a :: v) := by
  obtain ⟨j, h1, h2⟩ := h
  refine ⟨j + 1, fun x hx => ?_, by simpa using h2⟩
  cases x with
  | zero => simp
  | succ x => simpa using h1 x (by omega)
theorem LexLt.head {a b : Int} (h : a < b) (u v : List Int) : LexLt (a :: u) (b :: v) := ⟨0, fun x hx => by omega, by simpa using h⟩
theorem cube_sorted (M : Int) : ∀ n, (cubeL M n).Pairwise LexLt
  | 0 => List.pairwise_singleton _ _
  | n + 1 => by
    unfold cubeL
    rw [List.pairwise_flatMap]
    refine ⟨fun a _ => List.pairwise_map.2 ((cube_sorted M n).imp LexLt.cons), ?_⟩
    unfold valsL
    rw [List.pairwise_map]
    refine List.pairwise_lt_range.imp fun {a b} hab u hu v hv => ?_
    obtain ⟨u', -, rfl⟩ := List.mem_map.1 hu
    obtain ⟨v', -, rfl⟩ := List.mem_map.1 hv
    exact LexLt.head (by omega) _ _

/-- The rows of the box from one on. -/
def fromL (M : Int) : List Int → List (List Int)
  | [] => [[]]
  | a :: r => (fromL M r).map (a :: ·) ++ ((List.range (M - a).toNat).map fun b : Nat => a + 1 + (b : Int)).flatMap fun b => (cubeL M r.length).map (b :: ·)
theorem fromL_cons (M a : Int) (r : List Int) : fromL M (a :: r) = (fromL M r).map (a :: ·) ++ ((List.range (M - a).toNat).map fun b : Nat => a + 1 + (b : Int)).flatMap fun b => (cubeL M r.length).map (b :: ·) := rfl
theorem cubeL_succ (M : Int) (n : Nat) : cubeL M (n + 1) = (valsL M).flatMap fun a => (cubeL M n).map (a :: ·) := rfl
def nextL (M : Int) : List Int → Option (List Int)
  | [] => none
  | a :: r => match nextL M r with
    | some s => some (a :: s)
    | none => if a = M then none else some ((a + 1) :: List.replicate r.length (-M))
theorem from_start {M : Int} (hM : 0 ≤ M) : ∀ n, fromL M (List.replicate n (-M)) = cubeL M n
  | 0 => rfl
  | n + 1 => by
    rw [List.replicate_succ, fromL_cons, cubeL_succ, from_start hM n, List.length_replicate]
    unfold valsL
    have e : (2 * M + 1).toNat = (M - -M).toNat + 1 := by omega
    rw [e, List.range_succ_eq_map, List.map_cons, List.flatMap_cons, List.map_map]
    congr 1
    · simp
    · congr 1
      refine List.map_congr_left fun b _ => ?_
      simp only [Function.comp]
      omega
theorem next_len {M : Int} : ∀ {r s : List Int}, nextL M r = some s → s.length = r.length
  | [], s, h => by unfold nextL at h; cases h
  | a :: r, s, h => by
    unfold nextL at h
    cases hn : nextL M r with
    | some s' => rw [hn] at h; simp only [Option.some.injEq] at h; subst h; simp [next_len hn]
    | none =>
      rw [hn] at h
      simp only [] at h
      by_cases ha : a = M
      · rw [if_pos ha] at h; cases h
      · rw [if_neg ha] at h; simp only [Option.some.injEq] at h; subst h; simp
theorem from_next {M : Int} (hM : 0 ≤ M) : ∀ {r : List Int}, (∀ x ∈ r, x ≤ M) → fromL M r = r :: (match nextL M r with | none => [] | some s => fromL M s)
  | [], _ => rfl
  | a :: r, hr => by
    have IH := from_next hM (r := r) fun x hx => hr x (List.mem_cons_of_mem _ hx)
    have ha := hr a (List.mem_cons_self ..)
    rw [fromL_cons, IH, List.map_cons, List.cons_append]
    congr 1
    cases hn : nextL M r with
    | some s =>
      have : nextL M (a :: r) = some (a :: s) := by unfold nextL; rw [hn]
      rw [this]
      simp only []
      rw [fromL_cons, next_len hn]
    | none =>
      simp only [List.map_nil, List.nil_append]
      by_cases e : a = M
      · have : nextL M (a :: r) = none := by unfold nextL; rw [hn]; simp [e]
        rw [this]
        subst e
        simp
      · have : nextL M (a :: r) = some ((a + 1) :: List.replicate r.length (-M)) := by unfold nextL; rw [hn]; simp [e]
        rw [this]
        simp only []
        rw [fromL_cons, from_start hM, List.length_replicate]
        have e2 : (M - a).toNat = (M - (a + 1)).toNat + 1 := by omega
        rw [e2, List.range_succ_eq_map, List.map_cons, List.flatMap_cons, List.map_map]
        congr 1
        · simp
        · congr 1
          refine List.map_congr_left fun b _ => ?_
          simp only [Function.comp]
          omega
theorem next_full (M : Int) : ∀ k, nextL M (List.replicate k M) = none
  | 0 => rfl
  | k + 1 => by rw [List.replicate_succ]; unfold nextL; rw [next_full M k]; simp
theorem next_at {M x : Int} (hx : x ≠ M) (k : Nat) : ∀ u : List Int, nextL M (u ++ x :: List.replicate k M) = some (u ++ (x + 1) :: List.replicate k (-M))
  | [] => by rw [List.nil_append]; unfold nextL; rw [next_full]; simp [hx]
  | a :: u => by rw [List.cons_append]; unfold nextL; rw [next_at hx k u]; rfl

/-- Box's rows are those of the box that belong to the lattice. -/
theorem box_rows {n : Nat} {m R : List (List Int)} {ps : Nat → Nat} (P : PlanF n m R ps) {M : Int} (hM : 0 ≤ M) (hM8 : M ≤ 8) : searchL M n R R.length 0 (List.replicate n 0) 0 = (cubeL M n).filter fun v => decide (leadL (repS R v R.length).1 < 0) := by
  have hz : ∀ v : List Int, v.length = n → lessL 1 v (List.replicate n 0) = v := fun v hv => lessL_zero_right n hv
  refine sorted_same (fun _ _ => LexLt.asymm) (search_sorted P.form _ _ _ _ (Nat.zero_add _) (by simp) (fun _ _ _ => Nat.zero_le _) (Nat.zero_le _)) ((cube_sorted M n).filter _) fun v => ?_
  rw [search_mem P.form _ _ _ _ (Nat.zero_add _) (by simp) (fun _ _ _ => Nat.zero_le _) (Nat.zero_le _), List.mem_filter, mem_cubeL, decide_eq_true_iff]
  have hb : v.length = n → ((∀ x, 0 ≤ x → x < n → -M ≤ v.getD x 0 ∧ v.getD x 0 ≤ M) ↔ ∀ x ∈ v, -M ≤ x ∧ x ≤ M) := fun hv => by
    constructor
    · intro h x hx
      obtain ⟨i, hi, rfl⟩ := List.mem_iff_getElem.1 hx
      have := h i (Nat.zero_le _) (by omega)
      rwa [List.getD_eq_getElem?_getD, List.getElem?_eq_getElem hi] at this
    · intro h x _ hx
      have := h (v[x]'(by omega)) (List.getElem_mem _)
      rwa [List.getD_eq_getElem?_getD, List.getElem?_eq_getElem (by omega)]
  have key : v.length = n → (∀ x ∈ v, -M ≤ x ∧ x ≤ M) → (leadL (repS R v R.length).1 < 0 ↔ Sp n (RowsFrom 0 R) v) := fun hv hbd => by
    obtain ⟨s, ms, e1, e2, e3, e4, e5⟩ := plan_red P.form P.four P.els hv (fun y hy => by have := hbd y hy; omega)
    have := redO_repS e1
    rw [← this, leadL_zeros n e2]
    exact red_zero P.form hv e2 e4 e5
  constructor
  · rintro ⟨h1, h2, h3⟩
    rw [hz v h2] at h1
    have h4 := (hb h2).1 h3
    exact ⟨⟨h2, h4⟩, (key h2 h4).2 h1⟩
  · rintro ⟨⟨h2, h4⟩, h1⟩
    rw [hz v h2]
    exact ⟨(key h2 h4).1 h1, h2, (hb h2).2 h4⟩
end Go.Proofs.YtjihfabhgcfjnaaGreatDoor
