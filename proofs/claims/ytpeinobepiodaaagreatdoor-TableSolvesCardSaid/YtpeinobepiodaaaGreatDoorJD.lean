/- Merged: RefSol, SolBad. -/
import Derived.Test.YtpeinobepiodaaaGreatDoorJB
import Derived.Test.YtpeinobepiodaaaGreatDoorHB
import Derived.Test.YtpeinobepiodaaaGreatDoorGG
import Derived.Test.YtpeinobepiodaaaGreatDoorGL
/- Contract of the reference's Solve (06); printed by gen/refsol.py. -/
namespace Go.Proofs.YtpeinobepiodaaaGreatDoor
set_option linter.unusedVariables false
set_option linter.unusedSimpArgs false
open Go.RowKit

/-! ## The equations with their right sides -/
def augTo (xss : List (List Int)) (y : List Int) (i : Nat) : List (List Int) := (List.range xss.length).map fun j => if j < i then xss.getD j [] ++ [y.getD j 0] else xss.getD j []
theorem augTo_len (xss : List (List Int)) (y : List Int) (i : Nat) : (augTo xss y i).length = xss.length := by simp [augTo]
theorem augTo_get {xss : List (List Int)} {y : List Int} {i j : Nat} (hj : j < xss.length) : (augTo xss y i)[j]? = some (if j < i then xss.getD j [] ++ [y.getD j 0] else xss.getD j []) := by
  unfold augTo; rw [List.getElem?_map, List.getElem?_range hj]; rfl
theorem augTo_zero (xss : List (List Int)) (y : List Int) : augTo xss y 0 = xss := by
  apply List.ext_getElem?
  intro j
  by_cases hj : j < xss.length
  · rw [augTo_get hj, if_neg (by omega), List.getD_eq_getElem?_getD, List.getElem?_eq_getElem hj]; rfl
  · rw [List.getElem?_eq_none (by rw [augTo_len]; omega), List.getElem?_eq_none (by omega)]
theorem augTo_set {xss : List (List Int)} {y : List Int} {i : Nat} (hi : i < xss.length) : (augTo xss y i).set i (xss.getD i [] ++ [y.getD i 0]) = augTo xss y (i + 1) := by
  apply List.ext_getElem?
  intro j
  rw [List.getElem?_set, augTo_len]
  by_cases hj : j < xss.length
  · rw [augTo_get hj, augTo_get hj]
    by_cases e : i = j
    · subst e; rw [if_pos rfl, if_pos hi, if_pos (by omega)]
    · rw [if_neg e]
      by_cases h2 : j < i
      · rw [if_pos h2, if_pos (by omega)]
      · rw [if_neg h2, if_neg (by omega)]
  · rw [if_neg (by omega), List.getElem?_eq_none (by rw [augTo_len]; omega), List.getElem?_eq_none (by rw [augTo_len]; omega)]
theorem augTo_mat (xss : List (List Int)) (y : List Int) : matQ (augTo xss y xss.length) = solM xss y := by
  unfold matQ augTo solM rowsTo
  rw [List.map_map]
  apply List.map_congr_left
  intro j hj
  have hj2 : j < xss.length := by simpa using hj
  show rowQI (if j < xss.length then xss.getD j [] ++ [y.getD j 0] else xss.getD j []) = _
  rw [if_pos hj2]
  simp [rowQI]
theorem augTo_rect {xss : List (List Int)} {y : List Int} {C : Nat} (h : ∀ r ∈ xss, r.length = C) : RectI (C + 1) (augTo xss y xss.length) := fun r hr => by
  unfold augTo at hr
  obtain ⟨j, hj, rfl⟩ := List.mem_map.1 hr
  have hj2 : j < xss.length := by simpa using hj
  rw [if_pos hj2, List.length_append, List.getD_eq_getElem?_getD, List.getElem?_eq_getElem hj2]
  simp only [Option.getD_some, List.length_cons, List.length_nil, h _ (List.getElem_mem hj2)]
theorem augTo_le {xss : List (List Int)} {y : List Int} (hf : ∀ r ∈ xss, Fit9 r) (hy : Fit9 y) (i j : Nat) : IntLe 1000000000 (elQ (matQ (augTo xss y xss.length)) i j) := by
  refine matQ_el (fun r hr a ha => ?_) i j
  unfold augTo at hr
  obtain ⟨q, hq, rfl⟩ := List.mem_map.1 hr
  have hq2 : q < xss.length := by simpa using hq
  rw [if_pos hq2, List.getD_eq_getElem?_getD, List.getElem?_eq_getElem hq2] at ha
  rcases List.mem_append.1 ha with ha | ha
  · exact hf _ (List.getElem_mem hq2) a ha
  · rw [List.mem_singleton.1 ha, List.getD_eq_getElem?_getD]
    cases hx : y[q]? with
    | none => simp
    | some z => exact hy z (List.mem_of_getElem? hx)
def eTo (E : ElS) (n : Nat) : Nat → List Rat
  | 0 => List.replicate n 0
  | i + 1 => (eTo E n i).set (E.lead.getD i 0) (((elI E.m i n : Int) : Rat) / (E.last : Rat))
theorem eTo_len (E : ElS) (n : Nat) : ∀ i, (eTo E n i).length = n
  | 0 => by simp [eTo]
  | i + 1 => by unfold eTo; rw [List.length_set]; exact eTo_len E n i
theorem eTo_eq {C c : Nat} {m : List (List Int)} {E : ElS} {S : RedSt} (h : BarI C c m E S) (n : Nat) : ∀ i, eTo E n i = xTo S n i
  | 0 => rfl
  | i + 1 => by
    unfold eTo xTo
    rw [eTo_eq h n i, barI_div h, h.lead]
theorem barI_zero_iff {C c : Nat} {m : List (List Int)} {E : ElS} {S : RedSt} (h : BarI C c m E S) (i j : Nat) : elI E.m i j = 0 ↔ elQ S.m i j = 0 := by
  rw [← barI_div h i j]
  have h2 : (E.last : Rat) ≠ 0 := by
    intro h0
    have : E.last = 0 := by exact_mod_cast h0
    exact h.ne this
  constructor
  · intro h0; rw [h0, Rat.div_def]; show (0 : Rat) * _ = 0; rw [Rat.zero_mul]
  · intro h0
    rw [Rat.div_def] at h0
    rcases Rat.mul_eq_zero.1 h0 with h3 | h3
    · exact_mod_cast h3
    · exact absurd h3 (fun e => by
        have := Rat.mul_inv_cancel _ h2
        rw [e, Rat.mul_zero] at this
        exact absurd this (by decide))
theorem eBad_true {C c : Nat} {m : List (List Int)} {E : ElS} {S : RedSt} (h : BarI C c m E S) {i n : Nat} (h1 : E.lead.length ≤ i) (h2 : i < E.m.length) (h3 : elI E.m i n ≠ 0) : solBad S n = true := by
  obtain ⟨ρ, sg, x, hI, -⟩ := h.inv
  have hl : i < S.m.length := by rw [hI.len, ← h.len]; exact h2
  refine solBad_at (q := i - S.lead.length) (r := S.m[i]) (by rw [← h.lead, Nat.add_sub_cancel' h1]; exact List.getElem?_eq_getElem hl) fun e => h3 ?_
  rw [barI_zero_iff h]
  unfold elQ rowQ
  rw [List.getD_eq_getElem?_getD (l := S.m), List.getElem?_eq_getElem hl]
  exact e
theorem eBad_false {C c : Nat} {m : List (List Int)} {E : ElS} {S : RedSt} (h : BarI C c m E S) {n : Nat} (h1 : ∀ i, E.lead.length ≤ i → i < E.m.length → elI E.m i n = 0) : solBad S n = false := by
  obtain ⟨ρ, sg, x, hI, -⟩ := h.inv
  refine solBad_none fun q r hq => ?_
  have hl := (List.getElem?_eq_some_iff.1 hq).1
  rw [hI.len, ← h.len] at hl
  have := (barI_zero_iff h _ n).1 (h1 (S.lead.length + q) (by rw [h.lead]; omega) hl)
  unfold elQ rowQ at this
  rw [List.getD_eq_getElem?_getD (l := S.m), hq] at this
  exact this
/-- A row of zeros in the making. -/
structure PartQ (w : World) (g n k : Nat) : Prop where
  lt : g < w.heap.size
  done : ∀ j, j < k → w.cell? ⟨g, j * 2, none⟩ = some (.string ⟨#[48]⟩) ∧ w.cell? ⟨g, j * 2 + 1, none⟩ = some (.string ⟨#[49]⟩)
  old : ∀ j, j < n → ∃ a b, w.cell? ⟨g, j * 2, none⟩ = some a ∧ w.cell? ⟨g, j * 2 + 1, none⟩ = some b
  free : ∀ j, w.frozen? ⟨g, j, none⟩ = false
theorem PartQ.made {w : World} {B g n : Nat} {e : TypeId} {xs : List Value} (h : w.ownsRow B e 2 (.slice (some ⟨g, 0, none⟩) n n) n xs) : PartQ w g n 0 := by
  have hl : xs.length = n * 2 := h.1
  refine ⟨(h.lt g rfl).2, fun j hj => by omega, fun j hj => ⟨xs[j * 2]'(by omega), xs[j * 2 + 1]'(by omega), ?_, ?_⟩, fun j => h.frozenAt j⟩
  · rw [h.cellAt (j * 2) (by omega)]; exact List.getElem?_eq_getElem _
  · rw [h.cellAt (j * 2 + 1) (by omega)]; exact List.getElem?_eq_getElem _
theorem PartQ.set {w : World} {g n k : Nat} (h : PartQ w g n k) (hk : k < n) : PartQ ((w.setCell ⟨g, k * 2, none⟩ (.string ⟨#[48]⟩)).setCell ⟨g, k * 2 + 1, none⟩ (.string ⟨#[49]⟩)) g n (k + 1) := by
  obtain ⟨a, b, c0, c1⟩ := h.old k hk
  have e0 : ((w.setCell ⟨g, k * 2, none⟩ (.string ⟨#[48]⟩)).setCell ⟨g, k * 2 + 1, none⟩ (.string ⟨#[49]⟩)).cell? ⟨g, k * 2, none⟩ = some (.string ⟨#[48]⟩) := by
    rw [World.cell?_setCell_other _ _ _ _ (by intro e; simp only [Addr.mk.injEq] at e; omega)]
    exact World.cell?_setCell_same w _ _ c0
  have e1 : ((w.setCell ⟨g, k * 2, none⟩ (.string ⟨#[48]⟩)).setCell ⟨g, k * 2 + 1, none⟩ (.string ⟨#[49]⟩)).cell? ⟨g, k * 2 + 1, none⟩ = some (.string ⟨#[49]⟩) :=
    World.cell?_setCell_same _ _ _ ((World.cell?_setCell_other _ _ _ _ (by intro e; simp only [Addr.mk.injEq] at e; omega)).trans c1)
  have eo : ∀ j, j ≠ k * 2 → j ≠ k * 2 + 1 → ((w.setCell ⟨g, k * 2, none⟩ (.string ⟨#[48]⟩)).setCell ⟨g, k * 2 + 1, none⟩ (.string ⟨#[49]⟩)).cell? ⟨g, j, none⟩ = w.cell? ⟨g, j, none⟩ := fun j h1 h2 => by
    rw [World.cell?_setCell_other _ _ _ _ (by intro e; simp only [Addr.mk.injEq] at e; omega), World.cell?_setCell_other _ _ _ _ (by intro e; simp only [Addr.mk.injEq] at e; omega)]
  refine ⟨by rw [setCell_sizeQ, setCell_sizeQ]; exact h.lt, fun j hj => ?_, fun j hj => ?_, fun j => by rw [frozen_set, frozen_set]; exact h.free j⟩
  · by_cases e : j = k
    · subst e; exact ⟨e0, e1⟩
    · rw [eo _ (by omega) (by omega), eo _ (by omega) (by omega)]; exact h.done j (by omega)
  · by_cases e : j = k
    · subst e; exact ⟨_, _, e0, e1⟩
    · rw [eo _ (by omega) (by omega), eo _ (by omega) (by omega)]; exact h.old j hj
theorem PartQ.row {w : World} {g n : Nat} (h : PartQ w g n n) : RowQ w g (List.replicate n 0) := by
  refine ⟨h.lt, fun j x hx => ?_, fun j x hx => ?_, h.free⟩
  all_goals
    have hj := (List.getElem?_eq_some_iff.1 hx).1
    rw [List.length_replicate] at hj
    obtain rfl : x = 0 := by rw [List.getElem?_replicate, if_pos hj] at hx; exact (Option.some.inj hx).symm
    obtain ⟨h1, h2⟩ := h.done j hj
  · rw [h1, show (0 : Rat).num = 0 from rfl, intB_zero]
  · rw [h2, show (0 : Rat).den = 1 from rfl, numB_one]
/-- 'append(rows[i], x)' at a step of a region that draws its order. -/
theorem step_append_num (w : World) {ops : Array Oper} {o : Oper} {a : Act} {K : Act → World → Prop} {Q : Exit → Act → World → Prop} {E : Prop} (hgd : o.guard = none)
    (s x : Operand) (ho : o.op = Op.call { callee := Callee.builtin Builtin.append, args := #[s, x], argTypes := #[40, 40] }) (base : Nat)
    (v : Value) (r : List Int) (y : Int) (u : Array Value) (T : TypeId) (hs : a.eval s = v) (hR : w.ownsRow base 26 1 v r.length (strV r))
    (hx : a.eval x = .slice (some ⟨w.heap.size, 0, none⟩) 1 1) (hu : u = #[.string (intB y)]) (hlen : r.length < 1000000) (hbase : base ≤ w.heap.size)
    (h : ∀ v' w', w'.ownsRow base 26 1 v' (r ++ [y]).length (strV (r ++ [y])) → (w.alloc (.cells u T)).grownBy w' v.ownBlock → (v'.ownBlock = v.ownBlock ∨ v'.ownBlock = some (w.alloc (.cells u T)).heap.size) → (∃ b c, v' = .slice (some ⟨b, 0, none⟩) (r.length + 1) c ∧ r.length + 1 ≤ c ∧ c ≤ 9223372036854775807) → K (a.put o.dst v') w') :
    if Region.wanted o (yielded ops a.tmps) = true then Oper.wp Tryz.prog o a (w.alloc (.cells u T)) K Q else E := by
  have hw : Region.wanted o (yielded ops a.tmps) = true := by simp [Region.wanted, hgd]
  rw [if_pos hw]
  exact wp_append_num w s x ho base v r y u T hs hR hx hu hlen hbase h
theorem OwnI.cell {B : Nat} {w : World} {v : Value} {l : List Nat} (h : OwnI B w v l) {i x : Nat} (hx : l[i]? = some x) : ∃ b c, v = .slice (some ⟨b, 0, none⟩) l.length c ∧ w.cell? ⟨b, i, none⟩ = some (.int .i64 (x : Int)) := by
  have hil := (List.getElem?_eq_some_iff.1 hx).1
  obtain ⟨b, cap, hb, k1, k2, -, -⟩ := owns_shape h (by omega)
  subst hb
  have hc := World.ownsRow.cells h (g := b) (by simp [Value.ownBlock]) i (.int .i64 (x : Int)) (by rw [List.getElem?_map, hx]; rfl)
  rw [show (⟨b, 0, none⟩ : Addr).add i = ⟨b, i, none⟩ by unfold Addr.add; split <;> simp_all] at hc
  exact ⟨b, cap, rfl, hc⟩

set_option maxRecDepth 100000 in
set_option maxHeartbeats 4000000 in
theorem refSolve_any (xss : List (List Int)) (right : List Int) (v vr : Value) (w : World) (h : Rows2 w v xss) (hr : Ints w vr right) (hE : tabE xss = 0) (hlr : right.length = xss.length) (hy : Fit9 right) (ht : Pow10 w) :
    Calls Tryz.prog 30 #[v, vr] w fun e w' => ∃ x, e = .returned (.tuple #[x, .int .i64 (solKI xss right)]) ∧ Rats w' x (solL xss right) ∧ Ext w w' := by
  have HT := Lib.hid ht
  obtain ⟨hl, hrr⟩ := tabE_zero hE
  obtain ⟨n, hn⟩ : ∃ n, n = colsN xss := ⟨_, rfl⟩
  have hn12 : n ≤ 12 := by
    rw [hn]
    cases xss with
    | nil => show 0 ≤ 12; omega
    | cons r l => exact (hrr r (by simp)).2.1
  have hrn : ∀ r ∈ xss, r.length = n := fun r hr => by rw [hn]; exact (hrr r hr).1
  have hfit : ∀ r ∈ xss, Fit9 r := fun r hr => (hrr r hr).2.2
  obtain ⟨m0, hm0⟩ : ∃ m, m = augTo xss right xss.length := ⟨_, rfl⟩
  have hm0l : m0.length = xss.length := by rw [hm0]; exact augTo_len _ _ _
  have hrect : RectI (n + 1) m0 := by rw [hm0]; exact augTo_rect hrn
  have hle : ∀ i j, IntLe 1000000000 (elQ (matQ m0) i j) := by rw [hm0]; exact augTo_le hfit hy
  have hB := barI_all (K := 1000000000) (by omega) hle hrect n
  have hok := elOK_of hrect (by omega) hle n
  have hS : redTo (matQ m0) n = solR xss right := by rw [hm0, augTo_mat, hn]; rfl
  rw [hS] at hB
  obtain ⟨S, hSS⟩ : ∃ S, S = solR xss right := ⟨_, rfl⟩
  obtain ⟨E, hEE⟩ : ∃ E, E = barTo m0 n := ⟨_, rfl⟩
  rw [← hSS, ← hEE] at hB
  have HB := Lib.hid hB
  have HKI : Hid (solKI xss right = solK S n) := by
    unfold Hid solKI
    by_cases h0 : xss = []
    · subst h0
      rw [if_pos rfl, hSS, hn]; rfl
    · rw [if_neg h0, hSS, hn]
  have HLI : Hid (solL xss right = solX S n) := by
    unfold Hid solL
    by_cases h0 : xss = []
    · subst h0
      rw [if_pos rfl, hSS, hn]; rfl
    · rw [if_neg h0, hSS, hn]
  have HEM : Hid (E.m.length = xss.length ∧ RectI (n + 1) E.m ∧ E.lead.length ≤ xss.length ∧ E.lead.length ≤ n ∧ ∀ x ∈ E.lead, x < n) := by
    obtain ⟨ρ, sg, x, hI, -⟩ := hB.inv
    refine ⟨by rw [hB.len, hm0l], hB.rect, ?_, ?_, fun x hx => ?_⟩
    · have := hI.rle; rw [hB.lead]; omega
    · have := hI.rlc; rw [hB.lead]; omega
    · rw [hB.lead, hSS, ← hS] at hx; exact lead_lt _ _ x hx
  have HSZE : Hid (∀ i j, (intB (elI E.m i j)).size ≤ 6000) := fun i j => by rw [hEE]; exact hok.sz n (Nat.le_refl _) i j
  have HSZL : Hid ((intB E.last).size ≤ 6000) := by unfold Hid; rw [hEE]; exact hok.lsz n (Nat.le_refl _)
  have HBG := Lib.hid (bigV_any xss n v w h hrn (by omega) (by omega) hfit ht)
  have HCO : Hid (∀ W, Ext w W → Calls Tryz.prog 19 #[v] W fun e w' => e = .returned (.int .i64 (n : Int)) ∧ W = w') := fun W hW => by rw [hn]; exact refCols_any xss v W (h.ext hW)
  have HEL : Hid (∀ u vs W, MatV W w.heap.size w.heap.size u vs m0 → Ext w W → Calls Tryz.prog 59 #[u, .int .i64 (n : Int)] W fun e w' => ∃ p, e = .returned (.tuple #[p, .string (intB E.last), .bool E.odd]) ∧ OwnI W.heap.size w' p E.lead ∧ Nums2 w' u E.m ∧ Ext w w') := fun u vs W hM hW => by
    rcases hM.form with ⟨rfl, h0⟩ | ⟨g, cap, rfl, hob, hc1, hc2⟩
    · have hx0 : xss = [] := List.length_eq_zero_iff.1 (by omega)
      have hn0 : n = 0 := by rw [hn, hx0]; rfl
      have hm00 : m0 = [] := List.length_eq_zero_iff.1 h0
      refine (elim0_any none 0 0 n W (.inl hn0)).mono ?_
      rintro e w' ⟨rfl, hX⟩
      have hE0 : E = ⟨[], [], 1, false⟩ := by rw [hEE, hn0, hm00]; rfl
      refine ⟨.slice none 0 0, by rw [hE0, show intB 1 = ⟨#[49]⟩ by decide +kernel], by rw [hE0]; exact OwnI.nil _ _, by rw [hE0]; exact ⟨[], rfl, by simp, ⟨none, 0, rfl, Nat.le_refl _, Nat.zero_le _, fun _ => rfl, fun hh => absurd rfl hh⟩, by simp⟩, hW.trans hX⟩
    · obtain ⟨tags, hN, hbl⟩ := hM.matN (Nat.le_refl _) (fun r hr => by rw [hrect r hr]; omega)
      refine (elim_any m0 g cap n (n + 1) tags w W hN hrect (by omega) (by omega) (by omega) hc1 hc2 hok hW ht hbl).mono ?_
      rintro e w' ⟨p, tags', g1, g2, g3, g4, g5⟩
      rw [← hEE] at g1 g2 g3
      have hlE : E.m.length = m0.length := by rw [HEM.out.1, hm0l]
      refine ⟨p, g1, g2, ?_, Below.trans hW (g5.belowE (B := w.heap.size) hbl hW.size)⟩
      have := g3.nums2 (by rw [hlE]; exact hc1) hc2
      rw [hlE] at this
      exact this
  obtain ⟨a, c, rfl, x1, x2, -, -⟩ := inCell.open h
  obtain ⟨ar, cr, rfl, r1, r2, -, -, hrc⟩ := hr.open
  have HRC := Lib.hid hrc; have HLR := Lib.hid hlr; have HFY := Lib.hid hy; have HM0 := Lib.hid hm0
  obtain ⟨L, hL⟩ : ∃ L, L = xss.length := ⟨_, rfl⟩
  have HL := Lib.hid hL
  have HL12 : Hid (L ≤ 12) := by unfold Hid; omega
  rw [← hL] at HCO HBG HEM x1 ⊢
  rw [hlr, ← hL] at r1 ⊢
  unfold maxLen at x2 r2
  obtain ⟨KI, hKI⟩ : ∃ z, z = solKI xss right := ⟨_, rfl⟩
  obtain ⟨XL, hXL⟩ : ∃ z, z = solL xss right := ⟨_, rfl⟩
  rw [← hKI] at HKI ⊢
  rw [← hXL] at HLI ⊢
  have HRNL := Lib.hid hrn
  clear h hr hE hlr hy ht hrr hfit hm0 hm0l hrect hle hB hok hS hSS hEE hn hrc hL hKI hXL hrn hl
  go_enter Tryz.func30, Tryz.ntmps30
  go_wp2_with fail
  refine HBG.out.mono ?_
  rintro e w1 ⟨u, vs, rfl, hM, hE1⟩
  have HM1 := Lib.hid hM; have HE1 := Lib.hid hE1
  obtain ⟨au, cu, hu⟩ : ∃ a c, u = .slice a L c := by
    rcases hM.form with ⟨h1, h2⟩ | ⟨g, cap, h1, -⟩
    · exact ⟨none, 0, by rw [h1, HL.out, h2]⟩
    · exact ⟨_, cap, by rw [h1, HL.out]⟩
  subst hu
  clear hE1 hM HBG
  go_wp2_with fail
  refine (HCO.out _ HE1.out).mono ?_
  rintro e w1' ⟨rfl, rfl⟩
  go_wp2_with fail
  go_loopw [8] (fun t wr => ∃ (i : Nat) (vs : List Value), i ≤ L ∧ t = .int .i64 i ∧ Hid (Ext w wr) ∧ Hid (MatV wr w.heap.size w.heap.size (.slice au L cu) vs (augTo xss right i))) (fun t _ => L - (intOf t).toNat)
  case atStart => exact ⟨0, vs, by omega, rfl, HE1.out, by rw [augTo_zero]; exact HM1.out⟩
  case round =>
    obtain ⟨i, vs, hi, rfl, HE, HM⟩ := hrel
    obtain ⟨wi, rfl⟩ : ∃ wi : World, wi = wr := ⟨_, rfl⟩
    by_cases hlt : i < L
    · obtain ⟨g, hg⟩ : ∃ g, au = some ⟨g, 0, none⟩ := by
        rcases HM.out.form with ⟨h1, h2⟩ | ⟨g, cap, h1, -⟩
        · rw [augTo_len, ← HL.out] at h2; omega
        · simp only [Value.slice.injEq] at h1; exact ⟨g, h1.1⟩
      subst hg
      have hix : i < xss.length := by rw [← HL.out]; exact hlt
      obtain ⟨ri, hri⟩ : ∃ r, r = xss.getD i [] := ⟨_, rfl⟩
      have HRI : Hid ((augTo xss right i)[i]? = some ri) := by unfold Hid; rw [augTo_get hix, if_neg (by omega), hri]
      have HRL : Hid (ri.length = n) := by
        unfold Hid; rw [hri, List.getD_eq_getElem?_getD, List.getElem?_eq_getElem hix]; exact HRNL.out _ (List.getElem_mem hix)
      obtain ⟨u, hui, hown, ai, ci, hu, k1, k2⟩ := HM.out.rowForm HRI.out
      subst hu
      have g1 := HM.out.cell hui
      have HVI := Lib.hid hui
      obtain ⟨br, or_, rfl, -, hrc⟩ := HRC.out (by intro e; have := HLR.out; rw [e] at this; simp at this; omega)
      obtain ⟨y, hy⟩ : ∃ y, right[i]? = some y := ⟨right[i]'(by rw [HLR.out]; exact hix), List.getElem?_eq_getElem _⟩
      have g2 := HE.out.cell (hrc i y hy)
      have e1 : Value.slice ai ri.length ci = .slice ai n ci := by rw [HRL.out]
      rw [e1] at hown
      have HOW := Lib.hid hown
      clear e1
      have hby := HFY.out y (List.mem_of_getElem? hy)
      have HSE : Hid ((augTo xss right i).set i (ri ++ [y]) = augTo xss right (i + 1)) := by
        have := augTo_set (y := right) hix
        rw [← hri, List.getD_eq_getElem?_getD, hy] at this
        exact this
      have HLRR : Hid (ri.length < 1000000) := by unfold Hid; rw [HRL.out]; omega
      have HOF : Hid (∀ W, Ext wi W → Calls Tryz.prog 71 #[.int .i64 y] W fun e w' => e = .returned (.string (intB y)) ∧ Ext W w') := fun W hW => rOf_any y W (by omega) (by omega) (HT.out.ext (HE.out.trans hW))
      have HSZ : Hid (w.heap.size ≤ wi.heap.size) := HE.out.size
      have hii : (i : Int) < (L : Int) := by omega
      rw [HRL.out] at k1 HVI g1
      clear hix hri hui hown hrc hy hby
      go_upto_region 6 with fail
      --<R6
      refine region_anyE (fun w' => w'.cell? ⟨g, i, none⟩ = some (.slice ai n ci) ∧ w'.cell? ⟨br, or_ + i, none⟩ = some (.int .i64 y) ∧ Hid (Ext wi w')) 12 (by kernel_rfl) ⟨(Ext.drew wi).cell g1, (Ext.drew wi).cell g2, Ext.drew wi⟩ (fun hHeld => ?_)
      refine anyE_takeW (v := ?_) 0 rfl (by kernel_rfl) (by kernel_rfl) (by kernel_rfl) (by decide) (fun _ _ _ h => h) (Or.inl ⟨by rfl, ?_⟩) (by assumption) ?_
      rotate_left
      · ((intro w'); (try go_simp); (try with_reducible rfl))
      (try simp only [Act.put, List.setIfInBounds_toArray, List.set_cons_zero, List.set_cons_succ])
      refine anyE_takeW (v := ?_) 1 rfl (by kernel_rfl) (by kernel_rfl) (by kernel_rfl) (by decide) (fun _ _ _ h => h) (Or.inl ⟨by rfl, ?_⟩) (by assumption) ?_
      rotate_left
      · ((intro w'); (try go_simp); (try with_reducible rfl))
      (try simp only [Act.put, List.setIfInBounds_toArray, List.set_cons_zero, List.set_cons_succ])
      refine anyE_takeW (v := ?_) 2 rfl (by kernel_rfl) (by kernel_rfl) (by kernel_rfl) (by decide) (fun _ _ _ h => h) (Or.inl ⟨by rfl, ?_⟩) (by assumption) ?_
      rotate_left
      · ((intro w'); (try go_simp); (try with_reducible rfl))
      (try simp only [Act.put, List.setIfInBounds_toArray, List.set_cons_zero, List.set_cons_succ])
      refine anyE_takeW (v := ?_) 3 rfl (by kernel_rfl) (by kernel_rfl) (by kernel_rfl) (by decide) (fun _ _ _ h => h) (Or.inl ⟨by rfl, ?_⟩) (by assumption) ?_
      rotate_left
      · ((intro w'); (try go_simp); (try with_reducible rfl))
      (try simp only [Act.put, List.setIfInBounds_toArray, List.set_cons_zero, List.set_cons_succ])
      refine anyE_takeW (v := ?_) 4 rfl (by kernel_rfl) (by kernel_rfl) (by kernel_rfl) (by decide) (fun _ _ _ h => h) (Or.inl ⟨by rfl, ?_⟩) (by assumption) ?_
      rotate_left
      · ((intro w'); (try go_simp); (try with_reducible rfl))
      (try simp only [Act.put, List.setIfInBounds_toArray, List.set_cons_zero, List.set_cons_succ])
      refine anyE_take (v := ?_) 5 rfl (by kernel_rfl) (by kernel_rfl) (by kernel_rfl) (by kernel_rfl) (by kernel_rfl) (fun _ _ _ h => h) (Or.inl ⟨by rfl, ?_⟩) (by assumption) ?_
      rotate_left
      · ((intro w' hSw); (try dsimp only at hSw); (try go_simp); (try with_reducible rfl))
      (try simp only [Act.put, List.setIfInBounds_toArray, List.set_cons_zero, List.set_cons_succ])
      refine anyE_takeW (v := ?_) 6 rfl (by kernel_rfl) (by kernel_rfl) (by kernel_rfl) (by decide) (fun _ _ _ h => h) (Or.inl ⟨by rfl, ?_⟩) (by assumption) ?_
      rotate_left
      · ((intro w'); (try go_simp); (try with_reducible rfl))
      (try simp only [Act.put, List.setIfInBounds_toArray, List.set_cons_zero, List.set_cons_succ])
      refine anyE_takeW (v := ?_) 7 rfl (by kernel_rfl) (by kernel_rfl) (by kernel_rfl) (by decide) (fun _ _ _ h => h) (Or.inl ⟨by rfl, ?_⟩) (by assumption) ?_
      rotate_left
      · ((intro w'); (try go_simp); (try with_reducible rfl))
      (try simp only [Act.put, List.setIfInBounds_toArray, List.set_cons_zero, List.set_cons_succ])
      refine anyE_takeW (v := ?_) 8 rfl (by kernel_rfl) (by kernel_rfl) (by kernel_rfl) (by decide) (fun _ _ _ h => h) (Or.inl ⟨by rfl, ?_⟩) (by assumption) ?_
      rotate_left
      · ((intro w'); (try go_simp); (try with_reducible rfl))
      (try simp only [Act.put, List.setIfInBounds_toArray, List.set_cons_zero, List.set_cons_succ])
      refine anyE_take (v := ?_) 9 rfl (by kernel_rfl) (by kernel_rfl) (by kernel_rfl) (by kernel_rfl) (by kernel_rfl) (fun _ _ _ h => h) (Or.inl ⟨by rfl, ?_⟩) (by assumption) ?_
      rotate_left
      · ((intro w' hSw); (try dsimp only at hSw); (try go_simp); (try with_reducible rfl))
      (try simp only [Act.put, List.setIfInBounds_toArray, List.set_cons_zero, List.set_cons_succ])
      refine anyE_step 10 (by kernel_rfl) rfl (fun K hK => ?_)
      go_simp
      (go_at_call 71; refine (HOF.out _ hHeld.2.2.out).mono ?_)
      rintro e wz ⟨rfl, hEz⟩
      go_wp2_with fail
      refine hK.out _ _ ⟨(hEz).cell hHeld.1, (hEz).cell hHeld.2.1, Ext.trans hHeld.2.2.out (hEz)⟩ (fun hHeld => ?_)
      clear hK K
      (try simp only [Act.put, List.setIfInBounds_toArray, List.set_cons_zero, List.set_cons_succ])
      have HWZ : Hid (Ext wi wz) := hHeld.2.2
      refine anyE_step 11 (by kernel_rfl) rfl (fun K hK => ?_)
      go_simp
      refine hK.out _ _ ⟨(Ext.alloc _ _).cell hHeld.1, (Ext.alloc _ _).cell hHeld.2.1, Ext.trans hHeld.2.2.out (Ext.alloc _ _)⟩ (fun hHeld => ?_)
      clear hK K
      (try simp only [Act.put, List.setIfInBounds_toArray, List.set_cons_zero, List.set_cons_succ])
      refine anyE_stepZ 12 (by kernel_rfl) (by kernel_rfl) rfl (fun K hK => ?_)
      refine step_append_num wz (by rfl) _ _ (by rfl) w.heap.size (.slice ai n ci) ri y #[.string (intB y)] 26 (by rfl) (owns_ext HOW.out HWZ.out) (by rfl) (by rfl) HLRR.out (Nat.le_trans HSZ.out HWZ.out.size) ?_
      intro v' w6 hO6 hG6 hA6 hF6
      obtain ⟨b6, c6, rfl, l6, m6⟩ := hF6
      obtain ⟨p1, z1, z4, p4⟩ := (HM.out.ext HWZ.out).pushed (Nat.le_trans HSZ.out HWZ.out.size) (Nat.le_refl _) HVI.out HRI.out _ _ hO6 hG6 hA6
      rw [HSE.out] at p1
      have HM6 := Lib.hid p1
      have HX6 : Hid (Ext w (w6.setCell ⟨g, i, none⟩ (.slice (some ⟨b6, 0, none⟩) (ri.length + 1) c6))) := Below.trans (HE.out.trans HWZ.out) p4
      clear p1 p4 hO6 hG6 hA6
      rw [HRL.out] at HM6 HX6 ⊢
      refine hK.out _ _ ?_
      clear hK K
      (try simp only [Act.put, List.setIfInBounds_toArray, List.set_cons_zero, List.set_cons_succ])
      refine anyE_stepZ 13 (by kernel_rfl) (by kernel_rfl) rfl (fun K hK => ?_)
      go_simp
      refine hK.out _ _ ?_
      clear hK K
      (try simp only [Act.put, List.setIfInBounds_toArray, List.set_cons_zero, List.set_cons_succ])
      refine anyE_last 14 (by kernel_rfl) (by kernel_rfl) (by kernel_rfl) rfl (fun K hK => ?_)
      go_simp
      refine hK.out _ _ ?_
      clear hK K
      (try simp only [Act.put, List.setIfInBounds_toArray, List.set_cons_zero, List.set_cons_succ])
      -->R6
      go_wp2_with fail
      go_roundw
      case rel => exact ⟨i + 1, _, by omega, by go_num, HX6.out, HM6.out⟩
      case measure => simp [intOf]; omega
    · obtain rfl : i = L := by omega
      have hii : ¬ (i : Int) < (i : Int) := by omega
      have em : augTo xss right i = m0 := by rw [HL.out]; exact HM0.out.symm
      rw [em] at HM
      clear em
      go_wp2_with fail
      refine (HEL.out _ _ _ HM.out HE.out).mono ?_
      rintro e w3 ⟨p, rfl, hO, hN, hE3⟩
      have HO := Lib.hid hO
      have HE3 := Lib.hid hE3
      obtain ⟨ap, cp, rfl, l1, l2⟩ := hO.form
      obtain ⟨a', c', hu', -, -, -, hcells⟩ := inCell.open hN
      simp only [Value.slice.injEq] at hu'
      obtain ⟨rfl, -, rfl⟩ := hu'
      have HCE := Lib.hid hcells
      clear hO hN hE3 hcells HEL HM HM1
      obtain ⟨k, hk⟩ : ∃ k, k = E.lead.length := ⟨_, rfl⟩
      have HK := Lib.hid hk
      have hkL : k ≤ i := by rw [hk]; exact HEM.out.2.2.1
      have hkn : k ≤ n := by rw [hk]; exact HEM.out.2.2.2.1
      rw [← hk] at l1 ⊢
      have e1 : Value.slice ap E.lead.length cp = .slice ap k cp := by rw [hk]
      rw [e1] at HO
      clear hk e1
      obtain ⟨L, hL⟩ : ∃ L, L = i := ⟨_, rfl⟩
      rw [← hL] at HEM HL HL12 hkL x1 r1 ⊢
      clear hL hii hi
      obtain ⟨la, hla⟩ : ∃ z, z = E.last := ⟨_, rfl⟩
      rw [← hla] at HSZL ⊢
      have HLA : Hid (la ≠ 0) := by unfold Hid; rw [hla]; exact HB.out.ne
      have HLE := Lib.hid hla
      clear hla
      go_wp2_with fail
      go_loopw [12] (fun t wr => ∃ q : Nat, k ≤ q ∧ q ≤ L ∧ t = .int .i64 q ∧ wr = w3 ∧ Hid (∀ p, k ≤ p → p < q → elI E.m p n = 0)) (fun t _ => L - (intOf t).toNat)
      case atStart => exact ⟨k, Nat.le_refl _, hkL, rfl, by first | rfl | trivial, fun p h1 h2 => by omega⟩
      case round =>
        obtain ⟨q, hq1, hq2, rfl, hwr, HZ⟩ := hrel
        subst hwr
        obtain ⟨w3, rfl⟩ : ∃ w : World, w = wr := ⟨_, rfl⟩
        by_cases hlt : q < L
        · obtain ⟨r, hr⟩ : ∃ r, E.m[q]? = some r := ⟨_, List.getElem?_eq_getElem (by rw [HEM.out.1]; exact hlt)⟩
          obtain ⟨bu, ou, rfl, -, hcu⟩ := HCE.out (by intro e; have := HEM.out.1; rw [e] at this; simp at this; omega)
          obtain ⟨vr, hvr, d1⟩ := hcu q r hr
          have hrl := HEM.out.2.1 r (List.mem_of_getElem? hr)
          obtain ⟨aq, cq, rfl, j1, j2, -, hcr⟩ := ListAt.open hvr
          obtain ⟨bq, oq, rfl, -, hcq⟩ := hcr (by omega) (by intro e; rw [e] at hrl; simp at hrl)
          obtain ⟨x, hx⟩ : ∃ x, r[n]? = some x := ⟨_, List.getElem?_eq_getElem (by omega)⟩
          obtain ⟨ux, -, rfl, hcx⟩ := hcq n x hx
          have d2 := hcx 0 (by omega)
          simp only [Nat.mul_one, Nat.add_zero, List.getElem?_cons_zero] at d2
          have HXE : Hid (elI E.m q n = x) := by unfold Hid elI; rw [List.getD_eq_getElem?_getD (l := E.m), hr]; show r.getD n 0 = x; rw [List.getD_eq_getElem?_getD, hx]; rfl
          obtain ⟨R1, hR1⟩ : ∃ R1, R1 = n + 1 := ⟨_, rfl⟩
          rw [hrl, ← hR1] at d1 j1
          have p3 : (n : Int) < (R1 : Int) := by omega
          have p5 : (q : Int) < (L : Int) := by omega
          have hz := int_zero x
          unfold maxLen at j2
          clear hr hvr hcu hcr hcq hcx hx hrl hR1
          by_cases hx0 : x = 0
          · have HZ2 : Hid (∀ p, k ≤ p → p < q + 1 → elI E.m p n = 0) := fun p h1 h2 => by
              by_cases e : p = q
              · rw [e, HXE.out, hx0]
              · exact HZ.out p h1 (by omega)
            rw [decide_eq_true hx0] at hz
            have hz2 : (intB x).toList = [48] := beq_iff_eq.1 hz
            clear hx0
            go_wp2_with fail
            go_roundw
            case rel => exact ⟨q + 1, by omega, by omega, by go_num, by first | rfl | trivial, HZ2.out⟩
            case measure => simp [intOf]; omega
          · have HBAD : Hid (solBad S n = true) := eBad_true HB.out (i := q) (by rw [← HK.out]; exact hq1) (by rw [HEM.out.1]; exact hlt) (by rw [HXE.out]; exact hx0)
            rw [decide_eq_false hx0] at hz
            have hz2 : ¬ (intB x).toList = [48] := fun e => by rw [e] at hz; exact absurd hz (by decide)
            clear hx0
            go_wp2_with fail
            go_ret2
            have e1 : KI = 3 := by rw [HKI.out]; unfold solK; rw [if_pos HBAD.out]
            have e2 : XL = [] := by rw [HLI.out]; unfold solX; rw [if_pos HBAD.out]
            exact ⟨.slice none 0 0, by rw [e1]; rfl, by rw [e2]; exact Rats.nil _, HE3.out⟩
        · obtain rfl : L = q := by omega
          have HGOOD : Hid (solBad S n = false) := eBad_false HB.out fun p h1 h2 => HZ.out p (by rw [HK.out]; exact h1) (by rw [HEM.out.1] at h2; exact h2)
          have p5 : ¬ (L : Int) < (L : Int) := by omega
          obtain ⟨i0, hi, hz0, hz1, hz2⟩ := info_parts infoRat
          have HI := Lib.hid hi; have HZ0 := Lib.hid hz0; have HZ1 := Lib.hid hz1; have HZ2 := Lib.hid hz2
          have HN12 := Lib.hid hn12
          clear hi hz0 hz1 hz2
          go_wp2_with (at_make; refine wpList_make_full _ rfl _ _ 39 rfl w3.heap.size 81 i0 (.agg #[.string ⟨#[]⟩, .string ⟨#[]⟩]) 2 Tryz.underlying39 HI.out HZ0.out HZ1.out _ _ _ _ n rfl rfl rfl rfl ?c1 ?c2 ?c3 ?_)
          any_goals (first | (rw [HZ2.out]; have := HN12.out; omega) | (unfold maxLen; have := HN12.out; omega) | exact Nat.le_refl _)
          intro w4 hown hgrow
          have HPQ := Lib.hid (PartQ.made hown)
          have HE4 := Lib.hid (ext_grown hgrow)
          clear hown hgrow
          obtain ⟨gx, hgx⟩ : ∃ gx, gx = w3.heap.size := ⟨_, rfl⟩
          have HGX : Hid (w3.heap.size ≤ gx) := by unfold Hid; omega
          rw [← hgx] at HPQ ⊢
          clear hgx
          go_wp2_with fail
          go_loopw [14] (fun t wr => ∃ j : Nat, j ≤ n ∧ t = .int .i64 j ∧ Hid (Ext w3 wr) ∧ Hid (PartQ wr gx n j)) (fun t _ => n - (intOf t).toNat)
          case atStart => exact ⟨0, by omega, rfl, HE4.out, HPQ.out⟩
          case round =>
            obtain ⟨j, hj, rfl, HE5, HP5⟩ := hrel
            obtain ⟨wo, rfl⟩ : ∃ wo : World, wo = wr := ⟨_, rfl⟩
            by_cases hjn : j < n
            · obtain ⟨o1, o2, c0, c1⟩ := HP5.out.old j hjn
              have f0 := HP5.out.free (j * 2)
              have f1 := HP5.out.free (j * 2 + 1)
              have HPN := Lib.hid (HP5.out.set hjn)
              have HEN : Hid (Ext w3 ((wo.setCell ⟨gx, j * 2, none⟩ (.string ⟨#[48]⟩)).setCell ⟨gx, j * 2 + 1, none⟩ (.string ⟨#[49]⟩))) := Below.setCell (Below.setCell HE5.out HGX.out _) HGX.out _
              have p6 : (j : Int) < (n : Int) := by omega
              go_wp2_with fail
              go_roundw
              case rel => exact ⟨j + 1, by omega, by go_num, HEN.out, HPN.out⟩
              case measure => simp [intOf]; omega
            · obtain rfl : n = j := by omega
              have HRX : Hid (RowQ wo gx (eTo E n 0)) := HP5.out.row
              have p6 : ¬ (n : Int) < (n : Int) := by omega
              go_wp2_with fail
              go_loopw [15] (fun t wr => ∃ i : Nat, i ≤ k ∧ t = .int .i64 i ∧ Hid (Ext w3 wr) ∧ Hid (RowQ wr gx (eTo E n i))) (fun t _ => k - (intOf t).toNat)
              case atStart => exact ⟨0, by omega, rfl, HE5.out, HRX.out⟩
              case round =>
                obtain ⟨i, hik, rfl, HEW, HR⟩ := hrel
                obtain ⟨wi, rfl⟩ : ∃ wi : World, wi = wr := ⟨_, rfl⟩
                by_cases hlt : i < k
                · obtain ⟨x, hx⟩ : ∃ x, E.lead[i]? = some x := ⟨_, List.getElem?_eq_getElem (by rw [← HK.out]; exact hlt)⟩
                  have hxn := HEM.out.2.2.2.2 x (List.mem_of_getElem? hx)
                  obtain ⟨bp, cp', hbp, hcp⟩ := OwnI.cell HO.out hx
                  simp only [Value.slice.injEq] at hbp
                  obtain ⟨rfl, -, rfl⟩ := hbp
                  have d1 := HEW.out.cell hcp
                  obtain ⟨r, hr⟩ : ∃ r, E.m[i]? = some r := ⟨_, List.getElem?_eq_getElem (by rw [HEM.out.1]; omega)⟩
                  obtain ⟨bu, ou, rfl, -, hcu⟩ := HCE.out (by intro e; have := HEM.out.1; rw [e] at this; simp at this; omega)
                  obtain ⟨vr, hvr, hd2⟩ := hcu i r hr
                  have hrl := HEM.out.2.1 r (List.mem_of_getElem? hr)
                  obtain ⟨aq, cq, rfl, j1, j2, -, hcr⟩ := ListAt.open hvr
                  obtain ⟨bq, oq, rfl, -, hcq⟩ := hcr (by omega) (by intro e; rw [e] at hrl; simp at hrl)
                  obtain ⟨y, hy⟩ : ∃ x, r[n]? = some x := ⟨_, List.getElem?_eq_getElem (by omega)⟩
                  obtain ⟨ux, -, rfl, hcx⟩ := hcq n y hy
                  have hd3 := hcx 0 (by omega)
                  simp only [Nat.mul_one, Nat.add_zero, List.getElem?_cons_zero] at hd3
                  have d2 := HEW.out.cell hd2
                  have d3 := HEW.out.cell hd3
                  have HXE : Hid (elI E.m i n = y) := by unfold Hid elI; rw [List.getD_eq_getElem?_getD (l := E.m), hr]; show r.getD n 0 = y; rw [List.getD_eq_getElem?_getD, hy]; rfl
                  have HFR : Hid (∀ W, Ext wi W → Calls Tryz.prog 62 #[.string (intB y), .string (intB la)] W fun e w' => e = .returned (.agg #[.string (intB ((y : Rat) / (la : Rat)).num), .string (numB ((y : Rat) / (la : Rat)).den)]) ∧ Ext W w') := fun W hW => by
                    have hsz := HSZE.out i n
                    rw [HXE.out] at hsz
                    exact refFractionG_any y la W (by omega) HLA.out (by have := HSZL.out; omega) (HT.out.ext (HE3.out.trans (HEW.out.trans hW)))
                  obtain ⟨qq, hqq⟩ : ∃ z, z = (y : Rat) / (la : Rat) := ⟨_, rfl⟩
                  rw [← hqq] at HFR
                  have HST : Hid ((eTo E n i).set x qq = eTo E n (i + 1)) := by
                    unfold Hid
                    rw [show eTo E n (i + 1) = (eTo E n i).set (E.lead.getD i 0) (((elI E.m i n : Int) : Rat) / (E.last : Rat)) from rfl, HXE.out, ← HLE.out, ← hqq, List.getD_eq_getElem?_getD, hx]; rfl
                  obtain ⟨z0, hz0⟩ : ∃ z0, (eTo E n i)[x]? = some z0 := ⟨_, List.getElem?_eq_getElem (by rw [eTo_len]; exact hxn)⟩
                  have HZ0 := Lib.hid hz0
                  have HXL : Hid (x < (eTo E n i).length) := by unfold Hid; rw [eTo_len]; exact hxn
                  obtain ⟨R1, hR1⟩ : ∃ R1, R1 = n + 1 := ⟨_, rfl⟩
                  rw [hrl, ← hR1] at d2 j1
                  have p3 : (n : Int) < (R1 : Int) := by omega
                  have p5 : (i : Int) < (L : Int) := by omega
                  have p7 : (x : Int) < (n : Int) := by omega
                  have p8 : (i : Int) < (k : Int) := by omega
                  unfold maxLen at j2
                  clear hr hvr hcu hcr hcq hcx hx hrl hR1 hd2 hd3 hcp hqq hz0 hy
                  go_upto_region 21 with fail
                  --<R21
                  refine region_anyE (fun w' => w'.cell? ⟨bp, i, none⟩ = some (.int .i64 (x : Int)) ∧ w'.cell? ⟨bu, ou + i, none⟩ = some (.slice (some ⟨bq, oq, none⟩) R1 cq) ∧ w'.cell? ⟨bq, oq + n, none⟩ = some (.string (intB y)) ∧ Hid (Ext wi w')) 15 (by kernel_rfl) ⟨(Ext.drew wi).cell d1, (Ext.drew wi).cell d2, (Ext.drew wi).cell d3, Ext.drew wi⟩ (fun hHeld => ?_)
                  refine anyE_takeW (v := ?_) 0 rfl (by kernel_rfl) (by kernel_rfl) (by kernel_rfl) (by decide) (fun _ _ _ h => h) (Or.inl ⟨by rfl, ?_⟩) (by assumption) ?_
                  rotate_left
                  · ((intro w'); (try go_simp); (try with_reducible rfl))
                  (try simp only [Act.put, List.setIfInBounds_toArray, List.set_cons_zero, List.set_cons_succ])
                  refine anyE_takeW (v := ?_) 1 rfl (by kernel_rfl) (by kernel_rfl) (by kernel_rfl) (by decide) (fun _ _ _ h => h) (Or.inl ⟨by rfl, ?_⟩) (by assumption) ?_
                  rotate_left
                  · ((intro w'); (try go_simp); (try with_reducible rfl))
                  (try simp only [Act.put, List.setIfInBounds_toArray, List.set_cons_zero, List.set_cons_succ])
                  refine anyE_takeW (v := ?_) 2 rfl (by kernel_rfl) (by kernel_rfl) (by kernel_rfl) (by decide) (fun _ _ _ h => h) (Or.inl ⟨by rfl, ?_⟩) (by assumption) ?_
                  rotate_left
                  · ((intro w'); (try go_simp); (try with_reducible rfl))
                  (try simp only [Act.put, List.setIfInBounds_toArray, List.set_cons_zero, List.set_cons_succ])
                  refine anyE_takeW (v := ?_) 3 rfl (by kernel_rfl) (by kernel_rfl) (by kernel_rfl) (by decide) (fun _ _ _ h => h) (Or.inl ⟨by rfl, ?_⟩) (by assumption) ?_
                  rotate_left
                  · ((intro w'); (try go_simp); (try with_reducible rfl))
                  (try simp only [Act.put, List.setIfInBounds_toArray, List.set_cons_zero, List.set_cons_succ])
                  refine anyE_take (v := ?_) 4 rfl (by kernel_rfl) (by kernel_rfl) (by kernel_rfl) (by kernel_rfl) (by kernel_rfl) (fun _ _ _ h => h) (Or.inl ⟨by rfl, ?_⟩) (by assumption) ?_
                  rotate_left
                  · ((intro w' hSw); (try dsimp only at hSw); (try go_simp); (try with_reducible rfl))
                  (try simp only [Act.put, List.setIfInBounds_toArray, List.set_cons_zero, List.set_cons_succ])
                  refine anyE_takeW (v := ?_) 5 rfl (by kernel_rfl) (by kernel_rfl) (by kernel_rfl) (by decide) (fun _ _ _ h => h) (Or.inl ⟨by rfl, ?_⟩) (by assumption) ?_
                  rotate_left
                  · ((intro w'); (try go_simp); (try with_reducible rfl))
                  (try simp only [Act.put, List.setIfInBounds_toArray, List.set_cons_zero, List.set_cons_succ])
                  refine anyE_takeW (v := ?_) 6 rfl (by kernel_rfl) (by kernel_rfl) (by kernel_rfl) (by decide) (fun _ _ _ h => h) (Or.inl ⟨by rfl, ?_⟩) (by assumption) ?_
                  rotate_left
                  · ((intro w'); (try go_simp); (try with_reducible rfl))
                  (try simp only [Act.put, List.setIfInBounds_toArray, List.set_cons_zero, List.set_cons_succ])
                  refine anyE_takeW (v := ?_) 7 rfl (by kernel_rfl) (by kernel_rfl) (by kernel_rfl) (by decide) (fun _ _ _ h => h) (Or.inl ⟨by rfl, ?_⟩) (by assumption) ?_
                  rotate_left
                  · ((intro w'); (try go_simp); (try with_reducible rfl))
                  (try simp only [Act.put, List.setIfInBounds_toArray, List.set_cons_zero, List.set_cons_succ])
                  refine anyE_take (v := ?_) 8 rfl (by kernel_rfl) (by kernel_rfl) (by kernel_rfl) (by kernel_rfl) (by kernel_rfl) (fun _ _ _ h => h) (Or.inl ⟨by rfl, ?_⟩) (by assumption) ?_
                  rotate_left
                  · ((intro w' hSw); (try dsimp only at hSw); (try go_simp); (try with_reducible rfl))
                  (try simp only [Act.put, List.setIfInBounds_toArray, List.set_cons_zero, List.set_cons_succ])
                  refine anyE_takeW (v := ?_) 9 rfl (by kernel_rfl) (by kernel_rfl) (by kernel_rfl) (by decide) (fun _ _ _ h => h) (Or.inl ⟨by rfl, ?_⟩) (by assumption) ?_
                  rotate_left
                  · ((intro w'); (try go_simp); (try with_reducible rfl))
                  (try simp only [Act.put, List.setIfInBounds_toArray, List.set_cons_zero, List.set_cons_succ])
                  refine anyE_takeW (v := ?_) 10 rfl (by kernel_rfl) (by kernel_rfl) (by kernel_rfl) (by decide) (fun _ _ _ h => h) (Or.inl ⟨by rfl, ?_⟩) (by assumption) ?_
                  rotate_left
                  · ((intro w'); (try go_simp); (try with_reducible rfl))
                  (try simp only [Act.put, List.setIfInBounds_toArray, List.set_cons_zero, List.set_cons_succ])
                  refine anyE_take (v := ?_) 11 rfl (by kernel_rfl) (by kernel_rfl) (by kernel_rfl) (by kernel_rfl) (by kernel_rfl) (fun _ _ _ h => h) (Or.inl ⟨by rfl, ?_⟩) (by assumption) ?_
                  rotate_left
                  · ((intro w' hSw); (try dsimp only at hSw); (try go_simp); (try with_reducible rfl))
                  (try simp only [Act.put, List.setIfInBounds_toArray, List.set_cons_zero, List.set_cons_succ])
                  refine anyE_takeW (v := ?_) 12 rfl (by kernel_rfl) (by kernel_rfl) (by kernel_rfl) (by decide) (fun _ _ _ h => h) (Or.inl ⟨by rfl, ?_⟩) (by assumption) ?_
                  rotate_left
                  · ((intro w'); (try go_simp); (try with_reducible rfl))
                  (try simp only [Act.put, List.setIfInBounds_toArray, List.set_cons_zero, List.set_cons_succ])
                  refine anyE_step 13 (by kernel_rfl) rfl (fun K hK => ?_)
                  go_simp
                  (go_at_call 62; refine (HFR.out _ hHeld.2.2.2.out).mono ?_)
                  rintro e wz ⟨rfl, hEz⟩
                  go_wp2_with fail
                  refine hK.out _ _ ⟨(hEz).cell hHeld.1, (hEz).cell hHeld.2.1, (hEz).cell hHeld.2.2.1, Ext.trans hHeld.2.2.2.out (hEz)⟩ (fun hHeld => ?_)
                  clear hK K
                  (try simp only [Act.put, List.setIfInBounds_toArray, List.set_cons_zero, List.set_cons_succ])
                  have HWZ : Hid (Ext wi wz) := hHeld.2.2.2
                  have HRZ := Lib.hid (HR.out.ext HWZ.out)
                  have s0 := HRZ.out.num x z0 HZ0.out
                  have s1 := HRZ.out.den x z0 HZ0.out
                  have f0 := HRZ.out.free (x * 2)
                  have f1 := HRZ.out.free (x * 2 + 1)
                  refine anyE_takeW (v := ?_) 14 rfl (by kernel_rfl) (by kernel_rfl) (by kernel_rfl) (by decide) (fun _ _ _ h => h) (Or.inl ⟨by rfl, ?_⟩) (by assumption) ?_
                  rotate_left
                  · ((intro w'); (try go_simp); (try with_reducible rfl))
                  (try simp only [Act.put, List.setIfInBounds_toArray, List.set_cons_zero, List.set_cons_succ])
                  refine anyE_last 15 (by kernel_rfl) (by kernel_rfl) (by kernel_rfl) rfl (fun K hK => ?_)
                  go_simp
                  refine hK.out _ _ ?_
                  clear hK K
                  (try simp only [Act.put, List.setIfInBounds_toArray, List.set_cons_zero, List.set_cons_succ])
                  -->R21
                  have HRN : Hid (RowQ ((wz.setCell ⟨gx, x * 2, none⟩ (.string (intB qq.num))).setCell ⟨gx, x * 2 + 1, none⟩ (.string (numB qq.den))) gx (eTo E n (i + 1))) := by
                    have := HRZ.out.set x HXL.out qq
                    rw [HST.out] at this; exact this
                  have HEN : Hid (Ext w3 ((wz.setCell ⟨gx, x * 2, none⟩ (.string (intB qq.num))).setCell ⟨gx, x * 2 + 1, none⟩ (.string (numB qq.den)))) := Below.setCell (Below.setCell (HEW.out.trans HWZ.out) HGX.out _) HGX.out _
                  go_wp2_with fail
                  go_roundw
                  case rel => exact ⟨i + 1, by omega, by go_num, HEN.out, HRN.out⟩
                  case measure => simp [intOf]; omega
                · obtain rfl : i = k := by omega
                  have p8 : ¬ (i : Int) < (i : Int) := by omega
                  have hrt := HR.out.rats (c := n) (by rw [eTo_len]; exact Nat.le_refl _) (by have := HN12.out; omega)
                  rw [eTo_len] at hrt
                  have e2 : XL = eTo E n i := by rw [HLI.out]; unfold solX; rw [if_neg (by rw [HGOOD.out]; simp), eTo_eq HB.out, HK.out, HB.out.lead]
                  rw [← e2] at hrt
                  have HRT := Lib.hid hrt
                  have HXF := Lib.hid (HE3.out.trans HEW.out)
                  clear hrt e2
                  by_cases hln : i < n
                  · have e1 : Hid (KI = 2) := by unfold Hid; rw [HKI.out]; unfold solK; rw [if_neg (by rw [HGOOD.out]; simp), ← HB.out.lead, ← HK.out, if_pos hln]
                    have p9 : (i : Int) < (n : Int) := by omega
                    go_wp2_with fail
                    go_ret2
                    exact ⟨_, by rw [e1.out]; rfl, HRT.out, HXF.out⟩
                  · have e1 : Hid (KI = 1) := by unfold Hid; rw [HKI.out]; unfold solK; rw [if_neg (by rw [HGOOD.out]; simp), ← HB.out.lead, ← HK.out, if_neg hln]
                    have p9 : ¬ (i : Int) < (n : Int) := by omega
                    go_wp2_with fail
                    go_ret2
                    exact ⟨_, by rw [e1.out]; rfl, HRT.out, HXF.out⟩
end Go.Proofs.YtpeinobepiodaaaGreatDoor
/- The errors of table.Solve; printed by gen/tabbad.py. -/
namespace Go.Proofs.YtpeinobepiodaaaGreatDoor
set_option linter.unusedVariables false
set_option linter.unusedSimpArgs false
open Go.RowKit

set_option maxRecDepth 100000 in
set_option maxHeartbeats 4000000 in
theorem solve_bad1 (xss : List (List Int)) (right : List Int) (v ur : Value) (w : World) (h : Rows2 w v xss) (hk : Ints w ur right) (hE : tabE xss ≠ 0) :
    Calls Tryz.prog 28 #[v, ur] w fun e w' => e = .returned (.tuple #[.slice none 0 0, .int .i64 0, .int .i64 (tabE xss)]) ∧ Ext w w' := by
  have HCH := Lib.hid (fun W hW => tabCheck_any xss v W (h.ext (w' := W) hW))
  obtain ⟨a, c, rfl, h1, h2, -, -⟩ := inCell.open h
  obtain ⟨ar, cr, rfl, h3, h4, -, -, -⟩ := hk.open
  obtain ⟨L, hL⟩ : ∃ L, L = xss.length := ⟨_, rfl⟩
  obtain ⟨M, hM⟩ : ∃ M, M = right.length := ⟨_, rfl⟩
  obtain ⟨E, hEE⟩ : ∃ E, E = tabE xss := ⟨_, rfl⟩
  rw [← hL] at HCH h1 ⊢
  rw [← hM] at h3 ⊢
  rw [← hEE] at HCH hE ⊢
  have q : (E != 0) = true := by simpa using hE
  clear h hk hE hEE hL hM
  unfold maxLen at h2 h4
  go_enter Tryz.func28, Tryz.ntmps28
  obtain ⟨W1, hW1⟩ : ∃ W1, w.alloc (.cells #[.slice ar M cr] 51) = W1 := ⟨_, rfl⟩
  have hX1 : Ext w W1 := by rw [← hW1]; exact Ext.alloc _ _
  have c1 : W1.cell? ⟨w.heap.size, 0, none⟩ = some (.slice ar M cr) := by rw [← hW1, World.cell?_alloc_new]; rfl
  have HX1 := Lib.hid hX1
  clear hX1
  go_wp2_with fail
  refine (HCH.out _ HX1.out).mono ?_
  rintro e w2 ⟨rfl, hE2⟩
  have c2 := hE2.cell c1
  have HX2 := Lib.hid (Ext.trans HX1.out hE2)
  clear hE2 c1 hW1 HCH
  go_wp2_with fail
  go_ret3
  exact ⟨rfl, HX2.out⟩
set_option maxRecDepth 100000 in
set_option maxHeartbeats 4000000 in
theorem solve_bad2 (xss : List (List Int)) (right : List Int) (v ur : Value) (w : World) (h : Rows2 w v xss) (hk : Ints w ur right) (hE : tabE xss = 0) (hl : right.length ≠ xss.length) :
    Calls Tryz.prog 28 #[v, ur] w fun e w' => e = .returned (.tuple #[.slice none 0 0, .int .i64 0, .int .i64 5]) ∧ Ext w w' := by
  have HCH := Lib.hid (fun W hW => tabCheck_any xss v W (h.ext (w' := W) hW))
  rw [hE] at HCH
  obtain ⟨a, c, rfl, h1, h2, -, -⟩ := inCell.open h
  obtain ⟨ar, cr, rfl, h3, h4, -, -, -⟩ := hk.open
  obtain ⟨L, hL⟩ : ∃ L, L = xss.length := ⟨_, rfl⟩
  obtain ⟨M, hM⟩ : ∃ M, M = right.length := ⟨_, rfl⟩
  rw [← hL] at HCH h1 hl ⊢
  rw [← hM] at h3 hl ⊢
  have q : ((M : Int) != (L : Int)) = true := by rw [bne_iff_ne]; omega
  clear h hk hE hl hL hM
  unfold maxLen at h2 h4
  go_enter Tryz.func28, Tryz.ntmps28
  obtain ⟨W1, hW1⟩ : ∃ W1, w.alloc (.cells #[.slice ar M cr] 51) = W1 := ⟨_, rfl⟩
  have hX1 : Ext w W1 := by rw [← hW1]; exact Ext.alloc _ _
  have c1 : W1.cell? ⟨w.heap.size, 0, none⟩ = some (.slice ar M cr) := by rw [← hW1, World.cell?_alloc_new]; rfl
  have HX1 := Lib.hid hX1
  clear hX1
  go_wp2_with fail
  refine (HCH.out _ HX1.out).mono ?_
  rintro e w2 ⟨rfl, hE2⟩
  have c2 := hE2.cell c1
  have HX2 := Lib.hid (Ext.trans HX1.out hE2)
  clear hE2 c1 hW1 HCH
  go_wp2_with fail
  go_ret3
  exact ⟨rfl, HX2.out⟩
set_option maxRecDepth 100000 in
set_option maxHeartbeats 4000000 in
theorem solve_bad3 (xss : List (List Int)) (right : List Int) (v ur : Value) (w : World) (h : Rows2 w v xss) (hk : Ints w ur right) (hE : tabE xss = 0) (hl : right.length = xss.length) (hy : right.any (fun x => !fitB x) = true) :
    Calls Tryz.prog 28 #[v, ur] w fun e w' => e = .returned (.tuple #[.slice none 0 0, .int .i64 0, .int .i64 4]) ∧ Ext w w' := by
  have HCH := Lib.hid (fun W hW => tabCheck_any xss v W (h.ext (w' := W) hW))
  rw [hE] at HCH
  have HANY : Hid (∀ W, Ext w W → Calls Tryz.prog 66 #[ur, .func (.func 67) #[] #[]] W fun e w' => e = .returned (.bool true) ∧ Ext W w') := fun W hW => by
    have := containsRow_any right ur 67 #[] (fun x => !fitB x) W (hk.ext hW) (enters_of Tryz.func67 (by kernel_rfl) rfl) (fun W x _ _ => (great_any x W).mono fun _ _ ⟨he, hw⟩ => ⟨he, hw ▸ Ext.refl _⟩)
    rw [hy] at this
    exact this
  obtain ⟨a, c, rfl, h1, h2, -, -⟩ := inCell.open h
  obtain ⟨ar, cr, rfl, h3, h4, -, -, -⟩ := hk.open
  obtain ⟨L, hL⟩ : ∃ L, L = xss.length := ⟨_, rfl⟩
  obtain ⟨M, hM⟩ : ∃ M, M = right.length := ⟨_, rfl⟩
  rw [← hL] at HCH h1 hl ⊢
  rw [← hM] at h3 hl HANY ⊢
  subst hl
  have q : ((M : Int) != (M : Int)) = false := by simp
  clear h hk hE hy hL hM
  unfold maxLen at h2 h4
  go_enter Tryz.func28, Tryz.ntmps28
  obtain ⟨W1, hW1⟩ : ∃ W1, w.alloc (.cells #[.slice ar M cr] 51) = W1 := ⟨_, rfl⟩
  have hX1 : Ext w W1 := by rw [← hW1]; exact Ext.alloc _ _
  have c1 : W1.cell? ⟨w.heap.size, 0, none⟩ = some (.slice ar M cr) := by rw [← hW1, World.cell?_alloc_new]; rfl
  have HX1 := Lib.hid hX1
  clear hX1
  go_wp2_with fail
  refine (HCH.out _ HX1.out).mono ?_
  rintro e w2 ⟨rfl, hE2⟩
  have c2 := hE2.cell c1
  have HX2 := Lib.hid (Ext.trans HX1.out hE2)
  clear hE2 c1 hW1 HCH
  go_wp2_with fail
  refine (HANY.out _ HX2.out).mono ?_
  rintro e w3 ⟨rfl, hE3⟩
  have HX3 := Lib.hid (Ext.trans HX2.out hE3)
  clear hE3 c2 HANY
  go_wp2_with fail
  go_ret3
  exact ⟨rfl, HX3.out⟩
end Go.Proofs.YtpeinobepiodaaaGreatDoor
