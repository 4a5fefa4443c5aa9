/- Merged: RegF, ClassP, DualP, LatWith. -/
import Derived.Test.YtehknemdfbkimaaGreatDoorDAV
import Derived.Laws.Rows
import Derived.Test.YtehknemdfbkimaaGreatDoorDAN
import Derived.Test.YtehknemdfbkimaaGreatDoorDAY
import Derived.Test.YtehknemdfbkimaaGreatDoorDBE
import Derived.Test.YtehknemdfbkimaaGreatDoorDBB
import Derived.Test.YtehknemdfbkimaaGreatDoorDBD
import Derived.Test.YtehknemdfbkimaaGreatDoorDBC
import Derived.Test.YtehknemdfbkimaaGreatDoorDAK
/- A region that draws its order: more than one operation can come up, each is followed; a whole block loaded. -/
namespace Go.Proofs.YtehknemdfbkimaaGreatDoor
set_option linter.unusedVariables false
section
variable {P : Program} {ops : Array Oper} {Q : Exit → Act → World → Prop} {md : Region.Mode} {S : World → Prop} {z : Nat}
theorem anyE_fork2 (i j : Nat) {oi oj : Oper} {f : Nat} {l : Array Bool} {a : Act} {w : World} (hr : Region.ready md ops l = [i, j]) (hi : ops[i]? = some oi) (hj : ops[j]? = some oj)
    (h1 : ∀ K : Act → World → Prop, Shut (∀ b u, S u → (S u → anyE P md ops Q S z f (l.setIfInBounds i true) b u) → K b u) → if Region.wanted oi (yielded ops a.tmps) = true then Oper.wp P oi a w K Q else K (a.put oi.dst undef) w)
    (h2 : ∀ K : Act → World → Prop, Shut (∀ b u, S u → (S u → anyE P md ops Q S z f (l.setIfInBounds j true) b u) → K b u) → if Region.wanted oj (yielded ops a.tmps) = true then Oper.wp P oj a w K Q else K (a.put oj.dst undef) w) : anyE P md ops Q S z (f + 1) l a w := by
  refine ⟨(fun e => by rw [hr] at e; cases e), fun m hm => ?_⟩
  rw [hr] at hm
  simp only [List.mem_cons, List.not_mem_nil, or_false] at hm
  rcases hm with rfl | rfl
  · exact wpOp_step hi fun K hK => h1 K fun b u hS hrest => hK b u ⟨fun _ => hS, hrest hS⟩
  · exact wpOp_step hj fun K hK => h2 K fun b u hS hrest => hK b u ⟨fun _ => hS, hrest hS⟩
theorem anyE_fork3 (i j k : Nat) {oi oj ok : Oper} {f : Nat} {l : Array Bool} {a : Act} {w : World} (hr : Region.ready md ops l = [i, j, k]) (hi : ops[i]? = some oi) (hj : ops[j]? = some oj) (hk : ops[k]? = some ok)
    (h1 : ∀ K : Act → World → Prop, Shut (∀ b u, S u → (S u → anyE P md ops Q S z f (l.setIfInBounds i true) b u) → K b u) → if Region.wanted oi (yielded ops a.tmps) = true then Oper.wp P oi a w K Q else K (a.put oi.dst undef) w)
    (h2 : ∀ K : Act → World → Prop, Shut (∀ b u, S u → (S u → anyE P md ops Q S z f (l.setIfInBounds j true) b u) → K b u) → if Region.wanted oj (yielded ops a.tmps) = true then Oper.wp P oj a w K Q else K (a.put oj.dst undef) w)
    (h3 : ∀ K : Act → World → Prop, Shut (∀ b u, S u → (S u → anyE P md ops Q S z f (l.setIfInBounds k true) b u) → K b u) → if Region.wanted ok (yielded ops a.tmps) = true then Oper.wp P ok a w K Q else K (a.put ok.dst undef) w) : anyE P md ops Q S z (f + 1) l a w := by
  refine ⟨(fun e => by rw [hr] at e; cases e), fun m hm => ?_⟩
  rw [hr] at hm
  simp only [List.mem_cons, List.not_mem_nil, or_false] at hm
  rcases hm with rfl | rfl | rfl
  · exact wpOp_step hi fun K hK => h1 K fun b u hS hrest => hK b u ⟨fun _ => hS, hrest hS⟩
  · exact wpOp_step hj fun K hK => h2 K fun b u hS hrest => hK b u ⟨fun _ => hS, hrest hS⟩
  · exact wpOp_step hk fun K hK => h3 K fun b u hS hrest => hK b u ⟨fun _ => hS, hrest hS⟩
/-- A whole block loaded. -/
theorem yields_load_row {oi : Oper} {a : Act} (ty : TypeId) (x : Operand) (ho : oi.op = .load ty x) (hgd : oi.guard = none) (g : Nat) (hx : a.eval x = .pointer (some ⟨g, 0, none⟩)) (t : TypeId) (cs : Array Value) (fr : Nat × Nat) (d : TypeDesc) (hg : ∀ w, S w → w.heap[g]? = some (.cells cs t fr))
    (hu : P.underlying ty = some d) (hd : (match d with | .struct _ | .array _ _ => true | _ => false) = true) (hi : (P.info? ty).map (·.size) = some cs.size) : YieldsIf P ops S oi (.agg cs) a :=
  Or.inl ⟨by simp [Region.wanted, hgd], fun w hS => by
    unfold execOp
    simp only [ho, hx, Instr.loadAt, Instr.sureAddr, Sem.run_bind, Sem.run_pure, Result.andThen_ok, run_loadVar_row w g t ty cs fr d (hg w hS) hu hd hi]⟩
end
end Go.Proofs.YtehknemdfbkimaaGreatDoor
/- The functions of package lattice at the lattice of a plan. -/
namespace Go.Proofs.YtehknemdfbkimaaGreatDoor
set_option linter.unusedVariables false
set_option linter.unusedSimpArgs false
open Go.RowKit

/-- What a plan's form is. -/
structure PlanF (n : Nat) (m R : List (List Int)) (ps : Nat → Nat) : Prop where
  n12 : n ≤ 12
  rows : ∀ x ∈ m, x.length = n
  nine : ∀ x ∈ m, RowLe 9 x
  form : HForm n R ps
  four : R.length ≤ 4
  els : ∀ x ∈ R, RowLe 629856 x ∧ x.length = n
  span : SpEq n (RowsFrom 0 m) (RowsFrom 0 R)
  chk : chkE n R = 0
theorem PlanF.rowLE {n : Nat} {m R : List (List Int)} {ps : Nat → Nat} (h : PlanF n m R ps) {x : List Int} (hx : x.length = n) (hb : RowLe 1000 x) : rowLE n R x = 0 := by
  unfold Go.Proofs.YtehknemdfbkimaaGreatDoor.rowLE
  have hn := h.n12
  rw [if_pos h.chk, if_pos ((rowE_zero x).2 (okRow_of (by omega) (hb.mono (by decide)))), if_pos (by omega)]
section
variable {P : Program} {ops O : Array Oper} {Q : Exit → Act → World → Prop} {md : Region.Mode} {S : World → Prop} {z n : Nat}
end
end Go.Proofs.YtehknemdfbkimaaGreatDoor
/- Law 09, plain: the sum of two plans' lattices, the intersection of their annihilators, the index. No program is named here. -/
namespace Go.Proofs.YtehknemdfbkimaaGreatDoor
set_option linter.unusedVariables false
set_option linter.unusedSimpArgs false
open Go.RowKit

theorem speq_app {n : Nat} {a a' b b' : List (List Int)} (h : SpEq n (RowsFrom 0 a) (RowsFrom 0 a')) (k : SpEq n (RowsFrom 0 b) (RowsFrom 0 b')) : SpEq n (RowsFrom 0 (a ++ b)) (RowsFrom 0 (a' ++ b')) := by
  have key : ∀ {a a' b b' : List (List Int)}, (∀ r, RowsFrom 0 a r → Sp n (RowsFrom 0 a') r) → (∀ r, RowsFrom 0 b r → Sp n (RowsFrom 0 b') r) → ∀ r, RowsFrom 0 (a ++ b) r → Sp n (RowsFrom 0 (a' ++ b')) r := by
    intro a a' b b' h k r hr
    rcases List.mem_append.1 (rf_iff.1 hr) with hr | hr
    · exact (h r (rf_iff.2 hr)).mono fun s hs => .mem (rf_iff.2 (List.mem_append_left _ (rf_iff.1 hs)))
    · exact (k r (rf_iff.2 hr)).mono fun s hs => .mem (rf_iff.2 (List.mem_append_right _ (rf_iff.1 hs)))
  exact ⟨key h.1 k.1, key h.2 k.2⟩
theorem ann_rows {n : Nat} {m : List (List Int)} {v : List Int} : Ann n m v ↔ v.length = n ∧ ∀ r ∈ m, dotZ r v n = 0 := by
  constructor
  · intro h
    refine ⟨h.1, fun r hr => ?_⟩
    obtain ⟨i, hi, rfl⟩ := mem_rowE hr
    exact h.2 i hi
  · intro h
    exact ⟨h.1, fun i hi => h.2 _ (rowE_mem hi)⟩
theorem ann_app {n : Nat} {a b : List (List Int)} {v : List Int} : Ann n (a ++ b) v ↔ Ann n a v ∧ Ann n b v := by
  rw [ann_rows, ann_rows, ann_rows]
  constructor
  · intro h
    exact ⟨⟨h.1, fun r hr => h.2 r (List.mem_append_left _ hr)⟩, h.1, fun r hr => h.2 r (List.mem_append_right _ hr)⟩
  · rintro ⟨h1, -, h2⟩
    refine ⟨h1.1, fun r hr => ?_⟩
    rcases List.mem_append.1 hr with hr | hr
    · exact h1.2 r hr
    · exact h2 r hr
/-- What the wide matrix of an intersection generates. -/
def DblP (n : Nat) (A B : List (List Int)) (w : List Int) : Prop := ∃ p q, Sp n (RowsFrom 0 A) p ∧ Sp n (RowsFrom 0 B) q ∧ w.length = n + n ∧ ∀ c, c < n → w.getD c 0 = p.getD c 0 + q.getD c 0 ∧ w.getD (n + c) 0 = p.getD c 0
theorem dbl_getD {n : Nat} {r s : List Int} (hr : r.length = n) (c : Nat) (hc : c < n) : (r ++ s).getD c 0 = r.getD c 0 ∧ (r ++ s).getD (n + c) 0 = s.getD c 0 := by
  refine ⟨app_left (by omega), ?_⟩
  rw [app_right (by omega)]
  congr 1; omega
theorem wideI_len {n : Nat} {A B : List (List Int)} (hA : ∀ x ∈ A, x.length = n) (hB : ∀ x ∈ B, x.length = n) : ∀ x ∈ wideI n A B, x.length = n + n := by
  intro x hx
  unfold wideI at hx
  rcases List.mem_append.1 hx with hx | hx
  · obtain ⟨r, hr, rfl⟩ := List.mem_map.1 hx
    rw [List.length_append, hA r hr]
  · obtain ⟨r, hr, rfl⟩ := List.mem_map.1 hx
    rw [List.length_append, hB r hr]; simp
theorem dbl_of {n : Nat} {A B : List (List Int)} (hA : ∀ x ∈ A, x.length = n) (hB : ∀ x ∈ B, x.length = n) {w : List Int} (h : Sp (n + n) (RowsFrom 0 (wideI n A B)) w) : DblP n A B w := by
  have hWA : AllLen n (RowsFrom 0 A) := fun r hr => hA r (rf_iff.1 hr)
  have hWB : AllLen n (RowsFrom 0 B) := fun r hr => hB r (rf_iff.1 hr)
  induction h with
  | zero =>
    refine ⟨_, _, .zero, .zero, by simp, fun c _ => ⟨?_, ?_⟩⟩
    · rw [repl_getD, repl_getD]; rfl
    · rw [repl_getD, repl_getD]
  | mem h =>
    have hx := rf_iff.1 h
    unfold wideI at hx
    rcases List.mem_append.1 hx with hx | hx
    · obtain ⟨r, hr, rfl⟩ := List.mem_map.1 hx
      refine ⟨r, _, .mem (rf_iff.2 hr), .zero, by rw [List.length_append, hA r hr], fun c hc => ?_⟩
      obtain ⟨e1, e2⟩ := dbl_getD (s := r) (hA r hr) c hc
      rw [e1, e2, repl_getD]
      exact ⟨by omega, rfl⟩
    · obtain ⟨r, hr, rfl⟩ := List.mem_map.1 hx
      refine ⟨_, r, .zero, .mem (rf_iff.2 hr), by rw [List.length_append, hB r hr]; simp, fun c hc => ?_⟩
      obtain ⟨e1, e2⟩ := dbl_getD (s := List.replicate n 0) (hB r hr) c hc
      rw [e1, e2, repl_getD]
      exact ⟨by omega, rfl⟩
  | less k a b iha ihb =>
    obtain ⟨p, q, h1, h2, h3, h4⟩ := iha
    obtain ⟨p', q', k1, k2, k3, k4⟩ := ihb
    have lp := h1.len hWA; have lq := h2.len hWB; have lp' := k1.len hWA; have lq' := k2.len hWB
    refine ⟨_, _, .less k h1 k1, .less k h2 k2, by rw [lessL_len]; exact h3, fun c hc => ?_⟩
    rw [lessL_getD k (by omega), lessL_getD k (by omega), lessL_getD k (by omega), lessL_getD k (by omega), (h4 c hc).1, (h4 c hc).2, (k4 c hc).1, (k4 c hc).2, Int.mul_add]
    exact ⟨by omega, rfl⟩
theorem dbl_map {n : Nat} {A : List (List Int)} {S : List Int → Prop} (f : List Int → List Int) (hA : ∀ x ∈ A, x.length = n) (hf : ∀ r ∈ A, S (f r)) (h0 : f (List.replicate n 0) = List.replicate (n + n) 0) (hl : ∀ k x y, x.length = n → y.length = n → f (lessL k x y) = lessL k (f x) (f y)) {v : List Int} (h : Sp n (RowsFrom 0 A) v) : Sp (n + n) S (f v) := by
  have hWA : AllLen n (RowsFrom 0 A) := fun r hr => hA r (rf_iff.1 hr)
  induction h with
  | zero => rw [h0]; exact .zero
  | mem h => exact .mem (hf _ (rf_iff.1 h))
  | less k a b iha ihb => rw [hl k _ _ (a.len hWA) (b.len hWA)]; exact .less k iha ihb
theorem app_less {n : Nat} (k : Int) {a b c d : List Int} (ha : a.length = n) (hb : b.length = n) (hc : c.length = n) (hd : d.length = n) : lessL k (a ++ c) (b ++ d) = lessL k a b ++ lessL k c d := by
  refine ext_getD (by rw [lessL_len, List.length_append, List.length_append, lessL_len, lessL_len]) fun i => ?_
  rw [lessL_getD k (by rw [List.length_append, List.length_append]; omega)]
  by_cases h : i < n
  · rw [app_left (by omega), app_left (by omega), app_left (by rw [lessL_len]; omega), lessL_getD k (by omega)]
  · rw [app_right (by omega), app_right (by omega), app_right (by rw [lessL_len]; omega), lessL_len, ha, hb, lessL_getD k (by omega)]
theorem of_dbl {n : Nat} {A B : List (List Int)} (hA : ∀ x ∈ A, x.length = n) (hB : ∀ x ∈ B, x.length = n) {v : List Int} (h1 : Sp n (RowsFrom 0 A) v) (h2 : Sp n (RowsFrom 0 B) v) : Sp (n + n) (RowsFrom 0 (wideI n A B)) (List.replicate n 0 ++ v) := by
  have hv : v.length = n := h1.len fun r hr => hA r (rf_iff.1 hr)
  have e0 : List.replicate n (0 : Int) ++ List.replicate n 0 = List.replicate (n + n) 0 := by rw [List.replicate_append_replicate]
  have a1 := dbl_map (S := RowsFrom 0 (wideI n A B)) (fun r => r ++ r) hA (fun r hr => rf_iff.2 (List.mem_append_left _ (List.mem_map.2 ⟨r, hr, rfl⟩))) e0 (fun k x y hx hy => (app_less k hx hy hx hy).symm) h1
  have a2 := dbl_map (S := RowsFrom 0 (wideI n A B)) (fun r => r ++ List.replicate n 0) hB (fun r hr => rf_iff.2 (List.mem_append_right _ (List.mem_map.2 ⟨r, hr, rfl⟩))) e0 (fun k x y hx hy => by
    have hz : lessL k (List.replicate n (0 : Int)) (List.replicate n 0) = List.replicate n 0 := by
      refine ext_getD (by rw [lessL_len]) fun c => ?_
      rw [lessL_getD k (by simp), repl_getD]; simp
    have := app_less (n := n) k hx hy (c := List.replicate n 0) (d := List.replicate n 0) (by simp) (by simp)
    rw [hz] at this
    exact this.symm) h2
  have a3 := Sp.less 1 a1 a2
  have e : lessL 1 (v ++ v) (v ++ List.replicate n 0) = List.replicate n 0 ++ v := by
    rw [app_less (n := n) 1 hv hv hv (by simp)]
    have z1 : lessL 1 v v = List.replicate n 0 := by rw [lessL_self, hv]
    have z2 : lessL 1 v (List.replicate n 0) = v := lessL_zero_right n hv
    rw [z1, z2]
  have a3' : Sp (n + n) (RowsFrom 0 (wideI n A B)) (lessL 1 (v ++ v) (v ++ List.replicate n 0)) := a3
  rw [e] at a3'
  exact a3'
/-- The rows behind the wide form are those of both lattices. -/
theorem inter_sp {n d : Nat} {A B H : List (List Int)} {ps : Nat → Nat} (hA : ∀ x ∈ A, x.length = n) (hB : ∀ x ∈ B, x.length = n) (hH : HForm (n + n) H ps) (hs : SpEq (n + n) (RowsFrom 0 (wideI n A B)) (RowsFrom 0 H)) (hd : d ≤ H.length) (h1 : ∀ i, i < d → ps i < n) (h2 : ∀ i, d ≤ i → i < H.length → n ≤ ps i) (v : List Int) :
    Sp n (RowsFrom 0 ((H.drop d).map (·.drop n))) v ↔ Sp n (RowsFrom 0 A) v ∧ Sp n (RowsFrom 0 B) v := by
  have hWA : AllLen n (RowsFrom 0 A) := fun r hr => hA r (rf_iff.1 hr)
  have hWB : AllLen n (RowsFrom 0 B) := fun r hr => hB r (rf_iff.1 hr)
  have hW := (behind_form hH hd h1 h2).1
  constructor
  · intro hv
    induction hv with
    | zero => exact ⟨.zero, .zero⟩
    | mem hm =>
      obtain ⟨i, -, hi, rfl⟩ := hm
      have hi' : d + i < H.length := by simp at hi; omega
      obtain ⟨p, q, k1, k2, k3, k4⟩ := dbl_of hA hB (hs.2 _ (rowsFrom_mem (Nat.zero_le (d + i)) hi'))
      have hge := h2 (d + i) (by omega) hi'
      have lp := k1.len hWA; have lq := k2.len hWB
      have hrow : rowE_ ((H.drop d).map (·.drop n)) i = p := by
        rw [rowE_behind hi']
        refine ext_getD (by rw [List.length_drop, k3, lp]; omega) fun c => ?_
        rw [drop_getD]
        by_cases hc : c < n
        · exact (k4 c hc).2
        · rw [List.getD_eq_getElem?_getD, List.getD_eq_getElem?_getD, List.getElem?_eq_none (by omega), List.getElem?_eq_none (by omega)]
      have hq : q = p.map (- ·) := by
        refine ext_getD (by rw [List.length_map]; omega) fun c => ?_
        by_cases hc : c < n
        · have h3 := hH.2.zero (d + i) hi' c (by omega)
          have h4 := (k4 c hc).1
          unfold getE at h3
          have h5 : (p.map (- ·)).getD c 0 = - p.getD c 0 := by
            rw [List.getD_eq_getElem?_getD, List.getD_eq_getElem?_getD, List.getElem?_map]
            cases p[c]? <;> simp
          rw [h5]; omega
        · rw [List.getD_eq_getElem?_getD, List.getD_eq_getElem?_getD, List.getElem?_eq_none (by omega), List.getElem?_eq_none (by rw [List.length_map]; omega)]
      rw [hrow]
      refine ⟨k1, ?_⟩
      have h6 := k2.neg lq
      rw [hq] at h6
      have h7 : (p.map (- ·)).map (- ·) = p := by rw [List.map_map]; rw [List.map_congr_left (g := id) (fun x _ => by simp)]; simp
      rw [h7] at h6
      exact h6
    | less k a b iha ihb => exact ⟨.less k iha.1 ihb.1, .less k iha.2 ihb.2⟩
  · intro hv
    have hl : v.length = n := hv.1.len hWA
    have h3 := (hs.iff _).1 (of_dbl hA hB hv.1 hv.2)
    have h4 := sp_skip (w := List.replicate n 0 ++ v) hH hd h1 (fun c hc => by rw [app_left (by simpa using hc), repl_getD]) d (Nat.le_refl _) (by rw [Nat.sub_self]; exact h3)
    have h5 := sp_behind h4
    rw [List.drop_left' (by simp)] at h5
    exact h5
theorem g86 : (gN 8 6 0).1 + 1 ≤ 400000000 ∧ (gN 8 6 0).2 + 1 ≤ 400000000 := by decide +kernel
/-- The data of two plans. -/
structure DualsF (n F : Nat) (R T U A B O S H : List (List Int)) : Prop where
  dA : DualF n F R A S
  dB : ∃ SB, DualF n F T B SB
  dO : ∃ SO, DualF n F U O SO
  fU : formO n F n (R ++ T) = some U
  bU : ∀ x ∈ U, RowLe 629856 x ∧ x.length = n
  lU : U.length ≤ n
  spU : SpEq n (RowsFrom 0 (R ++ T)) (RowsFrom 0 U)
  hU : ∃ us, HForm n U us
  fH : formO (2 * n) F (2 * n) (wideI n A B) = some H
  okH : okM (n + n) H = true
  lH : H.length ≤ 1000
  fO : formO n F n (behindL n H) = some O
theorem duals_of {n : Nat} {m1 m2 R T : List (List Int)} {ps qs : Nat → Nat} (hn1 : 1 ≤ n) (hn : n ≤ 4) (P1 : PlanF n m1 R ps) (P2 : PlanF n m2 T qs) : ∃ F U A B O S H, DualsF n F R T U A B O S H := by
  have hg := gsz hn
  obtain ⟨F1, A, S, dA⟩ := plan_dual hn P1.rows P1.nine P1.form P1.span
  obtain ⟨F2, B, SB, dB⟩ := plan_dual hn P2.rows P2.nine P2.form P2.span
  have hRT : ∀ x ∈ R ++ T, RowLe 629856 x ∧ x.length = n := fun x hx => by
    rcases List.mem_append.1 hx with hx | hx
    · exact P1.els x hx
    · exact P2.els x hx
  have hmm : ∀ x ∈ m1 ++ m2, RowLe 9 x ∧ x.length = n := fun x hx => by
    rcases List.mem_append.1 hx with hx | hx
    · exact ⟨P1.nine x hx, P1.rows x hx⟩
    · exact ⟨P2.nine x hx, P2.rows x hx⟩
  obtain ⟨F3, U, us, u1, u2, u3, -, u5⟩ := form_all n n 6 (R ++ T) (fun x hx => (hRT x hx).2) (fun x hx => (hRT x hx).1.mono (by decide)) (.inr (Nat.le_refl _)) hg.1 hg.2.1
  have hsm : SpEq n (RowsFrom 0 (m1 ++ m2)) (RowsFrom 0 U) := (speq_app P1.span P2.span).trans u5
  have hlU := hform_len u3
  have hWm : Wid n (m1 ++ m2) := fun i hi => (hmm _ (rowE_mem hi)).2
  have hbU : ∀ x ∈ U, RowLe 629856 x ∧ x.length = n := fun x hx => by
    obtain ⟨i, hi, rfl⟩ := mem_rowE hx
    exact ⟨(form_bound (N := 9) u3 hWm (fun j hj => (hmm _ (rowE_mem hj)).1) hsm i hi).mono (le629 (by omega)), u3.1 i hi⟩
  obtain ⟨F4, O, SO, dO⟩ := plan_dual hn (fun x hx => (hmm x hx).2) (fun x hx => (hmm x hx).1) u3 hsm
  obtain ⟨qa, hAf⟩ := dA.fA
  obtain ⟨qb, hBf⟩ := dB.fA
  obtain ⟨qo, hOf⟩ := dO.fA
  have lA := hform_len hAf; have lB := hform_len hBf; have lO := hform_len hOf
  have hAl : ∀ x ∈ A, x.length = n := fun x hx => (dA.bA x hx).2
  have hBl : ∀ x ∈ B, x.length = n := fun x hx => (dB.bA x hx).2
  have hwl := wideI_len hAl hBl
  have hwb : ∀ x ∈ wideI n A B, RowLe (10 ^ 6) x := by
    intro x hx y hy
    unfold wideI at hx
    rcases List.mem_append.1 hx with hx | hx
    · obtain ⟨r, hr, rfl⟩ := List.mem_map.1 hx
      have hb := (dA.bA r hr).1
      rcases List.mem_append.1 hy with hy | hy
      · exact Nat.le_trans (hb y hy) (by decide)
      · exact Nat.le_trans (hb y hy) (by decide)
    · obtain ⟨r, hr, rfl⟩ := List.mem_map.1 hx
      have hb := (dB.bA r hr).1
      rcases List.mem_append.1 hy with hy | hy
      · exact Nat.le_trans (hb y hy) (by decide)
      · rw [(List.mem_replicate.1 hy).2]; decide
  have hwn : (wideI n A B).length ≤ 8 := by unfold wideI; rw [List.length_append, List.length_map, List.length_map]; omega
  obtain ⟨F5, H, hs, h1, h2, h3, h4, h5⟩ := form_all (n + n) 8 6 (wideI n A B) hwl hwb (.inl hwn) g86.1 g86.2
  obtain ⟨d, d1, d2, d3⟩ := piv_split h3 n
  have hbf := behind_form h3 d1 d2 d3
  have hO : (H.drop d).map (·.drop n) = O := hform_same hbf hOf fun v => by
    rw [inter_sp hAl hBl h3 h5 d1 d2 d3, dA.spA, dB.spA, dO.spA, ← ann_app]
    exact ann_iff (fun i hi => (hRT _ (rowE_mem hi)).2) u3.1 u5 v
  obtain ⟨F6, hF6⟩ : ∃ F, formO n F n O = some O := by
    obtain ⟨F', R', ps', g1, g2, g3, -, g5⟩ := form_all n n 6 O (fun x hx => (dO.bA x hx).2) (fun x hx => (dO.bA x hx).1.mono (by decide)) (.inr (Nat.le_refl _)) hg.1 hg.2.1
    exact ⟨F', by rw [g1, hform_unique g3 hOf g5.symm]⟩
  have up : ∀ {X Y Z : List (List Int)} {f : Nat}, DualF n f X Y Z → f ≤ F1 + F2 + F3 + F4 + F5 + F6 → DualF n (F1 + F2 + F3 + F4 + F5 + F6) X Y Z := fun h hf =>
    ⟨h.fA, h.fS, h.spA, h.spS, kerS_mono hf h.kR, kerS_mono hf h.kA, kerS_mono hf h.kS, h.rR, h.rS, h.bA, h.bS⟩
  refine ⟨F1 + F2 + F3 + F4 + F5 + F6, U, A, B, O, S, H, up dA (by omega), ⟨SB, up dB (by omega)⟩, ⟨SO, up dO (by omega)⟩, formO_mono (by omega) u1, hbU, hlU, u5, ⟨us, u3⟩, ?_, ?_, by omega, ?_⟩
  · rw [Nat.two_mul]; exact formO_mono (by omega) h1
  · exact okM_of' (b := (gN 8 6 0).2) (fun x hx => by obtain ⟨i, hi, rfl⟩ := mem_rowE hx; exact h3.1 i hi) h4 (by have := g86.2; omega)
  · rw [behind_drop h3 d2 d3, hO]
    exact formO_mono (by omega) hF6
/-- Rows of one annihilator belong to another one. -/
theorem ann_within {n F : Nat} {R T U A B O S H : List (List Int)} (h : DualsF n F R T U A B O S H) (hR : ∀ x ∈ R, x.length = n) (hT : ∀ x ∈ T, x.length = n) {x : List Int} (hx : x ∈ O) : Sp n (RowsFrom 0 A) x := by
  obtain ⟨SO, dO⟩ := h.dO
  obtain ⟨us, hU⟩ := h.hU
  have h1 := (dO.spA x).1 (.mem (rf_iff.2 hx))
  have hW : Wid n (R ++ T) := fun i hi => by
    rcases List.mem_append.1 (rowE_mem hi) with h | h
    · exact hR _ h
    · exact hT _ h
  have h2 := (ann_iff hW hU.1 h.spU x).2 h1
  exact (h.dA.spA x).2 (ann_app.1 h2).1
/-- The index is 1 exactly if the lattice is saturated. -/
theorem index_of {n F : Nat} {m R A S : List (List Int)} {ps : Nat → Nat} (P : PlanF n m R ps) (d : DualF n F R A S) : ∃ PP QQ : Int, prodO R R.length = some PP ∧ prodO S S.length = some QQ ∧ smB PP = true ∧ smB QQ = true ∧ QQ ≠ 0 ∧ smB (fdq PP QQ) = true ∧ fit9B (fdq PP QQ) = true ∧ (fdq PP QQ = 1 ↔ R = S) := by
  obtain ⟨ss, hS⟩ := d.fS
  have hl : R.length = S.length := by have := d.rR; have := d.rS; omega
  have hsub : ∀ x ∈ R, Sp n (RowsFrom 0 S) x := fun x hx => (d.spS x).2 (sp_sat P.form.1 (.mem (rf_iff.2 hx)))
  obtain ⟨q, q1, q2, q3⟩ := form_index P.form hS hl hsub
  have hW : Wid n m := fun i hi => P.rows _ (rowE_mem hi)
  obtain ⟨z, z1, z2⟩ := minor_le P.form hW (fun j hj => P.nine _ (rowE_mem hj)) P.span ps
  rw [phi_piv P.form _ (Nat.le_refl _)] at z1
  have hz : prodP R ps R.length = z := by exact_mod_cast z1
  have h4 := P.four
  have hfac : facN 9 R.length ≤ 157464 := by
    have hc : R.length = 0 ∨ R.length = 1 ∨ R.length = 2 ∨ R.length = 3 ∨ R.length = 4 := by omega
    rcases hc with h | h | h | h | h <;> rw [h] <;> decide
  have hPpos := (prodP_pos P.form _ (Nat.le_refl R.length)).1
  have hQpos := (prodP_pos hS _ (Nat.le_refl S.length)).1
  have hPb : prodP R ps R.length ≤ 157464 := by omega
  have hQP : prodP S ss S.length ≤ prodP R ps R.length := by
    rw [q2]
    have : 1 * prodP S ss S.length ≤ q * prodP S ss S.length := Int.mul_le_mul_of_nonneg_right q1 (by omega)
    omega
  have hq : fdq (prodP R ps R.length) (prodP S ss S.length) = q := by
    have ht : (prodP R ps R.length).tmod (prodP S ss S.length) = 0 := by rw [q2]; exact Int.mul_tmod_left _ _
    unfold fdq
    rw [if_neg (by rw [ht]; simp), q2]
    exact Int.mul_tdiv_cancel _ (by omega)
  have hqb : q ≤ 157464 := by
    have : q * 1 ≤ q * prodP S ss S.length := Int.mul_le_mul_of_nonneg_left (by omega) (by omega)
    omega
  refine ⟨_, _, prodO_prodP P.form (by omega) _ (Nat.le_refl _), prodO_prodP hS (by omega) _ (Nat.le_refl _), smB_of (K := 12) (by decide) (by decide) (by omega), smB_of (K := 12) (by decide) (by decide) (by omega), by omega, ?_, ?_, ?_⟩
  · rw [hq]; exact smB_of (K := 12) (by decide) (by decide) (by omega)
  · rw [hq]; exact (fit9B_iff q).2 (by omega)
  · rw [hq]; exact q3
end Go.Proofs.YtehknemdfbkimaaGreatDoor
/- Contract of package lattice: Within, where all rows belong to the other lattice. -/
namespace Go.Proofs.YtehknemdfbkimaaGreatDoor
set_option linter.unusedVariables false
set_option linter.unusedSimpArgs false
open Go.RowKit

set_option maxRecDepth 100000 in
set_option maxHeartbeats 2000000 in
theorem within1_any (n : Nat) (yss : List (List Int)) (x s ms : List Int) (B : Nat) (vb vx : Value) (w : World) (hB : w.heap[B]? = some (.cells #[.int .i64 n, vb] 30 (0, 0))) (h : Rows2 w vb yss) (hx : Ints w vx x) (hE : rowLE n yss x = 0) (hR : redO yss x yss.length = some (s, ms)) (hs : leadL s < 0) (ht : Pow10 w) (hb : 0 < w.heap.size) :
    Calls Tryz.prog 96 #[vx, .pointer (some ⟨B, 0, none⟩)] w fun e w' => e = .returned (.bool false) ∧ Ext w w' := by
  have HH := Lib.hid (has_any n yss x s ms (.agg #[.int .i64 n, vb]) vx w ⟨_, rfl, h⟩ hx hE hR ht hb)
  rw [decide_eq_true hs] at HH
  obtain ⟨e0, e1, -⟩ := lat_block hB
  obtain ⟨a, c, rfl, -⟩ := inCell.open h
  obtain ⟨ax, cx, rfl, -⟩ := hx.open
  clear h hx hE hR hs ht hb hB
  go_enter Tryz.func96, Tryz.ntmps96
  go_wp2_with fail
  refine HH.out.mono ?_
  rintro e w1 ⟨rfl, hE1⟩
  have HE1 := Lib.hid hE1
  clear hE1 HH e0 e1
  go_wp2_with fail
  go_ret
  exact ⟨rfl, HE1.out⟩

set_option maxRecDepth 100000 in
set_option maxHeartbeats 4000000 in
theorem within_any (n : Nat) (xss yss : List (List Int)) (v u : Value) (w : World) (h : LatV w v n xss) (h' : LatV w u n yss) (hE : chkE n xss = 0) (hE' : chkE n yss = 0) (hall : ∀ x ∈ xss, ∃ s ms, redO yss x yss.length = some (s, ms) ∧ leadL s < 0) (ht : Pow10 w) (hb : 0 < w.heap.size) :
    Calls Tryz.prog 35 #[v, u] w fun e w' => e = .returned (.tuple #[.bool true, .int .i64 0]) ∧ Ext w w' := by
  have HC := Lib.hid (fun W (hW : Ext w W) => checkBoth_any n n xss yss v u W (h.ext hW) (h'.ext hW))
  rw [bothE_zeroL hE hE'] at HC
  obtain ⟨l1, l2, l3, l4⟩ := latE_rows (chkE_zero hE).1
  obtain ⟨u0, rfl, hu⟩ := h
  obtain ⟨u1, rfl, hu'⟩ := h'
  have HCT : Hid (∀ W B, Ext w W → W.heap[B]? = some (.cells #[.int .i64 n, u1] 30 (0, 0)) → Calls Tryz.prog 95 #[u0, .func (.func 96) #[] #[.pointer (some ⟨B, 0, none⟩)]] W fun e w' => e = .returned (.bool false) ∧ Ext W w') := fun W B hW hB => by
    have := containsMat_any (R := Ints) (fun _ _ _ _ he h => Ints.ext h he) xss u0 96 #[.pointer (some ⟨B, 0, none⟩)] (fun _ => false) W (hu.ext hW) (enters_of Tryz.func96 (by kernel_rfl) rfl) (fun W' x a hx hW' ha => by
      obtain ⟨s, ms, h1, h2⟩ := hall x hx
      refine within1_any n yss x s ms B u1 a W' (block_ext hB hW') (hu'.ext (hW.trans hW')) ha ?_ h1 h2 (ht.ext (hW.trans hW')) (Nat.lt_of_lt_of_le hb (hW.trans hW').size)
      unfold rowLE
      rw [if_pos hE', if_pos ((rowE_zero x).2 (l4 x hx).1), if_pos (l4 x hx).2])
    rw [show (xss.any fun _ => false) = false from List.any_eq_false.2 (fun _ _ => by decide)] at this
    exact this
  obtain ⟨a, c, rfl, h1, h2, -, hc⟩ := inCell.open hu
  obtain ⟨a', c', rfl, k1, k2, -, kc⟩ := inCell.open hu'
  clear hu hu' hc kc hE hE' hall ht hb l1 l2 l3 l4
  go_enter Tryz.func35, Tryz.ntmps35
  obtain ⟨W1, hW1, hE1, hs1, hb1⟩ := lat_new w (.int .i64 n) (.slice a xss.length c)
  obtain ⟨W2, hW2, hE2, hs2, hb2⟩ := lat_new W1 (.int .i64 n) (.slice a' yss.length c')
  have HB1 := Lib.hid (block_ext hb1 hE2)
  have HB2 := Lib.hid hb2
  have HE := Lib.hid (hE1.trans hE2)
  have z1 : W1.heap.size = w.heap.size + 1 := by omega
  have z2 : W2.heap.size = w.heap.size + 1 + 1 := by omega
  rw [z1] at HB2
  clear hE1 hs1 hb1 hE2 hs2 hb2
  obtain ⟨e10, e11, -⟩ := lat_block HB1.out
  obtain ⟨e20, e21, -⟩ := lat_block HB2.out
  go_wp2_with fail
  refine (HC.out _ HE.out).mono ?_
  rintro e w5 ⟨rfl, hE5⟩
  have HX := Lib.hid (HE.out.trans hE5)
  have HB25 := Lib.hid (block_ext HB2.out hE5)
  obtain ⟨e10, e11, -⟩ := lat_block (block_ext HB1.out hE5)
  clear hE5 HC
  go_wp2_with fail
  refine (HCT.out _ _ HX.out HB25.out).mono ?_
  rintro e w6 ⟨rfl, hE6⟩
  have HX6 := Lib.hid (HX.out.trans hE6)
  clear hE6 HCT
  go_wp2_with fail
  go_ret2
  exact ⟨rfl, HX6.out⟩
end Go.Proofs.YtehknemdfbkimaaGreatDoor
