/- Merged: LatC, Piv, RegE, Round, RedW, LatRed, LatRep. -/
import Derived.Test.YtjihfabhgcfjnaaGreatDoorUAZ
import Derived.Test.YtjihfabhgcfjnaaGreatDoorUBB
import Derived.Test.YtjihfabhgcfjnaaGreatDoorUAW
import Derived.Sort.QuietIn
import Derived.Deep.RegionHeld3
import Derived.Test.YtjihfabhgcfjnaaGreatDoorUAS
/- Contracts of package lattice on matrices handed on from call to call; lattice.Of. -/
namespace Go.Proofs.YtjihfabhgcfjnaaGreatDoor
set_option linter.unusedVariables false
set_option linter.unusedSimpArgs false
open Go.RowKit

theorem ResM.ext {w w' : World} {base : Nat} {v : Value} {R : List (List Int)} (h : ResM w base v R) (he : Ext w w') : ResM w' base v R := by
  obtain ⟨a, c, h1, h2, h3, h4⟩ := h
  refine ⟨a, c, h1, h2, h3, ?_⟩
  rcases h4 with h4 | ⟨g, tags, h5, h6, h7⟩
  · exact .inl h4
  · exact .inr ⟨g, tags, h5, h6.ext he, h7⟩
theorem ResM.low {w : World} {base base' : Nat} {v : Value} {R : List (List Int)} (h : ResM w base v R) (hb : base' ≤ base) : ResM w base' v R := by
  obtain ⟨a, c, h1, h2, h3, h4⟩ := h
  refine ⟨a, c, h1, h2, h3, ?_⟩
  rcases h4 with h4 | ⟨g, tags, h5, h6, h7⟩
  · exact .inl h4
  · exact .inr ⟨g, tags, h5, h6, fun b hb' => Nat.le_trans hb (h7 b hb')⟩
theorem ResM.open {w : World} {base : Nat} {v : Value} {R : List (List Int)} (h : ResM w base v R) : ∃ a c, v = .slice a R.length c ∧ R.length ≤ c ∧ c ≤ maxLen ∧ (R = [] ∨ ∃ g0 tags, a = some ⟨g0, 0, none⟩ ∧ MatB w g0 tags R) := by
  obtain ⟨a, c, h1, h2, h3, h4⟩ := h
  refine ⟨a, c, h1, h2, h3, ?_⟩
  rcases h4 with h4 | ⟨g, tags, h5, h6, -⟩
  · exact .inl h4
  · exact .inr ⟨g, tags, h5, h6⟩

set_option maxRecDepth 100000 in
set_option maxHeartbeats 1000000 in
theorem longsR_any (xss : List (List Int)) (v : Value) (w : World) (h : Rows2 w v xss) (hlen : xss.length ≤ 1000) (hrow : ∀ xs ∈ xss, xs.length ≤ 1000) (ht : Pow10 w) :
    Calls Tryz.prog 89 #[v] w fun e w' => ∃ v', e = .returned v' ∧ ResM w' w.heap.size v' xss ∧ Ext w w' := by
  refine (longsOf_any xss v w h hlen hrow ht).mono fun e w' ⟨v', tags, he, hL, hv, hE⟩ => ⟨v', he, ?_, hE⟩
  rcases hv with ⟨rfl, rfl⟩ | ⟨g, c, rfl⟩
  · exact ⟨none, 0, rfl, Nat.le_refl _, by unfold maxLen; omega, .inl rfl⟩
  · obtain ⟨h1, h2, h3, h4⟩ := hL.mat (Nat.le_refl _)
    exact ⟨_, c, rfl, h2, h3, .inr ⟨g, tags, rfl, h1, h4⟩⟩

set_option maxRecDepth 100000 in
set_option maxHeartbeats 1000000 in
/-- The form of no rows, whatever the slice. -/
theorem form_none (cols : Nat) (a : Option Addr) (c : Nat) (w : World) :
    Calls Tryz.prog 90 #[.slice a 0 c, .int .i64 cols] w fun e w' => e = .returned (.slice a 0 c) ∧ w = w' := by
  go_enter Tryz.func90, Tryz.ntmps90
  go_wp2_with fail
  go_loop [5, 6] (fun sd sc => sd = .int .i64 0 ∧ sc = .int .i64 0) (fun _ _ => 0)
  case atStart => exact ⟨rfl, rfl⟩
  case round =>
    obtain ⟨rfl, rfl⟩ := hrel
    by_cases h : 0 < cols
    · go_wp2_with fail
      go_ret
      exact ⟨rfl, rfl⟩
    · obtain rfl : cols = 0 := by omega
      go_wp2_with fail
      go_ret
      exact ⟨rfl, rfl⟩

theorem colsO_nil (n F : Nat) : ∀ (k c : Nat), colsO n F k c 0 [] = some ([], 0)
  | 0, _ => rfl
  | k + 1, c => by unfold colsO; rw [if_neg (by simp)]
theorem formO_nil (n F k : Nat) : formO n F k [] = some [] := by unfold formO; rw [colsO_nil]; rfl

theorem formR_any (n F cols : Nat) (m : List (List Int)) (v : Value) (base : Nat) (w : World) (R : List (List Int)) (hM : ResM w base v m) (hok : formO n F cols m = some R)
    (hcols : cols ≤ n) (hcols2 : n ≤ 1000000) (ht : Pow10 w) (hb : 2 < base) (hbw : base ≤ w.heap.size) :
    Calls Tryz.prog 90 #[v, .int .i64 cols] w fun e w' => ∃ v', e = .returned v' ∧ ResM w' base v' R ∧ Below base w w' := by
  obtain ⟨a, c, rfl, h2, h3, h4⟩ := hM
  rcases h4 with rfl | ⟨g, tags, rfl, h6, h7⟩
  · rw [formO_nil] at hok
    obtain rfl := Option.some.inj hok
    exact (form_none cols a c w).mono fun e w' ⟨he, hw⟩ => ⟨_, he, ⟨a, c, rfl, h2, h3, .inl rfl⟩, hw ▸ Below.refl _ _⟩
  · unfold formO at hok
    cases hcl : colsO n F cols 0 0 m with
    | none => rw [hcl] at hok; cases hok
    | some rr =>
      obtain ⟨mf, d⟩ := rr
      rw [hcl] at hok
      obtain rfl : mf.take d = R := Option.some.inj hok
      refine (form_any n F cols m tags g c base w (mf, d) h6 hcl h2 h3 hcols hcols2 ht hb h7 hbw).mono fun e w' ⟨tags', he, hF, hl, hd, hG⟩ => ⟨_, he, ?_, hG.below hbw h7⟩
      have hd' : (mf.take d).length = d := by
        have h1 : mf.length = m.length := hl
        have h2 : d ≤ m.length := hd
        rw [List.length_take]; omega
      refine ⟨_, c, by rw [hd'], by rw [hd']; exact Nat.le_trans hd h2, h3, .inr ⟨g, tags'.take d, rfl, hF.1.take d, fun b hb' => ?_⟩⟩
      rcases List.mem_cons.1 hb' with rfl | hb'
      · exact h7 _ (List.mem_cons_self ..)
      · obtain ⟨t, ht, rfl⟩ := List.mem_map.1 hb'
        exact h7 _ (List.mem_cons_of_mem _ (hF.2 _ (List.mem_map.2 ⟨t, List.mem_of_mem_take ht, rfl⟩)))

theorem lshortR_any (cols : Nat) (m : List (List Int)) (v : Value) (base : Nat) (w : World) (hM : ResM w base v m) (hsm : ∀ r ∈ m, r.all smB = true) (hl : ∀ r ∈ m, r.length ≤ 1000)
    (hm : m.length ≤ 1000) (hc : cols ≤ 1000) (hlib : LibT w) :
    Calls Tryz.prog 91 #[v, .int .i64 cols] w (LsR cols m w) := by
  obtain ⟨a, c, rfl, h2, h3, h4⟩ := hM.open
  exact lshort_any cols m a c w h4 hsm hl h2 h3 hm hc hlib

theorem kernelR_any (F cols : Nat) (m : List (List Int)) (v : Value) (base : Nat) (w : World) (R : List (List Int)) (hM : ResM w base v m) (hrow : okM cols m = true) (h : List (List Int)) (hF : formO (m.length + cols) F (m.length + cols) (wideL cols m) = some h) (hok : okM (m.length + cols) h = true) (hR : formO cols F cols (behindL m.length h) = some R)
    (hm : m.length + cols ≤ 1000) (hc1 : 1 ≤ cols) (ht : Pow10 w) (hb : 2 < w.heap.size) :
    Calls Tryz.prog 92 #[v, .int .i64 cols] w fun e w' => ∃ v', e = .returned v' ∧ ResM w' w.heap.size v' R ∧ Ext w w' := by
  obtain ⟨a, c, rfl, h2, h3, h4⟩ := hM.open
  exact kernel_any F cols m a c w R h4 hrow h hF hok hR h2 h3 hm hc1 ht hb

set_option maxRecDepth 100000 in
set_option maxHeartbeats 2000000 in
theorem of_any' (n : Nat) (F : Nat) (xss R : List (List Int)) (v : Value) (w : World) (h : Rows2 w v xss) (hE : latE n xss = 0) (hF : formO n F n xss = some R) (hsm : ∀ r ∈ R, r.all smB = true) (hl : ∀ r ∈ R, r.length ≤ 1000) (hm : R.length ≤ 1000) (hlib : LibT w) (hb : 2 < w.heap.size) :
    Calls Tryz.prog 42 #[.int .i64 n, v] w (LsR n R w) := by
  have HB := Lib.hid hb
  obtain ⟨e0, e1, e2, e3⟩ := latE_rows hE
  have HC := Lib.hid (fun W (hW : Ext w W) => latCheck_any xss n v W (h.ext hW))
  rw [hE] at HC
  have HLO := Lib.hid (fun W (hW : Ext w W) => longsR_any xss v W (h.ext hW) (by omega) (fun xs hx => by have := (e3 xs hx).2; omega) (hlib.pow.ext hW))
  have HFO := Lib.hid (fun W v base (hM : ResM W base v xss) (hW : Ext w W) (hbb : 2 < base) (hbw : base ≤ W.heap.size) => formR_any n F n xss v base W R hM hF (Nat.le_refl _) (by omega) (hlib.pow.ext hW) hbb hbw)
  have HS := Lib.hid (fun W v base (hM : ResM W base v R) (hW : Ext w W) => lshortR_any n R v base W hM hsm hl hm (by omega) (hlib.ext hW))
  obtain ⟨a, c, rfl, h1, h2, -, hc⟩ := inCell.open h
  clear h hc hE hF hsm hl hm hlib e0 e1 e2 e3 hb
  go_enter Tryz.func42, Tryz.ntmps42
  obtain ⟨W1, hW1, hE1, hs1, hb1⟩ := lat_new w (.int .i64 0) (.slice none 0 0)
  have HB1 := Lib.hid hb1
  have HE1 := Lib.hid hE1
  clear hE1 hb1
  go_wp2_with fail
  refine (HC.out _ HE1.out).mono ?_
  rintro e w2 ⟨rfl, hE2⟩
  have HE2 := Lib.hid (HE1.out.trans hE2)
  have HK2 := Lib.hid (block_ext HB1.out hE2)
  clear hE2 HC
  go_wp2_with fail
  refine (HLO.out _ HE2.out).mono ?_
  rintro e w3 ⟨v3, rfl, hM3, hE3⟩
  have HM3 := Lib.hid hM3
  have HE3 := Lib.hid (HE2.out.trans hE3)
  have HK3 := Lib.hid (block_ext HK2.out hE3)
  have HS3 : Hid (w.heap.size + 1 ≤ w2.heap.size ∧ w2.heap.size ≤ w3.heap.size) := ⟨by have := block_lt HK2.out; omega, hE3.size⟩
  clear hE3 HLO hM3
  go_wp2_with fail
  refine (HFO.out _ _ w2.heap.size HM3.out HE3.out (by have := HB.out; have := HS3.out.1; omega) HS3.out.2).mono ?_
  rintro e w4 ⟨v4, rfl, hM4, hb4⟩
  have HM4 := Lib.hid hM4
  have HE4 : Hid (Ext w w4) := Below.trans HE3.out (Below.mono hb4 HE2.out.size)
  have HK4 : Hid (w4.heap[w.heap.size]? = some (.cells #[.int .i64 0, .slice none 0 0] 31 (0, 0))) := (hb4.block w.heap.size (by have := HS3.out.1; omega)).trans HK3.out
  clear hM4 hb4 HFO
  go_wp2_with fail
  refine (HS.out _ _ _ HM4.out HE4.out).mono ?_
  rintro e w5 ⟨hr, hE5⟩
  have HSW : Hid (w.heap.size < w4.heap.size) := block_lt HK4.out
  have HE5 := Lib.hid (HE4.out.trans hE5)
  have hk5 := block_ext HK4.out hE5
  obtain ⟨r0, r1, rf⟩ := lat_block hk5
  have f0 := rf 0; have f1 := rf 1
  clear rf HS hE5
  by_cases hf : (R.all fun r => r.all fit9B) = true
  · rw [if_pos hf] at hr
    obtain ⟨u, rfl, hu⟩ := hr
    obtain ⟨au, cu, rfl, u1, u2, -, -⟩ := inCell.open hu.now
    have HU := Lib.hid hu
    have HFF := Lib.hid hf
    have hkA := lat_store hk5 (.int .i64 n) (.slice au R.length cu)
    have HX := Lib.hid (ext_lat HE5.out (Nat.le_refl w.heap.size) (.int .i64 n) (.slice au R.length cu))
    clear hu hf
    go_wp2_with fail
    refine bodyPost_ret (results_rowtmp (by rfl) _ _ w.heap.size 31 #[.int .i64 n, .slice au R.length cu] (0, 0) _ (by rfl) hkA Tryz.underlying31 (by rfl) (by kernel_rfl)) (by rfl) ?_
    unfold LsR
    rw [if_pos HFF.out]
    refine ⟨⟨_, rfl, ?_⟩, HX.out⟩
    refine HU.out.grow (GrownS.setCell (GrownS.setCell (GrownS.refl _ _) ?_ 0 _) ?_ 1 _) fun k hk => .inl ?_
    · exact HSW.out
    · exact HSW.out
    · exact Nat.lt_trans hk HSW.out
  · rw [if_neg hf] at hr
    subst hr
    have HFF := Lib.hid hf
    have hkA := lat_store hk5 (.int .i64 0) (.slice none 0 0)
    have HX := Lib.hid (ext_lat HE5.out (Nat.le_refl w.heap.size) (.int .i64 0) (.slice none 0 0))
    clear hf
    go_wp2_with fail
    refine bodyPost_ret (results_rowtmp (by rfl) _ _ w.heap.size 31 #[.int .i64 0, .slice none 0 0] (0, 0) _ (by rfl) hkA Tryz.underlying31 (by rfl) (by kernel_rfl)) (by rfl) ?_
    unfold LsR
    rw [if_neg HFF.out]
    exact ⟨rfl, HX.out⟩
end Go.Proofs.YtjihfabhgcfjnaaGreatDoor
/- lattice's iterator over the rows of a basis and their pivots, as a contract. -/
namespace Go.Proofs.YtjihfabhgcfjnaaGreatDoor
set_option linter.unusedVariables false
set_option linter.unusedSimpArgs false
open Go.RowKit Go.Shelf
attribute [local go_sem] Oper.semAt_some

end Go.Proofs.YtjihfabhgcfjnaaGreatDoor
/- A region that draws its order, loads cells and stores into one of them by operation z, which waits for the loads: the loads are taken first; the condition on the world need not hold behind z. -/
namespace Go.Proofs.YtjihfabhgcfjnaaGreatDoor
set_option linter.unusedVariables false
section
variable {P : Program} {ops : Array Oper} {Q : Exit → Act → World → Prop} {md : Region.Mode} {S : World → Prop} {z : Nat}

/-- Whatever order is picked; S holds till z has come. -/
def anyE (P : Program) (md : Region.Mode) (ops : Array Oper) (Q : Exit → Act → World → Prop) (S : World → Prop) (z : Nat) : Nat → Array Bool → Act → World → Prop
  | 0, l, a, w => Region.ready md ops l = [] ∧ Q .normal a w
  | f + 1, l, a, w => (Region.ready md ops l = [] → Q .normal a w) ∧
    ∀ i ∈ Region.ready md ops l, wpOp P ops Q i (fun b u => ((l.setIfInBounds i true).getD z false = false → S u) ∧ anyE P md ops Q S z f (l.setIfInBounds i true) b u) a w

theorem anyE_any : ∀ (f : Nat) (l : Array Bool) (a : Act) (w : World), anyE P md ops Q S z f l a w → wpAny P md ops Q f l a w
  | 0, _, _, _, h => h
  | f + 1, l, _, _, h => ⟨h.1, fun i hi => wpOp_mono (fun b u hb => anyE_any f (l.setIfInBounds i true) b u hb.2) (h.2 i hi)⟩

/-- What is listed waits for nothing that is not. -/
def Closed (md : Region.Mode) (ops : Array Oper) (l : Array Bool) : Prop := ∀ j o, ops[j]? = some o → l.getD j false = true → ∀ e ∈ o.after, Region.binds md e = true → l.getD e.on false = true
def closedB (md : Region.Mode) (ops : Array Oper) (l : Array Bool) : Bool := (List.range ops.size).all fun j => !(l.getD j false) || match ops[j]? with
  | some o => o.after.all fun e => !(Region.binds md e) || l.getD e.on false
  | none => true
theorem closedB_spec {l : Array Bool} (h : closedB md ops l = true) : Closed md ops l := by
  intro j o ho hl e he hb
  have h1 := List.all_eq_true.1 h j (List.mem_range.2 (Array.getElem?_eq_some_iff.1 ho).1)
  simp only [ho, hl, Bool.not_true, Bool.false_or] at h1
  have h2 := Array.all_eq_true_iff_forall_mem.1 h1 e he
  simpa [hb] using h2
theorem Closed.step {l : Array Bool} (h : Closed md ops l) {j : Nat} (hj : j ∈ Region.ready md ops l) : Closed md ops (l.setIfInBounds j true) := by
  intro k o ho hl e he hb
  by_cases hk : j = k
  · subst hk
    obtain ⟨-, o', ho', hall⟩ := mem_ready.1 hj
    obtain rfl : o' = o := Option.some.inj (ho'.symm.trans ho)
    exact getD_set_true (hall e he hb)
  · rw [getD_set_ne false hk] at hl
    exact getD_set_true (h k o ho hl e he hb)
/-- z waits for i, by way of others. -/
def reachB (md : Region.Mode) (ops : Array Oper) : Nat → Nat → Nat → Bool
  | 0, _, _ => false
  | f + 1, a, i => match ops[a]? with
    | some o => o.after.any fun e => Region.binds md e && (e.on == i || reachB md ops f e.on i)
    | none => false
theorem reach_listed {l : Array Bool} (hc : Closed md ops l) {i : Nat} : ∀ (f a : Nat) (o : Oper), ops[a]? = some o → reachB md ops f a i = true → (∀ e ∈ o.after, Region.binds md e = true → l.getD e.on false = true) → l.getD i false = true
  | 0, _, _, _, h, _ => by cases h
  | f + 1, a, o, ho, h, hall => by
    simp only [reachB, ho] at h
    obtain ⟨e, he, hb⟩ := Array.any_eq_true'.1 h
    simp only [Bool.and_eq_true, Bool.or_eq_true, beq_iff_eq] at hb
    have hl := hall e he hb.1
    rcases hb.2 with h1 | h1
    · rw [← h1]; exact hl
    · cases hq : ops[e.on]? with
      | none => cases f with
        | zero => cases h1
        | succ f => simp only [reachB, hq] at h1; cases h1
      | some p => exact reach_listed hc f e.on p hq h1 fun d hd hbd => hc e.on p hq hl d hd hbd

theorem set_unlisted {l : Array Bool} {i : Nat} (h : (l.setIfInBounds i true).getD z false = false) : l.getD z false = false := by
  cases e : l.getD z false
  · rfl
  · rw [getD_set_true e] at h; cases h
theorem not_listed {l : Array Bool} {i : Nat} (ui : l.getD i true = false) : l.getD i false = false := by
  by_cases hs : i < l.size
  · simp [hs] at ui ⊢; exact ui
  · simp [Array.getElem?_eq_none (Nat.le_of_not_lt hs)]
theorem anyE_first {i n : Nat} {oi : Oper} {v : Value} (hi : ops[i]? = some oi) (hsel : ∀ (j : Nat) (o : Oper) cs b, ops[j]? = some o → o.op ≠ .select cs b)
    (hQ : ∀ c a w, Q (.panic c) (a.put oi.dst v) w → Q (.panic c) a w) (hz : reachB md ops n z i = true) (f : Nat) :
    ∀ (l : Array Bool) (a : Act) (w : World),
      (∀ j oj, ops[j]? = some oj → j ≠ i → l.getD j true = false → (∀ e ∈ oj.after, Region.binds md e = true → e.on ≠ i) → oi.apart ops oj = true) →
      Closed md ops l → i ∈ Region.ready md ops l → YieldsIf P ops S oi v a → S w →
      anyE P md ops Q S z f (l.setIfInBounds i true) (a.put oi.dst v) w → anyE P md ops Q S z (f + 1) l a w := by
  induction f with
  | zero =>
    intro l a w _ _ hr hy hS H
    refine ⟨(fun e => by rw [e] at hr; cases hr), fun j hj => ?_⟩
    by_cases e : j = i
    · rw [e]; exact hy.wpOp hi hS ⟨fun _ => hS, H⟩
    · have := ready_mono hj e
      rw [H.1] at this
      cases this
  | succ f ih =>
    intro l a w hfree hcl hr hy hS H
    refine ⟨(fun e => by rw [e] at hr; cases hr), fun j hj => ?_⟩
    by_cases e : j = i
    · rw [e]; exact hy.wpOp hi hS ⟨fun _ => hS, H⟩
    have hji : i ≠ j := fun x => e x.symm
    have un := (mem_ready.1 hj).1
    obtain ⟨oj, hoj, hall⟩ := (mem_ready.1 hj).2
    have ui := (mem_ready.1 hr).1
    have uf : l.getD i false = true → False := fun hc => by rw [not_listed ui] at hc; cases hc
    have hjz : j ≠ z := fun hz' => by
      subst hz'
      exact uf (reach_listed hcl n j oj hoj hz hall)
    have hiz : i ≠ z := fun hz' => by
      subst hz'
      obtain ⟨o2, ho2, hall2⟩ := (mem_ready.1 hr).2
      exact uf (reach_listed hcl n i o2 ho2 hz hall2)
    have hzl : l.getD z false = false := by
      cases e2 : l.getD z false
      · rfl
      · exfalso
        cases hq : ops[z]? with
        | none => cases n with
          | zero => cases hz
          | succ n => simp only [reachB, hq] at hz; cases hz
        | some o3 => exact uf (reach_listed hcl n z o3 hq hz fun d hd hbd => hcl z o3 hq e2 d hd hbd)
    have hno : ∀ d ∈ oj.after, Region.binds md d = true → d.on ≠ i := fun d hd hb hdi => uf (by have := hall d hd hb; rwa [hdi] at this)
    have step := wpOp_putIf hoj (hfree j oj hoj e un hno) (fun cs b => hsel i oi cs b hi) (fun cs b => hsel j oj cs b hoj) hQ hy (H.2 j (ready_mono hj e))
    refine wpOp_mono (fun b u hb => ?_) step
    obtain ⟨hy2, hS2, hrest⟩ := hb
    have hSu : S u := hS2 (by rw [getD_set_ne false hjz, getD_set_ne false hiz]; exact hzl)
    refine ⟨fun _ => hSu, ih (l.setIfInBounds j true) b u (fun k ok hk hki hun hn => ?_) (hcl.step hj) (ready_mono hr hji) hy2 hSu ?_⟩
    · refine hfree k ok hk hki ?_ hn
      by_cases hjk : j = k
      · rw [← hjk]; exact un
      · rw [getD_set_ne true hjk] at hun; exact hun
    · rw [Array.setIfInBounds_comm _ _ e]; exact hrest
/-- The same for what yields its value in whatever world; z need not wait for it. -/
theorem anyE_firstW {i : Nat} {oi : Oper} {v : Value} (hi : ops[i]? = some oi) (hsel : ∀ (j : Nat) (o : Oper) cs b, ops[j]? = some o → o.op ≠ .select cs b)
    (hQ : ∀ c a w, Q (.panic c) (a.put oi.dst v) w → Q (.panic c) a w) (hiz : i ≠ z) (f : Nat) :
    ∀ (l : Array Bool) (a : Act) (w : World),
      (∀ j oj, ops[j]? = some oj → j ≠ i → l.getD j true = false → (∀ e ∈ oj.after, Region.binds md e = true → e.on ≠ i) → oi.apart ops oj = true) →
      i ∈ Region.ready md ops l → Yields P ops oi v a → (l.getD z false = false → S w) →
      anyE P md ops Q S z f (l.setIfInBounds i true) (a.put oi.dst v) w → anyE P md ops Q S z (f + 1) l a w := by
  induction f with
  | zero =>
    intro l a w _ hr hy hS H
    refine ⟨(fun e => by rw [e] at hr; cases hr), fun j hj => ?_⟩
    by_cases e : j = i
    · rw [e]; exact hy.wpOp hi ⟨fun h => hS (set_unlisted h), H⟩
    · have := ready_mono hj e
      rw [H.1] at this
      cases this
  | succ f ih =>
    intro l a w hfree hr hy hS H
    refine ⟨(fun e => by rw [e] at hr; cases hr), fun j hj => ?_⟩
    by_cases e : j = i
    · rw [e]; exact hy.wpOp hi ⟨fun h => hS (set_unlisted h), H⟩
    have hji : i ≠ j := fun x => e x.symm
    have un := (mem_ready.1 hj).1
    obtain ⟨oj, hoj, hall⟩ := (mem_ready.1 hj).2
    have ui := (mem_ready.1 hr).1
    have uf : l.getD i false = true → False := fun hc => by rw [not_listed ui] at hc; cases hc
    have hno : ∀ d ∈ oj.after, Region.binds md d = true → d.on ≠ i := fun d hd hb hdi => uf (by have := hall d hd hb; rwa [hdi] at this)
    have step := wpOp_put hoj (hfree j oj hoj e un hno) (fun cs b => hsel i oi cs b hi) (fun cs b => hsel j oj cs b hoj) hQ hy (H.2 j (ready_mono hj e))
    refine wpOp_mono (fun b u hb => ?_) step
    obtain ⟨hy2, hS2, hrest⟩ := hb
    have hSu : (l.setIfInBounds j true).getD z false = false → S u := fun h => hS2 (by rw [Array.setIfInBounds_comm _ _ hji, getD_set_ne false hiz]; exact h)
    refine ⟨hSu, ih (l.setIfInBounds j true) b u (fun k ok hk hki hun hn => ?_) (ready_mono hr hji) hy2 hSu ?_⟩
    · refine hfree k ok hk hki ?_ hn
      by_cases hjk : j = k
      · rw [← hjk]; exact un
      · rw [getD_set_ne true hjk] at hun; exact hun
    · rw [Array.setIfInBounds_comm _ _ e]; exact hrest

/-- Take number i first. -/
theorem anyE_take (i : Nat) {oi : Oper} {v : Value} {f : Nat} {l : Array Bool} {a : Act} {w : World} (hi : ops[i]? = some oi)
    (hs : Region.noSelect ops = true) (hc : closedB md ops l = true) (hf : Region.free md ops l i = true) (hr : (Region.ready md ops l).contains i = true) (hz : reachB md ops 40 z i = true)
    (hQ : ∀ c a w, Q (.panic c) (a.put oi.dst v) w → Q (.panic c) a w) (hy : YieldsIf P ops S oi v a) (hS : S w)
    (h : anyE P md ops Q S z f (l.setIfInBounds i true) (a.put oi.dst v) w) : anyE P md ops Q S z (f + 1) l a w :=
  anyE_first hi (Region.noSelect_spec hs) hQ hz f l a w (Region.free_spec hi hf) (closedB_spec hc) (by simpa using hr) hy hS h
theorem anyE_takeW (i : Nat) {oi : Oper} {v : Value} {f : Nat} {l : Array Bool} {a : Act} {w : World} (hi : ops[i]? = some oi)
    (hs : Region.noSelect ops = true) (hf : Region.free md ops l i = true) (hr : (Region.ready md ops l).contains i = true) (hz : i ≠ z)
    (hQ : ∀ c a w, Q (.panic c) (a.put oi.dst v) w → Q (.panic c) a w) (hy : Yields P ops oi v a) (hS : S w)
    (h : anyE P md ops Q S z f (l.setIfInBounds i true) (a.put oi.dst v) w) : anyE P md ops Q S z (f + 1) l a w :=
  anyE_firstW hi (Region.noSelect_spec hs) hQ hz f l a w (Region.free_spec hi hf) (by simpa using hr) hy (fun _ => hS) h
/-- The one that can come up is carried out. -/
theorem anyE_step (i : Nat) {o : Oper} {f : Nat} {l : Array Bool} {a : Act} {w : World} (hr : Region.ready md ops l = [i]) (ho : ops[i]? = some o)
    (h : ∀ K : Act → World → Prop, Shut (∀ b u, S u → (S u → anyE P md ops Q S z f (l.setIfInBounds i true) b u) → K b u) → if Region.wanted o (yielded ops a.tmps) = true then Oper.wp P o a w K Q else K (a.put o.dst undef) w) : anyE P md ops Q S z (f + 1) l a w := by
  refine ⟨(fun e => by rw [hr] at e; cases e), fun j hj => ?_⟩
  obtain rfl : j = i := by rw [hr] at hj; simpa using hj
  exact wpOp_step ho fun K hK => h K fun b u hS hrest => hK b u ⟨fun _ => hS, hrest hS⟩
/-- The one that can come up is z: the condition on the world need not hold behind it. -/
theorem anyE_stepZ (i : Nat) {o : Oper} {f : Nat} {l : Array Bool} {a : Act} {w : World} (hr : Region.ready md ops l = [i]) (hz : (l.setIfInBounds i true).getD z false = true) (ho : ops[i]? = some o)
    (h : ∀ K : Act → World → Prop, Shut (∀ b u, anyE P md ops Q S z f (l.setIfInBounds i true) b u → K b u) → if Region.wanted o (yielded ops a.tmps) = true then Oper.wp P o a w K Q else K (a.put o.dst undef) w) : anyE P md ops Q S z (f + 1) l a w := by
  refine ⟨(fun e => by rw [hr] at e; cases e), fun j hj => ?_⟩
  obtain rfl : j = i := by rw [hr] at hj; simpa using hj
  exact wpOp_step ho fun K hK => h K fun b u hrest => hK b u ⟨(fun e => by rw [hz] at e; cases e), hrest⟩
/-- The last one. -/
theorem anyE_last (i : Nat) {o : Oper} {f : Nat} {l : Array Bool} {a : Act} {w : World} (hr : Region.ready md ops l = [i]) (hr2 : Region.ready md ops (l.setIfInBounds i true) = []) (hz : (l.setIfInBounds i true).getD z false = true) (ho : ops[i]? = some o)
    (h : ∀ K : Act → World → Prop, Shut (∀ b u, Q .normal b u → K b u) → if Region.wanted o (yielded ops a.tmps) = true then Oper.wp P o a w K Q else K (a.put o.dst undef) w) : anyE P md ops Q S z (f + 1) l a w := by
  refine ⟨(fun e => by rw [hr] at e; cases e), fun j hj => ?_⟩
  obtain rfl : j = i := by rw [hr] at hj; simpa using hj
  refine wpOp_step ho fun K hK => h K fun b u hq => hK b u ⟨(fun e => by rw [hz] at e; cases e), ?_⟩
  cases f with
  | zero => exact ⟨hr2, hq⟩
  | succ f => exact ⟨fun _ => hq, by rw [hr2]; simp⟩
/-- The beginning; S at the world behind the draw. -/
theorem region_anyE (S : World → Prop) (z : Nat) {id : Nat} {a : Act} {w : World} (hm : P.follows .mixedOrders = true) (hS : S w.drew)
    (h : S w.drew → anyE P .any ops Q S z ops.size (Array.replicate ops.size false) a w.drew) : (Code.region id ops true).wp P Q a w :=
  wp_region_any hm (anyE_any _ _ _ _ (h hS))
end
end Go.Proofs.YtjihfabhgcfjnaaGreatDoor
/- In a round of a loop over a function every operation but a defer goes as outside (at the wide fence): laws of the open walk serve there. -/
namespace Go.Proofs.YtjihfabhgcfjnaaGreatDoor
set_option linter.unusedVariables false
set_option linter.unusedSimpArgs false
open Go.RowKit Go.Shelf

end Go.Proofs.YtjihfabhgcfjnaaGreatDoor
/- lattice's reduce in memory: what holds between two rounds. -/
namespace Go.Proofs.YtjihfabhgcfjnaaGreatDoor
set_option linter.unusedVariables false
set_option linter.unusedSimpArgs false
open Go.RowKit Go.Shelf

theorem owns_cells {w : World} {base : Nat} {e : TypeId} {k : Nat} {v : Value} {n : Nat} {xs : List Value} (h : w.ownsRow base e k v n xs) {g : Nat} (hg : v.ownBlock = some g) {o : Obj} (ho : w.heap[g]? = some o) (hc : o.isCells = false) : False := by
  rcases h.2 with ⟨rfl, _⟩ | ⟨g', cap, cur, rfl, _, hgb, _⟩
  · simp [Value.ownBlock] at hg
  · simp [Value.ownBlock] at hg
    subst hg
    rw [hgb] at ho
    cases ho
    simp [Obj.isCells] at hc
def bigV (m : List Int) : List Value := m.map fun x => Value.string (intB x)
structure RedI (w W : World) (B b4 b5 gr cr : Nat) (s m : List Int) : Prop where
  old : Ext w W
  h4 : W.heap[b4]? = some (.cells #[.slice (some ⟨gr, 0, none⟩) s.length cr] 159 (0, 0))
  row : RowB W gr 0 s
  out : ∃ vo, W.heap[b5]? = some (.cells #[vo] 159 (0, 0)) ∧ W.ownsRow w.heap.size 125 1 vo m.length (bigV m) ∧ vo.ownBlock ≠ some gr
  ne : b4 ≠ gr ∧ b5 ≠ gr ∧ b4 ≠ b5
  low : w.heap.size ≤ b4 ∧ w.heap.size ≤ b5 ∧ w.heap.size ≤ gr
  lt : b4 < B ∧ b5 < B ∧ gr < B
theorem ext_of_grown {w W W' : World} {row : Option Nat} (h : Ext w W) (hg : W.grownBy W' row) (hr : ∀ r, row = some r → w.heap.size ≤ r) : Ext w W' :=
  Below.trans h ⟨hg.os, hg.tape, hg.output, hg.size, fun k hk => hg.block k (Nat.lt_of_lt_of_le hk h.size) (fun e => by have := hr k e.symm; omega)⟩
/-- What adds to memory, and turns what is no cells. -/
theorem RedI.grown {w W W' : World} {B b4 b5 gr cr : Nat} {s m : List Int} (h : RedI w W B b4 b5 gr cr s m) (hB : w.heap.size ≤ B) {row : Option Nat} (hg : W.grownBy W' row) (hr : ∀ r, row = some r → B ≤ r ∧ ∃ o : Obj, W.heap[r]? = some o ∧ o.isCells = false) : RedI w W' B b4 b5 gr cr s m := by
  obtain ⟨vo, o1, o2, o3⟩ := h.out
  have l := h.lt
  have hne : ∀ b, b < B → row ≠ some b := fun b hb e => by have := (hr b e).1; omega
  refine ⟨ext_of_grown h.old hg (fun r e => Nat.le_trans hB (hr r e).1), block_grown h.h4 hg (hne _ l.1), h.row.same hg.size (hg.block gr h.row.lt (fun e => hne _ l.2.2 e.symm)), ⟨vo, block_grown o1 hg (hne _ l.2.1), o2.kept hg ?_, o3⟩, h.ne, h.low, l⟩
  cases hv : vo.ownBlock with
  | none => exact .inl rfl
  | some b =>
    refine .inr fun e => ?_
    obtain ⟨-, o, ho, hc⟩ := hr b e.symm
    exact owns_cells o2 hv ho hc
theorem RedI.ab {w : World} {B b4 b5 gr cr : Nat} (hB : w.heap.size ≤ B) (xss : List (List Int)) (r : List Int) : AbR B (fun i W => ∃ s m, redO xss r i = some (s, m) ∧ RedI w W B b4 b5 gr cr s m) := by
  rintro i W W' row ⟨s, m, h1, h2⟩ hg hr
  exact ⟨s, m, h1, h2.grown hB hg hr⟩
theorem RedI.ext {w W W' : World} {B b4 b5 gr cr : Nat} {s m : List Int} (h : RedI w W B b4 b5 gr cr s m) (hB : w.heap.size ≤ B) (he : Ext W W') : RedI w W' B b4 b5 gr cr s m :=
  h.grown hB (row := none) ⟨he.os, he.tape, he.output, he.size, fun k hk _ => he.block k hk⟩ (fun r e => by cases e)
/-- The row left is reduced. -/
theorem RedI.less {w W W' : World} {B b4 b5 gr cr : Nat} {s m s' : List Int} (h : RedI w W B b4 b5 gr cr s m) (hg : GrownS (· = gr) W W') (hR : RowB W' gr 0 s') (hl : s'.length = s.length) : RedI w W' B b4 b5 gr cr s' m ∧ KeepsFrom B W W' := by
  obtain ⟨vo, o1, o2, o3⟩ := h.out
  have hg' : W.grownBy W' (some gr) := ⟨hg.os, hg.tape, hg.output, hg.size, fun k hk e => hg.block k hk (fun hh => e (by rw [hh]))⟩
  refine ⟨⟨ext_of_grown h.old hg' (fun r e => by cases e; exact h.low.2.2), by rw [hl]; exact block_grown h.h4 hg' (fun e => h.ne.1 (Option.some.inj e).symm), hR, ⟨vo, block_grown o1 hg' (fun e => h.ne.2.1 (Option.some.inj e).symm), o2.kept hg' ?_, o3⟩, h.ne, h.low, h.lt⟩, ⟨hg.size, fun k o hk ho _ => ?_⟩⟩
  · cases hv : vo.ownBlock with
    | none => exact .inl rfl
    | some b => exact .inr fun e => o3 (hv.trans e)
  · have := h.lt.2.2
    exact (hg.block k (block_lt ho) (fun e => by omega)).trans ho
end Go.Proofs.YtjihfabhgcfjnaaGreatDoor
/- Contracts of package lattice: pivots, reduce. -/
namespace Go.Proofs.YtjihfabhgcfjnaaGreatDoor
set_option linter.unusedVariables false
set_option linter.unusedSimpArgs false
open Go.RowKit Go.Shelf
attribute [local go_sem] Oper.semAt_some

end Go.Proofs.YtjihfabhgcfjnaaGreatDoor
/- Contracts of package lattice: has, Contains, Represent. -/
namespace Go.Proofs.YtjihfabhgcfjnaaGreatDoor
set_option linter.unusedVariables false
set_option linter.unusedSimpArgs false
open Go.RowKit

theorem chkE_zero {n : Int} {xss : List (List Int)} (h : chkE n xss = 0) : latE n xss = 0 ∧ hermB xss = true := by
  unfold chkE at h
  by_cases h1 : latE n xss = 0
  · rw [if_pos h1] at h
    by_cases h2 : hermB xss = true
    · exact ⟨h1, h2⟩
    · rw [if_neg h2] at h; cases h
  · rw [if_neg h1] at h; exact absurd h h1

end Go.Proofs.YtjihfabhgcfjnaaGreatDoor
