/- Merged: LatC. -/
import Derived.Test.YtielnneclcekbaaGreatDoorQBB
import Derived.Test.YtielnneclcekbaaGreatDoorQBF
/- Contracts of package lattice on matrices handed on from call to call; lattice.Of. -/
namespace Go.Proofs.YtielnneclcekbaaGreatDoor
set_option linter.unusedVariables false
set_option linter.unusedSimpArgs false
open Go.RowKit

theorem ResM.ext {w w' : World} {base : Nat} {v : Value} {R : List (List Int)} (h : ResM w base v R) (he : Ext w w') : ResM w' base v R := by
  obtain ⟨a, c, h1, h2, h3, h4⟩ := h
  refine ⟨a, c, h1, h2, h3, ?_⟩
  rcases h4 with h4 | ⟨g, tags, h5, h6, h7⟩
  · exact .inl h4
  · exact .inr ⟨g, tags, h5, h6.ext he, h7⟩
theorem ResM.low {w : World} {base base' : Nat} {v : Value} {R : List (List Int)} (h : ResM w base v R) (hb : base' ≤ base) : ResM w base' v R := by
  obtain ⟨a, c, h1, h2, h3, h4⟩ := h
  refine ⟨a, c, h1, h2, h3, ?_⟩
  rcases h4 with h4 | ⟨g, tags, h5, h6, h7⟩
  · exact .inl h4
  · exact .inr ⟨g, tags, h5, h6, fun b hb' => Nat.le_trans hb (h7 b hb')⟩
theorem ResM.open {w : World} {base : Nat} {v : Value} {R : List (List Int)} (h : ResM w base v R) : ∃ a c, v = .slice a R.length c ∧ R.length ≤ c ∧ c ≤ maxLen ∧ (R = [] ∨ ∃ g0 tags, a = some ⟨g0, 0, none⟩ ∧ MatB w g0 tags R) := by
  obtain ⟨a, c, h1, h2, h3, h4⟩ := h
  refine ⟨a, c, h1, h2, h3, ?_⟩
  rcases h4 with h4 | ⟨g, tags, h5, h6, -⟩
  · exact .inl h4
  · exact .inr ⟨g, tags, h5, h6⟩

set_option maxRecDepth 100000 in
set_option maxHeartbeats 1000000 in
theorem longsR_any (xss : List (List Int)) (v : Value) (w : World) (h : Rows2 w v xss) (hlen : xss.length ≤ 1000) (hrow : ∀ xs ∈ xss, xs.length ≤ 1000) (ht : Pow10 w) :
    Calls Tryz.prog 44 #[v] w fun e w' => ∃ v', e = .returned v' ∧ ResM w' w.heap.size v' xss ∧ Ext w w' := by
  refine (longsOf_any xss v w h hlen hrow ht).mono fun e w' ⟨v', tags, he, hL, hv, hE⟩ => ⟨v', he, ?_, hE⟩
  rcases hv with ⟨rfl, rfl⟩ | ⟨g, c, rfl⟩
  · exact ⟨none, 0, rfl, Nat.le_refl _, by unfold maxLen; omega, .inl rfl⟩
  · obtain ⟨h1, h2, h3, h4⟩ := hL.mat (Nat.le_refl _)
    exact ⟨_, c, rfl, h2, h3, .inr ⟨g, tags, rfl, h1, h4⟩⟩

set_option maxRecDepth 100000 in
set_option maxHeartbeats 1000000 in
/-- The form of no rows, whatever the slice. -/
theorem form_none (cols : Nat) (a : Option Addr) (c : Nat) (w : World) :
    Calls Tryz.prog 45 #[.slice a 0 c, .int .i64 cols] w fun e w' => e = .returned (.slice a 0 c) ∧ w = w' := by
  go_enter Tryz.func45, Tryz.ntmps45
  go_wp2_with fail
  go_loop [5, 6] (fun sd sc => sd = .int .i64 0 ∧ sc = .int .i64 0) (fun _ _ => 0)
  case atStart => exact ⟨rfl, rfl⟩
  case round =>
    obtain ⟨rfl, rfl⟩ := hrel
    by_cases h : 0 < cols
    · go_wp2_with fail
      go_ret
      exact ⟨rfl, rfl⟩
    · obtain rfl : cols = 0 := by omega
      go_wp2_with fail
      go_ret
      exact ⟨rfl, rfl⟩

theorem colsO_nil (n F : Nat) : ∀ (k c : Nat), colsO n F k c 0 [] = some ([], 0)
  | 0, _ => rfl
  | k + 1, c => by unfold colsO; rw [if_neg (by simp)]
theorem formO_nil (n F k : Nat) : formO n F k [] = some [] := by unfold formO; rw [colsO_nil]; rfl

theorem formR_any (n F cols : Nat) (m : List (List Int)) (v : Value) (base : Nat) (w : World) (R : List (List Int)) (hM : ResM w base v m) (hok : formO n F cols m = some R)
    (hcols : cols ≤ n) (hcols2 : n ≤ 1000000) (ht : Pow10 w) (hb : 2 < base) (hbw : base ≤ w.heap.size) :
    Calls Tryz.prog 45 #[v, .int .i64 cols] w fun e w' => ∃ v', e = .returned v' ∧ ResM w' base v' R ∧ Below base w w' := by
  obtain ⟨a, c, rfl, h2, h3, h4⟩ := hM
  rcases h4 with rfl | ⟨g, tags, rfl, h6, h7⟩
  · rw [formO_nil] at hok
    obtain rfl := Option.some.inj hok
    exact (form_none cols a c w).mono fun e w' ⟨he, hw⟩ => ⟨_, he, ⟨a, c, rfl, h2, h3, .inl rfl⟩, hw ▸ Below.refl _ _⟩
  · unfold formO at hok
    cases hcl : colsO n F cols 0 0 m with
    | none => rw [hcl] at hok; cases hok
    | some rr =>
      obtain ⟨mf, d⟩ := rr
      rw [hcl] at hok
      obtain rfl : mf.take d = R := Option.some.inj hok
      refine (form_any n F cols m tags g c base w (mf, d) h6 hcl h2 h3 hcols hcols2 ht hb h7 hbw).mono fun e w' ⟨tags', he, hF, hl, hd, hG⟩ => ⟨_, he, ?_, hG.below hbw h7⟩
      have hd' : (mf.take d).length = d := by
        have h1 : mf.length = m.length := hl
        have h2 : d ≤ m.length := hd
        rw [List.length_take]; omega
      refine ⟨_, c, by rw [hd'], by rw [hd']; exact Nat.le_trans hd h2, h3, .inr ⟨g, tags'.take d, rfl, hF.1.take d, fun b hb' => ?_⟩⟩
      rcases List.mem_cons.1 hb' with rfl | hb'
      · exact h7 _ (List.mem_cons_self ..)
      · obtain ⟨t, ht, rfl⟩ := List.mem_map.1 hb'
        exact h7 _ (List.mem_cons_of_mem _ (hF.2 _ (List.mem_map.2 ⟨t, List.mem_of_mem_take ht, rfl⟩)))

theorem lshortR_any (cols : Nat) (m : List (List Int)) (v : Value) (base : Nat) (w : World) (hM : ResM w base v m) (hsm : ∀ r ∈ m, r.all smB = true) (hl : ∀ r ∈ m, r.length ≤ 1000)
    (hm : m.length ≤ 1000) (hc : cols ≤ 1000) (hlib : LibT w) :
    Calls Tryz.prog 46 #[v, .int .i64 cols] w (LsR cols m w) := by
  obtain ⟨a, c, rfl, h2, h3, h4⟩ := hM.open
  exact lshort_any cols m a c w h4 hsm hl h2 h3 hm hc hlib

theorem kernelR_any (F cols : Nat) (m : List (List Int)) (v : Value) (base : Nat) (w : World) (R : List (List Int)) (hM : ResM w base v m) (hrow : okM cols m = true) (h : List (List Int)) (hF : formO (m.length + cols) F (m.length + cols) (wideL cols m) = some h) (hok : okM (m.length + cols) h = true) (hR : formO cols F cols (behindL m.length h) = some R)
    (hm : m.length + cols ≤ 1000) (hc1 : 1 ≤ cols) (ht : Pow10 w) (hb : 2 < w.heap.size) :
    Calls Tryz.prog 52 #[v, .int .i64 cols] w fun e w' => ∃ v', e = .returned v' ∧ ResM w' w.heap.size v' R ∧ Ext w w' := by
  obtain ⟨a, c, rfl, h2, h3, h4⟩ := hM.open
  exact kernel_any F cols m a c w R h4 hrow h hF hok hR h2 h3 hm hc1 ht hb

/-- What Of ends in, where the rows are right. -/
def LatR (cols : Nat) (R : List (List Int)) (w : World) (e : Ending) (w' : World) : Prop := LsR cols R w e w'

set_option maxRecDepth 100000 in
set_option maxHeartbeats 2000000 in
theorem of_any' (n : Nat) (F : Nat) (xss R : List (List Int)) (v : Value) (w : World) (h : Rows2 w v xss) (hE : latE n xss = 0) (hF : formO n F n xss = some R) (hsm : ∀ r ∈ R, r.all smB = true) (hl : ∀ r ∈ R, r.length ≤ 1000) (hm : R.length ≤ 1000) (hlib : LibT w) (hb : 2 < w.heap.size) :
    Calls Tryz.prog 12 #[.int .i64 n, v] w (LsR n R w) := by
  have HB := Lib.hid hb
  obtain ⟨e0, e1, e2, e3⟩ := latE_rows hE
  have HC := Lib.hid (fun W (hW : Ext w W) => latCheck_any xss n v W (h.ext hW))
  rw [hE] at HC
  have HLO := Lib.hid (fun W (hW : Ext w W) => longsR_any xss v W (h.ext hW) (by omega) (fun xs hx => by have := (e3 xs hx).2; omega) (hlib.pow.ext hW))
  have HFO := Lib.hid (fun W v base (hM : ResM W base v xss) (hW : Ext w W) (hbb : 2 < base) (hbw : base ≤ W.heap.size) => formR_any n F n xss v base W R hM hF (Nat.le_refl _) (by omega) (hlib.pow.ext hW) hbb hbw)
  have HS := Lib.hid (fun W v base (hM : ResM W base v R) (hW : Ext w W) => lshortR_any n R v base W hM hsm hl hm (by omega) (hlib.ext hW))
  obtain ⟨a, c, rfl, h1, h2, -, hc⟩ := inCell.open h
  clear h hc hE hF hsm hl hm hlib e0 e1 e2 e3 hb
  go_enter Tryz.func12, Tryz.ntmps12
  obtain ⟨W1, hW1, hE1, hs1, hb1⟩ := lat_new w (.int .i64 0) (.slice none 0 0)
  have HB1 := Lib.hid hb1
  have HE1 := Lib.hid hE1
  clear hE1 hb1
  go_wp2_with fail
  refine (HC.out _ HE1.out).mono ?_
  rintro e w2 ⟨rfl, hE2⟩
  have HE2 := Lib.hid (HE1.out.trans hE2)
  have HK2 := Lib.hid (block_ext HB1.out hE2)
  clear hE2 HC
  go_wp2_with fail
  refine (HLO.out _ HE2.out).mono ?_
  rintro e w3 ⟨v3, rfl, hM3, hE3⟩
  have HM3 := Lib.hid hM3
  have HE3 := Lib.hid (HE2.out.trans hE3)
  have HK3 := Lib.hid (block_ext HK2.out hE3)
  have HS3 : Hid (w.heap.size + 1 ≤ w2.heap.size ∧ w2.heap.size ≤ w3.heap.size) := ⟨by have := block_lt HK2.out; omega, hE3.size⟩
  clear hE3 HLO hM3
  go_wp2_with fail
  refine (HFO.out _ _ w2.heap.size HM3.out HE3.out (by have := HB.out; have := HS3.out.1; omega) HS3.out.2).mono ?_
  rintro e w4 ⟨v4, rfl, hM4, hb4⟩
  have HM4 := Lib.hid hM4
  have HE4 : Hid (Ext w w4) := Below.trans HE3.out (Below.mono hb4 HE2.out.size)
  have HK4 : Hid (w4.heap[w.heap.size]? = some (.cells #[.int .i64 0, .slice none 0 0] 27 (0, 0))) := (hb4.block w.heap.size (by have := HS3.out.1; omega)).trans HK3.out
  clear hM4 hb4 HFO
  go_wp2_with fail
  refine (HS.out _ _ _ HM4.out HE4.out).mono ?_
  rintro e w5 ⟨hr, hE5⟩
  have HSW : Hid (w.heap.size < w4.heap.size) := block_lt HK4.out
  have HE5 := Lib.hid (HE4.out.trans hE5)
  have hk5 := block_ext HK4.out hE5
  obtain ⟨r0, r1, rf⟩ := lat_block hk5
  have f0 := rf 0; have f1 := rf 1
  clear rf HS hE5
  by_cases hf : (R.all fun r => r.all fit9B) = true
  · rw [if_pos hf] at hr
    obtain ⟨u, rfl, hu⟩ := hr
    obtain ⟨au, cu, rfl, u1, u2, -, -⟩ := inCell.open hu.now
    have HU := Lib.hid hu
    have HFF := Lib.hid hf
    have hkA := lat_store hk5 (.int .i64 n) (.slice au R.length cu)
    have HX := Lib.hid (ext_lat HE5.out (Nat.le_refl w.heap.size) (.int .i64 n) (.slice au R.length cu))
    clear hu hf
    go_wp2_with fail
    refine bodyPost_ret (results_rowtmp (by rfl) _ _ w.heap.size 27 #[.int .i64 n, .slice au R.length cu] (0, 0) _ (by rfl) hkA Tryz.underlying27 (by rfl) (by kernel_rfl)) (by rfl) ?_
    unfold LsR
    rw [if_pos HFF.out]
    refine ⟨⟨_, rfl, ?_⟩, HX.out⟩
    refine HU.out.grow (GrownS.setCell (GrownS.setCell (GrownS.refl _ _) ?_ 0 _) ?_ 1 _) fun k hk => .inl ?_
    · exact HSW.out
    · exact HSW.out
    · exact Nat.lt_trans hk HSW.out
  · rw [if_neg hf] at hr
    subst hr
    have HFF := Lib.hid hf
    have hkA := lat_store hk5 (.int .i64 0) (.slice none 0 0)
    have HX := Lib.hid (ext_lat HE5.out (Nat.le_refl w.heap.size) (.int .i64 0) (.slice none 0 0))
    clear hf
    go_wp2_with fail
    refine bodyPost_ret (results_rowtmp (by rfl) _ _ w.heap.size 27 #[.int .i64 0, .slice none 0 0] (0, 0) _ (by rfl) hkA Tryz.underlying27 (by rfl) (by kernel_rfl)) (by rfl) ?_
    unfold LsR
    rw [if_neg HFF.out]
    exact ⟨rfl, HX.out⟩
end Go.Proofs.YtielnneclcekbaaGreatDoor
