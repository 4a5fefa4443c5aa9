/- Merged: TChkP, RowsForm, DTemC. -/
import Derived.Test.YtjihfabhgcfjnaaGreatDoorUBE
import Derived.Test.YtjihfabhgcfjnaaGreatDoorUBF
import Derived.Test.YtjihfabhgcfjnaaGreatDoorUAU
import Derived.Test.YtjihfabhgcfjnaaGreatDoorUBJ
import Derived.RegionTactic
/- The annihilator and the saturation of a right lattice of at most six columns are there. No program is named here. -/
namespace Go.Proofs.YtjihfabhgcfjnaaGreatDoor
set_option linter.unusedVariables false
set_option linter.unusedSimpArgs false
open Go.RowKit

/-- A lattice's annihilator and saturation, of any size. -/
structure SatF (n F : Nat) (C A S : List (List Int)) : Prop where
  n1 : 1 ≤ n
  n6 : n ≤ 6
  kC : kerS F n C = some A
  kA : kerS F n A = some S
  lA : A.length ≤ 6
  lS : S.length ≤ 6
  sA : ∀ r ∈ A, r.all smB = true
  sS : ∀ r ∈ S, r.all smB = true
  wA : ∀ r ∈ A, r.length = n
  wS : ∀ r ∈ S, r.length = n
theorem sz6 {n : Nat} (hn : n ≤ 6) : n * facN 1000000000 n ≤ 10 ^ 58 ∧ n * facN (10 ^ 58) n ≤ 10 ^ 352 ∧ (gN n 9 0).1 + 1 ≤ 400000000 ∧ (gN n 9 0).2 + 1 ≤ 400000000 ∧ (gN n 58 0).1 + 1 ≤ 400000000 ∧ (gN n 58 0).2 + 1 ≤ 400000000 ∧ (gN n 352 0).1 + 1 ≤ 400000000 ∧ (gN n 352 0).2 + 1 ≤ 400000000 := by
  have hc : n = 0 ∨ n = 1 ∨ n = 2 ∨ n = 3 ∨ n = 4 ∨ n = 5 ∨ n = 6 := by omega
  rcases hc with h | h | h | h | h | h | h <;> rw [h] <;> decide +kernel
theorem all_smB' {r : List Int} {k : Nat} (hk : k + 1 ≤ 1000000000) (h : RowLe (10 ^ k) r) : r.all smB = true := by
  rw [List.all_eq_true]
  exact fun x hx => smB_of hk (by omega) (Nat.lt_of_le_of_lt (h x hx) (Nat.pow_lt_pow_right (by decide) (by omega)))
theorem fit_le {m : List (List Int)} (h : (m.all fun r => r.all fit9B) = true) {r : List Int} (hr : r ∈ m) : RowLe 1000000000 r := fun x hx => by
  have h2 := List.all_eq_true.1 (List.all_eq_true.1 h r hr) x hx
  have := (fit9B_iff x).1 h2
  omega
end Go.Proofs.YtjihfabhgcfjnaaGreatDoor
/- The form of whatever right rows is there. No program is named here. -/
namespace Go.Proofs.YtjihfabhgcfjnaaGreatDoor
set_option linter.unusedVariables false
set_option linter.unusedSimpArgs false
open Go.RowKit

/-- The form of whatever right rows. -/
theorem rows_form (n : Nat) (m : List (List Int)) (hn : n ≤ 12) (hm : m.length ≤ 12) (hw : ∀ x ∈ m, x.length = n) (hb : ∀ x ∈ m, RowLe 1000000000 x) :
    ∃ F R ps, formO n F n m = some R ∧ HForm n R ps ∧ R.length ≤ 12 ∧ (∀ x ∈ R, x.all smB = true ∧ x.length = n) ∧ SpEq n (RowsFrom 0 m) (RowsFrom 0 R) := by
  obtain ⟨F, R, ps, h1, h2, h3, h4, h5⟩ := form_all n 12 9 m hw (fun x hx => (hb x hx).mono (by decide)) (.inl hm) (by decide) (by decide)
  refine ⟨F, R, ps, h1, h3, by omega, fun x hx => ⟨?_, ?_⟩, h5⟩
  · rw [List.all_eq_true]
    intro y hy
    have h6 := h4 x hx y hy
    refine smB_of (K := (gN 12 9 0).2 + 1) (by decide) (by omega) (Nat.lt_of_le_of_lt h6 ?_)
    exact Nat.pow_lt_pow_right (by decide) (by omega)
  · obtain ⟨i, hi, rfl⟩ := mem_rowE hx
    exact h3.1 i hi
end Go.Proofs.YtjihfabhgcfjnaaGreatDoor
/- temperament.FromCommas at any few rows: it answers with a right temperament, or with an error. Printed by gen/dtemc.py. -/
namespace Go.Proofs.YtjihfabhgcfjnaaGreatDoor
set_option linter.unusedVariables false
set_option linter.unusedSimpArgs false
open Go.RowKit

abbrev fitM (m : List (List Int)) : Prop := (m.all fun r => r.all fit9B) = true
theorem fitM_le {m : List (List Int)} (h : fitM m) {r : List Int} (hr : r ∈ m) : RowLe 1000000000 r := fit_le h hr
theorem ls_err {n : Nat} {m : List (List Int)} {w w' : World} {e : Ending} (h : LsR n m w e w') (hf : ¬ fitM m) : e = .returned (.tuple #[.agg #[.int .i64 0, .slice none 0 0], .int .i64 4]) ∧ Ext w w' := by
  unfold LsR at h
  rw [if_neg hf] at h
  exact h
theorem ls_ok {n : Nat} {m : List (List Int)} {w w' : World} {e : Ending} (h : LsR n m w e w') (hf : fitM m) : ∃ u, e = .returned (.tuple #[.agg #[.int .i64 n, u], .int .i64 0]) ∧ SafeS w' (· < w.heap.size) (fun W => Rows2 W u m) ∧ Ext w w' := by
  unfold LsR at h
  rw [if_pos hf] at h
  obtain ⟨⟨u, h1, h2⟩, h3⟩ := h
  exact ⟨u, h1, h2, h3⟩
theorem chk_fit {n : Nat} {C : List (List Int)} {ps : Nat → Nat} (hn : n ≤ 12) (h : HForm n C ps) (hl : C.length ≤ 12) (hw : ∀ x ∈ C, x.length = n) (hf : fitM C) : chkE n C = 0 := by
  have hl0 : latE n C = 0 := by
    unfold latE
    rw [if_neg (by omega), if_neg (by omega)]
    exact allE_of fun r hr => ⟨okRow_of (by have := hw r hr; omega) (fitM_le hf hr), hw r hr⟩
  unfold chkE; rw [if_pos hl0, if_pos (hform_herm h)]
/-- What FromCommas works out of rows over n primes. -/
structure FromG (n F : Nat) (m R A S : List (List Int)) : Prop where
  n1 : 1 ≤ n
  n6 : n ≤ 6
  lat : latE n m = 0
  form : formO n F n m = some R
  lR : R.length ≤ 12
  lR6 : R.length ≤ n
  wR : ∀ x ∈ R, x.all smB = true ∧ x.length = n
  chk : fitM R → chkE n R = 0
  sat : fitM R → SatF n F R A S
  right : fitM R → fitM S → fitM A → ∀ P : List Int, primesE P = 0 → P.length = n → ∃ F', RightT n F' P S A
theorem from_there {n : Nat} {m : List (List Int)} (h1 : 1 ≤ n) (hn : n ≤ 6) (hm : m.length ≤ 12) (hw : ∀ x ∈ m, x.length = n) (hb : ∀ x ∈ m, RowLe 1000000000 x) : ∃ F R A S, FromG n F m R A S := by
  obtain ⟨F0, R, ps, f1, f2, f3, f4, f5⟩ := rows_form n m (by omega) hm hw hb
  have hlat : latE n m = 0 := by
    unfold latE
    rw [if_neg (by omega), if_neg (by omega)]
    exact allE_of fun r hr => ⟨okRow_of (by have := hw r hr; omega) (hb r hr), hw r hr⟩
  by_cases hf : fitM R
  · have hch := chk_fit (by omega) f2 f3 (fun x hx => (f4 x hx).2) hf
    obtain ⟨z1, z2, z3, z4, z5, z6, z7, z8⟩ := sz6 hn
    have wR : ∀ r ∈ R, r.length = n := fun r hr => (f4 r hr).2
    obtain ⟨F1, A, qa, a1, a2, a3, a4, a5, -, -⟩ := ker_spec n 1000000000 9 58 R wR (fun r hr => fitM_le hf hr) (by decide) (by decide) z1 z3 z4 z5 z6
    obtain ⟨F2, S, qs, b1, b2, b3, b4, b5, -, -⟩ := ker_spec n (10 ^ 58) 58 352 A (fun r hr => (a4 r hr).2) (fun r hr => (a4 r hr).1.mono z1) (Nat.pos_of_ne_zero (by simp)) (Nat.le_refl _) z2 z5 z6 z7 z8
    have hS : SatF n (F0 + F1 + F2) R A S := ⟨h1, hn, kerS_mono (by omega) a1, kerS_mono (by omega) b1, by omega, by omega, fun r hr => all_smB' (k := 58) (by decide) ((a4 r hr).1.mono z1), fun r hr => all_smB' (k := 352) (by decide) ((b4 r hr).1.mono z2), fun r hr => (a4 r hr).2, fun r hr => (b4 r hr).2⟩
    refine ⟨F0 + F1 + F2, R, A, S, h1, hn, hlat, formO_mono (by omega) f1, f3, hform_len f2, f4, fun _ => hch, fun _ => hS, fun _ hfS hfA P hP hPl => ?_⟩
    obtain ⟨F3, T, qt, c1, c2, c3, c4, c5, -, -⟩ := ker_spec n 1000000000 9 58 S (fun r hr => (b4 r hr).2) (fun r hr => fitM_le hfS hr) (by decide) (by decide) z1 z3 z4 z5 z6
    have hWR : Wid n R := fun i hi => wR _ (rowE_mem hi)
    have hWA : Wid n A := fun i hi => (a4 _ (rowE_mem hi)).2
    have hWS : Wid n S := fun i hi => (b4 _ (rowE_mem hi)).2
    have e : T = A := by
      refine hform_same c2 a2 fun v => ?_
      rw [c3, a3]
      constructor
      · intro hv
        refine ⟨hv.1, fun i hi => ?_⟩
        have hr : Ann n A (rowE_ R i) := ⟨wR _ (rowE_mem hi), fun j hj => by
          rw [dotZ_comm]
          have := ((a3 (rowE_ A j)).1 (sp_row (rowE_mem hj))).2 i hi
          exact this⟩
        exact ann_sp hWS ((b3 _).2 hr) hv
      · intro hv
        refine ⟨hv.1, fun i hi => ?_⟩
        have hs : Ann n A (rowE_ S i) := (b3 _).1 (sp_row (rowE_mem hi))
        rw [dotZ_comm]
        exact ann_sp hWA ((a3 v).2 hv) hs
    subst e
    exact ⟨F0 + F1 + F2 + F3, h1, hn, hP, hPl, chk_fit (by omega) b2 (by omega) (fun x hx => (b4 x hx).2) hfS, kerS_mono (by omega) c1, kerS_mono (by omega) b1, by omega, by omega, fun x hx => ⟨fitM_le hfS hx, (b4 x hx).2⟩, fun x hx => ⟨fitM_le hfA hx, (a4 x hx).2⟩⟩
  · exact ⟨F0, R, [], [], h1, hn, hlat, f1, f3, hform_len f2, f4, fun h => absurd h hf, fun h => absurd h hf, fun h => absurd h hf⟩

set_option maxRecDepth 100000 in
set_option maxHeartbeats 4000000 in
theorem from_err1 (n F : Nat) (P : List Int) (m R A S : List (List Int)) (vp v : Value) (w : World) (hP : Ints w vp P) (h : Rows2 w v m) (hE : primesE P = 0) (hPl : P.length = n) (hG : FromG n F m R A S) (hR : ¬ fitM R) (hlib : LibT w) (hp : 2 < w.heap.size) :
    Calls Tryz.prog 108 #[vp, v] w fun e w' => ∃ a1 k1 c1 a2 k2 c2, e = .returned (.tuple #[.slice a1 k1 c1, .slice a2 k2 c2, .int .i64 4]) ∧ Ext w w' := by
  have HPC := Lib.hid (primesChk_any P vp w hP)
  rw [hE] at HPC
  have HOF := Lib.hid ((of_any' n F m R v w h hG.lat hG.form (fun r hr => (hG.wR r hr).1) (fun r hr => by have := (hG.wR r hr).2; have := hG.n6; omega) (by have := hG.lR; omega) hlib hp).mono fun e w' he => ls_err he hR)
  obtain ⟨ap, cp, rfl, p1, p2, -, -, -⟩ := hP.open
  rw [hPl] at HPC ⊢
  obtain ⟨a, c, rfl, -⟩ := inCell.open h
  clear hP h hE hPl hG hlib hp p1 p2
  go_enter Tryz.func108, Tryz.ntmps108
  go_wp2_with fail
  refine HPC.out.mono ?_
  rintro e w1 ⟨rfl, rfl⟩
  clear HPC
  go_wp2_with fail
  refine HOF.out.mono ?_
  rintro e w1 ⟨rfl, hE1⟩
  have HE1 := Lib.hid hE1
  clear hE1 HOF
  obtain ⟨V1, hV1, hX1, hs1, hb1⟩ := lat_new w1 (.int .i64 0) (.slice none 0 0)
  obtain ⟨r0, r1, rf⟩ := lat_block hb1
  have f0 := rf 0; have f1 := rf 1
  have HB1 := Lib.hid (lat_store hb1 (.int .i64 0) (.slice none 0 0))
  have HXU := Lib.hid (ext_lat hX1 (Nat.le_refl _) (.int .i64 0) (.slice none 0 0))
  clear hX1 hs1 hb1 rf
  obtain ⟨U1, hU1⟩ : ∃ U1, (V1.setCell ⟨w1.heap.size, 0, none⟩ (.int .i64 0)).setCell ⟨w1.heap.size, 1, none⟩ (.slice none 0 0) = U1 := ⟨_, rfl⟩
  rw [hU1] at HB1 HXU
  obtain ⟨s0, s1, -⟩ := lat_block HB1.out
  have HEU := Lib.hid (HE1.out.trans HXU.out)
  go_wp2_with fail
  clear hU1 hV1 r0 r1 f0 f1
  go_ret3
  exact ⟨_, _, _, _, _, _, rfl, HEU.out⟩

set_option maxRecDepth 100000 in
set_option maxHeartbeats 4000000 in
theorem from_err2 (n F : Nat) (P : List Int) (m R A S : List (List Int)) (vp v : Value) (w : World) (hP : Ints w vp P) (h : Rows2 w v m) (hE : primesE P = 0) (hPl : P.length = n) (hG : FromG n F m R A S) (hR : fitM R) (hSf : ¬ fitM S) (hlib : LibT w) (hp : 2 < w.heap.size) :
    Calls Tryz.prog 108 #[vp, v] w fun e w' => ∃ a1 k1 c1 a2 k2 c2, e = .returned (.tuple #[.slice a1 k1 c1, .slice a2 k2 c2, .int .i64 4]) ∧ Ext w w' := by
  have HPC := Lib.hid (primesChk_any P vp w hP)
  rw [hE] at HPC
  have HOF := Lib.hid ((of_any' n F m R v w h hG.lat hG.form (fun r hr => (hG.wR r hr).1) (fun r hr => by have := (hG.wR r hr).2; have := hG.n6; omega) (by have := hG.lR; omega) hlib hp).mono fun e w' he => ls_ok he hR)
  have hS := hG.sat hR
  have HSA := Lib.hid (fun W (hW : Ext w W) u (hu : LatV W u n R) => (sat_any n F R A S hS.kC hS.kA (by have := hS.lA; omega) u W hu (hG.chk hR) hG.n1 hS.sS (fun r hr => by have := hS.wS r hr; have := hG.n6; omega) (by have := hS.lS; omega) (hlib.ext hW) (Nat.lt_of_lt_of_le hp hW.size)).mono fun e w' he => ls_err he hSf)
  obtain ⟨ap, cp, rfl, p1, p2, -, -, -⟩ := hP.open
  rw [hPl] at HPC ⊢
  obtain ⟨a, c, rfl, -⟩ := inCell.open h
  clear hP h hE hPl hG hlib hp p1 p2
  go_enter Tryz.func108, Tryz.ntmps108
  go_wp2_with fail
  refine HPC.out.mono ?_
  rintro e w1 ⟨rfl, rfl⟩
  clear HPC
  go_wp2_with fail
  refine HOF.out.mono ?_
  rintro e w1 ⟨u1, rfl, hu1, hE1⟩
  obtain ⟨a1, c1, rfl, -⟩ := ListAt.open hu1.now
  have HE1 := Lib.hid hE1; have HU1 := Lib.hid hu1.now
  clear hE1 hu1 HOF
  obtain ⟨V1, hV1, hX1, hs1, hb1⟩ := lat_new w1 (.int .i64 0) (.slice none 0 0)
  obtain ⟨r0, r1, rf⟩ := lat_block hb1
  have f0 := rf 0; have f1 := rf 1
  have HB1 := Lib.hid (lat_store hb1 (.int .i64 n) (.slice a1 R.length c1))
  have HXU := Lib.hid (ext_lat hX1 (Nat.le_refl _) (.int .i64 n) (.slice a1 R.length c1))
  clear hX1 hs1 hb1 rf
  obtain ⟨U1, hU1⟩ : ∃ U1, (V1.setCell ⟨w1.heap.size, 0, none⟩ (.int .i64 n)).setCell ⟨w1.heap.size, 1, none⟩ (.slice a1 R.length c1) = U1 := ⟨_, rfl⟩
  rw [hU1] at HB1 HXU
  obtain ⟨s0, s1, -⟩ := lat_block HB1.out
  have HEU := Lib.hid (HE1.out.trans HXU.out)
  have HRU := Lib.hid (HU1.out.ext HXU.out)
  go_wp2_with fail
  clear hU1 hV1 r0 r1 f0 f1 HE1 HU1 HXU
  refine (HSA.out _ HEU.out _ ⟨_, rfl, HRU.out⟩).mono ?_
  rintro e w2 ⟨rfl, hE2⟩
  have HE2 := Lib.hid (HEU.out.trans hE2)
  have HB2 := Lib.hid (block_ext HB1.out hE2)
  clear hE2 HSA HB1 HRU HEU s0 s1
  obtain ⟨V2, hV2, hX2, hs2, hb2⟩ := lat_new w2 (.int .i64 0) (.slice none 0 0)
  obtain ⟨r0, r1, rf⟩ := lat_block hb2
  have f0 := rf 0; have f1 := rf 1
  have HB3 := Lib.hid (lat_store hb2 (.int .i64 0) (.slice none 0 0))
  have HXU := Lib.hid (ext_lat hX2 (Nat.le_refl _) (.int .i64 0) (.slice none 0 0))
  clear hX2 hs2 hb2 rf
  obtain ⟨U2, hU2⟩ : ∃ U1, (V2.setCell ⟨w2.heap.size, 0, none⟩ (.int .i64 0)).setCell ⟨w2.heap.size, 1, none⟩ (.slice none 0 0) = U1 := ⟨_, rfl⟩
  rw [hU2] at HB3 HXU
  have HEU := Lib.hid (HE2.out.trans HXU.out)
  go_wp2_with fail
  clear hU2 hV2 r0 r1 f0 f1
  go_ret3
  exact ⟨_, _, _, _, _, _, rfl, HEU.out⟩

set_option maxRecDepth 100000 in
set_option maxHeartbeats 4000000 in
theorem from_err3 (n F : Nat) (P : List Int) (m R A S : List (List Int)) (vp v : Value) (w : World) (hP : Ints w vp P) (h : Rows2 w v m) (hE : primesE P = 0) (hPl : P.length = n) (hG : FromG n F m R A S) (hR : fitM R) (hSf : fitM S) (hAf : ¬ fitM A) (hlib : LibT w) (hp : 2 < w.heap.size) :
    Calls Tryz.prog 108 #[vp, v] w fun e w' => ∃ a1 k1 c1 a2 k2 c2, e = .returned (.tuple #[.slice a1 k1 c1, .slice a2 k2 c2, .int .i64 4]) ∧ Ext w w' := by
  have HPC := Lib.hid (primesChk_any P vp w hP)
  rw [hE] at HPC
  have HOF := Lib.hid ((of_any' n F m R v w h hG.lat hG.form (fun r hr => (hG.wR r hr).1) (fun r hr => by have := (hG.wR r hr).2; have := hG.n6; omega) (by have := hG.lR; omega) hlib hp).mono fun e w' he => ls_ok he hR)
  have hS := hG.sat hR
  have HSA := Lib.hid (fun W (hW : Ext w W) u (hu : LatV W u n R) => (sat_any n F R A S hS.kC hS.kA (by have := hS.lA; omega) u W hu (hG.chk hR) hG.n1 hS.sS (fun r hr => by have := hS.wS r hr; have := hG.n6; omega) (by have := hS.lS; omega) (hlib.ext hW) (Nat.lt_of_lt_of_le hp hW.size)).mono fun e w' he => ls_ok he hSf)
  have HAN := Lib.hid (fun W (hW : Ext w W) u (hu : LatV W u n R) => (ann_any n F R A hS.kC u W hu (hG.chk hR) hG.n1 hS.sA (fun r hr => by have := hS.wA r hr; have := hG.n6; omega) (by have := hS.lA; omega) (hlib.ext hW) (Nat.lt_of_lt_of_le hp hW.size)).mono fun e w' he => ls_err he hAf)
  obtain ⟨ap, cp, rfl, p1, p2, -, -, -⟩ := hP.open
  rw [hPl] at HPC ⊢
  obtain ⟨a, c, rfl, -⟩ := inCell.open h
  clear hP h hE hPl hG hlib hp p1 p2
  go_enter Tryz.func108, Tryz.ntmps108
  go_wp2_with fail
  refine HPC.out.mono ?_
  rintro e w1 ⟨rfl, rfl⟩
  clear HPC
  go_wp2_with fail
  refine HOF.out.mono ?_
  rintro e w1 ⟨u1, rfl, hu1, hE1⟩
  obtain ⟨a1, c1, rfl, -⟩ := ListAt.open hu1.now
  have HE1 := Lib.hid hE1; have HU1 := Lib.hid hu1.now
  clear hE1 hu1 HOF
  obtain ⟨V1, hV1, hX1, hs1, hb1⟩ := lat_new w1 (.int .i64 0) (.slice none 0 0)
  obtain ⟨r0, r1, rf⟩ := lat_block hb1
  have f0 := rf 0; have f1 := rf 1
  have HB1 := Lib.hid (lat_store hb1 (.int .i64 n) (.slice a1 R.length c1))
  have HXU := Lib.hid (ext_lat hX1 (Nat.le_refl _) (.int .i64 n) (.slice a1 R.length c1))
  clear hX1 hs1 hb1 rf
  obtain ⟨U1, hU1⟩ : ∃ U1, (V1.setCell ⟨w1.heap.size, 0, none⟩ (.int .i64 n)).setCell ⟨w1.heap.size, 1, none⟩ (.slice a1 R.length c1) = U1 := ⟨_, rfl⟩
  rw [hU1] at HB1 HXU
  obtain ⟨s0, s1, -⟩ := lat_block HB1.out
  have HEU := Lib.hid (HE1.out.trans HXU.out)
  have HRU := Lib.hid (HU1.out.ext HXU.out)
  go_wp2_with fail
  clear hU1 hV1 r0 r1 f0 f1 HE1 HU1 HXU
  refine (HSA.out _ HEU.out _ ⟨_, rfl, HRU.out⟩).mono ?_
  rintro e w2 ⟨u2, rfl, hu2, hE2⟩
  obtain ⟨a2, c2, rfl, -⟩ := ListAt.open hu2.now
  have HE2 := Lib.hid (HEU.out.trans hE2); have HU2 := Lib.hid hu2.now
  have HB2 := Lib.hid (block_ext HB1.out hE2)
  have HR2 := Lib.hid (HRU.out.ext hE2)
  clear hE2 hu2 HSA HB1 HRU HEU s0 s1
  obtain ⟨V2, hV2, hX2, hs2, hb2⟩ := lat_new w2 (.int .i64 0) (.slice none 0 0)
  obtain ⟨r0, r1, rf⟩ := lat_block hb2
  have f0 := rf 0; have f1 := rf 1
  have HB3 := Lib.hid (lat_store hb2 (.int .i64 n) (.slice a2 S.length c2))
  have HXU := Lib.hid (ext_lat hX2 (Nat.le_refl _) (.int .i64 n) (.slice a2 S.length c2))
  clear hX2 hs2 hb2 rf
  obtain ⟨U2, hU2⟩ : ∃ U1, (V2.setCell ⟨w2.heap.size, 0, none⟩ (.int .i64 n)).setCell ⟨w2.heap.size, 1, none⟩ (.slice a2 S.length c2) = U1 := ⟨_, rfl⟩
  rw [hU2] at HB3 HXU
  have HB22 := Lib.hid (block_ext HB2.out HXU.out)
  obtain ⟨s0, s1, -⟩ := lat_block HB22.out
  have HEU := Lib.hid (HE2.out.trans HXU.out)
  have HRU := Lib.hid (HR2.out.ext HXU.out)
  go_wp2_with fail
  clear hU2 hV2 r0 r1 f0 f1 HE2 HU2 HXU HB2 HR2
  refine (HAN.out _ HEU.out _ ⟨_, rfl, HRU.out⟩).mono ?_
  rintro e w3 ⟨rfl, hE3⟩
  have HE3 := Lib.hid (HEU.out.trans hE3)
  have HB4 := Lib.hid (block_ext HB3.out hE3)
  clear hE3 HAN HB3 HRU HEU HB22 s0 s1
  obtain ⟨V3, hV3, hX3, hs3, hb3⟩ := lat_new w3 (.int .i64 0) (.slice none 0 0)
  obtain ⟨r0, r1, rf⟩ := lat_block hb3
  have f0 := rf 0; have f1 := rf 1
  have HB5 := Lib.hid (lat_store hb3 (.int .i64 0) (.slice none 0 0))
  have HXU := Lib.hid (ext_lat hX3 (Nat.le_refl _) (.int .i64 0) (.slice none 0 0))
  clear hX3 hs3 hb3 rf
  obtain ⟨U3, hU3⟩ : ∃ U1, (V3.setCell ⟨w3.heap.size, 0, none⟩ (.int .i64 0)).setCell ⟨w3.heap.size, 1, none⟩ (.slice none 0 0) = U1 := ⟨_, rfl⟩
  rw [hU3] at HB5 HXU
  obtain ⟨q0, q1, -⟩ := lat_block HB5.out
  obtain ⟨s0, s1, -⟩ := lat_block (block_ext HB4.out HXU.out)
  have HEU := Lib.hid (HE3.out.trans HXU.out)
  go_upto_region 11 with fail
  go_region
  all_goals
    go_wp2_with fail
    go_ret3
    exact ⟨_, _, _, _, _, _, rfl, HEU.out.trans (Ext.drew _)⟩

set_option maxRecDepth 100000 in
set_option maxHeartbeats 4000000 in
theorem fromCommas_err (n F : Nat) (P : List Int) (m R A S : List (List Int)) (vp v : Value) (w : World) (hP : Ints w vp P) (h : Rows2 w v m) (hE : primesE P = 0) (hPl : P.length = n) (hG : FromG n F m R A S) (hbad : ¬ (fitM R ∧ fitM S ∧ fitM A)) (hlib : LibT w) (hp : 2 < w.heap.size) :
    Calls Tryz.prog 56 #[vp, v] w fun e w' => e = .returned (.tuple #[.agg #[.slice none 0 0, .slice none 0 0, .slice none 0 0], .int .i64 4]) ∧ Ext w w' := by
  have HFR : Hid (∀ W, Ext w W → Calls Tryz.prog 108 #[vp, v] W fun e w' => ∃ a1 k1 c1 a2 k2 c2, e = .returned (.tuple #[.slice a1 k1 c1, .slice a2 k2 c2, .int .i64 4]) ∧ Ext W w') := fun W hW => by
    by_cases hR : fitM R
    · by_cases hS : fitM S
      · by_cases hA : fitM A
        · exact absurd ⟨hR, hS, hA⟩ hbad
        · exact from_err3 n F P m R A S vp v W (hP.ext hW) (h.ext hW) hE hPl hG hR hS hA (hlib.ext hW) (Nat.lt_of_lt_of_le hp hW.size)
      · exact from_err2 n F P m R A S vp v W (hP.ext hW) (h.ext hW) hE hPl hG hR hS (hlib.ext hW) (Nat.lt_of_lt_of_le hp hW.size)
    · exact from_err1 n F P m R A S vp v W (hP.ext hW) (h.ext hW) hE hPl hG hR (hlib.ext hW) (Nat.lt_of_lt_of_le hp hW.size)
  obtain ⟨ap, cp, rfl, -⟩ := hP.open
  obtain ⟨a, c, rfl, -⟩ := inCell.open h
  clear hP h hE hPl hG hlib hp hbad
  go_enter Tryz.func56, Tryz.ntmps56
  obtain ⟨W1, hW1, hE1, hs1, hb1⟩ := tp_new w (.slice none 0 0) (.slice none 0 0) (.slice none 0 0)
  have HB1 := Lib.hid hb1; have HE1 := Lib.hid hE1
  clear hE1 hs1 hb1
  go_wp2_with fail
  refine (HFR.out _ HE1.out).mono ?_
  rintro e w2 ⟨a1, k1, c1, a2, k2, c2, rfl, hE2⟩
  have HB2 := Lib.hid (block_ext HB1.out hE2)
  have HE2 := Lib.hid (HE1.out.trans hE2)
  clear hE2 HFR HB1 HE1 hW1
  obtain ⟨b0, b1, b2, bf⟩ := tp_block HB2.out
  have f0 := bf 0; have f1 := bf 1; have f2 := bf 2
  clear bf
  go_wp2_with fail
  have hkA := tp_store HB2.out (.slice none 0 0) (.slice none 0 0) (.slice none 0 0)
  refine bodyPost_ret (results_rowtmp (by rfl) _ _ w.heap.size 58 #[.slice none 0 0, .slice none 0 0, .slice none 0 0] (0, 0) _ (by rfl) hkA Tryz.underlying58 (by rfl) (by kernel_rfl)) (by rfl) ?_
  exact ⟨rfl, ext_tp HE2.out (Nat.le_refl _) _ _ _⟩
/-- FromCommas at any few rows. -/
theorem fromCommas_gen (n F : Nat) (P : List Int) (m R A S : List (List Int)) (vp v : Value) (w : World) (hP : Ints w vp P) (h : Rows2 w v m) (hE : primesE P = 0) (hPl : P.length = n) (hG : FromG n F m R A S) (hlib : LibT w) (hp : 2 < w.heap.size) :
    Calls Tryz.prog 56 #[vp, v] w fun e w' => Ext w w' ∧ ((∃ u F', e = .returned (.tuple #[u, .int .i64 0]) ∧ SafeS w' (· < w.heap.size) (fun W => TempV W u P S A) ∧ RightT n F' P S A) ∨ e = .returned (.tuple #[.agg #[.slice none 0 0, .slice none 0 0, .slice none 0 0], .int .i64 4])) := by
  by_cases hf : fitM R ∧ fitM S ∧ fitM A
  · obtain ⟨hR, hS, hA⟩ := hf
    have hs := hG.sat hR
    obtain ⟨F', hRT⟩ := hG.right hR hS hA P hE hPl
    have hRl : R.length ≤ 6 := by have := hG.lR6; have := hG.n6; omega
    have hD : FromD n F m R A S := ⟨hG.n1, hG.n6, hG.lat, hG.form, ⟨hRl, fun x hx => ⟨fitM_le hR hx, (hG.wR x hx).2⟩⟩, hG.chk hR, hs.kC, hs.kA, hs.lA, hs.lS, fun x hx => ⟨fitM_le hA hx, hs.wA x hx⟩, fun x hx => ⟨fitM_le hS hx, hs.wS x hx⟩⟩
    refine (fromCommas_any n F P m R A S vp v w hP h hE hPl hD hlib hp).mono ?_
    rintro e w' ⟨u, rfl, hu, hX⟩
    exact ⟨hX, .inl ⟨u, F', rfl, hu, hRT⟩⟩
  · exact (fromCommas_err n F P m R A S vp v w hP h hE hPl hG hf hlib hp).mono fun e w' ⟨h1, h2⟩ => ⟨h2, .inr h1⟩
end Go.Proofs.YtjihfabhgcfjnaaGreatDoor
