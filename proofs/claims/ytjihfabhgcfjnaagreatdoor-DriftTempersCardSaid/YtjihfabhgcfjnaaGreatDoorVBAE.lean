/- Merged: FollowA, FollowB. -/
import Derived.Test.YtjihfabhgcfjnaaGreatDoorVBAD
import Derived.Test.YtjihfabhgcfjnaaGreatDoorUBI
import Derived.Test.YtjihfabhgcfjnaaGreatDoorVBAC
/- Contracts of the law's lead, roots. -/
namespace Go.Proofs.YtjihfabhgcfjnaaGreatDoor
set_option linter.unusedVariables false
set_option linter.unusedSimpArgs false
open Go.RowKit

theorem accRow_lead (r x y : List Int) (h1 : x.length = r.length) (h2 : y.length = r.length) : sumRows (List.zipWith (· + ·) r x) y = accRow false r (sumRows x y) := by
  apply List.ext_getElem
  · simp [sumRows, accRow, h1, h2]
  · intro i h3 h4
    simp [sumRows, accRow]
    omega

set_option maxRecDepth 100000 in
set_option maxHeartbeats 4000000 in
theorem lead51_any (k : Wk) (v u : Value) (w : World) (step link : Nat) (h : WalkAt w v k) (hk : RightWk k) (l : List (Int × Int)) (hl : k.links[step]? = some l) (x : Int × Int) (hlk : l[link]? = some x) (hu : Ints w u (rootAt k step)) :
    Calls Tryz.prog 70 #[v, .int .i64 step, u, .agg #[.int .i64 x.1, .int .i64 x.2]] w fun e w' => ∃ r, e = .returned r ∧ Ext w w' ∧ w'.ownsRow w.heap.size 3 1 r k.primes.length ((accRow false (rootAt k step) (leadRow k step link)).map (Value.int .i64)) := by
  obtain ⟨vp, vc, vl, rfl, h1, h2, h3⟩ := h
  obtain ⟨c, d, hc, hd, hall⟩ := hk.linked step l hl
  obtain ⟨hf0, hf1, ht0, ht1⟩ := hall x (List.mem_of_getElem? hlk)
  have hsc : step + 1 < k.chords.length := (List.getElem?_eq_some_iff.1 hd).1
  obtain ⟨hrn, hrb⟩ := rootAt_ok k hk step (by omega)
  have hch := hk.most
  have hpl := hk.primes
  obtain ⟨f, t⟩ := x
  obtain ⟨f, rfl⟩ := Int.eq_ofNat_of_zero_le hf0
  obtain ⟨t, rfl⟩ := Int.eq_ofNat_of_zero_le ht0
  simp only [Int.ofNat_lt] at hf1 ht1
  obtain ⟨x, hx⟩ : ∃ x, c[f]? = some x := ⟨c[f], List.getElem?_eq_getElem hf1⟩
  obtain ⟨y, hy⟩ : ∃ y, d[t]? = some y := ⟨d[t], List.getElem?_eq_getElem ht1⟩
  have htx := hk.tame c (List.mem_of_getElem? hc) x (List.mem_of_getElem? hx)
  have hty := hk.tame d (List.mem_of_getElem? hd) y (List.mem_of_getElem? hy)
  have HL : Hid (leadRow k step link = sumRows x y) := by
    unfold Hid leadRow
    simp [List.getD, hl, hlk, hc, hd, hx, hy]
  obtain ⟨ac, cc, rfl, hcc1, hcm1, -, hcc⟩ := inCell.open h2
  obtain ⟨bc, oc, rfl, hbc, kcc⟩ := hcc (by intro e; simp [e] at hc)
  obtain ⟨uc, huc, hcuc⟩ := kcc step c hc
  obtain ⟨ud, hud, hcud⟩ := kcc (step + 1) d hd
  obtain ⟨ac2, cc2, rfl, hcc2, hcm2, -, hcc3⟩ := inCell.open huc
  obtain ⟨bc2, oc2, rfl, hbc2, kcc3⟩ := hcc3 (by intro e; simp [e] at hx)
  obtain ⟨vx, hvx, hcx⟩ := kcc3 f x hx
  obtain ⟨ad2, cd2, rfl, hcd2, hdm2, -, hcd3⟩ := inCell.open hud
  obtain ⟨bd2, od2, rfl, hbd2, kcd3⟩ := hcd3 (by intro e; simp [e] at hy)
  obtain ⟨vy, hvy, hcy⟩ := kcd3 t y hy
  have hn1 : x.length = (rootAt k step).length := by rw [htx.1, hrn]
  have hn2 : y.length = (rootAt k step).length := by rw [hty.1, hrn]
  have HADD := Lib.hid (fun W' (he : Ext w W') => add_any (rootAt k step) x u vx W' (hu.ext he) (hvx.ext he) hn1 (by omega) (fun a ha => by have := hrb a ha; omega) (fun a ha => by have := htx.2 a ha; omega))
  have hzl : (List.zipWith (· + ·) (rootAt k step) x).length = (rootAt k step).length := by simp [hn1]
  have hzb : ∀ a ∈ List.zipWith (· + ·) (rootAt k step) x, -1000000000 ≤ a ∧ a ≤ 1000000000 := by
    intro a ha
    obtain ⟨j, hj, rfl⟩ := List.getElem_of_mem ha
    simp only [List.length_zipWith] at hj
    simp only [List.getElem_zipWith]
    have e1 := hrb ((rootAt k step)[j]'(by omega)) (List.getElem_mem _)
    have e2 := htx.2 (x[j]'(by omega)) (List.getElem_mem _)
    omega
  have HSUB := Lib.hid (fun r b W' (he : Ext w W') (hr : W'.ownsRow b 3 1 r (rootAt k step).length ((List.zipWith (· + ·) (rootAt k step) x).map (Value.int .i64))) =>
    sub_any (List.zipWith (· + ·) (rootAt k step) x) y r vy W' (Ints.of_owns (by rw [hzl]; exact hr) (fun a ha => by have := hzb a ha; omega)) (hvy.ext he) (by omega) (by omega) (fun a ha => by have := hzb a ha; omega) (fun a ha => by have := hty.2 a ha; omega))
  have HE : Hid (sumRows (List.zipWith (· + ·) (rootAt k step) x) y = accRow false (rootAt k step) (leadRow k step link)) := by
    rw [HL.out]; exact accRow_lead _ _ _ hn1 hn2
  have HRN := Lib.hid hrn
  have HZL := Lib.hid hzl
  obtain ⟨w1, hW1, hE1, hsz1, b0, b1, b2⟩ := box_walk w vp (.slice (some ⟨bc, oc, none⟩) k.chords.length cc) vl 55
  obtain ⟨w2, hW2, hE2, l0, l1⟩ := box_two w1 (.int .i64 (f : Int)) (.int .i64 (t : Int)) 114
  have hE12 : Ext w w2 := hE1.trans hE2
  have hs1 : w1.heap.size = w.heap.size + 1 := by rw [← hW1]; simp
  rw [hs1] at l0 l1
  have g0 := hE2.cell b1
  have g1 := hE12.cell hcuc
  have g2 := hE12.cell hcud
  have g3 := hE12.cell hcx
  have g4 := hE12.cell hcy
  have n1 := Lib.hid (lt_of_cell g0); have n2 := Lib.hid (lt_of_cell l0)
  have n3 := Lib.hid (lt_of_cell g1); have n4 := Lib.hid (lt_of_cell g3); have n5 := Lib.hid (lt_of_cell g4)
  unfold maxLen at hcm1 hcm2 hdm2
  clear h1 h2 h3 hc hd hall hu hvx hvy hcc hcc3 hcd3 kcc kcc3 kcd3 huc hud hcuc hcud hcx hcy hn1 hn2 hzl hzb hrb htx hty hl hlk hx hy hk
  have p1 : IntKind.i64.wrap ((step : Int) + 1) = (step : Int) + 1 := by rw [IntKind.wrap_i64]; omega
  have q1 : (step : Int) < (k.chords.length : Int) := by omega
  have q2 : (step : Int) + 1 < (k.chords.length : Int) := by omega
  have q3 : (f : Int) < (c.length : Int) := by omega
  have q4 : (t : Int) < (d.length : Int) := by omega
  have q5 : 0 ≤ (step : Int) + 1 := by omega
  have q6 : ((step : Int) + 1).toNat = step + 1 := by omega
  go_enter Tryz.func70, Tryz.ntmps70
  go_wp2_with fail
  clear hW1 hW2
  have hEd : Ext w w2.drew := Below.drew hE12
  go_region_held3 (fun w' => w'.cell? ⟨w.heap.size, 1, none⟩ = some (.slice (some ⟨bc, oc, none⟩) k.chords.length cc) ∧ w'.cell? ⟨w.heap.size + 1, 0, none⟩ = some (.int .i64 (f : Int)) ∧ w'.cell? ⟨w.heap.size + 1, 1, none⟩ = some (.int .i64 (t : Int)) ∧ w'.cell? ⟨bc, oc + step, none⟩ = some (.slice (some ⟨bc2, oc2, none⟩) c.length cc2) ∧ w'.cell? ⟨bc, oc + (step + 1), none⟩ = some (.slice (some ⟨bd2, od2, none⟩) d.length cd2) ∧ w'.cell? ⟨bc2, oc2 + f, none⟩ = some vx ∧ w'.cell? ⟨bd2, od2 + t, none⟩ = some vy)
    (first | exact ⟨hE4.cell (hE3.cell g0), hE4.cell (hE3.cell l0), hE4.cell (hE3.cell l1), hE4.cell (hE3.cell g1), hE4.cell (hE3.cell g2), hE4.cell (hE3.cell g3), hE4.cell (hE3.cell g4)⟩ | exact ⟨hE3.cell g0, hE3.cell l0, hE3.cell l1, hE3.cell g1, hE3.cell g2, hE3.cell g3, hE3.cell g4⟩ | go_keep)
    (first | (go_at_call 120; refine (HADD.out _ hEd).mono ?_; rintro e w3 ⟨r3, rfl, hE3, hr3⟩) | (go_at_call 69; refine (HSUB.out _ _ _ (hEd.trans hE3) hr3).mono ?_; rintro e w4 ⟨r4, rfl, hE4, hr4⟩))
  rw [HE.out, HZL.out, HRN.out] at hr4
  have HR4 := Lib.hid hr4
  have HE34 := Lib.hid (hEd.trans (hE3.trans hE4))
  have hs3 := hE3.size
  have hs4 := hEd.size
  clear hr3 hr4
  go_wp2_with fail
  go_ret
  exact ⟨r4, rfl, HE34.out, owns_base HR4.out (Nat.le_trans hs4 hs3)⟩

theorem far_cell {w0 w3 w5 : World} {row : Option Nat} (hg : w3.grownBy w5 row) (he : Ext w0 w3) {a : Addr} {v : Value} (hc : w0.cell? a = some v) (hne : some a.block ≠ row) : w5.cell? a = some v :=
  (hg.cell_far a (Nat.lt_of_lt_of_le (lt_of_cell hc) he.size) hne).trans (he.cell hc)
theorem safe_row {w : World} {base g q capo : Nat} {e : TypeId} {v : Value} {xs : List Int} {n : Nat} {b : Int} (h : w.ownsRow base e 1 v n (xs.map (Value.int .i64))) (hok : xs.length = n ∧ ∀ a ∈ xs, -(2000000 * b) ≤ a ∧ a ≤ 2000000 * b) (hb : b ≤ 1000000) (hg : g < base) :
    Safe w (Value.ownBlock (.slice (some ⟨g, 0, none⟩) q capo)) fun w => rowR w [v] xs := by
  refine (Safe.owns h (.inr ?_)).mono ?_
  · intro e
    have := (h.lt g (by rw [e]; rfl)).1
    omega
  · intro w h
    refine ⟨_, rfl, Ints.of_owns (base := base) (e := e) (by rw [hok.1]; exact h) (by intro x hx; have := hok.2 x hx; omega)⟩

set_option maxRecDepth 100000 in
set_option maxHeartbeats 4000000 in
theorem roots51_any (k : Wk) (v : Value) (w : World) (h : WalkAt w v k) (hk : RightWk k) :
    Calls Tryz.prog 31 #[v] w fun e w' => ∃ r, e = .returned r ∧ Ext w w' ∧ Rows2 w' r (rootsOf k k.links.length) := by
  have HWALK := Lib.hid h
  obtain ⟨vp, vc, vl, rfl, h1, h2, h3⟩ := h
  obtain ⟨W, hW, hE, hsz, b0, b1, b2⟩ := box_walk w vp vc vl 55
  have P3 := Lib.hid (h3.ext hE)
  obtain ⟨ap, cp, rfl, hlp, hmp, -, -, -⟩ := h1.open
  obtain ⟨al, cl, rfl, hll, hml, -, -⟩ := inCell.open h3
  unfold maxLen at hmp hml
  obtain ⟨i0, hi, hz0, hz1, hz2⟩ := info_parts infoInt
  have HI := Lib.hid hi; have HZ0 := Lib.hid hz0; have HZ1 := Lib.hid hz1; have HZ2 := Lib.hid hz2
  have HRK := Lib.hid hk
  have hpl := hk.primes
  have hlen1 : k.links.length ≤ 63 := by have := hk.len; have := hk.most; omega
  have hp0 := hk.prime
  clear hi hz0 hz1 hz2 h1 h2 h3 hk
  go_enter Tryz.func31, Tryz.ntmps31
  go_wp2_with (at_make; refine wpList_make_full _ rfl _ _ 37 rfl W.heap.size 3 i0 (.int .i64 0) 1 Tryz.underlying37 HI.out HZ0.out HZ1.out _ _ _ _ k.primes.length rfl rfl rfl rfl ?c1 ?c2 ?c3 ?_)
  case c1 => rw [HZ2.out]; omega
  case c2 => unfold maxLen; omega
  case c3 => exact Nat.le_refl _
  intro w1 hown hgrow
  rw [made_ints] at hown
  clear hW
  have hE1 : Ext W w1 := (Below.refl _ _).grown hgrow (Nat.le_refl _) (by intro k hk; cases hk)
  have hz : Ints w1 (.slice (some ⟨W.heap.size, 0, none⟩) k.primes.length k.primes.length) (rootAt k 0) := by
    have := Ints.of_owns (xs := List.replicate k.primes.length 0) (by simpa using hown) (by intro x hx; have := (List.mem_replicate.1 hx).2; omega)
    simpa [rootAt] using this
  have HZR := Lib.hid hz
  have HG := Lib.hid hgrow
  clear hown hgrow hz
  have hsz1 : w.heap.size < w1.heap.size := Nat.lt_of_lt_of_le hsz hE1.size
  have d0 := hE1.cell b0; have d1 := hE1.cell b1; have d2 := hE1.cell b2
  go_wp2
  have hb0 : Build (w1.alloc (.cells #[.slice (some ⟨W.heap.size, 0, none⟩) k.primes.length k.primes.length] 37)) W.heap.size 37 1 (.slice (some ⟨w1.heap.size, 0, none⟩) 1 1) rowR (rootsOf k 0) :=
    Build.lit (e := 37) (R := rowR) w1 [[.slice (some ⟨W.heap.size, 0, none⟩) k.primes.length k.primes.length]] [rootAt k 0] hE1.size rfl (by simp) (by simp [maxLen]) (by
      intro j u x hu hx w' he
      match j with
      | 0 => simp at hu hx; subst hu; subst hx; exact ⟨_, rfl, Ints.ext HZR.out he⟩
      | j + 1 => simp at hu)
  have HB0 := Lib.hid hb0
  clear hb0
  go_loopw [3, 14] (fun out t wr => ∃ i : Nat, i ≤ k.links.length ∧ t = .int .i64 i ∧ Below W.heap.size W wr ∧ Hid (Build wr W.heap.size 37 1 out rowR (rootsOf k i))) (fun _ t _ => k.links.length - (intOf t).toNat)
  case atStart => exact ⟨0, Nat.zero_le _, rfl, Below.alloc hE1 hE1.size _, HB0.out⟩
  case round =>
    obtain ⟨i, hi, rfl, hEr, HB⟩ := hrel
    obtain ⟨wo, rfl⟩ : ∃ wo : World, wo = wr := ⟨_, rfl⟩
    clear HB0 d0 d1 d2
    by_cases hlt : i < k.links.length
    · have d0 := Ext.cell hEr b0; have d1 := Ext.cell hEr b1; have d2 := Ext.cell hEr b2
      have hrl : (rootsOf k i).length = i + 1 := by simp [rootsOf]
      obtain ⟨us, u1, u2, u3, u4⟩ := id HB.out
      obtain ⟨g, capo, hout, hg1, hg2, hg3, hg4⟩ := owns_shape u3 (by omega)
      clear u1 u2 u3 u4 us
      subst hout
      obtain ⟨-, -, -, hoc⟩ := inCell.cells HB.out.list
      obtain ⟨bo, oo, hao, hbo, hoc⟩ := hoc (by intro e; rw [e] at hrl; simp at hrl)
      simp only [Option.some.injEq, Addr.mk.injEq, and_true] at hao
      obtain ⟨rfl, rfl⟩ := hao
      obtain ⟨vr, hvr, hcr⟩ := hoc i (rootAt k i) (by simp [rootsOf])
      rw [Nat.zero_add] at hcr
      unfold maxLen at hg4
      obtain ⟨l, hll⟩ : ∃ l, k.links[i]? = some l := ⟨k.links[i], List.getElem?_eq_getElem hlt⟩
      have hl0 : 0 < l.length := by have := HRK.out.some l (List.mem_of_getElem? hll); cases l with | nil => exact absurd rfl this | cons => simp
      obtain ⟨y, hy⟩ : ∃ y, l[0]? = some y := ⟨l[0], List.getElem?_eq_getElem hl0⟩
      obtain ⟨-, -, -, hcl⟩ := inCell.cells P3.out
      obtain ⟨bl, ol, rfl, hbl, kcl⟩ := hcl (by intro e; simp [e] at hll)
      obtain ⟨ul, hul, hcul⟩ := kcl i l hll
      obtain ⟨al2, cl2, rfl, hlc2, hlm2, -, -⟩ := ListAt.open hul
      obtain ⟨-, -, -, -, hcl2⟩ := Links.cells hul
      obtain ⟨bl2, ol2, rfl, hbl2, kcl2⟩ := hcl2 (by intro e; simp [e] at hl0)
      obtain ⟨hcf, hct⟩ := kcl2 0 _ hy
      simp only [Nat.zero_mul, Nat.add_zero] at hcf hct
      have hcul' := Ext.cell hEr hcul
      have hcf' := Ext.cell hEr hcf
      have hct' := Ext.cell hEr hct
      have HOK := Lib.hid (rootAt_ok k HRK.out (i + 1) (by have := HRK.out.len; omega))
      have HLEAD := Lib.hid (fun W' (he : Ext wo W') => lead51_any k _ vr W' i 0 (WalkAt.ext HWALK.out (hE.trans (Ext.trans hEr he))) HRK.out l hll y hy (Ints.ext hvr he))
      have m1 : (0 : Int) < (l.length : Int) := by omega
      obtain ⟨q, hq⟩ : ∃ q, q = (rootsOf k i).length := ⟨_, rfl⟩
      have hqi : q = i + 1 := by omega
      have m2 : (i : Int) < (q : Int) := by omega
      rw [← hq] at hg3 HB ⊢
      have HQ := Lib.hid hq
      have HQI := Lib.hid hqi
      have hsE : W.heap.size ≤ wo.heap.size := Below.size hEr
      unfold maxLen at hlm2
      have nb1 : ¬ w.heap.size = g := by omega
      have nb2 : ¬ bl2 = g := by omega
      clear hcl kcl hul hcl2 kcl2 hcul hcf hct hoc hrl hvr hll hy hq hqi
      have HOI : Hid (((i + 1 : Nat) : Int) ≤ 1000000) := by unfold Hid; omega
      have N1 : Hid (some w.heap.size ≠ Value.ownBlock (.slice (some ⟨g, 0, none⟩) q capo)) := by simp [Hid, Value.ownBlock]; omega
      have N2 : Hid (some bl2 ≠ Value.ownBlock (.slice (some ⟨g, 0, none⟩) q capo)) := by simp [Hid, Value.ownBlock]; omega
      have KV : Hid (Value.slice (some ⟨g, 0, none⟩) q capo = Value.slice (some ⟨g, 0, none⟩) (rootsOf k i).length capo) := by rw [← HQ.out]; rfl
      have KI : Hid (i < (rootsOf k i).length * 1) := by rw [← HQ.out, HQI.out]; simp [Hid]
      go_wp2_with fail
      have hEd : Ext wo wo.drew := Ext.drew wo
      have y0 := hEd.cell d0; have y1 := hEd.cell d1; have y2 := hEd.cell d2; have y3 := hEd.cell hcr; have y4 := hEd.cell hcf'; have y5 := hEd.cell hct'
      have hsd : W.heap.size ≤ wo.drew.heap.size := Nat.le_trans hsE hEd.size
      have hsg : g < wo.drew.heap.size := Nat.lt_of_lt_of_le hg2 hEd.size
      have HSD := Lib.hid hsd; have HSG := Lib.hid hsg
      clear hsd hsg
      go_region_held3 (fun w' => w'.cell? ⟨w.heap.size, 0, none⟩ = some (.slice ap k.primes.length cp) ∧ w'.cell? ⟨w.heap.size, 1, none⟩ = some vc ∧ w'.cell? ⟨w.heap.size, 2, none⟩ = some (.slice (some ⟨bl, ol, none⟩) k.links.length cl) ∧ w'.cell? ⟨g, i, none⟩ = some vr ∧ w'.cell? ⟨bl2, ol2, none⟩ = some (.int .i64 y.1) ∧ w'.cell? ⟨bl2, ol2 + 1, none⟩ = some (.int .i64 y.2))
        (first | exact ⟨z0, z1, z2, z3, z4, z5⟩ | exact ⟨hE3.cell y0, hE3.cell y1, hE3.cell y2, hE3.cell y3, hE3.cell y4, hE3.cell y5⟩ | go_keep)
        (first | (go_at_call 70; refine (HLEAD.out _ hEd).mono ?_; rintro e w3 ⟨r3, rfl, hE3, hr3⟩; obtain ⟨g3, cap3, rfl, -, -, -, -⟩ := owns_shape hr3 hp0) | (refine step_append_keep w3 (by rfl) _ _ 28 (by rfl) W.heap.size 37 (.slice none 0 0) 1 24 Tryz.underlying28 infoRow (by rfl) (by decide) (.slice (some ⟨g, 0, none⟩) q capo) rowR (rootsOf k i) (rootAt k (i + 1)) #[.slice (some ⟨g3, 0, none⟩) k.primes.length cap3] 37 (by rfl) ?e0 (by rfl) (by rfl) ?e1 ?e2 ?e3 (by decide) ?e4 ?_; (case e0 => exact Build.ext HB.out (hEd.trans hE3)); (case e1 => simp [Value.oneCell']); (case e2 => exact safe_row hr3 HOK.out HOI.out HSG.out); (case e3 => have e := HQ.out; have e2 := HQI.out; omega); (case e4 => exact Nat.le_trans HSD.out hE3.size); intro v' w5 hB5 hg5 hb5 hs5 hk5; have z0 := far_cell hg5 hE3 y0 N1.out; have z1 := far_cell hg5 hE3 y1 N1.out; have z2 := far_cell hg5 hE3 y2 N1.out; have z3 := hk5 _ _ KV.out _ _ KI.out (hE3.cell y3); have z4 := far_cell hg5 hE3 y4 N2.out; have z5 := far_cell hg5 hE3 y5 N2.out))
      rw [← rootsOf_succ] at hB5
      have HB5 := Lib.hid hB5
      have HE5 := Lib.hid (Below.trans (Ext.trans hEr (hEd.trans hE3)) hb5)
      clear hB5 hg5 hb5 hk5 hr3 hE3 z0 z1 z2 z3 z4 z5 y0 y1 y2 y3 y4 y5
      go_wp2_with fail
      go_roundw
      case rel => exact ⟨i + 1, by omega, by go_num, HE5.out, HB5.out⟩
      case measure => simp [intOf]; omega
    · obtain rfl : i = k.links.length := by omega
      go_wp2
      go_ret
      exact ⟨_, rfl, Ext.trans hE hEr, HB.out.list⟩
end Go.Proofs.YtjihfabhgcfjnaaGreatDoor
/- Contract of the law's strains. -/
namespace Go.Proofs.YtjihfabhgcfjnaaGreatDoor
set_option linter.unusedVariables false
set_option linter.unusedSimpArgs false
open Go.RowKit

theorem strain_plain (k : Wk) (i j : Nat) (h1 : (leadRow k i j).length = (rootAt k i).length) (h2 : (leadRow k i 0).length = (rootAt k i).length) :
    sumRows (accRow false (rootAt k i) (leadRow k i j)) (rootAt k (i + 1)) = strainAt k i j := by
  show sumRows (accRow false (rootAt k i) (leadRow k i j)) (accRow false (rootAt k i) (leadRow k i 0)) = _
  apply List.ext_getElem
  · simp [sumRows, accRow, strainAt, h1, h2]
  · intro a h3 h4
    simp [sumRows, accRow, strainAt]
    omega
theorem rootsOf_get (k : Wk) (n i : Nat) (h : i ≤ n) : (rootsOf k n)[i]? = some (rootAt k i) := by
  unfold rootsOf
  rw [List.getElem?_map, List.getElem?_range (by omega)]
  rfl
theorem strain_none (k : Wk) (i : Nat) : linkStrains k i 1 = [] := by
  have : (strainAt k i 0).any (· != 0) = false := by
    rw [Bool.eq_false_iff]
    intro h
    obtain ⟨x, hx, hne⟩ := List.any_eq_true.1 h
    obtain ⟨j, hj, rfl⟩ := List.getElem_of_mem hx
    simp [strainAt, sumRows] at hne
  rw [linkStrains_succ, this]
  simp [linkStrains]

set_option maxRecDepth 100000 in
set_option maxHeartbeats 4000000 in
theorem strains51_any (k : Wk) (v : Value) (w : World) (h : WalkAt w v k) (hk : RightWk k) :
    Calls Tryz.prog 29 #[v] w fun e w' => ∃ r, e = .returned r ∧ Ext w w' ∧ Strs w' r (strainsTo k k.links.length) := by
  have HWALK := Lib.hid h
  obtain ⟨vp, vc, vl, rfl, h1, h2, h3⟩ := h
  obtain ⟨W, hW, hE, hsz, b0, b1, b2⟩ := box_walk w vp vc vl 55
  obtain ⟨al, cl, rfl, hll, hml, -, -⟩ := inCell.open h3
  unfold maxLen at hml
  have HRK := Lib.hid hk
  have hpl := hk.primes
  have hlen1 : k.links.length ≤ 63 := by have := hk.len; have := hk.most; omega
  have hp0 := hk.prime
  have HROOTS := Lib.hid (roots51_any k _ W (WalkAt.ext HWALK.out hE) hk)
  clear h1 h2 hk
  go_enter Tryz.func29, Tryz.ntmps29
  go_wp2_with fail
  clear hW
  refine HROOTS.out.mono ?_
  rintro e w2 ⟨vr, rfl, hE2, hR⟩
  clear HROOTS
  obtain ⟨ar, cr, rfl, hr1, hr2, -, -⟩ := inCell.open hR
  have hrl : (rootsOf k k.links.length).length = k.links.length + 1 := by simp [rootsOf]
  have P3 := Lib.hid (h3.ext (hE.trans hE2))
  have PR := Lib.hid hR
  obtain ⟨q, hq⟩ : ∃ q, q = (rootsOf k k.links.length).length := ⟨_, rfl⟩
  have hq1 : q = k.links.length + 1 := by omega
  rw [← hq] at hr1 PR ⊢
  have HQ := Lib.hid hq
  have HQ1 := Lib.hid hq1
  unfold maxLen at hr2
  have b0 := hE2.cell b0; have b1 := hE2.cell b1; have b2 := hE2.cell b2
  have HEE := Lib.hid (hE.trans hE2)
  clear hR h3 hrl hq hE hE2 hsz hq1
  go_wp2_with fail
  go_loopw [3, 14] (fun out t wr => ∃ i : Nat, i ≤ k.links.length ∧ t = .int .i64 i ∧ Ext w2 wr ∧ Hid (Build wr w2.heap.size 82 3 out strainR (strainsTo k i))) (fun _ t _ => k.links.length - (intOf t).toNat)
  case atStart => exact ⟨0, Nat.zero_le _, rfl, Ext.refl _, Build.nil _ _ _ _ _⟩
  case round =>
    obtain ⟨i, hi, rfl, hEr, HB⟩ := hrel
    obtain ⟨wo, rfl⟩ : ∃ wo : World, wo = wr := ⟨_, rfl⟩
    by_cases hlt : i < k.links.length
    · obtain ⟨l, hll2⟩ : ∃ l, k.links[i]? = some l := ⟨k.links[i], List.getElem?_eq_getElem hlt⟩
      have hl0 : 0 < l.length := by have := HRK.out.some l (List.mem_of_getElem? hll2); cases l with | nil => exact absurd rfl this | cons => simp
      have hl12 := HRK.out.few l (List.mem_of_getElem? hll2)
      have HLG : Hid (k.links.getD i [] = l) := by unfold Hid; simp [List.getD, hll2]
      obtain ⟨-, -, -, hcells⟩ := inCell.cells P3.out
      obtain ⟨bl, offl, rfl, hbl, hcell⟩ := hcells (by intro e; simp [e] at hll2)
      obtain ⟨vl, hvl, hclw⟩ := hcell i l hll2
      have hcl := Ext.cell hEr hclw
      obtain ⟨al2, cl2, rfl, hlcl, hmcl, -, -⟩ := ListAt.open hvl
      obtain ⟨-, -, -, -, hcl2⟩ := Links.cells hvl
      obtain ⟨bl2, ol2, rfl, hbl2, kcl2⟩ := hcl2 (by intro e; simp [e] at hl0)
      unfold maxLen at hmcl
      obtain ⟨-, -, -, hrc⟩ := inCell.cells (HQ.out ▸ PR.out)
      obtain ⟨br, or_, rfl, hbr, hrc⟩ := hrc (by intro e; have := HQ.out; have e1 := HQ1.out; rw [e] at this; simp at this; omega)
      obtain ⟨v0, hv0, hc0⟩ := hrc i (rootAt k i) (rootsOf_get k _ i (by omega))
      obtain ⟨v1, hv1, hc1⟩ := hrc (i + 1) (rootAt k (i + 1)) (rootsOf_get k _ (i + 1) (by omega))
      have HL := Lib.hid hll2
      have KCL := Lib.hid kcl2
      have HV0 := Lib.hid hv0
      have HV1 := Lib.hid hv1
      have hok0 := rootAt_ok k HRK.out i (by have := HRK.out.len; omega)
      have hok1 := rootAt_ok k HRK.out (i + 1) (by have := HRK.out.len; omega)
      have HO0 := Lib.hid hok0
      have HO1 := Lib.hid hok1
      have HLZ := Lib.hid (leadRow_ok k HRK.out i 0 l hll2 hl0)
      clear hcells hcell hvl hclw hll2 hcl2 kcl2 hrc hv0 hv1 hok0 hok1
      go_wp2_with fail
      go_loopw [3, 7] (fun out t wq => ∃ j : Nat, 1 ≤ j ∧ j ≤ l.length ∧ t = .int .i64 j ∧ Ext w2 wq ∧ Hid (Build wq w2.heap.size 82 3 out strainR (strainsTo k i ++ linkStrains k i j))) (fun _ t _ => l.length - (intOf t).toNat)
      case atStart => exact ⟨1, Nat.le_refl _, hl0, rfl, hEr, by have := HB.out; simpa [Hid, strain_none] using this⟩
      case round =>
        obtain ⟨j, hj0, hj, rfl, hEq, HB⟩ := hrel
        obtain ⟨wq, rfl⟩ : ∃ wq : World, wq = wr := ⟨_, rfl⟩
        by_cases hjl : j < l.length
        · obtain ⟨y, hy⟩ : ∃ y, l[j]? = some y := ⟨l[j], List.getElem?_eq_getElem hjl⟩
          obtain ⟨hcf, hct⟩ := KCL.out j y hy
          have hok := leadRow_ok k HRK.out i j l HL.out hjl
          have hl1 : (accRow false (rootAt k i) (leadRow k i j)).length = k.primes.length := by rw [accRow_len _ _ _ (by rw [hok.1, HO0.out.1]), HO0.out.1]
          have hb1 : ∀ a ∈ accRow false (rootAt k i) (leadRow k i j), -1000000000 ≤ a ∧ a ≤ 1000000000 := by
            intro a ha
            obtain ⟨m, hm, rfl⟩ := List.getElem_of_mem ha
            simp only [accRow, List.length_zipWith] at hm
            simp only [accRow, List.getElem_zipWith, Bool.false_eq_true, if_false]
            have e1 := HO0.out.2 ((rootAt k i)[m]'(by omega)) (List.getElem_mem _)
            have e2 := hok.2 ((leadRow k i j)[m]'(by omega)) (List.getElem_mem _)
            omega
          have hsn : (strainAt k i j).length = k.primes.length := by simp [strainAt, sumRows, hok.1, HLZ.out.1]
          have hsb : ∀ x ∈ strainAt k i j, -4000000 ≤ x ∧ x ≤ 4000000 := fun x hx => by have := sumRows_bd2 _ _ 2000000 2000000 hok.2 HLZ.out.2 x hx; omega
          have HST := Lib.hid (strain_plain k i j (by rw [hok.1, HO0.out.1]) (by rw [HLZ.out.1, HO0.out.1]))
          have HLEAD := Lib.hid (fun W' (he : Ext w2 W') => lead51_any k _ v0 W' i j (WalkAt.ext HWALK.out (HEE.out.trans he)) HRK.out l HL.out y hy (Ints.ext HV0.out he))
          have HSUB := Lib.hid (fun r b W' (he : Ext w2 W') (hr : W'.ownsRow b 3 1 r k.primes.length ((accRow false (rootAt k i) (leadRow k i j)).map (Value.int .i64))) =>
            sub_any _ (rootAt k (i + 1)) r v1 W' (Ints.of_owns (by rw [hl1]; exact hr) (fun a ha => by have := hb1 a ha; omega)) (Ints.ext HV1.out he) (by rw [hl1, HO1.out.1]) (by omega) (fun a ha => by have := hb1 a ha; omega) (fun a ha => by have := HO1.out.2 a ha; omega))
          have HSN := Lib.hid hsn; have HSB := Lib.hid hsb
          have HL1 := Lib.hid hl1
          have d0 := hEq.cell b0; have d1 := hEq.cell b1; have d2 := hEq.cell b2
          have d3 := hEq.cell hc0; have d4 := hEq.cell hc1; have d5 := hEq.cell hcf; have d6 := hEq.cell hct
          have p1 : IntKind.i64.wrap ((i : Int) + 1) = (i : Int) + 1 := by rw [IntKind.wrap_i64]; omega
          have p2 : ((i : Int) + 1).toNat = i + 1 := by omega
          have p3 : 0 ≤ (i : Int) + 1 := by omega
          have p4 : (i : Int) + 1 < (q : Int) := by have := HQ1.out; omega
          have p5 : (i : Int) < (q : Int) := by have := HQ1.out; omega
          have p6 : (j : Int) < (l.length : Int) := by omega
          have hown := HB.out.lt
          clear hok hl1 hb1 hsn hsb hcf hct hy
          go_wp2_with fail
          have hEd : Ext w2 wq.drew := hEq.trans (Ext.drew wq)
          have hEdd : Ext wq wq.drew := Ext.drew wq
          have y0 := hEdd.cell d0; have y1 := hEdd.cell d1; have y2 := hEdd.cell d2; have y3 := hEdd.cell d3; have y4 := hEdd.cell d4; have y5 := hEdd.cell d5; have y6 := hEdd.cell d6
          go_region_held3 (fun w' => w'.cell? ⟨w.heap.size, 0, none⟩ = some vp ∧ w'.cell? ⟨w.heap.size, 1, none⟩ = some vc ∧ w'.cell? ⟨w.heap.size, 2, none⟩ = some (.slice (some ⟨bl, offl, none⟩) k.links.length cl) ∧ w'.cell? ⟨br, or_ + i, none⟩ = some v0 ∧ w'.cell? ⟨br, or_ + (i + 1), none⟩ = some v1 ∧ w'.cell? ⟨bl2, ol2 + j * 2, none⟩ = some (.int .i64 y.1) ∧ w'.cell? ⟨bl2, ol2 + j * 2 + 1, none⟩ = some (.int .i64 y.2))
            (first | exact ⟨z0, z1, z2, z3, z4, z5, z6⟩ | exact ⟨hE3.cell y0, hE3.cell y1, hE3.cell y2, hE3.cell y3, hE3.cell y4, hE3.cell y5, hE3.cell y6⟩ | go_keep)
            (first | (go_at_call 70; refine (HLEAD.out _ hEd).mono ?_; rintro e w3 ⟨r3, rfl, hE3, hr3⟩; obtain ⟨g3, cap3, rfl, -, -, -, -⟩ := owns_shape hr3 hp0) | (go_at_call 69; refine (HSUB.out _ _ _ (hEd.trans hE3) hr3).mono ?_; rintro e w4 ⟨r4, rfl, hE4, hr4⟩; have z0 := hE4.cell (hE3.cell y0); have z1 := hE4.cell (hE3.cell y1); have z2 := hE4.cell (hE3.cell y2); have z3 := hE4.cell (hE3.cell y3); have z4 := hE4.cell (hE3.cell y4); have z5 := hE4.cell (hE3.cell y5); have z6 := hE4.cell (hE3.cell y6)))
          rw [HST.out, HL1.out] at hr4
          have hIS := Ints.of_owns (xs := strainAt k i j) (by rw [HSN.out]; exact hr4) (by intro x hx; have := HSB.out x hx; omega)
          have hE14 : Ext wq w4 := hEdd.trans (hE3.trans hE4)
          have HBd := Lib.hid (Build.ext HB.out hE14)
          obtain ⟨g4, cap4, rfl, hg9, hg10, hg11, hg12⟩ := owns_shape hr4 hp0
          have hg13 : wq.heap.size ≤ g4 := Nat.le_trans (hEdd.trans hE3).size hg9
          have HO4 := Lib.hid hr4
          have HZ := Lib.hid (zero_any _ _ _ hIS)
          have HB0L := Lib.hid hown
          clear hown hr4 hr3 hIS HB z0 z1 z2 z3 z4 z5 z6 y0 y1 y2 y3 y4 y5 y6 d0 d1 d2 d3 d4 d5 d6 hE3 hE4 hEd
          go_wp2_with fail
          refine HZ.out.mono ?_
          rintro e w5 ⟨rfl, hE5⟩
          have hE15 : Ext wq w5 := hE14.trans hE5
          have HBe := Lib.hid (Build.ext HBd.out hE5)
          have hW5 : Ext w2 w5 := hEq.trans hE15
          have hszW : w2.heap.size ≤ w5.heap.size := hW5.size
          have HO5 := Lib.hid (owns_ext HO4.out hE5)
          clear HBd HZ hE14 HO4
          cases hbz : (strainAt k i j).any (· != 0) with
          | false =>
            have HNX : Hid (linkStrains k i (j + 1) = linkStrains k i j) := by unfold Hid; rw [linkStrains_succ, hbz]; simp
            clear hbz
            go_wp2_with fail
            go_roundw
            case rel => exact ⟨j + 1, by omega, by omega, by go_num, hW5, by rw [HNX.out]; exact HBe.out⟩
            case measure => simp [intOf]; omega
          | true =>
            have HNX : Hid (strainsTo k i ++ linkStrains k i (j + 1) = strainsTo k i ++ (linkStrains k i j ++ [(i, j, strainAt k i j)])) := by unfold Hid; rw [linkStrains_succ, hbz]; simp
            have HNL : Hid ((strainsTo k i ++ linkStrains k i j).length < 1000000) := by
              have h1 := strainsTo_len k HRK.out i
              have h2 := linkStrains_len k i j
              unfold Hid; rw [List.length_append]; omega
            have hne : Value.ownBlock u3 ≠ some g4 := by
              intro e
              have := (HB0L.out _ e).2
              omega
            have HR := Lib.hid (Safe.mono (Safe.owns (o := Value.ownBlock u3) HO5.out (.inr (fun e => hne e.symm))) (P' := fun w => strainR w [.int .i64 i, .int .i64 j, .slice (some ⟨g4, 0, none⟩) k.primes.length cap4] (i, j, strainAt k i j)) (fun w h => ⟨_, rfl, Ints.of_owns (by rw [HSN.out]; exact h) (by intro x hx; have := HSB.out x hx; omega)⟩))
            clear hbz hne
            go_wp2_with (at_builtin; go_must (refine wpList_append_build _ rfl _ _ 65 rfl w2.heap.size 82 (.agg #[.int .i64 0, .int .i64 0, .slice none 0 0]) 3 40 Tryz.underlying65 infoStrain rfl (by decide) u3 strainR _ (i, j, strainAt k i j) #[.int .i64 i, .int .i64 j, .slice (some ⟨g4, 0, none⟩) k.primes.length cap4] 82 rfl HBe.out rfl rfl ?e1 HR.out HNL.out ?e3 hszW ?_))
            case e1 => simp [Value.oneCell']
            case e3 => omega
            intro v' w6 hB6 hg6 hb6 hs6 hsafe
            rw [← HNX.out] at hB6
            have HB6 := Lib.hid hB6
            have HE6 := Lib.hid (Below.trans hW5 hb6)
            clear hB6 hg6 hb6 hsafe
            go_wp2_with fail
            go_roundw
            case rel => exact ⟨j + 1, by omega, by omega, by go_num, HE6.out, HB6.out⟩
            case measure => simp [intOf]; omega
        · obtain rfl : j = l.length := by omega
          go_wp2_with fail
          go_roundw
          case rel => exact ⟨i + 1, by omega, by go_num, hEq, by rw [strainsTo_succ, HLG.out]; exact HB.out⟩
          case measure => simp [intOf]; omega
    · obtain rfl : i = k.links.length := by omega
      go_wp2
      go_ret
      exact ⟨_, rfl, HEE.out.trans hEr, HB.out.list⟩
end Go.Proofs.YtjihfabhgcfjnaaGreatDoor
