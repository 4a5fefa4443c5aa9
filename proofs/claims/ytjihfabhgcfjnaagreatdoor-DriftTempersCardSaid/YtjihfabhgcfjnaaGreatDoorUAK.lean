/- Merged: DriftF. -/
import Derived.Test.YtjihfabhgcfjnaaGreatDoorUAJ
/- Contract of drift.strains, Strains. -/
namespace Go.Proofs.YtjihfabhgcfjnaaGreatDoor
set_option linter.unusedVariables false
set_option linter.unusedSimpArgs false
open Go.RowKit

theorem infoStrain : (Tryz.prog.info? 82).map (fun i => (i.zero, i.size, i.bytes)) = some (some (.agg #[.int .i64 0, .int .i64 0, .slice none 0 0]), 3, 40) := by kernel_rfl

/-- A strain: step, link, and by how much. -/
def strainR (w : World) (u : List Value) (x : Nat × Nat × List Int) : Prop := ∃ v, u = [.int .i64 x.1, .int .i64 x.2.1, v] ∧ Ints w v x.2.2
theorem strainR.mono : Mono strainR := fun _ _ _ _ he ⟨v, h1, h2⟩ => ⟨v, h1, h2.ext he⟩
abbrev Strs (w : World) (v : Value) (xs : List (Nat × Nat × List Int)) : Prop := ListAt 3 strainR w v xs

def strainAt (k : Wk) (i j : Nat) : List Int := sumRows (leadRow k i j) (leadRow k i 0)
def linkStrains (k : Wk) (i n : Nat) : List (Nat × Nat × List Int) := (List.range n).filterMap fun j => if (strainAt k i j).any (· != 0) then some (i, j, strainAt k i j) else none
def strainsTo (k : Wk) (n : Nat) : List (Nat × Nat × List Int) := (List.range n).flatMap fun i => linkStrains k i (k.links.getD i []).length

theorem linkStrains_succ (k : Wk) (i n : Nat) : linkStrains k i (n + 1) = linkStrains k i n ++ (if (strainAt k i n).any (· != 0) then [(i, n, strainAt k i n)] else []) := by
  simp only [linkStrains, List.range_succ, List.filterMap_append]
  congr 1
  simp only [List.filterMap_cons, List.filterMap_nil]
  split <;> split <;> simp_all
theorem strainsTo_succ (k : Wk) (n : Nat) : strainsTo k (n + 1) = strainsTo k n ++ linkStrains k n (k.links.getD n []).length := by
  simp [strainsTo, List.range_succ]
theorem linkStrains_len (k : Wk) (i n : Nat) : (linkStrains k i n).length ≤ n := by
  have := List.length_filterMap_le (fun j => if (strainAt k i j).any (· != 0) then some (i, j, strainAt k i j) else none) (List.range n)
  simpa [linkStrains] using this
theorem strainsTo_len (k : Wk) (h : RightWk k) : ∀ n, (strainsTo k n).length ≤ 12 * n
  | 0 => by simp [strainsTo]
  | n + 1 => by
    rw [strainsTo_succ, List.length_append]
    have h1 := strainsTo_len k h n
    have h2 := linkStrains_len k n (k.links.getD n []).length
    have h3 : (k.links.getD n []).length ≤ 12 := by
      by_cases hn : n < k.links.length
      · have : k.links.getD n [] ∈ k.links := by simp [List.getD, hn]
        exact h.few _ this
      · simp [List.getD, List.getElem?_eq_none (show k.links.length ≤ n by omega)]
    omega

set_option maxRecDepth 100000 in
set_option maxHeartbeats 4000000 in
theorem strains_any (k : Wk) (v : Value) (w : World) (h : WalkAt w v k) (hk : RightWk k) :
    Calls Tryz.prog 59 #[v] w fun e w' => ∃ r, e = .returned r ∧ Ext w w' ∧ Strs w' r (strainsTo k k.links.length) := by
  have HWALK := Lib.hid h
  obtain ⟨vp, vc, vl, rfl, h1, h2, h3⟩ := h
  obtain ⟨W, hW, hE, hsz, b0, b1, b2⟩ := box_walk w vp vc vl 55
  have P3 := Lib.hid (h3.ext hE)
  obtain ⟨al, cl, rfl, hll, hml, -, -⟩ := inCell.open h3
  unfold maxLen at hml
  have HRK := Lib.hid hk
  have hpl := hk.primes
  have hlen1 : k.links.length ≤ 63 := by have := hk.len; have := hk.most; omega
  have hp0 := hk.prime
  clear h1 h2 h3 hk
  go_enter Tryz.func59, Tryz.ntmps59
  go_wp2
  clear hW
  go_loopw [3, 12] (fun out t wr => ∃ i : Nat, i ≤ k.links.length ∧ t = .int .i64 i ∧ Below W.heap.size W wr ∧ Hid (Build wr W.heap.size 82 3 out strainR (strainsTo k i))) (fun _ t _ => k.links.length - (intOf t).toNat)
  case atStart => exact ⟨0, Nat.zero_le _, rfl, Below.refl _ _, Build.nil _ _ _ _ _⟩
  case round =>
    obtain ⟨i, hi, rfl, hEr, HB⟩ := hrel
    obtain ⟨wo, rfl⟩ : ∃ wo : World, wo = wr := ⟨_, rfl⟩
    have d0 := Ext.cell hEr b0; have d1 := Ext.cell hEr b1; have d2 := Ext.cell hEr b2
    by_cases hlt : i < k.links.length
    · obtain ⟨l, hll2⟩ : ∃ l, k.links[i]? = some l := ⟨k.links[i], List.getElem?_eq_getElem hlt⟩
      have hl0 : 0 < l.length := by have := HRK.out.some l (List.mem_of_getElem? hll2); cases l with | nil => exact absurd rfl this | cons => simp
      have hl12 := HRK.out.few l (List.mem_of_getElem? hll2)
      have HLG : Hid (k.links.getD i [] = l) := by unfold Hid; simp [List.getD, hll2]
      obtain ⟨-, -, -, hcells⟩ := inCell.cells P3.out
      obtain ⟨bl, offl, rfl, hbl, hcell⟩ := hcells (by intro e; simp [e] at hll2)
      obtain ⟨vl, hvl, hclw⟩ := hcell i l hll2
      have hcl := Ext.cell hEr hclw
      obtain ⟨al2, cl2, rfl, hlcl, hmcl, -, -⟩ := ListAt.open hvl
      unfold maxLen at hmcl
      have HL := Lib.hid hll2
      clear hcells hcell hvl hclw hll2
      have hEwo : Ext w wo := Ext.trans hE hEr
      have hlead0 : ∀ W', Ext wo W' → Calls Tryz.prog 111 #[.agg #[vp, vc, .slice (some ⟨bl, offl, none⟩) k.links.length cl], .int .i64 i, .int .i64 0] W' _ := fun W' he =>
        lead5_any k _ W' i 0 (WalkAt.ext HWALK.out (hEwo.trans he)) HRK.out.tame HRK.out.linked HRK.out.primes l HL.out hl0
      have HLEAD0 := Lib.hid hlead0
      clear hlead0
      go_wp2_with fail
      refine (HLEAD0.out _ (Ext.refl _)).mono ?_
      rintro e w2 ⟨r0, rfl, hE2, hown2⟩
      clear HLEAD0
      obtain ⟨g0, cap0, rfl, hg1, hg2, hg3, hg4⟩ := owns_shape hown2 hp0
      obtain ⟨hn0, hb0⟩ := leadRow_ok k HRK.out i 0 l HL.out hl0
      have HF := Lib.hid (Safe.mono (Safe.owns (o := Value.ownBlock u3) hown2 (.inr (by
        intro e
        have := (HB.out.lt g0 (e.symm.trans rfl)).2
        omega))) (fun w h => Ints.of_owns (xs := leadRow k i 0) (by rw [hn0]; exact h) (by intro x hx; have := hb0 x hx; omega)))
      have HN0 := Lib.hid hn0; have HB0 := Lib.hid hb0
      have hW2 : Below W.heap.size W w2 := Ext.trans hEr hE2
      have HB2 := Lib.hid (Build.ext HB.out hE2)
      clear hown2 hn0 hb0 HB hE2 hEwo d0 d1 d2
      go_wp2_with fail
      go_loopw [3, 22] (fun out t wq => ∃ j : Nat, j ≤ l.length ∧ t = .int .i64 j ∧ Below W.heap.size W wq ∧ Hid (Build wq W.heap.size 82 3 out strainR (strainsTo k i ++ linkStrains k i j)) ∧ Hid (Safe wq out.ownBlock fun w => Ints w (.slice (some ⟨g0, 0, none⟩) k.primes.length cap0) (leadRow k i 0))) (fun _ t _ => l.length - (intOf t).toNat)
      case atStart => exact ⟨0, Nat.zero_le _, rfl, hW2, by have := HB2.out; simpa [Hid, linkStrains] using this, HF.out⟩
      case round =>
        obtain ⟨j, hj, rfl, hEq, HB, HS⟩ := hrel
        obtain ⟨wq, rfl⟩ : ∃ wq : World, wq = wr := ⟨_, rfl⟩
        clear HB2 HF
        have HB0out : ∀ b, Value.ownBlock u3 = some b → W.heap.size ≤ b ∧ b < wq.heap.size := HB.out.lt
        have HB0L := Lib.hid HB0out
        clear HB0out
        have d0 := Ext.cell hEq b0; have d1 := Ext.cell hEq b1; have d2 := Ext.cell hEq b2
        by_cases hjl : j < l.length
        · have HLEAD := Lib.hid (fun W' he => lead5_any k _ W' i j (WalkAt.ext HWALK.out ((Ext.trans hE hEq).trans he)) HRK.out.tame HRK.out.linked HRK.out.primes l HL.out hjl)
          obtain ⟨hn1, hb1⟩ := leadRow_ok k HRK.out i j l HL.out hjl
          have HN1 := Lib.hid hn1; have HB1 := Lib.hid hb1
          clear hn1 hb1
          go_wp2_with fail
          refine (HLEAD.out _ (Ext.refl _)).mono ?_
          rintro e w3 ⟨r1, rfl, hE3, hown3⟩
          clear HLEAD
          obtain ⟨g1, cap1, rfl, hg5, hg6, hg7, hg8⟩ := owns_shape hown3 hp0
          have HI1 := Lib.hid (Ints.of_owns (xs := leadRow k i j) (by rw [HN1.out]; exact hown3) (by intro x hx; have := HB1.out x hx; omega))
          have HI0 := Lib.hid (Safe.now (Safe.ext HS.out hE3))
          clear hown3
          go_wp2_with fail
          have hr2 : Rows2 (w3.alloc (.cells #[.slice (some ⟨g1, 0, none⟩) k.primes.length cap1, .slice (some ⟨g0, 0, none⟩) k.primes.length cap0] 37)) (.slice (some ⟨w3.heap.size, 0, none⟩) 2 2) [leadRow k i j, leadRow k i 0] :=
            ListAt.lit (R := Ints) (fun _ _ _ _ he h => ListAt.ext intR.mono h he) w3 [.slice (some ⟨g1, 0, none⟩) k.primes.length cap1, .slice (some ⟨g0, 0, none⟩) k.primes.length cap0] [leadRow k i j, leadRow k i 0] 37 rfl (by simp [maxLen]) (by
              intro a u z hu hz
              match a with
              | 0 => simp at hu hz; subst hu; subst hz; exact HI1.out
              | 1 => simp at hu hz; subst hu; subst hz; exact HI0.out
              | a + 2 => simp at hu)
          refine (sum5_any _ _ _ _ hr2 (HN0.out.trans HN1.out.symm) (by rw [HN1.out]; omega) ?b1 ?b2).mono ?_
          case b1 => intro a ha; have := HB1.out a ha; omega
          case b2 => intro a ha; have := HB0.out a ha; omega
          rintro e w4 ⟨r, rfl, hE4, hown4⟩
          have hE34 : Ext w3 w4 := (Ext.alloc w3 _).trans hE4
          clear hr2 hE4
          rw [HN1.out] at hown4
          obtain ⟨g2, cap2, rfl, hg9, hg10, hg11, hg12⟩ := owns_shape hown4 hp0
          have hg13 : w3.heap.size ≤ g2 := by simp at hg9; omega
          have hsn : (strainAt k i j).length = k.primes.length := by simp [strainAt, sumRows, HN0.out, HN1.out]
          have hsb : ∀ x ∈ strainAt k i j, -4000000 ≤ x ∧ x ≤ 4000000 := fun x hx => by have := sumRows_bd2 _ _ 2000000 2000000 HB1.out HB0.out x hx; omega
          have hIS := Ints.of_owns (xs := strainAt k i j) (by rw [hsn]; exact hown4) (by intro x hx; have := hsb x hx; omega)
          have hE14 : Ext wq w4 := Ext.trans hE3 hE34
          have HBd := Lib.hid (Build.ext HB.out hE14)
          have HSd := Lib.hid (Safe.ext HS.out hE14)
          have HO4 := Lib.hid hown4
          have HSN := Lib.hid hsn; have HSB := Lib.hid hsb
          have HZ := Lib.hid (isZero5_any _ _ _ hIS)
          clear hown4 hsn hsb hIS HB HS HI0 HI1 HN1 HB1
          go_wp2_with fail
          refine HZ.out.mono ?_
          rintro e w5 ⟨rfl, hE5⟩
          have HBe := Lib.hid (Build.ext HBd.out hE5)
          have HSe := Lib.hid (Safe.ext HSd.out hE5)
          have hW5 : Below W.heap.size W w5 := Ext.trans (Ext.trans hEq hE14) hE5
          have hszW : W.heap.size ≤ w5.heap.size := hW5.size
          clear HBd HSd HZ
          cases hbz : (strainAt k i j).any (· != 0) with
          | false =>
            have HNX : Hid (linkStrains k i (j + 1) = linkStrains k i j) := by unfold Hid; rw [linkStrains_succ, hbz]; simp
            clear hbz
            go_wp2_with fail
            go_roundw
            case rel => exact ⟨j + 1, by omega, by go_num, hW5, by rw [HNX.out]; exact HBe.out, HSe.out⟩
            case measure => simp [intOf]; omega
          | true =>
            have HNX : Hid (strainsTo k i ++ linkStrains k i (j + 1) = strainsTo k i ++ (linkStrains k i j ++ [(i, j, strainAt k i j)])) := by unfold Hid; rw [linkStrains_succ, hbz]; simp
            have HNL : Hid ((strainsTo k i ++ linkStrains k i j).length < 1000000) := by
              have h1 := strainsTo_len k HRK.out i
              have h2 := linkStrains_len k i j
              unfold Hid; rw [List.length_append]; omega
            have hne : Value.ownBlock u3 ≠ some g2 := by
              intro e
              have := (HB0L.out _ e).2
              omega
            have HR := Lib.hid (Safe.mono (Safe.owns (o := Value.ownBlock u3) (owns_ext HO4.out hE5) (.inr (fun e => hne e.symm))) (P' := fun w => strainR w [.int .i64 i, .int .i64 j, .slice (some ⟨g2, 0, none⟩) k.primes.length cap2] (i, j, strainAt k i j)) (fun w h => ⟨_, rfl, Ints.of_owns (by rw [HSN.out]; exact h) (by intro x hx; have := HSB.out x hx; omega)⟩))
            clear hbz hne
            go_wp2_with (at_builtin; go_must (refine wpList_append_build _ rfl _ _ 65 rfl W.heap.size 82 (.agg #[.int .i64 0, .int .i64 0, .slice none 0 0]) 3 40 Tryz.underlying65 infoStrain rfl (by decide) u3 strainR _ (i, j, strainAt k i j) #[.int .i64 i, .int .i64 j, .slice (some ⟨g2, 0, none⟩) k.primes.length cap2] 82 rfl HBe.out rfl rfl ?e1 HR.out HNL.out ?e3 hszW ?_))
            case e1 => simp [Value.oneCell']
            case e3 => omega
            intro v' w6 hB6 hg6 hb6 hs6 hsafe
            rw [← HNX.out] at hB6
            have HB6 := Lib.hid hB6
            have HS6 := Lib.hid (hsafe _ HSe.out)
            have HE6 := Lib.hid (Below.trans hW5 hb6)
            clear hB6 hg6 hb6 hsafe
            go_wp2
            go_roundw
            case rel => exact ⟨j + 1, by omega, by go_num, HE6.out, HB6.out, HS6.out⟩
            case measure => simp [intOf]; omega
        · obtain rfl : j = l.length := by omega
          go_wp2_with fail
          go_roundw
          case rel => exact ⟨i + 1, by omega, by go_num, hEq, by rw [strainsTo_succ, HLG.out]; exact HB.out⟩
          case measure => simp [intOf]; omega
    · obtain rfl : i = k.links.length := by omega
      go_wp2
      go_ret
      exact ⟨_, rfl, Ext.trans hE hEr, HB.out.list⟩

def strE (p : List Int) : List (Nat × Nat × List Int) → Int
  | [] => 0
  | x :: l => if checkAllE p [x.2.2] = 0 then strE p l else checkAllE p [x.2.2]
def strainsE (k : Wk) : Int := if walkE k = 0 then strE k.primes (strainsTo k k.links.length) else walkE k

/-- Opening strains: the three cells of each. -/
theorem Strs.cells {w : World} {a : Option Addr} {n cap : Nat} {xs : List (Nat × Nat × List Int)} (h : Strs w (.slice a n cap) xs) :
    n = xs.length ∧ n ≤ cap ∧ cap ≤ maxLen ∧
      (xs ≠ [] → ∃ b off, a = some ⟨b, off, none⟩ ∧ b < w.heap.size ∧ ∀ (j : Nat) x, xs[j]? = some x → ∃ v, Ints w v x.2.2 ∧ w.cell? ⟨b, off + j * 3, none⟩ = some (.int .i64 x.1) ∧ w.cell? ⟨b, off + j * 3 + 1, none⟩ = some (.int .i64 x.2.1) ∧ w.cell? ⟨b, off + j * 3 + 2, none⟩ = some v) := by
  obtain ⟨a', cap', hv, h1, h2, h3, h4⟩ := ListAt.open h
  simp only [Value.slice.injEq] at hv
  obtain ⟨rfl, rfl, rfl⟩ := hv
  refine ⟨rfl, h1, h2, fun hx => ?_⟩
  obtain ⟨b, off, ha, hb, hc⟩ := h4 (by omega) hx
  refine ⟨b, off, ha, hb, fun j x hj => ?_⟩
  obtain ⟨u, _, ⟨v, rfl, hv⟩, hcell⟩ := hc j x hj
  have e0 := hcell 0 (by omega)
  have e1 := hcell 1 (by omega)
  have e2 := hcell 2 (by omega)
  exact ⟨v, hv, by simpa using e0, by rw [Nat.add_assoc]; simpa using e1, by rw [Nat.add_assoc]; simpa using e2⟩

theorem box_three (w : World) (x y z : Value) (T : TypeId) : ∃ W, (w.alloc (.cells #[x, y, z] T)) = W ∧ Ext w W ∧ w.heap.size < W.heap.size ∧ W.cell? ⟨w.heap.size, 0, none⟩ = some x ∧ W.cell? ⟨w.heap.size, 1, none⟩ = some y ∧ W.cell? ⟨w.heap.size, 2, none⟩ = some z :=
  ⟨_, rfl, Ext.alloc _ _, by simp, by simp, by simp, by simp⟩

set_option maxRecDepth 100000 in
set_option maxHeartbeats 1000000 in
theorem Strains_any (k : Wk) (v : Value) (w : World) (h : WalkAt w v k) :
    Calls Tryz.prog 19 #[v] w fun e w' => ∃ r, e = .returned (.tuple #[r, .int .i64 (strainsE k)]) ∧ Ext w w' ∧ (strainsE k = 0 → Strs w' r (strainsTo k k.links.length)) ∧ (¬ strainsE k = 0 → r = .slice none 0 0) := by
  have HWALK := Lib.hid h
  obtain ⟨vp, vc, vl, rfl, h1, h2, h3⟩ := h
  obtain ⟨W, hW, hE, hsz, b0, b1, b2⟩ := box_walk w vp vc vl 55
  have HP := Lib.hid h1
  have HCK := Lib.hid (check_any k _ W (HWALK.out.ext hE))
  clear h1 h2 h3
  by_cases hz : walkE k = 0
  · have HRK := Lib.hid (walkE_right hz)
    have HCR := Lib.hid (fun W' (he : Ext W W') => strains_any k _ W' (HWALK.out.ext (hE.trans he)) HRK.out)
    have HQ : Hid (strainsE k = strE k.primes (strainsTo k k.links.length)) := by unfold Hid strainsE; rw [if_pos hz]
    rw [hz] at HCK
    clear hz
    go_enter Tryz.func19, Tryz.ntmps19
    go_wp2_with fail
    clear hW
    refine HCK.out.mono ?_
    rintro e w1 ⟨rfl, hE1⟩
    have d0 := hE1.cell b0; have d1 := hE1.cell b1; have d2 := hE1.cell b2
    go_wp2_with fail
    refine (HCR.out _ hE1).mono ?_
    rintro e w2 ⟨r, rfl, hE2, hr⟩
    have e0 := hE2.cell d0
    have hsz2 : w.heap.size < w2.heap.size := Nat.lt_of_lt_of_le hsz (hE1.trans hE2).size
    obtain ⟨a, c, rfl, hlc, hmc, -, -⟩ := ListAt.open hr
    have hlen : (strainsTo k k.links.length).length ≤ 12 * k.links.length := strainsTo_len k HRK.out _
    have hl63 : k.links.length ≤ 63 := by have := HRK.out.len; have := HRK.out.most; omega
    have HR := Lib.hid hr
    have hEw2 : Ext w w2 := hE.trans (hE1.trans hE2)
    unfold maxLen at hmc
    clear hr d0 d1 d2 HCR HCK
    generalize hL : strainsTo k k.links.length = L at *
    have HLL := Lib.hid hL
    clear hL
    go_wp2_with fail
    go_loopw [18] (fun t wr => ∃ (pre rest : List (Nat × Nat × List Int)), t = .int .i64 pre.length ∧ Ext w2 wr ∧ Hid (L = pre ++ rest) ∧ Hid (strE k.primes rest = strE k.primes L)) (fun t _ => L.length - (intOf t).toNat)
    case atStart => exact ⟨[], L, rfl, Ext.refl _, rfl, rfl⟩
    case round =>
      obtain ⟨pre, rest, rfl, hEr, HPR, HO⟩ := hrel
      have hlen2 : L.length = pre.length + rest.length := by rw [HPR.out]; simp
      cases rest with
      | nil =>
        have hge : ¬ (pre.length < L.length) := by simp at hlen2; omega
        have HZ : Hid (strE k.primes L = 0) := HO.out.symm
        clear hlen2
        go_wp2_with fail
        go_ret2
        rw [HQ.out, HZ.out, HLL.out]
        exact ⟨.slice a L.length c, rfl, hEw2.trans hEr, fun _ => ListAt.ext strainR.mono HR.out hEr, fun h => absurd rfl h⟩
      | cons x rest =>
        have hlt : pre.length < L.length := by simp at hlen2; omega
        clear hlen2
        obtain ⟨-, -, -, hcells⟩ := Strs.cells HR.out
        obtain ⟨b, off, rfl, hb, hcell⟩ := hcells (by rw [HPR.out]; simp)
        obtain ⟨v, hv, c0, c1, c2⟩ := hcell pre.length x (by rw [HPR.out]; simp)
        obtain ⟨av, cv, rfl, -, -, -, -, -⟩ := hv.open
        have k0 := hEr.cell c0; have k1 := hEr.cell c1; have k2 := hEr.cell c2
        have f0 := hEr.cell e0
        have hszr : w.heap.size < wr.heap.size := Nat.lt_of_lt_of_le hsz2 hEr.size
        obtain ⟨W3, hW3, hE3, hsz3, q0, q1, q2⟩ := box_three wr (.int .i64 x.1) (.int .i64 x.2.1) (.slice av x.2.2.length cv) 82
        have f1 := hE3.cell f0
        have hIv : Ints W3 (.slice av x.2.2.length cv) x.2.2 := hv.ext (hEr.trans hE3)
        have HIV := Lib.hid hIv
        have hszw3 : w.heap.size < W3.heap.size := Nat.lt_trans hszr hsz3
        clear hcells hcell c0 c1 c2 hv hIv
        go_wp2_with fail
        clear hW3
        have HF := Lib.hid (fit_any k.primes vp _ _ _ (HP.out.ext (hEw2.trans (hEr.trans (hE3.trans (Ext.alloc W3 (.cells #[.slice av x.2.2.length cv] 37)))))) (ListAt.lit (R := Ints) (fun _ _ _ _ he h => ListAt.ext intR.mono h he) W3 [.slice av x.2.2.length cv] [x.2.2] 37 rfl (by simp [maxLen]) (by
          intro a u z hu hz
          match a with
          | 0 => simp at hu hz; subst hu; subst hz; exact HIV.out
          | a + 1 => simp at hu)))
        have ho := HO.out
        by_cases hc : checkAllE k.primes [x.2.2] = 0
        · rw [hc] at HF
          have HO' : Hid (strE k.primes rest = strE k.primes L) := by unfold Hid; rw [← ho, strE, if_pos hc]
          clear hc ho
          refine HF.out.mono ?_
          rintro e w4 ⟨rfl, rfl⟩
          clear HF
          go_wp2_with fail
          go_roundw
          case rel => exact ⟨pre ++ [x], rest, by simp, hEr.trans (hE3.trans (Ext.alloc _ _)), by unfold Hid; rw [HPR.out]; simp, HO'⟩
          case measure => simp [intOf]; omega
        · have hcb : (checkAllE k.primes [x.2.2] != 0) = true := by simp [hc]
          have HZ : Hid (strE k.primes L = checkAllE k.primes [x.2.2]) := by unfold Hid; rw [← ho, strE, if_neg hc]
          have HC := Lib.hid hc
          clear hc ho
          refine HF.out.mono ?_
          rintro e w4 ⟨rfl, rfl⟩
          clear HF
          go_wp2_with fail
          go_ret2
          rw [HQ.out, HZ.out]
          exact ⟨_, rfl, hEw2.trans (hEr.trans (hE3.trans (Ext.alloc _ _))), fun h => absurd h HC.out, fun _ => rfl⟩
  · have HQ : Hid (strainsE k = walkE k) := by unfold Hid strainsE; rw [if_neg hz]
    have hcb : (walkE k != 0) = true := by simp [hz]
    have HC := Lib.hid hz
    clear hz
    go_enter Tryz.func19, Tryz.ntmps19
    go_wp2_with fail
    clear hW
    refine HCK.out.mono ?_
    rintro e w1 ⟨rfl, hE1⟩
    go_wp2_with fail
    go_ret2
    rw [HQ.out]
    exact ⟨_, rfl, hE.trans hE1, fun h => absurd h HC.out, fun _ => rfl⟩

end Go.Proofs.YtjihfabhgcfjnaaGreatDoor
