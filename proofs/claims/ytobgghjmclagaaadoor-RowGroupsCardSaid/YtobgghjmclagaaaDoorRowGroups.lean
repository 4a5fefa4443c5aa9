/- The walk of RowGroups. Printed by wip/gen/groups.py. -/
import Derived.Test.YtobgghjmclagaaaDoorSmall
import Derived.Test.YtobgghjmclagaaaDoorRowAdds
import Derived.Test.YtobgghjmclagaaaDoorRowE
namespace Go.Proofs.YtobgghjmclagaaaDoor
set_option linter.unusedVariables false
set_option linter.unusedSimpArgs false
open Go.RowKit

theorem mul_bd2 (a b A B : Int) (h1 : -A ≤ a) (h2 : a ≤ A) (h3 : -B ≤ b) (h4 : b ≤ B) : -(A * B) ≤ a * b ∧ a * b ≤ A * B := by
  have e : (a * b).natAbs ≤ A.toNat * B.toNat := by rw [Int.natAbs_mul]; exact Nat.mul_le_mul (by omega) (by omega)
  have e2 : ((A.toNat * B.toNat : Nat) : Int) = A * B := by rw [Int.natCast_mul, Int.toNat_of_nonneg (by omega), Int.toNat_of_nonneg (by omega)]
  generalize a * b = p at *
  generalize A * B = q at *
  generalize A.toNat * B.toNat = r at *
  omega
theorem sumI_bd (A : Int) (hA : 0 ≤ A) : ∀ l : List Int, (∀ x ∈ l, -A ≤ x ∧ x ≤ A) → -(A * (l.length : Int)) ≤ sumI l ∧ sumI l ≤ A * (l.length : Int)
  | [], _ => by simp [sumI]
  | x :: l, h => by
    have ih := sumI_bd A hA l (fun y hy => h y (by simp [hy]))
    have hx := h x (by simp)
    have e : sumI (x :: l) = x + sumI l := rfl
    rw [e, List.length_cons]
    have e2 : A * ((l.length + 1 : Nat) : Int) = A * (l.length : Int) + A := by rw [Int.natCast_add, Int.mul_add]; simp
    rw [e2]
    omega
theorem zip_bnd (f : Int → Int → Int) (A B C : Int) (hf : ∀ a b, -A ≤ a → a ≤ A → -B ≤ b → b ≤ B → -C ≤ f a b ∧ f a b ≤ C) : ∀ (xs ys : List Int), (∀ x ∈ xs, -A ≤ x ∧ x ≤ A) → (∀ x ∈ ys, -B ≤ x ∧ x ≤ B) → ∀ x ∈ List.zipWith f xs ys, -C ≤ x ∧ x ≤ C
  | [], _, _, _ => by simp
  | _ :: _, [], _, _ => by simp
  | x :: xs, y :: ys, hx, hy => by
    intro z hz
    rw [List.zipWith_cons_cons] at hz
    rcases List.mem_cons.1 hz with rfl | hz
    · exact hf x y (hx x (by simp)).1 (hx x (by simp)).2 (hy y (by simp)).1 (hy y (by simp)).2
    · exact zip_bnd f A B C hf xs ys (fun a ha => hx a (by simp [ha])) (fun a ha => hy a (by simp [ha])) z hz
theorem dotS_comm (xs ys : List Int) : dotS xs ys = dotS ys xs := by
  unfold dotS
  rw [List.zipWith_comm]
  congr 1
  congr 1
  funext a b; exact Int.mul_comm _ _
theorem dotS_scale (k : Int) : ∀ xs ys : List Int, dotS (xs.map (k * ·)) ys = k * dotS xs ys
  | [], _ => by simp [dotS, sumI]
  | _ :: _, [] => by simp [dotS, sumI]
  | x :: xs, y :: ys => by
    have ih := dotS_scale k xs ys
    have e1 : dotS ((x :: xs).map (k * ·)) (y :: ys) = k * x * y + dotS (xs.map (k * ·)) ys := rfl
    have e2 : dotS (x :: xs) (y :: ys) = x * y + dotS xs ys := rfl
    rw [e1, e2, ih, Int.mul_add, Int.mul_assoc]
theorem zip_comm (xs ys : List Int) : List.zipWith (· + ·) ys xs = List.zipWith (· + ·) xs ys := by
  rw [List.zipWith_comm]; congr 1; funext a b; exact Int.add_comm _ _
theorem zip_neg : ∀ xs : List Int, List.zipWith (· + ·) xs (xs.map (- ·)) = List.replicate xs.length 0
  | [] => rfl
  | x :: xs => by
    rw [List.map_cons, List.zipWith_cons_cons, zip_neg xs, List.length_cons, List.replicate_succ]
    congr 1; omega
theorem zip_zero : ∀ xs : List Int, List.zipWith (· + ·) xs (List.replicate xs.length 0) = xs
  | [] => rfl
  | x :: xs => by
    rw [List.length_cons, List.replicate_succ, List.zipWith_cons_cons, zip_zero xs]
    congr 1; omega
theorem firstNeg_neg : ∀ xs : List Int, (∀ x ∈ xs, x = 0) ∨ firstNeg (xs.map (- ·)) = !firstNeg xs
  | [] => .inl (by simp)
  | x :: xs => by
    by_cases h : x = 0
    · subst h
      rcases firstNeg_neg xs with h2 | h2
      · exact .inl (by intro y hy; rcases List.mem_cons.1 hy with rfl | hy; rfl; exact h2 y hy)
      · refine .inr ?_
        have e1 : firstNeg ((0 : Int) :: xs) = firstNeg xs := by conv => { lhs; unfold firstNeg }; simp
        have e2 : firstNeg (((0 : Int) :: xs).map (- ·)) = firstNeg (xs.map (- ·)) := by rw [List.map_cons]; conv => { lhs; unfold firstNeg }; simp
        rw [e1, e2, h2]
    · refine .inr ?_
      rw [List.map_cons]
      unfold firstNeg
      by_cases h1 : x < 0
      · rw [if_neg (by omega), if_pos (by omega), if_pos h1]; rfl
      · rw [if_pos (by omega), if_neg h1, if_pos (by omega)]; rfl
theorem normS_neg (xs : List Int) : normS (xs.map (- ·)) = normS xs := by
  rcases firstNeg_neg xs with h | h
  · have e : xs.map (- ·) = xs := by
      conv => { rhs; rw [← List.map_id xs] }
      exact List.map_congr_left fun x hx => by rw [h x hx]; rfl
    rw [e]
  · unfold normS
    rw [h]
    cases firstNeg xs
    · simp [Function.comp_def]
    · simp
theorem bothE_ok {xs ys : List Int} (h : okRow xs) (k : okRow ys) (hl : ys.length = xs.length) : bothE xs ys = 0 := by
  unfold bothE; rw [if_pos ((rowE_zero xs).2 h), if_pos ((rowE_zero ys).2 k), if_pos hl.symm]
theorem ok_small {xs : List Int} (A : Int) (hA : A ≤ 1000000000) (h8 : xs.length ≤ 8) (h : ∀ x ∈ xs, -A ≤ x ∧ x ≤ A) : okRow xs := ⟨by omega, fun x hx => by have := h x hx; omega⟩
theorem opE_small {xs ys : List Int} (h8 : xs.length ≤ 8) (hl : ys.length = xs.length) (h : ∀ x ∈ xs, -128 ≤ x ∧ x ≤ 128) (k : ∀ x ∈ ys, -128 ≤ x ∧ x ≤ 128) : opE (· + ·) xs ys = 0 := by
  unfold opE
  rw [if_pos (bothE_ok (ok_small 128 (by omega) h8 h) (ok_small 128 (by omega) (by omega) k) hl)]
  exact (rowE_zero _).2 (ok_small 256 (by omega) (by rw [List.length_zipWith]; omega) (zip_bnd _ 128 128 256 (fun a b _ _ _ _ => by omega) xs ys h k))
theorem dotS_bd {xs ys : List Int} (h8 : xs.length ≤ 8) (h : ∀ x ∈ xs, -128 ≤ x ∧ x ≤ 128) (k : ∀ x ∈ ys, -128 ≤ x ∧ x ≤ 128) : -131072 ≤ dotS xs ys ∧ dotS xs ys ≤ 131072 := by
  have hb := sumI_bd 16384 (by omega) (List.zipWith (· * ·) xs ys) (zip_bnd (· * ·) 128 128 16384 (fun a b h1 h2 h3 h4 => mul_bd2 a b 128 128 h1 h2 h3 h4) xs ys h k)
  have hl : (List.zipWith (· * ·) xs ys).length ≤ 8 := by rw [List.length_zipWith]; omega
  unfold dotS
  omega
theorem dot_small {xs ys : List Int} (hb : bothE xs ys = 0) (hf : -1000000000 ≤ dotS xs ys ∧ dotS xs ys ≤ 1000000000) : dotE xs ys = 0 ∧ dotV xs ys = dotS xs ys := by
  unfold dotE dotV
  rw [if_pos hb, if_pos hb, if_pos ((fitB_iff _).2 hf), if_pos ((fitB_iff _).2 hf)]
  exact ⟨rfl, rfl⟩
theorem group_facts (xs bs : List Int) (k : Int) (hx : ∀ x ∈ xs, -128 ≤ x ∧ x ≤ 127) (hb : ∀ x ∈ bs, -128 ≤ x ∧ x ≤ 127) (h8 : xs.length ≤ 8) (hl : bs.length = xs.length) (hk : -128 ≤ k ∧ k ≤ 127) :
    (opE (· + ·) xs bs = 0 ∧ opE (· + ·) bs xs = 0 ∧ opE (· + ·) xs (xs.map (- ·)) = 0 ∧ opE (· + ·) xs (List.replicate xs.length 0) = 0) ∧ (scaleE (-1) xs = 0 ∧ scaleE k xs = 0) ∧
    (dotE xs bs = 0 ∧ dotE bs xs = 0 ∧ dotV bs xs = dotV xs bs ∧ dotE (xs.map (k * ·)) bs = 0 ∧ dotV (xs.map (k * ·)) bs = k * dotV xs bs) ∧ (rowE xs = 0 ∧ rowE (xs.map (- ·)) = 0) ∧ (-131072 ≤ dotV xs bs ∧ dotV xs bs ≤ 131072) := by
  have hx' : ∀ x ∈ xs, -128 ≤ x ∧ x ≤ 128 := fun x h => by have := hx x h; omega
  have hb' : ∀ x ∈ bs, -128 ≤ x ∧ x ≤ 128 := fun x h => by have := hb x h; omega
  have hn' : ∀ x ∈ xs.map (- ·), -128 ≤ x ∧ x ≤ 128 := fun x h => by obtain ⟨y, hy, rfl⟩ := List.mem_map.1 h; have := hx y hy; omega
  have hz' : ∀ x ∈ List.replicate xs.length (0 : Int), -128 ≤ x ∧ x ≤ 128 := fun x h => by rw [List.eq_of_mem_replicate h]; omega
  have hs' : ∀ x ∈ xs.map (k * ·), -16384 ≤ x ∧ x ≤ 16384 := fun x h => by
    obtain ⟨y, hy, rfl⟩ := List.mem_map.1 h
    have := hx' y hy
    have := mul_bd2 k y 128 128 (by omega) (by omega) this.1 this.2
    omega
  have ox := ok_small 128 (by omega) h8 hx'
  have ob := ok_small 128 (by omega) (by omega) hb'
  have os := ok_small 16384 (by omega) (by simpa using h8) hs'
  have on := ok_small 128 (by omega) (by simpa using h8) hn'
  have d0 := dotS_bd (ys := bs) h8 hx' hb'
  obtain ⟨e1, v1⟩ := dot_small (bothE_ok ox ob hl) (by omega)
  obtain ⟨e2, v2⟩ := dot_small (bothE_ok ob ox hl.symm) (by rw [dotS_comm]; omega)
  have d1 := mul_bd2 k (dotS xs bs) 128 131072 (by omega) (by omega) d0.1 d0.2
  obtain ⟨e3, v3⟩ := dot_small (xs := xs.map (k * ·)) (bothE_ok os ob (by simpa using hl)) (by rw [dotS_scale]; omega)
  refine ⟨⟨opE_small h8 hl hx' hb', opE_small (by omega) hl.symm hb' hx', opE_small h8 (by simp) hx' hn', opE_small h8 (by simp) hx' hz'⟩, ⟨neg_ok ox, ?_⟩, ⟨e1, e2, by rw [v1, v2, dotS_comm], e3, by rw [v1, v3, dotS_scale]⟩, ⟨(rowE_zero _).2 ox, (rowE_zero _).2 on⟩, by rw [v1]; exact d0⟩
  unfold scaleE
  rw [if_pos ((rowE_zero _).2 ox), if_pos ((fitB_iff k).2 (by omega))]
  exact (rowE_zero _).2 os
theorem fitL_bd {rs : List Int} {n : Nat} (h : ∀ x ∈ rs, -128 ≤ x ∧ x ≤ 127) : ∀ x ∈ fitL rs n, -128 ≤ x ∧ x ≤ 127 := by
  intro x hx
  obtain ⟨i, _, rfl⟩ := List.mem_map.1 hx
  cases hi : rs[i]? with
  | none => simp
  | some y => simpa using h y (List.mem_of_getElem? hi)

set_option maxRecDepth 100000 in
set_option maxHeartbeats 8000000 in
theorem groups_walk (xs ys : List Int) (k : Int) (u v : Value) (w : World) (h : I8s w u xs) (hy : I8s w v ys) (hk : -128 ≤ k ∧ k ≤ 127) (ht : Pow10 w) :
    Calls Tryd.prog 9 #[u, v, .int .i8 k] w fun e w' => e = .returned (.bool true) ∧ Ext w w' := by
  have HX := Lib.hid h; have HY := Lib.hid hy; have HT := Lib.hid ht
  obtain ⟨a, c, rfl, -, -, -, hbx, -⟩ := h.open
  obtain ⟨a', c', rfl, -, -, -, hby, -⟩ := hy.open
  clear h hy ht
  by_cases hl : 8 < xs.length ∨ 8 < ys.length
  · have hcase : (8 : Int) < (xs.length : Int) ∨ (¬ (8 : Int) < (xs.length : Int) ∧ (8 : Int) < (ys.length : Int)) := by omega
    clear hl hbx hby
    rcases hcase with q1 | ⟨q1, q2⟩
    all_goals
      go_enter Tryd.func9, Tryd.ntmps9
      go_wp2_with fail
      refine (known_any _ HT.out).mono ?_
      rintro e w1 ⟨rfl, hE1⟩
      have HE1 := Lib.hid hE1
      have HT1 := Lib.hid (HT.out.ext hE1)
      clear hE1
      go_wp2_with fail
      refine (known_any _ HT1.out).mono ?_
      rintro e w2 ⟨rfl, hE2⟩
      have HE2 := Lib.hid (Ext.trans HE1.out hE2)
      clear hE2
      go_wp2_with fail
      go_ret
      exact ⟨rfl, HE2.out⟩
  · have q1 : ¬ (8 : Int) < (xs.length : Int) := by omega
    have q2 : ¬ (8 : Int) < (ys.length : Int) := by omega
    have hx8 : xs.length ≤ 8 := by omega
    have hy8 : ys.length ≤ 8 := by omega
    have HX8 := Lib.hid hx8; have HY8 := Lib.hid hy8
    obtain ⟨⟨o1, o2, o3, o4⟩, ⟨s1, s2⟩, ⟨d1, d2, d3, d4, d5⟩, ⟨r1, r2⟩, hdb⟩ := group_facts xs (fitL ys xs.length) k hbx (fitL_bd hby) hx8 (fitL_len _ _) hk
    have HO1 := Lib.hid o1; have HO2 := Lib.hid o2; have HO3 := Lib.hid o3; have HO4 := Lib.hid o4; have HS1 := Lib.hid s1; have HS2 := Lib.hid s2
    have HD1 := Lib.hid d1; have HD2 := Lib.hid d2; have HD3 := Lib.hid d3; have HD4 := Lib.hid d4; have HD5 := Lib.hid d5; have HR1 := Lib.hid r1; have HR2 := Lib.hid r2
    obtain ⟨bs, hbs⟩ : ∃ bs, fitL ys xs.length = bs := ⟨_, rfl⟩
    rw [hbs] at HO1 HO2 HD1 HD2 HD3 HD4 HD5 hdb
    obtain ⟨dv, hdv⟩ : ∃ dv, dotV xs bs = dv := ⟨_, rfl⟩
    rw [hdv] at HD3 HD5 hdb
    have HDV := Lib.hid hdv
    have HBS := Lib.hid hbs
    have HC := Lib.hid (zip_comm xs bs)
    have HNG := Lib.hid (zip_neg xs)
    have HZR := Lib.hid (zip_zero xs)
    have HNM := Lib.hid (normS_neg xs)
    have HBD : Hid (∀ x ∈ List.replicate xs.length (0 : Int), -9223372036854775808 ≤ x ∧ x ≤ 9223372036854775807) := by intro x hx; rw [List.eq_of_mem_replicate hx]; omega
    have qk : IntKind.i64.wrap k = k := by rw [IntKind.wrap_i64]; omega
    have qd : IntKind.i64.wrap (k * dv) = k * dv := by
      have := mul_bd2 k dv 128 131072 (by omega) (by omega) hdb.1 hdb.2
      rw [IntKind.wrap_i64]; omega
    clear hl hbx hby o1 o2 o3 o4 s1 s2 d1 d2 d3 d4 d5 r1 r2 hdb hdv hbs hx8 hy8
    go_enter Tryd.func9, Tryd.ntmps9
    go_wp2_with fail
    refine (known_any _ HT.out).mono ?_
    rintro e w1 ⟨rfl, hE⟩
    have HE := Lib.hid hE
    have B1 := Lib.hid (makeS_any xs _ w1 (HX.out.ext HE.out) HX8.out)
    clear hE
    go_wp2_with fail
    refine B1.out.mono ?_
    rintro e w2 ⟨ra, rfl, hE, hI⟩
    replace HE := Lib.hid (Ext.trans HE.out hE)
    clear hE; obtain ⟨aa, ca, rfl, -, -, -, -, -⟩ := hI.open; have hE := Ext.refl w2
    have IA := Lib.hid hI
    clear B1
    have B2 := Lib.hid (makeS_any ys _ w2 (HY.out.ext HE.out) HY8.out)
    clear hE
    go_wp2_with fail
    refine B2.out.mono ?_
    rintro e w3 ⟨rq, rfl, hE, hI⟩
    replace HE := Lib.hid (Ext.trans HE.out hE)
    replace IA := Lib.hid (IA.out.ext hE)
    have IQ := Lib.hid hI
    clear B2
    have B3 := Lib.hid (fit_any ys xs _ _ w3 IQ.out IA.out HX8.out)
    rw [HBS.out] at B3
    clear hE
    go_wp2_with fail
    refine B3.out.mono ?_
    rintro e w4 ⟨rb, rfl, hE, hI⟩
    replace HE := Lib.hid (Ext.trans HE.out hE)
    replace IA := Lib.hid (IA.out.ext hE)
    replace IQ := Lib.hid (IQ.out.ext hE)
    have IB := Lib.hid hI
    clear B3
    have B4 := Lib.hid (zero_any xs.length w4 (by have := HX8.out; omega))
    clear hE
    go_wp2_with fail
    refine B4.out.mono ?_
    rintro e w5 ⟨rfl, hE, hO⟩
    replace HE := Lib.hid (Ext.trans HE.out hE)
    replace IA := Lib.hid (IA.out.ext hE)
    replace IQ := Lib.hid (IQ.out.ext hE)
    replace IB := Lib.hid (IB.out.ext hE)
    have IZ := Lib.hid (OwnAt.ints hO (by simp) HBD.out)
    clear B4
    have B5 := Lib.hid (neg_any xs _ w5 IA.out)
    rw [HS1.out, neg_map] at B5
    clear hE
    go_wp2_with fail
    refine B5.out.mono ?_
    rintro e w6 ⟨rn, rfl, hE, hr0, -⟩
    replace HE := Lib.hid (Ext.trans HE.out hE)
    replace IA := Lib.hid (IA.out.ext hE)
    replace IQ := Lib.hid (IQ.out.ext hE)
    replace IB := Lib.hid (IB.out.ext hE)
    replace IZ := Lib.hid (IZ.out.ext hE)
    have IN := Lib.hid (hr0 (by first | rfl | trivial))
    clear B5
    have B6 := Lib.hid (add_any xs bs _ _ w6 IA.out IB.out)
    rw [HO1.out] at B6
    clear hE
    go_wp2_with fail
    refine B6.out.mono ?_
    rintro e w7 ⟨rx, rfl, hE, hr0, -⟩
    replace HE := Lib.hid (Ext.trans HE.out hE)
    replace IA := Lib.hid (IA.out.ext hE)
    replace IQ := Lib.hid (IQ.out.ext hE)
    replace IB := Lib.hid (IB.out.ext hE)
    replace IZ := Lib.hid (IZ.out.ext hE)
    replace IN := Lib.hid (IN.out.ext hE)
    have IX := Lib.hid (hr0 (by first | rfl | trivial))
    clear B6
    have B7 := Lib.hid (add_any bs xs _ _ w7 IB.out IA.out)
    rw [HO2.out, HC.out] at B7
    clear hE
    go_wp2_with fail
    refine B7.out.mono ?_
    rintro e w8 ⟨ry, rfl, hE, hr0, -⟩
    replace HE := Lib.hid (Ext.trans HE.out hE)
    replace IA := Lib.hid (IA.out.ext hE)
    replace IQ := Lib.hid (IQ.out.ext hE)
    replace IB := Lib.hid (IB.out.ext hE)
    replace IZ := Lib.hid (IZ.out.ext hE)
    replace IN := Lib.hid (IN.out.ext hE)
    replace IX := Lib.hid (IX.out.ext hE)
    have IY := Lib.hid (hr0 (by first | rfl | trivial))
    clear B7
    have B8 := Lib.hid (add_any xs (xs.map (- ·)) _ _ w8 IA.out IN.out)
    rw [HO3.out, HNG.out] at B8
    clear hE
    go_wp2_with fail
    refine B8.out.mono ?_
    rintro e w9 ⟨ro, rfl, hE, hr0, -⟩
    replace HE := Lib.hid (Ext.trans HE.out hE)
    replace IA := Lib.hid (IA.out.ext hE)
    replace IQ := Lib.hid (IQ.out.ext hE)
    replace IB := Lib.hid (IB.out.ext hE)
    replace IZ := Lib.hid (IZ.out.ext hE)
    replace IN := Lib.hid (IN.out.ext hE)
    replace IX := Lib.hid (IX.out.ext hE)
    replace IY := Lib.hid (IY.out.ext hE)
    have IO := Lib.hid (hr0 (by first | rfl | trivial))
    clear B8
    have B9 := Lib.hid (add_any xs (List.replicate xs.length 0) _ _ w9 IA.out IZ.out)
    rw [HO4.out, HZR.out] at B9
    clear hE
    go_wp2_with fail
    refine B9.out.mono ?_
    rintro e w10 ⟨rz, rfl, hE, hr0, -⟩
    replace HE := Lib.hid (Ext.trans HE.out hE)
    replace IA := Lib.hid (IA.out.ext hE)
    replace IQ := Lib.hid (IQ.out.ext hE)
    replace IB := Lib.hid (IB.out.ext hE)
    replace IZ := Lib.hid (IZ.out.ext hE)
    replace IN := Lib.hid (IN.out.ext hE)
    replace IX := Lib.hid (IX.out.ext hE)
    replace IY := Lib.hid (IY.out.ext hE)
    replace IO := Lib.hid (IO.out.ext hE)
    have IV := Lib.hid (hr0 (by first | rfl | trivial))
    clear B9
    have B10 := Lib.hid (rowEqual_any _ _ _ _ w10 IX.out IY.out)
    rw [beq_self_eq_true] at B10
    clear hE
    go_wp2_with fail
    refine B10.out.mono ?_
    rintro e w11 ⟨rfl, hE⟩
    replace HE := Lib.hid (Ext.trans HE.out hE)
    replace IA := Lib.hid (IA.out.ext hE)
    replace IQ := Lib.hid (IQ.out.ext hE)
    replace IB := Lib.hid (IB.out.ext hE)
    replace IZ := Lib.hid (IZ.out.ext hE)
    replace IN := Lib.hid (IN.out.ext hE)
    replace IX := Lib.hid (IX.out.ext hE)
    replace IY := Lib.hid (IY.out.ext hE)
    replace IO := Lib.hid (IO.out.ext hE)
    replace IV := Lib.hid (IV.out.ext hE)
    clear B10
    have B11 := Lib.hid (rowEqual_any _ _ _ _ w11 IO.out IZ.out)
    rw [beq_self_eq_true] at B11
    clear hE
    go_wp2_with fail
    refine B11.out.mono ?_
    rintro e w12 ⟨rfl, hE⟩
    replace HE := Lib.hid (Ext.trans HE.out hE)
    replace IA := Lib.hid (IA.out.ext hE)
    replace IQ := Lib.hid (IQ.out.ext hE)
    replace IB := Lib.hid (IB.out.ext hE)
    replace IZ := Lib.hid (IZ.out.ext hE)
    replace IN := Lib.hid (IN.out.ext hE)
    replace IX := Lib.hid (IX.out.ext hE)
    replace IY := Lib.hid (IY.out.ext hE)
    replace IO := Lib.hid (IO.out.ext hE)
    replace IV := Lib.hid (IV.out.ext hE)
    clear B11
    have B12 := Lib.hid (rowEqual_any _ _ _ _ w12 IV.out IA.out)
    rw [beq_self_eq_true] at B12
    clear hE
    go_wp2_with fail
    refine B12.out.mono ?_
    rintro e w13 ⟨rfl, hE⟩
    replace HE := Lib.hid (Ext.trans HE.out hE)
    replace IA := Lib.hid (IA.out.ext hE)
    replace IQ := Lib.hid (IQ.out.ext hE)
    replace IB := Lib.hid (IB.out.ext hE)
    replace IZ := Lib.hid (IZ.out.ext hE)
    replace IN := Lib.hid (IN.out.ext hE)
    replace IX := Lib.hid (IX.out.ext hE)
    replace IY := Lib.hid (IY.out.ext hE)
    replace IO := Lib.hid (IO.out.ext hE)
    replace IV := Lib.hid (IV.out.ext hE)
    clear B12
    have B13 := Lib.hid (dot_any xs bs _ _ w13 IA.out IB.out)
    rw [HD1.out, HDV.out] at B13
    clear hE
    go_wp2_with fail
    refine B13.out.mono ?_
    rintro e w14 ⟨rfl, hE⟩
    replace HE := Lib.hid (Ext.trans HE.out hE)
    replace IA := Lib.hid (IA.out.ext hE)
    replace IQ := Lib.hid (IQ.out.ext hE)
    replace IB := Lib.hid (IB.out.ext hE)
    replace IZ := Lib.hid (IZ.out.ext hE)
    replace IN := Lib.hid (IN.out.ext hE)
    replace IX := Lib.hid (IX.out.ext hE)
    replace IY := Lib.hid (IY.out.ext hE)
    replace IO := Lib.hid (IO.out.ext hE)
    replace IV := Lib.hid (IV.out.ext hE)
    clear B13
    have B14 := Lib.hid (dot_any bs xs _ _ w14 IB.out IA.out)
    rw [HD2.out, HD3.out] at B14
    clear hE
    go_wp2_with fail
    refine B14.out.mono ?_
    rintro e w15 ⟨rfl, hE⟩
    replace HE := Lib.hid (Ext.trans HE.out hE)
    replace IA := Lib.hid (IA.out.ext hE)
    replace IQ := Lib.hid (IQ.out.ext hE)
    replace IB := Lib.hid (IB.out.ext hE)
    replace IZ := Lib.hid (IZ.out.ext hE)
    replace IN := Lib.hid (IN.out.ext hE)
    replace IX := Lib.hid (IX.out.ext hE)
    replace IY := Lib.hid (IY.out.ext hE)
    replace IO := Lib.hid (IO.out.ext hE)
    replace IV := Lib.hid (IV.out.ext hE)
    clear B14
    have B15 := Lib.hid (scale_any xs k _ w15 IA.out)
    rw [HS2.out] at B15
    clear hE
    go_wp2_with fail
    refine B15.out.mono ?_
    rintro e w16 ⟨rt, rfl, hE, hr0, -⟩
    replace HE := Lib.hid (Ext.trans HE.out hE)
    replace IA := Lib.hid (IA.out.ext hE)
    replace IQ := Lib.hid (IQ.out.ext hE)
    replace IB := Lib.hid (IB.out.ext hE)
    replace IZ := Lib.hid (IZ.out.ext hE)
    replace IN := Lib.hid (IN.out.ext hE)
    replace IX := Lib.hid (IX.out.ext hE)
    replace IY := Lib.hid (IY.out.ext hE)
    replace IO := Lib.hid (IO.out.ext hE)
    replace IV := Lib.hid (IV.out.ext hE)
    have IT := Lib.hid (hr0 (by first | rfl | trivial))
    clear B15
    have B16 := Lib.hid (dot_any (xs.map (k * ·)) bs _ _ w16 IT.out IB.out)
    rw [HD4.out, HD5.out] at B16
    clear hE
    go_wp2_with fail
    refine B16.out.mono ?_
    rintro e w17 ⟨rfl, hE⟩
    replace HE := Lib.hid (Ext.trans HE.out hE)
    replace IA := Lib.hid (IA.out.ext hE)
    replace IQ := Lib.hid (IQ.out.ext hE)
    replace IB := Lib.hid (IB.out.ext hE)
    replace IZ := Lib.hid (IZ.out.ext hE)
    replace IN := Lib.hid (IN.out.ext hE)
    replace IX := Lib.hid (IX.out.ext hE)
    replace IY := Lib.hid (IY.out.ext hE)
    replace IO := Lib.hid (IO.out.ext hE)
    replace IV := Lib.hid (IV.out.ext hE)
    replace IT := Lib.hid (IT.out.ext hE)
    clear B16
    have B17 := Lib.hid (normal_any xs _ w17 IA.out)
    rw [HR1.out] at B17
    clear hE
    go_wp2_with fail
    refine B17.out.mono ?_
    rintro e w18 ⟨r1, rfl, hE, hr0, -⟩
    replace HE := Lib.hid (Ext.trans HE.out hE)
    replace IA := Lib.hid (IA.out.ext hE)
    replace IQ := Lib.hid (IQ.out.ext hE)
    replace IB := Lib.hid (IB.out.ext hE)
    replace IZ := Lib.hid (IZ.out.ext hE)
    replace IN := Lib.hid (IN.out.ext hE)
    replace IX := Lib.hid (IX.out.ext hE)
    replace IY := Lib.hid (IY.out.ext hE)
    replace IO := Lib.hid (IO.out.ext hE)
    replace IV := Lib.hid (IV.out.ext hE)
    replace IT := Lib.hid (IT.out.ext hE)
    have I1 := Lib.hid (hr0 (by first | rfl | trivial))
    clear B17
    have B18 := Lib.hid (normal_any (xs.map (- ·)) _ w18 IN.out)
    rw [HR2.out, HNM.out] at B18
    clear hE
    go_wp2_with fail
    refine B18.out.mono ?_
    rintro e w19 ⟨r2, rfl, hE, hr0, -⟩
    replace HE := Lib.hid (Ext.trans HE.out hE)
    replace IA := Lib.hid (IA.out.ext hE)
    replace IQ := Lib.hid (IQ.out.ext hE)
    replace IB := Lib.hid (IB.out.ext hE)
    replace IZ := Lib.hid (IZ.out.ext hE)
    replace IN := Lib.hid (IN.out.ext hE)
    replace IX := Lib.hid (IX.out.ext hE)
    replace IY := Lib.hid (IY.out.ext hE)
    replace IO := Lib.hid (IO.out.ext hE)
    replace IV := Lib.hid (IV.out.ext hE)
    replace IT := Lib.hid (IT.out.ext hE)
    replace I1 := Lib.hid (I1.out.ext hE)
    have I2 := Lib.hid (hr0 (by first | rfl | trivial))
    clear B18
    have B19 := Lib.hid (rowEqual_any _ _ _ _ w19 I1.out I2.out)
    rw [beq_self_eq_true] at B19
    clear hE
    go_wp2_with fail
    refine B19.out.mono ?_
    rintro e w20 ⟨rfl, hE⟩
    replace HE := Lib.hid (Ext.trans HE.out hE)
    replace IA := Lib.hid (IA.out.ext hE)
    replace IQ := Lib.hid (IQ.out.ext hE)
    replace IB := Lib.hid (IB.out.ext hE)
    replace IZ := Lib.hid (IZ.out.ext hE)
    replace IN := Lib.hid (IN.out.ext hE)
    replace IX := Lib.hid (IX.out.ext hE)
    replace IY := Lib.hid (IY.out.ext hE)
    replace IO := Lib.hid (IO.out.ext hE)
    replace IV := Lib.hid (IV.out.ext hE)
    replace IT := Lib.hid (IT.out.ext hE)
    replace I1 := Lib.hid (I1.out.ext hE)
    replace I2 := Lib.hid (I2.out.ext hE)
    clear B19
    clear hE
    go_wp2_with fail
    go_ret
    exact ⟨rfl, HE.out⟩
end Go.Proofs.YtobgghjmclagaaaDoor
