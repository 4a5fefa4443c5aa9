/- A copy by append(api.Row{}, r...); the reference's Scale and Normal; row.Normal. -/
import Derived.Test.YtobgghjmclagaaaDoorRefC
import Derived.Test.YtobgghjmclagaaaDoorRefComb
import Derived.Test.YtobgghjmclagaaaDoorRowChecks
import Derived.Laws.AppendOwnNone
namespace Go.Proofs.YtobgghjmclagaaaDoor
set_option linter.unusedVariables false
set_option linter.unusedSimpArgs false
open Go.RowKit

/-- 'append(api.Row{}, r...)': a copy. -/
theorem wpList_append_copy {ops : Array Oper} {rest : List Oper} {o : Oper} {a : Act} {Q : Exit → Act → World → Prop} (hgd : o.guard = none) (s x : Operand)
    (ho : o.op = .call { callee := .builtin .append, args := #[s, x], argTypes := #[23, 23] })
    (w : World) (xs : List Int) (v : Value) (h : Ints w v xs) (hlen : xs.length ≤ 1000000) (hs : a.eval s = .slice (some ⟨w.heap.size, 0, none⟩) 0 0) (hx : a.eval x = v)
    (hK : ∀ v' w', Ints w' v' xs → Ext w w' → wpList Tryd.prog ops Q rest (a.put o.dst v') w') : wpList Tryd.prog ops Q (o :: rest) a (w.alloc (.cells #[] 3)) := by
  obtain ⟨ad, c, rfl, h1, h2, h3, hb, hc⟩ := h.open
  obtain ⟨i0, hi, hz0, hz1, hz2⟩ := info_parts infoInt
  have hown : (w.alloc (.cells #[] 3)).ownsRow w.heap.size 3 1 (.slice (some ⟨w.heap.size, 0, none⟩) 0 0) 0 [] := World.ownsRow_made w #[] 0 (Nat.le_refl _) (Nat.zero_le _) rfl
  cases ad with
  | none =>
    have h0 : xs = [] := by have := h3 rfl; exact List.eq_nil_of_length_eq_zero (by omega)
    subst h0
    obtain rfl : c = 0 := h3 rfl
    exact wpList_append_own_none hgd s x 23 ho w.heap.size 3 i0 1 Tryd.underlying23 hi _ 0 [] hs hown hx (hK _ _ (Ints.of_owns (xs := []) hown (by simp)) (Ext.alloc _ _))
  | some ad =>
    have hnews : ∀ (j : Nat) (u : Value), (xs.map (Value.int .i64))[j]? = some u → (w.alloc (.cells #[] 3)).cell? (ad.add j) = some u := by
      intro j u hu
      rw [List.getElem?_map] at hu
      cases hj : xs[j]? with
      | none => simp [hj] at hu
      | some x =>
        simp [hj] at hu; subst hu
        obtain ⟨b, off, hab, hbw, hcell⟩ := hc (by intro e; simp [e] at hj)
        cases hab
        have := hcell j x hj
        rw [show (⟨b, off, none⟩ : Addr).add j = ⟨b, off + j, none⟩ by unfold Addr.add; split <;> simp_all]
        exact Ext.cell (Ext.alloc w _) this
    refine wpList_append_own _ hgd s x 23 ho w.heap.size 3 i0 (.int .i64 0) 1 8 Tryd.underlying23 hi hz0 hz1 hz2 rfl (by decide) _ _ _ hs hown ad xs.length c (xs.map (Value.int .i64)) hx (by simp) hnews (ints_oneCell _ _) (by unfold maxLen; omega) (by omega) (by simp) ?_
    intro v' w' hown' hgrow _
    refine hK v' w' (Ints.of_owns (by simpa using hown') hb) (Below.grown (Ext.alloc w _) hgrow (by simp) (by intro k hk; simp [Value.ownBlock] at hk; omega))

theorem combS_one (xs : List Int) (k : Int) : combS xs.length [xs] [k] = xs.map (k * ·) := by
  unfold combS colL
  apply List.ext_getElem
  · simp
  · intro i h1 h2
    have hi : i < xs.length := by simpa using h2
    simp [sumI, hi, Int.mul_comm]

def rscOk (xs : List Int) (k : Int) : Bool := if xs.any (· != 0) then (fitB k && (xs.map (k * ·)).all fitB) else true

set_option maxRecDepth 100000 in
set_option maxHeartbeats 2000000 in
theorem refScale_any (xs : List Int) (k : Int) (v : Value) (w : World) (h : Ints w v xs) (hok : okRow xs) :
    Calls Tryd.prog 24 #[v, .int .i64 k] w fun e w' => ∃ r, e = .returned (.tuple #[r, .bool (rscOk xs k)]) ∧ Ext w w' ∧ (rscOk xs k = true → Ints w' r (xs.map (k * ·))) ∧ (rscOk xs k = false → r = .slice none 0 0) := by
  have HX := Lib.hid h
  have HZ := Lib.hid (refIsZero_any xs v w h)
  obtain ⟨a, c, rfl, h1, h2, -, -, -⟩ := h.open
  have HOK := Lib.hid hok
  have h64 := HOK.out.1
  obtain ⟨ok, hk⟩ : ∃ ok, rscOk xs k = ok := ⟨_, rfl⟩
  have HQ := Lib.hid hk
  rw [hk]
  clear h hok hk
  unfold maxLen at h2
  cases hz : xs.any (· != 0) with
  | false =>
    obtain rfl : ok = true := by rw [← HQ.out]; unfold rscOk; rw [hz]; rfl
    have HM : Hid (xs.map (k * ·) = xs) := by
      unfold Hid
      apply List.ext_getElem
      · simp
      · intro i h1 h2
        have hx : xs[i]'h2 = 0 := by
          have := List.any_eq_false.1 hz (xs[i]'h2) (List.getElem_mem _)
          simpa using this
        simp [hx]
    rw [HM.out]
    rw [hz] at HZ
    clear hz HQ HM
    go_enter Tryd.func24, Tryd.ntmps24
    go_wp2_with fail
    refine HZ.out.mono ?_
    rintro e w' ⟨rfl, rfl⟩
    clear HZ
    go_wp2_with (at_builtin; go_must (refine wpList_append_copy rfl _ _ rfl w xs _ HX.out (by omega) rfl rfl ?_))
    intro v' w2 hI hE
    have HI := Lib.hid hI; have HE := Lib.hid hE
    clear hI hE
    go_wp2_with fail
    go_ret2
    first | exact ⟨_, rfl, HE.out, (fun _ => HI.out), (by simp)⟩ | exact ⟨_, rfl, HE.out, HI.out⟩
  | true =>
    rw [hz] at HZ
    cases hf : fitB k with
    | false =>
      obtain rfl : ok = false := by rw [← HQ.out]; unfold rscOk; rw [hz, hf]; rfl
      have hcase : 1000000000 < k ∨ (¬ 1000000000 < k ∧ k < -1000000000) := by
        have : ¬ (-1000000000 ≤ k ∧ k ≤ 1000000000) := fun e => by rw [(fitB_iff k).2 e] at hf; cases hf
        omega
      clear hz hf HQ
      rcases hcase with p1 | ⟨p1, p2⟩
      all_goals
        go_enter Tryd.func24, Tryd.ntmps24
        go_wp2_with fail
        refine HZ.out.mono ?_
        rintro e w' ⟨rfl, rfl⟩
        clear HZ
        go_wp2_with fail
        go_ret2
        first | exact ⟨rfl, Ext.refl _⟩ | exact ⟨_, rfl, Ext.refl _, (by simp), fun _ => rfl⟩
    | true =>
      obtain ⟨p1, p2⟩ := (fitB_iff k).1 hf
      have p3 : ¬ 1000000000 < k := by omega
      have p4 : ¬ k < -1000000000 := by omega
      have HO : Hid (combOk xs.length [xs] [k] = ok) := by
        unfold Hid combOk
        rw [combS_one, ← HQ.out]; unfold rscOk; rw [hz, hf]; simp
      have HL := Lib.hid (combS_one xs k)
      have HCB := Lib.hid (fun (w1 : World) T (he : Ext w w1) => refCombine_any [xs] [k] xs.length _ _ _
        ((rows_lit1 (HX.out.ext he) T).ext (Ext.alloc _ (.cells #[.int .i64 k] 3)))
        (Ints.litAt (n := w1.heap.size + 1) (by simp) [k] 3 1 rfl (by simp [maxLen]) (by intro x hx; simp at hx; omega) #[.int .i64 k] rfl) (by simp) (by intro r hr; simp at hr; subst hr; exact ⟨rfl, HOK.out.2⟩) (by intro x hx; simp at hx; omega) rfl (by simp) h64)
      rw [HO.out, HL.out] at HCB
      clear hz hf HQ HO HL p1 p2
      go_enter Tryd.func24, Tryd.ntmps24
      go_wp2_with fail
      refine HZ.out.mono ?_
      rintro e w' ⟨rfl, rfl⟩
      clear HZ
      go_wp2_with fail
      refine (HCB.out w _ (Ext.refl _)).mono ?_
      rintro e w3 ⟨r, rfl, hE3, hr0, hr1⟩
      have HR := Lib.hid (And.intro hr0 hr1)
      have HE3 := Lib.hid (Ext.trans (Ext.trans (Ext.alloc _ _) (Ext.alloc _ _)) hE3)
      clear hr0 hr1 hE3 HCB
      go_wp2_with fail
      go_ret2
      exact ⟨_, rfl, HE3.out, HR.out.1, HR.out.2⟩

def firstNeg : List Int → Bool
  | [] => false
  | x :: l => if x < 0 then true else if 0 < x then false else firstNeg l
def normS (xs : List Int) : List Int := if firstNeg xs then xs.map (- ·) else xs

set_option maxRecDepth 100000 in
set_option maxHeartbeats 2000000 in
theorem refNormal_any (xs : List Int) (v : Value) (w : World) (h : Ints w v xs) (hok : okRow xs) :
    Calls Tryd.prog 22 #[v] w fun e w' => ∃ r, e = .returned r ∧ Ext w w' ∧ Ints w' r (normS xs) := by
  have HX := Lib.hid h
  have HNG := Lib.hid (refNeg_any xs v w h hok)
  obtain ⟨a, c, rfl, h1, h2, -, -, hc⟩ := h.open
  have HC := Lib.hid hc
  have h64 := hok.1
  clear h hc hok
  unfold maxLen at h2
  go_enter Tryd.func22, Tryd.ntmps22
  go_wp2_with fail
  go_loopw [3] (fun t wr => ∃ j : Nat, j ≤ xs.length ∧ t = .int .i64 j ∧ wr = w ∧ Hid (firstNeg (xs.drop j) = firstNeg xs)) (fun t _ => xs.length - (intOf t).toNat)
  case atStart => exact ⟨0, by omega, rfl, rfl, by unfold Hid; rw [List.drop_zero]⟩
  case round =>
    obtain ⟨j, hj, rfl, rfl, HR⟩ := hrel
    by_cases hlt : j < xs.length
    · obtain ⟨b, off, rfl, hb, hcell⟩ := HC.out (by intro e; simp [e] at hlt)
      obtain ⟨x, hx⟩ : ∃ x, xs[j]? = some x := ⟨xs[j], List.getElem?_eq_getElem hlt⟩
      have g1 := hcell j x hx
      have hd := drop_cons hx
      have hr := HR.out
      rw [hd] at hr
      clear hcell hx hd HR
      by_cases hx0 : x < 0
      · have HQ : Hid (normS xs = xs.map (- ·)) := by
          unfold Hid normS; rw [← hr]; unfold firstNeg; rw [if_pos hx0]; rfl
        clear hr
        go_wp2_with fail
        refine HNG.out.mono ?_
        rintro e w2 ⟨r, rfl, hE, hI⟩
        have HE := Lib.hid hE; have HI := Lib.hid hI
        clear hE hI HNG
        go_wp2_with fail
        go_ret
        exact ⟨_, rfl, HE.out, by rw [HQ.out]; exact HI.out⟩
      · by_cases hx1 : 0 < x
        · have HQ : Hid (normS xs = xs) := by
            unfold Hid normS; rw [← hr]; unfold firstNeg; rw [if_neg hx0, if_pos hx1]; rfl
          clear hr HNG
          go_wp2_with (at_builtin; go_must (refine wpList_append_copy rfl _ _ rfl _ xs _ HX.out (by omega) rfl rfl ?_))
          intro v' w2 hI hE
          have HI := Lib.hid hI; have HE := Lib.hid hE
          clear hI hE
          go_wp2_with fail
          go_ret
          exact ⟨_, rfl, HE.out, by rw [HQ.out]; exact HI.out⟩
        · have HR2 : Hid (firstNeg (xs.drop (j + 1)) = firstNeg xs) := by
            unfold Hid; rw [← hr]; conv => { rhs; unfold firstNeg }; rw [if_neg hx0, if_neg hx1]
          clear hr
          go_wp2_with fail
          go_roundw
          case rel => exact ⟨j + 1, by omega, by go_num, (by first | rfl | exact True.intro), HR2.out⟩
          case measure => simp [intOf]; omega
    · obtain rfl : j = xs.length := by omega
      have HQ : Hid (normS xs = xs) := by
        have := HR.out
        rw [List.drop_length] at this
        unfold Hid normS; rw [← this]; rfl
      clear HR HNG
      go_wp2_with (at_builtin; go_must (refine wpList_append_copy rfl _ _ rfl _ xs _ HX.out (by omega) rfl rfl ?_))
      intro v' w2 hI hE
      have HI := Lib.hid hI; have HE := Lib.hid hE
      clear hI hE
      go_wp2_with fail
      go_ret
      exact ⟨_, rfl, HE.out, by rw [HQ.out]; exact HI.out⟩
end Go.Proofs.YtobgghjmclagaaaDoor
