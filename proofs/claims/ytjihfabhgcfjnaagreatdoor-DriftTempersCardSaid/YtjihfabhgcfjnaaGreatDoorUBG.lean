/- Merged: RegV, TmpF, TmpG, SlBig, TmpH. -/
import Derived.Test.YtjihfabhgcfjnaaGreatDoorUBF
import Derived.Test.YtjihfabhgcfjnaaGreatDoorUAA
import Derived.Test.YtjihfabhgcfjnaaGreatDoorProg
/- Long regions that draw their order and only read, in an order of one's choice; the operations' array is a variable. -/
namespace Go.Proofs.YtjihfabhgcfjnaaGreatDoor
set_option linter.unusedVariables false
open Go.RowKit
section
variable {P : Program} {ops O : Array Oper} {Q : Exit → Act → World → Prop} {md : Region.Mode} {S : World → Prop} {z n : Nat}
theorem region_anyEV (S : World → Prop) (z : Nat) (n : Nat) {id : Nat} {a : Act} {w : World} (hm : P.follows .mixedOrders = true) (hn : O.size = n) (hS : S w.drew)
    (h : ∀ ops, Hid (ops = O) → S w.drew → anyE P .any ops Q S z n (Array.replicate n false) a w.drew) : (Code.region id O true).wp P Q a w :=
  region_anyE S z hm hS (fun hh => by have := h O rfl hh; rw [hn]; exact this)
theorem anyE_takeWV (hO : Hid (ops = O)) (i : Nat) {oi : Oper} {v : Value} {f : Nat} {l : Array Bool} {a : Act} {w : World} (hi : ops[i]? = some oi)
    (hs : Region.noSelect O = true) (hf : Region.free md O l i = true) (hr : (Region.ready md O l).contains i = true) (hz : decide (i ≠ z) = true)
    (hQ : ∀ c a w, Q (.panic c) (a.put oi.dst v) w → Q (.panic c) a w) (hy : Yields P O oi v a) (hS : S w)
    (h : anyE P md ops Q S z f (l.setIfInBounds i true) (a.put oi.dst v) w) : anyE P md ops Q S z (f + 1) l a w := by
  have hO : ops = O := hO
  subst hO
  exact anyE_takeW i hi hs hf hr (of_decide_eq_true hz) hQ hy hS h
theorem anyE_takeV (hO : Hid (ops = O)) (i : Nat) {oi : Oper} {v : Value} {f : Nat} {l : Array Bool} {a : Act} {w : World} (hi : ops[i]? = some oi)
    (hs : Region.noSelect O = true) (hf : Region.free md O l i = true) (hr : (Region.ready md O l).contains i = true) (hz : decide (l.size ≤ z) = true)
    (hQ : ∀ c a w, Q (.panic c) (a.put oi.dst v) w → Q (.panic c) a w) (hy : YieldsIf P O S oi v a) (hS : S w)
    (h : anyE P md ops Q S z f (l.setIfInBounds i true) (a.put oi.dst v) w) : anyE P md ops Q S z (f + 1) l a w := by
  have hO : ops = O := hO
  subst hO
  exact anyE_takeN i hi hs hf hr (of_decide_eq_true hz) hQ hy hS h
theorem anyE_stepV (hO : Hid (ops = O)) (i : Nat) {o : Oper} {f : Nat} {l : Array Bool} {a : Act} {w : World} (hr : Region.ready md O l = [i]) (ho : ops[i]? = some o)
    (h : ∀ K : Act → World → Prop, Shut (∀ b u, S u → (S u → anyE P md ops Q S z f (l.setIfInBounds i true) b u) → K b u) → if Region.wanted o (yielded O a.tmps) = true then Oper.wp P o a w K Q else K (a.put o.dst undef) w) : anyE P md ops Q S z (f + 1) l a w := by
  have hO : ops = O := hO
  subst hO
  exact anyE_step i hr ho h
theorem anyE_lastV (hO : Hid (ops = O)) (i : Nat) {o : Oper} {f : Nat} {l : Array Bool} {a : Act} {w : World} (hr : Region.ready md O l = [i]) (hr2 : Region.ready md O (l.setIfInBounds i true) = []) (ho : ops[i]? = some o)
    (h : ∀ K : Act → World → Prop, Shut (∀ b u, S u → Q .normal b u → K b u) → if Region.wanted o (yielded O a.tmps) = true then Oper.wp P o a w K Q else K (a.put o.dst undef) w) : anyE P md ops Q S z (f + 1) l a w := by
  have hO : ops = O := hO
  subst hO
  exact anyE_lastN i hr hr2 ho h
end
end Go.Proofs.YtjihfabhgcfjnaaGreatDoor
/- Contract of package temperament: temper. Its region is printed by gen/tmpf.py. -/
namespace Go.Proofs.YtjihfabhgcfjnaaGreatDoor
set_option linter.unusedVariables false
set_option linter.unusedSimpArgs false
open Go.RowKit

/-- The tempered interval. -/
def temL (M : List (List Int)) (x : List Int) (n : Nat) : List Int := M.map fun r => dotZ x r n
theorem dotZ_bound {N : Nat} {x r : List Int} (hx : RowLe N x) (hr : RowLe N r) : ∀ k, (dotZ x r k).natAbs ≤ k * (N * N)
  | 0 => by unfold dotZ; simp
  | k + 1 => by
    unfold dotZ
    have h1 := dotZ_bound hx hr k
    have h2 : (x.getD k 0 * r.getD k 0).natAbs ≤ N * N := by rw [Int.natAbs_mul]; exact Nat.mul_le_mul (hx.getD k) (hr.getD k)
    rw [Nat.add_mul]; omega
theorem intB_nought : intB 0 = ⟨#[48]⟩ := by unfold intB Lib.itoa; rw [if_neg (by omega), show (0 : Int).toNat = 0 from rfl, Lib.decDigits_one (by omega)]; rfl
theorem intB_small {n : Int} {k : Nat} (h : n.natAbs < 10 ^ k) (hk : 1 ≤ k) (hk2 : k ≤ 1000) : (intB n).size ≤ 2000 := by
  have h1 := intB_size_le n
  have h2 := numB_size_le n.natAbs k h hk
  omega

set_option maxRecDepth 100000 in
set_option maxHeartbeats 8000000 in
theorem temper_any (n : Nat) (P : List Int) (C M : List (List Int)) (x : List Int) (v vx : Value) (w : World) (hV : TempV w v P C M) (hx : Ints w vx x) (hxl : x.length = n) (hMl : ∀ r ∈ M, r.length = n) (hn : n ≤ 100) (hMn : M.length ≤ 1000)
    (hxb : RowLe 1000000000 x) (hMb : ∀ r ∈ M, RowLe 1000000000 r) (ht : Pow10 w) :
    Calls Tryz.prog 67 #[v, vx] w fun e w' => ∃ a c, e = .returned (.slice a M.length c) ∧ w'.ownsRow w.heap.size 125 1 (.slice a M.length c) M.length (bigV (temL M x n)) ∧ Ext w w' := by
  obtain ⟨vp, vc, vm, rfl, hvp, hvc, hvm⟩ := hV
  obtain ⟨ap, cp, rfl, -⟩ := hvp.open
  obtain ⟨ac, cc, rfl, -⟩ := inCell.open hvc
  obtain ⟨am, cm, rfl, m1, m2, -, mc⟩ := inCell.open hvm
  have HMC := Lib.hid mc; have HML := Lib.hid hMl; have HMB := Lib.hid hMb; have HXB := Lib.hid hxb; have HT := Lib.hid ht; have HXI := Lib.hid hx
  obtain ⟨ax, cx, rfl, x1, x2, -, -, xc⟩ := hx.open
  have HXC := Lib.hid xc
  have HXL := Lib.hid hxl
  rw [hxl]
  unfold maxLen at m2 x2
  clear hvp hvc hvm mc hx xc hMl hMb hxb ht hxl x1
  go_enter Tryz.func67, Tryz.ntmps67
  obtain ⟨W1, hW1, hE1, hs1, hb1⟩ := tp_new w (.slice ap P.length cp) (.slice ac C.length cc) (.slice am M.length cm)
  have HB1 := Lib.hid hb1; have HE1 := Lib.hid hE1
  obtain ⟨b0, b1, b2, -⟩ := tp_block hb1
  clear hE1 hs1 hb1
  go_wp2_with fail
  clear b0 b1 b2
  go_loopw [5, 14] (fun so t wr => ∃ j : Nat, j ≤ M.length ∧ t = .int .i64 j ∧ Hid (Ext w wr) ∧ Hid (∃ a c, so = .slice a j c) ∧ Hid (Build wr w.heap.size 125 1 so bigC ((temL M x n).take j))) (fun _ t _ => M.length - (intOf t).toNat)
  case atStart => exact ⟨0, by omega, rfl, HE1.out, ⟨none, 0, rfl⟩, Build.nil _ _ _ _ _⟩
  case round =>
    obtain ⟨j, hj, rfl, HE, HSL, HBu⟩ := hrel
    obtain ⟨wo, rfl⟩ : ∃ wo : World, wo = wr := ⟨_, rfl⟩
    by_cases hlt : j < M.length
    · obtain ⟨bm, om, rfl, hbm, hcell⟩ := HMC.out (by intro e; simp [e] at hlt)
      obtain ⟨r, hr⟩ : ∃ r, M[j]? = some r := ⟨M[j], List.getElem?_eq_getElem hlt⟩
      obtain ⟨vr, hvr, hcr⟩ := hcell j r hr
      have g1 := HE.out.cell hcr
      have hrl := HML.out r (List.mem_of_getElem? hr)
      have HRB := Lib.hid (HMB.out r (List.mem_of_getElem? hr))
      obtain ⟨ar, cr, rfl, r1, r2, -, -, rc⟩ := (hvr.ext HE.out).open
      have HRC := Lib.hid rc
      have HRL := Lib.hid hrl
      have HN : Hid ((temL M x n).take (j + 1) = (temL M x n).take j ++ [dotZ x r n]) := by unfold Hid temL; rw [List.take_add_one, List.getElem?_map, hr]; rfl
      have HJ : Hid (((temL M x n).take j).length < 1000000) := by unfold Hid; rw [List.length_take]; omega
      have HJL : Hid (((temL M x n).take j).length = j) := by unfold Hid temL; rw [List.length_take, List.length_map]; omega
      have HDB : Hid (∀ k, k ≤ n → (intB (dotZ x r k)).size ≤ 2000) := fun k hk => intB_small (k := 30) (Nat.lt_of_le_of_lt (dotZ_bound HXB.out HRB.out k) (by
        have : k * (1000000000 * 1000000000) ≤ 100 * (1000000000 * 1000000000) := Nat.mul_le_mul_right _ (by omega)
        exact Nat.lt_of_le_of_lt this (by decide))) (by decide) (by decide)
      rw [hrl] at g1
      unfold maxLen at r2
      clear hcell hvr hcr hr rc hrl r1
      go_wp2_with fail
      go_loopw [8, 20] (fun ss t wr => ∃ k : Nat, k ≤ n ∧ t = .int .i64 k ∧ ss = .string (intB (dotZ x r k)) ∧ Hid (Ext wo wr)) (fun _ t _ => n - (intOf t).toNat)
      case atStart => exact ⟨0, by omega, rfl, by show _ = Value.string (intB 0); rw [intB_nought], Ext.refl _⟩
      case round =>
        obtain ⟨k, hk, rfl, rfl, HK⟩ := hrel
        obtain ⟨w3, rfl⟩ : ∃ w3 : World, w3 = wr := ⟨_, rfl⟩
        by_cases hkn : k < n
        · obtain ⟨bx, ox, rfl, hbx, xcell⟩ := HXC.out (by intro e; have := HXL.out; rw [e] at this; simp at this; omega)
          obtain ⟨br, orr, rfl, hbr, rcell⟩ := HRC.out (by intro e; have := HRL.out; rw [e] at this; simp at this; omega)
          obtain ⟨y, hy⟩ : ∃ y, x[k]? = some y := ⟨x[k]'(by rw [HXL.out]; exact hkn), List.getElem?_eq_getElem _⟩
          obtain ⟨z, hz⟩ : ∃ z, r[k]? = some z := ⟨r[k]'(by rw [HRL.out]; exact hkn), List.getElem?_eq_getElem _⟩
          have gx := (HE.out.trans HK.out).cell (xcell k y hy)
          have gr := HK.out.cell (rcell k z hz)
          have hyb := HXB.out y (List.mem_of_getElem? hy); have hzb := HRB.out z (List.mem_of_getElem? hz)
          have HD : Hid (dotZ x r (k + 1) = dotZ x r k + y * z) := by
            show dotZ x r k + x.getD k 0 * r.getD k 0 = _
            rw [List.getD_eq_getElem?_getD, List.getD_eq_getElem?_getD, hy, hz]; rfl
          have HOY := Lib.hid (fun W (hW : Ext w3 W) => of_any y W (by omega) (by omega) (HT.out.ext (HE.out.trans (HK.out.trans hW))))
          have HOZ := Lib.hid (fun W (hW : Ext w3 W) => of_any z W (by omega) (by omega) (HT.out.ext (HE.out.trans (HK.out.trans hW))))
          have hyz : (y * z).natAbs ≤ 1000000000 * 1000000000 := by rw [Int.natAbs_mul]; exact Nat.mul_le_mul hyb hzb
          have HMU := Lib.hid (fun W (hW : Ext w3 W) => mulI_any y z W (Nat.le_trans (intB_small (k := 10) (Nat.lt_of_le_of_lt hyb (by decide)) (by decide) (by decide)) (by decide)) (Nat.le_trans (intB_small (k := 10) (Nat.lt_of_le_of_lt hzb (by decide)) (by decide) (by decide)) (by decide)) (HT.out.ext (HE.out.trans (HK.out.trans hW))))
          have HAD := Lib.hid (fun W (hW : Ext w3 W) => addI_any (dotZ x r k) (y * z) W (Nat.le_trans (HDB.out k hk) (by decide)) (Nat.le_trans (intB_small (k := 19) (Nat.lt_of_le_of_lt hyz (by decide)) (by decide) (by decide)) (by decide)) (HT.out.ext (HE.out.trans (HK.out.trans hW))))
          rw [← HD.out] at HAD
          clear xcell rcell hy hz hyb hzb hyz
          go_upto_region 9 with fail
          --<R9
          refine region_anyEV (fun w' => w'.cell? ⟨br, orr + k, none⟩ = some (.int .i64 z) ∧ Hid (Ext w3 w')) 11 11 (by kernel_rfl) (by kernel_rfl) ⟨(Ext.drew w3).cell gr, Ext.drew w3⟩ (fun ops hO hHeld => ?_)
          generalize w3.drew = wd at hHeld ⊢
          have hi := getopN hO 0 (by decide)
          conv at hi => rhs; arg 1; whnf
          refine anyE_takeWV hO (v := ?_) 0 hi (by kernel_rfl) (by kernel_rfl) (by kernel_rfl) (by kernel_rfl) (fun _ _ _ h => h) (Or.inl ⟨by rfl, ?_⟩) (by assumption) ?_
          rotate_left
          · ((intro w'); (try go_simp); (try with_reducible rfl))
          clear hi
          (try simp only [Act.put, List.setIfInBounds_toArray, List.set_cons_zero, List.set_cons_succ])
          have hi := getopN hO 1 (by decide)
          conv at hi => rhs; arg 1; whnf
          refine anyE_takeWV hO (v := ?_) 1 hi (by kernel_rfl) (by kernel_rfl) (by kernel_rfl) (by kernel_rfl) (fun _ _ _ h => h) (Or.inl ⟨by rfl, ?_⟩) (by assumption) ?_
          rotate_left
          · ((intro w'); (try go_simp); (try with_reducible rfl))
          clear hi
          (try simp only [Act.put, List.setIfInBounds_toArray, List.set_cons_zero, List.set_cons_succ])
          have hi := getopN hO 3 (by decide)
          conv at hi => rhs; arg 1; whnf
          refine anyE_takeWV hO (v := ?_) 3 hi (by kernel_rfl) (by kernel_rfl) (by kernel_rfl) (by kernel_rfl) (fun _ _ _ h => h) (Or.inl ⟨by rfl, ?_⟩) (by assumption) ?_
          rotate_left
          · ((intro w'); (try go_simp); (try with_reducible rfl))
          clear hi
          (try simp only [Act.put, List.setIfInBounds_toArray, List.set_cons_zero, List.set_cons_succ])
          have hi := getopN hO 4 (by decide)
          conv at hi => rhs; arg 1; whnf
          refine anyE_takeWV hO (v := ?_) 4 hi (by kernel_rfl) (by kernel_rfl) (by kernel_rfl) (by kernel_rfl) (fun _ _ _ h => h) (Or.inl ⟨by rfl, ?_⟩) (by assumption) ?_
          rotate_left
          · ((intro w'); (try go_simp); (try with_reducible rfl))
          clear hi
          (try simp only [Act.put, List.setIfInBounds_toArray, List.set_cons_zero, List.set_cons_succ])
          have hi := getopN hO 5 (by decide)
          conv at hi => rhs; arg 1; whnf
          refine anyE_takeWV hO (v := ?_) 5 hi (by kernel_rfl) (by kernel_rfl) (by kernel_rfl) (by kernel_rfl) (fun _ _ _ h => h) (Or.inl ⟨by rfl, ?_⟩) (by assumption) ?_
          rotate_left
          · ((intro w'); (try go_simp); (try with_reducible rfl))
          clear hi
          (try simp only [Act.put, List.setIfInBounds_toArray, List.set_cons_zero, List.set_cons_succ])
          have hi := getopN hO 6 (by decide)
          conv at hi => rhs; arg 1; whnf
          refine anyE_takeV hO (v := ?_) 6 hi (by kernel_rfl) (by kernel_rfl) (by kernel_rfl) (by kernel_rfl) (fun _ _ _ h => h) (Or.inl ⟨by rfl, ?_⟩) (by assumption) ?_
          rotate_left
          · ((intro w' hSw); (try dsimp only at hSw); (try go_simp); (try with_reducible rfl))
          clear hi
          (try simp only [Act.put, List.setIfInBounds_toArray, List.set_cons_zero, List.set_cons_succ])
          have hi := getopN hO 2 (by decide)
          conv at hi => rhs; arg 1; whnf
          refine anyE_stepV hO 2 (by kernel_rfl) hi (fun K hK => ?_)
          go_simp
          (go_at_call 119; refine (HOY.out _ hHeld.2.out).mono ?_)
          rintro e w4 ⟨rfl, hEz⟩
          go_wp2_with fail
          refine hK.out _ _ ⟨(hEz).cell hHeld.1, Ext.trans hHeld.2.out (hEz)⟩ (fun hHeld => ?_)
          clear hK K hi
          (try simp only [Act.put, List.setIfInBounds_toArray, List.set_cons_zero, List.set_cons_succ])
          have hi := getopN hO 7 (by decide)
          conv at hi => rhs; arg 1; whnf
          refine anyE_stepV hO 7 (by kernel_rfl) hi (fun K hK => ?_)
          go_simp
          (go_at_call 119; refine (HOZ.out _ hHeld.2.out).mono ?_)
          rintro e w5 ⟨rfl, hEz⟩
          go_wp2_with fail
          refine hK.out _ _ ⟨(hEz).cell hHeld.1, Ext.trans hHeld.2.out (hEz)⟩ (fun hHeld => ?_)
          clear hK K hi
          (try simp only [Act.put, List.setIfInBounds_toArray, List.set_cons_zero, List.set_cons_succ])
          have hi := getopN hO 8 (by decide)
          conv at hi => rhs; arg 1; whnf
          refine anyE_stepV hO 8 (by kernel_rfl) hi (fun K hK => ?_)
          go_simp
          (go_at_call 94; refine (HMU.out _ hHeld.2.out).mono ?_)
          rintro e w6 ⟨rfl, hEz⟩
          go_wp2_with fail
          refine hK.out _ _ ⟨(hEz).cell hHeld.1, Ext.trans hHeld.2.out (hEz)⟩ (fun hHeld => ?_)
          clear hK K hi
          (try simp only [Act.put, List.setIfInBounds_toArray, List.set_cons_zero, List.set_cons_succ])
          have hi := getopN hO 9 (by decide)
          conv at hi => rhs; arg 1; whnf
          refine anyE_stepV hO 9 (by kernel_rfl) hi (fun K hK => ?_)
          go_simp
          (go_at_call 118; refine (HAD.out _ hHeld.2.out).mono ?_)
          rintro e w7 ⟨rfl, hEz⟩
          go_wp2_with fail
          refine hK.out _ _ ⟨(hEz).cell hHeld.1, Ext.trans hHeld.2.out (hEz)⟩ (fun hHeld => ?_)
          clear hK K hi
          (try simp only [Act.put, List.setIfInBounds_toArray, List.set_cons_zero, List.set_cons_succ])
          have hi := getopN hO 10 (by decide)
          conv at hi => rhs; arg 1; whnf
          refine anyE_lastV hO 10 (by kernel_rfl) (by kernel_rfl) hi (fun K hK => ?_)
          go_simp
          refine hK.out _ _ (by assumption) ?_
          clear hK K hi hO
          (try simp only [Act.put, List.setIfInBounds_toArray, List.set_cons_zero, List.set_cons_succ])
          -->R9
          go_wp2_with fail
          go_roundw
          case rel => exact ⟨k + 1, by omega, by go_num, rfl, HK.out.trans hHeld.2.out⟩
          case measure => simp [intOf]; omega
        · obtain rfl : k = n := by omega
          have HE4 := Lib.hid (HE.out.trans HK.out)
          have HB4 := Lib.hid (HBu.out.ext HK.out)
          have hszr := HE4.out.size
          have HSV : Hid (∃ a c, u5 = .slice a j c) := HSL.out
          go_wp2_with (at_builtin; go_must (refine wpList_append_build _ rfl _ _ 124 rfl w.heap.size 125 (.string ⟨#[]⟩) 1 16 Tryz.underlying124 infoBig rfl (by decide) u5 bigC ((temL M x k).take j) (dotZ x r k) #[.string (intB (dotZ x r k))] 125 rfl HB4.out rfl rfl ?e1 (fun _ _ => rfl) HJ.out (by decide) hszr ?_))
          case e1 => simp [Value.oneCell']
          intro v' w5 hB5 hg5 hb5 hs5 _
          have HV : Hid (∃ g cc, v' = .slice g (j + 1) cc) := by
            obtain ⟨us, b1, b2, b3, b4⟩ := id hB5
            obtain ⟨g, cc, hv, -⟩ := owns_shape b3 (by rw [List.length_append]; simp)
            refine ⟨some ⟨g, 0, none⟩, cc, ?_⟩
            rw [hv, List.length_append, HJL.out]; rfl
          rw [← HN.out] at hB5
          have HB5 := Lib.hid hB5
          have HX5 := Lib.hid (Below.trans HE4.out hb5)
          clear hB5 hg5 hb5
          go_wp2_with fail
          go_roundw
          case rel => exact ⟨j + 1, by omega, by go_num, HX5.out, HV, HB5.out⟩
          case measure => simp [intOf]; omega
    · obtain rfl : j = M.length := by omega
      obtain ⟨a, c, rfl⟩ := HSL.out
      have hB := HBu.out
      rw [List.take_of_length_le (by unfold temL; simp)] at hB
      have hO := Build.bigs hB
      have HO : Hid (wo.ownsRow w.heap.size 125 1 (.slice a M.length c) M.length (bigV (temL M x n))) := by
        unfold Hid bigV
        have hl : (temL M x n).length = M.length := by unfold temL; simp
        rw [hl] at hO; exact hO
      clear hB HBu HSL hO
      go_wp2_with fail
      go_ret
      exact ⟨a, c, rfl, HO.out, HE.out⟩
end Go.Proofs.YtjihfabhgcfjnaaGreatDoor
/- Contracts of package temperament at a right temperament: Temper, TempersOut, Identified, Represent. -/
namespace Go.Proofs.YtjihfabhgcfjnaaGreatDoor
set_option linter.unusedVariables false
set_option linter.unusedSimpArgs false
open Go.RowKit

theorem allE_one {n : Int} {x : List Int} (h : allE n [x] = 0) : okRow x ∧ (x.length : Int) = n := allE_rows h x (by simp)
theorem right_els {n F : Nat} {P : List Int} {C M : List (List Int)} (h : RightT n F P C M) : (∀ r ∈ M, r.length = n) ∧ (∀ r ∈ M, RowLe 1000000000 r) := ⟨fun r hr => (h.bM r hr).2, fun r hr => (h.bM r hr).1.mono (by decide)⟩
/-- Integers of any size that lie in a slice. -/
def BigsAt (w : World) (a : Option Addr) (k : Nat) (xs : List Int) : Prop := k = 0 ∨ ∃ g, a = some ⟨g, 0, none⟩ ∧ RowB w g 0 xs
theorem BigsAt.of {w : World} {base : Nat} {a : Option Addr} {k c : Nat} {xs : List Int} (hk : xs.length = k) (h : w.ownsRow base 125 1 (.slice a k c) k (bigV xs)) : BigsAt w a k xs := by
  rcases Nat.eq_zero_or_pos k with h0 | h0
  · exact .inl h0
  · obtain ⟨g, cap, hv, -⟩ := owns_shape h h0
    simp only [Value.slice.injEq] at hv
    obtain ⟨rfl, -, -⟩ := hv
    subst hk
    exact .inr ⟨g, rfl, (RowB.of_owns (xs := xs) h).1⟩
theorem BigsAt.ext {w w' : World} {a : Option Addr} {k : Nat} {xs : List Int} (h : BigsAt w a k xs) (he : Ext w w') : BigsAt w' a k xs := by
  rcases h with h | ⟨g, h1, h2⟩
  · exact .inl h
  · exact .inr ⟨g, h1, h2.ext he⟩

end Go.Proofs.YtjihfabhgcfjnaaGreatDoor
/- slices.IndexFunc and ContainsFunc at []schisma/api.Int. Printed by gen/slcell.py. -/
namespace Go.Proofs.YtjihfabhgcfjnaaGreatDoor
set_option linter.unusedVariables false
set_option linter.unusedSimpArgs false
open Go.RowKit

def idxBig {α : Type} (p : α → Bool) (xs : List α) : Int := match xs.findIdx? p with | some i => (i : Int) | none => -1
def PredBig {α : Type} (R : World → Value → α → Prop) (g : Nat) (lb : Array Value) (p : α → Bool) (w : World) (xs : List α) : Prop :=
  ∀ W x a, x ∈ xs → Ext w W → R W a x → Calls Tryz.prog g (#[a] ++ lb) W fun e W' => e = .returned (.bool (p x)) ∧ Ext W W'

set_option maxHeartbeats 400000 in
theorem indexFuncBig_any {α : Type} {R : World → Value → α → Prop} (hR : ∀ w w' v x, Ext w w' → R w v x → R w' v x) (xs : List α) (v : Value) (g : Nat) (lb : Array Value) (p : α → Bool) (w : World) (h : ListAt 1 (inCell R) w v xs) (eg : ∀ args w, (callFunc g args).run Tryz.prog w = .ok (.enter g args) w) (hp : PredBig R g lb p w xs) :
    Calls Tryz.prog 117 #[v, .func (.func g) #[] lb] w fun e w' => e = .returned (.int .i64 (idxBig p xs)) ∧ Ext w w' := by
  obtain ⟨a, c, rfl, h1, h2, -, hc⟩ := inCell.open h
  have HC := Lib.hid hc; have HPR := Lib.hid hp; have HR := Lib.hid hR
  clear hc h hp hR
  unfold maxLen at h2
  go_enter Tryz.func117, Tryz.ntmps117
  go_wp2
  go_loopw [8] (fun t wr => ∃ pre rest, t = .int .i64 (pre.length : Nat) ∧ Ext w wr ∧ Hid (xs = pre ++ rest) ∧ Hid (∀ x ∈ pre, p x = false)) (fun t _ => xs.length - (intOf t).toNat)
  case atStart => exact ⟨[], xs, rfl, Ext.refl _, rfl, by intro x hx; simp at hx⟩
  case round =>
    obtain ⟨pre, rest, rfl, hE, HP, HA⟩ := hrel
    obtain ⟨wo, rfl⟩ : ∃ wo : World, wo = wr := ⟨_, rfl⟩
    have hlen : xs.length = pre.length + rest.length := by rw [HP.out]; simp
    cases rest with
    | nil =>
      have : ¬ (pre.length < xs.length) := by simp at hlen; omega
      clear hlen
      go_wp2
      go_ret
      have : idxBig p xs = -1 := by
        have : xs.findIdx? p = none := by rw [HP.out, List.append_nil, List.findIdx?_eq_none_iff]; exact HA.out
        unfold idxBig; rw [this]
      rw [this]
      exact ⟨rfl, hE⟩
    | cons x rest =>
      have hlt : pre.length < xs.length := by simp at hlen; omega
      clear hlen
      obtain ⟨b, off, rfl, hb, hcell⟩ := HC.out (by rw [HP.out]; simp)
      obtain ⟨vx, hvx, hcx⟩ := hcell pre.length x (by rw [HP.out]; simp)
      have g1 := hE.cell hcx
      have hcall := HPR.out wo x vx (by rw [HP.out]; simp) hE (HR.out _ _ _ _ hE hvx)
      clear hcell hvx hcx
      cases hq : p x with
      | true =>
        have HRR : Hid (idxBig p xs = pre.length) := by
          unfold Hid idxBig
          rw [HP.out, List.findIdx?_append, (List.findIdx?_eq_none_iff (xs := pre)).2 HA.out, List.findIdx?_cons, hq]
          simp
        rw [hq] at hcall
        have HCALL := Lib.hid hcall
        clear hcall hq
        go_wp2_with (go_at_fn g; refine HCALL.out.mono ?_; rintro e w' ⟨rfl, hE'⟩)
        go_ret
        rw [HRR.out]
        exact ⟨rfl, hE.trans (by assumption)⟩
      | false =>
        have HA' : Hid (∀ y ∈ pre ++ [x], p y = false) := by
          intro y hy
          rcases List.mem_append.1 hy with hy | hy
          · exact HA.out y hy
          · rw [List.mem_singleton.1 hy]; exact hq
        rw [hq] at hcall
        have HCALL := Lib.hid hcall
        clear hcall hq
        go_wp2_with (go_at_fn g; refine HCALL.out.mono ?_; rintro e w' ⟨rfl, hE'⟩)
        go_roundw
        case rel => exact ⟨pre ++ [x], rest, by simp, hE.trans (by assumption), by unfold Hid; rw [HP.out]; simp, HA'⟩
        case measure => simp [intOf]; omega

theorem containsBig_any {α : Type} {R : World → Value → α → Prop} (hR : ∀ w w' v x, Ext w w' → R w v x → R w' v x) (xs : List α) (v : Value) (g : Nat) (lb : Array Value) (p : α → Bool) (w : World) (h : ListAt 1 (inCell R) w v xs) (eg : ∀ args w, (callFunc g args).run Tryz.prog w = .ok (.enter g args) w) (hp : PredBig R g lb p w xs) :
    Calls Tryz.prog 66 #[v, .func (.func g) #[] lb] w fun e w' => e = .returned (.bool (xs.any p)) ∧ Ext w w' := by
  have hcall := indexFuncBig_any hR xs v g lb p w h eg hp
  cases hf : xs.findIdx? p with
  | none =>
    have HRR : Hid (xs.any p = false) := by
      unfold Hid
      rw [List.findIdx?_eq_none_iff] at hf
      simpa using hf
    unfold idxBig at hcall
    rw [hf] at hcall
    have HCALL := Lib.hid hcall
    clear hcall hf hp h hR
    go_enter Tryz.func66, Tryz.ntmps66
    go_wp2_with (go_at_call 117; refine HCALL.out.mono ?_; rintro e w' ⟨rfl, hE'⟩)
    go_ret
    rw [HRR.out]
    exact ⟨rfl, by assumption⟩
  | some i =>
    have HRR : Hid (xs.any p = true) := by
      unfold Hid
      rw [List.any_eq_true]
      obtain ⟨hi, hpi, _⟩ := List.findIdx?_eq_some_iff_getElem.1 hf
      exact ⟨_, List.getElem_mem hi, hpi⟩
    have hi0 : (0 : Int) ≤ (i : Int) := by omega
    unfold idxBig at hcall
    rw [hf] at hcall
    have HCALL := Lib.hid hcall
    clear hcall hf hp h hR
    go_enter Tryz.func66, Tryz.ntmps66
    go_wp2_with (go_at_call 117; refine HCALL.out.mono ?_; rintro e w' ⟨rfl, hE'⟩)
    go_ret
    rw [HRR.out]
    exact ⟨rfl, by assumption⟩

end Go.Proofs.YtjihfabhgcfjnaaGreatDoor
/- Contracts of package slices at []api.Int; of package temperament at a right temperament: TempersOut, Represent. -/
namespace Go.Proofs.YtjihfabhgcfjnaaGreatDoor
set_option linter.unusedVariables false
set_option linter.unusedSimpArgs false
open Go.RowKit

def bigR (_ : World) (v : Value) (x : Int) : Prop := v = .string (intB x)
theorem bigs_list {w : World} {base : Nat} {v : Value} {n : Nat} {xs : List Int} (hn : xs.length = n) (h : w.ownsRow base 125 1 v n (bigV xs)) : ListAt 1 (inCell bigR) w v xs := by
  subst hn
  refine ⟨xs.map fun x => [Value.string (intB x)], by simp, by simp, ?_, ?_⟩
  · have := SeqAt.of_owns h
    rwa [flatten_one]
  · intro j u x hu hx
    simp only [List.getElem?_map, hx, Option.map_some, Option.some.injEq] at hu
    exact ⟨_, hu.symm, rfl⟩
theorem out1_any (x : Int) (w : World) : Calls Tryz.prog 68 #[.string (intB x)] w fun e w' => e = .returned (.bool (x != 0)) ∧ w = w' := by
  have hz := int_zero x
  by_cases h : x = 0
  · rw [decide_eq_true h] at hz
    have HR : Hid ((x != 0) = false) := by unfold Hid; simp [h]
    rw [HR.out]
    clear h HR
    go_enter Tryz.func68, Tryz.ntmps68
    go_wp2_with fail
    go_ret
    exact ⟨rfl, rfl⟩
  · rw [decide_eq_false h] at hz
    have HR : Hid ((x != 0) = true) := by unfold Hid; simp [h]
    rw [HR.out]
    clear h HR
    go_enter Tryz.func68, Tryz.ntmps68
    go_wp2_with fail
    go_ret
    exact ⟨rfl, rfl⟩
theorem anyBig_any (xs : List Int) (v : Value) (w : World) (h : ListAt 1 (inCell bigR) w v xs) :
    Calls Tryz.prog 66 #[v, .func (.func 68) #[] #[]] w fun e w' => e = .returned (.bool (xs.any (· != 0))) ∧ Ext w w' :=
  containsBig_any (R := bigR) (fun _ _ _ _ _ h => h) xs v 68 #[] (· != 0) w h (enters_of Tryz.func68 (by kernel_rfl) rfl) fun W x a _ _ ha => by
    rw [show a = .string (intB x) from ha]
    exact (out1_any x W).mono fun e w' ⟨h1, h2⟩ => ⟨h1, by rw [h2]; exact Ext.refl _⟩

set_option maxRecDepth 100000 in
set_option maxHeartbeats 8000000 in
theorem tempersOut_any (n F : Nat) (P : List Int) (C M : List (List Int)) (x : List Int) (v vx : Value) (w : World) (hV : TempV w v P C M) (hx : Ints w vx x) (hR : RightT n F P C M) (hE : allE n [x] = 0) (hlib : LibT w) (hp : 2 < w.heap.size) :
    Calls Tryz.prog 27 #[v, vx] w fun e w' => e = .returned (.tuple #[.bool (!((temL M x n).any (· != 0))), .int .i64 0]) ∧ Ext w w' := by
  obtain ⟨ho, hxl⟩ := allE_one hE
  have hxl : x.length = n := by omega
  have hxb : RowLe 1000000000 x := fun y hy => by have := ho.2 y hy; omega
  have hn4 := hR.n4; have hlM := hR.lM
  have HBG := Lib.hid (fun W (hW : Ext w W) vl (hl : Rows2 W vl [x]) => begin_any n F P C M v vl [x] W (hV.ext hW) hl hR (hlib.ext hW) (Nat.lt_of_lt_of_le hp hW.size))
  rw [hE] at HBG
  have HTE := Lib.hid (fun W (hW : Ext w W) => temper_any n P C M x v vx W (hV.ext hW) (hx.ext hW) hxl (right_els hR).1 (by omega) (by omega) hxb (right_els hR).2 (hlib.pow.ext hW))
  have HXI := Lib.hid hx
  have hxo := hx
  obtain ⟨vp, vc, vm, rfl, hvp, hvc, hvm⟩ := hV
  obtain ⟨ap, cp, rfl, -⟩ := hvp.open
  obtain ⟨ac, cc, rfl, -⟩ := inCell.open hvc
  obtain ⟨am, cm, rfl, -⟩ := inCell.open hvm
  obtain ⟨ax, cx, rfl, -⟩ := hxo.open
  have HTL : Hid ((temL M x n).length = M.length) := by unfold Hid temL; simp
  have HAN := Lib.hid (fun W v (h : ListAt 1 (inCell bigR) W v (temL M x n)) => anyBig_any (temL M x n) v W h)
  obtain ⟨B, hB⟩ : ∃ B, (temL M x n).any (· != 0) = B := ⟨_, rfl⟩
  rw [hB] at HAN ⊢
  clear hvp hvc hvm hR hlib hp hx hxo ho hE hxb hxl hB
  go_enter Tryz.func27, Tryz.ntmps27
  obtain ⟨W1, hW1, hE1, hs1, hb1⟩ := tp_new w (.slice ap P.length cp) (.slice ac C.length cc) (.slice am M.length cm)
  have HB1 := Lib.hid hb1; have HE1 := Lib.hid hE1
  obtain ⟨b0, b1, b2, -⟩ := tp_block hb1
  clear hE1 hs1 hb1
  go_wp2_with fail
  have HL1 := Lib.hid (rows_lit1 (HXI.out.ext HE1.out) 37)
  have HE2 := Lib.hid (HE1.out.trans (Ext.alloc W1 (.cells #[.slice ax x.length cx] 37)))
  have HB2 := Lib.hid (block_ext HB1.out (Ext.alloc W1 (.cells #[.slice ax x.length cx] 37)))
  refine (HBG.out _ HE2.out _ HL1.out).mono ?_
  rintro e w3 ⟨rfl, hE3⟩
  have HE3 := Lib.hid (HE2.out.trans hE3)
  have HB3 := Lib.hid (block_ext HB2.out hE3)
  clear hE3 HBG HB1 HE1 HB2 HE2 HL1 b0 b1 b2 hW1
  obtain ⟨b0, b1, b2, -⟩ := tp_block HB3.out
  go_wp2_with fail
  refine (HTE.out _ HE3.out).mono ?_
  rintro e w4 ⟨a4, c4, rfl, ho4, hE4⟩
  have HE4 := Lib.hid (HE3.out.trans hE4)
  have HBA := Lib.hid (HAN.out _ _ (bigs_list HTL.out ho4))
  clear ho4 hE4 HTE HB3 HE3 b0 b1 b2 HAN
  go_wp2_with fail
  refine HBA.out.mono ?_
  rintro e w5 ⟨rfl, hE5⟩
  have HE5 := Lib.hid (HE4.out.trans hE5)
  clear hE5
  go_wp2_with fail
  go_ret2
  exact ⟨rfl, HE5.out⟩

end Go.Proofs.YtjihfabhgcfjnaaGreatDoor
