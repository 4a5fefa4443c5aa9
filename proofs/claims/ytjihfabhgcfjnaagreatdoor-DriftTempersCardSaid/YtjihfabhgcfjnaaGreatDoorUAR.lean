/- Merged: RowAll, LatChk, TabChk, SlMat. -/
import Derived.Test.YtjihfabhgcfjnaaGreatDoorUAQ
import Derived.Test.YtjihfabhgcfjnaaGreatDoorUAA
import Derived.Test.YtjihfabhgcfjnaaGreatDoorProg
/- Contract of row.CheckAll (taken out of RowChecks, for cuts without the others). -/
namespace Go.Proofs.YtjihfabhgcfjnaaGreatDoor
set_option linter.unusedVariables false
set_option linter.unusedSimpArgs false
open Go.RowKit

theorem drop_cons {α : Type} {xs : List α} {j : Nat} {x : α} (h : xs[j]? = some x) : xs.drop j = x :: xs.drop (j + 1) := by
  obtain ⟨hj, rfl⟩ := List.getElem?_eq_some_iff.1 h
  exact List.drop_eq_getElem_cons hj

def allE (n : Int) : List (List Int) → Int
  | [] => 0
  | r :: l => if rowE r = 0 then (if (r.length : Int) = n then allE n l else 5) else rowE r
theorem rows_nil (w : World) : Rows2 w (.slice none 0 0) [] := ⟨[], rfl, by simp, ⟨none, 0, rfl, Nat.le_refl _, by unfold maxLen; omega, fun _ => rfl, fun h => absurd rfl h⟩, by simp⟩
theorem rows_lit1 {w : World} {u : Value} {xs : List Int} (h : Ints w u xs) (T : TypeId) : Rows2 (w.alloc (.cells #[u] T)) (.slice (some ⟨w.heap.size, 0, none⟩) 1 1) [xs] :=
  ListAt.litAt (R := Ints) (fun _ _ _ _ he h => Ints.ext h he) rfl [u] [xs] T 1 rfl rfl (by simp [maxLen]) _ rfl (fun j a x ha hx => by
    match j with
    | 0 => simp at ha hx; subst ha; subst hx; exact h
    | j + 1 => simp at ha)
set_option maxRecDepth 100000 in
set_option maxHeartbeats 2000000 in
theorem checkAll_any (xss : List (List Int)) (n : Int) (v : Value) (w : World) (h : Rows2 w v xss) :
    Calls Tryz.prog 129 #[v, .int .i64 n] w fun e w' => e = .returned (.int .i64 (allE n xss)) ∧ Ext w w' := by
  obtain ⟨a, c, rfl, h1, h2, -, hc⟩ := inCell.open h
  have HC := Lib.hid hc
  unfold maxLen at h2
  clear h hc
  go_enter Tryz.func129, Tryz.ntmps129
  go_wp2_with fail
  go_loopw [10] (fun t wr => ∃ j : Nat, j ≤ xss.length ∧ t = .int .i64 j ∧ Hid (allE n (xss.drop j) = allE n xss) ∧ Ext w wr) (fun t _ => xss.length - (intOf t).toNat)
  case atStart => exact ⟨0, by omega, rfl, by unfold Hid; rw [List.drop_zero], Ext.refl _⟩
  case round =>
    obtain ⟨j, hj, rfl, HR, hE⟩ := hrel
    by_cases hlt : j < xss.length
    · obtain ⟨b, off, rfl, hb, hcell⟩ := HC.out (by intro e; simp [e] at hlt)
      obtain ⟨x, hx⟩ : ∃ x, xss[j]? = some x := ⟨xss[j], List.getElem?_eq_getElem hlt⟩
      obtain ⟨u, hu, hcu⟩ := hcell j x hx
      have g1 := hE.cell hcu
      have hd := drop_cons hx
      have hr := HR.out
      rw [hd] at hr
      have HCK := Lib.hid (rowCheck_any x u wr (hu.ext hE))
      obtain ⟨a2, c2, rfl, k1, k2, -, -, -⟩ := hu.open
      clear hcell hx hd HR hu hcu
      by_cases he : rowE x = 0
      · rw [he] at HCK
        by_cases hl : (x.length : Int) = n
        · have HR2 : Hid (allE n (xss.drop (j + 1)) = allE n xss) := by
            unfold Hid; rw [← hr]; simp only [allE]; rw [if_pos he, if_pos hl]
          have hb : ((x.length : Int) != n) = false := by simp [hl]
          clear hr he hl
          go_wp2_with fail
          refine HCK.out.mono ?_
          rintro e w1 ⟨rfl, hE1⟩
          have hE2 := Ext.trans hE hE1
          clear hE1 HCK
          go_wp2_with fail
          go_roundw
          case rel => exact ⟨j + 1, by omega, by go_num, HR2.out, hE2⟩
          case measure => simp [intOf]; omega
        · have HQ : Hid (allE n xss = 5) := by
            unfold Hid; rw [← hr]; simp only [allE]; rw [if_pos he, if_neg hl]
          have hb : ((x.length : Int) != n) = true := by simp [hl]
          clear hr he hl
          go_wp2_with fail
          refine HCK.out.mono ?_
          rintro e w1 ⟨rfl, hE1⟩
          have HE2 := Lib.hid (Ext.trans hE hE1)
          clear hE1 HCK
          go_wp2_with fail
          go_ret
          exact ⟨by rw [HQ.out]; rfl, HE2.out⟩
      · have h4 : rowE x = 4 := (rowE_four x).resolve_left he
        have HQ : Hid (allE n xss = 4) := by
          unfold Hid; rw [← hr]; simp only [allE]; rw [if_neg he, h4]
        rw [h4] at HCK
        clear hr he h4
        go_wp2_with fail
        refine HCK.out.mono ?_
        rintro e w1 ⟨rfl, hE1⟩
        have HE2 := Lib.hid (Ext.trans hE hE1)
        clear hE1 HCK
        go_wp2_with fail
        go_ret
        exact ⟨by rw [HQ.out]; rfl, HE2.out⟩
    · obtain rfl : j = xss.length := by omega
      have HQ : Hid (allE n xss = 0) := by
        have := HR.out
        rw [List.drop_length] at this
        exact this.symm
      clear HR
      go_wp2_with fail
      go_ret
      exact ⟨by rw [HQ.out]; rfl, hE⟩
end Go.Proofs.YtjihfabhgcfjnaaGreatDoor
/- Contracts: lattice.check; pivot of package hermite; table.Check. -/
namespace Go.Proofs.YtjihfabhgcfjnaaGreatDoor
set_option linter.unusedVariables false
set_option linter.unusedSimpArgs false
open Go.RowKit

/-- The error of rows with some columns. -/
def latE (n : Int) (xss : List (List Int)) : Int := if n < 0 ∨ 12 < n then 3 else if 12 < xss.length then 4 else allE n xss
set_option maxRecDepth 100000 in
set_option maxHeartbeats 1000000 in
theorem latCheck_any (xss : List (List Int)) (n : Int) (v : Value) (w : World) (h : Rows2 w v xss) :
    Calls Tryz.prog 88 #[.int .i64 n, v] w fun e w' => e = .returned (.int .i64 (latE n xss)) ∧ Ext w w' := by
  have HC := Lib.hid (checkAll_any xss n v w h)
  obtain ⟨a, c, rfl, h1, h2, -, hc⟩ := inCell.open h
  clear h hc
  by_cases q1 : n < 0
  · have HL : Hid (latE n xss = 3) := by unfold Hid latE; rw [if_pos (.inl q1)]
    go_enter Tryz.func88, Tryz.ntmps88
    go_wp2_with fail
    go_ret
    exact ⟨by rw [HL.out]; rfl, Ext.refl _⟩
  · by_cases q2 : 12 < n
    · have HL : Hid (latE n xss = 3) := by unfold Hid latE; rw [if_pos (.inr q2)]
      go_enter Tryz.func88, Tryz.ntmps88
      go_wp2_with fail
      go_ret
      exact ⟨by rw [HL.out]; rfl, Ext.refl _⟩
    · by_cases q3 : 12 < xss.length
      · have HL : Hid (latE n xss = 4) := by unfold Hid latE; rw [if_neg (by omega), if_pos q3]
        have q4 : (12 : Int) < (xss.length : Int) := by omega
        go_enter Tryz.func88, Tryz.ntmps88
        go_wp2_with fail
        go_ret
        exact ⟨by rw [HL.out]; rfl, Ext.refl _⟩
      · have HL : Hid (latE n xss = allE n xss) := by unfold Hid latE; rw [if_neg (by omega), if_neg q3]
        have q4 : ¬ (12 : Int) < (xss.length : Int) := by omega
        go_enter Tryz.func88, Tryz.ntmps88
        go_wp2_with fail
        refine HC.out.mono ?_
        rintro e w1 ⟨rfl, hE1⟩
        have HE1 := Lib.hid hE1
        clear hE1 HC
        go_wp2_with fail
        go_ret
        exact ⟨by rw [HL.out]; rfl, HE1.out⟩

/-- The place of the first element that is not 0. -/
theorem hermPivot1_any (x : Int) (w : World) : Calls Tryz.prog 187 #[.int .i64 x] w fun e w' => e = .returned (.bool (x != 0)) ∧ w = w' := by
  go_enter Tryz.func187, Tryz.ntmps187
  go_wp2
  go_ret
  exact ⟨rfl, rfl⟩
theorem hermPivot_any (xs : List Int) (v : Value) (w : World) (h : Ints w v xs) :
    Calls Tryz.prog 174 #[v] w fun e w' => e = .returned (.int .i64 (idxRow (· != 0) xs)) ∧ Ext w w' := by
  have HC := Lib.hid (indexFuncRow_any xs v 187 #[] (· != 0) w h (enters_of Tryz.func187 (by kernel_rfl) rfl) (fun W x _ _ => (hermPivot1_any x W).mono fun _ _ ⟨he, hw⟩ => ⟨he, hw ▸ Ext.refl _⟩))
  clear h
  go_enter Tryz.func174, Tryz.ntmps174
  go_wp2_with (go_at_call 104; refine HC.out.mono ?_; rintro e w' ⟨rfl, hE'⟩)
  go_ret
  exact ⟨rfl, by assumption⟩
theorem great_any (n : Int) (w : World) : Calls Tryz.prog 173 #[.int .i64 n] w fun e w' => e = .returned (.bool (!fitB n)) ∧ w = w' := by
  by_cases h : n ≤ 1000000000
  · by_cases h2 : -1000000000 ≤ n
    · go_enter Tryz.func173, Tryz.ntmps173
      go_wp2
      go_ret
      exact ⟨by simp [fitB, h, h2]; try omega, rfl⟩
    · go_enter Tryz.func173, Tryz.ntmps173
      go_wp2
      go_ret
      exact ⟨by simp [fitB, h, h2]; try omega, rfl⟩
  · go_enter Tryz.func173, Tryz.ntmps173
    go_wp2
    go_ret
    exact ⟨by simp [fitB, h]; try omega, rfl⟩
end Go.Proofs.YtjihfabhgcfjnaaGreatDoor
/- Contract: table.Check. -/
namespace Go.Proofs.YtjihfabhgcfjnaaGreatDoor
set_option linter.unusedVariables false
set_option linter.unusedSimpArgs false
open Go.RowKit

def tabR (n : Nat) : List (List Int) → Int
  | [] => 0
  | r :: l => if 12 < r.length then 4 else if r.length = n then (if r.any (fun x => !fitB x) then 4 else tabR n l) else 5
/-- The error of a matrix. -/
def tabE (xss : List (List Int)) : Int := if 12 < xss.length then 4 else tabR (xss.headD []).length xss

set_option maxRecDepth 100000 in
set_option maxHeartbeats 2000000 in
theorem tabCheck_any (xss : List (List Int)) (v : Value) (w : World) (h : Rows2 w v xss) :
    Calls Tryz.prog 149 #[v] w fun e w' => e = .returned (.int .i64 (tabE xss)) ∧ Ext w w' := by
  obtain ⟨a, c, rfl, h1, h2, -, hc⟩ := inCell.open h
  have HC := Lib.hid hc
  unfold maxLen at h2
  clear h hc
  by_cases hl : 12 < xss.length
  · have HT : Hid (tabE xss = 4) := by unfold Hid tabE; rw [if_pos hl]
    have hl' : (12 : Int) < (xss.length : Int) := by omega
    go_enter Tryz.func149, Tryz.ntmps149
    go_wp2_with fail
    go_ret
    exact ⟨by rw [HT.out]; rfl, Ext.refl _⟩
  · have HT : Hid (tabE xss = tabR (xss.headD []).length xss) := by unfold Hid tabE; rw [if_neg hl]
    have hl' : ¬ (12 : Int) < (xss.length : Int) := by omega
    obtain ⟨n, hn⟩ : ∃ n, n = (xss.headD []).length := ⟨_, rfl⟩
    rw [← hn] at HT
    have HN := Lib.hid hn
    clear hn
    go_enter Tryz.func149, Tryz.ntmps149
    go_wp2_with fail
    go_loopw [10] (fun t wr => ∃ j : Nat, j ≤ xss.length ∧ t = .int .i64 j ∧ Ext w wr ∧ Hid (tabE xss = tabR n (xss.drop j))) (fun t _ => xss.length - (intOf t).toNat)
    case atStart => exact ⟨0, by omega, rfl, Ext.refl _, HT.out⟩
    case round =>
      obtain ⟨j, hj, rfl, hE, HD⟩ := hrel
      obtain ⟨wo, rfl⟩ : ∃ wo : World, wo = wr := ⟨_, rfl⟩
      have HE := Lib.hid hE
      by_cases hlt : j < xss.length
      · obtain ⟨b, off, rfl, hb, hcell⟩ := HC.out (by intro e; simp [e] at hlt)
        obtain ⟨xs, hx⟩ : ∃ x, xss[j]? = some x := ⟨xss[j], List.getElem?_eq_getElem hlt⟩
        obtain ⟨ys, hy⟩ : ∃ y, xss[0]? = some y := ⟨xss[0]'(by omega), List.getElem?_eq_getElem _⟩
        have hny : ys.length = n := by
          rw [HN.out]
          cases xss with
          | nil => simp at hlt
          | cons z t => simp at hy; rw [hy]; rfl
        obtain ⟨vx, hvx, hcx⟩ := hcell j xs hx
        obtain ⟨vy, hvy, hcy⟩ := hcell 0 ys hy
        rw [Nat.add_zero] at hcy
        obtain ⟨ax, cx, rfl, -, -, -, -, -⟩ := Ints.open hvx
        obtain ⟨ay, cy, rfl, -, -, -, -, -⟩ := Ints.open hvy
        rw [hny] at hcy
        have g1 := hE.cell hcx
        have g2 := hE.cell hcy
        have HX := Lib.hid (Ints.ext hvx hE)
        have HDS : Hid (tabE xss = if 12 < xs.length then 4 else if xs.length = n then (if xs.any (fun x => !fitB x) then 4 else tabR n (xss.drop (j + 1))) else 5) := by
          unfold Hid; rw [HD.out, drop_cons hx]; rfl
        have hpos : 0 < xss.length := by omega
        have HANY := Lib.hid (fun W he => containsRow_any xs _ 173 #[] (fun x => !fitB x) W (HX.out.ext (w' := W) he) (enters_of Tryz.func173 (by kernel_rfl) rfl) (fun W x _ _ => (great_any x W).mono fun _ _ ⟨he, hw⟩ => ⟨he, hw ▸ Ext.refl _⟩))
        clear hcell hx hy hny hvx hvy hcx hcy hE
        by_cases q1 : 12 < xs.length
        · have q2 : (12 : Int) < (xs.length : Int) := by omega
          rw [if_pos q1] at HDS
          go_wp2_with fail
          go_ret
          exact ⟨by rw [HDS.out]; rfl, HE.out⟩
        · have q2 : ¬ (12 : Int) < (xs.length : Int) := by omega
          rw [if_neg q1] at HDS
          by_cases q3 : xs.length = n
          · rw [if_pos q3] at HDS
            have q4 : ((xs.length : Int) != (n : Int)) = false := by simp [q3]
            cases hany : xs.any (fun x => !fitB x) with
            | true =>
              rw [hany, if_pos rfl] at HDS
              rw [hany] at HANY
              clear q3 hany
              go_wp2_with fail
              refine (HANY.out _ (Ext.refl _)).mono ?_
              rintro e w1 ⟨rfl, hE1⟩
              have HE1 := Lib.hid (Ext.trans HE.out hE1)
              clear hE1 HANY
              go_wp2_with fail
              go_ret
              exact ⟨by rw [HDS.out]; rfl, HE1.out⟩
            | false =>
              rw [hany, if_neg Bool.false_ne_true] at HDS
              rw [hany] at HANY
              clear q3 hany
              go_wp2_with fail
              refine (HANY.out _ (Ext.refl _)).mono ?_
              rintro e w1 ⟨rfl, hE1⟩
              have HE1 := Lib.hid (Ext.trans HE.out hE1)
              clear hE1 HANY
              go_wp2_with fail
              go_roundw
              case rel => exact ⟨j + 1, by omega, by go_num, HE1.out, HDS.out⟩
              case measure => simp [intOf]; omega
          · rw [if_neg q3] at HDS
            have q4 : ((xs.length : Int) != (n : Int)) = true := by simp; omega
            clear q3
            go_wp2_with fail
            go_ret
            exact ⟨by rw [HDS.out]; rfl, HE.out⟩
      · obtain rfl : j = xss.length := by omega
        have HF : Hid (tabE xss = 0) := by unfold Hid; rw [HD.out, List.drop_length]; rfl
        clear HD hE
        go_wp2_with fail
        go_ret
        exact ⟨by rw [HF.out]; rfl, HE.out⟩
end Go.Proofs.YtjihfabhgcfjnaaGreatDoor
/- slices.IndexFunc and ContainsFunc at schisma/api.Matrix. Printed by gen/slcell.py. -/
namespace Go.Proofs.YtjihfabhgcfjnaaGreatDoor
set_option linter.unusedVariables false
set_option linter.unusedSimpArgs false
open Go.RowKit

def idxMat {α : Type} (p : α → Bool) (xs : List α) : Int := match xs.findIdx? p with | some i => (i : Int) | none => -1
def PredMat {α : Type} (R : World → Value → α → Prop) (g : Nat) (lb : Array Value) (p : α → Bool) (w : World) (xs : List α) : Prop :=
  ∀ W x a, x ∈ xs → Ext w W → R W a x → Calls Tryz.prog g (#[a] ++ lb) W fun e W' => e = .returned (.bool (p x)) ∧ Ext W W'

set_option maxHeartbeats 400000 in
theorem indexFuncMat_any {α : Type} {R : World → Value → α → Prop} (hR : ∀ w w' v x, Ext w w' → R w v x → R w' v x) (xs : List α) (v : Value) (g : Nat) (lb : Array Value) (p : α → Bool) (w : World) (h : ListAt 1 (inCell R) w v xs) (eg : ∀ args w, (callFunc g args).run Tryz.prog w = .ok (.enter g args) w) (hp : PredMat R g lb p w xs) :
    Calls Tryz.prog 188 #[v, .func (.func g) #[] lb] w fun e w' => e = .returned (.int .i64 (idxMat p xs)) ∧ Ext w w' := by
  obtain ⟨a, c, rfl, h1, h2, -, hc⟩ := inCell.open h
  have HC := Lib.hid hc; have HPR := Lib.hid hp; have HR := Lib.hid hR
  clear hc h hp hR
  unfold maxLen at h2
  go_enter Tryz.func188, Tryz.ntmps188
  go_wp2
  go_loopw [8] (fun t wr => ∃ pre rest, t = .int .i64 (pre.length : Nat) ∧ Ext w wr ∧ Hid (xs = pre ++ rest) ∧ Hid (∀ x ∈ pre, p x = false)) (fun t _ => xs.length - (intOf t).toNat)
  case atStart => exact ⟨[], xs, rfl, Ext.refl _, rfl, by intro x hx; simp at hx⟩
  case round =>
    obtain ⟨pre, rest, rfl, hE, HP, HA⟩ := hrel
    obtain ⟨wo, rfl⟩ : ∃ wo : World, wo = wr := ⟨_, rfl⟩
    have hlen : xs.length = pre.length + rest.length := by rw [HP.out]; simp
    cases rest with
    | nil =>
      have : ¬ (pre.length < xs.length) := by simp at hlen; omega
      clear hlen
      go_wp2
      go_ret
      have : idxMat p xs = -1 := by
        have : xs.findIdx? p = none := by rw [HP.out, List.append_nil, List.findIdx?_eq_none_iff]; exact HA.out
        unfold idxMat; rw [this]
      rw [this]
      exact ⟨rfl, hE⟩
    | cons x rest =>
      have hlt : pre.length < xs.length := by simp at hlen; omega
      clear hlen
      obtain ⟨b, off, rfl, hb, hcell⟩ := HC.out (by rw [HP.out]; simp)
      obtain ⟨vx, hvx, hcx⟩ := hcell pre.length x (by rw [HP.out]; simp)
      have g1 := hE.cell hcx
      have hcall := HPR.out wo x vx (by rw [HP.out]; simp) hE (HR.out _ _ _ _ hE hvx)
      clear hcell hvx hcx
      cases hq : p x with
      | true =>
        have HRR : Hid (idxMat p xs = pre.length) := by
          unfold Hid idxMat
          rw [HP.out, List.findIdx?_append, (List.findIdx?_eq_none_iff (xs := pre)).2 HA.out, List.findIdx?_cons, hq]
          simp
        rw [hq] at hcall
        have HCALL := Lib.hid hcall
        clear hcall hq
        go_wp2_with (go_at_fn g; refine HCALL.out.mono ?_; rintro e w' ⟨rfl, hE'⟩)
        go_ret
        rw [HRR.out]
        exact ⟨rfl, hE.trans (by assumption)⟩
      | false =>
        have HA' : Hid (∀ y ∈ pre ++ [x], p y = false) := by
          intro y hy
          rcases List.mem_append.1 hy with hy | hy
          · exact HA.out y hy
          · rw [List.mem_singleton.1 hy]; exact hq
        rw [hq] at hcall
        have HCALL := Lib.hid hcall
        clear hcall hq
        go_wp2_with (go_at_fn g; refine HCALL.out.mono ?_; rintro e w' ⟨rfl, hE'⟩)
        go_roundw
        case rel => exact ⟨pre ++ [x], rest, by simp, hE.trans (by assumption), by unfold Hid; rw [HP.out]; simp, HA'⟩
        case measure => simp [intOf]; omega

theorem containsMat_any {α : Type} {R : World → Value → α → Prop} (hR : ∀ w w' v x, Ext w w' → R w v x → R w' v x) (xs : List α) (v : Value) (g : Nat) (lb : Array Value) (p : α → Bool) (w : World) (h : ListAt 1 (inCell R) w v xs) (eg : ∀ args w, (callFunc g args).run Tryz.prog w = .ok (.enter g args) w) (hp : PredMat R g lb p w xs) :
    Calls Tryz.prog 175 #[v, .func (.func g) #[] lb] w fun e w' => e = .returned (.bool (xs.any p)) ∧ Ext w w' := by
  have hcall := indexFuncMat_any hR xs v g lb p w h eg hp
  cases hf : xs.findIdx? p with
  | none =>
    have HRR : Hid (xs.any p = false) := by
      unfold Hid
      rw [List.findIdx?_eq_none_iff] at hf
      simpa using hf
    unfold idxMat at hcall
    rw [hf] at hcall
    have HCALL := Lib.hid hcall
    clear hcall hf hp h hR
    go_enter Tryz.func175, Tryz.ntmps175
    go_wp2_with (go_at_call 188; refine HCALL.out.mono ?_; rintro e w' ⟨rfl, hE'⟩)
    go_ret
    rw [HRR.out]
    exact ⟨rfl, by assumption⟩
  | some i =>
    have HRR : Hid (xs.any p = true) := by
      unfold Hid
      rw [List.any_eq_true]
      obtain ⟨hi, hpi, _⟩ := List.findIdx?_eq_some_iff_getElem.1 hf
      exact ⟨_, List.getElem_mem hi, hpi⟩
    have hi0 : (0 : Int) ≤ (i : Int) := by omega
    unfold idxMat at hcall
    rw [hf] at hcall
    have HCALL := Lib.hid hcall
    clear hcall hf hp h hR
    go_enter Tryz.func175, Tryz.ntmps175
    go_wp2_with (go_at_call 188; refine HCALL.out.mono ?_; rintro e w' ⟨rfl, hE'⟩)
    go_ret
    rw [HRR.out]
    exact ⟨rfl, by assumption⟩

end Go.Proofs.YtjihfabhgcfjnaaGreatDoor
