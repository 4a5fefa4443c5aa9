/- Merged: SlRow, RowA1, RowAll, LatChk, TabChk. -/
import Derived.Test.YtjihfabhgcfjnaaGreatDoorQAA
import Derived.Lib.SliceRun
import Derived.WalkSpells
import Derived.Laws.AppendOwnNone
/- Contracts of generic functions of package slices at api.Row. -/
namespace Go.Proofs.YtjihfabhgcfjnaaGreatDoor
set_option linter.unusedVariables false
set_option linter.unusedSimpArgs false
open Go.RowKit


set_option maxHeartbeats 400000 in
/-- slices.Clone: a row of the call's own. -/
theorem cloneRow_any (xs : List Int) (v : Value) (w : World) (h : Ints w v xs) (hlen : xs.length ≤ 1000000) :
    Calls Tryz.prog 107 #[v] w fun e w' => ∃ r, e = .returned r ∧ Ext w w' ∧ w'.ownsRow w.heap.size 3 1 r xs.length (xs.map (Value.int .i64)) := by
  obtain ⟨a, c, rfl, h1, h2, h3, hb, hc⟩ := h.open
  obtain ⟨i0, hi, hz0, hz1, hz2⟩ := info_parts infoInt
  have HI := Lib.hid hi; have HZ0 := Lib.hid hz0; have HZ1 := Lib.hid hz1; have HZ2 := Lib.hid hz2
  have HB := Lib.hid hb
  have HC := Lib.hid hc
  clear hi hz0 hz1 hz2 hb hc h
  unfold maxLen at h2
  cases a with
  | none =>
    have h0 : xs = [] := by have := h3 rfl; exact List.eq_nil_of_length_eq_zero (by omega)
    subst h0
    obtain rfl : c = 0 := h3 rfl
    clear h3 h1 h2 hlen
    have heq := fun w => Lib.run_eql_slice_nil (P := Tryz.prog) w 37 3 none 0 0 0 0 Tryz.underlying37
    go_enter Tryz.func107, Tryz.ntmps107
    go_wp2
    go_ret
    exact ⟨_, rfl, Ext.refl _, World.ownsRow_nil _ _ _ _⟩
  | some ad =>
    clear h3
    have heq := fun w => Lib.run_eql_slice_nil (P := Tryz.prog) w 37 3 (some ad) xs.length c 0 0 Tryz.underlying37
    have hown : (w.alloc (.cells #[] 3)).ownsRow w.heap.size 3 1 (.slice (some ⟨w.heap.size, 0, none⟩) 0 0) 0 [] := World.ownsRow_made w #[] 0 (Nat.le_refl _) (Nat.zero_le _) rfl
    have hnews : ∀ (j : Nat) (u : Value), (xs.map (Value.int .i64))[j]? = some u → (w.alloc (.cells #[] 3)).cell? (ad.add j) = some u := by
      intro j u hu
      rw [List.getElem?_map] at hu
      cases hj : xs[j]? with
      | none => simp [hj] at hu
      | some x =>
        simp [hj] at hu; subst hu
        obtain ⟨b, off, hab, hbw, hcell⟩ := HC.out (by intro e; simp [e] at hj)
        cases hab
        have := hcell j x hj
        rw [show (⟨b, off, none⟩ : Addr).add j = ⟨b, off + j, none⟩ by unfold Addr.add; split <;> simp_all]
        exact Ext.cell (Ext.alloc w _) this
    have HOWN := Lib.hid hown; have HNEWS := Lib.hid hnews
    clear hown hnews
    go_enter Tryz.func107, Tryz.ntmps107
    go_wp2_with (at_builtin; refine wpList_append_own _ rfl _ _ 37 rfl w.heap.size 3 i0 (.int .i64 0) 1 8 Tryz.underlying37 HI.out HZ0.out HZ1.out HZ2.out rfl (by decide) _ _ _ rfl HOWN.out ad xs.length c (xs.map (Value.int .i64)) rfl ?d1 HNEWS.out ?d2 ?d3 ?d4 ?d5 ?_)
    case d1 => simp
    case d2 => exact ints_oneCell _ _
    case d3 => unfold maxLen; omega
    case d4 => omega
    case d5 => simp
    intro v' w1 hown' hgrow _
    have HO := Lib.hid hown'; have HG := Lib.hid hgrow
    clear hown' hgrow
    go_wp2
    go_ret
    refine ⟨v', rfl, ?_, ?_⟩
    · exact Below.grown (Ext.alloc w _) HG.out (by simp) (by intro k hk; simp [Value.ownBlock] at hk; omega)
    · have := HO.out
      simpa using this


set_option maxHeartbeats 400000 in
/-- slices.Equal. -/
theorem equalRow_any (xs ys : List Int) (u v : Value) (w : World) (h : Ints w u xs) (k : Ints w v ys) :
    Calls Tryz.prog 54 #[u, v] w fun e w' => e = .returned (.bool (xs == ys)) ∧ Ext w w' := by
  obtain ⟨a, c, rfl, h1, h2, -, hxb, hc⟩ := h.open
  obtain ⟨a', c', rfl, k1, k2, -, hyb, kc⟩ := k.open
  have HC := Lib.hid hc; have KC := Lib.hid kc
  clear hc kc h k hxb hyb
  unfold maxLen at h2 k2
  by_cases hl : xs.length = ys.length
  · have hn : ((xs.length : Int) != (ys.length : Int)) = false := by simp [hl]
    have hle1 : xs.length ≤ ys.length := by omega
    have hle2 : ys.length ≤ xs.length := by omega
    have HL := Lib.hid hl
    clear hl
    go_enter Tryz.func54, Tryz.ntmps54
    go_wp2
    go_loopw [13] (fun t wr => ∃ j : Nat, j ≤ xs.length ∧ t = .int .i64 j ∧ Ext w wr ∧ Hid (xs.take j = ys.take j)) (fun t _ => xs.length - (intOf t).toNat)
    case atStart => exact ⟨0, by omega, rfl, Ext.refl _, rfl⟩
    case round =>
      obtain ⟨j, hj, rfl, hE, HT⟩ := hrel
      by_cases hlt : j < xs.length
      · obtain ⟨b, off, rfl, hb, hcell⟩ := HC.out (by intro e; simp [e] at hlt)
        obtain ⟨b', off', rfl, hb', hcell'⟩ := KC.out (by intro e; simp [e] at hle1; simp [hle1] at hlt)
        obtain ⟨x, hx⟩ : ∃ x, xs[j]? = some x := ⟨xs[j], List.getElem?_eq_getElem hlt⟩
        obtain ⟨y, hy⟩ : ∃ y, ys[j]? = some y := ⟨ys[j]'(by omega), List.getElem?_eq_getElem _⟩
        have g1 := hE.cell (hcell j x hx)
        have g2 := hE.cell (hcell' j y hy)
        have q1 : (j : Int) < (xs.length : Int) := by omega
        have q2 : (j : Int) < (ys.length : Int) := by omega
        have HX := Lib.hid hx; have HY := Lib.hid hy
        clear hcell hcell' hx hy
        by_cases hxy : x = y
        · have hb : (x != y) = false := by simp [hxy]
          have HT' : Hid (xs.take (j + 1) = ys.take (j + 1)) := by
            unfold Hid; rw [List.take_add_one, List.take_add_one, HX.out, HY.out, HT.out, hxy]
          clear hxy
          go_wp2
          go_quiet (fail)
          go_wp2
          go_roundw
          case rel => exact ⟨j + 1, by omega, by go_num, Ext.draws hE _, HT'⟩
          case measure => simp [intOf]; omega
        · have hb : (x != y) = true := by simp [hxy]
          have HF : Hid ((xs == ys) = false) := by
            unfold Hid
            rw [beq_eq_false_iff_ne]
            intro e
            have e1 := HX.out; have e2 := HY.out
            rw [e, e2] at e1
            exact hxy (by simpa using e1.symm)
          clear hxy
          go_wp2
          go_quiet (fail)
          go_wp2
          go_ret
          rw [HF.out]
          exact ⟨rfl, Ext.draws hE _⟩
      · have hge : xs.length ≤ j := by omega
        have HTr : Hid ((xs == ys) = true) := by
          unfold Hid
          have e := HT.out
          rw [List.take_of_length_le (by omega), List.take_of_length_le (by omega)] at e
          simp [e]
        go_wp2
        go_ret
        rw [HTr.out]
        exact ⟨rfl, hE⟩
  · have hn : ((xs.length : Int) != (ys.length : Int)) = true := by simp; omega
    have HF : Hid ((xs == ys) = false) := by
      unfold Hid
      rw [beq_eq_false_iff_ne]
      intro e
      exact hl (by rw [e])
    clear hl
    go_enter Tryz.func54, Tryz.ntmps54
    go_wp2
    go_ret
    rw [HF.out]
    exact ⟨rfl, Ext.refl _⟩


def idxRow (p : Int → Bool) (xs : List Int) : Int := match xs.findIdx? p with | some i => (i : Int) | none => -1
/-- What is asked of a predicate handed over: in every later world it answers p, and adds to memory at most. -/
def PredRow (g : Nat) (lb : Array Value) (p : Int → Bool) (w : World) (xs : List Int) : Prop :=
  ∀ W x, x ∈ xs → Ext w W → Calls Tryz.prog g (#[.int .i64 x] ++ lb) W fun e W' => e = .returned (.bool (p x)) ∧ Ext W W'

set_option maxHeartbeats 400000 in
/-- slices.IndexFunc: the place of the first element at which p holds, or -1. -/
theorem indexFuncRow_any (xs : List Int) (v : Value) (g : Nat) (lb : Array Value) (p : Int → Bool) (w : World) (h : Ints w v xs) (eg : ∀ args w, (callFunc g args).run Tryz.prog w = .ok (.enter g args) w) (hp : PredRow g lb p w xs) :
    Calls Tryz.prog 104 #[v, .func (.func g) #[] lb] w fun e w' => e = .returned (.int .i64 (idxRow p xs)) ∧ Ext w w' := by
  obtain ⟨a, c, rfl, h1, h2, -, hxb, hc⟩ := h.open
  have HC := Lib.hid hc; have HPR := Lib.hid hp
  clear hc h hxb hp
  unfold maxLen at h2
  go_enter Tryz.func104, Tryz.ntmps104
  go_wp2
  go_loopw [8] (fun t wr => ∃ pre rest, t = .int .i64 (pre.length : Nat) ∧ Ext w wr ∧ Hid (xs = pre ++ rest) ∧ Hid (∀ x ∈ pre, p x = false)) (fun t _ => xs.length - (intOf t).toNat)
  case atStart => exact ⟨[], xs, rfl, Ext.refl _, rfl, by intro x hx; simp at hx⟩
  case round =>
    obtain ⟨pre, rest, rfl, hE, HP, HA⟩ := hrel
    have hlen : xs.length = pre.length + rest.length := by rw [HP.out]; simp
    cases rest with
    | nil =>
      have : ¬ (pre.length < xs.length) := by simp at hlen; omega
      clear hlen
      go_wp2
      go_ret
      have : idxRow p xs = -1 := by
        have : xs.findIdx? p = none := by rw [HP.out, List.append_nil, List.findIdx?_eq_none_iff]; exact HA.out
        unfold idxRow; rw [this]
      rw [this]
      exact ⟨rfl, hE⟩
    | cons x rest =>
      have hlt : pre.length < xs.length := by simp at hlen; omega
      clear hlen
      obtain ⟨b, off, rfl, hb, hcell⟩ := HC.out (by rw [HP.out]; simp)
      have g1 := hE.cell (hcell pre.length x (by rw [HP.out]; simp))
      clear hcell
      have hcall := fun W he => HPR.out W x (by rw [HP.out]; simp) he
      cases hq : p x with
      | true =>
        have HR : Hid (idxRow p xs = pre.length) := by
          unfold Hid idxRow
          rw [HP.out, List.findIdx?_append, (List.findIdx?_eq_none_iff (xs := pre)).2 HA.out, List.findIdx?_cons, hq]
          simp
        rw [hq] at hcall
        have HCALL := Lib.hid hcall
        clear hcall hq
        go_wp2_with (go_at_fn g; refine (HCALL.out _ hE).mono ?_; rintro e w' ⟨rfl, hE'⟩)
        go_ret
        rw [HR.out]
        exact ⟨rfl, hE.trans (by assumption)⟩
      | false =>
        have HA' : Hid (∀ y ∈ pre ++ [x], p y = false) := by
          intro y hy
          rcases List.mem_append.1 hy with hy | hy
          · exact HA.out y hy
          · rw [List.mem_singleton.1 hy]; exact hq
        rw [hq] at hcall
        have HCALL := Lib.hid hcall
        clear hcall hq
        go_wp2_with (go_at_fn g; refine (HCALL.out _ hE).mono ?_; rintro e w' ⟨rfl, hE'⟩)
        go_roundw
        case rel => exact ⟨pre ++ [x], rest, by simp, hE.trans (by assumption), by unfold Hid; rw [HP.out]; simp, HA'⟩
        case measure => simp [intOf]; omega


theorem containsRow_any (xs : List Int) (v : Value) (g : Nat) (lb : Array Value) (p : Int → Bool) (w : World) (h : Ints w v xs) (eg : ∀ args w, (callFunc g args).run Tryz.prog w = .ok (.enter g args) w) (hp : PredRow g lb p w xs) :
    Calls Tryz.prog 62 #[v, .func (.func g) #[] lb] w fun e w' => e = .returned (.bool (xs.any p)) ∧ Ext w w' := by
  have hcall := indexFuncRow_any xs v g lb p w h eg hp
  cases hf : xs.findIdx? p with
  | none =>
    have HR : Hid (xs.any p = false) := by
      unfold Hid
      rw [List.findIdx?_eq_none_iff] at hf
      simpa using hf
    unfold idxRow at hcall
    rw [hf] at hcall
    have HCALL := Lib.hid hcall
    clear hcall hf hp h
    go_enter Tryz.func62, Tryz.ntmps62
    go_wp2_with (go_at_call 104; refine HCALL.out.mono ?_; rintro e w' ⟨rfl, hE'⟩)
    go_ret
    rw [HR.out]
    exact ⟨rfl, by assumption⟩
  | some i =>
    have HR : Hid (xs.any p = true) := by
      unfold Hid
      rw [List.any_eq_true]
      obtain ⟨hi, hpi, _⟩ := List.findIdx?_eq_some_iff_getElem.1 hf
      exact ⟨_, List.getElem_mem hi, hpi⟩
    have hi0 : (0 : Int) ≤ (i : Int) := by omega
    unfold idxRow at hcall
    rw [hf] at hcall
    have HCALL := Lib.hid hcall
    clear hcall hf hp h
    go_enter Tryz.func62, Tryz.ntmps62
    go_wp2_with (go_at_call 104; refine HCALL.out.mono ?_; rintro e w' ⟨rfl, hE'⟩)
    go_ret
    rw [HR.out]
    exact ⟨rfl, by assumption⟩

end Go.Proofs.YtjihfabhgcfjnaaGreatDoor
/- Contracts of package row: Check, IsZero (those alone: for cuts without the others). -/
namespace Go.Proofs.YtjihfabhgcfjnaaGreatDoor
set_option linter.unusedVariables false
set_option linter.unusedSimpArgs false
open Go.RowKit

def fitB (n : Int) : Bool := decide (-1000000000 ≤ n) && decide (n ≤ 1000000000)
theorem fitB_iff (n : Int) : fitB n = true ↔ -1000000000 ≤ n ∧ n ≤ 1000000000 := by simp [fitB]
theorem fits_any (n : Int) (w : World) : Calls Tryz.prog 155 #[.int .i64 n] w fun e w' => e = .returned (.bool (fitB n)) ∧ w = w' := by
  by_cases h : -1000000000 ≤ n
  · by_cases h2 : n ≤ 1000000000
    · go_enter Tryz.func155, Tryz.ntmps155
      go_wp2
      go_ret
      exact ⟨by simp [fitB, h, h2], rfl⟩
    · go_enter Tryz.func155, Tryz.ntmps155
      go_wp2
      go_ret
      exact ⟨by simp [fitB, h, h2], rfl⟩
  · go_enter Tryz.func155, Tryz.ntmps155
    go_wp2
    go_ret
    exact ⟨by simp [fitB]; omega, rfl⟩
theorem check1_any (n : Int) (w : World) : Calls Tryz.prog 154 #[.int .i64 n] w fun e w' => e = .returned (.bool (!fitB n)) ∧ w = w' := by
  go_enter Tryz.func154, Tryz.ntmps154
  go_wp2_with (go_at_call 155; refine (fits_any _ _).mono ?_; rintro e w' ⟨rfl, rfl⟩)
  go_ret
  exact ⟨rfl, rfl⟩

/-- A row is right. -/
def okRow (r : List Int) : Prop := r.length ≤ 64 ∧ ∀ x ∈ r, -1000000000 ≤ x ∧ x ≤ 1000000000
def rowE (r : List Int) : Int := if 64 < r.length then 4 else if r.any (fun n => !fitB n) then 4 else 0
theorem rowE_zero (r : List Int) : rowE r = 0 ↔ okRow r := by
  unfold rowE okRow
  by_cases h : 64 < r.length
  · simp [h]; omega
  · rw [if_neg h]
    by_cases h2 : r.any (fun n => !fitB n) = true
    · rw [if_pos h2]
      obtain ⟨x, hx, hf⟩ := List.any_eq_true.1 h2
      simp only [Bool.not_eq_true', Bool.eq_false_iff, ne_eq, fitB_iff] at hf
      constructor
      · intro e; simp at e
      · intro ⟨_, h⟩; exact absurd (h x hx) hf
    · rw [if_neg h2]
      simp only [true_iff]
      refine ⟨by omega, fun x hx => ?_⟩
      have := List.any_eq_false.1 (by simpa using h2 : r.any (fun n => !fitB n) = false) x hx
      simpa [fitB_iff] using this
theorem rowE_four (r : List Int) : rowE r = 0 ∨ rowE r = 4 := by
  unfold rowE; split
  · exact .inr rfl
  · split
    · exact .inr rfl
    · exact .inl rfl

theorem rowCheck_any (xs : List Int) (v : Value) (w : World) (h : Ints w v xs) :
    Calls Tryz.prog 116 #[v] w fun e w' => e = .returned (.int .i64 (rowE xs)) ∧ Ext w w' := by
  have HC := Lib.hid (containsRow_any xs v 154 #[] (fun n => !fitB n) w h (enters_of Tryz.func154 (by kernel_rfl) rfl) (fun W x _ _ => (check1_any x W).mono fun _ _ ⟨he, hw⟩ => ⟨he, hw ▸ Ext.refl _⟩))
  obtain ⟨a, c, rfl, -, -, -, -, -⟩ := h.open
  by_cases hl : 64 < xs.length
  · have HQ : Hid (rowE xs = 4) := by unfold Hid rowE; rw [if_pos hl]
    have hl' : (64 : Int) < (xs.length : Int) := by omega
    clear h
    go_enter Tryz.func116, Tryz.ntmps116
    go_wp2_with (go_at_call 62; refine HC.out.mono ?_; rintro e w' ⟨rfl, hE'⟩)
    go_ret
    exact ⟨by rw [HQ.out]; rfl, Ext.refl _⟩
  · have hl' : ¬ (64 : Int) < (xs.length : Int) := by omega
    cases ha : xs.any (fun n => !fitB n) with
    | true =>
      have HQ : Hid (rowE xs = 4) := by unfold Hid rowE; rw [if_neg hl, if_pos ha]
      rw [ha] at HC
      clear h ha
      go_enter Tryz.func116, Tryz.ntmps116
      go_wp2_with (go_at_call 62; refine HC.out.mono ?_; rintro e w' ⟨rfl, hE'⟩)
      go_ret
      exact ⟨by rw [HQ.out]; rfl, by assumption⟩
    | false =>
      have HQ : Hid (rowE xs = 0) := by unfold Hid rowE; rw [if_neg hl, if_neg (by simp [ha])]
      rw [ha] at HC
      clear h ha
      go_enter Tryz.func116, Tryz.ntmps116
      go_wp2_with (go_at_call 62; refine HC.out.mono ?_; rintro e w' ⟨rfl, hE'⟩)
      go_ret
      exact ⟨by rw [HQ.out]; rfl, by assumption⟩

end Go.Proofs.YtjihfabhgcfjnaaGreatDoor
/- Contract of row.CheckAll (taken out of RowChecks, for cuts without the others). -/
namespace Go.Proofs.YtjihfabhgcfjnaaGreatDoor
set_option linter.unusedVariables false
set_option linter.unusedSimpArgs false
open Go.RowKit

theorem drop_cons {α : Type} {xs : List α} {j : Nat} {x : α} (h : xs[j]? = some x) : xs.drop j = x :: xs.drop (j + 1) := by
  obtain ⟨hj, rfl⟩ := List.getElem?_eq_some_iff.1 h
  exact List.drop_eq_getElem_cons hj

def allE (n : Int) : List (List Int) → Int
  | [] => 0
  | r :: l => if rowE r = 0 then (if (r.length : Int) = n then allE n l else 5) else rowE r
theorem rows_nil (w : World) : Rows2 w (.slice none 0 0) [] := ⟨[], rfl, by simp, ⟨none, 0, rfl, Nat.le_refl _, by unfold maxLen; omega, fun _ => rfl, fun h => absurd rfl h⟩, by simp⟩
theorem rows_lit1 {w : World} {u : Value} {xs : List Int} (h : Ints w u xs) (T : TypeId) : Rows2 (w.alloc (.cells #[u] T)) (.slice (some ⟨w.heap.size, 0, none⟩) 1 1) [xs] :=
  ListAt.litAt (R := Ints) (fun _ _ _ _ he h => Ints.ext h he) rfl [u] [xs] T 1 rfl rfl (by simp [maxLen]) _ rfl (fun j a x ha hx => by
    match j with
    | 0 => simp at ha hx; subst ha; subst hx; exact h
    | j + 1 => simp at ha)
set_option maxRecDepth 100000 in
set_option maxHeartbeats 2000000 in
theorem checkAll_any (xss : List (List Int)) (n : Int) (v : Value) (w : World) (h : Rows2 w v xss) :
    Calls Tryz.prog 129 #[v, .int .i64 n] w fun e w' => e = .returned (.int .i64 (allE n xss)) ∧ Ext w w' := by
  obtain ⟨a, c, rfl, h1, h2, -, hc⟩ := inCell.open h
  have HC := Lib.hid hc
  unfold maxLen at h2
  clear h hc
  go_enter Tryz.func129, Tryz.ntmps129
  go_wp2_with fail
  go_loopw [10] (fun t wr => ∃ j : Nat, j ≤ xss.length ∧ t = .int .i64 j ∧ Hid (allE n (xss.drop j) = allE n xss) ∧ Ext w wr) (fun t _ => xss.length - (intOf t).toNat)
  case atStart => exact ⟨0, by omega, rfl, by unfold Hid; rw [List.drop_zero], Ext.refl _⟩
  case round =>
    obtain ⟨j, hj, rfl, HR, hE⟩ := hrel
    by_cases hlt : j < xss.length
    · obtain ⟨b, off, rfl, hb, hcell⟩ := HC.out (by intro e; simp [e] at hlt)
      obtain ⟨x, hx⟩ : ∃ x, xss[j]? = some x := ⟨xss[j], List.getElem?_eq_getElem hlt⟩
      obtain ⟨u, hu, hcu⟩ := hcell j x hx
      have g1 := hE.cell hcu
      have hd := drop_cons hx
      have hr := HR.out
      rw [hd] at hr
      have HCK := Lib.hid (rowCheck_any x u wr (hu.ext hE))
      obtain ⟨a2, c2, rfl, k1, k2, -, -, -⟩ := hu.open
      clear hcell hx hd HR hu hcu
      by_cases he : rowE x = 0
      · rw [he] at HCK
        by_cases hl : (x.length : Int) = n
        · have HR2 : Hid (allE n (xss.drop (j + 1)) = allE n xss) := by
            unfold Hid; rw [← hr]; simp only [allE]; rw [if_pos he, if_pos hl]
          have hb : ((x.length : Int) != n) = false := by simp [hl]
          clear hr he hl
          go_wp2_with fail
          refine HCK.out.mono ?_
          rintro e w1 ⟨rfl, hE1⟩
          have hE2 := Ext.trans hE hE1
          clear hE1 HCK
          go_wp2_with fail
          go_roundw
          case rel => exact ⟨j + 1, by omega, by go_num, HR2.out, hE2⟩
          case measure => simp [intOf]; omega
        · have HQ : Hid (allE n xss = 5) := by
            unfold Hid; rw [← hr]; simp only [allE]; rw [if_pos he, if_neg hl]
          have hb : ((x.length : Int) != n) = true := by simp [hl]
          clear hr he hl
          go_wp2_with fail
          refine HCK.out.mono ?_
          rintro e w1 ⟨rfl, hE1⟩
          have HE2 := Lib.hid (Ext.trans hE hE1)
          clear hE1 HCK
          go_wp2_with fail
          go_ret
          exact ⟨by rw [HQ.out]; rfl, HE2.out⟩
      · have h4 : rowE x = 4 := (rowE_four x).resolve_left he
        have HQ : Hid (allE n xss = 4) := by
          unfold Hid; rw [← hr]; simp only [allE]; rw [if_neg he, h4]
        rw [h4] at HCK
        clear hr he h4
        go_wp2_with fail
        refine HCK.out.mono ?_
        rintro e w1 ⟨rfl, hE1⟩
        have HE2 := Lib.hid (Ext.trans hE hE1)
        clear hE1 HCK
        go_wp2_with fail
        go_ret
        exact ⟨by rw [HQ.out]; rfl, HE2.out⟩
    · obtain rfl : j = xss.length := by omega
      have HQ : Hid (allE n xss = 0) := by
        have := HR.out
        rw [List.drop_length] at this
        exact this.symm
      clear HR
      go_wp2_with fail
      go_ret
      exact ⟨by rw [HQ.out]; rfl, hE⟩
end Go.Proofs.YtjihfabhgcfjnaaGreatDoor
/- Contracts: lattice.check; pivot of package hermite; table.Check. -/
namespace Go.Proofs.YtjihfabhgcfjnaaGreatDoor
set_option linter.unusedVariables false
set_option linter.unusedSimpArgs false
open Go.RowKit

/-- The error of rows with some columns. -/
def latE (n : Int) (xss : List (List Int)) : Int := if n < 0 ∨ 12 < n then 3 else if 12 < xss.length then 4 else allE n xss
set_option maxRecDepth 100000 in
set_option maxHeartbeats 1000000 in
theorem latCheck_any (xss : List (List Int)) (n : Int) (v : Value) (w : World) (h : Rows2 w v xss) :
    Calls Tryz.prog 88 #[.int .i64 n, v] w fun e w' => e = .returned (.int .i64 (latE n xss)) ∧ Ext w w' := by
  have HC := Lib.hid (checkAll_any xss n v w h)
  obtain ⟨a, c, rfl, h1, h2, -, hc⟩ := inCell.open h
  clear h hc
  by_cases q1 : n < 0
  · have HL : Hid (latE n xss = 3) := by unfold Hid latE; rw [if_pos (.inl q1)]
    go_enter Tryz.func88, Tryz.ntmps88
    go_wp2_with fail
    go_ret
    exact ⟨by rw [HL.out]; rfl, Ext.refl _⟩
  · by_cases q2 : 12 < n
    · have HL : Hid (latE n xss = 3) := by unfold Hid latE; rw [if_pos (.inr q2)]
      go_enter Tryz.func88, Tryz.ntmps88
      go_wp2_with fail
      go_ret
      exact ⟨by rw [HL.out]; rfl, Ext.refl _⟩
    · by_cases q3 : 12 < xss.length
      · have HL : Hid (latE n xss = 4) := by unfold Hid latE; rw [if_neg (by omega), if_pos q3]
        have q4 : (12 : Int) < (xss.length : Int) := by omega
        go_enter Tryz.func88, Tryz.ntmps88
        go_wp2_with fail
        go_ret
        exact ⟨by rw [HL.out]; rfl, Ext.refl _⟩
      · have HL : Hid (latE n xss = allE n xss) := by unfold Hid latE; rw [if_neg (by omega), if_neg q3]
        have q4 : ¬ (12 : Int) < (xss.length : Int) := by omega
        go_enter Tryz.func88, Tryz.ntmps88
        go_wp2_with fail
        refine HC.out.mono ?_
        rintro e w1 ⟨rfl, hE1⟩
        have HE1 := Lib.hid hE1
        clear hE1 HC
        go_wp2_with fail
        go_ret
        exact ⟨by rw [HL.out]; rfl, HE1.out⟩

/-- The place of the first element that is not 0. -/
theorem hermPivot1_any (x : Int) (w : World) : Calls Tryz.prog 187 #[.int .i64 x] w fun e w' => e = .returned (.bool (x != 0)) ∧ w = w' := by
  go_enter Tryz.func187, Tryz.ntmps187
  go_wp2
  go_ret
  exact ⟨rfl, rfl⟩
theorem hermPivot_any (xs : List Int) (v : Value) (w : World) (h : Ints w v xs) :
    Calls Tryz.prog 174 #[v] w fun e w' => e = .returned (.int .i64 (idxRow (· != 0) xs)) ∧ Ext w w' := by
  have HC := Lib.hid (indexFuncRow_any xs v 187 #[] (· != 0) w h (enters_of Tryz.func187 (by kernel_rfl) rfl) (fun W x _ _ => (hermPivot1_any x W).mono fun _ _ ⟨he, hw⟩ => ⟨he, hw ▸ Ext.refl _⟩))
  clear h
  go_enter Tryz.func174, Tryz.ntmps174
  go_wp2_with (go_at_call 104; refine HC.out.mono ?_; rintro e w' ⟨rfl, hE'⟩)
  go_ret
  exact ⟨rfl, by assumption⟩
theorem great_any (n : Int) (w : World) : Calls Tryz.prog 173 #[.int .i64 n] w fun e w' => e = .returned (.bool (!fitB n)) ∧ w = w' := by
  by_cases h : n ≤ 1000000000
  · by_cases h2 : -1000000000 ≤ n
    · go_enter Tryz.func173, Tryz.ntmps173
      go_wp2
      go_ret
      exact ⟨by simp [fitB, h, h2]; try omega, rfl⟩
    · go_enter Tryz.func173, Tryz.ntmps173
      go_wp2
      go_ret
      exact ⟨by simp [fitB, h, h2]; try omega, rfl⟩
  · go_enter Tryz.func173, Tryz.ntmps173
    go_wp2
    go_ret
    exact ⟨by simp [fitB, h]; try omega, rfl⟩
end Go.Proofs.YtjihfabhgcfjnaaGreatDoor
/- Contract: table.Check. -/
namespace Go.Proofs.YtjihfabhgcfjnaaGreatDoor
set_option linter.unusedVariables false
set_option linter.unusedSimpArgs false
open Go.RowKit

def tabR (n : Nat) : List (List Int) → Int
  | [] => 0
  | r :: l => if 12 < r.length then 4 else if r.length = n then (if r.any (fun x => !fitB x) then 4 else tabR n l) else 5
/-- The error of a matrix. -/
def tabE (xss : List (List Int)) : Int := if 12 < xss.length then 4 else tabR (xss.headD []).length xss

set_option maxRecDepth 100000 in
set_option maxHeartbeats 2000000 in
theorem tabCheck_any (xss : List (List Int)) (v : Value) (w : World) (h : Rows2 w v xss) :
    Calls Tryz.prog 149 #[v] w fun e w' => e = .returned (.int .i64 (tabE xss)) ∧ Ext w w' := by
  obtain ⟨a, c, rfl, h1, h2, -, hc⟩ := inCell.open h
  have HC := Lib.hid hc
  unfold maxLen at h2
  clear h hc
  by_cases hl : 12 < xss.length
  · have HT : Hid (tabE xss = 4) := by unfold Hid tabE; rw [if_pos hl]
    have hl' : (12 : Int) < (xss.length : Int) := by omega
    go_enter Tryz.func149, Tryz.ntmps149
    go_wp2_with fail
    go_ret
    exact ⟨by rw [HT.out]; rfl, Ext.refl _⟩
  · have HT : Hid (tabE xss = tabR (xss.headD []).length xss) := by unfold Hid tabE; rw [if_neg hl]
    have hl' : ¬ (12 : Int) < (xss.length : Int) := by omega
    obtain ⟨n, hn⟩ : ∃ n, n = (xss.headD []).length := ⟨_, rfl⟩
    rw [← hn] at HT
    have HN := Lib.hid hn
    clear hn
    go_enter Tryz.func149, Tryz.ntmps149
    go_wp2_with fail
    go_loopw [10] (fun t wr => ∃ j : Nat, j ≤ xss.length ∧ t = .int .i64 j ∧ Ext w wr ∧ Hid (tabE xss = tabR n (xss.drop j))) (fun t _ => xss.length - (intOf t).toNat)
    case atStart => exact ⟨0, by omega, rfl, Ext.refl _, HT.out⟩
    case round =>
      obtain ⟨j, hj, rfl, hE, HD⟩ := hrel
      obtain ⟨wo, rfl⟩ : ∃ wo : World, wo = wr := ⟨_, rfl⟩
      have HE := Lib.hid hE
      by_cases hlt : j < xss.length
      · obtain ⟨b, off, rfl, hb, hcell⟩ := HC.out (by intro e; simp [e] at hlt)
        obtain ⟨xs, hx⟩ : ∃ x, xss[j]? = some x := ⟨xss[j], List.getElem?_eq_getElem hlt⟩
        obtain ⟨ys, hy⟩ : ∃ y, xss[0]? = some y := ⟨xss[0]'(by omega), List.getElem?_eq_getElem _⟩
        have hny : ys.length = n := by
          rw [HN.out]
          cases xss with
          | nil => simp at hlt
          | cons z t => simp at hy; rw [hy]; rfl
        obtain ⟨vx, hvx, hcx⟩ := hcell j xs hx
        obtain ⟨vy, hvy, hcy⟩ := hcell 0 ys hy
        rw [Nat.add_zero] at hcy
        obtain ⟨ax, cx, rfl, -, -, -, -, -⟩ := Ints.open hvx
        obtain ⟨ay, cy, rfl, -, -, -, -, -⟩ := Ints.open hvy
        rw [hny] at hcy
        have g1 := hE.cell hcx
        have g2 := hE.cell hcy
        have HX := Lib.hid (Ints.ext hvx hE)
        have HDS : Hid (tabE xss = if 12 < xs.length then 4 else if xs.length = n then (if xs.any (fun x => !fitB x) then 4 else tabR n (xss.drop (j + 1))) else 5) := by
          unfold Hid; rw [HD.out, drop_cons hx]; rfl
        have hpos : 0 < xss.length := by omega
        have HANY := Lib.hid (fun W he => containsRow_any xs _ 173 #[] (fun x => !fitB x) W (HX.out.ext (w' := W) he) (enters_of Tryz.func173 (by kernel_rfl) rfl) (fun W x _ _ => (great_any x W).mono fun _ _ ⟨he, hw⟩ => ⟨he, hw ▸ Ext.refl _⟩))
        clear hcell hx hy hny hvx hvy hcx hcy hE
        by_cases q1 : 12 < xs.length
        · have q2 : (12 : Int) < (xs.length : Int) := by omega
          rw [if_pos q1] at HDS
          go_wp2_with fail
          go_ret
          exact ⟨by rw [HDS.out]; rfl, HE.out⟩
        · have q2 : ¬ (12 : Int) < (xs.length : Int) := by omega
          rw [if_neg q1] at HDS
          by_cases q3 : xs.length = n
          · rw [if_pos q3] at HDS
            have q4 : ((xs.length : Int) != (n : Int)) = false := by simp [q3]
            cases hany : xs.any (fun x => !fitB x) with
            | true =>
              rw [hany, if_pos rfl] at HDS
              rw [hany] at HANY
              clear q3 hany
              go_wp2_with fail
              refine (HANY.out _ (Ext.refl _)).mono ?_
              rintro e w1 ⟨rfl, hE1⟩
              have HE1 := Lib.hid (Ext.trans HE.out hE1)
              clear hE1 HANY
              go_wp2_with fail
              go_ret
              exact ⟨by rw [HDS.out]; rfl, HE1.out⟩
            | false =>
              rw [hany, if_neg Bool.false_ne_true] at HDS
              rw [hany] at HANY
              clear q3 hany
              go_wp2_with fail
              refine (HANY.out _ (Ext.refl _)).mono ?_
              rintro e w1 ⟨rfl, hE1⟩
              have HE1 := Lib.hid (Ext.trans HE.out hE1)
              clear hE1 HANY
              go_wp2_with fail
              go_roundw
              case rel => exact ⟨j + 1, by omega, by go_num, HE1.out, HDS.out⟩
              case measure => simp [intOf]; omega
          · rw [if_neg q3] at HDS
            have q4 : ((xs.length : Int) != (n : Int)) = true := by simp; omega
            clear q3
            go_wp2_with fail
            go_ret
            exact ⟨by rw [HDS.out]; rfl, HE.out⟩
      · obtain rfl : j = xss.length := by omega
        have HF : Hid (tabE xss = 0) := by unfold Hid; rw [HD.out, List.drop_length]; rfl
        clear HD hE
        go_wp2_with fail
        go_ret
        exact ⟨by rw [HF.out]; rfl, HE.out⟩
end Go.Proofs.YtjihfabhgcfjnaaGreatDoor
