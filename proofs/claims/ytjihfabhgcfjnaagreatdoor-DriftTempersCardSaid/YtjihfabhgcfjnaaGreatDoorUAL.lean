/- Merged: LawA. -/
import Derived.Test.YtjihfabhgcfjnaaGreatDoorUAK
import Derived.Deep.RegionHeld3
/- Contracts of the statements' own small functions: times, add, sub, zero, long. -/
namespace Go.Proofs.YtjihfabhgcfjnaaGreatDoor
set_option linter.unusedVariables false
set_option linter.unusedSimpArgs false
open Go.RowKit

/-- Integers in a slice that a call builds. -/
def intC5 (_ : World) (u : List Value) (x : Int) : Prop := u = [.int .i64 x]

theorem Build.ints5 {w : World} {base : Nat} {e : TypeId} {v : Value} {xs : List Int} (h : Build w base e 1 v intC5 xs) : w.ownsRow base e 1 v xs.length (xs.map (Value.int .i64)) := by
  obtain ⟨us, h1, h2, h3, h4⟩ := h
  have : us = xs.map fun x => [Value.int .i64 x] := by
    apply List.ext_getElem?
    intro i
    rw [List.getElem?_map]
    by_cases hi : i < xs.length
    · have hi2 : i < us.length := by omega
      have := (h4 i us[i] xs[i] (by simp [hi2]) (by simp [hi])).now
      simp only [intC5] at this
      simp [hi, hi2, this]
    · rw [List.getElem?_eq_none (by omega), List.getElem?_eq_none (by omega)]; rfl
  rw [this, flatten_one] at h3
  exact h3

set_option maxRecDepth 100000 in
set_option maxHeartbeats 1000000 in
theorem times5_any (xs : List Int) (n : Int) (v : Value) (w : World) (h : Ints w v xs) (hlen : xs.length ≤ 1000) (hb : ∀ x ∈ xs, -4611686018427387904 ≤ n * x ∧ n * x ≤ 4611686018427387904) :
    Calls Tryz.prog 121 #[v, .int .i64 n] w fun e w' => ∃ r, e = .returned r ∧ Ext w w' ∧ w'.ownsRow w.heap.size 3 1 r xs.length ((xs.map (n * ·)).map (Value.int .i64)) := by
  obtain ⟨a, c, rfl, h1, h2, -, -, hc⟩ := h.open
  have HC := Lib.hid hc; have HB := Lib.hid hb
  clear hc h hb
  unfold maxLen at h2
  go_enter Tryz.func121, Tryz.ntmps121
  go_wp2
  go_loopw [5, 10] (fun out t wr => ∃ pre rest, t = .int .i64 (pre.length : Nat) ∧ Ext w wr ∧ Hid (xs = pre ++ rest) ∧ Hid (Build wr w.heap.size 3 1 out intC5 (pre.map (n * ·)))) (fun _ t _ => xs.length - (intOf t).toNat)
  case atStart => exact ⟨[], xs, rfl, Ext.refl _, rfl, Build.nil _ _ _ _ _⟩
  case round =>
    obtain ⟨pre, rest, rfl, hE, HP, HBu⟩ := hrel
    have hlen2 : xs.length = pre.length + rest.length := by rw [HP.out]; simp
    cases rest with
    | nil =>
      have hge : ¬ (pre.length < xs.length) := by simp at hlen2; omega
      have HX : Hid (xs = pre) := by have := HP.out; simpa [Hid] using this
      clear hlen2
      go_wp2
      go_ret
      refine ⟨_, rfl, hE, ?_⟩
      have := HBu.out.ints5
      rw [HX.out]
      simpa using this
    | cons x rest =>
      have hlt : pre.length < xs.length := by simp at hlen2; omega
      clear hlen2
      obtain ⟨b, off, rfl, hb, hcell⟩ := HC.out (by rw [HP.out]; simp)
      have g1 := hE.cell (hcell pre.length x (by rw [HP.out]; simp))
      obtain ⟨hx1, hx2⟩ := HB.out x (by rw [HP.out]; simp)
      have hszr := hE.size
      clear hcell
      go_wp2_with (at_builtin; go_must (refine wpList_append_build _ rfl _ _ 37 rfl w.heap.size 3 (.int .i64 0) 1 8 Tryz.underlying37 infoInt rfl (by decide) u5 intC5 (pre.map (n * ·)) (n * x) #[.int .i64 (n * x)] 3 rfl HBu.out rfl rfl ?e1 (fun _ _ => rfl) ?e2 ?e3 hszr ?_))
      case e1 => simp [Value.oneCell']
      case e2 => simp; omega
      case e3 => omega
      intro v' w5 hB5 hg5 hb5 hs5 _
      have HB5 := Lib.hid hB5
      have HE5 := Lib.hid (Below.trans hE hb5)
      clear hB5 hg5 hb5
      go_wp2
      go_roundw
      case rel => exact ⟨pre ++ [x], rest, by simp, HE5.out, by unfold Hid; rw [HP.out]; simp, by have := HB5.out; simpa [Hid] using this⟩
      case measure => simp [intOf]; omega

set_option maxRecDepth 100000 in
set_option maxHeartbeats 1000000 in
theorem add_any (xs ys : List Int) (u v : Value) (w : World) (h : Ints w u xs) (k : Ints w v ys) (hl : ys.length = xs.length) (hlen : xs.length ≤ 1000) (hx : ∀ x ∈ xs, -4611686018427387904 ≤ x ∧ x ≤ 4611686018427387904) (hy : ∀ x ∈ ys, -4611686018427387904 ≤ x ∧ x ≤ 4611686018427387903) :
    Calls Tryz.prog 120 #[u, v] w fun e w' => ∃ r, e = .returned r ∧ Ext w w' ∧ w'.ownsRow w.heap.size 3 1 r xs.length ((List.zipWith (· + ·) xs ys).map (Value.int .i64)) := by
  obtain ⟨a, c, rfl, h1, h2, -, -, hc⟩ := h.open
  obtain ⟨a', c', rfl, k1, k2, -, -, kc⟩ := k.open
  have HC := Lib.hid hc; have KC := Lib.hid kc; have HX := Lib.hid hx; have HY := Lib.hid hy; have HL := Lib.hid hl
  rw [hl] at k1
  rw [hl]
  clear hc kc h k hx hy hl
  unfold maxLen at h2 k2
  go_enter Tryz.func120, Tryz.ntmps120
  go_wp2
  go_loopw [5, 9] (fun out t wr => ∃ j : Nat, j ≤ xs.length ∧ t = .int .i64 j ∧ Ext w wr ∧ Hid (Build wr w.heap.size 3 1 out intC5 ((List.zipWith (· + ·) xs ys).take j))) (fun _ t _ => xs.length - (intOf t).toNat)
  case atStart => exact ⟨0, by omega, rfl, Ext.refl _, Build.nil _ _ _ _ _⟩
  case round =>
    obtain ⟨j, hj, rfl, hE, HBu⟩ := hrel
    by_cases hlt : j < xs.length
    · obtain ⟨b, off, rfl, hb, hcell⟩ := HC.out (by intro e; simp [e] at hlt)
      obtain ⟨b', off', rfl, hb', hcell'⟩ := KC.out (by intro e; have := HL.out; simp [e] at this; omega)
      obtain ⟨x, hx⟩ : ∃ x, xs[j]? = some x := ⟨xs[j], List.getElem?_eq_getElem hlt⟩
      obtain ⟨y, hy⟩ : ∃ y, ys[j]? = some y := ⟨ys[j]'(by have := HL.out; omega), List.getElem?_eq_getElem _⟩
      have g1 := hE.cell (hcell j x hx)
      have g2 := hE.cell (hcell' j y hy)
      obtain ⟨hx1, hx2⟩ := HX.out x (List.mem_of_getElem? hx)
      obtain ⟨hy1, hy2⟩ := HY.out y (List.mem_of_getElem? hy)
      have q1 : (j : Int) < (xs.length : Int) := by omega
      have q2 : IntKind.i64.wrap (x + y) = x + y := by rw [IntKind.wrap_i64]; omega
      have HN : Hid ((List.zipWith (· + ·) xs ys).take (j + 1) = (List.zipWith (· + ·) xs ys).take j ++ [x + y]) := by
        unfold Hid
        rw [List.take_add_one, List.getElem?_zipWith, hx, hy]; rfl
      have hszr := hE.size
      clear hcell hcell' hx hy
      go_wp2
      have HBd := Lib.hid (Build.ext HBu.out (Ext.drew wr))
      have hEd : Ext w wr.drew := Below.drew hE
      have hszd := hEd.size
      have hjl : ((List.zipWith (· + ·) xs ys).take j).length < 1000000 := by simp; omega
      have HJL := Lib.hid hjl
      clear hjl
      go_region_held3 (fun w' => w'.cell? ⟨b, off + j, none⟩ = some (.int .i64 x) ∧ w'.cell? ⟨b', off' + j, none⟩ = some (.int .i64 y)) (first | go_keep | exact ⟨(Below.cell hb5 (p := ⟨b, off + j, none⟩) hb).trans g1, (Below.cell hb5 (p := ⟨b', off' + j, none⟩) hb').trans g2⟩)
        ((refine step_append_build wr.drew (by rfl) _ _ 37 (by rfl) w.heap.size 3 (.int .i64 0) 1 8 Tryz.underlying37 infoInt (by rfl) (by decide) u5 intC5 ((List.zipWith (· + ·) xs ys).take j) (x + y) #[.int .i64 (x + y)] 3 (by rfl) HBd.out (by rfl) (by rfl) (by simp [Value.oneCell']) (fun _ _ => by rfl) HJL.out (by decide) hszd ?_; intro v' w5 hB5 hg5 hb5 hs5 _))
      rw [← HN.out] at hB5
      have HB5 := Lib.hid hB5
      have HE5 := Lib.hid (Below.trans hEd hb5)
      clear hB5 hg5 hb5
      go_wp2
      go_roundw
      case rel => exact ⟨j + 1, by omega, by go_num, HE5.out, HB5.out⟩
      case measure => simp [intOf]; omega
    · obtain rfl : j = xs.length := by omega
      go_wp2
      go_ret
      refine ⟨_, rfl, hE, ?_⟩
      have hl := HL.out
      have := HBu.out.ints5
      rw [List.take_of_length_le (by simp; omega)] at this
      simpa [hl] using this

theorem sub_any (xs ys : List Int) (u v : Value) (w : World) (h : Ints w u xs) (k : Ints w v ys) (hl : ys.length = xs.length) (hlen : xs.length ≤ 1000) (hx : ∀ x ∈ xs, -2305843009213693952 ≤ x ∧ x ≤ 2305843009213693952) (hy : ∀ x ∈ ys, -2305843009213693952 ≤ x ∧ x ≤ 2305843009213693952) :
    Calls Tryz.prog 69 #[u, v] w fun e w' => ∃ r, e = .returned r ∧ Ext w w' ∧ w'.ownsRow w.heap.size 3 1 r xs.length ((sumRows xs ys).map (Value.int .i64)) := by
  have HT := Lib.hid (times5_any ys (-1) v w k (by omega) (fun x hx' => by have := hy x hx'; omega))
  have HA := Lib.hid (fun r w' (he : Ext w w') (hr : w'.ownsRow w.heap.size 3 1 r ys.length ((ys.map (-1 * ·)).map (Value.int .i64))) =>
    add_any xs (ys.map (-1 * ·)) u r w' (h.ext he) (Ints.of_owns (by simpa using hr) (by intro x hx'; obtain ⟨y, hy', rfl⟩ := List.mem_map.1 hx'; have := hy y hy'; omega)) (by simpa using hl) hlen (fun x hx' => by have := hx x hx'; omega) (fun x hx' => by obtain ⟨y, hy', rfl⟩ := List.mem_map.1 hx'; have := hy y hy'; omega))
  have HE : Hid (List.zipWith (· + ·) xs (ys.map (-1 * ·)) = sumRows xs ys) := by
    unfold Hid sumRows
    rw [List.zipWith_map_right]
    congr 1
    funext a b
    omega
  clear h k hx hy
  go_enter Tryz.func69, Tryz.ntmps69
  go_wp2_with fail
  refine HT.out.mono ?_
  rintro e w1 ⟨r, rfl, hE1, hr⟩
  have HR := Lib.hid hr
  clear hr
  go_wp2_with fail
  refine (HA.out r _ hE1 HR.out).mono ?_
  rintro e w2 ⟨r2, rfl, hE2, hr2⟩
  rw [HE.out] at hr2
  have HR2 := Lib.hid hr2
  clear hr2
  go_wp2_with fail
  go_ret
  exact ⟨r2, rfl, hE1.trans hE2, owns_base HR2.out hE1.size⟩

theorem zero1_any (x : Int) (w : World) : Calls Tryz.prog 63 #[.int .i64 x] w fun e w' => e = .returned (.bool (x != 0)) ∧ w = w' := by
  go_enter Tryz.func63, Tryz.ntmps63
  go_wp2
  go_ret
  exact ⟨rfl, rfl⟩

theorem zero_any (xs : List Int) (v : Value) (w : World) (h : Ints w v xs) :
    Calls Tryz.prog 21 #[v] w fun e w' => e = .returned (.bool (!xs.any (· != 0))) ∧ Ext w w' := by
  have HC := Lib.hid (containsRow_any xs v 63 #[] (· != 0) w h (enters_of Tryz.func63 (by kernel_rfl) rfl) (fun W x _ _ => (zero1_any x W).mono fun _ _ ⟨he, hw⟩ => ⟨he, hw ▸ Ext.refl _⟩))
  clear h
  go_enter Tryz.func21, Tryz.ntmps21
  go_wp2_with (go_at_call 62; refine HC.out.mono ?_; rintro e w' ⟨rfl, hE'⟩)
  go_ret
  exact ⟨rfl, by assumption⟩

end Go.Proofs.YtjihfabhgcfjnaaGreatDoor
