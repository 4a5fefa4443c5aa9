/- Merged: TmpK, TmpL, RegF. -/
import Derived.Test.YtehknemdfbkimaaGreatDoorQBC
import Derived.Test.YtehknemdfbkimaaGreatDoorQAV
import Derived.Laws.Rows
/- Contracts of laws 12 and 18: Primes, Interval, build. -/
namespace Go.Proofs.YtehknemdfbkimaaGreatDoor
set_option linter.unusedVariables false
set_option linter.unusedSimpArgs false
open Go.RowKit

/-- One of ten lists of primes. -/
def primes12 (c : Nat) : List Int := match c with | 0 => [2, 3, 5] | 1 => [2, 3, 5, 7] | 2 => [2, 3] | 3 => [2, 3, 7] | 4 => [2, 5, 7] | 5 => [3, 5, 7] | 6 => [2, 3, 5, 11] | 7 => [2] | 8 => [2, 3, 7, 13] | _ => [3, 5, 7, 13]
theorem primes12_ok (c : Nat) : primesE (primes12 c) = 0 ∧ 1 ≤ (primes12 c).length ∧ (primes12 c).length ≤ 4 := by
  match c with
  | 0 => decide +kernel
  | 1 => decide +kernel
  | 2 => decide +kernel
  | 3 => decide +kernel
  | 4 => decide +kernel
  | 5 => decide +kernel
  | 6 => decide +kernel
  | 7 => decide +kernel
  | 8 => decide +kernel
  | _ + 9 => exact (by decide +kernel : primesE [3, 5, 7, 13] = 0 ∧ 1 ≤ [3, 5, 7, 13].length ∧ [3, 5, 7, 13].length ≤ 4)

/-- Several objects are made, one behind another. -/
def allocs (w : World) : List Obj → World
  | [] => w
  | o :: l => allocs (w.alloc o) l
theorem allocs_ext : ∀ (l : List Obj) (w : World), Ext w (allocs w l)
  | [], w => Ext.refl w
  | o :: l, w => (Ext.alloc w o).trans (allocs_ext l (w.alloc o))
theorem allocs_get : ∀ (l : List Obj) (w : World) (i : Nat) (o : Obj), l[i]? = some o → (allocs w l).heap[w.heap.size + i]? = some o
  | [], w, i, o, h => by simp at h
  | x :: l, w, 0, o, h => by
    simp at h; subst h
    exact block_ext (heap_alloc_new w x) (allocs_ext l (w.alloc x))
  | x :: l, w, i + 1, o, h => by
    have := allocs_get l (w.alloc x) i o (by simpa using h)
    rw [show (w.alloc x).heap.size = w.heap.size + 1 by simp] at this
    rw [show w.heap.size + (i + 1) = w.heap.size + 1 + i by omega]; exact this
theorem ints_block {W : World} {S : Nat → Prop} {B : Nat} {xs : List Int} (h : W.heap[B]? = some (.cells (xs.map (Value.int .i64)).toArray 3 (0, 0))) (hS : ¬ S B) (hl : xs.length ≤ maxLen) (hb : ∀ x ∈ xs, -9223372036854775808 ≤ x ∧ x ≤ 9223372036854775807) :
    SafeS W S fun W => Ints W (.slice (some ⟨B, 0, none⟩) xs.length xs.length) xs := fun W' hG => by
  have h' := (hG.block B (block_lt h) hS).trans h
  exact RowF.ints ⟨block_lt h', fun j x hx => by rw [block_cell h' j]; simp [hx], fun j => block_free h' j⟩ (Nat.le_refl _) hl hb
def primObjs (w : World) : List Obj := [.cells #[.int .i64 2, .int .i64 3, .int .i64 5] 3, .cells #[.int .i64 2, .int .i64 3, .int .i64 5, .int .i64 7] 3, .cells #[.int .i64 2, .int .i64 3] 3, .cells #[.int .i64 2, .int .i64 3, .int .i64 7] 3, .cells #[.int .i64 2, .int .i64 5, .int .i64 7] 3, .cells #[.int .i64 3, .int .i64 5, .int .i64 7] 3, .cells #[.int .i64 2, .int .i64 3, .int .i64 5, .int .i64 11] 3, .cells #[.int .i64 2] 3, .cells #[.int .i64 2, .int .i64 3, .int .i64 7, .int .i64 13] 3, .cells #[.int .i64 3, .int .i64 5, .int .i64 7, .int .i64 13] 3, .cells #[.slice (some ⟨w.heap.size, 0, none⟩) 3 3, .slice (some ⟨w.heap.size + 1, 0, none⟩) 4 4, .slice (some ⟨w.heap.size + 1 + 1, 0, none⟩) 2 2, .slice (some ⟨w.heap.size + 1 + 1 + 1, 0, none⟩) 3 3, .slice (some ⟨w.heap.size + 1 + 1 + 1 + 1, 0, none⟩) 3 3, .slice (some ⟨w.heap.size + 1 + 1 + 1 + 1 + 1, 0, none⟩) 3 3, .slice (some ⟨w.heap.size + 1 + 1 + 1 + 1 + 1 + 1, 0, none⟩) 4 4, .slice (some ⟨w.heap.size + 1 + 1 + 1 + 1 + 1 + 1 + 1, 0, none⟩) 1 1, .slice (some ⟨w.heap.size + 1 + 1 + 1 + 1 + 1 + 1 + 1 + 1, 0, none⟩) 4 4, .slice (some ⟨w.heap.size + 1 + 1 + 1 + 1 + 1 + 1 + 1 + 1 + 1, 0, none⟩) 4 4] 63]
theorem prim_end (w : World) (k : Nat) (hk : k ≤ 9) (ho : (primObjs w)[k]? = some (.cells ((primes12 k).map (Value.int .i64)).toArray 3)) (hb : ∀ x ∈ primes12 k, -9223372036854775808 ≤ x ∧ x ≤ 9223372036854775807) :
    ∃ a cp, Ending.returned (.slice (some ⟨w.heap.size + k, 0, none⟩) (primes12 k).length (primes12 k).length) = .returned (.slice a (primes12 k).length cp) ∧ SafeS (allocs w (primObjs w)) (· < w.heap.size) (fun W => Ints W (.slice a (primes12 k).length cp) (primes12 k)) ∧ Ext w (allocs w (primObjs w)) :=
  ⟨_, _, rfl, ints_block (allocs_get _ w k _ ho) (by omega) (by have := (primes12_ok k).2.2; unfold maxLen; omega) hb, allocs_ext _ w⟩

set_option maxRecDepth 100000 in
set_option maxHeartbeats 8000000 in
theorem primes12_any (c : Int) (hc0 : 0 ≤ c) (hc1 : c ≤ 255) (w : World) :
    Calls Tryz.prog 46 #[.int .u8 c] w fun e w' => ∃ a cp, e = .returned (.slice a (primes12 (c % 10).toNat).length cp) ∧ SafeS w' (· < w.heap.size) (fun W => Ints W (.slice a (primes12 (c % 10).toNat).length cp) (primes12 (c % 10).toNat)) ∧ Ext w w' := by
  have hm : c.tmod 10 = c % 10 := by rw [Int.tmod_eq_emod_of_nonneg hc0]
  obtain ⟨k, hk, hk9⟩ : ∃ k : Nat, c % 10 = (k : Int) ∧ k ≤ 9 := ⟨(c % 10).toNat, by omega, by omega⟩
  rw [hk] at hm ⊢
  rw [Int.toNat_natCast]
  have hw : IntKind.wrap .i64 c = c := by rw [IntKind.wrap_i64]; omega
  clear hk
  have hcase : k = 0 ∨ k = 1 ∨ k = 2 ∨ k = 3 ∨ k = 4 ∨ k = 5 ∨ k = 6 ∨ k = 7 ∨ k = 8 ∨ k = 9 := by omega
  rcases hcase with rfl | rfl | rfl | rfl | rfl | rfl | rfl | rfl | rfl | rfl
  · go_enter Tryz.func46, Tryz.ntmps46
    go_wp2_with fail
    go_ret
    exact prim_end w 0 (by decide) rfl (by decide)
  · go_enter Tryz.func46, Tryz.ntmps46
    go_wp2_with fail
    go_ret
    exact prim_end w 1 (by decide) rfl (by decide)
  · go_enter Tryz.func46, Tryz.ntmps46
    go_wp2_with fail
    go_ret
    exact prim_end w 2 (by decide) rfl (by decide)
  · go_enter Tryz.func46, Tryz.ntmps46
    go_wp2_with fail
    go_ret
    exact prim_end w 3 (by decide) rfl (by decide)
  · go_enter Tryz.func46, Tryz.ntmps46
    go_wp2_with fail
    go_ret
    exact prim_end w 4 (by decide) rfl (by decide)
  · go_enter Tryz.func46, Tryz.ntmps46
    go_wp2_with fail
    go_ret
    exact prim_end w 5 (by decide) rfl (by decide)
  · go_enter Tryz.func46, Tryz.ntmps46
    go_wp2_with fail
    go_ret
    exact prim_end w 6 (by decide) rfl (by decide)
  · go_enter Tryz.func46, Tryz.ntmps46
    go_wp2_with fail
    go_ret
    exact prim_end w 7 (by decide) rfl (by decide)
  · go_enter Tryz.func46, Tryz.ntmps46
    go_wp2_with fail
    go_ret
    exact prim_end w 8 (by decide) rfl (by decide)
  · go_enter Tryz.func46, Tryz.ntmps46
    go_wp2_with fail
    go_ret
    exact prim_end w 9 (by decide) rfl (by decide)
end Go.Proofs.YtehknemdfbkimaaGreatDoor
/- Contracts of laws 12 and 18: Interval, build. -/
namespace Go.Proofs.YtehknemdfbkimaaGreatDoor
set_option linter.unusedVariables false
set_option linter.unusedSimpArgs false
open Go.RowKit

theorem row9_bd {n : Nat} {x : List Int} : ∀ y ∈ row9 n x, -9 ≤ y ∧ y ≤ 9 := by
  intro y hy
  obtain ⟨z, -, rfl⟩ := List.mem_map.1 hy
  have := tmod_bd z 10 (by decide)
  omega
set_option maxRecDepth 100000 in
set_option maxHeartbeats 4000000 in
theorem interval12_any (n : Nat) (P x : List Int) (vp : Value) (w : World) (hP : Ints w vp P) (hPl : P.length = n) (hn : n ≤ 4) (hx : x.length = 4) (hxb : ∀ a ∈ x, -128 ≤ a ∧ a ≤ 127) :
    Calls Tryz.prog 47 #[vp, .agg (x.map (Value.int .i8)).toArray] w fun e w' => ∃ a c, e = .returned (.slice a n c) ∧ w'.ownsRow w.heap.size 3 1 (.slice a n c) n ((row9 n x).map (Value.int .i64)) ∧ Ext w w' := by
  obtain ⟨ap, cp, rfl, -⟩ := hP.open
  rw [hPl]
  clear hP hPl
  obtain ⟨x0, x1, x2, x3, rfl⟩ : ∃ a b c d, x = [a, b, c, d] := by
    match x, hx with
    | [a, b, c, d], _ => exact ⟨a, b, c, d, rfl⟩
  go_enter Tryz.func47, Tryz.ntmps47
  go_wp2_with fail
  obtain ⟨W1, hW1⟩ : ∃ W1, w.alloc (.cells #[.int .i8 x0, .int .i8 x1, .int .i8 x2, .int .i8 x3] 76) = W1 := ⟨_, rfl⟩
  have HE1 : Hid (Ext w W1) := by rw [← hW1]; exact Ext.alloc _ _
  have HBX : Hid (W1.heap[w.heap.size]? = some (.cells #[.int .i8 x0, .int .i8 x1, .int .i8 x2, .int .i8 x3] 76 (0, 0))) := by rw [← hW1]; exact block_new _ _ _
  rw [hW1]
  clear hW1
  obtain ⟨x, hX⟩ : ∃ x, x = [x0, x1, x2, x3] := ⟨_, rfl⟩
  have HCX : Hid (∀ W, Ext W1 W → ∀ i, i < 4 → W.cell? ⟨w.heap.size, i, none⟩ = some (.int .i8 (x.getD i 0))) := fun W hW i hi => by
    have h := block_cell (block_ext HBX.out hW) i
    rw [h, hX]
    have hc : i = 0 ∨ i = 1 ∨ i = 2 ∨ i = 3 := by omega
    rcases hc with rfl | rfl | rfl | rfl <;> rfl
  have HXB : Hid (∀ i, -128 ≤ x.getD i 0 ∧ x.getD i 0 ≤ 127) := fun i => by
    rw [List.getD_eq_getElem?_getD]
    cases hq : x[i]? with
    | none => decide
    | some y => exact hxb y (by rw [← hX]; exact List.mem_of_getElem? hq)
  have HXL : Hid (x.length = 4) := by rw [hX]; rfl
  have HXE := Lib.hid hX
  rw [← hX]
  clear hX hx hxb HBX
  go_loopw [5, 6] (fun so t wr => ∃ i : Nat, i ≤ n ∧ t = .int .i64 i ∧ Hid (Ext W1 wr) ∧ Hid (∃ a c, so = .slice a i c) ∧ Hid (Build wr W1.heap.size 3 1 so intC (row9 i x))) (fun _ t _ => n - (intOf t).toNat)
  case atStart => exact ⟨0, by omega, rfl, Ext.refl _, ⟨none, 0, rfl⟩, by unfold Hid row9; exact Build.nil _ _ _ _ _⟩
  case round =>
    obtain ⟨i, hi, rfl, HE, HSL, HBu⟩ := hrel
    obtain ⟨wo, rfl⟩ : ∃ wo : World, wo = wr := ⟨_, rfl⟩
    by_cases hlt : i < n
    · have g1 := HCX.out wo HE.out i (by omega)
      obtain ⟨y, hy⟩ : ∃ y, x.getD i 0 = y := ⟨_, rfl⟩
      have hyb := HXB.out i
      rw [hy] at g1 hyb
      have hxi : x[i]? = some y := by
        have := HXL.out
        rw [List.getD_eq_getElem?_getD, List.getElem?_eq_getElem (by omega)] at hy
        rw [List.getElem?_eq_getElem (by omega), ← hy]; rfl
      have HN := Lib.hid (row9_succ hxi)
      have HJL : Hid ((row9 i x).length = i) := by unfold Hid; rw [row9_len (by have := HXL.out; omega)]
      have HJ : Hid ((row9 i x).length < 1000000) := by unfold Hid; rw [HJL.out]; omega
      have hyr := tmod_bd y 10 (by decide)
      have hszr := HE.out.size
      have i4 : (i : Int) < 4 := by omega
      clear hy hxi
      obtain ⟨z, hz⟩ : ∃ z, y.tmod 10 = z := ⟨_, rfl⟩
      rw [hz] at hyr HN
      go_wp2_with (at_builtin; go_must (refine wpList_append_build _ rfl _ _ 39 rfl W1.heap.size 3 (.int .i64 0) 1 8 Tryz.underlying39 infoInt rfl (by decide) u5 intC (row9 i x) z #[.int .i64 z] 3 rfl HBu.out rfl rfl ?e1 (fun _ _ => rfl) HJ.out (by decide) hszr ?_))
      case e1 => simp [Value.oneCell']
      intro v' w6 hB6 hg6 hb6 hs6 _
      have HV : Hid (∃ g cc, v' = .slice g (i + 1) cc) := by
        obtain ⟨us, b1, b2, b3, b4⟩ := id hB6
        obtain ⟨g, cc, hv, -⟩ := owns_shape b3 (by rw [List.length_append]; simp)
        refine ⟨some ⟨g, 0, none⟩, cc, ?_⟩
        rw [hv, List.length_append, HJL.out]; rfl
      rw [← HN.out] at hB6
      have HB6 := Lib.hid hB6
      have HX6 := Lib.hid (Below.trans HE.out hb6)
      clear hB6 hg6 hb6
      go_wp2_with fail
      go_roundw
      case rel => exact ⟨i + 1, by omega, by go_num, HX6.out, HV, HB6.out⟩
      case measure => simp [intOf]; omega
    · obtain rfl : i = n := by omega
      obtain ⟨a, c, rfl⟩ := HSL.out
      have hO := HBu.out.ints
      rw [row9_len (by have := HXL.out; omega)] at hO
      have HO := Lib.hid hO
      clear hO HBu HSL
      go_wp2_with fail
      go_ret
      rw [← HXE.out]
      refine ⟨a, c, rfl, ⟨HO.out.1, ?_⟩, HE1.out.trans HE.out⟩
      rcases HO.out.2 with h | ⟨g, cap, cur, hv, hg, rest⟩
      · exact .inl h
      · exact .inr ⟨g, cap, cur, hv, Nat.le_trans HE1.out.size hg, rest⟩

/-- The three fields are stored into the result's cells. -/
theorem build_end (U : World) (B N : Nat) (T : Nat → Prop) {P : List Int} {C M : List (List Int)} {vp vc vm : Value} (hP : SafeS U (fun k => T k ∨ k = B) fun W => Ints W vp P) (hC : SafeS U (· < N) fun W => Rows2 W vc C) (hM : SafeS U (· < N) fun W => Rows2 W vm M) (hBN : B < N) (hT : ∀ k, T k → k < B) :
    SafeS (((U.setCell ⟨B, 0, none⟩ vp).setCell ⟨B, 1, none⟩ vc).setCell ⟨B, 2, none⟩ vm) T fun W => TempV W (.agg #[vp, vc, vm]) P C M := by
  have hG : ∀ S : Nat → Prop, S B → GrownS S U (((U.setCell ⟨B, 0, none⟩ vp).setCell ⟨B, 1, none⟩ vc).setCell ⟨B, 2, none⟩ vm) := fun S hS =>
    (((GrownS.refl _ U).setCell (g := B) hS 0 _).setCell (g := B) hS 1 _).setCell (g := B) hS 2 _
  intro W hW
  exact ⟨_, _, _, rfl, hP.grow (hG _ (.inr rfl)) (S' := T) (fun k hk => .inl (.inl hk)) W hW, hC.grow (hG _ hBN) (S' := T) (fun k hk => .inl (by have := hT k hk; omega)) W hW, hM.grow (hG _ hBN) (S' := T) (fun k hk => .inl (by have := hT k hk; omega)) W hW⟩

set_option maxRecDepth 100000 in
set_option maxHeartbeats 8000000 in
/-- build: the temperament of commas, or of vals. -/
theorem build_any (n F : Nat) (P : List Int) (m R A S : List (List Int)) (vals : Bool) (T : Nat → Prop) (vp v : Value) (w : World) (hT : ∀ k, T k → k < w.heap.size) (hP : SafeS w T fun W => Ints W vp P) (h : Rows2 w v m) (hE : primesE P = 0) (hPl : P.length = n) (hD : FromD n F m R A S) (hlib : LibT w) (hp : 0 < w.heap.size) :
    Calls Tryz.prog 98 #[vp, v, .bool vals] w fun e w' => ∃ u, e = .returned (.tuple #[u, .int .i64 0]) ∧ SafeS w' T (fun W => TempV W u P (if vals then A else S) (if vals then S else A)) ∧ Ext w w' := by
  have HPC := Lib.hid (fun W (hW : Ext w W) => primesChk_any P vp W (hP.now.ext hW))
  rw [hE] at HPC
  have HOF := Lib.hid (fun W (hW : Ext w W) => ofD_any n F m R A S v W (h.ext hW) hD (hlib.ext hW) (Nat.lt_of_lt_of_le hp hW.size))
  have HSA := Lib.hid (fun W (hW : Ext w W) u (hu : LatV W u n R) => satD_any n F R A S u W hu hD.chk hD.n1 hD.n4 hD.kR hD.kA hD.lA hD.lS hD.bS (hlib.ext hW) (Nat.lt_of_lt_of_le hp hW.size))
  have HAN := Lib.hid (fun W (hW : Ext w W) u (hu : LatV W u n R) => annD_any n F R A S u W hu hD.chk hD.n1 hD.n4 hD.kR hD.lA hD.bA (hlib.ext hW) (Nat.lt_of_lt_of_le hp hW.size))
  have hP2 := hP.now
  obtain ⟨ap, cp, rfl, p1, p2, -, -, -⟩ := hP2.open
  obtain ⟨a, c, rfl, -⟩ := inCell.open h
  rw [hPl] at HPC hP ⊢
  have HP := Lib.hid hP; have HTS := Lib.hid hT
  clear hP hP2 h hE hPl hD hlib hp p1 p2 hT
  go_enter Tryz.func98, Tryz.ntmps98
  obtain ⟨W1, hW1, hE1, hs1, hb1⟩ := tp_new w (.slice none 0 0) (.slice none 0 0) (.slice none 0 0)
  have HB1 := Lib.hid hb1; have HE1 := Lib.hid hE1; have HS1 := Lib.hid hs1
  have HP1 := Lib.hid (HP.out.grow (hE1.grownS T) (S' := fun k => T k ∨ w.heap.size ≤ k) (fun k hk => hk))
  clear hE1 hs1 hb1
  go_wp2_with fail
  refine (HPC.out _ HE1.out).mono ?_
  rintro e w1 ⟨rfl, rfl⟩
  clear HPC
  go_wp2_with fail
  refine (HOF.out _ HE1.out).mono ?_
  rintro e w1 ⟨u1, rfl, hu1, hE1'⟩
  obtain ⟨a1, c1, rfl, -⟩ := ListAt.open hu1.now
  have HE2 := Lib.hid (HE1.out.trans hE1'); have HU1 := Lib.hid hu1.now
  have HB2 := Lib.hid (block_ext HB1.out hE1'); have HP2 := Lib.hid (HP1.out.ext hE1')
  have HZ1 := Lib.hid hE1'.size
  clear hE1' hu1 HOF HB1 HE1 HP1 hW1
  obtain ⟨V1, hV1, hX1, hs1, hb1⟩ := lat_new w1 (.int .i64 0) (.slice none 0 0)
  obtain ⟨r0, r1, rf⟩ := lat_block hb1
  have f0 := rf 0; have f1 := rf 1
  have HL1 := Lib.hid (lat_store hb1 (.int .i64 n) (.slice a1 R.length c1))
  have HXU := Lib.hid (ext_lat hX1 (Nat.le_refl _) (.int .i64 n) (.slice a1 R.length c1))
  clear hX1 hs1 hb1 rf
  obtain ⟨U1, hU1⟩ : ∃ U1, (V1.setCell ⟨w1.heap.size, 0, none⟩ (.int .i64 n)).setCell ⟨w1.heap.size, 1, none⟩ (.slice a1 R.length c1) = U1 := ⟨_, rfl⟩
  rw [hU1] at HL1 HXU
  obtain ⟨s0, s1, -⟩ := lat_block HL1.out
  have HEU := Lib.hid (HE2.out.trans HXU.out)
  have HRU := Lib.hid (HU1.out.ext HXU.out)
  have HB3 := Lib.hid (block_ext HB2.out HXU.out); have HP3 := Lib.hid (HP2.out.ext HXU.out)
  have HZ2 := Lib.hid (Nat.le_trans HZ1.out HXU.out.size)
  go_wp2_with fail
  clear hU1 hV1 r0 r1 f0 f1 HE2 HU1 HXU HB2 HP2
  refine (HSA.out _ HEU.out _ ⟨_, rfl, HRU.out⟩).mono ?_
  rintro e w2 ⟨u2, rfl, hu2, hE2⟩
  obtain ⟨a2, c2, rfl, -⟩ := ListAt.open hu2.now
  have HE4 := Lib.hid (HEU.out.trans hE2); have HU2 := Lib.hid (hu2.grow (GrownS.refl _ _) (S' := fun k => k < W1.heap.size ∨ w2.heap.size ≤ k) fun k hk => hk.elim (fun h => .inl (Nat.lt_of_lt_of_le h HZ2.out)) .inr)
  have HL2 := Lib.hid (block_ext HL1.out hE2); have HB4 := Lib.hid (block_ext HB3.out hE2); have HP4 := Lib.hid (HP3.out.ext hE2)
  have HR2 := Lib.hid (HRU.out.ext hE2)
  have HZ3 := Lib.hid (Nat.le_trans HZ2.out hE2.size)
  clear hE2 hu2 HSA HL1 HRU HEU HB3 HP3 s0 s1
  obtain ⟨V2, hV2, hX2, hs2, hb2⟩ := lat_new w2 (.int .i64 0) (.slice none 0 0)
  obtain ⟨r0, r1, rf⟩ := lat_block hb2
  have f0 := rf 0; have f1 := rf 1
  have HM1 := Lib.hid (lat_store hb2 (.int .i64 n) (.slice a2 S.length c2))
  have HXU := Lib.hid (ext_lat hX2 (Nat.le_refl _) (.int .i64 n) (.slice a2 S.length c2))
  clear hX2 hs2 hb2 rf
  obtain ⟨U2, hU2⟩ : ∃ U2, (V2.setCell ⟨w2.heap.size, 0, none⟩ (.int .i64 n)).setCell ⟨w2.heap.size, 1, none⟩ (.slice a2 S.length c2) = U2 := ⟨_, rfl⟩
  rw [hU2] at HM1 HXU
  have HL3 := Lib.hid (block_ext HL2.out HXU.out); have HB5 := Lib.hid (block_ext HB4.out HXU.out); have HP5 := Lib.hid (HP4.out.ext HXU.out)
  obtain ⟨s0, s1, -⟩ := lat_block HL3.out
  have HEU := Lib.hid (HE4.out.trans HXU.out)
  have HRU := Lib.hid (HR2.out.ext HXU.out)
  have HSU := Lib.hid (HU2.out.ext HXU.out)
  have HZ4 := Lib.hid (Nat.le_trans HZ3.out HXU.out.size)
  go_wp2_with fail
  clear hU2 hV2 r0 r1 f0 f1 HE4 HU2 HXU HL2 HR2 HB4 HP4
  refine (HAN.out _ HEU.out _ ⟨_, rfl, HRU.out⟩).mono ?_
  rintro e w3 ⟨u3, rfl, hu3, hE3⟩
  obtain ⟨a3, c3, rfl, -⟩ := ListAt.open hu3.now
  have HE6 := Lib.hid (HEU.out.trans hE3); have HU3 := Lib.hid (hu3.grow (GrownS.refl _ _) (S' := fun k => k < W1.heap.size ∨ k = w2.heap.size ∨ k = w3.heap.size) fun k hk => by
    rcases hk with h | rfl | rfl
    · exact .inl (Nat.lt_of_lt_of_le h HZ4.out)
    · exact .inl (block_lt HM1.out)
    · exact .inr (Nat.le_refl _))
  have HM2 := Lib.hid (block_ext HM1.out hE3); have HB6 := Lib.hid (block_ext HB5.out hE3); have HP6 := Lib.hid (HP5.out.ext hE3)
  have HS4 := Lib.hid (HSU.out.ext hE3)
  have HZ5 := Lib.hid (Nat.le_trans HZ4.out hE3.size)
  have HLT2 : Hid (w2.heap.size < w3.heap.size) := Nat.lt_of_lt_of_le (block_lt HM1.out) hE3.size
  clear hE3 hu3 HAN HM1 HRU HEU HSU HL3 HB5 HP5 s0 s1
  obtain ⟨V3, hV3, hX3, hs3, hb3⟩ := lat_new w3 (.int .i64 0) (.slice none 0 0)
  obtain ⟨r0, r1, rf⟩ := lat_block hb3
  have f0 := rf 0; have f1 := rf 1
  have HN1 := Lib.hid (lat_store hb3 (.int .i64 n) (.slice a3 A.length c3))
  have HXU := Lib.hid (ext_lat hX3 (Nat.le_refl _) (.int .i64 n) (.slice a3 A.length c3))
  clear hX3 hs3 hb3 rf
  obtain ⟨U3, hU3⟩ : ∃ U3, (V3.setCell ⟨w3.heap.size, 0, none⟩ (.int .i64 n)).setCell ⟨w3.heap.size, 1, none⟩ (.slice a3 A.length c3) = U3 := ⟨_, rfl⟩
  rw [hU3] at HN1 HXU
  have HM3 := Lib.hid (block_ext HM2.out HXU.out); have HB7 := Lib.hid (block_ext HB6.out HXU.out); have HP7 := Lib.hid (HP6.out.ext HXU.out)
  obtain ⟨q0, q1, qf⟩ := lat_block HN1.out
  obtain ⟨s0, s1, sf⟩ := lat_block HM3.out
  obtain ⟨b0, b1, b2, bf⟩ := tp_block HB7.out
  have k0 := qf 0; have k1 := qf 1; have l0 := sf 0; have l1 := sf 1; have m0 := bf 0; have m1 := bf 1; have m2 := bf 2
  have HEU := Lib.hid (HE6.out.trans HXU.out)
  have HSU := Lib.hid ((HS4.out.ext HXU.out).low (S' := fun k => k < W1.heap.size ∨ k = w2.heap.size ∨ k = w3.heap.size) fun k hk => by
    have := HLT2.out
    rcases hk with h | rfl | rfl
    · exact .inl h
    · exact .inr (Nat.le_refl _)
    · exact .inr (by omega))
  have HAU := Lib.hid (HU3.out.ext HXU.out)
  have HPT : Hid (∀ k, T k ∨ k = w.heap.size → T k ∨ w.heap.size ≤ k) := fun k hk => hk.elim .inl fun e => .inr (by omega)
  clear qf sf bf HM2 HB6 HP6 HS4 HU3
  cases vals with
  | false =>
    go_wp2_with fail
    clear hU3 hV3 r0 r1 f0 f1
    have hkA := tp_store HB7.out (.slice ap n cp) (.slice a2 S.length c2) (.slice a3 A.length c3)
    refine bodyPost_ret (results_rowtmp (by rfl) _ _ w.heap.size 65 #[.slice ap n cp, .slice a2 S.length c2, .slice a3 A.length c3] (0, 0) _ (by rfl) hkA Tryz.underlying65 (by rfl) (by kernel_rfl)) (by rfl) ?_
    exact ⟨_, rfl, build_end U3 w.heap.size W1.heap.size T (HP7.out.low HPT.out) (HSU.out.low fun k hk => .inl hk) (HAU.out.low fun k hk => .inl hk) (by have := HS1.out; omega) HTS.out, ext_tp HEU.out (Nat.le_refl _) _ _ _⟩
  | true =>
    have n1 : w2.heap.size ≠ w3.heap.size := by have := HLT2.out; omega
    have n2 : w3.heap.size ≠ w2.heap.size := by have := HLT2.out; omega
    have n3 : w.heap.size ≠ w2.heap.size := by have := HZ3.out; have := HS1.out; omega
    have n4 : w.heap.size ≠ w3.heap.size := by have := HZ5.out; have := HS1.out; omega
    have n5 : w2.heap.size ≠ w.heap.size := fun e => n3 e.symm
    have n6 : w3.heap.size ≠ w.heap.size := fun e => n4 e.symm
    go_wp2_with fail
    clear hU3 hV3 r0 r1 f0 f1
    obtain ⟨U4, hU4⟩ : ∃ U4, (((U3.setCell ⟨w2.heap.size, 0, none⟩ (.int .i64 n)).setCell ⟨w2.heap.size, 1, none⟩ (.slice a3 A.length c3)).setCell ⟨w3.heap.size, 0, none⟩ (.int .i64 n)).setCell ⟨w3.heap.size, 1, none⟩ (.slice a2 S.length c2) = U4 := ⟨_, rfl⟩
    have hB4 : U4.heap[w.heap.size]? = some (.cells #[.slice none 0 0, .slice none 0 0, .slice none 0 0] 65 (0, 0)) := by
      rw [← hU4, setCell_heap_other _ _ _ _ _ n4, setCell_heap_other _ _ _ _ _ n4, setCell_heap_other _ _ _ _ _ n3, setCell_heap_other _ _ _ _ _ n3]; exact HB7.out
    have hG : ∀ Q : Nat → Prop, Q w2.heap.size → Q w3.heap.size → GrownS Q U3 U4 := fun Q q2 q3 => by
      rw [← hU4]
      exact ((((GrownS.refl _ U3).setCell (g := w2.heap.size) q2 0 _).setCell (g := w2.heap.size) q2 1 _).setCell (g := w3.heap.size) q3 0 _).setCell (g := w3.heap.size) q3 1 _
    have hX4 : Ext w U4 := by
      rw [← hU4]
      exact ext_lat (ext_lat HEU.out (by have := HZ3.out; have := HS1.out; omega) _ _) (by have := HZ5.out; have := HS1.out; omega) _ _
    have hz3 := HZ3.out; have hz5 := HZ5.out; have hs1 := HS1.out
    have hP4 := (HP7.out.grow (hG _ (.inr (by omega)) (.inr (by omega))) (S' := fun k => T k ∨ w.heap.size ≤ k) (fun k hk => .inl hk)).low HPT.out
    have hS4 := (HSU.out.grow (hG _ (.inr (.inl rfl)) (.inr (.inr rfl))) (S' := (· < W1.heap.size)) (fun k hk => .inl (.inl hk)))
    have hA4 := (HAU.out.grow (hG _ (.inr (.inl rfl)) (.inr (.inr rfl))) (S' := (· < W1.heap.size)) (fun k hk => .inl (.inl hk)))
    have hkA := tp_store hB4 (.slice ap n cp) (.slice a3 A.length c3) (.slice a2 S.length c2)
    rw [hU4]
    refine bodyPost_ret (results_rowtmp (by rfl) _ _ w.heap.size 65 #[.slice ap n cp, .slice a3 A.length c3, .slice a2 S.length c2] (0, 0) _ (by rfl) hkA Tryz.underlying65 (by rfl) (by kernel_rfl)) (by rfl) ?_
    exact ⟨_, rfl, build_end U4 w.heap.size W1.heap.size T hP4 hA4 hS4 (by omega) HTS.out, ext_tp hX4 (Nat.le_refl _) _ _ _⟩
end Go.Proofs.YtehknemdfbkimaaGreatDoor
/- A region that draws its order: more than one operation can come up, each is followed; a whole block loaded. -/
namespace Go.Proofs.YtehknemdfbkimaaGreatDoor
set_option linter.unusedVariables false
section
variable {P : Program} {ops : Array Oper} {Q : Exit → Act → World → Prop} {md : Region.Mode} {S : World → Prop} {z : Nat}
end
end Go.Proofs.YtehknemdfbkimaaGreatDoor
