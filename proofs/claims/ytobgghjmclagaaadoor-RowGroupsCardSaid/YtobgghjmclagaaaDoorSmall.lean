/- Small numbers: slices of int8 that came in; Make and fit of the law's package. -/
import Derived.Test.YtobgghjmclagaaaDoorArgs
import Derived.Test.YtobgghjmclagaaaDoorRowB
import Derived.ChangeSlices
namespace Go.Proofs.YtobgghjmclagaaaDoor
set_option linter.unusedVariables false
set_option linter.unusedSimpArgs false
open Go.ChangeShapes Go.WideShapes Go.ChangeAt Go.RowKit

def int8R (_ : World) (u : List Value) (x : Int) : Prop := u = [.int .i8 x] ∧ -128 ≤ x ∧ x ≤ 127
theorem int8R.mono : Mono int8R := fun _ _ _ _ _ h => h
abbrev I8s (w : World) (v : Value) (xs : List Int) : Prop := ListAt 1 int8R w v xs
theorem I8s.ext {w w' : World} {v : Value} {xs : List Int} (h : I8s w v xs) (he : Ext w w') : I8s w' v xs := ListAt.ext int8R.mono h he
theorem cellsInt8 : Tryd.prog.cellsOf 57 = 1 := by kernel_rfl
theorem i8s_nil (W : World) : I8s W (.slice none 0 0) [] :=
  ⟨[], rfl, by simp, ⟨none, 0, rfl, Nat.le_refl _, Nat.zero_le _, fun _ => rfl, fun h => absurd rfl h⟩, by simp⟩

/-- Opening a slice of integers. -/
theorem I8s.open {w : World} {v : Value} {xs : List Int} (h : I8s w v xs) :
    ∃ (a : Option Addr) (cap : Nat), v = .slice a xs.length cap ∧ xs.length ≤ cap ∧ cap ≤ maxLen ∧ (a = none → cap = 0) ∧ (∀ x ∈ xs, -128 ≤ x ∧ x ≤ 127) ∧
      (xs ≠ [] → ∃ b off, a = some ⟨b, off, none⟩ ∧ b < w.heap.size ∧ ∀ (j : Nat) x, xs[j]? = some x → w.cell? ⟨b, off + j, none⟩ = some (.int .i8 x)) := by
  have hall : ∀ x ∈ xs, -128 ≤ x ∧ x ≤ 127 := by
    obtain ⟨us, h1, _, _, h7⟩ := h
    intro x hx
    obtain ⟨j, hj⟩ := List.getElem?_of_mem hx
    have hlt : j < us.length := by rw [h1]; exact (List.getElem?_eq_some_iff.1 hj).1
    exact (h7 j us[j] x (by simp [hlt]) hj).2
  obtain ⟨a, cap, hv, h1, h2, h3, h4⟩ := ListAt.open h
  refine ⟨a, cap, hv, h1, h2, h3, hall, fun hx => ?_⟩
  obtain ⟨b, off, ha, hb, hc⟩ := h4 (by omega) hx
  refine ⟨b, off, ha, hb, fun j x hj => ?_⟩
  obtain ⟨u, _, hr, hcell⟩ := hc j x hj
  have := hcell 0 (by omega)
  rw [hr.1] at this
  simpa using this

/-- A slice of small numbers that came in. -/
theorem bytes8_in {H : Type} {enc : TypeId × Value → H} {W : World} {r : Reach} {b0 base : Nat} {spare : Nat → Bool} {held : Bool} {v : Value} {d : DataW H} {ps : List MemPlace} {t e : TypeId} {P : Program}
    (ht : P.underlying t = some (.slice e)) (he : P.underlying e = some (.int .i8)) (hc : P.cellsOf e = 1) (hsp : ∀ b, spare b = true)
    (hval : Value.okWide P W r b0 t v) (hd : DataW.Trod enc P W base spare held t v d ps) : ∃ xs, I8s W v xs := by
  obtain ⟨fuel, hf⟩ := hd
  obtain ⟨a0, len0, cap0, rfl⟩ := okWide_slice ht hval
  rcases open_ints ht he hc hf with ⟨hcs, hx⟩ | ⟨a, len, cap, zs, hcs, _, hl, hm, hz, hx, hcell, hwz⟩
  · simp [Value.cells] at hcs
    obtain ⟨rfl, rfl, rfl⟩ := hcs
    exact ⟨[], i8s_nil W⟩
  · simp [Value.cells] at hcs
    obtain ⟨rfl, rfl, rfl⟩ := hcs
    rw [hsp, if_pos rfl] at hz
    have hlen : (zs.take len0).length = len0 := by rw [List.length_take]; omega
    refine ⟨zs.take len0, (zs.take len0).map fun x => [Value.int .i8 x], by simp, (by intro u hu; obtain ⟨x, _, rfl⟩ := List.mem_map.1 hu; rfl), ?_, ?_⟩
    · rw [flatten_one]
      refine ⟨some a, cap0, by rw [hlen], by rw [hlen]; exact hl, hm, (fun h => by cases h), fun hne => ?_⟩
      have hpos : 0 < len0 := by
        rcases Nat.eq_zero_or_pos len0 with h0 | h0
        · subst h0; simp at hne
        · exact h0
      have h0 := hcell 0 (by omega)
      have hs : a.spot = none := by
        cases hsp2 : a.spot with
        | none => rfl
        | some s =>
          have : W.cell? a = some (.int .i8 (zs.getD 0 0)) := by simpa [Addr.add] using h0
          unfold World.cell? at this
          rw [hsp2] at this
          split at this <;> simp at this
      refine ⟨a.block, a.off, by rw [← hs], lt_of_cell (by simpa [Addr.add] using h0), fun j u hu => ?_⟩
      rw [List.getElem?_map] at hu
      cases hj : (zs.take len0)[j]? with
      | none => simp [hj] at hu
      | some x =>
        simp [hj] at hu
        subst hu
        have hjl : j < len0 := by have := (List.getElem?_eq_some_iff.1 hj).1; omega
        have hc2 := hcell j (by omega)
        rw [List.getElem?_take, if_pos hjl] at hj
        rw [List.getD_eq_getElem?_getD, hj] at hc2
        unfold Addr.add at hc2
        by_cases hj0 : j = 0
        · subst hj0
          rw [if_pos rfl] at hc2
          have ha : a = ⟨a.block, a.off + 0, none⟩ := by cases a; simp only at hs; subst hs; rfl
          rw [ha] at hc2; exact hc2
        · rw [if_neg hj0] at hc2; exact hc2
    · intro j u x hu hx
      simp only [List.getElem?_map, hx, Option.map_some, Option.some.injEq] at hu
      refine ⟨hu.symm, ?_⟩
      have := hwz x (List.mem_of_mem_take (List.mem_of_getElem? hx))
      exact bounds_i8 this

theorem Build.empty (w : World) (T : TypeId) : Build (w.alloc (.cells #[] T)) w.heap.size T 1 (.slice (some ⟨w.heap.size, 0, none⟩) 0 0) intC ([] : List Int) :=
  Build.made w #[] 0 (Nat.le_refl _) (Nat.zero_le _) rfl

set_option maxRecDepth 100000 in
set_option maxHeartbeats 2000000 in
theorem makeS_any (xs : List Int) (v : Value) (w : World) (h : I8s w v xs) (h8 : xs.length ≤ 8) :
    Calls Tryd.prog 43 #[v] w fun e w' => ∃ r, e = .returned r ∧ Ext w w' ∧ Ints w' r xs := by
  obtain ⟨a, c, rfl, h1, h2, -, hbd, hc⟩ := h.open
  have HC := Lib.hid hc; have HBD := Lib.hid hbd
  unfold maxLen at h2
  clear h hc hbd
  go_enter Tryd.func43, Tryd.ntmps43
  go_wp2_with fail
  go_loopw [3, 4] (fun out t wr => ∃ j : Nat, j ≤ xs.length ∧ t = .int .i64 j ∧ Ext w wr ∧ Hid (Build wr w.heap.size 3 1 out intC (xs.take j))) (fun _ t _ => xs.length - (intOf t).toNat)
  case atStart => exact ⟨0, by omega, rfl, Ext.alloc _ _, by unfold Hid; rw [List.take_zero]; exact Build.empty _ _⟩
  case round =>
    obtain ⟨j, hj, rfl, hE, HBu⟩ := hrel
    by_cases hlt : j < xs.length
    · obtain ⟨b, off, rfl, hb, hcell⟩ := HC.out (by intro e; simp [e] at hlt)
      obtain ⟨x, hx⟩ : ∃ x, xs[j]? = some x := ⟨xs[j], List.getElem?_eq_getElem hlt⟩
      have g1 := hE.cell (hcell j x hx)
      obtain ⟨hx1, hx2⟩ := HBD.out x (List.mem_of_getElem? hx)
      have q2 : IntKind.i64.wrap x = x := by rw [IntKind.wrap_i64]; omega
      have hj8 : (j : Int) < 8 := by omega
      have HN : Hid (xs.take (j + 1) = xs.take j ++ [x]) := by
        unfold Hid
        rw [List.take_add_one, hx]; rfl
      have HJ : Hid ((xs.take j).length < 1000000) := by unfold Hid; rw [List.length_take]; omega
      have hszr := hE.size
      clear hcell hx
      go_wp2_with (at_builtin; go_must (refine wpList_append_build _ rfl _ _ 23 rfl w.heap.size 3 (.int .i64 0) 1 8 Tryd.underlying23 infoInt rfl (by decide) u3 intC (xs.take j) x #[.int .i64 x] 3 rfl HBu.out rfl rfl ?e1 (fun _ _ => rfl) HJ.out (by decide) hszr ?_))
      case e1 => simp [Value.oneCell']
      intro v' w5 hB5 hg5 hb5 hs5 _
      rw [← HN.out] at hB5
      have HB5 := Lib.hid hB5
      have HE5 := Lib.hid (Below.trans hE hb5)
      clear hB5 hg5 hb5
      go_wp2_with fail
      go_roundw
      case rel => exact ⟨j + 1, by omega, by go_num, HE5.out, HB5.out⟩
      case measure => simp [intOf]; omega
    · obtain rfl : j = xs.length := by omega
      have hI : Ints wr u3 xs := by
        have := HBu.out.ints
        rw [List.take_of_length_le (Nat.le_refl _)] at this
        refine Ints.of_owns this (fun x hx => ?_)
        have := HBD.out x hx
        omega
      have HII := Lib.hid hI
      clear hI
      go_wp2_with fail
      go_ret
      exact ⟨_, rfl, hE, HII.out⟩

def fitL (rs : List Int) (n : Nat) : List Int := (List.range n).map fun i => rs[i]?.getD 0
theorem fitL_len (rs : List Int) (n : Nat) : (fitL rs n).length = n := by simp [fitL]
theorem fitL_take (rs : List Int) (n j : Nat) (hj : j < n) : (fitL rs n).take (j + 1) = (fitL rs n).take j ++ [rs[j]?.getD 0] := by
  unfold fitL
  rw [List.take_add_one, List.getElem?_map, List.getElem?_range hj]; rfl

set_option maxRecDepth 100000 in
set_option maxHeartbeats 2000000 in
theorem fit_any (rs xs : List Int) (u v : Value) (w : World) (h : Ints w u rs) (k : Ints w v xs) (h8 : xs.length ≤ 8) :
    Calls Tryd.prog 44 #[u, v] w fun e w' => ∃ r, e = .returned r ∧ Ext w w' ∧ Ints w' r (fitL rs xs.length) := by
  obtain ⟨a, c, rfl, h1, h2, -, hbd, hc⟩ := h.open
  obtain ⟨a', c', rfl, -, -, -, -, -⟩ := k.open
  have HC := Lib.hid hc; have HBD := Lib.hid hbd
  unfold maxLen at h2
  clear h k hc hbd
  obtain ⟨n, hn⟩ : ∃ n, xs.length = n := ⟨_, rfl⟩
  rw [hn] at h8 ⊢
  clear hn
  go_enter Tryd.func44, Tryd.ntmps44
  go_wp2_with fail
  go_loopw [5, 6] (fun out t wr => ∃ j : Nat, j ≤ n ∧ t = .int .i64 j ∧ Ext w wr ∧ Hid (Build wr w.heap.size 3 1 out intC ((fitL rs n).take j))) (fun _ t _ => n - (intOf t).toNat)
  case atStart => exact ⟨0, by omega, rfl, Ext.alloc _ _, by unfold Hid; rw [List.take_zero]; exact Build.empty _ _⟩
  case round =>
    obtain ⟨j, hj, rfl, hE, HBu⟩ := hrel
    by_cases hlt : j < n
    · have HJ : Hid (((fitL rs n).take j).length < 1000000) := by unfold Hid; rw [List.length_take, fitL_len]; omega
      have hszr := hE.size
      by_cases hr : j < rs.length
      · obtain ⟨b, off, rfl, hb, hcell⟩ := HC.out (by intro e; simp [e] at hr)
        obtain ⟨x, hx⟩ : ∃ x, rs[j]? = some x := ⟨rs[j], List.getElem?_eq_getElem hr⟩
        have g1 := hE.cell (hcell j x hx)
        have HN : Hid ((fitL rs n).take (j + 1) = (fitL rs n).take j ++ [x]) := by unfold Hid; rw [fitL_take rs n j hlt, hx]; rfl
        clear hcell hx
        go_wp2_with (at_builtin; go_must (refine wpList_append_build _ rfl _ _ 23 rfl w.heap.size 3 (.int .i64 0) 1 8 Tryd.underlying23 infoInt rfl (by decide) u5 intC ((fitL rs n).take j) x #[.int .i64 x] 3 rfl HBu.out rfl rfl ?e1 (fun _ _ => rfl) HJ.out (by decide) hszr ?_))
        case e1 => simp [Value.oneCell']
        intro v' w5 hB5 hg5 hb5 hs5 _
        rw [← HN.out] at hB5
        have HB5 := Lib.hid hB5
        have HE5 := Lib.hid (Below.trans hE hb5)
        clear hB5 hg5 hb5
        go_wp2_with fail
        go_roundw
        case rel => exact ⟨j + 1, by omega, by go_num, HE5.out, HB5.out⟩
        case measure => simp [intOf]; omega
      · have HN : Hid ((fitL rs n).take (j + 1) = (fitL rs n).take j ++ [0]) := by unfold Hid; rw [fitL_take rs n j hlt, List.getElem?_eq_none (by omega)]; rfl
        go_wp2_with (at_builtin; go_must (refine wpList_append_build _ rfl _ _ 23 rfl w.heap.size 3 (.int .i64 0) 1 8 Tryd.underlying23 infoInt rfl (by decide) u5 intC ((fitL rs n).take j) 0 #[.int .i64 0] 3 rfl HBu.out rfl rfl ?e2 (fun _ _ => rfl) HJ.out (by decide) hszr ?_))
        case e2 => simp [Value.oneCell']
        intro v' w5 hB5 hg5 hb5 hs5 _
        rw [← HN.out] at hB5
        have HB5 := Lib.hid hB5
        have HE5 := Lib.hid (Below.trans hE hb5)
        clear hB5 hg5 hb5
        go_wp2_with fail
        go_roundw
        case rel => exact ⟨j + 1, by omega, by go_num, HE5.out, HB5.out⟩
        case measure => simp [intOf]; omega
    · obtain rfl : j = n := by omega
      have hI : Ints wr u5 (fitL rs j) := by
        have := HBu.out.ints
        rw [List.take_of_length_le (by rw [fitL_len]; omega)] at this
        refine Ints.of_owns this (fun x hx => ?_)
        obtain ⟨i, _, rfl⟩ := List.mem_map.1 hx
        cases hi : rs[i]? with
        | none => simp
        | some y => exact HBD.out y (List.mem_of_getElem? hi)
      have HII := Lib.hid hI
      clear hI
      go_wp2_with fail
      go_ret
      exact ⟨_, rfl, hE, HII.out⟩
end Go.Proofs.YtobgghjmclagaaaDoor
