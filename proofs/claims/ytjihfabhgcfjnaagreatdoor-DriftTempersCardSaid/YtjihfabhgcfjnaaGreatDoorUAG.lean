/- Merged: DriftB. -/
import Derived.Test.YtjihfabhgcfjnaaGreatDoorUAF
import Derived.StillTailTactics
/- Walks in memory; contract of drift.lead. -/
namespace Go.Proofs.YtjihfabhgcfjnaaGreatDoor
set_option linter.unusedVariables false
set_option linter.unusedSimpArgs false
open Go.RowKit

/-- A link: two integers. -/
def linkR (_ : World) (u : List Value) (x : Int × Int) : Prop := u = [.int .i64 x.1, .int .i64 x.2] ∧ (-9223372036854775808 ≤ x.1 ∧ x.1 ≤ 9223372036854775807) ∧ (-9223372036854775808 ≤ x.2 ∧ x.2 ≤ 9223372036854775807)
theorem linkR.mono : Mono linkR := fun _ _ _ _ _ h => h
abbrev Links (w : World) (v : Value) (xs : List (Int × Int)) : Prop := ListAt 2 linkR w v xs
theorem Links.ext {w w' : World} {v : Value} {xs : List (Int × Int)} (h : Links w v xs) (he : Ext w w') : Links w' v xs := ListAt.ext linkR.mono h he
abbrev linksR : World → List Value → List (Int × Int) → Prop := inCell Links
theorem linksR.mono : Mono linksR := inCell.mono fun _ _ _ _ he h => Links.ext h he
abbrev Links2 (w : World) (v : Value) (xs : List (List (Int × Int))) : Prop := ListAt 1 linksR w v xs
theorem Links2.ext {w w' : World} {v : Value} {xs : List (List (Int × Int))} (h : Links2 w v xs) (he : Ext w w') : Links2 w' v xs := ListAt.ext linksR.mono h he
abbrev chordR : World → List Value → List (List Int) → Prop := inCell Rows2
theorem chordR.mono : Mono chordR := inCell.mono fun _ _ _ _ he h => Rows2.ext h he
abbrev Chords (w : World) (v : Value) (xs : List (List (List Int))) : Prop := ListAt 1 chordR w v xs
theorem Chords.ext {w w' : World} {v : Value} {xs : List (List (List Int))} (h : Chords w v xs) (he : Ext w w') : Chords w' v xs := ListAt.ext chordR.mono h he

/-- Opening links: both cells of each. -/
theorem Links.cells {w : World} {a : Option Addr} {n cap : Nat} {xs : List (Int × Int)} (h : Links w (.slice a n cap) xs) :
    n = xs.length ∧ n ≤ cap ∧ cap ≤ maxLen ∧ (∀ x ∈ xs, (-9223372036854775808 ≤ x.1 ∧ x.1 ≤ 9223372036854775807) ∧ (-9223372036854775808 ≤ x.2 ∧ x.2 ≤ 9223372036854775807)) ∧
      (xs ≠ [] → ∃ b off, a = some ⟨b, off, none⟩ ∧ b < w.heap.size ∧ ∀ (j : Nat) x, xs[j]? = some x → w.cell? ⟨b, off + j * 2, none⟩ = some (.int .i64 x.1) ∧ w.cell? ⟨b, off + j * 2 + 1, none⟩ = some (.int .i64 x.2)) := by
  have hall : ∀ x ∈ xs, (-9223372036854775808 ≤ x.1 ∧ x.1 ≤ 9223372036854775807) ∧ (-9223372036854775808 ≤ x.2 ∧ x.2 ≤ 9223372036854775807) := by
    obtain ⟨us, h1, _, _, h7⟩ := h
    intro x hx
    obtain ⟨j, hj⟩ := List.getElem?_of_mem hx
    have hlt : j < us.length := by rw [h1]; exact (List.getElem?_eq_some_iff.1 hj).1
    exact (h7 j us[j] x (by simp [hlt]) hj).2
  obtain ⟨a', cap', hv, h1, h2, h3, h4⟩ := ListAt.open h
  simp only [Value.slice.injEq] at hv
  obtain ⟨rfl, rfl, rfl⟩ := hv
  refine ⟨rfl, h1, h2, hall, fun hx => ?_⟩
  obtain ⟨b, off, ha, hb, hc⟩ := h4 (by omega) hx
  refine ⟨b, off, ha, hb, fun j x hj => ?_⟩
  obtain ⟨u, _, hr, hcell⟩ := hc j x hj
  have e0 := hcell 0 (by omega)
  have e1 := hcell 1 (by omega)
  rw [hr.1] at e0 e1
  exact ⟨by simpa using e0, by rw [Nat.add_assoc]; simpa using e1⟩

theorem Links.litAt {w : World} {n : Nat} (hn : n = w.heap.size) (xs : List (Int × Int)) (T : TypeId) (m : Nat) (hm : m = xs.length) (hl : xs.length ≤ maxLen) (hb : ∀ x ∈ xs, (-9223372036854775808 ≤ x.1 ∧ x.1 ≤ 9223372036854775807) ∧ (-9223372036854775808 ≤ x.2 ∧ x.2 ≤ 9223372036854775807))
    (C : Array Value) (hC : C = (xs.map fun x => [Value.int .i64 x.1, Value.int .i64 x.2]).flatten.toArray) : Links (w.alloc (.cells C T)) (.slice (some ⟨n, 0, none⟩) m m) xs := by
  subst hn; subst hm; subst hC
  refine ⟨xs.map fun x => [Value.int .i64 x.1, Value.int .i64 x.2], by simp, (by intro u hu; obtain ⟨x, _, rfl⟩ := List.mem_map.1 hu; rfl), SeqAt.lit w _ xs.length T hl, ?_⟩
  intro j u x hu hx
  simp only [List.getElem?_map, hx, Option.map_some, Option.some.injEq] at hu
  exact ⟨hu.symm, hb x (List.mem_of_getElem? hx)⟩

/-- Opening a slice of slices whose shape is known. -/
theorem inCell.cells {α : Type} {R : World → Value → α → Prop} {w : World} {a : Option Addr} {n cap : Nat} {xs : List α} (h : ListAt 1 (inCell R) w (.slice a n cap) xs) :
    n = xs.length ∧ n ≤ cap ∧ cap ≤ maxLen ∧
      (xs ≠ [] → ∃ b off, a = some ⟨b, off, none⟩ ∧ b < w.heap.size ∧ ∀ (j : Nat) x, xs[j]? = some x → ∃ u, R w u x ∧ w.cell? ⟨b, off + j, none⟩ = some u) := by
  obtain ⟨a', c', hv, h1, h2, _, h5⟩ := inCell.open h
  simp only [Value.slice.injEq] at hv
  obtain ⟨rfl, rfl, rfl⟩ := hv
  exact ⟨rfl, h1, h2, h5⟩

theorem owns_base {w : World} {base base' : Nat} {e : TypeId} {size : Nat} {v : Value} {n : Nat} {xs : List Value} (h : w.ownsRow base' e size v n xs) (hb : base ≤ base') : w.ownsRow base e size v n xs := by
  refine ⟨h.1, ?_⟩
  rcases h.2 with h2 | ⟨g, cap, cur, hv, hg, r⟩
  · exact .inl h2
  · exact .inr ⟨g, cap, cur, hv, Nat.le_trans hb hg, r⟩

structure Wk where
  primes : List Int
  chords : List (List (List Int))
  links : List (List (Int × Int))

/-- A walk as a value. -/
def WalkAt (w : World) (v : Value) (k : Wk) : Prop := ∃ vp vc vl, v = .agg #[vp, vc, vl] ∧ Ints w vp k.primes ∧ Chords w vc k.chords ∧ Links2 w vl k.links
theorem WalkAt.ext {w w' : World} {v : Value} {k : Wk} (h : WalkAt w v k) (he : Ext w w') : WalkAt w' v k := by
  obtain ⟨vp, vc, vl, rfl, h1, h2, h3⟩ := h
  exact ⟨vp, vc, vl, rfl, h1.ext he, h2.ext he, h3.ext he⟩

/-- By how much a link leads upward. -/
def leadRow (k : Wk) (step link : Nat) : List Int :=
  let x := (k.links.getD step []).getD link (0, 0)
  sumRows ((k.chords.getD step []).getD x.1.toNat []) ((k.chords.getD (step + 1) []).getD x.2.toNat [])

/-- All rows of the chords have n elements of a thousand at most. -/
def tame (k : Wk) : Prop := ∀ c ∈ k.chords, ∀ x ∈ c, x.length = k.primes.length ∧ ∀ a ∈ x, -1000000 ≤ a ∧ a ≤ 1000000
/-- All links lead from a note of a chord to one of the next one. -/
def linked (k : Wk) : Prop := ∀ (i : Nat) l, k.links[i]? = some l → ∃ c d, k.chords[i]? = some c ∧ k.chords[i + 1]? = some d ∧ ∀ x ∈ l, 0 ≤ x.1 ∧ x.1 < c.length ∧ 0 ≤ x.2 ∧ x.2 < d.length

set_option maxRecDepth 100000 in
set_option maxHeartbeats 1000000 in
theorem lead5_any (k : Wk) (v : Value) (w : World) (step link : Nat) (h : WalkAt w v k) (ht : tame k) (hk : linked k) (hp : k.primes.length ≤ 6) (l : List (Int × Int)) (hl : k.links[step]? = some l) (hlink : link < l.length) :
    Calls Tryz.prog 111 #[v, .int .i64 step, .int .i64 link] w fun e w' => ∃ r, e = .returned r ∧ Ext w w' ∧ w'.ownsRow w.heap.size 3 1 r k.primes.length ((leadRow k step link).map (Value.int .i64)) := by
  obtain ⟨vp, vc, vl, rfl, h1, h2, h3⟩ := h
  obtain ⟨c, d, hc, hd, hall⟩ := hk step l hl
  obtain ⟨lk, hlk⟩ : ∃ x, l[link]? = some x := ⟨l[link], List.getElem?_eq_getElem hlink⟩
  obtain ⟨hf0, hf1, ht0, ht1⟩ := hall lk (List.mem_of_getElem? hlk)
  obtain ⟨f, t⟩ := lk
  obtain ⟨f, rfl⟩ := Int.eq_ofNat_of_zero_le hf0
  obtain ⟨t, rfl⟩ := Int.eq_ofNat_of_zero_le ht0
  simp only [Int.ofNat_lt] at hf1 ht1
  obtain ⟨x, hx⟩ : ∃ x, c[f]? = some x := ⟨c[f], List.getElem?_eq_getElem hf1⟩
  obtain ⟨y, hy⟩ : ∃ y, d[t]? = some y := ⟨d[t], List.getElem?_eq_getElem ht1⟩
  have htx := ht c (List.mem_of_getElem? hc) x (List.mem_of_getElem? hx)
  have hty := ht d (List.mem_of_getElem? hd) y (List.mem_of_getElem? hy)
  have HL : Hid (leadRow k step link = sumRows x y) := by
    unfold Hid leadRow
    simp [List.getD, hl, hlk, hc, hd, hx, hy]
  obtain ⟨al, cl, rfl, hlc1, hlm1, -, hcl⟩ := inCell.open h3
  obtain ⟨bl, ol, rfl, hbl, kcl⟩ := hcl (by intro e; simp [e] at hl)
  obtain ⟨ul, hul, hcul⟩ := kcl step l hl
  obtain ⟨al2, cl2, rfl, hlc2, hlm2, -, -⟩ := ListAt.open hul
  obtain ⟨-, -, -, -, hcl2⟩ := Links.cells hul
  obtain ⟨bl2, ol2, rfl, hbl2, kcl2⟩ := hcl2 (by intro e; simp [e] at hlk)
  obtain ⟨hcf, hct⟩ := kcl2 link _ hlk
  obtain ⟨ac, cc, rfl, hcc1, hcm1, -, hcc⟩ := inCell.open h2
  obtain ⟨bc, oc, rfl, hbc, kcc⟩ := hcc (by intro e; simp [e] at hc)
  obtain ⟨uc, huc, hcuc⟩ := kcc step c hc
  obtain ⟨ud, hud, hcud⟩ := kcc (step + 1) d hd
  obtain ⟨ac2, cc2, rfl, hcc2, hcm2, -, hcc3⟩ := inCell.open huc
  obtain ⟨bc2, oc2, rfl, hbc2, kcc3⟩ := hcc3 (by intro e; simp [e] at hx)
  obtain ⟨vx, hvx, hcx⟩ := kcc3 f x hx
  obtain ⟨ad2, cd2, rfl, hcd2, hdm2, -, hcd3⟩ := inCell.open hud
  obtain ⟨bd2, od2, rfl, hbd2, kcd3⟩ := hcd3 (by intro e; simp [e] at hy)
  obtain ⟨vy, hvy, hcy⟩ := kcd3 t y hy
  obtain ⟨ax, cx, rfl, -, -, -, -, -⟩ := Ints.open hvx
  obtain ⟨ay, cy, rfl, -, -, -, -, -⟩ := Ints.open hvy
  have hsl : step < k.links.length := (List.getElem?_eq_some_iff.1 hl).1
  have hsc : step + 1 < k.chords.length := (List.getElem?_eq_some_iff.1 hd).1
  have HVX := Lib.hid hvx
  have HVY := Lib.hid hvy
  have HTX := Lib.hid htx
  have HTY := Lib.hid hty
  have hfl : f < c.length := hf1
  unfold maxLen at hlm1 hlm2 hcm1 hcm2 hdm2
  clear hcl hcl2 hcc hcc3 hcd3 kcl kcl2 kcc kcc3 kcd3 hvx hvy htx hty hall ht hk hul huc hud h1 h2 h3 hl hlk hc hd hx hy hf0 ht0
  go_enter Tryz.func111, Tryz.ntmps111
  go_wp2
  obtain ⟨W, hW⟩ : ∃ W, W = (w.alloc (Obj.cells #[vp, Value.slice (some { block := bc, off := oc }) k.chords.length cc, Value.slice (some { block := bl, off := ol }) k.links.length cl] 55)).alloc (Obj.cells #[Value.int IntKind.i64 ↑f, Value.int IntKind.i64 ↑t] 114) := ⟨_, rfl⟩
  rw [← hW]
  have hE : Ext w W := by rw [hW]; exact (Ext.alloc _ _).trans (Ext.alloc _ _)
  have e1 : W.cell? ⟨w.heap.size, 1, none⟩ = some (Value.slice (some { block := bc, off := oc }) k.chords.length cc) := by rw [hW]; simp
  have e2 : W.cell? ⟨w.heap.size + 1, 0, none⟩ = some (.int .i64 (f : Int)) := by rw [hW]; simp
  have e3 : W.cell? ⟨w.heap.size + 1, 1, none⟩ = some (.int .i64 (t : Int)) := by rw [hW]; simp
  have g1 := hE.cell hcuc
  have g2 := hE.cell hcud
  have g3 := hE.cell hcx
  have g4 := hE.cell hcy
  have GX := Lib.hid (ListAt.ext intR.mono HVX.out hE)
  have GY := Lib.hid (ListAt.ext intR.mono HVY.out hE)
  clear hW hcuc hcud hcx hcy HVX HVY hcul hcf hct
  have w1 : IntKind.i64.wrap ((step : Int) + 1) = (step : Int) + 1 := by rw [IntKind.wrap_i64]; omega
  have b1 : (step : Int) < (k.chords.length : Int) := by omega
  have b2 : (step : Int) + 1 < (k.chords.length : Int) := by omega
  have b3 : (f : Int) < (c.length : Int) := by omega
  have b4 : (t : Int) < (d.length : Int) := by omega
  have b5 : 0 ≤ (step : Int) + 1 := by omega
  have b6 : ((step : Int) + 1).toNat = step + 1 := by omega
  refine wp_region_still_tail 19 (by kernel_rfl) (by kernel_rfl) ?_
  simp only [List.take_succ_cons, List.take_zero, List.drop_succ_cons, List.drop_zero]
  change wpStill Tryz.prog _ W.drew _ _ _
  repeat still_step
  try refine wpStill_nil ?_
  change wpList _ _ _ _ _ W.drew
  have hE2 : Ext w W.drew := Below.drew hE
  have GX2 := Lib.hid (ListAt.ext intR.mono GX.out (Ext.drew W))
  have GY2 := Lib.hid (ListAt.ext intR.mono GY.out (Ext.drew W))
  generalize W.drew = W2 at *
  clear hE e1 e2 e3 g1 g2 g3 g4 GX GY W
  go_wp2_with fail
  have hr : Rows2 (W2.alloc (.cells #[.slice ax x.length cx, .slice ay y.length cy] 37)) (.slice (some ⟨W2.heap.size, 0, none⟩) 2 2) [x, y] :=
    ListAt.lit (R := Ints) (fun _ _ _ _ he h => ListAt.ext intR.mono h he) W2 [.slice ax x.length cx, .slice ay y.length cy] [x, y] 37 rfl (by simp [maxLen]) (by
      intro j u z hu hz
      match j with
      | 0 => simp at hu hz; subst hu; subst hz; exact GX2.out
      | 1 => simp at hu hz; subst hu; subst hz; exact GY2.out
      | j + 2 => simp at hu)
  refine (sum5_any x y _ _ hr (by rw [HTX.out.1, HTY.out.1]) (by rw [HTX.out.1]; omega) (fun a ha => by have := HTX.out.2 a ha; omega) (fun a ha => by have := HTY.out.2 a ha; omega)).mono ?_
  rintro e w' ⟨r, rfl, he, hi⟩
  have HI := Lib.hid hi
  have HE := Lib.hid he
  clear hi he hr
  go_wp2
  go_ret
  refine ⟨r, rfl, (Ext.trans hE2 (Ext.alloc _ _)).trans HE.out, ?_⟩
  rw [HL.out]
  have hi := HI.out
  rw [HTX.out.1] at hi
  exact owns_base hi (by have := hE2.size; simp; omega)
end Go.Proofs.YtjihfabhgcfjnaaGreatDoor
