/- Merged: RefInv, InvBad. -/
import Derived.Test.YtpeinobepiodaaaGreatDoorJB
import Derived.Test.YtpeinobepiodaaaGreatDoorGL
import Derived.Test.YtpeinobepiodaaaGreatDoorIF
/- Contract of the reference's Inverse (06); printed by gen/refinv.py. -/
namespace Go.Proofs.YtpeinobepiodaaaGreatDoor
set_option linter.unusedVariables false
set_option linter.unusedSimpArgs false
open Go.RowKit

/-- 'append(rows[i], x)' in the text's order. -/
theorem wpList_append_num (w : World) {ops : Array Oper} {rest : List Oper} {o : Oper} {a : Act} {Q : Exit → Act → World → Prop} (hgd : o.guard = none)
    (s x : Operand) (ho : o.op = Op.call { callee := Callee.builtin Builtin.append, args := #[s, x], argTypes := #[40, 40] }) (base : Nat)
    (v : Value) (r : List Int) (y : Int) (u : Array Value) (T : TypeId) (hs : a.eval s = v) (hR : w.ownsRow base 26 1 v r.length (strV r))
    (hx : a.eval x = .slice (some ⟨w.heap.size, 0, none⟩) 1 1) (hu : u = #[.string (intB y)]) (hlen : r.length < 1000000) (hbase : base ≤ w.heap.size)
    (h : ∀ v' w', Hid (w'.ownsRow base 26 1 v' (r ++ [y]).length (strV (r ++ [y]))) → Hid ((w.alloc (.cells u T)).grownBy w' v.ownBlock) → Hid (v'.ownBlock = v.ownBlock ∨ v'.ownBlock = some (w.alloc (.cells u T)).heap.size) → Hid (∃ b c, v' = .slice (some ⟨b, 0, none⟩) (r.length + 1) c ∧ r.length + 1 ≤ c ∧ c ≤ 9223372036854775807) → wpList Tryz.prog ops Q rest (a.put o.dst v') w') :
    wpList Tryz.prog ops Q (o :: rest) a (w.alloc (.cells u T)) :=
  wpList_plain hgd fun _ hk => wp_append_num w s x ho base v r y u T hs hR hx hu hlen hbase fun v' w' a1 a2 a3 a4 => hk _ _ (h v' w' a1 a2 a3 a4)

def unitL (n j : Nat) : List Int := (List.range n).map fun k => if j = k then 1 else 0
theorem unitL_len (n j : Nat) : (unitL n j).length = n := by simp [unitL]
theorem unitL_get {n j k : Nat} (hk : k < n) : (unitL n j)[k]? = some (if j = k then 1 else 0) := by unfold unitL; rw [List.getElem?_map, List.getElem?_range hk]; rfl
theorem unitL_take {n j k : Nat} (hk : k < n) : (unitL n j).take (k + 1) = (unitL n j).take k ++ [if j = k then 1 else 0] := by rw [List.take_add_one, unitL_get hk]; rfl
theorem unitL_q (n j : Nat) : rowQI (unitL n j) = unitQ n j := by
  apply List.ext_getElem?
  intro k
  unfold rowQI unitQ
  rw [List.getElem?_map, List.getElem?_set, List.length_replicate, List.getElem?_replicate]
  by_cases hk : k < n
  · rw [unitL_get hk]
    by_cases e : j = k
    · subst e; rw [if_pos rfl, if_pos rfl, if_pos hk]; rfl
    · rw [if_neg e, if_neg e, if_pos hk]; rfl
  · rw [List.getElem?_eq_none (by rw [unitL_len]; omega), if_neg hk]
    by_cases e : j = k
    · rw [if_pos e, if_neg (by omega)]; rfl
    · rw [if_neg e]; rfl
/-- The rows with units behind them: those before i whole, row i as far as k. -/
def augU (xss : List (List Int)) (i k : Nat) : List (List Int) := (List.range xss.length).map fun j => xss.getD j [] ++ (unitL xss.length j).take (if j < i then xss.length else if j = i then k else 0)
theorem augU_len (xss : List (List Int)) (i k : Nat) : (augU xss i k).length = xss.length := by simp [augU]
theorem augU_get {xss : List (List Int)} {i k j : Nat} (hj : j < xss.length) : (augU xss i k)[j]? = some (xss.getD j [] ++ (unitL xss.length j).take (if j < i then xss.length else if j = i then k else 0)) := by
  unfold augU; rw [List.getElem?_map, List.getElem?_range hj]; rfl
theorem augU_zero (xss : List (List Int)) : augU xss 0 0 = xss := by
  apply List.ext_getElem?
  intro j
  by_cases hj : j < xss.length
  · rw [augU_get hj, if_neg (by omega)]
    have : (if j = 0 then 0 else 0) = 0 := by split <;> rfl
    rw [this, List.take_zero, List.append_nil, List.getD_eq_getElem?_getD, List.getElem?_eq_getElem hj]; rfl
  · rw [List.getElem?_eq_none (by rw [augU_len]; omega), List.getElem?_eq_none (by omega)]
theorem augU_set {xss : List (List Int)} {i k : Nat} (hi : i < xss.length) (hk : k < xss.length) : (augU xss i k).set i (xss.getD i [] ++ (unitL xss.length i).take k ++ [if i = k then 1 else 0]) = augU xss i (k + 1) := by
  apply List.ext_getElem?
  intro j
  rw [List.getElem?_set, augU_len]
  by_cases hj : j < xss.length
  · rw [augU_get hj, augU_get hj]
    by_cases e : i = j
    · subst e
      have e1 : (if i < i then xss.length else if i = i then k + 1 else 0) = k + 1 := by rw [if_neg (Nat.lt_irrefl i), if_pos rfl]
      rw [if_pos rfl, if_pos hi, e1, unitL_take hk, List.append_assoc]
    · rw [if_neg e]
      by_cases h2 : j < i
      · rw [if_pos h2, if_pos h2]
      · rw [if_neg h2, if_neg h2, if_neg (by omega), if_neg (by omega)]
  · rw [if_neg (by omega), List.getElem?_eq_none (by rw [augU_len]; omega), List.getElem?_eq_none (by rw [augU_len]; omega)]
theorem augU_row {xss : List (List Int)} {i : Nat} : augU xss i xss.length = augU xss (i + 1) 0 := by
  unfold augU
  apply List.map_congr_left
  intro j hj
  congr 1
  congr 1
  by_cases h1 : j < i
  · rw [if_pos h1, if_pos (by omega)]
  · by_cases h2 : j = i
    · rw [if_neg h1, if_pos h2, if_pos (by omega)]
    · rw [if_neg h1, if_neg h2, if_neg (by omega)]
      split <;> rfl
theorem augU_all {xss : List (List Int)} {j : Nat} (hj : j < xss.length) : (augU xss xss.length 0)[j]? = some (xss.getD j [] ++ unitL xss.length j) := by
  rw [augU_get hj, if_pos hj, List.take_of_length_le (by rw [unitL_len]; exact Nat.le_refl _)]
theorem augU_mat (xss : List (List Int)) : matQ (augU xss xss.length 0) = invM xss := by
  apply List.ext_getElem?
  intro j
  unfold matQ invM rowsTo
  rw [List.getElem?_map, List.getElem?_map]
  by_cases hj : j < xss.length
  · rw [augU_all hj, List.getElem?_range hj]
    show some (rowQI (xss.getD j [] ++ unitL xss.length j)) = some (rowQI (xss.getD j []) ++ unitQ xss.length j)
    rw [← unitL_q]
    simp [rowQI]
  · rw [List.getElem?_eq_none (by rw [augU_len]; omega), List.getElem?_eq_none (by simp; omega)]; rfl
theorem augU_rect {xss : List (List Int)} (h : ∀ r ∈ xss, r.length = xss.length) : RectI (xss.length + xss.length) (augU xss xss.length 0) := fun r hr => by
  obtain ⟨j, hj⟩ := List.getElem?_of_mem hr
  have hj2 : j < xss.length := by rw [← augU_len xss xss.length 0]; exact (List.getElem?_eq_some_iff.1 hj).1
  rw [augU_all hj2] at hj
  cases hj
  rw [List.length_append, unitL_len, List.getD_eq_getElem?_getD, List.getElem?_eq_getElem hj2]
  simp only [Option.getD_some, h _ (List.getElem_mem hj2)]
theorem augU_le {xss : List (List Int)} (hf : ∀ r ∈ xss, Fit9 r) (i j : Nat) : IntLe 1000000000 (elQ (matQ (augU xss xss.length 0)) i j) := by
  refine matQ_el (fun r hr a ha => ?_) i j
  obtain ⟨q, hq⟩ := List.getElem?_of_mem hr
  have hq2 : q < xss.length := by rw [← augU_len xss xss.length 0]; exact (List.getElem?_eq_some_iff.1 hq).1
  rw [augU_all hq2] at hq
  cases hq
  rw [List.getD_eq_getElem?_getD, List.getElem?_eq_getElem hq2] at ha
  rcases List.mem_append.1 ha with ha | ha
  · exact hf _ (List.getElem_mem hq2) a ha
  · unfold unitL at ha
    obtain ⟨t, -, rfl⟩ := List.mem_map.1 ha
    split <;> omega
/-- A row of the answer. -/
def frow (E : ElS) (q n k : Nat) : List Rat := (List.range k).map fun t => ((elI E.m q (n + t) : Int) : Rat) / (E.last : Rat)
theorem frow_len (E : ElS) (q n k : Nat) : (frow E q n k).length = k := by simp [frow]
theorem frow_succ (E : ElS) (q n k : Nat) : frow E q n (k + 1) = frow E q n k ++ [((elI E.m q (n + k) : Int) : Rat) / (E.last : Rat)] := by
  unfold frow; rw [List.range_succ, List.map_append]; rfl
def frows (E : ElS) (n i : Nat) : List (List Rat) := (List.range i).map fun q => frow E q n n
theorem frows_succ (E : ElS) (n i : Nat) : frows E n (i + 1) = frows E n i ++ [frow E i n n] := by
  unfold frows; rw [List.range_succ, List.map_append]; rfl
theorem frows_eq {xss : List (List Int)} {E : ElS} (h : BarI (xss.length + xss.length) xss.length (augU xss xss.length 0) E (invR xss)) (hS : Rect (xss.length + xss.length) (invR xss).m ∧ (invR xss).m.length = xss.length) : frows E xss.length xss.length = invTo xss xss.length := by
  apply List.ext_getElem?
  intro i
  unfold frows invTo
  rw [List.getElem?_map, List.getElem?_map, List.take_of_length_le (by rw [hS.2]; exact Nat.le_refl _)]
  by_cases hi : i < xss.length
  · have hr : (invR xss).m[i]? = some (invR xss).m[i] := List.getElem?_eq_getElem (by rw [hS.2]; exact hi)
    have hrl := hS.1 _ (List.mem_of_getElem? hr)
    rw [List.getElem?_range hi, hr]
    show some (frow E i xss.length xss.length) = some ((invR xss).m[i].drop xss.length)
    congr 1
    apply List.ext_getElem?
    intro k
    unfold frow
    rw [List.getElem?_map, List.getElem?_drop]
    by_cases hk : k < xss.length
    · rw [List.getElem?_range hk, List.getElem?_eq_getElem (by omega)]
      show some (((elI E.m i (xss.length + k) : Int) : Rat) / (E.last : Rat)) = _
      rw [barI_div h]
      congr 1
      exact elQ_get (by rw [rowQ_get hr]; exact List.getElem?_eq_getElem _)
    · rw [List.getElem?_eq_none (by simp; omega), List.getElem?_eq_none (by omega)]; rfl
  · rw [List.getElem?_eq_none (by simp; omega), List.getElem?_eq_none (by rw [hS.2]; omega)]; rfl
theorem OwnQ.build {B : Nat} {w : World} {v : Value} {l : List Rat} (h : OwnQ B w v l) (hne : 0 < l.length) : ∃ g cap, v = .slice (some ⟨g, 0, none⟩) l.length cap ∧ RowQ w g l ∧ B ≤ g ∧ g < w.heap.size ∧ l.length ≤ cap ∧ cap ≤ 9223372036854775807 := by
  obtain ⟨g, cap, e, h1, h2, h3, h4⟩ := owns_shape h hne
  subst e
  exact ⟨g, cap, rfl, h.row, h1, h2, h3, h4⟩

/-- There is an inverse. -/
def invOk (xss : List (List Int)) : Bool := decide (¬ (invR xss).lead.length < xss.length)

set_option maxRecDepth 100000 in
set_option maxHeartbeats 4000000 in
theorem refInverse_any (xss : List (List Int)) (v : Value) (w : World) (h : Rows2 w v xss) (hE : tabE xss = 0) (hsq : colsN xss = xss.length) (ht : Pow10 w) :
    Calls Tryz.prog 21 #[v] w fun e w' => ∃ x, e = .returned (.tuple #[x, .bool (invOk xss)]) ∧ (invOk xss = true → Rats2 w' x (invTo xss xss.length)) ∧ Ext w w' := by
  have HT := Lib.hid ht
  obtain ⟨hl, hrr⟩ := tabE_zero hE
  obtain ⟨n, hn⟩ : ∃ n, n = xss.length := ⟨_, rfl⟩
  have hrn : ∀ r ∈ xss, r.length = xss.length := fun r hr => by rw [← hsq]; exact (hrr r hr).1
  have hfit : ∀ r ∈ xss, Fit9 r := fun r hr => (hrr r hr).2.2
  obtain ⟨m0, hm0⟩ : ∃ m, m = augU xss xss.length 0 := ⟨_, rfl⟩
  have hm0l : m0.length = xss.length := by rw [hm0]; exact augU_len _ _ _
  have hrect : RectI (xss.length + xss.length) m0 := by rw [hm0]; exact augU_rect hrn
  have hle : ∀ i j, IntLe 1000000000 (elQ (matQ m0) i j) := by rw [hm0]; exact augU_le hfit
  have hB := barI_all (K := 1000000000) (by omega) hle hrect xss.length
  have hok := elOK_of hrect (by omega) hle xss.length
  have hS : redTo (matQ m0) xss.length = invR xss := by rw [hm0, augU_mat]; rfl
  rw [hS] at hB
  obtain ⟨E, hEE⟩ : ∃ E, E = barTo m0 xss.length := ⟨_, rfl⟩
  rw [← hEE] at hB
  have HSH : Rect (xss.length + xss.length) (invR xss).m ∧ (invR xss).m.length = xss.length := by
    obtain ⟨k1, k2, -⟩ := redTo_shape (invM_rect hrn) xss.length
    exact ⟨k1, by show (redTo (invM xss) xss.length).m.length = _; rw [k2]; exact rowsTo_len _ _ _⟩
  have hfr : frows E xss.length xss.length = invTo xss xss.length := frows_eq (by rw [← hm0]; exact hB) HSH
  have hld : (invR xss).lead = E.lead := hB.lead.symm
  obtain ⟨IT, hIT⟩ : ∃ z, z = invTo xss xss.length := ⟨_, rfl⟩
  rw [← hIT] at hfr ⊢
  obtain ⟨D, hD⟩ : ∃ D, D = invOk xss := ⟨_, rfl⟩
  rw [← hD]
  unfold invOk at hD
  rw [hld, ← hn] at hD
  have HDD := Lib.hid hD
  clear hD
  have HFR0 : Hid (frows E n n = IT) := by unfold Hid; rw [hn]; exact hfr
  have HEM : Hid (E.m.length = n ∧ RectI (n + n) E.m) := by unfold Hid; rw [hn]; exact ⟨by rw [hB.len, hm0l], hB.rect⟩
  have HSZE : Hid (∀ i j, (intB (elI E.m i j)).size ≤ 6000) := fun i j => by rw [hEE]; exact hok.sz _ (Nat.le_refl _) i j
  have HSZL : Hid ((intB E.last).size ≤ 6000) := by unfold Hid; rw [hEE]; exact hok.lsz _ (Nat.le_refl _)
  have HLA0 : Hid (E.last ≠ 0) := hB.ne
  have HBG := Lib.hid (bigV_any xss xss.length v w h hrn (by omega) (by omega) hfit ht)
  have HEL : Hid (∀ u vs W, MatV W w.heap.size w.heap.size u vs m0 → Ext w W → Calls Tryz.prog 59 #[u, .int .i64 (xss.length : Int)] W fun e w' => ∃ p, e = .returned (.tuple #[p, .string (intB E.last), .bool E.odd]) ∧ OwnI W.heap.size w' p E.lead ∧ Nums2 w' u E.m ∧ Ext w w') := fun u vs W hM hW => by
    rcases hM.form with ⟨rfl, h0⟩ | ⟨g, cap, rfl, hob, hc1, hc2⟩
    · have hn0 : xss.length = 0 := by omega
      have hm00 : m0 = [] := List.length_eq_zero_iff.1 h0
      refine (elim0_any none 0 0 xss.length W (.inl hn0)).mono ?_
      rintro e w' ⟨rfl, hX⟩
      have hE0 : E = ⟨[], [], 1, false⟩ := by rw [hEE, hn0, hm00]; rfl
      refine ⟨.slice none 0 0, by rw [hE0, show intB 1 = ⟨#[49]⟩ by decide +kernel], by rw [hE0]; exact OwnI.nil _ _, by rw [hE0]; exact ⟨[], rfl, by simp, ⟨none, 0, rfl, Nat.le_refl _, Nat.zero_le _, fun _ => rfl, fun hh => absurd rfl hh⟩, by simp⟩, hW.trans hX⟩
    · by_cases hn0 : xss.length = 0
      · have hm00 : m0 = [] := List.length_eq_zero_iff.1 (by omega)
        refine (elim0_any (some ⟨g, 0, none⟩) m0.length cap xss.length W (.inl hn0)).mono ?_
        rintro e w' ⟨rfl, hX⟩
        have hE0 : E = ⟨[], [], 1, false⟩ := by rw [hEE, hn0, hm00]; rfl
        refine ⟨.slice none 0 0, by rw [hE0, show intB 1 = ⟨#[49]⟩ by decide +kernel], by rw [hE0]; exact OwnI.nil _ _, ?_, hW.trans hX⟩
        rw [hE0, hm00]
        exact ⟨[], rfl, by simp, ⟨_, cap, rfl, Nat.zero_le _, by unfold maxLen; omega, fun e => by simp at e, fun hh => absurd rfl hh⟩, by simp⟩
      · obtain ⟨tags, hN, hbl⟩ := hM.matN (Nat.le_refl _) (fun r hr => by rw [hrect r hr]; omega)
        refine (elim_any m0 g cap xss.length (xss.length + xss.length) tags w W hN hrect (by omega) (by omega) (by omega) hc1 hc2 hok hW ht hbl).mono ?_
        rintro e w' ⟨p, tags', g1, g2, g3, g4, g5⟩
        rw [← hEE] at g1 g2 g3
        have hlE : E.m.length = m0.length := hB.len
        refine ⟨p, g1, g2, ?_, Below.trans hW (g5.belowE (B := w.heap.size) hbl hW.size)⟩
        have := g3.nums2 (by rw [hlE]; exact hc1) hc2
        rw [hlE] at this
        exact this
  obtain ⟨a, c, rfl, x1, x2, -, -⟩ := inCell.open h
  have HM0 := Lib.hid hm0
  have HN := Lib.hid hn
  have HRNL := Lib.hid hrn
  rw [← hn] at x1 HEL HBG hl ⊢
  have HN12 : Hid (n ≤ 12) := hl
  unfold maxLen at x2
  clear h hE hsq ht hrr hfit hm0 hm0l hrect hle hB hok hS hEE hn hrn HSH hfr hld hIT
  go_enter Tryz.func21, Tryz.ntmps21
  go_wp2_with fail
  refine HBG.out.mono ?_
  rintro e w1 ⟨u, vs, rfl, hM, hE1⟩
  have HM1 := Lib.hid hM; have HE1 := Lib.hid hE1
  obtain ⟨au, cu, hu⟩ : ∃ a c, u = .slice a n c := by
    rcases hM.form with ⟨h1, h2⟩ | ⟨g, cap, h1, -⟩
    · exact ⟨none, 0, by rw [h1, HN.out, h2]⟩
    · exact ⟨_, cap, by rw [h1, HN.out]⟩
  subst hu
  clear hE1 hM HBG
  go_wp2_with fail
  go_loopw [5] (fun t wr => ∃ (i : Nat) (vs : List Value), i ≤ n ∧ t = .int .i64 i ∧ Hid (Ext w wr) ∧ Hid (MatV wr w.heap.size w.heap.size (.slice au n cu) vs (augU xss i 0))) (fun t _ => n - (intOf t).toNat)
  case atStart => exact ⟨0, vs, by omega, rfl, HE1.out, by rw [augU_zero]; exact HM1.out⟩
  case round =>
    obtain ⟨i, vs, hi, rfl, HE, HM⟩ := hrel
    obtain ⟨wo, rfl⟩ : ∃ wo : World, wo = wr := ⟨_, rfl⟩
    by_cases hlt : i < n
    · have hii : (i : Int) < (n : Int) := by omega
      have hix : i < xss.length := by rw [← HN.out]; exact hlt
      have HIX := Lib.hid hix
      clear hix
      go_wp2_with fail
      go_loopw [6] (fun t wr => ∃ (k : Nat) (vs : List Value), k ≤ n ∧ t = .int .i64 k ∧ Hid (Ext w wr) ∧ Hid (MatV wr w.heap.size w.heap.size (.slice au n cu) vs (augU xss i k))) (fun t _ => n - (intOf t).toNat)
      case atStart => exact ⟨0, vs, by omega, rfl, HE.out, HM.out⟩
      case round =>
        obtain ⟨k, vs, hk, rfl, HE, HM⟩ := hrel
        obtain ⟨wi, rfl⟩ : ∃ wi : World, wi = wr := ⟨_, rfl⟩
        by_cases hkn : k < n
        · obtain ⟨g, hg⟩ : ∃ g, au = some ⟨g, 0, none⟩ := by
            rcases HM.out.form with ⟨h1, h2⟩ | ⟨g, cap, h1, -⟩
            · rw [augU_len, ← HN.out] at h2; omega
            · simp only [Value.slice.injEq] at h1; exact ⟨g, h1.1⟩
          subst hg
          obtain ⟨ri, hri⟩ : ∃ r, r = xss.getD i [] ++ (unitL xss.length i).take k := ⟨_, rfl⟩
          have HRI : Hid ((augU xss i k)[i]? = some ri) := by unfold Hid; rw [augU_get HIX.out, if_neg (by omega), if_pos rfl, hri]
          have HRL : Hid (ri.length = n + k) := by
            unfold Hid; rw [hri, List.length_append, List.length_take, unitL_len, List.getD_eq_getElem?_getD, List.getElem?_eq_getElem HIX.out]
            have := HRNL.out _ (List.getElem_mem HIX.out)
            simp only [Option.getD_some, this, ← HN.out]; omega
          obtain ⟨u, hui, hown, ai, ci, hu, k1, k2⟩ := HM.out.rowForm HRI.out
          subst hu
          have g1 := HM.out.cell hui
          have HVI := Lib.hid hui
          have HSE : Hid ((augU xss i k).set i (ri ++ [if i = k then 1 else 0]) = augU xss i (k + 1)) := by
            have := augU_set HIX.out (k := k) (by rw [← HN.out]; exact hkn)
            rw [← hri] at this
            exact this
          obtain ⟨nk, hnk⟩ : ∃ z, z = n + k := ⟨_, rfl⟩
          rw [← hnk] at HRL
          have HLRR : Hid (ri.length < 1000000) := by unfold Hid; rw [HRL.out]; have := HN12.out; omega
          have e1 : Value.slice ai ri.length ci = .slice ai nk ci := by rw [HRL.out]
          rw [e1] at hown g1 HVI
          have HOW := Lib.hid hown
          have HSZ : Hid (w.heap.size ≤ wi.heap.size) := HE.out.size
          have hkk : (k : Int) < (n : Int) := by omega
          rw [HRL.out] at k1
          obtain ⟨y, hy⟩ : ∃ y : Int, y = if i = k then 1 else 0 := ⟨_, rfl⟩
          rw [← hy] at HSE
          have HY : Hid (intB y = if i = k then ⟨#[49]⟩ else ⟨#[48]⟩) := by
            unfold Hid; rw [hy]
            split
            · decide +kernel
            · decide +kernel
          clear hri hui hown hnk e1 hy
          by_cases hik : i = k
          case' pos => have z9 : ((i : Int) == (k : Int)) = true := by rw [hik]; simp
          case' pos => rw [if_pos hik] at HY
          case' neg => have z9 : ((i : Int) == (k : Int)) = false := by rw [beq_eq_false_iff_ne]; omega
          case' neg => rw [if_neg hik] at HY
          all_goals
            clear hik
            go_wp2_with (at_builtin; go_must (refine wpList_append_num wi rfl _ _ rfl w.heap.size (.slice ai nk ci) ri y _ _ rfl HOW.out rfl ?_ HLRR.out HSZ.out ?_))
            · rw [HY.out]
            intro v' w6 hO6 hG6 hA6 hF6
            obtain ⟨b6, c6, rfl, l6, m6⟩ := hF6.out
            obtain ⟨p1, z1, z4, p4⟩ := HM.out.pushed (u' := .slice (some ⟨b6, 0, none⟩) (ri.length + 1) c6) (r' := ri ++ [y]) HSZ.out (Nat.le_refl _) HVI.out HRI.out _ _ (by rw [List.length_append]; exact hO6.out) hG6.out (by rw [World.size_alloc]; exact hA6.out)
            rw [HSE.out] at p1
            have HM6 := Lib.hid p1
            have HX6 : Hid (Ext w (w6.setCell ⟨g, i, none⟩ (.slice (some ⟨b6, 0, none⟩) (ri.length + 1) c6))) := Below.trans HE.out p4
            clear p1 p4 hO6 hG6 hA6
            rw [HRL.out] at HM6 HX6 l6 ⊢
            go_wp2_with fail
            go_roundw
            case rel => exact ⟨k + 1, _, by omega, by go_num, HX6.out, HM6.out⟩
            case measure => simp [intOf]; omega
        · obtain rfl : n = k := by omega
          have hkk : ¬ (n : Int) < (n : Int) := by omega
          have e1 : augU xss i n = augU xss (i + 1) 0 := by rw [HN.out]; exact augU_row
          rw [e1] at HM
          go_wp2_with fail
          go_roundw
          case rel => exact ⟨i + 1, _, by omega, by go_num, HE.out, HM.out⟩
          case measure => simp [intOf]; omega
    · obtain rfl : n = i := by omega
      have hii : ¬ (n : Int) < (n : Int) := by omega
      have em : augU xss n 0 = m0 := by rw [HN.out]; exact HM0.out.symm
      rw [em] at HM
      clear em
      go_wp2_with fail
      refine (HEL.out _ _ _ HM.out HE.out).mono ?_
      rintro e w3 ⟨p, rfl, hO, hN, hE3⟩
      have HO := Lib.hid hO
      have HE3 := Lib.hid hE3
      obtain ⟨ap, cp, rfl, l1, l2⟩ := hO.form
      obtain ⟨a', c', hu', -, -, -, hcells⟩ := inCell.open hN
      simp only [Value.slice.injEq] at hu'
      obtain ⟨rfl, -, rfl⟩ := hu'
      have HCE := Lib.hid hcells
      clear hO hN hE3 hcells HEL HM HM1
      obtain ⟨k, hk⟩ : ∃ k, k = E.lead.length := ⟨_, rfl⟩
      have HKK := Lib.hid hk
      rw [← hk] at l1 ⊢
      clear hk HO
      obtain ⟨la, hla⟩ : ∃ z, z = E.last := ⟨_, rfl⟩
      rw [← hla] at HSZL HLA0 ⊢
      have HLE := Lib.hid hla
      clear hla
      by_cases hkn : k < n
      · have p1 : (k : Int) < (n : Int) := by omega
        have HD : Hid (D = false) := by unfold Hid; rw [HDD.out, ← HKK.out]; simp [hkn]
        clear hkn
        go_wp2_with fail
        go_ret2
        exact ⟨_, by rw [HD.out]; rfl, fun hh => absurd hh (by rw [HD.out]; decide), HE3.out⟩
      · have p1 : ¬ (k : Int) < (n : Int) := by omega
        have HD : Hid (D = true) := by unfold Hid; rw [HDD.out, ← HKK.out]; simp [hkn]
        have p2 := decide_eq_false p1
        have p3 : decide (k < n) = false := decide_eq_false hkn
        clear hkn
        go_wp2_with fail
        go_loopw [12, 11] (fun t o wr => ∃ (q : Nat) (tags : List (Nat × Nat)), q ≤ n ∧ t = .int .i64 q ∧ Hid (Ext w3 wr) ∧ Hid (RowsO ratK 39 wr w3.heap.size w3.heap.size o tags (frows E n q))) (fun t _ _ => n - (intOf t).toNat)
        case atStart => exact ⟨0, [], by omega, rfl, Ext.refl _, RowsO.nil _ _ _ _ _⟩
        case round =>
          obtain ⟨q, tags, hq, rfl, HEO, HRO⟩ := hrel
          obtain ⟨wo, rfl⟩ : ∃ wo : World, wo = wr := ⟨_, rfl⟩
          by_cases hlt : q < n
          · have hqq : (q : Int) < (n : Int) := by omega
            obtain ⟨r, hr⟩ : ∃ r, E.m[q]? = some r := ⟨_, List.getElem?_eq_getElem (by rw [HEM.out.1]; exact hlt)⟩
            obtain ⟨bu, ou, rfl, -, hcu⟩ := HCE.out (by intro e; have := HEM.out.1; rw [e] at this; simp at this; omega)
            obtain ⟨vr, hvr, hd1⟩ := hcu q r hr
            have hrl := HEM.out.2 r (List.mem_of_getElem? hr)
            obtain ⟨aq, cq, rfl, j1, j2, -, hcr⟩ := ListAt.open hvr
            obtain ⟨bq, oq, rfl, -, hcq⟩ := hcr (by omega) (by intro e; rw [e] at hrl; simp at hrl; omega)
            have HXE : Hid (∀ j, elI E.m q j = r.getD j 0) := fun j => by unfold elI; rw [List.getD_eq_getElem?_getD (l := E.m), hr]; rfl
            obtain ⟨R1, hR1⟩ : ∃ R1, R1 = n + n := ⟨_, rfl⟩
            rw [hrl, ← hR1] at hd1 j1
            have HRR1 := Lib.hid hR1
            have HRL := Lib.hid (hrl.trans hR1.symm)
            have HD1 := Lib.hid hd1; have HCQ := Lib.hid hcq
            unfold maxLen at j2
            clear hr hvr hcu hcr hcq hrl hR1 hd1
            go_wp2_with fail
            go_loopw [14, 13] (fun t o wr => ∃ j : Nat, j ≤ n ∧ t = .int .i64 (n + j : Nat) ∧ Hid (Ext wo wr) ∧ Hid (OwnQ wo.heap.size wr o (frow E q n j))) (fun t _ _ => (n + n) - (intOf t).toNat)
            case atStart => exact ⟨0, by omega, rfl, by first | exact Ext.refl _ | exact Ext.drew _, OwnQ.nil _ _⟩
            case round =>
              obtain ⟨j, hj, rfl, HEI, HOQ⟩ := hrel
              obtain ⟨wi, rfl⟩ : ∃ wi : World, wi = wr := ⟨_, rfl⟩
              have HXI := Lib.hid (HEO.out.trans HEI.out)
              have d1 := HXI.out.cell HD1.out
              obtain ⟨nj, hnj⟩ : ∃ z, z = n + j := ⟨_, rfl⟩
              rw [← hnj]
              by_cases hjn : j < n
              · obtain ⟨x, hx⟩ : ∃ x, r[nj]? = some x := ⟨_, List.getElem?_eq_getElem (by rw [HRL.out, HRR1.out, hnj]; omega)⟩
                obtain ⟨ux, -, rfl, hcx⟩ := HCQ.out nj x hx
                have hd2 := hcx 0 (by omega)
                simp only [Nat.mul_one, Nat.add_zero, List.getElem?_cons_zero] at hd2
                have d2 := HXI.out.cell hd2
                have HXX : Hid (elI E.m q (n + j) = x) := by unfold Hid; rw [HXE.out, ← hnj, List.getD_eq_getElem?_getD, hx]; rfl
                have HFR : Hid (∀ W, Ext wi W → Calls Tryz.prog 62 #[.string (intB x), .string (intB la)] W fun e w' => e = .returned (.agg #[.string (intB ((x : Rat) / (la : Rat)).num), .string (numB ((x : Rat) / (la : Rat)).den)]) ∧ Ext W w') := fun W hW => by
                  have hsz := HSZE.out q (n + j)
                  rw [HXX.out] at hsz
                  exact refFractionG_any x la W (by omega) HLA0.out (by have := HSZL.out; omega) (HT.out.ext (HE3.out.trans (HXI.out.trans hW)))
                obtain ⟨qq, hqq2⟩ : ∃ z, z = (x : Rat) / (la : Rat) := ⟨_, rfl⟩
                rw [← hqq2] at HFR
                have HST : Hid (frow E q n (j + 1) = frow E q n j ++ [qq]) := by unfold Hid; rw [frow_succ, HXX.out, ← HLE.out, ← hqq2]
                have HLL : Hid ((frow E q n j).length + [qq].length < 1000000) := by unfold Hid; rw [frow_len]; have := HN12.out; simp; omega
                have p5 : (nj : Int) < (R1 : Int) := by rw [HRR1.out]; omega
                have hs0 : wo.heap.size ≤ wi.heap.size := HEI.out.size
                have HNJ : Hid (nj + 1 = n + (j + 1)) := by unfold Hid; omega
                have HNN : Hid (n + n = R1) := HRR1.out.symm
                clear hx hcx hd2 hqq2 hnj
                go_wp2_with fail
                refine (HFR.out _ (Ext.refl _)).mono ?_
                rintro e w5 ⟨rfl, hE5⟩
                have HQ5 := Lib.hid ((HOQ.out.ext hE5).ext (Ext.alloc w5 (.cells #[.string (intB qq.num), .string (numB qq.den)] 81)))
                have HR5 := Lib.hid (Rats.one w5 qq 81)
                have HX5 := Lib.hid (HEI.out.trans (hE5.trans (Ext.alloc w5 (.cells #[.string (intB qq.num), .string (numB qq.den)] 81))))
                have hs5 : Hid (wo.heap.size ≤ (w5.alloc (.cells #[.string (intB qq.num), .string (numB qq.den)] 81)).heap.size) := HX5.out.size
                clear hE5
                go_wp2_with (at_builtin; go_must (refine wpList_append_rats _ rfl _ _ rfl wo.heap.size u13 _ (frow E q n j) [qq] rfl HQ5.out rfl HR5.out HLL.out hs5.out ?_))
                intro v' w6 hO6 hB6 hG6
                rw [← HST.out] at hO6
                have HO6 := Lib.hid hO6
                have HX6 : Hid (Ext wo w6) := Below.trans HX5.out hB6
                clear hO6 hB6 hG6
                go_wp2_with fail
                go_roundw
                case rel => exact ⟨j + 1, by omega, by first | (go_num; rw [← HNJ.out]; rfl) | (rw [← HNJ.out]; go_num), HX6.out, HO6.out⟩
                case measure => simp [intOf]; have := HNN.out; omega
              · obtain rfl : n = j := by omega
                have p5 : ¬ (nj : Int) < (R1 : Int) := by rw [HRR1.out]; omega
                obtain ⟨g, cap, hv, hRQ, hbg, hgl, hcap, hcap2⟩ := HOQ.out.build (by rw [frow_len]; omega)
                subst hv
                have HRQ := Lib.hid hRQ
                have HFL := Lib.hid (frow_len E q n n)
                rw [HFL.out] at hcap ⊢
                have HRO4 := Lib.hid (HRO.out.ext HEI.out)
                have HV : Hid (u11.ownBlock ≠ some g) := fun e => by have := (HRO.out.own.lt _ e).2; omega
                have HNT : Hid (g ∉ tags.map (·.1)) := fun e => by have := (HRO.out.fresh e).2; omega
                have HLL : Hid ((frows E n q).length < 1000000) := by unfold Hid frows; rw [List.length_map, List.length_range]; have := HN12.out; omega
                have hs5 : Hid (w3.heap.size ≤ wi.heap.size) := HXI.out.size
                have HGB : Hid (w3.heap.size ≤ g) := by have := HEO.out.size; unfold Hid; omega
                have HC2 : Hid (n ≤ cap ∧ cap ≤ 9223372036854775807) := ⟨hcap, hcap2⟩
                have HST := Lib.hid (frows_succ E n q)
                clear hRQ hnj hbg hgl hcap2
                go_wp2_with (at_builtin; go_must (refine wpList_append_rowO (K := ratK) (e := 39) Tryz.underlying30 infoRats wi rfl _ _ rfl w3.heap.size w3.heap.size u11 tags (frows E n q) (g, cap) (frow E q n n) _ _ rfl HRO4.out rfl ?d1 ?d2 ?d3 HRQ.out ?d4 HV.out HNT.out HLL.out ?d5 ?_))
                case d1 => rw [HFL.out]; rfl
                case d2 => rw [HFL.out]; exact HC2.out.1
                case d3 => exact HC2.out.2
                case d4 => exact HGB.out
                case d5 => exact hs5.out
                intro v' w6 hO6 hb6 _
                rw [← HST.out] at hO6
                have HO6 := Lib.hid hO6
                have HX6 : Hid (Ext w3 w6) := Below.trans HXI.out hb6
                clear hO6 hb6
                go_wp2_with fail
                go_roundw
                case rel => exact ⟨q + 1, _, by omega, by go_num, HX6.out, HO6.out⟩
                case measure => simp [intOf]; omega
          · obtain rfl : n = q := by omega
            have hqq : ¬ (n : Int) < (n : Int) := by omega
            rw [HFR0.out] at HRO
            have HXF := Lib.hid (HE3.out.trans HEO.out)
            have HR2 := Lib.hid HRO.out.rats2
            go_wp2_with fail
            go_ret2
            exact ⟨_, by rw [HD.out]; rfl, fun _ => HR2.out, HXF.out⟩
end Go.Proofs.YtpeinobepiodaaaGreatDoor
/- The errors of table.Inverse and table.Determinant; printed by gen/tabbad.py. -/
namespace Go.Proofs.YtpeinobepiodaaaGreatDoor
set_option linter.unusedVariables false
set_option linter.unusedSimpArgs false
open Go.RowKit

set_option maxRecDepth 100000 in
set_option maxHeartbeats 4000000 in
theorem det_bad (xss : List (List Int)) (v : Value) (w : World) (h : Rows2 w v xss) (hE : tabE xss ≠ 0) :
    Calls Tryz.prog 16 #[v] w fun e w' => e = .returned (.tuple #[.string ⟨#[]⟩, .int .i64 (tabE xss)]) ∧ Ext w w' := by
  have HCH := Lib.hid (tabCheck_any xss v w h)
  obtain ⟨E, hEE⟩ : ∃ E, E = tabE xss := ⟨_, rfl⟩
  rw [← hEE] at HCH hE ⊢
  have q : (E != 0) = true := by simpa using hE
  obtain ⟨a, c, rfl, h1, h2, -, -⟩ := inCell.open h
  obtain ⟨n, hn⟩ : ∃ n, n = xss.length := ⟨_, rfl⟩
  rw [← hn] at HCH h1 ⊢
  unfold maxLen at h2
  clear h hE hEE hn
  go_enter Tryz.func16, Tryz.ntmps16
  go_wp2_with fail
  refine HCH.out.mono ?_
  rintro e w1 ⟨rfl, hE1⟩
  have HE1 := Lib.hid hE1
  clear hE1
  go_wp2_with fail
  go_ret2
  exact ⟨rfl, HE1.out⟩
set_option maxRecDepth 100000 in
set_option maxHeartbeats 4000000 in
theorem det_size_bad (xss : List (List Int)) (v : Value) (w : World) (h : Rows2 w v xss) (hE : tabE xss = 0) (hp : 0 < xss.length) (hs : colsN xss ≠ xss.length) :
    Calls Tryz.prog 16 #[v] w fun e w' => e = .returned (.tuple #[.string ⟨#[]⟩, .int .i64 5]) ∧ Ext w w' := by
  have HCH := Lib.hid (tabCheck_any xss v w h)
  rw [hE] at HCH
  have HCO : Hid (∀ W, Ext w W → Calls Tryz.prog 43 #[v] W fun e w' => e = .returned (.int .i64 (colsN xss : Int)) ∧ W = w') := fun W hW => columns_any xss v W (h.ext hW)
  obtain ⟨a, c, rfl, h1, h2, -, -⟩ := inCell.open h
  obtain ⟨n, hn⟩ : ∃ n, n = xss.length := ⟨_, rfl⟩
  obtain ⟨m, hm⟩ : ∃ n, n = colsN xss := ⟨_, rfl⟩
  rw [← hn] at HCH HCO h1 hp hs ⊢
  rw [← hm] at HCO hs
  unfold maxLen at h2
  have q0 : (0 : Int) < (n : Int) := by omega
  have z1 : ((m : Int) != (n : Int)) = true := by rw [bne_iff_ne]; omega
  clear h hE hs hn hm
  go_enter Tryz.func16, Tryz.ntmps16
  go_wp2_with fail
  refine HCH.out.mono ?_
  rintro e w1 ⟨rfl, hE1⟩
  have HE1 := Lib.hid hE1
  clear hE1
  go_wp2_with fail
  refine (HCO.out _ HE1.out).mono ?_
  rintro e w2 ⟨rfl, rfl⟩
  go_wp2_with fail
  go_ret2
  exact ⟨rfl, HE1.out⟩
set_option maxRecDepth 100000 in
set_option maxHeartbeats 4000000 in
theorem inv_bad (xss : List (List Int)) (v : Value) (w : World) (h : Rows2 w v xss) (hE : tabE xss ≠ 0) :
    Calls Tryz.prog 17 #[v] w fun e w' => e = .returned (.tuple #[.slice none 0 0, .int .i64 (tabE xss)]) ∧ Ext w w' := by
  have HCH := Lib.hid (fun W hW => tabCheck_any xss v W (h.ext (w' := W) hW))
  obtain ⟨a, c, rfl, h1, h2, -, -⟩ := inCell.open h
  obtain ⟨n, hn⟩ : ∃ n, n = xss.length := ⟨_, rfl⟩
  obtain ⟨E, hEE⟩ : ∃ E, E = tabE xss := ⟨_, rfl⟩
  rw [← hn] at HCH h1 ⊢
  rw [← hEE] at HCH hE ⊢
  have q : (E != 0) = true := by simpa using hE
  clear h hE hEE hn
  unfold maxLen at h2
  go_enter Tryz.func17, Tryz.ntmps17
  go_wp2_with fail
  refine (HCH.out _ (Ext.refl _)).mono ?_
  rintro e w1 ⟨rfl, hE1⟩
  have HE1 := Lib.hid hE1
  clear hE1
  go_wp2_with fail
  go_ret2
  exact ⟨rfl, HE1.out⟩
set_option maxRecDepth 100000 in
set_option maxHeartbeats 4000000 in
theorem inv_size (xss : List (List Int)) (v : Value) (w : World) (h : Rows2 w v xss) (hE : tabE xss = 0) (hp : 0 < xss.length) (hs : colsN xss ≠ xss.length) :
    Calls Tryz.prog 17 #[v] w fun e w' => e = .returned (.tuple #[.slice none 0 0, .int .i64 5]) ∧ Ext w w' := by
  have HCH := Lib.hid (fun W hW => tabCheck_any xss v W (h.ext (w' := W) hW))
  rw [hE] at HCH
  have HCO : Hid (∀ W, Ext w W → Calls Tryz.prog 43 #[v] W fun e w' => e = .returned (.int .i64 (colsN xss : Int)) ∧ w' = W) := fun W hW => (columns_any xss v W (h.ext hW)).mono fun _ _ ⟨a, b⟩ => ⟨a, b.symm⟩
  obtain ⟨a, c, rfl, h1, h2, -, -⟩ := inCell.open h
  obtain ⟨n, hn⟩ : ∃ n, n = xss.length := ⟨_, rfl⟩
  obtain ⟨m, hm⟩ : ∃ n, n = colsN xss := ⟨_, rfl⟩
  rw [← hn] at HCH HCO h1 hp hs ⊢
  rw [← hm] at HCO hs
  have q0 : (0 : Int) < (n : Int) := by omega
  have z0 : decide ((0 : Int) < (n : Int)) = true := decide_eq_true q0
  have z2 : decide (0 < n) = true := decide_eq_true hp
  have z1 : ((m : Int) != (n : Int)) = true := by rw [bne_iff_ne]; omega
  clear h hE hs hn hm
  unfold maxLen at h2
  go_enter Tryz.func17, Tryz.ntmps17
  go_wp2_with fail
  refine (HCH.out _ (Ext.refl _)).mono ?_
  rintro e w1 ⟨rfl, hE1⟩
  obtain ⟨W2, hW2⟩ : ∃ W2, W2 = (w1.alloc (.cells #[.int .i64 0] 3)) := ⟨_, rfl⟩
  have hE2 : Ext w1 W2 := by rw [hW2]; exact Ext.alloc _ _
  have hb2 : W2.heap[w1.heap.size]? = some (.cells #[.int .i64 0] 3 (0, 0)) := by rw [hW2]; exact block_new _ _ _
  have c0 := block_cell hb2 0
  have f0 := block_free hb2 0
  simp only [List.getElem?_toArray, List.getElem?_cons_zero] at c0
  have hX3 : Ext w (W2.setCell ⟨w1.heap.size, 0, none⟩ (.int .i64 (n : Int))) := Ext.trans hE1 (((hE2.grownS (· = w1.heap.size)).store (S := (· = w1.heap.size)) rfl 0 _).belowE (fun b e => by omega) (Nat.le_refl _))
  have hb3 := block_set hb2 0 (.int .i64 (n : Int))
  have c3 := block_cell hb3 0
  simp only [List.setIfInBounds_toArray, List.set_cons_zero, List.getElem?_toArray, List.getElem?_cons_zero] at c3
  have HX3 := Lib.hid hX3
  have hW2' := hW2.symm
  clear hE1 hE2 hb2 hX3 hb3 HCH hW2
  go_wp2_with fail
  obtain ⟨W3, hW3⟩ : ∃ W3, W3 = W2.setCell ⟨w1.heap.size, 0, none⟩ (.int .i64 (n : Int)) := ⟨_, rfl⟩
  rw [← hW3] at HX3 c3 ⊢
  clear hW3 c0 f0 hW2'
  go_quiet ((go_at_call 43; exact Calls.quiet_of_same (HCO.out _ (Ext.draws HX3.out _))))
  obtain ⟨wq, hwq⟩ : ∃ wq, wq = W3.drewN nq := ⟨_, rfl⟩
  rw [← hwq]
  have hEQ : Ext W3 wq := by rw [hwq]; exact Ext.drewN _ _
  have HXQ := Lib.hid (Ext.trans HX3.out hEQ)
  have b1 := hEQ.cell c3
  have HB1 := Lib.hid b1
  clear hwq hEQ c3 HX3 HCO
  go_wp2_with fail
  go_ret2
  exact ⟨rfl, HXQ.out⟩
set_option maxRecDepth 100000 in
set_option maxHeartbeats 4000000 in
theorem inv_nil (xss : List (List Int)) (v : Value) (w : World) (h : Rows2 w v xss) (hx : xss = []) (ht : Pow10 w) :
    Calls Tryz.prog 17 #[v] w fun e w' => e = .returned (.tuple #[.slice none 0 0, .int .i64 0]) ∧ Ext w w' := by
  have HCH := Lib.hid (fun W hW => tabCheck_any xss v W (h.ext (w' := W) hW))
  subst hx
  have HRO : Hid (∀ W B, Ext w W → Calls Tryz.prog 52 #[v, .func (.func 54) #[] #[.pointer (some ⟨B, 0, none⟩)]] W fun e w' => ∃ u, e = .returned u ∧ (∃ a c, u = .slice a 0 c) ∧ Ext W w') := fun W B hW => by
    have := rows_any [] v 54 #[.pointer (some ⟨B, 0, none⟩)] (fun i => []) W (h.ext hW) (by simp) (fun r hr => by simp at hr) (fun i r hr => by simp at hr) (enters_of Tryz.func54 (by kernel_rfl) rfl) (fun i X hi hX => by simp at hi) (ht.ext hW)
    refine this.mono fun e w' ⟨u, tags, g1, g2, g3⟩ => ⟨u, g1, ?_, g3⟩
    rcases g2.own.2 with ⟨e, hn⟩ | ⟨g, cap, cur, e, -⟩
    · exact ⟨none, 0, e⟩
    · exact ⟨_, cap, e⟩
  have HCO : Hid (∀ W, Ext w W → Calls Tryz.prog 43 #[v] W fun e w' => e = .returned (.int .i64 0) ∧ w' = W) := fun W hW => (columns_any [] v W (h.ext hW)).mono fun _ _ ⟨a, b⟩ => ⟨a, b.symm⟩
  have HCH : Hid (∀ W, Ext w W → Calls Tryz.prog 41 #[v] W fun e w' => e = .returned (.int .i64 0) ∧ Ext W w') := fun W hW => tabCheck_any [] v W (h.ext hW)
  obtain ⟨a, c, rfl, h1, h2, -, -⟩ := inCell.open h
  simp only [List.length_nil] at h1 HCH HRO HCO ⊢
  have z2 : decide ((0 : Int) < 0) = false := by decide
  clear h
  unfold maxLen at h2
  go_enter Tryz.func17, Tryz.ntmps17
  go_wp2_with fail
  refine (HCH.out _ (Ext.refl _)).mono ?_
  rintro e w1 ⟨rfl, hE1⟩
  obtain ⟨W2, hW2⟩ : ∃ W2, W2 = (w1.alloc (.cells #[.int .i64 0] 3)) := ⟨_, rfl⟩
  have hE2 : Ext w1 W2 := by rw [hW2]; exact Ext.alloc _ _
  have hb2 : W2.heap[w1.heap.size]? = some (.cells #[.int .i64 0] 3 (0, 0)) := by rw [hW2]; exact block_new _ _ _
  have c0 := block_cell hb2 0
  have f0 := block_free hb2 0
  simp only [List.getElem?_toArray, List.getElem?_cons_zero] at c0
  have hX3 : Ext w (W2.setCell ⟨w1.heap.size, 0, none⟩ (.int .i64 0)) := Ext.trans hE1 (((hE2.grownS (· = w1.heap.size)).store (S := (· = w1.heap.size)) rfl 0 _).belowE (fun b e => by omega) (Nat.le_refl _))
  have hb3 := block_set hb2 0 (.int .i64 0)
  have c3 := block_cell hb3 0
  simp only [List.setIfInBounds_toArray, List.set_cons_zero, List.getElem?_toArray, List.getElem?_cons_zero] at c3
  have HX3 := Lib.hid hX3
  have hW2' := hW2.symm
  clear hE1 hE2 hb2 hX3 hb3 HCH hW2
  go_wp2_with fail
  obtain ⟨W3, hW3⟩ : ∃ W3, W3 = W2.setCell ⟨w1.heap.size, 0, none⟩ (.int .i64 0) := ⟨_, rfl⟩
  rw [← hW3] at HX3 c3 ⊢
  clear hW3 c0 f0 hW2'
  go_quiet ((go_at_call 43; exact Calls.quiet_of_same (HCO.out _ (Ext.draws HX3.out _))))
  obtain ⟨wq, hwq⟩ : ∃ wq, wq = W3.drewN nq := ⟨_, rfl⟩
  rw [← hwq]
  have hEQ : Ext W3 wq := by rw [hwq]; exact Ext.drewN _ _
  have HXQ := Lib.hid (Ext.trans HX3.out hEQ)
  have b1 := hEQ.cell c3
  have HB1 := Lib.hid b1
  clear hwq hEQ c3 HX3 HCO
  go_wp2_with fail
  refine (HRO.out _ _ HXQ.out).mono ?_
  rintro e w4 ⟨u, rfl, ⟨au, cu, rfl⟩, hE4⟩
  have HE4 := Lib.hid hE4
  have b4 := hE4.cell HB1.out
  have HX5a := Lib.hid (Ext.trans HXQ.out hE4)
  clear hE4 HRO
  go_wp2_with fail
  refine (reduce_zero _ _ ⟨_, _, _, rfl⟩).mono ?_
  rintro e w6 ⟨rfl, hE6⟩
  have HX6 := Lib.hid (Ext.trans HX5a.out hE6)
  rw [ratV_one]
  obtain ⟨W7, hW7, hE7, hs7, hb7⟩ := box2 w6 (.string ⟨#[]⟩) (.string ⟨#[]⟩) 81
  obtain ⟨r0, r1, rf⟩ := block2_cell hb7
  have f0 := rf 0
  have f1 := rf 1
  have b6 := hE6.cell b4
  have HX8 : Hid (Ext w6 ((W7.setCell ⟨w6.heap.size, 0, none⟩ (.string ⟨#[49]⟩)).setCell ⟨w6.heap.size, 1, none⟩ (.string ⟨#[49]⟩))) := ext_set2 hE7 (Nat.le_refl _)
  have b8 := HX8.out.cell b6
  clear hE6 rf hb7 hE7 hs7 b4
  go_wp2_with fail
  obtain ⟨W9, hW9⟩ : ∃ W9, W9 = ((W7.setCell ⟨w6.heap.size, 0, none⟩ (.string ⟨#[49]⟩)).setCell ⟨w6.heap.size, 1, none⟩ (.string ⟨#[49]⟩)) := ⟨_, rfl⟩
  rw [← hW9] at HX8 ⊢
  have HXW := Lib.hid (Ext.trans HX6.out HX8.out)
  clear hW9 hW7 r0 r1 f0 f1 b6
  go_loopw [42, 9] (fun t o wr => t = .int .i64 0 ∧ o = .slice none 0 0 ∧ Hid (Ext W9 wr)) (fun _ _ _ => 0)
  case atStart => exact ⟨rfl, rfl, by first | exact Ext.refl _ | exact Ext.drew _⟩
  case round =>
    obtain ⟨rfl, rfl, HE⟩ := hrel
    obtain ⟨wo, rfl⟩ : ∃ wo : World, wo = wr := ⟨_, rfl⟩
    go_wp2_with fail
    go_ret2
    exact ⟨rfl, HXW.out.trans HE.out⟩
set_option maxRecDepth 100000 in
set_option maxHeartbeats 4000000 in
theorem inv_dep (xss : List (List Int)) (v : Value) (w : World) (h : Rows2 w v xss) (hE : tabE xss = 0) (hpos : 0 < xss.length) (hsq : colsN xss = xss.length) (hok : ∀ c, c < xss.length → AllRS 2500 (redTo (invM xss) c).m ∧ RS 9000 (redTo (invM xss) c).det) (hld : (invR xss).lead.length < xss.length) (ht : Pow10 w) :
    Calls Tryz.prog 17 #[v] w fun e w' => e = .returned (.tuple #[.slice none 0 0, .int .i64 18]) ∧ Ext w w' := by
  obtain ⟨hl, hrr⟩ := tabE_zero hE
  have hrl : ∀ r ∈ xss, r.length = xss.length := fun r hr => by rw [(hrr r hr).1, hsq]
  have HCH := Lib.hid (fun W hW => tabCheck_any xss v W (h.ext (w' := W) hW))
  rw [hE] at HCH
  have HCO : Hid (∀ W, Ext w W → Calls Tryz.prog 43 #[v] W fun e w' => e = .returned (.int .i64 (xss.length : Int)) ∧ w' = W) := fun W hW => by
    have := columns_any xss v W (h.ext hW)
    rw [hsq] at this
    exact this.mono fun _ _ ⟨a, b⟩ => ⟨a, b.symm⟩
  have HRO : Hid (∀ W B, Ext w W → W.cell? ⟨B, 0, none⟩ = some (.int .i64 (xss.length : Int)) → Calls Tryz.prog 52 #[v, .func (.func 54) #[] #[.pointer (some ⟨B, 0, none⟩)]] W fun e w' => ∃ u tags, e = .returned u ∧ RowsO ratK 39 w' W.heap.size W.heap.size u tags (invM xss) ∧ Ext W w') := fun W B hW hb => by
    refine rows_any xss v 54 #[.pointer (some ⟨B, 0, none⟩)] (unitQ xss.length) W (h.ext hW) (by omega) (fun r hr => by rw [hrl r hr]; omega) (fun i r hr => ?_) (enters_of Tryz.func54 (by kernel_rfl) rfl) (fun i X hi hX => ?_) (ht.ext hW)
    · have h1 := hrl r (List.mem_of_getElem? hr)
      exact ⟨by omega, by simp [unitQ]; omega⟩
    · exact inverse1_any i xss.length B hi (by omega) X (hX.cell hb)
  have HRE : Hid (∀ u tags W w1, RowsO ratK 39 w1 W.heap.size W.heap.size u tags (invM xss) → Ext w W → Ext W w1 → Calls Tryz.prog 51 #[u, .int .i64 (xss.length : Int)] w1 fun e w' => ∃ v, e = .returned (.tuple #[v, ratV (invR xss).det]) ∧ RedOk W w1 w' u v tags (invM xss) xss.length) := fun u tags W w1 hO hW h1 =>
    reduceRows_any (invM xss) xss.length (xss.length + xss.length) u tags W w1 hO h1 (invM_rect hrl) (by omega) (by omega) (by unfold invM; rw [rowsTo_len]; omega) hok (ht.ext hW) (fun e => by have : (invM xss).length = xss.length := rowsTo_len _ _ _; rw [e] at this; simpa using this.symm)
  have HML : Hid ((invM xss).length = xss.length) := rowsTo_len _ _ _
  have HMNE : Hid (invM xss ≠ []) := fun e => by have := HML.out; rw [e] at this; simp at this; omega
  have HSH : Hid (Rect (xss.length + xss.length) (invR xss).m ∧ (invR xss).m.length = xss.length) := by
    obtain ⟨k1, k2, -⟩ := redTo_shape (invM_rect hrl) xss.length
    exact ⟨k1, by show (redTo (invM xss) xss.length).m.length = _; rw [k2]; exact HML.out⟩
  obtain ⟨a, c, rfl, h1, h2, -, -⟩ := inCell.open h
  obtain ⟨n, hn⟩ : ∃ n, n = xss.length := ⟨_, rfl⟩
  obtain ⟨ld, hld2⟩ : ∃ ld, ld = (invR xss).lead.length := ⟨_, rfl⟩
  have HLD := Lib.hid hld2
  rw [← hld2] at hld
  rw [← hn] at HCH HCO HRO HRE HSH HML h1 hpos hld hl ⊢
  have HN := Lib.hid hn
  unfold maxLen at h2
  have q0 : (0 : Int) < (n : Int) := by omega
  have z0 : decide ((0 : Int) < (n : Int)) = true := decide_eq_true q0
  have z1 : ((n : Int) != (n : Int)) = false := by simp
  have z2 : decide (0 < n) = true := decide_eq_true hpos
  have q1 : (ld : Int) < (n : Int) := by omega
  have q2 : ld < n := hld
  clear h hE hok ht hrr hsq hn hrl hld2
  go_enter Tryz.func17, Tryz.ntmps17
  go_wp2_with fail
  refine (HCH.out _ (Ext.refl _)).mono ?_
  rintro e w1 ⟨rfl, hE1⟩
  obtain ⟨W2, hW2⟩ : ∃ W2, W2 = (w1.alloc (.cells #[.int .i64 0] 3)) := ⟨_, rfl⟩
  have hE2 : Ext w1 W2 := by rw [hW2]; exact Ext.alloc _ _
  have hb2 : W2.heap[w1.heap.size]? = some (.cells #[.int .i64 0] 3 (0, 0)) := by rw [hW2]; exact block_new _ _ _
  have c0 := block_cell hb2 0
  have f0 := block_free hb2 0
  simp only [List.getElem?_toArray, List.getElem?_cons_zero] at c0
  have hX3 : Ext w (W2.setCell ⟨w1.heap.size, 0, none⟩ (.int .i64 (n : Int))) := Ext.trans hE1 (((hE2.grownS (· = w1.heap.size)).store (S := (· = w1.heap.size)) rfl 0 _).belowE (fun b e => by omega) (Nat.le_refl _))
  have hb3 := block_set hb2 0 (.int .i64 (n : Int))
  have c3 := block_cell hb3 0
  simp only [List.setIfInBounds_toArray, List.set_cons_zero, List.getElem?_toArray, List.getElem?_cons_zero] at c3
  have HX3 := Lib.hid hX3
  have hW2' := hW2.symm
  clear hE1 hE2 hb2 hX3 hb3 HCH hW2
  go_wp2_with fail
  obtain ⟨W3, hW3⟩ : ∃ W3, W3 = W2.setCell ⟨w1.heap.size, 0, none⟩ (.int .i64 (n : Int)) := ⟨_, rfl⟩
  rw [← hW3] at HX3 c3 ⊢
  clear hW3 c0 f0 hW2'
  go_quiet ((go_at_call 43; exact Calls.quiet_of_same (HCO.out _ (Ext.draws HX3.out _))))
  obtain ⟨wq, hwq⟩ : ∃ wq, wq = W3.drewN nq := ⟨_, rfl⟩
  rw [← hwq]
  have hEQ : Ext W3 wq := by rw [hwq]; exact Ext.drewN _ _
  have HXQ := Lib.hid (Ext.trans HX3.out hEQ)
  have b1 := hEQ.cell c3
  have HB1 := Lib.hid b1
  clear hwq hEQ c3 HX3 HCO
  go_wp2_with fail
  refine (HRO.out _ _ HXQ.out b1).mono ?_
  rintro e w4 ⟨u, tags, rfl, hO, hE4⟩
  obtain ⟨au, cu, hu⟩ := hO.form2
  rw [HML.out] at hu
  have b4 := hE4.cell b1
  have HO := Lib.hid hO; have HE4 := Lib.hid hE4
  subst hu
  clear hO hE4 b1 HRO
  go_wp2_with fail
  refine (HRE.out _ tags wq w4 HO.out HXQ.out HE4.out).mono ?_
  rintro e w5 ⟨vl, rfl, hR⟩
  obtain ⟨av, cv, hv, -, -⟩ := hR.lead.form
  have hv2 : vl = .slice av ld cv := by rw [hv, HLD.out, HN.out]; rfl
  subst hv2
  obtain ⟨d, hd⟩ : ∃ d, d = (invR xss).det := ⟨_, rfl⟩
  rw [← hd]
  rw [show ratV d = .agg #[.string (intB d.num), .string (numB d.den)] from rfl]
  obtain ⟨g, tags', cap, hu, hM, hcp1, hcp2, hlow⟩ := hR.mat HMNE.out
  have HX5 := Lib.hid (Ext.trans HXQ.out hR.ext)
  have HM := Lib.hid hM
  simp only [Value.slice.injEq] at hu
  obtain ⟨rfl, -, rfl⟩ := hu
  rw [HML.out] at hcp1
  obtain ⟨W6, hW6, hE6, hs6, hb6⟩ := box2 w5 (.string ⟨#[]⟩) (.string ⟨#[]⟩) 81
  obtain ⟨r0, r1, rf⟩ := block2_cell hb6
  have f0 := rf 0
  have f1 := rf 1
  have b5 := hR.ext.cell HB1.out
  have HX7 : Hid (Ext w5 ((W6.setCell ⟨w5.heap.size, 0, none⟩ (.string (intB d.num))).setCell ⟨w5.heap.size, 1, none⟩ (.string (numB d.den)))) := ext_set2 hE6 (Nat.le_refl _)
  have b7 := HX7.out.cell b5
  clear hR hv hd rf hb6 hE6 hs6 b4 hM HRE HO HE4 hlow
  go_wp2_with fail
  obtain ⟨W7, hW7⟩ : ∃ W7, W7 = ((W6.setCell ⟨w5.heap.size, 0, none⟩ (.string (intB d.num))).setCell ⟨w5.heap.size, 1, none⟩ (.string (numB d.den))) := ⟨_, rfl⟩
  rw [← hW7] at HX7 b7 ⊢
  have HB7 := Lib.hid b7
  have HM7 : Hid (MatQ W7 g tags' (invR xss).m) := by
    have := HM.out.ext HX7.out
    rw [HN.out] at this
    exact this
  have HXW := Lib.hid (Ext.trans HX5.out HX7.out)
  clear hW7 r0 r1 f0 f1 b5 HX7 HM b7
  go_ret2
  exact ⟨rfl, HXW.out⟩
end Go.Proofs.YtpeinobepiodaaaGreatDoor
