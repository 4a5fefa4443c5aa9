/- Merged: Known6. -/
import Derived.Test.YtpeinobepiodaaaGreatDoorGL
import Derived.Test.YtpeinobepiodaaaGreatDoorGM
import Derived.Test.YtpeinobepiodaaaGreatDoorGN
/- The examples of chapter 06: known. -/
namespace Go.Proofs.YtpeinobepiodaaaGreatDoor
set_option linter.unusedVariables false
set_option linter.unusedSimpArgs false
open Go.RowKit

/-- As anyE_take, where z waits for i at once. -/
theorem anyE_take1 {P : Program} {ops : Array Oper} {Q : Exit → Act → World → Prop} {md : Region.Mode} {S : World → Prop} {z : Nat} (i : Nat) {oi : Oper} {v : Value} {f : Nat} {l : Array Bool} {a : Act} {w : World} (hi : ops[i]? = some oi)
    (hs : Region.noSelect ops = true) (hc : closedB md ops l = true) (hf : Region.free md ops l i = true) (hr : (Region.ready md ops l).contains i = true) (hz : reachB md ops 1 z i = true)
    (hQ : ∀ c a w, Q (.panic c) (a.put oi.dst v) w → Q (.panic c) a w) (hy : YieldsIf P ops S oi v a) (hS : S w)
    (h : anyE P md ops Q S z f (l.setIfInBounds i true) (a.put oi.dst v) w) : anyE P md ops Q S z (f + 1) l a w :=
  anyE_first hi (Region.noSelect_spec hs) hQ hz f l a w (Region.free_spec hi hf) (closedB_spec hc) (by simpa using hr) hy hS h
/-- The first i of n have come. -/
def upD (n i : Nat) : Array Bool := (List.replicate i true ++ List.replicate (n - i) false).toArray
theorem upD_step {n i : Nat} (h : decide (i < n) = true) : (upD n i).setIfInBounds i true = upD n (i + 1) := by
  have h := of_decide_eq_true h
  unfold upD
  rw [List.setIfInBounds_toArray, show n - i = (n - (i + 1)) + 1 by omega, List.replicate_succ]
  congr 1
  apply List.ext_getElem?
  intro j
  rw [List.getElem?_set]
  by_cases hj : i = j
  · subst hj
    simp only [if_true, List.length_append, List.length_replicate, List.length_cons]
    rw [if_pos (by omega), List.getElem?_append_left (by simp), List.getElem?_replicate, if_pos (by omega)]
  · rw [if_neg hj]
    simp only [List.getElem?_append, List.length_replicate, List.getElem?_replicate, List.getElem?_cons]
    by_cases h1 : j < i
    · simp [h1, show j < i + 1 by omega]
    · have : ¬ j < i + 1 := by omega
      have h3 : j - i ≠ 0 := by omega
      simp [h1, this, h3, show j - i - 1 = j - (i + 1) by omega]
section
variable {P : Program} {ops O : Array Oper} {Q : Exit → Act → World → Prop} {md : Region.Mode} {S : World → Prop} {z n : Nat}
theorem getop (hO : Hid (ops = O)) (i : Nat) (h : i < O.size) : ops[i]? = some O[i] := by
  have hO : ops = O := hO
  subst hO
  exact Array.getElem?_eq_getElem h
theorem region_anyEU (S : World → Prop) (z : Nat) (n : Nat) {id : Nat} {a : Act} {w : World} (hm : P.follows .mixedOrders = true) (hn : O.size = n) (hS : S w.drew)
    (h : ∀ ops, Hid (ops = O) → S w.drew → anyE P .any ops Q S z n (upD n 0) a w.drew) : (Code.region id O true).wp P Q a w :=
  region_anyE S z hm hS (fun hh => by have := h O rfl hh; rw [hn]; have e : Array.replicate n false = upD n 0 := by unfold upD; simp
                                      rw [e]; exact this)
theorem anyE_takeWU (hO : Hid (ops = O)) (i : Nat) {oi : Oper} {v : Value} {f : Nat} {a : Act} {w : World} (hi : ops[i]? = some oi) (hin : decide (i < n) = true)
    (hs : Region.noSelect O = true) (hf : Region.free md O (upD n i) i = true) (hr : (Region.ready md O (upD n i)).contains i = true) (hz : i ≠ z)
    (hQ : ∀ c a w, Q (.panic c) (a.put oi.dst v) w → Q (.panic c) a w) (hy : Yields P O oi v a) (hS : S w)
    (h : anyE P md ops Q S z f (upD n (i + 1)) (a.put oi.dst v) w) : anyE P md ops Q S z (f + 1) (upD n i) a w := by
  have hO : ops = O := hO
  subst hO
  exact anyE_takeW i hi hs hf hr hz hQ hy hS (by rw [upD_step hin]; exact h)
theorem anyE_take1U (hO : Hid (ops = O)) (i : Nat) {oi : Oper} {v : Value} {f : Nat} {a : Act} {w : World} (hi : ops[i]? = some oi) (hin : decide (i < n) = true)
    (hs : Region.noSelect O = true) (hc : closedB md O (upD n i) = true) (hf : Region.free md O (upD n i) i = true) (hr : (Region.ready md O (upD n i)).contains i = true) (hz : reachB md O 1 z i = true)
    (hQ : ∀ c a w, Q (.panic c) (a.put oi.dst v) w → Q (.panic c) a w) (hy : YieldsIf P O S oi v a) (hS : S w)
    (h : anyE P md ops Q S z f (upD n (i + 1)) (a.put oi.dst v) w) : anyE P md ops Q S z (f + 1) (upD n i) a w := by
  have hO : ops = O := hO
  subst hO
  exact anyE_take1 i hi hs hc hf hr hz hQ hy hS (by rw [upD_step hin]; exact h)
theorem anyE_stepU (hO : Hid (ops = O)) (i : Nat) {o : Oper} {f : Nat} {a : Act} {w : World} (hr : Region.ready md O (upD n i) = [i]) (ho : ops[i]? = some o) (hin : decide (i < n) = true)
    (h : ∀ K : Act → World → Prop, Shut (∀ b u, S u → (S u → anyE P md ops Q S z f (upD n (i + 1)) b u) → K b u) → if Region.wanted o (yielded O a.tmps) = true then Oper.wp P o a w K Q else K (a.put o.dst undef) w) : anyE P md ops Q S z (f + 1) (upD n i) a w := by
  have hO : ops = O := hO
  subst hO
  exact anyE_step i hr ho (by rw [upD_step hin]; exact h)
theorem anyE_lastU (hO : Hid (ops = O)) (i : Nat) {o : Oper} {f : Nat} {a : Act} {w : World} (hr : Region.ready md O (upD n i) = [i]) (hin : decide (i < n) = true) (hr2 : Region.ready md O (upD n (i + 1)) = []) (hz : (upD n (i + 1)).getD z false = true) (ho : ops[i]? = some o)
    (h : ∀ K : Act → World → Prop, Shut (∀ b u, Q .normal b u → K b u) → if Region.wanted o (yielded O a.tmps) = true then Oper.wp P o a w K Q else K (a.put o.dst undef) w) : anyE P md ops Q S z (f + 1) (upD n i) a w := by
  have hO : ops = O := hO
  subst hO
  exact anyE_last i hr (by rw [upD_step hin]; exact hr2) (by rw [upD_step hin]; exact hz) ho h
end
/-- Small rationals: their texts are short. -/
def smallQ (q : Rat) : Bool := decide (q.num.natAbs < 1000000000) && decide (q.den < 1000000000)
theorem smallQ_rs {q : Rat} {k : Nat} (h : smallQ q = true) (hk : 100 ≤ k) : RS k q := by
  simp only [smallQ, Bool.and_eq_true, decide_eq_true_eq] at h
  have h1 := intB_size_le q.num
  have h2 := numB_size_le q.num.natAbs 9 (by rw [show (10 : Nat) ^ 9 = 1000000000 by decide]; exact h.1) (by omega)
  have h3 := numB_size_le q.den 9 (by rw [show (10 : Nat) ^ 9 = 1000000000 by decide]; exact h.2) (by omega)
  exact ⟨by omega, by omega⟩
def hokB (m : List (List Rat)) (n : Nat) : Bool := (List.range n).all fun c => ((redTo m c).m.all fun r => r.all smallQ) && smallQ (redTo m c).det
theorem hokB_ok {m : List (List Rat)} {n : Nat} (h : hokB m n = true) : ∀ c, c < n → AllRS 2500 (redTo m c).m ∧ RS 9000 (redTo m c).det := by
  intro c hc
  have := List.all_eq_true.1 h c (List.mem_range.2 hc)
  rw [Bool.and_eq_true] at this
  refine ⟨fun r hr x hx => ?_, smallQ_rs this.2 (by omega)⟩
  exact smallQ_rs (List.all_eq_true.1 (List.all_eq_true.1 this.1 r hr) x hx) (by omega)
theorem int_digit (n : Nat) (h : n < 10) : intB (n : Int) = ⟨#[(48 + n).toUInt8]⟩ := by
  unfold intB Lib.itoa
  rw [if_neg (by omega), show ((n : Int)).toNat = n from rfl, Lib.decDigits_one h]
theorem int_m2 : intB (-2) = ⟨#[45, 50]⟩ := by
  unfold intB Lib.itoa
  rw [if_pos (by omega), show (-2 : Int).natAbs = 2 from rfl, Lib.decDigits_one (by omega)]
  rfl
/-- Matrices written out. -/
theorem mat1_lit (w : World) (r : List Int) (n : Nat) (hn : n = r.length) (T T2 : TypeId) (hb : ∀ x ∈ r, -9223372036854775808 ≤ x ∧ x ≤ 9223372036854775807) (hl : r.length ≤ 100) (C : Array Value) (hC : C = (r.map (Value.int .i64)).toArray) :
    Rows2 ((w.alloc (.cells C T)).alloc (.cells #[.slice (some ⟨w.heap.size, 0, none⟩) n n] T2)) (.slice (some ⟨w.heap.size + 1, 0, none⟩) 1 1) [r] := by
  subst hC; subst hn
  have h1 := Ints.lit w r T (by unfold maxLen; omega) hb
  have := ListAt.lit (R := Ints) (fun _ _ _ _ he h => Ints.ext h he) (w.alloc (.cells (r.map (Value.int .i64)).toArray T)) [.slice (some ⟨w.heap.size, 0, none⟩) r.length r.length] [r] T2 rfl (by unfold maxLen; simp) (fun j u x hu hx => by
    cases j with
    | zero => simp only [List.getElem?_cons_zero, Option.some.injEq] at hu hx; subst hu; subst hx; exact h1
    | succ j => simp at hu)
  simpa using this
theorem mat2_lit (w : World) (r q : List Int) (n m : Nat) (hn : n = r.length) (hm : m = q.length) (T T1 T2 : TypeId) (hb : ∀ x ∈ r ++ q, -9223372036854775808 ≤ x ∧ x ≤ 9223372036854775807) (hl : r.length ≤ 100) (hl2 : q.length ≤ 100) (C D : Array Value) (hC : C = (r.map (Value.int .i64)).toArray) (hD : D = (q.map (Value.int .i64)).toArray) :
    Rows2 (((w.alloc (.cells C T)).alloc (.cells D T1)).alloc (.cells #[.slice (some ⟨w.heap.size, 0, none⟩) n n, .slice (some ⟨w.heap.size + 1, 0, none⟩) m m] T2)) (.slice (some ⟨w.heap.size + 1 + 1, 0, none⟩) 2 2) [r, q] := by
  subst hC; subst hn; subst hD; subst hm
  have h1 := (Ints.lit w r T (by unfold maxLen; omega) (fun x hx => hb x (List.mem_append_left _ hx))).ext (Ext.alloc _ (.cells (q.map (Value.int .i64)).toArray T1))
  have h2 := Ints.lit (w.alloc (.cells (r.map (Value.int .i64)).toArray T)) q T1 (by unfold maxLen; omega) (fun x hx => hb x (List.mem_append_right _ hx))
  rw [World.size_alloc] at h2
  have := ListAt.lit (R := Ints) (fun _ _ _ _ he h => Ints.ext h he) ((w.alloc (.cells (r.map (Value.int .i64)).toArray T)).alloc (.cells (q.map (Value.int .i64)).toArray T1)) [.slice (some ⟨w.heap.size, 0, none⟩) r.length r.length, .slice (some ⟨w.heap.size + 1, 0, none⟩) q.length q.length] [r, q] T2 rfl (by unfold maxLen; simp) (fun j u x hu hx => by
    match j with
    | 0 => simp only [List.getElem?_cons_zero, Option.some.injEq] at hu hx; subst hu; subst hx; exact h1
    | 1 => simp only [List.getElem?_cons_succ, List.getElem?_cons_zero, Option.some.injEq] at hu hx; subst hu; subst hx; exact h2
    | j + 2 => simp at hu)
  simpa using this
theorem Rats.two (w : World) (p q : Rat) (T : TypeId) : Rats (w.alloc (.cells #[.string (intB p.num), .string (numB p.den), .string (intB q.num), .string (numB q.den)] T)) (.slice (some ⟨w.heap.size, 0, none⟩) 2 2) [p, q] := by
  refine ⟨[[.string (intB p.num), .string (numB p.den)], [.string (intB q.num), .string (numB q.den)]], rfl, by simp, ?_, ?_⟩
  · exact SeqAt.lit w [.string (intB p.num), .string (numB p.den), .string (intB q.num), .string (numB q.den)] 2 T (by unfold maxLen; omega)
  · intro j u x hu hx
    match j with
    | 0 => simp only [List.getElem?_cons_zero, Option.some.injEq] at hu hx; subst hu; subst hx; rfl
    | 1 => simp only [List.getElem?_cons_succ, List.getElem?_cons_zero, Option.some.injEq] at hu hx; subst hu; subst hx; rfl
    | j + 2 => simp at hu

def mA : List (List Int) := [[1, 2], [3, 4]]
def mB : List (List Int) := [[1, 0, -4], [0, 1, 4]]
def mC : List (List Int) := [[1, 2]]
def mD : List (List Int) := [[1, 2], [2, 4]]
theorem exA : tabE mA = 0 ∧ colsN mA = 2 ∧ hokB (matQ mA) 2 = true ∧ (detS mA).num = -2 ∧ hokB (invM mA) 2 = true ∧ ¬ (invR mA).lead.length < 2 ∧ (invTo mA 2).length = 2 ∧ ((invTo mA 2).getD 1 [] == [mkRat 3 2, mkRat (-1) 2]) = true := by decide +kernel
theorem exB : tabE mB = 0 ∧ colsN mB = 3 ∧ chooseS 2 2 * chooseS 3 2 ≤ 1000 ∧ ((setsL 2 2).all fun R => (setsL 3 2).all fun C => hokB (matQ (partI mB R C)) 2) = true ∧ minorsS mB 2 = [1, 4, 4] := by decide +kernel
theorem exC : tabE mC = 0 ∧ colsN mC = 2 ∧ hokB (solM mC [3]) 2 = true ∧ solK (solR mC [3]) 2 = 2 ∧ (solX (solR mC [3]) 2 == [mkRat 3 1, mkRat 0 1]) = true := by decide +kernel
theorem exD : tabE mD = 0 ∧ colsN mD = 2 ∧ hokB (solM mD [3, 5]) 2 = true ∧ solK (solR mD [3, 5]) 2 = 3 := by decide +kernel

set_option maxRecDepth 100000 in
set_option maxHeartbeats 8000000 in
theorem known_any (w : World) (ht : Pow10 w) :
    Calls Tryz.prog 14 #[] w fun e w' => e = .returned (.bool true) ∧ Ext w w' := by
  have HT := Lib.hid ht
  clear ht
  obtain ⟨W3, hW3⟩ : ∃ W3, (((w.alloc (.cells #[.int .i64 1, .int .i64 2] 3)).alloc (.cells #[.int .i64 3, .int .i64 4] 3)).alloc (.cells #[.slice (some ⟨w.heap.size, 0, none⟩) 2 2, .slice (some ⟨w.heap.size + 1, 0, none⟩) 2 2] 51)) = W3 := ⟨_, rfl⟩
  have hX3 : Ext w W3 := by rw [← hW3]; exact (Ext.alloc _ _).trans ((Ext.alloc _ _).trans (Ext.alloc _ _))
  have hM3 : Rows2 W3 (.slice (some ⟨w.heap.size + 1 + 1, 0, none⟩) 2 2) mA := by
    rw [← hW3]
    exact mat2_lit w [1, 2] [3, 4] 2 2 rfl rfl _ _ _ (by decide) (by decide) (by decide) _ _ rfl rfl
  have HX3 := Lib.hid hX3; have HM3 := Lib.hid hM3
  have HDET : Hid (Calls Tryz.prog 16 #[.slice (some ⟨w.heap.size + 1 + 1, 0, none⟩) 2 2] W3 fun e w' => e = .returned (.tuple #[.string ⟨#[45, 50]⟩, .int .i64 0]) ∧ Ext W3 w') := by
    have := det_any mA _ W3 hM3 exA.1 (fun _ => exA.2.1) (hokB_ok exA.2.2.1) (HT.out.ext hX3)
    rw [exA.2.2.2.1, int_m2] at this
    exact this
  have HINV : Hid (∀ W, Ext W3 W → Calls Tryz.prog 17 #[.slice (some ⟨w.heap.size + 1 + 1, 0, none⟩) 2 2] W fun e w' => ∃ b off c u, e = .returned (.tuple #[.slice (some ⟨b, off, none⟩) 2 c, .int .i64 0]) ∧ 2 ≤ c ∧ c ≤ 9223372036854775807 ∧ w'.cell? ⟨b, off + 1, none⟩ = some u ∧ Rats w' u ((invTo mA 2).getD 1 []) ∧ Ext W w') := fun W hW => by
    refine (inverse_any mA _ W (hM3.ext hW) exA.1 (by decide) exA.2.1 (hokB_ok exA.2.2.2.2.1) exA.2.2.2.2.2.1 (HT.out.ext (hX3.trans hW))).mono ?_
    rintro e w' ⟨r, rfl, hr, hE⟩
    have hlen : (invTo mA mA.length).length = 2 := exA.2.2.2.2.2.2.1
    obtain ⟨a, c, rfl, k1, k2, -, k4⟩ := inCell.open hr
    rw [hlen] at k1
    obtain ⟨b, off, rfl, -, hc⟩ := k4 (by intro e; rw [e] at hlen; simp at hlen)
    obtain ⟨x, hx⟩ : ∃ x, (invTo mA mA.length)[1]? = some x := ⟨_, List.getElem?_eq_getElem (by omega)⟩
    obtain ⟨u, hu, hcu⟩ := hc 1 x hx
    refine ⟨b, off, c, u, by rw [hlen], k1, k2, hcu, ?_, hE⟩
    rw [List.getD_eq_getElem?_getD, show (invTo mA 2)[1]? = some x from hx]
    exact hu
  clear hX3 hM3
  go_enter Tryz.func14, Tryz.ntmps14
  go_wp2_with fail
  refine HDET.out.mono ?_
  rintro e w1 ⟨rfl, hE1⟩
  have HE1 := Lib.hid hE1
  clear hE1 HDET hW3
  go_wp2_with fail
  refine (HINV.out _ HE1.out).mono ?_
  rintro e w2 ⟨bi, oi, ci, ui, rfl, ki1, ki2, hci, hui, hE2⟩
  have HE2 := Lib.hid (Ext.trans HX3.out (Ext.trans HE1.out hE2))
  have HCI := Lib.hid hci; have HUI := Lib.hid hui
  clear hE2 HINV hci hui
  obtain ⟨W5, hW5⟩ : ∃ W5, (((w2.alloc (.cells #[.int .i64 1, .int .i64 0, .int .i64 (-4)] 3)).alloc (.cells #[.int .i64 0, .int .i64 1, .int .i64 4] 3)).alloc (.cells #[.slice (some ⟨w2.heap.size, 0, none⟩) 3 3, .slice (some ⟨w2.heap.size + 1, 0, none⟩) 3 3] 51)) = W5 := ⟨_, rfl⟩
  have hX5 : Ext w2 W5 := by rw [← hW5]; exact (Ext.alloc _ _).trans ((Ext.alloc _ _).trans (Ext.alloc _ _))
  have hM5 : Rows2 W5 (.slice (some ⟨w2.heap.size + 1 + 1, 0, none⟩) 2 2) mB := by
    rw [← hW5]
    exact mat2_lit w2 [1, 0, -4] [0, 1, 4] 3 3 rfl rfl _ _ _ (by decide) (by decide) (by decide) _ _ rfl rfl
  have HX5 := Lib.hid hX5
  have HMIN : Hid (Calls Tryz.prog 23 #[.slice (some ⟨w2.heap.size + 1 + 1, 0, none⟩) 2 2, .int .i64 2] W5 fun e w' => ∃ b off c, e = .returned (.tuple #[.slice (some ⟨b, off, none⟩) 3 c, .int .i64 0]) ∧ 3 ≤ c ∧ c ≤ 9223372036854775807 ∧ w'.cell? ⟨b, off, none⟩ = some (.string ⟨#[49]⟩) ∧ w'.cell? ⟨b, off + 1, none⟩ = some (.string ⟨#[52]⟩) ∧ w'.cell? ⟨b, off + 2, none⟩ = some (.string ⟨#[52]⟩) ∧ Ext W5 w') := by
    refine (minors_any mB 2 _ W5 hM5 exB.1 (by decide) (by rw [exB.2.1]; decide) (by rw [exB.2.1]; exact exB.2.2.1) (fun R hR C hC => ?_) (HT.out.ext (HE2.out.trans hX5))).mono ?_
    · rw [exB.2.1] at hC
      exact hokB_ok (List.all_eq_true.1 (List.all_eq_true.1 exB.2.2.2.1 R hR) C hC)
    · rintro e w' ⟨r, rfl, hr, hE⟩
      rw [exB.2.2.2.2] at hr
      obtain ⟨a, c, rfl, k1, k2, -, k4⟩ := hr.open
      obtain ⟨b, off, rfl, -, hc⟩ := k4 (by decide) (by simp)
      have cell : ∀ (j : Nat) n, ([1, 4, 4] : List Int)[j]? = some n → w'.cell? ⟨b, off + j, none⟩ = some (.string (intB n)) := fun j n hn => by
        obtain ⟨u, -, rfl, hu⟩ := hc j n hn
        have := hu 0 (by decide)
        simpa using this
      have e1 : intB 1 = ⟨#[49]⟩ := int_digit 1 (by decide)
      have e4 : intB 4 = ⟨#[52]⟩ := int_digit 4 (by decide)
      refine ⟨b, off, c, rfl, k1, k2, ?_, ?_, ?_, hE⟩
      · rw [← e1]; exact cell 0 1 rfl
      · rw [← e4]; exact cell 1 4 rfl
      · rw [← e4]; exact cell 2 4 rfl
  clear hX5 hM5
  go_wp2_with fail
  refine HMIN.out.mono ?_
  rintro e w3 ⟨bm, om, cm, rfl, km1, km2, m0, m1, m2, hE3⟩
  have HE3 := Lib.hid (Ext.trans (Ext.trans HE2.out HX5.out) hE3)
  have HL3 := Lib.hid (Ext.trans HX5.out hE3)
  have HM := Lib.hid (And.intro m0 (And.intro m1 m2))
  clear hE3 HMIN m0 m1 m2 hW5
  obtain ⟨W7, hW7⟩ : ∃ W7, (((w3.alloc (.cells #[.int .i64 1, .int .i64 2] 3)).alloc (.cells #[.slice (some ⟨w3.heap.size, 0, none⟩) 2 2] 51)).alloc (.cells #[.int .i64 3] 3)) = W7 := ⟨_, rfl⟩
  have hX7 : Ext w3 W7 := by rw [← hW7]; exact (Ext.alloc _ _).trans ((Ext.alloc _ _).trans (Ext.alloc _ _))
  have hM7 : Rows2 W7 (.slice (some ⟨w3.heap.size + 1, 0, none⟩) 1 1) mC := by
    rw [← hW7]
    exact (mat1_lit w3 [1, 2] 2 rfl _ _ (by decide) (by decide) _ rfl).ext (Ext.alloc _ _)
  have hI7 : Ints W7 (.slice (some ⟨w3.heap.size + 1 + 1, 0, none⟩) 1 1) [3] := by
    rw [← hW7]
    have := Ints.lit ((w3.alloc (.cells #[.int .i64 1, .int .i64 2] 3)).alloc (.cells #[.slice (some ⟨w3.heap.size, 0, none⟩) 2 2] 51)) [3] 3 (by decide) (by decide)
    simpa using this
  have HX7 := Lib.hid hX7
  have HSO : Hid (Calls Tryz.prog 28 #[.slice (some ⟨w3.heap.size + 1, 0, none⟩) 1 1, .slice (some ⟨w3.heap.size + 1 + 1, 0, none⟩) 1 1] W7 fun e w' => ∃ x, e = .returned (.tuple #[x, .int .i64 2, .int .i64 0]) ∧ Rats w' x (solX (solR mC [3]) 2) ∧ Ext W7 w') := by
    have := solve_any mC [3] _ _ W7 hM7 hI7 exC.1 (by decide) (by decide) (by decide) (by rw [exC.2.1]; exact hokB_ok exC.2.2.1) (HT.out.ext (HE3.out.trans hX7))
    rw [exC.2.1, exC.2.2.2.1] at this
    exact this
  clear hX7 hM7 hI7
  go_wp2_with fail
  refine HSO.out.mono ?_
  rintro e w4 ⟨x, rfl, hx, hE4⟩
  obtain ⟨ax, cx, hxv, -⟩ := id hx.open
  subst hxv
  have HE4 := Lib.hid (Ext.trans (Ext.trans HE3.out HX7.out) hE4)
  have HL4 := Lib.hid (Ext.trans HX7.out hE4)
  have HXS := Lib.hid hx
  clear hE4 HSO hx hW7
  obtain ⟨W8, hW8⟩ : ∃ W8, ((((w4.alloc (.cells #[.int .i64 1, .int .i64 2] 3)).alloc (.cells #[.int .i64 2, .int .i64 4] 3)).alloc (.cells #[.slice (some ⟨w4.heap.size, 0, none⟩) 2 2, .slice (some ⟨w4.heap.size + 1, 0, none⟩) 2 2] 51)).alloc (.cells #[.int .i64 3, .int .i64 5] 3)) = W8 := ⟨_, rfl⟩
  have hX8 : Ext w4 W8 := by rw [← hW8]; exact (Ext.alloc _ _).trans ((Ext.alloc _ _).trans ((Ext.alloc _ _).trans (Ext.alloc _ _)))
  have hM8 : Rows2 W8 (.slice (some ⟨w4.heap.size + 1 + 1, 0, none⟩) 2 2) mD := by
    rw [← hW8]
    exact (mat2_lit w4 [1, 2] [2, 4] 2 2 rfl rfl _ _ _ (by decide) (by decide) (by decide) _ _ rfl rfl).ext (Ext.alloc _ _)
  have hI8 : Ints W8 (.slice (some ⟨w4.heap.size + 1 + 1 + 1, 0, none⟩) 2 2) [3, 5] := by
    rw [← hW8]
    have := Ints.lit (((w4.alloc (.cells #[.int .i64 1, .int .i64 2] 3)).alloc (.cells #[.int .i64 2, .int .i64 4] 3)).alloc (.cells #[.slice (some ⟨w4.heap.size, 0, none⟩) 2 2, .slice (some ⟨w4.heap.size + 1, 0, none⟩) 2 2] 51)) [3, 5] 3 (by decide) (by decide)
    simpa using this
  have HX8 := Lib.hid hX8
  have HSN : Hid (Calls Tryz.prog 28 #[.slice (some ⟨w4.heap.size + 1 + 1, 0, none⟩) 2 2, .slice (some ⟨w4.heap.size + 1 + 1 + 1, 0, none⟩) 2 2] W8 fun e w' => ∃ x, e = .returned (.tuple #[x, .int .i64 3, .int .i64 0]) ∧ Ext W8 w') := by
    have := solve_any mD [3, 5] _ _ W8 hM8 hI8 exD.1 (by decide) (by decide) (by decide) (by rw [exD.2.1]; exact hokB_ok exD.2.2.1) (HT.out.ext (HE4.out.trans hX8))
    rw [exD.2.1, exD.2.2.2] at this
    exact this.mono fun e w' ⟨x, h1, _, h3⟩ => ⟨x, h1, h3⟩
  clear hX8 hM8 hI8
  go_wp2_with fail
  refine HSN.out.mono ?_
  rintro e w5 ⟨xn, rfl, hE5⟩
  have HE5 := Lib.hid (Ext.trans (Ext.trans HE4.out HX8.out) hE5)
  have HL5 := Lib.hid (Ext.trans HX8.out hE5)
  have HLI := Lib.hid (Ext.trans (Ext.trans HL3.out HL4.out) (Ext.trans HX8.out hE5))
  have HLM := Lib.hid (Ext.trans HL4.out (Ext.trans HX8.out hE5))
  have d1 := HLI.out.cell HCI.out
  have HN : Hid (∀ n d W, Ext w5 W → -1000000000000000000 < n ∧ n < 1000000000000000000 → 0 < d → d < 1000000000000000000 → Calls Tryz.prog 46 #[.int .i64 n, .int .i64 ((d : Nat) : Int)] W fun e w' => e = .returned (ratV (mkRat n d)) ∧ Ext W w') := fun n d W hW hn h0 hd => number_any n d W hn h0 hd (HT.out.ext (HE5.out.trans hW))
  clear hE5 HSN hW8
  -- REGION 7
  obtain ⟨au, cu, hu, -⟩ := id HUI.out.open
  subst hu
  obtain ⟨q1, hq1⟩ : ∃ q, q = mkRat 3 2 := ⟨_, rfl⟩
  obtain ⟨q2, hq2⟩ : ∃ q, q = mkRat (-1) 2 := ⟨_, rfl⟩
  obtain ⟨q3, hq3⟩ : ∃ q, q = mkRat 3 1 := ⟨_, rfl⟩
  obtain ⟨q4, hq4⟩ : ∃ q, q = mkRat 0 1 := ⟨_, rfl⟩
  have N1 : Hid (∀ W, Ext w5 W → Calls Tryz.prog 46 #[.int .i64 3, .int .i64 2] W fun e w' => e = .returned (.agg #[.string (intB q1.num), .string (numB q1.den)]) ∧ Ext W w') := fun W hW => by rw [hq1]; exact HN.out 3 2 W hW (by decide) (by decide) (by decide)
  have N2 : Hid (∀ W, Ext w5 W → Calls Tryz.prog 46 #[.int .i64 (-1), .int .i64 2] W fun e w' => e = .returned (.agg #[.string (intB q2.num), .string (numB q2.den)]) ∧ Ext W w') := fun W hW => by rw [hq2]; exact HN.out (-1) 2 W hW (by decide) (by decide) (by decide)
  have N3 : Hid (∀ W, Ext w5 W → Calls Tryz.prog 46 #[.int .i64 3, .int .i64 1] W fun e w' => e = .returned (.agg #[.string (intB q3.num), .string (numB q3.den)]) ∧ Ext W w') := fun W hW => by rw [hq3]; exact HN.out 3 1 W hW (by decide) (by decide) (by decide)
  have N4 : Hid (∀ W, Ext w5 W → Calls Tryz.prog 46 #[.int .i64 0, .int .i64 1] W fun e w' => e = .returned (.agg #[.string (intB q4.num), .string (numB q4.den)]) ∧ Ext W w') := fun W hW => by rw [hq4]; exact HN.out 0 1 W hW (by decide) (by decide) (by decide)
  have S1 : Hid (∀ W v, Ext w5 W → Rats W v [q1, q2] → Calls Tryz.prog 22 #[.slice au ((invTo mA 2).getD 1 []).length cu, v] W fun e w' => e = .returned (.bool true) ∧ Ext W w') := fun W v hW hv => by
    have := same_any _ _ _ v W (HUI.out.ext (HLI.out.trans hW)) hv
    rw [hq1, hq2, exA.2.2.2.2.2.2.2] at this
    exact this
  have S2 : Hid (∀ W v, Ext w5 W → Rats W v [q3, q4] → Calls Tryz.prog 22 #[.slice ax (solX (solR mC [3]) 2).length cx, v] W fun e w' => e = .returned (.bool true) ∧ Ext W w') := fun W v hW hv => by
    have := same_any _ _ _ v W (HXS.out.ext (HL5.out.trans hW)) hv
    rw [hq3, hq4, exC.2.2.2.2] at this
    exact this
  have hcm := HM.out
  have HS : Hid (∀ u, Ext w5 u → u.cell? ⟨bi, oi + 1, none⟩ = some (.slice au ((invTo mA 2).getD 1 []).length cu) ∧ u.cell? ⟨bm, om, none⟩ = some (.string ⟨#[49]⟩) ∧ u.cell? ⟨bm, om + 1, none⟩ = some (.string ⟨#[52]⟩) ∧ u.cell? ⟨bm, om + 2, none⟩ = some (.string ⟨#[52]⟩) ∧ Hid (Ext w5 u)) := fun u hu =>
    ⟨hu.cell (HLI.out.cell HCI.out), hu.cell (HLM.out.cell hcm.1), hu.cell (HLM.out.cell hcm.2.1), hu.cell (HLM.out.cell hcm.2.2), hu⟩
  clear hq1 hq2 hq3 hq4 hcm d1
  go_wp2_with fail
  refine region_anyEU (fun u => u.cell? ⟨bi, oi + 1, none⟩ = some (.slice au ((invTo mA 2).getD 1 []).length cu) ∧ u.cell? ⟨bm, om, none⟩ = some (.string ⟨#[49]⟩) ∧ u.cell? ⟨bm, om + 1, none⟩ = some (.string ⟨#[52]⟩) ∧ u.cell? ⟨bm, om + 2, none⟩ = some (.string ⟨#[52]⟩) ∧ Hid (Ext w5 u)) 74 75 (by kernel_rfl) rfl (HS.out _ (Ext.drew w5)) (fun ops hO hHeld => ?_)
  obtain ⟨wd, hwd⟩ : ∃ wd, wd = w5.drew := ⟨_, rfl⟩
  rw [← hwd] at hHeld ⊢
  clear hwd
  have hi := getop hO 0 (by decide)
  conv at hi => rhs; arg 1; whnf
  refine anyE_takeWU hO (v := ?_) 0 hi rfl (by kernel_rfl) (by kernel_rfl) (by kernel_rfl) (by decide) (fun _ _ _ h => h) (Or.inl ⟨by rfl, ?_⟩) (by assumption) ?_
  rotate_left
  · ((intro w'); (try go_simp); (try with_reducible rfl))
  clear hi
  (try simp only [Act.put, List.setIfInBounds_toArray, List.set_cons_zero, List.set_cons_succ])
  have hi := getop hO 1 (by decide)
  conv at hi => rhs; arg 1; whnf
  refine anyE_takeWU hO (v := ?_) 1 hi rfl (by kernel_rfl) (by kernel_rfl) (by kernel_rfl) (by decide) (fun _ _ _ h => h) (Or.inl ⟨by rfl, ?_⟩) (by assumption) ?_
  rotate_left
  · ((intro w'); (try go_simp); (try with_reducible rfl))
  clear hi
  (try simp only [Act.put, List.setIfInBounds_toArray, List.set_cons_zero, List.set_cons_succ])
  have hi := getop hO 2 (by decide)
  conv at hi => rhs; arg 1; whnf
  refine anyE_takeWU hO (v := ?_) 2 hi rfl (by kernel_rfl) (by kernel_rfl) (by kernel_rfl) (by decide) (fun _ _ _ h => h) (Or.inl ⟨by rfl, ?_⟩) (by assumption) ?_
  rotate_left
  · ((intro w'); (try go_simp); (try with_reducible rfl))
  clear hi
  (try simp only [Act.put, List.setIfInBounds_toArray, List.set_cons_zero, List.set_cons_succ])
  have hi := getop hO 3 (by decide)
  conv at hi => rhs; arg 1; whnf
  refine anyE_takeWU hO (v := ?_) 3 hi rfl (by kernel_rfl) (by kernel_rfl) (by kernel_rfl) (by decide) (fun _ _ _ h => h) (Or.inl ⟨by rfl, ?_⟩) (by assumption) ?_
  rotate_left
  · ((intro w'); (try go_simp); (try with_reducible rfl))
  clear hi
  (try simp only [Act.put, List.setIfInBounds_toArray, List.set_cons_zero, List.set_cons_succ])
  have hi := getop hO 4 (by decide)
  conv at hi => rhs; arg 1; whnf
  refine anyE_takeWU hO (v := ?_) 4 hi rfl (by kernel_rfl) (by kernel_rfl) (by kernel_rfl) (by decide) (fun _ _ _ h => h) (Or.inl ⟨by rfl, ?_⟩) (by assumption) ?_
  rotate_left
  · ((intro w'); (try go_simp); (try with_reducible rfl))
  clear hi
  (try simp only [Act.put, List.setIfInBounds_toArray, List.set_cons_zero, List.set_cons_succ])
  have hi := getop hO 5 (by decide)
  conv at hi => rhs; arg 1; whnf
  refine anyE_takeWU hO (v := ?_) 5 hi rfl (by kernel_rfl) (by kernel_rfl) (by kernel_rfl) (by decide) (fun _ _ _ h => h) (Or.inl ⟨by rfl, ?_⟩) (by assumption) ?_
  rotate_left
  · ((intro w'); (try go_simp); (try with_reducible rfl))
  clear hi
  (try simp only [Act.put, List.setIfInBounds_toArray, List.set_cons_zero, List.set_cons_succ])
  have hi := getop hO 6 (by decide)
  conv at hi => rhs; arg 1; whnf
  refine anyE_takeWU hO (v := ?_) 6 hi rfl (by kernel_rfl) (by kernel_rfl) (by kernel_rfl) (by decide) (fun _ _ _ h => h) (Or.inl ⟨by rfl, ?_⟩) (by assumption) ?_
  rotate_left
  · ((intro w'); (try go_simp); (try with_reducible rfl))
  clear hi
  (try simp only [Act.put, List.setIfInBounds_toArray, List.set_cons_zero, List.set_cons_succ])
  have hi := getop hO 7 (by decide)
  conv at hi => rhs; arg 1; whnf
  refine anyE_takeWU hO (v := ?_) 7 hi rfl (by kernel_rfl) (by kernel_rfl) (by kernel_rfl) (by decide) (fun _ _ _ h => h) (Or.inl ⟨by rfl, ?_⟩) (by assumption) ?_
  rotate_left
  · ((intro w'); (try go_simp); (try with_reducible rfl))
  clear hi
  (try simp only [Act.put, List.setIfInBounds_toArray, List.set_cons_zero, List.set_cons_succ])
  have hi := getop hO 8 (by decide)
  conv at hi => rhs; arg 1; whnf
  refine anyE_takeWU hO (v := ?_) 8 hi rfl (by kernel_rfl) (by kernel_rfl) (by kernel_rfl) (by decide) (fun _ _ _ h => h) (Or.inl ⟨by rfl, ?_⟩) (by assumption) ?_
  rotate_left
  · ((intro w'); (try go_simp); (try with_reducible rfl))
  clear hi
  (try simp only [Act.put, List.setIfInBounds_toArray, List.set_cons_zero, List.set_cons_succ])
  have hi := getop hO 9 (by decide)
  conv at hi => rhs; arg 1; whnf
  refine anyE_takeWU hO (v := ?_) 9 hi rfl (by kernel_rfl) (by kernel_rfl) (by kernel_rfl) (by decide) (fun _ _ _ h => h) (Or.inl ⟨by rfl, ?_⟩) (by assumption) ?_
  rotate_left
  · ((intro w'); (try go_simp); (try with_reducible rfl))
  clear hi
  (try simp only [Act.put, List.setIfInBounds_toArray, List.set_cons_zero, List.set_cons_succ])
  have hi := getop hO 10 (by decide)
  conv at hi => rhs; arg 1; whnf
  refine anyE_takeWU hO (v := ?_) 10 hi rfl (by kernel_rfl) (by kernel_rfl) (by kernel_rfl) (by decide) (fun _ _ _ h => h) (Or.inl ⟨by rfl, ?_⟩) (by assumption) ?_
  rotate_left
  · ((intro w'); (try go_simp); (try with_reducible rfl))
  clear hi
  (try simp only [Act.put, List.setIfInBounds_toArray, List.set_cons_zero, List.set_cons_succ])
  have hi := getop hO 11 (by decide)
  conv at hi => rhs; arg 1; whnf
  refine anyE_takeWU hO (v := ?_) 11 hi rfl (by kernel_rfl) (by kernel_rfl) (by kernel_rfl) (by decide) (fun _ _ _ h => h) (Or.inl ⟨by rfl, ?_⟩) (by assumption) ?_
  rotate_left
  · ((intro w'); (try go_simp); (try with_reducible rfl))
  clear hi
  (try simp only [Act.put, List.setIfInBounds_toArray, List.set_cons_zero, List.set_cons_succ])
  have hi := getop hO 12 (by decide)
  conv at hi => rhs; arg 1; whnf
  refine anyE_takeWU hO (v := ?_) 12 hi rfl (by kernel_rfl) (by kernel_rfl) (by kernel_rfl) (by decide) (fun _ _ _ h => h) (Or.inl ⟨by rfl, ?_⟩) (by assumption) ?_
  rotate_left
  · ((intro w'); (try go_simp); (try with_reducible rfl))
  clear hi
  (try simp only [Act.put, List.setIfInBounds_toArray, List.set_cons_zero, List.set_cons_succ])
  have hi := getop hO 13 (by decide)
  conv at hi => rhs; arg 1; whnf
  refine anyE_takeWU hO (v := ?_) 13 hi rfl (by kernel_rfl) (by kernel_rfl) (by kernel_rfl) (by decide) (fun _ _ _ h => h) (Or.inl ⟨by rfl, ?_⟩) (by assumption) ?_
  rotate_left
  · ((intro w'); (try go_simp); (try with_reducible rfl))
  clear hi
  (try simp only [Act.put, List.setIfInBounds_toArray, List.set_cons_zero, List.set_cons_succ])
  have hi := getop hO 14 (by decide)
  conv at hi => rhs; arg 1; whnf
  refine anyE_takeWU hO (v := ?_) 14 hi rfl (by kernel_rfl) (by kernel_rfl) (by kernel_rfl) (by decide) (fun _ _ _ h => h) (Or.inl ⟨by rfl, ?_⟩) (by assumption) ?_
  rotate_left
  · ((intro w'); (try go_simp); (try with_reducible rfl))
  clear hi
  (try simp only [Act.put, List.setIfInBounds_toArray, List.set_cons_zero, List.set_cons_succ])
  have hi := getop hO 15 (by decide)
  conv at hi => rhs; arg 1; whnf
  refine anyE_takeWU hO (v := ?_) 15 hi rfl (by kernel_rfl) (by kernel_rfl) (by kernel_rfl) (by decide) (fun _ _ _ h => h) (Or.inl ⟨by rfl, ?_⟩) (by assumption) ?_
  rotate_left
  · ((intro w'); (try go_simp); (try with_reducible rfl))
  clear hi
  (try simp only [Act.put, List.setIfInBounds_toArray, List.set_cons_zero, List.set_cons_succ])
  have hi := getop hO 16 (by decide)
  conv at hi => rhs; arg 1; whnf
  refine anyE_takeWU hO (v := ?_) 16 hi rfl (by kernel_rfl) (by kernel_rfl) (by kernel_rfl) (by decide) (fun _ _ _ h => h) (Or.inl ⟨by rfl, ?_⟩) (by assumption) ?_
  rotate_left
  · ((intro w'); (try go_simp); (try with_reducible rfl))
  clear hi
  (try simp only [Act.put, List.setIfInBounds_toArray, List.set_cons_zero, List.set_cons_succ])
  have hi := getop hO 17 (by decide)
  conv at hi => rhs; arg 1; whnf
  refine anyE_takeWU hO (v := ?_) 17 hi rfl (by kernel_rfl) (by kernel_rfl) (by kernel_rfl) (by decide) (fun _ _ _ h => h) (Or.inl ⟨by rfl, ?_⟩) (by assumption) ?_
  rotate_left
  · ((intro w'); (try go_simp); (try with_reducible rfl))
  clear hi
  (try simp only [Act.put, List.setIfInBounds_toArray, List.set_cons_zero, List.set_cons_succ])
  have hi := getop hO 18 (by decide)
  conv at hi => rhs; arg 1; whnf
  refine anyE_take1U hO (v := ?_) 18 hi rfl (by kernel_rfl) (by kernel_rfl) (by kernel_rfl) (by kernel_rfl) (by kernel_rfl) (fun _ _ _ h => h) (Or.inl ⟨by rfl, ?_⟩) (by assumption) ?_
  rotate_left
  · ((intro w' hSw); (try dsimp only at hSw); (try go_simp); (try with_reducible rfl))
  clear hi
  (try simp only [Act.put, List.setIfInBounds_toArray, List.set_cons_zero, List.set_cons_succ])
  have hi := getop hO 19 (by decide)
  conv at hi => rhs; arg 1; whnf
  refine anyE_stepU hO 19 (by kernel_rfl) hi rfl (fun K hK => ?_)
  go_simp
  (go_at_call 46; refine (N1.out _ hHeld.2.2.2.2.out).mono ?_)
  rintro e y19 ⟨rfl, hE⟩
  have HY := Lib.hid (Ext.trans hHeld.2.2.2.2.out hE)
  clear hE
  go_wp2_with fail
  refine hK.out _ _ (HS.out _ HY.out) (fun hHeld => ?_)
  clear hK K
  (try simp only [Act.put, List.setIfInBounds_toArray, List.set_cons_zero, List.set_cons_succ])
  have hi := getop hO 20 (by decide)
  conv at hi => rhs; arg 1; whnf
  refine anyE_stepU hO 20 (by kernel_rfl) hi rfl (fun K hK => ?_)
  go_simp
  (go_at_call 46; refine (N2.out _ hHeld.2.2.2.2.out).mono ?_)
  rintro e y20 ⟨rfl, hE⟩
  have HY := Lib.hid (Ext.trans hHeld.2.2.2.2.out hE)
  clear hE
  go_wp2_with fail
  refine hK.out _ _ (HS.out _ HY.out) (fun hHeld => ?_)
  clear hK K
  (try simp only [Act.put, List.setIfInBounds_toArray, List.set_cons_zero, List.set_cons_succ])
  have hi := getop hO 21 (by decide)
  conv at hi => rhs; arg 1; whnf
  refine anyE_stepU hO 21 (by kernel_rfl) hi rfl (fun K hK => ?_)
  go_simp
  obtain ⟨Z, hZ⟩ : ∃ Z, Z = y20.alloc (.cells #[.string (intB q1.num), .string (numB q1.den), .string (intB q2.num), .string (numB q2.den)] 81) := ⟨_, rfl⟩
  have hEZ : Ext y20 Z := by rw [hZ]; exact Ext.alloc _ _
  have HR1 : Hid (Rats Z (.slice (some ⟨y20.heap.size, 0, none⟩) 2 2) [q1, q2]) := by rw [hZ]; exact Rats.two _ _ _ _
  rw [← hZ]
  have HY := Lib.hid (Ext.trans hHeld.2.2.2.2.out hEZ)
  clear hZ hEZ
  refine hK.out _ _ (HS.out _ HY.out) (fun hHeld => ?_)
  clear hK K
  (try simp only [Act.put, List.setIfInBounds_toArray, List.set_cons_zero, List.set_cons_succ])
  have hi := getop hO 22 (by decide)
  conv at hi => rhs; arg 1; whnf
  refine anyE_stepU hO 22 (by kernel_rfl) hi rfl (fun K hK => ?_)
  go_simp
  (go_at_call 22; refine (S1.out _ _ hHeld.2.2.2.2.out HR1.out).mono ?_)
  rintro e y22 ⟨rfl, hE⟩
  have HY := Lib.hid (Ext.trans hHeld.2.2.2.2.out hE)
  clear hE
  go_wp2_with fail
  refine hK.out _ _ (HS.out _ HY.out) (fun hHeld => ?_)
  clear hK K
  (try simp only [Act.put, List.setIfInBounds_toArray, List.set_cons_zero, List.set_cons_succ])
  have hi := getop hO 23 (by decide)
  conv at hi => rhs; arg 1; whnf
  refine anyE_takeWU hO (v := ?_) 23 hi rfl (by kernel_rfl) (by kernel_rfl) (by kernel_rfl) (by decide) (fun _ _ _ h => h) (Or.inl ⟨by rfl, ?_⟩) (by assumption) ?_
  rotate_left
  · ((intro w'); (try go_simp); (try with_reducible rfl))
  clear hi
  (try simp only [Act.put, List.setIfInBounds_toArray, List.set_cons_zero, List.set_cons_succ])
  have hi := getop hO 24 (by decide)
  conv at hi => rhs; arg 1; whnf
  refine anyE_takeWU hO (v := ?_) 24 hi rfl (by kernel_rfl) (by kernel_rfl) (by kernel_rfl) (by decide) (fun _ _ _ h => h) (Or.inl ⟨by rfl, ?_⟩) (by assumption) ?_
  rotate_left
  · ((intro w'); (try go_simp); (try with_reducible rfl))
  clear hi
  (try simp only [Act.put, List.setIfInBounds_toArray, List.set_cons_zero, List.set_cons_succ])
  have hi := getop hO 25 (by decide)
  conv at hi => rhs; arg 1; whnf
  refine anyE_takeWU hO (v := ?_) 25 hi rfl (by kernel_rfl) (by kernel_rfl) (by kernel_rfl) (by decide) (fun _ _ _ h => h) (Or.inl ⟨by rfl, ?_⟩) (by assumption) ?_
  rotate_left
  · ((intro w'); (try go_simp); (try with_reducible rfl))
  clear hi
  (try simp only [Act.put, List.setIfInBounds_toArray, List.set_cons_zero, List.set_cons_succ])
  have hi := getop hO 26 (by decide)
  conv at hi => rhs; arg 1; whnf
  refine anyE_takeWU hO (v := ?_) 26 hi rfl (by kernel_rfl) (by kernel_rfl) (by kernel_rfl) (by decide) (fun _ _ _ h => h) (Or.inl ⟨by rfl, ?_⟩) (by assumption) ?_
  rotate_left
  · ((intro w'); (try go_simp); (try with_reducible rfl))
  clear hi
  (try simp only [Act.put, List.setIfInBounds_toArray, List.set_cons_zero, List.set_cons_succ])
  have hi := getop hO 27 (by decide)
  conv at hi => rhs; arg 1; whnf
  refine anyE_takeWU hO (v := ?_) 27 hi rfl (by kernel_rfl) (by kernel_rfl) (by kernel_rfl) (by decide) (fun _ _ _ h => h) (Or.inl ⟨by rfl, ?_⟩) (by assumption) ?_
  rotate_left
  · ((intro w'); (try go_simp); (try with_reducible rfl))
  clear hi
  (try simp only [Act.put, List.setIfInBounds_toArray, List.set_cons_zero, List.set_cons_succ])
  have hi := getop hO 28 (by decide)
  conv at hi => rhs; arg 1; whnf
  refine anyE_takeWU hO (v := ?_) 28 hi rfl (by kernel_rfl) (by kernel_rfl) (by kernel_rfl) (by decide) (fun _ _ _ h => h) (Or.inl ⟨by rfl, ?_⟩) (by assumption) ?_
  rotate_left
  · ((intro w'); (try go_simp); (try with_reducible rfl))
  clear hi
  (try simp only [Act.put, List.setIfInBounds_toArray, List.set_cons_zero, List.set_cons_succ])
  have hi := getop hO 29 (by decide)
  conv at hi => rhs; arg 1; whnf
  refine anyE_takeWU hO (v := ?_) 29 hi rfl (by kernel_rfl) (by kernel_rfl) (by kernel_rfl) (by decide) (fun _ _ _ h => h) (Or.inl ⟨by rfl, ?_⟩) (by assumption) ?_
  rotate_left
  · ((intro w'); (try go_simp); (try with_reducible rfl))
  clear hi
  (try simp only [Act.put, List.setIfInBounds_toArray, List.set_cons_zero, List.set_cons_succ])
  have hi := getop hO 30 (by decide)
  conv at hi => rhs; arg 1; whnf
  refine anyE_takeWU hO (v := ?_) 30 hi rfl (by kernel_rfl) (by kernel_rfl) (by kernel_rfl) (by decide) (fun _ _ _ h => h) (Or.inl ⟨by rfl, ?_⟩) (by assumption) ?_
  rotate_left
  · ((intro w'); (try go_simp); (try with_reducible rfl))
  clear hi
  (try simp only [Act.put, List.setIfInBounds_toArray, List.set_cons_zero, List.set_cons_succ])
  have hi := getop hO 31 (by decide)
  conv at hi => rhs; arg 1; whnf
  refine anyE_takeWU hO (v := ?_) 31 hi rfl (by kernel_rfl) (by kernel_rfl) (by kernel_rfl) (by decide) (fun _ _ _ h => h) (Or.inl ⟨by rfl, ?_⟩) (by assumption) ?_
  rotate_left
  · ((intro w'); (try go_simp); (try with_reducible rfl))
  clear hi
  (try simp only [Act.put, List.setIfInBounds_toArray, List.set_cons_zero, List.set_cons_succ])
  have hi := getop hO 32 (by decide)
  conv at hi => rhs; arg 1; whnf
  refine anyE_takeWU hO (v := ?_) 32 hi rfl (by kernel_rfl) (by kernel_rfl) (by kernel_rfl) (by decide) (fun _ _ _ h => h) (Or.inl ⟨by rfl, ?_⟩) (by assumption) ?_
  rotate_left
  · ((intro w'); (try go_simp); (try with_reducible rfl))
  clear hi
  (try simp only [Act.put, List.setIfInBounds_toArray, List.set_cons_zero, List.set_cons_succ])
  have hi := getop hO 33 (by decide)
  conv at hi => rhs; arg 1; whnf
  refine anyE_takeWU hO (v := ?_) 33 hi rfl (by kernel_rfl) (by kernel_rfl) (by kernel_rfl) (by decide) (fun _ _ _ h => h) (Or.inl ⟨by rfl, ?_⟩) (by assumption) ?_
  rotate_left
  · ((intro w'); (try go_simp); (try with_reducible rfl))
  clear hi
  (try simp only [Act.put, List.setIfInBounds_toArray, List.set_cons_zero, List.set_cons_succ])
  have hi := getop hO 34 (by decide)
  conv at hi => rhs; arg 1; whnf
  refine anyE_takeWU hO (v := ?_) 34 hi rfl (by kernel_rfl) (by kernel_rfl) (by kernel_rfl) (by decide) (fun _ _ _ h => h) (Or.inl ⟨by rfl, ?_⟩) (by assumption) ?_
  rotate_left
  · ((intro w'); (try go_simp); (try with_reducible rfl))
  clear hi
  (try simp only [Act.put, List.setIfInBounds_toArray, List.set_cons_zero, List.set_cons_succ])
  have hi := getop hO 35 (by decide)
  conv at hi => rhs; arg 1; whnf
  refine anyE_takeWU hO (v := ?_) 35 hi rfl (by kernel_rfl) (by kernel_rfl) (by kernel_rfl) (by decide) (fun _ _ _ h => h) (Or.inl ⟨by rfl, ?_⟩) (by assumption) ?_
  rotate_left
  · ((intro w'); (try go_simp); (try with_reducible rfl))
  clear hi
  (try simp only [Act.put, List.setIfInBounds_toArray, List.set_cons_zero, List.set_cons_succ])
  have hi := getop hO 36 (by decide)
  conv at hi => rhs; arg 1; whnf
  refine anyE_take1U hO (v := ?_) 36 hi rfl (by kernel_rfl) (by kernel_rfl) (by kernel_rfl) (by kernel_rfl) (by kernel_rfl) (fun _ _ _ h => h) (Or.inl ⟨by rfl, ?_⟩) (by assumption) ?_
  rotate_left
  · ((intro w' hSw); (try dsimp only at hSw); (try go_simp); (try with_reducible rfl))
  clear hi
  (try simp only [Act.put, List.setIfInBounds_toArray, List.set_cons_zero, List.set_cons_succ])
  have hi := getop hO 37 (by decide)
  conv at hi => rhs; arg 1; whnf
  refine anyE_takeWU hO (v := ?_) 37 hi rfl (by kernel_rfl) (by kernel_rfl) (by kernel_rfl) (by decide) (fun _ _ _ h => h) (Or.inl ⟨by rfl, ?_⟩) (by assumption) ?_
  rotate_left
  · ((intro w'); (try go_simp); (try with_reducible rfl))
  clear hi
  (try simp only [Act.put, List.setIfInBounds_toArray, List.set_cons_zero, List.set_cons_succ])
  have hi := getop hO 38 (by decide)
  conv at hi => rhs; arg 1; whnf
  refine anyE_takeWU hO (v := ?_) 38 hi rfl (by kernel_rfl) (by kernel_rfl) (by kernel_rfl) (by decide) (fun _ _ _ h => h) (Or.inl ⟨by rfl, ?_⟩) (by assumption) ?_
  rotate_left
  · ((intro w'); (try go_simp); (try with_reducible rfl))
  clear hi
  (try simp only [Act.put, List.setIfInBounds_toArray, List.set_cons_zero, List.set_cons_succ])
  have hi := getop hO 39 (by decide)
  conv at hi => rhs; arg 1; whnf
  refine anyE_takeWU hO (v := ?_) 39 hi rfl (by kernel_rfl) (by kernel_rfl) (by kernel_rfl) (by decide) (fun _ _ _ h => h) (Or.inl ⟨by rfl, ?_⟩) (by assumption) ?_
  rotate_left
  · ((intro w'); (try go_simp); (try with_reducible rfl))
  clear hi
  (try simp only [Act.put, List.setIfInBounds_toArray, List.set_cons_zero, List.set_cons_succ])
  have hi := getop hO 40 (by decide)
  conv at hi => rhs; arg 1; whnf
  refine anyE_takeWU hO (v := ?_) 40 hi rfl (by kernel_rfl) (by kernel_rfl) (by kernel_rfl) (by decide) (fun _ _ _ h => h) (Or.inl ⟨by rfl, ?_⟩) (by assumption) ?_
  rotate_left
  · ((intro w'); (try go_simp); (try with_reducible rfl))
  clear hi
  (try simp only [Act.put, List.setIfInBounds_toArray, List.set_cons_zero, List.set_cons_succ])
  have hi := getop hO 41 (by decide)
  conv at hi => rhs; arg 1; whnf
  refine anyE_takeWU hO (v := ?_) 41 hi rfl (by kernel_rfl) (by kernel_rfl) (by kernel_rfl) (by decide) (fun _ _ _ h => h) (Or.inl ⟨by rfl, ?_⟩) (by assumption) ?_
  rotate_left
  · ((intro w'); (try go_simp); (try with_reducible rfl))
  clear hi
  (try simp only [Act.put, List.setIfInBounds_toArray, List.set_cons_zero, List.set_cons_succ])
  have hi := getop hO 42 (by decide)
  conv at hi => rhs; arg 1; whnf
  refine anyE_take1U hO (v := ?_) 42 hi rfl (by kernel_rfl) (by kernel_rfl) (by kernel_rfl) (by kernel_rfl) (by kernel_rfl) (fun _ _ _ h => h) (Or.inl ⟨by rfl, ?_⟩) (by assumption) ?_
  rotate_left
  · ((intro w' hSw); (try dsimp only at hSw); (try go_simp); (try with_reducible rfl))
  clear hi
  (try simp only [Act.put, List.setIfInBounds_toArray, List.set_cons_zero, List.set_cons_succ])
  have hi := getop hO 43 (by decide)
  conv at hi => rhs; arg 1; whnf
  refine anyE_takeWU hO (v := ?_) 43 hi rfl (by kernel_rfl) (by kernel_rfl) (by kernel_rfl) (by decide) (fun _ _ _ h => h) (Or.inl ⟨by rfl, ?_⟩) (by assumption) ?_
  rotate_left
  · ((intro w'); (try go_simp); (try with_reducible rfl))
  clear hi
  (try simp only [Act.put, List.setIfInBounds_toArray, List.set_cons_zero, List.set_cons_succ])
  have hi := getop hO 44 (by decide)
  conv at hi => rhs; arg 1; whnf
  refine anyE_takeWU hO (v := ?_) 44 hi rfl (by kernel_rfl) (by kernel_rfl) (by kernel_rfl) (by decide) (fun _ _ _ h => h) (Or.inl ⟨by rfl, ?_⟩) (by assumption) ?_
  rotate_left
  · ((intro w'); (try go_simp); (try with_reducible rfl))
  clear hi
  (try simp only [Act.put, List.setIfInBounds_toArray, List.set_cons_zero, List.set_cons_succ])
  have hi := getop hO 45 (by decide)
  conv at hi => rhs; arg 1; whnf
  refine anyE_takeWU hO (v := ?_) 45 hi rfl (by kernel_rfl) (by kernel_rfl) (by kernel_rfl) (by decide) (fun _ _ _ h => h) (Or.inl ⟨by rfl, ?_⟩) (by assumption) ?_
  rotate_left
  · ((intro w'); (try go_simp); (try with_reducible rfl))
  clear hi
  (try simp only [Act.put, List.setIfInBounds_toArray, List.set_cons_zero, List.set_cons_succ])
  have hi := getop hO 46 (by decide)
  conv at hi => rhs; arg 1; whnf
  refine anyE_takeWU hO (v := ?_) 46 hi rfl (by kernel_rfl) (by kernel_rfl) (by kernel_rfl) (by decide) (fun _ _ _ h => h) (Or.inl ⟨by rfl, ?_⟩) (by assumption) ?_
  rotate_left
  · ((intro w'); (try go_simp); (try with_reducible rfl))
  clear hi
  (try simp only [Act.put, List.setIfInBounds_toArray, List.set_cons_zero, List.set_cons_succ])
  have hi := getop hO 47 (by decide)
  conv at hi => rhs; arg 1; whnf
  refine anyE_takeWU hO (v := ?_) 47 hi rfl (by kernel_rfl) (by kernel_rfl) (by kernel_rfl) (by decide) (fun _ _ _ h => h) (Or.inl ⟨by rfl, ?_⟩) (by assumption) ?_
  rotate_left
  · ((intro w'); (try go_simp); (try with_reducible rfl))
  clear hi
  (try simp only [Act.put, List.setIfInBounds_toArray, List.set_cons_zero, List.set_cons_succ])
  have hi := getop hO 48 (by decide)
  conv at hi => rhs; arg 1; whnf
  refine anyE_take1U hO (v := ?_) 48 hi rfl (by kernel_rfl) (by kernel_rfl) (by kernel_rfl) (by kernel_rfl) (by kernel_rfl) (fun _ _ _ h => h) (Or.inl ⟨by rfl, ?_⟩) (by assumption) ?_
  rotate_left
  · ((intro w' hSw); (try dsimp only at hSw); (try go_simp); (try with_reducible rfl))
  clear hi
  (try simp only [Act.put, List.setIfInBounds_toArray, List.set_cons_zero, List.set_cons_succ])
  have hi := getop hO 49 (by decide)
  conv at hi => rhs; arg 1; whnf
  refine anyE_takeWU hO (v := ?_) 49 hi rfl (by kernel_rfl) (by kernel_rfl) (by kernel_rfl) (by decide) (fun _ _ _ h => h) (Or.inl ⟨by rfl, ?_⟩) (by assumption) ?_
  rotate_left
  · ((intro w'); (try go_simp); (try with_reducible rfl))
  clear hi
  (try simp only [Act.put, List.setIfInBounds_toArray, List.set_cons_zero, List.set_cons_succ])
  have hi := getop hO 50 (by decide)
  conv at hi => rhs; arg 1; whnf
  refine anyE_takeWU hO (v := ?_) 50 hi rfl (by kernel_rfl) (by kernel_rfl) (by kernel_rfl) (by decide) (fun _ _ _ h => h) (Or.inl ⟨by rfl, ?_⟩) (by assumption) ?_
  rotate_left
  · ((intro w'); (try go_simp); (try with_reducible rfl))
  clear hi
  (try simp only [Act.put, List.setIfInBounds_toArray, List.set_cons_zero, List.set_cons_succ])
  have hi := getop hO 51 (by decide)
  conv at hi => rhs; arg 1; whnf
  refine anyE_takeWU hO (v := ?_) 51 hi rfl (by kernel_rfl) (by kernel_rfl) (by kernel_rfl) (by decide) (fun _ _ _ h => h) (Or.inl ⟨by rfl, ?_⟩) (by assumption) ?_
  rotate_left
  · ((intro w'); (try go_simp); (try with_reducible rfl))
  clear hi
  (try simp only [Act.put, List.setIfInBounds_toArray, List.set_cons_zero, List.set_cons_succ])
  have hi := getop hO 52 (by decide)
  conv at hi => rhs; arg 1; whnf
  refine anyE_takeWU hO (v := ?_) 52 hi rfl (by kernel_rfl) (by kernel_rfl) (by kernel_rfl) (by decide) (fun _ _ _ h => h) (Or.inl ⟨by rfl, ?_⟩) (by assumption) ?_
  rotate_left
  · ((intro w'); (try go_simp); (try with_reducible rfl))
  clear hi
  (try simp only [Act.put, List.setIfInBounds_toArray, List.set_cons_zero, List.set_cons_succ])
  have hi := getop hO 53 (by decide)
  conv at hi => rhs; arg 1; whnf
  refine anyE_takeWU hO (v := ?_) 53 hi rfl (by kernel_rfl) (by kernel_rfl) (by kernel_rfl) (by decide) (fun _ _ _ h => h) (Or.inl ⟨by rfl, ?_⟩) (by assumption) ?_
  rotate_left
  · ((intro w'); (try go_simp); (try with_reducible rfl))
  clear hi
  (try simp only [Act.put, List.setIfInBounds_toArray, List.set_cons_zero, List.set_cons_succ])
  have hi := getop hO 54 (by decide)
  conv at hi => rhs; arg 1; whnf
  refine anyE_takeWU hO (v := ?_) 54 hi rfl (by kernel_rfl) (by kernel_rfl) (by kernel_rfl) (by decide) (fun _ _ _ h => h) (Or.inl ⟨by rfl, ?_⟩) (by assumption) ?_
  rotate_left
  · ((intro w'); (try go_simp); (try with_reducible rfl))
  clear hi
  (try simp only [Act.put, List.setIfInBounds_toArray, List.set_cons_zero, List.set_cons_succ])
  have hi := getop hO 55 (by decide)
  conv at hi => rhs; arg 1; whnf
  refine anyE_takeWU hO (v := ?_) 55 hi rfl (by kernel_rfl) (by kernel_rfl) (by kernel_rfl) (by decide) (fun _ _ _ h => h) (Or.inl ⟨by rfl, ?_⟩) (by assumption) ?_
  rotate_left
  · ((intro w'); (try go_simp); (try with_reducible rfl))
  clear hi
  (try simp only [Act.put, List.setIfInBounds_toArray, List.set_cons_zero, List.set_cons_succ])
  have hi := getop hO 56 (by decide)
  conv at hi => rhs; arg 1; whnf
  refine anyE_takeWU hO (v := ?_) 56 hi rfl (by kernel_rfl) (by kernel_rfl) (by kernel_rfl) (by decide) (fun _ _ _ h => h) (Or.inl ⟨by rfl, ?_⟩) (by assumption) ?_
  rotate_left
  · ((intro w'); (try go_simp); (try with_reducible rfl))
  clear hi
  (try simp only [Act.put, List.setIfInBounds_toArray, List.set_cons_zero, List.set_cons_succ])
  have hi := getop hO 57 (by decide)
  conv at hi => rhs; arg 1; whnf
  refine anyE_takeWU hO (v := ?_) 57 hi rfl (by kernel_rfl) (by kernel_rfl) (by kernel_rfl) (by decide) (fun _ _ _ h => h) (Or.inl ⟨by rfl, ?_⟩) (by assumption) ?_
  rotate_left
  · ((intro w'); (try go_simp); (try with_reducible rfl))
  clear hi
  (try simp only [Act.put, List.setIfInBounds_toArray, List.set_cons_zero, List.set_cons_succ])
  have hi := getop hO 58 (by decide)
  conv at hi => rhs; arg 1; whnf
  refine anyE_takeWU hO (v := ?_) 58 hi rfl (by kernel_rfl) (by kernel_rfl) (by kernel_rfl) (by decide) (fun _ _ _ h => h) (Or.inl ⟨by rfl, ?_⟩) (by assumption) ?_
  rotate_left
  · ((intro w'); (try go_simp); (try with_reducible rfl))
  clear hi
  (try simp only [Act.put, List.setIfInBounds_toArray, List.set_cons_zero, List.set_cons_succ])
  have hi := getop hO 59 (by decide)
  conv at hi => rhs; arg 1; whnf
  refine anyE_takeWU hO (v := ?_) 59 hi rfl (by kernel_rfl) (by kernel_rfl) (by kernel_rfl) (by decide) (fun _ _ _ h => h) (Or.inl ⟨by rfl, ?_⟩) (by assumption) ?_
  rotate_left
  · ((intro w'); (try go_simp); (try with_reducible rfl))
  clear hi
  (try simp only [Act.put, List.setIfInBounds_toArray, List.set_cons_zero, List.set_cons_succ])
  have hi := getop hO 60 (by decide)
  conv at hi => rhs; arg 1; whnf
  refine anyE_takeWU hO (v := ?_) 60 hi rfl (by kernel_rfl) (by kernel_rfl) (by kernel_rfl) (by decide) (fun _ _ _ h => h) (Or.inl ⟨by rfl, ?_⟩) (by assumption) ?_
  rotate_left
  · ((intro w'); (try go_simp); (try with_reducible rfl))
  clear hi
  (try simp only [Act.put, List.setIfInBounds_toArray, List.set_cons_zero, List.set_cons_succ])
  have hi := getop hO 61 (by decide)
  conv at hi => rhs; arg 1; whnf
  refine anyE_stepU hO 61 (by kernel_rfl) hi rfl (fun K hK => ?_)
  go_simp
  (go_at_call 46; refine (N3.out _ hHeld.2.2.2.2.out).mono ?_)
  rintro e y61 ⟨rfl, hE⟩
  have HY := Lib.hid (Ext.trans hHeld.2.2.2.2.out hE)
  clear hE
  go_wp2_with fail
  refine hK.out _ _ (HS.out _ HY.out) (fun hHeld => ?_)
  clear hK K
  (try simp only [Act.put, List.setIfInBounds_toArray, List.set_cons_zero, List.set_cons_succ])
  have hi := getop hO 62 (by decide)
  conv at hi => rhs; arg 1; whnf
  refine anyE_stepU hO 62 (by kernel_rfl) hi rfl (fun K hK => ?_)
  go_simp
  (go_at_call 46; refine (N4.out _ hHeld.2.2.2.2.out).mono ?_)
  rintro e y62 ⟨rfl, hE⟩
  have HY := Lib.hid (Ext.trans hHeld.2.2.2.2.out hE)
  clear hE
  go_wp2_with fail
  refine hK.out _ _ (HS.out _ HY.out) (fun hHeld => ?_)
  clear hK K
  (try simp only [Act.put, List.setIfInBounds_toArray, List.set_cons_zero, List.set_cons_succ])
  have hi := getop hO 63 (by decide)
  conv at hi => rhs; arg 1; whnf
  refine anyE_stepU hO 63 (by kernel_rfl) hi rfl (fun K hK => ?_)
  go_simp
  obtain ⟨Z, hZ⟩ : ∃ Z, Z = y62.alloc (.cells #[.string (intB q3.num), .string (numB q3.den), .string (intB q4.num), .string (numB q4.den)] 81) := ⟨_, rfl⟩
  have hEZ : Ext y62 Z := by rw [hZ]; exact Ext.alloc _ _
  have HR2 : Hid (Rats Z (.slice (some ⟨y62.heap.size, 0, none⟩) 2 2) [q3, q4]) := by rw [hZ]; exact Rats.two _ _ _ _
  rw [← hZ]
  have HY := Lib.hid (Ext.trans hHeld.2.2.2.2.out hEZ)
  clear hZ hEZ
  refine hK.out _ _ (HS.out _ HY.out) (fun hHeld => ?_)
  clear hK K
  (try simp only [Act.put, List.setIfInBounds_toArray, List.set_cons_zero, List.set_cons_succ])
  have hi := getop hO 64 (by decide)
  conv at hi => rhs; arg 1; whnf
  refine anyE_stepU hO 64 (by kernel_rfl) hi rfl (fun K hK => ?_)
  go_simp
  (go_at_call 22; refine (S2.out _ _ hHeld.2.2.2.2.out HR2.out).mono ?_)
  rintro e y64 ⟨rfl, hE⟩
  have HY := Lib.hid (Ext.trans hHeld.2.2.2.2.out hE)
  clear hE
  go_wp2_with fail
  refine hK.out _ _ (HS.out _ HY.out) (fun hHeld => ?_)
  clear hK K
  (try simp only [Act.put, List.setIfInBounds_toArray, List.set_cons_zero, List.set_cons_succ])
  have hi := getop hO 65 (by decide)
  conv at hi => rhs; arg 1; whnf
  refine anyE_takeWU hO (v := ?_) 65 hi rfl (by kernel_rfl) (by kernel_rfl) (by kernel_rfl) (by decide) (fun _ _ _ h => h) (Or.inl ⟨by rfl, ?_⟩) (by assumption) ?_
  rotate_left
  · ((intro w'); (try go_simp); (try with_reducible rfl))
  clear hi
  (try simp only [Act.put, List.setIfInBounds_toArray, List.set_cons_zero, List.set_cons_succ])
  have hi := getop hO 66 (by decide)
  conv at hi => rhs; arg 1; whnf
  refine anyE_takeWU hO (v := ?_) 66 hi rfl (by kernel_rfl) (by kernel_rfl) (by kernel_rfl) (by decide) (fun _ _ _ h => h) (Or.inl ⟨by rfl, ?_⟩) (by assumption) ?_
  rotate_left
  · ((intro w'); (try go_simp); (try with_reducible rfl))
  clear hi
  (try simp only [Act.put, List.setIfInBounds_toArray, List.set_cons_zero, List.set_cons_succ])
  have hi := getop hO 67 (by decide)
  conv at hi => rhs; arg 1; whnf
  refine anyE_takeWU hO (v := ?_) 67 hi rfl (by kernel_rfl) (by kernel_rfl) (by kernel_rfl) (by decide) (fun _ _ _ h => h) (Or.inl ⟨by rfl, ?_⟩) (by assumption) ?_
  rotate_left
  · ((intro w'); (try go_simp); (try with_reducible rfl))
  clear hi
  (try simp only [Act.put, List.setIfInBounds_toArray, List.set_cons_zero, List.set_cons_succ])
  have hi := getop hO 68 (by decide)
  conv at hi => rhs; arg 1; whnf
  refine anyE_takeWU hO (v := ?_) 68 hi rfl (by kernel_rfl) (by kernel_rfl) (by kernel_rfl) (by decide) (fun _ _ _ h => h) (Or.inl ⟨by rfl, ?_⟩) (by assumption) ?_
  rotate_left
  · ((intro w'); (try go_simp); (try with_reducible rfl))
  clear hi
  (try simp only [Act.put, List.setIfInBounds_toArray, List.set_cons_zero, List.set_cons_succ])
  have hi := getop hO 69 (by decide)
  conv at hi => rhs; arg 1; whnf
  refine anyE_takeWU hO (v := ?_) 69 hi rfl (by kernel_rfl) (by kernel_rfl) (by kernel_rfl) (by decide) (fun _ _ _ h => h) (Or.inl ⟨by rfl, ?_⟩) (by assumption) ?_
  rotate_left
  · ((intro w'); (try go_simp); (try with_reducible rfl))
  clear hi
  (try simp only [Act.put, List.setIfInBounds_toArray, List.set_cons_zero, List.set_cons_succ])
  have hi := getop hO 70 (by decide)
  conv at hi => rhs; arg 1; whnf
  refine anyE_takeWU hO (v := ?_) 70 hi rfl (by kernel_rfl) (by kernel_rfl) (by kernel_rfl) (by decide) (fun _ _ _ h => h) (Or.inl ⟨by rfl, ?_⟩) (by assumption) ?_
  rotate_left
  · ((intro w'); (try go_simp); (try with_reducible rfl))
  clear hi
  (try simp only [Act.put, List.setIfInBounds_toArray, List.set_cons_zero, List.set_cons_succ])
  have hi := getop hO 71 (by decide)
  conv at hi => rhs; arg 1; whnf
  refine anyE_takeWU hO (v := ?_) 71 hi rfl (by kernel_rfl) (by kernel_rfl) (by kernel_rfl) (by decide) (fun _ _ _ h => h) (Or.inl ⟨by rfl, ?_⟩) (by assumption) ?_
  rotate_left
  · ((intro w'); (try go_simp); (try with_reducible rfl))
  clear hi
  (try simp only [Act.put, List.setIfInBounds_toArray, List.set_cons_zero, List.set_cons_succ])
  have hi := getop hO 72 (by decide)
  conv at hi => rhs; arg 1; whnf
  refine anyE_takeWU hO (v := ?_) 72 hi rfl (by kernel_rfl) (by kernel_rfl) (by kernel_rfl) (by decide) (fun _ _ _ h => h) (Or.inl ⟨by rfl, ?_⟩) (by assumption) ?_
  rotate_left
  · ((intro w'); (try go_simp); (try with_reducible rfl))
  clear hi
  (try simp only [Act.put, List.setIfInBounds_toArray, List.set_cons_zero, List.set_cons_succ])
  have hi := getop hO 73 (by decide)
  conv at hi => rhs; arg 1; whnf
  refine anyE_takeWU hO (v := ?_) 73 hi rfl (by kernel_rfl) (by kernel_rfl) (by kernel_rfl) (by decide) (fun _ _ _ h => h) (Or.inl ⟨by rfl, ?_⟩) (by assumption) ?_
  rotate_left
  · ((intro w'); (try go_simp); (try with_reducible rfl))
  clear hi
  (try simp only [Act.put, List.setIfInBounds_toArray, List.set_cons_zero, List.set_cons_succ])
  have hi := getop hO 74 (by decide)
  conv at hi => rhs; arg 1; whnf
  refine anyE_lastU hO 74 (by kernel_rfl) rfl (by kernel_rfl) (by kernel_rfl) hi (fun K hK => ?_)
  go_simp
  refine hK.out _ _ ?_
  clear hK K
  (try simp only [Act.put, List.setIfInBounds_toArray, List.set_cons_zero, List.set_cons_succ])
  have HXF := Lib.hid (Ext.trans HE5.out hHeld.2.2.2.2.out)
  clear hHeld
  go_wp2_with fail
  go_ret
  exact ⟨rfl, HXF.out⟩
end Go.Proofs.YtpeinobepiodaaaGreatDoor
