/- row.Dot, as a contract. -/
import Derived.Test.YtobgghjmclagaaaDoorPairs
import Derived.Test.YtobgghjmclagaaaDoorSumR
import Derived.Maps.AppendAt
namespace Go.Proofs.YtobgghjmclagaaaDoor
set_option linter.unusedVariables false
set_option linter.unusedSimpArgs false
open Go.RowKit Go.Shelf
attribute [local go_sem] Oper.semAt_some

def sumI : List Int → Int
  | [] => 0
  | x :: l => x + sumI l
theorem sumI_append : ∀ a b : List Int, sumI (a ++ b) = sumI a + sumI b
  | [], b => by simp [sumI]
  | x :: a, b => by rw [List.cons_append, sumI, sumI, sumI_append a b]; omega
def dotS (xs ys : List Int) : Int := sumI (List.zipWith (· * ·) xs ys)
def dotOn {len : Nat} (xs ys : List Int) (pre : List (Fin len)) : Int := sumI (pre.map fun x => xs[x.val]?.getD 0 * ys[x.val]?.getD 0)
theorem dotOn_snoc {len : Nat} (xs ys : List Int) (pre : List (Fin len)) (x : Fin len) : dotOn xs ys (pre ++ [x]) = dotOn xs ys pre + xs[x.val]?.getD 0 * ys[x.val]?.getD 0 := by
  unfold dotOn; rw [List.map_append, sumI_append]; simp [sumI]
theorem fsts_map {α : Type} (f : Nat → α) (len : Nat) : (fsts len len).map (fun x => f x.val) = (List.range len).map f := by
  unfold fsts
  rw [List.take_of_length_le (by simp)]
  apply List.ext_getElem
  · simp
  · intro i h1 h2; simp
theorem dotOn_all (xs ys : List Int) (len : Nat) (hx : xs.length = len) (hy : ys.length = len) : dotOn xs ys (fsts len len) = dotS xs ys := by
  unfold dotOn dotS
  rw [fsts_map (fun j => xs[j]?.getD 0 * ys[j]?.getD 0)]
  congr 1
  apply List.ext_getElem
  · simp [hx, hy]
  · intro i h1 h2
    have hi : i < len := by simpa using h1
    simp [List.getElem?_eq_getElem (show i < xs.length by omega), List.getElem?_eq_getElem (show i < ys.length by omega)]

theorem below_byRow {n : Nat} {a b c : World} {r : Option Nat} (h : Below n a b) (g : b.grownBy c r) (hn : n ≤ b.heap.size) (hr : ∀ k, r = some k → n ≤ k) : Below n a c :=
  ⟨g.os.trans h.os, g.tape.trans h.tape, g.output.trans h.output, Nat.le_trans h.size g.size, fun k hk => (g.block k (by omega) (fun e => by have := hr k e.symm; omega)).trans (h.block k hk)⟩
/-- A block of cells stays while what is no cells turns. -/
theorem cells_own {n B : Nat} {C : Array Value} {T : TypeId} {fr : Nat × Nat} {W W' : World} {row : Option Nat} (h : W.heap[B]? = some (.cells C T fr)) (hg : W.grownBy W' row) (hr : ∀ r, row = some r → n ≤ r ∧ ∃ o : Obj, W.heap[r]? = some o ∧ o.isCells = false) : W'.heap[B]? = some (.cells C T fr) := by
  refine (hg.block B (block_lt h) fun e => ?_).trans h
  obtain ⟨_, o, ho, hc⟩ := hr B e.symm
  rw [h] at ho
  cases ho
  simp [Obj.isCells] at hc

def dotE (xs ys : List Int) : Int := if bothE xs ys = 0 then (if fitB (dotS xs ys) then 0 else 4) else bothE xs ys
def dotV (xs ys : List Int) : Int := if bothE xs ys = 0 then (if fitB (dotS xs ys) then dotS xs ys else 0) else 0
theorem bothE_zero {xs ys : List Int} (h : bothE xs ys = 0) : okRow xs ∧ okRow ys ∧ xs.length = ys.length := by
  unfold bothE at h
  by_cases h1 : rowE xs = 0
  · rw [if_pos h1] at h
    by_cases h2 : rowE ys = 0
    · rw [if_pos h2] at h
      by_cases h3 : xs.length = ys.length
      · exact ⟨(rowE_zero _).1 h1, (rowE_zero _).1 h2, h3⟩
      · rw [if_neg h3] at h; simp at h
    · rw [if_neg h2] at h; exact absurd h h2
  · rw [if_neg h1] at h; exact absurd h h1
theorem bothE_cases (xs ys : List Int) : bothE xs ys = 0 ∨ bothE xs ys = 4 ∨ bothE xs ys = 5 := by
  unfold bothE
  rcases rowE_four xs with h1 | h1 <;> rcases rowE_four ys with h2 | h2 <;> simp [h1, h2]
  by_cases h : xs.length = ys.length <;> simp [h]

set_option maxRecDepth 100000 in
set_option maxHeartbeats 4000000 in
theorem dot_any (xs ys : List Int) (u v : Value) (w : World) (h : Ints w u xs) (k : Ints w v ys) :
    Calls Tryd.prog 36 #[u, v] w fun e w' => e = .returned (.tuple #[.int .i64 (dotV xs ys), .int .i64 (dotE xs ys)]) ∧ Ext w w' := by
  have HB := Lib.hid (both_any xs ys u v w h k)
  obtain ⟨a, ca, rfl, hca, hca2, -, -, hxc⟩ := h.open
  obtain ⟨b, cb, rfl, hcb, hcb2, -, -, hyc⟩ := k.open
  have HXC := Lib.hid hxc; have HYC := Lib.hid hyc
  clear h k hxc hyc
  refine (callsIn_wide (n := 9)).1 ?_
  refine callsIn_of_wp_marks Tryd.func36 rfl trivial ?_ rfl
  simp only [Tryd.ntmps36, List.size_toArray, List.length_cons, List.length_nil, Nat.reduceAdd, Nat.reduceSub, Array.replicate_succ, Array.replicate_zero, List.push_toArray, List.append_toArray, List.nil_append, List.cons_append]
  by_cases hb : bothE xs ys = 0
  · obtain ⟨ok1, ok2, hl⟩ := bothE_zero hb
    have HOK := Lib.hid (And.intro ok1 ok2)
    have h64 := ok1.1
    obtain ⟨n, hn⟩ : ∃ n, xs.length = n := ⟨_, rfl⟩
    have hn2 : ys.length = n := by omega
    have HN := Lib.hid (And.intro hn hn2)
    rw [hn] at hca h64 HB
    rw [hn2] at hcb HB
    rw [hn, hn2]
    rw [hb] at HB
    have HB0 := Lib.hid hb
    clear ok1 ok2 hl hn hn2 hb
    gi_wp2_with fail
    refine ⟨trivial, ?_⟩
    refine (callsIn_wide.2 HB.out).mono ?_
    rintro e w1 ⟨rfl, hE1⟩
    have HE1 := Lib.hid hE1
    clear HB hE1
    gi_wp2_with fail
    refine ⟨trivial, ?_⟩
    refine (callsIn_wide.2 (pairs_any _ _ a b n ca n cb rfl rfl _)).mono ?_
    rintro e w3 ⟨rfl, hw3⟩
    gi_wp2_with fail
    have hs3 : w3.heap.size = w1.heap.size + 3 := by rw [hw3]; simp
    have hE3 : Ext w1 w3 := by rw [hw3]; exact (Ext.alloc _ _).trans ((Ext.alloc _ _).trans (Ext.alloc _ _))
    have hb0 : w3.heap[w1.heap.size]? = some (.cells #[.int .i64 0, .int .i64 0] 79 (0, 0)) := by rw [hw3]; exact block_ext (block_ext (block_new _ _ _) (Ext.alloc _ _)) (Ext.alloc _ _)
    have hbx1 : Boxed w3 (w1.heap.size + 1) 23 (.slice a n ca) := by
      rw [hw3]
      have := Boxed.alloc (Boxed.new (w1.alloc (.cells #[.int .i64 0, .int .i64 0] 79)) 23 (.slice a n ca)) (.cells #[.slice b n cb] 23)
      simpa using this
    have hbx2 : Boxed w3 (w1.heap.size + 2) 23 (.slice b n cb) := by
      rw [hw3]
      have := Boxed.new ((w1.alloc (.cells #[.int .i64 0, .int .i64 0] 79)).alloc (.cells #[.slice a n ca] 23)) 23 (.slice b n cb)
      simpa using this
    rw [← hw3]
    clear hw3
    have HE3 := Lib.hid (Ext.trans HE1.out hE3)
    have hsz := HE1.out.size
    have h13 : w1.heap.size ≤ w3.heap.size := hE3.size
    refine wpIn_rangeFunc_ownG rfl (by omega) (gf := 82) (lb := #[.pointer (some ⟨w1.heap.size + 1, 0, none⟩), .pointer (some ⟨w1.heap.size + 1 + 1, 0, none⟩)]) rfl trivial (enters_of Tryd.func82 (by kernel_rfl) rfl)
      (pairs_stops Fence.wide (9 - 1) trivial rfl (by omega) (w1.heap.size + 1) (w1.heap.size + 1 + 1) w.heap.size n ca cb a b xs ys HN.out.1 HN.out.2 (by omega) hca hca2 hcb hcb2 w3 hbx1 hbx2
        (fun h => by
          obtain ⟨bb, off, h1, h2, h3⟩ := HXC.out (by intro e; have := HN.out.1; rw [e] at this; simp at this; omega)
          exact ⟨bb, off, h1, h2, fun j u hu => HE3.out.cell (h3 j u hu)⟩)
        (fun h => by
          obtain ⟨bb, off, h1, h2, h3⟩ := HYC.out (by intro e; have := HN.out.2; rw [e] at this; simp at this; omega)
          exact ⟨bb, off, h1, h2, fun j u hu => HE3.out.cell (h3 j u hu)⟩))
      (fun h k => PairK.trans h k) ?kb (Below.refl _ _) (fun _ => rfl)
      (fun pre W => ∃ hh ll : Int, W.heap[w1.heap.size]? = some (.cells #[.int .i64 hh, .int .i64 ll] 79 (0, 0)) ∧ -1000000000000000000 < ll ∧ ll < 1000000000000000000 ∧ -(pre.length : Int) ≤ hh ∧ hh ≤ (pre.length : Int) ∧ hh * 1000000000000000000 + ll = dotOn xs ys pre ∧ Below w.heap.size w W)
      (fun _ _ _ => False) ?own (fun _ _ _ _ _ hs _ _ => hs) ⟨0, 0, hb0, by decide, by decide, by simp, by simp, by simp [dotOn, sumI], HE3.out⟩ ?a1 ?assign ?body ?done ?stop
    case assign =>
      intro l x W K hK
      gi_wp2
      exact hK
    case kb =>
      intro W l o o' hl hW hc hw
      exact ⟨belowK_b (w := w3) (by omega) W l o o' hl hW hc hw, fun v hv => cells_own (n := 0) hv (grownBy_putObj' W l o') (fun r e => by cases e; exact ⟨Nat.zero_le _, o, hW, hc⟩), fun v hv => cells_own (n := 0) hv (grownBy_putObj' W l o') (fun r e => by cases e; exact ⟨Nat.zero_le _, o, hW, hc⟩)⟩
    case own =>
      rintro pre W W' row ⟨hh, ll, h1, h2, h3, h4, h5, h6, h7⟩ hg hr
      exact ⟨hh, ll, cells_own h1 hg hr, h2, h3, h4, h5, h6, ownFrom_below (β := Unit) (Nat.le_refl _) (by omega) () W W' row h7 hg hr⟩
    case stop =>
      rintro D cc pre W _ _ h _
      exact h.elim
    case body =>
      rintro l pre x W ⟨hh, ll, h1, h2, h3, h4, h5, h6, h7⟩ hlt
      have hxn : x.val < n := x.isLt
      obtain ⟨p, hp⟩ : ∃ p, xs[x.val]? = some p := ⟨_, List.getElem?_eq_getElem (by have := HN.out.1; omega)⟩
      obtain ⟨q, hq⟩ : ∃ q, ys[x.val]? = some q := ⟨_, List.getElem?_eq_getElem (by have := HN.out.2; omega)⟩
      obtain ⟨p1, p2⟩ := HOK.out.1.2 p (List.mem_of_getElem? hp)
      obtain ⟨q1, q2⟩ := HOK.out.2.2 q (List.mem_of_getElem? hq)
      have HADD := Lib.hid (sumAdd_any w1.heap.size hh ll p q W h1 p1 p2 q1 q2 h2 h3 (by omega) (by omega))
      have HSN : Hid (dotOn xs ys (pre ++ [x]) = dotOn xs ys pre + p * q) := by unfold Hid; rw [dotOn_snoc, hp, hq]; rfl
      have HI := Lib.hid (And.intro h1 (And.intro h6 h7))
      simp only [pairEnc, hp, hq, Option.getD_some]
      clear h1 h2 h3 h6 h7 hp hq
      gi_wp2_with fail
      refine ⟨trivial, ?_⟩
      refine (CallsIn.inRound l (callsIn_wide.2 HADD.out)).mono ?_
      rintro e W' ⟨rfl, h', l', ⟨k1, k2⟩, k3, k4, k5, k6, k7⟩
      have HF : Hid (KeepsFrom w3.heap.size W W' ∧ PairK w.heap.size (w1.heap.size + 1) (w1.heap.size + 1 + 1) W W' ∧ ∃ hh ll : Int, W'.heap[w1.heap.size]? = some (.cells #[.int .i64 hh, .int .i64 ll] 79 (0, 0)) ∧ -1000000000000000000 < ll ∧ ll < 1000000000000000000 ∧ -((pre ++ [x]).length : Int) ≤ hh ∧ hh ≤ ((pre ++ [x]).length : Int) ∧ hh * 1000000000000000000 + ll = dotOn xs ys (pre ++ [x]) ∧ Below w.heap.size w W') := by
        refine ⟨(KeepsOthers.of_grownBy k2 (fun j o e hj => ?_)).from _, ⟨below_byRow (Below.refl _ _) k2 HI.out.2.2.size (fun j e => by cases e; omega), fun v hv => hv.kept k2 (by simp), fun v hv => hv.kept k2 (fun e => by simp at e; omega)⟩, h', l', k1, k4, k5, ?_, ?_, ?_, below_byRow HI.out.2.2 k2 HI.out.2.2.size (fun j e => by cases e; omega)⟩
        · cases e
          have := HI.out.1.symm.trans hj
          cases this; rfl
        · simp; omega
        · simp; omega
        · rw [HSN.out, ← HI.out.2.1]; exact k3
      clear k1 k2 k3 k4 k5 k6 k7
      gi_wp2_with fail
      exact HF.out
    case done =>
      rintro D zs W hD rfl ⟨hh, ll, h1, h2, h3, h4, h5, h6, h7⟩ hK
      rw [dotOn_all xs ys n HN.out.1 HN.out.2] at h6
      have c0 := block_cell h1 0; have c1 := block_cell h1 1
      simp only [List.getElem?_toArray, List.getElem?_cons_zero, List.getElem?_cons_succ] at c0 c1
      have HV := Lib.hid (sumValue_any hh ll W h2 h3)
      obtain ⟨v1, v2⟩ := valS_ok hh ll h2 h3
      rw [h6] at v1 v2
      have HI := Lib.hid (And.intro h7 (And.intro v1 v2))
      have HK := Lib.hid hK
      clear h1 h2 h3 h4 h5 h6 h7 v1 v2 hK
      gi_wp2_with fail
      refine ⟨trivial, ?_⟩
      refine (callsIn_wide.2 HV.out).mono ?_
      rintro e W2 ⟨rfl, hE⟩
      have HK2 := Lib.hid (block_ext HK.out hE)
      have HW2 := Lib.hid (Below.trans HI.out.1 (Below.mono hE HI.out.1.size))
      rw [HI.out.2.1]
      clear hE c0 c1 HV
      have hsD : w.heap.size ≤ D := by omega
      cases hf : fitB (dotS xs ys) with
      | true =>
        have HQ : Hid (dotV xs ys = (valS hh ll).1 ∧ dotE xs ys = 0) := by
          unfold Hid dotV dotE; rw [if_pos HB0.out, if_pos HB0.out, if_pos hf, if_pos hf]; exact ⟨(HI.out.2.2 hf).symm, rfl⟩
        gi_wp2_with fail
        refine ⟨by simp, .inl ⟨_, _, rfl, run_takeDeferred HK2.out, ?_⟩⟩
        refine ⟨_, results_tmp2 rfl _ _ _, ?_, ?_⟩
        · rw [HQ.out.1, HQ.out.2]; rfl
        · exact below_byRow HW2.out (grownBy_putObj' W2 D _) HW2.out.size (fun j e => by cases e; exact hsD)
      | false =>
        have HQ : Hid (dotV xs ys = 0 ∧ dotE xs ys = 4) := by
          unfold Hid dotV dotE; rw [if_pos HB0.out, if_pos HB0.out, if_neg (by simp [hf]), if_neg (by simp [hf])]; exact ⟨rfl, rfl⟩
        gi_wp2_with fail
        refine ⟨by simp, .inl ⟨_, _, rfl, run_takeDeferred HK2.out, ?_⟩⟩
        refine ⟨_, results_tmp2 rfl _ _ _, ?_, ?_⟩
        · rw [HQ.out.1, HQ.out.2]; rfl
        · exact below_byRow HW2.out (grownBy_putObj' W2 D _) HW2.out.size (fun j e => by cases e; exact hsD)
  · have HQ : Hid (dotV xs ys = 0 ∧ dotE xs ys = bothE xs ys) := by unfold Hid dotV dotE; rw [if_neg hb, if_neg hb]; exact ⟨rfl, rfl⟩
    rw [HQ.out.1, HQ.out.2]
    clear HQ
    rcases (bothE_cases xs ys).resolve_left hb with h4 | h4
    · rw [h4] at HB ⊢
      clear hb h4
      gi_wp2_with fail
      refine ⟨trivial, ?_⟩
      refine (callsIn_wide.2 HB.out).mono ?_
      rintro e w1 ⟨rfl, hE1⟩
      have HE1 := Lib.hid hE1
      clear HB hE1
      gi_wp2_with fail
      exact ⟨_, results_tmp2 rfl _ _ _, rfl, HE1.out⟩
    · rw [h4] at HB ⊢
      clear hb h4
      gi_wp2_with fail
      refine ⟨trivial, ?_⟩
      refine (callsIn_wide.2 HB.out).mono ?_
      rintro e w1 ⟨rfl, hE1⟩
      have HE1 := Lib.hid hE1
      clear HB hE1
      gi_wp2_with fail
      exact ⟨_, results_tmp2 rfl _ _ _, rfl, HE1.out⟩
end Go.Proofs.YtobgghjmclagaaaDoor
