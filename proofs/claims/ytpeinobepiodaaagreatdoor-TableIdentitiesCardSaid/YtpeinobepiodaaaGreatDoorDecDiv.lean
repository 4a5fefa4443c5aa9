/- decimal: divide on pieces: long division. -/
import Derived.Test.YtpeinobepiodaaaGreatDoorDecTake
namespace Go.Proofs.YtpeinobepiodaaaGreatDoor
set_option linter.unusedVariables false
set_option linter.unusedSimpArgs false
open Go.RowKit

theorem GrownS.belowE {S : Nat → Prop} {w w' : World} {B : Nat} (h : GrownS S w w') (hS : ∀ k, S k → B ≤ k) (hB : B ≤ w.heap.size) : Below B w w' :=
  ⟨h.os, h.tape, h.output, h.size, fun k hk => h.block k (by omega) (fun hs => by have := hS k hs; omega)⟩
theorem OwnP.grownS {S : Nat → Prop} {B : Nat} {w w' : World} {g n cap : Nat} {l : List Nat} (h : OwnP B w (.slice (some ⟨g, 0, none⟩) n cap) l) (hg : GrownS S w w') (hS : ¬ S g) : OwnP B w' (.slice (some ⟨g, 0, none⟩) n cap) l := by
  refine ⟨h.1, ?_⟩
  rcases h.2 with ⟨e, _⟩ | ⟨g', cap', cur, e, hb, hgg, rest⟩
  · cases e
  · simp only [Value.slice.injEq, Option.some.injEq, Addr.mk.injEq] at e
    obtain ⟨⟨rfl, -, -⟩, -, rfl⟩ := e
    exact .inr ⟨g, cap, cur, by rw [h.len], hb, (hg.block g (Array.getElem?_eq_some_iff.1 hgg).1 hS).trans hgg, rest⟩

/-- The state of a division from piece k on. -/
structure DivI (N n bv V k : Nat) (A O : List Nat) : Prop where
  la : A.length = N
  pa : Pcs A
  lo : O.length = N - n
  po : Pcs O
  lt : lv (A.drop k) < bv
  val : lv A + bv * (pB k * lv (O.drop k)) = V
theorem DivI.start {A : List Nat} {N n bv V : Nat} (hA : Pcs A) (hl : A.length = N) (hn : n ≤ N) (hn1 : 1 ≤ n) (hz : A[N - 1]? = some 0) (hb : pB (n - 1) ≤ bv) (hV : lv A = V) : DivI N n bv V (N - n) A (List.replicate (N - n) 0) := by
  refine ⟨hl, hA, by simp, Pcs.zeros _, ?_, ?_⟩
  · have h1 : (A.drop (N - n))[n - 1]? = some 0 := by rw [List.getElem?_drop, show N - n + (n - 1) = N - 1 by omega]; exact hz
    have hd : (A.drop (N - n)).drop (n - 1 + 1) = [] := List.drop_eq_nil_of_le (by rw [List.length_drop]; omega)
    rw [lv_split (A.drop (N - n)) (n - 1) (by rw [List.length_drop]; omega), lv_drop_succ h1, hd, lv_nil]
    simp only [Nat.mul_zero, Nat.add_zero]
    have := lv_lt ((hA.drop (N - n)).take (n - 1))
    rw [List.length_take, List.length_drop, Nat.min_eq_left (by omega)] at this
    omega
  · rw [List.drop_eq_nil_of_le (by simp), lv_nil, Nat.mul_zero, Nat.mul_zero, Nat.add_zero, hV]
/-- What is known of the numbers of a round. -/
structure KnuthR (W bv t s high a2 : Nat) : Prop where
  hb : ∃ L bl, bv = (t * 1000000000 + s) * L + bl ∧ bl < L ∧ ∃ wl, W = (high * 1000000000 + a2) * L + wl ∧ wl < L
  ht : 0 < t
  hs : s < 1000000000
  ha2 : a2 < 1000000000
  hbv : 0 < bv
  hW : W < 1000000000 * bv
theorem DivI.knuth {A O b : List Nat} {N n m bv V j t s a0 a1 a2 : Nat} (h : DivI N n bv V (j + 1) A O) (hb : Can b) (hbl : b.length = n) (hnm : n = m + 2) (hbv : lv b = bv) (hj : j + n < N) (ht : b[m + 1]? = some t) (hs : b[m]? = some s)
    (h0 : A[j + n]? = some a0) (h1 : A[j + n - 1]? = some a1) (h2 : A[j + n - 2]? = some a2) : KnuthR (lv (A.drop j)) bv t s (a0 * 1000000000 + a1) a2 := by
  subst hnm
  have ht0 : t ≠ 0 := hb.2 t (by rw [hbl]; exact ht)
  have hbn : bv < pB (m + 2) := by rw [← hbv, ← hbl]; exact lv_lt hb.1
  have hz := high_zero h.lt hbn
  have e1 := top_two hbl ht hs
  have e2 := top_three (A := A) (m := m) (i := j) (a0 := a0) (a1 := a1) (a2 := a2) (by rw [← h0]; congr 1) (by rw [← h1]; congr 1) (by rw [← h2]; congr 1) (by rw [show j + m + 3 = j + (m + 2) + 1 by omega]; exact hz)
  have l1 := lv_lt (hb.1.take m)
  rw [List.length_take, Nat.min_eq_left (by omega)] at l1
  have l2 := lv_lt ((h.pa.drop j).take m)
  rw [List.length_take, List.length_drop, Nat.min_eq_left (by have := h.la; omega)] at l2
  have hb0 : 0 < bv := by have := h.lt; omega
  refine ⟨⟨pB m, _, hbv ▸ e1, l1, _, e2, l2⟩, by omega, hb.1.get hs, h.pa.get h2, hb0, ?_⟩
  have hx : A[j]? = some (A[j]'(by have := h.la; omega)) := List.getElem?_eq_getElem _
  have hxb := h.pa.get hx
  rw [lv_drop_succ hx]
  have := h.lt
  omega
/-- A round without a borrow, and one with. -/
theorem DivI.no {A O A' b : List Nat} {N n bv V j g : Nat} (h : DivI N n bv V (j + 1) A O) (hT : TakeR A b g j A' 0) (hbl : b.length = n) (hbv : lv b = bv) (hj : j + n < N) (hg : lv (A.drop j) / bv ≤ g) (hgb : g < 1000000000) : DivI N n bv V j A' (O.set j g) := by
  have hb0 : 0 < bv := by have := h.lt; omega
  obtain ⟨d1, d2⟩ := div_no hT hbl hbv hb0 (by have := h.la; omega) h.val hg
  refine ⟨hT.len.trans h.la, hT.pcs, by rw [List.length_set]; exact h.lo, h.po.set _ _ hgb, d1, ?_⟩
  rw [lv_drop_succ (k := j) (x := g) (by rw [List.getElem?_set, if_pos rfl, if_pos (by rw [h.lo]; omega)]), List.drop_set_of_lt (by omega)]
  exact d2
theorem DivI.back {A O A' A'' b : List Nat} {N n bv V j g c : Nat} (h : DivI N n bv V (j + 1) A O) (hT : TakeR A b g j A' 1) (hB : BackR A' b j A'' c) (hbl : b.length = n) (hbp : Pcs b) (hbv : lv b = bv) (hj : j + n < N) (hg : g ≤ lv (A.drop j) / bv + 1) (hgb : g < 1000000000) : 0 < g ∧ DivI N n bv V j A'' (O.set j (g - 1)) := by
  have hb0 : 0 < bv := by have := h.lt; omega
  have hbn : bv < pB n := by rw [← hbv, ← hbl]; exact lv_lt hbp
  obtain ⟨d0, d1, d2⟩ := div_back hT hB hbl hbv hb0 hbn (by have := h.la; omega) h.lt h.val hg
  refine ⟨d0, hB.len.trans (hT.len.trans h.la), hB.pcs, by rw [List.length_set]; exact h.lo, h.po.set _ _ (by omega), d1, ?_⟩
  rw [lv_drop_succ (k := j) (x := g - 1) (by rw [List.getElem?_set, if_pos rfl, if_pos (by rw [h.lo]; omega)]), List.drop_set_of_lt (by omega)]
  exact d2
theorem take_pos {A A' b : List Nat} {g i : Nat} (h : TakeR A b g i A' 1) (hi : i + b.length < A.length) : 0 < g := by
  false_or_by_contra
  rename_i hn
  have hv := h.val
  rw [show g = 0 by omega, Nat.zero_mul, Nat.add_zero, Nat.one_mul] at hv
  have h1 := lv_split A' (i + b.length + 1) (by rw [h.len]; omega)
  have h2 := lv_split A (i + b.length + 1) (by omega)
  have h3 := lv_lt (h.pcs.take (i + b.length + 1))
  rw [List.length_take, h.len, Nat.min_eq_left (by omega)] at h3
  rw [h.high] at h1
  omega
/-- The guess of a round. -/
structure Guess (W bv t high g r : Nat) : Prop where
  ge : W / bv ≤ g
  eq : g * t + r = high
theorem Guess.start {W bv t s high a2 : Nat} (h : KnuthR W bv t s high a2) : Guess W bv t high (high / t) (high % t) := by
  obtain ⟨L, bl, e1, h1, wl, e2, h2⟩ := h.hb
  refine ⟨guess_ge e1 e2 h.ha2 h2 h.ht rfl, ?_⟩
  rw [Nat.mul_comm]; exact Nat.div_add_mod _ _
theorem Guess.less {W bv t s high a2 g r : Nat} (k : KnuthR W bv t s high a2) (h : Guess W bv t high g r) (hc : 1000000000 ≤ g ∨ r * 1000000000 + a2 < g * s) : Guess W bv t high (g - 1) (r + t) ∧ 0 < g := by
  obtain ⟨L, bl, e1, h1, wl, e2, h2⟩ := k.hb
  obtain ⟨d1, d2⟩ := guess_less e1 e2 h2 k.hbv k.hW h.ge h.eq hc
  refine ⟨⟨d1, ?_⟩, d2⟩
  have := h.eq
  obtain ⟨g', rfl⟩ : ∃ g', g = g' + 1 := ⟨g - 1, by omega⟩
  rw [Nat.add_sub_cancel]
  rw [Nat.add_mul, Nat.one_mul] at this
  omega
theorem Guess.done {W bv t s high a2 g r : Nat} (k : KnuthR W bv t s high a2) (h : Guess W bv t high g r) (hg : g < 1000000000) (hc : 1000000000 ≤ r ∨ g * s ≤ r * 1000000000 + a2) : g ≤ W / bv + 1 := by
  obtain ⟨L, bl, e1, h1, wl, e2, h2⟩ := k.hb
  exact guess_end e1 e2 h1 k.ht k.hs h.eq hg hc

theorem quo_cast (t : Nat) : (1000000000 : Int) / ((t : Int) + 1) = ((1000000000 / (t + 1) : Nat) : Int) := by
  rw [Int.natCast_ediv, Int.natCast_add]; rfl
theorem factor_bd {t : Nat} (ht : t < 1000000000) : 0 < 1000000000 / (t + 1) ∧ 1000000000 / (t + 1) ≤ 1000000000 :=
  ⟨Nat.div_pos (by omega) (by omega), Nat.div_le_self _ _⟩
set_option maxRecDepth 100000 in
set_option maxHeartbeats 8000000 in
theorem divide_any (p q : List Nat) (u v : Value) (w : World) (hu : PcsAt w u p) (hv : PcsAt w v q) (hp : Can p) (hq : Can q) (hq2 : 2 ≤ q.length) (hqp : q.length ≤ p.length) (hlp : p.length ≤ 40000) :
    Calls Tryz.prog 148 #[u, v] w fun e w' => ∃ r1 l1 r2 l2, e = .returned (.tuple #[r1, r2]) ∧ Hid (OwnP w.heap.size w' r1 l1 ∧ Can l1 ∧ lv l1 = lv p / lv q ∧ l1.length ≤ p.length + 2) ∧ Hid (OwnP w.heap.size w' r2 l2 ∧ Can l2 ∧ lv l2 = lv p % lv q ∧ l2.length ≤ p.length + 2) ∧ Ext w w' := by
  obtain ⟨a, ca, rfl, hla, hca, hcu⟩ := hu.open
  obtain ⟨b, cb, rfl, hlb, hcb, hcv⟩ := hv.open
  obtain ⟨bq, oq, rfl, hbq, hcv'⟩ := hcv (by rintro rfl; simp at hq2)
  have HP := Lib.hid hp; have HQ := Lib.hid hq
  have HU := Lib.hid hu; have HV := Lib.hid hv
  obtain ⟨i0, hi, hz0, hz1, hz2⟩ := info_parts infoU64
  have HI := Lib.hid hi; have HZ0 := Lib.hid hz0; have HZ1 := Lib.hid hz1; have HZ2 := Lib.hid hz2
  obtain ⟨t, ht⟩ : ∃ t, q[q.length - 1]? = some t := ⟨_, List.getElem?_eq_getElem (by omega)⟩
  have gt := hcv' _ t ht
  have htb := hq.1.get ht
  have ht0 : 0 < t := by have := hq.2 t ht; omega
  have i1 : (1 : Int) ≤ (q.length : Int) := by omega
  have i2 : 1 ≤ q.length := by omega
  obtain ⟨f, hf⟩ : ∃ f, f = 1000000000 / (t + 1) := ⟨_, rfl⟩
  have hf0 : 0 < f := by rw [hf]; exact (factor_bd htb).1
  have hfb : f < 1000000000 := by
    rw [hf]
    have : 1000000000 / (t + 1) ≤ 1000000000 / 2 := Nat.div_le_div_left (by omega) (by omega)
    omega
  have hfi : (1000000000 : Int) / ((t : Int) + 1) = (f : Int) := by rw [hf]; exact quo_cast t
  have hnz : ((t : Int) + 1 == 0) = false := by rw [beq_eq_false_iff_ne]; omega
  have HS1 := Lib.hid (scaled_any p f _ w hu hp.1 hfb hf0 (by omega))
  clear hi hz0 hz1 hz2 hu hv hcu hcv hp hq hcv' ht hf
  go_enter Tryz.func148, Tryz.ntmps148
  have HS2 : Hid (∀ W, Ext w W → Calls Tryz.prog 160 #[.slice (some ⟨bq, oq, none⟩) q.length cb, .int .u64 f] W fun e w' => ∃ r l, e = .returned r ∧ Hid (OwnP W.heap.size w' r l ∧ Can l ∧ lv l = lv q * f ∧ l.length ≤ q.length + 1) ∧ Ext W w') := fun W hE => scaled_any q f _ W (HV.out.ext hE) HQ.out.1 hfb hf0 (by omega)
  go_wp2_with fail
  refine HS1.out.mono ?_
  rintro e w1 ⟨r1, l1, rfl, hr1, hE1⟩
  have HR1 := Lib.hid hr1.out
  have HB1 := Lib.hid hr1.out.1.build
  have HE1 := Lib.hid hE1
  have hsz1 : w.heap.size ≤ w1.heap.size := hE1.size
  have HLL : Hid (l1.length < 1000000) := by have := HR1.out.2.2.2; unfold Hid; omega
  clear hr1 hE1 HS1
  go_wp2_with (at_builtin; go_must (refine wpList_append_build _ rfl _ _ 152 rfl w.heap.size 147 (.int .u64 0) 1 8 Tryz.underlying152 infoU64 rfl (by decide) r1 pcR l1 0 #[.int .u64 0] 147 rfl HB1.out rfl rfl ?_ (fun _ _ => rfl) HLL.out (by decide) hsz1 ?_))
  all_goals first | (simp [Value.oneCell']; done) | skip
  intro v2 w2 hB2 hg2 hb2 hs2 _
  have HE2 : Hid (Ext w w2) := Below.trans HE1.out hb2
  have HB2 := Lib.hid hB2
  have hlt2 := HB2.out.lt
  clear hB2 hg2 hb2 hs2 HB1 HLL
  go_wp2_with fail
  refine (HS2.out _ HE2.out).mono ?_
  rintro e w3 ⟨rb, lb, rfl, hrb, hE3⟩
  have HRB := Lib.hid hrb.out
  have HE3 := Lib.hid (Ext.trans HE2.out hE3)
  have HB3 := Lib.hid (Build.ext HB2.out hE3)
  have hlb0 : lb ≠ [] := by
    have h0 := HRB.out.2.1.zero
    intro e
    have e1 := h0.2 e
    have e2 := HRB.out.2.2.1
    rw [e1] at e2
    have hq0 : 0 < lv q := by
      have := HQ.out.ge (by rintro rfl; simp at hq2)
      have := pB_pos (q.length - 1)
      omega
    have := Nat.mul_pos hq0 hf0
    omega
  obtain ⟨gb, cb', hrbs, hgb1, hgb2, hgb3, hgb4⟩ := owns_shape HRB.out.1 (List.length_pos_iff.2 hlb0)
  subst hrbs
  unfold maxLen at hgb4
  have HBL : Hid (2 ≤ lb.length ∧ lb.length ≤ q.length + 1) := by
    refine ⟨?_, HRB.out.2.2.2⟩
    have h1 := Can.length_le HQ.out HRB.out.2.1 (by rw [HRB.out.2.2.1]; exact Nat.le_mul_of_pos_right _ hf0)
    omega
  have HSF : Hid (Safe w3 v2.ownBlock fun W => OwnP w2.heap.size W (.slice (some ⟨gb, 0, none⟩) lb.length cb') lb) := by
    refine Safe.owns HRB.out.1 (.inr ?_)
    intro e
    have := (hlt2 gb e.symm).2
    omega
  obtain ⟨us, -, -, hown3, -⟩ := id HB3.out
  obtain ⟨g2, c2, hv2, hg21, hg22, hg23, hg24⟩ := owns_shape hown3 (by rw [List.length_append]; simp)
  subst hv2
  have hg2w := (hlt2 g2 rfl).2
  have hl2 : (l1 ++ [0]).length = l1.length + 1 := by rw [List.length_append]; rfl
  rw [hl2] at HB3 HSF hg23 ⊢
  have HLL : Hid (p.length ≤ l1.length ∧ l1.length ≤ p.length + 1) := ⟨Can.length_le HP.out HR1.out.2.1 (by rw [HR1.out.2.2.1]; exact Nat.le_mul_of_pos_right _ hf0), HR1.out.2.2.2⟩
  obtain ⟨N, hN⟩ : ∃ N, N = l1.length + 1 := ⟨_, rfl⟩
  rw [← hN] at HB3 HSF hg23 ⊢
  have HN := Lib.hid hN
  have hNp : p.length < N := by have := HLL.out.1; omega
  have hNp2 : N ≤ p.length + 2 := by have := HLL.out.2; omega
  obtain ⟨n, hn⟩ : ∃ n, n = lb.length := ⟨_, rfl⟩
  rw [← hn] at HSF hgb3 ⊢
  have HNB := Lib.hid hn
  have hn2 : 2 ≤ n := by have := HBL.out.1; omega
  have hnN : n ≤ N := by have := HBL.out.2; omega
  have HO3 := Lib.hid (Build.ownP HB3.out)
  clear hown3 us hrb hE3 HS2 HB2 hlt2 hlb0 hl2 hN hn HBL HLL HB3 HE1 HE2
  unfold maxLen at hg24
  go_wp2_with fail
  go_loopw [7] (fun av wr => av = .slice (some ⟨g2, 0, none⟩) N c2 ∧ Hid (wr = w3)) (fun av _ => 0)
  case atStart => exact ⟨rfl, rfl⟩
  case round =>
    obtain ⟨rfl, HW⟩ := hrel
    obtain rfl := HW.out
    have hlt : ¬ N ≤ p.length := by omega
    obtain ⟨M, hM⟩ : ∃ M, M = N - n := ⟨_, rfl⟩
    have hMi : (N : Int) - (n : Int) = (M : Int) := by omega
    have hMb : M ≤ 40002 := by omega
    have HM := Lib.hid hM
    clear hM HW
    obtain ⟨w3, rfl⟩ : ∃ w3 : World, w3 = wr := ⟨_, rfl⟩
    go_wp2_with (at_make; refine wpList_make_full _ rfl _ _ 152 rfl w3.heap.size 147 i0 (.int .u64 0) 1 Tryz.underlying152 HI.out HZ0.out HZ1.out _ _ _ _ M rfl rfl rfl rfl ?c1 ?c2 ?c3 ?_)
    case c1 => rw [HZ2.out]; omega
    case c2 => unfold maxLen; omega
    case c3 => exact Nat.le_refl _
    intro w4 hown hgrow
    have hE4 := ext_grown hgrow
    have HOO := Lib.hid (OwnP.made hown)
    have HOA := Lib.hid (HO3.out.ext hE4)
    have HE4 := Lib.hid (Ext.trans HE3.out hE4)
    have hgo : w3.heap.size < w4.heap.size := (hown.lt w3.heap.size rfl).2
    have HBQ : Hid (∀ w', GrownS (fun k => k = g2 ∨ k = w3.heap.size) w4 w' → OwnP w2.heap.size w' (.slice (some ⟨gb, 0, none⟩) n cb') lb) := by
      intro w' hg
      have h := (HRB.out.1.ext hE4)
      rw [← HNB.out] at h
      exact h.grownS hg (by rintro (h1 | h1) <;> omega)
    have HD0 : Hid (DivI N n (lv lb) (lv p * f) M (l1 ++ [0]) (List.replicate M 0)) := by
      unfold Hid
      rw [HM.out]
      refine DivI.start (HR1.out.2.1.1.append (Pcs.cons (by omega) Pcs.nil)) (by rw [List.length_append, HN.out]; rfl) hnN (by omega) ?_ ?_ ?_
      · rw [HN.out]; simp
      · rw [HNB.out]; exact HRB.out.2.1.ge (by rintro e; rw [e] at HNB; have := HNB.out; simp at this; omega)
      · rw [lv_append, HR1.out.2.2.1, lv_cons, lv_nil]; simp
    clear hown hgrow hE4 HO3 HSF
    have hg2n : w.heap.size ≤ g2 := hg21
    have hnn : n ≤ N := hnN
    go_wp2_with fail
    go_loopw [11] (fun i wr => ∃ (y : Int) (A O : List Nat), i = .int .i64 y ∧ y < M ∧ -2 < y ∧ Hid (GrownS (fun k => k = g2 ∨ k = w3.heap.size) w4 wr) ∧ Hid (OwnP w.heap.size wr (.slice (some ⟨g2, 0, none⟩) N c2) A) ∧ Hid (OwnP w3.heap.size wr (.slice (some ⟨w3.heap.size, 0, none⟩) M M) O) ∧ Hid (∃ k : Nat, y + 1 = k ∧ DivI N n (lv lb) (lv p * f) k A O)) (fun i _ => (intOf i + 1).toNat)
    case atStart => exact ⟨_, _, _, rfl, by omega, by omega, GrownS.refl _ _, HOA.out, HOO.out, ⟨M, by omega, HD0.out⟩⟩
    case round =>
      obtain ⟨y, A, O, rfl, hy1, hy2, HG, HA, HO, HD⟩ := hrel
      obtain ⟨wo, rfl⟩ : ∃ wo : World, wo = wr := ⟨_, rfl⟩
      clear HD0 HOO HOA
      by_cases hy0 : 0 ≤ y
      · obtain ⟨j, rfl⟩ : ∃ j : Nat, y = j := ⟨y.toNat, by omega⟩
        have HDJ : Hid (DivI N n (lv lb) (lv p * f) (j + 1) A O) := by
          obtain ⟨k, e, h⟩ := HD.out
          have : k = j + 1 := by omega
          rw [this] at h; exact h
        have hjn : j + n < N := by have := HM.out; omega
        obtain ⟨e0, he0⟩ : ∃ e0, e0 = j + n := ⟨_, rfl⟩
        obtain ⟨e1, he1⟩ : ∃ e1, e1 = j + n - 1 := ⟨_, rfl⟩
        obtain ⟨e2, he2⟩ : ∃ e2, e2 = j + n - 2 := ⟨_, rfl⟩
        obtain ⟨b1, hb1⟩ : ∃ b1, b1 = n - 1 := ⟨_, rfl⟩
        obtain ⟨b2, hb2⟩ : ∃ b2, b2 = n - 2 := ⟨_, rfl⟩
        obtain ⟨a0, ha0⟩ : ∃ a0, A[e0]? = some a0 := ⟨_, List.getElem?_eq_getElem (by rw [HDJ.out.la]; omega)⟩
        obtain ⟨a1, ha1⟩ : ∃ a1, A[e1]? = some a1 := ⟨_, List.getElem?_eq_getElem (by rw [HDJ.out.la]; omega)⟩
        obtain ⟨a2, ha2⟩ : ∃ a2, A[e2]? = some a2 := ⟨_, List.getElem?_eq_getElem (by rw [HDJ.out.la]; omega)⟩
        obtain ⟨tt, htt⟩ : ∃ tt, lb[b1]? = some tt := ⟨_, List.getElem?_eq_getElem (by have := HNB.out; omega)⟩
        obtain ⟨ss, hss⟩ : ∃ ss, lb[b2]? = some ss := ⟨_, List.getElem?_eq_getElem (by have := HNB.out; omega)⟩
        obtain ⟨z, hz⟩ : ∃ z, O[j]? = some z := ⟨_, List.getElem?_eq_getElem (by rw [HDJ.out.lo]; omega)⟩
        have HKN : Hid (KnuthR (lv (A.drop j)) (lv lb) tt ss (a0 * 1000000000 + a1) a2) := HDJ.out.knuth (m := b2) HRB.out.2.1 HNB.out.symm (by omega) rfl hjn (by rw [show b2 + 1 = b1 by omega]; exact htt) hss (by rw [← he0]; exact ha0) (by rw [← he1]; exact ha1) (by rw [← he2]; exact ha2)
        have c0 := (HA.out.get ha0).1
        have c1 := (HA.out.get ha1).1
        have c2' := (HA.out.get ha2).1
        have hbq := HBQ.out _ HG.out
        have ct := (hbq.get htt).1
        have cs := (hbq.get hss).1
        have hi0 : (j : Int) + (n : Int) = (e0 : Int) := by omega
        have hi1 : (e0 : Int) - 1 = (e1 : Int) := by omega
        have hi2 : (e0 : Int) - 2 = (e2 : Int) := by omega
        have hi3 : (n : Int) - 1 = (b1 : Int) := by omega
        have hi4 : (n : Int) - 2 = (b2 : Int) := by omega
        have hk0 : e0 < N := by omega
        have hk1 : e1 < N := by omega
        have hk2 : e2 < N := by omega
        have hk3 : b1 < n := by omega
        have hk4 : b2 < n := by omega
        have hp0 := HDJ.out.pa.get ha0
        have hp1 := HDJ.out.pa.get ha1
        have hp2 := HDJ.out.pa.get ha2
        have hpt := HRB.out.2.1.1.get htt
        have hps := HRB.out.2.1.1.get hss
        have htt0 := HKN.out.ht
        obtain ⟨hg, hhg⟩ : ∃ hg, hg = a0 * 1000000000 + a1 := ⟨_, rfl⟩
        rw [← hhg] at HKN
        have hhi : (a0 : Int) * 1000000000 + (a1 : Int) = (hg : Int) := by omega
        have hhb : hg < 1000000000000000000 := by omega
        have HGS := Lib.hid (Guess.start HKN.out)
        obtain ⟨gg, hgg⟩ : ∃ gg, gg = hg / tt := ⟨_, rfl⟩
        obtain ⟨rr, hrr⟩ : ∃ rr, rr = hg % tt := ⟨_, rfl⟩
        rw [← hgg, ← hrr] at HGS
        have hgi : (hg : Int) / (tt : Int) = (gg : Int) := by rw [hgg]; exact (Int.natCast_ediv _ _).symm
        have hri : (hg : Int) % (tt : Int) = (rr : Int) := by rw [hrr]; exact (Int.natCast_emod _ _).symm
        have hggb : gg ≤ hg := by rw [hgg]; exact Nat.div_le_self _ _
        have hrrb : rr < tt := by rw [hrr]; exact Nat.mod_lt _ htt0
        have htz : ((tt : Int) == 0) = false := by rw [beq_eq_false_iff_ne]; omega
        have htz2 : ¬ (tt : Int) = 0 := by omega
        have HZ := Lib.hid hz
        have HI0 : Hid (e0 = j + n ∧ e2 = j + n - 2 ∧ b2 = n - 2) := ⟨he0, he2, hb2⟩
        clear ha0 ha1 ha2 htt hss hbq he0 he1 he2 hb1 hb2 hhg hgg hrr hz
        go_wp2_with fail
        go_quiet (fail)
        go_wp2_with fail
        go_quiet (fail)
        go_wp2_with fail
        have HGB : Hid (∀ W, GrownS (fun k => k = g2 ∨ k = w3.heap.size) w4 W → PcsAt W (.slice (some ⟨gb, 0, none⟩) n cb') lb) := by
          intro W hW
          have := (HBQ.out W hW).at
          exact this
        go_loopw [13, 14] (fun gv rv wr => ∃ g r : Nat, gv = .int .u64 g ∧ rv = .int .u64 r ∧ g ≤ hg ∧ r ≤ hg ∧ Hid (Guess (lv (A.drop j)) (lv lb) tt hg g r) ∧ Hid (Ext wo wr)) (fun gv _ _ => (intOf gv).toNat)
        case atStart => exact ⟨gg, rr, rfl, by rw [hri], hggb, by have := HGS.out.eq; omega, HGS.out, by first | exact Ext.drewN _ _ | exact Ext.draws (Ext.drewN _ _) _⟩
        case round =>
          obtain ⟨g, r, rfl, rfl, hgh, hrh, HGU, HEq⟩ := hrel
          obtain ⟨wq, rfl⟩ : ∃ wq : World, wq = wr := ⟨_, rfl⟩
          have d2 := HEq.out.cell c2'
          have dt := HEq.out.cell ct
          have ds := HEq.out.cell cs
          clear HGS hgi hri hggb hrrb c0 c1 c2' ct cs
          obtain ⟨x1, hx1⟩ : ∃ x1, x1 = g * ss := ⟨_, rfl⟩
          have hx1i : (g : Int) * (ss : Int) = (x1 : Int) := by rw [hx1]; exact (Int.natCast_mul _ _).symm
          obtain ⟨x2, hx2⟩ : ∃ x2, x2 = r * 1000000000 + a2 := ⟨_, rfl⟩
          have hx2i : (r : Int) * 1000000000 + (a2 : Int) = (x2 : Int) := by omega
          have HX1 : Hid (g < 1000000000 → x1 < 1000000000000000000) := by
            intro h
            have := Nat.mul_le_mul (show g ≤ 999999999 by omega) (show ss ≤ 999999999 by omega)
            omega
          by_cases hgo : 1000000000 ≤ g ∨ (r < 1000000000 ∧ x2 < x1)
          · have HL := Lib.hid (HGU.out.less HKN.out (by rw [← hx1, ← hx2]; omega))
            have hg0 : 0 < g := HL.out.2
            obtain ⟨g', hg'⟩ : ∃ g', g' = g - 1 := ⟨_, rfl⟩
            have hg'i : (g : Int) - 1 = (g' : Int) := by omega
            have hg'b : g' < g := by omega
            have HL2 : Hid (Guess (lv (A.drop j)) (lv lb) tt hg g' (r + tt)) := by unfold Hid; rw [hg']; exact HL.out.1
            have hrt : r + tt ≤ hg := by
              have := HL2.out.eq
              omega
            clear HL hg'
            have hcs : 1000000000 ≤ g ∨ (g < 1000000000 ∧ r < 1000000000 ∧ x2 < x1) := by omega
            clear hgo hx1 hx2
            rcases hcs with hb1 | ⟨hb1, hb2, hb3⟩
            · have q1 : decide ((1000000000 : Int) ≤ (g : Int)) = true := decide_eq_true (by omega)
              have q2 : decide (1000000000 ≤ g) = true := decide_eq_true hb1
              clear hx1i hx2i
              go_wp2_with fail
              go_quiet (fail)
              go_wp2_with fail
              go_roundw
              case rel => exact ⟨g', r + tt, rfl, by first | rfl | go_num, by omega, hrt, HL2.out, Ext.draws HEq.out _⟩
              case measure => simp [intOf]; omega
            · have q1 : decide ((1000000000 : Int) ≤ (g : Int)) = false := decide_eq_false (by omega)
              have q2 : decide (1000000000 ≤ g) = false := decide_eq_false (by omega)
              have q3 : decide ((r : Int) < (1000000000 : Int)) = true := decide_eq_true (by omega)
              have q4 : decide (r < 1000000000) = true := decide_eq_true hb2
              have q5 : decide (x2 < x1) = true := decide_eq_true hb3
              have hx1b := HX1.out hb1
              go_wp2_with fail
              go_quiet (fail)
              go_wp2_with fail
              go_roundw
              case rel => exact ⟨g', r + tt, rfl, by first | rfl | go_num, by omega, hrt, HL2.out, Ext.draws HEq.out _⟩
              case measure => simp [intOf]; omega
          · have hcs : (g < 1000000000 ∧ 1000000000 ≤ r) ∨ (g < 1000000000 ∧ r < 1000000000 ∧ x1 ≤ x2) := by omega
            have hgb : g < 1000000000 := by omega
            have HGE := Lib.hid HGU.out.ge
            have HLE : Hid (g ≤ lv (A.drop j) / lv lb + 1) := HGU.out.done HKN.out hgb (by rw [← hx1, ← hx2]; omega)
            have hx1b := HX1.out hgb
            have hjl : j + lb.length < A.length := by rw [HDJ.out.la, ← HNB.out]; exact hjn
            have HTK : Hid (∀ W, Ext wo W → Calls Tryz.prog 134 #[.slice (some ⟨g2, 0, none⟩) N c2, .slice (some ⟨gb, 0, none⟩) n cb', .int .u64 g, .int .i64 j] W fun e w' => ∃ L b, e = .returned (.bool (decide (0 < b))) ∧ OwnP w.heap.size w' (.slice (some ⟨g2, 0, none⟩) N c2) L ∧ TakeR A lb g j L b ∧ GrownS (· = g2) W w') := by
              intro W hW
              have := take_any w.heap.size A lb g j g2 c2 (.slice (some ⟨gb, 0, none⟩) n cb') W (by rw [HDJ.out.la]; exact HA.out.ext hW) (fun w' hg => HGB.out w' ((HG.out.trans (hW.grownS _)).trans (hg.weak fun k _ hk => .inl hk))) HDJ.out.pa HRB.out.2.1.1 hgb hjl (by rw [HDJ.out.la]; omega)
              rw [HDJ.out.la] at this
              exact this
            have HBK : Hid (∀ W A', A'.length = N → Pcs A' → OwnP w.heap.size W (.slice (some ⟨g2, 0, none⟩) N c2) A' → GrownS (fun k => k = g2 ∨ k = w3.heap.size) w4 W → Calls Tryz.prog 132 #[.slice (some ⟨g2, 0, none⟩) N c2, .slice (some ⟨gb, 0, none⟩) n cb', .int .i64 j] W fun e w' => ∃ L c, e = .returned (.tuple #[]) ∧ OwnP w.heap.size w' (.slice (some ⟨g2, 0, none⟩) N c2) L ∧ BackR A' lb j L c ∧ GrownS (· = g2) W w') := by
              intro W A' hl hp' ho hW
              have := back_any w.heap.size A' lb j g2 c2 (.slice (some ⟨gb, 0, none⟩) n cb') W (by rw [hl]; exact ho) (fun w' hg => HGB.out w' (hW.trans (hg.weak fun k _ hk => .inl hk))) hp' HRB.out.2.1.1 (by rw [hl, ← HNB.out]; exact hjn) (by rw [hl]; omega)
              rw [hl] at this
              exact this
            clear hgo hx1 hx2 hjl
            rcases hcs with ⟨hb1, hb2⟩ | ⟨hb1, hb2, hb3⟩
            case' inl =>
              have q1 : decide ((1000000000 : Int) ≤ (g : Int)) = false := decide_eq_false (by omega)
              have q2 : decide (1000000000 ≤ g) = false := decide_eq_false (by omega)
              have q3 : decide ((r : Int) < (1000000000 : Int)) = false := decide_eq_false (by omega)
              have q4 : decide (r < 1000000000) = false := decide_eq_false (by omega)
              have q5 : True := trivial
            case' inr =>
              have q1 : decide ((1000000000 : Int) ≤ (g : Int)) = false := decide_eq_false (by omega)
              have q2 : decide (1000000000 ≤ g) = false := decide_eq_false (by omega)
              have q3 : decide ((r : Int) < (1000000000 : Int)) = true := decide_eq_true (by omega)
              have q4 : decide (r < 1000000000) = true := decide_eq_true (by omega)
              have q5 : decide (x2 < x1) = false := decide_eq_false (by omega)
            all_goals
              go_wp2_with fail
              go_quiet (fail)
              go_wp2_with fail
              refine (HTK.out _ (Ext.draws HEq.out _)).mono ?_
              rintro e w6 ⟨A', bo, rfl, ho6, hT, hg6⟩
              have HT := Lib.hid hT
              have HG6 := Lib.hid ((HG.out.trans ((Ext.draws HEq.out _).grownS _)).trans (hg6.weak fun k _ hk => Or.inl hk))
              have hne1 : ¬ w3.heap.size = g2 := by omega
              have hne2 : ¬ g2 = w3.heap.size := by omega
              have HO6 := Lib.hid ((HO.out.ext (Ext.draws HEq.out _)).grownS hg6 hne1)
              have HA6 := Lib.hid ho6
              have HBO : Hid (bo ≤ 1) := hT.le
              clear ho6 hT hg6 HTK d2 dt ds q1 q2 q3 q4 q5 hx1i hx2i
              match bo, HBO with
              | 0, _ =>
                have HD6 := Lib.hid (HDJ.out.no HT.out HNB.out.symm rfl hjn HGE.out hgb)
                obtain ⟨cz, fz⟩ := HO6.out.get HZ.out
                have HO7 := Lib.hid (HO6.out.set j g)
                have HA7 := Lib.hid (HA6.out.grownS ((GrownS.refl (· = w3.heap.size) w6).store rfl j (.int .u64 g)) hne2)
                have HG7 := Lib.hid (HG6.out.store (.inr rfl) j (.int .u64 g))
                have HD7 : Hid (∃ k : Nat, ((j : Int) - 1) + 1 = k ∧ DivI N n (lv lb) (lv p * f) k A' (O.set j g)) := ⟨j, by omega, HD6.out⟩
                clear HBK HD6 HO6 HA6 HG6 HBO
                go_wp2_with fail
                go_roundw
                case rel => exact ⟨_, A', O.set j g, rfl, by omega, by omega, HG7.out, HA7.out, HO7.out, HD7.out⟩
                case measure => simp [intOf]
              | 1, _ =>
                have hg0 : 0 < g := take_pos HT.out (by rw [HDJ.out.la, ← HNB.out]; exact hjn)
                obtain ⟨g', hg'⟩ : ∃ g', g' = g - 1 := ⟨_, rfl⟩
                have hg'i : (g : Int) - 1 = (g' : Int) := by omega
                have hg'b : g' < 1000000000 := by omega
                have HGP := Lib.hid hg'
                have HBB := Lib.hid (HBK.out _ A' (HT.out.len.trans HDJ.out.la) HT.out.pcs HA6.out HG6.out)
                clear hg' HBK HBO
                go_wp2_with fail
                refine HBB.out.mono ?_
                rintro e w7 ⟨A'', co, rfl, ho7, hB, hg7⟩
                have HD6 := Lib.hid (HDJ.out.back HT.out hB HNB.out.symm HRB.out.2.1.1 rfl hjn HLE.out hgb).2
                rw [← HGP.out] at HD6
                have HG7 := Lib.hid (HG6.out.trans (hg7.weak fun k _ hk => Or.inl hk))
                have HO7 := Lib.hid (HO6.out.grownS hg7 hne1)
                have HA7 := Lib.hid ho7
                clear hB ho7 hg7 HBB HO6 HA6 HG6
                obtain ⟨cz, fz⟩ := HO7.out.get HZ.out
                have HO8 := Lib.hid (HO7.out.set j g')
                have HA8 := Lib.hid (HA7.out.grownS ((GrownS.refl (· = w3.heap.size) w7).store rfl j (.int .u64 g')) hne2)
                have HG8 := Lib.hid (HG7.out.store (.inr rfl) j (.int .u64 g'))
                have HD7 : Hid (∃ k : Nat, ((j : Int) - 1) + 1 = k ∧ DivI N n (lv lb) (lv p * f) k A'' (O.set j g')) := ⟨j, by omega, HD6.out⟩
                clear HD6 HO7 HA7 HG7
                go_wp2_with fail
                go_roundw
                case rel => exact ⟨_, A'', O.set j g', rfl, by omega, by omega, HG8.out, HA8.out, HO8.out, HD7.out⟩
                case measure => simp [intOf]
              | bo + 2, h => exact absurd h.out (by omega)
      · have HDZ : Hid (DivI N n (lv lb) (lv p * f) 0 A O) := by
          obtain ⟨k, e, h⟩ := HD.out
          have : k = 0 := by omega
          rw [this] at h; exact h
        have HTA := Lib.hid (trim_any w.heap.size A _ wo HA.out HDZ.out.pa)
        have HEW : Hid (Ext w wo) := Below.trans HE4.out (HG.out.belowE (B := w.heap.size) (by rintro k (hk | hk) <;> omega) HE4.out.size)
        have hv := HDZ.out.val
        have hl := HDZ.out.lt
        rw [List.drop_zero, pB_zero, Nat.one_mul] at hv
        rw [List.drop_zero] at hl
        have hq0 : 0 < lv q := by
          have := HQ.out.ge (by rintro rfl; simp at hq2)
          have := pB_pos (q.length - 1)
          omega
        have HEND := Lib.hid (div_end rfl HRB.out.2.2.1 hq0 hf0 hv hl)
        clear hv hl
        go_wp2_with fail
        refine HTA.out.mono ?_
        rintro e w5 ⟨ra, la, rfl, hra, kk, rfl⟩
        have HRA := Lib.hid hra.out
        have HSM := Lib.hid (small_any la f ra _ HRA.out.1.at HRA.out.2.1.1 hfb hf0 (by have := HRA.out.2.2.2; rw [HDZ.out.la] at this; omega))
        clear hra HTA
        go_wp2_with fail
        refine HSM.out.mono ?_
        rintro e w6 ⟨rs, ls, rfl, hrs, hE6⟩
        have HRS := Lib.hid hrs.out
        have HE6 := Lib.hid (Ext.trans (Ext.draws HEW.out kk) hE6)
        have HO6 := Lib.hid (HO.out.ext (Ext.trans (Ext.drewN wo kk) hE6))
        have HTO := Lib.hid (trim_any w3.heap.size O _ w6 HO6.out HDZ.out.po)
        clear hrs HSM
        go_wp2_with fail
        refine HTO.out.mono ?_
        rintro e w7 ⟨rt, lt', rfl, hrt, k7, rfl⟩
        have HRT := Lib.hid hrt.out
        clear hrt HTO
        go_wp2_with fail
        go_ret2
        refine ⟨rt, lt', rs, ls, rfl, ⟨HRT.out.1.base (by omega), HRT.out.2.1, HRT.out.2.2.1.trans HEND.out.1, ?_⟩, ⟨((HRS.out.1.base ?_).ext (Ext.drewN _ _)), HRS.out.2.1, ?_, ?_⟩, Ext.draws HE6.out _⟩
        · have := HRT.out.2.2.2; rw [HDZ.out.lo] at this; omega
        · have := HEW.out.size; simpa using this
        · rw [HRS.out.2.2.1, HRA.out.2.2.1, HEND.out.2, Nat.mul_div_cancel _ hf0]
        · have := HRS.out.2.2.2; have := HRA.out.2.2.2; rw [HDZ.out.la] at this; omega
end Go.Proofs.YtpeinobepiodaaaGreatDoor
