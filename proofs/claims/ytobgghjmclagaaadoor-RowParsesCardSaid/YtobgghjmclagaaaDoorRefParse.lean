/- Parse of the reference of chapter 5. -/
import Derived.Test.YtobgghjmclagaaaDoorParseAll
namespace Go.Proofs.YtobgghjmclagaaaDoor
set_option linter.unusedVariables false
set_option linter.unusedSimpArgs false
open Go.RowKit

/-- The words of what is left of the text, the begun one first. -/
theorem wordsL_cur (l : List UInt8) : ∀ cur : List UInt8, 32 ∉ cur → ∀ pre : List (List UInt8), pre ++ wordsL cur l = pre ++ wordsL [] (cur ++ l) := by
  intro cur hc pre
  have : ∀ (c a : List UInt8), 32 ∉ c → wordsL a (c ++ l) = wordsL (a ++ c) l := by
    intro c
    induction c with
    | nil => intro a _; simp
    | cons x c ih =>
      intro a h
      simp only [List.mem_cons, not_or] at h
      rw [List.cons_append, wordsL_cons, if_neg (fun e => h.1 e.symm), ih _ h.2]
      simp
  rw [this cur [] hc]; simp

/-- What the bytes from f to i of a text are. -/
def cutL (l : List UInt8) (f i : Nat) : List UInt8 := (l.drop f).take (i - f)
theorem cutL_snoc (l : List UInt8) (f i : Nat) (c : UInt8) (hf : f ≤ i) (hc : l[i]? = some c) : cutL l f (i + 1) = cutL l f i ++ [c] := by
  unfold cutL
  rw [show i + 1 - f = (i - f) + 1 by omega, List.take_add_one, List.getElem?_drop, show f + (i - f) = i by omega, hc]; rfl
theorem cutL_self (l : List UInt8) (f : Nat) : cutL l f f = [] := by unfold cutL; simp
theorem cutL_extract (s : ByteArray) (f i : Nat) : s.extract f i = strL (cutL s.data.toList f i) := by
  unfold cutL
  have := Lib.extract_data s f i
  rw [← strL_self (s.extract f i), this]

/-- Where the reading stands: the words read, the begun one, what is left. -/
def AtS (l : List UInt8) (n f i : Nat) (ws : List (List UInt8)) : Prop :=
  f ≤ i ∧ wordsL [] (cutL l 1 (n - 1)) = ws ++ wordsL (cutL l f i) (cutL l i (n - 1)) ∧ ws.all canonS = true ∧ ws.length < i
theorem AtS.start (l : List UInt8) (n : Nat) : AtS l n 1 1 [] := ⟨Nat.le_refl _, by rw [cutL_self]; rfl, rfl, by simp⟩
theorem cutL_step (l : List UInt8) (i m : Nat) (c : UInt8) (hc : l[i]? = some c) (h : i < m) : cutL l i m = c :: cutL l (i + 1) m := by
  unfold cutL
  rw [show m - i = (m - (i + 1)) + 1 by omega, List.drop_eq_getElem?_toList_append, hc]
  rfl
theorem AtS.go {l : List UInt8} {n f i : Nat} {ws : List (List UInt8)} {c : UInt8} (h : AtS l n f i ws) (hc : l[i]? = some c) (h32 : c ≠ 32) (hi : i < n - 1) : AtS l n f (i + 1) ws := by
  obtain ⟨h1, h2, h3, h4⟩ := h
  refine ⟨by omega, ?_, h3, by omega⟩
  rw [h2, cutL_step l i (n - 1) c hc hi, wordsL_cons, if_neg h32, cutL_snoc l f i c h1 hc]
theorem AtS.word {l : List UInt8} {n f i : Nat} {ws : List (List UInt8)} (h : AtS l n f i ws) (hc : l[i]? = some 32) (hi : i < n - 1) (hw : canonS (cutL l f i) = true) : AtS l n (i + 1) (i + 1) (ws ++ [cutL l f i]) := by
  obtain ⟨h1, h2, h3, h4⟩ := h
  refine ⟨by omega, ?_, by rw [List.all_append, h3]; simp [hw], by simp; omega⟩
  rw [h2, cutL_step l i (n - 1) 32 hc hi, wordsL_cons, if_pos rfl, cutL_self]
  simp
theorem AtS.bad {l : List UInt8} {n f i : Nat} {ws : List (List UInt8)} (h : AtS l n f i ws) (hc : l[i]? = some 32 ∨ i = n - 1) (hi : i ≤ n - 1) (hw : canonS (cutL l f i) = false) : (wordsL [] (cutL l 1 (n - 1))).all canonS = false := by
  obtain ⟨h1, h2, h3, h4⟩ := h
  have : ∃ r, wordsL (cutL l f i) (cutL l i (n - 1)) = cutL l f i :: r := by
    by_cases he : i = n - 1
    · exact ⟨[], by rw [← he, cutL_self]; rfl⟩
    · rcases hc with hc | hc
      · exact ⟨_, by rw [cutL_step l i (n - 1) 32 hc (by omega), wordsL_cons, if_pos rfl]⟩
      · exact absurd hc he
  obtain ⟨r, hr⟩ := this
  rw [h2, hr, List.all_append, List.all_cons, hw]; simp
theorem AtS.last {l : List UInt8} {n f i : Nat} {ws : List (List UInt8)} (h : AtS l n f i ws) (hi : i = n - 1) (hw : canonS (cutL l f i) = true) : wordsL [] (cutL l 1 (n - 1)) = ws ++ [cutL l f i] ∧ (ws ++ [cutL l f i]).all canonS = true := by
  obtain ⟨h1, h2, h3, h4⟩ := h
  refine ⟨?_, by rw [List.all_append, h3]; simp [hw]⟩
  rw [h2, ← hi, cutL_self]; rfl

/-- The bounds that a list of words keeps. -/
def limB (ws : List (List UInt8)) : Bool := ws.any fun w => !valOk w
theorem limB_snoc (ws : List (List UInt8)) (w : List UInt8) : limB (ws ++ [w]) = (limB ws || !valOk w) := by simp [limB]
theorem lim_rowE (ws : List (List UInt8)) (hc : ws.all canonS = true) : (limB ws || decide (64 < ws.length)) = !decide (rowE (ws.map numS) = 0) := by
  rw [Bool.eq_iff_iff, Bool.or_eq_true, decide_eq_true_iff, Bool.not_eq_true', decide_eq_false_iff_not, rowE_zero]
  unfold okRow limB
  rw [List.all_eq_true] at hc
  constructor
  · rintro (h | h)
    · obtain ⟨x, hx, hv⟩ := List.any_eq_true.1 h
      rintro ⟨-, h2⟩
      rw [valOk_iff (hc x hx)] at hv
      have := (fitB_iff _).2 (h2 (numS x) (List.mem_map.2 ⟨x, hx, rfl⟩))
      rw [this] at hv; simp at hv
    · rintro ⟨h1, -⟩
      rw [List.length_map] at h1; omega
  · intro h
    by_cases hl : 64 < ws.length
    · exact .inr hl
    · left
      rw [List.any_eq_true]
      false_or_by_contra
      rename_i hn
      refine h ⟨by rw [List.length_map]; omega, fun y hy => ?_⟩
      obtain ⟨x, hx, rfl⟩ := List.mem_map.1 hy
      false_or_by_contra
      rename_i hb
      exact hn ⟨x, hx, by rw [valOk_iff (hc x hx), Bool.not_eq_true', ← Bool.not_eq_true, fitB_iff]; exact hb⟩
theorem vals_ok (ws : List (List UInt8)) (hl : limB ws = false) : ws.map valR = ws.map numS := by
  refine List.map_congr_left fun x hx => valR_ok ?_
  unfold limB at hl
  rw [List.any_eq_false] at hl
  simpa using hl x hx
theorem valR_bd (w : List UInt8) (h : canonS w = true) : -9223372036854775808 ≤ valR w ∧ valR w ≤ 9223372036854775807 := by
  unfold valR
  split
  · omega
  · rename_i hl
    rcases canonS_cases h with ⟨r, rfl, hne, hd, h0⟩ | ⟨c, r, rfl, h45, h43, hd, h0⟩
    · have h1 := decV_lt r 0 hd
      have h2 : 10 ^ r.length ≤ 10 ^ 11 := Nat.pow_le_pow_right (by omega) (by simp at hl; omega)
      have h4 : (10 : Nat) ^ 11 = 100000000000 := by decide
      obtain ⟨P, hP⟩ : ∃ P, P = 10 ^ r.length := ⟨_, rfl⟩
      rw [← hP] at h1 h2
      rw [numS_minus]; omega
    · have h1 := decV_lt (c :: r) 0 hd
      have h2 : 10 ^ (c :: r).length ≤ 10 ^ 11 := Nat.pow_le_pow_right (by omega) (by omega)
      have h4 : (10 : Nat) ^ 11 = 100000000000 := by decide
      obtain ⟨P, hP⟩ : ∃ P, P = 10 ^ (c :: r).length := ⟨_, rfl⟩
      rw [← hP] at h1 h2
      rw [numS_other h45]; omega

theorem parseS_ends (c : UInt8) (r : List UInt8) (hr : r ≠ []) : r.getLast? = (c :: r)[(c :: r).length - 1]? ∧ r.dropLast = cutL (c :: r) 1 ((c :: r).length - 1) := by
  have hl := List.length_pos_iff.2 hr
  refine ⟨?_, ?_⟩
  · rw [List.getLast?_eq_getElem?, List.length_cons, Nat.add_sub_cancel]
    obtain ⟨m, hm⟩ : ∃ m, r.length = m + 1 := ⟨r.length - 1, by omega⟩
    rw [hm, List.getElem?_cons_succ]; rfl
  · unfold cutL
    rw [List.drop_succ_cons, List.drop_zero, List.length_cons, Nat.add_sub_cancel, List.dropLast_eq_take]
theorem parseS_ket (l : List UInt8) (h2 : 2 ≤ l.length) (hl : l.length ≤ 65536) (h0 : l[0]? = some 91) (h1 : l[l.length - 1]? = some 62) : parseS l = parseIn (cutL l 1 (l.length - 1)) true := by
  cases l with
  | nil => simp at h2
  | cons c r =>
    have hr : r ≠ [] := by intro e; subst e; simp at h2
    obtain ⟨e1, e2⟩ := parseS_ends c r hr
    simp only [List.getElem?_cons_zero, Option.some.injEq] at h0
    subst h0
    unfold parseS
    rw [if_neg (by omega)]
    show (if r.getLast? = some 62 then _ else _) = _
    rw [if_pos (by rw [e1]; exact h1), e2]
theorem parseS_bra (l : List UInt8) (h2 : 2 ≤ l.length) (hl : l.length ≤ 65536) (h0 : l[0]? = some 60) (h1 : l[l.length - 1]? = some 93) : parseS l = parseIn (cutL l 1 (l.length - 1)) false := by
  cases l with
  | nil => simp at h2
  | cons c r =>
    have hr : r ≠ [] := by intro e; subst e; simp at h2
    obtain ⟨e1, e2⟩ := parseS_ends c r hr
    simp only [List.getElem?_cons_zero, Option.some.injEq] at h0
    subst h0
    unfold parseS
    rw [if_neg (by omega)]
    show (if r.getLast? = some 93 then _ else _) = _
    rw [if_pos (by rw [e1]; exact h1), e2]
theorem parseS_wrong (l : List UInt8) (hl : l.length ≤ 65536) (h : l.length < 2 ∨ (¬ (l[0]? = some 91 ∧ l[l.length - 1]? = some 62) ∧ ¬ (l[0]? = some 60 ∧ l[l.length - 1]? = some 93))) : parseS l = ([], false, 15) := by
  cases l with
  | nil => rfl
  | cons c r =>
    by_cases hr : r = []
    · subst hr
      by_cases h1 : c = 91
      · subst h1; rfl
      · by_cases h2 : c = 60
        · subst h2; rfl
        · exact parseS_other _ hl (by simpa using h1) (by simpa using h2)
    · obtain ⟨e1, e2⟩ := parseS_ends c r hr
      have hlen := List.length_pos_iff.2 hr
      rcases h with h | ⟨h1, h2⟩
      · simp at h; omega
      · by_cases k1 : c = 91
        · subst k1
          unfold parseS
          rw [if_neg (by omega)]
          show (if r.getLast? = some 62 then _ else _) = _
          rw [if_neg (by rw [e1]; intro e; exact h1 ⟨rfl, e⟩)]
        · by_cases k2 : c = 60
          · subst k2
            unfold parseS
            rw [if_neg (by omega)]
            show (if r.getLast? = some 93 then _ else _) = _
            rw [if_neg (by rw [e1]; intro e; exact h2 ⟨rfl, e⟩)]
          · exact parseS_other _ hl (by simpa using k1) (by simpa using k2)

/-- The state of the reading at the loop's head. -/
def StP (l : List UInt8) (n f i : Nat) (ws : List (List UInt8)) : Prop :=
  (i < n ∧ AtS l n f i ws) ∨ (i = n ∧ wordsL [] (cutL l 1 (n - 1)) = ws ∧ ws.all canonS = true ∧ ws.length < i)
theorem byteq (s : ByteArray) (j : Nat) (h : j < s.size) (c : UInt8) (z : Int) (hz : z = c.toNat) : (((s[j].toNat : Int) == z) = true ↔ s.data.toList[j]? = some c) := by
  rw [bytes_get s j h, hz, beq_iff_eq]
  constructor
  · intro e; rw [show s[j] = c from UInt8.toNat_inj.1 (by omega)]
  · intro e; rw [Option.some.inj e]
theorem byteq_f {s : ByteArray} {j : Nat} (h : j < s.size) {c : UInt8} {z : Int} (hz : z = c.toNat) (hn : s.data.toList[j]? ≠ some c) : ((s[j].toNat : Int) == z) = false := by
  rw [← Bool.not_eq_true, byteq s j h c z hz]; exact hn

set_option maxRecDepth 100000 in
set_option maxHeartbeats 2000000 in
theorem refParse_bad (s : ByteArray) (w : World) (hl : s.size ≤ 65536) (h : s.size < 2 ∨ (¬ (s.data.toList[0]? = some 91 ∧ s.data.toList[s.size - 1]? = some 62) ∧ ¬ (s.data.toList[0]? = some 60 ∧ s.data.toList[s.size - 1]? = some 93))) :
    Calls Tryd.prog 52 #[.string s] w fun e w' => e = .returned (.tuple #[.slice none 0 0, .bool false, .int .i64 15]) ∧ w = w' := by
  by_cases h2 : s.size < 2
  · have h2' : (s.size : Int) < 2 := by omega
    clear h
    go_enter Tryd.func52, Tryd.ntmps52
    go_wp2_with fail
    go_ret3
    exact ⟨rfl, rfl⟩
  · have h2' : ¬ (s.size : Int) < 2 := by omega
    obtain ⟨k1, k2⟩ := h.resolve_left h2
    have hs0 : 0 < s.size := by omega
    have hs1 : s.size - 1 < s.size := by omega
    by_cases c0 : s.data.toList[0]? = some 91
    · have q0 := (byteq s 0 hs0 91 91 rfl).2 c0
      have q1 := byteq_f (s := s) hs1 (c := 62) (z := 62) rfl (fun e => k1 ⟨c0, e⟩)
      have q2 := byteq_f (s := s) hs0 (c := 60) (z := 60) rfl (by rw [c0]; simp)
      clear k1 k2 c0 h h2
      go_enter Tryd.func52, Tryd.ntmps52
      go_wp2_with fail
      go_ret3
      exact ⟨rfl, rfl⟩
    · have q0 := byteq_f (s := s) hs0 (c := 91) (z := 91) rfl c0
      by_cases c1 : s.data.toList[0]? = some 60
      · have q1 := (byteq s 0 hs0 60 60 rfl).2 c1
        have q2 := byteq_f (s := s) hs1 (c := 93) (z := 93) rfl (fun e => k2 ⟨c1, e⟩)
        clear k1 k2 c0 c1 h h2
        go_enter Tryd.func52, Tryd.ntmps52
        go_wp2_with fail
        go_ret3
        exact ⟨rfl, rfl⟩
      · have q1 := byteq_f (s := s) hs0 (c := 60) (z := 60) rfl c1
        clear k1 k2 c0 c1 h h2
        go_enter Tryd.func52, Tryd.ntmps52
        go_wp2_with fail
        go_ret3
        exact ⟨rfl, rfl⟩


set_option maxRecDepth 100000 in
set_option maxHeartbeats 4000000 in
theorem refParse_ket (s : ByteArray) (w : World) (h2 : 2 ≤ s.size) (hl : s.size ≤ 65536) (c0 : s.data.toList[0]? = some 91) (c1 : s.data.toList[s.size - 1]? = some 62) :
    Calls Tryd.prog 52 #[.string s] w (ParseR (parseS s.data.toList) w) := by
  have HS : Hid (parseS s.data.toList = parseIn (cutL s.data.toList 1 (s.size - 1)) true) := by
    have := parseS_ket s.data.toList (by rw [← Lib.size_eq]; exact h2) (by rw [← Lib.size_eq]; exact hl) c0 (by rw [← Lib.size_eq]; exact c1)
    rw [← Lib.size_eq] at this
    exact this
  have h2' : ¬ (s.size : Int) < 2 := by omega
  have hs0 : 0 < s.size := by omega
  have hs1 : s.size - 1 < s.size := by omega
  have q0 := (byteq s 0 hs0 91 91 rfl).2 c0
  have q1 := (byteq s (s.size - 1) hs1 62 62 rfl).2 c1
  have C0 := Lib.hid c0
  clear c0 c1
  by_cases hn : s.size = 2
  · have hn' : ¬ (2 : Int) < (s.size : Int) := by omega
    have HR : Hid (parseS s.data.toList = ([], true, 0)) := by
      unfold Hid; rw [HS.out, hn]; unfold parseIn; rw [if_pos (by unfold cutL; simp)]
    have hn2 : s.size ≤ 2 := by omega
    clear hn
    go_enter Tryd.func52, Tryd.ntmps52
    go_wp2_with fail
    go_loop [2, 6, 8] (fun out lim t => out = .slice none 0 0 ∧ lim = .bool false ∧ t = .int .i64 1) (fun _ _ _ => 0)
    case atStart => exact ⟨rfl, rfl, rfl⟩
    case round =>
      obtain ⟨rfl, rfl, rfl⟩ := hrel
      go_wp2_with fail
      go_quiet (fail)
      go_wp2_with fail
      go_ret3
      rw [HR.out]
      exact ⟨_, _, rfl, ints_none0 _, Ext.drewN _ _⟩
  · have hn' : (2 : Int) < (s.size : Int) := by omega
    have hn2 : 2 < s.size := by omega
    have HV : Hid (parseS s.data.toList = if (wordsL [] (cutL s.data.toList 1 (s.size - 1))).all canonS then (if rowE ((wordsL [] (cutL s.data.toList 1 (s.size - 1))).map numS) = 0 then ((wordsL [] (cutL s.data.toList 1 (s.size - 1))).map numS, true, 0) else ([], false, 4)) else ([], false, 15)) := by
      unfold Hid; rw [HS.out]; unfold parseIn; rw [if_neg]
      intro e
      have := congrArg List.length e
      unfold cutL at this
      rw [List.length_take, List.length_drop, ← Lib.size_eq] at this
      simp at this
      omega
    clear hn
    go_enter Tryd.func52, Tryd.ntmps52
    go_wp2_with fail
    go_loopw [2, 6, 7, 8] (fun out lim fr t wr => ∃ (i f : Nat) (ws : List (List UInt8)), i ≤ s.size ∧ t = .int .i64 i ∧ fr = .int .i64 f ∧ lim = .bool (limB ws) ∧ Ext w wr ∧ Hid (StP s.data.toList s.size f i ws) ∧ Hid (Build wr w.heap.size 3 1 out intC (ws.map valR))) (fun _ _ _ t _ => s.size - (intOf t).toNat)
    case atStart => exact ⟨1, 1, [], by omega, rfl, rfl, rfl, Ext.refl _, .inl ⟨by omega, AtS.start _ _⟩, Build.nil _ _ _ _ _⟩
    case round =>
      obtain ⟨i, f, ws, hi, rfl, rfl, rfl, hE, HST, HB⟩ := hrel
      obtain ⟨wo, rfl⟩ : ∃ wo : World, wo = wr := ⟨_, rfl⟩
      have HE := Lib.hid hE
      clear hE
      by_cases hlt : i < s.size
      · have hat : AtS s.data.toList s.size f i ws := by
          rcases HST.out with ⟨_, h⟩ | ⟨h, _⟩
          · exact h
          · omega
        have HAT := Lib.hid hat
        have hfi : f ≤ i := hat.1
        have hwl : ws.length < i := hat.2.2.2
        clear hat
        by_cases hsp : s.data.toList[i]? ≠ some 32 ∧ i < s.size - 1
        · have q5 : ((s[i].toNat : Int) != 32) = true := by
            rw [bne, byteq_f (s := s) hlt (c := 32) (z := 32) rfl hsp.1]; rfl
          have hi1 : (i : Int) < (s.size : Int) - 1 := by omega
          have hi2 : i < s.size - 1 := hsp.2
          have HN : Hid (AtS s.data.toList s.size f (i + 1) ws) := HAT.out.go (bytes_get s i hlt) (by
            intro e; exact hsp.1 (by rw [bytes_get s i hlt, e])) hsp.2
          clear hsp
          go_wp2_with fail
          go_roundw
          case rel => exact ⟨i + 1, f, ws, by omega, by go_num, rfl, rfl, HE.out, .inl ⟨by omega, HN.out⟩, HB.out⟩
          case measure => simp [intOf]; omega
        · have HC : Hid (s.data.toList[i]? = some 32 ∨ i = s.size - 1) := by
            by_cases h : s.data.toList[i]? = some 32
            · exact .inl h
            · right
              false_or_by_contra
              exact hsp ⟨h, by omega⟩
          clear hsp
          obtain ⟨y, hy⟩ : ∃ y, s.extract f i = y := ⟨_, rfl⟩
          have HY : Hid (y.data.toList = cutL s.data.toList f i) := by unfold Hid; rw [← hy, cutL_extract, strL_data]
          have hys : y.size ≤ 100000 := by
            rw [Lib.size_eq, HY.out]; unfold cutL; rw [List.length_take]; omega
          have HI := Lib.hid (integer_any y wo hys)
          have BODY : ∀ K : Prop, (((s[i].toNat : Int) != 32) = true → ¬ ((i : Int) < (s.size : Int) - 1) → K) → (((s[i].toNat : Int) != 32) = false → K) → K := by
            intro K k1 k2
            cases hq : ((s[i].toNat : Int) != 32) with
            | false => exact k2 hq
            | true =>
              refine k1 hq ?_
              rcases HC.out with h | h
              · exfalso
                have := (byteq s i hlt 32 32 rfl).2 h
                rw [bne, this] at hq; simp at hq
              · omega
          rw [HY.out] at HI
          by_cases hcan : canonS (cutL s.data.toList f i) = true
          · rw [hcan] at HI
            have HVA := Lib.hid (fun W => value_any y W hys (by rw [HY.out]; exact hcan))
            rw [HY.out] at HVA
            have HBD := Lib.hid (valR_bd _ hcan)
            obtain ⟨z, hz⟩ : ∃ z, z = valR (cutL s.data.toList f i) := ⟨_, rfl⟩
            obtain ⟨ok, hok⟩ : ∃ ok, ok = valOk (cutL s.data.toList f i) := ⟨_, rfl⟩
            have HLM : Hid (limB (ws ++ [cutL s.data.toList f i]) = (limB ws || !ok)) := by unfold Hid; rw [limB_snoc, hok]
            have HMP : Hid ((ws ++ [cutL s.data.toList f i]).map valR = ws.map valR ++ [z]) := by unfold Hid; rw [List.map_append, hz]; rfl
            have HNX : Hid (StP s.data.toList s.size (i + 1) (i + 1) (ws ++ [cutL s.data.toList f i])) := by
              by_cases he : i = s.size - 1
              · obtain ⟨e1, e2⟩ := HAT.out.last he hcan
                exact .inr ⟨by omega, e1, e2, by simp; omega⟩
              · exact .inl ⟨by omega, HAT.out.word (HC.out.resolve_right he) (by omega) hcan⟩
            have HJ : Hid ((ws.map valR).length < 1000000) := by unfold Hid; rw [List.length_map]; omega
            rw [← hz, ← hok] at HVA
            rw [← hz] at HBD
            obtain ⟨lb, hlb⟩ : ∃ lb, limB ws = lb := ⟨_, rfl⟩
            rw [hlb] at HLM ⊢
            clear hcan hz hok hlb HC
            refine BODY _ (fun k1 k2 => ?_) (fun k1 => ?_)
            all_goals
              clear BODY
              go_wp2_with fail
              refine HI.out.mono ?_
              rintro e w' ⟨rfl, rfl⟩
              go_wp2_with fail
              refine (HVA.out _).mono ?_
              rintro e w3 ⟨rfl, hE3⟩
              have HE3 := Lib.hid (Ext.trans HE.out hE3)
              have HB3 := Lib.hid (HB.out.ext hE3)
              have hszr := HE3.out.size
              clear hE3 HI HVA
              cases lb
              all_goals cases ok
              all_goals
                go_wp2_with (at_builtin; go_must (refine wpList_append_build _ rfl _ _ 23 rfl w.heap.size 3 (.int .i64 0) 1 8 Tryd.underlying23 infoInt rfl (by decide) u2 intC (ws.map valR) z #[.int .i64 z] 3 rfl HB3.out rfl rfl ?_ (fun _ _ => rfl) HJ.out (by decide) hszr ?_))
                · simp [Value.oneCell']
                intro v' w5 hB5 hg5 hb5 hs5 _
                rw [← HMP.out] at hB5
                have HB5 := Lib.hid hB5
                have HX5 := Lib.hid (Below.trans HE3.out hb5)
                clear hB5 hg5 hb5
                go_wp2_with fail
                go_roundw
                case rel => exact ⟨i + 1, i + 1, _, by omega, by go_num, by go_num, by rw [HLM.out]; rfl, HX5.out, HNX.out, HB5.out⟩
                case measure => simp [intOf]; omega
          · have hcan' : canonS (cutL s.data.toList f i) = false := by simpa using hcan
            rw [hcan'] at HI
            have HR : Hid (parseS s.data.toList = ([], false, 15)) := by
              unfold Hid; rw [HV.out, if_neg]
              rw [HAT.out.bad HC.out (by omega) hcan']; exact Bool.false_ne_true
            clear hcan hcan' HC
            refine BODY _ (fun k1 k2 => ?_) (fun k1 => ?_)
            all_goals
              clear BODY
              go_wp2_with fail
              refine HI.out.mono ?_
              rintro e w' ⟨rfl, rfl⟩
              go_wp2_with fail
              go_ret3
              exact parseR_none HR.out HE.out
      · obtain rfl : i = s.size := by omega
        obtain ⟨hw, hc, -⟩ : wordsL [] (cutL s.data.toList 1 (s.size - 1)) = ws ∧ ws.all canonS = true ∧ ws.length < s.size := by
          rcases HST.out with ⟨h, _⟩ | ⟨_, h⟩
          · omega
          · exact h
        rw [hw, hc] at HV
        have hlr := lim_rowE ws hc
        obtain ⟨a2, c2, hu2⟩ := HB.out.sl
        have hBI := HB.out
        rw [hu2] at hBI
        have hI : Ints wo (.slice a2 (ws.map valR).length c2) (ws.map valR) := Ints.of_owns (Build.ints hBI) (by
          intro x hx
          obtain ⟨y, hy, rfl⟩ := List.mem_map.1 hx
          exact valR_bd y (List.all_eq_true.1 hc y hy))
        rw [List.length_map] at hu2 hI
        subst hu2
        cases hlb : limB ws with
        | true =>
          rw [hlb] at hlr
          have HR : Hid (parseS s.data.toList = ([], false, 4)) := by
            unfold Hid; rw [HV.out, if_pos rfl, if_neg]
            simpa using hlr.symm
          clear hlr hw hc hBI hI
          go_wp2_with fail
          go_ret3
          exact parseR_none HR.out HE.out
        | false =>
          rw [hlb] at hlr
          by_cases h64 : 64 < ws.length
          · have h64' : (64 : Int) < (ws.length : Int) := by omega
            have HR : Hid (parseS s.data.toList = ([], false, 4)) := by
              unfold Hid; rw [HV.out, if_pos rfl, if_neg]
              rw [decide_eq_true h64] at hlr
              simpa using hlr.symm
            clear hlr hw hc hBI hI
            go_wp2_with fail
            go_ret3
            exact parseR_none HR.out HE.out
          · have h64' : ¬ (64 : Int) < (ws.length : Int) := by omega
            have HR : Hid (parseS s.data.toList = (ws.map numS, true, 0)) := by
              unfold Hid; rw [HV.out, if_pos rfl, if_pos]
              rw [decide_eq_false h64] at hlr
              simpa using hlr.symm
            have HI := Lib.hid hI
            have HVO := Lib.hid (vals_ok ws hlb)
            clear hlr hw hc hBI hI hlb
            go_wp2_with fail
            go_quiet (fail)
            go_wp2_with fail
            go_ret3
            rw [HR.out]
            have hI2 := HI.out
            rw [HVO.out] at hI2
            exact ⟨a2, c2, by rw [List.length_map]; rfl, by rw [List.length_map]; exact hI2.ext (Ext.drewN _ _), Ext.draws HE.out _⟩

set_option maxRecDepth 100000 in
set_option maxHeartbeats 4000000 in
theorem refParse_bra (s : ByteArray) (w : World) (h2 : 2 ≤ s.size) (hl : s.size ≤ 65536) (c0 : s.data.toList[0]? = some 60) (c1 : s.data.toList[s.size - 1]? = some 93) :
    Calls Tryd.prog 52 #[.string s] w (ParseR (parseS s.data.toList) w) := by
  have HS : Hid (parseS s.data.toList = parseIn (cutL s.data.toList 1 (s.size - 1)) false) := by
    have := parseS_bra s.data.toList (by rw [← Lib.size_eq]; exact h2) (by rw [← Lib.size_eq]; exact hl) c0 (by rw [← Lib.size_eq]; exact c1)
    rw [← Lib.size_eq] at this
    exact this
  have h2' : ¬ (s.size : Int) < 2 := by omega
  have hs0 : 0 < s.size := by omega
  have hs1 : s.size - 1 < s.size := by omega
  have q0 := byteq_f (s := s) hs0 (c := 91) (z := 91) rfl (by rw [c0]; simp)
  have q1 := (byteq s 0 hs0 60 60 rfl).2 c0
  have q2 := (byteq s (s.size - 1) hs1 93 93 rfl).2 c1
  have C0 := Lib.hid c0
  clear c0 c1
  by_cases hn : s.size = 2
  · have hn' : ¬ (2 : Int) < (s.size : Int) := by omega
    have HR : Hid (parseS s.data.toList = ([], false, 0)) := by
      unfold Hid; rw [HS.out, hn]; unfold parseIn; rw [if_pos (by unfold cutL; simp)]
    have hn2 : s.size ≤ 2 := by omega
    clear hn
    go_enter Tryd.func52, Tryd.ntmps52
    go_wp2_with fail
    go_loop [2, 6, 8] (fun out lim t => out = .slice none 0 0 ∧ lim = .bool false ∧ t = .int .i64 1) (fun _ _ _ => 0)
    case atStart => exact ⟨rfl, rfl, rfl⟩
    case round =>
      obtain ⟨rfl, rfl, rfl⟩ := hrel
      go_wp2_with fail
      go_quiet (fail)
      go_wp2_with fail
      go_ret3
      rw [HR.out]
      exact ⟨_, _, rfl, ints_none0 _, Ext.drewN _ _⟩
  · have hn' : (2 : Int) < (s.size : Int) := by omega
    have hn2 : 2 < s.size := by omega
    have HV : Hid (parseS s.data.toList = if (wordsL [] (cutL s.data.toList 1 (s.size - 1))).all canonS then (if rowE ((wordsL [] (cutL s.data.toList 1 (s.size - 1))).map numS) = 0 then ((wordsL [] (cutL s.data.toList 1 (s.size - 1))).map numS, false, 0) else ([], false, 4)) else ([], false, 15)) := by
      unfold Hid; rw [HS.out]; unfold parseIn; rw [if_neg]
      intro e
      have := congrArg List.length e
      unfold cutL at this
      rw [List.length_take, List.length_drop, ← Lib.size_eq] at this
      simp at this
      omega
    clear hn
    go_enter Tryd.func52, Tryd.ntmps52
    go_wp2_with fail
    go_loopw [2, 6, 7, 8] (fun out lim fr t wr => ∃ (i f : Nat) (ws : List (List UInt8)), i ≤ s.size ∧ t = .int .i64 i ∧ fr = .int .i64 f ∧ lim = .bool (limB ws) ∧ Ext w wr ∧ Hid (StP s.data.toList s.size f i ws) ∧ Hid (Build wr w.heap.size 3 1 out intC (ws.map valR))) (fun _ _ _ t _ => s.size - (intOf t).toNat)
    case atStart => exact ⟨1, 1, [], by omega, rfl, rfl, rfl, Ext.refl _, .inl ⟨by omega, AtS.start _ _⟩, Build.nil _ _ _ _ _⟩
    case round =>
      obtain ⟨i, f, ws, hi, rfl, rfl, rfl, hE, HST, HB⟩ := hrel
      obtain ⟨wo, rfl⟩ : ∃ wo : World, wo = wr := ⟨_, rfl⟩
      have HE := Lib.hid hE
      clear hE
      by_cases hlt : i < s.size
      · have hat : AtS s.data.toList s.size f i ws := by
          rcases HST.out with ⟨_, h⟩ | ⟨h, _⟩
          · exact h
          · omega
        have HAT := Lib.hid hat
        have hfi : f ≤ i := hat.1
        have hwl : ws.length < i := hat.2.2.2
        clear hat
        by_cases hsp : s.data.toList[i]? ≠ some 32 ∧ i < s.size - 1
        · have q5 : ((s[i].toNat : Int) != 32) = true := by
            rw [bne, byteq_f (s := s) hlt (c := 32) (z := 32) rfl hsp.1]; rfl
          have hi1 : (i : Int) < (s.size : Int) - 1 := by omega
          have hi2 : i < s.size - 1 := hsp.2
          have HN : Hid (AtS s.data.toList s.size f (i + 1) ws) := HAT.out.go (bytes_get s i hlt) (by
            intro e; exact hsp.1 (by rw [bytes_get s i hlt, e])) hsp.2
          clear hsp
          go_wp2_with fail
          go_roundw
          case rel => exact ⟨i + 1, f, ws, by omega, by go_num, rfl, rfl, HE.out, .inl ⟨by omega, HN.out⟩, HB.out⟩
          case measure => simp [intOf]; omega
        · have HC : Hid (s.data.toList[i]? = some 32 ∨ i = s.size - 1) := by
            by_cases h : s.data.toList[i]? = some 32
            · exact .inl h
            · right
              false_or_by_contra
              exact hsp ⟨h, by omega⟩
          clear hsp
          obtain ⟨y, hy⟩ : ∃ y, s.extract f i = y := ⟨_, rfl⟩
          have HY : Hid (y.data.toList = cutL s.data.toList f i) := by unfold Hid; rw [← hy, cutL_extract, strL_data]
          have hys : y.size ≤ 100000 := by
            rw [Lib.size_eq, HY.out]; unfold cutL; rw [List.length_take]; omega
          have HI := Lib.hid (integer_any y wo hys)
          have BODY : ∀ K : Prop, (((s[i].toNat : Int) != 32) = true → ¬ ((i : Int) < (s.size : Int) - 1) → K) → (((s[i].toNat : Int) != 32) = false → K) → K := by
            intro K k1 k2
            cases hq : ((s[i].toNat : Int) != 32) with
            | false => exact k2 hq
            | true =>
              refine k1 hq ?_
              rcases HC.out with h | h
              · exfalso
                have := (byteq s i hlt 32 32 rfl).2 h
                rw [bne, this] at hq; simp at hq
              · omega
          rw [HY.out] at HI
          by_cases hcan : canonS (cutL s.data.toList f i) = true
          · rw [hcan] at HI
            have HVA := Lib.hid (fun W => value_any y W hys (by rw [HY.out]; exact hcan))
            rw [HY.out] at HVA
            have HBD := Lib.hid (valR_bd _ hcan)
            obtain ⟨z, hz⟩ : ∃ z, z = valR (cutL s.data.toList f i) := ⟨_, rfl⟩
            obtain ⟨ok, hok⟩ : ∃ ok, ok = valOk (cutL s.data.toList f i) := ⟨_, rfl⟩
            have HLM : Hid (limB (ws ++ [cutL s.data.toList f i]) = (limB ws || !ok)) := by unfold Hid; rw [limB_snoc, hok]
            have HMP : Hid ((ws ++ [cutL s.data.toList f i]).map valR = ws.map valR ++ [z]) := by unfold Hid; rw [List.map_append, hz]; rfl
            have HNX : Hid (StP s.data.toList s.size (i + 1) (i + 1) (ws ++ [cutL s.data.toList f i])) := by
              by_cases he : i = s.size - 1
              · obtain ⟨e1, e2⟩ := HAT.out.last he hcan
                exact .inr ⟨by omega, e1, e2, by simp; omega⟩
              · exact .inl ⟨by omega, HAT.out.word (HC.out.resolve_right he) (by omega) hcan⟩
            have HJ : Hid ((ws.map valR).length < 1000000) := by unfold Hid; rw [List.length_map]; omega
            rw [← hz, ← hok] at HVA
            rw [← hz] at HBD
            obtain ⟨lb, hlb⟩ : ∃ lb, limB ws = lb := ⟨_, rfl⟩
            rw [hlb] at HLM ⊢
            clear hcan hz hok hlb HC
            refine BODY _ (fun k1 k2 => ?_) (fun k1 => ?_)
            all_goals
              clear BODY
              go_wp2_with fail
              refine HI.out.mono ?_
              rintro e w' ⟨rfl, rfl⟩
              go_wp2_with fail
              refine (HVA.out _).mono ?_
              rintro e w3 ⟨rfl, hE3⟩
              have HE3 := Lib.hid (Ext.trans HE.out hE3)
              have HB3 := Lib.hid (HB.out.ext hE3)
              have hszr := HE3.out.size
              clear hE3 HI HVA
              cases lb
              all_goals cases ok
              all_goals
                go_wp2_with (at_builtin; go_must (refine wpList_append_build _ rfl _ _ 23 rfl w.heap.size 3 (.int .i64 0) 1 8 Tryd.underlying23 infoInt rfl (by decide) u2 intC (ws.map valR) z #[.int .i64 z] 3 rfl HB3.out rfl rfl ?_ (fun _ _ => rfl) HJ.out (by decide) hszr ?_))
                · simp [Value.oneCell']
                intro v' w5 hB5 hg5 hb5 hs5 _
                rw [← HMP.out] at hB5
                have HB5 := Lib.hid hB5
                have HX5 := Lib.hid (Below.trans HE3.out hb5)
                clear hB5 hg5 hb5
                go_wp2_with fail
                go_roundw
                case rel => exact ⟨i + 1, i + 1, _, by omega, by go_num, by go_num, by rw [HLM.out]; rfl, HX5.out, HNX.out, HB5.out⟩
                case measure => simp [intOf]; omega
          · have hcan' : canonS (cutL s.data.toList f i) = false := by simpa using hcan
            rw [hcan'] at HI
            have HR : Hid (parseS s.data.toList = ([], false, 15)) := by
              unfold Hid; rw [HV.out, if_neg]
              rw [HAT.out.bad HC.out (by omega) hcan']; exact Bool.false_ne_true
            clear hcan hcan' HC
            refine BODY _ (fun k1 k2 => ?_) (fun k1 => ?_)
            all_goals
              clear BODY
              go_wp2_with fail
              refine HI.out.mono ?_
              rintro e w' ⟨rfl, rfl⟩
              go_wp2_with fail
              go_ret3
              exact parseR_none HR.out HE.out
      · obtain rfl : i = s.size := by omega
        obtain ⟨hw, hc, -⟩ : wordsL [] (cutL s.data.toList 1 (s.size - 1)) = ws ∧ ws.all canonS = true ∧ ws.length < s.size := by
          rcases HST.out with ⟨h, _⟩ | ⟨_, h⟩
          · omega
          · exact h
        rw [hw, hc] at HV
        have hlr := lim_rowE ws hc
        obtain ⟨a2, c2, hu2⟩ := HB.out.sl
        have hBI := HB.out
        rw [hu2] at hBI
        have hI : Ints wo (.slice a2 (ws.map valR).length c2) (ws.map valR) := Ints.of_owns (Build.ints hBI) (by
          intro x hx
          obtain ⟨y, hy, rfl⟩ := List.mem_map.1 hx
          exact valR_bd y (List.all_eq_true.1 hc y hy))
        rw [List.length_map] at hu2 hI
        subst hu2
        cases hlb : limB ws with
        | true =>
          rw [hlb] at hlr
          have HR : Hid (parseS s.data.toList = ([], false, 4)) := by
            unfold Hid; rw [HV.out, if_pos rfl, if_neg]
            simpa using hlr.symm
          clear hlr hw hc hBI hI
          go_wp2_with fail
          go_ret3
          exact parseR_none HR.out HE.out
        | false =>
          rw [hlb] at hlr
          by_cases h64 : 64 < ws.length
          · have h64' : (64 : Int) < (ws.length : Int) := by omega
            have HR : Hid (parseS s.data.toList = ([], false, 4)) := by
              unfold Hid; rw [HV.out, if_pos rfl, if_neg]
              rw [decide_eq_true h64] at hlr
              simpa using hlr.symm
            clear hlr hw hc hBI hI
            go_wp2_with fail
            go_ret3
            exact parseR_none HR.out HE.out
          · have h64' : ¬ (64 : Int) < (ws.length : Int) := by omega
            have HR : Hid (parseS s.data.toList = (ws.map numS, false, 0)) := by
              unfold Hid; rw [HV.out, if_pos rfl, if_pos]
              rw [decide_eq_false h64] at hlr
              simpa using hlr.symm
            have HI := Lib.hid hI
            have HVO := Lib.hid (vals_ok ws hlb)
            clear hlr hw hc hBI hI hlb
            go_wp2_with fail
            go_quiet (fail)
            go_wp2_with fail
            go_ret3
            rw [HR.out]
            have hI2 := HI.out
            rw [HVO.out] at hI2
            exact ⟨a2, c2, by rw [List.length_map]; rfl, by rw [List.length_map]; exact hI2.ext (Ext.drewN _ _), Ext.draws HE.out _⟩

theorem refParse_any (s : ByteArray) (w : World) (hl : s.size ≤ 65536) :
    Calls Tryd.prog 52 #[.string s] w (ParseR (parseS s.data.toList) w) := by
  by_cases h2 : s.size < 2
  · exact (refParse_bad s w hl (.inl h2)).mono fun e w' ⟨he, hw⟩ => by
      subst he; subst hw
      exact parseR_none (parseS_wrong _ (by rw [← Lib.size_eq]; exact hl) (.inl (by rw [← Lib.size_eq]; exact h2))) (Ext.refl _)
  · by_cases k1 : s.data.toList[0]? = some 91 ∧ s.data.toList[s.size - 1]? = some 62
    · exact refParse_ket s w (by omega) hl k1.1 k1.2
    · by_cases k2 : s.data.toList[0]? = some 60 ∧ s.data.toList[s.size - 1]? = some 93
      · exact refParse_bra s w (by omega) hl k2.1 k2.2
      · exact (refParse_bad s w hl (.inr ⟨k1, k2⟩)).mono fun e w' ⟨he, hw⟩ => by
          subst he; subst hw
          exact parseR_none (parseS_wrong _ (by rw [← Lib.size_eq]; exact hl) (.inr ⟨by rw [← Lib.size_eq]; exact k1, by rw [← Lib.size_eq]; exact k2⟩)) (Ext.refl _)
end Go.Proofs.YtobgghjmclagaaaDoor
