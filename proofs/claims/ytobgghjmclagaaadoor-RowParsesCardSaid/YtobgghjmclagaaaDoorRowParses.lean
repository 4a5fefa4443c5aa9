/- The walk of RowParses. -/
import Derived.Test.YtobgghjmclagaaaDoorRefParse
import Derived.Test.YtobgghjmclagaaaDoorKnownR
import Derived.Test.YtobgghjmclagaaaDoorRefA
namespace Go.Proofs.YtobgghjmclagaaaDoor
set_option linter.unusedVariables false
set_option linter.unusedSimpArgs false
open Go.RowKit

theorem infoU8 : (Tryd.prog.info? 5).map (fun i => (i.zero, i.size, i.bytes)) = some (some (.int .u8 0), 1, 1) := by kernel_rfl
/-- A made row of bytes, as a text. -/
theorem madeText {w : World} {base g n : Nat} (h : w.ownsRow base 5 1 (.slice (some ⟨g, 0, none⟩) n n) n (madeCells #[Value.int .u8 0] n).toList) :
    (convert 68 9 (.slice (some ⟨g, 0, none⟩) n n)).run Tryd.prog w = .ok (.string (strL (List.replicate n 0))) w := by
  have hc := h.cells (g := g) (by simp [Value.ownBlock])
  have h1 := run_convert_bytes_back (P := Tryd.prog) w 68 9 5 ⟨g, 0, none⟩ n (List.replicate n 0) Tryd.underlying68 Tryd.underlying5 Tryd.underlying9 (by
    intro j hj
    have hj' : j < n := by rw [List.length_replicate] at hj; exact hj
    have := hc j (.int .u8 0) (by rw [made_ints, List.getElem?_map, List.getElem?_replicate, if_pos hj']; rfl)
    rw [this, List.getElem_replicate]
    rfl)
  rw [List.length_replicate] at h1
  exact h1

set_option maxRecDepth 100000 in
set_option maxHeartbeats 2000000 in
theorem parses_walk (s : ByteArray) (w : World) (hw : LibW w) :
    Calls Tryd.prog 12 #[.string s] w fun e w' => e = .returned (.bool true) ∧ Ext w w' := by
  have HW := Lib.hid hw; have HT := Lib.hid hw.pow
  clear hw
  by_cases hl : 200 < s.size
  · have q1 : (200 : Int) < (s.size : Int) := by omega
    clear hl
    go_enter Tryd.func12, Tryd.ntmps12
    go_wp2_with fail
    refine (known_any _ HT.out).mono ?_
    rintro e w1 ⟨rfl, hE1⟩
    have HE1 := Lib.hid hE1
    have HT1 := Lib.hid (HT.out.ext hE1)
    clear hE1
    go_wp2_with fail
    refine (known_any _ HT1.out).mono ?_
    rintro e w2 ⟨rfl, hE2⟩
    have HE2 := Lib.hid (Ext.trans HE1.out hE2)
    clear hE2
    go_wp2_with fail
    go_ret
    exact ⟨rfl, HE2.out⟩
  · have q1 : ¬ (200 : Int) < (s.size : Int) := by omega
    have hs : s.size ≤ 65536 := by omega
    clear hl
    have HP : Hid (∀ W, Ext w W → Calls Tryd.prog 50 #[.string s] W (ParseR (parseS s.data.toList) W)) := by
      intro W hE
      have := parse_any s.data.toList W (by rw [← Lib.size_eq]; exact hs) (HW.out.ext hE)
      rw [strL_self] at this
      exact this
    have HRP : Hid (∀ W, Calls Tryd.prog 52 #[.string s] W (ParseR (parseS s.data.toList) W)) := fun W => refParse_any s W hs
    obtain ⟨p, hp⟩ : ∃ p, p = parseS s.data.toList := ⟨_, rfl⟩
    rw [← hp] at HP HRP
    clear hp
    obtain ⟨xs, kt, er⟩ := p
    obtain ⟨i0, hi, hz0, hz1, hz2⟩ := info_parts infoU8
    have HI := Lib.hid hi; have HZ0 := Lib.hid hz0; have HZ1 := Lib.hid hz1; have HZ2 := Lib.hid hz2
    obtain ⟨n, hn⟩ : ∃ n : Nat, (65537 : Int) = (n : Int) := ⟨65537, rfl⟩
    have HN := Lib.hid hn
    have HPL : Hid (∀ W, Calls Tryd.prog 50 #[.string (strL (List.replicate n 0))] W fun e w' => e = .returned (.tuple #[.slice none 0 0, .bool false, .int .i64 16]) ∧ W = w') := by
      intro W
      exact parse_long _ W (by rw [strL_size, List.length_replicate]; omega)
    clear hi hz0 hz1 hz2 hn
    go_enter Tryd.func12, Tryd.ntmps12
    go_wp2_with fail
    refine (known_any _ HT.out).mono ?_
    rintro e w1 ⟨rfl, hE1⟩
    have HE1 := Lib.hid hE1
    clear hE1
    go_wp2_with fail
    refine (HP.out _ HE1.out).mono ?_
    rintro e w2 ⟨a, c, rfl, hI2, hE2⟩
    have HE2 := Lib.hid (Ext.trans HE1.out hE2)
    have HI2 := Lib.hid hI2
    clear hE2 hI2 HP
    go_wp2_with fail
    refine (HRP.out _).mono ?_
    rintro e w3 ⟨a', c', rfl, hI3, hE3⟩
    have HE3 := Lib.hid (Ext.trans HE2.out hE3)
    have HI3 := Lib.hid hI3
    have HI2' := Lib.hid (HI2.out.ext hE3)
    clear hE3 hI3 HRP HI2
    go_wp2_with (at_make; refine wpList_make_full _ rfl _ _ 68 rfl w3.heap.size 5 i0 (.int .u8 0) 1 Tryd.underlying68 HI.out HZ0.out HZ1.out _ _ _ _ n rfl rfl HN.out HN.out ?c1 ?c2 ?c3 ?_)
    case c1 => have := HN.out; have h2 := HZ2.out; rw [h2]; omega
    case c2 => have := HN.out; unfold maxLen; omega
    case c3 => exact Nat.le_refl _
    intro w4 hown hg
    have hE4 := ext_grown hg
    have HE4 := Lib.hid (Ext.trans HE3.out hE4)
    have HI2'' := Lib.hid (HI2'.out.ext hE4)
    have HI3'' := Lib.hid (HI3.out.ext hE4)
    have hcv := madeText (by simpa using hown)
    clear hown hg hE4 HI2' HI3
    go_wp2_with fail
    refine (HPL.out _).mono ?_
    rintro e w' ⟨rfl, rfl⟩
    clear HPL hcv
    have HQ : Hid (Calls Tryd.prog 21 #[.slice a xs.length c, .slice a' xs.length c'] w4 fun e w' => e = .returned (.bool true) ∧ Ext w4 w') := by
      have := refEqual_any xs xs _ _ w4 HI2''.out HI3''.out
      unfold Hid
      simpa using this
    go_wp2_with fail
    refine HQ.out.mono ?_
    rintro e w5 ⟨rfl, hE5⟩
    have HE5 := Lib.hid (Ext.trans HE4.out hE5)
    clear hE5 HQ
    go_wp2_with fail
    go_ret
    exact ⟨rfl, HE5.out⟩
end Go.Proofs.YtobgghjmclagaaaDoor
