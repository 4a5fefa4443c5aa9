/- Contract of monzo.CheckAll. -/
import Derived.Test.YtplcikgmefcfbaaPrime
namespace Go.Proofs.Ytplcikgmefcfbaa
set_option linter.unusedVariables false
set_option linter.unusedSimpArgs false
open Go.RowKit

def farB (n : Int) : Bool := decide (1000 < n) || decide (n < -1000)
def rowsE (n : Nat) : List (List Int) → Int
  | [] => 0
  | x :: l => if x.length = n then (if x.any farB then 4 else rowsE n l) else 5
def checkAllE (p : List Int) (l : List (List Int)) : Int := if primesE p = 0 then rowsE p.length l else primesE p

set_option maxHeartbeats 800000 in
theorem monzoCheckAll_any (p : List Int) (v : Value) (l : List (List Int)) (u : Value) (w : World) (hp : Ints w v p) (hl : Rows2 w u l) :
    Calls Try.prog 57 #[v, u] w fun e w' => e = .returned (.int .i64 (checkAllE p l)) ∧ w = w' := by
  have hcall := pcheck_any p v w hp
  obtain ⟨ap, cp, rfl, hlcp, hcp, -, -, -⟩ := hp.open
  obtain ⟨a, c, rfl, hlc, hc, -, hcells⟩ := inCell.open hl
  unfold maxLen at hcp hc
  have HCALL := Lib.hid hcall
  have HCELLS := Lib.hid hcells
  clear hcall hcells hl hp
  by_cases hz : primesE p = 0
  · have HS : Hid (checkAllE p l = rowsE p.length l) := by unfold Hid checkAllE; rw [if_pos hz]
    rw [hz] at HCALL
    clear hz
    go_enter Try.func57, Try.ntmps57
    go_wp2_with (go_at_call 55; refine HCALL.out.mono ?_; rintro e w' ⟨rfl, rfl⟩)
    go_loop [17] (fun t => ∃ (pre rest : List (List Int)), t = .int .i64 pre.length ∧ Hid (l = pre ++ rest) ∧ Hid (rowsE p.length rest = rowsE p.length l)) (fun t => l.length - (intOf t).toNat)
    case atStart => exact ⟨[], l, rfl, rfl, rfl⟩
    case round =>
      obtain ⟨pre, rest, rfl, HP, HO⟩ := hrel
      have hlen : l.length = pre.length + rest.length := by rw [HP.out]; simp
      cases rest with
      | nil =>
        have : ¬ (pre.length < l.length) := by simp at hlen; omega
        clear hlen
        go_wp2
        go_ret
        rw [HS.out, ← HO.out]
        exact ⟨rfl, rfl⟩
      | cons x rest =>
        have hlt : pre.length < l.length := by simp at hlen; omega
        clear hlen
        obtain ⟨b, off, rfl, hbw, hcell⟩ := HCELLS.out (by rw [HP.out]; simp)
        obtain ⟨vx, hvx, hx⟩ := hcell pre.length x (by rw [HP.out]; simp)
        clear hcell
        obtain ⟨ax, cx, rfl, hlcx, hcx, -, hbx, hcx2⟩ := hvx.open
        unfold maxLen at hcx
        have HCX := Lib.hid hcx2
        have HBX := Lib.hid hbx
        clear hcx2 hbx hvx
        have ho := HO.out
        by_cases hn : x.length = p.length
        · have hnb : ((x.length : Int) != (p.length : Int)) = false := by simp [hn]
          have HN : Hid (x.length = p.length) := hn
          have ho' : Hid ((if x.any farB then 4 else rowsE p.length rest) = rowsE p.length l) := by unfold Hid; rw [← ho, rowsE, if_pos hn]
          clear hn ho
          go_wp2
          go_loop [28] (fun t => ∃ (xp xr : List Int), t = .int .i64 xp.length ∧ Hid (x = xp ++ xr) ∧ Hid (x.any farB = xr.any farB)) (fun t => x.length - (intOf t).toNat)
          case atStart => exact ⟨[], x, rfl, rfl, rfl⟩
          case round =>
            obtain ⟨xp, xr, rfl, HXP, HXA⟩ := hrel
            have hlen : x.length = xp.length + xr.length := by rw [HXP.out]; simp
            cases xr with
            | nil =>
              have : ¬ (xp.length < x.length) := by simp at hlen; omega
              clear hlen
              go_wp2
              go_round
              case rel => 
                refine ⟨pre ++ [x], rest, by simp, ?_, ?_⟩
                · unfold Hid; rw [HP.out]; simp
                · have := ho'.out
                  rw [HXA.out] at this
                  exact this
              case measure => simp [intOf]; omega
            | cons y xr =>
              have hlt2 : xp.length < x.length := by simp at hlen; omega
              clear hlen
              obtain ⟨bx, ox, rfl, hbx, hcellx⟩ := HCX.out (by rw [HXP.out]; simp)
              have hy := hcellx xp.length y (by rw [HXP.out]; simp)
              obtain ⟨hy1, hy2⟩ := HBX.out y (by rw [HXP.out]; simp)
              clear hcellx
              by_cases hf : 1000 < y
              · have HQ : Hid (rowsE p.length l = 4) := by unfold Hid; rw [← ho'.out, HXA.out]; simp [farB, hf]
                go_wp2
                go_ret
                rw [HS.out, HQ.out]
                exact ⟨rfl, rfl⟩
              · by_cases hg : y < -1000
                · have HQ : Hid (rowsE p.length l = 4) := by unfold Hid; rw [← ho'.out, HXA.out]; simp [farB, hg]
                  go_wp2
                  go_ret
                  rw [HS.out, HQ.out]
                  exact ⟨rfl, rfl⟩
                · have HXA' : Hid (x.any farB = xr.any farB) := by unfold Hid; rw [HXA.out]; simp [farB, hf, hg]
                  go_wp2
                  go_round
                  case rel => exact ⟨xp ++ [y], xr, by simp, by unfold Hid; rw [HXP.out]; simp, HXA'⟩
                  case measure => simp [intOf]; omega
        · have hnb : ((x.length : Int) != (p.length : Int)) = true := by simp; omega
          have HQ : Hid (rowsE p.length l = 5) := by unfold Hid; rw [← ho, rowsE, if_neg hn]
          clear hn ho
          go_wp2
          go_ret
          rw [HS.out, HQ.out]
          exact ⟨rfl, rfl⟩
  · have hnb : (primesE p != 0) = true := by simp [hz]
    have HS : Hid (checkAllE p l = primesE p) := by unfold Hid checkAllE; rw [if_neg hz]
    clear hz
    go_enter Try.func57, Try.ntmps57
    go_wp2_with (go_at_call 55; refine HCALL.out.mono ?_; rintro e w' ⟨rfl, rfl⟩)
    go_ret
    rw [HS.out]
    exact ⟨rfl, rfl⟩
end Go.Proofs.Ytplcikgmefcfbaa
