/- Merged: MakeOwn. -/
import Derived.Test.YtjihfabhgcfjnaaGreatDoorVBAD
/- Make's walk with what may be written in it: the slice of chords, that of the links' lists, and the first list of links; printed by gen/makeown.py out of Make51. -/
namespace Go.Proofs.YtjihfabhgcfjnaaGreatDoor
set_option linter.unusedVariables false
set_option linter.unusedSimpArgs false
open Go.RowKit

/-- The first list of links is written still: its slice alone is known; the others are what they are. -/
def optR (u0 : Value) (w : World) (u : List Value) : Option (List (Int × Int)) → Prop
  | none => u = [u0]
  | some l => linksR w u l
def opts : List (List (Int × Int)) → List (Option (List (Int × Int)))
  | [] => []
  | _ :: r => none :: r.map some
theorem opts_len : ∀ l : List (List (Int × Int)), (opts l).length = l.length
  | [] => rfl
  | _ :: r => by simp [opts]
theorem opts_snoc {l : List (List (Int × Int))} (h : l ≠ []) (x : List (Int × Int)) : opts (l ++ [x]) = opts l ++ [some x] := by
  cases l with
  | nil => exact absurd rfl h
  | cons a r => simp [opts]
def L0 (w : World) (S : Nat → Prop) (B : Nat) (u0 : Value) (links : List (List (Int × Int))) : Prop := match links with
  | [] => True
  | l :: _ => BuildS w S B 114 2 u0 linkR l
section
variable {w w' : World} {S S' : Nat → Prop} {B : Nat} {u0 : Value} {links : List (List (Int × Int))}
theorem L0.ext (h : L0 w S B u0 links) (he : Ext w w') : L0 w' S B u0 links := by
  cases links with
  | nil => trivial
  | cons l r => exact BuildS.ext (show BuildS w S B 114 2 u0 linkR l from h) he
theorem L0.lt (h : L0 w S B u0 links) (hne : links ≠ []) : ∀ b, u0.ownBlock = some b → B ≤ b ∧ b < w.heap.size := by
  cases links with
  | nil => exact absurd rfl hne
  | cons l r => exact BuildS.lt (show BuildS w S B 114 2 u0 linkR l from h)
theorem L0.other {o : Option Nat} (h : L0 w S B u0 links) (hg : w.grownBy w' o) (ho : ∀ b, o = some b → S b) (hne : links ≠ [] → ∀ b, u0.ownBlock = some b → o ≠ some b) (hS : ∀ k, S' k → S k ∨ w.heap.size ≤ k) (hSS : ∀ k, S k → S' k) : L0 w' S' B u0 links := by
  cases links with
  | nil => trivial
  | cons l r => exact BuildS.other (show BuildS w S B 114 2 u0 linkR l from h) hg ho (hne (by simp)) hS hSS
theorem L0.drop {g : Nat} (h : L0 w S B u0 links) (hv : links ≠ [] → u0.ownBlock ≠ some g) : L0 w (fun b => S b ∧ b ≠ g) B u0 links := by
  cases links with
  | nil => trivial
  | cons l r => exact BuildS.drop (show BuildS w S B 114 2 u0 linkR l from h) (hv (by simp))
theorem L0.store {Bx i : Nat} {x : Value} (h : L0 w S B u0 links) (hB : S Bx) (hne : links ≠ [] → u0.ownBlock ≠ some Bx) : L0 (w.setCell ⟨Bx, i, none⟩ x) S B u0 links := by
  cases links with
  | nil => trivial
  | cons l r => exact BuildS.store (show BuildS w S B 114 2 u0 linkR l from h) hB (hne (by simp))
theorem L0.apart {β : Type} {base' : Nat} {e' : TypeId} {k' : Nat} {v' : Value} {R' : World → List Value → β → Prop} {ys : List β} (h : L0 w S B u0 links) (h' : BuildS w S' base' e' k' v' R' ys) (hne : (114 : Nat) ≠ e') : links ≠ [] → ∀ b, u0.ownBlock = some b → v'.ownBlock ≠ some b := by
  intro hl
  cases links with
  | nil => exact absurd rfl hl
  | cons l r => exact BuildS.apart (show BuildS w S B 114 2 u0 linkR l from h) h' hne
theorem L0.neBlock (h : L0 w S B u0 links) {Bx : Nat} {C : Array Value} {T : TypeId} {fr : Nat × Nat} (hB : w.heap[Bx]? = some (.cells C T fr)) (hne : (114 : Nat) ≠ T) : links ≠ [] → u0.ownBlock ≠ some Bx := by
  intro hl
  cases links with
  | nil => exact absurd rfl hl
  | cons l r => exact BuildS.neBlock (show BuildS w S B 114 2 u0 linkR l from h) hB hne
theorem L0.more (hl : links ≠ []) (h : L0 w S B u0 links) (x : List (Int × Int)) : L0 w S B u0 (links ++ [x]) := by
  cases links with
  | nil => exact absurd rfl hl
  | cons l r => exact h
theorem L0.shrink (h : L0 w S B u0 links) (hS : ∀ b, S' b → S b) (hv2 : ∀ b, links ≠ [] → u0.ownBlock = some b → S b → S' b) : L0 w S' B u0 links := by
  cases links with
  | nil => trivial
  | cons l r =>
    have h1 : BuildS w S B 114 2 u0 linkR l := h
    exact BuildS.shrink h1 hS fun b hb => hv2 b (by simp) hb (h1.1 b hb)
theorem BuildS.low {α : Type} {base base' : Nat} {e : TypeId} {k : Nat} {v : Value} {R : World → List Value → α → Prop} {xs : List α} (h : BuildS w S base e k v R xs) (hb : base' ≤ base) : BuildS w S base' e k v R xs := by
  obtain ⟨h0, us, h1, h2, h3, h4⟩ := h
  refine ⟨h0, us, h1, h2, ⟨h3.1, ?_⟩, h4⟩
  rcases h3.2 with hh | ⟨g, cap, cur, e1, e2, e3⟩
  · exact .inl hh
  · exact .inr ⟨g, cap, cur, e1, Nat.le_trans hb e2, e3⟩
theorem BuildS.ofNil {α β : Type} {base : Nat} {e : TypeId} {k : Nat} {v : Value} {R : World → List Value → α → Prop} (h : BuildS w S base e k v R []) (R' : World → List Value → β → Prop) : BuildS w S base e k v R' [] := by
  obtain ⟨h0, us, h1, h2, h3, h4⟩ := h
  refine ⟨h0, us, h1, h2, h3, fun j u x hu hx => by simp at hx⟩
theorem L0.low {B' : Nat} (h : L0 w S B u0 links) (hb : B' ≤ B) : L0 w S B' u0 links := by
  cases links with
  | nil => trivial
  | cons l r => exact BuildS.low (show BuildS w S B 114 2 u0 linkR l from h) hb
end
/-- A walk of a plan, and what may be written of it. -/
structure OwnWk (w : World) (B : Nat) (S : Nat → Prop) (vp vc vl u0 : Value) (k : Wk) : Prop where
  low : ∀ b, b < B → S b
  lt : ∀ b, S b → b < w.heap.size
  primes : SafeS w S fun w' => Ints w' vp k.primes
  chords : BuildS w S B 28 1 vc chordR k.chords
  links : BuildS w S B 112 1 vl (optR u0) (opts k.links)
  first : L0 w S B u0 k.links

set_option maxRecDepth 100000 in
set_option maxHeartbeats 8000000 in
theorem make_own (cs : Array Value) (hpl : PlanAt cs) (w : World) :
    Calls Tryz.prog 14 #[.agg cs] w fun e w' => ∃ vp vc vl k S u0, e = .returned (.agg #[vp, vc, vl]) ∧ Ext w w' ∧ OwnWk w' w.heap.size S vp vc vl u0 k ∧ PlanWk k := by
  have HPL := Lib.hid hpl
  obtain ⟨C, hC, hC1, hC2⟩ := hpl.u8 0 (kinds_u8 0 (by omega) (by omega))
  clear hpl
  go_enter Tryz.func14, Tryz.ntmps14
  go_wp2_with fail
  have hp0 : Ints (((w.alloc (.cells cs 50)).alloc (.cells #[.slice none 0 0, .slice none 0 0, .slice none 0 0] 55)).alloc (.cells #[.int .i64 2, .int .i64 3, .int .i64 5] 3)) (.slice (some ⟨w.heap.size + 1 + 1, 0, none⟩) 3 3) [2, 3, 5] :=
    Ints.litAt (by simp) [2, 3, 5] _ 3 rfl (by simp [maxLen]) (by simp) _ rfl
  have hE0 : Ext w (((w.alloc (.cells cs 50)).alloc (.cells #[.slice none 0 0, .slice none 0 0, .slice none 0 0] 55)).alloc (.cells #[.int .i64 2, .int .i64 3, .int .i64 5] 3)) := (Ext.alloc _ _).trans ((Ext.alloc _ _).trans (Ext.alloc _ _))
  have sB : (((w.alloc (.cells cs 50)).alloc (.cells #[.slice none 0 0, .slice none 0 0, .slice none 0 0] 55)).alloc (.cells #[.int .i64 2, .int .i64 3, .int .i64 5] 3)).heap.size = w.heap.size + 1 + 1 + 1 := by simp
  have hk0 : (((w.alloc (.cells cs 50)).alloc (.cells #[.slice none 0 0, .slice none 0 0, .slice none 0 0] 55)).alloc (.cells #[.int .i64 2, .int .i64 3, .int .i64 5] 3)).heap[w.heap.size]? = some (.cells cs 50 (0, 0)) :=
    block_ext (block_ext (block_new _ _ _) (Ext.alloc _ _)) (Ext.alloc _ _)
  have hk1 : (((w.alloc (.cells cs 50)).alloc (.cells #[.slice none 0 0, .slice none 0 0, .slice none 0 0] 55)).alloc (.cells #[.int .i64 2, .int .i64 3, .int .i64 5] 3)).heap[w.heap.size + 1]? = some (.cells #[.slice none 0 0, .slice none 0 0, .slice none 0 0] 55 (0, 0)) :=
    block_ext (by have := block_new (w.alloc (.cells cs 50)) #[.slice none 0 0, .slice none 0 0, .slice none 0 0] 55; simpa using this) (Ext.alloc _ _)
  generalize ((w.alloc (.cells cs 50)).alloc (.cells #[.slice none 0 0, .slice none 0 0, .slice none 0 0] 55)).alloc (.cells #[.int .i64 2, .int .i64 3, .int .i64 5] 3) = W0 at *
  rw [← sB]
  obtain ⟨n, hn, hn1, hn2⟩ : ∃ n : Nat, 1 + C % 5 = (n : Int) ∧ 1 ≤ n ∧ n ≤ 5 := ⟨(1 + C % 5).toNat, by omega, by omega, by omega⟩
  rw [hn]
  have HP0 := Lib.hid hp0
  have HK0 := Lib.hid hk0; have HK1 := Lib.hid hk1
  have hw0 : w.heap.size < W0.heap.size := by omega
  have hw1 : w.heap.size + 1 < W0.heap.size := by omega
  have hw2 : w.heap.size + 1 + 1 < W0.heap.size := by omega
  have HC := Lib.hid hC
  clear hp0 hn sB hk0 hk1 hC hC1 hC2
  go_loopw [18] (fun t wr => ∃ (i : Nat) (S : Nat → Prop) (u0 vc vl : Value) (chords : List (List (List Int))) (links : List (List (Int × Int))), t = .int .i64 i ∧ i ≤ n ∧ Ext W0 wr ∧ Hid (SOk S 0 wr) ∧ Hid (S W0.heap.size ∧ S (w.heap.size + 1) ∧ ∀ b, b < w.heap.size → S b) ∧ Hid (wr.heap[W0.heap.size]? = some (.cells #[.slice (some ⟨w.heap.size + 1 + 1, 0, none⟩) 3 3, vc, vl] 55 (0, 0))) ∧
      Hid (BuildS wr S W0.heap.size 28 1 vc chordR chords) ∧ Hid (BuildS wr S W0.heap.size 112 1 vl (optR u0) (opts links)) ∧ Hid (L0 wr S W0.heap.size u0 links) ∧
      Hid (chords.length = i) ∧ Hid (links.length = i - 1) ∧ Hid (∀ c ∈ chords, okChord c) ∧ Hid (okLinks chords links)) (fun t _ => n - (intOf t).toNat)
  case atStart =>
    exact ⟨0, fun b => b = W0.heap.size ∨ b = w.heap.size + 1 ∨ b < w.heap.size, .slice none 0 0, _, _, [], [], rfl, Nat.zero_le _, Ext.alloc _ _, by intro b hb; refine ⟨Nat.zero_le _, ?_⟩; rcases hb with rfl | rfl | hb <;> simp <;> omega, ⟨.inl rfl, .inr (.inl rfl), fun b hb => .inr (.inr hb)⟩, block_new _ _ _, BuildS.nil _ _ _ _ _ _, BuildS.nil _ _ _ _ _ _, trivial, rfl, rfl, by intro c hc; simp at hc, by intro j l h; simp at h⟩
  case round =>
    obtain ⟨i, S, u0, vc, vl, chords, links, rfl, hin, hEr, HOK, HS, HBK, HCH, HLK, HL0, HLC, HLL, HOC, HOL⟩ := hrel
    obtain ⟨wo, rfl⟩ : ∃ wo : World, wo = wr := ⟨_, rfl⟩
    by_cases hlt : i < n
    · obtain ⟨N, hN, hN1, hN2⟩ := HPL.out.u8 (1 + i) (kinds_u8 _ (by omega) (by omega))
      have gN := (block_cell (block_ext HK0.out hEr) (1 + i)).trans hN
      obtain ⟨m, hm, hm1, hm2⟩ : ∃ m : Nat, 1 + N % 3 = (m : Int) ∧ 1 ≤ m ∧ m ≤ 3 := ⟨(1 + N % 3).toNat, by omega, by omega, by omega⟩
      clear hN
      go_wp2_with fail
      clear hm hN1 hN2 gN
      go_loopw [5, 28] (fun c t wr => ∃ (k : Nat) (S1 : Nat → Prop) (rows : List (List Int)), t = .int .i64 k ∧ k ≤ m ∧ Ext W0 wr ∧ Hid (SOk S1 0 wr) ∧ Hid (S1 W0.heap.size ∧ S1 (w.heap.size + 1) ∧ ∀ b, b < w.heap.size → S1 b) ∧ Hid (wr.heap[W0.heap.size]? = some (.cells #[.slice (some ⟨w.heap.size + 1 + 1, 0, none⟩) 3 3, vc, vl] 55 (0, 0))) ∧
          Hid (BuildS wr S1 W0.heap.size 28 1 vc chordR chords) ∧ Hid (BuildS wr S1 W0.heap.size 112 1 vl (optR u0) (opts links)) ∧ Hid (L0 wr S1 W0.heap.size u0 links) ∧
          Hid (BuildS wr S1 W0.heap.size 37 1 c rowR rows) ∧ Hid (rows.length = k) ∧ Hid (∀ x ∈ rows, x.length = 3 ∧ ∀ a ∈ x, -8 ≤ a ∧ a ≤ 8)) (fun _ t _ => m - (intOf t).toNat)
      case atStart => exact ⟨0, S, [], rfl, Nat.zero_le _, hEr, HOK.out, HS.out, HBK.out, HCH.out, HLK.out, HL0.out, BuildS.nil _ _ _ _ _ _, rfl, by intro x hx; simp at hx⟩
      case round =>
        clear HOK HS HBK HCH HLK HL0 hEr
        obtain ⟨k, S1, rows, rfl, hkm, hEr, HOK, HS, HBK, HCH, HLK, HL0, HRW, HRL, HRB⟩ := hrel
        by_cases hkl : k < m
        · obtain ⟨a0, ha0, la0, ma0⟩ := HPL.out.i8 (6 + i * 9 + k * 3) (kinds_i8 _ (by omega) (by omega) (by omega))
          obtain ⟨a1, ha1, la1, ma1⟩ := HPL.out.i8 (6 + i * 9 + k * 3 + 1) (kinds_i8 _ (by omega) (by omega) (by omega))
          obtain ⟨a2, ha2, la2, ma2⟩ := HPL.out.i8 (6 + i * 9 + k * 3 + 2) (kinds_i8 _ (by omega) (by omega) (by omega))
          have q0 := (block_cell (block_ext HK0.out hEr) (6 + i * 9 + k * 3)).trans ha0
          have q1 := (block_cell (block_ext HK0.out hEr) (6 + i * 9 + k * 3 + 1)).trans ha1
          have q2 := (block_cell (block_ext HK0.out hEr) (6 + i * 9 + k * 3 + 2)).trans ha2
          obtain ⟨r0, hr0, hr01, hr02⟩ : ∃ p, a0.tmod 9 = p ∧ -8 ≤ p ∧ p ≤ 8 := ⟨_, rfl, by have := tmod_bd a0 9 (by omega); omega, by have := tmod_bd a0 9 (by omega); omega⟩
          obtain ⟨r1, hr1, hr11, hr12⟩ : ∃ p, a1.tmod 9 = p ∧ -8 ≤ p ∧ p ≤ 8 := ⟨_, rfl, by have := tmod_bd a1 9 (by omega); omega, by have := tmod_bd a1 9 (by omega); omega⟩
          obtain ⟨r2, hr2, hr21, hr22⟩ : ∃ p, a2.tmod 9 = p ∧ -8 ≤ p ∧ p ≤ 8 := ⟨_, rfl, by have := tmod_bd a2 9 (by omega); omega, by have := tmod_bd a2 9 (by omega); omega⟩
          clear ha0 ha1 ha2
          have hEA : Ext wr (wr.alloc (.cells #[.int .i8 a0, .int .i8 a1, .int .i8 a2] 43)) := Ext.alloc _ _
          have hE12 : Ext wr ((wr.alloc (.cells #[.int .i8 a0, .int .i8 a1, .int .i8 a2] 43)).alloc (.cells #[.int .i64 r0, .int .i64 r1, .int .i64 r2] 3)) := hEA.trans (Ext.alloc _ _)
          have HR := Lib.hid ((SafeS.intsLit (S := S1) (w := wr.alloc (.cells #[.int .i8 a0, .int .i8 a1, .int .i8 a2] 43)) (n := wr.heap.size + 1) (fun b hb => ((HOK.out.grow hEA.size) b hb).2) (by simp) [r0, r1, r2] 3 3 rfl (by simp [maxLen]) (by intro x hx; simp at hx; omega) #[.int .i64 r0, .int .i64 r1, .int .i64 r2] rfl).mono (P' := fun w => rowR w [.slice (some ⟨wr.heap.size + 1, 0, none⟩) 3 3] [r0, r1, r2]) (fun w h => ⟨_, rfl, h⟩))
          have HB1 := Lib.hid (HRW.out.ext hE12)
          have HOK1 := Lib.hid (HOK.out.grow hE12.size)
          have HBK1 := Lib.hid (block_ext HBK.out hE12)
          have HCH1 := Lib.hid (HCH.out.ext hE12)
          have HLK1 := Lib.hid (HLK.out.ext hE12)
          have HL01 := Lib.hid (HL0.out.ext hE12)
          have hs1 := Nat.le_trans hEr.size hE12.size
          have hr3 : ∀ a ∈ [r0, r1, r2], -8 ≤ a ∧ a ≤ 8 := by intro a ha; simp at ha; omega
          have HR3 := Lib.hid hr3
          have hi5 : rows.length < 1000000 := by have := HRL.out; omega
          have HI5 := Lib.hid hi5
          clear hr3 hi5 hEA HRW HOK HBK HCH HLK HL0
          go_wp2_with (at_builtin; go_must (refine wpList_append_buildS _ rfl _ _ 28 rfl S1 W0.heap.size 37 (.slice none 0 0) 1 24 Tryz.underlying28 infoRow rfl (by decide) u5 rowR rows [r0, r1, r2] #[.slice (some ⟨wr.heap.size + 1, 0, none⟩) 3 3] 37 rfl HB1.out _ rfl ?a0 rfl ?a1 HR.out HI5.out ?a3 hs1 0 (by omega) HOK1.out ?_))
          case a0 => simp
          case a1 => simp [Value.oneCell']
          case a3 => omega
          intro c' w2 S2 hok2 hS1 hS2 hB2 hg2 hb2 hs2 hsafe
          have HOK2 := Lib.hid hok2
          have HS2 := Lib.hid (And.intro (hS1 _ HS.out.1) (And.intro (hS1 _ HS.out.2.1) (fun b (hb : b < w.heap.size) => hS1 b (HS.out.2.2 b hb))))
          have HBK2 := Lib.hid (block_grown HBK1.out hg2 (HB1.out.neBlock HBK1.out (by decide)))
          have HCH2 := Lib.hid (HCH1.out.other (S' := S2) hg2 HB1.out.1 (BuildS.apart HCH1.out HB1.out (by decide)) (by simpa using hS2) hS1)
          have HLK2 := Lib.hid (HLK1.out.other (S' := S2) hg2 HB1.out.1 (BuildS.apart HLK1.out HB1.out (by decide)) (by simpa using hS2) hS1)
          have HL02 := Lib.hid (HL01.out.other (S' := S2) hg2 HB1.out.1 (L0.apart HL01.out HB1.out (by decide)) (by simpa using hS2) hS1)
          have HRW2 := Lib.hid hB2
          have hE2 : Below W0.heap.size W0 w2 := Below.trans (hEr.trans hE12) hb2
          clear hok2 hS1 hS2 hB2 hg2 hb2 hsafe HR HB1 HOK1 HBK1 HCH1 HLK1 HL01
          go_wp2_with fail
          go_roundw
          case rel =>
            refine ⟨k + 1, S2, rows ++ [[r0, r1, r2]], by go_num, by omega, hE2, HOK2.out, HS2.out, HBK2.out, HCH2.out, HLK2.out, HL02.out, HRW2.out, ?_, ?_⟩
            · have := HRL.out; simp [Hid, this]
            · intro x hx
              rcases List.mem_append.1 hx with hx | hx
              · exact HRB.out x hx
              · rw [List.mem_singleton.1 hx]; exact ⟨rfl, HR3.out⟩
          case measure => simp [intOf]; omega
        · obtain rfl : k = m := by omega
          obtain ⟨gc, capc, rfl, hgc1, hgc2, hgc3, hgc4⟩ := HRW.out.shape (by have := HRL.out; omega)
          have hcl : rows.length = k := HRL.out
          have hneC := BuildS.apart HCH.out HRW.out (by decide)
          have hneL := BuildS.apart HLK.out HRW.out (by decide)
          have HRS := Lib.hid (HRW.out.finish rfl)
          have HCH1 := Lib.hid (HCH.out.drop (g := gc) (fun e => hneC _ e rfl))
          have HLK1 := Lib.hid (HLK.out.drop (g := gc) (fun e => hneL _ e rfl))
          have HL01 := Lib.hid (HL0.out.drop (g := gc) (fun hne e => L0.apart HL0.out HRW.out (by decide) hne _ e rfl))
          have hneB := HRW.out.neBlock HBK.out (by decide)
          have HS1 : Hid ((fun b => S1 b ∧ b ≠ gc) W0.heap.size ∧ (fun b => S1 b ∧ b ≠ gc) (w.heap.size + 1) ∧ ∀ b, b < w.heap.size → (fun b => S1 b ∧ b ≠ gc) b) := ⟨⟨HS.out.1, fun e => hneB (by rw [e]; rfl)⟩, ⟨HS.out.2.1, by omega⟩, fun b hb => ⟨HS.out.2.2 b hb, by omega⟩⟩
          have HOK1 : Hid (SOk (fun b => S1 b ∧ b ≠ gc) 0 wr) := fun b hb => HOK.out b hb.1
          generalize (fun b => S1 b ∧ b ≠ gc) = S2 at *
          clear HOK HS HCH HLK HL0 HRW hneC hneL hneB
          have g0 := block_cell HBK.out 0; have g1 := block_cell HBK.out 1; have g2 := block_cell HBK.out 2
          have f1 := block_free HBK.out 1
          simp only [List.getElem?_toArray, List.getElem?_cons_zero, List.getElem?_cons_succ] at g0 g1 g2
          have hs1 := hEr.size
          have HI5 : Hid (chords.length < 1000000) := by have := HLC.out; unfold Hid; omega
          rw [hcl] at HRS hgc3
          rw [hcl]
          have HRL := Lib.hid hcl
          clear hcl
          go_wp2_with (at_builtin; go_must (refine wpList_append_buildS _ rfl _ _ 52 rfl S2 W0.heap.size 28 (.slice none 0 0) 1 24 Tryz.underlying52 infoRows rfl (by decide) vc chordR chords rows #[.slice (some ⟨gc, 0, none⟩) k capc] 28 rfl HCH1.out _ rfl rfl rfl ?b1 (HRS.out.mono (fun w h => ⟨_, rfl, h⟩)) HI5.out ?b3 hs1 0 (by omega) HOK1.out ?_))
          case b1 => simp [Value.oneCell']
          case b3 => omega
          intro vc' w2 S3 hok3 hS31 hS32 hB3 hg3 hb3 hs3 hsafe3
          obtain ⟨gd, capd, rfl, hgd1, hgd2, hgd3, hgd4⟩ := hB3.shape (by simp)
          have hLn : (chords ++ [rows]).length = i + 1 := by have := HLC.out; simp [this]
          rw [hLn] at hB3 hgd3
          rw [hLn]
          have hne1 := HCH1.out.neBlock HBK.out (by decide)
          have hBK3 := block_grown HBK.out hg3 hne1
          have hL3 := HLK1.out.other (S' := S3) hg3 HCH1.out.1 (BuildS.apart HLK1.out HCH1.out (by decide)) hS32 hS31
          have hL03 := HL01.out.other (S' := S3) hg3 HCH1.out.1 (L0.apart HL01.out HCH1.out (by decide)) hS32 hS31
          have hS3 := hS31 _ HS1.out.1
          have hS3b := hS31 _ HS1.out.2.1
          have hS3c : ∀ b, b < w.heap.size → S3 b := fun b hb => hS31 b (HS1.out.2.2 b hb)
          have HC4 := Lib.hid (hB3.store (i := 1) (x := .slice (some ⟨gd, 0, none⟩) (i + 1) capd) hS3 (hB3.neBlock hBK3 (by decide)))
          have HL4 := Lib.hid (hL3.store (i := 1) (x := .slice (some ⟨gd, 0, none⟩) (i + 1) capd) hS3 (hL3.neBlock hBK3 (by decide)))
          have HL04 := Lib.hid (hL03.store (i := 1) (x := .slice (some ⟨gd, 0, none⟩) (i + 1) capd) hS3 (L0.neBlock hL03 hBK3 (by decide)))
          have hBK4 := block_set hBK3 1 (.slice (some ⟨gd, 0, none⟩) (i + 1) capd)
          have HR4 := Lib.hid ((hsafe3 _ HRS.out).grow (grownBy_S (grown_setCell w2 W0.heap.size 1 (.slice (some ⟨gd, 0, none⟩) (i + 1) capd)) (fun b hb => by cases hb; exact hS3)) (fun b hb => .inl hb))
          have k1 := block_cell hBK3 1
          have k2 := block_free hBK3 1
          simp only [List.getElem?_toArray, List.getElem?_cons_zero, List.getElem?_cons_succ] at k1
          have HS4 := Lib.hid (And.intro hS3 (And.intro hS3b hS3c))
          have hE4 : Below W0.heap.size W0 (w2.setCell ⟨W0.heap.size, 1, none⟩ (.slice (some ⟨gd, 0, none⟩) (i + 1) capd)) := (Below.trans hEr hb3).setCell (Nat.le_refl _) _
          have HOK4 := Lib.hid (SOk.grow hok3 (w' := w2.setCell ⟨W0.heap.size, 1, none⟩ (.slice (some ⟨gd, 0, none⟩) (i + 1) capd)) (by simp [World.setCell]))
          generalize hw4 : w2.setCell ⟨W0.heap.size, 1, none⟩ (.slice (some ⟨gd, 0, none⟩) (i + 1) capd) = w4 at *
          have HBK4 : Hid (w4.heap[W0.heap.size]? = some (.cells #[.slice (some ⟨w.heap.size + 1 + 1, 0, none⟩) 3 3, .slice (some ⟨gd, 0, none⟩) (i + 1) capd, vl] 55 (0, 0))) := hBK4
          have HOC4 : Hid (∀ c ∈ chords ++ [rows], okChord c) := by
            intro c hc
            rcases List.mem_append.1 hc with hc | hc
            · exact HOC.out c hc
            · rw [List.mem_singleton.1 hc]
              have := HRL.out
              exact ⟨by omega, by omega, HRB.out⟩
          have HOL4 : Hid (okLinks (chords ++ [rows]) links) := okLinks_more HOL.out rows
          have HLN := Lib.hid hLn
          clear hok3 hS31 hS32 hB3 hg3 hb3 hsafe3 hne1 hBK3 hL3 hL03 hS3 hS3b hBK4 hLn HOC HOL HCH1 HLK1 HL01 HRS HOK1 HS1 HBK g0 g1 g2 f1
          unfold maxLen at hgd4 hgc4
          by_cases hi0 : i = 0
          · subst hi0
            go_wp2_with fail
            go_roundw
            case rel => exact ⟨1, S3, u0, _, vl, chords ++ [rows], links, rfl, by omega, hE4, HOK4.out, HS4.out, HBK4.out, HC4.out, HL4.out, HL04.out, HLN.out, HLL.out, HOC4.out, HOL4.out⟩
            case measure => simp [intOf]; omega
          · have hi1 : 0 < i := by omega
            have hib : ((i : Int) == 0) = false := by simp; omega
            obtain ⟨M, hM, hM1, hM2⟩ := HPL.out.u8 67 (kinds_u8 _ (by omega) (by omega))
            have gM := (block_cell (block_ext HK0.out hE4) 67).trans hM
            obtain ⟨bt, hbt, hbt1, hbt2⟩ := bit_u8 M (i - 1) hM1 hM2
            obtain ⟨q, hq, hq1, hq2⟩ : ∃ q : Nat, 1 + bt = (q : Int) ∧ 1 ≤ q ∧ q ≤ 2 := ⟨(1 + bt).toNat, by omega, by omega, by omega⟩
            clear hM
            obtain ⟨c0, hc0⟩ : ∃ c, (chords ++ [rows])[i - 1]? = some c := ⟨(chords ++ [rows])[i - 1]'(by have := HLN.out; omega), List.getElem?_eq_getElem _⟩
            have hd0 : (chords ++ [rows])[i]? = some rows := by rw [List.getElem?_append_right (by have := HLC.out; omega), HLC.out]; simp
            have hc01 := HOC4.out c0 (List.mem_of_getElem? hc0)
            have HC0 := Lib.hid hc0; have HD0 := Lib.hid hd0; have HC01 := Lib.hid hc01
            clear hc0 hd0 hc01
            go_wp2_with fail
            clear hw4 k1 k2 hM1 hM2 hbt hbt1 hbt2 hq gM
            have HLO : Hid (∀ b, links ≠ [] → u0.ownBlock = some b → b < w4.heap.size) := fun b hne e => (HL04.out.lt hne b e).2
            have HW4 : Hid (W0.heap.size ≤ w4.heap.size) := hE4.size
            go_loopw [8, 70] (fun l t wr => ∃ (j : Nat) (S5 : Nat → Prop) (ls : List (Int × Int)), t = .int .i64 j ∧ j ≤ q ∧ Ext W0 wr ∧ Hid (SOk S5 0 wr) ∧ Hid (S5 W0.heap.size ∧ S5 (w.heap.size + 1) ∧ ∀ b, b < w.heap.size → S5 b) ∧ Hid (wr.heap[W0.heap.size]? = some (.cells #[.slice (some ⟨w.heap.size + 1 + 1, 0, none⟩) 3 3, .slice (some ⟨gd, 0, none⟩) (i + 1) capd, vl] 55 (0, 0))) ∧
                Hid (BuildS wr S5 W0.heap.size 28 1 (.slice (some ⟨gd, 0, none⟩) (i + 1) capd) chordR (chords ++ [rows])) ∧ Hid (BuildS wr S5 W0.heap.size 112 1 vl (optR u0) (opts links)) ∧ Hid (L0 wr S5 W0.heap.size u0 links) ∧
                Hid (w4.heap.size ≤ wr.heap.size) ∧ Hid (BuildS wr S5 w4.heap.size 114 2 l linkR ls) ∧ Hid (ls.length = j) ∧ Hid (∀ x ∈ ls, 0 ≤ x.1 ∧ x.1 < c0.length ∧ 0 ≤ x.2 ∧ x.2 < rows.length)) (fun _ t _ => q - (intOf t).toNat)
            case atStart => exact ⟨0, S3, [], rfl, Nat.zero_le _, hE4, HOK4.out, HS4.out, HBK4.out, HC4.out, HL4.out, HL04.out, Nat.le_refl _, BuildS.nil _ _ _ _ _ _, rfl, by intro x hx; simp at hx⟩
            case round =>
              clear HOK4 HS4 HBK4 HC4 HL4 HL04 HR4 hE4 hEr
              obtain ⟨j, S5, ls, rfl, hjq, hEr, HOK, HS, HBK, HCH, HLK, HL0, HWR, HBL, HLSL, HLSB⟩ := hrel
              by_cases hjl : j < q
              · obtain ⟨x0, hx0, lx0, mx0⟩ := HPL.out.u8 (51 + (i - 1) * 4 + j * 2) (kinds_u8 _ (by omega) (by omega))
                obtain ⟨x1, hx1, lx1, mx1⟩ := HPL.out.u8 (51 + (i - 1) * 4 + j * 2 + 1) (kinds_u8 _ (by omega) (by omega))
                have q0 := (block_cell (block_ext HK0.out hEr) (51 + (i - 1) * 4 + j * 2)).trans hx0
                have q1 := (block_cell (block_ext HK0.out hEr) (51 + (i - 1) * 4 + j * 2 + 1)).trans hx1
                clear hx0 hx1
                obtain ⟨W9, hW9, hE9, y0c, y1c⟩ := box_two wr (.int .u8 x0) (.int .u8 x1) 46
                have hX : wr.heap.size < W9.heap.size := by rw [← hW9]; simp
                have hBK9 := block_ext HBK.out hE9
                have b1c := block_cell hBK9 1
                simp only [List.getElem?_toArray, List.getElem?_cons_zero, List.getElem?_cons_succ] at b1c
                obtain ⟨-, -, -, hcell⟩ := inCell.cells (HCH.out.ext hE9).list
                obtain ⟨b', off', hab, -, hcell⟩ := hcell (by simp)
                obtain ⟨vch, hvch, hchc⟩ := hcell (i - 1) c0 HC0.out
                simp only [Option.some.injEq, Addr.mk.injEq] at hab
                obtain ⟨rfl, rfl, -⟩ := hab
                rw [Nat.zero_add] at hchc
                obtain ⟨ach, cch, rfl, hlch, hmch, -, -⟩ := inCell.open hvch
                have hcl1 := HC01.out.1
                have hcl2 := HC01.out.2.1
                obtain ⟨n0, hn0, hn01, hn02⟩ : ∃ n0 : Nat, c0.length = n0 ∧ 1 ≤ n0 ∧ n0 ≤ 3 := ⟨_, rfl, hcl1, hcl2⟩
                rw [hn0] at hlch hchc
                have HN0 := Lib.hid hn0
                have hl0 : ¬ (n0 : Int) = 0 := by omega
                have hl2 : ¬ n0 = 0 := by omega
                have hl3 : ¬ k = 0 := by omega
                have hi1' : (1 : Int) ≤ (i : Int) := by omega
                have hl1 : ¬ (k : Int) = 0 := by omega
                have m1 : ((n0 : Int) == 0) = false := by simpa using hl0
                have m2 : ((k : Int) == 0) = false := by simpa using hl1
                have ew0 : IntKind.i64.wrap x0 = x0 := by rw [IntKind.wrap_i64]; omega
                have ew1 : IntKind.i64.wrap x1 = x1 := by rw [IntKind.wrap_i64]; omega
                obtain ⟨y0, hy0, hy01, hy02⟩ : ∃ y, x0.tmod (n0 : Int) = y ∧ 0 ≤ y ∧ y < n0 := ⟨_, Int.tmod_eq_emod_of_nonneg lx0, Int.emod_nonneg _ hl0, Int.emod_lt_of_pos _ (by omega)⟩
                obtain ⟨y1, hy1, hy11, hy12⟩ : ∃ y, x1.tmod (k : Int) = y ∧ 0 ≤ y ∧ y < k := ⟨_, Int.tmod_eq_emod_of_nonneg lx1, Int.emod_nonneg _ hl1, Int.emod_lt_of_pos _ (by omega)⟩
                have ey0 : IntKind.i64.wrap y0 = y0 := by rw [IntKind.wrap_i64]; omega
                have ey1 : IntKind.i64.wrap y1 = y1 := by rw [IntKind.wrap_i64]; omega
                have ei1 : IntKind.i64.wrap ((i : Int) - 1) = (i : Int) - 1 := by rw [IntKind.wrap_i64]; omega
                have ei2 : 0 ≤ (i : Int) - 1 := by omega
                have ei3 : ((i : Int) - 1).toNat = i - 1 := by omega
                have ei4 : (i : Int) - 1 < (i : Int) + 1 := by omega
                have hBd := HBL.out.ext hE9
                have HBd := Lib.hid (hBd.ext (Ext.drew W9))
                have HOK9 := Lib.hid ((HOK.out.grow hE9.size).grow (w' := W9.drew) (Nat.le_refl _))
                have hwB : w.heap.size + 1 ≤ w4.heap.size := by have := HW4.out; omega
                have hs9 : w4.heap.size ≤ W9.drew.heap.size := Nat.le_trans HWR.out hE9.size
                have n1 : Value.ownBlock u8 ≠ some wr.heap.size := by intro e; have := (HBL.out.lt _ e).2; omega
                have n2 : Value.ownBlock u8 ≠ some W0.heap.size := HBL.out.neBlock HBK.out (by decide)
                have n3 : Value.ownBlock u8 ≠ some gd := BuildS.apart HCH.out HBL.out (by decide) _ rfl
                have N1 : Hid (some wr.heap.size ≠ Value.ownBlock u8) := fun e => n1 e.symm
                have N2 : Hid (some W0.heap.size ≠ Value.ownBlock u8) := fun e => n2 e.symm
                have N3 : Hid (some gd ≠ Value.ownBlock u8) := fun e => n3 e.symm
                have HI7 : Hid (ls.length < 1000000) := by have := HLSL.out; unfold Hid; omega
                have HBK9 := Lib.hid (block_ext hBK9 (Ext.drew W9))
                have HCH9 := Lib.hid ((HCH.out.ext hE9).ext (Ext.drew W9))
                have HLK9 := Lib.hid ((HLK.out.ext hE9).ext (Ext.drew W9))
                have HL09 := Lib.hid ((HL0.out.ext hE9).ext (Ext.drew W9))
                have hE9d : Ext W0 W9.drew := Below.drew (Ext.trans hEr hE9)
                unfold maxLen at hmch
                clear hvch hcell hBK9 hBd n1 n2 n3 HBL HOK HBK HCH HLK HL0 hn0 hcl1 hcl2
                go_wp2_with fail
                clear hW9 q0 q1 hE9
                go_region_held3 (fun w' => w'.cell? ⟨wr.heap.size, 0, none⟩ = some (.int .u8 x0) ∧ w'.cell? ⟨wr.heap.size, 1, none⟩ = some (.int .u8 x1) ∧ w'.cell? ⟨W0.heap.size, 1, none⟩ = some (.slice (some ⟨gd, 0, none⟩) (i + 1) capd) ∧ w'.cell? ⟨gd, i - 1, none⟩ = some (.slice ach n0 cch))
                  (first | go_keep | exact ⟨hg6.cell (a := ⟨wr.heap.size, 0, none⟩) y0c N1.out, hg6.cell (a := ⟨wr.heap.size, 1, none⟩) y1c N1.out, hg6.cell (a := ⟨W0.heap.size, 1, none⟩) b1c N2.out, hg6.cell (a := ⟨gd, i - 1, none⟩) hchc N3.out⟩)
                  ((refine step_append_buildS W9.drew (by rfl) _ _ 112 (by rfl) S5 w4.heap.size 114 (.agg #[.int .i64 0, .int .i64 0]) 2 16 Tryz.underlying112 infoLink (by rfl) (by decide) u8 linkR ls (y0, y1) #[.int .i64 y0, .int .i64 y1] 114 (by rfl) HBd.out W9.heap.size (by rfl) (by rfl) (by rfl) (by simp [Value.oneCell']) (fun _ _ => ⟨by rfl, by constructor <;> (dsimp only; omega), by constructor <;> (dsimp only; omega)⟩) HI7.out (by decide) hs9 0 (Nat.zero_le _) HOK9.out ?_; intro l' w5 S6 hok6 hS61 hS62 hB6 hg6 hb6 hs6 _))
                have hE5 : Below W0.heap.size W0 w5 := Below.trans hE9d (Below.mono hb6 HW4.out)
                have HW5 : Hid (w4.heap.size ≤ w5.heap.size) := Nat.le_trans hs9 hb6.size
                have HOK6 := Lib.hid hok6
                have HS6 := Lib.hid (And.intro (hS61 _ HS.out.1) (And.intro (hS61 _ HS.out.2.1) (fun b (hb : b < w.heap.size) => hS61 b (HS.out.2.2 b hb))))
                have HBK6 := Lib.hid (block_grown HBK9.out hg6 (fun e => N2.out e.symm))
                have HCH6 := Lib.hid (HCH9.out.other (S' := S6) hg6 HBd.out.1 (BuildS.apart HCH9.out HBd.out (by decide)) hS62 hS61)
                have HLK6 := Lib.hid (HLK9.out.other (S' := S6) hg6 HBd.out.1 (BuildS.apart HLK9.out HBd.out (by decide)) hS62 hS61)
                have HL06 := Lib.hid (HL09.out.other (S' := S6) hg6 HBd.out.1 (fun hne b hb e => by have := HLO.out b hne hb; have := (HBd.out.lt b e).1; omega) hS62 hS61)
                have HBL6 := Lib.hid hB6
                clear hok6 hS61 hS62 hB6 hg6 hb6 HBK9 HCH9 HLK9 HL09 HBd HOK9 y0c y1c b1c hchc hE9d
                go_wp2_with fail
                go_roundw
                case rel =>
                  refine ⟨j + 1, S6, ls ++ [(y0, y1)], by go_num, by omega, hE5, HOK6.out, HS6.out, HBK6.out, HCH6.out, HLK6.out, HL06.out, HW5.out, HBL6.out, ?_, ?_⟩
                  · have := HLSL.out; simp [Hid, this]
                  · intro x hx
                    rcases List.mem_append.1 hx with hx | hx
                    · exact HLSB.out x hx
                    · rw [List.mem_singleton.1 hx]
                      have e1 := HN0.out; have e2 := HRL.out
                      exact ⟨hy01, by dsimp only; omega, hy11, by dsimp only; omega⟩
                case measure => simp [intOf]; omega
              · obtain rfl : j = q := by omega
                obtain ⟨gl, capl, rfl, hgl1, hgl2, hgl3, hgl4⟩ := HBL.out.shape (by have := HLSL.out; omega)
                have hll : ls.length = j := HLSL.out
                have hneC := BuildS.apart HCH.out HBL.out (by decide)
                have hneL := BuildS.apart HLK.out HBL.out (by decide)
                have hneB := HBL.out.neBlock HBK.out (by decide)
                obtain ⟨S6, u1, y, HRS, HCH1, HLK1, HL01, HS1, HOK1, HYO⟩ : ∃ (S6 : Nat → Prop) (u1 : Value) (y : Option (List (Int × Int))), Hid (SafeS wr S6 fun w => optR u1 w [.slice (some ⟨gl, 0, none⟩) ls.length capl] y) ∧ Hid (BuildS wr S6 W0.heap.size 28 1 (.slice (some ⟨gd, 0, none⟩) (i + 1) capd) chordR (chords ++ [rows])) ∧ Hid (BuildS wr S6 W0.heap.size 112 1 vl (optR u1) (opts links)) ∧ Hid (L0 wr S6 W0.heap.size u1 (links ++ [ls])) ∧ Hid (S6 W0.heap.size ∧ S6 (w.heap.size + 1) ∧ ∀ b, b < w.heap.size → S6 b) ∧ Hid (SOk S6 0 wr) ∧ Hid (opts links ++ [y] = opts (links ++ [ls])) := by
                  by_cases hl1 : links = []
                  · subst hl1
                    exact ⟨S5, .slice (some ⟨gl, 0, none⟩) ls.length capl, none, fun _ _ => rfl, HCH.out, HLK.out.ofNil _, HBL.out.low HW4.out, HS.out, HOK.out, rfl⟩
                  · have hb0 : ∀ b, u0.ownBlock = some b → b ≠ gl := fun b hb e => by have := HLO.out b hl1 hb; omega
                    exact ⟨fun b => S5 b ∧ b ≠ gl, u0, some ls, (HBL.out.finish rfl).mono (fun w h => ⟨_, rfl, h⟩), HCH.out.drop (g := gl) (fun e => hneC _ e rfl), HLK.out.drop (g := gl) (fun e => hneL _ e rfl), L0.more hl1 (HL0.out.drop (g := gl) (fun _ e => hb0 gl e rfl)) _, ⟨⟨HS.out.1, fun e => hneB (by rw [e]; rfl)⟩, ⟨HS.out.2.1, by have := HW4.out; omega⟩, fun b hb => ⟨HS.out.2.2 b hb, by have := HW4.out; omega⟩⟩, fun b hb => HOK.out b hb.1, (opts_snoc hl1 ls).symm⟩
                clear HOK HS HCH HLK HL0 HBL hneC hneL hneB
                have g0 := block_cell HBK.out 0; have g1 := block_cell HBK.out 1; have g2 := block_cell HBK.out 2
                have f2 := block_free HBK.out 2
                simp only [List.getElem?_toArray, List.getElem?_cons_zero, List.getElem?_cons_succ] at g0 g1 g2
                have hs1 := hEr.size
                have HI5 : Hid ((opts links).length < 1000000) := by have := HLL.out; unfold Hid; rw [opts_len]; omega
                rw [hll] at HRS hgl3
                rw [hll]
                have HLSL := Lib.hid hll
                clear hll
                go_wp2_with (at_builtin; go_must (refine wpList_append_buildS _ rfl _ _ 53 rfl S6 W0.heap.size 112 (.slice none 0 0) 1 24 Tryz.underlying53 infoLinks rfl (by decide) vl (optR u1) (opts links) y #[.slice (some ⟨gl, 0, none⟩) j capl] 112 rfl HLK1.out _ rfl rfl rfl ?c1 HRS.out HI5.out ?c3 hs1 0 (by omega) HOK1.out ?_))
                case c1 => simp [Value.oneCell']
                case c3 => omega
                intro vl' w5 S7 hok7 hS71 hS72 hB7 hg7 hb7 hs7 hsafe7
                rw [HYO.out] at hB7
                obtain ⟨gm, capm, rfl, hgm1, hgm2, hgm3, hgm4⟩ := hB7.shape (by rw [opts_len]; simp)
                rw [opts_len] at hB7 hgm3 ⊢
                have hLn : (links ++ [ls]).length = i := by have := HLL.out; simp [this]; omega
                rw [hLn] at hB7 hgm3
                rw [hLn]
                have hne1 := HLK1.out.neBlock HBK.out (by decide)
                have hBK7 := block_grown HBK.out hg7 hne1
                have hC7 := HCH1.out.other (S' := S7) hg7 HLK1.out.1 (BuildS.apart HCH1.out HLK1.out (by decide)) hS72 hS71
                have hL07 := HL01.out.other (S' := S7) hg7 HLK1.out.1 (L0.apart HL01.out HLK1.out (by decide)) hS72 hS71
                have hS7 := hS71 _ HS1.out.1
                have hS7b := hS71 _ HS1.out.2.1
                have hS7c : ∀ b, b < w.heap.size → S7 b := fun b hb => hS71 b (HS1.out.2.2 b hb)
                have HL8 := Lib.hid (hB7.store (i := 2) (x := .slice (some ⟨gm, 0, none⟩) i capm) hS7 (hB7.neBlock hBK7 (by decide)))
                have HC8 := Lib.hid (hC7.store (i := 2) (x := .slice (some ⟨gm, 0, none⟩) i capm) hS7 (hC7.neBlock hBK7 (by decide)))
                have HL08 := Lib.hid (hL07.store (i := 2) (x := .slice (some ⟨gm, 0, none⟩) i capm) hS7 (L0.neBlock hL07 hBK7 (by decide)))
                have hBK8 := block_set hBK7 2 (.slice (some ⟨gm, 0, none⟩) i capm)
                have k1 := block_cell hBK7 2
                have k2 := block_free hBK7 2
                simp only [List.getElem?_toArray, List.getElem?_cons_zero, List.getElem?_cons_succ] at k1
                have HS8 := Lib.hid (And.intro hS7 (And.intro hS7b hS7c))
                have hE8 : Below W0.heap.size W0 (w5.setCell ⟨W0.heap.size, 2, none⟩ (.slice (some ⟨gm, 0, none⟩) i capm)) := (Below.trans hEr hb7).setCell (Nat.le_refl _) _
                have HOK8 := Lib.hid (SOk.grow hok7 (w' := w5.setCell ⟨W0.heap.size, 2, none⟩ (.slice (some ⟨gm, 0, none⟩) i capm)) (by simp [World.setCell]))
                generalize hw8 : w5.setCell ⟨W0.heap.size, 2, none⟩ (.slice (some ⟨gm, 0, none⟩) i capm) = w8 at *
                have HBK8 : Hid (w8.heap[W0.heap.size]? = some (.cells #[.slice (some ⟨w.heap.size + 1 + 1, 0, none⟩) 3 3, .slice (some ⟨gd, 0, none⟩) (i + 1) capd, .slice (some ⟨gm, 0, none⟩) i capm] 55 (0, 0))) := hBK8
                have HOL8 : Hid (okLinks (chords ++ [rows]) (links ++ [ls])) := by
                  have e1 := HLL.out
                  have e2 := HLSL.out
                  refine okLinks_snoc HOL4.out ls (by omega) (by omega) c0 rows ?_ ?_ HLSB.out
                  · rw [e1]; exact HC0.out
                  · rw [e1, show i - 1 + 1 = i by omega]; exact HD0.out
                have HLN8 : Hid ((links ++ [ls]).length = i + 1 - 1) := by unfold Hid; omega
                clear hok7 hS71 hS72 hB7 hg7 hb7 hsafe7 hne1 hBK7 hC7 hL07 hS7 hS7b hBK8 hLn HCH1 HLK1 HL01 HRS HOK1 HS1 HBK HYO g0 g1 g2 f2
                go_wp2_with fail
                go_roundw
                case rel => exact ⟨i + 1, S7, u1, .slice (some ⟨gd, 0, none⟩) (i + 1) capd, .slice (some ⟨gm, 0, none⟩) i capm, chords ++ [rows], links ++ [ls], by go_num, by omega, hE8, HOK8.out, HS8.out, HBK8.out, HC8.out, HL8.out, HL08.out, HLN.out, HLN8.out, HOC4.out, HOL8.out⟩
                case measure => simp [intOf]; omega
    · obtain rfl : i = n := by omega
      have g0 := block_cell HBK.out 0; have g1 := block_cell HBK.out 1; have g2 := block_cell HBK.out 2
      simp only [List.getElem?_toArray, List.getElem?_cons_zero, List.getElem?_cons_succ] at g0 g1 g2
      have hK1 := block_ext HK1.out hEr
      have r0 := block_cell hK1 0; have r1 := block_cell hK1 1; have r2 := block_cell hK1 2
      have s0 := block_free hK1 0; have s1 := block_free hK1 1; have s2 := block_free hK1 2
      simp only [List.getElem?_toArray, List.getElem?_cons_zero, List.getElem?_cons_succ] at r0 r1 r2
      obtain ⟨ac, cc, rfl, -, -, -, -⟩ := inCell.open HCH.out.list
      obtain ⟨al, cl, hal, -, -, -, -⟩ := ListAt.open HLK.out.list
      rw [opts_len] at hal
      subst hal
      have hn1 : Value.ownBlock (.slice ac chords.length cc) ≠ some (w.heap.size + 1) := by intro e; have := (HCH.out.lt _ e).1; omega
      have hn2 : Value.ownBlock (.slice al links.length cl) ≠ some (w.heap.size + 1) := by intro e; have := (HLK.out.lt _ e).1; omega
      have hS2 := HS.out.2.1
      have hS9 := HS.out.2.2
      have hok9 : ∀ b, S b → b < wo.heap.size := fun b hb => (HOK.out b hb).2
      have HCd := Lib.hid ((((HCH.out.store (i := 0) (x := .slice (some ⟨w.heap.size + 1 + 1, 0, none⟩) 3 3) hS2 hn1).store (i := 1) (x := .slice ac chords.length cc) hS2 hn1).store (i := 2) (x := .slice al links.length cl) hS2 hn1))
      have HLd := Lib.hid ((((HLK.out.store (i := 0) (x := .slice (some ⟨w.heap.size + 1 + 1, 0, none⟩) 3 3) hS2 hn2).store (i := 1) (x := .slice ac chords.length cc) hS2 hn2).store (i := 2) (x := .slice al links.length cl) hS2 hn2))
      have hn3 : links ≠ [] → u0.ownBlock ≠ some (w.heap.size + 1) := by intro hne e; have := (HL0.out.lt hne _ e).1; omega
      have HL0d := Lib.hid ((((HL0.out.store (i := 0) (x := .slice (some ⟨w.heap.size + 1 + 1, 0, none⟩) 3 3) hS2 hn3).store (i := 1) (x := .slice ac chords.length cc) hS2 hn3).store (i := 2) (x := .slice al links.length cl) hS2 hn3))
      have hgs : ∀ (w' : World) (i : Nat) (x : Value), GrownS (fun b => b = w.heap.size + 1) w' (w'.setCell ⟨w.heap.size + 1, i, none⟩ x) := fun w' i x => grownBy_S (grown_setCell w' (w.heap.size + 1) i x) (fun b hb => by cases hb; rfl)
      have HPd : Hid (SafeS (((wo.setCell ⟨w.heap.size + 1, 0, none⟩ (.slice (some ⟨w.heap.size + 1 + 1, 0, none⟩) 3 3)).setCell ⟨w.heap.size + 1, 1, none⟩ (.slice ac chords.length cc)).setCell ⟨w.heap.size + 1, 2, none⟩ (.slice al links.length cl)) (fun b => S b ∧ (W0.heap.size ≤ b ∨ b < w.heap.size)) fun w' => Ints w' (.slice (some ⟨w.heap.size + 1 + 1, 0, none⟩) 3 3) [2, 3, 5]) :=
        (SafeS.ints (S := fun b => b = w.heap.size + 1 ∨ W0.heap.size ≤ b ∨ b < w.heap.size) (Ints.ext HP0.out hEr) (by omega)).grow ((((hgs wo 0 (.slice (some ⟨w.heap.size + 1 + 1, 0, none⟩) 3 3)).trans (hgs _ 1 (.slice ac chords.length cc))).trans (hgs _ 2 (.slice al links.length cl))).weak fun k _ hk => .inl hk) (fun k hk => .inl (.inr hk.2))
      have hsh : ∀ b, (S b ∧ (W0.heap.size ≤ b ∨ b < w.heap.size)) → S b := fun b hb => hb.1
      have HCs := Lib.hid ((HCd.out.shrink (S' := fun b => S b ∧ (W0.heap.size ≤ b ∨ b < w.heap.size)) hsh (fun b hb => ⟨HCd.out.1 b hb, .inl (HCd.out.lt b hb).1⟩)).low (base' := w.heap.size) (by omega))
      have HLs := Lib.hid ((HLd.out.shrink (S' := fun b => S b ∧ (W0.heap.size ≤ b ∨ b < w.heap.size)) hsh (fun b hb => ⟨HLd.out.1 b hb, .inl (HLd.out.lt b hb).1⟩)).low (base' := w.heap.size) (by omega))
      have HL0s := Lib.hid ((HL0d.out.shrink (S' := fun b => S b ∧ (W0.heap.size ≤ b ∨ b < w.heap.size)) hsh (fun b hne hb hs => ⟨hs, .inl (HL0d.out.lt hne b hb).1⟩)).low (B' := w.heap.size) (by omega))
      have t0 := block_set (block_set (block_set hK1 0 (.slice (some ⟨w.heap.size + 1 + 1, 0, none⟩) 3 3)) 1 (.slice ac chords.length cc)) 2 (.slice al links.length cl)
      have hEw : Ext w wo := hE0.trans hEr
      have hEf : Ext w (((wo.setCell ⟨w.heap.size + 1, 0, none⟩ (.slice (some ⟨w.heap.size + 1 + 1, 0, none⟩) 3 3)).setCell ⟨w.heap.size + 1, 1, none⟩ (.slice ac chords.length cc)).setCell ⟨w.heap.size + 1, 2, none⟩ (.slice al links.length cl)) :=
        ((Below.setCell hEw (p := ⟨w.heap.size + 1, 0, none⟩) (by dsimp only; omega) _).setCell (p := ⟨w.heap.size + 1, 1, none⟩) (by dsimp only; omega) _).setCell (p := ⟨w.heap.size + 1, 2, none⟩) (by dsimp only; omega) _
      have HEf := Lib.hid hEf
      have T0 := Lib.hid t0
      have HPW : Hid (PlanWk { primes := [2, 3, 5], chords := chords, links := links }) :=
        ⟨rfl, HOC.out, by have := HLC.out; dsimp only; omega, by have := HLC.out; dsimp only; omega, by have e1 := HLC.out; have e2 := HLL.out; dsimp only; omega, HOL.out⟩
      have HSL := Lib.hid hS9
      have HSO : Hid (∀ b, S b → b < (((wo.setCell ⟨w.heap.size + 1, 0, none⟩ (.slice (some ⟨w.heap.size + 1 + 1, 0, none⟩) 3 3)).setCell ⟨w.heap.size + 1, 1, none⟩ (.slice ac chords.length cc)).setCell ⟨w.heap.size + 1, 2, none⟩ (.slice al links.length cl)).heap.size) := fun b hb => by have := hok9 b hb; simpa [World.setCell] using this
      clear hS9 hok9
      clear HCH HLK HL0 HOK HS HBK hgs hEf hE0 hS2 hn1 hn2 hn3 t0 hK1 HP0 HK0 HK1 hsh HCd HLd HL0d
      go_wp2_with fail
      have d0 := block_cell T0.out 0; have d1 := block_cell T0.out 1; have d2 := block_cell T0.out 2
      simp only [List.getElem?_toArray, List.getElem?_cons_zero, List.getElem?_cons_succ, List.setIfInBounds_toArray, List.set_cons_succ, List.set_cons_zero] at d0 d1 d2
      refine bodyPost_ret (v := .agg #[.slice (some ⟨w.heap.size + 1 + 1, 0, none⟩) 3 3, .slice ac chords.length cc, .slice al links.length cl]) ?_ rfl ⟨_, _, _, { primes := [2, 3, 5], chords := chords, links := links }, fun b => S b ∧ (W0.heap.size ≤ b ∨ b < w.heap.size), u0, rfl, HEf.out, ⟨fun b hb => ⟨HSL.out b hb, .inr hb⟩, fun b hb => HSO.out b hb.1, HPd.out, HCs.out, HLs.out, HL0s.out⟩, HPW.out⟩
      simp [results, Tryz.results14, go_sem, d0, d1, d2]
end Go.Proofs.YtjihfabhgcfjnaaGreatDoor
