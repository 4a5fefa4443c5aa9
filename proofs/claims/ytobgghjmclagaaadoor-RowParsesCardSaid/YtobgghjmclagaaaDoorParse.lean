/- row.Parse, as a contract. -/
import Derived.Test.YtobgghjmclagaaaDoorNumS
import Derived.Test.YtobgghjmclagaaaDoorRowB
namespace Go.Proofs.YtobgghjmclagaaaDoor
set_option linter.unusedVariables false
set_option linter.unusedSimpArgs false
open Go.RowKit

/-- What the library's tables and variables hold, where Parse reads them. -/
structure LibW (w : World) : Prop where
  pow : Pow10 w
  len : ∃ m, w.cell? ⟨3, 0, none⟩ = some (.int .i64 m)
  rng : ∃ te pe, w.cell? ⟨1, 0, none⟩ = some (.iface te pe)
theorem LibW.ext {w w' : World} (h : LibW w) (he : Ext w w') : LibW w' := by
  obtain ⟨m, hm⟩ := h.len
  obtain ⟨te, pe, hr⟩ := h.rng
  exact ⟨h.pow.ext he, ⟨m, he.cell hm⟩, ⟨te, pe, he.cell hr⟩⟩

theorem pre_hit (c : UInt8) (r : List UInt8) : Lib.hasPrefix (c :: r) [c] = true ∧ Lib.trimPrefix (c :: r) [c] = r := by
  have h : Lib.hasPrefix (c :: r) [c] = true := by simp [Lib.hasPrefix, List.isPrefixOf]
  exact ⟨h, by unfold Lib.trimPrefix; rw [if_pos h]; rfl⟩
theorem pre_miss (l : List UInt8) (c : UInt8) (hl : l.head? ≠ some c) : Lib.hasPrefix l [c] = false ∧ Lib.trimPrefix l [c] = l := by
  have h : Lib.hasPrefix l [c] = false := by
    cases l with
    | nil => rfl
    | cons d r =>
      have hd : (c == d) = false := beq_false_of_ne (fun e => hl (by rw [e]; rfl))
      simp [Lib.hasPrefix, List.isPrefixOf, hd]
  exact ⟨h, by unfold Lib.trimPrefix; rw [if_neg (by rw [h]; exact Bool.false_ne_true)]⟩
theorem suf_hit (l : List UInt8) (c : UInt8) (hl : l.getLast? = some c) : Lib.hasSuffix l [c] = true ∧ Lib.trimSuffix l [c] = l.dropLast := by
  obtain ⟨r, rfl⟩ := List.getLast?_eq_some_iff.1 hl
  have h : Lib.hasSuffix (r ++ [c]) [c] = true := by
    unfold Lib.hasSuffix
    rw [List.isSuffixOf_iff_suffix]
    exact List.suffix_append r [c]
  refine ⟨h, ?_⟩
  unfold Lib.trimSuffix; rw [if_pos h]
  simp
theorem suf_miss (l : List UInt8) (c : UInt8) (hl : l.getLast? ≠ some c) : Lib.hasSuffix l [c] = false ∧ Lib.trimSuffix l [c] = l := by
  have h : Lib.hasSuffix l [c] = false := by
    rw [← Bool.not_eq_true]
    intro h
    unfold Lib.hasSuffix at h
    rw [List.isSuffixOf_iff_suffix] at h
    obtain ⟨r, hr⟩ := h
    exact hl (by rw [← hr]; simp)
  exact ⟨h, by unfold Lib.trimSuffix; rw [if_neg (by rw [h]; exact Bool.false_ne_true)]⟩

def strL (l : List UInt8) : ByteArray := ⟨l.toArray⟩
theorem strL_data (l : List UInt8) : (strL l).data.toList = l := by unfold strL; simp
theorem strL_self (s : ByteArray) : strL s.data.toList = s := by unfold strL; simp
theorem strL_size (l : List UInt8) : (strL l).size = l.length := by rw [Lib.size_eq, strL_data]

theorem cutPre_hit (l : List UInt8) (c : UInt8) (r : List UInt8) (h : l = c :: r) (w : World) :
    Calls Tryd.prog 72 #[.string (strL l), .string ⟨#[c]⟩] w fun e w' => e = .returned (.tuple #[.string (strL r), .bool true]) ∧ w = w' :=
  (Tryd.strings_CutPrefix (strL l) ⟨#[c]⟩ w).mono fun e w' ⟨h1, h2⟩ => ⟨by
    rw [strL_data, h] at h1
    obtain ⟨k1, k2⟩ := pre_hit c r
    rw [show (⟨#[c]⟩ : ByteArray).data.toList = [c] from rfl, k1, k2] at h1
    exact h1, h2.symm⟩
theorem cutPre_miss (l : List UInt8) (c : UInt8) (h : l.head? ≠ some c) (w : World) :
    Calls Tryd.prog 72 #[.string (strL l), .string ⟨#[c]⟩] w fun e w' => e = .returned (.tuple #[.string (strL l), .bool false]) ∧ w = w' :=
  (Tryd.strings_CutPrefix (strL l) ⟨#[c]⟩ w).mono fun e w' ⟨h1, h2⟩ => ⟨by
    obtain ⟨k1, k2⟩ := pre_miss l c h
    rw [strL_data, show (⟨#[c]⟩ : ByteArray).data.toList = [c] from rfl, k1, k2] at h1
    exact h1, h2.symm⟩
theorem cutSuf_hit (l : List UInt8) (c : UInt8) (h : l.getLast? = some c) (hl : l.length ≤ 65536) (w : World) :
    Calls Tryd.prog 73 #[.string (strL l), .string ⟨#[c]⟩] w fun e w' => e = .returned (.tuple #[.string (strL l.dropLast), .bool true]) ∧ w = w' :=
  (Tryd.strings_CutSuffix (strL l) ⟨#[c]⟩ w (by rw [strL_size]; omega)).mono fun e w' ⟨h1, h2⟩ => ⟨by
    obtain ⟨k1, k2⟩ := suf_hit l c h
    rw [strL_data, show (⟨#[c]⟩ : ByteArray).data.toList = [c] from rfl, k1, k2] at h1
    exact h1, h2.symm⟩
theorem cutSuf_miss (l : List UInt8) (c : UInt8) (h : l.getLast? ≠ some c) (hl : l.length ≤ 65536) (w : World) :
    Calls Tryd.prog 73 #[.string (strL l), .string ⟨#[c]⟩] w fun e w' => e = .returned (.tuple #[.string (strL l), .bool false]) ∧ w = w' :=
  (Tryd.strings_CutSuffix (strL l) ⟨#[c]⟩ w (by rw [strL_size]; omega)).mono fun e w' ⟨h1, h2⟩ => ⟨by
    obtain ⟨k1, k2⟩ := suf_miss l c h
    rw [strL_data, show (⟨#[c]⟩ : ByteArray).data.toList = [c] from rfl, k1, k2] at h1
    exact h1, h2.symm⟩

/-- strings.Split at a space: the words. -/
theorem splitB_len (sep : ByteArray) (hs : 1 ≤ sep.size) : ∀ (n : Nat) (s : ByteArray), s.size ≤ n → (Lib.splitB sep 0 (Lib.countB s sep) s).length = Lib.countB s sep + 1 := by
  intro n
  induction n with
  | zero =>
    intro s h
    by_cases hi : Lib.indexB s sep = -1
    · rw [Lib.countB_miss s sep hi, Lib.splitB_zero]; rfl
    · exfalso
      have : s.data.toList = [] := by rw [Lib.size_eq] at h; exact List.eq_nil_of_length_eq_zero (by omega)
      apply hi
      unfold Lib.indexB
      rw [this]
      have hne : sep.data.toList ≠ [] := by intro e; rw [Lib.size_eq, e] at hs; simp at hs
      unfold Lib.index
      rw [if_neg (by simpa using hne)]
  | succ n ih =>
    intro s h
    by_cases hi : Lib.indexB s sep = -1
    · rw [Lib.countB_miss s sep hi, Lib.splitB_zero]; rfl
    · have hge : -1 ≤ Lib.indexB s sep := Lib.index_ge _ _
      obtain ⟨i, hi'⟩ : ∃ i : Nat, Lib.indexB s sep = i := ⟨(Lib.indexB s sep).toNat, by omega⟩
      have hne : sep.data.toList ≠ [] := by intro e; rw [Lib.size_eq, e] at hs; simp at hs
      have hlt : (s.extract (i + sep.size) s.size).size < s.size := by
        have := Lib.drop_shorter (s := s.data.toList) (sub := sep.data.toList) hne (by
          show ¬ (Lib.indexB s sep == -1) = true
          simpa using hi)
        rw [show Lib.index s.data.toList sep.data.toList = (i : Int) from hi'] at this
        rw [Lib.size_eq, Lib.extract_to_end, Lib.size_eq s, Lib.size_eq sep]
        simpa using this
      rw [Lib.countB_hit s sep i hs hi', Nat.add_comm 1, Lib.splitB_hit sep 0 _ s i hi', List.length_cons, ih _ (by omega)]

theorem split_any (l : List UInt8) (hl : l.length ≤ 65536) (w : World) (hw : LibW w) :
    Calls Tryd.prog 74 #[.string (strL l), .string ⟨#[32]⟩] w fun e w' => ∃ (a : Option Addr) (c : Nat) (ws : List ByteArray), e = .returned (.slice a ws.length c) ∧ Words w' (.slice a ws.length c) ws ∧ ws.map (·.data.toList) = wordsL [] l ∧ ws.length ≤ 65537 ∧ Ext w w' := by
  obtain ⟨m, hm⟩ := hw.len
  refine (Tryd.strings_Split (strL l) ⟨#[32]⟩ m w (by rw [strL_size]; omega) hm (by decide)).mono fun e w' ⟨h1, h2⟩ => ?_
  have hlen := splitB_len ⟨#[32]⟩ (by decide) _ (strL l) (Nat.le_refl _)
  have hd := Lib.splitB_data ⟨#[32]⟩ 0 (Lib.countB (strL l) ⟨#[32]⟩) (strL l)
  have hcw : Lib.countB (strL l) ⟨#[32]⟩ = Lib.count l [32] := by
    show Lib.count (strL l).data.toList _ = _
    rw [strL_data]
  have hdd : (Lib.splitB ⟨#[32]⟩ 0 (Lib.countB (strL l) ⟨#[32]⟩) (strL l)).map (·.data.toList) = wordsL [] l := by
    rw [hd, strL_data, hcw]
    exact split_words _ l (Nat.le_refl _)
  obtain ⟨ws, hws⟩ : ∃ ws, ws = Lib.splitB ⟨#[32]⟩ 0 (Lib.countB (strL l) ⟨#[32]⟩) (strL l) := ⟨_, rfl⟩
  rw [← hws] at hlen hdd h2
  have hwl : ws.length ≤ 65537 := by
    have : ws.length = (wordsL [] l).length := by rw [← hdd, List.length_map]
    rw [this]
    exact Nat.le_trans (wordsL_len l []) (by omega)
  refine ⟨some ⟨w.heap.size, 0, none⟩, ws.length, ws, by rw [h1, hlen], ?_, hdd, hwl, ?_⟩
  · rw [h2]
    refine ⟨ws.map fun s => [Value.string s], by simp, by simp, ?_, ?_⟩
    · rw [flatten_one]
      exact SeqAt.lit w _ ws.length _ (by unfold maxLen; omega)
    · intro j u x hu hx
      simp only [List.getElem?_map, hx, Option.map_some, Option.some.injEq] at hu
      exact hu.symm
  · rw [h2]; exact Ext.alloc _ _

/-- strconv.Atoi of a canonical numeral. -/
theorem atoi_fits (x : ByteArray) (hx : x.size ≤ 100000) (hc : canonS x.data.toList = true) (hv : -9223372036854775808 ≤ numS x.data.toList ∧ numS x.data.toList ≤ 9223372036854775807) (w : World) :
    Calls Tryd.prog 78 #[.string x] w fun e w' => e = .returned (.tuple #[.int .i64 (numS x.data.toList), .nilIface]) ∧ Ext w w' :=
  (Tryd.strconv_Atoi_ok x (by omega) _ (atoi_canon_ok hc hv) w).mono fun e w' ⟨h1, h2⟩ => ⟨h1, by
    rcases h2 with rfl | ⟨t, rfl⟩
    · exact Ext.refl _
    · exact ⟨rfl, rfl, rfl, by rw [Lib.bytesWorld_size]; omega, fun j hj => Lib.bytesWorld_at_old w _ t j hj⟩⟩
theorem atoi_beyond (x : ByteArray) (hx : x.size ≤ 100000) (hc : canonS x.data.toList = true) (hv : ¬ (-9223372036854775808 ≤ numS x.data.toList ∧ numS x.data.toList ≤ 9223372036854775807)) (w : World) (hw : LibW w) :
    Calls Tryd.prog 78 #[.string x] w fun e w' => ∃ n T p, e = .returned (.tuple #[.int .i64 n, .iface T p]) ∧ Ext w w' := by
  obtain ⟨te, pe, hr⟩ := hw.rng
  exact (Tryd.strconv_Atoi_range x (by omega) (atoi_canon_range hc hv) _ w hr (.inr ⟨te, pe, rfl⟩)).mono fun e w' ⟨N, h1, h2, h3, h4⟩ => ⟨_, _, _, h1, h4⟩

theorem wordB_any (x : ByteArray) (w : World) (hx : x.size ≤ 100000) :
    Calls Tryd.prog 76 #[.string x] w fun e w' => e = .returned (.bool (!canonS x.data.toList)) ∧ Ext w w' := by
  have HC := Lib.hid (canonical_any x w hx)
  go_enter Tryd.func76, Tryd.ntmps76
  go_wp2_with fail
  refine HC.out.mono ?_
  rintro e w1 ⟨rfl, hE1⟩
  have HE1 := Lib.hid hE1
  clear hE1 HC
  go_wp2_with fail
  go_ret
  exact ⟨rfl, HE1.out⟩

/-- What a text's reading ends in. -/
def ParseR (p : List Int × Bool × Int) (w : World) (e : Ending) (w' : World) : Prop :=
  ∃ a c, e = .returned (.tuple #[.slice a p.1.length c, .bool p.2.1, .int .i64 p.2.2]) ∧ Ints w' (.slice a p.1.length c) p.1 ∧ Ext w w'
theorem ints_none0 (w : World) : Ints w (.slice none 0 0) [] := ⟨[], rfl, by simp, ⟨none, 0, rfl, Nat.le_refl _, Nat.zero_le _, fun _ => rfl, fun h => absurd rfl h⟩, by simp⟩
theorem parseR_none {w w' : World} {p : List Int × Bool × Int} {n : Int} (h : p = ([], false, n)) (he : Ext w w') : ParseR p w (.returned (.tuple #[.slice none 0 0, .bool false, .int .i64 n])) w' := by
  subst h; exact ⟨none, 0, rfl, ints_none0 w', he⟩

set_option maxRecDepth 100000 in
set_option maxHeartbeats 2000000 in
theorem parse_ket (r : List UInt8) (w : World) (hl : r.length < 65536) (hw : LibW w) :
    Calls Tryd.prog 50 #[.string (strL (91 :: r))] w (ParseR (parseS (91 :: r)) w) := by
  have HW := Lib.hid hw
  have HS : Hid (parseS (91 :: r) = if r.getLast? = some 62 then parseIn r.dropLast true else ([], false, 15)) := by
    unfold Hid parseS; rw [if_neg (by rw [List.length_cons]; omega)]; rfl
  have hsz : (strL (91 :: r)).size = r.length + 1 := by rw [strL_size, List.length_cons]
  have hq : ¬ (65536 : Int) < (r.length : Int) + 1 := by omega
  have HP1 := Lib.hid (cutPre_hit (91 :: r) 91 r rfl w)
  clear hw
  by_cases hs : r.getLast? = some 62
  · have HC := Lib.hid (cutSuf_hit r 62 hs (by omega) w)
    rw [if_pos hs] at HS
    obtain ⟨i, hi⟩ : ∃ i, i = r.dropLast := ⟨_, rfl⟩
    have hil : i.length ≤ 65536 := by rw [hi, List.length_dropLast]; omega
    rw [← hi] at HS HC
    clear hi hs
    by_cases hn : i = []
    · have HR : Hid (parseS (91 :: r) = ([], true, 0)) := by
        unfold Hid; rw [HS.out]; unfold parseIn; rw [if_pos hn]
      have he : (strL i).toList = [] := by rw [Lib.toList_data, strL_data]; exact hn
      have he' : (strL i).toList.isEmpty = true := by rw [he]; rfl
      clear hn hil
      go_enter Tryd.func50, Tryd.ntmps50
      go_wp2_with fail
      refine HP1.out.mono ?_
      rintro e w' ⟨rfl, rfl⟩
      clear HP1
      go_wp2_with fail
      refine HC.out.mono ?_
      rintro e w' ⟨rfl, rfl⟩
      clear HC
      go_wp2_with fail
      go_ret3
      rw [HR.out]
      exact ⟨_, _, rfl, Ints.lit w [] _ (by simp) (by simp), Ext.alloc _ _⟩
    · have he : ¬ (strL i).toList = [] := by rw [Lib.toList_data, strL_data]; exact hn
      have he' : (strL i).toList.isEmpty = false := by simpa using he
      have HV : Hid (parseS (91 :: r) = if (wordsL [] i).all canonS then (if rowE ((wordsL [] i).map numS) = 0 then ((wordsL [] i).map numS, true, 0) else ([], false, 4)) else ([], false, 15)) := by
        unfold Hid; rw [HS.out]; unfold parseIn; rw [if_neg hn]
      have HSP := Lib.hid (split_any i hil w HW.out)
      clear hn he
      go_enter Tryd.func50, Tryd.ntmps50
      go_wp2_with fail
      refine HP1.out.mono ?_
      rintro e w' ⟨rfl, rfl⟩
      clear HP1
      go_wp2_with fail
      refine HC.out.mono ?_
      rintro e w' ⟨rfl, rfl⟩
      clear HC
      go_wp2_with fail
      refine HSP.out.mono ?_
      rintro e w1 ⟨a, c, ws, rfl, hws, hmap, hwl, hE1⟩
      have HWS := Lib.hid hws; have HMAP := Lib.hid hmap; have HE1 := Lib.hid hE1
      have HSM : Hid (∀ x ∈ ws, x.size ≤ 65537) := by
        intro x hx
        have : x.data.toList ∈ wordsL [] i := by rw [← hmap]; exact List.mem_map.2 ⟨x, hx, rfl⟩
        have := wordsL_each i [] _ this
        rw [List.length_nil] at this; rw [Lib.size_eq]; omega
      have HCF := Lib.hid (containsWd_any ws _ 76 #[] (fun x => !canonS x.data.toList) w1 hws (enters_of Tryd.func76 (by kernel_rfl) rfl) (fun W x hx _ => wordB_any x W (by have := HSM.out x hx; omega)))
      have HANY : Hid (ws.any (fun x => !canonS x.data.toList) = !(wordsL [] i).all canonS) := by
        unfold Hid
        rw [← hmap, List.all_map, List.not_all_eq_any_not]; rfl
      rw [HANY.out] at HCF
      clear hws hmap hE1 HSP
      by_cases ha : (wordsL [] i).all canonS = true
      · rw [ha] at HCF
        have HALL : Hid (∀ x ∈ ws, canonS x.data.toList = true) := by
          intro x hx
          have hm : x.data.toList ∈ wordsL [] i := by rw [← HMAP.out]; exact List.mem_map.2 ⟨x, hx, rfl⟩
          exact List.all_eq_true.1 ha _ hm
        have HV2 : Hid (parseS (91 :: r) = if rowE (ws.map fun x => numS x.data.toList) = 0 then (ws.map (fun x => numS x.data.toList), true, 0) else ([], false, 4)) := by
          unfold Hid; rw [HV.out, if_pos ha, ← HMAP.out, List.map_map]; rfl
        obtain ⟨vs, hvs⟩ : ∃ vs, vs = ws.map (fun x => numS x.data.toList) := ⟨_, rfl⟩
        rw [← hvs] at HV2
        have HVS := Lib.hid hvs
        clear ha hvs
        go_wp2_with fail
        refine HCF.out.mono ?_
        rintro e w2 ⟨rfl, hE2⟩
        have HE2 := Lib.hid (Ext.trans HE1.out hE2)
        have HWS2 := Lib.hid (HWS.out.ext hE2)
        clear hE2 HCF
        go_wp2_with fail
        go_loopw [2, 3, 49] (fun out kt t wr => ∃ j : Nat, j ≤ ws.length ∧ t = .int .i64 j ∧ kt = .bool true ∧ Ext w2 wr ∧ Hid (Build wr w2.heap.size 3 1 out intC (vs.take j)) ∧ Hid (∀ x ∈ vs.take j, -9223372036854775808 ≤ x ∧ x ≤ 9223372036854775807)) (fun _ _ t _ => ws.length - (intOf t).toNat)
        case atStart => exact ⟨0, by omega, rfl, rfl, Ext.refl _, Build.nil _ _ _ _ _, by intro x hx; simp at hx⟩
        case round =>
          obtain ⟨j, hj, rfl, rfl, hE, HB, HF⟩ := hrel
          obtain ⟨wo, rfl⟩ : ∃ wo : World, wo = wr := ⟨_, rfl⟩
          have HE := Lib.hid (Ext.trans HE2.out hE)
          by_cases hlt : j < ws.length
          · obtain ⟨aa, cap, hv, h1, h2, h3, h4⟩ := HWS2.out.open
            simp only [Value.slice.injEq] at hv
            obtain ⟨rfl, -, rfl⟩ := hv
            obtain ⟨b, off, rfl, hb, hcell⟩ := h4 (by intro e; simp [e] at hlt)
            obtain ⟨x, hx⟩ : ∃ x, ws[j]? = some x := ⟨ws[j], List.getElem?_eq_getElem hlt⟩
            have g1 := hE.cell (hcell j x hx)
            have hxm := List.mem_of_getElem? hx
            have hxs := HSM.out x hxm
            have hxc := HALL.out x hxm
            have HTK : Hid (ws.take (j + 1) = ws.take j ++ [x]) := by unfold Hid; rw [List.take_add_one, hx]; rfl
            by_cases hv : -9223372036854775808 ≤ numS x.data.toList ∧ numS x.data.toList ≤ 9223372036854775807
            · have HA := Lib.hid (atoi_fits x (by omega) hxc hv wo)
              obtain ⟨n, hn⟩ : ∃ n, n = numS x.data.toList := ⟨_, rfl⟩
              have hvj : vs[j]? = some n := by rw [HVS.out, List.getElem?_map, hx, hn]; rfl
              have HJ : Hid ((vs.take j).length < 1000000) := by unfold Hid; rw [List.length_take]; omega
              have HN : Hid (vs.take (j + 1) = vs.take j ++ [n]) := by
                unfold Hid; rw [List.take_add_one, hvj]; rfl
              have HF2 : Hid (∀ y ∈ vs.take (j + 1), -9223372036854775808 ≤ y ∧ y ≤ 9223372036854775807) := by
                intro y hy
                rw [HN.out] at hy
                rcases List.mem_append.1 hy with hy | hy
                · exact HF.out y hy
                · rw [List.mem_singleton.1 hy, hn]; exact hv
              rw [← hn] at HA
              have HE0 := Lib.hid hE
              clear hcell hx hxm hxc h1 h2 h3 h4 hv hE hn hvj
              go_wp2_with fail
              refine HA.out.mono ?_
              rintro e w3 ⟨rfl, hE3⟩
              have HE3 := Lib.hid (Ext.trans HE.out hE3)
              have HB3 := Lib.hid (HB.out.ext hE3)
              have HEE := Lib.hid (Ext.trans HE0.out hE3)
              have hszr := HEE.out.size
              clear hE3 HA
              go_wp2_with (at_builtin; go_must (refine wpList_append_build _ rfl _ _ 23 rfl w2.heap.size 3 (.int .i64 0) 1 8 Tryd.underlying23 infoInt rfl (by decide) u2 intC (vs.take j) n #[.int .i64 n] 3 rfl HB3.out rfl rfl ?e1 (fun _ _ => rfl) HJ.out (by decide) hszr ?_))
              case e1 => simp [Value.oneCell']
              intro v' w5 hB5 hg5 hb5 hs5 _
              rw [← HN.out] at hB5
              have HB5 := Lib.hid hB5
              have HX5 := Lib.hid (Below.trans HEE.out hb5)
              clear hB5 hg5 hb5
              go_wp2_with fail
              go_roundw
              case rel => exact ⟨j + 1, by omega, by go_num, rfl, HX5.out, HB5.out, HF2.out⟩
              case measure => simp [intOf]; omega
            · have HA := Lib.hid (atoi_beyond x (by omega) hxc hv wo (HW.out.ext HE.out))
              have HR : Hid (parseS (91 :: r) = ([], false, 4)) := by
                unfold Hid; rw [HV2.out, if_neg]
                intro h0
                have := ((rowE_zero _).1 h0).2 (numS x.data.toList) (by rw [HVS.out]; exact List.mem_map.2 ⟨x, hxm, rfl⟩)
                omega
              clear hcell hx hxm hxc h1 h2 h3 h4 hv hE
              go_wp2_with fail
              refine HA.out.mono ?_
              rintro e w3 ⟨n, T, p, rfl, hE3⟩
              have HE3 := Lib.hid (Ext.trans HE.out hE3)
              clear hE3 HA
              go_wp2_with fail
              go_ret3
              exact parseR_none HR.out HE3.out
          · obtain rfl : j = ws.length := by omega
            have hvl : vs.length = ws.length := by rw [HVS.out, List.length_map]
            have hB := HB.out; have hF := HF.out
            rw [List.take_of_length_le (by omega)] at hB hF
            have hI : Ints wo u2 vs := Ints.of_owns (Build.ints hB) hF
            have HI := Lib.hid hI
            obtain ⟨a2, c2, rfl, -, -, -, -, -⟩ := hI.open
            have HCK := Lib.hid (rowCheck_any vs _ wo hI)
            clear hB hF hI hE HB hvl
            by_cases h0 : rowE vs = 0
            · have HR : Hid (parseS (91 :: r) = (vs, true, 0)) := by unfold Hid; rw [HV2.out, if_pos h0]
              rw [h0] at HCK
              clear h0
              go_wp2_with fail
              refine HCK.out.mono ?_
              rintro e w3 ⟨rfl, hE3⟩
              have HE3 := Lib.hid (Ext.trans HE.out hE3)
              have HI3 := Lib.hid (HI.out.ext hE3)
              clear hE3 HCK
              go_wp2_with fail
              go_ret3
              rw [HR.out]
              exact ⟨_, _, rfl, HI3.out, HE3.out⟩
            · have h4 : rowE vs = 4 := (rowE_four vs).resolve_left h0
              have HR : Hid (parseS (91 :: r) = ([], false, 4)) := by unfold Hid; rw [HV2.out, if_neg h0]
              rw [h4] at HCK
              clear h0 h4
              go_wp2_with fail
              refine HCK.out.mono ?_
              rintro e w3 ⟨rfl, hE3⟩
              have HE3 := Lib.hid (Ext.trans HE.out hE3)
              clear hE3 HCK
              go_wp2_with fail
              go_ret3
              exact parseR_none HR.out HE3.out
      · have ha' : (wordsL [] i).all canonS = false := by simpa using ha
        rw [ha'] at HCF
        have HR : Hid (parseS (91 :: r) = ([], false, 15)) := by unfold Hid; rw [HV.out, if_neg ha]
        clear ha ha'
        go_wp2_with fail
        refine HCF.out.mono ?_
        rintro e w2 ⟨rfl, hE2⟩
        have HE2 := Lib.hid (Ext.trans HE1.out hE2)
        clear hE2 HCF
        go_wp2_with fail
        go_ret3
        exact parseR_none HR.out HE2.out
  · have HC := Lib.hid (cutSuf_miss r 62 hs (by omega) w)
    have HR : Hid (parseS (91 :: r) = ([], false, 15)) := by unfold Hid; rw [HS.out, if_neg hs]
    clear hs
    go_enter Tryd.func50, Tryd.ntmps50
    go_wp2_with fail
    refine HP1.out.mono ?_
    rintro e w' ⟨rfl, rfl⟩
    clear HP1
    go_wp2_with fail
    refine HC.out.mono ?_
    rintro e w' ⟨rfl, rfl⟩
    clear HC
    go_wp2_with fail
    go_ret3
    exact parseR_none HR.out (Ext.refl _)

set_option maxRecDepth 100000 in
set_option maxHeartbeats 2000000 in
theorem parse_bra (r : List UInt8) (w : World) (hl : r.length < 65536) (hw : LibW w) :
    Calls Tryd.prog 50 #[.string (strL (60 :: r))] w (ParseR (parseS (60 :: r)) w) := by
  have HW := Lib.hid hw
  have HS : Hid (parseS (60 :: r) = if r.getLast? = some 93 then parseIn r.dropLast false else ([], false, 15)) := by
    unfold Hid parseS; rw [if_neg (by rw [List.length_cons]; omega)]; rfl
  have hsz : (strL (60 :: r)).size = r.length + 1 := by rw [strL_size, List.length_cons]
  have hq : ¬ (65536 : Int) < (r.length : Int) + 1 := by omega
  have HP1 := Lib.hid (cutPre_miss (60 :: r) 91 (by simp) w)
  have HP2 := Lib.hid (cutPre_hit (60 :: r) 60 r rfl w)
  clear hw
  by_cases hs : r.getLast? = some 93
  · have HC := Lib.hid (cutSuf_hit r 93 hs (by omega) w)
    rw [if_pos hs] at HS
    obtain ⟨i, hi⟩ : ∃ i, i = r.dropLast := ⟨_, rfl⟩
    have hil : i.length ≤ 65536 := by rw [hi, List.length_dropLast]; omega
    rw [← hi] at HS HC
    clear hi hs
    by_cases hn : i = []
    · have HR : Hid (parseS (60 :: r) = ([], false, 0)) := by
        unfold Hid; rw [HS.out]; unfold parseIn; rw [if_pos hn]
      have he : (strL i).toList = [] := by rw [Lib.toList_data, strL_data]; exact hn
      have he' : (strL i).toList.isEmpty = true := by rw [he]; rfl
      clear hn hil
      go_enter Tryd.func50, Tryd.ntmps50
      go_wp2_with fail
      refine HP1.out.mono ?_
      rintro e w' ⟨rfl, rfl⟩
      clear HP1
      go_wp2_with fail
      refine HP2.out.mono ?_
      rintro e w' ⟨rfl, rfl⟩
      clear HP2
      go_wp2_with fail
      refine HC.out.mono ?_
      rintro e w' ⟨rfl, rfl⟩
      clear HC
      go_wp2_with fail
      go_ret3
      rw [HR.out]
      exact ⟨_, _, rfl, Ints.lit w [] _ (by simp) (by simp), Ext.alloc _ _⟩
    · have he : ¬ (strL i).toList = [] := by rw [Lib.toList_data, strL_data]; exact hn
      have he' : (strL i).toList.isEmpty = false := by simpa using he
      have HV : Hid (parseS (60 :: r) = if (wordsL [] i).all canonS then (if rowE ((wordsL [] i).map numS) = 0 then ((wordsL [] i).map numS, false, 0) else ([], false, 4)) else ([], false, 15)) := by
        unfold Hid; rw [HS.out]; unfold parseIn; rw [if_neg hn]
      have HSP := Lib.hid (split_any i hil w HW.out)
      clear hn he
      go_enter Tryd.func50, Tryd.ntmps50
      go_wp2_with fail
      refine HP1.out.mono ?_
      rintro e w' ⟨rfl, rfl⟩
      clear HP1
      go_wp2_with fail
      refine HP2.out.mono ?_
      rintro e w' ⟨rfl, rfl⟩
      clear HP2
      go_wp2_with fail
      refine HC.out.mono ?_
      rintro e w' ⟨rfl, rfl⟩
      clear HC
      go_wp2_with fail
      refine HSP.out.mono ?_
      rintro e w1 ⟨a, c, ws, rfl, hws, hmap, hwl, hE1⟩
      have HWS := Lib.hid hws; have HMAP := Lib.hid hmap; have HE1 := Lib.hid hE1
      have HSM : Hid (∀ x ∈ ws, x.size ≤ 65537) := by
        intro x hx
        have : x.data.toList ∈ wordsL [] i := by rw [← hmap]; exact List.mem_map.2 ⟨x, hx, rfl⟩
        have := wordsL_each i [] _ this
        rw [List.length_nil] at this; rw [Lib.size_eq]; omega
      have HCF := Lib.hid (containsWd_any ws _ 76 #[] (fun x => !canonS x.data.toList) w1 hws (enters_of Tryd.func76 (by kernel_rfl) rfl) (fun W x hx _ => wordB_any x W (by have := HSM.out x hx; omega)))
      have HANY : Hid (ws.any (fun x => !canonS x.data.toList) = !(wordsL [] i).all canonS) := by
        unfold Hid
        rw [← hmap, List.all_map, List.not_all_eq_any_not]; rfl
      rw [HANY.out] at HCF
      clear hws hmap hE1 HSP
      by_cases ha : (wordsL [] i).all canonS = true
      · rw [ha] at HCF
        have HALL : Hid (∀ x ∈ ws, canonS x.data.toList = true) := by
          intro x hx
          have hm : x.data.toList ∈ wordsL [] i := by rw [← HMAP.out]; exact List.mem_map.2 ⟨x, hx, rfl⟩
          exact List.all_eq_true.1 ha _ hm
        have HV2 : Hid (parseS (60 :: r) = if rowE (ws.map fun x => numS x.data.toList) = 0 then (ws.map (fun x => numS x.data.toList), false, 0) else ([], false, 4)) := by
          unfold Hid; rw [HV.out, if_pos ha, ← HMAP.out, List.map_map]; rfl
        obtain ⟨vs, hvs⟩ : ∃ vs, vs = ws.map (fun x => numS x.data.toList) := ⟨_, rfl⟩
        rw [← hvs] at HV2
        have HVS := Lib.hid hvs
        clear ha hvs
        go_wp2_with fail
        refine HCF.out.mono ?_
        rintro e w2 ⟨rfl, hE2⟩
        have HE2 := Lib.hid (Ext.trans HE1.out hE2)
        have HWS2 := Lib.hid (HWS.out.ext hE2)
        clear hE2 HCF
        go_wp2_with fail
        go_loopw [2, 3, 49] (fun out kt t wr => ∃ j : Nat, j ≤ ws.length ∧ t = .int .i64 j ∧ kt = .bool false ∧ Ext w2 wr ∧ Hid (Build wr w2.heap.size 3 1 out intC (vs.take j)) ∧ Hid (∀ x ∈ vs.take j, -9223372036854775808 ≤ x ∧ x ≤ 9223372036854775807)) (fun _ _ t _ => ws.length - (intOf t).toNat)
        case atStart => exact ⟨0, by omega, rfl, rfl, Ext.refl _, Build.nil _ _ _ _ _, by intro x hx; simp at hx⟩
        case round =>
          obtain ⟨j, hj, rfl, rfl, hE, HB, HF⟩ := hrel
          obtain ⟨wo, rfl⟩ : ∃ wo : World, wo = wr := ⟨_, rfl⟩
          have HE := Lib.hid (Ext.trans HE2.out hE)
          by_cases hlt : j < ws.length
          · obtain ⟨aa, cap, hv, h1, h2, h3, h4⟩ := HWS2.out.open
            simp only [Value.slice.injEq] at hv
            obtain ⟨rfl, -, rfl⟩ := hv
            obtain ⟨b, off, rfl, hb, hcell⟩ := h4 (by intro e; simp [e] at hlt)
            obtain ⟨x, hx⟩ : ∃ x, ws[j]? = some x := ⟨ws[j], List.getElem?_eq_getElem hlt⟩
            have g1 := hE.cell (hcell j x hx)
            have hxm := List.mem_of_getElem? hx
            have hxs := HSM.out x hxm
            have hxc := HALL.out x hxm
            have HTK : Hid (ws.take (j + 1) = ws.take j ++ [x]) := by unfold Hid; rw [List.take_add_one, hx]; rfl
            by_cases hv : -9223372036854775808 ≤ numS x.data.toList ∧ numS x.data.toList ≤ 9223372036854775807
            · have HA := Lib.hid (atoi_fits x (by omega) hxc hv wo)
              obtain ⟨n, hn⟩ : ∃ n, n = numS x.data.toList := ⟨_, rfl⟩
              have hvj : vs[j]? = some n := by rw [HVS.out, List.getElem?_map, hx, hn]; rfl
              have HJ : Hid ((vs.take j).length < 1000000) := by unfold Hid; rw [List.length_take]; omega
              have HN : Hid (vs.take (j + 1) = vs.take j ++ [n]) := by
                unfold Hid; rw [List.take_add_one, hvj]; rfl
              have HF2 : Hid (∀ y ∈ vs.take (j + 1), -9223372036854775808 ≤ y ∧ y ≤ 9223372036854775807) := by
                intro y hy
                rw [HN.out] at hy
                rcases List.mem_append.1 hy with hy | hy
                · exact HF.out y hy
                · rw [List.mem_singleton.1 hy, hn]; exact hv
              rw [← hn] at HA
              have HE0 := Lib.hid hE
              clear hcell hx hxm hxc h1 h2 h3 h4 hv hE hn hvj
              go_wp2_with fail
              refine HA.out.mono ?_
              rintro e w3 ⟨rfl, hE3⟩
              have HE3 := Lib.hid (Ext.trans HE.out hE3)
              have HB3 := Lib.hid (HB.out.ext hE3)
              have HEE := Lib.hid (Ext.trans HE0.out hE3)
              have hszr := HEE.out.size
              clear hE3 HA
              go_wp2_with (at_builtin; go_must (refine wpList_append_build _ rfl _ _ 23 rfl w2.heap.size 3 (.int .i64 0) 1 8 Tryd.underlying23 infoInt rfl (by decide) u2 intC (vs.take j) n #[.int .i64 n] 3 rfl HB3.out rfl rfl ?e1 (fun _ _ => rfl) HJ.out (by decide) hszr ?_))
              case e1 => simp [Value.oneCell']
              intro v' w5 hB5 hg5 hb5 hs5 _
              rw [← HN.out] at hB5
              have HB5 := Lib.hid hB5
              have HX5 := Lib.hid (Below.trans HEE.out hb5)
              clear hB5 hg5 hb5
              go_wp2_with fail
              go_roundw
              case rel => exact ⟨j + 1, by omega, by go_num, rfl, HX5.out, HB5.out, HF2.out⟩
              case measure => simp [intOf]; omega
            · have HA := Lib.hid (atoi_beyond x (by omega) hxc hv wo (HW.out.ext HE.out))
              have HR : Hid (parseS (60 :: r) = ([], false, 4)) := by
                unfold Hid; rw [HV2.out, if_neg]
                intro h0
                have := ((rowE_zero _).1 h0).2 (numS x.data.toList) (by rw [HVS.out]; exact List.mem_map.2 ⟨x, hxm, rfl⟩)
                omega
              clear hcell hx hxm hxc h1 h2 h3 h4 hv hE
              go_wp2_with fail
              refine HA.out.mono ?_
              rintro e w3 ⟨n, T, p, rfl, hE3⟩
              have HE3 := Lib.hid (Ext.trans HE.out hE3)
              clear hE3 HA
              go_wp2_with fail
              go_ret3
              exact parseR_none HR.out HE3.out
          · obtain rfl : j = ws.length := by omega
            have hvl : vs.length = ws.length := by rw [HVS.out, List.length_map]
            have hB := HB.out; have hF := HF.out
            rw [List.take_of_length_le (by omega)] at hB hF
            have hI : Ints wo u2 vs := Ints.of_owns (Build.ints hB) hF
            have HI := Lib.hid hI
            obtain ⟨a2, c2, rfl, -, -, -, -, -⟩ := hI.open
            have HCK := Lib.hid (rowCheck_any vs _ wo hI)
            clear hB hF hI hE HB hvl
            by_cases h0 : rowE vs = 0
            · have HR : Hid (parseS (60 :: r) = (vs, false, 0)) := by unfold Hid; rw [HV2.out, if_pos h0]
              rw [h0] at HCK
              clear h0
              go_wp2_with fail
              refine HCK.out.mono ?_
              rintro e w3 ⟨rfl, hE3⟩
              have HE3 := Lib.hid (Ext.trans HE.out hE3)
              have HI3 := Lib.hid (HI.out.ext hE3)
              clear hE3 HCK
              go_wp2_with fail
              go_ret3
              rw [HR.out]
              exact ⟨_, _, rfl, HI3.out, HE3.out⟩
            · have h4 : rowE vs = 4 := (rowE_four vs).resolve_left h0
              have HR : Hid (parseS (60 :: r) = ([], false, 4)) := by unfold Hid; rw [HV2.out, if_neg h0]
              rw [h4] at HCK
              clear h0 h4
              go_wp2_with fail
              refine HCK.out.mono ?_
              rintro e w3 ⟨rfl, hE3⟩
              have HE3 := Lib.hid (Ext.trans HE.out hE3)
              clear hE3 HCK
              go_wp2_with fail
              go_ret3
              exact parseR_none HR.out HE3.out
      · have ha' : (wordsL [] i).all canonS = false := by simpa using ha
        rw [ha'] at HCF
        have HR : Hid (parseS (60 :: r) = ([], false, 15)) := by unfold Hid; rw [HV.out, if_neg ha]
        clear ha ha'
        go_wp2_with fail
        refine HCF.out.mono ?_
        rintro e w2 ⟨rfl, hE2⟩
        have HE2 := Lib.hid (Ext.trans HE1.out hE2)
        clear hE2 HCF
        go_wp2_with fail
        go_ret3
        exact parseR_none HR.out HE2.out
  · have HC := Lib.hid (cutSuf_miss r 93 hs (by omega) w)
    have HR : Hid (parseS (60 :: r) = ([], false, 15)) := by unfold Hid; rw [HS.out, if_neg hs]
    clear hs
    go_enter Tryd.func50, Tryd.ntmps50
    go_wp2_with fail
    refine HP1.out.mono ?_
    rintro e w' ⟨rfl, rfl⟩
    clear HP1
    go_wp2_with fail
    refine HP2.out.mono ?_
    rintro e w' ⟨rfl, rfl⟩
    clear HP2
    go_wp2_with fail
    refine HC.out.mono ?_
    rintro e w' ⟨rfl, rfl⟩
    clear HC
    go_wp2_with fail
    go_ret3
    exact parseR_none HR.out (Ext.refl _)
end Go.Proofs.YtobgghjmclagaaaDoor
