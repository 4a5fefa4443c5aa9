import Derived.Test.YtjlkkofmojgipaaGreatDoorRows
import Derived.WalkKit
import Derived.ProofKit
import Derived.OpenShut
import Derived.Test.YtjlkkofmojgipaaGreatDoorWAA
import Derived.ChangeSlices
import Derived.Test.YtjlkkofmojgipaaGreatDoorWAD
import Derived.LaidMore
import Derived.LaidLaws
import Derived.MakeChecks
import Derived.Lib.LaidTab
import Derived.Stop.Joined
import Derived.Stop.LaidErr
import Derived.Lay
import Derived.Test.YtjlkkofmojgipaaGreatDoorTie
import Derived.Test.YtjlkkofmojgipaaGreatDoorCards
import Derived.Test.YtjlkkofmojgipaaGreatDoorWBB
import Derived.Test.YtjlkkofmojgipaaGreatDoorWAT
import Derived.Deep.Slices
import Derived.Laws.IdiomArrays
namespace Go.Proofs.YtjlkkofmojgipaaGreatDoor
set_option linter.unusedVariables false
set_option linter.unusedSimpArgs false
open Go.ChangeShapes Go.WideShapes Go.ChangeAt Go.RowKit
theorem lawOwn:ownKnob Tryz.prog.godebug=none:=by kernel_rfl
theorem lawLaid:laidOutB Tryz.prog=true:=by kernel_rfl
theorem trodAll_below {H : Type} {enc : TypeId × Value → H} {P : Program} (hl : laidOutB P = true) {W W' : World} (hb : Below W.heap.size W W') :
    ∀ (ts : List TypeId) (vs : List Value) (ds : List (DataW H)) (ps : List MemPlace), (∀ t ∈ ts, P.readableRec t = true ∧ t < P.types.size) →
      DataW.TrodAll enc P W 0 (fun _ => true) true ts vs ds ps → (∀ x ∈ ps, x.block < W.heap.size) → DataW.TrodAll enc P W' 0 (fun b => decide (b < W.heap.size)) true ts vs ds ps
  | [], [], [], ps, _, h, _ => h
  | t :: ts, v :: vs, d :: ds, ps, hr, h, hlt => by
    obtain ⟨p, p', h1, h2, rfl⟩ := h
    exact ⟨p, p', Below.trod hl (hr t (by simp)).1 (hr t (by simp)).2 h1 hb (fun x hx => hlt x (by simp [hx])), trodAll_below hl hb ts vs ds p' (fun t ht => hr t (by simp [ht])) h2 (fun x hx => hlt x (by simp [hx])), rfl⟩
  | [], v :: vs, _, _, _, h, _ => absurd h (by simp [DataW.TrodAll])
  | [], [], d :: ds, _, _, h, _ => absurd h (by simp [DataW.TrodAll])
  | t :: ts, [], _, _, _, h, _ => absurd h (by simp [DataW.TrodAll])
  | t :: ts, v :: vs, [], _, _, h, _ => absurd h (by simp [DataW.TrodAll])
theorem lawPost {H:Type} {enc:TypeId×Value→H} {f:Func} {s:ChangeSpec} {W W':World} {args:Array Value} {ds:List (DataW H)} {before:List MemPlace}
  (hW:DataW.Whole enc Tryz.prog f.params.toList s.vars false W args.toList ds [] before) (hA:DataW.TrodAll enc Tryz.prog W 0 (fun _=>true) true f.params.toList args.toList ds before)
  (hv:s.vars=[]) (hres:f.resultTypes=#[4]) (hfn:s.fn H (ds++[])={ results:=[.lit (.bool true)],args:=ds }) (hr:∀ t∈f.params.toList,Tryz.prog.readableRec t=true∧t<Tryz.prog.types.size) (hb:Below W.heap.size W W') :
  ∃ v,Ending.returned (.bool true)=Ending.returned v∧ChangeSpec.post enc Tryz.prog f s false true false false W args v W':=by
 refine ⟨_,rfl,ds,[],before,[],before,[],hW,?_,?_,?_,?_,fun h=>by cases h⟩
 ·rw [hfn,hres]
  exact trodAll_cons_mk (shut_bool Tryz.underlying4 _) trodAll_mk0
 ·rw [hfn]
  exact trodAll_below lawLaid hb _ _ _ _ hr hA (fun x hx=>by simpa using hW.lt x hx)
 ·rw [hfn,hv];rfl
 ·exact hb.frame _
abbrev laid9 : List (String × DataW Unit) := [("math/bits.deBruijn32tab", Rows.laid_math_bits_deBruijn32tab), ("math/bits.deBruijn64tab", Rows.laid_math_bits_deBruijn64tab), ("internal/strconv.uint64pow10", Rows.laid_internal_strconv_uint64pow10), ("strconv.ErrRange", Rows.laid_strconv_ErrRange), ("strconv.ErrSyntax", Rows.laid_strconv_ErrSyntax)]
theorem pow10_of_laid {W:World} (h:laidMetH Tryz.prog laid9 W):Pow10 W:=by
 rw [MakeChecks.laidMetH_plain _ _ _ (by kernel_rfl)] at h
 have h2:=laidMet.tail (laidMet.tail h)
 exact Lib.tabIs_of_head (g:=4) (t:=266) (e:=204) (n:=20) (by kernel_rfl) (by kernel_rfl) (by kernel_rfl) (by kernel_rfl) (by kernel_rfl) (by kernel_rfl) h2
theorem returnsInHanded_shape {H:Type} {enc:TypeId×Value→H} {a:Assume} {C:Checked} {os:Os} {f:FuncId} {fn:Func} {s:ChangeSpec} {conds:List PathCond} {apart fresh handsOn again:Bool} {X:World→Array Value→Prop}
  (hX:∀ (w w':World) (args:Array Value),w.heap=w'.heap→X w args→X w' args)
  (own:ownKnob C.prog.godebug=none) (started:os.Started) (noInit:C.prog.inits.idxOf? f=none) (hfn:C.prog.funcs[f]?=some fn)
  (witness:∃ (w:World) (tape:Tape) (i:Input),w.os=os∧(w.forCall tape i).Shaped C.prog∧i.vars=[]∧Input.okWide C.prog (w.forCall tape i) .any w.heap.size f i ∧
   ((s.pre enc C.prog fn conds apart (w.forCall tape i).memory i.args∧X (w.forCall tape i).memory i.args)∧sizedMet enc C.prog fn (OpenSpec.ofChange s) apart (w.forCall tape i).memory i.args)∧a.holds C.prog (lone (Frame.enter C.prog f i.args .normal) [] (w.forCall tape i)))
  (contract:∀ (W:World) (base:Nat) (args:Array Value) (ds gs:List (DataW H)) (before:List MemPlace),
   (∀ (j:Nat) t v,fn.params[j]?=some t→args[j]?=some v→Value.okWide C.prog W .any base t v) →
   DataW.Whole enc C.prog fn.params.toList s.vars apart W args.toList ds gs before →
   conds.all (PathCond.test C.prog ⟨fn.params.toList,ds,s.plain.varTypes C.prog,gs⟩)=true →
   (DataW.weightsEach C.prog (fn.params.toList++s.plain.varTypes C.prog) (ds++gs)).all (·≤reachBytes)=true→X W args →
   W.ShapedOpen C.prog →
   a.holds C.prog (lone (Frame.enter C.prog f args .normal) [] W) →
   Calls C.prog f args W fun e W'=>∃ v,e=.returned v∧s.post enc C.prog fn apart fresh handsOn again W args v W') :
  ReturnsInHanded a C os f .any (fun w args=>(s.pre enc C.prog fn conds apart w args∧X w args)∧sizedMet enc C.prog fn (OpenSpec.ofChange s) apart w args) (s.post enc C.prog fn apart fresh handsOn again):=by
 refine returnsInHanded_of_calls own started noInit witness ?_
 intro w tape i _ hsh _ hok hpre hholds
 obtain ⟨_,_,_,fn',hfn',_,_,_,_,hval⟩:=hok
 have e:fn'=fn:=Option.some.inj (hfn'.symm.trans hfn)
 subst e
 obtain ⟨⟨⟨ds,gs,before,hw,hc⟩,hx⟩,hz⟩:=hpre
 have hw':=DataW.Whole.of_heap (w':=w.forCall tape i) (by rfl) hw
 refine (contract (w.forCall tape i) w.heap.size i.args ds gs before hval hw' hc (hz.weights hw) (hX _ _ _ (by rfl) hx) hsh hholds).mono fun e W' ⟨v,he,hp⟩=>?_
 subst he
 exact ChangeSpec.post_blind hp
theorem door_met7 (os:Os) (args:Array Value):laidMetH Tryz.prog laid9 ((World.laidAll Tryz.prog os laid9).forCall (fun _ _=>0) ⟨#[],args,[]⟩).memory:=by
 rw [MakeChecks.laidMetH_plain _ _ _ (by kernel_rfl)];exact laidMet_laidAll _ (by kernel_rfl) (by kernel_rfl)
theorem errRow (u : TypeId) (h : Tryz.prog.typeName? 3 u = some "*errors.errorString") : u = 269 :=
 typeName_ptr_named (nm := "errors.errorString") (by rw [show "*" ++ "errors.errorString" = "*errors.errorString" by decide]; kernel_rfl) (by kernel_rfl) (by decide) u (by rw [show "*" ++ "errors.errorString" = "*errors.errorString" by decide]; exact h)
theorem libT_of {W:World} (h:laidMetH Tryz.prog laid9 W):LibT W:=by
 have hp:=pow10_of_laid h
 rw [MakeChecks.laidMetH_plain _ _ _ (by kernel_rfl)] at h
 have h2:=laidMet.tail (laidMet.tail h)
 refine ⟨hp,?_⟩
 have h4:=laidMet.tail h2
 obtain ⟨a,s,hv,-⟩:=laid_sentinel (g:=3) (ti:=176) (tp:=269) (te:=271) (ts:=9) (ms:=_) (f:=_) h4 (by kernel_rfl) (by kernel_rfl) Tryz.underlying176 errRow Tryz.underlying269 Tryz.underlying271 rfl rfl Tryz.underlying9 (by kernel_rfl) (by kernel_rfl)
 have hc := World.var?_cell (show Tryz.prog.globalNamed "strconv.ErrRange" = some 3 by kernel_rfl) hv 0
 exact ⟨_,_,by simpa using hc⟩
theorem pow_lt {W:World} (h:Pow10 W):4<W.heap.size:=by
 unfold Pow10 Lib.TabIs at h
 have hg : Tryz.prog.globalNamed "internal/strconv.uint64pow10" = some 4 := by kernel_rfl
 by_cases hlt:4<W.heap.size
 ·exact hlt
 ·simp [World.var?,hg,Array.getElem?_eq_none (show W.heap.size≤4 by omega)] at h
def cellKind (P : Program) : Nat → TypeId → Nat → Option IntKind
  | 0, _, _ => none
  | fuel + 1, t, j => match P.underlying t with
    | some (.int k) => if j = 0 then some k else none
    | some (.struct fs) => (fs.toList.find? fun f => decide (f.offset ≤ j) && decide (j < f.offset + P.cellsOf f.type)).bind fun f => cellKind P fuel f.type (j - f.offset)
    | some (.array n e) => if j / P.cellsOf e < n then cellKind P fuel e (j % P.cellsOf e) else none
    | _ => none
theorem flat_cells {H : Type} {enc : TypeId × Value → H} {P : Program} {w : World} {base : Nat} {spare : Nat → Bool} {held : Bool} : ∀ (fuel : Nat) (t : TypeId) (j : Nat) (k : IntKind) (m : Nat) (cs : List Value) (x : DataW H × List MemPlace),
    cellKind P fuel t j = some k → DataW.trod enc P w base spare held m t cs = some x → ∃ n, cs[j]? = some (.int k n) ∧ (Lit.int k n).wf = true
  | 0, _, _, _, _, _, _, h, _ => by simp [cellKind] at h
  | fuel + 1, t, j, k, m, cs, x, h, hx => by
    unfold cellKind at h
    split at h
    · rename_i k' ht
      split at h
      · rename_i hj
        simp at h; subst h; subst hj
        obtain ⟨n, rfl, _, hw⟩ := DataW.trod_int ht hx
        exact ⟨n, rfl, hw⟩
      · simp at h
    · rename_i fs ht
      obtain ⟨f, hf, hk⟩ := Option.bind_eq_some_iff.1 h
      have hp := List.find?_some hf
      simp only [Bool.and_eq_true, decide_eq_true_eq] at hp
      obtain ⟨i, hi⟩ := List.getElem?_of_mem (List.mem_of_find?_eq_some hf)
      obtain ⟨xs, n, rfl, _, _, hl, hall⟩ := DataW.trod_struct ht hx
      have hi' : fs[i]? = some f := by simpa using hi
      have hr := hall i f hi'
      have hlt : i < xs.length := by rw [hl]; exact (Array.getElem?_eq_some_iff.1 hi').1
      rw [List.getElem?_eq_getElem hlt] at hr
      obtain ⟨n', hc, hw⟩ := flat_cells fuel f.type (j - f.offset) k n _ _ hk hr
      refine ⟨n', ?_, hw⟩
      rw [List.getElem?_take, if_pos (by omega), List.getElem?_drop] at hc
      rwa [show f.offset + (j - f.offset) = j by omega] at hc
    · rename_i n e ht
      split at h
      · rename_i hj
        obtain ⟨xs, q, rfl, _, _, hl, hall⟩ := DataW.trod_array ht hx
        have hr := hall (j / P.cellsOf e) hj
        have hlt : j / P.cellsOf e < xs.length := by omega
        rw [List.getElem?_eq_getElem hlt] at hr
        obtain ⟨n', hc, hw⟩ := flat_cells fuel e (j % P.cellsOf e) k q _ _ h hr
        refine ⟨n', ?_, hw⟩
        have hlt2 : j % P.cellsOf e < P.cellsOf e := by
          by_cases h0 : P.cellsOf e = 0
          · rw [h0] at hc
            simp at hc
          · exact Nat.mod_lt _ (by omega)
        rw [List.getElem?_take, if_pos hlt2, List.getElem?_drop] at hc
        rwa [show j / P.cellsOf e * P.cellsOf e + j % P.cellsOf e = j by rw [Nat.mul_comm]; exact Nat.div_add_mod _ _] at hc
      · simp at h
    · simp at h
theorem cellsThree10:Tryz.prog.cellsOf 76=24:=by kernel_rfl
theorem kindsThree10_eq:(List.range 24).map (cellKind Tryz.prog 7 76)=([.u8,.u8,.i8,.i8,.i8,.i8,.i8,.i8,.u8,.u8,.i8,.i8,.i8,.i8,.i8,.i8,.u8,.u8,.i8,.i8,.i8,.i8,.i8,.i8]:List IntKind).map some:=by kernel_rfl
theorem kinds_of7 {T:TypeId} {m:Nat} {l:List IntKind} (h:(List.range m).map (cellKind Tryz.prog 7 T)=l.map some) {j:Nat} (hj:j<m) {k:IntKind} (hk:l[j]?=some k):cellKind Tryz.prog 7 T j=some k:=by
 have e:=congrArg (fun l=>l[j]?) h
 simp only [List.getElem?_map,List.getElem?_range hj,hk,Option.map_some,Option.some.injEq] at e
 exact e
set_option maxRecDepth 100000 in
theorem open_three10 {H:Type} {enc:TypeId×Value→H} {W:World} {r:Reach} {b0 base:Nat} {spare:Nat→Bool} {held:Bool} {v:Value} {d:DataW H} {ps:List MemPlace}
  (hval:Value.okWide Tryz.prog W r b0 76 v) (hd:DataW.Trod enc Tryz.prog W base spare held 76 v d ps) :
  ∃ x0 y0 z00 z01 z02 z03 z04 z05 x1 y1 z10 z11 z12 z13 z14 z15 x2 y2 z20 z21 z22 z23 z24 z25:Int,v=.agg #[.int .u8 x0,.int .u8 y0,.int .i8 z00,.int .i8 z01,.int .i8 z02,.int .i8 z03,.int .i8 z04,.int .i8 z05,.int .u8 x1,.int .u8 y1,.int .i8 z10,.int .i8 z11,.int .i8 z12,.int .i8 z13,.int .i8 z14,.int .i8 z15,.int .u8 x2,.int .u8 y2,.int .i8 z20,.int .i8 z21,.int .i8 z22,.int .i8 z23,.int .i8 z24,.int .i8 z25]∧(0≤x0∧x0≤255)∧(0≤y0∧y0≤255)∧(∀ a∈[z00,z01,z02,z03,z04,z05],-128≤a∧a≤127)∧(0≤x1∧x1≤255)∧(0≤y1∧y1≤255)∧(∀ a∈[z10,z11,z12,z13,z14,z15],-128≤a∧a≤127)∧(0≤x2∧x2≤255)∧(0≤y2∧y2≤255)∧(∀ a∈[z20,z21,z22,z23,z24,z25],-128≤a∧a≤127):=by
 obtain ⟨cs,rfl,hs⟩:∃ cs,v=.agg cs∧cs.size=Tryz.prog.cellsOf 76:=by
  simp only [Value.okWide,Tryz.underlying76] at hval
  obtain ⟨cs,h1,h2,_⟩:=hval
  exact ⟨cs,h1,h2⟩
 rw [cellsThree10] at hs
 obtain ⟨fuel,hf⟩:=hd
 obtain ⟨c0,c1,c2,c3,c4,c5,c6,c7,c8,c9,c10,c11,c12,c13,c14,c15,c16,c17,c18,c19,c20,c21,c22,c23,rfl⟩:∃ c0 c1 c2 c3 c4 c5 c6 c7 c8 c9 c10 c11 c12 c13 c14 c15 c16 c17 c18 c19 c20 c21 c22 c23,cs=#[c0,c1,c2,c3,c4,c5,c6,c7,c8,c9,c10,c11,c12,c13,c14,c15,c16,c17,c18,c19,c20,c21,c22,c23]:=by
  match cs,hs with
  | ⟨[c0,c1,c2,c3,c4,c5,c6,c7,c8,c9,c10,c11,c12,c13,c14,c15,c16,c17,c18,c19,c20,c21,c22,c23]⟩,_=>exact ⟨c0,c1,c2,c3,c4,c5,c6,c7,c8,c9,c10,c11,c12,c13,c14,c15,c16,c17,c18,c19,c20,c21,c22,c23,rfl⟩
 obtain ⟨x0,h0,w0⟩:=flat_cells 7 _ 0 _ _ _ _ (kinds_of7 kindsThree10_eq (by decide) rfl) hf
 obtain ⟨y0,h1,w1⟩:=flat_cells 7 _ 1 _ _ _ _ (kinds_of7 kindsThree10_eq (by decide) rfl) hf
 obtain ⟨z00,h2,w2⟩:=flat_cells 7 _ 2 _ _ _ _ (kinds_of7 kindsThree10_eq (by decide) rfl) hf
 obtain ⟨z01,h3,w3⟩:=flat_cells 7 _ 3 _ _ _ _ (kinds_of7 kindsThree10_eq (by decide) rfl) hf
 obtain ⟨z02,h4,w4⟩:=flat_cells 7 _ 4 _ _ _ _ (kinds_of7 kindsThree10_eq (by decide) rfl) hf
 obtain ⟨z03,h5,w5⟩:=flat_cells 7 _ 5 _ _ _ _ (kinds_of7 kindsThree10_eq (by decide) rfl) hf
 obtain ⟨z04,h6,w6⟩:=flat_cells 7 _ 6 _ _ _ _ (kinds_of7 kindsThree10_eq (by decide) rfl) hf
 obtain ⟨z05,h7,w7⟩:=flat_cells 7 _ 7 _ _ _ _ (kinds_of7 kindsThree10_eq (by decide) rfl) hf
 obtain ⟨x1,h8,w8⟩:=flat_cells 7 _ 8 _ _ _ _ (kinds_of7 kindsThree10_eq (by decide) rfl) hf
 obtain ⟨y1,h9,w9⟩:=flat_cells 7 _ 9 _ _ _ _ (kinds_of7 kindsThree10_eq (by decide) rfl) hf
 obtain ⟨z10,h10,w10⟩:=flat_cells 7 _ 10 _ _ _ _ (kinds_of7 kindsThree10_eq (by decide) rfl) hf
 obtain ⟨z11,h11,w11⟩:=flat_cells 7 _ 11 _ _ _ _ (kinds_of7 kindsThree10_eq (by decide) rfl) hf
 obtain ⟨z12,h12,w12⟩:=flat_cells 7 _ 12 _ _ _ _ (kinds_of7 kindsThree10_eq (by decide) rfl) hf
 obtain ⟨z13,h13,w13⟩:=flat_cells 7 _ 13 _ _ _ _ (kinds_of7 kindsThree10_eq (by decide) rfl) hf
 obtain ⟨z14,h14,w14⟩:=flat_cells 7 _ 14 _ _ _ _ (kinds_of7 kindsThree10_eq (by decide) rfl) hf
 obtain ⟨z15,h15,w15⟩:=flat_cells 7 _ 15 _ _ _ _ (kinds_of7 kindsThree10_eq (by decide) rfl) hf
 obtain ⟨x2,h16,w16⟩:=flat_cells 7 _ 16 _ _ _ _ (kinds_of7 kindsThree10_eq (by decide) rfl) hf
 obtain ⟨y2,h17,w17⟩:=flat_cells 7 _ 17 _ _ _ _ (kinds_of7 kindsThree10_eq (by decide) rfl) hf
 obtain ⟨z20,h18,w18⟩:=flat_cells 7 _ 18 _ _ _ _ (kinds_of7 kindsThree10_eq (by decide) rfl) hf
 obtain ⟨z21,h19,w19⟩:=flat_cells 7 _ 19 _ _ _ _ (kinds_of7 kindsThree10_eq (by decide) rfl) hf
 obtain ⟨z22,h20,w20⟩:=flat_cells 7 _ 20 _ _ _ _ (kinds_of7 kindsThree10_eq (by decide) rfl) hf
 obtain ⟨z23,h21,w21⟩:=flat_cells 7 _ 21 _ _ _ _ (kinds_of7 kindsThree10_eq (by decide) rfl) hf
 obtain ⟨z24,h22,w22⟩:=flat_cells 7 _ 22 _ _ _ _ (kinds_of7 kindsThree10_eq (by decide) rfl) hf
 obtain ⟨z25,h23,w23⟩:=flat_cells 7 _ 23 _ _ _ _ (kinds_of7 kindsThree10_eq (by decide) rfl) hf
 obtain rfl:c0=.int .u8 x0:=Option.some.inj (show some c0=some _ from h0)
 obtain rfl:c1=.int .u8 y0:=Option.some.inj (show some c1=some _ from h1)
 obtain rfl:c2=.int .i8 z00:=Option.some.inj (show some c2=some _ from h2)
 obtain rfl:c3=.int .i8 z01:=Option.some.inj (show some c3=some _ from h3)
 obtain rfl:c4=.int .i8 z02:=Option.some.inj (show some c4=some _ from h4)
 obtain rfl:c5=.int .i8 z03:=Option.some.inj (show some c5=some _ from h5)
 obtain rfl:c6=.int .i8 z04:=Option.some.inj (show some c6=some _ from h6)
 obtain rfl:c7=.int .i8 z05:=Option.some.inj (show some c7=some _ from h7)
 obtain rfl:c8=.int .u8 x1:=Option.some.inj (show some c8=some _ from h8)
 obtain rfl:c9=.int .u8 y1:=Option.some.inj (show some c9=some _ from h9)
 obtain rfl:c10=.int .i8 z10:=Option.some.inj (show some c10=some _ from h10)
 obtain rfl:c11=.int .i8 z11:=Option.some.inj (show some c11=some _ from h11)
 obtain rfl:c12=.int .i8 z12:=Option.some.inj (show some c12=some _ from h12)
 obtain rfl:c13=.int .i8 z13:=Option.some.inj (show some c13=some _ from h13)
 obtain rfl:c14=.int .i8 z14:=Option.some.inj (show some c14=some _ from h14)
 obtain rfl:c15=.int .i8 z15:=Option.some.inj (show some c15=some _ from h15)
 obtain rfl:c16=.int .u8 x2:=Option.some.inj (show some c16=some _ from h16)
 obtain rfl:c17=.int .u8 y2:=Option.some.inj (show some c17=some _ from h17)
 obtain rfl:c18=.int .i8 z20:=Option.some.inj (show some c18=some _ from h18)
 obtain rfl:c19=.int .i8 z21:=Option.some.inj (show some c19=some _ from h19)
 obtain rfl:c20=.int .i8 z22:=Option.some.inj (show some c20=some _ from h20)
 obtain rfl:c21=.int .i8 z23:=Option.some.inj (show some c21=some _ from h21)
 obtain rfl:c22=.int .i8 z24:=Option.some.inj (show some c22=some _ from h22)
 obtain rfl:c23=.int .i8 z25:=Option.some.inj (show some c23=some _ from h23)
 refine ⟨x0,y0,z00,z01,z02,z03,z04,z05,x1,y1,z10,z11,z12,z13,z14,z15,x2,y2,z20,z21,z22,z23,z24,z25,rfl,bounds_u8 w0,bounds_u8 w1,fun e he=>?_,bounds_u8 w8,bounds_u8 w9,fun e he=>?_,bounds_u8 w16,bounds_u8 w17,fun e he=>?_⟩
 ·have g0:=bounds_i8 w2;have g1:=bounds_i8 w3;have g2:=bounds_i8 w4;have g3:=bounds_i8 w5;have g4:=bounds_i8 w6;have g5:=bounds_i8 w7
  simp only [List.mem_cons,List.not_mem_nil,or_false] at he
  rcases he with rfl | rfl | rfl | rfl | rfl | rfl <;> assumption
 ·have g0:=bounds_i8 w10;have g1:=bounds_i8 w11;have g2:=bounds_i8 w12;have g3:=bounds_i8 w13;have g4:=bounds_i8 w14;have g5:=bounds_i8 w15
  simp only [List.mem_cons,List.not_mem_nil,or_false] at he
  rcases he with rfl | rfl | rfl | rfl | rfl | rfl <;> assumption
 ·have g0:=bounds_i8 w18;have g1:=bounds_i8 w19;have g2:=bounds_i8 w20;have g3:=bounds_i8 w21;have g4:=bounds_i8 w22;have g5:=bounds_i8 w23
  simp only [List.mem_cons,List.not_mem_nil,or_false] at he
  rcases he with rfl | rfl | rfl | rfl | rfl | rfl <;> assumption
end Go.Proofs.YtjlkkofmojgipaaGreatDoor
