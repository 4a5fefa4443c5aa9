import Derived.Test.YtjlkkofmojgipaaGreatDoorTBT
import Derived.Test.YtjlkkofmojgipaaGreatDoorTAD
import Derived.LaidMore
import Derived.LaidLaws
import Derived.MakeChecks
import Derived.Lib.LaidTab
import Derived.Stop.Joined
import Derived.Stop.LaidErr
import Derived.Lay
import Derived.Test.YtjlkkofmojgipaaGreatDoorTie
import Derived.Test.YtjlkkofmojgipaaGreatDoorCards
import Derived.Test.YtjlkkofmojgipaaGreatDoorTBC
import Derived.Test.YtjlkkofmojgipaaGreatDoorTAU
import Derived.ChangeSlices
import Derived.Deep.Slices
import Derived.Test.YtjlkkofmojgipaaGreatDoorTBR
namespace Go.Proofs.YtjlkkofmojgipaaGreatDoor
set_option linter.unusedVariables false
set_option linter.unusedSimpArgs false
open Go.ChangeShapes Go.WideShapes Go.ChangeAt Go.RowKit
abbrev laid9 : List (String × DataW Unit) := [("math/bits.deBruijn32tab", Rows.laid_math_bits_deBruijn32tab), ("math/bits.deBruijn64tab", Rows.laid_math_bits_deBruijn64tab), ("internal/strconv.uint64pow10", Rows.laid_internal_strconv_uint64pow10), ("strconv.ErrRange", Rows.laid_strconv_ErrRange), ("strconv.ErrSyntax", Rows.laid_strconv_ErrSyntax)]
theorem pow10_of_laid {W:World} (h:laidMetH Tryz.prog laid9 W):Pow10 W:=by
 rw [MakeChecks.laidMetH_plain _ _ _ (by kernel_rfl)] at h
 have h2:=laidMet.tail (laidMet.tail h)
 exact Lib.tabIs_of_head (g:=4) (t:=266) (e:=204) (n:=20) (by kernel_rfl) (by kernel_rfl) (by kernel_rfl) (by kernel_rfl) (by kernel_rfl) (by kernel_rfl) h2
theorem returnsInHanded_shape {H:Type} {enc:TypeId×Value→H} {a:Assume} {C:Checked} {os:Os} {f:FuncId} {fn:Func} {s:ChangeSpec} {conds:List PathCond} {apart fresh handsOn again:Bool} {X:World→Array Value→Prop}
  (hX:∀ (w w':World) (args:Array Value),w.heap=w'.heap→X w args→X w' args)
  (own:ownKnob C.prog.godebug=none) (started:os.Started) (noInit:C.prog.inits.idxOf? f=none) (hfn:C.prog.funcs[f]?=some fn)
  (witness:∃ (w:World) (tape:Tape) (i:Input),w.os=os∧(w.forCall tape i).Shaped C.prog∧i.vars=[]∧Input.okWide C.prog (w.forCall tape i) .any w.heap.size f i ∧
   ((s.pre enc C.prog fn conds apart (w.forCall tape i).memory i.args∧X (w.forCall tape i).memory i.args)∧sizedMet enc C.prog fn (OpenSpec.ofChange s) apart (w.forCall tape i).memory i.args)∧a.holds C.prog (lone (Frame.enter C.prog f i.args .normal) [] (w.forCall tape i)))
  (contract:∀ (W:World) (base:Nat) (args:Array Value) (ds gs:List (DataW H)) (before:List MemPlace),
   (∀ (j:Nat) t v,fn.params[j]?=some t→args[j]?=some v→Value.okWide C.prog W .any base t v) →
   DataW.Whole enc C.prog fn.params.toList s.vars apart W args.toList ds gs before →
   conds.all (PathCond.test C.prog ⟨fn.params.toList,ds,s.plain.varTypes C.prog,gs⟩)=true →
   (DataW.weightsEach C.prog (fn.params.toList++s.plain.varTypes C.prog) (ds++gs)).all (·≤reachBytes)=true→X W args →
   W.ShapedOpen C.prog →
   a.holds C.prog (lone (Frame.enter C.prog f args .normal) [] W) →
   Calls C.prog f args W fun e W'=>∃ v,e=.returned v∧s.post enc C.prog fn apart fresh handsOn again W args v W') :
  ReturnsInHanded a C os f .any (fun w args=>(s.pre enc C.prog fn conds apart w args∧X w args)∧sizedMet enc C.prog fn (OpenSpec.ofChange s) apart w args) (s.post enc C.prog fn apart fresh handsOn again):=by
 refine returnsInHanded_of_calls own started noInit witness ?_
 intro w tape i _ hsh _ hok hpre hholds
 obtain ⟨_,_,_,fn',hfn',_,_,_,_,hval⟩:=hok
 have e:fn'=fn:=Option.some.inj (hfn'.symm.trans hfn)
 subst e
 obtain ⟨⟨⟨ds,gs,before,hw,hc⟩,hx⟩,hz⟩:=hpre
 have hw':=DataW.Whole.of_heap (w':=w.forCall tape i) (by rfl) hw
 refine (contract (w.forCall tape i) w.heap.size i.args ds gs before hval hw' hc (hz.weights hw) (hX _ _ _ (by rfl) hx) hsh hholds).mono fun e W' ⟨v,he,hp⟩=>?_
 subst he
 exact ChangeSpec.post_blind hp
theorem door_met7 (os:Os) (args:Array Value):laidMetH Tryz.prog laid9 ((World.laidAll Tryz.prog os laid9).forCall (fun _ _=>0) ⟨#[],args,[]⟩).memory:=by
 rw [MakeChecks.laidMetH_plain _ _ _ (by kernel_rfl)];exact laidMet_laidAll _ (by kernel_rfl) (by kernel_rfl)
theorem errRow (u : TypeId) (h : Tryz.prog.typeName? 3 u = some "*errors.errorString") : u = 269 :=
 typeName_ptr_named (nm := "errors.errorString") (by rw [show "*" ++ "errors.errorString" = "*errors.errorString" by decide]; kernel_rfl) (by kernel_rfl) (by decide) u (by rw [show "*" ++ "errors.errorString" = "*errors.errorString" by decide]; exact h)
theorem libT_of {W:World} (h:laidMetH Tryz.prog laid9 W):LibT W:=by
 have hp:=pow10_of_laid h
 rw [MakeChecks.laidMetH_plain _ _ _ (by kernel_rfl)] at h
 have h2:=laidMet.tail (laidMet.tail h)
 refine ⟨hp,?_⟩
 have h4:=laidMet.tail h2
 obtain ⟨a,s,hv,-⟩:=laid_sentinel (g:=3) (ti:=176) (tp:=269) (te:=271) (ts:=9) (ms:=_) (f:=_) h4 (by kernel_rfl) (by kernel_rfl) Tryz.underlying176 errRow Tryz.underlying269 Tryz.underlying271 rfl rfl Tryz.underlying9 (by kernel_rfl) (by kernel_rfl)
 have hc := World.var?_cell (show Tryz.prog.globalNamed "strconv.ErrRange" = some 3 by kernel_rfl) hv 0
 exact ⟨_,_,by simpa using hc⟩
theorem pow_lt {W:World} (h:Pow10 W):4<W.heap.size:=by
 unfold Pow10 Lib.TabIs at h
 have hg : Tryz.prog.globalNamed "internal/strconv.uint64pow10" = some 4 := by kernel_rfl
 by_cases hlt:4<W.heap.size
 ·exact hlt
 ·simp [World.var?,hg,Array.getElem?_eq_none (show W.heap.size≤4 by omega)] at h
theorem flattenKM {k:Nat} {us:List (List Value)} (h:∀ u∈us,u.length=k) (hk:0<k) (j:Nat):us.flatten[j]?=(us[j / k]?).bind (·[j%k]?):=by
 have hj:j=j / k*k+j%k:=by rw [Nat.mul_comm];exact (Nat.div_add_mod j k).symm
 cases hu:us[j / k]? with
 | some u =>
  have:=flatten_get us (j / k) (j%k) u h hu (Nat.mod_lt _ hk)
  rw [← hj] at this
  rw [this];rfl
 | none =>
  have hl:us.length≤j / k:=List.getElem?_eq_none_iff.1 hu
  have hf:us.flatten.length=us.length*k:=by
   have:∀ l:List (List Value),(∀ u∈l,u.length=k)→l.flatten.length=l.length*k:=by
    intro l
    induction l with
    | nil=>intro _;simp
    | cons x l ih=>intro hx;rw [List.flatten_cons,List.length_append,hx x (by simp),ih (fun u hu=>hx u (by simp [hu])),List.length_cons,Nat.succ_mul];omega
   exact this us h
  rw [List.getElem?_eq_none]
  ·rfl
  ·rw [hf]
   have:us.length*k≤j / k*k:=Nat.mul_le_mul_right k hl
   omega
theorem spot_noneM {W:World} {a:Addr} {v:Value} (h:W.cell? a=some v):a.spot=none:=by
 unfold World.cell? at h
 split at h
 ·cases hs:a.spot with
  | none=>rfl
  | some s=>rw [hs] at h;simp at h
 ·cases h
theorem slice_inM {α:Type} (k:Nat) (hk:0<k) (R:World→List Value→α→Prop) {H:Type} {enc:TypeId×Value→H} {W:World} {base:Nat} {spare:Nat→Bool} {held:Bool} {t e:TypeId} {P:Program}
  (ht:P.underlying t=some (.slice e)) (hc:P.cellsOf e=k)
  (hel:∀ cs n x,cs.length=k→DataW.trod enc P W base spare held n e cs=some x→∃ a,R W cs a) {c:Value} {x:DataW H×List MemPlace} {fuel:Nat}
  (hf:DataW.trod enc P W base spare held fuel t [c]=some x):∃ xs,ListAt k R W c xs:=by
 rcases Go.Deep.open_slice ht hf with ⟨hcs,hx⟩ | ⟨a,len,cap,m,n,D,Pl,hcs,_,hl,hm,hmm,hx,hV⟩
 ·obtain rfl:c=.slice none 0 0:=by simpa using hcs
  exact ⟨[],[],rfl,by simp,⟨none,0,rfl,Nat.le_refl _,Nat.zero_le _,fun _=>rfl,fun h=>absurd rfl h⟩,by simp⟩
 ·obtain rfl:c=.slice (some a) len cap:=by simpa using hcs
  have hml:len≤m:=by rw [hmm];split <;> omega
  rw [hc] at hV
  have key:∀ i,i<len→∃ u:List Value,u.length=k∧(∀ j,j<k→W.cell? ((a.add (i*k)).add j)=u[j]?)∧∃ y,R W u y:=by
   intro i hi
   obtain ⟨cs',h1,h2⟩:=hV i (by omega)
   obtain ⟨-,h3,h4⟩:=World.cells?_some h1
   obtain ⟨y,hy⟩:=hel cs' n _ h3 h2
   exact ⟨cs',h3,h4,y,hy⟩
  have hU:∃ U:Nat→List Value,∀ i,i<len→(U i).length=k∧(∀ j,j<k→W.cell? ((a.add (i*k)).add j)=(U i)[j]?)∧∃ y,R W (U i) y:=by
   refine ⟨fun i=>if h:i<len then Classical.choose (key i h) else [],fun i h=>?_⟩
   simp only [h,↓reduceDIte]
   exact Classical.choose_spec (key i h)
  obtain ⟨U,hU⟩:=hU
  have hY:∃ ys:List α,ys.length=len∧∀ (i:Nat) y,ys[i]?=some y→R W (U i) y:=by
   rcases Nat.eq_zero_or_pos len with h0 | h0
   ·subst h0;exact ⟨[],rfl,by simp⟩
   ·obtain ⟨y0,-⟩:=(hU 0 h0).2.2
    have hex:∀ i,∃ y,i<len→R W (U i) y:=fun i=>by
     by_cases h:i<len
     ·obtain ⟨y,hy⟩:=(hU i h).2.2;exact ⟨y,fun _=>hy⟩
     ·exact ⟨y0,fun h2=>absurd h2 h⟩
    refine ⟨(List.range len).map fun i=>Classical.choose (hex i),by simp,fun i y hy=>?_⟩
    have hil:i<len:=by have:=(List.getElem?_eq_some_iff.1 hy).1;simpa using this
    rw [List.getElem?_map,List.getElem?_range hil] at hy
    obtain rfl:=Option.some.inj hy
    exact Classical.choose_spec (hex i) hil
  obtain ⟨ys,hyl,hyR⟩:=hY
  have hus:∀ u∈(List.range len).map U,u.length=k:=by
   intro u hu
   obtain ⟨i,hi,rfl⟩:=List.mem_map.1 hu
   exact (hU i (List.mem_range.1 hi)).1
  refine ⟨ys,(List.range len).map U,by simp [hyl],hus,⟨some a,cap,by rw [hyl],by omega,hm,(fun h=>by cases h),fun hne=>?_⟩,fun j u y hu hy=>?_⟩
  ·have hpos:0<len:=by
    rcases Nat.eq_zero_or_pos len with h0 | h0
    ·subst h0;simp at hne
    ·exact h0
   have h0:=(hU 0 hpos).2.1 0 hk
   have hl0:=(hU 0 hpos).1
   rw [List.getElem?_eq_getElem (by omega),Nat.zero_mul] at h0
   have hs:a.spot=none:=by
    have:=spot_noneM h0
    unfold Addr.add at this
    simpa using this
   refine ⟨a.block,a.off,by rw [← hs],?_,fun j u hu=>?_⟩
   ·have:=lt_of_cell h0
    unfold Addr.add at this
    simpa using this
   ·rw [flattenKM hus hk j] at hu
    cases hjk:((List.range len).map U)[j / k]? with
    | none=>rw [hjk] at hu;cases hu
    | some z =>
     rw [hjk] at hu
     have hlt:j / k<len:=by have:=(List.getElem?_eq_some_iff.1 hjk).1;simpa using this
     rw [List.getElem?_map,List.getElem?_range hlt] at hjk
     obtain rfl:=Option.some.inj hjk
     have hm2:=Nat.mod_lt j hk
     have hcl:=(hU (j / k) hlt).2.1 (j%k) hm2
     rw [show (U (j / k))[j%k]?=some u from hu,Go.Deep.add_add,show j / k*k+j%k=j by rw [Nat.mul_comm];exact Nat.div_add_mod j k] at hcl
     unfold Addr.add at hcl
     by_cases hj0:j=0
     ·subst hj0
      rw [if_pos rfl] at hcl
      have ha:a=⟨a.block,a.off+0,none⟩:=by cases a;simp only at hs;subst hs;rfl
      rw [ha] at hcl;exact hcl
     ·rw [if_neg hj0] at hcl;exact hcl
  ·have hjl:j<len:=by have:=(List.getElem?_eq_some_iff.1 hu).1;simpa using this
   rw [List.getElem?_map,List.getElem?_range hjl] at hu
   obtain rfl:=Option.some.inj hu
   exact hyR j y hy
theorem cellsMul10:Tryz.prog.cellsOf 31=3:=by kernel_rfl
theorem cellsInt10:Tryz.prog.cellsOf 3=1:=by kernel_rfl
theorem cellsBig10:Tryz.prog.cellsOf 29=1:=by kernel_rfl
theorem cellsStr10:Tryz.prog.cellsOf 53=1:=by kernel_rfl
set_option maxRecDepth 100000 in
theorem open_multi10 {H:Type} {enc:TypeId×Value→H} {W:World} {r:Reach} {b0 base:Nat} {spare:Nat→Bool} {held:Bool} {v:Value} {d:DataW H} {ps:List MemPlace}
  (hval:Value.okWide Tryz.prog W r b0 31 v) (hd:DataW.Trod enc Tryz.prog W base spare held 31 v d ps) :
  ∃ n k L,TxtV W v n k L:=by
 obtain ⟨cs,rfl,hs⟩:=okWide_struct Tryz.underlying31 hval
 obtain ⟨fuel,hf⟩:=hd
 rw [cellsMul10] at hs
 obtain ⟨a,b,c,rfl⟩:∃ a b c,cs=#[a,b,c]:=by
  match cs,hs with
  | ⟨[a,b,c]⟩,_=>exact ⟨a,b,c,rfl⟩
 obtain ⟨xs,n,-,-,hl,hlen,hall⟩:=DataW.trod_struct Tryz.underlying31 hf
 have h0:=hall 0 _ rfl
 have h1:=hall 1 _ rfl
 have h2:=hall 2 _ rfl
 have hx:xs.length=3:=hlen
 rw [List.getElem?_eq_getElem (by omega)] at h0 h1 h2
 have k0:DataW.trod enc Tryz.prog W base spare held n 3 [a]=some xs[0]:=by
  rw [← h0]
  show _=DataW.trod enc Tryz.prog W base spare held n 3 (([a,b,c].drop 0).take (Tryz.prog.cellsOf 3))
  rw [cellsInt10];rfl
 have k1:DataW.trod enc Tryz.prog W base spare held n 3 [b]=some xs[1]:=by
  rw [← h1]
  show _=DataW.trod enc Tryz.prog W base spare held n 3 (([a,b,c].drop 1).take (Tryz.prog.cellsOf 3))
  rw [cellsInt10];rfl
 have k2:DataW.trod enc Tryz.prog W base spare held n 29 [c]=some xs[2]:=by
  rw [← h2]
  show _=DataW.trod enc Tryz.prog W base spare held n 29 (([a,b,c].drop 2).take (Tryz.prog.cellsOf 29))
  rw [cellsBig10];rfl
 obtain ⟨L,hL⟩:=slice_inM 1 (by decide) (inCell txtR) Tryz.underlying29 cellsStr10 (fun cs n x hl hf=>by
  obtain ⟨s,h1,-,-⟩:=DataW.trod_string Tryz.underlying53 hf
  exact ⟨s,.string s,h1,rfl⟩) k2
 obtain ⟨i,hi,-⟩:=DataW.trod_int Tryz.underlying3 k0
 obtain ⟨j,hj,-⟩:=DataW.trod_int Tryz.underlying3 k1
 obtain rfl:a=.int .i64 i:=by simpa using hi
 obtain rfl:b=.int .i64 j:=by simpa using hj
 exact ⟨i,j,L,c,rfl,hL⟩
end Go.Proofs.YtjlkkofmojgipaaGreatDoor
