import Derived.Test.YtjlkkofmojgipaaGreatDoorPAU
import Derived.Test.YtjlkkofmojgipaaGreatDoorPBO
import Derived.Test.YtjlkkofmojgipaaGreatDoorPAS
import Derived.Test.YtjlkkofmojgipaaGreatDoorPBK
import Derived.Test.YtjlkkofmojgipaaGreatDoorRows
import Derived.WalkKit
import Derived.ProofKit
import Derived.OpenShut
import Derived.Test.YtjlkkofmojgipaaGreatDoorPAA
import Derived.ChangeSlices
import Derived.Test.YtjlkkofmojgipaaGreatDoorPAD
import Derived.LaidMore
import Derived.LaidLaws
import Derived.MakeChecks
import Derived.Lib.LaidTab
import Derived.Stop.Joined
import Derived.Stop.LaidErr
import Derived.Lay
import Derived.Test.YtjlkkofmojgipaaGreatDoorTie
import Derived.Test.YtjlkkofmojgipaaGreatDoorCards
import Derived.Test.YtjlkkofmojgipaaGreatDoorPBF
import Derived.Deep.Slices
namespace Go.Proofs.YtjlkkofmojgipaaGreatDoor
set_option linter.unusedVariables false
set_option linter.unusedSimpArgs false
open Go.RowKit
def fewT (n:Int) (L:List ByteArray):Prop:=¬ (4<n∧n≤12)∧L.length≤8∧∀ a∈L,a.size≤13∨(398≤a.size∧a.size≤402)
def shortT (L:List ByteArray):Prop:=∀ a∈L,a.size≤13
instance (n:Int) (L:List ByteArray):Decidable (fewT n L):=by unfold fewT;exact inferInstance
instance (L:List ByteArray):Decidable (shortT L):=by unfold shortT;exact inferInstance
set_option maxRecDepth 100000 in
set_option maxHeartbeats 4000000 in
theorem few10_any (n k:Int) (L:List ByteArray) (u:Value) (w:World) (h:TxtV w u n k L) :
  Calls Tryz.prog 20 #[u] w fun e w'=>e=.returned (.bool (decide (fewT n L)))∧Ext w w':=by
 obtain ⟨r,rfl,hr⟩:=h
 obtain ⟨a,c,rfl,h1,h2,-,hc⟩:=inCell.open hr
 unfold maxLen at h2
 obtain ⟨w1,hw1,hE1,hsz1,hb1⟩:=boxM w (.int .i64 n) (.int .i64 k) (.slice a L.length c)
 have HC:=Lib.hid hc
 have HB:=Lib.hid hb1
 have HE1:=Lib.hid hE1
 obtain ⟨m,hm⟩:∃ m,L.length=m:=⟨_,rfl⟩
 have HL:Hid (L.length=m):=hm
 have k1:=block_cell hb1
 rw [hm] at h1 HB hw1 k1 ⊢
 by_cases hAB:4<n∧n≤12
 ·have HV:Hid (¬ fewT n L):=fun e=>e.1 hAB
  obtain ⟨hA,hB⟩:=hAB
  clear hb1 hE1 hr hc hm
  go_enter Tryz.func20,Tryz.ntmps20
  go_wp2_with fail
  go_ret
  exact ⟨by rw [decide_eq_false HV.out];rfl,HE1.out⟩
 have HN:=Lib.hid hAB
 by_cases hA:4<n
 case' pos=>have hB:¬ n≤12:=fun e=>hAB ⟨hA,e⟩
 all_goals
  by_cases h8:8<m
  ·have HV:Hid (¬ fewT n L):=fun e=>by have:=e.2.1;rw [HL.out] at this;omega
   have h8':(8:Int)<(m:Int):=by omega
   clear hb1 hE1 hr hc hm h8 hAB
   go_enter Tryz.func20,Tryz.ntmps20
   go_wp2_with fail
   go_ret
   exact ⟨by rw [decide_eq_false HV.out];rfl,HE1.out⟩
  have h8':¬ (8:Int)<(m:Int):=by omega
  clear hb1 hE1 hr hc hm hAB
  go_enter Tryz.func20,Tryz.ntmps20
  go_wp2_with fail
  clear hw1 k1
  go_loopw [3,4] (fun t o wr=>∃ (j:Nat) (v0:Value),j≤m∧t=.int .i64 j∧o=v0∧Hid (Ext w1 wr)∧Hid (∀ a∈L.take j,a.size≤13∨(398≤a.size∧a.size≤402))) (fun t _ _=>m+1-(intOf t).toNat)
  case atStart=>exact ⟨0,_,by omega,rfl,rfl,by first | exact Ext.refl _ | exact Ext.drew _,by simp [Hid]⟩
  case round =>
   obtain ⟨j,v9,hj,rfl,hv9,HX,HR⟩:=hrel
   obtain rfl:=hv9.symm
   have k1:=block_cell (block_ext HB.out HX.out)
   by_cases hlt:j<m
   ·obtain ⟨x,hx⟩:∃ x,L[j]?=some x:=⟨_,List.getElem?_eq_getElem (by have:=HL.out;omega)⟩
    obtain ⟨b,off,rfl,hb,hcell⟩:=HC.out (by intro e;rw [e] at hx;simp at hx)
    obtain ⟨z9,e1,g1⟩:=hcell j x hx
    obtain rfl:z9=.string x:=e1
    have g1:=HX.out.cell (HE1.out.cell g1)
    have q1:(j:Int)<(m:Int):=by omega
    have HXX:=Lib.hid hx
    obtain ⟨s,hs⟩:∃ s,x.size=s:=⟨_,rfl⟩
    have HS:=Lib.hid hs
    clear hcell hx hb
    by_cases hA1:13<s
    ·by_cases hA2:s<398
     ·have HV:Hid (¬ fewT n L):=fun e=>by
       have:=e.2.2 x (List.mem_of_getElem? HXX.out);have:=HS.out;omega
      have q3:(13:Int)<(s:Int):=by omega
      have q4:(s:Int)<398:=by omega
      clear hA1 hA2
      go_wp2_with fail
      go_ret
      exact ⟨by rw [decide_eq_false HV.out];rfl,HE1.out.trans HX.out⟩
     ·by_cases hA3:402<s
      ·have HV:Hid (¬ fewT n L):=fun e=>by
        have:=e.2.2 x (List.mem_of_getElem? HXX.out);have:=HS.out;omega
       have q3:(13:Int)<(s:Int):=by omega
       have q4:¬ (s:Int)<398:=by omega
       have q5:(402:Int)<(s:Int):=by omega
       clear hA1 hA2 hA3
       go_wp2_with fail
       go_ret
       exact ⟨by rw [decide_eq_false HV.out];rfl,HE1.out.trans HX.out⟩
      ·have HP:Hid (∀ a∈L.take (j+1),a.size≤13∨(398≤a.size∧a.size≤402)):=fun a ha=>by
        rw [List.take_add_one,HXX.out] at ha
        rcases List.mem_append.1 ha with ha | ha
        ·exact HR.out a ha
        ·simp at ha;subst ha;have:=HS.out;omega
       have q3:(13:Int)<(s:Int):=by omega
       have q4:¬ (s:Int)<398:=by omega
       have q5:¬ (402:Int)<(s:Int):=by omega
       clear hA1 hA2 hA3
       go_wp2_with fail
       go_roundw
       case rel=>exact ⟨j+1,_,by omega,by go_num,rfl,HX.out,HP.out⟩
       case measure=>simp [intOf];omega
    ·have HP:Hid (∀ a∈L.take (j+1),a.size≤13∨(398≤a.size∧a.size≤402)):=fun a ha=>by
      rw [List.take_add_one,HXX.out] at ha
      rcases List.mem_append.1 ha with ha | ha
      ·exact HR.out a ha
      ·simp at ha;subst ha;have:=HS.out;omega
     have q3:¬ (13:Int)<(s:Int):=by omega
     clear hA1
     go_wp2_with fail
     go_roundw
     case rel=>exact ⟨j+1,_,by omega,by go_num,rfl,HX.out,HP.out⟩
     case measure=>simp [intOf];omega
   ·obtain rfl:j=m:=by omega
    have HV:Hid (fewT n L):=⟨HN.out,by rw [HL.out];omega,fun a ha=>HR.out a (by rw [List.take_of_length_le (by have:=HL.out;omega)];exact ha)⟩
    go_wp2_with fail
    go_ret
    exact ⟨by rw [decide_eq_true HV.out];rfl,HE1.out.trans HX.out⟩
set_option maxRecDepth 100000 in
set_option maxHeartbeats 4000000 in
theorem short10_any (n k:Int) (L:List ByteArray) (u:Value) (w:World) (h:TxtV w u n k L) :
  Calls Tryz.prog 21 #[u] w fun e w'=>e=.returned (.bool (decide (shortT L)))∧Ext w w':=by
 obtain ⟨r,rfl,hr⟩:=h
 obtain ⟨a,c,rfl,h1,h2,-,hc⟩:=inCell.open hr
 unfold maxLen at h2
 obtain ⟨w1,hw1,hE1,hsz1,hb1⟩:=boxM w (.int .i64 n) (.int .i64 k) (.slice a L.length c)
 have HC:=Lib.hid hc
 have HB:=Lib.hid hb1
 have HE1:=Lib.hid hE1
 obtain ⟨m,hm⟩:∃ m,L.length=m:=⟨_,rfl⟩
 have HL:Hid (L.length=m):=hm
 have k1:=block_cell hb1
 rw [hm] at h1 HB hw1 k1 ⊢
 clear hb1 hE1 hr hc hm
 go_enter Tryz.func21,Tryz.ntmps21
 go_wp2_with fail
 clear hw1 k1
 go_loopw [3] (fun t wr=>∃ (j:Nat),j≤m∧t=.int .i64 j∧Hid (Ext w1 wr)∧Hid (∀ a∈L.take j,a.size≤13)) (fun t _=>m+1-(intOf t).toNat)
 case atStart=>exact ⟨0,by omega,rfl,by first | exact Ext.refl _ | exact Ext.drew _,by simp [Hid]⟩
 case round =>
  obtain ⟨j,hj,rfl,HX,HR⟩:=hrel
  have k1:=block_cell (block_ext HB.out HX.out)
  by_cases hlt:j<m
  ·obtain ⟨x,hx⟩:∃ x,L[j]?=some x:=⟨_,List.getElem?_eq_getElem (by have:=HL.out;omega)⟩
   obtain ⟨b,off,rfl,hb,hcell⟩:=HC.out (by intro e;rw [e] at hx;simp at hx)
   obtain ⟨z9,e1,g1⟩:=hcell j x hx
   obtain rfl:z9=.string x:=e1
   have g1:=HX.out.cell (HE1.out.cell g1)
   have q1:(j:Int)<(m:Int):=by omega
   have HXX:=Lib.hid hx
   obtain ⟨s,hs⟩:∃ s,x.size=s:=⟨_,rfl⟩
   have HS:=Lib.hid hs
   clear hcell hx hb
   by_cases hA1:13<s
   ·have HV:Hid (¬ shortT L):=fun e=>by
     have:=e x (List.mem_of_getElem? HXX.out);have:=HS.out;omega
    have q3:(13:Int)<(s:Int):=by omega
    clear hA1
    go_wp2_with fail
    go_ret
    exact ⟨by rw [decide_eq_false HV.out];rfl,HE1.out.trans HX.out⟩
   ·have HP:Hid (∀ a∈L.take (j+1),a.size≤13):=fun a ha=>by
     rw [List.take_add_one,HXX.out] at ha
     rcases List.mem_append.1 ha with ha | ha
     ·exact HR.out a ha
     ·simp at ha;subst ha;have:=HS.out;omega
    have q3:¬ (13:Int)<(s:Int):=by omega
    clear hA1
    go_wp2_with fail
    go_roundw
    case rel=>exact ⟨j+1,by omega,by go_num,HX.out,HP.out⟩
    case measure=>simp [intOf];omega
  ·obtain rfl:j=m:=by omega
   have HV:Hid (shortT L):=fun a ha=>HR.out a (by rw [List.take_of_length_le (by have:=HL.out;omega)];exact ha)
   go_wp2_with fail
   go_ret
   exact ⟨by rw [decide_eq_true HV.out];rfl,HE1.out.trans HX.out⟩
theorem none_yes (W:World):Calls Tryz.prog 16 #[noMulti] W fun e w'=>e=.returned (.bool true)∧Ext W w':=by
 have h9:=noneM_any 0 0 [] noMulti W (noMulti_v W)
 rw [show equalM 0 0 [] 0 0 []=true by decide] at h9
 exact h9
end Go.Proofs.YtjlkkofmojgipaaGreatDoor
namespace Go.Proofs.YtjlkkofmojgipaaGreatDoor
set_option linter.unusedVariables false
set_option linter.unusedSimpArgs false
open Go.ChangeShapes Go.WideShapes Go.ChangeAt Go.RowKit
theorem lawOwn:ownKnob Tryz.prog.godebug=none:=by kernel_rfl
theorem lawLaid:laidOutB Tryz.prog=true:=by kernel_rfl
theorem trodAll_below {H:Type} {enc:TypeId×Value→H} {P:Program} (hl:laidOutB P=true) {W W':World} (hb:Below W.heap.size W W') :
  ∀ (ts:List TypeId) (vs:List Value) (ds:List (DataW H)) (ps:List MemPlace),(∀ t∈ts,P.readableRec t=true∧t<P.types.size) →
   DataW.TrodAll enc P W 0 (fun _=>true) true ts vs ds ps→(∀ x∈ps,x.block<W.heap.size)→DataW.TrodAll enc P W' 0 (fun b=>decide (b<W.heap.size)) true ts vs ds ps
 | [],[],[],ps,_,h,_=>h
 | t::ts,v::vs,d::ds,ps,hr,h,hlt=>by
  obtain ⟨p,p',h1,h2,rfl⟩:=h
  exact ⟨p,p',Below.trod hl (hr t (by simp)).1 (hr t (by simp)).2 h1 hb (fun x hx=>hlt x (by simp [hx])),trodAll_below hl hb ts vs ds p' (fun t ht=>hr t (by simp [ht])) h2 (fun x hx=>hlt x (by simp [hx])),rfl⟩
 | [],v::vs,_,_,_,h,_=>absurd h (by simp [DataW.TrodAll])
 | [],[],d::ds,_,_,h,_=>absurd h (by simp [DataW.TrodAll])
 | t::ts,[],_,_,_,h,_=>absurd h (by simp [DataW.TrodAll])
 | t::ts,v::vs,[],_,_,h,_=>absurd h (by simp [DataW.TrodAll])
theorem lawPost {H:Type} {enc:TypeId×Value→H} {f:Func} {s:ChangeSpec} {W W':World} {args:Array Value} {ds:List (DataW H)} {before:List MemPlace}
  (hW:DataW.Whole enc Tryz.prog f.params.toList s.vars false W args.toList ds [] before) (hA:DataW.TrodAll enc Tryz.prog W 0 (fun _=>true) true f.params.toList args.toList ds before)
  (hv:s.vars=[]) (hres:f.resultTypes=#[4]) (hfn:s.fn H (ds++[])={ results:=[.lit (.bool true)],args:=ds }) (hr:∀ t∈f.params.toList,Tryz.prog.readableRec t=true∧t<Tryz.prog.types.size) (hb:Below W.heap.size W W') :
  ∃ v,Ending.returned (.bool true)=Ending.returned v∧ChangeSpec.post enc Tryz.prog f s false true false false W args v W':=by
 refine ⟨_,rfl,ds,[],before,[],before,[],hW,?_,?_,?_,?_,fun h=>by cases h⟩
 ·rw [hfn,hres]
  exact trodAll_cons_mk (shut_bool Tryz.underlying4 _) trodAll_mk0
 ·rw [hfn]
  exact trodAll_below lawLaid hb _ _ _ _ hr hA (fun x hx=>by simpa using hW.lt x hx)
 ·rw [hfn,hv];rfl
 ·exact hb.frame _
theorem ints_nil (W:World):Ints W (.slice none 0 0) [] :=
 ⟨[],rfl,by simp,⟨none,0,rfl,Nat.le_refl _,Nat.zero_le _,fun _=>rfl,fun h=>absurd rfl h⟩,by simp⟩
theorem ints_in {H:Type} {enc:TypeId×Value→H} {W:World} {r:Reach} {b0 base:Nat} {spare:Nat→Bool} {held:Bool} {v:Value} {d:DataW H} {ps:List MemPlace} {t e:TypeId} {P:Program}
  (ht:P.underlying t=some (.slice e)) (he:P.underlying e=some (.int .i64)) (hc:P.cellsOf e=1) (hsp:∀ b,spare b=true)
  (hval:Value.okWide P W r b0 t v) (hd:DataW.Trod enc P W base spare held t v d ps):∃ xs,Ints W v xs:=by
 obtain ⟨fuel,hf⟩:=hd
 obtain ⟨a0,len0,cap0,rfl⟩:=okWide_slice ht hval
 rcases open_ints ht he hc hf with ⟨hcs,hx⟩ | ⟨a,len,cap,zs,hcs,_,hl,hm,hz,hx,hcell,hwz⟩
 ·simp [Value.cells] at hcs
  obtain ⟨rfl,rfl,rfl⟩:=hcs
  exact ⟨[],ints_nil W⟩
 ·simp [Value.cells] at hcs
  obtain ⟨rfl,rfl,rfl⟩:=hcs
  rw [hsp,if_pos rfl] at hz
  have hlen:(zs.take len0).length=len0:=by rw [List.length_take];omega
  refine ⟨zs.take len0,(zs.take len0).map fun x=>[Value.int .i64 x],by simp,(by intro u hu;obtain ⟨x,_,rfl⟩:=List.mem_map.1 hu;rfl),?_,?_⟩
  ·rw [flatten_one]
   refine ⟨some a,cap0,by rw [hlen],by rw [hlen];exact hl,hm,(fun h=>by cases h),fun hne=>?_⟩
   have hpos:0<len0:=by
    rcases Nat.eq_zero_or_pos len0 with h0 | h0
    ·subst h0;simp at hne
    ·exact h0
   have h0:=hcell 0 (by omega)
   have hs:a.spot=none:=by
    cases hsp2:a.spot with
    | none=>rfl
    | some s =>
     have:W.cell? a=some (.int .i64 (zs.getD 0 0)):=by simpa [Addr.add] using h0
     unfold World.cell? at this
     rw [hsp2] at this
     split at this <;> simp at this
   refine ⟨a.block,a.off,by rw [← hs],lt_of_cell (by simpa [Addr.add] using h0),fun j u hu=>?_⟩
   rw [List.getElem?_map] at hu
   cases hj:(zs.take len0)[j]? with
   | none=>simp [hj] at hu
   | some x =>
    simp [hj] at hu
    subst hu
    have hjl:j<len0:=by have:=(List.getElem?_eq_some_iff.1 hj).1;omega
    have hc2:=hcell j (by omega)
    rw [List.getElem?_take,if_pos hjl] at hj
    rw [List.getD_eq_getElem?_getD,hj] at hc2
    unfold Addr.add at hc2
    by_cases hj0:j=0
    ·subst hj0
     rw [if_pos rfl] at hc2
     have ha:a=⟨a.block,a.off+0,none⟩:=by cases a;simp only at hs;subst hs;rfl
     rw [ha] at hc2;exact hc2
    ·rw [if_neg hj0] at hc2;exact hc2
  ·intro j u x hu hx
   simp only [List.getElem?_map,hx,Option.map_some,Option.some.injEq] at hu
   refine ⟨hu.symm,?_⟩
   have:=hwz x (List.mem_of_mem_take (List.mem_of_getElem? hx))
   exact bounds_i64 this
abbrev laid9 : List (String × DataW Unit) := [("math/bits.deBruijn32tab", Rows.laid_math_bits_deBruijn32tab), ("math/bits.deBruijn64tab", Rows.laid_math_bits_deBruijn64tab), ("internal/strconv.uint64pow10", Rows.laid_internal_strconv_uint64pow10), ("strconv.ErrRange", Rows.laid_strconv_ErrRange), ("strconv.ErrSyntax", Rows.laid_strconv_ErrSyntax)]
theorem cellsInt:Tryz.prog.cellsOf 3=1:=by kernel_rfl
theorem pow10_of_laid {W:World} (h:laidMetH Tryz.prog laid9 W):Pow10 W:=by
 rw [MakeChecks.laidMetH_plain _ _ _ (by kernel_rfl)] at h
 have h2:=laidMet.tail (laidMet.tail h)
 exact Lib.tabIs_of_head (g:=4) (t:=266) (e:=204) (n:=20) (by kernel_rfl) (by kernel_rfl) (by kernel_rfl) (by kernel_rfl) (by kernel_rfl) (by kernel_rfl) h2
theorem returnsInHanded_shape {H:Type} {enc:TypeId×Value→H} {a:Assume} {C:Checked} {os:Os} {f:FuncId} {fn:Func} {s:ChangeSpec} {conds:List PathCond} {apart fresh handsOn again:Bool} {X:World→Array Value→Prop}
  (hX:∀ (w w':World) (args:Array Value),w.heap=w'.heap→X w args→X w' args)
  (own:ownKnob C.prog.godebug=none) (started:os.Started) (noInit:C.prog.inits.idxOf? f=none) (hfn:C.prog.funcs[f]?=some fn)
  (witness:∃ (w:World) (tape:Tape) (i:Input),w.os=os∧(w.forCall tape i).Shaped C.prog∧i.vars=[]∧Input.okWide C.prog (w.forCall tape i) .any w.heap.size f i ∧
   ((s.pre enc C.prog fn conds apart (w.forCall tape i).memory i.args∧X (w.forCall tape i).memory i.args)∧sizedMet enc C.prog fn (OpenSpec.ofChange s) apart (w.forCall tape i).memory i.args)∧a.holds C.prog (lone (Frame.enter C.prog f i.args .normal) [] (w.forCall tape i)))
  (contract:∀ (W:World) (base:Nat) (args:Array Value) (ds gs:List (DataW H)) (before:List MemPlace),
   (∀ (j:Nat) t v,fn.params[j]?=some t→args[j]?=some v→Value.okWide C.prog W .any base t v) →
   DataW.Whole enc C.prog fn.params.toList s.vars apart W args.toList ds gs before →
   conds.all (PathCond.test C.prog ⟨fn.params.toList,ds,s.plain.varTypes C.prog,gs⟩)=true →
   (DataW.weightsEach C.prog (fn.params.toList++s.plain.varTypes C.prog) (ds++gs)).all (·≤reachBytes)=true→X W args →
   W.ShapedOpen C.prog →
   a.holds C.prog (lone (Frame.enter C.prog f args .normal) [] W) →
   Calls C.prog f args W fun e W'=>∃ v,e=.returned v∧s.post enc C.prog fn apart fresh handsOn again W args v W') :
  ReturnsInHanded a C os f .any (fun w args=>(s.pre enc C.prog fn conds apart w args∧X w args)∧sizedMet enc C.prog fn (OpenSpec.ofChange s) apart w args) (s.post enc C.prog fn apart fresh handsOn again):=by
 refine returnsInHanded_of_calls own started noInit witness ?_
 intro w tape i _ hsh _ hok hpre hholds
 obtain ⟨_,_,_,fn',hfn',_,_,_,_,hval⟩:=hok
 have e:fn'=fn:=Option.some.inj (hfn'.symm.trans hfn)
 subst e
 obtain ⟨⟨⟨ds,gs,before,hw,hc⟩,hx⟩,hz⟩:=hpre
 have hw':=DataW.Whole.of_heap (w':=w.forCall tape i) (by rfl) hw
 refine (contract (w.forCall tape i) w.heap.size i.args ds gs before hval hw' hc (hz.weights hw) (hX _ _ _ (by rfl) hx) hsh hholds).mono fun e W' ⟨v,he,hp⟩=>?_
 subst he
 exact ChangeSpec.post_blind hp
theorem door_met7 (os:Os) (args:Array Value):laidMetH Tryz.prog laid9 ((World.laidAll Tryz.prog os laid9).forCall (fun _ _=>0) ⟨#[],args,[]⟩).memory:=by
 rw [MakeChecks.laidMetH_plain _ _ _ (by kernel_rfl)];exact laidMet_laidAll _ (by kernel_rfl) (by kernel_rfl)
theorem errRow (u : TypeId) (h : Tryz.prog.typeName? 3 u = some "*errors.errorString") : u = 269 :=
 typeName_ptr_named (nm := "errors.errorString") (by rw [show "*" ++ "errors.errorString" = "*errors.errorString" by decide]; kernel_rfl) (by kernel_rfl) (by decide) u (by rw [show "*" ++ "errors.errorString" = "*errors.errorString" by decide]; exact h)
theorem libT_of {W:World} (h:laidMetH Tryz.prog laid9 W):LibT W:=by
 have hp:=pow10_of_laid h
 rw [MakeChecks.laidMetH_plain _ _ _ (by kernel_rfl)] at h
 have h2:=laidMet.tail (laidMet.tail h)
 refine ⟨hp,?_⟩
 have h4:=laidMet.tail h2
 obtain ⟨a,s,hv,-⟩:=laid_sentinel (g:=3) (ti:=176) (tp:=269) (te:=271) (ts:=9) (ms:=_) (f:=_) h4 (by kernel_rfl) (by kernel_rfl) Tryz.underlying176 errRow Tryz.underlying269 Tryz.underlying271 rfl rfl Tryz.underlying9 (by kernel_rfl) (by kernel_rfl)
 have hc := World.var?_cell (show Tryz.prog.globalNamed "strconv.ErrRange" = some 3 by kernel_rfl) hv 0
 exact ⟨_,_,by simpa using hc⟩
theorem pow_lt {W:World} (h:Pow10 W):4<W.heap.size:=by
 unfold Pow10 Lib.TabIs at h
 have hg : Tryz.prog.globalNamed "internal/strconv.uint64pow10" = some 4 := by kernel_rfl
 by_cases hlt:4<W.heap.size
 ·exact hlt
 ·simp [World.var?,hg,Array.getElem?_eq_none (show W.heap.size≤4 by omega)] at h
theorem flattenKM {k:Nat} {us:List (List Value)} (h:∀ u∈us,u.length=k) (hk:0<k) (j:Nat):us.flatten[j]?=(us[j / k]?).bind (·[j%k]?):=by
 have hj:j=j / k*k+j%k:=by rw [Nat.mul_comm];exact (Nat.div_add_mod j k).symm
 cases hu:us[j / k]? with
 | some u =>
  have:=flatten_get us (j / k) (j%k) u h hu (Nat.mod_lt _ hk)
  rw [← hj] at this
  rw [this];rfl
 | none =>
  have hl:us.length≤j / k:=List.getElem?_eq_none_iff.1 hu
  have hf:us.flatten.length=us.length*k:=by
   have:∀ l:List (List Value),(∀ u∈l,u.length=k)→l.flatten.length=l.length*k:=by
    intro l
    induction l with
    | nil=>intro _;simp
    | cons x l ih=>intro hx;rw [List.flatten_cons,List.length_append,hx x (by simp),ih (fun u hu=>hx u (by simp [hu])),List.length_cons,Nat.succ_mul];omega
   exact this us h
  rw [List.getElem?_eq_none]
  ·rfl
  ·rw [hf]
   have:us.length*k≤j / k*k:=Nat.mul_le_mul_right k hl
   omega
theorem spot_noneM {W:World} {a:Addr} {v:Value} (h:W.cell? a=some v):a.spot=none:=by
 unfold World.cell? at h
 split at h
 ·cases hs:a.spot with
  | none=>rfl
  | some s=>rw [hs] at h;simp at h
 ·cases h
theorem slice_inM {α:Type} (k:Nat) (hk:0<k) (R:World→List Value→α→Prop) {H:Type} {enc:TypeId×Value→H} {W:World} {base:Nat} {spare:Nat→Bool} {held:Bool} {t e:TypeId} {P:Program}
  (ht:P.underlying t=some (.slice e)) (hc:P.cellsOf e=k)
  (hel:∀ cs n x,cs.length=k→DataW.trod enc P W base spare held n e cs=some x→∃ a,R W cs a) {c:Value} {x:DataW H×List MemPlace} {fuel:Nat}
  (hf:DataW.trod enc P W base spare held fuel t [c]=some x):∃ xs,ListAt k R W c xs:=by
 rcases Go.Deep.open_slice ht hf with ⟨hcs,hx⟩ | ⟨a,len,cap,m,n,D,Pl,hcs,_,hl,hm,hmm,hx,hV⟩
 ·obtain rfl:c=.slice none 0 0:=by simpa using hcs
  exact ⟨[],[],rfl,by simp,⟨none,0,rfl,Nat.le_refl _,Nat.zero_le _,fun _=>rfl,fun h=>absurd rfl h⟩,by simp⟩
 ·obtain rfl:c=.slice (some a) len cap:=by simpa using hcs
  have hml:len≤m:=by rw [hmm];split <;> omega
  rw [hc] at hV
  have key:∀ i,i<len→∃ u:List Value,u.length=k∧(∀ j,j<k→W.cell? ((a.add (i*k)).add j)=u[j]?)∧∃ y,R W u y:=by
   intro i hi
   obtain ⟨cs',h1,h2⟩:=hV i (by omega)
   obtain ⟨-,h3,h4⟩:=World.cells?_some h1
   obtain ⟨y,hy⟩:=hel cs' n _ h3 h2
   exact ⟨cs',h3,h4,y,hy⟩
  have hU:∃ U:Nat→List Value,∀ i,i<len→(U i).length=k∧(∀ j,j<k→W.cell? ((a.add (i*k)).add j)=(U i)[j]?)∧∃ y,R W (U i) y:=by
   refine ⟨fun i=>if h:i<len then Classical.choose (key i h) else [],fun i h=>?_⟩
   simp only [h,↓reduceDIte]
   exact Classical.choose_spec (key i h)
  obtain ⟨U,hU⟩:=hU
  have hY:∃ ys:List α,ys.length=len∧∀ (i:Nat) y,ys[i]?=some y→R W (U i) y:=by
   rcases Nat.eq_zero_or_pos len with h0 | h0
   ·subst h0;exact ⟨[],rfl,by simp⟩
   ·obtain ⟨y0,-⟩:=(hU 0 h0).2.2
    have hex:∀ i,∃ y,i<len→R W (U i) y:=fun i=>by
     by_cases h:i<len
     ·obtain ⟨y,hy⟩:=(hU i h).2.2;exact ⟨y,fun _=>hy⟩
     ·exact ⟨y0,fun h2=>absurd h2 h⟩
    refine ⟨(List.range len).map fun i=>Classical.choose (hex i),by simp,fun i y hy=>?_⟩
    have hil:i<len:=by have:=(List.getElem?_eq_some_iff.1 hy).1;simpa using this
    rw [List.getElem?_map,List.getElem?_range hil] at hy
    obtain rfl:=Option.some.inj hy
    exact Classical.choose_spec (hex i) hil
  obtain ⟨ys,hyl,hyR⟩:=hY
  have hus:∀ u∈(List.range len).map U,u.length=k:=by
   intro u hu
   obtain ⟨i,hi,rfl⟩:=List.mem_map.1 hu
   exact (hU i (List.mem_range.1 hi)).1
  refine ⟨ys,(List.range len).map U,by simp [hyl],hus,⟨some a,cap,by rw [hyl],by omega,hm,(fun h=>by cases h),fun hne=>?_⟩,fun j u y hu hy=>?_⟩
  ·have hpos:0<len:=by
    rcases Nat.eq_zero_or_pos len with h0 | h0
    ·subst h0;simp at hne
    ·exact h0
   have h0:=(hU 0 hpos).2.1 0 hk
   have hl0:=(hU 0 hpos).1
   rw [List.getElem?_eq_getElem (by omega),Nat.zero_mul] at h0
   have hs:a.spot=none:=by
    have:=spot_noneM h0
    unfold Addr.add at this
    simpa using this
   refine ⟨a.block,a.off,by rw [← hs],?_,fun j u hu=>?_⟩
   ·have:=lt_of_cell h0
    unfold Addr.add at this
    simpa using this
   ·rw [flattenKM hus hk j] at hu
    cases hjk:((List.range len).map U)[j / k]? with
    | none=>rw [hjk] at hu;cases hu
    | some z =>
     rw [hjk] at hu
     have hlt:j / k<len:=by have:=(List.getElem?_eq_some_iff.1 hjk).1;simpa using this
     rw [List.getElem?_map,List.getElem?_range hlt] at hjk
     obtain rfl:=Option.some.inj hjk
     have hm2:=Nat.mod_lt j hk
     have hcl:=(hU (j / k) hlt).2.1 (j%k) hm2
     rw [show (U (j / k))[j%k]?=some u from hu,Go.Deep.add_add,show j / k*k+j%k=j by rw [Nat.mul_comm];exact Nat.div_add_mod j k] at hcl
     unfold Addr.add at hcl
     by_cases hj0:j=0
     ·subst hj0
      rw [if_pos rfl] at hcl
      have ha:a=⟨a.block,a.off+0,none⟩:=by cases a;simp only at hs;subst hs;rfl
      rw [ha] at hcl;exact hcl
     ·rw [if_neg hj0] at hcl;exact hcl
  ·have hjl:j<len:=by have:=(List.getElem?_eq_some_iff.1 hu).1;simpa using this
   rw [List.getElem?_map,List.getElem?_range hjl] at hu
   obtain rfl:=Option.some.inj hu
   exact hyR j y hy
theorem cellsMul10:Tryz.prog.cellsOf 31=3:=by kernel_rfl
theorem cellsInt10:Tryz.prog.cellsOf 3=1:=by kernel_rfl
theorem cellsBig10:Tryz.prog.cellsOf 29=1:=by kernel_rfl
theorem cellsStr10:Tryz.prog.cellsOf 53=1:=by kernel_rfl
set_option maxRecDepth 100000 in
theorem open_multi10 {H:Type} {enc:TypeId×Value→H} {W:World} {r:Reach} {b0 base:Nat} {spare:Nat→Bool} {held:Bool} {v:Value} {d:DataW H} {ps:List MemPlace}
  (hval:Value.okWide Tryz.prog W r b0 31 v) (hd:DataW.Trod enc Tryz.prog W base spare held 31 v d ps) :
  ∃ n k L,TxtV W v n k L:=by
 obtain ⟨cs,rfl,hs⟩:=okWide_struct Tryz.underlying31 hval
 obtain ⟨fuel,hf⟩:=hd
 rw [cellsMul10] at hs
 obtain ⟨a,b,c,rfl⟩:∃ a b c,cs=#[a,b,c]:=by
  match cs,hs with
  | ⟨[a,b,c]⟩,_=>exact ⟨a,b,c,rfl⟩
 obtain ⟨xs,n,-,-,hl,hlen,hall⟩:=DataW.trod_struct Tryz.underlying31 hf
 have h0:=hall 0 _ rfl
 have h1:=hall 1 _ rfl
 have h2:=hall 2 _ rfl
 have hx:xs.length=3:=hlen
 rw [List.getElem?_eq_getElem (by omega)] at h0 h1 h2
 have k0:DataW.trod enc Tryz.prog W base spare held n 3 [a]=some xs[0]:=by
  rw [← h0]
  show _=DataW.trod enc Tryz.prog W base spare held n 3 (([a,b,c].drop 0).take (Tryz.prog.cellsOf 3))
  rw [cellsInt10];rfl
 have k1:DataW.trod enc Tryz.prog W base spare held n 3 [b]=some xs[1]:=by
  rw [← h1]
  show _=DataW.trod enc Tryz.prog W base spare held n 3 (([a,b,c].drop 1).take (Tryz.prog.cellsOf 3))
  rw [cellsInt10];rfl
 have k2:DataW.trod enc Tryz.prog W base spare held n 29 [c]=some xs[2]:=by
  rw [← h2]
  show _=DataW.trod enc Tryz.prog W base spare held n 29 (([a,b,c].drop 2).take (Tryz.prog.cellsOf 29))
  rw [cellsBig10];rfl
 obtain ⟨L,hL⟩:=slice_inM 1 (by decide) (inCell txtR) Tryz.underlying29 cellsStr10 (fun cs n x hl hf=>by
  obtain ⟨s,h1,-,-⟩:=DataW.trod_string Tryz.underlying53 hf
  exact ⟨s,.string s,h1,rfl⟩) k2
 obtain ⟨i,hi,-⟩:=DataW.trod_int Tryz.underlying3 k0
 obtain ⟨j,hj,-⟩:=DataW.trod_int Tryz.underlying3 k1
 obtain rfl:a=.int .i64 i:=by simpa using hi
 obtain rfl:b=.int .i64 j:=by simpa using hj
 exact ⟨i,j,L,c,rfl,hL⟩
end Go.Proofs.YtjlkkofmojgipaaGreatDoor
