import Derived.Test.YtjlkkofmojgipaaGreatDoorPAO
import Derived.Test.YtjlkkofmojgipaaGreatDoorPAL
import Derived.Test.YtjlkkofmojgipaaGreatDoorPAK
import Derived.Deep.CutRange
import Derived.Deep.RegionHeld3
import Derived.Test.YtjlkkofmojgipaaGreatDoorPAN
import Derived.Test.YtjlkkofmojgipaaGreatDoorPAF
namespace Go.Proofs.YtjlkkofmojgipaaGreatDoor
set_option linter.unusedVariables false
set_option linter.unusedSimpArgs false
open Go.RowKit Go.Shelf
theorem Oper.wpIn_of_wp {P:Program} {l n:Nat} {o:Oper} {a:Act} {w:World} {K:Act→World→Prop} {Q:Exit→Act→World→Prop} (h1:∀ c,o.op≠.defer c) (h:o.wp P a w K Q):o.wpIn (Fence.wide.inRound l) n P a w K Q:=by
 unfold Oper.wp at h
 unfold Oper.wpIn
 refine ⟨fun _ _=>trivial,?_⟩
 rw [show (Fence.wide.inRound l).round=some l from rfl,Oper.semAt_eq _ _ _ h1]
 generalize (execOp a.eval o).run P w=r at *
 have hd:(Fence.wide.inRound l).depth.isSome=true→1≤n:=fun e=>by simp [Fence.wide] at e
 cases r with
 | ok x w' =>
  cases x with
  | enter f args=>exact ⟨hd,CallsIn.inRound l (callsIn_wide.2 h)⟩
  | row r args =>
   refine ⟨hd,fun c cs _=>?_⟩
   obtain ⟨v,w2,hr,hs⟩:=h c cs
   exact ⟨v,w2,hr,stepsIn_wide.2 hs⟩
  | _=>first | exact h | exact False.elim h
 | halt x w'=>cases x <;> first | exact h | exact False.elim h
def noDefer (ops:Array Oper):Bool:=ops.all fun o=>match o.op with | .defer _=>false | _=>true
theorem noDefer_spec {ops:Array Oper} (h:noDefer ops=true) {i:Nat} {o:Oper} (hi:ops[i]?=some o):∀ c,o.op≠.defer c:=by
 intro c hc
 have:=Array.all_eq_true_iff_forall_mem.1 h o (Array.mem_of_getElem? hi)
 rw [hc] at this
 cases this
theorem wpOpIn_of_wpOp {P:Program} {l n:Nat} {ops:Array Oper} {Q:Exit→Act→World→Prop} (hn:noDefer ops=true) (hq:¬ LetsOut Q) {i:Nat} {K:Act→World→Prop} {a:Act} {w:World} (h:wpOp P ops Q i K a w):wpOpIn (Fence.wide.inRound l) n P ops Q i K a w:=by
 unfold wpOp at h
 unfold wpOpIn
 cases hi:ops[i]? with
 | none=>simpa [hi] using h
 | some o =>
  simp only [hi] at h ⊢
  split
  ·rename_i hw
   simp only [hw,if_true] at h
   rcases h with h | ⟨-,h⟩
   ·exact Oper.wpIn_of_wp (noDefer_spec hn hi) h
   ·exact absurd h hq
  ·rename_i hw
   simp only [hw] at h
   exact ⟨fun _ _=>trivial,h⟩
theorem wpAnyIn_of_wpAny {P:Program} {l n:Nat} {md:Region.Mode} {ops:Array Oper} {Q:Exit→Act→World→Prop} (hn:noDefer ops=true) (hq:¬ LetsOut Q):∀ (f:Nat) (ls:Array Bool) (a:Act) (w:World),wpAny P md ops Q f ls a w→wpAnyIn (Fence.wide.inRound l) n P md ops Q f ls a w
 | 0,ls,a,w,h=>h
 | f+1,ls,a,w,h=>⟨h.1,fun i hi=>wpOpIn_of_wpOp hn hq (wpOp_mono (fun a w k=>wpAnyIn_of_wpAny hn hq f _ a w k) (h.2 i hi))⟩
theorem anyE_two {P:Program} {ops:Array Oper} {Q:Exit→Act→World→Prop} {md:Region.Mode} {S:World→Prop} {z:Nat} (i j:Nat) {o p:Oper} {f:Nat} {l:Array Bool} {a:Act} {w:World} (hr:Region.ready md ops l=[i,j]) (ho:ops[i]?=some o) (hp:ops[j]?=some p)
  (h1:∀ K:Act→World→Prop,Shut (∀ b u,S u→(S u→anyE P md ops Q S z f (l.setIfInBounds i true) b u)→K b u)→if Region.wanted o (yielded ops a.tmps)=true then Oper.wp P o a w K Q else K (a.put o.dst undef) w)
  (h2:∀ K:Act→World→Prop,Shut (∀ b u,S u→(S u→anyE P md ops Q S z f (l.setIfInBounds j true) b u)→K b u)→if Region.wanted p (yielded ops a.tmps)=true then Oper.wp P p a w K Q else K (a.put p.dst undef) w):anyE P md ops Q S z (f+1) l a w:=by
 refine ⟨(fun e=>by rw [hr] at e;cases e),fun q hq=>?_⟩
 rw [hr] at hq
 rcases List.mem_cons.1 hq with rfl | hq
 ·exact wpOp_step ho fun K hK=>h1 K fun b u hS hrest=>hK b u ⟨fun _=>hS,hrest hS⟩
 ·obtain rfl:q=j:=by simpa using hq
  exact wpOp_step hp fun K hK=>h2 K fun b u hS hrest=>hK b u ⟨fun _=>hS,hrest hS⟩
theorem regionIn_anyE {P:Program} {l n:Nat} {ops:Array Oper} {Q:Exit→Act→World→Prop} (S:World→Prop) (z:Nat) {id:Nat} {a:Act} {w:World} (hm:P.follows .mixedOrders=true) (hn:noDefer ops=true) (hq:¬ LetsOut Q) (hS:S w.drew)
  (h:S w.drew→anyE P .any ops Q S z ops.size (Array.replicate ops.size false) a w.drew):(Code.region id ops true).wpIn (Fence.wide.inRound l) n P Q a w :=
 wpIn_region_any hm (wpAnyIn_of_wpAny hn hq _ _ _ _ (anyE_any _ _ _ _ (h hS)))
theorem wpListIn_of_wp {P:Program} {l n:Nat} {ops:Array Oper} {rest:List Oper} {o:Oper} {a:Act} {w:World} {Q:Exit→Act→World→Prop} (hg:o.guard=none) (hd:∀ c,o.op≠.defer c)
  (h:∀ K:Act→World→Prop,(∀ a w,wpListIn (Fence.wide.inRound l) n P ops Q rest a w→K a w)→o.wp P a w K Q):wpListIn (Fence.wide.inRound l) n P ops Q (o::rest) a w :=
 wpListIn_plain hg fun K hK=>Oper.wpIn_of_wp hd (h K hK)
end Go.Proofs.YtjlkkofmojgipaaGreatDoor
namespace Go.Proofs.YtjlkkofmojgipaaGreatDoor
set_option linter.unusedVariables false
set_option linter.unusedSimpArgs false
open Go.RowKit
theorem infoRowT:(Tryz.prog.info? 27).map (fun i=>(i.zero,i.size,i.bytes))=some (some (.slice none 0 0),1,24):=by kernel_rfl
theorem RowI.ofOwn {w:World} {B g n c:Nat} {xs:List Int} (h:w.ownsRow B 3 1 (.slice (some ⟨g,0,none⟩) n c) n (xs.map (Value.int .i64 ·))):RowI w g xs:=by
 have hl:=h.lt g (by simp [Value.ownBlock])
 have hc:=h.cells (g:=g) (by simp [Value.ownBlock])
 refine ⟨hl.2,fun j x hx=>?_,fun j=>h.frozenAt j⟩
 have:=hc j (.int .i64 x) (by rw [List.getElem?_map,hx];rfl)
 rw [show (⟨g,0,none⟩:Addr).add j=⟨g,j,none⟩ by unfold Addr.add;split <;> simp_all] at this
 exact this
theorem RowI.set {w:World} {g:Nat} {xs:List Int} (h:RowI w g xs) (k:Nat) (hk:k<xs.length) (y:Int):RowI (w.setCell ⟨g,k,none⟩ (.int .i64 y)) g (xs.set k y):=by
 refine ⟨by rw [setCell_sizeQ];exact h.lt,fun j x hj=>?_,fun j=>by rw [frozen_set];exact h.free j⟩
 rw [List.getElem?_set] at hj
 by_cases e:k=j
 ·subst e
  rw [if_pos rfl,if_pos hk] at hj
  cases hj
  exact World.cell?_setCell_same w _ _ (h.cell k _ (List.getElem?_eq_getElem hk))
 ·rw [if_neg e] at hj
  rw [World.cell?_setCell_other _ _ _ _ (by intro e2;simp only [Addr.mk.injEq] at e2;omega)]
  exact h.cell j x hj
theorem RowI.ext {w w':World} {g:Nat} {xs:List Int} (h:RowI w g xs) (he:Ext w w'):RowI w' g xs:=h.same he.size (he.block g h.lt)
theorem list_eq_of_get {α:Type} {xs ys:List α} (hl:xs.length=ys.length) (h:∀ i,i<xs.length→xs[i]?=ys[i]?):xs=ys:=by
 apply List.ext_getElem?
 intro i
 by_cases hi:i<xs.length
 ·exact h i hi
 ·rw [List.getElem?_eq_none (by omega),List.getElem?_eq_none (by omega)]
set_option maxRecDepth 100000 in
set_option maxHeartbeats 1000000 in
theorem refEqRows_any (xs ys:List Int) (u v:Value) (w:World) (h:Ints w u xs) (k:Ints w v ys) :
  Calls Tryz.prog 34 #[u,v] w fun e w'=>e=.returned (.bool (xs == ys))∧Ext w w':=by
 obtain ⟨a,c,rfl,hx1,hx2,-,-,hx⟩:=h.open
 obtain ⟨a',c',rfl,hy1,hy2,-,-,hy⟩:=k.open
 clear h k
 unfold maxLen at hx2 hy2
 by_cases hl:xs.length=ys.length
 ·have HX:=Lib.hid hx;have HY:=Lib.hid hy;have HL:=Lib.hid hl
  have hb:((xs.length:Int) != (ys.length:Int))=false:=by rw [hl];simp
  clear hx hy
  go_enter Tryz.func34,Tryz.ntmps34
  go_wp2
  go_loopw [5] (fun t wr=>∃ j:Nat,j≤xs.length∧t=.int .i64 j∧Hid (∀ i,i<j→xs[i]?=ys[i]?)∧Ext w wr) (fun t _=>xs.length-(intOf t).toNat)
  case atStart=>exact ⟨0,by omega,rfl,fun i hi=>by omega,Ext.refl _⟩
  case round =>
   obtain ⟨j,hj,rfl,HP,hE⟩:=hrel
   by_cases hlt:j<xs.length
   ·obtain ⟨b,off,rfl,hb1,hc1⟩:=HX.out (by intro e;rw [e] at hlt;simp at hlt)
    obtain ⟨b',off',rfl,hb2,hc2⟩:=HY.out (by intro e;have h0:=HL.out;rw [e] at h0;simp only [List.length_nil] at h0;omega)
    obtain ⟨x,hx⟩:∃ x,xs[j]?=some x:=⟨xs[j],List.getElem?_eq_getElem hlt⟩
    obtain ⟨y,hy⟩:∃ y,ys[j]?=some y:=⟨ys[j]'(by omega),List.getElem?_eq_getElem _⟩
    have g1:=hE.cell (hc1 j x hx)
    have g2:=hE.cell (hc2 j y hy)
    have hjy:j<ys.length:=by omega
    clear hc1 hc2
    by_cases hxy:x=y
    ·have hb3:(x != y)=false:=by rw [hxy];simp
     have HP2:Hid (∀ i,i<j+1→xs[i]?=ys[i]?):=fun i hi=>by
      by_cases e:i=j
      ·rw [e,hx,hy,hxy]
      ·exact HP.out i (by omega)
     clear hx hy hxy
     go_wp2
     go_quiet (fail)
     go_wp2
     go_roundw
     case rel=>exact ⟨j+1,by omega,by go_num,HP2.out,Ext.draws hE _⟩
     case measure=>simp [intOf];omega
    ·have hb3:(x != y)=true:=by simpa using hxy
     have HQ:Hid ((xs == ys)=false):=by
      unfold Hid
      rw [beq_eq_false_iff_ne]
      intro e
      rw [e,hy] at hx
      exact hxy (Option.some.inj hx).symm
     clear hx hy hxy
     go_wp2
     go_quiet (fail)
     go_wp2
     go_ret
     exact ⟨by rw [HQ.out];rfl,Ext.draws hE _⟩
   ·have HQ:Hid ((xs == ys)=true):=by
     unfold Hid
     rw [beq_iff_eq]
     exact list_eq_of_get HL.out fun i hi=>HP.out i (by omega)
    go_wp2
    go_ret
    exact ⟨by rw [HQ.out];rfl,hE⟩
 ·have hb:((xs.length:Int) != (ys.length:Int))=true:=by simp;omega
  have HQ:Hid ((xs == ys)=false):=by
   unfold Hid
   rw [beq_eq_false_iff_ne]
   intro e;exact hl (by rw [e])
  clear hx hy hl
  go_enter Tryz.func34,Tryz.ntmps34
  go_wp2
  go_ret
  exact ⟨by rw [HQ.out];rfl,Ext.refl _⟩
set_option maxRecDepth 100000 in
set_option maxHeartbeats 1000000 in
theorem refEqual6_any (xs ys:List (List Int)) (u v:Value) (w:World) (h:Rows2 w u xs) (k:Rows2 w v ys) :
  Calls Tryz.prog 52 #[u,v] w fun e w'=>e=.returned (.bool (xs == ys))∧Ext w w':=by
 obtain ⟨a,c,rfl,hx1,hx2,-,hx⟩:=inCell.open h
 obtain ⟨a',c',rfl,hy1,hy2,-,hy⟩:=inCell.open k
 clear h k
 unfold maxLen at hx2 hy2
 by_cases hl:xs.length=ys.length
 ·have HX:=Lib.hid hx;have HY:=Lib.hid hy;have HL:=Lib.hid hl
  have hb:((xs.length:Int) != (ys.length:Int))=false:=by rw [hl];simp
  clear hx hy hl
  go_enter Tryz.func52,Tryz.ntmps52
  go_wp2
  go_loopw [5] (fun t wr=>∃ j:Nat,j≤xs.length∧t=.int .i64 j∧Hid (∀ i,i<j→xs[i]?=ys[i]?)∧Ext w wr) (fun t _=>xs.length-(intOf t).toNat)
  case atStart=>exact ⟨0,by omega,rfl,fun i hi=>by omega,Ext.refl _⟩
  case round =>
   obtain ⟨j,hj,rfl,HP,hE⟩:=hrel
   obtain ⟨wj,rfl⟩:∃ wj:World,wj=wr:=⟨_,rfl⟩
   by_cases hlt:j<xs.length
   ·obtain ⟨b,off,rfl,hb1,hc1⟩:=HX.out (by intro e;rw [e] at hlt;simp at hlt)
    obtain ⟨b',off',rfl,hb2,hc2⟩:=HY.out (by intro e;have h0:=HL.out;rw [e] at h0;simp only [List.length_nil] at h0;omega)
    obtain ⟨x,hx⟩:∃ x,xs[j]?=some x:=⟨xs[j],List.getElem?_eq_getElem hlt⟩
    obtain ⟨y,hy⟩:∃ y,ys[j]?=some y:=⟨ys[j]'(by have:=HL.out;omega),List.getElem?_eq_getElem _⟩
    obtain ⟨p,hp,k1⟩:=hc1 j x hx
    obtain ⟨q,hq,k2⟩:=hc2 j y hy
    have g1:=hE.cell k1
    have g2:=hE.cell k2
    have HC:Hid (∀ W,Ext wj W→Calls Tryz.prog 34 #[p,q] W fun e w'=>e=.returned (.bool (x == y))∧Ext W w'):=fun W hW=>refEqRows_any x y p q W (hp.ext (hE.trans hW)) (hq.ext (hE.trans hW))
    have hjy:j<ys.length:=by have:=HL.out;omega
    have HXY:Hid ((x == y)=true→∀ i,i<j+1→xs[i]?=ys[i]?):=fun hxy i hi=>by
     by_cases e:i=j
     ·rw [e,hx,hy,beq_iff_eq.1 hxy]
     ·exact HP.out i (by omega)
    have HNE:Hid ((x == y)=false→(xs == ys)=false):=fun hxy=>by
     rw [beq_eq_false_iff_ne] at hxy ⊢
     intro e
     rw [e,hy] at hx
     exact hxy (Option.some.inj hx).symm
    obtain ⟨bb,hbb⟩:∃ b,b=(x == y):=⟨_,rfl⟩
    rw [← hbb] at HC HXY HNE
    clear hc1 hc2 hx hy hp hq k1 k2 hbb
    have HE0:Hid (Ext wj wj.drew):=Ext.drew wj
    go_upto_region 6 with fail
    go_cut [26] from 17 to 25 (fun s wx=>s=.bool (!bb)∧Hid (Ext wj wx))
    case first =>
     go_region_held3 (fun w'=>w'.cell? ⟨b,off+j,none⟩=some p∧w'.cell? ⟨b',off'+j,none⟩=some q∧Hid (Ext wj w'))
      (first | exact ⟨z1,z2,z3⟩ | exact ⟨g1,g2,HE0⟩ | go_keep)
      (first | (go_at_call 34;refine (HC.out _ (Hid.out (p:=Ext wj _) (by assumption))).mono ?_;rintro e w5 ⟨rfl,hE5⟩;have z1:=hE5.cell (a:=⟨b,off+j,none⟩) (v:=p) (by assumption);have z2:=hE5.cell (a:=⟨b',off'+j,none⟩) (v:=q) (by assumption);have z3:Hid (Ext wj w5):=Ext.trans (Hid.out (p:=Ext wj _) (by assumption)) hE5))
     all_goals (go_wp2_with fail;go_meet;exact ⟨rfl,by assumption⟩)
    case rest =>
     obtain ⟨rfl,HX5⟩:=hcut
     cases bb
     ·have HQ:=HNE.out rfl
      have HQ2:=Lib.hid HQ
      clear HQ HNE HXY HC
      go_wp2
      go_ret
      exact ⟨by rw [HQ2.out];rfl,hE.trans HX5.out⟩
     ·have HP2:=Lib.hid (HXY.out rfl)
      clear HNE HXY HC
      go_wp2
      go_roundw
      case rel=>exact ⟨j+1,by omega,by go_num,HP2.out,hE.trans HX5.out⟩
      case measure=>simp [intOf];omega
   ·have HQ:Hid ((xs == ys)=true):=by
     unfold Hid
     rw [beq_iff_eq]
     exact list_eq_of_get HL.out fun i hi=>HP.out i (by omega)
    go_wp2
    go_ret
    exact ⟨by rw [HQ.out];rfl,hE⟩
 ·have hb:((xs.length:Int) != (ys.length:Int))=true:=by simp;omega
  have HQ:Hid ((xs == ys)=false):=by
   unfold Hid
   rw [beq_eq_false_iff_ne]
   intro e;exact hl (by rw [e])
  clear hx hy hl
  go_enter Tryz.func52,Tryz.ntmps52
  go_wp2
  go_ret
  exact ⟨by rw [HQ.out];rfl,Ext.refl _⟩
theorem RowI.ints {w:World} {g c:Nat} {xs:List Int} (h:RowI w g xs) (h1:xs.length≤c) (h2:c≤9223372036854775807) (hb:∀ x∈xs,-9223372036854775808≤x∧x≤9223372036854775807):Ints w (.slice (some ⟨g,0,none⟩) xs.length c) xs:=by
 refine ⟨xs.map fun x=>[Value.int .i64 x],by simp,by simp,?_,?_⟩
 ·rw [flatten_one]
  refine ⟨_,c,rfl,h1,by unfold maxLen;omega,fun e=>by simp at e,fun _=>⟨g,0,rfl,h.lt,fun j u hu=>?_⟩⟩
  rw [List.getElem?_map] at hu
  obtain ⟨x,hx,rfl⟩:=Option.map_eq_some_iff.1 hu
  rw [Nat.zero_add]
  exact h.cell j x hx
 ·intro j u x hu hx
  simp only [List.getElem?_map,hx,Option.map_some,Option.some.injEq] at hu
  exact ⟨hu.symm,hb x (List.mem_of_getElem? hx)⟩
theorem RowsO.rows2 {e:TypeId} {w:World} {ob base:Nat} {v:Value} {tags:List (Nat×Nat)} {m:List (List Int)} (h:RowsO intK e w ob base v tags m) (hb:∀ r∈m,∀ x∈r,-9223372036854775808≤x∧x≤9223372036854775807):Rows2 w v m:=by
 have hl:=tagQs_len (m:=m) h.len
 refine ⟨(tagQs tags m).map fun u=>[u],by simp [hl],by simp,?_,?_⟩
 ·have:=SeqAt.of_owns h.own
  rw [flatten_one (fun u:Value=>u),List.map_id']
  exact this
 ·intro j u x hu hx
  have hj:j<tags.length:=by rw [h.len];exact (List.getElem?_eq_some_iff.1 hx).1
  have ht:tags[j]?=some tags[j]:=List.getElem?_eq_getElem hj
  obtain ⟨h1,h2,h3,-,-⟩:=h.row j _ x ht hx
  rw [List.getElem?_map] at hu
  unfold tagQs at hu
  rw [List.getElem?_zipWith,ht,hx] at hu
  simp only [Option.map_some,Option.some.injEq] at hu
  exact ⟨_,hu.symm,RowI.ints h3 h1 h2 (hb x (List.mem_of_getElem? hx))⟩
end Go.Proofs.YtjlkkofmojgipaaGreatDoor
namespace Go.Proofs.YtjlkkofmojgipaaGreatDoor
set_option linter.unusedVariables false
set_option linter.unusedSimpArgs false
def partI (m:List (List Int)) (R C:List Nat):List (List Int):=R.map fun i=>C.map fun j=>(m.getD i []).getD j 0
theorem partI_len (m:List (List Int)) (R C:List Nat):(partI m R C).length=R.length:=by simp [partI]
theorem partI_rect (m:List (List Int)) (R C:List Nat):Rect C.length (matQ (partI m R C)):=by
 intro r hr
 unfold matQ partI at hr
 obtain ⟨q,hq,rfl⟩:=List.mem_map.1 hr
 obtain ⟨i,-,rfl⟩:=List.mem_map.1 hq
 simp [rowQI]
end Go.Proofs.YtjlkkofmojgipaaGreatDoor
