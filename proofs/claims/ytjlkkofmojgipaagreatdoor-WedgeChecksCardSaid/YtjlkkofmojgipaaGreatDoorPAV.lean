import Derived.Test.YtjlkkofmojgipaaGreatDoorPAU
import Derived.Test.YtjlkkofmojgipaaGreatDoorPAF
import Derived.Maps.OwnOps
import Derived.Maps.Views
import Derived.WalkKit
import Derived.Test.YtjlkkofmojgipaaGreatDoorPAL
import Derived.Test.YtjlkkofmojgipaaGreatDoorPAA
import Derived.Laws.BitsAllLaws
import Derived.Maps.OwnSet
import Derived.Laws.CopyRow
import Derived.Laws.CopyOwn
import Derived.Test.YtjlkkofmojgipaaGreatDoorPAE
namespace Go.Proofs.YtjlkkofmojgipaaGreatDoor
set_option linter.unusedVariables false
set_option linter.unusedSimpArgs false
open Go.RowKit
def popA (x:Int):Int:=IntKind.u64.wrap (bits BinOp.and IntKind.u64 (x / 2) 6148914691236517205+bits BinOp.and IntKind.u64 x 6148914691236517205)
def popB (a:Int):Int:=IntKind.u64.wrap (bits BinOp.and IntKind.u64 (a / 4) 3689348814741910323+bits BinOp.and IntKind.u64 a 3689348814741910323)
def popC (b:Int):Int:=bits BinOp.and IntKind.u64 (IntKind.u64.wrap (b / 16+b)) 1085102592571150095
def popD (k c:Int):Int:=IntKind.u64.wrap (c+c / k)
def popE (x:Int):Int:=bits BinOp.and IntKind.i64 (wrap64 (popD 4294967296 (popD 65536 (popD 256 (popC (popB (popA x))))))) 127
theorem popE_ok:∀ s:Nat,s<4096→popE (s:Int)=((membL s).length:Int):=by
 have h:∀ a:Nat,a<64→∀ b:Nat,b<64→popE ((64*a+b:Nat):Int)=((membL (64*a+b)).length:Int):=by decide +kernel
 intro s hs
 have:=h (s / 64) (by omega) (s%64) (by omega)
 rwa [Nat.div_add_mod] at this
set_option maxRecDepth 100000 in
set_option maxHeartbeats 1000000 in
theorem ones64_any (x:Nat) (hx:x<4096) (w:World) :
  Calls Tryz.prog 177 #[.int .u64 x] w fun e w'=>e=.returned (.int .i64 ((membL x).length:Int))∧w'=w:=by
 have h1:IntKind.u64.wrap (x:Int)=(x:Int):=by rw [IntKind.wrap_u64];omega
 go_enter Tryz.func177,Tryz.ntmps177
 go_wp2_with fail
 go_ret
 refine ⟨?_,rfl⟩
 show Ending.returned (.int .i64 (popE (x:Int)))=_
 rw [popE_ok x hx]
set_option maxRecDepth 100000 in
set_option maxHeartbeats 1000000 in
theorem ones_any (x:Nat) (hx:x<4096) (w:World) :
  Calls Tryz.prog 125 #[.int .u64 x] w fun e w'=>e=.returned (.int .i64 ((membL x).length:Int))∧w'=w:=by
 have HC:=Lib.hid (ones64_any x hx w)
 have h1:IntKind.u64.wrap (x:Int)=(x:Int):=by rw [IntKind.wrap_u64];omega
 go_enter Tryz.func125,Tryz.ntmps125
 go_wp2_with fail
 refine HC.out.mono ?_
 rintro e w2 ⟨rfl,hw2⟩
 obtain rfl:=hw2.symm
 clear HC
 go_wp2_with fail
 go_ret
 exact ⟨rfl,rfl⟩
theorem below_and (t i:Nat):(membL (t &&& (2^i-1))).length=belowN t i:=by
 unfold belowN membL
 rw [List.filter_filter]
 congr 1
 refine List.filter_congr fun j _=>?_
 rw [Nat.testBit_and,Nat.testBit_two_pow_sub_one,Bool.and_comm]
theorem belowN_le (t i:Nat):belowN t i≤12:=Nat.le_trans (List.length_filter_le _ _) (membL_len t)
theorem sum_below (t:Nat):∀ l:List Nat,(l.map (belowN t)).sum≤12*l.length
 | []=>by simp
 | x::l=>by
  have:=belowN_le t x;have:=sum_below t l
  simp only [List.map_cons,List.sum_cons,List.length_cons];omega
theorem lowB_lt {x:Nat} (hx:x<4096) (h0:x≠0):lowB x<12:=by
 have:=membL_step x hx h0
 exact membL_all (s:=x) (lowB x) (by rw [this];exact List.mem_cons_self)
theorem low_and {x:Nat} (hx:x<4096) (h0:x≠0):x &&& (18446744073709551616-x)=2^lowB x:=by
 obtain ⟨hlow,hk⟩:=Lib.lowest_bit 64 x h0 (by omega)
 rw [ctz_low x hx h0] at hlow
 exact hlow
set_option maxRecDepth 100000 in
set_option maxHeartbeats 1000000 in
theorem odd_any (s t:Nat) (hs:s<4096) (ht:t<4096) (w:World) :
  Calls Tryz.prog 65 #[.int .u64 s,.int .u64 t] w fun e w'=>e=.returned (.bool (oddW s t))∧w'=w:=by
 have HS:=Lib.hid hs;have HT:=Lib.hid ht
 go_enter Tryz.func65,Tryz.ntmps65
 go_wp2_with fail
 go_loopw [5,6] (fun c v wr=>∃ (x n:Nat) (l:List Nat),v=.int .u64 x∧c=.int .i64 n∧Hid (x<4096∧l++membL x=membL s∧n=(l.map (belowN t)).sum)∧wr=w) (fun _ v _=>(intOf v).toNat)
 case atStart=>exact ⟨s,0,[],rfl,rfl,⟨HS.out,rfl,rfl⟩,rfl⟩
 case round =>
  obtain ⟨x,n,l,rfl,rfl,HX,hwr⟩:=hrel
  subst hwr
  have hn:n≤144:=by
   obtain ⟨-,h2,h3⟩:=HX.out
   have h4:=sum_below t l
   have h5:=congrArg List.length h2
   rw [List.length_append] at h5
   have:=membL_len s
   omega
  by_cases h0:x=0
  ·subst h0
   have HF:Hid (oddW s t=decide (n%2=1)):=by
    obtain ⟨-,h2,h3⟩:=HX.out
    rw [membL_zero,List.append_nil] at h2
    unfold Hid oddW
    rw [h3,h2]
   go_wp2_with fail
   go_ret
   refine ⟨?_,rfl⟩
   rw [HF.out]
   have hb:((n:Int)%2 == 1)=decide (n%2=1):=by
    by_cases h:n%2=1
    ·rw [decide_eq_true h];exact beq_iff_eq.2 (by omega)
    ·rw [decide_eq_false h];exact beq_eq_false_iff_ne.2 (by omega)
   rw [← hb];rfl
  ·have hx:=HX.out.1
   have hm:=membL_step x hx h0
   have hlt:=and_pred_lt x hx h0
   have hx0:((x:Int) == 0)=false:=beq_eq_false_iff_ne.2 (by omega)
   have hi:=lowB_lt hx h0
   have hp:2^lowB x≤2048:=by
    have:2^lowB x≤2^11:=Nat.pow_le_pow_right (by decide) (by omega)
    simpa using this
   have hp1:1≤2^lowB x:=Nat.one_le_two_pow
   have e1:IntKind.u64.wrap ((x:Int)-1)=((x-1:Nat):Int):=by rw [IntKind.wrap_u64];omega
   have e2:=bits_and_u64_nat x (x-1) (by omega) (by omega)
   have e3:IntKind.u64.wrap (-(x:Int))=((18446744073709551616-x:Nat):Int):=by rw [IntKind.wrap_u64];omega
   have e4:=bits_and_u64_nat x (18446744073709551616-x) (by omega) (by omega)
   rw [low_and hx h0] at e4
   obtain ⟨i,hi2⟩:∃ i,lowB x=i:=⟨_,rfl⟩
   rw [hi2] at e4 hp hp1 hm hi
   have HQ:Hid ((membL (t &&& (2^i-1))).length=belowN t i):=below_and t i
   obtain ⟨p,hp2⟩:∃ p,2^i=p:=⟨_,rfl⟩
   rw [hp2] at e4 hp hp1 HQ
   have e5:IntKind.u64.wrap ((p:Int)-1)=((p-1:Nat):Int):=by rw [IntKind.wrap_u64];omega
   have e6:=bits_and_u64_nat t (p-1) (by omega) (by omega)
   have hq:t &&& (p-1)<4096:=Nat.lt_of_le_of_lt Nat.and_le_left HT.out
   obtain ⟨q,hq2⟩:∃ q,t &&& (p-1)=q:=⟨_,rfl⟩
   rw [hq2] at e6 HQ hq
   have HC:=Lib.hid (ones_any q hq wr)
   rw [HQ.out] at HC
   have hb:=belowN_le t i
   have HM:Hid ((l++[i])++membL (x &&& (x-1))=membL s∧n+belowN t i=((l++[i]).map (belowN t)).sum):=by
    obtain ⟨-,h2,h3⟩:=HX.out
    refine ⟨by rw [← h2,hm,List.append_assoc];rfl,by simp [h3]⟩
   obtain ⟨bb,hbb⟩:∃ bb,belowN t i=bb:=⟨_,rfl⟩
   rw [hbb] at HC HM hb
   obtain ⟨y,hy⟩:∃ y,x &&& (x-1)=y:=⟨_,rfl⟩
   rw [hy] at e2 HM hlt
   have HLT:=Lib.hid hlt
   have e7:wrap64 ((n:Int)+(bb:Int))=((n+bb:Nat):Int):=by rw [wrap64];omega
   clear hm hlt hy HQ hq2 hp2 hi2 hbb hq
   go_wp2_with fail
   refine HC.out.mono ?_
   rintro e w2 ⟨rfl,hw2⟩
   obtain rfl:=hw2.symm
   clear HC
   go_wp2_with fail
   go_roundw
   case rel=>exact ⟨y,n+bb,l++[i],rfl,by go_num,⟨Nat.lt_trans HLT.out HX.out.1,HM.out.1,HM.out.2⟩,trivial⟩
   case measure=>have:=HLT.out;simp [intOf];omega
end Go.Proofs.YtjlkkofmojgipaaGreatDoor
namespace Go.Proofs.YtjlkkofmojgipaaGreatDoor
set_option linter.unusedVariables false
set_option linter.unusedSimpArgs false
open Go.RowKit Go.Maps
theorem place_all:∀ n,n<7→∀ k,k<n+1→(List.range (allW n k).length).all (fun i=>decide (placeW n k ((allW n k).getD i 0)=i))=true:=by decide +kernel
theorem place_at {n k i s:Nat} (hn:n<7) (hk:k≤n) (h:(allW n k)[i]?=some s):placeW n k s=i:=by
 have h1:=List.all_eq_true.1 (place_all n hn k (by omega)) i (List.mem_range.2 (List.getElem?_eq_some_iff.1 h).1)
 rw [List.getD_eq_getElem?_getD,h] at h1
 exact of_decide_eq_true h1
theorem lawU:Keyed Tryz.prog 100:=int_keyed Tryz.underlying100
theorem zeroI (w:World):(zeroValue 3).run Tryz.prog w=.ok (.int .i64 0) w:=by kernel_rfl
theorem wf_u64 {s:Nat} (h:s<4096):(Lit.int .u64 (s:Int)).wf=true:=by
 have h1:IntKind.u64.min=0:=by decide
 have h2:IntKind.u64.max=18446744073709551615:=by decide
 show (decide (IntKind.u64.min≤(s:Int)) && decide ((s:Int)≤IntKind.u64.max))=true
 rw [h1,h2,Bool.and_eq_true,decide_eq_true_eq,decide_eq_true_eq];omega
theorem keyU {s:Nat} (h:s<4096):keyOf Tryz.prog 100 (.int .u64 (s:Int))=some (.int .u64 (s:Int)):=keyOf_int_mk Tryz.underlying100 (wf_u64 h)
def PlacesIn (w:World) (b N n k:Nat) (L:List Nat):Prop:=∃ D:DataW Unit,w.ownsMap Tryz.prog 100 (plainElem Tryz.prog 3) b N D∧IsMap D∧∀ s∈L,D.atKey (.int .u64 (s:Int)) (.lit (.int .i64 0))=.lit (.int .i64 (placeW n k s:Int))
def PlacesM (w:World) (v:Value) (n k:Nat):Prop:=∃ b N,v=.map (some b)∧PlacesIn w b N n k (allW n k)
theorem PlacesIn.kept {w w':World} {b N n k:Nat} {L:List Nat} {o:Option Nat} (h:PlacesIn w b N n k L) (hg:w.grownBy w' o) (hne:some b≠o):PlacesIn w' b N n k L:=by
 obtain ⟨D,h1,h2,h3⟩:=h
 exact ⟨D,h1.kept hg hne,h2,h3⟩
theorem PlacesIn.ext {w w':World} {b N n k:Nat} {L:List Nat} (h:PlacesIn w b N n k L) (he:Ext w w'):PlacesIn w' b N n k L:=h.kept (he.grown none) (by simp)
theorem PlacesM.ext {w w':World} {v:Value} {n k:Nat} (h:PlacesM w v n k) (he:Ext w w'):PlacesM w' v n k:=by
 obtain ⟨b,N,hv,h1⟩:=h
 exact ⟨b,N,hv,h1.ext he⟩
theorem isMap_put {D:DataW Unit} (h:IsMap D) (k:Lit) (d:DataW Unit):IsMap (D.put k d):=by
 obtain ⟨es,rfl⟩:=h
 exact ⟨_,rfl⟩
theorem PlacesIn.made (w:World) (n k:Nat):PlacesIn (w.alloc (.map #[] 0)) w.heap.size 0 n k []:=⟨.map [],World.ownsMap_made _ _ _ _,⟨_,rfl⟩,fun s hs=>by cases hs⟩
set_option maxRecDepth 100000 in
set_option maxHeartbeats 1000000 in
theorem places_any (n k:Nat) (hn:n<7) (hk:k≤n) (w:World):Calls Tryz.prog 59 #[.int .i64 n,.int .i64 k] w fun e w'=>∃ v,e=.returned v∧Ext w w'∧PlacesM w' v n k:=by
 have hmm:=@run_makeMap Tryz.prog
 obtain ⟨w1,hw1⟩:∃ w1,w1=w.alloc (.map #[] 0):=⟨_,rfl⟩
 have HM:=Lib.hid (PlacesIn.made w n k)
 rw [← hw1] at HM
 have HE1:Hid (Ext w w1):=by rw [hw1];exact Ext.alloc _ _
 have hsz:w1.heap.size=w.heap.size+1:=by rw [hw1];exact World.size_alloc w _
 have HSZ:=Lib.hid hsz
 have HC:=Lib.hid (all_any n k (by omega) hk w1)
 have HLT:=Lib.hid (allW_lt (n:=n) (k:=k) (by omega) hk)
 have HLN:=Lib.hid (allW_len (n:=n) (k:=k) (by omega) hk)
 have HPL:Hid (∀ i s,(allW n k)[i]?=some s→placeW n k s=i):=fun i s h=>place_at hn hk h
 clear hsz
 obtain ⟨L,hL⟩:∃ L,allW n k=L:=⟨_,rfl⟩
 rw [hL] at HC HLT HLN HPL
 have HLL:=Lib.hid hL
 clear hL
 go_enter Tryz.func59,Tryz.ntmps59
 go_wp2_with fail
 generalize hw9:w.alloc _=w9
 obtain rfl:w9=w1:=by rw [← hw9,hw1]
 refine HC.out.mono ?_
 rintro e w2 ⟨v,rfl,h2,hU⟩
 obtain ⟨a,cap,rfl,hc1,hc2,hcx⟩:=hU.open
 unfold maxLen at hc2
 have HE2:Hid (Ext w w2):=HE1.out.trans h2
 have HM2:=Lib.hid (HM.out.ext h2)
 have HS2:Hid (w.heap.size<w2.heap.size):=by have:=h2.size;have:=HSZ.out;unfold Hid;omega
 have HCX:=Lib.hid hcx
 clear h2 hU hcx HC HM hw1 hw9
 obtain ⟨N,hN⟩:∃ N,L.length=N:=⟨_,rfl⟩
 have HNN:=Lib.hid hN
 rw [hN] at hc1 ⊢
 clear hN
 go_wp2_with fail
 go_loopw [13] (fun t wr=>∃ i:Nat,i≤N∧t=.int .i64 (i:Int)∧Hid (Ext w wr)∧Hid (w2.grownBy wr (some w.heap.size))∧Hid (PlacesIn wr w.heap.size i n k (L.take i))) (fun t _=>N+1-(intOf t).toNat)
 case atStart=>exact ⟨0,by omega,by simp,HE2.out,World.grownBy.refl _ _,HM2.out⟩
 case round =>
  obtain ⟨i,hi,rfl,HX,HG,HP⟩:=hrel
  by_cases hlt:i<N
  ·obtain ⟨s,hs⟩:∃ s,L[i]?=some s:=by
    rw [← HNN.out] at hlt
    exact ⟨_,List.getElem?_eq_getElem hlt⟩
   obtain ⟨b,off,rfl,hb,hcell⟩:=HCX.out (by intro e;rw [e] at hs;simp at hs)
   have hc:=hcell i s hs
   have hslt:s<4096:=HLT.out s (List.mem_of_getElem? hs)
   have hne:b≠w.heap.size:=by
    rintro rfl
    obtain ⟨D,⟨es,clock,hbk,-⟩,-⟩:=HM2.out
    rw [World.cell?,hbk] at hc
    simp at hc
   have hcx:wr.cell? ⟨b,off+i,none⟩=some (.int .u64 (s:Int)):=by
    rw [← hc];unfold World.cell?;rw [HG.out.block b hb (by intro e;cases e;exact hne rfl)]
   have HPI:Hid (placeW n k s=i):=HPL.out i s hs
   obtain ⟨D,hown,hmap,hat⟩:=HP.out
   have HAT:=Lib.hid hat;have HMP:=Lib.hid hmap
   have HS:=Lib.hid hs;have HSL:=Lib.hid hslt
   clear hs hcell hc hne hat hmap HP hslt hb
   go_wp2_with (first
    | (at_mapUpdate;refine wpList_mapUpdate_own _ rfl _ _ _ 96 rfl 100 3 lawU Tryz.underlying96 _ w.heap.size i _ rfl hown (by unfold maxLen;omega) _ _ _ rfl rfl (keyU HSL.out) _ [] (plainElem_int Tryz.underlying3 (WalkArith.wf_i64 (by omega))) ?_;intro w5 hown5 hgrow5)
    | fail)
   have HE5:Hid (Ext w w5):=Below.grown HX.out hgrow5 (Nat.le_of_lt (by have:=HG.out.size;have:=HS2.out;omega)) (fun j hj=>by cases hj;exact Nat.le_refl _)
   have HG5:Hid (w2.grownBy w5 (some w.heap.size)):=grown_trans HG.out hgrow5
   have HP5:Hid (PlacesIn w5 w.heap.size (i+1) n k (L.take (i+1))):=by
    refine ⟨_,hown5,isMap_put HMP.out _ _,fun x hx=>?_⟩
    by_cases hxs:x=s
    ·subst hxs
     rw [atKey_put_same HMP.out (by exact trivial),HPI.out]
    ·rw [atKey_put_other (fun e=>hxs (by injection e with _ e;exact Int.ofNat.inj e))]
     refine HAT.out x ?_
     rw [List.take_add_one,HS.out] at hx
     simpa [hxs] using hx
   clear hown5 hgrow5
   go_roundw
   case rel=>exact ⟨i+1,by omega,by go_num,HE5.out,HG5.out,HP5.out⟩
   case measure=>simp [intOf];omega
  ·obtain rfl:i=N:=by omega
   have HP9:Hid (PlacesIn wr w.heap.size i n k (allW n k)):=by
    have:=HP.out
    rw [← HNN.out,List.take_length,← HLL.out] at this
    rw [← HNN.out,← HLL.out];exact this
   clear HP
   go_wp2_with fail
   go_ret
   exact ⟨_,rfl,HX.out,_,_,rfl,HP9.out⟩
end Go.Proofs.YtjlkkofmojgipaaGreatDoor
namespace Go.Proofs.YtjlkkofmojgipaaGreatDoor
set_option linter.unusedVariables false
set_option linter.unusedSimpArgs false
open Go.RowKit
def setsI (L:List Nat):List (List Int):=L.map fun s=>natsI (membL s)
end Go.Proofs.YtjlkkofmojgipaaGreatDoor
namespace Go.Proofs.YtjlkkofmojgipaaGreatDoor
set_option linter.unusedVariables false
open Go.RowKit
section
variable {P:Program} {ops:Array Oper} {Q:Exit→Act→World→Prop} {md:Region.Mode} {S:World→Prop} {z:Nat}
theorem anyE_firstN {i:Nat} {oi:Oper} {v:Value} (hi:ops[i]?=some oi) (hsel:∀ (j:Nat) (o:Oper) cs b,ops[j]?=some o→o.op≠.select cs b)
  (hQ:∀ c a w,Q (.panic c) (a.put oi.dst v) w→Q (.panic c) a w) (f:Nat) :
  ∀ (l:Array Bool) (a:Act) (w:World),l.size≤z →
   (∀ j oj,ops[j]?=some oj→j≠i→l.getD j true=false→(∀ e∈oj.after,Region.binds md e=true→e.on≠i)→oi.apart ops oj=true) →
   i∈Region.ready md ops l→YieldsIf P ops S oi v a→S w →
   anyE P md ops Q S z f (l.setIfInBounds i true) (a.put oi.dst v) w→anyE P md ops Q S z (f+1) l a w:=by
 induction f with
 | zero =>
  intro l a w _ _ hr hy hS H
  refine ⟨(fun e=>by rw [e] at hr;cases hr),fun j hj=>?_⟩
  by_cases e:j=i
  ·rw [e];exact hy.wpOp hi hS ⟨fun _=>hS,H⟩
  ·have:=ready_mono hj e
   rw [H.1] at this
   cases this
 | succ f ih =>
  intro l a w hlz hfree hr hy hS H
  refine ⟨(fun e=>by rw [e] at hr;cases hr),fun j hj=>?_⟩
  by_cases e:j=i
  ·rw [e];exact hy.wpOp hi hS ⟨fun _=>hS,H⟩
  have hji:i≠j:=fun x=>e x.symm
  have un:=(mem_ready.1 hj).1
  obtain ⟨oj,hoj,hall⟩:=(mem_ready.1 hj).2
  have ui:=(mem_ready.1 hr).1
  have uf:l.getD i false=true→False:=fun hc=>by rw [not_listed ui] at hc;cases hc
  have hout:∀ l':Array Bool,l'.size≤z→l'.getD z false=false:=fun l' h=>by simp [Array.getElem?_eq_none h]
  have hno:∀ d∈oj.after,Region.binds md d=true→d.on≠i:=fun d hd hb hdi=>uf (by have:=hall d hd hb;rwa [hdi] at this)
  have step:=wpOp_putIf hoj (hfree j oj hoj e un hno) (fun cs b=>hsel i oi cs b hi) (fun cs b=>hsel j oj cs b hoj) hQ hy (H.2 j (ready_mono hj e))
  refine wpOp_mono (fun b u hb=>?_) step
  obtain ⟨hy2,hS2,hrest⟩:=hb
  have hSu:S u:=hS2 (hout _ (by simpa using hlz))
  refine ⟨fun _=>hSu,ih (l.setIfInBounds j true) b u (by simpa using hlz) (fun k ok hk hki hun hn=>?_) (ready_mono hr hji) hy2 hSu ?_⟩
  ·refine hfree k ok hk hki ?_ hn
   by_cases hjk:j=k
   ·rw [← hjk];exact un
   ·rw [getD_set_ne true hjk] at hun;exact hun
  ·rw [Array.setIfInBounds_comm _ _ e];exact hrest
theorem anyE_takeN (i:Nat) {oi:Oper} {v:Value} {f:Nat} {l:Array Bool} {a:Act} {w:World} (hi:ops[i]?=some oi)
  (hs:Region.noSelect ops=true) (hf:Region.free md ops l i=true) (hr:(Region.ready md ops l).contains i=true) (hz:l.size≤z)
  (hQ:∀ c a w,Q (.panic c) (a.put oi.dst v) w→Q (.panic c) a w) (hy:YieldsIf P ops S oi v a) (hS:S w)
  (h:anyE P md ops Q S z f (l.setIfInBounds i true) (a.put oi.dst v) w):anyE P md ops Q S z (f+1) l a w :=
 anyE_firstN hi (Region.noSelect_spec hs) hQ f l a w hz (Region.free_spec hi hf) (by simpa using hr) hy hS h
theorem anyE_lastN (i:Nat) {o:Oper} {f:Nat} {l:Array Bool} {a:Act} {w:World} (hr:Region.ready md ops l=[i]) (hr2:Region.ready md ops (l.setIfInBounds i true)=[]) (ho:ops[i]?=some o)
  (h:∀ K:Act→World→Prop,Shut (∀ b u,S u→Q .normal b u→K b u)→if Region.wanted o (yielded ops a.tmps)=true then Oper.wp P o a w K Q else K (a.put o.dst undef) w):anyE P md ops Q S z (f+1) l a w:=by
 refine ⟨(fun e=>by rw [hr] at e;cases e),fun j hj=>?_⟩
 obtain rfl:j=i:=by rw [hr] at hj;simpa using hj
 refine wpOp_step ho fun K hK=>h K fun b u hS hq=>hK b u ⟨fun _=>hS,?_⟩
 cases f with
 | zero=>exact ⟨hr2,hq⟩
 | succ f=>exact ⟨fun _=>hq,by rw [hr2];simp⟩
end
section
variable {P:Program} {ops O:Array Oper} {Q:Exit→Act→World→Prop} {md:Region.Mode} {S:World→Prop} {z n:Nat}
theorem getopN (hO:Hid (ops=O)) (i:Nat) (h:i<O.size):ops[i]?=some O[i]:=by
 have hO:ops=O:=hO
 subst hO
 exact Array.getElem?_eq_getElem h
end
section
variable {P:Program} {ops O:Array Oper} {Q:Exit→Act→World→Prop} {md:Region.Mode} {S:World→Prop} {z n:Nat}
theorem region_anyEV (S:World→Prop) (z:Nat) (n:Nat) {id:Nat} {a:Act} {w:World} (hm:P.follows .mixedOrders=true) (hn:O.size=n) (hS:S w.drew)
  (h:∀ ops,Hid (ops=O)→S w.drew→anyE P .any ops Q S z n (Array.replicate n false) a w.drew):(Code.region id O true).wp P Q a w :=
 region_anyE S z hm hS (fun hh=>by have:=h O rfl hh;rw [hn];exact this)
theorem anyE_takeWV (hO:Hid (ops=O)) (i:Nat) {oi:Oper} {v:Value} {f:Nat} {l:Array Bool} {a:Act} {w:World} (hi:ops[i]?=some oi)
  (hs:Region.noSelect O=true) (hf:Region.free md O l i=true) (hr:(Region.ready md O l).contains i=true) (hz:decide (i≠z)=true)
  (hQ:∀ c a w,Q (.panic c) (a.put oi.dst v) w→Q (.panic c) a w) (hy:Yields P O oi v a) (hS:S w)
  (h:anyE P md ops Q S z f (l.setIfInBounds i true) (a.put oi.dst v) w):anyE P md ops Q S z (f+1) l a w:=by
 have hO:ops=O:=hO
 subst hO
 exact anyE_takeW i hi hs hf hr (of_decide_eq_true hz) hQ hy hS h
theorem anyE_takeV (hO:Hid (ops=O)) (i:Nat) {oi:Oper} {v:Value} {f:Nat} {l:Array Bool} {a:Act} {w:World} (hi:ops[i]?=some oi)
  (hs:Region.noSelect O=true) (hf:Region.free md O l i=true) (hr:(Region.ready md O l).contains i=true) (hz:decide (l.size≤z)=true)
  (hQ:∀ c a w,Q (.panic c) (a.put oi.dst v) w→Q (.panic c) a w) (hy:YieldsIf P O S oi v a) (hS:S w)
  (h:anyE P md ops Q S z f (l.setIfInBounds i true) (a.put oi.dst v) w):anyE P md ops Q S z (f+1) l a w:=by
 have hO:ops=O:=hO
 subst hO
 exact anyE_takeN i hi hs hf hr (of_decide_eq_true hz) hQ hy hS h
theorem anyE_stepV (hO:Hid (ops=O)) (i:Nat) {o:Oper} {f:Nat} {l:Array Bool} {a:Act} {w:World} (hr:Region.ready md O l=[i]) (ho:ops[i]?=some o)
  (h:∀ K:Act→World→Prop,Shut (∀ b u,S u→(S u→anyE P md ops Q S z f (l.setIfInBounds i true) b u)→K b u)→if Region.wanted o (yielded O a.tmps)=true then Oper.wp P o a w K Q else K (a.put o.dst undef) w):anyE P md ops Q S z (f+1) l a w:=by
 have hO:ops=O:=hO
 subst hO
 exact anyE_step i hr ho h
theorem anyE_lastV (hO:Hid (ops=O)) (i:Nat) {o:Oper} {f:Nat} {l:Array Bool} {a:Act} {w:World} (hr:Region.ready md O l=[i]) (hr2:Region.ready md O (l.setIfInBounds i true)=[]) (ho:ops[i]?=some o)
  (h:∀ K:Act→World→Prop,Shut (∀ b u,S u→Q .normal b u→K b u)→if Region.wanted o (yielded O a.tmps)=true then Oper.wp P o a w K Q else K (a.put o.dst undef) w):anyE P md ops Q S z (f+1) l a w:=by
 have hO:ops=O:=hO
 subst hO
 exact anyE_lastN i hr hr2 ho h
end
end Go.Proofs.YtjlkkofmojgipaaGreatDoor
namespace Go.Proofs.YtjlkkofmojgipaaGreatDoor
set_option linter.unusedVariables false
set_option linter.unusedSimpArgs false
open Go.RowKit Go.Maps
theorem boxM (w:World) (x y z:Value):∃ W,(w.alloc (.cells #[x,y,z] 31))=W∧Ext w W∧W.heap.size=w.heap.size+1∧W.heap[w.heap.size]?=some (.cells #[x,y,z] 31 (0,0)) :=
 ⟨_,rfl,Ext.alloc _ _,by simp,block_new _ _ _⟩
theorem Build.boxAt {w:World} {base:Nat} {e:TypeId} {v:Value} {xs:List Int} (h:Build w base e 1 v numC xs) {g:Nat} (hg:g<base) (j:Nat) (y:Value):Build (w.setCell ⟨g,j,none⟩ y) base e 1 v numC xs:=by
 obtain ⟨us,h1,h2,h3,h4⟩:=h
 refine ⟨us,h1,h2,ownsRow_setCell_other h3 (fun e=>?_) y,fun j u x hu hx w' _=>(h4 j u x hu hx).now⟩
 have:=(h3.lt g e).1
 omega
theorem cell_in {w:World} {b j:Nat} {v:Value} (hc:w.cell? ⟨b,j,none⟩=some v):b<w.heap.size:=by
 by_cases h:b<w.heap.size
 ·exact h
 ·have h0:w.heap[b]?=none:=Array.getElem?_eq_none (Nat.le_of_not_lt h)
  simp [World.cell?,h0] at hc
theorem GrownS.cell {S:Nat→Prop} {w w':World} {b j:Nat} {v:Value} (h:GrownS S w w') (hc:w.cell? ⟨b,j,none⟩=some v) (hb:¬ S b):w'.cell? ⟨b,j,none⟩=some v:=by
 rw [← hc];unfold World.cell?;rw [h.block b (cell_in hc) hb]
theorem GrownS.thenBelow {S:Nat→Prop} {w w' w'':World} {B:Nat} (h:GrownS S w w') (k:Below B w' w'') (hB:w.heap.size≤B):GrownS S w w'' :=
 ⟨k.os.trans h.os,k.tape.trans h.tape,k.output.trans h.output,Nat.le_trans h.size k.size,fun j hj hS=>(k.block j (by omega)).trans (h.block j hj hS)⟩
theorem GrownS.from {S:Nat→Prop} {w w' w'':World} {B:Nat} (h:Below B w w') (k:GrownS S w' w'') (hw:w.heap.size≤B) (hS:∀ j,j<w.heap.size→¬ S j):Ext w w'' :=
 ⟨k.os.trans h.os,k.tape.trans h.tape,k.output.trans h.output,Nat.le_trans h.size k.size,fun j hj=>(k.block j (Nat.lt_of_lt_of_le hj h.size) (hS j hj)).trans (h.block j (by omega))⟩
theorem ext_grownS {S:Nat→Prop} {w w' w'':World} (h:Ext w w') (k:GrownS S w' w'') (hS:∀ j,j<w.heap.size→¬ S j):Ext w w'':=GrownS.from h k (Nat.le_refl _) hS
theorem PlacesM.run {w:World} {v:Value} {n k s:Nat} (h:PlacesM w v n k) (hs:s∈allW n k) (hlt:s<4096):(Instr.lookup 96 v (.int .u64 (s:Int)) false).run Tryz.prog w=.ok (.int .i64 (placeW n k s:Int)) w:=by
 obtain ⟨b,N,rfl,D,hown,hmap,hat⟩:=h
 obtain ⟨c,hrun,hc,hwc⟩:=hown.lookup_int lawU Tryz.underlying96 Tryz.underlying3 (zeroI w) (keyU hlt)
 rw [hat s hs] at hc
 cases hc
 exact hrun
theorem PlacesM.grownS {w w':World} {B:Nat} {v:Value} {n k:Nat} {C:Array Value} {T:TypeId} (h:PlacesM w v n k) (hg:GrownS (·=B) w w') (hB:w.heap[B]?=some (.cells C T (0,0))):PlacesM w' v n k:=by
 obtain ⟨b,N,hv,h1⟩:=h
 refine ⟨b,N,hv,?_⟩
 obtain ⟨D,ho,hm,ha⟩:=h1
 have hne:b≠B:=by
  rintro rfl
  obtain ⟨es,clock,hbk,-⟩:=ho
  rw [hB] at hbk;cases hbk
 have hgb:w.grownBy w' (some B):=⟨hg.os,hg.tape,hg.output,hg.size,fun j hj hne2=>hg.block j hj (fun e=>hne2 (by rw [e]))⟩
 exact ⟨D,ho.kept hgb (fun e=>hne (by cases e;rfl)),hm,ha⟩
theorem multi_nou64 {i:Nat} {s:Int} {n k:Int} {a:Option Addr} {l c:Nat} (h:some (Value.int .u64 s)=(#[Value.int .i64 n,Value.int .i64 k,Value.slice a l c]:Array Value)[i]?):False:=by
 match i,h with
 | 0,h=>simp at h
 | 1,h=>simp at h
 | 2,h=>simp at h
 | i+3,h=>simp at h
theorem rest_andNot:∀ n,n<7→∀ s,s<2^n→(2^n-1) &&& (18446744073709551615-s)=restW n s:=by decide +kernel
theorem rest_bits {n s:Nat} (hn:n<7) (hs:s<2^n):bits .andNot .u64 ((2^n-1:Nat):Int) (s:Int)=((restW n s:Nat):Int):=by
 have h1:2^n≤2^6:=Nat.pow_le_pow_right (by decide) (by omega)
 rw [u64_andNot_nat _ _ (by omega) (by omega),rest_andNot n hn s hs]
theorem shl_small {n:Nat} (hn:n<13):IntKind.u64.wrap ((2:Int)^n)=((2^n:Nat):Int)∧2^n≤4096∧1≤2^n:=by
 have h:∀ m,m<13→IntKind.u64.wrap ((2:Int)^m)=((2^m:Nat):Int)∧2^m≤4096∧1≤2^m:=by decide +kernel
 exact h n hn
theorem allW_two {n k:Nat} (hn:n≤12) (hk:k≤n):∀ x∈allW n k,x<2^n:=wordsL_lt (Nat.le_refl n) k 0 0 (Nat.two_pow_pos n) hk
theorem bit_andW {s i:Nat} (hs:s<4096):bits .and .u64 ((s / 2^i:Nat):Int) 1=if s.testBit i=true then 1 else 0:=by
 have h1:s / 2^i≤s:=Nat.div_le_self _ _
 have h2:=bits_and_u64_nat (s / 2^i) 1 (by omega) (by omega)
 rw [Nat.and_one_is_mod] at h2
 rw [show ((1:Nat):Int)=1 from rfl] at h2
 rw [h2,Nat.testBit_eq_decide_div_mod_eq]
 by_cases h:s / 2^i%2=1
 ·rw [if_pos (by rw [decide_eq_true h]),h];rfl
 ·rw [if_neg (by rw [decide_eq_false h];decide)];omega
theorem oddE_any (s t:Nat) (hs:s<4096) (ht:t<4096) (w:World) :
  Calls Tryz.prog 65 #[.int .u64 s,.int .u64 t] w fun e w'=>e=.returned (.bool (oddW s t))∧Ext w w':=(odd_any s t hs ht w).mono fun e w' ⟨h,h2⟩=>⟨h,h2▸Ext.refl _⟩
theorem run_index_struct {P:Program} (w:World) (t e:TypeId) (n m:Nat) (cs:Array Value) (k:IntKind) (i:Int) (j:Nat) (inf:TypeInfo) (h:P.underlying t=some (.array n e)) (hag:∀ w,(isAgg e).run P w=.ok true w) (hinf:P.info? e=some inf) (hc:P.cellsOf e=m) (hi:i=j) (hn:j<n) :
  (Instr.index t (.agg cs) (.int k i)).run P w=.ok (.agg (cs.extract (j*m) (j*m+m))) w:=by
 subst hi
 have h1:(0:Int)≤(j:Int)∧(j:Int)<(n:Int):=by omega
 have hs:∀ w,(sizeOf e).run P w=.ok m w:=fun w=>by rw [run_sizeOf w hinf,hc]
 simp [Instr.index,run_underlying h,asIntOf,h1,hn,part,hs,hag,go_sem]
theorem infoMul : ∃ i, Tryz.prog.info? 31 = some i := by
  cases h : Tryz.prog.info? 31 with
  | some i => exact ⟨i, rfl⟩
  | none => exact absurd h (by have : (Tryz.prog.info? 31).isSome = true := by kernel_rfl
                               intro e; rw [e] at this; cases this)
theorem cellsMul:Tryz.prog.cellsOf 31=3:=by kernel_rfl
def PlacesIn2 (w:World) (b N n k:Nat) (L:List Nat):Prop:=∃ D:DataW Unit,w.ownsMap Tryz.prog 100 (plainElem Tryz.prog 3) b N D∧IsMap D∧(∀ s∈L,D.atKey (.int .u64 (s:Int)) (.lit (.int .i64 0))=.lit (.int .i64 (placeW n k s:Int)))∧Tidy D∧Maps.size D=L.length∧∀ x:Nat,has D (.int .u64 (x:Int))=true→x∈L
def PlacesM2 (w:World) (v:Value) (n k:Nat):Prop:=∃ b N,v=.map (some b)∧PlacesIn2 w b N n k (allW n k)
theorem PlacesM2.one {w:World} {v:Value} {n k:Nat} (h:PlacesM2 w v n k):PlacesM w v n k:=by
 obtain ⟨b,N,hv,D,h1,h2,h3,-⟩:=h
 exact ⟨b,N,hv,D,h1,h2,h3⟩
theorem PlacesIn2.ext {w w':World} {b N n k:Nat} {L:List Nat} (h:PlacesIn2 w b N n k L) (he:Ext w w'):PlacesIn2 w' b N n k L:=by
 obtain ⟨D,h1,h2⟩:=h
 exact ⟨D,h1.kept (he.grown none) (by simp),h2⟩
theorem PlacesM2.ext {w w':World} {v:Value} {n k:Nat} (h:PlacesM2 w v n k) (he:Ext w w'):PlacesM2 w' v n k:=by
 obtain ⟨b,N,hv,h1⟩:=h
 exact ⟨b,N,hv,h1.ext he⟩
theorem PlacesIn2.made (w:World) (n k:Nat):PlacesIn2 (w.alloc (.map #[] 0)) w.heap.size 0 n k []:=⟨.map [],World.ownsMap_made _ _ _ _,⟨_,rfl⟩,(fun s hs=>by cases hs),tidy_empty,rfl,fun x hx=>by cases hx⟩
end Go.Proofs.YtjlkkofmojgipaaGreatDoor
namespace Go.Proofs.YtjlkkofmojgipaaGreatDoor
set_option linter.unusedVariables false
set_option linter.unusedSimpArgs false
open Go.RowKit
theorem run_copyK {P:Program} (w:World) (dT sT ty elem:TypeId) (g o dLen dCap:Nat) (a:Addr) (sLen sCap:Nat) (cur:Array Value) (t:TypeId) (cs:List Value) (sz:Nat)
  (hu:P.underlying dT=some (.slice elem)) (hs:(P.info? elem).map (·.size)=some sz)
  (hg:w.heap[g]?=some (.cells cur t (0,0))) (hn:cs.length=Nat.min sLen dLen*sz)
  (hsrc:∀ j v,cs[j]?=some v→w.cell? (a.add j)=some v) (hfit:o+cs.length≤cur.size) (h1:∀ v∈cs,v.oneCell'=true) :
  (Builtin.copy_ #[dT,sT] ty #[.slice (some ⟨g,o,none⟩) dLen dCap,.slice (some a) sLen sCap]).run P w =
   .ok (goInt (Nat.min sLen dLen)) (w.setRow g (cur.toList.take o++cs++cur.toList.drop (o+cs.length)).toArray):=by
 have hl:=run_loadCells_list (P:=P) w a cs hsrc
 have hst:=run_storeCells_at P g o t cs 0 cur w hg (by simpa using hfit) h1
 cases hq:P.info? elem with
 | none=>simp [hq] at hs
 | some i =>
  have hi:i.size=sz:=by simpa [hq] using hs
  simp [Builtin.copy_,run_underlying hu,Builtin.lenOf,Builtin.firstCells,sizeOf,typeInfo,hq,hi,← hn,hl,hst]
set_option maxRecDepth 100000 in
set_option maxHeartbeats 400000 in
theorem subI_any (x y:Int) (w:World) (hx:(intB x).size≤2800000000) (hy:(intB y).size≤2800000000) (ht:Pow10 w) :
  Calls Tryz.prog 185 #[.string (intB x),.string (intB y)] w fun e w'=>e=.returned (.string (intB (x-y)))∧Ext w w':=by
 have HN:=Lib.hid (neg_any y w (by omega))
 have hny:(intB (-y)).size≤2900000000:=by
  have h1:=intB_size_le (-y)
  have h2:=natAbs_le y
  rw [Int.natAbs_neg] at h1
  omega
 have HA:Hid (∀ W,Ext w W→Calls Tryz.prog 61 #[.string (intB x),.string (intB (-y))] W fun e w'=>e=.returned (.string (intB (x+-y)))∧Ext W w'):=fun W hE=>addI_any x (-y) W (by omega) hny (ht.ext hE)
 rw [show x+-y=x-y by omega] at HA
 clear ht hx hy hny
 go_enter Tryz.func185,Tryz.ntmps185
 go_wp2_with fail
 refine HN.out.mono ?_
 rintro e w0 ⟨rfl,hE0⟩
 have HE0:=Lib.hid hE0
 clear HN hE0
 go_wp2_with fail
 refine (HA.out _ HE0.out).mono ?_
 rintro e w1 ⟨rfl,hE1⟩
 have HE1:=Lib.hid (Ext.trans HE0.out hE1)
 clear hE1 HA
 go_wp2_with fail
 go_ret
 exact ⟨rfl,HE1.out⟩
end Go.Proofs.YtjlkkofmojgipaaGreatDoor
