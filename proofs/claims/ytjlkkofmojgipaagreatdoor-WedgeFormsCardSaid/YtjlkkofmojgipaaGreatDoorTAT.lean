import Derived.Test.YtjlkkofmojgipaaGreatDoorTAS
import Derived.Test.YtjlkkofmojgipaaGreatDoorTAG
import Derived.Test.YtjlkkofmojgipaaGreatDoorTAE
import Derived.Lib.SliceRun
import Derived.WalkSpells
import Derived.Test.YtjlkkofmojgipaaGreatDoorTAA
import Derived.Test.YtjlkkofmojgipaaGreatDoorProg
namespace Go.Proofs.YtjlkkofmojgipaaGreatDoor
set_option linter.unusedVariables false
set_option linter.unusedSimpArgs false
open Go.RowKit
theorem contTo_le (X:List Int) {B:Nat} (hB:∀ x∈X,x.natAbs≤B):∀ i,i≤X.length→contTo X i≤B
 | 0,_=>by simp [contTo]
 | i+1,h=>by
  obtain ⟨x,hx⟩:∃ x,X[i]?=some x:=⟨_,List.getElem?_eq_getElem (by omega)⟩
  rw [contTo_succ hx]
  have h1:=contTo_le X hB i (by omega)
  have h2:=hB x (List.mem_of_getElem? hx)
  by_cases h0:contTo X i=0
  ·rw [h0,Nat.gcd_zero_left];exact h2
  ·exact Nat.le_trans (Nat.gcd_le_left _ (by omega)) h1
set_option maxRecDepth 100000 in
set_option maxHeartbeats 2000000 in
theorem content_any (X:List Int) (v:Value) (w:World) (h:ListAt 1 numC w v X) (HG:Hid (∀ i x,X[i]?=some x→∀ W,Ext w W→Calls Tryz.prog 134 #[.string (intB (contTo X i:Int)),.string (intB x)] W fun e w'=>e=.returned (.string (intB (contTo X (i+1):Int)))∧Ext W w')) :
  Calls Tryz.prog 76 #[v] w fun e w'=>e=.returned (.string (intB (contL X:Int)))∧Ext w w':=by
 obtain ⟨a,c,rfl,h1,h2,-,hc⟩:=inCell.open (BigL.of_nums h)
 unfold maxLen at h2
 have HC:=Lib.hid hc
 clear h hc
 obtain ⟨m,hm⟩:∃ m,X.length=m:=⟨_,rfl⟩
 have HM:=Lib.hid hm
 have HL:Hid (contL X=contTo X m):=by unfold Hid contL;rw [hm]
 have HZ:Hid (intB (contTo X 0:Int)=⟨#[48]⟩):=by
  unfold Hid
  show intB 0=_
  decide +kernel
 rw [hm] at h1 ⊢
 clear hm
 go_enter Tryz.func76,Tryz.ntmps76
 go_wp2_with fail
 go_loopw [3,8] (fun o t wr=>∃ j:Nat,j≤m∧t=.int .i64 j∧o=.string (intB (contTo X j:Int))∧Hid (Ext w wr)) (fun _ t _=>m+1-(intOf t).toNat)
 case atStart=>exact ⟨0,by omega,rfl,by rw [HZ.out],Ext.refl _⟩
 case round =>
  obtain ⟨j,hj,rfl,rfl,HX⟩:=hrel
  by_cases hlt:j<m
  ·obtain ⟨x,hx⟩:∃ x,X[j]?=some x:=⟨_,List.getElem?_eq_getElem (by have:=HM.out;omega)⟩
   obtain ⟨b,off,rfl,hb,hcell⟩:=HC.out (by intro e;rw [e] at hx;simp at hx)
   obtain ⟨z9,e1,g1⟩:=hcell j x hx
   obtain rfl:z9=.string (intB x):=e1
   have g1:=HX.out.cell g1
   have q1:(j:Int)<(m:Int):=by omega
   have HK:=Lib.hid (HG.out j x hx wr HX.out)
   obtain ⟨s0,hs0⟩:∃ s,intB (contTo X j:Int)=s:=⟨_,rfl⟩
   obtain ⟨s1,hs1⟩:∃ s,intB (contTo X (j+1):Int)=s:=⟨_,rfl⟩
   have HS1:=Lib.hid hs1
   rw [hs0,hs1] at HK
   rw [hs0]
   clear hcell hx hb hs0 hs1
   go_wp2_with fail
   refine HK.out.mono ?_
   rintro e w7 ⟨rfl,h7⟩
   have HX7:Hid (Ext w w7):=HX.out.trans h7
   clear h7 HK
   go_wp2_with fail
   go_roundw
   case rel=>exact ⟨j+1,by omega,by go_num,by rw [HS1.out],HX7.out⟩
   case measure=>simp [intOf];omega
  ·obtain rfl:j=m:=by omega
   go_wp2_with fail
   go_ret
   exact ⟨by rw [HL.out];rfl,HX.out⟩
theorem contTo_lt {X:List Int} {B:Nat} (h0:0<B) (hB:∀ x∈X,x.natAbs<B) {i:Nat} (hi:i≤X.length):contTo X i<B:=by
 have:=contTo_le X (B:=B-1) (fun x hx=>by have:=hB x hx;omega) i hi
 omega
def Digits400 (X:List Int):Prop:=∀ x∈X,x.natAbs<10^400
theorem digits_size {x:Int} (h:x.natAbs<10^400):(numB x.natAbs).size≤400∧(intB x).size≤401:=by
 have h1:=numB_size_le x.natAbs 400 h (by decide)
 have h2:=intB_size_le x
 exact ⟨h1,by omega⟩
theorem contentI_any (X:List Int) (v:Value) (w:World) (h:ListAt 1 numC w v X) (hd:Digits400 X) (ht:Pow10 w) :
  Calls Tryz.prog 76 #[v] w fun e w'=>e=.returned (.string (intB (contL X:Int)))∧Ext w w':=by
 refine content_any X v w h fun i x hx W hW=>?_
 have h2:((contTo X i:Nat):Int).natAbs<10^400:=by
  rw [Int.natAbs_natCast]
  exact contTo_lt (Nat.pow_pos (by decide)) hd (Nat.le_of_lt (List.getElem?_eq_some_iff.1 hx).1)
 have h3:=gcdI_any (contTo X i:Int) x W (by have:=(digits_size h2).2;omega) (by have:=(digits_size (hd x (List.mem_of_getElem? hx))).2;omega) (ht.ext hW)
 rw [Int.natAbs_natCast,← contTo_succ hx,← eb] at h3
 exact h3
theorem contL_lt {X:List Int} (hd:Digits400 X):contL X<10^400:=contTo_lt (Nat.pow_pos (by decide)) hd (Nat.le_refl _)
structure RightM (n k:Nat) (X:List Int):Prop where
 n12:n≤12
 kn:k≤n
 len:X.length=(allW n k).length
 dig:Digits400 X
theorem checkR_any {n k:Nat} {X:List Int} (hR:RightM n k X) (u:Value) (w:World) (h:MultiV w u n k X) :
  Calls Tryz.prog 47 #[u] w fun e w'=>e=.returned (.int .i64 0)∧Ext w w' :=
 checkM_any n k X u w h hR.n12 hR.kn hR.len fun x hx=>(digits_size (hR.dig x hx)).1
set_option maxRecDepth 100000 in
set_option maxHeartbeats 1000000 in
theorem contentM_any {n k:Nat} {X:List Int} (hR:RightM n k X) (u:Value) (w:World) (h:MultiV w u n k X) (ht:Pow10 w) :
  Calls Tryz.prog 30 #[u] w fun e w'=>e=.returned (.tuple #[.string (intB (contL X:Int)),.int .i64 0])∧Ext w w':=by
 have HK:Hid (∀ W,Ext w W→Calls Tryz.prog 47 #[u] W fun e w'=>e=.returned (.int .i64 0)∧Ext W w'):=fun W hW=>checkR_any hR u W (h.ext hW)
 obtain ⟨r,rfl,hr⟩:=h
 have HN:Hid (∀ W,Ext w W→Calls Tryz.prog 76 #[r] W fun e w'=>e=.returned (.string (intB (contL X:Int)))∧Ext W w'):=fun W hW=>contentI_any X r W (ListAt.ext numC.mono' hr hW) hR.dig (ht.ext hW)
 obtain ⟨a,c,rfl,-⟩:=ListAt.open hr
 obtain ⟨w1,hw1⟩:∃ w1,w.alloc (.cells #[.int .i64 n,.int .i64 k,.slice a X.length c] 31)=w1:=⟨_,rfl⟩
 have hb1:w1.heap[w.heap.size]?=some (.cells #[.int .i64 n,.int .i64 k,.slice a X.length c] 31 (0,0)):=by rw [← hw1];exact block_new w _ _
 have HE1:Hid (Ext w w1):=by rw [← hw1];exact Ext.alloc _ _
 have k1:=block_cell hb1
 have HB:=Lib.hid hb1
 clear hb1 hr hR ht
 go_enter Tryz.func30,Tryz.ntmps30
 go_wp2_with fail
 refine (HK.out w1 HE1.out).mono ?_
 rintro e w2 ⟨rfl,h2⟩
 have HE2:Hid (Ext w w2):=HE1.out.trans h2
 have k2:=block_cell (block_ext HB.out h2)
 clear h2 HK k1 hw1
 go_wp2_with fail
 refine (HN.out w2 HE2.out).mono ?_
 rintro e w3 ⟨rfl,h3⟩
 have HE3:Hid (Ext w w3):=HE2.out.trans h3
 clear h3 HN
 go_wp2_with fail
 go_ret2
 exact ⟨rfl,HE3.out⟩
theorem int_zeroW (x:Int):((intB x).toList == [48])=decide (x=0):=by
 have h:=int_same x 0
 have e:(intB 0).toList=[48]:=by decide +kernel
 rw [e] at h;exact h
set_option maxRecDepth 100000 in
set_option maxHeartbeats 1000000 in
theorem zeroM_any {n k:Nat} {X:List Int} (hd:Digits400 X) (u:Value) (w:World) (h:MultiV w u n k X) (ht:Pow10 w) :
  Calls Tryz.prog 79 #[u] w fun e w'=>e=.returned (.bool (decide (contL X=0)))∧Ext w w':=by
 obtain ⟨r,rfl,hr⟩:=h
 have HN:Hid (∀ W,Ext w W→Calls Tryz.prog 76 #[r] W fun e w'=>e=.returned (.string (intB (contL X:Int)))∧Ext W w'):=fun W hW=>contentI_any X r W (ListAt.ext numC.mono' hr hW) hd (ht.ext hW)
 obtain ⟨a,c,rfl,-⟩:=ListAt.open hr
 obtain ⟨w1,hw1⟩:∃ w1,w.alloc (.cells #[.int .i64 n,.int .i64 k,.slice a X.length c] 31)=w1:=⟨_,rfl⟩
 have hb1:w1.heap[w.heap.size]?=some (.cells #[.int .i64 n,.int .i64 k,.slice a X.length c] 31 (0,0)):=by rw [← hw1];exact block_new w _ _
 have HE1:Hid (Ext w w1):=by rw [← hw1];exact Ext.alloc _ _
 have k1:=block_cell hb1
 have hz:=int_zeroW (contL X:Int)
 have HD:Hid (decide ((contL X:Int)=0)=decide (contL X=0)):=by unfold Hid;congr 1;exact propext ⟨fun h=>by omega,fun h=>by omega⟩
 obtain ⟨s,hs⟩:∃ s,intB (contL X:Int)=s:=⟨_,rfl⟩
 rw [hs] at HN hz
 clear hb1 hr hd ht hs
 go_enter Tryz.func79,Tryz.ntmps79
 go_wp2_with fail
 refine (HN.out w1 HE1.out).mono ?_
 rintro e w3 ⟨rfl,h3⟩
 have HE3:Hid (Ext w w3):=HE1.out.trans h3
 clear h3 HN
 go_wp2_with fail
 go_ret
 refine ⟨?_,HE3.out⟩
 rw [← HD.out]
 first | rfl | (rw [← hz];rfl)
set_option maxRecDepth 100000 in
set_option maxHeartbeats 1000000 in
theorem canon1_any (x:Int) (w:World) :
  Calls Tryz.prog 92 #[.string (intB x)] w fun e w'=>e=.returned (.bool (decide (x≠0)))∧Ext w w':=by
 have hz:=int_zeroW x
 by_cases h:x=0
 ·have HD:Hid (decide (x≠0)=false):=decide_eq_false (by simp [h])
  rw [decide_eq_true h] at hz
  have hz':((intB x).toList != [48])=false:=by unfold bne;rw [hz];rfl
  clear h
  go_enter Tryz.func92,Tryz.ntmps92
  go_wp2_with fail
  go_ret
  exact ⟨by rw [HD.out];rfl,Ext.refl _⟩
 ·have HD:Hid (decide (x≠0)=true):=decide_eq_true h
  rw [decide_eq_false h] at hz
  have hz':((intB x).toList != [48])=true:=by unfold bne;rw [hz];rfl
  clear h
  go_enter Tryz.func92,Tryz.ntmps92
  go_wp2_with fail
  go_ret
  exact ⟨by rw [HD.out];rfl,Ext.refl _⟩
theorem flat_lenW:∀ us:List (List Value),(∀ u∈us,u.length=1)→us.flatten.length=us.length
 | [],_=>rfl
 | u::us,h=>by
  rw [List.flatten_cons,List.length_append,h u List.mem_cons_self,flat_lenW us fun x hx=>h x (List.mem_cons_of_mem _ hx),List.length_cons];omega
set_option maxRecDepth 100000 in
set_option maxHeartbeats 800000 in
theorem cloneI_any (xs:List Int) (v:Value) (w:World) (h:ListAt 1 numC w v xs) (hlen:xs.length≤1000) :
  Calls Tryz.prog 90 #[v] w fun e w'=>∃ r,e=.returned r∧Ext w w'∧Build w' w.heap.size 53 1 r numC xs:=by
 obtain ⟨us,u1,u2,u3,u4⟩:=h
 obtain ⟨a,c,rfl,h1,h2,h3,hc⟩:=u3
 obtain ⟨i0,hi,hz0,hz1,hz2⟩:=info_parts infoBigI
 have HI:=Lib.hid hi;have HZ0:=Lib.hid hz0;have HZ1:=Lib.hid hz1;have HZ2:=Lib.hid hz2
 have HC:=Lib.hid hc;have HU1:=Lib.hid u1;have HU2:=Lib.hid u2;have HU4:=Lib.hid u4
 have HFL:=Lib.hid (flat_lenW us u2)
 clear hi hz0 hz1 hz2 hc u1 u2 u4
 unfold maxLen at h2
 cases a with
 | none =>
  have h0:xs=[]:=by have:=h3 rfl;exact List.eq_nil_of_length_eq_zero (by omega)
  subst h0
  obtain rfl:c=0:=h3 rfl
  clear h3 h1 h2 hlen
  have heq:=fun w=>Lib.run_eql_slice_nil (P:=Tryz.prog) w 29 53 none 0 0 0 0 Tryz.underlying29
  go_enter Tryz.func90,Tryz.ntmps90
  go_wp2
  go_ret
  exact ⟨_,rfl,Ext.refl _,Build.nil _ _ _ _ _⟩
 | some ad =>
  clear h3
  obtain ⟨n,hn⟩:∃ n,n=xs.length:=⟨_,rfl⟩
  rw [← hn] at h1 hlen ⊢
  have HN:=Lib.hid hn
  have heq:=fun w=>Lib.run_eql_slice_nil (P:=Tryz.prog) w 29 53 (some ad) n c 0 0 Tryz.underlying29
  have hown:(w.alloc (.cells #[] 53)).ownsRow w.heap.size 53 1 (.slice (some ⟨w.heap.size,0,none⟩) 0 0) 0 []:=World.ownsRow_made w #[] 0 (Nat.le_refl _) (Nat.zero_le _) rfl
  have HNEWS:Hid (∀ (j:Nat) (u:Value),us.flatten[j]?=some u→(w.alloc (.cells #[] 53)).cell? (ad.add j)=some u):=by
   intro j u hu
   obtain ⟨b,off,hab,hbw,hcell⟩:=HC.out (by intro e;rw [e] at hu;simp at hu)
   cases hab
   rw [show (⟨b,off,none⟩:Addr).add j=⟨b,off+j,none⟩ by unfold Addr.add;split <;> simp_all]
   exact Ext.cell (Ext.alloc w _) (hcell j u hu)
  have HONE:Hid (∀ u∈us.flatten,u.oneCell'=true):=by
   intro u hu
   obtain ⟨l,hl,hul⟩:=List.mem_flatten.1 hu
   obtain ⟨j,hj⟩:=List.getElem?_of_mem hl
   have hjl:=(List.getElem?_eq_some_iff.1 hj).1
   have h5:l=[.string (intB (xs[j]'(by rw [← HU1.out];exact hjl)))]:=HU4.out j l (xs[j]'(by rw [← HU1.out];exact hjl)) hj (List.getElem?_eq_getElem _)
   rw [h5,List.mem_singleton] at hul
   rw [hul];rfl
  have HOWN:=Lib.hid hown
  clear hown hn
  go_enter Tryz.func90,Tryz.ntmps90
  go_wp2_with (at_builtin;refine wpList_append_own _ rfl _ _ 29 rfl w.heap.size 53 i0 (.string ⟨#[]⟩) 1 16 Tryz.underlying29 HI.out HZ0.out HZ1.out HZ2.out rfl (by decide) _ _ _ rfl HOWN.out ad n c us.flatten rfl ?d1 HNEWS.out ?d2 ?d3 ?d4 ?d5 ?_)
  case d1=>rw [HFL.out,HU1.out,HN.out,Nat.mul_one]
  case d2=>exact HONE.out
  case d3=>unfold maxLen;omega
  case d4=>omega
  case d5=>simp
  intro v' w1 hown' hgrow _
  have HO:=Lib.hid hown'
  have HE:Hid (Ext w w1):=Below.grown (Ext.alloc w _) hgrow (by simp) (by intro k hk;simp [Value.ownBlock] at hk;omega)
  clear hown' hgrow
  go_wp2
  go_ret
  refine ⟨v',rfl,HE.out,us,HU1.out,HU2.out,?_,fun j u x hu hx _ _=>HU4.out j u x hu hx⟩
  have:=HO.out
  rw [HN.out] at this
  simpa using this
def idxBig {α:Type} (p:α→Bool) (xs:List α):Int:=match xs.findIdx? p with | some i=>(i:Int) | none=>-1
def PredBig {α:Type} (R:World→Value→α→Prop) (g:Nat) (lb:Array Value) (p:α→Bool) (w:World) (xs:List α):Prop :=
 ∀ W x a,x∈xs→Ext w W→R W a x→Calls Tryz.prog g (#[a]++lb) W fun e W'=>e=.returned (.bool (p x))∧Ext W W'
set_option maxHeartbeats 400000 in
theorem indexFuncBig_any {α:Type} {R:World→Value→α→Prop} (hR:∀ w w' v x,Ext w w'→R w v x→R w' v x) (xs:List α) (v:Value) (g:Nat) (lb:Array Value) (p:α→Bool) (w:World) (h:ListAt 1 (inCell R) w v xs) (eg:∀ args w,(callFunc g args).run Tryz.prog w=.ok (.enter g args) w) (hp:PredBig R g lb p w xs) :
  Calls Tryz.prog 91 #[v,.func (.func g) #[] lb] w fun e w'=>e=.returned (.int .i64 (idxBig p xs))∧Ext w w':=by
 obtain ⟨a,c,rfl,h1,h2,-,hc⟩:=inCell.open h
 have HC:=Lib.hid hc;have HPR:=Lib.hid hp;have HR:=Lib.hid hR
 clear hc h hp hR
 unfold maxLen at h2
 go_enter Tryz.func91,Tryz.ntmps91
 go_wp2
 go_loopw [8] (fun t wr=>∃ pre rest,t=.int .i64 (pre.length:Nat)∧Ext w wr∧Hid (xs=pre++rest)∧Hid (∀ x∈pre,p x=false)) (fun t _=>xs.length-(intOf t).toNat)
 case atStart=>exact ⟨[],xs,rfl,Ext.refl _,rfl,by intro x hx;simp at hx⟩
 case round =>
  obtain ⟨pre,rest,rfl,hE,HP,HA⟩:=hrel
  obtain ⟨wo,rfl⟩:∃ wo:World,wo=wr:=⟨_,rfl⟩
  have hlen:xs.length=pre.length+rest.length:=by rw [HP.out];simp
  cases rest with
  | nil =>
   have:¬ (pre.length<xs.length):=by simp at hlen;omega
   clear hlen
   go_wp2
   go_ret
   have:idxBig p xs=-1:=by
    have:xs.findIdx? p=none:=by rw [HP.out,List.append_nil,List.findIdx?_eq_none_iff];exact HA.out
    unfold idxBig;rw [this]
   rw [this]
   exact ⟨rfl,hE⟩
  | cons x rest =>
   have hlt:pre.length<xs.length:=by simp at hlen;omega
   clear hlen
   obtain ⟨b,off,rfl,hb,hcell⟩:=HC.out (by rw [HP.out];simp)
   obtain ⟨vx,hvx,hcx⟩:=hcell pre.length x (by rw [HP.out];simp)
   have g1:=hE.cell hcx
   have hcall:=HPR.out wo x vx (by rw [HP.out];simp) hE (HR.out _ _ _ _ hE hvx)
   clear hcell hvx hcx
   cases hq:p x with
   | true =>
    have HRR:Hid (idxBig p xs=pre.length):=by
     unfold Hid idxBig
     rw [HP.out,List.findIdx?_append,(List.findIdx?_eq_none_iff (xs:=pre)).2 HA.out,List.findIdx?_cons,hq]
     simp
    rw [hq] at hcall
    have HCALL:=Lib.hid hcall
    clear hcall hq
    go_wp2_with (go_at_fn g;refine HCALL.out.mono ?_;rintro e w' ⟨rfl,hE'⟩)
    go_ret
    rw [HRR.out]
    exact ⟨rfl,hE.trans (by assumption)⟩
   | false =>
    have HA':Hid (∀ y∈pre++[x],p y=false):=by
     intro y hy
     rcases List.mem_append.1 hy with hy | hy
     ·exact HA.out y hy
     ·rw [List.mem_singleton.1 hy];exact hq
    rw [hq] at hcall
    have HCALL:=Lib.hid hcall
    clear hcall hq
    go_wp2_with (go_at_fn g;refine HCALL.out.mono ?_;rintro e w' ⟨rfl,hE'⟩)
    go_roundw
    case rel=>exact ⟨pre++[x],rest,by simp,hE.trans (by assumption),by unfold Hid;rw [HP.out];simp,HA'⟩
    case measure=>simp [intOf];omega
end Go.Proofs.YtjlkkofmojgipaaGreatDoor
