import Derived.Test.YtjlkkofmojgipaaGreatDoorPAE
import Derived.Lib.ParseIntBTie
import Derived.Test.YtjlkkofmojgipaaGreatDoorPBE
import Derived.OwnWalk
import Derived.Test.YtjlkkofmojgipaaGreatDoorPAA
import Derived.Test.YtjlkkofmojgipaaGreatDoorPBD
import Derived.Test.YtjlkkofmojgipaaGreatDoorPAP
import Derived.Test.YtjlkkofmojgipaaGreatDoorPAV
namespace Go.Proofs.YtjlkkofmojgipaaGreatDoor
set_option linter.unusedVariables false
set_option linter.unusedSimpArgs false
open Go.RowKit
def fitI (n:Int):Prop:=-9223372036854775808≤n∧n≤9223372036854775807
instance (n:Int):Decidable (fitI n):=inferInstanceAs (Decidable (_∧_))
def smV (n:Int):Int:=if fitI n then n else 0
structure LibT (w:World):Prop where
 pow:Pow10 w
 rng:∃ te pe,w.cell? ⟨3,0,none⟩=some (.iface te pe)
theorem LibT.ext {w w':World} (h:LibT w) (he:Ext w w'):LibT w':=by
 obtain ⟨te,pe,hr⟩:=h.rng
 exact ⟨h.pow.ext he,⟨te,pe,he.cell hr⟩⟩
theorem parseInt_range (n:Int) (h:¬ fitI n):Lib.parseIntB 64 (intB n).data.toList=.range:=by
 have:=atoi_canon_range (intB_canon n).1 (by rw [(intB_canon n).2];exact h)
 rw [Lib.parseIntB_64];exact this
theorem parseInt_fit (n:Int) (h:fitI n):Lib.parseIntB 64 (intB n).data.toList=.ok n:=by
 have:=atoi_canon_ok (intB_canon n).1 (by rw [(intB_canon n).2];exact h)
 rw [(intB_canon n).2] at this
 rw [Lib.parseIntB_64];exact this
set_option maxRecDepth 100000 in
theorem smallG_any (n:Int) (w:World) (hs:(intB n).size≤2000000000) (ht:LibT w) :
  Calls Tryz.prog 82 #[.string (intB n)] w fun e w'=>e=.returned (.tuple #[.int .i64 (smV n),.bool (decide (fitI n))])∧Ext w w':=by
 by_cases h:fitI n
 ·have HV:Hid (smV n=n∧decide (fitI n)=true):=⟨by unfold smV;rw [if_pos h],decide_eq_true h⟩
  have HP:Hid (Calls Tryz.prog 138 #[.string (intB n),.int .i64 10,.int .i64 64] w fun e w'=>e=.returned (.tuple #[.int .i64 n,.nilIface])∧Ext w w') :=
   (Tryz.strconv_ParseInt_10_at64_ok (intB n) (by omega) n (parseInt_fit n h) w).mono fun e w' ⟨h1,h2⟩=>⟨h1,by
    rcases h2 with rfl | ⟨t,rfl⟩
    ·exact Ext.refl _
    ·exact ⟨rfl,rfl,rfl,by rw [Lib.bytesWorld_size];omega,fun j hj=>Lib.bytesWorld_at_old w _ t j hj⟩⟩
  clear h ht
  go_enter Tryz.func82,Tryz.ntmps82
  go_wp2_with fail
  refine HP.out.mono ?_
  rintro e w1 ⟨rfl,hE1⟩
  have HE1:=Lib.hid hE1
  clear hE1 HP
  go_wp2_with fail
  go_ret2
  exact ⟨by rw [HV.out.1,HV.out.2];rfl,HE1.out⟩
 ·have HV:Hid (smV n=0∧decide (fitI n)=false):=⟨by unfold smV;rw [if_neg h],decide_eq_false h⟩
  obtain ⟨te,pe,hr⟩:=ht.rng
  have HP:=Lib.hid (Tryz.strconv_ParseInt_10_at64_range (intB n) (by omega) (parseInt_range n h) _ w hr (.inr ⟨te,pe,rfl⟩))
  clear h hr ht
  go_enter Tryz.func82,Tryz.ntmps82
  go_wp2_with fail
  refine HP.out.mono ?_
  rintro e w1 ⟨N,rfl,hN,hblk,hE1⟩
  have HE1:Hid (Ext w w1):=hE1
  clear hE1 HP hblk
  go_wp2_with fail
  go_ret2
  exact ⟨by rw [HV.out.1,HV.out.2];rfl,HE1.out⟩
theorem RowB.of_owns {w:World} {base:Nat} {e:TypeId} {g cap:Nat} {xs:List Int} (h:w.ownsRow base e 1 (.slice (some ⟨g,0,none⟩) xs.length cap) xs.length (xs.map fun x=>Value.string (intB x))):RowB w g 0 xs∧base≤g∧xs.length≤cap∧cap≤maxLen:=by
 have hc:=h.cells (g:=g) (by simp [Value.ownBlock])
 have hf:=fun j=>h.frozenAt j
 rcases h.2 with ⟨hv,_⟩ | ⟨g',cap',cur,hv,hb,hg,h1,h2,h3,h4⟩
 ·simp at hv
 ·simp only [Value.slice.injEq,Option.some.injEq,Addr.mk.injEq] at hv
  obtain ⟨⟨rfl,-,-⟩,-,rfl⟩:=hv
  refine ⟨⟨(Array.getElem?_eq_some_iff.1 hg).1,fun j x hx=>?_,fun j=>?_⟩,hb,h1,h2⟩
  ·have:=hc j (.string (intB x)) (by rw [List.getElem?_map,hx];rfl)
   rw [show (⟨g,0,none⟩:Addr).add j=⟨g,0+j,none⟩ by unfold Addr.add;split <;> simp_all] at this
   exact this
  ·exact hf j
def intC (_:World) (u:List Value) (x:Int):Prop:=u=[.int .i64 x]
theorem Build.ints {w:World} {base:Nat} {e:TypeId} {v:Value} {xs:List Int} (h:Build w base e 1 v intC xs):w.ownsRow base e 1 v xs.length (xs.map (Value.int .i64)):=by
 obtain ⟨us,h1,h2,h3,h4⟩:=h
 have:us=xs.map fun x=>[Value.int .i64 x]:=by
  apply List.ext_getElem?
  intro i
  rw [List.getElem?_map]
  by_cases hi:i<xs.length
  ·have hi2:i<us.length:=by omega
   have:=(h4 i us[i] xs[i] (by simp [hi2]) (by simp [hi])).now
   simp only [intC] at this
   simp [hi,hi2,this]
  ·rw [List.getElem?_eq_none (by omega),List.getElem?_eq_none (by omega)];rfl
 rw [this,flatten_one] at h3
 exact h3
def fit9B (n:Int):Bool:=decide (-1000000000≤n) && decide (n≤1000000000)
theorem fit9B_iff (n:Int):fit9B n=true↔-1000000000≤n∧n≤1000000000:=by simp [fit9B]
theorem ownI {w:World} {B:Nat} {v:Value} {l:List Int} (h:OwnR B w v l) (hf:l.all fit9B=true):Ints w v l:=Ints.of_owns h (fun y hy=>by
 have:=(fit9B_iff y).1 (List.all_eq_true.1 hf y hy);omega)
theorem size_abs9 {x : Int} (h : x.natAbs ≤ 1000000000) : (intB x).size ≤ 12 := by
  have h1 := numB_size_le x.natAbs 10 (by have : (10 : Nat) ^ 10 = 10000000000 := by decide
                                          omega) (by decide)
  have h2 := intB_size_le x
  omega
theorem formW_some {n F:Nat} {R Q:List (List Int)} (h:formW n F R=some Q):∃ d,colsO n F n 0 0 R=some (Q,d):=by
 unfold formW at h
 cases hc:colsO n F n 0 0 R with
 | none=>rw [hc] at h;cases h
 | some z =>
  obtain ⟨Q',d⟩:=z
  rw [hc] at h
  obtain rfl:Q'=Q:=Option.some.inj h
  exact ⟨d,rfl⟩
set_option maxRecDepth 100000 in
set_option maxHeartbeats 8000000 in
theorem latM_ok (F F2:Nat) {n k:Nat} {X:List Int} (hn:n<7) (hn1:1≤n) (hR:RightM n k X) (u:Value) (w:World) (h:MultiV w u n k X) (R Q:List (List Int)) (hz:contL X≠0) (hK:kernW F n k X=some R) (hk:R.length=k) (hF:formW n F2 R=some Q) (hfit:∀ r∈Q,r.length=n∧r.all fit9B=true) (hlib:LibT w) (hb:4<w.heap.size) :
  Calls Tryz.prog 36 #[u] w fun e w'=>∃ v,e=.returned (.tuple #[v,.int .i64 0])∧Ext w w'∧Rows2 w' v Q:=by
 have ht:=hlib.pow
 have HCK:Hid (∀ W,Ext w W→Calls Tryz.prog 47 #[u] W fun e w'=>e=.returned (.int .i64 0)∧Ext W w'):=fun W hW=>checkR_any hR u W (h.ext hW)
 have HZO:Hid (∀ W,Ext w W→Calls Tryz.prog 79 #[u] W fun e w'=>e=.returned (.bool false)∧Ext W w'):=fun W hW=>by
  have h9:=zeroM_any hR.dig u W (h.ext hW) (ht.ext hW)
  rw [decide_eq_false hz] at h9;exact h9
 have HKR:Hid (∀ W,Ext w W→Calls Tryz.prog 80 #[u] W fun e w'=>∃ v,e=.returned v∧ResW w' W.heap.size v R∧Ext W w'):=fun W hW=>kernelM_any F hn hn1 hR u W (h.ext hW) R hK (ht.ext hW) (Nat.lt_of_lt_of_le hb hW.size)
 obtain ⟨dF,hcF⟩:=formW_some hF
 have HCF:=Lib.hid hcF
 have hkn:=hR.kn
 obtain ⟨r,rfl,hr⟩:=h
 obtain ⟨a,c,rfl,-⟩:=ListAt.open hr
 obtain ⟨mx,hmx⟩:∃ m,X.length=m:=⟨_,rfl⟩
 rw [hmx] at HCK HZO HKR ⊢
 obtain ⟨w1,hw1,hE1,hs1,hb1⟩:=boxM w (.int .i64 n) (.int .i64 k) (.slice a mx c)
 have HE1:=Lib.hid hE1
 have HB1:=Lib.hid hb1
 have k1:=block_cell hb1
 have HRK:=Lib.hid hk
 have HLIB:=Lib.hid hlib;have HPB:=Lib.hid hb;have HFIT:=Lib.hid hfit
 clear hb1 hE1 hr hs1 hmx ht hb hK hR hcF hlib hfit hF hz hk
 go_enter Tryz.func36,Tryz.ntmps36
 go_wp2_with fail
 refine (HCK.out w1 HE1.out).mono ?_
 rintro e w2 ⟨rfl,h2⟩
 have HE2:Hid (Ext w w2):=HE1.out.trans h2
 have HB2:=Lib.hid (block_ext HB1.out h2)
 have k2:=block_cell HB2.out
 clear h2 HCK k1 hw1
 go_wp2_with fail
 refine (HZO.out w2 HE2.out).mono ?_
 rintro e w3 ⟨rfl,h3⟩
 have HE3:Hid (Ext w w3):=HE2.out.trans h3
 have HB3:=Lib.hid (block_ext HB2.out h3)
 have k3:=block_cell HB3.out
 clear h3 HZO k2
 go_wp2_with fail
 refine (HKR.out w3 HE3.out).mono ?_
 rintro e w4 ⟨v4,rfl,hRW,h4⟩
 have HE4:Hid (Ext w w4):=HE3.out.trans h4
 have HB4:=Lib.hid (block_ext HB3.out h4)
 have k4:=block_cell HB4.out
 obtain ⟨a4,c4,rfl,r1,r2,r3⟩:=hRW
 have HS34:Hid (w.heap.size≤w3.heap.size∧w3.heap.size≤w4.heap.size):=⟨HE3.out.size,h4.size⟩
 have hrk:=HRK.out
 have hq0:((R.length:Int) != (k:Int))=false:=by rw [hrk];simp
 rw [hrk] at r1 hq0 ⊢
 clear h4 HKR k3
 have hFRM:Calls Tryz.prog 81 #[.slice a4 k c4,.int .i64 n] w4 fun e w'=>e=.returned (.tuple #[])∧Ext w w'∧∃ tagsF,Hid ((Q=[]∧k=0)∨∃ g,a4=some ⟨g,0,none⟩∧MatB w' g tagsF Q∧Q.length=k):=by
  rcases r3 with rfl | ⟨g,tags,rfl,hM,hbl⟩
  ·have hk0:k=0:=hrk.symm
   have hQ0:Q=[]:=by
    have h9:=HCF.out
    obtain ⟨n',rfl⟩:∃ n',n=n'+1:=⟨n-1,by omega⟩
    unfold colsO at h9
    rw [if_neg (by simp)] at h9
    simp only [Option.some.injEq,Prod.mk.injEq] at h9
    exact h9.1.symm
   rw [hk0]
   exact (formM_nil n c4 a4 w4 (by omega)).mono fun e w' ⟨q1,q2⟩=>⟨q1,HE4.out.trans q2,[],.inl ⟨hQ0,rfl⟩⟩
  ·have hf:=formM_any n F2 R tags g c4 w3.heap.size w4 (Q,dF) hM HCF.out (by rw [hrk];exact r1) r2 (by omega) (HLIB.out.pow.ext HE4.out) (by have:=HPB.out;have:=HS34.out;omega) hbl HS34.out.2
   rw [hrk] at hf
   exact hf.mono fun e w' ⟨tags',q1,q2,q3,q4⟩=>⟨q1,Below.trans HE4.out (Below.mono q4 HS34.out.1),tags',.inr ⟨g,rfl,q2,q3⟩⟩
 have HFRM:=Lib.hid hFRM
 unfold maxLen at r2
 clear hFRM r3 hrk
 go_wp2_with fail
 refine HFRM.out.mono ?_
 rintro e w5 ⟨rfl,h5,tagsF,HQ⟩
 have HE5:=Lib.hid h5
 have HQL:Hid (Q.length=k):=by
  rcases HQ.out with ⟨h1,h2⟩ | ⟨g,-,-,h3⟩
  ·unfold Hid;rw [h1,h2];rfl
  ·exact h3
 clear h5 HFRM k4
 go_wp2_with fail
 go_loopw [6,34] (fun o t wr=>∃ (i:Nat) (v0:Value),i≤k∧o=v0∧t=.int .i64 (i:Int)∧Hid (Ext w5 wr)∧Hid (Build wr w5.heap.size 27 1 v0 rowR (Q.take i))) (fun _ t _=>k+1-(intOf t).toNat)
 case atStart=>exact ⟨0,_,by omega,rfl,by simp,Ext.refl _,Build.nil _ _ _ _ _⟩
 case round =>
  obtain ⟨i,vo,hi,hv,rfl,HX,HBU⟩:=hrel
  obtain rfl:=hv.symm
  obtain ⟨wo,rfl⟩:∃ wo:World,wo=wr:=⟨_,rfl⟩
  by_cases hlt:i<k
  ·obtain ⟨g,hg,hM,-⟩:∃ g,a4=some ⟨g,0,none⟩∧MatB w5 g tagsF Q∧Q.length=k:=by
    rcases HQ.out with ⟨-,h2⟩ | h3
    ·omega
    ·exact h3
   obtain ⟨t,ht,c1,c2,c3,c5,-⟩:=hM.get i (by rw [HQL.out];exact hlt)
   obtain ⟨hrn,hrf⟩:=HFIT.out (rowE_ Q i) (List.mem_of_getElem? (rowE_get (by rw [HQL.out];exact hlt)))
   have HN:Hid (Q.take (i+1)=Q.take i++[rowE_ Q i]):=by
    unfold Hid;rw [List.take_add_one,rowE_get (by rw [HQL.out];exact hlt)];rfl
   obtain ⟨q,hq⟩:∃ q,rowE_ Q i=q:=⟨_,rfl⟩
   rw [hq] at c1 c2 c5 hrn hrf HN
   rw [hrn] at c1 c2
   have g1:=HX.out.cell c1
   have HC5:=Lib.hid c5;have HRN:=Lib.hid hrn;have HRF:=Lib.hid hrf
   obtain ⟨bt,ot,ct⟩:=t
   simp only at g1 c2 c3
   unfold maxLen at c3
   subst hg
   obtain ⟨wn,hwn⟩:∃ wn,wo.alloc (.cells #[] 3)=wn:=⟨_,rfl⟩
   have HO:Hid (OwnR wo.heap.size wn (.slice (some ⟨wo.heap.size,0,none⟩) 0 0) []):=by rw [← hwn];exact World.ownsRow_made wo #[] 0 (Nat.le_refl _) (Nat.zero_le _) rfl
   have HEn:Hid (Ext wo wn):=by rw [← hwn];exact Ext.alloc _ _
   clear hM ht c1 c5 hq hrn hrf
   go_wp2_with fail
   go_loopw [9,41] (fun o t wr=>∃ (j:Nat) (v0:Value),j≤n∧o=v0∧t=.int .i64 (j:Int)∧Hid (Ext wo wr)∧Hid (OwnR wo.heap.size wr v0 (q.take j))) (fun _ t _=>n+1-(intOf t).toNat)
   case atStart=>exact ⟨0,_,by omega,rfl,by simp,HEn.out,HO.out⟩
   case round =>
    obtain ⟨j,v9,hj,hv9,rfl,HY,HO9⟩:=hrel
    obtain rfl:=hv9.symm
    obtain ⟨wp,rfl⟩:∃ wp:World,wp=wr:=⟨_,rfl⟩
    by_cases hjl:j<n
    ·obtain ⟨x,hx⟩:∃ x,q[j]?=some x:=⟨q[j]'(by rw [HRN.out];exact hjl),List.getElem?_eq_getElem _⟩
     have g2:=HY.out.cell (HX.out.cell (HC5.out.cell j x hx))
     have hxf:=List.all_eq_true.1 HRF.out x (List.mem_of_getElem? hx)
     obtain ⟨f1,f2⟩:=(fit9B_iff x).1 hxf
     have hfi:fitI x:=⟨by omega,by omega⟩
     have hsz:(intB x).size≤20:=by
      have h9:=size_abs9 (x:=x) (by omega);omega
     have hSM:=smallG_any x wp (by omega) (HLIB.out.ext (HE5.out.trans (HX.out.trans HY.out)))
     rw [show smV x=x by unfold smV;rw [if_pos hfi],show decide (fitI x)=true from decide_eq_true hfi] at hSM
     have HSM:=Lib.hid hSM
     have HNX:Hid (q.take (j+1)=q.take j++[x]):=by unfold Hid;rw [List.take_add_one,hx];rfl
     have HLJ:Hid ((q.take j).length<1000000):=by unfold Hid;rw [List.length_take];omega
     have f3:¬ (1000000000:Int)<x:=by omega
     have f4:¬ x<(-1000000000:Int):=by omega
     clear hx hxf hfi hsz hSM f1 f2
     go_wp2_with fail
     refine HSM.out.mono ?_
     rintro e w6 ⟨rfl,h6⟩
     have HY6:Hid (Ext wo w6):=HY.out.trans h6
     have HO6:Hid (OwnR wo.heap.size w6 v9 (q.take j)):=owns_ext HO9.out h6
     have HS6:Hid (wo.heap.size≤w6.heap.size):=HY6.out.size
     clear h6 HSM
     go_wp2_with (at_builtin;go_must (refine wpList_append_one rfl w6 _ _ _ Tryz.underlying27 rfl wo.heap.size v9 (q.take j) x _ _ rfl HO6.out rfl rfl ?c2 HS6.out ?_))
     case c2=>have:=HLJ.out;omega
     intro v2 w7 hO7 hB7
     rw [← HNX.out] at hO7
     have HO7:=Lib.hid hO7
     have HY7:Hid (Ext wo w7):=Below.trans HY6.out hB7
     clear hO7 hB7
     go_wp2_with fail
     go_roundw
     case rel=>exact ⟨j+1,v2,by omega,rfl,by go_num,HY7.out,HO7.out⟩
     case measure=>simp [intOf];omega
    ·obtain rfl:j=n:=by omega
     have hO:=HO9.out
     rw [List.take_of_length_le (by rw [HRN.out];exact Nat.le_refl _)] at hO
     have HO4:=Lib.hid hO
     obtain ⟨g4,c4',hv4⟩:∃ g4 c4,v9=.slice g4 q.length c4:=by
      obtain ⟨a9,c9,h9,-⟩:=ListAt.open (ownI hO HRF.out);exact ⟨a9,c9,h9⟩
     subst hv4
     have HE6:Hid (Ext w5 wp):=HX.out.trans HY.out
     have HB4':=Lib.hid (HBU.out.ext HY.out)
     have HSZ:Hid (w5.heap.size≤wp.heap.size):=HE6.out.size
     have HSW:Hid (∀ z,vo.ownBlock=some z→z<wo.heap.size):=fun z hz=>(HBU.out.lt z hz).2
     have HSF:Hid (Safe wp vo.ownBlock fun W=>rowR W [Value.slice g4 q.length c4'] q):=by
      refine Safe.mono (Safe.owns hO ?_) fun W hW=>⟨_,rfl,ownI (B:=wo.heap.size) hW HRF.out⟩
      by_cases hn:(Value.slice g4 q.length c4').ownBlock=none
      ·exact .inl hn
      ·refine .inr fun e=>?_
       obtain ⟨z,hz⟩:=Option.ne_none_iff_exists'.1 hn
       have h1:=(hO.lt z hz).1
       have h2:=HSW.out z (e▸hz)
       omega
     have HLL:Hid ((Q.take i).length<1000000):=by unfold Hid;rw [List.length_take];omega
     clear hO HO9 HBU
     go_wp2_with (at_builtin;go_must (refine wpList_append_build _ rfl _ _ 23 rfl w5.heap.size 27 (.slice none 0 0) 1 24 Tryz.underlying23 infoRowT rfl (by decide) vo rowR (Q.take i) q #[_] 27 rfl HB4'.out rfl rfl ?e1 HSF.out HLL.out ?e3 HSZ.out ?_))
     case e1=>simp [Value.oneCell']
     case e3=>omega
     intro v5 w7 hB5 hg5 hb5 hs5 _
     have HE7:Hid (Ext w5 w7):=Below.trans HE6.out hb5
     rw [← HN.out] at hB5
     have HB5:=Lib.hid hB5
     clear hB5 hg5 hb5 hs5
     go_wp2_with fail
     go_roundw
     case rel=>exact ⟨i+1,v5,by omega,rfl,by go_num,HE7.out,HB5.out⟩
     case measure=>simp [intOf];omega
  ·obtain rfl:i=k:=by omega
   have HF:=Lib.hid HBU.out.list
   rw [List.take_of_length_le (by rw [HQL.out];exact Nat.le_refl _)] at HF
   have HE9:Hid (Ext w wo):=HE5.out.trans HX.out
   clear HBU
   go_wp2_with fail
   go_ret2
   exact ⟨_,rfl,HE9.out,HF.out⟩
set_option maxRecDepth 100000 in
set_option maxHeartbeats 2000000 in
theorem decompM_any (F:Nat) {n k:Nat} {X:List Int} (hn:n<7) (hn1:1≤n) (hR:RightM n k X) (u:Value) (w:World) (h:MultiV w u n k X) (R:List (List Int)) (hK:kernW F n k X=some R) (ht:Pow10 w) (hb:4<w.heap.size) :
  Calls Tryz.prog 35 #[u] w fun e w'=>e=.returned (.tuple #[.bool (decide (contL X=0) || decide (R.length=k)),.int .i64 0])∧Ext w w':=by
 have HCK:Hid (∀ W,Ext w W→Calls Tryz.prog 47 #[u] W fun e w'=>e=.returned (.int .i64 0)∧Ext W w'):=fun W hW=>checkR_any hR u W (h.ext hW)
 have HZO:Hid (∀ W,Ext w W→Calls Tryz.prog 79 #[u] W fun e w'=>e=.returned (.bool (decide (contL X=0)))∧Ext W w'):=fun W hW=>zeroM_any hR.dig u W (h.ext hW) (ht.ext hW)
 have HKR:Hid (∀ W,Ext w W→Calls Tryz.prog 80 #[u] W fun e w'=>∃ a4 c4,e=.returned (.slice a4 R.length c4)∧Ext W w'):=fun W hW=>(kernelM_any F hn hn1 hR u W (h.ext hW) R hK (ht.ext hW) (Nat.lt_of_lt_of_le hb hW.size)).mono fun e w' ⟨v,h1,h2,h3⟩=>by
  obtain ⟨a4,c4,rfl,-⟩:=h2
  exact ⟨a4,c4,h1,h3⟩
 obtain ⟨r,rfl,hr⟩:=h
 obtain ⟨a,c,rfl,-⟩:=ListAt.open hr
 obtain ⟨mx,hmx⟩:∃ m,X.length=m:=⟨_,rfl⟩
 rw [hmx] at HCK HZO HKR ⊢
 obtain ⟨w1,hw1,hE1,hs1,hb1⟩:=boxM w (.int .i64 n) (.int .i64 k) (.slice a mx c)
 have HE1:=Lib.hid hE1
 have HB1:=Lib.hid hb1
 have k1:=block_cell hb1
 obtain ⟨lr,hlr⟩:∃ l,R.length=l:=⟨_,rfl⟩
 rw [hlr] at HKR ⊢
 have hbb:((lr:Int) == (k:Int))=decide (lr=k):=by
  by_cases e:lr=k
  ·subst e;simp
  ·rw [decide_eq_false e];exact beq_eq_false_iff_ne.2 (by omega)
 obtain ⟨b2,hb2⟩:∃ b,decide (lr=k)=b:=⟨_,rfl⟩
 obtain ⟨b1,hb1'⟩:∃ b,decide (contL X=0)=b:=⟨_,rfl⟩
 rw [hb1'] at HZO ⊢
 rw [hb2] at hbb ⊢
 clear hb1 hE1 hr hs1 hmx hlr hb2 hb1' ht hb hK hR
 go_enter Tryz.func35,Tryz.ntmps35
 go_wp2_with fail
 refine (HCK.out w1 HE1.out).mono ?_
 rintro e w2 ⟨rfl,h2⟩
 have HE2:Hid (Ext w w2):=HE1.out.trans h2
 have hb2:=block_ext HB1.out h2
 have d0:=block_cell hb2 0;have d1:=block_cell hb2 1;have d2:=block_cell hb2 2
 simp only [List.getElem?_toArray,List.getElem?_cons_succ,List.getElem?_cons_zero] at d0 d1 d2
 clear h2 HCK k1 hw1 hb2
 go_upto_region 4 with fail
 cases b1 with
 | true =>
  refine region_anyEV (fun w'=>w'.cell? ⟨w.heap.size,0,none⟩=some (.int .i64 n)∧w'.cell? ⟨w.heap.size,1,none⟩=some (.int .i64 k)∧w'.cell? ⟨w.heap.size,2,none⟩=some (.slice a mx c)∧Hid (Ext w2 w')) 12 12 (by kernel_rfl) (by kernel_rfl) ⟨(Ext.drew w2).cell d0,(Ext.drew w2).cell d1,(Ext.drew w2).cell d2,Ext.drew w2⟩ (fun ops hO hHeld=>?_)
  have hi:=getopN hO 0 (by decide)
  conv at hi=>rhs;arg 1;whnf
  refine anyE_takeV hO (v:=?_) 0 hi (by kernel_rfl) (by kernel_rfl) (by kernel_rfl) (by kernel_rfl) (fun _ _ _ h=>h) (Or.inl ⟨by rfl,?_⟩) (by assumption) ?_
  rotate_left
  ·((intro w' hSw);(try dsimp only at hSw);(try go_simp);(try with_reducible rfl))
  clear hi
  (try simp only [Act.put,List.setIfInBounds_toArray,List.set_cons_zero,List.set_cons_succ])
  have hi:=getopN hO 1 (by decide)
  conv at hi=>rhs;arg 1;whnf
  refine anyE_stepV hO 1 (by kernel_rfl) hi (fun K hK=>?_)
  go_simp
  (go_at_call 79;refine (HZO.out _ (HE2.out.trans hHeld.2.2.2.out)).mono ?_)
  rintro e wz ⟨rfl,hEz⟩
  go_wp2_with fail
  refine hK.out _ _ ⟨(hEz).cell hHeld.1,(hEz).cell hHeld.2.1,(hEz).cell hHeld.2.2.1,Ext.trans hHeld.2.2.2.out (hEz)⟩ (fun hHeld=>?_)
  clear hK K hi
  (try simp only [Act.put,List.setIfInBounds_toArray,List.set_cons_zero,List.set_cons_succ])
  have hi:=getopN hO 2 (by decide)
  conv at hi=>rhs;arg 1;whnf
  refine anyE_takeWV hO (v:=?_) 2 hi (by kernel_rfl) (by kernel_rfl) (by kernel_rfl) (by kernel_rfl) (fun _ _ _ h=>h) (Or.inl ⟨by rfl,?_⟩) (by assumption) ?_
  rotate_left
  ·((intro w');(try go_simp);(try with_reducible rfl))
  clear hi
  (try simp only [Act.put,List.setIfInBounds_toArray,List.set_cons_zero,List.set_cons_succ])
  have hi:=getopN hO 3 (by decide)
  conv at hi=>rhs;arg 1;whnf
  refine anyE_takeWV hO (v:=undef) 3 hi (by kernel_rfl) (by kernel_rfl) (by kernel_rfl) (by kernel_rfl) (fun _ _ _ h=>h) (Or.inr ⟨by rfl,rfl⟩) (by assumption) ?_
  clear hi
  (try simp only [Act.put,List.setIfInBounds_toArray,List.set_cons_zero,List.set_cons_succ])
  have hi:=getopN hO 4 (by decide)
  conv at hi=>rhs;arg 1;whnf
  refine anyE_takeWV hO (v:=undef) 4 hi (by kernel_rfl) (by kernel_rfl) (by kernel_rfl) (by kernel_rfl) (fun _ _ _ h=>h) (Or.inr ⟨by rfl,rfl⟩) (by assumption) ?_
  clear hi
  (try simp only [Act.put,List.setIfInBounds_toArray,List.set_cons_zero,List.set_cons_succ])
  have hi:=getopN hO 5 (by decide)
  conv at hi=>rhs;arg 1;whnf
  refine anyE_takeWV hO (v:=undef) 5 hi (by kernel_rfl) (by kernel_rfl) (by kernel_rfl) (by kernel_rfl) (fun _ _ _ h=>h) (Or.inr ⟨by rfl,rfl⟩) (by assumption) ?_
  clear hi
  (try simp only [Act.put,List.setIfInBounds_toArray,List.set_cons_zero,List.set_cons_succ])
  have hi:=getopN hO 6 (by decide)
  conv at hi=>rhs;arg 1;whnf
  refine anyE_takeWV hO (v:=undef) 6 hi (by kernel_rfl) (by kernel_rfl) (by kernel_rfl) (by kernel_rfl) (fun _ _ _ h=>h) (Or.inr ⟨by rfl,rfl⟩) (by assumption) ?_
  clear hi
  (try simp only [Act.put,List.setIfInBounds_toArray,List.set_cons_zero,List.set_cons_succ])
  have hi:=getopN hO 7 (by decide)
  conv at hi=>rhs;arg 1;whnf
  refine anyE_takeWV hO (v:=undef) 7 hi (by kernel_rfl) (by kernel_rfl) (by kernel_rfl) (by kernel_rfl) (fun _ _ _ h=>h) (Or.inr ⟨by rfl,rfl⟩) (by assumption) ?_
  clear hi
  (try simp only [Act.put,List.setIfInBounds_toArray,List.set_cons_zero,List.set_cons_succ])
  have hi:=getopN hO 8 (by decide)
  conv at hi=>rhs;arg 1;whnf
  refine anyE_takeWV hO (v:=undef) 8 hi (by kernel_rfl) (by kernel_rfl) (by kernel_rfl) (by kernel_rfl) (fun _ _ _ h=>h) (Or.inr ⟨by rfl,rfl⟩) (by assumption) ?_
  clear hi
  (try simp only [Act.put,List.setIfInBounds_toArray,List.set_cons_zero,List.set_cons_succ])
  have hi:=getopN hO 9 (by decide)
  conv at hi=>rhs;arg 1;whnf
  refine anyE_takeWV hO (v:=?_) 9 hi (by kernel_rfl) (by kernel_rfl) (by kernel_rfl) (by kernel_rfl) (fun _ _ _ h=>h) (Or.inl ⟨by rfl,?_⟩) (by assumption) ?_
  rotate_left
  ·((intro w');(try go_simp);(try with_reducible rfl))
  clear hi
  (try simp only [Act.put,List.setIfInBounds_toArray,List.set_cons_zero,List.set_cons_succ])
  have hi:=getopN hO 10 (by decide)
  conv at hi=>rhs;arg 1;whnf
  refine anyE_takeWV hO (v:=?_) 10 hi (by kernel_rfl) (by kernel_rfl) (by kernel_rfl) (by kernel_rfl) (fun _ _ _ h=>h) (Or.inl ⟨by rfl,?_⟩) (by assumption) ?_
  rotate_left
  ·((intro w');(try go_simp);(try with_reducible rfl))
  clear hi
  (try simp only [Act.put,List.setIfInBounds_toArray,List.set_cons_zero,List.set_cons_succ])
  have z4:Hid (Ext w2 _):=hHeld.2.2.2
  have hi:=getopN hO 11 (by decide)
  conv at hi=>rhs;arg 1;whnf
  refine anyE_lastV hO 11 (by kernel_rfl) (by kernel_rfl) hi (fun K hK=>?_)
  go_simp
  refine hK.out _ _ (by assumption) ?_
  clear hK K hi hO
  (try simp only [Act.put,List.setIfInBounds_toArray,List.set_cons_zero,List.set_cons_succ])
  go_wp2_with fail
  go_ret2
  exact ⟨rfl,HE2.out.trans z4.out⟩
 | false =>
  refine region_anyEV (fun w'=>w'.cell? ⟨w.heap.size,0,none⟩=some (.int .i64 n)∧w'.cell? ⟨w.heap.size,1,none⟩=some (.int .i64 k)∧w'.cell? ⟨w.heap.size,2,none⟩=some (.slice a mx c)∧Hid (Ext w2 w')) 12 12 (by kernel_rfl) (by kernel_rfl) ⟨(Ext.drew w2).cell d0,(Ext.drew w2).cell d1,(Ext.drew w2).cell d2,Ext.drew w2⟩ (fun ops hO hHeld=>?_)
  have hi:=getopN hO 0 (by decide)
  conv at hi=>rhs;arg 1;whnf
  refine anyE_takeV hO (v:=?_) 0 hi (by kernel_rfl) (by kernel_rfl) (by kernel_rfl) (by kernel_rfl) (fun _ _ _ h=>h) (Or.inl ⟨by rfl,?_⟩) (by assumption) ?_
  rotate_left
  ·((intro w' hSw);(try dsimp only at hSw);(try go_simp);(try with_reducible rfl))
  clear hi
  (try simp only [Act.put,List.setIfInBounds_toArray,List.set_cons_zero,List.set_cons_succ])
  have hi:=getopN hO 1 (by decide)
  conv at hi=>rhs;arg 1;whnf
  refine anyE_stepV hO 1 (by kernel_rfl) hi (fun K hK=>?_)
  go_simp
  (go_at_call 79;refine (HZO.out _ (HE2.out.trans hHeld.2.2.2.out)).mono ?_)
  rintro e wz ⟨rfl,hEz⟩
  go_wp2_with fail
  refine hK.out _ _ ⟨(hEz).cell hHeld.1,(hEz).cell hHeld.2.1,(hEz).cell hHeld.2.2.1,Ext.trans hHeld.2.2.2.out (hEz)⟩ (fun hHeld=>?_)
  clear hK K hi
  (try simp only [Act.put,List.setIfInBounds_toArray,List.set_cons_zero,List.set_cons_succ])
  have hi:=getopN hO 2 (by decide)
  conv at hi=>rhs;arg 1;whnf
  refine anyE_takeWV hO (v:=?_) 2 hi (by kernel_rfl) (by kernel_rfl) (by kernel_rfl) (by kernel_rfl) (fun _ _ _ h=>h) (Or.inl ⟨by rfl,?_⟩) (by assumption) ?_
  rotate_left
  ·((intro w');(try go_simp);(try with_reducible rfl))
  clear hi
  (try simp only [Act.put,List.setIfInBounds_toArray,List.set_cons_zero,List.set_cons_succ])
  have hi:=getopN hO 3 (by decide)
  conv at hi=>rhs;arg 1;whnf
  refine anyE_takeV hO (v:=?_) 3 hi (by kernel_rfl) (by kernel_rfl) (by kernel_rfl) (by kernel_rfl) (fun _ _ _ h=>h) (Or.inl ⟨by rfl,?_⟩) (by assumption) ?_
  rotate_left
  ·((intro w' hSw);(try dsimp only at hSw);(try go_simp);(try with_reducible rfl))
  clear hi
  (try simp only [Act.put,List.setIfInBounds_toArray,List.set_cons_zero,List.set_cons_succ])
  have hi:=getopN hO 6 (by decide)
  conv at hi=>rhs;arg 1;whnf
  refine anyE_takeWV hO (v:=?_) 6 hi (by kernel_rfl) (by kernel_rfl) (by kernel_rfl) (by kernel_rfl) (fun _ _ _ h=>h) (Or.inl ⟨by rfl,?_⟩) (by assumption) ?_
  rotate_left
  ·((intro w');(try go_simp);(try with_reducible rfl))
  clear hi
  (try simp only [Act.put,List.setIfInBounds_toArray,List.set_cons_zero,List.set_cons_succ])
  have hi:=getopN hO 7 (by decide)
  conv at hi=>rhs;arg 1;whnf
  refine anyE_takeV hO (v:=?_) 7 hi (by kernel_rfl) (by kernel_rfl) (by kernel_rfl) (by kernel_rfl) (fun _ _ _ h=>h) (Or.inl ⟨by rfl,?_⟩) (by assumption) ?_
  rotate_left
  ·((intro w' hSw);(try dsimp only at hSw);(try go_simp);(try with_reducible rfl))
  clear hi
  (try simp only [Act.put,List.setIfInBounds_toArray,List.set_cons_zero,List.set_cons_succ])
  have hi:=getopN hO 4 (by decide)
  conv at hi=>rhs;arg 1;whnf
  refine anyE_stepV hO 4 (by kernel_rfl) hi (fun K hK=>?_)
  go_simp
  (go_at_call 80;refine (HKR.out _ (HE2.out.trans hHeld.2.2.2.out)).mono ?_)
  rintro e wy ⟨a6,c6,rfl,hEz⟩
  go_wp2_with fail
  refine hK.out _ _ ⟨(hEz).cell hHeld.1,(hEz).cell hHeld.2.1,(hEz).cell hHeld.2.2.1,Ext.trans hHeld.2.2.2.out (hEz)⟩ (fun hHeld=>?_)
  clear hK K hi
  (try simp only [Act.put,List.setIfInBounds_toArray,List.set_cons_zero,List.set_cons_succ])
  have hi:=getopN hO 5 (by decide)
  conv at hi=>rhs;arg 1;whnf
  refine anyE_takeWV hO (v:=?_) 5 hi (by kernel_rfl) (by kernel_rfl) (by kernel_rfl) (by kernel_rfl) (fun _ _ _ h=>h) (Or.inl ⟨by rfl,?_⟩) (by assumption) ?_
  rotate_left
  ·((intro w');(try go_simp);(try with_reducible rfl))
  clear hi
  (try simp only [Act.put,List.setIfInBounds_toArray,List.set_cons_zero,List.set_cons_succ])
  have hi:=getopN hO 8 (by decide)
  conv at hi=>rhs;arg 1;whnf
  refine anyE_takeWV hO (v:=?_) 8 hi (by kernel_rfl) (by kernel_rfl) (by kernel_rfl) (by kernel_rfl) (fun _ _ _ h=>h) (Or.inl ⟨by rfl,?_⟩) (by assumption) ?_
  rotate_left
  ·((intro w');(try go_simp);(try with_reducible rfl))
  clear hi
  (try simp only [Act.put,List.setIfInBounds_toArray,List.set_cons_zero,List.set_cons_succ])
  have hi:=getopN hO 9 (by decide)
  conv at hi=>rhs;arg 1;whnf
  refine anyE_takeWV hO (v:=?_) 9 hi (by kernel_rfl) (by kernel_rfl) (by kernel_rfl) (by kernel_rfl) (fun _ _ _ h=>h) (Or.inl ⟨by rfl,?_⟩) (by assumption) ?_
  rotate_left
  ·((intro w');(try go_simp);(try with_reducible rfl))
  clear hi
  (try simp only [Act.put,List.setIfInBounds_toArray,List.set_cons_zero,List.set_cons_succ])
  have hi:=getopN hO 10 (by decide)
  conv at hi=>rhs;arg 1;whnf
  refine anyE_takeWV hO (v:=?_) 10 hi (by kernel_rfl) (by kernel_rfl) (by kernel_rfl) (by kernel_rfl) (fun _ _ _ h=>h) (Or.inl ⟨by rfl,?_⟩) (by assumption) ?_
  rotate_left
  ·((intro w');(try go_simp);(try with_reducible rfl))
  clear hi
  (try simp only [Act.put,List.setIfInBounds_toArray,List.set_cons_zero,List.set_cons_succ])
  have z4:Hid (Ext w2 _):=hHeld.2.2.2
  have hi:=getopN hO 11 (by decide)
  conv at hi=>rhs;arg 1;whnf
  refine anyE_lastV hO 11 (by kernel_rfl) (by kernel_rfl) hi (fun K hK=>?_)
  go_simp
  refine hK.out _ _ (by assumption) ?_
  clear hK K hi hO
  (try simp only [Act.put,List.setIfInBounds_toArray,List.set_cons_zero,List.set_cons_succ])
  go_wp2_with fail
  go_ret2
  refine ⟨?_,HE2.out.trans z4.out⟩
  first | rfl | (rw [← hbb];rfl) | (simp [hbb])
end Go.Proofs.YtjlkkofmojgipaaGreatDoor
