import Derived.KernelRfl
import Derived.Test.YtjlkkofmojgipaaGreatDoorXAK
import Derived.Test.YtjlkkofmojgipaaGreatDoorXAD
import Derived.Deep.RegionHeld3
import Derived.Test.YtjlkkofmojgipaaGreatDoorXAF
import Derived.Test.YtjlkkofmojgipaaGreatDoorXAE
import Derived.Lib.SliceRun
import Derived.WalkSpells
import Derived.Laws.AppendOwnNone
import Derived.Shelf.Spec.TrailingZeros
import Derived.Lib.LaidTab
import Derived.WalkSmall
import Derived.Maps.OwnOps
import Derived.Maps.Views
import Derived.WalkKit
import Derived.Test.YtjlkkofmojgipaaGreatDoorXAH
import Derived.Test.YtjlkkofmojgipaaGreatDoorXAA
import Derived.Laws.BitsAllLaws
import Derived.Test.YtjlkkofmojgipaaGreatDoorXAB
set_option linter.unusedVariables false
set_option linter.unusedSimpArgs false
set_option maxRecDepth 1000000
set_option maxHeartbeats 4000000
namespace Go.Proofs.YtjlkkofmojgipaaGreatDoor
open Go.RowKit Go.Maps Go.Proofs.Tryz
def mz (l:List UInt8):Int:=if fM l=true/\l.length<=400 then 0 else 2
theorem t3_ (m:ByteArray) (w:World) (hm:m.size<=100000) :
  oW 148 #[.string m] w (.int .i64 (mz m.data.toList)):=by
 have HC:=n8 (A2_ m w hm);have HL:Hid (m.data.toList.length=m.size):=(Lib.size_eq m).symm;by_cases h:fM m.data.toList=true
 ·rw [h] at HC;by_cases h4:400<m.size
  ·have HV:Hid (mz m.data.toList=2):=if_neg (by rw [HL.out];omega);have q1:400<(m.size:Int):=by omega
   go_enter func148,ntmps148
   go_wp2_with fail;refine HC.mono ?_;rintro e w2 ⟨rfl,oY⟩;have HE2:=n8 oY;clear oY HC;go_wp2_with fail;go_ret;exact ⟨by rw [HV.out];rfl,HE2⟩
  ·have HV:Hid (mz m.data.toList=0):=if_pos ⟨h,by rw [HL.out];omega⟩;have q1:¬ 400<(m.size:Int):=by omega
   go_enter func148,ntmps148
   go_wp2_with fail;refine HC.mono ?_;rintro e w2 ⟨rfl,oY⟩;have HE2:=n8 oY;clear oY HC;go_wp2_with fail;go_ret;exact ⟨by rw [HV.out];rfl,HE2⟩
 ·have hf:fM m.data.toList=false:=by simpa using h
  rw [hf] at HC;have HV:Hid (mz m.data.toList=2):=if_neg (fun e=>h e.1)
  go_enter func148,ntmps148
  go_wp2_with fail;refine HC.mono ?_;rintro e w2 ⟨rfl,oY⟩;have HE2:=n8 oY;clear oY HC;go_wp2_with fail;go_ret;exact ⟨by rw [HV.out];rfl,HE2⟩
theorem a1_ (n:Nat):fM (aE n).data.toList=true:=by
 obtain ⟨h1,-,h3,h4⟩:=my (n+1) n (by omega);have e:(aE n).data.toList=Lib.decDigits n:=by rw [<- Lib.toList_data,jV]
 unfold fM;rw [e,h1,Bool.true_and];by_cases h0:n=0
 ·subst h0;have:Lib.decDigits 0=[48]:=by rw [Lib.decDigits_one (by omega)];rfl
  rw [this];rfl
 ·have h5:(Lib.decDigits n).head?≠some 48:=fun h=>h0 (h4 h);have h6:=List.length_pos_iff.2 h3;rw [oS h5,Bool.and_true];by_cases h7:(Lib.decDigits n).length=1
  ·rw [oS h7];rfl
  ·rw [oS (show 1<(Lib.decDigits n).length by omega),Bool.or_true]
theorem F1_ (x:Int) (w:World) (hx:(aE x.natAbs).size<=400) :
  oW 96 #[.string (aD x)] w (.int .i64 0):=by
 have HS:=n8 (kY x w);have HC:Hid (∀ W,oW 148 #[.string (aE x.natAbs)] W (.int .i64 0)):=fun W=>by
  have h:=t3_ (aE x.natAbs) W (by omega);have hv:mz (aE x.natAbs).data.toList=0:=if_pos ⟨a1_ _,by rw [<- Lib.size_eq];exact hx⟩;rw [hv] at h;exact h
 by_cases hn:x<0
 ·have hz:((aE x.natAbs).toList == [48])=false:=by
   rw [jV,show ([48]:List UInt8)=Lib.decDigits 0 by rw [Lib.decDigits_one (by omega)];rfl,T6_];exact oR (by omega)
  rw [oS hn] at HS;obtain ⟨d,hd⟩:∃ d,aE x.natAbs=d:=⟨_,rfl⟩;rw [hd] at HS HC hz
  go_enter func96,ntmps96
  go_wp2_with fail;refine HS.mono ?_;rintro e w2 ⟨rfl,oY⟩;have HE2:=n8 oY;clear oY HS;go_wp2_with fail;refine (HC w2).mono ?_;rintro e w3 ⟨rfl,oh⟩;have HE3:Hid (aC w w3):=HE2.trans oh;clear oh HC;go_wp2_with fail;go_ret;exact ⟨rfl,HE3⟩
 ·rw [oR hn] at HS;obtain ⟨d,hd⟩:∃ d,aE x.natAbs=d:=⟨_,rfl⟩;rw [hd] at HS HC
  go_enter func96,ntmps96
  go_wp2_with fail;refine HS.mono ?_;rintro e w2 ⟨rfl,oY⟩;have HE2:=n8 oY;clear oY HS;go_wp2_with fail;refine (HC w2).mono ?_;rintro e w3 ⟨rfl,oh⟩;have HE3:Hid (aC w w3):=HE2.trans oh;clear oh HC;go_wp2_with fail;go_ret;exact ⟨rfl,HE3⟩
theorem a2_ (n k:Nat) (X:List Int) (u:Value) (w:World) (h:cL w u n k X) (hn:n<=12) (hk:k<=n) (hl:X.length=(aJ n k).length) (hd:∀ x∈X,(aE x.natAbs).size<=400) :
  oW 47 #[u] w (.int .i64 0):=by
 obtain ⟨r,rfl,hr⟩:=h;obtain ⟨a,c,rfl,h1,h2,-,hc⟩:=bT.open (eP.of_nums hr);unfold maxLen at h2;obtain ⟨w1,o4⟩:∃ w1,w.alloc (.cells #[.int .i64 n,.int .i64 k,.slice a X.length c] 31)=w1:=⟨_,rfl⟩;have hb1:w1.heap[w.heap.size]?=some (.cells #[.int .i64 n,.int .i64 k,.slice a X.length c] 31 (0,0)):=by rw [<- o4];exact ic w _ _
 have hE1:aC w w1:=by rw [<- o4];exact aC.alloc _ _
 have hG:=G4_ n k w1;rw [Z1E hn hk] at hG;have HG:=n8 hG;have HW:Hid (∀ x∈X,∀ W,oW 96 #[.string (aD x)] W (.int .i64 0)):=fun x hx W=>F1_ x W (hd x hx);have HC:=n8 hc;have k1:=aN hb1;have HB:=n8 hb1;have HE1:=n8 hE1;obtain ⟨m,hm⟩:∃ m,(aJ n k).length=m:=⟨_,rfl⟩;rw [hm] at hl;have HL:=n8 hl;have HM:=n8 hm;have HA:Hid (∀ W,Calls prog 60 #[.int .i64 n,.int .i64 k] W fun e w'=>∃ a6 c6,e=.returned (.slice a6 m c6)/\aC W w'):=fun W=>(lg n k hn hk W).mono fun e w' ⟨v,h1,h2,h3⟩=>by
  obtain ⟨a6,c6,rfl,-⟩:=h3.open;rw [hm] at h1;exact ⟨a6,c6,h1,h2⟩
 rw [hl] at k1 h1 HB o4 |-;clear hb1 hE1 hr hc hG hd hl hm
 go_enter func47,ntmps47
 go_wp2_with fail;refine HG.mono ?_;rintro e w2 ⟨rfl,oY⟩;have hb2:=aO HB oY;have d0:=aN hb2 0;have d1:=aN hb2 1;have d2:=aN hb2 2;simp only [oQ,oO,oP] at d0 d1 d2;have HE2:Hid (aC w w2):=HE1.trans oY;clear oY HG k1 o4 hb2;go_wp2_with fail;have z1:w2.drew.cell? ⟨w.heap.size,0,none⟩=some (.int .i64 n):=d0;have z2:w2.drew.cell? ⟨w.heap.size,1,none⟩=some (.int .i64 k):=d1;have z3:w2.drew.cell? ⟨w.heap.size,2,none⟩=some (.slice a m c):=d2;have z4:Hid (aC w w2.drew):=HE2.trans (aC.drew _);clear d0 d1 d2
 go_region_held3 (fun w'=>w'.cell? ⟨w.heap.size,0,none⟩=some (.int .i64 n)/\w'.cell? ⟨w.heap.size,1,none⟩=some (.int .i64 k)/\w'.cell? ⟨w.heap.size,2,none⟩=some (.slice a m c)/\Hid (aC w w'))
  (first | exact ⟨z1,z2,z3,z4⟩ | go_keep)
  (first
   | (go_at_call 60;with_reducible refine (HA.out _).mono ?_;rintro e w6 ⟨a6,c6,rfl,og⟩;have q1:=og.cell (a:=⟨w.heap.size,0,none⟩) (v:=.int .i64 n) (by assumption);have q2:=og.cell (a:=⟨w.heap.size,1,none⟩) (v:=.int .i64 k) (by assumption);have q3:=og.cell (a:=⟨w.heap.size,2,none⟩) (v:=.slice a m c) (by assumption);have q4:=n8 (aC.trans (Hid.out (p:=aC w _) (by assumption)) og);(try clear z1 z2 z3 z4);have z1:=q1;have z2:=q2;have z3:=q3;have z4:=q4;clear og q1 q2 q3 q4))
 all_goals
  go_wp2_with fail;have Z3:=n8 z3;clear z1 z2 z3
  go_loopw [28] (fun t wr=>∃ j:Nat,j<=m/\t=.int .i64 j/\Hid (aC w wr)/\Hid (wr.cell? ⟨w.heap.size,2,none⟩=some (.slice a m c))) (fun t _=>m+1-(intOf t).toNat)
  case atStart=>exact ⟨0,by omega,rfl,z4.out,Z3.out⟩
  case round =>
   obtain ⟨j,hj,rfl,HX,HD⟩:=hrel;by_cases hlt:j<m
   ·obtain ⟨x,hx⟩:∃ x,X[j]?=some x:=⟨_,n9 (by have:=HL.out;omega)⟩;obtain ⟨b,off,rfl,hb,hcell⟩:=HC (by intro e;rw [e] at hx;simp at hx);obtain ⟨z9,e1,g1⟩:=hcell j x hx;obtain rfl:z9=.string (aD x):=e1;have g1:=HX.cell g1;have q1:(j:Int)<(m:Int):=by omega
    have HK:=n8 (HW x (oD hx));clear hcell hx hb;go_wp2_with fail;refine (HK _).mono ?_;rintro e w7 ⟨rfl,h7⟩;have HX7:Hid (aC w w7):=HX.trans h7;have HD7:=n8 (h7.cell HD);clear h7 HK;go_wp2_with fail;go_roundw
    case rel=>exact ⟨j+1,by omega,by go_num,HX7,HD7⟩
    case measure=>simp [intOf];omega
   ·obtain rfl:j=m:=by omega
    go_wp2_with fail;go_ret;exact ⟨rfl,HX⟩
theorem t0_ (X:List Int) {B:Nat} (hB:∀ x∈X,x.natAbs<=B):∀ i,i<=X.length->cM X i<=B
 | 0,_=>by simp [cM]
 | i+1,h=>by
  obtain ⟨x,hx⟩:∃ x,X[i]?=some x:=⟨_,n9 (by omega)⟩;rw [kD hx];have h1:=t0_ X hB i (by omega);have h2:=hB x (oD hx);by_cases h0:cM X i=0
  ·rw [h0,Nat.gcd_zero_left];exact h2
  ·exact oI (Nat.gcd_le_left _ (by omega)) h1
theorem m5_ (X:List Int) (v:Value) (w:World) (h:aI 1 numC w v X) (HG:Hid (∀ i x,X[i]?=some x->∀ W,aC w W->oW 134 #[.string (aD (cM X i:Int)),.string (aD x)] W (.string (aD (cM X (i+1):Int))))) :
  oW 76 #[v] w (.string (aD (az X:Int))):=by
 obtain ⟨a,c,rfl,h1,h2,-,hc⟩:=bT.open (eP.of_nums h);unfold maxLen at h2;have HC:=n8 hc;clear h hc;obtain ⟨m,hm⟩:∃ m,X.length=m:=⟨_,rfl⟩;have HM:=n8 hm;have HL:Hid (az X=cM X m):=by unfold Hid az;rw [hm]
 have HZ:Hid (aD (cM X 0:Int)=⟨#[48]⟩):=by
  unfold Hid;show aD 0=_;decide +kernel
 rw [hm] at h1 |-;clear hm
 go_enter func76,ntmps76
 go_wp2_with fail
 go_loopw [3,8] (fun o t wr=>∃ j:Nat,j<=m/\t=.int .i64 j/\o=.string (aD (cM X j:Int))/\Hid (aC w wr)) (fun _ t _=>m+1-(intOf t).toNat)
 case atStart=>exact ⟨0,by omega,rfl,by rw [HZ.out],aC.refl _⟩
 case round =>
  obtain ⟨j,hj,rfl,rfl,HX⟩:=hrel;by_cases hlt:j<m
  ·obtain ⟨x,hx⟩:∃ x,X[j]?=some x:=⟨_,n9 (by have:=HM.out;omega)⟩;obtain ⟨b,off,rfl,hb,hcell⟩:=HC (by intro e;rw [e] at hx;simp at hx);obtain ⟨z9,e1,g1⟩:=hcell j x hx;obtain rfl:z9=.string (aD x):=e1;have g1:=HX.cell g1;have q1:(j:Int)<(m:Int):=by omega
   have HK:=n8 (HG j x hx wr HX);obtain ⟨s0,hs0⟩:∃ s,aD (cM X j:Int)=s:=⟨_,rfl⟩;obtain ⟨s1,hs1⟩:∃ s,aD (cM X (j+1):Int)=s:=⟨_,rfl⟩;have HS1:=n8 hs1;rw [hs0,hs1] at HK;rw [hs0];clear hcell hx hb hs0 hs1;go_wp2_with fail;refine HK.mono ?_;rintro e w7 ⟨rfl,h7⟩;have HX7:Hid (aC w w7):=HX.trans h7;clear h7 HK;go_wp2_with fail;go_roundw
   case rel=>exact ⟨j+1,by omega,by go_num,by rw [HS1.out],HX7⟩
   case measure=>simp [intOf];omega
  ·obtain rfl:j=m:=by omega
   go_wp2_with fail;go_ret;exact ⟨by rw [HL.out];rfl,HX⟩
theorem K0_ {X:List Int} {B:Nat} (h0:0<B) (hB:∀ x∈X,x.natAbs<B) {i:Nat} (hi:i<=X.length):cM X i<B:=by
 have:=t0_ X (B:=B-1) (fun x hx=>by have:=hB x hx;omega) i hi;omega
def iB (X:List Int):Prop:=∀ x∈X,x.natAbs<10^400
theorem fw {x:Int} (h:x.natAbs<10^400):(aE x.natAbs).size<=400/\(aD x).size<=401:=by
 have h1:=ix x.natAbs 400 h (by decide);have h2:=eK x;exact ⟨h1,by omega⟩
theorem t1_ (X:List Int) (v:Value) (w:World) (h:aI 1 numC w v X) (hd:iB X) (ht:af w) :
  oW 76 #[v] w (.string (aD (az X:Int))):=by
 refine m5_ X v w h fun i x hx W hW=>?_;have h2:((cM X i:Nat):Int).natAbs<10^400:=by
  rw [Int.natAbs_natCast];exact K0_ (Nat.pow_pos (by decide)) hd (Nat.le_of_lt (n_.1 hx).1)
 have h3:=f5_ (cM X i:Int) x W (by have:=(fw h2).2;omega) (by have:=(fw (hd x (oD hx))).2;omega) (ht.ext hW);rw [Int.natAbs_natCast,<- kD hx,<- eb] at h3;exact h3
theorem Z3l {X:List Int} (hd:iB X):az X<10^400:=K0_ (Nat.pow_pos (by decide)) hd (oJ _)
structure eB (n k:Nat) (X:List Int):Prop where
 n12:n<=12
 kn:k<=n
 len:X.length=(aJ n k).length
 dig:iB X
theorem kv {n k:Nat} {X:List Int} (hR:eB n k X) (u:Value) (w:World) (h:cL w u n k X) :
  oW 47 #[u] w (.int .i64 0) :=
 a2_ n k X u w h hR.n12 hR.kn hR.len fun x hx=>(fw (hR.dig x hx)).1
theorem lz (x:Int):((aD x).toList == [48])=decide (x=0):=by
 have h:=f8_ x 0;have e:(aD 0).toList=[48]:=by decide +kernel
 rw [e] at h;exact h
theorem n7 {n k:Nat} {X:List Int} (hd:iB X) (u:Value) (w:World) (h:cL w u n k X) (ht:af w) :
  oW 79 #[u] w (.bool (decide (az X=0))):=by
 obtain ⟨r,rfl,hr⟩:=h;have HN:Hid (∀ W,aC w W->oW 76 #[r] W (.string (aD (az X:Int)))):=fun W hW=>t1_ X r W (aI.ext numC.mono' hr hW) hd (ht.ext hW);obtain ⟨a,c,rfl,-⟩:=aI.open hr;obtain ⟨w1,o4⟩:∃ w1,w.alloc (.cells #[.int .i64 n,.int .i64 k,.slice a X.length c] 31)=w1:=⟨_,rfl⟩;have hb1:w1.heap[w.heap.size]?=some (.cells #[.int .i64 n,.int .i64 k,.slice a X.length c] 31 (0,0)):=by rw [<- o4];exact ic w _ _
 have HE1:Hid (aC w w1):=by rw [<- o4];exact aC.alloc _ _
 have k1:=aN hb1;have hz:=lz (az X:Int);have HD:Hid (decide ((az X:Int)=0)=decide (az X=0)):=by unfold Hid;congr 1;exact propext ⟨fun h=>by omega,fun h=>by omega⟩
 obtain ⟨s,hs⟩:∃ s,aD (az X:Int)=s:=⟨_,rfl⟩;rw [hs] at HN hz;clear hb1 hr hd ht hs
 go_enter func79,ntmps79
 go_wp2_with fail;refine (HN w1 HE1).mono ?_;rintro e w3 ⟨rfl,h3⟩;have HE3:Hid (aC w w3):=HE1.trans h3;clear h3 HN;go_wp2_with fail;go_ret;refine ⟨?_,HE3⟩;rw [<- HD.out]
 first | rfl | (rw [<- hz];rfl)
theorem Z3H:(prog.info? 26).map (fun i=>(i.zero,i.size,i.bytes))=some (some (.slice none 0 0),1,24):=by kernel_rfl
def bV (l:List (List Nat)):List (List Int):=l.map fun S:List Nat=>S.map fun x:Nat=>(x:Int)
theorem u2_ (a b:List (List Nat)):bV (a++b)=bV a++bV b:=by unfold bV;rw [List.map_append]
def fN (S:List Nat) (d:Nat):List (List Nat):=(List.range' (gS S) d).map fun x=>S++[x]
theorem Z1z (S:List Nat) (d:Nat):fN S (d+1)=fN S d++[S++[gS S+d]]:=by
 unfold fN;rw [List.range'_concat,List.map_append];simp
theorem Z05 {n i:Nat} {L:List (List Nat)} {S:List Nat} (h:L[i]?=some S):fO n (L.take (i+1))=fO n (L.take i)++fN S (n-gS S):=by
 unfold fO fN;rw [oG,h];simp
theorem s7_ (n:Nat):∀ l:List (List Nat),(fO n l).length<=l.length*n
 | []=>by simp [fO]
 | S::l=>by
  have h:=s7_ n l;have e:fO n (S::l)=fN S (n-gS S)++fO n l:=by unfold fO fN;rw [List.flatMap_cons]
  rw [e,oU,List.length_cons,Nat.succ_mul];have:(fN S (n-gS S)).length=n-gS S:=by simp [fN]
  omega
theorem Z1C {S:List Nat} {k:Nat} (hk:S.length=k+1):∃ x,S[k]?=some x/\gS S=x+1:=by
 unfold gS;have:S.getLast?=S[k]?:=by rw [List.getLast?_eq_getElem?,hk];rfl
 rw [this];have hx:S[k]?=some (S[k]'(by omega)):=n9 _;exact ⟨_,hx,by rw [hx]⟩
theorem Z3y {S:List Nat} {n:Nat} (h:∀ x∈S,x<n):gS S<=n:=by
 unfold gS;cases e:S.getLast? with
 | none=>exact Nat.zero_le _
 | some x=>exact h x (List.mem_of_getLast? e)
theorem G3_ {o:Oper} {a:Act} {K:Act->World->Prop} {Q:Exit->Act->World->Prop} (s x:Operand)
  (ho:o.op=.call { callee:=.builtin .append,args:=#[s,x],argTypes:=#[26,26] })
  (w:World) (xs:List Int) (v:Value) (h:au w v xs) (hlen:xs.length<=1000000) (hs:a.eval s=.slice (some ⟨w.heap.size,0,none⟩) 0 0) (hx:a.eval x=v)
  (hK:∀ v' w',cS w.heap.size w' v' xs->aC w w'->K (a.put o.dst v') w'):o.wp prog a (w.alloc (.cells #[] 3)) K Q:=by
 obtain ⟨ad,c,rfl,h1,h2,h3,hb,hc⟩:=h.open;obtain ⟨i0,hi,pH,hz1,hz2⟩:=info_parts kJ;have hown:(w.alloc (.cells #[] 3)).ownsRow w.heap.size 3 1 (.slice (some ⟨w.heap.size,0,none⟩) 0 0) 0 []:=World.ownsRow_made w #[] 0 (oJ _) (Nat.zero_le _) rfl;cases ad with
 | none =>
  have h0:xs=[]:=by have:=h3 rfl;exact List.eq_nil_of_length_eq_zero (by omega)
  subst h0;obtain rfl:c=0:=h3 rfl;have hrun:=run_append_owned_none (P:=prog) (w:=w.alloc (.cells #[] 3)) w.heap.size 26 o.type 3 i0 1 underlying26 hi _ 0 [] hown;unfold Oper.wp;simp [execOp,ho,resolve,invoke,builtin,hs,hx,hrun,Result.andThen];exact hK _ _ hown (aC.alloc _ _)
 | some ad =>
  have rG:∀ (j:Nat) (u:Value),(xs.map (Value.int .i64))[j]?=some u->(w.alloc (.cells #[] 3)).cell? (ad.add j)=some u:=by
   intro j u hu;rw [oE] at hu;cases hj:xs[j]? with
   | none=>simp [hj] at hu
   | some x =>
    simp [hj] at hu;subst hu;obtain ⟨b,off,qF,Ab,hcell⟩:=hc (by intro e;simp [e] at hj);cases qF;have:=hcell j x hj;rw [show (⟨b,off,none⟩:Addr).add j=⟨b,off+j,none⟩ by unfold Addr.add;split <;> simp_all];exact aC.cell (aC.alloc w _) this
  refine jc (w.alloc (.cells #[] 3)) s x 26 ho w.heap.size 3 i0 (.int .i64 0) 1 8 underlying26 hi pH hz1 hz2 rfl (by decide) _ 0 [] hs hown ad xs.length c (xs.map (Value.int .i64)) hx (by simp) rG (ints_oneCell _ _) (by unfold maxLen;omega) (by omega) (by simp) ?_;intro v' w' pw oe _ _;refine hK v' w' (by simpa [cS] using pw) (Below.grown (aC.alloc w _) oe (by simp) (by intro k hk;simp [Value.ownBlock] at hk;omega))
theorem T2_ {ops:Array Oper} {rest:List Oper} {o:Oper} {a:Act} {Q:Exit->Act->World->Prop} (pf:o.guard=none) (s x:Operand)
  (ho:o.op=.call { callee:=.builtin .append,args:=#[s,x],argTypes:=#[26,26] })
  (w:World) (xs:List Int) (v:Value) (h:au w v xs) (hlen:xs.length<=1000000) (hs:a.eval s=.slice (some ⟨w.heap.size,0,none⟩) 0 0) (hx:a.eval x=v)
  (hK:∀ v' w',cS w.heap.size w' v' xs->aC w w'->wpList prog ops Q rest (a.put o.dst v') w'):wpList prog ops Q (o::rest) a (w.alloc (.cells #[] 3)) :=
 wpList_plain pf fun _ hk=>G3_ s x ho w xs v h hlen hs hx fun v' w' a1 a2=>hk _ _ (hK v' w' a1 a2)
theorem mU {ops:Array Oper} {rest:List Oper} {o:Oper} {a:Act} {Q:Exit->Act->World->Prop} (pf:o.guard=none) (w:World) (s x:Operand) (T2:TypeId) (wE:prog.underlying T2=some (TypeDesc.slice 3)) (ho:o.op=Op.call { callee:=Callee.builtin Builtin.append,args:=#[s,x],argTypes:=#[T2,T2] }) (B:Nat)
  (v:Value) (l:List Int) (y:Int) (u:Array Value) (T:TypeId) (hs:a.eval s=v) (hB:cS B w v l) (hx:a.eval x=.slice (some ⟨w.heap.size,0,none⟩) 1 1) (hu:u=#[.int .i64 y]) (hlen:l.length<1000000) (ow:B<=w.heap.size)
  (h:∀ v' w',cS B w' v' (l++[y])->Below B w w'->wpList prog ops Q rest (a.put o.dst v') w'):wpList prog ops Q (o::rest) a (w.alloc (.cells u T)) :=
 wpList_plain pf fun _ hk=>Q0_ w s x T2 wE ho B v l y u T hs hB hx hu hlen ow fun v' w' a1 a2=>hk _ _ (h v' w' a1 a2)
theorem Z45 (w:World) (T:TypeId):bQ (w.alloc (.cells #[.slice none 0 0] T)) (.slice (some ⟨w.heap.size,0,none⟩) 1 1) [[]] :=
 aI.lit (R:=au) (fun _ _ _ _ he h=>au.ext h he) w [.slice none 0 0] [[]] T rfl (by unfold maxLen;simp) (fun j u x hu hx=>by
  match j with
  | 0=>simp only [oP,Option.some.injEq] at hu hx;subst hu;subst hx;exact ⟨[],rfl,by simp,⟨none,0,rfl,oJ _,Nat.zero_le _,fun _=>rfl,fun h=>absurd rfl h⟩,by simp⟩
  | j+1=>simp at hu)
theorem Z3h {n:Nat} {L:List (List Nat)} (hn:n<=12) (h:∀ S∈L,∀ x∈S,x<n):∀ r∈bV L,∀ x∈r,-9223372036854775808<=x/\x<=(9223372036854775807:Int):=by
 intro r hr x hx;unfold bV at hr;obtain ⟨S,hS,rfl⟩:=List.mem_map.1 hr;obtain ⟨y,hy,rfl⟩:=List.mem_map.1 hx;have:=h S hS y hy;omega
theorem nd (n k:Nat) (hn:n<=12) (hk:k<=n) (w:World) :
  Calls prog 33 #[.int .i64 (n:Int),.int .i64 (k:Int)] w fun e w'=>∃ v,e=.returned v/\bQ w' v (bV (bH n k))/\aC w w':=by
 have HNL:Hid (∀ s,s<=n->(∀ S∈bH n s,S.length=s/\∀ x∈S,x<n)/\(bH n s).length<=1000):=fun s hs=>by
  obtain ⟨h1,h2,h3⟩:=jY hn hs;exact ⟨fun S hS=>⟨h1.len S hS,h1.lt S hS⟩,h3⟩
 have HN:=n8 hn
 go_enter func33,ntmps33
 go_wp2_with fail
 go_loopw [6,5] (fun t v wr=>∃ s:Nat,s<=k/\t=.int .i64 s/\aC w wr/\Hid (bQ wr v (bV (bH n s)))) (fun t _ _=>k-(intOf t).toNat)
 case atStart=>exact ⟨0,by omega,rfl,aC.alloc _ _,Z45 w _⟩
 case round =>
  obtain ⟨s,hs,rfl,hE,HR⟩:=hrel;obtain ⟨wo,rfl⟩:∃ wo:World,wo=wr:=⟨_,rfl⟩;by_cases hlt:s<k
  ·obtain ⟨L,hL⟩:∃ L,L=bH n s:=⟨_,rfl⟩;obtain ⟨hL1,hL2⟩:=HNL s (by omega);rw [<- hL] at HR hL1 hL2;have HLD:=n8 hL;have HL1:=n8 hL1;clear hL hL1;obtain ⟨a,c,rfl,pq,rQ,-,hx⟩:=bT.open HR;have hcl:(bV L).length=L.length:=by simp [bV]
   rw [hcl] at pq |-;have HX:=n8 hx;clear hx hcl;unfold maxLen at rQ;go_wp2_with fail
   go_loopw [7,8] (fun nx t wq=>∃ (i:Nat) (tags:List (Nat×Nat)),i<=L.length/\t=.int .i64 i/\Hid (aC wo wq)/\Hid (bO gE 26 wq wo.heap.size wo.heap.size nx tags (bV (fO n (L.take i))))) (fun _ t _=>L.length-(intOf t).toNat)
   case atStart=>exact ⟨0,[],by omega,rfl,aC.refl _,bO.nil _ _ _ _ _⟩
   case round =>
    obtain ⟨i,tags,hi,rfl,HE2,HO⟩:=hrel;obtain ⟨wi,rfl⟩:∃ wi:World,wi=wr:=⟨_,rfl⟩;by_cases hil:i<L.length
    ·obtain ⟨S,hS⟩:∃ S,L[i]?=some S:=⟨L[i],n9 hil⟩;obtain ⟨Gi,Gh⟩:=HL1 S (oD hS);obtain ⟨b,off,rfl,hb,hc⟩:=HX (by intro e;have:=congrArg List.length e;simp [bV] at this;rw [this] at hil;simp at hil);obtain ⟨p,hp,hcell⟩:=hc i (S.map fun x:Nat=>(x:Int)) (by unfold bV;rw [oE,hS];rfl);obtain ⟨a2,c2,rfl,rm,qg,NX,Kw,Kv⟩:=au.open (au.ext hp HE2);have HP:=n8 hp;have HG0:=n8 hcell;have g1:=HE2.cell hcell;have HSn:=n8 Gh;have hml:(S.map fun x:Nat=>(x:Int)).length=s:=by simp [Gi]
     have hff:=Z3y Gh;have HG1:=n8 (Z05 (n:=n) hS);have HSl:=n8 Gi;clear hp hcell hc hb Gh hS Gi Kw;rw [hml] at HP HG0 g1 rm;unfold maxLen at qg;obtain ⟨f,hf⟩:∃ f,f=gS S:=⟨_,rfl⟩;rw [<- hf] at hff;have HF:=n8 hf;clear hml hf
     go_upto_if 24 with fail
     go_cut [9] from 25 to 33 (fun t wx=>t=.int .i64 (f:Int)/\wx=wi)
     case first =>
      cases s with
      | zero =>
       obtain rfl:f=0:=by rw [HF.out,List.eq_nil_of_length_eq_zero HSl.out];rfl
       go_wp2_with fail;go_meet;exact ⟨rfl,rfl⟩
      | succ s =>
       obtain ⟨x,hx,JH⟩:=Z1C HSl;obtain rfl:f=x+1:=by rw [HF.out,JH]
       obtain ⟨b2,Ko,rfl,hb2,pd⟩:=Kv (by intro e;have:=congrArg List.length e;rw [List.length_map,HSl.out] at this;simp at this);have g2:=pd s (x:Int) (by rw [oE,hx];rfl);clear pd hx JH;go_wp2_with fail;go_meet;exact ⟨by go_num,rfl⟩
     case rest =>
      obtain ⟨rfl,rfl⟩:=hcut;obtain ⟨wi,rfl⟩:∃ wi:World,wi=wc:=⟨_,rfl⟩;go_wp2_with fail
      go_loopw [7,10] (fun nx t wq=>∃ (d:Nat) (tags:List (Nat×Nat)),f+d<=n/\t=.int .i64 (f+d:Nat)/\Hid (aC wo wq)/\Hid (bO gE 26 wq wo.heap.size wo.heap.size nx tags (bV (fO n (L.take i)++fN S d)))) (fun _ t _=>n-(intOf t).toNat)
      case atStart=>exact ⟨0,tags,by omega,rfl,HE2,by rw [show fN S 0=[] from rfl,List.append_nil];exact HO⟩
      case round =>
       obtain ⟨d,tg,hd,rfl,HE3,HO3⟩:=hrel;obtain ⟨wx,rfl⟩:∃ wx:World,wx=wr:=⟨_,rfl⟩;by_cases pI:f+d<n
       ·have g3:=HE3.cell HG0;have g4:=(aC.alloc wx (.cells #[] 3)).cell g3;have HP3:=n8 (au.ext HP HE3);go_wp2_with (at_builtin;go_must (refine T2_ rfl _ _ rfl wx (S.map fun x:Nat=>(x:Int)) _ HP3 ?c1 rfl rfl ?_))
        case c1=>rw [List.length_map,HSl.out];omega
        intro v1 w1 xW hE1;have HO1:=n8 xW;have HE4:=n8 hE1;have HS1:Hid (wx.heap.size<=w1.heap.size):=hE1.size;clear xW hE1;go_wp2_with (at_builtin;go_must (refine mU rfl w1 _ _ _ underlying26 rfl wx.heap.size v1 (S.map fun x:Nat=>(x:Int)) ((f:Int)+(d:Int)) _ _ rfl HO1 rfl rfl ?c2 HS1 ?_))
        case c2=>rw [List.length_map,HSl.out];omega
        intro v2 w2 Jl hB2;have hO2b:=Jl;unfold cS at hO2b;obtain ⟨g,cg,rfl,hg1,sS,qi,sn⟩:=iz hO2b (by simp);have hRI:=eE.ofOwn hO2b;have hlen:((S.map fun x:Nat=>(x:Int))++[((f:Int)+(d:Int))]).length=s+1:=by simp [HSl.out]
        rw [hlen] at qi;rw [hlen];have HRI:=n8 hRI;have HLN:=n8 hlen;have HE5:Hid (aC wx w2):=Below.trans HE4 hB2;have HO5:=n8 (HO3.ext HE5);have HSZ:Hid (wo.heap.size<=wi.heap.size/\wo.heap.size<=wx.heap.size/\wx.heap.size<=g/\wx.heap.size<=w2.heap.size):=⟨HE2.size,HE3.size,hg1,HE5.size⟩;have HV:Hid (u7.ownBlock≠some g):=fun e=>by have:=(HO3.own.lt _ e).2;omega
        have HNT:Hid (g∉tg.map (·.1)):=fun e=>by have:=(HO3.fresh e).2;omega
        have HC:Hid (s+1<=cg/\cg<=9223372036854775807):=⟨qi,by unfold maxLen at sn;omega⟩;have HLL:Hid ((bV (fO n (L.take i)++fN S d)).length<1000000):=by
         have h1:=s7_ n (L.take i);have h2:(L.take i).length*n<=1000*12:=Nat.mul_le_mul (by rw [oF];omega) HN;unfold Hid bV fN;rw [List.length_map,oU,List.length_map,List.length_range'];omega
        clear Jl hO2b hB2 hg1 sS qi sn hRI hlen;go_wp2_with (at_builtin;go_must (refine n6 (K:=gE) (e:=26) underlying58 Z3H w2 rfl _ _ rfl wo.heap.size wo.heap.size u7 tg (bV (fO n (L.take i)++fN S d)) (g,cg) ((S.map fun x:Nat=>(x:Int))++[((f:Int)+(d:Int))]) _ _ rfl HO5 rfl ?d1 ?d2 ?d3 HRI ?d4 HV HNT HLL ?d5 ?_))
        case d1=>rw [HLN.out];rfl
        case d2=>rw [HSl.out];exact HC.1
        case d3=>exact HC.2
        case d4=>have:=HSZ.out;show wo.heap.size<=g;omega
        case d5=>have:=HSZ.out;omega
        intro v3 w3 tI pF _;have HO6:=n8 tI;have HX6:Hid (aC wo w3):=Below.trans (aC.trans HE3 HE5) pF;clear tI pF;have e6:bV (fO n (L.take i)++fN S d)++[(S.map fun x:Nat=>(x:Int))++[((f:Int)+(d:Int))]]=bV (fO n (L.take i)++fN S (d+1)):=by
         rw [Z1z,<- HF.out,<- List.append_assoc,u2_ _ [S++[f+d]]];simp [bV]
        rw [e6] at HO6;clear e6;go_wp2_with fail;go_roundw
        case rel=>exact ⟨d+1,_,by omega,by go_num,HX6,HO6⟩
        case measure=>simp [intOf];omega
       ·obtain rfl:d=n-f:=by omega
        have HR3:=n8 HO3;rw [HF.out,<- HG1.out] at HR3;have HE4:=n8 HE3;go_wp2_with fail;go_roundw
        case rel=>exact ⟨i+1,tg,by omega,by go_num,HE4,HR3⟩
        case measure=>simp [intOf];omega
    ·obtain rfl:i=L.length:=by omega
     have HF:Hid (fO n L=bH n (s+1)):=by unfold Hid;rw [HLD.out];rfl
     rw [List.take_length,HF.out] at HO;have HR2:=n8 (HO.rows2 (Z3h HN fun S hS=>((HNL (s+1) (by omega)).1 S hS).2));go_wp2_with fail;go_roundw
     case rel=>exact ⟨s+1,by omega,by go_num,hE.trans HE2,HR2⟩
     case measure=>simp [intOf];omega
  ·obtain rfl:s=k:=by omega
   go_wp2_with fail;go_ret;exact ⟨_,rfl,HR,hE⟩
def lU (w : World) : Prop := Lib.TabIs prog w "math/bits.deBruijn64tab" .u8 (Lib.deBruijn64tab.map fun x : Nat => (x : Int))
theorem lU.ext {w w':World} (h:lU w) (he:aC w w'):lU w':=by
 unfold lU Lib.TabIs at h |-;cases hg : prog.globalNamed "math/bits.deBruijn64tab" with
 | none=>simp [World.var?,hg] at h
 | some g =>
  refine var?_below he hg ?_ h;by_cases hlt:g<w.heap.size
  ·exact hlt
  ·simp [World.var?,hg,Array.getElem?_eq_none (show w.heap.size<=g by omega)] at h
theorem lU.at {w:World} (h:lU w):TabAt 1 Lib.deBruijn64tab w:=by
 intro j hj;have hg : prog.globalNamed "math/bits.deBruijn64tab" = some 1 := by kernel_rfl
 have:=World.var?_cell hg h j;rw [this];simp [oE,n9 hj,oC]
theorem Z58:∀ s,s<4096->s≠0->Lib.ctz 64 s=iu s:=by
 have h:∀ a,a<64->∀ b,b<64->64*a+b≠0->Lib.ctz 64 (64*a+b)=iu (64*a+b):=by decide +kernel
 intro s hs h0;have:=h (s / 64) (by omega) (s%64) (by omega) (by omega)
 rwa [Nat.div_add_mod] at this
def bC (l:List Nat):List Int:=l.map fun x:Nat=>(x:Int)
theorem S6_ {s:Nat}:∀ x∈aT s,x<12:=fun x hx=>List.mem_range.1 (List.mem_filter.1 hx).1
theorem nP (s:Nat):(aT s).length<=12:=oI (List.length_filter_le _ _) (by simp)
theorem Z0f:aT 0=[]:=by decide +kernel
def Z6V (x:Int):Int:=IntKind.u64.wrap (bits BinOp.and IntKind.u64 (x / 2) 6148914691236517205+bits BinOp.and IntKind.u64 x 6148914691236517205)
def Z6W (a:Int):Int:=IntKind.u64.wrap (bits BinOp.and IntKind.u64 (a / 4) 3689348814741910323+bits BinOp.and IntKind.u64 a 3689348814741910323)
def Z6X (b:Int):Int:=bits BinOp.and IntKind.u64 (IntKind.u64.wrap (b / 16+b)) 1085102592571150095
def Z6B (k c:Int):Int:=IntKind.u64.wrap (c+c / k)
def Z6C (x:Int):Int:=bits BinOp.and IntKind.i64 (wrap64 (Z6B 4294967296 (Z6B 65536 (Z6B 256 (Z6X (Z6W (Z6V x))))))) 127
theorem Z5z:∀ s:Nat,s<4096->Z6C (s:Int)=((aT s).length:Int):=by
 have h:∀ a:Nat,a<64->∀ b:Nat,b<64->Z6C ((64*a+b:Nat):Int)=((aT (64*a+b)).length:Int):=by decide +kernel
 intro s hs;have:=h (s / 64) (by omega) (s%64) (by omega)
 rwa [Nat.div_add_mod] at this
theorem Z0p (x:Nat) (hx:x<4096) (w:World) :
  Calls prog 177 #[.int .u64 x] w fun e w'=>e=.returned (.int .i64 ((aT x).length:Int))/\w'=w:=by
 have h1:IntKind.u64.wrap (x:Int)=(x:Int):=by rw [IntKind.wrap_u64];omega
 go_enter func177,ntmps177
 go_wp2_with fail;go_ret;refine ⟨?_,rfl⟩;show Ending.returned (.int .i64 (Z6C (x:Int)))=_;rw [Z5z x hx]
theorem Z46 (x:Nat) (hx:x<4096) (w:World) :
  Calls prog 125 #[.int .u64 x] w fun e w'=>e=.returned (.int .i64 ((aT x).length:Int))/\w'=w:=by
 have HC:=n8 (Z0p x hx w);have h1:IntKind.u64.wrap (x:Int)=(x:Int):=by rw [IntKind.wrap_u64];omega
 go_enter func125,ntmps125
 go_wp2_with fail;refine HC.mono ?_;rintro e w2 ⟨rfl,pZ⟩;obtain rfl:=pZ.symm;clear HC;go_wp2_with fail;go_ret;exact ⟨rfl,rfl⟩
theorem Z14 (t i:Nat):(aT (t &&& (2^i-1))).length=jJ t i:=by
 unfold jJ aT;rw [List.filter_filter];congr 1;refine List.filter_congr fun j _=>?_;rw [Nat.testBit_and,Nat.testBit_two_pow_sub_one,Bool.and_comm]
theorem u0_ (t i:Nat):jJ t i<=12:=oI (List.length_filter_le _ _) (nP t)
theorem o6_ (t:Nat):∀ l:List Nat,(l.map (jJ t)).sum<=12*l.length
 | []=>by simp
 | x::l=>by
  have:=u0_ t x;have:=o6_ t l;simp only [List.map_cons,List.sum_cons,List.length_cons];omega
theorem Z5n {x:Nat} (hx:x<4096) (h0:x≠0):iu x<12:=by
 have:=D9_ x hx h0;exact S6_ (s:=x) (iu x) (by rw [this];exact List.mem_cons_self)
theorem Z5o {x:Nat} (hx:x<4096) (h0:x≠0):x &&& (18446744073709551616-x)=2^iu x:=by
 obtain ⟨vb,hk⟩:=Lib.lowest_bit 64 x h0 (by omega);rw [Z58 x hx h0] at vb;exact vb
theorem Z5r (s t:Nat) (hs:s<4096) (ht:t<4096) (w:World) :
  Calls prog 65 #[.int .u64 s,.int .u64 t] w fun e w'=>e=.returned (.bool (cK s t))/\w'=w:=by
 have HS:=n8 hs;have HT:=n8 ht
 go_enter func65,ntmps65
 go_wp2_with fail
 go_loopw [5,6] (fun c v wr=>∃ (x n:Nat) (l:List Nat),v=.int .u64 x/\c=.int .i64 n/\Hid (x<4096/\l++aT x=aT s/\n=(l.map (jJ t)).sum)/\wr=w) (fun _ v _=>(intOf v).toNat)
 case atStart=>exact ⟨s,0,[],rfl,rfl,⟨HS,rfl,rfl⟩,rfl⟩
 case round =>
  obtain ⟨x,n,l,rfl,rfl,HX,CT⟩:=hrel;subst CT;have hn:n<=144:=by
   obtain ⟨-,h2,h3⟩:=HX.out;have h4:=o6_ t l;have h5:=congrArg List.length h2;rw [oU] at h5;have:=nP s;omega
  by_cases h0:x=0
  ·subst h0;have HF:Hid (cK s t=decide (n%2=1)):=by
    obtain ⟨-,h2,h3⟩:=HX.out;rw [Z0f,List.append_nil] at h2;unfold Hid cK;rw [h3,h2]
   go_wp2_with fail;go_ret;refine ⟨?_,rfl⟩;rw [HF.out];have hb:((n:Int)%2 == 1)=decide (n%2=1):=by
    by_cases h:n%2=1
    ·rw [oS h];exact beq_iff_eq.2 (by omega)
    ·rw [oR h];exact beq_eq_false_iff_ne.2 (by omega)
   rw [<- hb];rfl
  ·have hx:=HX.1;have hm:=D9_ x hx h0;have hlt:=n8_ x hx h0;have pE:((x:Int) == 0)=false:=beq_eq_false_iff_ne.2 (by omega);have hi:=Z5n hx h0;have hp:2^iu x<=2048:=by
    have:2^iu x<=2^11:=Nat.pow_le_pow_right (by decide) (by omega);simpa using this
   have hp1:1<=2^iu x:=Nat.one_le_two_pow;have e1:IntKind.u64.wrap ((x:Int)-1)=((x-1:Nat):Int):=by rw [IntKind.wrap_u64];omega
   have e2:=bits_and_u64_nat x (x-1) (by omega) (by omega);have e3:IntKind.u64.wrap (-(x:Int))=((18446744073709551616-x:Nat):Int):=by rw [IntKind.wrap_u64];omega
   have e4:=bits_and_u64_nat x (18446744073709551616-x) (by omega) (by omega);rw [Z5o hx h0] at e4;obtain ⟨i,hi2⟩:∃ i,iu x=i:=⟨_,rfl⟩;rw [hi2] at e4 hp hp1 hm hi;have HQ:Hid ((aT (t &&& (2^i-1))).length=jJ t i):=Z14 t i;obtain ⟨p,hp2⟩:∃ p,2^i=p:=⟨_,rfl⟩;rw [hp2] at e4 hp hp1 HQ;have e5:IntKind.u64.wrap ((p:Int)-1)=((p-1:Nat):Int):=by rw [IntKind.wrap_u64];omega
   have e6:=bits_and_u64_nat t (p-1) (by omega) (by omega);have hq:t &&& (p-1)<4096:=Nat.lt_of_le_of_lt Nat.and_le_left HT;obtain ⟨q,zI⟩:∃ q,t &&& (p-1)=q:=⟨_,rfl⟩;rw [zI] at e6 HQ hq;have HC:=n8 (Z46 q hq wr);rw [HQ.out] at HC;have hb:=u0_ t i;have HM:Hid ((l++[i])++aT (x &&& (x-1))=aT s/\n+jJ t i=((l++[i]).map (jJ t)).sum):=by
    obtain ⟨-,h2,h3⟩:=HX.out;refine ⟨by rw [<- h2,hm,List.append_assoc];rfl,by simp [h3]⟩
   obtain ⟨bb,hbb⟩:∃ bb,jJ t i=bb:=⟨_,rfl⟩;rw [hbb] at HC HM hb;obtain ⟨y,hy⟩:∃ y,x &&& (x-1)=y:=⟨_,rfl⟩;rw [hy] at e2 HM hlt;have HLT:=n8 hlt;have e7:wrap64 ((n:Int)+(bb:Int))=((n+bb:Nat):Int):=by rw [wrap64];omega
   clear hm hlt hy HQ zI hp2 hi2 hbb hq;go_wp2_with fail;refine HC.mono ?_;rintro e w2 ⟨rfl,pZ⟩;obtain rfl:=pZ.symm;clear HC;go_wp2_with fail;go_roundw
   case rel=>exact ⟨y,n+bb,l++[i],rfl,by go_num,⟨Nat.lt_trans HLT HX.1,HM.1,HM.2⟩,trivial⟩
   case measure=>have:=HLT.out;simp [intOf];omega
theorem Z2r:∀ n,n<7->∀ k,k<n+1->(List.range (aJ n k).length).all (fun i=>decide (be n k ((aJ n k).getD i 0)=i))=true:=by decide +kernel
theorem Z4h {n k i s:Nat} (hn:n<7) (hk:k<=n) (h:(aJ n k)[i]?=some s):be n k s=i:=by
 have h1:=List.all_eq_true.1 (Z2r n hn k (by omega)) i (List.mem_range.2 (n_.1 h).1);rw [oC,h] at h1;exact of_decide_eq_true h1
theorem Z6M:Keyed prog 100:=int_keyed underlying100
theorem Z6G (w:World):(zeroValue 3).run prog w=.ok (.int .i64 0) w:=by kernel_rfl
theorem Z6f {s:Nat} (h:s<4096):(Lit.int .u64 (s:Int)).wf=true:=by
 have h1:IntKind.u64.min=0:=by decide
 have h2:IntKind.u64.max=18446744073709551615:=by decide
 show (decide (IntKind.u64.min<=(s:Int)) && decide ((s:Int)<=IntKind.u64.max))=true;rw [h1,h2,Bool.and_eq_true,decide_eq_true_eq,decide_eq_true_eq];omega
theorem Z6L {s:Nat} (h:s<4096):keyOf prog 100 (.int .u64 (s:Int))=some (.int .u64 (s:Int)):=keyOf_int_mk underlying100 (Z6f h)
def gJ (w:World) (b N n k:Nat) (L:List Nat):Prop:=∃ D:DataW Unit,w.ownsMap prog 100 (plainElem prog 3) b N D/\IsMap D/\∀ s∈L,D.atKey (.int .u64 (s:Int)) (.lit (.int .i64 0))=.lit (.int .i64 (be n k s:Int))
def e_ (w:World) (v:Value) (n k:Nat):Prop:=∃ b N,v=.map (some b)/\gJ w b N n k (aJ n k)
theorem gJ.kept {w w':World} {b N n k:Nat} {L:List Nat} {o:Option Nat} (h:gJ w b N n k L) (hg:w.grownBy w' o) (hne:some b≠o):gJ w' b N n k L:=by
 obtain ⟨D,h1,h2,h3⟩:=h;exact ⟨D,h1.kept hg hne,h2,h3⟩
theorem gJ.ext {w w':World} {b N n k:Nat} {L:List Nat} (h:gJ w b N n k L) (he:aC w w'):gJ w' b N n k L:=h.kept (he.grown none) (by simp)
theorem e_.ext {w w':World} {v:Value} {n k:Nat} (h:e_ w v n k) (he:aC w w'):e_ w' v n k:=by
 obtain ⟨b,N,hv,h1⟩:=h;exact ⟨b,N,hv,h1.ext he⟩
theorem Z1Q {D:DataW Unit} (h:IsMap D) (k:Lit) (d:DataW Unit):IsMap (D.put k d):=by
 obtain ⟨es,rfl⟩:=h;exact ⟨_,rfl⟩
theorem gJ.made (w:World) (n k:Nat):gJ (w.alloc (.map #[] 0)) w.heap.size 0 n k []:=⟨.map [],World.ownsMap_made _ _ _ _,⟨_,rfl⟩,fun s hs=>by cases hs⟩
theorem V4_ (n k:Nat) (hn:n<7) (hk:k<=n) (w:World):Calls prog 59 #[.int .i64 n,.int .i64 k] w fun e w'=>∃ v,e=.returned v/\aC w w'/\e_ w' v n k:=by
 have hmm:=@run_makeMap prog;obtain ⟨w1,o4⟩:∃ w1,w1=w.alloc (.map #[] 0):=⟨_,rfl⟩;have HM:=n8 (gJ.made w n k);rw [<- o4] at HM;have HE1:Hid (aC w w1):=by rw [o4];exact aC.alloc _ _
 have hsz:w1.heap.size=w.heap.size+1:=by rw [o4];exact World.size_alloc w _
 have HSZ:=n8 hsz;have HC:=n8 (lg n k (by omega) hk w1);have HLT:=n8 (lf (n:=n) (k:=k) (by omega) hk);have HLN:=n8 (jI (n:=n) (k:=k) (by omega) hk);have HPL:Hid (∀ i s,(aJ n k)[i]?=some s->be n k s=i):=fun i s h=>Z4h hn hk h;clear hsz;obtain ⟨L,hL⟩:∃ L,aJ n k=L:=⟨_,rfl⟩;rw [hL] at HC HLT HLN HPL;have HLL:=n8 hL;clear hL
 go_enter func59,ntmps59
 go_wp2_with fail;generalize pO:w.alloc _=w9;obtain rfl:w9=w1:=by rw [<- pO,o4]
 refine HC.mono ?_;rintro e w2 ⟨v,rfl,h2,hU⟩;obtain ⟨a,cap,rfl,pJ,pT,pG⟩:=hU.open;unfold maxLen at pT;have HE2:Hid (aC w w2):=HE1.trans h2;have HM2:=n8 (HM.ext h2);have HS2:Hid (w.heap.size<w2.heap.size):=by have:=h2.size;have:=HSZ.out;unfold Hid;omega
 have HCX:=n8 pG;clear h2 hU pG HC HM o4 pO;obtain ⟨N,hN⟩:∃ N,L.length=N:=⟨_,rfl⟩;have HNN:=n8 hN;rw [hN] at pJ |-;clear hN;go_wp2_with fail
 go_loopw [13] (fun t wr=>∃ i:Nat,i<=N/\t=.int .i64 (i:Int)/\Hid (aC w wr)/\Hid (w2.grownBy wr (some w.heap.size))/\Hid (gJ wr w.heap.size i n k (L.take i))) (fun t _=>N+1-(intOf t).toNat)
 case atStart=>exact ⟨0,by omega,by simp,HE2,World.grownBy.refl _ _,HM2⟩
 case round =>
  obtain ⟨i,hi,rfl,HX,HG,HP⟩:=hrel;by_cases hlt:i<N
  ·obtain ⟨s,hs⟩:∃ s,L[i]?=some s:=by
    rw [<- HNN.out] at hlt;exact ⟨_,n9 hlt⟩
   obtain ⟨b,off,rfl,hb,hcell⟩:=HCX (by intro e;rw [e] at hs;simp at hs);have hc:=hcell i s hs;have hslt:s<4096:=HLT s (oD hs);have hne:b≠w.heap.size:=by
    rintro rfl;obtain ⟨D,⟨es,clock,Ac,-⟩,-⟩:=HM2.out;rw [World.cell?,Ac] at hc;simp at hc
   have pG:wr.cell? ⟨b,off+i,none⟩=some (.int .u64 (s:Int)):=by
    rw [<- hc];unfold World.cell?;rw [HG.out.block b hb (by intro e;cases e;exact hne rfl)]
   have Mu:Hid (be n k s=i):=HPL i s hs;obtain ⟨D,hown,AL,rN⟩:=HP.out;have HAT:=n8 rN;have HMP:=n8 AL;have HS:=n8 hs;have HSL:=n8 hslt;clear hs hcell hc hne rN AL HP hslt hb
   go_wp2_with (first
    | (at_mapUpdate;refine wpList_mapUpdate_own _ rfl _ _ _ 96 rfl 100 3 Z6M underlying96 _ w.heap.size i _ rfl hown (by unfold maxLen;omega) _ _ _ rfl rfl (Z6L HSL) _ [] (plainElem_int underlying3 (WalkArith.wf_i64 (by omega))) ?_;intro w5 zJ tV)
    | fail)
   have HE5:Hid (aC w w5):=Below.grown HX tV (Nat.le_of_lt (by have:=HG.size;have:=HS2.out;omega)) (fun j hj=>by cases hj;exact oJ _);have vw:Hid (w2.grownBy w5 (some w.heap.size)):=iI HG tV;have Mx:Hid (gJ w5 w.heap.size (i+1) n k (L.take (i+1))):=by
    refine ⟨_,zJ,Z1Q HMP _ _,fun x hx=>?_⟩;by_cases vz:x=s
    ·subst vz;rw [atKey_put_same HMP.out (by exact trivial),Mu.out]
    ·rw [atKey_put_other (fun e=>vz (by injection e with _ e;exact Int.ofNat.inj e))];refine HAT x ?_;rw [oG,HS.out] at hx;simpa [vz] using hx
   clear zJ tV;go_roundw
   case rel=>exact ⟨i+1,by omega,by go_num,HE5,vw,Mx⟩
   case measure=>simp [intOf];omega
  ·obtain rfl:i=N:=by omega
   have Mw:Hid (gJ wr w.heap.size i n k (aJ n k)):=by
    have:=HP.out;rw [<- HNN.out,List.take_length,<- HLL.out] at this;rw [<- HNN.out,<- HLL.out];exact this
   clear HP;go_wp2_with fail;go_ret;exact ⟨_,rfl,HX,_,_,rfl,Mw⟩
def mP (L:List Nat):List (List Int):=L.map fun s=>bC (aT s)
section
variable {P:Program} {ops:Array Oper} {Q:Exit->Act->World->Prop} {md:Region.Mode} {S:World->Prop} {z:Nat}
theorem n9_ {i:Nat} {oi:Oper} {v:Value} (hi:ops[i]?=some oi) (sf:∀ (j:Nat) (o:Oper) cs b,ops[j]?=some o->o.op≠.select cs b)
  (hQ:∀ c a w,Q (.panic c) (a.put oi.dst v) w->Q (.panic c) a w) (f:Nat) :
  ∀ (l:Array Bool) (a:Act) (w:World),l.size<=z ->
   (∀ j oj,ops[j]?=some oj->j≠i->l.getD j true=false->(∀ e∈oj.after,Region.binds md e=true->e.on≠i)->oi.apart ops oj=true) ->
   i∈Region.ready md ops l->YieldsIf P ops S oi v a->S w ->
   bL P md ops Q S z f (l.setIfInBounds i true) (a.put oi.dst v) w->bL P md ops Q S z (f+1) l a w:=by
 induction f with
 | zero =>
  intro l a w _ _ hr hy hS H;refine ⟨(fun e=>by rw [e] at hr;cases hr),fun j hj=>?_⟩;by_cases e:j=i
  ·rw [e];exact hy.wpOp hi hS ⟨fun _=>hS,H⟩
  ·have:=ready_mono hj e;rw [H.1] at this;cases this
 | succ f ih =>
  intro l a w I3 qL hr hy hS H;refine ⟨(fun e=>by rw [e] at hr;cases hr),fun j hj=>?_⟩;by_cases e:j=i
  ·rw [e];exact hy.wpOp hi hS ⟨fun _=>hS,H⟩
  have yA:i≠j:=fun x=>e x.symm;have un:=(mem_ready.1 hj).1;obtain ⟨oj,wG,hall⟩:=(mem_ready.1 hj).2;have ui:=(mem_ready.1 hr).1;have uf:l.getD i false=true->False:=fun hc=>by rw [P6_ ui] at hc;cases hc
  have FX:∀ l':Array Bool,l'.size<=z->l'.getD z false=false:=fun l' h=>by simp [Array.getElem?_eq_none h]
  have AH:∀ d∈oj.after,Region.binds md d=true->d.on≠i:=fun d hd hb sH=>uf (by have:=hall d hd hb;rwa [sH] at this);have step:=wpOp_putIf wG (qL j oj wG e un AH) (fun cs b=>sf i oi cs b hi) (fun cs b=>sf j oj cs b wG) hQ hy (H.2 j (ready_mono hj e));refine wpOp_mono (fun b u hb=>?_) step;obtain ⟨qg,vl,pV⟩:=hb;have zX:S u:=vl (FX _ (by simpa using I3));refine ⟨fun _=>zX,ih (l.setIfInBounds j true) b u (by simpa using I3) (fun k ok hk Cw y7 hn=>?_) (ready_mono hr yA) qg zX ?_⟩
  ·refine qL k ok hk Cw ?_ hn;by_cases zQ:j=k
   ·rw [<- zQ];exact un
   ·rw [getD_set_ne true zQ] at y7;exact y7
  ·rw [Array.setIfInBounds_comm _ _ e];exact pV
theorem b5_ (i:Nat) {oi:Oper} {v:Value} {f:Nat} {l:Array Bool} {a:Act} {w:World} (hi:ops[i]?=some oi)
  (hs:Region.noSelect ops=true) (hf:Region.free md ops l i=true) (hr:(Region.ready md ops l).contains i=true) (hz:l.size<=z)
  (hQ:∀ c a w,Q (.panic c) (a.put oi.dst v) w->Q (.panic c) a w) (hy:YieldsIf P ops S oi v a) (hS:S w)
  (h:bL P md ops Q S z f (l.setIfInBounds i true) (a.put oi.dst v) w):bL P md ops Q S z (f+1) l a w :=
 n9_ hi (Region.noSelect_spec hs) hQ f l a w hz (Region.free_spec hi hf) (by simpa using hr) hy hS h
theorem b4_ (i:Nat) {o:Oper} {f:Nat} {l:Array Bool} {a:Act} {w:World} (hr:Region.ready md ops l=[i]) (ph:Region.ready md ops (l.setIfInBounds i true)=[]) (ho:ops[i]?=some o)
  (h:∀ K:Act->World->Prop,Shut (∀ b u,S u->Q .normal b u->K b u)->if Region.wanted o (yielded ops a.tmps)=true then Oper.wp P o a w K Q else K (a.put o.dst undef) w):bL P md ops Q S z (f+1) l a w:=by
 refine ⟨(fun e=>by rw [hr] at e;cases e),fun j hj=>?_⟩;obtain rfl:j=i:=by rw [hr] at hj;simpa using hj
 refine wpOp_step ho fun K hK=>h K fun b u hS hq=>hK b u ⟨fun _=>hS,?_⟩;cases f with
 | zero=>exact ⟨ph,hq⟩
 | succ f=>exact ⟨fun _=>hq,by rw [ph];simp⟩
end
section
variable {P:Program} {ops O:Array Oper} {Q:Exit->Act->World->Prop} {md:Region.Mode} {S:World->Prop} {z n:Nat}
theorem a8 (hO:Hid (ops=O)) (i:Nat) (h:i<O.size):ops[i]?=some O[i]:=by
 have hO:ops=O:=hO;subst hO;exact Array.getElem?_eq_getElem h
end
section
variable {P:Program} {ops O:Array Oper} {Q:Exit->Act->World->Prop} {md:Region.Mode} {S:World->Prop} {z n:Nat}
theorem fX (S:World->Prop) (z:Nat) (n:Nat) {id:Nat} {a:Act} {w:World} (hm:P.follows .mixedOrders=true) (hn:O.size=n) (hS:S w.drew)
  (h:∀ ops,Hid (ops=O)->S w.drew->bL P .any ops Q S z n (Array.replicate n false) a w.drew):(Code.region id O true).wp P Q a w :=
 iP S z hm hS (fun hh=>by have:=h O rfl hh;rw [hn];exact this)
theorem L7_ (hO:Hid (ops=O)) (i:Nat) {oi:Oper} {v:Value} {f:Nat} {l:Array Bool} {a:Act} {w:World} (hi:ops[i]?=some oi)
  (hs:Region.noSelect O=true) (hf:Region.free md O l i=true) (hr:(Region.ready md O l).contains i=true) (hz:decide (i≠z)=true)
  (hQ:∀ c a w,Q (.panic c) (a.put oi.dst v) w->Q (.panic c) a w) (hy:Yields P O oi v a) (hS:S w)
  (h:bL P md ops Q S z f (l.setIfInBounds i true) (a.put oi.dst v) w):bL P md ops Q S z (f+1) l a w:=by
 have hO:ops=O:=hO;subst hO;exact Q2_ i hi hs hf hr (of_decide_eq_true hz) hQ hy hS h
theorem F7_ (hO:Hid (ops=O)) (i:Nat) {oi:Oper} {v:Value} {f:Nat} {l:Array Bool} {a:Act} {w:World} (hi:ops[i]?=some oi)
  (hs:Region.noSelect O=true) (hf:Region.free md O l i=true) (hr:(Region.ready md O l).contains i=true) (hz:decide (l.size<=z)=true)
  (hQ:∀ c a w,Q (.panic c) (a.put oi.dst v) w->Q (.panic c) a w) (hy:YieldsIf P O S oi v a) (hS:S w)
  (h:bL P md ops Q S z f (l.setIfInBounds i true) (a.put oi.dst v) w):bL P md ops Q S z (f+1) l a w:=by
 have hO:ops=O:=hO;subst hO;exact b5_ i hi hs hf hr (of_decide_eq_true hz) hQ hy hS h
theorem dK (hO:Hid (ops=O)) (i:Nat) {o:Oper} {f:Nat} {l:Array Bool} {a:Act} {w:World} (hr:Region.ready md O l=[i]) (ho:ops[i]?=some o)
  (h:∀ K:Act->World->Prop,Shut (∀ b u,S u->(S u->bL P md ops Q S z f (l.setIfInBounds i true) b u)->K b u)->if Region.wanted o (yielded O a.tmps)=true then Oper.wp P o a w K Q else K (a.put o.dst undef) w):bL P md ops Q S z (f+1) l a w:=by
 have hO:ops=O:=hO;subst hO;exact dO i hr ho h
theorem fp (hO:Hid (ops=O)) (i:Nat) {o:Oper} {f:Nat} {l:Array Bool} {a:Act} {w:World} (hr:Region.ready md O l=[i]) (ph:Region.ready md O (l.setIfInBounds i true)=[]) (ho:ops[i]?=some o)
  (h:∀ K:Act->World->Prop,Shut (∀ b u,S u->Q .normal b u->K b u)->if Region.wanted o (yielded O a.tmps)=true then Oper.wp P o a w K Q else K (a.put o.dst undef) w):bL P md ops Q S z (f+1) l a w:=by
 have hO:ops=O:=hO;subst hO;exact b4_ i hr ph ho h
end
theorem eF (w:World) (x y z:Value):∃ W,(w.alloc (.cells #[x,y,z] 31))=W/\aC w W/\W.heap.size=w.heap.size+1/\W.heap[w.heap.size]?=some (.cells #[x,y,z] 31 (0,0)) :=
 ⟨_,rfl,aC.alloc _ _,by simp,ic _ _ _⟩
theorem aZ.boxAt {w:World} {base:Nat} {e:TypeId} {v:Value} {xs:List Int} (h:aZ w base e 1 v numC xs) {g:Nat} (hg:g<base) (j:Nat) (y:Value):aZ (w.setCell ⟨g,j,none⟩ y) base e 1 v numC xs:=by
 obtain ⟨us,h1,h2,h3,h4⟩:=h;refine ⟨us,h1,h2,ownsRow_setCell_other h3 (fun e=>?_) y,fun j u x hu hx w' _=>(h4 j u x hu hx).now⟩;have:=(h3.lt g e).1;omega
theorem A3_ {w:World} {b j:Nat} {v:Value} (hc:w.cell? ⟨b,j,none⟩=some v):b<w.heap.size:=by
 by_cases h:b<w.heap.size
 ·exact h
 ·have h0:w.heap[b]?=none:=Array.getElem?_eq_none (Nat.le_of_not_lt h);simp [World.cell?,h0] at hc
theorem aP.cell {S:Nat->Prop} {w w':World} {b j:Nat} {v:Value} (h:aP S w w') (hc:w.cell? ⟨b,j,none⟩=some v) (hb:¬ S b):w'.cell? ⟨b,j,none⟩=some v:=by
 rw [<- hc];unfold World.cell?;rw [h.block b (A3_ hc) hb]
theorem aP.thenBelow {S:Nat->Prop} {w w' w'':World} {B:Nat} (h:aP S w w') (k:Below B w' w'') (hB:w.heap.size<=B):aP S w w'' :=
 ⟨k.os.trans h.os,k.tape.trans h.tape,k.output.trans h.output,oI h.size k.size,fun j hj hS=>(k.block j (by omega)).trans (h.block j hj hS)⟩
theorem aP.from {S:Nat->Prop} {w w' w'':World} {B:Nat} (h:Below B w w') (k:aP S w' w'') (hw:w.heap.size<=B) (hS:∀ j,j<w.heap.size->¬ S j):aC w w'' :=
 ⟨k.os.trans h.os,k.tape.trans h.tape,k.output.trans h.output,oI h.size k.size,fun j hj=>(k.block j (oH hj h.size) (hS j hj)).trans (h.block j (by omega))⟩
theorem jP {S:Nat->Prop} {w w' w'':World} (h:aC w w') (k:aP S w' w'') (hS:∀ j,j<w.heap.size->¬ S j):aC w w'':=aP.from h k (oJ _) hS
theorem e_.run {w:World} {v:Value} {n k s:Nat} (h:e_ w v n k) (hs:s∈aJ n k) (hlt:s<4096):(Instr.lookup 96 v (.int .u64 (s:Int)) false).run prog w=.ok (.int .i64 (be n k s:Int)) w:=by
 obtain ⟨b,N,rfl,D,hown,AL,rN⟩:=h;obtain ⟨c,hrun,hc,NY⟩:=hown.lookup_int Z6M underlying96 underlying3 (Z6G w) (Z6L hlt);rw [rN s hs] at hc;cases hc;exact hrun
theorem e_.grownS {w w':World} {B:Nat} {v:Value} {n k:Nat} {C:Array Value} {T:TypeId} (h:e_ w v n k) (hg:aP (·=B) w w') (hB:w.heap[B]?=some (.cells C T (0,0))):e_ w' v n k:=by
 obtain ⟨b,N,hv,h1⟩:=h;refine ⟨b,N,hv,?_⟩;obtain ⟨D,ho,hm,ha⟩:=h1;have hne:b≠B:=by
  rintro rfl;obtain ⟨es,clock,Ac,-⟩:=ho;rw [hB] at Ac;cases Ac
 have qe:w.grownBy w' (some B):=⟨hg.os,hg.tape,hg.output,hg.size,fun j hj xB=>hg.block j hj (fun e=>xB (by rw [e]))⟩;exact ⟨D,ho.kept qe (fun e=>hne (by cases e;rfl)),hm,ha⟩
theorem I0_ {i:Nat} {s:Int} {n k:Int} {a:Option Addr} {l c:Nat} (h:some (Value.int .u64 s)=(#[Value.int .i64 n,Value.int .i64 k,Value.slice a l c]:Array Value)[i]?):False:=by
 match i,h with
 | 0,h=>simp at h
 | 1,h=>simp at h
 | 2,h=>simp at h
 | i+3,h=>simp at h
theorem j9_:∀ n,n<7->∀ s,s<2^n->(2^n-1) &&& (18446744073709551615-s)=ec n s:=by decide +kernel
theorem Z2F {n s:Nat} (hn:n<7) (hs:s<2^n):bits .andNot .u64 ((2^n-1:Nat):Int) (s:Int)=((ec n s:Nat):Int):=by
 have h1:2^n<=2^6:=Nat.pow_le_pow_right (by decide) (by omega);rw [u64_andNot_nat _ _ (by omega) (by omega),j9_ n hn s hs]
theorem Z2J {n:Nat} (hn:n<13):IntKind.u64.wrap ((2:Int)^n)=((2^n:Nat):Int)/\2^n<=4096/\1<=2^n:=by
 have h:∀ m,m<13->IntKind.u64.wrap ((2:Int)^m)=((2^m:Nat):Int)/\2^m<=4096/\1<=2^m:=by decide +kernel
 exact h n hn
theorem h6_ {n k:Nat} (hn:n<=12) (hk:k<=n):∀ x∈aJ n k,x<2^n:=G0_ (oJ n) k 0 0 (Nat.two_pow_pos n) hk
theorem g3_ {s i:Nat} (hs:s<4096):bits .and .u64 ((s / 2^i:Nat):Int) 1=if s.testBit i=true then 1 else 0:=by
 have h1:s / 2^i<=s:=Nat.div_le_self _ _;have h2:=bits_and_u64_nat (s / 2^i) 1 (by omega) (by omega);rw [Nat.and_one_is_mod] at h2;rw [show ((1:Nat):Int)=1 from rfl] at h2;rw [h2,Nat.testBit_eq_decide_div_mod_eq];by_cases h:s / 2^i%2=1
 ·rw [if_pos (by rw [oS h]),h];rfl
 ·rw [if_neg (by rw [oR h];decide)];omega
theorem y9_ (s t:Nat) (hs:s<4096) (ht:t<4096) (w:World) :
  oW 65 #[.int .u64 s,.int .u64 t] w (.bool (cK s t)):=(Z5r s t hs ht w).mono fun e w' ⟨h,h2⟩=>⟨h,h2▸aC.refl _⟩
theorem Z4A (x y:Int) (w:World) (hx:(aD x).size<=2800000000) (hy:(aD y).size<=2800000000) (ht:af w) :
  oW 185 #[.string (aD x),.string (aD y)] w (.string (aD (x-y))):=by
 have HN:=n8 (mD y w (by omega));have vZ:(aD (-y)).size<=2900000000:=by
  have h1:=eK (-y);have h2:=d_ y;rw [Int.natAbs_neg] at h1;omega
 have HA:Hid (∀ W,aC w W->oW 61 #[.string (aD x),.string (aD (-y))] W (.string (aD (x+-y)))):=fun W hE=>M2_ x (-y) W (by omega) vZ (ht.ext hE);rw [show x+-y=x-y by omega] at HA;clear ht hx hy vZ
 go_enter func185,ntmps185
 go_wp2_with fail;refine HN.mono ?_;rintro e w0 ⟨rfl,vQ⟩;have HE0:=n8 vQ;clear HN vQ;go_wp2_with fail;refine (HA _ HE0).mono ?_;rintro e w1 ⟨rfl,hE1⟩;have HE1:=n8 (aC.trans HE0 hE1);clear hE1 HA;go_wp2_with fail;go_ret;exact ⟨rfl,HE1⟩
def eu (n:Int):Bool:=decide ((aE n.natAbs).size<=1000000000)
def j0 (n:Int):Bool:=decide ((aE n.natAbs).size<=400000000)
theorem w5_ (n:Int):eu n=true↔(aE n.natAbs).size<=1000000000:=decide_eq_true_iff
theorem c4_ (n:Int):j0 n=true↔(aE n.natAbs).size<=400000000:=decide_eq_true_iff
def an (k:Int):List Int->List Int->List Int
 | r,[]=>r
 | [],_::_=>[]
 | a::r,b::s=>(a-k*b)::an k r s
theorem ir (k:Int):∀ r s:List Int,(an k r s).length=r.length
 | [],[]=>rfl
 | a::r,[]=>rfl
 | [],_::_=>rfl
 | a::r,b::s=>by simp [an,ir k r s]
theorem S5_ (k:Int):∀ (r s:List Int) (j:Nat) (a b:Int),r[j]?=some a->s[j]?=some b->(an k r s)[j]?=some (a-k*b)
 | [],_,j,a,b,h,_=>by simp at h
 | _::_,[],j,a,b,_,h=>by simp at h
 | x::r,y::s,0,a,b,h,h'=>by simp at h h';subst h;subst h';rfl
 | x::r,y::s,j+1,a,b,h,h'=>by
  simp only [oO] at h h';exact S5_ k r s j a b h h'
def fR (k:Int) (r s:List Int):Option (List Int) :=
 if k=0 then some r
 else if s.length=r.length/\(j0 k && s.all j0 && r.all eu)=true then some (an k r s) else none
def aG (m:List (List Int)) (i:Nat):List Int:=m.getD i []
def aF (m:List (List Int)) (i c:Nat):Int:=(aG m i).getD c 0
def bP (c d:Nat) (m:List (List Int)):Nat->Option Nat
 | 0=>none
 | k+1=>match bP c d m k with
  | none=>if aF m (d+k) c=0 then none else some (d+k)
  | some a=>if aF m (d+k) c≠0/\(aF m (d+k) c).natAbs<(aF m a c).natAbs then some (d+k) else some a
def bR {α:Type} (l:List α) (i j:Nat):List α:=match l[i]?,l[j]? with
 | some a,some b=>(l.set i b).set j a
 | _,_=>l
def dA (c d:Nat) (m:List (List Int)):Nat->Option (List (List Int)×Bool)
 | 0=>some (m,false)
 | j+1=>match dA c d m j with
  | none=>none
  | some (m',rest) =>
   if aF m' d c=0 then none
   else match fR (aR (aF m' (d+1+j) c) (aF m' d c)) (aG m' (d+1+j)) (aG m' d) with
    | none=>none
    | some r=>some (m'.set (d+1+j) r,rest || decide (bF (aF m' (d+1+j) c) (aF m' d c)≠0))
def ev (c d:Nat) (m:List (List Int)):Nat->Option (List (List Int))
 | 0=>some m
 | j+1=>match ev c d m j with
  | none=>none
  | some m' =>
   if aF m' d c=0 then none
   else match fR (aR (aF m' j c) (aF m' d c)) (aG m' j) (aG m' d) with
    | none=>none
    | some r=>some (m'.set j r)
def cF (n:Nat) (m:List (List Int)):Bool:=m.all fun r=>decide (r.length=n) && r.all eu
def fI (n c d:Nat):Nat->List (List Int)->Option (List (List Int)×Bool)
 | 0,_=>none
 | f+1,m =>
  if cF n m then
   match bP c d m (m.length-d) with
   | none=>some (m,false)
   | some a=>match dA c d (bR m d a) (m.length-(d+1)) with
    | none=>none
    | some (m2,true)=>fI n c d f m2
    | some (m2,false) =>
     if cF n m2 then
      match ev c d (if aF m2 d c<0 then m2.set d ((aG m2 d).map (- ·)) else m2) d with
      | none=>none
      | some m4=>some (m4,true)
     else none
  else none
def fv (n F:Nat):Nat->Nat->Nat->List (List Int)->Option (List (List Int)×Nat)
 | 0,_,d,m=>some (m,d)
 | k+1,c,d,m =>
  if d<m.length then
   match fI n c d F m with
   | none=>none
   | some (m',p)=>fv n F k (c+1) (if p then d+1 else d) m'
  else some (m,d)
def dj (cols:Nat) (m:List (List Int)):List (List Int):=(List.range cols).map fun c=>m.map (fun r=>r.getD c 0)++(List.replicate cols (0:Int)).set c 1
structure bU (w:World) (g o:Nat) (xs:List Int):Prop where
 lt:g<w.heap.size
 cell:∀ (j:Nat) x,xs[j]?=some x->w.cell? ⟨g,o+j,none⟩=some (.string (aD x))
 free:∀ j,w.frozen? ⟨g,j,none⟩=false
theorem Z7_ {w w':World} {g:Nat} (h:w'.heap[g]?=w.heap[g]?) (j:Nat):w'.cell? ⟨g,j,none⟩=w.cell? ⟨g,j,none⟩:=by
 simp [World.cell?,h]
theorem W1_ {w w':World} {g:Nat} (h:w'.heap[g]?=w.heap[g]?) (j:Nat):w'.frozen? ⟨g,j,none⟩=w.frozen? ⟨g,j,none⟩:=by
 simp [World.frozen?,h]
theorem bU.same {w w':World} {g o:Nat} {xs:List Int} (h:bU w g o xs) (hs:w.heap.size<=w'.heap.size) (hg:w'.heap[g]?=w.heap[g]?):bU w' g o xs :=
 ⟨oH h.lt hs,fun j x hx=>(Z7_ hg _).trans (h.cell j x hx),fun j=>(W1_ hg j).trans (h.free j)⟩
theorem bU.ext {w w':World} {g o:Nat} {xs:List Int} (h:bU w g o xs) (he:aC w w'):bU w' g o xs:=h.same he.size (he.block g h.lt)
theorem bU.grown {w w':World} {S:Nat->Prop} {g o:Nat} {xs:List Int} (h:bU w g o xs) (hg:aP S w w') (hS:¬ S g):bU w' g o xs:=h.same hg.size (hg.block g h.lt hS)
theorem Z2_ (w:World) (g i b:Nat) (v:Value) (h:b≠g):(w.setCell ⟨g,i,none⟩ v).heap[b]?=w.heap[b]?:=by
 by_cases hb:b<w.heap.size
 ·exact (eJ w g i v).block b hb (fun e=>h (by cases e;rfl))
 ·have:(w.setCell ⟨g,i,none⟩ v).heap.size=w.heap.size:=by simp [World.setCell]
  rw [Array.getElem?_eq_none (by omega),Array.getElem?_eq_none (by omega)]
theorem nh (w:World) (a:Addr) (v:Value):(w.setCell a v).heap.size=w.heap.size:=by simp [World.setCell]
theorem Y1_ (w:World) (g i j:Nat) (v:Value):(w.setCell ⟨g,i,none⟩ v).frozen? ⟨g,j,none⟩=w.frozen? ⟨g,j,none⟩:=by
 exact World.frozen?_setCell ..
theorem bU.set {w:World} {g o:Nat} {xs:List Int} (h:bU w g o xs) (k:Nat) (hk:k<xs.length) (y:Int):bU (w.setCell ⟨g,o+k,none⟩ (.string (aD y))) g o (xs.set k y):=by
 refine ⟨by rw [nh];exact h.lt,fun j x hx=>?_,fun j=>by rw [Y1_];exact h.free j⟩;rw [oV] at hx;by_cases hj:k=j
 ·subst hj;rw [if_pos rfl,if_pos hk] at hx;cases hx;exact World.cell?_setCell_same w _ _ (h.cell k xs[k] (n9 hk))
 ·rw [if_neg hj] at hx;rw [World.cell?_setCell_other w _ _ _ (by intro e;simp only [Addr.mk.injEq] at e;omega)];exact h.cell j x hx
theorem bU.other {w:World} {g o:Nat} {xs:List Int} (h:bU w g o xs) (b i:Nat) (v:Value) (hb:g≠b):bU (w.setCell ⟨b,i,none⟩ v) g o xs :=
 h.same (by rw [nh];exact oJ _) (Z2_ w b i g v hb)
structure bh (w:World) (g0:Nat) (tags:List (Nat×Nat×Nat)) (m:List (List Int)):Prop where
 len:tags.length=m.length
 lt:g0<w.heap.size
 free:∀ j,w.frozen? ⟨g0,j,none⟩=false
 row:∀ (i:Nat) t r,tags[i]?=some t->m[i]?=some r->w.cell? ⟨g0,i,none⟩=some (.slice (some ⟨t.1,t.2.1,none⟩) r.length t.2.2)/\r.length<=t.2.2/\t.2.2<=maxLen/\bU w t.1 t.2.1 r
 nodup:(g0::tags.map (·.1)).Nodup
def mq (g0:Nat) (tags:List (Nat×Nat×Nat)) (b:Nat):Prop:=b∈g0::tags.map (·.1)
theorem bh.same {w w':World} {g0:Nat} {tags:List (Nat×Nat×Nat)} {m:List (List Int)} (h:bh w g0 tags m) (hs:w.heap.size<=w'.heap.size) (hb:∀ b,mq g0 tags b->w'.heap[b]?=w.heap[b]?):bh w' g0 tags m:=by
 have h0:=hb g0 (List.mem_cons_self ..);refine ⟨h.len,oH h.lt hs,fun j=>(W1_ h0 j).trans (h.free j),fun i t r ht hr=>?_,h.nodup⟩;obtain ⟨h1,h2,h3,h4⟩:=h.row i t r ht hr;exact ⟨(Z7_ h0 i).trans h1,h2,h3,h4.same hs (hb t.1 (List.mem_cons_of_mem _ (List.mem_map.2 ⟨t,oD ht,rfl⟩)))⟩
theorem bh.blt {w:World} {g0:Nat} {tags:List (Nat×Nat×Nat)} {m:List (List Int)} (h:bh w g0 tags m) {b:Nat} (hb:mq g0 tags b):b<w.heap.size:=by
 rcases List.mem_cons.1 hb with rfl | hb
 ·exact h.lt
 ·obtain ⟨t,ht,rfl⟩:=List.mem_map.1 hb;obtain ⟨i,hi⟩:=List.getElem?_of_mem ht;have hl:i<m.length:=by rw [<- h.len];exact (n_.1 hi).1
  exact (h.row i t m[i] hi (n9 hl)).2.2.2.lt
theorem bh.ext {w w':World} {g0:Nat} {tags:List (Nat×Nat×Nat)} {m:List (List Int)} (h:bh w g0 tags m) (he:aC w w'):bh w' g0 tags m :=
 h.same he.size fun b hb=>he.block b (h.blt hb)
theorem bh.get {w:World} {g0:Nat} {tags:List (Nat×Nat×Nat)} {m:List (List Int)} (h:bh w g0 tags m) (i:Nat) (hi:i<m.length) :
  ∃ t,tags[i]?=some t/\w.cell? ⟨g0,i,none⟩=some (.slice (some ⟨t.1,t.2.1,none⟩) (aG m i).length t.2.2)/\(aG m i).length<=t.2.2/\t.2.2<=maxLen/\bU w t.1 t.2.1 (aG m i)/\t.1≠g0:=by
 have hl:i<tags.length:=by rw [h.len];exact hi
 have e:aG m i=m[i]:=by unfold aG;rw [oC,n9 hi];rfl
 have:=h.row i tags[i] m[i] (n9 hl) (n9 hi);refine ⟨tags[i],n9 hl,?_⟩;rw [e];refine ⟨this.1,this.2.1,this.2.2.1,this.2.2.2,?_⟩;have hn:=(List.nodup_cons.1 h.nodup).1;intro e2;exact hn (List.mem_map.2 ⟨tags[i],List.getElem_mem hl,e2⟩)
theorem bh.apart {w:World} {g0:Nat} {tags:List (Nat×Nat×Nat)} {m:List (List Int)} (h:bh w g0 tags m) {i j:Nat} {s t:Nat×Nat×Nat} (hs:tags[i]?=some s) (ht:tags[j]?=some t) (qK:i≠j):s.1≠t.1:=by
 have hn:=(List.nodup_cons.1 h.nodup).2;intro e;have h1:(tags.map (·.1))[i]?=some s.1:=by rw [oE,hs];rfl
 have h2:(tags.map (·.1))[j]?=some s.1:=by rw [oE,ht,e];rfl
 obtain ⟨l1,e1⟩:=n_.1 h1;obtain ⟨l2,e2⟩:=n_.1 h2;exact qK ((List.getElem_inj hn).1 (e1.trans e2.symm))
theorem bh.setRow {w w':World} {g0:Nat} {tags:List (Nat×Nat×Nat)} {m:List (List Int)} (h:bh w g0 tags m) (i:Nat) (hi:i<m.length) (t:Nat×Nat×Nat) (ht:tags[i]?=some t) (r:List Int) (hr:r.length=(aG m i).length) (hg:aP (·=t.1) w w') (hR:bU w' t.1 t.2.1 r):bh w' g0 tags (m.set i r):=by
 obtain ⟨t',qv,-,-,-,-,hne⟩:=h.get i hi;obtain rfl:t'=t:=oL (qv.symm.trans ht);have h0:=hg.block g0 h.lt (fun e=>hne e.symm);refine ⟨by rw [List.length_set];exact h.len,oH h.lt hg.size,fun j=>(W1_ h0 j).trans (h.free j),fun j s q hs hq=>?_,h.nodup⟩;rw [oV] at hq;by_cases hj:i=j
 ·subst hj;rw [if_pos rfl,if_pos hi] at hq;cases hq;obtain rfl:s=t':=oL (hs.symm.trans ht);have e:aG m i=m[i]:=by unfold aG;rw [oC,n9 hi];rfl
  obtain ⟨h1,h2,h3,h4⟩:=h.row i s m[i] hs (n9 hi);rw [<- e,<- hr] at h1 h2;exact ⟨(Z7_ h0 i).trans h1,h2,h3,hR⟩
 ·rw [if_neg hj] at hq;obtain ⟨h1,h2,h3,h4⟩:=h.row j s q hs hq;exact ⟨(Z7_ h0 j).trans h1,h2,h3,h4.grown hg (h.apart hs ht (fun e=>hj e.symm))⟩
section
variable {P:Program} {ops O:Array Oper} {Q:Exit->Act->World->Prop} {md:Region.Mode} {S:World->Prop} {z n:Nat}
theorem tX (hO:Hid (ops=O)) (i:Nat) {oi:Oper} {v:Value} {f:Nat} {l:Array Bool} {a:Act} {w:World} (hi:ops[i]?=some oi) (hy:Yields P O oi v a) (h:bL P md ops Q S z f (l.setIfInBounds i true) (a.put oi.dst v) w) (hS:S w:=by assumption) (hs:Region.noSelect O=true:=by kernel_rfl) (hf:Region.free md O l i=true:=by kernel_rfl) (hr:(Region.ready md O l).contains i=true:=by kernel_rfl) (hz:decide (i≠z)=true:=by kernel_rfl) (hQ:∀ c a w,Q (.panic c) (a.put oi.dst v) w->Q (.panic c) a w:=by exact fun _ _ _ h=>h):bL P md ops Q S z (f+1) l a w:=L7_ hO i hi hs hf hr hz hQ hy hS h
theorem tY (hO:Hid (ops=O)) (i:Nat) {oi:Oper} {v:Value} {f:Nat} {l:Array Bool} {a:Act} {w:World} (hi:ops[i]?=some oi) (hy:YieldsIf P O S oi v a) (h:bL P md ops Q S z f (l.setIfInBounds i true) (a.put oi.dst v) w) (hS:S w:=by assumption) (hs:Region.noSelect O=true:=by kernel_rfl) (hf:Region.free md O l i=true:=by kernel_rfl) (hr:(Region.ready md O l).contains i=true:=by kernel_rfl) (hz:decide (l.size<=z)=true:=by kernel_rfl) (hQ:∀ c a w,Q (.panic c) (a.put oi.dst v) w->Q (.panic c) a w:=by exact fun _ _ _ h=>h):bL P md ops Q S z (f+1) l a w:=F7_ hO i hi hs hf hr hz hQ hy hS h
end
section
variable {P:Program} {ops O:Array Oper} {Q:Exit->Act->World->Prop} {md:Region.Mode} {S:World->Prop} {z n:Nat}
theorem rS (hO:Hid (ops=O)) {i:Nat} {is:List Nat} {p:Prop} (hl:i<O.size) (h:∀ oi,O[i]=oi->Z6l ops i oi is p):ji (i::is) p:=by
 have hO:ops=O:=hO;subst hO;exact h _ rfl (Array.getElem?_eq_getElem hl)
theorem rX (hO:Hid (ops=O)) {i:Nat} {is:List Nat} {oi:Oper} {v:Value} {f:Nat} {l:Array Bool} {a:Act} {w:World} (hy:Yields P O oi v a) (h:ji is (bL P md ops Q S z f (l.setIfInBounds i true) (a.put oi.dst v) w)) (hS:S w:=by assumption) (hs:Region.noSelect O=true:=by kernel_rfl) (hf:Region.free md O l i=true:=by kernel_rfl) (hr:(Region.ready md O l).contains i=true:=by kernel_rfl) (hz:decide (i≠z)=true:=by kernel_rfl) (hQ:∀ c a w,Q (.panic c) (a.put oi.dst v) w->Q (.panic c) a w:=by exact fun _ _ _ h=>h):Z6l ops i oi is (bL P md ops Q S z (f+1) l a w):=fun hi=>L7_ hO i hi hs hf hr hz hQ hy hS h
theorem rY (hO:Hid (ops=O)) {i:Nat} {is:List Nat} {oi:Oper} {v:Value} {f:Nat} {l:Array Bool} {a:Act} {w:World} (hy:YieldsIf P O S oi v a) (h:ji is (bL P md ops Q S z f (l.setIfInBounds i true) (a.put oi.dst v) w)) (hS:S w:=by assumption) (hs:Region.noSelect O=true:=by kernel_rfl) (hf:Region.free md O l i=true:=by kernel_rfl) (hr:(Region.ready md O l).contains i=true:=by kernel_rfl) (hz:decide (l.size<=z)=true:=by kernel_rfl) (hQ:∀ c a w,Q (.panic c) (a.put oi.dst v) w->Q (.panic c) a w:=by exact fun _ _ _ h=>h):Z6l ops i oi is (bL P md ops Q S z (f+1) l a w):=fun hi=>F7_ hO i hi hs hf hr hz hQ hy hS h
end
end Go.Proofs.YtjlkkofmojgipaaGreatDoor
