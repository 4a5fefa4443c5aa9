import Derived.Test.YtjlkkofmojgipaaGreatDoorXAW
import Derived.Test.YtjlkkofmojgipaaGreatDoorXAY
import Derived.Test.YtjlkkofmojgipaaGreatDoorXAE
import Derived.Test.YtjlkkofmojgipaaGreatDoorXAU
namespace Go.Proofs.YtjlkkofmojgipaaGreatDoor
set_option linter.unusedVariables false
set_option linter.unusedSimpArgs false
open Go.RowKit Go.Maps
theorem nums_blk {w:World} {g z:Nat} {X:List Int} {T:TypeId} (h:w.heap[g]?=some (.cells (strsI X).toArray T (0,0))) (hz:z=X.length) (hl:X.length≤1000):ListAt 1 numC w (.slice (some ⟨g,0,none⟩) z z) X:=by
 subst hz
 have hfl:(X.map fun x=>[Value.string (intB x)]).flatten=X.map fun x=>Value.string (intB x):=flatten_one (fun x=>Value.string (intB x)) X
 refine ⟨X.map fun x=>[.string (intB x)],by simp,by simp,⟨some ⟨g,0,none⟩,X.length,by simp,Nat.le_of_eq (by simp),by unfold maxLen;omega,(fun h=>by cases h),fun _=>⟨g,0,rfl,block_lt h,fun j u hu=>?_⟩⟩,?_⟩
 ·rw [hfl] at hu
  rw [block_cell h,Nat.zero_add];unfold strsI;simpa using hu
 ·intro j u x hu hx
  rw [List.getElem?_map,hx] at hu
  exact (Option.some.inj hu).symm
theorem strs_nou64 {l:List Int} {j:Nat} {s:Int} (h:some (Value.int .u64 s)=(strsI l).toArray[j]?):False:=by
 unfold strsI at h
 rw [List.getElem?_toArray,List.getElem?_map] at h
 cases hx:l[j]? with
 | none=>rw [hx] at h;cases h
 | some x=>rw [hx] at h;cases h
theorem strs_set (l:List Int) (p:Nat) (x:Int):(strsI l).set p (.string (intB x))=strsI (l.set p x):=by unfold strsI;rw [List.map_set]
theorem size_of_absP {x:Int} {K:Nat} (h:x.natAbs<10^K) (hK:1≤K):(intB x).size≤K+1:=by
 have h1:=numB_size_le x.natAbs K h hK
 have h2:=intB_size_le x
 omega
theorem row_size {n ka kb:Nat} {A B:List Int} (hA:Digits400 A) (hB:Digits400 B) {i k:Nat} (hi:i≤924) (hk:k≤924) (h2:(allW n kb).length≤924):∀ x∈rowP n ka kb A B i (prodTo n ka kb A B i) k,(intB x).size≤2000:=by
 intro x hx
 have hA':AbsLe (10^400) A:=fun y hy=>Nat.le_of_lt (hA y hy)
 have hB':AbsLe (10^400) B:=fun y hy=>Nat.le_of_lt (hB y hy)
 have h9:=rowP_le (n:=n) (ka:=ka) (kb:=kb) hA' hB' (prodTo_le (n:=n) (ka:=ka) (kb:=kb) hA' hB' i) i k x hx
 have e1:=Nat.mul_le_mul hi (Nat.mul_le_mul_right (10^400*10^400) h2)
 have e2:=Nat.mul_le_mul_right (10^400*10^400) hk
 have e3:924*(924*(10^400*10^400))+924*(10^400*10^400)<10^810:=by decide +kernel
 exact Nat.le_trans (size_of_absP (Nat.lt_of_le_of_lt (Nat.le_trans h9 (Nat.add_le_add e1 e2)) e3) (by decide)) (by decide)
theorem mulW_size {x y:Int} (hx:x.natAbs<10^400) (hy:y.natAbs<10^400) (o:Bool):(intB (x*y)).size≤2000∧(intB (sgnI (x*y) o)).size≤2000:=by
 have h1:(x*y).natAbs<10^810:=by
  rw [Int.natAbs_mul]
  exact Nat.lt_of_le_of_lt (Nat.mul_le_mul (Nat.le_of_lt hx) (Nat.le_of_lt hy)) (by decide +kernel)
 exact ⟨Nat.le_trans (size_of_absP h1 (by decide)) (by decide),Nat.le_trans (size_of_absP (by rw [sgnI_abs];exact h1) (by decide)) (by decide)⟩
theorem stepP_at {n ka kb i k s t:Nat} {A B acc:List Int} {x y:Int} (hs:(allW n ka)[i]?=some s) (ht:(allW n kb)[k]?=some t) (hx:A[i]?=some x) (hy:B[k]?=some y) :
  stepP n ka kb A B i k acc=if s &&& t≠0∨x=0∨y=0 then acc else addAt acc (placeW n (ka+kb) (s ||| t)) (sgnI (x*y) (oddW s t)):=by
 unfold stepP
 rw [show (allW n ka).getD i 0=s by rw [List.getD_eq_getElem?_getD,hs];rfl,show (allW n kb).getD k 0=t by rw [List.getD_eq_getElem?_getD,ht];rfl,show A.getD i 0=x by rw [List.getD_eq_getElem?_getD,hx];rfl,show B.getD k 0=y by rw [List.getD_eq_getElem?_getD,hy];rfl]
def orMB (n a b:Nat):Bool:=(allW n a).all fun s=>(allW n b).all fun t=>decide (s &&& t≠0) || decide ((s ||| t)∈allW n (a+b))
theorem orM_all:∀ n,n<7→∀ a,a<n+1→∀ b,b<n+1-a→orMB n a b=true:=by decide +kernel
theorem or_mem {n a b s t:Nat} (hn:n<7) (hab:a+b≤n) (hs:s∈allW n a) (ht:t∈allW n b) (h:s &&& t=0):(s ||| t)∈allW n (a+b):=by
 have h1:=List.all_eq_true.1 (List.all_eq_true.1 (orM_all n hn a (by omega) b (by omega)) s hs) t ht
 rw [h] at h1
 simpa using h1
theorem str0_of {x:Int} (h:x=0):((intB x).toList == [48])=true:=by rw [int_zeroW,h];rfl
theorem str0_no {x:Int} (h:x≠0):((intB x).toList == [48])=false:=by rw [int_zeroW];exact decide_eq_false h
set_option maxRecDepth 100000 in
set_option maxHeartbeats 1000000 in
theorem prodM_any {n ka kb:Nat} {A B:List Int} (hn:n<7) (hA:RightM n ka A) (hB:RightM n kb B) (hk:ka+kb≤n) (u v:Value) (w:World) (h:MultiV w u n ka A) (hv:MultiV w v n kb B) (ht:Pow10 w) :
  Calls Tryz.prog 42 #[u,v] w fun e w'=>∃ y,e=.returned (.tuple #[y,.int .i64 0])∧Ext w w'∧MultiV w' y n (ka+kb) (prodL n ka kb A B):=by
 have HCA:Hid (∀ W,Ext w W→Calls Tryz.prog 47 #[u] W fun e w'=>e=.returned (.int .i64 0)∧Ext W w'):=fun W hW=>checkR_any hA u W (h.ext hW)
 have HCB:Hid (∀ W,Ext w W→Calls Tryz.prog 47 #[v] W fun e w'=>e=.returned (.int .i64 0)∧Ext W w'):=fun W hW=>checkR_any hB v W (hv.ext hW)
 obtain ⟨ua,rfl,hua⟩:=h
 obtain ⟨ub,rfl,hub⟩:=hv
 have HUA:=Lib.hid hua;have HUB:=Lib.hid hub
 obtain ⟨a,ca,rfl,a1,a2,-,ac⟩:=inCell.open (BigL.of_nums hua)
 obtain ⟨b,cb,rfl,b1,b2,-,bc⟩:=inCell.open (BigL.of_nums hub)
 unfold maxLen at a2 b2
 have HAC:=Lib.hid ac;have HBC:=Lib.hid bc
 have HAR:=Lib.hid hA;have HBR:=Lib.hid hB
 have HT:=Lib.hid ht
 have HN:=Lib.hid hn
 obtain ⟨ma,hma⟩:∃ m,A.length=m:=⟨_,rfl⟩
 obtain ⟨mb,hmb⟩:∃ m,B.length=m:=⟨_,rfl⟩
 have HMA:=Lib.hid hma;have HMB:=Lib.hid hmb
 rw [hma] at a1 HCA ⊢
 rw [hmb] at b1 HCB ⊢
 obtain ⟨w1,hw1,hE1,hs1,hb1⟩:=boxM w (.int .i64 n) (.int .i64 ka) (.slice a ma ca)
 obtain ⟨w2,hw2,hE2,hs2,hb2⟩:=boxM w1 (.int .i64 n) (.int .i64 kb) (.slice b mb cb)
 obtain ⟨w3,hw3,hE3,hs3,hb3⟩:=boxM w2 (.int .i64 0) (.int .i64 0) (.slice none 0 0)
 have HE3:=Lib.hid ((hE1.trans hE2).trans hE3)
 have HB1:=Lib.hid (block_ext hb1 (hE2.trans hE3));have HB2:=Lib.hid (block_ext hb2 hE3);have HB3:=Lib.hid hb3
 have HSZ:Hid (w1.heap.size=w.heap.size+1∧w2.heap.size=w1.heap.size+1∧w3.heap.size=w2.heap.size+1):=⟨hs1,hs2,hs3⟩
 have k1:=block_cell HB1.out;have k2:=block_cell HB2.out
 obtain ⟨d,hd⟩:∃ d,ka+kb=d:=⟨_,rfl⟩
 have HD:=Lib.hid hd
 have e1:IntKind.i64.wrap ((ka:Int)+(kb:Int))=(d:Int):=by rw [IntKind.wrap_i64];omega
 have hdn:d≤n:=by omega
 have q1:decide ((n:Int)<(d:Int))=false:=by simp;omega
 obtain ⟨D,hD⟩:∃ D,prodL n ka kb A B=D:=⟨_,rfl⟩
 have HDD:=Lib.hid hD
 rw [hD,hd]
 have hHA:=hA.kn;have hHB:=hB.kn
 clear hb1 hb2 hb3 hE1 hE2 hE3 hua hub hs1 hs2 hs3 hA hB hma hmb hD hd ac bc ht hk
 go_enter Tryz.func42,Tryz.ntmps42
 go_wp2_with fail
 go_loopw [21] (fun t wr=>∃ i:Nat,i≤2∧t=.int .i64 i∧Hid (Ext w3 wr)) (fun t _=>2-(intOf t).toNat)
 case atStart=>exact ⟨0,by omega,rfl,by first | exact Ext.refl _ | exact Ext.drew _⟩
 case round =>
  obtain ⟨i,hi,rfl,HX⟩:=hrel
  obtain ⟨wo,rfl⟩:∃ wo:World,wo=wr:=⟨_,rfl⟩
  by_cases hlt:i<2
  ·obtain ⟨kx,bx,mx,cx,HIX,HCX⟩:∃ (kx:Nat) (bx:Option Addr) (mx cx:Nat),Hid (∀ W,(Instr.index 130 (.agg #[.int .i64 n,.int .i64 ka,.slice a ma ca,.int .i64 n,.int .i64 kb,.slice b mb cb]) (.int .i64 (i:Int))).run Tryz.prog W=.ok (.agg #[.int .i64 n,.int .i64 kx,.slice bx mx cx]) W)∧Hid (∀ W,Ext w W→Calls Tryz.prog 47 #[.agg #[.int .i64 n,.int .i64 kx,.slice bx mx cx]] W fun e w'=>e=.returned (.int .i64 0)∧Ext W w'):=by
    obtain ⟨inf,hinf⟩:=infoMul
    have hag:∀ w,(isAgg 31).run Tryz.prog w=.ok true w:=fun w=>by kernel_rfl
    rcases (by omega:i=0∨i=1) with rfl | rfl
    ·exact ⟨ka,a,ma,ca,fun W=>run_index_struct W _ _ 2 3 _ _ _ 0 inf Tryz.underlying130 hag hinf cellsMul rfl (by omega),HCA⟩
    ·exact ⟨kb,b,mb,cb,fun W=>run_index_struct W _ _ 2 3 _ _ _ 1 inf Tryz.underlying130 hag hinf cellsMul rfl (by omega),HCB⟩
   have hix:=HIX.out wo
   obtain ⟨w4,hw4,hE4,hs4,hb4⟩:=boxM wo (.int .i64 0) (.int .i64 0) (.slice none 0 0)
   have f4:=block_free hb4
   have k4:=block_cell hb4
   have HE4:=Lib.hid hE4;have HB4:=Lib.hid hb4
   clear hE4 hs4 hb4
   go_upto_region 4 with fail
   generalize hw9:World.setCell _ _ _=w5
   have HB5:Hid (w5.heap[wo.heap.size]?=some (.cells #[.int .i64 n,.int .i64 kx,.slice bx mx cx] 31 (0,0))):=by rw [← hw9];exact multi_store HB4.out _ _ _
   have HE5:Hid (Ext wo w5):=by rw [← hw9];exact multi_ext HE4.out (Nat.le_refl _) _ _ _
   have k5:=block_cell HB5.out
   clear hw9 hw4 k4 f4 hix
   go_wp2_with fail
   refine (HCX.out w5 (HE3.out.trans (HX.out.trans HE5.out))).mono ?_
   rintro e w6 ⟨rfl,h6⟩
   have HE6:Hid (Ext w3 w6):=HX.out.trans (HE5.out.trans h6)
   clear h6 k5
   go_wp2_with fail
   go_roundw
   case rel=>exact ⟨i+1,by omega,by go_num,HE6.out⟩
   case measure=>simp [intOf];omega
  ·obtain rfl:i=2:=by omega
   have d0:=block_cell (block_ext HB1.out HX.out) 0;have d1:=block_cell (block_ext HB1.out HX.out) 1;have d2:=block_cell (block_ext HB2.out HX.out) 0;have d3:=block_cell (block_ext HB2.out HX.out) 1
   simp only [List.getElem?_toArray,List.getElem?_cons_succ,List.getElem?_cons_zero] at d0 d1 d2 d3
   obtain ⟨w4,hw4,hE4,hs4,hb4⟩:=boxM wo (.int .i64 0) (.int .i64 0) (.slice none 0 0)
   have f4:=block_free hb4
   have k4:=block_cell hb4
   have HE4:=Lib.hid hE4;have HB4:=Lib.hid hb4
   clear hE4 hs4 hb4 k1 k2
   go_upto_region 14 with fail
   generalize hw9:World.setCell _ _ _=w5
   have HB5:Hid (w5.heap[wo.heap.size]?=some (.cells #[.int .i64 n,.int .i64 d,.slice none 0 0] 31 (0,0))):=by rw [← hw9];exact multi_store HB4.out _ _ _
   have HE5:Hid (Ext wo w5):=by rw [← hw9];exact multi_ext HE4.out (Nat.le_refl _) _ _ _
   have HB15:=Lib.hid (block_ext HB1.out (HX.out.trans HE5.out))
   have HB25:=Lib.hid (block_ext HB2.out (HX.out.trans HE5.out))
   have HB35:=Lib.hid (block_ext HB3.out (HX.out.trans HE5.out))
   have HO:Hid (w.heap.size<w1.heap.size∧w1.heap.size<w2.heap.size∧w2.heap.size<wo.heap.size):=by have:=HX.out.size;have:=HSZ.out;unfold Hid;omega
   clear hw9 hw4 k4 f4 d0 d1 d2 d3
   have HPL:Hid (∀ W,Calls Tryz.prog 59 #[.int .i64 n,.int .i64 d] W fun e w'=>∃ v,e=.returned v∧Ext W w'∧PlacesM2 w' v n d):=fun W=>places2_any n d HN.out hdn W
   have d1:=block_cell HB5.out 1
   simp only [List.getElem?_toArray,List.getElem?_cons_succ,List.getElem?_cons_zero] at d1
   go_wp2_with fail
   refine (HPL.out w5).mono ?_
   rintro e w6 ⟨v6,rfl,h6,hP6⟩
   obtain ⟨b6,N6,rfl,hI6⟩:=hP6
   have HP6:Hid (PlacesM2 w6 (.map (some b6)) n d):=⟨b6,N6,rfl,hI6⟩
   have HE6:Hid (Ext w5 w6):=h6
   obtain ⟨w7,hw7⟩:∃ W,w6.alloc (.cells #[.string ⟨#[48]⟩] 53)=W:=⟨_,rfl⟩
   have HE7:Hid (Ext w6 w7):=by rw [← hw7];exact Ext.alloc _ _
   have HNL:Hid (ListAt 1 numC w7 (.slice (some ⟨w6.heap.size,0,none⟩) 1 1) [0]):=by rw [← hw7];exact nums_blk (X:=[0]) (by have h:=block_new w6 #[Value.string (intB 0)] 53;rw [show intB 0=⟨#[48]⟩ by decide +kernel] at h;rw [show (strsI [0]).toArray=#[Value.string ⟨#[48]⟩] by show #[Value.string (intB 0)]=_;rw [show intB 0=⟨#[48]⟩ by decide +kernel]];exact h) rfl (by decide)
   have HL7:Hid (w6.heap.size<w7.heap.size):=by rw [← hw7];simp [Hid]
   obtain ⟨D6,hown6,-,-,-,hsize6,-⟩:=hI6.ext HE7.out
   have hzl:=allW_len (n:=n) (k:=d) (by have:=HN.out;omega) hdn
   obtain ⟨z,hz⟩:∃ z,(allW n d).length=z:=⟨_,rfl⟩
   rw [hz] at hsize6 hzl
   have HZ:=Lib.hid hz;have HZL:=Lib.hid hzl
   have HRP:Hid (Calls Tryz.prog 89 #[.slice (some ⟨w6.heap.size,0,none⟩) 1 1,.int .i64 (z:Int)] w7 fun e w'=>∃ g,e=.returned (.slice (some ⟨g,0,none⟩) z z)∧w'.heap[g]?=some (.cells (repI 0 z z).toArray 53 (0,0))∧w7.heap.size≤g∧Ext w7 w'):=repeatI_any 0 z (by omega) _ w7 HNL.out
   clear h6 hI6 HPL d1 hz hzl
   go_wp2_with (first | (at_len;refine wpList_len_own _ rfl _ 96 rfl 100 3 Tryz.underlying96 _ b6 N6 D6 rfl hown6 ?_;rw [hsize6]) | fail)
   refine HRP.out.mono ?_
   rintro e w8 ⟨g,rfl,hg,hgs,h8⟩
   have HG8:=Lib.hid hg
   have HE78:=Lib.hid h8
   have HE8:Hid (Ext w5 w8):=HE6.out.trans (HE7.out.trans h8)
   have HB58:=Lib.hid (block_ext HB5.out HE8.out)
   have k8:=block_cell HB58.out;have f8:=block_free HB58.out
   have HGL:Hid (wo.heap.size<g):=by have:=HL7.out;have:=HE6.out.size;have:=HE5.out.size;have:=block_lt HB5.out;unfold Hid;omega
   clear h8 hg hgs hown6 hsize6 HRP hw7
   go_upto_region 16 with fail
   generalize hw9:World.setCell _ _ _=w9
   have HB59:Hid (w9.heap[wo.heap.size]?=some (.cells #[.int .i64 n,.int .i64 d,.slice (some ⟨g,0,none⟩) z z] 31 (0,0))):=by rw [← hw9];exact block_set HB58.out 2 _
   have HG9:Hid (w9.heap[g]?=some (.cells (strsI (prodTo n ka kb A B 0)).toArray 53 (0,0))):=by
    unfold Hid
    rw [← hw9,(grown_setCell w8 wo.heap.size 2 _).block g (block_lt HG8.out) (by intro e;cases e;exact absurd HGL.out (Nat.lt_irrefl _)),HG8.out,repI_all,prodTo,HD.out,HZ.out]
   have HX5:Hid (Ext w3 w5):=HX.out.trans HE5.out
   have HE9:Hid (Ext w3 w9):=by
    rw [← hw9]
    exact (HX5.out.trans HE8.out).setCell (p:=⟨wo.heap.size,2,none⟩) HX.out.size _
   have HB19:=Lib.hid (block_ext HB1.out HE9.out)
   have HB29:=Lib.hid (block_ext HB2.out HE9.out)
   have HB39:=Lib.hid (block_ext HB3.out HE9.out)
   have HEA:Hid (Ext w w9):=HE3.out.trans HE9.out
   have HP9:Hid (PlacesM w9 (.map (some b6)) n d):=by
    have h1:=((HP6.out.one.ext HE7.out).ext HE78.out).grownS (grownBy_S (S:=(·=wo.heap.size)) (grown_setCell w8 wo.heap.size 2 (.slice (some ⟨g,0,none⟩) z z)) (fun k hk=>by cases hk;rfl)) HB58.out
    rw [hw9] at h1;exact h1
   clear hw9 k8 f8
   have d1:=block_cell HB19.out 1;have d3:=block_cell HB29.out 1
   simp only [List.getElem?_toArray,List.getElem?_cons_succ,List.getElem?_cons_zero] at d1 d3
   have HAL:Hid (∀ k,k≤n→∀ W,Calls Tryz.prog 60 #[.int .i64 n,.int .i64 k] W (UintsR (allW n k) W)):=fun k hk W=>all_any n k (by have:=HN.out;omega) hk W
   go_wp2_with fail
   refine (HAL.out kb hHB w9).mono ?_
   rintro e w10 ⟨v10,rfl,h10,hU2⟩
   obtain ⟨s2,c2,rfl,l2,m2,x2⟩:=hU2.open
   unfold maxLen at m2
   have HB1a:=Lib.hid (block_ext HB19.out h10)
   have HX2:=Lib.hid x2
   have HE10:Hid (Ext w9 w10):=h10
   clear d1 d3 hU2 x2 h10
   have d1:=block_cell HB1a.out 1
   simp only [List.getElem?_toArray,List.getElem?_cons_succ,List.getElem?_cons_zero] at d1
   go_wp2_with fail
   refine (HAL.out ka hHA w10).mono ?_
   rintro e wS ⟨v11,rfl,h11,hU1⟩
   obtain ⟨s1,c1,rfl,l1,m1,x1⟩:=hU1.open
   unfold maxLen at m1
   have HX1:=Lib.hid x1
   have HE11:Hid (Ext w10 wS):=h11
   have HE9S:Hid (Ext w9 wS):=HE10.out.trans h11
   have HES:Hid (Ext w wS):=HEA.out.trans HE9S.out
   have HB1S:=Lib.hid (block_ext HB19.out HE9S.out)
   have HB2S:=Lib.hid (block_ext HB29.out HE9S.out)
   have HB3S:=Lib.hid (block_ext HB39.out HE9S.out)
   have HB5S:=Lib.hid (block_ext HB59.out HE9S.out)
   have HGS:=Lib.hid (block_ext HG9.out HE9S.out)
   have HPS:=Lib.hid (HP9.out.ext HE9S.out)
   have HGO:Hid (w.heap.size≤wo.heap.size∧w.heap.size≠g∧w1.heap.size≠g∧w2.heap.size≠g∧wo.heap.size≠g∧w.heap.size<g):=by have:=HO.out;have:=HGL.out;unfold Hid;omega
   have HLT1:Hid (∀ s∈allW n ka,s<4096):=allW_lt (by have:=HN.out;omega) hHA
   have HLT2:Hid (∀ s∈allW n kb,s<4096):=allW_lt (by have:=HN.out;omega) hHB
   have HL1:=Lib.hid (allW_len (n:=n) (k:=ka) (by have:=HN.out;omega) hHA)
   have HL2:=Lib.hid (allW_len (n:=n) (k:=kb) (by have:=HN.out;omega) hHB)
   have HOR:Hid (∀ s∈allW n ka,∀ t∈allW n kb,s &&& t=0→(s ||| t)∈allW n d∧(s ||| t)<4096∧placeW n d (s ||| t)<z):=fun s hs t ht h=>by
    have h1:=or_mem HN.out (by rw [HD.out];exact hdn) hs ht h
    rw [HD.out] at h1
    exact ⟨h1,allW_lt (by have:=HN.out;omega) hdn _ h1,by rw [← HZ.out];exact (place_get HN.out hdn h1).2⟩
   have HLP:Hid (∀ i,(prodTo n ka kb A B i).length=z):=fun i=>by rw [prodTo_len,HD.out];exact HZ.out
   have HRS:Hid (∀ i k,i≤924→k≤924→∀ x∈rowP n ka kb A B i (prodTo n ka kb A B i) k,(intB x).size≤2000):=fun i k hi hk=>row_size HAR.out.dig HBR.out.dig hi hk HL2.out
   have HST:Hid (∀ i k s t x y acc,(allW n ka)[i]?=some s→(allW n kb)[k]?=some t→A[i]?=some x→B[k]?=some y→stepP n ka kb A B i k acc=if s &&& t≠0∨x=0∨y=0 then acc else addAt acc (placeW n d (s ||| t)) (sgnI (x*y) (oddW s t))):=fun i k s t x y acc hs ht hx hy=>by
    have:=stepP_at (acc:=acc) hs ht hx hy
    rw [HD.out] at this;exact this
   have HLA:Hid (A.length=(allW n ka).length):=HAR.out.len
   have HLB:Hid (B.length=(allW n kb).length):=HBR.out.len
   have HPR:Hid (D=prodTo n ka kb A B (allW n ka).length):=HDD.out.symm
   obtain ⟨L1,hL1⟩:∃ L,allW n ka=L:=⟨_,rfl⟩
   obtain ⟨L2,hL2⟩:∃ L,allW n kb=L:=⟨_,rfl⟩
   obtain ⟨N1,hN1⟩:∃ N,L1.length=N:=⟨_,rfl⟩
   obtain ⟨N2,hN2⟩:∃ N,L2.length=N:=⟨_,rfl⟩
   have HN1:=Lib.hid hN1;have HN2:=Lib.hid hN2
   rw [hL1] at HX1 HLT1 HL1 HOR HST HLA HPR l1
   rw [hL2] at HX2 HLT2 HL2 HOR HST HLB l2
   rw [hN1] at HL1 HLA HPR l1
   rw [hN2] at HL2 HLB l2
   have HRW:Hid (∀ i,prodTo n ka kb A B (i+1)=rowP n ka kb A B i (prodTo n ka kb A B i) N2):=fun i=>by rw [prodTo,hL2,hN2]
   rw [hL1,hL2,hN1,hN2]
   clear d1 hU1 x1 h11 hL1 hL2 hN1 hN2 HAL
   go_wp2_with fail
   go_loopw [71] (fun t wr=>∃ i:Nat,i≤N1∧t=.int .i64 (i:Int)∧Hid (GrownS (·=g) wS wr)∧Hid (wr.heap[g]?=some (.cells (strsI (prodTo n ka kb A B i)).toArray 53 (0,0)))) (fun t _=>N1+1-(intOf t).toNat)
   case atStart=>exact ⟨0,by omega,by simp,GrownS.refl _ _,HGS.out⟩
   case round =>
    obtain ⟨i,hi,rfl,HG,HGB⟩:=hrel
    obtain ⟨wi,rfl⟩:∃ wi:World,wi=wr:=⟨_,rfl⟩
    by_cases hlt:i<N1
    ·obtain ⟨s,hs⟩:∃ s,L1[i]?=some s:=by
      rw [← HN1.out] at hlt
      exact ⟨_,List.getElem?_eq_getElem hlt⟩
     obtain ⟨x,hx⟩:∃ x,A[i]?=some x:=⟨_,List.getElem?_eq_getElem (by rw [HLA.out];exact hlt)⟩
     obtain ⟨b1',o1',rfl,hb1',hcell⟩:=HX1.out (by intro e;rw [e] at hs;simp at hs)
     have hc1:=hcell i s hs
     have hne1:b1'≠g:=by
      rintro rfl
      have:=block_cell HGS.out (o1'+i)
      rw [hc1] at this
      exact strs_nou64 this
     have hcs:=HG.out.cell hc1 hne1
     have HS:=Lib.hid hs;have HXX:=Lib.hid hx
     clear hs hx hcell hc1 hne1 hb1'
     go_wp2_with fail
     go_loopw [78] (fun t wr=>∃ k:Nat,k≤N2∧t=.int .i64 (k:Int)∧Hid (GrownS (·=g) wS wr)∧Hid (wr.heap[g]?=some (.cells (strsI (rowP n ka kb A B i (prodTo n ka kb A B i) k)).toArray 53 (0,0)))) (fun t _=>N2+1-(intOf t).toNat)
     case atStart=>exact ⟨0,by omega,by simp,HG.out,by rw [rowP];exact HGB.out⟩
     case round =>
      obtain ⟨k,hk,rfl,HG2,HGB2⟩:=hrel
      obtain ⟨wp,rfl⟩:∃ wp:World,wp=wr:=⟨_,rfl⟩
      by_cases hkl:k<N2
      ·obtain ⟨t,ht⟩:∃ t,L2[k]?=some t:=by
        rw [← HN2.out] at hkl
        exact ⟨_,List.getElem?_eq_getElem hkl⟩
       obtain ⟨y,hy⟩:∃ y,B[k]?=some y:=⟨_,List.getElem?_eq_getElem (by rw [HLB.out];exact hkl)⟩
       obtain ⟨b2',o2',rfl,hb2',hcell⟩:=HX2.out (by intro e;rw [e] at ht;simp at ht)
       have hc2:=HE11.out.cell (hcell k t ht)
       have hne2:b2'≠g:=by
        rintro rfl
        have:=block_cell HGS.out (o2'+k)
        rw [hc2] at this
        exact strs_nou64 this
       have hct:=HG2.out.cell hc2 hne2
       obtain ⟨ba,oa,rfl,hba,hca⟩:=HAC.out (by intro e;have:=HXX.out;rw [e] at this;simp at this)
       obtain ⟨z9,e9,g9⟩:=hca i x HXX.out
       obtain rfl:z9=.string (intB x):=e9
       obtain ⟨bb,ob,rfl,hbb,hcb⟩:=HBC.out (by intro e;rw [e] at hy;simp at hy)
       obtain ⟨z8,e8,g8⟩:=hcb k y hy
       obtain rfl:z8=.string (intB y):=e8
       have z3:=HG2.out.cell (HES.out.cell g9) (by have:=HGO.out;omega)
       have z5:=HG2.out.cell (HES.out.cell g8) (by have:=HGO.out;omega)
       have z2:=HG2.out.cell (block_cell HB1S.out 2) HGO.out.2.1
       have z4:=HG2.out.cell (block_cell HB2S.out 2) HGO.out.2.2.1
       have z6:=HG2.out.cell (block_cell HB5S.out 2) HGO.out.2.2.2.2.1
       (try simp only [List.getElem?_toArray,List.getElem?_cons_succ,List.getElem?_cons_zero] at z2 z4 z6)
       have hsm:=List.mem_of_getElem? HS.out
       have htm:=List.mem_of_getElem? ht
       have hs46:=HLT1.out s hsm
       have ht46:=HLT2.out t htm
       have f1:=bits_and_u64_nat s t (by omega) (by omega)
       have hia:(i:Int)<(ma:Int):=by have:=HMA.out;have:=HLA.out;omega
       have hkb:(k:Int)<(mb:Int):=by have:=HMB.out;have:=HLB.out;omega
       have HNX:Hid (rowP n ka kb A B i (prodTo n ka kb A B i) (k+1)=if s &&& t≠0∨x=0∨y=0 then rowP n ka kb A B i (prodTo n ka kb A B i) k else addAt (rowP n ka kb A B i (prodTo n ka kb A B i) k) (placeW n d (s ||| t)) (sgnI (x*y) (oddW s t))):=HST.out i k s t x y _ HS.out ht HXX.out hy
       have HRK:=Lib.hid (HRS.out i k (by have:=HL1.out;omega) (by have:=HL2.out;omega))
       have HLK:Hid ((rowP n ka kb A B i (prodTo n ka kb A B i) k).length=z):=by unfold Hid;rw [rowP_len];exact HLP.out i
       have HOR2:Hid (s &&& t=0→(s ||| t)∈allW n d∧(s ||| t)<4096∧placeW n d (s ||| t)<z):=HOR.out s hsm t htm
       obtain ⟨acc,hacc⟩:∃ l,rowP n ka kb A B i (prodTo n ka kb A B i) k=l:=⟨_,rfl⟩
       rw [hacc] at HGB2 HNX HRK HLK
       have hdx:=HAR.out.dig x (List.mem_of_getElem? HXX.out)
       have hdy:=HBR.out.dig y (List.mem_of_getElem? hy)
       have HDX:=Lib.hid hdx;have HDY:=Lib.hid hdy
       obtain ⟨q,hq⟩:∃ q,s &&& t=q:=⟨_,rfl⟩
       rw [hq] at f1 HNX HOR2
       clear hcell hc2 hne2 hca hcb g9 g8 hsm htm hq hacc hdx hdy ht hy hbb hba hb2'
       by_cases hq0:q=0
       ·subst hq0
        by_cases hx0:x=0
        ·have sx:=str0_of hx0
         have HNY:Hid (rowP n ka kb A B i (prodTo n ka kb A B i) (k+1)=acc):=by unfold Hid;rw [HNX.out,if_pos (Or.inr (Or.inl hx0))]
         obtain ⟨u1,hu1⟩:∃ u,intB x=u:=⟨_,rfl⟩
         rw [hu1] at sx z3
         clear hu1 hx0 HNX
         go_wp2_with fail
         go_roundw
         case rel=>exact ⟨k+1,by omega,by go_num,HG2.out,by rw [HNY.out];exact HGB2.out⟩
         case measure=>simp [intOf];omega
        ·have sx:=str0_no hx0
         by_cases hy0:y=0
         ·have sy:=str0_of hy0
          have HNY:Hid (rowP n ka kb A B i (prodTo n ka kb A B i) (k+1)=acc):=by unfold Hid;rw [HNX.out,if_pos (Or.inr (Or.inr hy0))]
          obtain ⟨u1,hu1⟩:∃ u,intB x=u:=⟨_,rfl⟩
          obtain ⟨u2,hu2⟩:∃ u,intB y=u:=⟨_,rfl⟩
          rw [hu1] at sx z3
          rw [hu2] at sy z5
          clear hu1 hu2 hx0 hy0 HNX
          go_wp2_with fail
          go_roundw
          case rel=>exact ⟨k+1,by omega,by go_num,HG2.out,by rw [HNY.out];exact HGB2.out⟩
          case measure=>simp [intOf];omega
         ·have sy:=str0_no hy0
          obtain ⟨hin,hr46,hpz⟩:=HOR2.out rfl
          have f3:=bits_or_u64_nat s t (by omega) (by omega)
          have HNY:Hid (rowP n ka kb A B i (prodTo n ka kb A B i) (k+1)=addAt acc (placeW n d (s ||| t)) (sgnI (x*y) (oddW s t))):=by unfold Hid;rw [HNX.out,if_neg (by rintro (h | h | h);exact h rfl;exact hx0 h;exact hy0 h)]
          have HOD:Hid (∀ W,Calls Tryz.prog 65 #[.int .u64 (s:Int),.int .u64 (t:Int)] W fun e w'=>e=.returned (.bool (oddW s t))∧Ext W w'):=fun W=>oddE_any s t hs46 ht46 W
          obtain ⟨rs,hrs⟩:∃ rs,s ||| t=rs:=⟨_,rfl⟩
          rw [hrs] at f3 hin hr46 hpz HNY
          have HPW:=Lib.hid (HPS.out.grownS HG2.out HGS.out)
          have hlk:=HPW.out.run hin hr46
          obtain ⟨p,hp⟩:∃ p,placeW n d rs=p:=⟨_,rfl⟩
          rw [hp] at hlk hpz HNY
          obtain ⟨o,ho⟩:∃ o,oddW s t=o:=⟨_,rfl⟩
          rw [ho] at HOD HNY
          obtain ⟨c0,hc0⟩:∃ c,acc[p]?=some c:=⟨_,List.getElem?_eq_getElem (by rw [HLK.out];exact hpz)⟩
          have hs0:=HRK.out c0 (List.mem_of_getElem? hc0)
          have hsz:=mulW_size HDX.out HDY.out o
          have hsx:=(digits_size HDX.out).2
          have hsy:=(digits_size HDY.out).2
          have z1:wp.cell? ⟨g,p,none⟩=some (.string (intB c0)):=by
           rw [block_cell HGB2.out,List.getElem?_toArray];unfold strsI;rw [List.getElem?_map,hc0];rfl
          have HAC2:Hid ((strsI acc).toArray.setIfInBounds p (.string (intB (c0+sgnI (x*y) o)))=(strsI (addAt acc p (sgnI (x*y) o))).toArray):=by
           unfold Hid addAt
           rw [List.setIfInBounds_toArray,strs_set,List.getD_eq_getElem?_getD,hc0];rfl
          have HMU:Hid (∀ W,Ext wp W→Calls Tryz.prog 63 #[.string (intB x),.string (intB y)] W fun e w'=>e=.returned (.string (intB (x*y)))∧Ext W w'):=fun W hW=>mulI_any x y W (by omega) (by omega) (HT.out.ext ((ext_grownS HES.out HG2.out (fun j hj e=>by have:=HGO.out;omega)).trans hW))
          have HSG:Hid (∀ W,Calls Tryz.prog 62 #[.string (intB (x*y)),.bool o] W fun e w'=>e=.returned (.string (intB (sgnI (x*y) o)))∧Ext W w'):=fun W=>signed_any (x*y) o W (by omega)
          have HAD:Hid (∀ W,Ext wp W→Calls Tryz.prog 61 #[.string (intB c0),.string (intB (sgnI (x*y) o))] W fun e w'=>e=.returned (.string (intB (c0+sgnI (x*y) o)))∧Ext W w'):=fun W hW=>addI_any _ _ W (by omega) (by omega) (HT.out.ext ((ext_grownS HES.out HG2.out (fun j hj e=>by have:=HGO.out;omega)).trans hW))
          obtain ⟨u1,hu1⟩:∃ u,intB x=u:=⟨_,rfl⟩
          obtain ⟨u2,hu2⟩:∃ u,intB y=u:=⟨_,rfl⟩
          obtain ⟨u3,hu3⟩:∃ u,intB (x*y)=u:=⟨_,rfl⟩
          obtain ⟨u4,hu4⟩:∃ u,intB (sgnI (x*y) o)=u:=⟨_,rfl⟩
          obtain ⟨u5,hu5⟩:∃ u,intB c0=u:=⟨_,rfl⟩
          obtain ⟨u6,hu6⟩:∃ u,intB (c0+sgnI (x*y) o)=u:=⟨_,rfl⟩
          rw [hu1] at sx z3 HMU
          rw [hu2] at sy z5 HMU
          rw [hu3] at HMU HSG
          rw [hu4] at HSG HAD
          rw [hu5] at HAD z1
          rw [hu6] at HAD HAC2
          have hpx:(p:Int)<(z:Int):=by omega
          clear hu1 hu2 hu3 hu4 hu5 hu6 hx0 hy0 HNX hin hr46 hrs hp ho hc0 hs0 hsz hsx hsy hpz hs46 ht46
          go_upto_region 25 with fail
          refine region_anyEV (fun w'=>w'.cell? ⟨w.heap.size,2,none⟩=some (.slice (some ⟨ba,oa,none⟩) ma ca)∧w'.cell? ⟨w1.heap.size,2,none⟩=some (.slice (some ⟨bb,ob,none⟩) mb cb)∧w'.cell? ⟨ba,oa+i,none⟩=some (.string u1)∧w'.cell? ⟨bb,ob+k,none⟩=some (.string u2)∧w'.cell? ⟨g,p,none⟩=some (.string u5)∧Hid (Ext wp w')) 21 22 (by kernel_rfl) (by kernel_rfl) ⟨(Ext.drew wp).cell z2,(Ext.drew wp).cell z4,(Ext.drew wp).cell z3,(Ext.drew wp).cell z5,(Ext.drew wp).cell z1,Ext.drew wp⟩ (fun ops hO hHeld=>?_)
          have hi:=getopN hO 0 (by decide)
          conv at hi=>rhs;arg 1;whnf
          refine tX hO (v:=?_) 0 hi (Or.inl ⟨by rfl,?_⟩) ?_
          rotate_left
          ·((intro w');(try go_simp);(try with_reducible rfl))
          clear hi
          (try simp only [Act.put,sx1,sx2,sx3])
          have hi:=getopN hO 1 (by decide)
          conv at hi=>rhs;arg 1;whnf
          refine tX hO (v:=?_) 1 hi (Or.inl ⟨by rfl,?_⟩) ?_
          rotate_left
          ·((intro w');(try go_simp);(try with_reducible rfl))
          clear hi
          (try simp only [Act.put,sx1,sx2,sx3])
          have hi:=getopN hO 2 (by decide)
          conv at hi=>rhs;arg 1;whnf
          refine tX hO (v:=?_) 2 hi (Or.inl ⟨by rfl,?_⟩) ?_
          rotate_left
          ·((intro w');(try go_simp);(try with_reducible rfl))
          clear hi
          (try simp only [Act.put,sx1,sx2,sx3])
          have hi:=getopN hO 3 (by decide)
          conv at hi=>rhs;arg 1;whnf
          refine anyE_takeP hO (v:=?_) 3 [19] hi (by kernel_rfl) (by kernel_rfl) (by kernel_rfl) (by kernel_rfl) (by kernel_rfl) (fun _ _ _ h=>h) (Or.inl ⟨by rfl,?_⟩) (by assumption) ?_
          rotate_left
          ·((intro w' hSw);(try dsimp only at hSw);(try go_simp);(try with_reducible rfl))
          clear hi
          (try simp only [Act.put,sx1,sx2,sx3])
          have hi:=getopN hO 4 (by decide)
          conv at hi=>rhs;arg 1;whnf
          refine tX hO (v:=?_) 4 hi (Or.inl ⟨by rfl,?_⟩) ?_
          rotate_left
          ·((intro w');(try go_simp);(try with_reducible rfl))
          clear hi
          (try simp only [Act.put,sx1,sx2,sx3])
          have hi:=getopN hO 5 (by decide)
          conv at hi=>rhs;arg 1;whnf
          refine anyE_takeP hO (v:=?_) 5 [19,18,14,8,7] hi (by kernel_rfl) (by kernel_rfl) (by kernel_rfl) (by kernel_rfl) (by kernel_rfl) (fun _ _ _ h=>h) (Or.inl ⟨by rfl,?_⟩) (by assumption) ?_
          rotate_left
          ·((intro w' hSw);(try dsimp only at hSw);(try go_simp);(try with_reducible rfl))
          clear hi
          (try simp only [Act.put,sx1,sx2,sx3])
          have hi:=getopN hO 6 (by decide)
          conv at hi=>rhs;arg 1;whnf
          refine tX hO (v:=?_) 6 hi (Or.inl ⟨by rfl,?_⟩) ?_
          rotate_left
          ·((intro w');(try go_simp);(try with_reducible rfl))
          clear hi
          (try simp only [Act.put,sx1,sx2,sx3])
          have hi:=getopN hO 7 (by decide)
          conv at hi=>rhs;arg 1;whnf
          refine tX hO (v:=?_) 7 hi (Or.inl ⟨by rfl,?_⟩) ?_
          rotate_left
          ·((intro w');(try go_simp);(try with_reducible rfl))
          clear hi
          (try simp only [Act.put,sx1,sx2,sx3])
          have hi:=getopN hO 8 (by decide)
          conv at hi=>rhs;arg 1;whnf
          refine anyE_takeP hO (v:=?_) 8 [19,18,14] hi (by kernel_rfl) (by kernel_rfl) (by kernel_rfl) (by kernel_rfl) (by kernel_rfl) (fun _ _ _ h=>h) (Or.inl ⟨by rfl,?_⟩) (by assumption) ?_
          rotate_left
          ·((intro w' hSw);(try dsimp only at hSw);(try go_simp);(try with_reducible rfl))
          clear hi
          (try simp only [Act.put,sx1,sx2,sx3])
          have hi:=getopN hO 9 (by decide)
          conv at hi=>rhs;arg 1;whnf
          refine tX hO (v:=?_) 9 hi (Or.inl ⟨by rfl,?_⟩) ?_
          rotate_left
          ·((intro w');(try go_simp);(try with_reducible rfl))
          clear hi
          (try simp only [Act.put,sx1,sx2,sx3])
          have hi:=getopN hO 10 (by decide)
          conv at hi=>rhs;arg 1;whnf
          refine anyE_takeP hO (v:=?_) 10 [19,18,14,13,12] hi (by kernel_rfl) (by kernel_rfl) (by kernel_rfl) (by kernel_rfl) (by kernel_rfl) (fun _ _ _ h=>h) (Or.inl ⟨by rfl,?_⟩) (by assumption) ?_
          rotate_left
          ·((intro w' hSw);(try dsimp only at hSw);(try go_simp);(try with_reducible rfl))
          clear hi
          (try simp only [Act.put,sx1,sx2,sx3])
          have hi:=getopN hO 11 (by decide)
          conv at hi=>rhs;arg 1;whnf
          refine tX hO (v:=?_) 11 hi (Or.inl ⟨by rfl,?_⟩) ?_
          rotate_left
          ·((intro w');(try go_simp);(try with_reducible rfl))
          clear hi
          (try simp only [Act.put,sx1,sx2,sx3])
          have hi:=getopN hO 12 (by decide)
          conv at hi=>rhs;arg 1;whnf
          refine tX hO (v:=?_) 12 hi (Or.inl ⟨by rfl,?_⟩) ?_
          rotate_left
          ·((intro w');(try go_simp);(try with_reducible rfl))
          clear hi
          (try simp only [Act.put,sx1,sx2,sx3])
          have hi:=getopN hO 13 (by decide)
          conv at hi=>rhs;arg 1;whnf
          refine anyE_takeP hO (v:=?_) 13 [19,18,14] hi (by kernel_rfl) (by kernel_rfl) (by kernel_rfl) (by kernel_rfl) (by kernel_rfl) (fun _ _ _ h=>h) (Or.inl ⟨by rfl,?_⟩) (by assumption) ?_
          rotate_left
          ·((intro w' hSw);(try dsimp only at hSw);(try go_simp);(try with_reducible rfl))
          clear hi
          (try simp only [Act.put,sx1,sx2,sx3])
          have hi:=getopN hO 15 (by decide)
          conv at hi=>rhs;arg 1;whnf
          refine tX hO (v:=?_) 15 hi (Or.inl ⟨by rfl,?_⟩) ?_
          rotate_left
          ·((intro w');(try go_simp);(try with_reducible rfl))
          clear hi
          (try simp only [Act.put,sx1,sx2,sx3])
          have hi:=getopN hO 16 (by decide)
          conv at hi=>rhs;arg 1;whnf
          refine tX hO (v:=?_) 16 hi (Or.inl ⟨by rfl,?_⟩) ?_
          rotate_left
          ·((intro w');(try go_simp);(try with_reducible rfl))
          clear hi
          (try simp only [Act.put,sx1,sx2,sx3])
          have hi:=getopN hO 14 (by decide)
          conv at hi=>rhs;arg 1;whnf
          refine anyE_stepV hO 14 (by kernel_rfl) hi (fun K hK=>?_)
          go_simp
          (go_at_call 63;refine (HMU.out _ (hHeld.2.2.2.2.2.out)).mono ?_)
          rintro e wz ⟨rfl,hEz⟩
          go_wp2_with fail
          refine hK.out _ _ ⟨(hEz).cell hHeld.1,(hEz).cell hHeld.2.1,(hEz).cell hHeld.2.2.1,(hEz).cell hHeld.2.2.2.1,(hEz).cell hHeld.2.2.2.2.1,Ext.trans hHeld.2.2.2.2.2.out (hEz)⟩ (fun hHeld=>?_)
          clear hK K hi
          (try simp only [Act.put,sx1,sx2,sx3])
          have hi:=getopN hO 17 (by decide)
          conv at hi=>rhs;arg 1;whnf
          refine anyE_stepV hO 17 (by kernel_rfl) hi (fun K hK=>?_)
          go_simp
          (go_at_call 65;refine (HOD.out _).mono ?_)
          rintro e wz ⟨rfl,hEz⟩
          go_wp2_with fail
          refine hK.out _ _ ⟨(hEz).cell hHeld.1,(hEz).cell hHeld.2.1,(hEz).cell hHeld.2.2.1,(hEz).cell hHeld.2.2.2.1,(hEz).cell hHeld.2.2.2.2.1,Ext.trans hHeld.2.2.2.2.2.out (hEz)⟩ (fun hHeld=>?_)
          clear hK K hi
          (try simp only [Act.put,sx1,sx2,sx3])
          have hi:=getopN hO 18 (by decide)
          conv at hi=>rhs;arg 1;whnf
          refine anyE_stepV hO 18 (by kernel_rfl) hi (fun K hK=>?_)
          go_simp
          (go_at_call 62;refine (HSG.out _).mono ?_)
          rintro e wz ⟨rfl,hEz⟩
          go_wp2_with fail
          refine hK.out _ _ ⟨(hEz).cell hHeld.1,(hEz).cell hHeld.2.1,(hEz).cell hHeld.2.2.1,(hEz).cell hHeld.2.2.2.1,(hEz).cell hHeld.2.2.2.2.1,Ext.trans hHeld.2.2.2.2.2.out (hEz)⟩ (fun hHeld=>?_)
          clear hK K hi
          (try simp only [Act.put,sx1,sx2,sx3])
          have hi:=getopN hO 19 (by decide)
          conv at hi=>rhs;arg 1;whnf
          refine anyE_stepV hO 19 (by kernel_rfl) hi (fun K hK=>?_)
          go_simp
          (go_at_call 61;refine (HAD.out _ (hHeld.2.2.2.2.2.out)).mono ?_)
          rintro e wy ⟨rfl,hEz⟩
          go_wp2_with fail
          refine hK.out _ _ ⟨(hEz).cell hHeld.1,(hEz).cell hHeld.2.1,(hEz).cell hHeld.2.2.1,(hEz).cell hHeld.2.2.2.1,(hEz).cell hHeld.2.2.2.2.1,Ext.trans hHeld.2.2.2.2.2.out (hEz)⟩ (fun hHeld=>?_)
          clear hK K hi
          (try simp only [Act.put,sx1,sx2,sx3])
          have HWY:Hid (Ext wp wy):=hHeld.2.2.2.2.2
          have HBY:=Lib.hid (block_ext HGB2.out HWY.out)
          have kg:=block_cell HBY.out p
          have fg:=block_free HBY.out
          have hi:=getopN hO 20 (by decide)
          conv at hi=>rhs;arg 1;whnf
          refine tX hO (v:=?_) 20 hi (Or.inl ⟨by rfl,?_⟩) ?_
          rotate_left
          ·((intro w');(try go_simp);(try with_reducible rfl))
          clear hi
          (try simp only [Act.put,sx1,sx2,sx3])
          have hi:=getopN hO 21 (by decide)
          conv at hi=>rhs;arg 1;whnf
          refine anyE_lastP hO 21 (by kernel_rfl) (by kernel_rfl) (by kernel_rfl) hi (fun K hK=>?_)
          go_simp
          refine hK.out _ _ ?_
          clear hK K hi hO
          (try simp only [Act.put,sx1,sx2,sx3])
          go_wp2_with fail
          go_roundw
          case rel=>exact ⟨k+1,by omega,by go_num,(HG2.out.ext HWY.out).trans (grownBy_S (grown_setCell _ _ _ _) (fun k hk=>by cases hk;rfl)),by rw [HNY.out,← HAC2.out];exact block_set HBY.out p _⟩
          case measure=>simp [intOf];omega
       ·have HNY:Hid (rowP n ka kb A B i (prodTo n ka kb A B i) (k+1)=acc):=by unfold Hid;rw [HNX.out,if_pos (Or.inl hq0)]
        have q2:((q:Int) != 0)=true:=by simp;omega
        clear hq0 HNX
        go_wp2_with fail
        go_roundw
        case rel=>exact ⟨k+1,by omega,by go_num,HG2.out,by rw [HNY.out];exact HGB2.out⟩
        case measure=>simp [intOf];omega
      ·obtain rfl:k=N2:=by omega
       go_wp2_with fail
       go_roundw
       case rel=>exact ⟨i+1,by omega,by go_num,HG2.out,by rw [HRW.out];exact HGB2.out⟩
       case measure=>simp [intOf];omega
    ·obtain rfl:i=N1:=by omega
     have HGB9:=HGB
     rw [← HPR.out] at HGB9
     have HF:Hid (ListAt 1 numC wi (.slice (some ⟨g,0,none⟩) z z) D):=nums_blk HGB9.out (by rw [HPR.out];exact (HLP.out _).symm) (by rw [HPR.out,HLP.out];have:=HZL.out;omega)
     have HE9:Hid (Ext w wi):=ext_grownS HES.out HG.out (fun j hj e=>by have:=HGO.out;omega)
     have HB3i:Hid (wi.heap[w2.heap.size]?=some (.cells #[.int .i64 0,.int .i64 0,.slice none 0 0] 31 (0,0))):=by
      unfold Hid
      rw [← HB3S.out]
      exact HG.out.block _ (block_lt HB3S.out) HGO.out.2.2.2.1
     have HB5i:Hid (wi.heap[wo.heap.size]?=some (.cells #[.int .i64 n,.int .i64 d,.slice (some ⟨g,0,none⟩) z z] 31 (0,0))):=by
      unfold Hid
      rw [← HB5S.out]
      exact HG.out.block _ (block_lt HB5S.out) HGO.out.2.2.2.2.1
     have kk:=block_cell HB5i.out
     have f9:=block_free HB3i.out
     have k9:=block_cell HB3i.out
     have HW2:Hid (w.heap.size≤w2.heap.size):=by have:=HO.out;unfold Hid;omega
     go_wp2_with fail
     have hb7:=multi_store HB3i.out (.int .i64 n) (.int .i64 d) (.slice (some ⟨g,0,none⟩) z z)
     refine bodyPost_ret (results_cell_tmp (by rfl) _ _ w2.heap.size 31 #[.int .i64 n,.int .i64 d,.slice (some ⟨g,0,none⟩) z z] (0,0) _ (.int .i64 0) (by rfl) (by rfl) hb7 Tryz.underlying31 (by rfl) (by kernel_rfl)) (by rfl) ⟨_,rfl,multi_ext HE9.out HW2.out _ _ _,_,rfl,?_⟩
     exact nums_set HF.out HB3i.out (multi_nostr 0 0) (multi_grown _ _ _ _ _)
end Go.Proofs.YtjlkkofmojgipaaGreatDoor
