import Derived.Test.YtjlkkofmojgipaaGreatDoorYBE
import Derived.Test.YtjlkkofmojgipaaGreatDoorYBF
import Derived.Test.YtjlkkofmojgipaaGreatDoorYBG
import Derived.Test.YtjlkkofmojgipaaGreatDoorYBH
import Derived.Test.YtjlkkofmojgipaaGreatDoorYBT
import Derived.Test.YtjlkkofmojgipaaGreatDoorYAR
import Derived.Test.YtjlkkofmojgipaaGreatDoorYAP
namespace Go.Proofs.YtjlkkofmojgipaaGreatDoor
set_option linter.unusedVariables false
set_option linter.unusedSimpArgs false
open Go.RowKit
theorem mat2W (w:World) (r q:List Int) (n m:Nat) (hn:n=r.length) (hm:m=q.length) (T T1 T2:TypeId) (hb:∀ x∈r++q,-9223372036854775808≤x∧x≤9223372036854775807) (hl:r.length≤100) (hl2:q.length≤100) (C D:Array Value) (hC:C=(r.map (Value.int .i64)).toArray) (hD:D=(q.map (Value.int .i64)).toArray) :
  Rows2 (((w.alloc (.cells C T)).alloc (.cells D T1)).alloc (.cells #[.slice (some ⟨w.heap.size,0,none⟩) n n,.slice (some ⟨w.heap.size+1,0,none⟩) m m] T2)) (.slice (some ⟨w.heap.size+1+1,0,none⟩) 2 2) [r,q]:=by
 subst hC;subst hn;subst hD;subst hm
 have h1:=(Ints.lit w r T (by unfold maxLen;omega) (fun x hx=>hb x (List.mem_append_left _ hx))).ext (Ext.alloc _ (.cells (q.map (Value.int .i64)).toArray T1))
 have h2:=Ints.lit (w.alloc (.cells (r.map (Value.int .i64)).toArray T)) q T1 (by unfold maxLen;omega) (fun x hx=>hb x (List.mem_append_right _ hx))
 rw [World.size_alloc] at h2
 have:=ListAt.lit (R:=Ints) (fun _ _ _ _ he h=>Ints.ext h he) ((w.alloc (.cells (r.map (Value.int .i64)).toArray T)).alloc (.cells (q.map (Value.int .i64)).toArray T1)) [.slice (some ⟨w.heap.size,0,none⟩) r.length r.length,.slice (some ⟨w.heap.size+1,0,none⟩) q.length q.length] [r,q] T2 rfl (by unfold maxLen;simp) (fun j u x hu hx=>by
  match j with
  | 0=>simp only [List.getElem?_cons_zero,Option.some.injEq] at hu hx;subst hu;subst hx;exact h1
  | 1=>simp only [List.getElem?_cons_succ,List.getElem?_cons_zero,Option.some.injEq] at hu hx;subst hu;subst hx;exact h2
  | j+2=>simp at hu)
 simpa using this
theorem nums_lit (w:World) (xs:List Int) (C:Array Value) (T:TypeId) (n:Nat) (hC:C=(xs.map fun x=>Value.string (intB x)).toArray) (hn:n=xs.length) (hl:xs.length≤1000):ListAt 1 numC (w.alloc (.cells C T)) (.slice (some ⟨w.heap.size,0,none⟩) n n) xs:=by
 subst hC;subst hn
 have hfl:(xs.map fun x=>[Value.string (intB x)]).flatten=xs.map fun x=>Value.string (intB x):=flatten_one (fun x=>Value.string (intB x)) xs
 refine ⟨xs.map fun x=>[.string (intB x)],by simp,by simp,⟨some ⟨w.heap.size,0,none⟩,xs.length,by simp,Nat.le_of_eq (by simp),by unfold maxLen;omega,(fun h=>by cases h),fun _=>⟨w.heap.size,0,rfl,by simp,fun j u hu=>?_⟩⟩,?_⟩
 ·rw [hfl] at hu
  rw [World.cell?_alloc_new,Nat.zero_add];simpa using hu
 ·intro j u x hu hx
  rw [List.getElem?_map,hx] at hu
  exact (Option.some.inj hu).symm
theorem s10_1:intB 0=⟨#[48]⟩∧intB 1=⟨#[49]⟩∧intB 4=⟨#[52]⟩∧intB (-4)=⟨#[45,52]⟩:=by decide +kernel
theorem k10_1:minorsS [[1,0,-4],[0,1,4]] 2=[1,4,4]:=by decide +kernel
theorem k10_2:dualL 3 2 [1,4,4]=[4,-4,1]:=by decide +kernel
theorem k10_3:intL 3 2 [1,4,4] [1,0,0]=[0,1,4]:=by decide +kernel
theorem k10_4:∃ R,kernW 10 3 2 [1,4,4]=some R∧R.length=2∧formW 3 10 R=some [[1,0,-4],[0,1,4]]:=by
 refine ⟨(kernW 10 3 2 [1,4,4]).getD [],?_⟩
 decide +kernel
theorem k10_5:∃ R,kernW 10 4 2 [1,0,0,0,0,1]=some R∧R.length≠2:=by
 refine ⟨(kernW 10 4 2 [1,0,0,0,0,1]).getD [],?_⟩
 decide +kernel
theorem digs_small {X:List Int} (h:(X.all fun x=>decide (x.natAbs≤1000))=true):Digits400 X:=fun x hx=>by
 have h1:=of_decide_eq_true (List.all_eq_true.1 h x hx)
 exact Nat.lt_of_le_of_lt h1 (by decide +kernel)
theorem right1:RightM 3 2 [1,4,4]:=⟨by decide,by decide,by decide +kernel,digs_small (by decide)⟩
theorem right2:RightM 4 2 [1,0,0,0,0,1]:=⟨by decide,by decide,by decide +kernel,digs_small (by decide)⟩
theorem multi_open {w:World} {u:Value} {n k:Nat} {X:List Int} (h:MultiV w u n k X):∃ a c,u=.agg #[.int .i64 n,.int .i64 k,.slice a X.length c]∧ListAt 1 numC w (.slice a X.length c) X:=by
 obtain ⟨r,rfl,hr⟩:=h
 obtain ⟨a,c,rfl,-⟩:=ListAt.open hr
 exact ⟨a,c,rfl,hr⟩
set_option maxRecDepth 100000 in
set_option maxHeartbeats 4000000 in
theorem known10_any (w:World) (hlib:LibT w) (hb:4<w.heap.size) :
  Calls Tryz.prog 13 #[] w fun e w'=>e=.returned (.bool true)∧Ext w w':=by
 have HOF:Hid (∀ W v,Ext w W→Rows2 W v [[1,0,-4],[0,1,4]]→Calls Tryz.prog 15 #[v,.int .i64 3] W fun e w'=>∃ a c,e=.returned (.tuple #[.agg #[.int .i64 3,.int .i64 2,.slice a 3 c],.int .i64 0])∧ListAt 1 numC w' (.slice a 3 c) [1,4,4]∧Ext W w'):=fun W v hW hv=>by
  have hE:tabE [[1,0,-4],[0,1,4]]=0:=by decide +kernel
  refine (wOf_any [[1,0,-4],[0,1,4]] 3 [1,4,4] v W hv hE (by decide) (by decide) (by decide) (fun W' hW'=>?_)).mono fun e w' ⟨u,h1,h2,h3⟩=>?_
  ·have h9:=minors_any [[1,0,-4],[0,1,4]] 2 v W' (hv.ext hW') hE (by decide) (by decide) (by decide +kernel) (minors_small hE (by decide) (by decide)) (hlib.pow.ext (hW.trans hW'))
   rw [k10_1] at h9
   exact h9
  ·obtain ⟨a,c,rfl,h4⟩:=multi_open h3
   exact ⟨a,c,h1,h4,h2⟩
 have HDU:Hid (∀ W a c,Ext w W→ListAt 1 numC W (.slice a 3 c) [1,4,4]→Calls Tryz.prog 28 #[.agg #[.int .i64 3,.int .i64 2,.slice a 3 c]] W fun e w'=>∃ a c,e=.returned (.tuple #[.agg #[.int .i64 3,.int .i64 1,.slice a 3 c],.int .i64 0])∧ListAt 1 numC w' (.slice a 3 c) [4,-4,1]∧Ext W w'):=fun W a c hW hv=>by
  refine (dualM_any (n:=3) (k:=2) (X:=[1,4,4]) (by decide) right1 _ W ⟨_,rfl,hv⟩).mono fun e w' ⟨u,h1,h2,h3⟩=>?_
  rw [k10_2] at h3
  obtain ⟨a,c,rfl,h4⟩:=multi_open h3
  exact ⟨a,c,h1,h4,h2⟩
 have HIN:Hid (∀ W a c v,Ext w W→ListAt 1 numC W (.slice a 3 c) [1,4,4]→Ints W v [1,0,0]→Calls Tryz.prog 25 #[.agg #[.int .i64 3,.int .i64 2,.slice a 3 c],v] W fun e w'=>∃ a c,e=.returned (.tuple #[.agg #[.int .i64 3,.int .i64 1,.slice a 3 c],.int .i64 0])∧ListAt 1 numC w' (.slice a 3 c) [0,1,4]∧Ext W w'):=fun W a c v hW hv hi=>by
  refine (intM_any (n:=3) (k:=2) (X:=[1,4,4]) (r:=[1,0,0]) (by decide) right1 (by decide) rfl (by decide) _ v W ⟨_,rfl,hv⟩ hi (hlib.pow.ext hW)).mono fun e w' ⟨u,h1,h2,h3⟩=>?_
  rw [k10_3] at h3
  obtain ⟨a,c,rfl,h4⟩:=multi_open h3
  exact ⟨a,c,h1,h4,h2⟩
 have HLA:Hid (∀ W a c,Ext w W→ListAt 1 numC W (.slice a 3 c) [1,4,4]→Calls Tryz.prog 36 #[.agg #[.int .i64 3,.int .i64 2,.slice a 3 c]] W fun e w'=>∃ v,e=.returned (.tuple #[v,.int .i64 0])∧Ext W w'∧Rows2 w' v [[1,0,-4],[0,1,4]]):=fun W a c hW hv=>by
  obtain ⟨R,hk,hl,hf⟩:=k10_4
  exact latM_ok 10 10 (n:=3) (k:=2) (X:=[1,4,4]) (by decide) (by decide) right1 _ W ⟨_,rfl,hv⟩ R _ (by decide +kernel) hk hl hf (by decide) (hlib.ext hW) (Nat.lt_of_lt_of_le hb hW.size)
 have HDE:Hid (∀ W v,Ext w W→ListAt 1 numC W v [1,0,0,0,0,1]→Calls Tryz.prog 35 #[.agg #[.int .i64 4,.int .i64 2,v]] W fun e w'=>e=.returned (.tuple #[.bool false,.int .i64 0])∧Ext W w'):=fun W v hW hv=>by
  obtain ⟨R,hk,hl⟩:=k10_5
  have h9:=decompM_any 10 (n:=4) (k:=2) (X:=[1,0,0,0,0,1]) (by decide) (by decide) right2 _ W ⟨_,rfl,hv⟩ R hk (hlib.pow.ext hW) (Nat.lt_of_lt_of_le hb hW.size)
  rw [decide_eq_false hl,decide_eq_false (show ¬ contL [1,0,0,0,0,1]=0 by decide +kernel)] at h9
  exact h9
 have HSA:Hid (∀ (W:World) (k:Nat) (a:Option Addr) (c:Nat) (v:Value) (X:List Int),ListAt 1 numC W (.slice a 3 c) X→ListAt 1 numC W v X→Calls Tryz.prog 17 #[.agg #[.int .i64 3,.int .i64 k,.slice a 3 c],.agg #[.int .i64 3,.int .i64 k,v]] W fun e w'=>e=.returned (.bool true)∧Ext W w'):=fun W k a c v X h1 h2=>by
  have h9:=sameM_any 3 k X 3 k X _ _ W ⟨_,rfl,h1⟩ ⟨_,rfl,h2⟩
  rw [show equalM 3 k X 3 k X=true by unfold equalM;simp] at h9
  exact h9
 obtain ⟨t0,t1,t4,t5⟩:=s10_1
 have HL1:Hid (∀ W:World,ListAt 1 numC (W.alloc (.cells #[.string ⟨#[49]⟩,.string ⟨#[52]⟩,.string ⟨#[52]⟩] 53)) (.slice (some ⟨W.heap.size,0,none⟩) 3 3) [1,4,4]):=fun W=>nums_lit W [1,4,4] _ _ 3 (by simp [t1,t4]) rfl (by decide)
 have HL2:Hid (∀ W:World,ListAt 1 numC (W.alloc (.cells #[.string ⟨#[52]⟩,.string ⟨#[45,52]⟩,.string ⟨#[49]⟩] 53)) (.slice (some ⟨W.heap.size,0,none⟩) 3 3) [4,-4,1]):=fun W=>nums_lit W [4,-4,1] _ _ 3 (by simp [t1,t4,t5]) rfl (by decide)
 have HL3:Hid (∀ W:World,ListAt 1 numC (W.alloc (.cells #[.string ⟨#[48]⟩,.string ⟨#[49]⟩,.string ⟨#[52]⟩] 53)) (.slice (some ⟨W.heap.size,0,none⟩) 3 3) [0,1,4]):=fun W=>nums_lit W [0,1,4] _ _ 3 (by simp [t0,t1,t4]) rfl (by decide)
 have HL4:Hid (∀ W:World,ListAt 1 numC (W.alloc (.cells #[.string ⟨#[49]⟩,.string ⟨#[48]⟩,.string ⟨#[48]⟩,.string ⟨#[48]⟩,.string ⟨#[48]⟩,.string ⟨#[49]⟩] 53)) (.slice (some ⟨W.heap.size,0,none⟩) 6 6) [1,0,0,0,0,1]):=fun W=>nums_lit W [1,0,0,0,0,1] _ _ 6 (by simp [t0,t1]) rfl (by decide)
 clear hlib hb t0 t1 t4 t5
 go_enter Tryz.func13,Tryz.ntmps13
 have hm1:=mat2W w [1,0,-4] [0,1,4] 3 3 rfl rfl 3 3 27 (by decide) (by decide) (by decide) #[.int .i64 1,.int .i64 0,.int .i64 (-4)] #[.int .i64 0,.int .i64 1,.int .i64 4] rfl rfl
 have HM1:=Lib.hid hm1
 clear hm1
 go_wp2_with fail
 refine (HOF.out _ _ ((Ext.alloc _ _).trans ((Ext.alloc _ _).trans (Ext.alloc _ _))) HM1.out).mono ?_
 rintro e w1 ⟨a1,c1,rfl,hR1,hE1⟩
 have HE1:=Lib.hid (((Ext.alloc w (.cells #[.int .i64 1,.int .i64 0,.int .i64 (-4)] 3)).trans ((Ext.alloc _ _).trans (Ext.alloc _ _))).trans hE1)
 have HR1:=Lib.hid hR1
 clear hE1 hR1 HM1 HOF
 obtain ⟨V1,hV1,hX1,hs1,hb1⟩:=boxM w1 (.int .i64 0) (.int .i64 0) (.slice none 0 0)
 have r0:=block_cell hb1
 have f0:=block_free hb1
 have HB1:=Lib.hid (multi_store hb1 (.int .i64 3) (.int .i64 2) (.slice a1 3 c1))
 have HX1:=Lib.hid (multi_ext (B:=w1.heap.size) hX1 (Nat.le_refl _) (.int .i64 3) (.int .i64 2) (.slice a1 3 c1))
 obtain ⟨U1,hU1⟩:∃ U,((V1.setCell ⟨w1.heap.size,0,none⟩ (.int .i64 3)).setCell ⟨w1.heap.size,1,none⟩ (.int .i64 2)).setCell ⟨w1.heap.size,2,none⟩ (.slice a1 3 c1)=U:=⟨_,rfl⟩
 rw [hU1] at HB1 HX1
 clear hX1 hs1 hb1
 have HEU1:Hid (Ext w U1):=HE1.out.trans HX1.out
 have HRU1:=Lib.hid (ListAt.ext numC.mono' HR1.out HX1.out)
 have s1:=block_cell HB1.out
 go_wp2_with fail
 clear hU1 hV1 r0 f0
 refine (HDU.out _ _ _ HEU1.out HRU1.out).mono ?_
 rintro e w2 ⟨a2,c2,rfl,hR2,hE2⟩
 have HE2:Hid (Ext w w2):=HEU1.out.trans hE2
 have HB12:=Lib.hid (block_ext HB1.out hE2)
 have HR12:=Lib.hid (ListAt.ext numC.mono' HRU1.out hE2)
 have HR2:=Lib.hid hR2
 clear hE2 hR2 HDU s1
 obtain ⟨V2,hV2,hX2,hs2,hb2⟩:=boxM w2 (.int .i64 0) (.int .i64 0) (.slice none 0 0)
 have r0:=block_cell hb2
 have f0:=block_free hb2
 have HB2:=Lib.hid (multi_store hb2 (.int .i64 3) (.int .i64 1) (.slice a2 3 c2))
 have HX2:=Lib.hid (multi_ext (B:=w2.heap.size) hX2 (Nat.le_refl _) (.int .i64 3) (.int .i64 1) (.slice a2 3 c2))
 obtain ⟨U2,hU2⟩:∃ U,((V2.setCell ⟨w2.heap.size,0,none⟩ (.int .i64 3)).setCell ⟨w2.heap.size,1,none⟩ (.int .i64 1)).setCell ⟨w2.heap.size,2,none⟩ (.slice a2 3 c2)=U:=⟨_,rfl⟩
 rw [hU2] at HB2 HX2
 clear hX2 hs2 hb2
 have HEU2:Hid (Ext w U2):=HE2.out.trans HX2.out
 have HRU2:=Lib.hid (ListAt.ext numC.mono' HR2.out HX2.out)
 have HB1U:=Lib.hid (block_ext HB12.out HX2.out)
 have HR1U:=Lib.hid (ListAt.ext numC.mono' HR12.out HX2.out)
 have s1:=block_cell HB1U.out
 have hx3:=Ints.lit U2 [1,0,0] 3 (by unfold maxLen;decide) (by decide)
 have e3:([1,0,0]:List Int).map (Value.int .i64)=[.int .i64 1,.int .i64 0,.int .i64 0]:=rfl
 rw [e3] at hx3
 have HX3I:=Lib.hid hx3
 obtain ⟨L3,hL3⟩:∃ L,U2.alloc (.cells #[.int .i64 1,.int .i64 0,.int .i64 0] 3)=L:=⟨_,rfl⟩
 have HL3E:Hid (Ext U2 L3):=by rw [← hL3];exact Ext.alloc _ _
 have HX3J:Hid (Ints L3 (.slice (some ⟨U2.heap.size,0,none⟩) 3 3) [1,0,0]):=by rw [← hL3];exact HX3I.out
 have HR1L:=Lib.hid (ListAt.ext numC.mono' HR1U.out HL3E.out)
 have HEL3:Hid (Ext w L3):=HEU2.out.trans HL3E.out
 clear hx3 e3 HX3I
 go_wp2_with fail
 clear hU2 hV2 r0 f0
 refine (HIN.out _ _ _ _ HEL3.out HR1L.out HX3J.out).mono ?_
 rintro e w3 ⟨a3,c3,rfl,hR3,hE3⟩
 have HX23:Hid (Ext U2 w3):=HL3E.out.trans hE3
 have HE3:Hid (Ext w w3):=HEU2.out.trans HX23.out
 have HB13:=Lib.hid (block_ext HB1U.out HX23.out)
 have HR13:=Lib.hid (ListAt.ext numC.mono' HR1U.out HX23.out)
 have HB23:=Lib.hid (block_ext HB2.out HX23.out)
 have HR23:=Lib.hid (ListAt.ext numC.mono' HRU2.out HX23.out)
 have HR3:=Lib.hid hR3
 clear hE3 hR3 HIN s1 hL3
 obtain ⟨V3,hV3,hX3,hs3,hb3⟩:=boxM w3 (.int .i64 0) (.int .i64 0) (.slice none 0 0)
 have r0:=block_cell hb3
 have f0:=block_free hb3
 have HB3:=Lib.hid (multi_store hb3 (.int .i64 3) (.int .i64 1) (.slice a3 3 c3))
 have HX3:=Lib.hid (multi_ext (B:=w3.heap.size) hX3 (Nat.le_refl _) (.int .i64 3) (.int .i64 1) (.slice a3 3 c3))
 obtain ⟨U3,hU3⟩:∃ U,((V3.setCell ⟨w3.heap.size,0,none⟩ (.int .i64 3)).setCell ⟨w3.heap.size,1,none⟩ (.int .i64 1)).setCell ⟨w3.heap.size,2,none⟩ (.slice a3 3 c3)=U:=⟨_,rfl⟩
 rw [hU3] at HB3 HX3
 clear hX3 hs3 hb3
 have HEU3:Hid (Ext w U3):=HE3.out.trans HX3.out
 have HRU3:=Lib.hid (ListAt.ext numC.mono' HR3.out HX3.out)
 have HB1V:=Lib.hid (block_ext HB13.out HX3.out)
 have HR1V:=Lib.hid (ListAt.ext numC.mono' HR13.out HX3.out)
 have HB2V:=Lib.hid (block_ext HB23.out HX3.out)
 have HR2V:=Lib.hid (ListAt.ext numC.mono' HR23.out HX3.out)
 have s1:=block_cell HB1V.out
 go_wp2_with fail
 clear hU3 hV3 r0 f0
 refine (HLA.out _ _ _ HEU3.out HR1V.out).mono ?_
 rintro e w4 ⟨v4,rfl,hE4,hR4⟩
 have HX34:Hid (Ext U3 w4):=hE4
 have HR4:=Lib.hid hR4
 obtain ⟨a4,c4,rfl,-⟩:=ListAt.open hR4
 obtain ⟨w5,hw5⟩:∃ L,w4.alloc (.cells #[.string ⟨#[49]⟩,.string ⟨#[48]⟩,.string ⟨#[48]⟩,.string ⟨#[48]⟩,.string ⟨#[48]⟩,.string ⟨#[49]⟩] 53)=L:=⟨_,rfl⟩
 have HL5:=Lib.hid (HL4.out w4)
 have HX45:Hid (Ext w4 w5):=by rw [← hw5];exact Ext.alloc _ _
 rw [hw5] at HL5
 clear hE4 hR4 HLA s1 HL4
 go_wp2_with fail
 clear hw5
 refine (HDE.out _ _ (HEU3.out.trans (HX34.out.trans HX45.out)) HL5.out).mono ?_
 rintro e w6 ⟨rfl,hE6⟩
 have HX46:Hid (Ext w4 w6):=HX45.out.trans hE6
 have HX36:Hid (Ext U3 w6):=HX34.out.trans HX46.out
 have HE6:Hid (Ext w w6):=HEU3.out.trans HX36.out
 have HB16:=Lib.hid (block_ext HB1V.out HX36.out);have HB26:=Lib.hid (block_ext HB2V.out HX36.out);have HB36:=Lib.hid (block_ext HB3.out HX36.out)
 have HR16:=Lib.hid (ListAt.ext numC.mono' HR1V.out HX36.out);have HR26:=Lib.hid (ListAt.ext numC.mono' HR2V.out HX36.out);have HR36:=Lib.hid (ListAt.ext numC.mono' HRU3.out HX36.out)
 have HR46:=Lib.hid (Rows2.ext HR4.out HX46.out)
 clear hE6 HDE
 have s1:=block_cell HB16.out
 obtain ⟨L6,hL6⟩:∃ L,w6.alloc (.cells #[.string ⟨#[49]⟩,.string ⟨#[52]⟩,.string ⟨#[52]⟩] 53)=L:=⟨_,rfl⟩
 have HN6:=Lib.hid (HL1.out w6)
 have HX6:Hid (Ext w6 L6):=by rw [← hL6];exact Ext.alloc _ _
 rw [hL6] at HN6
 go_wp2_with fail
 clear hL6
 refine (HSA.out _ 2 _ _ _ _ (ListAt.ext numC.mono' HR16.out HX6.out) HN6.out).mono ?_
 rintro e w7 ⟨rfl,hE7⟩
 have HX67:Hid (Ext w6 w7):=HX6.out.trans hE7
 have HE7:Hid (Ext w w7):=HE6.out.trans HX67.out
 have HB27:=Lib.hid (block_ext HB26.out HX67.out);have HB37:=Lib.hid (block_ext HB36.out HX67.out)
 have HR27:=Lib.hid (ListAt.ext numC.mono' HR26.out HX67.out);have HR37:=Lib.hid (ListAt.ext numC.mono' HR36.out HX67.out)
 have HR47:=Lib.hid (Rows2.ext HR46.out HX67.out)
 clear hE7 s1
 have s1:=block_cell HB27.out
 obtain ⟨L7,hL7⟩:∃ L,w7.alloc (.cells #[.string ⟨#[52]⟩,.string ⟨#[45,52]⟩,.string ⟨#[49]⟩] 53)=L:=⟨_,rfl⟩
 have HN7:=Lib.hid (HL2.out w7)
 have HX7:Hid (Ext w7 L7):=by rw [← hL7];exact Ext.alloc _ _
 rw [hL7] at HN7
 go_wp2_with fail
 clear hL7
 refine (HSA.out _ 1 _ _ _ _ (ListAt.ext numC.mono' HR27.out HX7.out) HN7.out).mono ?_
 rintro e w8 ⟨rfl,hE8⟩
 have HX78:Hid (Ext w7 w8):=HX7.out.trans hE8
 have HE8:Hid (Ext w w8):=HE7.out.trans HX78.out
 have HB38:=Lib.hid (block_ext HB37.out HX78.out)
 have HR38:=Lib.hid (ListAt.ext numC.mono' HR37.out HX78.out)
 have HR48:=Lib.hid (Rows2.ext HR47.out HX78.out)
 clear hE8 s1
 have s1:=block_cell HB38.out
 obtain ⟨L8,hL8⟩:∃ L,w8.alloc (.cells #[.string ⟨#[48]⟩,.string ⟨#[49]⟩,.string ⟨#[52]⟩] 53)=L:=⟨_,rfl⟩
 have HN8:=Lib.hid (HL3.out w8)
 have HX8:Hid (Ext w8 L8):=by rw [← hL8];exact Ext.alloc _ _
 rw [hL8] at HN8
 go_wp2_with fail
 clear hL8
 refine (HSA.out _ 1 _ _ _ _ (ListAt.ext numC.mono' HR38.out HX8.out) HN8.out).mono ?_
 rintro e w9 ⟨rfl,hE9⟩
 have HX89:Hid (Ext w8 w9):=HX8.out.trans hE9
 have HE9:Hid (Ext w w9):=HE8.out.trans HX89.out
 have HR49:=Lib.hid (Rows2.ext HR48.out HX89.out)
 clear hE9 s1
 have hm9:=mat2W w9 [1,0,-4] [0,1,4] 3 3 rfl rfl 3 3 27 (by decide) (by decide) (by decide) #[.int .i64 1,.int .i64 0,.int .i64 (-4)] #[.int .i64 0,.int .i64 1,.int .i64 4] rfl rfl
 have HQ9:=Lib.hid (refEqual6_any [[1,0,-4],[0,1,4]] [[1,0,-4],[0,1,4]] _ _ _ (HR49.out.ext ((Ext.alloc _ _).trans ((Ext.alloc _ _).trans (Ext.alloc _ _)))) hm9)
 have hbt:(([[1,0,-4],[0,1,4]]:List (List Int)) == [[1,0,-4],[0,1,4]])=true:=by decide
 rw [hbt] at HQ9
 clear hm9 hbt
 go_wp2_with fail
 refine HQ9.out.mono ?_
 rintro e w10 ⟨rfl,hE10⟩
 have HE10:Hid (Ext w w10):=HE9.out.trans (((Ext.alloc w9 (.cells #[.int .i64 1,.int .i64 0,.int .i64 (-4)] 3)).trans ((Ext.alloc _ _).trans (Ext.alloc _ _))).trans hE10)
 clear hE10 HQ9
 go_wp2_with fail
 go_ret
 exact ⟨rfl,HE10.out⟩
def parRow (q:List Int) (C:List Nat) (k:Nat):List Int:=(C.take k).map (fun j=>q.getD j 0)++List.replicate (C.length-k) 0
theorem parRow_len (q:List Int) (C:List Nat) (k:Nat) (hk:k≤C.length):(parRow q C k).length=C.length:=by
 unfold parRow;rw [List.length_append,List.length_map,List.length_take,List.length_replicate];omega
theorem parRow_zero (q:List Int) (C:List Nat):parRow q C 0=List.replicate C.length 0:=by simp [parRow]
theorem parRow_all (q:List Int) (C:List Nat):parRow q C C.length=C.map fun j=>q.getD j 0:=by simp [parRow]
theorem parRow_set {q:List Int} {C:List Nat} {k j:Nat} (h:C[k]?=some j):(parRow q C k).set k (q.getD j 0)=parRow q C (k+1):=by
 have hk:=(List.getElem?_eq_some_iff.1 h).1
 unfold parRow
 rw [List.set_append_right _ _ (by rw [List.length_map,List.length_take];omega),List.length_map,List.length_take,Nat.min_eq_left (Nat.le_of_lt hk),Nat.sub_self,List.take_add_one,h,List.map_append]
 rw [show C.length-k=(C.length-(k+1))+1 by omega,List.replicate_succ]
 simp
theorem castN_get {L:List Nat} {i x:Nat} (h:L[i]?=some x):(L.map fun x:Nat=>(x:Int))[i]?=some (x:Int):=by rw [List.getElem?_map,h];rfl
theorem partI_takeR {m:List (List Int)} {R C:List Nat} {i x:Nat} (h:R[i]?=some x):partI m (R.take (i+1)) C=partI m (R.take i) C++[parRow (m.getD x []) C C.length]:=by
 unfold partI
 rw [List.take_add_one,h,List.map_append,parRow_all];rfl
set_option maxRecDepth 100000 in
set_option maxHeartbeats 2000000 in
theorem part_any (xss:List (List Int)) (R C:List Nat) (N:Nat) (v vr vc:Value) (w:World) (h:Rows2 w v xss) (hR:Ints w vr (R.map fun x:Nat=>(x:Int))) (hC:Ints w vc (C.map fun x:Nat=>(x:Int)))
  (hRl:R.length≤12) (hCl:C.length≤12) (hRb:∀ i∈R,i<xss.length) (hCb:∀ j∈C,j<N) (hrect:∀ r∈xss,r.length=N) (hxl:xss.length≤1000) (hN:N≤1000) :
  Calls Tryz.prog 113 #[v,vr,vc] w fun e w'=>∃ u tags,e=.returned u∧RowsO intK 27 w' w.heap.size w.heap.size u tags (partI xss R C)∧Ext w w':=by
 obtain ⟨i0,hi,hz0,hz1,hz2⟩:=info_parts infoInt
 have HI:=Lib.hid hi;have HZ0:=Lib.hid hz0;have HZ1:=Lib.hid hz1;have HZ2:=Lib.hid hz2
 clear hi hz0 hz1 hz2
 obtain ⟨a,c,rfl,x1,x2,-,hx⟩:=inCell.open h
 obtain ⟨ar,cr,rfl,r1,r2,-,-,hr⟩:=hR.open
 obtain ⟨ac,cc,rfl,k1,k2,-,-,hc⟩:=hC.open
 rw [List.length_map] at r1 k1 ⊢
 rw [List.length_map]
 have HX:=Lib.hid hx;have HR:=Lib.hid hr;have HC:=Lib.hid hc
 have HRL:=Lib.hid hRl;have HCL:=Lib.hid hCl;have HRB:=Lib.hid hRb;have HCB:=Lib.hid hCb;have HRC:=Lib.hid hrect
 obtain ⟨nr,hnr⟩:∃ n,n=R.length:=⟨_,rfl⟩
 obtain ⟨nc,hnc⟩:∃ n,n=C.length:=⟨_,rfl⟩
 have HNR:=Lib.hid hnr;have HNC:=Lib.hid hnc
 rw [← hnr] at r1 HRL ⊢
 rw [← hnc] at k1 HCL ⊢
 unfold maxLen at x2 r2 k2
 clear h hR hC hx hr hc hRb hCb hrect hnr hnc hRl hCl
 go_enter Tryz.func113,Tryz.ntmps113
 go_wp2_with fail
 go_loopw [8,7] (fun t v wr=>∃ (i:Nat) (tags:List (Nat×Nat)),i≤nr∧t=.int .i64 i∧Hid (Ext w wr)∧Hid (RowsO intK 27 wr w.heap.size w.heap.size v tags (partI xss (R.take i) C))) (fun t _ _=>nr-(intOf t).toNat)
 case atStart=>exact ⟨0,[],by omega,rfl,Ext.refl _,RowsO.nil _ _ _ _ _⟩
 case round =>
  obtain ⟨i,tags,hir,rfl,HE,HO⟩:=hrel
  obtain ⟨wo,rfl⟩:∃ wo:World,wo=wr:=⟨_,rfl⟩
  by_cases hlt:i<nr
  ·obtain ⟨y,hy⟩:∃ y,R[i]?=some y:=⟨R[i]'(by rw [← HNR.out];exact hlt),List.getElem?_eq_getElem _⟩
   have hyl:=HRB.out y (List.mem_of_getElem? hy)
   obtain ⟨br,or_,rfl,-,hrc⟩:=HR.out (by intro e;have:=congrArg List.length e;rw [List.length_map,← HNR.out] at this;simp at this;omega)
   have g1:=hrc i y (castN_get hy)
   obtain ⟨bx,ox,rfl,-,hxc⟩:=HX.out (by intro e;rw [e] at hyl;simp at hyl)
   obtain ⟨q,hq⟩:∃ q,xss[y]?=some q:=⟨xss[y],List.getElem?_eq_getElem hyl⟩
   obtain ⟨vq,hvq,g2⟩:=hxc y q hq
   obtain ⟨aq,cq,rfl,q1,q2,-,-,hqc⟩:=hvq.open
   have hql:q.length=N:=HRC.out q (List.mem_of_getElem? hq)
   have HQD:Hid (xss.getD y []=q):=by unfold Hid;rw [List.getD_eq_getElem?_getD,hq];rfl
   have HTK:=Lib.hid (partI_takeR (m:=xss) (C:=C) hy)
   rw [HQD.out] at HTK
   have HG1:=Lib.hid g1;have HG2:=Lib.hid g2;have HQC:=Lib.hid hqc;have HQL:=Lib.hid hql
   unfold maxLen at q2
   clear hrc hxc hq hvq hqc hy g1 g2
   rw [hql] at q1
   rw [HQL.out] at HG2
   clear hql
   go_wp2_with (at_make;refine wpList_make_full _ rfl _ _ 27 rfl wo.heap.size 3 i0 (.int .i64 0) 1 Tryz.underlying27 HI.out HZ0.out HZ1.out _ _ _ _ nc rfl rfl rfl rfl ?c1 ?c2 ?c3 ?_)
   any_goals (first | (rw [HZ2.out];have:=HCL.out;omega) | (unfold maxLen;have:=HCL.out;omega) | exact Nat.le_refl _)
   intro w3 hown hgrow
   rw [made_ints] at hown
   have HRI:=Lib.hid (RowI.ofOwn hown)
   rw [HNC.out,← parRow_zero q C] at HRI
   have HE3:=Lib.hid (ext_grown hgrow)
   clear hown hgrow
   go_wp2_with fail
   go_loopw [10] (fun t wq=>∃ k:Nat,k≤nc∧t=.int .i64 k∧Hid (Ext wo wq)∧Hid (RowI wq wo.heap.size (parRow q C k))) (fun t _=>nc-(intOf t).toNat)
   case atStart=>exact ⟨0,by omega,rfl,HE3.out,HRI.out⟩
   case round =>
    obtain ⟨k,hk,rfl,HE4,HK⟩:=hrel
    obtain ⟨wq,rfl⟩:∃ wq:World,wq=wr:=⟨_,rfl⟩
    by_cases hkc:k<nc
    ·have HXQ:=Lib.hid (Ext.trans HE.out HE4.out)
     obtain ⟨z,hz⟩:∃ z,C[k]?=some z:=⟨C[k]'(by rw [← HNC.out];exact hkc),List.getElem?_eq_getElem _⟩
     have hzl:=HCB.out z (List.mem_of_getElem? hz)
     obtain ⟨bc,oc,rfl,-,hcc⟩:=HC.out (by intro e;have:=congrArg List.length e;rw [List.length_map,← HNC.out] at this;simp at this;omega)
     have g3:=HXQ.out.cell (hcc k z (castN_get hz))
     obtain ⟨bq,oq,rfl,-,hqc⟩:=HQC.out (by intro e;have:=HQL.out;rw [e] at this;simp at this;omega)
     obtain ⟨p,hp⟩:∃ p,q[z]?=some p:=⟨q[z]'(by rw [HQL.out];exact hzl),List.getElem?_eq_getElem _⟩
     have g4:=HXQ.out.cell (hqc z p hp)
     have g1:=HXQ.out.cell HG1.out
     have g2:=HXQ.out.cell HG2.out
     have hl0:(parRow q C k).length=nc:=by rw [parRow_len q C k (by rw [← HNC.out];exact hk),HNC.out]
     obtain ⟨old,hold⟩:∃ z,(parRow q C k)[k]?=some z:=⟨_,List.getElem?_eq_getElem (by rw [hl0];exact hkc)⟩
     have c0:=HK.out.cell k old hold
     have f0:=HK.out.free k
     have HS:=Lib.hid (parRow_set (q:=q) hz)
     rw [List.getD_eq_getElem?_getD,hp] at HS
     have HK5:=Lib.hid (HK.out.set k (by rw [hl0];exact hkc) p)
     rw [show (parRow q C k).set k p=parRow q C (k+1) from HS.out] at HK5
     have HE5:Hid (Ext wo (wq.setCell ⟨wo.heap.size,k,none⟩ (.int .i64 p))):=Below.setCell HE4.out (Nat.le_refl _) (.int .i64 p)
     clear hcc hz hqc hp hl0 hold
     go_wp2_with fail
     go_region
     go_wp2_with fail
     go_roundw
     case rel=>exact ⟨k+1,by omega,by go_num,HE5.out.trans (Ext.drew _),HK5.out.ext (Ext.drew _)⟩
     case measure=>simp [intOf];omega
    ·obtain rfl:k=nc:=by omega
     rw [HNC.out] at HK
     have HO4:=Lib.hid (HO.out.ext HE4.out)
     have HSZ:Hid (w.heap.size≤wo.heap.size∧wo.heap.size≤wq.heap.size):=⟨HE.out.size,HE4.out.size⟩
     have HV:Hid (u7.ownBlock≠some wo.heap.size):=fun e=>by have:=(HO.out.own.lt _ e).2;omega
     have HNN:Hid (wo.heap.size∉tags.map (·.1)):=fun e=>by have:=(HO.out.fresh e).2;omega
     have HRLn:=Lib.hid (parRow_len q C C.length (Nat.le_refl _))
     have HLN:Hid ((partI xss (R.take i) C).length<1000000):=by unfold Hid;rw [partI_len,List.length_take];have:=HRL.out;have:=HNR.out;omega
     go_wp2_with (at_builtin;go_must (refine wpList_append_rowO (K:=intK) (e:=27) Tryz.underlying23 infoRowT wq rfl _ _ rfl w.heap.size w.heap.size u7 tags (partI xss (R.take i) C) (wo.heap.size,k) (parRow q C C.length) _ _ rfl HO4.out rfl ?d1 ?d2 ?d3 HK.out ?d4 HV.out HNN.out HLN.out ?d5 ?_))
     case d1=>rw [HRLn.out,← HNC.out];rfl
     case d2=>rw [HRLn.out,← HNC.out];exact Nat.le_refl _
     case d3=>have:=HCL.out;show k≤_;omega
     case d4=>have:=HSZ.out;show w.heap.size≤wo.heap.size;omega
     case d5=>have:=HSZ.out;omega
     intro v' w5 hO5 hb5 _
     rw [← HTK.out] at hO5
     have HO5:=Lib.hid hO5
     have HX5:Hid (Ext w w5):=Below.trans (Ext.trans HE.out HE4.out) hb5
     clear hO5 hb5
     go_wp2_with fail
     go_roundw
     case rel=>exact ⟨i+1,_,by omega,by go_num,HX5.out,HO5.out⟩
     case measure=>simp [intOf];omega
  ·obtain rfl:i=nr:=by omega
   rw [HNR.out,List.take_length] at HO
   go_wp2_with fail
   go_ret
   exact ⟨_,_,rfl,HO.out,HE.out⟩
end Go.Proofs.YtjlkkofmojgipaaGreatDoor
