import Derived.Test.YtjlkkofmojgipaaGreatDoorTBM
import Derived.Test.YtjlkkofmojgipaaGreatDoorTAU
import Derived.Test.YtjlkkofmojgipaaGreatDoorTBF
import Derived.Test.YtjlkkofmojgipaaGreatDoorTBK
import Derived.Test.YtjlkkofmojgipaaGreatDoorTAF
import Derived.BigQuiet
import Derived.Test.YtjlkkofmojgipaaGreatDoorTAV
import Derived.Maps.OwnSet
import Derived.Test.YtjlkkofmojgipaaGreatDoorTAZ
import Derived.Test.YtjlkkofmojgipaaGreatDoorTAE
import Derived.Test.YtjlkkofmojgipaaGreatDoorTAT
import Derived.Test.YtjlkkofmojgipaaGreatDoorTBJ
import Derived.Test.YtjlkkofmojgipaaGreatDoorTAL
import Derived.Laws.Rows
namespace Go.Proofs.YtjlkkofmojgipaaGreatDoor
set_option linter.unusedVariables false
set_option linter.unusedSimpArgs false
open Go.RowKit
theorem boxR (w:World) (x y z:Value):∃ W,(w.alloc (.cells #[x,y,z] 37))=W∧Ext w W∧W.heap.size=w.heap.size+1∧W.heap[w.heap.size]?=some (.cells #[x,y,z] 37 (0,0)) :=
 ⟨_,rfl,Ext.alloc _ _,by simp,block_new _ _ _⟩
theorem store3 {w:World} {B:Nat} {x y z:Value} {T:TypeId} (h:w.heap[B]?=some (.cells #[x,y,z] T (0,0))) (a b c:Value):(((w.setCell ⟨B,0,none⟩ a).setCell ⟨B,1,none⟩ b).setCell ⟨B,2,none⟩ c).heap[B]?=some (.cells #[a,b,c] T (0,0)):=by
 have:=block_set (block_set (block_set h 0 a) 1 b) 2 c
 simpa using this
set_option maxRecDepth 100000 in
set_option maxHeartbeats 1000000 in
theorem multi10_any (n k:Int) (a:Option Addr) (l c:Nat) (w:World) :
  Calls Tryz.prog 18 #[.agg #[.int .i64 n,.int .i64 k,.slice a l c]] w fun e w'=>e=.returned (.agg #[.int .i64 n,.int .i64 k,.slice a l c])∧Ext w w':=by
 obtain ⟨w1,hw1,hE1,hs1,hb1⟩:=boxR w (.int .i64 n) (.int .i64 k) (.slice a l c)
 obtain ⟨w2,hw2,hE2,hs2,hb2⟩:=boxM w1 (.int .i64 0) (.int .i64 0) (.slice none 0 0)
 have HE2:=Lib.hid (hE1.trans hE2)
 have HB1:=Lib.hid (block_ext hb1 hE2)
 have k1:=block_cell HB1.out
 have HS1:Hid (w1.heap.size=w.heap.size+1):=hs1
 have hb3:=multi_store hb2 (.int .i64 n) (.int .i64 k) (.slice a l c)
 rw [hs1] at hb3
 have HB3:=Lib.hid hb3
 have hb2':=hb2
 rw [hs1] at hb2'
 have k2:=block_cell hb2'
 have f2:=block_free hb2'
 clear hb1 hE1 hE2 hs2 hb2 hb2' hb3
 go_enter Tryz.func18,Tryz.ntmps18
 go_wp2_with fail
 refine bodyPost_ret (results_cell_row (by rfl) _ _ (w.heap.size+1) 31 #[.int .i64 n,.int .i64 k,.slice a l c] (0,0) _ (by rfl) HB3.out Tryz.underlying31 (by rfl) (by kernel_rfl)) (by rfl) ⟨rfl,multi_ext HE2.out (by omega) _ _ _⟩
set_option maxRecDepth 100000 in
set_option maxHeartbeats 1000000 in
theorem plain10_any (n k:Int) (a:Option Addr) (l c:Nat) (w:World) :
  Calls Tryz.prog 23 #[.agg #[.int .i64 n,.int .i64 k,.slice a l c]] w fun e w'=>e=.returned (.agg #[.int .i64 n,.int .i64 k,.slice a l c])∧Ext w w':=by
 obtain ⟨w1,hw1,hE1,hs1,hb1⟩:=boxM w (.int .i64 n) (.int .i64 k) (.slice a l c)
 obtain ⟨w2,hw2,hE2,hs2,hb2⟩:=boxR w1 (.int .i64 0) (.int .i64 0) (.slice none 0 0)
 have HE2:=Lib.hid (hE1.trans hE2)
 have HB1:=Lib.hid (block_ext hb1 hE2)
 have k1:=block_cell HB1.out
 have HS1:Hid (w1.heap.size=w.heap.size+1):=hs1
 have hb3:=store3 hb2 (.int .i64 n) (.int .i64 k) (.slice a l c)
 rw [hs1] at hb3
 have HB3:=Lib.hid hb3
 have hb2':=hb2
 rw [hs1] at hb2'
 have k2:=block_cell hb2'
 have f2:=block_free hb2'
 clear hb1 hE1 hE2 hs2 hb2 hb2' hb3
 go_enter Tryz.func23,Tryz.ntmps23
 go_wp2_with fail
 refine bodyPost_ret (results_cell_row (by rfl) _ _ (w.heap.size+1) 37 #[.int .i64 n,.int .i64 k,.slice a l c] (0,0) _ (by rfl) HB3.out Tryz.underlying37 (by rfl) (by kernel_rfl)) (by rfl) ⟨rfl,multi_ext HE2.out (by omega) _ _ _⟩
theorem allW_posZ:∀ n,n<7→∀ k,k<n+1→0<(allW n k).length:=by decide +kernel
theorem drop_getI {α:Type} {l:List α} {i:Nat} {x:α} (h:l[i]?=some x):l.drop i=x::l.drop (i+1):=by
 obtain ⟨hi,hx⟩:=List.getElem?_eq_some_iff.1 h
 rw [List.drop_eq_getElem_cons hi,hx]
theorem mergeL_nil (f:Nat):mergeL (f+1) [] []=some []:=rfl
theorem mergeL_right (f y:Nat) (b:List Nat):mergeL (f+2) [] (y::b)=(mergeL (f+1) [] b).map (y::·):=rfl
theorem mergeL_left (f x:Nat) (a:List Nat):mergeL (f+2) (x::a) []=(mergeL (f+1) a []).map (x::·):=by cases a <;> rfl
theorem mergeL_same (f x:Nat) (a b:List Nat):mergeL (f+1) (x::a) (x::b)=none:=by simp [mergeL]
theorem mergeL_lt (f:Nat) {x y:Nat} (a b:List Nat) (h:x<y):mergeL (f+1) (x::a) (y::b)=(mergeL f a (y::b)).map (x::·):=by
 simp only [mergeL];rw [if_neg (by omega),if_pos h]
theorem mergeL_gt (f:Nat) {x y:Nat} (a b:List Nat) (h:y<x):mergeL (f+1) (x::a) (y::b)=(mergeL f (x::a) b).map (y::·):=by
 simp only [mergeL];rw [if_neg (by omega),if_neg (by omega)]
def MrgI (a b:List Nat) (i k:Nat) (out:List Nat):Prop:=mergedL a b=(mergeL (a.length+b.length+1-i-k) (a.drop i) (b.drop k)).map (out++·)
theorem map_app (out:List Nat) (x:Nat) (o:Option (List Nat)):(o.map (x::·)).map (out++·)=o.map ((out++[x])++·):=by
 cases o <;> simp
theorem MrgI.start (a b:List Nat):MrgI a b 0 0 []:=by unfold MrgI mergedL;simp
theorem MrgI.left {a b out:List Nat} {i k x:Nat} (h:MrgI a b i k out) (hk:k≤b.length) (hx:a[i]?=some x) (hy:∀ y,b[k]?=some y→x<y):MrgI a b (i+1) k (out++[x]):=by
 unfold MrgI at h ⊢
 have hi:=(List.getElem?_eq_some_iff.1 hx).1
 have e:=drop_getI hx
 rw [h,e]
 obtain ⟨f,hf⟩:∃ f,a.length+b.length+1-i-k=f+2:=⟨a.length+b.length-1-i-k,by omega⟩
 rw [hf,show a.length+b.length+1-(i+1)-k=f+1 by omega]
 cases hb:b[k]? with
 | none =>
  rw [List.drop_eq_nil_of_le (List.getElem?_eq_none_iff.1 hb),mergeL_left,map_app]
 | some y =>
  rw [drop_getI hb,mergeL_lt _ _ _ (hy y hb),map_app]
theorem MrgI.right {a b out:List Nat} {i k y:Nat} (h:MrgI a b i k out) (hi:i≤a.length) (hy:b[k]?=some y) (hx:∀ x,a[i]?=some x→y<x):MrgI a b i (k+1) (out++[y]):=by
 unfold MrgI at h ⊢
 have hk:=(List.getElem?_eq_some_iff.1 hy).1
 have e:=drop_getI hy
 rw [h,e]
 obtain ⟨f,hf⟩:∃ f,a.length+b.length+1-i-k=f+2:=⟨a.length+b.length-1-i-k,by omega⟩
 rw [hf,show a.length+b.length+1-i-(k+1)=f+1 by omega]
 cases ha:a[i]? with
 | none =>
  rw [List.drop_eq_nil_of_le (List.getElem?_eq_none_iff.1 ha),mergeL_right,map_app]
 | some x =>
  rw [drop_getI ha,mergeL_gt _ _ _ (hx x ha),map_app]
theorem MrgI.same {a b out:List Nat} {i k x:Nat} (h:MrgI a b i k out) (hx:a[i]?=some x) (hy:b[k]?=some x):mergedL a b=none:=by
 unfold MrgI at h
 have hi:=(List.getElem?_eq_some_iff.1 hx).1
 have hk:=(List.getElem?_eq_some_iff.1 hy).1
 obtain ⟨f,hf⟩:∃ f,a.length+b.length+1-i-k=f+1:=⟨a.length+b.length-i-k,by omega⟩
 rw [h,hf,drop_getI hx,drop_getI hy,mergeL_same];rfl
theorem MrgI.done {a b out:List Nat} (h:MrgI a b a.length b.length out):mergedL a b=some out:=by
 unfold MrgI at h
 rw [h,List.drop_eq_nil_of_le (Nat.le_refl _),List.drop_eq_nil_of_le (Nat.le_refl _),show a.length+b.length+1-a.length-b.length=0+1 by omega,mergeL_nil]
 simp
def parN (n:Nat):Bool:=decide (n%2=1)
theorem parN_add (a b:Nat):parN (a+b)=(parN a ^^ parN b):=by
 unfold parN
 rcases Nat.mod_two_eq_zero_or_one a with h1 | h1 <;> rcases Nat.mod_two_eq_zero_or_one b with h2 | h2 <;> rw [Nat.add_mod,h1,h2] <;> decide
def lessN (x:Nat) (l:List Nat):Nat:=(l.filter fun y=>decide (y<x)).length
theorem lessN_cons (x y:Nat) (l:List Nat):lessN x (y::l)=lessN x l+(if y<x then 1 else 0):=by
 unfold lessN
 rw [List.filter_cons]
 split <;> split <;> simp_all
theorem oddL_par (l:List Nat):oddL l=parN (invN l):=rfl
theorem invN_drop {l:List Nat} {i x:Nat} (h:l[i]?=some x):invN (l.drop i)=lessN x (l.drop (i+1))+invN (l.drop (i+1)):=by rw [drop_getI h];rfl
theorem MrgI.len {a b out:List Nat} {i k:Nat} (h:out.length=i+k):out.length≤i+k:=by omega
theorem natsI_get {A:List Nat} {i x:Nat} (h:A[i]?=some x):(natsI A)[i]?=some (x:Int):=by unfold natsI;rw [List.getElem?_map,h];rfl
theorem placeL_at {L:List (List Nat)} {S:List Nat} {i:Nat} (h:L[i]?=some S) (hn:∀ j,j<i→L[j]?≠some S):placeL L S=i:=by
 unfold placeL
 have hi:=(List.getElem?_eq_some_iff.1 h)
 rw [List.findIdx_eq hi.1]
 refine ⟨by rw [hi.2];exact beq_self_eq_true _,fun j hj=>?_⟩
 rw [beq_eq_false_iff_ne]
 intro e
 exact hn j hj (by rw [List.getElem?_eq_getElem (Nat.lt_trans hj hi.1),e])
set_option maxRecDepth 100000 in
set_option maxHeartbeats 2000000 in
theorem place10_any (L:List (List Nat)) (S:List Nat) (hm:S∈L) (hl:∀ T∈L,T.length=S.length) (hL:L.length≤1000) (hS:S.length≤12) (u v:Value) (w:World) (h:Rows2 w u (castS L)) (h':Ints w v (natsI S)) :
  Calls Tryz.prog 70 #[u,v] w fun e w'=>e=.returned (.int .i64 (placeL L S:Nat))∧Ext w w':=by
 obtain ⟨aa,ca,rfl,p1,p2,p3,p5⟩:=inCell.open h
 obtain ⟨ab,cb,rfl,r1,r2,r3,-,r5⟩:=h'.open
 unfold maxLen at p2 r2
 have HCA:=Lib.hid p5;have HCB:=Lib.hid r5
 obtain ⟨la,hla⟩:∃ l,L.length=l:=⟨_,rfl⟩
 obtain ⟨lb,hlb⟩:∃ l,S.length=l:=⟨_,rfl⟩
 have HLA:=Lib.hid hla;have HLB:=Lib.hid hlb;have HM:=Lib.hid hm
 have HLL:Hid (∀ T∈L,T.length=lb):=by rw [← hlb];exact hl
 have e1:(castS L).length=la:=by unfold castS;rw [List.length_map];exact hla
 have e2:(natsI S).length=lb:=by unfold natsI;rw [List.length_map];exact hlb
 rw [e1] at p1 ⊢
 rw [e2] at r1 ⊢
 rw [hla] at hL
 rw [hlb] at hS
 have HGA:Hid (∀ W,Ext w W→∀ (i:Nat) (T:List Nat),L[i]?=some T→∃ b o g c,aa=some ⟨b,o,none⟩∧W.cell? ⟨b,o+i,none⟩=some (.slice g lb c)∧lb≤c∧c≤maxLen∧∀ (k x:Nat),T[k]?=some x→∃ b2 o2,g=some ⟨b2,o2,none⟩∧W.cell? ⟨b2,o2+k,none⟩=some (.int .i64 x)):=fun W hW i T hT=>by
  have hT2:(castS L)[i]?=some (natsI T):=by unfold castS;rw [List.getElem?_map,hT];rfl
  obtain ⟨b,o,he,-,hc⟩:=HCA.out (by intro e;rw [e] at hT2;simp at hT2)
  obtain ⟨vt,ht,hcell⟩:=hc i _ hT2
  obtain ⟨g,c,rfl,t1,t2,-,-,t5⟩:=ht.open
  have hlt:(natsI T).length=lb:=by unfold natsI;rw [List.length_map];exact HLL.out T (List.mem_of_getElem? hT)
  rw [hlt] at hcell t1
  refine ⟨b,o,g,c,he,hW.cell hcell,t1,t2,fun k x hx=>?_⟩
  obtain ⟨b2,o2,hg,-,hc2⟩:=t5 (by intro e;have:=natsI_get hx;rw [e] at this;simp at this)
  exact ⟨b2,o2,hg,hW.cell (hc2 k _ (natsI_get hx))⟩
 have HGB:Hid (∀ W,Ext w W→∀ (i x:Nat),S[i]?=some x→∃ b o,ab=some ⟨b,o,none⟩∧W.cell? ⟨b,o+i,none⟩=some (.int .i64 x)):=fun W hW i x hx=>by
  obtain ⟨b,o,he,-,hc⟩:=HCB.out (by intro e;have:=natsI_get hx;rw [e] at this;simp at this)
  exact ⟨b,o,he,hW.cell (hc i _ (natsI_get hx))⟩
 clear h h' p5 r5 hla hlb e1 e2 HCA HCB p3 r3 hm hl
 go_enter Tryz.func70,Tryz.ntmps70
 go_wp2_with fail
 go_loopw [5,6,7] (fun t s0 k0 wr=>∃ (i:Nat) (y1 y2:Value),i≤la∧t=.int .i64 (i:Int)∧s0=y1∧k0=y2∧Hid (Ext w wr)∧Hid (∀ j,j<i→L[j]?≠some S)) (fun t _ _ _=>la+1-(intOf t).toNat)
 case atStart=>exact ⟨0,_,_,by omega,by simp,rfl,rfl,Ext.refl _,fun j hj=>absurd hj (by omega)⟩
 case round =>
  obtain ⟨i,y1,y2,hi,rfl,hy1,hy2,HE,HN⟩:=hrel
  obtain rfl:=hy1.symm
  obtain rfl:=hy2.symm
  obtain ⟨wo,rfl⟩:∃ wo:World,wo=wr:=⟨_,rfl⟩
  by_cases hil:i<la
  ·obtain ⟨T,hT⟩:∃ T,L[i]?=some T:=⟨_,List.getElem?_eq_getElem (by have:=HLA.out;omega)⟩
   have HT:=Lib.hid hT
   have HTL:=Lib.hid (HLL.out T (List.mem_of_getElem? hT))
   have q1:(i:Int)<(la:Int):=by omega
   clear hT
   go_wp2_with fail
   go_loopw [6,7] (fun s t wr=>∃ (k:Nat) (b:Bool),k≤lb∧s=.bool b∧t=.int .i64 (k:Int)∧Hid (Ext w wr)∧Hid (b=true↔T.take k=S.take k)) (fun _ t _=>lb+1-(intOf t).toNat)
   case atStart=>exact ⟨0,true,by omega,rfl,by simp,HE.out,by simp [Hid]⟩
   case round =>
    obtain ⟨k,b,hk,rfl,rfl,HF,HB⟩:=hrel
    by_cases hkl:k<lb
    ·obtain ⟨x,hx⟩:∃ x,T[k]?=some x:=⟨_,List.getElem?_eq_getElem (by have:=HTL.out;omega)⟩
     obtain ⟨y,hy⟩:∃ y,S[k]?=some y:=⟨_,List.getElem?_eq_getElem (by have:=HLB.out;omega)⟩
     obtain ⟨bA,oA,gr,gc,rfl,gA,gl,gm,gx⟩:=HGA.out wr HF.out i T HT.out
     unfold maxLen at gm
     obtain ⟨b2,o2,rfl,gX⟩:=gx k x hx
     obtain ⟨bB,oB,rfl,gB⟩:=HGB.out wr HF.out k y hy
     have q2:(k:Int)<(lb:Int):=by omega
     have HB9:Hid ((b && ((x:Int) == (y:Int)))=true↔T.take (k+1)=S.take (k+1)):=by
      unfold Hid
      rw [List.take_add_one,List.take_add_one,hx,hy,Bool.and_eq_true,HB.out,beq_iff_eq]
      constructor
      ·rintro ⟨h1,h2⟩
       rw [h1,show x=y by omega]
      ·intro h1
       have h2:=List.append_inj h1 (by rw [List.length_take,List.length_take,HTL.out,HLB.out])
       refine ⟨h2.1,?_⟩
       have h3:=h2.2
       simp at h3;omega
     clear hx hy gx
     cases b with
     | true =>
      obtain ⟨eb,heb⟩:∃ eb,((x:Int) == (y:Int))=eb:=⟨_,rfl⟩
      rw [heb,Bool.true_and] at HB9
      go_wp2_with fail
      (try go_quiet (fail);go_wp2_with fail)
      go_roundw
      case rel=>exact ⟨k+1,eb,by omega,rfl,by go_num,HF.out.draws _,HB9.out⟩
      case measure=>simp [intOf];omega
     | false =>
      rw [Bool.false_and] at HB9
      go_wp2_with fail
      (try go_quiet (fail);go_wp2_with fail)
      go_roundw
      case rel=>exact ⟨k+1,false,by omega,rfl,by go_num,HF.out.draws _,HB9.out⟩
      case measure=>simp [intOf];omega
    ·obtain rfl:k=lb:=by omega
     have HTS:Hid (b=true↔T=S):=by
      unfold Hid
      rw [HB.out,List.take_of_length_le (by have:=HTL.out;omega),List.take_of_length_le (by have:=HLB.out;omega)]
     cases b with
     | true =>
      have HP:Hid (placeL L S=i):=placeL_at (by rw [HT.out,HTS.out.1 rfl]) HN.out
      go_wp2_with fail
      go_ret
      exact ⟨by rw [HP.out];rfl,HF.out⟩
     | false =>
      have HN9:Hid (∀ j,j<i+1→L[j]?≠some S):=fun j hj e=>by
       by_cases hji:j=i
       ·subst hji
        rw [HT.out] at e
        have:=HTS.out.2 (Option.some.inj e)
        cases this
       ·exact HN.out j (by omega) e
      go_wp2_with fail
      go_roundw
      case rel=>exact ⟨i+1,_,_,by omega,by go_num,rfl,rfl,HF.out,HN9.out⟩
      case measure=>simp [intOf];omega
  ·exfalso
   obtain ⟨j,hj⟩:=List.getElem?_of_mem HM.out
   exact HN.out j (by have:=(List.getElem?_eq_some_iff.1 hj).1;have:=HLA.out;omega) hj
set_option maxRecDepth 100000 in
set_option maxHeartbeats 2000000 in
theorem odd10_any (A:List Nat) (hA:A.length≤24) (u:Value) (w:World) (h:Ints w u (natsI A)) :
  Calls Tryz.prog 71 #[u] w fun e w'=>e=.returned (.bool (oddL A))∧Ext w w':=by
 obtain ⟨aa,ca,rfl,p1,p2,p3,-,p5⟩:=h.open
 unfold maxLen at p2
 have HCA:=Lib.hid p5
 obtain ⟨la,hla⟩:∃ l,A.length=l:=⟨_,rfl⟩
 have HLA:=Lib.hid hla
 have e1:(natsI A).length=la:=by unfold natsI;rw [List.length_map];exact hla
 rw [e1] at p1 ⊢
 rw [hla] at hA
 have HGA:Hid (∀ W,Ext w W→∀ (i x:Nat),A[i]?=some x→∃ b o,aa=some ⟨b,o,none⟩∧W.cell? ⟨b,o+i,none⟩=some (.int .i64 x)):=fun W hW i x hx=>by
  obtain ⟨b,o,he,-,hc⟩:=HCA.out (by intro e;have:=natsI_get hx;rw [e] at this;simp at this)
  exact ⟨b,o,he,hW.cell (hc i _ (natsI_get hx))⟩
 clear h p5 hla e1 HCA p3
 go_enter Tryz.func71,Tryz.ntmps71
 go_wp2_with fail
 go_loopw [3,4,5] (fun s t k0 wr=>∃ (i:Nat) (b:Bool) (y1:Value),i≤la∧s=.bool b∧t=.int .i64 (i:Int)∧k0=y1∧Hid (Ext w wr)∧Hid ((b ^^ oddL (A.drop i))=oddL A)) (fun _ t _ _=>la+1-(intOf t).toNat)
 case atStart=>exact ⟨0,false,_,by omega,rfl,by simp,rfl,Ext.refl _,by simp [Hid]⟩
 case round =>
  obtain ⟨i,b,y1,hi,rfl,rfl,hy1,HE,HB⟩:=hrel
  obtain rfl:=hy1.symm
  obtain ⟨wo,rfl⟩:∃ wo:World,wo=wr:=⟨_,rfl⟩
  by_cases hil:i<la
  ·obtain ⟨x,hx⟩:∃ x,A[i]?=some x:=⟨_,List.getElem?_eq_getElem (by have:=HLA.out;omega)⟩
   have q1:(i:Int)<(la:Int):=by omega
   have HX:=Lib.hid hx
   have HB0:Hid ((b ^^ parN (lessN x (A.drop (i+1))))=(oddL A ^^ oddL (A.drop (i+1)))):=by
    unfold Hid
    have h9:=HB.out
    rw [oddL_par (A.drop i),invN_drop hx,parN_add,← oddL_par] at h9
    rw [← h9]
    cases b <;> cases parN (lessN x (A.drop (i+1))) <;> cases oddL (A.drop (i+1)) <;> rfl
   clear hx
   go_wp2_with fail
   go_loopw [3,5] (fun s t wr=>∃ (k:Nat) (b:Bool),i<k∧k≤la∧s=.bool b∧t=.int .i64 (k:Int)∧Hid (Ext w wr)∧Hid ((b ^^ parN (lessN x (A.drop k)))=(oddL A ^^ oddL (A.drop (i+1))))) (fun _ t _=>la+1-(intOf t).toNat)
   case atStart=>exact ⟨i+1,b,by omega,by omega,rfl,by go_num,HE.out,HB0.out⟩
   case round =>
    obtain ⟨k,c,hik,hk,rfl,rfl,HF,HC⟩:=hrel
    by_cases hkl:k<la
    ·obtain ⟨y,hy⟩:∃ y,A[k]?=some y:=⟨_,List.getElem?_eq_getElem (by have:=HLA.out;omega)⟩
     obtain ⟨bA,oA,rfl,gA⟩:=HGA.out wr HF.out i x HX.out
     obtain ⟨bB,oB,heB,gB⟩:=HGA.out wr HF.out k y hy
     simp only [Option.some.injEq,Addr.mk.injEq,and_true] at heB
     obtain ⟨rfl,rfl⟩:=heB
     have q2:(k:Int)<(la:Int):=by omega
     have hst:parN (lessN x (A.drop k))=(parN (lessN x (A.drop (k+1))) ^^ decide (y<x)):=by
      rw [drop_getI hy,lessN_cons,parN_add]
      by_cases hyx:y<x
      ·rw [if_pos hyx,decide_eq_true hyx];rfl
      ·rw [if_neg hyx,decide_eq_false hyx];rfl
     have h9:=HC.out
     rw [hst] at h9
     clear hy
     by_cases hyx:y<x
     ·have q3:(y:Int)<(x:Int):=by omega
      rw [decide_eq_true hyx] at h9
      have HC9:Hid (((!c) ^^ parN (lessN x (A.drop (k+1))))=(oddL A ^^ oddL (A.drop (i+1)))):=by
       unfold Hid;rw [← h9];cases c <;> cases parN (lessN x (A.drop (k+1))) <;> rfl
      clear h9 hst hyx
      go_wp2_with fail
      (try go_quiet (fail);go_wp2_with fail)
      go_roundw
      case rel=>exact ⟨k+1,!c,by omega,by omega,rfl,by go_num,HF.out.draws _,HC9.out⟩
      case measure=>simp [intOf];omega
     ·have q3:¬ (y:Int)<(x:Int):=by omega
      rw [decide_eq_false hyx,Bool.xor_false] at h9
      have HC9:=Lib.hid h9
      clear h9 hst hyx
      go_wp2_with fail
      (try go_quiet (fail);go_wp2_with fail)
      go_roundw
      case rel=>exact ⟨k+1,c,by omega,by omega,rfl,by go_num,HF.out.draws _,HC9.out⟩
      case measure=>simp [intOf];omega
    ·obtain rfl:k=la:=by omega
     have HB9:Hid ((c ^^ oddL (A.drop (i+1)))=oddL A):=by
      unfold Hid
      have h9:=HC.out
      rw [List.drop_eq_nil_of_le (by have:=HLA.out;omega)] at h9
      have h8:(c ^^ parN (lessN x []))=c:=by cases c <;> rfl
      rw [h8] at h9
      rw [h9]
      cases oddL A <;> cases oddL (A.drop (i+1)) <;> rfl
     go_wp2_with fail
     go_roundw
     case rel=>exact ⟨i+1,c,_,by omega,rfl,by go_num,rfl,HF.out,HB9.out⟩
     case measure=>simp [intOf];omega
  ·obtain rfl:i=la:=by omega
   have HV:Hid (oddL A=b):=by
    unfold Hid
    have h9:=HB.out
    rw [List.drop_eq_nil_of_le (by have:=HLA.out;omega)] at h9
    rw [← h9];cases b <;> rfl
   go_wp2_with fail
   go_ret
   exact ⟨by rw [HV.out];rfl,HE.out⟩
end Go.Proofs.YtjlkkofmojgipaaGreatDoor
namespace Go.Proofs.YtjlkkofmojgipaaGreatDoor
set_option linter.unusedVariables false
set_option linter.unusedSimpArgs false
open Go.RowKit Go.Maps
def PlacesIn2 (w:World) (b N n k:Nat) (L:List Nat):Prop:=∃ D:DataW Unit,w.ownsMap Tryz.prog 100 (plainElem Tryz.prog 3) b N D∧IsMap D∧(∀ s∈L,D.atKey (.int .u64 (s:Int)) (.lit (.int .i64 0))=.lit (.int .i64 (placeW n k s:Int)))∧Tidy D∧Maps.size D=L.length∧∀ x:Nat,has D (.int .u64 (x:Int))=true→x∈L
def PlacesM2 (w:World) (v:Value) (n k:Nat):Prop:=∃ b N,v=.map (some b)∧PlacesIn2 w b N n k (allW n k)
theorem PlacesM2.one {w:World} {v:Value} {n k:Nat} (h:PlacesM2 w v n k):PlacesM w v n k:=by
 obtain ⟨b,N,hv,D,h1,h2,h3,-⟩:=h
 exact ⟨b,N,hv,D,h1,h2,h3⟩
theorem PlacesIn2.ext {w w':World} {b N n k:Nat} {L:List Nat} (h:PlacesIn2 w b N n k L) (he:Ext w w'):PlacesIn2 w' b N n k L:=by
 obtain ⟨D,h1,h2⟩:=h
 exact ⟨D,h1.kept (he.grown none) (by simp),h2⟩
theorem PlacesM2.ext {w w':World} {v:Value} {n k:Nat} (h:PlacesM2 w v n k) (he:Ext w w'):PlacesM2 w' v n k:=by
 obtain ⟨b,N,hv,h1⟩:=h
 exact ⟨b,N,hv,h1.ext he⟩
theorem PlacesIn2.made (w:World) (n k:Nat):PlacesIn2 (w.alloc (.map #[] 0)) w.heap.size 0 n k []:=⟨.map [],World.ownsMap_made _ _ _ _,⟨_,rfl⟩,(fun s hs=>by cases hs),tidy_empty,rfl,fun x hx=>by cases hx⟩
end Go.Proofs.YtjlkkofmojgipaaGreatDoor
namespace Go.Proofs.YtjlkkofmojgipaaGreatDoor
set_option linter.unusedVariables false
open Go.RowKit
section
variable {P:Program} {ops O:Array Oper} {Q:Exit→Act→World→Prop} {md:Region.Mode} {S:World→Prop} {z n:Nat}
def waitB (md:Region.Mode) (ops:Array Oper) (a i:Nat):Bool:=match ops[a]? with
 | some o=>o.after.any fun e=>Region.binds md e && e.on == i
 | none=>false
def pathB (md:Region.Mode) (ops:Array Oper):Nat→List Nat→Nat→Bool
 | a,[],i=>waitB md ops a i
 | a,b::bs,i=>waitB md ops a b && pathB md ops b bs i
theorem path_reach:∀ (bs:List Nat) (a i:Nat),pathB md ops a bs i=true→reachB md ops (bs.length+1) a i=true
 | [],a,i,h=>by
  unfold pathB waitB at h
  unfold reachB
  cases hq:ops[a]? with
  | none=>rw [hq] at h;cases h
  | some o =>
   rw [hq] at h
   obtain ⟨e,he,hb⟩:=Array.any_eq_true'.1 h
   exact Array.any_eq_true'.2 ⟨e,he,by simp only [Bool.and_eq_true,Bool.or_eq_true] at hb ⊢;exact ⟨hb.1,Or.inl hb.2⟩⟩
 | b::bs,a,i,h=>by
  unfold pathB waitB at h
  rw [Bool.and_eq_true] at h
  have ih:=path_reach bs b i h.2
  have h:=h.1
  show reachB md ops (bs.length+1+1) a i=true
  unfold reachB
  cases hq:ops[a]? with
  | none=>rw [hq] at h;cases h
  | some o =>
   rw [hq] at h
   obtain ⟨e,he,hb⟩:=Array.any_eq_true'.1 h
   simp only [Bool.and_eq_true,beq_iff_eq] at hb
   exact Array.any_eq_true'.2 ⟨e,he,by simp only [Bool.and_eq_true,Bool.or_eq_true];exact ⟨hb.1,Or.inr (by rw [hb.2];exact ih)⟩⟩
theorem anyE_takeP (hO:Hid (ops=O)) (i:Nat) (bs:List Nat) {oi:Oper} {v:Value} {f:Nat} {l:Array Bool} {a:Act} {w:World} (hi:ops[i]?=some oi)
  (hs:Region.noSelect O=true) (hc:closedB md O l=true) (hf:Region.free md O l i=true) (hr:(Region.ready md O l).contains i=true) (hz:pathB md O z bs i=true)
  (hQ:∀ c a w,Q (.panic c) (a.put oi.dst v) w→Q (.panic c) a w) (hy:YieldsIf P O S oi v a) (hS:S w)
  (h:anyE P md ops Q S z f (l.setIfInBounds i true) (a.put oi.dst v) w):anyE P md ops Q S z (f+1) l a w:=by
 have hO:ops=O:=hO
 subst hO
 exact anyE_first hi (Region.noSelect_spec hs) hQ (path_reach bs z i hz) f l a w (Region.free_spec hi hf) (closedB_spec hc) (by simpa using hr) hy hS h
theorem anyE_lastP (hO:Hid (ops=O)) (i:Nat) {o:Oper} {f:Nat} {l:Array Bool} {a:Act} {w:World} (hr:Region.ready md O l=[i]) (hr2:Region.ready md O (l.setIfInBounds i true)=[]) (hz:(l.setIfInBounds i true).getD z false=true) (ho:ops[i]?=some o)
  (h:∀ K:Act→World→Prop,Shut (∀ b u,Q .normal b u→K b u)→if Region.wanted o (yielded O a.tmps)=true then Oper.wp P o a w K Q else K (a.put o.dst undef) w):anyE P md ops Q S z (f+1) l a w:=by
 have hO:ops=O:=hO
 subst hO
 exact anyE_last i hr hr2 hz ho h
end
end Go.Proofs.YtjlkkofmojgipaaGreatDoor
namespace Go.Proofs.YtjlkkofmojgipaaGreatDoor
set_option linter.unusedVariables false
set_option linter.unusedSimpArgs false
open Go.RowKit Go.Maps
theorem RowN.numsZ {w:World} {g c:Nat} {l:List Int} (h:RowN w g l) (h1:l.length≤c) (h2:c≤9223372036854775807):ListAt 1 numC w (.slice (some ⟨g,0,none⟩) l.length c) l:=by
 refine ⟨l.map fun n=>[Value.string (intB n)],by simp,by simp,⟨_,c,rfl,h1,by unfold maxLen;omega,fun e=>by simp at e,fun _=>⟨g,0,rfl,h.lt,fun j u hu=>?_⟩⟩,fun j u x hu hx=>?_⟩
 ·rw [flatten_one (fun n=>Value.string (intB n)),List.getElem?_map] at hu
  cases hx:l[j]? with
  | none=>rw [hx] at hu;cases hu
  | some x =>
   rw [hx] at hu
   simp only [Option.map_some,Option.some.injEq] at hu
   rw [Nat.zero_add,← hu]
   exact h.cell j x hx
 ·rw [List.getElem?_map,hx] at hu
  exact (Option.some.inj hu).symm
def NoS (w w':World):Prop:=w.heap.size≤w'.heap.size∧∀ a v,w.cell? a=some v→(∀ s,v≠.string s)→w'.cell? a=some v
theorem NoS.refl (w:World):NoS w w:=⟨Nat.le_refl _,fun _ _ h _=>h⟩
theorem NoS.ext {w w' w'':World} (h:NoS w w') (he:Ext w' w''):NoS w w'':=⟨Nat.le_trans h.1 he.size,fun a v hv hs=>he.cell (h.2 a v hv hs)⟩
theorem NoS.set {w w':World} {g p:Nat} {X:List Int} {v:ByteArray} (h:NoS w w') (hR:RowN w' g X) (hp:p<X.length):NoS w (w'.setCell ⟨g,p,none⟩ (.string v)):=by
 refine ⟨by rw [setCell_sizeQ];exact h.1,fun a u hu hs=>?_⟩
 have h1:=h.2 a u hu hs
 have hne:a≠⟨g,p,none⟩:=by
  rintro rfl
  rw [hR.cell p _ (List.getElem?_eq_getElem hp)] at h1
  exact hs _ (Option.some.inj h1).symm
 rw [World.cell?_setCell_other w' _ _ _ (fun e=>hne e.symm)]
 exact h1
theorem step_append_manyI {ops:Array Oper} {o:Oper} {a:Act} {K:Act→World→Prop} {Q:Exit→Act→World→Prop} {E:Prop} (hgd:o.guard=none) (w:World) (s x:Operand) (T2:TypeId) (ht2:Tryz.prog.underlying T2=some (TypeDesc.slice 3)) (ho:o.op=.call { callee:=.builtin .append,args:=#[s,x],argTypes:=#[T2,T2] }) (B:Nat)
  (v:Value) (l ys:List Int) (u:Value) (hs:a.eval s=v) (hB:OwnR B w v l) (hx:a.eval x=u) (hu:Ints w u ys) (hlen:l.length+ys.length<1000000) (hbase:B≤w.heap.size)
  (h:∀ v' w',OwnR B w' v' (l++ys)→Below B w w'→K (a.put o.dst v') w'):if Region.wanted o (yielded ops a.tmps)=true then Oper.wp Tryz.prog o a w K Q else E:=by
 rw [if_pos (by unfold Region.wanted;rw [hgd])]
 obtain ⟨ad,c,rfl,h1,h2,h3,hb,hc⟩:=hu.open
 obtain ⟨i0,hi,hz0,hz1,hz2⟩:=info_parts infoInt
 cases ad with
 | none =>
  have h0:ys=[]:=by have:=h3 rfl;exact List.eq_nil_of_length_eq_zero (by omega)
  subst h0
  obtain rfl:c=0:=h3 rfl
  have hrun:=run_append_owned_none (P:=Tryz.prog) (w:=w) B T2 o.type 3 i0 1 ht2 hi v l.length (l.map (Value.int .i64 ·)) hB
  unfold Oper.wp
  simp [execOp,ho,resolve,invoke,builtin,hs,hx,hrun,Result.andThen]
  exact h _ _ (by rw [List.append_nil];exact hB) (Below.refl _ _)
 | some ad =>
  have hnews:∀ (j:Nat) (u:Value),(ys.map (Value.int .i64))[j]?=some u→w.cell? (ad.add j)=some u:=by
   intro j u hu
   rw [List.getElem?_map] at hu
   cases hj:ys[j]? with
   | none=>simp [hj] at hu
   | some x =>
    simp [hj] at hu;subst hu
    obtain ⟨b,off,hab,hbw,hcell⟩:=hc (by intro e;simp [e] at hj)
    cases hab
    have:=hcell j x hj
    rw [show (⟨b,off,none⟩:Addr).add j=⟨b,off+j,none⟩ by unfold Addr.add;split <;> simp_all]
    exact this
  refine wp_append_own_at w s x T2 ho B 3 i0 (.int .i64 0) 1 8 ht2 hi hz0 hz1 hz2 rfl (by decide) v l.length (l.map (Value.int .i64 ·)) hs hB ad ys.length c (ys.map (Value.int .i64)) hx (by simp) hnews (ints_oneCell _ _) (by unfold maxLen;omega) (by omega) hbase ?_
  intro v' w' hown' hgrow _ _
  refine h v' w' (by simpa [OwnR] using hown') (Below.grown (Below.refl _ _) hgrow hbase (by intro k hk;exact (hB.lt k hk).1))
end Go.Proofs.YtjlkkofmojgipaaGreatDoor
namespace Go.Proofs.YtjlkkofmojgipaaGreatDoor
set_option linter.unusedVariables false
section
variable {P:Program} {ops:Array Oper} {Q:Exit→Act→World→Prop} {md:Region.Mode} {S:World→Prop} {z:Nat}
theorem anyE_fork2 (i j:Nat) {oi oj:Oper} {f:Nat} {l:Array Bool} {a:Act} {w:World} (hr:Region.ready md ops l=[i,j]) (hi:ops[i]?=some oi) (hj:ops[j]?=some oj)
  (h1:∀ K:Act→World→Prop,Shut (∀ b u,S u→(S u→anyE P md ops Q S z f (l.setIfInBounds i true) b u)→K b u)→if Region.wanted oi (yielded ops a.tmps)=true then Oper.wp P oi a w K Q else K (a.put oi.dst undef) w)
  (h2:∀ K:Act→World→Prop,Shut (∀ b u,S u→(S u→anyE P md ops Q S z f (l.setIfInBounds j true) b u)→K b u)→if Region.wanted oj (yielded ops a.tmps)=true then Oper.wp P oj a w K Q else K (a.put oj.dst undef) w):anyE P md ops Q S z (f+1) l a w:=by
 refine ⟨(fun e=>by rw [hr] at e;cases e),fun m hm=>?_⟩
 rw [hr] at hm
 simp only [List.mem_cons,List.not_mem_nil,or_false] at hm
 rcases hm with rfl | rfl
 ·exact wpOp_step hi fun K hK=>h1 K fun b u hS hrest=>hK b u ⟨fun _=>hS,hrest hS⟩
 ·exact wpOp_step hj fun K hK=>h2 K fun b u hS hrest=>hK b u ⟨fun _=>hS,hrest hS⟩
end
end Go.Proofs.YtjlkkofmojgipaaGreatDoor
namespace Go.Proofs.YtjlkkofmojgipaaGreatDoor
set_option linter.unusedVariables false
open Go.RowKit
section
variable {P:Program} {ops O:Array Oper} {Q:Exit→Act→World→Prop} {md:Region.Mode} {S:World→Prop} {z:Nat}
theorem anyE_fork2X (hO:Hid (ops=O)) (i j:Nat) {oi oj:Oper} {f:Nat} {l:Array Bool} {a:Act} {w:World} (hr:Region.ready md O l=[i,j]) (hi:ops[i]?=some oi) (hj:ops[j]?=some oj)
  (h1:∀ K:Act→World→Prop,Shut (∀ b u,S u→(S u→anyE P md ops Q S z f (l.setIfInBounds i true) b u)→K b u)→if Region.wanted oi (yielded O a.tmps)=true then Oper.wp P oi a w K Q else K (a.put oi.dst undef) w)
  (h2:∀ K:Act→World→Prop,Shut (∀ b u,S u→(S u→anyE P md ops Q S z f (l.setIfInBounds j true) b u)→K b u)→if Region.wanted oj (yielded O a.tmps)=true then Oper.wp P oj a w K Q else K (a.put oj.dst undef) w):anyE P md ops Q S z (f+1) l a w:=by
 have hO:ops=O:=hO
 subst hO
 exact anyE_fork2 i j hr hi hj h1 h2
end
end Go.Proofs.YtjlkkofmojgipaaGreatDoor
