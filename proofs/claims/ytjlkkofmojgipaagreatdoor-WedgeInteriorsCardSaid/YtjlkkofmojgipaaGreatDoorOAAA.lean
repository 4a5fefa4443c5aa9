import Derived.Test.YtjlkkofmojgipaaGreatDoorPBO
import Derived.Test.YtjlkkofmojgipaaGreatDoorPBK
import Derived.Test.YtjlkkofmojgipaaGreatDoorPAF
import Derived.Test.YtjlkkofmojgipaaGreatDoorPAU
namespace Go.Proofs.YtjlkkofmojgipaaGreatDoor
set_option linter.unusedVariables false
set_option linter.unusedSimpArgs false
open Go.RowKit
theorem allW_posZ:∀ n,n<7→∀ k,k<n+1→0<(allW n k).length:=by decide +kernel
set_option maxRecDepth 100000 in
set_option maxHeartbeats 2000000 in
theorem refZero10_any (n k:Nat) (hn:n<7) (hk:k≤n) (w:World) :
  Calls Tryz.prog 66 #[.int .i64 n,.int .i64 k] w fun e w'=>∃ g c,e=.returned (.agg #[.int .i64 n,.int .i64 k,.slice (some ⟨g,0,none⟩) (allW n k).length c])∧RowN w' g (List.replicate (allW n k).length 0)∧w.heap.size<g∧g<w'.heap.size∧(allW n k).length≤c∧c≤9223372036854775807∧Ext w w':=by
 obtain ⟨N,hN⟩:∃ N,(allW n k).length=N:=⟨_,rfl⟩
 have hNp:=allW_posZ n hn k (by omega)
 have hN9:=allW_len (n:=n) (k:=k) (by omega) hk
 rw [hN] at hNp hN9 ⊢
 have HSE:Hid (∀ W,Calls Tryz.prog 33 #[.int .i64 (n:Int),.int .i64 (k:Int)] W fun e w'=>∃ a c,e=.returned (.slice a N c)∧Ext W w'):=fun W=>(refSets_any n k (by omega) hk W).mono fun e w' ⟨v,h1,h2,h3⟩=>by
  rw [← setsI_castM (by omega) hk] at h2
  obtain ⟨a,c,rfl,-⟩:=ListAt.open h2
  have hl:(setsI (allW n k)).length=N:=by unfold setsI;rw [List.length_map];exact hN
  rw [hl] at h1
  exact ⟨a,c,h1,h3⟩
 obtain ⟨w1,hw1,hE1,hs1,hb1⟩:=boxR w (.int .i64 0) (.int .i64 0) (.slice none 0 0)
 obtain ⟨w2,hw2,hE2,hs2,hb2⟩:=boxR w1 (.int .i64 0) (.int .i64 0) (.slice none 0 0)
 have HE2:=Lib.hid hE2;have HB1:=Lib.hid hb1;have HB2:=Lib.hid hb2;have HE1:=Lib.hid hE1
 have HS1:Hid (w1.heap.size=w.heap.size+1):=hs1
 have f2:=block_free hb2
 have k2:=block_cell hb2
 clear hb1 hb2 hE1 hE2 hs2 hN hn hk hs1
 go_enter Tryz.func66,Tryz.ntmps66
 go_upto_region 2 with fail
 generalize hw9:World.setCell _ _ _=w5
 have HB5:Hid (w5.heap[w1.heap.size]?=some (.cells #[.int .i64 n,.int .i64 k,.slice none 0 0] 37 (0,0))):=by rw [← hw9];exact store3 HB2.out _ _ _
 have HX25:Hid (Ext w1 w5):=by rw [← hw9];exact multi_ext HE2.out (Nat.le_refl _) _ _ _
 have HE5:Hid (Ext w w5):=HE1.out.trans HX25.out
 have HB15:=Lib.hid (block_ext HB1.out HX25.out)
 obtain ⟨b2,hb2⟩:∃ b,w1.heap.size=b:=⟨_,rfl⟩
 clear hw9 hw2 k2 f2 hw1
 rw [hb2] at HB5 HS1
 go_wp2_with fail
 refine (HSE.out w5).mono ?_
 rintro e w7 ⟨a7,c7,rfl,h7⟩
 have HE7:Hid (Ext w w7):=HE5.out.trans h7
 have HB7:=Lib.hid (block_ext HB5.out h7)
 have HB17:=Lib.hid (block_ext HB15.out h7)
 have HBL:Hid (b2<w7.heap.size):=block_lt HB7.out
 clear h7 HSE
 go_wp2_with fail
 (try rw [hb2])
 clear hb2
 go_loopw [7] (fun t wr=>∃ i:Nat,i≤N∧t=.int .i64 (i:Int)∧Hid (GrownS (·=b2) w7 wr)∧Hid (∃ so,wr.heap[b2]?=some (.cells #[.int .i64 n,.int .i64 k,so] 37 (0,0))∧Build wr w7.heap.size 53 1 so numC (List.replicate i 0))) (fun t _=>N+1-(intOf t).toNat)
 case atStart=>exact ⟨0,by omega,by simp,GrownS.refl _ _,_,HB7.out,Build.nil _ _ _ _ _⟩
 case round =>
  obtain ⟨i,hi,rfl,HG,HBB⟩:=hrel
  by_cases hlt:i<N
  ·have hst:List.replicate (i+1) (0:Int)=List.replicate i 0++[0]:=List.replicate_succ'
   have HST:=Lib.hid hst
   obtain ⟨so,hBK,hBU⟩:=HBB.out
   obtain ⟨ao,co,rfl,-⟩:=ListAt.open hBU.list
   obtain ⟨L,hL⟩:∃ L,List.replicate i (0:Int)=L:=⟨_,rfl⟩
   have hLl:L.length=i:=by rw [← hL,List.length_replicate]
   rw [hL] at hBK hBU HST
   rw [hLl] at hBK hBU
   have HBK:=Lib.hid hBK;have HB:=Lib.hid hBU
   have z1:=block_cell hBK
   have HLL2:Hid (L.length<1000000):=by unfold Hid;omega
   have HSZ:Hid (w7.heap.size≤wr.heap.size):=HG.out.size
   clear hst hBK hBU hL hLl HBB
   go_wp2_with (at_builtin;go_must (refine wpList_append_build wr rfl _ _ 29 rfl w7.heap.size 53 (.string ⟨#[]⟩) 1 16 Tryz.underlying29 infoBigI rfl (by decide) (.slice ao i co) numC L (0:Int) #[.string ⟨#[48]⟩] 53 rfl HB.out rfl rfl ?c1 ?c2 HLL2.out (by decide) HSZ.out ?_))
   case c1=>simp [Value.oneCell']
   case c2=>exact fun _ _=>by show [Value.string ⟨#[48]⟩]=[.string (intB 0)];rw [show intB 0=⟨#[48]⟩ by decide +kernel]
   intro v' w6 hB6 hg6 hb6 hs6 _
   rw [← HST.out] at hB6
   have HB6:=Lib.hid hB6
   have HG6:Hid (GrownS (·=b2) w7 w6):=HG.out.thenBelow hb6 (Nat.le_refl _)
   have HK6:=Lib.hid ((Below.block hb6 b2 HBL.out).trans HBK.out)
   obtain ⟨a6,c6,rfl,-⟩:=ListAt.open hB6.list
   obtain ⟨m6,hm6⟩:∃ m,(List.replicate (i+1) (0:Int)).length=m:=⟨_,rfl⟩
   rw [hm6] at HB6 ⊢
   clear hm6 hB6 hg6 hb6
   have k6:=block_cell HK6.out
   have f6:=block_free HK6.out
   go_wp2_with fail
   go_roundw
   case rel=>exact ⟨i+1,by omega,by go_num,HG6.out.trans (grownBy_S (grown_setCell _ _ _ _) (fun k hk=>by cases hk;rfl)),_,block_set HK6.out 2 _,HB6.out.boxAt HBL.out 2 _⟩
   case measure=>simp [intOf];omega
  ·obtain rfl:i=N:=by omega
   obtain ⟨so,hBK,hBU⟩:=HBB.out
   obtain ⟨g,c,hso,hRN,hgb,hgc,hcm⟩:=RowN.of_build hBU (by rw [List.length_replicate];exact hNp)
   rw [List.length_replicate] at hso hgc
   subst hso
   have HE9:Hid (Ext w wr):=ext_grownS HE7.out HG.out (fun j hj e=>by have:=HS1.out;omega)
   have HB19:Hid (wr.heap[w.heap.size]?=some (.cells #[.int .i64 0,.int .i64 0,.slice none 0 0] 37 (0,0))):=by
    unfold Hid
    rw [← HB17.out]
    exact HG.out.block _ (block_lt HB17.out) (by have:=HS1.out;omega)
   have HRN:=Lib.hid hRN;have HGB:=Lib.hid hgb;have HGC:=Lib.hid hgc;have HCM:=Lib.hid hcm
   have hgl:Hid (w.heap.size<g):=by unfold Hid;have:=HBL.out;have:=HS1.out;omega
   have kk:=block_cell hBK
   have f9:=block_free HB19.out
   have k9:=block_cell HB19.out
   clear hBK hBU HBB hRN hgb hgc hcm
   go_wp2_with fail
   have hb7:=store3 HB19.out (.int .i64 n) (.int .i64 k) (.slice (some ⟨g,0,none⟩) i c)
   refine bodyPost_ret (results_cell_row (by rfl) _ _ w.heap.size 37 #[.int .i64 n,.int .i64 k,.slice (some ⟨g,0,none⟩) i c] (0,0) _ (by rfl) hb7 Tryz.underlying37 (by rfl) (by kernel_rfl)) (by rfl) ⟨g,c,rfl,HRN.out.grown (grownBy_S (S:=(·=w.heap.size)) (multi_grown _ _ _ _ _) (fun k hk=>by cases hk;rfl)) (fun e=>by have:=hgl.out;omega),hgl.out,Nat.lt_of_lt_of_le HRN.out.lt (multi_grown wr w.heap.size _ _ _).size,HGC.out,HCM.out,multi_ext HE9.out (Nat.le_refl _) _ _ _⟩
theorem drop_getI {α:Type} {l:List α} {i:Nat} {x:α} (h:l[i]?=some x):l.drop i=x::l.drop (i+1):=by
 obtain ⟨hi,hx⟩:=List.getElem?_eq_some_iff.1 h
 rw [List.drop_eq_getElem_cons hi,hx]
theorem mergeL_nil (f:Nat):mergeL (f+1) [] []=some []:=rfl
theorem mergeL_right (f y:Nat) (b:List Nat):mergeL (f+2) [] (y::b)=(mergeL (f+1) [] b).map (y::·):=rfl
theorem mergeL_left (f x:Nat) (a:List Nat):mergeL (f+2) (x::a) []=(mergeL (f+1) a []).map (x::·):=by cases a <;> rfl
theorem mergeL_same (f x:Nat) (a b:List Nat):mergeL (f+1) (x::a) (x::b)=none:=by simp [mergeL]
theorem mergeL_lt (f:Nat) {x y:Nat} (a b:List Nat) (h:x<y):mergeL (f+1) (x::a) (y::b)=(mergeL f a (y::b)).map (x::·):=by
 simp only [mergeL];rw [if_neg (by omega),if_pos h]
theorem mergeL_gt (f:Nat) {x y:Nat} (a b:List Nat) (h:y<x):mergeL (f+1) (x::a) (y::b)=(mergeL f (x::a) b).map (y::·):=by
 simp only [mergeL];rw [if_neg (by omega),if_neg (by omega)]
def MrgI (a b:List Nat) (i k:Nat) (out:List Nat):Prop:=mergedL a b=(mergeL (a.length+b.length+1-i-k) (a.drop i) (b.drop k)).map (out++·)
theorem map_app (out:List Nat) (x:Nat) (o:Option (List Nat)):(o.map (x::·)).map (out++·)=o.map ((out++[x])++·):=by
 cases o <;> simp
theorem MrgI.start (a b:List Nat):MrgI a b 0 0 []:=by unfold MrgI mergedL;simp
theorem MrgI.left {a b out:List Nat} {i k x:Nat} (h:MrgI a b i k out) (hk:k≤b.length) (hx:a[i]?=some x) (hy:∀ y,b[k]?=some y→x<y):MrgI a b (i+1) k (out++[x]):=by
 unfold MrgI at h ⊢
 have hi:=(List.getElem?_eq_some_iff.1 hx).1
 have e:=drop_getI hx
 rw [h,e]
 obtain ⟨f,hf⟩:∃ f,a.length+b.length+1-i-k=f+2:=⟨a.length+b.length-1-i-k,by omega⟩
 rw [hf,show a.length+b.length+1-(i+1)-k=f+1 by omega]
 cases hb:b[k]? with
 | none =>
  rw [List.drop_eq_nil_of_le (List.getElem?_eq_none_iff.1 hb),mergeL_left,map_app]
 | some y =>
  rw [drop_getI hb,mergeL_lt _ _ _ (hy y hb),map_app]
theorem MrgI.right {a b out:List Nat} {i k y:Nat} (h:MrgI a b i k out) (hi:i≤a.length) (hy:b[k]?=some y) (hx:∀ x,a[i]?=some x→y<x):MrgI a b i (k+1) (out++[y]):=by
 unfold MrgI at h ⊢
 have hk:=(List.getElem?_eq_some_iff.1 hy).1
 have e:=drop_getI hy
 rw [h,e]
 obtain ⟨f,hf⟩:∃ f,a.length+b.length+1-i-k=f+2:=⟨a.length+b.length-1-i-k,by omega⟩
 rw [hf,show a.length+b.length+1-i-(k+1)=f+1 by omega]
 cases ha:a[i]? with
 | none =>
  rw [List.drop_eq_nil_of_le (List.getElem?_eq_none_iff.1 ha),mergeL_right,map_app]
 | some x =>
  rw [drop_getI ha,mergeL_gt _ _ _ (hx x ha),map_app]
theorem MrgI.same {a b out:List Nat} {i k x:Nat} (h:MrgI a b i k out) (hx:a[i]?=some x) (hy:b[k]?=some x):mergedL a b=none:=by
 unfold MrgI at h
 have hi:=(List.getElem?_eq_some_iff.1 hx).1
 have hk:=(List.getElem?_eq_some_iff.1 hy).1
 obtain ⟨f,hf⟩:∃ f,a.length+b.length+1-i-k=f+1:=⟨a.length+b.length-i-k,by omega⟩
 rw [h,hf,drop_getI hx,drop_getI hy,mergeL_same];rfl
theorem MrgI.done {a b out:List Nat} (h:MrgI a b a.length b.length out):mergedL a b=some out:=by
 unfold MrgI at h
 rw [h,List.drop_eq_nil_of_le (Nat.le_refl _),List.drop_eq_nil_of_le (Nat.le_refl _),show a.length+b.length+1-a.length-b.length=0+1 by omega,mergeL_nil]
 simp
def parN (n:Nat):Bool:=decide (n%2=1)
theorem parN_add (a b:Nat):parN (a+b)=(parN a ^^ parN b):=by
 unfold parN
 rcases Nat.mod_two_eq_zero_or_one a with h1 | h1 <;> rcases Nat.mod_two_eq_zero_or_one b with h2 | h2 <;> rw [Nat.add_mod,h1,h2] <;> decide
def lessN (x:Nat) (l:List Nat):Nat:=(l.filter fun y=>decide (y<x)).length
theorem lessN_cons (x y:Nat) (l:List Nat):lessN x (y::l)=lessN x l+(if y<x then 1 else 0):=by
 unfold lessN
 rw [List.filter_cons]
 split <;> split <;> simp_all
theorem oddL_par (l:List Nat):oddL l=parN (invN l):=rfl
theorem invN_drop {l:List Nat} {i x:Nat} (h:l[i]?=some x):invN (l.drop i)=lessN x (l.drop (i+1))+invN (l.drop (i+1)):=by rw [drop_getI h];rfl
end Go.Proofs.YtjlkkofmojgipaaGreatDoor
