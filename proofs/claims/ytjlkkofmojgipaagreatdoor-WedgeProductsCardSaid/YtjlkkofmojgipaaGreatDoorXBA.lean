import Derived.Test.YtjlkkofmojgipaaGreatDoorXAU
import Derived.Test.YtjlkkofmojgipaaGreatDoorXAZ
import Derived.Test.YtjlkkofmojgipaaGreatDoorXAX
import Derived.Test.YtjlkkofmojgipaaGreatDoorXAF
namespace Go.Proofs.YtjlkkofmojgipaaGreatDoor
set_option linter.unusedVariables false
set_option linter.unusedSimpArgs false
open Go.RowKit Go.Maps
def prodErr (n k:Int) (L:List ByteArray) (n' k':Int) (L':List ByteArray):Int :=
 if chkX n k L≠0 then chkX n k L else if chkX n' k' L'≠0 then chkX n' k' L' else if n'≠n then 5 else if n<k+k' then 3 else 0
set_option maxRecDepth 100000 in
set_option maxHeartbeats 1000000 in
theorem prodE_any (n k n' k':Int) (L L':List ByteArray) (u v:Value) (w:World) (h:TxtV w u n k L) (hv:TxtV w v n' k' L') (hs:∀ a∈L,a.size≤100000) (hs':∀ a∈L',a.size≤100000) (h0:prodErr n k L n' k' L'≠0) :
  Calls Tryz.prog 42 #[u,v] w fun e w'=>e=.returned (.tuple #[noMulti,.int .i64 (prodErr n k L n' k' L')])∧Ext w w':=by
 have HCA:Hid (∀ W,Ext w W→Calls Tryz.prog 47 #[u] W fun e w'=>e=.returned (.int .i64 (chkX n k L))∧Ext W w'):=fun W hW=>checkT_any n k L u W (h.ext hW) hs
 have HCB:Hid (∀ W,Ext w W→Calls Tryz.prog 47 #[v] W fun e w'=>e=.returned (.int .i64 (chkX n' k' L'))∧Ext W w'):=fun W hW=>checkT_any n' k' L' v W (hv.ext hW) hs'
 obtain ⟨ua,rfl,hua⟩:=h
 obtain ⟨ub,rfl,hub⟩:=hv
 obtain ⟨a,ca,rfl,a1,a2,-,-⟩:=inCell.open hua
 obtain ⟨b,cb,rfl,b1,b2,-,-⟩:=inCell.open hub
 unfold maxLen at a2 b2
 obtain ⟨ma,hma⟩:∃ m,L.length=m:=⟨_,rfl⟩
 obtain ⟨mb,hmb⟩:∃ m,L'.length=m:=⟨_,rfl⟩
 rw [hma] at a1 HCA ⊢
 rw [hmb] at b1 HCB ⊢
 obtain ⟨EA,hEA⟩:∃ E,chkX n k L=E:=⟨_,rfl⟩
 obtain ⟨EB,hEB⟩:∃ E,chkX n' k' L'=E:=⟨_,rfl⟩
 have HP:Hid (prodErr n k L n' k' L'=if EA≠0 then EA else if EB≠0 then EB else if n'≠n then 5 else if n<k+k' then 3 else 0):=by unfold Hid prodErr;rw [hEA,hEB]
 have HNA:Hid (EA=0→0≤n∧n≤12∧0≤k∧k≤n):=fun e=>by
  rw [← hEA] at e
  obtain ⟨x,y,X,h1,h2,h3,h4,-⟩:=chkX_zero e
  omega
 have HNB:Hid (EB=0→0≤n'∧n'≤12∧0≤k'∧k'≤n'):=fun e=>by
  rw [← hEB] at e
  obtain ⟨x,y,X,h1,h2,h3,h4,-⟩:=chkX_zero e
  omega
 rw [hEA] at HCA
 rw [hEB] at HCB
 obtain ⟨E,hE⟩:∃ E,prodErr n k L n' k' L'=E:=⟨_,rfl⟩
 rw [hE] at HP h0 ⊢
 have H0:=Lib.hid h0
 obtain ⟨w1,hw1,hE1,hs1,hb1⟩:=boxM w (.int .i64 n) (.int .i64 k) (.slice a ma ca)
 obtain ⟨w2,hw2,hE2,hs2,hb2⟩:=boxM w1 (.int .i64 n') (.int .i64 k') (.slice b mb cb)
 obtain ⟨w3,hw3,hE3,hs3,hb3⟩:=boxM w2 (.int .i64 0) (.int .i64 0) (.slice none 0 0)
 have HE3:=Lib.hid ((hE1.trans hE2).trans hE3)
 have HB1:=Lib.hid (block_ext hb1 (hE2.trans hE3));have HB2:=Lib.hid (block_ext hb2 hE3);have HB3:=Lib.hid hb3
 have HSZ:Hid (w1.heap.size=w.heap.size+1∧w2.heap.size=w1.heap.size+1∧w3.heap.size=w2.heap.size+1):=⟨hs1,hs2,hs3⟩
 have HW2:Hid (w.heap.size≤w2.heap.size):=by unfold Hid;omega
 have k1:=block_cell HB1.out;have k2:=block_cell HB2.out
 clear hb1 hb2 hb3 hE1 hE2 hE3 hua hub hs1 hs2 hs3 hs hs' hma hmb hE hEA hEB h0
 go_enter Tryz.func42,Tryz.ntmps42
 go_wp2_with fail
 go_loopw [21,8] (fun t s8 wr=>∃ (i:Nat) (y8:Value),i≤2∧t=.int .i64 i∧s8=y8∧Hid (Ext w3 wr)∧Hid (1≤i→EA=0)∧Hid (2≤i→EB=0)) (fun t _ _=>2-(intOf t).toNat)
 case atStart=>exact ⟨0,_,by omega,rfl,rfl,by first | exact Ext.refl _ | exact Ext.drew _,fun e=>absurd e (by omega),fun e=>absurd e (by omega)⟩
 case round =>
  obtain ⟨i,y8,hi,rfl,hy8,HX,HA0,HB0⟩:=hrel
  obtain rfl:=hy8.symm
  obtain ⟨wo,rfl⟩:∃ wo:World,wo=wr:=⟨_,rfl⟩
  by_cases hlt:i<2
  ·obtain ⟨nx,kx,bx,mx,cx,EX,HIX,HCX,HEX⟩:∃ (nx kx:Int) (bx:Option Addr) (mx cx:Nat) (EX:Int),Hid (∀ W,(Instr.index 130 (.agg #[.int .i64 n,.int .i64 k,.slice a ma ca,.int .i64 n',.int .i64 k',.slice b mb cb]) (.int .i64 (i:Int))).run Tryz.prog W=.ok (.agg #[.int .i64 nx,.int .i64 kx,.slice bx mx cx]) W)∧Hid (∀ W,Ext w W→Calls Tryz.prog 47 #[.agg #[.int .i64 nx,.int .i64 kx,.slice bx mx cx]] W fun e w'=>e=.returned (.int .i64 EX)∧Ext W w')∧Hid ((EX≠0→E=EX)∧(EX=0→(1≤i+1→EA=0)∧(2≤i+1→EB=0))):=by
    obtain ⟨inf,hinf⟩:=infoMul
    have hag:∀ w,(isAgg 31).run Tryz.prog w=.ok true w:=fun w=>by kernel_rfl
    rcases (by omega:i=0∨i=1) with rfl | rfl
    ·exact ⟨n,k,a,ma,ca,EA,fun W=>run_index_struct W _ _ 2 3 _ _ _ 0 inf Tryz.underlying130 hag hinf cellsMul rfl (by omega),HCA,fun e=>by rw [HP.out,if_pos e],fun e=>⟨fun _=>e,fun e2=>absurd e2 (by omega)⟩⟩
    ·exact ⟨n',k',b,mb,cb,EB,fun W=>run_index_struct W _ _ 2 3 _ _ _ 1 inf Tryz.underlying130 hag hinf cellsMul rfl (by omega),HCB,fun e=>by rw [HP.out,if_neg (fun e2=>e2 (HA0.out (by omega))),if_pos e],fun e=>⟨fun _=>HA0.out (by omega),fun _=>e⟩⟩
   have hix:=HIX.out wo
   obtain ⟨w4,hw4,hE4,hs4,hb4⟩:=boxM wo (.int .i64 0) (.int .i64 0) (.slice none 0 0)
   have f4:=block_free hb4
   have k4:=block_cell hb4
   have HE4:=Lib.hid hE4;have HB4:=Lib.hid hb4
   clear hE4 hs4 hb4
   go_upto_region 4 with fail
   generalize hw9:World.setCell _ _ _=w5
   have HB5:Hid (w5.heap[wo.heap.size]?=some (.cells #[.int .i64 nx,.int .i64 kx,.slice bx mx cx] 31 (0,0))):=by rw [← hw9];exact multi_store HB4.out _ _ _
   have HE5:Hid (Ext wo w5):=by rw [← hw9];exact multi_ext HE4.out (Nat.le_refl _) _ _ _
   have k5:=block_cell HB5.out
   clear hw9 hw4 k4 f4 hix
   by_cases hx0:EX=0
   ·subst hx0
    obtain ⟨hn1,hn2⟩:=HEX.out.2 rfl
    have HN1:=Lib.hid hn1;have HN2:=Lib.hid hn2
    clear hn1 hn2 HEX
    go_wp2_with fail
    refine (HCX.out w5 (HE3.out.trans (HX.out.trans HE5.out))).mono ?_
    rintro e w6 ⟨rfl,h6⟩
    have HE6:Hid (Ext w3 w6):=HX.out.trans (HE5.out.trans h6)
    clear h6 k5
    go_wp2_with fail
    go_roundw
    case rel=>exact ⟨i+1,_,by omega,by go_num,rfl,HE6.out,HN1.out,HN2.out⟩
    case measure=>simp [intOf];omega
   ·have HEE:Hid (E=EX):=HEX.out.1 hx0
    have hx1:(EX != 0)=true:=bne_iff_ne.2 hx0
    clear HEX
    go_wp2_with fail
    refine (HCX.out w5 (HE3.out.trans (HX.out.trans HE5.out))).mono ?_
    rintro e w6 ⟨rfl,h6⟩
    have HE6:Hid (Ext w3 w6):=HX.out.trans (HE5.out.trans h6)
    have HB36:=Lib.hid (block_ext HB3.out HE6.out)
    have HEW:Hid (Ext w w6):=HE3.out.trans HE6.out
    have f9:=block_free HB36.out
    have k9:=block_cell HB36.out
    clear h6 k5
    go_wp2_with fail
    have hb7:=multi_store HB36.out (.int .i64 0) (.int .i64 0) (.slice none 0 0)
    refine bodyPost_ret (results_cell_tmp (by rfl) _ _ w2.heap.size 31 #[.int .i64 0,.int .i64 0,.slice none 0 0] (0,0) _ (.int .i64 EX) (by rfl) (by rfl) hb7 Tryz.underlying31 (by rfl) (by kernel_rfl)) (by rfl) ⟨?_,multi_ext HEW.out HW2.out _ _ _⟩
    rw [HEE.out];rfl
  ·obtain rfl:i=2:=by omega
   have hA0:=HA0.out (by omega);have hB0:=HB0.out (by omega)
   obtain ⟨n1,n2,n3,n4⟩:=HNA.out hA0
   obtain ⟨n5,n6,n7,n8⟩:=HNB.out hB0
   have HPE:Hid (E=if n'≠n then 5 else if n<k+k' then 3 else 0):=by unfold Hid;rw [HP.out,if_neg (fun e=>e hA0),if_neg (fun e=>e hB0)]
   have d0:=block_cell (block_ext HB1.out HX.out) 0;have d1:=block_cell (block_ext HB1.out HX.out) 1;have d2:=block_cell (block_ext HB2.out HX.out) 0;have d3:=block_cell (block_ext HB2.out HX.out) 1
   simp only [List.getElem?_toArray,List.getElem?_cons_succ,List.getElem?_cons_zero] at d0 d1 d2 d3
   have HB39:=Lib.hid (block_ext HB3.out HX.out)
   have HEW:Hid (Ext w wo):=HE3.out.trans HX.out
   have f9:=block_free HB39.out
   have k9:=block_cell HB39.out
   have e1:IntKind.i64.wrap (k+k')=k+k':=by rw [IntKind.wrap_i64];omega
   clear k1 k2 hA0 hB0 HNA HNB HCA HCB HP
   by_cases hnn:n'=n
   ·subst hnn
    have h9:E=if n'<k+k' then 3 else 0:=by rw [HPE.out,if_neg (fun e=>e rfl)]
    by_cases hlt:n'<k+k'
    ·rw [if_pos hlt] at h9
     subst h9
     have q2:=decide_eq_true hlt
     clear HPE
     go_wp2_with fail
     have hb7:=multi_store HB39.out (.int .i64 0) (.int .i64 0) (.slice none 0 0)
     refine bodyPost_ret (results_cell_tmp (by rfl) _ _ w2.heap.size 31 #[.int .i64 0,.int .i64 0,.slice none 0 0] (0,0) _ (.int .i64 3) (by rfl) (by rfl) hb7 Tryz.underlying31 (by rfl) (by kernel_rfl)) (by rfl) ⟨?_,multi_ext HEW.out HW2.out _ _ _⟩
     rfl
    ·exact absurd (by rw [h9,if_neg hlt]) H0.out
   ·have h9:E=5:=by rw [HPE.out,if_pos hnn]
    subst h9
    have q1:(n' != n)=true:=bne_iff_ne.2 hnn
    clear HPE
    go_wp2_with fail
    have hb7:=multi_store HB39.out (.int .i64 0) (.int .i64 0) (.slice none 0 0)
    refine bodyPost_ret (results_cell_tmp (by rfl) _ _ w2.heap.size 31 #[.int .i64 0,.int .i64 0,.slice none 0 0] (0,0) _ (.int .i64 5) (by rfl) (by rfl) hb7 Tryz.underlying31 (by rfl) (by kernel_rfl)) (by rfl) ⟨?_,multi_ext HEW.out HW2.out _ _ _⟩
    rfl
end Go.Proofs.YtjlkkofmojgipaaGreatDoor
namespace Go.Proofs.YtjlkkofmojgipaaGreatDoor
set_option linter.unusedVariables false
set_option linter.unusedSimpArgs false
open Go.RowKit
theorem bestO_ge {c d:Nat} {m:List (List Int)}:∀ {k a:Nat},bestO c d m k=some a→d≤a
 | 0,a,h=>by cases h
 | k+1,a,h=>by
  unfold bestO at h
  cases hb:bestO c d m k with
  | none =>
   rw [hb] at h
   simp only at h
   split at h
   ·cases h
   ·cases h;omega
  | some b =>
   rw [hb] at h
   simp only at h
   have:=bestO_ge hb
   split at h
   ·cases h;omega
   ·cases h;exact this
def colW (n c d:Nat):Nat→List (List Int)→Option (List (List Int)×Bool)
 | 0,_=>none
 | f+1,m =>
  if okM n m then
   match bestO c d m (m.length-d) with
   | none=>some (m,false)
   | some a=>match downO c d (swapL m d a) (m.length-(d+1)) with
    | none=>none
    | some (m2,true)=>colW n c d f m2
    | some (m2,false)=>some (m2,true)
  else none
theorem colW_succ (n c d f:Nat) (m:List (List Int)):colW n c d (f+1) m=if okM n m then
   match bestO c d m (m.length-d) with
   | none=>some (m,false)
   | some a=>match downO c d (swapL m d a) (m.length-(d+1)) with
    | none=>none
    | some (m2,true)=>colW n c d f m2
    | some (m2,false)=>some (m2,true)
  else none:=rfl
def upW (c d:Nat) (m:List (List Int)):Option (List (List Int)):=upO c d (if getE m d c<0 then m.set d ((rowE_ m d).map (- ·)) else m) d
theorem sweep_col (n c d:Nat):∀ (F:Nat) (m:List (List Int)),sweepO n c d F m=match colW n c d F m with
  | none=>none
  | some (m',false)=>some (m',false)
  | some (m',true)=>if okM n m' then (match upW c d m' with | none=>none | some m4=>some (m4,true)) else none
 | 0,_=>rfl
 | F+1,m=>by
  rw [colW_succ]
  unfold sweepO
  by_cases h:okM n m=true
  ·rw [if_pos h,if_pos h]
   cases bestO c d m (m.length-d) with
   | none=>rfl
   | some a =>
    simp only
    cases downO c d (swapL m d a) (m.length-(d+1)) with
    | none=>rfl
    | some r =>
     obtain ⟨m2,b⟩:=r
     cases b
     ·rfl
     ·exact sweep_col n c d F m2
  ·rw [if_neg h,if_neg h]
def kerSets (n k:Nat):List Nat:=if k=n then [] else allW n (k+1)
def kerCell (n k:Nat) (X:List Int) (i s:Nat):Int:=if s.testBit i=true then sgnI (X.getD (placeW n k (s ^^^ (1 <<< i))) 0) (oddW (1 <<< i) (s ^^^ (1 <<< i))) else 0
def unitL (n i:Nat):List Int:=(List.replicate n (0:Int)).set i 1
def kerRow (n k:Nat) (X:List Int) (i:Nat):List Int:=(kerSets n k).map (kerCell n k X i)++unitL n i
def kerM (n k:Nat) (X:List Int):List (List Int):=(List.range n).map (kerRow n k X)
def kerCols (N F:Nat) (m:List (List Int)):Nat→Option (List (List Int)×Nat)
 | 0=>some (m,0)
 | c+1=>match kerCols N F m c with
  | none=>none
  | some (m1,d)=>match colW N c d F m1 with
   | none=>none
   | some (m2,p)=>some (m2,if p then d+1 else d)
theorem kerCols_succ (N F:Nat) (m:List (List Int)) (c:Nat):kerCols N F m (c+1)=match kerCols N F m c with
  | none=>none
  | some (m1,d)=>match colW N c d F m1 with
   | none=>none
   | some (m2,p)=>some (m2,if p then d+1 else d):=rfl
def kernW (F n k:Nat) (X:List Int):Option (List (List Int)) :=
 match kerCols ((kerSets n k).length+n) F (kerM n k X) (kerSets n k).length with
 | none=>none
 | some (m,d)=>some ((m.drop d).map (·.drop (kerSets n k).length))
def formW (n F:Nat) (m:List (List Int)):Option (List (List Int)):=(colsO n F n 0 0 m).map (·.1)
theorem kerCell_set {n k i s:Nat} {X:List Int} (h:s.testBit i=true):kerCell n k X i s=sgnI (X.getD (placeW n k (s ^^^ (1 <<< i))) 0) (oddW (1 <<< i) (s ^^^ (1 <<< i))):=if_pos h
theorem kerCell_out {n k i s:Nat} {X:List Int} (h:s.testBit i=false):kerCell n k X i s=0:=if_neg (by rw [h];decide)
theorem colW_len {n c d:Nat}:∀ {F:Nat} {m m':List (List Int)} {p:Bool},colW n c d F m=some (m',p)→d≤m.length→m'.length=m.length∧(p=true→d<m.length)∧(∀ i,i<d→rowE_ m' i=rowE_ m i)
 | 0,m,m',p,h,_=>by cases h
 | F+1,m,m',p,h,hd=>by
  rw [colW_succ] at h
  by_cases hok:okM n m=true
  ·rw [if_pos hok] at h
   cases hb:bestO c d m (m.length-d) with
   | none =>
    rw [hb] at h
    simp only [Option.some.injEq,Prod.mk.injEq] at h
    obtain ⟨rfl,rfl⟩:=h
    exact ⟨rfl,(fun e=>by cases e),fun _ _=>rfl⟩
   | some a =>
    rw [hb] at h
    simp only at h
    have hdl:d<m.length:=by
     by_cases e:d<m.length
     ·exact e
     ·rw [show m.length-d=0 by omega] at hb;cases hb
    cases hdn:downO c d (swapL m d a) (m.length-(d+1)) with
    | none=>rw [hdn] at h;cases h
    | some r =>
     obtain ⟨m2,b⟩:=r
     rw [hdn] at h
     obtain ⟨k1,k2,k3⟩:=downO_keep hdn (by rw [swapL_len];omega)
     rw [swapL_len] at k1
     have k4:∀ i,i<d→rowE_ m2 i=rowE_ m i:=fun i hi=>by
      rw [k2 i (by omega)]
      have hsw:(swapL m d a)[i]?=m[i]?:=by
       unfold swapL
       split
       ·rename_i x y hx hy
        have had:a≠i∨¬ a<m.length:=by
         by_cases e:a=i
         ·exact absurd (bestO_ge hb) (by omega)
         ·exact .inl e
        rw [List.getElem?_set,List.getElem?_set]
        rw [if_neg (by rcases had with e | e;exact e;intro e2;omega),if_neg (by omega)]
       ·rfl
      unfold rowE_
      rw [List.getD_eq_getElem?_getD,List.getD_eq_getElem?_getD,hsw]
     cases b with
     | false =>
      simp only [Option.some.injEq,Prod.mk.injEq] at h
      obtain ⟨rfl,rfl⟩:=h
      exact ⟨k1,fun _=>hdl,k4⟩
     | true =>
      have ih:=colW_len (F:=F) h (by omega)
      exact ⟨by rw [ih.1,k1],fun _=>hdl,fun i hi=>by rw [ih.2.2 i hi,k4 i hi]⟩
  ·rw [if_neg hok] at h;cases h
theorem kerCols_some {N F : Nat} {m : List (List Int)} {C : Nat} : ∀ {y}, kerCols N F m C = some y → ∀ j, j ≤ C → ∃ z, kerCols N F m j = some z := by
  induction C with
  | zero => intro y h j hj; obtain rfl : j = 0 := by omega
            exact ⟨y, h⟩
  | succ C ih =>
    intro y h j hj
    by_cases he : j = C + 1
    · subst he; exact ⟨y, h⟩
    · rw [kerCols_succ] at h
      cases hc : kerCols N F m C with
      | none => rw [hc] at h; cases h
      | some z => exact ih hc j (by omega)
theorem kerCols_len {N F:Nat} {m:List (List Int)}:∀ (C:Nat) {m1:List (List Int)} {d:Nat},kerCols N F m C=some (m1,d)→m1.length=m.length∧d≤m.length
 | 0,m1,d,h=>by
  have h:some (m,0)=some (m1,d):=h
  simp only [Option.some.injEq,Prod.mk.injEq] at h
  obtain ⟨rfl,rfl⟩:=h
  exact ⟨rfl,Nat.zero_le _⟩
 | C+1,m1,d,h=>by
  rw [kerCols_succ] at h
  cases hc:kerCols N F m C with
  | none=>rw [hc] at h;cases h
  | some z =>
   obtain ⟨m0,d0⟩:=z
   rw [hc] at h
   simp only at h
   obtain ⟨l1,l2⟩:=kerCols_len C hc
   cases hw:colW N C d0 F m0 with
   | none=>rw [hw] at h;cases h
   | some r =>
    obtain ⟨m2,p⟩:=r
    rw [hw] at h
    simp only [Option.some.injEq,Prod.mk.injEq] at h
    obtain ⟨rfl,rfl⟩:=h
    obtain ⟨q1,q2,-⟩:=colW_len hw (by omega)
    refine ⟨by omega,?_⟩
    cases p
    ·exact l2
    ·have:=q2 rfl;simp;omega
end Go.Proofs.YtjlkkofmojgipaaGreatDoor
