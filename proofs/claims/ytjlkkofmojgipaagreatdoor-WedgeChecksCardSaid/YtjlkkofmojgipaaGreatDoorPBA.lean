import Derived.Test.YtjlkkofmojgipaaGreatDoorPAY
import Derived.Test.YtjlkkofmojgipaaGreatDoorPAZ
import Derived.Test.YtjlkkofmojgipaaGreatDoorPAW
import Derived.Test.YtjlkkofmojgipaaGreatDoorPAF
namespace Go.Proofs.YtjlkkofmojgipaaGreatDoor
set_option linter.unusedVariables false
set_option linter.unusedSimpArgs false
open Go.RowKit Go.Maps
def intErr (n k:Int) (L:List ByteArray) (r:List Int):Int :=
 if chkX n k L≠0 then chkX n k L else if k=0 then 3 else if (r.length:Int)≠n then 5 else if r.any (fun x=>!fitB x)=true then 4 else 0
set_option maxRecDepth 100000 in
set_option maxHeartbeats 1000000 in
theorem intE_any (n k:Int) (L:List ByteArray) (r:List Int) (u v:Value) (w:World) (h:TxtV w u n k L) (hv:Ints w v r) (hs:∀ a∈L,a.size≤100000) (h0:intErr n k L r≠0) :
  Calls Tryz.prog 25 #[u,v] w fun e w'=>e=.returned (.tuple #[noMulti,.int .i64 (intErr n k L r)])∧Ext w w':=by
 have HCA:Hid (∀ W,Ext w W→Calls Tryz.prog 47 #[u] W fun e w'=>e=.returned (.int .i64 (chkX n k L))∧Ext W w'):=fun W hW=>checkT_any n k L u W (h.ext hW) hs
 have HANY:Hid (∀ W,Ext w W→Calls Tryz.prog 57 #[v,.func (.func 58) #[] #[]] W fun e w'=>e=.returned (.bool (r.any (fun x=>!fitB x)))∧Ext W w'):=fun W hW =>
  containsRow_any r v 58 #[] (fun x=>!fitB x) W (hv.ext hW) (enters_of Tryz.func58 (by kernel_rfl) rfl) (fun W x _ _=>(int1_any x W).mono fun _ _ ⟨he,hw⟩=>⟨he,hw▸Ext.refl _⟩)
 obtain ⟨ua,rfl,hua⟩:=h
 obtain ⟨a,ca,rfl,a1,a2,-,-⟩:=inCell.open hua
 obtain ⟨av,cv,rfl,b1,b2,-,-,-⟩:=hv.open
 unfold maxLen at a2 b2
 obtain ⟨ma,hma⟩:∃ m,L.length=m:=⟨_,rfl⟩
 obtain ⟨mr,hmr⟩:∃ m,r.length=m:=⟨_,rfl⟩
 rw [hma] at a1 HCA ⊢
 rw [hmr] at b1 HANY ⊢
 obtain ⟨EA,hEA⟩:∃ E,chkX n k L=E:=⟨_,rfl⟩
 obtain ⟨q,hq⟩:∃ q,r.any (fun x=>!fitB x)=q:=⟨_,rfl⟩
 have HP:Hid (intErr n k L r=if EA≠0 then EA else if k=0 then 3 else if (mr:Int)≠n then 5 else if q=true then 4 else 0):=by unfold Hid intErr;rw [hEA,hmr,hq]
 rw [hEA] at HCA
 rw [hq] at HANY
 obtain ⟨E,hE⟩:∃ E,intErr n k L r=E:=⟨_,rfl⟩
 rw [hE] at HP h0 ⊢
 have H0:=Lib.hid h0
 obtain ⟨w1,hw1,hE1,hs1,hb1⟩:=boxM w (.int .i64 n) (.int .i64 k) (.slice a ma ca)
 obtain ⟨w2,hw2,hE2,hs2,hb2⟩:=boxM w1 (.int .i64 0) (.int .i64 0) (.slice none 0 0)
 have HE2:=Lib.hid (hE1.trans hE2)
 have HB1:=Lib.hid (block_ext hb1 hE2);have HB2:=Lib.hid hb2
 have k1:=block_cell HB1.out
 obtain ⟨x1,hx1⟩:∃ x,w1.heap.size=x:=⟨_,rfl⟩
 have HW1:Hid (w.heap.size≤x1):=by unfold Hid;omega
 rw [hx1] at HB2
 clear hb1 hb2 hE1 hE2 hua hv hs1 hs2 hs hma hmr hE hEA hq h0
 go_enter Tryz.func25,Tryz.ntmps25
 by_cases hA:EA=0
 rotate_left
 ·have h9:E=EA:=by rw [HP.out,if_pos hA]
  have q1:(EA != 0)=true:=bne_iff_ne.2 hA
  clear HP
  go_wp2_with fail
  refine (HCA.out w2 HE2.out).mono ?_
  rintro e w3 ⟨rfl,h3⟩
  have HE3:Hid (Ext w w3):=HE2.out.trans h3
  have HB23:=Lib.hid (block_ext HB2.out h3)
  have f9:=block_free HB23.out
  have r9:=block_cell HB23.out
  clear h3 k1 hw1 hw2
  (try rw [hx1])
  clear hx1
  go_wp2_with fail
  have hb7:=multi_store HB23.out (.int .i64 0) (.int .i64 0) (.slice none 0 0)
  refine bodyPost_ret (results_cell_tmp (by rfl) _ _ x1 31 #[.int .i64 0,.int .i64 0,.slice none 0 0] (0,0) _ (.int .i64 EA) (by rfl) (by rfl) hb7 Tryz.underlying31 (by rfl) (by kernel_rfl)) (by rfl) ⟨?_,multi_ext HE3.out HW1.out _ _ _⟩
  rw [h9];rfl
 have q1:(EA != 0)=false:=by rw [hA];rfl
 rw [if_neg (fun e=>e hA)] at HP
 subst hA
 go_wp2_with fail
 refine (HCA.out w2 HE2.out).mono ?_
 rintro e w3 ⟨rfl,h3⟩
 have HE3:Hid (Ext w w3):=HE2.out.trans h3
 have HB13:=Lib.hid (block_ext HB1.out h3)
 have HB23:=Lib.hid (block_ext HB2.out h3)
 have d0:=block_cell HB13.out 0;have d1:=block_cell HB13.out 1
 simp only [List.getElem?_toArray,List.getElem?_cons_succ,List.getElem?_cons_zero] at d0 d1
 have f9:=block_free HB23.out
 have r9:=block_cell HB23.out
 clear h3 k1 hw1 hw2
 (try rw [hx1])
 clear hx1
 by_cases hk:k=0
 ·subst hk
  rw [if_pos rfl] at HP
  have h9:E=3:=HP.out
  subst h9
  clear HP
  go_wp2_with fail
  have hb7:=multi_store HB23.out (.int .i64 0) (.int .i64 0) (.slice none 0 0)
  refine bodyPost_ret (results_cell_tmp (by rfl) _ _ x1 31 #[.int .i64 0,.int .i64 0,.slice none 0 0] (0,0) _ (.int .i64 3) (by rfl) (by rfl) hb7 Tryz.underlying31 (by rfl) (by kernel_rfl)) (by rfl) ⟨?_,multi_ext HE3.out HW1.out _ _ _⟩
  rfl
 rw [if_neg hk] at HP
 have q2:(k == 0)=false:=beq_eq_false_iff_ne.2 hk
 by_cases hm:(mr:Int)=n
 rotate_left
 ·rw [if_pos hm] at HP
  have h9:E=5:=HP.out
  subst h9
  have q3:((mr:Int) != n)=true:=bne_iff_ne.2 hm
  clear HP hm hk
  go_wp2_with fail
  have hb7:=multi_store HB23.out (.int .i64 0) (.int .i64 0) (.slice none 0 0)
  refine bodyPost_ret (results_cell_tmp (by rfl) _ _ x1 31 #[.int .i64 0,.int .i64 0,.slice none 0 0] (0,0) _ (.int .i64 5) (by rfl) (by rfl) hb7 Tryz.underlying31 (by rfl) (by kernel_rfl)) (by rfl) ⟨?_,multi_ext HE3.out HW1.out _ _ _⟩
  rfl
 rw [if_neg (fun e=>e hm)] at HP
 have q3:((mr:Int) != n)=false:=by rw [hm];exact bne_self_eq_false _
 cases q with
 | false=>exact absurd HP.out H0.out
 | true =>
  have h9:E=4:=HP.out
  subst h9
  clear HP hm hk
  go_wp2_with fail
  refine (HANY.out w3 HE3.out).mono ?_
  rintro e w4 ⟨rfl,h4⟩
  have HE4:Hid (Ext w w4):=HE3.out.trans h4
  have HB24:=Lib.hid (block_ext HB23.out h4)
  clear f9 r9
  have f9:=block_free HB24.out
  have r9:=block_cell HB24.out
  clear h4 d0 d1
  go_wp2_with fail
  have hb7:=multi_store HB24.out (.int .i64 0) (.int .i64 0) (.slice none 0 0)
  refine bodyPost_ret (results_cell_tmp (by rfl) _ _ x1 31 #[.int .i64 0,.int .i64 0,.slice none 0 0] (0,0) _ (.int .i64 4) (by rfl) (by rfl) hb7 Tryz.underlying31 (by rfl) (by kernel_rfl)) (by rfl) ⟨?_,multi_ext HE4.out HW1.out _ _ _⟩
  rfl
end Go.Proofs.YtjlkkofmojgipaaGreatDoor
namespace Go.Proofs.YtjlkkofmojgipaaGreatDoor
set_option linter.unusedVariables false
set_option linter.unusedSimpArgs false
open Go.RowKit
theorem bestO_ge {c d:Nat} {m:List (List Int)}:∀ {k a:Nat},bestO c d m k=some a→d≤a
 | 0,a,h=>by cases h
 | k+1,a,h=>by
  unfold bestO at h
  cases hb:bestO c d m k with
  | none =>
   rw [hb] at h
   simp only at h
   split at h
   ·cases h
   ·cases h;omega
  | some b =>
   rw [hb] at h
   simp only at h
   have:=bestO_ge hb
   split at h
   ·cases h;omega
   ·cases h;exact this
def colW (n c d:Nat):Nat→List (List Int)→Option (List (List Int)×Bool)
 | 0,_=>none
 | f+1,m =>
  if okM n m then
   match bestO c d m (m.length-d) with
   | none=>some (m,false)
   | some a=>match downO c d (swapL m d a) (m.length-(d+1)) with
    | none=>none
    | some (m2,true)=>colW n c d f m2
    | some (m2,false)=>some (m2,true)
  else none
theorem colW_succ (n c d f:Nat) (m:List (List Int)):colW n c d (f+1) m=if okM n m then
   match bestO c d m (m.length-d) with
   | none=>some (m,false)
   | some a=>match downO c d (swapL m d a) (m.length-(d+1)) with
    | none=>none
    | some (m2,true)=>colW n c d f m2
    | some (m2,false)=>some (m2,true)
  else none:=rfl
def upW (c d:Nat) (m:List (List Int)):Option (List (List Int)):=upO c d (if getE m d c<0 then m.set d ((rowE_ m d).map (- ·)) else m) d
theorem sweep_col (n c d:Nat):∀ (F:Nat) (m:List (List Int)),sweepO n c d F m=match colW n c d F m with
  | none=>none
  | some (m',false)=>some (m',false)
  | some (m',true)=>if okM n m' then (match upW c d m' with | none=>none | some m4=>some (m4,true)) else none
 | 0,_=>rfl
 | F+1,m=>by
  rw [colW_succ]
  unfold sweepO
  by_cases h:okM n m=true
  ·rw [if_pos h,if_pos h]
   cases bestO c d m (m.length-d) with
   | none=>rfl
   | some a =>
    simp only
    cases downO c d (swapL m d a) (m.length-(d+1)) with
    | none=>rfl
    | some r =>
     obtain ⟨m2,b⟩:=r
     cases b
     ·rfl
     ·exact sweep_col n c d F m2
  ·rw [if_neg h,if_neg h]
def kerSets (n k:Nat):List Nat:=if k=n then [] else allW n (k+1)
def kerCell (n k:Nat) (X:List Int) (i s:Nat):Int:=if s.testBit i=true then sgnI (X.getD (placeW n k (s ^^^ (1 <<< i))) 0) (oddW (1 <<< i) (s ^^^ (1 <<< i))) else 0
def unitL (n i:Nat):List Int:=(List.replicate n (0:Int)).set i 1
def kerRow (n k:Nat) (X:List Int) (i:Nat):List Int:=(kerSets n k).map (kerCell n k X i)++unitL n i
def kerM (n k:Nat) (X:List Int):List (List Int):=(List.range n).map (kerRow n k X)
def kerCols (N F:Nat) (m:List (List Int)):Nat→Option (List (List Int)×Nat)
 | 0=>some (m,0)
 | c+1=>match kerCols N F m c with
  | none=>none
  | some (m1,d)=>match colW N c d F m1 with
   | none=>none
   | some (m2,p)=>some (m2,if p then d+1 else d)
theorem kerCols_succ (N F:Nat) (m:List (List Int)) (c:Nat):kerCols N F m (c+1)=match kerCols N F m c with
  | none=>none
  | some (m1,d)=>match colW N c d F m1 with
   | none=>none
   | some (m2,p)=>some (m2,if p then d+1 else d):=rfl
def kernW (F n k:Nat) (X:List Int):Option (List (List Int)) :=
 match kerCols ((kerSets n k).length+n) F (kerM n k X) (kerSets n k).length with
 | none=>none
 | some (m,d)=>some ((m.drop d).map (·.drop (kerSets n k).length))
def formW (n F:Nat) (m:List (List Int)):Option (List (List Int)):=(colsO n F n 0 0 m).map (·.1)
theorem kerCell_set {n k i s:Nat} {X:List Int} (h:s.testBit i=true):kerCell n k X i s=sgnI (X.getD (placeW n k (s ^^^ (1 <<< i))) 0) (oddW (1 <<< i) (s ^^^ (1 <<< i))):=if_pos h
theorem kerCell_out {n k i s:Nat} {X:List Int} (h:s.testBit i=false):kerCell n k X i s=0:=if_neg (by rw [h];decide)
theorem colW_len {n c d:Nat}:∀ {F:Nat} {m m':List (List Int)} {p:Bool},colW n c d F m=some (m',p)→d≤m.length→m'.length=m.length∧(p=true→d<m.length)∧(∀ i,i<d→rowE_ m' i=rowE_ m i)
 | 0,m,m',p,h,_=>by cases h
 | F+1,m,m',p,h,hd=>by
  rw [colW_succ] at h
  by_cases hok:okM n m=true
  ·rw [if_pos hok] at h
   cases hb:bestO c d m (m.length-d) with
   | none =>
    rw [hb] at h
    simp only [Option.some.injEq,Prod.mk.injEq] at h
    obtain ⟨rfl,rfl⟩:=h
    exact ⟨rfl,(fun e=>by cases e),fun _ _=>rfl⟩
   | some a =>
    rw [hb] at h
    simp only at h
    have hdl:d<m.length:=by
     by_cases e:d<m.length
     ·exact e
     ·rw [show m.length-d=0 by omega] at hb;cases hb
    cases hdn:downO c d (swapL m d a) (m.length-(d+1)) with
    | none=>rw [hdn] at h;cases h
    | some r =>
     obtain ⟨m2,b⟩:=r
     rw [hdn] at h
     obtain ⟨k1,k2,k3⟩:=downO_keep hdn (by rw [swapL_len];omega)
     rw [swapL_len] at k1
     have k4:∀ i,i<d→rowE_ m2 i=rowE_ m i:=fun i hi=>by
      rw [k2 i (by omega)]
      have hsw:(swapL m d a)[i]?=m[i]?:=by
       unfold swapL
       split
       ·rename_i x y hx hy
        have had:a≠i∨¬ a<m.length:=by
         by_cases e:a=i
         ·exact absurd (bestO_ge hb) (by omega)
         ·exact .inl e
        rw [List.getElem?_set,List.getElem?_set]
        rw [if_neg (by rcases had with e | e;exact e;intro e2;omega),if_neg (by omega)]
       ·rfl
      unfold rowE_
      rw [List.getD_eq_getElem?_getD,List.getD_eq_getElem?_getD,hsw]
     cases b with
     | false =>
      simp only [Option.some.injEq,Prod.mk.injEq] at h
      obtain ⟨rfl,rfl⟩:=h
      exact ⟨k1,fun _=>hdl,k4⟩
     | true =>
      have ih:=colW_len (F:=F) h (by omega)
      exact ⟨by rw [ih.1,k1],fun _=>hdl,fun i hi=>by rw [ih.2.2 i hi,k4 i hi]⟩
  ·rw [if_neg hok] at h;cases h
theorem kerCols_some {N F : Nat} {m : List (List Int)} {C : Nat} : ∀ {y}, kerCols N F m C = some y → ∀ j, j ≤ C → ∃ z, kerCols N F m j = some z := by
  induction C with
  | zero => intro y h j hj; obtain rfl : j = 0 := by omega
            exact ⟨y, h⟩
  | succ C ih =>
    intro y h j hj
    by_cases he : j = C + 1
    · subst he; exact ⟨y, h⟩
    · rw [kerCols_succ] at h
      cases hc : kerCols N F m C with
      | none => rw [hc] at h; cases h
      | some z => exact ih hc j (by omega)
theorem kerCols_len {N F:Nat} {m:List (List Int)}:∀ (C:Nat) {m1:List (List Int)} {d:Nat},kerCols N F m C=some (m1,d)→m1.length=m.length∧d≤m.length
 | 0,m1,d,h=>by
  have h:some (m,0)=some (m1,d):=h
  simp only [Option.some.injEq,Prod.mk.injEq] at h
  obtain ⟨rfl,rfl⟩:=h
  exact ⟨rfl,Nat.zero_le _⟩
 | C+1,m1,d,h=>by
  rw [kerCols_succ] at h
  cases hc:kerCols N F m C with
  | none=>rw [hc] at h;cases h
  | some z =>
   obtain ⟨m0,d0⟩:=z
   rw [hc] at h
   simp only at h
   obtain ⟨l1,l2⟩:=kerCols_len C hc
   cases hw:colW N C d0 F m0 with
   | none=>rw [hw] at h;cases h
   | some r =>
    obtain ⟨m2,p⟩:=r
    rw [hw] at h
    simp only [Option.some.injEq,Prod.mk.injEq] at h
    obtain ⟨rfl,rfl⟩:=h
    obtain ⟨q1,q2,-⟩:=colW_len hw (by omega)
    refine ⟨by omega,?_⟩
    cases p
    ·exact l2
    ·have:=q2 rfl;simp;omega
end Go.Proofs.YtjlkkofmojgipaaGreatDoor
