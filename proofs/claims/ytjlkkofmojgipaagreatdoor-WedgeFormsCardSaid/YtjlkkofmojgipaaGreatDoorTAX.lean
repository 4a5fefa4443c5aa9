import Derived.Test.YtjlkkofmojgipaaGreatDoorTAV
import Derived.Test.YtjlkkofmojgipaaGreatDoorTAW
import Derived.Test.YtjlkkofmojgipaaGreatDoorTAF
namespace Go.Proofs.YtjlkkofmojgipaaGreatDoor
set_option linter.unusedVariables false
set_option linter.unusedSimpArgs false
open Go.RowKit
theorem made_strs (n:Nat):(madeCells #[Value.string ⟨#[]⟩] n).toList=List.replicate n (.string ⟨#[]⟩):=(toList_madeCells_one _ _).trans (by simp)
theorem made_blockT {w:World} {B g n:Nat} {T:TypeId} {xs:List Value} (h:w.ownsRow B T 1 (.slice (some ⟨g,0,none⟩) n n) n xs):w.heap[g]?=some (.cells xs.toArray T (0,0))∧xs.length=n∧B≤g:=by
 obtain ⟨h0,h⟩:=h
 rcases h with ⟨hv,_⟩ | ⟨g',cap',cur,hv,hb,hg,h1,h2,h3,h4⟩
 ·simp at hv
 ·simp only [Value.slice.injEq,Option.some.injEq,Addr.mk.injEq] at hv
  obtain ⟨⟨rfl,-,-⟩,-,rfl⟩:=hv
  rw [Nat.mul_one] at h0 h3 h4
  rw [List.take_of_length_le (by simp [h3])] at h4
  refine ⟨?_,h0,hb⟩
  rw [hg,← h4]
def StrsTo (C:List Value) (n j:Nat) (xs:List Int):Prop:=C.length=n∧(∀ i,i<n→∃ s,C[i]?=some (.string s))∧∀ i x,i<j→xs[i]?=some x→C[i]?=some (.string (intB x))
theorem StrsTo.start (n:Nat) (xs:List Int):StrsTo (List.replicate n (.string ⟨#[]⟩)) n 0 xs:=⟨by simp,fun i hi=>⟨⟨#[]⟩,by rw [List.getElem?_replicate,if_pos hi]⟩,fun i x hi=>absurd hi (by omega)⟩
theorem StrsTo.set {C:List Value} {n j:Nat} {xs:List Int} {x:Int} (h:StrsTo C n j xs) (hj:j<n) (hx:xs[j]?=some x):StrsTo (C.set j (.string (intB x))) n (j+1) xs:=by
 obtain ⟨h1,h2,h3⟩:=h
 refine ⟨by rw [List.length_set];exact h1,fun i hi=>?_,fun i y hi hy=>?_⟩
 ·rw [List.getElem?_set]
  by_cases e:j=i
  ·subst e;rw [if_pos rfl,if_pos (by omega)];exact ⟨_,rfl⟩
  ·rw [if_neg e];exact h2 i hi
 ·rw [List.getElem?_set]
  by_cases e:j=i
  ·subst e
   rw [if_pos rfl,if_pos (by omega)]
   rw [hx] at hy;cases hy;rfl
  ·rw [if_neg e];exact h3 i y (by omega) hy
theorem StrsTo.row {w:World} {g:Nat} {C:List Value} {n:Nat} {xs:List Int} {T:TypeId} (h:StrsTo C n n xs) (hl:xs.length=n) (hb:w.heap[g]?=some (.cells C.toArray T (0,0))):RowB w g 0 xs :=
 ⟨block_lt hb,fun j x hx=>by
  rw [Nat.zero_add,block_cell hb j,List.getElem?_toArray]
  exact h.2.2 j x (by rw [← hl];exact (List.getElem?_eq_some_iff.1 hx).1) hx,fun j=>block_free hb j⟩
theorem toArray_set (C:List Value) (j:Nat) (x:Value):C.toArray.setIfInBounds j x=(C.set j x).toArray:=by simp
set_option maxRecDepth 100000 in
set_option maxHeartbeats 4000000 in
theorem lineLess_any (k:Int) (r s:List Int) (gx ox cx gy oy cy:Nat) (w:World) (hr:RowB w gx ox r) (hs:RowB w gy oy s) (hl:s.length=r.length) (hk:(intB k).size≤2800000000)
  (hrs:∀ a∈r,(intB a).size≤2800000000) (hss:∀ b∈s,(intB b).size≤2800000000∧(intB (k*b)).size≤2800000000) (hcx:r.length≤cx) (hcx2:cx≤maxLen) (hcy:s.length≤cy) (hcy2:cy≤maxLen) (hlen:r.length≤1000000) (ht:Pow10 w) :
  Calls Tryz.prog 137 #[.slice (some ⟨gx,ox,none⟩) r.length cx,.slice (some ⟨gy,oy,none⟩) s.length cy,.string (intB k)] w fun e w'=>e=.returned (.slice (some ⟨w.heap.size,0,none⟩) r.length r.length)∧Ext w w'∧RowB w' w.heap.size 0 (lessL k r s):=by
 obtain ⟨i0,hi,hz0,hz1,hz2⟩:=info_parts infoBigI
 have HI:=Lib.hid hi;have HZ0:=Lib.hid hz0;have HZ1:=Lib.hid hz1;have HZ2:=Lib.hid hz2
 have HT:=Lib.hid ht
 have HR:=Lib.hid hr;have HS:=Lib.hid hs;have HRS:=Lib.hid hrs;have HSS:=Lib.hid hss;have HKK:=Lib.hid hk
 have HLE:=Lib.hid hl
 obtain ⟨n,hn⟩:∃ n,r.length=n:=⟨_,rfl⟩
 have HN:=Lib.hid hn
 rw [hl,hn] at hcy
 rw [hl]
 rw [hn] at hcx hlen ⊢
 unfold maxLen at hcx2 hcy2
 clear hi hz0 hz1 hz2 hr hs hl hk hrs hss ht hn
 obtain ⟨kk,hkk⟩:∃ kk,intB k=kk:=⟨_,rfl⟩
 rw [hkk]
 have HKE:=Lib.hid hkk
 clear hkk
 go_enter Tryz.func137,Tryz.ntmps137
 go_wp2_with (at_make;refine wpList_make_full _ rfl _ _ 119 rfl w.heap.size 53 i0 (.string ⟨#[]⟩) 1 Tryz.underlying119 HI.out HZ0.out HZ1.out _ _ _ _ n rfl rfl rfl rfl ?c1 ?c2 ?c3 ?_)
 case c1=>rw [HZ2.out];omega
 case c2=>unfold maxLen;omega
 case c3=>exact Nat.le_refl _
 intro w1 hown hgrow
 have HE1:=Lib.hid (ext_grown hgrow)
 have hmb:=made_blockT hown
 (try rw [Nat.mul_one] at hmb)
 rw [made_strs] at hmb
 have HB1:=Lib.hid hmb.1
 clear hown hgrow hmb
 go_wp2_with fail
 go_loopw [14] (fun t wr=>∃ j:Nat,j≤n∧t=.int .i64 j∧Hid (Ext w wr)∧Hid (∃ C,wr.heap[w.heap.size]?=some (.cells C.toArray 53 (0,0))∧StrsTo C n j (lessL k r s))) (fun t _=>n-(intOf t).toNat)
 case atStart=>exact ⟨0,by omega,rfl,HE1.out,_,HB1.out,StrsTo.start n _⟩
 case round =>
  obtain ⟨j,hj,rfl,HX,HCC⟩:=hrel
  by_cases hlt:j<n
  ·obtain ⟨b,hbj⟩:∃ b,s[j]?=some b:=⟨s[j]'(by rw [HLE.out,HN.out];exact hlt),List.getElem?_eq_getElem _⟩
   obtain ⟨a,haj⟩:∃ a,r[j]?=some a:=⟨r[j]'(by rw [HN.out];exact hlt),List.getElem?_eq_getElem _⟩
   have z1:=HX.out.cell (HR.out.cell j a haj)
   have z2:=HX.out.cell (HS.out.cell j b hbj)
   obtain ⟨C,hBK,hST⟩:=HCC.out
   have HBK:=Lib.hid hBK;have HST:=Lib.hid hST
   obtain ⟨v0,hv0⟩:=hST.2.1 j hlt
   have HV0:Hid (C.toArray[j]?=some (.string v0)):=by unfold Hid;rw [List.getElem?_toArray];exact hv0
   have HNX:Hid (StrsTo (C.set j (.string (intB (a-k*b)))) n (j+1) (lessL k r s)):=hST.set hlt (lessL_get k r s j a b haj hbj)
   have HM:Hid (∀ W,Ext wr W→Calls Tryz.prog 63 #[.string kk,.string (intB b)] W fun e w'=>e=.returned (.string (intB (k*b)))∧Ext W w'):=fun W hW=>by
    rw [← HKE.out];exact mulI_any k b W (by have:=HKK.out;omega) (by have:=(HSS.out b (List.mem_of_getElem? hbj)).1;omega) (HT.out.ext (HX.out.trans hW))
   have HU:Hid (∀ W,Ext wr W→Calls Tryz.prog 185 #[.string (intB a),.string (intB (k*b))] W fun e w'=>e=.returned (.string (intB (a-k*b)))∧Ext W w'):=fun W hW =>
    subI_any a (k*b) W (HRS.out a (List.mem_of_getElem? haj)) (HSS.out b (List.mem_of_getElem? hbj)).2 (HT.out.ext (HX.out.trans hW))
   have hjn:(j:Int)<(n:Int):=by omega
   clear hbj haj hBK hST hv0 HCC
   go_upto_region 5 with fail
   refine region_anyE (fun w'=>w'.cell? ⟨gx,ox+j,none⟩=some (.string (intB a))∧w'.cell? ⟨gy,oy+j,none⟩=some (.string (intB b))∧Hid (Ext wr w')) 14 (by kernel_rfl) ⟨(Ext.drew wr).cell z1,(Ext.drew wr).cell z2,Ext.drew wr⟩ (fun hHeld=>?_)
   refine anyE_takeW (v:=?_) 0 rfl (by kernel_rfl) (by kernel_rfl) (by kernel_rfl) (by decide) (fun _ _ _ h=>h) (Or.inl ⟨by rfl,?_⟩) (by assumption) ?_
   rotate_left
   ·((intro w');(try go_simp);(try with_reducible rfl))
   (try simp only [Act.put,List.setIfInBounds_toArray,List.set_cons_zero,List.set_cons_succ])
   refine anyE_takeW (v:=?_) 1 rfl (by kernel_rfl) (by kernel_rfl) (by kernel_rfl) (by decide) (fun _ _ _ h=>h) (Or.inl ⟨by rfl,?_⟩) (by assumption) ?_
   rotate_left
   ·((intro w');(try go_simp);(try with_reducible rfl))
   (try simp only [Act.put,List.setIfInBounds_toArray,List.set_cons_zero,List.set_cons_succ])
   refine anyE_takeW (v:=?_) 2 rfl (by kernel_rfl) (by kernel_rfl) (by kernel_rfl) (by decide) (fun _ _ _ h=>h) (Or.inl ⟨by rfl,?_⟩) (by assumption) ?_
   rotate_left
   ·((intro w');(try go_simp);(try with_reducible rfl))
   (try simp only [Act.put,List.setIfInBounds_toArray,List.set_cons_zero,List.set_cons_succ])
   refine anyE_takeW (v:=?_) 3 rfl (by kernel_rfl) (by kernel_rfl) (by kernel_rfl) (by decide) (fun _ _ _ h=>h) (Or.inl ⟨by rfl,?_⟩) (by assumption) ?_
   rotate_left
   ·((intro w');(try go_simp);(try with_reducible rfl))
   (try simp only [Act.put,List.setIfInBounds_toArray,List.set_cons_zero,List.set_cons_succ])
   refine anyE_takeW (v:=?_) 4 rfl (by kernel_rfl) (by kernel_rfl) (by kernel_rfl) (by decide) (fun _ _ _ h=>h) (Or.inl ⟨by rfl,?_⟩) (by assumption) ?_
   rotate_left
   ·((intro w');(try go_simp);(try with_reducible rfl))
   (try simp only [Act.put,List.setIfInBounds_toArray,List.set_cons_zero,List.set_cons_succ])
   refine anyE_take (v:=?_) 5 rfl (by kernel_rfl) (by kernel_rfl) (by kernel_rfl) (by kernel_rfl) (by kernel_rfl) (fun _ _ _ h=>h) (Or.inl ⟨by rfl,?_⟩) (by assumption) ?_
   rotate_left
   ·((intro w' hSw);(try dsimp only at hSw);(try go_simp);(try with_reducible rfl))
   (try simp only [Act.put,List.setIfInBounds_toArray,List.set_cons_zero,List.set_cons_succ])
   refine anyE_takeW (v:=?_) 6 rfl (by kernel_rfl) (by kernel_rfl) (by kernel_rfl) (by decide) (fun _ _ _ h=>h) (Or.inl ⟨by rfl,?_⟩) (by assumption) ?_
   rotate_left
   ·((intro w');(try go_simp);(try with_reducible rfl))
   (try simp only [Act.put,List.setIfInBounds_toArray,List.set_cons_zero,List.set_cons_succ])
   refine anyE_takeW (v:=?_) 7 rfl (by kernel_rfl) (by kernel_rfl) (by kernel_rfl) (by decide) (fun _ _ _ h=>h) (Or.inl ⟨by rfl,?_⟩) (by assumption) ?_
   rotate_left
   ·((intro w');(try go_simp);(try with_reducible rfl))
   (try simp only [Act.put,List.setIfInBounds_toArray,List.set_cons_zero,List.set_cons_succ])
   refine anyE_takeW (v:=?_) 8 rfl (by kernel_rfl) (by kernel_rfl) (by kernel_rfl) (by decide) (fun _ _ _ h=>h) (Or.inl ⟨by rfl,?_⟩) (by assumption) ?_
   rotate_left
   ·((intro w');(try go_simp);(try with_reducible rfl))
   (try simp only [Act.put,List.setIfInBounds_toArray,List.set_cons_zero,List.set_cons_succ])
   refine anyE_takeW (v:=?_) 9 rfl (by kernel_rfl) (by kernel_rfl) (by kernel_rfl) (by decide) (fun _ _ _ h=>h) (Or.inl ⟨by rfl,?_⟩) (by assumption) ?_
   rotate_left
   ·((intro w');(try go_simp);(try with_reducible rfl))
   (try simp only [Act.put,List.setIfInBounds_toArray,List.set_cons_zero,List.set_cons_succ])
   refine anyE_take (v:=?_) 10 rfl (by kernel_rfl) (by kernel_rfl) (by kernel_rfl) (by kernel_rfl) (by kernel_rfl) (fun _ _ _ h=>h) (Or.inl ⟨by rfl,?_⟩) (by assumption) ?_
   rotate_left
   ·((intro w' hSw);(try dsimp only at hSw);(try go_simp);(try with_reducible rfl))
   (try simp only [Act.put,List.setIfInBounds_toArray,List.set_cons_zero,List.set_cons_succ])
   refine anyE_step 11 (by kernel_rfl) rfl (fun K hK=>?_)
   go_simp
   (go_at_call 63;refine (HM.out _ (hHeld.2.2.out)).mono ?_)
   rintro e wz ⟨rfl,hEz⟩
   go_wp2_with fail
   refine hK.out _ _ ⟨(hEz).cell hHeld.1,(hEz).cell hHeld.2.1,Ext.trans hHeld.2.2.out (hEz)⟩ (fun hHeld=>?_)
   clear hK K
   (try simp only [Act.put,List.setIfInBounds_toArray,List.set_cons_zero,List.set_cons_succ])
   refine anyE_step 12 (by kernel_rfl) rfl (fun K hK=>?_)
   go_simp
   (go_at_call 185;refine (HU.out _ (hHeld.2.2.out)).mono ?_)
   rintro e wy ⟨rfl,hEz⟩
   go_wp2_with fail
   refine hK.out _ _ ⟨(hEz).cell hHeld.1,(hEz).cell hHeld.2.1,Ext.trans hHeld.2.2.out (hEz)⟩ (fun hHeld=>?_)
   clear hK K
   (try simp only [Act.put,List.setIfInBounds_toArray,List.set_cons_zero,List.set_cons_succ])
   refine anyE_takeW (v:=?_) 13 rfl (by kernel_rfl) (by kernel_rfl) (by kernel_rfl) (by decide) (fun _ _ _ h=>h) (Or.inl ⟨by rfl,?_⟩) (by assumption) ?_
   rotate_left
   ·((intro w');(try go_simp);(try with_reducible rfl))
   (try simp only [Act.put,List.setIfInBounds_toArray,List.set_cons_zero,List.set_cons_succ])
   have HWY:Hid (Ext wr wy):=hHeld.2.2
   have hb6:=block_ext HBK.out HWY.out
   have HB6:=Lib.hid hb6
   have k6:=block_cell hb6
   have f6:=block_free hb6
   have k7:wy.cell? ⟨w.heap.size,j,none⟩=some (.string v0):=by rw [k6 j];exact HV0.out
   clear hb6 k6
   refine anyE_last 14 (by kernel_rfl) (by kernel_rfl) (by kernel_rfl) rfl (fun K hK=>?_)
   go_simp
   refine hK.out _ _ ?_
   clear hK K
   (try simp only [Act.put,List.setIfInBounds_toArray,List.set_cons_zero,List.set_cons_succ])
   go_wp2_with fail
   go_roundw
   case rel=>exact ⟨j+1,by omega,by go_num,(HX.out.trans HWY.out).setCell (Nat.le_refl _) _,C.set j (.string (intB (a-k*b))),by rw [← toArray_set];exact block_set HB6.out j _,HNX.out⟩
   case measure=>simp [intOf];omega
  ·obtain rfl:j=n:=by omega
   obtain ⟨C,hBK,hST⟩:=HCC.out
   have HF:Hid (RowB wr w.heap.size 0 (lessL k r s)):=hST.row (by rw [lessL_len];exact HN.out) hBK
   clear hBK hST HCC
   go_wp2_with fail
   go_ret
   exact ⟨rfl,HX.out,HF.out⟩
theorem bestO_ge {c d:Nat} {m:List (List Int)}:∀ {k a:Nat},bestO c d m k=some a→d≤a
 | 0,a,h=>by cases h
 | k+1,a,h=>by
  unfold bestO at h
  cases hb:bestO c d m k with
  | none =>
   rw [hb] at h
   simp only at h
   split at h
   ·cases h
   ·cases h;omega
  | some b =>
   rw [hb] at h
   simp only at h
   have:=bestO_ge hb
   split at h
   ·cases h;omega
   ·cases h;exact this
def colW (n c d:Nat):Nat→List (List Int)→Option (List (List Int)×Bool)
 | 0,_=>none
 | f+1,m =>
  if okM n m then
   match bestO c d m (m.length-d) with
   | none=>some (m,false)
   | some a=>match downO c d (swapL m d a) (m.length-(d+1)) with
    | none=>none
    | some (m2,true)=>colW n c d f m2
    | some (m2,false)=>some (m2,true)
  else none
theorem colW_succ (n c d f:Nat) (m:List (List Int)):colW n c d (f+1) m=if okM n m then
   match bestO c d m (m.length-d) with
   | none=>some (m,false)
   | some a=>match downO c d (swapL m d a) (m.length-(d+1)) with
    | none=>none
    | some (m2,true)=>colW n c d f m2
    | some (m2,false)=>some (m2,true)
  else none:=rfl
def upW (c d:Nat) (m:List (List Int)):Option (List (List Int)):=upO c d (if getE m d c<0 then m.set d ((rowE_ m d).map (- ·)) else m) d
theorem sweep_col (n c d:Nat):∀ (F:Nat) (m:List (List Int)),sweepO n c d F m=match colW n c d F m with
  | none=>none
  | some (m',false)=>some (m',false)
  | some (m',true)=>if okM n m' then (match upW c d m' with | none=>none | some m4=>some (m4,true)) else none
 | 0,_=>rfl
 | F+1,m=>by
  rw [colW_succ]
  unfold sweepO
  by_cases h:okM n m=true
  ·rw [if_pos h,if_pos h]
   cases bestO c d m (m.length-d) with
   | none=>rfl
   | some a =>
    simp only
    cases downO c d (swapL m d a) (m.length-(d+1)) with
    | none=>rfl
    | some r =>
     obtain ⟨m2,b⟩:=r
     cases b
     ·rfl
     ·exact sweep_col n c d F m2
  ·rw [if_neg h,if_neg h]
def kerSets (n k:Nat):List Nat:=if k=n then [] else allW n (k+1)
def kerCell (n k:Nat) (X:List Int) (i s:Nat):Int:=if s.testBit i=true then sgnI (X.getD (placeW n k (s ^^^ (1 <<< i))) 0) (oddW (1 <<< i) (s ^^^ (1 <<< i))) else 0
def unitL (n i:Nat):List Int:=(List.replicate n (0:Int)).set i 1
def kerRow (n k:Nat) (X:List Int) (i:Nat):List Int:=(kerSets n k).map (kerCell n k X i)++unitL n i
def kerM (n k:Nat) (X:List Int):List (List Int):=(List.range n).map (kerRow n k X)
def kerCols (N F:Nat) (m:List (List Int)):Nat→Option (List (List Int)×Nat)
 | 0=>some (m,0)
 | c+1=>match kerCols N F m c with
  | none=>none
  | some (m1,d)=>match colW N c d F m1 with
   | none=>none
   | some (m2,p)=>some (m2,if p then d+1 else d)
theorem kerCols_succ (N F:Nat) (m:List (List Int)) (c:Nat):kerCols N F m (c+1)=match kerCols N F m c with
  | none=>none
  | some (m1,d)=>match colW N c d F m1 with
   | none=>none
   | some (m2,p)=>some (m2,if p then d+1 else d):=rfl
def kernW (F n k:Nat) (X:List Int):Option (List (List Int)) :=
 match kerCols ((kerSets n k).length+n) F (kerM n k X) (kerSets n k).length with
 | none=>none
 | some (m,d)=>some ((m.drop d).map (·.drop (kerSets n k).length))
def formW (n F:Nat) (m:List (List Int)):Option (List (List Int)):=(colsO n F n 0 0 m).map (·.1)
theorem kerCell_set {n k i s:Nat} {X:List Int} (h:s.testBit i=true):kerCell n k X i s=sgnI (X.getD (placeW n k (s ^^^ (1 <<< i))) 0) (oddW (1 <<< i) (s ^^^ (1 <<< i))):=if_pos h
theorem kerCell_out {n k i s:Nat} {X:List Int} (h:s.testBit i=false):kerCell n k X i s=0:=if_neg (by rw [h];decide)
theorem colW_len {n c d:Nat}:∀ {F:Nat} {m m':List (List Int)} {p:Bool},colW n c d F m=some (m',p)→d≤m.length→m'.length=m.length∧(p=true→d<m.length)∧(∀ i,i<d→rowE_ m' i=rowE_ m i)
 | 0,m,m',p,h,_=>by cases h
 | F+1,m,m',p,h,hd=>by
  rw [colW_succ] at h
  by_cases hok:okM n m=true
  ·rw [if_pos hok] at h
   cases hb:bestO c d m (m.length-d) with
   | none =>
    rw [hb] at h
    simp only [Option.some.injEq,Prod.mk.injEq] at h
    obtain ⟨rfl,rfl⟩:=h
    exact ⟨rfl,(fun e=>by cases e),fun _ _=>rfl⟩
   | some a =>
    rw [hb] at h
    simp only at h
    have hdl:d<m.length:=by
     by_cases e:d<m.length
     ·exact e
     ·rw [show m.length-d=0 by omega] at hb;cases hb
    cases hdn:downO c d (swapL m d a) (m.length-(d+1)) with
    | none=>rw [hdn] at h;cases h
    | some r =>
     obtain ⟨m2,b⟩:=r
     rw [hdn] at h
     obtain ⟨k1,k2,k3⟩:=downO_keep hdn (by rw [swapL_len];omega)
     rw [swapL_len] at k1
     have k4:∀ i,i<d→rowE_ m2 i=rowE_ m i:=fun i hi=>by
      rw [k2 i (by omega)]
      have hsw:(swapL m d a)[i]?=m[i]?:=by
       unfold swapL
       split
       ·rename_i x y hx hy
        have had:a≠i∨¬ a<m.length:=by
         by_cases e:a=i
         ·exact absurd (bestO_ge hb) (by omega)
         ·exact .inl e
        rw [List.getElem?_set,List.getElem?_set]
        rw [if_neg (by rcases had with e | e;exact e;intro e2;omega),if_neg (by omega)]
       ·rfl
      unfold rowE_
      rw [List.getD_eq_getElem?_getD,List.getD_eq_getElem?_getD,hsw]
     cases b with
     | false =>
      simp only [Option.some.injEq,Prod.mk.injEq] at h
      obtain ⟨rfl,rfl⟩:=h
      exact ⟨k1,fun _=>hdl,k4⟩
     | true =>
      have ih:=colW_len (F:=F) h (by omega)
      exact ⟨by rw [ih.1,k1],fun _=>hdl,fun i hi=>by rw [ih.2.2 i hi,k4 i hi]⟩
  ·rw [if_neg hok] at h;cases h
theorem kerCols_some {N F : Nat} {m : List (List Int)} {C : Nat} : ∀ {y}, kerCols N F m C = some y → ∀ j, j ≤ C → ∃ z, kerCols N F m j = some z := by
  induction C with
  | zero => intro y h j hj; obtain rfl : j = 0 := by omega
            exact ⟨y, h⟩
  | succ C ih =>
    intro y h j hj
    by_cases he : j = C + 1
    · subst he; exact ⟨y, h⟩
    · rw [kerCols_succ] at h
      cases hc : kerCols N F m C with
      | none => rw [hc] at h; cases h
      | some z => exact ih hc j (by omega)
theorem kerCols_len {N F:Nat} {m:List (List Int)}:∀ (C:Nat) {m1:List (List Int)} {d:Nat},kerCols N F m C=some (m1,d)→m1.length=m.length∧d≤m.length
 | 0,m1,d,h=>by
  have h:some (m,0)=some (m1,d):=h
  simp only [Option.some.injEq,Prod.mk.injEq] at h
  obtain ⟨rfl,rfl⟩:=h
  exact ⟨rfl,Nat.zero_le _⟩
 | C+1,m1,d,h=>by
  rw [kerCols_succ] at h
  cases hc:kerCols N F m C with
  | none=>rw [hc] at h;cases h
  | some z =>
   obtain ⟨m0,d0⟩:=z
   rw [hc] at h
   simp only at h
   obtain ⟨l1,l2⟩:=kerCols_len C hc
   cases hw:colW N C d0 F m0 with
   | none=>rw [hw] at h;cases h
   | some r =>
    obtain ⟨m2,p⟩:=r
    rw [hw] at h
    simp only [Option.some.injEq,Prod.mk.injEq] at h
    obtain ⟨rfl,rfl⟩:=h
    obtain ⟨q1,q2,-⟩:=colW_len hw (by omega)
    refine ⟨by omega,?_⟩
    cases p
    ·exact l2
    ·have:=q2 rfl;simp;omega
end Go.Proofs.YtjlkkofmojgipaaGreatDoor
