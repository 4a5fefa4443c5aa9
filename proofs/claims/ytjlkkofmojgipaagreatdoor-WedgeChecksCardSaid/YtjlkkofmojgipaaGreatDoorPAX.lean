import Derived.Test.YtjlkkofmojgipaaGreatDoorPAW
import Derived.Deep.CutRange
import Derived.Deep.RegionWith
import Derived.Test.YtjlkkofmojgipaaGreatDoorPAV
import Derived.Test.YtjlkkofmojgipaaGreatDoorPAL
import Derived.Test.YtjlkkofmojgipaaGreatDoorShelfB
import Derived.Test.YtjlkkofmojgipaaGreatDoorPAE
import Derived.Test.YtjlkkofmojgipaaGreatDoorPAU
namespace Go.Proofs.YtjlkkofmojgipaaGreatDoor
set_option linter.unusedVariables false
set_option linter.unusedSimpArgs false
open Go.RowKit
theorem Pow10.below {w w':World} {base:Nat} (h:Pow10 w) (he:Below base w w') (hb:4<base):Pow10 w':=by
 unfold Pow10 Lib.TabIs at h ⊢
 exact var?_below he (show Tryz.prog.globalNamed "internal/strconv.uint64pow10" = some 4 by kernel_rfl) hb h
theorem GrownS.below {S:Nat→Prop} {w w':World} {base:Nat} (h:GrownS S w w') (hb:base≤w.heap.size) (hS:∀ k,S k→base≤k):Below base w w' :=
 ⟨h.os,h.tape,h.output,h.size,fun k hk=>h.block k (Nat.lt_of_lt_of_le hk hb) (fun hs=>absurd (hS k hs) (by omega))⟩
theorem GrownS.setCell {S:Nat→Prop} {w w':World} (h:GrownS S w w') {g:Nat} (hg:S g) (i:Nat) (v:Value):GrownS S w (w'.setCell ⟨g,i,none⟩ v) :=
 h.trans (grownBy_S (grown_setCell w' g i v) (fun k hk=>by cases hk;exact hg))
theorem GrownS.ext {S:Nat→Prop} {a b c:World} (h:GrownS S a b) (he:Ext b c):GrownS S a c:=h.trans (he.grownS S)
theorem made_strs (n:Nat):(madeCells #[Value.string ⟨#[]⟩] n).toList=List.replicate n (.string ⟨#[]⟩):=(toList_madeCells_one _ _).trans (by simp)
theorem made_blockT {w:World} {B g n:Nat} {T:TypeId} {xs:List Value} (h:w.ownsRow B T 1 (.slice (some ⟨g,0,none⟩) n n) n xs):w.heap[g]?=some (.cells xs.toArray T (0,0))∧xs.length=n∧B≤g:=by
 obtain ⟨h0,h⟩:=h
 rcases h with ⟨hv,_⟩ | ⟨g',cap',cur,hv,hb,hg,h1,h2,h3,h4⟩
 ·simp at hv
 ·simp only [Value.slice.injEq,Option.some.injEq,Addr.mk.injEq] at hv
  obtain ⟨⟨rfl,-,-⟩,-,rfl⟩:=hv
  rw [Nat.mul_one] at h0 h3 h4
  rw [List.take_of_length_le (by simp [h3])] at h4
  refine ⟨?_,h0,hb⟩
  rw [hg,← h4]
def StrsTo (C:List Value) (n j:Nat) (xs:List Int):Prop:=C.length=n∧(∀ i,i<n→∃ s,C[i]?=some (.string s))∧∀ i x,i<j→xs[i]?=some x→C[i]?=some (.string (intB x))
theorem StrsTo.start (n:Nat) (xs:List Int):StrsTo (List.replicate n (.string ⟨#[]⟩)) n 0 xs:=⟨by simp,fun i hi=>⟨⟨#[]⟩,by rw [List.getElem?_replicate,if_pos hi]⟩,fun i x hi=>absurd hi (by omega)⟩
theorem StrsTo.set {C:List Value} {n j:Nat} {xs:List Int} {x:Int} (h:StrsTo C n j xs) (hj:j<n) (hx:xs[j]?=some x):StrsTo (C.set j (.string (intB x))) n (j+1) xs:=by
 obtain ⟨h1,h2,h3⟩:=h
 refine ⟨by rw [List.length_set];exact h1,fun i hi=>?_,fun i y hi hy=>?_⟩
 ·rw [List.getElem?_set]
  by_cases e:j=i
  ·subst e;rw [if_pos rfl,if_pos (by omega)];exact ⟨_,rfl⟩
  ·rw [if_neg e];exact h2 i hi
 ·rw [List.getElem?_set]
  by_cases e:j=i
  ·subst e
   rw [if_pos rfl,if_pos (by omega)]
   rw [hx] at hy;cases hy;rfl
  ·rw [if_neg e];exact h3 i y (by omega) hy
theorem StrsTo.row {w:World} {g:Nat} {C:List Value} {n:Nat} {xs:List Int} {T:TypeId} (h:StrsTo C n n xs) (hl:xs.length=n) (hb:w.heap[g]?=some (.cells C.toArray T (0,0))):RowB w g 0 xs :=
 ⟨block_lt hb,fun j x hx=>by
  rw [Nat.zero_add,block_cell hb j,List.getElem?_toArray]
  exact h.2.2 j x (by rw [← hl];exact (List.getElem?_eq_some_iff.1 hx).1) hx,fun j=>block_free hb j⟩
theorem toArray_set (C:List Value) (j:Nat) (x:Value):C.toArray.setIfInBounds j x=(C.set j x).toArray:=by simp
set_option maxRecDepth 100000 in
set_option maxHeartbeats 4000000 in
theorem lineLess_any (k:Int) (r s:List Int) (gx ox cx gy oy cy:Nat) (w:World) (hr:RowB w gx ox r) (hs:RowB w gy oy s) (hl:s.length=r.length) (hk:(intB k).size≤2800000000)
  (hrs:∀ a∈r,(intB a).size≤2800000000) (hss:∀ b∈s,(intB b).size≤2800000000∧(intB (k*b)).size≤2800000000) (hcx:r.length≤cx) (hcx2:cx≤maxLen) (hcy:s.length≤cy) (hcy2:cy≤maxLen) (hlen:r.length≤1000000) (ht:Pow10 w) :
  Calls Tryz.prog 137 #[.slice (some ⟨gx,ox,none⟩) r.length cx,.slice (some ⟨gy,oy,none⟩) s.length cy,.string (intB k)] w fun e w'=>e=.returned (.slice (some ⟨w.heap.size,0,none⟩) r.length r.length)∧Ext w w'∧RowB w' w.heap.size 0 (lessL k r s):=by
 obtain ⟨i0,hi,hz0,hz1,hz2⟩:=info_parts infoBigI
 have HI:=Lib.hid hi;have HZ0:=Lib.hid hz0;have HZ1:=Lib.hid hz1;have HZ2:=Lib.hid hz2
 have HT:=Lib.hid ht
 have HR:=Lib.hid hr;have HS:=Lib.hid hs;have HRS:=Lib.hid hrs;have HSS:=Lib.hid hss;have HKK:=Lib.hid hk
 have HLE:=Lib.hid hl
 obtain ⟨n,hn⟩:∃ n,r.length=n:=⟨_,rfl⟩
 have HN:=Lib.hid hn
 rw [hl,hn] at hcy
 rw [hl]
 rw [hn] at hcx hlen ⊢
 unfold maxLen at hcx2 hcy2
 clear hi hz0 hz1 hz2 hr hs hl hk hrs hss ht hn
 obtain ⟨kk,hkk⟩:∃ kk,intB k=kk:=⟨_,rfl⟩
 rw [hkk]
 have HKE:=Lib.hid hkk
 clear hkk
 go_enter Tryz.func137,Tryz.ntmps137
 go_wp2_with (at_make;refine wpList_make_full _ rfl _ _ 119 rfl w.heap.size 53 i0 (.string ⟨#[]⟩) 1 Tryz.underlying119 HI.out HZ0.out HZ1.out _ _ _ _ n rfl rfl rfl rfl ?c1 ?c2 ?c3 ?_)
 case c1=>rw [HZ2.out];omega
 case c2=>unfold maxLen;omega
 case c3=>exact Nat.le_refl _
 intro w1 hown hgrow
 have HE1:=Lib.hid (ext_grown hgrow)
 have hmb:=made_blockT hown
 (try rw [Nat.mul_one] at hmb)
 rw [made_strs] at hmb
 have HB1:=Lib.hid hmb.1
 clear hown hgrow hmb
 go_wp2_with fail
 go_loopw [14] (fun t wr=>∃ j:Nat,j≤n∧t=.int .i64 j∧Hid (Ext w wr)∧Hid (∃ C,wr.heap[w.heap.size]?=some (.cells C.toArray 53 (0,0))∧StrsTo C n j (lessL k r s))) (fun t _=>n-(intOf t).toNat)
 case atStart=>exact ⟨0,by omega,rfl,HE1.out,_,HB1.out,StrsTo.start n _⟩
 case round =>
  obtain ⟨j,hj,rfl,HX,HCC⟩:=hrel
  by_cases hlt:j<n
  ·obtain ⟨b,hbj⟩:∃ b,s[j]?=some b:=⟨s[j]'(by rw [HLE.out,HN.out];exact hlt),List.getElem?_eq_getElem _⟩
   obtain ⟨a,haj⟩:∃ a,r[j]?=some a:=⟨r[j]'(by rw [HN.out];exact hlt),List.getElem?_eq_getElem _⟩
   have z1:=HX.out.cell (HR.out.cell j a haj)
   have z2:=HX.out.cell (HS.out.cell j b hbj)
   obtain ⟨C,hBK,hST⟩:=HCC.out
   have HBK:=Lib.hid hBK;have HST:=Lib.hid hST
   obtain ⟨v0,hv0⟩:=hST.2.1 j hlt
   have HV0:Hid (C.toArray[j]?=some (.string v0)):=by unfold Hid;rw [List.getElem?_toArray];exact hv0
   have HNX:Hid (StrsTo (C.set j (.string (intB (a-k*b)))) n (j+1) (lessL k r s)):=hST.set hlt (lessL_get k r s j a b haj hbj)
   have HM:Hid (∀ W,Ext wr W→Calls Tryz.prog 63 #[.string kk,.string (intB b)] W fun e w'=>e=.returned (.string (intB (k*b)))∧Ext W w'):=fun W hW=>by
    rw [← HKE.out];exact mulI_any k b W (by have:=HKK.out;omega) (by have:=(HSS.out b (List.mem_of_getElem? hbj)).1;omega) (HT.out.ext (HX.out.trans hW))
   have HU:Hid (∀ W,Ext wr W→Calls Tryz.prog 185 #[.string (intB a),.string (intB (k*b))] W fun e w'=>e=.returned (.string (intB (a-k*b)))∧Ext W w'):=fun W hW =>
    subI_any a (k*b) W (HRS.out a (List.mem_of_getElem? haj)) (HSS.out b (List.mem_of_getElem? hbj)).2 (HT.out.ext (HX.out.trans hW))
   have hjn:(j:Int)<(n:Int):=by omega
   clear hbj haj hBK hST hv0 HCC
   go_upto_region 5 with fail
   refine region_anyE (fun w'=>w'.cell? ⟨gx,ox+j,none⟩=some (.string (intB a))∧w'.cell? ⟨gy,oy+j,none⟩=some (.string (intB b))∧Hid (Ext wr w')) 14 (by kernel_rfl) ⟨(Ext.drew wr).cell z1,(Ext.drew wr).cell z2,Ext.drew wr⟩ (fun hHeld=>?_)
   refine anyE_takeW (v:=?_) 0 rfl (by kernel_rfl) (by kernel_rfl) (by kernel_rfl) (by decide) (fun _ _ _ h=>h) (Or.inl ⟨by rfl,?_⟩) (by assumption) ?_
   rotate_left
   ·((intro w');(try go_simp);(try with_reducible rfl))
   (try simp only [Act.put,List.setIfInBounds_toArray,List.set_cons_zero,List.set_cons_succ])
   refine anyE_takeW (v:=?_) 1 rfl (by kernel_rfl) (by kernel_rfl) (by kernel_rfl) (by decide) (fun _ _ _ h=>h) (Or.inl ⟨by rfl,?_⟩) (by assumption) ?_
   rotate_left
   ·((intro w');(try go_simp);(try with_reducible rfl))
   (try simp only [Act.put,List.setIfInBounds_toArray,List.set_cons_zero,List.set_cons_succ])
   refine anyE_takeW (v:=?_) 2 rfl (by kernel_rfl) (by kernel_rfl) (by kernel_rfl) (by decide) (fun _ _ _ h=>h) (Or.inl ⟨by rfl,?_⟩) (by assumption) ?_
   rotate_left
   ·((intro w');(try go_simp);(try with_reducible rfl))
   (try simp only [Act.put,List.setIfInBounds_toArray,List.set_cons_zero,List.set_cons_succ])
   refine anyE_takeW (v:=?_) 3 rfl (by kernel_rfl) (by kernel_rfl) (by kernel_rfl) (by decide) (fun _ _ _ h=>h) (Or.inl ⟨by rfl,?_⟩) (by assumption) ?_
   rotate_left
   ·((intro w');(try go_simp);(try with_reducible rfl))
   (try simp only [Act.put,List.setIfInBounds_toArray,List.set_cons_zero,List.set_cons_succ])
   refine anyE_takeW (v:=?_) 4 rfl (by kernel_rfl) (by kernel_rfl) (by kernel_rfl) (by decide) (fun _ _ _ h=>h) (Or.inl ⟨by rfl,?_⟩) (by assumption) ?_
   rotate_left
   ·((intro w');(try go_simp);(try with_reducible rfl))
   (try simp only [Act.put,List.setIfInBounds_toArray,List.set_cons_zero,List.set_cons_succ])
   refine anyE_take (v:=?_) 5 rfl (by kernel_rfl) (by kernel_rfl) (by kernel_rfl) (by kernel_rfl) (by kernel_rfl) (fun _ _ _ h=>h) (Or.inl ⟨by rfl,?_⟩) (by assumption) ?_
   rotate_left
   ·((intro w' hSw);(try dsimp only at hSw);(try go_simp);(try with_reducible rfl))
   (try simp only [Act.put,List.setIfInBounds_toArray,List.set_cons_zero,List.set_cons_succ])
   refine anyE_takeW (v:=?_) 6 rfl (by kernel_rfl) (by kernel_rfl) (by kernel_rfl) (by decide) (fun _ _ _ h=>h) (Or.inl ⟨by rfl,?_⟩) (by assumption) ?_
   rotate_left
   ·((intro w');(try go_simp);(try with_reducible rfl))
   (try simp only [Act.put,List.setIfInBounds_toArray,List.set_cons_zero,List.set_cons_succ])
   refine anyE_takeW (v:=?_) 7 rfl (by kernel_rfl) (by kernel_rfl) (by kernel_rfl) (by decide) (fun _ _ _ h=>h) (Or.inl ⟨by rfl,?_⟩) (by assumption) ?_
   rotate_left
   ·((intro w');(try go_simp);(try with_reducible rfl))
   (try simp only [Act.put,List.setIfInBounds_toArray,List.set_cons_zero,List.set_cons_succ])
   refine anyE_takeW (v:=?_) 8 rfl (by kernel_rfl) (by kernel_rfl) (by kernel_rfl) (by decide) (fun _ _ _ h=>h) (Or.inl ⟨by rfl,?_⟩) (by assumption) ?_
   rotate_left
   ·((intro w');(try go_simp);(try with_reducible rfl))
   (try simp only [Act.put,List.setIfInBounds_toArray,List.set_cons_zero,List.set_cons_succ])
   refine anyE_takeW (v:=?_) 9 rfl (by kernel_rfl) (by kernel_rfl) (by kernel_rfl) (by decide) (fun _ _ _ h=>h) (Or.inl ⟨by rfl,?_⟩) (by assumption) ?_
   rotate_left
   ·((intro w');(try go_simp);(try with_reducible rfl))
   (try simp only [Act.put,List.setIfInBounds_toArray,List.set_cons_zero,List.set_cons_succ])
   refine anyE_take (v:=?_) 10 rfl (by kernel_rfl) (by kernel_rfl) (by kernel_rfl) (by kernel_rfl) (by kernel_rfl) (fun _ _ _ h=>h) (Or.inl ⟨by rfl,?_⟩) (by assumption) ?_
   rotate_left
   ·((intro w' hSw);(try dsimp only at hSw);(try go_simp);(try with_reducible rfl))
   (try simp only [Act.put,List.setIfInBounds_toArray,List.set_cons_zero,List.set_cons_succ])
   refine anyE_step 11 (by kernel_rfl) rfl (fun K hK=>?_)
   go_simp
   (go_at_call 63;refine (HM.out _ (hHeld.2.2.out)).mono ?_)
   rintro e wz ⟨rfl,hEz⟩
   go_wp2_with fail
   refine hK.out _ _ ⟨(hEz).cell hHeld.1,(hEz).cell hHeld.2.1,Ext.trans hHeld.2.2.out (hEz)⟩ (fun hHeld=>?_)
   clear hK K
   (try simp only [Act.put,List.setIfInBounds_toArray,List.set_cons_zero,List.set_cons_succ])
   refine anyE_step 12 (by kernel_rfl) rfl (fun K hK=>?_)
   go_simp
   (go_at_call 185;refine (HU.out _ (hHeld.2.2.out)).mono ?_)
   rintro e wy ⟨rfl,hEz⟩
   go_wp2_with fail
   refine hK.out _ _ ⟨(hEz).cell hHeld.1,(hEz).cell hHeld.2.1,Ext.trans hHeld.2.2.out (hEz)⟩ (fun hHeld=>?_)
   clear hK K
   (try simp only [Act.put,List.setIfInBounds_toArray,List.set_cons_zero,List.set_cons_succ])
   refine anyE_takeW (v:=?_) 13 rfl (by kernel_rfl) (by kernel_rfl) (by kernel_rfl) (by decide) (fun _ _ _ h=>h) (Or.inl ⟨by rfl,?_⟩) (by assumption) ?_
   rotate_left
   ·((intro w');(try go_simp);(try with_reducible rfl))
   (try simp only [Act.put,List.setIfInBounds_toArray,List.set_cons_zero,List.set_cons_succ])
   have HWY:Hid (Ext wr wy):=hHeld.2.2
   have hb6:=block_ext HBK.out HWY.out
   have HB6:=Lib.hid hb6
   have k6:=block_cell hb6
   have f6:=block_free hb6
   have k7:wy.cell? ⟨w.heap.size,j,none⟩=some (.string v0):=by rw [k6 j];exact HV0.out
   clear hb6 k6
   refine anyE_last 14 (by kernel_rfl) (by kernel_rfl) (by kernel_rfl) rfl (fun K hK=>?_)
   go_simp
   refine hK.out _ _ ?_
   clear hK K
   (try simp only [Act.put,List.setIfInBounds_toArray,List.set_cons_zero,List.set_cons_succ])
   go_wp2_with fail
   go_roundw
   case rel=>exact ⟨j+1,by omega,by go_num,(HX.out.trans HWY.out).setCell (Nat.le_refl _) _,C.set j (.string (intB (a-k*b))),by rw [← toArray_set];exact block_set HB6.out j _,HNX.out⟩
   case measure=>simp [intOf];omega
  ·obtain rfl:j=n:=by omega
   obtain ⟨C,hBK,hST⟩:=HCC.out
   have HF:Hid (RowB wr w.heap.size 0 (lessL k r s)):=hST.row (by rw [lessL_len];exact HN.out) hBK
   clear hBK hST HCC
   go_wp2_with fail
   go_ret
   exact ⟨rfl,HX.out,HF.out⟩
def strsI (l:List Int):List Value:=l.map fun x=>.string (intB x)
theorem strsI_len (l:List Int):(strsI l).length=l.length:=by unfold strsI;simp
theorem strsI_one (l:List Int):∀ v∈strsI l,v.oneCell'=true:=by
 intro v hv
 unfold strsI at hv
 obtain ⟨x,-,rfl⟩:=List.mem_map.1 hv
 rfl
theorem strsI_get {q:Int} {m j:Nat} (h:j<m):(strsI (List.replicate m q))[j]?=some (.string (intB q)):=by
 unfold strsI;rw [List.getElem?_map,List.getElem?_replicate,if_pos h];rfl
def repI (q:Int) (n k:Nat):List Value:=strsI (List.replicate k q)++List.replicate (n-k) (.string ⟨#[]⟩)
theorem repI_len (q:Int) {n k:Nat} (h:k≤n):(repI q n k).length=n:=by
 unfold repI;rw [List.length_append,strsI_len];simp;omega
theorem repI_all (q:Int) (n:Nat):repI q n n=strsI (List.replicate n q):=by simp [repI]
theorem repI_zero (q:Int) (n:Nat):repI q n 0=List.replicate n (.string ⟨#[]⟩):=by simp [repI,strsI]
theorem repI_copy (q:Int) {n k m:Nat} (h:k+m≤n):(repI q n k).take k++strsI (List.replicate m q)++(repI q n k).drop (k+(strsI (List.replicate m q)).length)=repI q n (k+m):=by
 have h1:(strsI (List.replicate k q)).length=k:=by rw [strsI_len];simp
 unfold repI
 rw [List.take_left' h1,List.drop_append,List.drop_eq_nil_of_le (by omega),h1,List.nil_append,List.drop_replicate,strsI_len,List.length_replicate,show k+m-k=m by omega,show n-k-m=n-(k+m) by omega,← List.replicate_append_replicate (n:=k) (m:=m)]
 unfold strsI;simp
theorem repI_src (q:Int) {n k m:Nat} (hm:m≤k) {j:Nat} {v:Value} (h:(strsI (List.replicate m q))[j]?=some v):(repI q n k)[j]?=some v:=by
 unfold repI
 have hj:=(List.getElem?_eq_some_iff.1 h).1
 rw [strsI_len,List.length_replicate] at hj
 rw [List.getElem?_append_left (by rw [strsI_len];simp;omega),strsI_get (by omega)]
 rw [strsI_get hj] at h;exact h
theorem rep_strs (q:Int) (n:Nat) {xs:List Int} (h:xs=List.replicate n q):StrsTo (repI q n n) n n xs:=by
 refine ⟨repI_len q (Nat.le_refl n),fun i hi=>⟨intB q,by rw [repI_all,strsI_get hi]⟩,fun i x hi hx=>?_⟩
 rw [repI_all,strsI_get hi]
 rw [h,List.getElem?_replicate,if_pos hi] at hx
 cases hx;rfl
set_option maxRecDepth 100000 in
set_option maxHeartbeats 4000000 in
theorem repeatI_any (q:Int) (n:Nat) (hn:n≤1000) (v:Value) (w:World) (h:ListAt 1 numC w v [q]) :
  Calls Tryz.prog 89 #[v,.int .i64 (n:Int)] w fun e w'=>∃ g,e=.returned (.slice (some ⟨g,0,none⟩) n n)∧w'.heap[g]?=some (.cells (repI q n n).toArray 53 (0,0))∧w.heap.size≤g∧Ext w w':=by
 obtain ⟨i0,hi,hz0,hz1,hz2⟩:=info_parts infoBigI
 have HI:=Lib.hid hi;have HZ0:=Lib.hid hz0;have HZ1:=Lib.hid hz1;have HZ2:=Lib.hid hz2
 clear hi hz0 hz1 hz2
 obtain ⟨a,c,rfl,h1,h2,-,hc⟩:=inCell.open (BigL.of_nums h)
 obtain ⟨b,off,rfl,hb,hcell⟩:=hc (by simp)
 have HSRC:Hid (∀ W,Ext w W→∀ j v,(strsI (List.replicate (Nat.min 1 n) q))[j]?=some v→W.cell? ((⟨b,off,none⟩:Addr).add j)=some v):=fun W hW j v hv=>by
  obtain ⟨u,hu1,hu⟩:=hcell 0 q rfl
  obtain rfl:u=.string (intB q):=hu1
  have hj:=(List.getElem?_eq_some_iff.1 hv).1
  rw [strsI_len,List.length_replicate] at hj
  have hn0:Nat.min 1 n≤1:=Nat.min_le_left _ _
  obtain rfl:j=0:=by omega
  rw [show (⟨b,off,none⟩:Addr).add 0=⟨b,off+0,none⟩ by unfold Addr.add;split <;> simp_all]
  refine hW.cell (hu.trans ?_)
  rw [← hv,strsI_get (by simpa using hj)]
 simp only [List.length_cons,List.length_nil,Nat.zero_add] at h1 ⊢
 clear h hc hcell
 unfold maxLen at h2
 have q1:¬ (n:Int)<0:=by omega
 have HMUL:Hid (∀ W,Calls Tryz.prog 146 #[.int .u64 1,.int .u64 (n:Int)] W fun e w'=>e=.returned (.tuple #[.int .u64 0,.int .u64 (n:Int)])∧w'=W):=fun W=>by
  have:=Tryz.bits_Mul 1 n (by decide) (by omega) W
  rw [Nat.one_mul,Nat.div_eq_of_lt (by omega),Nat.mod_eq_of_lt (by omega)] at this
  exact this
 have q2:IntKind.u64.wrap (n:Int)=(n:Int):=by rw [IntKind.wrap_u64];omega
 have q3:IntKind.i64.wrap (n:Int)=(n:Int):=by rw [IntKind.wrap_i64];omega
 have q4:¬ (9223372036854775807:Int)<(n:Int):=by omega
 go_enter Tryz.func89,Tryz.ntmps89
 go_wp2_with fail
 refine (HMUL.out _).mono ?_
 rintro e w1 ⟨rfl,rfl⟩
 clear HMUL
 go_wp2_with (at_make;refine wpList_make_full _ rfl _ _ 29 rfl w1.heap.size 53 i0 (.string ⟨#[]⟩) 1 Tryz.underlying29 HI.out HZ0.out HZ1.out _ _ _ _ n rfl rfl rfl rfl ?c1 ?c2 ?c3 ?_)
 any_goals (first | (rw [HZ2.out];omega) | (unfold maxLen;omega) | exact Nat.le_refl _)
 intro w3 hown hgrow
 have hs2:(i0.zero=some (.string ⟨#[]⟩)):=HZ0.out
 have HG3:Hid (w3.heap[w1.heap.size]?=some (.cells (repI q n 0).toArray 53 (0,0))∧Ext w1 w3):=by
  refine ⟨?_,ext_grown hgrow⟩
  rcases hown.2 with ⟨hv,-⟩ | ⟨g',cap,cur,hv,-,hg,-,-,h3,h4⟩
  ·simp at hv
  ·simp only [Value.slice.injEq,Option.some.injEq,Addr.mk.injEq] at hv
   obtain ⟨⟨rfl,-,-⟩,-,rfl⟩:=hv
   rw [hg,repI_zero]
   congr 2
   have h5:cur.toList=List.replicate n (.string ⟨#[]⟩):=by
    rw [List.take_of_length_le (by simp [h3])] at h4
    rw [h4]
    (try rw [Nat.mul_one]);exact made_strs _
   rw [← h5]
 clear hown hgrow hs2
 have HN2:Hid ((strsI (List.replicate (Nat.min 1 n) q)).length=Nat.min 1 n*1∧0+(strsI (List.replicate (Nat.min 1 n) q)).length≤(repI q n 0).toArray.size):=by
  have h0:Nat.min 1 n≤n:=Nat.min_le_right _ _
  refine ⟨by rw [strsI_len];simp,?_⟩
  simp only [List.size_toArray]
  rw [strsI_len,repI_len q (Nat.zero_le n)]
  simp;omega
 obtain ⟨k0,hk0⟩:∃ k0,k0=Nat.min 1 n:=⟨_,rfl⟩
 have hk01:k0≤n:=by rw [hk0];exact Nat.min_le_right _ _
 have hk02:0<n→0<k0:=fun h=>by rw [hk0];exact Nat.lt_min.2 ⟨by omega,h⟩
 have HK:=Lib.hid (And.intro hk01 hk02)
 have HK0:=Lib.hid hk0
 clear hk0 hk01 hk02
 have HCO:Hid ((((repI q n 0).toArray.toList.take 0)++strsI (List.replicate (Nat.min 1 n) q)++(repI q n 0).toArray.toList.drop (0+(strsI (List.replicate (Nat.min 1 n) q)).length)).toArray=(repI q n k0).toArray):=by
  have:=repI_copy q (n:=n) (k:=0) (m:=k0) (by have:=HK.out.1;omega)
  unfold Hid
  rw [HK0.out] at this ⊢
  simpa using congrArg List.toArray this
 obtain ⟨W4,hW4⟩:∃ W4,W4=w3.setRow w1.heap.size (((repI q n 0).toArray.toList.take 0)++strsI (List.replicate (Nat.min 1 n) q)++(repI q n 0).toArray.toList.drop (0+(strsI (List.replicate (Nat.min 1 n) q)).length)).toArray:=⟨_,rfl⟩
 have hcp:(Builtin.copy_ #[29,29] 3 #[.slice (some ⟨w1.heap.size,0,none⟩) n n,.slice (some ⟨b,off,none⟩) 1 c]).run Tryz.prog w3=.ok (.int .i64 (k0:Int)) W4:=by
  rw [hW4,HK0.out]
  exact run_copyK w3 _ _ _ 53 w1.heap.size 0 n n ⟨b,off,none⟩ 1 c (repI q n 0).toArray 53 (strsI (List.replicate (Nat.min 1 n) q)) 1 Tryz.underlying29 (by kernel_rfl) HG3.out.1 HN2.out.1 (HSRC.out _ HG3.out.2) (by have:=HN2.out.2;simpa using this) (strsI_one _)
 have HG4:Hid (W4.heap[w1.heap.size]?=some (.cells (repI q n k0).toArray 53 (0,0))∧Ext w1 W4):=by
  rw [hW4,HCO.out]
  exact ⟨setRow_heap w3 _ _ _ _ _ HG3.out.1,below_setRow HG3.out.2 (Nat.le_refl _) _⟩
 clear hW4 HCO HN2 HSRC HK0
 go_wp2_with fail
 clear hcp
 go_loopw [8] (fun t wr=>∃ k:Nat,k≤n∧(0<n→0<k)∧t=.int .i64 (k:Int)∧Hid (wr.heap[w1.heap.size]?=some (.cells (repI q n k).toArray 53 (0,0))∧Ext w1 wr)) (fun t _=>n-(intOf t).toNat)
 case atStart=>exact ⟨k0,HK.out.1,HK.out.2,rfl,HG4.out⟩
 case round =>
  obtain ⟨k,hk,hk0,rfl,HG⟩:=hrel
  obtain ⟨wo,rfl⟩:∃ wo:World,wo=wr:=⟨_,rfl⟩
  by_cases hlt:k<n
  ·skip
   obtain ⟨m,hm⟩:∃ m,m=Nat.min k (n-k):=⟨_,rfl⟩
   have hm1:m≤k:=by rw [hm];exact Nat.min_le_left _ _
   have hm2:m≤n-k:=by rw [hm];exact Nat.min_le_right _ _
   have hm3:0<m:=by rw [hm];exact Nat.lt_min.2 ⟨hk0 (by omega),by omega⟩
   have HMN:Hid (m=Nat.min k (n-k)):=hm
   have p1:(k:Int)≤(n:Int):=by omega
   have p2:(0:Int)≤(k:Int):=by omega
   have p3:IntKind.i64.wrap ((k:Int)+(m:Int))=(k:Int)+(m:Int):=by rw [IntKind.wrap_i64];omega
   have hGD:wo.drew.heap[w1.heap.size]?=some (.cells (repI q n k).toArray 53 (0,0)):=HG.out.1
   obtain ⟨W5,hW5⟩:∃ W5,W5=wo.drew.setRow w1.heap.size (((repI q n k).toArray.toList.take (k))++strsI (List.replicate m q)++(repI q n k).toArray.toList.drop (k+(strsI (List.replicate m q)).length)).toArray:=⟨_,rfl⟩
   have hcp:(Builtin.copy_ #[29,29] 3 #[.slice (some ⟨w1.heap.size,k,none⟩) (n-k) (n-k),.slice (some ⟨w1.heap.size,0,none⟩) k n]).run Tryz.prog wo.drew=.ok (.int .i64 (m:Int)) W5:=by
    rw [hW5,hm]
    exact run_copyK wo.drew _ _ _ 53 w1.heap.size (k) (n-k) (n-k) ⟨w1.heap.size,0,none⟩ k n (repI q n k).toArray 53 (strsI (List.replicate (Nat.min k (n-k)) q)) 1 Tryz.underlying29 (by kernel_rfl) hGD (by rw [strsI_len];simp) (fun j v hv=>by
     rw [show (⟨w1.heap.size,0,none⟩:Addr).add j=⟨w1.heap.size,j,none⟩ by unfold Addr.add;split <;> simp_all]
     have:=repI_src q (n:=n) (k:=k) (Nat.min_le_left _ _) hv
     simp only [World.cell?,hGD]
     simpa using this) (by simp only [List.size_toArray];rw [strsI_len,repI_len q hk,List.length_replicate,← hm];omega) (strsI_one _)
   have HG5:Hid (W5.heap[w1.heap.size]?=some (.cells (repI q n (k+m)).toArray 53 (0,0))∧Ext w1 W5):=by
    rw [hW5]
    refine ⟨?_,below_setRow (HG.out.2.trans (Ext.drew _)) (Nat.le_refl _) _⟩
    rw [setRow_heap wo.drew _ _ _ _ _ hGD]
    have:=repI_copy q (n:=n) (k:=k) (m:=m) (by omega)
    rw [← this]
   have q5:(k:Int)<(n:Int):=by omega
   have q6:¬ n=k:=by omega
   clear hW5 hm hGD
   go_upto_region 9 with (fail)
   refine region_anyE (fun _=>True) 7 (by kernel_rfl) trivial (fun hHeld=>?_)
   refine anyE_takeW (v:=?_) 0 rfl (by kernel_rfl) (by kernel_rfl) (by kernel_rfl) (by decide) (fun _ _ _ h=>h) (Or.inl ⟨by rfl,?_⟩) (by assumption) ?_
   rotate_left
   ·((intro w');(try go_simp);(try with_reducible rfl))
   (try simp only [Act.put,List.setIfInBounds_toArray,List.set_cons_zero,List.set_cons_succ])
   refine anyE_takeW (v:=?_) 1 rfl (by kernel_rfl) (by kernel_rfl) (by kernel_rfl) (by decide) (fun _ _ _ h=>h) (Or.inl ⟨by rfl,?_⟩) (by assumption) ?_
   rotate_left
   ·((intro w');(try go_simp);(try with_reducible rfl))
   (try simp only [Act.put,List.setIfInBounds_toArray,List.set_cons_zero,List.set_cons_succ])
   refine anyE_takeW (v:=?_) 2 rfl (by kernel_rfl) (by kernel_rfl) (by kernel_rfl) (by decide) (fun _ _ _ h=>h) (Or.inl ⟨by rfl,?_⟩) (by assumption) ?_
   rotate_left
   ·((intro w');(try go_simp);(try with_reducible rfl))
   (try simp only [Act.put,List.setIfInBounds_toArray,List.set_cons_zero,List.set_cons_succ])
   refine anyE_takeW (v:=?_) 3 rfl (by kernel_rfl) (by kernel_rfl) (by kernel_rfl) (by decide) (fun _ _ _ h=>h) (Or.inl ⟨by rfl,?_⟩) (by assumption) ?_
   rotate_left
   ·((intro w');(try go_simp);(try with_reducible rfl))
   (try simp only [Act.put,List.setIfInBounds_toArray,List.set_cons_zero,List.set_cons_succ])
   refine anyE_takeW (v:=?_) 4 rfl (by kernel_rfl) (by kernel_rfl) (by kernel_rfl) (by decide) (fun _ _ _ h=>h) (Or.inl ⟨by rfl,?_⟩) (by assumption) ?_
   rotate_left
   ·((intro w');(try go_simp);(try with_reducible rfl))
   (try simp only [Act.put,List.setIfInBounds_toArray,List.set_cons_zero,List.set_cons_succ])
   refine anyE_takeW (v:=?_) 5 rfl (by kernel_rfl) (by kernel_rfl) (by kernel_rfl) (by decide) (fun _ _ _ h=>h) (Or.inl ⟨by rfl,?_⟩) (by assumption) ?_
   rotate_left
   ·((intro w');(try go_simp);(try with_reducible rfl))
   (try simp only [Act.put,List.setIfInBounds_toArray,List.set_cons_zero,List.set_cons_succ])
   refine anyE_takeW (v:=?_) 6 rfl (by kernel_rfl) (by kernel_rfl) (by kernel_rfl) (by decide) (fun _ _ _ h=>h) (Or.inl ⟨by rfl,?_⟩) (by assumption) ?_
   rotate_left
   ·((intro w');(try go_simp);(try with_reducible rfl))
   (try simp only [Act.put,List.setIfInBounds_toArray,List.set_cons_zero,List.set_cons_succ])
   refine anyE_step 7 (by kernel_rfl) rfl (fun K hK=>?_)
   go_simp
   refine hK.out _ _ trivial (fun hHeld=>?_)
   clear hK K
   (try simp only [Act.put,List.setIfInBounds_toArray,List.set_cons_zero,List.set_cons_succ])
   refine anyE_takeW (v:=?_) 8 rfl (by kernel_rfl) (by kernel_rfl) (by kernel_rfl) (by decide) (fun _ _ _ h=>h) (Or.inl ⟨by rfl,?_⟩) (by assumption) ?_
   rotate_left
   ·((intro w');(try go_simp);(try with_reducible rfl))
   (try simp only [Act.put,List.setIfInBounds_toArray,List.set_cons_zero,List.set_cons_succ])
   refine anyE_last 9 (by kernel_rfl) (by kernel_rfl) (by kernel_rfl) rfl (fun K hK=>?_)
   go_simp
   refine hK.out _ _ ?_
   clear hK K
   (try simp only [Act.put,List.setIfInBounds_toArray,List.set_cons_zero,List.set_cons_succ])
   clear hcp hHeld
   go_wp2_with fail
   go_roundw
   case rel=>exact ⟨k+m,by omega,fun _=>by omega,by go_num,HG5.out⟩
   case measure=>simp [intOf];omega
  ·obtain rfl:k=n:=by omega
   go_wp2_with fail
   go_ret
   exact ⟨_,rfl,HG.out.1,Nat.le_refl _,HG.out.2⟩
end Go.Proofs.YtjlkkofmojgipaaGreatDoor
namespace Go.Proofs.YtjlkkofmojgipaaGreatDoor
set_option linter.unusedVariables false
open Go.RowKit
section
variable {P:Program} {ops O:Array Oper} {Q:Exit→Act→World→Prop} {md:Region.Mode} {S:World→Prop} {z n:Nat}
def waitB (md:Region.Mode) (ops:Array Oper) (a i:Nat):Bool:=match ops[a]? with
 | some o=>o.after.any fun e=>Region.binds md e && e.on == i
 | none=>false
def pathB (md:Region.Mode) (ops:Array Oper):Nat→List Nat→Nat→Bool
 | a,[],i=>waitB md ops a i
 | a,b::bs,i=>waitB md ops a b && pathB md ops b bs i
theorem path_reach:∀ (bs:List Nat) (a i:Nat),pathB md ops a bs i=true→reachB md ops (bs.length+1) a i=true
 | [],a,i,h=>by
  unfold pathB waitB at h
  unfold reachB
  cases hq:ops[a]? with
  | none=>rw [hq] at h;cases h
  | some o =>
   rw [hq] at h
   obtain ⟨e,he,hb⟩:=Array.any_eq_true'.1 h
   exact Array.any_eq_true'.2 ⟨e,he,by simp only [Bool.and_eq_true,Bool.or_eq_true] at hb ⊢;exact ⟨hb.1,Or.inl hb.2⟩⟩
 | b::bs,a,i,h=>by
  unfold pathB waitB at h
  rw [Bool.and_eq_true] at h
  have ih:=path_reach bs b i h.2
  have h:=h.1
  show reachB md ops (bs.length+1+1) a i=true
  unfold reachB
  cases hq:ops[a]? with
  | none=>rw [hq] at h;cases h
  | some o =>
   rw [hq] at h
   obtain ⟨e,he,hb⟩:=Array.any_eq_true'.1 h
   simp only [Bool.and_eq_true,beq_iff_eq] at hb
   exact Array.any_eq_true'.2 ⟨e,he,by simp only [Bool.and_eq_true,Bool.or_eq_true];exact ⟨hb.1,Or.inr (by rw [hb.2];exact ih)⟩⟩
theorem anyE_takeP (hO:Hid (ops=O)) (i:Nat) (bs:List Nat) {oi:Oper} {v:Value} {f:Nat} {l:Array Bool} {a:Act} {w:World} (hi:ops[i]?=some oi)
  (hs:Region.noSelect O=true) (hc:closedB md O l=true) (hf:Region.free md O l i=true) (hr:(Region.ready md O l).contains i=true) (hz:pathB md O z bs i=true)
  (hQ:∀ c a w,Q (.panic c) (a.put oi.dst v) w→Q (.panic c) a w) (hy:YieldsIf P O S oi v a) (hS:S w)
  (h:anyE P md ops Q S z f (l.setIfInBounds i true) (a.put oi.dst v) w):anyE P md ops Q S z (f+1) l a w:=by
 have hO:ops=O:=hO
 subst hO
 exact anyE_first hi (Region.noSelect_spec hs) hQ (path_reach bs z i hz) f l a w (Region.free_spec hi hf) (closedB_spec hc) (by simpa using hr) hy hS h
theorem anyE_lastP (hO:Hid (ops=O)) (i:Nat) {o:Oper} {f:Nat} {l:Array Bool} {a:Act} {w:World} (hr:Region.ready md O l=[i]) (hr2:Region.ready md O (l.setIfInBounds i true)=[]) (hz:(l.setIfInBounds i true).getD z false=true) (ho:ops[i]?=some o)
  (h:∀ K:Act→World→Prop,Shut (∀ b u,Q .normal b u→K b u)→if Region.wanted o (yielded O a.tmps)=true then Oper.wp P o a w K Q else K (a.put o.dst undef) w):anyE P md ops Q S z (f+1) l a w:=by
 have hO:ops=O:=hO
 subst hO
 exact anyE_last i hr hr2 hz ho h
end
end Go.Proofs.YtjlkkofmojgipaaGreatDoor
namespace Go.Proofs.YtjlkkofmojgipaaGreatDoor
set_option linter.unusedVariables false
set_option linter.unusedSimpArgs false
open Go.RowKit Go.Maps
end Go.Proofs.YtjlkkofmojgipaaGreatDoor
