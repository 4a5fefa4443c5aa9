import Derived.Test.YtjlkkofmojgipaaGreatDoorPAE
import Derived.Test.YtjlkkofmojgipaaGreatDoorPAF
import Derived.Laws.Rows
import Derived.Deep.RegionHeld3
import Derived.Deep.DrawnRows
namespace Go.Proofs.YtjlkkofmojgipaaGreatDoor
set_option linter.unusedVariables false
set_option linter.unusedSimpArgs false
open Go.RowKit
set_option maxRecDepth 100000 in
set_option maxHeartbeats 1000000 in
theorem gcd_any (u v:Nat) (w:World) (hu:u<1000000000000000000) (hv:v<1000000000000000000) :
  Calls Tryz.prog 181 #[.int .i64 u,.int .i64 v] w fun e w'=>e=.returned (.int .i64 (Nat.gcd u v:Nat))∧Ext w w':=by
 go_enter Tryz.func181,Tryz.ntmps181
 go_wp2_with fail
 go_loopw [0,1] (fun a b wr=>∃ x y:Nat,a=.int .i64 x∧b=.int .i64 y∧x<1000000000000000000∧y<1000000000000000000∧Hid (Nat.gcd x y=Nat.gcd u v)∧Hid (Ext w wr)) (fun _ b _=>(intOf b).toNat)
 case atStart=>exact ⟨u,v,rfl,rfl,hu,hv,rfl,Ext.refl _⟩
 case round =>
  obtain ⟨x,y,rfl,rfl,hx,hy,HG,HE⟩:=hrel
  obtain ⟨wo,rfl⟩:∃ wo:World,wo=wr:=⟨_,rfl⟩
  by_cases hy0:y=0
  ·have HF:Hid (x=Nat.gcd u v):=by unfold Hid;rw [← HG.out,hy0,Nat.gcd_zero_right]
   subst hy0
   go_wp2_with fail
   go_ret
   exact ⟨by rw [← HF.out];rfl,HE.out⟩
  ·have HG2:Hid (Nat.gcd y (x%y)=Nat.gcd u v):=by
    unfold Hid;rw [← HG.out,Nat.gcd_comm y (x%y),← Nat.gcd_rec,Nat.gcd_comm]
   obtain ⟨r,hr⟩:∃ r,r=x%y:=⟨_,rfl⟩
   rw [← hr] at HG2
   have hry:r<y:=by rw [hr];exact Nat.mod_lt _ (by omega)
   have hmi:(x:Int)%(y:Int)=(r:Int):=by rw [hr];exact (Int.natCast_emod _ _).symm
   have hmi2:(x:Int).tmod (y:Int)=(r:Int):=by rw [Int.tmod_eq_emod_of_nonneg (by omega),hmi]
   have hyz:((y:Int) == 0)=false:=by rw [beq_eq_false_iff_ne];omega
   have hyz1:((y:Int) != 0)=true:=by simp;omega
   have hyz2:¬ (y:Int)=0:=by omega
   clear hr
   go_wp2_with fail
   go_quiet (fail)
   go_wp2_with fail
   go_roundw
   case rel=>exact ⟨y,r,rfl,rfl,hy,by omega,HG2.out,Ext.draws HE.out _⟩
   case measure=>simp [intOf];omega
set_option maxRecDepth 100000 in
set_option maxHeartbeats 1000000 in
theorem gcdI_any (x y:Int) (w:World) (hx:(intB x).size≤2800000000) (hy:(intB y).size≤2800000000) (ht:Pow10 w) :
  Calls Tryz.prog 134 #[.string (intB x),.string (intB y)] w fun e w'=>e=.returned (.string (numB (Nat.gcd x.natAbs y.natAbs)))∧Ext w w':=by
 have HT:=Lib.hid ht
 clear ht
 have hax:=natAbs_le x
 have hay:=natAbs_le y
 have eb:∀ n:Nat,intB (n:Int)=numB n:=fun n=>by rw [intB_pos _ (by omega)];rfl
 have hA1:=abs_any x w
 have hA2:=fun W=>abs_any y W
 rw [eb] at hA1
 simp only [eb] at hA2
 have HA1:=Lib.hid hA1
 have HA2:Hid (∀ W,Calls Tryz.prog 152 #[.string (intB y)] W fun e w'=>e=.returned (.string (numB y.natAbs))∧Ext W w'):=hA2
 obtain ⟨u,hu⟩:∃ u,u=x.natAbs:=⟨_,rfl⟩
 obtain ⟨v,hv⟩:∃ v,v=y.natAbs:=⟨_,rfl⟩
 rw [← hu] at HA1 hax ⊢
 rw [← hv] at HA2 hay ⊢
 clear hA1 hA2 hu hv
 by_cases hs:(numB u).size≤18∧(numB v).size≤18
 ·have hu1:=num_small hs.1
  have hv1:=num_small hs.2
  have h1:∀ W,Calls Tryz.prog 119 #[.string (intB (u:Int)),.int .i64 18] W fun e w'=>e=.returned (.tuple #[.int .i64 (u:Int),.bool true])∧Ext W w':=fun W=>little_yes (u:Int) 18 W (by omega) (by omega) (by rw [eb];exact hs.1) (by omega)
  have h2:∀ W,Calls Tryz.prog 119 #[.string (intB (v:Int)),.int .i64 18] W fun e w'=>e=.returned (.tuple #[.int .i64 (v:Int),.bool true])∧Ext W w':=fun W=>little_yes (v:Int) 18 W (by omega) (by omega) (by rw [eb];exact hs.2) (by omega)
  rw [eb] at h1 h2
  have H1:=Lib.hid h1
  have H2:=Lib.hid h2
  have HG:=Lib.hid (fun W=>gcd_any u v W hu1 hv1)
  have hg:Nat.gcd u v≤u+v:=by
   by_cases h0:u=0
   ·rw [h0,Nat.gcd_zero_left];omega
   ·have:=Nat.gcd_le_left v (Nat.pos_of_ne_zero h0);omega
  obtain ⟨gg,hgg⟩:∃ gg,gg=Nat.gcd u v:=⟨_,rfl⟩
  rw [← hgg] at HG hg ⊢
  have hO:∀ W,Ext w W→Calls Tryz.prog 64 #[.int .i64 (gg:Int)] W fun e w'=>e=.returned (.string (intB (gg:Int)))∧Ext W w':=fun W hE=>of_any (gg:Int) W (by omega) (by omega) (HT.out.ext hE)
  rw [eb] at hO
  have HO:=Lib.hid hO
  clear h1 h2 hO hs hgg eb
  go_enter Tryz.func134,Tryz.ntmps134
  go_wp2_with fail
  refine HA1.out.mono ?_
  rintro e w1 ⟨rfl,hE1⟩
  have HE1:=Lib.hid hE1
  clear hE1 HA1
  go_wp2_with fail
  refine (HA2.out _).mono ?_
  rintro e w2 ⟨rfl,hE2⟩
  have HE2:=Lib.hid (Ext.trans HE1.out hE2)
  clear hE2 HA2
  go_wp2_with fail
  refine (H1.out _).mono ?_
  rintro e w3 ⟨rfl,hE3⟩
  have HE3:=Lib.hid (Ext.trans HE2.out hE3)
  clear hE3 H1
  go_wp2_with fail
  refine (H2.out _).mono ?_
  rintro e w4 ⟨rfl,hE4⟩
  have HE4:=Lib.hid (Ext.trans HE3.out hE4)
  clear hE4 H2
  go_wp2_with fail
  refine (HG.out _).mono ?_
  rintro e w5 ⟨rfl,hE5⟩
  have HE5:=Lib.hid (Ext.trans HE4.out hE5)
  clear hE5 HG
  go_wp2_with fail
  refine (HO.out _ HE5.out).mono ?_
  rintro e w6 ⟨rfl,hE6⟩
  have HE6:=Lib.hid (Ext.trans HE5.out hE6)
  clear hE6 HO
  go_wp2_with fail
  go_ret
  exact ⟨rfl,HE6.out⟩
 ·have HG:Hid (∀ W,Ext w W→Calls Tryz.prog 182 #[.string (numB u),.string (numB v)] W fun e w'=>e=.returned (.string (numB (Nat.gcd u v)))∧Ext W w'):=fun W hE=>decGcd_any u v W (by omega) (by omega) (HT.out.ext hE)
  have hcase:((numB u).size≤18∧18<(numB v).size)∨18<(numB u).size:=by omega
  have HY:Hid ((numB u).size≤18→∀ W,Calls Tryz.prog 119 #[.string (numB u),.int .i64 18] W fun e w'=>e=.returned (.tuple #[.int .i64 (u:Int),.bool true])∧Ext W w'):=by
   intro h W
   have hb:=num_small h
   have:=little_yes (u:Int) 18 W (by omega) (by omega) (by rw [eb];exact h) (by omega)
   rw [eb] at this
   exact this
  have HNO:Hid (∀ n:Nat,18<(numB n).size→∀ W,Calls Tryz.prog 119 #[.string (numB n),.int .i64 18] W fun e w'=>e=.returned (.tuple #[.int .i64 0,.bool false])∧W=w'):=by
   intro n h W
   have:=little_no (n:Int) 18 W (by rw [eb];exact h)
   rw [eb] at this
   exact this
  clear hs eb
  rcases hcase with ⟨hs1,hs2⟩ | hs1
  case' inl =>
   have H1:=Lib.hid (HY.out hs1)
   have H2:=Lib.hid (HNO.out v hs2)
   clear hs1 hs2
   go_enter Tryz.func134,Tryz.ntmps134
   go_wp2_with fail
   refine HA1.out.mono ?_
   rintro e w1 ⟨rfl,hE1⟩
   have HE1:=Lib.hid hE1
   clear hE1 HA1
   go_wp2_with fail
   refine (HA2.out _).mono ?_
   rintro e w2 ⟨rfl,hE2⟩
   have HE2:=Lib.hid (Ext.trans HE1.out hE2)
   clear hE2 HA2
   go_wp2_with fail
   refine (H1.out _).mono ?_
   rintro e w3 ⟨rfl,hE3⟩
   have HE3:=Lib.hid (Ext.trans HE2.out hE3)
   clear hE3 H1
   go_wp2_with fail
   refine (H2.out _).mono ?_
   rintro e w' ⟨rfl,rfl⟩
   clear H2
  case' inr =>
   have H1:=Lib.hid (HNO.out u hs1)
   clear hs1
   go_enter Tryz.func134,Tryz.ntmps134
   go_wp2_with fail
   refine HA1.out.mono ?_
   rintro e w1 ⟨rfl,hE1⟩
   have HE1:=Lib.hid hE1
   clear hE1 HA1
   go_wp2_with fail
   refine (HA2.out _).mono ?_
   rintro e w2 ⟨rfl,hE2⟩
   have HE3:=Lib.hid (Ext.trans HE1.out hE2)
   clear hE2 HA2
   go_wp2_with fail
   refine (H1.out _).mono ?_
   rintro e w' ⟨rfl,rfl⟩
   clear H1
  all_goals
   go_wp2_with fail
   refine (HG.out _ HE3.out).mono ?_
   rintro e w5 ⟨rfl,hE5⟩
   have HE5:=Lib.hid (Ext.trans HE3.out hE5)
   clear hE5 HG
   go_wp2_with fail
   go_ret
   exact ⟨rfl,HE5.out⟩
def ratV (q:Rat):Value:=.agg #[.string (intB q.num),.string (numB q.den)]
def RS (k:Nat) (q:Rat):Prop:=(intB q.num).size≤k∧(numB q.den).size≤k
theorem RS.mono {k m:Nat} {q:Rat} (h:RS k q) (hk:k≤m):RS m q:=⟨Nat.le_trans h.1 hk,Nat.le_trans h.2 hk⟩
theorem eb (n:Nat):intB (n:Int)=numB n:=by rw [intB_pos _ (by omega)];rfl
theorem mkRat_parts (n:Int) (d:Nat) (hd:d≠0):(mkRat n d).num=n / (n.natAbs.gcd d:Nat)∧(mkRat n d).den=d / n.natAbs.gcd d:=by
 rw [← Rat.normalize_eq_mkRat hd,Rat.normalize_eq hd]
 exact ⟨rfl,rfl⟩
theorem divInt_pos (n:Int) (d:Nat):Rat.divInt n (d:Int)=mkRat n d:=rfl
theorem divInt_neg (n:Int) (d:Nat) (hd:d≠0):Rat.divInt n (-(d:Int))=mkRat (-n) d:=by
 obtain ⟨m,rfl⟩:∃ m,d=m+1:=⟨d-1,by omega⟩
 rw [← Rat.normalize_eq_mkRat hd]
 rfl
theorem fdq_pos (x y:Int) (hy:0<y):fdq x y=x / y:=by
 have h1:=fd_eq x y
 have h2:=fdr_pos x y hy
 have h3:=Int.mul_ediv_add_emod x y
 have h4:=Int.emod_nonneg x (show y≠0 by omega)
 have h5:=Int.emod_lt_of_pos x hy
 generalize fdq x y=q at *
 generalize fdr x y=r at *
 generalize x / y=q' at *
 generalize x%y=r' at *
 have h6:y*(q-q')=r'-r:=by rw [Int.mul_sub];omega
 rcases Int.lt_trichotomy q q' with h | h | h
 ·have:y*(q-q')≤y*(-1):=Int.mul_le_mul_of_nonneg_left (by omega) (by omega)
  omega
 ·exact h
 ·have:y*1≤y*(q-q'):=Int.mul_le_mul_of_nonneg_left (by omega) (by omega)
  omega
theorem num_one (u:Nat):((numB u).toList == [49])=decide (u=1):=by
 rw [numB_list,show ([49]:List UInt8)=Lib.decDigits 1 by rw [Lib.decDigits_one (by omega)];rfl,digits_eq]
set_option maxRecDepth 100000 in
set_option maxHeartbeats 1000000 in
theorem ratSign_any (q:Rat) (w:World) :
  Calls Tryz.prog 160 #[ratV q] w fun e w'=>e=.returned (.int .i64 q.num.sign)∧Ext w w':=by
 have HS:=Lib.hid (fun W=>sign_any q.num W)
 unfold ratV
 go_enter Tryz.func160,Tryz.ntmps160
 go_wp2_with fail
 refine (HS.out _).mono ?_
 rintro e w' ⟨rfl,rfl⟩
 go_wp2_with fail
 go_ret
 exact ⟨rfl,Ext.alloc _ _⟩
theorem box2 (w:World) (x y:Value) (T:TypeId):∃ W,(w.alloc (.cells #[x,y] T))=W∧Ext w W∧W.heap.size=w.heap.size+1∧W.heap[w.heap.size]?=some (.cells #[x,y] T (0,0)) :=
 ⟨_,rfl,Ext.alloc _ _,by simp,block_new _ _ _⟩
theorem block2_cell {w:World} {B:Nat} {x y:Value} {T:TypeId} (h:w.heap[B]?=some (.cells #[x,y] T (0,0))):w.cell? ⟨B,0,none⟩=some x∧w.cell? ⟨B,1,none⟩=some y∧(∀ i,w.frozen? ⟨B,i,none⟩=false) :=
 ⟨block_cell h 0,block_cell h 1,block_free h⟩
theorem block2_set {w:World} {B:Nat} {x y a b:Value} {T:TypeId} (h:w.heap[B]?=some (.cells #[x,y] T (0,0))):((w.setCell ⟨B,0,none⟩ a).setCell ⟨B,1,none⟩ b).heap[B]?=some (.cells #[a,b] T (0,0)):=by
 have h1:=block_set h 0 a
 have h2:=block_set h1 1 b
 simpa using h2
set_option maxRecDepth 100000 in
set_option maxHeartbeats 1000000 in
theorem ratNeg_any (q:Rat) (w:World) (h:RS 28000 q) :
  Calls Tryz.prog 162 #[ratV q] w fun e w'=>e=.returned (ratV (-q))∧Ext w w':=by
 have HN:Hid (∀ W,Calls Tryz.prog 29 #[.string (intB q.num)] W fun e w'=>e=.returned (.string (intB (-q).num))∧Ext W w'):=fun W=>by
  have:=neg_any q.num W (by have:=h.1;omega)
  rw [Rat.neg_num];exact this
 have hd:(-q).den=q.den:=rfl
 unfold ratV
 rw [hd]
 obtain ⟨n,hn⟩:∃ n,n=intB q.num:=⟨_,rfl⟩
 obtain ⟨d,hdd⟩:∃ d,d=numB q.den:=⟨_,rfl⟩
 obtain ⟨m,hm⟩:∃ m,m=intB (-q).num:=⟨_,rfl⟩
 rw [← hn,← hm] at HN
 rw [← hn,← hdd,← hm]
 clear hn hdd hm hd h
 obtain ⟨W1,hW1,hE1,hs1,hb1⟩:=box2 w (.string n) (.string d) 152
 obtain ⟨W2,hW2,hE2,hs2,hb2⟩:=box2 W1 (.string ⟨#[]⟩) (.string ⟨#[]⟩) 152
 have hb1':=block_ext hb1 hE2
 obtain ⟨c0,c1,-⟩:=block2_cell hb1'
 obtain ⟨r0,r1,rf⟩:=block2_cell hb2
 have HB2:=Lib.hid hb2
 have HE:=Lib.hid (hE1.trans hE2)
 have HS1:=Lib.hid hs1
 have HC:Hid (∀ W,Ext W2.drew W→W.cell? ⟨w.heap.size,0,none⟩=some (.string n)∧W.cell? ⟨w.heap.size,1,none⟩=some (.string d)∧W.cell? ⟨W1.heap.size,0,none⟩=some (.string ⟨#[]⟩)∧W.cell? ⟨W1.heap.size,1,none⟩=some (.string ⟨#[]⟩)∧(∀ i,W.frozen? ⟨W1.heap.size,i,none⟩=false)):=fun W hW =>
  ⟨hW.cell (by simpa using c0),hW.cell (by simpa using c1),hW.cell (by simpa using r0),hW.cell (by simpa using r1),(block2_cell (block_ext (w:=W2.drew) hb2 hW)).2.2⟩
 clear hE1 hE2 hb1 hb2 hb1' hs1 hs2
 go_enter Tryz.func162,Tryz.ntmps162
 go_wp2_with fail
 go_region_with (go_at_call 29;refine (HN.out _).mono ?_;rintro e w5 ⟨rfl,hE5⟩;obtain ⟨d0,d1,t0,t1,tf⟩:=HC.out _ hE5;have tf0:=tf 0;have tf1:=tf 1;have HE5:=Lib.hid hE5;clear hE5 tf)
 all_goals
  have hb5:=block2_set (a:=.string m) (b:=.string d) (block_ext (w:=W2.drew) HB2.out HE5.out)
  go_wp2_with fail
  refine bodyPost_ret (results_cell_row (by rfl) _ _ W1.heap.size 152 #[.string m,.string d] (0,0) _ (by rfl) hb5 Tryz.underlying152 (by rfl) (by kernel_rfl)) (by rfl) ⟨rfl,?_⟩
  exact Below.setCell (Below.setCell ((HE.out.trans (Ext.drew _)).trans HE5.out) (p:=⟨W1.heap.size,0,none⟩) (by have:=HS1.out;show w.heap.size≤W1.heap.size;omega) _) (p:=⟨W1.heap.size,1,none⟩) (by have:=HS1.out;show w.heap.size≤W1.heap.size;omega) _
theorem ediv_size (N:Int) (g:Nat):(intB (N / (g:Int))).size≤(intB N).size:=by
 by_cases h:N<0
 ·have h1:=intB_size_le (N / (g:Int))
  have h2:=intB_size_neg N h
  have h3:(N / (g:Int)).natAbs≤N.natAbs:=Int.natAbs_ediv_le_natAbs N (g:Int)
  have:=num_le_mono h3
  omega
 ·have h0:0≤N / (g:Int):=Int.ediv_nonneg (by omega) (by omega)
  rw [intB_pos _ h0,intB_pos N (by omega)]
  refine num_le_mono ?_
  have h3:(N / (g:Int)).natAbs≤N.natAbs:=Int.natAbs_ediv_le_natAbs N (g:Int)
  omega
set_option maxRecDepth 100000 in
set_option maxHeartbeats 2000000 in
theorem lowest_any (n d:Int) (w:World) (hd:d≠0) (hn:(intB n).size≤27000) (hds:(intB d).size≤27000) (ht:Pow10 w) :
  Calls Tryz.prog 200 #[.string (intB n),.string (intB d)] w fun e w'=>e=.returned (ratV (Rat.divInt n d))∧Ext w w':=by
 have HT:=Lib.hid ht
 clear ht
 obtain ⟨W1,hW1,hE1,hs1,hb1⟩:=box2 w (.string ⟨#[]⟩) (.string ⟨#[]⟩) 152
 obtain ⟨r0,r1,rf⟩:=block2_cell hb1
 have HB1:=Lib.hid hb1
 have HE:=Lib.hid hE1
 have HC:Hid (∀ W,Ext W1 W→W.cell? ⟨w.heap.size,0,none⟩=some (.string ⟨#[]⟩)∧W.cell? ⟨w.heap.size,1,none⟩=some (.string ⟨#[]⟩)∧(∀ i,W.frozen? ⟨w.heap.size,i,none⟩=false)):=fun W hW =>
  ⟨hW.cell r0,hW.cell r1,(block2_cell (block_ext hb1 hW)).2.2⟩
 have HSG:=Lib.hid (sign_any d W1)
 obtain ⟨N,D,hN,hD,hD0,hsN,hsD,hq⟩:∃ (N:Int) (D:Nat),(if d<0 then N=-n else N=n)∧(if d<0 then d=-(D:Int) else d=(D:Int))∧D≠0∧(intB N).size≤27001∧(numB D).size≤27001∧Rat.divInt n d=mkRat N D:=by
  have h1:=intB_size_le (-n)
  have h2:=natAbs_le n
  have h3:=natAbs_le d
  rw [Int.natAbs_neg] at h1
  by_cases h:d<0
  ·refine ⟨-n,d.natAbs,by rw [if_pos h],by rw [if_pos h];omega,by omega,by omega,by omega,?_⟩
   rw [← divInt_neg n d.natAbs (by omega)];congr 1;omega
  ·refine ⟨n,d.natAbs,by rw [if_neg h],by rw [if_neg h];omega,by omega,by omega,by omega,?_⟩
   rw [← divInt_pos n d.natAbs];congr 1;omega
 obtain ⟨hp1,hp2⟩:=mkRat_parts N D hD0
 rw [hq]
 unfold ratV
 rw [hp1,hp2]
 obtain ⟨g,hg⟩:∃ g,g=N.natAbs.gcd D:=⟨_,rfl⟩
 rw [← hg]
 have hgp:0<g:=by rw [hg];exact Nat.gcd_pos_of_pos_right _ (by omega)
 have hgD:g≤D:=by rw [hg];exact Nat.gcd_le_right _ (by omega)
 have hgs:=num_le_mono hgD
 have hGC:∀ W,Ext w W→Calls Tryz.prog 134 #[.string (intB N),.string (intB (D:Int))] W fun e w'=>e=.returned (.string (numB g))∧Ext W w':=fun W hW=>by
  have:=gcdI_any N (D:Int) W (by omega) (by rw [eb];omega) (HT.out.ext hW)
  rw [show (D:Int).natAbs=D from rfl,← hg] at this
  exact this
 have hD1:∀ W,Ext w W→Calls Tryz.prog 94 #[.string (intB N),.string (intB (g:Int))] W fun e w'=>e=.returned (.tuple #[.string (intB (fdq N (g:Int))),.string (intB (fdr N (g:Int))),.int .i64 0])∧Ext W w':=fun W hW=>divModI_any N (g:Int) W (by omega) (by rw [eb];omega) (by omega) (HT.out.ext hW)
 have hD2:∀ W,Ext w W→Calls Tryz.prog 94 #[.string (intB (D:Int)),.string (intB (g:Int))] W fun e w'=>e=.returned (.tuple #[.string (intB (fdq (D:Int) (g:Int))),.string (intB (fdr (D:Int) (g:Int))),.int .i64 0])∧Ext W w':=fun W hW=>divModI_any (D:Int) (g:Int) W (by rw [eb];omega) (by rw [eb];omega) (by omega) (HT.out.ext hW)
 have hgi:(0:Int)<(g:Int):=by omega
 have hDg:fdq (D:Int) (g:Int)=((D / g:Nat):Int):=by rw [fdq_pos _ _ hgi];exact (Int.natCast_ediv _ _).symm
 rw [fdq_pos N _ hgi,eb] at hD1
 rw [hDg,eb,eb,eb] at hD2
 rw [eb] at hGC
 have HGC:=Lib.hid hGC;have HD1:=Lib.hid hD1;have HD2:=Lib.hid hD2
 have HG1:Hid (g=1→N / (g:Int)=N∧D / g=D):=fun h=>by rw [h];exact ⟨Int.ediv_one N,Nat.div_one D⟩
 have hz:=num_one g
 obtain ⟨FN,hFN⟩:∃ FN,FN=N / (g:Int):=⟨_,rfl⟩
 obtain ⟨FD,hFD⟩:∃ FD,FD=D / g:=⟨_,rfl⟩
 rw [← hFN] at HD1 HG1 ⊢
 rw [← hFD] at HD2 HG1 ⊢
 clear hg hgp hgD hgs hGC hD1 hD2 hgi hDg hp1 hp2 hq r0 r1 rf hb1 hE1 hs1 hFN hFD
 have HX:Hid (w.heap.size≤w.heap.size):=Nat.le_refl _
 by_cases hneg:d<0
 case' pos =>
  rw [if_pos hneg] at hN hD
  have hsg:d.sign<0:=by rw [Int.sign_eq_neg_one_of_neg hneg];omega
  have HN1:Hid (∀ W,Calls Tryz.prog 29 #[.string (intB n)] W fun e w'=>e=.returned (.string (intB N))∧Ext W w'):=fun W=>by rw [hN];exact neg_any n W (by omega)
  have HN2:Hid (∀ W,Calls Tryz.prog 29 #[.string (intB d)] W fun e w'=>e=.returned (.string (numB D))∧Ext W w'):=fun W=>by
   have:=neg_any d W (by omega)
   rw [show -d=(D:Int) by omega,eb] at this
   exact this
  obtain ⟨sg,hsgg⟩:∃ sg,sg=d.sign:=⟨_,rfl⟩
  rw [← hsgg] at HSG hsg
  clear hN hD hneg hsgg
  go_enter Tryz.func200,Tryz.ntmps200
  go_wp2_with fail
  refine HSG.out.mono ?_
  rintro e w' ⟨rfl,rfl⟩
  clear HSG
  go_wp2_with fail
  refine (HN1.out _).mono ?_
  rintro e w2 ⟨rfl,hE2⟩
  have HE2:=Lib.hid hE2
  clear hE2 HN1
  go_wp2_with fail
  refine (HN2.out _).mono ?_
  rintro e w3 ⟨rfl,hE3⟩
  have HE3:=Lib.hid (Ext.trans HE2.out hE3)
  clear hE3 HN2
 case' neg =>
  rw [if_neg hneg] at hN hD
  have hsg:¬ d.sign<0:=by rw [Int.sign_eq_one_of_pos (by omega)];omega
  obtain ⟨sg,hsgg⟩:∃ sg,sg=d.sign:=⟨_,rfl⟩
  rw [← hsgg] at HSG hsg
  rw [hD,eb] at HSG ⊢
  rw [← hN]
  clear hN hD hneg hsgg
  go_enter Tryz.func200,Tryz.ntmps200
  go_wp2_with fail
  refine HSG.out.mono ?_
  rintro e w' ⟨rfl,rfl⟩
  clear HSG
  have HE3:=Lib.hid (Ext.refl W1)
 all_goals
  by_cases hg1:g=1
  ·rw [decide_eq_true hg1] at hz
   have HQ:=Lib.hid (HG1.out hg1)
   clear hg1
   go_wp2_with fail
   refine (HGC.out _ (HE.out.trans HE3.out)).mono ?_
   rintro e w4 ⟨rfl,hE4⟩
   have HE4:=Lib.hid (Ext.trans HE3.out hE4)
   obtain ⟨t0,t1,tf⟩:=HC.out _ HE4.out
   have tf0:=tf 0;have tf1:=tf 1
   have hb5:=block2_set (a:=.string (intB N)) (b:=.string (numB D)) (block_ext HB1.out HE4.out)
   clear hE4 tf HGC
   go_wp2_with fail
   refine bodyPost_ret (results_cell_row (by rfl) _ _ w.heap.size 152 #[.string (intB N),.string (numB D)] (0,0) _ (by rfl) hb5 Tryz.underlying152 (by rfl) (by kernel_rfl)) (by rfl) ⟨by rw [HQ.out.1,HQ.out.2],?_⟩
   exact Below.setCell (Below.setCell (HE.out.trans HE4.out) (p:=⟨w.heap.size,0,none⟩) (Nat.le_refl _) _) (p:=⟨w.heap.size,1,none⟩) (Nat.le_refl _) _
  ·rw [decide_eq_false hg1] at hz
   clear hg1
   go_wp2_with fail
   refine (HGC.out _ (HE.out.trans HE3.out)).mono ?_
   rintro e w4 ⟨rfl,hE4⟩
   have HE4:=Lib.hid (Ext.trans HE3.out hE4)
   clear hE4 HGC
   go_wp2_with fail
   refine (HD1.out _ (HE.out.trans HE4.out)).mono ?_
   rintro e w5 ⟨rfl,hE5⟩
   have HE5:=Lib.hid (Ext.trans HE4.out hE5)
   clear hE5 HD1
   go_wp2_with fail
   refine (HD2.out _ (HE.out.trans HE5.out)).mono ?_
   rintro e w6 ⟨rfl,hE6⟩
   have HE6:=Lib.hid (Ext.trans HE5.out hE6)
   obtain ⟨t0,t1,tf⟩:=HC.out _ HE6.out
   have tf0:=tf 0;have tf1:=tf 1
   have hb5:=block2_set (a:=.string (intB FN)) (b:=.string (numB FD)) (block_ext HB1.out HE6.out)
   clear hE6 tf HD2
   go_wp2_with fail
   refine bodyPost_ret (results_cell_row (by rfl) _ _ w.heap.size 152 #[.string (intB FN),.string (numB FD)] (0,0) _ (by rfl) hb5 Tryz.underlying152 (by rfl) (by kernel_rfl)) (by rfl) ⟨rfl,?_⟩
   exact Below.setCell (Below.setCell (HE.out.trans HE6.out) (p:=⟨w.heap.size,0,none⟩) (Nat.le_refl _) _) (p:=⟨w.heap.size,1,none⟩) (Nat.le_refl _) _
theorem int9 {n:Int} (h:(intB n).size≤9):-1000000000<n∧n<1000000000:=by
 have h1:=natAbs_le n
 have h3:=Lib.lt_pow_nDigits n.natAbs
 rw [numB_size] at h1
 have h4:10^Lib.nDigits n.natAbs≤10^9:=Nat.pow_le_pow_right (by omega) (by omega)
 rw [show (10:Nat)^9=1000000000 by decide] at h4
 omega
set_option maxRecDepth 100000 in
set_option maxHeartbeats 400000 in
theorem flittle_yes (n:Int) (w:World) (hs:(intB n).size≤9) :
  Calls Tryz.prog 217 #[.string (intB n)] w fun e w'=>e=.returned (.tuple #[.int .i64 n,.bool true])∧Ext w w':=by
 have hb:=int9 hs
 have hs':¬ (9:Int)<((intB n).size:Int):=by omega
 have HA:=Lib.hid (atoi_int n w (by omega) (by omega) (by omega))
 go_enter Tryz.func217,Tryz.ntmps217
 go_wp2_with fail
 refine HA.out.mono ?_
 rintro e w1 ⟨rfl,hE1⟩
 have HE1:=Lib.hid hE1
 clear hE1 HA
 go_wp2_with fail
 go_quiet (fail)
 go_wp2_with fail
 go_ret2
 exact ⟨rfl,Ext.draws HE1.out _⟩
set_option maxRecDepth 100000 in
theorem flittle_no (n:Int) (w:World) (hs:9<(intB n).size) :
  Calls Tryz.prog 217 #[.string (intB n)] w fun e w'=>e=.returned (.tuple #[.int .i64 0,.bool false])∧Ext w w':=by
 have hs':(9:Int)<((intB n).size:Int):=by omega
 go_enter Tryz.func217,Tryz.ntmps217
 go_wp2_with fail
 go_ret2
 exact ⟨rfl,Ext.refl _⟩
set_option maxRecDepth 100000 in
set_option maxHeartbeats 1000000 in
theorem fboth_any (q:Rat) (w:World) :
  Calls Tryz.prog 198 #[ratV q] w fun e w'=>∃ a b,e=.returned (.tuple #[.int .i64 a,.int .i64 b,.bool (decide ((intB q.num).size≤9) && decide ((numB q.den).size≤9))])∧Hid ((intB q.num).size≤9∧(numB q.den).size≤9→a=q.num∧b=q.den)∧Ext w w':=by
 have hL1:∀ W,∃ a,Calls Tryz.prog 217 #[.string (intB q.num)] W fun e w'=>e=.returned (.tuple #[.int .i64 a,.bool (decide ((intB q.num).size≤9))])∧(Ext W w'∧((intB q.num).size≤9→a=q.num)):=by
  intro W
  by_cases h:(intB q.num).size≤9
  ·refine ⟨q.num,(flittle_yes q.num W h).mono fun e w' ⟨h1,h2⟩=>⟨?_,h2,fun _=>rfl⟩⟩
   rw [h1,decide_eq_true h]
  ·refine ⟨0,(flittle_no q.num W (by omega)).mono fun e w' ⟨h1,h2⟩=>⟨?_,h2,fun h'=>absurd h' h⟩⟩
   rw [h1,decide_eq_false h]
 have hL2:∀ W,∃ a,Calls Tryz.prog 217 #[.string (numB q.den)] W fun e w'=>e=.returned (.tuple #[.int .i64 a,.bool (decide ((numB q.den).size≤9))])∧(Ext W w'∧((numB q.den).size≤9→a=q.den)):=by
  intro W
  rw [← eb]
  by_cases h:(intB (q.den:Int)).size≤9
  ·refine ⟨q.den,(flittle_yes q.den W h).mono fun e w' ⟨h1,h2⟩=>⟨?_,h2,fun _=>rfl⟩⟩
   rw [h1,decide_eq_true h]
  ·refine ⟨0,(flittle_no q.den W (by omega)).mono fun e w' ⟨h1,h2⟩=>⟨?_,h2,fun h'=>absurd h' h⟩⟩
   rw [h1,decide_eq_false h]
 unfold ratV
 obtain ⟨n,hn⟩:∃ n,n=intB q.num:=⟨_,rfl⟩
 obtain ⟨d,hdd⟩:∃ d,d=numB q.den:=⟨_,rfl⟩
 rw [← hn] at hL1
 rw [← hdd] at hL2
 rw [← hn,← hdd]
 obtain ⟨b1,hb1⟩:∃ b,b=decide (n.size≤9):=⟨_,rfl⟩
 obtain ⟨b2,hb2⟩:∃ b,b=decide (d.size≤9):=⟨_,rfl⟩
 rw [← hb1] at hL1 ⊢
 rw [← hb2] at hL2 ⊢
 have HL1:=Lib.hid hL1;have HL2:=Lib.hid hL2
 clear hn hdd hL1 hL2 hb1 hb2
 obtain ⟨W1,hW1,hE1,hs1,hbb⟩:=box2 w (.string n) (.string d) 152
 obtain ⟨c0,c1,-⟩:=block2_cell hbb
 have HE1:=Lib.hid hE1
 have HC:Hid (∀ W,Ext W1 W→W.cell? ⟨w.heap.size,0,none⟩=some (.string n)∧W.cell? ⟨w.heap.size,1,none⟩=some (.string d)):=fun W hW=>⟨hW.cell c0,hW.cell c1⟩
 clear hE1 hs1 hbb
 go_enter Tryz.func198,Tryz.ntmps198
 go_wp2_with fail
 obtain ⟨a,hA⟩:=HL1.out W1
 refine hA.mono ?_
 rintro e w2 ⟨rfl,hx⟩
 have HX2:=Lib.hid hx
 obtain ⟨d0,d1⟩:=HC.out _ hx.1
 clear hA hx c0 c1
 go_wp2_with fail
 obtain ⟨b,hB⟩:=HL2.out w2
 refine hB.mono ?_
 rintro e w3 ⟨rfl,hx⟩
 have HX3:=Lib.hid hx
 clear hB hx d0 d1
 cases b1 <;> cases b2
 all_goals
  go_wp2_with fail
  go_ret3
  exact ⟨a,b,rfl,fun h=>⟨HX2.out.2 h.1,HX3.out.2 h.2⟩,(HE1.out.trans HX2.out.1).trans HX3.out.1⟩
end Go.Proofs.YtjlkkofmojgipaaGreatDoor
