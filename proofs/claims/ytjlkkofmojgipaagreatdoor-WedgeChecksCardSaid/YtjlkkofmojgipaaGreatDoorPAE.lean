import Derived.Test.YtjlkkofmojgipaaGreatDoorPAB
import Derived.Test.YtjlkkofmojgipaaGreatDoorPAD
import Derived.WalkLawsBesides
import Derived.WalkSmall
import Derived.Test.YtjlkkofmojgipaaGreatDoorPAC
import Derived.Lib.AppendIntMem
namespace Go.Proofs.YtjlkkofmojgipaaGreatDoor
set_option linter.unusedVariables false
set_option linter.unusedSimpArgs false
def fdq (x y:Int):Int:=if x.tmod y≠0∧decide (x.tmod y<0)≠decide (y<0) then x.tdiv y-1 else x.tdiv y
def fdr (x y:Int):Int:=if x.tmod y≠0∧decide (x.tmod y<0)≠decide (y<0) then x.tmod y+y else x.tmod y
theorem fd_eq (x y:Int):x=y*fdq x y+fdr x y:=by
 have h:y*x.tdiv y+x.tmod y=x:=by first | exact Int.mul_tdiv_add_tmod x y | (rw [Int.add_comm];exact Int.tmod_add_mul_tdiv x y)
 unfold fdq fdr
 split
 ·rw [Int.mul_sub,Int.mul_one];omega
 ·omega
theorem tmod_lt (x y:Int) (hy:y≠0):(x.tmod y).natAbs<y.natAbs:=by
 rw [Int.natAbs_tmod]
 exact Nat.mod_lt _ (by omega)
theorem tdiv_le (x y:Int):(x.tdiv y).natAbs≤x.natAbs:=by
 rw [Int.natAbs_tdiv];exact Nat.div_le_self _ _
theorem fdr_pos (x y:Int) (hy:0<y):0≤fdr x y∧fdr x y<y:=by
 have h:=tmod_lt x y (by omega)
 unfold fdr
 by_cases h0:x.tmod y=0
 ·rw [if_neg (by simp [h0])];omega
 ·by_cases h1:x.tmod y<0
  ·rw [if_pos ⟨h0,by rw [decide_eq_true h1,decide_eq_false (show ¬ y<0 by omega)];simp⟩];omega
  ·rw [if_neg (by rw [decide_eq_false h1,decide_eq_false (show ¬ y<0 by omega)];simp)];omega
theorem fdr_neg (x y:Int) (hy:y<0):y<fdr x y∧fdr x y≤0:=by
 have h:=tmod_lt x y (by omega)
 unfold fdr
 by_cases h0:x.tmod y=0
 ·rw [if_neg (by simp [h0])];omega
 ·by_cases h1:x.tmod y<0
  ·rw [if_neg (by rw [decide_eq_true h1,decide_eq_true hy];simp)];omega
  ·rw [if_pos ⟨h0,by rw [decide_eq_false h1,decide_eq_true hy];simp⟩];omega
theorem fdq_bd (x y:Int):(fdq x y).natAbs≤x.natAbs+1:=by
 have:=tdiv_le x y
 unfold fdq;split <;> omega
theorem tdiv_cast (u v:Nat):(u:Int).tdiv (v:Int)=((u / v:Nat):Int):=by
 rw [Int.tdiv_eq_ediv_of_nonneg (by omega)];exact (Int.natCast_ediv _ _).symm
theorem tmod_cast (u v:Nat):(u:Int).tmod (v:Int)=((u%v:Nat):Int):=by
 rw [Int.tmod_eq_emod_of_nonneg (by omega)];exact (Int.natCast_emod _ _).symm
def sgn (b:Bool) (u:Nat):Int:=if b then -(u:Int) else u
theorem sgn_self (n:Int):sgn (decide (n<0)) n.natAbs=n:=by
 unfold sgn
 by_cases h:n<0
 ·rw [decide_eq_true h,if_pos rfl];omega
 ·rw [decide_eq_false h,if_neg Bool.false_ne_true];omega
theorem sgn_false (u:Nat):sgn false u=u:=rfl
theorem sgn_true (u:Nat):sgn true u=-(u:Int):=rfl
theorem sgn_eq {p:Bool} {x:Int} (h:p=decide (x<0)):x=sgn p x.natAbs:=by rw [h,sgn_self]
theorem fd_abs (x y:Int) (hy:y≠0) {p q:Bool} (hp:p=decide (x<0)) (hq:q=decide (y<0)) :
  fdq x y=sgn (p != q) (if (p != q)=true∧x.natAbs%y.natAbs≠0 then x.natAbs / y.natAbs+1 else x.natAbs / y.natAbs) ∧
  fdr x y=sgn q (if (p != q)=true∧x.natAbs%y.natAbs≠0 then y.natAbs-x.natAbs%y.natAbs else x.natAbs%y.natAbs):=by
 have ex:=sgn_eq hp
 have ey:=sgn_eq hq
 have hv:0<y.natAbs:=by omega
 have hyn:y<0↔q=true:=by rw [hq];simp
 generalize x.natAbs=u at *
 generalize y.natAbs=v at *
 have hr:=Nat.mod_lt u hv
 unfold fdq fdr
 have hyd:decide (y<0)=q:=hq.symm
 rw [hyd]
 cases p <;> cases q
 all_goals
  simp only [sgn_false,sgn_true] at ex ey
  subst ex
  subst ey
 ·rw [tdiv_cast,tmod_cast]
  generalize u%v=R at *
  generalize u / v=Q at *
  have h1:decide ((R:Int)<0)=false:=decide_eq_false (by omega)
  simp [h1,sgn]
 ·rw [Int.tdiv_neg,Int.tmod_neg,tdiv_cast,tmod_cast]
  generalize u%v=R at *
  generalize u / v=Q at *
  have h1:decide ((R:Int)<0)=false:=decide_eq_false (by omega)
  rw [h1]
  by_cases h0:R=0
  ·simp [h0,sgn]
  ·simp [h0,sgn];omega
 ·rw [Int.neg_tdiv,Int.neg_tmod,tdiv_cast,tmod_cast]
  generalize u%v=R at *
  generalize u / v=Q at *
  by_cases h0:R=0
  ·simp [h0,sgn]
  ·have h1:decide (-(R:Int)<0)=true:=decide_eq_true (by omega)
   rw [h1]
   simp [h0,sgn];omega
 ·rw [Int.neg_tdiv,Int.neg_tmod,Int.tdiv_neg,Int.tmod_neg,tdiv_cast,tmod_cast]
  generalize u%v=R at *
  generalize u / v=Q at *
  by_cases h0:R=0
  ·simp [h0,sgn]
  ·have h1:decide (-(R:Int)<0)=true:=decide_eq_true (by omega)
   rw [h1]
   simp [h0,sgn]
end Go.Proofs.YtjlkkofmojgipaaGreatDoor
namespace Go.Proofs.YtjlkkofmojgipaaGreatDoor
set_option linter.unusedVariables false
set_option linter.unusedSimpArgs false
open Go.RowKit
def Sm (n:Int):Prop:=-100000000000000000<n∧n<100000000000000000
theorem Sm.of {n:Int} {b:Int} (h1:-b≤n) (h2:n≤b) (hb:b<100000000000000000):Sm n:=⟨by omega,by omega⟩
theorem pow17:(10:Nat)^17=100000000000000000:=by decide
theorem intB_size_pos (n:Int):1≤(intB n).size:=by
 rw [Lib.size_eq,intB_data]
 exact List.length_pos_iff.2 (itoa_canon n).2.2.2
theorem intB_size_neg (n:Int) (h:n<0):(intB n).size=(numB n.natAbs).size+1:=by
 rw [Lib.size_eq,intB_neg n h,Lib.size_eq];rfl
theorem Sm.size {n:Int} (h:Sm n):(intB n).size≤18:=by
 by_cases h0:n<0
 ·rw [intB_size_neg n h0]
  have:=numB_size_le n.natAbs 17 (by rw [pow17];have:=h.1;omega) (by omega)
  omega
 ·rw [intB_pos n (by omega)]
  have:=numB_size_le n.toNat 17 (by rw [pow17];have:=h.2;omega) (by omega)
  omega
theorem neg_head (n:Int) (h:n<0) (hp:0<(intB n).size):(((intB n)[0].toNat:Int) == 45)=true:=by
 have hb:=bytes_get (intB n) 0 hp
 rw [intB_neg n h] at hb
 simp only [List.getElem?_cons_zero,Option.some.injEq] at hb
 rw [← hb];rfl
theorem dig_head (s:ByteArray) (u:Nat) (hs:s=numB u) (hp:0<s.size):((s[0].toNat:Int) == 45)=false:=by
 subst hs
 have hb:=bytes_get (numB u) 0 hp
 rw [numB_data] at hb
 have hd:=List.all_eq_true.1 (digits_all u) _ (List.mem_of_getElem? hb)
 have hc:48≤(numB u)[0].toNat∧(numB u)[0].toNat≤57:=of_decide_eq_true hd
 rw [beq_eq_false_iff_ne];omega
theorem neg_tail (n:Int) (h:n<0):(intB n).extract 1 (intB n).size=numB n.natAbs:=by
 apply bytes_ext
 rw [Lib.extract_data,intB_neg n h,List.drop_succ_cons,List.drop_zero]
 refine List.take_of_length_le ?_
 have:=intB_size_neg n h
 rw [← Lib.size_eq];omega
theorem int_zero (n:Int):((intB n).toList == [48])=decide (n=0):=by
 rw [intB_list,show ([48]:List UInt8)=Lib.itoa 0 by unfold Lib.itoa;rw [if_neg (by omega),Lib.decDigits_one (by decide)];rfl,itoa_eq]
set_option maxRecDepth 100000 in
set_option maxHeartbeats 400000 in
theorem split_q (n:Int) (w:World) :
  Calls Tryz.prog 74 #[.string (intB n)] w fun e w'=>e=.returned (.tuple #[.bool (decide (n<0)),.string (numB n.natAbs)])∧∃ k,w'=w.drewN k:=by
 have hp:=intB_size_pos n
 have hp':(0:Int)<((intB n).size:Int):=by omega
 have hp0:0<(intB n).size:=hp
 by_cases h:n<0
 ·have q:=neg_head n h hp0
  have t:=neg_tail n h
  have HD:Hid (decide (n<0)=true):=decide_eq_true h
  obtain ⟨m,hm⟩:∃ m,m=numB n.natAbs:=⟨_,rfl⟩
  rw [← hm] at t ⊢
  rw [HD.out]
  clear h hm HD
  go_enter Tryz.func74,Tryz.ntmps74
  go_wp2_with fail
  go_quiet (fail)
  go_wp2_with fail
  go_ret2
  exact ⟨rfl,_,rfl⟩
 ·have q:=dig_head (intB n) n.toNat (intB_pos n (by omega)) hp0
  have HD:Hid (decide (n<0)=false):=decide_eq_false h
  have HM:Hid (numB n.natAbs=intB n):=by unfold Hid;rw [intB_pos n (by omega)];congr 1;omega
  rw [HD.out,HM.out]
  clear h HD HM
  go_enter Tryz.func74,Tryz.ntmps74
  go_wp2_with fail
  go_ret2
  exact ⟨rfl,0,rfl⟩
theorem split_any (n:Int) (w:World) :
  Calls Tryz.prog 74 #[.string (intB n)] w fun e w'=>e=.returned (.tuple #[.bool (decide (n<0)),.string (numB n.natAbs)])∧Ext w w' :=
 (split_q n w).mono fun _ _ ⟨h,k,hw⟩=>⟨h,hw▸Ext.drewN _ _⟩
set_option maxRecDepth 100000 in
set_option maxHeartbeats 400000 in
theorem join_any (b:Bool) (u:Nat) (w:World) (hu:(numB u).size≤10000000000) :
  Calls Tryz.prog 75 #[.bool b,.string (numB u)] w fun e w'=>e=.returned (.string (intB (sgn b u)))∧w=w':=by
 have hz:=num_zero u
 have z1:¬ 9223372036854775807<1+(numB u).size:=by omega
 cases b with
 | false =>
  have HR:Hid (intB (sgn false u)=numB u):=by unfold Hid sgn;rw [if_neg Bool.false_ne_true,intB_pos _ (by omega)];congr 1
  rw [HR.out]
  clear HR hz
  go_enter Tryz.func75,Tryz.ntmps75
  go_wp2_with fail
  go_ret
  exact ⟨rfl,rfl⟩
 | true =>
  by_cases h0:u=0
  ·rw [decide_eq_true h0] at hz
   have HR:Hid (intB (sgn true u)=numB u):=by unfold Hid sgn;rw [if_pos rfl,intB_pos _ (by omega)];congr 1;omega
   rw [HR.out]
   clear HR h0
   go_enter Tryz.func75,Tryz.ntmps75
   go_wp2_with fail
   go_ret
   exact ⟨rfl,rfl⟩
  ·rw [decide_eq_false h0] at hz
   have HR:Hid ((intB (sgn true u)).data=#[45]++(numB u).data):=by
    unfold Hid sgn;rw [if_pos rfl]
    apply Array.toList_inj.1
    rw [intB_neg _ (by omega)]
    simp
   clear h0
   go_enter Tryz.func75,Tryz.ntmps75
   go_wp2_with fail
   go_ret
   exact ⟨ret_str (by rw [HR.out];simp),rfl⟩
set_option maxRecDepth 100000 in
set_option maxHeartbeats 400000 in
theorem sign_any (n:Int) (w:World) :
  Calls Tryz.prog 93 #[.string (intB n)] w fun e w'=>e=.returned (.int .i64 n.sign)∧w=w':=by
 have hp0:0<(intB n).size:=intB_size_pos n
 have hz:=int_zero n
 by_cases h0:n=0
 ·rw [decide_eq_true h0] at hz
  have HR:Hid (n.sign=0):=by unfold Hid;rw [h0];rfl
  rw [HR.out]
  clear h0 HR
  go_enter Tryz.func93,Tryz.ntmps93
  go_wp2_with fail
  go_ret
  exact ⟨rfl,rfl⟩
 ·rw [decide_eq_false h0] at hz
  by_cases h:n<0
  ·have q:=neg_head n h hp0
   have HR:Hid (n.sign=-1):=Int.sign_eq_neg_one_of_neg h
   rw [HR.out]
   clear h0 h HR
   go_enter Tryz.func93,Tryz.ntmps93
   go_wp2_with fail
   go_ret
   exact ⟨rfl,rfl⟩
  ·have q:=dig_head (intB n) n.toNat (intB_pos n (by omega)) hp0
   have HR:Hid (n.sign=1):=Int.sign_eq_one_of_pos (by omega)
   rw [HR.out]
   clear h0 h HR
   go_enter Tryz.func93,Tryz.ntmps93
   go_wp2_with fail
   go_ret
   exact ⟨rfl,rfl⟩
set_option maxRecDepth 100000 in
set_option maxHeartbeats 400000 in
theorem neg_any (n:Int) (w:World) (hs:(intB n).size≤10000000000) :
  Calls Tryz.prog 29 #[.string (intB n)] w fun e w'=>e=.returned (.string (intB (-n)))∧Ext w w':=by
 have hu:(numB n.natAbs).size≤10000000000:=by
  by_cases h:n<0
  ·have:=intB_size_neg n h;omega
  ·rw [intB_pos n (by omega)] at hs;rw [show n.natAbs=n.toNat by omega];exact hs
 have H1:=Lib.hid (split_any n w)
 have H2:Hid (∀ W,Calls Tryz.prog 75 #[.bool (!decide (n<0)),.string (numB n.natAbs)] W fun e w'=>e=.returned (.string (intB (sgn (!decide (n<0)) n.natAbs)))∧W=w'):=fun W=>join_any (!decide (n<0)) n.natAbs W hu
 have HR:Hid (intB (sgn (!decide (n<0)) n.natAbs)=intB (-n)):=by
  unfold Hid;congr 1;unfold sgn
  by_cases h:n<0
  ·rw [decide_eq_true h];simp;omega
  ·rw [decide_eq_false h];simp;omega
 rw [HR.out] at H2
 obtain ⟨b,hb⟩:∃ b,b=decide (n<0):=⟨_,rfl⟩
 rw [← hb] at H1 H2
 clear hb HR
 go_enter Tryz.func29,Tryz.ntmps29
 go_wp2_with fail
 refine H1.out.mono ?_
 rintro e w1 ⟨rfl,hE1⟩
 have HE1:=Lib.hid hE1
 clear H1 hE1
 go_wp2_with fail
 refine (H2.out _).mono ?_
 rintro e w' ⟨rfl,rfl⟩
 clear H2
 go_wp2_with fail
 go_ret
 exact ⟨rfl,HE1.out⟩
set_option maxRecDepth 100000 in
set_option maxHeartbeats 400000 in
theorem abs_q (n:Int) (w:World) :
  Calls Tryz.prog 152 #[.string (intB n)] w fun e w'=>e=.returned (.string (intB (n.natAbs:Int)))∧∃ k,w'=w.drewN k:=by
 have H1:=Lib.hid (split_q n w)
 have HR:Hid (intB (n.natAbs:Int)=numB n.natAbs):=by unfold Hid;rw [intB_pos _ (by omega)];congr 1
 rw [HR.out]
 clear HR
 go_enter Tryz.func152,Tryz.ntmps152
 go_wp2_with fail
 refine H1.out.mono ?_
 rintro e w1 ⟨rfl,k,rfl⟩
 clear H1
 go_wp2_with fail
 go_ret
 exact ⟨rfl,_,rfl⟩
theorem abs_any (n:Int) (w:World) :
  Calls Tryz.prog 152 #[.string (intB n)] w fun e w'=>e=.returned (.string (intB (n.natAbs:Int)))∧Ext w w' :=
 (abs_q n w).mono fun _ _ ⟨h,k,hw⟩=>⟨h,hw▸Ext.drewN _ _⟩
theorem intB_canon (n:Int):canonS (intB n).data.toList=true∧numS (intB n).data.toList=n:=by
 rw [intB_data];exact ⟨(itoa_canon n).1,(itoa_canon n).2.1⟩
theorem atoi_int (n:Int) (w:World) (h1:-9223372036854775808≤n) (h2:n≤9223372036854775807) (hs:(intB n).size≤10000000000) :
  Calls Tryz.prog 166 #[.string (intB n)] w fun e w'=>e=.returned (.tuple #[.int .i64 n,.nilIface])∧Ext w w' :=
 (Tryz.strconv_Atoi_ok (intB n) (by omega) n (by
  have:=atoi_canon_ok (intB_canon n).1 (by rw [(intB_canon n).2];exact ⟨h1,h2⟩)
  rw [(intB_canon n).2] at this
  exact this) w).mono fun e w' ⟨h1,h2⟩=>⟨h1,by
  rcases h2 with rfl | ⟨t,rfl⟩
  ·exact Ext.refl _
  ·exact ⟨rfl,rfl,rfl,by rw [Lib.bytesWorld_size];omega,fun j hj=>Lib.bytesWorld_at_old w _ t j hj⟩⟩
theorem itoa_int (n:Int) (w:World) (h1:-9223372036854775808≤n) (h2:n≤9223372036854775807) (ht:Pow10 w) :
  Calls Tryz.prog 124 #[.int .i64 n] w fun e w'=>e=.returned (.string (intB n))∧Ext w w' :=
 (Tryz.strconv_Itoa n h1 h2 w ht).mono fun e w' ⟨h,kk,os,hw⟩=>⟨h,by rw [hw];exact Lib.below_grow _ w (Nat.le_refl _) kk os⟩
set_option maxRecDepth 100000 in
set_option maxHeartbeats 400000 in
theorem little_yes (n:Int) (k:Nat) (w:World) (h1:-9223372036854775808≤n) (h2:n≤9223372036854775807) (hs:(intB n).size≤k) (hk:k≤1000) :
  Calls Tryz.prog 119 #[.string (intB n),.int .i64 k] w fun e w'=>e=.returned (.tuple #[.int .i64 n,.bool true])∧Ext w w':=by
 have hs':¬ (k:Int)<((intB n).size:Int):=by omega
 have HA:=Lib.hid (atoi_int n w h1 h2 (by omega))
 go_enter Tryz.func119,Tryz.ntmps119
 go_wp2_with fail
 refine HA.out.mono ?_
 rintro e w1 ⟨rfl,hE1⟩
 have HE1:=Lib.hid hE1
 clear hE1 HA
 go_wp2_with fail
 go_quiet (fail)
 go_wp2_with fail
 go_ret2
 exact ⟨rfl,Ext.draws HE1.out _⟩
set_option maxRecDepth 100000 in
theorem little_no (n:Int) (k:Nat) (w:World) (hs:k<(intB n).size) :
  Calls Tryz.prog 119 #[.string (intB n),.int .i64 k] w fun e w'=>e=.returned (.tuple #[.int .i64 0,.bool false])∧w=w':=by
 have hs':(k:Int)<((intB n).size:Int):=by omega
 go_enter Tryz.func119,Tryz.ntmps119
 go_wp2_with fail
 go_ret2
 exact ⟨rfl,rfl⟩
set_option maxRecDepth 100000 in
theorem of_any (n:Int) (w:World) (h1:-9223372036854775808≤n) (h2:n≤9223372036854775807) (ht:Pow10 w) :
  Calls Tryz.prog 64 #[.int .i64 n] w fun e w'=>e=.returned (.string (intB n))∧Ext w w':=by
 have HA:=Lib.hid (itoa_int n w h1 h2 ht)
 clear ht
 go_enter Tryz.func64,Tryz.ntmps64
 go_wp2_with fail
 refine HA.out.mono ?_
 rintro e w1 ⟨rfl,hE1⟩
 have HE1:=Lib.hid hE1
 clear hE1 HA
 go_wp2_with fail
 go_ret
 exact ⟨rfl,HE1.out⟩
theorem mul_bd {a b A B:Int} (h1:-A<a) (h2:a<A) (h3:-B<b) (h4:b<B) (hA:0≤A) (hB:0≤B):-(A*B)≤a*b∧a*b≤A*B:=by
 have k1:a.natAbs≤A.natAbs:=by omega
 have k2:b.natAbs≤B.natAbs:=by omega
 have k3:(a*b).natAbs≤A.natAbs*B.natAbs:=by rw [Int.natAbs_mul];exact Nat.mul_le_mul k1 k2
 have k4:A.natAbs*B.natAbs=(A*B).natAbs:=(Int.natAbs_mul A B).symm
 have k5:0≤A*B:=Int.mul_nonneg hA hB
 omega
theorem natAbs_le (n:Int):(numB n.natAbs).size≤(intB n).size:=by
 by_cases h:n<0
 ·have:=intB_size_neg n h;omega
 ·rw [intB_pos n (by omega),show n.natAbs=n.toNat by omega];exact Nat.le_refl _
theorem intB_size_le (n:Int):(intB n).size≤(numB n.natAbs).size+1:=by
 by_cases h:n<0
 ·rw [intB_size_neg n h];exact Nat.le_refl _
 ·rw [intB_pos n (by omega),show n.natAbs=n.toNat by omega];omega
theorem int_small {n:Int} (h:(intB n).size≤18):-1000000000000000000<n∧n<1000000000000000000:=by
 have:=num_small (u:=n.natAbs) (by have:=natAbs_le n;omega)
 omega
set_option maxRecDepth 100000 in
set_option maxHeartbeats 4000000 in
theorem addI_any (x y:Int) (w:World) (hx:(intB x).size≤2900000000) (hy:(intB y).size≤2900000000) (ht:Pow10 w) :
  Calls Tryz.prog 61 #[.string (intB x),.string (intB y)] w fun e w'=>e=.returned (.string (intB (x+y)))∧Ext w w':=by
 have HT:=Lib.hid ht
 clear ht
 by_cases hs:(intB x).size≤18∧(intB y).size≤18
 ·obtain ⟨hx1,hx2⟩:=int_small hs.1
  obtain ⟨hy1,hy2⟩:=int_small hs.2
  have H1:=Lib.hid (little_yes x 18 w (by omega) (by omega) hs.1 (by omega))
  have H2:Hid (∀ W,Calls Tryz.prog 119 #[.string (intB y),.int .i64 18] W fun e w'=>e=.returned (.tuple #[.int .i64 y,.bool true])∧Ext W w'):=fun W=>little_yes y 18 W (by omega) (by omega) hs.2 (by omega)
  have H3:Hid (∀ W,Ext w W→Calls Tryz.prog 64 #[.int .i64 (x+y)] W fun e w'=>e=.returned (.string (intB (x+y)))∧Ext W w'):=fun W hE=>of_any (x+y) W (by omega) (by omega) (HT.out.ext hE)
  clear hs
  go_enter Tryz.func61,Tryz.ntmps61
  go_wp2_with fail
  refine H1.out.mono ?_
  rintro e w1 ⟨rfl,hE1⟩
  have HE1:=Lib.hid hE1
  clear hE1 H1
  go_wp2_with fail
  refine (H2.out _).mono ?_
  rintro e w2 ⟨rfl,hE2⟩
  have HE2:=Lib.hid (Ext.trans HE1.out hE2)
  clear hE2 H2
  go_wp2_with fail
  refine (H3.out _ HE2.out).mono ?_
  rintro e w3 ⟨rfl,hE3⟩
  have HE3:=Lib.hid (Ext.trans HE2.out hE3)
  clear hE3 H3
  go_wp2_with fail
  go_ret
  exact ⟨rfl,HE3.out⟩
 ·have hax:=natAbs_le x
  have hay:=natAbs_le y
  have HS1:Hid (∀ W,Calls Tryz.prog 74 #[.string (intB x)] W fun e w'=>e=.returned (.tuple #[.bool (decide (x<0)),.string (numB x.natAbs)])∧Ext W w'):=fun W=>split_any x W
  have HS2:Hid (∀ W,Calls Tryz.prog 74 #[.string (intB y)] W fun e w'=>e=.returned (.tuple #[.bool (decide (y<0)),.string (numB y.natAbs)])∧Ext W w'):=fun W=>split_any y W
  obtain ⟨u,hu⟩:∃ u,u=x.natAbs:=⟨_,rfl⟩
  obtain ⟨v,hv⟩:∃ v,v=y.natAbs:=⟨_,rfl⟩
  rw [← hu] at HS1 hax
  rw [← hv] at HS2 hay
  have HADD:Hid (∀ W,Ext w W→Calls Tryz.prog 120 #[.string (numB u),.string (numB v)] W fun e w'=>e=.returned (.string (numB (u+v)))∧Ext W w'):=fun W hE=>decAdd_any u v W (by omega) (by omega) (HT.out.ext hE)
  have HCMP:Hid (∀ W,Calls Tryz.prog 121 #[.string (numB u),.string (numB v)] W fun e w'=>e=.returned (.int .i64 (cmpN u v))∧W=w'):=fun W=>decCompare_any u v W (by omega) (by omega)
  have HSUB1:Hid (v≤u→∀ W,Ext w W→Calls Tryz.prog 122 #[.string (numB u),.string (numB v)] W fun e w'=>e=.returned (.tuple #[.string (numB (u-v)),.int .i64 0])∧Ext W w'):=fun hle W hE=>decSub_any u v W (by omega) (by omega) hle (HT.out.ext hE)
  have HSUB2:Hid (u≤v→∀ W,Ext w W→Calls Tryz.prog 122 #[.string (numB v),.string (numB u)] W fun e w'=>e=.returned (.tuple #[.string (numB (v-u)),.int .i64 0])∧Ext W w'):=fun hle W hE=>decSub_any v u W (by omega) (by omega) hle (HT.out.ext hE)
  have hsum:=num_add_size u v
  have HJ:Hid (∀ (b:Bool) (n:Nat),n≤u+v→∀ W,Calls Tryz.prog 75 #[.bool b,.string (numB n)] W fun e w'=>e=.returned (.string (intB (sgn b n)))∧W=w'):=fun b n hn W=>join_any b n W (by have:=num_le_mono hn;omega)
  have HUV:Hid (u=x.natAbs∧v=y.natAbs):=⟨hu,hv⟩
  have hcase:((intB x).size≤18∧18<(intB y).size)∨18<(intB x).size:=by omega
  have HX:Hid ((intB x).size≤18→-1000000000000000000<x∧x<1000000000000000000):=fun h=>int_small h
  obtain ⟨p,hp⟩:∃ p,p=decide (x<0):=⟨_,rfl⟩
  obtain ⟨q,hq⟩:∃ q,q=decide (y<0):=⟨_,rfl⟩
  rw [← hp] at HS1
  rw [← hq] at HS2
  have HPQ:Hid (x=sgn p u∧y=sgn q v):=by
   unfold Hid;rw [hp,hq,hu,hv,sgn_self,sgn_self];exact ⟨rfl,rfl⟩
  clear hu hv hs hax hay hsum hp hq
  rcases hcase with ⟨hs1,hs2⟩ | hs1
  case' inl =>
   have H1:=Lib.hid (little_yes x 18 w (by have:=HX.out hs1;omega) (by have:=HX.out hs1;omega) hs1 (by omega))
   have H2:Hid (∀ W,Calls Tryz.prog 119 #[.string (intB y),.int .i64 18] W fun e w'=>e=.returned (.tuple #[.int .i64 0,.bool false])∧W=w'):=fun W=>little_no y 18 W hs2
   clear hs1 hs2
   go_enter Tryz.func61,Tryz.ntmps61
   go_wp2_with fail
   refine H1.out.mono ?_
   rintro e w1 ⟨rfl,hE1⟩
   have HE1:=Lib.hid hE1
   clear hE1 H1
   go_wp2_with fail
   refine (H2.out _).mono ?_
   rintro e w' ⟨rfl,rfl⟩
   clear H2
  case' inr =>
   have H1:Hid (∀ W,Calls Tryz.prog 119 #[.string (intB x),.int .i64 18] W fun e w'=>e=.returned (.tuple #[.int .i64 0,.bool false])∧W=w'):=fun W=>little_no x 18 W hs1
   clear hs1
   go_enter Tryz.func61,Tryz.ntmps61
   go_wp2_with fail
   refine (H1.out _).mono ?_
   rintro e w' ⟨rfl,rfl⟩
   have HE1:=Lib.hid (Ext.refl w)
   clear H1
  all_goals
   go_wp2_with fail
   refine (HS1.out _).mono ?_
   rintro e w2 ⟨rfl,hE2⟩
   have HE2:=Lib.hid (Ext.trans HE1.out hE2)
   clear hE2 HS1
   go_wp2_with fail
   refine (HS2.out _).mono ?_
   rintro e w3 ⟨rfl,hE3⟩
   have HE3:=Lib.hid (Ext.trans HE2.out hE3)
   clear hE3 HS2
   by_cases hpq:p=q
   ·have hb:(p == q)=true:=by simp [hpq]
    have HR:Hid (sgn p (u+v)=x+y):=by
     unfold Hid;rw [HPQ.out.1,HPQ.out.2,hpq]
     cases q <;> simp only [sgn_false,sgn_true] <;> omega
    have HJ1:=Lib.hid (HJ.out p (u+v) (Nat.le_refl _))
    rw [HR.out] at HJ1
    clear hpq
    go_wp2_with fail
    refine (HADD.out _ HE3.out).mono ?_
    rintro e w4 ⟨rfl,hE4⟩
    have HE4:=Lib.hid (Ext.trans HE3.out hE4)
    clear hE4
    go_wp2_with fail
    refine (HJ1.out _).mono ?_
    rintro e w' ⟨rfl,rfl⟩
    clear HJ1
    go_wp2_with fail
    go_ret
    exact ⟨rfl,HE4.out⟩
   ·have hb:(p == q)=false:=by simpa using hpq
    obtain ⟨cm,hcm⟩:∃ cm,cm=cmpN u v:=⟨_,rfl⟩
    rw [← hcm] at HCMP
    by_cases huv:u<v
    ·have hcl:cm<0:=by rw [hcm,cmpN_lt huv];omega
     have HR:Hid (sgn q (v-u)=x+y):=by
      unfold Hid;rw [HPQ.out.1,HPQ.out.2]
      revert hpq
      cases p <;> cases q <;> simp only [sgn_false,sgn_true] <;> intro h <;> first | omega | exact absurd trivial h
     have HJ1:=Lib.hid (HJ.out q (v-u) (by omega))
     rw [HR.out] at HJ1
     have HSB:=Lib.hid (HSUB2.out (by omega))
     clear hpq hcm huv HSUB1 HSUB2
     go_wp2_with fail
     refine (HCMP.out _).mono ?_
     rintro e w' ⟨rfl,rfl⟩
     clear HCMP
     go_wp2_with fail
     refine (HSB.out _ HE3.out).mono ?_
     rintro e w4 ⟨rfl,hE4⟩
     have HE4:=Lib.hid (Ext.trans HE3.out hE4)
     clear hE4 HSB
     go_wp2_with fail
     refine (HJ1.out _).mono ?_
     rintro e w' ⟨rfl,rfl⟩
     clear HJ1
     go_wp2_with fail
     go_ret
     exact ⟨rfl,HE4.out⟩
    ·have hcl:¬ cm<0:=by rw [hcm];unfold cmpN;rw [if_neg huv];split <;> omega
     have HR:Hid (sgn p (u-v)=x+y):=by
      unfold Hid;rw [HPQ.out.1,HPQ.out.2]
      revert hpq
      cases p <;> cases q <;> simp only [sgn_false,sgn_true] <;> intro h <;> first | omega | exact absurd trivial h
     have HJ1:=Lib.hid (HJ.out p (u-v) (by omega))
     rw [HR.out] at HJ1
     have HSB:=Lib.hid (HSUB1.out (by omega))
     clear hpq hcm huv HSUB1 HSUB2
     go_wp2_with fail
     refine (HCMP.out _).mono ?_
     rintro e w' ⟨rfl,rfl⟩
     clear HCMP
     go_wp2_with fail
     refine (HSB.out _ HE3.out).mono ?_
     rintro e w4 ⟨rfl,hE4⟩
     have HE4:=Lib.hid (Ext.trans HE3.out hE4)
     clear hE4 HSB
     go_wp2_with fail
     refine (HJ1.out _).mono ?_
     rintro e w' ⟨rfl,rfl⟩
     clear HJ1
     go_wp2_with fail
     go_ret
     exact ⟨rfl,HE4.out⟩
set_option maxRecDepth 100000 in
set_option maxHeartbeats 4000000 in
theorem mulI_any (x y:Int) (w:World) (hx:(intB x).size≤2900000000) (hy:(intB y).size≤2900000000) (ht:Pow10 w) :
  Calls Tryz.prog 63 #[.string (intB x),.string (intB y)] w fun e w'=>e=.returned (.string (intB (x*y)))∧Ext w w':=by
 have HT:=Lib.hid ht
 clear ht
 by_cases hs:(intB x).size≤9∧(intB y).size≤9
 ·have hb:∀ {n:Int},(intB n).size≤9→-1000000000<n∧n<1000000000:=by
   intro n h
   have h1:=natAbs_le n
   have h2:n.natAbs<1000000000:=by
    have h3:=Lib.lt_pow_nDigits n.natAbs
    rw [numB_size] at h1
    have h4:10^Lib.nDigits n.natAbs≤10^9:=Nat.pow_le_pow_right (by omega) (by omega)
    rw [show (10:Nat)^9=1000000000 by decide] at h4
    omega
   omega
  obtain ⟨hx1,hx2⟩:=hb hs.1
  obtain ⟨hy1,hy2⟩:=hb hs.2
  have hm:=mul_bd hx1 hx2 hy1 hy2 (by omega) (by omega)
  obtain ⟨m,hmm⟩:∃ m,m=x*y:=⟨_,rfl⟩
  rw [← hmm] at hm ⊢
  have hmi:x*y=m:=hmm.symm
  have H1:=Lib.hid (little_yes x 9 w (by omega) (by omega) hs.1 (by omega))
  have H2:Hid (∀ W,Calls Tryz.prog 119 #[.string (intB y),.int .i64 9] W fun e w'=>e=.returned (.tuple #[.int .i64 y,.bool true])∧Ext W w'):=fun W=>little_yes y 9 W (by omega) (by omega) hs.2 (by omega)
  have hm1:-1000000000000000000≤m:=by omega
  have hm2:m≤1000000000000000000:=by omega
  have H3:Hid (∀ W,Ext w W→Calls Tryz.prog 64 #[.int .i64 m] W fun e w'=>e=.returned (.string (intB m))∧Ext W w'):=fun W hE=>of_any m W (by omega) (by omega) (HT.out.ext hE)
  clear hs hb hm hmm
  go_enter Tryz.func63,Tryz.ntmps63
  go_wp2_with fail
  refine H1.out.mono ?_
  rintro e w1 ⟨rfl,hE1⟩
  have HE1:=Lib.hid hE1
  clear hE1 H1
  go_wp2_with fail
  refine (H2.out _).mono ?_
  rintro e w2 ⟨rfl,hE2⟩
  have HE2:=Lib.hid (Ext.trans HE1.out hE2)
  clear hE2 H2
  go_wp2_with fail
  refine (H3.out _ HE2.out).mono ?_
  rintro e w3 ⟨rfl,hE3⟩
  have HE3:=Lib.hid (Ext.trans HE2.out hE3)
  clear hE3 H3
  go_wp2_with fail
  go_ret
  exact ⟨rfl,HE3.out⟩
 ·have hax:=natAbs_le x
  have hay:=natAbs_le y
  have HS1:Hid (∀ W,Calls Tryz.prog 74 #[.string (intB x)] W fun e w'=>e=.returned (.tuple #[.bool (decide (x<0)),.string (numB x.natAbs)])∧Ext W w'):=fun W=>split_any x W
  have HS2:Hid (∀ W,Calls Tryz.prog 74 #[.string (intB y)] W fun e w'=>e=.returned (.tuple #[.bool (decide (y<0)),.string (numB y.natAbs)])∧Ext W w'):=fun W=>split_any y W
  obtain ⟨u,hu⟩:∃ u,u=x.natAbs:=⟨_,rfl⟩
  obtain ⟨v,hv⟩:∃ v,v=y.natAbs:=⟨_,rfl⟩
  rw [← hu] at HS1 hax
  rw [← hv] at HS2 hay
  have HMUL:Hid (∀ W,Ext w W→Calls Tryz.prog 123 #[.string (numB u),.string (numB v)] W fun e w'=>e=.returned (.string (numB (u*v)))∧Ext W w'):=fun W hE=>decMul_any u v W (by omega) (by omega) (HT.out.ext hE)
  have hprod:=num_mul_size u v
  obtain ⟨p,hp⟩:∃ p,p=decide (x<0):=⟨_,rfl⟩
  obtain ⟨q,hq⟩:∃ q,q=decide (y<0):=⟨_,rfl⟩
  rw [← hp] at HS1
  rw [← hq] at HS2
  have hR:sgn (p != q) (u*v)=x*y:=by
   have e1:x=sgn p u:=by rw [hp,hu,sgn_self]
   have e2:y=sgn q v:=by rw [hq,hv,sgn_self]
   rw [e1,e2]
   cases p <;> cases q <;> simp [sgn_false,sgn_true,Int.neg_mul,Int.mul_neg]
  have HJ:Hid (∀ W,Calls Tryz.prog 75 #[.bool (p != q),.string (numB (u*v))] W fun e w'=>e=.returned (.string (intB (x*y)))∧W=w'):=fun W=>by
   rw [← hR];exact join_any (p != q) (u*v) W (by omega)
  have hcase:((intB x).size≤9∧9<(intB y).size)∨9<(intB x).size:=by omega
  have HX:Hid ((intB x).size≤9→-1000000000000000000<x∧x<1000000000000000000):=fun h=>int_small (by omega)
  clear hu hv hs hax hay hprod hp hq hR
  rcases hcase with ⟨hs1,hs2⟩ | hs1
  case' inl =>
   have H1:=Lib.hid (little_yes x 9 w (by have:=HX.out hs1;omega) (by have:=HX.out hs1;omega) hs1 (by omega))
   have H2:Hid (∀ W,Calls Tryz.prog 119 #[.string (intB y),.int .i64 9] W fun e w'=>e=.returned (.tuple #[.int .i64 0,.bool false])∧W=w'):=fun W=>little_no y 9 W hs2
   clear hs1 hs2
   go_enter Tryz.func63,Tryz.ntmps63
   go_wp2_with fail
   refine H1.out.mono ?_
   rintro e w1 ⟨rfl,hE1⟩
   have HE1:=Lib.hid hE1
   clear hE1 H1
   go_wp2_with fail
   refine (H2.out _).mono ?_
   rintro e w' ⟨rfl,rfl⟩
   clear H2
  case' inr =>
   have H1:Hid (∀ W,Calls Tryz.prog 119 #[.string (intB x),.int .i64 9] W fun e w'=>e=.returned (.tuple #[.int .i64 0,.bool false])∧W=w'):=fun W=>little_no x 9 W hs1
   clear hs1
   go_enter Tryz.func63,Tryz.ntmps63
   go_wp2_with fail
   refine (H1.out _).mono ?_
   rintro e w' ⟨rfl,rfl⟩
   have HE1:=Lib.hid (Ext.refl w)
   clear H1
  all_goals
   go_wp2_with fail
   refine (HS1.out _).mono ?_
   rintro e w2 ⟨rfl,hE2⟩
   have HE2:=Lib.hid (Ext.trans HE1.out hE2)
   clear hE2 HS1
   go_wp2_with fail
   refine (HS2.out _).mono ?_
   rintro e w3 ⟨rfl,hE3⟩
   have HE3:=Lib.hid (Ext.trans HE2.out hE3)
   clear hE3 HS2
   go_wp2_with fail
   refine (HMUL.out _ HE3.out).mono ?_
   rintro e w4 ⟨rfl,hE4⟩
   have HE4:=Lib.hid (Ext.trans HE3.out hE4)
   clear hE4
   go_wp2_with fail
   refine (HJ.out _).mono ?_
   rintro e w' ⟨rfl,rfl⟩
   clear HJ
   go_wp2_with fail
   go_ret
   exact ⟨rfl,HE4.out⟩
set_option maxRecDepth 100000 in
set_option maxHeartbeats 800000 in
theorem divMod18 (x y:Int) (w:World) (hx:(intB x).size≤18) (hy:(intB y).size≤18) (h0:y≠0) (ht:Pow10 w) :
  Calls Tryz.prog 94 #[.string (intB x),.string (intB y)] w fun e w'=>e=.returned (.tuple #[.string (intB (fdq x y)),.string (intB (fdr x y)),.int .i64 0])∧Ext w w':=by
 have HT:=Lib.hid ht
 have hz:=int_zero y
 rw [decide_eq_false h0] at hz
 obtain ⟨hx1,hx2⟩:=int_small hx
 obtain ⟨hy1,hy2⟩:=int_small hy
 have H1:=Lib.hid (little_yes x 18 w (by omega) (by omega) hx (by omega))
 have H2:Hid (∀ W,Calls Tryz.prog 119 #[.string (intB y),.int .i64 18] W fun e w'=>e=.returned (.tuple #[.int .i64 y,.bool true])∧Ext W w'):=fun W=>little_yes y 18 W (by omega) (by omega) hy (by omega)
 have hrl:=tmod_lt x y h0
 have hql:=tdiv_le x y
 have hq1:(fdq x y).natAbs≤1000000000000000001:=by have:=fdq_bd x y;omega
 have hr1:(fdr x y).natAbs≤1000000000000000001:=by
  rcases Int.lt_trichotomy y 0 with h | h | h
  ·have:=fdr_neg x y h;omega
  ·exact absurd h h0
  ·have:=fdr_pos x y h;omega
 have H3:Hid (∀ W,Ext w W→Calls Tryz.prog 64 #[.int .i64 (fdq x y)] W fun e w'=>e=.returned (.string (intB (fdq x y)))∧Ext W w'):=fun W hE=>of_any _ W (by omega) (by omega) (HT.out.ext hE)
 have H4:Hid (∀ W,Ext w W→Calls Tryz.prog 64 #[.int .i64 (fdr x y)] W fun e w'=>e=.returned (.string (intB (fdr x y)))∧Ext W w'):=fun W hE=>of_any _ W (by omega) (by omega) (HT.out.ext hE)
 have hyb:(y == 0)=false:=beq_eq_false_iff_ne.2 h0
 have HFQ:Hid (fdq x y=if x.tmod y≠0∧decide (x.tmod y<0)≠decide (y<0) then x.tdiv y-1 else x.tdiv y):=rfl
 have HFR:Hid (fdr x y=if x.tmod y≠0∧decide (x.tmod y<0)≠decide (y<0) then x.tmod y+y else x.tmod y):=rfl
 obtain ⟨fq,hfq⟩:∃ q,q=fdq x y:=⟨_,rfl⟩
 obtain ⟨fr,hfr⟩:∃ r,r=fdr x y:=⟨_,rfl⟩
 rw [← hfq] at H3 HFQ hq1 ⊢
 rw [← hfr] at H4 HFR hr1 ⊢
 obtain ⟨q,hq⟩:∃ q,x.tdiv y=q:=⟨_,rfl⟩
 obtain ⟨r,hr⟩:∃ r,x.tmod y=r:=⟨_,rfl⟩
 rw [hq] at HFQ hql
 rw [hr] at HFR HFQ hrl
 have e1:IntKind.i64.wrap q=q:=IntWalk.i64_in _ (by omega)
 have hy0:¬ y=0:=h0
 clear ht hfq hfr h0
 by_cases c0:r=0
 ·have k0:(r != 0)=false:=by simp [c0]
  rw [if_neg (by simp [c0])] at HFQ HFR
  rw [HFQ.out] at H3 ⊢
  rw [HFR.out] at H4 ⊢
  clear HFQ HFR c0
  go_enter Tryz.func94,Tryz.ntmps94
  go_wp2_with fail
  refine H1.out.mono ?_
  rintro e w1 ⟨rfl,hE1⟩
  have HE1:=Lib.hid hE1
  clear hE1 H1
  go_wp2_with fail
  refine (H2.out _).mono ?_
  rintro e w2 ⟨rfl,hE2⟩
  have HE2:=Lib.hid (Ext.trans HE1.out hE2)
  clear hE2 H2
  go_wp2_with fail
  go_quiet (fail)
  go_wp2_with fail
  refine (H3.out _ (Ext.draws HE2.out _)).mono ?_
  rintro e w3 ⟨rfl,hE3⟩
  have HE3:=Lib.hid (Ext.trans (Ext.draws HE2.out _) hE3)
  clear hE3 H3
  go_wp2_with fail
  refine (H4.out _ HE3.out).mono ?_
  rintro e w4 ⟨rfl,hE4⟩
  have HE4:=Lib.hid (Ext.trans HE3.out hE4)
  clear hE4 H4
  go_wp2_with fail
  go_ret3
  exact ⟨rfl,HE4.out⟩
 ·have k0:(r != 0)=true:=by simpa using c0
  by_cases c1:r<0
  ·by_cases c2:y<0
   ·have k5:decide (r<0)=true:=decide_eq_true c1
    have k6:decide (y<0)=true:=decide_eq_true c2
    have k7:(!decide (r<0))=false:=by rw [k5];rfl
    have k8:(!decide (y<0))=false:=by rw [k6];rfl
    rw [if_neg (by rw [decide_eq_true c1,decide_eq_true c2];simp)] at HFQ HFR
    rw [HFQ.out] at H3 ⊢
    rw [HFR.out] at H4 ⊢
    clear HFQ HFR c0
    go_enter Tryz.func94,Tryz.ntmps94
    go_wp2_with fail
    refine H1.out.mono ?_
    rintro e w1 ⟨rfl,hE1⟩
    have HE1:=Lib.hid hE1
    clear hE1 H1
    go_wp2_with fail
    refine (H2.out _).mono ?_
    rintro e w2 ⟨rfl,hE2⟩
    have HE2:=Lib.hid (Ext.trans HE1.out hE2)
    clear hE2 H2
    go_wp2_with fail
    go_quiet (fail)
    go_wp2_with fail
    refine (H3.out _ (Ext.draws HE2.out _)).mono ?_
    rintro e w3 ⟨rfl,hE3⟩
    have HE3:=Lib.hid (Ext.trans (Ext.draws HE2.out _) hE3)
    clear hE3 H3
    go_wp2_with fail
    refine (H4.out _ HE3.out).mono ?_
    rintro e w4 ⟨rfl,hE4⟩
    have HE4:=Lib.hid (Ext.trans HE3.out hE4)
    clear hE4 H4
    go_wp2_with fail
    go_ret3
    exact ⟨rfl,HE4.out⟩
   ·have k5:decide (r<0)=true:=decide_eq_true c1
    have k6:decide (y<0)=false:=decide_eq_false c2
    have k7:(!decide (r<0))=false:=by rw [k5];rfl
    have k8:(!decide (y<0))=true:=by rw [k6];rfl
    rw [if_pos ⟨c0,by rw [decide_eq_true c1,decide_eq_false c2];simp⟩] at HFQ HFR
    rw [HFQ.out] at H3 ⊢ hq1
    rw [HFR.out] at H4 ⊢ hr1
    clear HFQ HFR c0
    go_enter Tryz.func94,Tryz.ntmps94
    go_wp2_with fail
    refine H1.out.mono ?_
    rintro e w1 ⟨rfl,hE1⟩
    have HE1:=Lib.hid hE1
    clear hE1 H1
    go_wp2_with fail
    refine (H2.out _).mono ?_
    rintro e w2 ⟨rfl,hE2⟩
    have HE2:=Lib.hid (Ext.trans HE1.out hE2)
    clear hE2 H2
    go_wp2_with fail
    go_quiet (fail)
    go_wp2_with fail
    refine (H3.out _ (Ext.draws HE2.out _)).mono ?_
    rintro e w3 ⟨rfl,hE3⟩
    have HE3:=Lib.hid (Ext.trans (Ext.draws HE2.out _) hE3)
    clear hE3 H3
    go_wp2_with fail
    refine (H4.out _ HE3.out).mono ?_
    rintro e w4 ⟨rfl,hE4⟩
    have HE4:=Lib.hid (Ext.trans HE3.out hE4)
    clear hE4 H4
    go_wp2_with fail
    go_ret3
    exact ⟨rfl,HE4.out⟩
  ·by_cases c2:y<0
   ·have k5:decide (r<0)=false:=decide_eq_false c1
    have k6:decide (y<0)=true:=decide_eq_true c2
    have k7:(!decide (r<0))=true:=by rw [k5];rfl
    have k8:(!decide (y<0))=false:=by rw [k6];rfl
    rw [if_pos ⟨c0,by rw [decide_eq_false c1,decide_eq_true c2];simp⟩] at HFQ HFR
    rw [HFQ.out] at H3 ⊢ hq1
    rw [HFR.out] at H4 ⊢ hr1
    clear HFQ HFR c0
    go_enter Tryz.func94,Tryz.ntmps94
    go_wp2_with fail
    refine H1.out.mono ?_
    rintro e w1 ⟨rfl,hE1⟩
    have HE1:=Lib.hid hE1
    clear hE1 H1
    go_wp2_with fail
    refine (H2.out _).mono ?_
    rintro e w2 ⟨rfl,hE2⟩
    have HE2:=Lib.hid (Ext.trans HE1.out hE2)
    clear hE2 H2
    go_wp2_with fail
    go_quiet (fail)
    go_wp2_with fail
    refine (H3.out _ (Ext.draws HE2.out _)).mono ?_
    rintro e w3 ⟨rfl,hE3⟩
    have HE3:=Lib.hid (Ext.trans (Ext.draws HE2.out _) hE3)
    clear hE3 H3
    go_wp2_with fail
    refine (H4.out _ HE3.out).mono ?_
    rintro e w4 ⟨rfl,hE4⟩
    have HE4:=Lib.hid (Ext.trans HE3.out hE4)
    clear hE4 H4
    go_wp2_with fail
    go_ret3
    exact ⟨rfl,HE4.out⟩
   ·have k5:decide (r<0)=false:=decide_eq_false c1
    have k6:decide (y<0)=false:=decide_eq_false c2
    have k7:(!decide (r<0))=true:=by rw [k5];rfl
    have k8:(!decide (y<0))=true:=by rw [k6];rfl
    rw [if_neg (by rw [decide_eq_false c1,decide_eq_false c2];simp)] at HFQ HFR
    rw [HFQ.out] at H3 ⊢
    rw [HFR.out] at H4 ⊢
    clear HFQ HFR c0
    go_enter Tryz.func94,Tryz.ntmps94
    go_wp2_with fail
    refine H1.out.mono ?_
    rintro e w1 ⟨rfl,hE1⟩
    have HE1:=Lib.hid hE1
    clear hE1 H1
    go_wp2_with fail
    refine (H2.out _).mono ?_
    rintro e w2 ⟨rfl,hE2⟩
    have HE2:=Lib.hid (Ext.trans HE1.out hE2)
    clear hE2 H2
    go_wp2_with fail
    go_quiet (fail)
    go_wp2_with fail
    refine (H3.out _ (Ext.draws HE2.out _)).mono ?_
    rintro e w3 ⟨rfl,hE3⟩
    have HE3:=Lib.hid (Ext.trans (Ext.draws HE2.out _) hE3)
    clear hE3 H3
    go_wp2_with fail
    refine (H4.out _ HE3.out).mono ?_
    rintro e w4 ⟨rfl,hE4⟩
    have HE4:=Lib.hid (Ext.trans HE3.out hE4)
    clear hE4 H4
    go_wp2_with fail
    go_ret3
    exact ⟨rfl,HE4.out⟩
set_option maxRecDepth 100000 in
set_option maxHeartbeats 4000000 in
theorem divModI_any (x y:Int) (w:World) (hx:(intB x).size≤2800000000) (hy:(intB y).size≤2800000000) (h0:y≠0) (ht:Pow10 w) :
  Calls Tryz.prog 94 #[.string (intB x),.string (intB y)] w fun e w'=>e=.returned (.tuple #[.string (intB (fdq x y)),.string (intB (fdr x y)),.int .i64 0])∧Ext w w':=by
 by_cases hs:(intB x).size≤18∧(intB y).size≤18
 ·exact divMod18 x y w hs.1 hs.2 h0 ht
 have HT:=Lib.hid ht
 clear ht
 have hz:=int_zero y
 rw [decide_eq_false h0] at hz
 have hax:=natAbs_le x
 have hay:=natAbs_le y
 have HS1:Hid (∀ W,Calls Tryz.prog 74 #[.string (intB x)] W fun e w'=>e=.returned (.tuple #[.bool (decide (x<0)),.string (numB x.natAbs)])∧Ext W w'):=fun W=>split_any x W
 have HS2:Hid (∀ W,Calls Tryz.prog 74 #[.string (intB y)] W fun e w'=>e=.returned (.tuple #[.bool (decide (y<0)),.string (numB y.natAbs)])∧Ext W w'):=fun W=>split_any y W
 obtain ⟨p,hp⟩:∃ p,p=decide (x<0):=⟨_,rfl⟩
 obtain ⟨q,hq⟩:∃ q,q=decide (y<0):=⟨_,rfl⟩
 have hfd:=fd_abs x y h0 hp hq
 rw [← hp] at HS1
 rw [← hq] at HS2
 have hv0:y.natAbs≠0:=by omega
 obtain ⟨u,hu⟩:∃ u,u=x.natAbs:=⟨_,rfl⟩
 obtain ⟨v,hv⟩:∃ v,v=y.natAbs:=⟨_,rfl⟩
 rw [← hu] at HS1 hax hfd
 rw [← hv] at HS2 hay hfd hv0
 have HDV:Hid (∀ W,Ext w W→Calls Tryz.prog 147 #[.string (numB u),.string (numB v)] W fun e w'=>e=.returned (.tuple #[.string (numB (u / v)),.string (numB (u%v)),.int .i64 0])∧Ext W w'):=fun W hE=>decDivMod_any u v W (by omega) (by omega) hv0 (HT.out.ext hE)
 have hqs:(numB (u / v)).size≤2800000000:=Nat.le_trans (num_le_mono (Nat.div_le_self _ _)) (by omega)
 have hrv:u%v<v:=Nat.mod_lt _ (by omega)
 have hrs:(numB (u%v)).size≤2800000000:=Nat.le_trans (num_le_mono (Nat.le_of_lt hrv)) (by omega)
 have hn1:(numB 1).size≤2800000000:=by
  have:=Lib.nDigits_small (show 1<10 by omega)
  rw [numB_size,this];omega
 have hN1:numB 1=⟨#[49]⟩:=by unfold numB;rw [Lib.decDigits_one (by omega)];rfl
 have hq1s:=num_add_size (u / v) 1
 have hADD:∀ W,Ext w W→Calls Tryz.prog 120 #[.string (numB (u / v)),.string (numB 1)] W fun e w'=>e=.returned (.string (numB (u / v+1)))∧Ext W w':=fun W hE=>decAdd_any (u / v) 1 W (by omega) (by omega) (HT.out.ext hE)
 rw [hN1] at hADD
 have HADD:=Lib.hid hADD
 have HSUB:Hid (∀ W,Ext w W→Calls Tryz.prog 122 #[.string (numB v),.string (numB (u%v))] W fun e w'=>e=.returned (.tuple #[.string (numB (v-u%v)),.int .i64 0])∧Ext W w'):=fun W hE=>decSub_any v (u%v) W (by omega) (by omega) (Nat.le_of_lt hrv) (HT.out.ext hE)
 have hvr:(numB (v-u%v)).size≤2800000000:=Nat.le_trans (num_le_mono (Nat.sub_le _ _)) (by omega)
 have HJ:Hid (∀ (b:Bool) (n:Nat),(numB n).size≤10000000000→∀ W,Calls Tryz.prog 75 #[.bool b,.string (numB n)] W fun e w'=>e=.returned (.string (intB (sgn b n)))∧W=w'):=fun b n hn W=>join_any b n W hn
 have hrz:=num_zero (u%v)
 obtain ⟨Q,hQ⟩:∃ Q,Q=u / v:=⟨_,rfl⟩
 obtain ⟨R,hR⟩:∃ R,R=u%v:=⟨_,rfl⟩
 rw [← hQ] at hfd HDV hqs hq1s HADD
 rw [← hR] at hfd HDV hrs HSUB hvr hrz
 have hcase:((intB x).size≤18∧18<(intB y).size)∨18<(intB x).size:=by omega
 have HX:Hid ((intB x).size≤18→-1000000000000000000<x∧x<1000000000000000000):=fun h=>int_small h
 obtain ⟨F1,hF1⟩:∃ F,F=fdq x y:=⟨_,rfl⟩
 obtain ⟨F2,hF2⟩:∃ F,F=fdr x y:=⟨_,rfl⟩
 rw [← hF1,← hF2] at hfd ⊢
 have HFD:=Lib.hid hfd
 have HSZ:Hid ((numB Q).size≤10000000000∧(numB (Q+1)).size≤10000000000∧(numB R).size≤10000000000∧(numB (v-R)).size≤10000000000):=⟨by omega,by omega,by omega,by omega⟩
 clear hu hv hs hax hay hp hq hfd hv0 hqs hrv hrs hn1 hN1 hq1s hADD hvr hQ hR hF1 hF2
 rcases p with _ | _ <;> rcases q with _ | _
 ·have hf:=HFD.out
  rw [if_neg (by simp),if_neg (by simp)] at hf
  have HJ1:=Lib.hid (HJ.out false Q HSZ.out.1)
  have HJ2:=Lib.hid (HJ.out false R HSZ.out.2.2.1)
  rw [show sgn false Q=F1 from hf.1.symm] at HJ1
  rw [show sgn false R=F2 from hf.2.symm] at HJ2
  clear hf HFD hrz
  rcases hcase with ⟨hs1,hs2⟩ | hs1
  ·have H1:=Lib.hid (little_yes x 18 w (by have:=HX.out hs1;omega) (by have:=HX.out hs1;omega) hs1 (by omega))
   have H2:Hid (∀ W,Calls Tryz.prog 119 #[.string (intB y),.int .i64 18] W fun e w'=>e=.returned (.tuple #[.int .i64 0,.bool false])∧W=w'):=fun W=>little_no y 18 W hs2
   clear hs1 hs2
   go_enter Tryz.func94,Tryz.ntmps94
   go_wp2_with fail
   refine H1.out.mono ?_
   rintro e w1 ⟨rfl,hE1⟩
   have HE1:=Lib.hid hE1
   clear hE1 H1
   go_wp2_with fail
   refine (H2.out _).mono ?_
   rintro e w' ⟨rfl,rfl⟩
   clear H2
   go_wp2_with fail
   refine (HS1.out _).mono ?_
   rintro e w2 ⟨rfl,hE2⟩
   have HE2:=Lib.hid (Ext.trans HE1.out hE2)
   clear hE2 HS1
   go_wp2_with fail
   refine (HS2.out _).mono ?_
   rintro e w3 ⟨rfl,hE3⟩
   have HE3:=Lib.hid (Ext.trans HE2.out hE3)
   clear hE3 HS2
   go_wp2_with fail
   refine (HDV.out _ HE3.out).mono ?_
   rintro e w4 ⟨rfl,hE4⟩
   have HE4:=Lib.hid (Ext.trans HE3.out hE4)
   clear hE4 HDV
   go_wp2_with fail
   refine (HJ1.out _).mono ?_
   rintro e w' ⟨rfl,rfl⟩
   clear HJ1
   go_wp2_with fail
   refine (HJ2.out _).mono ?_
   rintro e w' ⟨rfl,rfl⟩
   clear HJ2
   go_wp2_with fail
   go_ret3
   exact ⟨rfl,HE4.out⟩
  ·have H1:Hid (∀ W,Calls Tryz.prog 119 #[.string (intB x),.int .i64 18] W fun e w'=>e=.returned (.tuple #[.int .i64 0,.bool false])∧W=w'):=fun W=>little_no x 18 W hs1
   clear hs1
   go_enter Tryz.func94,Tryz.ntmps94
   go_wp2_with fail
   refine (H1.out _).mono ?_
   rintro e w' ⟨rfl,rfl⟩
   have HE1:=Lib.hid (Ext.refl w)
   clear H1
   go_wp2_with fail
   refine (HS1.out _).mono ?_
   rintro e w2 ⟨rfl,hE2⟩
   have HE2:=Lib.hid (Ext.trans HE1.out hE2)
   clear hE2 HS1
   go_wp2_with fail
   refine (HS2.out _).mono ?_
   rintro e w3 ⟨rfl,hE3⟩
   have HE3:=Lib.hid (Ext.trans HE2.out hE3)
   clear hE3 HS2
   go_wp2_with fail
   refine (HDV.out _ HE3.out).mono ?_
   rintro e w4 ⟨rfl,hE4⟩
   have HE4:=Lib.hid (Ext.trans HE3.out hE4)
   clear hE4 HDV
   go_wp2_with fail
   refine (HJ1.out _).mono ?_
   rintro e w' ⟨rfl,rfl⟩
   clear HJ1
   go_wp2_with fail
   refine (HJ2.out _).mono ?_
   rintro e w' ⟨rfl,rfl⟩
   clear HJ2
   go_wp2_with fail
   go_ret3
   exact ⟨rfl,HE4.out⟩
 ·by_cases hR0:R=0
  ·have hf:=HFD.out
   rw [if_neg (by simp [hR0]),if_neg (by simp [hR0])] at hf
   have HJ1:=Lib.hid (HJ.out true Q HSZ.out.1)
   have HJ2:=Lib.hid (HJ.out true R HSZ.out.2.2.1)
   rw [show sgn true Q=F1 from hf.1.symm] at HJ1
   rw [show sgn true R=F2 from hf.2.symm] at HJ2
   rw [decide_eq_true hR0] at hrz
   clear hf HFD hR0
   rcases hcase with ⟨hs1,hs2⟩ | hs1
   ·have H1:=Lib.hid (little_yes x 18 w (by have:=HX.out hs1;omega) (by have:=HX.out hs1;omega) hs1 (by omega))
    have H2:Hid (∀ W,Calls Tryz.prog 119 #[.string (intB y),.int .i64 18] W fun e w'=>e=.returned (.tuple #[.int .i64 0,.bool false])∧W=w'):=fun W=>little_no y 18 W hs2
    clear hs1 hs2
    go_enter Tryz.func94,Tryz.ntmps94
    go_wp2_with fail
    refine H1.out.mono ?_
    rintro e w1 ⟨rfl,hE1⟩
    have HE1:=Lib.hid hE1
    clear hE1 H1
    go_wp2_with fail
    refine (H2.out _).mono ?_
    rintro e w' ⟨rfl,rfl⟩
    clear H2
    go_wp2_with fail
    refine (HS1.out _).mono ?_
    rintro e w2 ⟨rfl,hE2⟩
    have HE2:=Lib.hid (Ext.trans HE1.out hE2)
    clear hE2 HS1
    go_wp2_with fail
    refine (HS2.out _).mono ?_
    rintro e w3 ⟨rfl,hE3⟩
    have HE3:=Lib.hid (Ext.trans HE2.out hE3)
    clear hE3 HS2
    go_wp2_with fail
    refine (HDV.out _ HE3.out).mono ?_
    rintro e w4 ⟨rfl,hE4⟩
    have HE4:=Lib.hid (Ext.trans HE3.out hE4)
    clear hE4 HDV
    go_wp2_with fail
    refine (HJ1.out _).mono ?_
    rintro e w' ⟨rfl,rfl⟩
    clear HJ1
    go_wp2_with fail
    refine (HJ2.out _).mono ?_
    rintro e w' ⟨rfl,rfl⟩
    clear HJ2
    go_wp2_with fail
    go_ret3
    exact ⟨rfl,HE4.out⟩
   ·have H1:Hid (∀ W,Calls Tryz.prog 119 #[.string (intB x),.int .i64 18] W fun e w'=>e=.returned (.tuple #[.int .i64 0,.bool false])∧W=w'):=fun W=>little_no x 18 W hs1
    clear hs1
    go_enter Tryz.func94,Tryz.ntmps94
    go_wp2_with fail
    refine (H1.out _).mono ?_
    rintro e w' ⟨rfl,rfl⟩
    have HE1:=Lib.hid (Ext.refl w)
    clear H1
    go_wp2_with fail
    refine (HS1.out _).mono ?_
    rintro e w2 ⟨rfl,hE2⟩
    have HE2:=Lib.hid (Ext.trans HE1.out hE2)
    clear hE2 HS1
    go_wp2_with fail
    refine (HS2.out _).mono ?_
    rintro e w3 ⟨rfl,hE3⟩
    have HE3:=Lib.hid (Ext.trans HE2.out hE3)
    clear hE3 HS2
    go_wp2_with fail
    refine (HDV.out _ HE3.out).mono ?_
    rintro e w4 ⟨rfl,hE4⟩
    have HE4:=Lib.hid (Ext.trans HE3.out hE4)
    clear hE4 HDV
    go_wp2_with fail
    refine (HJ1.out _).mono ?_
    rintro e w' ⟨rfl,rfl⟩
    clear HJ1
    go_wp2_with fail
    refine (HJ2.out _).mono ?_
    rintro e w' ⟨rfl,rfl⟩
    clear HJ2
    go_wp2_with fail
    go_ret3
    exact ⟨rfl,HE4.out⟩
  ·have hf:=HFD.out
   rw [if_pos ⟨rfl,hR0⟩,if_pos ⟨rfl,hR0⟩] at hf
   have HJ1:=Lib.hid (HJ.out true (Q+1) HSZ.out.2.1)
   have HJ2:=Lib.hid (HJ.out true (v-R) HSZ.out.2.2.2)
   rw [show sgn true (Q+1)=F1 from hf.1.symm] at HJ1
   rw [show sgn true (v-R)=F2 from hf.2.symm] at HJ2
   rw [decide_eq_false hR0] at hrz
   clear hf HFD hR0
   rcases hcase with ⟨hs1,hs2⟩ | hs1
   ·have H1:=Lib.hid (little_yes x 18 w (by have:=HX.out hs1;omega) (by have:=HX.out hs1;omega) hs1 (by omega))
    have H2:Hid (∀ W,Calls Tryz.prog 119 #[.string (intB y),.int .i64 18] W fun e w'=>e=.returned (.tuple #[.int .i64 0,.bool false])∧W=w'):=fun W=>little_no y 18 W hs2
    clear hs1 hs2
    go_enter Tryz.func94,Tryz.ntmps94
    go_wp2_with fail
    refine H1.out.mono ?_
    rintro e w1 ⟨rfl,hE1⟩
    have HE1:=Lib.hid hE1
    clear hE1 H1
    go_wp2_with fail
    refine (H2.out _).mono ?_
    rintro e w' ⟨rfl,rfl⟩
    clear H2
    go_wp2_with fail
    refine (HS1.out _).mono ?_
    rintro e w2 ⟨rfl,hE2⟩
    have HE2:=Lib.hid (Ext.trans HE1.out hE2)
    clear hE2 HS1
    go_wp2_with fail
    refine (HS2.out _).mono ?_
    rintro e w3 ⟨rfl,hE3⟩
    have HE3:=Lib.hid (Ext.trans HE2.out hE3)
    clear hE3 HS2
    go_wp2_with fail
    refine (HDV.out _ HE3.out).mono ?_
    rintro e w4 ⟨rfl,hE4⟩
    have HE4:=Lib.hid (Ext.trans HE3.out hE4)
    clear hE4 HDV
    go_wp2_with fail
    refine (HADD.out _ HE4.out).mono ?_
    rintro e w5 ⟨rfl,hE5⟩
    have HE5:=Lib.hid (Ext.trans HE4.out hE5)
    clear hE5 HADD
    go_wp2_with fail
    refine (HSUB.out _ HE5.out).mono ?_
    rintro e w6 ⟨rfl,hE6⟩
    have HE6:=Lib.hid (Ext.trans HE5.out hE6)
    clear hE6 HSUB
    go_wp2_with fail
    refine (HJ1.out _).mono ?_
    rintro e w' ⟨rfl,rfl⟩
    clear HJ1
    go_wp2_with fail
    refine (HJ2.out _).mono ?_
    rintro e w' ⟨rfl,rfl⟩
    clear HJ2
    go_wp2_with fail
    go_ret3
    exact ⟨rfl,HE6.out⟩
   ·have H1:Hid (∀ W,Calls Tryz.prog 119 #[.string (intB x),.int .i64 18] W fun e w'=>e=.returned (.tuple #[.int .i64 0,.bool false])∧W=w'):=fun W=>little_no x 18 W hs1
    clear hs1
    go_enter Tryz.func94,Tryz.ntmps94
    go_wp2_with fail
    refine (H1.out _).mono ?_
    rintro e w' ⟨rfl,rfl⟩
    have HE1:=Lib.hid (Ext.refl w)
    clear H1
    go_wp2_with fail
    refine (HS1.out _).mono ?_
    rintro e w2 ⟨rfl,hE2⟩
    have HE2:=Lib.hid (Ext.trans HE1.out hE2)
    clear hE2 HS1
    go_wp2_with fail
    refine (HS2.out _).mono ?_
    rintro e w3 ⟨rfl,hE3⟩
    have HE3:=Lib.hid (Ext.trans HE2.out hE3)
    clear hE3 HS2
    go_wp2_with fail
    refine (HDV.out _ HE3.out).mono ?_
    rintro e w4 ⟨rfl,hE4⟩
    have HE4:=Lib.hid (Ext.trans HE3.out hE4)
    clear hE4 HDV
    go_wp2_with fail
    refine (HADD.out _ HE4.out).mono ?_
    rintro e w5 ⟨rfl,hE5⟩
    have HE5:=Lib.hid (Ext.trans HE4.out hE5)
    clear hE5 HADD
    go_wp2_with fail
    refine (HSUB.out _ HE5.out).mono ?_
    rintro e w6 ⟨rfl,hE6⟩
    have HE6:=Lib.hid (Ext.trans HE5.out hE6)
    clear hE6 HSUB
    go_wp2_with fail
    refine (HJ1.out _).mono ?_
    rintro e w' ⟨rfl,rfl⟩
    clear HJ1
    go_wp2_with fail
    refine (HJ2.out _).mono ?_
    rintro e w' ⟨rfl,rfl⟩
    clear HJ2
    go_wp2_with fail
    go_ret3
    exact ⟨rfl,HE6.out⟩
 ·by_cases hR0:R=0
  ·have hf:=HFD.out
   rw [if_neg (by simp [hR0]),if_neg (by simp [hR0])] at hf
   have HJ1:=Lib.hid (HJ.out true Q HSZ.out.1)
   have HJ2:=Lib.hid (HJ.out false R HSZ.out.2.2.1)
   rw [show sgn true Q=F1 from hf.1.symm] at HJ1
   rw [show sgn false R=F2 from hf.2.symm] at HJ2
   rw [decide_eq_true hR0] at hrz
   clear hf HFD hR0
   rcases hcase with ⟨hs1,hs2⟩ | hs1
   ·have H1:=Lib.hid (little_yes x 18 w (by have:=HX.out hs1;omega) (by have:=HX.out hs1;omega) hs1 (by omega))
    have H2:Hid (∀ W,Calls Tryz.prog 119 #[.string (intB y),.int .i64 18] W fun e w'=>e=.returned (.tuple #[.int .i64 0,.bool false])∧W=w'):=fun W=>little_no y 18 W hs2
    clear hs1 hs2
    go_enter Tryz.func94,Tryz.ntmps94
    go_wp2_with fail
    refine H1.out.mono ?_
    rintro e w1 ⟨rfl,hE1⟩
    have HE1:=Lib.hid hE1
    clear hE1 H1
    go_wp2_with fail
    refine (H2.out _).mono ?_
    rintro e w' ⟨rfl,rfl⟩
    clear H2
    go_wp2_with fail
    refine (HS1.out _).mono ?_
    rintro e w2 ⟨rfl,hE2⟩
    have HE2:=Lib.hid (Ext.trans HE1.out hE2)
    clear hE2 HS1
    go_wp2_with fail
    refine (HS2.out _).mono ?_
    rintro e w3 ⟨rfl,hE3⟩
    have HE3:=Lib.hid (Ext.trans HE2.out hE3)
    clear hE3 HS2
    go_wp2_with fail
    refine (HDV.out _ HE3.out).mono ?_
    rintro e w4 ⟨rfl,hE4⟩
    have HE4:=Lib.hid (Ext.trans HE3.out hE4)
    clear hE4 HDV
    go_wp2_with fail
    refine (HJ1.out _).mono ?_
    rintro e w' ⟨rfl,rfl⟩
    clear HJ1
    go_wp2_with fail
    refine (HJ2.out _).mono ?_
    rintro e w' ⟨rfl,rfl⟩
    clear HJ2
    go_wp2_with fail
    go_ret3
    exact ⟨rfl,HE4.out⟩
   ·have H1:Hid (∀ W,Calls Tryz.prog 119 #[.string (intB x),.int .i64 18] W fun e w'=>e=.returned (.tuple #[.int .i64 0,.bool false])∧W=w'):=fun W=>little_no x 18 W hs1
    clear hs1
    go_enter Tryz.func94,Tryz.ntmps94
    go_wp2_with fail
    refine (H1.out _).mono ?_
    rintro e w' ⟨rfl,rfl⟩
    have HE1:=Lib.hid (Ext.refl w)
    clear H1
    go_wp2_with fail
    refine (HS1.out _).mono ?_
    rintro e w2 ⟨rfl,hE2⟩
    have HE2:=Lib.hid (Ext.trans HE1.out hE2)
    clear hE2 HS1
    go_wp2_with fail
    refine (HS2.out _).mono ?_
    rintro e w3 ⟨rfl,hE3⟩
    have HE3:=Lib.hid (Ext.trans HE2.out hE3)
    clear hE3 HS2
    go_wp2_with fail
    refine (HDV.out _ HE3.out).mono ?_
    rintro e w4 ⟨rfl,hE4⟩
    have HE4:=Lib.hid (Ext.trans HE3.out hE4)
    clear hE4 HDV
    go_wp2_with fail
    refine (HJ1.out _).mono ?_
    rintro e w' ⟨rfl,rfl⟩
    clear HJ1
    go_wp2_with fail
    refine (HJ2.out _).mono ?_
    rintro e w' ⟨rfl,rfl⟩
    clear HJ2
    go_wp2_with fail
    go_ret3
    exact ⟨rfl,HE4.out⟩
  ·have hf:=HFD.out
   rw [if_pos ⟨rfl,hR0⟩,if_pos ⟨rfl,hR0⟩] at hf
   have HJ1:=Lib.hid (HJ.out true (Q+1) HSZ.out.2.1)
   have HJ2:=Lib.hid (HJ.out false (v-R) HSZ.out.2.2.2)
   rw [show sgn true (Q+1)=F1 from hf.1.symm] at HJ1
   rw [show sgn false (v-R)=F2 from hf.2.symm] at HJ2
   rw [decide_eq_false hR0] at hrz
   clear hf HFD hR0
   rcases hcase with ⟨hs1,hs2⟩ | hs1
   ·have H1:=Lib.hid (little_yes x 18 w (by have:=HX.out hs1;omega) (by have:=HX.out hs1;omega) hs1 (by omega))
    have H2:Hid (∀ W,Calls Tryz.prog 119 #[.string (intB y),.int .i64 18] W fun e w'=>e=.returned (.tuple #[.int .i64 0,.bool false])∧W=w'):=fun W=>little_no y 18 W hs2
    clear hs1 hs2
    go_enter Tryz.func94,Tryz.ntmps94
    go_wp2_with fail
    refine H1.out.mono ?_
    rintro e w1 ⟨rfl,hE1⟩
    have HE1:=Lib.hid hE1
    clear hE1 H1
    go_wp2_with fail
    refine (H2.out _).mono ?_
    rintro e w' ⟨rfl,rfl⟩
    clear H2
    go_wp2_with fail
    refine (HS1.out _).mono ?_
    rintro e w2 ⟨rfl,hE2⟩
    have HE2:=Lib.hid (Ext.trans HE1.out hE2)
    clear hE2 HS1
    go_wp2_with fail
    refine (HS2.out _).mono ?_
    rintro e w3 ⟨rfl,hE3⟩
    have HE3:=Lib.hid (Ext.trans HE2.out hE3)
    clear hE3 HS2
    go_wp2_with fail
    refine (HDV.out _ HE3.out).mono ?_
    rintro e w4 ⟨rfl,hE4⟩
    have HE4:=Lib.hid (Ext.trans HE3.out hE4)
    clear hE4 HDV
    go_wp2_with fail
    refine (HADD.out _ HE4.out).mono ?_
    rintro e w5 ⟨rfl,hE5⟩
    have HE5:=Lib.hid (Ext.trans HE4.out hE5)
    clear hE5 HADD
    go_wp2_with fail
    refine (HSUB.out _ HE5.out).mono ?_
    rintro e w6 ⟨rfl,hE6⟩
    have HE6:=Lib.hid (Ext.trans HE5.out hE6)
    clear hE6 HSUB
    go_wp2_with fail
    refine (HJ1.out _).mono ?_
    rintro e w' ⟨rfl,rfl⟩
    clear HJ1
    go_wp2_with fail
    refine (HJ2.out _).mono ?_
    rintro e w' ⟨rfl,rfl⟩
    clear HJ2
    go_wp2_with fail
    go_ret3
    exact ⟨rfl,HE6.out⟩
   ·have H1:Hid (∀ W,Calls Tryz.prog 119 #[.string (intB x),.int .i64 18] W fun e w'=>e=.returned (.tuple #[.int .i64 0,.bool false])∧W=w'):=fun W=>little_no x 18 W hs1
    clear hs1
    go_enter Tryz.func94,Tryz.ntmps94
    go_wp2_with fail
    refine (H1.out _).mono ?_
    rintro e w' ⟨rfl,rfl⟩
    have HE1:=Lib.hid (Ext.refl w)
    clear H1
    go_wp2_with fail
    refine (HS1.out _).mono ?_
    rintro e w2 ⟨rfl,hE2⟩
    have HE2:=Lib.hid (Ext.trans HE1.out hE2)
    clear hE2 HS1
    go_wp2_with fail
    refine (HS2.out _).mono ?_
    rintro e w3 ⟨rfl,hE3⟩
    have HE3:=Lib.hid (Ext.trans HE2.out hE3)
    clear hE3 HS2
    go_wp2_with fail
    refine (HDV.out _ HE3.out).mono ?_
    rintro e w4 ⟨rfl,hE4⟩
    have HE4:=Lib.hid (Ext.trans HE3.out hE4)
    clear hE4 HDV
    go_wp2_with fail
    refine (HADD.out _ HE4.out).mono ?_
    rintro e w5 ⟨rfl,hE5⟩
    have HE5:=Lib.hid (Ext.trans HE4.out hE5)
    clear hE5 HADD
    go_wp2_with fail
    refine (HSUB.out _ HE5.out).mono ?_
    rintro e w6 ⟨rfl,hE6⟩
    have HE6:=Lib.hid (Ext.trans HE5.out hE6)
    clear hE6 HSUB
    go_wp2_with fail
    refine (HJ1.out _).mono ?_
    rintro e w' ⟨rfl,rfl⟩
    clear HJ1
    go_wp2_with fail
    refine (HJ2.out _).mono ?_
    rintro e w' ⟨rfl,rfl⟩
    clear HJ2
    go_wp2_with fail
    go_ret3
    exact ⟨rfl,HE6.out⟩
 ·have hf:=HFD.out
  rw [if_neg (by simp),if_neg (by simp)] at hf
  have HJ1:=Lib.hid (HJ.out false Q HSZ.out.1)
  have HJ2:=Lib.hid (HJ.out true R HSZ.out.2.2.1)
  rw [show sgn false Q=F1 from hf.1.symm] at HJ1
  rw [show sgn true R=F2 from hf.2.symm] at HJ2
  clear hf HFD hrz
  rcases hcase with ⟨hs1,hs2⟩ | hs1
  ·have H1:=Lib.hid (little_yes x 18 w (by have:=HX.out hs1;omega) (by have:=HX.out hs1;omega) hs1 (by omega))
   have H2:Hid (∀ W,Calls Tryz.prog 119 #[.string (intB y),.int .i64 18] W fun e w'=>e=.returned (.tuple #[.int .i64 0,.bool false])∧W=w'):=fun W=>little_no y 18 W hs2
   clear hs1 hs2
   go_enter Tryz.func94,Tryz.ntmps94
   go_wp2_with fail
   refine H1.out.mono ?_
   rintro e w1 ⟨rfl,hE1⟩
   have HE1:=Lib.hid hE1
   clear hE1 H1
   go_wp2_with fail
   refine (H2.out _).mono ?_
   rintro e w' ⟨rfl,rfl⟩
   clear H2
   go_wp2_with fail
   refine (HS1.out _).mono ?_
   rintro e w2 ⟨rfl,hE2⟩
   have HE2:=Lib.hid (Ext.trans HE1.out hE2)
   clear hE2 HS1
   go_wp2_with fail
   refine (HS2.out _).mono ?_
   rintro e w3 ⟨rfl,hE3⟩
   have HE3:=Lib.hid (Ext.trans HE2.out hE3)
   clear hE3 HS2
   go_wp2_with fail
   refine (HDV.out _ HE3.out).mono ?_
   rintro e w4 ⟨rfl,hE4⟩
   have HE4:=Lib.hid (Ext.trans HE3.out hE4)
   clear hE4 HDV
   go_wp2_with fail
   refine (HJ1.out _).mono ?_
   rintro e w' ⟨rfl,rfl⟩
   clear HJ1
   go_wp2_with fail
   refine (HJ2.out _).mono ?_
   rintro e w' ⟨rfl,rfl⟩
   clear HJ2
   go_wp2_with fail
   go_ret3
   exact ⟨rfl,HE4.out⟩
  ·have H1:Hid (∀ W,Calls Tryz.prog 119 #[.string (intB x),.int .i64 18] W fun e w'=>e=.returned (.tuple #[.int .i64 0,.bool false])∧W=w'):=fun W=>little_no x 18 W hs1
   clear hs1
   go_enter Tryz.func94,Tryz.ntmps94
   go_wp2_with fail
   refine (H1.out _).mono ?_
   rintro e w' ⟨rfl,rfl⟩
   have HE1:=Lib.hid (Ext.refl w)
   clear H1
   go_wp2_with fail
   refine (HS1.out _).mono ?_
   rintro e w2 ⟨rfl,hE2⟩
   have HE2:=Lib.hid (Ext.trans HE1.out hE2)
   clear hE2 HS1
   go_wp2_with fail
   refine (HS2.out _).mono ?_
   rintro e w3 ⟨rfl,hE3⟩
   have HE3:=Lib.hid (Ext.trans HE2.out hE3)
   clear hE3 HS2
   go_wp2_with fail
   refine (HDV.out _ HE3.out).mono ?_
   rintro e w4 ⟨rfl,hE4⟩
   have HE4:=Lib.hid (Ext.trans HE3.out hE4)
   clear hE4 HDV
   go_wp2_with fail
   refine (HJ1.out _).mono ?_
   rintro e w' ⟨rfl,rfl⟩
   clear HJ1
   go_wp2_with fail
   refine (HJ2.out _).mono ?_
   rintro e w' ⟨rfl,rfl⟩
   clear HJ2
   go_wp2_with fail
   go_ret3
   exact ⟨rfl,HE4.out⟩
end Go.Proofs.YtjlkkofmojgipaaGreatDoor
