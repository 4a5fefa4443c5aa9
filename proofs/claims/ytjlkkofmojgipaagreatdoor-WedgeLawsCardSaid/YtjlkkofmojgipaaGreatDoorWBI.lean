import Derived.Test.YtjlkkofmojgipaaGreatDoorWBH
import Derived.Test.YtjlkkofmojgipaaGreatDoorWAT
import Derived.Test.YtjlkkofmojgipaaGreatDoorWBD
import Derived.Test.YtjlkkofmojgipaaGreatDoorWAU
import Derived.Maps.OwnSet
namespace Go.Proofs.YtjlkkofmojgipaaGreatDoor
set_option linter.unusedVariables false
set_option linter.unusedSimpArgs false
open Go.RowKit
theorem setsI_castM {n k:Nat} (hn:n<7) (hk:k≤n):setsI (allW n k)=castS (setsL n k):=by
 rw [← sets_map hn hk]
 unfold setsI castS natsI
 rw [List.map_map];rfl
theorem allW_six:∀ n,n<5→∀ k,k<n+1→(allW n k).length≤6:=by decide +kernel
theorem boxD (w:World) (C:Array Value) (T:TypeId):∃ W,(w.alloc (.cells C T))=W∧Ext w W∧W.heap.size=w.heap.size+1∧W.heap[w.heap.size]?=some (.cells C T (0,0)) :=
 ⟨_,rfl,Ext.alloc _ _,by simp,block_new _ _ _⟩
set_option maxRecDepth 100000 in
set_option maxHeartbeats 2000000 in
theorem make10_any (x y dim:Int) (z0 z1 z2 z3 z4 z5:Int) (n k:Nat) (hx:0≤x∧x≤255) (hy:0≤y∧y≤255) (hz:∀ a∈[z0,z1,z2,z3,z4,z5],-128≤a∧a≤127) (hn:n<5) (hdim:dim=n∨(dim=-1∧x.tmod 5=n)) (hk:(k:Int)=y.tmod ((n:Int)+1)) (w:World) (ht:Pow10 w) :
  Calls Tryz.prog 27 #[.agg #[.int .u8 x,.int .u8 y,.int .i8 z0,.int .i8 z1,.int .i8 z2,.int .i8 z3,.int .i8 z4,.int .i8 z5],.int .i64 dim] w fun e w'=>∃ a c,e=.returned (.agg #[.int .i64 n,.int .i64 k,.slice a (allW n k).length c])∧ListAt 1 numC w' (.slice a (allW n k).length c) ([z0,z1,z2,z3,z4,z5].take (allW n k).length)∧Ext w w':=by
 have hkn:k≤n:=by
  have h1:=Int.tmod_lt_of_pos y (show 0<(n:Int)+1 by omega)
  omega
 have h6:=allW_six n hn k (by omega)
 obtain ⟨N,hN⟩:∃ N,(allW n k).length=N:=⟨_,rfl⟩
 have HZB:=Lib.hid hz
 have HSE:Hid (∀ W,Calls Tryz.prog 33 #[.int .i64 (n:Int),.int .i64 (k:Int)] W fun e w'=>∃ a c,e=.returned (.slice a N c)∧Ext W w'):=fun W=>(refSets_any n k (by omega) hkn W).mono fun e w' ⟨v,h1,h2,h3⟩=>by
  rw [← setsI_castM (by omega) hkn] at h2
  obtain ⟨a,c,rfl,-⟩:=ListAt.open h2
  have hl:(setsI (allW n k)).length=N:=by unfold setsI;rw [List.length_map];exact hN
  rw [hl] at h1
  exact ⟨a,c,h1,h3⟩
 rw [hN] at h6 ⊢
 have HT:=Lib.hid ht
 obtain ⟨w1,hw1,hE1,hs1,hb1⟩:=boxD w #[.int .u8 x,.int .u8 y,.int .i8 z0,.int .i8 z1,.int .i8 z2,.int .i8 z3,.int .i8 z4,.int .i8 z5] 49
 obtain ⟨w2,hw2,hE2,hs2,hb2⟩:=boxM w1 (.int .i64 0) (.int .i64 0) (.slice none 0 0)
 have HE2:=Lib.hid (hE1.trans hE2)
 have HB1:=Lib.hid (block_ext hb1 hE2);have HB2:=Lib.hid hb2
 have HS1:Hid (w1.heap.size=w.heap.size+1):=hs1
 have HS2:Hid (w2.heap.size=w1.heap.size+1):=hs2
 obtain ⟨D,hD⟩:∃ D,[z0,z1,z2,z3,z4,z5]=D:=⟨_,rfl⟩
 have HDC:Hid (∀ W,Ext w2 W→∀ i y',D[i]?=some y'→W.cell? ⟨w.heap.size,2+i,none⟩=some (.int .i8 y')):=fun W hW i y' hi=>by
  rw [block_cell (block_ext HB1.out hW),← Option.map_some (f:=Value.int .i8),← hi,← hD]
  match i with
  | 0=>rfl
  | 1=>rfl
  | 2=>rfl
  | 3=>rfl
  | 4=>rfl
  | 5=>rfl
  | i+6=>simp;try omega
 have HD6:Hid (D.length=6):=by unfold Hid;rw [← hD];rfl
 rw [hD] at HZB ⊢
 have c0:=block_cell HB1.out 0;have c1:=block_cell HB1.out 1
 simp only [List.getElem?_toArray,List.getElem?_cons_succ,List.getElem?_cons_zero] at c0 c1
 have e1:IntKind.i64.wrap ((n:Int)+1)=(n:Int)+1:=by rw [IntKind.wrap_i64];omega
 have e2:y.tmod ((n:Int)+1)=(k:Int):=hk.symm
 have e3:((n:Int)+1 == 0)=false:=by simp;omega
 have e3':¬ (n:Int)+1=0:=by omega
 obtain ⟨w3,hw3,hE3,hs3,hb3⟩:=boxM w2 (.int .i64 0) (.int .i64 0) (.slice none 0 0)
 have HE3:=Lib.hid hE3;have HB3:=Lib.hid hb3
 have f3:=block_free hb3
 have k3:=block_cell hb3
 clear hb1 hb2 hE1 hE2 hs2 hN hD hz hk ht hE3 hs3 hb3
 go_enter Tryz.func27,Tryz.ntmps27
 go_upto_if 9 with fail
 go_cut [1] from 10 to 13 (fun s1 wx=>s1=.int .i64 n∧wx=w2)
 case first =>
  rcases hdim with hdim | ⟨hdim,hxm⟩
  ·subst hdim
   have q1:¬ (n:Int)<0:=by omega
   go_wp2_with fail
   go_meet
   exact ⟨rfl,rfl⟩
  ·subst hdim
   have q1:IntKind.u8.wrap (x.tmod 5)=(n:Int):=by rw [hxm,IntKind.wrap_u8];omega
   have q2:IntKind.i64.wrap (n:Int)=(n:Int):=by rw [IntKind.wrap_i64];omega
   go_wp2_with fail
   go_meet
   exact ⟨rfl,rfl⟩
 case rest =>
 obtain ⟨rfl,hwx⟩:=hcut
 obtain rfl:=hwx.symm
 clear hw1 hw2 hdim
 go_upto_region 4 with fail
 generalize hw9:World.setCell _ _ _=w5
 have HB5:Hid (w5.heap[w2.heap.size]?=some (.cells #[.int .i64 n,.int .i64 k,.slice none 0 0] 31 (0,0))):=by rw [← hw9];exact multi_store HB3.out _ _ _
 have hE5:Ext w2 w5:=by rw [← hw9];exact multi_ext HE3.out (Nat.le_refl _) _ _ _
 have HX25:=Lib.hid hE5
 have HE5:Hid (Ext w w5):=HE2.out.trans hE5
 have HB25:=Lib.hid (block_ext HB2.out hE5)
 clear hw9 hw3 k3 f3 c0 c1 hE5
 obtain ⟨w3,hw3e⟩:∃ w3,w3=w2:=⟨_,rfl⟩
 have HW3:=Lib.hid hw3e
 have d0:=block_cell HB5.out 0;have d1:=block_cell HB5.out 1
 simp only [List.getElem?_toArray,List.getElem?_cons_succ,List.getElem?_cons_zero] at d0 d1
 rw [← hw3e] at HB5 d0 d1 ⊢
 clear hw3e
 go_wp2_with fail
 refine (HSE.out w5).mono ?_
 rintro e w7 ⟨a7,c7,rfl,h7⟩
 have HX27:Hid (Ext w2 w7):=HX25.out.trans h7
 have HE7:Hid (Ext w w7):=HE5.out.trans h7
 have HB7:=Lib.hid (block_ext HB5.out h7)
 have HB27:=Lib.hid (block_ext HB25.out h7)
 have HBL:Hid (w3.heap.size<w7.heap.size):=block_lt HB7.out
 have HS3:Hid (w1.heap.size<w3.heap.size∧w.heap.size<w3.heap.size∧w.heap.size<w1.heap.size):=by rw [HW3.out];have:=HS2.out;have:=HS1.out;unfold Hid;omega
 have HDM:Hid (∀ i,(D.take i).length<1000000):=by intro i;rw [List.length_take,HD6.out];omega
 clear h7 HSE d0 d1
 go_wp2_with fail
 go_loopw [7] (fun t wr=>∃ i:Nat,i≤N∧t=.int .i64 (i:Int)∧Hid (GrownS (·=w3.heap.size) w7 wr)∧Hid (∃ so,wr.heap[w3.heap.size]?=some (.cells #[.int .i64 n,.int .i64 k,so] 31 (0,0))∧Build wr w7.heap.size 53 1 so numC (D.take i))) (fun t _=>N+1-(intOf t).toNat)
 case atStart=>exact ⟨0,by omega,by simp,GrownS.refl _ _,_,HB7.out,Build.nil _ _ _ _ _⟩
 case round =>
  obtain ⟨i,hi,rfl,HG,HBB⟩:=hrel
  by_cases hlt:i<N
  ·obtain ⟨y',hy'⟩:∃ y',D[i]?=some y':=⟨D[i]'(by rw [HD6.out];omega),List.getElem?_eq_getElem _⟩
   have hyb:=HZB.out y' (List.mem_of_getElem? hy')
   have hst:D.take (i+1)=D.take i++[y']:=by rw [List.take_add_one,hy'];rfl
   have HST:=Lib.hid hst
   have z2:=HG.out.cell (HDC.out w7 HX27.out i y' hy') (by have:=HS3.out;omega)
   have HOF:Hid (∀ W,Ext wr W→Calls Tryz.prog 69 #[.int .i64 y'] W fun e w'=>e=.returned (.string (intB y'))∧Ext W w'):=fun W hW=>rOf_any y' W (by omega) (by omega) (HT.out.ext ((ext_grownS HE7.out HG.out (fun j hj e=>by have:=HS3.out;omega)).trans hW))
   obtain ⟨so,hBK,hBU⟩:=HBB.out
   obtain ⟨ao,co,rfl,-⟩:=ListAt.open hBU.list
   obtain ⟨m,hm⟩:∃ m,(D.take i).length=m:=⟨_,rfl⟩
   rw [hm] at hBK hBU
   have HBK:=Lib.hid hBK;have HB:=Lib.hid hBU
   have z1:=block_cell hBK 2
   simp only [List.getElem?_toArray,List.getElem?_cons_succ,List.getElem?_cons_zero] at z1
   have HLL2:Hid ((D.take i).length<1000000):=HDM.out i
   have HSZ:Hid (w7.heap.size≤wr.heap.size):=HG.out.size
   have e5:(i:Int).tmod 6=(i:Int):=Int.tmod_eq_of_lt (by omega) (by omega)
   have e6:IntKind.i64.wrap y'=y':=by rw [IntKind.wrap_i64];omega
   have hi6:i<6:=by omega
   have hi66:(i:Int)<6:=by omega
   obtain ⟨y,hyy⟩:∃ y,y=y':=⟨_,rfl⟩
   obtain rfl:=hyy
   clear hy' hyb hst hBK hBU hm HBB
   go_upto_region 8 with fail
   refine region_anyE (fun w'=>w'.cell? ⟨w3.heap.size,2,none⟩=some (.slice ao m co)∧w'.cell? ⟨w.heap.size,2+i,none⟩=some (.int .i8 y)∧Hid (Ext wr w')) 10 (by kernel_rfl) ⟨(Ext.drew wr).cell z1,(Ext.drew wr).cell z2,Ext.drew wr⟩ (fun hHeld=>?_)
   refine anyE_takeW (v:=?_) 0 rfl (by kernel_rfl) (by kernel_rfl) (by kernel_rfl) (by decide) (fun _ _ _ h=>h) (Or.inl ⟨by rfl,?_⟩) (by assumption) ?_
   rotate_left
   ·((intro w');(try go_simp);(try with_reducible rfl))
   (try simp only [Act.put,List.setIfInBounds_toArray,List.set_cons_zero,List.set_cons_succ])
   refine anyE_take (v:=?_) 1 rfl (by kernel_rfl) (by kernel_rfl) (by kernel_rfl) (by kernel_rfl) (by kernel_rfl) (fun _ _ _ h=>h) (Or.inl ⟨by rfl,?_⟩) (by assumption) ?_
   rotate_left
   ·((intro w' hSw);(try dsimp only at hSw);(try go_simp);(try with_reducible rfl))
   (try simp only [Act.put,List.setIfInBounds_toArray,List.set_cons_zero,List.set_cons_succ])
   refine anyE_takeW (v:=?_) 2 rfl (by kernel_rfl) (by kernel_rfl) (by kernel_rfl) (by decide) (fun _ _ _ h=>h) (Or.inl ⟨by rfl,?_⟩) (by assumption) ?_
   rotate_left
   ·((intro w');(try go_simp);(try with_reducible rfl))
   (try simp only [Act.put,List.setIfInBounds_toArray,List.set_cons_zero,List.set_cons_succ])
   refine anyE_takeW (v:=?_) 3 rfl (by kernel_rfl) (by kernel_rfl) (by kernel_rfl) (by decide) (fun _ _ _ h=>h) (Or.inl ⟨by rfl,?_⟩) (by assumption) ?_
   rotate_left
   ·((intro w');(try go_simp);(try with_reducible rfl))
   (try simp only [Act.put,List.setIfInBounds_toArray,List.set_cons_zero,List.set_cons_succ])
   refine anyE_takeW (v:=?_) 4 rfl (by kernel_rfl) (by kernel_rfl) (by kernel_rfl) (by decide) (fun _ _ _ h=>h) (Or.inl ⟨by rfl,?_⟩) (by assumption) ?_
   rotate_left
   ·((intro w');(try go_simp);(try with_reducible rfl))
   (try simp only [Act.put,List.setIfInBounds_toArray,List.set_cons_zero,List.set_cons_succ])
   refine anyE_takeW (v:=?_) 5 rfl (by kernel_rfl) (by kernel_rfl) (by kernel_rfl) (by decide) (fun _ _ _ h=>h) (Or.inl ⟨by rfl,?_⟩) (by assumption) ?_
   rotate_left
   ·((intro w');(try go_simp);(try with_reducible rfl))
   (try simp only [Act.put,List.setIfInBounds_toArray,List.set_cons_zero,List.set_cons_succ])
   refine anyE_take (v:=?_) 6 rfl (by kernel_rfl) (by kernel_rfl) (by kernel_rfl) (by kernel_rfl) (by kernel_rfl) (fun _ _ _ h=>h) (Or.inl ⟨by rfl,?_⟩) (by assumption) ?_
   rotate_left
   ·((intro w' hSw);(try dsimp only at hSw);(try go_simp);(try with_reducible rfl))
   (try simp only [Act.put,List.setIfInBounds_toArray,List.set_cons_zero,List.set_cons_succ])
   refine anyE_takeW (v:=?_) 7 rfl (by kernel_rfl) (by kernel_rfl) (by kernel_rfl) (by decide) (fun _ _ _ h=>h) (Or.inl ⟨by rfl,?_⟩) (by assumption) ?_
   rotate_left
   ·((intro w');(try go_simp);(try with_reducible rfl))
   (try simp only [Act.put,List.setIfInBounds_toArray,List.set_cons_zero,List.set_cons_succ])
   refine anyE_step 8 (by kernel_rfl) rfl (fun K hK=>?_)
   go_simp
   (go_at_call 69;refine (HOF.out _ (hHeld.2.2.out)).mono ?_)
   rintro e wy ⟨rfl,hEz⟩
   go_wp2_with fail
   refine hK.out _ _ ⟨(hEz).cell hHeld.1,(hEz).cell hHeld.2.1,Ext.trans hHeld.2.2.out (hEz)⟩ (fun hHeld=>?_)
   clear hK K
   (try simp only [Act.put,List.setIfInBounds_toArray,List.set_cons_zero,List.set_cons_succ])
   have HWY:Hid (Ext wr wy):=hHeld.2.2
   refine anyE_step 9 (by kernel_rfl) rfl (fun K hK=>?_)
   go_simp
   refine hK.out _ _ ⟨(Ext.alloc _ _).cell hHeld.1,(Ext.alloc _ _).cell hHeld.2.1,Ext.trans hHeld.2.2.out (Ext.alloc _ _)⟩ (fun hHeld=>?_)
   clear hK K
   (try simp only [Act.put,List.setIfInBounds_toArray,List.set_cons_zero,List.set_cons_succ])
   refine anyE_stepZ 10 (by kernel_rfl) (by kernel_rfl) rfl (fun K hK=>?_)
   refine step_append_build wy (by rfl) _ _ 29 (by rfl) w7.heap.size 53 (.string ⟨#[]⟩) 1 16 Tryz.underlying29 infoBigI (by rfl) (by decide) (.slice ao m co) numC (D.take i) y #[.string (intB y)] 53 (by rfl) (HB.out.ext HWY.out) (by rfl) (by rfl) (by simp [Value.oneCell']) (fun _ _=>rfl) HLL2.out (by decide) (Nat.le_trans HSZ.out HWY.out.size) ?_
   intro v' w6 hB6 hg6 hb6 hs6 _
   rw [← HST.out] at hB6
   have HB6:=Lib.hid hB6
   have HG6:Hid (GrownS (·=w3.heap.size) w7 w6):=(HG.out.ext HWY.out).thenBelow hb6 (Nat.le_refl _)
   have HK6:=Lib.hid ((Below.block hb6 w3.heap.size HBL.out).trans (block_ext HBK.out HWY.out))
   obtain ⟨a6,c6,rfl,-⟩:=ListAt.open hB6.list
   obtain ⟨m6,hm6⟩:∃ m,(D.take (i+1)).length=m:=⟨_,rfl⟩
   rw [hm6] at HB6 ⊢
   clear hm6 hB6 hg6 hb6
   have k6:=block_cell HK6.out
   have f6:=block_free HK6.out
   refine hK.out _ _ ?_
   clear hK K
   (try simp only [Act.put,List.setIfInBounds_toArray,List.set_cons_zero,List.set_cons_succ])
   refine anyE_stepZ 11 (by kernel_rfl) (by kernel_rfl) rfl (fun K hK=>?_)
   go_simp
   refine hK.out _ _ ?_
   clear hK K
   (try simp only [Act.put,List.setIfInBounds_toArray,List.set_cons_zero,List.set_cons_succ])
   refine anyE_last 12 (by kernel_rfl) (by kernel_rfl) (by kernel_rfl) rfl (fun K hK=>?_)
   go_simp
   refine hK.out _ _ ?_
   clear hK K
   (try simp only [Act.put,List.setIfInBounds_toArray,List.set_cons_zero,List.set_cons_succ])
   go_wp2_with fail
   go_roundw
   case rel=>exact ⟨i+1,by omega,by go_num,HG6.out.trans (grownBy_S (grown_setCell _ _ _ _) (fun k hk=>by cases hk;rfl)),_,block_set HK6.out 2 _,HB6.out.boxAt HBL.out 2 _⟩
   case measure=>simp [intOf];omega
  ·obtain rfl:i=N:=by omega
   obtain ⟨so,hBK,hBU⟩:=HBB.out
   obtain ⟨ao,co,rfl,-⟩:=ListAt.open hBU.list
   have hml:(D.take i).length=i:=by rw [List.length_take,HD6.out];omega
   rw [hml] at hBK hBU
   have HF:=Lib.hid hBU.list
   have HE9:Hid (Ext w wr):=ext_grownS HE7.out HG.out (fun j hj e=>by have:=HS3.out;omega)
   have HB29:Hid (wr.heap[w.heap.size+1]?=some (.cells #[.int .i64 0,.int .i64 0,.slice none 0 0] 31 (0,0))):=by
    unfold Hid
    rw [← HS1.out,← HB27.out]
    exact HG.out.block _ (block_lt HB27.out) (by have:=HS3.out;omega)
   have kk:=block_cell hBK
   have f9:=block_free HB29.out
   have k9:=block_cell HB29.out
   clear hBK hBU HBB hml
   go_wp2_with fail
   have hb7:=multi_store HB29.out (.int .i64 n) (.int .i64 k) (.slice ao i co)
   refine bodyPost_ret (results_cell_row (by rfl) _ _ (w.heap.size+1) 31 #[.int .i64 n,.int .i64 k,.slice ao i co] (0,0) _ (by rfl) hb7 Tryz.underlying31 (by rfl) (by kernel_rfl)) (by rfl) ⟨_,_,rfl,nums_set HF.out HB29.out (multi_nostr 0 0) (multi_grown _ _ _ _ _),multi_ext HE9.out (by omega) _ _ _⟩
end Go.Proofs.YtjlkkofmojgipaaGreatDoor
namespace Go.Proofs.YtjlkkofmojgipaaGreatDoor
set_option linter.unusedVariables false
set_option linter.unusedSimpArgs false
open Go.RowKit Go.Maps
theorem run_index_struct {P:Program} (w:World) (t e:TypeId) (n m:Nat) (cs:Array Value) (k:IntKind) (i:Int) (j:Nat) (inf:TypeInfo) (h:P.underlying t=some (.array n e)) (hag:∀ w,(isAgg e).run P w=.ok true w) (hinf:P.info? e=some inf) (hc:P.cellsOf e=m) (hi:i=j) (hn:j<n) :
  (Instr.index t (.agg cs) (.int k i)).run P w=.ok (.agg (cs.extract (j*m) (j*m+m))) w:=by
 subst hi
 have h1:(0:Int)≤(j:Int)∧(j:Int)<(n:Int):=by omega
 have hs:∀ w,(sizeOf e).run P w=.ok m w:=fun w=>by rw [run_sizeOf w hinf,hc]
 simp [Instr.index,run_underlying h,asIntOf,h1,hn,part,hs,hag,go_sem]
theorem infoMul : ∃ i, Tryz.prog.info? 31 = some i := by
  cases h : Tryz.prog.info? 31 with
  | some i => exact ⟨i, rfl⟩
  | none => exact absurd h (by have : (Tryz.prog.info? 31).isSome = true := by kernel_rfl
                               intro e; rw [e] at this; cases this)
theorem cellsMul:Tryz.prog.cellsOf 31=3:=by kernel_rfl
def PlacesIn2 (w:World) (b N n k:Nat) (L:List Nat):Prop:=∃ D:DataW Unit,w.ownsMap Tryz.prog 100 (plainElem Tryz.prog 3) b N D∧IsMap D∧(∀ s∈L,D.atKey (.int .u64 (s:Int)) (.lit (.int .i64 0))=.lit (.int .i64 (placeW n k s:Int)))∧Tidy D∧Maps.size D=L.length∧∀ x:Nat,has D (.int .u64 (x:Int))=true→x∈L
def PlacesM2 (w:World) (v:Value) (n k:Nat):Prop:=∃ b N,v=.map (some b)∧PlacesIn2 w b N n k (allW n k)
theorem PlacesM2.one {w:World} {v:Value} {n k:Nat} (h:PlacesM2 w v n k):PlacesM w v n k:=by
 obtain ⟨b,N,hv,D,h1,h2,h3,-⟩:=h
 exact ⟨b,N,hv,D,h1,h2,h3⟩
theorem PlacesIn2.ext {w w':World} {b N n k:Nat} {L:List Nat} (h:PlacesIn2 w b N n k L) (he:Ext w w'):PlacesIn2 w' b N n k L:=by
 obtain ⟨D,h1,h2⟩:=h
 exact ⟨D,h1.kept (he.grown none) (by simp),h2⟩
theorem PlacesM2.ext {w w':World} {v:Value} {n k:Nat} (h:PlacesM2 w v n k) (he:Ext w w'):PlacesM2 w' v n k:=by
 obtain ⟨b,N,hv,h1⟩:=h
 exact ⟨b,N,hv,h1.ext he⟩
theorem PlacesIn2.made (w:World) (n k:Nat):PlacesIn2 (w.alloc (.map #[] 0)) w.heap.size 0 n k []:=⟨.map [],World.ownsMap_made _ _ _ _,⟨_,rfl⟩,(fun s hs=>by cases hs),tidy_empty,rfl,fun x hx=>by cases hx⟩
set_option maxRecDepth 100000 in
set_option maxHeartbeats 1000000 in
theorem places2_any (n k : Nat) (hn : n < 7) (hk : k ≤ n) (w : World) : Calls Tryz.prog 59 #[.int .i64 n, .int .i64 k] w fun e w' => ∃ v, e = .returned v ∧ Ext w w' ∧ PlacesM2 w' v n k := by
  have hmm := @run_makeMap Tryz.prog
  obtain ⟨w1, hw1⟩ : ∃ w1, w1 = w.alloc (.map #[] 0) := ⟨_, rfl⟩
  have HM := Lib.hid (PlacesIn2.made w n k)
  rw [← hw1] at HM
  have HE1 : Hid (Ext w w1) := by rw [hw1]; exact Ext.alloc _ _
  have hsz : w1.heap.size = w.heap.size + 1 := by rw [hw1]; exact World.size_alloc w _
  have HSZ := Lib.hid hsz
  have HC := Lib.hid (all_any n k (by omega) hk w1)
  have HLT := Lib.hid (allW_lt (n := n) (k := k) (by omega) hk)
  have HLN := Lib.hid (allW_len (n := n) (k := k) (by omega) hk)
  have HPL : Hid (∀ i s, (allW n k)[i]? = some s → placeW n k s = i) := fun i s h => place_at hn hk h
  clear hsz
  obtain ⟨L, hL⟩ : ∃ L, allW n k = L := ⟨_, rfl⟩
  rw [hL] at HC HLT HLN HPL
  have HLL := Lib.hid hL
  clear hL
  go_enter Tryz.func59, Tryz.ntmps59
  go_wp2_with fail
  generalize hw9 : w.alloc _ = w9
  obtain rfl : w9 = w1 := by rw [← hw9, hw1]
  refine HC.out.mono ?_
  rintro e w2 ⟨v, rfl, h2, hU⟩
  obtain ⟨a, cap, rfl, hc1, hc2, hcx⟩ := hU.open
  unfold maxLen at hc2
  have HE2 : Hid (Ext w w2) := HE1.out.trans h2
  have HM2 := Lib.hid (HM.out.ext h2)
  have HS2 : Hid (w.heap.size < w2.heap.size) := by have := h2.size; have := HSZ.out; unfold Hid; omega
  have HCX := Lib.hid hcx
  clear h2 hU hcx HC HM hw1 hw9
  obtain ⟨N, hN⟩ : ∃ N, L.length = N := ⟨_, rfl⟩
  have HNN := Lib.hid hN
  rw [hN] at hc1 ⊢
  clear hN
  go_wp2_with fail
  go_loopw [13] (fun t wr => ∃ i : Nat, i ≤ N ∧ t = .int .i64 (i : Int) ∧ Hid (Ext w wr) ∧ Hid (w2.grownBy wr (some w.heap.size)) ∧ Hid (PlacesIn2 wr w.heap.size i n k (L.take i))) (fun t _ => N + 1 - (intOf t).toNat)
  case atStart => exact ⟨0, by omega, by simp, HE2.out, World.grownBy.refl _ _, HM2.out⟩
  case round =>
    obtain ⟨i, hi, rfl, HX, HG, HP⟩ := hrel
    by_cases hlt : i < N
    · obtain ⟨s, hs⟩ : ∃ s, L[i]? = some s := by
        rw [← HNN.out] at hlt
        exact ⟨_, List.getElem?_eq_getElem hlt⟩
      obtain ⟨b, off, rfl, hb, hcell⟩ := HCX.out (by intro e; rw [e] at hs; simp at hs)
      have hc := hcell i s hs
      have hslt : s < 4096 := HLT.out s (List.mem_of_getElem? hs)
      have hne : b ≠ w.heap.size := by
        rintro rfl
        obtain ⟨D, ⟨es, clock, hbk, -⟩, -⟩ := HM2.out
        rw [World.cell?, hbk] at hc
        simp at hc
      have hcx : wr.cell? ⟨b, off + i, none⟩ = some (.int .u64 (s : Int)) := by
        rw [← hc]; unfold World.cell?; rw [HG.out.block b hb (by intro e; cases e; exact hne rfl)]
      have HPI : Hid (placeW n k s = i) := HPL.out i s hs
      obtain ⟨D, hown, hmap, hat, htidy, hsize, hhas⟩ := HP.out
      have HNS : Hid (has D (.int .u64 (s : Int)) = false) := by
        cases hz : has D (.int .u64 (s : Int)) with
        | false => exact rfl
        | true =>
          exfalso
          obtain ⟨j, hj⟩ := List.mem_iff_getElem?.1 (hhas s hz)
          rw [List.getElem?_take] at hj
          by_cases hji : j < i
          · rw [if_pos hji] at hj
            have := HPL.out j s hj
            have := HPL.out i s hs
            omega
          · rw [if_neg hji] at hj; cases hj
      have HTD := Lib.hid htidy; have HSI := Lib.hid hsize; have HHA := Lib.hid hhas
      have HLEN : Hid ((L.take (i + 1)).length = (L.take i).length + 1) := by
        show (L.take (i + 1)).length = (L.take i).length + 1
        rw [List.length_take, List.length_take, HNN.out]; omega
      have HAT := Lib.hid hat; have HMP := Lib.hid hmap
      have HS := Lib.hid hs; have HSL := Lib.hid hslt
      clear hs hcell hc hne hat hmap HP hslt hb htidy hsize hhas
      go_wp2_with (first
        | (at_mapUpdate; refine wpList_mapUpdate_own _ rfl _ _ _ 96 rfl 100 3 lawU Tryz.underlying96 _ w.heap.size i _ rfl hown (by unfold maxLen; omega) _ _ _ rfl rfl (keyU HSL.out) _ [] (plainElem_int Tryz.underlying3 (WalkArith.wf_i64 (by omega))) ?_; intro w5 hown5 hgrow5)
        | fail)
      have HE5 : Hid (Ext w w5) := Below.grown HX.out hgrow5 (Nat.le_of_lt (by have := HG.out.size; have := HS2.out; omega)) (fun j hj => by cases hj; exact Nat.le_refl _)
      have HG5 : Hid (w2.grownBy w5 (some w.heap.size)) := grown_trans HG.out hgrow5
      have HP5 : Hid (PlacesIn2 w5 w.heap.size (i + 1) n k (L.take (i + 1))) := by
        refine ⟨_, hown5, isMap_put HMP.out _ _, fun x hx => ?_, HTD.out.put (by exact trivial) _, (by rw [size_put HTD.out, HNS.out, HLEN.out, HSI.out]; rfl), fun x hx => ?_⟩
        · by_cases hxs : x = s
          · subst hxs
            rw [atKey_put_same HMP.out (by exact trivial), HPI.out]
          · rw [atKey_put_other (fun e => hxs (by injection e with _ e; exact Int.ofNat.inj e))]
            refine HAT.out x ?_
            rw [List.take_add_one, HS.out] at hx
            simpa [hxs] using hx
        · by_cases hxs : x = s
          · rw [hxs]
            exact List.mem_iff_getElem?.2 ⟨i, by rw [List.getElem?_take, if_pos (by omega)]; exact HS.out⟩
          · rw [has_put_other (fun e => hxs (by injection e with _ e; exact Int.ofNat.inj e))] at hx
            have h7 := HHA.out x hx
            rw [List.take_add_one]
            exact List.mem_append_left _ h7
      clear hown5 hgrow5
      go_roundw
      case rel => exact ⟨i + 1, by omega, by go_num, HE5.out, HG5.out, HP5.out⟩
      case measure => simp [intOf]; omega
    · obtain rfl : i = N := by omega
      have HP9 : Hid (PlacesIn2 wr w.heap.size i n k (allW n k)) := by
        have := HP.out
        rw [← HNN.out, List.take_length, ← HLL.out] at this
        rw [← HNN.out, ← HLL.out]; exact this
      clear HP
      go_wp2_with fail
      go_ret
      exact ⟨_, rfl, HX.out, _, _, rfl, HP9.out⟩
end Go.Proofs.YtjlkkofmojgipaaGreatDoor
namespace Go.Proofs.YtjlkkofmojgipaaGreatDoor
set_option linter.unusedVariables false
open Go.RowKit
section
variable {P:Program} {ops O:Array Oper} {Q:Exit→Act→World→Prop} {md:Region.Mode} {S:World→Prop} {z n:Nat}
def waitB (md:Region.Mode) (ops:Array Oper) (a i:Nat):Bool:=match ops[a]? with
 | some o=>o.after.any fun e=>Region.binds md e && e.on == i
 | none=>false
def pathB (md:Region.Mode) (ops:Array Oper):Nat→List Nat→Nat→Bool
 | a,[],i=>waitB md ops a i
 | a,b::bs,i=>waitB md ops a b && pathB md ops b bs i
theorem path_reach : ∀ (bs : List Nat) (a i : Nat), pathB md ops a bs i = true → reachB md ops (bs.length + 1) a i = true
  | [], a, i, h => by
    unfold pathB waitB at h
    unfold reachB
    cases hq : ops[a]? with
    | none => rw [hq] at h; cases h
    | some o =>
      rw [hq] at h
      obtain ⟨e, he, hb⟩ := Array.any_eq_true'.1 h
      exact Array.any_eq_true'.2 ⟨e, he, by simp only [Bool.and_eq_true, Bool.or_eq_true] at hb ⊢; exact ⟨hb.1, Or.inl hb.2⟩⟩
  | b :: bs, a, i, h => by
    unfold pathB waitB at h
    rw [Bool.and_eq_true] at h
    have ih := path_reach bs b i h.2
    have h := h.1
    show reachB md ops (bs.length + 1 + 1) a i = true
    unfold reachB
    cases hq : ops[a]? with
    | none => rw [hq] at h; cases h
    | some o =>
      rw [hq] at h
      obtain ⟨e, he, hb⟩ := Array.any_eq_true'.1 h
      simp only [Bool.and_eq_true, beq_iff_eq] at hb
      exact Array.any_eq_true'.2 ⟨e, he, by simp only [Bool.and_eq_true, Bool.or_eq_true]; exact ⟨hb.1, Or.inr (by rw [hb.2]; exact ih)⟩⟩
theorem anyE_takeP (hO:Hid (ops=O)) (i:Nat) (bs:List Nat) {oi:Oper} {v:Value} {f:Nat} {l:Array Bool} {a:Act} {w:World} (hi:ops[i]?=some oi)
  (hs:Region.noSelect O=true) (hc:closedB md O l=true) (hf:Region.free md O l i=true) (hr:(Region.ready md O l).contains i=true) (hz:pathB md O z bs i=true)
  (hQ:∀ c a w,Q (.panic c) (a.put oi.dst v) w→Q (.panic c) a w) (hy:YieldsIf P O S oi v a) (hS:S w)
  (h:anyE P md ops Q S z f (l.setIfInBounds i true) (a.put oi.dst v) w):anyE P md ops Q S z (f+1) l a w:=by
 have hO:ops=O:=hO
 subst hO
 exact anyE_first hi (Region.noSelect_spec hs) hQ (path_reach bs z i hz) f l a w (Region.free_spec hi hf) (closedB_spec hc) (by simpa using hr) hy hS h
theorem anyE_lastP (hO:Hid (ops=O)) (i:Nat) {o:Oper} {f:Nat} {l:Array Bool} {a:Act} {w:World} (hr:Region.ready md O l=[i]) (hr2:Region.ready md O (l.setIfInBounds i true)=[]) (hz:(l.setIfInBounds i true).getD z false=true) (ho:ops[i]?=some o)
  (h:∀ K:Act→World→Prop,Shut (∀ b u,Q .normal b u→K b u)→if Region.wanted o (yielded O a.tmps)=true then Oper.wp P o a w K Q else K (a.put o.dst undef) w):anyE P md ops Q S z (f+1) l a w:=by
 have hO:ops=O:=hO
 subst hO
 exact anyE_last i hr hr2 hz ho h
end
end Go.Proofs.YtjlkkofmojgipaaGreatDoor
