import Derived.Test.YtjlkkofmojgipaaGreatDoorXBP
import Derived.Test.YtjlkkofmojgipaaGreatDoorXBQ
import Derived.Test.YtjlkkofmojgipaaGreatDoorXAZ
import Derived.Test.YtjlkkofmojgipaaGreatDoorXBL
namespace Go.Proofs.YtjlkkofmojgipaaGreatDoor
set_option linter.unusedVariables false
set_option linter.unusedSimpArgs false
open Go.RowKit Go.Maps
theorem RowN.numsZ {w:World} {g c:Nat} {l:List Int} (h:RowN w g l) (h1:l.length≤c) (h2:c≤9223372036854775807):ListAt 1 numC w (.slice (some ⟨g,0,none⟩) l.length c) l:=by
 refine ⟨l.map fun n=>[Value.string (intB n)],by simp,by simp,⟨_,c,rfl,h1,by unfold maxLen;omega,fun e=>by simp at e,fun _=>⟨g,0,rfl,h.lt,fun j u hu=>?_⟩⟩,fun j u x hu hx=>?_⟩
 ·rw [flatten_one (fun n=>Value.string (intB n)),List.getElem?_map] at hu
  cases hx:l[j]? with
  | none=>rw [hx] at hu;cases hu
  | some x =>
   rw [hx] at hu
   simp only [Option.map_some,Option.some.injEq] at hu
   rw [Nat.zero_add,← hu]
   exact h.cell j x hx
 ·rw [List.getElem?_map,hx] at hu
  exact (Option.some.inj hu).symm
def NoS (w w':World):Prop:=w.heap.size≤w'.heap.size∧∀ a v,w.cell? a=some v→(∀ s,v≠.string s)→w'.cell? a=some v
theorem NoS.refl (w:World):NoS w w:=⟨Nat.le_refl _,fun _ _ h _=>h⟩
theorem NoS.ext {w w' w'':World} (h:NoS w w') (he:Ext w' w''):NoS w w'':=⟨Nat.le_trans h.1 he.size,fun a v hv hs=>he.cell (h.2 a v hv hs)⟩
theorem NoS.set {w w':World} {g p:Nat} {X:List Int} {v:ByteArray} (h:NoS w w') (hR:RowN w' g X) (hp:p<X.length):NoS w (w'.setCell ⟨g,p,none⟩ (.string v)):=by
 refine ⟨by rw [setCell_sizeQ];exact h.1,fun a u hu hs=>?_⟩
 have h1:=h.2 a u hu hs
 have hne:a≠⟨g,p,none⟩:=by
  rintro rfl
  rw [hR.cell p _ (List.getElem?_eq_getElem hp)] at h1
  exact hs _ (Option.some.inj h1).symm
 rw [World.cell?_setCell_other w' _ _ _ (fun e=>hne e.symm)]
 exact h1
theorem Ints.noS {w w':World} {v:Value} {xs:List Int} (h:Ints w v xs) (hn:NoS w w'):Ints w' v xs:=by
 obtain ⟨us,h1,h2,⟨a,cap,rfl,q1,q2,q3,q4⟩,h4⟩:=h
 refine ⟨us,h1,h2,⟨a,cap,rfl,q1,q2,q3,fun hne=>?_⟩,fun j u x hu hx=>h4 j u x hu hx⟩
 obtain ⟨b,off,ha,hb,hc⟩:=q4 hne
 refine ⟨b,off,ha,Nat.lt_of_lt_of_le hb hn.1,fun j u hu=>?_⟩
 refine hn.2 _ _ (hc j u hu) fun s e=>?_
 obtain ⟨l,hl,hul⟩:=List.mem_flatten.1 (List.mem_of_getElem? hu)
 obtain ⟨i,hi⟩:=List.getElem?_of_mem hl
 obtain ⟨x,hx⟩:∃ x,xs[i]?=some x:=⟨_,List.getElem?_eq_getElem (by rw [← h1];exact (List.getElem?_eq_some_iff.1 hi).1)⟩
 have h5:=(h4 i l x hi hx).1
 rw [h5,List.mem_singleton] at hul
 rw [hul] at e
 cases e
theorem rows_noS {w w':World} {v:Value} {xss:List (List Int)} (h:Rows2 w v xss) (hn:NoS w w'):Rows2 w' v xss:=by
 obtain ⟨us,h1,h2,⟨a,cap,rfl,q1,q2,q3,q4⟩,h4⟩:=h
 refine ⟨us,h1,h2,⟨a,cap,rfl,q1,q2,q3,fun hne=>?_⟩,fun j u x hu hx=>?_⟩
 ·obtain ⟨b,off,ha,hb,hc⟩:=q4 hne
  refine ⟨b,off,ha,Nat.lt_of_lt_of_le hb hn.1,fun j u hu=>?_⟩
  refine hn.2 _ _ (hc j u hu) fun s e=>?_
  obtain ⟨l,hl,hul⟩:=List.mem_flatten.1 (List.mem_of_getElem? hu)
  obtain ⟨i,hi⟩:=List.getElem?_of_mem hl
  obtain ⟨x,hx⟩:∃ x,xss[i]?=some x:=⟨_,List.getElem?_eq_getElem (by rw [← h1];exact (List.getElem?_eq_some_iff.1 hi).1)⟩
  obtain ⟨v,hv,hv2⟩:=h4 i l x hi hx
  rw [hv,List.mem_singleton] at hul
  obtain ⟨ag,cg',hv3,-⟩:=ListAt.open hv2
  rw [hul,hv3] at e
  cases e
 ·obtain ⟨v,hv,hv2⟩:=h4 j u x hu hx
  exact ⟨v,hv,hv2.noS hn⟩
theorem step_append_manyI {ops:Array Oper} {o:Oper} {a:Act} {K:Act→World→Prop} {Q:Exit→Act→World→Prop} {E:Prop} (hgd:o.guard=none) (w:World) (s x:Operand) (T2:TypeId) (ht2:Tryz.prog.underlying T2=some (TypeDesc.slice 3)) (ho:o.op=.call { callee:=.builtin .append,args:=#[s,x],argTypes:=#[T2,T2] }) (B:Nat)
  (v:Value) (l ys:List Int) (u:Value) (hs:a.eval s=v) (hB:OwnR B w v l) (hx:a.eval x=u) (hu:Ints w u ys) (hlen:l.length+ys.length<1000000) (hbase:B≤w.heap.size)
  (h:∀ v' w',OwnR B w' v' (l++ys)→Below B w w'→K (a.put o.dst v') w'):if Region.wanted o (yielded ops a.tmps)=true then Oper.wp Tryz.prog o a w K Q else E:=by
 rw [if_pos (by unfold Region.wanted;rw [hgd])]
 obtain ⟨ad,c,rfl,h1,h2,h3,hb,hc⟩:=hu.open
 obtain ⟨i0,hi,hz0,hz1,hz2⟩:=info_parts infoInt
 cases ad with
 | none =>
  have h0:ys=[]:=by have:=h3 rfl;exact List.eq_nil_of_length_eq_zero (by omega)
  subst h0
  obtain rfl:c=0:=h3 rfl
  have hrun:=run_append_owned_none (P:=Tryz.prog) (w:=w) B T2 o.type 3 i0 1 ht2 hi v l.length (l.map (Value.int .i64 ·)) hB
  unfold Oper.wp
  simp [execOp,ho,resolve,invoke,builtin,hs,hx,hrun,Result.andThen]
  exact h _ _ (by rw [List.append_nil];exact hB) (Below.refl _ _)
 | some ad =>
  have hnews:∀ (j:Nat) (u:Value),(ys.map (Value.int .i64))[j]?=some u→w.cell? (ad.add j)=some u:=by
   intro j u hu
   rw [List.getElem?_map] at hu
   cases hj:ys[j]? with
   | none=>simp [hj] at hu
   | some x =>
    simp [hj] at hu;subst hu
    obtain ⟨b,off,hab,hbw,hcell⟩:=hc (by intro e;simp [e] at hj)
    cases hab
    have:=hcell j x hj
    rw [show (⟨b,off,none⟩:Addr).add j=⟨b,off+j,none⟩ by unfold Addr.add;split <;> simp_all]
    exact this
  refine wp_append_own_at w s x T2 ho B 3 i0 (.int .i64 0) 1 8 ht2 hi hz0 hz1 hz2 rfl (by decide) v l.length (l.map (Value.int .i64 ·)) hs hB ad ys.length c (ys.map (Value.int .i64)) hx (by simp) hnews (ints_oneCell _ _) (by unfold maxLen;omega) (by omega) hbase ?_
  intro v' w' hown' hgrow _ _
  refine h v' w' (by simpa [OwnR] using hown') (Below.grown (Below.refl _ _) hgrow hbase (by intro k hk;exact (hB.lt k hk).1))
set_option maxRecDepth 100000 in
set_option maxHeartbeats 4000000 in
theorem refProd10_any {n ka kb:Nat} {A B:List Int} (hn:n<6) (hA:RightM n ka A) (hB:RightM n kb B) (hk:ka+kb≤n) (u v:Value) (w:World) (h:MultiV w u n ka A) (hv:MultiV w v n kb B) (ht:Pow10 w) :
  Calls Tryz.prog 43 #[u,v] w fun e w'=>∃ y,e=.returned y∧Ext w w'∧MultiV w' y n (ka+kb) (prodL n ka kb A B):=by
 obtain ⟨ua,rfl,hua⟩:=h
 obtain ⟨ub,rfl,hub⟩:=hv
 obtain ⟨a,ca,rfl,a1,a2,-,ac⟩:=inCell.open (BigL.of_nums hua)
 obtain ⟨b,cb,rfl,b1,b2,-,bc⟩:=inCell.open (BigL.of_nums hub)
 unfold maxLen at a2 b2
 have HAC:=Lib.hid ac;have HBC:=Lib.hid bc
 have HAR:=Lib.hid hA;have HBR:=Lib.hid hB
 have HT:=Lib.hid ht
 have HN:=Lib.hid hn
 obtain ⟨ma,hma⟩:∃ m,A.length=m:=⟨_,rfl⟩
 obtain ⟨mb,hmb⟩:∃ m,B.length=m:=⟨_,rfl⟩
 have HMA:=Lib.hid hma;have HMB:=Lib.hid hmb
 rw [hma] at a1 ⊢
 rw [hmb] at b1 ⊢
 obtain ⟨w1,hw1,hE1,hs1,hb1⟩:=boxR w (.int .i64 n) (.int .i64 ka) (.slice a ma ca)
 obtain ⟨w2,hw2,hE2,hs2,hb2⟩:=boxR w1 (.int .i64 n) (.int .i64 kb) (.slice b mb cb)
 obtain ⟨w3,hw3,hE3,hs3,hb3⟩:=boxR w2 (.int .i64 0) (.int .i64 0) (.slice none 0 0)
 have HE3:=Lib.hid ((hE1.trans hE2).trans hE3)
 have HB1:=Lib.hid (block_ext hb1 (hE2.trans hE3));have HB2:=Lib.hid (block_ext hb2 hE3);have HB3:=Lib.hid hb3
 have HSZ:Hid (w1.heap.size=w.heap.size+1∧w2.heap.size=w1.heap.size+1∧w3.heap.size=w2.heap.size+1):=⟨hs1,hs2,hs3⟩
 have k1:=block_cell HB1.out;have k2:=block_cell HB2.out
 obtain ⟨d,hd⟩:∃ d,ka+kb=d:=⟨_,rfl⟩
 have HD:=Lib.hid hd
 have e1:IntKind.i64.wrap ((ka:Int)+(kb:Int))=(d:Int):=by rw [IntKind.wrap_i64];omega
 have hdn:d≤n:=by omega
 obtain ⟨D,hD⟩:∃ D,prodL n ka kb A B=D:=⟨_,rfl⟩
 have HDD:=Lib.hid hD
 rw [hD,hd]
 have hHA:=hA.kn;have hHB:=hB.kn
 have HHA:=Lib.hid hHA;have HHB:=Lib.hid hHB;have HDN:=Lib.hid hdn
 have HSA:Hid (∀ k,k≤n→∀ W,Calls Tryz.prog 33 #[.int .i64 (n:Int),.int .i64 (k:Int)] W fun e w'=>∃ a6 c6,e=.returned (.slice a6 (allW n k).length c6)∧Rows2 w' (.slice a6 (allW n k).length c6) (castS (setsL n k))∧Ext W w'):=fun k hk W=>(refSets_any n k (by have:=HN.out;omega) hk W).mono fun e w' ⟨v,h1,h2,h3⟩=>by
  obtain ⟨a6,c6,rfl,-⟩:=ListAt.open h2
  have hl:(castS (setsL n k)).length=(allW n k).length:=by unfold castS;rw [List.length_map,← agree_len n (by have:=HN.out;omega) k (by omega)]
  rw [hl] at h1 h2
  exact ⟨a6,c6,h1,h2,h3⟩
 have HZR:Hid (∀ W,Calls Tryz.prog 66 #[.int .i64 n,.int .i64 d] W _):=fun W=>refZero10_any n d (by have:=HN.out;omega) hdn W
 obtain ⟨z,hz⟩:∃ z,(allW n d).length=z:=⟨_,rfl⟩
 obtain ⟨N1,hN1⟩:∃ z,(allW n ka).length=z:=⟨_,rfl⟩
 obtain ⟨N2,hN2⟩:∃ z,(allW n kb).length=z:=⟨_,rfl⟩
 have HZ:=Lib.hid hz;have HN1:=Lib.hid hN1;have HN2:=Lib.hid hN2
 rw [hz] at HZR
 have HS1:=Lib.hid (HSA.out ka hHA);have HS2:=Lib.hid (HSA.out kb hHB);have HS3:=Lib.hid (HSA.out d hdn)
 rw [hN1] at HS1;rw [hN2] at HS2;rw [hz] at HS3
 clear hb1 hb2 hb3 hE1 hE2 hE3 hua hub hs1 hs2 hs3 hA hB hma hmb hD hd ac bc ht hk HSA hz hN1 hN2 hHA hHB
 go_enter Tryz.func43,Tryz.ntmps43
 go_wp2_with fail
 refine (HZR.out w3).mono ?_
 rintro e w4 ⟨g,cg,rfl,hRN,hgl,hgr,hgc,hgm,h4⟩
 have HRN4:=Lib.hid hRN;have HGC:=Lib.hid hgc;have HGM:=Lib.hid hgm;have HGL:=Lib.hid hgl;have HGR:=Lib.hid hgr
 have HE4:Hid (Ext w3 w4):=h4
 obtain ⟨w5a,hw5,hE5,hs5,hb5⟩:=boxR w4 (.int .i64 0) (.int .i64 0) (.slice none 0 0)
 have HE5:=Lib.hid hE5;have HB5:=Lib.hid hb5
 have f5:=block_free hb5
 have k5:=block_cell hb5
 clear hRN hgl hgr hgc hgm h4 HZR hE5 hs5 hb5 k1 k2 hw1 hw2 hw3
 go_upto_region 2 with fail
 generalize hw9:World.setCell _ _ _=w5
 have HBO5:Hid (w5.heap[w4.heap.size]?=some (.cells #[.int .i64 n,.int .i64 d,.slice (some ⟨g,0,none⟩) z cg] 37 (0,0))):=by rw [← hw9];exact store3 HB5.out _ _ _
 have HX45:Hid (Ext w4 w5):=by rw [← hw9];exact multi_ext HE5.out (Nat.le_refl _) _ _ _
 have HX35:Hid (Ext w3 w5):=HE4.out.trans HX45.out
 have HB15:=Lib.hid (block_ext HB1.out HX35.out)
 have HB25:=Lib.hid (block_ext HB2.out HX35.out)
 have HB35:=Lib.hid (block_ext HB3.out HX35.out)
 have HR5:=Lib.hid (HRN4.out.ext HX45.out)
 clear hw9 hw5 k5 f5
 obtain ⟨x1,hx1⟩:∃ x,w1.heap.size=x:=⟨_,rfl⟩
 obtain ⟨x2,hx2⟩:∃ x,w2.heap.size=x:=⟨_,rfl⟩
 obtain ⟨x4,hx4⟩:∃ x,w4.heap.size=x:=⟨_,rfl⟩
 have HOO:Hid (w.heap.size<x1∧x1<x2∧x2<g∧g<x4∧w3.heap.size≤g):=by have:=HSZ.out;have:=HGL.out;have:=HGR.out;unfold Hid;omega
 rw [hx1] at HB25
 rw [hx2] at HB35
 rw [hx4] at HBO5
 (try rw [hx1]);(try rw [hx2]);(try rw [hx4])
 clear hx1 hx2 hx4
 have c0:=block_cell HB15.out 0;have c1:=block_cell HB15.out 1;have c2:=block_cell HB25.out 0;have c3:=block_cell HB25.out 1
 simp only [List.getElem?_toArray,List.getElem?_cons_succ,List.getElem?_cons_zero] at c0 c1 c2 c3
 refine region_anyEV (fun w'=>w'.cell? ⟨w.heap.size,0,none⟩=some (.int .i64 n)∧w'.cell? ⟨w.heap.size,1,none⟩=some (.int .i64 ka)∧w'.cell? ⟨x1,0,none⟩=some (.int .i64 n)∧w'.cell? ⟨x1,1,none⟩=some (.int .i64 kb)∧Hid (Ext w5 w')) 12 12 (by kernel_rfl) (by kernel_rfl) ⟨(Ext.drew w5).cell c0,(Ext.drew w5).cell c1,(Ext.drew w5).cell c2,(Ext.drew w5).cell c3,Ext.drew w5⟩ (fun ops hO hHeld=>?_)
 have hi:=getopN hO 0 (by decide)
 conv at hi=>rhs;arg 1;whnf
 refine tX hO (v:=?_) 0 hi (Or.inl ⟨by rfl,?_⟩) ?_
 rotate_left
 ·((intro w');(try go_simp);(try with_reducible rfl))
 clear hi
 (try simp only [Act.put,sx1,sx2,sx3])
 have hi:=getopN hO 1 (by decide)
 conv at hi=>rhs;arg 1;whnf
 refine tY hO (v:=?_) 1 hi (Or.inl ⟨by rfl,?_⟩) ?_
 rotate_left
 ·((intro w' hSw);(try dsimp only at hSw);(try go_simp);(try with_reducible rfl))
 clear hi
 (try simp only [Act.put,sx1,sx2,sx3])
 have hi:=getopN hO 2 (by decide)
 conv at hi=>rhs;arg 1;whnf
 refine tX hO (v:=?_) 2 hi (Or.inl ⟨by rfl,?_⟩) ?_
 rotate_left
 ·((intro w');(try go_simp);(try with_reducible rfl))
 clear hi
 (try simp only [Act.put,sx1,sx2,sx3])
 have hi:=getopN hO 3 (by decide)
 conv at hi=>rhs;arg 1;whnf
 refine tY hO (v:=?_) 3 hi (Or.inl ⟨by rfl,?_⟩) ?_
 rotate_left
 ·((intro w' hSw);(try dsimp only at hSw);(try go_simp);(try with_reducible rfl))
 clear hi
 (try simp only [Act.put,sx1,sx2,sx3])
 have hi:=getopN hO 5 (by decide)
 conv at hi=>rhs;arg 1;whnf
 refine tX hO (v:=?_) 5 hi (Or.inl ⟨by rfl,?_⟩) ?_
 rotate_left
 ·((intro w');(try go_simp);(try with_reducible rfl))
 clear hi
 (try simp only [Act.put,sx1,sx2,sx3])
 have hi:=getopN hO 6 (by decide)
 conv at hi=>rhs;arg 1;whnf
 refine tY hO (v:=?_) 6 hi (Or.inl ⟨by rfl,?_⟩) ?_
 rotate_left
 ·((intro w' hSw);(try dsimp only at hSw);(try go_simp);(try with_reducible rfl))
 clear hi
 (try simp only [Act.put,sx1,sx2,sx3])
 have hi:=getopN hO 7 (by decide)
 conv at hi=>rhs;arg 1;whnf
 refine tX hO (v:=?_) 7 hi (Or.inl ⟨by rfl,?_⟩) ?_
 rotate_left
 ·((intro w');(try go_simp);(try with_reducible rfl))
 clear hi
 (try simp only [Act.put,sx1,sx2,sx3])
 have hi:=getopN hO 8 (by decide)
 conv at hi=>rhs;arg 1;whnf
 refine tY hO (v:=?_) 8 hi (Or.inl ⟨by rfl,?_⟩) ?_
 rotate_left
 ·((intro w' hSw);(try dsimp only at hSw);(try go_simp);(try with_reducible rfl))
 clear hi
 (try simp only [Act.put,sx1,sx2,sx3])
 have hi:=getopN hO 4 (by decide)
 conv at hi=>rhs;arg 1;whnf
 refine anyE_stepV hO 4 (by kernel_rfl) hi (fun K hK=>?_)
 go_simp
 (go_at_call 33;refine (HS1.out _).mono ?_)
 rintro e wz1 ⟨s1,q1,rfl,hR1,hEz⟩
 have HR1:=Lib.hid hR1
 have HY1:Hid (Ext w5.drew wz1):=hEz
 go_wp2_with fail
 refine hK.out _ _ ⟨(hEz).cell hHeld.1,(hEz).cell hHeld.2.1,(hEz).cell hHeld.2.2.1,(hEz).cell hHeld.2.2.2.1,Ext.trans hHeld.2.2.2.2.out (hEz)⟩ (fun hHeld=>?_)
 clear hK K hi
 (try simp only [Act.put,sx1,sx2,sx3])
 have hi:=getopN hO 9 (by decide)
 conv at hi=>rhs;arg 1;whnf
 refine anyE_stepV hO 9 (by kernel_rfl) hi (fun K hK=>?_)
 go_simp
 (go_at_call 33;refine (HS2.out _).mono ?_)
 rintro e wz2 ⟨s2,q2,rfl,hR2,hEz⟩
 have HR2:=Lib.hid hR2
 have HY2:Hid (Ext wz1 wz2):=hEz
 go_wp2_with fail
 refine hK.out _ _ ⟨(hEz).cell hHeld.1,(hEz).cell hHeld.2.1,(hEz).cell hHeld.2.2.1,(hEz).cell hHeld.2.2.2.1,Ext.trans hHeld.2.2.2.2.out (hEz)⟩ (fun hHeld=>?_)
 clear hK K hi
 (try simp only [Act.put,sx1,sx2,sx3])
 have hi:=getopN hO 10 (by decide)
 conv at hi=>rhs;arg 1;whnf
 refine tX hO (v:=?_) 10 hi (Or.inl ⟨by rfl,?_⟩) ?_
 rotate_left
 ·((intro w');(try go_simp);(try with_reducible rfl))
 clear hi
 (try simp only [Act.put,sx1,sx2,sx3])
 have hi:=getopN hO 11 (by decide)
 conv at hi=>rhs;arg 1;whnf
 refine anyE_lastV hO 11 (by kernel_rfl) (by kernel_rfl) hi (fun K hK=>?_)
 go_simp
 refine hK.out _ _ (by assumption) ?_
 clear hK K hi hO
 (try simp only [Act.put,sx1,sx2,sx3])
 obtain ⟨c0,c1,c2,c3,HX52⟩:=hHeld
 go_wp2_with fail
 refine (HS3.out wz2).mono ?_
 rintro e wS ⟨s3,q3,rfl,hR3,hE3⟩
 have HX5S:Hid (Ext w5 wS):=HX52.out.trans hE3
 have HX3S:Hid (Ext w3 wS):=HX35.out.trans HX5S.out
 have HES:Hid (Ext w wS):=HE3.out.trans HX3S.out
 have HR1S:=Lib.hid (Rows2.ext HR1.out (HY2.out.trans hE3));have HR2S:=Lib.hid (Rows2.ext HR2.out hE3);have HR3S:=Lib.hid hR3
 have HB1S:=Lib.hid (block_ext HB15.out HX5S.out);have HB2S:=Lib.hid (block_ext HB25.out HX5S.out);have HB3S:=Lib.hid (block_ext HB35.out HX5S.out);have HBOS:=Lib.hid (block_ext HBO5.out HX5S.out)
 have HRS:=Lib.hid (HR5.out.ext HX5S.out)
 clear hE3 hR3 c0 c1 c2 c3 HS1 HS2 HS3
 obtain ⟨av1,cv1,hv1,m1,M1,-,y1⟩:=inCell.open HR1S.out
 obtain ⟨av2,cv2,hv2,m2,M2,-,y2⟩:=inCell.open HR2S.out
 obtain ⟨av3,cv3,hv3,m3,M3,-,-⟩:=inCell.open HR3S.out
 have hl1:(castS (setsL n ka)).length=N1:=by unfold castS;rw [List.length_map,← agree_len n (by have:=HN.out;omega) ka (by have:=HHA.out;omega)];exact HN1.out
 have hl2:(castS (setsL n kb)).length=N2:=by unfold castS;rw [List.length_map,← agree_len n (by have:=HN.out;omega) kb (by have:=HHB.out;omega)];exact HN2.out
 have hl3:(castS (setsL n d)).length=z:=by unfold castS;rw [List.length_map,← agree_len n (by have:=HN.out;omega) d (by have:=HDN.out;omega)];exact HZ.out
 rw [hl1] at m1 hv1
 rw [hl2] at m2 hv2
 rw [hl3] at m3 hv3
 simp only [Value.slice.injEq] at hv1 hv2 hv3
 obtain ⟨rfl,-,rfl⟩:=hv1
 obtain ⟨rfl,-,rfl⟩:=hv2
 obtain ⟨rfl,-,rfl⟩:=hv3
 unfold maxLen at M1 M2 M3
 have HY1c:=Lib.hid y1;have HY2c:=Lib.hid y2
 have HG1:Hid (∀ W,NoS wS W→∀ (i s:Nat),(allW n ka)[i]?=some s→∃ b o v,s1=some ⟨b,o,none⟩∧W.cell? ⟨b,o+i,none⟩=some v∧Ints W v (natsI (membL s))):=fun W hW i s hs=>by
  have hT:(castS (setsL n ka))[i]?=some (natsI (membL s)):=by unfold castS;rw [List.getElem?_map,sets_get (by have:=HN.out;omega) HHA.out hs];rfl
  obtain ⟨b,o,he,-,hc⟩:=HY1c.out (by intro e;rw [e] at hT;simp at hT)
  obtain ⟨v,hv,hcell⟩:=hc i _ hT
  obtain ⟨ag,cg',rfl,-⟩:=ListAt.open hv
  exact ⟨b,o,_,he,hW.2 _ _ hcell (fun s e=>by cases e),hv.noS hW⟩
 have HG2:Hid (∀ W,NoS wS W→∀ (i s:Nat),(allW n kb)[i]?=some s→∃ b o v,s2=some ⟨b,o,none⟩∧W.cell? ⟨b,o+i,none⟩=some v∧Ints W v (natsI (membL s))):=fun W hW i s hs=>by
  have hT:(castS (setsL n kb))[i]?=some (natsI (membL s)):=by unfold castS;rw [List.getElem?_map,sets_get (by have:=HN.out;omega) HHB.out hs];rfl
  obtain ⟨b,o,he,-,hc⟩:=HY2c.out (by intro e;rw [e] at hT;simp at hT)
  obtain ⟨v,hv,hcell⟩:=hc i _ hT
  obtain ⟨ag,cg',rfl,-⟩:=ListAt.open hv
  exact ⟨b,o,_,he,hW.2 _ _ hcell (fun s e=>by cases e),hv.noS hW⟩
 have HG3:Hid (∀ W,NoS wS W→Rows2 W (.slice s3 z q3) (castS (setsL n d))):=fun W hW=>rows_noS HR3S.out hW
 clear y1 y2 hl1 hl2 hl3
 have hL1:=allW_len (n:=n) (k:=ka) (by have:=HN.out;omega) HHA.out
 have hL2:=allW_len (n:=n) (k:=kb) (by have:=HN.out;omega) HHB.out
 have hL3:=allW_len (n:=n) (k:=d) (by have:=HN.out;omega) HDN.out
 rw [HN1.out] at hL1;rw [HN2.out] at hL2;rw [HZ.out] at hL3
 have HL1:=Lib.hid hL1;have HL2:=Lib.hid hL2;have HL3:=Lib.hid hL3
 have HPR:Hid (∀ s∈allW n ka,∀ t∈allW n kb,(s &&& t=0∧mergedL (membL s) (membL t)=some (membL (s ||| t))∧(s ||| t)∈allW n d∧oddW s t=oddL (membL s++membL t))∨(s &&& t≠0∧mergedL (membL s) (membL t)=none)):=fun s hs t ht=>by
  have h9:=pair_get (n:=n) HN.out HHA.out (by rw [HD.out];exact HDN.out) hs ht
  rw [HD.out] at h9;exact h9
 have HPZ:Hid (∀ r∈allW n d,placeW n d r=placeL (setsL n d) (membL r)∧placeW n d r<z):=fun r hr=>by
  have h9:=place_get (n:=n) (by have:=HN.out;omega) HDN.out hr
  rw [HZ.out] at h9;exact h9
 have HLP:Hid (∀ i,(prodTo n ka kb A B i).length=z):=fun i=>by rw [prodTo_len,HD.out];exact HZ.out
 have HRZ:Hid (∀ i k,i≤924→k≤924→∀ x∈rowP n ka kb A B i (prodTo n ka kb A B i) k,(intB x).size≤2000):=fun i k hi hk=>row_size HAR.out.dig HBR.out.dig hi hk (by rw [HN2.out];exact HL2.out)
 have HST:Hid (∀ i k s t x y acc,(allW n ka)[i]?=some s→(allW n kb)[k]?=some t→A[i]?=some x→B[k]?=some y→stepP n ka kb A B i k acc=if s &&& t≠0∨x=0∨y=0 then acc else addAt acc (placeW n d (s ||| t)) (sgnI (x*y) (oddW s t))):=fun i k s t x y acc hs ht hx hy=>by
  have:=stepP_at (acc:=acc) hs ht hx hy
  rw [HD.out] at this;exact this
 have HLA:Hid (A.length=N1):=by unfold Hid;rw [HAR.out.len,HN1.out]
 have HLB:Hid (B.length=N2):=by unfold Hid;rw [HBR.out.len,HN2.out]
 have HRW:Hid (∀ i,prodTo n ka kb A B (i+1)=rowP n ka kb A B i (prodTo n ka kb A B i) N2):=fun i=>by rw [prodTo,HN2.out]
 have HP0:Hid (List.replicate z 0=prodTo n ka kb A B 0):=by unfold Hid;rw [prodTo,HD.out,HZ.out]
 have HPD:Hid (D=prodTo n ka kb A B N1):=by unfold Hid;rw [← HDD.out];unfold prodL;rw [HN1.out]
 rw [HP0.out] at HRS
 clear hL1 hL2 hL3
 go_wp2_with fail
 go_loopw [9] (fun t wr=>∃ i:Nat,i≤N1∧t=.int .i64 (i:Int)∧Hid (GrownS (·=g) wS wr)∧Hid (NoS wS wr)∧Hid (RowN wr g (prodTo n ka kb A B i))) (fun t _=>N1+1-(intOf t).toNat)
 case atStart=>exact ⟨0,by omega,by simp,GrownS.refl _ _,NoS.refl _,HRS.out⟩
 case round =>
  obtain ⟨i,hi,rfl,HG,HNS,HGB⟩:=hrel
  obtain ⟨wi,rfl⟩:∃ wi:World,wi=wr:=⟨_,rfl⟩
  by_cases hlt:i<N1
  ·obtain ⟨s,hs⟩:∃ s,(allW n ka)[i]?=some s:=⟨_,List.getElem?_eq_getElem (by rw [HN1.out];exact hlt)⟩
   obtain ⟨x,hx⟩:∃ x,A[i]?=some x:=⟨_,List.getElem?_eq_getElem (by rw [HLA.out];exact hlt)⟩
   have HS:=Lib.hid hs;have HXX:=Lib.hid hx
   have hin:(i:Int)<(N1:Int):=by omega
   clear hs hx
   go_wp2_with fail
   go_loopw [10] (fun t wr=>∃ k:Nat,k≤N2∧t=.int .i64 (k:Int)∧Hid (GrownS (·=g) wS wr)∧Hid (NoS wS wr)∧Hid (RowN wr g (rowP n ka kb A B i (prodTo n ka kb A B i) k))) (fun t _=>N2+1-(intOf t).toNat)
   case atStart=>exact ⟨0,by omega,by simp,HG.out,HNS.out,by rw [rowP];exact HGB.out⟩
   case round =>
    obtain ⟨k,hk,rfl,HG2',HNS2,HGB2⟩:=hrel
    obtain ⟨wp,rfl⟩:∃ wp:World,wp=wr:=⟨_,rfl⟩
    by_cases hkl:k<N2
    ·obtain ⟨t,ht⟩:∃ t,(allW n kb)[k]?=some t:=⟨_,List.getElem?_eq_getElem (by rw [HN2.out];exact hkl)⟩
     obtain ⟨y,hy⟩:∃ y,B[k]?=some y:=⟨_,List.getElem?_eq_getElem (by rw [HLB.out];exact hkl)⟩
     have hkn:(k:Int)<(N2:Int):=by omega
     obtain ⟨b1,o1,v1,rfl,z1,hv1⟩:=HG1.out wp HNS2.out i s HS.out
     obtain ⟨b2,o2,v2,rfl,z2,hv2⟩:=HG2.out wp HNS2.out k t ht
     obtain ⟨ag1,cg1,rfl,hg1,hg2,-⟩:=ListAt.open hv1
     obtain ⟨ag2,cg2,rfl,hg3,hg4,-⟩:=ListAt.open hv2
     unfold maxLen at hg2 hg4
     have HV1:=Lib.hid hv1;have HV2:=Lib.hid hv2
     have hsm:=List.mem_of_getElem? HS.out
     have htm:=List.mem_of_getElem? ht
     have hsl:=membL_len s;have htl:=membL_len t
     have HMT:Hid (∀ sb,sb=(mergedL (membL s) (membL t)).isSome→∀ W,Ext wp W→Calls Tryz.prog 67 #[.slice ag1 (natsI (membL s)).length cg1,.slice ag2 (natsI (membL t)).length cg2] W fun e w'=>∃ o,e=.returned (.tuple #[o,.bool sb])∧Ext W w'∧∀ M,mergedL (membL s) (membL t)=some M→Ints w' o (natsI M)):=fun sb hsb W hW=>merged10_any (membL s) (membL t) hsl htl (fun x hx=>by rcases hx with hx | hx <;> (have:=membL_all x hx;omega)) sb hsb _ _ W (HV1.out.ext hW) (HV2.out.ext hW)
     have HNX:Hid (rowP n ka kb A B i (prodTo n ka kb A B i) (k+1)=if s &&& t≠0∨x=0∨y=0 then rowP n ka kb A B i (prodTo n ka kb A B i) k else addAt (rowP n ka kb A B i (prodTo n ka kb A B i) k) (placeW n d (s ||| t)) (sgnI (x*y) (oddW s t))):=HST.out i k s t x y _ HS.out ht HXX.out hy
     have HRK:=Lib.hid (HRZ.out i k (by have:=HL1.out;omega) (by have:=HL2.out;omega))
     have HLK:Hid ((rowP n ka kb A B i (prodTo n ka kb A B i) k).length=z):=by unfold Hid;rw [rowP_len];exact HLP.out i
     have HPP:=HPR.out s hsm t htm
     obtain ⟨acc,hacc⟩:∃ l,rowP n ka kb A B i (prodTo n ka kb A B i) k=l:=⟨_,rfl⟩
     rw [hacc] at HGB2 HNX HRK HLK
     have hdx:=HAR.out.dig x (List.mem_of_getElem? HXX.out)
     have hdy:=HBR.out.dig y (List.mem_of_getElem? hy)
     have HDX:=Lib.hid hdx;have HDY:=Lib.hid hdy
     obtain ⟨ba,oa,rfl,-,hca⟩:=HAC.out (by intro e;have:=HXX.out;rw [e] at this;simp at this)
     obtain ⟨z9,e9,g9⟩:=hca i x HXX.out
     obtain rfl:z9=.string (intB x):=e9
     obtain ⟨bb,ob,rfl,-,hcb⟩:=HBC.out (by intro e;rw [e] at hy;simp at hy)
     obtain ⟨z8,e8,g8⟩:=hcb k y hy
     obtain rfl:z8=.string (intB y):=e8
     have hblt1:=cell_in g9;have hblt2:=cell_in g8
     have z3:=HG2'.out.cell (HES.out.cell g9) (by have:=HOO.out;omega)
     have z5:=HG2'.out.cell (HES.out.cell g8) (by have:=HOO.out;omega)
     have z4:=HG2'.out.cell (block_cell HB1S.out 2) (by have:=HOO.out;omega)
     have z6:=HG2'.out.cell (block_cell HB2S.out 2) (by have:=HOO.out;omega)
     have z7:=HG2'.out.cell (block_cell HBOS.out 2) (by have:=HOO.out;omega)
     (try simp only [List.getElem?_toArray,List.getElem?_cons_succ,List.getElem?_cons_zero] at z4 z6 z7)
     have hia:(i:Int)<(ma:Int):=by have:=HMA.out;have:=HLA.out;omega
     have hkb:(k:Int)<(mb:Int):=by have:=HMB.out;have:=HLB.out;omega
     obtain ⟨lm1,hlm1⟩:∃ l,(natsI (membL s)).length=l:=⟨_,rfl⟩
     obtain ⟨lm2,hlm2⟩:∃ l,(natsI (membL t)).length=l:=⟨_,rfl⟩
     have HLM1:=Lib.hid hlm1;have HLM2:=Lib.hid hlm2
     rw [hlm1] at z1 hg1 HMT HV1
     rw [hlm2] at z2 hg3 HMT HV2
     have HSL:=Lib.hid hsl;have HTL:=Lib.hid htl
     have HPW:Hid (Pow10 w):=HT.out
     clear hv1 hv2 hsm htm hsl htl hacc hdx hdy hca hcb g9 g8 hblt1 hblt2 hlm1 hlm2 ht hy HST
     rcases HPP with ⟨h0,hm,hrm,ho⟩ | ⟨h0,hm⟩
     rotate_left
     ·have HNY:Hid (rowP n ka kb A B i (prodTo n ka kb A B i) (k+1)=acc):=by unfold Hid;rw [HNX.out,if_pos (Or.inl h0)]
      have HMF:Hid (∀ W,Ext wp W→Calls Tryz.prog 67 #[.slice ag1 lm1 cg1,.slice ag2 lm2 cg2] W fun e w'=>∃ o,e=.returned (.tuple #[o,.bool false])∧Ext W w'):=fun W hW=>(HMT.out false (by rw [hm];rfl) W hW).mono fun e w' ⟨o,h1,h2,_⟩=>⟨o,h1,h2⟩
      clear h0 hm HMT HNX
      go_upto_region 10 with fail
      refine region_anyEV (fun w'=>w'.cell? ⟨b1,o1+i,none⟩=some (.slice ag1 lm1 cg1)∧w'.cell? ⟨b2,o2+k,none⟩=some (.slice ag2 lm2 cg2)∧Hid (Ext wp w')) 14 14 (by kernel_rfl) (by kernel_rfl) ⟨(Ext.drew wp).cell z1,(Ext.drew wp).cell z2,Ext.drew wp⟩ (fun ops hO hHeld=>?_)
      have hi:=getopN hO 0 (by decide)
      conv at hi=>rhs;arg 1;whnf
      refine tX hO (v:=?_) 0 hi (Or.inl ⟨by rfl,?_⟩) ?_
      rotate_left
      ·((intro w');(try go_simp);(try with_reducible rfl))
      clear hi
      (try simp only [Act.put,sx1,sx2,sx3])
      have hi:=getopN hO 1 (by decide)
      conv at hi=>rhs;arg 1;whnf
      refine tX hO (v:=?_) 1 hi (Or.inl ⟨by rfl,?_⟩) ?_
      rotate_left
      ·((intro w');(try go_simp);(try with_reducible rfl))
      clear hi
      (try simp only [Act.put,sx1,sx2,sx3])
      have hi:=getopN hO 2 (by decide)
      conv at hi=>rhs;arg 1;whnf
      refine tX hO (v:=?_) 2 hi (Or.inl ⟨by rfl,?_⟩) ?_
      rotate_left
      ·((intro w');(try go_simp);(try with_reducible rfl))
      clear hi
      (try simp only [Act.put,sx1,sx2,sx3])
      have hi:=getopN hO 3 (by decide)
      conv at hi=>rhs;arg 1;whnf
      refine tY hO (v:=?_) 3 hi (Or.inl ⟨by rfl,?_⟩) ?_
      rotate_left
      ·((intro w' hSw);(try dsimp only at hSw);(try go_simp);(try with_reducible rfl))
      clear hi
      (try simp only [Act.put,sx1,sx2,sx3])
      have hi:=getopN hO 4 (by decide)
      conv at hi=>rhs;arg 1;whnf
      refine tX hO (v:=?_) 4 hi (Or.inl ⟨by rfl,?_⟩) ?_
      rotate_left
      ·((intro w');(try go_simp);(try with_reducible rfl))
      clear hi
      (try simp only [Act.put,sx1,sx2,sx3])
      have hi:=getopN hO 5 (by decide)
      conv at hi=>rhs;arg 1;whnf
      refine tX hO (v:=?_) 5 hi (Or.inl ⟨by rfl,?_⟩) ?_
      rotate_left
      ·((intro w');(try go_simp);(try with_reducible rfl))
      clear hi
      (try simp only [Act.put,sx1,sx2,sx3])
      have hi:=getopN hO 6 (by decide)
      conv at hi=>rhs;arg 1;whnf
      refine tX hO (v:=?_) 6 hi (Or.inl ⟨by rfl,?_⟩) ?_
      rotate_left
      ·((intro w');(try go_simp);(try with_reducible rfl))
      clear hi
      (try simp only [Act.put,sx1,sx2,sx3])
      have hi:=getopN hO 7 (by decide)
      conv at hi=>rhs;arg 1;whnf
      refine tY hO (v:=?_) 7 hi (Or.inl ⟨by rfl,?_⟩) ?_
      rotate_left
      ·((intro w' hSw);(try dsimp only at hSw);(try go_simp);(try with_reducible rfl))
      clear hi
      (try simp only [Act.put,sx1,sx2,sx3])
      have hi:=getopN hO 8 (by decide)
      conv at hi=>rhs;arg 1;whnf
      refine anyE_stepV hO 8 (by kernel_rfl) hi (fun K hK=>?_)
      go_simp
      (go_at_call 67;refine (HMF.out _ hHeld.2.2.out).mono ?_)
      rintro e wz ⟨o9,rfl,hEz⟩
      go_wp2_with fail
      refine hK.out _ _ ⟨(hEz).cell hHeld.1,(hEz).cell hHeld.2.1,Ext.trans hHeld.2.2.out (hEz)⟩ (fun hHeld=>?_)
      clear hK K hi
      (try simp only [Act.put,sx1,sx2,sx3])
      have hi:=getopN hO 9 (by decide)
      conv at hi=>rhs;arg 1;whnf
      refine tX hO (v:=?_) 9 hi (Or.inl ⟨by rfl,?_⟩) ?_
      rotate_left
      ·((intro w');(try go_simp);(try with_reducible rfl))
      clear hi
      (try simp only [Act.put,sx1,sx2,sx3])
      have hi:=getopN hO 10 (by decide)
      conv at hi=>rhs;arg 1;whnf
      refine tX hO (v:=?_) 10 hi (Or.inl ⟨by rfl,?_⟩) ?_
      rotate_left
      ·((intro w');(try go_simp);(try with_reducible rfl))
      clear hi
      (try simp only [Act.put,sx1,sx2,sx3])
      have hi:=getopN hO 11 (by decide)
      conv at hi=>rhs;arg 1;whnf
      refine tX hO (v:=?_) 11 hi (Or.inl ⟨by rfl,?_⟩) ?_
      rotate_left
      ·((intro w');(try go_simp);(try with_reducible rfl))
      clear hi
      (try simp only [Act.put,sx1,sx2,sx3])
      have hi:=getopN hO 12 (by decide)
      conv at hi=>rhs;arg 1;whnf
      refine tX hO (v:=?_) 12 hi (Or.inl ⟨by rfl,?_⟩) ?_
      rotate_left
      ·((intro w');(try go_simp);(try with_reducible rfl))
      clear hi
      (try simp only [Act.put,sx1,sx2,sx3])
      have hi:=getopN hO 13 (by decide)
      conv at hi=>rhs;arg 1;whnf
      refine anyE_lastV hO 13 (by kernel_rfl) (by kernel_rfl) hi (fun K hK=>?_)
      go_simp
      refine hK.out _ _ (by assumption) ?_
      clear hK K hi hO
      (try simp only [Act.put,sx1,sx2,sx3])
      have HEz:Hid (Ext wp wz):=hHeld.2.2
      go_wp2_with fail
      go_roundw
      case rel=>exact ⟨k+1,by omega,by go_num,HG2'.out.ext HEz.out,HNS2.out.ext HEz.out,by rw [HNY.out];exact HGB2.out.ext HEz.out⟩
      case measure=>simp [intOf];omega
     have HMS:Hid (∀ W,Ext wp W→Calls Tryz.prog 67 #[.slice ag1 lm1 cg1,.slice ag2 lm2 cg2] W fun e w'=>∃ o,e=.returned (.tuple #[o,.bool true])∧Ext W w'∧Ints w' o (natsI (membL (s ||| t)))):=fun W hW=>(HMT.out true (by rw [hm];rfl) W hW).mono fun e w' ⟨o,h1,h2,h3⟩=>⟨o,h1,h2,h3 _ hm⟩
     have HNZ:Hid (rowP n ka kb A B i (prodTo n ka kb A B i) (k+1)=if x=0∨y=0 then acc else addAt acc (placeW n d (s ||| t)) (sgnI (x*y) (oddW s t))):=by
      unfold Hid;rw [HNX.out]
      by_cases hxy:x=0∨y=0
      ·rw [if_pos (Or.inr hxy),if_pos hxy]
      ·rw [if_neg hxy,if_neg (by rintro (h | h);exact h h0;exact hxy h)]
     have HRM:Hid ((s ||| t)∈allW n d):=hrm
     have HOD:Hid (oddW s t=oddL (membL s++membL t)):=ho
     clear h0 hm hrm ho HMT HNX
     go_upto_region 10 with fail
     refine region_anyEV (fun w'=>w'.cell? ⟨b1,o1+i,none⟩=some (.slice ag1 lm1 cg1)∧w'.cell? ⟨b2,o2+k,none⟩=some (.slice ag2 lm2 cg2)∧Hid (Ext wp w')) 14 14 (by kernel_rfl) (by kernel_rfl) ⟨(Ext.drew wp).cell z1,(Ext.drew wp).cell z2,Ext.drew wp⟩ (fun ops hO hHeld=>?_)
     have hi:=getopN hO 0 (by decide)
     conv at hi=>rhs;arg 1;whnf
     refine tX hO (v:=?_) 0 hi (Or.inl ⟨by rfl,?_⟩) ?_
     rotate_left
     ·((intro w');(try go_simp);(try with_reducible rfl))
     clear hi
     (try simp only [Act.put,sx1,sx2,sx3])
     have hi:=getopN hO 1 (by decide)
     conv at hi=>rhs;arg 1;whnf
     refine tX hO (v:=?_) 1 hi (Or.inl ⟨by rfl,?_⟩) ?_
     rotate_left
     ·((intro w');(try go_simp);(try with_reducible rfl))
     clear hi
     (try simp only [Act.put,sx1,sx2,sx3])
     have hi:=getopN hO 2 (by decide)
     conv at hi=>rhs;arg 1;whnf
     refine tX hO (v:=?_) 2 hi (Or.inl ⟨by rfl,?_⟩) ?_
     rotate_left
     ·((intro w');(try go_simp);(try with_reducible rfl))
     clear hi
     (try simp only [Act.put,sx1,sx2,sx3])
     have hi:=getopN hO 3 (by decide)
     conv at hi=>rhs;arg 1;whnf
     refine tY hO (v:=?_) 3 hi (Or.inl ⟨by rfl,?_⟩) ?_
     rotate_left
     ·((intro w' hSw);(try dsimp only at hSw);(try go_simp);(try with_reducible rfl))
     clear hi
     (try simp only [Act.put,sx1,sx2,sx3])
     have hi:=getopN hO 4 (by decide)
     conv at hi=>rhs;arg 1;whnf
     refine tX hO (v:=?_) 4 hi (Or.inl ⟨by rfl,?_⟩) ?_
     rotate_left
     ·((intro w');(try go_simp);(try with_reducible rfl))
     clear hi
     (try simp only [Act.put,sx1,sx2,sx3])
     have hi:=getopN hO 5 (by decide)
     conv at hi=>rhs;arg 1;whnf
     refine tX hO (v:=?_) 5 hi (Or.inl ⟨by rfl,?_⟩) ?_
     rotate_left
     ·((intro w');(try go_simp);(try with_reducible rfl))
     clear hi
     (try simp only [Act.put,sx1,sx2,sx3])
     have hi:=getopN hO 6 (by decide)
     conv at hi=>rhs;arg 1;whnf
     refine tX hO (v:=?_) 6 hi (Or.inl ⟨by rfl,?_⟩) ?_
     rotate_left
     ·((intro w');(try go_simp);(try with_reducible rfl))
     clear hi
     (try simp only [Act.put,sx1,sx2,sx3])
     have hi:=getopN hO 7 (by decide)
     conv at hi=>rhs;arg 1;whnf
     refine tY hO (v:=?_) 7 hi (Or.inl ⟨by rfl,?_⟩) ?_
     rotate_left
     ·((intro w' hSw);(try dsimp only at hSw);(try go_simp);(try with_reducible rfl))
     clear hi
     (try simp only [Act.put,sx1,sx2,sx3])
     have hi:=getopN hO 8 (by decide)
     conv at hi=>rhs;arg 1;whnf
     refine anyE_stepV hO 8 (by kernel_rfl) hi (fun K hK=>?_)
     go_simp
     (go_at_call 67;refine (HMS.out _ hHeld.2.2.out).mono ?_)
     rintro e wz ⟨o9,rfl,hEz,hIz⟩
     have HI9:=Lib.hid hIz
     clear hIz
     go_wp2_with fail
     refine hK.out _ _ ⟨(hEz).cell hHeld.1,(hEz).cell hHeld.2.1,Ext.trans hHeld.2.2.out (hEz)⟩ (fun hHeld=>?_)
     clear hK K hi
     (try simp only [Act.put,sx1,sx2,sx3])
     have hi:=getopN hO 9 (by decide)
     conv at hi=>rhs;arg 1;whnf
     refine tX hO (v:=?_) 9 hi (Or.inl ⟨by rfl,?_⟩) ?_
     rotate_left
     ·((intro w');(try go_simp);(try with_reducible rfl))
     clear hi
     (try simp only [Act.put,sx1,sx2,sx3])
     have hi:=getopN hO 10 (by decide)
     conv at hi=>rhs;arg 1;whnf
     refine tX hO (v:=?_) 10 hi (Or.inl ⟨by rfl,?_⟩) ?_
     rotate_left
     ·((intro w');(try go_simp);(try with_reducible rfl))
     clear hi
     (try simp only [Act.put,sx1,sx2,sx3])
     have hi:=getopN hO 11 (by decide)
     conv at hi=>rhs;arg 1;whnf
     refine tX hO (v:=?_) 11 hi (Or.inl ⟨by rfl,?_⟩) ?_
     rotate_left
     ·((intro w');(try go_simp);(try with_reducible rfl))
     clear hi
     (try simp only [Act.put,sx1,sx2,sx3])
     have hi:=getopN hO 12 (by decide)
     conv at hi=>rhs;arg 1;whnf
     refine tX hO (v:=?_) 12 hi (Or.inl ⟨by rfl,?_⟩) ?_
     rotate_left
     ·((intro w');(try go_simp);(try with_reducible rfl))
     clear hi
     (try simp only [Act.put,sx1,sx2,sx3])
     have hi:=getopN hO 13 (by decide)
     conv at hi=>rhs;arg 1;whnf
     refine anyE_lastV hO 13 (by kernel_rfl) (by kernel_rfl) hi (fun K hK=>?_)
     go_simp
     refine hK.out _ _ (by assumption) ?_
     clear hK K hi hO
     (try simp only [Act.put,sx1,sx2,sx3])
     have HEz:Hid (Ext wp wz):=hHeld.2.2
     have z3:=HEz.out.cell z3;have z4:=HEz.out.cell z4;have z5:=HEz.out.cell z5;have z6:=HEz.out.cell z6;have z7:=HEz.out.cell z7
     have z1:=HEz.out.cell z1;have z2:=HEz.out.cell z2
     clear hHeld
     by_cases hx0:x=0
     ·have sx:=str0_of hx0
      have HNY:Hid (rowP n ka kb A B i (prodTo n ka kb A B i) (k+1)=acc):=by unfold Hid;rw [HNZ.out,if_pos (Or.inl hx0)]
      obtain ⟨u1,hu1⟩:∃ u,intB x=u:=⟨_,rfl⟩
      rw [hu1] at sx z3
      clear hu1 hx0 HNZ
      go_wp2_with fail
      go_roundw
      case rel=>exact ⟨k+1,by omega,by go_num,HG2'.out.ext HEz.out,HNS2.out.ext HEz.out,by rw [HNY.out];exact HGB2.out.ext HEz.out⟩
      case measure=>simp [intOf];omega
     have sx:=str0_no hx0
     by_cases hy0:y=0
     ·have sy:=str0_of hy0
      have HNY:Hid (rowP n ka kb A B i (prodTo n ka kb A B i) (k+1)=acc):=by unfold Hid;rw [HNZ.out,if_pos (Or.inr hy0)]
      obtain ⟨u1,hu1⟩:∃ u,intB x=u:=⟨_,rfl⟩
      obtain ⟨u2,hu2⟩:∃ u,intB y=u:=⟨_,rfl⟩
      rw [hu1] at sx z3
      rw [hu2] at sy z5
      clear hu1 hu2 hx0 hy0 HNZ
      go_wp2_with fail
      go_roundw
      case rel=>exact ⟨k+1,by omega,by go_num,HG2'.out.ext HEz.out,HNS2.out.ext HEz.out,by rw [HNY.out];exact HGB2.out.ext HEz.out⟩
      case measure=>simp [intOf];omega
     have sy:=str0_no hy0
     have HNY:Hid (rowP n ka kb A B i (prodTo n ka kb A B i) (k+1)=addAt acc (placeW n d (s ||| t)) (sgnI (x*y) (oddW s t))):=by unfold Hid;rw [HNZ.out,if_neg (by rintro (h | h);exact hx0 h;exact hy0 h)]
     have HEW:Hid (Ext w wp):=ext_grownS HES.out HG2'.out (fun j hj e=>by have:=HOO.out;omega)
     have hsx:=(digits_size HDX.out).2
     have hsy:=(digits_size HDY.out).2
     have HMU:Hid (∀ W,Ext wp W→Calls Tryz.prog 68 #[.string (intB x),.string (intB y)] W fun e w'=>e=.returned (.string (intB (x*y)))∧Ext W w'):=fun W hW=>rMul_any x y W (by omega) (by omega) (HT.out.ext (HEW.out.trans hW))
     obtain ⟨u1,hu1⟩:∃ u,intB x=u:=⟨_,rfl⟩
     obtain ⟨u2,hu2⟩:∃ u,intB y=u:=⟨_,rfl⟩
     obtain ⟨u3,hu3⟩:∃ u,intB (x*y)=u:=⟨_,rfl⟩
     have HU3:=Lib.hid hu3
     rw [hu1] at sx z3 HMU
     rw [hu2] at sy z5 HMU
     rw [hu3] at HMU
     clear hu1 hu2 hu3 hx0 hy0 HNZ hsx hsy
     go_upto_region 12 with fail
     refine region_anyEV (fun w'=>w'.cell? ⟨w.heap.size,2,none⟩=some (.slice (some ⟨ba,oa,none⟩) ma ca)∧w'.cell? ⟨ba,oa+i,none⟩=some (.string u1)∧w'.cell? ⟨x1,2,none⟩=some (.slice (some ⟨bb,ob,none⟩) mb cb)∧w'.cell? ⟨bb,ob+k,none⟩=some (.string u2)∧Hid (Ext wz w')) 12 12 (by kernel_rfl) (by kernel_rfl) ⟨(Ext.drew wz).cell z4,(Ext.drew wz).cell z3,(Ext.drew wz).cell z6,(Ext.drew wz).cell z5,Ext.drew wz⟩ (fun ops hO hHeld=>?_)
     have hi:=getopN hO 0 (by decide)
     conv at hi=>rhs;arg 1;whnf
     refine tX hO (v:=?_) 0 hi (Or.inl ⟨by rfl,?_⟩) ?_
     rotate_left
     ·((intro w');(try go_simp);(try with_reducible rfl))
     clear hi
     (try simp only [Act.put,sx1,sx2,sx3])
     have hi:=getopN hO 1 (by decide)
     conv at hi=>rhs;arg 1;whnf
     refine tY hO (v:=?_) 1 hi (Or.inl ⟨by rfl,?_⟩) ?_
     rotate_left
     ·((intro w' hSw);(try dsimp only at hSw);(try go_simp);(try with_reducible rfl))
     clear hi
     (try simp only [Act.put,sx1,sx2,sx3])
     have hi:=getopN hO 2 (by decide)
     conv at hi=>rhs;arg 1;whnf
     refine tX hO (v:=?_) 2 hi (Or.inl ⟨by rfl,?_⟩) ?_
     rotate_left
     ·((intro w');(try go_simp);(try with_reducible rfl))
     clear hi
     (try simp only [Act.put,sx1,sx2,sx3])
     have hi:=getopN hO 3 (by decide)
     conv at hi=>rhs;arg 1;whnf
     refine tX hO (v:=?_) 3 hi (Or.inl ⟨by rfl,?_⟩) ?_
     rotate_left
     ·((intro w');(try go_simp);(try with_reducible rfl))
     clear hi
     (try simp only [Act.put,sx1,sx2,sx3])
     have hi:=getopN hO 4 (by decide)
     conv at hi=>rhs;arg 1;whnf
     refine tY hO (v:=?_) 4 hi (Or.inl ⟨by rfl,?_⟩) ?_
     rotate_left
     ·((intro w' hSw);(try dsimp only at hSw);(try go_simp);(try with_reducible rfl))
     clear hi
     (try simp only [Act.put,sx1,sx2,sx3])
     have hi:=getopN hO 5 (by decide)
     conv at hi=>rhs;arg 1;whnf
     refine tX hO (v:=?_) 5 hi (Or.inl ⟨by rfl,?_⟩) ?_
     rotate_left
     ·((intro w');(try go_simp);(try with_reducible rfl))
     clear hi
     (try simp only [Act.put,sx1,sx2,sx3])
     have hi:=getopN hO 6 (by decide)
     conv at hi=>rhs;arg 1;whnf
     refine tY hO (v:=?_) 6 hi (Or.inl ⟨by rfl,?_⟩) ?_
     rotate_left
     ·((intro w' hSw);(try dsimp only at hSw);(try go_simp);(try with_reducible rfl))
     clear hi
     (try simp only [Act.put,sx1,sx2,sx3])
     have hi:=getopN hO 7 (by decide)
     conv at hi=>rhs;arg 1;whnf
     refine tX hO (v:=?_) 7 hi (Or.inl ⟨by rfl,?_⟩) ?_
     rotate_left
     ·((intro w');(try go_simp);(try with_reducible rfl))
     clear hi
     (try simp only [Act.put,sx1,sx2,sx3])
     have hi:=getopN hO 8 (by decide)
     conv at hi=>rhs;arg 1;whnf
     refine tX hO (v:=?_) 8 hi (Or.inl ⟨by rfl,?_⟩) ?_
     rotate_left
     ·((intro w');(try go_simp);(try with_reducible rfl))
     clear hi
     (try simp only [Act.put,sx1,sx2,sx3])
     have hi:=getopN hO 9 (by decide)
     conv at hi=>rhs;arg 1;whnf
     refine tY hO (v:=?_) 9 hi (Or.inl ⟨by rfl,?_⟩) ?_
     rotate_left
     ·((intro w' hSw);(try dsimp only at hSw);(try go_simp);(try with_reducible rfl))
     clear hi
     (try simp only [Act.put,sx1,sx2,sx3])
     have hi:=getopN hO 10 (by decide)
     conv at hi=>rhs;arg 1;whnf
     refine anyE_stepV hO 10 (by kernel_rfl) hi (fun K hK=>?_)
     go_simp
     (go_at_call 68;refine (HMU.out _ (HEz.out.trans hHeld.2.2.2.2.out)).mono ?_)
     rintro e wm ⟨rfl,hEz⟩
     go_wp2_with fail
     refine hK.out _ _ ⟨(hEz).cell hHeld.1,(hEz).cell hHeld.2.1,(hEz).cell hHeld.2.2.1,(hEz).cell hHeld.2.2.2.1,Ext.trans hHeld.2.2.2.2.out (hEz)⟩ (fun hHeld=>?_)
     clear hK K hi
     (try simp only [Act.put,sx1,sx2,sx3])
     have hi:=getopN hO 11 (by decide)
     conv at hi=>rhs;arg 1;whnf
     refine anyE_lastV hO 11 (by kernel_rfl) (by kernel_rfl) hi (fun K hK=>?_)
     go_simp
     refine hK.out _ _ (by assumption) ?_
     clear hK K hi hO
     (try simp only [Act.put,sx1,sx2,sx3])
     have HEm:Hid (Ext wz wm):=hHeld.2.2.2.2
     have HEpm:Hid (Ext wp wm):=HEz.out.trans HEm.out
     have z1:=HEm.out.cell z1;have z2:=HEm.out.cell z2;have z7:=HEm.out.cell z7
     clear hHeld z3 z4 z5 z6 HMU sx sy
     go_upto_region 13 with fail
     have HLS9:Hid ((natsI (membL s)).length≤12):=by unfold Hid natsI;rw [List.length_map];exact HSL.out
     have HLT9:Hid ((natsI (membL t)).length≤12):=by unfold Hid natsI;rw [List.length_map];exact HTL.out
     refine region_anyEV (fun w'=>w'.cell? ⟨b1,o1+i,none⟩=some (.slice ag1 lm1 cg1)∧w'.cell? ⟨b2,o2+k,none⟩=some (.slice ag2 lm2 cg2)∧Hid (Ext wm w')) 12 12 (by kernel_rfl) (by kernel_rfl) ⟨(Ext.drew wm).cell z1,(Ext.drew wm).cell z2,Ext.drew wm⟩ (fun ops hO hHeld=>?_)
     have hi:=getopN hO 1 (by decide)
     conv at hi=>rhs;arg 1;whnf
     refine tX hO (v:=?_) 1 hi (Or.inl ⟨by rfl,?_⟩) ?_
     rotate_left
     ·((intro w');(try go_simp);(try with_reducible rfl))
     clear hi
     (try simp only [Act.put,sx1,sx2,sx3])
     have hi:=getopN hO 2 (by decide)
     conv at hi=>rhs;arg 1;whnf
     refine tX hO (v:=?_) 2 hi (Or.inl ⟨by rfl,?_⟩) ?_
     rotate_left
     ·((intro w');(try go_simp);(try with_reducible rfl))
     clear hi
     (try simp only [Act.put,sx1,sx2,sx3])
     have hi:=getopN hO 3 (by decide)
     conv at hi=>rhs;arg 1;whnf
     refine tX hO (v:=?_) 3 hi (Or.inl ⟨by rfl,?_⟩) ?_
     rotate_left
     ·((intro w');(try go_simp);(try with_reducible rfl))
     clear hi
     (try simp only [Act.put,sx1,sx2,sx3])
     have hi:=getopN hO 4 (by decide)
     conv at hi=>rhs;arg 1;whnf
     refine tY hO (v:=?_) 4 hi (Or.inl ⟨by rfl,?_⟩) ?_
     rotate_left
     ·((intro w' hSw);(try dsimp only at hSw);(try go_simp);(try with_reducible rfl))
     clear hi
     (try simp only [Act.put,sx1,sx2,sx3])
     have hi:=getopN hO 6 (by decide)
     conv at hi=>rhs;arg 1;whnf
     refine tX hO (v:=?_) 6 hi (Or.inl ⟨by rfl,?_⟩) ?_
     rotate_left
     ·((intro w');(try go_simp);(try with_reducible rfl))
     clear hi
     (try simp only [Act.put,sx1,sx2,sx3])
     have hi:=getopN hO 7 (by decide)
     conv at hi=>rhs;arg 1;whnf
     refine tX hO (v:=?_) 7 hi (Or.inl ⟨by rfl,?_⟩) ?_
     rotate_left
     ·((intro w');(try go_simp);(try with_reducible rfl))
     clear hi
     (try simp only [Act.put,sx1,sx2,sx3])
     have hi:=getopN hO 8 (by decide)
     conv at hi=>rhs;arg 1;whnf
     refine tX hO (v:=?_) 8 hi (Or.inl ⟨by rfl,?_⟩) ?_
     rotate_left
     ·((intro w');(try go_simp);(try with_reducible rfl))
     clear hi
     (try simp only [Act.put,sx1,sx2,sx3])
     have hi:=getopN hO 9 (by decide)
     conv at hi=>rhs;arg 1;whnf
     refine tY hO (v:=?_) 9 hi (Or.inl ⟨by rfl,?_⟩) ?_
     rotate_left
     ·((intro w' hSw);(try dsimp only at hSw);(try go_simp);(try with_reducible rfl))
     clear hi
     (try simp only [Act.put,sx1,sx2,sx3])
     have hi:=getopN hO 0 (by decide)
     conv at hi=>rhs;arg 1;whnf
     refine anyE_stepV hO 0 (by kernel_rfl) hi (fun K hK=>?_)
     go_simp
     refine (fun (h:∀ W0,W0=_→K _ W0)=>h _ rfl) (fun wA hwA=>?_)
     have HXa:Hid (Ext wm wA):=by rw [hwA];exact (Ext.drew wm).trans (Ext.alloc _ _)
     have HOa:Hid (OwnR wm.heap.size wA (.slice (some ⟨wm.heap.size,0,none⟩) 0 0) []):=by rw [hwA];exact World.ownsRow_made wm.drew #[] 0 (Nat.le_refl _) (Nat.zero_le _) rfl
     clear hwA
     refine hK.out _ _ ⟨HXa.out.cell z1,HXa.out.cell z2,HXa.out⟩ (fun hHeld=>?_)
     clear hK K hi
     (try simp only [Act.put,sx1,sx2,sx3])
     have hi:=getopN hO 5 (by decide)
     conv at hi=>rhs;arg 1;whnf
     refine anyE_stepV hO 5 (by kernel_rfl) hi (fun K hK=>?_)
     refine step_append_manyI (by rfl) wA _ _ 26 Tryz.underlying26 (by rfl) wm.heap.size (.slice (some ⟨wm.heap.size,0,none⟩) 0 0) [] (natsI (membL s)) (.slice ag1 lm1 cg1) (by rfl) HOa.out (by rfl) (HV1.out.ext (HEpm.out.trans HXa.out)) (by have:=HLS9.out;simp;omega) HXa.out.size ?_
     intro v5 wB hO5 hB5
     rw [List.nil_append] at hO5
     have HO5:=Lib.hid hO5
     have HXb:Hid (Ext wm wB):=Below.trans HXa.out hB5
     clear hO5 hB5
     refine hK.out _ _ ⟨HXb.out.cell z1,HXb.out.cell z2,HXb.out⟩ (fun hHeld=>?_)
     clear hK K hi
     (try simp only [Act.put,sx1,sx2,sx3])
     have hi:=getopN hO 10 (by decide)
     conv at hi=>rhs;arg 1;whnf
     refine anyE_stepV hO 10 (by kernel_rfl) hi (fun K hK=>?_)
     refine step_append_manyI (by rfl) wB _ _ 26 Tryz.underlying26 (by rfl) wm.heap.size v5 (natsI (membL s)) (natsI (membL t)) (.slice ag2 lm2 cg2) (by rfl) HO5.out (by rfl) (HV2.out.ext (HEpm.out.trans HXb.out)) (by have:=HLS9.out;have:=HLT9.out;omega) HXb.out.size ?_
     intro v6 wC hO6 hB6
     have HO6:=Lib.hid hO6
     have HXc:Hid (Ext wm wC):=Below.trans HXb.out hB6
     clear hO6 hB6
     refine hK.out _ _ ⟨HXc.out.cell z1,HXc.out.cell z2,HXc.out⟩ (fun hHeld=>?_)
     clear hK K hi
     (try simp only [Act.put,sx1,sx2,sx3])
     have HI6:Hid (Ints wC v6 (natsI (membL s++membL t))):=by
      have e9:natsI (membL s++membL t)=natsI (membL s)++natsI (membL t):=by simp [natsI]
      unfold Hid
      rw [e9]
      refine Ints.of_owns HO6.out (fun y hy=>?_)
      rw [← e9] at hy
      obtain ⟨q,hq,rfl⟩:=List.mem_map.1 hy
      have h12:q<12:=by
       rcases List.mem_append.1 hq with h | h
       ·exact membL_all q h
       ·exact membL_all q h
      omega
     have HDD9:Hid (Calls Tryz.prog 71 #[v6] wC fun e w'=>e=.returned (.bool (oddW s t))∧Ext wC w'):=by
      unfold Hid
      rw [HOD.out]
      exact odd10_any (membL s++membL t) (by rw [List.length_append];have:=HSL.out;have:=HTL.out;omega) v6 wC HI6.out
     have hi:=getopN hO 11 (by decide)
     conv at hi=>rhs;arg 1;whnf
     refine anyE_lastV hO 11 (by kernel_rfl) (by kernel_rfl) hi (fun K hK=>?_)
     go_simp
     (go_at_call 71;refine (HDD9.out).mono ?_)
     rintro e wo ⟨rfl,hEz⟩
     have HXd:Hid (Ext wm wo):=HXc.out.trans hEz
     clear hEz
     go_wp2_with fail
     refine hK.out _ _ ⟨HXd.out.cell z1,HXd.out.cell z2,HXd.out⟩ ?_
     clear hK K hi hO
     (try simp only [Act.put,sx1,sx2,sx3])
     have HEpo:Hid (Ext wp wo):=HEpm.out.trans HXd.out
     have z7:=HXd.out.cell z7
     have HEwo:Hid (Ext w wo):=HEW.out.trans HEpo.out
     obtain ⟨o,ho⟩:∃ o,oddW s t=o:=⟨_,rfl⟩
     rw [ho] at HNY ⊢
     obtain ⟨r,hr⟩:∃ r,s ||| t=r:=⟨_,rfl⟩
     rw [hr] at HNY HRM HI9
     obtain ⟨hp1,hp2⟩:=HPZ.out r HRM.out
     obtain ⟨p,hp⟩:∃ p,placeW n d r=p:=⟨_,rfl⟩
     rw [hp] at HNY hp1 hp2
     have HPL:Hid (∀ W,Ext wo W→Calls Tryz.prog 70 #[.slice s3 z q3,o9] W fun e w'=>e=.returned (.int .i64 p)∧Ext W w'):=fun W hW=>by
      have hmem:membL r∈setsL n d:=by rw [← sets_map (by have:=HN.out;omega) HDN.out];exact List.mem_map_of_mem HRM.out
      have hln:∀ T∈setsL n d,T.length=d:=fun T hT=>(sets_ok (by have:=HN.out;omega) HDN.out).1.len T hT
      have h9:=place10_any (setsL n d) (membL r) hmem (fun T hT=>by rw [hln T hT,hln _ hmem]) (sets_ok (by have:=HN.out;omega) HDN.out).2.2 (membL_len r) _ _ W (HG3.out W (HNS2.out.ext (HEpo.out.trans hW))) (HI9.out.ext ((HEm.out.trans HXd.out).trans hW))
      rw [← hp1] at h9
      exact h9
     have HP2:Hid (p<z):=hp2
     obtain ⟨c0,hc0⟩:∃ c,acc[p]?=some c:=⟨_,List.getElem?_eq_getElem (by rw [HLK.out];exact hp2)⟩
     have hs0:=HRK.out c0 (List.mem_of_getElem? hc0)
     have hsz:=mulW_size HDX.out HDY.out o
     have HRG:=Lib.hid (HGB2.out.ext HEpo.out)
     have z8:=HRG.out.cell p c0 hc0
     have HAC2:Hid (addAt acc p (sgnI (x*y) o)=acc.set p (c0+sgnI (x*y) o)):=by
      unfold Hid addAt;rw [List.getD_eq_getElem?_getD,hc0];rfl
     have HNG9:Hid (∀ W,Calls Tryz.prog 72 #[.string u3] W fun e w'=>e=.returned (.string (intB (-(x*y))))∧W=w'):=fun W=>by
      rw [← HU3.out];exact rNeg_any (x*y) W (by omega)
     have HAD:Hid (∀ W,Ext wo W→Calls Tryz.prog 73 #[.string (intB c0),.string (intB (sgnI (x*y) o))] W fun e w'=>e=.returned (.string (intB (c0+sgnI (x*y) o)))∧Ext W w'):=fun W hW=>rAdd_any c0 (sgnI (x*y) o) W (by omega) (by omega) (HT.out.ext (HEwo.out.trans hW))
     have hpx:(p:Int)<(z:Int):=by omega
     have HXY:Hid (o=true→intB (sgnI (x*y) o)=intB (-(x*y))):=fun h=>by rw [h];rfl
     have HXN:Hid (o=false→intB (sgnI (x*y) o)=u3):=fun h=>by rw [h];exact HU3.out
     obtain ⟨u4,hu4⟩:∃ u,intB (sgnI (x*y) o)=u:=⟨_,rfl⟩
     obtain ⟨u5,hu5⟩:∃ u,intB c0=u:=⟨_,rfl⟩
     obtain ⟨u6,hu6⟩:∃ u,intB (c0+sgnI (x*y) o)=u:=⟨_,rfl⟩
     have HU6:=Lib.hid hu6
     rw [hu4] at HAD HXY HXN
     rw [hu5] at HAD z8
     rw [hu6] at HAD
     clear hHeld z1 z2 hp1 hp2 hc0 hs0 hsz hu4 hu5 hu6 hr hp ho
     cases o with
     | true =>
      have e9:intB (-(x*y))=u4:=(HXY.out rfl).symm
      rw [e9] at HNG9
      clear e9
      go_wp2_with fail
      refine (HNG9.out wo).mono ?_
      rintro e w8 ⟨rfl,rfl⟩
      go_wp2_with fail
      refine (HPL.out wo (Ext.refl _)).mono ?_
      rintro e wq ⟨rfl,hEq⟩
      have HEq:Hid (Ext wo wq):=hEq
      have HEpq:Hid (Ext wp wq):=HEpo.out.trans HEq.out
      have z7:=HEq.out.cell z7;have z8:=HEq.out.cell z8
      clear hEq
      go_upto_region 16 with fail
      refine region_anyEV (fun w'=>w'.cell? ⟨x4,2,none⟩=some (.slice (some ⟨g,0,none⟩) z cg)∧w'.cell? ⟨g,p,none⟩=some (.string u5)∧Hid (Ext wq w')) 11 12 (by kernel_rfl) (by kernel_rfl) ⟨(Ext.drew wq).cell z7,(Ext.drew wq).cell z8,Ext.drew wq⟩ (fun ops hO hHeld=>?_)
      have hi:=getopN hO 0 (by decide)
      conv at hi=>rhs;arg 1;whnf
      refine tX hO (v:=?_) 0 hi (Or.inl ⟨by rfl,?_⟩) ?_
      rotate_left
      ·((intro w');(try go_simp);(try with_reducible rfl))
      clear hi
      (try simp only [Act.put,sx1,sx2,sx3])
      have hi:=getopN hO 1 (by decide)
      conv at hi=>rhs;arg 1;whnf
      refine anyE_takeP hO (v:=?_) 1 [10] hi (by kernel_rfl) (by kernel_rfl) (by kernel_rfl) (by kernel_rfl) (by kernel_rfl) (fun _ _ _ h=>h) (Or.inl ⟨by rfl,?_⟩) (by assumption) ?_
      rotate_left
      ·((intro w' hSw);(try dsimp only at hSw);(try go_simp);(try with_reducible rfl))
      clear hi
      (try simp only [Act.put,sx1,sx2,sx3])
      have hi:=getopN hO 2 (by decide)
      conv at hi=>rhs;arg 1;whnf
      refine tX hO (v:=?_) 2 hi (Or.inl ⟨by rfl,?_⟩) ?_
      rotate_left
      ·((intro w');(try go_simp);(try with_reducible rfl))
      clear hi
      (try simp only [Act.put,sx1,sx2,sx3])
      have hi:=getopN hO 3 (by decide)
      conv at hi=>rhs;arg 1;whnf
      refine tX hO (v:=?_) 3 hi (Or.inl ⟨by rfl,?_⟩) ?_
      rotate_left
      ·((intro w');(try go_simp);(try with_reducible rfl))
      clear hi
      (try simp only [Act.put,sx1,sx2,sx3])
      have hi:=getopN hO 4 (by decide)
      conv at hi=>rhs;arg 1;whnf
      refine anyE_takeP hO (v:=?_) 4 [9,7,6] hi (by kernel_rfl) (by kernel_rfl) (by kernel_rfl) (by kernel_rfl) (by kernel_rfl) (fun _ _ _ h=>h) (Or.inl ⟨by rfl,?_⟩) (by assumption) ?_
      rotate_left
      ·((intro w' hSw);(try dsimp only at hSw);(try go_simp);(try with_reducible rfl))
      clear hi
      (try simp only [Act.put,sx1,sx2,sx3])
      have hi:=getopN hO 5 (by decide)
      conv at hi=>rhs;arg 1;whnf
      refine tX hO (v:=?_) 5 hi (Or.inl ⟨by rfl,?_⟩) ?_
      rotate_left
      ·((intro w');(try go_simp);(try with_reducible rfl))
      clear hi
      (try simp only [Act.put,sx1,sx2,sx3])
      have hi:=getopN hO 6 (by decide)
      conv at hi=>rhs;arg 1;whnf
      refine tX hO (v:=?_) 6 hi (Or.inl ⟨by rfl,?_⟩) ?_
      rotate_left
      ·((intro w');(try go_simp);(try with_reducible rfl))
      clear hi
      (try simp only [Act.put,sx1,sx2,sx3])
      have hi:=getopN hO 7 (by decide)
      conv at hi=>rhs;arg 1;whnf
      refine anyE_takeP hO (v:=?_) 7 [9] hi (by kernel_rfl) (by kernel_rfl) (by kernel_rfl) (by kernel_rfl) (by kernel_rfl) (fun _ _ _ h=>h) (Or.inl ⟨by rfl,?_⟩) (by assumption) ?_
      rotate_left
      ·((intro w' hSw);(try dsimp only at hSw);(try go_simp);(try with_reducible rfl))
      clear hi
      (try simp only [Act.put,sx1,sx2,sx3])
      have hi:=getopN hO 8 (by decide)
      conv at hi=>rhs;arg 1;whnf
      refine tX hO (v:=?_) 8 hi (Or.inl ⟨by rfl,?_⟩) ?_
      rotate_left
      ·((intro w');(try go_simp);(try with_reducible rfl))
      clear hi
      (try simp only [Act.put,sx1,sx2,sx3])
      have hi:=getopN hO 9 (by decide)
      conv at hi=>rhs;arg 1;whnf
      refine anyE_stepV hO 9 (by kernel_rfl) hi (fun K hK=>?_)
      go_simp
      (go_at_call 73;refine (HAD.out _ (HEq.out.trans hHeld.2.2.out)).mono ?_)
      rintro e wy ⟨rfl,hEz⟩
      go_wp2_with fail
      refine hK.out _ _ ⟨(hEz).cell hHeld.1,(hEz).cell hHeld.2.1,Ext.trans hHeld.2.2.out (hEz)⟩ (fun hHeld=>?_)
      clear hK K hi
      (try simp only [Act.put,sx1,sx2,sx3])
      have HWY:Hid (Ext wp wy):=HEpq.out.trans hHeld.2.2.out
      have HRY:=Lib.hid (HGB2.out.ext HWY.out)
      have kg:=HRY.out.free p
      have kz:=hHeld.2.1
      have hi:=getopN hO 10 (by decide)
      conv at hi=>rhs;arg 1;whnf
      refine tX hO (v:=?_) 10 hi (Or.inl ⟨by rfl,?_⟩) ?_
      rotate_left
      ·((intro w');(try go_simp);(try with_reducible rfl))
      clear hi
      (try simp only [Act.put,sx1,sx2,sx3])
      have hi:=getopN hO 11 (by decide)
      conv at hi=>rhs;arg 1;whnf
      refine anyE_lastP hO 11 (by kernel_rfl) (by kernel_rfl) (by kernel_rfl) hi (fun K hK=>?_)
      go_simp
      refine hK.out _ _ ?_
      clear hK K hi hO
      (try simp only [Act.put,sx1,sx2,sx3])
      go_wp2_with fail
      go_roundw
      case rel=>exact ⟨k+1,by omega,by go_num,(HG2'.out.ext HWY.out).trans (grownBy_S (grown_setCell _ _ _ _) (fun k hk=>by cases hk;rfl)),(HNS2.out.ext HWY.out).set HRY.out (by rw [HLK.out];exact HP2.out),by
       have h9:=HRY.out.set p (by rw [HLK.out];exact HP2.out) (c0+sgnI (x*y) true)
       rw [HU6.out] at h9
       rw [HNY.out,HAC2.out]
       exact h9⟩
      case measure=>simp [intOf];omega
     | false =>
      have e9:u4=u3:=HXN.out rfl
      obtain rfl:=e9.symm
      go_wp2_with fail
      refine (HPL.out wo (Ext.refl _)).mono ?_
      rintro e wq ⟨rfl,hEq⟩
      have HEq:Hid (Ext wo wq):=hEq
      have HEpq:Hid (Ext wp wq):=HEpo.out.trans HEq.out
      have z7:=HEq.out.cell z7;have z8:=HEq.out.cell z8
      clear hEq
      go_upto_region 16 with fail
      refine region_anyEV (fun w'=>w'.cell? ⟨x4,2,none⟩=some (.slice (some ⟨g,0,none⟩) z cg)∧w'.cell? ⟨g,p,none⟩=some (.string u5)∧Hid (Ext wq w')) 11 12 (by kernel_rfl) (by kernel_rfl) ⟨(Ext.drew wq).cell z7,(Ext.drew wq).cell z8,Ext.drew wq⟩ (fun ops hO hHeld=>?_)
      have hi:=getopN hO 0 (by decide)
      conv at hi=>rhs;arg 1;whnf
      refine tX hO (v:=?_) 0 hi (Or.inl ⟨by rfl,?_⟩) ?_
      rotate_left
      ·((intro w');(try go_simp);(try with_reducible rfl))
      clear hi
      (try simp only [Act.put,sx1,sx2,sx3])
      have hi:=getopN hO 1 (by decide)
      conv at hi=>rhs;arg 1;whnf
      refine anyE_takeP hO (v:=?_) 1 [10] hi (by kernel_rfl) (by kernel_rfl) (by kernel_rfl) (by kernel_rfl) (by kernel_rfl) (fun _ _ _ h=>h) (Or.inl ⟨by rfl,?_⟩) (by assumption) ?_
      rotate_left
      ·((intro w' hSw);(try dsimp only at hSw);(try go_simp);(try with_reducible rfl))
      clear hi
      (try simp only [Act.put,sx1,sx2,sx3])
      have hi:=getopN hO 2 (by decide)
      conv at hi=>rhs;arg 1;whnf
      refine tX hO (v:=?_) 2 hi (Or.inl ⟨by rfl,?_⟩) ?_
      rotate_left
      ·((intro w');(try go_simp);(try with_reducible rfl))
      clear hi
      (try simp only [Act.put,sx1,sx2,sx3])
      have hi:=getopN hO 3 (by decide)
      conv at hi=>rhs;arg 1;whnf
      refine tX hO (v:=?_) 3 hi (Or.inl ⟨by rfl,?_⟩) ?_
      rotate_left
      ·((intro w');(try go_simp);(try with_reducible rfl))
      clear hi
      (try simp only [Act.put,sx1,sx2,sx3])
      have hi:=getopN hO 4 (by decide)
      conv at hi=>rhs;arg 1;whnf
      refine anyE_takeP hO (v:=?_) 4 [9,7,6] hi (by kernel_rfl) (by kernel_rfl) (by kernel_rfl) (by kernel_rfl) (by kernel_rfl) (fun _ _ _ h=>h) (Or.inl ⟨by rfl,?_⟩) (by assumption) ?_
      rotate_left
      ·((intro w' hSw);(try dsimp only at hSw);(try go_simp);(try with_reducible rfl))
      clear hi
      (try simp only [Act.put,sx1,sx2,sx3])
      have hi:=getopN hO 5 (by decide)
      conv at hi=>rhs;arg 1;whnf
      refine tX hO (v:=?_) 5 hi (Or.inl ⟨by rfl,?_⟩) ?_
      rotate_left
      ·((intro w');(try go_simp);(try with_reducible rfl))
      clear hi
      (try simp only [Act.put,sx1,sx2,sx3])
      have hi:=getopN hO 6 (by decide)
      conv at hi=>rhs;arg 1;whnf
      refine tX hO (v:=?_) 6 hi (Or.inl ⟨by rfl,?_⟩) ?_
      rotate_left
      ·((intro w');(try go_simp);(try with_reducible rfl))
      clear hi
      (try simp only [Act.put,sx1,sx2,sx3])
      have hi:=getopN hO 7 (by decide)
      conv at hi=>rhs;arg 1;whnf
      refine anyE_takeP hO (v:=?_) 7 [9] hi (by kernel_rfl) (by kernel_rfl) (by kernel_rfl) (by kernel_rfl) (by kernel_rfl) (fun _ _ _ h=>h) (Or.inl ⟨by rfl,?_⟩) (by assumption) ?_
      rotate_left
      ·((intro w' hSw);(try dsimp only at hSw);(try go_simp);(try with_reducible rfl))
      clear hi
      (try simp only [Act.put,sx1,sx2,sx3])
      have hi:=getopN hO 8 (by decide)
      conv at hi=>rhs;arg 1;whnf
      refine tX hO (v:=?_) 8 hi (Or.inl ⟨by rfl,?_⟩) ?_
      rotate_left
      ·((intro w');(try go_simp);(try with_reducible rfl))
      clear hi
      (try simp only [Act.put,sx1,sx2,sx3])
      have hi:=getopN hO 9 (by decide)
      conv at hi=>rhs;arg 1;whnf
      refine anyE_stepV hO 9 (by kernel_rfl) hi (fun K hK=>?_)
      go_simp
      (go_at_call 73;refine (HAD.out _ (HEq.out.trans hHeld.2.2.out)).mono ?_)
      rintro e wy ⟨rfl,hEz⟩
      go_wp2_with fail
      refine hK.out _ _ ⟨(hEz).cell hHeld.1,(hEz).cell hHeld.2.1,Ext.trans hHeld.2.2.out (hEz)⟩ (fun hHeld=>?_)
      clear hK K hi
      (try simp only [Act.put,sx1,sx2,sx3])
      have HWY:Hid (Ext wp wy):=HEpq.out.trans hHeld.2.2.out
      have HRY:=Lib.hid (HGB2.out.ext HWY.out)
      have kg:=HRY.out.free p
      have kz:=hHeld.2.1
      have hi:=getopN hO 10 (by decide)
      conv at hi=>rhs;arg 1;whnf
      refine tX hO (v:=?_) 10 hi (Or.inl ⟨by rfl,?_⟩) ?_
      rotate_left
      ·((intro w');(try go_simp);(try with_reducible rfl))
      clear hi
      (try simp only [Act.put,sx1,sx2,sx3])
      have hi:=getopN hO 11 (by decide)
      conv at hi=>rhs;arg 1;whnf
      refine anyE_lastP hO 11 (by kernel_rfl) (by kernel_rfl) (by kernel_rfl) hi (fun K hK=>?_)
      go_simp
      refine hK.out _ _ ?_
      clear hK K hi hO
      (try simp only [Act.put,sx1,sx2,sx3])
      go_wp2_with fail
      go_roundw
      case rel=>exact ⟨k+1,by omega,by go_num,(HG2'.out.ext HWY.out).trans (grownBy_S (grown_setCell _ _ _ _) (fun k hk=>by cases hk;rfl)),(HNS2.out.ext HWY.out).set HRY.out (by rw [HLK.out];exact HP2.out),by
       have h9:=HRY.out.set p (by rw [HLK.out];exact HP2.out) (c0+sgnI (x*y) false)
       rw [HU6.out] at h9
       rw [HNY.out,HAC2.out]
       exact h9⟩
      case measure=>simp [intOf];omega
    ·obtain rfl:k=N2:=by omega
     go_wp2_with fail
     go_roundw
     case rel=>exact ⟨i+1,by omega,by go_num,HG2'.out,HNS2.out,by rw [HRW.out];exact HGB2.out⟩
     case measure=>simp [intOf];omega
  ·obtain rfl:i=N1:=by omega
   have HE9:Hid (Ext w wi):=ext_grownS HES.out HG.out (fun j hj e=>by have:=HOO.out;omega)
   have HBO9:=Lib.hid ((HG.out.block x4 (block_lt HBOS.out) (by have:=HOO.out;omega)).trans HBOS.out)
   have HB39:=Lib.hid ((HG.out.block x2 (block_lt HB3S.out) (by have:=HOO.out;omega)).trans HB3S.out)
   have HGD:Hid (RowN wi g D):=by unfold Hid;rw [HPD.out];exact HGB.out
   have HDL:Hid (D.length=z):=by unfold Hid;rw [HPD.out];exact HLP.out i
   have k9:=block_cell HBO9.out
   have f9:=block_free HB39.out
   have r9:=block_cell HB39.out
   go_wp2_with fail
   have hb7:=store3 HB39.out (.int .i64 n) (.int .i64 d) (.slice (some ⟨g,0,none⟩) z cg)
   refine bodyPost_ret (results_cell_row (by rfl) _ _ x2 37 #[.int .i64 n,.int .i64 d,.slice (some ⟨g,0,none⟩) z cg] (0,0) _ (by rfl) hb7 Tryz.underlying37 (by rfl) (by kernel_rfl)) (by rfl) ⟨_,rfl,multi_ext HE9.out (by have:=HOO.out;omega) _ _ _,_,rfl,?_⟩
   have h9:=(HGD.out.grown (grownBy_S (S:=(·=x2)) (multi_grown wi x2 (.int .i64 n) (.int .i64 d) (.slice (some ⟨g,0,none⟩) z cg)) (fun k hk=>by cases hk;rfl)) (fun e=>by have:=HOO.out;omega)).numsZ (c:=cg) (by rw [HDL.out];exact HGC.out) HGM.out
   rw [HDL.out] at h9
   exact h9
end Go.Proofs.YtjlkkofmojgipaaGreatDoor
