import Derived.Test.YtjlkkofmojgipaaGreatDoorTBN
import Derived.Test.YtjlkkofmojgipaaGreatDoorTBP
namespace Go.Proofs.YtjlkkofmojgipaaGreatDoor
set_option linter.unusedVariables false
set_option linter.unusedSimpArgs false
open Go.RowKit
theorem wpList_append_manyI {ops:Array Oper} {rest:List Oper} {o:Oper} {a:Act} {Q:Exit→Act→World→Prop} (hgd:o.guard=none) (w:World) (s x:Operand) (T2:TypeId) (ht2:Tryz.prog.underlying T2=some (TypeDesc.slice 3)) (ho:o.op=.call { callee:=.builtin .append,args:=#[s,x],argTypes:=#[T2,T2] }) (B:Nat)
  (v:Value) (l ys:List Int) (u:Value) (hs:a.eval s=v) (hB:OwnR B w v l) (hx:a.eval x=u) (hu:Ints w u ys) (hlen:l.length+ys.length<1000000) (hbase:B≤w.heap.size)
  (h:∀ v' w',OwnR B w' v' (l++ys)→Below B w w'→wpList Tryz.prog ops Q rest (a.put o.dst v') w'):wpList Tryz.prog ops Q (o::rest) a w :=
 wpList_plain hgd fun K' hk=>by
  have h9:=step_append_manyI (ops:=#[]) (Q:=Q) (K:=K') (E:=False) hgd w s x T2 ht2 ho B v l ys u hs hB hx hu hlen hbase fun v' w' a1 a2=>hk _ _ (h v' w' a1 a2)
  rw [if_pos (by unfold Region.wanted;rw [hgd])] at h9
  exact h9
def NoT (w w':World):Prop:=w.heap.size≤w'.heap.size∧∀ a v,w.cell? a=some v→v≠.slice none 0 0→w'.cell? a=some v
theorem NoT.refl (w:World):NoT w w:=⟨Nat.le_refl _,fun _ _ h _=>h⟩
theorem NoT.ext {w w' w'':World} (h:NoT w w') (he:Ext w' w''):NoT w w'':=⟨Nat.le_trans h.1 he.size,fun a v hv hs=>he.cell (h.2 a v hv hs)⟩
theorem NoT.set {w w':World} {p:Addr} {v:Value} (h:NoT w w') (hp:w.cell? p=some (.slice none 0 0)):NoT w (w'.setCell p v):=by
 refine ⟨by rw [setCell_sizeQ];exact h.1,fun a u hu hs=>?_⟩
 have hne:p≠a:=by
  rintro rfl
  rw [hp] at hu
  exact hs (Option.some.inj hu).symm
 rw [World.cell?_setCell_other w' _ _ _ hne]
 exact h.2 a u hu hs
theorem Ints.noT {w w':World} {v:Value} {xs:List Int} (h:Ints w v xs) (hn:NoT w w'):Ints w' v xs:=by
 obtain ⟨us,h1,h2,⟨a,cap,rfl,q1,q2,q3,q4⟩,h4⟩:=h
 refine ⟨us,h1,h2,⟨a,cap,rfl,q1,q2,q3,fun hne=>?_⟩,fun j u x hu hx=>h4 j u x hu hx⟩
 obtain ⟨b,off,ha,hb,hc⟩:=q4 hne
 refine ⟨b,off,ha,Nat.lt_of_lt_of_le hb hn.1,fun j u hu=>?_⟩
 refine hn.2 _ _ (hc j u hu) fun e=>?_
 obtain ⟨l,hl,hul⟩:=List.mem_flatten.1 (List.mem_of_getElem? hu)
 obtain ⟨i,hi⟩:=List.getElem?_of_mem hl
 obtain ⟨x,hx⟩:∃ x,xs[i]?=some x:=⟨_,List.getElem?_eq_getElem (by rw [← h1];exact (List.getElem?_eq_some_iff.1 hi).1)⟩
 have h5:=(h4 i l x hi hx).1
 rw [h5,List.mem_singleton] at hul
 rw [hul] at e
 cases e
theorem rows_noT {w w':World} {v:Value} {xss:List (List Int)} (h:Rows2 w v xss) (hl:∀ r∈xss,0<r.length) (hn:NoT w w'):Rows2 w' v xss:=by
 obtain ⟨us,h1,h2,⟨a,cap,rfl,q1,q2,q3,q4⟩,h4⟩:=h
 refine ⟨us,h1,h2,⟨a,cap,rfl,q1,q2,q3,fun hne=>?_⟩,fun j u x hu hx=>?_⟩
 ·obtain ⟨b,off,ha,hb,hc⟩:=q4 hne
  refine ⟨b,off,ha,Nat.lt_of_lt_of_le hb hn.1,fun j u hu=>?_⟩
  refine hn.2 _ _ (hc j u hu) fun e=>?_
  obtain ⟨l,hl2,hul⟩:=List.mem_flatten.1 (List.mem_of_getElem? hu)
  obtain ⟨i,hi⟩:=List.getElem?_of_mem hl2
  obtain ⟨x,hx⟩:∃ x,xss[i]?=some x:=⟨_,List.getElem?_eq_getElem (by rw [← h1];exact (List.getElem?_eq_some_iff.1 hi).1)⟩
  obtain ⟨v,hv,hv2⟩:=h4 i l x hi hx
  rw [hv,List.mem_singleton] at hul
  obtain ⟨ag,cg',hv3,-⟩:=ListAt.open hv2
  rw [hul,hv3] at e
  have h9:=hl x (List.mem_of_getElem? hx)
  simp only [Value.slice.injEq] at e
  omega
 ·obtain ⟨v,hv,hv2⟩:=h4 j u x hu hx
  exact ⟨v,hv,hv2.noT hn⟩
def restDisj (n k:Nat):Bool:=(allW n (n-k)).all fun s=>decide (restW n s &&& s=0)
theorem restDisj_all:∀ n,n<6→∀ k,k<n+1→restDisj n k=true:=by decide +kernel
theorem one_set:∀ n,n<6→(allW n 0).length=1∧(allW n n).length=1:=by decide +kernel
theorem rest_odd {n k s:Nat} (hn:n<6) (hk:k≤n) (hs:s∈allW n (n-k)):oddW (restW n s) s=oddL (membL (restW n s)++membL s):=by
 obtain ⟨h1,-⟩:=rest_get (n:=n) (k:=k) (by omega) hk hs
 rcases pair_get (n:=n) (a:=k) (b:=n-k) hn hk (by omega) h1 hs with ⟨-,-,-,h2⟩ | ⟨h2,-⟩
 ·exact h2
 ·exact absurd (of_decide_eq_true (List.all_eq_true.1 (restDisj_all n hn k (by omega)) s hs)) h2
theorem filt_succ (l:List Nat) (k:Nat):(List.range (k+1)).filter (fun i=>!l.contains i)=(List.range k).filter (fun i=>!l.contains i)++(if l.contains k=true then [] else [k]):=by
 rw [List.range_succ,List.filter_append]
 congr 1
 cases h:l.contains k <;> simp only [List.filter_cons,List.filter_nil,h] <;> rfl
set_option maxRecDepth 100000 in
set_option maxHeartbeats 4000000 in
theorem refDual10_any {n k:Nat} {X:List Int} (hn:n<6) (hR:RightM n k X) (r:Value) (w:World) (h:ListAt 1 numC w r X) (ht:Pow10 w) :
  Calls Tryz.prog 45 #[.agg #[.int .i64 n,.int .i64 k,r]] w fun e w'=>∃ y,e=.returned y∧Ext w w'∧MultiV w' y n (n-k) (dualL n k X):=by
 have HV:=Lib.hid h
 obtain ⟨a,c,rfl,h1,h2,-,hc⟩:=inCell.open (BigL.of_nums h)
 unfold maxLen at h2
 have HC:=Lib.hid hc;have HDG:=Lib.hid hR.dig;have HN:=Lib.hid hn;have HK:=Lib.hid hR.kn
 have hkn:=hR.kn
 obtain ⟨m,hm⟩:∃ m,X.length=m:=⟨_,rfl⟩
 have HL:=Lib.hid hm
 have HLW:Hid (m=(allW n k).length):=by unfold Hid;rw [← hm];exact hR.len
 rw [hm] at h1 HV ⊢
 obtain ⟨d,hd⟩:∃ d,n-k=d:=⟨_,rfl⟩
 have HD:Hid (n-k=d):=hd
 have e1:IntKind.i64.wrap ((n:Int)-(k:Int))=(d:Int):=by rw [IntKind.wrap_i64];omega
 rw [hd]
 obtain ⟨w1,hw1,hE1,hs1,hb1⟩:=boxR w (.int .i64 n) (.int .i64 k) (.slice a m c)
 obtain ⟨w2,hw2,hE2,hs2,hb2⟩:=boxR w1 (.int .i64 0) (.int .i64 0) (.slice none 0 0)
 obtain ⟨w3,hw3,hE3,hs3,hb3⟩:=boxR w2 (.int .i64 0) (.int .i64 0) (.slice none 0 0)
 have HE2:=Lib.hid (hE1.trans hE2);have HE3:=Lib.hid hE3
 have HB1:=Lib.hid (block_ext hb1 hE2);have HB2:=Lib.hid hb2;have HB3:=Lib.hid hb3
 have HSZ:Hid (w1.heap.size=w.heap.size+1∧w2.heap.size=w1.heap.size+1):=⟨hs1,hs2⟩
 have c0:=block_cell HB1.out 0;have c1:=block_cell HB1.out 1
 simp only [List.getElem?_toArray,List.getElem?_cons_succ,List.getElem?_cons_zero] at c0 c1
 have f3:=block_free hb3
 have k3:=block_cell hb3
 have HSA:Hid (∀ k,k≤n→∀ W,Calls Tryz.prog 33 #[.int .i64 (n:Int),.int .i64 (k:Int)] W fun e w'=>∃ a6 c6,e=.returned (.slice a6 (allW n k).length c6)∧Rows2 w' (.slice a6 (allW n k).length c6) (castS (setsL n k))∧Ext W w'):=fun k hk W=>(refSets_any n k (by have:=HN.out;omega) hk W).mono fun e w' ⟨v,h1,h2,h3⟩=>by
  obtain ⟨a6,c6,rfl,-⟩:=ListAt.open h2
  have hl:(castS (setsL n k)).length=(allW n k).length:=by unfold castS;rw [List.length_map,← agree_len n (by have:=HN.out;omega) k (by omega)]
  rw [hl] at h1 h2
  exact ⟨a6,c6,h1,h2,h3⟩
 have HS1:=Lib.hid (HSA.out k hkn);have HS2:=Lib.hid (HSA.out d (by omega))
 rw [← HLW.out] at HS1
 obtain ⟨N2,hN2⟩:∃ z,(allW n d).length=z:=⟨_,rfl⟩
 have HN2:=Lib.hid hN2
 rw [hN2] at HS2
 have hdn:d≤n:=by omega
 have HDN:=Lib.hid hdn
 clear hb1 hb2 hb3 hE1 hE2 hE3 hs1 hs2 hs3 h hc hm hR ht HSA hN2 hd
 go_enter Tryz.func45,Tryz.ntmps45
 go_upto_region 2 with fail
 generalize hw9:World.setCell _ _ _=w5
 have HB5:Hid (w5.heap[w2.heap.size]?=some (.cells #[.int .i64 n,.int .i64 d,.slice none 0 0] 37 (0,0))):=by rw [← hw9];exact store3 HB3.out _ _ _
 have HX25:Hid (Ext w2 w5):=by rw [← hw9];exact multi_ext HE3.out (Nat.le_refl _) _ _ _
 have HE5:Hid (Ext w w5):=HE2.out.trans HX25.out
 have HB15:=Lib.hid (block_ext HB1.out HX25.out);have HB25:=Lib.hid (block_ext HB2.out HX25.out)
 obtain ⟨b3,hb3⟩:∃ b,w2.heap.size=b:=⟨_,rfl⟩
 rw [hb3] at HB5
 have HSB:Hid (w.heap.size<b3∧w1.heap.size<b3∧w.heap.size≤w1.heap.size):=by have:=HSZ.out;unfold Hid;omega
 clear hw9 hw3 k3 f3 c0 c1 hw1 hw2
 have c0:=block_cell HB15.out 0;have c1:=block_cell HB15.out 1;have c2:=block_cell HB5.out 0;have c3:=block_cell HB5.out 1
 simp only [List.getElem?_toArray,List.getElem?_cons_succ,List.getElem?_cons_zero] at c0 c1 c2 c3
 (try rw [hb3])
 clear hb3
 refine region_anyEV (fun w'=>w'.cell? ⟨w.heap.size,0,none⟩=some (.int .i64 n)∧w'.cell? ⟨w.heap.size,1,none⟩=some (.int .i64 k)∧w'.cell? ⟨b3,0,none⟩=some (.int .i64 n)∧w'.cell? ⟨b3,1,none⟩=some (.int .i64 d)∧Hid (Ext w5 w')) 12 12 (by kernel_rfl) (by kernel_rfl) ⟨(Ext.drew w5).cell c0,(Ext.drew w5).cell c1,(Ext.drew w5).cell c2,(Ext.drew w5).cell c3,Ext.drew w5⟩ (fun ops hO hHeld=>?_)
 have hi:=getopN hO 0 (by decide)
 conv at hi=>rhs;arg 1;whnf
 refine anyE_takeWV hO (v:=?_) 0 hi (by kernel_rfl) (by kernel_rfl) (by kernel_rfl) (by kernel_rfl) (fun _ _ _ h=>h) (Or.inl ⟨by rfl,?_⟩) (by assumption) ?_
 rotate_left
 ·((intro w');(try go_simp);(try with_reducible rfl))
 clear hi
 (try simp only [Act.put,List.setIfInBounds_toArray,List.set_cons_zero,List.set_cons_succ])
 have hi:=getopN hO 1 (by decide)
 conv at hi=>rhs;arg 1;whnf
 refine anyE_takeV hO (v:=?_) 1 hi (by kernel_rfl) (by kernel_rfl) (by kernel_rfl) (by kernel_rfl) (fun _ _ _ h=>h) (Or.inl ⟨by rfl,?_⟩) (by assumption) ?_
 rotate_left
 ·((intro w' hSw);(try dsimp only at hSw);(try go_simp);(try with_reducible rfl))
 clear hi
 (try simp only [Act.put,List.setIfInBounds_toArray,List.set_cons_zero,List.set_cons_succ])
 have hi:=getopN hO 2 (by decide)
 conv at hi=>rhs;arg 1;whnf
 refine anyE_takeWV hO (v:=?_) 2 hi (by kernel_rfl) (by kernel_rfl) (by kernel_rfl) (by kernel_rfl) (fun _ _ _ h=>h) (Or.inl ⟨by rfl,?_⟩) (by assumption) ?_
 rotate_left
 ·((intro w');(try go_simp);(try with_reducible rfl))
 clear hi
 (try simp only [Act.put,List.setIfInBounds_toArray,List.set_cons_zero,List.set_cons_succ])
 have hi:=getopN hO 3 (by decide)
 conv at hi=>rhs;arg 1;whnf
 refine anyE_takeV hO (v:=?_) 3 hi (by kernel_rfl) (by kernel_rfl) (by kernel_rfl) (by kernel_rfl) (fun _ _ _ h=>h) (Or.inl ⟨by rfl,?_⟩) (by assumption) ?_
 rotate_left
 ·((intro w' hSw);(try dsimp only at hSw);(try go_simp);(try with_reducible rfl))
 clear hi
 (try simp only [Act.put,List.setIfInBounds_toArray,List.set_cons_zero,List.set_cons_succ])
 have hi:=getopN hO 5 (by decide)
 conv at hi=>rhs;arg 1;whnf
 refine anyE_takeWV hO (v:=?_) 5 hi (by kernel_rfl) (by kernel_rfl) (by kernel_rfl) (by kernel_rfl) (fun _ _ _ h=>h) (Or.inl ⟨by rfl,?_⟩) (by assumption) ?_
 rotate_left
 ·((intro w');(try go_simp);(try with_reducible rfl))
 clear hi
 (try simp only [Act.put,List.setIfInBounds_toArray,List.set_cons_zero,List.set_cons_succ])
 have hi:=getopN hO 6 (by decide)
 conv at hi=>rhs;arg 1;whnf
 refine anyE_takeV hO (v:=?_) 6 hi (by kernel_rfl) (by kernel_rfl) (by kernel_rfl) (by kernel_rfl) (fun _ _ _ h=>h) (Or.inl ⟨by rfl,?_⟩) (by assumption) ?_
 rotate_left
 ·((intro w' hSw);(try dsimp only at hSw);(try go_simp);(try with_reducible rfl))
 clear hi
 (try simp only [Act.put,List.setIfInBounds_toArray,List.set_cons_zero,List.set_cons_succ])
 have hi:=getopN hO 7 (by decide)
 conv at hi=>rhs;arg 1;whnf
 refine anyE_takeWV hO (v:=?_) 7 hi (by kernel_rfl) (by kernel_rfl) (by kernel_rfl) (by kernel_rfl) (fun _ _ _ h=>h) (Or.inl ⟨by rfl,?_⟩) (by assumption) ?_
 rotate_left
 ·((intro w');(try go_simp);(try with_reducible rfl))
 clear hi
 (try simp only [Act.put,List.setIfInBounds_toArray,List.set_cons_zero,List.set_cons_succ])
 have hi:=getopN hO 8 (by decide)
 conv at hi=>rhs;arg 1;whnf
 refine anyE_takeV hO (v:=?_) 8 hi (by kernel_rfl) (by kernel_rfl) (by kernel_rfl) (by kernel_rfl) (fun _ _ _ h=>h) (Or.inl ⟨by rfl,?_⟩) (by assumption) ?_
 rotate_left
 ·((intro w' hSw);(try dsimp only at hSw);(try go_simp);(try with_reducible rfl))
 clear hi
 (try simp only [Act.put,List.setIfInBounds_toArray,List.set_cons_zero,List.set_cons_succ])
 have hi:=getopN hO 4 (by decide)
 conv at hi=>rhs;arg 1;whnf
 refine anyE_stepV hO 4 (by kernel_rfl) hi (fun K hK=>?_)
 go_simp
 (go_at_call 33;refine (HS1.out _).mono ?_)
 rintro e wz1 ⟨s1,q1,rfl,hR1,hEz⟩
 have HR1:=Lib.hid hR1
 have HY1:Hid (Ext w5.drew wz1):=hEz
 go_wp2_with fail
 refine hK.out _ _ ⟨(hEz).cell hHeld.1,(hEz).cell hHeld.2.1,(hEz).cell hHeld.2.2.1,(hEz).cell hHeld.2.2.2.1,Ext.trans hHeld.2.2.2.2.out (hEz)⟩ (fun hHeld=>?_)
 clear hK K hi
 (try simp only [Act.put,List.setIfInBounds_toArray,List.set_cons_zero,List.set_cons_succ])
 have hi:=getopN hO 9 (by decide)
 conv at hi=>rhs;arg 1;whnf
 refine anyE_stepV hO 9 (by kernel_rfl) hi (fun K hK=>?_)
 go_simp
 (go_at_call 33;refine (HS2.out _).mono ?_)
 rintro e wz2 ⟨s2,q2,rfl,hR2,hEz⟩
 have HR2:=Lib.hid hR2
 have HY2:Hid (Ext wz1 wz2):=hEz
 go_wp2_with fail
 refine hK.out _ _ ⟨(hEz).cell hHeld.1,(hEz).cell hHeld.2.1,(hEz).cell hHeld.2.2.1,(hEz).cell hHeld.2.2.2.1,Ext.trans hHeld.2.2.2.2.out (hEz)⟩ (fun hHeld=>?_)
 clear hK K hi
 (try simp only [Act.put,List.setIfInBounds_toArray,List.set_cons_zero,List.set_cons_succ])
 have hi:=getopN hO 10 (by decide)
 conv at hi=>rhs;arg 1;whnf
 refine anyE_takeWV hO (v:=?_) 10 hi (by kernel_rfl) (by kernel_rfl) (by kernel_rfl) (by kernel_rfl) (fun _ _ _ h=>h) (Or.inl ⟨by rfl,?_⟩) (by assumption) ?_
 rotate_left
 ·((intro w');(try go_simp);(try with_reducible rfl))
 clear hi
 (try simp only [Act.put,List.setIfInBounds_toArray,List.set_cons_zero,List.set_cons_succ])
 have hi:=getopN hO 11 (by decide)
 conv at hi=>rhs;arg 1;whnf
 refine anyE_lastV hO 11 (by kernel_rfl) (by kernel_rfl) hi (fun K hK=>?_)
 go_simp
 refine hK.out _ _ (by assumption) ?_
 clear hK K hi hO
 (try simp only [Act.put,List.setIfInBounds_toArray,List.set_cons_zero,List.set_cons_succ])
 obtain ⟨c0,c1,c2,c3,HX52⟩:=hHeld
 obtain ⟨wS,rfl⟩:∃ wS:World,wS=wz2:=⟨_,rfl⟩
 have HES:Hid (Ext w wS):=HE5.out.trans HX52.out
 have HR1S:=Lib.hid (Rows2.ext HR1.out HY2.out);have HR2S:=Lib.hid HR2.out
 have HB1S:=Lib.hid (block_ext HB15.out HX52.out);have HB2S:=Lib.hid (block_ext HB25.out HX52.out);have HB5S:=Lib.hid (block_ext HB5.out HX52.out)
 have HNI:Hid (wS.cell? ⟨b3,2,none⟩=some (.slice none 0 0)):=by unfold Hid;have h9:=block_cell HB5S.out 2;simpa using h9
 have HBL:Hid (b3<wS.heap.size):=block_lt HB5S.out
 clear c0 c1 c2 c3 HS1 HS2
 obtain ⟨av1,cv1,hv1,m1,M1,-,-⟩:=inCell.open HR1S.out
 obtain ⟨av2,cv2,hv2,m2,M2,-,y2⟩:=inCell.open HR2S.out
 have hl1:(castS (setsL n k)).length=m:=by unfold castS;rw [List.length_map,← agree_len n (by have:=HN.out;omega) k (by have:=HK.out;omega),HLW.out]
 have hl2:(castS (setsL n d)).length=N2:=by unfold castS;rw [List.length_map,← agree_len n (by have:=HN.out;omega) d (by have:=HDN.out;omega)];exact HN2.out
 rw [hl1] at m1 hv1
 rw [hl2] at m2 hv2
 simp only [Value.slice.injEq] at hv1 hv2
 obtain ⟨rfl,-,rfl⟩:=hv1
 obtain ⟨rfl,-,rfl⟩:=hv2
 unfold maxLen at M1 M2
 have HY2c:=Lib.hid y2
 have HSL:Hid (∀ k',k'≤n→∀ T∈setsL n k',T.length=k'):=fun k' hk' T hT=>(sets_ok (by have:=HN.out;omega) hk').1.len T hT
 have HG2:Hid (∀ W,NoT wS W→(d=0→Ext wS W)→∀ (i s:Nat),(allW n d)[i]?=some s→∃ b o g cg,s2=some ⟨b,o,none⟩∧W.cell? ⟨b,o+i,none⟩=some (.slice g d cg)∧d≤cg∧cg≤9223372036854775807∧Ints W (.slice g d cg) (natsI (membL s))∧∀ (j x:Nat),(membL s)[j]?=some x→∃ b2 o2,g=some ⟨b2,o2,none⟩∧W.cell? ⟨b2,o2+j,none⟩=some (.int .i64 x)):=fun W hW hWE i s hs=>by
  have hT:(castS (setsL n d))[i]?=some (natsI (membL s)):=by unfold castS;rw [List.getElem?_map,sets_get (by have:=HN.out;omega) HDN.out hs];rfl
  obtain ⟨b,o,he,-,hc⟩:=HY2c.out (by intro e;rw [e] at hT;simp at hT)
  obtain ⟨v,hv,hcell⟩:=hc i _ hT
  obtain ⟨ag,cg',rfl,q1,q2,-,-,q5⟩:=Ints.open hv
  have hln:(natsI (membL s)).length=d:=by
   unfold natsI;rw [List.length_map]
   exact HSL.out d HDN.out _ (by have:=sets_get (by have:=HN.out;omega) HDN.out hs;exact List.mem_of_getElem? this)
  rw [hln] at hcell hv q1
  unfold maxLen at q2
  have hcW:W.cell? ⟨b,o+i,none⟩=some (.slice ag d cg'):=by
   by_cases h0:d=0
   ·exact (hWE h0).cell hcell
   ·exact hW.2 _ _ hcell (fun e=>by simp only [Value.slice.injEq] at e;omega)
  refine ⟨b,o,ag,cg',he,hcW,q1,by omega,hv.noT hW,fun j x hx=>?_⟩
  obtain ⟨b2,o2,hg,-,hc2⟩:=q5 (by intro e;have:=natsI_get hx;rw [e] at this;simp at this)
  exact ⟨b2,o2,hg,hW.2 _ _ (hc2 j _ (natsI_get hx)) (fun e=>by cases e)⟩
 have HG1:Hid (∀ W,NoT wS W→(k=0→Ext wS W)→Rows2 W (.slice s1 m q1) (castS (setsL n k))):=fun W hW hWE=>by
  by_cases h0:k=0
  ·exact Rows2.ext HR1S.out (hWE h0)
  ·refine rows_noT HR1S.out (fun r hr=>?_) hW
   unfold castS at hr
   obtain ⟨T,hT,rfl⟩:=List.mem_map.1 hr
   rw [List.length_map,HSL.out k HK.out T hT];omega
 have HO1:Hid (d=0∨k=0→N2=1):=fun h=>by
  have h9:=one_set n HN.out
  rcases h with h | h
  ·rw [← HN2.out,h];exact h9.1
  ·rw [← HN2.out,show d=n by have:=HD.out;omega];exact h9.2
 have HML:Hid (m≤924):=by unfold Hid;rw [HLW.out];exact allW_len (by have:=HN.out;omega) HK.out
 have HN9:Hid (N2≤924):=by unfold Hid;rw [← HN2.out];exact allW_len (by have:=HN.out;omega) HDN.out
 have HDL:Hid ((dualL n k X).length=N2):=by unfold Hid;rw [dualL_len,HD.out];exact HN2.out
 clear y2 hl1 hl2 HX52
 go_wp2_with fail
 go_loopw [6] (fun t wr=>∃ i:Nat,i≤N2∧t=.int .i64 (i:Int)∧Hid (GrownS (·=b3) wS wr)∧Hid (NoT wS wr)∧Hid (i=0→Ext wS wr)∧Hid (∃ so,wr.heap[b3]?=some (.cells #[.int .i64 n,.int .i64 d,so] 37 (0,0))∧Build wr wS.heap.size 53 1 so numC ((dualL n k X).take i))) (fun t _=>N2+1-(intOf t).toNat)
 case atStart=>exact ⟨0,by omega,by simp,GrownS.refl _ _,NoT.refl _,fun _=>Ext.refl _,_,HB5S.out,Build.nil _ _ _ _ _⟩
 case round =>
  obtain ⟨i,hi,rfl,HG,HNT,HI0,HBB⟩:=hrel
  obtain ⟨wo,rfl⟩:∃ wo:World,wo=wr:=⟨_,rfl⟩
  have HEo:Hid (Ext w wo):=ext_grownS HES.out HG.out (fun j hj e=>by have:=HSB.out;omega)
  have HB1o:=Lib.hid ((HG.out.block w.heap.size (block_lt HB1S.out) (by have:=HSB.out;omega)).trans HB1S.out)
  by_cases hlt:i<N2
  ·obtain ⟨s,hs⟩:∃ s,(allW n d)[i]?=some s:=⟨_,List.getElem?_eq_getElem (by rw [HN2.out];exact hlt)⟩
   have hin:(i:Int)<(N2:Int):=by omega
   have HWE:Hid (d=0∨k=0→Ext wS wo):=fun h=>HI0.out (by have:=HO1.out h;omega)
   have hsm:=List.mem_of_getElem? hs
   have HSM:Hid (s∈allW n (n-k)):=by rw [HD.out];exact hsm
   have hml:=membL_len s
   have hmd:(membL s).length=d:=HSL.out d HDN.out _ (by have:=sets_get (by have:=HN.out;omega) HDN.out hs;exact List.mem_of_getElem? this)
   have HMD:=Lib.hid hmd
   have HSS:=Lib.hid hs
   have hd9:d≤12:=by omega
   clear hs hsm hml hmd
   go_wp2_with fail
   go_loopw [7,8] (fun o t wr=>∃ (k9:Nat) (v0:Value),k9≤n∧o=v0∧t=.int .i64 (k9:Int)∧Hid (Ext wo wr)∧Hid (OwnR wo.heap.size wr v0 (natsI ((List.range k9).filter (fun q=>!(membL s).contains q))))) (fun _ t _=>n+1-(intOf t).toNat)
   case atStart=>exact ⟨0,_,by omega,rfl,by simp,Ext.refl _,World.ownsRow_nil _ _ _ _⟩
   case round =>
    obtain ⟨k9,o9,hk9,ho9,rfl,HE,HW⟩:=hrel
    obtain rfl:=ho9.symm
    obtain ⟨wk,rfl⟩:∃ wk:World,wk=wr:=⟨_,rfl⟩
    have HB1r:=Lib.hid (block_ext HB1o.out HE.out)
    have z0:=block_cell HB1r.out 0
    simp only [List.getElem?_toArray,List.getElem?_cons_succ,List.getElem?_cons_zero] at z0
    obtain ⟨out,hout⟩:∃ l,(List.range k9).filter (fun q=>!(membL s).contains q)=l:=⟨_,rfl⟩
    have hol:out.length≤12:=by
     rw [← hout]
     have h9:=List.length_filter_le (fun q=>!(membL s).contains q) (List.range k9)
     rw [List.length_range] at h9
     have:=HN.out;omega
    have HLL:=Lib.hid hol
    have HOUT:=Lib.hid hout
    rw [hout] at HW
    clear hout hol
    by_cases hkl:k9<n
    ·have hkn9:(k9:Int)<(n:Int):=by omega
     have HS1:Hid (wo.heap.size≤wk.heap.size):=HE.out.size
     obtain ⟨b2,o2,g2,cg,hs2,g9,hg1,hg2,hI,hx⟩:=HG2.out wk (HNT.out.ext HE.out) (fun e=>(HWE.out (.inl e)).trans HE.out) i s HSS.out
     subst hs2
     have HXC:=Lib.hid hx
     clear hI hx
     go_wp2_with fail
     go_loopw [9,10] (fun q t wq=>∃ (j:Nat) (b:Bool),j≤d∧q=.bool b∧t=.int .i64 (j:Int)∧wq=wk∧Hid (b=((membL s).take j).contains k9)) (fun _ t _=>d+1-(intOf t).toNat)
     case atStart=>exact ⟨0,false,by omega,rfl,by simp,rfl,rfl⟩
     case round =>
      obtain ⟨j,b,hj,rfl,rfl,hwq,HBJ⟩:=hrel
      obtain rfl:=hwq.symm
      by_cases hjl:j<d
      ·obtain ⟨x,hx⟩:∃ x,(membL s)[j]?=some x:=⟨_,List.getElem?_eq_getElem (by rw [HMD.out];exact hjl)⟩
       obtain ⟨b4,o4,rfl,gx⟩:=HXC.out j x hx
       have hjd:(j:Int)<(d:Int):=by omega
       have HBN:Hid ((b || ((x:Int) == (k9:Int)))=((membL s).take (j+1)).contains k9):=by
        unfold Hid
        rw [List.take_add_one,hx,List.contains_eq_any_beq,List.any_append,← List.contains_eq_any_beq,← HBJ.out]
        congr 1
        simp only [Option.toList_some,List.any_cons,List.any_nil,Bool.or_false]
        rw [Bool.eq_iff_iff,beq_iff_eq,beq_iff_eq];omega
       clear hx
       cases b with
       | true =>
        rw [Bool.true_or] at HBN
        go_wp2_with fail
        go_roundw
        case rel=>exact ⟨j+1,true,by omega,rfl,by go_num,by first | rfl | trivial,HBN.out⟩
        case measure=>simp [intOf];omega
       | false =>
        rw [Bool.false_or] at HBN
        obtain ⟨eb,heb⟩:∃ eb,((x:Int) == (k9:Int))=eb:=⟨_,rfl⟩
        rw [heb] at HBN
        go_wp2_with fail
        go_roundw
        case rel=>exact ⟨j+1,eb,by omega,rfl,by go_num,by first | rfl | trivial,HBN.out⟩
        case measure=>simp [intOf];omega
      ·obtain rfl:j=d:=by omega
       have HBF:Hid (b=(membL s).contains k9):=by
        unfold Hid
        rw [HBJ.out,List.take_of_length_le (by rw [HMD.out];omega)]
       have hfs:=filt_succ (membL s) k9
       rw [HOUT.out] at hfs
       cases b with
       | true =>
        have HST:Hid ((List.range (k9+1)).filter (fun q=>!(membL s).contains q)=out):=by unfold Hid;rw [hfs,if_pos HBF.out.symm,List.append_nil]
        clear hfs
        go_wp2_with fail
        go_roundw
        case rel=>exact ⟨k9+1,_,by omega,rfl,by go_num,HE.out,by rw [HST.out];exact HW.out⟩
        case measure=>simp [intOf];omega
       | false =>
        have HST:Hid ((List.range (k9+1)).filter (fun q=>!(membL s).contains q)=out++[k9]):=by unfold Hid;rw [hfs,if_neg (by rw [← HBF.out];decide)]
        clear hfs
        go_wp2_with (at_builtin;go_must (refine wpList_append_one rfl wk _ _ _ Tryz.underlying26 rfl wo.heap.size o9 (natsI out) (k9:Int) _ _ rfl HW.out rfl rfl ?c2 HS1.out ?_))
        case c2=>have:=HLL.out;unfold natsI;rw [List.length_map];omega
        intro v2 w5 hO5 hB5
        have HE5:Hid (Ext wo w5):=Below.trans HE.out hB5
        have HO5:Hid (OwnR wo.heap.size w5 v2 (natsI (out++[k9]))):=by
         have:natsI (out++[k9])=natsI out++[(k9:Int)]:=by simp [natsI]
         rw [this];exact hO5
        clear hO5 hB5
        go_wp2_with fail
        go_roundw
        case rel=>exact ⟨k9+1,_,by omega,by rfl,by go_num,HE5.out,by rw [HST.out];exact HO5.out⟩
        case measure=>simp [intOf];omega
    ·obtain rfl:k9=n:=by omega
     obtain ⟨hrm,hrf⟩:=rest_get (n:=k9) (k:=k) (by have:=HN.out;omega) HK.out HSM.out
     have hodd:=rest_odd HN.out HK.out HSM.out
     rw [HOUT.out] at hrf
     obtain ⟨q,hq⟩:∃ q,restW k9 s=q:=⟨_,rfl⟩
     rw [hq] at hrm hrf hodd
     obtain ⟨p1,p2⟩:=place_get (n:=k9) (by have:=HN.out;omega) HK.out hrm
     obtain ⟨p,hp⟩:∃ p,placeW k9 k q=p:=⟨_,rfl⟩
     rw [hp] at p1 p2
     rw [← HLW.out] at p2
     obtain ⟨x,hx⟩:∃ x,X[p]?=some x:=⟨_,List.getElem?_eq_getElem (by rw [HL.out];exact p2)⟩
     have hrI:Ints wk o9 (natsI (membL q)):=by
      rw [← hrf]
      refine Ints.of_owns HW.out (fun y hy=>?_)
      rw [hrf] at hy
      obtain ⟨q9,hq9,rfl⟩:=List.mem_map.1 hy
      have:=membL_all q9 hq9;omega
     have HPL:Hid (∀ W,Ext wk W→Calls Tryz.prog 70 #[.slice s1 m q1,o9] W fun e w'=>e=.returned (.int .i64 p)∧Ext W w'):=fun W hW=>by
      have hmem:membL q∈setsL k9 k:=by rw [← sets_map (by have:=HN.out;omega) HK.out];exact List.mem_map_of_mem hrm
      have hln:=HSL.out k HK.out
      have h9:=place10_any (setsL k9 k) (membL q) hmem (fun T hT=>by rw [hln T hT,hln _ hmem]) (sets_ok (by have:=HN.out;omega) HK.out).2.2 (membL_len q) _ _ W (HG1.out W ((HNT.out.ext HE.out).ext hW) (fun e=>((HWE.out (.inr e)).trans HE.out).trans hW)) (hrI.ext hW)
      rw [← p1] at h9
      exact h9
     obtain ⟨ba,oa,rfl,-,hca⟩:=HC.out (by intro e;rw [e] at hx;simp at hx)
     obtain ⟨z9,e9,g9⟩:=hca p x hx
     obtain rfl:z9=.string (intB x):=e9
     have z3:=HE.out.cell (HEo.out.cell g9)
     have z2:=block_cell HB1r.out 2
     simp only [List.getElem?_toArray,List.getElem?_cons_succ,List.getElem?_cons_zero] at z2
     have hpm:(p:Int)<(m:Int):=by omega
     have hgd:(dualL k9 k X)[i]?=some (sgnI x (oddW q s)):=by
      unfold dualL
      rw [HD.out,List.getElem?_map,HSS.out,Option.map_some,hq,hp,List.getD_eq_getElem?_getD,hx];rfl
     obtain ⟨o,ho⟩:∃ o,oddW q s=o:=⟨_,rfl⟩
     rw [ho] at hgd hodd
     have HTK:Hid ((dualL k9 k X).take (i+1)=(dualL k9 k X).take i++[sgnI x o]):=by unfold Hid;rw [List.take_add_one,hgd];rfl
     have hsx:=(digits_size (HDG.out x (List.mem_of_getElem? hx))).2
     have HNG:Hid (∀ W,Calls Tryz.prog 72 #[.string (intB x)] W fun e w'=>e=.returned (.string (intB (-x)))∧W=w'):=fun W=>rNeg_any x W (by omega)
     have HN1:Hid (o=true→intB (-x)=intB (sgnI x o)):=fun e=>by rw [e];rfl
     have HN0:Hid (o=false→intB x=intB (sgnI x o)):=fun e=>by rw [e];rfl
     obtain ⟨z,hz⟩:∃ z,sgnI x o=z:=⟨_,rfl⟩
     rw [hz] at HTK HN1 HN0
     obtain ⟨ux,hux⟩:∃ u,intB x=u:=⟨_,rfl⟩
     obtain ⟨uz,huz⟩:∃ u,intB z=u:=⟨_,rfl⟩
     have HUZ:=Lib.hid huz
     rw [hux] at z3 HNG HN0
     rw [huz] at HN1 HN0
     have HODD:=Lib.hid hodd
     have HRF:=Lib.hid hrf
     clear hrm hrf hodd hq p1 p2 hp hx hrI hca g9 hgd ho hsx hz hux huz
     go_upto_region 17 with fail
     refine region_anyEV (fun w'=>w'.cell? ⟨w.heap.size,2,none⟩=some (.slice (some ⟨ba,oa,none⟩) m c)∧w'.cell? ⟨ba,oa+p,none⟩=some (.string ux)∧Hid (Ext wk w')) 8 8 (by kernel_rfl) (by kernel_rfl) ⟨(Ext.drew wk).cell z2,(Ext.drew wk).cell z3,Ext.drew wk⟩ (fun ops hO hHeld=>?_)
     have hi:=getopN hO 0 (by decide)
     conv at hi=>rhs;arg 1;whnf
     refine anyE_takeWV hO (v:=?_) 0 hi (by kernel_rfl) (by kernel_rfl) (by kernel_rfl) (by kernel_rfl) (fun _ _ _ h=>h) (Or.inl ⟨by rfl,?_⟩) (by assumption) ?_
     rotate_left
     ·((intro w');(try go_simp);(try with_reducible rfl))
     clear hi
     (try simp only [Act.put,List.setIfInBounds_toArray,List.set_cons_zero,List.set_cons_succ])
     have hi:=getopN hO 1 (by decide)
     conv at hi=>rhs;arg 1;whnf
     refine anyE_takeV hO (v:=?_) 1 hi (by kernel_rfl) (by kernel_rfl) (by kernel_rfl) (by kernel_rfl) (fun _ _ _ h=>h) (Or.inl ⟨by rfl,?_⟩) (by assumption) ?_
     rotate_left
     ·((intro w' hSw);(try dsimp only at hSw);(try go_simp);(try with_reducible rfl))
     clear hi
     (try simp only [Act.put,List.setIfInBounds_toArray,List.set_cons_zero,List.set_cons_succ])
     have hi:=getopN hO 2 (by decide)
     conv at hi=>rhs;arg 1;whnf
     refine anyE_takeWV hO (v:=?_) 2 hi (by kernel_rfl) (by kernel_rfl) (by kernel_rfl) (by kernel_rfl) (fun _ _ _ h=>h) (Or.inl ⟨by rfl,?_⟩) (by assumption) ?_
     rotate_left
     ·((intro w');(try go_simp);(try with_reducible rfl))
     clear hi
     (try simp only [Act.put,List.setIfInBounds_toArray,List.set_cons_zero,List.set_cons_succ])
     have hi:=getopN hO 3 (by decide)
     conv at hi=>rhs;arg 1;whnf
     refine anyE_takeWV hO (v:=?_) 3 hi (by kernel_rfl) (by kernel_rfl) (by kernel_rfl) (by kernel_rfl) (fun _ _ _ h=>h) (Or.inl ⟨by rfl,?_⟩) (by assumption) ?_
     rotate_left
     ·((intro w');(try go_simp);(try with_reducible rfl))
     clear hi
     (try simp only [Act.put,List.setIfInBounds_toArray,List.set_cons_zero,List.set_cons_succ])
     have hi:=getopN hO 4 (by decide)
     conv at hi=>rhs;arg 1;whnf
     refine anyE_stepV hO 4 (by kernel_rfl) hi (fun K hK=>?_)
     go_simp
     (go_at_call 70;refine (HPL.out _ hHeld.2.2.out).mono ?_)
     rintro e wp ⟨rfl,hEz⟩
     go_wp2_with fail
     refine hK.out _ _ ⟨(hEz).cell hHeld.1,(hEz).cell hHeld.2.1,Ext.trans hHeld.2.2.out (hEz)⟩ (fun hHeld=>?_)
     clear hK K hi
     (try simp only [Act.put,List.setIfInBounds_toArray,List.set_cons_zero,List.set_cons_succ])
     have hi:=getopN hO 5 (by decide)
     conv at hi=>rhs;arg 1;whnf
     refine anyE_takeWV hO (v:=?_) 5 hi (by kernel_rfl) (by kernel_rfl) (by kernel_rfl) (by kernel_rfl) (fun _ _ _ h=>h) (Or.inl ⟨by rfl,?_⟩) (by assumption) ?_
     rotate_left
     ·((intro w');(try go_simp);(try with_reducible rfl))
     clear hi
     (try simp only [Act.put,List.setIfInBounds_toArray,List.set_cons_zero,List.set_cons_succ])
     have hi:=getopN hO 6 (by decide)
     conv at hi=>rhs;arg 1;whnf
     refine anyE_takeV hO (v:=?_) 6 hi (by kernel_rfl) (by kernel_rfl) (by kernel_rfl) (by kernel_rfl) (fun _ _ _ h=>h) (Or.inl ⟨by rfl,?_⟩) (by assumption) ?_
     rotate_left
     ·((intro w' hSw);(try dsimp only at hSw);(try go_simp);(try with_reducible rfl))
     clear hi
     (try simp only [Act.put,List.setIfInBounds_toArray,List.set_cons_zero,List.set_cons_succ])
     have hi:=getopN hO 7 (by decide)
     conv at hi=>rhs;arg 1;whnf
     refine anyE_lastV hO 7 (by kernel_rfl) (by kernel_rfl) hi (fun K hK=>?_)
     go_simp
     refine hK.out _ _ (by assumption) ?_
     clear hK K hi hO
     (try simp only [Act.put,List.setIfInBounds_toArray,List.set_cons_zero,List.set_cons_succ])
     have HEp:Hid (Ext wk wp):=hHeld.2.2
     have HEop:Hid (Ext wo wp):=HE.out.trans HEp.out
     clear hHeld z0 z2 z3 HPL
     obtain ⟨b2,o2,g2,cg,hs2,g9,hg1,hg2,hI,-⟩:=HG2.out wp ((HNT.out.ext HE.out).ext HEp.out) (fun e=>(HWE.out (.inl e)).trans HEop.out) i s HSS.out
     subst hs2
     have HI9:=Lib.hid hI
     have HWp:Hid (OwnR wo.heap.size wp o9 (natsI out)):=HW.out.ext HEp.out
     have HSp:Hid (wo.heap.size≤wp.heap.size):=HEop.out.size
     clear hI
     go_wp2_with (at_builtin;go_must (refine wpList_append_manyI rfl wp _ _ 26 Tryz.underlying26 rfl wo.heap.size o9 (natsI out) (natsI (membL s)) (.slice g2 d cg) rfl HWp.out rfl HI9.out ?c1 HSp.out ?_))
     case c1 =>
      have h8:=HLL.out;have h9:=HMD.out
      unfold natsI;rw [List.length_map,List.length_map];omega
     intro v6 wC hO6 hB6
     have HXC:Hid (Ext wo wC):=Below.trans HEop.out hB6
     have HI6:Hid (Ints wC v6 (natsI (out++membL s))):=by
      have e9:natsI (out++membL s)=natsI out++natsI (membL s):=by simp [natsI]
      unfold Hid
      rw [e9]
      refine Ints.of_owns hO6 (fun y hy=>?_)
      rw [← e9] at hy
      obtain ⟨q9,hq9,rfl⟩:=List.mem_map.1 hy
      have h12:q9<12:=by
       rcases List.mem_append.1 hq9 with h | h
       ·rw [HRF.out] at h;exact membL_all q9 h
       ·exact membL_all q9 h
      omega
     have HDD9:Hid (Calls Tryz.prog 71 #[v6] wC fun e w'=>e=.returned (.bool o)∧Ext wC w'):=by
      unfold Hid
      rw [HODD.out,← HRF.out]
      exact odd10_any (out++membL s) (by rw [List.length_append];have:=HLL.out;have:=HMD.out;omega) v6 wC HI6.out
     clear hO6 hB6
     go_wp2_with fail
     refine HDD9.out.mono ?_
     rintro e wD ⟨rfl,hED⟩
     have HXD:Hid (Ext wo wD):=HXC.out.trans hED
     clear hED HDD9
     go_upto_if 82 with fail
     go_cut [11] from 83 to 84 (fun t wx=>t=.string uz∧wx=wD)
     case first =>
      cases o with
      | true =>
       have e9:=HN1.out rfl
       rw [e9] at HNG
       clear e9
       go_wp2_with fail
       refine (HNG.out wD).mono ?_
       rintro e w8 ⟨rfl,rfl⟩
       go_wp2_with fail
       go_meet
       exact ⟨rfl,rfl⟩
      | false =>
       have e9:=HN0.out rfl
       obtain rfl:=e9
       go_wp2_with fail
       go_meet
       exact ⟨rfl,rfl⟩
     case rest =>
     obtain ⟨rfl,hwx⟩:=hcut
     obtain rfl:=hwx.symm
     clear HNG HN1 HN0
     obtain ⟨so,hBK,hBU⟩:=HBB.out
     obtain ⟨ao,co,rfl,-⟩:=ListAt.open hBU.list
     obtain ⟨L9,hL9⟩:∃ L,(dualL k9 k X).take i=L:=⟨_,rfl⟩
     have hLl:L9.length=i:=by rw [← hL9,List.length_take,HDL.out];omega
     rw [hL9] at hBK hBU HTK
     rw [hLl] at hBK hBU
     have HBK:=Lib.hid (block_ext hBK HXD.out);have HB:=Lib.hid (hBU.ext HXD.out)
     have z1:=block_cell HBK.out
     have HLL2:Hid (L9.length<1000000):=by unfold Hid;have:=HN9.out;omega
     have HGq:Hid (GrownS (·=b3) wS wD):=HG.out.ext HXD.out
     have HSZ9:Hid (wS.heap.size≤wD.heap.size):=HGq.out.size
     have HNTD:Hid (NoT wS wD):=HNT.out.ext HXD.out
     clear hBK hBU hL9 hLl HBB
     go_wp2_with (at_builtin;go_must (refine wpList_append_build wD rfl _ _ 29 rfl wS.heap.size 53 (.string ⟨#[]⟩) 1 16 Tryz.underlying29 infoBigI rfl (by decide) (.slice ao i co) numC L9 z #[.string uz] 53 rfl HB.out rfl rfl ?c1 ?c2 HLL2.out (by decide) HSZ9.out ?_))
     case c1=>simp [Value.oneCell']
     case c2=>exact fun _ _=>by show [Value.string uz]=[.string (intB z)];rw [HUZ.out]
     intro v' w6 hB6 hg6 hb6 hs6 _
     rw [← HTK.out] at hB6
     have HB6:=Lib.hid hB6
     have HG6:Hid (GrownS (·=b3) wS w6):=HGq.out.thenBelow hb6 (Nat.le_refl _)
     have HK6:=Lib.hid ((Below.block hb6 b3 HBL.out).trans HBK.out)
     have HNT6:Hid (NoT wS w6):=⟨Nat.le_trans HNTD.out.1 hb6.size,fun a v hv hs=>by
      have h9:=HNTD.out.2 a v hv hs
      exact (Below.cell hb6 (lt_of_cell hv)).trans h9⟩
     obtain ⟨a6,c6,rfl,-⟩:=ListAt.open hB6.list
     obtain ⟨m6,hm6⟩:∃ m,((dualL k9 k X).take (i+1)).length=m:=⟨_,rfl⟩
     rw [hm6] at HB6 ⊢
     clear hm6 hB6 hg6 hb6
     have k6:=block_cell HK6.out
     have f6:=block_free HK6.out
     go_wp2_with fail
     go_roundw
     case rel=>exact ⟨i+1,by omega,by go_num,HG6.out.trans (grownBy_S (grown_setCell _ _ _ _) (fun k hk=>by cases hk;rfl)),HNT6.out.set HNI.out,fun e=>absurd e (by omega),_,block_set HK6.out 2 _,HB6.out.boxAt HBL.out 2 _⟩
     case measure=>simp [intOf];omega
  ·obtain rfl:i=N2:=by omega
   obtain ⟨so,hBK,hBU⟩:=HBB.out
   rw [List.take_of_length_le (by rw [HDL.out];omega)] at hBU
   obtain ⟨ao,co,rfl,-⟩:=ListAt.open hBU.list
   rw [HDL.out] at hBK hBU
   have HF:=Lib.hid hBU.list
   have HB2o:=Lib.hid ((HG.out.block w1.heap.size (block_lt HB2S.out) (by have:=HSB.out;omega)).trans HB2S.out)
   have kk:=block_cell hBK
   have f9:=block_free HB2o.out
   have k9:=block_cell HB2o.out
   clear hBK hBU HBB
   go_wp2_with fail
   have hb7:=store3 HB2o.out (.int .i64 n) (.int .i64 d) (.slice ao i co)
   refine bodyPost_ret (results_cell_row (by rfl) _ _ w1.heap.size 37 #[.int .i64 n,.int .i64 d,.slice ao i co] (0,0) _ (by rfl) hb7 Tryz.underlying37 (by rfl) (by kernel_rfl)) (by rfl) ⟨_,rfl,multi_ext HEo.out HSB.out.2.2 _ _ _,_,rfl,?_⟩
   exact nums_set HF.out HB2o.out (multi_nostr 0 0) (multi_grown _ _ _ _ _)
end Go.Proofs.YtjlkkofmojgipaaGreatDoor
