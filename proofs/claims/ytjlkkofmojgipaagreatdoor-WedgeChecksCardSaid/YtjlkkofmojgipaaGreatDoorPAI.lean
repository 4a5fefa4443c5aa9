import Derived.Test.YtjlkkofmojgipaaGreatDoorPAH
namespace Go.Proofs.YtjlkkofmojgipaaGreatDoor
set_option linter.unusedVariables false
set_option linter.unusedSimpArgs false
open Go.RowKit
theorem results_cell_tmp {P:Program} {fn:Func} {p s:Tmp} {ty:TypeId} (h:fn.results=#[.cell p ty,.tmp s]) (tmps:Array Value) (w:World) (g:Nat) (t:TypeId) (cs:Array Value) (fr:Nat×Nat) (d:TypeDesc) (v:Value)
  (hp:tmps.getD p undef=.pointer (some ⟨g,0,none⟩)) (hs:tmps.getD s undef=v) (hg:w.heap[g]?=some (.cells cs t fr))
  (hu:P.underlying ty=some d) (hd:(match d with | .struct _ | .array _ _=>true | _=>false)=true) (hi:(P.info? ty).map (·.size)=some cs.size) :
  (results fn tmps).run P w=.ok (.tuple #[.agg cs,v]) w:=by
 have hp':tmps[p]?.getD undef=.pointer (some ⟨g,0,none⟩):=by simpa using hp
 have hs':tmps[s]?.getD undef=v:=by simpa using hs
 simp [results,h,hp',hs',asAddr,run_loadVar_row w g t ty cs fr d hg hu hd hi]
set_option maxRecDepth 100000 in
set_option maxHeartbeats 4000000 in
theorem ratDiv_any (x y:Rat) (w:World) (hx:RS 13000 x) (hy:RS 13000 y) (hy0:y≠0) (ht:Pow10 w) :
  Calls Tryz.prog 164 #[ratV x,ratV y] w fun e w'=>e=.returned (.tuple #[ratV (x / y),.int .i64 0])∧Ext w w':=by
 have HT:=Lib.hid ht
 clear ht
 obtain ⟨W1,hW1,hE1,hs1,hb1⟩:=box2 w (.string (intB x.num)) (.string (numB x.den)) 152
 obtain ⟨W2,hW2,hE2,hs2,hb2⟩:=box2 W1 (.string (intB y.num)) (.string (numB y.den)) 152
 obtain ⟨W3,hW3,hE3,hs3,hb3⟩:=box2 W2 (.string ⟨#[]⟩) (.string ⟨#[]⟩) 152
 have hb1':=block_ext hb1 (hE2.trans hE3)
 have hb2':=block_ext hb2 hE3
 have HE:=Lib.hid ((hE1.trans hE2).trans hE3)
 have HR:Hid (w.heap.size≤W2.heap.size):=by unfold Hid;omega
 have HN1:Hid (w.heap.size≠W2.heap.size):=by unfold Hid;omega
 have HN2:Hid (W1.heap.size≠W2.heap.size):=by unfold Hid;omega
 have HC:Hid (∀ W,Ext W3 W→W.cell? ⟨w.heap.size,0,none⟩=some (.string (intB x.num))∧W.cell? ⟨w.heap.size,1,none⟩=some (.string (numB x.den))∧W.cell? ⟨W1.heap.size,0,none⟩=some (.string (intB y.num))∧W.cell? ⟨W1.heap.size,1,none⟩=some (.string (numB y.den))∧W.cell? ⟨W2.heap.size,0,none⟩=some (.string ⟨#[]⟩)∧W.cell? ⟨W2.heap.size,1,none⟩=some (.string ⟨#[]⟩)∧W.frozen? ⟨W2.heap.size,0,none⟩=false∧W.frozen? ⟨W2.heap.size,1,none⟩=false∧W.heap[W2.heap.size]?=some (.cells #[.string ⟨#[]⟩,.string ⟨#[]⟩] 152 (0,0))):=fun W hW=>by
  obtain ⟨a0,a1,-⟩:=block2_cell (block_ext hb1' hW)
  obtain ⟨b0,b1,-⟩:=block2_cell (block_ext hb2' hW)
  obtain ⟨c0,c1,cf⟩:=block2_cell (block_ext hb3 hW)
  exact ⟨a0,a1,b0,b1,c0,c1,cf 0,cf 1,block_ext hb3 hW⟩
 have hSG:=fun W=>ratSign_any y W
 have hyn:y.num≠0:=fun h=>hy0 (Rat.num_eq_zero.1 h)
 have hsg:(y.num.sign == 0)=false:=by rw [beq_eq_false_iff_ne];exact fun h=>hyn (Int.sign_eq_zero_iff_zero.1 h)
 have hM1:∀ W,Ext w W→Calls Tryz.prog 63 #[.string (intB x.num),.string (numB y.den)] W fun e w'=>e=.returned (.string (intB (x.num*(y.den:Int))))∧Ext W w':=fun W hW=>by
  have:=mulI_any x.num (y.den:Int) W (by have:=hx.1;omega) (by rw [eb];have:=hy.2;omega) (HT.out.ext hW)
  rw [eb] at this
  exact this
 have hM2:∀ W,Ext w W→Calls Tryz.prog 63 #[.string (numB x.den),.string (intB y.num)] W fun e w'=>e=.returned (.string (intB ((x.den:Int)*y.num)))∧Ext W w':=fun W hW=>by
  have:=mulI_any (x.den:Int) y.num W (by rw [eb];have:=hx.2;omega) (by have:=hy.1;omega) (HT.out.ext hW)
  rw [eb] at this
  exact this
 have hL:∀ W,Ext w W→Calls Tryz.prog 200 #[.string (intB (x.num*(y.den:Int))),.string (intB ((x.den:Int)*y.num))] W fun e w'=>e=.returned (ratV (x / y))∧Ext W w':=fun W hW=>by
  rw [← rat_div_eq]
  have h1:=int_mul_size x.num (y.den:Int)
  have h2:=int_mul_size (x.den:Int) y.num
  rw [eb y.den] at h1
  rw [eb x.den] at h2
  have h3:=hx.1;have h4:=hx.2;have h5:=hy.1;have h6:=hy.2
  exact lowest_any _ _ W (Int.mul_ne_zero (by have:=x.den_nz;omega) hyn) (by omega) (by omega) (HT.out.ext hW)
 have HM1:=Lib.hid hM1;have HM2:=Lib.hid hM2;have HL:=Lib.hid hL;have HSG:=Lib.hid hSG
 have heta:∀ q:Rat,ratV q=.agg #[.string (intB q.num),.string (numB q.den)]:=fun _=>rfl
 obtain ⟨Z,hZ⟩:∃ Z,Z=x / y:=⟨_,rfl⟩
 obtain ⟨sg,hsgg⟩:∃ sg,sg=y.num.sign:=⟨_,rfl⟩
 rw [← hZ] at HL ⊢
 rw [← hsgg] at HSG hsg
 rw [heta x]
 rw [heta y] at HSG ⊢
 rw [heta Z] at HL ⊢
 clear hE1 hE2 hE3 hs1 hs2 hs3 hb1 hb2 hb3 hb1' hb2' hM1 hM2 hL hSG heta hx hy hy0 hyn hsgg
 obtain ⟨n1,hn1⟩:∃ n,n=intB x.num:=⟨_,rfl⟩
 obtain ⟨d1,hd1⟩:∃ n,n=numB x.den:=⟨_,rfl⟩
 obtain ⟨n2,hn2⟩:∃ n,n=intB y.num:=⟨_,rfl⟩
 obtain ⟨d2,hd2⟩:∃ n,n=numB y.den:=⟨_,rfl⟩
 obtain ⟨n4,hn4⟩:∃ n,n=intB Z.num:=⟨_,rfl⟩
 obtain ⟨d4,hd4⟩:∃ n,n=numB Z.den:=⟨_,rfl⟩
 obtain ⟨n3,hn3⟩:∃ n,n=intB (x.num*(y.den:Int)):=⟨_,rfl⟩
 obtain ⟨d3,hd3⟩:∃ n,n=intB ((x.den:Int)*y.num):=⟨_,rfl⟩
 rw [← hn1,← hd2,← hn3] at HM1
 rw [← hd1,← hn2,← hd3] at HM2
 rw [← hn3,← hd3,← hn4,← hd4] at HL
 rw [← hn4,← hd4]
 rw [← hn1,← hd1,← hn2,← hd2] at HC ⊢
 rw [← hn1,← hd1] at hW1
 rw [← hn2,← hd2] at hW2 HSG
 clear hn1 hd1 hn2 hd2 hn3 hd3 hn4 hd4 hZ
 obtain ⟨c0,c1,c2,c3,c4,c5,c6,c7,-⟩:=HC.out W3 (Ext.refl _)
 go_enter Tryz.func164,Tryz.ntmps164
 go_wp2_with fail
 refine (HSG.out _).mono ?_
 rintro e w4 ⟨rfl,hE4⟩
 have HE4:=Lib.hid hE4
 clear hE4 HSG c0 c1 c2 c3 c4 c5 c6 c7
 go_wp2_with fail
 have HX3:=Lib.hid (Ext.trans (Ext.trans HE.out HE4.out) (Ext.drew _))
 obtain ⟨y1,y2,y3,y4,-,-,-,-,yb⟩:=HC.out _ (Ext.trans HE4.out (Ext.drew _))
 have HB3:Hid (BlkR W2.heap.size (w4).drew):=⟨_,_,yb⟩
 clear yb
 go_region_held3 (fun w'=>w'.cell? ⟨w.heap.size,0,none⟩=some (.string n1)∧w'.cell? ⟨w.heap.size,1,none⟩=some (.string d1)∧w'.cell? ⟨W1.heap.size,0,none⟩=some (.string n2)∧w'.cell? ⟨W1.heap.size,1,none⟩=some (.string d2)∧Hid (Ext w w')∧Hid (BlkR W2.heap.size w'))
  (first | exact ⟨z1,z2,z3,z4,z5,z6⟩ | exact ⟨cell_set2 HN1.out z1,cell_set2 HN1.out z2,cell_set2 HN2.out z3,cell_set2 HN2.out z4,Lib.hid (ext_set2 z5.out HR.out),Lib.hid z6.out.set2⟩ | exact ⟨y1,y2,y3,y4,HX3,HB3⟩ | go_keep)
  (first
   | (go_at_call 63;have hc:=HM1.out _ (Hid.out (p:=Ext w _) (by assumption));with_reducible refine hc.mono ?_;clear hc;rintro e w6 ⟨rfl,hE6⟩;have q1:=hE6.cell (a:=⟨w.heap.size,0,none⟩) (v:=.string n1) (by assumption);have q2:=hE6.cell (a:=⟨w.heap.size,1,none⟩) (v:=.string d1) (by assumption);have q3:=hE6.cell (a:=⟨W1.heap.size,0,none⟩) (v:=.string n2) (by assumption);have q4:=hE6.cell (a:=⟨W1.heap.size,1,none⟩) (v:=.string d2) (by assumption);have q5:=Lib.hid (Ext.trans (Hid.out (p:=Ext w _) (by assumption)) hE6);have q6:=Lib.hid (BlkR.ext (Hid.out (p:=BlkR W2.heap.size _) (by assumption)) hE6);(try clear z1 z2 z3 z4 z5 z6 t0 t1 f0 f1);have z1:=q1;have z2:=q2;have z3:=q3;have z4:=q4;have z5:=q5;have z6:=q6;obtain ⟨r0,r1,t0,t1,f0,f1⟩:=z6.out.open;clear hE6 q1 q2 q3 q4 q5 q6)
   | (go_at_call 63;have hc:=HM2.out _ (Hid.out (p:=Ext w _) (by assumption));with_reducible refine hc.mono ?_;clear hc;rintro e w6 ⟨rfl,hE6⟩;have q1:=hE6.cell (a:=⟨w.heap.size,0,none⟩) (v:=.string n1) (by assumption);have q2:=hE6.cell (a:=⟨w.heap.size,1,none⟩) (v:=.string d1) (by assumption);have q3:=hE6.cell (a:=⟨W1.heap.size,0,none⟩) (v:=.string n2) (by assumption);have q4:=hE6.cell (a:=⟨W1.heap.size,1,none⟩) (v:=.string d2) (by assumption);have q5:=Lib.hid (Ext.trans (Hid.out (p:=Ext w _) (by assumption)) hE6);have q6:=Lib.hid (BlkR.ext (Hid.out (p:=BlkR W2.heap.size _) (by assumption)) hE6);(try clear z1 z2 z3 z4 z5 z6 t0 t1 f0 f1);have z1:=q1;have z2:=q2;have z3:=q3;have z4:=q4;have z5:=q5;have z6:=q6;obtain ⟨r0,r1,t0,t1,f0,f1⟩:=z6.out.open;clear hE6 q1 q2 q3 q4 q5 q6)
   | (go_at_call 200;have hc:=HL.out _ (Hid.out (p:=Ext w _) (by assumption));with_reducible refine hc.mono ?_;clear hc;rintro e w6 ⟨rfl,hE6⟩;have q1:=hE6.cell (a:=⟨w.heap.size,0,none⟩) (v:=.string n1) (by assumption);have q2:=hE6.cell (a:=⟨w.heap.size,1,none⟩) (v:=.string d1) (by assumption);have q3:=hE6.cell (a:=⟨W1.heap.size,0,none⟩) (v:=.string n2) (by assumption);have q4:=hE6.cell (a:=⟨W1.heap.size,1,none⟩) (v:=.string d2) (by assumption);have q5:=Lib.hid (Ext.trans (Hid.out (p:=Ext w _) (by assumption)) hE6);have q6:=Lib.hid (BlkR.ext (Hid.out (p:=BlkR W2.heap.size _) (by assumption)) hE6);(try clear z1 z2 z3 z4 z5 z6 t0 t1 f0 f1);have z1:=q1;have z2:=q2;have z3:=q3;have z4:=q4;have z5:=q5;have z6:=q6;obtain ⟨r0,r1,t0,t1,f0,f1⟩:=z6.out.open;clear hE6 q1 q2 q3 q4 q5 q6))
 all_goals
  have hb7:=BlkR.res (x:=.string n4) (y:=.string d4) z6.out
  go_wp2_with fail
  refine bodyPost_ret (results_cell_tmp (by rfl) _ _ W2.heap.size 152 #[.string n4,.string d4] (0,0) _ (.int .i64 0) (by rfl) (by rfl) hb7 Tryz.underlying152 (by rfl) (by kernel_rfl)) (by rfl) ⟨rfl,?_⟩
  exact ext_set2 z5.out HR.out
end Go.Proofs.YtjlkkofmojgipaaGreatDoor
