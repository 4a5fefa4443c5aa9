import Derived.Test.YtjlkkofmojgipaaGreatDoorOAAA
import Derived.Test.YtjlkkofmojgipaaGreatDoorPAU
import Derived.BigQuiet
import Derived.Test.YtjlkkofmojgipaaGreatDoorPAX
import Derived.Test.YtjlkkofmojgipaaGreatDoorPBK
import Derived.Test.YtjlkkofmojgipaaGreatDoorPAF
namespace Go.Proofs.YtjlkkofmojgipaaGreatDoor
set_option linter.unusedVariables false
set_option linter.unusedSimpArgs false
open Go.RowKit
theorem MrgI.len {a b out:List Nat} {i k:Nat} (h:out.length=i+k):out.length≤i+k:=by omega
theorem natsI_get {A:List Nat} {i x:Nat} (h:A[i]?=some x):(natsI A)[i]?=some (x:Int):=by unfold natsI;rw [List.getElem?_map,h];rfl
set_option maxRecDepth 100000 in
set_option maxHeartbeats 2000000 in
theorem merged10_any (A B:List Nat) (hA:A.length≤12) (hB:B.length≤12) (hbd:∀ x,x∈A∨x∈B→x<4096) (sb:Bool) (hsb:sb=(mergedL A B).isSome) (u v:Value) (w:World) (h:Ints w u (natsI A)) (h':Ints w v (natsI B)) :
  Calls Tryz.prog 67 #[u,v] w fun e w'=>∃ o,e=.returned (.tuple #[o,.bool sb])∧Ext w w'∧∀ M,mergedL A B=some M→Ints w' o (natsI M):=by
 have HSB:=Lib.hid hsb
 obtain ⟨aa,ca,rfl,p1,p2,p3,-,p5⟩:=h.open
 obtain ⟨ab,cb,rfl,r1,r2,r3,-,r5⟩:=h'.open
 unfold maxLen at p2 r2
 have HCA:=Lib.hid p5;have HCB:=Lib.hid r5;have HBD:=Lib.hid hbd
 obtain ⟨la,hla⟩:∃ l,A.length=l:=⟨_,rfl⟩
 obtain ⟨lb,hlb⟩:∃ l,B.length=l:=⟨_,rfl⟩
 have HLA:=Lib.hid hla;have HLB:=Lib.hid hlb
 have e1:(natsI A).length=la:=by unfold natsI;rw [List.length_map];exact hla
 have e2:(natsI B).length=lb:=by unfold natsI;rw [List.length_map];exact hlb
 rw [e1] at p1 ⊢
 rw [e2] at r1 ⊢
 have HGA:Hid (∀ W,Ext w W→∀ (i x:Nat),A[i]?=some x→∃ b o,aa=some ⟨b,o,none⟩∧W.cell? ⟨b,o+i,none⟩=some (.int .i64 x)):=fun W hW i x hx=>by
  obtain ⟨b,o,he,-,hc⟩:=HCA.out (by intro e;have:=natsI_get hx;rw [e] at this;simp at this)
  exact ⟨b,o,he,hW.cell (hc i _ (natsI_get hx))⟩
 have HGB:Hid (∀ W,Ext w W→∀ (i x:Nat),B[i]?=some x→∃ b o,ab=some ⟨b,o,none⟩∧W.cell? ⟨b,o+i,none⟩=some (.int .i64 x)):=fun W hW i x hx=>by
  obtain ⟨b,o,he,-,hc⟩:=HCB.out (by intro e;have:=natsI_get hx;rw [e] at this;simp at this)
  exact ⟨b,o,he,hW.cell (hc i _ (natsI_get hx))⟩
 rw [hla] at hA
 rw [hlb] at hB
 clear h h' p5 r5 hla hlb e1 e2 HCA HCB p3 r3 hsb
 go_enter Tryz.func67,Tryz.ntmps67
 go_wp2_with fail
 go_loopw [6,7,8] (fun o s t wr=>∃ (i k:Nat) (out:List Nat) (o0:Value),i≤la∧k≤lb∧s=.int .i64 (i:Int)∧t=.int .i64 (k:Int)∧o=o0∧Hid (MrgI A B i k out∧out.length=i+k∧∀ z∈out,z<4096)∧Hid (Ext w wr)∧Hid (OwnR w.heap.size wr o0 (natsI out))) (fun _ s t _=>la+lb+1-(intOf s).toNat-(intOf t).toNat)
 case atStart=>exact ⟨0,0,[],_,by omega,by omega,by simp,by simp,rfl,⟨MrgI.start A B,rfl,by simp⟩,Ext.refl _,World.ownsRow_nil _ _ _ _⟩
 case round =>
  obtain ⟨i,k,out,o9,hi,hk,rfl,rfl,ho9,HM,HE,HW⟩:=hrel
  obtain rfl:=ho9.symm
  have HS1:Hid (w.heap.size≤wr.heap.size):=HE.out.size
  have HLL:Hid (out.length≤24):=by unfold Hid;have:=HM.out.2.1;omega
  by_cases hil:i<la
  ·obtain ⟨x,hx⟩:∃ x,A[i]?=some x:=⟨_,List.getElem?_eq_getElem (by have:=HLA.out;omega)⟩
   obtain ⟨bA,oA,rfl,gA⟩:=HGA.out wr HE.out i x hx
   have q1:(i:Int)<(la:Int):=by omega
   by_cases hkl:k<lb
   ·obtain ⟨y,hy⟩:∃ y,B[k]?=some y:=⟨_,List.getElem?_eq_getElem (by have:=HLB.out;omega)⟩
    obtain ⟨bB,oB,rfl,gB⟩:=HGB.out wr HE.out k y hy
    have q2:(k:Int)<(lb:Int):=by omega
    have q3:((k:Int) == (lb:Int))=false:=beq_eq_false_iff_ne.2 (by omega)
    by_cases hxy:x=y
    ·subst hxy
     have HN:Hid (mergedL A B=none):=HM.out.1.same hx hy
     have q4:((x:Int) == (x:Int))=true:=beq_self_eq_true _
     clear hx hy
     go_wp2_with fail
     go_quiet (fail)
     go_wp2_with fail
     go_ret2
     obtain rfl:sb=false:=by rw [HSB.out,HN.out];rfl
     exact ⟨_,rfl,HE.out.draws _,fun M hM=>by rw [HN.out] at hM;cases hM⟩
    ·have q4:((x:Int) == (y:Int))=false:=beq_eq_false_iff_ne.2 (by omega)
     by_cases hlt:x<y
     ·have HM9:Hid (MrgI A B (i+1) k (out++[x])∧(out++[x]).length=i+1+k∧∀ z∈out++[x],z<4096):=⟨HM.out.1.left (by have:=HLB.out;omega) hx (fun z hz=>by rw [hy] at hz;cases hz;exact hlt),by rw [List.length_append];have:=HM.out.2.1;simp;omega,fun z hz=>(List.mem_append.1 hz).elim (HM.out.2.2 z) fun h9=>by rw [List.mem_singleton.1 h9];exact HBD.out _ (by first | exact .inl (List.mem_of_getElem? hx) | exact .inr (List.mem_of_getElem? hy))⟩
      have q5:(x:Int)<(y:Int):=by omega
      clear hx hy
      go_wp2_with fail
      go_quiet (fail)
      generalize hwq:World.drewN _ _=wq
      have HQ0:Hid (Ext wr wq):=by rw [← hwq];exact Ext.drewN _ _
      clear hwq
      have gA:=HQ0.out.cell gA
      have gB:=HQ0.out.cell gB
      go_wp2_with fail
      go_quiet (fail)
      generalize hwq:World.drewN _ _=wt
      have HQ1:Hid (Ext wq wt):=by rw [← hwq];exact Ext.drewN _ _
      clear hwq
      have gA:=HQ1.out.cell gA
      have gB:=HQ1.out.cell gB
      have HET:Hid (Ext w wt):=HE.out.trans (HQ0.out.trans HQ1.out)
      have HWT:Hid (OwnR w.heap.size wt o9 (natsI out)):=(HW.out.ext HQ0.out).ext HQ1.out
      have HST:Hid (w.heap.size≤wt.heap.size):=HET.out.size
      go_wp2_with (at_builtin;go_must (refine wpList_append_one rfl wt _ _ _ Tryz.underlying26 rfl w.heap.size o9 (natsI out) (x:Int) _ _ rfl HWT.out rfl rfl ?c2 HST.out ?_))
      case c2=>have:=HLL.out;unfold natsI;rw [List.length_map];omega
      intro v2 w5 hO5 hB5
      have HE5:Hid (Ext w w5):=Below.trans HET.out hB5
      have HO5:Hid (OwnR w.heap.size w5 v2 (natsI (out++[x]))):=by
       have:natsI (out++[x])=natsI out++[(x:Int)]:=by simp [natsI]
       rw [this];exact hO5
      clear hO5 hB5
      go_wp2_with fail
      go_roundw
      case rel=>exact ⟨i+1,k,out++[x],v2,by omega,by omega,by go_num,by go_num,rfl,HM9,HE5.out,HO5.out⟩
      case measure=>simp [intOf];omega
     ·have HM9:Hid (MrgI A B i (k+1) (out++[y])∧(out++[y]).length=i+(k+1)∧∀ z∈out++[y],z<4096):=⟨HM.out.1.right (by have:=HLA.out;omega) hy (fun z hz=>by rw [hx] at hz;cases hz;omega),by rw [List.length_append];have:=HM.out.2.1;simp;omega,fun z hz=>(List.mem_append.1 hz).elim (HM.out.2.2 z) fun h9=>by rw [List.mem_singleton.1 h9];exact HBD.out _ (by first | exact .inl (List.mem_of_getElem? hx) | exact .inr (List.mem_of_getElem? hy))⟩
      have q5:¬ (x:Int)<(y:Int):=by omega
      clear hx hy
      go_wp2_with fail
      go_quiet (fail)
      generalize hwq:World.drewN _ _=wq
      have HQ0:Hid (Ext wr wq):=by rw [← hwq];exact Ext.drewN _ _
      clear hwq
      have gA:=HQ0.out.cell gA
      have gB:=HQ0.out.cell gB
      go_wp2_with fail
      go_quiet (fail)
      generalize hwq:World.drewN _ _=wt
      have HQ1:Hid (Ext wq wt):=by rw [← hwq];exact Ext.drewN _ _
      clear hwq
      have gA:=HQ1.out.cell gA
      have gB:=HQ1.out.cell gB
      have HET:Hid (Ext w wt):=HE.out.trans (HQ0.out.trans HQ1.out)
      have HWT:Hid (OwnR w.heap.size wt o9 (natsI out)):=(HW.out.ext HQ0.out).ext HQ1.out
      have HST:Hid (w.heap.size≤wt.heap.size):=HET.out.size
      go_wp2_with (at_builtin;go_must (refine wpList_append_one rfl wt _ _ _ Tryz.underlying26 rfl w.heap.size o9 (natsI out) (y:Int) _ _ rfl HWT.out rfl rfl ?c2 HST.out ?_))
      case c2=>have:=HLL.out;unfold natsI;rw [List.length_map];omega
      intro v2 w5 hO5 hB5
      have HE5:Hid (Ext w w5):=Below.trans HET.out hB5
      have HO5:Hid (OwnR w.heap.size w5 v2 (natsI (out++[y]))):=by
       have:natsI (out++[y])=natsI out++[(y:Int)]:=by simp [natsI]
       rw [this];exact hO5
      clear hO5 hB5
      go_wp2_with fail
      go_roundw
      case rel=>exact ⟨i,k+1,out++[y],v2,by omega,by omega,by go_num,by go_num,rfl,HM9,HE5.out,HO5.out⟩
      case measure=>simp [intOf];omega
   ·obtain rfl:k=lb:=by omega
    have HM9:Hid (MrgI A B (i+1) k (out++[x])∧(out++[x]).length=i+1+k∧∀ z∈out++[x],z<4096):=⟨HM.out.1.left (by have:=HLB.out;omega) hx (fun z hz=>by have:=(List.getElem?_eq_some_iff.1 hz).1;have:=HLB.out;omega),by rw [List.length_append];have:=HM.out.2.1;simp;omega,fun z hz=>(List.mem_append.1 hz).elim (HM.out.2.2 z) fun h9=>by rw [List.mem_singleton.1 h9];exact HBD.out _ (by first | exact .inl (List.mem_of_getElem? hx) | exact .inr (List.mem_of_getElem? hy))⟩
    have q3:((k:Int) == (k:Int))=true:=beq_self_eq_true _
    clear hx
    go_wp2_with fail
    go_quiet (fail)
    generalize hwq:World.drewN _ _=wq
    have HQ0:Hid (Ext wr wq):=by rw [← hwq];exact Ext.drewN _ _
    clear hwq
    have gA:=HQ0.out.cell gA
    go_wp2_with fail
    go_quiet (fail)
    generalize hwq:World.drewN _ _=wt
    have HQ1:Hid (Ext wq wt):=by rw [← hwq];exact Ext.drewN _ _
    clear hwq
    have gA:=HQ1.out.cell gA
    have HET:Hid (Ext w wt):=HE.out.trans (HQ0.out.trans HQ1.out)
    have HWT:Hid (OwnR w.heap.size wt o9 (natsI out)):=(HW.out.ext HQ0.out).ext HQ1.out
    have HST:Hid (w.heap.size≤wt.heap.size):=HET.out.size
    go_wp2_with (at_builtin;go_must (refine wpList_append_one rfl wt _ _ _ Tryz.underlying26 rfl w.heap.size o9 (natsI out) (x:Int) _ _ rfl HWT.out rfl rfl ?c2 HST.out ?_))
    case c2=>have:=HLL.out;unfold natsI;rw [List.length_map];omega
    intro v2 w5 hO5 hB5
    have HE5:Hid (Ext w w5):=Below.trans HET.out hB5
    have HO5:Hid (OwnR w.heap.size w5 v2 (natsI (out++[x]))):=by
     have:natsI (out++[x])=natsI out++[(x:Int)]:=by simp [natsI]
     rw [this];exact hO5
    clear hO5 hB5
    go_wp2_with fail
    go_roundw
    case rel=>exact ⟨i+1,k,out++[x],v2,by omega,by omega,by go_num,by go_num,rfl,HM9,HE5.out,HO5.out⟩
    case measure=>simp [intOf];omega
  ·obtain rfl:i=la:=by omega
   have q1:¬ (i:Int)<(i:Int):=by omega
   by_cases hkl:k<lb
   ·obtain ⟨y,hy⟩:∃ y,B[k]?=some y:=⟨_,List.getElem?_eq_getElem (by have:=HLB.out;omega)⟩
    obtain ⟨bB,oB,rfl,gB⟩:=HGB.out wr HE.out k y hy
    have q2:(k:Int)<(lb:Int):=by omega
    have q3:((k:Int) == (lb:Int))=false:=beq_eq_false_iff_ne.2 (by omega)
    have HM9:Hid (MrgI A B i (k+1) (out++[y])∧(out++[y]).length=i+(k+1)∧∀ z∈out++[y],z<4096):=⟨HM.out.1.right (by have:=HLA.out;omega) hy (fun z hz=>by have:=(List.getElem?_eq_some_iff.1 hz).1;have:=HLA.out;omega),by rw [List.length_append];have:=HM.out.2.1;simp;omega,fun z hz=>(List.mem_append.1 hz).elim (HM.out.2.2 z) fun h9=>by rw [List.mem_singleton.1 h9];exact HBD.out _ (by first | exact .inl (List.mem_of_getElem? hx) | exact .inr (List.mem_of_getElem? hy))⟩
    clear hy
    go_wp2_with fail
    go_quiet (fail)
    generalize hwq:World.drewN _ _=wq
    have HQ0:Hid (Ext wr wq):=by rw [← hwq];exact Ext.drewN _ _
    clear hwq
    have gB:=HQ0.out.cell gB
    go_wp2_with fail
    go_quiet (fail)
    generalize hwq:World.drewN _ _=wt
    have HQ1:Hid (Ext wq wt):=by rw [← hwq];exact Ext.drewN _ _
    clear hwq
    have gB:=HQ1.out.cell gB
    have HET:Hid (Ext w wt):=HE.out.trans (HQ0.out.trans HQ1.out)
    have HWT:Hid (OwnR w.heap.size wt o9 (natsI out)):=(HW.out.ext HQ0.out).ext HQ1.out
    have HST:Hid (w.heap.size≤wt.heap.size):=HET.out.size
    go_wp2_with (at_builtin;go_must (refine wpList_append_one rfl wt _ _ _ Tryz.underlying26 rfl w.heap.size o9 (natsI out) (y:Int) _ _ rfl HWT.out rfl rfl ?c2 HST.out ?_))
    case c2=>have:=HLL.out;unfold natsI;rw [List.length_map];omega
    intro v2 w5 hO5 hB5
    have HE5:Hid (Ext w w5):=Below.trans HET.out hB5
    have HO5:Hid (OwnR w.heap.size w5 v2 (natsI (out++[y]))):=by
     have:natsI (out++[y])=natsI out++[(y:Int)]:=by simp [natsI]
     rw [this];exact hO5
    clear hO5 hB5
    go_wp2_with fail
    go_roundw
    case rel=>exact ⟨i,k+1,out++[y],v2,by omega,by omega,by go_num,by go_num,rfl,HM9,HE5.out,HO5.out⟩
    case measure=>simp [intOf];omega
   ·obtain rfl:k=lb:=by omega
    have HN:Hid (mergedL A B=some out):=by
     have h9:=HM.out.1
     have e1:=HLA.out;have e2:=HLB.out
     subst e1 e2
     exact h9.done
    go_wp2_with fail
    go_ret2
    obtain rfl:sb=true:=by rw [HSB.out,HN.out];rfl
    exact ⟨_,rfl,HE.out,fun M hM=>by
     rw [HN.out] at hM;cases hM;exact Ints.of_owns HW.out (fun y hy=>by
      obtain ⟨z,hz,rfl⟩:=List.mem_map.1 (show y∈out.map _ from hy)
      have:=HM.out.2.2 z hz;omega)⟩
theorem placeL_at {L:List (List Nat)} {S:List Nat} {i:Nat} (h:L[i]?=some S) (hn:∀ j,j<i→L[j]?≠some S):placeL L S=i:=by
 unfold placeL
 have hi:=(List.getElem?_eq_some_iff.1 h)
 rw [List.findIdx_eq hi.1]
 refine ⟨by rw [hi.2];exact beq_self_eq_true _,fun j hj=>?_⟩
 rw [beq_eq_false_iff_ne]
 intro e
 exact hn j hj (by rw [List.getElem?_eq_getElem (Nat.lt_trans hj hi.1),e])
set_option maxRecDepth 100000 in
set_option maxHeartbeats 2000000 in
theorem place10_any (L:List (List Nat)) (S:List Nat) (hm:S∈L) (hl:∀ T∈L,T.length=S.length) (hL:L.length≤1000) (hS:S.length≤12) (u v:Value) (w:World) (h:Rows2 w u (castS L)) (h':Ints w v (natsI S)) :
  Calls Tryz.prog 70 #[u,v] w fun e w'=>e=.returned (.int .i64 (placeL L S:Nat))∧Ext w w':=by
 obtain ⟨aa,ca,rfl,p1,p2,p3,p5⟩:=inCell.open h
 obtain ⟨ab,cb,rfl,r1,r2,r3,-,r5⟩:=h'.open
 unfold maxLen at p2 r2
 have HCA:=Lib.hid p5;have HCB:=Lib.hid r5
 obtain ⟨la,hla⟩:∃ l,L.length=l:=⟨_,rfl⟩
 obtain ⟨lb,hlb⟩:∃ l,S.length=l:=⟨_,rfl⟩
 have HLA:=Lib.hid hla;have HLB:=Lib.hid hlb;have HM:=Lib.hid hm
 have HLL:Hid (∀ T∈L,T.length=lb):=by rw [← hlb];exact hl
 have e1:(castS L).length=la:=by unfold castS;rw [List.length_map];exact hla
 have e2:(natsI S).length=lb:=by unfold natsI;rw [List.length_map];exact hlb
 rw [e1] at p1 ⊢
 rw [e2] at r1 ⊢
 rw [hla] at hL
 rw [hlb] at hS
 have HGA:Hid (∀ W,Ext w W→∀ (i:Nat) (T:List Nat),L[i]?=some T→∃ b o g c,aa=some ⟨b,o,none⟩∧W.cell? ⟨b,o+i,none⟩=some (.slice g lb c)∧lb≤c∧c≤maxLen∧∀ (k x:Nat),T[k]?=some x→∃ b2 o2,g=some ⟨b2,o2,none⟩∧W.cell? ⟨b2,o2+k,none⟩=some (.int .i64 x)):=fun W hW i T hT=>by
  have hT2:(castS L)[i]?=some (natsI T):=by unfold castS;rw [List.getElem?_map,hT];rfl
  obtain ⟨b,o,he,-,hc⟩:=HCA.out (by intro e;rw [e] at hT2;simp at hT2)
  obtain ⟨vt,ht,hcell⟩:=hc i _ hT2
  obtain ⟨g,c,rfl,t1,t2,-,-,t5⟩:=ht.open
  have hlt:(natsI T).length=lb:=by unfold natsI;rw [List.length_map];exact HLL.out T (List.mem_of_getElem? hT)
  rw [hlt] at hcell t1
  refine ⟨b,o,g,c,he,hW.cell hcell,t1,t2,fun k x hx=>?_⟩
  obtain ⟨b2,o2,hg,-,hc2⟩:=t5 (by intro e;have:=natsI_get hx;rw [e] at this;simp at this)
  exact ⟨b2,o2,hg,hW.cell (hc2 k _ (natsI_get hx))⟩
 have HGB:Hid (∀ W,Ext w W→∀ (i x:Nat),S[i]?=some x→∃ b o,ab=some ⟨b,o,none⟩∧W.cell? ⟨b,o+i,none⟩=some (.int .i64 x)):=fun W hW i x hx=>by
  obtain ⟨b,o,he,-,hc⟩:=HCB.out (by intro e;have:=natsI_get hx;rw [e] at this;simp at this)
  exact ⟨b,o,he,hW.cell (hc i _ (natsI_get hx))⟩
 clear h h' p5 r5 hla hlb e1 e2 HCA HCB p3 r3 hm hl
 go_enter Tryz.func70,Tryz.ntmps70
 go_wp2_with fail
 go_loopw [5,6,7] (fun t s0 k0 wr=>∃ (i:Nat) (y1 y2:Value),i≤la∧t=.int .i64 (i:Int)∧s0=y1∧k0=y2∧Hid (Ext w wr)∧Hid (∀ j,j<i→L[j]?≠some S)) (fun t _ _ _=>la+1-(intOf t).toNat)
 case atStart=>exact ⟨0,_,_,by omega,by simp,rfl,rfl,Ext.refl _,fun j hj=>absurd hj (by omega)⟩
 case round =>
  obtain ⟨i,y1,y2,hi,rfl,hy1,hy2,HE,HN⟩:=hrel
  obtain rfl:=hy1.symm
  obtain rfl:=hy2.symm
  obtain ⟨wo,rfl⟩:∃ wo:World,wo=wr:=⟨_,rfl⟩
  by_cases hil:i<la
  ·obtain ⟨T,hT⟩:∃ T,L[i]?=some T:=⟨_,List.getElem?_eq_getElem (by have:=HLA.out;omega)⟩
   have HT:=Lib.hid hT
   have HTL:=Lib.hid (HLL.out T (List.mem_of_getElem? hT))
   have q1:(i:Int)<(la:Int):=by omega
   clear hT
   go_wp2_with fail
   go_loopw [6,7] (fun s t wr=>∃ (k:Nat) (b:Bool),k≤lb∧s=.bool b∧t=.int .i64 (k:Int)∧Hid (Ext w wr)∧Hid (b=true↔T.take k=S.take k)) (fun _ t _=>lb+1-(intOf t).toNat)
   case atStart=>exact ⟨0,true,by omega,rfl,by simp,HE.out,by simp [Hid]⟩
   case round =>
    obtain ⟨k,b,hk,rfl,rfl,HF,HB⟩:=hrel
    by_cases hkl:k<lb
    ·obtain ⟨x,hx⟩:∃ x,T[k]?=some x:=⟨_,List.getElem?_eq_getElem (by have:=HTL.out;omega)⟩
     obtain ⟨y,hy⟩:∃ y,S[k]?=some y:=⟨_,List.getElem?_eq_getElem (by have:=HLB.out;omega)⟩
     obtain ⟨bA,oA,gr,gc,rfl,gA,gl,gm,gx⟩:=HGA.out wr HF.out i T HT.out
     unfold maxLen at gm
     obtain ⟨b2,o2,rfl,gX⟩:=gx k x hx
     obtain ⟨bB,oB,rfl,gB⟩:=HGB.out wr HF.out k y hy
     have q2:(k:Int)<(lb:Int):=by omega
     have HB9:Hid ((b && ((x:Int) == (y:Int)))=true↔T.take (k+1)=S.take (k+1)):=by
      unfold Hid
      rw [List.take_add_one,List.take_add_one,hx,hy,Bool.and_eq_true,HB.out,beq_iff_eq]
      constructor
      ·rintro ⟨h1,h2⟩
       rw [h1,show x=y by omega]
      ·intro h1
       have h2:=List.append_inj h1 (by rw [List.length_take,List.length_take,HTL.out,HLB.out])
       refine ⟨h2.1,?_⟩
       have h3:=h2.2
       simp at h3;omega
     clear hx hy gx
     cases b with
     | true =>
      obtain ⟨eb,heb⟩:∃ eb,((x:Int) == (y:Int))=eb:=⟨_,rfl⟩
      rw [heb,Bool.true_and] at HB9
      go_wp2_with fail
      (try go_quiet (fail);go_wp2_with fail)
      go_roundw
      case rel=>exact ⟨k+1,eb,by omega,rfl,by go_num,HF.out.draws _,HB9.out⟩
      case measure=>simp [intOf];omega
     | false =>
      rw [Bool.false_and] at HB9
      go_wp2_with fail
      (try go_quiet (fail);go_wp2_with fail)
      go_roundw
      case rel=>exact ⟨k+1,false,by omega,rfl,by go_num,HF.out.draws _,HB9.out⟩
      case measure=>simp [intOf];omega
    ·obtain rfl:k=lb:=by omega
     have HTS:Hid (b=true↔T=S):=by
      unfold Hid
      rw [HB.out,List.take_of_length_le (by have:=HTL.out;omega),List.take_of_length_le (by have:=HLB.out;omega)]
     cases b with
     | true =>
      have HP:Hid (placeL L S=i):=placeL_at (by rw [HT.out,HTS.out.1 rfl]) HN.out
      go_wp2_with fail
      go_ret
      exact ⟨by rw [HP.out];rfl,HF.out⟩
     | false =>
      have HN9:Hid (∀ j,j<i+1→L[j]?≠some S):=fun j hj e=>by
       by_cases hji:j=i
       ·subst hji
        rw [HT.out] at e
        have:=HTS.out.2 (Option.some.inj e)
        cases this
       ·exact HN.out j (by omega) e
      go_wp2_with fail
      go_roundw
      case rel=>exact ⟨i+1,_,_,by omega,by go_num,rfl,rfl,HF.out,HN9.out⟩
      case measure=>simp [intOf];omega
  ·exfalso
   obtain ⟨j,hj⟩:=List.getElem?_of_mem HM.out
   exact HN.out j (by have:=(List.getElem?_eq_some_iff.1 hj).1;have:=HLA.out;omega) hj
set_option maxRecDepth 100000 in
set_option maxHeartbeats 2000000 in
theorem odd10_any (A:List Nat) (hA:A.length≤24) (u:Value) (w:World) (h:Ints w u (natsI A)) :
  Calls Tryz.prog 71 #[u] w fun e w'=>e=.returned (.bool (oddL A))∧Ext w w':=by
 obtain ⟨aa,ca,rfl,p1,p2,p3,-,p5⟩:=h.open
 unfold maxLen at p2
 have HCA:=Lib.hid p5
 obtain ⟨la,hla⟩:∃ l,A.length=l:=⟨_,rfl⟩
 have HLA:=Lib.hid hla
 have e1:(natsI A).length=la:=by unfold natsI;rw [List.length_map];exact hla
 rw [e1] at p1 ⊢
 rw [hla] at hA
 have HGA:Hid (∀ W,Ext w W→∀ (i x:Nat),A[i]?=some x→∃ b o,aa=some ⟨b,o,none⟩∧W.cell? ⟨b,o+i,none⟩=some (.int .i64 x)):=fun W hW i x hx=>by
  obtain ⟨b,o,he,-,hc⟩:=HCA.out (by intro e;have:=natsI_get hx;rw [e] at this;simp at this)
  exact ⟨b,o,he,hW.cell (hc i _ (natsI_get hx))⟩
 clear h p5 hla e1 HCA p3
 go_enter Tryz.func71,Tryz.ntmps71
 go_wp2_with fail
 go_loopw [3,4,5] (fun s t k0 wr=>∃ (i:Nat) (b:Bool) (y1:Value),i≤la∧s=.bool b∧t=.int .i64 (i:Int)∧k0=y1∧Hid (Ext w wr)∧Hid ((b ^^ oddL (A.drop i))=oddL A)) (fun _ t _ _=>la+1-(intOf t).toNat)
 case atStart=>exact ⟨0,false,_,by omega,rfl,by simp,rfl,Ext.refl _,by simp [Hid]⟩
 case round =>
  obtain ⟨i,b,y1,hi,rfl,rfl,hy1,HE,HB⟩:=hrel
  obtain rfl:=hy1.symm
  obtain ⟨wo,rfl⟩:∃ wo:World,wo=wr:=⟨_,rfl⟩
  by_cases hil:i<la
  ·obtain ⟨x,hx⟩:∃ x,A[i]?=some x:=⟨_,List.getElem?_eq_getElem (by have:=HLA.out;omega)⟩
   have q1:(i:Int)<(la:Int):=by omega
   have HX:=Lib.hid hx
   have HB0:Hid ((b ^^ parN (lessN x (A.drop (i+1))))=(oddL A ^^ oddL (A.drop (i+1)))):=by
    unfold Hid
    have h9:=HB.out
    rw [oddL_par (A.drop i),invN_drop hx,parN_add,← oddL_par] at h9
    rw [← h9]
    cases b <;> cases parN (lessN x (A.drop (i+1))) <;> cases oddL (A.drop (i+1)) <;> rfl
   clear hx
   go_wp2_with fail
   go_loopw [3,5] (fun s t wr=>∃ (k:Nat) (b:Bool),i<k∧k≤la∧s=.bool b∧t=.int .i64 (k:Int)∧Hid (Ext w wr)∧Hid ((b ^^ parN (lessN x (A.drop k)))=(oddL A ^^ oddL (A.drop (i+1))))) (fun _ t _=>la+1-(intOf t).toNat)
   case atStart=>exact ⟨i+1,b,by omega,by omega,rfl,by go_num,HE.out,HB0.out⟩
   case round =>
    obtain ⟨k,c,hik,hk,rfl,rfl,HF,HC⟩:=hrel
    by_cases hkl:k<la
    ·obtain ⟨y,hy⟩:∃ y,A[k]?=some y:=⟨_,List.getElem?_eq_getElem (by have:=HLA.out;omega)⟩
     obtain ⟨bA,oA,rfl,gA⟩:=HGA.out wr HF.out i x HX.out
     obtain ⟨bB,oB,heB,gB⟩:=HGA.out wr HF.out k y hy
     simp only [Option.some.injEq,Addr.mk.injEq,and_true] at heB
     obtain ⟨rfl,rfl⟩:=heB
     have q2:(k:Int)<(la:Int):=by omega
     have hst:parN (lessN x (A.drop k))=(parN (lessN x (A.drop (k+1))) ^^ decide (y<x)):=by
      rw [drop_getI hy,lessN_cons,parN_add]
      by_cases hyx:y<x
      ·rw [if_pos hyx,decide_eq_true hyx];rfl
      ·rw [if_neg hyx,decide_eq_false hyx];rfl
     have h9:=HC.out
     rw [hst] at h9
     clear hy
     by_cases hyx:y<x
     ·have q3:(y:Int)<(x:Int):=by omega
      rw [decide_eq_true hyx] at h9
      have HC9:Hid (((!c) ^^ parN (lessN x (A.drop (k+1))))=(oddL A ^^ oddL (A.drop (i+1)))):=by
       unfold Hid;rw [← h9];cases c <;> cases parN (lessN x (A.drop (k+1))) <;> rfl
      clear h9 hst hyx
      go_wp2_with fail
      (try go_quiet (fail);go_wp2_with fail)
      go_roundw
      case rel=>exact ⟨k+1,!c,by omega,by omega,rfl,by go_num,HF.out.draws _,HC9.out⟩
      case measure=>simp [intOf];omega
     ·have q3:¬ (y:Int)<(x:Int):=by omega
      rw [decide_eq_false hyx,Bool.xor_false] at h9
      have HC9:=Lib.hid h9
      clear h9 hst hyx
      go_wp2_with fail
      (try go_quiet (fail);go_wp2_with fail)
      go_roundw
      case rel=>exact ⟨k+1,c,by omega,by omega,rfl,by go_num,HF.out.draws _,HC9.out⟩
      case measure=>simp [intOf];omega
    ·obtain rfl:k=la:=by omega
     have HB9:Hid ((c ^^ oddL (A.drop (i+1)))=oddL A):=by
      unfold Hid
      have h9:=HC.out
      rw [List.drop_eq_nil_of_le (by have:=HLA.out;omega)] at h9
      have h8:(c ^^ parN (lessN x []))=c:=by cases c <;> rfl
      rw [h8] at h9
      rw [h9]
      cases oddL A <;> cases oddL (A.drop (i+1)) <;> rfl
     go_wp2_with fail
     go_roundw
     case rel=>exact ⟨i+1,c,_,by omega,rfl,by go_num,rfl,HF.out,HB9.out⟩
     case measure=>simp [intOf];omega
  ·obtain rfl:i=la:=by omega
   have HV:Hid (oddL A=b):=by
    unfold Hid
    have h9:=HB.out
    rw [List.drop_eq_nil_of_le (by have:=HLA.out;omega)] at h9
    rw [← h9];cases b <;> rfl
   go_wp2_with fail
   go_ret
   exact ⟨by rw [HV.out];rfl,HE.out⟩
end Go.Proofs.YtjlkkofmojgipaaGreatDoor
namespace Go.Proofs.YtjlkkofmojgipaaGreatDoor
set_option linter.unusedVariables false
set_option linter.unusedSimpArgs false
open Go.RowKit Go.Maps
theorem RowN.numsZ {w:World} {g c:Nat} {l:List Int} (h:RowN w g l) (h1:l.length≤c) (h2:c≤9223372036854775807):ListAt 1 numC w (.slice (some ⟨g,0,none⟩) l.length c) l:=by
 refine ⟨l.map fun n=>[Value.string (intB n)],by simp,by simp,⟨_,c,rfl,h1,by unfold maxLen;omega,fun e=>by simp at e,fun _=>⟨g,0,rfl,h.lt,fun j u hu=>?_⟩⟩,fun j u x hu hx=>?_⟩
 ·rw [flatten_one (fun n=>Value.string (intB n)),List.getElem?_map] at hu
  cases hx:l[j]? with
  | none=>rw [hx] at hu;cases hu
  | some x =>
   rw [hx] at hu
   simp only [Option.map_some,Option.some.injEq] at hu
   rw [Nat.zero_add,← hu]
   exact h.cell j x hx
 ·rw [List.getElem?_map,hx] at hu
  exact (Option.some.inj hu).symm
def NoS (w w':World):Prop:=w.heap.size≤w'.heap.size∧∀ a v,w.cell? a=some v→(∀ s,v≠.string s)→w'.cell? a=some v
theorem NoS.refl (w:World):NoS w w:=⟨Nat.le_refl _,fun _ _ h _=>h⟩
theorem NoS.ext {w w' w'':World} (h:NoS w w') (he:Ext w' w''):NoS w w'':=⟨Nat.le_trans h.1 he.size,fun a v hv hs=>he.cell (h.2 a v hv hs)⟩
theorem NoS.set {w w':World} {g p:Nat} {X:List Int} {v:ByteArray} (h:NoS w w') (hR:RowN w' g X) (hp:p<X.length):NoS w (w'.setCell ⟨g,p,none⟩ (.string v)):=by
 refine ⟨by rw [setCell_sizeQ];exact h.1,fun a u hu hs=>?_⟩
 have h1:=h.2 a u hu hs
 have hne:a≠⟨g,p,none⟩:=by
  rintro rfl
  rw [hR.cell p _ (List.getElem?_eq_getElem hp)] at h1
  exact hs _ (Option.some.inj h1).symm
 rw [World.cell?_setCell_other w' _ _ _ (fun e=>hne e.symm)]
 exact h1
theorem Ints.noS {w w':World} {v:Value} {xs:List Int} (h:Ints w v xs) (hn:NoS w w'):Ints w' v xs:=by
 obtain ⟨us,h1,h2,⟨a,cap,rfl,q1,q2,q3,q4⟩,h4⟩:=h
 refine ⟨us,h1,h2,⟨a,cap,rfl,q1,q2,q3,fun hne=>?_⟩,fun j u x hu hx=>h4 j u x hu hx⟩
 obtain ⟨b,off,ha,hb,hc⟩:=q4 hne
 refine ⟨b,off,ha,Nat.lt_of_lt_of_le hb hn.1,fun j u hu=>?_⟩
 refine hn.2 _ _ (hc j u hu) fun s e=>?_
 obtain ⟨l,hl,hul⟩:=List.mem_flatten.1 (List.mem_of_getElem? hu)
 obtain ⟨i,hi⟩:=List.getElem?_of_mem hl
 obtain ⟨x,hx⟩:∃ x,xs[i]?=some x:=⟨_,List.getElem?_eq_getElem (by rw [← h1];exact (List.getElem?_eq_some_iff.1 hi).1)⟩
 have h5:=(h4 i l x hi hx).1
 rw [h5,List.mem_singleton] at hul
 rw [hul] at e
 cases e
theorem rows_noS {w w':World} {v:Value} {xss:List (List Int)} (h:Rows2 w v xss) (hn:NoS w w'):Rows2 w' v xss:=by
 obtain ⟨us,h1,h2,⟨a,cap,rfl,q1,q2,q3,q4⟩,h4⟩:=h
 refine ⟨us,h1,h2,⟨a,cap,rfl,q1,q2,q3,fun hne=>?_⟩,fun j u x hu hx=>?_⟩
 ·obtain ⟨b,off,ha,hb,hc⟩:=q4 hne
  refine ⟨b,off,ha,Nat.lt_of_lt_of_le hb hn.1,fun j u hu=>?_⟩
  refine hn.2 _ _ (hc j u hu) fun s e=>?_
  obtain ⟨l,hl,hul⟩:=List.mem_flatten.1 (List.mem_of_getElem? hu)
  obtain ⟨i,hi⟩:=List.getElem?_of_mem hl
  obtain ⟨x,hx⟩:∃ x,xss[i]?=some x:=⟨_,List.getElem?_eq_getElem (by rw [← h1];exact (List.getElem?_eq_some_iff.1 hi).1)⟩
  obtain ⟨v,hv,hv2⟩:=h4 i l x hi hx
  rw [hv,List.mem_singleton] at hul
  obtain ⟨ag,cg',hv3,-⟩:=ListAt.open hv2
  rw [hul,hv3] at e
  cases e
 ·obtain ⟨v,hv,hv2⟩:=h4 j u x hu hx
  exact ⟨v,hv,hv2.noS hn⟩
theorem step_append_manyI {ops:Array Oper} {o:Oper} {a:Act} {K:Act→World→Prop} {Q:Exit→Act→World→Prop} {E:Prop} (hgd:o.guard=none) (w:World) (s x:Operand) (T2:TypeId) (ht2:Tryz.prog.underlying T2=some (TypeDesc.slice 3)) (ho:o.op=.call { callee:=.builtin .append,args:=#[s,x],argTypes:=#[T2,T2] }) (B:Nat)
  (v:Value) (l ys:List Int) (u:Value) (hs:a.eval s=v) (hB:OwnR B w v l) (hx:a.eval x=u) (hu:Ints w u ys) (hlen:l.length+ys.length<1000000) (hbase:B≤w.heap.size)
  (h:∀ v' w',OwnR B w' v' (l++ys)→Below B w w'→K (a.put o.dst v') w'):if Region.wanted o (yielded ops a.tmps)=true then Oper.wp Tryz.prog o a w K Q else E:=by
 rw [if_pos (by unfold Region.wanted;rw [hgd])]
 obtain ⟨ad,c,rfl,h1,h2,h3,hb,hc⟩:=hu.open
 obtain ⟨i0,hi,hz0,hz1,hz2⟩:=info_parts infoInt
 cases ad with
 | none =>
  have h0:ys=[]:=by have:=h3 rfl;exact List.eq_nil_of_length_eq_zero (by omega)
  subst h0
  obtain rfl:c=0:=h3 rfl
  have hrun:=run_append_owned_none (P:=Tryz.prog) (w:=w) B T2 o.type 3 i0 1 ht2 hi v l.length (l.map (Value.int .i64 ·)) hB
  unfold Oper.wp
  simp [execOp,ho,resolve,invoke,builtin,hs,hx,hrun,Result.andThen]
  exact h _ _ (by rw [List.append_nil];exact hB) (Below.refl _ _)
 | some ad =>
  have hnews:∀ (j:Nat) (u:Value),(ys.map (Value.int .i64))[j]?=some u→w.cell? (ad.add j)=some u:=by
   intro j u hu
   rw [List.getElem?_map] at hu
   cases hj:ys[j]? with
   | none=>simp [hj] at hu
   | some x =>
    simp [hj] at hu;subst hu
    obtain ⟨b,off,hab,hbw,hcell⟩:=hc (by intro e;simp [e] at hj)
    cases hab
    have:=hcell j x hj
    rw [show (⟨b,off,none⟩:Addr).add j=⟨b,off+j,none⟩ by unfold Addr.add;split <;> simp_all]
    exact this
  refine wp_append_own_at w s x T2 ho B 3 i0 (.int .i64 0) 1 8 ht2 hi hz0 hz1 hz2 rfl (by decide) v l.length (l.map (Value.int .i64 ·)) hs hB ad ys.length c (ys.map (Value.int .i64)) hx (by simp) hnews (ints_oneCell _ _) (by unfold maxLen;omega) (by omega) hbase ?_
  intro v' w' hown' hgrow _ _
  refine h v' w' (by simpa [OwnR] using hown') (Below.grown (Below.refl _ _) hgrow hbase (by intro k hk;exact (hB.lt k hk).1))
end Go.Proofs.YtjlkkofmojgipaaGreatDoor
namespace Go.Proofs.YtjlkkofmojgipaaGreatDoor
set_option linter.unusedVariables false
set_option linter.unusedSimpArgs false
open Go.RowKit
end Go.Proofs.YtjlkkofmojgipaaGreatDoor
