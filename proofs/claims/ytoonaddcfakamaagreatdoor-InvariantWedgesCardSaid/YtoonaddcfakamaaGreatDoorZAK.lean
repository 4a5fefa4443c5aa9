import Derived.KernelRfl
import Derived.Test.YtoonaddcfakamaaGreatDoorZAJ
import Derived.RegionTactic
import Derived.Test.YtoonaddcfakamaaGreatDoorZAI
import Derived.Test.YtoonaddcfakamaaGreatDoorZAA
import Derived.Test.YtoonaddcfakamaaGreatDoorProg
import Derived.Test.YtoonaddcfakamaaGreatDoorZAH
import Derived.Laws.Rows
import Derived.Laws.Bits64b
import Derived.Test.YtoonaddcfakamaaGreatDoorZAD
import Derived.Test.YtoonaddcfakamaaGreatDoorZAE
set_option linter.unusedVariables false
set_option linter.unusedSimpArgs false
set_option maxRecDepth 1000000
set_option maxHeartbeats 8000000
namespace Go.Proofs.YtoonaddcfakamaaGreatDoor
open Go.RowKit Go.Proofs.Tryz
theorem Z2Q {R:pM} {n:Nat} (h:∀ x∈R,aT 1000000000 x/\x.length=n):(∀ r∈R,r.all bU=true)/\(R.all fun r=>r.all dX)=true:=by
 refine ⟨fun r hr=>Z5P ((h r hr).1.mono (by decide)),?_⟩;rw [List.all_eq_true];intro r hr;rw [List.all_eq_true];intro x hx;have:=(h r hr).1 x hx;unfold dX;simp;omega
theorem x6_ (n F:Nat) (R A S:pM) (v:Value) (w:World) (h:cM w v n R) (hE:de n R=0) (hn:1<=n) (hn4:n<=6) (hk:eI F n R=some A) (hA:A.length<=6) (hb:∀ x∈A,aT 1000000000 x/\x.length=n) (pT:b9 w) (hp:3<w.heap.size) :
  Calls prog 184 #[v] w fun e w'=>∃ u,e=.returned (.tuple #[.agg #[.int .i64 n,u],.int .i64 0])/\aZ w' (·<w.heap.size) (fun W=>aw W u A)/\aA w w':=by
 have hs:=Z2Q hb;refine (Z5S n F R A hk v w h hE hn hs.1 (fun r hr=>by have:=(hb r hr).2;omega) (by omega) pT hp).mono fun e w' he=>?_;unfold ew at he;rw [if_pos hs.2] at he;obtain ⟨⟨u,h1,h2⟩,h3⟩:=he;exact ⟨u,h1,h2,h3⟩
theorem K5_ (n F:Nat) (R A S:pM) (v:Value) (w:World) (h:cM w v n R) (hE:de n R=0) (hn:1<=n) (hn4:n<=6) (hk:eI F n R=some A) (hk2:eI F n A=some S) (hA:A.length<=6) (hS:S.length<=6) (hb:∀ x∈S,aT 1000000000 x/\x.length=n) (pT:b9 w) (hp:3<w.heap.size) :
  Calls prog 121 #[v] w fun e w'=>∃ u,e=.returned (.tuple #[.agg #[.int .i64 n,u],.int .i64 0])/\aZ w' (·<w.heap.size) (fun W=>aw W u S)/\aA w w':=by
 have hs:=Z2Q hb;refine (Z6A n F R A S hk hk2 (by omega) v w h hE hn hs.1 (fun r hr=>by have:=(hb r hr).2;omega) (by omega) pT hp).mono fun e w' he=>?_;unfold ew at he;rw [if_pos hs.2] at he;obtain ⟨⟨u,h1,h2⟩,h3⟩:=he;exact ⟨u,h1,h2,h3⟩
theorem aZ.low {w:World} {S S':Nat->Prop} {P:World->Prop} (h:aZ w S P) (hS:∀ k,S' k->S k):aZ w S' P:=h.grow (aH.refl _ _) fun k hk=>.inl (hS k hk)
structure fF (n F:Nat) (m R A S:pM):Prop where
 n1:1<=n
 n4:n<=6
 lat:dJ n m=0
 form:dj n F n m=some R
 rows:R.length<=6/\∀ x∈R,aT 1000000000 x/\x.length=n
 chk:de n R=0
 kR:eI F n R=some A
 kA:eI F n A=some S
 lA:A.length<=6
 lS:S.length<=6
 bA:∀ x∈A,aT 1000000000 x/\x.length=n
 bS:∀ x∈S,aT 1000000000 x/\x.length=n
theorem f4_ (n F:Nat) (m R A S:pM) (v:Value) (w:World) (h:aw w v m) (hD:fF n F m R A S) (pT:b9 w) (hp:3<w.heap.size) :
  Calls prog 47 #[.int .i64 n,v] w fun e w'=>∃ u,e=.returned (.tuple #[.agg #[.int .i64 n,u],.int .i64 0])/\aZ w' (·<w.heap.size) (fun W=>aw W u R)/\aA w w':=by
 have hs:=Z2Q hD.rows.2;have hn4:=hD.n4;have hRl:=hD.rows.1;refine (Z6m n F m R v w h hD.lat hD.form hs.1 (fun r hr=>by have:=(hD.rows.2 r hr).2;omega) (by omega) pT hp).mono fun e w' he=>?_;unfold ew at he;rw [if_pos hs.2] at he;obtain ⟨⟨u,h1,h2⟩,h3⟩:=he;exact ⟨u,h1,h2,h3⟩
theorem Z4A (n F:Nat) (P:pN) (m R A S:pM) (vp v:Value) (w:World) (hP:aM w vp P) (h:aw w v m) (hE:eF P=0) (hPl:P.length=n) (hD:fF n F m R A S) (pT:b9 w) (hp:3<w.heap.size) :
  Calls prog 144 #[vp,v] w fun e w'=>∃ us ua,e=.returned (.tuple #[us,ua,.int .i64 0])/\aZ w' (·<w.heap.size) (fun W=>aw W us S)/\aZ w' (·<w.heap.size) (fun W=>aw W ua A)/\aA w w':=by
 have HPC:=oZ (mu P vp w hP);rw [hE] at HPC;have HOF:=oZ (f4_ n F m R A S v w h hD pT hp);have HSA:=oZ (fun W (hW:aA w W) u (hu:cM W u n R)=>K5_ n F R A S u W hu hD.chk hD.n1 hD.n4 hD.kR hD.kA hD.lA hD.lS hD.bS (pT.ext hW) (ov hp hW.size));have HAN:=oZ (fun W (hW:aA w W) u (hu:cM W u n R)=>x6_ n F R A S u W hu hD.chk hD.n1 hD.n4 hD.kR hD.lA hD.bA (pT.ext hW) (ov hp hW.size));obtain ⟨ap,cp,rfl,p1,p2,-,-,-⟩:=hP.open;rw [hPl] at HPC |-;obtain ⟨a,c,rfl,-⟩:=ae.open h;clear hP h hE hPl hD pT hp p1 p2
 go_enter func144,ntmps144
 go_wp2_with fail;refine r_ HPC ?_;clear HPC;go_wp2_with fail;refine HOF.mono ?_;rintro e w1 ⟨u1,rfl,hu1,hE1⟩;obtain ⟨a1,c1,rfl,-⟩:=aN.open hu1.now;have HE1:=oZ hE1;have HU1:=oZ hu1.now;clear hE1 hu1 HOF;obtain ⟨V1,xu,pz,hs1,hb1⟩:=eC w1 (.int .i64 0) (.slice none 0 0);obtain ⟨r0,r1,rf⟩:=bY hb1;have f0:=rf 0;have f1:=rf 1;have HB1:=oZ (fU hb1 (.int .i64 n) (.slice a1 R.length c1));have HXU:=oZ (ei pz (oz _) (.int .i64 n) (.slice a1 R.length c1));clear pz hs1 hb1 rf;obtain ⟨U1,vG⟩:=pK ((V1.setCell ⟨w1.heap.size,0,none⟩ (.int .i64 n)).setCell ⟨w1.heap.size,1,none⟩ (.slice a1 R.length c1));rw [vG] at HB1 HXU;obtain ⟨s0,s1,-⟩:=bY HB1;have HEU:=oZ (HE1.trans HXU);have HRU:=oZ (HU1.ext HXU);go_wp2_with fail;clear vG xu r0 r1 f0 f1 HE1 HU1 HXU;refine (HSA _ HEU _ ⟨_,rfl,HRU⟩).mono ?_;rintro e w2 ⟨u2,rfl,hu2,hE2⟩;obtain ⟨a2,c2,rfl,-⟩:=aN.open hu2.now;have HE2:=oZ (HEU.trans hE2);have HU2:=oZ (hu2.low (S':=(·<w.heap.size)) fun k hk=>ov hk HEU.size);have HB2:=oZ (aF HB1 hE2);have HR2:=oZ (HRU.ext hE2);clear hE2 hu2 HSA HB1 HRU HEU s0 s1;obtain ⟨V2,Ah,rP,hs2,hb2⟩:=eC w2 (.int .i64 0) (.slice none 0 0);obtain ⟨r0,r1,rf⟩:=bY hb2;have f0:=rf 0;have f1:=rf 1;have HB3:=oZ (fU hb2 (.int .i64 n) (.slice a2 S.length c2));have HXU:=oZ (ei rP (oz _) (.int .i64 n) (.slice a2 S.length c2));clear rP hs2 hb2 rf;obtain ⟨U2,vw⟩:=pK ((V2.setCell ⟨w2.heap.size,0,none⟩ (.int .i64 n)).setCell ⟨w2.heap.size,1,none⟩ (.slice a2 S.length c2));rw [vw] at HB3 HXU;have HB22:=oZ (aF HB2 HXU);obtain ⟨s0,s1,-⟩:=bY HB22;have HEU:=oZ (HE2.trans HXU);have HRU:=oZ (HR2.ext HXU);have HSU:=oZ (HU2.ext HXU);go_wp2_with fail;clear vw Ah r0 r1 f0 f1 HE2 HU2 HXU HB2 HR2;refine (HAN _ HEU _ ⟨_,rfl,HRU⟩).mono ?_;rintro e w3 ⟨u3,rfl,xG,pS⟩;obtain ⟨a3,c3,rfl,-⟩:=aN.open xG.now;have HE3:=oZ (HEU.trans pS);have HU3:=oZ (xG.low (S':=(·<w.heap.size)) fun k hk=>ov hk HEU.size);have HB4:=oZ (aF HB3 pS);have HS4:=oZ (HSU.ext pS);clear pS xG HAN HB3 HRU HEU HSU HB22 s0 s1;obtain ⟨V3,Ag,va,hs3,px⟩:=eC w3 (.int .i64 0) (.slice none 0 0);obtain ⟨r0,r1,rf⟩:=bY px;have f0:=rf 0;have f1:=rf 1;have HB5:=oZ (fU px (.int .i64 n) (.slice a3 A.length c3));have HXU:=oZ (ei va (oz _) (.int .i64 n) (.slice a3 A.length c3));clear va hs3 px rf;obtain ⟨U3,vb⟩:=pK ((V3.setCell ⟨w3.heap.size,0,none⟩ (.int .i64 n)).setCell ⟨w3.heap.size,1,none⟩ (.slice a3 A.length c3));rw [vb] at HB5 HXU;obtain ⟨q0,q1,-⟩:=bY HB5;obtain ⟨s0,s1,-⟩:=bY (aF HB4 HXU);have HEU:=oZ (HE3.trans HXU);have HSU:=oZ (HS4.ext HXU);have HAU:=oZ (HU3.ext HXU)
 go_upto_region 11 with fail
 go_region
 all_goals
  go_wp2_with fail;go_ret3;exact ⟨_,_,rfl,HSU.ext (aA.drew _),HAU.ext (aA.drew _),HEU.trans (aA.drew _)⟩
theorem I6_ (n F:Nat) (P:pN) (m R A S:pM) (vp v:Value) (w:World) (hP:aM w vp P) (h:aw w v m) (hE:eF P=0) (hPl:P.length=n) (hD:fF n F m R A S) (pT:b9 w) (hp:3<w.heap.size) :
  Calls prog 60 #[vp,v] w fun e w'=>∃ u,e=.returned (.tuple #[u,.int .i64 0])/\aZ w' (·<w.heap.size) (fun W=>cP W u P A S)/\aA w w':=by
 have HFR:=oZ (fun W (hW:aA w W)=>Z4A n F P m R A S vp v W (hP.ext hW) (h.ext hW) hE hPl hD (pT.ext hW) (ov hp hW.size));have JY:P.length<=1000000:=by have:=hD.n4;omega
 have Ga:∀ x∈P,-9223372036854775808<=x/\x<=9223372036854775807:=by
  obtain ⟨_,_,_,_,_,_,hb,_⟩:=hP.open;exact hb
 have HCL:Hid (∀ W,aA w W->Calls prog 145 #[vp] W fun e w'=>∃ a c,e=.returned (.slice a P.length c)/\aA W w'/\aZ w' (·<W.heap.size) (fun W=>aM W (.slice a P.length c) P)):=fun W hW =>
  (J4_ P vp W (hP.ext hW) JY).mono fun e w' ⟨r,h1,h2,h3⟩=>by
   have h4:=aM.of_owns h3 Ga;obtain ⟨a,c,rfl,-⟩:=h4.open;exact ⟨a,c,h1,h2,(aZ.owns h3 (fun k hk hs=>by have:=(h3.lt k hk).1;omega)).mono fun W hw=>aM.of_owns hw Ga⟩
 have hP2:=hP;obtain ⟨ap,cp,rfl,-⟩:=hP2.open;obtain ⟨a,c,rfl,-⟩:=ae.open h;rw [hPl] at HFR HCL |-;clear hP hP2 h hE hPl hD pT hp JY Ga
 go_enter func60,ntmps60
 obtain ⟨W1,pc,hE1,hs1,hb1⟩:=gU w (.slice none 0 0) (.slice none 0 0) (.slice none 0 0);have HB1:=oZ hb1;have HE1:=oZ hE1;have HS1:=oZ hs1;clear hE1 hs1 hb1;go_wp2_with fail;refine (HFR _ HE1).mono ?_;rintro e w2 ⟨us,ua,rfl,yf,Ee,hE2⟩;obtain ⟨a1,c1,rfl,-⟩:=aN.open yf.now;obtain ⟨a2,c2,rfl,-⟩:=aN.open Ee.now;have HB2:=oZ (aF HB1 hE2);have HE2:=oZ (HE1.trans hE2);have HUS:=oZ yf;have HUA:=oZ Ee;have HZ2:=oZ hE2.size;clear hE2 yf Ee HFR HB1 HE1 pc;go_wp2_with fail;refine (HCL _ HE2).mono ?_;rintro e w3 ⟨a3,c3,rfl,pS,hown⟩;have HOW:=oZ (hown.low (S':=(·<W1.heap.size)) fun k hk=>ov hk HZ2);have HB3:=oZ (aF HB2 pS);have HE3:=oZ (HE2.trans pS);have HUS3:=oZ (HUS.ext pS);have HUA3:=oZ (HUA.ext pS);clear pS hown HCL HB2;obtain ⟨b0,b1,b2,bf⟩:=cU HB3;have f0:=bf 0;have f1:=bf 1;have f2:=bf 2;clear bf;go_wp2_with fail;have hkA:=j6 HB3 (.slice a3 n c3) (.slice a2 A.length c2) (.slice a1 S.length c1);refine bodyPost_ret (jz (by rfl) _ _ w.heap.size 34 #[.slice a3 n c3,(.slice a2 A.length c2),(.slice a1 S.length c1)] (0,0) _ (by rfl) hkA underlying34 (by rfl) (by kernel_rfl)) (by rfl) ?_;have hG:∀ (x y z:Value),aH (·<W1.heap.size) w3 (((w3.setCell ⟨w.heap.size,0,none⟩ x).setCell ⟨w.heap.size,1,none⟩ y).setCell ⟨w.heap.size,2,none⟩ z):=fun x y z=>by
  have hlt:w.heap.size<W1.heap.size:=by have:=HS1.out;omega
  exact (((aH.refl _ w3).setCell (g:=w.heap.size) hlt 0 x).setCell (g:=w.heap.size) hlt 1 y).setCell (g:=w.heap.size) hlt 2 z
 have hlow:∀ k,k<w.heap.size->k<W1.heap.size\/w3.heap.size<=k:=fun k hk=>.inl (by have:=HS1.out;omega);refine ⟨_,rfl,fun W hW=>⟨_,_,_,rfl,?_,?_,?_⟩,jn HE3 (oz _) _ _ _⟩;·exact HOW.grow (hG _ _ _) hlow W hW
 ·exact HUA3.grow (hG _ _ _) hlow W hW
 ·exact HUS3.grow (hG _ _ _) hlow W hW
structure jB (n F:Nat) (P:pN) (C M:pM):Prop where
 n1:1<=n
 n4:n<=6
 pr:eF P=0
 pl:P.length=n
 chk:de n C=0
 kC:eI F n C=some M
 kM:eI F n M=some C
 lC:C.length<=6
 lM:M.length<=6
 bC:∀ x∈C,aT 1000000000 x/\x.length=n
 bM:∀ x∈M,aT 1000000000 x/\x.length=n
theorem y9_ (n F:Nat) (P:pN) (C M:pM) (v:Value) (w:World) (hV:cP w v P C M) (hR:jB n F P C M) (pT:b9 w) (hp:3<w.heap.size) :
  pI 76 #[v] w (.int .i64 0):=by
 obtain ⟨vp,vc,vm,rfl,qo,r9,rz⟩:=hV;have HPC:=oZ (fun W (hW:aA w W)=>mu P vp W (qo.ext hW));rw [hR.pr] at HPC;have HCH:=oZ (fun W (hW:aA w W) u (hu:cM W u n C)=>oA n C u W hu);rw [hR.chk] at HCH;have HSA:=oZ (fun W (hW:aA w W) u (hu:cM W u n C)=>K5_ n F C M C u W hu hR.chk hR.n1 hR.n4 hR.kC hR.kM hR.lM hR.lC hR.bC (pT.ext hW) (ov hp hW.size));have HAN:=oZ (fun W (hW:aA w W) u (hu:cM W u n C)=>x6_ n F C M C u W hu hR.chk hR.n1 hR.n4 hR.kC hR.lM hR.bM (pT.ext hW) (ov hp hW.size));have HEQ:Hid (∀ W u u',cM W u n C->cM W u' n C->pI 183 #[u,u'] W (.bool true)):=fun W u u' h h'=>by
  have:=o9_ n n C C u u' W h h';simpa using this
 have HSM:Hid (∀ W u u',aw W u M->aw W u' M->pI 98 #[u,u'] W (.bool true)):=fun W u u' h h'=>by
  have:=F5_ M M u u' W h h';simpa using this
 have HVC:=oZ r9;have HVM:=oZ rz;have hPl:=hR.pl;obtain ⟨ap,cp,rfl,-⟩:=qo.open;obtain ⟨ac,cc,rfl,-⟩:=ae.open r9;obtain ⟨am,cm,rfl,-⟩:=ae.open rz;rw [hPl] at HPC |-;clear qo r9 rz hR pT hp hPl
 go_enter func76,ntmps76
 obtain ⟨W1,pc,hE1,hs1,hb1⟩:=gU w (.slice ap n cp) (.slice ac C.length cc) (.slice am M.length cm);have HB1:=oZ hb1;have HE1:=oZ hE1;obtain ⟨b0,b1,b2,-⟩:=cU hb1;clear hE1 hs1 hb1;go_wp2_with fail;refine r_ (HPC _ HE1) ?_;clear HPC;obtain ⟨V1,xu,pz,hs1,hb1⟩:=eC W1 (.int .i64 0) (.slice none 0 0);obtain ⟨r0,r1,rf⟩:=bY hb1;have f0:=rf 0;have f1:=rf 1;have HB2:=oZ (fU hb1 (.int .i64 n) (.slice ac C.length cc));have HXU:=oZ (ei pz (oz _) (.int .i64 n) (.slice ac C.length cc));clear pz hs1 hb1 rf;obtain ⟨U1,vG⟩:=pK ((V1.setCell ⟨W1.heap.size,0,none⟩ (.int .i64 n)).setCell ⟨W1.heap.size,1,none⟩ (.slice ac C.length cc));rw [vG] at HB2 HXU;obtain ⟨s0,s1,-⟩:=bY HB2;have HB12:=oZ (aF HB1 HXU);have HEU:=oZ (HE1.trans HXU);have HCU:=oZ (HVC.ext HEU);go_wp2_with fail;clear vG xu r0 r1 f0 f1 HXU HB1;refine (HCH _ HEU _ ⟨_,rfl,HCU⟩).mono ?_;rintro e w3 ⟨rfl,pS⟩;have HE3:=oZ (HEU.trans pS);have HB23:=oZ (aF HB2 pS);have HB13:=oZ (aF HB12 pS);have HC3:=oZ (HCU.ext pS);clear pS HCH HEU HB2 HB12 HCU s0 s1;obtain ⟨s0,s1,-⟩:=bY HB23;go_wp2_with fail;refine (HSA _ HE3 _ ⟨_,rfl,HC3⟩).mono ?_;rintro e w4 ⟨u4,rfl,Eh,hE4⟩;obtain ⟨a4,c4,rfl,-⟩:=aN.open Eh.now;have HE4:=oZ (HE3.trans hE4);have HU4:=oZ Eh.now;have HB24:=oZ (aF HB23 hE4);have HB14:=oZ (aF HB13 hE4);have HC4:=oZ (HC3.ext hE4);clear hE4 Eh HSA HE3 HB23 HB13 HC3 s0 s1;obtain ⟨V2,Ah,rP,hs2,hb2⟩:=eC w4 (.int .i64 0) (.slice none 0 0);obtain ⟨r0,r1,rf⟩:=bY hb2;have f0:=rf 0;have f1:=rf 1;have HB5:=oZ (fU hb2 (.int .i64 n) (.slice a4 C.length c4));have HXU:=oZ (ei rP (oz _) (.int .i64 n) (.slice a4 C.length c4));clear rP hs2 hb2 rf;obtain ⟨U2,vw⟩:=pK ((V2.setCell ⟨w4.heap.size,0,none⟩ (.int .i64 n)).setCell ⟨w4.heap.size,1,none⟩ (.slice a4 C.length c4));rw [vw] at HB5 HXU;have HB25:=oZ (aF HB24 HXU);have HB15:=oZ (aF HB14 HXU);obtain ⟨s0,s1,-⟩:=bY HB25;obtain ⟨q0,q1,-⟩:=bY HB5;have HEU:=oZ (HE4.trans HXU);have HCU:=oZ (HC4.ext HXU);have HSU:=oZ (HU4.ext HXU);go_wp2_with fail;clear vw Ah r0 r1 f0 f1 HE4 HU4 HXU HB24 HB14 HC4;refine (HEQ _ _ _ ⟨_,rfl,HSU⟩ ⟨_,rfl,HCU⟩).mono ?_;rintro e w6 ⟨rfl,pR⟩;have HE6:=oZ (HEU.trans pR);have HB26:=oZ (aF HB25 pR);have HB16:=oZ (aF HB15 pR);have HC6:=oZ (HCU.ext pR);clear pR HEQ HEU HB25 HB15 HCU HSU HB5 s0 s1 q0 q1;obtain ⟨s0,s1,-⟩:=bY HB26;go_wp2_with fail;refine (HAN _ HE6 _ ⟨_,rfl,HC6⟩).mono ?_;rintro e w7 ⟨u7,rfl,Ef,qw⟩;obtain ⟨a7,c7,rfl,-⟩:=aN.open Ef.now;have HE7:=oZ (HE6.trans qw);have HU7:=oZ Ef.now;have HB17:=oZ (aF HB16 qw);clear qw Ef HAN HE6 HB26 HB16 HC6 s0 s1;obtain ⟨V3,Ag,va,hs3,px⟩:=eC w7 (.int .i64 0) (.slice none 0 0);obtain ⟨r0,r1,rf⟩:=bY px;have f0:=rf 0;have f1:=rf 1;have HB8:=oZ (fU px (.int .i64 n) (.slice a7 M.length c7));have HXU:=oZ (ei va (oz _) (.int .i64 n) (.slice a7 M.length c7));clear va hs3 px rf;obtain ⟨U3,vb⟩:=pK ((V3.setCell ⟨w7.heap.size,0,none⟩ (.int .i64 n)).setCell ⟨w7.heap.size,1,none⟩ (.slice a7 M.length c7));rw [vb] at HB8 HXU;obtain ⟨t0,t1,t2,-⟩:=cU (aF HB17 HXU);obtain ⟨q0,q1,-⟩:=bY HB8;have HEU:=oZ (HE7.trans HXU);have HMU:=oZ (HU7.ext HXU);have HVMU:=oZ (HVM.ext HEU);go_wp2_with fail;clear vb Ag r0 r1 f0 f1 HE7 HU7 HXU HB17;refine q_ (HSM _ _ _ HMU HVMU) (HEU.trans) ?_;intro w9 HE9;clear HSM;go_wp2_with fail;go_ret;exact ⟨rfl,HE9⟩
section
variable {P:Program} {ops:Array Oper} {Q:Exit->Act->World->Prop} {md:Region.Mode} {S:World->Prop} {z:Nat}
theorem i0_ {i:Nat} {oi:Oper} {v:Value} (hi:ops[i]?=some oi) (tb:∀ (j:Nat) (o:Oper) cs b,ops[j]?=some o->o.op≠.select cs b)
  (hQ:∀ c a w,Q (.panic c) (a.put oi.dst v) w->Q (.panic c) a w) (f:Nat) :
  ∀ (l:Array Bool) (a:Act) (w:World),l.size<=z ->
   (∀ j oj,ops[j]?=some oj->j≠i->l.getD j true=false->(∀ e∈oj.after,Region.binds md e=true->e.on≠i)->oi.apart ops oj=true) ->
   i∈Region.ready md ops l->YieldsIf P ops S oi v a->S w ->
   bQ P md ops Q S z f (l.setIfInBounds i true) (a.put oi.dst v) w->bQ P md ops Q S z (f+1) l a w:=by
 induction f with
 | zero =>
  intro l a w _ _ hr hy hS H;refine ⟨(fun e=>by rw [e] at hr;cases hr),fun j hj=>?_⟩;by_cases e:j=i;·rw [e];exact hy.wpOp hi hS ⟨fun _=>hS,H⟩
  ·have:=ready_mono hj e;rw [H.1] at this;cases this
 | succ f ih =>
  intro l a w Iq qu hr hy hS H;refine ⟨(fun e=>by rw [e] at hr;cases hr),fun j hj=>?_⟩;by_cases e:j=i;·rw [e];exact hy.wpOp hi hS ⟨fun _=>hS,H⟩
  have wE:i≠j:=fun x=>e x.symm;have un:=(mem_ready.1 hj).1;obtain ⟨oj,wX,hall⟩:=(mem_ready.1 hj).2;have ui:=(mem_ready.1 hr).1;have uf:l.getD i false=true->False:=fun hc=>by rw [P4_ ui] at hc;cases hc
  have E5:∀ l':Array Bool,l'.size<=z->l'.getD z false=false:=fun l' h=>by simp [Array.getElem?_eq_none h]
  have xN:∀ d∈oj.after,Region.binds md d=true->d.on≠i:=fun d hd hb sV=>uf (by have:=hall d hd hb;rwa [sV] at this);have step:=wpOp_putIf wX (qu j oj wX e un xN) (fun cs b=>tb i oi cs b hi) (fun cs b=>tb j oj cs b wX) hQ hy (H.2 j (ready_mono hj e));refine wpOp_mono (fun b u hb=>?_) step;obtain ⟨ry,vd,qF⟩:=hb;have zg:S u:=vd (E5 _ (by simpa using Iq));refine ⟨fun _=>zg,ih (l.setIfInBounds j true) b u (by simpa using Iq) (fun k ok hk Cj zJ hn=>?_) (ready_mono hr wE) ry zg ?_⟩
  ·refine qu k ok hk Cj ?_ hn;by_cases zV:j=k;·rw [<- zV];exact un
   ·rw [getD_set_ne true zV] at zJ;exact zJ
  ·rw [Array.setIfInBounds_comm _ _ e];exact qF
theorem Z0s (i:Nat) {oi:Oper} {v:Value} {f:Nat} {l:Array Bool} {a:Act} {w:World} (hi:ops[i]?=some oi)
  (hs:Region.noSelect ops=true) (hf:Region.free md ops l i=true) (hr:(Region.ready md ops l).contains i=true) (hz:l.size<=z)
  (hQ:∀ c a w,Q (.panic c) (a.put oi.dst v) w->Q (.panic c) a w) (hy:YieldsIf P ops S oi v a) (hS:S w)
  (h:bQ P md ops Q S z f (l.setIfInBounds i true) (a.put oi.dst v) w):bQ P md ops Q S z (f+1) l a w :=
 i0_ hi (Region.noSelect_spec hs) hQ f l a w hz (Region.free_spec hi hf) (by simpa using hr) hy hS h
theorem Z0q (i:Nat) {o:Oper} {f:Nat} {l:Array Bool} {a:Act} {w:World} (hr:Region.ready md ops l=[i]) (pn:Region.ready md ops (l.setIfInBounds i true)=[]) (ho:ops[i]?=some o)
  (h:∀ K:Act->World->Prop,Shut (∀ b u,S u->Q .normal b u->K b u)->if Region.wanted o (yielded ops a.tmps)=true then Oper.wp P o a w K Q else K (a.put o.dst undef) w):bQ P md ops Q S z (f+1) l a w:=by
 refine ⟨(fun e=>by rw [hr] at e;cases e),fun j hj=>?_⟩;obtain rfl:j=i:=by rw [hr] at hj;simpa using hj
 refine wpOp_step ho fun K hK=>h K fun b u hS hq=>hK b u ⟨fun _=>hS,?_⟩;cases f with
 | zero=>exact ⟨pn,hq⟩
 | succ f=>exact ⟨fun _=>hq,by rw [pn];simp⟩
end
section
variable {P:Program} {ops O:Array Oper} {Q:Exit->Act->World->Prop} {md:Region.Mode} {S:World->Prop} {z n:Nat}
theorem iJ (hO:Hid (ops=O)) (i:Nat) (h:i<O.size):ops[i]?=some O[i]:=by
 have hO:ops=O:=hO;subst hO;exact Array.getElem?_eq_getElem h
end
section
variable {P:Program} {ops O:Array Oper} {Q:Exit->Act->World->Prop} {md:Region.Mode} {S:World->Prop} {z n:Nat}
theorem W6_ (S:World->Prop) (z:Nat) (n:Nat) {id:Nat} {a:Act} {w:World} (hm:P.follows .mixedOrders=true) (hn:O.size=n) (hS:S w.drew)
  (h:∀ ops,Hid (ops=O)->S w.drew->bQ P .any ops Q S z n (Array.replicate n false) a w.drew):(Code.region id O true).wp P Q a w :=
 iq S z hm hS (fun hh=>by have:=h O rfl hh;rw [hn];exact this)
theorem J1_ (hO:Hid (ops=O)) (i:Nat) {oi:Oper} {v:Value} {f:Nat} {l:Array Bool} {a:Act} {w:World} (hi:ops[i]?=some oi)
  (hs:Region.noSelect O=true) (hf:Region.free md O l i=true) (hr:(Region.ready md O l).contains i=true) (hz:decide (i≠z)=true)
  (hQ:∀ c a w,Q (.panic c) (a.put oi.dst v) w->Q (.panic c) a w) (hy:Yields P O oi v a) (hS:S w)
  (h:bQ P md ops Q S z f (l.setIfInBounds i true) (a.put oi.dst v) w):bQ P md ops Q S z (f+1) l a w:=by
 have hO:ops=O:=hO;subst hO;exact R8_ i hi hs hf hr (of_decide_eq_true hz) hQ hy hS h
theorem D5_ (hO:Hid (ops=O)) (i:Nat) {oi:Oper} {v:Value} {f:Nat} {l:Array Bool} {a:Act} {w:World} (hi:ops[i]?=some oi)
  (hs:Region.noSelect O=true) (hf:Region.free md O l i=true) (hr:(Region.ready md O l).contains i=true) (hz:decide (l.size<=z)=true)
  (hQ:∀ c a w,Q (.panic c) (a.put oi.dst v) w->Q (.panic c) a w) (hy:YieldsIf P O S oi v a) (hS:S w)
  (h:bQ P md ops Q S z f (l.setIfInBounds i true) (a.put oi.dst v) w):bQ P md ops Q S z (f+1) l a w:=by
 have hO:ops=O:=hO;subst hO;exact Z0s i hi hs hf hr (of_decide_eq_true hz) hQ hy hS h
theorem V0_ (hO:Hid (ops=O)) (i:Nat) {o:Oper} {f:Nat} {l:Array Bool} {a:Act} {w:World} (hr:Region.ready md O l=[i]) (ho:ops[i]?=some o)
  (h:∀ K:Act->World->Prop,Shut (∀ b u,S u->(S u->bQ P md ops Q S z f (l.setIfInBounds i true) b u)->K b u)->if Region.wanted o (yielded O a.tmps)=true then Oper.wp P o a w K Q else K (a.put o.dst undef) w):bQ P md ops Q S z (f+1) l a w:=by
 have hO:ops=O:=hO;subst hO;exact dH i hr ho h
theorem D3_ (hO:Hid (ops=O)) (i:Nat) {o:Oper} {f:Nat} {l:Array Bool} {a:Act} {w:World} (hr:Region.ready md O l=[i]) (pn:Region.ready md O (l.setIfInBounds i true)=[]) (ho:ops[i]?=some o)
  (h:∀ K:Act->World->Prop,Shut (∀ b u,S u->Q .normal b u->K b u)->if Region.wanted o (yielded O a.tmps)=true then Oper.wp P o a w K Q else K (a.put o.dst undef) w):bQ P md ops Q S z (f+1) l a w:=by
 have hO:ops=O:=hO;subst hO;exact Z0q i hr pn ho h
end
theorem Q4_ {n:Int} {k:Nat} (h:n.natAbs<10^k) (hk:1<=k) (hk2:k<=1000):(aB n).size<=2000:=by
 have h1:=fx n;have h2:=kZ n.natAbs k h hk;omega
def nG (w:World) (a:Option Addr) (k:Nat) (xs:pN):Prop:=k=0\/∃ g,a=some ⟨g,0,none⟩/\aW w g 0 xs
theorem nG.of {w:World} {base:Nat} {a:Option Addr} {k c:Nat} {xs:pN} (hk:xs.length=k) (h:w.ownsRow base 92 1 (.slice a k c) k (gZ xs)):nG w a k xs:=by
 rcases Nat.eq_zero_or_pos k with h0 | h0;·exact .inl h0
 ·obtain ⟨g,cap,hv,-⟩:=eu h h0;simp only [Value.slice.injEq] at hv;obtain ⟨rfl,-,-⟩:=hv;subst hk;exact .inr ⟨g,rfl,(aW.of_owns (xs:=xs) h).1⟩
theorem nG.ext {w w':World} {a:Option Addr} {k:Nat} {xs:pN} (h:nG w a k xs) (he:aA w w'):nG w' a k xs:=by
 rcases h with h | ⟨g,h1,h2⟩
 ·exact .inl h
 ·exact .inr ⟨g,h1,h2.ext he⟩
def lN {α:Type} (p:α->Bool) (xs:List α):Int:=match xs.findIdx? p with | some i=>(i:Int) | none=>-1
def Z1J {α:Type} (R:World->Value->α->Prop) (g:Nat) (lb:Array Value) (p:α->Bool) (w:World) (xs:List α):Prop :=
 ∀ W x a,x∈xs->aA w W->R W a x->Calls prog g (#[a]++lb) W fun e W'=>e=.returned (.bool (p x))/\aA W W'
theorem M4_ {α:Type} {R:World->Value->α->Prop} (hR:∀ w w' v x,aA w w'->R w v x->R w' v x) (xs:List α) (v:Value) (g:Nat) (lb:Array Value) (p:α->Bool) (w:World) (h:aN 1 (ae R) w v xs) (eg:∀ args w,(callFunc g args).run prog w=.ok (.enter g args) w) (hp:Z1J R g lb p w xs) :
  pI 108 #[v,.func (.func g) #[] lb] w (.int .i64 (lN p xs)):=by
 obtain ⟨a,c,rfl,h1,h2,-,hc⟩:=ae.open h;have HC:=oZ hc;have HPR:=oZ hp;have HR:=oZ hR;clear hc h hp hR;unfold maxLen at h2
 go_enter func108,ntmps108
 go_wp2
 go_loopw [8] (fun t wr=>∃ pre rest,t=.int .i64 (pre.length:Nat)/\aA w wr/\Hid (xs=pre++rest)/\Hid (∀ x∈pre,p x=false)) (fun t _=>xs.length-(intOf t).toNat)
 case atStart=>exact ⟨[],xs,rfl,aA.refl _,rfl,by intro x hx;simp at hx⟩
 case round =>
  obtain ⟨pre,rest,rfl,hE,HP,HA⟩:=hrel;obtain ⟨wo,rfl⟩:∃ wo:World,wo=wr:=⟨_,rfl⟩;have hlen:xs.length=pre.length+rest.length:=by rw [HP.out];simp
  cases rest with
  | nil =>
   have:¬ (pre.length<xs.length):=(by simp at hlen;omega);clear hlen
   go_wp2
   go_ret;have:lN p xs=-1:=by
    have:xs.findIdx? p=none:=(by rw [HP.out,List.append_nil,List.findIdx?_eq_none_iff];exact HA);unfold lN;rw [this]
   rw [this];exact ⟨rfl,hE⟩
  | cons x rest =>
   have hlt:pre.length<xs.length:=(by simp at hlen;omega);clear hlen;obtain ⟨b,off,rfl,hb,pP⟩:=HC (by rw [HP.out];simp);obtain ⟨vx,qc,ph⟩:=pP pre.length x (by rw [HP.out];simp);have g1:=hE.cell ph;have hcall:=HPR wo x vx (by rw [HP.out];simp) hE (HR _ _ _ _ hE qc);clear pP qc ph;cases hq:p x with
   | true =>
    have HRR:Hid (lN p xs=pre.length):=by
     unfold Hid lN;rw [HP.out,List.findIdx?_append,(List.findIdx?_eq_none_iff (xs:=pre)).2 HA.out,List.findIdx?_cons,hq];simp
    rw [hq] at hcall;have HCALL:=oZ hcall;clear hcall hq;go_wp2_with (go_at_fn g;refine HCALL.mono ?_;rintro e w' ⟨rfl,sX⟩);go_ret;rw [HRR.out];exact ⟨rfl,hE.trans (by assumption)⟩
   | false =>
    have BK:Hid (∀ y∈pre++[x],p y=false):=by
     intro y hy;rcases List.mem_append.1 hy with hy | hy;·exact HA y hy
     ·rw [List.mem_singleton.1 hy];exact hq
    rw [hq] at hcall;have HCALL:=oZ hcall;clear hcall hq;go_wp2_with (go_at_fn g;refine HCALL.mono ?_;rintro e w' ⟨rfl,sX⟩);go_roundw
    case rel=>exact ⟨pre++[x],rest,by simp,hE.trans (by assumption),by unfold Hid;rw [HP.out];simp,BK⟩
    case measure=>simp [intOf];omega
theorem J7_ {α:Type} {R:World->Value->α->Prop} (hR:∀ w w' v x,aA w w'->R w v x->R w' v x) (xs:List α) (v:Value) (g:Nat) (lb:Array Value) (p:α->Bool) (w:World) (h:aN 1 (ae R) w v xs) (eg:∀ args w,(callFunc g args).run prog w=.ok (.enter g args) w) (hp:Z1J R g lb p w xs) :
  pI 92 #[v,.func (.func g) #[] lb] w (.bool (xs.any p)):=by
 have hcall:=M4_ hR xs v g lb p w h eg hp;cases hf:xs.findIdx? p with
 | none =>
  have HRR:Hid (xs.any p=false):=by
   unfold Hid;rw [List.findIdx?_eq_none_iff] at hf;simpa using hf
  unfold lN at hcall;rw [hf] at hcall;have HCALL:=oZ hcall;clear hcall hf hp h hR
  go_enter func92,ntmps92
  go_wp2_with (go_at_call 108;refine HCALL.mono ?_;rintro e w' ⟨rfl,sX⟩);go_ret;rw [HRR.out];exact ⟨rfl,by assumption⟩
 | some i =>
  have HRR:Hid (xs.any p=true):=by
   unfold Hid;rw [List.any_eq_true];obtain ⟨hi,yj,_⟩:=List.findIdx?_eq_some_iff_getElem.1 hf;exact ⟨_,List.getElem_mem hi,yj⟩
  have D0:(0:Int)<=(i:Int):=by omega
  unfold lN at hcall;rw [hf] at hcall;have HCALL:=oZ hcall;clear hcall hf hp h hR
  go_enter func92,ntmps92
  go_wp2_with (go_at_call 108;refine HCALL.mono ?_;rintro e w' ⟨rfl,sX⟩);go_ret;rw [HRR.out];exact ⟨rfl,by assumption⟩
def Z7q (_:World) (v:Value) (x:Int):Prop:=v=.string (aB x)
theorem ew.fits {cols:Nat} {m:pM} {w w':World} {e:Ending} (h:ew cols m w e w') (hf:(m.all fun r=>r.all dX)=true):∃ a c,e=.returned (.tuple #[.agg #[.int .i64 cols,.slice a m.length c],.int .i64 0])/\aw w' (.slice a m.length c) m/\aA w w':=by
 obtain ⟨h1,h2⟩:=h;rw [if_pos hf] at h1;obtain ⟨v,rfl,hs⟩:=h1;obtain ⟨a,c,rfl,-,-,-,-⟩:=ae.open hs.now;exact ⟨a,c,rfl,hs.now,h2⟩
def four8 (_:World) (u:List Value) (x:pN):Prop:=u=x.map (Value.int .i8)/\x.length=4/\∀ a∈x,-128<=a/\a<=127
theorem four8.mono:iE four8:=fun _ _ _ _ _ h=>h
abbrev j8 (w:World) (v:Value) (xss:pM):Prop:=aN 4 four8 w v xss
theorem j8.ext {w w':World} {v:Value} {xss:pM} (h:j8 w v xss) (he:aA w w'):j8 w' v xss:=aN.ext four8.mono h he
def fZ (n:Nat) (x:pN):List Int:=(x.take n).map fun a=>a.tmod 10
theorem K4_ {n:Nat} {x:pN} (h:n<=x.length):(fZ n x).length=n:=by unfold fZ;rw [List.length_map,om];omega
theorem Z3A {k:Nat} {x:pN} {y:Int} (h:x[k]?=some y):fZ (k+1) x=fZ k x++[y.tmod 10]:=by unfold fZ;rw [ou,h,List.map_append];rfl
structure fJ (w:World) (g:Nat) (xs:pN):Prop where
 lt:g<w.heap.size
 cell:∀ (j:Nat) x,xs[j]?=some x->w.cell? ⟨g,j,none⟩=some (.int .i64 x)
 free:∀ j,w.frozen? ⟨g,j,none⟩=false
theorem fJ.same {w w':World} {g:Nat} {xs:pN} (h:fJ w g xs) (hs:w.heap.size<=w'.heap.size) (hg:w'.heap[g]?=w.heap[g]?):fJ w' g xs :=
 ⟨ov h.lt hs,fun j x hx=>by rw [<- h.cell j x hx];unfold World.cell?;simp only [hg],fun j=>by rw [<- h.free j];unfold World.frozen?;simp only [hg]⟩
theorem fJ.ext {w w':World} {g:Nat} {xs:pN} (h:fJ w g xs) (he:aA w w'):fJ w' g xs:=h.same he.size (he.block g h.lt)
theorem fJ.ofOwn {w:World} {B g n c:Nat} {xs:pN} (h:w.ownsRow B 3 1 (.slice (some ⟨g,0,none⟩) n c) n (xs.map (Value.int .i64 ·))):fJ w g xs:=by
 have hl:=h.lt g (by simp [Value.ownBlock]);have hc:=h.cells (g:=g) (by simp [Value.ownBlock]);refine ⟨hl.2,fun j x hx=>?_,fun j=>h.frozenAt j⟩;have:=hc j (.int .i64 x) (by rw [oh,hx];rfl);rw [show (⟨g,0,none⟩:Addr).add j=⟨g,j,none⟩ by unfold Addr.add;split <;> simp_all] at this;exact this
theorem fJ.other {w:World} {g b i:Nat} {xs:pN} (h:fJ w g xs) (hne:g≠b) (y:Value):fJ (w.setCell ⟨b,i,none⟩ y) g xs :=
 h.same (by simp [World.setCell]) (Below.heap_setCell _ _ _ _ hne)
theorem fJ.set {w:World} {g:Nat} {xs:pN} (h:fJ w g xs) (k:Nat) (hk:k<xs.length) (y:Int):fJ (w.setCell ⟨g,k,none⟩ (.int .i64 y)) g (xs.set k y):=by
 refine ⟨by simp only [World.setCell,Array.size_modify];exact h.lt,fun j x hj=>?_,fun j=>?_⟩
 ·rw [pH] at hj;by_cases e:k=j
  ·subst e;rw [if_pos rfl,if_pos hk] at hj;cases hj;exact World.cell?_setCell_same w _ _ (h.cell k _ (oc hk))
  ·rw [if_neg e] at hj;rw [World.cell?_setCell_other _ _ _ _ (by intro e2;simp only [Addr.mk.injEq] at e2;omega)];exact h.cell j x hj
 ·rw [<- h.free j];exact World.frozen?_setCell ..
theorem fJ.ints {w:World} {g m:Nat} {xs:pN} (h:fJ w g xs) (hm:xs.length<=m) (rI:m<=maxLen) (hb:∀ x∈xs,-9223372036854775808<=x/\x<=9223372036854775807):aM w (.slice (some ⟨g,0,none⟩) xs.length m) xs:=by
 refine ⟨xs.map fun x=>[Value.int .i64 x],by simp,by intro u hu;obtain ⟨x,_,rfl⟩:=List.mem_map.1 hu;rfl,?_,fun j u x hu hx=>?_⟩
 ·refine ⟨some ⟨g,0,none⟩,m,rfl,hm,rI,(fun e=>by cases e),fun _=>⟨g,0,rfl,h.lt,fun j u hu=>?_⟩⟩;rw [eR,oh] at hu;cases hx:xs[j]? with
  | none=>rw [hx] at hu;cases hu
  | some x=>rw [hx] at hu;cases hu;rw [Nat.zero_add];exact h.cell j x hx
 ·rw [oh,hx] at hu;cases hu;exact ⟨rfl,hb x (og hx)⟩
def gF (c:Nat):List Int:=match c with | 0=>[2,3,5] | 1=>[2,3,5,7] | 2=>[2,3] | 3=>[2,3,7] | 4=>[2,5,7] | 5=>[3,5,7] | 6=>[2,3,5,11] | 7=>[2] | 8=>[2,3,7,13] | _=>[3,5,7,13]
theorem X4_ (c:Nat):eF (gF c)=0/\1<=(gF c).length/\(gF c).length<=4:=by
 match c with
 | 0=>decide +kernel
 | 1=>decide +kernel
 | 2=>decide +kernel
 | 3=>decide +kernel
 | 4=>decide +kernel
 | 5=>decide +kernel
 | 6=>decide +kernel
 | 7=>decide +kernel
 | 8=>decide +kernel
 | _+9=>exact (by decide +kernel:eF [3,5,7,13]=0/\1<=[3,5,7,13].length/\[3,5,7,13].length<=4)
def nR (w:World):List Obj->World
 | []=>w
 | o::l=>nR (w.alloc o) l
theorem R6_:∀ (l:List Obj) (w:World),aA w (nR w l)
 | [],w=>aA.refl w
 | o::l,w=>(aA.alloc w o).trans (R6_ l (w.alloc o))
theorem D1_:∀ (l:List Obj) (w:World) (i:Nat) (o:Obj),l[i]?=some o->(nR w l).heap[w.heap.size+i]?=some o
 | [],w,i,o,h=>by simp at h
 | x::l,w,0,o,h=>by
  simp at h;subst h;exact aF (heap_alloc_new w x) (R6_ l (w.alloc x))
 | x::l,w,i+1,o,h=>by
  have:=D1_ l (w.alloc x) i o (by simpa using h);rw [show (w.alloc x).heap.size=w.heap.size+1 by simp] at this;rw [show w.heap.size+(i+1)=w.heap.size+1+i by omega];exact this
theorem Z0R {W:World} {S:Nat->Prop} {B:Nat} {xs:pN} (h:W.heap[B]?=some (.cells (xs.map (Value.int .i64)).toArray 3 (0,0))) (hS:¬ S B) (hl:xs.length<=maxLen) (hb:∀ x∈xs,-9223372036854775808<=x/\x<=9223372036854775807) :
  aZ W S fun W=>aM W (.slice (some ⟨B,0,none⟩) xs.length xs.length) xs:=fun W' hG=>by
 have h':=(hG.block B (cG h) hS).trans h;exact fJ.ints ⟨cG h',fun j x hx=>by rw [ah h' j];simp [hx],fun j=>cQ h' j⟩ (oz _) hl hb
def t2_ (w:World):List Obj:=[.cells #[.int .i64 2,.int .i64 3,.int .i64 5] 3,.cells #[.int .i64 2,.int .i64 3,.int .i64 5,.int .i64 7] 3,.cells #[.int .i64 2,.int .i64 3] 3,.cells #[.int .i64 2,.int .i64 3,.int .i64 7] 3,.cells #[.int .i64 2,.int .i64 5,.int .i64 7] 3,.cells #[.int .i64 3,.int .i64 5,.int .i64 7] 3,.cells #[.int .i64 2,.int .i64 3,.int .i64 5,.int .i64 11] 3,.cells #[.int .i64 2] 3,.cells #[.int .i64 2,.int .i64 3,.int .i64 7,.int .i64 13] 3,.cells #[.int .i64 3,.int .i64 5,.int .i64 7,.int .i64 13] 3,.cells #[.slice (some ⟨w.heap.size,0,none⟩) 3 3,.slice (some ⟨w.heap.size+1,0,none⟩) 4 4,.slice (some ⟨w.heap.size+1+1,0,none⟩) 2 2,.slice (some ⟨w.heap.size+1+1+1,0,none⟩) 3 3,.slice (some ⟨w.heap.size+1+1+1+1,0,none⟩) 3 3,.slice (some ⟨w.heap.size+1+1+1+1+1,0,none⟩) 3 3,.slice (some ⟨w.heap.size+1+1+1+1+1+1,0,none⟩) 4 4,.slice (some ⟨w.heap.size+1+1+1+1+1+1+1,0,none⟩) 1 1,.slice (some ⟨w.heap.size+1+1+1+1+1+1+1+1,0,none⟩) 4 4,.slice (some ⟨w.heap.size+1+1+1+1+1+1+1+1+1,0,none⟩) 4 4] 30]
theorem jU (w:World) (k:Nat) (hk:k<=9) (ho:(t2_ w)[k]?=some (.cells ((gF k).map (Value.int .i64)).toArray 3)) (hb:∀ x∈gF k,-9223372036854775808<=x/\x<=9223372036854775807) :
  ∃ a cp,Ending.returned (.slice (some ⟨w.heap.size+k,0,none⟩) (gF k).length (gF k).length)=.returned (.slice a (gF k).length cp)/\aZ (nR w (t2_ w)) (·<w.heap.size) (fun W=>aM W (.slice a (gF k).length cp) (gF k))/\aA w (nR w (t2_ w)) :=
 ⟨_,_,rfl,Z0R (D1_ _ w k _ ho) (by omega) (by have:=(X4_ k).2.2;unfold maxLen;omega) hb,R6_ _ w⟩
theorem l2_ (c:Int) (vO:0<=c) (qU:c<=255) (w:World) :
  Calls prog 79 #[.int .u8 c] w fun e w'=>∃ a cp,e=.returned (.slice a (gF (c%10).toNat).length cp)/\aZ w' (·<w.heap.size) (fun W=>aM W (.slice a (gF (c%10).toNat).length cp) (gF (c%10).toNat))/\aA w w':=by
 have hm:c.tmod 10=c%10:=by rw [Int.tmod_eq_emod_of_nonneg vO]
 obtain ⟨k,hk,hk9⟩:∃ k:Nat,c%10=(k:Int)/\k<=9:=⟨(c%10).toNat,by omega,by omega⟩;rw [hk] at hm |-;rw [Int.toNat_natCast];have hw:IntKind.wrap .i64 c=c:=by rw [IntKind.wrap_i64];omega
 clear hk;have qC:k=0\/k=1\/k=2\/k=3\/k=4\/k=5\/k=6\/k=7\/k=8\/k=9:=by omega
 rcases qC with rfl | rfl | rfl | rfl | rfl | rfl | rfl | rfl | rfl | rfl
 ·go_enter func79,ntmps79
  go_wp2_with fail;go_ret;exact jU w 0 (by decide) rfl (by decide)
 ·go_enter func79,ntmps79
  go_wp2_with fail;go_ret;exact jU w 1 (by decide) rfl (by decide)
 ·go_enter func79,ntmps79
  go_wp2_with fail;go_ret;exact jU w 2 (by decide) rfl (by decide)
 ·go_enter func79,ntmps79
  go_wp2_with fail;go_ret;exact jU w 3 (by decide) rfl (by decide)
 ·go_enter func79,ntmps79
  go_wp2_with fail;go_ret;exact jU w 4 (by decide) rfl (by decide)
 ·go_enter func79,ntmps79
  go_wp2_with fail;go_ret;exact jU w 5 (by decide) rfl (by decide)
 ·go_enter func79,ntmps79
  go_wp2_with fail;go_ret;exact jU w 6 (by decide) rfl (by decide)
 ·go_enter func79,ntmps79
  go_wp2_with fail;go_ret;exact jU w 7 (by decide) rfl (by decide)
 ·go_enter func79,ntmps79
  go_wp2_with fail;go_ret;exact jU w 8 (by decide) rfl (by decide)
 ·go_enter func79,ntmps79
  go_wp2_with fail;go_ret;exact jU w 9 (by decide) rfl (by decide)
theorem Z3z {n:Nat} {x:pN}:∀ y∈fZ n x,-9<=y/\y<=9:=by
 intro y hy;obtain ⟨z,-,rfl⟩:=List.mem_map.1 hy;have:=Z40 z 10 (by decide);omega
theorem E3_ (n:Nat) (P x:pN) (vp:Value) (w:World) (hP:aM w vp P) (hPl:P.length=n) (hn:n<=4) (hx:x.length=4) (hxb:∀ a∈x,-128<=a/\a<=127) :
  Calls prog 17 #[vp,.agg (x.map (Value.int .i8)).toArray] w fun e w'=>∃ a c,e=.returned (.slice a n c)/\w'.ownsRow w.heap.size 3 1 (.slice a n c) n ((fZ n x).map (Value.int .i64))/\aA w w':=by
 obtain ⟨ap,cp,rfl,-⟩:=hP.open;rw [hPl];clear hP hPl;obtain ⟨x0,x1,x2,x3,rfl⟩:∃ a b c d,x=[a,b,c,d]:=by
  match x,hx with
  | [a,b,c,d],_=>exact ⟨a,b,c,d,rfl⟩
 go_enter func17,ntmps17
 go_wp2_with fail;obtain ⟨W1,pc⟩:=pK (w.alloc (.cells #[.int .i8 x0,.int .i8 x1,.int .i8 x2,.int .i8 x3] 26));have HE1:Hid (aA w W1):=by rw [<- pc];exact aA.alloc _ _
 have HBX:Hid (W1.heap[w.heap.size]?=some (.cells #[.int .i8 x0,.int .i8 x1,.int .i8 x2,.int .i8 x3] 26 (0,0))):=by rw [<- pc];exact dq _ _ _
 rw [pc];clear pc;obtain ⟨x,hX⟩:=pL ([x0,x1,x2,x3]);have HCX:Hid (∀ W,aA W1 W->∀ i,i<4->W.cell? ⟨w.heap.size,i,none⟩=some (.int .i8 (x.getD i 0))):=fun W hW i hi=>by
  have h:=ah (aF HBX hW) i;rw [h,hX];have hc:i=0\/i=1\/i=2\/i=3:=by omega
  rcases hc with rfl | rfl | rfl | rfl <;> rfl
 have HXB:Hid (∀ i,-128<=x.getD i 0/\x.getD i 0<=127):=fun i=>by
  rw [oe];cases hq:x[i]? with
  | none=>decide
  | some y=>exact hxb y (by rw [<- hX];exact og hq)
 have HXL:Hid (x.length=4):=by rw [hX];rfl
 have HXE:=oZ hX;rw [<- hX];clear hX hx hxb HBX
 go_loopw [5,6] (fun so t wr=>∃ i:Nat,i<=n/\t=.int .i64 i/\Hid (aA W1 wr)/\Hid (∃ a c,so=.slice a i c)/\Hid (ai wr W1.heap.size 3 1 so mc (fZ i x))) (fun _ t _=>n-(intOf t).toNat)
 case atStart=>exact ⟨0,by omega,rfl,aA.refl _,⟨none,0,rfl⟩,by unfold Hid fZ;exact ai.nil _ _ _ _ _⟩
 case round =>
  obtain ⟨i,hi,rfl,HE,HSL,qi⟩:=hrel;obtain ⟨wo,rfl⟩:∃ wo:World,wo=wr:=⟨_,rfl⟩;by_cases hlt:i<n
  ·have g1:=HCX wo HE i (by omega);obtain ⟨y,hy⟩:=pK (x.getD i 0);have hyb:=HXB i;rw [hy] at g1 hyb;have BL:x[i]?=some y:=by
    have:=HXL.out;rw [oe,oc (by omega)] at hy;rw [oc (by omega),<- hy];rfl
   have HN:=oZ (Z3A BL);have wR:Hid ((fZ i x).length=i):=(by unfold Hid;rw [K4_ (by have:=HXL.out;omega)]);have HJ:Hid ((fZ i x).length<1000000):=(by unfold Hid;rw [wR.out];omega);have hyr:=Z40 y 10 (by decide);have hszr:=HE.size;have i4:(i:Int)<4:=(by omega);clear hy BL;obtain ⟨z,hz⟩:=pK (y.tmod 10);rw [hz] at hyr HN;go_wp2_with (at_builtin;go_must (refine iQ _ rfl _ _ 36 rfl W1.heap.size 3 (.int .i64 0) 1 8 underlying36 jo rfl (by decide) u5 mc (fZ i x) z #[.int .i64 z] 3 rfl qi rfl rfl ?e1 (fun _ _=>rfl) HJ (by decide) hszr ?_))
   case e1=>simp [Value.oneCell']
   intro v' w6 rl sU hb6 CI _;have HV:Hid (∃ g cc,v'=.slice g (i+1) cc):=by
    obtain ⟨us,b1,b2,b3,b4⟩:=id rl;obtain ⟨g,cc,hv,-⟩:=eu b3 (by rw [pG];simp);refine ⟨some ⟨g,0,none⟩,cc,?_⟩;rw [hv,pG,wR.out];rfl
   rw [<- HN.out] at rl;have HB6:=oZ rl;have HX6:=oZ (Below.trans HE hb6);clear rl sU hb6;go_wp2_with fail;go_roundw
   case rel=>exact ⟨i+1,by omega,by go_num,HX6,HV,HB6⟩
   case measure=>simp [intOf];omega
  ·obtain rfl:i=n:=(by omega);obtain ⟨a,c,rfl⟩:=HSL.out;have hO:=qi.ints;rw [K4_ (by have:=HXL.out;omega)] at hO;have HO:=oZ hO;clear hO qi HSL;go_wp2_with fail;go_ret;rw [<- HXE.out];refine ⟨a,c,rfl,⟨HO.1,?_⟩,HE1.trans HE⟩;rcases HO.out.2 with h | ⟨g,cap,cur,hv,hg,rest⟩
   ·exact .inl h
   ·exact .inr ⟨g,cap,cur,hv,ow HE1.size hg,rest⟩
theorem r6_ (U:World) (B N:Nat) (T:Nat->Prop) {P:pN} {C M:pM} {vp vc vm:Value} (hP:aZ U (fun k=>T k\/k=B) fun W=>aM W vp P) (hC:aZ U (·<N) fun W=>aw W vc C) (hM:aZ U (·<N) fun W=>aw W vm M) (Jq:B<N) (hT:∀ k,T k->k<B) :
  aZ (((U.setCell ⟨B,0,none⟩ vp).setCell ⟨B,1,none⟩ vc).setCell ⟨B,2,none⟩ vm) T fun W=>cP W (.agg #[vp,vc,vm]) P C M:=by
 have hG:∀ S:Nat->Prop,S B->aH S U (((U.setCell ⟨B,0,none⟩ vp).setCell ⟨B,1,none⟩ vc).setCell ⟨B,2,none⟩ vm):=fun S hS =>
  (((aH.refl _ U).setCell (g:=B) hS 0 _).setCell (g:=B) hS 1 _).setCell (g:=B) hS 2 _
 intro W hW;exact ⟨_,_,_,rfl,hP.grow (hG _ (.inr rfl)) (S':=T) (fun k hk=>.inl (.inl hk)) W hW,hC.grow (hG _ Jq) (S':=T) (fun k hk=>.inl (by have:=hT k hk;omega)) W hW,hM.grow (hG _ Jq) (S':=T) (fun k hk=>.inl (by have:=hT k hk;omega)) W hW⟩
theorem Z1U (n F:Nat) (P:pN) (m R A S:pM) (vals:Bool) (T:Nat->Prop) (vp v:Value) (w:World) (hT:∀ k,T k->k<w.heap.size) (hP:aZ w T fun W=>aM W vp P) (h:aw w v m) (hE:eF P=0) (hPl:P.length=n) (hD:fF n F m R A S) (pT:b9 w) (hp:3<w.heap.size) :
  Calls prog 80 #[vp,v,.bool vals] w fun e w'=>∃ u,e=.returned (.tuple #[u,.int .i64 0])/\aZ w' T (fun W=>cP W u P (if vals then A else S) (if vals then S else A))/\aA w w':=by
 have HPC:=oZ (fun W (hW:aA w W)=>mu P vp W (hP.now.ext hW));rw [hE] at HPC;have HOF:=oZ (fun W (hW:aA w W)=>f4_ n F m R A S v W (h.ext hW) hD (pT.ext hW) (ov hp hW.size));have HSA:=oZ (fun W (hW:aA w W) u (hu:cM W u n R)=>K5_ n F R A S u W hu hD.chk hD.n1 hD.n4 hD.kR hD.kA hD.lA hD.lS hD.bS (pT.ext hW) (ov hp hW.size));have HAN:=oZ (fun W (hW:aA w W) u (hu:cM W u n R)=>x6_ n F R A S u W hu hD.chk hD.n1 hD.n4 hD.kR hD.lA hD.bA (pT.ext hW) (ov hp hW.size));have hP2:=hP.now;obtain ⟨ap,cp,rfl,p1,p2,-,-,-⟩:=hP2.open;obtain ⟨a,c,rfl,-⟩:=ae.open h;rw [hPl] at HPC hP |-;have HP:=oZ hP;have HTS:=oZ hT;clear hP hP2 h hE hPl hD pT hp p1 p2 hT
 go_enter func80,ntmps80
 obtain ⟨W1,pc,hE1,hs1,hb1⟩:=gU w (.slice none 0 0) (.slice none 0 0) (.slice none 0 0);have HB1:=oZ hb1;have HE1:=oZ hE1;have HS1:=oZ hs1;have HP1:=oZ (HP.grow (hE1.grownS T) (S':=fun k=>T k\/w.heap.size<=k) (fun k hk=>hk));clear hE1 hs1 hb1;go_wp2_with fail;refine r_ (HPC _ HE1) ?_;clear HPC;go_wp2_with fail;refine (HOF _ HE1).mono ?_;rintro e w1 ⟨u1,rfl,hu1,xz⟩;obtain ⟨a1,c1,rfl,-⟩:=aN.open hu1.now;have HE2:=oZ (HE1.trans xz);have HU1:=oZ hu1.now;have HB2:=oZ (aF HB1 xz);have HP2:=oZ (HP1.ext xz);have HZ1:=oZ xz.size;clear xz hu1 HOF HB1 HE1 HP1 pc;obtain ⟨V1,xu,pz,hs1,hb1⟩:=eC w1 (.int .i64 0) (.slice none 0 0);obtain ⟨r0,r1,rf⟩:=bY hb1;have f0:=rf 0;have f1:=rf 1;have HL1:=oZ (fU hb1 (.int .i64 n) (.slice a1 R.length c1));have HXU:=oZ (ei pz (oz _) (.int .i64 n) (.slice a1 R.length c1));clear pz hs1 hb1 rf;obtain ⟨U1,vG⟩:=pK ((V1.setCell ⟨w1.heap.size,0,none⟩ (.int .i64 n)).setCell ⟨w1.heap.size,1,none⟩ (.slice a1 R.length c1));rw [vG] at HL1 HXU;obtain ⟨s0,s1,-⟩:=bY HL1;have HEU:=oZ (HE2.trans HXU);have HRU:=oZ (HU1.ext HXU);have HB3:=oZ (aF HB2 HXU);have HP3:=oZ (HP2.ext HXU);have HZ2:=oZ (ow HZ1 HXU.size);go_wp2_with fail;clear vG xu r0 r1 f0 f1 HE2 HU1 HXU HB2 HP2;refine (HSA _ HEU _ ⟨_,rfl,HRU⟩).mono ?_;rintro e w2 ⟨u2,rfl,hu2,hE2⟩;obtain ⟨a2,c2,rfl,-⟩:=aN.open hu2.now;have HE4:=oZ (HEU.trans hE2);have HU2:=oZ (hu2.grow (aH.refl _ _) (S':=fun k=>k<W1.heap.size\/w2.heap.size<=k) fun k hk=>hk.elim (fun h=>.inl (ov h HZ2)) .inr);have HL2:=oZ (aF HL1 hE2);have HB4:=oZ (aF HB3 hE2);have HP4:=oZ (HP3.ext hE2);have HR2:=oZ (HRU.ext hE2);have HZ3:=oZ (ow HZ2 hE2.size);clear hE2 hu2 HSA HL1 HRU HEU HB3 HP3 s0 s1;obtain ⟨V2,Ah,rP,hs2,hb2⟩:=eC w2 (.int .i64 0) (.slice none 0 0);obtain ⟨r0,r1,rf⟩:=bY hb2;have f0:=rf 0;have f1:=rf 1;have HM1:=oZ (fU hb2 (.int .i64 n) (.slice a2 S.length c2));have HXU:=oZ (ei rP (oz _) (.int .i64 n) (.slice a2 S.length c2));clear rP hs2 hb2 rf;obtain ⟨U2,vw⟩:=pK ((V2.setCell ⟨w2.heap.size,0,none⟩ (.int .i64 n)).setCell ⟨w2.heap.size,1,none⟩ (.slice a2 S.length c2));rw [vw] at HM1 HXU;have HL3:=oZ (aF HL2 HXU);have HB5:=oZ (aF HB4 HXU);have HP5:=oZ (HP4.ext HXU);obtain ⟨s0,s1,-⟩:=bY HL3;have HEU:=oZ (HE4.trans HXU);have HRU:=oZ (HR2.ext HXU);have HSU:=oZ (HU2.ext HXU);have HZ4:=oZ (ow HZ3 HXU.size);go_wp2_with fail;clear vw Ah r0 r1 f0 f1 HE4 HU2 HXU HL2 HR2 HB4 HP4;refine (HAN _ HEU _ ⟨_,rfl,HRU⟩).mono ?_;rintro e w3 ⟨u3,rfl,xG,pS⟩;obtain ⟨a3,c3,rfl,-⟩:=aN.open xG.now
 have HE6:=oZ (HEU.trans pS);have HU3:=oZ (xG.grow (aH.refl _ _) (S':=fun k=>k<W1.heap.size\/k=w2.heap.size\/k=w3.heap.size) fun k hk=>by
  rcases hk with h | rfl | rfl;·exact .inl (ov h HZ4)
  ·exact .inl (cG HM1)
  ·exact .inr (oz _))
 have HM2:=oZ (aF HM1 pS);have HB6:=oZ (aF HB5 pS);have HP6:=oZ (HP5.ext pS);have HS4:=oZ (HSU.ext pS);have HZ5:=oZ (ow HZ4 pS.size);have BF:Hid (w2.heap.size<w3.heap.size):=ov (cG HM1) pS.size;clear pS xG HAN HM1 HRU HEU HSU HL3 HB5 HP5 s0 s1;obtain ⟨V3,Ag,va,hs3,px⟩:=eC w3 (.int .i64 0) (.slice none 0 0);obtain ⟨r0,r1,rf⟩:=bY px;have f0:=rf 0;have f1:=rf 1;have HN1:=oZ (fU px (.int .i64 n) (.slice a3 A.length c3));have HXU:=oZ (ei va (oz _) (.int .i64 n) (.slice a3 A.length c3));clear va hs3 px rf;obtain ⟨U3,vb⟩:=pK ((V3.setCell ⟨w3.heap.size,0,none⟩ (.int .i64 n)).setCell ⟨w3.heap.size,1,none⟩ (.slice a3 A.length c3));rw [vb] at HN1 HXU;have HM3:=oZ (aF HM2 HXU);have HB7:=oZ (aF HB6 HXU);have HP7:=oZ (HP6.ext HXU);obtain ⟨q0,q1,qf⟩:=bY HN1;obtain ⟨s0,s1,sf⟩:=bY HM3;obtain ⟨b0,b1,b2,bf⟩:=cU HB7;have k0:=qf 0;have k1:=qf 1;have l0:=sf 0;have l1:=sf 1;have m0:=bf 0;have m1:=bf 1;have m2:=bf 2;have HEU:=oZ (HE6.trans HXU)
 have HSU:=oZ ((HS4.ext HXU).low (S':=fun k=>k<W1.heap.size\/k=w2.heap.size\/k=w3.heap.size) fun k hk=>by
  have:=BF.out;rcases hk with h | rfl | rfl;·exact .inl h
  ·exact .inr (oz _)
  ·exact .inr (by omega))
 have HAU:=oZ (HU3.ext HXU);have HPT:Hid (∀ k,T k\/k=w.heap.size->T k\/w.heap.size<=k):=fun k hk=>hk.elim .inl fun e=>.inr (by omega);clear qf sf bf HM2 HB6 HP6 HS4 HU3;cases vals with
 | false =>
  go_wp2_with fail;clear vb Ag r0 r1 f0 f1;have hkA:=j6 HB7 (.slice ap n cp) (.slice a2 S.length c2) (.slice a3 A.length c3);refine bodyPost_ret (jz (by rfl) _ _ w.heap.size 34 #[.slice ap n cp,.slice a2 S.length c2,.slice a3 A.length c3] (0,0) _ (by rfl) hkA underlying34 (by rfl) (by kernel_rfl)) (by rfl) ?_;exact ⟨_,rfl,r6_ U3 w.heap.size W1.heap.size T (HP7.low HPT) (HSU.low fun k hk=>.inl hk) (HAU.low fun k hk=>.inl hk) (by have:=HS1.out;omega) HTS,jn HEU (oz _) _ _ _⟩
 | true =>
  have n1:w2.heap.size≠w3.heap.size:=by have:=BF.out;omega
  have n2:w3.heap.size≠w2.heap.size:=by have:=BF.out;omega
  have n3:w.heap.size≠w2.heap.size:=by have:=HZ3.out;have:=HS1.out;omega
  have n4:w.heap.size≠w3.heap.size:=by have:=HZ5.out;have:=HS1.out;omega
  have n5:w2.heap.size≠w.heap.size:=fun e=>n3 e.symm;have n6:w3.heap.size≠w.heap.size:=fun e=>n4 e.symm;go_wp2_with fail;clear vb Ag r0 r1 f0 f1;obtain ⟨U4,yV⟩:=pK ((((U3.setCell ⟨w2.heap.size,0,none⟩ (.int .i64 n)).setCell ⟨w2.heap.size,1,none⟩ (.slice a3 A.length c3)).setCell ⟨w3.heap.size,0,none⟩ (.int .i64 n)).setCell ⟨w3.heap.size,1,none⟩ (.slice a2 S.length c2));have MI:U4.heap[w.heap.size]?=some (.cells #[.slice none 0 0,.slice none 0 0,.slice none 0 0] 34 (0,0)):=by
   rw [<- yV,kf _ _ _ _ _ n4,kf _ _ _ _ _ n4,kf _ _ _ _ _ n3,kf _ _ _ _ _ n3];exact HB7
  have hG:∀ Q:Nat->Prop,Q w2.heap.size->Q w3.heap.size->aH Q U3 U4:=fun Q q2 q3=>by
   rw [<- yV];exact ((((aH.refl _ U3).setCell (g:=w2.heap.size) q2 0 _).setCell (g:=w2.heap.size) q2 1 _).setCell (g:=w3.heap.size) q3 0 _).setCell (g:=w3.heap.size) q3 1 _
  have xt:aA w U4:=by
   rw [<- yV];exact ei (ei HEU (by have:=HZ3.out;have:=HS1.out;omega) _ _) (by have:=HZ5.out;have:=HS1.out;omega) _ _
  have hz3:=HZ3.out;have hz5:=HZ5.out;have hs1:=HS1.out;have hP4:=(HP7.grow (hG _ (.inr (by omega)) (.inr (by omega))) (S':=fun k=>T k\/w.heap.size<=k) (fun k hk=>.inl hk)).low HPT;have hS4:=(HSU.grow (hG _ (.inr (.inl rfl)) (.inr (.inr rfl))) (S':=(·<W1.heap.size)) (fun k hk=>.inl (.inl hk)));have hA4:=(HAU.grow (hG _ (.inr (.inl rfl)) (.inr (.inr rfl))) (S':=(·<W1.heap.size)) (fun k hk=>.inl (.inl hk)));have hkA:=j6 MI (.slice ap n cp) (.slice a3 A.length c3) (.slice a2 S.length c2);rw [yV];refine bodyPost_ret (jz (by rfl) _ _ w.heap.size 34 #[.slice ap n cp,.slice a3 A.length c3,.slice a2 S.length c2] (0,0) _ (by rfl) hkA underlying34 (by rfl) (by kernel_rfl)) (by rfl) ?_;exact ⟨_,rfl,r6_ U4 w.heap.size W1.heap.size T hP4 hA4 hS4 (by omega) HTS,jn xt (oz _) _ _ _⟩
section
variable {P:Program} {ops:Array Oper} {Q:Exit->Act->World->Prop} {md:Region.Mode} {S:World->Prop} {z:Nat}
end
def gG (n i:Nat) (xss:pM):pM:=(xss.take i).map (fZ n)
theorem Z3B {n:Nat} {xss:pM} (hn:n<=4) (h:∀ x∈xss,x.length=4) (i:Nat):(gG n i xss).length<=i/\∀ r∈gG n i xss,r.length=n/\aT 9 r:=by
 refine ⟨by unfold gG;rw [List.length_map,om];omega,fun r hr=>?_⟩;obtain ⟨x,hx,rfl⟩:=List.mem_map.1 hr;refine ⟨K4_ (by rw [h x (List.mem_of_mem_take hx)];exact hn),fun y hy=>?_⟩;have:=Z3z y hy;omega
structure jE (n F:Nat) (P:pN) (m C M:pM) (vals:Bool):Prop where
 right:jB n F P C M
 left:jB n F P M C
 hC:∃ ps,a_ n C ps
 hM:∃ ps,a_ n M ps
 spC:∀ v,Sp n (aG 0 C) v↔if vals then cV n m v else fe n m v
 spM:∀ v,Sp n (aG 0 M) v↔if vals then fe n m v else cV n m v
 rank:M.length+C.length=n
 lC:C.length<=4
 lM:M.length<=4
 bC:∀ x∈C,aT 629856 x/\x.length=n
 bM:∀ x∈M,aT 629856 x/\x.length=n
theorem Z6B {n:Nat} {m B:pM} (hs:bT n (aG 0 m) (aG 0 B)) (v:pN):fe n m v↔fe n B v :=
 ⟨fun ⟨h,D,h1,h2⟩=>⟨h,D,h1,(hs.iff _).1 h2⟩,fun ⟨h,D,h1,h2⟩=>⟨h,D,h1,(hs.iff _).2 h2⟩⟩
theorem Z5v {n:Nat} {C:pM} {ps:Nat->Nat} (hn:n<=4) (h:a_ n C ps) (hl:C.length<=4) (hb:∀ x∈C,aT 629856 x/\x.length=n):dJ n C=0/\de n C=0:=by
 have Dv:dJ n C=0:=by
  unfold dJ;rw [if_neg (by omega),if_neg (by omega)];exact x2_ fun r hr=>⟨u6_ (by have:=(hb r hr).2;omega) ((hb r hr).1.mono (by decide)),(hb r hr).2⟩
 exact ⟨Dv,by unfold de;rw [if_pos Dv,if_pos (B2_ h)]⟩
theorem o1_ {n:Nat} {C:pM} {ps:Nat->Nat} (hn:n<=4) (h:a_ n C ps) (hl:C.length<=4) (hb:∀ x∈C,aT 629856 x/\x.length=n):∃ F,dj n F n C=some C:=by
 obtain ⟨F',R',ps',g1,g2,g3,-,g5⟩:=nw n 4 6 C (fun x hx=>(hb x hx).2) (fun x hx=>(hb x hx).1.mono (by decide)) (.inl hl) (by decide) (by decide);exact ⟨F',by rw [g1,mb g3 h g5.symm]⟩
theorem Z3q {n:Nat} {m:pM} (pv:1<=n) (hn:n<=4) (hm:m.length<=4) (hw:∀ x∈m,x.length=n) (h9:∀ x∈m,aT 9 x) (P:pN) (hP:eF P=0) (hPl:P.length=n) :
  ∃ F R A S,fF n F m R A S/\fF n F S S A S/\fF n F A A S A/\jE n F P m S A false/\jE n F P m A S true:=by
 obtain ⟨F1,R,ps,f1,f2,f3,f4,f5,f6,-⟩:=Z3p n m (by omega) hm hw h9;obtain ⟨F2,A,S,d⟩:=Z3o hn hw h9 f2 f5;obtain ⟨qa,hA⟩:=d.fA;obtain ⟨qs,hS⟩:=d.fS;have lA:=H1_ hA;have lS:=H1_ hS;have cA:=Z5v hn hA (by omega) d.bA;have cS:=Z5v hn hS (by omega) d.bS;obtain ⟨F3,MA⟩:=o1_ hn hS (by omega) d.bS;obtain ⟨F4,y8⟩:=o1_ hn hA (by omega) d.bA;have Ae:ak n m:=fun i hi=>hw _ (eM hi);have FK:dJ n m=0:=by
  unfold dJ;rw [if_neg (by omega),if_neg (by omega)];exact x2_ fun r hr=>⟨u6_ (by have:=hw r hr;omega) ((h9 r hr).mono (by decide)),hw r hr⟩
 have kR:=mg (F':=F1+F2+F3+F4) (by omega) d.kR;have kA:=mg (F':=F1+F2+F3+F4) (by omega) d.kA;have kS:=mg (F':=F1+F2+F3+F4) (by omega) d.kS;have gA:∀ x∈A,aT 1000000000 x/\x.length=n:=fun x hx=>⟨(d.bA x hx).1.mono (by decide),(d.bA x hx).2⟩
 have gS:∀ x∈S,aT 1000000000 x/\x.length=n:=fun x hx=>⟨(d.bS x hx).1.mono (by decide),(d.bS x hx).2⟩
 have gR:∀ x∈R,aT 1000000000 x/\x.length=n:=fun x hx=>⟨(f4 x hx).1.mono (by decide),(f4 x hx).2⟩
 have hn6:n<=6:=by omega
 have rS:jB n (F1+F2+F3+F4) P S A:=⟨pv,hn6,hP,hPl,cS.2,kS,kA,by omega,by omega,gS,gA⟩;have rA:jB n (F1+F2+F3+F4) P A S:=⟨pv,hn6,hP,hPl,cA.2,kA,kS,by omega,by omega,gA,gS⟩;have sS:∀ v,Sp n (aG 0 S) v↔fe n m v:=fun v=>(d.spS v).trans (Z6B f5 v).symm;have sA:∀ v,Sp n (aG 0 A) v↔cV n m v:=fun v=>(d.spA v).trans (Z1Q Ae f2.1 f5 v).symm
 refine ⟨F1+F2+F3+F4,R,A,S,⟨pv,hn6,FK,lI (by omega) f1,⟨by omega,gR⟩,f6,kR,kA,by omega,by omega,gA,gS⟩,
  ⟨pv,hn6,cS.1,lI (by omega) MA,⟨by omega,gS⟩,cS.2,kS,kA,by omega,by omega,gA,gS⟩,
  ⟨pv,hn6,cA.1,lI (by omega) y8,⟨by omega,gA⟩,cA.2,kA,kS,by omega,by omega,gS,gA⟩,
  ⟨rS,rA,⟨qs,hS⟩,⟨qa,hA⟩,sS,sA,d.rS,by omega,by omega,d.bS,d.bA⟩,⟨rA,rS,⟨qa,hA⟩,⟨qs,hS⟩,sA,sS,by have:=d.rS;omega,by omega,by omega,d.bA,d.bS⟩⟩
theorem Z0Z (c:Int) (vO:0<=c) (qU:c<=255) (n F:Nat) (P:pN) (hP:P=gF (c%10).toNat) (hn:P.length=n) (xss:pM) (By:xss.length<=3) (vals:Bool) (v:Value) (w:World) (h:j8 w v xss)
  (R A S:pM) (hD:fF n F (gG n xss.length xss) R A S) (pT:b9 w) (hp:3<w.heap.size) :
  Calls prog 16 #[.agg #[.int .u8 c,v,.bool vals]] w fun e w'=>∃ u,e=.returned u/\cP w' u P (if vals then A else S) (if vals then S else A)/\aA w w':=by
 have HPR:=oZ (fun W=>l2_ c vO qU W);rw [<- hP,hn] at HPR;have hpe:=(X4_ (c%10).toNat).1;rw [<- hP] at hpe;have hn4:n<=4:=by have:=(X4_ (c%10).toNat).2.2;rw [<- hP,hn] at this;exact this
 have HIN:=oZ (fun W vp (qo:aM W vp P) (x:pN) (h4:x.length=4) (hb:∀ a∈x,-128<=a/\a<=127)=>E3_ n P x vp W qo hn hn4 h4 hb);have HBD:=oZ (fun W (hW:aA w W) T vp v (hT:∀ k,T k->k<W.heap.size) (hP:aZ W T fun W=>aM W vp P) (h:aw W v (gG n xss.length xss))=>Z1U n F P (gG n xss.length xss) R A S vals T vp v W hT hP h hpe hn hD (pT.ext hW) (ov hp hW.size));obtain ⟨a,cp,rfl,qX,tT,hxl,s5⟩:=aN.open h;have HX:=oZ s5;unfold maxLen at tT;obtain ⟨C,hC⟩:=pK ((if vals=true then A else S));obtain ⟨M,hM⟩:=pK ((if vals=true then S else A));rw [hC,hM] at HBD |-;clear s5 h pT hp hD hpe hP hC hM
 go_enter func16,ntmps16
 go_wp2_with fail;obtain ⟨W1,pc⟩:=pK (w.alloc (.cells #[.int .u8 c,.slice a xss.length cp,.bool vals] 24));have sJ:W1.heap[w.heap.size]?=some (.cells #[.int .u8 c,.slice a xss.length cp,.bool vals] 24 (0,0)):=by rw [<- pc];exact dq _ _ _
 have hE1:aA w W1:=by rw [<- pc];exact aA.alloc _ _
 have hs1:W1.heap.size=w.heap.size+1:=by rw [<- pc];simp
 rw [pc];obtain ⟨W2,qv,hE2,hs2,hb2⟩:=gU W1 (.slice none 0 0) (.slice none 0 0) (.slice none 0 0);rw [qv];rw [hs1] at hb2;have HB0:=oZ (aF sJ hE2);have HB2:=oZ hb2;have HE2:=oZ (hE1.trans hE2);have HS2:Hid (W2.heap.size=w.heap.size+2):=by unfold Hid;omega
 clear pc qv sJ hE1 hs1 hE2 hs2 hb2;have p0:=ah HB0 0;have p1:=ah HB0 1;have p2:=ah HB0 2;simp only [pC,o_,o9] at p0 p1 p2;go_wp2_with fail;refine (HPR _).mono ?_;rintro e w3 ⟨ap,cpp,rfl,tJ,pS⟩;have HE3:=oZ (HE2.trans pS);have HB03:=oZ (aF HB0 pS);have HB23:=oZ (aF HB2 pS);have HPS:=oZ (tJ.low (S':=(·<w.heap.size+2)) fun k hk=>by have:=HS2.out;omega);have HZ3:Hid (w.heap.size+2<=w3.heap.size):=by unfold Hid;have:=pS.size;have:=HS2.out;omega
 clear pS tJ HPR p0 p1 p2;go_wp2_with fail
 go_loopw [4,5] (fun so t wr=>∃ (i:Nat) (Q:Nat->Prop),i<=xss.length/\t=.int .i64 i/\Hid (aA w3 wr)/\Hid (jC Q w3.heap.size wr)/\Hid (∃ a c,so=.slice a i c)/\Hid (bc wr Q w3.heap.size 36 1 so mw (gG n i xss))) (fun _ t _=>xss.length-(intOf t).toNat)
 case atStart=>exact ⟨0,fun _=>False,by omega,rfl,aA.refl _,fun b hb=>hb.elim,⟨none,0,rfl⟩,bc.nil _ _ _ _ _ _⟩
 case round =>
  obtain ⟨i,Q,hi,rfl,HE,HOK,HSL,qi⟩:=hrel;obtain ⟨wo,rfl⟩:∃ wo:World,wo=wr:=⟨_,rfl⟩;have HB0o:=oZ (aF HB03 HE);have p0:=ah HB0o 0;have p1:=ah HB0o 1;have p2:=ah HB0o 2;simp only [pC,o_,o9] at p0 p1 p2;by_cases hlt:i<xss.length
  ·have Dz:i<3:=(by omega);obtain ⟨b,off,rfl,hb,pP⟩:=HX (by omega) (by intro e;rw [e] at hlt;simp at hlt);obtain ⟨x,hx⟩:∃ x,xss[i]?=some x:=⟨xss[i],oc hlt⟩;obtain ⟨u,hu,⟨rfl,s5,hxb⟩,hc⟩:=pP i x hx;obtain ⟨x0,x1,x2,x3,rfl⟩:∃ a b c d,x=[a,b,c,d]:=by
    match x,s5 with
    | [a,b,c,d],_=>exact ⟨a,b,c,d,rfl⟩
   have g0:=(HE3.trans HE).cell (hc 0 (by omega));have g1:=(HE3.trans HE).cell (hc 1 (by omega));have g2:=(HE3.trans HE).cell (hc 2 (by omega));have g3:=(HE3.trans HE).cell (hc 3 (by omega));rw [<- Nat.add_assoc] at g0 g1 g2 g3;rw [Nat.add_zero] at g0;have HIV:=oZ (HIN wo _ (HPS.now.ext HE) [x0,x1,x2,x3] rfl hxb);have HN:Hid (gG n (i+1) xss=gG n i xss++[fZ n [x0,x1,x2,x3]]):=(by unfold Hid gG;rw [ou,hx,List.map_append];rfl);have wR:Hid ((gG n i xss).length=i):=(by unfold Hid gG;rw [List.length_map,om];omega);have HJ:Hid ((gG n i xss).length<1000000):=(by unfold Hid;rw [wR.out];omega);have HRL:Hid ((fZ n [x0,x1,x2,x3]).length=n):=K4_ (by simpa using hn4);clear pP hc hx hu hxb;go_wp2_with fail;refine HIV.mono ?_;rintro e w5 ⟨ar,cr,rfl,hO,pV⟩;have HSF:Hid (aZ w5 Q fun W=>mw W [.slice ar n cr] (fZ n [x0,x1,x2,x3])):=(aZ.owns hO (fun k hk hs=>by have:=(hO.lt k hk).1;have:=(HOK k hs).2;omega)).mono (fun W h=>⟨_,rfl,aM.of_owns (by rw [HRL.out];exact h) (fun y hy=>by have:=Z3z y hy;omega)⟩);have HB5:=oZ (qi.ext pV);have HOK5:=oZ (HOK.grow pV.size);have HE5:=oZ (HE.trans pV);have hs5:=HE5.size;clear hO pV HIV qi HOK p0 p1 p2 g0 g1 g2 g3;go_wp2_with (at_builtin;go_must (refine Z6_ _ rfl _ _ 32 rfl Q w3.heap.size 36 (.slice none 0 0) 1 24 underlying32 Z2D rfl (by decide) u4 mw (gG n i xss) (fZ n [x0,x1,x2,x3]) #[.slice ar n cr] 36 rfl HB5 _ rfl rfl rfl ?a1 HSF HJ (by decide) hs5 w3.heap.size (oz _) HOK5 ?_))
   case a1=>simp [Value.oneCell']
   intro v' w6 Q6 CT GV GU rl sU hb6 CI AB;have HV:Hid (∃ a c,v'=.slice a (i+1) c):=by
    obtain ⟨gv,cv,hv,-⟩:=rl.shape (by simp);refine ⟨some ⟨gv,0,none⟩,cv,?_⟩;rw [hv,pG,wR.out];rfl
   rw [<- HN.out] at rl;have HB6:=oZ rl;have HOK6:=oZ CT;have HX6:=oZ (Below.trans HE5 hb6);clear CT GV GU rl sU hb6 CI AB;go_wp2_with fail;go_roundw
   case rel=>exact ⟨i+1,Q6,by omega,by go_num,HX6,HOK6,HV,HB6⟩
   case measure=>simp [intOf];omega
  ·obtain rfl:i=xss.length:=(by omega);obtain ⟨sa,cs,rfl⟩:=HSL.out;have HRS:Hid (aw wo (.slice sa xss.length cs) (gG n xss.length xss)):=qi.list;have HE4:=oZ (HE3.trans HE);have HB2o:=oZ (aF HB23 HE);have HBI:=oZ (HBD wo HE4 (·<w.heap.size+2) _ _ (fun k hk=>by have:=HZ3.out;have:=HE.size;omega) (HPS.ext HE) HRS);clear HIN qi HOK HBD HSL;go_wp2_with fail;refine HBI.mono ?_;rintro e w6 ⟨u6,rfl,Eg,pR⟩;obtain ⟨KP,KR,KQ,rfl,o1,o2,o3⟩:=Eg.now;obtain ⟨DM,Bv,DJ,rfl⟩:∃ a l c,KP=.slice a l c:=(by obtain ⟨a,c,h,-⟩:=o1.open;exact ⟨a,_,c,h⟩);obtain ⟨DO,Bx,DL,rfl⟩:∃ a l c,KR=.slice a l c:=(by obtain ⟨a,c,h,-⟩:=ae.open o2;exact ⟨a,_,c,h⟩);obtain ⟨DN,Bw,DK,rfl⟩:∃ a l c,KQ=.slice a l c:=(by obtain ⟨a,c,h,-⟩:=ae.open o3;exact ⟨a,_,c,h⟩);have HE6:=oZ (HE4.trans pR);have HB6:=oZ (aF HB2o pR);have HU6:=oZ Eg;clear pR Eg HBI HB2o p0 p1 p2 o1 o2 o3;obtain ⟨V1,xu,pz,hs1,hb1⟩:=gU w6 (.slice none 0 0) (.slice none 0 0) (.slice none 0 0);obtain ⟨r0,r1,r2,rf⟩:=cU hb1;have f0:=rf 0;have f1:=rf 1;have f2:=rf 2;have HB7:=oZ (j6 hb1 (.slice DM Bv DJ) (.slice DO Bx DL) (.slice DN Bw DK));have HXU:=oZ (jn pz (oz _) (.slice DM Bv DJ) (.slice DO Bx DL) (.slice DN Bw DK));clear pz hs1 hb1 rf;obtain ⟨U1,vG⟩:=pK (((V1.setCell ⟨w6.heap.size,0,none⟩ (.slice DM Bv DJ)).setCell ⟨w6.heap.size,1,none⟩ (.slice DO Bx DL)).setCell ⟨w6.heap.size,2,none⟩ (.slice DN Bw DK));rw [vG] at HB7 HXU;obtain ⟨s0,s1,s2,-⟩:=cU HB7;have HB8:=oZ (aF HB6 HXU);obtain ⟨t0,t1,t2,tf⟩:=cU HB8;have g0:=tf 0;have g1:=tf 1;have g2:=tf 2;have HU7:=oZ (HU6.ext HXU);have HE7:=oZ (HE6.trans HXU);clear tf;go_wp2_with fail;clear vG xu r0 r1 r2 f0 f1 f2;have hkA:=j6 HB8 (.slice DM Bv DJ) (.slice DO Bx DL) (.slice DN Bw DK);refine bodyPost_ret (results_cell_row (by rfl) _ _ (w.heap.size+1) 34 #[.slice DM Bv DJ,.slice DO Bx DL,.slice DN Bw DK] (0,0) _ (by rfl) hkA underlying34 (by rfl) (by kernel_rfl)) (by rfl) ?_;have hG:∀ (x y z:Value),aH (·<w.heap.size+2) U1 (((U1.setCell ⟨w.heap.size+1,0,none⟩ x).setCell ⟨w.heap.size+1,1,none⟩ y).setCell ⟨w.heap.size+1,2,none⟩ z):=fun x y z=>by
    have hlt:w.heap.size+1<w.heap.size+2:=(by omega);exact (((aH.refl _ U1).setCell (g:=w.heap.size+1) hlt 0 x).setCell (g:=w.heap.size+1) hlt 1 y).setCell (g:=w.heap.size+1) hlt 2 z
   exact ⟨_,rfl,HU7 _ (hG _ _ _),jn HE7 (Nat.le_succ _) _ _ _⟩
def gJ (n:Nat):Nat->Nat->Nat->List Nat
 | 0,_,s=>[s]
 | k+1,f,s=>(List.range (n-k-f)).flatMap fun d=>gJ n k (f+d+1) (s ||| (1 <<< (f+d)))
def aO (n k:Nat):List Nat:=gJ n k 0 0
def gV (n k f s d:Nat):List Nat:=(List.range d).flatMap fun d=>gJ n k (f+d+1) (s ||| (1 <<< (f+d)))
theorem M1_ (n k f s d:Nat):gV n k f s (d+1)=gV n k f s d++gJ n k (f+d+1) (s ||| (1 <<< (f+d))):=by
 unfold gV;rw [List.range_succ,List.flatMap_append];simp
theorem d9_ (n k f s:Nat):gJ n (k+1) f s=gV n k f s (n-k-f):=rfl
theorem Z76 {s i m:Nat} (hs:s<2^m) (hi:i<m):s ||| (1 <<< i)<2^m:=by
 rw [Nat.one_shiftLeft];exact Nat.or_lt_two_pow hs (Nat.pow_lt_pow_right (by decide) hi)
theorem F7_ {n m:Nat} (E9:n<=m):∀ (k f s:Nat),s<2^m->k<=n->∀ x∈gJ n k f s,x<2^m
 | 0,f,s,hs,_,x,hx=>by
  rw [gJ,List.mem_singleton] at hx;rw [hx];exact hs
 | k+1,f,s,hs,hk,x,hx=>by
  rw [gJ,List.mem_flatMap] at hx;obtain ⟨d,hd,hx⟩:=hx;have:=List.mem_range.1 hd;exact F7_ E9 k _ _ (Z76 hs (by omega)) (by omega) x hx
theorem j7_ {n k:Nat} (hn:n<=12) (hk:k<=n):∀ x∈aO n k,x<4096:=F7_ hn k 0 0 (by decide) hk
theorem x3_ {n k:Nat} (hn:n<=12) (hk:k<=n):(aO n k).length<=924:=by
 have h:∀ m,m<=12->∀ j,j<=m->(aO m j).length<=924:=by decide +kernel
 exact h n hn k hk
def aj (s:Nat):List Nat:=(List.range 12).filter fun i=>s.testBit i
def ij (s:Nat):Nat:=(aj s).headD 0
theorem A6_:∀ s,s<4096->s≠0->aj s=ij s::aj (s &&& (s-1)):=by
 have h:∀ a,a<64->∀ b,b<64->64*a+b≠0->aj (64*a+b)=ij (64*a+b)::aj ((64*a+b) &&& (64*a+b-1)):=by decide +kernel
 intro s hs h0;have:=h (s / 64) (by omega) (s%64) (by omega) (by omega)
 rwa [Nat.div_add_mod] at this
theorem j9_:∀ s,s<4096->s≠0->s &&& (s-1)<s:=by
 have h:∀ a,a<64->∀ b,b<64->64*a+b≠0->(64*a+b) &&& (64*a+b-1)<64*a+b:=by decide +kernel
 intro s hs h0;have:=h (s / 64) (by omega) (s%64) (by omega) (by omega)
 rwa [Nat.div_add_mod] at this
def Z6Z (s:List Nat):Nat:=match s.getLast? with | some x=>x+1 | none=>0
def Z7t (n:Nat) (l:List (List Nat)):List (List Nat):=l.flatMap fun s=>(List.range' (Z6Z s) (n-Z6Z s)).map fun x=>s++[x]
def be (n:Nat):Nat->List (List Nat)
 | 0=>[[]]
 | k+1=>Z7t n (be n k)
def i_ (n k:Nat) (s:List Nat):Nat->Option Nat
 | 0=>none
 | i+1=>if s.getD i 0+k=n+i then i_ n k s i else some i
def ke (n k:Nat) (s:List Nat):Option (List Nat):=match i_ n k s k with
 | none=>none
 | some i=>some (s.take i++(List.range (k-i)).map fun j=>s.getD i 0+1+j)
def jI (s:List Nat):Nat:=s.foldl (fun a x=>a*16+x) 0
def k9 (n k:Nat):List (List Nat)->Bool
 | []=>false
 | [s]=>decide (ke n k s=none)
 | s::t::l=>decide (ke n k s=some t) && (decide (jI s<jI t) && k9 n k (t::l))
def Z7b (n k:Nat) (s:List Nat):Bool:=decide (s.length=k) && (s.all (fun x=>decide (x<n)) && decide (jI s<1000000000000000000))
def eH (n:Nat):Nat->Nat
 | 0=>1
 | i+1=>eH n i*(n-i) / (i+1)
def Z5H (n k:Nat):Bool:=decide ((be n k).head?=some (List.range k)) && k9 n k (be n k) && (be n k).all (Z7b n k) && decide (eH n k=(be n k).length) && decide ((be n k).length<=1000)
theorem Z5h:∀ n,n<13->∀ k,k<n+1->Z5H n k=true:=by decide +kernel
theorem r7_ {n k:Nat}:∀ {l:List (List Nat)},k9 n k l=true->∀ (i:Nat) s,l[i]?=some s->ke n k s=l[i+1]?
 | [],h,i,s,hs=>by simp at hs
 | [t],h,i,s,hs=>by
  cases i with
  | zero =>
   simp only [o_,Option.some.injEq] at hs;subst hs;simpa [k9] using h
  | succ i=>simp at hs
 | a::b::l,h,i,s,hs=>by
  simp only [k9,Bool.and_eq_true,decide_eq_true_eq] at h;cases i with
  | zero =>
   simp only [o_,Option.some.injEq] at hs;subst hs;simpa using h.1
  | succ i =>
   rw [o9] at hs |-;exact r7_ h.2.2 i s hs
theorem c5_ {n k:Nat}:∀ {l:List (List Nat)},k9 n k l=true->∀ (i:Nat) s t,l[i]?=some s->l[i+1]?=some t->jI s<jI t
 | [],h,i,s,t,hs,ht=>by simp at hs
 | [a],h,i,s,t,hs,ht=>by simp at ht
 | a::b::l,h,i,s,t,hs,ht=>by
  simp only [k9,Bool.and_eq_true,decide_eq_true_eq] at h;cases i with
  | zero =>
   simp only [o_,o9,Option.some.injEq] at hs ht;subst hs;subst ht;exact h.2.1
  | succ i =>
   rw [o9] at hs ht;exact c5_ h.2.2 i s t hs ht
structure Z6P (n k:Nat) (L:List (List Nat)):Prop where
 head:L[0]?=some (List.range k)
 next:∀ (i:Nat) s,L[i]?=some s->ke n k s=L[i+1]?
 len:∀ s∈L,s.length=k
 lt:∀ s∈L,∀ x∈s,x<n
 up:∀ (i:Nat) s t,L[i]?=some s->L[i+1]?=some t->jI s<jI t
 bd:∀ s∈L,jI s<1000000000000000000
theorem oN {n k:Nat} (hn:n<=12) (hk:k<=n):Z6P n k (be n k)/\eH n k=(be n k).length/\(be n k).length<=1000:=by
 have h:=Z5h n (by omega) k (by omega);simp only [Z5H,Bool.and_eq_true,decide_eq_true_eq,List.all_eq_true,Z7b] at h;obtain ⟨⟨⟨⟨h1,h2⟩,h3⟩,h4⟩,h5⟩:=h;exact ⟨⟨by rw [<- List.head?_eq_getElem?];exact h1,r7_ h2,fun s hs=>(h3 s hs).1,fun s hs=>(h3 s hs).2.1,c5_ h2,fun s hs=>(h3 s hs).2.2⟩,h4,h5⟩
def cl (n k s:Nat):Nat:=(aO n k).findIdx (· == s)
def ee (s i:Nat):Nat:=((aj s).filter fun j=>decide (j<i)).length
def ep (s t:Nat):Bool:=decide (((aj s).map (ee t)).sum%2=1)
def Z5G (l:List (List Nat)) (s:List Nat):Nat:=l.findIdx (· == s)
def Z1M (n k:Nat):Bool:=decide ((aO n k).map aj=be n k) && ((aO n k).all fun s=>decide (cl n k s=Z5G (be n k) (aj s)) && decide (cl n k s<(be n k).length))
theorem s9_:∀ n,n<7->∀ k,k<n+1->Z1M n k=true:=by decide +kernel
theorem Z1N:∀ n,n<13->∀ k,k<n+1->(aO n k).length=(be n k).length:=by decide +kernel
def dZ (x:Int) (o:Bool):Int:=if o=true then -x else x
theorem s0_ (x:Int) (o:Bool):(dZ x o).natAbs=x.natAbs:=by unfold dZ;split <;> simp
def Z5O (N:Nat) (l:pN):Prop:=∀ x∈l,x.natAbs<=N
theorem Z5O.getD {N:Nat} {l:pN} (h:Z5O N l) (i:Nat):(l.getD i 0).natAbs<=N:=by
 rw [oe];cases hx:l[i]? with
 | none=>simp
 | some x=>exact h x (og hx)
def dm (n s:Nat):Nat:=(2^n-1) ^^^ s
def dh (n k:Nat) (X:pN):List Int:=(aO n (n-k)).map fun s=>dZ (X.getD (cl n k (dm n s)) 0) (ep (dm n s) s)
def dw (X:pN) (i:Nat):Nat:=(X.take i).foldl (fun g x=>Nat.gcd g x.natAbs) 0
def bZ (X:pN):Nat:=dw X X.length
theorem k_ {X:pN} {i:Nat} {x:Int} (h:X[i]?=some x):dw X (i+1)=Nat.gcd (dw X i) x.natAbs:=by
 unfold dw;rw [ou,h,List.foldl_append];rfl
def j4 (X:pN):Int:=match X.find? (·≠0) with | some x=>x.sign | none=>0
theorem Z0c {n k:Nat} (hn:n<7) (hk:k<=n):(aO n k).map aj=be n k:=by
 have h:=s9_ n hn k (by omega);unfold Z1M at h;simp only [Bool.and_eq_true,decide_eq_true_eq] at h;exact h.1
theorem Z3n {n k s:Nat} (hn:n<7) (hk:k<=n) (h:s∈aO n k):cl n k s=Z5G (be n k) (aj s)/\cl n k s<(aO n k).length:=by
 have h2:=s9_ n hn k (by omega);unfold Z1M at h2;simp only [Bool.and_eq_true,decide_eq_true_eq,List.all_eq_true] at h2;have h3:=h2.2 s h;have h4:=Z1N n (by omega) k (by omega);exact ⟨h3.1,by omega⟩
theorem Z2w {n:Nat} (hn:n<7):aO n 0=[0]:=by
 have h:∀ m,m<7->aO m 0=[0]:=by decide +kernel
 exact h n hn
theorem Z4J:(prog.info? 150).map (fun i=>(i.zero,i.size,i.bytes))=some (some (.int .u64 0),1,8):=by kernel_rfl
def u64C (_:World) (u:List Value) (x:Nat):Prop:=u=[.int .u64 (x:Int)]
theorem u64C.mono:iE u64C:=fun _ _ _ _ _ h=>h
abbrev ky (w:World) (v:Value) (xs:List Nat):Prop:=aN 1 u64C w v xs
theorem ky.ext {w w':World} {v:Value} {xs:List Nat} (h:ky w v xs) (he:aA w w'):ky w' v xs:=aN.ext u64C.mono h he
theorem ky.open {w:World} {v:Value} {xs:List Nat} (h:ky w v xs):∃ (a:Option Addr) (cap:Nat),v=.slice a xs.length cap/\xs.length<=cap/\cap<=maxLen /\
  (xs≠[]->∃ b off,a=some ⟨b,off,none⟩/\b<w.heap.size/\∀ (j:Nat) x,xs[j]?=some x->w.cell? ⟨b,off+j,none⟩=some (.int .u64 (x:Int))):=by
 obtain ⟨a,cap,hv,h1,h2,-,h4⟩:=aN.open h;refine ⟨a,cap,hv,h1,h2,fun hne=>?_⟩;obtain ⟨b,off,ha,hb,hc⟩:=h4 (by decide) hne;refine ⟨b,off,ha,hb,fun j x hx=>?_⟩;obtain ⟨u,hu,hr,pP⟩:=hc j x hx;have:=pP 0 (by decide);rw [hr] at this;simpa using this
theorem ai.box {w:World} {base:Nat} {e:TypeId} {v:Value} {xs:List Nat} (h:ai w base e 1 v u64C xs) {g:Nat} (hg:g<base) (y:Value):ai (w.setCell ⟨g,0,none⟩ y) base e 1 v u64C xs:=by
 obtain ⟨us,h1,h2,h3,h4⟩:=h;refine ⟨us,h1,h2,ownsRow_setCell_other h3 (fun e=>?_) y,fun j u x hu hx w' _=>(h4 j u x hu hx).now⟩;have:=(h3.lt g e).1;omega
def Z5u (g base:Nat) (L:List Nat) (w:World) (e:Ending) (w':World):Prop :=
 e=.returned (.tuple #[])/\Below g w w'/\∃ so,w'.heap[g]?=some (.cells #[so] 148 (0,0))/\ai w' base 150 1 so u64C L
theorem Z4a (s g base:Nat) (w:World) (so:Value) (L:List Nat) (hg:w.heap[g]?=some (.cells #[so] 148 (0,0))) (hB:ai w base 150 1 so u64C L) (qR:g<base) (pX:base<=w.heap.size) (hl:L.length<1000000) :
  Calls prog 207 #[.int .u64 (s:Int),.pointer (some ⟨g,0,none⟩)] w (Z5u g base (L++[s]) w):=by
 have k0:=ah hg 0;simp only [pC,o_] at k0;have HB:=oZ hB;have HG:=oZ hg;obtain ⟨a,c,rfl,qU,hc2,-⟩:=aN.open hB.list;unfold maxLen at hc2;have HN:=oZ (fun b=>hB.lt b);obtain ⟨n,hn⟩:=pK L.length;rw [hn] at HB HG k0 qU HN hl;have vq:L.length<1000000:=by omega
 have HL2:=oZ vq;clear hg hB hn vq
 go_enter func207,ntmps207
 go_wp2_with (at_builtin;go_must (refine iQ _ rfl _ _ 148 rfl base 150 (.int .u64 0) 1 8 underlying148 Z4J rfl (by decide) (.slice a n c) u64C L s #[.int .u64 (s:Int)] 150 rfl HB rfl rfl ?e1 (fun _ _=>rfl) HL2 ?e3 pX ?_))
 case e1=>simp [Value.oneCell']
 case e3=>omega
 intro v' w5 pf qz hb5 hs5 _;have HB5:=oZ pf;have hE:Below g w w5:=Below.mono hb5 (by omega);have hk:=(Below.block hb5 g qR).trans HG;have HE:=oZ hE;have HK:=oZ hk;have k1:=ah hk 0;have f1:=cQ hk 0;simp only [pC,o_] at k1;obtain ⟨a2,c2,rfl,-⟩:=aN.open pf.list;clear pf qz hb5 hE hk k0;go_wp2_with fail;have hfin:=dr HK 0 (Value.slice a2 (L++[s]).length c2);refine bodyPost_end (results_none rfl _ _ _) rfl ⟨rfl,HE.setCell (oz _) _,_,by simpa using hfin,HB5.box qR _⟩
def x1_ (n g base k:Nat):Prop:=∀ (f s:Nat) (w:World) (so:Value) (L:List Nat),f<=n->s<4096->k<=n->w.heap[g]?=some (.cells #[so] 148 (0,0))->ai w base 150 1 so u64C L->g<base->base<=w.heap.size->L.length+(gJ n k f s).length<=1000 ->
 Calls prog 206 #[.int .i64 f,.int .i64 n,.int .i64 k,.int .u64 (s:Int),.func (.func 207) #[] #[.pointer (some ⟨g,0,none⟩)]] w (Z5u g base (L++gJ n k f s) w)
theorem Z1I (n g base:Nat) (hn:n<=12):x1_ n g base 0:=by
 intro f s w so L hf hs hk hg hB qR pX hl;have HA:=oZ (Z4a s g base w so L hg hB qR pX (by rw [gJ] at hl;simp at hl;omega));have HW:Hid (gJ n 0 f s=[s]):=rfl;rw [HW.out];clear hg hB hl
 go_enter func206,ntmps206
 go_wp2_with fail;refine HA.mono ?_;rintro e w1 ⟨rfl,h1,h2⟩;have H1:=oZ h1;have H2:=oZ h2;clear h1 h2 HA;go_wp2_with fail;refine bodyPost_ret (results_none rfl _ _ _) rfl ⟨rfl,H1,H2⟩
theorem Z3h (i:Nat) (hi:i<12):IntKind.u64.wrap ((2:Int)^i)=((1 <<< i:Nat):Int)/\(1 <<< i)<4096:=by
 have h:∀ j,j<12->IntKind.u64.wrap ((2:Int)^j)=((1 <<< j:Nat):Int)/\(1 <<< j)<4096:=by decide +kernel
 exact h i hi
theorem Z1H (n g base k:Nat) (hn:n<=12) (ih:x1_ n g base k):x1_ n g base (k+1):=by
 intro f s w so L hf hs hk hg hB qR pX hl;have HIH:=oZ ih;have HG:=oZ hg;have HB:=oZ hB;have HLN:=oZ hl;have HKN:=oZ hk;have HSL:=oZ hs;obtain ⟨K,hK⟩:=pK (k+1);have J2:Hid (gJ n K f s=gV n k f s (n-k-f)):=by rw [<- hK];exact d9_ n k f s
 rw [hK] at HLN hk |-;have HK:=oZ hK;have zU:((K:Int) == 0)=false:=beq_eq_false_iff_ne.2 (by omega);clear hg hB hl ih hK
 go_enter func206,ntmps206
 go_wp2_with fail;clear zU
 go_loopw [10] (fun t wr=>∃ d:Nat,d<=n-k-f/\t=.int .i64 ((f+d:Nat):Int)/\Hid (Below g w wr)/\Hid (∃ so,wr.heap[g]?=some (.cells #[so] 148 (0,0))/\ai wr base 150 1 so u64C (L++gV n k f s d))) (fun t _=>(n:Int).toNat+1-(intOf t).toNat)
 case atStart=>exact ⟨0,by omega,by simp,Below.refl _ _,_,HG,by simpa [gV] using HB.out⟩
 case round =>
  obtain ⟨d,hd,rfl,HX,HBB⟩:=hrel;obtain ⟨wo,rfl⟩:∃ wo:World,wo=wr:=⟨_,rfl⟩;by_cases hlt:d<n-k-f
  ·obtain ⟨KU,wY,x5⟩:=HBB.out;obtain ⟨i,hi⟩:=pK (f+d);rw [hi];obtain ⟨e1,e2⟩:=Z3h i (by omega);obtain ⟨m,hm⟩:∃ m:Nat,1 <<< i=m:=⟨_,rfl⟩;rw [hm] at e1 e2;have e3:=bits_or_u64_nat s m (by have:=HSL.out;omega) (by omega);have Ig:s ||| m<4096:=(by rw [<- hm];exact Z76 (m:=12) HSL (by omega));have hlen:(L++gV n k f s d).length+(gJ n k (i+1) (s ||| m)).length<=1000:=by
    have h1:=HLN.out;rw [J2.out] at h1;have h2:=M1_ n k f s d;rw [hi,hm] at h2;have h4:=congrArg List.length h2;rw [pG] at h4;have h3:(gV n k f s (d+1)).length<=(gV n k f s (n-k-f)).length:=by
     unfold gV;obtain ⟨r,hr⟩:∃ r,n-k-f=d+1+r:=⟨n-k-f-(d+1),by omega⟩;have e9:List.range (d+1+r)=List.range (d+1)++(List.range r).map (d+1+·):=List.range_add ..;rw [hr,e9,List.flatMap_append,pG];exact Nat.le_add_right _ _
    rw [pG];omega
   have HC:=oZ (HIH (i+1) (s ||| m) wo KU (L++gV n k f s d) (by omega) Ig (by omega) wY x5 qR (by have:=(Below.size HX);omega) hlen);have HS:Hid ((L++gV n k f s d)++gJ n k (i+1) (s ||| m)=L++gV n k f s (d+1)):=by
    have h2:=M1_ n k f s d;rw [hi,hm] at h2;unfold Hid;rw [h2,List.append_assoc]
   rw [HS.out] at HC;obtain ⟨q,hq⟩:=pK (s ||| m);rw [hq] at e3 HC;have c1:(i:Int)<=(n:Int)-(K:Int):=(by have:=HK.out;omega);have c2:IntKind.i64.wrap ((i:Int)+1)=((i+1:Nat):Int):=(by rw [IntKind.wrap_i64];omega);have c3:IntKind.i64.wrap ((K:Int)-1)=(k:Int):=(by have:=HK.out;rw [IntKind.wrap_i64];omega);have c4:0<=(i:Int):=(by omega);have c5:(i:Int)<=64:=(by omega);have HII:=oZ hi;clear wY x5 Ig hlen hm hq HS HBB hi e2;go_wp2_with fail;refine HC.mono ?_;rintro e w6 ⟨rfl,pR,JR⟩;have HE6:=oZ (HX.trans pR);have HR6:=oZ JR;clear pR JR HC;go_wp2_with fail;go_roundw
   case rel=>exact ⟨d+1,by omega,by have:=HII.out;first | (congr 1;omega) | go_num,HE6,HR6⟩
   case measure=>have:=HII.out;simp [intOf];omega
  ·obtain rfl:d=n-k-f:=(by omega);obtain ⟨i,hi⟩:=pK (f+(n-k-f));rw [hi];have c1:¬ (i:Int)<=(n:Int)-(K:Int):=(by have:=HKN.out;have:=HK.out;omega);have hR:=HBB.out;rw [<- J2.out] at hR;have HR:=oZ hR;clear hR HBB hi;go_wp2_with fail;refine bodyPost_end (results_none rfl _ _ _) rfl ⟨rfl,HX,HR⟩
theorem j5_ (n g base:Nat) (hn:n<=12):∀ k,x1_ n g base k
 | 0=>Z1I n g base hn
 | k+1=>Z1H n g base k hn (j5_ n g base hn k)
def Z5t (L:List Nat) (w:World) (e:Ending) (w':World):Prop:=∃ v,e=.returned v/\aA w w'/\ky w' v L
theorem j8_ (n k:Nat) (hn:n<=12) (hk:k<=n) (w:World):Calls prog 103 #[.int .i64 n,.int .i64 k] w (Z5t (aO n k) w):=by
 obtain ⟨w1,pt⟩:=pL (w.alloc (.cells #[.slice none 0 0] 148));have hb:w1.heap[w.heap.size]?=some (.cells #[.slice none 0 0] 148 (0,0)):=by rw [pt];exact dq w _ _
 have hsz:w1.heap.size=w.heap.size+1:=by rw [pt];exact World.size_alloc w _
 have hE1:aA w w1:=by rw [pt];exact aA.alloc _ _
 have HC:=oZ (j5_ n w.heap.size (w.heap.size+1) hn k 0 0 w1 (.slice none 0 0) [] (by omega) (by decide) hk hb (ai.nil _ _ _ _ _) (by omega) (by omega) (by have:=x3_ hn hk;unfold aO at this;simp;omega));have HE1:=oZ hE1;clear hb hsz hE1;rw [List.nil_append] at HC
 go_enter func103,ntmps103
 go_wp2_with fail;generalize wC:w.alloc _=w9;obtain rfl:w9=w1:=by rw [<- wC,pt]
 refine HC.mono ?_;rintro e w2 ⟨rfl,h2,so,wY,x5⟩;have k0:=ah wY 0;simp only [pC,o_] at k0;have hE:aA w w2:=Below.trans HE1 h2;have HE:=oZ hE;have HL:=oZ x5.list;clear wY x5 h2 hE;go_wp2_with fail;go_ret;exact ⟨_,rfl,HE,HL⟩
def lL (n k:Int):Int:=if n<0\/n > 12\/k<0\/k > n then 3 else 0
theorem Z2v {n k:Nat} (hn:n<=12) (hk:k<=n):lL n k=0:=if_neg (by omega)
theorem F9_ (n k:Int) (w:World):pI 147 #[.int .i64 n,.int .i64 k] w (.int .i64 (lL n k)):=by
 by_cases h1:n<0
 ·have HG:Hid (lL n k=3):=if_pos (.inl h1)
  go_enter func147,ntmps147
  go_wp2_with fail;go_ret;rw [HG.out];exact ⟨rfl,aA.refl _⟩
 ·by_cases h2:n > 12
  ·have HG:Hid (lL n k=3):=if_pos (.inr (.inl h2))
   go_enter func147,ntmps147
   go_wp2_with fail;go_ret;rw [HG.out];exact ⟨rfl,aA.refl _⟩
  ·by_cases h3:k<0
   ·have HG:Hid (lL n k=3):=if_pos (.inr (.inr (.inl h3)))
    go_enter func147,ntmps147
    go_wp2_with fail;go_ret;rw [HG.out];exact ⟨rfl,aA.refl _⟩
   ·by_cases h4:k > n
    ·have HG:Hid (lL n k=3):=if_pos (.inr (.inr (.inr h4)))
     go_enter func147,ntmps147
     go_wp2_with fail;go_ret;rw [HG.out];exact ⟨rfl,aA.refl _⟩
    ·have HG:Hid (lL n k=0):=if_neg (by omega)
     go_enter func147,ntmps147
     go_wp2_with fail;go_ret;rw [HG.out];exact ⟨rfl,aA.refl _⟩
theorem C3_ (u v:Nat) (w:World) (hu:(aE u).size<=3000000000) (hv:(aE v).size<=3000000000) (ht:ag w) :
  pI 284 #[.string (aE u),.string (aE v)] w (.string (aE (Nat.gcd u v))):=by
 have HT:=oZ ht;have HU:=oZ hu;have HV:=oZ hv;clear ht hu hv
 go_enter func284,ntmps284
 go_wp2_with fail
 go_loopw [0,1] (fun a b wr=>∃ x y:Nat,a=.string (aE x)/\b=.string (aE y)/\Hid (Nat.gcd x y=Nat.gcd u v)/\Hid ((aE x).size<=3000000000)/\Hid ((aE y).size<=3000000000)/\Hid (aA w wr)) (fun _ b _=>match b with | .string s=>bB 0 s.data.toList | _=>0)
 case atStart=>exact ⟨u,v,rfl,rfl,rfl,HU,HV,aA.refl _⟩
 case round =>
  obtain ⟨x,y,rfl,rfl,HG,HX,HY,HE⟩:=hrel;obtain ⟨wo,rfl⟩:∃ wo:World,wo=wr:=⟨_,rfl⟩;have hz:=kd y;by_cases hy:y=0
  ·rw [pE hy] at hz;have HF:Hid (x=Nat.gcd u v):=(by unfold Hid;rw [<- HG.out,hy,Nat.gcd_zero_right]);clear hy;go_wp2_with fail;go_ret;exact ⟨by rw [<- HF.out];rfl,HE⟩
  ·rw [pD hy] at hz;have HD:=oZ (Y9_ x y wo HX HY hy (HT.ext HE));have HG2:Hid (Nat.gcd y (x%y)=Nat.gcd u v):=by
    unfold Hid;rw [<- HG.out,Nat.gcd_comm y (x%y),<- Nat.gcd_rec,Nat.gcd_comm]
   have MX:Hid ((aE (x%y)).size<=3000000000):=ow (jQ (Nat.le_of_lt (Nat.mod_lt _ (by omega)))) HY;have HLT:Hid (x%y<y):=Nat.mod_lt _ (by omega);have rB:Hid (∀ n,bB 0 (aE n).data.toList=n):=fun n=>by rw [jw,jk]
   clear hy;go_wp2_with fail;refine q_ HD (aA.trans HE) ?_;intro w1 HE1;clear HD;go_wp2_with fail;go_roundw
   case rel=>exact ⟨y,x%y,rfl,rfl,HG2,HY,MX,HE1⟩
   case measure=>simp only [rB.out];exact HLT
theorem Z66 (u v:Nat) (w:World) (hu:u<1000000000000000000) (hv:v<1000000000000000000) :
  pI 283 #[.int .i64 u,.int .i64 v] w (.int .i64 (Nat.gcd u v:Nat)):=by
 go_enter func283,ntmps283
 go_wp2_with fail
 go_loopw [0,1] (fun a b wr=>∃ x y:Nat,a=.int .i64 x/\b=.int .i64 y/\x<1000000000000000000/\y<1000000000000000000/\Hid (Nat.gcd x y=Nat.gcd u v)/\Hid (aA w wr)) (fun _ b _=>(intOf b).toNat)
 case atStart=>exact ⟨u,v,rfl,rfl,hu,hv,rfl,aA.refl _⟩
 case round =>
  obtain ⟨x,y,rfl,rfl,hx,hy,HG,HE⟩:=hrel;obtain ⟨wo,rfl⟩:∃ wo:World,wo=wr:=⟨_,rfl⟩;by_cases qW:y=0
  ·have HF:Hid (x=Nat.gcd u v):=(by unfold Hid;rw [<- HG.out,qW,Nat.gcd_zero_right]);subst qW;go_wp2_with fail;go_ret;exact ⟨by rw [<- HF.out];rfl,HE⟩
  ·have HG2:Hid (Nat.gcd y (x%y)=Nat.gcd u v):=by
    unfold Hid;rw [<- HG.out,Nat.gcd_comm y (x%y),<- Nat.gcd_rec,Nat.gcd_comm]
   obtain ⟨r,hr⟩:=pL (x%y);rw [<- hr] at HG2;have Kr:r<y:=(by rw [hr];exact Nat.mod_lt _ (by omega));have yl:(x:Int)%(y:Int)=(r:Int):=(by rw [hr];exact (Int.natCast_emod _ _).symm);have FH:(x:Int).tmod (y:Int)=(r:Int):=(by rw [Int.tmod_eq_emod_of_nonneg (by omega),yl]);have Ka:((y:Int) == 0)=false:=(by rw [beq_eq_false_iff_ne];omega);have EU:((y:Int) != 0)=true:=(by simp;omega);have KZ:¬ (y:Int)=0:=(by omega);clear hr;go_wp2_with fail
   go_quiet (fail)
   go_wp2_with fail;go_roundw
   case rel=>exact ⟨y,r,rfl,rfl,hy,by omega,HG2,aA.draws HE _⟩
   case measure=>simp [intOf];omega
theorem b6_ (x y:Int) (w:World) (hx:(aB x).size<=2800000000) (hy:(aB y).size<=2800000000) (ht:ag w) :
  pI 209 #[.string (aB x),.string (aB y)] w (.string (aE (Nat.gcd x.natAbs y.natAbs))):=by
 have HT:=oZ ht;clear ht;have hax:=eE x;have hay:=eE y;have eb:∀ n:Nat,aB (n:Int)=aE n:=fun n=>by rw [fw _ (by omega)];rfl
 have hA1:=nP x w;have hA2:=fun W=>nP y W;rw [eb] at hA1;simp only [eb] at hA2;have HA1:=oZ hA1;have ya:Hid (∀ W,pI 63 #[.string (aB y)] W (.string (aE y.natAbs))):=hA2;obtain ⟨u,hu⟩:=pL x.natAbs;obtain ⟨v,hv⟩:=pL y.natAbs;rw [<- hu] at HA1 hax |-;rw [<- hv] at ya hay |-;clear hA1 hA2 hu hv;by_cases hs:(aE u).size<=18/\(aE v).size<=18
 ·have hu1:=il hs.1;have hv1:=il hs.2;have h1:∀ W,Calls prog 160 #[.string (aB (u:Int)),.int .i64 18] W fun e w'=>e=.returned (.tuple #[.int .i64 (u:Int),.bool true])/\aA W w':=fun W=>fW (u:Int) 18 W (by omega) (by omega) (by rw [eb];exact hs.1) (by omega);have h2:∀ W,Calls prog 160 #[.string (aB (v:Int)),.int .i64 18] W fun e w'=>e=.returned (.tuple #[.int .i64 (v:Int),.bool true])/\aA W w':=fun W=>fW (v:Int) 18 W (by omega) (by omega) (by rw [eb];exact hs.2) (by omega);rw [eb] at h1 h2;have H1:=oZ h1;have H2:=oZ h2;have HG:=oZ (fun W=>Z66 u v W hu1 hv1);have hg:Nat.gcd u v<=u+v:=by
   by_cases h0:u=0;·rw [h0,Nat.gcd_zero_left];omega
   ·have:=Nat.gcd_le_left v (Nat.pos_of_ne_zero h0);omega
  obtain ⟨gg,sh⟩:=pL (Nat.gcd u v);rw [<- sh] at HG hg |-;have hO:∀ W,aA w W->Calls prog 56 #[.int .i64 (gg:Int)] W fun e w'=>e=.returned (.string (aB (gg:Int)))/\aA W w':=fun W hE=>jx (gg:Int) W (by omega) (by omega) (HT.ext hE);rw [eb] at hO;have HO:=oZ hO;clear h1 h2 hO hs sh eb
  go_enter func209,ntmps209
  go_wp2_with fail;refine p_ HA1 ?_;intro w1 HE1;clear HA1;go_wp2_with fail;refine q_ (ya _) (aA.trans HE1) ?_;intro w2 HE2;clear ya;go_wp2_with fail;refine q_ (H1 _) (aA.trans HE2) ?_;intro w3 HE3;clear H1;go_wp2_with fail;refine q_ (H2 _) (aA.trans HE3) ?_;intro w4 HE4;clear H2;go_wp2_with fail;refine q_ (HG _) (aA.trans HE4) ?_;intro w5 HE5;clear HG;go_wp2_with fail;refine q_ (HO _ HE5) (aA.trans HE5) ?_;intro w6 HE6;clear HO;go_wp2_with fail;go_ret;exact ⟨rfl,HE6⟩
 ·have HG:Hid (∀ W,aA w W->pI 284 #[.string (aE u),.string (aE v)] W (.string (aE (Nat.gcd u v)))):=fun W hE=>C3_ u v W (by omega) (by omega) (HT.ext hE);have qC:((aE u).size<=18/\18<(aE v).size)\/18<(aE u).size:=by omega
  have HY:Hid ((aE u).size<=18->∀ W,pI 160 #[.string (aE u),.int .i64 18] W (.tuple #[.int .i64 (u:Int),.bool true])):=by
   intro h W;have hb:=il h;have:=fW (u:Int) 18 W (by omega) (by omega) (by rw [eb];exact h) (by omega);rw [eb] at this;exact this
  have KE:Hid (∀ n:Nat,18<(aE n).size->∀ W,pJ 160 #[.string (aE n),.int .i64 18] W (.tuple #[.int .i64 0,.bool false])):=by
   intro n h W;have:=fV (n:Int) 18 W (by rw [eb];exact h);rw [eb] at this;exact this
  clear hs eb;rcases qC with ⟨hs1,hs2⟩ | hs1
  case' inl =>
   have H1:=oZ (HY hs1);have H2:=oZ (KE v hs2);clear hs1 hs2
   go_enter func209,ntmps209
   go_wp2_with fail;refine p_ HA1 ?_;intro w1 HE1;clear HA1;go_wp2_with fail;refine q_ (ya _) (aA.trans HE1) ?_;intro w2 HE2;clear ya;go_wp2_with fail;refine q_ (H1 _) (aA.trans HE2) ?_;intro w3 HE3;clear H1;go_wp2_with fail;refine r_ (H2 _) ?_;clear H2
  case' inr =>
   have H1:=oZ (KE u hs1);clear hs1
   go_enter func209,ntmps209
   go_wp2_with fail;refine p_ HA1 ?_;intro w1 HE1;clear HA1;go_wp2_with fail;refine q_ (ya _) (aA.trans HE1) ?_;intro w2 HE3;clear ya;go_wp2_with fail;refine r_ (H1 _) ?_;clear H1
  all_goals
   go_wp2_with fail;refine q_ (HG _ HE3) (aA.trans HE3) ?_;intro w5 HE5;clear HG;go_wp2_with fail;go_ret;exact ⟨rfl,HE5⟩
section
variable {P:Program} {ops O:Array Oper} {Q:Exit->Act->World->Prop} {md:Region.Mode} {S:World->Prop} {z n:Nat}
theorem tX (hO:Hid (ops=O)) (i:Nat) {oi:Oper} {v:Value} {f:Nat} {l:Array Bool} {a:Act} {w:World} (hi:ops[i]?=some oi) (hy:Yields P O oi v a) (h:bQ P md ops Q S z f (l.setIfInBounds i true) (a.put oi.dst v) w) (hS:S w:=by assumption) (hs:Region.noSelect O=true:=by kernel_rfl) (hf:Region.free md O l i=true:=by kernel_rfl) (hr:(Region.ready md O l).contains i=true:=by kernel_rfl) (hz:decide (i≠z)=true:=by kernel_rfl) (hQ:∀ c a w,Q (.panic c) (a.put oi.dst v) w->Q (.panic c) a w:=by exact fun _ _ _ h=>h):bQ P md ops Q S z (f+1) l a w:=J1_ hO i hi hs hf hr hz hQ hy hS h
theorem tY (hO:Hid (ops=O)) (i:Nat) {oi:Oper} {v:Value} {f:Nat} {l:Array Bool} {a:Act} {w:World} (hi:ops[i]?=some oi) (hy:YieldsIf P O S oi v a) (h:bQ P md ops Q S z f (l.setIfInBounds i true) (a.put oi.dst v) w) (hS:S w:=by assumption) (hs:Region.noSelect O=true:=by kernel_rfl) (hf:Region.free md O l i=true:=by kernel_rfl) (hr:(Region.ready md O l).contains i=true:=by kernel_rfl) (hz:decide (l.size<=z)=true:=by kernel_rfl) (hQ:∀ c a w,Q (.panic c) (a.put oi.dst v) w->Q (.panic c) a w:=by exact fun _ _ _ h=>h):bQ P md ops Q S z (f+1) l a w:=D5_ hO i hi hs hf hr hz hQ hy hS h
end
section
variable {P:Program} {ops O:Array Oper} {Q:Exit->Act->World->Prop} {md:Region.Mode} {S:World->Prop} {z n:Nat}
theorem rS (hO:Hid (ops=O)) {i:Nat} {is:List Nat} {p:Prop} (hl:i<O.size) (h:∀ oi,O[i]=oi->Z7p ops i oi is p):jf (i::is) p:=by
 have hO:ops=O:=hO;subst hO;exact h _ rfl (Array.getElem?_eq_getElem hl)
theorem rX (hO:Hid (ops=O)) {i:Nat} {is:List Nat} {oi:Oper} {v:Value} {f:Nat} {l:Array Bool} {a:Act} {w:World} (hy:Yields P O oi v a) (h:jf is (bQ P md ops Q S z f (l.setIfInBounds i true) (a.put oi.dst v) w)) (hS:S w:=by assumption) (hs:Region.noSelect O=true:=by kernel_rfl) (hf:Region.free md O l i=true:=by kernel_rfl) (hr:(Region.ready md O l).contains i=true:=by kernel_rfl) (hz:decide (i≠z)=true:=by kernel_rfl) (hQ:∀ c a w,Q (.panic c) (a.put oi.dst v) w->Q (.panic c) a w:=by exact fun _ _ _ h=>h):Z7p ops i oi is (bQ P md ops Q S z (f+1) l a w):=fun hi=>J1_ hO i hi hs hf hr hz hQ hy hS h
theorem rY (hO:Hid (ops=O)) {i:Nat} {is:List Nat} {oi:Oper} {v:Value} {f:Nat} {l:Array Bool} {a:Act} {w:World} (hy:YieldsIf P O S oi v a) (h:jf is (bQ P md ops Q S z f (l.setIfInBounds i true) (a.put oi.dst v) w)) (hS:S w:=by assumption) (hs:Region.noSelect O=true:=by kernel_rfl) (hf:Region.free md O l i=true:=by kernel_rfl) (hr:(Region.ready md O l).contains i=true:=by kernel_rfl) (hz:decide (l.size<=z)=true:=by kernel_rfl) (hQ:∀ c a w,Q (.panic c) (a.put oi.dst v) w->Q (.panic c) a w:=by exact fun _ _ _ h=>h):Z7p ops i oi is (bQ P md ops Q S z (f+1) l a w):=fun hi=>D5_ hO i hi hs hf hr hz hQ hy hS h
end
end Go.Proofs.YtoonaddcfakamaaGreatDoor
