import Derived.Test.YtjlkkofmojgipaaGreatDoorVAS
import Derived.Test.YtjlkkofmojgipaaGreatDoorVAT
import Derived.Test.YtjlkkofmojgipaaGreatDoorVAU
import Derived.Test.YtjlkkofmojgipaaGreatDoorVAM
import Derived.Test.YtjlkkofmojgipaaGreatDoorVAD
import Derived.LaidMore
import Derived.LaidLaws
import Derived.MakeChecks
import Derived.Lib.LaidTab
import Derived.Stop.Joined
import Derived.Stop.LaidErr
import Derived.Lay
import Derived.Test.YtjlkkofmojgipaaGreatDoorTie
import Derived.Test.YtjlkkofmojgipaaGreatDoorCards
import Derived.Test.YtjlkkofmojgipaaGreatDoorVAL
import Derived.Test.YtjlkkofmojgipaaGreatDoorVAO
import Derived.ChangeSlices
import Derived.Deep.Slices
set_option linter.unusedVariables false
set_option linter.unusedSimpArgs false
set_option maxRecDepth 1000000
set_option maxHeartbeats 4000000
namespace Go.Proofs.YtjlkkofmojgipaaGreatDoor
open Go.RowKit Go.Proofs.Tryz
theorem m6_ {m:oe} (h4:∀ r∈m,r.length=4) (hk:m.length<=3) (hE:cK m=0) (N:Nat) (hN:(cE m m.length).length=N) (v:Value) (w:World) (h:bN w v m) (ht:ae w) :
  Calls prog 15 #[v,.int .i64 4] w fun e w'=>∃ a c,e=.returned (.tuple #[.agg #[.int .i64 4,.int .i64 m.length,.slice a N c],.int .i64 0])/\aH 1 numC w' (.slice a N c) (cE m m.length)/\aA w w':=by
 have hcl:m.length<=bZ m/\bZ m<5\/m=[]:=by
  cases m with
  | nil=>exact .inr rfl
  | cons r l=>exact .inl (by show _<=r.length/\r.length<5;rw [h4 r (List.mem_cons_self ..)];simp at hk |-;omega)
 have vV:m.length<=bZ m/\du m.length m.length*du (bZ m) m.length<=1000:=by
  rcases hcl with ⟨h1,h2⟩ | h1;·exact ⟨h1,t3_ _ (by omega) _ h2 _ (by omega) (oK _) h1⟩
  ·rw [h1];exact ⟨Nat.zero_le _,by decide⟩
 refine (Z3z m 4 _ v w h hE (by omega) (by omega) h4 (fun W' hW'=>C9_ m m.length v W' (h.ext hW') hE (oK _) vV.1 vV.2 (N8_ hE (oK _) vV.1) (ht.ext hW'))).mono fun e w' ⟨u,h1,h2,h3⟩=>?_;obtain ⟨a,c,rfl,h5⟩:=nh h3;rw [hN] at h1 h5;exact ⟨a,c,h1,h5,h2⟩
theorem f0_ (x0 x1:Int) (ve:Value) (es:og) (w:World) (pG:0<=x0/\x0<=255) (qH:0<=x1/\x1<=255) (h:gX w ve es) (pD:fQ w) (hb:4<w.heap.size) :
  oX 12 #[.agg #[.int .u8 x0,.int .u8 x1,ve]] w (.bool true):=by
 obtain ⟨av,cv,KK,e1,e2,e3,wQ,-⟩:=gX.open h;obtain ⟨k,hr⟩:∃ k:Nat,(k:Int)=x0.tmod 4:=⟨(x0.tmod 4).toNat,by rw [Int.toNat_of_nonneg (Int.tmod_nonneg _ pG.1)]⟩;have IX:k<4:=by have:=Int.tmod_lt_of_pos x0 (show (0:Int)<4 by decide);omega
 have w1k:IntKind.u8.wrap (x0.tmod 4)=(k:Int):=by rw [<- hr,IntKind.wrap_u8];omega
 have v1:=hr.symm;have wN:∀ r∈ev es 4 k,r.length=4:=fun r hr=>(Q9_ wQ r hr).1;have hmb:∀ r∈ev es 4 k,∀ x∈r,x.natAbs<=128:=fun r hr x hx=>by have:=(Q9_ wQ r hr).2 x hx;omega
 have hml:(ev es 4 k).length=k:=q9_ ..;have DY:Hid (∀ W,aA w W->Calls prog 48 #[.agg #[.int .u8 x0,.int .u8 x1,ve],.int .i64 (k:Int),.int .i64 4] W fun e w'=>∃ a c,e=.returned (.slice a k c)/\bN w' (.slice a k c) (ev es 4 k)/\aA W w'):=fun W hW =>
  (Z2E x0 x1 ve es k 4 (by omega) (by omega) W (h.ext hW)).mono fun _ _ ⟨v,tags,g1,g2,g3⟩=>by
   have h5:=Z0M wQ g2;obtain ⟨a,c,rfl,-⟩:=aH.open h5;rw [hml] at g1 h5;exact ⟨a,c,g1,h5,g3⟩
 obtain ⟨m,hm⟩:=oZ (ev es 4 k);rw [hm] at wN hmb hml DY;have Fy:cK m=0:=u8_ wN (by omega) hmb;have hXs:=K6_ wN (by omega) hmb;have hXl:=u7_ wN (by omega) hmb;have hrank:=Z09 wN (by omega) hmb;have hWC:=Z4R wN (by omega) hmb;obtain ⟨N,hN⟩:=oZ ((cE m m.length).length);have hOF:=m6_ wN (by omega) Fy N hN;rw [hml] at hXs hXl hrank hWC hOF hN;obtain ⟨X,hX⟩:=oZ (cE m k);rw [hX] at hXs hXl hrank hWC hOF hN;have F4:fS 4 k X:=⟨by omega,by omega,hXl,fun x hx=>Nat.lt_of_le_of_lt (hXs x hx) (by decide +kernel)⟩;have HKN:Hid (∀ W,aA w W->oX 13 #[] W (.bool true)):=fun W hW=>j6_ W (pD.ext hW) (oI hb hW.size);have HOF:Hid (∀ W a c,aA w W->bN W (.slice a k c) m->Calls prog 15 #[.slice a k c,.int .i64 4] W fun e w'=>∃ a c,e=.returned (.tuple #[.agg #[.int .i64 4,.int .i64 k,.slice a N c],.int .i64 0])/\aH 1 numC w' (.slice a N c) X/\aA W w'):=fun W a c hW hv=>hOF _ W hv (pD.pow.ext hW);have HCO:Hid (∀ W a c,aA w W->aH 1 numC W (.slice a N c) X->oX 30 #[.agg #[.int .i64 4,.int .i64 k,.slice a N c]] W (.tuple #[.string (aB (bW X:Int)),.int .i64 0])):=fun W a c hW hv=>s4_ F4 _ W ⟨_,rfl,hv⟩ (pD.pow.ext hW);have HRK:Hid (∀ W a c,aA w W->bN W (.slice a k c) m->oX 49 #[.slice a k c] W (.int .i64 (gP m:Int))):=fun W a c hW hv=>h7_ m _ W hv Fy (pD.pow.ext hW);obtain ⟨rk,hrk⟩:=oZ (gP m);rw [hrk] at HRK hrank;have HLIB:=oA pD;have HPB:=oA hb;have HWC:=oA hWC;have HRX:=oA F4;have HNX:Hid (X.length=N):=hN;have HK4:=oA IX;obtain ⟨w1,pE,hE1,hs1,hb1⟩:=Z7e w #[.int .u8 x0,.int .u8 x1,ve] 81;have HEw1:=oA hE1;have HBD:=oA hb1;have HRNK:=oA hrank;clear hb1 hE1 hs1 pG qH h pD hb KK e1 e2 e3 wQ hr wN hmb hml hm Fy hXs hXl hrank hWC hN hOF hX F4 hrk
 go_enter func12,ntmps12
 go_wp2_with fail;refine (HKN w1 HEw1).mono ?_;rintro e w2 ⟨rfl,ow⟩;have Df:Hid (aA w w2):=HEw1.trans ow;have HBD:=oA (aJ HBD ow);clear ow HKN pE;have s0:=aO HBD;have s00:=aO HBD 0;simp only [oR,oQ] at s00;go_wp2_with fail;refine (DY w2 Df).mono ?_;rintro e w3 ⟨am,cm,rfl,Iz,ow⟩;have HRm0:=oA Iz;have De:Hid (aA w w3):=Df.trans ow;have HBD:=oA (aJ HBD ow);have HRm:=HRm0;clear ow DY s0 s00 Iz HRm0;clear HBD;go_wp2_with fail;refine (HOF w3 _ _ De HRm).mono ?_;rintro e w4 ⟨ax,cx,rfl,JC,ow⟩;have HLX:=oA JC;have Hf:Hid (aA w w4):=De.trans ow;have HRm:=oA (HRm.ext ow);clear ow JC;obtain ⟨V,hV,tP,vk,pz⟩:=ep w4 (.int .i64 0) (.int .i64 0) (.slice none 0 0);have r0:=aO pz;have f0:=cD pz;have HBX:=oA (fL pz (.int .i64 4) (.int .i64 k) (.slice ax N cx));have HX9:=oA (eY (B:=w4.heap.size) tP (oK _) (.int .i64 4) (.int .i64 k) (.slice ax N cx));obtain ⟨UHBX,tQ⟩:=oZ (((V.setCell ⟨w4.heap.size,0,none⟩ (.int .i64 4)).setCell ⟨w4.heap.size,1,none⟩ (.int .i64 k)).setCell ⟨w4.heap.size,2,none⟩ (.slice ax N cx));rw [tQ] at HBX HX9;clear tP vk pz;have yB:Hid (aA w UHBX):=Hf.trans HX9;have HRm:=oA (HRm.ext HX9);have HLX:=oA (aH.ext numC.mono' HLX HX9);clear HX9;have s1:=aO HBX;go_wp2_with fail;clear hV tQ r0 f0;refine (HCO _ _ _ yB HLX).mono ?_;rintro e w5 ⟨rfl,ow⟩;have zF:Hid (aA w w5):=yB.trans ow;have HRm:=oA (HRm.ext ow);have HLX:=oA (aH.ext numC.mono' HLX ow);have HBX:=oA (aJ HBX ow);clear ow HCO s1;by_cases h0:bW X=0
 ·have hr9:=HRNK.1 h0;have q2:(rk:Int)<(k:Int):=by omega
  have q3:=oT q2;have sx:=Z63 (x:=(bW X:Int)) (by rw [h0];rfl);obtain ⟨u1,hu1⟩:=oZ (aB (bW X:Int));rw [hu1] at sx |-;clear h0 hr9 HWC hu1;go_wp2_with fail;refine (HRK w5 _ _ zF HRm).mono ?_;rintro e w6 ⟨rfl,ow⟩;have zE:Hid (aA w w6):=zF.trans ow;clear ow HRK;go_wp2_with fail;go_ret;exact ⟨rfl,zE⟩
 have hr9:¬ rk<k:=fun h=>h0 (HRNK.2 h);have q2:¬ (rk:Int)<(k:Int):=by omega
 have q3:=oS q2;have sx:=Z62 (x:=(bW X:Int)) (by omega);obtain ⟨R0,l,JD,JF,JE,sG,sw,yj,AT,Cb⟩:=HWC h0;have hOF2:=m6_ yj (by have:=HK4.out;omega) sw N (by rw [sG,Cb.len,<- HRX.out.len];exact HNX);rw [sG] at hOF2;obtain ⟨Y,hY⟩:=oZ (cE l k);rw [hY] at AT Cb hOF2;obtain ⟨C,hC⟩:=oZ (dC X);have JP:C.length=N:=by rw [<- hC,e1_];exact HNX
 have HLA:Hid (∀ W a c,aA w W->aH 1 numC W (.slice a N c) X->Calls prog 36 #[.agg #[.int .i64 4,.int .i64 k,.slice a N c]] W fun e w'=>∃ av cv,e=.returned (.tuple #[.slice av k cv,.int .i64 0])/\bN w' (.slice av k cv) l/\aA W w'):=fun W a c hW hv=>by
  have h9:=JD _ W ⟨_,rfl,hv⟩ (HLIB.ext hW) (oI HPB hW.size);rw [sG] at h9;exact h9
 have HLO:Hid (∀ W a c,aA w W->bN W (.slice a k c) m->Calls prog 50 #[.int .i64 4,.slice a k c] W fun e w'=>∃ a c n,e=.returned (.tuple #[.agg #[.int .i64 4,.slice a n c],.int .i64 0])/\bN w' (.slice a n c) R0/\aA W w'):=fun W a c hW hv=>(JF _ W hv (HLIB.ext hW) (oI HPB hW.size)).mono fun e w' ⟨u,h1,h2,h3⟩=>by
  obtain ⟨a,c,rfl,-⟩:=aH.open h2;exact ⟨a,c,_,h1,h2,h3⟩
 have HLS:Hid (∀ W a n c,aA w W->bN W (.slice a n c) R0->Calls prog 51 #[.agg #[.int .i64 4,.slice a n c]] W fun e w'=>∃ a c,e=.returned (.tuple #[.agg #[.int .i64 4,.slice a k c],.int .i64 0])/\bN w' (.slice a k c) l/\aA W w'):=fun W a n c hW hv=>(JE _ W hv (HLIB.ext hW) (oI HPB hW.size)).mono fun e w' ⟨u,h1,h2,h3⟩=>by
  obtain ⟨a,c,rfl,-⟩:=aH.open h2;rw [sG] at h1 h2;exact ⟨a,c,h1,h2,h3⟩
 have Jh:Hid (∀ W a c,aA w W->bN W (.slice a k c) l->Calls prog 15 #[.slice a k c,.int .i64 4] W fun e w'=>∃ a c,e=.returned (.tuple #[.agg #[.int .i64 4,.int .i64 k,.slice a N c],.int .i64 0])/\aH 1 numC w' (.slice a N c) Y/\aA W w'):=fun W a c hW hv=>hOF2 _ W hv (HLIB.pow.ext hW);have Hn:∀ (Z:og),fS 4 k Z->dC Z=C->Hid (∀ W a c,aA w W->aH 1 numC W (.slice a N c) Z->Calls prog 44 #[.agg #[.int .i64 4,.int .i64 k,.slice a N c]] W fun e w'=>∃ a5 c5,e=.returned (.tuple #[.agg #[.int .i64 4,.int .i64 k,.slice a5 N c5],.int .i64 0])/\aH 1 numC w' (.slice a5 N c5) C/\aA W w'):=fun Z hZ LN W a c hW hv=>by
  refine (Z0j (by omega) hZ _ W ⟨_,rfl,hv⟩ (HLIB.pow.ext hW)).mono fun e w' ⟨y,h1,h2,h3⟩=>?_;obtain ⟨a5,c5,rfl,h4⟩:=nh h3;rw [LN,JP] at h1 h4;exact ⟨a5,c5,h1,h4,h2⟩
 have HCX:=Hn X HRX hC;have HCY:=Hn Y Cb (by rw [<- AT];exact hC);have Jn:Hid (∀ W a c a' c',aH 1 numC W (.slice a N c) C->aH 1 numC W (.slice a' N c') C->oX 46 #[.agg #[.int .i64 4,.int .i64 k,.slice a N c],.agg #[.int .i64 4,.int .i64 k,.slice a' N c']] W (.bool true)):=fun W a c a' c' h1 h2=>by
  have h9:=Z0y 4 k C 4 k C _ _ W ⟨_,rfl,h1⟩ ⟨_,rfl,h2⟩;rw [show eG 4 k C 4 k C=true by unfold eG;simp] at h9;exact h9
 have HRE:Hid (∀ W a c a' c',bN W (.slice a k c) l->bN W (.slice a' k c') l->oX 52 #[.slice a k c,.slice a' k c'] W (.bool true)):=fun W a c a' c' h1 h2=>by
  have h9:=S4_ l l _ _ W h1 h2;simpa using h9
 obtain ⟨u1,hu1⟩:=oZ (aB (bW X:Int));rw [hu1] at sx |-;clear h0 hr9 hu1 JD JF JE sG sw yj AT Cb hOF2 hY hC JP Hn HWC HRNK HRX;go_wp2_with fail;refine (HRK w5 _ _ zF HRm).mono ?_;rintro e w6 ⟨rfl,ow⟩;have zE:Hid (aA w w6):=zF.trans ow;have HRm:=oA (HRm.ext ow);have HLX:=oA (aH.ext numC.mono' HLX ow);have HBX:=oA (aJ HBX ow);clear ow HRK;have s1:=aO HBX;go_wp2_with fail;refine (HLA w6 _ _ zE HLX).mono ?_;rintro e w7 ⟨al,cl,rfl,C5,ow⟩;have HRl:=oA C5;have Dd:Hid (aA w w7):=zE.trans ow;have HRm:=oA (HRm.ext ow);have HLX:=oA (aH.ext numC.mono' HLX ow);have HBX:=oA (aJ HBX ow);clear ow HLA s1 C5;go_wp2_with fail;refine (HLO w7 _ _ Dd HRm).mono ?_;rintro e w8 ⟨ao,co,no,rfl,Iy,ow⟩;have HRo:=oA Iy;have He:Hid (aA w w8):=Dd.trans ow;have HRm:=oA (HRm.ext ow);have HLX:=oA (aH.ext numC.mono' HLX ow);have HBX:=oA (aJ HBX ow);have HRl:=oA (HRl.ext ow);clear ow HLO Iy;clear HRm;obtain ⟨V,hV,tP,vk,pz⟩:=nW w8 (.int .i64 0) (.slice none 0 0);obtain ⟨r0,r1,rf⟩:=nV pz;have f0:=rf 0;have f1:=rf 1;have HBO:=oA (nX pz (.int .i64 4) (.slice ao no co));have HX9:=oA (nO tP (oK _) (.int .i64 4) (.slice ao no co));clear tP vk pz rf;obtain ⟨UHBO,tQ⟩:=oZ ((V.setCell ⟨w8.heap.size,0,none⟩ (.int .i64 4)).setCell ⟨w8.heap.size,1,none⟩ (.slice ao no co));rw [tQ] at HBO HX9;have yD:Hid (aA w UHBO):=He.trans HX9;have HLX:=oA (aH.ext numC.mono' HLX HX9);have HBX:=oA (aJ HBX HX9);have HRl:=oA (HRl.ext HX9);have HRo:=oA (HRo.ext HX9);clear HX9;have s1:=aO HBO;go_wp2_with fail;clear hV tQ r0 r1 f0 f1;refine (HLS _ _ _ _ yD HRo).mono ?_;rintro e w9 ⟨asx,cs,rfl,Ix,ow⟩;have HRs:=oA Ix;have Hd:Hid (aA w w9):=yD.trans ow;have HLX:=oA (aH.ext numC.mono' HLX ow);have HBX:=oA (aJ HBX ow);have HRl:=oA (HRl.ext ow);have HRo:=oA (HRo.ext ow);have HBO:=oA (aJ HBO ow);clear ow HLS s1 Ix;clear HBO HRo;obtain ⟨V,hV,tP,vk,pz⟩:=nW w9 (.int .i64 0) (.slice none 0 0);obtain ⟨r0,r1,rf⟩:=nV pz;have f0:=rf 0;have f1:=rf 1;have HBS:=oA (nX pz (.int .i64 4) (.slice asx k cs));have HX9:=oA (nO tP (oK _) (.int .i64 4) (.slice asx k cs));clear tP vk pz rf;obtain ⟨UHBS,tQ⟩:=oZ ((V.setCell ⟨w9.heap.size,0,none⟩ (.int .i64 4)).setCell ⟨w9.heap.size,1,none⟩ (.slice asx k cs));rw [tQ] at HBS HX9;have yC:Hid (aA w UHBS):=Hd.trans HX9;have HLX:=oA (aH.ext numC.mono' HLX HX9);have HBX:=oA (aJ HBX HX9);have HRl:=oA (HRl.ext HX9);have HRs:=oA (HRs.ext HX9);clear HX9;go_wp2_with fail;clear hV tQ r0 r1 f0 f1;refine (Jh _ _ _ yC HRl).mono ?_;rintro e wA ⟨ay,cy,rfl,JB,ow⟩;have HLY:=oA JB;have Hc:Hid (aA w wA):=yC.trans ow;have HLX:=oA (aH.ext numC.mono' HLX ow);have HBX:=oA (aJ HBX ow);have HRl:=oA (HRl.ext ow);have HRs:=oA (HRs.ext ow);have HBS:=oA (aJ HBS ow);clear ow Jh JB;obtain ⟨V,hV,tP,vk,pz⟩:=ep wA (.int .i64 0) (.int .i64 0) (.slice none 0 0);have r0:=aO pz;have f0:=cD pz;have HBY:=oA (fL pz (.int .i64 4) (.int .i64 k) (.slice ay N cy));have HX9:=oA (eY (B:=wA.heap.size) tP (oK _) (.int .i64 4) (.int .i64 k) (.slice ay N cy));obtain ⟨UHBY,tQ⟩:=oZ (((V.setCell ⟨wA.heap.size,0,none⟩ (.int .i64 4)).setCell ⟨wA.heap.size,1,none⟩ (.int .i64 k)).setCell ⟨wA.heap.size,2,none⟩ (.slice ay N cy));rw [tQ] at HBY HX9;clear tP vk pz;have yA:Hid (aA w UHBY):=Hc.trans HX9;have HLX:=oA (aH.ext numC.mono' HLX HX9);have HBX:=oA (aJ HBX HX9);have HRl:=oA (HRl.ext HX9);have HRs:=oA (HRs.ext HX9);have HBS:=oA (aJ HBS HX9);have HLY:=oA (aH.ext numC.mono' HLY HX9);clear HX9;have s1:=aO HBX;go_wp2_with fail;clear hV tQ r0 f0;refine (HCX _ _ _ yA HLX).mono ?_;rintro e wB ⟨aa,ca,rfl,JH,ow⟩;have HLA:=oA JH;have Hb:Hid (aA w wB):=yA.trans ow;have HLX:=oA (aH.ext numC.mono' HLX ow);have HBX:=oA (aJ HBX ow);have HRl:=oA (HRl.ext ow);have HRs:=oA (HRs.ext ow);have HBS:=oA (aJ HBS ow);have HLY:=oA (aH.ext numC.mono' HLY ow);have HBY:=oA (aJ HBY ow);clear ow HCX s1 JH;clear HBX HLX;obtain ⟨V,hV,tP,vk,pz⟩:=ep wB (.int .i64 0) (.int .i64 0) (.slice none 0 0);have r0:=aO pz;have f0:=cD pz;have HBA:=oA (fL pz (.int .i64 4) (.int .i64 k) (.slice aa N ca));have HX9:=oA (eY (B:=wB.heap.size) tP (oK _) (.int .i64 4) (.int .i64 k) (.slice aa N ca));obtain ⟨UHBA,tQ⟩:=oZ (((V.setCell ⟨wB.heap.size,0,none⟩ (.int .i64 4)).setCell ⟨wB.heap.size,1,none⟩ (.int .i64 k)).setCell ⟨wB.heap.size,2,none⟩ (.slice aa N ca));rw [tQ] at HBA HX9;clear tP vk pz;have yE:Hid (aA w UHBA):=Hb.trans HX9;have HRl:=oA (HRl.ext HX9);have HRs:=oA (HRs.ext HX9);have HBS:=oA (aJ HBS HX9);have HLY:=oA (aH.ext numC.mono' HLY HX9);have HBY:=oA (aJ HBY HX9);have HLA:=oA (aH.ext numC.mono' HLA HX9);clear HX9;have s1:=aO HBY;go_wp2_with fail;clear hV tQ r0 f0;refine (HCY _ _ _ yE HLY).mono ?_;rintro e wC ⟨ab,cb,rfl,hLB,ow⟩;have HLB:=oA hLB;have Ha:Hid (aA w wC):=yE.trans ow;have HRl:=oA (HRl.ext ow);have HRs:=oA (HRs.ext ow);have HBS:=oA (aJ HBS ow);have HLY:=oA (aH.ext numC.mono' HLY ow);have HBY:=oA (aJ HBY ow);have HLA:=oA (aH.ext numC.mono' HLA ow);have HBA:=oA (aJ HBA ow);clear ow HCY s1 hLB;clear HBY HLY;obtain ⟨V,hV,tP,vk,pz⟩:=ep wC (.int .i64 0) (.int .i64 0) (.slice none 0 0);have r0:=aO pz;have f0:=cD pz;have HBB:=oA (fL pz (.int .i64 4) (.int .i64 k) (.slice ab N cb));have HX9:=oA (eY (B:=wC.heap.size) tP (oK _) (.int .i64 4) (.int .i64 k) (.slice ab N cb));obtain ⟨UHBB,tQ⟩:=oZ (((V.setCell ⟨wC.heap.size,0,none⟩ (.int .i64 4)).setCell ⟨wC.heap.size,1,none⟩ (.int .i64 k)).setCell ⟨wC.heap.size,2,none⟩ (.slice ab N cb));rw [tQ] at HBB HX9;clear tP vk pz;have BF:Hid (aA w UHBB):=Ha.trans HX9;have HRl:=oA (HRl.ext HX9);have HRs:=oA (HRs.ext HX9);have HBS:=oA (aJ HBS HX9);have HLA:=oA (aH.ext numC.mono' HLA HX9);have HBA:=oA (aJ HBA HX9);have HLB:=oA (aH.ext numC.mono' HLB HX9);clear HX9;have s1:=aO HBS 1;simp only [oR,oQ,oP] at s1;have s2:=aO HBA;have s3:=aO HBB;go_wp2_with fail;clear hV tQ r0 f0;refine (HRE _ _ _ _ _ HRl HRs).mono ?_;rintro e wD ⟨rfl,ow⟩;have HH:Hid (aA w wD):=BF.trans ow;have HBA:=oA (aJ HBA ow);have HBB:=oA (aJ HBB ow);have HLA:=oA (aH.ext numC.mono' HLA ow);have HLB:=oA (aH.ext numC.mono' HLB ow);clear ow HRE s1 s2 s3;have s2:=aO HBA;have s3:=aO HBB;go_wp2_with fail;refine (Jn _ _ _ _ _ HLA HLB).mono ?_;rintro e wE ⟨rfl,ow⟩;have G9:Hid (aA w wE):=HH.trans ow;clear ow Jn s2 s3;go_wp2_with fail;go_ret;exact ⟨rfl,G9⟩
end Go.Proofs.YtjlkkofmojgipaaGreatDoor
namespace Go.Proofs.YtjlkkofmojgipaaGreatDoor
open Go.ChangeShapes Go.WideShapes Go.ChangeAt Go.RowKit Go.Proofs.Tryz
abbrev Z4e : List (String × DataW Unit) := [("math/bits.deBruijn32tab", Rows.laid_math_bits_deBruijn32tab), ("math/bits.deBruijn64tab", Rows.laid_math_bits_deBruijn64tab), ("internal/strconv.uint64pow10", Rows.laid_internal_strconv_uint64pow10), ("strconv.ErrRange", Rows.laid_strconv_ErrRange), ("strconv.ErrSyntax", Rows.laid_strconv_ErrSyntax)]
theorem w7_ {W:World} (h:laidMetH prog Z4e W):ae W:=by
 rw [MakeChecks.laidMetH_plain _ _ _ (by kernel_rfl)] at h;have h2:=laidMet.tail (laidMet.tail h);exact Lib.tabIs_of_head (g:=4) (t:=266) (e:=204) (n:=20) (by kernel_rfl) (by kernel_rfl) (by kernel_rfl) (by kernel_rfl) (by kernel_rfl) (by kernel_rfl) h2
theorem W3_ {H:Type} {enc:TypeId×Value->H} {a:Assume} {C:Checked} {os:Os} {f:FuncId} {fn:Func} {s:ChangeSpec} {conds:List PathCond} {apart fresh handsOn again:Bool} {X:World->Array Value->Prop}
  (hX:∀ (w w':World) (args:Array Value),w.heap=w'.heap->X w args->X w' args)
  (own:ownKnob C.prog.godebug=none) (started:os.Started) (noInit:C.prog.inits.idxOf? f=none) (vw:C.prog.funcs[f]?=some fn)
  (witness:∃ (w:World) (tape:Tape) (i:Input),w.os=os/\(w.forCall tape i).Shaped C.prog/\i.vars=[]/\Input.okWide C.prog (w.forCall tape i) .any w.heap.size f i /\
   ((s.pre enc C.prog fn conds apart (w.forCall tape i).memory i.args/\X (w.forCall tape i).memory i.args)/\sizedMet enc C.prog fn (OpenSpec.ofChange s) apart (w.forCall tape i).memory i.args)/\a.holds C.prog (lone (Frame.enter C.prog f i.args .normal) [] (w.forCall tape i)))
  (contract:∀ (W:World) (base:Nat) (args:Array Value) (ds gs:List (DataW H)) (before:List MemPlace),
   (∀ (j:Nat) t v,fn.params[j]?=some t->args[j]?=some v->Value.okWide C.prog W .any base t v) ->
   DataW.Whole enc C.prog fn.params.toList s.vars apart W args.toList ds gs before ->
   conds.all (PathCond.test C.prog ⟨fn.params.toList,ds,s.plain.varTypes C.prog,gs⟩)=true ->
   (DataW.weightsEach C.prog (fn.params.toList++s.plain.varTypes C.prog) (ds++gs)).all (·<=reachBytes)=true->X W args ->
   W.ShapedOpen C.prog ->
   a.holds C.prog (lone (Frame.enter C.prog f args .normal) [] W) ->
   Calls C.prog f args W fun e W'=>∃ v,e=.returned v/\s.post enc C.prog fn apart fresh handsOn again W args v W') :
  ReturnsInHanded a C os f .any (fun w args=>(s.pre enc C.prog fn conds apart w args/\X w args)/\sizedMet enc C.prog fn (OpenSpec.ofChange s) apart w args) (s.post enc C.prog fn apart fresh handsOn again):=by
 refine returnsInHanded_of_calls own started noInit witness ?_;intro w tape i _ hsh _ hok En AY;obtain ⟨_,_,_,fn',FW,_,_,_,_,tC⟩:=hok;have e:fn'=fn:=oM (FW.symm.trans vw);subst e;obtain ⟨⟨⟨ds,gs,before,hw,hc⟩,hx⟩,hz⟩:=En;have hw':=DataW.Whole.of_heap (w':=w.forCall tape i) (by rfl) hw;refine (contract (w.forCall tape i) w.heap.size i.args ds gs before tC hw' hc (hz.weights hw) (hX _ _ _ (by rfl) hx) hsh AY).mono fun e W' ⟨v,he,hp⟩=>?_;subst he;exact ChangeSpec.post_blind hp
theorem Z1Q (os:Os) (args:Array Value):laidMetH prog Z4e ((World.laidAll prog os Z4e).forCall (fun _ _=>0) ⟨#[],args,[]⟩).memory:=by
 rw [MakeChecks.laidMetH_plain _ _ _ (by kernel_rfl)];exact laidMet_laidAll _ (by kernel_rfl) (by kernel_rfl)
theorem Z6e (u : TypeId) (h : prog.typeName? 3 u = some "*errors.errorString") : u = 269 :=
 typeName_ptr_named (nm := "errors.errorString") (by rw [show "*" ++ "errors.errorString" = "*errors.errorString" by decide]; kernel_rfl) (by kernel_rfl) (by decide) u (by rw [show "*" ++ "errors.errorString" = "*errors.errorString" by decide]; exact h)
theorem Z2A {W:World} (h:laidMetH prog Z4e W):fQ W:=by
 have hp:=w7_ h;rw [MakeChecks.laidMetH_plain _ _ _ (by kernel_rfl)] at h;have h2:=laidMet.tail (laidMet.tail h);refine ⟨hp,?_⟩;have h4:=laidMet.tail h2;obtain ⟨a,s,hv,-⟩:=laid_sentinel (g:=3) (ti:=176) (tp:=269) (te:=271) (ts:=9) (ms:=_) (f:=_) h4 (by kernel_rfl) (by kernel_rfl) underlying176 Z6e underlying269 underlying271 rfl rfl underlying9 (by kernel_rfl) (by kernel_rfl);have hc := World.var?_cell (show prog.globalNamed "strconv.ErrRange" = some 3 by kernel_rfl) hv 0;exact ⟨_,_,by simpa using hc⟩
theorem Z6r {W:World} (h:ae W):4<W.heap.size:=by
 unfold ae Lib.TabIs at h;have hg : prog.globalNamed "internal/strconv.uint64pow10" = some 4 := by kernel_rfl
 by_cases hlt:4<W.heap.size;·exact hlt
 ·simp [World.var?,hg,Array.getElem?_eq_none (show W.heap.size<=4 by omega)] at h
theorem Z5x {H:Type} {enc:TypeId×Value->H} {W:World} {base:Nat} {spare:Nat->Bool} {held:Bool} {c:Value} {x:DataW H×List MemPlace} {fuel:Nat} {t e:TypeId} {P:Program}
  (ht:P.underlying t=some (.slice e)) (he:P.underlying e=some (.int .i8)) (hc:P.cellsOf e=1) (hsp:∀ b,spare b=true)
  (hf:DataW.trod enc P W base spare held fuel t [c]=some x):∃ xs,gX W c xs:=by
 rcases open_ints ht he hc hf with ⟨hcs,hx⟩ | ⟨a,sR,cap0,zs,hcs,_,hl,hm,hz,hx,hcell,KF⟩
 ·obtain rfl:c=.slice none 0 0:=by simpa using hcs
  exact ⟨[],Z5y W⟩
 ·obtain rfl:c=.slice (some a) sR cap0:=by simpa using hcs
  rw [hsp,if_pos rfl] at hz;have hlen:(zs.take sR).length=sR:=by rw [oG];omega
  refine ⟨zs.take sR,(zs.take sR).map fun x=>[Value.int .i8 x],by simp,(by intro u hu;obtain ⟨x,_,rfl⟩:=List.mem_map.1 hu;rfl),?_,?_⟩
  ·rw [di];refine ⟨some a,cap0,by rw [hlen],by rw [hlen];exact hl,hm,(fun h=>by cases h),fun hne=>?_⟩;have hpos:0<sR:=by
    rcases Nat.eq_zero_or_pos sR with h0 | h0;·subst h0;simp at hne
    ·exact h0
   have h0:=hcell 0 (by omega);have hs:a.spot=none:=by
    cases Ee:a.spot with
    | none=>rfl
    | some s =>
     have:W.cell? a=some (.int .i8 (zs.getD 0 0)):=(by simpa [Addr.add] using h0);unfold World.cell? at this;rw [Ee] at this
     split at this <;> simp at this
   refine ⟨a.block,a.off,by rw [<- hs],C4_ (by simpa [Addr.add] using h0),fun j u hu=>?_⟩;rw [oF] at hu;cases hj:(zs.take sR)[j]? with
   | none=>simp [hj] at hu
   | some x =>
    simp [hj] at hu;subst hu;have hjl:j<sR:=(by have:=(oC.1 hj).1;omega);have hc2:=hcell j (by omega);rw [List.getElem?_take,if_pos hjl] at hj;rw [oD,hj] at hc2;unfold Addr.add at hc2;by_cases IZ:j=0
    ·subst IZ;rw [if_pos rfl] at hc2;have ha:a=⟨a.block,a.off+0,none⟩:=(by cases a;simp only at hs;subst hs;rfl);rw [ha] at hc2;exact hc2
    ·rw [if_neg IZ] at hc2;exact hc2
  ·intro j u x hu hx;simp only [oF,hx,Option.map_some,Option.some.injEq] at hu;refine ⟨hu.symm,?_⟩;have:=KF x (List.mem_of_mem_take (oE hx));exact bounds_i8 this
theorem Z1E:prog.cellsOf 5=1:=by kernel_rfl
theorem Z3M:prog.cellsOf 79=1:=by kernel_rfl
theorem Z0k:prog.cellsOf 81=3:=by kernel_rfl
theorem Z0X {H:Type} {enc:TypeId×Value->H} {W:World} {r:Reach} {b0 base:Nat} {spare:Nat->Bool} {held:Bool} {v:Value} {d:DataW H} {ps:List MemPlace} (hsp:∀ b,spare b=true)
  (tC:Value.okWide prog W r b0 81 v) (hd:DataW.Trod enc prog W base spare held 81 v d ps) :
  ∃ x0 x1 ve es,v=.agg #[.int .u8 x0,.int .u8 x1,ve]/\(0<=x0/\x0<=255)/\(0<=x1/\x1<=255)/\gX W ve es:=by
 obtain ⟨cs,rfl,hs⟩:=okWide_struct underlying81 tC;obtain ⟨fuel,hf⟩:=hd;rw [Z0k] at hs;obtain ⟨a,b,c,rfl⟩:∃ a b c,cs=#[a,b,c]:=by
  match cs,hs with
  | ⟨[a,b,c]⟩,_=>exact ⟨a,b,c,rfl⟩
 obtain ⟨xs,n,-,-,hl,hlen,hall⟩:=DataW.trod_struct underlying81 hf;have h0:=hall 0 _ rfl;have h1:=hall 1 _ rfl;have h2:=hall 2 _ rfl;have hx:xs.length=3:=hlen;rw [oB (by omega)] at h0 h1 h2;have k0:DataW.trod enc prog W base spare held n 5 [a]=some xs[0]:=by
  rw [<- h0];show _=DataW.trod enc prog W base spare held n 5 (([a,b,c].drop 0).take (prog.cellsOf 5));rw [Z1E];rfl
 have k1:DataW.trod enc prog W base spare held n 5 [b]=some xs[1]:=by
  rw [<- h1];show _=DataW.trod enc prog W base spare held n 5 (([a,b,c].drop 1).take (prog.cellsOf 5));rw [Z1E];rfl
 have k2:DataW.trod enc prog W base spare held n 79 [c]=some xs[2]:=by
  rw [<- h2];show _=DataW.trod enc prog W base spare held n 79 (([a,b,c].drop 2).take (prog.cellsOf 79));rw [Z3M];rfl
 obtain ⟨y0,e0,-,w0⟩:=DataW.trod_int underlying5 k0;obtain ⟨y1,e1,-,w1⟩:=DataW.trod_int underlying5 k1;obtain ⟨es,wQ⟩:=Z5x underlying79 underlying46 Z1D hsp k2;obtain rfl:a=.int .u8 y0:=by simpa using e0
 obtain rfl:b=.int .u8 y1:=by simpa using e1
 exact ⟨y0,y1,c,es,rfl,bounds_u8 w0,bounds_u8 w1,wQ⟩
end Go.Proofs.YtjlkkofmojgipaaGreatDoor
