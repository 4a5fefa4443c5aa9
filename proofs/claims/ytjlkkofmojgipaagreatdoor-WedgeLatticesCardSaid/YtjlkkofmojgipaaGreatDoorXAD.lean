import Derived.Test.YtjlkkofmojgipaaGreatDoorXAC
import Derived.Test.YtjlkkofmojgipaaGreatDoorShelfA
import Derived.Lib.AppendIntMem
import Derived.BigCall
import Derived.BigGuard
import Derived.Lib.ParseIntBTie
import Derived.Lib.ParseIntBCases
import Derived.Lib.AppendZerosOnto
import Derived.WalkLawsBesides
import Derived.Deep.RegionWith
set_option linter.unusedVariables false
set_option linter.unusedSimpArgs false
set_option maxRecDepth 1000000
set_option maxHeartbeats 8000000
namespace Go.Proofs.YtjlkkofmojgipaaGreatDoor
open Go.RowKit Go.Shelf Go.Sort Go.Lib Go.Proofs.Tryz
def af (w : World) : Prop := Lib.TabIs prog w "internal/strconv.uint64pow10" .u64 Lib.pow10Tab
theorem af.ext {w w':World} (h:af w) (he:aC w w'):af w':=by
 unfold af Lib.TabIs at h |-;cases hg : prog.globalNamed "internal/strconv.uint64pow10" with
 | none=>simp [World.var?,hg] at h
 | some g =>
  refine var?_below he hg ?_ h;by_cases hlt:g<w.heap.size
  ·exact hlt
  ·simp [World.var?,hg,Array.getElem?_eq_none (show w.heap.size<=g by omega)] at h
theorem Z5B {a b:ByteArray} (h:a.data=b.data):Ending.returned (.string a)=.returned (.string b):=by
 cases a;cases b;simp only at h;rw [h]
theorem Z2G {k:IntKind} {a b:Int} (h:a=b):Ending.returned (.int k a)=.returned (.int k b):=by rw [h]
theorem Z17 {a b:ByteArray} (h:a.data.toList=b.data.toList):a=b:=by
 cases a;cases b;simp only at h;rw [ByteArray.mk.injEq];exact Array.toList_inj.1 h
theorem Z3B (w:World) (k:Nat) (os:Array Obj):aC w (grow (w.drewN k) os):=Lib.below_grow _ w (oJ _) k os
theorem Z3v (w:World) (o:Obj) (dk:Array UInt8) (k:Nat):∃ os,(putRow (fun (b:UInt8)=>Value.int .u8 (b.toNat:Int)) (w.alloc o) w.heap.size 0 dk).drewN k=grow (w.drewN k) os:=by
 rw [alloc_eq_grow];obtain ⟨os',_,e⟩:=putRow_grow_new (fun (b:UInt8)=>Value.int .u8 (b.toNat:Int)) w #[o] w.heap.size 0 dk (oJ _);exact ⟨os',by rw [e];rfl⟩
theorem N9_ (u:Nat) (w:World) (hu:u<18446744073709551616) (ht:af w) :
  oW 219 #[.int .u64 u,.int .i64 10] w (.string (aE u)):=by
 have hN:aE u=⟨(Lib.decDigits u).toArray⟩:=rfl;by_cases hs:u<100
 ·have HS:Hid (∀ W,Calls prog 220 #[.int .i64 u] W fun e w'=>e=.returned (.string (aE u))/\w'=W):=fun W=>internal_strconv_small u hs W;clear hN
  go_enter func219,ntmps219
  go_wp2_with fail;refine (HS _).mono ?_;rintro e w' ⟨rfl,rfl⟩;go_wp2_with fail;go_ret;exact ⟨rfl,aC.refl _⟩
 ·have hu1:1<=u:=by omega
  have I1:Lib.nDigits u<=20:=by have:=Lib.numDigits_eq u hu1 hu;split at this <;> omega
  have hb3:Lib.nDigits u<=24:=by omega
  have pN:prog.arrayLen 254=24:=by simp [Program.arrayLen,underlying254]
  have K9:∀ W,(Instr.sliceAt 254 (.pointer (some ⟨w.heap.size,0,none⟩)) none (some (.int .i64 (Lib.nDigits u:Int))) none).run prog W=.ok (.slice (some ⟨w.heap.size,0,none⟩) (Lib.nDigits u) 24) W:=fun W=>by
   rw [run_sliceAt_array_h W 254 ⟨w.heap.size,0,none⟩ (by simp [Program.arrayLen,Program.elem,underlying254]) .i64 (Lib.nDigits u:Int) (by omega) (by rw [pN];omega)];go_simp
  have hH0:=Lib.holds_zero0 w 254 (Lib.nDigits u) (by omega);have hfmt:=internal_strconv_formatBase10 w.heap.size 0 24 u (Array.replicate (Lib.nDigits u) 0) (w.alloc (.cells Lib.zeros24 254)) hH0 (by rw [Array.size_replicate];exact Lib.lt_pow_nDigits u) hu (by rw [Array.size_replicate];omega);rw [Array.size_replicate] at hfmt;have HH0:=n8 hH0;have HT:=n8 ht;have HN:Hid (∀ W,af W->Calls prog 221 #[.int .u64 u] W fun e w'=>e=.returned (.int .i64 (Lib.nDigits u))/\w'=W):=fun W hW=>internal_strconv_numDigits u hu1 hu W hW;clear hH0 pN ht
  go_enter func219,ntmps219
  go_wp2_with fail;refine (HN _ (HT.ext (aC.alloc _ _))).mono ?_;rintro e w' ⟨rfl,rfl⟩;go_wp2_with fail;refine hfmt.mono ?_;rintro e w' ⟨rfl,k,v',dk,rfl,hF⟩;have hcv:(convert 241 9 (.slice (some ⟨w.heap.size,0,none⟩) (Lib.nDigits u) 24)).run prog ((putRow (fun (b:UInt8)=>Value.int .u8 (b.toNat:Int)) (w.alloc (.cells Lib.zeros24 254)) w.heap.size 0 dk).drewN k)=.ok (.string (aE u)) ((putRow (fun (b:UInt8)=>Value.int .u8 (b.toNat:Int)) (w.alloc (.cells Lib.zeros24 254)) w.heap.size 0 dk).drewN k):=by
   have h:=run_convert_bytes_back (P:=prog) ((putRow (fun (b:UInt8)=>Value.int .u8 (b.toNat:Int)) (w.alloc (.cells Lib.zeros24 254)) w.heap.size 0 dk).drewN k) 241 9 5 ⟨w.heap.size,0,none⟩ 24 (Lib.decDigits u) underlying241 underlying5 underlying9 (fun j hj=>by
    rw [Lib.row_is_numeral hF j hj,Lib.add_plain,World.cell?_drewN]
    exact cell?_putRow (fun (b:UInt8)=>Value.int .u8 (b.toNat:Int)) _ w.heap.size 0 _ dk HH0 (by rw [hF.size,Array.size_replicate]) j (by rw [hF.size];rw [Lib.decDigits_length] at hj;exact hj))
   rw [Lib.decDigits_length] at h;exact h
  clear hN HT HN hfmt;go_wp2_with fail;go_ret;obtain ⟨os,eo⟩:=Z3v w (.cells zeros24 254) dk k;exact ⟨rfl,by rw [eo];exact Z3B w k os⟩
theorem G5_ (u:Nat) (w:World) (hu:u<18446744073709551616) (ht:af w) :
  oW 204 #[.int .u64 u,.int .i64 10] w (.string (aE u)):=by
 have HF:=n8 (N9_ u w hu ht);clear ht
 go_enter func204,ntmps204
 go_wp2_with fail;refine HF.mono ?_;rintro e w1 ⟨rfl,hE⟩;have HE:=n8 hE;clear hE HF;go_wp2_with fail;go_ret;exact ⟨rfl,HE⟩
theorem m_ (u:Nat) (w:World) (hu:u<18446744073709551616) (ht:af w) :
  oW 168 #[.int .u64 u] w (.string (aE u)):=by
 have HF:=n8 (G5_ u w hu ht);clear ht
 go_enter func168,ntmps168
 go_wp2_with fail;refine HF.mono ?_;rintro e w1 ⟨rfl,hE⟩;have HE:=n8 hE;clear hE HF;go_wp2_with fail;go_ret;exact ⟨rfl,HE⟩
theorem x1_ (u:Nat) (hu:u<18446744073709551616):Lib.parseUintB 64 (aE u).data.toList=.ok u:=by
 have h:=nU (Lib.decDigits u) 0 (gP u) (by rw [fx];exact hu);rw [fx] at h;rw [ep];have hne:Lib.decDigits u≠[]:=by
  have:=Lib.nDigits_pos u;rw [<- Lib.decDigits_length] at this;exact List.length_pos_iff.1 this
 unfold Lib.parseUintB;rw [if_neg hne,show (2^64-1:Nat)=18446744073709551615 by decide,Lib.parseUintM_64,h]
theorem O9_ (u:Nat) (w:World) (hu:u<18446744073709551616) (hs:(aE u).size<=100000000000) :
  oW 203 #[.string (aE u)] w (.tuple #[.int .u64 u,.bool true]):=by
 have HP:Hid (oW 218 #[.string (aE u),.int .i64 10,.int .i64 64] w (.tuple #[.int .u64 u,.nilIface])) :=
  (strconv_ParseUint_10_at64_ok (aE u) (by omega) u (x1_ u hu) w).mono fun e w' ⟨h1,h2⟩=>⟨h1,by
   rcases h2 with rfl | rfl
   ·exact aC.refl _
   ·exact ⟨rfl,rfl,rfl,by rw [Lib.bytesWorld_size];omega,fun j hj=>Lib.bytesWorld_at_old w _ _ j hj⟩⟩
 go_enter func203,ntmps203
 go_wp2_with fail;refine HP.mono ?_;rintro e w1 ⟨rfl,hE1⟩;have HE1:=n8 hE1;clear hE1 HP;go_wp2_with fail;go_ret2;exact ⟨rfl,HE1⟩
theorem M3_ (u v:Nat) (w:World) (hu:(aE u).size<=18) (hv:(aE v).size<=18) :
  oW 167 #[.string (aE u),.string (aE v)] w (.tuple #[.int .u64 u,.int .u64 v,.bool true]):=by
 have hb:∀ x:Nat,(aE x).size<=18->x<18446744073709551616:=by
  intro x hx;rw [dz] at hx;have h1:=Lib.lt_pow_nDigits x;have h2:10^Lib.nDigits x<=10^18:=Nat.pow_le_pow_right (by omega) hx;rw [show (10:Nat)^18=1000000000000000000 by decide] at h2;omega
 have H1:Hid (∀ W,oW 203 #[.string (aE u)] W (.tuple #[.int .u64 u,.bool true])):=fun W=>O9_ u W (hb u hu) (by omega);have H2:Hid (∀ W,oW 203 #[.string (aE v)] W (.tuple #[.int .u64 v,.bool true])):=fun W=>O9_ v W (hb v hv) (by omega);have q1:decide (18<((aE u).size:Int))=false:=oR (by omega);have q2:decide (18<((aE v).size:Int))=false:=oR (by omega);clear hb
 go_enter func167,ntmps167
 go_wp2_with fail;refine (H1 _).mono ?_;rintro e w1 ⟨rfl,hE1⟩;have HE1:=n8 hE1;clear hE1 H1;go_wp2_with fail;refine (H2 _).mono ?_;rintro e w2 ⟨rfl,oY⟩;have HE2:=n8 (aC.trans HE1 oY);clear oY H2;go_wp2_with fail;go_ret3;exact ⟨rfl,HE2⟩
theorem A0_ (u v:Nat) (w:World) (h:18<(aE u).size\/18<(aE v).size) :
  oW 167 #[.string (aE u),.string (aE v)] w (.tuple #[.int .u64 0,.int .u64 0,.bool false]):=by
 by_cases h1:18<(aE u).size
 ·have q1:decide (18<((aE u).size:Int))=true:=oS (by omega);clear h
  go_enter func167,ntmps167
  go_wp2_with fail;go_ret3;exact ⟨rfl,aC.refl _⟩
 ·have h2:18<(aE v).size:=by omega
  have q1:decide (18<((aE u).size:Int))=false:=oR (by omega);have q2:decide (18<((aE v).size:Int))=true:=oS (by omega);clear h
  go_enter func167,ntmps167
  go_wp2_with fail;go_ret3;exact ⟨rfl,aC.refl _⟩
end Go.Proofs.YtjlkkofmojgipaaGreatDoor
namespace Go.Proofs.YtjlkkofmojgipaaGreatDoor
open Go.RowKit Go.Proofs.Tryz
theorem aP.store {S:Nat->Prop} {w w':World} (h:aP S w w') {g:Nat} (hg:S g) (i:Nat) (v:Value):aP S w (w'.setCell ⟨g,i,none⟩ v) :=
 h.trans (f_ (eJ w' g i v) (fun k hk=>by cases hk;exact hg))
structure iZ (p q:List Nat) (n i k c b:Nat) (L:List Nat):Prop where
 len:L.length=p.length
 pcs:aS L
 lt:c<1000000000
 le:b<=1
 low:L.take i=p.take i
 rest:L.drop (i+k)=p.drop (i+k)
 val:lv L+n*(pB i*lv (q.take k))=lv p+(c+b)*pB (i+k)
theorem iZ.start {p q:List Nat} {n i:Nat} (hp:aS p):iZ p q n i 0 0 0 p :=
 ⟨rfl,hp,by omega,by omega,rfl,rfl,by rw [List.take_zero,dL];simp⟩
theorem M7_ (L:List Nat) (a b:Nat) (h:b=a+1):L.drop b=(L.drop a).drop 1:=by rw [List.drop_drop,h]
theorem N6_ {L:List Nat} {i j x:Nat} (h:i<=j):(L.set j x).take i=L.take i:=List.take_set_of_le h
theorem iZ.step {p q L:List Nat} {n i k c b x y c' b' m:Nat} (h:iZ p q n i k c b L) (hx:L[i+k]?=some x) (hm:lv (q.take (k+1))=lv (q.take k)+pB k*m) (hc:c'=c+n*m) (hcl:c' / 1000000000<1000000000) (hy:y<1000000000) (hb:b'<=1)
  (he:y+c'%1000000000+b=x+b'*1000000000):iZ p q n i (k+1) (c' / 1000000000) b' (L.set (i+k) y):=by
 refine ⟨by rw [List.length_set];exact h.len,h.pcs.set _ _ hy,hcl,hb,by rw [N6_ (by omega)];exact h.low,?_,?_⟩
 ·rw [List.drop_set_of_lt (by omega),M7_ L (i+k) (i+(k+1)) (by omega),M7_ p (i+k) (i+(k+1)) (by omega),h.rest]
 ·have:=Z0P (P:=pB (i+k)) (P':=pB (i+k+1)) (p:=lv L) (q:=pB i*lv (q.take k)) (n:=n) (c:=c) (b:=b) (x:=x) (y:=y) (qk:=m) (old:=lv p) (er _) h.val c' b' (lv (L.set (i+k) y)) (pB i*lv (q.take (k+1))) hc he (nL y hx) (by rw [hm,lL];grind);exact this
theorem iZ.done {p q L:List Nat} {n i c b:Nat} (h:iZ p q n i (q.length+1) c b L) (hc:c=0):jG p q n i L b:=by
 subst hc;have hv:=h.val;rw [List.take_of_length_le (by omega),Nat.zero_add] at hv;exact ⟨h.len,h.pcs,h.low,by rw [show i+q.length+1=i+(q.length+1) by omega];exact h.rest,hv,h.le⟩
structure iU (p q:List Nat) (i k c:Nat) (L:List Nat):Prop where
 len:L.length=p.length
 pcs:aS L
 lt:c<=2
 low:L.take i=p.take i
 rest:L.drop (i+k)=p.drop (i+k)
 val:lv L+c*pB (i+k)=lv p+pB i*lv (q.take k)
theorem iU.start {p q:List Nat} {i:Nat} (hp:aS p):iU p q i 0 0 p :=
 ⟨rfl,hp,by omega,rfl,rfl,by rw [List.take_zero,dL];simp⟩
theorem iU.step {p q L:List Nat} {i k c x y c' m:Nat} (h:iU p q i k c L) (hx:L[i+k]?=some x) (hm:lv (q.take (k+1))=lv (q.take k)+pB k*m) (hm9:m<1000000000) (hc:c'=c+x+m) (hy:y=c'%1000000000) :
  iU p q i (k+1) (c' / 1000000000) (L.set (i+k) y):=by
 have hxb:=h.pcs.get hx;have hlt:=h.lt;refine ⟨by rw [List.length_set];exact h.len,h.pcs.set _ _ (by omega),by omega,by rw [N6_ (by omega)];exact h.low,?_,?_⟩
 ·rw [List.drop_set_of_lt (by omega),M7_ L (i+k) (i+(k+1)) (by omega),M7_ p (i+k) (i+(k+1)) (by omega),h.rest]
 ·have:=T0_ (P:=pB (i+k)) (P':=pB (i+k+1)) (c:=c) (x:=x) (y:=y) (ab:=m) (acc2:=pB i*lv (q.take (k+1))) (er _) h.val hc hy (nL y hx) (by rw [hm,lL];grind);exact this
theorem iU.done {p q L:List Nat} {i c:Nat} (h:iU p q i (q.length+1) c L):kh p q i L c:=by
 have hv:=h.val;rw [List.take_of_length_le (by omega)] at hv;exact ⟨h.len,h.pcs,h.low,by rw [show i+q.length+1=i+(q.length+1) by omega];exact h.rest,hv⟩
theorem H9_ (q:List Nat):lv (q.take (q.length+1))=lv (q.take q.length)+pB q.length*0:=by
 rw [List.take_of_length_le (by omega),List.take_length];simp
theorem c9_ (B:Nat) (p q:List Nat) (n i g cap:Nat) (v:Value) (w:World) (h:ae B w (.slice (some ⟨g,0,none⟩) p.length cap) p) (hq:∀ w',aP (·=g) w w'->dI w' v q) (hpp:aS p) (BX:aS q) (hn:n<1000000000) (hi:i+q.length<p.length) (tU:p.length<=20000000000) :
  Calls prog 173 #[.slice (some ⟨g,0,none⟩) p.length cap,v,.int .u64 n,.int .i64 i] w fun e w'=>∃ L b,e=.returned (.bool (decide (0<b)))/\ae B w' (.slice (some ⟨g,0,none⟩) p.length cap) L/\jG p q n i L b/\aP (·=g) w w':=by
 obtain ⟨a,ca,rfl,qV,sV,-⟩:=(hq w (aP.refl _ _)).open;have HQ:Hid (∀ w',aP (·=g) w w'->∀ (k:Nat) (x:Nat),q[k]?=some x->∃ b off,a=some ⟨b,off,none⟩/\w'.cell? ⟨b,off+k,none⟩=some (.int .u64 x)):=by
  intro w' hg k x hx;obtain ⟨a',ca',e,-,-,hc⟩:=(hq w' hg).open;simp only [Value.slice.injEq] at e;obtain ⟨rfl,-,rfl⟩:=e;obtain ⟨b,off,e,-,hcell⟩:=hc (by rintro rfl;simp at hx);exact ⟨b,off,e,hcell k x hx⟩
 have HO:=n8 h;have HQP:=n8 BX;have HK0:=n8 (iZ.start (q:=q) (n:=n) (i:=i) hpp);obtain ⟨n',AJ⟩:∃ n',n'=p.length:=⟨_,rfl⟩;rw [<- AJ] at HO hi tU |-;have HN:=n8 AJ;clear h hq hpp BX AJ
 go_enter func173,ntmps173
 go_wp2_with fail
 go_loopw [9,10,11] (fun bb c t wr=>∃ (k cc b:Nat) (L:List Nat),k<=q.length+1/\t=.int .i64 k/\c=.int .u64 cc/\bb=.int .i64 b/\cc<1000000000/\b<=1/\Hid (aP (·=g) w wr)/\Hid (ae B wr (.slice (some ⟨g,0,none⟩) n' cap) L)/\Hid (iZ p q n i k cc b L)/\Hid (k=q.length+1->cc=0)) (fun _ _ t _=>q.length+1-(intOf t).toNat)
 case atStart=>exact ⟨0,0,0,p,by omega,rfl,rfl,rfl,by omega,by omega,aP.refl _ _,HO,HK0,fun _=>rfl⟩
 case round =>
  obtain ⟨k,cc,b,L,hk,rfl,rfl,rfl,pd,hb,HG,HOL,HK,HZ⟩:=hrel;obtain ⟨wo,rfl⟩:∃ wo:World,wo=wr:=⟨_,rfl⟩;clear HO HK0;by_cases hlt:k<=q.length
  ·obtain ⟨x,hx⟩:∃ x,L[i+k]?=some x:=⟨_,n9 (by rw [HK.out.len,<- HN.out];omega)⟩;obtain ⟨g1,f1⟩:=HOL.get hx;have hxb:=HK.pcs.get hx;have HX:=n8 hx;have hik:i+k<n':=by omega
   clear hx;by_cases hkl:k<q.length
   ·obtain ⟨z,hz⟩:∃ z,q[k]?=some z:=⟨_,n9 hkl⟩;obtain ⟨bq,oq,rfl,g2⟩:=HQ wo HG k z hz;have hzb:=HQP.get hz;have hm:=q3_ hn hzb;obtain ⟨m,hmm⟩:∃ m,n*z=m:=⟨_,rfl⟩;rw [hmm] at hm;have xF:(n:Int)*(z:Int)=(m:Int):=by rw [<- hmm];exact (Int.natCast_mul _ _).symm
    obtain ⟨c',qj⟩:∃ c',c'=cc+m:=⟨_,rfl⟩;have Ef:(cc:Int)+(m:Int)=(c':Int):=by omega
    obtain ⟨r,hr⟩:∃ r,r=c'%1000000000:=⟨_,rfl⟩;obtain ⟨d,hd⟩:∃ d,d=c' / 1000000000:=⟨_,rfl⟩;have qD:(c':Int)%1000000000=(r:Int):=by omega
    have sH:(c':Int) / 1000000000=(d:Int):=by omega
    have ry:d<1000000000:=by omega
    have C9:c'<1000000000000000000:=by omega
    have AB:r<1000000000:=by omega
    have zP:¬ k+1=q.length+1:=by omega
    have HST:Hid (∀ y b',y<1000000000->b'<=1->y+r+b=x+b'*1000000000->iZ p q n i (k+1) d b' (L.set (i+k) y)):=fun y b' hy qx he=>by
     rw [hd];exact HK.step HX (jT hz) (by rw [qj,hmm]) (by omega) hy qx (by rw [<- hr];exact he)
    clear hz hmm qj hr hd;by_cases hneg:(x:Int)-(r:Int)-(b:Int)<0
    ·obtain ⟨y,hy⟩:∃ y:Nat,(x:Int)-(r:Int)-(b:Int)+1000000000=(y:Int):=⟨((x:Int)-(r:Int)-(b:Int)+1000000000).toNat,by omega⟩;have hyb:y<1000000000:=by omega
     have HS2:=n8 (HST y 1 hyb (by omega) (by omega));have HO2:=n8 (HOL.set (i+k) y);have HG2:=n8 (HG.store rfl (i+k) (.int .u64 y));go_wp2_with fail;go_roundw
     case rel=>exact ⟨k+1,d,1,_,by omega,by go_num,rfl,rfl,ry,by omega,HG2,HO2,HS2,fun e=>absurd e zP⟩
     case measure=>simp [intOf];omega
    ·obtain ⟨y,hy⟩:∃ y:Nat,(x:Int)-(r:Int)-(b:Int)=(y:Int):=⟨((x:Int)-(r:Int)-(b:Int)).toNat,by omega⟩;have hyb:y<1000000000:=by omega
     have HS2:=n8 (HST y 0 hyb (by omega) (by omega));have HO2:=n8 (HOL.set (i+k) y);have HG2:=n8 (HG.store rfl (i+k) (.int .u64 y));go_wp2_with fail;go_roundw
     case rel=>exact ⟨k+1,d,0,_,by omega,by go_num,rfl,rfl,ry,by omega,HG2,HO2,HS2,fun e=>absurd e zP⟩
     case measure=>simp [intOf];omega
   ·obtain rfl:q.length=k:=by omega
    have qD:(cc:Int)%1000000000=(cc:Int):=by omega
    have sH:(cc:Int) / 1000000000=0:=by omega
    have HST:Hid (∀ y b',y<1000000000->b'<=1->y+cc+b=x+b'*1000000000->iZ p q n i (q.length+1) 0 b' (L.set (i+q.length) y)):=fun y b' hy qx he=>by
     have:=HK.step HX (H9_ q) (c':=cc) (by simp) (by omega) hy qx (by rw [Nat.mod_eq_of_lt pd];exact he);rw [Nat.div_eq_of_lt pd] at this;exact this
    by_cases hneg:(x:Int)-(cc:Int)-(b:Int)<0
    ·obtain ⟨y,hy⟩:∃ y:Nat,(x:Int)-(cc:Int)-(b:Int)+1000000000=(y:Int):=⟨((x:Int)-(cc:Int)-(b:Int)+1000000000).toNat,by omega⟩;have hyb:y<1000000000:=by omega
     have HS2:=n8 (HST y 1 hyb (by omega) (by omega));have HO2:=n8 (HOL.set (i+q.length) y);have HG2:=n8 (HG.store rfl (i+q.length) (.int .u64 y));go_wp2_with fail;go_roundw
     case rel=>exact ⟨q.length+1,0,1,_,by omega,by go_num,rfl,rfl,by omega,by omega,HG2,HO2,HS2,fun _=>rfl⟩
     case measure=>simp [intOf]
    ·obtain ⟨y,hy⟩:∃ y:Nat,(x:Int)-(cc:Int)-(b:Int)=(y:Int):=⟨((x:Int)-(cc:Int)-(b:Int)).toNat,by omega⟩;have hyb:y<1000000000:=by omega
     have HS2:=n8 (HST y 0 hyb (by omega) (by omega));have HO2:=n8 (HOL.set (i+q.length) y);have HG2:=n8 (HG.store rfl (i+q.length) (.int .u64 y));go_wp2_with fail;go_roundw
     case rel=>exact ⟨q.length+1,0,0,_,by omega,by go_num,rfl,rfl,by omega,by omega,HG2,HO2,HS2,fun _=>rfl⟩
     case measure=>simp [intOf]
  ·have HK2:Hid (jG p q n i L b):=by
    obtain rfl:k=q.length+1:=by omega
    exact HK.done (HZ rfl)
   go_wp2_with fail;go_ret;exact ⟨L,b,by first | rfl | simp,HOL,HK2,HG⟩
theorem h9_ (B:Nat) (p q:List Nat) (i g cap:Nat) (v:Value) (w:World) (h:ae B w (.slice (some ⟨g,0,none⟩) p.length cap) p) (hq:∀ w',aP (·=g) w w'->dI w' v q) (hpp:aS p) (BX:aS q) (hi:i+q.length<p.length) (tU:p.length<=20000000000) :
  Calls prog 170 #[.slice (some ⟨g,0,none⟩) p.length cap,v,.int .i64 i] w fun e w'=>∃ L c,e=.returned (.tuple #[])/\ae B w' (.slice (some ⟨g,0,none⟩) p.length cap) L/\kh p q i L c/\aP (·=g) w w':=by
 obtain ⟨a,ca,rfl,qV,sV,-⟩:=(hq w (aP.refl _ _)).open;have HQ:Hid (∀ w',aP (·=g) w w'->∀ (k:Nat) (x:Nat),q[k]?=some x->∃ b off,a=some ⟨b,off,none⟩/\w'.cell? ⟨b,off+k,none⟩=some (.int .u64 x)):=by
  intro w' hg k x hx;obtain ⟨a',ca',e,-,-,hc⟩:=(hq w' hg).open;simp only [Value.slice.injEq] at e;obtain ⟨rfl,-,rfl⟩:=e;obtain ⟨b,off,e,-,hcell⟩:=hc (by rintro rfl;simp at hx);exact ⟨b,off,e,hcell k x hx⟩
 have HO:=n8 h;have HQP:=n8 BX;have HK0:=n8 (iU.start (q:=q) (i:=i) hpp);obtain ⟨n',AJ⟩:∃ n',n'=p.length:=⟨_,rfl⟩;rw [<- AJ] at HO hi tU |-;have HN:=n8 AJ;clear h hq hpp BX AJ
 go_enter func170,ntmps170
 go_wp2_with fail
 go_loopw [6,7] (fun c t wr=>∃ (k cc:Nat) (L:List Nat),k<=q.length+1/\t=.int .i64 k/\c=.int .u64 cc/\cc<=2/\Hid (aP (·=g) w wr)/\Hid (ae B wr (.slice (some ⟨g,0,none⟩) n' cap) L)/\Hid (iU p q i k cc L)) (fun _ t _=>q.length+1-(intOf t).toNat)
 case atStart=>exact ⟨0,0,p,by omega,rfl,rfl,by omega,aP.refl _ _,HO,HK0⟩
 case round =>
  obtain ⟨k,cc,L,hk,rfl,rfl,pd,HG,HOL,HK⟩:=hrel;obtain ⟨wo,rfl⟩:∃ wo:World,wo=wr:=⟨_,rfl⟩;clear HO HK0;by_cases hlt:k<=q.length
  ·obtain ⟨x,hx⟩:∃ x,L[i+k]?=some x:=⟨_,n9 (by rw [HK.out.len,<- HN.out];omega)⟩;obtain ⟨g1,f1⟩:=HOL.get hx;have hxb:=HK.pcs.get hx;have HX:=n8 hx;have hik:i+k<n':=by omega
   clear hx;by_cases hkl:k<q.length
   ·obtain ⟨z,hz⟩:∃ z,q[k]?=some z:=⟨_,n9 hkl⟩;obtain ⟨bq,oq,rfl,g2⟩:=HQ wo HG k z hz;have hzb:=HQP.get hz;obtain ⟨c',qj⟩:∃ c',c'=cc+x+z:=⟨_,rfl⟩;have Ef:(cc:Int)+(x:Int)+(z:Int)=(c':Int):=by omega
    obtain ⟨r,hr⟩:∃ r,r=c'%1000000000:=⟨_,rfl⟩;obtain ⟨d,hd⟩:∃ d,d=c' / 1000000000:=⟨_,rfl⟩;have qD:(c':Int)%1000000000=(r:Int):=by omega
    have sH:(c':Int) / 1000000000=(d:Int):=by omega
    have ry:d<=2:=by omega
    have HS2:Hid (iU p q i (k+1) d (L.set (i+k) r)):=by
     unfold Hid;rw [hd];exact HK.step HX (jT hz) hzb qj hr
    have HO2:=n8 (HOL.set (i+k) r);have HG2:=n8 (HG.store rfl (i+k) (.int .u64 r));clear hz qj hr hd;go_wp2_with fail;go_roundw
    case rel=>exact ⟨k+1,d,_,by omega,by go_num,rfl,ry,HG2,HO2,HS2⟩
    case measure=>simp [intOf];omega
   ·obtain rfl:q.length=k:=by omega
    obtain ⟨c',qj⟩:∃ c',c'=cc+x:=⟨_,rfl⟩;have Ef:(cc:Int)+(x:Int)=(c':Int):=by omega
    obtain ⟨r,hr⟩:∃ r,r=c'%1000000000:=⟨_,rfl⟩;obtain ⟨d,hd⟩:∃ d,d=c' / 1000000000:=⟨_,rfl⟩;have qD:(c':Int)%1000000000=(r:Int):=by omega
    have sH:(c':Int) / 1000000000=(d:Int):=by omega
    have ry:d<=2:=by omega
    have HS2:Hid (iU p q i (q.length+1) d (L.set (i+q.length) r)):=by
     unfold Hid;rw [hd];exact HK.step HX (H9_ q) (by omega) (by omega) hr
    have HO2:=n8 (HOL.set (i+q.length) r);have HG2:=n8 (HG.store rfl (i+q.length) (.int .u64 r));clear qj hr hd;go_wp2_with fail;go_roundw
    case rel=>exact ⟨q.length+1,d,_,by omega,by go_num,rfl,ry,HG2,HO2,HS2⟩
    case measure=>simp [intOf]
  ·have HK2:Hid (kh p q i L cc):=by
    obtain rfl:k=q.length+1:=by omega
    exact HK.done
   go_wp2_with fail;refine bodyPost_end (results_none rfl _ _ _) rfl ⟨L,cc,rfl,HOL,HK2,HG⟩
theorem aP.belowE {S:Nat->Prop} {w w':World} {B:Nat} (h:aP S w w') (hS:∀ k,S k->B<=k) (hB:B<=w.heap.size):Below B w w' :=
 ⟨h.os,h.tape,h.output,h.size,fun k hk=>h.block k (by omega) (fun hs=>by have:=hS k hs;omega)⟩
theorem ae.grownS {S:Nat->Prop} {B:Nat} {w w':World} {g n cap:Nat} {l:List Nat} (h:ae B w (.slice (some ⟨g,0,none⟩) n cap) l) (hg:aP S w w') (hS:¬ S g):ae B w' (.slice (some ⟨g,0,none⟩) n cap) l:=by
 refine ⟨h.1,?_⟩;rcases h.2 with ⟨e,_⟩ | ⟨g',cap',cur,e,hb,ru,rest⟩
 ·cases e
 ·simp only [Value.slice.injEq,Option.some.injEq,Addr.mk.injEq] at e;obtain ⟨⟨rfl,-,-⟩,-,rfl⟩:=e;exact .inr ⟨g,cap,cur,by rw [h.len],hb,(hg.block g (Array.getElem?_eq_some_iff.1 ru).1 hS).trans ru,rest⟩
structure ew (N n bv V k:Nat) (A O:List Nat):Prop where
 la:A.length=N
 pa:aS A
 lo:O.length=N-n
 po:aS O
 lt:lv (A.drop k)<bv
 val:lv A+bv*(pB k*lv (O.drop k))=V
theorem ew.start {A:List Nat} {N n bv V:Nat} (hA:aS A) (hl:A.length=N) (hn:n<=N) (qB:1<=n) (hz:A[N-1]?=some 0) (hb:pB (n-1)<=bv) (hV:lv A=V):ew N n bv V (N-n) A (List.replicate (N-n) 0):=by
 refine ⟨hl,hA,by simp,aS.zeros _,?_,?_⟩
 ·have h1:(A.drop (N-n))[n-1]?=some 0:=by rw [oT,show N-n+(n-1)=N-1 by omega];exact hz
  have hd:(A.drop (N-n)).drop (n-1+1)=[]:=List.drop_eq_nil_of_le (by rw [List.length_drop];omega);rw [gG (A.drop (N-n)) (n-1) (by rw [List.length_drop];omega),ek h1,hd,dL];simp only [Nat.mul_zero,Nat.add_zero];have:=eY ((hA.drop (N-n)).take (n-1));rw [oF,List.length_drop,Nat.min_eq_left (by omega)] at this;omega
 ·rw [List.drop_eq_nil_of_le (by simp),dL,Nat.mul_zero,Nat.mul_zero,Nat.add_zero,hV]
structure mX (W bv t s high a2:Nat):Prop where
 hb:∃ L bl,bv=(t*1000000000+s)*L+bl/\bl<L/\∃ wl,W=(high*1000000000+a2)*L+wl/\wl<L
 ht:0<t
 hs:s<1000000000
 ha2:a2<1000000000
 hbv:0<bv
 hW:W<1000000000*bv
theorem ew.knuth {A O b:List Nat} {N n m bv V j t s a0 a1 a2:Nat} (h:ew N n bv V (j+1) A O) (hb:ai b) (re:b.length=n) (Fb:n=m+2) (hbv:lv b=bv) (hj:j+n<N) (ht:b[m+1]?=some t) (hs:b[m]?=some s)
  (h0:A[j+n]?=some a0) (h1:A[j+n-1]?=some a1) (h2:A[j+n-2]?=some a2):mX (lv (A.drop j)) bv t s (a0*1000000000+a1) a2:=by
 subst Fb;have EN:t≠0:=hb.2 t (by rw [re];exact ht);have yg:bv<pB (m+2):=by rw [<- hbv,<- re];exact eY hb.1
 have hz:=s9_ h.lt yg;have e1:=Z5J re ht hs;have e2:=Z32 (A:=A) (m:=m) (i:=j) (a0:=a0) (a1:=a1) (a2:=a2) (by rw [<- h0];congr 1) (by rw [<- h1];congr 1) (by rw [<- h2];congr 1) (by rw [show j+m+3=j+(m+2)+1 by omega];exact hz);have l1:=eY (hb.1.take m);rw [oF,Nat.min_eq_left (by omega)] at l1;have l2:=eY ((h.pa.drop j).take m);rw [oF,List.length_drop,Nat.min_eq_left (by have:=h.la;omega)] at l2;have sw:0<bv:=by have:=h.lt;omega
 refine ⟨⟨pB m,_,hbv▸e1,l1,_,e2,l2⟩,by omega,hb.1.get hs,h.pa.get h2,sw,?_⟩;have hx:A[j]?=some (A[j]'(by have:=h.la;omega)):=n9 _;have hxb:=h.pa.get hx;rw [ek hx];have:=h.lt;omega
theorem ew.no {A O A' b:List Nat} {N n bv V j g:Nat} (h:ew N n bv V (j+1) A O) (hT:jG A b g j A' 0) (re:b.length=n) (hbv:lv b=bv) (hj:j+n<N) (hg:lv (A.drop j) / bv<=g) (qe:g<1000000000):ew N n bv V j A' (O.set j g):=by
 have sw:0<bv:=by have:=h.lt;omega
 obtain ⟨d1,d2⟩:=Z5R hT re hbv sw (by have:=h.la;omega) h.val hg;refine ⟨hT.len.trans h.la,hT.pcs,by rw [List.length_set];exact h.lo,h.po.set _ _ qe,d1,?_⟩;rw [ek (k:=j) (x:=g) (by rw [oV,if_pos rfl,if_pos (by rw [h.lo];omega)]),List.drop_set_of_lt (by omega)];exact d2
theorem ew.back {A O A' A'' b:List Nat} {N n bv V j g c:Nat} (h:ew N n bv V (j+1) A O) (hT:jG A b g j A' 1) (hB:kh A' b j A'' c) (re:b.length=n) (L4:aS b) (hbv:lv b=bv) (hj:j+n<N) (hg:g<=lv (A.drop j) / bv+1) (qe:g<1000000000):0<g/\ew N n bv V j A'' (O.set j (g-1)):=by
 have sw:0<bv:=by have:=h.lt;omega
 have yg:bv<pB n:=by rw [<- hbv,<- re];exact eY L4
 obtain ⟨d0,d1,d2⟩:=Z3o hT hB re hbv sw yg (by have:=h.la;omega) h.lt h.val hg;refine ⟨d0,hB.len.trans (hT.len.trans h.la),hB.pcs,by rw [List.length_set];exact h.lo,h.po.set _ _ (by omega),d1,?_⟩;rw [ek (k:=j) (x:=g-1) (by rw [oV,if_pos rfl,if_pos (by rw [h.lo];omega)]),List.drop_set_of_lt (by omega)];exact d2
theorem Z4E {A A' b:List Nat} {g i:Nat} (h:jG A b g i A' 1) (hi:i+b.length<A.length):0<g:=by
 false_or_by_contra
 rename_i hn;have hv:=h.val;rw [show g=0 by omega,Nat.zero_mul,Nat.add_zero,Nat.one_mul] at hv;have h1:=gG A' (i+b.length+1) (by rw [h.len];omega);have h2:=gG A (i+b.length+1) (by omega);have h3:=eY (h.pcs.take (i+b.length+1));rw [oF,h.len,Nat.min_eq_left (by omega)] at h3;rw [h.high] at h1;omega
structure jE (W bv t high g r:Nat):Prop where
 ge:W / bv<=g
 eq:g*t+r=high
theorem jE.start {W bv t s high a2:Nat} (h:mX W bv t s high a2):jE W bv t high (high / t) (high%t):=by
 obtain ⟨L,bl,e1,h1,wl,e2,h2⟩:=h.hb;refine ⟨Z3C e1 e2 h.ha2 h2 h.ht rfl,?_⟩;rw [Nat.mul_comm];exact Nat.div_add_mod _ _
theorem jE.less {W bv t s high a2 g r:Nat} (k:mX W bv t s high a2) (h:jE W bv t high g r) (hc:1000000000<=g\/r*1000000000+a2<g*s):jE W bv t high (g-1) (r+t)/\0<g:=by
 obtain ⟨L,bl,e1,h1,wl,e2,h2⟩:=k.hb;obtain ⟨d1,d2⟩:=Z06 e1 e2 h2 k.hbv k.hW h.ge h.eq hc;refine ⟨⟨d1,?_⟩,d2⟩;have:=h.eq;obtain ⟨g',rfl⟩:∃ g',g=g'+1:=⟨g-1,by omega⟩;rw [Nat.add_sub_cancel];rw [Nat.add_mul,Nat.one_mul] at this;omega
theorem jE.done {W bv t s high a2 g r:Nat} (k:mX W bv t s high a2) (h:jE W bv t high g r) (hg:g<1000000000) (hc:1000000000<=r\/g*s<=r*1000000000+a2):g<=W / bv+1:=by
 obtain ⟨L,bl,e1,h1,wl,e2,h2⟩:=k.hb;exact Z1H e1 e2 h1 k.ht k.hs h.eq hg hc
theorem Z4l (t:Nat):(1000000000:Int) / ((t:Int)+1)=((1000000000 / (t+1):Nat):Int):=by
 rw [Int.natCast_ediv,Int.natCast_add];rfl
theorem Z1t {t:Nat} (ht:t<1000000000):0<1000000000 / (t+1)/\1000000000 / (t+1)<=1000000000 :=
 ⟨Nat.div_pos (by omega) (by omega),Nat.div_le_self _ _⟩
theorem Z01 (p q:List Nat) (u v:Value) (w:World) (hu:dI w u p) (hv:dI w v q) (hp:ai p) (hq:ai q) (zI:2<=q.length) (BX:q.length<=p.length) (tU:p.length<=4000000000) :
  Calls prog 194 #[u,v] w fun e w'=>∃ r1 l1 r2 l2,e=.returned (.tuple #[r1,r2])/\Hid (ae w.heap.size w' r1 l1/\ai l1/\lv l1=lv p / lv q/\l1.length<=p.length+2)/\Hid (ae w.heap.size w' r2 l2/\ai l2/\lv l2=lv p%lv q/\l2.length<=p.length+2)/\aC w w':=by
 obtain ⟨a,ca,rfl,qV,sV,qX⟩:=hu.open;obtain ⟨b,cb,rfl,hlb,tG,hcv⟩:=hv.open;obtain ⟨bq,oq,rfl,hbq,C8⟩:=hcv (by rintro rfl;simp at zI);have HP:=n8 hp;have HQ:=n8 hq;have HU:=n8 hu;have HV:=n8 hv;obtain ⟨i0,hi,pH,hz1,hz2⟩:=info_parts jn;have HI:=n8 hi;have HZ0:=n8 pH;have HZ1:=n8 hz1;have HZ2:=n8 hz2;obtain ⟨t,ht⟩:∃ t,q[q.length-1]?=some t:=⟨_,n9 (by omega)⟩;have gt:=C8 _ t ht;have htb:=hq.1.get ht;have EN:0<t:=by have:=hq.2 t ht;omega
 have i1:(1:Int)<=(q.length:Int):=by omega
 have i2:1<=q.length:=by omega
 obtain ⟨f,hf⟩:∃ f,f=1000000000 / (t+1):=⟨_,rfl⟩;have sU:0<f:=by rw [hf];exact (Z1t htb).1
 have GG:f<1000000000:=by
  rw [hf];have:1000000000 / (t+1)<=1000000000 / 2:=Nat.div_le_div_left (by omega) (by omega);omega
 have Ed:(1000000000:Int) / ((t:Int)+1)=(f:Int):=by rw [hf];exact Z4l t
 have Ba:((t:Int)+1 == 0)=false:=by rw [beq_eq_false_iff_ne];omega
 have HS1:=n8 (C8_ p f _ w hu hp.1 GG sU (by omega));clear hi pH hz1 hz2 hu hv qX hcv hp hq C8 ht hf
 go_enter func194,ntmps194
 have HS2:Hid (∀ W,aC w W->Calls prog 212 #[.slice (some ⟨bq,oq,none⟩) q.length cb,.int .u64 f] W fun e w'=>∃ r l,e=.returned r/\Hid (ae W.heap.size w' r l/\ai l/\lv l=lv q*f/\l.length<=q.length+1)/\aC W w'):=fun W hE=>C8_ q f _ W (HV.ext hE) HQ.1 GG sU (by omega);go_wp2_with fail;refine HS1.mono ?_;rintro e w1 ⟨r1,l1,rfl,qU,hE1⟩;have HR1:=n8 qU.out;have HB1:=n8 qU.out.1.build;have HE1:=n8 hE1;have zy:w.heap.size<=w1.heap.size:=hE1.size;have HLL:Hid (l1.length<100000000000):=by have:=HR1.2.2.2;unfold Hid;omega
 clear qU hE1 HS1;go_wp2_with (at_builtin;go_must (refine Z0_ _ rfl _ _ 209 rfl w.heap.size 204 (.int .u64 0) 1 8 underlying209 jn rfl (by decide) r1 pcR l1 0 #[.int .u64 0] 204 rfl HB1 rfl rfl ?_ (fun _ _=>rfl) HLL (by decide) zy ?_))
 all_goals first | (simp [Value.oneCell'];done) | skip
 intro v2 w2 hB2 sS hb2 hs2 _;have HE2:Hid (aC w w2):=Below.trans HE1 hb2;have HB2:=n8 hB2;have hlt2:=HB2.lt;clear hB2 sS hb2 hs2 HB1 HLL;go_wp2_with fail;refine (HS2 _ HE2).mono ?_;rintro e w3 ⟨rb,lb,rfl,AB,oh⟩;have HRB:=n8 AB.out;have HE3:=n8 (aC.trans HE2 oh);have HB3:=n8 (aZ.ext HB2 oh);have Cv:lb≠[]:=by
  have h0:=HRB.2.1.zero;intro e;have e1:=h0.2 e;have e2:=HRB.2.2.1;rw [e1] at e2;have x7:0<lv q:=by
   have:=HQ.ge (by rintro rfl;simp at zI);have:=kS (q.length-1);omega
  have:=Nat.mul_pos x7 sU;omega
 obtain ⟨gb,cb',FO,Lm,Ll,F7,F6⟩:=iz HRB.1 (List.length_pos_iff.2 Cv);subst FO;unfold maxLen at F6;have HBL:Hid (2<=lb.length/\lb.length<=q.length+1):=by
  refine ⟨?_,HRB.2.2.2⟩;have h1:=ai.length_le HQ HRB.2.1 (by rw [HRB.out.2.2.1];exact Nat.le_mul_of_pos_right _ sU);omega
 have B7:Hid (b8 w3 v2.ownBlock fun W=>ae w2.heap.size W (.slice (some ⟨gb,0,none⟩) lb.length cb') lb):=by
  refine b8.owns HRB.1 (.inr ?_);intro e;have:=(hlt2 gb e.symm).2;omega
 obtain ⟨us,-,-,zK,-⟩:=id HB3;obtain ⟨g2,c2,pt,GA,Lo,C4,F9⟩:=iz zK (by rw [oU];simp);subst pt;have hg2w:=(hlt2 g2 rfl).2;have ve:(l1++[0]).length=l1.length+1:=by rw [oU];rfl
 rw [ve] at HB3 B7 C4 |-;have HLL:Hid (p.length<=l1.length/\l1.length<=p.length+1):=⟨ai.length_le HP HR1.2.1 (by rw [HR1.out.2.2.1];exact Nat.le_mul_of_pos_right _ sU),HR1.2.2.2⟩;obtain ⟨N,hN⟩:∃ N,N=l1.length+1:=⟨_,rfl⟩;rw [<- hN] at HB3 B7 C4 |-;have HN:=n8 hN;have hNp:p.length<N:=by have:=HLL.1;omega
 have MK:N<=p.length+2:=by have:=HLL.2;omega
 obtain ⟨n,hn⟩:∃ n,n=lb.length:=⟨_,rfl⟩;rw [<- hn] at B7 F7 |-;have HNB:=n8 hn;have qO:2<=n:=by have:=HBL.1;omega
 have I2:n<=N:=by have:=HBL.2;omega
 have HO3:=n8 (aZ.ownP HB3);clear zK us AB oh HS2 HB2 hlt2 Cv ve hN hn HBL HLL HB3 HE1 HE2;unfold maxLen at F9;go_wp2_with fail
 go_loopw [7] (fun av wr=>av=.slice (some ⟨g2,0,none⟩) N c2/\Hid (wr=w3)) (fun av _=>0)
 case atStart=>exact ⟨rfl,rfl⟩
 case round =>
  obtain ⟨rfl,HW⟩:=hrel;obtain rfl:=HW.out;have hlt:¬ N<=p.length:=by omega
  obtain ⟨M,hM⟩:∃ M,M=N-n:=⟨_,rfl⟩;have yH:(N:Int)-(n:Int)=(M:Int):=by omega
  have OC:M<=4000000002:=by omega
  have HM:=n8 hM;clear hM HW;obtain ⟨w3,rfl⟩:∃ w3:World,w3=wr:=⟨_,rfl⟩;go_wp2_with (at_make;refine wpList_make_full _ rfl _ _ 209 rfl w3.heap.size 204 i0 (.int .u64 0) 1 underlying209 HI HZ0 HZ1 _ _ _ _ M rfl rfl rfl rfl ?c1 ?c2 ?c3 ?_)
  case c1=>rw [HZ2.out];omega
  case c2=>unfold maxLen;omega
  case c3=>exact oJ _
  intro w4 hown oe;have hE4:=jm oe;have HOO:=n8 (ae.made hown);have HOA:=n8 (HO3.ext hE4);have HE4:=n8 (aC.trans HE3 hE4);have tZ:w3.heap.size<w4.heap.size:=(hown.lt w3.heap.size rfl).2;have sW:Hid (∀ w',aP (fun k=>k=g2\/k=w3.heap.size) w4 w'->ae w2.heap.size w' (.slice (some ⟨gb,0,none⟩) n cb') lb):=by
   intro w' hg;have h:=(HRB.1.ext hE4);rw [<- HNB.out] at h;exact h.grownS hg (by rintro (h1 | h1) <;> omega)
  have HD0:Hid (ew N n (lv lb) (lv p*f) M (l1++[0]) (List.replicate M 0)):=by
   unfold Hid;rw [HM.out];refine ew.start (HR1.2.1.1.append (aS.cons (by omega) aS.nil)) (by rw [oU,HN.out];rfl) I2 (by omega) ?_ ?_ ?_
   ·rw [HN.out];simp
   ·rw [HNB.out];exact HRB.2.1.ge (by rintro e;rw [e] at HNB;have:=HNB.out;simp at this;omega)
   ·rw [iv,HR1.out.2.2.1,eX,dL];simp
  clear hown oe hE4 HO3 B7;have Ln:w.heap.size<=g2:=GA;have Bb:n<=N:=I2;go_wp2_with fail
  go_loopw [11] (fun i wr=>∃ (y:Int) (A O:List Nat),i=.int .i64 y/\y<M/\-2<y/\Hid (aP (fun k=>k=g2\/k=w3.heap.size) w4 wr)/\Hid (ae w.heap.size wr (.slice (some ⟨g2,0,none⟩) N c2) A)/\Hid (ae w3.heap.size wr (.slice (some ⟨w3.heap.size,0,none⟩) M M) O)/\Hid (∃ k:Nat,y+1=k/\ew N n (lv lb) (lv p*f) k A O)) (fun i _=>(intOf i+1).toNat)
  case atStart=>exact ⟨_,_,_,rfl,by omega,by omega,aP.refl _ _,HOA,HOO,⟨M,by omega,HD0⟩⟩
  case round =>
   obtain ⟨y,A,O,rfl,rm,qg,HG,HA,HO,HD⟩:=hrel;obtain ⟨wo,rfl⟩:∃ wo:World,wo=wr:=⟨_,rfl⟩;clear HD0 HOO HOA;by_cases pR:0<=y
   ·obtain ⟨j,rfl⟩:∃ j:Nat,y=j:=⟨y.toNat,by omega⟩;have ql:Hid (ew N n (lv lb) (lv p*f) (j+1) A O):=by
     obtain ⟨k,e,h⟩:=HD.out;have:k=j+1:=by omega
     rw [this] at h;exact h
    have wI:j+n<N:=by have:=HM.out;omega
    obtain ⟨e0,GI⟩:∃ e0,e0=j+n:=⟨_,rfl⟩;obtain ⟨e1,GH⟩:∃ e1,e1=j+n-1:=⟨_,rfl⟩;obtain ⟨e2,Ee⟩:∃ e2,e2=j+n-2:=⟨_,rfl⟩;obtain ⟨b1,hb1⟩:∃ b1,b1=n-1:=⟨_,rfl⟩;obtain ⟨b2,hb2⟩:∃ b2,b2=n-2:=⟨_,rfl⟩;obtain ⟨a0,xS⟩:∃ a0,A[e0]?=some a0:=⟨_,n9 (by rw [ql.out.la];omega)⟩;obtain ⟨a1,sL⟩:∃ a1,A[e1]?=some a1:=⟨_,n9 (by rw [ql.out.la];omega)⟩;obtain ⟨a2,ha2⟩:∃ a2,A[e2]?=some a2:=⟨_,n9 (by rw [ql.out.la];omega)⟩;obtain ⟨tt,xz⟩:∃ tt,lb[b1]?=some tt:=⟨_,n9 (by have:=HNB.out;omega)⟩;obtain ⟨ss,qn⟩:∃ ss,lb[b2]?=some ss:=⟨_,n9 (by have:=HNB.out;omega)⟩;obtain ⟨z,hz⟩:∃ z,O[j]?=some z:=⟨_,n9 (by rw [ql.out.lo];omega)⟩;have HKN:Hid (mX (lv (A.drop j)) (lv lb) tt ss (a0*1000000000+a1) a2):=ql.knuth (m:=b2) HRB.2.1 HNB.symm (by omega) rfl wI (by rw [show b2+1=b1 by omega];exact xz) qn (by rw [<- GI];exact xS) (by rw [<- GH];exact sL) (by rw [<- Ee];exact ha2);have c0:=(HA.get xS).1;have c1:=(HA.get sL).1;have c2':=(HA.get ha2).1;have hbq:=sW _ HG;have ct:=(hbq.get xz).1;have cs:=(hbq.get qn).1;have wJ:(j:Int)+(n:Int)=(e0:Int):=by omega
    have sR:(e0:Int)-1=(e1:Int):=by omega
    have hi2:(e0:Int)-2=(e2:Int):=by omega
    have Lj:(n:Int)-1=(b1:Int):=by omega
    have Nt:(n:Int)-2=(b2:Int):=by omega
    have rR:e0<N:=by omega
    have rq:e1<N:=by omega
    have hk2:e2<N:=by omega
    have Fw:b1<n:=by omega
    have Nq:b2<n:=by omega
    have hp0:=ql.pa.get xS;have hp1:=ql.pa.get sL;have hp2:=ql.pa.get ha2;have hpt:=HRB.2.1.1.get xz;have hps:=HRB.2.1.1.get qn;have htt0:=HKN.ht;obtain ⟨hg,I9⟩:∃ hg,hg=a0*1000000000+a1:=⟨_,rfl⟩;rw [<- I9] at HKN;have Nu:(a0:Int)*1000000000+(a1:Int)=(hg:Int):=by omega
    have Nv:hg<1000000000000000000:=by omega
    have HGS:=n8 (jE.start HKN);obtain ⟨gg,ru⟩:∃ gg,gg=hg / tt:=⟨_,rfl⟩;obtain ⟨rr,qN⟩:∃ rr,rr=hg%tt:=⟨_,rfl⟩;rw [<- ru,<- qN] at HGS;have C2:(hg:Int) / (tt:Int)=(gg:Int):=by rw [ru];exact (Int.natCast_ediv _ _).symm
    have qD:(hg:Int)%(tt:Int)=(rr:Int):=by rw [qN];exact (Int.natCast_emod _ _).symm
    have C3:gg<=hg:=by rw [ru];exact Nat.div_le_self _ _
    have FI:rr<tt:=by rw [qN];exact Nat.mod_lt _ htt0
    have Na:((tt:Int) == 0)=false:=by rw [beq_eq_false_iff_ne];omega
    have K8:¬ (tt:Int)=0:=by omega
    have HZ:=n8 hz;have OU:Hid (e0=j+n/\e2=j+n-2/\b2=n-2):=⟨GI,Ee,hb2⟩;clear xS sL ha2 xz qn hbq GI GH Ee hb1 hb2 I9 ru qN hz;go_wp2_with fail
    go_quiet (fail)
    go_wp2_with fail
    go_quiet (fail)
    go_wp2_with fail;have HGB:Hid (∀ W,aP (fun k=>k=g2\/k=w3.heap.size) w4 W->dI W (.slice (some ⟨gb,0,none⟩) n cb') lb):=by
     intro W hW;have:=(sW W hW).at;exact this
    go_loopw [13,14] (fun gv rv wr=>∃ g r:Nat,gv=.int .u64 g/\rv=.int .u64 r/\g<=hg/\r<=hg/\Hid (jE (lv (A.drop j)) (lv lb) tt hg g r)/\Hid (aC wo wr)) (fun gv _ _=>(intOf gv).toNat)
    case atStart=>exact ⟨gg,rr,rfl,by rw [qD],C3,by have:=HGS.eq;omega,HGS,by first | exact aC.drewN _ _ | exact aC.draws (aC.drewN _ _) _⟩
    case round =>
     obtain ⟨g,r,rfl,rfl,Nw,Ng,IA,HEq⟩:=hrel;obtain ⟨wq,rfl⟩:∃ wq:World,wq=wr:=⟨_,rfl⟩;have d2:=HEq.cell c2';have dt:=HEq.cell ct;have ds:=HEq.cell cs;clear HGS C2 qD C3 FI c0 c1 c2' ct cs;obtain ⟨x1,pq⟩:∃ x1,x1=g*ss:=⟨_,rfl⟩;have CS:(g:Int)*(ss:Int)=(x1:Int):=by rw [pq];exact (Int.natCast_mul _ _).symm
     obtain ⟨x2,rQ⟩:∃ x2,x2=r*1000000000+a2:=⟨_,rfl⟩;have CQ:(r:Int)*1000000000+(a2:Int)=(x2:Int):=by omega
     have HX1:Hid (g<1000000000->x1<1000000000000000000):=by
      intro h;have:=Nat.mul_le_mul (show g<=999999999 by omega) (show ss<=999999999 by omega);omega
     by_cases tZ:1000000000<=g\/(r<1000000000/\x2<x1)
     ·have HL:=n8 (IA.less HKN (by rw [<- pq,<- rQ];omega));have yC:0<g:=HL.2;obtain ⟨g',yc⟩:∃ g',g'=g-1:=⟨_,rfl⟩;have GB:(g:Int)-1=(g':Int):=by omega
      have GC:g'<g:=by omega
      have HL2:Hid (jE (lv (A.drop j)) (lv lb) tt hg g' (r+tt)):=by unfold Hid;rw [yc];exact HL.1
      have BV:r+tt<=hg:=by
       have:=HL2.eq;omega
      clear HL yc;have hcs:1000000000<=g\/(g<1000000000/\r<1000000000/\x2<x1):=by omega
      clear tZ pq rQ;rcases hcs with hb1 | ⟨hb1,hb2,hb3⟩
      ·have q1:decide ((1000000000:Int)<=(g:Int))=true:=oS (by omega);have q2:decide (1000000000<=g)=true:=oS hb1;clear CS CQ;go_wp2_with fail
       go_quiet (fail)
       go_wp2_with fail;go_roundw
       case rel=>exact ⟨g',r+tt,rfl,by first | rfl | go_num,by omega,BV,HL2,aC.draws HEq _⟩
       case measure=>simp [intOf];omega
      ·have q1:decide ((1000000000:Int)<=(g:Int))=false:=oR (by omega);have q2:decide (1000000000<=g)=false:=oR (by omega);have q3:decide ((r:Int)<(1000000000:Int))=true:=oS (by omega);have q4:decide (r<1000000000)=true:=oS hb2;have q5:decide (x2<x1)=true:=oS hb3;have hx1b:=HX1 hb1;go_wp2_with fail
       go_quiet (fail)
       go_wp2_with fail;go_roundw
       case rel=>exact ⟨g',r+tt,rfl,by first | rfl | go_num,by omega,BV,HL2,aC.draws HEq _⟩
       case measure=>simp [intOf];omega
     ·have hcs:(g<1000000000/\1000000000<=r)\/(g<1000000000/\r<1000000000/\x1<=x2):=by omega
      have qe:g<1000000000:=by omega
      have HGE:=n8 IA.ge;have HLE:Hid (g<=lv (A.drop j) / lv lb+1):=IA.done HKN qe (by rw [<- pq,<- rQ];omega);have hx1b:=HX1 qe;have hjl:j+lb.length<A.length:=by rw [ql.out.la,<- HNB.out];exact wI
      have HTK:Hid (∀ W,aC wo W->Calls prog 173 #[.slice (some ⟨g2,0,none⟩) N c2,.slice (some ⟨gb,0,none⟩) n cb',.int .u64 g,.int .i64 j] W fun e w'=>∃ L b,e=.returned (.bool (decide (0<b)))/\ae w.heap.size w' (.slice (some ⟨g2,0,none⟩) N c2) L/\jG A lb g j L b/\aP (·=g2) W w'):=by
       intro W hW;have:=c9_ w.heap.size A lb g j g2 c2 (.slice (some ⟨gb,0,none⟩) n cb') W (by rw [ql.out.la];exact HA.ext hW) (fun w' hg=>HGB w' ((HG.trans (hW.grownS _)).trans (hg.weak fun k _ hk=>.inl hk))) ql.pa HRB.2.1.1 qe hjl (by rw [ql.out.la];omega);rw [ql.out.la] at this;exact this
      have HBK:Hid (∀ W A',A'.length=N->aS A'->ae w.heap.size W (.slice (some ⟨g2,0,none⟩) N c2) A'->aP (fun k=>k=g2\/k=w3.heap.size) w4 W->Calls prog 170 #[.slice (some ⟨g2,0,none⟩) N c2,.slice (some ⟨gb,0,none⟩) n cb',.int .i64 j] W fun e w'=>∃ L c,e=.returned (.tuple #[])/\ae w.heap.size w' (.slice (some ⟨g2,0,none⟩) N c2) L/\kh A' lb j L c/\aP (·=g2) W w'):=by
       intro W A' hl rF ho hW;have:=h9_ w.heap.size A' lb j g2 c2 (.slice (some ⟨gb,0,none⟩) n cb') W (by rw [hl];exact ho) (fun w' hg=>HGB w' (hW.trans (hg.weak fun k _ hk=>.inl hk))) rF HRB.2.1.1 (by rw [hl,<- HNB.out];exact wI) (by rw [hl];omega);rw [hl] at this;exact this
      clear tZ pq rQ hjl;rcases hcs with ⟨hb1,hb2⟩ | ⟨hb1,hb2,hb3⟩
      case' inl =>
       have q1:decide ((1000000000:Int)<=(g:Int))=false:=oR (by omega);have q2:decide (1000000000<=g)=false:=oR (by omega);have q3:decide ((r:Int)<(1000000000:Int))=false:=oR (by omega);have q4:decide (r<1000000000)=false:=oR (by omega);have q5:True:=trivial
      case' inr =>
       have q1:decide ((1000000000:Int)<=(g:Int))=false:=oR (by omega);have q2:decide (1000000000<=g)=false:=oR (by omega);have q3:decide ((r:Int)<(1000000000:Int))=true:=oS (by omega);have q4:decide (r<1000000000)=true:=oS (by omega);have q5:decide (x2<x1)=false:=oR (by omega)
      all_goals
       go_wp2_with fail
       go_quiet (fail)
       go_wp2_with fail;refine (HTK _ (aC.draws HEq _)).mono ?_;rintro e w6 ⟨A',bo,rfl,I0,hT,qW⟩;have HT:=n8 hT;have HG6:=n8 ((HG.trans ((aC.draws HEq _).grownS _)).trans (qW.weak fun k _ hk=>Or.inl hk));have Cq:¬ w3.heap.size=g2:=by omega
       have xB:¬ g2=w3.heap.size:=by omega
       have HO6:=n8 ((HO.ext (aC.draws HEq _)).grownS qW Cq);have HA6:=n8 I0;have HBO:Hid (bo<=1):=hT.le;clear I0 hT qW HTK d2 dt ds q1 q2 q3 q4 q5 CS CQ
       match bo,HBO with
       | 0,_ =>
        have HD6:=n8 (ql.no HT HNB.symm rfl wI HGE qe);obtain ⟨cz,fz⟩:=HO6.get HZ;have HO7:=n8 (HO6.set j g);have HA7:=n8 (HA6.grownS ((aP.refl (·=w3.heap.size) w6).store rfl j (.int .u64 g)) xB);have HG7:=n8 (HG6.store (.inr rfl) j (.int .u64 g));have HD7:Hid (∃ k:Nat,((j:Int)-1)+1=k/\ew N n (lv lb) (lv p*f) k A' (O.set j g)):=⟨j,by omega,HD6⟩;clear HBK HD6 HO6 HA6 HG6 HBO;go_wp2_with fail;go_roundw
        case rel=>exact ⟨_,A',O.set j g,rfl,by omega,by omega,HG7,HA7,HO7,HD7⟩
        case measure=>simp [intOf]
       | 1,_ =>
        have yC:0<g:=Z4E HT (by rw [ql.out.la,<- HNB.out];exact wI);obtain ⟨g',yc⟩:∃ g',g'=g-1:=⟨_,rfl⟩;have GB:(g:Int)-1=(g':Int):=by omega
        have GC:g'<1000000000:=by omega
        have HGP:=n8 yc;have HBB:=n8 (HBK _ A' (HT.len.trans ql.la) HT.pcs HA6 HG6);clear yc HBK HBO;go_wp2_with fail;refine HBB.mono ?_;rintro e w7 ⟨A'',co,rfl,Cm,hB,Be⟩;have HD6:=n8 (ql.back HT hB HNB.symm HRB.2.1.1 rfl wI HLE qe).2;rw [<- HGP.out] at HD6;have HG7:=n8 (HG6.trans (Be.weak fun k _ hk=>Or.inl hk));have HO7:=n8 (HO6.grownS Be Cq);have HA7:=n8 Cm;clear hB Cm Be HBB HO6 HA6 HG6;obtain ⟨cz,fz⟩:=HO7.get HZ;have HO8:=n8 (HO7.set j g');have HA8:=n8 (HA7.grownS ((aP.refl (·=w3.heap.size) w7).store rfl j (.int .u64 g')) xB);have HG8:=n8 (HG7.store (.inr rfl) j (.int .u64 g'));have HD7:Hid (∃ k:Nat,((j:Int)-1)+1=k/\ew N n (lv lb) (lv p*f) k A'' (O.set j g')):=⟨j,by omega,HD6⟩;clear HD6 HO7 HA7 HG7;go_wp2_with fail;go_roundw
        case rel=>exact ⟨_,A'',O.set j g',rfl,by omega,by omega,HG8,HA8,HO8,HD7⟩
        case measure=>simp [intOf]
       | bo+2,h=>exact absurd h.out (by omega)
   ·have BM:Hid (ew N n (lv lb) (lv p*f) 0 A O):=by
     obtain ⟨k,e,h⟩:=HD.out;have:k=0:=by omega
     rw [this] at h;exact h
    have HTA:=n8 (kf w.heap.size A _ wo HA BM.pa);have HEW:Hid (aC w wo):=Below.trans HE4 (HG.belowE (B:=w.heap.size) (by rintro k (hk | hk) <;> omega) HE4.size);have hv:=BM.val;have hl:=BM.lt;rw [List.drop_zero,mG,Nat.one_mul] at hv;rw [List.drop_zero] at hl;have x7:0<lv q:=by
     have:=HQ.ge (by rintro rfl;simp at zI);have:=kS (q.length-1);omega
    have HEND:=n8 (Z5c rfl HRB.2.2.1 x7 sU hv hl);clear hv hl;go_wp2_with fail;refine HTA.mono ?_;rintro e w5 ⟨ra,la,rfl,It,kk,rfl⟩;have HRA:=n8 It.out;have HSM:=n8 (o2_ la f ra _ HRA.1.at HRA.2.1.1 GG sU (by have:=HRA.2.2.2;rw [BM.out.la] at this;omega));clear It HTA;go_wp2_with fail;refine HSM.mono ?_;rintro e w6 ⟨rs,ls,rfl,qo,og⟩;have HRS:=n8 qo.out;have HE6:=n8 (aC.trans (aC.draws HEW kk) og);have HO6:=n8 (HO.ext (aC.trans (aC.drewN wo kk) og));have HTO:=n8 (kf w3.heap.size O _ w6 HO6 BM.po);clear qo HSM;go_wp2_with fail;refine HTO.mono ?_;rintro e w7 ⟨rt,lt',rfl,BV,k7,rfl⟩;have HRT:=n8 BV.out;clear BV HTO;go_wp2_with fail;go_ret2;refine ⟨rt,lt',rs,ls,rfl,⟨HRT.1.base (by omega),HRT.2.1,HRT.2.2.1.trans HEND.1,?_⟩,⟨((HRS.1.base ?_).ext (aC.drewN _ _)),HRS.2.1,?_,?_⟩,aC.draws HE6 _⟩
    ·have:=HRT.2.2.2;rw [BM.out.lo] at this;omega
    ·have:=HEW.size;simpa using this
    ·rw [HRS.out.2.2.1,HRA.out.2.2.1,HEND.out.2,Nat.mul_div_cancel _ sU]
    ·have:=HRS.2.2.2;have:=HRA.2.2.2;rw [BM.out.la] at this;omega
theorem Q1_ (k:Nat):(Builtin.zeroCells (Value.int .u64 0).cells k).toList=(List.replicate k (0:Nat)).map pcV:=by
 have e:(Value.int .u64 0).cells=#[Value.int .u64 0]:=rfl;rw [e];apply List.ext_getElem?;intro i;simp only [Builtin.zeroCells,oE,List.getElem?_replicate];by_cases h:i<k <;> simp [h,pcV,Nat.mod_one]
theorem J2_ {B:Nat} {w:World} (l:List Nat) (k old:Nat) (hb:B<=w.heap.size) (hm:l.length+k<=maxLen) (row:Option Nat) :
  ae B (w.drew.alloc (.cells ((l.map pcV).toArray++Builtin.zeroCells (Value.int .u64 0).cells k++Builtin.zeroCells (Value.int .u64 0).cells (grownCap w (l.length+k) old 204-(l.length+k))) 204))
   (.slice (some ⟨w.heap.size,0,none⟩) (l.length+k) (grownCap w (l.length+k) old 204)) (l++List.replicate k 0) /\
  w.grownBy (w.drew.alloc (.cells ((l.map pcV).toArray++Builtin.zeroCells (Value.int .u64 0).cells k++Builtin.zeroCells (Value.int .u64 0).cells (grownCap w (l.length+k) old 204-(l.length+k))) 204)) row:=by
 have hge:=grownCap_ge w (l.length+k) old 204;have hcm:=grownCap_le_maxLen w (l.length+k) old 204 hm;refine ⟨⟨by simp,.inr ⟨w.heap.size,_,_,by simp,hb,heap_alloc_new w.drew _,by simpa using hge,hcm,?_,?_⟩⟩,((aC.drew w).trans (aC.alloc _ _)).grown row⟩
 ·simp only [Array.size_append,List.size_toArray,size_zeroCells,List.length_map];show l.length+k*1+_*1=_*1;omega
 ·simp only [Array.toList_append,Q1_];have:(l++List.replicate k 0).length*1=(l.map pcV++(List.replicate k 0).map pcV).length:=by simp
  rw [this,List.map_append];exact List.take_left
theorem Z5_ {P:Program} (w:World) (B:Nat) (t tn ty:TypeId) (i:TypeInfo) (kn:IntKind) (ht:P.underlying t=some (.slice 204)) (CV:P.underlying tn=some (.int kn)) (hi:P.info? 204=some i) (hz:i.zero=some (.int .u64 0)) (hs:i.size=1) (hby:i.bytes=8)
  (v:Value) (l:List Nat) (h:ae B w v l) (k:Nat) (hl:l.length<=100000000000) (hk:k<=100000000000) (hb:B<=w.heap.size) :
  ∃ v' w',(Builtin.append_ #[t,tn] ty #[v,.int .i64 k]).run P w=.ok v' w'/\ae B w' v' (l++List.replicate k 0)/\w.grownBy w' v.ownBlock/\(v'.ownBlock=v.ownBlock\/v'.ownBlock=some w.heap.size):=by
 have hw:IntKind.i64.wrap (k:Int)=k:=by rw [IntKind.wrap_i64];omega
 have hneg:¬ ((k:Int)<0):=by omega
 have Ig:IntKind.i64.wrap 0=0:=by rw [IntKind.wrap_i64];rfl
 have G6:¬ (281474976710656<(k:Int)*8):=by omega
 rcases h.2 with ⟨rfl,hn⟩ | ⟨g,cap,cur,rfl,JO,hg,EX,hcm,hcs,zA⟩
 ·have hx:l=[]:=List.length_eq_zero_iff.1 hn;subst hx;by_cases rR:k=0
  ·subst rR;refine ⟨.slice none 0 0,w,?_,ae.nil B w,World.grownBy.refl _ _,.inl rfl⟩;simp [Builtin.append_,run_underlying ht,run_underlying CV,sizeOf,typeInfo,hi,asInt,asIntOf,Ig,hs,hby]
  ·have hr:=Lib.run_append_nil_zeros (P:=P) w t tn ty 204 i (.int .u64 0) .i64 kn ht CV hi hz k (by omega) (by omega) (by omega) (by rw [hby];omega);have hgr:=J2_ (B:=B) (w:=w) [] k 0 hb (by simp [maxLen];omega) (Value.ownBlock (.slice none 0 0));simp only [List.length_nil,Nat.zero_add,List.map_nil,List.nil_append,Array.empty_append] at hgr;exact ⟨_,_,hr,hgr.1,hgr.2,.inr rfl⟩
 ·rw [Nat.mul_one] at hcs zA;by_cases wg:l.length+k<=cap
  ·have hst:=run_storeCells_at P g l.length 204 ((List.replicate k (0:Nat)).map pcV) 0 cur w hg (by simp;omega) (by intro u hu;simp [pcV] at hu;rw [hu.2];rfl);simp only [Nat.add_zero] at hst;have hr:(Builtin.append_ #[t,tn] ty #[.slice (some ⟨g,0,none⟩) l.length cap,.int .i64 k]).run P w=.ok (.slice (some ⟨g,0,none⟩) (l.length+k) cap) (w.setRow g (cur.toList.take l.length++(List.replicate k (0:Nat)).map pcV++cur.toList.drop (l.length+((List.replicate k (0:Nat)).map pcV).length)).toArray):=by
    by_cases rR:k=0
    ·subst rR;simp [Builtin.append_,run_underlying ht,run_underlying CV,sizeOf,typeInfo,hi,asInt,asIntOf,Ig,hs,hby,wg,Addr.add_lit];simp at hst;have:l.length<=cap:=by omega
     simp [hst,this]
    ·have hzz:(Builtin.zeroCells (Value.int .u64 0).cells k).toList=(List.replicate k (0:Nat)).map pcV:=Q1_ k;simp [Builtin.append_,run_underlying ht,run_underlying CV,sizeOf,typeInfo,zeroValue,hi,hz,asInt,asIntOf,hw,hs,hby,wg,Addr.add_lit,hneg,G6,rR];rw [hzz];simp at hst;simp [hst]
   refine ⟨_,_,hr,⟨by simp,.inr ⟨g,cap,_,by simp,JO,setRow_heap w g cur _ 204 _ hg,by simpa using wg,hcm,?_,?_⟩⟩,⟨rfl,rfl,rfl,by simp,fun k hk _=>setRow_other w g k _ (fun e=>by simp_all [Value.ownBlock])⟩,.inl rfl⟩
   ·simp only [List.size_toArray,oU,oF,List.length_drop,Array.length_toList,List.length_map,List.length_replicate];omega
   ·rw [zA,Nat.mul_one];have:(l++List.replicate k 0).length=(l.map pcV++(List.replicate k 0).map pcV).length:=by simp
    rw [this,List.map_append];exact List.take_left
  ·have hold:(Builtin.firstCells i.size l.length (.slice (some ⟨g,0,none⟩) l.length cap)).run P w.drew=.ok (l.map pcV).toArray w.drew:=by
    refine run_firstCells_some (P:=P) w.drew i.size l.length ⟨g,0,none⟩ l.length cap (l.map pcV) (by simp [hs]) ?_;intro j u hu;have:=World.ownsRow.cells h (g:=g) rfl j u hu;simpa using this
   have hr:=Lib.run_append_grow_zeros (P:=P) w t tn ty 204 i (.int .u64 0) .i64 kn ht CV hi hz (some ⟨g,0,none⟩) l.length cap (l.map pcV) hold k (by omega) (by omega) (by omega) (by omega) (by rw [hby];omega) (growslice_fits (by omega) (by rw [hby];omega));have hgr:=J2_ (B:=B) (w:=w) l k cap hb (by simp [maxLen];omega) (Value.ownBlock (.slice (some ⟨g,0,none⟩) l.length cap));exact ⟨_,_,hr,hgr.1,hgr.2,.inr rfl⟩
theorem S7_ (u:Nat):1<=(aE u).size:=by rw [dz];exact Lib.nDigits_pos u
theorem ix (u k:Nat) (h:u<10^k) (hk:1<=k):(aE u).size<=k:=by rw [dz];exact lH u k h hk
theorem mE (u:Nat):((aE u).toList == [48])=decide (u=0):=by
 rw [jV,show ([48]:List UInt8)=Lib.decDigits 0 by rw [Lib.decDigits_one (by omega)];rfl,T6_]
theorem Z4_ (u v:Nat) (w:World) (hu:(aE u).size<=10000000000) (hv:(aE v).size<=10000000000) :
  Calls prog 121 #[.string (aE u),.string (aE v)] w fun e w'=>e=.returned (.int .i64 (bj u v))/\w=w':=by
 have s1:=dz u;have s2:=dz v;by_cases hl:(aE u).size=(aE v).size
 ·have ya:(((aE u).size:Int) != ((aE v).size:Int))=false:=by simp [hl]
  have q1:Op.bytesLess (aE u).toList (aE v).toList=decide (u<v):=by rw [jV,jV];exact e4_ u v (by omega)
  have q2:Op.bytesLess (aE v).toList (aE u).toList=decide (v<u):=by rw [jV,jV];exact e4_ v u (by omega)
  have q3:((aE u).toList == (aE v).toList)=decide (u=v):=by rw [jV,jV];exact T6_ u v
  have HC:Hid (bj u v=if u<v then -1 else if u=v then 0 else 1):=rfl;clear s1 s2 hl;rcases Nat.lt_trichotomy u v with h | h | h
  ·rw [oS h] at q1;rw [if_pos h] at HC;rw [HC.out];clear q2 q3 HC h
   go_enter func121,ntmps121
   go_wp2_with fail;go_ret;exact ⟨rfl,rfl⟩
  ·have hn:¬ u<v:=by omega
   rw [oR hn] at q1;rw [oS h] at q3;rw [if_neg hn,if_pos h] at HC;rw [HC.out];clear q2 HC h hn
   go_enter func121,ntmps121
   go_wp2_with fail;go_ret;exact ⟨rfl,rfl⟩
  ·have hn:¬ u<v:=by omega
   have qO:¬ u=v:=by omega
   rw [oR hn] at q1;rw [oR qO] at q3;rw [if_neg hn,if_neg qO] at HC;rw [HC.out];clear q2 HC h hn qO
   go_enter func121,ntmps121
   go_wp2_with fail;go_ret;exact ⟨rfl,rfl⟩
 ·have ya:(((aE u).size:Int) != ((aE v).size:Int))=true:=by simp;omega
  rcases Nat.lt_or_gt_of_ne hl with h | h
  ·have HC:Hid (bj u v=-1):=by
    unfold Hid bj;rw [if_pos (P5_ (by omega))]
   rw [HC.out];clear HC hl
   go_enter func121,ntmps121
   go_wp2_with fail;go_ret;exact ⟨(show Ending.returned (.int .i64 (min 1 (max (-1) ((Lib.nDigits u:Int)-(Lib.nDigits v:Int)))))=_ from Z2G (by omega)),rfl⟩
  ·have HC:Hid (bj u v=1):=by
    have:=P5_ (u:=v) (v:=u) (by omega);unfold Hid bj;rw [if_neg (by omega),if_neg (by omega)]
   rw [HC.out];clear HC hl
   go_enter func121,ntmps121
   go_wp2_with fail;go_ret;exact ⟨(show Ending.returned (.int .i64 (min 1 (max (-1) ((Lib.nDigits u:Int)-(Lib.nDigits v:Int)))))=_ from Z2G (by omega)),rfl⟩
theorem X8_ {w:World} {ops:Array Oper} {rest:List Oper} {o:Oper} {a:Act} {Q:Exit->Act->World->Prop} (pf:o.guard=none)
  (s x:Operand) (ho:o.op=Op.call { callee:=Callee.builtin Builtin.append,args:=#[s,x],argTypes:=#[209,209] }) (B:Nat)
  (v:Value) (l:List Nat) (y:Nat) (C:Array Value) (hs:a.eval s=v) (hO:ae B w v l)
  (hx:a.eval x=.slice (some ⟨w.heap.size,0,none⟩) 1 1) (hC:C=#[pcV y]) (hlen:l.length<100000000000) (ow:B<=w.heap.size)
  (h:∀ v' w',ae B w' v' (l++[y])->w.grownBy w' v.ownBlock->(v'.ownBlock=v.ownBlock\/v'.ownBlock=some (w.heap.size+1))->wpList prog ops Q rest (a.put o.dst v') w') :
  wpList prog ops Q (o::rest) a (w.alloc (.cells C 204)):=by
 subst hC;obtain ⟨i,hi,hz,pD,hby⟩:=info_parts jn;have qE:∀ j,(⟨w.heap.size,0,none⟩:Addr).add j=⟨w.heap.size,j,none⟩:=by intro j;unfold Addr.add;split <;> simp_all
 refine wpList_plain pf fun K hK=>?_;refine jc (w.alloc (.cells #[pcV y] 204)) s x 209 ho B 204 i (.int .u64 0) 1 8 underlying209 hi hz pD hby rfl (by decide) v l.length (l.map pcV) hs (World.ownsRow.alloc hO _) ⟨w.heap.size,0,none⟩ 1 1 [pcV y] hx rfl ?_ (by intro u hu;simp at hu;rw [hu];rfl) ?_ ?_ ?_ ?_
 ·intro j q hq;rw [qE,World.cell?_alloc_new];simpa using hq
 ·unfold maxLen;omega
 ·omega
 ·simp;omega
 ·intro v' w' hown oe _ rN;refine hK _ _ (h v' w' ?_ (iI (World.grownBy_alloc w _ v.ownBlock) oe) ?_)
  ·unfold ae;rw [oU,List.map_append];exact hown
  ·simpa using rN
theorem ae.kept {B:Nat} {w w':World} {v:Value} {l:List Nat} {r:Option Nat} (h:ae B w v l) (hg:w.grownBy w' r) (hne:v.ownBlock=none\/v.ownBlock≠r):ae B w' v l:=World.ownsRow.kept h hg hne
theorem ae.lt {B:Nat} {w:World} {v:Value} {l:List Nat} (h:ae B w v l):∀ b,v.ownBlock=some b->B<=b/\b<w.heap.size:=World.ownsRow.lt h
theorem Z1Z (l:List Nat) (k:Nat):lv (l++List.replicate k 0)=lv l:=by rw [iv,y3_];simp
theorem aS.pad {l:List Nat} (h:aS l) (k:Nat):aS (l++List.replicate k 0):=h.append (aS.zeros k)
theorem Z3d {X Y L:List Nat} {c:Nat} (hB:kh X Y 0 L c) (hX:X.length=Y.length+1) (hx:lv X<pB Y.length) (hy:aS Y):lv L=lv X+lv Y:=by
 have hv:=hB.val;rw [mG,Nat.one_mul,Nat.zero_add,er] at hv;have h2:=eY hy;have hp:=kS Y.length;cases c with
 | zero=>omega
 | succ c =>
  exfalso;rw [Nat.succ_mul] at hv;omega
theorem Z30 {X Y L:List Nat} {b:Nat} (hT:jG X Y 1 0 L b) (hX:X.length=Y.length+1) (hle:lv Y<=lv X):lv L=lv X-lv Y/\b=0:=by
 have hv:=hT.val;rw [mG,Nat.one_mul,Nat.one_mul,Nat.zero_add] at hv;have h2:=eY hT.pcs;rw [hT.len,hX] at h2;have hb:=hT.le
 match b with
 | 0=>omega
 | 1=>omega
 | b+2=>omega
theorem jM (u:Nat) (w:World) (hs:(aE u).size<=6000000000) :
  Calls prog 169 #[.string (aE u)] w fun e w'=>∃ v l,e=.returned v/\Hid (ae w.heap.size w' v l/\ai l/\lv l=u/\l.length<=(aE u).size)/\aC w w':=by
 have:=Z59 (aE u) w (by rw [ep];exact gP u) (by omega);rw [ep,fx] at this;exact this
theorem iy {u:Nat} (h:(aE u).size<=18):u<1000000000000000000:=by
 rw [dz] at h;have h1:=Lib.lt_pow_nDigits u;have h2:10^Lib.nDigits u<=10^18:=Nat.pow_le_pow_right (by omega) h;rw [show (10:Nat)^18=1000000000000000000 by decide] at h2;omega
theorem a5_ (u v:Nat) (w:World) (hu:(aE u).size<=3000000000) (hv:(aE v).size<=3000000000) (ht:af w) :
  oW 123 #[.string (aE u),.string (aE v)] w (.string (aE (u*v))):=by
 have HT:=n8 ht;clear ht;by_cases hs:(aE u).size+(aE v).size<=18
 ·have hp1:=S7_ u;have hp2:=S7_ v;have HB:=n8 (M3_ u v w (by omega) (by omega));have hm:u*v<18446744073709551616:=by
   have h:=nS u v;have:=iy (u:=u*v) (by omega);omega
  obtain ⟨m,hmm⟩:∃ m,u*v=m:=⟨_,rfl⟩;rw [hmm] at hm |-;have xF:(u:Int)*(v:Int)=(m:Int):=by rw [<- hmm];exact (Int.natCast_mul _ _).symm
  have HO:Hid (∀ W,aC w W->oW 168 #[.int .u64 m] W (.string (aE m))):=fun W hW=>m_ m W hm (HT.ext hW);clear hmm hp1 hp2
  go_enter func123,ntmps123
  go_wp2_with fail;refine HB.mono ?_;rintro e w1 ⟨rfl,hE1⟩;have HE1:=n8 hE1;clear hE1 HB;go_wp2_with fail;refine (HO _ HE1).mono ?_;rintro e w2 ⟨rfl,oY⟩;have HE2:=n8 (aC.trans HE1 oY);clear oY HO;go_wp2_with fail;go_ret;exact ⟨rfl,HE2⟩
 ·have HC1:=n8 (jM u w (by omega));have rV:Hid (∀ W,Calls prog 169 #[.string (aE v)] W fun e w'=>∃ r l,e=.returned r/\Hid (ae W.heap.size w' r l/\ai l/\lv l=v/\l.length<=(aE v).size)/\aC W w'):=fun W=>jM v W (by omega)
  go_enter func123,ntmps123
  go_wp2_with fail;refine HC1.mono ?_;rintro e w1 ⟨v1,l1,rfl,h1,hE1⟩;have HL1:=n8 h1.out;have HE1:=n8 hE1;clear h1 hE1 HC1;go_wp2_with fail;refine (rV _).mono ?_;rintro e w2 ⟨v2,l2,rfl,h2,oY⟩;have HL2:=n8 h2.out;have HE2:=n8 (aC.trans HE1 oY);have HM:=n8 (n2_ l1 l2 v1 v2 w2 (dI.ext HL1.1.at oY) HL2.1.at HL1.2.1.1 HL2.2.1.1 (by have:=HL1.2.2.2;omega) (by have:=HL2.2.2.2;omega));clear h2 oY rV;go_wp2_with fail;refine HM.mono ?_;rintro e w3 ⟨v3,l3,rfl,h3,oh⟩;have HL3:=n8 h3.out;have HE3:=n8 (aC.trans HE2 oh);have HX:=mS l3 v3 w3 HL3.1.at HL3.2.1 (by have:=HL3.2.2.2;have:=HL1.2.2.2;have:=HL2.2.2.2;omega);rw [HL3.out.2.2.1,HL1.out.2.2.1,HL2.out.2.2.1] at HX;have HX:=n8 HX;clear h3 oh HM;go_wp2_with fail;refine HX.mono ?_;rintro e w4 ⟨rfl,hE4⟩;have HE4:=n8 (aC.trans HE3 hE4);clear hE4 HX;go_wp2_with fail;go_ret;exact ⟨rfl,HE4⟩
theorem E2_ (u v:Nat) (w:World) (hu:(aE u).size<=3000000000) (hv:(aE v).size<=3000000000) (ht:af w) :
  oW 120 #[.string (aE u),.string (aE v)] w (.string (aE (u+v))):=by
 have HT:=n8 ht;clear ht;by_cases hs:(aE u).size<=18/\(aE v).size<=18
 ·have HB:=n8 (M3_ u v w hs.1 hs.2);have h1:=iy hs.1;have h2:=iy hs.2;obtain ⟨m,hmm⟩:∃ m,u+v=m:=⟨_,rfl⟩;have hm:m<18446744073709551616:=by omega
  rw [hmm];have xF:(u:Int)+(v:Int)=(m:Int):=by omega
  have HO:Hid (∀ W,aC w W->oW 168 #[.int .u64 m] W (.string (aE m))):=fun W hW=>m_ m W hm (HT.ext hW);clear hmm
  go_enter func120,ntmps120
  go_wp2_with fail;refine HB.mono ?_;rintro e w1 ⟨rfl,hE1⟩;have HE1:=n8 hE1;clear hE1 HB;go_wp2_with fail;refine (HO _ HE1).mono ?_;rintro e w2 ⟨rfl,oY⟩;have HE2:=n8 (aC.trans HE1 oY);clear oY HO;go_wp2_with fail;go_ret;exact ⟨rfl,HE2⟩
 ·have HB:=n8 (A0_ u v w (by omega));have HC1:Hid (∀ W,Calls prog 169 #[.string (aE u)] W fun e w'=>∃ r l,e=.returned r/\Hid (ae W.heap.size w' r l/\ai l/\lv l=u/\l.length<=(aE u).size)/\aC W w'):=fun W=>jM u W (by omega);have rV:Hid (∀ W,Calls prog 169 #[.string (aE v)] W fun e w'=>∃ r l,e=.returned r/\Hid (ae W.heap.size w' r l/\ai l/\lv l=v/\l.length<=(aE v).size)/\aC W w'):=fun W=>jM v W (by omega);obtain ⟨i0,hi,pH,hz1,hz2⟩:=info_parts jn;have HI:=n8 hi;have HZ0:=n8 pH;have HZ1:=n8 hz1;have HZ2:=n8 hz2;clear hi pH hz1 hz2 hs
  go_enter func120,ntmps120
  go_wp2_with fail;refine HB.mono ?_;rintro e w0 ⟨rfl,vQ⟩;have HE0:=n8 vQ;clear vQ HB;go_wp2_with fail;refine (HC1 _).mono ?_;rintro e w1 ⟨v1,l1,rfl,h1,hE1⟩;have HL1:=n8 h1.out;have HE1:=n8 (aC.trans HE0 hE1);have hb1:w.heap.size<=w0.heap.size:=HE0.size;clear h1 hE1 HC1;go_wp2_with fail;refine (rV _).mono ?_;rintro e w2 ⟨v2,l2,rfl,h2,oY⟩;have HL2:=n8 h2.out;have HE2:=n8 (aC.trans HE1 oY);have hb2:w.heap.size<=w1.heap.size:=HE1.size;have xq:Hid (∀ b,v1.ownBlock=some b->v2.ownBlock≠some b):=fun b hb qx=>by
   have k1:=(HL1.1.lt b hb).2;have k2:=(HL2.1.lt b qx).1;omega
  have HO1:=n8 ((HL1.1.ext oY).base hb1);have HO2:=n8 (HL2.1.base hb2);obtain ⟨a1,c1,hv1,x9,pJ,-⟩:=HO1.form;obtain ⟨a2,c2,pt,ve,pT,-⟩:=HO2.form;have xI:l1.length<=3000000000:=by have:=HL1.2.2.2;omega
  have xH:l2.length<=3000000000:=by have:=HL2.2.2.2;omega
  clear h2 oY rV;have vW:w.heap.size<=w2.heap.size:=HE2.size;subst hv1;subst pt;have Dt:Hid (∃ lX lY vX vY:_,∃ aX cX aY cY,vX=Value.slice aX (List.length lX) cX/\vY=Value.slice aY (List.length lY) cY/\ae w.heap.size w2 vX lX/\ae w.heap.size w2 vY lY/\ai lX/\ai lY/\lY.length<=lX.length):=by
   by_cases h:l1.length<l2.length
   ·exact ⟨l2,l1,_,_,a2,c2,a1,c1,rfl,rfl,HO2,HO1,HL2.2.1,HL1.2.1,by omega⟩
   ·exact ⟨l1,l2,_,_,a1,c1,a2,c2,rfl,rfl,HO1,HO2,HL1.2.1,HL2.2.1,by omega⟩
  clear Dt;by_cases hlt:l1.length<l2.length
  case' pos =>
   obtain ⟨aX,rfl⟩:∃ a,a=a2:=⟨_,rfl⟩;obtain ⟨cX,rfl⟩:∃ a,a=c2:=⟨_,rfl⟩;obtain ⟨lX,rfl⟩:∃ a,a=l2:=⟨_,rfl⟩;obtain ⟨aY,rfl⟩:∃ a,a=a1:=⟨_,rfl⟩;obtain ⟨cY,rfl⟩:∃ a,a=c1:=⟨_,rfl⟩;obtain ⟨lY,rfl⟩:∃ a,a=l1:=⟨_,rfl⟩;have HX:=HO2;have HY:=HO1;have HCX:=n8 HL2.2.1;have HCY:=n8 HL1.2.1;have HN:Hid (∀ b,(Value.slice aX lX.length cX).ownBlock=some b->(Value.slice aY lY.length cY).ownBlock≠some b):=fun b hb qx=>xq b qx hb;have HV:Hid (lv lX+lv lY=u+v):=by unfold Hid;rw [HL1.out.2.2.1,HL2.out.2.2.1];omega
  case' neg =>
   obtain ⟨aX,rfl⟩:∃ a,a=a1:=⟨_,rfl⟩;obtain ⟨cX,rfl⟩:∃ a,a=c1:=⟨_,rfl⟩;obtain ⟨lX,rfl⟩:∃ a,a=l1:=⟨_,rfl⟩;obtain ⟨aY,rfl⟩:∃ a,a=a2:=⟨_,rfl⟩;obtain ⟨cY,rfl⟩:∃ a,a=c2:=⟨_,rfl⟩;obtain ⟨lY,rfl⟩:∃ a,a=l2:=⟨_,rfl⟩;have HX:=HO1;have HY:=HO2;have HCX:=n8 HL1.2.1;have HCY:=n8 HL2.2.1;have HN:Hid (∀ b,(Value.slice aX lX.length cX).ownBlock=some b->(Value.slice aY lY.length cY).ownBlock≠some b):=xq;have HV:Hid (lv lX+lv lY=u+v):=by unfold Hid;rw [HL1.out.2.2.1,HL2.out.2.2.1]
  all_goals
   have N8:lY.length<=lX.length:=by omega
   have Hx:Hid (lX.length<100000000000):=by unfold Hid;omega
   clear HL1 HL2 xq HO1 HO2;go_wp2_with (at_builtin;go_must (refine X8_ rfl _ _ rfl w.heap.size (.slice aX lX.length cX) lX 0 #[.int .u64 0] rfl HX rfl rfl Hx vW ?_));intro v3 w3 Aj qi yi;have HY3:=n8 (HY.kept qi (by cases hb:(Value.slice aY lY.length cY).ownBlock with | none=>exact .inl rfl | some b=>exact .inr fun e=>HN b e.symm hb));have HNN:Hid (∀ b,v3.ownBlock=some b->(Value.slice aY lY.length cY).ownBlock≠some b):=by
    intro b hb qx;rcases yi with h | h
    ·exact HN b (h▸hb) qx
    ·rw [h] at hb;have:=(HY.lt b qx).2;cases hb;omega
   have HE3:Hid (aC w w3):=Below.trans HE2 (c:=w3) ⟨qi.os,qi.tape,qi.output,qi.size,fun k hk=>qi.block k (by omega) fun e=>by have:=(HX.lt k e.symm).1;omega⟩;obtain ⟨a3,c3,yQ,yY,Eg,xO⟩:=Aj.form;obtain ⟨g3,rfl,AU,F8⟩:=xO (by simp);subst yQ;have HO3:=n8 Aj;have xK:(lX++[0]).length=lX.length+1:=by simp
   rw [xK] at HO3 HNN yY |-;clear Aj qi yi xO xK;obtain ⟨kz,zP⟩:∃ kz,kz=lX.length-lY.length:=⟨_,rfl⟩;have Fq:(lX.length:Int)-(lY.length:Int)=(kz:Int):=by omega
   obtain ⟨v4,w4,vG,Jk,sn,DG⟩:=Z5_ (P:=prog) w3 w.heap.size 209 3 209 i0 .i64 underlying209 underlying3 HI HZ0 HZ1 HZ2 (.slice aY lY.length cY) lY HY3 kz (by omega) (by omega) HE3.size;have HR4:=n8 vG;have Ff:¬ v4.ownBlock=some g3:=by
    intro e;rcases DG with h | h
    ·exact HNN g3 rfl (h▸e)
    ·rw [h] at e;cases e;omega
   have HO4:=n8 (HO3.kept sn (.inr (fun e=>HNN g3 rfl (by rw [<- e];rfl))));have HQ4:Hid (∀ W,aP (·=g3) w4 W->dI W v4 (lY++List.replicate kz 0)):=fun W hW =>
    (Jk.kept (r:=some g3) ⟨hW.os,hW.tape,hW.output,hW.size,fun k hk hne=>hW.block k hk (fun e=>hne (by rw [e]))⟩ (by cases hb:v4.ownBlock with | none=>exact .inl rfl | some b=>exact .inr (fun e=>Ff (by rw [hb,e])))).at
   have HE4:Hid (aC w w4):=Below.trans HE3 (c:=w4) ⟨sn.os,sn.tape,sn.output,sn.size,fun k hk=>sn.block k (by have:=HE3.size;omega) fun e=>by have:=(HY3.lt k e.symm).1;omega⟩;have hlq:(lY++List.replicate kz 0).length=lX.length:=by simp;omega
   have HBK:=h9_ w.heap.size (lX++[0]) (lY++List.replicate kz 0) 0 g3 c3 v4 w4 (by rw [oU];exact HO4) HQ4 (HCX.1.append (aS.cons (by omega) aS.nil)) (HCY.1.pad kz) (by rw [hlq];simp) (by simp;omega);have xJ:(lX++[0]).length=lX.length+1:=by simp
   rw [xJ] at HBK;clear xJ;have HBK:=n8 HBK;have HLQ:=n8 hlq;clear vG Jk sn DG zP hlq;go_wp2_with (at_builtin;go_must (refine Lib.wpList_append_run _ rfl _ _ 209 3 rfl (.slice aY lY.length cY) (.int .i64 kz) rfl rfl v4 w4 HR4 ?_));refine HBK.mono ?_;rintro e w5 ⟨L,c,rfl,Cn,hB,pc⟩;have HE5:Hid (aC w w5):=Below.trans HE4 (pc.belowE (B:=w.heap.size) (by rintro k rfl;exact AU) HE4.size);have Hi:Hid (lv L=u+v):=by
    have h:=Z3d hB (by rw [HLQ.out];simp) (by rw [iv,HLQ.out];have:=eY HCX.1;simpa [lv] using this) (HCY.1.pad kz);unfold Hid;rw [h,Z1Z,iv,eX,dL,<- HV.out];simp
   have HTR:=n8 (kf w.heap.size L _ w5 Cn hB.pcs);have HLL:Hid (L.length<=3000000001):=by unfold Hid;rw [hB.len];simp;omega
   clear Cn hB pc HBK HR4 HQ4 HO4 HO3;go_wp2_with fail;refine HTR.mono ?_;rintro e w6 ⟨v6,l6,rfl,h6,kk,rfl⟩;have H6:=n8 h6.out;have HX6:=mS l6 v6 _ H6.1.at H6.2.1 (by have:=H6.2.2.2;have:=HLL.out;omega);rw [H6.out.2.2.1,Hi.out] at HX6;have HX6:=n8 HX6;clear h6 HTR;go_wp2_with fail;refine HX6.mono ?_;rintro e w7 ⟨rfl,qS⟩;have HE7:=n8 (aC.trans (aC.draws HE5 kk) qS);clear qS HX6;go_wp2_with fail;go_ret;exact ⟨rfl,HE7⟩
theorem Q6_ (u v:Nat) (w:World) (hu:(aE u).size<=3000000000) (hv:(aE v).size<=3000000000) (hle:v<=u) (ht:af w) :
  oW 122 #[.string (aE u),.string (aE v)] w (.tuple #[.string (aE (u-v)),.int .i64 0]):=by
 have HT:=n8 ht;have HCM:=n8 (Z4_ u v w (by omega) (by omega));have hcm:¬ bj u v<0:=by unfold bj;rw [if_neg (by omega)];split <;> omega
 obtain ⟨cm,su⟩:∃ cm,cm=bj u v:=⟨_,rfl⟩;rw [<- su] at HCM hcm;clear ht su;by_cases hs:(aE u).size<=18/\(aE v).size<=18
 ·have HB:Hid (∀ W,oW 167 #[.string (aE u),.string (aE v)] W (.tuple #[.int .u64 u,.int .u64 v,.bool true])):=fun W=>M3_ u v W hs.1 hs.2;have h1:=iy hs.1;have h2:=iy hs.2;obtain ⟨m,hmm⟩:∃ m,u-v=m:=⟨_,rfl⟩;have hm:m<18446744073709551616:=by omega
  rw [hmm];have xF:(u:Int)-(v:Int)=(m:Int):=by omega
  have HO:Hid (∀ W,aC w W->oW 168 #[.int .u64 m] W (.string (aE m))):=fun W hW=>m_ m W hm (HT.ext hW);clear hmm
  go_enter func122,ntmps122
  go_wp2_with fail;refine HCM.mono ?_;rintro e w' ⟨rfl,rfl⟩;clear HCM;go_wp2_with fail;refine (HB _).mono ?_;rintro e w1 ⟨rfl,hE1⟩;have HE1:=n8 hE1;clear hE1 HB;go_wp2_with fail;refine (HO _ HE1).mono ?_;rintro e w2 ⟨rfl,oY⟩;have HE2:=n8 (aC.trans HE1 oY);clear oY HO;go_wp2_with fail;go_ret2;exact ⟨rfl,HE2⟩
 ·have HB:Hid (∀ W,oW 167 #[.string (aE u),.string (aE v)] W (.tuple #[.int .u64 0,.int .u64 0,.bool false])):=fun W=>A0_ u v W (by omega);have HC1:Hid (∀ W,Calls prog 169 #[.string (aE u)] W fun e w'=>∃ r l,e=.returned r/\Hid (ae W.heap.size w' r l/\ai l/\lv l=u/\l.length<=(aE u).size)/\aC W w'):=fun W=>jM u W (by omega);have rV:Hid (∀ W,Calls prog 169 #[.string (aE v)] W fun e w'=>∃ r l,e=.returned r/\Hid (ae W.heap.size w' r l/\ai l/\lv l=v/\l.length<=(aE v).size)/\aC W w'):=fun W=>jM v W (by omega);obtain ⟨i0,hi,pH,hz1,hz2⟩:=info_parts jn;have HI:=n8 hi;have HZ0:=n8 pH;have HZ1:=n8 hz1;have HZ2:=n8 hz2;clear hi pH hz1 hz2 hs
  go_enter func122,ntmps122
  go_wp2_with fail;refine HCM.mono ?_;rintro e w' ⟨rfl,rfl⟩;clear HCM;go_wp2_with fail;refine (HB _).mono ?_;rintro e w0 ⟨rfl,vQ⟩;have HE0:=n8 vQ;clear vQ HB;go_wp2_with fail;refine (HC1 _).mono ?_;rintro e w1 ⟨v1,l1,rfl,h1,hE1⟩;have HL1:=n8 h1.out;have HE1:=n8 (aC.trans HE0 hE1);have HX:=n8 (h1.out.1.base HE0.size);obtain ⟨a1,c1,hv1,x9,pJ,-⟩:=HX.form;have xI:l1.length<=3000000000:=by have:=HL1.2.2.2;omega
  have Hx:Hid (l1.length<100000000000):=by unfold Hid;omega
  have zy:w.heap.size<=w1.heap.size:=HE1.size;subst hv1;clear h1 hE1 HC1;go_wp2_with (at_builtin;go_must (refine X8_ rfl _ _ rfl w.heap.size (.slice a1 l1.length c1) l1 0 #[.int .u64 0] rfl HX rfl rfl Hx zy ?_));intro v3 w3 Aj qi yi;have HE3:Hid (aC w w3):=Below.trans HE1 (c:=w3) ⟨qi.os,qi.tape,qi.output,qi.size,fun k hk=>qi.block k (by omega) fun e=>by have:=(HX.lt k e.symm).1;omega⟩;obtain ⟨a3,c3,yQ,yY,Eg,xO⟩:=Aj.form;obtain ⟨g3,rfl,AU,F8⟩:=xO (by simp);subst yQ;have HO3:=n8 Aj;have xK:(l1++[0]).length=l1.length+1:=by simp
  rw [xK] at HO3 yY |-;clear Aj qi yi xO xK;go_wp2_with fail;refine (rV _).mono ?_;rintro e w4 ⟨v4,l4,rfl,h4,hE4⟩;have HL4:=n8 h4.out;have HE4:=n8 (aC.trans HE3 hE4);have Iq:w3.heap.size<=w4.heap.size:=hE4.size;have HO4:=n8 (HO3.ext hE4);clear h4 hE4 HO3;go_wp2_with fail;refine (rV _).mono ?_;rintro e w5 ⟨v5,l5,rfl,h5,ou⟩;have HL5:=n8 h5.out;have HE5:=n8 (aC.trans HE4 ou);have HO5:=n8 (HO4.ext ou);have HY5:=n8 (HL4.1.ext ou);have xG:l5.length=l4.length:=by
   have h1:=ai.length_le HL5.2.1 HL4.2.1 (by rw [HL5.out.2.2.1,HL4.out.2.2.1];exact oJ _);have h2:=ai.length_le HL4.2.1 HL5.2.1 (by rw [HL5.out.2.2.1,HL4.out.2.2.1];exact oJ _);omega
  have I5:l4.length<=l1.length:=ai.length_le HL4.2.1 HL1.2.1 (by rw [HL4.out.2.2.1,HL1.out.2.2.1];exact hle);obtain ⟨a4,c4,E7,Fp,N5,-⟩:=HY5.form;obtain ⟨a5,c5,EI,No,N4,-⟩:=HL5.1.form;subst E7;subst EI;have HNN:Hid (∀ b,(Value.slice a4 l4.length c4).ownBlock=some b->b≠g3):=fun b hb e=>by
   have:=(HL4.1.lt b hb).1;omega
  rw [xG];obtain ⟨kz,zP⟩:∃ kz,kz=l1.length-l4.length:=⟨_,rfl⟩;have Fq:(l1.length:Int)-(l4.length:Int)=(kz:Int):=by omega
  have FF:w.heap.size<=w5.heap.size:=HE5.size;have HY5':=n8 (HY5.base (B':=w.heap.size) (by have:=HE3.size;omega));obtain ⟨v6,w6,vF,tI,qW,DF⟩:=Z5_ (P:=prog) w5 w.heap.size 209 3 209 i0 .i64 underlying209 underlying3 HI HZ0 HZ1 HZ2 (.slice a4 l4.length c4) l4 HY5' kz (by omega) (by omega) FF;have HR6:=n8 vF;have Fe:¬ v6.ownBlock=some g3:=by
   intro e;rcases DF with h | h
   ·exact HNN g3 (h▸e) rfl
   ·rw [h] at e;cases e;have:=HE5.size;have h5:=(HO5.lt w5.heap.size rfl).2;omega
  have HO6:=n8 (HO5.kept qW (.inr (fun e=>HNN g3 e.symm rfl)));have KN:Hid (∀ W,aP (·=g3) w6 W->dI W v6 (l4++List.replicate kz 0)):=fun W hW =>
   (tI.kept (r:=some g3) ⟨hW.os,hW.tape,hW.output,hW.size,fun k hk hne=>hW.block k hk (fun e=>hne (by rw [e]))⟩ (by cases hb:v6.ownBlock with | none=>exact .inl rfl | some b=>exact .inr (fun e=>Fe (by rw [hb,e])))).at
  have HE6:Hid (aC w w6):=Below.trans HE5 (c:=w6) ⟨qW.os,qW.tape,qW.output,qW.size,fun k hk=>qW.block k (by omega) fun e=>by have:=(HY5'.lt k e.symm).1;omega⟩;have hlq:(l4++List.replicate kz 0).length=l1.length:=by simp;omega
  have HTK:=c9_ w.heap.size (l1++[0]) (l4++List.replicate kz 0) 1 0 g3 c3 v6 w6 (by rw [oU];exact HO6) KN (HL1.2.1.1.append (aS.cons (by omega) aS.nil)) (HL4.2.1.1.pad kz) (by omega) (by rw [hlq];simp) (by simp;omega);have xJ:(l1++[0]).length=l1.length+1:=by simp
  rw [xJ] at HTK;have HTK:=n8 HTK;have HLQ:=n8 hlq;clear vF tI qW DF zP hlq xJ xG h5 ou rV;go_wp2_with (at_builtin;go_must (refine Lib.wpList_append_run _ rfl _ _ 209 3 rfl (.slice a4 l4.length c4) (.int .i64 kz) rfl rfl v6 w6 HR6 ?_));refine HTK.mono ?_;rintro e w7 ⟨L,b,rfl,Cm,hT,Be⟩;have HE7:Hid (aC w w7):=Below.trans HE6 (Be.belowE (B:=w.heap.size) (by rintro k rfl;exact AU) HE6.size);have NH:Hid (lv L=u-v):=by
   have h:=(Z30 hT (by rw [HLQ.out];simp) (by rw [Z1Z,HL4.out.2.2.1,iv,HL1.out.2.2.1];omega)).1;unfold Hid;rw [h,Z1Z,iv,eX,dL,HL4.out.2.2.1,HL1.out.2.2.1];simp
  have HTR:=n8 (kf w.heap.size L _ w7 Cm hT.pcs);have HLL:Hid (L.length<=3000000001):=by unfold Hid;rw [hT.len];simp;omega
  clear Cm hT Be HTK HR6 KN HO6 HO5 HO4;go_wp2_with fail;refine HTR.mono ?_;rintro e w8 ⟨v8,l8,rfl,h8,kk,rfl⟩;have H8:=n8 h8.out;have HX8:=mS l8 v8 _ H8.1.at H8.2.1 (by have:=H8.2.2.2;have:=HLL.out;omega);rw [H8.out.2.2.1,NH.out] at HX8;have HX8:=n8 HX8;clear h8 HTR;go_wp2_with fail;refine HX8.mono ?_;rintro e w9 ⟨rfl,xX⟩;have HE9:=n8 (aC.trans (aC.draws HE7 kk) xX);clear xX HX8;go_wp2_with fail;go_ret2;exact ⟨rfl,HE9⟩
theorem t5_ (u v:Nat) (w:World) (hu:(aE u).size<=3000000000) (hv:(aE v).size<=3000000000) (sF:v≠0) (ht:af w) (hs:¬ ((aE u).size<=18/\(aE v).size<=18)) (hlt:u<v) :
  oW 147 #[.string (aE u),.string (aE v)] w (.tuple #[.string ⟨#[48]⟩,.string (aE u),.int .i64 0]):=by
 have HT:=n8 ht;have hz:=mE v;rw [oR sF] at hz;clear ht;have HB:=n8 (A0_ u v w (by omega));clear hs;have HC1:Hid (∀ W,Calls prog 169 #[.string (aE u)] W fun e w'=>∃ r l,e=.returned r/\Hid (ae W.heap.size w' r l/\ai l/\lv l=u/\l.length<=(aE u).size)/\aC W w'):=fun W=>jM u W (by omega);have rV:Hid (∀ W,Calls prog 169 #[.string (aE v)] W fun e w'=>∃ r l,e=.returned r/\Hid (ae W.heap.size w' r l/\ai l/\lv l=v/\l.length<=(aE v).size)/\aC W w'):=fun W=>jM v W (by omega)
 go_enter func147,ntmps147
 go_wp2_with fail;refine HB.mono ?_;rintro e w0 ⟨rfl,vQ⟩;have HE0:=n8 vQ;clear vQ HB;go_wp2_with fail;refine (HC1 _).mono ?_;rintro e w1 ⟨v1,l1,rfl,h1,hE1⟩;have HL1:=n8 h1.out;have HE1:=n8 (aC.trans HE0 hE1);clear h1 hE1 HC1;go_wp2_with fail;refine (rV _).mono ?_;rintro e w2 ⟨v2,l2,rfl,h2,oY⟩;have HL2:=n8 h2.out;have HE2:=n8 (aC.trans HE1 oY);have HP1:=n8 (dI.ext HL1.1.at oY);have HP2:=n8 HL2.1.at;have xI:l1.length<=3000000000:=by have:=HL1.2.2.2;omega
 have xH:l2.length<=3000000000:=by have:=HL2.2.2.2;omega
 have HC1':=n8 HL1.2.1;have HC2':=n8 HL2.2.1;have HV1:=n8 HL1.2.2.1;have HV2:=n8 HL2.2.2.1;obtain ⟨a1,c1,hv1,x9,pJ,-⟩:=HP1.open;obtain ⟨a2,c2,pt,ve,pT,pz⟩:=HP2.open;have sj:0<l2.length:=by
  refine List.length_pos_iff.2 fun e=>?_;have:=HC2'.zero.2 e;rw [HV2.out] at this;exact sF this
 obtain ⟨b2,o2,rfl,-,qY⟩:=pz (List.length_pos_iff.1 sj);have HCELL:=n8 qY;clear qY;subst hv1;subst pt;have hcmp:=N3_ l1 l2 _ _ w2 HP1 HP2 HC1' HC2' (by omega) (by omega);rw [HV1.out,HV2.out] at hcmp;have HCM:=n8 hcmp;clear hcmp;clear h2 oY rV pz;have hcm:bj u v<0:=by rw [kx hlt];omega
 obtain ⟨cm,su⟩:∃ cm,cm=bj u v:=⟨_,rfl⟩;rw [<- su] at HCM hcm;clear su;go_wp2_with fail;refine HCM.mono ?_;rintro e w3 ⟨rfl,oh⟩;have HE3:=n8 (aC.trans HE2 oh);clear oh HCM;go_wp2_with fail;go_ret3;exact ⟨rfl,HE3⟩
theorem t4_ (u v:Nat) (w:World) (hu:(aE u).size<=3000000000) (hv:(aE v).size<=3000000000) (sF:v≠0) (ht:af w) (hs:¬ ((aE u).size<=18/\(aE v).size<=18)) (hlt:¬ u<v) :
  oW 147 #[.string (aE u),.string (aE v)] w (.tuple #[.string (aE (u / v)),.string (aE (u%v)),.int .i64 0]):=by
 have HT:=n8 ht;have hz:=mE v;rw [oR sF] at hz;clear ht;have HB:=n8 (A0_ u v w (by omega));clear hs;have HC1:Hid (∀ W,Calls prog 169 #[.string (aE u)] W fun e w'=>∃ r l,e=.returned r/\Hid (ae W.heap.size w' r l/\ai l/\lv l=u/\l.length<=(aE u).size)/\aC W w'):=fun W=>jM u W (by omega);have rV:Hid (∀ W,Calls prog 169 #[.string (aE v)] W fun e w'=>∃ r l,e=.returned r/\Hid (ae W.heap.size w' r l/\ai l/\lv l=v/\l.length<=(aE v).size)/\aC W w'):=fun W=>jM v W (by omega)
 go_enter func147,ntmps147
 go_wp2_with fail;refine HB.mono ?_;rintro e w0 ⟨rfl,vQ⟩;have HE0:=n8 vQ;clear vQ HB;go_wp2_with fail;refine (HC1 _).mono ?_;rintro e w1 ⟨v1,l1,rfl,h1,hE1⟩;have HL1:=n8 h1.out;have HE1:=n8 (aC.trans HE0 hE1);clear h1 hE1 HC1;go_wp2_with fail;refine (rV _).mono ?_;rintro e w2 ⟨v2,l2,rfl,h2,oY⟩;have HL2:=n8 h2.out;have HE2:=n8 (aC.trans HE1 oY);have HP1:=n8 (dI.ext HL1.1.at oY);have HP2:=n8 HL2.1.at;have xI:l1.length<=3000000000:=by have:=HL1.2.2.2;omega
 have xH:l2.length<=3000000000:=by have:=HL2.2.2.2;omega
 have HC1':=n8 HL1.2.1;have HC2':=n8 HL2.2.1;have HV1:=n8 HL1.2.2.1;have HV2:=n8 HL2.2.2.1;obtain ⟨a1,c1,hv1,x9,pJ,-⟩:=HP1.open;obtain ⟨a2,c2,pt,ve,pT,pz⟩:=HP2.open;have sj:0<l2.length:=by
  refine List.length_pos_iff.2 fun e=>?_;have:=HC2'.zero.2 e;rw [HV2.out] at this;exact sF this
 obtain ⟨b2,o2,rfl,-,qY⟩:=pz (List.length_pos_iff.1 sj);have HCELL:=n8 qY;clear qY;subst hv1;subst pt;have hcmp:=N3_ l1 l2 _ _ w2 HP1 HP2 HC1' HC2' (by omega) (by omega);rw [HV1.out,HV2.out] at hcmp;have HCM:=n8 hcmp;clear hcmp;clear h2 oY rV pz;have hcm:¬ bj u v<0:=by unfold bj;rw [if_neg hlt];split <;> omega
 obtain ⟨cm,su⟩:∃ cm,cm=bj u v:=⟨_,rfl⟩;rw [<- su] at HCM hcm;clear su;have HLL:Hid (l2.length<=l1.length):=ai.length_le HC2' HC1' (by rw [HV1.out,HV2.out];omega);by_cases h1:l2.length=1
 ·obtain ⟨x,hx⟩:=List.length_eq_one_iff.1 h1;have Ib:x=v:=by have:=HV2.out;rw [hx,eX,dL] at this;omega
  rw [Ib] at hx;clear Ib;have g2:=HCELL 0 v (by rw [hx];rfl);have hxb:v<1000000000:=HC2'.1 v (by rw [hx];simp);have HSM:Hid (∀ W,aC w2 W->Calls prog 193 #[.slice a1 l1.length c1,.int .u64 v] W fun e w'=>∃ r l,e=.returned (.tuple #[r,.int .u64 ((u%v:Nat):Int)])/\Hid (ae W.heap.size w' r l/\ai l/\lv l=u / v/\l.length<=l1.length)/\aC W w'):=fun W hW=>by
   have:=o2_ l1 v _ W (dI.ext HP1 hW) HC1'.1 hxb (by omega) (by omega);rw [HV1.out] at this;exact this
  have yZ:0<l2.length:=sj;have NB:Hid (∀ W,aC w2 W->W.cell? ⟨b2,o2,none⟩=some (.int .u64 v)):=fun W hW=>hW.cell (by simpa using g2);obtain ⟨r,hr⟩:∃ r,r=u%v:=⟨_,rfl⟩;have EO:r<v:=by rw [hr];exact Nat.mod_lt _ (by omega)
  rw [<- hr] at HSM;have HRR:=n8 hr;have HRB:=n8 (show r<18446744073709551616 by omega);rw [h1] at HCM yZ ve |-;clear hx g2 hr h1 sj xH HLL;go_wp2_with fail;refine HCM.mono ?_;rintro e w3 ⟨rfl,oh⟩;have HE3:=n8 (aC.trans HE2 oh);have g3:=NB _ oh;have HSM3:=n8 (HSM _ oh);clear oh HCM HSM;go_wp2_with fail;refine HSM3.mono ?_;rintro e w4 ⟨v4,l4,rfl,h4,hE4⟩;have HL4:=n8 h4.out;have HE4:=n8 (aC.trans HE3 hE4);have HX4:=mS l4 v4 w4 HL4.1.at HL4.2.1 (by have:=HL4.2.2.2;omega);rw [HL4.out.2.2.1] at HX4;have HX4:=n8 HX4;have HOR:Hid (∀ W,aC w W->oW 168 #[.int .u64 r] W (.string (aE r))):=fun W hW=>m_ r W HRB (HT.ext hW);clear h4 hE4 HSM3 g3;go_wp2_with fail;refine HX4.mono ?_;rintro e w5 ⟨rfl,ou⟩;have HE5:=n8 (aC.trans HE4 ou);clear ou HX4;go_wp2_with fail;refine (HOR _ HE5).mono ?_;rintro e w6 ⟨rfl,og⟩;have HE6:=n8 (aC.trans HE5 og);clear og HOR;go_wp2_with fail;go_ret3;exact ⟨by rw [<- HRR.out];rfl,HE6⟩
 ·have J8:((l2.length:Int) == 1)=false:=by rw [beq_eq_false_iff_ne];omega
  have HQ2:=n8 (show 2<=l2.length by omega);clear h1;have qI:Hid (∀ W,aC w2 W->Calls prog 194 #[.slice a1 l1.length c1,.slice (some ⟨b2,o2,none⟩) l2.length c2] W fun e w'=>∃ r1 m1 r2 m2,e=.returned (.tuple #[r1,r2])/\Hid (ae W.heap.size w' r1 m1/\ai m1/\lv m1=u / v/\m1.length<=l1.length+2)/\Hid (ae W.heap.size w' r2 m2/\ai m2/\lv m2=u%v/\m2.length<=l1.length+2)/\aC W w'):=fun W hW=>by
   have:=Z01 l1 l2 _ _ W (dI.ext HP1 hW) (dI.ext HP2 hW) HC1' HC2' HQ2 HLL (by omega);rw [HV1.out,HV2.out] at this;exact this
  go_wp2_with fail;refine HCM.mono ?_;rintro e w3 ⟨rfl,oh⟩;have HE3:=n8 (aC.trans HE2 oh);have HD3:=n8 (qI _ oh);clear oh HCM qI;go_wp2_with fail;refine HD3.mono ?_;rintro e w4 ⟨q1,m1,q2,m2,rfl,h4,h5,hE4⟩;have HL4:=n8 h4.out;have HL5:=n8 h5.out;have HE4:=n8 (aC.trans HE3 hE4);have HX4:=mS m1 q1 w4 HL4.1.at HL4.2.1 (by have:=HL4.2.2.2;omega);rw [HL4.out.2.2.1] at HX4;have HX4:=n8 HX4;have HX5:Hid (∀ W,aC w4 W->oW 172 #[q2] W (.string (aE (u%v)))):=fun W hW=>by
   have:=mS m2 q2 W (dI.ext HL5.1.at hW) HL5.2.1 (by have:=HL5.2.2.2;omega);rw [HL5.out.2.2.1] at this;exact this
  clear h4 h5 hE4 HD3;go_wp2_with fail;refine HX4.mono ?_;rintro e w5 ⟨rfl,ou⟩;have HE5:=n8 (aC.trans HE4 ou);have HX55:=n8 (HX5 _ ou);clear ou HX4 HX5;go_wp2_with fail;refine HX55.mono ?_;rintro e w6 ⟨rfl,og⟩;have HE6:=n8 (aC.trans HE5 og);clear og HX55;go_wp2_with fail;go_ret3;exact ⟨rfl,HE6⟩
theorem T4_ (u v:Nat) (w:World) (hu:(aE u).size<=3000000000) (hv:(aE v).size<=3000000000) (sF:v≠0) (ht:af w) :
  oW 147 #[.string (aE u),.string (aE v)] w (.tuple #[.string (aE (u / v)),.string (aE (u%v)),.int .i64 0]):=by
 have HT:=n8 ht;have hz:=mE v;rw [oR sF] at hz;clear ht;by_cases hs:(aE u).size<=18/\(aE v).size<=18
 ·have HB:=n8 (M3_ u v w hs.1 hs.2);have h1:=iy hs.1;have h2:=iy hs.2;obtain ⟨q,hq⟩:∃ q,u / v=q:=⟨_,rfl⟩;obtain ⟨r,hr⟩:∃ r,u%v=r:=⟨_,rfl⟩;have FQ:q<=u:=by rw [<- hq];exact Nat.div_le_self _ _
  have AB:r<v:=by rw [<- hr];exact Nat.mod_lt _ (by omega)
  have ES:(u:Int) / (v:Int)=(q:Int):=by rw [<- hq];exact (Int.natCast_ediv _ _).symm
  have qD:(u:Int)%(v:Int)=(r:Int):=by rw [<- hr];exact (Int.natCast_emod _ _).symm
  have NZ:((v:Int) == 0)=false:=by rw [beq_eq_false_iff_ne];omega
  have K4:¬ (v:Int)=0:=by omega
  have HO:Hid (∀ x:Nat,x<18446744073709551616->∀ W,aC w W->oW 168 #[.int .u64 x] W (.string (aE x))):=fun x hx W hW=>m_ x W hx (HT.ext hW);have Nh:IntKind.u64.wrap (q:Int)=(q:Int):=IntWalk.u64_in _ (by omega);have Nf:IntKind.u64.wrap (r:Int)=(r:Int):=IntWalk.u64_in _ (by omega);have Ni:(u:Int).tdiv (v:Int)=(q:Int):=by rw [Int.tdiv_eq_ediv_of_nonneg (by omega),ES]
  have BV:(u:Int).tmod (v:Int)=(r:Int):=by rw [Int.tmod_eq_emod_of_nonneg (by omega),qD]
  rw [hq,hr];have KM:Hid (q<18446744073709551616/\r<18446744073709551616):=by unfold Hid;omega
  clear hq hr
  go_enter func147,ntmps147
  go_wp2_with fail;refine HB.mono ?_;rintro e w1 ⟨rfl,hE1⟩;have HE1:=n8 hE1;clear hE1 HB;go_wp2_with fail;have HOQ:Hid (∀ W,aC w W->oW 168 #[.int .u64 q] W (.string (aE q))):=HO q KM.1;have HOR:Hid (∀ W,aC w W->oW 168 #[.int .u64 r] W (.string (aE r))):=HO r KM.2;have HE:Hid (aC w w1.drew):=aC.trans HE1 (aC.drew _)
  go_region_with (first
   | (go_at_call 168;with_reducible refine (HOQ.out _ HE.out).mono ?_;rintro e w5 ⟨rfl,ou⟩;have HE2:=HE;clear HE;have HE:=n8 (aC.trans HE2.out ou);clear ou HE2)
   | (go_at_call 168;with_reducible refine (HOR.out _ HE.out).mono ?_;rintro e w5 ⟨rfl,ou⟩;have HE2:=HE;clear HE;have HE:=n8 (aC.trans HE2.out ou);clear ou HE2))
  all_goals
   go_wp2_with fail;go_ret3;exact ⟨rfl,HE⟩
 ·by_cases hlt:u<v
  ·have MN:aE 0=⟨#[48]⟩:=by unfold aE;rw [Lib.decDigits_one (by omega)];rfl
   refine (t5_ u v w hu hv sF HT hs hlt).mono fun e w' ⟨h,hE⟩=>⟨?_,hE⟩
   rw [h,Nat.div_eq_of_lt hlt,Nat.mod_eq_of_lt hlt,MN]
  ·exact t4_ u v w hu hv sF HT hs hlt
end Go.Proofs.YtjlkkofmojgipaaGreatDoor
