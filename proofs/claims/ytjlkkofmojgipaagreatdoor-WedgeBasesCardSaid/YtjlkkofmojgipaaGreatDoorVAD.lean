import Derived.Test.YtjlkkofmojgipaaGreatDoorVAC
import Derived.Test.YtjlkkofmojgipaaGreatDoorShelfA
import Derived.Lib.AppendIntMem
import Derived.BigCall
import Derived.BigGuard
import Derived.Lib.ParseIntBTie
import Derived.Lib.ParseIntBCases
import Derived.Lib.AppendZerosOnto
import Derived.WalkLawsBesides
import Derived.Deep.RegionWith
set_option linter.unusedVariables false
set_option linter.unusedSimpArgs false
set_option maxRecDepth 1000000
set_option maxHeartbeats 8000000
namespace Go.Proofs.YtjlkkofmojgipaaGreatDoor
open Go.RowKit Go.Shelf Go.Sort Go.Lib Go.Proofs.Tryz
def ae (w : World) : Prop := Lib.TabIs prog w "internal/strconv.uint64pow10" .u64 Lib.pow10Tab
theorem ae.ext {w w':World} (h:ae w) (he:aA w w'):ae w':=by
 unfold ae Lib.TabIs at h |-;cases hg : prog.globalNamed "internal/strconv.uint64pow10" with
 | none=>simp [World.var?,hg] at h
 | some g =>
  refine var?_below he hg ?_ h;by_cases hlt:g<w.heap.size;·exact hlt
  ·simp [World.var?,hg,Array.getElem?_eq_none (show w.heap.size<=g by omega)] at h
theorem Z5Z {a b:ByteArray} (h:a.data=b.data):Ending.returned (.string a)=.returned (.string b):=by
 cases a;cases b;simp only at h;rw [h]
theorem Z37 {k:IntKind} {a b:Int} (h:a=b):Ending.returned (.int k a)=.returned (.int k b):=by rw [h]
theorem Z1C {a b:ByteArray} (h:a.data.toList=b.data.toList):a=b:=by
 cases a;cases b;simp only at h;rw [ByteArray.mk.injEq];exact Array.toList_inj.1 h
theorem Z42 (w:World) (k:Nat) (os:Array Obj):aA w (grow (w.drewN k) os):=Lib.below_grow _ w (oK _) k os
theorem Z3X (w:World) (o:Obj) (dk:Array UInt8) (k:Nat):∃ os,(putRow (fun (b:UInt8)=>Value.int .u8 (b.toNat:Int)) (w.alloc o) w.heap.size 0 dk).drewN k=grow (w.drewN k) os:=by
 rw [alloc_eq_grow];obtain ⟨os',_,e⟩:=putRow_grow_new (fun (b:UInt8)=>Value.int .u8 (b.toNat:Int)) w #[o] w.heap.size 0 dk (oK _);exact ⟨os',by rw [e];rfl⟩
theorem M5_ (u:Nat) (w:World) (hu:u<18446744073709551616) (ht:ae w) :
  oX 219 #[.int .u64 u,.int .i64 10] w (.string (aE u)):=by
 have hN:aE u=⟨(Lib.decDigits u).toArray⟩:=rfl;by_cases hs:u<100
 ·have HS:Hid (∀ W,Calls prog 220 #[.int .i64 u] W fun e w'=>e=.returned (.string (aE u))/\w'=W):=fun W=>internal_strconv_small u hs W;clear hN
  go_enter func219,ntmps219
  go_wp2_with fail;refine q_ (HS _) ?_;go_wp2_with fail;go_ret;exact ⟨rfl,aA.refl _⟩
 ·have hu1:1<=u:=by omega
  have IP:Lib.nDigits u<=20:=by have:=Lib.numDigits_eq u hu1 hu;split at this <;> omega
  have pf:Lib.nDigits u<=24:=by omega
  have pT:prog.arrayLen 254=24:=by simp [Program.arrayLen,underlying254]
  have KN:∀ W,(Instr.sliceAt 254 (.pointer (some ⟨w.heap.size,0,none⟩)) none (some (.int .i64 (Lib.nDigits u:Int))) none).run prog W=.ok (.slice (some ⟨w.heap.size,0,none⟩) (Lib.nDigits u) 24) W:=fun W=>by
   rw [run_sliceAt_array_h W 254 ⟨w.heap.size,0,none⟩ (by simp [Program.arrayLen,Program.elem,underlying254]) .i64 (Lib.nDigits u:Int) (by omega) (by rw [pT];omega)];go_simp
  have hH0:=Lib.holds_zero0 w 254 (Lib.nDigits u) (by omega);have hfmt:=internal_strconv_formatBase10 w.heap.size 0 24 u (Array.replicate (Lib.nDigits u) 0) (w.alloc (.cells Lib.zeros24 254)) hH0 (by rw [Array.size_replicate];exact Lib.lt_pow_nDigits u) hu (by rw [Array.size_replicate];omega);rw [Array.size_replicate] at hfmt;have HH0:=oA hH0;have HT:=oA ht;have HN:Hid (∀ W,ae W->Calls prog 221 #[.int .u64 u] W fun e w'=>e=.returned (.int .i64 (Lib.nDigits u))/\w'=W):=fun W hW=>internal_strconv_numDigits u hu1 hu W hW;clear hH0 pT ht
  go_enter func219,ntmps219
  go_wp2_with fail;refine q_ (HN _ (HT.ext (aA.alloc _ _))) ?_;go_wp2_with fail;refine hfmt.mono ?_;rintro e w' ⟨rfl,k,v',dk,rfl,hF⟩;have hcv:(convert 241 9 (.slice (some ⟨w.heap.size,0,none⟩) (Lib.nDigits u) 24)).run prog ((putRow (fun (b:UInt8)=>Value.int .u8 (b.toNat:Int)) (w.alloc (.cells Lib.zeros24 254)) w.heap.size 0 dk).drewN k)=.ok (.string (aE u)) ((putRow (fun (b:UInt8)=>Value.int .u8 (b.toNat:Int)) (w.alloc (.cells Lib.zeros24 254)) w.heap.size 0 dk).drewN k):=by
   have h:=run_convert_bytes_back (P:=prog) ((putRow (fun (b:UInt8)=>Value.int .u8 (b.toNat:Int)) (w.alloc (.cells Lib.zeros24 254)) w.heap.size 0 dk).drewN k) 241 9 5 ⟨w.heap.size,0,none⟩ 24 (Lib.decDigits u) underlying241 underlying5 underlying9 (fun j hj=>by
    rw [Lib.row_is_numeral hF j hj,Lib.add_plain,World.cell?_drewN]
    exact cell?_putRow (fun (b:UInt8)=>Value.int .u8 (b.toNat:Int)) _ w.heap.size 0 _ dk HH0 (by rw [hF.size,Array.size_replicate]) j (by rw [hF.size];rw [Lib.decDigits_length] at hj;exact hj))
   rw [Lib.decDigits_length] at h;exact h
  clear hN HT HN hfmt;go_wp2_with fail;go_ret;obtain ⟨os,eo⟩:=Z3X w (.cells zeros24 254) dk k;exact ⟨rfl,by rw [eo];exact Z42 w k os⟩
theorem F0_ (u:Nat) (w:World) (hu:u<18446744073709551616) (ht:ae w) :
  oX 204 #[.int .u64 u,.int .i64 10] w (.string (aE u)):=by
 have HF:=oA (M5_ u w hu ht);clear ht
 go_enter func204,ntmps204
 go_wp2_with fail;refine o_ HF ?_;intro w1 HE;clear HF;go_wp2_with fail;go_ret;exact ⟨rfl,HE⟩
theorem nA (u:Nat) (w:World) (hu:u<18446744073709551616) (ht:ae w) :
  oX 168 #[.int .u64 u] w (.string (aE u)):=by
 have HF:=oA (F0_ u w hu ht);clear ht
 go_enter func168,ntmps168
 go_wp2_with fail;refine o_ HF ?_;intro w1 HE;clear HF;go_wp2_with fail;go_ret;exact ⟨rfl,HE⟩
theorem w6_ (u:Nat) (hu:u<18446744073709551616):Lib.parseUintB 64 (aE u).data.toList=.ok u:=by
 have h:=nk (Lib.decDigits u) 0 (gL u) (by rw [fy];exact hu);rw [fy] at h;rw [fM];have hne:Lib.decDigits u≠[]:=by
  have:=Lib.nDigits_pos u;rw [<- Lib.decDigits_length] at this;exact List.length_pos_iff.1 this
 unfold Lib.parseUintB;rw [if_neg hne,show (2^64-1:Nat)=18446744073709551615 by decide,Lib.parseUintM_64,h]
theorem N1_ (u:Nat) (w:World) (hu:u<18446744073709551616) (hs:(aE u).size<=100000000000) :
  oX 203 #[.string (aE u)] w (.tuple #[.int .u64 u,.bool true]):=by
 have HP:Hid (oX 218 #[.string (aE u),.int .i64 10,.int .i64 64] w (.tuple #[.int .u64 u,.nilIface])) :=
  (strconv_ParseUint_10_at64_ok (aE u) (by omega) u (w6_ u hu) w).mono fun e w' ⟨h1,h2⟩=>⟨h1,by
   rcases h2 with rfl | rfl;·exact aA.refl _
   ·exact ⟨rfl,rfl,rfl,by rw [Lib.bytesWorld_size];omega,fun j hj=>Lib.bytesWorld_at_old w _ _ j hj⟩⟩
 go_enter func203,ntmps203
 go_wp2_with fail;refine o_ HP ?_;intro w1 HE1;clear HP;go_wp2_with fail;go_ret2;exact ⟨rfl,HE1⟩
theorem L1_ (u v:Nat) (w:World) (hu:(aE u).size<=18) (hv:(aE v).size<=18) :
  oX 167 #[.string (aE u),.string (aE v)] w (.tuple #[.int .u64 u,.int .u64 v,.bool true]):=by
 have hb:∀ x:Nat,(aE x).size<=18->x<18446744073709551616:=by
  intro x hx;rw [dn] at hx;have h1:=Lib.lt_pow_nDigits x;have h2:10^Lib.nDigits x<=10^18:=Nat.pow_le_pow_right (by omega) hx;rw [show (10:Nat)^18=1000000000000000000 by decide] at h2;omega
 have H1:Hid (∀ W,oX 203 #[.string (aE u)] W (.tuple #[.int .u64 u,.bool true])):=fun W=>N1_ u W (hb u hu) (by omega);have H2:Hid (∀ W,oX 203 #[.string (aE v)] W (.tuple #[.int .u64 v,.bool true])):=fun W=>N1_ v W (hb v hv) (by omega);have q1:decide (18<((aE u).size:Int))=false:=oS (by omega);have q2:decide (18<((aE v).size:Int))=false:=oS (by omega);clear hb
 go_enter func167,ntmps167
 go_wp2_with fail;refine o_ (H1 _) ?_;intro w1 HE1;clear H1;go_wp2_with fail;refine p_ (H2 _) (aA.trans HE1) ?_;intro w2 HE2;clear H2;go_wp2_with fail;go_ret3;exact ⟨rfl,HE2⟩
theorem z2_ (u v:Nat) (w:World) (h:18<(aE u).size\/18<(aE v).size) :
  oX 167 #[.string (aE u),.string (aE v)] w (.tuple #[.int .u64 0,.int .u64 0,.bool false]):=by
 by_cases h1:18<(aE u).size
 ·have q1:decide (18<((aE u).size:Int))=true:=oT (by omega);clear h
  go_enter func167,ntmps167
  go_wp2_with fail;go_ret3;exact ⟨rfl,aA.refl _⟩
 ·have h2:18<(aE v).size:=by omega
  have q1:decide (18<((aE u).size:Int))=false:=oS (by omega);have q2:decide (18<((aE v).size:Int))=true:=oT (by omega);clear h
  go_enter func167,ntmps167
  go_wp2_with fail;go_ret3;exact ⟨rfl,aA.refl _⟩
end Go.Proofs.YtjlkkofmojgipaaGreatDoor
namespace Go.Proofs.YtjlkkofmojgipaaGreatDoor
open Go.RowKit Go.Proofs.Tryz
theorem aG.store {S:Nat->Prop} {w w':World} (h:aG S w w') {g:Nat} (hg:S g) (i:Nat) (v:Value):aG S w (w'.setCell ⟨g,i,none⟩ v) :=
 h.trans (gj (fU w' g i v) (fun k hk=>by cases hk;exact hg))
structure iH (p q:List Nat) (n i k c b:Nat) (L:List Nat):Prop where
 len:L.length=p.length
 pcs:aM L
 lt:c<1000000000
 le:b<=1
 low:L.take i=p.take i
 rest:L.drop (i+k)=p.drop (i+k)
 val:lv L+n*(pB i*lv (q.take k))=lv p+(c+b)*pB (i+k)
theorem iH.start {p q:List Nat} {n i:Nat} (hp:aM p):iH p q n i 0 0 0 p :=
 ⟨rfl,hp,by omega,by omega,rfl,rfl,by rw [List.take_zero,ck];simp⟩
theorem L6_ (L:List Nat) (a b:Nat) (h:b=a+1):L.drop b=(L.drop a).drop 1:=by rw [List.drop_drop,h]
theorem M2_ {L:List Nat} {i j x:Nat} (h:i<=j):(L.set j x).take i=L.take i:=List.take_set_of_le h
theorem iH.step {p q L:List Nat} {n i k c b x y c' b' m:Nat} (h:iH p q n i k c b L) (hx:L[i+k]?=some x) (hm:lv (q.take (k+1))=lv (q.take k)+pB k*m) (hc:c'=c+n*m) (hcl:c' / 1000000000<1000000000) (hy:y<1000000000) (hb:b'<=1)
  (he:y+c'%1000000000+b=x+b'*1000000000):iH p q n i (k+1) (c' / 1000000000) b' (L.set (i+k) y):=by
 refine ⟨by rw [List.length_set];exact h.len,h.pcs.set _ _ hy,hcl,hb,by rw [M2_ (by omega)];exact h.low,?_,?_⟩;·rw [List.drop_set_of_lt (by omega),L6_ L (i+k) (i+(k+1)) (by omega),L6_ p (i+k) (i+(k+1)) (by omega),h.rest]
 ·have:=Z1n (P:=pB (i+k)) (P':=pB (i+k+1)) (p:=lv L) (q:=pB i*lv (q.take k)) (n:=n) (c:=c) (b:=b) (x:=x) (y:=y) (qk:=m) (old:=lv p) (ew _) h.val c' b' (lv (L.set (i+k) y)) (pB i*lv (q.take (k+1))) hc he (na y hx) (by rw [hm,lA];grind);exact this
theorem iH.done {p q L:List Nat} {n i c b:Nat} (h:iH p q n i (q.length+1) c b L) (hc:c=0):il p q n i L b:=by
 subst hc;have hv:=h.val;rw [List.take_of_length_le (by omega),Nat.zero_add] at hv;exact ⟨h.len,h.pcs,h.low,by rw [show i+q.length+1=i+(q.length+1) by omega];exact h.rest,hv,h.le⟩
structure iC (p q:List Nat) (i k c:Nat) (L:List Nat):Prop where
 len:L.length=p.length
 pcs:aM L
 lt:c<=2
 low:L.take i=p.take i
 rest:L.drop (i+k)=p.drop (i+k)
 val:lv L+c*pB (i+k)=lv p+pB i*lv (q.take k)
theorem iC.start {p q:List Nat} {i:Nat} (hp:aM p):iC p q i 0 0 p :=
 ⟨rfl,hp,by omega,rfl,rfl,by rw [List.take_zero,ck];simp⟩
theorem iC.step {p q L:List Nat} {i k c x y c' m:Nat} (h:iC p q i k c L) (hx:L[i+k]?=some x) (hm:lv (q.take (k+1))=lv (q.take k)+pB k*m) (hm9:m<1000000000) (hc:c'=c+x+m) (hy:y=c'%1000000000) :
  iC p q i (k+1) (c' / 1000000000) (L.set (i+k) y):=by
 have hxb:=h.pcs.get hx;have hlt:=h.lt;refine ⟨by rw [List.length_set];exact h.len,h.pcs.set _ _ (by omega),by omega,by rw [M2_ (by omega)];exact h.low,?_,?_⟩;·rw [List.drop_set_of_lt (by omega),L6_ L (i+k) (i+(k+1)) (by omega),L6_ p (i+k) (i+(k+1)) (by omega),h.rest]
 ·have:=U6_ (P:=pB (i+k)) (P':=pB (i+k+1)) (c:=c) (x:=x) (y:=y) (ab:=m) (acc2:=pB i*lv (q.take (k+1))) (ew _) h.val hc hy (na y hx) (by rw [hm,lA];grind);exact this
theorem iC.done {p q L:List Nat} {i c:Nat} (h:iC p q i (q.length+1) c L):kM p q i L c:=by
 have hv:=h.val;rw [List.take_of_length_le (by omega)] at hv;exact ⟨h.len,h.pcs,h.low,by rw [show i+q.length+1=i+(q.length+1) by omega];exact h.rest,hv⟩
theorem G4_ (q:List Nat):lv (q.take (q.length+1))=lv (q.take q.length)+pB q.length*0:=by
 rw [List.take_of_length_le (by omega),List.take_length];simp
theorem Z01 (B:Nat) (p q:List Nat) (n i g cap:Nat) (v:Value) (w:World) (h:aZ B w (.slice (some ⟨g,0,none⟩) p.length cap) p) (hq:∀ w',aG (·=g) w w'->cV w' v q) (hpp:aM p) (BS:aM q) (hn:n<1000000000) (hi:i+q.length<p.length) (sv:p.length<=20000000000) :
  Calls prog 173 #[.slice (some ⟨g,0,none⟩) p.length cap,v,.int .u64 n,.int .i64 i] w fun e w'=>∃ L b,e=.returned (.bool (decide (0<b)))/\aZ B w' (.slice (some ⟨g,0,none⟩) p.length cap) L/\il p q n i L b/\aG (·=g) w w':=by
 obtain ⟨a,ca,rfl,xQ,wT,-⟩:=(hq w (aG.refl _ _)).open;have HQ:Hid (∀ w',aG (·=g) w w'->∀ (k:Nat) (x:Nat),q[k]?=some x->∃ b off,a=some ⟨b,off,none⟩/\w'.cell? ⟨b,off+k,none⟩=some (.int .u64 x)):=by
  intro w' hg k x hx;obtain ⟨a',ca',e,-,-,hc⟩:=(hq w' hg).open;simp only [Value.slice.injEq] at e;obtain ⟨rfl,-,rfl⟩:=e;obtain ⟨b,off,e,-,hcell⟩:=hc (by rintro rfl;simp at hx);exact ⟨b,off,e,hcell k x hx⟩
 have HO:=oA h;have HQP:=oA BS;have HK0:=oA (iH.start (q:=q) (n:=n) (i:=i) hpp);obtain ⟨n',AP⟩:=oc p.length;rw [<- AP] at HO hi sv |-;have HN:=oA AP;clear h hq hpp BS AP
 go_enter func173,ntmps173
 go_wp2_with fail
 go_loopw [9,10,11] (fun bb c t wr=>∃ (k cc b:Nat) (L:List Nat),k<=q.length+1/\t=.int .i64 k/\c=.int .u64 cc/\bb=.int .i64 b/\cc<1000000000/\b<=1/\Hid (aG (·=g) w wr)/\Hid (aZ B wr (.slice (some ⟨g,0,none⟩) n' cap) L)/\Hid (iH p q n i k cc b L)/\Hid (k=q.length+1->cc=0)) (fun _ _ t _=>q.length+1-(intOf t).toNat)
 case atStart=>exact ⟨0,0,0,p,by omega,rfl,rfl,rfl,by omega,by omega,aG.refl _ _,HO,HK0,fun _=>rfl⟩
 case round =>
  obtain ⟨k,cc,b,L,hk,rfl,rfl,rfl,qX,hb,HG,HOL,HK,HZ⟩:=hrel;obtain ⟨wo,rfl⟩:∃ wo:World,wo=wr:=⟨_,rfl⟩;clear HO HK0;by_cases hlt:k<=q.length
  ·obtain ⟨x,hx⟩:∃ x,L[i+k]?=some x:=⟨_,oB (by rw [HK.out.len,<- HN.out];omega)⟩;obtain ⟨g1,f1⟩:=HOL.get hx;have hxb:=HK.pcs.get hx;have HX:=oA hx;have hik:i+k<n':=(by omega);clear hx;by_cases hkl:k<q.length
   ·obtain ⟨z,hz⟩:∃ z,q[k]?=some z:=⟨_,oB hkl⟩;obtain ⟨bq,oq,rfl,g2⟩:=HQ wo HG k z hz;have hzb:=HQP.get hz;have hm:=p5_ hn hzb;obtain ⟨m,hmm⟩:∃ m,n*z=m:=⟨_,rfl⟩;rw [hmm] at hm;have xM:(n:Int)*(z:Int)=(m:Int):=(by rw [<- hmm];exact (Int.natCast_mul _ _).symm);obtain ⟨c',qp⟩:=oc (cc+m);have D9:(cc:Int)+(m:Int)=(c':Int):=(by omega);obtain ⟨r,hr⟩:=oc (c'%1000000000);obtain ⟨d,hd⟩:=oc (c' / 1000000000);have qJ:(c':Int)%1000000000=(r:Int):=(by omega);have rm:(c':Int) / 1000000000=(d:Int):=(by omega);have sN:d<1000000000:=(by omega);have Cr:c'<1000000000000000000:=(by omega);have AI:r<1000000000:=(by omega);have zY:¬ k+1=q.length+1:=(by omega);have HST:Hid (∀ y b',y<1000000000->b'<=1->y+r+b=x+b'*1000000000->iH p q n i (k+1) d b' (L.set (i+k) y)):=fun y b' hy qY he=>by
     rw [hd];exact HK.step HX (iz hz) (by rw [qp,hmm]) (by omega) hy qY (by rw [<- hr];exact he)
    clear hz hmm qp hr hd;by_cases hneg:(x:Int)-(r:Int)-(b:Int)<0
    ·obtain ⟨y,hy⟩:∃ y:Nat,(x:Int)-(r:Int)-(b:Int)+1000000000=(y:Int):=⟨((x:Int)-(r:Int)-(b:Int)+1000000000).toNat,by omega⟩;have hyb:y<1000000000:=(by omega);have HS2:=oA (HST y 1 hyb (by omega) (by omega));have HO2:=oA (HOL.set (i+k) y);have HG2:=oA (HG.store rfl (i+k) (.int .u64 y));go_wp2_with fail;go_roundw
     case rel=>exact ⟨k+1,d,1,_,by omega,by go_num,rfl,rfl,sN,by omega,HG2,HO2,HS2,fun e=>absurd e zY⟩
     case measure=>simp [intOf];omega
    ·obtain ⟨y,hy⟩:∃ y:Nat,(x:Int)-(r:Int)-(b:Int)=(y:Int):=⟨((x:Int)-(r:Int)-(b:Int)).toNat,by omega⟩;have hyb:y<1000000000:=(by omega);have HS2:=oA (HST y 0 hyb (by omega) (by omega));have HO2:=oA (HOL.set (i+k) y);have HG2:=oA (HG.store rfl (i+k) (.int .u64 y));go_wp2_with fail;go_roundw
     case rel=>exact ⟨k+1,d,0,_,by omega,by go_num,rfl,rfl,sN,by omega,HG2,HO2,HS2,fun e=>absurd e zY⟩
     case measure=>simp [intOf];omega
   ·obtain rfl:q.length=k:=(by omega);have qJ:(cc:Int)%1000000000=(cc:Int):=(by omega);have rm:(cc:Int) / 1000000000=0:=(by omega);have HST:Hid (∀ y b',y<1000000000->b'<=1->y+cc+b=x+b'*1000000000->iH p q n i (q.length+1) 0 b' (L.set (i+q.length) y)):=fun y b' hy qY he=>by
     have:=HK.step HX (G4_ q) (c':=cc) (by simp) (by omega) hy qY (by rw [Nat.mod_eq_of_lt qX];exact he);rw [Nat.div_eq_of_lt qX] at this;exact this
    by_cases hneg:(x:Int)-(cc:Int)-(b:Int)<0
    ·obtain ⟨y,hy⟩:∃ y:Nat,(x:Int)-(cc:Int)-(b:Int)+1000000000=(y:Int):=⟨((x:Int)-(cc:Int)-(b:Int)+1000000000).toNat,by omega⟩;have hyb:y<1000000000:=(by omega);have HS2:=oA (HST y 1 hyb (by omega) (by omega));have HO2:=oA (HOL.set (i+q.length) y);have HG2:=oA (HG.store rfl (i+q.length) (.int .u64 y));go_wp2_with fail;go_roundw
     case rel=>exact ⟨q.length+1,0,1,_,by omega,by go_num,rfl,rfl,by omega,by omega,HG2,HO2,HS2,fun _=>rfl⟩
     case measure=>simp [intOf]
    ·obtain ⟨y,hy⟩:∃ y:Nat,(x:Int)-(cc:Int)-(b:Int)=(y:Int):=⟨((x:Int)-(cc:Int)-(b:Int)).toNat,by omega⟩;have hyb:y<1000000000:=(by omega);have HS2:=oA (HST y 0 hyb (by omega) (by omega));have HO2:=oA (HOL.set (i+q.length) y);have HG2:=oA (HG.store rfl (i+q.length) (.int .u64 y));go_wp2_with fail;go_roundw
     case rel=>exact ⟨q.length+1,0,0,_,by omega,by go_num,rfl,rfl,by omega,by omega,HG2,HO2,HS2,fun _=>rfl⟩
     case measure=>simp [intOf]
  ·have HK2:Hid (il p q n i L b):=by
    obtain rfl:k=q.length+1:=(by omega);exact HK.done (HZ rfl)
   go_wp2_with fail;go_ret;exact ⟨L,b,by first | rfl | simp,HOL,HK2,HG⟩
theorem f7_ (B:Nat) (p q:List Nat) (i g cap:Nat) (v:Value) (w:World) (h:aZ B w (.slice (some ⟨g,0,none⟩) p.length cap) p) (hq:∀ w',aG (·=g) w w'->cV w' v q) (hpp:aM p) (BS:aM q) (hi:i+q.length<p.length) (sv:p.length<=20000000000) :
  Calls prog 170 #[.slice (some ⟨g,0,none⟩) p.length cap,v,.int .i64 i] w fun e w'=>∃ L c,e=.returned (.tuple #[])/\aZ B w' (.slice (some ⟨g,0,none⟩) p.length cap) L/\kM p q i L c/\aG (·=g) w w':=by
 obtain ⟨a,ca,rfl,xQ,wT,-⟩:=(hq w (aG.refl _ _)).open;have HQ:Hid (∀ w',aG (·=g) w w'->∀ (k:Nat) (x:Nat),q[k]?=some x->∃ b off,a=some ⟨b,off,none⟩/\w'.cell? ⟨b,off+k,none⟩=some (.int .u64 x)):=by
  intro w' hg k x hx;obtain ⟨a',ca',e,-,-,hc⟩:=(hq w' hg).open;simp only [Value.slice.injEq] at e;obtain ⟨rfl,-,rfl⟩:=e;obtain ⟨b,off,e,-,hcell⟩:=hc (by rintro rfl;simp at hx);exact ⟨b,off,e,hcell k x hx⟩
 have HO:=oA h;have HQP:=oA BS;have HK0:=oA (iC.start (q:=q) (i:=i) hpp);obtain ⟨n',AP⟩:=oc p.length;rw [<- AP] at HO hi sv |-;have HN:=oA AP;clear h hq hpp BS AP
 go_enter func170,ntmps170
 go_wp2_with fail
 go_loopw [6,7] (fun c t wr=>∃ (k cc:Nat) (L:List Nat),k<=q.length+1/\t=.int .i64 k/\c=.int .u64 cc/\cc<=2/\Hid (aG (·=g) w wr)/\Hid (aZ B wr (.slice (some ⟨g,0,none⟩) n' cap) L)/\Hid (iC p q i k cc L)) (fun _ t _=>q.length+1-(intOf t).toNat)
 case atStart=>exact ⟨0,0,p,by omega,rfl,rfl,by omega,aG.refl _ _,HO,HK0⟩
 case round =>
  obtain ⟨k,cc,L,hk,rfl,rfl,qX,HG,HOL,HK⟩:=hrel;obtain ⟨wo,rfl⟩:∃ wo:World,wo=wr:=⟨_,rfl⟩;clear HO HK0;by_cases hlt:k<=q.length
  ·obtain ⟨x,hx⟩:∃ x,L[i+k]?=some x:=⟨_,oB (by rw [HK.out.len,<- HN.out];omega)⟩;obtain ⟨g1,f1⟩:=HOL.get hx;have hxb:=HK.pcs.get hx;have HX:=oA hx;have hik:i+k<n':=(by omega);clear hx;by_cases hkl:k<q.length
   ·obtain ⟨z,hz⟩:∃ z,q[k]?=some z:=⟨_,oB hkl⟩;obtain ⟨bq,oq,rfl,g2⟩:=HQ wo HG k z hz;have hzb:=HQP.get hz;obtain ⟨c',qp⟩:∃ c',c'=cc+x+z:=⟨_,rfl⟩;have D9:(cc:Int)+(x:Int)+(z:Int)=(c':Int):=(by omega);obtain ⟨r,hr⟩:=oc (c'%1000000000);obtain ⟨d,hd⟩:=oc (c' / 1000000000);have qJ:(c':Int)%1000000000=(r:Int):=(by omega);have rm:(c':Int) / 1000000000=(d:Int):=(by omega);have sN:d<=2:=(by omega);have HS2:Hid (iC p q i (k+1) d (L.set (i+k) r)):=by
     unfold Hid;rw [hd];exact HK.step HX (iz hz) hzb qp hr
    have HO2:=oA (HOL.set (i+k) r);have HG2:=oA (HG.store rfl (i+k) (.int .u64 r));clear hz qp hr hd;go_wp2_with fail;go_roundw
    case rel=>exact ⟨k+1,d,_,by omega,by go_num,rfl,sN,HG2,HO2,HS2⟩
    case measure=>simp [intOf];omega
   ·obtain rfl:q.length=k:=(by omega);obtain ⟨c',qp⟩:=oc (cc+x);have D9:(cc:Int)+(x:Int)=(c':Int):=(by omega);obtain ⟨r,hr⟩:=oc (c'%1000000000);obtain ⟨d,hd⟩:=oc (c' / 1000000000);have qJ:(c':Int)%1000000000=(r:Int):=(by omega);have rm:(c':Int) / 1000000000=(d:Int):=(by omega);have sN:d<=2:=(by omega);have HS2:Hid (iC p q i (q.length+1) d (L.set (i+q.length) r)):=by
     unfold Hid;rw [hd];exact HK.step HX (G4_ q) (by omega) (by omega) hr
    have HO2:=oA (HOL.set (i+q.length) r);have HG2:=oA (HG.store rfl (i+q.length) (.int .u64 r));clear qp hr hd;go_wp2_with fail;go_roundw
    case rel=>exact ⟨q.length+1,d,_,by omega,by go_num,rfl,sN,HG2,HO2,HS2⟩
    case measure=>simp [intOf]
  ·have HK2:Hid (kM p q i L cc):=by
    obtain rfl:k=q.length+1:=(by omega);exact HK.done
   go_wp2_with fail;refine bodyPost_end (results_none rfl _ _ _) rfl ⟨L,cc,rfl,HOL,HK2,HG⟩
theorem aG.belowE {S:Nat->Prop} {w w':World} {B:Nat} (h:aG S w w') (hS:∀ k,S k->B<=k) (hB:B<=w.heap.size):Below B w w' :=
 ⟨h.os,h.tape,h.output,h.size,fun k hk=>h.block k (by omega) (fun hs=>by have:=hS k hs;omega)⟩
theorem aZ.grownS {S:Nat->Prop} {B:Nat} {w w':World} {g n cap:Nat} {l:List Nat} (h:aZ B w (.slice (some ⟨g,0,none⟩) n cap) l) (hg:aG S w w') (hS:¬ S g):aZ B w' (.slice (some ⟨g,0,none⟩) n cap) l:=by
 refine ⟨h.1,?_⟩;rcases h.2 with ⟨e,_⟩ | ⟨g',cap',cur,e,hb,sM,rest⟩
 ·cases e
 ·simp only [Value.slice.injEq,Option.some.injEq,Addr.mk.injEq] at e;obtain ⟨⟨rfl,-,-⟩,-,rfl⟩:=e;exact .inr ⟨g,cap,cur,by rw [h.len],hb,(hg.block g (Array.getElem?_eq_some_iff.1 sM).1 hS).trans sM,rest⟩
structure fA (N n bv V k:Nat) (A O:List Nat):Prop where
 la:A.length=N
 pa:aM A
 lo:O.length=N-n
 po:aM O
 lt:lv (A.drop k)<bv
 val:lv A+bv*(pB k*lv (O.drop k))=V
theorem fA.start {A:List Nat} {N n bv V:Nat} (hA:aM A) (hl:A.length=N) (hn:n<=N) (qB:1<=n) (hz:A[N-1]?=some 0) (hb:pB (n-1)<=bv) (hV:lv A=V):fA N n bv V (N-n) A (List.replicate (N-n) 0):=by
 refine ⟨hl,hA,by simp,aM.zeros _,?_,?_⟩
 ·have h1:(A.drop (N-n))[n-1]?=some 0:=by rw [oU,show N-n+(n-1)=N-1 by omega];exact hz
  have hd:(A.drop (N-n)).drop (n-1+1)=[]:=List.drop_eq_nil_of_le (by rw [List.length_drop];omega);rw [gE (A.drop (N-n)) (n-1) (by rw [List.length_drop];omega),eu h1,hd,ck];simp only [Nat.mul_zero,Nat.add_zero];have:=eX ((hA.drop (N-n)).take (n-1));rw [oG,List.length_drop,Nat.min_eq_left (by omega)] at this;omega
 ·rw [List.drop_eq_nil_of_le (by simp),ck,Nat.mul_zero,Nat.mul_zero,Nat.add_zero,hV]
structure mZ (W bv t s high a2:Nat):Prop where
 hb:∃ L bl,bv=(t*1000000000+s)*L+bl/\bl<L/\∃ wl,W=(high*1000000000+a2)*L+wl/\wl<L
 ht:0<t
 hs:s<1000000000
 ha2:a2<1000000000
 hbv:0<bv
 hW:W<1000000000*bv
theorem fA.knuth {A O b:List Nat} {N n m bv V j t s a0 a1 a2:Nat} (h:fA N n bv V (j+1) A O) (hb:ah b) (ry:b.length=n) (Ey:n=m+2) (hbv:lv b=bv) (hj:j+n<N) (ht:b[m+1]?=some t) (hs:b[m]?=some s)
  (h0:A[j+n]?=some a0) (h1:A[j+n-1]?=some a1) (h2:A[j+n-2]?=some a2):mZ (lv (A.drop j)) bv t s (a0*1000000000+a1) a2:=by
 subst Ey;have B5:t≠0:=hb.2 t (by rw [ry];exact ht);have yo:bv<pB (m+2):=by rw [<- hbv,<- ry];exact eX hb.1
 have hz:=q0_ h.lt yo;have e1:=Z66 ry ht hs;have e2:=Z3v (A:=A) (m:=m) (i:=j) (a0:=a0) (a1:=a1) (a2:=a2) (by rw [<- h0];congr 1) (by rw [<- h1];congr 1) (by rw [<- h2];congr 1) (by rw [show j+m+3=j+(m+2)+1 by omega];exact hz);have l1:=eX (hb.1.take m);rw [oG,Nat.min_eq_left (by omega)] at l1;have l2:=eX ((h.pa.drop j).take m);rw [oG,List.length_drop,Nat.min_eq_left (by have:=h.la;omega)] at l2;have tO:0<bv:=by have:=h.lt;omega
 refine ⟨⟨pB m,_,hbv▸e1,l1,_,e2,l2⟩,by omega,hb.1.get hs,h.pa.get h2,tO,?_⟩;have hx:A[j]?=some (A[j]'(by have:=h.la;omega)):=oB _;have hxb:=h.pa.get hx;rw [eu hx];have:=h.lt;omega
theorem fA.no {A O A' b:List Nat} {N n bv V j g:Nat} (h:fA N n bv V (j+1) A O) (hT:il A b g j A' 0) (ry:b.length=n) (hbv:lv b=bv) (hj:j+n<N) (hg:lv (A.drop j) / bv<=g) (qP:g<1000000000):fA N n bv V j A' (O.set j g):=by
 have tO:0<bv:=by have:=h.lt;omega
 obtain ⟨d1,d2⟩:=Z6d hT ry hbv tO (by have:=h.la;omega) h.val hg;refine ⟨hT.len.trans h.la,hT.pcs,by rw [List.length_set];exact h.lo,h.po.set _ _ qP,d1,?_⟩;rw [eu (k:=j) (x:=g) (by rw [oW,if_pos rfl,if_pos (by rw [h.lo];omega)]),List.drop_set_of_lt (by omega)];exact d2
theorem fA.back {A O A' A'' b:List Nat} {N n bv V j g c:Nat} (h:fA N n bv V (j+1) A O) (hT:il A b g j A' 1) (hB:kM A' b j A'' c) (ry:b.length=n) (hbp:aM b) (hbv:lv b=bv) (hj:j+n<N) (hg:g<=lv (A.drop j) / bv+1) (qP:g<1000000000):0<g/\fA N n bv V j A'' (O.set j (g-1)):=by
 have tO:0<bv:=by have:=h.lt;omega
 have yo:bv<pB n:=by rw [<- hbv,<- ry];exact eX hbp
 obtain ⟨d0,d1,d2⟩:=Z3S hT hB ry hbv tO yo (by have:=h.la;omega) h.lt h.val hg;refine ⟨d0,hB.len.trans (hT.len.trans h.la),hB.pcs,by rw [List.length_set];exact h.lo,h.po.set _ _ (by omega),d1,?_⟩;rw [eu (k:=j) (x:=g-1) (by rw [oW,if_pos rfl,if_pos (by rw [h.lo];omega)]),List.drop_set_of_lt (by omega)];exact d2
theorem Z4M {A A' b:List Nat} {g i:Nat} (h:il A b g i A' 1) (hi:i+b.length<A.length):0<g:=by
 false_or_by_contra
 rename_i hn;have hv:=h.val;rw [show g=0 by omega,Nat.zero_mul,Nat.add_zero,Nat.one_mul] at hv;have h1:=gE A' (i+b.length+1) (by rw [h.len];omega);have h2:=gE A (i+b.length+1) (by omega);have h3:=eX (h.pcs.take (i+b.length+1));rw [oG,h.len,Nat.min_eq_left (by omega)] at h3;rw [h.high] at h1;omega
structure ik (W bv t high g r:Nat):Prop where
 ge:W / bv<=g
 eq:g*t+r=high
theorem ik.start {W bv t s high a2:Nat} (h:mZ W bv t s high a2):ik W bv t high (high / t) (high%t):=by
 obtain ⟨L,bl,e1,h1,wl,e2,h2⟩:=h.hb;refine ⟨Z43 e1 e2 h.ha2 h2 h.ht rfl,?_⟩;rw [Nat.mul_comm];exact Nat.div_add_mod _ _
theorem ik.less {W bv t s high a2 g r:Nat} (k:mZ W bv t s high a2) (h:ik W bv t high g r) (hc:1000000000<=g\/r*1000000000+a2<g*s):ik W bv t high (g-1) (r+t)/\0<g:=by
 obtain ⟨L,bl,e1,h1,wl,e2,h2⟩:=k.hb;obtain ⟨d1,d2⟩:=Z0A e1 e2 h2 k.hbv k.hW h.ge h.eq hc;refine ⟨⟨d1,?_⟩,d2⟩;have:=h.eq;obtain ⟨g',rfl⟩:∃ g',g=g'+1:=⟨g-1,by omega⟩;rw [Nat.add_sub_cancel];rw [Nat.add_mul,Nat.one_mul] at this;omega
theorem ik.done {W bv t s high a2 g r:Nat} (k:mZ W bv t s high a2) (h:ik W bv t high g r) (hg:g<1000000000) (hc:1000000000<=r\/g*s<=r*1000000000+a2):g<=W / bv+1:=by
 obtain ⟨L,bl,e1,h1,wl,e2,h2⟩:=k.hb;exact Z2f e1 e2 h1 k.ht k.hs h.eq hg hc
theorem Z4y (t:Nat):(1000000000:Int) / ((t:Int)+1)=((1000000000 / (t+1):Nat):Int):=by
 rw [Int.natCast_ediv,Int.natCast_add];rfl
theorem Z21 {t:Nat} (ht:t<1000000000):0<1000000000 / (t+1)/\1000000000 / (t+1)<=1000000000 :=
 ⟨Nat.div_pos (by omega) (by omega),Nat.div_le_self _ _⟩
theorem Z0x (p q:List Nat) (u v:Value) (w:World) (hu:cV w u p) (hv:cV w v q) (hp:ah p) (hq:ah q) (zS:2<=q.length) (BS:q.length<=p.length) (sv:p.length<=4000000000) :
  Calls prog 194 #[u,v] w fun e w'=>∃ r1 l1 r2 l2,e=.returned (.tuple #[r1,r2])/\Hid (aZ w.heap.size w' r1 l1/\ah l1/\lv l1=lv p / lv q/\l1.length<=p.length+2)/\Hid (aZ w.heap.size w' r2 l2/\ah l2/\lv l2=lv p%lv q/\l2.length<=p.length+2)/\aA w w':=by
 obtain ⟨a,ca,rfl,xQ,wT,qS⟩:=hu.open;obtain ⟨b,cb,rfl,hlb,wR,hcv⟩:=hv.open;obtain ⟨bq,oq,rfl,hbq,Cq⟩:=hcv (by rintro rfl;simp at zS);have HP:=oA hp;have HQ:=oA hq;have HU:=oA hu;have HV:=oA hv;obtain ⟨i0,hi,pJ,hz1,hz2⟩:=info_parts jU;have HI:=oA hi;have HZ0:=oA pJ;have HZ1:=oA hz1;have HZ2:=oA hz2;obtain ⟨t,ht⟩:∃ t,q[q.length-1]?=some t:=⟨_,oB (by omega)⟩;have gt:=Cq _ t ht;have htb:=hq.1.get ht;have B5:0<t:=by have:=hq.2 t ht;omega
 have i1:(1:Int)<=(q.length:Int):=by omega
 have i2:1<=q.length:=by omega
 obtain ⟨f,hf⟩:=oc (1000000000 / (t+1));have rK:0<f:=by rw [hf];exact (Z21 htb).1
 have FY:f<1000000000:=by
  rw [hf];have:1000000000 / (t+1)<=1000000000 / 2:=Nat.div_le_div_left (by omega) (by omega);omega
 have vD:(1000000000:Int) / ((t:Int)+1)=(f:Int):=by rw [hf];exact Z4y t
 have BT:((t:Int)+1 == 0)=false:=by rw [beq_eq_false_iff_ne];omega
 have HS1:=oA (B8_ p f _ w hu hp.1 FY rK (by omega));clear hi pJ hz1 hz2 hu hv qS hcv hp hq Cq ht hf
 go_enter func194,ntmps194
 have HS2:Hid (∀ W,aA w W->Calls prog 212 #[.slice (some ⟨bq,oq,none⟩) q.length cb,.int .u64 f] W fun e w'=>∃ r l,e=.returned r/\Hid (aZ W.heap.size w' r l/\ah l/\lv l=lv q*f/\l.length<=q.length+1)/\aA W w'):=fun W hE=>B8_ q f _ W (HV.ext hE) HQ.1 FY rK (by omega);go_wp2_with fail;refine HS1.mono ?_;rintro e w1 ⟨r1,l1,rfl,qN,hE1⟩;have HR1:=oA qN.out;have HB1:=oA qN.out.1.build;have HE1:=oA hE1;have AE:w.heap.size<=w1.heap.size:=hE1.size;have HLL:Hid (l1.length<100000000000):=by have:=HR1.2.2.2;unfold Hid;omega
 clear qN hE1 HS1;go_wp2_with (at_builtin;go_must (refine Z0_ _ rfl _ _ 209 rfl w.heap.size 204 (.int .u64 0) 1 8 underlying209 jU rfl (by decide) r1 pcR l1 0 #[.int .u64 0] 204 rfl HB1 rfl rfl ?_ (fun _ _=>rfl) HLL (by decide) AE ?_))
 all_goals first | (simp [Value.oneCell'];done) | skip
 intro v2 w2 zo vv hb2 hs2 _;have HE2:Hid (aA w w2):=Below.trans HE1 hb2;have HB2:=oA zo;have hlt2:=HB2.lt;clear zo vv hb2 hs2 HB1 HLL;go_wp2_with fail;refine (HS2 _ HE2).mono ?_;rintro e w3 ⟨rb,lb,rfl,AI,oz⟩;have HRB:=oA AI.out;have HE3:=oA (aA.trans HE2 oz);have HB3:=oA (aU.ext HB2 oz);have Ca:lb≠[]:=by
  have h0:=HRB.2.1.zero;intro e;have e1:=h0.2 e;have e2:=HRB.2.2.1;rw [e1] at e2;have wL:0<lv q:=by
   have:=HQ.ge (by rintro rfl;simp at zS);have:=kA (q.length-1);omega
  have:=Nat.mul_pos wL rK;omega
 obtain ⟨gb,cb',El,K2,K1,FP,FO⟩:=gF HRB.1 (List.length_pos_iff.2 Ca);subst El;unfold maxLen at FO;have HBL:Hid (2<=lb.length/\lb.length<=q.length+1):=by
  refine ⟨?_,HRB.2.2.2⟩;have h1:=ah.length_le HQ HRB.2.1 (by rw [HRB.out.2.2.1];exact Nat.le_mul_of_pos_right _ rK);omega
 have zu:Hid (bh w3 v2.ownBlock fun W=>aZ w2.heap.size W (.slice (some ⟨gb,0,none⟩) lb.length cb') lb):=by
  refine bh.owns HRB.1 (.inr ?_);intro e;have:=(hlt2 gb e.symm).2;omega
 obtain ⟨us,-,-,zU,-⟩:=id HB3;obtain ⟨g2,c2,tx,FT,K4,Cm,FR⟩:=gF zU (by rw [oV];simp);subst tx;have hg2w:=(hlt2 g2 rfl).2;have sw:(l1++[0]).length=l1.length+1:=by rw [oV];rfl
 rw [sw] at HB3 zu Cm |-;have HLL:Hid (p.length<=l1.length/\l1.length<=p.length+1):=⟨ah.length_le HP HR1.2.1 (by rw [HR1.out.2.2.1];exact Nat.le_mul_of_pos_right _ rK),HR1.2.2.2⟩;obtain ⟨N,hN⟩:=oc (l1.length+1);rw [<- hN] at HB3 zu Cm |-;have HN:=oA hN;have NN:p.length<N:=by have:=HLL.1;omega
 have La:N<=p.length+2:=by have:=HLL.2;omega
 obtain ⟨n,hn⟩:=oc lb.length;rw [<- hn] at zu FP |-;have HNB:=oA hn;have qV:2<=n:=by have:=HBL.1;omega
 have IQ:n<=N:=by have:=HBL.2;omega
 have HO3:=oA (aU.ownP HB3);clear zU us AI oz HS2 HB2 hlt2 Ca sw hN hn HBL HLL HB3 HE1 HE2;unfold maxLen at FR;go_wp2_with fail
 go_loopw [7] (fun av wr=>av=.slice (some ⟨g2,0,none⟩) N c2/\Hid (wr=w3)) (fun av _=>0)
 case atStart=>exact ⟨rfl,rfl⟩
 case round =>
  obtain ⟨rfl,HW⟩:=hrel;obtain rfl:=HW.out;have hlt:¬ N<=p.length:=by omega
  obtain ⟨M,hM⟩:=oc (N-n);have yU:(N:Int)-(n:Int)=(M:Int):=by omega
  have NO:M<=4000000002:=by omega
  have HM:=oA hM;clear hM HW;obtain ⟨w3,rfl⟩:∃ w3:World,w3=wr:=⟨_,rfl⟩;go_wp2_with (at_make;refine wpList_make_full _ rfl _ _ 209 rfl w3.heap.size 204 i0 (.int .u64 0) 1 underlying209 HI HZ0 HZ1 _ _ _ _ M rfl rfl rfl rfl ?c1 ?c2 ?c3 ?_)
  case c1=>rw [HZ2.out];omega
  case c2=>unfold maxLen;omega
  case c3=>exact oK _
  intro w4 hown oo;have hE4:=iO oo;have HOO:=oA (aZ.made hown);have HOA:=oA (HO3.ext hE4);have HE4:=oA (aA.trans HE3 hE4);have vC:w3.heap.size<w4.heap.size:=(hown.lt w3.heap.size rfl).2;have s9:Hid (∀ w',aG (fun k=>k=g2\/k=w3.heap.size) w4 w'->aZ w2.heap.size w' (.slice (some ⟨gb,0,none⟩) n cb') lb):=by
   intro w' hg;have h:=(HRB.1.ext hE4);rw [<- HNB.out] at h;exact h.grownS hg (by rintro (h1 | h1) <;> omega)
  have HD0:Hid (fA N n (lv lb) (lv p*f) M (l1++[0]) (List.replicate M 0)):=by
   unfold Hid;rw [HM.out];refine fA.start (HR1.2.1.1.append (aM.cons (by omega) aM.nil)) (by rw [oV,HN.out];rfl) IQ (by omega) ?_ ?_ ?_;·rw [HN.out];simp
   ·rw [HNB.out];exact HRB.2.1.ge (by rintro e;rw [e] at HNB;have:=HNB.out;simp at this;omega)
   ·rw [iT,HR1.out.2.2.1,eW,ck];simp
  clear hown oo hE4 HO3 zu;have K3:w.heap.size<=g2:=FT;have D1:n<=N:=IQ;go_wp2_with fail
  go_loopw [11] (fun i wr=>∃ (y:Int) (A O:List Nat),i=.int .i64 y/\y<M/\-2<y/\Hid (aG (fun k=>k=g2\/k=w3.heap.size) w4 wr)/\Hid (aZ w.heap.size wr (.slice (some ⟨g2,0,none⟩) N c2) A)/\Hid (aZ w3.heap.size wr (.slice (some ⟨w3.heap.size,0,none⟩) M M) O)/\Hid (∃ k:Nat,y+1=k/\fA N n (lv lb) (lv p*f) k A O)) (fun i _=>(intOf i+1).toNat)
  case atStart=>exact ⟨_,_,_,rfl,by omega,by omega,aG.refl _ _,HOA,HOO,⟨M,by omega,HD0⟩⟩
  case round =>
   obtain ⟨y,A,O,rfl,tA,qz,HG,HA,HO,HD⟩:=hrel;obtain ⟨wo,rfl⟩:∃ wo:World,wo=wr:=⟨_,rfl⟩;clear HD0 HOO HOA;by_cases ph:0<=y
   ·obtain ⟨j,rfl⟩:∃ j:Nat,y=j:=⟨y.toNat,by omega⟩;have pn:Hid (fA N n (lv lb) (lv p*f) (j+1) A O):=by
     obtain ⟨k,e,h⟩:=HD.out;have:k=j+1:=(by omega);rw [this] at h;exact h
    have xT:j+n<N:=(by have:=HM.out;omega);obtain ⟨e0,Fb⟩:=oc (j+n);obtain ⟨e1,Fa⟩:=oc (j+n-1);obtain ⟨e2,D8⟩:=oc (j+n-2);obtain ⟨b1,hb1⟩:=oc (n-1);obtain ⟨b2,hb2⟩:=oc (n-2);obtain ⟨a0,EA⟩:∃ a0,A[e0]?=some a0:=⟨_,oB (by rw [pn.out.la];omega)⟩;obtain ⟨a1,sB⟩:∃ a1,A[e1]?=some a1:=⟨_,oB (by rw [pn.out.la];omega)⟩;obtain ⟨a2,ha2⟩:∃ a2,A[e2]?=some a2:=⟨_,oB (by rw [pn.out.la];omega)⟩;obtain ⟨tt,yK⟩:∃ tt,lb[b1]?=some tt:=⟨_,oB (by have:=HNB.out;omega)⟩;obtain ⟨ss,rH⟩:∃ ss,lb[b2]?=some ss:=⟨_,oB (by have:=HNB.out;omega)⟩;obtain ⟨z,hz⟩:∃ z,O[j]?=some z:=⟨_,oB (by rw [pn.out.lo];omega)⟩;have HKN:Hid (mZ (lv (A.drop j)) (lv lb) tt ss (a0*1000000000+a1) a2):=pn.knuth (m:=b2) HRB.2.1 HNB.symm (by omega) rfl xT (by rw [show b2+1=b1 by omega];exact yK) rH (by rw [<- Fb];exact EA) (by rw [<- Fa];exact sB) (by rw [<- D8];exact ha2);have c0:=(HA.get EA).1;have c1:=(HA.get sB).1;have c2':=(HA.get ha2).1;have hbq:=s9 _ HG;have ct:=(hbq.get yK).1;have cs:=(hbq.get rH).1;have xV:(j:Int)+(n:Int)=(e0:Int):=(by omega);have sy:(e0:Int)-1=(e1:Int):=(by omega);have pg:(e0:Int)-2=(e2:Int):=(by omega);have Kz:(n:Int)-1=(b1:Int):=(by omega);have M6:(n:Int)-2=(b2:Int):=(by omega);have rJ:e0<N:=(by omega);have vt:e1<N:=(by omega);have hk2:e2<N:=(by omega);have FE:b1<n:=(by omega);have IX:b2<n:=(by omega);have hp0:=pn.pa.get EA;have hp1:=pn.pa.get sB;have hp2:=pn.pa.get ha2;have hpt:=HRB.2.1.1.get yK;have hps:=HRB.2.1.1.get rH;have htt0:=HKN.ht;obtain ⟨hg,Ib⟩:=oc (a0*1000000000+a1);rw [<- Ib] at HKN;have M7:(a0:Int)*1000000000+(a1:Int)=(hg:Int):=(by omega);have M8:hg<1000000000000000000:=(by omega);have HGS:=oA (ik.start HKN);obtain ⟨gg,sM⟩:=oc (hg / tt);obtain ⟨rr,qv⟩:=oc (hg%tt);rw [<- sM,<- qv] at HGS;have Ck:(hg:Int) / (tt:Int)=(gg:Int):=(by rw [sM];exact (Int.natCast_ediv _ _).symm);have qJ:(hg:Int)%(tt:Int)=(rr:Int):=(by rw [qv];exact (Int.natCast_emod _ _).symm);have Cl:gg<=hg:=(by rw [sM];exact Nat.div_le_self _ _);have Eh:rr<tt:=(by rw [qv];exact Nat.mod_lt _ htt0);have Mn:((tt:Int) == 0)=false:=(by rw [beq_eq_false_iff_ne];omega);have KM:¬ (tt:Int)=0:=(by omega);have HZ:=oA hz;have NU:Hid (e0=j+n/\e2=j+n-2/\b2=n-2):=⟨Fb,D8,hb2⟩;clear EA sB ha2 yK rH hbq Fb Fa D8 hb1 hb2 Ib sM qv hz;go_wp2_with fail
    go_quiet (fail)
    go_wp2_with fail
    go_quiet (fail)
    go_wp2_with fail;have HGB:Hid (∀ W,aG (fun k=>k=g2\/k=w3.heap.size) w4 W->cV W (.slice (some ⟨gb,0,none⟩) n cb') lb):=by
     intro W hW;have:=(s9 W hW).at;exact this
    go_loopw [13,14] (fun gv rv wr=>∃ g r:Nat,gv=.int .u64 g/\rv=.int .u64 r/\g<=hg/\r<=hg/\Hid (ik (lv (A.drop j)) (lv lb) tt hg g r)/\Hid (aA wo wr)) (fun gv _ _=>(intOf gv).toNat)
    case atStart=>exact ⟨gg,rr,rfl,by rw [qJ],Cl,by have:=HGS.eq;omega,HGS,by first | exact aA.drewN _ _ | exact aA.draws (aA.drewN _ _) _⟩
    case round =>
     obtain ⟨g,r,rfl,rfl,M9,Ms,G2,HEq⟩:=hrel;obtain ⟨wq,rfl⟩:∃ wq:World,wq=wr:=⟨_,rfl⟩;have d2:=HEq.cell c2';have dt:=HEq.cell ct;have ds:=HEq.cell cs;clear HGS Ck qJ Cl Eh c0 c1 c2' ct cs;obtain ⟨x1,qH⟩:=oc (g*ss);have Bw:(g:Int)*(ss:Int)=(x1:Int):=(by rw [qH];exact (Int.natCast_mul _ _).symm);obtain ⟨x2,sl⟩:=oc (r*1000000000+a2);have Bv:(r:Int)*1000000000+(a2:Int)=(x2:Int):=(by omega);have HX1:Hid (g<1000000000->x1<1000000000000000000):=by
      intro h;have:=Nat.mul_le_mul (show g<=999999999 by omega) (show ss<=999999999 by omega);omega
     by_cases vC:1000000000<=g\/(r<1000000000/\x2<x1)
     ·have HL:=oA (G2.less HKN (by rw [<- qH,<- sl];omega));have yS:0<g:=HL.2;obtain ⟨g',vS⟩:=oc (g-1);have FU:(g:Int)-1=(g':Int):=(by omega);have FV:g'<g:=(by omega);have HL2:Hid (ik (lv (A.drop j)) (lv lb) tt hg g' (r+tt)):=(by unfold Hid;rw [vS];exact HL.1);have BQ:r+tt<=hg:=by
       have:=HL2.eq;omega
      clear HL vS;have hcs:1000000000<=g\/(g<1000000000/\r<1000000000/\x2<x1):=(by omega);clear vC qH sl;rcases hcs with hb1 | ⟨hb1,hb2,pf⟩
      ·have q1:decide ((1000000000:Int)<=(g:Int))=true:=oT (by omega);have q2:decide (1000000000<=g)=true:=oT hb1;clear Bw Bv;go_wp2_with fail
       go_quiet (fail)
       go_wp2_with fail;go_roundw
       case rel=>exact ⟨g',r+tt,rfl,by first | rfl | go_num,by omega,BQ,HL2,aA.draws HEq _⟩
       case measure=>simp [intOf];omega
      ·have q1:decide ((1000000000:Int)<=(g:Int))=false:=oS (by omega);have q2:decide (1000000000<=g)=false:=oS (by omega);have q3:decide ((r:Int)<(1000000000:Int))=true:=oT (by omega);have q4:decide (r<1000000000)=true:=oT hb2;have q5:decide (x2<x1)=true:=oT pf;have hx1b:=HX1 hb1;go_wp2_with fail
       go_quiet (fail)
       go_wp2_with fail;go_roundw
       case rel=>exact ⟨g',r+tt,rfl,by first | rfl | go_num,by omega,BQ,HL2,aA.draws HEq _⟩
       case measure=>simp [intOf];omega
     ·have hcs:(g<1000000000/\1000000000<=r)\/(g<1000000000/\r<1000000000/\x1<=x2):=(by omega);have qP:g<1000000000:=(by omega);have HGE:=oA G2.ge;have HLE:Hid (g<=lv (A.drop j) / lv lb+1):=G2.done HKN qP (by rw [<- qH,<- sl];omega);have hx1b:=HX1 qP;have hjl:j+lb.length<A.length:=(by rw [pn.out.la,<- HNB.out];exact xT);have HTK:Hid (∀ W,aA wo W->Calls prog 173 #[.slice (some ⟨g2,0,none⟩) N c2,.slice (some ⟨gb,0,none⟩) n cb',.int .u64 g,.int .i64 j] W fun e w'=>∃ L b,e=.returned (.bool (decide (0<b)))/\aZ w.heap.size w' (.slice (some ⟨g2,0,none⟩) N c2) L/\il A lb g j L b/\aG (·=g2) W w'):=by
       intro W hW;have:=Z01 w.heap.size A lb g j g2 c2 (.slice (some ⟨gb,0,none⟩) n cb') W (by rw [pn.out.la];exact HA.ext hW) (fun w' hg=>HGB w' ((HG.trans (hW.grownS _)).trans (hg.weak fun k _ hk=>.inl hk))) pn.pa HRB.2.1.1 qP hjl (by rw [pn.out.la];omega);rw [pn.out.la] at this;exact this
      have HBK:Hid (∀ W A',A'.length=N->aM A'->aZ w.heap.size W (.slice (some ⟨g2,0,none⟩) N c2) A'->aG (fun k=>k=g2\/k=w3.heap.size) w4 W->Calls prog 170 #[.slice (some ⟨g2,0,none⟩) N c2,.slice (some ⟨gb,0,none⟩) n cb',.int .i64 j] W fun e w'=>∃ L c,e=.returned (.tuple #[])/\aZ w.heap.size w' (.slice (some ⟨g2,0,none⟩) N c2) L/\kM A' lb j L c/\aG (·=g2) W w'):=by
       intro W A' hl rZ ho hW;have:=f7_ w.heap.size A' lb j g2 c2 (.slice (some ⟨gb,0,none⟩) n cb') W (by rw [hl];exact ho) (fun w' hg=>HGB w' (hW.trans (hg.weak fun k _ hk=>.inl hk))) rZ HRB.2.1.1 (by rw [hl,<- HNB.out];exact xT) (by rw [hl];omega);rw [hl] at this;exact this
      clear vC qH sl hjl;rcases hcs with ⟨hb1,hb2⟩ | ⟨hb1,hb2,pf⟩
      case' inl =>
       have q1:decide ((1000000000:Int)<=(g:Int))=false:=oS (by omega);have q2:decide (1000000000<=g)=false:=oS (by omega);have q3:decide ((r:Int)<(1000000000:Int))=false:=oS (by omega);have q4:decide (r<1000000000)=false:=oS (by omega);have q5:True:=trivial
      case' inr =>
       have q1:decide ((1000000000:Int)<=(g:Int))=false:=oS (by omega);have q2:decide (1000000000<=g)=false:=oS (by omega);have q3:decide ((r:Int)<(1000000000:Int))=true:=oT (by omega);have q4:decide (r<1000000000)=true:=oT (by omega);have q5:decide (x2<x1)=false:=oS (by omega)
      all_goals
       go_wp2_with fail
       go_quiet (fail)
       go_wp2_with fail;refine (HTK _ (aA.draws HEq _)).mono ?_;rintro e w6 ⟨A',bo,rfl,IN,hT,sI⟩;have HT:=oA hT;have HG6:=oA ((HG.trans ((aA.draws HEq _).grownS _)).trans (sI.weak fun k _ hk=>Or.inl hk));have CV:¬ w3.heap.size=g2:=by omega
       have xJ:¬ g2=w3.heap.size:=(by omega);have HO6:=oA ((HO.ext (aA.draws HEq _)).grownS sI CV);have HA6:=oA IN;have HBO:Hid (bo<=1):=hT.le;clear IN hT sI HTK d2 dt ds q1 q2 q3 q4 q5 Bw Bv
       match bo,HBO with
       | 0,_ =>
        have HD6:=oA (pn.no HT HNB.symm rfl xT HGE qP);obtain ⟨cz,fz⟩:=HO6.get HZ;have HO7:=oA (HO6.set j g);have HA7:=oA (HA6.grownS ((aG.refl (·=w3.heap.size) w6).store rfl j (.int .u64 g)) xJ);have HG7:=oA (HG6.store (.inr rfl) j (.int .u64 g));have HD7:Hid (∃ k:Nat,((j:Int)-1)+1=k/\fA N n (lv lb) (lv p*f) k A' (O.set j g)):=⟨j,by omega,HD6⟩;clear HBK HD6 HO6 HA6 HG6 HBO;go_wp2_with fail;go_roundw
        case rel=>exact ⟨_,A',O.set j g,rfl,by omega,by omega,HG7,HA7,HO7,HD7⟩
        case measure=>simp [intOf]
       | 1,_ =>
        have yS:0<g:=Z4M HT (by rw [pn.out.la,<- HNB.out];exact xT);obtain ⟨g',vS⟩:=oc (g-1);have FU:(g:Int)-1=(g':Int):=(by omega);have FV:g'<1000000000:=(by omega);have HGP:=oA vS;have HBB:=oA (HBK _ A' (HT.len.trans pn.la) HT.pcs HA6 HG6);clear vS HBK HBO;go_wp2_with fail;refine HBB.mono ?_;rintro e w7 ⟨A'',co,rfl,CO,hB,BV⟩;have HD6:=oA (pn.back HT hB HNB.symm HRB.2.1.1 rfl xT HLE qP).2;rw [<- HGP.out] at HD6;have HG7:=oA (HG6.trans (BV.weak fun k _ hk=>Or.inl hk));have HO7:=oA (HO6.grownS BV CV);have HA7:=oA CO;clear hB CO BV HBB HO6 HA6 HG6;obtain ⟨cz,fz⟩:=HO7.get HZ;have HO8:=oA (HO7.set j g');have HA8:=oA (HA7.grownS ((aG.refl (·=w3.heap.size) w7).store rfl j (.int .u64 g')) xJ);have HG8:=oA (HG7.store (.inr rfl) j (.int .u64 g'));have HD7:Hid (∃ k:Nat,((j:Int)-1)+1=k/\fA N n (lv lb) (lv p*f) k A'' (O.set j g')):=⟨j,by omega,HD6⟩;clear HD6 HO7 HA7 HG7;go_wp2_with fail;go_roundw
        case rel=>exact ⟨_,A'',O.set j g',rfl,by omega,by omega,HG8,HA8,HO8,HD7⟩
        case measure=>simp [intOf]
       | bo+2,h=>exact absurd h.out (by omega)
   ·have BH:Hid (fA N n (lv lb) (lv p*f) 0 A O):=by
     obtain ⟨k,e,h⟩:=HD.out;have:k=0:=(by omega);rw [this] at h;exact h
    have HTA:=oA (kJ w.heap.size A _ wo HA BH.pa);have HEW:Hid (aA w wo):=Below.trans HE4 (HG.belowE (B:=w.heap.size) (by rintro k (hk | hk) <;> omega) HE4.size);have hv:=BH.val;have hl:=BH.lt;rw [List.drop_zero,mI,Nat.one_mul] at hv;rw [List.drop_zero] at hl;have wL:0<lv q:=by
     have:=HQ.ge (by rintro rfl;simp at zS);have:=kA (q.length-1);omega
    have HEND:=oA (Z5p rfl HRB.2.2.1 wL rK hv hl);clear hv hl;go_wp2_with fail;refine HTA.mono ?_;rintro e w5 ⟨ra,la,rfl,II,kk,rfl⟩;have HRA:=oA II.out;have HSM:=oA (n1_ la f ra _ HRA.1.at HRA.2.1.1 FY rK (by have:=HRA.2.2.2;rw [BH.out.la] at this;omega));clear II HTA;go_wp2_with fail;refine HSM.mono ?_;rintro e w6 ⟨rs,ls,rfl,rT,ou⟩;have HRS:=oA rT.out;have HE6:=oA (aA.trans (aA.draws HEW kk) ou);have HO6:=oA (HO.ext (aA.trans (aA.drewN wo kk) ou));have HTO:=oA (kJ w3.heap.size O _ w6 HO6 BH.po);clear rT HSM;go_wp2_with fail;refine HTO.mono ?_;rintro e w7 ⟨rt,lt',rfl,BQ,k7,rfl⟩;have HRT:=oA BQ.out;clear BQ HTO;go_wp2_with fail;go_ret2;refine ⟨rt,lt',rs,ls,rfl,⟨HRT.1.base (by omega),HRT.2.1,HRT.2.2.1.trans HEND.1,?_⟩,⟨((HRS.1.base ?_).ext (aA.drewN _ _)),HRS.2.1,?_,?_⟩,aA.draws HE6 _⟩;·have:=HRT.2.2.2;rw [BH.out.lo] at this;omega
    ·have:=HEW.size;simpa using this
    ·rw [HRS.out.2.2.1,HRA.out.2.2.1,HEND.out.2,Nat.mul_div_cancel _ rK]
    ·have:=HRS.2.2.2;have:=HRA.2.2.2;rw [BH.out.la] at this;omega
theorem R8_ (k:Nat):(Builtin.zeroCells (Value.int .u64 0).cells k).toList=(List.replicate k (0:Nat)).map pcV:=by
 have e:(Value.int .u64 0).cells=#[Value.int .u64 0]:=rfl;rw [e];apply List.ext_getElem?;intro i;simp only [Builtin.zeroCells,oF,List.getElem?_replicate];by_cases h:i<k <;> simp [h,pcV,Nat.mod_one]
theorem J5_ {B:Nat} {w:World} (l:List Nat) (k old:Nat) (hb:B<=w.heap.size) (hm:l.length+k<=maxLen) (row:Option Nat) :
  aZ B (w.drew.alloc (.cells ((l.map pcV).toArray++Builtin.zeroCells (Value.int .u64 0).cells k++Builtin.zeroCells (Value.int .u64 0).cells (grownCap w (l.length+k) old 204-(l.length+k))) 204))
   (.slice (some ⟨w.heap.size,0,none⟩) (l.length+k) (grownCap w (l.length+k) old 204)) (l++List.replicate k 0) /\
  w.grownBy (w.drew.alloc (.cells ((l.map pcV).toArray++Builtin.zeroCells (Value.int .u64 0).cells k++Builtin.zeroCells (Value.int .u64 0).cells (grownCap w (l.length+k) old 204-(l.length+k))) 204)) row:=by
 have hge:=grownCap_ge w (l.length+k) old 204;have hcm:=grownCap_le_maxLen w (l.length+k) old 204 hm;refine ⟨⟨by simp,.inr ⟨w.heap.size,_,_,by simp,hb,heap_alloc_new w.drew _,by simpa using hge,hcm,?_,?_⟩⟩,((aA.drew w).trans (aA.alloc _ _)).grown row⟩
 ·simp only [Array.size_append,List.size_toArray,size_zeroCells,List.length_map];show l.length+k*1+_*1=_*1;omega
 ·simp only [Array.toList_append,R8_];have:(l++List.replicate k 0).length*1=(l.map pcV++(List.replicate k 0).map pcV).length:=by simp
  rw [this,List.map_append];exact List.take_left
theorem Z6_ {P:Program} (w:World) (B:Nat) (t tn ty:TypeId) (i:TypeInfo) (kn:IntKind) (ht:P.underlying t=some (.slice 204)) (B3:P.underlying tn=some (.int kn)) (hi:P.info? 204=some i) (hz:i.zero=some (.int .u64 0)) (hs:i.size=1) (hby:i.bytes=8)
  (v:Value) (l:List Nat) (h:aZ B w v l) (k:Nat) (hl:l.length<=100000000000) (hk:k<=100000000000) (hb:B<=w.heap.size) :
  ∃ v' w',(Builtin.append_ #[t,tn] ty #[v,.int .i64 k]).run P w=.ok v' w'/\aZ B w' v' (l++List.replicate k 0)/\w.grownBy w' v.ownBlock/\(v'.ownBlock=v.ownBlock\/v'.ownBlock=some w.heap.size):=by
 have hw:IntKind.i64.wrap (k:Int)=k:=by rw [IntKind.wrap_i64];omega
 have hneg:¬ ((k:Int)<0):=by omega
 have Hz:IntKind.i64.wrap 0=0:=by rw [IntKind.wrap_i64];rfl
 have GR:¬ (281474976710656<(k:Int)*8):=by omega
 rcases h.2 with ⟨rfl,hn⟩ | ⟨g,cap,cur,rfl,hbg,hg,Mx,hcm,hcs,zO⟩
 ·have hx:l=[]:=List.length_eq_zero_iff.1 hn;subst hx;by_cases rJ:k=0
  ·subst rJ;refine ⟨.slice none 0 0,w,?_,aZ.nil B w,World.grownBy.refl _ _,.inl rfl⟩;simp [Builtin.append_,run_underlying ht,run_underlying B3,sizeOf,typeInfo,hi,asInt,asIntOf,Hz,hs,hby]
  ·have hr:=Lib.run_append_nil_zeros (P:=P) w t tn ty 204 i (.int .u64 0) .i64 kn ht B3 hi hz k (by omega) (by omega) (by omega) (by rw [hby];omega);have hgr:=J5_ (B:=B) (w:=w) [] k 0 hb (by simp [maxLen];omega) (Value.ownBlock (.slice none 0 0));simp only [List.length_nil,Nat.zero_add,List.map_nil,List.nil_append,Array.empty_append] at hgr;exact ⟨_,_,hr,hgr.1,hgr.2,.inr rfl⟩
 ·rw [Nat.mul_one] at hcs zO;by_cases xB:l.length+k<=cap
  ·have hst:=run_storeCells_at P g l.length 204 ((List.replicate k (0:Nat)).map pcV) 0 cur w hg (by simp;omega) (by intro u hu;simp [pcV] at hu;rw [hu.2];rfl);simp only [Nat.add_zero] at hst;have hr:(Builtin.append_ #[t,tn] ty #[.slice (some ⟨g,0,none⟩) l.length cap,.int .i64 k]).run P w=.ok (.slice (some ⟨g,0,none⟩) (l.length+k) cap) (w.setRow g (cur.toList.take l.length++(List.replicate k (0:Nat)).map pcV++cur.toList.drop (l.length+((List.replicate k (0:Nat)).map pcV).length)).toArray):=by
    by_cases rJ:k=0
    ·subst rJ;simp [Builtin.append_,run_underlying ht,run_underlying B3,sizeOf,typeInfo,hi,asInt,asIntOf,Hz,hs,hby,xB,Addr.add_lit];simp at hst;have:l.length<=cap:=(by omega);simp [hst,this]
    ·have hzz:(Builtin.zeroCells (Value.int .u64 0).cells k).toList=(List.replicate k (0:Nat)).map pcV:=R8_ k;simp [Builtin.append_,run_underlying ht,run_underlying B3,sizeOf,typeInfo,zeroValue,hi,hz,asInt,asIntOf,hw,hs,hby,xB,Addr.add_lit,hneg,GR,rJ];rw [hzz];simp at hst;simp [hst]
   refine ⟨_,_,hr,⟨by simp,.inr ⟨g,cap,_,by simp,hbg,setRow_heap w g cur _ 204 _ hg,by simpa using xB,hcm,?_,?_⟩⟩,⟨rfl,rfl,rfl,by simp,fun k hk _=>setRow_other w g k _ (fun e=>by simp_all [Value.ownBlock])⟩,.inl rfl⟩
   ·simp only [List.size_toArray,oV,oG,List.length_drop,Array.length_toList,List.length_map,List.length_replicate];omega
   ·rw [zO,Nat.mul_one];have:(l++List.replicate k 0).length=(l.map pcV++(List.replicate k 0).map pcV).length:=(by simp);rw [this,List.map_append];exact List.take_left
  ·have hold:(Builtin.firstCells i.size l.length (.slice (some ⟨g,0,none⟩) l.length cap)).run P w.drew=.ok (l.map pcV).toArray w.drew:=by
    refine run_firstCells_some (P:=P) w.drew i.size l.length ⟨g,0,none⟩ l.length cap (l.map pcV) (by simp [hs]) ?_;intro j u hu;have:=World.ownsRow.cells h (g:=g) rfl j u hu;simpa using this
   have hr:=Lib.run_append_grow_zeros (P:=P) w t tn ty 204 i (.int .u64 0) .i64 kn ht B3 hi hz (some ⟨g,0,none⟩) l.length cap (l.map pcV) hold k (by omega) (by omega) (by omega) (by omega) (by rw [hby];omega) (growslice_fits (by omega) (by rw [hby];omega));have hgr:=J5_ (B:=B) (w:=w) l k cap hb (by simp [maxLen];omega) (Value.ownBlock (.slice (some ⟨g,0,none⟩) l.length cap));exact ⟨_,_,hr,hgr.1,hgr.2,.inr rfl⟩
theorem S2_ (u:Nat):1<=(aE u).size:=by rw [dn];exact Lib.nDigits_pos u
theorem jB (u k:Nat) (h:u<10^k) (hk:1<=k):(aE u).size<=k:=by rw [dn];exact kx u k h hk
theorem mG (u:Nat):((aE u).toList == [48])=decide (u=0):=by
 rw [jA,show ([48]:List UInt8)=Lib.decDigits 0 by rw [Lib.decDigits_one (by omega)];rfl,T2_]
theorem Z4_ (u v:Nat) (w:World) (hu:(aE u).size<=10000000000) (hv:(aE v).size<=10000000000) :
  oY 121 #[.string (aE u),.string (aE v)] w (.int .i64 (bg u v)):=by
 have s1:=dn u;have s2:=dn v;by_cases hl:(aE u).size=(aE v).size
 ·have sW:(((aE u).size:Int) != ((aE v).size:Int))=false:=by simp [hl]
  have q1:Op.bytesLess (aE u).toList (aE v).toList=decide (u<v):=by rw [jA,jA];exact c1_ u v (by omega)
  have q2:Op.bytesLess (aE v).toList (aE u).toList=decide (v<u):=by rw [jA,jA];exact c1_ v u (by omega)
  have q3:((aE u).toList == (aE v).toList)=decide (u=v):=by rw [jA,jA];exact T2_ u v
  have HC:Hid (bg u v=if u<v then -1 else if u=v then 0 else 1):=rfl;clear s1 s2 hl;rcases Nat.lt_trichotomy u v with h | h | h
  ·rw [oT h] at q1;rw [if_pos h] at HC;rw [HC.out];clear q2 q3 HC h
   go_enter func121,ntmps121
   go_wp2_with fail;go_ret;exact ⟨rfl,rfl⟩
  ·have hn:¬ u<v:=(by omega);rw [oS hn] at q1;rw [oT h] at q3;rw [if_neg hn,if_pos h] at HC;rw [HC.out];clear q2 HC h hn
   go_enter func121,ntmps121
   go_wp2_with fail;go_ret;exact ⟨rfl,rfl⟩
  ·have hn:¬ u<v:=(by omega);have qV:¬ u=v:=(by omega);rw [oS hn] at q1;rw [oS qV] at q3;rw [if_neg hn,if_neg qV] at HC;rw [HC.out];clear q2 HC h hn qV
   go_enter func121,ntmps121
   go_wp2_with fail;go_ret;exact ⟨rfl,rfl⟩
 ·have sW:(((aE u).size:Int) != ((aE v).size:Int))=true:=by simp;omega
  rcases Nat.lt_or_gt_of_ne hl with h | h
  ·have HC:Hid (bg u v=-1):=by
    unfold Hid bg;rw [if_pos (P3_ (by omega))]
   rw [HC.out];clear HC hl
   go_enter func121,ntmps121
   go_wp2_with fail;go_ret;exact ⟨(show Ending.returned (.int .i64 (min 1 (max (-1) ((Lib.nDigits u:Int)-(Lib.nDigits v:Int)))))=_ from Z37 (by omega)),rfl⟩
  ·have HC:Hid (bg u v=1):=by
    have:=P3_ (u:=v) (v:=u) (by omega);unfold Hid bg;rw [if_neg (by omega),if_neg (by omega)]
   rw [HC.out];clear HC hl
   go_enter func121,ntmps121
   go_wp2_with fail;go_ret;exact ⟨(show Ending.returned (.int .i64 (min 1 (max (-1) ((Lib.nDigits u:Int)-(Lib.nDigits v:Int)))))=_ from Z37 (by omega)),rfl⟩
theorem X7_ {w:World} {ops:Array Oper} {rest:List Oper} {o:Oper} {a:Act} {Q:Exit->Act->World->Prop} (pq:o.guard=none)
  (s x:Operand) (ho:o.op=Op.call { callee:=Callee.builtin Builtin.append,args:=#[s,x],argTypes:=#[209,209] }) (B:Nat)
  (v:Value) (l:List Nat) (y:Nat) (C:Array Value) (hs:a.eval s=v) (hO:aZ B w v l)
  (hx:a.eval x=.slice (some ⟨w.heap.size,0,none⟩) 1 1) (hC:C=#[pcV y]) (hlen:l.length<100000000000) (o6:B<=w.heap.size)
  (h:∀ v' w',aZ B w' v' (l++[y])->w.grownBy w' v.ownBlock->(v'.ownBlock=v.ownBlock\/v'.ownBlock=some (w.heap.size+1))->wpList prog ops Q rest (a.put o.dst v') w') :
  wpList prog ops Q (o::rest) a (w.alloc (.cells C 204)):=by
 subst hC;obtain ⟨i,hi,hz,o9,hby⟩:=info_parts jU;have pU:∀ j,(⟨w.heap.size,0,none⟩:Addr).add j=⟨w.heap.size,j,none⟩:=by intro j;unfold Addr.add;split <;> simp_all
 refine wpList_plain pq fun K hK=>?_;refine ig (w.alloc (.cells #[pcV y] 204)) s x 209 ho B 204 i (.int .u64 0) 1 8 underlying209 hi hz o9 hby rfl (by decide) v l.length (l.map pcV) hs (World.ownsRow.alloc hO _) ⟨w.heap.size,0,none⟩ 1 1 [pcV y] hx rfl ?_ (by intro u hu;simp at hu;rw [hu];rfl) ?_ ?_ ?_ ?_
 ·intro j q hq;rw [pU,World.cell?_alloc_new];simpa using hq
 ·unfold maxLen;omega
 ·omega
 ·simp;omega
 ·intro v' w' hown oo _ qF;refine hK _ _ (h v' w' ?_ (gA (World.grownBy_alloc w _ v.ownBlock) oo) ?_);·unfold aZ;rw [oV,List.map_append];exact hown
  ·simpa using qF
theorem aZ.kept {B:Nat} {w w':World} {v:Value} {l:List Nat} {r:Option Nat} (h:aZ B w v l) (hg:w.grownBy w' r) (hne:v.ownBlock=none\/v.ownBlock≠r):aZ B w' v l:=World.ownsRow.kept h hg hne
theorem aZ.lt {B:Nat} {w:World} {v:Value} {l:List Nat} (h:aZ B w v l):∀ b,v.ownBlock=some b->B<=b/\b<w.heap.size:=World.ownsRow.lt h
theorem Z2B (l:List Nat) (k:Nat):lv (l++List.replicate k 0)=lv l:=by rw [iT,x6_];simp
theorem aM.pad {l:List Nat} (h:aM l) (k:Nat):aM (l++List.replicate k 0):=h.append (aM.zeros k)
theorem Z3G {X Y L:List Nat} {c:Nat} (hB:kM X Y 0 L c) (hX:X.length=Y.length+1) (hx:lv X<pB Y.length) (hy:aM Y):lv L=lv X+lv Y:=by
 have hv:=hB.val;rw [mI,Nat.one_mul,Nat.zero_add,ew] at hv;have h2:=eX hy;have hp:=kA Y.length;cases c with
 | zero=>omega
 | succ c =>
  exfalso;rw [Nat.succ_mul] at hv;omega
theorem Z3t {X Y L:List Nat} {b:Nat} (hT:il X Y 1 0 L b) (hX:X.length=Y.length+1) (hle:lv Y<=lv X):lv L=lv X-lv Y/\b=0:=by
 have hv:=hT.val;rw [mI,Nat.one_mul,Nat.one_mul,Nat.zero_add] at hv;have h2:=eX hT.pcs;rw [hT.len,hX] at h2;have hb:=hT.le
 match b with
 | 0=>omega
 | 1=>omega
 | b+2=>omega
theorem iv (u:Nat) (w:World) (hs:(aE u).size<=6000000000) :
  Calls prog 169 #[.string (aE u)] w fun e w'=>∃ v l,e=.returned v/\Hid (aZ w.heap.size w' v l/\ah l/\lv l=u/\l.length<=(aE u).size)/\aA w w':=by
 have:=Z5m (aE u) w (by rw [fM];exact gL u) (by omega);rw [fM,fy] at this;exact this
theorem iW {u:Nat} (h:(aE u).size<=18):u<1000000000000000000:=by
 rw [dn] at h;have h1:=Lib.lt_pow_nDigits u;have h2:10^Lib.nDigits u<=10^18:=Nat.pow_le_pow_right (by omega) h;rw [show (10:Nat)^18=1000000000000000000 by decide] at h2;omega
theorem Z0r (u v:Nat) (w:World) (hu:(aE u).size<=3000000000) (hv:(aE v).size<=3000000000) (ht:ae w) :
  oX 123 #[.string (aE u),.string (aE v)] w (.string (aE (u*v))):=by
 have HT:=oA ht;clear ht;by_cases hs:(aE u).size+(aE v).size<=18
 ·have hp1:=S2_ u;have hp2:=S2_ v;have HB:=oA (L1_ u v w (by omega) (by omega));have hm:u*v<18446744073709551616:=by
   have h:=nj u v;have:=iW (u:=u*v) (by omega);omega
  obtain ⟨m,hmm⟩:=oZ (u*v);rw [hmm] at hm |-;have xM:(u:Int)*(v:Int)=(m:Int):=by rw [<- hmm];exact (Int.natCast_mul _ _).symm
  have HO:Hid (∀ W,aA w W->oX 168 #[.int .u64 m] W (.string (aE m))):=fun W hW=>nA m W hm (HT.ext hW);clear hmm hp1 hp2
  go_enter func123,ntmps123
  go_wp2_with fail;refine o_ HB ?_;intro w1 HE1;clear HB;go_wp2_with fail;refine p_ (HO _ HE1) (aA.trans HE1) ?_;intro w2 HE2;clear HO;go_wp2_with fail;go_ret;exact ⟨rfl,HE2⟩
 ·have HC1:=oA (iv u w (by omega));have HC2:Hid (∀ W,Calls prog 169 #[.string (aE v)] W fun e w'=>∃ r l,e=.returned r/\Hid (aZ W.heap.size w' r l/\ah l/\lv l=v/\l.length<=(aE v).size)/\aA W w'):=fun W=>iv v W (by omega)
  go_enter func123,ntmps123
  go_wp2_with fail;refine HC1.mono ?_;rintro e w1 ⟨v1,l1,rfl,h1,hE1⟩;have HL1:=oA h1.out;have HE1:=oA hE1;clear h1 hE1 HC1;go_wp2_with fail;refine (HC2 _).mono ?_;rintro e w2 ⟨v2,l2,rfl,h2,hE2⟩;have HL2:=oA h2.out;have HE2:=oA (aA.trans HE1 hE2);have HM:=oA (m2_ l1 l2 v1 v2 w2 (cV.ext HL1.1.at hE2) HL2.1.at HL1.2.1.1 HL2.2.1.1 (by have:=HL1.2.2.2;omega) (by have:=HL2.2.2.2;omega));clear h2 hE2 HC2;go_wp2_with fail;refine HM.mono ?_;rintro e w3 ⟨v3,l3,rfl,h3,oz⟩;have HL3:=oA h3.out;have HE3:=oA (aA.trans HE2 oz);have HX:=mW l3 v3 w3 HL3.1.at HL3.2.1 (by have:=HL3.2.2.2;have:=HL1.2.2.2;have:=HL2.2.2.2;omega);rw [HL3.out.2.2.1,HL1.out.2.2.1,HL2.out.2.2.1] at HX;have HX:=oA HX;clear h3 oz HM;go_wp2_with fail;refine p_ HX (aA.trans HE3) ?_;intro w4 HE4;clear HX;go_wp2_with fail;go_ret;exact ⟨rfl,HE4⟩
theorem E5_ (u v:Nat) (w:World) (hu:(aE u).size<=3000000000) (hv:(aE v).size<=3000000000) (ht:ae w) :
  oX 120 #[.string (aE u),.string (aE v)] w (.string (aE (u+v))):=by
 have HT:=oA ht;clear ht;by_cases hs:(aE u).size<=18/\(aE v).size<=18
 ·have HB:=oA (L1_ u v w hs.1 hs.2);have h1:=iW hs.1;have h2:=iW hs.2;obtain ⟨m,hmm⟩:=oZ (u+v);have hm:m<18446744073709551616:=by omega
  rw [hmm];have xM:(u:Int)+(v:Int)=(m:Int):=by omega
  have HO:Hid (∀ W,aA w W->oX 168 #[.int .u64 m] W (.string (aE m))):=fun W hW=>nA m W hm (HT.ext hW);clear hmm
  go_enter func120,ntmps120
  go_wp2_with fail;refine o_ HB ?_;intro w1 HE1;clear HB;go_wp2_with fail;refine p_ (HO _ HE1) (aA.trans HE1) ?_;intro w2 HE2;clear HO;go_wp2_with fail;go_ret;exact ⟨rfl,HE2⟩
 ·have HB:=oA (z2_ u v w (by omega));have HC1:Hid (∀ W,Calls prog 169 #[.string (aE u)] W fun e w'=>∃ r l,e=.returned r/\Hid (aZ W.heap.size w' r l/\ah l/\lv l=u/\l.length<=(aE u).size)/\aA W w'):=fun W=>iv u W (by omega);have HC2:Hid (∀ W,Calls prog 169 #[.string (aE v)] W fun e w'=>∃ r l,e=.returned r/\Hid (aZ W.heap.size w' r l/\ah l/\lv l=v/\l.length<=(aE v).size)/\aA W w'):=fun W=>iv v W (by omega);obtain ⟨i0,hi,pJ,hz1,hz2⟩:=info_parts jU;have HI:=oA hi;have HZ0:=oA pJ;have HZ1:=oA hz1;have HZ2:=oA hz2;clear hi pJ hz1 hz2 hs
  go_enter func120,ntmps120
  go_wp2_with fail;refine o_ HB ?_;intro w0 HE0;clear HB;go_wp2_with fail;refine (HC1 _).mono ?_;rintro e w1 ⟨v1,l1,rfl,h1,hE1⟩;have HL1:=oA h1.out;have HE1:=oA (aA.trans HE0 hE1);have hb1:w.heap.size<=w0.heap.size:=HE0.size;clear h1 hE1 HC1;go_wp2_with fail;refine (HC2 _).mono ?_;rintro e w2 ⟨v2,l2,rfl,h2,hE2⟩;have HL2:=oA h2.out;have HE2:=oA (aA.trans HE1 hE2);have hb2:w.heap.size<=w1.heap.size:=HE1.size;have vd:Hid (∀ b,v1.ownBlock=some b->v2.ownBlock≠some b):=fun b hb qY=>by
   have k1:=(HL1.1.lt b hb).2;have k2:=(HL2.1.lt b qY).1;omega
  have HO1:=oA ((HL1.1.ext hE2).base hb1);have HO2:=oA (HL2.1.base hb2);obtain ⟨a1,c1,hv1,sG,pK,-⟩:=HO1.form;obtain ⟨a2,c2,tx,sw,hc2,-⟩:=HO2.form;have xP:l1.length<=3000000000:=by have:=HL1.2.2.2;omega
  have xO:l2.length<=3000000000:=by have:=HL2.2.2.2;omega
  clear h2 hE2 HC2;have vj:w.heap.size<=w2.heap.size:=HE2.size;subst hv1;subst tx;have DZ:Hid (∃ lX lY vX vY:_,∃ aX cX aY cY,vX=Value.slice aX (List.length lX) cX/\vY=Value.slice aY (List.length lY) cY/\aZ w.heap.size w2 vX lX/\aZ w.heap.size w2 vY lY/\ah lX/\ah lY/\lY.length<=lX.length):=by
   by_cases h:l1.length<l2.length;·exact ⟨l2,l1,_,_,a2,c2,a1,c1,rfl,rfl,HO2,HO1,HL2.2.1,HL1.2.1,by omega⟩
   ·exact ⟨l1,l2,_,_,a1,c1,a2,c2,rfl,rfl,HO1,HO2,HL1.2.1,HL2.2.1,by omega⟩
  clear DZ;by_cases hlt:l1.length<l2.length
  case' pos =>
   obtain ⟨aX,rfl⟩:=oc a2;obtain ⟨cX,rfl⟩:=oc c2;obtain ⟨lX,rfl⟩:=oc l2;obtain ⟨aY,rfl⟩:=oc a1;obtain ⟨cY,rfl⟩:=oc c1;obtain ⟨lY,rfl⟩:=oc l1;have HX:=HO2;have HY:=HO1;have HCX:=oA HL2.2.1;have HCY:=oA HL1.2.1;have HN:Hid (∀ b,(Value.slice aX lX.length cX).ownBlock=some b->(Value.slice aY lY.length cY).ownBlock≠some b):=fun b hb qY=>vd b qY hb;have HV:Hid (lv lX+lv lY=u+v):=by unfold Hid;rw [HL1.out.2.2.1,HL2.out.2.2.1];omega
  case' neg =>
   obtain ⟨aX,rfl⟩:=oc a1;obtain ⟨cX,rfl⟩:=oc c1;obtain ⟨lX,rfl⟩:=oc l1;obtain ⟨aY,rfl⟩:=oc a2;obtain ⟨cY,rfl⟩:=oc c2;obtain ⟨lY,rfl⟩:=oc l2;have HX:=HO1;have HY:=HO2;have HCX:=oA HL1.2.1;have HCY:=oA HL2.2.1;have HN:Hid (∀ b,(Value.slice aX lX.length cX).ownBlock=some b->(Value.slice aY lY.length cY).ownBlock≠some b):=vd;have HV:Hid (lv lX+lv lY=u+v):=by unfold Hid;rw [HL1.out.2.2.1,HL2.out.2.2.1]
  all_goals
   have NJ:lY.length<=lX.length:=(by omega);have HLX:Hid (lX.length<100000000000):=(by unfold Hid;omega);clear HL1 HL2 vd HO1 HO2;go_wp2_with (at_builtin;go_must (refine X7_ rfl _ _ rfl w.heap.size (.slice aX lX.length cX) lX 0 #[.int .u64 0] rfl HX rfl rfl HLX vj ?_));intro v3 w3 An tJ yq;have HY3:=oA (HY.kept tJ (by cases hb:(Value.slice aY lY.length cY).ownBlock with | none=>exact .inl rfl | some b=>exact .inr fun e=>HN b e.symm hb));have HNN:Hid (∀ b,v3.ownBlock=some b->(Value.slice aY lY.length cY).ownBlock≠some b):=by
    intro b hb qY;rcases yq with h | h;·exact HN b (h▸hb) qY
    ·rw [h] at hb;have:=(HY.lt b qY).2;cases hb;omega
   have HE3:Hid (aA w w3):=Below.trans HE2 (c:=w3) ⟨tJ.os,tJ.tape,tJ.output,tJ.size,fun k hk=>tJ.block k (by omega) fun e=>by have:=(HX.lt k e.symm).1;omega⟩;obtain ⟨a3,c3,ET,yj,Ae,xY⟩:=An.form;obtain ⟨g3,rfl,AZ,FQ⟩:=xY (by simp);subst ET;have HO3:=oA An;have xS:(lX++[0]).length=lX.length+1:=(by simp);rw [xS] at HO3 HNN yj |-;clear An tJ yq xY xS;obtain ⟨kz,zY⟩:=oc (lX.length-lY.length);have E9:(lX.length:Int)-(lY.length:Int)=(kz:Int):=(by omega);obtain ⟨v4,w4,vN,I8,yk,Cw⟩:=Z6_ (P:=prog) w3 w.heap.size 209 3 209 i0 .i64 underlying209 underlying3 HI HZ0 HZ1 HZ2 (.slice aY lY.length cY) lY HY3 kz (by omega) (by omega) HE3.size;have HR4:=oA vN;have E1:¬ v4.ownBlock=some g3:=by
    intro e;rcases Cw with h | h;·exact HNN g3 rfl (h▸e)
    ·rw [h] at e;cases e;omega
   have HO4:=oA (HO3.kept yk (.inr (fun e=>HNN g3 rfl (by rw [<- e];rfl))));have HQ4:Hid (∀ W,aG (·=g3) w4 W->cV W v4 (lY++List.replicate kz 0)):=fun W hW =>
    (I8.kept (r:=some g3) ⟨hW.os,hW.tape,hW.output,hW.size,fun k hk hne=>hW.block k hk (fun e=>hne (by rw [e]))⟩ (by cases hb:v4.ownBlock with | none=>exact .inl rfl | some b=>exact .inr (fun e=>E1 (by rw [hb,e])))).at
   have HE4:Hid (aA w w4):=Below.trans HE3 (c:=w4) ⟨yk.os,yk.tape,yk.output,yk.size,fun k hk=>yk.block k (by have:=HE3.size;omega) fun e=>by have:=(HY3.lt k e.symm).1;omega⟩;have hlq:(lY++List.replicate kz 0).length=lX.length:=(by simp;omega);have HBK:=f7_ w.heap.size (lX++[0]) (lY++List.replicate kz 0) 0 g3 c3 v4 w4 (by rw [oV];exact HO4) HQ4 (HCX.1.append (aM.cons (by omega) aM.nil)) (HCY.1.pad kz) (by rw [hlq];simp) (by simp;omega);have xR:(lX++[0]).length=lX.length+1:=(by simp);rw [xR] at HBK;clear xR;have HBK:=oA HBK;have HLQ:=oA hlq;clear vN I8 yk Cw zY hlq;go_wp2_with (at_builtin;go_must (refine Lib.wpList_append_run _ rfl _ _ 209 3 rfl (.slice aY lY.length cY) (.int .i64 kz) rfl rfl v4 w4 HR4 ?_));refine HBK.mono ?_;rintro e w5 ⟨L,c,rfl,CP,hB,pS⟩;have HE5:Hid (aA w w5):=Below.trans HE4 (pS.belowE (B:=w.heap.size) (by rintro k rfl;exact AZ) HE4.size);have Ge:Hid (lv L=u+v):=by
    have h:=Z3G hB (by rw [HLQ.out];simp) (by rw [iT,HLQ.out];have:=eX HCX.1;simpa [lv] using this) (HCY.1.pad kz);unfold Hid;rw [h,Z2B,iT,eW,ck,<- HV.out];simp
   have HTR:=oA (kJ w.heap.size L _ w5 CP hB.pcs);have HLL:Hid (L.length<=3000000001):=(by unfold Hid;rw [hB.len];simp;omega);clear CP hB pS HBK HR4 HQ4 HO4 HO3;go_wp2_with fail;refine HTR.mono ?_;rintro e w6 ⟨v6,l6,rfl,h6,kk,rfl⟩;have H6:=oA h6.out;have HX6:=mW l6 v6 _ H6.1.at H6.2.1 (by have:=H6.2.2.2;have:=HLL.out;omega);rw [H6.out.2.2.1,Ge.out] at HX6;have HX6:=oA HX6;clear h6 HTR;go_wp2_with fail;refine p_ HX6 (aA.trans (aA.draws HE5 kk)) ?_;intro w7 HE7;clear HX6;go_wp2_with fail;go_ret;exact ⟨rfl,HE7⟩
theorem Q4_ (u v:Nat) (w:World) (hu:(aE u).size<=3000000000) (hv:(aE v).size<=3000000000) (hle:v<=u) (ht:ae w) :
  oX 122 #[.string (aE u),.string (aE v)] w (.tuple #[.string (aE (u-v)),.int .i64 0]):=by
 have HT:=oA ht;have HCM:=oA (Z4_ u v w (by omega) (by omega));have hcm:¬ bg u v<0:=by unfold bg;rw [if_neg (by omega)];split <;> omega
 obtain ⟨cm,tM⟩:=oc (bg u v);rw [<- tM] at HCM hcm;clear ht tM;by_cases hs:(aE u).size<=18/\(aE v).size<=18
 ·have HB:Hid (∀ W,oX 167 #[.string (aE u),.string (aE v)] W (.tuple #[.int .u64 u,.int .u64 v,.bool true])):=fun W=>L1_ u v W hs.1 hs.2;have h1:=iW hs.1;have h2:=iW hs.2;obtain ⟨m,hmm⟩:=oZ (u-v);have hm:m<18446744073709551616:=by omega
  rw [hmm];have xM:(u:Int)-(v:Int)=(m:Int):=by omega
  have HO:Hid (∀ W,aA w W->oX 168 #[.int .u64 m] W (.string (aE m))):=fun W hW=>nA m W hm (HT.ext hW);clear hmm
  go_enter func122,ntmps122
  go_wp2_with fail;refine q_ HCM ?_;clear HCM;go_wp2_with fail;refine o_ (HB _) ?_;intro w1 HE1;clear HB;go_wp2_with fail;refine p_ (HO _ HE1) (aA.trans HE1) ?_;intro w2 HE2;clear HO;go_wp2_with fail;go_ret2;exact ⟨rfl,HE2⟩
 ·have HB:Hid (∀ W,oX 167 #[.string (aE u),.string (aE v)] W (.tuple #[.int .u64 0,.int .u64 0,.bool false])):=fun W=>z2_ u v W (by omega);have HC1:Hid (∀ W,Calls prog 169 #[.string (aE u)] W fun e w'=>∃ r l,e=.returned r/\Hid (aZ W.heap.size w' r l/\ah l/\lv l=u/\l.length<=(aE u).size)/\aA W w'):=fun W=>iv u W (by omega);have HC2:Hid (∀ W,Calls prog 169 #[.string (aE v)] W fun e w'=>∃ r l,e=.returned r/\Hid (aZ W.heap.size w' r l/\ah l/\lv l=v/\l.length<=(aE v).size)/\aA W w'):=fun W=>iv v W (by omega);obtain ⟨i0,hi,pJ,hz1,hz2⟩:=info_parts jU;have HI:=oA hi;have HZ0:=oA pJ;have HZ1:=oA hz1;have HZ2:=oA hz2;clear hi pJ hz1 hz2 hs
  go_enter func122,ntmps122
  go_wp2_with fail;refine q_ HCM ?_;clear HCM;go_wp2_with fail;refine o_ (HB _) ?_;intro w0 HE0;clear HB;go_wp2_with fail;refine (HC1 _).mono ?_;rintro e w1 ⟨v1,l1,rfl,h1,hE1⟩;have HL1:=oA h1.out;have HE1:=oA (aA.trans HE0 hE1);have HX:=oA (h1.out.1.base HE0.size);obtain ⟨a1,c1,hv1,sG,pK,-⟩:=HX.form;have xP:l1.length<=3000000000:=by have:=HL1.2.2.2;omega
  have HLX:Hid (l1.length<100000000000):=by unfold Hid;omega
  have AE:w.heap.size<=w1.heap.size:=HE1.size;subst hv1;clear h1 hE1 HC1;go_wp2_with (at_builtin;go_must (refine X7_ rfl _ _ rfl w.heap.size (.slice a1 l1.length c1) l1 0 #[.int .u64 0] rfl HX rfl rfl HLX AE ?_));intro v3 w3 An tJ yq;have HE3:Hid (aA w w3):=Below.trans HE1 (c:=w3) ⟨tJ.os,tJ.tape,tJ.output,tJ.size,fun k hk=>tJ.block k (by omega) fun e=>by have:=(HX.lt k e.symm).1;omega⟩;obtain ⟨a3,c3,ET,yj,Ae,xY⟩:=An.form;obtain ⟨g3,rfl,AZ,FQ⟩:=xY (by simp);subst ET;have HO3:=oA An;have xS:(l1++[0]).length=l1.length+1:=by simp
  rw [xS] at HO3 yj |-;clear An tJ yq xY xS;go_wp2_with fail;refine (HC2 _).mono ?_;rintro e w4 ⟨v4,l4,rfl,h4,hE4⟩;have HL4:=oA h4.out;have HE4:=oA (aA.trans HE3 hE4);have IF:w3.heap.size<=w4.heap.size:=hE4.size;have HO4:=oA (HO3.ext hE4);clear h4 hE4 HO3;go_wp2_with fail;refine (HC2 _).mono ?_;rintro e w5 ⟨v5,l5,rfl,h5,o5⟩;have HL5:=oA h5.out;have HE5:=oA (aA.trans HE4 o5);have HO5:=oA (HO4.ext o5);have HY5:=oA (HL4.1.ext o5);have xN:l5.length=l4.length:=by
   have h1:=ah.length_le HL5.2.1 HL4.2.1 (by rw [HL5.out.2.2.1,HL4.out.2.2.1];exact oK _);have h2:=ah.length_le HL4.2.1 HL5.2.1 (by rw [HL5.out.2.2.1,HL4.out.2.2.1];exact oK _);omega
  have IU:l4.length<=l1.length:=ah.length_le HL4.2.1 HL1.2.1 (by rw [HL4.out.2.2.1,HL1.out.2.2.1];exact hle);obtain ⟨a4,c4,ES,AT,NH,-⟩:=HY5.form;obtain ⟨a5,c5,vg,Cb,NG,-⟩:=HL5.1.form;subst ES;subst vg;have HNN:Hid (∀ b,(Value.slice a4 l4.length c4).ownBlock=some b->b≠g3):=fun b hb e=>by
   have:=(HL4.1.lt b hb).1;omega
  rw [xN];obtain ⟨kz,zY⟩:=oc (l1.length-l4.length);have E9:(l1.length:Int)-(l4.length:Int)=(kz:Int):=by omega
  have Eb:w.heap.size<=w5.heap.size:=HE5.size;have HY5':=oA (HY5.base (B':=w.heap.size) (by have:=HE3.size;omega));obtain ⟨v6,w6,vM,Bd,sI,Cv⟩:=Z6_ (P:=prog) w5 w.heap.size 209 3 209 i0 .i64 underlying209 underlying3 HI HZ0 HZ1 HZ2 (.slice a4 l4.length c4) l4 HY5' kz (by omega) (by omega) Eb;have HR6:=oA vM;have E0:¬ v6.ownBlock=some g3:=by
   intro e;rcases Cv with h | h;·exact HNN g3 (h▸e) rfl
   ·rw [h] at e;cases e;have:=HE5.size;have h5:=(HO5.lt w5.heap.size rfl).2;omega
  have HO6:=oA (HO5.kept sI (.inr (fun e=>HNN g3 e.symm rfl)));have Jf:Hid (∀ W,aG (·=g3) w6 W->cV W v6 (l4++List.replicate kz 0)):=fun W hW =>
   (Bd.kept (r:=some g3) ⟨hW.os,hW.tape,hW.output,hW.size,fun k hk hne=>hW.block k hk (fun e=>hne (by rw [e]))⟩ (by cases hb:v6.ownBlock with | none=>exact .inl rfl | some b=>exact .inr (fun e=>E0 (by rw [hb,e])))).at
  have HE6:Hid (aA w w6):=Below.trans HE5 (c:=w6) ⟨sI.os,sI.tape,sI.output,sI.size,fun k hk=>sI.block k (by omega) fun e=>by have:=(HY5'.lt k e.symm).1;omega⟩;have hlq:(l4++List.replicate kz 0).length=l1.length:=by simp;omega
  have HTK:=Z01 w.heap.size (l1++[0]) (l4++List.replicate kz 0) 1 0 g3 c3 v6 w6 (by rw [oV];exact HO6) Jf (HL1.2.1.1.append (aM.cons (by omega) aM.nil)) (HL4.2.1.1.pad kz) (by omega) (by rw [hlq];simp) (by simp;omega);have xR:(l1++[0]).length=l1.length+1:=by simp
  rw [xR] at HTK;have HTK:=oA HTK;have HLQ:=oA hlq;clear vM Bd sI Cv zY hlq xR xN h5 o5 HC2;go_wp2_with (at_builtin;go_must (refine Lib.wpList_append_run _ rfl _ _ 209 3 rfl (.slice a4 l4.length c4) (.int .i64 kz) rfl rfl v6 w6 HR6 ?_));refine HTK.mono ?_;rintro e w7 ⟨L,b,rfl,CO,hT,BV⟩;have HE7:Hid (aA w w7):=Below.trans HE6 (BV.belowE (B:=w.heap.size) (by rintro k rfl;exact AZ) HE6.size);have MV:Hid (lv L=u-v):=by
   have h:=(Z3t hT (by rw [HLQ.out];simp) (by rw [Z2B,HL4.out.2.2.1,iT,HL1.out.2.2.1];omega)).1;unfold Hid;rw [h,Z2B,iT,eW,ck,HL4.out.2.2.1,HL1.out.2.2.1];simp
  have HTR:=oA (kJ w.heap.size L _ w7 CO hT.pcs);have HLL:Hid (L.length<=3000000001):=by unfold Hid;rw [hT.len];simp;omega
  clear CO hT BV HTK HR6 Jf HO6 HO5 HO4;go_wp2_with fail;refine HTR.mono ?_;rintro e w8 ⟨v8,l8,rfl,h8,kk,rfl⟩;have H8:=oA h8.out;have HX8:=mW l8 v8 _ H8.1.at H8.2.1 (by have:=H8.2.2.2;have:=HLL.out;omega);rw [H8.out.2.2.1,MV.out] at HX8;have HX8:=oA HX8;clear h8 HTR;go_wp2_with fail;refine p_ HX8 (aA.trans (aA.draws HE7 kk)) ?_;intro w9 HE9;clear HX8;go_wp2_with fail;go_ret2;exact ⟨rfl,HE9⟩
theorem s8_ (u v:Nat) (w:World) (hu:(aE u).size<=3000000000) (hv:(aE v).size<=3000000000) (tZ:v≠0) (ht:ae w) (hs:¬ ((aE u).size<=18/\(aE v).size<=18)) (hlt:u<v) :
  oX 147 #[.string (aE u),.string (aE v)] w (.tuple #[.string ⟨#[48]⟩,.string (aE u),.int .i64 0]):=by
 have HT:=oA ht;have hz:=mG v;rw [oS tZ] at hz;clear ht;have HB:=oA (z2_ u v w (by omega));clear hs;have HC1:Hid (∀ W,Calls prog 169 #[.string (aE u)] W fun e w'=>∃ r l,e=.returned r/\Hid (aZ W.heap.size w' r l/\ah l/\lv l=u/\l.length<=(aE u).size)/\aA W w'):=fun W=>iv u W (by omega);have HC2:Hid (∀ W,Calls prog 169 #[.string (aE v)] W fun e w'=>∃ r l,e=.returned r/\Hid (aZ W.heap.size w' r l/\ah l/\lv l=v/\l.length<=(aE v).size)/\aA W w'):=fun W=>iv v W (by omega)
 go_enter func147,ntmps147
 go_wp2_with fail;refine o_ HB ?_;intro w0 HE0;clear HB;go_wp2_with fail;refine (HC1 _).mono ?_;rintro e w1 ⟨v1,l1,rfl,h1,hE1⟩;have HL1:=oA h1.out;have HE1:=oA (aA.trans HE0 hE1);clear h1 hE1 HC1;go_wp2_with fail;refine (HC2 _).mono ?_;rintro e w2 ⟨v2,l2,rfl,h2,hE2⟩;have HL2:=oA h2.out;have HE2:=oA (aA.trans HE1 hE2);have HP1:=oA (cV.ext HL1.1.at hE2);have HP2:=oA HL2.1.at;have xP:l1.length<=3000000000:=by have:=HL1.2.2.2;omega
 have xO:l2.length<=3000000000:=by have:=HL2.2.2.2;omega
 have HC1':=oA HL1.2.1;have HC2':=oA HL2.2.1;have HV1:=oA HL1.2.2.1;have HV2:=oA HL2.2.2.1;obtain ⟨a1,c1,hv1,sG,pK,-⟩:=HP1.open;obtain ⟨a2,c2,tx,sw,hc2,qD⟩:=HP2.open;have tH:0<l2.length:=by
  refine List.length_pos_iff.2 fun e=>?_;have:=HC2'.zero.2 e;rw [HV2.out] at this;exact tZ this
 obtain ⟨b2,o2,rfl,-,ql⟩:=qD (List.length_pos_iff.1 tH);have HCELL:=oA ql;clear ql;subst hv1;subst tx;have hcmp:=N9_ l1 l2 _ _ w2 HP1 HP2 HC1' HC2' (by omega) (by omega);rw [HV1.out,HV2.out] at hcmp;have HCM:=oA hcmp;clear hcmp;clear h2 hE2 HC2 qD;have hcm:bg u v<0:=by rw [kW hlt];omega
 obtain ⟨cm,tM⟩:=oc (bg u v);rw [<- tM] at HCM hcm;clear tM;go_wp2_with fail;refine p_ HCM (aA.trans HE2) ?_;intro w3 HE3;clear HCM;go_wp2_with fail;go_ret3;exact ⟨rfl,HE3⟩
theorem s7_ (u v:Nat) (w:World) (hu:(aE u).size<=3000000000) (hv:(aE v).size<=3000000000) (tZ:v≠0) (ht:ae w) (hs:¬ ((aE u).size<=18/\(aE v).size<=18)) (hlt:¬ u<v) :
  oX 147 #[.string (aE u),.string (aE v)] w (.tuple #[.string (aE (u / v)),.string (aE (u%v)),.int .i64 0]):=by
 have HT:=oA ht;have hz:=mG v;rw [oS tZ] at hz;clear ht;have HB:=oA (z2_ u v w (by omega));clear hs;have HC1:Hid (∀ W,Calls prog 169 #[.string (aE u)] W fun e w'=>∃ r l,e=.returned r/\Hid (aZ W.heap.size w' r l/\ah l/\lv l=u/\l.length<=(aE u).size)/\aA W w'):=fun W=>iv u W (by omega);have HC2:Hid (∀ W,Calls prog 169 #[.string (aE v)] W fun e w'=>∃ r l,e=.returned r/\Hid (aZ W.heap.size w' r l/\ah l/\lv l=v/\l.length<=(aE v).size)/\aA W w'):=fun W=>iv v W (by omega)
 go_enter func147,ntmps147
 go_wp2_with fail;refine o_ HB ?_;intro w0 HE0;clear HB;go_wp2_with fail;refine (HC1 _).mono ?_;rintro e w1 ⟨v1,l1,rfl,h1,hE1⟩;have HL1:=oA h1.out;have HE1:=oA (aA.trans HE0 hE1);clear h1 hE1 HC1;go_wp2_with fail;refine (HC2 _).mono ?_;rintro e w2 ⟨v2,l2,rfl,h2,hE2⟩;have HL2:=oA h2.out;have HE2:=oA (aA.trans HE1 hE2);have HP1:=oA (cV.ext HL1.1.at hE2);have HP2:=oA HL2.1.at;have xP:l1.length<=3000000000:=by have:=HL1.2.2.2;omega
 have xO:l2.length<=3000000000:=by have:=HL2.2.2.2;omega
 have HC1':=oA HL1.2.1;have HC2':=oA HL2.2.1;have HV1:=oA HL1.2.2.1;have HV2:=oA HL2.2.2.1;obtain ⟨a1,c1,hv1,sG,pK,-⟩:=HP1.open;obtain ⟨a2,c2,tx,sw,hc2,qD⟩:=HP2.open;have tH:0<l2.length:=by
  refine List.length_pos_iff.2 fun e=>?_;have:=HC2'.zero.2 e;rw [HV2.out] at this;exact tZ this
 obtain ⟨b2,o2,rfl,-,ql⟩:=qD (List.length_pos_iff.1 tH);have HCELL:=oA ql;clear ql;subst hv1;subst tx;have hcmp:=N9_ l1 l2 _ _ w2 HP1 HP2 HC1' HC2' (by omega) (by omega);rw [HV1.out,HV2.out] at hcmp;have HCM:=oA hcmp;clear hcmp;clear h2 hE2 HC2 qD;have hcm:¬ bg u v<0:=by unfold bg;rw [if_neg hlt];split <;> omega
 obtain ⟨cm,tM⟩:=oc (bg u v);rw [<- tM] at HCM hcm;clear tM;have HLL:Hid (l2.length<=l1.length):=ah.length_le HC2' HC1' (by rw [HV1.out,HV2.out];omega);by_cases h1:l2.length=1
 ·obtain ⟨x,hx⟩:=List.length_eq_one_iff.1 h1;have Hu:x=v:=by have:=HV2.out;rw [hx,eW,ck] at this;omega
  rw [Hu] at hx;clear Hu;have g2:=HCELL 0 v (by rw [hx];rfl);have hxb:v<1000000000:=HC2'.1 v (by rw [hx];simp);have HSM:Hid (∀ W,aA w2 W->Calls prog 193 #[.slice a1 l1.length c1,.int .u64 v] W fun e w'=>∃ r l,e=.returned (.tuple #[r,.int .u64 ((u%v:Nat):Int)])/\Hid (aZ W.heap.size w' r l/\ah l/\lv l=u / v/\l.length<=l1.length)/\aA W w'):=fun W hW=>by
   have:=n1_ l1 v _ W (cV.ext HP1 hW) HC1'.1 hxb (by omega) (by omega);rw [HV1.out] at this;exact this
  have Kj:0<l2.length:=tH;have MQ:Hid (∀ W,aA w2 W->W.cell? ⟨b2,o2,none⟩=some (.int .u64 v)):=fun W hW=>hW.cell (by simpa using g2);obtain ⟨r,hr⟩:=oc (u%v);have Du:r<v:=by rw [hr];exact Nat.mod_lt _ (by omega)
  rw [<- hr] at HSM;have HRR:=oA hr;have HRB:=oA (show r<18446744073709551616 by omega);rw [h1] at HCM Kj sw |-;clear hx g2 hr h1 tH xO HLL;go_wp2_with fail;refine HCM.mono ?_;rintro e w3 ⟨rfl,oz⟩;have HE3:=oA (aA.trans HE2 oz);have g3:=MQ _ oz;have HSM3:=oA (HSM _ oz);clear oz HCM HSM;go_wp2_with fail;refine HSM3.mono ?_;rintro e w4 ⟨v4,l4,rfl,h4,hE4⟩;have HL4:=oA h4.out;have HE4:=oA (aA.trans HE3 hE4);have HX4:=mW l4 v4 w4 HL4.1.at HL4.2.1 (by have:=HL4.2.2.2;omega);rw [HL4.out.2.2.1] at HX4;have HX4:=oA HX4;have HOR:Hid (∀ W,aA w W->oX 168 #[.int .u64 r] W (.string (aE r))):=fun W hW=>nA r W HRB (HT.ext hW);clear h4 hE4 HSM3 g3;go_wp2_with fail;refine p_ HX4 (aA.trans HE4) ?_;intro w5 HE5;clear HX4;go_wp2_with fail;refine p_ (HOR _ HE5) (aA.trans HE5) ?_;intro w6 HE6;clear HOR;go_wp2_with fail;go_ret3;exact ⟨by rw [<- HRR.out];rfl,HE6⟩
 ·have yy:((l2.length:Int) == 1)=false:=by rw [beq_eq_false_iff_ne];omega
  have HQ2:=oA (show 2<=l2.length by omega);clear h1;have qL:Hid (∀ W,aA w2 W->Calls prog 194 #[.slice a1 l1.length c1,.slice (some ⟨b2,o2,none⟩) l2.length c2] W fun e w'=>∃ r1 m1 r2 m2,e=.returned (.tuple #[r1,r2])/\Hid (aZ W.heap.size w' r1 m1/\ah m1/\lv m1=u / v/\m1.length<=l1.length+2)/\Hid (aZ W.heap.size w' r2 m2/\ah m2/\lv m2=u%v/\m2.length<=l1.length+2)/\aA W w'):=fun W hW=>by
   have:=Z0x l1 l2 _ _ W (cV.ext HP1 hW) (cV.ext HP2 hW) HC1' HC2' HQ2 HLL (by omega);rw [HV1.out,HV2.out] at this;exact this
  go_wp2_with fail;refine HCM.mono ?_;rintro e w3 ⟨rfl,oz⟩;have HE3:=oA (aA.trans HE2 oz);have HD3:=oA (qL _ oz);clear oz HCM qL;go_wp2_with fail;refine HD3.mono ?_;rintro e w4 ⟨q1,m1,q2,m2,rfl,h4,h5,hE4⟩;have HL4:=oA h4.out;have HL5:=oA h5.out;have HE4:=oA (aA.trans HE3 hE4);have HX4:=mW m1 q1 w4 HL4.1.at HL4.2.1 (by have:=HL4.2.2.2;omega);rw [HL4.out.2.2.1] at HX4;have HX4:=oA HX4;have HX5:Hid (∀ W,aA w4 W->oX 172 #[q2] W (.string (aE (u%v)))):=fun W hW=>by
   have:=mW m2 q2 W (cV.ext HL5.1.at hW) HL5.2.1 (by have:=HL5.2.2.2;omega);rw [HL5.out.2.2.1] at this;exact this
  clear h4 h5 hE4 HD3;go_wp2_with fail;refine HX4.mono ?_;rintro e w5 ⟨rfl,o5⟩;have HE5:=oA (aA.trans HE4 o5);have HX55:=oA (HX5 _ o5);clear o5 HX4 HX5;go_wp2_with fail;refine p_ HX55 (aA.trans HE5) ?_;intro w6 HE6;clear HX55;go_wp2_with fail;go_ret3;exact ⟨rfl,HE6⟩
theorem T0_ (u v:Nat) (w:World) (hu:(aE u).size<=3000000000) (hv:(aE v).size<=3000000000) (tZ:v≠0) (ht:ae w) :
  oX 147 #[.string (aE u),.string (aE v)] w (.tuple #[.string (aE (u / v)),.string (aE (u%v)),.int .i64 0]):=by
 have HT:=oA ht;have hz:=mG v;rw [oS tZ] at hz;clear ht;by_cases hs:(aE u).size<=18/\(aE v).size<=18
 ·have HB:=oA (L1_ u v w hs.1 hs.2);have h1:=iW hs.1;have h2:=iW hs.2;obtain ⟨q,hq⟩:=oZ (u / v);obtain ⟨r,hr⟩:=oZ (u%v);have AJ:q<=u:=by rw [<- hq];exact Nat.div_le_self _ _
  have AI:r<v:=by rw [<- hr];exact Nat.mod_lt _ (by omega)
  have CF:(u:Int) / (v:Int)=(q:Int):=by rw [<- hq];exact (Int.natCast_ediv _ _).symm
  have qJ:(u:Int)%(v:Int)=(r:Int):=by rw [<- hr];exact (Int.natCast_emod _ _).symm
  have Ml:((v:Int) == 0)=false:=by rw [beq_eq_false_iff_ne];omega
  have KI:¬ (v:Int)=0:=by omega
  have HO:Hid (∀ x:Nat,x<18446744073709551616->∀ W,aA w W->oX 168 #[.int .u64 x] W (.string (aE x))):=fun x hx W hW=>nA x W hx (HT.ext hW);have Mt:IntKind.u64.wrap (q:Int)=(q:Int):=IntWalk.u64_in _ (by omega);have Mr:IntKind.u64.wrap (r:Int)=(r:Int):=IntWalk.u64_in _ (by omega);have Mu:(u:Int).tdiv (v:Int)=(q:Int):=by rw [Int.tdiv_eq_ediv_of_nonneg (by omega),CF]
  have BQ:(u:Int).tmod (v:Int)=(r:Int):=by rw [Int.tmod_eq_emod_of_nonneg (by omega),qJ]
  rw [hq,hr];have Je:Hid (q<18446744073709551616/\r<18446744073709551616):=by unfold Hid;omega
  clear hq hr
  go_enter func147,ntmps147
  go_wp2_with fail;refine o_ HB ?_;intro w1 HE1;clear HB;go_wp2_with fail;have HOQ:Hid (∀ W,aA w W->oX 168 #[.int .u64 q] W (.string (aE q))):=HO q Je.1;have HOR:Hid (∀ W,aA w W->oX 168 #[.int .u64 r] W (.string (aE r))):=HO r Je.2;have HE:Hid (aA w w1.drew):=aA.trans HE1 (aA.drew _)
  go_region_with (first
   | (go_at_call 168;with_reducible refine (HOQ.out _ HE.out).mono ?_;rintro e w5 ⟨rfl,o5⟩;have HE2:=HE;clear HE;have HE:=oA (aA.trans HE2.out o5);clear o5 HE2)
   | (go_at_call 168;with_reducible refine (HOR.out _ HE.out).mono ?_;rintro e w5 ⟨rfl,o5⟩;have HE2:=HE;clear HE;have HE:=oA (aA.trans HE2.out o5);clear o5 HE2))
  all_goals
   go_wp2_with fail;go_ret3;exact ⟨rfl,HE⟩
 ·by_cases hlt:u<v
  ·have Lb:aE 0=⟨#[48]⟩:=(by unfold aE;rw [Lib.decDigits_one (by omega)];rfl);refine (s8_ u v w hu hv tZ HT hs hlt).mono fun e w' ⟨h,hE⟩=>⟨?_,hE⟩
   rw [h,Nat.div_eq_of_lt hlt,Nat.mod_eq_of_lt hlt,Lb]
  ·exact s7_ u v w hu hv tZ HT hs hlt
end Go.Proofs.YtjlkkofmojgipaaGreatDoor
